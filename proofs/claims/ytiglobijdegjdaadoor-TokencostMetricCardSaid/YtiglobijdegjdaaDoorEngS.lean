/- The engine: slices that are read, bytes of strings. It speaks of any program. -/
import Derived.Test.YtiglobijdegjdaaDoorEngR
import Derived.Lib.ConvBytes
import Derived.Lib.AtoiErrMem
namespace Go.Proofs.YtiglobijdegjdaaDoor
open Go.RowKit Go.Shelf

/-- The bytes of a string, in a block of their own. -/
def byt (b : Nat) (e : TypeId) (s : ByteArray) : HA := fun f => ∃ cs m, f = one b (.cells cs e m) ∧ ∀ j, j < s.size → cs[j]? = some (.int .u8 ((byteAt s (j : Int)).toNat : Nat))
class FocusB (H : List HA) (b : Nat) (e : outParam TypeId) (s : outParam ByteArray) : Prop where
  at_ : ∃ i : Nat, H[i]? = some (byt b e s)
instance FocusB.head (H : List HA) (b : Nat) (e : TypeId) (s : ByteArray) : FocusB (byt b e s :: H) b e s := ⟨0, rfl⟩
instance FocusB.tail (A0 : HA) (H : List HA) (b : Nat) (e : TypeId) (s : ByteArray) [h : FocusB H b e s] : FocusB (A0 :: H) b e s := ⟨by obtain ⟨i, h1⟩ := h.at_; exact ⟨i + 1, by simpa using h1⟩⟩
def byteVals (s : ByteArray) : List Value := s.data.toList.map fun c => .int .u8 (c.toNat : Nat)
theorem byteVals_length (s : ByteArray) : (byteVals s).length = s.size := by simp [byteVals]
theorem byteAt_get (s : ByteArray) (k : Nat) (h : k < s.size) : s.data.toList[k]? = some (byteAt s (k : Int)) := by
  have h2 : k < s.data.toList.length := by simpa using h
  unfold byteAt
  rw [List.getElem?_eq_getElem h2, Int.toNat_natCast, List.getD_eq_getElem?_getD, List.getElem?_eq_getElem h2]
  rfl
theorem byteVals_get {s : ByteArray} {j : Nat} (h : j < s.size) : (byteVals s)[j]? = some (.int .u8 ((byteAt s (j : Int)).toNat : Nat)) := by
  unfold byteVals
  rw [List.getElem?_map, byteAt_get s j h]
  rfl
theorem cell_of_row' (w : World) (b off : Nat) (cs : Array Value) (e : TypeId) (m : Nat × Nat) (h : w.heap[b]? = some (.cells cs e m)) : w.cell? ⟨b, off, none⟩ = cs[off]? := cell_of_row w b off cs e m h
section
variable {C : Cx} {all : Array Oper} {o : Oper} {env : Env} {ec : EnvC} {H : List HA} {d : Nat} {Φ : Env → EnvC → List HA → Prop}
theorem rdByt {b : Nat} {e : TypeId} {s : ByteArray} [hf : FocusB H b e s] : ∀ w, Cls C.w0 w H → RdC w b 0 (byteVals s) := by
  intro w hw j u hu
  obtain ⟨i, hi⟩ := hf.at_
  obtain ⟨F, h1, h2, h3⟩ := hw.sep
  have hil : i < H.length := (List.getElem?_eq_some_iff.1 hi).1
  obtain ⟨cs, m, hF, hc⟩ := h1 i _ hi
  have hb := (h2 i b (.cells cs e m) hil (by rw [hF]; simp [one])).2
  have hj : j < s.size := by have := (List.getElem?_eq_some_iff.1 hu).1; rwa [byteVals_length] at this
  rw [byteVals_get hj] at hu
  rw [Nat.zero_add, cell_of_row w b j cs e m hb, hc j hj]
  exact hu
theorem rdSrc {A : Option Addr} {sz n : Nat} {vs : List Value} (h : Src C.w0 sz A n vs) : ∀ w, Cls C.w0 w H → Src w sz A n vs := fun w hw => ⟨h.1, fun hn => ⟨(h.2 hn).1, (h.2 hn).2.old hw⟩⟩
theorem srcByt {b : Nat} {e : TypeId} {s : ByteArray} [hf : FocusB H b e s] : ∀ w, Cls C.w0 w H → Src w 1 (some ⟨b, 0, none⟩) s.size (byteVals s) :=
  fun w hw => ⟨by rw [byteVals_length, Nat.mul_one], fun _ => ⟨rfl, rdByt (b := b) w hw⟩⟩
def evBy (S : Sig) (env : Env) (ec : EnvC) (o : Oper) : Option (TypeId × ByteArray) :=
  match o.op with
  | .convert s d x => match S.ty s, S.ty d, evX env ec [] x with
    | some ⟨.str, _, _, _⟩, some ⟨.slice e, _, _, _⟩, some (.string s) => match S.ty e with
      | some ⟨.int .u8, _, _, _⟩ => some (e, s)
      | _ => none
    | _, _, _ => none
  | _ => none
/-- The bytes of a string are laid. -/
theorem OpT.bytes {e : TypeId} {s : ByteArray} (hg : gOf all env ec o = some []) (he : evBy C.S env ec o = some (e, s)) (hd : o.dst = some d) (hN : Nat.blt d C.N.n = true) (hs : safeC all d ec = true)
    (h : ∀ b cap, Φ ((d, .slice (some ⟨b, 0, none⟩) s.size cap) :: env) ec (byt b e s :: H)) : OpT C all o env ec H Φ := by
  refine OpT.eff hg fun a w ha hw => ⟨.slice (some ⟨w.heap.size, 0, none⟩) s.size (grownCap w s.size 0 e), Lib.bytesWorld w e s, byt w.heap.size e s :: H, ?_, ?_, d, hd, hN, hs, h _ _⟩
  · obtain ⟨dst, op, ty, pos, aft, gd⟩ := o
    unfold evBy at he
    dsimp only at he
    split at he
    · rename_i ts td x
      split at he
      · rename_i q1 q2 q3 e' q4 q5 q6 s' h1 h2 hx
        split at he
        · rename_i q7 q8 q9 h3
          cases he
          have f1 := (Sig.tyOk h1).fits
          have f2 := (Sig.tyOk h2).fits
          have f3 := (Sig.tyOk h3).fits
          simp only [Ty.fits] at f1 f2 f3
          have := Lib.run_convert_string_bytes (P := C.S.P) w ts td e s f1 f2 f3
          simp only [execOp, evX_spec ha (Holds.nil _ _) hx]
          simp [this]
        · cases he
      · cases he
    · cases he
  · have hb : Below w.heap.size w (Lib.bytesWorld w e s) := Lib.bytesWorld_below w e s
    have hk : Sep w.heap.size (Lib.bytesWorld w e s) [byt w.heap.size e s] := by
      refine ⟨fun _ => one w.heap.size (.cells (Lib.bytesCells w e s) e ((Lib.bytesCells w e s).size, (Lib.bytesCells w e s).size + 1)), fun i A hi => ?_, fun i b o hi hf => ?_, fun i j b hi hj hne => ?_⟩
      · match i with
        | 0 =>
          simp at hi
          subst hi
          refine ⟨_, _, rfl, fun j hj => ?_⟩
          unfold Lib.bytesCells
          rw [Array.getElem?_append_left (by simpa using hj), Array.getElem?_map]
          have := byteAt_get s j hj
          rw [Array.getElem?_toList] at this
          rw [this]; rfl
        | i + 1 => simp at hi
      · simp only [one] at hf
        split at hf
        · rename_i e1; subst e1; injection hf with hf; subst hf
          exact ⟨Nat.le_refl _, Lib.bytesWorld_at_new w e s⟩
        · cases hf
      · simp at hi hj; omega
    have := hw.call hb hk
    exact this
end
/-! ### nil -/
def isNilC : Operand → Bool
  | .const .nilIface => true
  | _ => false
def evNil (S : Sig) (env : Env) (ec : EnvC) (G : GId) (o : Oper) : Option Value :=
  match o.op with
  | .binOp op t x y _ => match S.ty t, evX env ec G x, isNilC y with
    | some ⟨.iface, _, _, _⟩, some .nilIface, true => match op with
      | .eql => some (.bool true)
      | .neq => some (.bool false)
      | _ => none
    | some ⟨.iface, _, _, _⟩, some (.iface _ _), true => match op with
      | .eql => some (.bool false)
      | .neq => some (.bool true)
      | _ => none
    | _, _, _ => none
  | _ => none
theorem isNilC_spec {y : Operand} (h : isNilC y = true) : y = .const .nilIface := by
  unfold isNilC at h
  split at h
  · rfl
  · cases h
theorem run_equalNil {P : Program} {t : TypeId} (hf : ∃ a, P.underlying t = some (.interface a)) (w : World) : (Op.equal t .nilIface .nilIface).run P w = .ok true w := by
  obtain ⟨a, hf⟩ := hf
  show (Op.equalIn (9999 + 1) t .nilIface .nilIface).run P w = _
  rw [Op.equalIn]
  simp only [Sem.run_bind, run_underlying hf, Result.andThen_ok]
  rfl
theorem run_equalIface {P : Program} {t tp : TypeId} {p : Value} (hf : ∃ a, P.underlying t = some (.interface a)) (w : World) : (Op.equal t (.iface tp p) .nilIface).run P w = .ok false w := by
  obtain ⟨a, hf⟩ := hf
  show (Op.equalIn (9999 + 1) t (.iface tp p) .nilIface).run P w = _
  rw [Op.equalIn]
  simp only [Sem.run_bind, run_underlying hf, Result.andThen_ok]
  rfl
theorem run_nilOp {P : Program} {w : World} {t : TypeId} {x : Operand} {u : Value} {r : Bool} (hq : (Op.equal t u .nilIface).run P w = .ok r w) (hu : u = .nilIface ∨ ∃ tp p, u = .iface tp p) :
    ((do eqGuard .eql t x (.const .nilIface) u .nilIface; binOp .eql t u .nilIface : Sem Value)).run P w = .ok (.bool r) w ∧ ((do eqGuard .neq t x (.const .nilIface) u .nilIface; binOp .neq t u .nilIface : Sem Value)).run P w = .ok (.bool (!r)) w := by
  have g : ∀ op, (eqGuard op t x (.const .nilIface) u .nilIface).run P w = .ok () w := by
    intro op
    unfold eqGuard
    rcases hu with rfl | ⟨tp, p, rfl⟩
    · cases op <;> simp
    · cases op <;> simp
  have b1 : (binOp .eql t u .nilIface).run P w = .ok (.bool r) w := by
    rcases hu with rfl | ⟨tp, p, rfl⟩ <;>
    · show ((do pure (.bool (← Op.equal t _ .nilIface)) : Sem Value)).run P w = _
      rw [Sem.run_bind, hq]; rfl
  have b2 : (binOp .neq t u .nilIface).run P w = .ok (.bool (!r)) w := by
    rcases hu with rfl | ⟨tp, p, rfl⟩ <;>
    · show ((do pure (.bool (!(← Op.equal t _ .nilIface))) : Sem Value)).run P w = _
      rw [Sem.run_bind, hq]; rfl
  constructor
  · rw [Sem.run_bind, g, Result.andThen_ok, b1]
  · rw [Sem.run_bind, g, Result.andThen_ok, b2]
theorem evNil_spec {S : Sig} {N : FK} {all : Array Oper} {env : Env} {ec : EnvC} {G : GId} {o : Oper} {v : Value} {a : Act} (ha : Agrees N all env ec a) (hG : Holds all a G)
    (h : evNil S env ec G o = some v) (w : World) : (execOp a.eval o).run S.P w = .ok (.value v) w := by
  obtain ⟨dst, op, ty, pos, aft, gd⟩ := o
  unfold evNil at h
  dsimp only at h
  split at h
  · rename_i op t x y t2
    split at h
    · rename_i q1 q2 q3 ht hx hy
      have hy' := isNilC_spec hy
      subst hy'
      have hf := (Sig.tyOk ht).fits
      simp only [Ty.fits] at hf
      have he := evX_spec ha hG hx
      have h1 := run_nilOp (x := x) (run_equalNil hf w) (.inl rfl)
      have e2 : a.eval (.const .nilIface) = .nilIface := rfl
      split at h <;> cases h
      · simp only [execOp, he, e2]; rw [Sem.run_bind, h1.1]; rfl
      · simp only [execOp, he, e2]; rw [Sem.run_bind, h1.2]; rfl
    · rename_i q1 q2 q3 tp p ht hx hy
      have hy' := isNilC_spec hy
      subst hy'
      have hf := (Sig.tyOk ht).fits
      simp only [Ty.fits] at hf
      have he := evX_spec ha hG hx
      have h1 := run_nilOp (x := x) (run_equalIface (tp := tp) (p := p) hf w) (.inr ⟨_, _, rfl⟩)
      have e2 : a.eval (.const .nilIface) = .nilIface := rfl
      split at h <;> cases h
      · simp only [execOp, he, e2]; rw [Sem.run_bind, h1.1]; rfl
      · simp only [execOp, he, e2]; rw [Sem.run_bind, h1.2]; rfl
    · cases h
  · cases h
theorem Val.nilq {C : Cx} {all : Array Oper} {o : Oper} {env : Env} {ec : EnvC} {Hs : List HA} {G : GId} {v : Value} (hv : evNil C.S env ec G o = some v) : Val C all o env ec Hs G v := fun _ w ha _ hH => evNil_spec ha hH hv w

/-- Element i of a slice of one-cell elements. -/
theorem Src.get1 {w : World} {A : Option Addr} {n i : Nat} {vs : List Value} {v : Value} (h : Src w 1 A n vs) (hi : i < n) (hv : vs[i]? = some v) : isAt A ∧ RdC w (bk A) (ofs A + i * 1) [v] := by
  obtain ⟨h1, h2⟩ := h.2 (by omega)
  refine ⟨h1, fun j u hu => ?_⟩
  cases j with
  | zero => simp at hu; subst hu; have := h2 i v hv; simpa using this
  | succ j => simp at hu
theorem Src.base {w : World} {sz : Nat} {A : Option Addr} {n : Nat} {vs : List Value} (h : Src w sz A n vs) (hn : 0 < n) : ∃ b o, A = some ⟨b, o, none⟩ := ⟨_, _, (h.2 hn).1⟩
theorem Src.at_ {w : World} {sz : Nat} {A : Option Addr} {n : Nat} {vs : List Value} (h : Src w sz A n vs) (hn : 0 < n) : isAt A := (h.2 hn).1
end Go.Proofs.YtiglobijdegjdaaDoor
