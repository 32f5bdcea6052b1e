/- The engine, seventh part: one step of the walk by each kind of operation; entering a function, calling, returning. It speaks of any program. -/
import Derived.Test.YtiglobijdegjdaaDoorEngF
namespace Go.Proofs.YtiglobijdegjdaaDoor
open Go.RowKit Go.Shelf

section
variable {C : Cx} {all : Array Oper} {o : Oper} {rest : List Oper} {k : List It} {env : Env} {ec : EnvC} {H : List HA} {d : Nat} {v : Value}
/-! ## Reckoning -/
theorem T_pure (hg : gOf all env ec o = some []) (hv : evP C.S all env ec [] o = some v) (hd : o.dst = some d) (hN : Nat.blt d C.N.n = true) (hs : safeC all d ec = true)
    (h : T C (.ops all rest :: k) ((d, v) :: env) ec H) : T C (.ops all (o :: rest) :: k) env ec H :=
  T_op (OpT.val hg hd hN hs (fun _ w ha _ => evP_spec ha (Holds.nil _ _) hv w) h)
theorem T_pureC {G : GId} (hg : gOf all env ec o = some G) (hv : evP C.S all env ec G o = some v) (hd : o.dst = some d) (hN : Nat.blt d C.N.n = true) (hs : safeC all d ec = true) (hsG : safeG all d G = true) (hl : lookE env d = none)
    (h : T C (.ops all rest :: k) env ((d, (G, v)) :: ec) H) : T C (.ops all (o :: rest) :: k) env ec H :=
  T_op (OpT.valC hg hd hN hs hsG hl (fun _ w ha _ hH _ => evP_spec ha hH hv w) h)
theorem T_vc {p : Prop} (hg : gOf all env ec o = some []) (hv : evV C.S env ec [] o = some (v, p)) (hd : o.dst = some d) (hN : Nat.blt d C.N.n = true) (hs : safeC all d ec = true) (hp : p)
    (h : T C (.ops all rest :: k) ((d, v) :: env) ec H) : T C (.ops all (o :: rest) :: k) env ec H :=
  T_op (OpT.val hg hd hN hs (fun _ w ha _ => evV_spec ha (Holds.nil _ _) hv hp w) h)
theorem T_vcC {p : Prop} {G : GId} (hg : gOf all env ec o = some G) (hv : evV C.S env ec G o = some (v, p)) (hd : o.dst = some d) (hN : Nat.blt d C.N.n = true) (hs : safeC all d ec = true) (hsG : safeG all d G = true) (hl : lookE env d = none) (hp : GP all env ec G → p)
    (h : T C (.ops all rest :: k) env ((d, (G, v)) :: ec) H) : T C (.ops all (o :: rest) :: k) env ec H :=
  T_op (OpT.valC hg hd hN hs hsG hl (fun _ w ha _ hH hG => evV_spec ha hH hv (hp hG) w) h)

/-! ## Reading -/
def RdC (w : World) (b off : Nat) (vs : List Value) : Prop := ∀ j u, vs[j]? = some u → w.cell? ⟨b, off + j, none⟩ = some u
def mkV (agg : Bool) (vs : List Value) : Value := if agg then .agg vs.toArray else vs.headD undef
theorem RdC.one {w : World} {b off : Nat} {u : Value} (h : w.cell? ⟨b, off, none⟩ = some u) : RdC w b off [u] := by
  intro j x hx
  cases j with
  | zero => simp at hx; subst hx; exact h
  | succ j => simp at hx
theorem lt_of_cell {w : World} {a : Addr} {u : Value} (h : w.cell? a = some u) : a.block < w.heap.size := World.block_lt_of_cell? w a h
theorem RdC.below {w w' : World} {b off : Nat} {vs : List Value} (h : RdC w b off vs) (hb : Below w.heap.size w w') : RdC w' b off vs :=
  fun j u hu => (hb.cell (lt_of_cell (h j u hu))).trans (h j u hu)
theorem RdC.old {w0 w : World} {H : List HA} {b off : Nat} {vs : List Value} (h : RdC w0 b off vs) (hw : Cls w0 w H) : RdC w b off vs := h.below hw.below
theorem Cls.heap {w0 w : World} {H : List HA} {i b : Nat} {cs : List Value} {t : TypeId} (hw : Cls w0 w H) (hk : H[i]? = some (blk b cs t)) : w.heap[b]? = some (.cells cs.toArray t (0, 0)) ∧ w0.heap.size ≤ b := by
  obtain ⟨F, h1, h2, h3⟩ := hw.sep
  have hl : i < H.length := (List.getElem?_eq_some_iff.1 hk).1
  have := h1 i _ hk
  have hf : F i b = some (.cells cs.toArray t (0, 0)) := by rw [show F i = _ from this]; simp [one]
  exact ⟨(h2 i b _ hl hf).2, (h2 i b _ hl hf).1⟩
theorem RdC.own {w0 w : World} {H : List HA} {i b off : Nat} {cs vs : List Value} {t : TypeId} (hw : Cls w0 w H) (hk : H[i]? = some (blk b cs t)) (hv : ∀ j u, vs[j]? = some u → cs[off + j]? = some u) : RdC w b off vs := by
  intro j u hu
  rw [cell_of_row w b (off + j) cs.toArray t (0, 0) (hw.heap hk).1]
  simpa using hv j u hu
/-- The block is among the call's own; what the list is with another in its place. -/
class Focus (H : List HA) (b : Nat) (cs : outParam (List Value)) (t : outParam TypeId) (rb : outParam (HA → List HA)) : Prop where
  at_ : ∃ i, H[i]? = some (blk b cs t) ∧ ∀ A, rb A = H.set i A
instance Focus.head (H : List HA) (b : Nat) (cs : List Value) (t : TypeId) : Focus (blk b cs t :: H) b cs t (fun A => A :: H) := ⟨0, rfl, fun _ => rfl⟩
instance Focus.tail (A0 : HA) (H : List HA) (b : Nat) (cs : List Value) (t : TypeId) (rb : HA → List HA) [h : Focus H b cs t rb] : Focus (A0 :: H) b cs t (fun A => A0 :: rb A) :=
  ⟨by obtain ⟨i, h1, h2⟩ := h.at_; exact ⟨i + 1, by simpa using h1, fun A => by simp [h2]⟩⟩

def evLd (S : Sig) (env : Env) (ec : EnvC) (G : GId) (o : Oper) : Option (Nat × Nat × Bool × Nat) :=
  match o.op with
  | .load t x => match S.ty t, evX env ec G x with
    | some ⟨d, n, _, _⟩, some (.pointer (some ⟨b, off, none⟩)) => cond d.plain (some (b, off, d.isAgg, n)) none
    | _, _ => none
  | _ => none
theorem evLd_spec {S : Sig} {N : FK} {all : Array Oper} {env : Env} {ec : EnvC} {G : GId} {o : Oper} {a : Act} (ha : Agrees N all env ec a) (hG : Holds all a G) {b off n : Nat} {agg : Bool}
    (h : evLd S env ec G o = some (b, off, agg, n)) {w : World} {vs : List Value} (hl : vs.length = n) (hc : agg = false → n = 1) (hr : RdC w b off vs) : (execOp a.eval o).run S.P w = .ok (.value (mkV agg vs)) w := by
  obtain ⟨dst, op, ty, pos, aft, gd⟩ := o
  unfold evLd at h
  dsimp only at h
  split at h
  · rename_i t x
    split at h
    · rename_i d n' m z b' off' ht hx
      have hk := Sig.tyOk ht
      cases hp : d.plain with
      | false => rw [hp] at h; cases h
      | true =>
        rw [hp] at h
        simp only [cond_true, Option.some.injEq, Prod.mk.injEq] at h
        obtain ⟨rfl, rfl, rfl, rfl⟩ := h
        have hia := hk.isAgg w hp
        have hsz := hk.sizeOf w
        dsimp only at hia hsz
        simp only [execOp, evX_spec ha hG hx, Instr.loadAt, Instr.sureAddr, loadVar]
        cases hd : d.isAgg with
        | true =>
          rw [hd] at hia
          have hcells := run_loadCells_list (P := S.P) w ⟨b', off', none⟩ vs (fun j u hu => by
            have := hr j u hu
            unfold Addr.add
            split
            · rename_i e; subst e; simpa using this
            · exact this)
          rw [hl] at hcells
          simp [hia, hsz, hcells, mkV]
        | false =>
          rw [hd] at hia
          have h1 := hc hd
          have hv : ∃ u, vs = [u] := by
            match vs, hl with
            | [u], _ => exact ⟨u, rfl⟩
            | [], e => simp at e; omega
            | _ :: _ :: _, e => simp at e; omega
          obtain ⟨u, rfl⟩ := hv
          have := hr 0 u rfl
          simp only [Nat.add_zero] at this
          simp [hia, mkV, this]
    · cases h
  · cases h
/-- A variable of one cell is read. -/
theorem T_load {b off : Nat} (hg : gOf all env ec o = some []) (hv : evLd C.S env ec [] o = some (b, off, false, 1)) (hd : o.dst = some d) (hN : Nat.blt d C.N.n = true) (hs : safeC all d ec = true)
    (hr : ∀ w, Cls C.w0 w H → RdC w b off [v]) (h : T C (.ops all rest :: k) ((d, v) :: env) ec H) : T C (.ops all (o :: rest) :: k) env ec H :=
  T_op (OpT.val hg hd hN hs (fun _ w ha hw => evLd_spec ha (Holds.nil _ _) hv rfl (fun _ => rfl) (hr w hw)) h)
theorem T_loadC {b off : Nat} {G : GId} (hg : gOf all env ec o = some G) (hv : evLd C.S env ec G o = some (b, off, false, 1)) (hd : o.dst = some d) (hN : Nat.blt d C.N.n = true) (hs : safeC all d ec = true) (hsG : safeG all d G = true) (hl : lookE env d = none)
    (hr : GP all env ec G → ∀ w, Cls C.w0 w H → RdC w b off [v]) (h : T C (.ops all rest :: k) env ((d, (G, v)) :: ec) H) : T C (.ops all (o :: rest) :: k) env ec H :=
  T_op (OpT.valC hg hd hN hs hsG hl (fun _ w ha hw hH hG => evLd_spec ha hH hv rfl (fun _ => rfl) (hr hG w hw)) h)
/-- A struct is read. -/
theorem T_loadA {b off n : Nat} {vs : List Value} (hg : gOf all env ec o = some []) (hv : evLd C.S env ec [] o = some (b, off, true, n)) (hd : o.dst = some d) (hN : Nat.blt d C.N.n = true) (hs : safeC all d ec = true)
    (hr : ∀ w, Cls C.w0 w H → RdC w b off vs) (hn : vs.length = n) (h : T C (.ops all rest :: k) ((d, .agg vs.toArray) :: env) ec H) : T C (.ops all (o :: rest) :: k) env ec H :=
  T_op (OpT.val hg hd hN hs (fun _ w ha hw => evLd_spec ha (Holds.nil _ _) hv hn (fun e => (by cases e)) (hr w hw)) h)
theorem T_loadAC {b off n : Nat} {vs : List Value} {G : GId} (hg : gOf all env ec o = some G) (hv : evLd C.S env ec G o = some (b, off, true, n)) (hd : o.dst = some d) (hN : Nat.blt d C.N.n = true) (hs : safeC all d ec = true) (hsG : safeG all d G = true) (hl : lookE env d = none)
    (hr : GP all env ec G → ∀ w, Cls C.w0 w H → RdC w b off vs) (hn : vs.length = n) (h : T C (.ops all rest :: k) env ((d, (G, .agg vs.toArray)) :: ec) H) : T C (.ops all (o :: rest) :: k) env ec H :=
  T_op (OpT.valC hg hd hN hs hsG hl (fun _ w ha hw hH hG => evLd_spec ha hH hv hn (fun e => (by cases e)) (hr hG w hw)) h)
/-- Of the call's own. -/
theorem rdOwn {b off : Nat} {cs : List Value} {t : TypeId} {rb : HA → List HA} [hf : Focus H b cs t rb] {vs : List Value} (hv : ∀ j u, vs[j]? = some u → cs[off + j]? = some u) : ∀ w, Cls C.w0 w H → RdC w b off vs :=
  fun _ hw => by obtain ⟨i, h1, _⟩ := hf.at_; exact RdC.own hw h1 hv
theorem rdOwn1 {b off : Nat} {cs : List Value} {t : TypeId} {rb : HA → List HA} [hf : Focus H b cs t rb] {u : Value} (hv : cs[off]? = some u) : ∀ w, Cls C.w0 w H → RdC w b off [u] :=
  rdOwn fun j x hx => by
    cases j with
    | zero => simp at hx; subst hx; exact hv
    | succ j => simp at hx
/-- The whole block. -/
theorem rdAll {b : Nat} {cs : List Value} {t : TypeId} {rb : HA → List HA} [hf : Focus H b cs t rb] : ∀ w, Cls C.w0 w H → RdC w b 0 cs :=
  rdOwn fun j u hu => by rw [Nat.zero_add]; exact hu
/-- Of what was there when the call began. -/
theorem rdOld {b off : Nat} {vs : List Value} (h : RdC C.w0 b off vs) : ∀ w, Cls C.w0 w H → RdC w b off vs := fun _ hw => h.old hw

/-! ## New blocks -/
theorem run_newVar' (P : Program) (w : World) (t : TypeId) (u : Value) : (newVar t u).run P w = .ok ⟨w.heap.size, 0, none⟩ (w.alloc (.cells u.cells t)) := by
  rfl
theorem OpT.box {Φ : Env → EnvC → List HA → Prop} {t : TypeId} {x : Operand} {u : Value} {cs : List Value} (hg : gOf all env ec o = some []) (ho : o.op = .box t x) (hx : evX env ec [] x = some u) (hcs : u.cells.toList = cs) (hd : o.dst = some d) (hN : Nat.blt d C.N.n = true) (hs : safeC all d ec = true)
    (h : ∀ b, Φ ((d, .pointer (some ⟨b, 0, none⟩)) :: env) ec (blk b cs t :: H)) : OpT C all o env ec H Φ := by
  refine OpT.eff hg fun a w ha hw => ⟨.pointer (some ⟨w.heap.size, 0, none⟩), w.alloc (.cells u.cells t), blk w.heap.size cs t :: H, ?_, ?_, d, hd, hN, hs, h _⟩
  · unfold execOp
    rw [ho]
    simp only [evX_spec ha (Holds.nil _ _) hx, Instr.box]
    simp [run_newVar']
  · exact hw.alloc _ (by unfold blk; rw [← hcs])
theorem OpT.alloc {Φ : Env → EnvC → List HA → Prop} {t : TypeId} {ty : TyI} {cs : List Value} (hg : gOf all env ec o = some []) (ho : o.op = .alloc t) (ht : C.S.ty t = some ty) (hcs : ty.zero.cells.toList = cs) (hd : o.dst = some d) (hN : Nat.blt d C.N.n = true) (hs : safeC all d ec = true)
    (h : ∀ b, Φ ((d, .pointer (some ⟨b, 0, none⟩)) :: env) ec (blk b cs t :: H)) : OpT C all o env ec H Φ := by
  refine OpT.eff hg fun a w ha hw => ⟨.pointer (some ⟨w.heap.size, 0, none⟩), w.alloc (.cells ty.zero.cells t), blk w.heap.size cs t :: H, ?_, ?_, d, hd, hN, hs, h _⟩
  · unfold execOp
    rw [ho]
    simp only [Instr.alloc]
    simp [(Sig.tyOk ht).zeroValue w, run_newVar']
  · exact hw.alloc _ (by unfold blk; rw [← hcs])

/-! ## A store into a block of the call's own -/
def setL (cs : List Value) (off : Nat) : List Value → List Value
  | [] => cs
  | u :: us => setL (cs.set off u) (off + 1) us
theorem setL_length : ∀ (us cs : List Value) (off : Nat), (setL cs off us).length = cs.length
  | [], _, _ => rfl
  | u :: us, cs, off => by simp [setL, setL_length us]
def oneCells : List Value → Bool
  | [] => true
  | u :: us => u.oneCell' && oneCells us
theorem run_storeL (P : Program) (b : Nat) (t : TypeId) : ∀ (us : List Value) (i off : Nat) (cs : List Value) (w : World), w.heap[b]? = some (.cells cs.toArray t (0, 0)) → off + i + us.length ≤ cs.length → oneCells us = true →
    ∃ w', (storeCells ⟨b, off, none⟩ us i).run P w = .ok () w' ∧ w'.heap[b]? = some (.cells (setL cs (off + i) us).toArray t (0, 0)) ∧ (∀ c, c ≠ b → w'.heap[c]? = w.heap[c]?) ∧ w'.os = w.os ∧ w'.tape = w.tape ∧ w'.output = w.output ∧ w'.heap.size = w.heap.size
  | [], i, off, cs, w, hb, _, _ => ⟨w, rfl, by simpa [setL] using hb, fun _ _ => rfl, rfl, rfl, rfl, rfl⟩
  | u :: us, i, off, cs, w, hb, hl, h1 => by
    simp only [List.length_cons] at hl
    simp only [oneCells, Bool.and_eq_true] at h1
    have hcell : w.cell? ⟨b, off + i, none⟩ = some (cs[off + i]'(by omega)) := by
      rw [cell_of_row w b (off + i) cs.toArray t (0, 0) hb]
      simp [show off + i < cs.length from by omega]
    have hfz : w.frozen? ⟨b, off + i, none⟩ = false := by simp [World.frozen?, hb]
    have hadd : (⟨b, off, none⟩ : Addr).add i = ⟨b, off + i, none⟩ := by unfold Addr.add; split <;> simp_all
    have hset : (w.setCell ⟨b, off + i, none⟩ u).heap[b]? = some (.cells (cs.set (off + i) u).toArray t (0, 0)) := by
      simp [World.setCell, Array.getElem?_modify, hb]
    obtain ⟨w', g1, g2, g3, g4, g5, g6, g7⟩ := run_storeL P b t us (i + 1) off (cs.set (off + i) u) (w.setCell ⟨b, off + i, none⟩ u) hset (by simp; omega) h1.2
    refine ⟨w', ?_, ?_, fun c hc => (g3 c hc).trans (Below.heap_setCell w _ u c hc), g4, g5, g6, by rw [g7]; simp [World.setCell]⟩
    · simp only [storeCells, hadd]
      rw [Sem.run_bind, run_store P w _ u _ h1.1]
      simp only [hcell, hfz]
      exact g1
    · simpa [setL, Nat.add_assoc] using g2
def evSt (S : Sig) (env : Env) (ec : EnvC) (o : Oper) : Option (Nat × Nat × Nat × Value) :=
  match o.op with
  | .store t x y => match S.ty t, evX env ec [] x, evX env ec [] y with
    | some ⟨_, n, _, _⟩, some (.pointer (some ⟨b, off, none⟩)), some v => some (b, off, n, v)
    | _, _, _ => none
  | _ => none
theorem OpT.storeA {Φ : Env → EnvC → List HA → Prop} {b off n : Nat} {u : Value} {us cs : List Value} {t : TypeId} {rb : HA → List HA} (hg : gOf all env ec o = some []) (hd : o.dst = none) (he : evSt C.S env ec o = some (b, off, n, u)) [hf : Focus H b cs t rb]
    (hus : u.cells.toList = us) (hn : us.length = n) (h1 : oneCells us = true) (hl : off + us.length ≤ cs.length)
    (h : Φ env ec (rb (blk b (setL cs off us) t))) : OpT C all o env ec H Φ := by
  obtain ⟨i, hi, hrb⟩ := hf.at_
  refine OpT.skip hg hd fun a w ha hw => ?_
  obtain ⟨hb, hbn⟩ := hw.heap hi
  obtain ⟨w', g1, g2, g3, g4, g5, g6, g7⟩ := run_storeL C.S.P b t us 0 off cs w hb (by omega) h1
  refine ⟨w', _, ?_, ⟨?_, ?_⟩, h⟩
  · obtain ⟨dst, op, ty, pos, aft, gd⟩ := o
    unfold evSt at he
    dsimp only at he
    split at he
    · rename_i t' x y
      split at he
      · rename_i d0 n' m z b' off' v' ht hx hy
        cases he
        have hsz := (Sig.tyOk ht).sizeOf w
        dsimp only at hsz
        have hsize : u.cells.size = n := by rw [← hn, ← hus]; simp
        simp only [execOp, evX_spec ha (Holds.nil _ _) hx, evX_spec ha (Holds.nil _ _) hy, Instr.storeAt, Instr.sureAddr, storeVar]
        simp [hsz, hsize, hus, g1]
      · cases he
    · cases he
  · exact hw.below.trans ⟨g4, g5, g6, by omega, fun c hc => g3 c (by omega)⟩
  · rw [hrb]
    exact hw.sep.turn hi (fun f hf => ⟨_, hf⟩) (fun c hc _ => g3 c hc) g2 (by unfold blk; simp)
theorem OpT.store {Φ : Env → EnvC → List HA → Prop} {b off : Nat} {u : Value} {cs : List Value} {t : TypeId} {rb : HA → List HA} (hg : gOf all env ec o = some []) (hd : o.dst = none) (he : evSt C.S env ec o = some (b, off, 1, u)) [hf : Focus H b cs t rb]
    (h1 : u.oneCell' = true) (hl : off < cs.length)
    (h : Φ env ec (rb (blk b (cs.set off u) t))) : OpT C all o env ec H Φ := by
  have hc : u.cells.toList = [u] := by cases u <;> first | rfl | (simp [Value.oneCell'] at h1)
  exact OpT.storeA (us := [u]) hg hd he hc rfl (by simp [oneCells, h1]) (by simp; omega) h

/-! ## Calls -/
def evCall (env : Env) (ec : EnvC) (G : GId) (o : Oper) : Option (FuncId × List Value) :=
  match o.op with
  | .call { callee := .value x, args := xs, argTypes := _ } => match evX env ec G x, evL env ec G xs.toList with
    | some (.func (.func f) fs cs), some vs => some (f, fs.toList ++ (vs ++ cs.toList))
    | _, _ => none
  | _ => none
theorem evCall_spec {P : Program} {N : FK} {all : Array Oper} {env : Env} {ec : EnvC} {G : GId} {o : Oper} {a : Act} (ha : Agrees N all env ec a) (hG : Holds all a G) {f : FuncId} {args : List Value}
    (h : evCall env ec G o = some (f, args)) (he : Enters P f) (w : World) : (execOp a.eval o).run P w = .ok (.enter f args.toArray) w := by
  obtain ⟨dst, op, ty, pos, aft, gd⟩ := o
  unfold evCall at h
  dsimp only at h
  split at h
  · rename_i x xs ts
    split at h
    · rename_i g fs cs vs hx hvs
      cases h
      have e1 := evL_spec ha hG hvs
      have e2 : xs.map a.eval = vs.toArray := Array.ext' (by rw [Array.toList_map]; exact e1)
      have e3 : (fs.toList ++ (vs ++ cs.toList)).toArray = fs ++ vs.toArray ++ cs := Array.ext' (by simp)
      simp only [execOp, resolve, e2, evX_spec ha hG hx, Deferred.ofValue]
      rw [e3]
      simpa [invoke] using he (fs ++ vs.toArray ++ cs) w
    · cases h
  · cases h
theorem OpT.call {f : FuncId} {args : List Value} {Ψ : Value → List HA → Prop} {Φ : Env → EnvC → List HA → Prop} (hg : gOf all env ec o = some []) (he : evCall env ec [] o = some (f, args)) (hd : o.dst = some d) (hN : Nat.blt d C.N.n = true) (hs : safeC all d ec = true)
    (hc : ∀ w, Cls C.w0 w H → Spec C.S.P f args w Ψ) (h : ∀ u A, Ψ u A → Φ ((d, u) :: env) ec (A ++ H)) : OpT C all o env ec H Φ := by
  intro a w ha hw K Q hK
  have hwn := (wanted_iff ha hg).2 (Holds.nil _ _)
  refine ⟨fun _ => ?_, fun hn => (by rw [hwn] at hn; cases hn)⟩
  obtain ⟨hen, hcall⟩ := hc w hw
  unfold Oper.wpIn
  refine ⟨about_Fr o _ w _, ?_⟩
  rw [Oper.semAt_eq _ _ _ (gOf_def hg)]
  rw [evCall_spec ha (Holds.nil _ _) he hen w]
  refine ⟨fun h => (by cases h), callsIn_Fr (Calls.mono hcall ?_)⟩
  rintro e w' ⟨u, A, rfl, hΨ, hb, hsep⟩
  exact hK _ _ _ _ _ (h u A hΨ) (by rw [hd]; exact ha.put hN hs) (hw.call hb hsep)
theorem OpT.callC {f : FuncId} {args : List Value} {G : GId} {Φ : Env → EnvC → List HA → Prop} (hg : gOf all env ec o = some G) (he : evCall env ec G o = some (f, args)) (hd : o.dst = some d) (hN : Nat.blt d C.N.n = true) (hs : safeC all d ec = true) (hsG : safeG all d G = true) (hl : lookE env d = none)
    (hc : GP all env ec G → ∀ w, Cls C.w0 w H → Spec C.S.P f args w (fun u A => u = v ∧ A = [])) (h : Φ env ((d, (G, v)) :: ec) H) : OpT C all o env ec H Φ := by
  intro a w ha hw K Q hK
  refine ⟨fun hwn => ?_, fun hn => ?_⟩
  · have hH := (wanted_iff ha hg).1 hwn
    obtain ⟨hen, hcall⟩ := hc (hH.gp ha) w hw
    unfold Oper.wpIn
    refine ⟨about_Fr o _ w _, ?_⟩
    rw [Oper.semAt_eq _ _ _ (gOf_def hg)]
    rw [evCall_spec ha hH he hen w]
    refine ⟨fun h => (by cases h), callsIn_Fr (Calls.mono hcall ?_)⟩
    rintro e w' ⟨u, A, rfl, ⟨rfl, rfl⟩, hb, hsep⟩
    refine hK _ _ _ _ _ h (by rw [hd]; exact ha.putC hN hs hsG hl (fun _ => rfl) (fun hh => absurd hH hh)) ?_
    have := hw.call hb hsep
    simpa using this
  · have hH : ¬ Holds all a G := fun hh => by rw [(wanted_iff ha hg).2 hh] at hn; cases hn
    rw [hd]
    exact hK _ _ _ _ _ h (ha.putC hN hs hsG hl (fun hh => absurd hh hH) (fun _ => rfl)) hw
/-- A call that hands back a value alone. -/
theorem T_call {f : FuncId} {args : List Value} (hg : gOf all env ec o = some []) (he : evCall env ec [] o = some (f, args)) (hd : o.dst = some d) (hN : Nat.blt d C.N.n = true) (hs : safeC all d ec = true)
    (hc : ∀ w, Cls C.w0 w H → Spec C.S.P f args w (fun u A => u = v ∧ A = [])) (h : T C (.ops all rest :: k) ((d, v) :: env) ec H) : T C (.ops all (o :: rest) :: k) env ec H :=
  T_op (OpT.call hg he hd hN hs hc (by rintro u A ⟨rfl, rfl⟩; exact h))
/-- .. one of which it is known what it is not. -/
theorem T_callP {f : FuncId} {args : List Value} {p : Value → Prop} (hg : gOf all env ec o = some []) (he : evCall env ec [] o = some (f, args)) (hd : o.dst = some d) (hN : Nat.blt d C.N.n = true) (hs : safeC all d ec = true)
    (hc : ∀ w, Cls C.w0 w H → Spec C.S.P f args w (fun u A => p u ∧ A = [])) (h : ∀ u, p u → T C (.ops all rest :: k) ((d, u) :: env) ec H) : T C (.ops all (o :: rest) :: k) env ec H :=
  T_op (OpT.call hg he hd hN hs hc (by rintro u A ⟨hp, rfl⟩; exact h u hp))
/-- .. with a block of its own. -/
theorem T_callE {f : FuncId} {args : List Value} {α : Type} {p : α → Prop} {val : α → Value} {own : α → HA} (hg : gOf all env ec o = some []) (he : evCall env ec [] o = some (f, args)) (hd : o.dst = some d) (hN : Nat.blt d C.N.n = true) (hs : safeC all d ec = true)
    (hc : ∀ w, Cls C.w0 w H → Spec C.S.P f args w (fun u A => ∃ x, p x ∧ u = val x ∧ A = [own x])) (h : ∀ x, p x → T C (.ops all rest :: k) ((d, val x) :: env) ec (own x :: H)) : T C (.ops all (o :: rest) :: k) env ec H :=
  T_op (OpT.call hg he hd hN hs hc (by rintro u A ⟨x, hp, rfl, rfl⟩; exact h x hp))
theorem T_callC {f : FuncId} {args : List Value} {G : GId} (hg : gOf all env ec o = some G) (he : evCall env ec G o = some (f, args)) (hd : o.dst = some d) (hN : Nat.blt d C.N.n = true) (hs : safeC all d ec = true) (hsG : safeG all d G = true) (hl : lookE env d = none)
    (hc : GP all env ec G → ∀ w, Cls C.w0 w H → Spec C.S.P f args w (fun u A => u = v ∧ A = [])) (h : T C (.ops all rest :: k) env ((d, (G, v)) :: ec) H) : T C (.ops all (o :: rest) :: k) env ec H :=
  T_op (OpT.callC hg he hd hN hs hsG hl hc h)

/-! ## Returning -/
def resV : List Value → Value
  | [v] => v
  | vs => .tuple vs.toArray
def evRes (env : Env) : List ResultVar → Option (List Value)
  | [] => some []
  | .tmp t :: l => match lookE env t with
    | some v => match evRes env l with
      | some vs => some (v :: vs)
      | none => none
    | none => none
  | _ => none
def resF (tmps : Array Value) : ResultVar → Sem Value
  | .tmp t => pure (tmps.getD t undef)
  | .cell a t => do loadVar t (← asAddr (tmps.getD a undef))
theorem run_resF {P : Program} {w : World} (tmps : Array Value) : ∀ {rs : List ResultVar} {vs : List Value}, rs.length = vs.length → (∀ (i : Nat) r v, rs[i]? = some r → vs[i]? = some v → (resF tmps r).run P w = .ok v w) → (rs.mapM (resF tmps)).run P w = .ok vs w
  | [], [], _, _ => by simp
  | r :: rs, v :: vs, hl, h => by
    have h0 := h 0 r v rfl rfl
    have ih := run_resF tmps (rs := rs) (vs := vs) (by simpa using hl) (fun i r v h1 h2 => h (i + 1) r v (by simpa using h1) (by simpa using h2))
    simp [List.mapM_cons, h0, ih]
theorem results_eq (fn : Func) (tmps : Array Value) : results fn tmps = (do let vs ← fn.results.mapM (resF tmps); pure (if h : vs.size = 1 then vs[0] else .tuple vs)) := by
  unfold results
  congr 1
theorem run_results {P : Program} {fn : Func} {tmps : Array Value} {w : World} {vs : List Value} (hl : fn.results.toList.length = vs.length)
    (h : ∀ (i : Nat) r v, fn.results.toList[i]? = some r → vs[i]? = some v → (resF tmps r).run P w = .ok v w) :
    (results fn tmps).run P w = .ok (resV vs) w := by
  rw [results_eq, Array.mapM_eq_mapM_toList]
  have h2 := run_resF (P := P) (w := w) tmps hl h
  have h3 : (List.toArray <$> List.mapM (resF tmps) fn.results.toList : Sem (Array Value)) = (do let l ← List.mapM (resF tmps) fn.results.toList; pure l.toArray) := map_eq_pure_bind _ _
  rw [h3]
  simp only [Sem.run_bind, h2, Result.andThen_ok, Sem.run_pure]
  congr 1
  match vs with
  | [] => rfl
  | [v] => rfl
  | v :: u :: l => simp [resV]
theorem evRes_spec {P : Program} {N : FK} {all : Array Oper} {a : Act} {w : World} (ha : Agrees N all env ec a) : ∀ {rs : List ResultVar} {vs : List Value}, evRes env rs = some vs → rs.length = vs.length ∧ ∀ (i : Nat) r v, rs[i]? = some r → vs[i]? = some v → (resF a.tmps r).run P w = .ok v w
  | [], vs, h => by cases h; exact ⟨rfl, fun i r v h => by simp at h⟩
  | r :: rs, vs, h => by
    unfold evRes at h
    split at h
    · cases ‹_ :: _ = []›
    · rename_i t l he
      cases he
      split at h
      · rename_i v hv
        split at h
        · rename_i us hus
          cases h
          obtain ⟨h1, h2⟩ := evRes_spec ha hus
          refine ⟨by simp [h1], fun i r v' hr hv' => ?_⟩
          cases i with
          | zero =>
            simp at hr hv'
            subst hr; subst hv'
            simp only [resF]
            rw [ha.at_ t _ hv]
            rfl
          | succ i => exact h2 i r v' (by simpa using hr) (by simpa using hv')
        · cases h
      · cases h
    · cases h
/-- What is owed where a function's own walk ends. -/
def RF (P : Program) (w0 : World) (fn : Func) (Φ : Value → List HA → Prop) : Act → World → Prop := fun a w => LeavesInM (Fr none) 0 P fn a.tmps (Ret w0 Φ) a.defers .returning w
/-- The context of a function's own walk; what it has deferred (the marks of ranges over functions). -/
@[reducible] def FC (S : Sig) (m : Nat) (ds : List Deferred) (w0 : World) (fn : Func) (Φ : Value → List HA → Prop) : Cx := ⟨S, ⟨m, ds⟩, w0, none, RF S.P w0 fn Φ, RF S.P w0 fn Φ, fun _ _ _ => False⟩
section
variable {S : Sig} {m : Nat} {w0 : World} {fn : Func} {Ψ : Value → List HA → Prop}
theorem rf_of {a : Act} {w : World} {u : Value} (hd : a.defers = []) (hr : (results fn a.tmps).run S.P w = .ok u w) (h : Ret w0 Ψ (.returned u) w) : RF S.P w0 fn Ψ a w := by
  unfold RF
  rw [hd]
  exact ⟨u, hr, h⟩
theorem rf_V {vs : List Value} (A : List HA) (hv : evRes env fn.results.toList = some vs) (hl : Hle H A) (h : Ψ (resV vs) A) : ∀ a w, Agrees ⟨m, []⟩ #[] env [] a → Cls w0 w H → RF S.P w0 fn Ψ a w := fun _ w ha hw => by
  obtain ⟨h1, h2⟩ := evRes_spec (P := S.P) (w := w) ha hv
  exact rf_of ha.defers (run_results h1 h2) ⟨_, A, rfl, h, hw.below, hl _ _ hw.sep⟩
/-- The results lie in slots. -/
theorem T_retV {vs : List Value} (A : List HA) (hv : evRes env fn.results.toList = some vs) (hl : Hle H A) (h : Ψ (resV vs) A) : T (FC S m [] w0 fn Ψ) (.code .ret :: k) env ec H := T_ret (rf_V A hv hl h)
theorem T_fallV {vs : List Value} (A : List HA) (hv : evRes env fn.results.toList = some vs) (hl : Hle H A) (h : Ψ (resV vs) A) : T (FC S m [] w0 fn Ψ) [] env ec H := T_fall (rf_V A hv hl h)
end
/-- The results lie in slots and in variables of the call's own. -/
def ResAt (C : Cx) (env : Env) (H : List HA) : List ResultVar → List Value → Prop
  | [], [] => True
  | .tmp t :: l, v :: vs => lookE env t = some v ∧ ResAt C env H l vs
  | .cell a t :: l, v :: vs => (∃ b ty us, lookE env a = some (.pointer (some ⟨b, 0, none⟩)) ∧ C.S.ty t = some ty ∧ ty.d.plain = true ∧ us.length = ty.size ∧ (ty.d.isAgg = false → ty.size = 1) ∧ v = mkV ty.d.isAgg us ∧ ∀ w, Cls C.w0 w H → RdC w b 0 us) ∧ ResAt C env H l vs
  | _, _ => False
theorem ResAt.spec {a : Act} {w : World} (ha : Agrees C.N all env ec a) (hw : Cls C.w0 w H) : ∀ {rs : List ResultVar} {vs : List Value}, ResAt C env H rs vs → rs.length = vs.length ∧ ∀ (i : Nat) r v, rs[i]? = some r → vs[i]? = some v → (resF a.tmps r).run C.S.P w = .ok v w
  | [], [], _ => ⟨rfl, fun i r v h => by simp at h⟩
  | .tmp t :: l, v :: vs, h => by
    obtain ⟨h1, h2⟩ := ResAt.spec ha hw h.2
    refine ⟨by simp [h1], fun i r v' hr hv' => ?_⟩
    cases i with
    | zero =>
      simp at hr hv'
      subst hr; subst hv'
      simp only [resF]
      rw [ha.at_ t _ h.1]
      rfl
    | succ i => exact h2 i r v' (by simpa using hr) (by simpa using hv')
  | .cell s t :: l, v :: vs, h => by
    obtain ⟨⟨b, ty, us, g1, g2, g3, g4, g5, g6, g7⟩, h⟩ := h
    obtain ⟨h1, h2⟩ := ResAt.spec ha hw h
    refine ⟨by simp [h1], fun i r v' hr hv' => ?_⟩
    cases i with
    | zero =>
      simp at hr hv'
      subst hr; subst hv'
      have hk := Sig.tyOk g2
      have hia := hk.isAgg w g3
      have hsz := hk.sizeOf w
      simp only [resF]
      rw [ha.at_ s _ g1]
      simp only [asAddr, loadVar]
      have hr' := g7 w hw
      cases hd : ty.d.isAgg with
      | true =>
        rw [hd] at hia g6
        have hcells := run_loadCells_list (P := C.S.P) w ⟨b, 0, none⟩ us (fun j u hu => by
          have := hr' j u hu
          unfold Addr.add
          split
          · rename_i e; subst e; simpa using this
          · simpa using this)
        rw [g4] at hcells
        simp [hia, hsz, hcells, mkV, g6]
      | false =>
        rw [hd] at hia g6
        have hv : ∃ u, us = [u] := by
          have := g5 hd
          match us, g4 with
          | [u], _ => exact ⟨u, rfl⟩
          | [], e => simp at e; omega
          | _ :: _ :: _, e => simp at e; omega
        obtain ⟨u, rfl⟩ := hv
        have := hr' 0 u rfl
        simp only [Nat.add_zero] at this
        simp [hia, mkV, this, g6]
    | succ i => exact h2 i r v' (by simpa using hr) (by simpa using hv')
section
variable {S : Sig} {m : Nat} {ds : List Deferred} {w0 : World} {fn : Func} {Ψ : Value → List HA → Prop}
theorem rf_M {vs : List Value} (A : List HA) (hv : ResAt (FC S m ds w0 fn Ψ) env H fn.results.toList vs) (hl : Hle H A) (h : Ψ (resV vs) A) : ∀ a w, Agrees ⟨m, []⟩ #[] env [] a → Cls w0 w H → RF S.P w0 fn Ψ a w := fun a w ha hw => by
  have ha' : Agrees (FC S m ds w0 fn Ψ).N #[] env [] { a with defers := ds } := ⟨rfl, ha.size, ha.at_, ha.yes, ha.no⟩
  obtain ⟨h1, h2⟩ := ResAt.spec (all := #[]) ha' hw hv
  exact rf_of ha.defers (run_results h1 h2) ⟨_, A, rfl, h, hw.below, hl _ _ hw.sep⟩
theorem T_retM {vs : List Value} (A : List HA) (hv : ResAt (FC S m [] w0 fn Ψ) env H fn.results.toList vs) (hl : Hle H A) (h : Ψ (resV vs) A) : T (FC S m [] w0 fn Ψ) (.code .ret :: k) env ec H := T_ret (rf_M A hv hl h)
end

/-! ## Entering -/
def zipE : Nat → List Value → Env
  | _, [] => []
  | n, v :: l => (n, v) :: zipE (n + 1) l
theorem zipE_spec : ∀ (l : List Value) (n s : Nat) (v : Value), lookE (zipE n l) s = some v → n ≤ s ∧ l[s - n]? = some v
  | u :: l, n, s, v, h => by
    rcases lookE_cons h with ⟨rfl, rfl⟩ | ⟨hne, h⟩
    · simp
    · obtain ⟨h1, h2⟩ := zipE_spec l (n + 1) s v h
      refine ⟨by omega, ?_⟩
      rw [show s - n = (s - (n + 1)) + 1 by omega]
      simpa using h2
end
theorem spec_of (S : Sig) {f : FuncId} {fn : Func} {c : Code} {args : List Value} {w : World} {Φ : Value → List HA → Prop} (hf : S.P.funcs[f]? = some fn) (hn : (fn.name == "runtime.NumGoroutine") = false) (hb : fn.body = some c)
    (hlen : Nat.ble args.length fn.ntmps = true) (h : T (FC S fn.ntmps [] w fn Φ) (nf 60 [.code c]) (zipE 0 args) [] []) : Spec S.P f args w Φ := by
  refine ⟨enters_of hf hn hb, callsIn_wide.1 (callsIn_of_wp_marks (n := 0) hf hb trivial ?_)⟩
  have hlen' : args.length ≤ fn.ntmps := Nat.le_of_ble_eq_true hlen
  have ha : Agrees ⟨fn.ntmps, []⟩ (allOf (nf 60 [.code c])) (zipE 0 args) [] { tmps := args.toArray ++ Array.replicate (fn.ntmps - args.toArray.size) undef, defers := [] } := by
    refine ⟨rfl, by simp; omega, fun s v hv => ?_, fun _ _ _ h => (by cases h), fun _ _ _ h => (by cases h)⟩
    obtain ⟨_, h2⟩ := zipE_spec args 0 s v hv
    simp only [Nat.sub_zero] at h2
    have hs : s < args.length := (List.getElem?_eq_some_iff.1 h2).1
    simp [Array.getD_eq_getD_getElem?, Array.getElem?_append, hs]
    rw [List.getElem?_eq_getElem hs] at h2
    simpa using h2
  have := nf_spec (h _ _ ha (Cls.start w))
  simp only [sem] at this
  refine wpIn_mono this fun e a w' q => ?_
  cases e <;> first | exact q | exact q.elim
theorem Spec.mono {P : Program} {f : FuncId} {args : List Value} {w : World} {Φ Ψ : Value → List HA → Prop} (h : Spec P f args w Φ) (hm : ∀ v A, Φ v A → Ψ v A) : Spec P f args w Ψ :=
  ⟨h.1, h.2.mono fun _ _ ⟨v, A, h1, h2, h3, h4⟩ => ⟨v, A, h1, hm v A h2, h3, h4⟩⟩
end Go.Proofs.YtiglobijdegjdaaDoor
