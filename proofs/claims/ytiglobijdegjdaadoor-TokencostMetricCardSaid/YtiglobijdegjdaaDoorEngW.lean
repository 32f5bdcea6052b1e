/- The engine: nil slices and pointers; stores into rows; drawn regions in which several operations that turn something may come first. It speaks of any program. -/
import Derived.Test.YtiglobijdegjdaaDoorEngV
namespace Go.Proofs.YtiglobijdegjdaaDoor
open Go.RowKit Go.Shelf

/-! ## Against nil -/
def isNone' : Option Addr → Bool
  | none => true
  | some _ => false
def nilK : Operand → Nat
  | .const (.slice none 0 0) => 1
  | .const (.pointer none) => 2
  | _ => 0
def evNilS (S : Sig) (env : Env) (ec : EnvC) (G : GId) (o : Oper) : Option (Bool × Bool) :=
  match o.op with
  | .binOp op t x y _ => match S.ty t, evX env ec G x, nilK y, op with
    | some ⟨.slice _, _, _, _⟩, some (.slice A _ _), 1, .eql => some (true, isNone' A)
    | some ⟨.slice _, _, _, _⟩, some (.slice A _ _), 1, .neq => some (false, isNone' A)
    | some ⟨.ptr _, _, _, _⟩, some (.pointer A), 2, .eql => some (true, isNone' A)
    | some ⟨.ptr _, _, _, _⟩, some (.pointer A), 2, .neq => some (false, isNone' A)
    | _, _, _, _ => none
  | _ => none
theorem nilK_one {y : Operand} (h : nilK y = 1) : y = .const (.slice none 0 0) := by
  unfold nilK at h
  split at h
  · rfl
  · cases h
  · cases h
theorem nilK_two {y : Operand} (h : nilK y = 2) : y = .const (.pointer none) := by
  unfold nilK at h
  split at h
  · cases h
  · rfl
  · cases h
theorem run_sliceNil {P : Program} {t e : TypeId} (hf : P.underlying t = some (.slice e)) (A : Option Addr) (n c : Nat) (w : World) : (Op.equal t (.slice A n c) (.slice none 0 0)).run P w = .ok (isNone' A) w := by
  show (Op.equalIn (9999 + 1) t _ _).run P w = _
  rw [Op.equalIn]
  cases A <;> (simp only [Sem.run_bind, run_underlying hf, Result.andThen_ok]; rfl)
theorem run_ptrNil {P : Program} {t e : TypeId} (hf : P.underlying t = some (.pointer e)) (A : Option Addr) (w : World) : (Op.equal t (.pointer A) (.pointer none)).run P w = .ok (isNone' A) w := by
  show (Op.equalIn (9999 + 1) t _ _).run P w = _
  rw [Op.equalIn]
  cases A <;> (simp only [Sem.run_bind, run_underlying hf, Result.andThen_ok]; rfl)
theorem run_nilOpS {P : Program} {w : World} {t : TypeId} {x : Operand} {A : Option Addr} {n c : Nat} {r : Bool} (hq : (Op.equal t (.slice A n c) (.slice none 0 0)).run P w = .ok r w) :
    ((do eqGuard .eql t x (.const (.slice none 0 0)) (.slice A n c) (.slice none 0 0); binOp .eql t (.slice A n c) (.slice none 0 0) : Sem Value)).run P w = .ok (.bool r) w ∧ ((do eqGuard .neq t x (.const (.slice none 0 0)) (.slice A n c) (.slice none 0 0); binOp .neq t (.slice A n c) (.slice none 0 0) : Sem Value)).run P w = .ok (.bool (!r)) w := by
  constructor
  · show ((do pure PUnit.unit; pure (.bool (← Op.equal t _ _)) : Sem Value)).run P w = _
    rw [Sem.run_bind, hq]; rfl
  · show ((do pure PUnit.unit; pure (.bool (!(← Op.equal t _ _))) : Sem Value)).run P w = _
    rw [Sem.run_bind, hq]; rfl
theorem run_nilOpP {P : Program} {w : World} {t : TypeId} {x : Operand} {A : Option Addr} {r : Bool} (hq : (Op.equal t (.pointer A) (.pointer none)).run P w = .ok r w) :
    ((do eqGuard .eql t x (.const (.pointer none)) (.pointer A) (.pointer none); binOp .eql t (.pointer A) (.pointer none) : Sem Value)).run P w = .ok (.bool r) w ∧ ((do eqGuard .neq t x (.const (.pointer none)) (.pointer A) (.pointer none); binOp .neq t (.pointer A) (.pointer none) : Sem Value)).run P w = .ok (.bool (!r)) w := by
  constructor
  · show ((do pure PUnit.unit; pure (.bool (← Op.equal t _ _)) : Sem Value)).run P w = _
    rw [Sem.run_bind, hq]; rfl
  · show ((do pure PUnit.unit; pure (.bool (!(← Op.equal t _ _))) : Sem Value)).run P w = _
    rw [Sem.run_bind, hq]; rfl
theorem Val.nilS {C : Cx} {all : Array Oper} {o : Oper} {env : Env} {ec : EnvC} {Hs : List HA} {G : GId} {p r : Bool} (hv : evNilS C.S env ec G o = some (p, r)) : Val C all o env ec Hs G (.bool (cond p r (!r))) := by
  intro a w ha _ hH
  obtain ⟨dst, op, ty, pos, aft, gd⟩ := o
  unfold evNilS at hv
  dsimp only at hv
  split at hv
  · rename_i op t x y t2
    split at hv
    · rename_i ht hx hy
      have hy' := nilK_one hy
      subst hy'
      cases hv
      have hf := (Sig.tyOk ht).fits
      simp only [Ty.fits] at hf
      simp only [execOp, evX_spec ha hH hx, show a.eval (.const (.slice none 0 0)) = .slice none 0 0 from rfl]
      rw [Sem.run_bind, (run_nilOpS (x := x) (run_sliceNil hf _ _ _ w)).1]; rfl
    · rename_i ht hx hy
      have hy' := nilK_one hy
      subst hy'
      cases hv
      have hf := (Sig.tyOk ht).fits
      simp only [Ty.fits] at hf
      simp only [execOp, evX_spec ha hH hx, show a.eval (.const (.slice none 0 0)) = .slice none 0 0 from rfl]
      rw [Sem.run_bind, (run_nilOpS (x := x) (run_sliceNil hf _ _ _ w)).2]; rfl
    · rename_i ht hx hy
      have hy' := nilK_two hy
      subst hy'
      cases hv
      have hf := (Sig.tyOk ht).fits
      simp only [Ty.fits] at hf
      simp only [execOp, evX_spec ha hH hx, show a.eval (.const (.pointer none)) = .pointer none from rfl]
      rw [Sem.run_bind, (run_nilOpP (x := x) (run_ptrNil hf _ w)).1]; rfl
    · rename_i ht hx hy
      have hy' := nilK_two hy
      subst hy'
      cases hv
      have hf := (Sig.tyOk ht).fits
      simp only [Ty.fits] at hf
      simp only [execOp, evX_spec ha hH hx, show a.eval (.const (.pointer none)) = .pointer none from rfl]
      rw [Sem.run_bind, (run_nilOpP (x := x) (run_ptrNil hf _ w)).2]; rfl
    · cases hv
  · cases hv

/-! ## Bits -/
def shrV (k : IntKind) (a b : Int) : Int := a.fdiv (2 ^ (min b.toNat k.bits))
def shlV (k : IntKind) (a b : Int) : Int := k.wrap (a * 2 ^ (min b.toNat k.bits))
def andV (k : IntKind) (a b : Int) : Int := k.wrap ((BitVec.ofInt k.bits a &&& BitVec.ofInt k.bits b).toNat : Int)
def evBits (env : Env) (ec : EnvC) (G : GId) (o : Oper) : Option (Value × Prop) :=
  match o.op with
  | .binOp op _ x y _ => match op, evX env ec G x, evX env ec G y with
    | .shr, some (.int k a), some (.int _ b) => some (.int k (shrV k a b), 0 ≤ b)
    | .shl, some (.int k a), some (.int _ b) => some (.int k (shlV k a b), 0 ≤ b)
    | .and, some (.int k a), some (.int k' b) => cond (sameK k k') (some (.int k (andV k a b), True)) none
    | _, _, _ => none
  | _ => none
theorem Val.bits {C : Cx} {all : Array Oper} {o : Oper} {env : Env} {ec : EnvC} {Hs : List HA} {G : GId} {v : Value} {p : Prop} (hv : evBits env ec G o = some (v, p)) (hp : GP all env ec G → p) : Val C all o env ec Hs G v := by
  intro a w ha _ hH
  have hp := hp (hH.gp ha)
  obtain ⟨dst, op, ty, pos, aft, gd⟩ := o
  unfold evBits at hv
  dsimp only at hv
  split at hv
  · rename_i op t x y t2
    split at hv
    · rename_i k n k' m hx hy
      cases hv
      simp only [execOp, evX_spec ha hH hx, evX_spec ha hH hy]
      have : ¬ m < 0 := by omega
      simp [eqGuard, binOp, Op.shift, this, shrV]
    · rename_i k n k' m hx hy
      cases hv
      simp only [execOp, evX_spec ha hH hx, evX_spec ha hH hy]
      have : ¬ m < 0 := by omega
      simp [eqGuard, binOp, Op.shift, this, shlV]
    · rename_i k n k' m hx hy
      cases hk : sameK k k' with
      | false => rw [hk] at hv; cases hv
      | true =>
        rw [hk] at hv
        have ek : k = k' := sameK_eq hk
        subst ek
        cases hv
        simp only [execOp, evX_spec ha hH hx, evX_spec ha hH hy]
        simp [eqGuard, binOp, Op.intBits, andV]
    · cases hv
  · cases hv

/-! ## A pointer that is followed -/
def evNC (env : Env) (ec : EnvC) (G : GId) (o : Oper) : Option Value :=
  match o.op with
  | .nilCheck x => match evX env ec G x with
    | some (.pointer (some a)) => some (.pointer (some a))
    | _ => none
  | _ => none
theorem Val.nilc {C : Cx} {all : Array Oper} {o : Oper} {env : Env} {ec : EnvC} {Hs : List HA} {G : GId} {v : Value} (hv : evNC env ec G o = some v) : Val C all o env ec Hs G v := by
  intro a w ha _ hH
  obtain ⟨dst, op, ty, pos, aft, gd⟩ := o
  unfold evNC at hv
  dsimp only at hv
  split at hv
  · rename_i x
    split at hv
    · rename_i ad hx
      cases hv
      simp only [execOp, evX_spec ha hH hx]
      rfl
    · cases hv
  · cases hv

/-! ## Rows -/
theorem srcRw {C : Cx} {H : List HA} {A : Option Addr} {e sz cap n : Nat} {xs : List Value} {rb : HA → List HA} [hf : FocusR H A e sz cap n xs rb] : ∀ w, Cls C.w0 w H → Src w sz A n xs := by
  intro w hw
  obtain ⟨i, hi, _⟩ := hf.at_
  obtain ⟨F, h1, h2, h3⟩ := hw.sep
  have hil : i < H.length := (List.getElem?_eq_some_iff.1 hi).1
  obtain ⟨hl, hr⟩ := h1 i _ hi
  refine ⟨hl, fun hn => ?_⟩
  rcases hr with ⟨_, _, h9, _⟩ | ⟨g, cur, rfl, hF, g1, g2, g3, g4⟩
  · omega
  · refine ⟨rfl, fun j u hu => ?_⟩
    have hb := (h2 i g (.cells cur e (0, 0)) hil (by rw [hF]; simp [one])).2
    rw [← g4] at hu
    show w.cell? ⟨g, 0 + j, none⟩ = _
    rw [Nat.zero_add, cell_of_row w g j cur e (0, 0) hb]
    rw [List.getElem?_take] at hu
    split at hu
    · simpa using hu
    · cases hu
theorem setL_take {n : Nat} : ∀ (us cs : List Value) (off : Nat), off + us.length ≤ n → (setL cs off us).take n = setL (cs.take n) off us
  | [], cs, off, h => rfl
  | u :: us, cs, off, h => by
    simp only [setL]
    rw [setL_take us (cs.set off u) (off + 1) (by simp at h; omega)]
    congr 1
    rw [List.take_set]
section
variable {C : Cx} {all : Array Oper} {o : Oper} {env : Env} {ec : EnvC} {H : List HA} {Φ : Env → EnvC → List HA → Prop}
/-- A store into an element of a row. -/
theorem OpT.storeR {g off m : Nat} {u : Value} {us : List Value} {e sz cap n : Nat} {xs : List Value} {rb : HA → List HA} (hg : gOf all env ec o = some []) (hd : o.dst = none) (he : evSt C.S env ec o = some (g, off, m, u)) [hf : FocusR H (some ⟨g, 0, none⟩) e sz cap n xs rb]
    (hus : u.cells.toList = us) (hm : us.length = m) (h1 : oneCells us = true) (hl : off + us.length ≤ n * sz)
    (h : Φ env ec (rb (row e sz (some ⟨g, 0, none⟩) cap n (setL xs off us)))) : OpT C all o env ec H Φ := by
  obtain ⟨i, hi, hrb⟩ := hf.at_
  refine OpT.skip hg hd fun a w ha hw => ?_
  obtain ⟨F, f1, f2, f3⟩ := hw.sep
  have hil : i < H.length := (List.getElem?_eq_some_iff.1 hi).1
  obtain ⟨hxl, hrow⟩ := f1 i _ hi
  rcases hrow with ⟨h9, _⟩ | ⟨g', cur, hA, hF, g1, g2, g3, g4⟩
  · cases h9
  cases hA
  obtain ⟨hbn, hb⟩ := f2 i g (.cells cur e (0, 0)) hil (by rw [hF]; simp [one])
  have hsz : n * sz ≤ cap * sz := Nat.mul_le_mul_right _ g1
  have hcl : cur.toList.length = cap * sz := by simpa using g3
  obtain ⟨w', k1, k2, k3, k4, k5, k6, k7⟩ := run_storeL C.S.P g e us 0 off cur.toList w (by simpa using hb) (by rw [hcl]; omega) h1
  refine ⟨w', _, ?_, ⟨?_, ?_⟩, h⟩
  · obtain ⟨dst, op, ty, pos, aft, gd⟩ := o
    unfold evSt at he
    dsimp only at he
    split at he
    · rename_i t' x y
      split at he
      · rename_i d0 n' m' z b' off' v' ht hx hy
        cases he
        have hsz := (Sig.tyOk ht).sizeOf w
        dsimp only at hsz
        have hsize : u.cells.size = m := by rw [← hm, ← hus]; simp
        simp only [execOp, evX_spec ha (Holds.nil _ _) hx, evX_spec ha (Holds.nil _ _) hy, Instr.storeAt, Instr.sureAddr, storeVar]
        simp [hsz, hsize, hus, k1]
      · cases he
    · cases he
  · exact hw.below.trans ⟨k4, k5, k6, by omega, fun c hc => k3 c (by omega)⟩
  · rw [hrb]
    refine hw.sep.turn hi (fun f hf => ?_) (fun c hc _ => k3 c hc) k2 ?_
    · obtain ⟨_, hr⟩ := hf
      rcases hr with ⟨h9, _⟩ | ⟨g', cur', hA', hF', _⟩
      · cases h9
      · cases hA'; exact ⟨_, hF'⟩
    · refine ⟨by rw [setL_length]; exact hxl, .inr ⟨g, _, rfl, rfl, g1, g2, by rw [List.size_toArray, setL_length]; exact hcl, ?_⟩⟩
      rw [Nat.add_zero]
      show (setL cur.toList off us).take (n * sz) = _
      rw [setL_take _ _ _ (by omega), g4]
/-! ## Calls with blocks of their own -/
theorem OpT.callE {f : FuncId} {args : List Value} {d : Nat} {α : Type} {p : α → Prop} {val : α → Value} {own : α → List HA} (hg : gOf all env ec o = some []) (he : evCall env ec [] o = some (f, args)) (hd : o.dst = some d) (hN : Nat.blt d C.N.n = true) (hs : safeC all d ec = true)
    (hc : ∀ w, Cls C.w0 w H → Spec C.S.P f args w (fun u A => ∃ x, p x ∧ u = val x ∧ A = own x)) (h : ∀ x, p x → Φ ((d, val x) :: env) ec (own x ++ H)) : OpT C all o env ec H Φ :=
  OpT.call hg he hd hN hs hc (by rintro u A ⟨x, hp, rfl, rfl⟩; exact h x hp)
theorem OpT.callE1 {f : FuncId} {args : List Value} {d : Nat} {α : Type} {p : α → Prop} {val : α → Value} {own : α → HA} (hg : gOf all env ec o = some []) (he : evCall env ec [] o = some (f, args)) (hd : o.dst = some d) (hN : Nat.blt d C.N.n = true) (hs : safeC all d ec = true)
    (hc : ∀ w, Cls C.w0 w H → Spec C.S.P f args w (fun u A => ∃ x, p x ∧ u = val x ∧ A = [own x])) (h : ∀ x, p x → Φ ((d, val x) :: env) ec (own x :: H)) : OpT C all o env ec H Φ :=
  OpT.call hg he hd hN hs hc (by rintro u A ⟨x, hp, rfl, rfl⟩; exact h x hp)
end

/-! ## Drawn regions: whichever may come up comes up -/
def notIn (done : List Nat) : List (Nat × Oper) → List (Nat × Oper)
  | [] => []
  | (n, o) :: l => cond (isNum n done) (notIn done l) ((n, o) :: notIn done l)
def remL (all : Array Oper) (done : List Nat) : List (Nat × Oper) := notIn done (zipN nums all.toList)
def pickF (rem : List (Nat × Oper)) : List (Nat × Oper) → Option (Nat × Oper)
  | (n, o) :: l => cond (quietO o.op && freeL rem o.after.toList) (some (n, o)) (pickF rem l)
  | [] => none
def pickQ (all : Array Oper) (done : List Nat) : Option (Nat × Oper) := pickF (remL all done) (remL all done)
def readyF (rem : List (Nat × Oper)) : List (Nat × Oper) → List (Nat × Oper)
  | (n, o) :: l => cond (freeL rem o.after.toList) ((n, o) :: readyF rem l) (readyF rem l)
  | [] => []
def readyL (all : Array Oper) (done : List Nat) : List (Nat × Oper) := readyF (remL all done) (remL all done)
theorem readyF_mem {rem : List (Nat × Oper)} {x : Nat × Oper} : ∀ {l : List (Nat × Oper)}, x ∈ readyF rem l → x ∈ l
  | (n, o) :: l, h => by
    unfold readyF at h
    cases hc : freeL rem o.after.toList with
    | true =>
      rw [hc] at h
      simp only [cond_true, List.mem_cons] at h ⊢
      rcases h with h | h
      · exact .inl h
      · exact .inr (readyF_mem h)
    | false => rw [hc] at h; simp only [cond_false] at h; exact List.mem_cons_of_mem _ (readyF_mem h)
theorem notIn_mem {done : List Nat} {x : Nat × Oper} : ∀ {l : List (Nat × Oper)}, x ∈ notIn done l → x ∈ l
  | (n, o) :: l, h => by
    unfold notIn at h
    cases hc : isNum n done with
    | true => rw [hc] at h; simp only [cond_true] at h; exact List.mem_cons_of_mem _ (notIn_mem h)
    | false =>
      rw [hc] at h
      simp only [cond_false, List.mem_cons] at h ⊢
      rcases h with h | h
      · exact .inl h
      · exact .inr (notIn_mem h)
theorem zipN_mem {x : Nat × Oper} : ∀ {ns : List Nat} {os : List Oper}, x ∈ zipN ns os → ∃ k : Nat, ns[k]? = some x.1 ∧ os[k]? = some x.2
  | n :: ns, o :: os, h => by
    simp only [zipN, List.mem_cons] at h
    rcases h with rfl | h
    · exact ⟨0, rfl, rfl⟩
    · obtain ⟨k, h1, h2⟩ := zipN_mem h; exact ⟨k + 1, by simpa using h1, by simpa using h2⟩
  | [], _, h => by simp [zipN] at h
  | _ :: _, [], h => by simp [zipN] at h
theorem nums_get : ∀ k : Nat, k < nums.length → nums[k]? = some k := by decide +kernel
theorem readyL_get {all : Array Oper} {done : List Nat} {x : Nat × Oper} (h : x ∈ readyL all done) : all[x.1]? = some x.2 := by
  obtain ⟨k, h1, h2⟩ := zipN_mem (notIn_mem (readyF_mem h))
  have h3 := nums_get k (List.getElem?_eq_some_iff.1 h1).1
  rw [h1] at h3
  cases h3
  simpa using h2
def chkQ (all : Array Oper) (z : Nat) (done : List Nat) (i : Nat) : Bool :=
  noDef all && (Region.noSelect all && (Region.free .any all (lst all done) i && ((Region.ready .any all (lst all done)).contains i && (waits .any all z i && live z (lst all done)))))
def AllL (p : Nat → Oper → Prop) : List (Nat × Oper) → Prop
  | [] => True
  | x :: l => p x.1 x.2 ∧ AllL p l
theorem AllL.mem {p : Nat → Oper → Prop} : ∀ {l : List (Nat × Oper)}, AllL p l → ∀ x ∈ l, p x.1 x.2
  | [], _, x, hx => by cases hx
  | y :: l, h, x, hx => by
    rcases List.mem_cons.1 hx with e | hx
    · subst e; exact h.1
    · exact AllL.mem h.2 x hx
section
variable {r : Option Nat} {n : Nat} {P : Program} {ops : Array Oper} {Q : Exit → Act → World → Prop} {md : Region.Mode} {S : World → Prop} {z : Nat}
/-- What leans on no memory is taken first, whatever turns. -/
theorem wpAnyHR_pure {i : Nat} {oi : Oper} {v : Value} (hnd : noDef ops = true) (hi : ops[i]? = some oi) (hsel : ∀ (j : Nat) (o : Oper) cs b, ops[j]? = some o → o.op ≠ .select cs b)
    (hQ : ∀ c a w, Q (.panic c) (a.put oi.dst v) w → Q (.panic c) a w) (hiz : i ≠ z) :
    ∀ (fuel : Nat) (listed : Array Bool) (a : Act) (w : World),
      (∀ j oj, ops[j]? = some oj → j ≠ i → listed.getD j true = false → (∀ e ∈ oj.after, Region.binds md e = true → e.on ≠ i) → oi.apart ops oj = true) →
      i ∈ Region.ready md ops listed → YieldsS P ops (fun _ => True) oi v a → (live z listed = true → S w) →
      wpAnyHR r n P md ops Q S z fuel (listed.setIfInBounds i true) (a.put oi.dst v) w → wpAnyHR r n P md ops Q S z (fuel + 1) listed a w := by
  have hlz : ∀ listed : Array Bool, live z (listed.setIfInBounds i true) = live z listed := fun listed => by
    unfold live
    rw [Array.getD_eq_getD_getElem?, Array.getElem?_setIfInBounds_ne hiz, ← Array.getD_eq_getD_getElem?]
  intro fuel
  induction fuel with
  | zero =>
    intro listed a w _ hr hy hS H
    refine ⟨fun h => (by rw [h] at hr; cases hr), fun j hj => ?_⟩
    by_cases hji : j = i
    · subst hji; exact hy.op hnd hi trivial ⟨fun h => hS (by rw [← hlz]; exact h), H⟩
    · have := ready_mono hj hji
      rw [H.1] at this
      cases this
  | succ fuel ih =>
    intro listed a w hfree hr hy hS H
    refine ⟨fun h => (by rw [h] at hr; cases hr), fun j hj => ?_⟩
    by_cases hji : j = i
    · subst hji; exact hy.op hnd hi trivial ⟨fun h => hS (by rw [← hlz]; exact h), H⟩
    · have h1 := H.2 j (ready_mono hj hji)
      obtain ⟨hjun, oj, hoj, hall⟩ := mem_ready.1 hj
      have hnot : ∀ e ∈ oj.after, Region.binds md e = true → e.on ≠ i := fun e he hb heq => by
        have h1 := hall e he hb
        have h0 := (mem_ready.1 hr).1
        rw [heq] at h1
        rcases Nat.lt_or_ge i listed.size with h' | h'
        · simp [h'] at h0 h1; rw [h0] at h1; cases h1
        · simp [Array.getElem?_eq_none h'] at h1
      have h2 := wpOpIn_putS hnd hoj (hfree j oj hoj hji hjun hnot) (fun cs b => hsel i oi cs b hi) (fun cs b => hsel j oj cs b hoj) hQ hy h1
      have hfree' : ∀ k ok, ops[k]? = some ok → k ≠ i → (listed.setIfInBounds j true).getD k true = false →
          (∀ e ∈ ok.after, Region.binds md e = true → e.on ≠ i) → oi.apart ops ok = true := fun k ok hk hki hun hno => by
        refine hfree k ok hk hki ?_ hno
        by_cases hjk : j = k
        · subst hjk; exact hjun
        · rw [getD_set_ne true hjk] at hun; exact hun
      have hl2 : live z ((listed.setIfInBounds i true).setIfInBounds j true) = live z (listed.setIfInBounds j true) := by
        rw [Array.setIfInBounds_comm _ _ (Ne.symm hji), hlz]
      refine wpOpIn_mono (fun a' w' h3 => ⟨fun h => h3.2.1 (by rw [hl2]; exact h), ih (listed.setIfInBounds j true) a' w' hfree' (ready_mono hr (Ne.symm hji)) h3.1 (fun h => h3.2.1 (by rw [hl2]; exact h)) ?_⟩) h2
      rw [Array.setIfInBounds_comm _ _ hji]
      exact h3.2.2
end
/-- In whatever world the operation yields v. -/
def ValP (C : Cx) (all : Array Oper) (o : Oper) (env : Env) (ec : EnvC) (G : GId) (v : Value) : Prop := ∀ a w, Agrees C.N all env ec a → Holds all a G → (execOp a.eval o).run C.S.P w = .ok (.value v) w
def chkP (all : Array Oper) (z : Nat) (done : List Nat) (i : Nat) : Bool :=
  noDef all && (Region.noSelect all && (Region.free .any all (lst all done) i && ((Region.ready .any all (lst all done)).contains i && !(Nat.beq i z))))
section
variable {C : Cx} {all : Array Oper} {o : Oper} {env : Env} {ec : EnvC} {G : GId} {v : Value}
theorem ValP.pure (hv : evP C.S all env ec G o = some v) : ValP C all o env ec G v := fun _ w ha hH => evP_spec ha hH hv w
theorem ValP.vc {p : Prop} (hv : evV C.S env ec G o = some (v, p)) (hp : GP all env ec G → p) : ValP C all o env ec G v := fun _ w ha hH => evV_spec ha hH hv (hp (hH.gp ha)) w
theorem ValP.val {Hs : List HA} (h : ValP C all o env ec G v) : Val C all o env ec Hs G v := fun a w ha _ hH => h a w ha hH
end
section
variable {C : Cx} {all : Array Oper} {o : Oper} {k : List It} {env : Env} {ec : EnvC} {H Hs : List HA} {d : Nat} {v : Value} {fuel : Nat} {done : List Nat} {G : GId} {z i : Nat}
theorem chkP_spec (h : chkP all z done i = true) : noDef all = true ∧ Region.noSelect all = true ∧ Region.free .any all (lst all done) i = true ∧ i ∈ Region.ready .any all (lst all done) ∧ i ≠ z := by
  simp only [chkP, Bool.and_eq_true, Bool.not_eq_true'] at h
  obtain ⟨h1, h2, h3, h4, h5⟩ := h
  exact ⟨h1, h2, h3, by simpa using h4, fun e => by subst e; simp at h5⟩
theorem dwp (hp : pickQ all done = some (i, o)) (hk : chkP all z done i = true) (hi : all[i]? = some o) (hg : gOf all env ec o = some []) (hv : ValP C all o env ec [] v) (hd : o.dst = some d) (hN : Nat.blt d C.N.n = true) (hs : safeC all d ec = true)
    (h : T C (.draw all fuel (lst all (i :: done)) Hs z :: k) ((d, v) :: env) ec H) (hle : live z (lst all done) = true → Hle H Hs := by intro h; first | exact Hle.refl _ | exact Hle.none _ | exact Hle.sub | exact absurd h (by decide +kernel)) : T C (.draw all (fuel + 1) (lst all done) Hs z :: k) env ec H := by
  obtain ⟨h1, h2, h3, h4, h5⟩ := chkP_spec hk
  refine T.mk fun a w ha hw => ?_
  have hwn := (wanted_iff ha hg).2 (Holds.nil _ _)
  refine wpAnyHR_pure h1 hi (Region.noSelect_spec h2) (fun c a w q => q) h5 fuel _ a w (Region.free_spec hi h3) h4 (.inl ⟨hwn, fun w' _ => hv a w' ha (Holds.nil _ _)⟩) (fun hl => hw.le (hle hl)) ?_
  rw [hd]
  exact h _ w (ha.put hN hs) hw
theorem dwpg (hp : pickQ all done = some (i, o)) (hk : chkP all z done i = true) (hi : all[i]? = some o) (hg : gOf all env ec o = some G) (hv : ValP C all o env ec G v) (hd : o.dst = some d) (hN : Nat.blt d C.N.n = true) (hs : safeC all d ec = true) (hsG : safeG all d G = true) (hl : lookE env d = none)
    (h : T C (.draw all fuel (lst all (i :: done)) Hs z :: k) env ((d, (G, v)) :: ec) H) (hle : live z (lst all done) = true → Hle H Hs := by intro h; first | exact Hle.refl _ | exact Hle.none _ | exact Hle.sub | exact absurd h (by decide +kernel)) : T C (.draw all (fuel + 1) (lst all done) Hs z :: k) env ec H := by
  obtain ⟨h1, h2, h3, h4, h5⟩ := chkP_spec hk
  refine T.mk fun a w ha hw => ?_
  by_cases hH : Holds all a G
  · have hwn := (wanted_iff ha hg).2 hH
    refine wpAnyHR_pure h1 hi (Region.noSelect_spec h2) (fun c a w q => q) h5 fuel _ a w (Region.free_spec hi h3) h4 (.inl ⟨hwn, fun w' _ => hv a w' ha hH⟩) (fun hl => hw.le (hle hl)) ?_
    rw [hd]
    exact h _ w (ha.putC hN hs hsG hl (fun _ => rfl) (fun hh => absurd hH hh)) hw
  · have hwn : Region.wanted o (yielded all a.tmps) = false := by
      cases hq : Region.wanted o (yielded all a.tmps) with
      | false => rfl
      | true => exact absurd ((wanted_iff ha hg).1 hq) hH
    refine wpAnyHR_pure h1 hi (Region.noSelect_spec h2) (fun c a w q => q) h5 fuel _ a w (Region.free_spec hi h3) h4 (.inr ⟨hwn, rfl⟩) (fun hl => hw.le (hle hl)) ?_
    rw [hd]
    exact h _ w (ha.putC hN hs hsG hl (fun hh => absurd hh hH) (fun _ => rfl)) hw
/-- The region begins; Hs: what stays as it is until operation z. -/
theorem dw0 {id : Nat} (z : Nat) (Hs : List HA) (h : T C (.draw all all.size (lst all []) Hs z :: k) env [] H) : T C (.code (.region id all true) :: k) env ec H := T_draw z Hs h
theorem dwe (hr : (Region.ready .any all (lst all done)).isEmpty = true) (h : T C (nf 60 k) env [] H) : T C (.draw all fuel (lst all done) Hs z :: k) env ec H := T_dend (List.isEmpty_iff.1 hr) h
theorem chkQ_spec (h : chkQ all z done i = true) : noDef all = true ∧ Region.noSelect all = true ∧ Region.free .any all (lst all done) i = true ∧ (Region.ready .any all (lst all done)).contains i = true ∧ waits .any all z i = true ∧ live z (lst all done) = true := by
  simpa only [chkQ, Bool.and_eq_true] using h
theorem dwv (hp : pickQ all done = some (i, o)) (hk : chkQ all z done i = true) (hi : all[i]? = some o) (hg : gOf all env ec o = some []) (hv : Val C all o env ec Hs [] v) (hd : o.dst = some d) (hN : Nat.blt d C.N.n = true) (hs : safeC all d ec = true)
    (h : T C (.draw all fuel (lst all (i :: done)) Hs z :: k) ((d, v) :: env) ec H) (hle : Hle H Hs := by first | exact Hle.refl _ | exact Hle.none _ | exact Hle.sub) : T C (.draw all (fuel + 1) (lst all done) Hs z :: k) env ec H := by
  obtain ⟨h1, h2, h3, h4, h5, h6⟩ := chkQ_spec hk
  exact T_dval i hi h1 h2 h3 h4 h5 h6 hg hv hd hN hs hle h
theorem dwg (hp : pickQ all done = some (i, o)) (hk : chkQ all z done i = true) (hi : all[i]? = some o) (hg : gOf all env ec o = some G) (hv : Val C all o env ec Hs G v) (hd : o.dst = some d) (hN : Nat.blt d C.N.n = true) (hs : safeC all d ec = true) (hsG : safeG all d G = true) (hl : lookE env d = none)
    (h : T C (.draw all fuel (lst all (i :: done)) Hs z :: k) env ((d, (G, v)) :: ec) H) (hle : Hle H Hs := by first | exact Hle.refl _ | exact Hle.none _ | exact Hle.sub) : T C (.draw all (fuel + 1) (lst all done) Hs z :: k) env ec H := by
  obtain ⟨h1, h2, h3, h4, h5, h6⟩ := chkQ_spec hk
  exact T_dvalC i hi h1 h2 h3 h4 h5 h6 hg hv hd hN hs hsG hl hle h
/-- None that turns nothing can be taken: any of those that are ready. -/
theorem dwb {rs : List (Nat × Oper)} (hp : readyL all done = rs) (hk : (!rs.isEmpty && decide (Region.ready .any all (lst all done) = rs.map Prod.fst)) = true)
    (h : AllL (fun i o => OpT C all o env ec H (fun env' ec' H' => (live z (lst all (i :: done)) = true → Hle H' Hs) ∧ T C (.draw all fuel (lst all (i :: done)) Hs z :: k) env' ec' H')) rs) : T C (.draw all (fuel + 1) (lst all done) Hs z :: k) env ec H := by
  simp only [Bool.and_eq_true, decide_eq_true_eq, Bool.not_eq_true'] at hk
  refine T_dops hk.2 ?_ fun i hi => ?_
  · cases rs with
    | nil => simp at hk
    | cons x l => rfl
  · obtain ⟨x, hx, rfl⟩ := List.mem_map.1 hi
    exact ⟨x.2, readyL_get (hp ▸ hx), h.mem x hx⟩
end
section
variable {C : Cx} {all : Array Oper} {o : Oper} {env : Env} {ec : EnvC} {H Hs : List HA} {d : Nat} {L : Prop} {X : Env → EnvC → List HA → Prop}
theorem dxBox {t : TypeId} {x : Operand} {u : Value} {cs : List Value} (hg : gOf all env ec o = some []) (ho : o.op = .box t x) (hx : evX env ec [] x = some u) (hcs : u.cells.toList = cs) (hd : o.dst = some d) (hN : Nat.blt d C.N.n = true) (hs : safeC all d ec = true)
    (hle : ∀ b, L → Hle (blk b cs t :: H) Hs) (h : ∀ b, X ((d, .pointer (some ⟨b, 0, none⟩)) :: env) ec (blk b cs t :: H)) : OpT C all o env ec H (fun e c H' => (L → Hle H' Hs) ∧ X e c H') := OpT.box hg ho hx hcs hd hN hs fun b => ⟨hle b, h b⟩
theorem dxAlloc {t : TypeId} {ty : TyI} {cs : List Value} (hg : gOf all env ec o = some []) (ho : o.op = .alloc t) (ht : C.S.ty t = some ty) (hcs : ty.zero.cells.toList = cs) (hd : o.dst = some d) (hN : Nat.blt d C.N.n = true) (hs : safeC all d ec = true)
    (hle : ∀ b, L → Hle (blk b cs t :: H) Hs) (h : ∀ b, X ((d, .pointer (some ⟨b, 0, none⟩)) :: env) ec (blk b cs t :: H)) : OpT C all o env ec H (fun e c H' => (L → Hle H' Hs) ∧ X e c H') := OpT.alloc hg ho ht hcs hd hN hs fun b => ⟨hle b, h b⟩
theorem dxLit {e : TypeId} {n sz : Nat} {vs : List (Nat × Value)} {ty : TyI} {cs : List Value} (hg : gOf all env ec o = some []) (he : evLit C.S env ec o = some (e, n, vs)) (ht : C.S.ty e = some ty) (hsz : ty.size = sz) (h0 : Nat.blt 0 sz = true)
    (hseq : (isSeq 0 vs && (Nat.beq vs.length n && allSz sz vs)) = true) (hcs : flatP vs = cs) (hln : Nat.ble (n * sz) 16777216 = true) (hd : o.dst = some d) (hN : Nat.blt d C.N.n = true) (hs : safeC all d ec = true)
    (hle : ∀ b, L → Hle (blk b cs e :: H) Hs) (h : ∀ b, X ((d, .slice (some ⟨b, 0, none⟩) n n) :: env) ec (blk b cs e :: H)) : OpT C all o env ec H (fun e c H' => (L → Hle H' Hs) ∧ X e c H') := OpT.litW hg he ht hsz h0 hseq hcs hln hd hN hs fun b => ⟨hle b, h b⟩
theorem dxMake {e : TypeId} {l c : Int} {ty : TyI} {z : Value} (hg : gOf all env ec o = some []) (he : evMk C.S env ec o = some (e, l, c)) (ht : C.S.ty e = some ty) (h1 : ty.zero = z) (hz1 : z.cells = #[z]) (hs1 : Nat.beq ty.size 1 = true) (hd : o.dst = some d) (hN : Nat.blt d C.N.n = true) (hs : safeC all d ec = true)
    (hb : (0 ≤ l ∧ l ≤ c) ∧ (ty.bytes : Int) * c ≤ 281474976710656 ∧ c ≤ 9223372036854775807) (hle : ∀ b, L → Hle (blk b (List.replicate c.toNat z) e :: H) Hs) (h : ∀ b, X ((d, .slice (some ⟨b, 0, none⟩) l.toNat c.toNat) :: env) ec (blk b (List.replicate c.toNat z) e :: H)) : OpT C all o env ec H (fun e c H' => (L → Hle H' Hs) ∧ X e c H') :=
  OpT.make hg he ht h1 hz1 hs1 hd hN hs hb fun b => ⟨hle b, h b⟩
end
/-- One step of such a region. -/
theorem dw1 {A B : Prop} (h : B) (hab : B → A := by
  intro hh
  first
  | exact dwp rfl (by decide +kernel) rfl rfl (by first | exact ValP.pure rfl | exact ValP.vc rfl (fun hg => by first | (simp only [inK]; omega) | omega | with_reducible exact True.intro | with_reducible assumption)) rfl rfl rfl hh
  | exact dwpg rfl (by decide +kernel) rfl rfl (by first | exact ValP.pure rfl | exact ValP.vc rfl (fun hg => by
             (simp only [List.cons_append, List.nil_append, GP, dstL, lookE, Nat.beq, cond, List.getElem?_cons_zero, List.getElem?_cons_succ, Option.bind_some, and_true, Bool.and_eq_true, Bool.or_eq_true, Bool.and_eq_false_iff, Bool.or_eq_false_iff, Bool.not_eq_true', Bool.not_eq_false', decide_eq_true_eq, decide_eq_false_iff_not] at hg)
             first | (simp only [inK]; omega) | omega | with_reducible exact True.intro | with_reducible assumption)) rfl rfl rfl rfl rfl hh
  | exact dwv rfl (by decide +kernel) rfl rfl (by
         first
         | exact Val.load rfl (fun _ => rdOwn1 rfl)
         | exact Val.loadA rfl (fun _ => rdAll) rfl
         | exact Val.build rfl
         | exact Val.load rfl (fun _ => rdOld ‹RdC _ _ _ [_]›)
         | exact Val.load rfl (fun _ => rdOld (RdC.at ‹RdC _ _ _ _› rfl))
         | exact Val.load rfl (fun _ => rdOld (RdC.at2 ‹RdC _ _ _ _› rfl))
         | exact Val.loadA rfl (fun _ => rdOld ‹RdC _ _ _ _›) rfl) rfl rfl rfl hh
  | exact dwg rfl (by decide +kernel) rfl rfl (by
         first
         | exact Val.load rfl (fun _ => rdOwn1 rfl)
         | exact Val.loadA rfl (fun _ => rdAll) rfl
         | exact Val.build rfl
         | exact Val.load rfl (fun _ => rdOld ‹RdC _ _ _ [_]›)
         | exact Val.load rfl (fun _ => rdOld (RdC.at ‹RdC _ _ _ _› rfl))
         | exact Val.load rfl (fun _ => rdOld (RdC.at2 ‹RdC _ _ _ _› rfl))
         | exact Val.loadA rfl (fun _ => rdOld ‹RdC _ _ _ _›) rfl) rfl rfl rfl rfl rfl hh
  | exact dwe (by decide +kernel) hh) : A := hab h
/-- One that turns something, in such a region. -/
theorem dwx {A B : Prop} (h : B) (hab : B → A := by
  intro hh
  first
  | exact OpT.ofVal rfl (Val.pure rfl) rfl rfl rfl ⟨fun _ => (by first | exact Hle.none _ | exact Hle.sub | exact absurd ‹_› (by decide +kernel)), hh⟩
  | exact OpT.ofVal rfl (Val.vc rfl (fun hg => by first | (simp only [inK]; omega) | omega | with_reducible exact True.intro | with_reducible assumption)) rfl rfl rfl ⟨fun _ => (by first | exact Hle.none _ | exact Hle.sub | exact absurd ‹_› (by decide +kernel)), hh⟩
  | exact dxBox rfl rfl rfl rfl rfl rfl rfl (fun b _ => (by first | exact Hle.none _ | exact Hle.sub | exact absurd ‹_› (by decide +kernel))) hh
  | exact dxAlloc rfl rfl rfl rfl rfl rfl rfl (fun b _ => (by first | exact Hle.none _ | exact Hle.sub | exact absurd ‹_› (by decide +kernel))) hh
  | exact dxLit rfl rfl rfl rfl rfl rfl rfl rfl rfl rfl rfl (fun b _ => (by first | exact Hle.none _ | exact Hle.sub | exact absurd ‹_› (by decide +kernel))) hh
  | exact dxMake rfl rfl rfl rfl rfl rfl rfl rfl rfl (by first | omega | (dsimp only; omega)) (fun b _ => (by first | exact Hle.none _ | exact Hle.sub | exact absurd ‹_› (by decide +kernel))) hh
  | exact OpT.store rfl rfl rfl rfl (by first | exact Nat.le_of_ble_eq_true rfl | decide | (simp; omega)) ⟨fun _ => (by first | exact Hle.none _ | exact Hle.sub | exact absurd ‹_› (by decide +kernel)), hh⟩
  | exact OpT.storeA rfl rfl rfl rfl rfl rfl (by first | exact Nat.le_of_ble_eq_true rfl | decide | (simp; omega)) ⟨fun _ => (by first | exact Hle.none _ | exact Hle.sub | exact absurd ‹_› (by decide +kernel)), hh⟩) : A := hab h
end Go.Proofs.YtiglobijdegjdaaDoor
