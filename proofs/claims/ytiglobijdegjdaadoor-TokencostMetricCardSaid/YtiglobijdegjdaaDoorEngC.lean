/- The engine, third part: what is still to be done, and the statement of a walk. It speaks of any program. -/
import Derived.Test.YtiglobijdegjdaaDoorEngO
namespace Go.Proofs.YtiglobijdegjdaaDoor
open Go.RowKit Go.Shelf

/-- WHAT A CALL COMES TO: a value, and blocks of its own; what was there is as it was. -/
def Ret (w : World) (Φ : Value → List HA → Prop) : Ending → World → Prop :=
  fun e w' => ∃ v A, e = .returned v ∧ Φ v A ∧ Below w.heap.size w w' ∧ Sep w.heap.size w' A
/-- A CONTRACT. -/
structure Spec (P : Program) (f : FuncId) (args : List Value) (w : World) (Φ : Value → List HA → Prop) : Prop where
  enters : Enters P f
  calls : Calls P f args.toArray w (Ret w Φ)
/-- What is walked: the program, how many slots, the world in which the call began; whose round the frame is; what is owed where the walk falls off its end, where it returns, where it jumps out. -/
structure Cx where
  S : Sig
  N : FK
  w0 : World
  rd : Option Nat
  Rn : Act → World → Prop
  Rr : Act → World → Prop
  Rx : Nat → Act → World → Prop
/-- Operations that turn nothing. -/
def quietO : Op → Bool
  | .call { callee := .builtin b, args := _, argTypes := _ } => match b with
    | .len => true
    | .cap => true
    | .min => true
    | .max => true
    | _ => false
  | .call _ => false
  | .store _ _ _ => false
  | .box _ _ => false
  | .alloc _ => false
  | .buildSlice _ _ _ => false
  | .makeSlice _ _ _ => false
  | _ => true
/-- What has been listed. -/
def lst (all : Array Oper) : List Nat → Array Bool
  | [] => Array.replicate all.size false
  | i :: l => (lst all l).setIfInBounds i true
/-- In this order, each operation that turns nothing can be taken first, and each other one is the only one that can. -/
def chkOrd (all : Array Oper) (z : Nat) : List Nat → Array Bool → Bool
  | [], listed => (Region.ready .any all listed).isEmpty
  | i :: ord, listed => (match all[i]? with
    | some o => cond (quietO o.op) (Region.free .any all listed i && ((Region.ready .any all listed).contains i && (waits .any all z i && live z listed))) (decide (Region.ready .any all listed = [i]))
    | none => false) && chkOrd all z ord (listed.setIfInBounds i true)
def chkR (all : Array Oper) (z : Nat) (done ord : List Nat) : Bool := noDef all && (Region.noSelect all && chkOrd all z ord (lst all done))
inductive It where
  | code (c : Code)
  | ops (all : Array Oper) (rest : List Oper)
  | run (all : Array Oper) (done ord : List Nat) (Hs : List HA) (z : Nat)
  | draw (all : Array Oper) (fuel : Nat) (listed : Array Bool) (Hs : List HA) (z : Nat)
  | out (id : Nat)
  | mark (M : Act → World → Prop)

def post (n : Act → World → Prop) (l : Nat → Act → World → Prop) (R : Act → World → Prop) : Exit → Act → World → Prop
  | .normal, a, w => n a w
  | .exit id, a, w => l id a w
  | .ret, a, w => R a w
  | _, _, _ => False
/-- What is to be done, and where a jump out of a block leads. -/
def sem (C : Cx) : List It → (Act → World → Prop) × (Nat → Act → World → Prop)
  | [] => (C.Rn, C.Rx)
  | .code c :: k => (c.wpIn (Fr C.rd) 0 C.S.P (post (sem C k).1 (sem C k).2 C.Rr), (sem C k).2)
  | .ops all rest :: k => (wpListIn (Fr C.rd) 0 C.S.P all (post (sem C k).1 (sem C k).2 C.Rr) rest, (sem C k).2)
  | .draw all fuel listed Hs z :: k => (wpAnyHR C.rd 0 C.S.P .any all (post (sem C k).1 (sem C k).2 C.Rr) (fun w => Cls C.w0 w Hs) z fuel listed, (sem C k).2)
  | .run all done ord Hs z :: k => (fun a w => chkR all z done ord = true → wpAnyHR C.rd 0 C.S.P .any all (post (sem C k).1 (sem C k).2 C.Rr) (fun w => Cls C.w0 w Hs) z ord.length (lst all done) a w, (sem C k).2)
  | .out id :: k => ((sem C k).1, fun i => if i = id then (sem C k).1 else (sem C k).2 i)
  | .mark M :: k => (M, (sem C k).2)
def allOf : List It → Array Oper
  | .ops all _ :: _ => all
  | .draw all _ _ _ _ :: _ => all
  | .run all _ _ _ _ :: _ => all
  | _ => #[]
/-- FROM EVERY STATE OF WHICH THIS IS KNOWN THE WALK GOES THROUGH. -/
structure T (C : Cx) (k : List It) (env : Env) (ec : EnvC) (H : List HA) : Prop where
  go : ∀ a w, Agrees C.N (allOf k) env ec a → Cls C.w0 w H → (sem C k).1 a w
instance (C : Cx) (k : List It) (env : Env) (ec : EnvC) (H : List HA) : CoeFun (T C k env ec H) (fun _ => ∀ a w, Agrees C.N (allOf k) env ec a → Cls C.w0 w H → (sem C k).1 a w) := ⟨T.go⟩

/-! ## Structure -/
def dropTo (id : Nat) : List It → Option (List It)
  | [] => none
  | .out j :: k => cond (Nat.beq j id) (some k) (dropTo id k)
  | _ :: k => dropTo id k
theorem dropTo_spec {C : Cx} {id : Nat} {a : Act} {w : World} : ∀ {k k' : List It}, dropTo id k = some k' → (sem C k').1 a w → (sem C k).2 id a w
  | .out j :: k, k', h, hs => by
    unfold dropTo at h
    cases hb : Nat.beq j id with
    | true =>
      rw [hb] at h
      have e : j = id := Nat.eq_of_beq_eq_true hb
      simp only [cond_true, Option.some.injEq] at h
      subst h; subst e
      simpa [sem] using hs
    | false =>
      rw [hb] at h
      have e : id ≠ j := fun e => by subst e; simp at hb
      simp only [cond_false] at h
      simp only [sem, if_neg e]
      exact dropTo_spec h hs
  | .code c :: k, k', h, hs => dropTo_spec (k := k) h hs
  | .ops _ _ :: k, k', h, hs => dropTo_spec (k := k) h hs
  | .draw _ _ _ _ _ :: k, k', h, hs => dropTo_spec (k := k) h hs
  | .run _ _ _ _ _ :: k, k', h, hs => dropTo_spec (k := k) h hs
  | .mark _ :: k, k', h, hs => dropTo_spec (k := k) h hs
def nf : Nat → List It → List It
  | 0, k => k
  | n + 1, .code (.seq a b) :: k => nf n (.code a :: .code b :: k)
  | n + 1, .code (.block id c) :: k => nf n (.code c :: .out id :: k)
  | n + 1, .code .skip :: k => nf n k
  | n + 1, .out _ :: k => nf n k
  | n + 1, .code (.exit id) :: k => match dropTo id k with
    | some k' => nf n k'
    | none => .code (.exit id) :: k
  | n + 1, .code (.region _ ops false) :: k => match ops.toList with
    | [] => nf n k
    | o :: l => .ops ops (o :: l) :: k
  | _ + 1, k => k
theorem nf_spec {C : Cx} {a : Act} {w : World} : ∀ {n : Nat} {k : List It}, (sem C (nf n k)).1 a w → (sem C k).1 a w := by
  intro n
  induction n with
  | zero => intro k h; simpa [nf] using h
  | succ n ih =>
    intro k h
    unfold nf at h
    split at h
    · rename_i he; cases he
    · rename_i m x y k he; cases he
      have h2 := ih h
      simp only [sem] at h2 ⊢
      refine wpIn_seq (wpIn_mono h2 fun e a w q => ?_)
      cases e <;> first | exact q | exact q.elim
    · rename_i m id c k he; cases he
      have h2 := ih h
      simp only [sem] at h2 ⊢
      refine wpIn_block (wpIn_mono h2 fun e a w q => ?_)
      cases e <;> first | exact q | exact q.elim | skip
      rename_i i
      simp only [post, Exit.inBlock] at q ⊢
      by_cases hi : i = id
      · rw [if_pos hi] at q ⊢; exact q
      · rw [if_neg hi] at q ⊢; exact q
    · rename_i m k he; cases he
      have h2 := ih h
      simp only [sem]
      exact wpIn_skip h2
    · rename_i m i k he; cases he
      have h2 := ih h
      simpa [sem] using h2
    · rename_i m id k he; cases he
      split at h
      · rename_i k' hk
        have h2 := ih h
        simp only [sem]
        exact wpIn_exit (dropTo_spec hk h2)
      · exact h
    · rename_i m id ops k he; cases he
      split at h
      · rename_i hk
        have h2 := ih h
        simp only [sem]
        exact wpIn_region_list (by rw [hk]; exact wpListIn_nil h2)
      · rename_i o l hk
        simp only [sem] at h ⊢
        exact wpIn_region_list (by rw [hk]; exact h)
    · exact h
/-- The statement is brought to its next step. -/
theorem T_nf {C : Cx} (n : Nat) {k : List It} {env : Env} {ec : EnvC} {H : List HA} (h : T C (nf n k) env [] H) : T C k env ec H :=
  T.mk fun a w ha hw => nf_spec (n := n) (h a w ha.plain hw)
theorem T_end {C : Cx} {all : Array Oper} {k : List It} {env : Env} {ec : EnvC} {H : List HA} (h : T C (nf 60 k) env [] H) : T C (.ops all [] :: k) env ec H :=
  T.mk fun a w ha hw => by
    have := nf_spec (n := 60) (h a w ha.plain hw)
    exact this

section
variable {C : Cx} {k : List It} {env : Env} {ec : EnvC} {H : List HA}
theorem T_le {H' : List HA} (hl : Hle H H') (h : T C k env ec H') : T C k env ec H := T.mk fun a w ha hw => h a w ha (hw.le hl)
theorem T_if {c : Operand} {x y : Code} {t : Bool} (hc : evX env [] [] c = some (.bool t)) (ht : t = true → T C (nf 60 (.code x :: k)) env [] H) (hf : t = false → T C (nf 60 (.code y :: k)) env [] H) : T C (.code (.cond c x y) :: k) env ec H := by
  refine T.mk fun a w ha hw => ?_
  have he := evX_spec (all := #[]) (N := C.N) ha.plain (Holds.nil _ _) hc
  cases t with
  | true => exact wpIn_cond he (nf_spec (n := 60) (ht rfl a w ha.plain hw))
  | false => exact wpIn_cond he (nf_spec (n := 60) (hf rfl a w ha.plain hw))
theorem T_ret (h : ∀ a w, Agrees C.N #[] env [] a → Cls C.w0 w H → C.Rr a w) : T C (.code .ret :: k) env ec H :=
  T.mk fun a w ha hw => wpIn_ret (h a w ha.plain hw)
theorem T_fall (h : ∀ a w, Agrees C.N #[] env [] a → Cls C.w0 w H → C.Rn a w) : T C [] env ec H :=
  T.mk fun a w ha hw => h a w ha.plain hw

/-- What is known of the slots at a loop's head. -/
def EnvLe : Env → Env → Prop
  | [], _ => True
  | (s, v) :: l, env => lookE env s = some v ∧ EnvLe l env
theorem EnvLe.spec : ∀ {l env : Env}, EnvLe l env → ∀ s v, lookE l s = some v → lookE env s = some v
  | (j, u) :: l, env, h, s, v, hl => by
    rcases lookE_cons hl with ⟨rfl, rfl⟩ | ⟨_, hl⟩
    · exact h.1
    · exact EnvLe.spec h.2 s v hl
theorem Agrees.le {N : FK} {all all' : Array Oper} {l : Env} {a : Act} (ha : Agrees N all env ec a) (h : EnvLe l env) : Agrees N all' l [] a :=
  ⟨ha.defers, ha.size, fun s v hl => ha.at_ s v (h.spec s v hl), fun _ _ _ h => (by cases h), fun _ _ _ h => (by cases h)⟩
/-- Of what is known the rest is let go. -/
theorem T_keep (l : Env) (hl : EnvLe l env) (h : T C k l [] H) : T C k env ec H := T.mk fun a w ha hw => h a w (ha.le hl) hw

/-- A LOOP: a family of states, one of which holds at every round's head. -/
def Back (C : Cx) {σ : Type} (E : σ → Env) (G : σ → List HA) (I : σ → Prop) (μ : σ → Nat) (s : σ) : Act → World → Prop :=
  fun a w => ∃ s', I s' ∧ μ s' < μ s ∧ Agrees C.N #[] (E s') [] a ∧ Cls C.w0 w (G s')
theorem T_loop {c : Code} {σ : Type} (E : σ → Env) (G : σ → List HA) (I : σ → Prop) (μ : σ → Nat) (s0 : σ) (hI : I s0) (hE : EnvLe (E s0) env) (hG : Hle H (G s0))
    (hr : ∀ s, I s → T C (nf 60 (.code c :: .mark (Back C E G I μ s) :: k)) (E s) [] (G s)) : T C (.code (.loop c) :: k) env ec H := by
  refine T.mk fun a w ha hw => ?_
  refine wpIn_loop_ghost (fun n a w => ∃ s, μ s = n ∧ I s ∧ Agrees C.N #[] (E s) [] a ∧ Cls C.w0 w (G s)) (μ s0) ⟨s0, rfl, hI, ha.le hE, hw.le hG⟩ ?_
  rintro n a w ⟨s, rfl, hs, ha, hw⟩
  have h2 := nf_spec (hr s hs a w ha.plain hw)
  simp only [sem] at h2
  refine wpIn_mono h2 fun e a w q => ?_
  cases e <;> first | exact q | exact q.elim | skip
  obtain ⟨s', h1, h2, h3, h4⟩ := q
  exact ⟨μ s', h2, s', rfl, h1, h3, h4⟩
/-- At the loop's end: the next round's state. -/
theorem T_back {σ : Type} {E : σ → Env} {G : σ → List HA} {I : σ → Prop} {μ : σ → Nat} {s : σ} (s' : σ) (hI : I s') (hμ : μ s' < μ s) (hE : EnvLe (E s') env) (hG : Hle H (G s')) : T C (.mark (Back C E G I μ s) :: k) env ec H :=
  T.mk fun _ _ ha hw => ⟨s', hI, hμ, ha.le hE, hw.le hG⟩
/-- Where ways meet again: what holds there, on whichever way. -/
def Meets (C : Cx) {σ : Type} (E : σ → Env) (G : σ → List HA) (I : σ → Prop) : Act → World → Prop :=
  fun a w => ∃ s', I s' ∧ Agrees C.N #[] (E s') [] a ∧ Cls C.w0 w (G s')
theorem T_meet {σ : Type} {E : σ → Env} {G : σ → List HA} {I : σ → Prop} (s' : σ) (hI : I s') (hE : EnvLe (E s') env) (hG : Hle H (G s')) : T C (.mark (Meets C E G I) :: k) env ec H :=
  T.mk fun _ _ ha hw => ⟨s', hI, ha.le hE, hw.le hG⟩
theorem T_cut {c : Code} {σ : Type} (E : σ → Env) (G : σ → List HA) (I : σ → Prop) (h1 : T C (nf 60 (.code c :: .mark (Meets C E G I) :: k)) env [] H)
    (h2 : ∀ s, I s → T C (nf 60 k) (E s) [] (G s)) : T C (.code c :: k) env ec H := by
  refine T.mk fun a w ha hw => ?_
  have h3 := nf_spec (h1 a w ha.plain hw)
  simp only [sem] at h3 ⊢
  refine wpIn_mono h3 fun e a w q => ?_
  cases e <;> first | exact q | exact q.elim | skip
  obtain ⟨s', g1, g2, g3⟩ := q
  exact nf_spec (h2 s' g1 a w g2.plain g3)
end
theorem post_mono {n n' : Act → World → Prop} {l l' : Nat → Act → World → Prop} {R : Act → World → Prop} (h1 : ∀ a w, n a w → n' a w) (h2 : ∀ i a w, l i a w → l' i a w) : ∀ e a w, post n l R e a w → post n' l' R e a w := by
  intro e a w q
  cases e <;> first | exact h1 _ _ q | exact h2 _ _ _ q | exact q
theorem upon_monoQ {F : Fence} {n : Nat} {P : Program} {o : Oper} {a : Act} {K K' : Act → World → Prop} {Q Q' : Exit → Act → World → Prop} {res : Result Next} (hK : ∀ a w, K a w → K' a w) (h : ∀ e a w, Q e a w → Q' e a w) (hh : o.uponIn F n P a K Q res) : o.uponIn F n P a K' Q' res := by
  have hl : LetsOut Q → LetsOut Q' := fun ⟨a, w, q⟩ => ⟨a, w, h _ _ _ q⟩
  cases res with
  | ok x w' =>
    cases x <;> simp only [Oper.uponIn] at hh ⊢
    all_goals first
      | exact hK _ _ hh
      | exact hh
      | exact ⟨hh.1, CallsIn.mono hh.2 (fun e w'' he => by cases e <;> first | exact hK _ _ he | exact h _ _ _ he | exact hl he)⟩
      | exact ⟨hh.1, RowsIn.mono hh.2 (fun v w'' he => hK _ _ he)⟩
      | exact ⟨hh.1, RoundIn.mono hh.2 (fun e w'' he => by cases e <;> first | exact hK _ _ he | exact h _ _ _ he | exact hl he)⟩
  | halt x w' => cases x <;> simp only [Oper.uponIn] at hh ⊢ <;> first | exact h _ _ _ hh | exact hh
theorem wpListIn_mono' {F : Fence} {n : Nat} {P : Program} {ops : Array Oper} {Q Q' : Exit → Act → World → Prop} (h : ∀ e a w, Q e a w → Q' e a w) : ∀ {l : List Oper} {a : Act} {w : World}, wpListIn F n P ops Q l a w → wpListIn F n P ops Q' l a w := by
  intro l
  induction l with
  | nil => intro a w q; exact h _ _ _ q
  | cons o l ih =>
    intro a w q
    unfold wpListIn at q ⊢
    split at q
    · rename_i hw
      rw [if_pos hw]
      exact ⟨q.1, upon_monoQ (fun a w => ih) h q.2⟩
    · rename_i hw
      rw [if_neg hw]
      exact ⟨q.1, ih q.2⟩
theorem wpAnyHR_monoQ {r : Option Nat} {n : Nat} {P : Program} {md : Region.Mode} {ops : Array Oper} {Q Q' : Exit → Act → World → Prop} {S : World → Prop} {z : Nat} (h : ∀ e a w, Q e a w → Q' e a w) : ∀ {fuel : Nat} {listed : Array Bool} {a : Act} {w : World}, wpAnyHR r n P md ops Q S z fuel listed a w → wpAnyHR r n P md ops Q' S z fuel listed a w := by
  intro fuel
  induction fuel with
  | zero => intro listed a w q; exact ⟨q.1, h _ _ _ q.2⟩
  | succ fuel ih =>
    intro listed a w q
    refine ⟨fun hr => h _ _ _ (q.1 hr), fun i hi => ?_⟩
    have q2 := q.2 i hi
    unfold wpOpIn at q2 ⊢
    split
    · rename_i ho; rw [ho] at q2; exact ⟨q2.1, ih q2.2⟩
    · rename_i o ho
      rw [ho] at q2
      simp only at q2
      split
      · rename_i hw; rw [if_pos hw] at q2; exact ⟨q2.1, upon_monoQ (fun a w q => ⟨q.1, ih q.2⟩) h q2.2⟩
      · rename_i hw; rw [if_neg hw] at q2; exact ⟨q2.1, q2.2.1, ih q2.2.2⟩
theorem sem_mono {C : Cx} {k2 k3 : List It} (h1 : ∀ a w, (sem C k2).1 a w → (sem C k3).1 a w) (h2 : ∀ i a w, (sem C k2).2 i a w → (sem C k3).2 i a w) : ∀ k1 : List It, (∀ a w, (sem C (k1 ++ k2)).1 a w → (sem C (k1 ++ k3)).1 a w) ∧ ∀ i a w, (sem C (k1 ++ k2)).2 i a w → (sem C (k1 ++ k3)).2 i a w
  | [] => ⟨h1, h2⟩
  | .code c :: k => by
    obtain ⟨i1, i2⟩ := sem_mono h1 h2 k
    exact ⟨fun a w q => wpIn_mono q (post_mono i1 i2), i2⟩
  | .ops all rest :: k => by
    obtain ⟨i1, i2⟩ := sem_mono h1 h2 k
    exact ⟨fun a w q => wpListIn_mono' (post_mono i1 i2) q, i2⟩
  | .run all done ord Hs z :: k => by
    obtain ⟨i1, i2⟩ := sem_mono h1 h2 k
    exact ⟨fun a w q hc => wpAnyHR_monoQ (post_mono i1 i2) (q hc), i2⟩
  | .draw all fuel listed Hs z :: k => by
    obtain ⟨i1, i2⟩ := sem_mono h1 h2 k
    exact ⟨fun a w q => wpAnyHR_monoQ (post_mono i1 i2) q, i2⟩
  | .out id :: k => by
    obtain ⟨i1, i2⟩ := sem_mono h1 h2 k
    refine ⟨i1, fun i a w q => ?_⟩
    simp only [List.cons_append, sem] at q ⊢
    split at q
    · rename_i e; rw [if_pos e]; exact i1 _ _ q
    · rename_i e; rw [if_neg e]; exact i2 _ _ _ q
  | .mark M :: k => by
    obtain ⟨i1, i2⟩ := sem_mono h1 h2 k
    exact ⟨fun a w q => q, i2⟩
/-- Where ways meet again, whatever stands before: behind the first m things to do this is known. -/
theorem T_cutAt {C : Cx} {k : List It} {env : Env} {ec : EnvC} {H : List HA} {σ : Type} (m : Nat) (E : σ → Env) (G : σ → List HA) (I : σ → Prop) (hm : allOf (k.take m ++ .mark (Meets C E G I) :: k.drop m) = allOf k)
    (h1 : T C (k.take m ++ .mark (Meets C E G I) :: k.drop m) env ec H) (h2 : ∀ s, I s → T C (nf 60 (k.drop m)) (E s) [] (G s)) : T C k env ec H := by
  refine T.mk fun a w ha hw => ?_
  have hq := h1 a w (by rw [hm]; exact ha) hw
  have := (sem_mono (C := C) (k2 := .mark (Meets C E G I) :: k.drop m) (k3 := k.drop m) (fun a w ⟨s', g1, g2, g3⟩ => nf_spec (n := 60) (h2 s' g1 a w g2.plain g3)) (fun _ _ _ q => q) (k.take m)).1 a w hq
  rwa [List.take_append_drop] at this
end Go.Proofs.YtiglobijdegjdaaDoor
