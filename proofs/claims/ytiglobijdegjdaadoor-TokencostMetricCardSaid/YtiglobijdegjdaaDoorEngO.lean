/- The engine: frames of rounds too: fences that let everything in; statements that leave their order open. It speaks of any program. -/
import Derived.Test.YtiglobijdegjdaaDoorEngB
import Derived.OrdersIn
import Derived.OrdersHeld
import Derived.TacticsIn
import Derived.RangeFuncLeaves
import Derived.RangeFuncRecord
import Derived.Deep.LoopGhost
namespace Go.Proofs.YtiglobijdegjdaaDoor
open Go.RowKit Go.Shelf

/-- Everything is let in; the frame is a round's, or none's. -/
def Fr (r : Option Nat) : Fence := { fn := fun _ => True, depth := none, alive := false, round := r }
theorem Fr_none : Fr none = Fence.wide := rfl
theorem callsIn_Fr {r : Option Nat} {n : Nat} {P : Program} {f : FuncId} {args : Array Value} {w : World} {R : Ending → World → Prop} (h : Calls P f args w R) : CallsIn (Fr r) n P f args w R :=
  show CallsIn Fence.wide n P f args w R from callsIn_wide.2 h
theorem about_Fr {r : Option Nat} (o : Oper) (P : Program) (w : World) (ρ : Operand → Value) : ∀ f, o.about P w ρ = some f → (Fr r).fn f := fun _ _ => trivial

def noDef (ops : Array Oper) : Bool := ops.toList.all fun o => match o.op with | .defer _ => false | _ => true
theorem noDef_spec {ops : Array Oper} (h : noDef ops = true) {i : Nat} {o : Oper} (hi : ops[i]? = some o) : ∀ c, o.op ≠ .defer c := by
  intro c hc
  have := List.all_eq_true.1 h o (by
    rw [Array.mem_toList_iff]
    exact Array.mem_of_getElem? hi)
  rw [hc] at this
  cases this
section
variable {r : Option Nat} {n : Nat} {P : Program} {ops : Array Oper} {Q : Exit → Act → World → Prop} {md : Region.Mode} {S : World → Prop} {z : Nat}
/-- In state 'a', in every world that meets S, the operation leaves v in its temporary and does nothing else. -/
def YieldsS (P : Program) (ops : Array Oper) (S : World → Prop) (o : Oper) (v : Value) (a : Act) : Prop :=
  (Region.wanted o (yielded ops a.tmps) = true ∧ ∀ w, S w → (execOp a.eval o).run P w = .ok (.value v) w) ∨
  (Region.wanted o (yielded ops a.tmps) = false ∧ v = undef)
theorem YieldsS.of_same {o : Oper} {v : Value} {a a' : Act} (hy : YieldsS P ops S o v a) (he : execOp a'.eval o = execOp a.eval o)
    (hw : Region.wanted o (yielded ops a'.tmps) = Region.wanted o (yielded ops a.tmps)) : YieldsS P ops S o v a' := by
  unfold YieldsS at *
  rw [he, hw]
  exact hy
theorem YieldsS.op {i : Nat} {o : Oper} {v : Value} {a : Act} (hnd : noDef ops = true) (hi : ops[i]? = some o) (hy : YieldsS P ops S o v a)
    {K : Act → World → Prop} {w : World} (hS : S w) (h : K (a.put o.dst v) w) : wpOpIn (Fr r) n P ops Q i K a w := by
  unfold Go.wpOpIn
  simp only [hi]
  rcases hy with ⟨hw, hv⟩ | ⟨hw, rfl⟩
  · simp only [hw, if_true]
    refine ⟨about_Fr o P w _, ?_⟩
    rw [Oper.semAt_eq _ _ _ (noDef_spec hnd hi), hv w hS]
    exact h
  · simp only [hw, Bool.false_eq_true, if_false]; exact ⟨about_Fr o P w _, h⟩
theorem wpOpIn_putS {j : Nat} {oi oj : Oper} {v : Value} (hnd : noDef ops = true) (hj : ops[j]? = some oj) (hap : oi.apart ops oj = true)
    (hsi : ∀ cs b, oi.op ≠ .select cs b) (hsj : ∀ cs b, oj.op ≠ .select cs b)
    (hQ : ∀ c a w, Q (.panic c) (a.put oi.dst v) w → Q (.panic c) a w) {K : Act → World → Prop} {a : Act} {w : World}
    (hy : YieldsS P ops S oi v a) (h : wpOpIn (Fr r) n P ops Q j K (a.put oi.dst v) w) :
    wpOpIn (Fr r) n P ops Q j (fun a' w' => YieldsS P ops S oi v a' ∧ K (a'.put oi.dst v) w') a w := by
  obtain ⟨h1, h2, h3⟩ := Oper.apart_spec hap
  have keep : ∀ (a : Act), YieldsS P ops S oi v a → ∀ u, YieldsS P ops S oi v (a.put oj.dst u) := fun a hy u =>
    hy.of_same (execOp_put oi hsi a oj.dst u h3) (wanted_put oi a oj.dst u h3)
  have keepD : ∀ d, YieldsS P ops S oi v { a with defers := d :: a.defers } := fun d => hy.of_same rfl rfl
  unfold wpOpIn at h ⊢
  simp only [hj] at h ⊢
  rw [wanted_put oj a oi.dst v h1] at h
  split
  · rename_i hw
    simp only [hw, if_true] at h
    unfold Oper.wpIn at *
    refine ⟨about_Fr oj P w _, ?_⟩
    have h := h.2
    rw [Oper.semAt_eq _ _ _ (noDef_spec hnd hj), execOp_put oj hsj a oi.dst v h1] at h
    rw [Oper.semAt_eq _ _ _ (noDef_spec hnd hj)]
    generalize (execOp a.eval oj).run P w = res at *
    cases res with
    | ok x w' =>
      cases x <;> simp only [Oper.uponIn] at h ⊢
      case value u => exact ⟨keep a hy u, by rw [← Act.put_comm a v u h2]; exact h⟩
      case skip => exact ⟨keep a hy _, by rw [← Act.put_comm a v undef h2]; exact h⟩
      case defer d =>
        refine ⟨keep _ (keepD d) _, ?_⟩
        rw [← Act.put_comm _ v undef h2, ← Act.put_defers]
        exact h
      case enter f args =>
        refine ⟨h.1, CallsIn.mono h.2 fun e w'' he => ?_⟩
        cases e with
        | returned u => exact ⟨keep a hy u, by rw [← Act.put_comm a v u h2]; exact he⟩
        | panicked c => exact hQ _ _ _ he
        | outgrown => exact he
      case row row args => exact ⟨h.1, RowsIn.mono h.2 fun u w'' he => ⟨keep a hy u, by rw [← Act.put_comm a v u h2]; exact he⟩⟩
      case round l f tmps assign body =>
        refine ⟨h.1, RoundIn.mono h.2 fun e w'' he => ?_⟩
        cases e with
        | returned u => exact ⟨keep a hy u, by rw [← Act.put_comm a v u h2]; exact he⟩
        | panicked c => exact hQ _ _ _ he
        | outgrown => exact he
    | halt x w' =>
      cases x <;> simp only [Oper.uponIn] at h ⊢
      case panic u => exact hQ _ _ _ h
  · rename_i hw
    simp only [hw] at h
    exact ⟨about_Fr oj P w _, keep a hy _, by rw [← Act.put_comm a v undef h2]; exact h.2⟩
/-- Whatever order is picked from here on, and S holds behind every operation that is carried out. -/
def live (z : Nat) (listed : Array Bool) : Bool := !(listed.getD z false)
/-- Operation z does not come before i. -/
def waits (md : Region.Mode) (ops : Array Oper) (z i : Nat) : Bool := !(Nat.beq i z) && (match ops[z]? with
  | none => true
  | some o => o.after.toList.any fun e => Region.binds md e && Nat.beq e.on i)
def wpAnyHR (r : Option Nat) (n : Nat) (P : Program) (md : Region.Mode) (ops : Array Oper) (Q : Exit → Act → World → Prop) (S : World → Prop) (z : Nat) : Nat → Array Bool → Act → World → Prop
  | 0, listed, a, w => Region.ready md ops listed = [] ∧ Q .normal a w
  | fuel + 1, listed, a, w =>
    (Region.ready md ops listed = [] → Q .normal a w) ∧
    ∀ i ∈ Region.ready md ops listed, wpOpIn (Fr r) n P ops Q i (fun a' w' => (live z (listed.setIfInBounds i true) = true → S w') ∧ wpAnyHR r n P md ops Q S z fuel (listed.setIfInBounds i true) a' w') a w
theorem wpAnyIn_of_heldR : ∀ (fuel : Nat) (listed : Array Bool) (a : Act) (w : World), wpAnyHR r n P md ops Q S z fuel listed a w → wpAnyIn (Fr r) n P md ops Q fuel listed a w
  | 0, _, _, _, h => h
  | fuel + 1, _, _, _, h => ⟨h.1, fun i hi => wpOpIn_mono (fun a' w' h' => wpAnyIn_of_heldR fuel _ a' w' h'.2) (h.2 i hi)⟩
theorem wpAnyHR_first {i : Nat} {oi : Oper} {v : Value} (hnd : noDef ops = true) (hi : ops[i]? = some oi) (hsel : ∀ (j : Nat) (o : Oper) cs b, ops[j]? = some o → o.op ≠ .select cs b)
    (hQ : ∀ c a w, Q (.panic c) (a.put oi.dst v) w → Q (.panic c) a w) (hz : waits md ops z i = true) :
    ∀ (fuel : Nat) (listed : Array Bool) (a : Act) (w : World), live z listed = true →
      (∀ j oj, ops[j]? = some oj → j ≠ i → listed.getD j true = false → (∀ e ∈ oj.after, Region.binds md e = true → e.on ≠ i) → oi.apart ops oj = true) →
      i ∈ Region.ready md ops listed → YieldsS P ops S oi v a → S w →
      wpAnyHR r n P md ops Q S z fuel (listed.setIfInBounds i true) (a.put oi.dst v) w → wpAnyHR r n P md ops Q S z (fuel + 1) listed a w := by
  intro fuel
  induction fuel with
  | zero =>
    intro listed a w _ _ hr hy hS H
    refine ⟨fun h => (by rw [h] at hr; cases hr), fun j hj => ?_⟩
    by_cases hji : j = i
    · subst hji; exact hy.op hnd hi hS ⟨fun _ => hS, H⟩
    · have := ready_mono hj hji
      rw [H.1] at this
      cases this
  | succ fuel ih =>
    intro listed a w hlv hfree hr hy hS H
    refine ⟨fun h => (by rw [h] at hr; cases hr), fun j hj => ?_⟩
    by_cases hji : j = i
    · subst hji; exact hy.op hnd hi hS ⟨fun _ => hS, H⟩
    · have h1 := H.2 j (ready_mono hj hji)
      obtain ⟨hjun, oj, hoj, hall⟩ := mem_ready.1 hj
      have hnot : ∀ e ∈ oj.after, Region.binds md e = true → e.on ≠ i := fun e he hb heq => by
        have h1 := hall e he hb
        have h0 := (mem_ready.1 hr).1
        rw [heq] at h1
        rcases Nat.lt_or_ge i listed.size with h' | h'
        · simp [h'] at h0 h1; rw [h0] at h1; cases h1
        · simp [Array.getElem?_eq_none h'] at h1
      have h2 := wpOpIn_putS hnd hoj (hfree j oj hoj hji hjun hnot) (fun cs b => hsel i oi cs b hi) (fun cs b => hsel j oj cs b hoj) hQ hy h1
      have hfree' : ∀ k ok, ops[k]? = some ok → k ≠ i → (listed.setIfInBounds j true).getD k true = false →
          (∀ e ∈ ok.after, Region.binds md e = true → e.on ≠ i) → oi.apart ops ok = true := fun k ok hk hki hun hno => by
        refine hfree k ok hk hki ?_ hno
        by_cases hjk : j = k
        · subst hjk; exact hjun
        · rw [getD_set_ne true hjk] at hun; exact hun
      have hjz : j ≠ z := by
        rintro rfl
        unfold waits at hz
        rw [hoj] at hz
        simp only [Bool.and_eq_true, List.any_eq_true] at hz
        obtain ⟨_, e, he, hb, hon⟩ := hz
        exact hnot e (by simpa using he) hb (Nat.eq_of_beq_eq_true hon)
      have hiz : i ≠ z := by
        rintro rfl
        unfold waits at hz
        simp at hz
      have hlv' : live z (listed.setIfInBounds j true) = true := by
        unfold live at hlv ⊢
        rw [Array.getD_eq_getD_getElem?, Array.getElem?_setIfInBounds_ne hjz, ← Array.getD_eq_getD_getElem?]
        exact hlv
      have hlv2 : live z ((listed.setIfInBounds i true).setIfInBounds j true) = true := by
        unfold live at hlv ⊢
        rw [Array.getD_eq_getD_getElem?, Array.getElem?_setIfInBounds_ne hjz, Array.getElem?_setIfInBounds_ne hiz, ← Array.getD_eq_getD_getElem?]
        exact hlv
      refine wpOpIn_mono (fun a' w' h3 => ⟨fun _ => h3.2.1 hlv2, ih (listed.setIfInBounds j true) a' w' hlv' hfree' (ready_mono hr (Ne.symm hji)) h3.1 (h3.2.1 hlv2) ?_⟩) h2
      rw [Array.setIfInBounds_comm _ _ hji]
      exact h3.2.2
theorem wpAnyHR_take {i : Nat} {oi : Oper} {v : Value} {fuel : Nat} {listed : Array Bool} {a : Act} {w : World} (hnd : noDef ops = true) (hi : ops[i]? = some oi)
    (hs : Region.noSelect ops = true) (hf : Region.free md ops listed i = true) (hr : (Region.ready md ops listed).contains i = true) (hz : waits md ops z i = true) (hlv : live z listed = true)
    (hQ : ∀ c a w, Q (.panic c) (a.put oi.dst v) w → Q (.panic c) a w) (hy : YieldsS P ops S oi v a) (hS : S w)
    (h : wpAnyHR r n P md ops Q S z fuel (listed.setIfInBounds i true) (a.put oi.dst v) w) : wpAnyHR r n P md ops Q S z (fuel + 1) listed a w :=
  wpAnyHR_first hnd hi (Region.noSelect_spec hs) hQ hz fuel listed a w hlv (Region.free_spec hi hf) (by simpa using hr) hy hS h
theorem wpAnyHR_all {rs : List Nat} {fuel : Nat} {listed : Array Bool} {a : Act} {w : World} (hr : Region.ready md ops listed = rs) (hne : rs ≠ [])
    (h : ∀ i ∈ rs, wpOpIn (Fr r) n P ops Q i (fun a' w' => (live z (listed.setIfInBounds i true) = true → S w') ∧ wpAnyHR r n P md ops Q S z fuel (listed.setIfInBounds i true) a' w') a w) : wpAnyHR r n P md ops Q S z (fuel + 1) listed a w :=
  ⟨fun h0 => absurd (hr ▸ h0) hne, hr ▸ h⟩
theorem wpAnyHR_done {listed : Array Bool} {a : Act} {w : World} (hr : Region.ready md ops listed = []) (h : Q .normal a w) : ∀ fuel, wpAnyHR r n P md ops Q S z fuel listed a w
  | 0 => ⟨hr, h⟩
  | _ + 1 => ⟨fun _ => h, by rw [hr]; simp⟩
theorem wpIn_region_heldR {id : Nat} {a : Act} {w : World} (hm : P.follows .mixedOrders = true)
    (h : wpAnyHR r n P .any ops Q S z ops.size (Array.replicate ops.size false) a { w with drawn := w.drawn + 1 }) : (Code.region id ops true).wpIn (Fr r) n P Q a w :=
  wpIn_region_any hm (wpAnyIn_of_heldR _ _ _ _ h)
end
/-- A loop with a number of its own. -/
theorem wpIn_loop_ghost {F : Fence} {n : Nat} {P : Program} {Q : Exit → Act → World → Prop} {a : Act} {w : World} {c : Code} (I : Nat → Act → World → Prop) (n₀ : Nat) (h₀ : I n₀ a w)
    (round : ∀ m a w, I m a w → c.wpIn F n P (Exit.then (fun a' w' => ∃ m', m' < m ∧ I m' a' w') Q) a w) : (Code.loop c).wpIn F n P Q a w := by
  refine wpIn_loop (fun a w => ∃ n, I n a w) (fun a w => leastOf (fun n => I n a w)) ⟨n₀, h₀⟩ ?_
  intro a w hI
  refine wpIn_mono (round _ a w (leastOf_spec hI).1) ?_
  intro e a' w' hq
  cases e with
  | normal =>
    obtain ⟨n', hlt, hI'⟩ := hq
    exact show (∃ n, I n a' w') ∧ leastOf (fun n => I n a' w') < leastOf (fun n => I n a w) from ⟨⟨n', hI'⟩, Nat.lt_of_le_of_lt ((leastOf_spec ⟨n', hI'⟩).2 n' hI') hlt⟩
  | exit id => exact hq
  | goto l => exact hq
  | ret => exact hq
  | panic ch => exact hq
  | outgrown => exact hq
end Go.Proofs.YtiglobijdegjdaaDoor
