/- The engine, ninth part: statements that leave their order open. It speaks of any program. -/
import Derived.Test.YtiglobijdegjdaaDoorEngH
namespace Go.Proofs.YtiglobijdegjdaaDoor
open Go.RowKit Go.Shelf

/-- In whatever world of the class the operation, where it is carried out, yields v and turns nothing. -/
def Val (C : Cx) (all : Array Oper) (o : Oper) (env : Env) (ec : EnvC) (Hs : List HA) (G : GId) (v : Value) : Prop :=
  ∀ a w, Agrees C.N all env ec a → Cls C.w0 w Hs → Holds all a G → (execOp a.eval o).run C.S.P w = .ok (.value v) w
section
variable {C : Cx} {all : Array Oper} {o : Oper} {env : Env} {ec : EnvC} {Hs : List HA} {G : GId} {v : Value}
theorem Val.pure (hv : evP C.S all env ec G o = some v) : Val C all o env ec Hs G v := fun _ w ha _ hH => evP_spec ha hH hv w
theorem Val.vc {p : Prop} (hv : evV C.S env ec G o = some (v, p)) (hp : GP all env ec G → p) : Val C all o env ec Hs G v := fun _ w ha _ hH => evV_spec ha hH hv (hp (hH.gp ha)) w
theorem Val.load {b off : Nat} (hv : evLd C.S env ec G o = some (b, off, false, 1)) (hr : GP all env ec G → ∀ w, Cls C.w0 w Hs → RdC w b off [v]) : Val C all o env ec Hs G v :=
  fun _ w ha hw hH => evLd_spec ha hH hv rfl (fun _ => rfl) (hr (hH.gp ha) w hw)
theorem Val.loadA {b off n : Nat} {vs : List Value} (hv : evLd C.S env ec G o = some (b, off, true, n)) (hr : GP all env ec G → ∀ w, Cls C.w0 w Hs → RdC w b off vs) (hn : vs.length = n) : Val C all o env ec Hs G (.agg vs.toArray) :=
  fun _ w ha hw hH => evLd_spec ha hH hv hn (fun e => (by cases e)) (hr (hH.gp ha) w hw)
end
section
variable {C : Cx} {all : Array Oper} {o : Oper} {rest : List Oper} {k : List It} {env : Env} {ec : EnvC} {H Hs : List HA} {d : Nat} {v : Value} {fuel : Nat} {listed : Array Bool} {G : GId} {z : Nat}
theorem T_val (hg : gOf all env ec o = some []) (hv : Val C all o env ec H [] v) (hd : o.dst = some d) (hN : Nat.blt d C.N.n = true) (hs : safeC all d ec = true)
    (h : T C (.ops all rest :: k) ((d, v) :: env) ec H) : T C (.ops all (o :: rest) :: k) env ec H :=
  T_op (OpT.val hg hd hN hs (fun a w ha hw => hv a w ha hw (Holds.nil _ _)) h)
theorem T_valC (hg : gOf all env ec o = some G) (hv : Val C all o env ec H G v) (hd : o.dst = some d) (hN : Nat.blt d C.N.n = true) (hs : safeC all d ec = true) (hsG : safeG all d G = true) (hl : lookE env d = none)
    (h : T C (.ops all rest :: k) env ((d, (G, v)) :: ec) H) : T C (.ops all (o :: rest) :: k) env ec H :=
  T_op (OpT.valC hg hd hN hs hsG hl (fun a w ha hw hH _ => hv a w ha hw hH) h)

/-- The region begins. Hs: what of the call's own stays as it is all through it. -/
theorem T_draw {id : Nat} (z : Nat) (Hs : List HA) (h : T C (.draw all all.size (Array.replicate all.size false) Hs z :: k) env [] H) : T C (.code (.region id all true) :: k) env ec H := by
  refine T.mk fun a w ha hw => ?_
  have := h a _ ha.plain hw.drew
  exact wpIn_region_heldR C.S.mixed this
/-- All have come up. -/
theorem T_dend (hr : Region.ready .any all listed = []) (h : T C (nf 60 k) env [] H) : T C (.draw all fuel listed Hs z :: k) env ec H := by
  refine T.mk fun a w ha hw => ?_
  exact wpAnyHR_done hr (nf_spec (n := 60) (h a w ha.plain hw)) _
/-- One that turns nothing is taken first. -/
theorem T_dval (i : Nat) (hi : all[i]? = some o) (hnd : noDef all = true) (hns : Region.noSelect all = true) (hf : Region.free .any all listed i = true) (hr : (Region.ready .any all listed).contains i = true) (hz : waits .any all z i = true) (hlv : live z listed = true)
    (hg : gOf all env ec o = some []) (hv : Val C all o env ec Hs [] v) (hd : o.dst = some d) (hN : Nat.blt d C.N.n = true) (hs : safeC all d ec = true) (hle : Hle H Hs)
    (h : T C (.draw all fuel (listed.setIfInBounds i true) Hs z :: k) ((d, v) :: env) ec H) : T C (.draw all (fuel + 1) listed Hs z :: k) env ec H := by
  refine T.mk fun a w ha hw => ?_
  have hwn := (wanted_iff ha hg).2 (Holds.nil _ _)
  refine wpAnyHR_take hnd hi hns hf hr hz hlv (fun c a w q => q) (.inl ⟨hwn, fun w' hw' => hv a w' ha hw' (Holds.nil _ _)⟩) (hw.le hle) ?_
  rw [hd]
  exact h _ w (ha.put hN hs) hw
theorem T_dvalC (i : Nat) (hi : all[i]? = some o) (hnd : noDef all = true) (hns : Region.noSelect all = true) (hf : Region.free .any all listed i = true) (hr : (Region.ready .any all listed).contains i = true) (hz : waits .any all z i = true) (hlv : live z listed = true)
    (hg : gOf all env ec o = some G) (hv : Val C all o env ec Hs G v) (hd : o.dst = some d) (hN : Nat.blt d C.N.n = true) (hs : safeC all d ec = true) (hsG : safeG all d G = true) (hl : lookE env d = none) (hle : Hle H Hs)
    (h : T C (.draw all fuel (listed.setIfInBounds i true) Hs z :: k) env ((d, (G, v)) :: ec) H) : T C (.draw all (fuel + 1) listed Hs z :: k) env ec H := by
  refine T.mk fun a w ha hw => ?_
  by_cases hH : Holds all a G
  · have hwn := (wanted_iff ha hg).2 hH
    refine wpAnyHR_take hnd hi hns hf hr hz hlv (fun c a w q => q) (.inl ⟨hwn, fun w' hw' => hv a w' ha hw' hH⟩) (hw.le hle) ?_
    rw [hd]
    exact h _ w (ha.putC hN hs hsG hl (fun _ => rfl) (fun hh => absurd hH hh)) hw
  · have hwn : Region.wanted o (yielded all a.tmps) = false := by
      cases hq : Region.wanted o (yielded all a.tmps) with
      | false => rfl
      | true => exact absurd ((wanted_iff ha hg).1 hq) hH
    refine wpAnyHR_take hnd hi hns hf hr hz hlv (fun c a w q => q) (.inr ⟨hwn, rfl⟩) (hw.le hle) ?_
    rw [hd]
    exact h _ w (ha.putC hN hs hsG hl (fun hh => absurd hh hH) (fun _ => rfl)) hw
/-- Whichever may come up comes up. -/
theorem T_dops {rs : List Nat} (hr : Region.ready .any all listed = rs) (hne : rs.isEmpty = false)
    (h : ∀ i ∈ rs, ∃ o, all[i]? = some o ∧ OpT C all o env ec H (fun env' ec' H' => (live z (listed.setIfInBounds i true) = true → Hle H' Hs) ∧ T C (.draw all fuel (listed.setIfInBounds i true) Hs z :: k) env' ec' H')) : T C (.draw all (fuel + 1) listed Hs z :: k) env ec H := by
  refine T.mk fun a w ha hw => ?_
  refine wpAnyHR_all hr (by intro e; rw [e] at hne; cases hne) fun i hi => ?_
  obtain ⟨o, ho, hO⟩ := h i hi
  have := hO a w ha hw (fun a' w' => (live z (listed.setIfInBounds i true) = true → Cls C.w0 w' Hs) ∧ (sem C (.draw all fuel (listed.setIfInBounds i true) Hs z :: k)).1 a' w') (post (sem C k).1 (sem C k).2 C.Rr)
    (fun env' ec' H' a' w' hT ha' hw' => ⟨fun hl => hw'.le (hT.1 hl), hT.2 a' w' ha' hw'⟩)
  unfold wpOpIn
  rw [ho]
  simp only
  split
  · rename_i hwn; exact this.1 hwn
  · rename_i hwn; exact ⟨about_Fr o _ w _, this.2 (by simpa using hwn)⟩
theorem T_dop (i : Nat) (hr : Region.ready .any all listed = [i]) (hi : all[i]? = some o)
    (h : OpT C all o env ec H (fun env' ec' H' => (live z (listed.setIfInBounds i true) = true → Hle H' Hs) ∧ T C (.draw all fuel (listed.setIfInBounds i true) Hs z :: k) env' ec' H')) : T C (.draw all (fuel + 1) listed Hs z :: k) env ec H :=
  T_dops hr rfl fun j hj => by
    have : j = i := by simpa using hj
    subst this; exact ⟨o, hi, h⟩
theorem T_dop2 {o2 : Oper} (i j : Nat) (hr : Region.ready .any all listed = [i, j]) (hi : all[i]? = some o) (hj : all[j]? = some o2)
    (h1 : OpT C all o env ec H (fun env' ec' H' => (live z (listed.setIfInBounds i true) = true → Hle H' Hs) ∧ T C (.draw all fuel (listed.setIfInBounds i true) Hs z :: k) env' ec' H'))
    (h2 : OpT C all o2 env ec H (fun env' ec' H' => (live z (listed.setIfInBounds j true) = true → Hle H' Hs) ∧ T C (.draw all fuel (listed.setIfInBounds j true) Hs z :: k) env' ec' H')) : T C (.draw all (fuel + 1) listed Hs z :: k) env ec H :=
  T_dops hr rfl fun x hx => by
    have : x = i ∨ x = j := by simpa using hx
    rcases this with rfl | rfl
    · exact ⟨o, hi, h1⟩
    · exact ⟨o2, hj, h2⟩
theorem OpT.callV {f : FuncId} {args : List Value} {Φ : Env → EnvC → List HA → Prop} (hg : gOf all env ec o = some []) (he : evCall env ec [] o = some (f, args)) (hd : o.dst = some d) (hN : Nat.blt d C.N.n = true) (hs : safeC all d ec = true)
    (hc : ∀ w, Cls C.w0 w H → Spec C.S.P f args w (fun u A => u = v ∧ A = [])) (h : Φ ((d, v) :: env) ec H) : OpT C all o env ec H Φ :=
  OpT.call hg he hd hN hs hc (by rintro u A ⟨rfl, rfl⟩; exact h)
/-- An operation that turns nothing, wherever it stands. -/
theorem OpT.ofVal {Φ : Env → EnvC → List HA → Prop} (hg : gOf all env ec o = some []) (hv : Val C all o env ec H [] v) (hd : o.dst = some d) (hN : Nat.blt d C.N.n = true) (hs : safeC all d ec = true) (h : Φ ((d, v) :: env) ec H) : OpT C all o env ec H Φ :=
  OpT.val hg hd hN hs (fun a w ha hw => hv a w ha hw (Holds.nil _ _)) h
end
end Go.Proofs.YtiglobijdegjdaaDoor
