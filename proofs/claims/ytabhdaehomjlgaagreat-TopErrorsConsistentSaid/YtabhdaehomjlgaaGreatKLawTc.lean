/- TopErrorsConsistent: for whatever groups the law returns true, and its arguments read as before. No condition. -/
import Derived.Test.YtabhdaehomjlgaaGreatU3
import Derived.JoinedOf
import Derived.Handed
set_option linter.unusedSectionVars false
set_option linter.unusedVariables false
set_option linter.unusedSimpArgs false
namespace Go.Proofs.YtabhdaehomjlgaaGreat
open Go.RowKit Go.Shelf Go.ChangeShapes Go.WideShapes Go.Proofs
set_option maxRecDepth 100000
set_option maxHeartbeats 2000000

theorem topErrors_spec (v0 v1:Value) (m0 m1:List (Int × Int × List Int)) (W:World) (h0:Rd (wr W) [v0] [grpsD m0]) (h1:Rd (wr W) [v1] [grpsD m1]) :
  Spec Tryz.prog 5 [v0,v1] W (fun v R=>v = .bool true∧R=[]):=by
 obtain⟨A0,c0,gs0,-,rfl,-,hg0⟩:=h0.grps
 obtain⟨A1,c1,gs1,-,rfl,-,hg1⟩:=h1.grps
 exact topErrors_walk A0 A1 gs0.length c0 gs1.length c1 gs0 gs1 W hg0 hg1 top35Awake_spec
theorem errors_lifted (os:Os) (started:os.Started) (H:Type) (enc:TypeId × Value→H) :
  ReturnsInHanded {} Tryz.checked os 5 .any (Rows.topErrorsConsistentSpec.pre6 enc Tryz.prog Tryz.f5 Rows.topErrorsConsistentRow.domain false)
   (Rows.topErrorsConsistentSpec.post enc Tryz.prog Tryz.f5 Rows.topErrorsConsistentRow.apart Rows.topErrorsConsistentRow.fresh Rows.topErrorsConsistentRow.handsOn Rows.topErrorsConsistentRow.again):=by
 refine returnsInHanded_of_change (C:=Tryz.checked) knobT started (by as_aux_lemma=>kernel_rfl) Tryz.func5
  (ChangeSpec.witness6 (enc:=enc) (C:=Tryz.checked) false ⟨#[], #[.slice none 0 0, .slice none 0 0],[]⟩ 8 (by as_aux_lemma=>kernel_rfl) (by as_aux_lemma=>kernel_rfl) (by as_aux_lemma=>kernel_rfl) (by as_aux_lemma=>kernel_rfl) (by as_aux_lemma=>kernel_rfl)) ?_
 intro W base args ds gs before hval0 hW _ _
 have hval:∀ (j:Nat) t v,Tryz.f5.params[j]?=some t→args[j]?=some v→Value.okWide Tryz.prog W .any base t v:=hval0
 have hW':=hW
 obtain⟨p,q,hA0,hV,rfl,hfz,hnd⟩:=hW
 have hA:DataW.TrodAll enc Tryz.prog W 0 (fun _=>true) true Tryz.f5.params.toList args.toList ds p:=hA0
 obtain⟨v0,vs0,d0,ds0,p0,q0,e0,rfl,rfl,h0,hA⟩:=trodAll_cons hA
 obtain⟨v1,vs1,d1,ds1,p1,q1,rfl,rfl,rfl,h1,hA⟩:=trodAll_cons hA
 obtain⟨rfl,rfl,rfl⟩:=trodAll_nil hA
 have ea:args = #[v0,v1]:=Array.ext' e0
 subst ea
 obtain⟨a,hr_a⟩:=arg_groupsT (hval 0 _ v0 rfl rfl) h0
 obtain⟨b,hr_b⟩:=arg_groupsT (hval 1 _ v1 rfl rfl) h1
 refine (topErrors_spec v0 v1 a b W hr_a hr_b).calls.mono ?_
 rintro e W' ⟨v,A,rfl,⟨rfl,_⟩,hb,_⟩
 exact⟨_,rfl,law_post hW' rfl rfl laidOkT (by intro t ht;simp only [show Tryz.f5.params.toList=[56,56] from rfl,List.mem_cons,List.mem_nil_iff,or_false] at ht;rcases ht with rfl|rfl <;> exact⟨by as_aux_lemma=>kernel_rfl,of_decide_eq_true (by as_aux_lemma=>kernel_rfl)⟩) rfl Tryz.underlying4 hb⟩
theorem errors_joined:joinedFacts Tryz.prog 5 Tryz.f5 Rows.topErrorsConsistentSpec Rows.topErrorsConsistentRow=true:=by as_aux_lemma=>kernel_rfl
theorem errors_holds:Rows.TopErrorsConsistentSaid :=
 OpenClaim.holds_of_wide 5 Tryz.f5 rfl rfl rfl rfl rfl rfl rfl ⟨rfl,rfl,rfl,rfl,rfl⟩ rfl rfl rfl rfl rfl (by as_aux_lemma=>kernel_rfl) Tryz.func5 errors_joined
  (of_decide_eq_true (by as_aux_lemma=>kernel_rfl)) (by unfold Func.isWrapper;first|(rw [if_pos (by decide +kernel)];kernel_rfl)|(rw [if_neg (by decide +kernel)];exact⟨rfl,rfl⟩))
  (fun os started H enc _=>errors_lifted os started H enc)
#print axioms errors_holds
end Go.Proofs.YtabhdaehomjlgaaGreat
