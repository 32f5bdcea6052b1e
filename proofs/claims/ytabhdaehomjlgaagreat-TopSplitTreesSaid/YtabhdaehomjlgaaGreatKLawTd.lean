/- TopSplitTrees: for whatever names, sets and further set the law returns true, and its arguments read as before. No condition. -/
import Derived.Test.YtabhdaehomjlgaaGreatV4
import Derived.JoinedOf
import Derived.Handed
set_option linter.unusedSectionVars false
set_option linter.unusedVariables false
set_option linter.unusedSimpArgs false
namespace Go.Proofs.YtabhdaehomjlgaaGreat
open Go.RowKit Go.Shelf Go.ChangeShapes Go.WideShapes Go.Proofs
set_option maxRecDepth 100000
set_option maxHeartbeats 2000000

theorem topSplit_spec (v0 v1 v2:Value) (names:List ByteArray) (l:List (List Int)) (s:List Int) (W:World) (h0:Rd (wr W) [v0] [strsD names]) (h1:Rd (wr W) [v1] [rowsD l]) (h2:Rd (wr W) [v2] [intsD s]) :
  Spec Tryz.prog 3 [v0,v1,v2] W (fun v R=>v = .bool true∧R=[]):=by
 obtain⟨A0,c0,rfl,g1,g2,g3⟩:=h0.strs
 obtain⟨A1,c1,hs,-,rfl,k1,k2,k3⟩:=h1.rowsR
 obtain⟨A2,c2,rfl,l1,l2,-⟩:=Rd.row1 (r:=s) h2
 exact topSplit_walk A0 A1 A2 names.length c0 c1 s.length c2 names hs s W g3 rfl g1 g2 k2 (k3 W (fun _ _ _ h=>h)) k1 h2.intsAt rfl ⟨l1,l2⟩ top32Awake_spec
theorem split_lifted (os:Os) (started:os.Started) (H:Type) (enc:TypeId × Value→H) :
  ReturnsInHanded {} Tryz.checked os 3 .any (Rows.topSplitTreesSpec.pre6 enc Tryz.prog Tryz.f3 Rows.topSplitTreesRow.domain false)
   (Rows.topSplitTreesSpec.post enc Tryz.prog Tryz.f3 Rows.topSplitTreesRow.apart Rows.topSplitTreesRow.fresh Rows.topSplitTreesRow.handsOn Rows.topSplitTreesRow.again):=by
 refine returnsInHanded_of_change (C:=Tryz.checked) knobT started (by as_aux_lemma=>kernel_rfl) Tryz.func3
  (ChangeSpec.witness6 (enc:=enc) (C:=Tryz.checked) false ⟨#[], #[.slice none 0 0, .slice none 0 0, .slice none 0 0],[]⟩ 8 (by as_aux_lemma=>kernel_rfl) (by as_aux_lemma=>kernel_rfl) (by as_aux_lemma=>kernel_rfl) (by as_aux_lemma=>kernel_rfl) (by as_aux_lemma=>kernel_rfl)) ?_
 intro W base args ds gs before hval0 hW _ _
 have hval:∀ (j:Nat) t v,Tryz.f3.params[j]?=some t→args[j]?=some v→Value.okWide Tryz.prog W .any base t v:=hval0
 have hW':=hW
 obtain⟨p,q,hA0,hV,rfl,hfz,hnd⟩:=hW
 have hA:DataW.TrodAll enc Tryz.prog W 0 (fun _=>true) true Tryz.f3.params.toList args.toList ds p:=hA0
 obtain⟨v0,vs0,d0,ds0,p0,q0,e0,rfl,rfl,h0,hA⟩:=trodAll_cons hA
 obtain⟨v1,vs1,d1,ds1,p1,q1,rfl,rfl,rfl,h1,hA⟩:=trodAll_cons hA
 obtain⟨v2,vs2,d2,ds2,p2,q2,rfl,rfl,rfl,h2,hA⟩:=trodAll_cons hA
 obtain⟨rfl,rfl,rfl⟩:=trodAll_nil hA
 have ea:args = #[v0,v1,v2]:=Array.ext' e0
 subst ea
 obtain⟨names,hr_names⟩:=arg_strsT (hval 0 _ v0 rfl rfl) h0
 obtain⟨l,hr_l⟩:=arg_rowsT (hval 1 _ v1 rfl rfl) h1
 obtain⟨s,hr_s⟩:=arg_intsT (hval 2 _ v2 rfl rfl) h2
 refine (topSplit_spec v0 v1 v2 names l s W hr_names hr_l hr_s).calls.mono ?_
 rintro e W' ⟨v,A,rfl,⟨rfl,_⟩,hb,_⟩
 exact⟨_,rfl,law_post hW' rfl rfl laidOkT (by intro t ht;simp only [show Tryz.f3.params.toList=[22,23,24] from rfl,List.mem_cons,List.mem_nil_iff,or_false] at ht;rcases ht with rfl|rfl|rfl <;> exact⟨by as_aux_lemma=>kernel_rfl,of_decide_eq_true (by as_aux_lemma=>kernel_rfl)⟩) rfl Tryz.underlying4 hb⟩
theorem split_joined:joinedFacts Tryz.prog 3 Tryz.f3 Rows.topSplitTreesSpec Rows.topSplitTreesRow=true:=by as_aux_lemma=>kernel_rfl
theorem split_holds:Rows.TopSplitTreesSaid :=
 OpenClaim.holds_of_wide 3 Tryz.f3 rfl rfl rfl rfl rfl rfl rfl ⟨rfl,rfl,rfl,rfl,rfl⟩ rfl rfl rfl rfl rfl (by as_aux_lemma=>kernel_rfl) Tryz.func3 split_joined
  (of_decide_eq_true (by as_aux_lemma=>kernel_rfl)) (by unfold Func.isWrapper;first|(rw [if_pos (by decide +kernel)];kernel_rfl)|(rw [if_neg (by decide +kernel)];exact⟨rfl,rfl⟩))
  (fun os started H enc _=>split_lifted os started H enc)
#print axioms split_holds
end Go.Proofs.YtabhdaehomjlgaaGreat
