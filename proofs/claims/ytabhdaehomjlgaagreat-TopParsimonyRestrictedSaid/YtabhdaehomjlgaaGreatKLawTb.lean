/- TopParsimonyRestricted: for whatever tree, states and number the law returns true, and its arguments read as before. No condition. -/
import Derived.Test.YtabhdaehomjlgaaGreatT4
import Derived.JoinedOf
import Derived.Handed
set_option linter.unusedSectionVars false
set_option linter.unusedVariables false
set_option linter.unusedSimpArgs false
namespace Go.Proofs.YtabhdaehomjlgaaGreat
open Go.RowKit Go.Shelf Go.ChangeShapes Go.WideShapes Go.Proofs
set_option maxRecDepth 100000
set_option maxHeartbeats 2000000

theorem topRestricted_spec (x y:Option Addr × Nat × Nat) (ps:List Int) (ns:List ByteArray) (v1:Value) (st:List Int) (wh:Nat) (W:World) (ht:TrR W x.1 x.2.1 x.2.2 y.1 y.2.1 y.2.2 ps ns) (hr:Rd (wr W) [v1] [intsD st]) (hb:wh<256) :
  Spec Tryz.prog 4 [.agg #[.slice x.1 x.2.1 x.2.2, .slice y.1 y.2.1 y.2.2],v1, .int .u8 (wh:Nat)] W (fun v R=>v = .bool true∧R=[]):=by
 obtain⟨A,c,rfl,h1,h2⟩:=hr.ints
 exact topRestricted_walk x.1 y.1 A x.2.1 x.2.2 y.2.1 y.2.2 st.length c ps ns st wh W ht h2 rfl h1 hb
theorem restricted_lifted (os:Os) (started:os.Started) (H:Type) (enc:TypeId × Value→H) :
  ReturnsInHanded {} Tryz.checked os 4 .any (Rows.topParsimonyRestrictedSpec.pre6 enc Tryz.prog Tryz.f4 Rows.topParsimonyRestrictedRow.domain false)
   (Rows.topParsimonyRestrictedSpec.post enc Tryz.prog Tryz.f4 Rows.topParsimonyRestrictedRow.apart Rows.topParsimonyRestrictedRow.fresh Rows.topParsimonyRestrictedRow.handsOn Rows.topParsimonyRestrictedRow.again):=by
 refine returnsInHanded_of_change (C:=Tryz.checked) knobT started (by as_aux_lemma=>kernel_rfl) Tryz.func4
  (ChangeSpec.witness6 (enc:=enc) (C:=Tryz.checked) false ⟨#[], #[(.agg #[.slice none 0 0, .slice none 0 0]), .slice none 0 0, .int .u8 0],[]⟩ 8 (by as_aux_lemma=>kernel_rfl) (by as_aux_lemma=>kernel_rfl) (by as_aux_lemma=>kernel_rfl) (by as_aux_lemma=>kernel_rfl) (by as_aux_lemma=>kernel_rfl)) ?_
 intro W base args ds gs before hval0 hW _ _
 have hval:∀ (j:Nat) t v,Tryz.f4.params[j]?=some t→args[j]?=some v→Value.okWide Tryz.prog W .any base t v:=hval0
 have hW':=hW
 obtain⟨p,q,hA0,hV,rfl,hfz,hnd⟩:=hW
 have hA:DataW.TrodAll enc Tryz.prog W 0 (fun _=>true) true Tryz.f4.params.toList args.toList ds p:=hA0
 obtain⟨v0,vs0,d0,ds0,p0,q0,e0,rfl,rfl,h0,hA⟩:=trodAll_cons hA
 obtain⟨v1,vs1,d1,ds1,p1,q1,rfl,rfl,rfl,h1,hA⟩:=trodAll_cons hA
 obtain⟨v2,vs2,d2,ds2,p2,q2,rfl,rfl,rfl,h2,hA⟩:=trodAll_cons hA
 obtain⟨rfl,rfl,rfl⟩:=trodAll_nil hA
 have ea:args = #[v0,v1,v2]:=Array.ext' e0
 subst ea
 obtain⟨x_t,y_t,ps_t,ns_t,rfl,hr_t⟩:=arg_treeT (hval 0 _ v0 rfl rfl) h0
 obtain⟨st,hr_st⟩:=arg_intsT (hval 1 _ v1 rfl rfl) h1
 obtain⟨wh,rfl,hb_wh⟩:=arg_u8T (hval 2 _ v2 rfl rfl) h2
 refine (topRestricted_spec x_t y_t ps_t ns_t v1 st wh W hr_t hr_st hb_wh).calls.mono ?_
 rintro e W' ⟨v,A,rfl,⟨rfl,_⟩,hb,_⟩
 exact⟨_,rfl,law_post hW' rfl rfl laidOkT (by intro t ht;simp only [show Tryz.f4.params.toList=[30,24,5] from rfl,List.mem_cons,List.mem_nil_iff,or_false] at ht;rcases ht with rfl|rfl|rfl <;> exact⟨by as_aux_lemma=>kernel_rfl,of_decide_eq_true (by as_aux_lemma=>kernel_rfl)⟩) rfl Tryz.underlying4 hb⟩
theorem restricted_joined:joinedFacts Tryz.prog 4 Tryz.f4 Rows.topParsimonyRestrictedSpec Rows.topParsimonyRestrictedRow=true:=by as_aux_lemma=>kernel_rfl
theorem restricted_holds:Rows.TopParsimonyRestrictedSaid :=
 OpenClaim.holds_of_wide 4 Tryz.f4 rfl rfl rfl rfl rfl rfl rfl ⟨rfl,rfl,rfl,rfl,rfl⟩ rfl rfl rfl rfl rfl (by as_aux_lemma=>kernel_rfl) Tryz.func4 restricted_joined
  (of_decide_eq_true (by as_aux_lemma=>kernel_rfl)) (by unfold Func.isWrapper;first|(rw [if_pos (by decide +kernel)];kernel_rfl)|(rw [if_neg (by decide +kernel)];exact⟨rfl,rfl⟩))
  (fun os started H enc _=>restricted_lifted os started H enc)
#print axioms restricted_holds
end Go.Proofs.YtabhdaehomjlgaaGreat
