/- The law TopNormalForms holds for whatever rules, tokens and number: the tied card of its row. No condition beyond the row's own. -/
import Derived.Test.YtbfcfpmholkmeaaGreatDoorN4
import Derived.Test.YtbfcfpmholkmeaaGreatDoorCards
import Derived.Test.YtbfcfpmholkmeaaGreatDoorTie
set_option linter.unusedSectionVars false
set_option linter.unusedVariables false
set_option linter.unusedSimpArgs false
namespace Go.Proofs.YtbfcfpmholkmeaaGreatDoor
open Go.RowKit Go.Shelf Go.ChangeShapes Go.WideShapes Go.Proofs
set_option maxRecDepth 100000
set_option maxHeartbeats 2000000

theorem normalLaw_spec (A:Option Addr) (cap:Nat) (rs:List RuB) (w:World) (h1:Src w 2 A rs.length (rs.flatMap ruC)) (hc:rs.length≤cap) (hb:rs.length≤9223372036854775807) (x:Value) (m:List (List Tok)) (z:Int) (hz:0≤z∧z≤255) (hst:Std w) (hfs:FormS w) (hx:Rd (wr w) [x] [.s 1 (m.map toksD)]) :
  Spec Tryz.prog 3 [.slice A rs.length cap,x, .int .u8 z] w (fun v R=>v = .bool true∧R=[]):=by
 obtain⟨A2,ca,l,rfl,hnb,hs2,hl,-⟩:=hx.toksL
 obtain⟨tn,rfl⟩:=Int.eq_ofNat_of_zero_le hz.1
 exact topNormal_walk A A2 rs.length cap ca rs l tn w hst hfs h1 rfl hc hb hs2 hl hnb (by omega) (fun w' k1 k2=>top22Awake_spec w' k1 k2)
theorem normal_met (os:Os) (args:Array Value):laidMetH Tryz.prog Rows.topNormalFormsRow.laid ((World.laidAll Tryz.prog os laidsN).forCall (fun _ _=>0) ⟨#[],args,[]⟩).memory :=
 io_metN os args
theorem normal_lifted (os:Os) (started:os.Started) (H:Type) (enc:TypeId × Value→H) :
  ReturnsInHanded {} Tryz.checked os 3 .any (fun w args=>(Rows.topNormalFormsSpec.pre enc Tryz.prog Tryz.f3 [] false w args∧laidMetH Tryz.prog Rows.topNormalFormsRow.laid w)∧sizedMet enc Tryz.prog Tryz.f3 (OpenSpec.ofChange Rows.topNormalFormsSpec) false w args)
   (Rows.topNormalFormsSpec.post enc Tryz.prog Tryz.f3 false true false false):=by
 refine returnsInHanded_of_change_and (C:=Tryz.checked) (X:=fun w _=>laidMetH Tryz.prog Rows.topNormalFormsRow.laid w) (fun _ _ _ hh h=>h.of_heap hh) knob started (by as_aux_lemma=>kernel_rfl) Tryz.func3
  (ChangeSpec.witness_shaped (enc:=enc) (C:=Tryz.checked) (os:=os) (X:=fun w _=>laidMetH Tryz.prog Rows.topNormalFormsRow.laid w) false (World.laidAll Tryz.prog os laidsN) #[.slice none 0 0, .slice none 0 0, .int .u8 0] 8 (World.laidAll_os _ _ _) (World.shaped_of_ZipB (by as_aux_lemma=>kernel_rfl) (by as_aux_lemma=>kernel_rfl)) (by as_aux_lemma=>kernel_rfl) (by as_aux_lemma=>kernel_rfl) (by as_aux_lemma=>kernel_rfl) (normal_met os _)) ?_
 intro W base args ds gs before hval0 hW _ _ hL _
 have hval:∀ (j:Nat) t v,Tryz.f3.params[j]?=some t→args[j]?=some v→Value.okWide Tryz.prog W .any base t v:=hval0
 have hstd:=std_ofN (show laidMetH Tryz.prog laidsN W from hL)
 have hW':=hW
 obtain⟨p,q,hA0,hV,rfl,hfz,hnd⟩:=hW
 have hA:DataW.TrodAll enc Tryz.prog W 0 (fun _=>true) true Tryz.f3.params.toList args.toList ds p:=hA0
 obtain⟨v0,vs0,d0,ds0,p0,q0,e0,rfl,rfl,h0,hA⟩:=trodAll_cons hA
 obtain⟨v1,vs1,d1,ds1,p1,q1,rfl,rfl,rfl,h1,hA⟩:=trodAll_cons hA
 obtain⟨v2,vs2,d2,ds2,p2,q2,rfl,rfl,rfl,h2,hA⟩:=trodAll_cons hA
 obtain⟨rfl,rfl,rfl⟩:=trodAll_nil hA
 have ea:args = #[v0,v1,v2]:=Array.ext' e0
 subst ea
 obtain⟨A_rs,cap_rs,rs,rfl,hb_rs,hs_rs,hc_rs⟩:=arg_rules (hval 0 _ v0 rfl rfl) h0
 obtain⟨l,hr_l⟩:=arg_toksL (hval 1 _ v1 rfl rfl) h1
 obtain⟨z,rfl,hb_z⟩:=arg_u8 (hval 2 _ v2 rfl rfl) h2
 refine (normalLaw_spec A_rs cap_rs rs W hs_rs hc_rs hb_rs v1 l z hb_z hstd (forms_ofN (show laidMetH Tryz.prog laidsN W from hL)) hr_l).calls.mono ?_
 rintro e W' ⟨v,A,rfl,⟨rfl,_⟩,hb,_⟩
 exact⟨_,rfl,law_post hW' rfl rfl laidOk (by intro t ht;simp only [show Tryz.f3.params.toList=[22,23,5] from rfl,List.mem_cons,List.mem_nil_iff,or_false] at ht;rcases ht with rfl|rfl|rfl <;> exact⟨by as_aux_lemma=>kernel_rfl,of_decide_eq_true (by as_aux_lemma=>kernel_rfl)⟩) rfl Tryz.underlying4 hb⟩
theorem normal_j0:Tryz.prog.inPlace 3=Rows.topNormalFormsRow.inPlace:=by as_aux_lemma=>kernel_rfl
theorem normal_j1:Tryz.prog.unfollowed 3=Rows.topNormalFormsRow.unfollowed:=by as_aux_lemma=>kernel_rfl
theorem normal_j2:Tryz.prog.recurses 3=Rows.topNormalFormsRow.recurses:=by as_aux_lemma=>kernel_rfl
theorem normal_j3:Tryz.prog.varsNamed 3=Rows.topNormalFormsRow.named:=by as_aux_lemma=>kernel_rfl
theorem normal_joined:joinedFacts Tryz.prog 3 Tryz.f3 Rows.topNormalFormsSpec Rows.topNormalFormsRow=true:=by
 unfold joinedFacts
 rw [normal_j0,normal_j1,normal_j2,normal_j3,io_enter,io_lifts,io_make]
 kernel_rfl
theorem normal_holds:Rows.TopNormalFormsSaid :=
 OpenClaim.holds_of_wide 3 Tryz.f3 rfl rfl rfl rfl rfl rfl rfl ⟨rfl,rfl,rfl,rfl,rfl⟩ rfl rfl rfl rfl rfl (by as_aux_lemma=>kernel_rfl) Tryz.func3 normal_joined
  (of_decide_eq_true (by as_aux_lemma=>kernel_rfl)) (by unfold Func.isWrapper;first|(rw [if_pos (by decide +kernel)];kernel_rfl)|(rw [if_neg (by decide +kernel)];exact⟨rfl,rfl⟩))
  (fun os started H enc _=>normal_lifted os started H enc)
theorem normal_card:Rows.TopNormalFormsCardSaid :=
 Claim7.holds_tied_plain_at .later [] [.data, .data, .data, .sentinel, .sentinel, .widerDeep] true (true, "e4bed1abe0e4f71a774e917a73c8dd67f5d592ae8e43c4c565310e203943e237") true
  normal_holds (fun _ h=>by cases h) (by as_aux_lemma=>kernel_rfl) (fun _ h=>by cases h) topNormalForms_row_tie rfl ⟨rfl,rfl⟩ io_main rfl
  (fun f fn hf hfn=>by
   obtain rfl : f = 3 := Option.some.inj ((show Tryz.prog.funcNamed "apograph/apographtop.TopNormalForms" = some 3 by as_aux_lemma => kernel_rfl).symm.trans hf) |>.symm
   obtain rfl:fn=Tryz.f3:=(Option.some.inj (Tryz.func3.symm.trans hfn)).symm
   exact⟨by as_aux_lemma=>kernel_rfl,fun j t ht=>by
    have ht':[22,23,5][j]?=some t:=by rw [Tryz.params3] at ht;simpa using ht
    have hm:=List.mem_of_getElem? ht'
    simp only [List.mem_cons,List.mem_nil_iff,or_false] at hm
    rcases hm with rfl|rfl|rfl <;> exact (show Tryz.prog.wantsStandIn _=false by as_aux_lemma=>kernel_rfl)⟩)
  (by as_aux_lemma=>kernel_rfl)
#print axioms normal_card
end Go.Proofs.YtbfcfpmholkmeaaGreatDoor
