/- The law AlignproofPotentials holds for whatever costs, sources and offsets: the tied card of its row. No condition beyond the row's own. -/
import Derived.Test.YthadgaboakipoaaGreatDoorR5
import Derived.Test.YthadgaboakipoaaGreatDoorCards
import Derived.Test.YthadgaboakipoaaGreatDoorTie
set_option linter.unusedSectionVars false
set_option linter.unusedVariables false
set_option linter.unusedSimpArgs false
namespace Go.Proofs.YthadgaboakipoaaGreatDoor
open Go.RowKit Go.Shelf Go.ChangeShapes Go.WideShapes Go.Proofs
set_option maxRecDepth 100000
set_option maxHeartbeats 1000000

theorem potentialsL20_spec (c:Costs) (x:Value) (m:List (List Tok)) (z:Value) (q:List Int) (w:World) (hst:Std w) (hx:Rd (wr w) [x] [.s 1 (m.map toksD)]) (hz:Rd (wr w) [z] [intsD q]) :
  Spec Tryz.prog 4 [.agg (case20L c x).toArray,z] w (fun v R=>v = .bool true∧R=[]):=by
 obtain⟨A,ca,l,rfl,hnb,hs,hl,-⟩:=hx.toksL
 obtain⟨Aq,cq,rfl,hq1,hq2⟩:=hz.ints
 refine spec_of sg Tryz.func4 rfl rfl rfl ?_
 refine T_op (OpT.box (cs:=case20L c (.slice A l.length ca)) rfl rfl rfl rfl rfl rfl rfl (fun pc=>?_))
 have hT:∀ {w':World} {H:List HA},Cls w w' H→TsOk w' l:=fun hw=>⟨fun t ht=>src_below (hl.src t ht) hw.below,hl.len,hl.bd⟩
 repeat' (first|refine d1 ?_|refine dd ?_|(show T _ (.ops _ (_::_)::_) _ _ _;first|refine T_call rfl rfl rfl rfl rfl (fun w hw=>great20_spec A l.length ca l w (rdSrc hs w hw) rfl hnb (hT hw)) ?_|refine T_callC rfl rfl rfl rfl rfl rfl rfl (fun hg w hw=>great20_spec A l.length ca l w (rdSrc hs w hw) rfl hnb (hT hw)) ?_)|(show T _ (.run _ _ (_::_) _ _::_) _ _ _;first|refine rc rfl rfl rfl rfl rfl rfl rfl (fun w hw=>great20_spec A l.length ca l w (rdSrc hs w hw) rfl hnb (hT hw)) ?_|refine rcG rfl rfl rfl rfl rfl rfl rfl rfl rfl (fun hg w hw=>great20_spec A l.length ca l w (rdSrc hs w hw) rfl hnb (hT hw)) ?_)|(show ∀ _:Nat,T _ _ _ _ _;intro _))
 refine T_if rfl (fun _=>?_) (fun h=>?_)
 ·repeat' (first|refine d1 ?_|refine dd ?_|(show T _ (.ops _ (_::_)::_) _ _ _;first|refine T_call rfl rfl rfl rfl rfl (fun w hw=>awake20_spec w (hst.cls hw)) ?_|refine T_callC rfl rfl rfl rfl rfl rfl rfl (fun hg w hw=>awake20_spec w (hst.cls hw)) ?_)|(show T _ (.run _ _ (_::_) _ _::_) _ _ _;first|refine rc rfl rfl rfl rfl rfl rfl rfl (fun w hw=>awake20_spec w (hst.cls hw)) ?_|refine rcG rfl rfl rfl rfl rfl rfl rfl rfl rfl (fun hg w hw=>awake20_spec w (hst.cls hw)) ?_)|(show ∀ _:Nat,T _ _ _ _ _;intro _)|(show T _ (.code .ret::_) _ _ _;refine T_retV [] rfl (Hle.none _) ⟨rfl,rfl⟩))
 have hh:great20B l=false∧q.length≤8:=by
  simp only [Bool.or_eq_false_iff,decide_eq_false_iff_not] at h
  exact⟨h.1,by omega⟩
 clear h
 obtain⟨hgr,hq8⟩:=hh
 have hf:=fit_of hst hs rfl hl hgr
 repeat' (first|refine d1 ?_|refine dd ?_|(show T _ (.ops _ (_::_)::_) _ _ _;first|refine T_val rfl (Val.loadA (vs:=c.cells) rfl (fun _=>rdPart rfl) rfl) rfl rfl rfl ?_|refine T_valC rfl (Val.loadA (vs:=c.cells) rfl (fun _=>rdPart rfl) rfl) rfl rfl rfl rfl rfl ?_|refine T_op (OpT.call rfl rfl rfl rfl rfl (fun w hw=>potentials20_spec c A l.length ca l w (hf.cls hw)) ?_))|(show T _ (.run _ _ (_::_) _ _::_) _ _ _;first|refine rv rfl rfl rfl (Val.loadA (vs:=c.cells) rfl (fun _=>rdPart rfl) rfl) rfl rfl rfl ?_|refine rg rfl rfl rfl (Val.loadA (vs:=c.cells) rfl (fun _=>rdPart rfl) rfl) rfl rfl rfl rfl rfl ?_)|(show ∀ _:Nat,T _ _ _ _ _;intro _))
 rintro v R ⟨x1,-,rfl,rfl⟩
 refine T_le (H':=[dat [x1] [intsD (potV c l).1],blk pc (case20L c (.slice A l.length ca)) 42]) (Hle.refl _) ?_
 refine T_open fun p1 h1=>?_
 repeat' (first|refine d1 ?_|refine dd ?_|(show T _ (.ops _ (_::_)::_) _ _ _;first|refine T_val rfl (Val.loadA (vs:=c.cells) rfl (fun _=>rdPart rfl) rfl) rfl rfl rfl ?_|refine T_valC rfl (Val.loadA (vs:=c.cells) rfl (fun _=>rdPart rfl) rfl) rfl rfl rfl rfl rfl ?_|refine T_op (OpT.call rfl rfl rfl rfl rfl (fun w hw=>potentialsR20_spec c A l.length ca l w (hf.cls hw)) ?_))|(show T _ (.run _ _ (_::_) _ _::_) _ _ _;first|refine rv rfl rfl rfl (Val.loadA (vs:=c.cells) rfl (fun _=>rdPart rfl) rfl) rfl rfl rfl ?_|refine rg rfl rfl rfl (Val.loadA (vs:=c.cells) rfl (fun _=>rdPart rfl) rfl) rfl rfl rfl rfl rfl ?_)|(show ∀ _:Nat,T _ _ _ _ _;intro _))
 rintro v R ⟨x2,-,rfl,rfl⟩
 refine T_le (H':=[dat [x2] [intsD (potV c l).1],fz p1,blk pc (case20L c (.slice A l.length ca)) 42]) (Hle.refl _) ?_
 refine T_open fun p2 h2=>?_
 repeat' (first|refine d1 ?_|refine dd ?_|(show T _ (.ops _ (_::_)::_) _ _ _;first|refine T_val rfl (Val.loadA (vs:=c.cells) rfl (fun _=>rdPart rfl) rfl) rfl rfl rfl ?_|refine T_valC rfl (Val.loadA (vs:=c.cells) rfl (fun _=>rdPart rfl) rfl) rfl rfl rfl rfl rfl ?_|refine T_op (OpT.call rfl rfl rfl rfl rfl (fun w hw=>pairs20_spec c A l.length ca l w (hf.cls hw)) ?_))|(show T _ (.run _ _ (_::_) _ _::_) _ _ _;first|refine rv rfl rfl rfl (Val.loadA (vs:=c.cells) rfl (fun _=>rdPart rfl) rfl) rfl rfl rfl ?_|refine rg rfl rfl rfl (Val.loadA (vs:=c.cells) rfl (fun _=>rdPart rfl) rfl) rfl rfl rfl rfl rfl ?_)|(show ∀ _:Nat,T _ _ _ _ _;intro _))
 rintro v R ⟨x3,-,rfl,rfl⟩
 refine T_le (H':=[dat [x3] [intsD (prsW c l).1],fz p2,fz p1,blk pc (case20L c (.slice A l.length ca)) 42]) (Hle.refl _) ?_
 refine T_open fun p3 h3=>?_
 repeat' (first|refine d1 ?_|refine dd ?_|(show T _ (.ops _ (_::_)::_) _ _ _;first|refine T_val rfl (Val.loadA (vs:=c.cells) rfl (fun _=>rdPart rfl) rfl) rfl rfl rfl ?_|refine T_valC rfl (Val.loadA (vs:=c.cells) rfl (fun _=>rdPart rfl) rfl) rfl rfl rfl rfl rfl ?_|refine T_op (OpT.call rfl rfl rfl rfl rfl (fun w hw=>pairsR20_spec c A l.length ca l w (hf.cls hw)) ?_))|(show T _ (.run _ _ (_::_) _ _::_) _ _ _;first|refine rv rfl rfl rfl (Val.loadA (vs:=c.cells) rfl (fun _=>rdPart rfl) rfl) rfl rfl rfl ?_|refine rg rfl rfl rfl (Val.loadA (vs:=c.cells) rfl (fun _=>rdPart rfl) rfl) rfl rfl rfl rfl rfl ?_)|(show ∀ _:Nat,T _ _ _ _ _;intro _))
 rintro v R ⟨x4,-,rfl,rfl⟩
 refine T_le (H':=[dat [x4] [intsD (prsW c l).1],fz p3,fz p2,fz p1,blk pc (case20L c (.slice A l.length ca)) 42]) (Hle.refl _) ?_
 refine T_open fun p4 h4=>?_
 generalize potV c l=P at *
 generalize prsW c l=Q at *
 repeat' (first|refine d1 ?_|refine dd ?_|(show T _ (.ops _ (_::_)::_) _ _ _;first|refine T_call rfl rfl rfl rfl rfl (fun w hw=>place20_spec A l.length ca l Aq q.length cq q w (hf.cls hw) (rdSrc hq2 w hw) rfl (by omega)) ?_|refine T_callC rfl rfl rfl rfl rfl rfl rfl (fun hg w hw=>place20_spec A l.length ca l Aq q.length cq q w (hf.cls hw) (rdSrc hq2 w hw) rfl (by omega)) ?_|refine T_call rfl rfl rfl rfl rfl (fun w hw=>placeR20_spec A l.length ca l Aq q.length cq q w (hf.cls hw) (rdSrc hq2 w hw) rfl (by omega)) ?_|refine T_callC rfl rfl rfl rfl rfl rfl rfl (fun hg w hw=>placeR20_spec A l.length ca l Aq q.length cq q w (hf.cls hw) (rdSrc hq2 w hw) rfl (by omega)) ?_|refine T_call rfl rfl rfl rfl rfl (fun w hw=>equalI_spec x1 x2 P.1 P.1 w (h1.own hw) (h2.own hw)) ?_|refine T_callC rfl rfl rfl rfl rfl rfl rfl (fun hg w hw=>equalI_spec x1 x2 P.1 P.1 w (h1.own hw) (h2.own hw)) ?_|refine T_call rfl rfl rfl rfl rfl (fun w hw=>equalI_spec x3 x4 Q.1 Q.1 w (h3.own hw) (h4.own hw)) ?_|refine T_callC rfl rfl rfl rfl rfl rfl rfl (fun hg w hw=>equalI_spec x3 x4 Q.1 Q.1 w (h3.own hw) (h4.own hw)) ?_|refine T_call rfl rfl rfl rfl rfl (fun w hw=>awake20_spec w (hst.cls hw)) ?_|refine T_callC rfl rfl rfl rfl rfl rfl rfl (fun hg w hw=>awake20_spec w (hst.cls hw)) ?_)|(show T _ (.run _ _ (_::_) _ _::_) _ _ _;first|refine rc rfl rfl rfl rfl rfl rfl rfl (fun w hw=>place20_spec A l.length ca l Aq q.length cq q w (hf.cls hw) (rdSrc hq2 w hw) rfl (by omega)) ?_|refine rcG rfl rfl rfl rfl rfl rfl rfl rfl rfl (fun hg w hw=>place20_spec A l.length ca l Aq q.length cq q w (hf.cls hw) (rdSrc hq2 w hw) rfl (by omega)) ?_|refine rc rfl rfl rfl rfl rfl rfl rfl (fun w hw=>placeR20_spec A l.length ca l Aq q.length cq q w (hf.cls hw) (rdSrc hq2 w hw) rfl (by omega)) ?_|refine rcG rfl rfl rfl rfl rfl rfl rfl rfl rfl (fun hg w hw=>placeR20_spec A l.length ca l Aq q.length cq q w (hf.cls hw) (rdSrc hq2 w hw) rfl (by omega)) ?_|refine rc rfl rfl rfl rfl rfl rfl rfl (fun w hw=>equalI_spec x1 x2 P.1 P.1 w (h1.own hw) (h2.own hw)) ?_|refine rcG rfl rfl rfl rfl rfl rfl rfl rfl rfl (fun hg w hw=>equalI_spec x1 x2 P.1 P.1 w (h1.own hw) (h2.own hw)) ?_|refine rc rfl rfl rfl rfl rfl rfl rfl (fun w hw=>equalI_spec x3 x4 Q.1 Q.1 w (h3.own hw) (h4.own hw)) ?_|refine rcG rfl rfl rfl rfl rfl rfl rfl rfl rfl (fun hg w hw=>equalI_spec x3 x4 Q.1 Q.1 w (h3.own hw) (h4.own hw)) ?_|refine rc rfl rfl rfl rfl rfl rfl rfl (fun w hw=>awake20_spec w (hst.cls hw)) ?_|refine rcG rfl rfl rfl rfl rfl rfl rfl rfl rfl (fun hg w hw=>awake20_spec w (hst.cls hw)) ?_)|(show ∀ _:Nat,T _ _ _ _ _;intro _)|(show T _ (.code .ret::_) _ _ _;refine T_retV [] rfl (Hle.none _) ⟨congrArg Value.bool ?_,rfl⟩))
 simp
theorem potentials20_met (os:Os) (args:Array Value):laidMetH Tryz.prog Rows.alignproofPotentialsRow.laid ((World.doorLaid Tryz.prog 400 os).forCall (fun _ _=>0) ⟨#[],args,[]⟩).memory :=
 io_met os args
theorem potentials20_lifted (os:Os) (started:os.Started) (H:Type) (enc:TypeId × Value→H) :
  ReturnsInHanded {} Tryz.checked os 4 .any (fun w args=>(Rows.alignproofPotentialsSpec.pre enc Tryz.prog Tryz.f4 [] false w args∧laidMetH Tryz.prog Rows.alignproofPotentialsRow.laid w)∧sizedMet enc Tryz.prog Tryz.f4 (OpenSpec.ofChange Rows.alignproofPotentialsSpec) false w args)
   (Rows.alignproofPotentialsSpec.post enc Tryz.prog Tryz.f4 false true false false):=by
 refine returnsInHanded_of_change_and (C:=Tryz.checked) (X:=fun w _=>laidMetH Tryz.prog Rows.alignproofPotentialsRow.laid w) (fun _ _ _ hh h=>h.of_heap hh) knob started (by as_aux_lemma=>kernel_rfl) Tryz.func4
  (ChangeSpec.witness_shaped (enc:=enc) (C:=Tryz.checked) (os:=os) (X:=fun w _=>laidMetH Tryz.prog Rows.alignproofPotentialsRow.laid w) false (World.doorLaid Tryz.prog 400 os) #[(.agg #[.int .i64 0, .int .i64 0, .int .i64 0, .int .i64 0, .slice none 0 0]), .slice none 0 0] 8 rfl (World.shaped_of_RefB (by as_aux_lemma=>kernel_rfl) (by as_aux_lemma=>kernel_rfl)) (by as_aux_lemma=>kernel_rfl) (by as_aux_lemma=>kernel_rfl) (by as_aux_lemma=>kernel_rfl) (potentials20_met os _)) ?_
 intro W base args ds gs before hval0 hW _ _ hL _
 have hval:∀ (j:Nat) t v,Tryz.f4.params[j]?=some t→args[j]?=some v→Value.okWide Tryz.prog W .any base t v:=hval0
 have hstd:=std_of (show laidMetH Tryz.prog laids W from hL)
 have hW':=hW
 obtain⟨p,q,hA0,hV,rfl,hfz,hnd⟩:=hW
 have hA:DataW.TrodAll enc Tryz.prog W 0 (fun _=>true) true Tryz.f4.params.toList args.toList ds p:=hA0
 obtain⟨v0,vs0,d0,ds0,p0,q0,e0,rfl,rfl,h0,hA⟩:=trodAll_cons hA
 obtain⟨v1,vs1,d1,ds1,p1,q1,rfl,rfl,rfl,h1,hA⟩:=trodAll_cons hA
 obtain⟨rfl,rfl,rfl⟩:=trodAll_nil hA
 have ea:args = #[v0,v1]:=Array.ext' e0
 subst ea
 obtain⟨c_x,z_x,m_x,rfl,hr_x⟩:=arg_case20 (hval 0 _ v0 rfl rfl) h0
 obtain⟨p,hr_p⟩:=arg_ints (hval 1 _ v1 rfl rfl) h1
 refine (potentialsL20_spec c_x z_x m_x v1 p W hstd hr_x hr_p).calls.mono ?_
 rintro e W' ⟨v,A,rfl,⟨rfl,_⟩,hb,_⟩
 exact⟨_,rfl,law_post hW' rfl rfl laidOk (by intro t ht;simp only [show Tryz.f4.params.toList=[42,27] from rfl,List.mem_cons,List.mem_nil_iff,or_false] at ht;rcases ht with rfl|rfl <;> exact⟨by as_aux_lemma=>kernel_rfl,of_decide_eq_true (by as_aux_lemma=>kernel_rfl)⟩) rfl Tryz.underlying4 hb⟩
theorem potentials20_j0:Tryz.prog.inPlace 4=Rows.alignproofPotentialsRow.inPlace:=by as_aux_lemma=>kernel_rfl
theorem potentials20_j1:Tryz.prog.unfollowed 4=Rows.alignproofPotentialsRow.unfollowed:=by as_aux_lemma=>kernel_rfl
theorem potentials20_j2:Tryz.prog.recurses 4=Rows.alignproofPotentialsRow.recurses:=by as_aux_lemma=>kernel_rfl
theorem potentials20_j3:Tryz.prog.varsNamed 4=Rows.alignproofPotentialsRow.named:=by as_aux_lemma=>kernel_rfl
theorem potentials20_joined:joinedFacts Tryz.prog 4 Tryz.f4 Rows.alignproofPotentialsSpec Rows.alignproofPotentialsRow=true:=by
 unfold joinedFacts
 rw [potentials20_j0,potentials20_j1,potentials20_j2,potentials20_j3,io_enter,io_lifts,io_make]
 kernel_rfl
theorem potentials20_holds:Rows.AlignproofPotentialsSaid :=
 OpenClaim.holds_of_wide 4 Tryz.f4 rfl rfl rfl rfl rfl rfl rfl ⟨rfl,rfl,rfl,rfl,rfl⟩ rfl rfl rfl rfl rfl (by as_aux_lemma=>kernel_rfl) Tryz.func4 potentials20_joined
  (of_decide_eq_true (by as_aux_lemma=>kernel_rfl)) (by unfold Func.isWrapper;first|(rw [if_pos (by decide +kernel)];kernel_rfl)|(rw [if_neg (by decide +kernel)];exact⟨rfl,rfl⟩))
  (fun os started H enc _=>potentials20_lifted os started H enc)
theorem potentials20_card:Rows.AlignproofPotentialsCardSaid :=
 Claim7.holds_tied_plain_at .later [] [.data, .data, .data, .sentinel, .sentinel] true (true, "7080c7f546c29ed8c1cc3509f869e7472f8993486f61c317fc165cbc41be9449") true
  potentials20_holds (fun _ h=>by cases h) (by as_aux_lemma=>kernel_rfl) (fun _ h=>by cases h) alignproofPotentials_row_tie rfl ⟨rfl,rfl⟩ io_main rfl
  (fun f fn hf hfn=>by
   obtain rfl : f = 4 := Option.some.inj ((show Tryz.prog.funcNamed "apograph/apographlaw20.AlignproofPotentials" = some 4 by as_aux_lemma => kernel_rfl).symm.trans hf) |>.symm
   obtain rfl:fn=Tryz.f4:=(Option.some.inj (Tryz.func4.symm.trans hfn)).symm
   exact⟨by as_aux_lemma=>kernel_rfl,fun j t ht=>by
    have ht':[42,27][j]?=some t:=by rw [Tryz.params4] at ht;simpa using ht
    have hm:=List.mem_of_getElem? ht'
    simp only [List.mem_cons,List.mem_nil_iff,or_false] at hm
    rcases hm with rfl|rfl <;> exact (show Tryz.prog.wantsStandIn _=false by as_aux_lemma=>kernel_rfl)⟩)
  (by as_aux_lemma=>kernel_rfl)
#print axioms potentials20_card
end Go.Proofs.YthadgaboakipoaaGreatDoor
