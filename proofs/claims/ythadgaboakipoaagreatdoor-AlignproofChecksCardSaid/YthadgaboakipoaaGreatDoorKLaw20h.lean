/- The law AlignproofChecks holds for whatever costs, sources, columns and potentials: the tied card of its row. No condition beyond the row's own. -/
import Derived.Test.YthadgaboakipoaaGreatDoorR5
import Derived.Test.YthadgaboakipoaaGreatDoorCards
import Derived.Test.YthadgaboakipoaaGreatDoorTie
set_option linter.unusedSectionVars false
set_option linter.unusedVariables false
set_option linter.unusedSimpArgs false
namespace Go.Proofs.YthadgaboakipoaaGreatDoor
open Go.RowKit Go.Shelf Go.ChangeShapes Go.WideShapes Go.Proofs
set_option maxRecDepth 100000
set_option maxHeartbeats 1000000

theorem checksL20_spec (c:Costs) (x:Value) (m:List (List Tok)) (y z:Value) (o:List (List Int)) (q:List Int) (w:World) (hst:Std w) (hx:Rd (wr w) [x] [.s 1 (m.map toksD)]) (hy:Rd (wr w) [y] [rowsD o]) (hz:Rd (wr w) [z] [intsD q]) :
  Spec Tryz.prog 5 [.agg (case20L c x).toArray,y,z] w (fun v R=>v = .bool true∧R=[]):=by
 obtain⟨A,ca,l,rfl,hnb,hs,hl,-⟩:=hx.toksL
 obtain⟨Aq,cq,rfl,hq1,hq2⟩:=hz.ints
 refine spec_of sg Tryz.func5 rfl rfl rfl ?_
 refine T_op (OpT.box (cs:=case20L c (.slice A l.length ca)) rfl rfl rfl rfl rfl rfl rfl (fun pc=>?_))
 have hT:∀ {w':World} {H:List HA},Cls w w' H→TsOk w' l:=fun hw=>⟨fun t ht=>src_below (hl.src t ht) hw.below,hl.len,hl.bd⟩
 repeat' (first|refine d1 ?_|refine dd ?_|(show T _ (.ops _ (_::_)::_) _ _ _;first|refine T_call rfl rfl rfl rfl rfl (fun w hw=>great20_spec A l.length ca l w (rdSrc hs w hw) rfl hnb (hT hw)) ?_|refine T_callC rfl rfl rfl rfl rfl rfl rfl (fun hg w hw=>great20_spec A l.length ca l w (rdSrc hs w hw) rfl hnb (hT hw)) ?_|refine T_call rfl rfl rfl rfl rfl (fun w hw=>greatC19_spec y o 30 w (hy.old hw)) ?_|refine T_callC rfl rfl rfl rfl rfl rfl rfl (fun hg w hw=>greatC19_spec y o 30 w (hy.old hw)) ?_)|(show T _ (.run _ _ (_::_) _ _::_) _ _ _;first|refine rc rfl rfl rfl rfl rfl rfl rfl (fun w hw=>great20_spec A l.length ca l w (rdSrc hs w hw) rfl hnb (hT hw)) ?_|refine rcG rfl rfl rfl rfl rfl rfl rfl rfl rfl (fun hg w hw=>great20_spec A l.length ca l w (rdSrc hs w hw) rfl hnb (hT hw)) ?_|refine rc rfl rfl rfl rfl rfl rfl rfl (fun w hw=>greatC19_spec y o 30 w (hy.old hw)) ?_|refine rcG rfl rfl rfl rfl rfl rfl rfl rfl rfl (fun hg w hw=>greatC19_spec y o 30 w (hy.old hw)) ?_)|(show ∀ _:Nat,T _ _ _ _ _;intro _))
 refine T_if rfl (fun _=>?_) (fun h=>?_)
 ·repeat' (first|refine d1 ?_|refine dd ?_|(show T _ (.ops _ (_::_)::_) _ _ _;first|refine T_call rfl rfl rfl rfl rfl (fun w hw=>awake20_spec w (hst.cls hw)) ?_|refine T_callC rfl rfl rfl rfl rfl rfl rfl (fun hg w hw=>awake20_spec w (hst.cls hw)) ?_)|(show T _ (.run _ _ (_::_) _ _::_) _ _ _;first|refine rc rfl rfl rfl rfl rfl rfl rfl (fun w hw=>awake20_spec w (hst.cls hw)) ?_|refine rcG rfl rfl rfl rfl rfl rfl rfl rfl rfl (fun hg w hw=>awake20_spec w (hst.cls hw)) ?_)|(show ∀ _:Nat,T _ _ _ _ _;intro _)|(show T _ (.code .ret::_) _ _ _;refine T_retV [] rfl (Hle.none _) ⟨rfl,rfl⟩))
 have hh:great20B l=false∧greatC19 o 30=false∧q.length≤310:=by
  simp only [Bool.or_eq_false_iff,decide_eq_false_iff_not] at h
  exact⟨h.1.1,h.1.2,by omega⟩
 clear h
 obtain⟨hgr,hgo,hq310⟩:=hh
 obtain⟨-,ho30⟩:=greatC19_no hgo
 have hf:=fit_of hst hs rfl hl hgr
 repeat' (first|refine d1 ?_|refine dd ?_|(show T _ (.ops _ (_::_)::_) _ _ _;first|refine T_val rfl (Val.loadA (vs:=c.cells) rfl (fun _=>rdPart rfl) rfl) rfl rfl rfl ?_|refine T_valC rfl (Val.loadA (vs:=c.cells) rfl (fun _=>rdPart rfl) rfl) rfl rfl rfl rfl rfl ?_|refine T_call rfl rfl rfl rfl rfl (fun w hw=>slack20_spec c A l.length ca l y o Aq q.length cq q w (hf.cls hw) (hy.old hw) (by omega) (rdSrc hq2 w hw) rfl (by omega)) ?_|refine T_callC rfl rfl rfl rfl rfl rfl rfl (fun hg w hw=>slack20_spec c A l.length ca l y o Aq q.length cq q w (hf.cls hw) (hy.old hw) (by omega) (rdSrc hq2 w hw) rfl (by omega)) ?_|refine T_call rfl rfl rfl rfl rfl (fun w hw=>slackR20_spec c A l.length ca l y o Aq q.length cq q w (hf.cls hw) (hy.old hw) (by omega) (rdSrc hq2 w hw) rfl (by omega)) ?_|refine T_callC rfl rfl rfl rfl rfl rfl rfl (fun hg w hw=>slackR20_spec c A l.length ca l y o Aq q.length cq q w (hf.cls hw) (hy.old hw) (by omega) (rdSrc hq2 w hw) rfl (by omega)) ?_|refine T_op (OpT.call rfl rfl rfl rfl rfl (fun w hw=>tight20_spec c A l.length ca l Aq q.length cq q w (hf.cls hw) (rdSrc hq2 w hw) rfl (by omega)) ?_))|(show T _ (.run _ _ (_::_) _ _::_) _ _ _;first|refine rv rfl rfl rfl (Val.loadA (vs:=c.cells) rfl (fun _=>rdPart rfl) rfl) rfl rfl rfl ?_|refine rg rfl rfl rfl (Val.loadA (vs:=c.cells) rfl (fun _=>rdPart rfl) rfl) rfl rfl rfl rfl rfl ?_|refine rc rfl rfl rfl rfl rfl rfl rfl (fun w hw=>slack20_spec c A l.length ca l y o Aq q.length cq q w (hf.cls hw) (hy.old hw) (by omega) (rdSrc hq2 w hw) rfl (by omega)) ?_|refine rcG rfl rfl rfl rfl rfl rfl rfl rfl rfl (fun hg w hw=>slack20_spec c A l.length ca l y o Aq q.length cq q w (hf.cls hw) (hy.old hw) (by omega) (rdSrc hq2 w hw) rfl (by omega)) ?_|refine rc rfl rfl rfl rfl rfl rfl rfl (fun w hw=>slackR20_spec c A l.length ca l y o Aq q.length cq q w (hf.cls hw) (hy.old hw) (by omega) (rdSrc hq2 w hw) rfl (by omega)) ?_|refine rcG rfl rfl rfl rfl rfl rfl rfl rfl rfl (fun hg w hw=>slackR20_spec c A l.length ca l y o Aq q.length cq q w (hf.cls hw) (hy.old hw) (by omega) (rdSrc hq2 w hw) rfl (by omega)) ?_)|(show ∀ _:Nat,T _ _ _ _ _;intro _))
 rintro v R ⟨x1,-,rfl,rfl⟩
 refine T_le (H':=[dat [x1] [rowsD (tgtV c l q).1],blk pc (case20L c (.slice A l.length ca)) 42]) (Hle.refl _) ?_
 refine T_open fun p1 h1=>?_
 repeat' (first|refine d1 ?_|refine dd ?_|(show T _ (.ops _ (_::_)::_) _ _ _;first|refine T_val rfl (Val.loadA (vs:=c.cells) rfl (fun _=>rdPart rfl) rfl) rfl rfl rfl ?_|refine T_valC rfl (Val.loadA (vs:=c.cells) rfl (fun _=>rdPart rfl) rfl) rfl rfl rfl rfl rfl ?_|refine T_op (OpT.call rfl rfl rfl rfl rfl (fun w hw=>tightR20_spec c A l.length ca l Aq q.length cq q w (hf.cls hw) (rdSrc hq2 w hw) rfl (by omega)) ?_))|(show T _ (.run _ _ (_::_) _ _::_) _ _ _;first|refine rv rfl rfl rfl (Val.loadA (vs:=c.cells) rfl (fun _=>rdPart rfl) rfl) rfl rfl rfl ?_|refine rg rfl rfl rfl (Val.loadA (vs:=c.cells) rfl (fun _=>rdPart rfl) rfl) rfl rfl rfl rfl rfl ?_)|(show ∀ _:Nat,T _ _ _ _ _;intro _))
 rintro v R ⟨x2,-,rfl,rfl⟩
 refine T_le (H':=[dat [x2] [rowsD (tgtV c l q).1],fz p1,blk pc (case20L c (.slice A l.length ca)) 42]) (Hle.refl _) ?_
 refine T_open fun p2 h2=>?_
 generalize tgtV c l q=P at *
 repeat' (first|refine d1 ?_|refine dd ?_|(show T _ (.ops _ (_::_)::_) _ _ _;first|refine T_val rfl (Val.loadA (vs:=c.cells) rfl (fun _=>rdPart rfl) rfl) rfl rfl rfl ?_|refine T_valC rfl (Val.loadA (vs:=c.cells) rfl (fun _=>rdPart rfl) rfl) rfl rfl rfl rfl rfl ?_|refine T_call rfl rfl rfl rfl rfl (fun w hw=>checkP20_spec c A l.length ca l Aq q.length cq q w (hf.cls hw) (rdSrc hq2 w hw) rfl (by omega)) ?_|refine T_callC rfl rfl rfl rfl rfl rfl rfl (fun hg w hw=>checkP20_spec c A l.length ca l Aq q.length cq q w (hf.cls hw) (rdSrc hq2 w hw) rfl (by omega)) ?_|refine T_call rfl rfl rfl rfl rfl (fun w hw=>checkR20_spec c A l.length ca l Aq q.length cq q w (hf.cls hw) (rdSrc hq2 w hw) rfl (by omega)) ?_|refine T_callC rfl rfl rfl rfl rfl rfl rfl (fun hg w hw=>checkR20_spec c A l.length ca l Aq q.length cq q w (hf.cls hw) (rdSrc hq2 w hw) rfl (by omega)) ?_|refine T_call rfl rfl rfl rfl rfl (fun w hw=>verify20_spec c A l.length ca l y o Aq q.length cq q w (hf.cls hw) (hy.old hw) (by omega) (rdSrc hq2 w hw) rfl (by omega)) ?_|refine T_callC rfl rfl rfl rfl rfl rfl rfl (fun hg w hw=>verify20_spec c A l.length ca l y o Aq q.length cq q w (hf.cls hw) (hy.old hw) (by omega) (rdSrc hq2 w hw) rfl (by omega)) ?_|refine T_call rfl rfl rfl rfl rfl (fun w hw=>verifyR20_spec c A l.length ca l y o Aq q.length cq q w (hf.cls hw) (hy.old hw) (by omega) (rdSrc hq2 w hw) rfl (by omega)) ?_|refine T_callC rfl rfl rfl rfl rfl rfl rfl (fun hg w hw=>verifyR20_spec c A l.length ca l y o Aq q.length cq q w (hf.cls hw) (hy.old hw) (by omega) (rdSrc hq2 w hw) rfl (by omega)) ?_|refine T_call rfl rfl rfl rfl rfl (fun w hw=>sameCols19_spec x1 x2 P.1 P.1 w (h1.own hw) (h2.own hw)) ?_|refine T_callC rfl rfl rfl rfl rfl rfl rfl (fun hg w hw=>sameCols19_spec x1 x2 P.1 P.1 w (h1.own hw) (h2.own hw)) ?_|refine T_call rfl rfl rfl rfl rfl (fun w hw=>awake20_spec w (hst.cls hw)) ?_|refine T_callC rfl rfl rfl rfl rfl rfl rfl (fun hg w hw=>awake20_spec w (hst.cls hw)) ?_)|(show T _ (.run _ _ (_::_) _ _::_) _ _ _;first|refine rv rfl rfl rfl (Val.loadA (vs:=c.cells) rfl (fun _=>rdPart rfl) rfl) rfl rfl rfl ?_|refine rg rfl rfl rfl (Val.loadA (vs:=c.cells) rfl (fun _=>rdPart rfl) rfl) rfl rfl rfl rfl rfl ?_|refine rc rfl rfl rfl rfl rfl rfl rfl (fun w hw=>checkP20_spec c A l.length ca l Aq q.length cq q w (hf.cls hw) (rdSrc hq2 w hw) rfl (by omega)) ?_|refine rcG rfl rfl rfl rfl rfl rfl rfl rfl rfl (fun hg w hw=>checkP20_spec c A l.length ca l Aq q.length cq q w (hf.cls hw) (rdSrc hq2 w hw) rfl (by omega)) ?_|refine rc rfl rfl rfl rfl rfl rfl rfl (fun w hw=>checkR20_spec c A l.length ca l Aq q.length cq q w (hf.cls hw) (rdSrc hq2 w hw) rfl (by omega)) ?_|refine rcG rfl rfl rfl rfl rfl rfl rfl rfl rfl (fun hg w hw=>checkR20_spec c A l.length ca l Aq q.length cq q w (hf.cls hw) (rdSrc hq2 w hw) rfl (by omega)) ?_|refine rc rfl rfl rfl rfl rfl rfl rfl (fun w hw=>verify20_spec c A l.length ca l y o Aq q.length cq q w (hf.cls hw) (hy.old hw) (by omega) (rdSrc hq2 w hw) rfl (by omega)) ?_|refine rcG rfl rfl rfl rfl rfl rfl rfl rfl rfl (fun hg w hw=>verify20_spec c A l.length ca l y o Aq q.length cq q w (hf.cls hw) (hy.old hw) (by omega) (rdSrc hq2 w hw) rfl (by omega)) ?_|refine rc rfl rfl rfl rfl rfl rfl rfl (fun w hw=>verifyR20_spec c A l.length ca l y o Aq q.length cq q w (hf.cls hw) (hy.old hw) (by omega) (rdSrc hq2 w hw) rfl (by omega)) ?_|refine rcG rfl rfl rfl rfl rfl rfl rfl rfl rfl (fun hg w hw=>verifyR20_spec c A l.length ca l y o Aq q.length cq q w (hf.cls hw) (hy.old hw) (by omega) (rdSrc hq2 w hw) rfl (by omega)) ?_|refine rc rfl rfl rfl rfl rfl rfl rfl (fun w hw=>sameCols19_spec x1 x2 P.1 P.1 w (h1.own hw) (h2.own hw)) ?_|refine rcG rfl rfl rfl rfl rfl rfl rfl rfl rfl (fun hg w hw=>sameCols19_spec x1 x2 P.1 P.1 w (h1.own hw) (h2.own hw)) ?_|refine rc rfl rfl rfl rfl rfl rfl rfl (fun w hw=>awake20_spec w (hst.cls hw)) ?_|refine rcG rfl rfl rfl rfl rfl rfl rfl rfl rfl (fun hg w hw=>awake20_spec w (hst.cls hw)) ?_)|(show ∀ _:Nat,T _ _ _ _ _;intro _)|(show T _ (.code .ret::_) _ _ _;refine T_retV [] rfl (Hle.none _) ⟨congrArg Value.bool ?_,rfl⟩))
 simp
theorem checks20_met (os:Os) (args:Array Value):laidMetH Tryz.prog Rows.alignproofChecksRow.laid ((World.doorLaid Tryz.prog 400 os).forCall (fun _ _=>0) ⟨#[],args,[]⟩).memory :=
 io_met os args
theorem checks20_lifted (os:Os) (started:os.Started) (H:Type) (enc:TypeId × Value→H) :
  ReturnsInHanded {} Tryz.checked os 5 .any (fun w args=>(Rows.alignproofChecksSpec.pre enc Tryz.prog Tryz.f5 [] false w args∧laidMetH Tryz.prog Rows.alignproofChecksRow.laid w)∧sizedMet enc Tryz.prog Tryz.f5 (OpenSpec.ofChange Rows.alignproofChecksSpec) false w args)
   (Rows.alignproofChecksSpec.post enc Tryz.prog Tryz.f5 false true false false):=by
 refine returnsInHanded_of_change_and (C:=Tryz.checked) (X:=fun w _=>laidMetH Tryz.prog Rows.alignproofChecksRow.laid w) (fun _ _ _ hh h=>h.of_heap hh) knob started (by as_aux_lemma=>kernel_rfl) Tryz.func5
  (ChangeSpec.witness_shaped (enc:=enc) (C:=Tryz.checked) (os:=os) (X:=fun w _=>laidMetH Tryz.prog Rows.alignproofChecksRow.laid w) false (World.doorLaid Tryz.prog 400 os) #[(.agg #[.int .i64 0, .int .i64 0, .int .i64 0, .int .i64 0, .slice none 0 0]), .slice none 0 0, .slice none 0 0] 8 rfl (World.shaped_of_RefB (by as_aux_lemma=>kernel_rfl) (by as_aux_lemma=>kernel_rfl)) (by as_aux_lemma=>kernel_rfl) (by as_aux_lemma=>kernel_rfl) (by as_aux_lemma=>kernel_rfl) (checks20_met os _)) ?_
 intro W base args ds gs before hval0 hW _ _ hL _
 have hval:∀ (j:Nat) t v,Tryz.f5.params[j]?=some t→args[j]?=some v→Value.okWide Tryz.prog W .any base t v:=hval0
 have hstd:=std_of (show laidMetH Tryz.prog laids W from hL)
 have hW':=hW
 obtain⟨p,q,hA0,hV,rfl,hfz,hnd⟩:=hW
 have hA:DataW.TrodAll enc Tryz.prog W 0 (fun _=>true) true Tryz.f5.params.toList args.toList ds p:=hA0
 obtain⟨v0,vs0,d0,ds0,p0,q0,e0,rfl,rfl,h0,hA⟩:=trodAll_cons hA
 obtain⟨v1,vs1,d1,ds1,p1,q1,rfl,rfl,rfl,h1,hA⟩:=trodAll_cons hA
 obtain⟨v2,vs2,d2,ds2,p2,q2,rfl,rfl,rfl,h2,hA⟩:=trodAll_cons hA
 obtain⟨rfl,rfl,rfl⟩:=trodAll_nil hA
 have ea:args = #[v0,v1,v2]:=Array.ext' e0
 subst ea
 obtain⟨c_x,z_x,m_x,rfl,hr_x⟩:=arg_case20 (hval 0 _ v0 rfl rfl) h0
 obtain⟨cols,hr_cols⟩:=arg_rows (hval 1 _ v1 rfl rfl) h1
 obtain⟨p,hr_p⟩:=arg_ints (hval 2 _ v2 rfl rfl) h2
 refine (checksL20_spec c_x z_x m_x v1 v2 cols p W hstd hr_x hr_cols hr_p).calls.mono ?_
 rintro e W' ⟨v,A,rfl,⟨rfl,_⟩,hb,_⟩
 exact⟨_,rfl,law_post hW' rfl rfl laidOk (by intro t ht;simp only [show Tryz.f5.params.toList=[42,47,27] from rfl,List.mem_cons,List.mem_nil_iff,or_false] at ht;rcases ht with rfl|rfl|rfl <;> exact⟨by as_aux_lemma=>kernel_rfl,of_decide_eq_true (by as_aux_lemma=>kernel_rfl)⟩) rfl Tryz.underlying4 hb⟩
theorem checks20_j0:Tryz.prog.inPlace 5=Rows.alignproofChecksRow.inPlace:=by as_aux_lemma=>kernel_rfl
theorem checks20_j1:Tryz.prog.unfollowed 5=Rows.alignproofChecksRow.unfollowed:=by as_aux_lemma=>kernel_rfl
theorem checks20_j2:Tryz.prog.recurses 5=Rows.alignproofChecksRow.recurses:=by as_aux_lemma=>kernel_rfl
theorem checks20_j3:Tryz.prog.varsNamed 5=Rows.alignproofChecksRow.named:=by as_aux_lemma=>kernel_rfl
theorem checks20_joined:joinedFacts Tryz.prog 5 Tryz.f5 Rows.alignproofChecksSpec Rows.alignproofChecksRow=true:=by
 unfold joinedFacts
 rw [checks20_j0,checks20_j1,checks20_j2,checks20_j3,io_enter,io_lifts,io_make]
 kernel_rfl
theorem checks20_holds:Rows.AlignproofChecksSaid :=
 OpenClaim.holds_of_wide 5 Tryz.f5 rfl rfl rfl rfl rfl rfl rfl ⟨rfl,rfl,rfl,rfl,rfl⟩ rfl rfl rfl rfl rfl (by as_aux_lemma=>kernel_rfl) Tryz.func5 checks20_joined
  (of_decide_eq_true (by as_aux_lemma=>kernel_rfl)) (by unfold Func.isWrapper;first|(rw [if_pos (by decide +kernel)];kernel_rfl)|(rw [if_neg (by decide +kernel)];exact⟨rfl,rfl⟩))
  (fun os started H enc _=>checks20_lifted os started H enc)
theorem checks20_card:Rows.AlignproofChecksCardSaid :=
 Claim7.holds_tied_plain_at .later [] [.data, .data, .data, .sentinel, .sentinel] true (true, "7080c7f546c29ed8c1cc3509f869e7472f8993486f61c317fc165cbc41be9449") true
  checks20_holds (fun _ h=>by cases h) (by as_aux_lemma=>kernel_rfl) (fun _ h=>by cases h) alignproofChecks_row_tie rfl ⟨rfl,rfl⟩ io_main rfl
  (fun f fn hf hfn=>by
   obtain rfl : f = 5 := Option.some.inj ((show Tryz.prog.funcNamed "apograph/apographlaw20.AlignproofChecks" = some 5 by as_aux_lemma => kernel_rfl).symm.trans hf) |>.symm
   obtain rfl:fn=Tryz.f5:=(Option.some.inj (Tryz.func5.symm.trans hfn)).symm
   exact⟨by as_aux_lemma=>kernel_rfl,fun j t ht=>by
    have ht':[42,47,27][j]?=some t:=by rw [Tryz.params5] at ht;simpa using ht
    have hm:=List.mem_of_getElem? ht'
    simp only [List.mem_cons,List.mem_nil_iff,or_false] at hm
    rcases hm with rfl|rfl|rfl <;> exact (show Tryz.prog.wantsStandIn _=false by as_aux_lemma=>kernel_rfl)⟩)
  (by as_aux_lemma=>kernel_rfl)
#print axioms checks20_card
end Go.Proofs.YthadgaboakipoaaGreatDoor
