/- The law AlignproofTight holds for whatever costs, sources and potentials: the tied card of its row. No condition beyond the row's own. -/
import Derived.Test.YtmenjpmikhajfaaGreatDoorJ5
import Derived.Test.YtmenjpmikhajfaaGreatDoorCards
import Derived.Test.YtmenjpmikhajfaaGreatDoorTie
set_option linter.unusedVariables false
set_option linter.unusedSimpArgs false
namespace Go.Proofs.YtmenjpmikhajfaaGreatDoor
open Go.RowKit Go.Shelf Go.ChangeShapes Go.WideShapes Go.Proofs
set_option maxRecDepth 100000
set_option maxHeartbeats 1000000

theorem tightL20_spec (c:Costs) (x:Value) (m:List (List Tok)) (z:Value) (q:List Int) (w:World) (hst:Std w) (hx:Rd (wr w) [x] [.s 1 (m.map toksD)]) (hz:Rd (wr w) [z] [intsD q]) :
  Spec Tryz.prog 12 [.agg (case20L c x).toArray,z] w (fun v R=>v = .bool true∧R=[]):=by
 obtain⟨A,ca,l,rfl,hnb,hs,hl,-⟩:=hx.toksL
 obtain⟨Aq,cq,rfl,hq1,hq2⟩:=hz.ints
 refine spec_of sg Tryz.func12 rfl rfl rfl ?_
 refine T_op (OpT.box (cs:=case20L c (.slice A l.length ca)) rfl rfl rfl rfl rfl rfl rfl (fun pc=>?_))
 have hT:∀ {w':World} {H:List HA},Cls w w' H→TsOk w' l:=fun hw=>⟨fun t ht=>src_below (hl.src t ht) hw.below,hl.len,hl.bd⟩
 repeat' (first|refine d1 ?_|refine dd ?_|(show T _ (.ops _ (_::_)::_) _ _ _;first|refine T_call rfl rfl rfl rfl rfl (fun w hw=>great20_spec A l.length ca l w (rdSrc hs w hw) rfl hnb (hT hw)) ?_|refine T_callC rfl rfl rfl rfl rfl rfl rfl (fun hg w hw=>great20_spec A l.length ca l w (rdSrc hs w hw) rfl hnb (hT hw)) ?_)|(show T _ (.run _ _ (_::_) _ _::_) _ _ _;first|refine rc rfl rfl rfl rfl rfl rfl rfl (fun w hw=>great20_spec A l.length ca l w (rdSrc hs w hw) rfl hnb (hT hw)) ?_|refine rcG rfl rfl rfl rfl rfl rfl rfl rfl rfl (fun hg w hw=>great20_spec A l.length ca l w (rdSrc hs w hw) rfl hnb (hT hw)) ?_)|(show ∀ _:Nat,T _ _ _ _ _;intro _))
 refine T_if rfl (fun _=>?_) (fun h=>?_)
 ·repeat' (first|refine d1 ?_|refine dd ?_|(show T _ (.ops _ (_::_)::_) _ _ _;first|refine T_call rfl rfl rfl rfl rfl (fun w hw=>awake20_spec w (hst.cls hw)) ?_|refine T_callC rfl rfl rfl rfl rfl rfl rfl (fun hg w hw=>awake20_spec w (hst.cls hw)) ?_)|(show T _ (.run _ _ (_::_) _ _::_) _ _ _;first|refine rc rfl rfl rfl rfl rfl rfl rfl (fun w hw=>awake20_spec w (hst.cls hw)) ?_|refine rcG rfl rfl rfl rfl rfl rfl rfl rfl rfl (fun hg w hw=>awake20_spec w (hst.cls hw)) ?_)|(show ∀ _:Nat,T _ _ _ _ _;intro _)|(show T _ (.code .ret::_) _ _ _;refine T_retV [] rfl (Hle.none _) ⟨rfl,rfl⟩))
 have hh:great20B l=false∧q.length≤310:=by
  simp only [Bool.or_eq_false_iff,decide_eq_false_iff_not] at h
  exact⟨h.1,by omega⟩
 clear h
 obtain⟨hgr,hq310⟩:=hh
 have hf:=fit_of hst hs rfl hl hgr
 repeat' (first|refine d1 ?_|refine dd ?_|(show T _ (.ops _ (_::_)::_) _ _ _;first|refine T_val rfl (Val.loadA (vs:=c.cells) rfl (fun _=>rdPart rfl) rfl) rfl rfl rfl ?_|refine T_valC rfl (Val.loadA (vs:=c.cells) rfl (fun _=>rdPart rfl) rfl) rfl rfl rfl rfl rfl ?_|refine T_op (OpT.call rfl rfl rfl rfl rfl (fun w hw=>potentials20_spec c A l.length ca l w (hf.cls hw)) ?_))|(show T _ (.run _ _ (_::_) _ _::_) _ _ _;first|refine rv rfl rfl rfl (Val.loadA (vs:=c.cells) rfl (fun _=>rdPart rfl) rfl) rfl rfl rfl ?_|refine rg rfl rfl rfl (Val.loadA (vs:=c.cells) rfl (fun _=>rdPart rfl) rfl) rfl rfl rfl rfl rfl ?_)|(show ∀ _:Nat,T _ _ _ _ _;intro _))
 rintro v R ⟨xp,-,rfl,rfl⟩
 by_cases hop:opE c l≠0
 ·have e:potV c l=([],opE c l):=if_pos hop
  rw [e]
  repeat' (first|refine d1 ?_|refine dd ?_|(show ∀ _:Nat,T _ _ _ _ _;intro _))
  refine T_if rfl (fun _=>?_) (fun h=>by exfalso;simp [hop] at h)
  repeat' (first|refine d1 ?_|refine dd ?_|(show T _ (.ops _ (_::_)::_) _ _ _;first|refine T_call rfl rfl rfl rfl rfl (fun w hw=>awake20_spec w (hst.cls hw)) ?_|refine T_callC rfl rfl rfl rfl rfl rfl rfl (fun hg w hw=>awake20_spec w (hst.cls hw)) ?_)|(show T _ (.run _ _ (_::_) _ _::_) _ _ _;first|refine rc rfl rfl rfl rfl rfl rfl rfl (fun w hw=>awake20_spec w (hst.cls hw)) ?_|refine rcG rfl rfl rfl rfl rfl rfl rfl rfl rfl (fun hg w hw=>awake20_spec w (hst.cls hw)) ?_)|(show ∀ _:Nat,T _ _ _ _ _;intro _)|(show T _ (.code .ret::_) _ _ _;refine T_retV [] rfl (Hle.none _) ⟨rfl,rfl⟩))
 have hop:opE c l=0:=by simpa using hop
 have hu:=hf.use hop
 have hV3:=vol_of hgr hu
 have hVp:=volL_pos (lens l)
 have hg:=hf.grp (plE_ok (opE_ok hop).1).2.1
 rw [hu.pot]
 obtain⟨P,hP⟩:∃ P,P=potL (colZ c l) (lens l) (mvL l.length):=⟨_,rfl⟩
 have hPl:P.length=volL (lens l):=by rw [hP,potL_len]
 have htp:tgtV c l P=(alnW c l,0):=by rw [hP];exact hu.tgtPot
 rw [← hP]
 refine T_le (H':=[dat [xp] [intsD P],blk pc (case20L c (.slice A l.length ca)) 56]) (Hle.refl _) ?_
 refine T_open fun pp hpp=>?_
 have hpp0:=hpp
 obtain⟨Ap,cp,rfl,hp1,hp2,-⟩:=hpp.row1
 repeat' (first|refine d1 ?_|refine dd ?_|(show ∀ _:Nat,T _ _ _ _ _;intro _))
 refine T_if rfl (fun h=>by exfalso;simp at h) (fun _=>?_)
 repeat' (first|refine d1 ?_|refine dd ?_|(show T _ (.ops _ (_::_)::_) _ _ _;first|refine T_val rfl (Val.loadA (vs:=c.cells) rfl (fun _=>rdPart rfl) rfl) rfl rfl rfl ?_|refine T_valC rfl (Val.loadA (vs:=c.cells) rfl (fun _=>rdPart rfl) rfl) rfl rfl rfl rfl rfl ?_|refine T_op (OpT.call rfl rfl rfl rfl rfl (fun w hw=>tight20_spec c A l.length ca l Ap P.length cp P w (hf.cls hw) (hpp0.own hw).intsAt rfl (by omega)) ?_))|(show T _ (.run _ _ (_::_) _ _::_) _ _ _;first|refine rv rfl rfl rfl (Val.loadA (vs:=c.cells) rfl (fun _=>rdPart rfl) rfl) rfl rfl rfl ?_|refine rg rfl rfl rfl (Val.loadA (vs:=c.cells) rfl (fun _=>rdPart rfl) rfl) rfl rfl rfl rfl rfl ?_)|(show ∀ _:Nat,T _ _ _ _ _;intro _))
 rintro v R ⟨x1,-,rfl,rfl⟩
 rw [htp]
 refine T_le (H':=[dat [x1] [rowsD (alnW c l)],fz pp,blk pc (case20L c (.slice A l.length ca)) 56]) (Hle.refl _) ?_
 refine T_open fun p1 hp9=>?_
 repeat' (first|refine d1 ?_|refine dd ?_|(show T _ (.ops _ (_::_)::_) _ _ _;first|refine T_val rfl (Val.loadA (vs:=c.cells) rfl (fun _=>rdPart rfl) rfl) rfl rfl rfl ?_|refine T_valC rfl (Val.loadA (vs:=c.cells) rfl (fun _=>rdPart rfl) rfl) rfl rfl rfl rfl rfl ?_|refine T_op (OpT.call rfl rfl rfl rfl rfl (fun w hw=>align19_spec c A l.length ca l w (hg.cls hw)) ?_))|(show T _ (.run _ _ (_::_) _ _::_) _ _ _;first|refine rv rfl rfl rfl (Val.loadA (vs:=c.cells) rfl (fun _=>rdPart rfl) rfl) rfl rfl rfl ?_|refine rg rfl rfl rfl (Val.loadA (vs:=c.cells) rfl (fun _=>rdPart rfl) rfl) rfl rfl rfl rfl rfl ?_)|(show ∀ _:Nat,T _ _ _ _ _;intro _))
 rintro v R ⟨x2,-,rfl,rfl⟩
 rw [hu.aln]
 refine T_le (H':=[dat [x2] [rowsD (alnW c l)],fz p1,fz pp,blk pc (case20L c (.slice A l.length ca)) 56]) (Hle.refl _) ?_
 refine T_open fun p2 hp8=>?_
 repeat' (first|refine d1 ?_|refine dd ?_|(show T _ (.ops _ (_::_)::_) _ _ _;first|refine T_call rfl rfl rfl rfl rfl (fun w hw=>sameCols19_spec x1 x2 (alnW c l) (alnW c l) w (hp9.own hw) (hp8.own hw)) ?_|refine T_callC rfl rfl rfl rfl rfl rfl rfl (fun hg w hw=>sameCols19_spec x1 x2 (alnW c l) (alnW c l) w (hp9.own hw) (hp8.own hw)) ?_)|(show T _ (.run _ _ (_::_) _ _::_) _ _ _;first|refine rc rfl rfl rfl rfl rfl rfl rfl (fun w hw=>sameCols19_spec x1 x2 (alnW c l) (alnW c l) w (hp9.own hw) (hp8.own hw)) ?_|refine rcG rfl rfl rfl rfl rfl rfl rfl rfl rfl (fun hg w hw=>sameCols19_spec x1 x2 (alnW c l) (alnW c l) w (hp9.own hw) (hp8.own hw)) ?_)|(show ∀ _:Nat,T _ _ _ _ _;intro _))
 refine T_if rfl (fun h=>by exfalso;simp at h) (fun _=>?_)
 repeat' (first|refine d1 ?_|refine dd ?_|(show T _ (.ops _ (_::_)::_) _ _ _;first|refine T_val rfl (Val.loadA (vs:=c.cells) rfl (fun _=>rdPart rfl) rfl) rfl rfl rfl ?_|refine T_valC rfl (Val.loadA (vs:=c.cells) rfl (fun _=>rdPart rfl) rfl) rfl rfl rfl rfl rfl ?_|refine T_op (OpT.call rfl rfl rfl rfl rfl (fun w hw=>tight20_spec c A l.length ca l Aq q.length cq q w (hf.cls hw) (rdSrc hq2 w hw) rfl (by omega)) ?_))|(show T _ (.run _ _ (_::_) _ _::_) _ _ _;first|refine rv rfl rfl rfl (Val.loadA (vs:=c.cells) rfl (fun _=>rdPart rfl) rfl) rfl rfl rfl ?_|refine rg rfl rfl rfl (Val.loadA (vs:=c.cells) rfl (fun _=>rdPart rfl) rfl) rfl rfl rfl rfl rfl ?_)|(show ∀ _:Nat,T _ _ _ _ _;intro _))
 rintro v R ⟨x3,-,rfl,rfl⟩
 have htq:(tgtV c l q).2≠0→(tgtV c l q).1=[]:=fun h=>by
  rw [hu.tgt] at h ⊢
  split at h
  ·rw [if_pos ‹_›]
  ·rw [if_neg ‹_›]
   split at h
   ·exact absurd rfl h
   ·rw [if_neg ‹_›]
 by_cases ht:(tgtV c l q).2≠0
 ·rw [htq ht]
  refine T_le (H':=[dat [x3] [rowsD []],fz p2,fz p1,fz pp,blk pc (case20L c (.slice A l.length ca)) 56]) (Hle.refl _) ?_
  refine T_open fun p3 hp3=>?_
  obtain⟨A3,c3,cs3,rfl,-⟩:=hp3.tab
  repeat' (first|refine d1 ?_|refine dd ?_|(show ∀ _:Nat,T _ _ _ _ _;intro _))
  refine T_if rfl (fun _=>?_) (fun h=>by exfalso;simp at h;exact ht h)
  repeat' (first|refine d1 ?_|refine dd ?_|(show T _ (.ops _ (_::_)::_) _ _ _;first|refine T_call rfl rfl rfl rfl rfl (fun w hw=>awake20_spec w (hst.cls hw)) ?_|refine T_callC rfl rfl rfl rfl rfl rfl rfl (fun hg w hw=>awake20_spec w (hst.cls hw)) ?_)|(show T _ (.run _ _ (_::_) _ _::_) _ _ _;first|refine rc rfl rfl rfl rfl rfl rfl rfl (fun w hw=>awake20_spec w (hst.cls hw)) ?_|refine rcG rfl rfl rfl rfl rfl rfl rfl rfl rfl (fun hg w hw=>awake20_spec w (hst.cls hw)) ?_)|(show ∀ _:Nat,T _ _ _ _ _;intro _)|(show T _ (.code .ret::_) _ _ _;refine T_retV [] rfl (Hle.none _) ⟨rfl,rfl⟩))
 have ht:(tgtV c l q).2=0:=by simpa using ht
 obtain⟨hv1,hv2⟩:=hu.tgtVer ht
 obtain⟨o,ho⟩:∃ o,o=(tgtV c l q).1:=⟨_,rfl⟩
 rw [ht, ← ho]
 rw [← ho] at hv1 hv2
 refine T_le (H':=[dat [x3] [rowsD o],fz p2,fz p1,fz pp,blk pc (case20L c (.slice A l.length ca)) 56]) (Hle.refl _) ?_
 refine T_open fun p3 hp3=>?_
 repeat' (first|refine d1 ?_|refine dd ?_|(show ∀ _:Nat,T _ _ _ _ _;intro _))
 refine T_if rfl (fun h=>by exfalso;simp at h) (fun _=>?_)
 repeat' (first|refine d1 ?_|refine dd ?_|(show T _ (.ops _ (_::_)::_) _ _ _;first|refine T_val rfl (Val.loadA (vs:=c.cells) rfl (fun _=>rdPart rfl) rfl) rfl rfl rfl ?_|refine T_valC rfl (Val.loadA (vs:=c.cells) rfl (fun _=>rdPart rfl) rfl) rfl rfl rfl rfl rfl ?_|refine T_call rfl rfl rfl rfl rfl (fun w hw=>verify20_spec c A l.length ca l x3 o Aq q.length cq q w (hf.cls hw) (hp3.own hw) (by omega) (rdSrc hq2 w hw) rfl (by omega)) ?_|refine T_callC rfl rfl rfl rfl rfl rfl rfl (fun hg w hw=>verify20_spec c A l.length ca l x3 o Aq q.length cq q w (hf.cls hw) (hp3.own hw) (by omega) (rdSrc hq2 w hw) rfl (by omega)) ?_|refine T_call rfl rfl rfl rfl rfl (fun w hw=>awake20_spec w (hst.cls hw)) ?_|refine T_callC rfl rfl rfl rfl rfl rfl rfl (fun hg w hw=>awake20_spec w (hst.cls hw)) ?_)|(show T _ (.run _ _ (_::_) _ _::_) _ _ _;first|refine rv rfl rfl rfl (Val.loadA (vs:=c.cells) rfl (fun _=>rdPart rfl) rfl) rfl rfl rfl ?_|refine rg rfl rfl rfl (Val.loadA (vs:=c.cells) rfl (fun _=>rdPart rfl) rfl) rfl rfl rfl rfl rfl ?_|refine rc rfl rfl rfl rfl rfl rfl rfl (fun w hw=>verify20_spec c A l.length ca l x3 o Aq q.length cq q w (hf.cls hw) (hp3.own hw) (by omega) (rdSrc hq2 w hw) rfl (by omega)) ?_|refine rcG rfl rfl rfl rfl rfl rfl rfl rfl rfl (fun hg w hw=>verify20_spec c A l.length ca l x3 o Aq q.length cq q w (hf.cls hw) (hp3.own hw) (by omega) (rdSrc hq2 w hw) rfl (by omega)) ?_|refine rc rfl rfl rfl rfl rfl rfl rfl (fun w hw=>awake20_spec w (hst.cls hw)) ?_|refine rcG rfl rfl rfl rfl rfl rfl rfl rfl rfl (fun hg w hw=>awake20_spec w (hst.cls hw)) ?_)|(show ∀ _:Nat,T _ _ _ _ _;intro _)|(show T _ (.code .ret::_) _ _ _;refine T_retV [] rfl (Hle.none _) ⟨congrArg Value.bool ?_,rfl⟩))
 simp [hv1]
theorem tight20_met (os:Os) (args:Array Value):laidMetH Tryz.prog Rows.alignproofTightRow.laid ((World.doorLaid Tryz.prog 400 os).forCall (fun _ _=>0) ⟨#[],args,[]⟩).memory :=
 io_met os args
theorem tight20_lifted (os:Os) (started:os.Started) (H:Type) (enc:TypeId × Value→H) :
  ReturnsInHanded {} Tryz.checked os 12 .any (fun w args=>(Rows.alignproofTightSpec.pre enc Tryz.prog Tryz.f12 [] false w args∧laidMetH Tryz.prog Rows.alignproofTightRow.laid w)∧sizedMet enc Tryz.prog Tryz.f12 (OpenSpec.ofChange Rows.alignproofTightSpec) false w args)
   (Rows.alignproofTightSpec.post enc Tryz.prog Tryz.f12 false true false false):=by
 refine returnsInHanded_of_change_and (C:=Tryz.checked) (X:=fun w _=>laidMetH Tryz.prog Rows.alignproofTightRow.laid w) (fun _ _ _ hh h=>h.of_heap hh) knob started (by as_aux_lemma=>kernel_rfl) Tryz.func12
  (ChangeSpec.witness_shaped (enc:=enc) (C:=Tryz.checked) (os:=os) (X:=fun w _=>laidMetH Tryz.prog Rows.alignproofTightRow.laid w) false (World.doorLaid Tryz.prog 400 os) #[(.agg #[.int .i64 0, .int .i64 0, .int .i64 0, .int .i64 0, .slice none 0 0]), .slice none 0 0] 8 rfl (World.shaped_of_RefB (by as_aux_lemma=>kernel_rfl) (by as_aux_lemma=>kernel_rfl)) (by as_aux_lemma=>kernel_rfl) (by as_aux_lemma=>kernel_rfl) (by as_aux_lemma=>kernel_rfl) (tight20_met os _)) ?_
 intro W base args ds gs before hval0 hW _ _ hL _
 have hval:∀ (j:Nat) t v,Tryz.f12.params[j]?=some t→args[j]?=some v→Value.okWide Tryz.prog W .any base t v:=hval0
 have hstd:=std_of (show laidMetH Tryz.prog laids W from hL)
 have hW':=hW
 obtain⟨p,q,hA0,hV,rfl,hfz,hnd⟩:=hW
 have hA:DataW.TrodAll enc Tryz.prog W 0 (fun _=>true) true Tryz.f12.params.toList args.toList ds p:=hA0
 obtain⟨v0,vs0,d0,ds0,p0,q0,e0,rfl,rfl,h0,hA⟩:=trodAll_cons hA
 obtain⟨v1,vs1,d1,ds1,p1,q1,rfl,rfl,rfl,h1,hA⟩:=trodAll_cons hA
 obtain⟨rfl,rfl,rfl⟩:=trodAll_nil hA
 have ea:args = #[v0,v1]:=Array.ext' e0
 subst ea
 obtain⟨c_x,z_x,m_x,rfl,hr_x⟩:=arg_case20 (hval 0 _ v0 rfl rfl) h0
 obtain⟨p,hr_p⟩:=arg_ints (hval 1 _ v1 rfl rfl) h1
 refine (tightL20_spec c_x z_x m_x v1 p W hstd hr_x hr_p).calls.mono ?_
 rintro e W' ⟨v,A,rfl,⟨rfl,_⟩,hb,_⟩
 exact⟨_,rfl,law_post hW' rfl rfl laidOk (by intro t ht;simp only [show Tryz.f12.params.toList=[56,40] from rfl,List.mem_cons,List.mem_nil_iff,or_false] at ht;rcases ht with rfl|rfl <;> exact⟨by as_aux_lemma=>kernel_rfl,of_decide_eq_true (by as_aux_lemma=>kernel_rfl)⟩) rfl Tryz.underlying4 hb⟩
theorem tight20_j0:Tryz.prog.inPlace 12=Rows.alignproofTightRow.inPlace:=by as_aux_lemma=>kernel_rfl
theorem tight20_j1:Tryz.prog.unfollowed 12=Rows.alignproofTightRow.unfollowed:=by as_aux_lemma=>kernel_rfl
theorem tight20_j2:Tryz.prog.recurses 12=Rows.alignproofTightRow.recurses:=by as_aux_lemma=>kernel_rfl
theorem tight20_j3:Tryz.prog.varsNamed 12=Rows.alignproofTightRow.named:=by as_aux_lemma=>kernel_rfl
theorem tight20_joined:joinedFacts Tryz.prog 12 Tryz.f12 Rows.alignproofTightSpec Rows.alignproofTightRow=true:=by
 unfold joinedFacts
 rw [tight20_j0,tight20_j1,tight20_j2,tight20_j3,io_enter,io_lifts,io_make]
 kernel_rfl
theorem tight20_holds:Rows.AlignproofTightSaid :=
 OpenClaim.holds_of_wide 12 Tryz.f12 rfl rfl rfl rfl rfl rfl rfl ⟨rfl,rfl,rfl,rfl,rfl⟩ rfl rfl rfl rfl rfl (by as_aux_lemma=>kernel_rfl) Tryz.func12 tight20_joined
  (of_decide_eq_true (by as_aux_lemma=>kernel_rfl)) (by unfold Func.isWrapper;first|(rw [if_pos (by decide +kernel)];kernel_rfl)|(rw [if_neg (by decide +kernel)];exact⟨rfl,rfl⟩))
  (fun os started H enc _=>tight20_lifted os started H enc)
theorem tight20_card:Rows.AlignproofTightCardSaid :=
 Claim7.holds_tied_plain_at .later [] [.data, .data, .data, .sentinel, .sentinel] true (true, "a99cdf59d6efa606f87a5bb4c7fcc05d64041f068a1803fa1d9ac2571df2b43a") true
  tight20_holds (fun _ h=>by cases h) (by as_aux_lemma=>kernel_rfl) (fun _ h=>by cases h) alignproofTight_row_tie rfl ⟨rfl,rfl⟩ io_main rfl
  (fun f fn hf hfn=>by
   obtain rfl : f = 12 := Option.some.inj ((show Tryz.prog.funcNamed "apograph/apographlaw20.AlignproofTight" = some 12 by as_aux_lemma => kernel_rfl).symm.trans hf) |>.symm
   obtain rfl:fn=Tryz.f12:=(Option.some.inj (Tryz.func12.symm.trans hfn)).symm
   exact⟨by as_aux_lemma=>kernel_rfl,fun j t ht=>by
    have ht':[56,40][j]?=some t:=by rw [Tryz.params12] at ht;simpa using ht
    have hm:=List.mem_of_getElem? ht'
    simp only [List.mem_cons,List.mem_nil_iff,or_false] at hm
    rcases hm with rfl|rfl <;> exact (show Tryz.prog.wantsStandIn _=false by as_aux_lemma=>kernel_rfl)⟩)
  (by as_aux_lemma=>kernel_rfl)
#print axioms tight20_card
end Go.Proofs.YtmenjpmikhajfaaGreatDoor
