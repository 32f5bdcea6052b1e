/- The law AlignproofPairs holds for whatever costs and sources: the tied card of its row. No condition beyond the row's own. -/
import Derived.Test.YtmenjpmikhajfaaGreatDoorJ5
import Derived.Test.YtmenjpmikhajfaaGreatDoorCards
import Derived.Test.YtmenjpmikhajfaaGreatDoorTie
set_option linter.unusedVariables false
set_option linter.unusedSimpArgs false
namespace Go.Proofs.YtmenjpmikhajfaaGreatDoor
open Go.RowKit Go.Shelf Go.ChangeShapes Go.WideShapes Go.Proofs
set_option maxRecDepth 100000
set_option maxHeartbeats 1000000

theorem pairsL20_spec (c:Costs) (x:Value) (m:List (List Tok)) (w:World) (hst:Std w) (hx:Rd (wr w) [x] [.s 1 (m.map toksD)]) :
  Spec Tryz.prog 9 [.agg (case20L c x).toArray] w (fun v R=>v = .bool true∧R=[]):=by
 obtain⟨A,ca,l,rfl,hnb,hs,hl,-⟩:=hx.toksL
 refine spec_of sg Tryz.func9 rfl rfl rfl ?_
 refine T_op (OpT.box (cs:=case20L c (.slice A l.length ca)) rfl rfl rfl rfl rfl rfl rfl (fun pc=>?_))
 have hT:∀ {w':World} {H:List HA},Cls w w' H→TsOk w' l:=fun hw=>⟨fun t ht=>src_below (hl.src t ht) hw.below,hl.len,hl.bd⟩
 cases hgr:great20B l with
 | true =>
  repeat' (first|refine d1 ?_|refine dd ?_|(show T _ (.ops _ (_::_)::_) _ _ _;first|refine T_call rfl rfl rfl rfl rfl (fun w hw=>great20_spec A l.length ca l w (rdSrc hs w hw) rfl hnb (hT hw)) ?_|refine T_callC rfl rfl rfl rfl rfl rfl rfl (fun hg w hw=>great20_spec A l.length ca l w (rdSrc hs w hw) rfl hnb (hT hw)) ?_)|(show T _ (.run _ _ (_::_) _ _::_) _ _ _;first|refine rc rfl rfl rfl rfl rfl rfl rfl (fun w hw=>great20_spec A l.length ca l w (rdSrc hs w hw) rfl hnb (hT hw)) ?_|refine rcG rfl rfl rfl rfl rfl rfl rfl rfl rfl (fun hg w hw=>great20_spec A l.length ca l w (rdSrc hs w hw) rfl hnb (hT hw)) ?_)|(show ∀ _:Nat,T _ _ _ _ _;intro _))
  rw [hgr]
  refine T_if rfl (fun _=>?_) (fun h=>by exfalso;simp at h)
  repeat' (first|refine d1 ?_|refine dd ?_|(show T _ (.ops _ (_::_)::_) _ _ _;first|refine T_call rfl rfl rfl rfl rfl (fun w hw=>awake20_spec w (hst.cls hw)) ?_|refine T_callC rfl rfl rfl rfl rfl rfl rfl (fun hg w hw=>awake20_spec w (hst.cls hw)) ?_)|(show T _ (.run _ _ (_::_) _ _::_) _ _ _;first|refine rc rfl rfl rfl rfl rfl rfl rfl (fun w hw=>awake20_spec w (hst.cls hw)) ?_|refine rcG rfl rfl rfl rfl rfl rfl rfl rfl rfl (fun hg w hw=>awake20_spec w (hst.cls hw)) ?_)|(show ∀ _:Nat,T _ _ _ _ _;intro _)|(show T _ (.code .ret::_) _ _ _;refine T_retV [] rfl (Hle.none _) ⟨rfl,rfl⟩))
 | false =>
  have hf:=fit_of hst hs rfl hl hgr
  repeat' (first|refine d1 ?_|refine dd ?_|(show T _ (.ops _ (_::_)::_) _ _ _;first|refine T_call rfl rfl rfl rfl rfl (fun w hw=>great20_spec A l.length ca l w (rdSrc hs w hw) rfl hnb (hT hw)) ?_|refine T_callC rfl rfl rfl rfl rfl rfl rfl (fun hg w hw=>great20_spec A l.length ca l w (rdSrc hs w hw) rfl hnb (hT hw)) ?_)|(show T _ (.run _ _ (_::_) _ _::_) _ _ _;first|refine rc rfl rfl rfl rfl rfl rfl rfl (fun w hw=>great20_spec A l.length ca l w (rdSrc hs w hw) rfl hnb (hT hw)) ?_|refine rcG rfl rfl rfl rfl rfl rfl rfl rfl rfl (fun hg w hw=>great20_spec A l.length ca l w (rdSrc hs w hw) rfl hnb (hT hw)) ?_)|(show ∀ _:Nat,T _ _ _ _ _;intro _))
  rw [hgr]
  refine T_if rfl (fun h=>by exfalso;simp at h) (fun _=>?_)
  repeat' (first|refine d1 ?_|refine dd ?_|(show T _ (.ops _ (_::_)::_) _ _ _;first|refine T_val rfl (Val.loadA (vs:=c.cells) rfl (fun _=>rdPart rfl) rfl) rfl rfl rfl ?_|refine T_valC rfl (Val.loadA (vs:=c.cells) rfl (fun _=>rdPart rfl) rfl) rfl rfl rfl rfl rfl ?_|refine T_op (OpT.call rfl rfl rfl rfl rfl (fun w hw=>pairs20_spec c A l.length ca l w (hf.cls hw)) ?_))|(show T _ (.run _ _ (_::_) _ _::_) _ _ _;first|refine rv rfl rfl rfl (Val.loadA (vs:=c.cells) rfl (fun _=>rdPart rfl) rfl) rfl rfl rfl ?_|refine rg rfl rfl rfl (Val.loadA (vs:=c.cells) rfl (fun _=>rdPart rfl) rfl) rfl rfl rfl rfl rfl ?_)|(show ∀ _:Nat,T _ _ _ _ _;intro _))
  rintro v R ⟨xp,-,rfl,rfl⟩
  by_cases hop:opE c l≠0
  ·have e:prsW c l=([],opE c l):=if_pos hop
   rw [e]
   refine T_le (H':=[dat [xp] [intsD []],blk pc (case20L c (.slice A l.length ca)) 56]) (Hle.refl _) ?_
   refine T_open fun pp hpp=>?_
   obtain⟨Ap,cp,rfl,-⟩:=hpp.row1
   repeat' (first|refine d1 ?_|refine dd ?_|(show ∀ _:Nat,T _ _ _ _ _;intro _))
   refine T_if rfl (fun _=>?_) (fun h=>by exfalso;simp [hop] at h)
   repeat' (first|refine d1 ?_|refine dd ?_|(show T _ (.ops _ (_::_)::_) _ _ _;first|refine T_call rfl rfl rfl rfl rfl (fun w hw=>awake20_spec w (hst.cls hw)) ?_|refine T_callC rfl rfl rfl rfl rfl rfl rfl (fun hg w hw=>awake20_spec w (hst.cls hw)) ?_)|(show T _ (.run _ _ (_::_) _ _::_) _ _ _;first|refine rc rfl rfl rfl rfl rfl rfl rfl (fun w hw=>awake20_spec w (hst.cls hw)) ?_|refine rcG rfl rfl rfl rfl rfl rfl rfl rfl rfl (fun hg w hw=>awake20_spec w (hst.cls hw)) ?_)|(show ∀ _:Nat,T _ _ _ _ _;intro _)|(show T _ (.code .ret::_) _ _ _;refine T_retV [] rfl (Hle.none _) ⟨rfl,rfl⟩))
  have hop:opE c l=0:=by simpa using hop
  have hu:=hf.use hop
  have hV3:=vol_of hgr hu
  have hVp:=volL_pos (lens l)
  have hg:=hf.grp (plE_ok (opE_ok hop).1).2.1
  have h2:=hu.two
  have hus:=hu.us
  have ebw:boundW c l=(ssum (dstT c l) l.length l.length,0):=if_neg (by simpa using hus)
  rw [hu.prs]
  obtain⟨P,hP⟩:∃ P,P=prsL c l:=⟨_,rfl⟩
  obtain⟨Q,hQ⟩:∃ Q,Q=potL (colZ c l) (lens l) (mvL l.length):=⟨_,rfl⟩
  have hPl:P.length=volL (lens l):=by rw [hP,prsL_len]
  have h0:P[0]?=some (ssum (dstT c l) l.length l.length):=by rw [← prsL_zero, ← hP];exact pg_some (by omega)
  have hchk:chkV20 c l P=0:=by rw [hu.chk,hP];exact hu.feaPrs
  rw [← hP, ← hQ] at h2
  have hpt:=hu.pot
  rw [← hQ] at hpt
  rw [← hP]
  refine T_le (H':=[dat [xp] [intsD P],blk pc (case20L c (.slice A l.length ca)) 56]) (Hle.refl _) ?_
  refine T_open fun pp hpp=>?_
  have hpp0:=hpp
  obtain⟨Ap,cp,rfl,hp1,hp2,hpA⟩:=hpp.row1
  obtain⟨bp,op,rfl,hpB⟩:=hpA (by omega)
  repeat' (first|refine d1 ?_|refine dd ?_|(show ∀ _:Nat,T _ _ _ _ _;intro _))
  refine T_if rfl (fun h=>by exfalso;simp at h) (fun _=>?_)
  repeat' (first|refine d1 ?_|refine dd ?_|(show T _ (.ops _ (_::_)::_) _ _ _;first|refine T_val rfl (Val.loadA (vs:=c.cells) rfl (fun _=>rdPart rfl) rfl) rfl rfl rfl ?_|refine T_valC rfl (Val.loadA (vs:=c.cells) rfl (fun _=>rdPart rfl) rfl) rfl rfl rfl rfl rfl ?_|refine T_op (OpT.call rfl rfl rfl rfl rfl (fun w hw=>potentials20_spec c A l.length ca l w (hf.cls hw)) ?_))|(show T _ (.run _ _ (_::_) _ _::_) _ _ _;first|refine rv rfl rfl rfl (Val.loadA (vs:=c.cells) rfl (fun _=>rdPart rfl) rfl) rfl rfl rfl ?_|refine rg rfl rfl rfl (Val.loadA (vs:=c.cells) rfl (fun _=>rdPart rfl) rfl) rfl rfl rfl rfl rfl ?_)|(show ∀ _:Nat,T _ _ _ _ _;intro _))
  rintro v R ⟨xq,-,rfl,rfl⟩
  rw [hpt]
  refine T_le (H':=[dat [xq] [intsD Q],fz pp,blk pc (case20L c (.slice A l.length ca)) 56]) (Hle.refl _) ?_
  refine T_open fun pq hqq=>?_
  repeat' (first|refine d1 ?_|refine dd ?_|(show T _ (.ops _ (_::_)::_) _ _ _;first|refine T_val rfl (Val.loadA (vs:=c.cells) rfl (fun _=>rdPart rfl) rfl) rfl rfl rfl ?_|refine T_valC rfl (Val.loadA (vs:=c.cells) rfl (fun _=>rdPart rfl) rfl) rfl rfl rfl rfl rfl ?_|refine T_call rfl rfl rfl rfl rfl (fun w hw=>bound19_spec c A l.length ca l w (hg.cls hw) (fun t ht=>by have:=hu.hq t ht;omega)) ?_|refine T_callC rfl rfl rfl rfl rfl rfl rfl (fun hg w hw=>bound19_spec c A l.length ca l w (hg.cls hw) (fun t ht=>by have:=hu.hq t ht;omega)) ?_)|(show T _ (.run _ _ (_::_) _ _::_) _ _ _;first|refine rv rfl rfl rfl (Val.loadA (vs:=c.cells) rfl (fun _=>rdPart rfl) rfl) rfl rfl rfl ?_|refine rg rfl rfl rfl (Val.loadA (vs:=c.cells) rfl (fun _=>rdPart rfl) rfl) rfl rfl rfl rfl rfl ?_|refine rc rfl rfl rfl rfl rfl rfl rfl (fun w hw=>bound19_spec c A l.length ca l w (hg.cls hw) (fun t ht=>by have:=hu.hq t ht;omega)) ?_|refine rcG rfl rfl rfl rfl rfl rfl rfl rfl rfl (fun hg w hw=>bound19_spec c A l.length ca l w (hg.cls hw) (fun t ht=>by have:=hu.hq t ht;omega)) ?_)|(show ∀ _:Nat,T _ _ _ _ _;intro _))
  rw [ebw]
  repeat' (first|refine d1 ?_|refine dd ?_|(show T _ (.ops _ (_::_)::_) _ _ _;first|refine T_val rfl (Val.load rfl (fun hg=>rdFz (p:=pp) (u := .int .i64 (ssum (dstT c l) l.length l.length)) (b:=bp) (hpB 0 _ h0))) rfl rfl rfl ?_|refine T_valC rfl (Val.load rfl (fun hg=>rdFz (p:=pp) (u := .int .i64 (ssum (dstT c l) l.length l.length)) (b:=bp) (hpB 0 _ h0))) rfl rfl rfl rfl rfl ?_|refine T_val rfl (Val.loadA (vs:=c.cells) rfl (fun _=>rdPart rfl) rfl) rfl rfl rfl ?_|refine T_valC rfl (Val.loadA (vs:=c.cells) rfl (fun _=>rdPart rfl) rfl) rfl rfl rfl rfl rfl ?_|refine T_call rfl rfl rfl rfl rfl (fun w hw=>checkP20_spec c A l.length ca l (some ⟨bp,op,none⟩) P.length cp P w (hf.cls hw) (hpp0.own hw).intsAt rfl (by omega)) ?_|refine T_callC rfl rfl rfl rfl rfl rfl rfl (fun hg w hw=>checkP20_spec c A l.length ca l (some ⟨bp,op,none⟩) P.length cp P w (hf.cls hw) (hpp0.own hw).intsAt rfl (by omega)) ?_|refine T_call rfl rfl rfl rfl rfl (fun w hw=>equalI_spec _ xq P Q w (hpp0.own hw) (hqq.own hw)) ?_|refine T_callC rfl rfl rfl rfl rfl rfl rfl (fun hg w hw=>equalI_spec _ xq P Q w (hpp0.own hw) (hqq.own hw)) ?_|refine T_call rfl rfl rfl rfl rfl (fun w hw=>awake20_spec w (hst.cls hw)) ?_|refine T_callC rfl rfl rfl rfl rfl rfl rfl (fun hg w hw=>awake20_spec w (hst.cls hw)) ?_)|(show T _ (.run _ _ (_::_) _ _::_) _ _ _;first|refine rv rfl rfl rfl (Val.load rfl (fun hg=>rdFz (p:=pp) (u := .int .i64 (ssum (dstT c l) l.length l.length)) (b:=bp) (hpB 0 _ h0))) rfl rfl rfl ?_|refine rg rfl rfl rfl (Val.load rfl (fun hg=>rdFz (p:=pp) (u := .int .i64 (ssum (dstT c l) l.length l.length)) (b:=bp) (hpB 0 _ h0))) rfl rfl rfl rfl rfl ?_|refine rv rfl rfl rfl (Val.loadA (vs:=c.cells) rfl (fun _=>rdPart rfl) rfl) rfl rfl rfl ?_|refine rg rfl rfl rfl (Val.loadA (vs:=c.cells) rfl (fun _=>rdPart rfl) rfl) rfl rfl rfl rfl rfl ?_|refine rc rfl rfl rfl rfl rfl rfl rfl (fun w hw=>checkP20_spec c A l.length ca l (some ⟨bp,op,none⟩) P.length cp P w (hf.cls hw) (hpp0.own hw).intsAt rfl (by omega)) ?_|refine rcG rfl rfl rfl rfl rfl rfl rfl rfl rfl (fun hg w hw=>checkP20_spec c A l.length ca l (some ⟨bp,op,none⟩) P.length cp P w (hf.cls hw) (hpp0.own hw).intsAt rfl (by omega)) ?_|refine rc rfl rfl rfl rfl rfl rfl rfl (fun w hw=>equalI_spec _ xq P Q w (hpp0.own hw) (hqq.own hw)) ?_|refine rcG rfl rfl rfl rfl rfl rfl rfl rfl rfl (fun hg w hw=>equalI_spec _ xq P Q w (hpp0.own hw) (hqq.own hw)) ?_|refine rc rfl rfl rfl rfl rfl rfl rfl (fun w hw=>awake20_spec w (hst.cls hw)) ?_|refine rcG rfl rfl rfl rfl rfl rfl rfl rfl rfl (fun hg w hw=>awake20_spec w (hst.cls hw)) ?_)|(show ∀ _:Nat,T _ _ _ _ _;intro _)|(show T _ (.code .ret::_) _ _ _;refine T_retV [] rfl (Hle.none _) ⟨congrArg Value.bool ?_,rfl⟩))
  have hPpos:0<P.length:=by omega
  by_cases h9:l.length=2
  ·have:=h2 h9
   simp [hchk,h9,hPpos, ← this]
  ·simp [hchk,hPpos]
   exact .inl (by omega)
theorem pairs20_met (os:Os) (args:Array Value):laidMetH Tryz.prog Rows.alignproofPairsRow.laid ((World.doorLaid Tryz.prog 400 os).forCall (fun _ _=>0) ⟨#[],args,[]⟩).memory :=
 io_met os args
theorem pairs20_lifted (os:Os) (started:os.Started) (H:Type) (enc:TypeId × Value→H) :
  ReturnsInHanded {} Tryz.checked os 9 .any (fun w args=>(Rows.alignproofPairsSpec.pre enc Tryz.prog Tryz.f9 [] false w args∧laidMetH Tryz.prog Rows.alignproofPairsRow.laid w)∧sizedMet enc Tryz.prog Tryz.f9 (OpenSpec.ofChange Rows.alignproofPairsSpec) false w args)
   (Rows.alignproofPairsSpec.post enc Tryz.prog Tryz.f9 false true false false):=by
 refine returnsInHanded_of_change_and (C:=Tryz.checked) (X:=fun w _=>laidMetH Tryz.prog Rows.alignproofPairsRow.laid w) (fun _ _ _ hh h=>h.of_heap hh) knob started (by as_aux_lemma=>kernel_rfl) Tryz.func9
  (ChangeSpec.witness_shaped (enc:=enc) (C:=Tryz.checked) (os:=os) (X:=fun w _=>laidMetH Tryz.prog Rows.alignproofPairsRow.laid w) false (World.doorLaid Tryz.prog 400 os) #[(.agg #[.int .i64 0, .int .i64 0, .int .i64 0, .int .i64 0, .slice none 0 0])] 8 rfl (World.shaped_of_RefB (by as_aux_lemma=>kernel_rfl) (by as_aux_lemma=>kernel_rfl)) (by as_aux_lemma=>kernel_rfl) (by as_aux_lemma=>kernel_rfl) (by as_aux_lemma=>kernel_rfl) (pairs20_met os _)) ?_
 intro W base args ds gs before hval0 hW _ _ hL _
 have hval:∀ (j:Nat) t v,Tryz.f9.params[j]?=some t→args[j]?=some v→Value.okWide Tryz.prog W .any base t v:=hval0
 have hstd:=std_of (show laidMetH Tryz.prog laids W from hL)
 have hW':=hW
 obtain⟨p,q,hA0,hV,rfl,hfz,hnd⟩:=hW
 have hA:DataW.TrodAll enc Tryz.prog W 0 (fun _=>true) true Tryz.f9.params.toList args.toList ds p:=hA0
 obtain⟨v0,vs0,d0,ds0,p0,q0,e0,rfl,rfl,h0,hA⟩:=trodAll_cons hA
 obtain⟨rfl,rfl,rfl⟩:=trodAll_nil hA
 have ea:args = #[v0]:=Array.ext' e0
 subst ea
 obtain⟨c_x,z_x,m_x,rfl,hr_x⟩:=arg_case20 (hval 0 _ v0 rfl rfl) h0
 refine (pairsL20_spec c_x z_x m_x W hstd hr_x).calls.mono ?_
 rintro e W' ⟨v,A,rfl,⟨rfl,_⟩,hb,_⟩
 exact⟨_,rfl,law_post hW' rfl rfl laidOk (by intro t ht;simp only [show Tryz.f9.params.toList=[56] from rfl,List.mem_cons,List.mem_nil_iff,or_false] at ht;rcases ht with rfl <;> exact⟨by as_aux_lemma=>kernel_rfl,of_decide_eq_true (by as_aux_lemma=>kernel_rfl)⟩) rfl Tryz.underlying4 hb⟩
theorem pairs20_j0:Tryz.prog.inPlace 9=Rows.alignproofPairsRow.inPlace:=by as_aux_lemma=>kernel_rfl
theorem pairs20_j1:Tryz.prog.unfollowed 9=Rows.alignproofPairsRow.unfollowed:=by as_aux_lemma=>kernel_rfl
theorem pairs20_j2:Tryz.prog.recurses 9=Rows.alignproofPairsRow.recurses:=by as_aux_lemma=>kernel_rfl
theorem pairs20_j3:Tryz.prog.varsNamed 9=Rows.alignproofPairsRow.named:=by as_aux_lemma=>kernel_rfl
theorem pairs20_joined:joinedFacts Tryz.prog 9 Tryz.f9 Rows.alignproofPairsSpec Rows.alignproofPairsRow=true:=by
 unfold joinedFacts
 rw [pairs20_j0,pairs20_j1,pairs20_j2,pairs20_j3,io_enter,io_lifts,io_make]
 kernel_rfl
theorem pairs20_holds:Rows.AlignproofPairsSaid :=
 OpenClaim.holds_of_wide 9 Tryz.f9 rfl rfl rfl rfl rfl rfl rfl ⟨rfl,rfl,rfl,rfl,rfl⟩ rfl rfl rfl rfl rfl (by as_aux_lemma=>kernel_rfl) Tryz.func9 pairs20_joined
  (of_decide_eq_true (by as_aux_lemma=>kernel_rfl)) (by unfold Func.isWrapper;first|(rw [if_pos (by decide +kernel)];kernel_rfl)|(rw [if_neg (by decide +kernel)];exact⟨rfl,rfl⟩))
  (fun os started H enc _=>pairs20_lifted os started H enc)
theorem pairs20_card:Rows.AlignproofPairsCardSaid :=
 Claim7.holds_tied_plain_at .later [] [.data, .data, .data, .sentinel, .sentinel] true (true, "a99cdf59d6efa606f87a5bb4c7fcc05d64041f068a1803fa1d9ac2571df2b43a") true
  pairs20_holds (fun _ h=>by cases h) (by as_aux_lemma=>kernel_rfl) (fun _ h=>by cases h) alignproofPairs_row_tie rfl ⟨rfl,rfl⟩ io_main rfl
  (fun f fn hf hfn=>by
   obtain rfl : f = 9 := Option.some.inj ((show Tryz.prog.funcNamed "apograph/apographlaw20.AlignproofPairs" = some 9 by as_aux_lemma => kernel_rfl).symm.trans hf) |>.symm
   obtain rfl:fn=Tryz.f9:=(Option.some.inj (Tryz.func9.symm.trans hfn)).symm
   exact⟨by as_aux_lemma=>kernel_rfl,fun j t ht=>by
    have ht':[56][j]?=some t:=by rw [Tryz.params9] at ht;simpa using ht
    have hm:=List.mem_of_getElem? ht'
    simp only [List.mem_cons,List.mem_nil_iff,or_false] at hm
    rcases hm with rfl <;> exact (show Tryz.prog.wantsStandIn _=false by as_aux_lemma=>kernel_rfl)⟩)
  (by as_aux_lemma=>kernel_rfl)
#print axioms pairs20_card
end Go.Proofs.YtmenjpmikhajfaaGreatDoor
