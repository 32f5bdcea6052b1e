/- The law AlignproofBounds holds for whatever costs, sources, columns and potentials: the tied card of its row. No condition beyond the row's own. -/
import Derived.Test.YtmenjpmikhajfaaGreatDoorJ5
import Derived.Test.YtmenjpmikhajfaaGreatDoorCards
import Derived.Test.YtmenjpmikhajfaaGreatDoorTie
set_option linter.unusedVariables false
set_option linter.unusedSimpArgs false
namespace Go.Proofs.YtmenjpmikhajfaaGreatDoor
open Go.RowKit Go.Shelf Go.ChangeShapes Go.WideShapes Go.Proofs
set_option maxRecDepth 100000
set_option maxHeartbeats 1000000

theorem boundsL20_spec (c:Costs) (x:Value) (m:List (List Tok)) (y z:Value) (o:List (List Int)) (q:List Int) (w:World) (hst:Std w) (hx:Rd (wr w) [x] [.s 1 (m.map toksD)]) (hy:Rd (wr w) [y] [rowsD o]) (hz:Rd (wr w) [z] [intsD q]) :
  Spec Tryz.prog 10 [.agg (case20L c x).toArray,y,z] w (fun v R=>v = .bool true∧R=[]):=by
 obtain⟨A,ca,l,rfl,hnb,hs,hl,-⟩:=hx.toksL
 obtain⟨Aq,cq,rfl,hq1,hq2⟩:=hz.ints
 refine spec_of sg Tryz.func10 rfl rfl rfl ?_
 refine T_op (OpT.box (cs:=case20L c (.slice A l.length ca)) rfl rfl rfl rfl rfl rfl rfl (fun pc=>?_))
 have hT:∀ {w':World} {H:List HA},Cls w w' H→TsOk w' l:=fun hw=>⟨fun t ht=>src_below (hl.src t ht) hw.below,hl.len,hl.bd⟩
 repeat' (first|refine d1 ?_|refine dd ?_|(show T _ (.ops _ (_::_)::_) _ _ _;first|refine T_call rfl rfl rfl rfl rfl (fun w hw=>great20_spec A l.length ca l w (rdSrc hs w hw) rfl hnb (hT hw)) ?_|refine T_callC rfl rfl rfl rfl rfl rfl rfl (fun hg w hw=>great20_spec A l.length ca l w (rdSrc hs w hw) rfl hnb (hT hw)) ?_|refine T_call rfl rfl rfl rfl rfl (fun w hw=>greatC19_spec y o 30 w (hy.old hw)) ?_|refine T_callC rfl rfl rfl rfl rfl rfl rfl (fun hg w hw=>greatC19_spec y o 30 w (hy.old hw)) ?_)|(show T _ (.run _ _ (_::_) _ _::_) _ _ _;first|refine rc rfl rfl rfl rfl rfl rfl rfl (fun w hw=>great20_spec A l.length ca l w (rdSrc hs w hw) rfl hnb (hT hw)) ?_|refine rcG rfl rfl rfl rfl rfl rfl rfl rfl rfl (fun hg w hw=>great20_spec A l.length ca l w (rdSrc hs w hw) rfl hnb (hT hw)) ?_|refine rc rfl rfl rfl rfl rfl rfl rfl (fun w hw=>greatC19_spec y o 30 w (hy.old hw)) ?_|refine rcG rfl rfl rfl rfl rfl rfl rfl rfl rfl (fun hg w hw=>greatC19_spec y o 30 w (hy.old hw)) ?_)|(show ∀ _:Nat,T _ _ _ _ _;intro _))
 refine T_if rfl (fun _=>?_) (fun h=>?_)
 ·repeat' (first|refine d1 ?_|refine dd ?_|(show T _ (.ops _ (_::_)::_) _ _ _;first|refine T_call rfl rfl rfl rfl rfl (fun w hw=>awake20_spec w (hst.cls hw)) ?_|refine T_callC rfl rfl rfl rfl rfl rfl rfl (fun hg w hw=>awake20_spec w (hst.cls hw)) ?_)|(show T _ (.run _ _ (_::_) _ _::_) _ _ _;first|refine rc rfl rfl rfl rfl rfl rfl rfl (fun w hw=>awake20_spec w (hst.cls hw)) ?_|refine rcG rfl rfl rfl rfl rfl rfl rfl rfl rfl (fun hg w hw=>awake20_spec w (hst.cls hw)) ?_)|(show ∀ _:Nat,T _ _ _ _ _;intro _)|(show T _ (.code .ret::_) _ _ _;refine T_retV [] rfl (Hle.none _) ⟨rfl,rfl⟩))
 have hh:great20B l=false∧greatC19 o 30=false∧q.length≤310:=by
  simp only [Bool.or_eq_false_iff,decide_eq_false_iff_not] at h
  exact⟨h.1.1,h.1.2,by omega⟩
 clear h
 obtain⟨hgr,hgo,hq310⟩:=hh
 obtain⟨-,ho30⟩:=greatC19_no hgo
 have hf:=fit_of hst hs rfl hl hgr
 repeat' (first|refine d1 ?_|refine dd ?_|(show T _ (.ops _ (_::_)::_) _ _ _;first|refine T_val rfl (Val.loadA (vs:=c.cells) rfl (fun _=>rdPart rfl) rfl) rfl rfl rfl ?_|refine T_valC rfl (Val.loadA (vs:=c.cells) rfl (fun _=>rdPart rfl) rfl) rfl rfl rfl rfl rfl ?_|refine T_call rfl rfl rfl rfl rfl (fun w hw=>slack20_spec c A l.length ca l y o Aq q.length cq q w (hf.cls hw) (hy.old hw) (by omega) (rdSrc hq2 w hw) rfl (by omega)) ?_|refine T_callC rfl rfl rfl rfl rfl rfl rfl (fun hg w hw=>slack20_spec c A l.length ca l y o Aq q.length cq q w (hf.cls hw) (hy.old hw) (by omega) (rdSrc hq2 w hw) rfl (by omega)) ?_|refine T_call rfl rfl rfl rfl rfl (fun w hw=>verify20_spec c A l.length ca l y o Aq q.length cq q w (hf.cls hw) (hy.old hw) (by omega) (rdSrc hq2 w hw) rfl (by omega)) ?_|refine T_callC rfl rfl rfl rfl rfl rfl rfl (fun hg w hw=>verify20_spec c A l.length ca l y o Aq q.length cq q w (hf.cls hw) (hy.old hw) (by omega) (rdSrc hq2 w hw) rfl (by omega)) ?_)|(show T _ (.run _ _ (_::_) _ _::_) _ _ _;first|refine rv rfl rfl rfl (Val.loadA (vs:=c.cells) rfl (fun _=>rdPart rfl) rfl) rfl rfl rfl ?_|refine rg rfl rfl rfl (Val.loadA (vs:=c.cells) rfl (fun _=>rdPart rfl) rfl) rfl rfl rfl rfl rfl ?_|refine rc rfl rfl rfl rfl rfl rfl rfl (fun w hw=>slack20_spec c A l.length ca l y o Aq q.length cq q w (hf.cls hw) (hy.old hw) (by omega) (rdSrc hq2 w hw) rfl (by omega)) ?_|refine rcG rfl rfl rfl rfl rfl rfl rfl rfl rfl (fun hg w hw=>slack20_spec c A l.length ca l y o Aq q.length cq q w (hf.cls hw) (hy.old hw) (by omega) (rdSrc hq2 w hw) rfl (by omega)) ?_|refine rc rfl rfl rfl rfl rfl rfl rfl (fun w hw=>verify20_spec c A l.length ca l y o Aq q.length cq q w (hf.cls hw) (hy.old hw) (by omega) (rdSrc hq2 w hw) rfl (by omega)) ?_|refine rcG rfl rfl rfl rfl rfl rfl rfl rfl rfl (fun hg w hw=>verify20_spec c A l.length ca l y o Aq q.length cq q w (hf.cls hw) (hy.old hw) (by omega) (rdSrc hq2 w hw) rfl (by omega)) ?_)|(show ∀ _:Nat,T _ _ _ _ _;intro _))
 by_cases he:(slkV c l o q).2≠0
 ·obtain⟨e1,e2⟩:=slk_err he
  refine T_if rfl (fun _=>?_) (fun h=>by exfalso;simp at h;exact he h)
  rw [e1,e2]
  repeat' (first|refine d1 ?_|refine dd ?_|(show T _ (.ops _ (_::_)::_) _ _ _;first|refine T_call rfl rfl rfl rfl rfl (fun w hw=>awake20_spec w (hst.cls hw)) ?_|refine T_callC rfl rfl rfl rfl rfl rfl rfl (fun hg w hw=>awake20_spec w (hst.cls hw)) ?_)|(show T _ (.run _ _ (_::_) _ _::_) _ _ _;first|refine rc rfl rfl rfl rfl rfl rfl rfl (fun w hw=>awake20_spec w (hst.cls hw)) ?_|refine rcG rfl rfl rfl rfl rfl rfl rfl rfl rfl (fun hg w hw=>awake20_spec w (hst.cls hw)) ?_)|(show ∀ _:Nat,T _ _ _ _ _;intro _)|(show T _ (.code .ret::_) _ _ _;refine T_retV [] rfl (Hle.none _) ⟨congrArg Value.bool ?_,rfl⟩))
  simp
 have he:(slkV c l o q).2=0:=by simpa using he
 obtain⟨hop,hck,hfe,e1,e2⟩:=slk_good he
 have hu:=hf.use hop
 have hVp:=volL_pos (lens l)
 have hg:=hf.grp (plE_ok (opE_ok hop).1).2.1
 have hok:=chkC_cols hck
 have hnn:=hu.slkNn hok hfe
 have hql:=(feaE_ok.1 hfe).1
 have hpz:=(feaE_ok.1 hfe).2.2.1 (pg q 0) (List.mem_of_getElem? (pg_some (p:=q) (q:=0) (by omega)))
 have hus:=hu.us
 have ecw:costW c l o=(totZ c l o,0):=by unfold costW;rw [if_neg (by simpa using hus),if_pos (okC_true hok)]
 have htz:=totZ_bd hu.hc (l:=l) (by have:=hu.h4;omega) o
 refine T_if rfl (fun h=>by exfalso;simp at h;exact h he) (fun _=>?_)
 obtain⟨bq,oq,rfl⟩:=hq2.base (by omega)
 have hq0:RdC w bq (oq+(0:Int).toNat * 1) [.int .i64 (pg q 0)]:=src_int hq2 (k:=0) (by omega) (pg_some (by omega))
 rw [e1,e2]
 dsimp only
 generalize totZ c l o=Z at *
 generalize pg q 0=B at *
 repeat' (first|refine d1 ?_|refine dd ?_|(show T _ (.ops _ (_::_)::_) _ _ _;first|refine T_val rfl (Val.loadA (vs:=c.cells) rfl (fun _=>rdPart rfl) rfl) rfl rfl rfl ?_|refine T_valC rfl (Val.loadA (vs:=c.cells) rfl (fun _=>rdPart rfl) rfl) rfl rfl rfl rfl rfl ?_|refine T_call rfl rfl rfl rfl rfl (fun w hw=>costSum19_spec c A l.length ca l y o w (hg.cls hw) (hy.old hw) (by omega)) ?_|refine T_callC rfl rfl rfl rfl rfl rfl rfl (fun hg w hw=>costSum19_spec c A l.length ca l y o w (hg.cls hw) (hy.old hw) (by omega)) ?_)|(show T _ (.run _ _ (_::_) _ _::_) _ _ _;first|refine rv rfl rfl rfl (Val.loadA (vs:=c.cells) rfl (fun _=>rdPart rfl) rfl) rfl rfl rfl ?_|refine rg rfl rfl rfl (Val.loadA (vs:=c.cells) rfl (fun _=>rdPart rfl) rfl) rfl rfl rfl rfl rfl ?_|refine rc rfl rfl rfl rfl rfl rfl rfl (fun w hw=>costSum19_spec c A l.length ca l y o w (hg.cls hw) (hy.old hw) (by omega)) ?_|refine rcG rfl rfl rfl rfl rfl rfl rfl rfl rfl (fun hg w hw=>costSum19_spec c A l.length ca l y o w (hg.cls hw) (hy.old hw) (by omega)) ?_)|(show ∀ _:Nat,T _ _ _ _ _;intro _))
 rw [ecw]
 repeat' (first|refine d1 ?_|refine dd ?_|(show T _ (.ops _ (_::_)::_) _ _ _;first|refine T_val rfl (Val.eqB rfl) rfl rfl rfl ?_|refine T_valC rfl (Val.eqB rfl) rfl rfl rfl rfl rfl ?_|refine T_val rfl (Val.load rfl (fun hg=>rdOld hq0)) rfl rfl rfl ?_|refine T_valC rfl (Val.load rfl (fun hg=>rdOld hq0)) rfl rfl rfl rfl rfl ?_|refine T_call rfl rfl rfl rfl rfl (fun w hw=>awake20_spec w (hst.cls hw)) ?_|refine T_callC rfl rfl rfl rfl rfl rfl rfl (fun hg w hw=>awake20_spec w (hst.cls hw)) ?_)|(show T _ (.run _ _ (_::_) _ _::_) _ _ _;first|refine rv rfl rfl rfl (Val.eqB rfl) rfl rfl rfl ?_|refine rg rfl rfl rfl (Val.eqB rfl) rfl rfl rfl rfl rfl ?_|refine rv rfl rfl rfl (Val.load rfl (fun hg=>rdOld hq0)) rfl rfl rfl ?_|refine rg rfl rfl rfl (Val.load rfl (fun hg=>rdOld hq0)) rfl rfl rfl rfl rfl ?_|refine rc rfl rfl rfl rfl rfl rfl rfl (fun w hw=>awake20_spec w (hst.cls hw)) ?_|refine rcG rfl rfl rfl rfl rfl rfl rfl rfl rfl (fun hg w hw=>awake20_spec w (hst.cls hw)) ?_)|(show ∀ _:Nat,T _ _ _ _ _;intro _)|(show T _ (.code .ret::_) _ _ _;refine T_retV [] rfl (Hle.none _) ⟨congrArg Value.bool ?_,rfl⟩))
 have hqp:0<q.length:=by omega
 have hd:decide (0≤Z - B)=true:=decide_eq_true (by omega)
 by_cases h9:Z - B≠0
 ·rw [if_pos h9]
  have hz:decide (Z - B=0)=false:=decide_eq_false h9
  simp [hqp,hz,hnn]
 ·rw [if_neg h9]
  have hz:Z - B=0:=by simpa using h9
  simp [hqp,hz]
theorem bounds20_met (os:Os) (args:Array Value):laidMetH Tryz.prog Rows.alignproofBoundsRow.laid ((World.doorLaid Tryz.prog 400 os).forCall (fun _ _=>0) ⟨#[],args,[]⟩).memory :=
 io_met os args
theorem bounds20_lifted (os:Os) (started:os.Started) (H:Type) (enc:TypeId × Value→H) :
  ReturnsInHanded {} Tryz.checked os 10 .any (fun w args=>(Rows.alignproofBoundsSpec.pre enc Tryz.prog Tryz.f10 [] false w args∧laidMetH Tryz.prog Rows.alignproofBoundsRow.laid w)∧sizedMet enc Tryz.prog Tryz.f10 (OpenSpec.ofChange Rows.alignproofBoundsSpec) false w args)
   (Rows.alignproofBoundsSpec.post enc Tryz.prog Tryz.f10 false true false false):=by
 refine returnsInHanded_of_change_and (C:=Tryz.checked) (X:=fun w _=>laidMetH Tryz.prog Rows.alignproofBoundsRow.laid w) (fun _ _ _ hh h=>h.of_heap hh) knob started (by as_aux_lemma=>kernel_rfl) Tryz.func10
  (ChangeSpec.witness_shaped (enc:=enc) (C:=Tryz.checked) (os:=os) (X:=fun w _=>laidMetH Tryz.prog Rows.alignproofBoundsRow.laid w) false (World.doorLaid Tryz.prog 400 os) #[(.agg #[.int .i64 0, .int .i64 0, .int .i64 0, .int .i64 0, .slice none 0 0]), .slice none 0 0, .slice none 0 0] 8 rfl (World.shaped_of_RefB (by as_aux_lemma=>kernel_rfl) (by as_aux_lemma=>kernel_rfl)) (by as_aux_lemma=>kernel_rfl) (by as_aux_lemma=>kernel_rfl) (by as_aux_lemma=>kernel_rfl) (bounds20_met os _)) ?_
 intro W base args ds gs before hval0 hW _ _ hL _
 have hval:∀ (j:Nat) t v,Tryz.f10.params[j]?=some t→args[j]?=some v→Value.okWide Tryz.prog W .any base t v:=hval0
 have hstd:=std_of (show laidMetH Tryz.prog laids W from hL)
 have hW':=hW
 obtain⟨p,q,hA0,hV,rfl,hfz,hnd⟩:=hW
 have hA:DataW.TrodAll enc Tryz.prog W 0 (fun _=>true) true Tryz.f10.params.toList args.toList ds p:=hA0
 obtain⟨v0,vs0,d0,ds0,p0,q0,e0,rfl,rfl,h0,hA⟩:=trodAll_cons hA
 obtain⟨v1,vs1,d1,ds1,p1,q1,rfl,rfl,rfl,h1,hA⟩:=trodAll_cons hA
 obtain⟨v2,vs2,d2,ds2,p2,q2,rfl,rfl,rfl,h2,hA⟩:=trodAll_cons hA
 obtain⟨rfl,rfl,rfl⟩:=trodAll_nil hA
 have ea:args = #[v0,v1,v2]:=Array.ext' e0
 subst ea
 obtain⟨c_x,z_x,m_x,rfl,hr_x⟩:=arg_case20 (hval 0 _ v0 rfl rfl) h0
 obtain⟨cols,hr_cols⟩:=arg_rows (hval 1 _ v1 rfl rfl) h1
 obtain⟨p,hr_p⟩:=arg_ints (hval 2 _ v2 rfl rfl) h2
 refine (boundsL20_spec c_x z_x m_x v1 v2 cols p W hstd hr_x hr_cols hr_p).calls.mono ?_
 rintro e W' ⟨v,A,rfl,⟨rfl,_⟩,hb,_⟩
 exact⟨_,rfl,law_post hW' rfl rfl laidOk (by intro t ht;simp only [show Tryz.f10.params.toList=[56,25,40] from rfl,List.mem_cons,List.mem_nil_iff,or_false] at ht;rcases ht with rfl|rfl|rfl <;> exact⟨by as_aux_lemma=>kernel_rfl,of_decide_eq_true (by as_aux_lemma=>kernel_rfl)⟩) rfl Tryz.underlying4 hb⟩
theorem bounds20_j0:Tryz.prog.inPlace 10=Rows.alignproofBoundsRow.inPlace:=by as_aux_lemma=>kernel_rfl
theorem bounds20_j1:Tryz.prog.unfollowed 10=Rows.alignproofBoundsRow.unfollowed:=by as_aux_lemma=>kernel_rfl
theorem bounds20_j2:Tryz.prog.recurses 10=Rows.alignproofBoundsRow.recurses:=by as_aux_lemma=>kernel_rfl
theorem bounds20_j3:Tryz.prog.varsNamed 10=Rows.alignproofBoundsRow.named:=by as_aux_lemma=>kernel_rfl
theorem bounds20_joined:joinedFacts Tryz.prog 10 Tryz.f10 Rows.alignproofBoundsSpec Rows.alignproofBoundsRow=true:=by
 unfold joinedFacts
 rw [bounds20_j0,bounds20_j1,bounds20_j2,bounds20_j3,io_enter,io_lifts,io_make]
 kernel_rfl
theorem bounds20_holds:Rows.AlignproofBoundsSaid :=
 OpenClaim.holds_of_wide 10 Tryz.f10 rfl rfl rfl rfl rfl rfl rfl ⟨rfl,rfl,rfl,rfl,rfl⟩ rfl rfl rfl rfl rfl (by as_aux_lemma=>kernel_rfl) Tryz.func10 bounds20_joined
  (of_decide_eq_true (by as_aux_lemma=>kernel_rfl)) (by unfold Func.isWrapper;first|(rw [if_pos (by decide +kernel)];kernel_rfl)|(rw [if_neg (by decide +kernel)];exact⟨rfl,rfl⟩))
  (fun os started H enc _=>bounds20_lifted os started H enc)
theorem bounds20_card:Rows.AlignproofBoundsCardSaid :=
 Claim7.holds_tied_plain_at .later [] [.data, .data, .data, .sentinel, .sentinel] true (true, "a99cdf59d6efa606f87a5bb4c7fcc05d64041f068a1803fa1d9ac2571df2b43a") true
  bounds20_holds (fun _ h=>by cases h) (by as_aux_lemma=>kernel_rfl) (fun _ h=>by cases h) alignproofBounds_row_tie rfl ⟨rfl,rfl⟩ io_main rfl
  (fun f fn hf hfn=>by
   obtain rfl : f = 10 := Option.some.inj ((show Tryz.prog.funcNamed "apograph/apographlaw20.AlignproofBounds" = some 10 by as_aux_lemma => kernel_rfl).symm.trans hf) |>.symm
   obtain rfl:fn=Tryz.f10:=(Option.some.inj (Tryz.func10.symm.trans hfn)).symm
   exact⟨by as_aux_lemma=>kernel_rfl,fun j t ht=>by
    have ht':[56,25,40][j]?=some t:=by rw [Tryz.params10] at ht;simpa using ht
    have hm:=List.mem_of_getElem? ht'
    simp only [List.mem_cons,List.mem_nil_iff,or_false] at hm
    rcases hm with rfl|rfl|rfl <;> exact (show Tryz.prog.wantsStandIn _=false by as_aux_lemma=>kernel_rfl)⟩)
  (by as_aux_lemma=>kernel_rfl)
#print axioms bounds20_card
end Go.Proofs.YtmenjpmikhajfaaGreatDoor
