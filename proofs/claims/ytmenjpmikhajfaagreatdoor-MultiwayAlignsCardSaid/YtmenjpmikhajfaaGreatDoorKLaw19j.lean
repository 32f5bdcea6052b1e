/- The law MultiwayAligns holds for whatever costs and sources: the tied card of its row. No condition beyond the row's own. -/
import Derived.Test.YtmenjpmikhajfaaGreatDoorJ5
import Derived.Test.YtmenjpmikhajfaaGreatDoorCards
import Derived.Test.YtmenjpmikhajfaaGreatDoorTie
set_option linter.unusedVariables false
set_option linter.unusedSimpArgs false
namespace Go.Proofs.YtmenjpmikhajfaaGreatDoor
open Go.RowKit Go.Shelf Go.ChangeShapes Go.WideShapes Go.Proofs
set_option maxRecDepth 100000
set_option maxHeartbeats 1000000

theorem alignRBig_spec (c:Costs) (A:Option Addr) (n ca:Nat) (l:List TS) (w:World) (hs:Src w 1 A n (l.map TS.val)) (hn:l.length=n) (hb:n≤1000) (h0:n≠0) (hbig:32<n∨∃ t∈l,1024<t.n) :
  Spec Tryz.prog 37 [c.val, .slice A n ca] w (fun v R=>∃ x:Value,True∧v = .tuple #[x, .int .i64 0, .int .i64 4]∧R=[dat [x] [rowsD []]]):=by
 refine spec_of sg Tryz.func37 rfl rfl rfl ?_
 refine T_op (OpT.box (cs:=c.cells) rfl rfl rfl rfl rfl rfl rfl (fun pc=>?_))
 repeat' (first|refine d1 ?_|refine dd ?_|(show T _ (.ops _ (_::_)::_) _ _ _;first|refine T_call rfl rfl rfl rfl rfl (fun w hw=>usableRBig_spec c A n ca l w (rdSrc hs w hw) hn hb h0 hbig) ?_|refine T_callC rfl rfl rfl rfl rfl rfl rfl (fun hg w hw=>usableRBig_spec c A n ca l w (rdSrc hs w hw) hn hb h0 hbig) ?_)|(show T _ (.run _ _ (_::_) _ _::_) _ _ _;first|refine rc rfl rfl rfl rfl rfl rfl rfl (fun w hw=>usableRBig_spec c A n ca l w (rdSrc hs w hw) hn hb h0 hbig) ?_|refine rcG rfl rfl rfl rfl rfl rfl rfl rfl rfl (fun hg w hw=>usableRBig_spec c A n ca l w (rdSrc hs w hw) hn hb h0 hbig) ?_)|(show ∀ _:Nat,T _ _ _ _ _;intro _))
 refine T_if rfl (fun _=>?_) (fun h=>by exfalso;simp at h)
 repeat' (first|refine d1 ?_|refine dd ?_|(show ∀ _:Nat,T _ _ _ _ _;intro _)|(show T _ (.code .ret::_) _ _ _;refine T_retV _ rfl (nilC _ |>.trans (Hle.nth 0 rfl)) ⟨_,trivial,rfl,rfl⟩))
theorem alignsM_spec (c:Costs) (x:Value) (m:List (List Tok)) (w:World) (hst:Std w) (hx:Rd (wr w) [x] [.s 1 (m.map toksD)]) :
  Spec Tryz.prog 5 [c.val,x] w (fun v R=>v = .bool true∧R=[]):=by
 obtain⟨A,ca,l,rfl,hnb,hs,hl,-⟩:=hx.toksL
 refine spec_of sg Tryz.func5 rfl rfl rfl ?_
 refine T_op (OpT.box (cs:=c.cells) rfl rfl rfl rfl rfl rfl rfl (fun pc=>?_))
 have hT:∀ {w':World} {H:List HA},Cls w w' H→TsOk w' l:=fun hw=>⟨fun t ht=>src_below (hl.src t ht) hw.below,hl.len,hl.bd⟩
 cases hgr:great19B l 5 20 with
 | true =>
  repeat' (first|refine d1 ?_|refine dd ?_|(show T _ (.ops _ (_::_)::_) _ _ _;first|refine T_call rfl rfl rfl rfl rfl (fun w hw=>great19_spec A l.length ca l 5 20 w (rdSrc hs w hw) rfl hnb (hT hw) (by omega) (by omega)) ?_|refine T_callC rfl rfl rfl rfl rfl rfl rfl (fun hg w hw=>great19_spec A l.length ca l 5 20 w (rdSrc hs w hw) rfl hnb (hT hw) (by omega) (by omega)) ?_)|(show T _ (.run _ _ (_::_) _ _::_) _ _ _;first|refine rc rfl rfl rfl rfl rfl rfl rfl (fun w hw=>great19_spec A l.length ca l 5 20 w (rdSrc hs w hw) rfl hnb (hT hw) (by omega) (by omega)) ?_|refine rcG rfl rfl rfl rfl rfl rfl rfl rfl rfl (fun hg w hw=>great19_spec A l.length ca l 5 20 w (rdSrc hs w hw) rfl hnb (hT hw) (by omega) (by omega)) ?_)|(show ∀ _:Nat,T _ _ _ _ _;intro _))
  rw [hgr]
  repeat' (first|refine d1 ?_|refine dd ?_|(show T _ (.ops _ (_::_)::_) _ _ _;refine T_op (OpT.never (.bool false) rfl (fun hg9=>by have h10:(true:Bool)=false:=hg9.1;cases h10) rfl rfl rfl rfl rfl ?_))|(show ∀ _:Nat,T _ _ _ _ _;intro _))
  refine T_if rfl (fun _=>?_) (fun h=>by exfalso;simp at h)
  repeat' (first|refine d1 ?_|refine dd ?_|(show T _ (.ops _ (_::_)::_) _ _ _;first|refine T_call rfl rfl rfl rfl rfl (fun w hw=>awake19_spec w (hst.cls hw)) ?_|refine T_callC rfl rfl rfl rfl rfl rfl rfl (fun hg w hw=>awake19_spec w (hst.cls hw)) ?_)|(show T _ (.run _ _ (_::_) _ _::_) _ _ _;first|refine rc rfl rfl rfl rfl rfl rfl rfl (fun w hw=>awake19_spec w (hst.cls hw)) ?_|refine rcG rfl rfl rfl rfl rfl rfl rfl rfl rfl (fun hg w hw=>awake19_spec w (hst.cls hw)) ?_)|(show ∀ _:Nat,T _ _ _ _ _;intro _)|(show T _ (.code .ret::_) _ _ _;refine T_retV [] rfl (Hle.none _) ⟨rfl,rfl⟩))
 | false =>
  obtain⟨g1,g2,g3⟩:=great19_no hl hgr
  repeat' (first|refine d1 ?_|refine dd ?_|(show T _ (.ops _ (_::_)::_) _ _ _;first|refine T_call rfl rfl rfl rfl rfl (fun w hw=>great19_spec A l.length ca l 5 20 w (rdSrc hs w hw) rfl hnb (hT hw) (by omega) (by omega)) ?_|refine T_callC rfl rfl rfl rfl rfl rfl rfl (fun hg w hw=>great19_spec A l.length ca l 5 20 w (rdSrc hs w hw) rfl hnb (hT hw) (by omega) (by omega)) ?_)|(show T _ (.run _ _ (_::_) _ _::_) _ _ _;first|refine rc rfl rfl rfl rfl rfl rfl rfl (fun w hw=>great19_spec A l.length ca l 5 20 w (rdSrc hs w hw) rfl hnb (hT hw) (by omega) (by omega)) ?_|refine rcG rfl rfl rfl rfl rfl rfl rfl rfl rfl (fun hg w hw=>great19_spec A l.length ca l 5 20 w (rdSrc hs w hw) rfl hnb (hT hw) (by omega) (by omega)) ?_)|(show ∀ _:Nat,T _ _ _ _ _;intro _))
  rw [hgr]
  repeat' (first|refine d1 ?_|refine dd ?_|(show T _ (.ops _ (_::_)::_) _ _ _;first|refine T_call rfl rfl rfl rfl rfl (fun w hw=>wide19_spec A l.length ca l 200 w (rdSrc hs w hw) rfl (by omega) (fun t ht=>by have:=g2 t ht;omega) (by omega)) ?_|refine T_callC rfl rfl rfl rfl rfl rfl rfl (fun hg w hw=>wide19_spec A l.length ca l 200 w (rdSrc hs w hw) rfl (by omega) (fun t ht=>by have:=g2 t ht;omega) (by omega)) ?_)|(show T _ (.run _ _ (_::_) _ _::_) _ _ _;first|refine rc rfl rfl rfl rfl rfl rfl rfl (fun w hw=>wide19_spec A l.length ca l 200 w (rdSrc hs w hw) rfl (by omega) (fun t ht=>by have:=g2 t ht;omega) (by omega)) ?_|refine rcG rfl rfl rfl rfl rfl rfl rfl rfl rfl (fun hg w hw=>wide19_spec A l.length ca l 200 w (rdSrc hs w hw) rfl (by omega) (fun t ht=>by have:=g2 t ht;omega) (by omega)) ?_)|(show ∀ _:Nat,T _ _ _ _ _;intro _))
  refine T_if rfl (fun _=>?_) (fun h=>?_)
  ·repeat' (first|refine d1 ?_|refine dd ?_|(show T _ (.ops _ (_::_)::_) _ _ _;first|refine T_call rfl rfl rfl rfl rfl (fun w hw=>awake19_spec w (hst.cls hw)) ?_|refine T_callC rfl rfl rfl rfl rfl rfl rfl (fun hg w hw=>awake19_spec w (hst.cls hw)) ?_)|(show T _ (.run _ _ (_::_) _ _::_) _ _ _;first|refine rc rfl rfl rfl rfl rfl rfl rfl (fun w hw=>awake19_spec w (hst.cls hw)) ?_|refine rcG rfl rfl rfl rfl rfl rfl rfl rfl rfl (fun hg w hw=>awake19_spec w (hst.cls hw)) ?_)|(show ∀ _:Nat,T _ _ _ _ _;intro _)|(show T _ (.code .ret::_) _ _ _;refine T_retV [] rfl (Hle.none _) ⟨rfl,rfl⟩))
  clear h
  by_cases hbig:l.length≠0∧(32<l.length∨∃ t∈l,1024<t.n)
  ·repeat' (first|refine d1 ?_|refine dd ?_|(show T _ (.ops _ (_::_)::_) _ _ _;refine T_op (OpT.call rfl rfl rfl rfl rfl (fun w hw=>alignBig_spec c A l.length ca l w (rdSrc hs w hw) rfl (by omega) hbig.1 hbig.2) ?_))|(show ∀ _:Nat,T _ _ _ _ _;intro _))
   rintro v R ⟨x1,-,rfl,rfl⟩
   refine T_le (H':=[dat [x1] [rowsD []],blk pc c.cells 23]) (Hle.refl _) ?_
   refine T_open fun p1 hp1=>?_
   repeat' (first|refine d1 ?_|refine dd ?_|(show T _ (.ops _ (_::_)::_) _ _ _;refine T_op (OpT.call rfl rfl rfl rfl rfl (fun w hw=>alignRBig_spec c A l.length ca l w (rdSrc hs w hw) rfl (by omega) hbig.1 hbig.2) ?_))|(show ∀ _:Nat,T _ _ _ _ _;intro _))
   rintro v R ⟨x2,-,rfl,rfl⟩
   refine T_le (H':=[dat [x2] [rowsD []],fz p1,blk pc c.cells 23]) (Hle.refl _) ?_
   refine T_open fun p2 hp2=>?_
   repeat' (first|refine d1 ?_|refine dd ?_|(show T _ (.ops _ (_::_)::_) _ _ _;first|refine T_call rfl rfl rfl rfl rfl (fun w hw=>sameCols19_spec x1 x2 [] [] w (hp1.own hw) (hp2.own hw)) ?_|refine T_callC rfl rfl rfl rfl rfl rfl rfl (fun hg w hw=>sameCols19_spec x1 x2 [] [] w (hp1.own hw) (hp2.own hw)) ?_|refine T_call rfl rfl rfl rfl rfl (fun w hw=>awake19_spec w (hst.cls hw)) ?_|refine T_callC rfl rfl rfl rfl rfl rfl rfl (fun hg w hw=>awake19_spec w (hst.cls hw)) ?_)|(show T _ (.run _ _ (_::_) _ _::_) _ _ _;first|refine rc rfl rfl rfl rfl rfl rfl rfl (fun w hw=>sameCols19_spec x1 x2 [] [] w (hp1.own hw) (hp2.own hw)) ?_|refine rcG rfl rfl rfl rfl rfl rfl rfl rfl rfl (fun hg w hw=>sameCols19_spec x1 x2 [] [] w (hp1.own hw) (hp2.own hw)) ?_|refine rc rfl rfl rfl rfl rfl rfl rfl (fun w hw=>awake19_spec w (hst.cls hw)) ?_|refine rcG rfl rfl rfl rfl rfl rfl rfl rfl rfl (fun hg w hw=>awake19_spec w (hst.cls hw)) ?_)|(show ∀ _:Nat,T _ _ _ _ _;intro _)|(show T _ (.code .ret::_) _ _ _;refine T_retV [] rfl (Hle.none _) ⟨rfl,rfl⟩))
  have hgp:Grp w A l.length l:=by
   refine ⟨hst,hs,rfl,?_,hl,fun t ht=>?_,g3⟩
   ·refine Classical.byContradiction fun h9=>hbig ⟨by omega, .inl (by omega)⟩
   ·rcases g2 t ht with h9|h9
    ·omega
    ·exact absurd ⟨by have:=List.length_pos_of_mem ht;omega, .inr ⟨t,ht,h9.1⟩⟩ hbig
  repeat' (first|refine d1 ?_|refine dd ?_|(show T _ (.ops _ (_::_)::_) _ _ _;refine T_op (OpT.call rfl rfl rfl rfl rfl (fun w hw=>align19_spec c A l.length ca l w (hgp.cls hw)) ?_))|(show ∀ _:Nat,T _ _ _ _ _;intro _))
  rintro v R ⟨x1,-,rfl,rfl⟩
  refine T_le (H':=[dat [x1] [rowsD (aln19 c l).1],blk pc c.cells 23]) (Hle.refl _) ?_
  refine T_open fun p1 hp1=>?_
  repeat' (first|refine d1 ?_|refine dd ?_|(show T _ (.ops _ (_::_)::_) _ _ _;refine T_op (OpT.call rfl rfl rfl rfl rfl (fun w hw=>alignR19_spec c A l.length ca l w (hgp.cls hw)) ?_))|(show ∀ _:Nat,T _ _ _ _ _;intro _))
  rintro v R ⟨x2,-,rfl,rfl⟩
  refine T_le (H':=[dat [x2] [rowsD (aln19 c l).1],fz p1,blk pc c.cells 23]) (Hle.refl _) ?_
  refine T_open fun p2 hp2=>?_
  generalize aln19 c l=P at hp1 hp2 ⊢
  repeat' (first|refine d1 ?_|refine dd ?_|(show T _ (.ops _ (_::_)::_) _ _ _;first|refine T_call rfl rfl rfl rfl rfl (fun w hw=>sameCols19_spec x1 x2 P.1 P.1 w (hp1.own hw) (hp2.own hw)) ?_|refine T_callC rfl rfl rfl rfl rfl rfl rfl (fun hg w hw=>sameCols19_spec x1 x2 P.1 P.1 w (hp1.own hw) (hp2.own hw)) ?_|refine T_call rfl rfl rfl rfl rfl (fun w hw=>awake19_spec w (hst.cls hw)) ?_|refine T_callC rfl rfl rfl rfl rfl rfl rfl (fun hg w hw=>awake19_spec w (hst.cls hw)) ?_)|(show T _ (.run _ _ (_::_) _ _::_) _ _ _;first|refine rc rfl rfl rfl rfl rfl rfl rfl (fun w hw=>sameCols19_spec x1 x2 P.1 P.1 w (hp1.own hw) (hp2.own hw)) ?_|refine rcG rfl rfl rfl rfl rfl rfl rfl rfl rfl (fun hg w hw=>sameCols19_spec x1 x2 P.1 P.1 w (hp1.own hw) (hp2.own hw)) ?_|refine rc rfl rfl rfl rfl rfl rfl rfl (fun w hw=>awake19_spec w (hst.cls hw)) ?_|refine rcG rfl rfl rfl rfl rfl rfl rfl rfl rfl (fun hg w hw=>awake19_spec w (hst.cls hw)) ?_)|(show ∀ _:Nat,T _ _ _ _ _;intro _)|(show T _ (.code .ret::_) _ _ _;refine T_retV [] rfl (Hle.none _) ⟨congrArg Value.bool ?_,rfl⟩))
  simp
theorem aligns_met (os:Os) (args:Array Value):laidMetH Tryz.prog Rows.multiwayAlignsRow.laid ((World.doorLaid Tryz.prog 400 os).forCall (fun _ _=>0) ⟨#[],args,[]⟩).memory :=
 io_met os args
theorem aligns_lifted (os:Os) (started:os.Started) (H:Type) (enc:TypeId × Value→H) :
  ReturnsInHanded {} Tryz.checked os 5 .any (fun w args=>(Rows.multiwayAlignsSpec.pre enc Tryz.prog Tryz.f5 [] false w args∧laidMetH Tryz.prog Rows.multiwayAlignsRow.laid w)∧sizedMet enc Tryz.prog Tryz.f5 (OpenSpec.ofChange Rows.multiwayAlignsSpec) false w args)
   (Rows.multiwayAlignsSpec.post enc Tryz.prog Tryz.f5 false true false false):=by
 refine returnsInHanded_of_change_and (C:=Tryz.checked) (X:=fun w _=>laidMetH Tryz.prog Rows.multiwayAlignsRow.laid w) (fun _ _ _ hh h=>h.of_heap hh) knob started (by as_aux_lemma=>kernel_rfl) Tryz.func5
  (ChangeSpec.witness_shaped (enc:=enc) (C:=Tryz.checked) (os:=os) (X:=fun w _=>laidMetH Tryz.prog Rows.multiwayAlignsRow.laid w) false (World.doorLaid Tryz.prog 400 os) #[(⟨0,0,0,0⟩:Costs).val, .slice none 0 0] 8 rfl (World.shaped_of_RefB (by as_aux_lemma=>kernel_rfl) (by as_aux_lemma=>kernel_rfl)) (by as_aux_lemma=>kernel_rfl) (by as_aux_lemma=>kernel_rfl) (by as_aux_lemma=>kernel_rfl) (aligns_met os _)) ?_
 intro W base args ds gs before hval0 hW _ _ hL _
 have hval:∀ (j:Nat) t v,Tryz.f5.params[j]?=some t→args[j]?=some v→Value.okWide Tryz.prog W .any base t v:=hval0
 have hstd:=std_of (show laidMetH Tryz.prog laids W from hL)
 have hW':=hW
 obtain⟨p,q,hA0,hV,rfl,hfz,hnd⟩:=hW
 have hA:DataW.TrodAll enc Tryz.prog W 0 (fun _=>true) true Tryz.f5.params.toList args.toList ds p:=hA0
 obtain⟨v0,vs0,d0,ds0,p0,q0,e0,rfl,rfl,h0,hA⟩:=trodAll_cons hA
 obtain⟨v1,vs1,d1,ds1,p1,q1,rfl,rfl,rfl,h1,hA⟩:=trodAll_cons hA
 obtain⟨rfl,rfl,rfl⟩:=trodAll_nil hA
 have ea:args = #[v0,v1]:=Array.ext' e0
 subst ea
 obtain⟨c,rfl⟩:=arg_costs (hval 0 _ v0 rfl rfl) h0
 obtain⟨l,hr_l⟩:=arg_toksL (hval 1 _ v1 rfl rfl) h1
 refine (alignsM_spec c v1 l W hstd hr_l).calls.mono ?_
 rintro e W' ⟨v,A,rfl,⟨rfl,_⟩,hb,_⟩
 exact⟨_,rfl,law_post hW' rfl rfl laidOk (by intro t ht;simp only [show Tryz.f5.params.toList=[23,24] from rfl,List.mem_cons,List.mem_nil_iff,or_false] at ht;rcases ht with rfl|rfl <;> exact⟨by as_aux_lemma=>kernel_rfl,of_decide_eq_true (by as_aux_lemma=>kernel_rfl)⟩) rfl Tryz.underlying4 hb⟩
theorem aligns_j0:Tryz.prog.inPlace 5=Rows.multiwayAlignsRow.inPlace:=by as_aux_lemma=>kernel_rfl
theorem aligns_j1:Tryz.prog.unfollowed 5=Rows.multiwayAlignsRow.unfollowed:=by as_aux_lemma=>kernel_rfl
theorem aligns_j2:Tryz.prog.recurses 5=Rows.multiwayAlignsRow.recurses:=by as_aux_lemma=>kernel_rfl
theorem aligns_j3:Tryz.prog.varsNamed 5=Rows.multiwayAlignsRow.named:=by as_aux_lemma=>kernel_rfl
theorem aligns_joined:joinedFacts Tryz.prog 5 Tryz.f5 Rows.multiwayAlignsSpec Rows.multiwayAlignsRow=true:=by
 unfold joinedFacts
 rw [aligns_j0,aligns_j1,aligns_j2,aligns_j3,io_enter,io_lifts,io_make]
 kernel_rfl
theorem aligns_holds:Rows.MultiwayAlignsSaid :=
 OpenClaim.holds_of_wide 5 Tryz.f5 rfl rfl rfl rfl rfl rfl rfl ⟨rfl,rfl,rfl,rfl,rfl⟩ rfl rfl rfl rfl rfl (by as_aux_lemma=>kernel_rfl) Tryz.func5 aligns_joined
  (of_decide_eq_true (by as_aux_lemma=>kernel_rfl)) (by unfold Func.isWrapper;first|(rw [if_pos (by decide +kernel)];kernel_rfl)|(rw [if_neg (by decide +kernel)];exact⟨rfl,rfl⟩))
  (fun os started H enc _=>aligns_lifted os started H enc)
theorem aligns_card:Rows.MultiwayAlignsCardSaid :=
 Claim7.holds_tied_plain_at .later [] [.data, .data, .data, .sentinel, .sentinel] true (true, "a99cdf59d6efa606f87a5bb4c7fcc05d64041f068a1803fa1d9ac2571df2b43a") true
  aligns_holds (fun _ h=>by cases h) (by as_aux_lemma=>kernel_rfl) (fun _ h=>by cases h) multiwayAligns_row_tie rfl ⟨rfl,rfl⟩ io_main rfl
  (fun f fn hf hfn=>by
   obtain rfl : f = 5 := Option.some.inj ((show Tryz.prog.funcNamed "apograph/apographlaw19.MultiwayAligns" = some 5 by as_aux_lemma => kernel_rfl).symm.trans hf) |>.symm
   obtain rfl:fn=Tryz.f5:=(Option.some.inj (Tryz.func5.symm.trans hfn)).symm
   exact⟨by as_aux_lemma=>kernel_rfl,fun j t ht=>by
    have ht':[23,24][j]?=some t:=by rw [Tryz.params5] at ht;simpa using ht
    have hm:=List.mem_of_getElem? ht'
    simp only [List.mem_cons,List.mem_nil_iff,or_false] at hm
    rcases hm with rfl|rfl <;> exact (show Tryz.prog.wantsStandIn _=false by as_aux_lemma=>kernel_rfl)⟩)
  (by as_aux_lemma=>kernel_rfl)
#print axioms aligns_card
end Go.Proofs.YtmenjpmikhajfaaGreatDoor
