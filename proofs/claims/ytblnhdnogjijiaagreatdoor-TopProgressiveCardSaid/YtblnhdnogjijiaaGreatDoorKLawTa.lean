/- The theorem TopProgressive holds for whatever costs, sources and number of rounds: the tied card of its row. No condition beyond the row's own. -/
import Derived.Test.YtblnhdnogjijiaaGreatDoorT4
import Derived.Test.YtblnhdnogjijiaaGreatDoorCards
import Derived.Test.YtblnhdnogjijiaaGreatDoorTie
set_option linter.unusedSectionVars false
set_option linter.unusedVariables false
set_option linter.unusedSimpArgs false
namespace Go.Proofs.YtblnhdnogjijiaaGreatDoor
open Go.RowKit Go.Shelf Go.ChangeShapes Go.WideShapes Go.Proofs
set_option maxRecDepth 100000
set_option maxHeartbeats 1000000

theorem topProg_spec (c:Costs) (x:Value) (m:List (List Tok)) (z:Int) (hz:0≤z∧z≤255) (w:World) (hst:Std w) (hx:Rd (wr w) [x] [.s 1 (m.map toksD)]) :
  Spec Tryz.prog 11 [c.val,x, .int .u8 z] w (fun v R=>v = .bool true∧R=[]):=by
 obtain⟨A,ca,l,rfl,hnb,hs,hl,-⟩:=hx.toksL
 have hcap:l.length≤ca:=by
  obtain⟨A',n',cap',cs',e,-,h,-⟩:=hx.src
  cases e
  exact h
 refine spec_of sg Tryz.func11 rfl rfl rfl ?_
 refine T_op (OpT.box (cs:=c.cells) rfl rfl rfl rfl rfl rfl rfl (fun pc=>?_))
 repeat' (first|refine d1 ?_|refine dd ?_|(show T _ (.ops _ (_::_)::_) _ _ _;first|refine T_call rfl rfl rfl rfl rfl (fun w hw=>top21Fine_spec c A l.length ca l w (rdSrc hs w hw) rfl hnb ⟨fun t ht=>src_below (hl.src t ht) hw.below,hl.len,hl.bd⟩) ?_|refine T_callC rfl rfl rfl rfl rfl rfl rfl (fun hg w hw=>top21Fine_spec c A l.length ca l w (rdSrc hs w hw) rfl hnb ⟨fun t ht=>src_below (hl.src t ht) hw.below,hl.len,hl.bd⟩) ?_)|(show T _ (.run _ _ (_::_) _ _::_) _ _ _;first|refine rc rfl rfl rfl rfl rfl rfl rfl (fun w hw=>top21Fine_spec c A l.length ca l w (rdSrc hs w hw) rfl hnb ⟨fun t ht=>src_below (hl.src t ht) hw.below,hl.len,hl.bd⟩) ?_|refine rcG rfl rfl rfl rfl rfl rfl rfl rfl rfl (fun hg w hw=>top21Fine_spec c A l.length ca l w (rdSrc hs w hw) rfl hnb ⟨fun t ht=>src_below (hl.src t ht) hw.below,hl.len,hl.bd⟩) ?_)|(show ∀ _:Nat,T _ _ _ _ _;intro _))
 refine T_if rfl (fun h=>?_) (fun h=>?_)
 ·repeat' (first|refine d1 ?_|refine dd ?_|(show T _ (.ops _ (_::_)::_) _ _ _;first|refine T_call rfl rfl rfl rfl rfl (fun w hw=>top21Awake_spec w (hst.cls hw)) ?_|refine T_callC rfl rfl rfl rfl rfl rfl rfl (fun hg w hw=>top21Awake_spec w (hst.cls hw)) ?_)|(show T _ (.run _ _ (_::_) _ _::_) _ _ _;first|refine rc rfl rfl rfl rfl rfl rfl rfl (fun w hw=>top21Awake_spec w (hst.cls hw)) ?_|refine rcG rfl rfl rfl rfl rfl rfl rfl rfl rfl (fun hg w hw=>top21Awake_spec w (hst.cls hw)) ?_)|(show ∀ _:Nat,T _ _ _ _ _;intro _)|(show T _ (.code .ret::_) _ _ _;refine T_retV [] rfl (Hle.none _) ⟨rfl,rfl⟩))
 obtain⟨hc,hgr,⟨h1,h3⟩,hq4,hbs,hck⟩:=topFV_ok (by simpa using h)
 clear h
 obtain⟨hgp,hn4,hq⟩:=Grp.of hst hs rfl hl hgr
 have hq':∀ t∈l,t.n≤100:=fun t ht=>by have:=hq t ht;omega
 have hln:=hl.len
 have hv:=vol_5 hq4
 have hv2:5 ^ l.length≤5 ^ 3:=Nat.pow_le_pow_right (by omega) h3
 have hus:usV c l=0:=by unfold usV;rw [if_neg (by omega),hck]
 have ea:alnA c l=(alnP c l,0):=if_pos hck
 have em:aln19 c l=(alnW c l,lstV c l,0):=by unfold aln19;rw [if_neg (by simpa using hus),if_neg (by omega)]
 have hok:=alnP_ok hck hln hgp.len
 obtain⟨g1,g2,g3⟩:=prog_between hck hc hln hgp.len h1 h3 (z % 3).toNat
 have h0:l.length≠0:=by omega
 have hal:alV l (alnP c l)=0:=by unfold alV;rw [if_neg (fun h9=>h0 h9.1),if_pos (chkC_ok h0 hok)]
 obtain⟨hokR,hleR⟩:=refN_ok c hln hok (z % 3).toNat
 have hr:0≤z % 3∧z % 3≤2:=by omega
 have e1:refV c l (alnP c l) (z % 3)=(refN c l (alnP c l) (z % 3).toNat,0):=by unfold refV;rw [if_neg (by simpa using hck),if_neg (by simpa using hal),if_neg (by omega)]
 have e3:costW c l (refN c l (alnP c l) (z % 3).toNat)=(totZ c l (refN c l (alnP c l) (z % 3).toNat),0):=by unfold costW;rw [if_neg (by simpa using hus),if_pos (okC_true hokR)]
 have e4:costW c l (alnP c l)=(totZ c l (alnP c l),0):=by unfold costW;rw [if_neg (by simpa using hus),if_pos (okC_true hok)]
 have hsum:sumL (lens l)≤4 * l.length:=by
  have:∀ l:List TS,(∀ t∈l,t.n≤4)→sumL (lens l)≤4 * l.length:=by
   intro l
   induction l with
   | nil=>intro _;exact Nat.zero_le _
   | cons t l ih =>
    intro h
    have h1:=h t (.head _)
    have h2:=ih fun x hx=>h x (.tail _ hx)
    show t.n+sumL (lens l)≤_
    rw [List.length_cons,Nat.mul_add]
    omega
  exact this l hq4
 have hR:(refN c l (alnP c l) (z % 3).toNat).length≤1000:=by have:=hokR.short;omega
 have hC:(alnP c l).length≤1000:=by have:=hok.short;omega
 generalize refN c l (alnP c l) (z % 3).toNat=Y at *
 generalize alnP c l=X at *
 repeat' (first|refine d1 ?_|refine dd ?_|(show T _ (.ops _ (_::_)::_) _ _ _;refine T_op (OpT.call rfl rfl rfl rfl rfl (fun w hw=>alignPrg21_spec c A l.length ca l w (hgp.cls hw) hq') ?_))|(show ∀ _:Nat,T _ _ _ _ _;intro _))
 rintro v R ⟨x1,-,rfl,rfl⟩
 rw [ea]
 refine T_le (H':=[dat [x1] [rowsD X],blk pc c.cells 23]) (Hle.refl _) ?_
 refine T_open fun p1 hp1=>?_
 repeat' (first|refine d1 ?_|refine dd ?_|(show T _ (.ops _ (_::_)::_) _ _ _;refine T_op (OpT.call rfl rfl rfl rfl rfl (fun w hw=>refine21_spec c A l.length ca l x1 X (z % 3) w (hgp.cls hw) hq' hcap (hp1.own hw)) ?_))|(show ∀ _:Nat,T _ _ _ _ _;intro _))
 rintro v R ⟨x2,-,rfl,rfl⟩
 rw [e1]
 refine T_le (H':=[dat [x2] [rowsD Y],fz p1,blk pc c.cells 23]) (Hle.refl _) ?_
 refine T_open fun p2 hp2=>?_
 repeat' (first|refine d1 ?_|refine dd ?_|(show T _ (.ops _ (_::_)::_) _ _ _;refine T_op (OpT.call rfl rfl rfl rfl rfl (fun w hw=>align19_spec c A l.length ca l w (hgp.cls hw)) ?_))|(show ∀ _:Nat,T _ _ _ _ _;intro _))
 rintro v R ⟨x3,-,rfl,rfl⟩
 rw [em]
 refine T_le (H':=[fz p2,fz p1,blk pc c.cells 23]) (Hle.tail _ _) ?_
 repeat' (first|refine d1 ?_|refine dd ?_|(show T _ (.ops _ (_::_)::_) _ _ _;first|refine T_call rfl rfl rfl rfl rfl (fun w hw=>costSum19_spec c A l.length ca l x1 X w (hgp.cls hw) (hp1.own hw) hC) ?_|refine T_callC rfl rfl rfl rfl rfl rfl rfl (fun hg w hw=>costSum19_spec c A l.length ca l x1 X w (hgp.cls hw) (hp1.own hw) hC) ?_|refine T_call rfl rfl rfl rfl rfl (fun w hw=>costSum19_spec c A l.length ca l x2 Y w (hgp.cls hw) (hp2.own hw) hR) ?_|refine T_callC rfl rfl rfl rfl rfl rfl rfl (fun hg w hw=>costSum19_spec c A l.length ca l x2 Y w (hgp.cls hw) (hp2.own hw) hR) ?_|refine T_call rfl rfl rfl rfl rfl (fun w hw=>top21Awake_spec w (hst.cls hw)) ?_|refine T_callC rfl rfl rfl rfl rfl rfl rfl (fun hg w hw=>top21Awake_spec w (hst.cls hw)) ?_)|(show T _ (.run _ _ (_::_) _ _::_) _ _ _;first|refine rc rfl rfl rfl rfl rfl rfl rfl (fun w hw=>costSum19_spec c A l.length ca l x1 X w (hgp.cls hw) (hp1.own hw) hC) ?_|refine rcG rfl rfl rfl rfl rfl rfl rfl rfl rfl (fun hg w hw=>costSum19_spec c A l.length ca l x1 X w (hgp.cls hw) (hp1.own hw) hC) ?_|refine rc rfl rfl rfl rfl rfl rfl rfl (fun w hw=>costSum19_spec c A l.length ca l x2 Y w (hgp.cls hw) (hp2.own hw) hR) ?_|refine rcG rfl rfl rfl rfl rfl rfl rfl rfl rfl (fun hg w hw=>costSum19_spec c A l.length ca l x2 Y w (hgp.cls hw) (hp2.own hw) hR) ?_|refine rc rfl rfl rfl rfl rfl rfl rfl (fun w hw=>top21Awake_spec w (hst.cls hw)) ?_|refine rcG rfl rfl rfl rfl rfl rfl rfl rfl rfl (fun hg w hw=>top21Awake_spec w (hst.cls hw)) ?_)|(show ∀ _:Nat,T _ _ _ _ _;intro _)|(show T _ (.code .ret::_) _ _ _;refine T_retV [] rfl (Hle.none _) ⟨congrArg Value.bool ?_,rfl⟩))
 rw [e3,e4]
 rcases g3 with g3|g3
 ·have g4:2<(l.length:Int):=by omega
  simp [g1,g2,g4]
 ·rw [g3] at g2 ⊢
  simp [g1,g2]
theorem topprog_met (os:Os) (args:Array Value):laidMetH Tryz.prog Rows.topProgressiveRow.laid ((World.doorLaid Tryz.prog 400 os).forCall (fun _ _=>0) ⟨#[],args,[]⟩).memory :=
 io_met os args
theorem topprog_lifted (os:Os) (started:os.Started) (H:Type) (enc:TypeId × Value→H) :
  ReturnsInHanded {} Tryz.checked os 11 .any (fun w args=>(Rows.topProgressiveSpec.pre enc Tryz.prog Tryz.f11 [] false w args∧laidMetH Tryz.prog Rows.topProgressiveRow.laid w)∧sizedMet enc Tryz.prog Tryz.f11 (OpenSpec.ofChange Rows.topProgressiveSpec) false w args)
   (Rows.topProgressiveSpec.post enc Tryz.prog Tryz.f11 false true false false):=by
 refine returnsInHanded_of_change_and (C:=Tryz.checked) (X:=fun w _=>laidMetH Tryz.prog Rows.topProgressiveRow.laid w) (fun _ _ _ hh h=>h.of_heap hh) knob started (by as_aux_lemma=>kernel_rfl) Tryz.func11
  (ChangeSpec.witness_shaped (enc:=enc) (C:=Tryz.checked) (os:=os) (X:=fun w _=>laidMetH Tryz.prog Rows.topProgressiveRow.laid w) false (World.doorLaid Tryz.prog 400 os) #[(⟨0,0,0,0⟩:Costs).val, .slice none 0 0, .int .u8 0] 8 rfl (World.shaped_of_RefB (by as_aux_lemma=>kernel_rfl) (by as_aux_lemma=>kernel_rfl)) (by as_aux_lemma=>kernel_rfl) (by as_aux_lemma=>kernel_rfl) (by as_aux_lemma=>kernel_rfl) (topprog_met os _)) ?_
 intro W base args ds gs before hval0 hW _ _ hL _
 have hval:∀ (j:Nat) t v,Tryz.f11.params[j]?=some t→args[j]?=some v→Value.okWide Tryz.prog W .any base t v:=hval0
 have hstd:=std_of (show laidMetH Tryz.prog laids W from hL)
 have hW':=hW
 obtain⟨p,q,hA0,hV,rfl,hfz,hnd⟩:=hW
 have hA:DataW.TrodAll enc Tryz.prog W 0 (fun _=>true) true Tryz.f11.params.toList args.toList ds p:=hA0
 obtain⟨v0,vs0,d0,ds0,p0,q0,e0,rfl,rfl,h0,hA⟩:=trodAll_cons hA
 obtain⟨v1,vs1,d1,ds1,p1,q1,rfl,rfl,rfl,h1,hA⟩:=trodAll_cons hA
 obtain⟨v2,vs2,d2,ds2,p2,q2,rfl,rfl,rfl,h2,hA⟩:=trodAll_cons hA
 obtain⟨rfl,rfl,rfl⟩:=trodAll_nil hA
 have ea:args = #[v0,v1,v2]:=Array.ext' e0
 subst ea
 obtain⟨c,rfl⟩:=arg_costs (hval 0 _ v0 rfl rfl) h0
 obtain⟨l,hr_l⟩:=arg_toksL (hval 1 _ v1 rfl rfl) h1
 obtain⟨z,rfl,hb_z⟩:=arg_u8 (hval 2 _ v2 rfl rfl) h2
 refine (topProg_spec c v1 l z hb_z W hstd hr_l).calls.mono ?_
 rintro e W' ⟨v,A,rfl,⟨rfl,_⟩,hb,_⟩
 exact⟨_,rfl,law_post hW' rfl rfl laidOk (by intro t ht;simp only [show Tryz.f11.params.toList=[23,25,5] from rfl,List.mem_cons,List.mem_nil_iff,or_false] at ht;rcases ht with rfl|rfl|rfl <;> exact⟨by as_aux_lemma=>kernel_rfl,of_decide_eq_true (by as_aux_lemma=>kernel_rfl)⟩) rfl Tryz.underlying4 hb⟩
theorem topprog_j0:Tryz.prog.inPlace 11=Rows.topProgressiveRow.inPlace:=by as_aux_lemma=>kernel_rfl
theorem topprog_j1:Tryz.prog.unfollowed 11=Rows.topProgressiveRow.unfollowed:=by as_aux_lemma=>kernel_rfl
theorem topprog_j2:Tryz.prog.recurses 11=Rows.topProgressiveRow.recurses:=by as_aux_lemma=>kernel_rfl
theorem topprog_j3:Tryz.prog.varsNamed 11=Rows.topProgressiveRow.named:=by as_aux_lemma=>kernel_rfl
theorem topprog_joined:joinedFacts Tryz.prog 11 Tryz.f11 Rows.topProgressiveSpec Rows.topProgressiveRow=true:=by
 unfold joinedFacts
 rw [topprog_j0,topprog_j1,topprog_j2,topprog_j3,io_enter,io_lifts,io_make]
 kernel_rfl
theorem topprog_holds:Rows.TopProgressiveSaid :=
 OpenClaim.holds_of_wide 11 Tryz.f11 rfl rfl rfl rfl rfl rfl rfl ⟨rfl,rfl,rfl,rfl,rfl⟩ rfl rfl rfl rfl rfl (by as_aux_lemma=>kernel_rfl) Tryz.func11 topprog_joined
  (of_decide_eq_true (by as_aux_lemma=>kernel_rfl)) (by unfold Func.isWrapper;first|(rw [if_pos (by decide +kernel)];kernel_rfl)|(rw [if_neg (by decide +kernel)];exact⟨rfl,rfl⟩))
  (fun os started H enc _=>topprog_lifted os started H enc)
theorem topprog_card:Rows.TopProgressiveCardSaid :=
 Claim7.holds_tied_plain_at .later [] [.data, .data, .data, .sentinel, .sentinel] true (true, "a33e9cbe7952f7f382826246a114ee55385dea5ab4652de37f5d8544d92e8eb8") true
  topprog_holds (fun _ h=>by cases h) (by as_aux_lemma=>kernel_rfl) (fun _ h=>by cases h) topProgressive_row_tie rfl ⟨rfl,rfl⟩ io_main rfl
  (fun f fn hf hfn=>by
   obtain rfl : f = 11 := Option.some.inj ((show Tryz.prog.funcNamed "apograph/apographtop.TopProgressive" = some 11 by as_aux_lemma => kernel_rfl).symm.trans hf) |>.symm
   obtain rfl:fn=Tryz.f11:=(Option.some.inj (Tryz.func11.symm.trans hfn)).symm
   exact⟨by as_aux_lemma=>kernel_rfl,fun j t ht=>by
    have ht':[23,25,5][j]?=some t:=by rw [Tryz.params11] at ht;simpa using ht
    have hm:=List.mem_of_getElem? ht'
    simp only [List.mem_cons,List.mem_nil_iff,or_false] at hm
    rcases hm with rfl|rfl|rfl <;> exact (show Tryz.prog.wantsStandIn _=false by as_aux_lemma=>kernel_rfl)⟩)
  (by as_aux_lemma=>kernel_rfl)
#print axioms topprog_card
end Go.Proofs.YtblnhdnogjijiaaGreatDoor
