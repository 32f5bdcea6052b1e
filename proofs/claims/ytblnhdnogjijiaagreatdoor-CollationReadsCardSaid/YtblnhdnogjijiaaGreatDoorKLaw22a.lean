/- The law CollationReads holds for whatever collation and numbers: the tied card of its row. No condition beyond the row's own. -/
import Derived.Test.YtblnhdnogjijiaaGreatDoorU5
import Derived.Test.YtblnhdnogjijiaaGreatDoorCards
import Derived.Test.YtblnhdnogjijiaaGreatDoorTie
set_option linter.unusedSectionVars false
set_option linter.unusedVariables false
set_option linter.unusedSimpArgs false
namespace Go.Proofs.YtblnhdnogjijiaaGreatDoor
open Go.RowKit Go.Shelf Go.ChangeShapes Go.WideShapes Go.Proofs
set_option maxRecDepth 100000
set_option maxHeartbeats 1000000

theorem reads22Law_spec (x:Co) (y1 y2 y3:Value) (i k:Int) (w:World) (hst:Std w) (hx:CoRd w y1 y2 y3 x) :
  Spec Tryz.prog 5 [.agg (coL x.sec y1 y2 y3).toArray, .int .i64 i, .int .i64 k] w (fun v R=>v = .bool true∧R=[]):=by
 obtain⟨A1,c1,l,A2,c2,rfl,rfl,h⟩:=co_arg hx
 obtain⟨Ak,ck,csk,rfl,-⟩:=h.cols.tabS
 refine spec_of sg Tryz.func5 rfl rfl rfl ?_
 repeat' (first|(show T _ (.ops _ (⟨_, .box _ _,_,_,_,_⟩::_)::_) _ _ _;refine T_op (OpT.box (cs:=coL x.sec (.slice A1 x.sg.length c1) (.slice A2 l.length c2) (.slice Ak x.cols.length ck)) rfl rfl rfl rfl rfl rfl rfl (fun _=>?_)))|refine d1 ?_|refine dd ?_|(show T _ (.ops _ (_::_)::_) _ _ _;first|refine T_call rfl rfl rfl rfl rfl (fun w hw=>(h.cls hw).great) ?_|refine T_callC rfl rfl rfl rfl rfl rfl rfl (fun hg w hw=>(h.cls hw).great) ?_)|(show T _ (.run _ _ (_::_) _ _::_) _ _ _;first|refine rc rfl rfl rfl rfl rfl rfl rfl (fun w hw=>(h.cls hw).great) ?_|refine rcG rfl rfl rfl rfl rfl rfl rfl rfl rfl (fun hg w hw=>(h.cls hw).great) ?_)|(show ∀ _:Nat,T _ _ _ _ _;intro _))
 refine T_if rfl (fun hg=>?_) (fun hg=>?_)
 ·repeat' (first|refine d1 ?_|refine dd ?_|(show T _ (.ops _ (_::_)::_) _ _ _;first|refine T_call rfl rfl rfl rfl rfl (fun w hw=>awake22_spec w (hst.cls hw)) ?_|refine T_callC rfl rfl rfl rfl rfl rfl rfl (fun hg w hw=>awake22_spec w (hst.cls hw)) ?_)|(show T _ (.run _ _ (_::_) _ _::_) _ _ _;first|refine rc rfl rfl rfl rfl rfl rfl rfl (fun w hw=>awake22_spec w (hst.cls hw)) ?_|refine rcG rfl rfl rfl rfl rfl rfl rfl rfl rfl (fun hg w hw=>awake22_spec w (hst.cls hw)) ?_)|(show ∀ _:Nat,T _ _ _ _ _;intro _)|(show T _ (.code .ret::_) _ _ _;refine T_retV [] rfl (Hle.none _) ⟨rfl,rfl⟩))
 have hs:=great22_no hg
 have hat:=h.at hst hs
 repeat' (first|refine d1 ?_|refine dd ?_|(show T _ (.ops _ (_::_)::_) _ _ _;first|refine T_callE rfl rfl rfl rfl rfl (fun w hw=>textP22_spec x A1 c1 l A2 c2 (.slice Ak x.cols.length ck) i w (hat.cls hw)) (fun a _=>T_open fun p1 hp1=>?_)|refine T_callE rfl rfl rfl rfl rfl (fun w hw=>textR22_spec x A1 c1 l A2 c2 (.slice Ak x.cols.length ck) i w (hat.cls hw)) (fun b _=>T_open fun p2 hp2=>?_)|refine T_callE rfl rfl rfl rfl rfl (fun w hw=>columnP22_spec x A1 c1 l A2 c2 (.slice Ak x.cols.length ck) i w (hat.cls hw)) (fun c _=>T_open fun p3 hp3=>?_)|refine T_callE rfl rfl rfl rfl rfl (fun w hw=>columnR22_spec x A1 c1 l A2 c2 (.slice Ak x.cols.length ck) i w (hat.cls hw)) (fun d _=>T_open fun p4 hp4=>?_)|refine T_call rfl rfl rfl rfl rfl (fun w hw=>findP22_spec x A1 c1 l A2 c2 (.slice Ak x.cols.length ck) i k w (hat.cls hw)) ?_|refine T_callC rfl rfl rfl rfl rfl rfl rfl (fun hg w hw=>findP22_spec x A1 c1 l A2 c2 (.slice Ak x.cols.length ck) i k w (hat.cls hw)) ?_|refine T_call rfl rfl rfl rfl rfl (fun w hw=>findR22_spec x A1 c1 l A2 c2 (.slice Ak x.cols.length ck) i k w (hat.cls hw)) ?_|refine T_callC rfl rfl rfl rfl rfl rfl rfl (fun hg w hw=>findR22_spec x A1 c1 l A2 c2 (.slice Ak x.cols.length ck) i k w (hat.cls hw)) ?_|refine T_call rfl rfl rfl rfl rfl (fun w hw=>printP22_spec x A1 c1 l A2 c2 (.slice Ak x.cols.length ck) w (hat.cls hw) hs) ?_|refine T_callC rfl rfl rfl rfl rfl rfl rfl (fun hg w hw=>printP22_spec x A1 c1 l A2 c2 (.slice Ak x.cols.length ck) w (hat.cls hw) hs) ?_|refine T_call rfl rfl rfl rfl rfl (fun w hw=>printR22_spec x A1 c1 l A2 c2 (.slice Ak x.cols.length ck) w (hat.cls hw) hs) ?_|refine T_callC rfl rfl rfl rfl rfl rfl rfl (fun hg w hw=>printR22_spec x A1 c1 l A2 c2 (.slice Ak x.cols.length ck) w (hat.cls hw) hs) ?_|refine T_call rfl rfl rfl rfl rfl (fun w hw=>checkP22_spec x A1 c1 l A2 c2 (.slice Ak x.cols.length ck) w (hat.cls hw)) ?_|refine T_callC rfl rfl rfl rfl rfl rfl rfl (fun hg w hw=>checkP22_spec x A1 c1 l A2 c2 (.slice Ak x.cols.length ck) w (hat.cls hw)) ?_|refine T_call rfl rfl rfl rfl rfl (fun w hw=>checkR22_spec x A1 c1 l A2 c2 (.slice Ak x.cols.length ck) w (hat.cls hw)) ?_|refine T_callC rfl rfl rfl rfl rfl rfl rfl (fun hg w hw=>checkR22_spec x A1 c1 l A2 c2 (.slice Ak x.cols.length ck) w (hat.cls hw)) ?_)|(show T _ (.run _ _ (_::_) _ _::_) _ _ _;first|refine rc rfl rfl rfl rfl rfl rfl rfl (fun w hw=>findP22_spec x A1 c1 l A2 c2 (.slice Ak x.cols.length ck) i k w (hat.cls hw)) ?_|refine rcG rfl rfl rfl rfl rfl rfl rfl rfl rfl (fun hg w hw=>findP22_spec x A1 c1 l A2 c2 (.slice Ak x.cols.length ck) i k w (hat.cls hw)) ?_|refine rc rfl rfl rfl rfl rfl rfl rfl (fun w hw=>findR22_spec x A1 c1 l A2 c2 (.slice Ak x.cols.length ck) i k w (hat.cls hw)) ?_|refine rcG rfl rfl rfl rfl rfl rfl rfl rfl rfl (fun hg w hw=>findR22_spec x A1 c1 l A2 c2 (.slice Ak x.cols.length ck) i k w (hat.cls hw)) ?_|refine rc rfl rfl rfl rfl rfl rfl rfl (fun w hw=>printP22_spec x A1 c1 l A2 c2 (.slice Ak x.cols.length ck) w (hat.cls hw) hs) ?_|refine rcG rfl rfl rfl rfl rfl rfl rfl rfl rfl (fun hg w hw=>printP22_spec x A1 c1 l A2 c2 (.slice Ak x.cols.length ck) w (hat.cls hw) hs) ?_|refine rc rfl rfl rfl rfl rfl rfl rfl (fun w hw=>printR22_spec x A1 c1 l A2 c2 (.slice Ak x.cols.length ck) w (hat.cls hw) hs) ?_|refine rcG rfl rfl rfl rfl rfl rfl rfl rfl rfl (fun hg w hw=>printR22_spec x A1 c1 l A2 c2 (.slice Ak x.cols.length ck) w (hat.cls hw) hs) ?_|refine rc rfl rfl rfl rfl rfl rfl rfl (fun w hw=>checkP22_spec x A1 c1 l A2 c2 (.slice Ak x.cols.length ck) w (hat.cls hw)) ?_|refine rcG rfl rfl rfl rfl rfl rfl rfl rfl rfl (fun hg w hw=>checkP22_spec x A1 c1 l A2 c2 (.slice Ak x.cols.length ck) w (hat.cls hw)) ?_|refine rc rfl rfl rfl rfl rfl rfl rfl (fun w hw=>checkR22_spec x A1 c1 l A2 c2 (.slice Ak x.cols.length ck) w (hat.cls hw)) ?_|refine rcG rfl rfl rfl rfl rfl rfl rfl rfl rfl (fun hg w hw=>checkR22_spec x A1 c1 l A2 c2 (.slice Ak x.cols.length ck) w (hat.cls hw)) ?_)|(show ∀ _:Nat,T _ _ _ _ _;intro _))
 repeat' (first|refine d1 ?_|refine dd ?_|(show T _ (.run _ _ (_::_) _ _::_) _ _ _;first|refine rcG rfl rfl rfl rfl rfl rfl rfl rfl rfl (fun _ w hw=>equalStr_spec a b _ _ w (hp1.own hw) (hp2.own hw)) ?_|refine rcG rfl rfl rfl rfl rfl rfl rfl rfl rfl (fun _ w hw=>equalStr_spec c d _ _ w (hp3.own hw) (hp4.own hw)) ?_|refine rcG rfl rfl rfl rfl rfl rfl rfl rfl rfl (fun _ w hw=>awake22_spec w (hst.cls hw)) ?_)|(show ∀ _:Nat,T _ _ _ _ _;intro _))
 repeat' (first|refine d1 ?_|refine dd ?_|(show ∀ _:Nat,T _ _ _ _ _;intro _)|(show T _ (.code .ret::_) _ _ _;refine T_retV [] rfl (Hle.none _) ⟨by simp [resV],rfl⟩))
theorem reads22_met (os:Os) (args:Array Value):laidMetH Tryz.prog Rows.collationReadsRow.laid ((World.doorLaid Tryz.prog 400 os).forCall (fun _ _=>0) ⟨#[],args,[]⟩).memory :=
 io_met os args
theorem reads22_lifted (os:Os) (started:os.Started) (H:Type) (enc:TypeId × Value→H) :
  ReturnsInHanded {} Tryz.checked os 5 .any (fun w args=>(Rows.collationReadsSpec.pre enc Tryz.prog Tryz.f5 [] false w args∧laidMetH Tryz.prog Rows.collationReadsRow.laid w)∧sizedMet enc Tryz.prog Tryz.f5 (OpenSpec.ofChange Rows.collationReadsSpec) false w args)
   (Rows.collationReadsSpec.post enc Tryz.prog Tryz.f5 false true false false):=by
 refine returnsInHanded_of_change_and (C:=Tryz.checked) (X:=fun w _=>laidMetH Tryz.prog Rows.collationReadsRow.laid w) (fun _ _ _ hh h=>h.of_heap hh) knob started (by as_aux_lemma=>kernel_rfl) Tryz.func5
  (ChangeSpec.witness_shaped (enc:=enc) (C:=Tryz.checked) (os:=os) (X:=fun w _=>laidMetH Tryz.prog Rows.collationReadsRow.laid w) false (World.doorLaid Tryz.prog 400 os) #[(.agg #[.string .empty, .slice none 0 0, .slice none 0 0, .slice none 0 0]), .int .i64 0, .int .i64 0] 8 rfl (World.shaped_of_RefB (by as_aux_lemma=>kernel_rfl) (by as_aux_lemma=>kernel_rfl)) (by as_aux_lemma=>kernel_rfl) (by as_aux_lemma=>kernel_rfl) (by as_aux_lemma=>kernel_rfl) (reads22_met os _)) ?_
 intro W base args ds gs before hval0 hW _ _ hL _
 have hval:∀ (j:Nat) t v,Tryz.f5.params[j]?=some t→args[j]?=some v→Value.okWide Tryz.prog W .any base t v:=hval0
 have hstd:=std_of (show laidMetH Tryz.prog laids W from hL)
 have hW':=hW
 obtain⟨p,q,hA0,hV,rfl,hfz,hnd⟩:=hW
 have hA:DataW.TrodAll enc Tryz.prog W 0 (fun _=>true) true Tryz.f5.params.toList args.toList ds p:=hA0
 obtain⟨v0,vs0,d0,ds0,p0,q0,e0,rfl,rfl,h0,hA⟩:=trodAll_cons hA
 obtain⟨v1,vs1,d1,ds1,p1,q1,rfl,rfl,rfl,h1,hA⟩:=trodAll_cons hA
 obtain⟨v2,vs2,d2,ds2,p2,q2,rfl,rfl,rfl,h2,hA⟩:=trodAll_cons hA
 obtain⟨rfl,rfl,rfl⟩:=trodAll_nil hA
 have ea:args = #[v0,v1,v2]:=Array.ext' e0
 subst ea
 obtain⟨x,y1_x,y2_x,y3_x,rfl,hr_x⟩:=arg_coll (hval 0 _ v0 rfl rfl) h0
 obtain⟨i,rfl,hb_i⟩:=arg_int (hval 1 _ v1 rfl rfl) h1
 obtain⟨k,rfl,hb_k⟩:=arg_int (hval 2 _ v2 rfl rfl) h2
 refine (reads22Law_spec x y1_x y2_x y3_x i k W hstd hr_x).calls.mono ?_
 rintro e W' ⟨v,A,rfl,⟨rfl,_⟩,hb,_⟩
 exact⟨_,rfl,law_post hW' rfl rfl laidOk (by intro t ht;simp only [show Tryz.f5.params.toList=[32,3,3] from rfl,List.mem_cons,List.mem_nil_iff,or_false] at ht;rcases ht with rfl|rfl|rfl <;> exact⟨by as_aux_lemma=>kernel_rfl,of_decide_eq_true (by as_aux_lemma=>kernel_rfl)⟩) rfl Tryz.underlying4 hb⟩
theorem reads22_j0:Tryz.prog.inPlace 5=Rows.collationReadsRow.inPlace:=by as_aux_lemma=>kernel_rfl
theorem reads22_j1:Tryz.prog.unfollowed 5=Rows.collationReadsRow.unfollowed:=by as_aux_lemma=>kernel_rfl
theorem reads22_j2:Tryz.prog.recurses 5=Rows.collationReadsRow.recurses:=by as_aux_lemma=>kernel_rfl
theorem reads22_j3:Tryz.prog.varsNamed 5=Rows.collationReadsRow.named:=by as_aux_lemma=>kernel_rfl
theorem reads22_joined:joinedFacts Tryz.prog 5 Tryz.f5 Rows.collationReadsSpec Rows.collationReadsRow=true:=by
 unfold joinedFacts
 rw [reads22_j0,reads22_j1,reads22_j2,reads22_j3,io_enter,io_lifts,io_make]
 kernel_rfl
theorem reads22_holds:Rows.CollationReadsSaid :=
 OpenClaim.holds_of_wide 5 Tryz.f5 rfl rfl rfl rfl rfl rfl rfl ⟨rfl,rfl,rfl,rfl,rfl⟩ rfl rfl rfl rfl rfl (by as_aux_lemma=>kernel_rfl) Tryz.func5 reads22_joined
  (of_decide_eq_true (by as_aux_lemma=>kernel_rfl)) (by unfold Func.isWrapper;first|(rw [if_pos (by decide +kernel)];kernel_rfl)|(rw [if_neg (by decide +kernel)];exact⟨rfl,rfl⟩))
  (fun os started H enc _=>reads22_lifted os started H enc)
theorem reads22_card:Rows.CollationReadsCardSaid :=
 Claim7.holds_tied_plain_at .later [] [.data, .data, .data, .sentinel, .sentinel] true (true, "a33e9cbe7952f7f382826246a114ee55385dea5ab4652de37f5d8544d92e8eb8") true
  reads22_holds (fun _ h=>by cases h) (by as_aux_lemma=>kernel_rfl) (fun _ h=>by cases h) collationReads_row_tie rfl ⟨rfl,rfl⟩ io_main rfl
  (fun f fn hf hfn=>by
   obtain rfl : f = 5 := Option.some.inj ((show Tryz.prog.funcNamed "apograph/apographlaw22.CollationReads" = some 5 by as_aux_lemma => kernel_rfl).symm.trans hf) |>.symm
   obtain rfl:fn=Tryz.f5:=(Option.some.inj (Tryz.func5.symm.trans hfn)).symm
   exact⟨by as_aux_lemma=>kernel_rfl,fun j t ht=>by
    have ht':[32,3,3][j]?=some t:=by rw [Tryz.params5] at ht;simpa using ht
    have hm:=List.mem_of_getElem? ht'
    simp only [List.mem_cons,List.mem_nil_iff,or_false] at hm
    rcases hm with rfl|rfl|rfl <;> exact (show Tryz.prog.wantsStandIn _=false by as_aux_lemma=>kernel_rfl)⟩)
  (by as_aux_lemma=>kernel_rfl)
#print axioms reads22_card
end Go.Proofs.YtblnhdnogjijiaaGreatDoor
