/- The law CollationCollates holds for whatever case: the tied card of its row. No condition beyond the row's own. -/
import Derived.Test.YtblnhdnogjijiaaGreatDoorW5
import Derived.Test.YtblnhdnogjijiaaGreatDoorCards
import Derived.Test.YtblnhdnogjijiaaGreatDoorTie
set_option linter.unusedSectionVars false
set_option linter.unusedVariables false
set_option linter.unusedSimpArgs false
namespace Go.Proofs.YtblnhdnogjijiaaGreatDoor
open Go.RowKit Go.Shelf Go.ChangeShapes Go.WideShapes Go.Proofs
set_option maxRecDepth 100000
set_option maxHeartbeats 1000000

theorem collates22Law_spec (c:Costs) (sec:ByteArray) (sg':List ByteArray) (m:List (List Tok)) (y1 y2:Value) (w:World) (hst:Std w) (hr1:Rd (wr w) [y1] [strsD sg']) (hr2:Rd (wr w) [y2] [.s 1 (m.map toksD)]) :
  Spec Tryz.prog 3 [.agg (case22L c sec y1 y2).toArray] w (fun v R=>v = .bool true∧R=[]):=by
 obtain⟨A1,c1,rfl,g1,g2,g3⟩:=hr1.strs
 obtain⟨A2,c2,l,rfl,g4,g5,g6,rfl⟩:=hr2.toksL
 refine spec_of sg Tryz.func3 rfl rfl rfl ?_
 refine T_op (OpT.box (cs:=case22L c sec (.slice A1 sg'.length c1) (.slice A2 l.length c2)) rfl rfl rfl rfl rfl rfl rfl (fun pc=>?_))
 repeat' (first|refine d1 ?_|(show T _ (.ops _ (_::_)::_) _ _ _;refine T_call rfl rfl rfl rfl rfl (fun w hw=>great22C_spec c sec sg' A1 c1 l A2 c2 w (g3.old hw) (by omega) (g5.old hw) ⟨fun t ht=>src_below (g6.src t ht) hw.below,g6.len,g6.bd⟩ g4) ?_)|fail)
 refine T_if rfl (fun hg=>?_) (fun hg=>?_)
 ·repeat' (first|refine d1 ?_|(show T _ (.ops _ (_::_)::_) _ _ _;refine T_call rfl rfl rfl rfl rfl (fun w hw=>awake22_spec w (hst.cls hw)) ?_)|(show T _ (.code .ret::_) _ _ _;refine T_retV [] rfl (Hle.none _) ⟨rfl,rfl⟩))
 obtain⟨hd,hl6⟩:=hd22C hst g3 g1 g5 g6 hg
 repeat' (first|refine d1 ?_|(show T _ (.ops _ (_::_)::_) _ _ _;first|refine T_val rfl (Val.loadA (vs:=c.cells) rfl (fun _=>rdOwn (fun j u hu=>by rcases j with _|_|_|_|j <;> first|exact hu|(simp at hu))) rfl) rfl rfl rfl ?_|refine T_op (OpT.call rfl rfl rfl rfl rfl (fun w hw=>collateP22_spec c sec sg' A1 c1 l A2 c2 w (hd.cls hw) hl6) ?_))|fail)
 rintro v R ⟨⟨y1,y2,y3⟩,-,rfl,rfl⟩
 refine T_open fun p hp=>?_
 obtain⟨Ak,ck,csk,rfl,-⟩:=hp.cons_inv.2.cons_inv.2.tab
 have hm:=toks22_m c sec sg' l
 have hto:∀ {w':World},TsOk w' l→TsOk w' (toks22 c sec sg' l):=fun h=>toks22_ok h
 generalize toks22 c sec sg' l=tl at hp hm hto ⊢
 generalize hx:made22 c sec sg' l=xe at hp hm ⊢
 obtain⟨x,e⟩:=xe
 dsimp only at hp hm ⊢
 refine T_le (H':=[fz p,blk pc (case22L c sec (.slice A1 sg'.length c1) (.slice A2 l.length c2)) 27]) (Hle.refl _) ?_
 repeat' (first|refine d1 ?_|(show T _ (.ops _ (_::_)::_) _ _ _;first|refine T_val rfl (Val.loadA (vs:=c.cells) rfl (fun _=>rdOwn (b:=pc) (fun j u hu=>by rcases j with _|_|_|_|j <;> first|exact hu|(simp at hu))) rfl) rfl rfl rfl ?_|refine T_op (OpT.call rfl rfl rfl rfl rfl (fun w hw=>collateR22_spec c sec sg' A1 c1 l A2 c2 w (hd.cls hw) hl6) ?_))|(show ∀ _:Nat,T _ _ _ _ _;intro _))
 rintro v R ⟨⟨z1,z2,z3⟩,-,rfl,rfl⟩
 rw [hx]
 dsimp only
 refine T_open fun q hq=>?_
 obtain⟨Bk,dk,dsk,rfl,-⟩:=hq.cons_inv.2.cons_inv.2.tab
 rename_i bx
 refine T_le (H':=[fz q,blk bx (coL x.sec (.slice y1.1 x.sg.length y1.2) (.slice y2.1 tl.length y2.2) (.slice Ak x.cols.length ck)) 32,fz p,blk pc (case22L c sec (.slice A1 sg'.length c1) (.slice A2 l.length c2)) 27]) (Hle.refl _) ?_
 obtain⟨l2,e1,e2,hsm⟩:=ofR22 hq
 repeat' (first|refine d1 ?_|(show T _ (.ops _ (_::_)::_) _ _ _;refine T_call rfl rfl rfl rfl rfl (fun w hw=>(by have h9:=sameR22_spec x x y1.1 z1.1 y1.2 z1.2 tl l2 y2.1 z2.1 y2.2 z2.2 (.slice Ak x.cols.length ck) (.slice Bk x.cols.length dk) w (ofP22 hp hm hw (hto ⟨fun t ht=>src_below (g6.src t ht) hw.below,g6.len,g6.bd⟩)) (hsm hw);rw [e1] at h9;exact h9)) ?_)|(show ∀ _:Nat,T _ _ _ _ _;intro _))
 repeat' (first|refine d1 ?_|(show T _ (.ops _ (_::_)::_) _ _ _;refine T_callC rfl rfl rfl rfl rfl rfl rfl (fun _ w hw=>awake22_spec w (hst.cls hw)) ?_)|fail)
 rw [same22_refl]
 repeat' (first|(show T _ (.code .ret::_) _ _ _;refine T_retV [] rfl (Hle.none _) ⟨by simp [resV],rfl⟩))
theorem collates22_met (os:Os) (args:Array Value):laidMetH Tryz.prog Rows.collationCollatesRow.laid ((World.doorLaid Tryz.prog 400 os).forCall (fun _ _=>0) ⟨#[],args,[]⟩).memory :=
 io_met os args
theorem collates22_lifted (os:Os) (started:os.Started) (H:Type) (enc:TypeId × Value→H) :
  ReturnsInHanded {} Tryz.checked os 3 .any (fun w args=>(Rows.collationCollatesSpec.pre enc Tryz.prog Tryz.f3 [] false w args∧laidMetH Tryz.prog Rows.collationCollatesRow.laid w)∧sizedMet enc Tryz.prog Tryz.f3 (OpenSpec.ofChange Rows.collationCollatesSpec) false w args)
   (Rows.collationCollatesSpec.post enc Tryz.prog Tryz.f3 false true false false):=by
 refine returnsInHanded_of_change_and (C:=Tryz.checked) (X:=fun w _=>laidMetH Tryz.prog Rows.collationCollatesRow.laid w) (fun _ _ _ hh h=>h.of_heap hh) knob started (by as_aux_lemma=>kernel_rfl) Tryz.func3
  (ChangeSpec.witness_shaped (enc:=enc) (C:=Tryz.checked) (os:=os) (X:=fun w _=>laidMetH Tryz.prog Rows.collationCollatesRow.laid w) false (World.doorLaid Tryz.prog 400 os) #[(.agg #[.int .i64 0, .int .i64 0, .int .i64 0, .int .i64 0, .string .empty, .slice none 0 0, .slice none 0 0])] 8 rfl (World.shaped_of_RefB (by as_aux_lemma=>kernel_rfl) (by as_aux_lemma=>kernel_rfl)) (by as_aux_lemma=>kernel_rfl) (by as_aux_lemma=>kernel_rfl) (by as_aux_lemma=>kernel_rfl) (collates22_met os _)) ?_
 intro W base args ds gs before hval0 hW _ _ hL _
 have hval:∀ (j:Nat) t v,Tryz.f3.params[j]?=some t→args[j]?=some v→Value.okWide Tryz.prog W .any base t v:=hval0
 have hstd:=std_of (show laidMetH Tryz.prog laids W from hL)
 have hW':=hW
 obtain⟨p,q,hA0,hV,rfl,hfz,hnd⟩:=hW
 have hA:DataW.TrodAll enc Tryz.prog W 0 (fun _=>true) true Tryz.f3.params.toList args.toList ds p:=hA0
 obtain⟨v0,vs0,d0,ds0,p0,q0,e0,rfl,rfl,h0,hA⟩:=trodAll_cons hA
 obtain⟨rfl,rfl,rfl⟩:=trodAll_nil hA
 have ea:args = #[v0]:=Array.ext' e0
 subst ea
 obtain⟨c_x,sec_x,l_x,m_x,y1_x,y2_x,rfl,hr1_x,hr2_x⟩:=arg_case22 (hval 0 _ v0 rfl rfl) h0
 refine (collates22Law_spec c_x sec_x l_x m_x y1_x y2_x W hstd hr1_x hr2_x).calls.mono ?_
 rintro e W' ⟨v,A,rfl,⟨rfl,_⟩,hb,_⟩
 exact⟨_,rfl,law_post hW' rfl rfl laidOk (by intro t ht;simp only [show Tryz.f3.params.toList=[27] from rfl,List.mem_cons,List.mem_nil_iff,or_false] at ht;rcases ht with rfl <;> exact⟨by as_aux_lemma=>kernel_rfl,of_decide_eq_true (by as_aux_lemma=>kernel_rfl)⟩) rfl Tryz.underlying4 hb⟩
theorem collates22_j0:Tryz.prog.inPlace 3=Rows.collationCollatesRow.inPlace:=by as_aux_lemma=>kernel_rfl
theorem collates22_j1:Tryz.prog.unfollowed 3=Rows.collationCollatesRow.unfollowed:=by as_aux_lemma=>kernel_rfl
theorem collates22_j2:Tryz.prog.recurses 3=Rows.collationCollatesRow.recurses:=by as_aux_lemma=>kernel_rfl
theorem collates22_j3:Tryz.prog.varsNamed 3=Rows.collationCollatesRow.named:=by as_aux_lemma=>kernel_rfl
theorem collates22_joined:joinedFacts Tryz.prog 3 Tryz.f3 Rows.collationCollatesSpec Rows.collationCollatesRow=true:=by
 unfold joinedFacts
 rw [collates22_j0,collates22_j1,collates22_j2,collates22_j3,io_enter,io_lifts,io_make]
 kernel_rfl
theorem collates22_holds:Rows.CollationCollatesSaid :=
 OpenClaim.holds_of_wide 3 Tryz.f3 rfl rfl rfl rfl rfl rfl rfl ⟨rfl,rfl,rfl,rfl,rfl⟩ rfl rfl rfl rfl rfl (by as_aux_lemma=>kernel_rfl) Tryz.func3 collates22_joined
  (of_decide_eq_true (by as_aux_lemma=>kernel_rfl)) (by unfold Func.isWrapper;first|(rw [if_pos (by decide +kernel)];kernel_rfl)|(rw [if_neg (by decide +kernel)];exact⟨rfl,rfl⟩))
  (fun os started H enc _=>collates22_lifted os started H enc)
theorem collates22_card:Rows.CollationCollatesCardSaid :=
 Claim7.holds_tied_plain_at .later [] [.data, .data, .data, .sentinel, .sentinel] true (true, "a33e9cbe7952f7f382826246a114ee55385dea5ab4652de37f5d8544d92e8eb8") true
  collates22_holds (fun _ h=>by cases h) (by as_aux_lemma=>kernel_rfl) (fun _ h=>by cases h) collationCollates_row_tie rfl ⟨rfl,rfl⟩ io_main rfl
  (fun f fn hf hfn=>by
   obtain rfl : f = 3 := Option.some.inj ((show Tryz.prog.funcNamed "apograph/apographlaw22.CollationCollates" = some 3 by as_aux_lemma => kernel_rfl).symm.trans hf) |>.symm
   obtain rfl:fn=Tryz.f3:=(Option.some.inj (Tryz.func3.symm.trans hfn)).symm
   exact⟨by as_aux_lemma=>kernel_rfl,fun j t ht=>by
    have ht':[27][j]?=some t:=by rw [Tryz.params3] at ht;simpa using ht
    have hm:=List.mem_of_getElem? ht'
    simp only [List.mem_cons,List.mem_nil_iff,or_false] at hm
    rcases hm with rfl <;> exact (show Tryz.prog.wantsStandIn _=false by as_aux_lemma=>kernel_rfl)⟩)
  (by as_aux_lemma=>kernel_rfl)
#print axioms collates22_card
end Go.Proofs.YtblnhdnogjijiaaGreatDoor
