/- The law ProgressiveChanges holds for whatever costs, sources, columns, added source and numbers: the tied card of its row. No condition beyond the row's own. -/
import Derived.Test.YtmenjpmikhajfaaGreatDoorQ5
import Derived.Test.YtmenjpmikhajfaaGreatDoorCards
import Derived.Test.YtmenjpmikhajfaaGreatDoorTie
set_option linter.unusedVariables false
set_option linter.unusedSimpArgs false
namespace Go.Proofs.YtmenjpmikhajfaaGreatDoor
open Go.RowKit Go.Shelf Go.ChangeShapes Go.WideShapes Go.Proofs
set_option maxRecDepth 100000
set_option maxHeartbeats 1000000

theorem addRV_eq {c:Costs} {l:List TS} {cols:List (List Int)} {t:List Tok} (hn:l.length≤4) (ht:t.length≤1000):addRV c l cols t=addTV c l cols t:=by
 have hk:ckcV c l cols=if ck21 c l≠0 then ck21 c l else alV l cols:=by
  unfold ckcV alV
  by_cases h:ck21 c l≠0
  ·rw [if_pos h,if_pos h]
   unfold ck21 at h ⊢
   split <;> simp_all
  ·rw [if_neg h,if_neg h]
 unfold addRV addTV
 rw [hk]
 by_cases h:ck21 c l≠0
 ·rw [if_pos h,if_pos h,if_pos h]
 ·rw [if_neg h,if_neg h]
  by_cases h1:alV l cols≠0
  ·rw [if_pos h1,if_pos h1]
  ·rw [if_neg h1,if_neg h1,if_neg (show ¬ (l.length=32∨1024<t.length) by omega)]
theorem changesLaw_spec (c:Costs) (x:Value) (m:List (List Tok)) (y:Value) (cols:List (List Int)) (tt:TS) (z1 z2:Int) (w:World) (hst:Std w) (hx:Rd (wr w) [x] [.s 1 (m.map toksD)]) (hy:Rd (wr w) [y] [rowsD cols]) (hts:Src w 6 tt.A tt.n (tt.l.flatMap Tok.cells)) (htl:tt.l.length=tt.n) (htb:tt.n≤9223372036854775807) :
  Spec Tryz.prog 3 [c.val,x,y,tt.val, .int .i64 z1, .int .i64 z2] w (fun v R=>v = .bool true∧R=[]):=by
 obtain⟨A,ca,l,rfl,hnb,hs,hl,-⟩:=hx.toksL
 have hcap:l.length≤ca:=by
  obtain⟨A',n',cap',cs',e,-,h,-⟩:=hx.src
  cases e
  exact h
 refine spec_of sg Tryz.func3 rfl rfl rfl ?_
 refine T_op (OpT.box (cs:=c.cells) rfl rfl rfl rfl rfl rfl rfl (fun pc=>?_))
 have hT1:∀ {w':World} {H:List HA},Cls w w' H→TsOk w' [tt]:=fun hw =>
  ⟨List.forall_mem_cons.2 ⟨src_below hts hw.below,fun t h=>(by cases h)⟩,List.forall_mem_cons.2 ⟨htl,fun t h=>(by cases h)⟩,List.forall_mem_cons.2 ⟨htb,fun t h=>(by cases h)⟩⟩
 cases hgr:great21B l with
 | true =>
  repeat' (first|refine d1 ?_|refine dd ?_|(show T _ (.ops _ (_::_)::_) _ _ _;first|refine T_call rfl rfl rfl rfl rfl (fun w hw=>great21_spec A l.length ca l w (rdSrc hs w hw) rfl hnb ⟨fun t ht=>src_below (hl.src t ht) hw.below,hl.len,hl.bd⟩) ?_|refine T_callC rfl rfl rfl rfl rfl rfl rfl (fun hg w hw=>great21_spec A l.length ca l w (rdSrc hs w hw) rfl hnb ⟨fun t ht=>src_below (hl.src t ht) hw.below,hl.len,hl.bd⟩) ?_|refine T_call rfl rfl rfl rfl rfl (fun w hw=>greatC_spec y cols w (hy.old hw)) ?_|refine T_callC rfl rfl rfl rfl rfl rfl rfl (fun hg w hw=>greatC_spec y cols w (hy.old hw)) ?_|refine T_op (OpT.never (.bool false) rfl (fun hg=>by (simp only [List.cons_append,List.nil_append,GP,dstL,lookE,Nat.beq,cond,List.getElem?_cons_zero,List.getElem?_cons_succ,Option.bind_some,and_true,Bool.and_eq_true,Bool.or_eq_true,Bool.and_eq_false_iff,Bool.or_eq_false_iff,Bool.not_eq_true',Bool.not_eq_false',decide_eq_true_eq,decide_eq_false_iff_not] at hg);simp [hgr] at hg) rfl rfl rfl rfl rfl ?_))|(show T _ (.run _ _ (_::_) _ _::_) _ _ _;first|refine rc rfl rfl rfl rfl rfl rfl rfl (fun w hw=>great21_spec A l.length ca l w (rdSrc hs w hw) rfl hnb ⟨fun t ht=>src_below (hl.src t ht) hw.below,hl.len,hl.bd⟩) ?_|refine rcG rfl rfl rfl rfl rfl rfl rfl rfl rfl (fun hg w hw=>great21_spec A l.length ca l w (rdSrc hs w hw) rfl hnb ⟨fun t ht=>src_below (hl.src t ht) hw.below,hl.len,hl.bd⟩) ?_|refine rc rfl rfl rfl rfl rfl rfl rfl (fun w hw=>greatC_spec y cols w (hy.old hw)) ?_|refine rcG rfl rfl rfl rfl rfl rfl rfl rfl rfl (fun hg w hw=>greatC_spec y cols w (hy.old hw)) ?_)|(show ∀ _:Nat,T _ _ _ _ _;intro _))
  rw [hgr]
  refine T_if rfl (fun h=>?_) (fun h=>by exfalso;simp at h)
  repeat' (first|refine d1 ?_|refine dd ?_|(show T _ (.ops _ (_::_)::_) _ _ _;first|refine T_call rfl rfl rfl rfl rfl (fun w hw=>awake21_spec w (hst.cls hw)) ?_|refine T_callC rfl rfl rfl rfl rfl rfl rfl (fun hg w hw=>awake21_spec w (hst.cls hw)) ?_)|(show T _ (.run _ _ (_::_) _ _::_) _ _ _;first|refine rc rfl rfl rfl rfl rfl rfl rfl (fun w hw=>awake21_spec w (hst.cls hw)) ?_|refine rcG rfl rfl rfl rfl rfl rfl rfl rfl rfl (fun hg w hw=>awake21_spec w (hst.cls hw)) ?_)|(show ∀ _:Nat,T _ _ _ _ _;intro _)|(show T _ (.code .ret::_) _ _ _;refine T_retV [] rfl (Hle.none _) ⟨rfl,rfl⟩))
 | false =>
  obtain⟨hgp,hn4,hq⟩:=Grp.of hst hs rfl hl hgr
  have hq':∀ t∈l,t.n≤100:=fun t ht=>by have:=hq t ht;omega
  repeat' (first|refine d1 ?_|refine dd ?_|(show T _ (.ops _ (_::_)::_) _ _ _;first|refine T_call rfl rfl rfl rfl rfl (fun w hw=>great21_spec A l.length ca l w (rdSrc hs w hw) rfl hnb ⟨fun t ht=>src_below (hl.src t ht) hw.below,hl.len,hl.bd⟩) ?_|refine T_callC rfl rfl rfl rfl rfl rfl rfl (fun hg w hw=>great21_spec A l.length ca l w (rdSrc hs w hw) rfl hnb ⟨fun t ht=>src_below (hl.src t ht) hw.below,hl.len,hl.bd⟩) ?_)|(show T _ (.run _ _ (_::_) _ _::_) _ _ _;first|refine rc rfl rfl rfl rfl rfl rfl rfl (fun w hw=>great21_spec A l.length ca l w (rdSrc hs w hw) rfl hnb ⟨fun t ht=>src_below (hl.src t ht) hw.below,hl.len,hl.bd⟩) ?_|refine rcG rfl rfl rfl rfl rfl rfl rfl rfl rfl (fun hg w hw=>great21_spec A l.length ca l w (rdSrc hs w hw) rfl hnb ⟨fun t ht=>src_below (hl.src t ht) hw.below,hl.len,hl.bd⟩) ?_)|(show ∀ _:Nat,T _ _ _ _ _;intro _))
  rw [hgr]
  refine T_known 32 rfl rfl ?_
  refine T_op (OpT.sure (p:=false) rfl rfl rfl (OpT.litW rfl rfl rfl rfl rfl rfl rfl rfl rfl rfl rfl (fun b1=>?_)))
  refine T_op (OpT.sure (p:=false) rfl rfl rfl (OpT.call rfl rfl rfl rfl rfl (fun w hw=>great21_spec _ 1 1 [tt] w (Src.own hw rfl) rfl (by omega) (hT1 hw)) (fun v R hR=>?_)))
  obtain⟨rfl,rfl⟩:=hR
  refine T_le (H':=[blk pc c.cells 23]) (Hle.tail _ _) ?_
  repeat' (first|refine d1 ?_|refine dd ?_|(show T _ (.ops _ (_::_)::_) _ _ _;first|refine T_call rfl rfl rfl rfl rfl (fun w hw=>greatC_spec y cols w (hy.old hw)) ?_|refine T_callC rfl rfl rfl rfl rfl rfl rfl (fun hg w hw=>greatC_spec y cols w (hy.old hw)) ?_)|(show T _ (.run _ _ (_::_) _ _::_) _ _ _;first|refine rc rfl rfl rfl rfl rfl rfl rfl (fun w hw=>greatC_spec y cols w (hy.old hw)) ?_|refine rcG rfl rfl rfl rfl rfl rfl rfl rfl rfl (fun hg w hw=>greatC_spec y cols w (hy.old hw)) ?_)|(show ∀ _:Nat,T _ _ _ _ _;intro _))
  refine T_if rfl (fun h=>?_) (fun h=>?_)
  ·repeat' (first|refine d1 ?_|refine dd ?_|(show T _ (.ops _ (_::_)::_) _ _ _;first|refine T_call rfl rfl rfl rfl rfl (fun w hw=>awake21_spec w (hst.cls hw)) ?_|refine T_callC rfl rfl rfl rfl rfl rfl rfl (fun hg w hw=>awake21_spec w (hst.cls hw)) ?_)|(show T _ (.run _ _ (_::_) _ _::_) _ _ _;first|refine rc rfl rfl rfl rfl rfl rfl rfl (fun w hw=>awake21_spec w (hst.cls hw)) ?_|refine rcG rfl rfl rfl rfl rfl rfl rfl rfl rfl (fun hg w hw=>awake21_spec w (hst.cls hw)) ?_)|(show ∀ _:Nat,T _ _ _ _ _;intro _)|(show T _ (.code .ret::_) _ _ _;refine T_retV [] rfl (Hle.none _) ⟨rfl,rfl⟩))
  have hh:great21B [tt]=false∧greatC cols=false:=by simpa using h
  clear h
  obtain⟨hgr2,hgC⟩:=hh
  obtain⟨-,hC⟩:=greatC_no hgC
  have ht5:tt.n≤5∧∀ x∈tt.l,x.small:=by
   unfold great21B at hgr2
   rw [Bool.or_eq_false_iff,List.any_eq_false] at hgr2
   have h1:=hgr2.1 tt (.head _)
   simp at h1
   exact⟨by omega,fun x hx=>(longT_small ((greatB_false h1.2).1 x hx)).1⟩
  obtain⟨ht5,hsm⟩:=ht5
  have eA:addRV c l cols tt.l=addTV c l cols tt.l:=addRV_eq (by omega) (by omega)
  have hprod:((cols.length:Int)+1) * ((tt.n:Int)+1)≤1048576:=by
   have h9:=Nat.mul_le_mul (show cols.length+1≤3201 by omega) (show tt.n+1≤101 by omega)
   have h8:((cols.length:Int)+1) * ((tt.n:Int)+1)=(((cols.length+1) * (tt.n+1):Nat):Int):=by push_cast;rfl
   rw [h8];omega
  repeat' (first|refine d1 ?_|refine dd ?_|(show T _ (.ops _ (_::_)::_) _ _ _;refine T_op (OpT.call rfl rfl rfl rfl rfl (fun w hw=>addT21_spec c A tt.A l.length ca tt.n tt.cap l y cols tt.l w (hgp.cls hw) hq' (hy.old hw) (src_below hts hw.below) htl (by omega) hsm) ?_))|(show ∀ _:Nat,T _ _ _ _ _;intro _))
  rintro v R ⟨a1,-,rfl,rfl⟩
  refine T_le (H':=[dat [a1] [rowsD (addTV c l cols tt.l).1],blk pc c.cells 23]) (Hle.refl _) ?_
  refine T_open fun pa1 hpa1=>?_
  repeat' (first|refine d1 ?_|refine dd ?_|(show T _ (.ops _ (_::_)::_) _ _ _;refine T_op (OpT.call rfl rfl rfl rfl rfl (fun w hw=>addR21_spec c A l.length ca l y cols tt.A tt.n tt.cap tt.l w (hgp.cls hw) (by omega) (hy.old hw) (by omega) (src_below hts hw.below) htl (by omega) hsm hprod) ?_))|(show ∀ _:Nat,T _ _ _ _ _;intro _))
  rintro v R ⟨a2,-,rfl,rfl⟩
  rw [eA]
  refine T_le (H':=[dat [a2] [rowsD (addTV c l cols tt.l).1],fz pa1,blk pc c.cells 23]) (Hle.refl _) ?_
  refine T_open fun pa2 hpa2=>?_
  repeat' (first|refine d1 ?_|refine dd ?_|(show T _ (.ops _ (_::_)::_) _ _ _;refine T_op (OpT.call rfl rfl rfl rfl rfl (fun w hw=>remove21_spec A l.length ca l y cols z1 w (hgp.cls hw) (hy.old hw)) ?_))|(show ∀ _:Nat,T _ _ _ _ _;intro _))
  rintro v R ⟨b1,-,rfl,rfl⟩
  refine T_le (H':=[dat [b1] [rowsD (remV l cols z1).1],fz pa2,fz pa1,blk pc c.cells 23]) (Hle.refl _) ?_
  refine T_open fun pb1 hpb1=>?_
  repeat' (first|refine d1 ?_|refine dd ?_|(show T _ (.ops _ (_::_)::_) _ _ _;refine T_op (OpT.call rfl rfl rfl rfl rfl (fun w hw=>removeR21_spec l A l.length ca y cols z1 w (hgp.cls hw) (by omega) (hy.old hw)) ?_))|(show ∀ _:Nat,T _ _ _ _ _;intro _))
  rintro v R ⟨b2,-,rfl,rfl⟩
  refine T_le (H':=[dat [b2] [rowsD (remV l cols z1).1],fz pb1,fz pa2,fz pa1,blk pc c.cells 23]) (Hle.refl _) ?_
  refine T_open fun pb2 hpb2=>?_
  repeat' (first|refine d1 ?_|refine dd ?_|(show T _ (.ops _ (_::_)::_) _ _ _;refine T_op (OpT.call rfl rfl rfl rfl rfl (fun w hw=>refine21_spec c A l.length ca l y cols z2 w (hgp.cls hw) hq' hcap (hy.old hw)) ?_))|(show ∀ _:Nat,T _ _ _ _ _;intro _))
  rintro v R ⟨u1,-,rfl,rfl⟩
  refine T_le (H':=[dat [u1] [rowsD (refV c l cols z2).1],fz pb2,fz pb1,fz pa2,fz pa1,blk pc c.cells 23]) (Hle.refl _) ?_
  refine T_open fun pu1 hpu1=>?_
  repeat' (first|refine d1 ?_|refine dd ?_|(show T _ (.ops _ (_::_)::_) _ _ _;refine T_op (OpT.call rfl rfl rfl rfl rfl (fun w hw=>refineR21_spec c A l.length ca l y cols z2 w (hgp.cls hw) hq (by omega) (hy.old hw)) ?_))|(show ∀ _:Nat,T _ _ _ _ _;intro _))
  rintro v R ⟨⟨u2,pu2⟩,hT,rfl,rfl⟩
  refine T_le (H':=[fz pu2,fz pu1,fz pb2,fz pb1,fz pa2,fz pa1,blk pc c.cells 23]) (Hle.refl _) ?_
  repeat' (first|refine d1 ?_|refine dd ?_|(show T _ (.ops _ (_::_)::_) _ _ _;first|refine T_call rfl rfl rfl rfl rfl (fun w hw=>excess21_spec c A l.length ca l y cols w (hgp.cls hw) hq' (hy.old hw) (by omega)) ?_|refine T_callC rfl rfl rfl rfl rfl rfl rfl (fun hg w hw=>excess21_spec c A l.length ca l y cols w (hgp.cls hw) hq' (hy.old hw) (by omega)) ?_|refine T_call rfl rfl rfl rfl rfl (fun w hw=>excessR21_spec c A l.length ca l y cols w (hgp.cls hw) hq' (hy.old hw) (by omega)) ?_|refine T_callC rfl rfl rfl rfl rfl rfl rfl (fun hg w hw=>excessR21_spec c A l.length ca l y cols w (hgp.cls hw) hq' (hy.old hw) (by omega)) ?_|refine T_call rfl rfl rfl rfl rfl (fun w hw=>sameTable_spec a1 a2 _ _ w (hpa1.own hw) (hpa2.own hw)) ?_|refine T_callC rfl rfl rfl rfl rfl rfl rfl (fun hg w hw=>sameTable_spec a1 a2 _ _ w (hpa1.own hw) (hpa2.own hw)) ?_|refine T_call rfl rfl rfl rfl rfl (fun w hw=>sameTable_spec b1 b2 _ _ w (hpb1.own hw) (hpb2.own hw)) ?_|refine T_callC rfl rfl rfl rfl rfl rfl rfl (fun hg w hw=>sameTable_spec b1 b2 _ _ w (hpb1.own hw) (hpb2.own hw)) ?_|refine T_call rfl rfl rfl rfl rfl (fun w hw=>sameTable_spec u1 u2 _ _ w (hpu1.own hw) (hT.rd hy hw)) ?_|refine T_callC rfl rfl rfl rfl rfl rfl rfl (fun hg w hw=>sameTable_spec u1 u2 _ _ w (hpu1.own hw) (hT.rd hy hw)) ?_|refine T_call rfl rfl rfl rfl rfl (fun w hw=>awake21_spec w (hst.cls hw)) ?_|refine T_callC rfl rfl rfl rfl rfl rfl rfl (fun hg w hw=>awake21_spec w (hst.cls hw)) ?_)|(show T _ (.run _ _ (_::_) _ _::_) _ _ _;first|refine rc rfl rfl rfl rfl rfl rfl rfl (fun w hw=>excess21_spec c A l.length ca l y cols w (hgp.cls hw) hq' (hy.old hw) (by omega)) ?_|refine rcG rfl rfl rfl rfl rfl rfl rfl rfl rfl (fun hg w hw=>excess21_spec c A l.length ca l y cols w (hgp.cls hw) hq' (hy.old hw) (by omega)) ?_|refine rc rfl rfl rfl rfl rfl rfl rfl (fun w hw=>excessR21_spec c A l.length ca l y cols w (hgp.cls hw) hq' (hy.old hw) (by omega)) ?_|refine rcG rfl rfl rfl rfl rfl rfl rfl rfl rfl (fun hg w hw=>excessR21_spec c A l.length ca l y cols w (hgp.cls hw) hq' (hy.old hw) (by omega)) ?_|refine rc rfl rfl rfl rfl rfl rfl rfl (fun w hw=>sameTable_spec a1 a2 _ _ w (hpa1.own hw) (hpa2.own hw)) ?_|refine rcG rfl rfl rfl rfl rfl rfl rfl rfl rfl (fun hg w hw=>sameTable_spec a1 a2 _ _ w (hpa1.own hw) (hpa2.own hw)) ?_|refine rc rfl rfl rfl rfl rfl rfl rfl (fun w hw=>sameTable_spec b1 b2 _ _ w (hpb1.own hw) (hpb2.own hw)) ?_|refine rcG rfl rfl rfl rfl rfl rfl rfl rfl rfl (fun hg w hw=>sameTable_spec b1 b2 _ _ w (hpb1.own hw) (hpb2.own hw)) ?_|refine rc rfl rfl rfl rfl rfl rfl rfl (fun w hw=>sameTable_spec u1 u2 _ _ w (hpu1.own hw) (hT.rd hy hw)) ?_|refine rcG rfl rfl rfl rfl rfl rfl rfl rfl rfl (fun hg w hw=>sameTable_spec u1 u2 _ _ w (hpu1.own hw) (hT.rd hy hw)) ?_|refine rc rfl rfl rfl rfl rfl rfl rfl (fun w hw=>awake21_spec w (hst.cls hw)) ?_|refine rcG rfl rfl rfl rfl rfl rfl rfl rfl rfl (fun hg w hw=>awake21_spec w (hst.cls hw)) ?_)|(show ∀ _:Nat,T _ _ _ _ _;intro _)|(show T _ (.code .ret::_) _ _ _;refine T_retV [] rfl (Hle.none _) ⟨congrArg Value.bool ?_,rfl⟩))
  simp
theorem changes_met (os:Os) (args:Array Value):laidMetH Tryz.prog Rows.progressiveChangesRow.laid ((World.doorLaid Tryz.prog 400 os).forCall (fun _ _=>0) ⟨#[],args,[]⟩).memory :=
 io_met os args
theorem changes_lifted (os:Os) (started:os.Started) (H:Type) (enc:TypeId × Value→H) :
  ReturnsInHanded {} Tryz.checked os 3 .any (fun w args=>(Rows.progressiveChangesSpec.pre enc Tryz.prog Tryz.f3 [] false w args∧laidMetH Tryz.prog Rows.progressiveChangesRow.laid w)∧sizedMet enc Tryz.prog Tryz.f3 (OpenSpec.ofChange Rows.progressiveChangesSpec) false w args)
   (Rows.progressiveChangesSpec.post enc Tryz.prog Tryz.f3 false true false false):=by
 refine returnsInHanded_of_change_and (C:=Tryz.checked) (X:=fun w _=>laidMetH Tryz.prog Rows.progressiveChangesRow.laid w) (fun _ _ _ hh h=>h.of_heap hh) knob started (by as_aux_lemma=>kernel_rfl) Tryz.func3
  (ChangeSpec.witness_shaped (enc:=enc) (C:=Tryz.checked) (os:=os) (X:=fun w _=>laidMetH Tryz.prog Rows.progressiveChangesRow.laid w) false (World.doorLaid Tryz.prog 400 os) #[(⟨0,0,0,0⟩:Costs).val, .slice none 0 0, .slice none 0 0, .slice none 0 0, .int .i64 0, .int .i64 0] 8 rfl (World.shaped_of_RefB (by as_aux_lemma=>kernel_rfl) (by as_aux_lemma=>kernel_rfl)) (by as_aux_lemma=>kernel_rfl) (by as_aux_lemma=>kernel_rfl) (by as_aux_lemma=>kernel_rfl) (changes_met os _)) ?_
 intro W base args ds gs before hval0 hW _ _ hL _
 have hval:∀ (j:Nat) t v,Tryz.f3.params[j]?=some t→args[j]?=some v→Value.okWide Tryz.prog W .any base t v:=hval0
 have hstd:=std_of (show laidMetH Tryz.prog laids W from hL)
 have hW':=hW
 obtain⟨p,q,hA0,hV,rfl,hfz,hnd⟩:=hW
 have hA:DataW.TrodAll enc Tryz.prog W 0 (fun _=>true) true Tryz.f3.params.toList args.toList ds p:=hA0
 obtain⟨v0,vs0,d0,ds0,p0,q0,e0,rfl,rfl,h0,hA⟩:=trodAll_cons hA
 obtain⟨v1,vs1,d1,ds1,p1,q1,rfl,rfl,rfl,h1,hA⟩:=trodAll_cons hA
 obtain⟨v2,vs2,d2,ds2,p2,q2,rfl,rfl,rfl,h2,hA⟩:=trodAll_cons hA
 obtain⟨v3,vs3,d3,ds3,p3,q3,rfl,rfl,rfl,h3,hA⟩:=trodAll_cons hA
 obtain⟨v4,vs4,d4,ds4,p4,q4,rfl,rfl,rfl,h4,hA⟩:=trodAll_cons hA
 obtain⟨v5,vs5,d5,ds5,p5,q5,rfl,rfl,rfl,h5,hA⟩:=trodAll_cons hA
 obtain⟨rfl,rfl,rfl⟩:=trodAll_nil hA
 have ea:args = #[v0,v1,v2,v3,v4,v5]:=Array.ext' e0
 subst ea
 obtain⟨c,rfl⟩:=arg_costs (hval 0 _ v0 rfl rfl) h0
 obtain⟨l,hr_l⟩:=arg_toksL (hval 1 _ v1 rfl rfl) h1
 obtain⟨cols,hr_cols⟩:=arg_rows (hval 2 _ v2 rfl rfl) h2
 obtain⟨A_t,cap_t,t,rfl,hb_t,hs_t⟩:=arg_toks (hval 3 _ v3 rfl rfl) h3
 obtain⟨i,rfl,hb_i⟩:=arg_int (hval 4 _ v4 rfl rfl) h4
 obtain⟨z,rfl,hb_z⟩:=arg_int (hval 5 _ v5 rfl rfl) h5
 refine (changesLaw_spec c v1 l v2 cols ⟨A_t,t.length,cap_t,t⟩ i z W hstd hr_l hr_cols hs_t rfl hb_t).calls.mono ?_
 rintro e W' ⟨v,A,rfl,⟨rfl,_⟩,hb,_⟩
 exact⟨_,rfl,law_post hW' rfl rfl laidOk (by intro t ht;simp only [show Tryz.f3.params.toList=[23,24,25,26,3,3] from rfl,List.mem_cons,List.mem_nil_iff,or_false] at ht;rcases ht with rfl|rfl|rfl|rfl|rfl|rfl <;> exact⟨by as_aux_lemma=>kernel_rfl,of_decide_eq_true (by as_aux_lemma=>kernel_rfl)⟩) rfl Tryz.underlying4 hb⟩
theorem changes_j0:Tryz.prog.inPlace 3=Rows.progressiveChangesRow.inPlace:=by as_aux_lemma=>kernel_rfl
theorem changes_j1:Tryz.prog.unfollowed 3=Rows.progressiveChangesRow.unfollowed:=by as_aux_lemma=>kernel_rfl
theorem changes_j2:Tryz.prog.recurses 3=Rows.progressiveChangesRow.recurses:=by as_aux_lemma=>kernel_rfl
theorem changes_j3:Tryz.prog.varsNamed 3=Rows.progressiveChangesRow.named:=by as_aux_lemma=>kernel_rfl
theorem changes_joined:joinedFacts Tryz.prog 3 Tryz.f3 Rows.progressiveChangesSpec Rows.progressiveChangesRow=true:=by
 unfold joinedFacts
 rw [changes_j0,changes_j1,changes_j2,changes_j3,io_enter,io_lifts,io_make]
 kernel_rfl
theorem changes_holds:Rows.ProgressiveChangesSaid :=
 OpenClaim.holds_of_wide 3 Tryz.f3 rfl rfl rfl rfl rfl rfl rfl ⟨rfl,rfl,rfl,rfl,rfl⟩ rfl rfl rfl rfl rfl (by as_aux_lemma=>kernel_rfl) Tryz.func3 changes_joined
  (of_decide_eq_true (by as_aux_lemma=>kernel_rfl)) (by unfold Func.isWrapper;first|(rw [if_pos (by decide +kernel)];kernel_rfl)|(rw [if_neg (by decide +kernel)];exact⟨rfl,rfl⟩))
  (fun os started H enc _=>changes_lifted os started H enc)
theorem changes_card:Rows.ProgressiveChangesCardSaid :=
 Claim7.holds_tied_plain_at .later [] [.data, .data, .data, .sentinel, .sentinel] true (true, "a99cdf59d6efa606f87a5bb4c7fcc05d64041f068a1803fa1d9ac2571df2b43a") true
  changes_holds (fun _ h=>by cases h) (by as_aux_lemma=>kernel_rfl) (fun _ h=>by cases h) progressiveChanges_row_tie rfl ⟨rfl,rfl⟩ io_main rfl
  (fun f fn hf hfn=>by
   obtain rfl : f = 3 := Option.some.inj ((show Tryz.prog.funcNamed "apograph/apographlaw21.ProgressiveChanges" = some 3 by as_aux_lemma => kernel_rfl).symm.trans hf) |>.symm
   obtain rfl:fn=Tryz.f3:=(Option.some.inj (Tryz.func3.symm.trans hfn)).symm
   exact⟨by as_aux_lemma=>kernel_rfl,fun j t ht=>by
    have ht':[23,24,25,26,3,3][j]?=some t:=by rw [Tryz.params3] at ht;simpa using ht
    have hm:=List.mem_of_getElem? ht'
    simp only [List.mem_cons,List.mem_nil_iff,or_false] at hm
    rcases hm with rfl|rfl|rfl|rfl|rfl|rfl <;> exact (show Tryz.prog.wantsStandIn _=false by as_aux_lemma=>kernel_rfl)⟩)
  (by as_aux_lemma=>kernel_rfl)
#print axioms changes_card
end Go.Proofs.YtmenjpmikhajfaaGreatDoor
