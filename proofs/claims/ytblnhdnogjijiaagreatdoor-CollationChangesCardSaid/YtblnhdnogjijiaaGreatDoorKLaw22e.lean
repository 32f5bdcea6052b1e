/- The law CollationChanges holds for whatever collations and list: the tied card of its row. No condition beyond the row's own. -/
import Derived.Test.YtblnhdnogjijiaaGreatDoorV4
import Derived.Test.YtblnhdnogjijiaaGreatDoorCards
import Derived.Test.YtblnhdnogjijiaaGreatDoorTie
set_option linter.unusedSectionVars false
set_option linter.unusedVariables false
set_option linter.unusedSimpArgs false
namespace Go.Proofs.YtblnhdnogjijiaaGreatDoor
open Go.RowKit Go.Shelf Go.ChangeShapes Go.WideShapes Go.Proofs
set_option maxRecDepth 100000
set_option maxHeartbeats 2000000

theorem tks22_m {x:Co} {l:List TS} (hm:l.map TS.l=x.m) (ks:List Nat):(tks22 l ks).map TS.l=(pick22 x ks).m:=by
 unfold tks22 pick22
 rw [List.map_map, ← hm]
 refine List.map_congr_left fun k _=>?_
 show (l.getD k TS0).l=(l.map TS.l).getD k []
 rw [List.getD_eq_getElem?_getD,List.getD_eq_getElem?_getD,List.getElem?_map]
 cases l[k]? <;> rfl
theorem tks22_ok {w:World} {l:List TS} (h:TsOk w l) (ks:List Nat):TsOk w (tks22 l ks):=by
 have hm:∀ t∈tks22 l ks,t=TS0∨t∈l:=fun t ht=>by
  obtain⟨k,_,rfl⟩:=List.mem_map.1 ht
  rw [List.getD_eq_getElem?_getD]
  cases e:l[k]? with
  | none=>exact .inl rfl
  | some t=>exact .inr (List.mem_of_getElem? e)
 refine ⟨fun t ht=>?_,fun t ht=>?_,fun t ht=>?_⟩
 ·rcases hm t ht with rfl|h9
  ·exact⟨rfl,fun h=>absurd h (Nat.not_lt_zero _)⟩
  ·exact h.src t h9
 ·rcases hm t ht with rfl|h9
  ·rfl
  ·exact h.len t h9
 ·rcases hm t ht with rfl|h9
  ·exact Nat.zero_le _
  ·exact h.bd t h9
theorem tsok_nil {w:World}:TsOk w []:=⟨fun t h=>(by cases h),fun t h=>(by cases h),fun t h=>(by cases h)⟩
theorem keepT22_m {x:Co} {l:List TS} (hm:l.map TS.l=x.m) (z:List Int):(keepT22 x l z).map TS.l=(keepV22 x z).1.m:=by
 unfold keepT22
 by_cases h:(keepV22 x z).2≠0
 ·rw [if_pos h]
  revert h
  unfold keepV22
  split
  ·intro _;rfl
  split
  ·intro _;rfl
  split
  ·intro _;rfl
  ·intro h;exact absurd rfl h
 ·rw [if_neg h,tks22_m hm]
  revert h
  unfold keepV22
  split
  ·intro h;exact absurd (show (1:Int)≠0 by decide) h
  split
  ·intro h;exact absurd (show (5:Int)≠0 by decide) h
  split
  ·rename_i h9;intro h;exact absurd h9 h
  ·intro _;rfl
theorem keepT22_ok {x:Co} {l:List TS} {w:World} (h:TsOk w l) (z:List Int):TsOk w (keepT22 x l z):=by
 unfold keepT22
 split
 ·exact tsok_nil
 ·exact tks22_ok h _
theorem turnT22_m {x:Co} {l:List TS} (hm:l.map TS.l=x.m) (z:List Int):(turnT22 x l z).map TS.l=(turnV22 x z).1.m:=by
 unfold turnT22
 by_cases h:(turnV22 x z).2≠0
 ·rw [if_pos h]
  revert h
  unfold turnV22
  split
  ·intro _;rfl
  split
  ·intro _;rfl
  split
  ·intro _;rfl
  ·intro h;exact absurd rfl h
 ·rw [if_neg h,tks22_m hm]
  revert h
  unfold turnV22
  split
  ·intro h;exact absurd (show (1:Int)≠0 by decide) h
  split
  ·intro h;exact absurd (show (9:Int)≠0 by decide) h
  split
  ·rename_i h9;intro h;exact absurd h9 h
  ·intro _;rfl
theorem turnT22_ok {x:Co} {l:List TS} {w:World} (h:TsOk w l) (z:List Int):TsOk w (turnT22 x l z):=by
 unfold turnT22
 split
 ·exact tsok_nil
 ·exact tks22_ok h _
theorem changes22Law_spec (x y:Co) (z:List Int) (x1 x2 x3 y1 y2 y3 v2:Value) (w:World) (hst:Std w) (hx:CoRd w x1 x2 x3 x) (hy:CoRd w y1 y2 y3 y) (hz:Rd (wr w) [v2] [intsD z]) :
  Spec Tryz.prog 8 [.agg (coL x.sec x1 x2 x3).toArray, .agg (coL y.sec y1 y2 y3).toArray,v2] w (fun v R=>v = .bool true∧R=[]):=by
 obtain⟨A1,c1,l,A2,c2,rfl,rfl,h⟩:=co_arg hx
 obtain⟨B1,d1',k,B2,d2,rfl,rfl,g⟩:=co_arg hy
 obtain⟨Ak,ck,csk,rfl,-⟩:=h.cols.tabS
 obtain⟨Bk,dk,dsk,rfl,-⟩:=g.cols.tabS
 obtain⟨Al,cl,rfl,hl1,hl2,hl3⟩:=hz.row1
 have hzs:=rowSrc hl3
 refine spec_of sg Tryz.func8 rfl rfl rfl ?_
 refine T_op (OpT.box (cs:=coL x.sec (.slice A1 x.sg.length c1) (.slice A2 l.length c2) (.slice Ak x.cols.length ck)) rfl rfl rfl rfl rfl rfl rfl (fun px=>?_))
 refine T_op (OpT.box (cs:=coL y.sec (.slice B1 y.sg.length d1') (.slice B2 k.length d2) (.slice Bk y.cols.length dk)) rfl rfl rfl rfl rfl rfl rfl (fun py=>?_))
 repeat' (first|refine d1 ?_|(show T _ (.ops _ (_::_)::_) _ _ _;first|refine T_call rfl rfl rfl rfl rfl (fun w hw=>(h.cls hw).great) ?_|refine T_callC rfl rfl rfl rfl rfl rfl rfl (fun hg w hw=>(g.cls hw).great) ?_)|fail)
 refine T_if rfl (fun hg=>?_) (fun hg=>?_)
 ·repeat' (first|refine d1 ?_|(show T _ (.ops _ (_::_)::_) _ _ _;refine T_call rfl rfl rfl rfl rfl (fun w hw=>awake22_spec w (hst.cls hw)) ?_)|(show T _ (.code .ret::_) _ _ _;refine T_retV [] rfl (Hle.none _) ⟨rfl,rfl⟩))
 simp only [Bool.or_eq_false_iff,decide_eq_false_iff_not] at hg
 have hs:=great22_no hg.1.1
 have hs2:=great22_no hg.1.2
 have hz8:z.length≤8:=by omega
 have hat:=h.at hst hs
 have hcn:=hs.cols
 repeat' (first|refine d1 ?_|(show T _ (.ops _ (_::_)::_) _ _ _;refine T_op (OpT.call rfl rfl rfl rfl rfl (fun w hw=>keepP22_spec x A1 c1 l A2 c2 Ak ck z Al z.length cl w (hat.cls hw) (hzs.old hw) rfl (by omega) (by omega)) ?_))|fail)
 rintro v R ⟨⟨a1,a2,a3⟩,-,rfl,rfl⟩
 dsimp only
 refine T_open fun pa hpa=>?_
 obtain⟨Aa,ca,csa,rfl,-⟩:=hpa.cons_inv.2.cons_inv.2.tab
 refine T_le (H':=[fz pa,blk py (coL y.sec (.slice B1 y.sg.length d1') (.slice B2 k.length d2) (.slice Bk y.cols.length dk)) 32,blk px (coL x.sec (.slice A1 x.sg.length c1) (.slice A2 l.length c2) (.slice Ak x.cols.length ck)) 32]) (Hle.refl _) ?_
 have hma:=keepT22_m (x:=x) h.m z
 have hoa:∀ {w':World},TsOk w' l→TsOk w' (keepT22 x l z):=fun h=>keepT22_ok h z
 generalize keepT22 x l z=ta at hpa hma hoa ⊢
 generalize hK:keepV22 x z=K at hpa hma ⊢
 obtain⟨Kx,Ke⟩:=K
 dsimp only at hpa hma ⊢
 repeat' (first|refine d1 ?_|(show T _ (.ops _ (_::_)::_) _ _ _;refine T_op (OpT.call rfl rfl rfl rfl rfl (fun w hw=>keepR22_spec x A1 c1 l A2 c2 Ak ck z Al z.length cl w (hat.cls hw) (hzs.old hw) rfl (by omega) (by omega)) ?_))|(show ∀ _:Nat,T _ _ _ _ _;intro _))
 rintro v R ⟨⟨b1,b2,b3⟩,-,rfl,rfl⟩
 rw [hK]
 dsimp only
 refine T_open fun pb hpb=>?_
 obtain⟨Ab,cb,csb,rfl,-⟩:=hpb.cons_inv.2.cons_inv.2.tab
 rename_i ba
 refine T_le (H':=[fz pb,blk ba (coL Kx.sec (.slice a1.1 Kx.sg.length a1.2) (.slice a2.1 ta.length a2.2) (.slice Aa Kx.cols.length ca)) 32,fz pa,blk py (coL y.sec (.slice B1 y.sg.length d1') (.slice B2 k.length d2) (.slice Bk y.cols.length dk)) 32,blk px (coL x.sec (.slice A1 x.sg.length c1) (.slice A2 l.length c2) (.slice Ak x.cols.length ck)) 32]) (Hle.refl _) ?_
 obtain⟨lb,eb1,eb2,hsmb⟩:=ofR22 hpb
 repeat' (first|refine d1 ?_|(show T _ (.ops _ (_::_)::_) _ _ _;refine T_op (OpT.call rfl rfl rfl rfl rfl (fun w hw=>turnP22_spec x A1 c1 l A2 c2 Ak ck z Al z.length cl w (hat.cls hw) (hzs.old hw) rfl (by omega) hl1 (by omega)) ?_))|(show ∀ _:Nat,T _ _ _ _ _;intro _))
 rintro v R ⟨⟨e1,e2,e3⟩,-,rfl,rfl⟩
 have hmc:=turnT22_m (x:=x) h.m z
 have hoc:∀ {w':World},TsOk w' l→TsOk w' (turnT22 x l z):=fun h=>turnT22_ok h z
 generalize turnT22 x l z=tc at hmc hoc ⊢
 generalize hU:turnV22 x z=U at hmc ⊢
 obtain⟨Ux,Ue⟩:=U
 dsimp only at hmc ⊢
 refine T_open fun pc hpc=>?_
 obtain⟨Ac,cc,csc,rfl,-⟩:=hpc.cons_inv.2.cons_inv.2.tab
 rename_i bb
 refine T_le (H':=[fz pc,blk bb (coL Kx.sec (.slice b1.1 Kx.sg.length b1.2) (.slice b2.1 Kx.m.length b2.2) (.slice Ab Kx.cols.length cb)) 32,fz pb,blk ba (coL Kx.sec (.slice a1.1 Kx.sg.length a1.2) (.slice a2.1 ta.length a2.2) (.slice Aa Kx.cols.length ca)) 32,fz pa,blk py (coL y.sec (.slice B1 y.sg.length d1') (.slice B2 k.length d2) (.slice Bk y.cols.length dk)) 32,blk px (coL x.sec (.slice A1 x.sg.length c1) (.slice A2 l.length c2) (.slice Ak x.cols.length ck)) 32]) (Hle.refl _) ?_
 repeat' (first|refine d1 ?_|(show T _ (.ops _ (_::_)::_) _ _ _;refine T_op (OpT.call rfl rfl rfl rfl rfl (fun w hw=>turnR22_spec x A1 c1 l A2 c2 Ak ck z Al z.length cl w (hat.cls hw) (hzs.old hw) rfl (by omega) hl1 (by omega)) ?_))|(show ∀ _:Nat,T _ _ _ _ _;intro _))
 rintro v R ⟨⟨f1,f2,f3⟩,-,rfl,rfl⟩
 rw [hU]
 dsimp only
 refine T_open fun pd hpd=>?_
 obtain⟨Ad,cd,csd,rfl,-⟩:=hpd.cons_inv.2.cons_inv.2.tab
 rename_i bc
 refine T_le (H':=[fz pd,blk bc (coL Ux.sec (.slice e1.1 Ux.sg.length e1.2) (.slice e2.1 tc.length e2.2) (.slice Ac Ux.cols.length cc)) 32,fz pc,blk bb (coL Kx.sec (.slice b1.1 Kx.sg.length b1.2) (.slice b2.1 Kx.m.length b2.2) (.slice Ab Kx.cols.length cb)) 32,fz pb,blk ba (coL Kx.sec (.slice a1.1 Kx.sg.length a1.2) (.slice a2.1 ta.length a2.2) (.slice Aa Kx.cols.length ca)) 32,fz pa,blk py (coL y.sec (.slice B1 y.sg.length d1') (.slice B2 k.length d2) (.slice Bk y.cols.length dk)) 32,blk px (coL x.sec (.slice A1 x.sg.length c1) (.slice A2 l.length c2) (.slice Ak x.cols.length ck)) 32]) (Hle.refl _) ?_
 obtain⟨ld,ed1,ed2,hsmd⟩:=ofR22 hpd
 repeat' (first|refine d1 ?_|(show ∀ _:Nat,T _ _ _ _ _;intro _))
 have hS1:∀ {w':World} {H:List HA} [FocusZ H pa] [FocusZ H pb],Cls w w' H→Spec Tryz.prog 16 [.agg (coL Kx.sec (.slice a1.1 Kx.sg.length a1.2) (.slice a2.1 ta.length a2.2) (.slice Aa Kx.cols.length ca)).toArray, .agg (coL Kx.sec (.slice b1.1 Kx.sg.length b1.2) (.slice b2.1 Kx.m.length b2.2) (.slice Ab Kx.cols.length cb)).toArray] w' (fun v R=>v = .bool (same22 Kx Kx)∧R=[]):=fun hw=>by
  have h9:=sameR22_spec Kx Kx a1.1 b1.1 a1.2 b1.2 ta lb a2.1 b2.1 a2.2 b2.2 (.slice Aa Kx.cols.length ca) (.slice Ab Kx.cols.length cb) _ (ofP22 hpa hma hw (hoa (h.cls hw).ok)) (hsmb hw)
  rw [eb1] at h9;exact h9
 have hS2:∀ {w':World} {H:List HA} [FocusZ H pc] [FocusZ H pd],Cls w w' H→Spec Tryz.prog 16 [.agg (coL Ux.sec (.slice e1.1 Ux.sg.length e1.2) (.slice e2.1 tc.length e2.2) (.slice Ac Ux.cols.length cc)).toArray, .agg (coL Ux.sec (.slice f1.1 Ux.sg.length f1.2) (.slice f2.1 Ux.m.length f2.2) (.slice Ad Ux.cols.length cd)).toArray] w' (fun v R=>v = .bool (same22 Ux Ux)∧R=[]):=fun hw=>by
  have h9:=sameR22_spec Ux Ux e1.1 f1.1 e1.2 f1.2 tc ld e2.1 f2.1 e2.2 f2.2 (.slice Ac Ux.cols.length cc) (.slice Ad Ux.cols.length cd) _ (ofP22 hpc hmc hw (hoc (h.cls hw).ok)) (hsmd hw)
  rw [ed1] at h9;exact h9
 repeat' (first|refine dd ?_|(show T _ (.run _ _ (_::_) _ _::_) _ _ _;first|refine rg rfl rfl rfl (Val.eqB rfl) rfl rfl rfl rfl rfl ?_|refine rc rfl rfl rfl rfl rfl rfl rfl (fun w hw=>hS1 hw) ?_|refine rcG rfl rfl rfl rfl rfl rfl rfl rfl rfl (fun _ w hw=>hS2 hw) ?_|refine rcG rfl rfl rfl rfl rfl rfl rfl rfl rfl (fun _ w hw=>sameP22_spec x y A1 B1 c1 d1' l k A2 B2 c2 d2 (.slice Ak x.cols.length ck) (.slice Bk y.cols.length dk) w (h.cls hw).sm (g.cls hw).sm) ?_|refine rcG rfl rfl rfl rfl rfl rfl rfl rfl rfl (fun _ w hw=>sameR22_spec x y A1 B1 c1 d1' l k A2 B2 c2 d2 (.slice Ak x.cols.length ck) (.slice Bk y.cols.length dk) w (h.cls hw).sm (g.cls hw).sm) ?_|refine rcG rfl rfl rfl rfl rfl rfl rfl rfl rfl (fun _ w hw=>awake22_spec w (hst.cls hw)) ?_)|fail)
 repeat' (first|(show T _ (.code .ret::_) _ _ _;refine T_retV [] rfl (Hle.none _) ⟨by simp [resV,same22_refl],rfl⟩))
theorem changes22_met (os:Os) (args:Array Value):laidMetH Tryz.prog Rows.collationChangesRow.laid ((World.doorLaid Tryz.prog 400 os).forCall (fun _ _=>0) ⟨#[],args,[]⟩).memory :=
 io_met os args
theorem changes22_lifted (os:Os) (started:os.Started) (H:Type) (enc:TypeId × Value→H) :
  ReturnsInHanded {} Tryz.checked os 8 .any (fun w args=>(Rows.collationChangesSpec.pre enc Tryz.prog Tryz.f8 [] false w args∧laidMetH Tryz.prog Rows.collationChangesRow.laid w)∧sizedMet enc Tryz.prog Tryz.f8 (OpenSpec.ofChange Rows.collationChangesSpec) false w args)
   (Rows.collationChangesSpec.post enc Tryz.prog Tryz.f8 false true false false):=by
 refine returnsInHanded_of_change_and (C:=Tryz.checked) (X:=fun w _=>laidMetH Tryz.prog Rows.collationChangesRow.laid w) (fun _ _ _ hh h=>h.of_heap hh) knob started (by as_aux_lemma=>kernel_rfl) Tryz.func8
  (ChangeSpec.witness_shaped (enc:=enc) (C:=Tryz.checked) (os:=os) (X:=fun w _=>laidMetH Tryz.prog Rows.collationChangesRow.laid w) false (World.doorLaid Tryz.prog 400 os) #[(.agg #[.string .empty, .slice none 0 0, .slice none 0 0, .slice none 0 0]),(.agg #[.string .empty, .slice none 0 0, .slice none 0 0, .slice none 0 0]), .slice none 0 0] 8 rfl (World.shaped_of_RefB (by as_aux_lemma=>kernel_rfl) (by as_aux_lemma=>kernel_rfl)) (by as_aux_lemma=>kernel_rfl) (by as_aux_lemma=>kernel_rfl) (by as_aux_lemma=>kernel_rfl) (changes22_met os _)) ?_
 intro W base args ds gs before hval0 hW _ _ hL _
 have hval:∀ (j:Nat) t v,Tryz.f8.params[j]?=some t→args[j]?=some v→Value.okWide Tryz.prog W .any base t v:=hval0
 have hstd:=std_of (show laidMetH Tryz.prog laids W from hL)
 have hW':=hW
 obtain⟨p,q,hA0,hV,rfl,hfz,hnd⟩:=hW
 have hA:DataW.TrodAll enc Tryz.prog W 0 (fun _=>true) true Tryz.f8.params.toList args.toList ds p:=hA0
 obtain⟨v0,vs0,d0,ds0,p0,q0,e0,rfl,rfl,h0,hA⟩:=trodAll_cons hA
 obtain⟨v1,vs1,d1,ds1,p1,q1,rfl,rfl,rfl,h1,hA⟩:=trodAll_cons hA
 obtain⟨v2,vs2,d2,ds2,p2,q2,rfl,rfl,rfl,h2,hA⟩:=trodAll_cons hA
 obtain⟨rfl,rfl,rfl⟩:=trodAll_nil hA
 have ea:args = #[v0,v1,v2]:=Array.ext' e0
 subst ea
 obtain⟨x,y1_x,y2_x,y3_x,rfl,hr_x⟩:=arg_coll (hval 0 _ v0 rfl rfl) h0
 obtain⟨y,y1_y,y2_y,y3_y,rfl,hr_y⟩:=arg_coll (hval 1 _ v1 rfl rfl) h1
 obtain⟨z,hr_z⟩:=arg_ints (hval 2 _ v2 rfl rfl) h2
 refine (changes22Law_spec x y z y1_x y2_x y3_x y1_y y2_y y3_y v2 W hstd hr_x hr_y hr_z).calls.mono ?_
 rintro e W' ⟨v,A,rfl,⟨rfl,_⟩,hb,_⟩
 exact⟨_,rfl,law_post hW' rfl rfl laidOk (by intro t ht;simp only [show Tryz.f8.params.toList=[32,32,47] from rfl,List.mem_cons,List.mem_nil_iff,or_false] at ht;rcases ht with rfl|rfl|rfl <;> exact⟨by as_aux_lemma=>kernel_rfl,of_decide_eq_true (by as_aux_lemma=>kernel_rfl)⟩) rfl Tryz.underlying4 hb⟩
theorem changes22_j0:Tryz.prog.inPlace 8=Rows.collationChangesRow.inPlace:=by as_aux_lemma=>kernel_rfl
theorem changes22_j1:Tryz.prog.unfollowed 8=Rows.collationChangesRow.unfollowed:=by as_aux_lemma=>kernel_rfl
theorem changes22_j2:Tryz.prog.recurses 8=Rows.collationChangesRow.recurses:=by as_aux_lemma=>kernel_rfl
theorem changes22_j3:Tryz.prog.varsNamed 8=Rows.collationChangesRow.named:=by as_aux_lemma=>kernel_rfl
theorem changes22_joined:joinedFacts Tryz.prog 8 Tryz.f8 Rows.collationChangesSpec Rows.collationChangesRow=true:=by
 unfold joinedFacts
 rw [changes22_j0,changes22_j1,changes22_j2,changes22_j3,io_enter,io_lifts,io_make]
 kernel_rfl
theorem changes22_holds:Rows.CollationChangesSaid :=
 OpenClaim.holds_of_wide 8 Tryz.f8 rfl rfl rfl rfl rfl rfl rfl ⟨rfl,rfl,rfl,rfl,rfl⟩ rfl rfl rfl rfl rfl (by as_aux_lemma=>kernel_rfl) Tryz.func8 changes22_joined
  (of_decide_eq_true (by as_aux_lemma=>kernel_rfl)) (by unfold Func.isWrapper;first|(rw [if_pos (by decide +kernel)];kernel_rfl)|(rw [if_neg (by decide +kernel)];exact⟨rfl,rfl⟩))
  (fun os started H enc _=>changes22_lifted os started H enc)
theorem changes22_card:Rows.CollationChangesCardSaid :=
 Claim7.holds_tied_plain_at .later [] [.data, .data, .data, .sentinel, .sentinel] true (true, "a33e9cbe7952f7f382826246a114ee55385dea5ab4652de37f5d8544d92e8eb8") true
  changes22_holds (fun _ h=>by cases h) (by as_aux_lemma=>kernel_rfl) (fun _ h=>by cases h) collationChanges_row_tie rfl ⟨rfl,rfl⟩ io_main rfl
  (fun f fn hf hfn=>by
   obtain rfl : f = 8 := Option.some.inj ((show Tryz.prog.funcNamed "apograph/apographlaw22.CollationChanges" = some 8 by as_aux_lemma => kernel_rfl).symm.trans hf) |>.symm
   obtain rfl:fn=Tryz.f8:=(Option.some.inj (Tryz.func8.symm.trans hfn)).symm
   exact⟨by as_aux_lemma=>kernel_rfl,fun j t ht=>by
    have ht':[32,32,47][j]?=some t:=by rw [Tryz.params8] at ht;simpa using ht
    have hm:=List.mem_of_getElem? ht'
    simp only [List.mem_cons,List.mem_nil_iff,or_false] at hm
    rcases hm with rfl|rfl|rfl <;> exact (show Tryz.prog.wantsStandIn _=false by as_aux_lemma=>kernel_rfl)⟩)
  (by as_aux_lemma=>kernel_rfl)
#print axioms changes22_card
end Go.Proofs.YtblnhdnogjijiaaGreatDoor
