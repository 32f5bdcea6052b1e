/- The law CollationKeeps holds for whatever collation and bits: the tied card of its row. No condition beyond the row's own. -/
import Derived.Test.YtefieebkankfoaaGreatDoorV5
import Derived.Test.YtefieebkankfoaaGreatDoorCards
import Derived.Test.YtefieebkankfoaaGreatDoorTie
set_option linter.unusedSectionVars false
set_option linter.unusedVariables false
set_option linter.unusedSimpArgs false
namespace Go.Proofs.YtefieebkankfoaaGreatDoor
open Go.RowKit Go.Shelf Go.ChangeShapes Go.WideShapes Go.Proofs
set_option maxRecDepth 100000
set_option maxHeartbeats 2000000

theorem keepOk22E_spec (x y:Co) (A1:Option Addr) (c1:Nat) (l:List TS) (A2:Option Addr) (c2:Nat) (Ak:Option Addr) (ck:Nat) (ks:List Nat) (Al:Option Addr) (n cl:Nat) (w:World) (hx:CoAt w x A1 c1 l A2 c2 (.slice Ak x.cols.length ck))
  (hz:Src w 1 Al n ((intN ks).map (Value.int .i64))) (hn:ks.length=n) (hkn:n≤1000) (hcn:x.cols.length≤1000) (hy:keepV22 x (intN ks)=(y,0)) :
  Spec Tryz.prog 9 [.agg (coL x.sec (.slice A1 x.sg.length c1) (.slice A2 l.length c2) (.slice Ak x.cols.length ck)).toArray, .slice Al n cl] w (fun v R=>∃ q:(Option Addr × Nat) × (Option Addr × Nat) × Value,True∧v = .tuple #[.agg (coL y.sec (.slice q.1.1 y.sg.length q.1.2) (.slice q.2.1.1 (tks22 l ks).length q.2.1.2) q.2.2).toArray, .int .i64 0]∧R=[dat [.slice q.1.1 y.sg.length q.1.2, .slice q.2.1.1 (tks22 l ks).length q.2.1.2,q.2.2] [strsD y.sg, .s 1 (((tks22 l ks).map TS.val).map .v),rowsD y.cols]]):=keepOk22_spec x y A1 c1 l A2 c2 Ak ck ks Al n cl w hx hz hn hkn hcn hy
theorem keeps22Law_spec (x:Co) (x1 x2 x3:Value) (one two:Int) (h1z:0≤one∧one≤255) (h2z:0≤two∧two≤255) (w:World) (hst:Std w) (hx:CoRd w x1 x2 x3 x) :
  Spec Tryz.prog 3 [.agg (coL x.sec x1 x2 x3).toArray, .int .u8 one, .int .u8 two] w (fun v R=>v = .bool true∧R=[]):=by
 obtain⟨A1,c1,l,A2,c2,rfl,rfl,h⟩:=co_arg hx
 obtain⟨Ak,ck,csk,rfl,-⟩:=h.cols.tabS
 refine spec_of sg Tryz.func3 rfl rfl rfl ?_
 refine T_op (OpT.box (cs:=coL x.sec (.slice A1 x.sg.length c1) (.slice A2 l.length c2) (.slice Ak x.cols.length ck)) rfl rfl rfl rfl rfl rfl rfl (fun px=>?_))
 repeat' (first|refine d1 ?_|(show T _ (.ops _ (_::_)::_) _ _ _;refine T_call rfl rfl rfl rfl rfl (fun w hw=>fine22_spec x A1 c1 l A2 c2 (.slice Ak x.cols.length ck) w (hst.cls hw) (h.cls hw)) ?_)|fail)
 refine T_if rfl (fun hg=>?_) (fun hg=>?_)
 ·repeat' (first|refine d1 ?_|(show T _ (.ops _ (_::_)::_) _ _ _;refine T_call rfl rfl rfl rfl rfl (fun w hw=>awake22_spec w (hst.cls hw)) ?_)|(show T _ (.code .ret::_) _ _ _;refine T_retV [] rfl (Hle.none _) ⟨rfl,rfl⟩))
 obtain⟨hs,hok,-⟩:=fine22_iff.1 (by simpa using hg)
 have hat:=h.at hst hs
 obtain⟨hr1,hr2,hr3⟩:=hat.row hok
 have hcn:=hs.cols
 obtain⟨k1,k2,k3,k4⟩:=keeps22 hok one two
 have hlk:=chs22_le one x.sg.length
 have hpk:=chs22_pos (z:=one) hr3
 have hlm:=chs22_le two (chs22 one x.sg.length).length
 have hyok:=pick22_ok hok hpk (asc_nodup22 (chs22_asc one _)) chs22_lt
 have hys:=small22_pick hs hok (asc_nodup22 (chs22_asc one _)) chs22_lt
 have hklt:∀ k∈chs22 one x.sg.length,k<x.sg.length:=chs22_lt
 have hmlt:∀ k∈chs22 two (chs22 one x.sg.length).length,k<(chs22 one x.sg.length).length:=chs22_lt
 have hbe:both22 one two x.sg.length=(chs22 two (chs22 one x.sg.length).length).map fun j=>(chs22 one x.sg.length).getD j 0:=rfl
 generalize hks:chs22 one x.sg.length=ks at *
 generalize hms:chs22 two ks.length=ms at *
 generalize hbs:both22 one two x.sg.length=bs at *
 repeat' (first|refine d1 ?_|(show T _ (.ops _ (_::_)::_) _ _ _;refine T_callE rfl rfl rfl rfl rfl (fun w hw=>chosen22_spec x.sg.length one h1z (by omega) w) (fun q1 _=>?_))|fail)
 rw [hks]
 refine T_le rowInt22 ?_
 refine T_open fun p1 hp1=>?_
 repeat' (first|refine d1 ?_|(show T _ (.ops _ (_::_)::_) _ _ _;refine T_callE rfl rfl rfl rfl rfl (fun w hw=>chosen22_spec ks.length two h2z (by omega) w) (fun q2 _=>?_))|fail)
 rw [hms]
 refine T_le rowInt22 ?_
 refine T_open fun p2 hp2=>?_
 refine T_le (H':=[fz p2,fz p1,blk px (coL x.sec (.slice A1 x.sg.length c1) (.slice A2 l.length c2) (.slice Ak x.cols.length ck)) 26]) (Hle.refl _) ?_
 obtain⟨Aq,cq,e1,-,-,hq1⟩:=hp1.row1
 obtain⟨Ar,cr,e2,-,-,hq2⟩:=hp2.row1
 have hnl:(intN ks).length=ks.length:=List.length_map ..
 have hml:(intN ms).length=ms.length:=List.length_map ..
 rw [hnl] at e1 hq1
 rw [hml] at e2 hq2
 cases e1
 cases e2
 refine T_nilrow 3 1 ?_
 refine T_loopX (fun s:Nat × Option Addr × Nat=>[(41, .int .i64 (s.1:Nat)),(9, .slice s.2.1 s.1 s.2.2)]) (fun s=>[row 3 1 s.2.1 s.2.2 s.1 ((intN (bs.take s.1)).map (Value.int .i64)),fz p2,fz p1,blk px (coL x.sec (.slice A1 x.sg.length c1) (.slice A2 l.length c2) (.slice Ak x.cols.length ck)) 26]) (fun s=>s.1≤ms.length) (fun s=>ms.length - s.1) (0,none,0) (Nat.zero_le _) ?_
 rintro⟨j,A',c'⟩ hj
 dsimp only at hj ⊢
 repeat' (first|refine d1 ?_|fail)
 refine T_if rfl (fun h5=>?_) (fun h5=>?_)
 ·simp only [decide_eq_true_eq] at h5
  obtain⟨u,hu⟩:∃ u,ms[j]?=some u:=⟨_,List.getElem?_eq_getElem (by omega)⟩
  have hul:=hmlt u (List.mem_of_getElem? hu)
  obtain⟨v,hv⟩:∃ v,ks[u]?=some v:=⟨_,List.getElem?_eq_getElem hul⟩
  obtain⟨bq,oq,eq1,hq1r⟩:=hq1 (by omega)
  obtain⟨br,or1,er1,hq2r⟩:=hq2 (by omega)
  have f1:=hq1r u (v:Int) (by unfold intN;rw [List.getElem?_map,hv];rfl)
  have f2:=hq2r j (u:Int) (by unfold intN;rw [List.getElem?_map,hu];rfl)
  have hbt:bs.take (j+1)=bs.take j++[v]:=by
   refine take_snoc _ _ _ ?_
   rw [hbe,List.getElem?_map,hu]
   show some (ks.getD u 0)=_
   rw [List.getD_eq_getElem?_getD,hv];rfl
  rw [eq1,er1]
  repeat' (first|refine d1 ?_|(show T _ (.ops _ (_::_)::_) _ _ _;first|refine T_val rfl (Val.load rfl (fun hg=>rdFz (p:=p2) (u := .int .i64 (u:Int)) (b:=br) (by rw [off1];exact f2))) rfl rfl rfl ?_|refine T_val rfl (Val.load rfl (fun hg=>rdFz (p:=p1) (u := .int .i64 (v:Int)) (b:=bq) (by rw [off1];exact f1))) rfl rfl rfl ?_|refine T_op (OpT.append (A:=A') rfl rfl rfl rfl rfl rfl rfl rfl rfl rfl (fun w hw=>Src.own hw rfl) rfl (by dsimp only;omega) (by omega) (fun A9 c9 hA9=>?_)))|(show ∀ _:Nat,T _ _ _ _ _;intro _))
  refine T_backX (j+1,A9,c9) (by dsimp only;omega) (by dsimp only;omega) (hG:=?_)
  dsimp only
  rw [hbt,intN_snoc]
  exact Hle.tail _ _
 simp only [decide_eq_false_iff_not] at h5
 obtain rfl:j=ms.length:=by omega
 have hbl:bs.length=ms.length:=by rw [hbe,List.length_map]
 rw [show bs.take ms.length=bs by rw [← hbl];exact List.take_length]
 refine T_le rowInt22 ?_
 refine T_open fun p3 hp3=>?_
 refine T_le (H':=[fz p3,fz p2,fz p1,blk px (coL x.sec (.slice A1 x.sg.length c1) (.slice A2 l.length c2) (.slice Ak x.cols.length ck)) 26]) (Hle.refl _) ?_
 repeat' (first|refine d1 ?_|(show T _ (.ops _ (_::_)::_) _ _ _;refine T_op (OpT.call rfl rfl rfl rfl rfl (fun w hw=>keepOk22_spec x (pick22 x ks) A1 c1 l A2 c2 Ak ck ks q1.1 ks.length q1.2 w (hat.cls hw) (hp1.own hw).intsAt rfl (by omega) (by omega) k1) ?_))|fail)
 rintro v R ⟨⟨a1,a2,a3⟩,-,rfl,rfl⟩
 dsimp only
 refine T_open fun pa hpa=>?_
 obtain⟨Aa,ca,csa,rfl,-⟩:=hpa.cons_inv.2.cons_inv.2.tab
 refine T_le (H':=[fz pa,fz p3,fz p2,fz p1,blk px (coL x.sec (.slice A1 x.sg.length c1) (.slice A2 l.length c2) (.slice Ak x.cols.length ck)) 26]) (Hle.refl _) ?_
 have hyA:∀ {w':World} {H:List HA} [FocusZ H pa],Cls w w' H→CoAt w' (pick22 x ks) a1.1 a1.2 (tks22 l ks) a2.1 a2.2 (.slice Aa (pick22 x ks).cols.length ca):=fun hw=>keptAt22 hpa (tks22_m h.m ks) hys hw hst (h.cls hw).ok
 have hyc:=hys.cols
 repeat' (first|refine d1 ?_|(show T _ (.ops _ (_::_)::_) _ _ _;refine T_op (OpT.call rfl rfl rfl rfl rfl (fun w hw=>keepOk22_spec (pick22 x ks) (pick22 x bs) a1.1 a1.2 (tks22 l ks) a2.1 a2.2 Aa ca ms q2.1 ms.length q2.2 w (hyA hw) (hp2.own hw).intsAt rfl (by omega) (by omega) k2) ?_))|(show ∀ _:Nat,T _ _ _ _ _;intro _))
 rintro v R ⟨⟨b1,b2,b3⟩,-,rfl,rfl⟩
 dsimp only
 refine T_open fun pb hpb=>?_
 obtain⟨Ab,cb,csb,rfl,-⟩:=hpb.cons_inv.2.cons_inv.2.tab
 rename_i by1
 refine T_le (H':=[fz pb,blk by1 (coL (pick22 x ks).sec (.slice a1.1 (pick22 x ks).sg.length a1.2) (.slice a2.1 (tks22 l ks).length a2.2) (.slice Aa (pick22 x ks).cols.length ca)) 26,fz pa,fz p3,fz p2,fz p1,blk px (coL x.sec (.slice A1 x.sg.length c1) (.slice A2 l.length c2) (.slice Ak x.cols.length ck)) 26]) (Hle.refl _) ?_
 repeat' (first|refine d1 ?_|(show T _ (.ops _ (_::_)::_) _ _ _;refine T_op (OpT.call rfl rfl rfl rfl rfl (fun w hw=>keepOk22_spec x (pick22 x bs) A1 c1 l A2 c2 Ak ck bs A' ms.length c' w (hat.cls hw) (hp3.own hw).intsAt hbl (by omega) (by omega) k3) ?_))|(show ∀ _:Nat,T _ _ _ _ _;intro _))
 rintro v R ⟨⟨e1,e2,e3⟩,-,rfl,rfl⟩
 dsimp only
 refine T_open fun pc hpc=>?_
 obtain⟨Ac,cc,csc,rfl,-⟩:=hpc.cons_inv.2.cons_inv.2.tab
 rename_i bz
 refine T_le (H':=[fz pc,blk bz (coL (pick22 x bs).sec (.slice b1.1 (pick22 x bs).sg.length b1.2) (.slice b2.1 (tks22 (tks22 l ks) ms).length b2.2) (.slice Ab (pick22 x bs).cols.length cb)) 26,fz pb,blk by1 (coL (pick22 x ks).sec (.slice a1.1 (pick22 x ks).sg.length a1.2) (.slice a2.1 (tks22 l ks).length a2.2) (.slice Aa (pick22 x ks).cols.length ca)) 26,fz pa,fz p3,fz p2,fz p1,blk px (coL x.sec (.slice A1 x.sg.length c1) (.slice A2 l.length c2) (.slice Ak x.cols.length ck)) 26]) (Hle.refl _) ?_
 repeat' (first|refine d1 ?_|(show ∀ _:Nat,T _ _ _ _ _;intro _))
 rename_i bw
 refine T_le (H':=[blk bw (coL (pick22 x bs).sec (.slice e1.1 (pick22 x bs).sg.length e1.2) (.slice e2.1 (tks22 l bs).length e2.2) (.slice Ac (pick22 x bs).cols.length cc)) 26,fz pc,blk bz (coL (pick22 x bs).sec (.slice b1.1 (pick22 x bs).sg.length b1.2) (.slice b2.1 (tks22 (tks22 l ks) ms).length b2.2) (.slice Ab (pick22 x bs).cols.length cb)) 26,fz pb,blk by1 (coL (pick22 x ks).sec (.slice a1.1 (pick22 x ks).sg.length a1.2) (.slice a2.1 (tks22 l ks).length a2.2) (.slice Aa (pick22 x ks).cols.length ca)) 26,fz pa,fz p3,fz p2,fz p1,blk px (coL x.sec (.slice A1 x.sg.length c1) (.slice A2 l.length c2) (.slice Ak x.cols.length ck)) 26]) (Hle.refl _) ?_
 have hl255:(chs22 255 x.sg.length).length=x.sg.length:=by rw [chs22_all,List.length_range]
 refine T_cutX 1 [18,19] (fun s:(Option Addr × Nat) × (Option Addr × Nat) × (Option Addr × Nat) × Frag × Nat=>[(18, .pointer (some ⟨s.2.2.2.2,0,none⟩)),(19, .int .i64 0)]) (fun s=>[blk s.2.2.2.2 (coL x.sec (.slice s.1.1 x.sg.length s.1.2) (.slice s.2.1.1 (tks22 l (chs22 255 x.sg.length)).length s.2.1.2) (.slice s.2.2.1.1 x.cols.length s.2.2.1.2)) 26,fz s.2.2.2.1,blk bw (coL (pick22 x bs).sec (.slice e1.1 (pick22 x bs).sg.length e1.2) (.slice e2.1 (tks22 l bs).length e2.2) (.slice Ac (pick22 x bs).cols.length cc)) 26,fz pc,blk bz (coL (pick22 x bs).sec (.slice b1.1 (pick22 x bs).sg.length b1.2) (.slice b2.1 (tks22 (tks22 l ks) ms).length b2.2) (.slice Ab (pick22 x bs).cols.length cb)) 26,fz pb,blk by1 (coL (pick22 x ks).sec (.slice a1.1 (pick22 x ks).sg.length a1.2) (.slice a2.1 (tks22 l ks).length a2.2) (.slice Aa (pick22 x ks).cols.length ca)) 26,fz pa,fz p3,fz p2,fz p1,blk px (coL x.sec (.slice A1 x.sg.length c1) (.slice A2 l.length c2) (.slice Ak x.cols.length ck)) 26]) (fun s=>Rd (fr s.2.2.2.1) [.slice s.1.1 x.sg.length s.1.2, .slice s.2.1.1 (tks22 l (chs22 255 x.sg.length)).length s.2.1.2, .slice s.2.2.1.1 x.cols.length s.2.2.1.2] [strsD x.sg, .s 1 (((tks22 l (chs22 255 x.sg.length)).map TS.val).map .v),rowsD x.cols]) ?_ ?_
 ·refine dw0 1000 [blk px (coL x.sec (.slice A1 x.sg.length c1) (.slice A2 l.length c2) (.slice Ak x.cols.length ck)) 26] ?_
  repeat' (first|(show T _ (.draw _ _ _ _ _::_) _ _ _;first|refine dw1 ?_|refine dwb rfl (by decide +kernel) ?_)|(show AllL _ [];exact True.intro)|(show AllL _ (_::_);refine ⟨?_,?_⟩)|(show OpT _ _ _ _ _ _ _;first|refine dwx ?_|refine OpT.callE1 rfl rfl rfl rfl rfl (fun w hw=>chosen22_spec x.sg.length 255 (by decide) (by omega) w) (fun q4 _=>⟨fun _=>(by first|exact Hle.none _|exact Hle.sub|exact absurd ‹_› (by decide +kernel)),?_⟩)|(refine OpT.callE1 rfl rfl rfl rfl rfl (fun w hw=>keepOk22E_spec x x A1 c1 l A2 c2 Ak ck (chs22 255 x.sg.length) _ _ _ w (hat.cls hw) (srcRow22 hw) rfl (by omega) (by omega) k4) (fun y4 _=>?_);obtain⟨f1,f2,f3⟩:=y4;refine ⟨fun _=>(by first|exact Hle.none _|exact Hle.sub|exact absurd ‹_› (by decide +kernel)),?_⟩;refine T_open fun pd hpd=>?_;dsimp only at hpd;obtain⟨Ad,cd,csd,rfl,-⟩:=hpd.cons_inv.2.cons_inv.2.tab))|(show ∀ _:Nat,T _ _ _ _ _;intro _)|(show T _ (.mark _::_) _ _ _;exact T_meetX ((_,_),(_,_),(_,_),_,_) ‹_› (hG:=by exact Hle.srt)))
 rintro⟨f1,f2,⟨Ad,cd⟩,pd,bx⟩ hpd
 dsimp only at hpd ⊢
 have e9:pick22 (pick22 x ks) ms=pick22 x bs:=by rw [pick22_pick hmlt,hbe]
 have hmz:(tks22 (tks22 l ks) ms).map TS.l=(pick22 x bs).m:=by rw [← e9];exact tks22_m (tks22_m h.m ks) ms
 have hmx:(tks22 l (chs22 255 x.sg.length)).map TS.l=x.m:=by rw [tks22_m h.m,chs22_all,pick22_all hok]
 repeat' (first|refine d1 ?_|(show T _ (.ops _ (_::_)::_) _ _ _;first|refine T_callC rfl rfl rfl rfl rfl rfl rfl (fun hg w hw=>sameR22_spec (pick22 x bs) (pick22 x bs) b1.1 e1.1 b1.2 e1.2 (tks22 (tks22 l ks) ms) (tks22 l bs) b2.1 e2.1 b2.2 e2.2 (.slice Ab (pick22 x bs).cols.length cb) (.slice Ac (pick22 x bs).cols.length cc) w (ofP22 hpb hmz hw (tks22_ok (tks22_ok (h.cls hw).ok ks) ms)) (ofP22 hpc (tks22_m h.m bs) hw (tks22_ok (h.cls hw).ok bs))) ?_|refine T_callC rfl rfl rfl rfl rfl rfl rfl (fun hg w hw=>sameR22_spec x x f1.1 A1 f1.2 c1 (tks22 l (chs22 255 x.sg.length)) l f2.1 A2 f2.2 c2 (.slice Ad x.cols.length cd) (.slice Ak x.cols.length ck) w (ofP22 hpd hmx hw (tks22_ok (h.cls hw).ok _)) (h.cls hw).sm) ?_)|fail)
 rw [same22_refl,same22_refl]
 have hyl:(pick22 x ks).sg.length=ks.length:=pick22_len x ks
 refine T_if rfl (fun h9=>by exfalso;simp [hyl] at h9) (fun _=>?_)
 repeat' (first|refine d1 ?_|fail)
 obtain⟨As,cs,es,-,-,hsr⟩:=hpa.cons_inv.1.rowS
 injection es with es1 es2 es3
 rw [← es1,hyl] at hsr
 obtain⟨b1',o1',rfl⟩:=h.s1.base (by omega)
 refine T_loopX (fun k:Nat=>[(108, .int .i64 (k:Nat))]) (fun _=>[blk by1 (coL (pick22 x ks).sec (.slice a1.1 (pick22 x ks).sg.length a1.2) (.slice a2.1 (tks22 l ks).length a2.2) (.slice Aa (pick22 x ks).cols.length ca)) 26,fz pa,fz p1,blk px (coL x.sec (.slice (some ⟨b1',o1',none⟩) x.sg.length c1) (.slice A2 l.length c2) (.slice Ak x.cols.length ck)) 26]) (fun k=>k≤ks.length) (fun k=>ks.length - k) 0 (Nat.zero_le _) ?_ (hG:=by exact Hle.srt)
 rintro k hk
 repeat' (first|refine d1 ?_|fail)
 refine T_if rfl (fun h5=>?_) (fun h5=>?_)
 ·simp only [decide_eq_true_eq] at h5
  obtain⟨v,hv⟩:∃ v,ks[k]?=some v:=⟨_,List.getElem?_eq_getElem (by omega)⟩
  have hvl:=hklt v (List.mem_of_getElem? hv)
  obtain⟨bq,oq,eq1,hq1r⟩:=hq1 (by omega)
  have g1':=hq1r k (v:Int) (by unfold intN;rw [List.getElem?_map,hv];rfl)
  obtain⟨bs',os',es9,hsr9⟩:=hsr (by omega)
  obtain⟨g,hg9⟩:∃ g,x.sg[v]?=some g:=⟨_,List.getElem?_eq_getElem hvl⟩
  have hsy:=hsr9 k g (by show (ks.map fun k=>x.sg.getD k ByteArray.empty)[k]?=_;rw [List.getElem?_map,hv];show some (x.sg.getD v _)=_;rw [List.getD_eq_getElem?_getD,hg9];rfl)
  have hsx:=src_str h.s1 hvl hg9
  have hwe:words22 (pick22 x ks) k=words22 x v:=by
   unfold words22
   show ((ks.map fun k=>x.m.getD k []).getD k []).map Tok.text=_
   rw [List.getD_eq_getElem?_getD,List.getElem?_map,hv];rfl
  rw [eq1,es9]
  repeat' (first|refine d1 ?_|(show T _ (.ops _ (_::_)::_) _ _ _;first|refine T_val rfl (Val.load rfl (fun hg=>rdFz (p:=p1) (u := .int .i64 (v:Int)) (b:=bq) (by rw [off1];exact g1'))) rfl rfl rfl ?_|refine T_op (OpT.call rfl rfl rfl rfl rfl (fun w hw=>textP22_spec x (some ⟨b1',o1',none⟩) c1 l A2 c2 (.slice Ak x.cols.length ck) (v:Int) w (hat.cls hw)) ?_))|fail)
  rintro u R ⟨t1,-,rfl,rfl⟩
  rw [textV22_val hok hvl]
  refine T_open fun r1 hr1=>?_
  refine T_le (H':=[fz r1,blk by1 (coL (pick22 x ks).sec (.slice (some ⟨bs',os',none⟩) (pick22 x ks).sg.length a1.2) (.slice a2.1 (tks22 l ks).length a2.2) (.slice Aa (pick22 x ks).cols.length ca)) 26,fz pa,fz p1,blk px (coL x.sec (.slice (some ⟨b1',o1',none⟩) x.sg.length c1) (.slice A2 l.length c2) (.slice Ak x.cols.length ck)) 26]) (Hle.refl _) ?_
  rw [es9] at hyA
  repeat' (first|refine d1 ?_|(show T _ (.ops _ (_::_)::_) _ _ _;refine T_op (OpT.call rfl rfl rfl rfl rfl (fun w hw=>textP22_spec (pick22 x ks) (some ⟨bs',os',none⟩) a1.2 (tks22 l ks) a2.1 a2.2 (.slice Aa (pick22 x ks).cols.length ca) (k:Int) w (hyA hw)) ?_))|fail)
  rintro u R ⟨t2,-,rfl,rfl⟩
  rw [textV22_val hyok (by rw [hyl];omega),hwe]
  refine T_open fun r2 hr2=>?_
  refine T_le (H':=[fz r2,fz r1,blk by1 (coL (pick22 x ks).sec (.slice (some ⟨bs',os',none⟩) (pick22 x ks).sg.length a1.2) (.slice a2.1 (tks22 l ks).length a2.2) (.slice Aa (pick22 x ks).cols.length ca)) 26,fz pa,fz p1,blk px (coL x.sec (.slice (some ⟨b1',o1',none⟩) x.sg.length c1) (.slice A2 l.length c2) (.slice Ak x.cols.length ck)) 26]) (Hle.refl _) ?_
  repeat' (first|refine d1 ?_|refine dd ?_|(show T _ (.run _ _ (_::_) _ _::_) _ _ _;first|refine rcG rfl rfl rfl rfl rfl rfl rfl rfl rfl (fun _ w hw=>equalStr_spec t1 t2 (words22 x v) (words22 x v) w (hr1.own hw) (hr2.own hw)) ?_|refine rg rfl rfl rfl (Val.load rfl (fun hg=>rdFz (p:=pa) (u := .string g) (b:=bs') (by rw [off1];exact hsy))) rfl rfl rfl rfl rfl ?_)|fail)
  refine T_if rfl (fun h9=>by exfalso;simp at h9) (fun _=>?_)
  repeat' (first|refine d1 ?_|fail)
  exact T_backX (k+1) (by omega) (by omega) (hG:=(Hle.tail _ _).trans (Hle.tail _ _))
 ·repeat' (first|refine d1 ?_|(show T _ (.ops _ (_::_)::_) _ _ _;refine T_call rfl rfl rfl rfl rfl (fun w hw=>awake22_spec w (hst.cls hw)) ?_)|(show T _ (.code .ret::_) _ _ _;refine T_retV [] rfl (Hle.none _) ⟨rfl,rfl⟩))
theorem keeps22_met (os:Os) (args:Array Value):laidMetH Tryz.prog Rows.collationKeepsRow.laid ((World.doorLaid Tryz.prog 400 os).forCall (fun _ _=>0) ⟨#[],args,[]⟩).memory :=
 io_met os args
theorem keeps22_lifted (os:Os) (started:os.Started) (H:Type) (enc:TypeId × Value→H) :
  ReturnsInHanded {} Tryz.checked os 3 .any (fun w args=>(Rows.collationKeepsSpec.pre enc Tryz.prog Tryz.f3 [] false w args∧laidMetH Tryz.prog Rows.collationKeepsRow.laid w)∧sizedMet enc Tryz.prog Tryz.f3 (OpenSpec.ofChange Rows.collationKeepsSpec) false w args)
   (Rows.collationKeepsSpec.post enc Tryz.prog Tryz.f3 false true false false):=by
 refine returnsInHanded_of_change_and (C:=Tryz.checked) (X:=fun w _=>laidMetH Tryz.prog Rows.collationKeepsRow.laid w) (fun _ _ _ hh h=>h.of_heap hh) knob started (by as_aux_lemma=>kernel_rfl) Tryz.func3
  (ChangeSpec.witness_shaped (enc:=enc) (C:=Tryz.checked) (os:=os) (X:=fun w _=>laidMetH Tryz.prog Rows.collationKeepsRow.laid w) false (World.doorLaid Tryz.prog 400 os) #[(.agg #[.string .empty, .slice none 0 0, .slice none 0 0, .slice none 0 0]), .int .u8 0, .int .u8 0] 8 rfl (World.shaped_of_RefB (by as_aux_lemma=>kernel_rfl) (by as_aux_lemma=>kernel_rfl)) (by as_aux_lemma=>kernel_rfl) (by as_aux_lemma=>kernel_rfl) (by as_aux_lemma=>kernel_rfl) (keeps22_met os _)) ?_
 intro W base args ds gs before hval0 hW _ _ hL _
 have hval:∀ (j:Nat) t v,Tryz.f3.params[j]?=some t→args[j]?=some v→Value.okWide Tryz.prog W .any base t v:=hval0
 have hstd:=std_of (show laidMetH Tryz.prog laids W from hL)
 have hW':=hW
 obtain⟨p,q,hA0,hV,rfl,hfz,hnd⟩:=hW
 have hA:DataW.TrodAll enc Tryz.prog W 0 (fun _=>true) true Tryz.f3.params.toList args.toList ds p:=hA0
 obtain⟨v0,vs0,d0,ds0,p0,q0,e0,rfl,rfl,h0,hA⟩:=trodAll_cons hA
 obtain⟨v1,vs1,d1,ds1,p1,q1,rfl,rfl,rfl,h1,hA⟩:=trodAll_cons hA
 obtain⟨v2,vs2,d2,ds2,p2,q2,rfl,rfl,rfl,h2,hA⟩:=trodAll_cons hA
 obtain⟨rfl,rfl,rfl⟩:=trodAll_nil hA
 have ea:args = #[v0,v1,v2]:=Array.ext' e0
 subst ea
 obtain⟨x,y1_x,y2_x,y3_x,rfl,hr_x⟩:=arg_coll (hval 0 _ v0 rfl rfl) h0
 obtain⟨one,rfl,hb_one⟩:=arg_u8 (hval 1 _ v1 rfl rfl) h1
 obtain⟨two,rfl,hb_two⟩:=arg_u8 (hval 2 _ v2 rfl rfl) h2
 refine (keeps22Law_spec x y1_x y2_x y3_x one two hb_one hb_two W hstd hr_x).calls.mono ?_
 rintro e W' ⟨v,A,rfl,⟨rfl,_⟩,hb,_⟩
 exact⟨_,rfl,law_post hW' rfl rfl laidOk (by intro t ht;simp only [show Tryz.f3.params.toList=[26,5,5] from rfl,List.mem_cons,List.mem_nil_iff,or_false] at ht;rcases ht with rfl|rfl|rfl <;> exact⟨by as_aux_lemma=>kernel_rfl,of_decide_eq_true (by as_aux_lemma=>kernel_rfl)⟩) rfl Tryz.underlying4 hb⟩
theorem keeps22_j0:Tryz.prog.inPlace 3=Rows.collationKeepsRow.inPlace:=by as_aux_lemma=>kernel_rfl
theorem keeps22_j1:Tryz.prog.unfollowed 3=Rows.collationKeepsRow.unfollowed:=by as_aux_lemma=>kernel_rfl
theorem keeps22_j2:Tryz.prog.recurses 3=Rows.collationKeepsRow.recurses:=by as_aux_lemma=>kernel_rfl
theorem keeps22_j3:Tryz.prog.varsNamed 3=Rows.collationKeepsRow.named:=by as_aux_lemma=>kernel_rfl
theorem keeps22_joined:joinedFacts Tryz.prog 3 Tryz.f3 Rows.collationKeepsSpec Rows.collationKeepsRow=true:=by
 unfold joinedFacts
 rw [keeps22_j0,keeps22_j1,keeps22_j2,keeps22_j3,io_enter,io_lifts,io_make]
 kernel_rfl
theorem keeps22_holds:Rows.CollationKeepsSaid :=
 OpenClaim.holds_of_wide 3 Tryz.f3 rfl rfl rfl rfl rfl rfl rfl ⟨rfl,rfl,rfl,rfl,rfl⟩ rfl rfl rfl rfl rfl (by as_aux_lemma=>kernel_rfl) Tryz.func3 keeps22_joined
  (of_decide_eq_true (by as_aux_lemma=>kernel_rfl)) (by unfold Func.isWrapper;first|(rw [if_pos (by decide +kernel)];kernel_rfl)|(rw [if_neg (by decide +kernel)];exact⟨rfl,rfl⟩))
  (fun os started H enc _=>keeps22_lifted os started H enc)
theorem keeps22_card:Rows.CollationKeepsCardSaid :=
 Claim7.holds_tied_plain_at .later [] [.data, .data, .data, .sentinel, .sentinel] true (true, "27597454c744800805070ea993a6c7ef5f1435d54266d0de058cda0719a2f829") true
  keeps22_holds (fun _ h=>by cases h) (by as_aux_lemma=>kernel_rfl) (fun _ h=>by cases h) collationKeeps_row_tie rfl ⟨rfl,rfl⟩ io_main rfl
  (fun f fn hf hfn=>by
   obtain rfl : f = 3 := Option.some.inj ((show Tryz.prog.funcNamed "apograph/apographlaw22.CollationKeeps" = some 3 by as_aux_lemma => kernel_rfl).symm.trans hf) |>.symm
   obtain rfl:fn=Tryz.f3:=(Option.some.inj (Tryz.func3.symm.trans hfn)).symm
   exact⟨by as_aux_lemma=>kernel_rfl,fun j t ht=>by
    have ht':[26,5,5][j]?=some t:=by rw [Tryz.params3] at ht;simpa using ht
    have hm:=List.mem_of_getElem? ht'
    simp only [List.mem_cons,List.mem_nil_iff,or_false] at hm
    rcases hm with rfl|rfl|rfl <;> exact (show Tryz.prog.wantsStandIn _=false by as_aux_lemma=>kernel_rfl)⟩)
  (by as_aux_lemma=>kernel_rfl)
#print axioms keeps22_card
end Go.Proofs.YtefieebkankfoaaGreatDoor
