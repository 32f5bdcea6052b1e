/- The law CollationReorders holds for whatever collation and number: the tied card of its row. No condition beyond the row's own. -/
import Derived.Test.YtefieebkankfoaaGreatDoorV5
import Derived.Test.YtefieebkankfoaaGreatDoorCards
import Derived.Test.YtefieebkankfoaaGreatDoorTie
set_option linter.unusedSectionVars false
set_option linter.unusedVariables false
set_option linter.unusedSimpArgs false
namespace Go.Proofs.YtefieebkankfoaaGreatDoor
open Go.RowKit Go.Shelf Go.ChangeShapes Go.WideShapes Go.Proofs
set_option maxRecDepth 100000
set_option maxHeartbeats 2000000

theorem textOk22_spec (x:Co) (A1:Option Addr) (c1:Nat) (l:List TS) (A2:Option Addr) (c2:Nat) (y3:Value) (i:Nat) (w:World) (hx:CoAt w x A1 c1 l A2 c2 y3) (hok:Ok22 x) (hi:i<x.sg.length) :
  Spec Tryz.prog 11 [.agg (coL x.sec (.slice A1 x.sg.length c1) (.slice A2 l.length c2) y3).toArray, .int .i64 (i:Int)] w (fun v R=>∃ y:Value,True∧v = .tuple #[y, .int .i64 0]∧R=[dat [y] [strsD (words22 x i)]]):=by
 have h:=textP22_spec x A1 c1 l A2 c2 y3 (i:Int) w hx
 rw [textV22_val hok hi] at h
 exact h
theorem colOk22_spec (x:Co) (A1:Option Addr) (c1:Nat) (l:List TS) (A2:Option Addr) (c2:Nat) (y3:Value) (i:Nat) (w:World) (hx:CoAt w x A1 c1 l A2 c2 y3) (hok:Ok22 x) (hi:i<x.cols.length) :
  Spec Tryz.prog 14 [.agg (coL x.sec (.slice A1 x.sg.length c1) (.slice A2 l.length c2) y3).toArray, .int .i64 (i:Int)] w (fun v R=>∃ y:Value,True∧v = .tuple #[y, .int .i64 0]∧R=[dat [y] [strsD (col22 x i)]]):=by
 have h:=columnP22_spec x A1 c1 l A2 c2 y3 (i:Int) w hx
 rw [colV22_val hok hi] at h
 exact h
theorem words22_turn {x:Co} {k i:Nat} (hi:i<x.sg.length):words22 (pick22 x (ord22 x.sg.length k)) i=words22 x ((i+k) % x.sg.length):=by
 unfold words22
 show (((ord22 x.sg.length k).map fun k=>x.m.getD k []).getD i []).map Tok.text=_
 rw [map_getD22 _ _ (by rw [ord22_len];exact hi),ord22_get hi]
theorem rowStr22 {A:Option Addr} {c n:Nat} {r:List ByteArray} {H:List HA}:Hle (row 9 1 A c n (r.map Value.string)::H) (dat [.slice A n c] [strsD r]::H):=by
 exact dat_rowV
theorem turns22Law_spec (x:Co) (x1 x2 x3:Value) (turn:Int) (hz:0≤turn∧turn≤255) (w:World) (hst:Std w) (hx:CoRd w x1 x2 x3 x) :
  Spec Tryz.prog 4 [.agg (coL x.sec x1 x2 x3).toArray, .int .u8 turn] w (fun v R=>v = .bool true∧R=[]):=by
 obtain⟨A1,c1,l,A2,c2,rfl,rfl,h⟩:=co_arg hx
 obtain⟨Ak,ck,csk,rfl,-⟩:=h.cols.tabS
 refine spec_of sg Tryz.func4 rfl rfl rfl ?_
 refine T_op (OpT.box (cs:=coL x.sec (.slice A1 x.sg.length c1) (.slice A2 l.length c2) (.slice Ak x.cols.length ck)) rfl rfl rfl rfl rfl rfl rfl (fun px=>?_))
 repeat' (first|refine d1 ?_|refine dd ?_|(show T _ (.ops _ (_::_)::_) _ _ _;first|refine T_call rfl rfl rfl rfl rfl (fun w hw=>fine22_spec x A1 c1 l A2 c2 (.slice Ak x.cols.length ck) w (hst.cls hw) (h.cls hw)) ?_|refine T_callC rfl rfl rfl rfl rfl rfl rfl (fun hg w hw=>fine22_spec x A1 c1 l A2 c2 (.slice Ak x.cols.length ck) w (hst.cls hw) (h.cls hw)) ?_)|(show T _ (.run _ _ (_::_) _ _::_) _ _ _;first|refine rc rfl rfl rfl rfl rfl rfl rfl (fun w hw=>fine22_spec x A1 c1 l A2 c2 (.slice Ak x.cols.length ck) w (hst.cls hw) (h.cls hw)) ?_|refine rcG rfl rfl rfl rfl rfl rfl rfl rfl rfl (fun hg w hw=>fine22_spec x A1 c1 l A2 c2 (.slice Ak x.cols.length ck) w (hst.cls hw) (h.cls hw)) ?_)|(show ∀ _:Nat,T _ _ _ _ _;intro _))
 refine T_if rfl (fun hg=>?_) (fun hg=>?_)
 ·repeat' (first|refine d1 ?_|refine dd ?_|(show T _ (.ops _ (_::_)::_) _ _ _;first|refine T_call rfl rfl rfl rfl rfl (fun w hw=>awake22_spec w (hst.cls hw)) ?_|refine T_callC rfl rfl rfl rfl rfl rfl rfl (fun hg w hw=>awake22_spec w (hst.cls hw)) ?_)|(show T _ (.run _ _ (_::_) _ _::_) _ _ _;first|refine rc rfl rfl rfl rfl rfl rfl rfl (fun w hw=>awake22_spec w (hst.cls hw)) ?_|refine rcG rfl rfl rfl rfl rfl rfl rfl rfl rfl (fun hg w hw=>awake22_spec w (hst.cls hw)) ?_)|(show ∀ _:Nat,T _ _ _ _ _;intro _)|(show T _ (.code .ret::_) _ _ _;refine T_retV [] rfl (Hle.none _) ⟨rfl,rfl⟩))
 obtain⟨hs,hok,-⟩:=fine22_iff.1 (by simpa using hg)
 have hat:=h.at hst hs
 obtain⟨hr1,hr2,hr3⟩:=hat.row hok
 have hcn:=hs.cols
 have hsn:=hs.sg
 obtain⟨k,hk0⟩:∃ k:Nat,turn % (x.sg.length:Int)=(k:Int):=⟨(turn % (x.sg.length:Int)).toNat,by have:=Int.emod_nonneg turn (show (x.sg.length:Int)≠0 by omega);omega⟩
 have hk:k<x.sg.length:=by have:=Int.emod_lt_of_pos turn (show (0:Int)<(x.sg.length:Int) by omega);omega
 obtain⟨k1,k2⟩:=turns22 hok hk
 have hck:=cols22_turn hok hk
 have hyl:(pick22 x (ord22 x.sg.length k)).sg.length=x.sg.length:=(List.length_map _).trans (ord22_len _ _)
 have hyok:=pick22_ok hok (ks:=ord22 x.sg.length k) (by rw [ord22_len];omega) (ord22_nodup hk) ord22_lt
 have hys:=small22_pick hs hok (ord22_nodup hk) ord22_lt
 have hol:=ord22_len x.sg.length k
 have hbl:=bck22_len x.sg.length k
 repeat' (first|refine d1 ?_|(show ∀ _:Nat,T _ _ _ _ _;intro _))
 rw [hk0]
 repeat' (first|refine d1 ?_|(show ∀ _:Nat,T _ _ _ _ _;intro _))
 refine T_nilrow 3 1 ?_
 refine T_nilrow 3 1 ?_
 refine T_loopX (fun s:Nat × (Option Addr × Nat) × (Option Addr × Nat)=>[(36, .int .i64 (s.1:Nat)),(7, .slice s.2.1.1 s.1 s.2.1.2),(8, .slice s.2.2.1 s.1 s.2.2.2)]) (fun s=>[row 3 1 s.2.1.1 s.2.1.2 s.1 ((intN ((ord22 x.sg.length k).take s.1)).map (Value.int .i64)),row 3 1 s.2.2.1 s.2.2.2 s.1 ((intN ((bck22 x.sg.length k).take s.1)).map (Value.int .i64)),blk px (coL x.sec (.slice A1 x.sg.length c1) (.slice A2 l.length c2) (.slice Ak x.cols.length ck)) 26]) (fun s=>s.1≤x.sg.length) (fun s=>x.sg.length - s.1) (0,(none,0),(none,0)) (Nat.zero_le _) ?_
 rintro⟨i,⟨A7,c7⟩,⟨A8,c8⟩⟩ hi
 dsimp only at hi ⊢
 repeat' (first|refine d1 ?_|(show ∀ _:Nat,T _ _ _ _ _;intro _))
 refine T_if rfl (fun h5=>?_) (fun h5=>?_)
 ·simp only [decide_eq_true_eq] at h5
  have e7:(intN ((ord22 x.sg.length k).take (i+1))).map (Value.int .i64)=(intN ((ord22 x.sg.length k).take i)).map (Value.int .i64)++flatP [(0, .int .i64 (((i:Int)+(k:Int)) % (x.sg.length:Int)))]:=by
   rw [take_snoc _ _ ((i+k) % x.sg.length) (by unfold ord22;rw [List.getElem?_map,List.getElem?_range (by omega)];rfl),intN_snoc]
   rfl
  have e8:(intN ((bck22 x.sg.length k).take (i+1))).map (Value.int .i64)=(intN ((bck22 x.sg.length k).take i)).map (Value.int .i64)++flatP [(0, .int .i64 (((i:Int)+(x.sg.length:Int) - (k:Int)) % (x.sg.length:Int)))]:=by
   rw [take_snoc _ _ ((i+x.sg.length - k) % x.sg.length) (by unfold bck22;rw [List.getElem?_map,List.getElem?_range (by omega)];rfl),intN_snoc]
   rw [show (((i+x.sg.length - k) % x.sg.length:Nat):Int)=((i:Int)+(x.sg.length:Int) - (k:Int)) % (x.sg.length:Int) by rw [Int.natCast_emod,Int.ofNat_sub (by omega),Int.natCast_add]]
  have hb1:0≤((i:Int)+(k:Int)) % (x.sg.length:Int):=Int.emod_nonneg _ (by omega)
  repeat' (first|refine d1 ?_|(show ∀ _:Nat,T _ _ _ _ _;intro _))
  refine T_cutX 1 [7,8] (fun s:(Option Addr × Nat) × (Option Addr × Nat)=>[(7, .slice s.1.1 (i+1) s.1.2),(8, .slice s.2.1 (i+1) s.2.2)]) (fun s=>[row 3 1 s.1.1 s.1.2 (i+1) ((intN ((ord22 x.sg.length k).take i)).map (Value.int .i64)++flatP [(0, .int .i64 (((i:Int)+(k:Int)) % (x.sg.length:Int)))]),row 3 1 s.2.1 s.2.2 (i+1) ((intN ((bck22 x.sg.length k).take i)).map (Value.int .i64)++flatP [(0, .int .i64 (((i:Int)+(x.sg.length:Int) - (k:Int)) % (x.sg.length:Int)))]),blk px (coL x.sec (.slice A1 x.sg.length c1) (.slice A2 l.length c2) (.slice Ak x.cols.length ck)) 26]) (fun _=>True) ?_ ?_
  ·refine dw0 1000 [] ?_
   repeat' (first|(show T _ (.draw _ _ _ _ _::_) _ _ _;first|refine dw1 ?_|refine dwb rfl (by decide +kernel) ?_)|(show AllL _ [];exact True.intro)|(show AllL _ (_::_);refine ⟨?_,?_⟩)|(show OpT _ _ _ _ _ _ _;first|refine dwx ?_|refine OpT.append (A:=A7) rfl rfl rfl rfl rfl rfl rfl rfl rfl rfl (fun w hw=>Src.own hw rfl) rfl (by dsimp only;omega) (by omega) (fun _ _ _=>⟨fun _=>(by first|exact Hle.none _|exact Hle.sub|exact absurd ‹_› (by decide +kernel)),?_⟩)|refine OpT.append (A:=A8) rfl rfl rfl rfl rfl rfl rfl rfl rfl rfl (fun w hw=>Src.own hw rfl) rfl (by dsimp only;omega) (by omega) (fun _ _ _=>⟨fun _=>(by first|exact Hle.none _|exact Hle.sub|exact absurd ‹_› (by decide +kernel)),?_⟩))|(show ∀ _:Nat,T _ _ _ _ _;intro _)|(show T _ (.mark _::_) _ _ _;exact T_meetX ((_,_),(_,_)) trivial (hG:=by exact Hle.srt)))
  rintro⟨⟨A7',c7'⟩,⟨A8',c8'⟩⟩ -
  dsimp only
  repeat' (first|refine d1 ?_|(show ∀ _:Nat,T _ _ _ _ _;intro _))
  refine T_backX (i+1,(A7',c7'),(A8',c8')) (by dsimp only;omega) (by dsimp only;omega) (hG:=?_)
  dsimp only
  rw [e7,e8]
  exact Hle.refl _
 simp only [decide_eq_false_iff_not] at h5
 obtain rfl:i=x.sg.length:=by omega
 rw [show (ord22 x.sg.length k).take x.sg.length=ord22 x.sg.length k from List.take_of_length_le (by omega),show (bck22 x.sg.length k).take x.sg.length=bck22 x.sg.length k from List.take_of_length_le (by omega)]
 refine T_le rowInt22 ?_
 refine T_open fun p1 hp1=>?_
 refine T_le (Hle.perm (List.Perm.swap _ _ _)) ?_
 refine T_le rowInt22 ?_
 refine T_open fun p2 hp2=>?_
 obtain⟨Aq,cq,e1,g1,-,hq1⟩:=hp1.row1
 obtain⟨Ar,cr,e2,g2,-,hq2⟩:=hp2.row1
 have hnl:(intN (ord22 x.sg.length k)).length=x.sg.length:=by unfold intN;rw [List.length_map,hol]
 have hml:(intN (bck22 x.sg.length k)).length=x.sg.length:=by unfold intN;rw [List.length_map,hbl]
 rw [hnl] at e1 g1
 rw [hml] at e2 g2
 cases e1
 cases e2
 repeat' (first|refine d1 ?_|refine dd ?_|(show T _ (.ops _ (_::_)::_) _ _ _;refine T_op (OpT.call rfl rfl rfl rfl rfl (fun w hw=>turnOk22_spec x (pick22 x (ord22 x.sg.length k)) A1 c1 l A2 c2 Ak ck (ord22 x.sg.length k) A7 x.sg.length c7 w (hat.cls hw) (hp1.own hw).intsAt hol (by omega) g1 (by omega) k1) ?_))|(show ∀ _:Nat,T _ _ _ _ _;intro _))
 rintro v R ⟨⟨a1,a2,a3⟩,-,rfl,rfl⟩
 dsimp only
 refine T_open fun pa hpa=>?_
 obtain⟨Aa,ca,csa,rfl,-⟩:=hpa.cons_inv.2.cons_inv.2.tab
 refine T_le (H':=[fz pa,fz p2,fz p1,blk px (coL x.sec (.slice A1 x.sg.length c1) (.slice A2 l.length c2) (.slice Ak x.cols.length ck)) 26]) (Hle.refl _) ?_
 have hyA:∀ {w':World} {H:List HA} [FocusZ H pa],Cls w w' H→CoAt w' (pick22 x (ord22 x.sg.length k)) a1.1 a1.2 (tks22 l (ord22 x.sg.length k)) a2.1 a2.2 (.slice Aa (pick22 x (ord22 x.sg.length k)).cols.length ca):=fun hw=>keptAt22 hpa (tks22_m h.m _) hys hw hst (h.cls hw).ok
 have hyc:=hys.cols
 repeat' (first|refine d1 ?_|refine dd ?_|(show T _ (.ops _ (_::_)::_) _ _ _;first|refine T_op (OpT.storeA rfl rfl rfl rfl rfl rfl (by decide) ?_)|refine T_op (OpT.call rfl rfl rfl rfl rfl (fun w hw=>turnOk22_spec (pick22 x (ord22 x.sg.length k)) x a1.1 a1.2 (tks22 l (ord22 x.sg.length k)) a2.1 a2.2 Aa ca (bck22 x.sg.length k) A8 x.sg.length c8 w (hyA hw) (hp2.own hw).intsAt hbl (by omega) g2 (by omega) k2) ?_))|(show ∀ _:Nat,T _ _ _ _ _;intro _))
 rintro v R ⟨⟨b1,b2,b3⟩,-,rfl,rfl⟩
 dsimp only
 refine T_open fun pb hpb=>?_
 obtain⟨Ab,cb,csb,rfl,-⟩:=hpb.cons_inv.2.cons_inv.2.tab
 rename_i by1
 refine T_le (H':=[fz pb,blk by1 (coL (pick22 x (ord22 x.sg.length k)).sec (.slice a1.1 (pick22 x (ord22 x.sg.length k)).sg.length a1.2) (.slice a2.1 (tks22 l (ord22 x.sg.length k)).length a2.2) (.slice Aa (pick22 x (ord22 x.sg.length k)).cols.length ca)) 26,fz pa,fz p2,fz p1,blk px (coL x.sec (.slice A1 x.sg.length c1) (.slice A2 l.length c2) (.slice Ak x.cols.length ck)) 26]) (Hle.refl _) ?_
 have hmz:(tks22 (tks22 l (ord22 x.sg.length k)) (bck22 x.sg.length k)).map TS.l=x.m:=by
  rw [tks22_m (tks22_m h.m _),pick22_pick (by rw [ord22_len];exact bck22_lt),ord_bck22 hk,pick22_all hok]
 repeat' (first|refine d1 ?_|refine dd ?_|(show T _ (.ops _ (_::_)::_) _ _ _;first|refine T_op (OpT.storeA rfl rfl rfl rfl rfl rfl (by decide) ?_)|refine T_call rfl rfl rfl rfl rfl (fun w hw=>sameR22_spec x x b1.1 A1 b1.2 c1 (tks22 (tks22 l (ord22 x.sg.length k)) (bck22 x.sg.length k)) l b2.1 A2 b2.2 c2 (.slice Ab x.cols.length cb) (.slice Ak x.cols.length ck) w (ofP22 hpb hmz hw (tks22_ok (tks22_ok (h.cls hw).ok _) _)) (h.cls hw).sm) ?_|refine T_callC rfl rfl rfl rfl rfl rfl rfl (fun hg w hw=>sameR22_spec x x b1.1 A1 b1.2 c1 (tks22 (tks22 l (ord22 x.sg.length k)) (bck22 x.sg.length k)) l b2.1 A2 b2.2 c2 (.slice Ab x.cols.length cb) (.slice Ak x.cols.length ck) w (ofP22 hpb hmz hw (tks22_ok (tks22_ok (h.cls hw).ok _) _)) (h.cls hw).sm) ?_)|(show T _ (.run _ _ (_::_) _ _::_) _ _ _;first|refine rc rfl rfl rfl rfl rfl rfl rfl (fun w hw=>sameR22_spec x x b1.1 A1 b1.2 c1 (tks22 (tks22 l (ord22 x.sg.length k)) (bck22 x.sg.length k)) l b2.1 A2 b2.2 c2 (.slice Ab x.cols.length cb) (.slice Ak x.cols.length ck) w (ofP22 hpb hmz hw (tks22_ok (tks22_ok (h.cls hw).ok _) _)) (h.cls hw).sm) ?_|refine rcG rfl rfl rfl rfl rfl rfl rfl rfl rfl (fun hg w hw=>sameR22_spec x x b1.1 A1 b1.2 c1 (tks22 (tks22 l (ord22 x.sg.length k)) (bck22 x.sg.length k)) l b2.1 A2 b2.2 c2 (.slice Ab x.cols.length cb) (.slice Ak x.cols.length ck) w (ofP22 hpb hmz hw (tks22_ok (tks22_ok (h.cls hw).ok _) _)) (h.cls hw).sm) ?_)|(show ∀ _:Nat,T _ _ _ _ _;intro _))
 rw [same22_refl]
 refine T_if rfl (fun h9=>by exfalso;simp [hck] at h9) (fun _=>?_)
 repeat' (first|refine d1 ?_|refine dd ?_|(show ∀ _:Nat,T _ _ _ _ _;intro _))
 rename_i bz
 refine T_loopX (fun i:Nat=>[(92, .int .i64 (i:Nat))]) (fun _=>[blk by1 (coL (pick22 x (ord22 x.sg.length k)).sec (.slice a1.1 (pick22 x (ord22 x.sg.length k)).sg.length a1.2) (.slice a2.1 (tks22 l (ord22 x.sg.length k)).length a2.2) (.slice Aa (pick22 x (ord22 x.sg.length k)).cols.length ca)) 26,fz pa,fz p1,blk px (coL x.sec (.slice A1 x.sg.length c1) (.slice A2 l.length c2) (.slice Ak x.cols.length ck)) 26]) (fun i=>i≤x.sg.length) (fun i=>x.sg.length - i) 0 (Nat.zero_le _) ?_ (hG:=by exact Hle.srt)
 rintro i hi
 repeat' (first|refine d1 ?_|refine dd ?_|(show ∀ _:Nat,T _ _ _ _ _;intro _))
 refine T_if rfl (fun h5=>?_) (fun h5=>?_)
 ·simp only [decide_eq_true_eq] at h5
  obtain⟨bq,oq,eq1,hq1r⟩:=hq1 (by omega)
  have hv:(intN (ord22 x.sg.length k))[i]?=some (((i+k) % x.sg.length:Nat):Int):=by unfold intN ord22;rw [List.getElem?_map,List.getElem?_map,List.getElem?_range (by omega)];rfl
  have f1:=hq1r i _ hv
  have hvl:(i+k) % x.sg.length<x.sg.length:=Nat.mod_lt _ (by omega)
  rw [eq1]
  repeat' (first|refine d1 ?_|(show T _ (.ops _ (_::_)::_) _ _ _;refine T_callE rfl rfl rfl rfl rfl (fun w hw=>textOk22_spec (pick22 x (ord22 x.sg.length k)) a1.1 a1.2 (tks22 l (ord22 x.sg.length k)) a2.1 a2.2 (.slice Aa (pick22 x (ord22 x.sg.length k)).cols.length ca) i w (hyA hw) hyok (by omega)) (fun t1 _=>?_))|(show ∀ _:Nat,T _ _ _ _ _;intro _))
  rw [words22_turn (by omega)]
  refine T_open fun r1 hr1=>?_
  repeat' (first|refine d1 ?_|refine dd ?_|(show T _ (.ops _ (_::_)::_) _ _ _;first|refine T_val rfl (Val.load rfl (fun hg=>rdFz (p:=p1) (u := .int .i64 (((i+k) % x.sg.length:Nat):Int)) (b:=bq) (by rw [off1];exact f1))) rfl rfl rfl ?_|refine T_valC rfl (Val.load rfl (fun hg=>rdFz (p:=p1) (u := .int .i64 (((i+k) % x.sg.length:Nat):Int)) (b:=bq) (by rw [off1];exact f1))) rfl rfl rfl rfl rfl ?_)|(show T _ (.run _ _ (_::_) _ _::_) _ _ _;first|refine rv rfl rfl rfl (Val.load rfl (fun hg=>rdFz (p:=p1) (u := .int .i64 (((i+k) % x.sg.length:Nat):Int)) (b:=bq) (by rw [off1];exact f1))) rfl rfl rfl ?_|refine rg rfl rfl rfl (Val.load rfl (fun hg=>rdFz (p:=p1) (u := .int .i64 (((i+k) % x.sg.length:Nat):Int)) (b:=bq) (by rw [off1];exact f1))) rfl rfl rfl rfl rfl ?_|refine rcE rfl rfl rfl rfl rfl rfl rfl (fun w hw=>textOk22_spec x A1 c1 l A2 c2 (.slice Ak x.cols.length ck) ((i+k) % x.sg.length) w (hat.cls hw) hok hvl) (fun t2 _=>?_))|(show ∀ _:Nat,T _ _ _ _ _;intro _))
  refine T_open fun r2 hr2=>?_
  repeat' (first|refine d1 ?_|refine dd ?_|(show T _ (.ops _ (_::_)::_) _ _ _;first|refine T_call rfl rfl rfl rfl rfl (fun w hw=>equalStr_spec _ _ (words22 x ((i+k) % x.sg.length)) (words22 x ((i+k) % x.sg.length)) w (hr1.own hw) (hr2.own hw)) ?_|refine T_callC rfl rfl rfl rfl rfl rfl rfl (fun hg w hw=>equalStr_spec _ _ (words22 x ((i+k) % x.sg.length)) (words22 x ((i+k) % x.sg.length)) w (hr1.own hw) (hr2.own hw)) ?_)|(show T _ (.run _ _ (_::_) _ _::_) _ _ _;first|refine rc rfl rfl rfl rfl rfl rfl rfl (fun w hw=>equalStr_spec _ _ (words22 x ((i+k) % x.sg.length)) (words22 x ((i+k) % x.sg.length)) w (hr1.own hw) (hr2.own hw)) ?_|refine rcG rfl rfl rfl rfl rfl rfl rfl rfl rfl (fun hg w hw=>equalStr_spec _ _ (words22 x ((i+k) % x.sg.length)) (words22 x ((i+k) % x.sg.length)) w (hr1.own hw) (hr2.own hw)) ?_)|(show ∀ _:Nat,T _ _ _ _ _;intro _))
  refine T_if rfl (fun h9=>by exfalso;simp at h9) (fun _=>?_)
  repeat' (first|refine d1 ?_|refine dd ?_|(show ∀ _:Nat,T _ _ _ _ _;intro _))
  exact T_backX (i+1) (by omega) (by omega) (hG:=(Hle.tail _ _).trans (Hle.tail _ _))
 simp only [decide_eq_false_iff_not] at h5
 repeat' (first|refine d1 ?_|refine dd ?_|(show ∀ _:Nat,T _ _ _ _ _;intro _))
 refine T_loopX (fun i:Nat=>[(126, .int .i64 (i:Nat))]) (fun _=>[blk by1 (coL (pick22 x (ord22 x.sg.length k)).sec (.slice a1.1 (pick22 x (ord22 x.sg.length k)).sg.length a1.2) (.slice a2.1 (tks22 l (ord22 x.sg.length k)).length a2.2) (.slice Aa (pick22 x (ord22 x.sg.length k)).cols.length ca)) 26,fz pa,blk px (coL x.sec (.slice A1 x.sg.length c1) (.slice A2 l.length c2) (.slice Ak x.cols.length ck)) 26]) (fun i=>i≤x.cols.length) (fun i=>x.cols.length - i) 0 (Nat.zero_le _) ?_ (hG:=by exact Hle.srt)
 rintro i hi
 repeat' (first|refine d1 ?_|refine dd ?_|(show ∀ _:Nat,T _ _ _ _ _;intro _))
 refine T_if rfl (fun h5=>?_) (fun h5=>?_)
 ·simp only [decide_eq_true_eq] at h5
  repeat' (first|refine d1 ?_|(show T _ (.ops _ (_::_)::_) _ _ _;refine T_callE rfl rfl rfl rfl rfl (fun w hw=>colOk22_spec x A1 c1 l A2 c2 (.slice Ak x.cols.length ck) i w (hat.cls hw) hok (by omega)) (fun t1 _=>?_))|(show ∀ _:Nat,T _ _ _ _ _;intro _))
  refine T_open fun r1 hr1=>?_
  repeat' (first|refine d1 ?_|(show T _ (.ops _ (_::_)::_) _ _ _;refine T_callE rfl rfl rfl rfl rfl (fun w hw=>colOk22_spec (pick22 x (ord22 x.sg.length k)) a1.1 a1.2 (tks22 l (ord22 x.sg.length k)) a2.1 a2.2 (.slice Aa (pick22 x (ord22 x.sg.length k)).cols.length ca) i w (hyA hw) hyok (by omega)) (fun t2 _=>?_))|(show ∀ _:Nat,T _ _ _ _ _;intro _))
  rw [col22_turn hok hk (by omega)]
  refine T_open fun r2 hr2=>?_
  have hl1:(col22 x i).length=x.sg.length:=col22_len ..
  have hl2:((col22 x i).drop k++(col22 x i).take k).length=x.sg.length:=by rw [List.length_append,List.length_drop,List.length_take,hl1];omega
  obtain⟨Ab1,cb1,rfl,gb1,gm1,-⟩:=hr1.rowS
  obtain⟨Ab2,cb2,rfl,gb2,gm2,-⟩:=hr2.rowS
  rw [hl1] at gb1
  rw [hl2] at gb2
  simp only [hl1,hl2] at hr1 hr2 ⊢
  repeat' (first|refine d1 ?_|refine dd ?_|(show ∀ _:Nat,T _ _ _ _ _;intro _))
  rw [show (!decide ((0:Int)=0) || !decide ((0:Int)=0) || !decide ((x.sg.length:Int)=(x.sg.length:Int)) || !decide ((x.sg.length:Int)=(x.sg.length:Int)))=false by simp,Int.toNat_natCast k,Int.toNat_natCast x.sg.length]
  refine T_known 163 rfl rfl ?_
  refine T_known 166 rfl rfl ?_
  refine ro rfl rfl (OpT.sure (p:=false) rfl rfl rfl (OpT.litW rfl rfl rfl rfl rfl rfl rfl rfl rfl rfl rfl (fun b1=>⟨fun _=>Hle.tail _ _,?_⟩)))
  have hdl:((col22 x i).drop k).length=x.sg.length - k:=by rw [List.length_drop,hl1]
  have htl:((col22 x i).take k).length=k:=by rw [List.length_take,hl1];omega
  have hcat:catP [⟨cutA Ab1 cb1 k 1,x.sg.length - k,cb1 - k,((col22 x i).drop k).map Value.string⟩,⟨Ab1,k,cb1,((col22 x i).take k).map Value.string⟩]=(((col22 x i).drop k++(col22 x i).take k).map Value.string):=by
   rw [List.map_append];unfold catP;rw [List.flatMap_cons,List.flatMap_cons,List.flatMap_nil,List.append_nil]
  have hsum:sumP [⟨cutA Ab1 cb1 k 1,x.sg.length - k,cb1 - k,((col22 x i).drop k).map Value.string⟩,⟨Ab1,k,cb1,((col22 x i).take k).map Value.string⟩]=x.sg.length:=by
   show (x.sg.length - k)+(k+0)=_;omega
  have hps:∀ {w':World} {H:List HA} [FocusZ H r1],Cls w w' H→∀ p∈[(⟨cutA Ab1 cb1 k 1,x.sg.length - k,cb1 - k,((col22 x i).drop k).map Value.string⟩:PS),⟨Ab1,k,cb1,((col22 x i).take k).map Value.string⟩],Src w' 1 p.A p.n p.vs∧oneCells p.vs=true:=fun hw p hp=>by
   obtain⟨A9,c9,e9,g9,g10,hs9⟩:=(hr1.own hw).strs
   rw [hl1] at e9 hs9
   cases e9
   rcases List.mem_cons.1 hp with rfl|hp
   ·refine ⟨?_,oneStr _⟩
    have h9:=src_drop1 (ca:=cb1) hs9 k (by omega) gb1
    rwa [← List.map_drop] at h9
   ·rw [List.mem_singleton] at hp
    subst hp
    exact⟨src_takeStr hs9 k (by omega),oneStr _⟩
  refine ro rfl rfl (OpT.sure (p:=false) rfl rfl rfl (OpT.callE1 rfl rfl rfl rfl rfl (fun w hw=>concatStr_spec (some ⟨b1,0,none⟩) 2 2 [⟨cutA Ab1 cb1 k 1,x.sg.length - k,cb1 - k,((col22 x i).drop k).map Value.string⟩,⟨Ab1,k,cb1,((col22 x i).take k).map Value.string⟩] w (Src.own hw rfl) rfl (by omega) (hps hw) (by rw [hsum];omega)) (fun x9 _=>⟨fun _=>(Hle.tail _ _).trans (Hle.tail _ _),?_⟩)))
  rw [hcat,hsum]
  refine T_le rowStr22 ?_
  refine T_open fun p9 hp9=>?_
  refine T_known 160 rfl rfl ?_
  refine rcG rfl rfl rfl rfl rfl rfl rfl rfl rfl (fun _ w hw=>equalStr_spec _ _ ((col22 x i).drop k++(col22 x i).take k) ((col22 x i).drop k++(col22 x i).take k) w (hr2.own hw) (hp9.own hw)) ?_
  repeat' (first|refine d1 ?_|refine dd ?_|(show ∀ _:Nat,T _ _ _ _ _;intro _))
  refine T_if rfl (fun h9=>by exfalso;simp at h9) (fun _=>?_)
  repeat' (first|refine d1 ?_|refine dd ?_|(show ∀ _:Nat,T _ _ _ _ _;intro _))
  exact T_backX (i+1) (by omega) (by omega) (hG:=by exact Hle.sub)
 ·repeat' (first|refine d1 ?_|refine dd ?_|(show T _ (.ops _ (_::_)::_) _ _ _;first|refine T_call rfl rfl rfl rfl rfl (fun w hw=>awake22_spec w (hst.cls hw)) ?_|refine T_callC rfl rfl rfl rfl rfl rfl rfl (fun hg w hw=>awake22_spec w (hst.cls hw)) ?_)|(show T _ (.run _ _ (_::_) _ _::_) _ _ _;first|refine rc rfl rfl rfl rfl rfl rfl rfl (fun w hw=>awake22_spec w (hst.cls hw)) ?_|refine rcG rfl rfl rfl rfl rfl rfl rfl rfl rfl (fun hg w hw=>awake22_spec w (hst.cls hw)) ?_)|(show ∀ _:Nat,T _ _ _ _ _;intro _)|(show T _ (.code .ret::_) _ _ _;refine T_retV [] rfl (Hle.none _) ⟨rfl,rfl⟩))
theorem turns22_met (os:Os) (args:Array Value):laidMetH Tryz.prog Rows.collationReordersRow.laid ((World.doorLaid Tryz.prog 400 os).forCall (fun _ _=>0) ⟨#[],args,[]⟩).memory :=
 io_met os args
theorem turns22_lifted (os:Os) (started:os.Started) (H:Type) (enc:TypeId × Value→H) :
  ReturnsInHanded {} Tryz.checked os 4 .any (fun w args=>(Rows.collationReordersSpec.pre enc Tryz.prog Tryz.f4 [] false w args∧laidMetH Tryz.prog Rows.collationReordersRow.laid w)∧sizedMet enc Tryz.prog Tryz.f4 (OpenSpec.ofChange Rows.collationReordersSpec) false w args)
   (Rows.collationReordersSpec.post enc Tryz.prog Tryz.f4 false true false false):=by
 refine returnsInHanded_of_change_and (C:=Tryz.checked) (X:=fun w _=>laidMetH Tryz.prog Rows.collationReordersRow.laid w) (fun _ _ _ hh h=>h.of_heap hh) knob started (by as_aux_lemma=>kernel_rfl) Tryz.func4
  (ChangeSpec.witness_shaped (enc:=enc) (C:=Tryz.checked) (os:=os) (X:=fun w _=>laidMetH Tryz.prog Rows.collationReordersRow.laid w) false (World.doorLaid Tryz.prog 400 os) #[(.agg #[.string .empty, .slice none 0 0, .slice none 0 0, .slice none 0 0]), .int .u8 0] 8 rfl (World.shaped_of_RefB (by as_aux_lemma=>kernel_rfl) (by as_aux_lemma=>kernel_rfl)) (by as_aux_lemma=>kernel_rfl) (by as_aux_lemma=>kernel_rfl) (by as_aux_lemma=>kernel_rfl) (turns22_met os _)) ?_
 intro W base args ds gs before hval0 hW _ _ hL _
 have hval:∀ (j:Nat) t v,Tryz.f4.params[j]?=some t→args[j]?=some v→Value.okWide Tryz.prog W .any base t v:=hval0
 have hstd:=std_of (show laidMetH Tryz.prog laids W from hL)
 have hW':=hW
 obtain⟨p,q,hA0,hV,rfl,hfz,hnd⟩:=hW
 have hA:DataW.TrodAll enc Tryz.prog W 0 (fun _=>true) true Tryz.f4.params.toList args.toList ds p:=hA0
 obtain⟨v0,vs0,d0,ds0,p0,q0,e0,rfl,rfl,h0,hA⟩:=trodAll_cons hA
 obtain⟨v1,vs1,d1,ds1,p1,q1,rfl,rfl,rfl,h1,hA⟩:=trodAll_cons hA
 obtain⟨rfl,rfl,rfl⟩:=trodAll_nil hA
 have ea:args = #[v0,v1]:=Array.ext' e0
 subst ea
 obtain⟨x,y1_x,y2_x,y3_x,rfl,hr_x⟩:=arg_coll (hval 0 _ v0 rfl rfl) h0
 obtain⟨turn,rfl,hb_turn⟩:=arg_u8 (hval 1 _ v1 rfl rfl) h1
 refine (turns22Law_spec x y1_x y2_x y3_x turn hb_turn W hstd hr_x).calls.mono ?_
 rintro e W' ⟨v,A,rfl,⟨rfl,_⟩,hb,_⟩
 exact⟨_,rfl,law_post hW' rfl rfl laidOk (by intro t ht;simp only [show Tryz.f4.params.toList=[26,5] from rfl,List.mem_cons,List.mem_nil_iff,or_false] at ht;rcases ht with rfl|rfl <;> exact⟨by as_aux_lemma=>kernel_rfl,of_decide_eq_true (by as_aux_lemma=>kernel_rfl)⟩) rfl Tryz.underlying4 hb⟩
theorem turns22_j0:Tryz.prog.inPlace 4=Rows.collationReordersRow.inPlace:=by as_aux_lemma=>kernel_rfl
theorem turns22_j1:Tryz.prog.unfollowed 4=Rows.collationReordersRow.unfollowed:=by as_aux_lemma=>kernel_rfl
theorem turns22_j2:Tryz.prog.recurses 4=Rows.collationReordersRow.recurses:=by as_aux_lemma=>kernel_rfl
theorem turns22_j3:Tryz.prog.varsNamed 4=Rows.collationReordersRow.named:=by as_aux_lemma=>kernel_rfl
theorem turns22_joined:joinedFacts Tryz.prog 4 Tryz.f4 Rows.collationReordersSpec Rows.collationReordersRow=true:=by
 unfold joinedFacts
 rw [turns22_j0,turns22_j1,turns22_j2,turns22_j3,io_enter,io_lifts,io_make]
 kernel_rfl
theorem turns22_holds:Rows.CollationReordersSaid :=
 OpenClaim.holds_of_wide 4 Tryz.f4 rfl rfl rfl rfl rfl rfl rfl ⟨rfl,rfl,rfl,rfl,rfl⟩ rfl rfl rfl rfl rfl (by as_aux_lemma=>kernel_rfl) Tryz.func4 turns22_joined
  (of_decide_eq_true (by as_aux_lemma=>kernel_rfl)) (by unfold Func.isWrapper;first|(rw [if_pos (by decide +kernel)];kernel_rfl)|(rw [if_neg (by decide +kernel)];exact⟨rfl,rfl⟩))
  (fun os started H enc _=>turns22_lifted os started H enc)
theorem turns22_card:Rows.CollationReordersCardSaid :=
 Claim7.holds_tied_plain_at .later [] [.data, .data, .data, .sentinel, .sentinel] true (true, "27597454c744800805070ea993a6c7ef5f1435d54266d0de058cda0719a2f829") true
  turns22_holds (fun _ h=>by cases h) (by as_aux_lemma=>kernel_rfl) (fun _ h=>by cases h) collationReorders_row_tie rfl ⟨rfl,rfl⟩ io_main rfl
  (fun f fn hf hfn=>by
   obtain rfl : f = 4 := Option.some.inj ((show Tryz.prog.funcNamed "apograph/apographlaw22.CollationReorders" = some 4 by as_aux_lemma => kernel_rfl).symm.trans hf) |>.symm
   obtain rfl:fn=Tryz.f4:=(Option.some.inj (Tryz.func4.symm.trans hfn)).symm
   exact⟨by as_aux_lemma=>kernel_rfl,fun j t ht=>by
    have ht':[26,5][j]?=some t:=by rw [Tryz.params4] at ht;simpa using ht
    have hm:=List.mem_of_getElem? ht'
    simp only [List.mem_cons,List.mem_nil_iff,or_false] at hm
    rcases hm with rfl|rfl <;> exact (show Tryz.prog.wantsStandIn _=false by as_aux_lemma=>kernel_rfl)⟩)
  (by as_aux_lemma=>kernel_rfl)
#print axioms turns22_card
end Go.Proofs.YtefieebkankfoaaGreatDoor
