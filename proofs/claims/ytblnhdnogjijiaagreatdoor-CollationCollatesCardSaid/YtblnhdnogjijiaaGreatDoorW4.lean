/- Joined texts of this claim, part 4. -/
import Derived.Test.YtblnhdnogjijiaaGreatDoorW3
import Derived.Lib.Builder
import Derived.Lib.UnsafeStr
import Derived.Laws.Externs
import Derived.Shelf.SlSortCmp.Whole1
set_option linter.unusedSectionVars false
set_option linter.unusedVariables false
set_option linter.unusedSimpArgs false
namespace Go.Proofs.YtblnhdnogjijiaaGreatDoor
open Go.RowKit Go.Shelf Go.Proofs
set_option maxRecDepth 100000
set_option maxHeartbeats 1000000

theorem nilC (H:List HA):Hle H (dat [.slice none 0 0] [rowsD []]::H):=hle_unit (B:=dat [.slice none 0 0] [rowsD []]) (.s none 0 0 1 [] rfl (Nat.le_refl _) (by omega) (fun h=>absurd h (by omega)) .nil .nil)
theorem Rd.intsAt {w:World} {A:Option Addr} {n cap:Nat} {p:List Int} (h:Rd (wr w) [.slice A n cap] [intsD p]):Src w 1 A n (p.map (Value.int .i64)):=by
 obtain⟨A',cap',e,-,hs⟩:=h.ints
 cases e
 exact hs
theorem stg_prod {c:Costs} {l:List TS} {ord:List Nat} (hlt:∀ k∈ord,k<l.length) (hln:∀ t∈l,t.l.length≤100) {j m:Nat} (hj:j≤ord.length) (hj2:j≤32) (hm:m≤100):(stgV c l ord j).length≤3200∧(((stgV c l ord j).length:Int)+1) * ((m:Int)+1)≤1048576:=by
 have h1:=stgV_len (c:=c) hlt hln j hj
 have h2:(stgV c l ord j).length≤3200:=by omega
 have h3:=Nat.mul_le_mul (show (stgV c l ord j).length+1≤3201 by omega) (show m+1≤101 by omega)
 have h4:(((stgV c l ord j).length:Int)+1) * ((m:Int)+1)=((((stgV c l ord j).length+1) * (m+1):Nat):Int):=by push_cast;rfl
 exact⟨h2,by rw [h4];omega⟩
theorem Grp.addW {w w':World} {A:Option Addr} {l:List TS} (hg:Grp w A l.length l) (hw:Below w.heap.size w w') (hst:Std w') {c:Costs} (hc:costE c=0) (hbs:badS l=false) (hq:∀ t∈l,t.n≤100) {ord:List Nat} (hlt:∀ k∈ord,k<l.length) {j:Nat} (hj:j<ord.length) (hj2:j≤32) {At:Option Addr} {K:Value}
  (hs:Src w' 1 At j ((takS l ord j).map TS.val)) (hx:Rd (wr w') [K] [rowsD (stgV c l ord j)]) {t:TS} (ht:t∈l):AddW w' c At j (takS l ord j) K (stgV c l ord j) t.A t.n t.l:=by
 have hln:∀ t∈l,t.l.length=t.n:=hg.ok.len
 have hg':Grp w' A l.length l:=⟨hst,src_below hg.hs hw,hg.hn,hg.hb,⟨fun t ht=>src_below (hg.ok.src t ht) hw,hg.ok.len,hg.ok.bd⟩,hg.nb,hg.sm⟩
 refine ⟨hg'.tak hlt (by omega) hj2 hs,hc,badS_tak hlt hbs j,hx,fun col hcol=>ColsOk.colOk (l:=takS l ord j) (stgV_ok hlt hln j (by omega)) hcol,hg'.ok.src t ht,hln t ht,hg.nb t ht,badS_ok hbs t ht,hg.sm t ht,?_⟩
 have:=(stg_prod (c:=c) hlt (fun t ht=>by rw [hln t ht];exact hq t ht) (j:=j) (m:=0) (by omega) hj2 (by omega)).1
 omega
theorem alignPrg21_spec (c:Costs) (A:Option Addr) (n ca:Nat) (l:List TS) (w:World) (hg:Grp w A n l) (hq:∀ t∈l,t.n≤100) :
  Spec Tryz.prog 44 [c.val, .slice A n ca] w (fun v R=>∃ x:Value,True∧v = .tuple #[x, .int .i64 (alnA c l).2]∧R=[dat [x] [rowsD (alnA c l).1]]):=by
 have hn:=hg.hn
 subst hn
 have hb:=hg.hb
 refine spec_of sg Tryz.func44 rfl rfl rfl ?_
 refine T_op (OpT.box (cs:=c.cells) rfl rfl rfl rfl rfl rfl rfl (fun pc=>?_))
 repeat' (first|refine d1 ?_|(show T _ (.ops _ (_::_)::_) _ _ _;refine T_call rfl rfl rfl rfl rfl (fun w hw=>check21_spec c A l.length ca l w (hg.cls hw)) ?_)|fail)
 refine T_if rfl (fun h=>?_) (fun h=>?_)
 ·simp only [Bool.not_eq_true',decide_eq_false_iff_not] at h
  have e:alnA c l=([],1):=if_neg h
  rw [e,(ck21_01 c l).resolve_left h]
  repeat' (first|refine d1 ?_|(show T _ (.code .ret::_) _ _ _;refine T_retV _ rfl ((nilC _).trans (Hle.nth 0 rfl)) ⟨_,trivial,rfl,rfl⟩))
 simp only [Bool.not_eq_false',decide_eq_true_eq] at h
 have e:alnA c l=(alnP c l,0):=if_pos h
 rw [e]
 obtain⟨hc,hbs⟩:=ck21_ok h
 have hbd:=dstT_bd hc hg.len
 obtain⟨hd,hlt⟩:=orderV_ok (fun i k=>(hbd i k).1) l.length
 have hol:=orderV_len (dstT c l) l.length
 have e2:alnP c l=(stgV c l (orderV (dstT c l) l.length) l.length).map (arrR (orderV (dstT c l) l.length)):=rfl
 rw [e2]
 repeat' (first|refine d1 ?_|(show T _ (.ops _ (_::_)::_) _ _ _;refine T_op (OpT.call rfl rfl rfl rfl rfl (fun w hw=>order21_spec c A l.length ca l w (hg.cls hw) hc hbs) ?_))|fail)
 rintro v R ⟨x,-,rfl,rfl⟩
 generalize orderV (dstT c l) l.length=ord at hd hlt hol ⊢
 refine T_le (H':=[dat [x] [intsD (intN ord)],blk pc c.cells 23]) (Hle.refl _) ?_
 refine T_open fun p hp=>?_
 have hp2:=hp
 have hil:(intN ord).length=l.length:=by unfold intN;rw [List.length_map,hol]
 obtain⟨Ao,co,rfl,hc1,hc2,hAo⟩:=hp.row1
 rw [hil] at hAo hc1 hp2 ⊢
 have hln:∀ t∈l,t.l.length≤100:=fun t ht=>by rw [hg.ok.len t ht];exact hq t ht
 repeat' (first|refine d1 ?_|fail)
 refine T_if rfl (fun h1=>by exfalso;simp at h1) (fun _=>?_)
 repeat' (first|refine d1 ?_|fail)
 refine T_le (nilC _) ?_
 refine T_nilrow 38 1 ?_
 refine T_loopX (fun s:Nat × (Option Addr × Nat) × Value=>[(30, .int .i64 s.1),(10, .slice s.2.1.1 s.1 s.2.1.2),(9,s.2.2)]) (fun s=>[row 38 1 s.2.1.1 s.2.1.2 s.1 ((takS l ord s.1).map TS.val),dat [s.2.2] [rowsD (stgV c l ord s.1)],fz p,blk pc c.cells 23]) (fun s=>s.1≤l.length) (fun s=>l.length - s.1) (0,(none,0), .slice none 0 0) (Nat.zero_le _) ?_
 rintro⟨j,⟨At,capt⟩,K⟩ hj
 dsimp only at hj ⊢
 repeat' (first|refine d1 ?_|fail)
 refine T_if rfl (fun h3=>?_) (fun h3=>?_)
 ·simp only [decide_eq_true_eq] at h3
  have hjn:j<l.length:=by omega
  obtain⟨bo,oo,rfl,hbo⟩:=hAo (by omega)
  obtain⟨b,o,rfl⟩:=hg.hs.base (by omega)
  have hoj:=ord_get (show j<ord.length by omega)
  have hlj:ord.getD j 0<l.length:=ord_lt hlt (by omega)
  obtain⟨t,ht,htm,hrt⟩:=hg.get hlj
  have hts:tsA l (ord.getD j 0)=t:=tsA_eq ht
  have hst:stgV c l ord (j+1)=addV c (takS l ord j) (stgV c l ord j) t.l 0 0:=by
   show addV c (takS l ord j) (stgV c l ord j) (tsA l (ord.getD j 0)).l 0 0=_
   rw [hts]
  have hpr:=(stg_prod (c:=c) hlt hln (j:=j) (m:=t.n) (by omega) (by omega) (hq t htm)).2
  refine T_le (H':=[dat [K] [rowsD (stgV c l ord j)],row 38 1 At capt j ((takS l ord j).map TS.val),fz p,blk pc c.cells 23]) Hle.srt ?_
  refine T_open fun q hq9=>?_
  refine T_le (H':=[row 38 1 At capt j ((takS l ord j).map TS.val),fz q,fz p,blk pc c.cells 23]) Hle.srt ?_
  repeat' (first|refine d1 ?_|refine dd ?_|(show T _ (.ops _ (_::_)::_) _ _ _;refine T_val rfl (Val.load rfl (fun hg=>rdFz (p:=p) (u := .int .i64 (ord.getD j 0:Nat)) (b:=bo) (by rw [off1];exact hbo j _ (by unfold intN;rw [List.getElem?_map,hoj];rfl)))) rfl rfl rfl ?_)|(show T _ (.run _ _ (_::_) _ _::_) _ _ _;refine rcE rfl rfl rfl rfl rfl rfl rfl (fun w hw=>add21_spec (hg.addW hw.below (hg.hst.cls hw) hc hbs hq hlt (by omega) (by omega) (srcRw w hw) (hq9.own hw) htm) capt t.cap hpr) (fun y9 _=>?_))|fail)
  refine T_if rfl (fun h5=>by exfalso;simp at h5) (fun _=>?_)
  repeat' (first|refine d1 ?_|(show T _ (.ops _ (_::_)::_) _ _ _;refine T_op (OpT.append rfl rfl rfl rfl rfl rfl rfl rfl rfl rfl (fun w hw=>Src.own hw rfl) rfl (by dsimp only;omega) (by omega) (fun A' cap' hA'=>?_)))|(show ∀ _:Nat,T _ _ _ _ _;intro _))
  refine T_backX (j+1,(A',cap'),y9) (Nat.succ_le_of_lt hjn) (by dsimp only;omega) (hG:=?_)
  dsimp only
  rw [takS_succ (by omega),List.map_append,hts,hst,show List.map TS.val [t]=flatP [(0, .slice t.A t.n t.cap)] from rfl]
  exact Hle.srt
 ·simp only [decide_eq_false_iff_not] at h3
  obtain rfl:j=l.length:=by omega
  refine T_le (H':=[dat [K] [rowsD (stgV c l ord l.length)],row 38 1 At capt l.length ((takS l ord l.length).map TS.val),fz p,blk pc c.cells 23]) Hle.srt ?_
  refine T_open fun q hq9=>?_
  have hso:=stgV_ok (c:=c) hlt hg.ok.len l.length (by omega)
  have hlen:=(stg_prod (c:=c) hlt hln (j:=l.length) (m:=0) (by omega) (by omega) (by omega)).1
  repeat' (first|refine d1 ?_|(show T _ (.ops _ (_::_)::_) _ _ _;refine T_op (OpT.call rfl rfl rfl rfl rfl (fun w hw=>arranged_spec K (stgV c l ord l.length) Ao l.length co ord w (hq9.own hw) (by have h9:=(hp2.own hw).intsAt;rw [intN_val] at h9;exact h9) hol (fun r hr=>by rw [hso.len r hr,lens_len,takS_len (by omega)]) hlt (by omega) (by omega)) ?_))|fail)
  rintro v R ⟨y,-,rfl,rfl⟩
  repeat' (first|refine d1 ?_|(show T _ (.code .ret::_) _ _ _;refine T_retV _ rfl (Hle.nth 0 rfl) ⟨_,trivial,rfl,rfl⟩))
end Go.Proofs.YtblnhdnogjijiaaGreatDoor
namespace Go.Proofs.YtblnhdnogjijiaaGreatDoor
open Go.RowKit Go.Shelf Go.Proofs
set_option maxRecDepth 100000
set_option maxHeartbeats 4000000

theorem addR21_spec (c:Costs) (A:Option Addr) (n ca:Nat) (l:List TS) (x:Value) (cols:List (List Int)) (At:Option Addr) (m ct:Nat) (t:List Tok) (w:World) (hgr:Grp w A n l) (hn31:n≤31) (hx:Rd (wr w) [x] [rowsD cols]) (hsz:cols.length≤100000)
  (hts:Src w 6 At m (t.flatMap Tok.cells)) (htl:t.length=m) (hm:m≤1000) (hsm:∀ y∈t,y.small) (hprod:((cols.length:Int)+1) * ((m:Int)+1)≤1048576) :
  Spec Tryz.prog 125 [c.val, .slice A n ca,x, .slice At m ct] w (fun v R=>∃ y:Value,True∧v = .tuple #[y, .int .i64 (addRV c l cols t).2]∧R=[dat [y] [rowsD (addRV c l cols t).1]]):=by
 have hx0:=hx
 have hn:=hgr.hn
 have hprod0:0≤((cols.length:Int)+1) * ((m:Int)+1):=Int.mul_nonneg (by omega) (by omega)
 obtain⟨Ak,ck,csk,rfl,hck1,hck2,hcs,hrows⟩:=hx.tabS
 refine spec_of sg Tryz.func125 rfl rfl rfl ?_
 refine T_op (OpT.box (cs:=c.cells) rfl rfl rfl rfl rfl rfl rfl (fun pc=>?_))
 repeat' (first|refine d1 ?_|(show T _ (.ops _ (_::_)::_) _ _ _;refine T_call rfl rfl rfl rfl rfl (fun w hw=>checkCols_spec c A n ca l _ cols w (hgr.cls hw) (hx0.old hw)) ?_)|fail)
 refine T_if rfl (fun h=>?_) (fun h=>?_)
 ·simp only [Bool.not_eq_true',decide_eq_false_iff_not] at h
  have e:addRV c l cols t=([],ckcV c l cols):=if_pos h
  rw [e]
  repeat' (first|refine d1 ?_|(show ∀ _:Nat,T _ _ _ _ _;intro _)|(show T _ (.code .ret::_) _ _ _;refine T_retV _ rfl (dat_blkV (sz:=1) (n:=0) rfl (by omega) |>.trans (Hle.nth 0 rfl)) ⟨_,trivial,rfl,rfl⟩))
 simp only [Bool.not_eq_false',decide_eq_true_eq] at h
 obtain⟨hck,hcolok⟩:=ckcV_ok h
 obtain⟨hc,hbs⟩:=ck21_ok hck
 repeat' (first|refine d1 ?_|fail)
 refine T_if rfl (fun h1=>by exfalso;simp at h1;omega) (fun _=>?_)
 repeat' (first|refine d1 ?_|(show T _ (.ops _ (_::_)::_) _ _ _;refine T_call rfl rfl rfl rfl rfl (fun w hw=>source21_spec At m ct t w (src_below hts hw.below) htl hm) ?_)|fail)
 refine T_if rfl (fun h1=>?_) (fun h1=>?_)
 ·have hb:badL t=true:=by
   cases hb:badL t with
   | true=>rfl
   | false=>rw [hb] at h1;simp at h1
  have e:addRV c l cols t=([],1):=by unfold addRV;rw [if_neg (by simpa using h),if_pos hb]
  rw [e,hb]
  repeat' (first|refine d1 ?_|(show ∀ _:Nat,T _ _ _ _ _;intro _)|(show T _ (.code .ret::_) _ _ _;refine T_retV _ rfl (dat_blkV (sz:=1) (n:=0) rfl (by omega) |>.trans (Hle.nth 0 rfl)) ⟨_,trivial,rfl,rfl⟩))
 have hb:badL t=false:=by
  cases hb:badL t with
  | false=>rfl
  | true=>rw [hb] at h1;simp at h1
 have e:addRV c l cols t=(addV c l cols t 0 0,0):=by unfold addRV;rw [if_neg (by simpa using h),if_neg (by rw [hb];simp)]
 rw [e]
 have hA:AddW w c A n l (.slice Ak cols.length ck) cols At m t:=⟨hgr,hc,hbs,hx0,hcolok,hts,htl,hm,badL_false.1 hb,hsm,hsz⟩
 have hte:=hA.hte
 have hG:=hA.ok
 have e1:(grdA c l cols t).n=cols.length:=rfl
 have e2:(grdA c l cols t).m=m:=htl
 have hcolr:∀ {i:Nat},i<cols.length→∃ (b o:Nat) (r:List Int) (Au:Option Addr) (capu:Nat),Ak=some ⟨b,o,none⟩∧cols.getD i []=r∧ColOk l r∧r.length=n∧RdC w b (o+(i:Int).toNat * 1) [.slice Au n capu]∧Src w 1 Au n (r.map (Value.int .i64)):=fun {i} hi=>by
  obtain⟨b,o,rfl⟩:=hcs.base (by omega)
  obtain⟨r,hr⟩:∃ r,cols[i]?=some r:=⟨_,List.getElem?_eq_getElem hi⟩
  obtain⟨Au,capu,hu,-,-,hA9⟩:=hrows.tabRow hr
  have hco:=hcolok r (List.mem_of_getElem? hr)
  have hrl:r.length=n:=by rw [hco.1,hn]
  have h8:=rowHd hcs hi hu
  have h9:=rowSrc hA9
  rw [hrl] at h8 h9
  exact⟨b,o,r,Au,capu,rfl,by rw [List.getD_eq_getElem?_getD,hr];rfl,hco,hrl,h8,h9⟩
 repeat' (first|refine d1 ?_|fail)
 refine T_if rfl (fun h2=>by exfalso;simp only [decide_eq_true_eq] at h2;omega) (fun _=>?_)
 repeat' (first|refine d1 ?_|(show ∀ _:Nat,T _ _ _ _ _;intro _))
 rename_i b0
 refine T_le (H':=[row 3 1 (some ⟨b0,0,none⟩) 0 0 [],blk pc c.cells 23]) (Hle.weaken (i:=0) rfl (blk_row (sz:=1) (n:=0) rfl (by simp only [maxLen];omega)) rfl) ?_
 refine T_loopX (fun s:Nat × Nat × Nat=>[(15, .int .i64 s.1),(14, .slice (some ⟨s.2.1,0,none⟩) s.1 s.2.2)]) (fun s=>[row 3 1 (some ⟨s.2.1,0,none⟩) s.2.2 s.1 (List.replicate s.1 (.int .i64 (-1))),blk pc c.cells 23]) (fun s=>s.1≤n) (fun s=>n - s.1) (0,b0,0) (Nat.zero_le _) ?_
 rintro⟨i,gn,capn⟩ hi
 dsimp only at hi ⊢
 repeat' (first|refine d1 ?_|fail)
 refine T_if rfl (fun h2=>?_) (fun h2=>?_)
 ·simp only [decide_eq_true_eq] at h2
  repeat' (first|refine d1 ?_|(show T _ (.ops _ (_::_)::_) _ _ _;refine T_op (OpT.append rfl rfl rfl rfl rfl rfl rfl rfl rfl rfl (fun w hw=>Src.own hw rfl) rfl (by dsimp only;omega) (by omega) (fun A' cap' hA'=>?_)))|(show ∀ _:Nat,T _ _ _ _ _;intro _))
  obtain⟨g',rfl⟩:=hA' (by omega)
  refine T_backX (i+1,g',cap') (Nat.succ_le_of_lt (by omega)) (by dsimp only;omega) (hG:=?_)
  dsimp only
  rw [List.replicate_succ']
  exact Hle.tail _ _
 simp only [decide_eq_false_iff_not] at h2
 have hin9:n=i:=by omega
 subst hin9
 clear h2 hi
 have hnn:(noneC l.length).map (Value.int .i64)=List.replicate n (.int .i64 (-1)):=by unfold noneC;rw [hn,List.map_replicate]
 repeat' (first|refine d1 ?_|(show T _ (.ops _ (_::_)::_) _ _ _;refine T_op (OpT.make rfl rfl rfl rfl rfl rfl rfl rfl rfl (by dsimp only;omega) (fun b1=>?_)))|fail)
 refine T_keep [(1, .slice A n ca),(2, .slice Ak cols.length ck),(3, .slice At m ct),(4, .pointer (some ⟨pc,0,none⟩)),(12, .int .i64 cols.length),(13, .int .i64 m),(14, .slice (some ⟨gn,0,none⟩) n capn),(16, .slice (some ⟨b1,0,none⟩) (cols.length+1) (cols.length+1)),(17, .int .i64 cols.length)] ⟨rfl,rfl,rfl,rfl,rfl,rfl,rfl,rfl,rfl,trivial⟩ ?_
 refine T_nilblks 3 ?_
 refine T_loopX (fun L:List (Nat × List Value)=>[(17, .int .i64 ((cols.length:Int) - L.length))]) (fun L=>[blks 3 L,blk b1 (List.replicate (cols.length+1 - L.length) (.slice none 0 0)++L.map (slv m)) 47,row 3 1 (some ⟨gn,0,none⟩) capn n (List.replicate n (.int .i64 (-1))),blk pc c.cells 23]) (fun L=>L.length≤cols.length+1∧RowsOk (fun j=>rst (grdA c l cols t) (cols.length+1 - L.length+j)) (m+1) L) (fun L=>cols.length+1 - L.length) [] ⟨Nat.zero_le _,fun i x h=>by simp at h⟩ ?_ (hE:=⟨by rw [show (cols.length:Int) - (([]:List (Nat × List Value)).length:Int)=cols.length by simp];rfl,trivial⟩) (hG:=by simp only [List.map_nil,List.append_nil,List.length_nil,Nat.sub_zero];exact Hle.refl _)
 rintro Lr ⟨hL,hRL⟩
 repeat' (first|refine d1 ?_|fail)
 refine T_if rfl (fun h3=>?_) (fun h3=>?_)
 ·simp only [decide_eq_true_eq] at h3
  obtain⟨i,hi⟩:∃ i,i+Lr.length=cols.length:=⟨cols.length - Lr.length,by omega⟩
  rw [show cols.length+1 - Lr.length=i+1 by omega] at hRL ⊢
  rw [show (cols.length:Int) - Lr.length=(i:Nat) by omega]
  repeat' (first|refine d1 ?_|(show T _ (.ops _ (_::_)::_) _ _ _;refine T_op (OpT.make rfl rfl rfl rfl rfl rfl rfl rfl rfl (by dsimp only;omega) (fun b2=>?_)))|fail)
  rw [set_mid i _ _ _ _ (show 0+(i:Int).toNat * 1=i by omega)]
  refine T_le (H':=[blks 3 ((b2,valV (frt (grdA c l cols t) m i 0) (m+1))::Lr),blk b1 (List.replicate i (.slice none 0 0) ++ .slice (some ⟨b2,0,none⟩) (m+1) (m+1)::Lr.map (slv m)) 47,row 3 1 (some ⟨gn,0,none⟩) capn n (List.replicate n (.int .i64 (-1))),blk pc c.cells 23]) (by rw [← frt_zero];exact blks_cons) ?_
  refine T_loopX (fun q:Nat=>[(18, .int .i64 ((m:Int) - q))]) (fun q=>[blks 3 ((b2,valV (frt (grdA c l cols t) m i q) (m+1))::Lr),blk b1 (List.replicate i (.slice none 0 0) ++ .slice (some ⟨b2,0,none⟩) (m+1) (m+1)::Lr.map (slv m)) 47,row 3 1 (some ⟨gn,0,none⟩) capn n (List.replicate n (.int .i64 (-1))),blk pc c.cells 23]) (fun q=>q≤m+1) (fun q=>m+1 - q) 0 (Nat.zero_le _) ?_ (hE:=⟨by rw [show (m:Int) - ((0:Nat):Int)=m by omega];rfl,trivial⟩)
  intro q hq
  repeat' (first|refine d1 ?_|fail)
  refine T_if rfl (fun h4=>?_) (fun h4=>?_)
  ·simp only [decide_eq_true_eq] at h4
   obtain⟨k,hk⟩:∃ k,k+q=m:=⟨m - q,by omega⟩
   rw [show (m:Int) - q=(k:Nat) by omega]
   have r1:=hA.rst (i+1) (k+1)
   have r2:=hA.rst (i+1) k
   have r3:=hA.rst i (k+1)
   have qp:=hG.p i k
   have qg:=hG.g i
   have qh:=hG.h k
   have hbb:=bst_bd hG i k
   have hV0:((b2,valV (frt (grdA c l cols t) m i q) (m+1))::Lr)[0]?=some (b2,valV (frt (grdA c l cols t) m i q) (m+1)):=rfl
   repeat' (first|refine d1 ?_|fail)
   refine T_cutX 1 [19] (fun _:Unit=>[(19, .int .i64 (bst1 (grdA c l cols t) i k))]) (fun _=>[blks 3 ((b2,valV (frt (grdA c l cols t) m i q) (m+1))::Lr),blk b1 (List.replicate i (.slice none 0 0) ++ .slice (some ⟨b2,0,none⟩) (m+1) (m+1)::Lr.map (slv m)) 47,row 3 1 (some ⟨gn,0,none⟩) capn n (List.replicate n (.int .i64 (-1))),blk pc c.cells 23]) (fun _=>True) ?_ ?_
   ·refine T_if rfl (fun h5=>?_) (fun h5=>?_)
    ·simp only [Bool.and_eq_true,decide_eq_true_eq] at h5
     have hin:i<cols.length:=by omega
     have hkm:k<m:=by omega
     obtain⟨b,o,r,Au,capu,rfl,hgd,hco,hrl,hr0,hsr⟩:=hcolr hin
     obtain⟨⟨g1,c1⟩,hL0⟩:∃ x,Lr[0]?=some x:=⟨_,List.getElem?_eq_getElem (by omega)⟩
     have hc1:c1=_:=hRL _ _ hL0
     have hV1:((b2,valV (frt (grdA c l cols t) m i q) (m+1))::Lr)[1]?=some (g1,c1):=by simpa using hL0
     have ep:(grdA c l cols t).p i k=putC c l r t (k:Nat):=by show putC c l (cols.getD i []) t (k:Nat)=_;rw [hgd]
     rw [ep] at qp
     repeat' (first|refine dd ?_|(show T _ (.run _ _ (_::_) _ _::_) _ _ _;first|refine rc rfl rfl rfl rfl rfl rfl rfl (fun w hw=>put21_spec c A Au At n ca capu m ct l r t k w (hgr.cls hw) hc hbs (src_below hsr hw.below) hco (src_below hts hw.below) htl hm hte (by omega)) ?_|refine rv rfl rfl rfl (Val.load rfl (fun hg=>rdOwn1 (u := .slice (some ⟨g1,0,none⟩) (m+1) (m+1)) (b:=b1) (by rw [show 0+((i:Int)+1).toNat * 1=i+1+0 by omega];exact hdr_get (by rw [List.getElem?_map,hL0];rfl)))) rfl rfl rfl ?_|refine rv rfl rfl rfl (Val.load rfl (fun hg=>rdM (k:=1) (g:=g1) (vs:=[.int .i64 (rst (grdA c l cols t) (i+1) (k+1))]) hV1 (get1 (by rw [hc1];exact vget (k+1) (by omega) (by omega))))) rfl rfl rfl ?_)|fail)
     exact T_meetX () trivial (hE:=⟨by unfold bst1;rw [if_pos ⟨by rw [e1];exact hin,by rw [e2];exact hkm⟩,ep];rfl,trivial⟩)
    ·have hno:¬ (i<(grdA c l cols t).n∧k<(grdA c l cols t).m):=fun h9=>by
      rw [e1,e2] at h9
      rw [decide_eq_true (show (i:Int)<cols.length by omega),decide_eq_true (show (k:Int)<m by omega)] at h5
      cases h5
     exact T_meetX () trivial (hE:=⟨by unfold bst1;rw [if_neg hno];rfl,trivial⟩)
   rintro⟨⟩ _
   repeat' (first|refine d1 ?_|fail)
   refine T_cutX 1 [19] (fun _:Unit=>[(19, .int .i64 (bst2 (grdA c l cols t) i k))]) (fun _=>[blks 3 ((b2,valV (frt (grdA c l cols t) m i q) (m+1))::Lr),blk b1 (List.replicate i (.slice none 0 0) ++ .slice (some ⟨b2,0,none⟩) (m+1) (m+1)::Lr.map (slv m)) 47,row 3 1 (some ⟨gn,0,none⟩) capn n (List.replicate n (.int .i64 (-1))),blk pc c.cells 23]) (fun _=>True) ?_ ?_
   ·refine T_if rfl (fun h5=>?_) (fun h5=>?_)
    ·simp only [decide_eq_true_eq] at h5
     have hin:i<cols.length:=by omega
     obtain⟨b,o,r,Au,capu,rfl,hgd,hco,hrl,hr0,hsr⟩:=hcolr hin
     obtain⟨⟨g1,c1⟩,hL0⟩:∃ x,Lr[0]?=some x:=⟨_,List.getElem?_eq_getElem (by omega)⟩
     have hc1:c1=_:=hRL _ _ hL0
     have hV1:((b2,valV (frt (grdA c l cols t) m i q) (m+1))::Lr)[1]?=some (g1,c1):=by simpa using hL0
     have eg:(grdA c l cols t).g i=putC c l r t (-1):=by show putC c l (cols.getD i []) t (-1)=_;rw [hgd]
     have es:bst2 (grdA c l cols t) i k=bst (bst1 (grdA c l cols t) i k) (putC c l r t (-1)+rst (grdA c l cols t) (i+1) k):=by unfold bst2;rw [if_pos (by rw [e1];exact hin),eg]
     rw [eg] at qg
     repeat' (first|refine d1 ?_|refine dd ?_|(show T _ (.run _ _ (_::_) _ _::_) _ _ _;first|refine rc rfl rfl rfl rfl rfl rfl rfl (fun w hw=>put21_spec c A Au At n ca capu m ct l r t (-1) w (hgr.cls hw) hc hbs (src_below hsr hw.below) hco (src_below hts hw.below) htl hm hte (by omega)) ?_|refine rv rfl rfl rfl (Val.load rfl (fun hg=>rdOwn1 (u := .slice (some ⟨g1,0,none⟩) (m+1) (m+1)) (b:=b1) (by rw [show 0+((i:Int)+1).toNat * 1=i+1+0 by omega];exact hdr_get (by rw [List.getElem?_map,hL0];rfl)))) rfl rfl rfl ?_|refine rv rfl rfl rfl (Val.load rfl (fun hg=>rdM (k:=1) (g:=g1) (vs:=[.int .i64 (rst (grdA c l cols t) (i+1) k)]) hV1 (get1 (by rw [hc1];exact vget k (by omega) (by omega))))) rfl rfl rfl ?_)|fail)
     refine T_if rfl (fun h6=>?_) (fun h6=>?_)
     ·simp only [Bool.or_eq_true,decide_eq_true_eq] at h6
      repeat' (first|refine d1 ?_|fail)
      exact T_meetX () trivial (hE:=⟨by rw [es];unfold bst;rw [if_pos h6];rfl,trivial⟩)
     ·simp only [Bool.or_eq_false_iff,decide_eq_false_iff_not] at h6
      exact T_meetX () trivial (hE:=⟨by rw [es];unfold bst;rw [if_neg (fun h9=>h9.elim h6.1 h6.2)];rfl,trivial⟩)
    ·simp only [decide_eq_false_iff_not] at h5
     exact T_meetX () trivial (hE:=⟨by unfold bst2;rw [if_neg (by rw [e1];omega)];rfl,trivial⟩)
   rintro⟨⟩ _
   repeat' (first|refine d1 ?_|fail)
   refine T_cutX 1 [19] (fun _:Unit=>[(19, .int .i64 (bst3 (grdA c l cols t) i k))]) (fun _=>[blks 3 ((b2,valV (frt (grdA c l cols t) m i q) (m+1))::Lr),blk b1 (List.replicate i (.slice none 0 0) ++ .slice (some ⟨b2,0,none⟩) (m+1) (m+1)::Lr.map (slv m)) 47,row 3 1 (some ⟨gn,0,none⟩) capn n (List.replicate n (.int .i64 (-1))),blk pc c.cells 23]) (fun _=>True) ?_ ?_
   ·refine T_if rfl (fun h5=>?_) (fun h5=>?_)
    ·simp only [decide_eq_true_eq] at h5
     have hkm:k<m:=by omega
     have eh:(grdA c l cols t).h k=putC c l (noneC l.length) t (k:Nat):=rfl
     have es:bst3 (grdA c l cols t) i k=bst (bst2 (grdA c l cols t) i k) (putC c l (noneC l.length) t (k:Nat)+rst (grdA c l cols t) i (k+1)):=by unfold bst3;rw [if_pos (by rw [e2];exact hkm),eh]
     rw [eh] at qh
     repeat' (first|refine d1 ?_|refine dd ?_|(show T _ (.run _ _ (_::_) _ _::_) _ _ _;first|refine rc rfl rfl rfl rfl rfl rfl rfl (fun w hw=>put21_spec c A (some ⟨gn,0,none⟩) At n ca capn m ct l (noneC l.length) t k w (hgr.cls hw) hc hbs (by rw [hnn];exact srcRw w hw) (noneC_ok l) (src_below hts hw.below) htl hm hte (by omega)) ?_|refine rv rfl rfl rfl (Val.load rfl (fun hg=>rdOwn1 (u := .slice (some ⟨b2,0,none⟩) (m+1) (m+1)) (b:=b1) (by rw [show 0+(i:Int).toNat * 1=i by omega];exact hdr_mid _ _ _ _))) rfl rfl rfl ?_|refine rv rfl rfl rfl (Val.load rfl (fun hg=>rdM (k:=0) (g:=b2) (vs:=[.int .i64 (rst (grdA c l cols t) i (k+1))]) hV0 (get1 (by rw [← show frt (grdA c l cols t) m i q (k+1)=rst (grdA c l cols t) i (k+1) from if_pos (by omega)];exact vget (k+1) (by omega) (by omega))))) rfl rfl rfl ?_)|fail)
     refine T_if rfl (fun h6=>?_) (fun h6=>?_)
     ·simp only [Bool.or_eq_true,decide_eq_true_eq] at h6
      repeat' (first|refine d1 ?_|fail)
      exact T_meetX () trivial (hE:=⟨by rw [es];unfold bst;rw [if_pos h6];rfl,trivial⟩)
     ·simp only [Bool.or_eq_false_iff,decide_eq_false_iff_not] at h6
      exact T_meetX () trivial (hE:=⟨by rw [es];unfold bst;rw [if_neg (fun h9=>h9.elim h6.1 h6.2)];rfl,trivial⟩)
    ·simp only [decide_eq_false_iff_not] at h5
     exact T_meetX () trivial (hE:=⟨by unfold bst3;rw [if_neg (by rw [e2];omega)];rfl,trivial⟩)
   rintro⟨⟩ _
   repeat' (first|refine d1 ?_|(show T _ (.ops _ (_::_)::_) _ _ _;first|refine T_val rfl (Val.load rfl (fun hg=>rdOwn1 (u := .slice (some ⟨b2,0,none⟩) (m+1) (m+1)) (b:=b1) (by rw [show 0+(i:Int).toNat * 1=i by omega];exact hdr_mid _ _ _ _))) rfl rfl rfl ?_|refine T_op (OpT.storeM rfl rfl rfl hV0 rfl (by rw [valV_length];omega) ?_))|fail)
   rw [show 0+(k:Int).toNat * 1=k by omega,bst_rst hG]
   exact T_backX (q+1) (by omega) (by omega) (hE:=⟨by rw [show (m:Int) - ((q+1:Nat):Int)=(k:Int) - 1 by omega];rfl,trivial⟩) (hG:=by rw [← frt_succ (grdA c l cols t) (i:=i) hk];exact Hle.refl _)
  ·simp only [decide_eq_false_iff_not] at h4
   obtain rfl:q=m+1:=by omega
   repeat' (first|refine d1 ?_|fail)
   refine T_backX ((b2,valV (rst (grdA c l cols t) i) (m+1))::Lr) ⟨by simp;omega,fun j x hx=>?_⟩ (by simp;omega) (hE:=⟨by rw [show (cols.length:Int) - (((b2,valV (rst (grdA c l cols t) i) (m+1))::Lr).length:Int)=(i:Int) - 1 by simp;omega];rfl,trivial⟩) (hG:=?_)
   ·dsimp only
    rw [show cols.length+1 - ((b2,valV (rst (grdA c l cols t) i) (m+1))::Lr).length+j=i+j by simp;omega]
    cases j with
    | zero=>simp at hx;subst hx;rfl
    | succ j =>
     have:=hRL j x (by simpa using hx)
     rw [this]
     show valV (rst (grdA c l cols t) (i+1+j)) _=_
     rw [show i+1+j=i+(j+1) by omega]
   ·rw [show cols.length+1 - ((b2,valV (rst (grdA c l cols t) i) (m+1))::Lr).length=i by simp;omega,frt_all]
    exact Hle.refl _
 simp only [decide_eq_false_iff_not] at h3
 have hLn:Lr.length=cols.length+1:=by omega
 rw [show cols.length+1 - Lr.length=0 by omega] at hRL ⊢
 have hR':RowsOk (rst (grdA c l cols t)) (m+1) Lr:=fun j x hx=>by
  have:=hRL j x hx
  rw [this]
  show valV (rst (grdA c l cols t) (0+j)) _=_
  rw [Nat.zero_add]
 refine T_le ((Hle.weaken (i:=1) (K:=[blks 3 Lr,row 47 1 (some ⟨b1,0,none⟩) (cols.length+1) (cols.length+1) (Lr.map (slv m)),row 3 1 (some ⟨gn,0,none⟩) capn n (List.replicate n (.int .i64 (-1))),blk pc c.cells 23]) rfl (blk_row (sz:=1) (n:=cols.length+1) (by simp;omega) (by simp only [maxLen];omega)) rfl).trans (tbl_hle hm hLn hR')) ?_
 refine T_open fun pt hpt=>?_
 obtain⟨Agt,capt,cst,he,-,-,-,hAt,hrt⟩:=hpt.tab
 rw [tabR_length] at hAt he
 simp only [Value.slice.injEq,true_and] at he
 obtain⟨rfl,rfl⟩:=he
 obtain⟨bt,ot,hbo,hbt⟩:=hAt (by omega)
 simp only [Option.some.injEq,Addr.mk.injEq,and_true] at hbo
 obtain⟨rfl,rfl⟩:=hbo
 repeat' (first|refine d1 ?_|(show ∀ _:Nat,T _ _ _ _ _;intro _))
 rename_i b5
 refine T_keep [(1, .slice A n ca),(2, .slice Ak cols.length ck),(3, .slice At m ct),(4, .pointer (some ⟨pc,0,none⟩)),(12, .int .i64 cols.length),(13, .int .i64 m),(14, .slice (some ⟨gn,0,none⟩) n capn),(16, .slice (some ⟨b1,0,none⟩) (cols.length+1) (cols.length+1)),(22, .slice (some ⟨b5,0,none⟩) 0 0),(23, .int .i64 0),(24, .int .i64 0)] ⟨rfl,rfl,rfl,rfl,rfl,rfl,rfl,rfl,rfl,rfl,rfl,trivial⟩ ?_
 refine T_le (H':=[row 47 1 (some ⟨b5,0,none⟩) 0 0 [],dat [] [],fz pt,row 3 1 (some ⟨gn,0,none⟩) capn n (List.replicate n (.int .i64 (-1))),blk pc c.cells 23]) ((Hle.weaken (i:=0) rfl (blk_row (sz:=1) (n:=0) rfl (by simp only [maxLen];omega)) rfl).trans ((dat_nil _).trans (Hle.perm (List.Perm.swap _ _ _)))) ?_
 refine T_loopX (fun x:Nat × Nat × (Option Addr × Nat) × List Value × List (List Int)=>[(23, .int .i64 x.1),(24, .int .i64 x.2.1),(22, .slice x.2.2.1.1 x.2.2.2.2.length x.2.2.1.2)]) (fun x=>[row 47 1 x.2.2.1.1 x.2.2.1.2 x.2.2.2.2.length x.2.2.2.1,dat x.2.2.2.1 (x.2.2.2.2.map intsD),fz pt,row 3 1 (some ⟨gn,0,none⟩) capn n (List.replicate n (.int .i64 (-1))),blk pc c.cells 23]) (fun x=>x.1≤cols.length∧x.2.1≤m∧x.2.2.2.2.length≤x.1+x.2.1∧addV c l cols t 0 0=x.2.2.2.2++addV c l cols t x.1 x.2.1) (fun x=>(cols.length - x.1)+(m - x.2.1)) (0,0,(some ⟨b5,0,none⟩,0),[],[]) ⟨Nat.zero_le _,Nat.zero_le _,Nat.zero_le _,rfl⟩ ?_
 rintro⟨i,k,⟨Ao,capo⟩,hs,out⟩ ⟨hi,hk,hlo,hout⟩
 dsimp only at hi hk hlo hout ⊢
 repeat' (first|refine d1 ?_|fail)
 refine T_if rfl (fun h3=>?_) (fun h3=>?_)
 ·have h3':i<cols.length∨k<m:=by simpa using h3
  have q1:=hA.rst (i+1) (k+1)
  have q2:=hA.rst (i+1) k
  have q3:=hA.rst i k
  have qp:=hG.p i k
  have qg:=hG.g i
  obtain⟨Ar0,capr0,hcr0,-,-,hAr0⟩:=hrt.tabRow (tabR_get hi)
  rw [List.length_map,List.length_range] at hcr0 hAr0
  obtain⟨br0,or0,rfl,hbr0⟩:=hAr0 (by omega)
  refine T_cutX 1 [192] (fun vb:Bool=>[(192, .bool vb)]) (fun _=>[row 47 1 Ao capo out.length hs,dat hs (out.map intsD),fz pt,row 3 1 (some ⟨gn,0,none⟩) capn n (List.replicate n (.int .i64 (-1))),blk pc c.cells 23]) (fun vb=>vb=decide ((i<cols.length∧k<m)∧(grdA c l cols t).p i k+rst (grdA c l cols t) (i+1) (k+1)=rst (grdA c l cols t) i k)) ?_ ?_
  ·by_cases hik:i<cols.length∧k<m
   ·obtain⟨b,o,r,Au,capu,rfl,hgd,hco,hrl,hr0,hsr⟩:=hcolr hik.1
    have ep:(grdA c l cols t).p i k=putC c l r t (k:Nat):=by show putC c l (cols.getD i []) t (k:Nat)=_;rw [hgd]
    rw [ep] at qp
    obtain⟨Ar1,capr1,hcr1,-,-,hAr1⟩:=hrt.tabRow (tabR_get (show i+1≤cols.length by omega))
    rw [List.length_map,List.length_range] at hcr1 hAr1
    obtain⟨br1,or1,rfl,hbr1⟩:=hAr1 (by omega)
    repeat' (first|refine dd ?_|(show T _ (.run _ _ (_::_) _ _::_) _ _ _;first|refine rcG rfl rfl rfl rfl rfl rfl rfl rfl rfl (fun hg w hw=>put21_spec c A Au At n ca capu m ct l r t k w (hgr.cls ‹_›) hc hbs (src_below hsr (Cls.below ‹_›)) hco (src_below hts (Cls.below ‹_›)) htl hm hte (by omega)) ?_|refine rg rfl rfl rfl (Val.load rfl (fun hg=>rdFz (p:=pt) (u := .slice (some ⟨br1,or1,none⟩) (m+1) capr1) (b:=b1) (by rw [show 0+((i:Int)+1).toNat * 1=0+(i+1) by omega];exact hbt _ _ hcr1))) rfl rfl rfl rfl rfl ?_|refine rg rfl rfl rfl (Val.load rfl (fun hg=>rdFz (p:=pt) (u := .int .i64 (rst (grdA c l cols t) (i+1) (k+1))) (b:=br1) (by rw [show or1+((k:Int)+1).toNat * 1=or1+(k+1) by omega];exact hbr1 _ _ (tabR_cell (by omega))))) rfl rfl rfl rfl rfl ?_|refine rg rfl rfl rfl (Val.load rfl (fun hg=>rdFz (p:=pt) (u := .slice (some ⟨br0,or0,none⟩) (m+1) capr0) (b:=b1) (by rw [off1];exact hbt _ _ hcr0))) rfl rfl rfl rfl rfl ?_|refine rg rfl rfl rfl (Val.load rfl (fun hg=>rdFz (p:=pt) (u := .int .i64 (rst (grdA c l cols t) i k)) (b:=br0) (by rw [off1];exact hbr0 _ _ (tabR_cell hk)))) rfl rfl rfl rfl rfl ?_)|fail)
    refine T_meetX _ ?_ (hE:=⟨rfl,trivial⟩)
    rw [ep]
    have q8:(decide ((i:Int)<cols.length))=true:=decide_eq_true (by omega)
    have q9:(decide ((k:Int)<m))=true:=decide_eq_true (by omega)
    simp only [q8,q9,Bool.true_and,hik,and_self,true_and]
   ·repeat' (first|refine dd ?_|(show T _ (.run _ _ (_::_) _ _::_) _ _ _;first|refine rg rfl rfl rfl (Val.neverP rfl (fun hg=>by exfalso;first|((simp only [List.cons_append,List.nil_append,GP,dstL,lookE,Nat.beq,cond,List.getElem?_cons_zero,List.getElem?_cons_succ,Option.bind_some,and_true,Bool.and_eq_true,Bool.or_eq_true,Bool.and_eq_false_iff,Bool.or_eq_false_iff,Bool.not_eq_true',Bool.not_eq_false',decide_eq_true_eq,decide_eq_false_iff_not] at hg);done)|((simp only [List.cons_append,List.nil_append,GP,dstL,lookE,Nat.beq,cond,List.getElem?_cons_zero,List.getElem?_cons_succ,Option.bind_some,and_true,Bool.and_eq_true,Bool.or_eq_true,Bool.and_eq_false_iff,Bool.or_eq_false_iff,Bool.not_eq_true',Bool.not_eq_false',decide_eq_true_eq,decide_eq_false_iff_not] at hg);omega))) rfl rfl rfl rfl rfl ?_|refine rg rfl rfl rfl (Val.neverI rfl (fun hg=>by exfalso;first|((simp only [List.cons_append,List.nil_append,GP,dstL,lookE,Nat.beq,cond,List.getElem?_cons_zero,List.getElem?_cons_succ,Option.bind_some,and_true,Bool.and_eq_true,Bool.or_eq_true,Bool.and_eq_false_iff,Bool.or_eq_false_iff,Bool.not_eq_true',Bool.not_eq_false',decide_eq_true_eq,decide_eq_false_iff_not] at hg);done)|((simp only [List.cons_append,List.nil_append,GP,dstL,lookE,Nat.beq,cond,List.getElem?_cons_zero,List.getElem?_cons_succ,Option.bind_some,and_true,Bool.and_eq_true,Bool.or_eq_true,Bool.and_eq_false_iff,Bool.or_eq_false_iff,Bool.not_eq_true',Bool.not_eq_false',decide_eq_true_eq,decide_eq_false_iff_not] at hg);omega))) rfl rfl rfl rfl rfl ?_|refine ro rfl rfl (OpT.never (.int .i64 0) rfl (fun hg=>by exfalso;first|((simp only [List.cons_append,List.nil_append,GP,dstL,lookE,Nat.beq,cond,List.getElem?_cons_zero,List.getElem?_cons_succ,Option.bind_some,and_true,Bool.and_eq_true,Bool.or_eq_true,Bool.and_eq_false_iff,Bool.or_eq_false_iff,Bool.not_eq_true',Bool.not_eq_false',decide_eq_true_eq,decide_eq_false_iff_not] at hg);done)|((simp only [List.cons_append,List.nil_append,GP,dstL,lookE,Nat.beq,cond,List.getElem?_cons_zero,List.getElem?_cons_succ,Option.bind_some,and_true,Bool.and_eq_true,Bool.or_eq_true,Bool.and_eq_false_iff,Bool.or_eq_false_iff,Bool.not_eq_true',Bool.not_eq_false',decide_eq_true_eq,decide_eq_false_iff_not] at hg);omega)) rfl rfl rfl rfl rfl ⟨fun _=>Hle.sub,?_⟩))|fail)
    refine T_meetX _ ?_ (hE:=⟨rfl,trivial⟩)
    have q8:(decide ((i:Int)<cols.length) && decide ((k:Int)<m))=false:=by
     rw [Bool.eq_false_iff]
     intro h9
     simp only [Bool.and_eq_true,decide_eq_true_eq] at h9
     exact hik ⟨by omega,by omega⟩
    rw [q8,Bool.false_and,decide_eq_false (fun h9=>hik h9.1)]
  ·rintro vb hvb
   refine T_if rfl (fun h4=>?_) (fun h4=>?_)
   ·rw [h4] at hvb
    have h4':=of_decide_eq_true hvb.symm
    have hst:=addV_step (fst_11 (G:=grdA c l cols t) (i:=i) (k:=k) h4'.1.1 (by rw [e2];exact h4'.1.2) h4'.2)
    obtain⟨b,o,r,Au,capu,rfl,hgd,hco,hrl,hr0,hsr⟩:=hcolr h4'.1.1
    have ecl:colM l.length cols i k ⟨1,1,(grdA c l cols t).p i k⟩=r++[(k:Int)]:=by
     unfold colM
     rw [if_pos rfl,if_pos rfl,hgd]
    rw [hst,ecl] at hout
    repeat' (first|refine d1 ?_|(show ∀ _:Nat,T _ _ _ _ _;intro _))
    rename_i b6
    refine T_le (H':=[row 3 1 (some ⟨b6,0,none⟩) 0 0 [],row 47 1 Ao capo out.length hs,dat hs (out.map intsD),fz pt,row 3 1 (some ⟨gn,0,none⟩) capn n (List.replicate n (.int .i64 (-1))),blk pc c.cells 23]) (Hle.weaken (i:=0) rfl (blk_row (sz:=1) (n:=0) rfl (by simp only [maxLen];omega)) rfl) ?_
    repeat' (first|refine d1 ?_|(show T _ (.ops _ (_::_)::_) _ _ _;first|refine T_op (OpT.append (A:=some ⟨b6,0,none⟩) rfl rfl rfl rfl rfl rfl rfl rfl rfl rfl (fun w hw=>src_below hsr hw.below) (oneInts r) (by dsimp only;omega) (by omega) (fun A6 cap6 hA6=>?_))|refine T_op (OpT.append (A:=A6) rfl rfl rfl rfl rfl rfl rfl rfl rfl rfl (fun w hw=>Src.own hw rfl) rfl (by dsimp only;omega) (by omega) (fun A7 cap7 hA7=>?_))|refine T_op (OpT.append (A:=Ao) rfl rfl rfl rfl rfl rfl rfl rfl rfl rfl (fun w hw=>Src.own hw rfl) rfl (by dsimp only;omega) (by omega) (fun A8 cap8 hA8=>?_)))|(show ∀ _:Nat,T _ _ _ _ _;intro _))
    refine T_backX (i+1,k+1,(A8,cap8),hs++[.slice A7 (0+n+1) cap7],out++[r++[(k:Int)]]) ⟨by dsimp only;omega,by dsimp only;omega,by dsimp only;rw [List.length_append];simp;omega,by dsimp only;rw [List.append_assoc];exact hout⟩ (by dsimp only;omega) (hE:=⟨rfl,rfl,by dsimp only;rw [List.length_append];rfl,trivial⟩) (hG:=?_)
    dsimp only
    rw [List.length_append]
    exact (Hle.srt (K:=[row 3 1 A7 cap7 (0+n+1) _,dat hs (out.map intsD),row 47 1 A8 cap8 (out.length+1) (hs++flatP [(0, .slice A7 (0+n+1) cap7)]),fz pt,row 3 1 (some ⟨gn,0,none⟩) capn n (List.replicate n (.int .i64 (-1))),blk pc c.cells 23])).trans (out_hle (cl:=r++[(k:Int)]) (by rw [List.map_append];rfl))
   ·rw [h4] at hvb
    have h4':=of_decide_eq_false hvb.symm
    refine T_cutX 1 [246] (fun vb:Bool=>[(246, .bool vb)]) (fun _=>[row 47 1 Ao capo out.length hs,dat hs (out.map intsD),fz pt,row 3 1 (some ⟨gn,0,none⟩) capn n (List.replicate n (.int .i64 (-1))),blk pc c.cells 23]) (fun vb=>vb=decide (i<cols.length∧(grdA c l cols t).g i+rst (grdA c l cols t) (i+1) k=rst (grdA c l cols t) i k)) ?_ ?_
    ·by_cases hin:i<cols.length
     ·obtain⟨b,o,r,Au,capu,rfl,hgd,hco,hrl,hr0,hsr⟩:=hcolr hin
      have eg:(grdA c l cols t).g i=putC c l r t (-1):=by show putC c l (cols.getD i []) t (-1)=_;rw [hgd]
      rw [eg] at qg
      obtain⟨Ar1,capr1,hcr1,-,-,hAr1⟩:=hrt.tabRow (tabR_get (show i+1≤cols.length by omega))
      rw [List.length_map,List.length_range] at hcr1 hAr1
      obtain⟨br1,or1,rfl,hbr1⟩:=hAr1 (by omega)
      repeat' (first|refine dd ?_|(show T _ (.run _ _ (_::_) _ _::_) _ _ _;first|refine rcG rfl rfl rfl rfl rfl rfl rfl rfl rfl (fun hg w hw=>put21_spec c A Au At n ca capu m ct l r t (-1) w (hgr.cls ‹_›) hc hbs (src_below hsr (Cls.below ‹_›)) hco (src_below hts (Cls.below ‹_›)) htl hm hte (by omega)) ?_|refine rg rfl rfl rfl (Val.load rfl (fun hg=>rdFz (p:=pt) (u := .slice (some ⟨br1,or1,none⟩) (m+1) capr1) (b:=b1) (by rw [show 0+((i:Int)+1).toNat * 1=0+(i+1) by omega];exact hbt _ _ hcr1))) rfl rfl rfl rfl rfl ?_|refine rg rfl rfl rfl (Val.load rfl (fun hg=>rdFz (p:=pt) (u := .int .i64 (rst (grdA c l cols t) (i+1) k)) (b:=br1) (by rw [off1];exact hbr1 _ _ (tabR_cell (by omega))))) rfl rfl rfl rfl rfl ?_|refine rg rfl rfl rfl (Val.load rfl (fun hg=>rdFz (p:=pt) (u := .slice (some ⟨br0,or0,none⟩) (m+1) capr0) (b:=b1) (by rw [off1];exact hbt _ _ hcr0))) rfl rfl rfl rfl rfl ?_|refine rg rfl rfl rfl (Val.load rfl (fun hg=>rdFz (p:=pt) (u := .int .i64 (rst (grdA c l cols t) i k)) (b:=br0) (by rw [off1];exact hbr0 _ _ (tabR_cell hk)))) rfl rfl rfl rfl rfl ?_)|fail)
      refine T_meetX _ ?_ (hE:=⟨rfl,trivial⟩)
      rw [eg]
      have q8:(decide ((i:Int)<cols.length))=true:=decide_eq_true (by omega)
      simp only [q8,Bool.true_and,hin,true_and]
     ·repeat' (first|refine dd ?_|(show T _ (.run _ _ (_::_) _ _::_) _ _ _;first|refine rg rfl rfl rfl (Val.neverP rfl (fun hg=>by exfalso;first|((simp only [List.cons_append,List.nil_append,GP,dstL,lookE,Nat.beq,cond,List.getElem?_cons_zero,List.getElem?_cons_succ,Option.bind_some,and_true,Bool.and_eq_true,Bool.or_eq_true,Bool.and_eq_false_iff,Bool.or_eq_false_iff,Bool.not_eq_true',Bool.not_eq_false',decide_eq_true_eq,decide_eq_false_iff_not] at hg);done)|((simp only [List.cons_append,List.nil_append,GP,dstL,lookE,Nat.beq,cond,List.getElem?_cons_zero,List.getElem?_cons_succ,Option.bind_some,and_true,Bool.and_eq_true,Bool.or_eq_true,Bool.and_eq_false_iff,Bool.or_eq_false_iff,Bool.not_eq_true',Bool.not_eq_false',decide_eq_true_eq,decide_eq_false_iff_not] at hg);omega))) rfl rfl rfl rfl rfl ?_|refine rg rfl rfl rfl (Val.neverI rfl (fun hg=>by exfalso;first|((simp only [List.cons_append,List.nil_append,GP,dstL,lookE,Nat.beq,cond,List.getElem?_cons_zero,List.getElem?_cons_succ,Option.bind_some,and_true,Bool.and_eq_true,Bool.or_eq_true,Bool.and_eq_false_iff,Bool.or_eq_false_iff,Bool.not_eq_true',Bool.not_eq_false',decide_eq_true_eq,decide_eq_false_iff_not] at hg);done)|((simp only [List.cons_append,List.nil_append,GP,dstL,lookE,Nat.beq,cond,List.getElem?_cons_zero,List.getElem?_cons_succ,Option.bind_some,and_true,Bool.and_eq_true,Bool.or_eq_true,Bool.and_eq_false_iff,Bool.or_eq_false_iff,Bool.not_eq_true',Bool.not_eq_false',decide_eq_true_eq,decide_eq_false_iff_not] at hg);omega))) rfl rfl rfl rfl rfl ?_|refine ro rfl rfl (OpT.never (.int .i64 0) rfl (fun hg=>by exfalso;first|((simp only [List.cons_append,List.nil_append,GP,dstL,lookE,Nat.beq,cond,List.getElem?_cons_zero,List.getElem?_cons_succ,Option.bind_some,and_true,Bool.and_eq_true,Bool.or_eq_true,Bool.and_eq_false_iff,Bool.or_eq_false_iff,Bool.not_eq_true',Bool.not_eq_false',decide_eq_true_eq,decide_eq_false_iff_not] at hg);done)|((simp only [List.cons_append,List.nil_append,GP,dstL,lookE,Nat.beq,cond,List.getElem?_cons_zero,List.getElem?_cons_succ,Option.bind_some,and_true,Bool.and_eq_true,Bool.or_eq_true,Bool.and_eq_false_iff,Bool.or_eq_false_iff,Bool.not_eq_true',Bool.not_eq_false',decide_eq_true_eq,decide_eq_false_iff_not] at hg);omega)) rfl rfl rfl rfl rfl ⟨fun _=>Hle.sub,?_⟩))|fail)
      refine T_meetX _ ?_ (hE:=⟨rfl,trivial⟩)
      have q8:(decide ((i:Int)<cols.length))=false:=decide_eq_false (by omega)
      rw [q8,Bool.false_and,decide_eq_false (fun h9=>hin h9.1)]
    rintro vb2 hvb2
    refine T_if rfl (fun h5=>?_) (fun h5=>?_)
    ·rw [h5] at hvb2
     have h5':=of_decide_eq_true hvb2.symm
     have hst:=addV_step (fst_10 (G:=grdA c l cols t) (i:=i) (k:=k) h5'.1 (by rw [e1,e2];exact h4') h5'.2)
     obtain⟨b,o,r,Au,capu,rfl,hgd,hco,hrl,hr0,hsr⟩:=hcolr h5'.1
     have ecl:colM l.length cols i k ⟨1,0,(grdA c l cols t).g i⟩=r++[-1]:=by
      unfold colM
      rw [if_pos rfl,if_neg (show ¬ (0:Nat)=1 by omega),hgd]
     rw [hst,ecl,Nat.add_zero] at hout
     repeat' (first|refine d1 ?_|(show ∀ _:Nat,T _ _ _ _ _;intro _))
     rename_i b6
     refine T_le (H':=[row 3 1 (some ⟨b6,0,none⟩) 0 0 [],row 47 1 Ao capo out.length hs,dat hs (out.map intsD),fz pt,row 3 1 (some ⟨gn,0,none⟩) capn n (List.replicate n (.int .i64 (-1))),blk pc c.cells 23]) (Hle.weaken (i:=0) rfl (blk_row (sz:=1) (n:=0) rfl (by simp only [maxLen];omega)) rfl) ?_
     repeat' (first|refine d1 ?_|(show T _ (.ops _ (_::_)::_) _ _ _;first|refine T_op (OpT.append (A:=some ⟨b6,0,none⟩) rfl rfl rfl rfl rfl rfl rfl rfl rfl rfl (fun w hw=>src_below hsr hw.below) (oneInts r) (by dsimp only;omega) (by omega) (fun A6 cap6 hA6=>?_))|refine T_op (OpT.append (A:=A6) rfl rfl rfl rfl rfl rfl rfl rfl rfl rfl (fun w hw=>Src.own hw rfl) rfl (by dsimp only;omega) (by omega) (fun A7 cap7 hA7=>?_))|refine T_op (OpT.append (A:=Ao) rfl rfl rfl rfl rfl rfl rfl rfl rfl rfl (fun w hw=>Src.own hw rfl) rfl (by dsimp only;omega) (by omega) (fun A8 cap8 hA8=>?_)))|(show ∀ _:Nat,T _ _ _ _ _;intro _))
     refine T_backX (i+1,k,(A8,cap8),hs++[.slice A7 (0+n+1) cap7],out++[r++[-1]]) ⟨by dsimp only;omega,by dsimp only;omega,by dsimp only;rw [List.length_append];simp;omega,by dsimp only;rw [List.append_assoc];exact hout⟩ (by dsimp only;omega) (hE:=⟨rfl,rfl,by dsimp only;rw [List.length_append];rfl,trivial⟩) (hG:=?_)
     dsimp only
     rw [List.length_append]
     exact (Hle.srt (K:=[row 3 1 A7 cap7 (0+n+1) _,dat hs (out.map intsD),row 47 1 A8 cap8 (out.length+1) (hs++flatP [(0, .slice A7 (0+n+1) cap7)]),fz pt,row 3 1 (some ⟨gn,0,none⟩) capn n (List.replicate n (.int .i64 (-1))),blk pc c.cells 23])).trans (out_hle (cl:=r++[-1]) (by rw [List.map_append];rfl))
    ·rw [h5] at hvb2
     have h5':=of_decide_eq_false hvb2.symm
     obtain⟨hf,hkm⟩:=fst_01 (G:=grdA c l cols t) (i:=i) (k:=k) (by rw [e1,e2];exact h3') (by rw [e1,e2];exact h4') (by rw [e1];exact h5')
     rw [e2] at hkm
     have hst:=addV_step hf
     have ecl:colM l.length cols i k ⟨0,1,(grdA c l cols t).h k⟩=noneC l.length++[(k:Int)]:=by
      unfold colM
      rw [if_neg (show ¬ (0:Nat)=1 by omega),if_pos rfl]
     rw [hst,ecl,Nat.add_zero] at hout
     repeat' (first|refine d1 ?_|(show ∀ _:Nat,T _ _ _ _ _;intro _))
     rename_i b6
     refine T_le (H':=[row 3 1 (some ⟨b6,0,none⟩) 0 0 [],row 47 1 Ao capo out.length hs,dat hs (out.map intsD),fz pt,row 3 1 (some ⟨gn,0,none⟩) capn n (List.replicate n (.int .i64 (-1))),blk pc c.cells 23]) (Hle.weaken (i:=0) rfl (blk_row (sz:=1) (n:=0) rfl (by simp only [maxLen];omega)) rfl) ?_
     repeat' (first|refine d1 ?_|(show T _ (.ops _ (_::_)::_) _ _ _;first|refine T_op (OpT.append (A:=some ⟨b6,0,none⟩) rfl rfl rfl rfl rfl rfl rfl rfl rfl rfl (fun w hw=>srcRw w hw) (oneRep n (-1)) (by dsimp only;omega) (by omega) (fun A6 cap6 hA6=>?_))|refine T_op (OpT.append (A:=A6) rfl rfl rfl rfl rfl rfl rfl rfl rfl rfl (fun w hw=>Src.own hw rfl) rfl (by dsimp only;omega) (by omega) (fun A7 cap7 hA7=>?_))|refine T_op (OpT.append (A:=Ao) rfl rfl rfl rfl rfl rfl rfl rfl rfl rfl (fun w hw=>Src.own hw rfl) rfl (by dsimp only;omega) (by omega) (fun A8 cap8 hA8=>?_)))|(show ∀ _:Nat,T _ _ _ _ _;intro _))
     refine T_backX (i,k+1,(A8,cap8),hs++[.slice A7 (0+n+1) cap7],out++[noneC l.length++[(k:Int)]]) ⟨by dsimp only;omega,by dsimp only;omega,by dsimp only;rw [List.length_append];simp;omega,by dsimp only;rw [List.append_assoc];exact hout⟩ (by dsimp only;omega) (hE:=⟨rfl,rfl,by dsimp only;rw [List.length_append];rfl,trivial⟩) (hG:=?_)
     dsimp only
     rw [List.length_append]
     exact (Hle.srt (K:=[row 3 1 A7 cap7 (0+n+1) _,dat hs (out.map intsD),row 47 1 A8 cap8 (out.length+1) (hs++flatP [(0, .slice A7 (0+n+1) cap7)]),fz pt,row 3 1 (some ⟨gn,0,none⟩) capn n (List.replicate n (.int .i64 (-1))),blk pc c.cells 23])).trans (out_hle (cl:=noneC l.length++[(k:Int)]) (by rw [List.map_append,hnn];rfl))
 ·have h3':¬ (i<cols.length∨k<m):=by simpa using h3
  rw [addV_end (i:=i) (k:=k) (by rw [htl];exact h3'),List.append_nil] at hout
  rw [hout]
  repeat' (first|refine d1 ?_|(show T _ (.code .ret::_) _ _ _;refine T_retV _ rfl (dat_row.trans (Hle.nth 0 rfl)) ⟨_,trivial,rfl,rfl⟩))
end Go.Proofs.YtblnhdnogjijiaaGreatDoor
namespace Go.Proofs.YtblnhdnogjijiaaGreatDoor
open Go.RowKit Go.Shelf Go.Proofs
set_option maxRecDepth 100000
set_option maxHeartbeats 1000000

theorem alignRef21_spec (c:Costs) (A:Option Addr) (n ca:Nat) (l:List TS) (w:World) (hg:Grp w A n l) (hn31:n≤31) (hq:∀ t∈l,t.n≤100) :
  Spec Tryz.prog 59 [c.val, .slice A n ca] w (fun v R=>∃ x:Value,True∧v = .tuple #[x, .int .i64 (alnA c l).2]∧R=[dat [x] [rowsD (alnA c l).1]]):=by
 have hn:=hg.hn
 subst hn
 have hb:=hg.hb
 refine spec_of sg Tryz.func59 rfl rfl rfl ?_
 refine T_op (OpT.box (cs:=c.cells) rfl rfl rfl rfl rfl rfl rfl (fun pc=>?_))
 repeat' (first|refine d1 ?_|(show T _ (.ops _ (_::_)::_) _ _ _;refine T_op (OpT.call rfl rfl rfl rfl rfl (fun w hw=>orderRef21_spec c A l.length ca l w (hg.cls hw)) ?_))|fail)
 rintro v R ⟨x,-,rfl,rfl⟩
 by_cases h:ck21 c l=0
 ·have eo:ordV c l=(orderV (dstT c l) l.length,0):=if_pos h
  have e:alnA c l=(alnP c l,0):=if_pos h
  rw [e,eo]
  obtain⟨hc,hbs⟩:=ck21_ok h
  have hbd:=dstT_bd hc hg.len
  obtain⟨hd,hlt⟩:=orderV_ok (fun i k=>(hbd i k).1) l.length
  have hol:=orderV_len (dstT c l) l.length
  have e2:alnP c l=(stgV c l (orderV (dstT c l) l.length) l.length).map (arrR (orderV (dstT c l) l.length)):=rfl
  rw [e2]
  generalize orderV (dstT c l) l.length=ord at hd hlt hol ⊢
  refine T_le (H':=[dat [x] [intsD (intN ord)],blk pc c.cells 23]) (Hle.refl _) ?_
  refine T_open fun p hp=>?_
  have hp2:=hp
  have hil:(intN ord).length=l.length:=by unfold intN;rw [List.length_map,hol]
  obtain⟨Ao,co,rfl,hc1,hc2,hAo⟩:=hp.row1
  rw [hil] at hAo hc1 hp2 ⊢
  have hln:∀ t∈l,t.l.length≤100:=fun t ht=>by rw [hg.ok.len t ht];exact hq t ht
  repeat' (first|refine d1 ?_|fail)
  refine T_if rfl (fun h1=>by exfalso;simp at h1) (fun _=>?_)
  repeat' (first|refine d1 ?_|(show ∀ _:Nat,T _ _ _ _ _;intro _))
  rename_i b1 b2
  refine T_le (H':=[row 38 1 (some ⟨b2,0,none⟩) 0 0 ((takS l ord 0).map TS.val),dat [.slice (some ⟨b1,0,none⟩) 0 0] [rowsD []],fz p,blk pc c.cells 23]) ((Hle.weaken (i:=0) rfl (blk_row (sz:=1) (n:=0) rfl (by simp only [maxLen];omega)) rfl).trans ((Hle.perm (List.Perm.swap _ _ _)).trans ((dat_blkV (sz:=1) (n:=0) rfl (by omega)).trans (Hle.perm (List.Perm.swap _ _ _))))) ?_
  refine T_loopX (fun s:Nat × (Option Addr × Nat) × Value=>[(10, .int .i64 s.1),(9, .slice s.2.1.1 s.1 s.2.1.2),(8,s.2.2)]) (fun s=>[row 38 1 s.2.1.1 s.2.1.2 s.1 ((takS l ord s.1).map TS.val),dat [s.2.2] [rowsD (stgV c l ord s.1)],fz p,blk pc c.cells 23]) (fun s=>s.1≤l.length) (fun s=>l.length - s.1) (0,(some ⟨b2,0,none⟩,0), .slice (some ⟨b1,0,none⟩) 0 0) (Nat.zero_le _) ?_
  rintro⟨j,⟨At,capt⟩,K⟩ hj
  dsimp only at hj ⊢
  repeat' (first|refine d1 ?_|fail)
  refine T_if rfl (fun h3=>?_) (fun h3=>?_)
  ·simp only [decide_eq_true_eq] at h3
   have hjn:j<l.length:=by omega
   obtain⟨bo,oo,rfl,hbo⟩:=hAo (by omega)
   obtain⟨b,o,rfl⟩:=hg.hs.base (by omega)
   have hoj:=ord_get (show j<ord.length by omega)
   have hlj:ord.getD j 0<l.length:=ord_lt hlt (by omega)
   obtain⟨t,ht,htm,hrt⟩:=hg.get hlj
   have hts:tsA l (ord.getD j 0)=t:=tsA_eq ht
   have hst:stgV c l ord (j+1)=addV c (takS l ord j) (stgV c l ord j) t.l 0 0:=by
    show addV c (takS l ord j) (stgV c l ord j) (tsA l (ord.getD j 0)).l 0 0=_
    rw [hts]
   have hav:=addRV_tak hlt hg.ok.len h (show j<ord.length by omega)
   rw [hts,hst] at hav
   have hpr:=stg_prod (c:=c) hlt hln (j:=j) (m:=t.n) (by omega) (by omega) (hq t htm)
   refine T_le (H':=[dat [K] [rowsD (stgV c l ord j)],row 38 1 At capt j ((takS l ord j).map TS.val),fz p,blk pc c.cells 23]) Hle.srt ?_
   refine T_open fun q hq9=>?_
   refine T_le (H':=[row 38 1 At capt j ((takS l ord j).map TS.val),fz q,fz p,blk pc c.cells 23]) Hle.srt ?_
   repeat' (first|refine d1 ?_|refine dd ?_|(show T _ (.run _ _ (_::_) _ _::_) _ _ _;first|refine rv rfl rfl rfl (Val.load rfl (fun hg=>rdFz (p:=p) (u := .int .i64 (ord.getD j 0:Nat)) (b:=bo) (by rw [off1];exact hbo j _ (by unfold intN;rw [List.getElem?_map,hoj];rfl)))) rfl rfl rfl ?_|refine rcE rfl rfl rfl rfl rfl rfl rfl (fun w hw=>addR21_spec c At j capt (takS l ord j) K (stgV c l ord j) t.A t.n t.cap t.l w ((hg.cls hw).tak hlt (by omega) (by omega) (srcRw w hw)) (by omega) (hq9.own hw) (by omega) ((hg.cls hw).ok.src t htm) (hg.ok.len t htm) (hg.nb t htm) (hg.sm t htm) hpr.2) (fun y9 _=>?_))|fail)
   rw [hav]
   refine T_if rfl (fun h5=>by exfalso;simp at h5) (fun _=>?_)
   repeat' (first|refine d1 ?_|(show T _ (.ops _ (_::_)::_) _ _ _;first|refine T_val rfl (Val.load rfl (fun hg=>rdFz (p:=p) (u := .int .i64 (ord.getD j 0:Nat)) (b:=bo) (by rw [off1];exact hbo j _ (by unfold intN;rw [List.getElem?_map,hoj];rfl)))) rfl rfl rfl ?_|refine T_op (OpT.append rfl rfl rfl rfl rfl rfl rfl rfl rfl rfl (fun w hw=>Src.own hw rfl) rfl (by dsimp only;omega) (by omega) (fun A' cap' hA'=>?_)))|(show ∀ _:Nat,T _ _ _ _ _;intro _))
   refine T_backX (j+1,(A',cap'),y9) (Nat.succ_le_of_lt hjn) (by dsimp only;omega) (hG:=?_)
   dsimp only
   rw [takS_succ (by omega),List.map_append,hts,hst,show List.map TS.val [t]=flatP [(0, .slice t.A t.n t.cap)] from rfl]
   exact Hle.srt
  ·simp only [decide_eq_false_iff_not] at h3
   obtain rfl:j=l.length:=by omega
   refine T_le (H':=[dat [K] [rowsD (stgV c l ord l.length)],row 38 1 At capt l.length ((takS l ord l.length).map TS.val),fz p,blk pc c.cells 23]) Hle.srt ?_
   refine T_open fun q hq9=>?_
   have hso:=stgV_ok (c:=c) hlt hg.ok.len l.length (by omega)
   have hlen:=(stg_prod (c:=c) hlt hln (j:=l.length) (m:=0) (by omega) (by omega) (by omega)).1
   have hcl:∀ r∈stgV c l ord l.length,r.length=l.length:=fun r hr=>by rw [hso.len r hr,lens_len,takS_len (by omega)]
   generalize stgV c l ord l.length=cols at hq9 hso hlen hcl ⊢
   obtain⟨Ak,capk,csk,rfl,hk1,hk2,hkl,hkr,hrows⟩:=hq9.tab
   repeat' (first|refine d1 ?_|(show ∀ _:Nat,T _ _ _ _ _;intro _))
   rename_i b5
   refine T_le (H':=[row 47 1 (some ⟨b5,0,none⟩) 0 0 [],fz q,row 38 1 At capt l.length ((takS l ord l.length).map TS.val),fz p,blk pc c.cells 23]) (Hle.weaken (i:=0) rfl (blk_row (sz:=1) (n:=0) rfl (by simp only [maxLen];omega)) rfl) ?_
   refine T_le (dat_nil _) ?_
   refine T_le (H':=[row 47 1 (some ⟨b5,0,none⟩) 0 0 [],dat [] [],fz q,fz p]) Hle.srt ?_
   refine T_loopX (fun x:Nat × (Option Addr × Nat) × List Value=>[(12, .int .i64 x.1),(11, .slice x.2.1.1 x.1 x.2.1.2)]) (fun x=>[row 47 1 x.2.1.1 x.2.1.2 x.1 x.2.2,dat x.2.2 (((cols.map (arrR ord)).take x.1).map intsD),fz q,fz p]) (fun x=>x.1≤cols.length) (fun x=>cols.length - x.1) (0,(some ⟨b5,0,none⟩,0),[]) (Nat.zero_le _) ?_
   rintro⟨i,⟨Ar,capr⟩,hs⟩ hi
   dsimp only at hi ⊢
   repeat' (first|refine d1 ?_|fail)
   refine T_if rfl (fun h4=>?_) (fun h4=>?_)
   ·simp only [decide_eq_true_eq] at h4
    have hic:i<cols.length:=by omega
    obtain⟨b,o,rfl,hbk⟩:=hkr (by omega)
    obtain⟨r,hr⟩:∃ r,cols[i]?=some r:=⟨_,List.getElem?_eq_getElem hic⟩
    obtain⟨Au,capu,hu,-,-,hA⟩:=hrows.tabRow hr
    have hrn:=hcl r (List.mem_of_getElem? hr)
    repeat' (first|refine d1 ?_|(show T _ (.ops _ (_::_)::_) _ _ _;refine T_op (OpT.make rfl rfl rfl rfl rfl rfl rfl rfl rfl (by dsimp only;omega) (fun b6=>?_)))|fail)
    have e0:List.replicate l.length (Value.int .i64 0)=(arrJ ord r 0).map (Value.int .i64):=by simp [arrJ,hrn]
    refine T_le (H':=[blk b6 ((arrJ ord r 0).map (Value.int .i64)) 3,row 47 1 Ar capr i hs,dat hs (((cols.map (arrR ord)).take i).map intsD),fz q,fz p]) (by rw [← e0];exact Hle.refl _) ?_
    refine T_loopX (fun k:Nat=>[(14, .int .i64 k)]) (fun k=>[blk b6 ((arrJ ord r k).map (Value.int .i64)) 3,row 47 1 Ar capr i hs,dat hs (((cols.map (arrR ord)).take i).map intsD),fz q,fz p]) (fun k=>k≤l.length) (fun k=>l.length - k) 0 (Nat.zero_le _) ?_
    intro k hk
    repeat' (first|refine d1 ?_|fail)
    refine T_if rfl (fun h5=>?_) (fun h5=>?_)
    ·simp only [decide_eq_true_eq] at h5
     have hkr:k<r.length:=by omega
     obtain⟨bu,ou,rfl,hbu⟩:=hA (by omega)
     obtain⟨bo,oo,rfl,hbo⟩:=hAo (by omega)
     obtain⟨z,hz⟩:∃ z,r[k]?=some z:=⟨_,List.getElem?_eq_getElem hkr⟩
     have hok:=ord_get (show k<ord.length by omega)
     have hqn:=ord_lt hlt (show k<ord.length by omega)
     have est:(arrJ ord r (k+1)).map (Value.int .i64)=((arrJ ord r k).map (Value.int .i64)).set (0+(ord.getD k 0:Int).toNat * 1) (.int .i64 z):=by
      rw [off1,arrJ,List.map_set,List.getD_eq_getElem?_getD (l:=r),hz,Nat.zero_add];rfl
     refine rsH [fz q,fz p] 1000 [0,1,2,3,4,5,6,7,8,9,10,11,12,13] ?_
     repeat' (first|refine d1 ?_|refine dd ?_|(show T _ (.run _ _ (_::_) _ _::_) _ _ _;first|refine rv rfl rfl rfl (Val.load rfl (fun hg=>rdFz (p:=p) (u := .int .i64 (ord.getD k 0:Nat)) (b:=bo) (by rw [off1];exact hbo k _ (by unfold intN;rw [List.getElem?_map,hok];rfl)))) rfl rfl rfl ?_|refine rv rfl rfl rfl (Val.load rfl (fun hg=>rdFz (p:=q) (u := .slice (some ⟨bu,ou,none⟩) r.length capu) (b:=b) (by rw [off1];exact hbk i _ hu))) rfl rfl rfl ?_|refine rv rfl rfl rfl (Val.load rfl (fun hg=>rdFz (p:=q) (u := .int .i64 z) (b:=bu) (by rw [off1];exact hbu k z hz))) rfl rfl rfl ?_|refine ro rfl rfl (OpT.store rfl rfl rfl rfl (by rw [List.length_map,arrJ_len];omega) ⟨fun _=>Hle.sub,?_⟩))|fail)
     exact T_backX (k+1) (by omega) (by omega) (hG:=by rw [est];exact Hle.refl _)
    ·simp only [decide_eq_false_iff_not] at h5
     obtain rfl:k=l.length:=by omega
     have ei:intsD (arrR ord r) = .s 1 (((arrJ ord r l.length).map (Value.int .i64)).map .v):=by unfold arrR;rw [hrn,List.map_map];rfl
     have et:((cols.map (arrR ord)).take (i+1)).map intsD=((cols.map (arrR ord)).take i).map intsD++[intsD (arrR ord r)]:=by
      rw [take_snoc _ _ _ (show (cols.map (arrR ord))[i]?=some (arrR ord r) by rw [List.getElem?_map,hr];rfl),List.map_append];rfl
     refine T_le (H':=[row 47 1 Ar capr i hs,dat (hs++[.slice (some ⟨b6,0,none⟩) l.length l.length]) (((cols.map (arrR ord)).take (i+1)).map intsD),fz q,fz p]) ?_ ?_
     ·rw [et,ei]
      exact (dat_blkV (sz:=1) (n:=l.length) (by rw [List.length_map,arrJ_len,Nat.mul_one,hrn]) (by omega)).trans ((Hle.perm (List.Perm.cons _ (List.Perm.swap _ _ _))).trans (dat_join.trans (Hle.perm (List.Perm.swap _ _ _))))
     repeat' (first|refine d1 ?_|(show T _ (.ops _ (_::_)::_) _ _ _;refine T_op (OpT.append rfl rfl rfl rfl rfl rfl rfl rfl rfl rfl (fun w hw=>Src.own hw rfl) rfl (by dsimp only;omega) (by omega) (fun A' cap' hA'=>?_)))|(show ∀ _:Nat,T _ _ _ _ _;intro _))
     exact T_backX (i+1,(A',cap'),hs++[.slice (some ⟨b6,0,none⟩) l.length l.length]) (by dsimp only;omega) (by dsimp only;omega) (hE:=⟨rfl,rfl,trivial⟩) (hG:=Hle.tail _ _)
   ·simp only [decide_eq_false_iff_not] at h4
    obtain rfl:i=cols.length:=by omega
    rw [show (cols.map (arrR ord)).take cols.length=cols.map (arrR ord) from List.take_of_length_le (by simp)]
    repeat' (first|refine d1 ?_|(show T _ (.code .ret::_) _ _ _;refine T_retV _ rfl (dat_row.trans (Hle.nth 0 rfl)) ⟨_,trivial,rfl,by rfl⟩))
 ·have h1:=(ck21_01 c l).resolve_left h
  have eo:ordV c l=([],1):=if_neg h
  have e:alnA c l=([],1):=if_neg h
  rw [e,eo]
  repeat' (first|refine d1 ?_|fail)
  refine T_if rfl (fun _=>?_) (fun h1=>by exfalso;simp at h1)
  repeat' (first|refine d1 ?_|(show ∀ _:Nat,T _ _ _ _ _;intro _)|(show T _ (.code .ret::_) _ _ _;refine T_retV _ rfl (dat_blkV (sz:=1) (n:=0) rfl (by omega) |>.trans (Hle.nth 0 rfl)) ⟨_,trivial,rfl,rfl⟩))
end Go.Proofs.YtblnhdnogjijiaaGreatDoor
namespace Go.Proofs.YtblnhdnogjijiaaGreatDoor
open Go.RowKit Go.Shelf Go.Proofs
set_option maxRecDepth 100000
set_option maxHeartbeats 1000000

theorem rd_toksL {w:World}:∀ {m:List (List Tok)} {cs:List Value},Rd (wr w) cs (m.map toksD)→∃ l:List TS,cs=l.map TS.val∧TsOk w l∧l.map TS.l=m
 | [],cs,h=>by
  have:=h.length
  obtain rfl:cs=[]:=List.eq_nil_of_length_eq_zero this
  exact⟨[],rfl,⟨fun t ht=>(by cases ht),fun t ht=>(by cases ht),fun t ht=>(by cases ht)⟩,rfl⟩
 | t::m,[],h=>by have:=h.length;simp at this
 | t::m,x::cs,h=>by
  obtain⟨h1,h2⟩:=h.cons_inv
  obtain⟨A,cap,rfl,hb,hs,-,-⟩:=h1.toks
  obtain⟨l,rfl,hl,rfl⟩:=rd_toksL h2
  refine ⟨⟨A,t.length,cap,t⟩::l,rfl,⟨fun y hy=>?_,fun y hy=>?_,fun y hy=>?_⟩,rfl⟩
  ·rcases List.mem_cons.1 hy with rfl|hy
   ·exact hs
   ·exact hl.src y hy
  ·rcases List.mem_cons.1 hy with rfl|hy
   ·rfl
   ·exact hl.len y hy
  ·rcases List.mem_cons.1 hy with rfl|hy
   ·exact hb
   ·exact hl.bd y hy
theorem Rd.toksL {w:World} {x:Value} {m:List (List Tok)} (h:Rd (wr w) [x] [.s 1 (m.map toksD)]):∃ A cap,∃ l:List TS,x = .slice A l.length cap∧l.length≤9223372036854775807∧Src w 1 A l.length (l.map TS.val)∧TsOk w l∧l.map TS.l=m:=by
 obtain⟨A,n,cap,cs,rfl,h1,h2,h3,hs,hr⟩:=h.src
 obtain⟨l,rfl,hl,rfl⟩:=rd_toksL hr
 have hn:n=l.length:=by rw [List.length_map,List.length_map] at h1;omega
 subst hn
 exact⟨A,cap,l,rfl,by omega,hs,hl,rfl⟩
end Go.Proofs.YtblnhdnogjijiaaGreatDoor
namespace Go.Proofs.YtblnhdnogjijiaaGreatDoor
open Go.RowKit Go.Shelf Go.Proofs
set_option maxRecDepth 100000
set_option maxHeartbeats 1000000

end Go.Proofs.YtblnhdnogjijiaaGreatDoor
namespace Go.Proofs.YtblnhdnogjijiaaGreatDoor
open Go.RowKit Go.Shelf Go.Proofs
set_option maxRecDepth 100000
set_option maxHeartbeats 1000000

theorem isNone_true {A:Option Addr} (h:isNone' A=true):A=none:=by cases A <;> simp_all [isNone']
theorem src_none {w:World} {sz n:Nat} {xs:List Value} (h:Src w sz none n xs):n=0∧xs=[]:=by
 have:n=0:=by
  rcases Nat.eq_zero_or_pos n with h1|h1
  ·exact h1
  ·have:=(h.2 h1).1;simp [isAt] at this
 subst this
 exact⟨rfl,List.eq_nil_of_length_eq_zero (by simpa using h.1)⟩
theorem oneMap {α:Type} (f:α→Value) (hf:∀ x,(f x).oneCell'=true):∀ l:List α,oneCells (l.map f)=true
 | []=>rfl
 | x::l=>by rw [List.map_cons];simp only [oneCells,hf,Bool.true_and];exact oneMap f hf l
theorem oneToks:∀ l:List Tok,oneCells (l.flatMap Tok.cells)=true
 | []=>rfl
 | t::l=>by
  rw [List.flatMap_cons]
  simp only [Tok.cells,List.cons_append,List.nil_append,oneCells,Value.oneCell',Bool.true_and]
  exact oneToks l
end Go.Proofs.YtblnhdnogjijiaaGreatDoor
namespace Go.Proofs.YtblnhdnogjijiaaGreatDoor
open Go.RowKit Go.Shelf Go.Proofs
set_option maxRecDepth 100000
set_option maxHeartbeats 1000000

def RvIn (l r:List Tok) (i:Nat):Prop:=r.length=l.length∧∀ k,k<l.length→r[k]?=if k<i∨l.length≤k+i then l[l.length - 1 - k]? else l[k]?
theorem RvIn.zero (l:List Tok):RvIn l l 0:=⟨rfl,fun k hk=>by rw [if_neg (by omega)]⟩
theorem RvIn.step {l r:List Tok} {i:Nat} (h:RvIn l r i) (hi:2 * i+1<l.length):RvIn l ((r.set i (tkA r (l.length - 1 - i))).set (l.length - 1 - i) (tkA r i)) (i+1):=by
 obtain⟨h1,h2⟩:=h
 have e1:r[l.length - 1 - i]?=l[l.length - 1 - i]?:=by rw [h2 _ (by omega),if_neg (by omega)]
 have e2:r[i]?=l[i]?:=by rw [h2 _ (by omega),if_neg (by omega)]
 refine ⟨by simp [h1],fun k hk=>?_⟩
 rw [List.getElem?_set,List.getElem?_set,List.length_set]
 by_cases hk1:l.length - 1 - i=k
 ·rw [if_pos hk1,if_pos (by omega),if_pos (by omega),show l.length - 1 - k=i by omega, ← e2,tkA_get (by omega)]
 ·rw [if_neg hk1]
  by_cases hk2:i=k
  ·subst hk2
   rw [if_pos rfl,if_pos (by omega),if_pos (by omega), ← e1,tkA_get (by omega)]
  ·rw [if_neg hk2,h2 k hk]
   by_cases h3:k<i∨l.length≤k+i
   ·rw [if_pos h3,if_pos (by omega)]
   ·rw [if_neg h3,if_neg (by omega)]
theorem RvIn.all {l r:List Tok} {i:Nat} (h:RvIn l r i) (hi:l.length≤2 * i+1):r=l.reverse:=by
 obtain⟨h1,h2⟩:=h
 apply List.ext_getElem?
 intro k
 by_cases hk:k<l.length
 ·rw [h2 k hk,List.getElem?_reverse hk]
  split
  ·rfl
  ·rw [show l.length - 1 - k=k by omega]
 ·rw [List.getElem?_eq_none (by omega),List.getElem?_eq_none (by simp;omega)]
end Go.Proofs.YtblnhdnogjijiaaGreatDoor
namespace Go.Proofs.YtblnhdnogjijiaaGreatDoor
open Go.RowKit Go.Shelf Go.Proofs
set_option maxRecDepth 100000
set_option maxHeartbeats 1000000

end Go.Proofs.YtblnhdnogjijiaaGreatDoor
namespace Go.Proofs.YtblnhdnogjijiaaGreatDoor
open Go.RowKit Go.Shelf Go.Proofs
set_option maxRecDepth 100000
set_option maxHeartbeats 1000000

theorem cloneS_spec (A:Option Addr) (n c:Nat) (l:List TS) (w:World) (hs:Src w 1 A n (l.map TS.val)) (hb:n≤1000000) :
  Spec Tryz.prog 54 [.slice A n c] w (fun v R=>∃ x:Option Addr × Nat,True∧v = .slice x.1 n x.2∧R=[row 38 1 x.1 x.2 n (l.map TS.val)]):=by
 refine spec_of sg Tryz.func54 rfl rfl rfl ?_
 repeat' (first|refine d1 ?_|(show T _ (.ops _ (_::_)::_) _ _ _;refine T_val rfl (Val.nilS rfl) rfl rfl rfl ?_)|fail)
 refine T_if rfl (fun h=>?_) (fun h=>?_)
 ·obtain rfl:=isNone_true h
  obtain⟨rfl,e⟩:=src_none hs
  rw [e]
  repeat' (first|refine d1 ?_|fail)
  refine T_nilrow 38 1 ?_
  repeat' (first|(show T _ (.code .ret::_) _ _ _;refine T_retV _ rfl Hle.sub ⟨(none,0),trivial,rfl,rfl⟩))
 ·repeat' (first|refine d1 ?_|(show ∀ _:Nat,T _ _ _ _ _;intro _))
  refine T_blk_rowh 1 0 rfl (by omega) ?_
  refine T_op (OpT.append rfl rfl rfl rfl rfl rfl rfl rfl rfl rfl (rdSrc hs) (oneMap TS.val (fun _=>rfl) l) (by dsimp only;omega) (by omega) (fun A' cap' hA'=>?_))
  rw [show 0+n=n by omega,show flatP []++(l.map TS.val)=(l.map TS.val) from rfl]
  repeat' (first|refine d1 ?_|(show T _ (.code .ret::_) _ _ _;refine T_retV _ rfl (Hle.refl _) ⟨(A',cap'),trivial,rfl,rfl⟩))
theorem oneRows {R:Rdr}:∀ {m:List (List Int)} {cs:List Value},Rd R cs (m.map intsD)→oneCells cs=true
 | [],cs,h=>by cases h;rfl
 | r::m,[],h=>by cases h
 | r::m,x::cs,h=>by
  obtain⟨h1,h2⟩:=Rd.cons_inv (d:=intsD r) h
  obtain⟨A,cap,rfl,-⟩:=h1.row1
  show (true && oneCells cs)=true
  rw [oneRows h2];rfl
theorem rd_toksR {R:Rdr}:∀ {m:List (List Tok)} {cs:List Value},Rd R cs (m.map toksD)→∃ l:List TS,cs=l.map TS.val∧l.map TS.l=m∧∀ t∈l,t.l.length=t.n∧t.n≤9223372036854775807∧Rd R [t.val] [toksD t.l]
 | [],cs,h=>by cases h;exact⟨[],rfl,rfl,fun t h=>by cases h⟩
 | a::m,[],h=>by cases h
 | a::m,x::cs,h=>by
  obtain⟨h1,h2⟩:=Rd.cons_inv (d:=toksD a) h
  obtain⟨l,rfl,rfl,h3⟩:=rd_toksR h2
  obtain⟨A,n,cap,rfl,h4,h5,h6,-⟩:=Rd.vals_one (xs:=a.flatMap Tok.cells) h1
  have em:n=a.length:=by
   have:(a.flatMap Tok.cells).length=a.length * 6:=flatT_length a
   omega
  subst em
  refine ⟨⟨A,a.length,cap,a⟩::l,rfl,rfl,fun t ht=>?_⟩
  rcases List.mem_cons.1 ht with rfl|ht
  ·exact⟨rfl,by show a.length≤_;omega,h1⟩
  ·exact h3 t ht
theorem Rd.toksF {p:Frag} {x:Value} {m:List (List Tok)} (h:Rd (fr p) [x] [.s 1 (m.map toksD)]):∃ A cap,∃ l:List TS,x = .slice A l.length cap∧l.length≤9223372036854775807∧l.map TS.l=m∧(∀ t∈l,t.l.length=t.n) ∧
  ∀ {w0 w:World} {H:List HA} [FocusZ H p],Cls w0 w H→Src w 1 A l.length (l.map TS.val)∧TsOk w l:=by
 obtain⟨A,n,cap,cs,rfl,h1,h2,h3,h4,h5,h6⟩:=h.slice
 obtain⟨l,rfl,rfl,h7⟩:=rd_toksR h6
 have hn:n=l.length:=by rw [List.length_map] at h2;omega
 subst hn
 refine ⟨A,cap,l,rfl,by omega,rfl,fun t ht=>(h7 t ht).1,fun {w0 w H} _ hw=>⟨⟨h2,fun hn=>⟨(h5 hn).1,fun j u hu=>hw.fz (p:=p) _ _ _ ((h5 hn).2 j u hu)⟩⟩,⟨fun t ht=>?_,fun t ht=>(h7 t ht).1,fun t ht=>(h7 t ht).2.1⟩⟩⟩
 have h8:=((h7 t ht).2.2).own hw
 obtain⟨A',c',e,-,hs,-⟩:=h8.toks
 have e2:Value.slice t.A t.n t.cap = .slice A' t.l.length c':=e
 injection e2 with e3 e4 e5
 rw [e3,e4]
 exact hs
def RvS (l r:List TS) (i:Nat):Prop:=r.length=l.length∧∀ k,k<l.length→r[k]?=if k<i∨l.length≤k+i then l[l.length - 1 - k]? else l[k]?
theorem RvS.zero (l:List TS):RvS l l 0:=⟨rfl,fun k hk=>by rw [if_neg (by omega)]⟩
theorem tsA_get2 {l:List TS} {i:Nat} (h:i<l.length):l[i]?=some (tsA l i):=by unfold tsA;rw [List.getD_eq_getElem?_getD,List.getElem?_eq_getElem h];rfl
theorem RvS.step {l r:List TS} {i:Nat} (h:RvS l r i) (hi:2 * i+1<l.length):RvS l ((r.set i (tsA r (l.length - 1 - i))).set (l.length - 1 - i) (tsA r i)) (i+1):=by
 obtain⟨h1,h2⟩:=h
 have e1:r[l.length - 1 - i]?=l[l.length - 1 - i]?:=by rw [h2 _ (by omega),if_neg (by omega)]
 have e2:r[i]?=l[i]?:=by rw [h2 _ (by omega),if_neg (by omega)]
 refine ⟨by simp [h1],fun k hk=>?_⟩
 rw [List.getElem?_set,List.getElem?_set,List.length_set]
 by_cases hk1:l.length - 1 - i=k
 ·rw [if_pos hk1,if_pos (by omega),if_pos (by omega),show l.length - 1 - k=i by omega, ← e2,tsA_get2 (by omega)]
 ·rw [if_neg hk1]
  by_cases hk2:i=k
  ·subst hk2
   rw [if_pos rfl,if_pos (by omega),if_pos (by omega), ← e1,tsA_get2 (by omega)]
  ·rw [if_neg hk2,h2 k hk]
   by_cases h3:k<i∨l.length≤k+i
   ·rw [if_pos h3,if_pos (by omega)]
   ·rw [if_neg h3,if_neg (by omega)]
theorem RvS.all {l r:List TS} {i:Nat} (h:RvS l r i) (hi:l.length≤2 * i+1):r=l.reverse:=by
 obtain⟨h1,h2⟩:=h
 apply List.ext_getElem?
 intro k
 by_cases hk:k<l.length
 ·rw [h2 k hk,List.getElem?_reverse hk]
  split
  ·rfl
  ·rw [show l.length - 1 - k=k by omega]
 ·rw [List.getElem?_eq_none (by omega),List.getElem?_eq_none (by simp;omega)]
end Go.Proofs.YtblnhdnogjijiaaGreatDoor
namespace Go.Proofs.YtblnhdnogjijiaaGreatDoor
open Go.RowKit Go.Shelf Go.Proofs
set_option maxRecDepth 100000
set_option maxHeartbeats 1000000

theorem flat_one:∀ xs:List Value,xs.flatMap (fun v=>[v])=xs
 | []=>rfl
 | x::xs=>by rw [List.flatMap_cons,flat_one xs];rfl
theorem src_take1 {w:World} {A:Option Addr} {n:Nat} {xs:List Value} (hs:Src w 1 A n xs) (hi:Nat) (h:hi≤n):Src w 1 A hi (xs.take hi):=by
 have h9:=src_take (fun v:Value=>[v]) 1 (fun _=>rfl) (l:=xs) (by rw [flat_one];exact hs) (by have:=hs.1;omega) hi h
 rwa [flat_one] at h9
structure PS where
 A:Option Addr
 n:Nat
 cap:Nat
 vs:List Value
@[reducible] def PS.val (p:PS):Value := .slice p.A p.n p.cap
end Go.Proofs.YtblnhdnogjijiaaGreatDoor
namespace Go.Proofs.YtblnhdnogjijiaaGreatDoor
open Go.RowKit Go.Shelf Go.Proofs
set_option maxRecDepth 100000
set_option maxHeartbeats 1000000

theorem equalStr_spec (x y:Value) (p q:List ByteArray) (w:World) (hx:Rd (wr w) [x] [strsD p]) (hy:Rd (wr w) [y] [strsD q]) :
  Spec Tryz.prog 29 [x,y] w (fun v R=>v = .bool (decide (p=q))∧R=[]):=by
 obtain⟨A,ca,rfl,hnc,hnb,hl⟩:=hx.strs
 obtain⟨B,cb,rfl,hmc,hmb,hb⟩:=hy.strs
 refine spec_of sg Tryz.func29 rfl rfl rfl ?_
 repeat' (first|refine d1 ?_|fail)
 refine T_if rfl (fun h=>?_) (fun h=>?_)
 ·simp only [Bool.not_eq_true',decide_eq_false_iff_not] at h
  repeat' (first|refine d1 ?_|(show T _ (.code .ret::_) _ _ _;refine T_retV [] rfl (Hle.none _) ⟨?_,rfl⟩))
  rw [decide_eq_false (fun e=>h (by rw [e]))];rfl
 simp only [Bool.not_eq_false',decide_eq_true_eq] at h
 repeat' (first|refine d1 ?_|fail)
 refine T_loopX (fun k:Nat=>[(13, .int .i64 k)]) (fun _=>[]) (fun k=>k≤p.length∧∀ j,j<k→p[j]?=q[j]?) (fun k=>p.length - k) 0 ⟨by omega,fun j h=>by omega⟩ ?_
 rintro k ⟨hk,hok⟩
 repeat' (first|refine d1 ?_|fail)
 refine T_if rfl (fun h3=>?_) (fun h3=>?_)
 ·simp only [decide_eq_true_eq] at h3
  have hkn:k<p.length:=by omega
  have hkq:k<q.length:=by omega
  obtain⟨ba,oa,rfl⟩:=hl.base (by omega)
  obtain⟨bb,ob,rfl⟩:=hb.base (by omega)
  obtain⟨u,hu⟩:∃ u,p[k]?=some u:=⟨_,List.getElem?_eq_getElem hkn⟩
  obtain⟨v,hv⟩:∃ v,q[k]?=some v:=⟨_,List.getElem?_eq_getElem hkq⟩
  have hr1:RdC w ba (oa+(k:Int).toNat * 1) [.string u]:=(hl.get1 (by omega) (by rw [Int.toNat_natCast,List.getElem?_map,hu];rfl)).2
  have hr2:RdC w bb (ob+(k:Int).toNat * 1) [.string v]:=(hb.get1 (by omega) (by rw [Int.toNat_natCast,List.getElem?_map,hv];rfl)).2
  repeat' (first|refine d1 ?_|refine dd ?_|fail)
  refine T_if rfl (fun h4=>?_) (fun h4=>?_)
  ·simp only [Bool.not_eq_true',decide_eq_false_iff_not] at h4
   repeat' (first|refine d1 ?_|(show T _ (.code .ret::_) _ _ _;refine T_retV [] rfl (Hle.none _) ⟨?_,rfl⟩))
   rw [decide_eq_false (fun e=>h4 (by rw [e,hv] at hu;exact (Option.some.inj hu).symm))];rfl
  ·simp only [Bool.not_eq_false',decide_eq_true_eq] at h4
   repeat' (first|refine d1 ?_|fail)
   refine T_backX (k+1) ⟨by omega,fun j hj=>?_⟩ (by omega)
   rcases Nat.lt_or_ge j k with h5|h5
   ·exact hok j h5
   ·rw [show j=k by omega,hu,hv,h4]
 ·simp only [decide_eq_false_iff_not] at h3
  repeat' (first|refine d1 ?_|(show T _ (.code .ret::_) _ _ _;refine T_retV [] rfl (Hle.none _) ⟨?_,rfl⟩))
  rw [decide_eq_true (list_eq_of (by omega) fun j hj=>hok j (by omega))];rfl
theorem equalTok_spec (A B:Option Addr) (n m ca cb:Nat) (p q:List Tok) (w:World) (ha:Src w 6 A n (p.flatMap Tok.cells)) (hn:p.length=n) (hnb:n≤9223372036854775807) (hb:Src w 6 B m (q.flatMap Tok.cells)) (hm:q.length=m) (hmb:m≤9223372036854775807) :
  Spec Tryz.prog 75 [.slice A n ca, .slice B m cb] w (fun v R=>v = .bool (decide (p=q))∧R=[]):=by
 refine spec_of sg Tryz.func75 rfl rfl rfl ?_
 repeat' (first|refine d1 ?_|fail)
 refine T_if rfl (fun h=>?_) (fun h=>?_)
 ·simp only [Bool.not_eq_true',decide_eq_false_iff_not] at h
  repeat' (first|refine d1 ?_|(show T _ (.code .ret::_) _ _ _;refine T_retV [] rfl (Hle.none _) ⟨?_,rfl⟩))
  rw [decide_eq_false (fun e=>h (by rw [← hn, ← hm,e]))];rfl
 simp only [Bool.not_eq_false',decide_eq_true_eq] at h
 repeat' (first|refine d1 ?_|fail)
 refine T_loopX (fun k:Nat=>[(13, .int .i64 k)]) (fun _=>[]) (fun k=>k≤p.length∧∀ j,j<k→p[j]?=q[j]?) (fun k=>p.length - k) 0 ⟨by omega,fun j h=>by omega⟩ ?_
 rintro k ⟨hk,hok⟩
 repeat' (first|refine d1 ?_|fail)
 refine T_if rfl (fun h3=>?_) (fun h3=>?_)
 ·simp only [decide_eq_true_eq] at h3
  have hkn:k<p.length:=by omega
  have hkq:k<q.length:=by omega
  obtain⟨b1,o1,rfl⟩:=ha.base (by omega)
  obtain⟨b2,o2,rfl⟩:=hb.base (by omega)
  obtain⟨u,hu⟩:∃ u,p[k]?=some u:=⟨_,List.getElem?_eq_getElem hkn⟩
  obtain⟨v,hv⟩:∃ v,q[k]?=some v:=⟨_,List.getElem?_eq_getElem hkq⟩
  have hr1:RdC w b1 (o1+(k:Int).toNat * 6) u.cells:=ha.getT (by omega) hu
  have hr2:RdC w b2 (o2+(k:Int).toNat * 6) v.cells:=hb.getT (by omega) hv
  repeat' (first|refine d1 ?_|refine dd ?_|(show T _ (.run _ _ (_::_) _ _::_) _ _ _;refine rv rfl rfl rfl (Val.eqS (r:=decide (u=v)) rfl (fun w=>eqTok u v w) Tryz.eqGuardType42) rfl rfl rfl ?_)|fail)
  refine T_if rfl (fun h4=>?_) (fun h4=>?_)
  ·have h4:decide (u=v)=false:=by simpa using h4
   rw [decide_eq_false_iff_not] at h4
   repeat' (first|refine d1 ?_|(show T _ (.code .ret::_) _ _ _;refine T_retV [] rfl (Hle.none _) ⟨?_,rfl⟩))
   rw [decide_eq_false (fun e=>h4 (by rw [e,hv] at hu;exact (Option.some.inj hu).symm))];rfl
  ·have h4:decide (u=v)=true:=by simpa using h4
   rw [decide_eq_true_eq] at h4
   repeat' (first|refine d1 ?_|fail)
   refine T_backX (k+1) ⟨by omega,fun j hj=>?_⟩ (by omega)
   rcases Nat.lt_or_ge j k with h5|h5
   ·exact hok j h5
   ·rw [show j=k by omega,hu,hv,h4]
 ·simp only [decide_eq_false_iff_not] at h3
  repeat' (first|refine d1 ?_|(show T _ (.code .ret::_) _ _ _;refine T_retV [] rfl (Hle.none _) ⟨?_,rfl⟩))
  rw [decide_eq_true (list_eq_of (by omega) fun j hj=>hok j (by omega))];rfl
def sStar:ByteArray:=⟨#[42]⟩
def star22 (s:ByteArray):Bool:=decide (0<s.size∧byteAt s ((s.size:Int) - 1)=42)
def bare1_22 (s:ByteArray):ByteArray:=if star22 s=true then s.extract 0 (s.size - 1) else s
theorem star22_eq {s:ByteArray} (h:0<s.size):decide (s.extract (s.size - 1) s.size=sStar)=star22 s:=by
 have h1:(s.extract (s.size - 1) s.size).data.toList=[byteAt s ((s.size:Int) - 1)]:=by
  have:=extract_one (s:=s) (j:=s.size - 1) (by omega)
  rw [show s.size - 1+1=s.size by omega,show ((s.size - 1:Nat):Int)=(s.size:Int) - 1 by omega] at this
  exact this
 unfold star22
 rw [decide_eq_decide]
 constructor
 ·intro e
  rw [e] at h1
  exact⟨h,(List.cons.inj h1).1.symm⟩
 ·rintro⟨-,e⟩
  rw [e] at h1
  exact ByteArray.ext (Array.ext' h1)
theorem siglum22_eq (s:ByteArray):(isNameB (bare1_22 s) && (!star22 s || decide ((s.size:Int)≤16)))=siglum22 s:=by
 unfold siglum22 bare1_22
 by_cases h:star22 s=true
 ·have h2:0<s.size∧byteAt s ((s.size:Int) - 1)=42:=by simpa [star22] using h
  rw [if_pos h,if_pos h2,h]
  rw [show decide ((s.size:Int)≤16)=decide (s.size≤16) from decide_eq_decide.2 (by omega)]
  rfl
 ·have h2:¬ (0<s.size∧byteAt s ((s.size:Int) - 1)=42):=by simpa [star22] using h
  rw [if_neg h,if_neg h2]
  simp [h]
theorem hasStar_spec (s:ByteArray) (hs:s.size≤9223372036854775807) (w:World):Spec Tryz.prog 250 [.string s, .string sStar] w (fun v R=>v = .bool (star22 s)∧R=[]):=by
 refine spec_of sg Tryz.func250 rfl rfl rfl ?_
 have e1:sStar.size=1:=rfl
 repeat' (first|refine d1 ?_|(show T _ (.code .ret::_) _ _ _;refine T_retV [] rfl (Hle.none _) ⟨congrArg Value.bool ?_,rfl⟩))
 rw [e1]
 by_cases h:0<s.size
 ·rw [show ((s.size:Int) - ((1:Nat):Int)).toNat=s.size - 1 by omega,Int.toNat_natCast,star22_eq h,decide_eq_true (by omega),Bool.true_and]
 ·rw [decide_eq_false (by omega),Bool.false_and]
  unfold star22
  rw [decide_eq_false (fun hh=>h hh.1)]
theorem cutStar1_spec (s:ByteArray) (hs:s.size≤9223372036854775807) (w:World):Spec Tryz.prog 209 [.string s, .string sStar] w (fun v R=>v = .tuple #[.string (bare1_22 s), .bool (star22 s)]∧R=[]):=by
 refine spec_of sg Tryz.func209 rfl rfl rfl ?_
 have e1:sStar.size=1:=rfl
 repeat' (first|refine d1 ?_|(show T _ (.ops _ (_::_)::_) _ _ _;refine T_call rfl rfl rfl rfl rfl (fun w hw=>hasStar_spec s hs w) ?_)|fail)
 refine T_if rfl (fun h=>?_) (fun h=>?_)
 ·simp only [Bool.not_eq_true'] at h
  repeat' (first|refine d1 ?_|(show T _ (.code .ret::_) _ _ _;refine T_retV [] rfl (Hle.none _) ⟨by unfold bare1_22;rw [h];rfl,rfl⟩))
 ·simp only [Bool.not_eq_false'] at h
  have h2:0<s.size:=by simp only [star22,decide_eq_true_eq] at h;exact h.1
  repeat' (first|refine d1 ?_|(show T _ (.code .ret::_) _ _ _;refine T_retV [] rfl (Hle.none _) ⟨by unfold bare1_22;rw [h,show ((s.size:Int) - (sStar.size:Int)).toNat=s.size - 1 by omega];rfl,rfl⟩))
theorem cutStar_spec (s:ByteArray) (hs:s.size≤9223372036854775807) (w:World):Spec Tryz.prog 165 [.string s, .string sStar] w (fun v R=>v = .tuple #[.string (bare1_22 s), .bool (star22 s)]∧R=[]):=by
 refine spec_of sg Tryz.func165 rfl rfl rfl ?_
 repeat' (first|refine d1 ?_|(show T _ (.ops _ (_::_)::_) _ _ _;refine T_call rfl rfl rfl rfl rfl (fun w hw=>cutStar1_spec s hs w) ?_)|(show T _ (.code .ret::_) _ _ _;refine T_retV [] rfl (Hle.none _) ⟨rfl,rfl⟩))
theorem indexStr_spec (A:Option Addr) (n c:Nat) (l:List ByteArray) (x:ByteArray) (w:World) (hs:Src w 1 A n (l.map Value.string)) (hn:l.length=n) (hb:n≤9223372036854775807) :
  Spec Tryz.prog 166 [.slice A n c, .string x] w (fun v R=>v = .int .i64 (findI (fun y=>decide (x=y)) l)∧R=[]):=by
 refine spec_of sg Tryz.func166 rfl rfl rfl ?_
 repeat' (first|refine d1 ?_|fail)
 refine T_loopX (fun k:Nat=>[(8, .int .i64 k)]) (fun _=>[]) (fun k=>k≤n∧∀ i y,i<k→l[i]?=some y→decide (x=y)=false) (fun k=>n - k) 0 ⟨Nat.zero_le _,fun i y h=>by omega⟩ ?_
 rintro k ⟨hk,hok⟩
 repeat' (first|refine d1 ?_|fail)
 refine T_if rfl (fun h=>?_) (fun h=>?_)
 ·simp only [decide_eq_true_eq] at h
  have hkn:k<n:=by omega
  obtain⟨b,o,rfl⟩:=hs.base (by omega)
  obtain⟨y,hy⟩:∃ y,l[k]?=some y:=⟨_,List.getElem?_eq_getElem (by omega)⟩
  have hr:=src_str hs hkn hy
  repeat' (first|refine d1 ?_|fail)
  refine T_if rfl (fun h1=>?_) (fun h1=>?_)
  ·repeat' (first|refine d1 ?_|(show T _ (.code .ret::_) _ _ _;refine T_retV [] rfl (Hle.none _) ⟨congrArg (Value.int .i64) (findI_some hy h1 hok).symm,rfl⟩))
  ·repeat' (first|refine d1 ?_|fail)
   refine T_backX (k+1) ⟨by omega,fun i z hi hz=>?_⟩ (by omega)
   rcases Nat.lt_or_ge i k with h2|h2
   ·exact hok i z h2 hz
   ·rw [show i=k by omega,hy] at hz
    cases hz
    exact h1
 ·simp only [decide_eq_false_iff_not] at h
  repeat' (first|refine d1 ?_|(show T _ (.code .ret::_) _ _ _;refine T_retV [] rfl (Hle.none _) ⟨congrArg (Value.int .i64) (findI_none (fun i z hi=>hok i z (by have:=(List.getElem?_eq_some_iff.1 hi).1;omega) hi)).symm,rfl⟩))
theorem containsStr_spec (A:Option Addr) (n c:Nat) (l:List ByteArray) (x:ByteArray) (w:World) (hs:Src w 1 A n (l.map Value.string)) (hn:l.length=n) (hb:n≤9223372036854775807) :
  Spec Tryz.prog 110 [.slice A n c, .string x] w (fun v R=>v = .bool (has22 l x)∧R=[]):=by
 refine spec_of sg Tryz.func110 rfl rfl rfl ?_
 repeat' (first|refine d1 ?_|(show T _ (.ops _ (_::_)::_) _ _ _;refine T_call rfl rfl rfl rfl rfl (fun w hw=>indexStr_spec A n c l x w (rdSrc hs w hw) hn hb) ?_)|(show T _ (.code .ret::_) _ _ _;refine T_retV [] rfl (Hle.none _) ⟨congrArg Value.bool (findI_any _ l),rfl⟩))
theorem oneStr:∀ l:List ByteArray,oneCells (l.map Value.string)=true
 | []=>rfl
 | x::l=>by show (true && oneCells (l.map Value.string))=true;rw [oneStr l];rfl
theorem cloneStr_spec (A:Option Addr) (n c:Nat) (l:List ByteArray) (w:World) (hs:Src w 1 A n (l.map Value.string)) (hb:n≤1000000) :
  Spec Tryz.prog 53 [.slice A n c] w (fun v R=>∃ x:Option Addr × Nat,True∧v = .slice x.1 n x.2∧R=[row 9 1 x.1 x.2 n (l.map Value.string)]):=by
 refine spec_of sg Tryz.func53 rfl rfl rfl ?_
 repeat' (first|refine d1 ?_|(show T _ (.ops _ (_::_)::_) _ _ _;refine T_val rfl (Val.nilS rfl) rfl rfl rfl ?_)|fail)
 refine T_if rfl (fun h=>?_) (fun h=>?_)
 ·obtain rfl:=isNone_true h
  obtain⟨rfl,e⟩:=src_none hs
  rw [e]
  repeat' (first|refine d1 ?_|fail)
  refine T_nilrow 9 1 ?_
  repeat' (first|(show T _ (.code .ret::_) _ _ _;refine T_retV _ rfl Hle.sub ⟨(none,0),trivial,rfl,rfl⟩))
 ·repeat' (first|refine d1 ?_|(show ∀ _:Nat,T _ _ _ _ _;intro _))
  refine T_blk_rowh 1 0 rfl (by omega) ?_
  refine T_op (OpT.append rfl rfl rfl rfl rfl rfl rfl rfl rfl rfl (rdSrc hs) (oneStr l) (by dsimp only;omega) (by omega) (fun A' cap' hA'=>?_))
  rw [show 0+n=n by omega,show flatP []++(l.map Value.string)=(l.map Value.string) from rfl]
  repeat' (first|refine d1 ?_|(show T _ (.code .ret::_) _ _ _;refine T_retV _ rfl (Hle.refl _) ⟨(A',cap'),trivial,rfl,rfl⟩))
end Go.Proofs.YtblnhdnogjijiaaGreatDoor
namespace Go.Proofs.YtblnhdnogjijiaaGreatDoor
open Go.RowKit Go.Shelf Go.Proofs
set_option maxRecDepth 100000
set_option maxHeartbeats 1000000

structure HdAt (w:World) (sec:ByteArray) (sg:List ByteArray) (A1:Option Addr) (c1:Nat) (l:List TS) (A2:Option Addr) (c2:Nat):Prop where
 hst:Std w
 s1:Src w 1 A1 sg.length (sg.map Value.string)
 b1:sg.length≤c1
 s2:Src w 1 A2 l.length (l.map TS.val)
 ok:TsOk w l
 sec:sec.size≤20
 sig:∀ s∈sg,s.size≤20
 n1:sg.length≤36
 n2:l.length≤36
 tok:∀ t∈l,t.n≤6∧∀ x∈t.l,x.small
 txt:∀ t∈l,∀ x∈t.l,x.text.size≤12
theorem Src.old {w0 w:World} {H:List HA} {sz n:Nat} {A:Option Addr} {xs:List Value} (h:Src w0 sz A n xs) (hw:Cls w0 w H):Src w sz A n xs:=⟨h.1,fun q=>⟨(h.2 q).1,(h.2 q).2.old hw⟩⟩
theorem HdAt.cls {w0 w:World} {H:List HA} {sec:ByteArray} {sg:List ByteArray} {A1 A2:Option Addr} {c1 c2:Nat} {l:List TS} (h:HdAt w0 sec sg A1 c1 l A2 c2) (hw:Cls w0 w H):HdAt w sec sg A1 c1 l A2 c2 :=
 ⟨h.hst.cls hw,h.s1.old hw,h.b1,h.s2.old hw,⟨fun t ht=>src_below (h.ok.src t ht) hw.below,h.ok.len,h.ok.bd⟩,h.sec,h.sig,h.n1,h.n2,h.tok,h.txt⟩
theorem HdAt.len {w:World} {sec:ByteArray} {sg:List ByteArray} {A1 A2:Option Addr} {c1 c2:Nat} {l:List TS} (h:HdAt w sec sg A1 c1 l A2 c2) (k:Nat) {t:TS} (ht:l[k]?=some t):(l.map TS.l)[k]?=some t.l∧t.l.length=t.n∧t.n≤6 :=
 ⟨by rw [List.getElem?_map,ht];rfl,h.ok.len t (List.mem_of_getElem? ht),(h.tok t (List.mem_of_getElem? ht)).1⟩
theorem HdAt.hdr {w:World} {sec:ByteArray} {sg:List ByteArray} {A1:Option Addr} {b o:Nat} {c1 c2:Nat} {l:List TS} (h:HdAt w sec sg A1 c1 l (some ⟨b,o,none⟩) c2) {k:Nat} {t:TS} (ht:l[k]?=some t):RdC w b (o+(k:Int).toNat * 1) [.slice t.A t.n t.cap]:=by
 have hk:=(List.getElem?_eq_some_iff.1 ht).1
 have h9:=(h.s2.get1 (i:=k) hk (by rw [List.getElem?_map,ht];rfl)).2
 rw [Nat.mul_one] at h9
 rw [off1]
 exact h9
theorem src_takeStr {w:World} {A:Option Addr} {n:Nat} {l:List ByteArray} (hs:Src w 1 A n (l.map Value.string)) (i:Nat) (h:i≤n):Src w 1 A i ((l.take i).map Value.string):=by
 have:=src_take1 hs i h
 rwa [← List.map_take] at this
theorem siglumP_spec (s:ByteArray) (hs:s.size≤20) (w:World):Spec Tryz.prog 109 [.string s] w (fun v R=>v = .bool (siglum22 s)∧R=[]):=by
 have hb:(bare1_22 s).size≤9223372036854775807:=by
  unfold bare1_22
  split
  ·rw [ByteArray.size_extract];omega
  ·omega
 refine spec_of sg Tryz.func109 rfl rfl rfl ?_
 repeat' (first|refine d1 ?_|(show T _ (.ops _ (_::_)::_) _ _ _;first|refine T_call rfl rfl rfl rfl rfl (fun w hw=>cutStar_spec s (by omega) w) ?_|refine T_call rfl rfl rfl rfl rfl (fun w hw=>isNamePrg_spec (bare1_22 s) hb w) ?_)|(show T _ (.code .ret::_) _ _ _;refine T_retV [] rfl (Hle.none _) ⟨congrArg Value.bool (siglum22_eq s),rfl⟩))
theorem siglumR_spec (s:ByteArray) (hs:s.size≤20) (w:World):Spec Tryz.prog 115 [.string s] w (fun v R=>v = .bool (siglum22 s)∧R=[]):=by
 refine spec_of sg Tryz.func115 rfl rfl rfl ?_
 repeat' (first|refine d1 ?_|fail)
 refine T_if rfl (fun h=>?_) (fun h=>?_)
 ·have h2:0<s.size∧byteAt s ((s.size:Int) - 1)=42:=by
   simp only [Bool.and_eq_true,decide_eq_true_eq] at h
   exact⟨by omega,UInt8.toNat_inj.1 (by rw [show (42:UInt8).toNat=42 from rfl];have:=h.2;omega)⟩
  repeat' (first|refine d1 ?_|(show T _ (.ops _ (_::_)::_) _ _ _;refine T_callC rfl rfl rfl rfl rfl rfl rfl (fun hg w hw=>isNameRef_spec _ w) ?_)|(show T _ (.code .ret::_) _ _ _;refine T_retV [] rfl (Hle.none _) ⟨congrArg Value.bool ?_,rfl⟩))
  unfold siglum22
  rw [if_pos h2,Bool.and_comm,show ((s.size:Int) - 1).toNat=s.size - 1 by omega,show decide ((s.size:Int)≤16)=decide (s.size≤16) from decide_eq_decide.2 (by omega)]
  rfl
 ·have h2:¬ (0<s.size∧byteAt s ((s.size:Int) - 1)=42):=by
   rintro⟨h3,h4⟩
   rw [h4] at h
   simp only [Bool.and_eq_false_iff,decide_eq_false_iff_not] at h
   rcases h with h|h
   ·omega
   ·exact h rfl
  repeat' (first|refine d1 ?_|(show T _ (.ops _ (_::_)::_) _ _ _;refine T_call rfl rfl rfl rfl rfl (fun w hw=>isNameRef_spec s w) ?_)|(show T _ (.code .ret::_) _ _ _;refine T_retV [] rfl (Hle.none _) ⟨congrArg Value.bool (by unfold siglum22;rw [if_neg h2]),rfl⟩))
theorem sources1_22_spec (t:Tok) (ht:t.small) (w:World) (hst:Std w):Spec Tryz.prog 111 [t.val] w (fun v A=>v = .bool (!decide (tokE t=0))∧A=[]):=by
 refine spec_of sg Tryz.func111 rfl rfl rfl ?_
 repeat' (first|(show T _ (.ops _ (⟨_, .box _ _,_,_,_,_⟩::_)::_) _ _ _;refine T_op (OpT.box (cs:=t.cells) rfl rfl rfl rfl rfl rfl rfl (fun _=>?_)))|refine d1 ?_|(show T _ (.ops _ (_::_)::_) _ _ _;refine T_call rfl rfl rfl rfl rfl (fun w hw=>tokPrg_spec t ht w (hst.cls hw)) ?_)|(show T _ (.code .ret::_) _ _ _;refine T_retV [] rfl (Hle.none _) ⟨rfl,rfl⟩))
section
variable {sec:ByteArray} {sg:List ByteArray} {m:List (List Tok)}
theorem head22_a (h:isNameB sec=false):head22 sec sg m=14:=if_pos h
theorem head22_b (h1:isNameB sec=true) (h:sg.length=0):head22 sec sg m=5:=by unfold head22;rw [if_neg (by rw [h1];simp),if_pos h]
theorem head22_c (h1:isNameB sec=true) (h2:sg.length≠0) (h:32<sg.length):head22 sec sg m=4:=by unfold head22;rw [if_neg (by rw [h1];simp),if_neg h2,if_pos h]
theorem head22_d (h1:isNameB sec=true) (h2:sg.length≠0) (h3:¬ 32<sg.length) (h:sgE22 [] sg≠0):head22 sec sg m=sgE22 [] sg:=by unfold head22;rw [if_neg (by rw [h1];simp),if_neg h2,if_neg h3,if_pos h]
theorem head22_e (h1:isNameB sec=true) (h2:sg.length≠0) (h3:¬ 32<sg.length) (h4:sgE22 [] sg=0) (h:m.length≠sg.length):head22 sec sg m=9:=by unfold head22;rw [if_neg (by rw [h1];simp),if_neg h2,if_neg h3,if_neg (by rw [h4];simp),if_pos h]
theorem head22_f (h1:isNameB sec=true) (h2:sg.length≠0) (h3:¬ 32<sg.length) (h4:sgE22 [] sg=0) (h5:m.length=sg.length):head22 sec sg m=tkE22 m:=by unfold head22;rw [if_neg (by rw [h1];simp),if_neg h2,if_neg h3,if_neg (by rw [h4];simp),if_neg (by omega)]
end
theorem sources22_spec (sec:ByteArray) (sg':List ByteArray) (A1:Option Addr) (c1:Nat) (l:List TS) (A2:Option Addr) (c2:Nat) (w:World) (hh:HdAt w sec sg' A1 c1 l A2 c2) :
  Spec Tryz.prog 52 [.string sec, .slice A1 sg'.length c1, .slice A2 l.length c2] w (fun v R=>v = .int .i64 (head22 sec sg' (l.map TS.l))∧R=[]):=by
 obtain⟨hst,hs1,hb1,hs2,hok,hsec,hsig,hn1,hn2,htok,htxt⟩:=hh
 have hh:HdAt w sec sg' A1 c1 l A2 c2:=⟨hst,hs1,hb1,hs2,hok,hsec,hsig,hn1,hn2,htok,htxt⟩
 refine spec_of sg Tryz.func52 rfl rfl rfl ?_
 repeat' (first|refine d1 ?_|(show T _ (.ops _ (_::_)::_) _ _ _;refine T_call rfl rfl rfl rfl rfl (fun w hw=>isNamePrg_spec sec (by omega) w) ?_)|fail)
 refine T_if rfl (fun h=>?_) (fun h=>?_)
 ·simp only [Bool.not_eq_true'] at h
  repeat' (first|refine d1 ?_|(show T _ (.code .ret::_) _ _ _;refine T_retV [] rfl (Hle.none _) ⟨congrArg (Value.int .i64) (head22_a h).symm,rfl⟩))
 simp only [Bool.not_eq_false'] at h
 repeat' (first|refine d1 ?_|fail)
 refine T_if rfl (fun h2=>?_) (fun h2=>?_)
 ·simp only [decide_eq_true_eq] at h2
  repeat' (first|refine d1 ?_|(show T _ (.code .ret::_) _ _ _;refine T_retV [] rfl (Hle.none _) ⟨congrArg (Value.int .i64) (head22_b h (by omega)).symm,rfl⟩))
 simp only [decide_eq_false_iff_not] at h2
 have h2':sg'.length≠0:=by omega
 repeat' (first|refine d1 ?_|fail)
 refine T_if rfl (fun h3=>?_) (fun h3=>?_)
 ·simp only [decide_eq_true_eq] at h3
  repeat' (first|refine d1 ?_|(show T _ (.code .ret::_) _ _ _;refine T_retV [] rfl (Hle.none _) ⟨congrArg (Value.int .i64) (head22_c h h2' (by omega)).symm,rfl⟩))
 simp only [decide_eq_false_iff_not] at h3
 have h3':¬ 32<sg'.length:=by omega
 repeat' (first|refine d1 ?_|fail)
 refine T_loopX (fun k:Nat=>[(25, .int .i64 k)]) (fun _=>[]) (fun k=>k≤sg'.length∧sgE22 [] sg'=sgE22 (sg'.take k) (sg'.drop k)) (fun k=>sg'.length - k) 0 ⟨Nat.zero_le _,by simp⟩ ?_
 rintro k ⟨hk,hE⟩
 repeat' (first|refine d1 ?_|fail)
 refine T_if rfl (fun h4=>?_) (fun h4=>?_)
 ·simp only [decide_eq_true_eq] at h4
  have hkn:k<sg'.length:=by omega
  obtain⟨b,o,rfl⟩:=hs1.base (by omega)
  obtain⟨s,hs⟩:∃ s,sg'[k]?=some s:=⟨_,List.getElem?_eq_getElem hkn⟩
  have hr:=src_str hs1 hkn hs
  have hs20:=hsig s (List.mem_of_getElem? hs)
  rw [sgE22_step hs] at hE
  repeat' (first|refine d1 ?_|(show T _ (.ops _ (_::_)::_) _ _ _;refine T_call rfl rfl rfl rfl rfl (fun w hw=>siglumP_spec s hs20 w) ?_)|fail)
  refine T_if rfl (fun h5=>?_) (fun h5=>?_)
  ·simp only [Bool.not_eq_true'] at h5
   rw [if_pos h5] at hE
   repeat' (first|refine d1 ?_|(show T _ (.code .ret::_) _ _ _;refine T_retV [] rfl (Hle.none _) ⟨congrArg (Value.int .i64) (by rw [head22_d h h2' h3' (by omega),hE]),rfl⟩))
  simp only [Bool.not_eq_false'] at h5
  rw [if_neg (by rw [h5];simp)] at hE
  repeat' (first|refine d1 ?_|(show T _ (.ops _ (_::_)::_) _ _ _;refine T_call rfl rfl rfl rfl rfl (fun w hw=>containsStr_spec (some ⟨b,o,none⟩) k c1 (sg'.take k) s w (src_takeStr (rdSrc hs1 w hw) k (by omega)) (by rw [List.length_take];omega) (by omega)) ?_)|fail)
  refine T_if rfl (fun h6=>?_) (fun h6=>?_)
  ·rw [if_pos (show has22 (sg'.take k) s=true from h6)] at hE
   repeat' (first|refine d1 ?_|(show T _ (.code .ret::_) _ _ _;refine T_retV [] rfl (Hle.none _) ⟨congrArg (Value.int .i64) (by rw [head22_d h h2' h3' (by omega),hE]),rfl⟩))
  rw [if_neg (show ¬ has22 (sg'.take k) s=true by rw [show has22 (sg'.take k) s=false from h6];simp)] at hE
  repeat' (first|refine d1 ?_|fail)
  exact T_backX (k+1) ⟨by omega,hE⟩ (by omega)
 simp only [decide_eq_false_iff_not] at h4
 rw [sgE22_end (by omega)] at hE
 repeat' (first|refine d1 ?_|fail)
 refine T_if rfl (fun h5=>?_) (fun h5=>?_)
 ·simp only [Bool.not_eq_true',decide_eq_false_iff_not] at h5
  repeat' (first|refine d1 ?_|(show T _ (.code .ret::_) _ _ _;refine T_retV [] rfl (Hle.none _) ⟨congrArg (Value.int .i64) (by rw [head22_e h h2' h3' hE (by rw [List.length_map];omega)]),rfl⟩))
 simp only [Bool.not_eq_false',decide_eq_true_eq] at h5
 have hF:=head22_f (m:=l.map TS.l) h h2' h3' hE (by rw [List.length_map];omega)
 repeat' (first|refine d1 ?_|fail)
 refine T_loopX (fun k:Nat=>[(46, .int .i64 k)]) (fun _=>[]) (fun k=>k≤l.length∧tkE22 (l.map TS.l)=tkE22 ((l.map TS.l).drop k)) (fun k=>l.length - k) 0 ⟨Nat.zero_le _,by simp⟩ ?_
 rintro k ⟨hk,hE2⟩
 repeat' (first|refine d1 ?_|fail)
 refine T_if rfl (fun h6=>?_) (fun h6=>?_)
 ·simp only [decide_eq_true_eq] at h6
  have hkn:k<l.length:=by omega
  obtain⟨b,o,rfl⟩:=hs2.base (by omega)
  obtain⟨t,ht⟩:∃ t,l[k]?=some t:=⟨_,List.getElem?_eq_getElem hkn⟩
  have hr:=hh.hdr ht
  have htm:=List.mem_of_getElem? ht
  obtain⟨e1,e2,e3⟩:=hh.len k ht
  rw [tkE22_step e1] at hE2
  repeat' (first|refine d1 ?_|fail)
  refine T_if rfl (fun h7=>by exfalso;simp at h7;omega) (fun _=>?_)
  rw [if_neg (by omega)] at hE2
  repeat' (first|refine d1 ?_|(show T _ (.ops _ (_::_)::_) _ _ _;refine T_call rfl rfl rfl rfl rfl (fun w hw=>containsFuncT_spec t.A t.n t.cap t.l _ [] [] (fun t => !decide (tokE t=0)) w (rdSrc (hok.src t htm) w hw) e2 (by omega) (fun x hx w' hb'=>sources1_22_spec x ((htok t htm).2 x hx) w' ((hst.cls hw).below hb'))) ?_)|fail)
  refine T_if rfl (fun h7=>?_) (fun h7=>?_)
  ·rw [if_pos (show badL t.l=true from h7)] at hE2
   repeat' (first|refine d1 ?_|(show T _ (.code .ret::_) _ _ _;refine T_retV [] rfl (Hle.none _) ⟨congrArg (Value.int .i64) (by rw [hF,hE2]),rfl⟩))
  rw [if_neg (show ¬ badL t.l=true by rw [show badL t.l=false from h7];simp)] at hE2
  repeat' (first|refine d1 ?_|fail)
  exact T_backX (k+1) ⟨by omega,hE2⟩ (by omega)
 simp only [decide_eq_false_iff_not] at h6
 rw [List.drop_eq_nil_of_le (by rw [List.length_map];omega)] at hE2
 repeat' (first|refine d1 ?_|(show T _ (.code .ret::_) _ _ _;refine T_retV [] rfl (Hle.none _) ⟨congrArg (Value.int .i64) (by rw [hF,hE2];rfl),rfl⟩))
end Go.Proofs.YtblnhdnogjijiaaGreatDoor
namespace Go.Proofs.YtblnhdnogjijiaaGreatDoor
open Go.RowKit Go.Shelf Go.Proofs
set_option maxRecDepth 100000
set_option maxHeartbeats 1000000

structure CoAt (w:World) (x:Co) (A1:Option Addr) (c1:Nat) (l:List TS) (A2:Option Addr) (c2:Nat) (y3:Value):Prop where
 hd:HdAt w x.sec x.sg A1 c1 l A2 c2
 m:l.map TS.l=x.m
 cols:Rd (wr w) [y3] [rowsD x.cols]
theorem CoAt.cls {w0 w:World} {H:List HA} {x:Co} {A1 A2:Option Addr} {c1 c2:Nat} {l:List TS} {y3:Value} (h:CoAt w0 x A1 c1 l A2 c2 y3) (hw:Cls w0 w H):CoAt w x A1 c1 l A2 c2 y3:=⟨h.hd.cls hw,h.m,h.cols.old hw⟩
theorem headR22_spec (sec:ByteArray) (sg':List ByteArray) (A1:Option Addr) (c1:Nat) (l:List TS) (A2:Option Addr) (c2:Nat) (w:World) (hh:HdAt w sec sg' A1 c1 l A2 c2) :
  Spec Tryz.prog 56 [.string sec, .slice A1 sg'.length c1, .slice A2 l.length c2] w (fun v R=>v = .int .i64 (head22 sec sg' (l.map TS.l))∧R=[]):=by
 obtain⟨hst,hs1,hb1,hs2,hok,hsec,hsig,hn1,hn2,htok,htxt⟩:=hh
 have hh:HdAt w sec sg' A1 c1 l A2 c2:=⟨hst,hs1,hb1,hs2,hok,hsec,hsig,hn1,hn2,htok,htxt⟩
 refine spec_of sg Tryz.func56 rfl rfl rfl ?_
 repeat' (first|refine d1 ?_|(show T _ (.ops _ (_::_)::_) _ _ _;refine T_call rfl rfl rfl rfl rfl (fun w hw=>isNameRef_spec sec w) ?_)|fail)
 refine T_if rfl (fun h=>?_) (fun h=>?_)
 ·simp only [Bool.not_eq_true'] at h
  repeat' (first|refine d1 ?_|(show T _ (.code .ret::_) _ _ _;refine T_retV [] rfl (Hle.none _) ⟨congrArg (Value.int .i64) (head22_a h).symm,rfl⟩))
 simp only [Bool.not_eq_false'] at h
 repeat' (first|refine d1 ?_|fail)
 refine T_if rfl (fun h2=>?_) (fun h2=>?_)
 ·simp only [decide_eq_true_eq] at h2
  repeat' (first|refine d1 ?_|(show T _ (.code .ret::_) _ _ _;refine T_retV [] rfl (Hle.none _) ⟨congrArg (Value.int .i64) (head22_b h (by omega)).symm,rfl⟩))
 simp only [decide_eq_false_iff_not] at h2
 have h2':sg'.length≠0:=by omega
 repeat' (first|refine d1 ?_|fail)
 refine T_if rfl (fun h3=>?_) (fun h3=>?_)
 ·simp only [decide_eq_true_eq] at h3
  repeat' (first|refine d1 ?_|(show T _ (.code .ret::_) _ _ _;refine T_retV [] rfl (Hle.none _) ⟨congrArg (Value.int .i64) (head22_c h h2' (by omega)).symm,rfl⟩))
 simp only [decide_eq_false_iff_not] at h3
 have h3':¬ 32<sg'.length:=by omega
 repeat' (first|refine d1 ?_|fail)
 refine T_loopX (fun k:Nat=>[(7, .int .i64 k)]) (fun _=>[]) (fun k=>k≤sg'.length∧sgE22 [] sg'=sgE22 (sg'.take k) (sg'.drop k)) (fun k=>sg'.length - k) 0 ⟨Nat.zero_le _,by simp⟩ ?_
 rintro k ⟨hk,hE⟩
 repeat' (first|refine d1 ?_|fail)
 refine T_if rfl (fun h4=>?_) (fun h4=>?_)
 ·simp only [decide_eq_true_eq] at h4
  have hkn:k<sg'.length:=by omega
  obtain⟨b,o,rfl⟩:=hs1.base (by omega)
  obtain⟨s,hs⟩:∃ s,sg'[k]?=some s:=⟨_,List.getElem?_eq_getElem hkn⟩
  have hr:=src_str hs1 hkn hs
  have hs20:=hsig s (List.mem_of_getElem? hs)
  rw [sgE22_step hs] at hE
  repeat' (first|refine d1 ?_|(show T _ (.ops _ (_::_)::_) _ _ _;refine T_call rfl rfl rfl rfl rfl (fun w hw=>siglumR_spec s hs20 w) ?_)|fail)
  refine T_if rfl (fun h5=>?_) (fun h5=>?_)
  ·simp only [Bool.not_eq_true'] at h5
   rw [if_pos h5] at hE
   repeat' (first|refine d1 ?_|(show T _ (.code .ret::_) _ _ _;refine T_retV [] rfl (Hle.none _) ⟨congrArg (Value.int .i64) (by rw [head22_d h h2' h3' (by omega),hE]),rfl⟩))
  simp only [Bool.not_eq_false'] at h5
  rw [if_neg (by rw [h5];simp)] at hE
  repeat' (first|refine d1 ?_|fail)
  refine T_loopX (fun j:Nat=>[(8, .int .i64 j)]) (fun _=>[]) (fun j=>j≤k∧s ∉ sg'.take j) (fun j=>k - j) 0 ⟨Nat.zero_le _,by simp⟩ ?_
  rintro j ⟨hj,hnot⟩
  repeat' (first|refine d1 ?_|fail)
  refine T_if rfl (fun h6=>?_) (fun h6=>?_)
  ·simp only [decide_eq_true_eq] at h6
   have hjk:j<k:=by omega
   obtain⟨y,hy⟩:∃ y,sg'[j]?=some y:=⟨_,List.getElem?_eq_getElem (by omega)⟩
   have hr2:=src_str hs1 (k:=j) (by omega) hy
   have htk:=take_snoc _ _ _ hy
   repeat' (first|refine dd ?_|fail)
   refine T_if rfl (fun h7=>?_) (fun h7=>?_)
   ·simp only [decide_eq_true_eq] at h7
    have hmem:s∈sg'.take k:=by
     rw [← h7]
     exact List.mem_iff_getElem?.2 ⟨j,by rw [List.getElem?_take_of_lt hjk];exact hy⟩
    rw [if_pos (has22_iff.2 hmem)] at hE
    repeat' (first|refine d1 ?_|(show T _ (.code .ret::_) _ _ _;refine T_retV [] rfl (Hle.none _) ⟨congrArg (Value.int .i64) (by rw [head22_d h h2' h3' (by omega),hE]),rfl⟩))
   simp only [decide_eq_false_iff_not] at h7
   repeat' (first|refine d1 ?_|fail)
   refine T_backX (j+1) ⟨by omega,?_⟩ (by omega)
   rw [htk,List.mem_append,List.mem_singleton]
   rintro (hm|rfl)
   ·exact hnot hm
   ·exact h7 rfl
  simp only [decide_eq_false_iff_not] at h6
  obtain rfl:j=k:=by omega
  rw [if_neg (fun hh=>hnot (has22_iff.1 hh))] at hE
  repeat' (first|refine d1 ?_|fail)
  exact T_backX (j+1) ⟨by omega,hE⟩ (by omega)
 simp only [decide_eq_false_iff_not] at h4
 rw [sgE22_end (by omega)] at hE
 repeat' (first|refine d1 ?_|fail)
 refine T_if rfl (fun h5=>?_) (fun h5=>?_)
 ·simp only [Bool.not_eq_true',decide_eq_false_iff_not] at h5
  repeat' (first|refine d1 ?_|(show T _ (.code .ret::_) _ _ _;refine T_retV [] rfl (Hle.none _) ⟨congrArg (Value.int .i64) (by rw [head22_e h h2' h3' hE (by rw [List.length_map];omega)]),rfl⟩))
 simp only [Bool.not_eq_false',decide_eq_true_eq] at h5
 have hF:=head22_f (m:=l.map TS.l) h h2' h3' hE (by rw [List.length_map];omega)
 repeat' (first|refine d1 ?_|fail)
 refine T_loopX (fun k:Nat=>[(9, .int .i64 k)]) (fun _=>[]) (fun k=>k≤l.length∧tkE22 (l.map TS.l)=tkE22 ((l.map TS.l).drop k)) (fun k=>l.length - k) 0 ⟨Nat.zero_le _,by simp⟩ ?_
 rintro k ⟨hk,hE2⟩
 repeat' (first|refine d1 ?_|fail)
 refine T_if rfl (fun h6=>?_) (fun h6=>?_)
 ·simp only [decide_eq_true_eq] at h6
  have hkn:k<l.length:=by omega
  obtain⟨b,o,rfl⟩:=hs2.base (by omega)
  obtain⟨t,ht⟩:∃ t,l[k]?=some t:=⟨_,List.getElem?_eq_getElem hkn⟩
  have hr:=hh.hdr ht
  have htm:=List.mem_of_getElem? ht
  obtain⟨e1,e2,e3⟩:=hh.len k ht
  rw [tkE22_step e1] at hE2
  repeat' (first|refine d1 ?_|fail)
  refine T_if rfl (fun h7=>by exfalso;simp at h7;omega) (fun _=>?_)
  rw [if_neg (by omega)] at hE2
  have hst2:=hok.src t htm
  repeat' (first|refine d1 ?_|fail)
  refine T_loopX (fun j:Nat=>[(10, .int .i64 j)]) (fun _=>[]) (fun j=>j≤t.n∧∀ i y,i<j→t.l[i]?=some y→tokE y=0) (fun j=>t.n - j) 0 ⟨Nat.zero_le _,fun i y h=>by omega⟩ ?_
  rintro j ⟨hj,hall⟩
  repeat' (first|refine d1 ?_|fail)
  refine T_if rfl (fun h7=>?_) (fun h7=>?_)
  ·simp only [decide_eq_true_eq] at h7
   have hjn:j<t.n:=by omega
   obtain⟨b2,o2,eA⟩:=hst2.base (by omega)
   obtain⟨y,hy⟩:∃ y,t.l[j]?=some y:=⟨_,List.getElem?_eq_getElem (by omega)⟩
   have hr2:RdC w b2 (o2+(j:Int).toNat * 6) y.cells:=by have:=hst2.getT hjn hy;rw [eA] at this;exact this
   rw [eA] at hr
   repeat' (first|refine d1 ?_|(show T _ (.ops _ (_::_)::_) _ _ _;refine T_call rfl rfl rfl rfl rfl (fun w hw=>tokRef_spec y w) ?_)|fail)
   refine T_if rfl (fun h8=>?_) (fun h8=>?_)
   ·simp only [Bool.not_eq_true',decide_eq_false_iff_not] at h8
    have hbad:badL t.l=true:=List.any_eq_true.2 ⟨y,List.mem_of_getElem? hy,by simpa using h8⟩
    rw [if_pos hbad] at hE2
    repeat' (first|refine d1 ?_|(show T _ (.code .ret::_) _ _ _;refine T_retV [] rfl (Hle.none _) ⟨congrArg (Value.int .i64) (by rw [hF,hE2]),rfl⟩))
   simp only [Bool.not_eq_false',decide_eq_true_eq] at h8
   repeat' (first|refine d1 ?_|fail)
   refine T_backX (j+1) ⟨by omega,fun i z hi hz=>?_⟩ (by omega)
   rcases Nat.lt_or_ge i j with h9|h9
   ·exact hall i z h9 hz
   ·rw [show i=j by omega,hy] at hz
    cases hz
    exact h8
  simp only [decide_eq_false_iff_not] at h7
  have hgood:badL t.l=false:=List.any_eq_false.2 fun y hy=>by
   obtain⟨i,hi,e⟩:=List.getElem_of_mem hy
   rw [hall i y (by omega) (by rw [List.getElem?_eq_getElem hi,e])]
   simp
  rw [if_neg (by rw [hgood];simp)] at hE2
  repeat' (first|refine d1 ?_|fail)
  exact T_backX (k+1) ⟨by omega,hE2⟩ (by omega)
 simp only [decide_eq_false_iff_not] at h6
 rw [List.drop_eq_nil_of_le (by rw [List.length_map];omega)] at hE2
 repeat' (first|refine d1 ?_|(show T _ (.code .ret::_) _ _ _;refine T_retV [] rfl (Hle.none _) ⟨congrArg (Value.int .i64) (by rw [hF,hE2];rfl),rfl⟩))
theorem chk22_19 {x:Co} {l:List TS} (hl:∀ t∈l,t.l.length=t.n) (hm:l.map TS.l=x.m) (h:head22 x.sec x.sg x.m=0) (hc:¬ ColsOk (lens l) x.cols):chk22 x=19:=by
 unfold chk22
 rw [if_neg (by rw [h];simp),if_neg (by rw [← hm, ← lens22_of hl];exact hc)]
theorem chk22_0 {x:Co} {l:List TS} (hl:∀ t∈l,t.l.length=t.n) (hm:l.map TS.l=x.m) (h:head22 x.sec x.sg x.m=0) (hc:ColsOk (lens l) x.cols):chk22 x=0:=by
 unfold chk22
 rw [if_neg (by rw [h];simp),if_pos (by rw [← hm, ← lens22_of hl];exact hc)]
theorem chk22_h {x:Co} (h:head22 x.sec x.sg x.m≠0):chk22 x=head22 x.sec x.sg x.m:=if_pos h
theorem HdAt.grp {w:World} {sec:ByteArray} {sg':List ByteArray} {A1 A2:Option Addr} {c1 c2:Nat} {l:List TS} (h:HdAt w sec sg' A1 c1 l A2 c2) (hn:l.length≤32):Grp w A2 l.length l :=
 ⟨h.hst,h.s2,rfl,hn,h.ok,fun t ht=>by have:=(h.tok t ht).1;omega,fun t ht=>(h.tok t ht).2⟩
theorem checkP22_spec (x:Co) (A1:Option Addr) (c1:Nat) (l:List TS) (A2:Option Addr) (c2:Nat) (y3:Value) (w:World) (hx:CoAt w x A1 c1 l A2 c2 y3) :
  Spec Tryz.prog 27 [.agg (coL x.sec (.slice A1 x.sg.length c1) (.slice A2 l.length c2) y3).toArray] w (fun v R=>v = .int .i64 (chk22 x)∧R=[]):=by
 refine spec_of sg Tryz.func27 rfl rfl rfl ?_
 have hm:=hx.m
 repeat' (first|(show T _ (.ops _ (⟨_, .box _ _,_,_,_,_⟩::_)::_) _ _ _;refine T_op (OpT.box (cs:=coL x.sec (.slice A1 x.sg.length c1) (.slice A2 l.length c2) y3) rfl rfl rfl rfl rfl rfl rfl (fun _=>?_)))|refine d1 ?_|(show T _ (.ops _ (_::_)::_) _ _ _;refine T_call rfl rfl rfl rfl rfl (fun w hw=>sources22_spec x.sec x.sg A1 c1 l A2 c2 w (hx.hd.cls hw)) ?_)|fail)
 rw [hm]
 refine T_if rfl (fun h=>?_) (fun h=>?_)
 ·simp only [Bool.not_eq_true',decide_eq_false_iff_not] at h
  repeat' (first|refine d1 ?_|(show T _ (.code .ret::_) _ _ _;refine T_retV [] rfl (Hle.none _) ⟨congrArg (Value.int .i64) (chk22_h h).symm,rfl⟩))
 simp only [Bool.not_eq_false',decide_eq_true_eq] at h
 have hh:=head22_iff.1 h
 have hll:l.length=x.sg.length:=by rw [← hh.len, ← hm,List.length_map]
 have h32:=hh.le
 have hpos:=hh.pos
 repeat' (first|refine d1 ?_|(show T _ (.ops _ (_::_)::_) _ _ _;refine T_call rfl rfl rfl rfl rfl (fun w hw=>check19_spec A2 l.length c2 l y3 x.cols w ((hx.hd.cls hw).grp (by omega)) (hx.cols.old hw)) ?_)|fail)
 refine T_if rfl (fun h2=>?_) (fun h2=>?_)
 ·simp only [Bool.not_eq_true',decide_eq_false_iff_not] at h2
  repeat' (first|refine d1 ?_|(show T _ (.code .ret::_) _ _ _;refine T_retV [] rfl (Hle.none _) ⟨congrArg (Value.int .i64) (chk22_19 hx.hd.ok.len hm h fun hc=>h2 (chkC_ok (by omega) hc)).symm,rfl⟩))
 simp only [Bool.not_eq_false',decide_eq_true_eq] at h2
 repeat' (first|refine d1 ?_|(show T _ (.code .ret::_) _ _ _;refine T_retV [] rfl (Hle.none _) ⟨congrArg (Value.int .i64) (chk22_0 hx.hd.ok.len hm h (Classical.byContradiction fun hc=>by rw [chkC_bad (by omega) hc] at h2;omega)).symm,rfl⟩))
end Go.Proofs.YtblnhdnogjijiaaGreatDoor
namespace Go.Proofs.YtblnhdnogjijiaaGreatDoor
open Go.RowKit Go.Shelf Go.Proofs
set_option maxRecDepth 100000
set_option maxHeartbeats 1000000

theorem greatNames_spec (sec:ByteArray) (sg':List ByteArray) (A1:Option Addr) (c1:Nat) (w:World) (hs:Src w 1 A1 sg'.length (sg'.map Value.string)) (hb:sg'.length≤9223372036854775807) :
  Spec Tryz.prog 49 [.string sec, .slice A1 sg'.length c1] w (fun v R=>v = .bool (grN22 sec sg')∧R=[]):=by
 refine spec_of sg Tryz.func49 rfl rfl rfl ?_
 repeat' (first|refine d1 ?_|fail)
 refine T_loopX (fun k:Nat=>[(5, .int .i64 k)]) (fun _=>[]) (fun k=>k≤sg'.length∧∀ j s,j<k→sg'[j]?=some s→s.size≤20) (fun k=>sg'.length - k) 0 ⟨Nat.zero_le _,fun j s h=>by omega⟩ ?_
 rintro k ⟨hk,hall⟩
 repeat' (first|refine d1 ?_|fail)
 refine T_if rfl (fun h=>?_) (fun h=>?_)
 ·simp only [decide_eq_true_eq] at h
  have hkn:k<sg'.length:=by omega
  obtain⟨b,o,rfl⟩:=hs.base (by omega)
  obtain⟨s,hs9⟩:∃ s,sg'[k]?=some s:=⟨_,List.getElem?_eq_getElem hkn⟩
  have hr:=src_str hs hkn hs9
  repeat' (first|refine d1 ?_|fail)
  refine T_if rfl (fun h2=>?_) (fun h2=>?_)
  ·simp only [decide_eq_true_eq] at h2
   have:sg'.any (fun s=>decide (20<s.size))=true:=List.any_eq_true.2 ⟨s,List.mem_of_getElem? hs9,by simp;omega⟩
   repeat' (first|refine d1 ?_|(show T _ (.code .ret::_) _ _ _;refine T_retV [] rfl (Hle.none _) ⟨congrArg Value.bool (by unfold grN22;rw [this];rfl),rfl⟩))
  simp only [decide_eq_false_iff_not] at h2
  repeat' (first|refine d1 ?_|fail)
  refine T_backX (k+1) ⟨by omega,fun j z hj hz=>?_⟩ (by omega)
  rcases Nat.lt_or_ge j k with h9|h9
  ·exact hall j z h9 hz
  ·rw [show j=k by omega,hs9] at hz
   cases hz
   omega
 simp only [decide_eq_false_iff_not] at h
 have:sg'.any (fun s=>decide (20<s.size))=false:=List.any_eq_false.2 fun y hy=>by
  obtain⟨i,hi,e⟩:=List.getElem_of_mem hy
  have:=hall i y (by omega) (by rw [List.getElem?_eq_getElem hi,e])
  simp;omega
 repeat' (first|refine d1 ?_|(show T _ (.code .ret::_) _ _ _;refine T_retV [] rfl (Hle.none _) ⟨congrArg Value.bool (by unfold grN22;rw [this,Bool.false_or];exact decide_eq_decide.2 (by omega)),rfl⟩))
theorem grL22_step {m:List (List Tok)} {k n:Nat} {l:List Tok} (h:m[k]?=some l):grL22 k n (m.drop k)=((decide (6<l.length) || (decide (4≤k) && decide (1<l.length)) || l.any big22) || grL22 (k+1) (if k<4 then n * (l.length+1) else n) (m.drop (k+1))):=by
 obtain⟨hl,e⟩:=List.getElem?_eq_some_iff.1 h
 rw [List.drop_eq_getElem_cons hl,e]
 rfl
theorem greatTokens_spec (A2:Option Addr) (c2:Nat) (l:List TS) (w:World) (hs:Src w 1 A2 l.length (l.map TS.val)) (hl:TsOk w l) (hb:l.length≤9223372036854775807) :
  Spec Tryz.prog 48 [.slice A2 l.length c2] w (fun v R=>v = .bool (grT22 (l.map TS.l))∧R=[]):=by
 refine spec_of sg Tryz.func48 rfl rfl rfl ?_
 repeat' (first|refine d1 ?_|fail)
 refine T_loopX (fun s:Nat × Nat=>[(4, .int .i64 (s.1:Nat)),(3, .int .i64 (s.2:Nat))]) (fun _=>[]) (fun s=>s.1≤l.length∧grL22 0 1 (l.map TS.l)=grL22 s.1 s.2 ((l.map TS.l).drop s.1)∧s.2 * 7 ^ (4 - s.1)≤2401) (fun s=>l.length - s.1) (0,1) ⟨Nat.zero_le _,by simp,by decide⟩ ?_
 rintro⟨k,n⟩ ⟨hk,hE,hN⟩
 dsimp only at hk hE hN ⊢
 have hn:n≤2401:=Nat.le_trans (Nat.le_mul_of_pos_right n (Nat.pow_pos (by omega))) hN
 repeat' (first|refine d1 ?_|fail)
 refine T_if rfl (fun h=>?_) (fun h=>?_)
 ·simp only [decide_eq_true_eq] at h
  have hkn:k<l.length:=by omega
  obtain⟨b,o,rfl⟩:=hs.base (by omega)
  obtain⟨t,ht⟩:∃ t,l[k]?=some t:=⟨_,List.getElem?_eq_getElem hkn⟩
  have htm:=List.mem_of_getElem? ht
  have htl:=hl.len t htm
  have htb:=hl.bd t htm
  have hts:=hl.src t htm
  have hr:RdC w b (o+(k:Int).toNat * 1) [.slice t.A t.n t.cap]:=by
   have h9:=(hs.get1 (i:=k) hkn (by rw [List.getElem?_map,ht];rfl)).2
   rw [Nat.mul_one] at h9
   rw [off1]
   exact h9
  rw [grL22_step (by rw [List.getElem?_map,ht];rfl)] at hE
  repeat' (first|refine d1 ?_|fail)
  refine T_if rfl (fun h2=>?_) (fun h2=>?_)
  ·have h3:(decide (6<t.l.length) || (decide (4≤k) && decide (1<t.l.length)))=true:=by
    simp only [Bool.or_eq_true,Bool.and_eq_true,decide_eq_true_eq] at h2 ⊢
    omega
   rw [h3,Bool.true_or,Bool.true_or] at hE
   repeat' (first|refine d1 ?_|(show T _ (.code .ret::_) _ _ _;refine T_retV [] rfl (Hle.none _) ⟨congrArg Value.bool (by unfold grT22;rw [hE];rfl),rfl⟩))
  have h3:(decide (6<t.l.length) || (decide (4≤k) && decide (1<t.l.length)))=false:=by
   simp only [Bool.or_eq_false_iff,Bool.and_eq_false_iff,decide_eq_false_iff_not] at h2 ⊢
   omega
  have h6:t.n≤6:=by
   simp only [Bool.or_eq_false_iff,decide_eq_false_iff_not] at h3
   omega
  rw [h3,Bool.false_or] at hE
  repeat' (first|refine d1 ?_|fail)
  refine T_cutX 1 [3] (fun _:Unit=>[(3, .int .i64 ((if k<4 then n * (t.l.length+1) else n:Nat):Nat))]) (fun _=>[]) (fun _=>True) ?_ ?_
  ·refine T_if rfl (fun h4=>?_) (fun h4=>?_)
   ·simp only [decide_eq_true_eq] at h4
    have h5:n * (t.n+1)≤2401 * 7:=Nat.mul_le_mul hn (by omega)
    have h7:(n:Int) * ((t.n:Int)+1)=((n * (t.n+1):Nat):Int):=by push_cast;rfl
    repeat' (first|refine d1 ?_|fail)
    refine T_meetX () trivial (hE:=⟨by rw [if_pos (by omega),htl, ← h7];rfl,trivial⟩)
   ·simp only [decide_eq_false_iff_not] at h4
    skip
    exact T_meetX () trivial (hE:=⟨by rw [if_neg (by omega)];rfl,trivial⟩)
  rintro⟨⟩ -
  repeat' (first|refine d1 ?_|fail)
  refine T_loopX (fun j:Nat=>[(5, .int .i64 j)]) (fun _=>[]) (fun j=>j≤t.n∧∀ i y,i<j→t.l[i]?=some y→big22 y=false) (fun j=>t.n - j) 0 ⟨Nat.zero_le _,fun i y h=>by omega⟩ ?_
  rintro j ⟨hj,hall⟩
  repeat' (first|refine d1 ?_|fail)
  refine T_if rfl (fun h4=>?_) (fun h4=>?_)
  ·simp only [decide_eq_true_eq] at h4
   have hjn:j<t.n:=by omega
   obtain⟨b2,o2,eA⟩:=hts.base (by omega)
   obtain⟨y,hy⟩:∃ y,t.l[j]?=some y:=⟨_,List.getElem?_eq_getElem (by omega)⟩
   have hr2:RdC w b2 (o2+(j:Int).toNat * 6) y.cells:=by have:=hts.getT hjn hy;rw [eA] at this;exact this
   rw [eA] at hr
   repeat' (first|refine d1 ?_|(show ∀ _:Nat,T _ _ _ _ _;intro _))
   refine T_if rfl (fun h5=>?_) (fun h5=>?_)
   ·have hbig:big22 y=true:=by
     simp only [Bool.or_eq_true,decide_eq_true_eq] at h5
     simp only [big22,Bool.or_eq_true,decide_eq_true_eq]
     omega
    rw [List.any_eq_true.2 ⟨y,List.mem_of_getElem? hy,hbig⟩,Bool.true_or] at hE
    repeat' (first|refine d1 ?_|(show T _ (.code .ret::_) _ _ _;refine T_retV [] rfl (Hle.none _) ⟨congrArg Value.bool (by unfold grT22;rw [hE];rfl),rfl⟩))
   have hbig:big22 y=false:=by
    simp only [Bool.or_eq_false_iff,decide_eq_false_iff_not] at h5
    simp only [big22,Bool.or_eq_false_iff,decide_eq_false_iff_not]
    omega
   repeat' (first|refine d1 ?_|fail)
   refine T_backX (j+1) ⟨by omega,fun i z hi hz=>?_⟩ (by omega)
   rcases Nat.lt_or_ge i j with h9|h9
   ·exact hall i z h9 hz
   ·rw [show i=j by omega,hy] at hz
    cases hz
    exact hbig
  simp only [decide_eq_false_iff_not] at h4
  have hgood:t.l.any big22=false:=List.any_eq_false.2 fun y hy=>by
   obtain⟨i,hi,e⟩:=List.getElem_of_mem hy
   rw [hall i y (by omega) (by rw [List.getElem?_eq_getElem hi,e])]
   simp
  rw [hgood,Bool.false_or] at hE
  repeat' (first|refine d1 ?_|fail)
  refine T_backX (k+1,if k<4 then n * (t.l.length+1) else n) ⟨by dsimp only;omega,hE,?_⟩ (by dsimp only;omega)
  show (if k<4 then n * (t.l.length+1) else n) * 7 ^ (4 - (k+1))≤2401
  by_cases h7:k<4
  ·rw [if_pos h7]
   rw [show 4 - k=(4 - (k+1))+1 by omega,Nat.pow_succ] at hN
   have h8:n * (t.l.length+1) * 7 ^ (4 - (k+1))≤n * 7 * 7 ^ (4 - (k+1)):=Nat.mul_le_mul_right _ (Nat.mul_le_mul_left _ (by omega))
   have e9:n * 7 * 7 ^ (4 - (k+1))=n * (7 ^ (4 - (k+1)) * 7):=by rw [Nat.mul_assoc,Nat.mul_comm 7]
   rw [e9] at h8
   exact Nat.le_trans h8 hN
  ·rw [if_neg h7,show 4 - (k+1)=4 - k by omega]
   exact hN
 simp only [decide_eq_false_iff_not] at h
 rw [List.drop_eq_nil_of_le (by rw [List.length_map];omega)] at hE
 have hE2:grL22 0 1 (l.map TS.l)=decide (400<n):=hE
 repeat' (first|refine d1 ?_|(show T _ (.code .ret::_) _ _ _;refine T_retV [] rfl (Hle.none _) ⟨congrArg Value.bool ?_,rfl⟩))
 unfold grT22
 rw [hE2,List.length_map,Bool.eq_iff_iff]
 simp only [Bool.or_eq_true,Bool.and_eq_true,decide_eq_true_eq]
 omega
end Go.Proofs.YtblnhdnogjijiaaGreatDoor
namespace Go.Proofs.YtblnhdnogjijiaaGreatDoor
open Go.RowKit Go.Shelf Go.Proofs

theorem getD_mem22 {α:Type} {l:List α} {k:Nat} (d:α) (h:k<l.length):l.getD k d∈l:=by
 rw [List.getD_eq_getElem?_getD,List.getElem?_eq_getElem h]
 exact List.getElem_mem h
end Go.Proofs.YtblnhdnogjijiaaGreatDoor
namespace Go.Proofs.YtblnhdnogjijiaaGreatDoor
open Go.RowKit Go.Shelf Go.Proofs

theorem txt22_neg22 (l:List Tok) {z:Int} (h:z<0):txt22 l z=ByteArray.empty:=if_pos h
theorem txt22_get {l:List Tok} {k:Nat} {t:Tok} (h:l[k]?=some t):txt22 l (k:Int)=t.text:=by
 unfold txt22
 rw [if_neg (by omega),Int.toNat_natCast,h]
end Go.Proofs.YtblnhdnogjijiaaGreatDoor
namespace Go.Proofs.YtblnhdnogjijiaaGreatDoor
open Go.RowKit Go.Shelf Go.Proofs
set_option maxRecDepth 100000
set_option maxHeartbeats 1000000

theorem CoAt.row {w:World} {x:Co} {A1 A2:Option Addr} {c1 c2:Nat} {l:List TS} {y3:Value} (hx:CoAt w x A1 c1 l A2 c2 y3) (hok:Ok22 x):l.length=x.sg.length∧x.sg.length≤32∧1≤x.sg.length:=⟨by rw [← hok.head.len, ← hx.m,List.length_map],hok.head.le,hok.head.pos⟩
theorem CoAt.entry {w:World} {x:Co} {A1 A2:Option Addr} {c1 c2:Nat} {l:List TS} {y3:Value} (hx:CoAt w x A1 c1 l A2 c2 y3) (hok:Ok22 x) {i k:Nat} {r:List Int} (hr:x.cols[i]?=some r) (hk:k<x.sg.length) :
  r.length=x.sg.length∧∃ t z,l[k]?=some t∧r[k]?=some z ∧ -1≤z∧z<(t.n:Int)∧cell22 x k i=txt22 t.l z∧t.l.length=t.n:=by
 obtain⟨h1,h2,h3⟩:=hx.row hok
 have hm:=hx.m
 obtain⟨t,ht⟩:∃ t,l[k]?=some t:=⟨_,List.getElem?_eq_getElem (by omega)⟩
 have htl:=hx.hd.ok.len t (List.mem_of_getElem? ht)
 have hmk:x.m[k]?=some t.l:=by rw [← hm,List.getElem?_map,ht];rfl
 have hls:(lens22 x.m)[k]?=some t.n:=by unfold lens22;rw [List.getElem?_map,hmk, ← htl];rfl
 have hrl:r.length=x.sg.length:=by rw [hok.cols.len r (List.mem_of_getElem? hr)];unfold lens22;rw [List.length_map];exact hok.head.len
 obtain⟨z,hz⟩:∃ z,r[k]?=some z:=⟨_,List.getElem?_eq_getElem (by omega)⟩
 obtain⟨e1,e2⟩:=hok.cols.entry (List.mem_of_getElem? hr) hls hz
 refine ⟨hrl,t,z,ht,hz,e1,e2,?_,htl⟩
 unfold cell22
 rw [List.getD_eq_getElem?_getD,hmk,List.getD_eq_getElem?_getD,List.getD_eq_getElem?_getD,hr,Option.getD_some,Option.getD_some,hz,Option.getD_some]
def pre22 (l:List ByteArray) (n k:Nat):List Value:=(List.range n).map fun q => .string (if q<k then l.getD q ByteArray.empty else ByteArray.empty)
theorem pre22_len (l:List ByteArray) (n k:Nat):(pre22 l n k).length=n:=by simp [pre22]
theorem pre22_zero (l:List ByteArray) (n:Nat):List.replicate n (Value.string ByteArray.empty)=pre22 l n 0:=by
 unfold pre22
 refine List.ext_getElem? fun j=>?_
 rw [List.getElem?_map,List.getElem?_replicate]
 by_cases hj:j<n
 ·rw [List.getElem?_range hj,if_pos hj,Option.map_some,if_neg (by omega)]
 ·rw [List.getElem?_eq_none (by rw [List.length_range];omega),if_neg hj];rfl
theorem pre22_set {l:List ByteArray} {n k:Nat} (h:k<n):(pre22 l n k).set k (.string (l.getD k ByteArray.empty))=pre22 l n (k+1):=by
 refine List.ext_getElem? fun j=>?_
 unfold pre22
 rw [List.getElem?_set,List.getElem?_map,List.getElem?_map,List.length_map,List.length_range]
 by_cases hj:j<n
 ·rw [List.getElem?_range hj,Option.map_some,Option.map_some]
  by_cases e:k=j
  ·subst e
   rw [if_pos rfl,if_pos h,if_pos (by omega)]
  ·rw [if_neg e]
   by_cases h2:j<k
   ·rw [if_pos h2,if_pos (by omega)]
   ·rw [if_neg h2,if_neg (by omega)]
 ·rw [if_neg (by omega),List.getElem?_eq_none (by rw [List.length_range];omega)]
  rfl
theorem pre22_gap {l:List ByteArray} {n k:Nat} (h:l.getD k ByteArray.empty=ByteArray.empty):pre22 l n k=pre22 l n (k+1):=by
 unfold pre22
 refine List.map_congr_left fun q _=>?_
 by_cases h1:q<k
 ·rw [if_pos h1,if_pos (by omega)]
 ·by_cases h2:q=k
  ·subst h2;rw [if_neg h1,if_pos (by omega),h]
  ·rw [if_neg h1,if_neg (by omega)]
theorem pre22_all (l:List ByteArray):pre22 l l.length l.length=l.map Value.string:=by
 unfold pre22
 refine List.ext_getElem? fun j=>?_
 rw [List.getElem?_map,List.getElem?_map]
 by_cases hj:j<l.length
 ·rw [List.getElem?_range hj,Option.map_some,if_pos hj,List.getD_eq_getElem?_getD,List.getElem?_eq_getElem hj];rfl
 ·rw [List.getElem?_eq_none (by rw [List.length_range];omega),List.getElem?_eq_none (by omega)];rfl
theorem column22_spec (x:Co) (A1:Option Addr) (c1:Nat) (l:List TS) (A2:Option Addr) (c2:Nat) (y3:Value) (i:Nat) (w:World) (hx:CoAt w x A1 c1 l A2 c2 y3) (hok:Ok22 x) (hi:i<x.cols.length) :
  Spec Tryz.prog 64 [.agg (coL x.sec (.slice A1 x.sg.length c1) (.slice A2 l.length c2) y3).toArray, .int .i64 (i:Nat)] w (fun v R=>∃ b:Nat,True∧v = .slice (some ⟨b,0,none⟩) x.sg.length x.sg.length∧R=[blk b ((col22 x i).map Value.string) 9]):=by
 obtain⟨Ak,ck,csk,rfl,hck1,hck2,hcs,hrows⟩:=hx.cols.tabS
 obtain⟨h1,h2,h3⟩:=hx.row hok
 obtain⟨bk3,ok3,rfl⟩:=hcs.base (by omega)
 obtain⟨r,hr⟩:∃ r,x.cols[i]?=some r:=⟨_,List.getElem?_eq_getElem hi⟩
 obtain⟨Au,capu,hu,-,-,hA⟩:=hrows.tabRow hr
 have hr0:=rowHd hcs hi hu
 have hsr:=rowSrc hA
 have hrl:=(hx.entry hok hr (k:=0) (by omega)).1
 obtain⟨n,hn⟩:∃ n,x.sg.length=n:=⟨_,rfl⟩
 have hcl:(col22 x i).length=n:=by rw [col22_len];exact hn
 have hS:Spec Tryz.prog 64 [.agg (coL x.sec (.slice A1 n c1) (.slice A2 l.length c2) (.slice (some ⟨bk3,ok3,none⟩) x.cols.length ck)).toArray, .int .i64 (i:Nat)] w (fun v R=>∃ b:Nat,True∧v = .slice (some ⟨b,0,none⟩) n n∧R=[blk b ((col22 x i).map Value.string) 9]):=by
  refine spec_of sg Tryz.func64 rfl rfl rfl ?_
  refine T_op (OpT.box (cs:=coL x.sec (.slice A1 n c1) (.slice A2 l.length c2) (.slice (some ⟨bk3,ok3,none⟩) x.cols.length ck)) rfl rfl rfl rfl rfl rfl rfl (fun pc=>?_))
  repeat' (first|refine d1 ?_|(show T _ (.ops _ (_::_)::_) _ _ _;refine T_op (OpT.make rfl rfl rfl rfl rfl rfl rfl rfl rfl (by dsimp only;omega) (fun b1=>?_)))|fail)
  have hz:List.replicate n (Value.string ByteArray.empty)=pre22 (col22 x i) n 0:=pre22_zero _ _
  refine T_loopX (fun k:Nat=>[(18, .int .i64 k)]) (fun k=>[blk b1 (pre22 (col22 x i) n k) 9,blk pc (coL x.sec (.slice A1 n c1) (.slice A2 l.length c2) (.slice (some ⟨bk3,ok3,none⟩) x.cols.length ck)) 32]) (fun k=>k≤n) (fun k=>n - k) 0 (Nat.zero_le _) ?_ (hG:=by rw [← hz];exact Hle.refl _)
  intro k hk
  repeat' (first|refine d1 ?_|fail)
  refine T_if rfl (fun h=>?_) (fun h=>?_)
  ·simp only [decide_eq_true_eq] at h
   have hkn:k<n:=by omega
   obtain⟨-,t,z,ht,hz,g1,g2,g3,g4⟩:=hx.entry hok hr (k:=k) (by omega)
   obtain⟨bu,ou,rfl⟩:=hsr.base (by omega)
   have hr1:=src_int hsr (by omega) hz
   have hcg:(col22 x i).getD k ByteArray.empty=txt22 t.l z:=by rw [List.getD_eq_getElem?_getD,col22_get (by omega),Option.getD_some,g3]
   repeat' (first|refine d1 ?_|fail)
   refine T_if rfl (fun h4=>?_) (fun h4=>?_)
   ·simp only [decide_eq_true_eq] at h4
    obtain⟨p,rfl⟩:=Int.eq_ofNat_of_zero_le h4
    obtain⟨y,hy⟩:∃ y,t.l[p]?=some y:=⟨_,List.getElem?_eq_getElem (by omega)⟩
    obtain⟨b2,o2,rfl⟩:=hx.hd.s2.base (by omega)
    have hrt:=hx.hd.hdr ht
    have hts:=hx.hd.ok.src t (List.mem_of_getElem? ht)
    obtain⟨b4,o4,eA⟩:=hts.base (by omega)
    rw [eA] at hrt
    have hr2:RdC w b4 (o4+(p:Int).toNat * 6) y.cells:=by have:=hts.getT (k:=p) (by omega) hy;rw [eA] at this;exact this
    rw [txt22_get hy] at hcg
    repeat' (first|refine d1 ?_|(show T _ (.ops _ (_::_)::_) _ _ _;refine T_op (OpT.store rfl rfl rfl rfl (by rw [pre22_len];omega) ?_))|fail)
    refine T_backX (k+1) hkn (by omega) (hG:=?_)
    rw [show 0+(k:Int).toNat * 1=k by omega, ← hcg,pre22_set hkn]
    exact Hle.refl _
   ·simp only [decide_eq_false_iff_not] at h4
    repeat' (first|refine d1 ?_|fail)
    refine T_backX (k+1) hkn (by omega) (hG:=?_)
    rw [← pre22_gap (by rw [hcg,txt22_neg22 _ (by omega)])]
    exact Hle.refl _
  ·simp only [decide_eq_false_iff_not] at h
   obtain rfl:k=n:=by omega
   have e:pre22 (col22 x i) k k=(col22 x i).map Value.string:=by rw [← hcl];exact pre22_all _
   rw [e]
   repeat' (first|refine d1 ?_|(show T _ (.code .ret::_) _ _ _;refine T_retV _ rfl Hle.sub ⟨b1,trivial,rfl,rfl⟩))
 rw [hn]
 exact hS
end Go.Proofs.YtblnhdnogjijiaaGreatDoor
namespace Go.Proofs.YtblnhdnogjijiaaGreatDoor
open Go.RowKit Go.Shelf Go.Proofs
set_option maxRecDepth 100000
set_option maxHeartbeats 1000000

end Go.Proofs.YtblnhdnogjijiaaGreatDoor
namespace Go.Proofs.YtblnhdnogjijiaaGreatDoor
open Go.RowKit Go.Shelf Go.Proofs
set_option maxRecDepth 100000
set_option maxHeartbeats 1000000

theorem find1_22_spec (A:Option Addr) (n ca p4 p5:Nat) (r:List Int) (s:Nat) (k:Int) (w:World) (hs:Src w 1 A n (r.map (Value.int .i64))) (hn:r.length=n) (hsn:s<n) (h4:RdC w p4 0 [.int .i64 (s:Nat)]) (h5:RdC w p5 0 [.int .i64 k]) :
  Spec Tryz.prog 63 [.slice A n ca, .pointer (some ⟨p4,0,none⟩), .pointer (some ⟨p5,0,none⟩)] w (fun v R=>v = .bool (decide (r.getD s (-1)=k))∧R=[]):=by
 obtain⟨b,o,rfl⟩:=hs.base (by omega)
 obtain⟨z,hz⟩:∃ z,r[s]?=some z:=⟨_,List.getElem?_eq_getElem (by omega)⟩
 have hr:=src_int hs hsn hz
 refine spec_of sg Tryz.func63 rfl rfl rfl ?_
 repeat' (first|refine d1 ?_|refine dd ?_|(show T _ (.code .ret::_) _ _ _;refine T_retV [] rfl (Hle.none _) ⟨congrArg Value.bool (by rw [List.getD_eq_getElem?_getD,hz];rfl),rfl⟩))
theorem findI_range22 {α:Type} (f:α→Bool) (d:α):∀ l:List α,findI (fun i=>f (l.getD i d)) (List.range l.length)=findI f l:=by
 intro l
 by_cases h:∃ i,i<l.length∧f (l.getD i d)=true∧∀ j,j<i→f (l.getD j d)=false
 ·obtain⟨i,hi,h1,h2⟩:=h
  have e:l[i]?=some (l.getD i d):=by rw [List.getD_eq_getElem?_getD,List.getElem?_eq_getElem hi];rfl
  rw [findI_some e h1 fun j y hj hy=>by have:=h2 j hj;rw [List.getD_eq_getElem?_getD,hy] at this;exact this]
  refine findI_some (List.getElem?_range hi) h1 fun j y hj hy=>?_
  have hjl:j<l.length:=by omega
  rw [List.getElem?_range hjl] at hy
  cases hy
  exact h2 j hj
 ·have key:∀ n j,j<n→j<l.length→f (l.getD j d)=false:=by
   intro n
   induction n with
   | zero=>intro j hj;omega
   | succ n ih =>
    intro j hj hl
    cases hf:f (l.getD j d) with
    | false=>rfl
    | true=>exact absurd ⟨j,hl,hf,fun i hi=>ih i (by omega) (by omega)⟩ h
  rw [findI_none fun i y hy=>?_,findI_none fun i y hy=>?_]
  ·have hi:=(List.getElem?_eq_some_iff.1 hy).1
   have:=key (i+1) i (by omega) hi
   rw [List.getD_eq_getElem?_getD,hy] at this
   exact this
  ·have hi:=(List.getElem?_eq_some_iff.1 hy).1
   rw [List.length_range] at hi
   rw [List.getElem?_range hi] at hy
   cases hy
   exact key (i+1) i (by omega) hi
theorem findP22_spec (x:Co) (A1:Option Addr) (c1:Nat) (l:List TS) (A2:Option Addr) (c2:Nat) (y3:Value) (s k:Int) (w:World) (hx:CoAt w x A1 c1 l A2 c2 y3) :
  Spec Tryz.prog 18 [.agg (coL x.sec (.slice A1 x.sg.length c1) (.slice A2 l.length c2) y3).toArray, .int .i64 s, .int .i64 k] w (fun v R=>v = .tuple #[.int .i64 (findV22 x s k).1, .int .i64 (findV22 x s k).2]∧R=[]):=by
 obtain⟨Ak,ck,csk,rfl,hck1,hck2,hcs,hrows⟩:=hx.cols.tabS
 refine spec_of sg Tryz.func18 rfl rfl rfl ?_
 refine T_op (OpT.box (cs:=coL x.sec (.slice A1 x.sg.length c1) (.slice A2 l.length c2) (.slice Ak x.cols.length ck)) rfl rfl rfl rfl rfl rfl rfl (fun pc=>?_))
 refine T_op (OpT.box (cs:=[.int .i64 s]) rfl rfl rfl rfl rfl rfl rfl (fun p4=>?_))
 refine T_op (OpT.box (cs:=[.int .i64 k]) rfl rfl rfl rfl rfl rfl rfl (fun p5=>?_))
 repeat' (first|refine d1 ?_|(show T _ (.ops _ (_::_)::_) _ _ _;refine T_call rfl rfl rfl rfl rfl (fun w hw=>checkP22_spec x A1 c1 l A2 c2 _ w (hx.cls hw)) ?_)|fail)
 refine T_if rfl (fun h=>?_) (fun h=>?_)
 ·simp only [Bool.not_eq_true',decide_eq_false_iff_not] at h
  have e:findV22 x s k=(0,1):=if_pos h
  rw [e]
  repeat' (first|refine d1 ?_|(show T _ (.code .ret::_) _ _ _;refine T_retV [] rfl (Hle.none _) ⟨rfl,rfl⟩))
 simp only [Bool.not_eq_false',decide_eq_true_eq] at h
 have hok:=chk22_iff.1 h
 obtain⟨h1,h2,h3⟩:=hx.row hok
 obtain⟨b2,o2,rfl⟩:=hx.hd.s2.base (by omega)
 have hT:∃ t:TS,(0≤s∧s<(l.length:Int)→l[s.toNat]?=some t∧RdC w b2 (o2+s.toNat * 1) [.slice t.A t.n t.cap]∧(x.m.getD s.toNat []).length=t.n):=by
  by_cases hs:0≤s∧s<(l.length:Int)
  ·obtain⟨p,rfl⟩:=Int.eq_ofNat_of_zero_le hs.1
   obtain⟨t,ht⟩:∃ t,l[p]?=some t:=⟨_,List.getElem?_eq_getElem (by omega)⟩
   refine ⟨t,fun _=>⟨by rw [Int.toNat_natCast];exact ht,hx.hd.hdr ht,?_⟩⟩
   rw [Int.toNat_natCast, ← hx.m,List.getD_eq_getElem?_getD,List.getElem?_map,ht]
   exact hx.hd.ok.len t (List.mem_of_getElem? ht)
  ·exact⟨⟨none,0,0,[]⟩,fun h9=>absurd h9 hs⟩
 obtain⟨t,hT⟩:=hT
 repeat' (first|refine dd ?_|(show T _ (.run _ _ (_::_) _ _::_) _ _ _;refine rg rfl rfl rfl (Val.load rfl (fun hg=>rdOld (hT (by ((simp only [List.cons_append,List.nil_append,GP,dstL,lookE,Nat.beq,cond,List.getElem?_cons_zero,List.getElem?_cons_succ,Option.bind_some,and_true,Bool.and_eq_true,Bool.or_eq_true,Bool.and_eq_false_iff,Bool.or_eq_false_iff,Bool.not_eq_true',Bool.not_eq_false',decide_eq_true_eq,decide_eq_false_iff_not] at hg);omega))).2.1)) rfl rfl rfl rfl rfl ?_)|fail)
 have hcond:(s<0∨(x.sg.length:Int)≤s)∨(k<0∨((x.m.getD s.toNat []).length:Int)≤k)↔(((s<0∨(x.sg.length:Int)≤s)∨k<0)∨(t.n:Int)≤k):=by
  by_cases hs:0≤s∧s<(l.length:Int)
  ·rw [(hT hs).2.2];omega
  ·omega
 refine T_if rfl (fun h4=>?_) (fun h4=>?_)
 ·simp only [Bool.or_eq_true,decide_eq_true_eq] at h4
  have e:findV22 x s k=(0,2):=by unfold findV22;rw [if_neg (by rw [h];simp),if_pos (hcond.2 h4)]
  rw [e]
  repeat' (first|refine d1 ?_|(show T _ (.code .ret::_) _ _ _;refine T_retV [] rfl (Hle.none _) ⟨rfl,rfl⟩))
 have h4:¬ (((s<0∨(x.sg.length:Int)≤s)∨k<0)∨(t.n:Int)≤k):=by
  simp only [Bool.or_eq_false_iff,decide_eq_false_iff_not] at h4
  omega
 have e:findV22 x s k=(at22 x s.toNat k,0):=by unfold findV22;rw [if_neg (by rw [h];simp),if_neg (fun hh=>h4 (hcond.1 hh))]
 rw [e]
 obtain⟨p,rfl⟩:=Int.eq_ofNat_of_zero_le (by omega:0≤s)
 rw [Int.toNat_natCast]
 have hf:∀ w1:World,RdC w1 p4 0 [.int .i64 (p:Nat)]→RdC w1 p5 0 [.int .i64 k]→(∀ A n xs,Src w 1 A n xs→Src w1 1 A n xs)→∀ (i:Nat) u,csk[i]?=some u→∀ w',Below w1.heap.size w1 w' →
   Spec Tryz.prog 63 ([]++(u::[.pointer (some ⟨p4,0,none⟩), .pointer (some ⟨p5,0,none⟩)])) w' (fun v R=>v = .bool (decide ((x.cols.getD i []).getD p (-1)=k))∧R=[]):=by
  intro w1 g4 g5 gs i u hu w' hb'
  obtain⟨r,hr⟩:∃ r,x.cols[i]?=some r:=⟨_,List.getElem?_eq_getElem (by have:=(List.getElem?_eq_some_iff.1 hu).1;have:=hcs.1;omega)⟩
  obtain⟨Au,capu,hu2,-,-,hA⟩:=hrows.tabRow hr
  rw [hu2] at hu
  cases hu
  have hrl:=(hx.entry hok hr (k:=0) (by omega)).1
  have hg:x.cols.getD i []=r:=by rw [List.getD_eq_getElem?_getD,hr];rfl
  rw [hg]
  exact find1_22_spec Au r.length capu p4 p5 r p k w' (src_below (gs _ _ _ (rowSrc hA)) hb') rfl (by omega) (g4.below hb') (g5.below hb')
 repeat' (first|refine d1 ?_|(show T _ (.ops _ (_::_)::_) _ _ _;refine T_call rfl rfl rfl rfl rfl (fun w hw=>indexFuncR_spec Ak x.cols.length ck csk _ [] [.pointer (some ⟨p4,0,none⟩), .pointer (some ⟨p5,0,none⟩)] (fun i=>decide ((x.cols.getD i []).getD p (-1)=k)) w (rdSrc hcs w hw) (by omega) (hf w (rdAll w hw) (rdAll w hw) (fun _ _ _ hs=>rdSrc hs w hw))) ?_)|(show T _ (.code .ret::_) _ _ _;refine T_retV [] rfl (Hle.none _) ⟨?_,rfl⟩))
 rw [findI_range22 (fun c:List Int=>decide (c.getD p (-1)=k)) []]
 rfl
end Go.Proofs.YtblnhdnogjijiaaGreatDoor
namespace Go.Proofs.YtblnhdnogjijiaaGreatDoor
open Go.RowKit Go.Shelf
set_option linter.unusedSectionVars false

def evCvP (env:Env) (ec:EnvC) (G:GId) (o:Oper):Option (TypeId × TypeId × Nat) :=
 match o.op with
 | .convert s d x=>match evX env ec G x with
  | some (.pointer (some ⟨b,0,none⟩))=>some (s,d,b)
  | _=>none
 | _=>none
section
variable {C:Cx} {all:Array Oper} {o:Oper} {env:Env} {ec:EnvC} {H Hs:List HA} {G:GId} {d:Nat} {Φ:Env→EnvC→List HA→Prop}
theorem evCvP_spec {N:FK} {a:Act} (ha:Agrees N all env ec a) (hG:Holds all a G) {s d':TypeId} {b:Nat} (h:evCvP env ec G o=some (s,d',b)):∃ x,o.op = .convert s d' x∧a.eval x = .pointer (some ⟨b,0,none⟩):=by
 unfold evCvP at h
 split at h
 ·rename_i s' d'' x ho
  split at h
  ·rename_i b' hx
   cases h
   exact⟨x,ho,evX_spec ha hG hx⟩
  ·cases h
 ·cases h
theorem Val.toUnsafe {s d' t e:TypeId} {j:TypeInfo} {b:Nat} {cs:List Value} {rb:HA→List HA} (hv:evCvP env ec G o=some (s,d',b)) [hf:Focus Hs b cs e rb] (hs:C.S.P.underlying s=some (.pointer t)) (hd:C.S.P.underlying d'=some .unsafePointer)
  (ht:C.S.P.info? t=some j) (hj:j.size≠0) (hl:0<cs.length):Val C all o env ec Hs G (.pointer (some ⟨b,0,none⟩)):=by
 intro a w ha hw hH
 obtain⟨i,hi,_⟩:=hf.at_
 have hb:=(hw.heap hi).1
 have hsh:w.shape? b=some (e,cs.length):=by simp [World.shape?,hb]
 obtain⟨x,ho,hx⟩:=evCvP_spec ha hH hv
 have hr:=Lib.run_to_unsafe (P:=C.S.P) w ⟨b,0,none⟩ hs hd ht hj hsh hl
 unfold execOp
 rw [ho]
 simp only [hx]
 simp [hr]
theorem Val.fromUnsafe {s d' u e:TypeId} {j:TypeInfo} {b:Nat} {cs:List Value} {rb:HA→List HA} (hv:evCvP env ec G o=some (s,d',b)) [hf:Focus Hs b cs e rb] (hs:C.S.P.underlying s=some .unsafePointer) (hd:C.S.P.underlying d'=some (.pointer u))
  (hu:C.S.P.info? u=some j) (hlies:liesAt C.S.P C.S.P.depth e (cs.length / C.S.P.cellsOf e) 0 u 1=true):Val C all o env ec Hs G (.pointer (some ⟨b,0,none⟩)):=by
 intro a w ha hw hH
 obtain⟨i,hi,_⟩:=hf.at_
 have hb:=(hw.heap hi).1
 have hsh:w.shape? b=some (e,cs.length):=by simp [World.shape?,hb]
 obtain⟨x,ho,hx⟩:=evCvP_spec ha hH hv
 have hr:=Lib.run_from_unsafe (P:=C.S.P) w ⟨b,0,none⟩ hs hd hu hsh hlies
 unfold execOp
 rw [ho]
 simp only [hx]
 simp [hr]
def evPP (env:Env) (ec:EnvC) (G:GId) (o:Oper):Option (TypeId × Nat × Nat) :=
 match o.op with
 | .binOp .neq t x y _=>match evX env ec G x,evX env ec G y with
  | some (.pointer (some ⟨b,0,none⟩)),some (.pointer (some ⟨c,0,none⟩))=>some (t,b,c)
  | _,_=>none
 | _=>none
theorem Val.ptrSame {t te:TypeId} {j:TypeInfo} {b c:Nat} (hv:evPP env ec G o=some (t,b,c)) (hbc:b=c) (hp:C.S.P.underlying t=some (.pointer te)) (hte:C.S.P.info? te=some j):Val C all o env ec Hs G (.bool false):=by
 subst hbc
 intro a w ha hw hH
 obtain⟨dst,op,ty,pos,aft,gd⟩:=o
 unfold evPP at hv
 dsimp only at hv
 split at hv
 ·rename_i t' x y t2
  split at hv
  ·rename_i b' c' hx hy
   cases hv
   have hr:=Lib.run_neq_ptr_same (P:=C.S.P) w ⟨b,0,none⟩ hp hte
   simp only [execOp,evX_spec ha hH hx,evX_spec ha hH hy]
   simp [eqGuard,hr]
  ·cases hv
 ·cases hv
def evSD (env:Env) (ec:EnvC) (G:GId) (o:Oper):Option (Addr × Nat) :=
 match o.op with
 | .call { callee := .builtin .unsafeSliceData,args:=xs,argTypes:=_ }=>match evL env ec G xs.toList with
  | some [.slice (some a) _ c]=>some (a,c)
  | _=>none
 | _=>none
theorem Val.sliceData {A:Addr} {c:Nat} (hv:evSD env ec G o=some (A,c)) (hc:c≠0):Val C all o env ec Hs G (.pointer (some A)):=by
 intro a w ha hw hH
 obtain⟨dst,op,ty,pos,aft,gd⟩:=o
 unfold evSD at hv
 dsimp only at hv
 split at hv
 ·rename_i xs ts
  split at hv
  ·rename_i a' n' c' hxs
   cases hv
   have hargs:xs.map a.eval = #[.slice (some A) n' c]:=Array.ext' (by rw [Array.toList_map];exact evL_spec ha hH hxs)
   have hr:=Lib.run_unsafeSliceData_row (P:=C.S.P) w ts ty A n' c hc
   simp [execOp,resolve,invoke,builtin,hargs,hr]
  ·cases hv
 ·cases hv
def evUS (S:Sig) (env:Env) (ec:EnvC) (o:Oper):Option (Nat × Nat × TypeId) :=
 match o.op with
 | .call { callee := .builtin .unsafeString,args:=xs,argTypes:=ts }=>match evL env ec [] xs.toList,ts.toList with
  | some [.pointer (some ⟨g,0,none⟩), .int .i64 n],[pt,_]=>match S.ty pt with
   | some ⟨.ptr e,_,_,_⟩=>some (g,n.toNat,e)
   | _=>none
  | _,_=>none
 | _=>none
def u8s (l:List UInt8):List Value:=l.map fun c=>Value.int .u8 ((c.toNat:Nat):Int)
theorem u8s_len (l:List UInt8):(u8s l).length=l.length:=by simp [u8s]
theorem u8s_app (a b:List UInt8):u8s (a++b)=u8s a++u8s b:=by simp [u8s]
theorem OpT.unsafeStr {g n:Nat} {e:TypeId} {cap:Nat} {bs:List UInt8} {rb:HA→List HA} (hg:gOf all env ec o=some []) (he:evUS C.S env ec o=some (g,n,e)) (hd:o.dst=some d) (hN:Nat.blt d C.N.n=true) (hs:safeC all d ec=true)
  [hf:FocusR H (some ⟨g,0,none⟩) e 1 cap n (u8s bs) rb] (hc1:C.S.P.cellsOf e=1) (h0:bs≠[]) (h:Φ ((d, .string ⟨bs.toArray⟩)::env) ec (rb (fz fun _=>none))):OpT C all o env ec H Φ:=by
 obtain⟨i,hi,hrb⟩:=hf.at_
 refine OpT.eff hg fun a w ha hw=>?_
 obtain⟨F,f1,f2,f3⟩:=hw.sep
 have hil:i<H.length:=(List.getElem?_eq_some_iff.1 hi).1
 obtain⟨hln,hrow⟩:=f1 i _ hi
 have hn:bs.length=n:=by rw [u8s_len,Nat.mul_one] at hln;exact hln
 have hn0:bs.length≠0:=by simpa using h0
 rcases hrow with⟨e1,_⟩|⟨g',cur,e1,hF,g3,g4,g5,g6⟩
 ·cases e1
 cases e1
 have hob:=f2 i g (.cells cur e (0,0)) hil (by rw [hF];simp [one])
 have hsh:w.shape? g=some (e,cur.size):=by simp [World.shape?,hob.2]
 have hcell:∀ j x,bs[j]?=some x→w.cell? ((⟨g,0,none⟩:Addr).add j)=some (.int .u8 x.toNat):=by
  intro j x hx
  have hj:=(List.getElem?_eq_some_iff.1 hx).1
  have h9:(u8s bs)[j]?=some (.int .u8 ((x.toNat:Nat):Int)):=by unfold u8s;rw [List.getElem?_map,hx];rfl
  rw [← g6,List.getElem?_take_of_lt (by omega)] at h9
  have h8:w.cell? ⟨g,j,none⟩=cur[j]?:=cell_of_row w g j cur e (0,0) hob.2
  have h7:(⟨g,0,none⟩:Addr).add j=⟨g,j,none⟩:=by unfold Addr.add;split <;> simp_all
  rw [h7,h8]
  simpa using h9
 have hmax:maxLen=9223372036854775807:=rfl
 obtain⟨dst,op,ty,pos,aft,gd⟩:=o
 unfold evUS at he
 dsimp only at he
 split at he
 ·rename_i xs ts
  split at he
  ·rename_i g1 n1 pt it hxs hts
   split at he
   ·rename_i e' q1 q2 q3 hpt
    cases he
    have hp:=(Sig.tyOk hpt).fits
    simp only [Ty.fits] at hp
    have hn1:n1=(bs.length:Int):=by omega
    subst hn1
    have hargs:xs.map a.eval = #[.pointer (some ⟨g,0,none⟩), .int _ (bs.length:Int)]:=Array.ext' (by rw [Array.toList_map];exact evL_spec ha (Holds.nil _ _) hxs)
    have hts':ts = #[pt,it]:=Array.ext' hts
    have hr:=Lib.run_unsafeString_row (P:=C.S.P) w pt it ty e hp hc1 g cur.size hsh bs h0 (by omega) (by omega) hcell
    refine ⟨.string ⟨bs.toArray⟩,w.freeze ⟨g,0,none⟩ bs.length,_,?_,⟨Lib.below_freeze hw.below (p:=⟨g,0,none⟩) hob.1 _,?_⟩,d,hd,hN,hs,h⟩
    ·simp [execOp,resolve,invoke,builtin,hargs,hts',hr]
    ·rw [hrb]
     refine Sep.swap ⟨F,f1,f2,f3⟩ hi fun f hrow hf=>⟨fun _=>none,rfl,(fun b o h=>by cases h),fun c hc hfc=>?_⟩
     have hne:c≠g:=by
      rintro rfl
      obtain⟨_,hrow⟩:=hrow
      rcases hrow with⟨e1,_⟩|⟨g',cur',e1,hF',_⟩
      ·cases e1
      ·cases e1
       rw [hF'] at hfc
       simp [one] at hfc
     unfold World.freeze
     split
     ·rfl
     ·simp only [Array.getElem?_modify]
      rw [if_neg (Ne.symm hne)]
   ·cases he
  ·cases he
 ·cases he
end
end Go.Proofs.YtblnhdnogjijiaaGreatDoor
namespace Go.Proofs.YtblnhdnogjijiaaGreatDoor
open Go.RowKit Go.Shelf Go.Proofs

theorem row22_len (x:Co) (k:Nat):(row22 x k).length=x.cols.length:=by simp [row22]
end Go.Proofs.YtblnhdnogjijiaaGreatDoor
namespace Go.Proofs.YtblnhdnogjijiaaGreatDoor
open Go.RowKit Go.Shelf Go.Proofs
set_option maxRecDepth 100000
set_option maxHeartbeats 1000000

abbrev bld22 (pb:Nat) (q A:Option Addr) (c:Nat) (bs:List UInt8) (K:List HA):List HA:=blk pb [.pointer q, .slice A bs.length c] 91::row 5 1 A c bs.length (u8s bs)::K
theorem info_builder:∃ j,Tryz.prog.info? 89=some j∧j.size=2:=by
 obtain⟨x,hx,h1,_⟩:=(Sig.tyOk (S:=sg) (t:=89) rfl).info'
 exact⟨x,hx,h1⟩
theorem lies_builder:liesAt Tryz.prog Tryz.prog.depth 91 (2 / Tryz.prog.cellsOf 91) 0 89 1=true:=by kernel_rfl
theorem noEscape_run (x:Value) (w:World):(callFunc 223 #[x]).run Tryz.prog w = .ok (.value x) w:=by
 rw [run_callFunc_extern Tryz.func223 (by kernel_rfl) (by kernel_rfl) (by kernel_rfl) (e:=Extern.AbiNoEscape.same) (by kernel_rfl),Lib.run_noEscape]
 rfl
theorem copyCheck_spec (w0:World) (pb:Nat) (q:Option Addr) (hq:q=none∨q=some ⟨pb,0,none⟩) (A:Option Addr) (n c:Nat) (K:List HA) :
  SpecB Tryz.prog 183 [.pointer (some ⟨pb,0,none⟩)] w0 (blk pb [.pointer q, .slice A n c] 91::K) (fun u R=>u = .tuple #[]∧R=blk pb [.pointer (some ⟨pb,0,none⟩), .slice A n c] 91::K):=by
 obtain⟨j,hj,hj2⟩:=info_builder
 refine specB_of sg Tryz.func183 rfl rfl rfl ?_
 rcases hq with rfl|rfl
 ·repeat' (first|refine d1 ?_|(show T _ (.ops _ (_::_)::_) _ _ _;first|refine T_val rfl (Val.nilc rfl) rfl rfl rfl ?_|refine T_val rfl (Val.nilS rfl) rfl rfl rfl ?_)|fail)
  refine T_if rfl (fun h=>?_) (fun h=>by cases h)
  repeat' (first|refine d1 ?_|(show T _ (.ops _ (_::_)::_) _ _ _;first|refine T_val rfl (Val.nilc rfl) rfl rfl rfl ?_|refine T_val rfl (Val.toUnsafe rfl Tryz.underlying86 Tryz.underlying229 hj (by omega) (by simp)) rfl rfl rfl ?_|refine T_val rfl (Val.fromUnsafe rfl Tryz.underlying229 Tryz.underlying86 hj (by exact lies_builder)) rfl rfl rfl ?_|refine T_op (OpT.callX (v := .pointer (some ⟨pb,0,none⟩)) rfl rfl rfl rfl rfl (fun w hw=>noEscape_run _ w) ?_))|fail)
  exact T_fallV _ rfl (Hle.refl _) ⟨rfl,rfl⟩
 ·repeat' (first|refine d1 ?_|(show T _ (.ops _ (_::_)::_) _ _ _;first|refine T_val rfl (Val.nilc rfl) rfl rfl rfl ?_|refine T_val rfl (Val.nilS rfl) rfl rfl rfl ?_)|fail)
  refine T_if rfl (fun h=>by cases h) (fun h=>?_)
  repeat' (first|refine d1 ?_|(show T _ (.ops _ (_::_)::_) _ _ _;first|refine T_val rfl (Val.nilc rfl) rfl rfl rfl ?_|refine T_val rfl (Val.ptrSame rfl rfl Tryz.underlying86 hj) rfl rfl rfl ?_)|fail)
  refine T_if rfl (fun h=>by cases h) (fun h=>?_)
  skip
  exact T_fallV _ rfl (Hle.refl _) ⟨rfl,rfl⟩
theorem writeString_spec (w0:World) (pb:Nat) (q:Option Addr) (hq:q=none∨q=some ⟨pb,0,none⟩) (A:Option Addr) (c:Nat) (bs:List UInt8) (s:ByteArray) (hb:bs.length+s.size≤1000000) (K:List HA) :
  SpecB Tryz.prog 126 [.pointer (some ⟨pb,0,none⟩), .string s] w0 (bld22 pb q A c bs K) (fun u R=>∃ x:Option Addr × Nat,u = .tuple #[.int .i64 (s.size:Nat), .nilIface]∧R=bld22 pb (some ⟨pb,0,none⟩) x.1 x.2 (bs++s.data.toList) K):=by
 refine specB_of sg Tryz.func126 rfl rfl rfl ?_
 repeat' (first|refine d1 ?_|(show T _ (.ops _ (_::_)::_) _ _ _;refine T_op (OpT.callB rfl rfl rfl rfl rfl (copyCheck_spec _ pb q hq A bs.length c _) (fun u R hR=>?_)))|fail)
 obtain⟨rfl,rfl⟩:=hR
 have e:(bs++s.data.toList).length=bs.length+s.size:=by rw [List.length_append];simp
 repeat' (first|refine d1 ?_|(show T _ (.ops _ (_::_)::_) _ _ _;first|refine T_val rfl (Val.nilc rfl) rfl rfl rfl ?_|refine T_op (OpT.appendS rfl rfl rfl rfl rfl rfl rfl rfl rfl rfl (by omega) (fun A' cap' hA'=>?_)))|fail)
 exact T_retV (bld22 pb (some ⟨pb,0,none⟩) A' cap' (bs++s.data.toList) K) rfl (by unfold bld22;rw [e,u8s_app];exact Hle.refl _) ⟨(A',cap'),rfl,rfl⟩
theorem writeByte_spec (w0:World) (pb:Nat) (q:Option Addr) (hq:q=none∨q=some ⟨pb,0,none⟩) (A:Option Addr) (c:Nat) (bs:List UInt8) (b:UInt8) (hb:bs.length+1≤1000000) (K:List HA) :
  SpecB Tryz.prog 127 [.pointer (some ⟨pb,0,none⟩), .int .u8 ((b.toNat:Nat):Int)] w0 (bld22 pb q A c bs K) (fun u R=>∃ x:Option Addr × Nat,u = .nilIface∧R=bld22 pb (some ⟨pb,0,none⟩) x.1 x.2 (bs++[b]) K):=by
 refine specB_of sg Tryz.func127 rfl rfl rfl ?_
 repeat' (first|refine d1 ?_|(show T _ (.ops _ (_::_)::_) _ _ _;refine T_op (OpT.callB rfl rfl rfl rfl rfl (copyCheck_spec _ pb q hq A bs.length c _) (fun u R hR=>?_)))|fail)
 obtain⟨rfl,rfl⟩:=hR
 have e:(bs++[b]).length=bs.length+1:=by rw [List.length_append];rfl
 repeat' (first|refine d1 ?_|(show T _ (.ops _ (_::_)::_) _ _ _;first|refine T_val rfl (Val.nilc rfl) rfl rfl rfl ?_|refine T_op (OpT.append (A:=A) rfl rfl rfl rfl rfl rfl rfl rfl rfl rfl (fun w hw=>Src.own hw rfl) rfl (by dsimp only;omega) (by omega) (fun A' cap' hA'=>?_)))|(show ∀ _:Nat,T _ _ _ _ _;intro _))
 exact T_retV (bld22 pb (some ⟨pb,0,none⟩) A' cap' (bs++[b]) K) rfl (by unfold bld22;rw [e,u8s_app];exact Hle.tail _ _) ⟨(A',cap'),rfl,rfl⟩
theorem line22_spec (w0:World) (pb:Nat) (q:Option Addr) (hq:q=none∨q=some ⟨pb,0,none⟩) (A:Option Addr) (c:Nat) (bs:List UInt8) (s:ByteArray) (y:Value) (l:List ByteArray) (p:Frag) (K:List HA) [FocusZ K p] (hy:Rd (fr p) [y] [strsD l]) (hs:s.size≤100) (hl:l.length≤100) (ht:∀ t∈l,t.size≤100) (hb:bs.length≤900000) :
  SpecB Tryz.prog 67 [.pointer (some ⟨pb,0,none⟩), .string s,y] w0 (bld22 pb q A c bs K) (fun u R=>∃ x:Option Addr × Nat,u = .tuple #[]∧R=bld22 pb (some ⟨pb,0,none⟩) x.1 x.2 (bs++line22 s l) K):=by
 obtain⟨Ay,cy,rfl,hyc,hym,hyr⟩:∃ Ay cy,y = .slice Ay l.length cy∧l.length≤cy∧cy≤9223372036854775807∧(0<l.length→∃ b o,Ay=some ⟨b,o,none⟩∧∀ (k:Nat) t,l[k]?=some t→fr p b (o+k)=some (.string t)):=by
  obtain⟨A,n,cap,rfl,h1,h2,h3,h4⟩:=hy.vals_one
  have e:n=l.length:=by simpa using h1.symm
  subst e
  exact⟨A,cap,rfl,h2,h3,fun h0=>⟨bk A,ofs A,(h4 h0).1,fun k t ht=>(h4 h0).2 k _ (by rw [List.getElem?_map,ht];rfl)⟩⟩
 refine specB_of sg Tryz.func67 rfl rfl rfl ?_
 repeat' (first|refine d1 ?_|(show T _ (.ops _ (_::_)::_) _ _ _;first|refine T_val rfl (Val.nilc rfl) rfl rfl rfl ?_|refine T_op (OpT.callB rfl rfl rfl rfl rfl (writeString_spec _ pb q hq A c bs s (by omega) _) (fun u R hR=>?_)))|fail)
 obtain⟨⟨A0,c0⟩,rfl,rfl⟩:=hR
 have hsl:s.data.toList.length=s.size:=by simp
 have hcl:∀ k,k≤l.length→(cells22 (l.take k)).length≤101 * k:=by
  intro k
  induction k with
  | zero=>intro _;exact Nat.le_refl _
  | succ k ih =>
   intro hk
   obtain⟨t,hg⟩:∃ t,l[k]?=some t:=⟨_,List.getElem?_eq_getElem (by omega)⟩
   have h1:=ih (by omega)
   have h2:=ht t (List.mem_of_getElem? hg)
   have h3:t.data.toList.length=t.size:=by simp
   rw [take_snoc _ _ _ hg]
   unfold cells22 at h1 ⊢
   rw [List.flatMap_append,List.length_append]
   simp only [List.flatMap_cons,List.flatMap_nil,List.append_nil,List.length_cons]
   omega
 skip
 refine T_loopX (fun z:Nat × Option Addr × Nat=>[(15, .int .i64 (z.1:Nat))]) (fun z=>bld22 pb (some ⟨pb,0,none⟩) z.2.1 z.2.2 (bs++s.data.toList++cells22 (l.take z.1)) K) (fun z=>z.1≤l.length) (fun z=>l.length - z.1) (0,A0,c0) (Nat.zero_le _) ?_ (hG:=by show Hle (bld22 pb _ A0 c0 (bs++s.data.toList) K) (bld22 pb _ A0 c0 (bs++s.data.toList++[]) K);rw [List.append_nil];exact Hle.refl _)
 rintro⟨k,A1,c1⟩ hk
 dsimp only at hk ⊢
 have h101:=hcl k hk
 have hlen:(bs++s.data.toList++cells22 (l.take k)).length=bs.length+s.size+(cells22 (l.take k)).length:=by rw [List.length_append,List.length_append,hsl]
 repeat' (first|refine d1 ?_|fail)
 refine T_if rfl (fun h=>?_) (fun h=>?_)
 ·simp only [decide_eq_true_eq] at h
  have hkn:k<l.length:=by omega
  obtain⟨b,o,rfl,hyk⟩:=hyr (by omega)
  obtain⟨t,hg⟩:∃ t,l[k]?=some t:=⟨_,List.getElem?_eq_getElem hkn⟩
  have hts:=ht t (List.mem_of_getElem? hg)
  have hr:fr p b (o+(k:Int).toNat * 1)=some (.string t):=by rw [off1];exact hyk k t hg
  have hz1:(ByteArray.mk #[124]).size=1:=rfl
  have hz:((ByteArray.mk #[124])++t).size=1+t.size:=by rw [ByteArray.size_append];rfl
  repeat' (first|refine d1 ?_|(show T _ (.ops _ (_::_)::_) _ _ _;first|refine T_val rfl (Val.load rfl (fun hg=>rdFz (p:=p) hr)) rfl rfl rfl ?_|refine T_val rfl (Val.nilc rfl) rfl rfl rfl ?_|refine T_op (OpT.callB rfl rfl rfl rfl rfl (writeString_spec _ pb _ (.inr rfl) A1 c1 _ ((ByteArray.mk #[124])++t) (by rw [hlen,hz];omega) _) (fun u R hR=>?_)))|fail)
  obtain⟨⟨A2,c2⟩,rfl,rfl⟩:=hR
  skip
  refine T_backX (k+1,A2,c2) (by dsimp only;omega) (by dsimp only;omega) (hG:=?_)
  have e:bs++s.data.toList++cells22 (l.take k)++((ByteArray.mk #[124])++t).data.toList=bs++s.data.toList++cells22 (l.take (k+1)):=by
   have hd:((ByteArray.mk #[124])++t).data.toList=124::t.data.toList:=by rw [ByteArray.data_append,Array.toList_append];rfl
   rw [take_snoc _ _ _ hg,hd]
   unfold cells22
   rw [List.flatMap_append,List.append_assoc,List.append_assoc,List.append_assoc,List.flatMap_cons,List.flatMap_nil,List.append_nil]
  rw [e]
  exact Hle.refl _
 ·simp only [decide_eq_false_iff_not] at h
  obtain rfl:k=l.length:=by omega
  rw [List.take_length] at hlen h101 ⊢
  repeat' (first|refine d1 ?_|(show T _ (.ops _ (_::_)::_) _ _ _;first|refine T_val rfl (Val.nilc rfl) rfl rfl rfl ?_|refine T_op (OpT.callB rfl rfl rfl rfl rfl (writeByte_spec _ pb _ (.inr rfl) A1 c1 _ 10 (by rw [hlen];omega) _) (fun u R hR=>?_)))|fail)
  obtain⟨⟨A2,c2⟩,rfl,rfl⟩:=hR
  skip
  refine T_fallV _ rfl (Hle.refl _) ⟨(A2,c2),rfl,?_⟩
  unfold line22
  rw [List.append_assoc,List.append_assoc,List.append_assoc]
theorem len22_spec (pb:Nat) (q A:Option Addr) (n c:Nat) (w:World) (h:RdC w pb 0 [.pointer q, .slice A n c]):Spec Tryz.prog 68 [.pointer (some ⟨pb,0,none⟩)] w (fun v R=>v = .int .i64 (n:Nat)∧R=[]):=by
 have h1:RdC w pb (0+1) [.slice A n c]:=RdC.at h rfl
 refine spec_of sg Tryz.func68 rfl rfl rfl ?_
 repeat' (first|refine d1 ?_|(show T _ (.ops _ (_::_)::_) _ _ _;refine T_val rfl (Val.nilc rfl) rfl rfl rfl ?_)|(show T _ (.code .ret::_) _ _ _;refine T_retV [] rfl (Hle.none _) ⟨rfl,rfl⟩))
end Go.Proofs.YtblnhdnogjijiaaGreatDoor
namespace Go.Proofs.YtblnhdnogjijiaaGreatDoor
open Go.RowKit Go.Shelf Go.Proofs
set_option maxRecDepth 100000
set_option maxHeartbeats 1000000

theorem rows_out {n k:Nat} (pre:List HA) (f:Nat→HA) (hk:k<n):Hle (pre++(List.range n).map f) (f k::(pre++((List.range n).erase k).map f)):=by
 refine Hle.perm ?_
 have h1:(List.range n).Perm (k::(List.range n).erase k):=List.perm_cons_erase (List.mem_range.2 hk)
 have h2:=(h1.map f).append_left pre
 exact h2.trans (List.perm_middle (a:=f k))
theorem rows_in {n k:Nat} (pre:List HA) (f g:Nat→HA) (hk:k<n) (hg:∀ j,j≠k→f j=g j):Hle (g k::(pre++((List.range n).erase k).map f)) (pre++(List.range n).map g):=by
 refine Hle.perm ?_
 have h1:(List.range n).Perm (k::(List.range n).erase k):=List.perm_cons_erase (List.mem_range.2 hk)
 have e:((List.range n).erase k).map f=((List.range n).erase k).map g:=List.map_congr_left fun j hj=>hg j fun e=>by
  subst e
  exact absurd hj (List.Nodup.not_mem_erase List.nodup_range)
 rw [e]
 have h2:=(h1.map g).append_left pre
 exact (h2.trans (List.perm_middle (a:=g k))).symm
theorem rows_nil {e sz:Nat} (H:List HA):∀ n:Nat,Hle H ((List.range n).map (fun _=>row e sz none 0 0 [])++H)
 | 0=>Hle.refl _
 | n+1=>by
  have e1:(List.range (n+1)).map (fun _=>row e sz none 0 0 [])=row e sz none 0 0 []::(List.range n).map (fun _=>row e sz none 0 0 []):=by
   rw [List.range_succ_eq_map,List.map_cons,List.map_map];rfl
  rw [e1]
  exact (rows_nil H n).trans (hle_unit (B:=row e sz none 0 0 []) ⟨by simp, .inl ⟨rfl,rfl,rfl,rfl⟩⟩)
theorem rows_acc {e:TypeId} (ρ:Nat→Option Addr × Nat) (m:Nat) (cs:Nat→List Value) (H:List HA):∀ (L:List Nat) (vs:List Value) (ds:List D),
  Hle (dat vs ds::(L.map (fun j=>row e 1 (ρ j).1 (ρ j).2 m (cs j))++H)) (dat (vs++L.map fun j => .slice (ρ j).1 m (ρ j).2) (ds++L.map fun j => .s 1 ((cs j).map .v))::H)
 | [],vs,ds=>by simp only [List.map_nil,List.append_nil,List.nil_append];exact Hle.refl _
 | j::L,vs,ds=>by
  have h1:Hle (dat vs ds::row e 1 (ρ j).1 (ρ j).2 m (cs j)::(L.map (fun j=>row e 1 (ρ j).1 (ρ j).2 m (cs j))++H)) (dat (vs++[.slice (ρ j).1 m (ρ j).2]) (ds++[.s 1 ((cs j).map .v)])::(L.map (fun j=>row e 1 (ρ j).1 (ρ j).2 m (cs j))++H)) :=
   (Hle.perm (List.Perm.swap _ _ _)).trans (dat_rowV.trans dat_join)
  have h2:=rows_acc (e:=e) ρ m cs H L (vs++[.slice (ρ j).1 m (ρ j).2]) (ds++[.s 1 ((cs j).map .v)])
  rw [List.append_assoc,List.append_assoc] at h2
  exact h1.trans h2
def cn22 (i k j:Nat):Nat:=if j<k then i+1 else i
def hd22 (ρ:Nat→Option Addr × Nat) (cnt:Nat→Nat) (n:Nat):List Value:=(List.range n).map fun j => .slice (ρ j).1 (cnt j) (ρ j).2
def rw22 (x:Co) (ρ:Nat→Option Addr × Nat) (cnt:Nat→Nat) (j:Nat):HA:=row 9 1 (ρ j).1 (ρ j).2 (cnt j) (((row22 x j).take (cnt j)).map Value.string)
theorem hd22_len (ρ:Nat→Option Addr × Nat) (cnt:Nat→Nat) (n:Nat):(hd22 ρ cnt n).length=n:=by simp [hd22]
theorem hd22_get {ρ:Nat→Option Addr × Nat} {cnt:Nat→Nat} {n k:Nat} (h:k<n):(hd22 ρ cnt n)[k]?=some (.slice (ρ k).1 (cnt k) (ρ k).2):=by simp [hd22,h]
def up22 (ρ:Nat→Option Addr × Nat) (k:Nat) (a:Option Addr × Nat) (j:Nat):Option Addr × Nat:=if j=k then a else ρ j
theorem hd22_set {ρ:Nat→Option Addr × Nat} {i n k:Nat} (a:Option Addr × Nat) (h:k<n):(hd22 ρ (cn22 i k) n).set k (.slice a.1 (i+1) a.2)=hd22 (up22 ρ k a) (cn22 i (k+1)) n:=by
 refine List.ext_getElem? fun j=>?_
 rw [List.getElem?_set,hd22_len]
 by_cases hj:j<n
 ·rw [hd22_get hj,hd22_get hj]
  by_cases e:k=j
  ·subst e
   rw [if_pos rfl,if_pos h]
   unfold up22 cn22
   rw [if_pos rfl,if_pos (by omega)]
  ·rw [if_neg e]
   unfold up22 cn22
   rw [if_neg (Ne.symm e)]
   by_cases h2:j<k
   ·rw [if_pos h2,if_pos (by omega)]
   ·rw [if_neg h2,if_neg (by omega)]
 ·rw [if_neg (by omega),List.getElem?_eq_none (by rw [hd22_len];omega),List.getElem?_eq_none (by rw [hd22_len];omega)]
theorem cn22_full {i n j:Nat} (h:j<n):cn22 i n j=cn22 (i+1) 0 j:=by unfold cn22;rw [if_pos h,if_neg (by omega)]
theorem hd22_full (ρ:Nat→Option Addr × Nat) (i n:Nat):hd22 ρ (cn22 i n) n=hd22 ρ (cn22 (i+1) 0) n:=List.map_congr_left fun j hj=>by rw [cn22_full (List.mem_range.1 hj)]
theorem rw22_full (x:Co) (ρ:Nat→Option Addr × Nat) (i n:Nat):(List.range n).map (rw22 x ρ (cn22 i n))=(List.range n).map (rw22 x ρ (cn22 (i+1) 0)):=List.map_congr_left fun j hj=>by unfold rw22;rw [cn22_full (List.mem_range.1 hj)]
theorem T_rowcap {C:Cx} {k:List It} {env:Env} {ec:EnvC} {H:List HA} {A:Option Addr} {e sz cap n:Nat} {xs:List Value} {rb:HA→List HA} [hf:FocusR H A e sz cap n xs rb] (h:n≤cap→T C k env ec H):T C k env ec H:=by
 refine T.mk fun a w ha hw=>?_
 obtain⟨i,hi,_⟩:=hf.at_
 obtain⟨F,h1,h2,h3⟩:=hw.sep
 obtain⟨_,hr⟩:=h1 i _ hi
 refine h ?_ a w ha hw
 rcases hr with⟨_,rfl,rfl,_⟩|⟨g,cur,_,_,h5,_⟩
 ·exact Nat.le_refl _
 ·exact h5
theorem string22_spec (w0:World) (pb:Nat) (q A:Option Addr) (c:Nat) (bs:List UInt8) (h0:bs≠[]) (K:List HA) :
  SpecB Tryz.prog 69 [.pointer (some ⟨pb,0,none⟩)] w0 (bld22 pb q A c bs K) (fun u R=>u = .string ⟨bs.toArray⟩∧R=[]):=by
 refine specB_of sg Tryz.func69 rfl rfl rfl ?_
 have hl:0<bs.length:=List.length_pos_iff.2 h0
 refine T_rowcap (e:=5) (sz:=1) (A:=A) (cap:=c) (n:=bs.length) (xs:=u8s bs) fun hc=>?_
 refine T_rowpos (e:=5) (sz:=1) (A:=A) (cap:=c) (n:=bs.length) (xs:=u8s bs) hl fun g hA=>?_
 subst hA
 repeat' (first|refine d1 ?_|fail)
 refine rsH [blk pb [.pointer q, .slice (some ⟨g,0,none⟩) bs.length c] 91] 1000 [0,1,2,3,5,6,7,8,9,4,10,11] ?_
 repeat' (first|refine dd ?_|(show T _ (.run _ _ (_::_) _ _::_) _ _ _;first|refine rv rfl rfl rfl (Val.nilc rfl) rfl rfl rfl ?_|refine ro rfl rfl (OpT.ofVal rfl (Val.sliceData rfl (by omega)) rfl rfl rfl ⟨fun _=>Hle.sub,?_⟩)|refine ro rfl rfl (OpT.unsafeStr rfl rfl rfl rfl rfl (by kernel_rfl) h0 ⟨fun _=>Hle.sub,?_⟩))|(show T _ (.code .ret::_) _ _ _;refine T_retV _ rfl (Hle.none _) ⟨rfl,rfl⟩))
theorem cells22_le {l:List ByteArray} {b:Nat} (h:∀ t∈l,t.size≤b):(cells22 l).length≤(b+1) * l.length:=by
 induction l with
 | nil=>exact Nat.le_refl _
 | cons t l ih =>
  have h1:=h t (.head _)
  have h2:=ih fun y hy=>h y (.tail _ hy)
  have h3:t.data.toList.length=t.size:=by simp
  unfold cells22 at h2 ⊢
  rw [List.flatMap_cons,List.length_append,List.length_cons,List.length_cons,Nat.mul_succ]
  omega
def part22N (x:Co) (k:Nat):List UInt8:=(List.range k).flatMap fun k=>line22 (x.sg.getD k ByteArray.empty) (row22 x k)
theorem part22N_succ (x:Co) (k:Nat):part22N x (k+1)=part22N x k++line22 (x.sg.getD k ByteArray.empty) (row22 x k):=by unfold part22N;rw [List.range_succ,List.flatMap_append];simp
theorem part22N_all (x:Co):part22N x x.sg.length=print22 x:=rfl
theorem cell22_le {x:Co} (hs:Small22 x) (k i:Nat):(cell22 x k i).size≤12:=by
 unfold cell22 txt22
 split
 ·exact Nat.zero_le _
 ·split
  ·rename_i t ht
   have hm:=List.mem_of_getElem? ht
   rw [List.getD_eq_getElem?_getD] at hm
   cases hq:x.m[k]? with
   | none=>rw [hq] at hm;cases hm
   | some l=>rw [hq] at hm;exact hs.txt l (List.mem_of_getElem? hq) t hm
  ·exact Nat.zero_le _
theorem line22_le {x:Co} (hs:Small22 x) {k:Nat} (hk:k<x.sg.length):(line22 (x.sg.getD k ByteArray.empty) (row22 x k)).length≤333:=by
 have h1:=hs.sig _ (getD_mem22 ByteArray.empty hk)
 have h2:=cells22_le (l:=row22 x k) (b:=12) fun t ht=>by
  obtain⟨i,-,rfl⟩:=List.mem_map.1 ht
  exact cell22_le hs k i
 have h3:=hs.cols
 rw [row22_len] at h2
 have h4:(x.sg.getD k ByteArray.empty).data.toList.length=(x.sg.getD k ByteArray.empty).size:=by simp
 unfold line22
 rw [List.length_append,List.length_append,h4,List.length_singleton]
 omega
theorem part22N_le {x:Co} (hs:Small22 x):∀ k,k≤x.sg.length→(part22N x k).length≤333 * k
 | 0,_=>Nat.le_refl _
 | k+1,hk=>by
  have h1:=part22N_le hs k (by omega)
  have h2:=line22_le hs (k:=k) (by omega)
  rw [part22N_succ,List.length_append]
  omega
theorem printV22_ok {x:Co} (hs:Small22 x) (h:Ok22 x):printV22 x=(⟨(print22 x).toArray⟩,0):=by
 have h1:=part22N_le hs x.sg.length (Nat.le_refl _)
 have h2:=hs.sg
 rw [part22N_all] at h1
 unfold printV22
 rw [if_neg (by rw [chk22_iff.2 h];simp),if_neg (by omega)]
theorem row22_get {x:Co} {k i:Nat} (h:i<x.cols.length):(row22 x k)[i]?=some (cell22 x k i):=by unfold row22;rw [List.getElem?_map,List.getElem?_range h];rfl
theorem printP22_spec (x:Co) (A1:Option Addr) (c1:Nat) (l:List TS) (A2:Option Addr) (c2:Nat) (y3:Value) (w:World) (hx:CoAt w x A1 c1 l A2 c2 y3) (hs:Small22 x) :
  Spec Tryz.prog 25 [.agg (coL x.sec (.slice A1 x.sg.length c1) (.slice A2 l.length c2) y3).toArray] w (fun v R=>v = .tuple #[.string (printV22 x).1, .int .i64 (printV22 x).2]∧R=[]):=by
 obtain⟨Ak,ck,csk,rfl,hck1,hck2,hcs,hrows⟩:=hx.cols.tabS
 obtain⟨n,hn⟩:∃ n,x.sg.length=n:=⟨_,rfl⟩
 have hchk:∀ w',CoAt w' x A1 c1 l A2 c2 (.slice Ak x.cols.length ck)→Spec Tryz.prog 27 [.agg (coL x.sec (.slice A1 n c1) (.slice A2 l.length c2) (.slice Ak x.cols.length ck)).toArray] w' (fun v R=>v = .int .i64 (chk22 x)∧R=[]):=fun w' h'=>by
  have:=checkP22_spec x A1 c1 l A2 c2 _ w' h'
  rw [hn] at this
  exact this
 have hcolS:∀ (i:Nat) w',CoAt w' x A1 c1 l A2 c2 (.slice Ak x.cols.length ck)→Ok22 x→i<x.cols.length→Spec Tryz.prog 64 [.agg (coL x.sec (.slice A1 n c1) (.slice A2 l.length c2) (.slice Ak x.cols.length ck)).toArray, .int .i64 (i:Nat)] w' (fun v R=>∃ b:Nat,True∧v = .slice (some ⟨b,0,none⟩) n n∧R=[blk b ((col22 x i).map Value.string) 9]):=fun i w' h' h2 h3=>by
  have:=column22_spec x A1 c1 l A2 c2 _ i w' h' h2 h3
  rw [hn] at this
  exact this
 rw [hn]
 refine spec_of sg Tryz.func25 rfl rfl rfl ?_
 refine T_op (OpT.box (cs:=coL x.sec (.slice A1 n c1) (.slice A2 l.length c2) (.slice Ak x.cols.length ck)) rfl rfl rfl rfl rfl rfl rfl (fun pc=>?_))
 repeat' (first|refine d1 ?_|(show T _ (.ops _ (_::_)::_) _ _ _;refine T_call rfl rfl rfl rfl rfl (fun w hw=>hchk w (hx.cls hw)) ?_)|fail)
 refine T_if rfl (fun h=>?_) (fun h=>?_)
 ·simp only [Bool.not_eq_true',decide_eq_false_iff_not] at h
  have e:printV22 x=(ByteArray.empty,1):=if_pos h
  rw [e]
  repeat' (first|refine d1 ?_|(show T _ (.code .ret::_) _ _ _;refine T_retV [] rfl (Hle.none _) ⟨rfl,rfl⟩))
 simp only [Bool.not_eq_false',decide_eq_true_eq] at h
 have hok:=chk22_iff.1 h
 obtain⟨h1,h2,h3⟩:=hx.row hok
 have hs1:=hx.hd.s1
 have hcols:=hs.cols
 rw [hn] at h1 h2 h3 hs1
 rw [printV22_ok hs hok]
 obtain⟨bs1,os1,rfl⟩:=hs1.base (by omega)
 repeat' (first|refine d1 ?_|(show T _ (.ops _ (_::_)::_) _ _ _;refine T_op (OpT.make rfl rfl rfl rfl rfl rfl rfl rfl rfl (by dsimp only;omega) (fun b1=>?_)))|fail)
 have hz:List.replicate n (Value.slice none 0 0)=hd22 (fun _=>(none,0)) (cn22 0 0) n:=by
  refine List.ext_getElem? fun j=>?_
  rw [List.getElem?_replicate]
  by_cases hj:j<n
  ·rw [if_pos hj,hd22_get hj];rfl
  ·rw [if_neg hj,List.getElem?_eq_none (by rw [hd22_len];omega)]
 refine T_loopX (fun s:Nat × (Nat→Option Addr × Nat)=>[(21, .int .i64 (s.1:Nat))]) (fun s=>blk b1 (hd22 s.2 (cn22 s.1 0) n) 24::blk pc (coL x.sec (.slice (some ⟨bs1,os1,none⟩) n c1) (.slice A2 l.length c2) (.slice Ak x.cols.length ck)) 32::(List.range n).map (rw22 x s.2 (cn22 s.1 0))) (fun s=>s.1≤x.cols.length) (fun s=>x.cols.length - s.1) (0,fun _=>(none,0)) (Nat.zero_le _) ?_ (hG:=?_)
 rotate_left
 ·dsimp only
  refine Hle.trans (rows_nil (e:=9) (sz:=1) _ n) ?_
  rw [← hz]
  exact Hle.perm List.perm_append_comm
 rintro⟨i,ρ⟩ hi
 dsimp only at hi ⊢
 repeat' (first|refine d1 ?_|fail)
 refine T_if rfl (fun h5=>?_) (fun h5=>?_)
 ·simp only [decide_eq_true_eq] at h5
  have hin:i<x.cols.length:=by omega
  repeat' (first|refine d1 ?_|(show T _ (.ops _ (_::_)::_) _ _ _;refine T_callE rfl rfl rfl rfl rfl (fun w hw=>hcolS i w (hx.cls hw) hok hin) (fun b2 _=>?_))|fail)
  refine T_loopX (fun s:Nat × (Nat→Option Addr × Nat)=>[(28, .int .i64 (s.1:Nat))]) (fun s=>blk b1 (hd22 s.2 (cn22 i s.1) n) 24::blk b2 ((col22 x i).map Value.string) 9::blk pc (coL x.sec (.slice (some ⟨bs1,os1,none⟩) n c1) (.slice A2 l.length c2) (.slice Ak x.cols.length ck)) 32::(List.range n).map (rw22 x s.2 (cn22 i s.1))) (fun s=>s.1≤n) (fun s=>n - s.1) (0,ρ) (Nat.zero_le _) ?_ (hG:=Hle.perm (List.Perm.swap _ _ _))
  rintro⟨k,ρ⟩ hk
  dsimp only at hk ⊢
  repeat' (first|refine d1 ?_|fail)
  refine T_if rfl (fun h6=>?_) (fun h6=>?_)
  ·simp only [decide_eq_true_eq] at h6
   have hkn:k<n:=by omega
   refine T_le (H':=rw22 x ρ (cn22 i k) k::blk b1 (hd22 ρ (cn22 i k) n) 24::blk b2 ((col22 x i).map Value.string) 9::blk pc (coL x.sec (.slice (some ⟨bs1,os1,none⟩) n c1) (.slice A2 l.length c2) (.slice Ak x.cols.length ck)) 32::((List.range n).erase k).map (rw22 x ρ (cn22 i k))) (rows_out [_,_,_] _ hkn) ?_
   have hci:cn22 i k k=i:=by unfold cn22;rw [if_neg (by omega)]
   have hrk:rw22 x ρ (cn22 i k) k=row 9 1 (ρ k).1 (ρ k).2 i (((row22 x k).take i).map Value.string):=by unfold rw22;rw [hci]
   have hcg:((col22 x i).map Value.string)[k]?=some (.string (cell22 x k i)):=by rw [List.getElem?_map,col22_get (by omega)];rfl
   have hhg:(hd22 ρ (cn22 i k) n)[k]?=some (.slice (ρ k).1 i (ρ k).2):=by rw [hd22_get hkn,hci]
   rw [hrk]
   repeat' (first|refine d1 ?_|(show T _ (.ops _ (_::_)::_) _ _ _;first|refine T_val rfl (Val.load rfl (fun hg=>rdOwn1 (b:=b2) (u := .string (cell22 x k i)) (by rw [show 0+(k:Int).toNat * 1=k by omega];exact hcg))) rfl rfl rfl ?_|refine T_val rfl (Val.load rfl (fun hg=>rdOwn1 (b:=b1) (u := .slice (ρ k).1 i (ρ k).2) (by rw [show 0+(k:Int).toNat * 1=k by omega];exact hhg))) rfl rfl rfl ?_|refine T_op (OpT.append (A:=(ρ k).1) rfl rfl rfl rfl rfl rfl rfl rfl rfl rfl (fun w hw=>Src.own hw rfl) rfl (by dsimp only;omega) (by omega) (fun A5 c5 hA5=>?_))|refine T_op (OpT.store rfl rfl rfl rfl (by rw [hd22_len];omega) ?_))|(show ∀ _:Nat,T _ _ _ _ _;intro _))
   refine T_backX (k+1,up22 ρ k (A5,c5)) (by dsimp only;omega) (by dsimp only;omega) (hG:=?_)
   dsimp only
   rw [show 0+(k:Int).toNat * 1=k by omega,hd22_set (A5,c5) hkn]
   have htk:=take_snoc _ _ _ (row22_get (k:=k) hin)
   have e1:row 9 1 A5 c5 (i+1) (((row22 x k).take i).map Value.string++flatP [(0, .string (cell22 x k i))])=rw22 x (up22 ρ k (A5,c5)) (cn22 i (k+1)) k:=by
    unfold rw22 up22 cn22
    rw [if_pos rfl,if_pos (by omega),htk,List.map_append]
    rfl
   rw [e1]
   refine (Hle.tail _ _).trans ?_
   exact rows_in [_,_,_] _ _ hkn fun j hj=>by
    unfold rw22 up22 cn22
    rw [if_neg hj]
    by_cases h9:j<k
    ·rw [if_pos h9,if_pos (by omega)]
    ·rw [if_neg h9,if_neg (by omega)]
  ·simp only [decide_eq_false_iff_not] at h6
   obtain rfl:k=n:=by omega
   repeat' (first|refine d1 ?_|fail)
   refine T_backX (i+1,ρ) (by dsimp only;omega) (by dsimp only;omega) (hG:=?_)
   dsimp only
   rw [← hd22_full, ← rw22_full]
   exact Hle.perm (List.Perm.cons _ (List.Perm.refl _)) |>.trans (Hle.drop2 _ _ _)
 simp only [decide_eq_false_iff_not] at h5
 obtain rfl:i=x.cols.length:=by omega
 have hcn:∀ j,cn22 x.cols.length 0 j=x.cols.length:=fun j=>by unfold cn22;rw [if_neg (by omega)]
 refine T_le (H':=dat (hd22 ρ (cn22 x.cols.length 0) n) ((List.range n).map fun j=>strsD (row22 x j))::blk b1 (hd22 ρ (cn22 x.cols.length 0) n) 24::blk pc (coL x.sec (.slice (some ⟨bs1,os1,none⟩) n c1) (.slice A2 l.length c2) (.slice Ak x.cols.length ck)) 32::[]) ?_ ?_
 ·have e1:(List.range n).map (rw22 x ρ (cn22 x.cols.length 0))=(List.range n).map (fun j=>row 9 1 (ρ j).1 (ρ j).2 x.cols.length ((row22 x j).map Value.string)):=List.map_congr_left fun j _=>by
   unfold rw22
   rw [hcn,List.take_of_length_le (by rw [row22_len];omega)]
  have e2:hd22 ρ (cn22 x.cols.length 0) n=(List.range n).map fun j => .slice (ρ j).1 x.cols.length (ρ j).2:=List.map_congr_left fun j _=>by rw [hcn]
  rw [e1,e2]
  refine (Hle.perm (List.perm_append_comm (l₁:=[_,_]))).trans ((dat_nil _).trans ?_)
  have h9:=rows_acc (e:=9) ρ x.cols.length (fun j=>(row22 x j).map Value.string) [blk b1 ((List.range n).map fun j => .slice (ρ j).1 x.cols.length (ρ j).2) 24,blk pc (coL x.sec (.slice (some ⟨bs1,os1,none⟩) n c1) (.slice A2 l.length c2) (.slice Ak x.cols.length ck)) 32] (List.range n) [] []
  exact h9
 refine T_open fun p hp=>?_
 refine T_le (H':=blk b1 (hd22 ρ (cn22 x.cols.length 0) n) 24::fz p::blk pc (coL x.sec (.slice (some ⟨bs1,os1,none⟩) n c1) (.slice A2 l.length c2) (.slice Ak x.cols.length ck)) 32::[]) (Hle.perm (List.Perm.swap _ _ _)) ?_
 repeat' (first|refine d1 ?_|(show ∀ _:Nat,T _ _ _ _ _;intro _))
 rename_i pb
 refine T_nilrow 5 1 ?_
 refine T_loopX (fun s:Nat × Option Addr × Option Addr × Nat=>[(48, .int .i64 (s.1:Nat))]) (fun s=>bld22 pb s.2.1 s.2.2.1 s.2.2.2 (part22N x s.1) [blk b1 (hd22 ρ (cn22 x.cols.length 0) n) 24,fz p,blk pc (coL x.sec (.slice (some ⟨bs1,os1,none⟩) n c1) (.slice A2 l.length c2) (.slice Ak x.cols.length ck)) 32]) (fun s=>s.1≤n∧(s.2.1=none∨s.2.1=some ⟨pb,0,none⟩)) (fun s=>n - s.1) (0,none,none,0) ⟨Nat.zero_le _, .inl rfl⟩ ?_ (hG:=Hle.perm (List.Perm.swap _ _ _))
 rintro⟨k,q,A5,c5⟩ ⟨hk,hq⟩
 dsimp only at hk hq ⊢
 have hpl:=part22N_le hs k (by omega)
 have hsg36:=hs.sg
 repeat' (first|refine d1 ?_|fail)
 refine T_if rfl (fun h6=>?_) (fun h6=>?_)
 ·simp only [decide_eq_true_eq] at h6
  have hkn:k<n:=by omega
  obtain⟨s,hsk⟩:∃ s,x.sg[k]?=some s:=⟨_,List.getElem?_eq_getElem (by omega)⟩
  have hr:=src_str hs1 hkn hsk
  have hs20:=hs.sig s (List.mem_of_getElem? hsk)
  have hsd:x.sg.getD k ByteArray.empty=s:=by rw [List.getD_eq_getElem?_getD,hsk];rfl
  have hhg:(hd22 ρ (cn22 x.cols.length 0) n)[k]?=some (.slice (ρ k).1 x.cols.length (ρ k).2):=by rw [hd22_get hkn,hcn]
  have hyk:Rd (fr p) [.slice (ρ k).1 x.cols.length (ρ k).2] [strsD (row22 x k)]:=by
   obtain⟨u,hu,hru⟩:=hp.get (i:=k) (d:=strsD (row22 x k)) (by rw [List.getElem?_map,List.getElem?_range hkn];rfl)
   rw [hhg] at hu
   cases hu
   exact hru
  repeat' (first|refine d1 ?_|(show T _ (.ops _ (_::_)::_) _ _ _;first|refine T_val rfl (Val.load rfl (fun hg=>rdOwn1 (b:=b1) (u := .slice (ρ k).1 x.cols.length (ρ k).2) (by rw [show 0+(k:Int).toNat * 1=k by omega];exact hhg))) rfl rfl rfl ?_|refine T_op (OpT.callB rfl rfl rfl rfl rfl (line22_spec _ pb q hq A5 c5 (part22N x k) s _ (row22 x k) p _ hyk (by omega) (by rw [row22_len];omega) (fun t ht=>by obtain⟨j,-,rfl⟩:=List.mem_map.1 ht;have:=cell22_le hs k j;omega) (by omega)) (fun u R hR=>?_)))|fail)
  obtain⟨⟨A6,c6⟩,rfl,rfl⟩:=hR
  have hpl2:=part22N_le hs (k+1) (by omega)
  have e9:part22N x k++line22 s (row22 x k)=part22N x (k+1):=by rw [part22N_succ,hsd]
  rw [e9]
  dsimp only
  repeat' (first|refine d1 ?_|(show T _ (.ops _ (_::_)::_) _ _ _;refine T_call rfl rfl rfl rfl rfl (fun w hw=>len22_spec pb (some ⟨pb,0,none⟩) A6 (part22N x (k+1)).length c6 w (rdAll w hw)) ?_)|fail)
  refine T_if rfl (fun h7=>?_) (fun _=>?_)
  ·exfalso
   have h8:=of_decide_eq_true h7
   omega
  repeat' (first|refine d1 ?_|fail)
  exact T_backX (k+1,_,A6,c6) ⟨by dsimp only;omega, .inr rfl⟩ (by dsimp only;omega)
 ·simp only [decide_eq_false_iff_not] at h6
  obtain rfl:k=n:=by omega
  have hne:part22N x k≠[]:=by
   obtain⟨m,rfl⟩:∃ m,k=m+1:=⟨k - 1,by omega⟩
   rw [part22N_succ]
   unfold line22
   simp
  repeat' (first|refine d1 ?_|(show T _ (.ops _ (_::_)::_) _ _ _;refine T_op (OpT.callB rfl rfl rfl rfl rfl (string22_spec _ pb q A5 c5 (part22N x k) hne _) (fun u R hR=>?_)))|fail)
  obtain⟨rfl,rfl⟩:=hR
  have e9:print22 x=part22N x k:=by rw [← hn];rfl
  rw [e9]
  repeat' (first|(show T _ (.code .ret::_) _ _ _;refine T_retV [] rfl (Hle.none _) ⟨rfl,rfl⟩))
end Go.Proofs.YtblnhdnogjijiaaGreatDoor
namespace Go.Proofs.YtblnhdnogjijiaaGreatDoor
open Go.RowKit Go.Shelf
set_option maxRecDepth 100000
set_option maxHeartbeats 1000000

def YieldsO (P:Program) (w0:World) (l:Nat) (GP:Nat→List HA→Prop) (X:List HA→Prop) (Q:Nat→List Value→List HA→Prop) (n:Nat):Prop :=
 ∀ (j:Nat) (x:List Value) (B Hj K:List HA) (w:World),j<n→Q j x B→GP j Hj→Cls w0 w (Hj++(B++K)) →
  ∃ f tmps assign body,(Instr.yield l x.toArray).run P w = .ok (.round l f tmps assign body) w∧RoundIn (Fr none) 0 P l f tmps assign body w fun e w' =>
   (e = .returned (.bool true)∧∃ H',GP (j+1) H'∧Cls w0 w' (H'++K))∨(e = .returned (.bool false)∧∃ Y,X Y∧Cls w0 w' (Y++K))
def IterO (P:Program) (w0:World) (f:FuncId) (fs cs:List Value) (cap:List HA) (Q:Nat→List Value→List HA→Prop) (n:Nat):Prop :=
 Enters P f∧∀ l GP X w Hj,YieldsO P w0 l GP X Q n→GP 0 Hj→Cls w0 w (cap++Hj) →
  CallsIn (Fr none) 0 P f (fs++(yv l::cs)).toArray w (RIt w0 cap GP X n)
theorem iterO_of (S : Sig) {w0 : World} {f : FuncId} {fn : Func} {c : Code} {fs cs : List Value} {cap : List HA} {Q : Nat → List Value → List HA → Prop} {n : Nat} (hf : S.P.funcs[f]? = some fn) (hn : (fn.name == "runtime.NumGoroutine") = false) (hb : fn.body = some c)
  (hlen:Nat.ble (fs.length+(1+cs.length)) fn.ntmps=true)
  (h:∀ l GP X Hj,YieldsO S.P w0 l GP X Q n→GP 0 Hj→T (IC S fn.ntmps w0 fn (RIt w0 cap GP X n)) (nf 60 [.code c]) (zipE 0 (fs++(yv l::cs))) [] (cap++Hj)):IterO S.P w0 f fs cs cap Q n:=by
 refine ⟨enters_of hf hn hb,fun l GP X w Hj hY h0 hw=>callsIn_of_wp_marks (n:=0) hf hb trivial ?_⟩
 generalize hargs:fs++(yv l::cs)=args
 have hlen':args.length≤fn.ntmps:=by
  have:=Nat.le_of_ble_eq_true hlen
  rw [← hargs];simp;omega
 have ha:Agrees ⟨fn.ntmps,[]⟩ (allOf (nf 60 [.code c])) (zipE 0 args) [] { tmps:=args.toArray++Array.replicate (fn.ntmps - args.toArray.size) undef,defers:=[] }:=by
  refine ⟨rfl,by simp;omega,fun s v hv=>?_,fun _ _ _ h=>(by cases h),fun _ _ _ h=>(by cases h)⟩
  obtain⟨_,h2⟩:=zipE_spec args 0 s v hv
  simp only [Nat.sub_zero] at h2
  have hs:s<args.length:=(List.getElem?_eq_some_iff.1 h2).1
  simp [Array.getD_eq_getD_getElem?,Array.getElem?_append,hs]
  rw [List.getElem?_eq_getElem hs] at h2
  simpa using h2
 have h1:=h l GP X Hj hY h0
 rw [hargs] at h1
 have:=nf_spec (h1 _ _ ha hw)
 simp only [sem] at this
 refine wpIn_mono this fun e a w' q=>?_
 cases e <;> first|exact q|exact q.elim
theorem T_rangeO {S:Sig} {m:Nat} {ds:List Deferred} {w0:World} {fn:Func} {Φ:Value→List HA→Prop} {g:Operand} {ps:Array Tmp} {assign body:Code} {k:List It} {env:Env} {ec:EnvC} {H:List HA}
  {f:FuncId} {fs cs:List Value} {cap:List HA} {Q:Nat→List Value→List HA→Prop} {n:Nat} (hit:IterO S.P w0 f fs cs cap Q n)
  (hg:evX env [] [] g=some (.func (.func f) fs.toArray cs.toArray)) (hps:∀ (j:Nat) (x:List Value) (B:List HA),j<n→Q j x B→x.length=ps.size∧inP m (ps.toList.zip x)=true)
  (GP:Nat→List HA→Prop) (XR:List HA→Prop) (XE:Nat→List HA→Prop) (H0:List HA) (h0:GP 0 H0) (hH:Hle H (cap++H0))
  (hround:∀ (L:Nat) (r:Loop) (j:Nat) (x:List Value) (B Hj K:List HA),r.state = .ready→j<n→Q j x B→GP j Hj→T (RA (RC S m w0 L (busy r) GP XR XE j K) L body) (nf 60 [.code assign]) (envP (ps.toList.zip x) env) [] (lrec L r::(Hj++(B++K))))
  (hn:∀ D Hn,GP n Hn→T (FC S m (mkD D::ds) w0 fn Φ) (nf 60 k) env [] (dfr D::(cap++Hn)))
  (hret:∀ D Hx,XR Hx→T (FC S m (mkD D::ds) w0 fn Φ) (.code .ret::k) env [] (dfr D::(cap++Hx)))
  (hex:∀ D id Hx,XE id Hx→T (FC S m (mkD D::ds) w0 fn Φ) (nf 60 (.code (.exit id)::k)) env [] (dfr D::(cap++Hx))) :
  T (FC S m ds w0 fn Φ) (.code (.rangeFunc g ps assign body)::k) env ec H:=by
 refine T.mk fun a w ha hw=>?_
 have ha0:Agrees ⟨m,ds⟩ #[] env [] a:=ha.plain
 replace hw:=Cls.le hw hH
 refine wpIn_rangeFunc fun fn' _=>?_
 -- the two blocks
 have hw1:=(hw.alloc (.deferred (some [])) (A:=dfr w.heap.size) rfl)
 have hsz:(w.alloc (.deferred (some []))).heap.size=w.heap.size+1:=World.size_alloc _ _
 generalize hD:w.heap.size=D at hw1 hsz
 generalize hr0:({ state := .ready,pending:=none,fn:=fn',tmps:=a.tmps,params:=ps,assign,body,defers:=D }:Loop)=r
 have hrdy:r.state = .ready:=by rw [← hr0]
 have hpd:r.pending=none:=by rw [← hr0]
 have hw2:=(hw1.alloc (.loop r) (A:=lrec (D+1) r) (by rw [hsz];rfl))
 have hen:=run_enterLoop_outer (P:=S.P) (w:=w) fn' a.tmps ps assign body
 rw [hD,hr0] at hen
 have hgv:=evX_spec (all := #[]) ha0 (Holds.nil _ _) hg
 have hargs:(fs.toArray ++ #[yv (D+1)]++cs.toArray)=(fs++(yv (D+1)::cs)).toArray:=Array.ext' (by simp)
 refine ⟨D+1,[mkD D],_,⟨.fn (.func f) cs.toArray,fs.toArray ++ #[yv (D+1)]⟩,(w.alloc (.deferred (some []))).alloc (.loop r),f,(fs++(yv (D+1)::cs)).toArray,(w.alloc (.deferred (some []))).alloc (.loop r),hen,?_,fun _ _=>trivial,?_,fun h=>(by cases h),?_⟩
 ·simp [resolve,hgv,Deferred.ofValue,yv]
  rfl
 ·have:=hit.1 (fs++(yv (D+1)::cs)).toArray ((w.alloc (.deferred (some []))).alloc (.loop r))
  rw [← hargs] at this ⊢
  simpa [invoke] using this
 · -- the rounds
  have hYd:YieldsO S.P w0 (D+1) (fun j H'=>∃ Hj,H'=lrec (D+1) r::dfr D::Hj∧GP j Hj) (fun Y=>∃ Hx jump,Y=lrec (D+1) { r with state := .done,pending:=some jump }::dfr D::Hx∧((jump = .ret∧XR Hx)∨∃ id,jump = .exit id∧XE id Hx)) Q n:=by
   rintro j x B _ K w1 hj hQ ⟨Hj,rfl,hGj⟩ hc
   have hL:=(hc.obj (i:=0) rfl).1
   obtain⟨hxl,hin⟩:=hps j x B hj hQ
   have hy:=run_yield (P:=S.P) (args:=x.toArray) hL (by rw [← hr0];simp [hxl])
   refine ⟨_,_,_,_,hy,roundIn_of_wpIn trivial ?_⟩
   have hc':Cls w0 w1 (lrec (D+1) r::(Hj++(B++(dfr D::K)))):=hc.le (Hle.perm (.cons _ (by
    have h1:=(List.perm_middle (a:=dfr D) (l₁:=Hj++B) (l₂:=K)).symm
    rw [List.append_assoc,List.append_assoc] at h1
    exact h1)))
   have hT:=hround (D+1) r j x B Hj (dfr D::K) hrdy hj hQ hGj
   have hag:Agrees ⟨m,[]⟩ #[] env [] { tmps:=r.tmps,defers:=[] }:=by
    rw [← hr0]
    exact⟨rfl,ha0.size,ha0.at_,fun _ _ _ h=>(by cases h),fun _ _ _ h=>(by cases h)⟩
   have hag2:=Agrees.putAll (N:=⟨m,[]⟩) (l:=ps.toList.zip x) hin hag
   have htm:(r.params.zip x.toArray).foldl (fun tmps (p:Tmp × Value)=>tmps.setIfInBounds p.1 p.2) r.tmps=(ps.toList.zip x).foldl (fun tmps (p:Nat × Value)=>tmps.setIfInBounds p.1 p.2) r.tmps:=by
    rw [← hr0, ← Array.foldl_toList,Array.toList_zip]
   rw [htm]
   have h1:=nf_spec (hT _ w1 ⟨hag2.defers,hag2.size,hag2.at_,fun _ _ _ h=>(by cases h),fun _ _ _ h=>(by cases h)⟩ hc')
   simp only [sem] at h1
   have hra:r.assign=assign:=by rw [← hr0]
   have hrb:r.body=body:=by rw [← hr0]
   rw [← hra, ← hrb] at h1
   refine wpIn_mono (F:=Fr (some (D+1))) h1 fun e a1 w2 q=>?_
   cases e <;> first|exact q.elim|skip
   obtain⟨w3,hb,hbody⟩:=q
   refine ⟨w3,hb,wpIn_mono hbody fun e a2 w4 q=>?_⟩
   have fin:∀ H':List HA,Cls w0 w4 (lrec (D+1) (busy r)::(H'++(dfr D::K)))→∀ jump,∃ w',(Instr.endRound (D+1) jump).run S.P w4 = .ok (.bool jump.isNone) w'∧Cls w0 w' (lrec (D+1) { r with state:=if jump.isNone then .ready else .done,pending:=jump }::dfr D::(H'++K)):=by
    intro H' hcl jump
    have hL4:=(hcl.obj (i:=0) rfl).1
    refine ⟨_,run_endRound jump hL4,?_⟩
    have:=hcl.putObj (i:=0) rfl (.loop { r with state:=if jump.isNone then .ready else .done,pending:=jump })
    exact this.le (Hle.perm ((List.perm_middle (a:=dfr D) (l₁:=H') (l₂:=K)).cons _))
   cases e with
   | normal =>
    obtain⟨H',g1,g2⟩:=q
    obtain⟨w',e1,e2⟩:=fin H' g2 none
    refine ⟨_,w',e1, .inl ⟨rfl,_,⟨H',rfl,g1⟩,?_⟩⟩
    have er:({ r with state := .ready,pending:=none }:Loop)=r:=by rw [← hr0]
    simp only [Option.isNone_none,if_true] at e2
    rw [er] at e2
    exact e2
   | ret =>
    obtain⟨H',g1,g2⟩:=q
    obtain⟨w',e1,e2⟩:=fin H' g2 (some .ret)
    exact⟨_,w',e1, .inr ⟨rfl,_,⟨H', .ret,rfl, .inl ⟨rfl,g1⟩⟩,e2⟩⟩
   | exit id =>
    obtain⟨H',g1,g2⟩:=q
    obtain⟨w',e1,e2⟩:=fin H' g2 (some (.exit id))
    exact⟨_,w',e1, .inr ⟨rfl,_,⟨H', .exit id,rfl, .inr ⟨id,rfl,g1⟩⟩,e2⟩⟩
   | goto t=>exact q.elim
   | panic c=>exact q.elim
   | outgrown=>exact q.elim
  have hstart:Cls w0 ((w.alloc (.deferred (some []))).alloc (.loop r)) (cap++(lrec (D+1) r::dfr D::H0)):=by
   have h1:Cls w0 ((w.alloc (.deferred (some []))).alloc (.loop r)) (lrec (D+1) r::dfr D::(cap++H0)):=hw2
   exact h1.le (Hle.rot2 _ _ cap H0)
  have hcall:=hit.2 (D+1) _ _ _ _ hYd ⟨H0,rfl,h0⟩ hstart
  have hcall':CallsIn (Fr none) 0 S.P f (fs++(yv (D+1)::cs)).toArray ((w.alloc (.deferred (some []))).alloc (.loop r)) _:=hcall
  refine CallsIn.mono hcall' ?_
  rintro e w3 ⟨⟨v,rfl⟩,hend⟩
  have hsem:=sem_N (FC S m ds w0 fn Φ) ⟨m,mkD D::ds⟩ k
  have hag:∀ all,Agrees ⟨m,mkD D::ds⟩ all env [] { a with defers:=[mkD D]++a.defers }:=fun all =>
   ⟨by simp [ha0.defers],ha0.size,ha0.at_,fun _ _ _ h=>(by cases h),fun _ _ _ h=>(by cases h)⟩
  rcases hend with⟨_,⟨Hn,rfl,hGn⟩,hc⟩|⟨_,⟨Hx,jump,rfl,hj⟩,hc⟩
  ·have hc:=hc.le (Hle.unrot2 _ _ cap Hn)
   have hL:=(hc.obj (i:=0) rfl).1
   refine ⟨none,w3.putObj (D+1) (.loop { r with state := .exhausted }),(run_endLoop hL (by rw [hrdy];intro h;cases h)).trans (by rw [hpd]),?_⟩
   have hc2:=(hc.putObj (i:=0) rfl (.loop { r with state := .exhausted })).le (Hle.tail _ _)
   have:=nf_spec (hn D Hn hGn _ _ (hag _) hc2)
   show (sem (FC S m ds w0 fn Φ) k).1 _ _
   rw [← hsem]
   exact this
  ·have hc:=hc.le (Hle.unrot2 _ _ cap Hx)
   have hL:=(hc.obj (i:=0) rfl).1
   refine ⟨_,_,run_endLoop hL (by intro h;cases h),?_⟩
   have hc2:=(hc.putObj (i:=0) rfl (.loop { ({ r with state := .done,pending:=some jump }:Loop) with state := .exhausted })).le (Hle.tail _ _)
   rcases hj with⟨rfl,hX⟩|⟨id,rfl,hX⟩
   ·have:=hret D Hx hX _ _ (hag _) hc2
    have h9:(sem (FC S m (mkD D::ds) w0 fn Φ) (.code .ret::k)).1 _ _:=this
    simp only [sem] at h9
    have h10:sem (FC S m (mkD D::ds) w0 fn Φ) k=sem (FC S m ds w0 fn Φ) k:=hsem
    rw [h10] at h9
    exact h9
   ·have:=nf_spec (hex D id Hx hX _ _ (hag _) hc2)
    simp only [sem] at this
    have h10:sem (FC S m (mkD D::ds) w0 fn Φ) k=sem (FC S m ds w0 fn Φ) k:=hsem
    rw [h10] at this
    exact this

theorem OpT.yieldO {S:Sig} {m:Nat} {w0:World} {fn:Func} {R:Ending→World→Prop} {all:Array Oper} {o:Oper} {env:Env} {ec:EnvC} {H:List HA} {d l j:Nat} {x:List Value} {G:GId} {Φ:Env→EnvC→List HA→Prop}
  {GP:Nat→List HA→Prop} {X:List HA→Prop} {Q:Nat→List Value→List HA→Prop} {n:Nat} {Hj:List HA} (B K:List HA)
  (hY:YieldsO S.P w0 l GP X Q n) (hg:gOf all env ec o=some G) (he:evYG env ec G o=some (l,x)) (hT:∀ a,Agrees ⟨m,[]⟩ all env ec a→Holds all a G) (hd:o.dst=some d) (hN:Nat.blt d m=true) (hs:safeC all d ec=true) (hj:j<n) (hQ:Q j x B) (hGP:GP j Hj) (hl:Hle H (Hj++(B++K)))
  (ht:∀ H',GP (j+1) H'→Φ ((d, .bool true)::env) ec (K++H'))
  (hf:∀ Y,X Y→Φ ((d, .bool false)::env) ec (K++Y)):OpT (IC S m w0 fn R) all o env ec H Φ:=by
 intro a w ha hw K' Q' hK
 have hH:=hT a ha
 have hwn:=(wanted_iff ha hg).2 hH
 refine ⟨fun _=>?_,fun hn=>(by rw [hwn] at hn;cases hn)⟩
 obtain⟨f,tmps,assign,body,hy,hr⟩:=hY j x B Hj K w hj hQ hGP (hw.le hl)
 have hdef:=gOf_def hg
 have hex:=evYG_spec ha hH he hy
 unfold Oper.wpIn
 refine ⟨about_Fr o _ w _,?_⟩
 rw [Oper.semAt_eq _ _ _ hdef,hex]
 refine ⟨fun h=>(by cases h),RoundIn.mono hr ?_⟩
 rintro e w' (⟨rfl,H',h1,h2⟩|⟨rfl,Y,h1,h2⟩)
 ·exact hK _ _ _ _ _ (ht H' h1) (by rw [hd];exact ha.put hN hs) (h2.le (Hle.comm _ _))
 ·exact hK _ _ _ _ _ (hf Y h1) (by rw [hd];exact ha.put hN hs) (h2.le (Hle.comm _ _))
end Go.Proofs.YtblnhdnogjijiaaGreatDoor
namespace Go.Proofs.YtblnhdnogjijiaaGreatDoor
open Go.RowKit Go.Shelf Go.Sort Go.Lib
set_option maxRecDepth 100000
set_option maxHeartbeats 1000000
variable {α:Type} [Inhabited α]

theorem heap_sortWorld {enc:α→Value} {w:World} {g m:Nat} {d':Array α} {os:Array Obj} {b:Nat} (hb:b<w.heap.size):(sortWorld enc w g 0 m d' os).heap[b]?=(w.heap[b]?).map (fun o=>if b=g then onCells (putCells enc 0 d') o else o):=by
 unfold sortWorld putRow mapBlock grow Sort.ahead
 simp only [Array.getElem?_append,Array.size_modify,hb,if_true,Array.getElem?_modify]
 by_cases h:g=b
 ·subst h
  simp
 ·rw [if_neg h]
  have:¬ b=g:=fun e=>h e.symm
  simp [this]
theorem putCells_at {enc:α→Value} {d':Array α} {cur:Array Value} (j:Nat) (hj:j<d'.size) (hc:j<cur.size):(putCells enc 0 d' cur)[j]?=some (enc d'[j]!):=by
 unfold putCells
 rw [Array.getElem?_mapIdx,Array.getElem?_eq_getElem hc]
 simp [hj]
theorem putCells_size {enc:α→Value} {d':Array α} {cur:Array Value}:(putCells enc 0 d' cur).size=cur.size:=by unfold putCells;simp
theorem below_sortWorld {enc:α→Value} {w:World} {B g m:Nat} {d':Array α} {os:Array Obj} (hB:B≤w.heap.size) (hg:B≤g):Below B w (sortWorld enc w g 0 m d' os):=by
 refine ⟨rfl,rfl,rfl,?_,fun k hk=>?_⟩
 ·show w.heap.size≤(grow (putRow enc (Sort.ahead w m) g 0 d') os).heap.size
  rw [size_grow,size_putRow]
  show w.heap.size≤w.heap.size+os.size
  omega
 ·rw [heap_sortWorld (b:=k) (by omega)]
  have:¬ k=g:=by omega
  cases w.heap[k]? <;> simp [this]
theorem sort_cls {w0 w:World} {e cap n g:Nat} {H:List HA} {enc:α→Value} {d d':Array α} {m:Nat} {os:Array Obj} (hw:Cls w0 w (row e 1 (some ⟨g,0,none⟩) cap n (d.toList.map enc)::H)) (hd:d.size=n) (hs:d'.size=d.size) :
  Cls w0 (sortWorld enc w g 0 m d' os) (row e 1 (some ⟨g,0,none⟩) cap n (d'.toList.map enc)::H):=by
 obtain⟨F,h1,h2,h3⟩:=hw.sep
 obtain⟨hxl,hrow⟩:=h1 0 _ rfl
 rcases hrow with⟨h9,-⟩|⟨g',cur,hA,hf,hn,hc,hcs,ht⟩
 ·cases h9
 cases hA
 have hg:=h2 0 g (.cells cur e (0,0)) (by simp) (by rw [hf];simp [one])
 have hgl:=lt_of_heap hg.2
 have hlt:w0.heap.size≤w.heap.size:=hw.below.size
 refine ⟨hw.below.trans (below_sortWorld hlt hg.1),?_⟩
 refine hw.sep.turn (k:=0) (b:=g) (o := .cells (putCells enc 0 d' cur) e (0,0)) rfl (fun f hf=>?_) (fun c hc hcl=>?_) ?_ ?_
 ·rcases hf.2 with⟨h9,-⟩|⟨g',cur',hA',hf',-⟩
  ·cases h9
  ·cases hA';exact⟨_,hf'⟩
 ·rw [heap_sortWorld hcl]
  cases w.heap[c]? with
  | none=>rfl
  | some o=>simp [hc]
 ·rw [heap_sortWorld hgl,hg.2]
  simp [onCells]
 ·refine ⟨by rw [List.length_map,Array.length_toList];omega, .inr ⟨g,_,rfl,rfl,hn,hc,by rw [putCells_size];exact hcs,?_⟩⟩
  refine List.ext_getElem? fun j=>?_
  by_cases hj:j<n * 1
  ·rw [List.getElem?_take_of_lt hj,Array.getElem?_toList,putCells_at j (by omega) (by omega),List.getElem?_map,Array.getElem?_toList,Array.getElem?_eq_getElem (by omega)]
   simp [show j<d'.size by omega]
  ·rw [List.getElem?_eq_none (by rw [List.length_take,Array.length_toList,putCells_size];omega),List.getElem?_eq_none (by rw [List.length_map,Array.length_toList];omega)]
theorem sort_holds {w0 w:World} {e cap n g:Nat} {H:List HA} {enc:α→Value} {d:Array α} (hw:Cls w0 w (row e 1 (some ⟨g,0,none⟩) cap n (d.toList.map enc)::H)) (hd:d.size=n):Go.Sort.Holds enc w g 0 d∧g<w.heap.size:=by
 obtain⟨F,h1,h2,h3⟩:=hw.sep
 obtain⟨hxl,hrow⟩:=h1 0 _ rfl
 rcases hrow with⟨h9,-⟩|⟨g',cur,hA,hf,hn,hc,hcs,ht⟩
 ·cases h9
 cases hA
 have hg:=h2 0 g (.cells cur e (0,0)) (by simp) (by rw [hf];simp [one])
 refine ⟨fun j hj=>⟨?_,?_⟩,lt_of_heap hg.2⟩
 ·have h5:(d.toList.map enc)[j]?=some (enc d[j]!):=by
   rw [List.getElem?_map,Array.getElem?_toList,Array.getElem?_eq_getElem hj];simp [hj]
  rw [← ht,List.getElem?_take_of_lt (by omega),Array.getElem?_toList] at h5
  simp [World.cell?,hg.2,h5]
 ·simp [World.frozen?,hg.2]
theorem permIn_all {d d':Array α} (h:PermIn 0 d.size d d'):d'.size=d.size∧d'.toList.Perm d.toList:=by
 obtain⟨h1,-,h3⟩:=h
 refine ⟨h1,?_⟩
 have e1:d.extract 0 d.size=d:=by simp
 have e2:d'.extract 0 d.size=d':=by rw [← h1];simp
 rw [e1,e2] at h3
 exact h3
theorem sortedIn_all {lt:α→α→Bool} {d:Array α} {n:Nat} (hn:d.size=n) (h:SortedIn lt 0 n d):d.toList.Pairwise fun a b=>lt b a=false:=by
 rw [List.pairwise_iff_getElem]
 intro i j hi hj hij
 rw [Array.length_toList] at hi hj
 have:=h i j (Nat.zero_le _) hij (by omega)
 simpa [hi,hj] using this
end Go.Proofs.YtblnhdnogjijiaaGreatDoor
namespace Go.Proofs.YtblnhdnogjijiaaGreatDoor
open Go.RowKit Go.Shelf Go.Proofs
set_option maxRecDepth 100000
set_option maxHeartbeats 1000000

def ownJ (l:List TS) (col:List Int) (k:Nat):List Tok:=(List.range l.length).map fun s=>if s<k∧0≤col.getD s (-1) then tkA (tsA l s).l (col.getD s (-1)).toNat else noTok
def thJ (l:List TS) (col:List Int) (k:Nat):List Bool:=(List.range l.length).map fun s=>decide (s<k∧0≤col.getD s (-1))
theorem ownJ_len (l:List TS) (col:List Int) (k:Nat):(ownJ l col k).length=l.length:=by simp [ownJ]
theorem thJ_len (l:List TS) (col:List Int) (k:Nat):(thJ l col k).length=l.length:=by simp [thJ]
theorem ownJ_zero (l:List TS) (col:List Int):ownJ l col 0=List.replicate l.length noTok:=by
 refine List.ext_getElem? fun s=>?_
 unfold ownJ
 rw [List.getElem?_map,List.getElem?_replicate]
 rcases Nat.lt_or_ge s l.length with h|h
 ·rw [List.getElem?_range h,if_pos h];simp
 ·rw [if_neg (by omega),List.getElem?_eq_none (by simp;omega)];rfl
theorem thJ_zero (l:List TS) (col:List Int):thJ l col 0=List.replicate l.length false:=by
 refine List.ext_getElem? fun s=>?_
 unfold thJ
 rw [List.getElem?_map,List.getElem?_replicate]
 rcases Nat.lt_or_ge s l.length with h|h
 ·rw [List.getElem?_range h,if_pos h];simp
 ·rw [if_neg (by omega),List.getElem?_eq_none (by simp;omega)];rfl
theorem ownJ_gap {l:List TS} {col:List Int} {k:Nat} (h:¬ 0≤col.getD k (-1)):ownJ l col (k+1)=ownJ l col k:=by
 unfold ownJ
 refine List.map_congr_left fun s _=>?_
 by_cases e:s=k
 ·subst e;rw [if_neg (fun h9=>h h9.2),if_neg (fun h9=>h h9.2)]
 ·by_cases h2:s<k∧0≤col.getD s (-1)
  ·rw [if_pos h2,if_pos ⟨by omega,h2.2⟩]
  ·rw [if_neg h2,if_neg (fun h9=>h2 ⟨by omega,h9.2⟩)]
theorem thJ_gap {l:List TS} {col:List Int} {k:Nat} (h:¬ 0≤col.getD k (-1)):thJ l col (k+1)=thJ l col k:=by
 unfold thJ
 refine List.map_congr_left fun s _=>?_
 by_cases e:s=k
 ·subst e;rw [decide_eq_false (fun h9=>h h9.2),decide_eq_false (fun h9=>h h9.2)]
 ·by_cases h2:s<k∧0≤col.getD s (-1)
  ·rw [decide_eq_true h2,decide_eq_true (⟨by omega,h2.2⟩:s<k+1∧_)]
  ·rw [decide_eq_false h2,decide_eq_false (fun h9=>h2 ⟨by omega,h9.2⟩)]
theorem ownJ_tok {l:List TS} {col:List Int} {k:Nat} (hk:k<l.length) (h:0≤col.getD k (-1)):(ownJ l col k).set k (tkA (tsA l k).l (col.getD k (-1)).toNat)=ownJ l col (k+1):=by
 refine List.ext_getElem? fun s=>?_
 unfold ownJ
 rw [List.getElem?_set,List.getElem?_map,List.getElem?_map,List.length_map,List.length_range]
 by_cases e:k=s
 ·subst e
  rw [List.getD_eq_getElem?_getD] at h
  rw [if_pos rfl,if_pos hk,List.getElem?_range hk];simp;intro h9;omega
 ·rw [if_neg e]
  rcases Nat.lt_or_ge s l.length with h2|h2
  ·rw [List.getElem?_range h2]
   simp only [Option.map_some]
   by_cases h3:s<k∧0≤col.getD s (-1)
   ·rw [if_pos h3,if_pos ⟨by omega,h3.2⟩]
   ·rw [if_neg h3,if_neg (fun h9=>h3 ⟨by omega,h9.2⟩)]
  ·rw [List.getElem?_eq_none (by simp;omega)];rfl
theorem thJ_tok {l:List TS} {col:List Int} {k:Nat} (hk:k<l.length) (h:0≤col.getD k (-1)):(thJ l col k).set k true=thJ l col (k+1):=by
 refine List.ext_getElem? fun s=>?_
 unfold thJ
 rw [List.getElem?_set,List.getElem?_map,List.getElem?_map,List.length_map,List.length_range]
 by_cases e:k=s
 ·subst e
  rw [List.getD_eq_getElem?_getD] at h
  rw [if_pos rfl,if_pos hk,List.getElem?_range hk];simp [h]
 ·rw [if_neg e]
  rcases Nat.lt_or_ge s l.length with h2|h2
  ·rw [List.getElem?_range h2]
   simp only [Option.map_some]
   by_cases h3:s<k∧0≤col.getD s (-1)
   ·rw [decide_eq_true h3,decide_eq_true (⟨by omega,h3.2⟩:s<k+1∧_)]
   ·rw [decide_eq_false h3,decide_eq_false (fun h9=>h3 ⟨by omega,h9.2⟩)]
  ·rw [List.getElem?_eq_none (by simp;omega)];rfl
theorem ownJ_small {w:World} {A:Option Addr} {n:Nat} {l:List TS} (hg:Grp w A n l) {col:List Int} (hco:ColOk l col) (k:Nat):∀ t∈ownJ l col k,t.small:=by
 intro t ht
 unfold ownJ at ht
 obtain⟨s,hs,rfl⟩:=List.mem_map.1 ht
 rw [List.mem_range] at hs
 split
 ·rename_i h
  have hci:col[s]?=some (col.getD s (-1)):=by rw [List.getD_eq_getElem?_getD,List.getElem?_eq_getElem (by rw [hco.1];exact hs)];rfl
  have hli:l[s]?=some (tsA l s):=by rw [tsA_eq (List.getElem?_eq_getElem hs)];exact List.getElem?_eq_getElem hs
  exact hg.sm _ (tsA_mem hs) _ (tkA_mem2 h.2 (by rw [hg.ok.len _ (tsA_mem hs)];exact (hco.2 s _ _ hci hli).2))
 ·exact noTok_small
theorem own_colV {w:World} {A:Option Addr} {n:Nat} {l:List TS} (hg:Grp w A n l) {c:Costs} (hc:costE c=0) (hbs:badS l=false) {col:List Int} (hco:ColOk l col):columnV c (ownJ l col l.length) (thJ l col l.length)=(colZ c l col,0):=by
 have hb:=hg.hb
 have hn:=hg.hn
 refine columnV_Z hc hbs hg.ok.len (by omega) hco (ownJ_len _ _ _) (thJ_len _ _ _) (fun i hi=>?_) (fun i hi h0=>?_)
 ·unfold thA thJ
  rw [List.getD_eq_getElem?_getD,List.getElem?_map,List.getElem?_range hi]
  show decide (i<l.length∧0≤col.getD i (-1))=_
  by_cases h:0≤col.getD i (-1)
  ·rw [decide_eq_true h,decide_eq_true ⟨hi,h⟩]
  ·rw [decide_eq_false h,decide_eq_false (fun h9=>h h9.2)]
 ·show tkA (ownJ l col l.length) i=_
  have e:(ownJ l col l.length)[i]?=some (tkA (tsA l i).l (col.getD i (-1)).toNat):=by
   unfold ownJ
   rw [List.getElem?_map,List.getElem?_range hi]
   simp only [Option.map_some]
   rw [if_pos ⟨hi,h0⟩]
  unfold tkA at e ⊢
  rw [List.getD_eq_getElem?_getD (l:=ownJ l col l.length),e]
  rfl
theorem made_toks (n:Nat):(madeCells (noTok.val).cells (n * (noTok.val).cells.size)).toList=(List.replicate n noTok).flatMap Tok.cells:=by
 refine (made_flat (noTok.val).cells n).trans ?_
 induction n with
 | zero=>rfl
 | succ n ih=>rw [List.replicate_succ,List.replicate_succ,List.flatMap_cons,List.flatten_cons,ih];rfl
theorem cost19_spec (c:Costs) (A Ac:Option Addr) (n ca cc:Nat) (l:List TS) (col:List Int) (w:World) (hg:Grp w A n l) (hc:costE c=0) (hbs:badS l=false) (hcs:Src w 1 Ac n (col.map (Value.int .i64))) (hco:ColOk l col) :
  Spec Tryz.prog 104 [c.val, .slice A n ca, .slice Ac n cc] w (fun v R=>v = .int .i64 (colZ c l col)∧R=[]):=by
 have hn:=hg.hn
 subst hn
 have hb:=hg.hb
 refine spec_of sg Tryz.func104 rfl rfl rfl ?_
 refine T_op (OpT.box (cs:=c.cells) rfl rfl rfl rfl rfl rfl rfl (fun pc=>?_))
 repeat' (first|refine d1 ?_|fail)
 refine T_cutX 1 [7,8] (fun s:Nat × Nat=>[(7, .slice (some ⟨s.1,0,none⟩) l.length l.length),(8, .slice (some ⟨s.2,0,none⟩) l.length l.length)]) (fun s=>[blk s.1 (madeCells (noTok.val).cells (l.length * (noTok.val).cells.size)).toList 42,blk s.2 (List.replicate l.length (.bool false)) 4,blk pc c.cells 23]) (fun _=>True) ?_ ?_
 ·refine dw0 1000 [blk pc c.cells 23] ?_
  repeat' (first|(show T _ (.draw _ _ _ _ _::_) _ _ _;first|refine dw1 ?_|refine dwb rfl (by decide +kernel) ?_)|(show AllL _ [];exact True.intro)|(show AllL _ (_::_);refine ⟨?_,?_⟩)|(show OpT _ _ _ _ _ _ _;first|refine dwx ?_|refine OpT.makeC rfl rfl rfl rfl rfl rfl (by dsimp only;omega) (fun b2=>⟨fun _=>(by first|exact Hle.none _|exact Hle.sub|exact absurd ‹_› (by decide +kernel)),?_⟩))|(show ∀ _:Nat,T _ _ _ _ _;intro _)|(show T _ (.mark _::_) _ _ _;exact T_meetX (_,_) trivial (hG:=by exact Hle.srt)))
 rintro⟨b2,b3⟩ _
 dsimp only
 refine T_le (H':=[blk b2 ((ownJ l col 0).flatMap Tok.cells) 42,blk b3 ((thJ l col 0).map Value.bool) 4,blk pc c.cells 23]) (by rw [ownJ_zero,thJ_zero,made_toks,List.map_replicate];exact Hle.refl _) ?_
 repeat' (first|refine d1 ?_|fail)
 refine T_loopX (fun k:Nat=>[(21, .int .i64 k)]) (fun k=>[blk b2 ((ownJ l col k).flatMap Tok.cells) 42,blk b3 ((thJ l col k).map Value.bool) 4,blk pc c.cells 23]) (fun k=>k≤l.length) (fun k=>l.length - k) 0 (Nat.zero_le _) ?_
 intro k hk
 repeat' (first|refine d1 ?_|fail)
 refine T_if rfl (fun h=>?_) (fun h=>?_)
 ·simp only [decide_eq_true_eq] at h
  have hkn:k<l.length:=by omega
  obtain⟨b1,o1,rfl⟩:=hcs.base (by omega)
  obtain⟨b,o,rfl⟩:=hg.hs.base (by omega)
  obtain⟨s,hs,hsmem,hr⟩:=hg.get hkn
  obtain⟨z,hz⟩:∃ z,col[k]?=some z:=⟨_,List.getElem?_eq_getElem (by have:=hco.1;omega)⟩
  have hr1:=src_int hcs hkn hz
  obtain⟨hz1,hz2⟩:=hco.2 k z s hz hs
  have hsl:=hg.ok.len s hsmem
  have hsn:=hg.nb s hsmem
  have hzd:col.getD k (-1)=z:=by rw [List.getD_eq_getElem?_getD,hz];rfl
  repeat' (first|refine d1 ?_|fail)
  refine T_if rfl (fun h1=>?_) (fun h1=>?_)
  ·simp only [decide_eq_true_eq] at h1
   obtain⟨b4,o4,hsA⟩:=(hg.ok.src s hsmem).base (by omega)
   have hsr:RdC w b4 (o4+z.toNat * 6) (tkA s.l z.toNat).cells:=(hsA ▸ hg.ok.src s hsmem:Src w 6 (some ⟨b4,o4,none⟩) s.n (s.l.flatMap Tok.cells)).getT (k:=z.toNat) (by omega) (tkA_get (by omega))
   rw [hsA] at hr
   repeat' (first|refine d1 ?_|(show T _ (.ops _ (_::_)::_) _ _ _;first|refine T_op (OpT.storeA (us:=(tkA s.l z.toNat).cells) rfl rfl rfl rfl rfl rfl (by rw [flatT_length,ownJ_len,show (tkA s.l z.toNat).cells.length=6 from rfl];omega) ?_)|refine T_op (OpT.store rfl rfl rfl rfl (by rw [List.length_map,thJ_len];omega) ?_))|fail)
   refine T_backX (k+1) (by omega) (by omega) (hG:=?_)
   have e1:=ownJ_tok (l:=l) (col:=col) hkn (by rw [hzd];exact h1)
   have e2:=thJ_tok (l:=l) (col:=col) hkn (by rw [hzd];exact h1)
   rw [hzd,tsA_eq hs] at e1
   rw [← e1, ← e2, ← flatTok_set _ _ _ (by rw [ownJ_len];exact hkn),List.map_set,show 0+(k:Int).toNat * 6=k * 6 by omega,show 0+(k:Int).toNat * 1=k by omega]
   exact Hle.refl _
  ·simp only [decide_eq_false_iff_not] at h1
   repeat' (first|refine d1 ?_|fail)
   exact T_backX (k+1) (by omega) (by omega) (hG:=by rw [ownJ_gap (by rw [hzd];exact h1),thJ_gap (by rw [hzd];exact h1)];exact Hle.refl _)
 ·simp only [decide_eq_false_iff_not] at h
  obtain rfl:k=l.length:=by omega
  repeat' (first|refine d1 ?_|(show T _ (.ops _ (_::_)::_) _ _ _;refine T_call rfl rfl rfl rfl rfl (fun w hw=>columnPrg_spec c (some ⟨b2,0,none⟩) (some ⟨b3,0,none⟩) l.length l.length l.length l.length (ownJ l col l.length) (thJ l col l.length) w (hg.hst.cls hw) (Src.own hw (by rw [flatT_length,ownJ_len])) (ownJ_len _ _ _) (by omega) (Src.own hw (by rw [List.length_map,thJ_len,Nat.mul_one])) (thJ_len _ _ _) (by omega) (ownJ_small hg hco _)) ?_)|fail)
  rw [own_colV hg hc hbs hco]
  repeat' (first|(show T _ (.code .ret::_) _ _ _;refine T_retV [] rfl (Hle.none _) ⟨rfl,rfl⟩))
end Go.Proofs.YtblnhdnogjijiaaGreatDoor
namespace Go.Proofs.YtblnhdnogjijiaaGreatDoor
open Go.RowKit Go.Shelf Go.Proofs
set_option maxRecDepth 100000
set_option maxHeartbeats 1000000

end Go.Proofs.YtblnhdnogjijiaaGreatDoor
namespace Go.Proofs.YtblnhdnogjijiaaGreatDoor
open Go.RowKit Go.Shelf Go.Lib Go.Sort Go.Proofs
set_option maxRecDepth 100000
set_option maxHeartbeats 2000000
def cmpI (a b:Int):Int:=if a<b then -1 else if b<a then 1 else 0
def cmpLI:List Int→List Int→Int
 | [],[]=>0
 | [],_::_ => -1
 | _::_,[]=>1
 | a::p,b::q=>if cmpI a b≠0 then cmpI a b else cmpLI p q
theorem isNaN_calls (x:Int) (W:World):Calls Tryz.prog 248 #[.int .i64 x] W fun e w'=>e = .returned (.bool false)∧w'=W:=by
 go_enter Tryz.func248,Tryz.ntmps248
 go_wp2
 go_ret
 exact⟨rfl,rfl⟩
theorem cmpI_calls (x y:Int) (W:World):Calls Tryz.prog 207 #[.int .i64 x, .int .i64 y] W fun e w'=>e = .returned (.int .i64 (cmpI x y))∧w'=W:=by
 have h1:=isNaN_calls x
 have h2:=isNaN_calls y
 go_enter Tryz.func207,Tryz.ntmps207
 go_wp2_with (first|(go_at_call 248;refine (h1 _).mono ?_;rintro e w' ⟨rfl,rfl⟩)|(go_at_call 248;refine (h2 _).mono ?_;rintro e w' ⟨rfl,rfl⟩))
 ·rename_i h;go_ret;exact⟨by unfold cmpI;rw [if_pos h];rfl,rfl⟩
 ·rename_i h9 _ _ h;go_ret;exact⟨by unfold cmpI;rw [if_neg (by omega),if_pos h];rfl,rfl⟩
 ·rename_i h;go_ret;exact⟨by unfold cmpI;rw [if_neg (by omega),if_neg (by omega)];rfl,rfl⟩
theorem cmpLI_drop {a b:List Int} {k:Nat} (ha:k<a.length) (hb:k<b.length):cmpLI (a.drop k) (b.drop k)=if cmpI (a.getD k 0) (b.getD k 0)≠0 then cmpI (a.getD k 0) (b.getD k 0) else cmpLI (a.drop (k+1)) (b.drop (k+1)):=by
 rw [List.drop_eq_getElem_cons ha,List.drop_eq_getElem_cons hb,cmpLI,List.getD_eq_getElem?_getD,List.getElem?_eq_getElem ha,List.getD_eq_getElem?_getD,List.getElem?_eq_getElem hb];rfl
theorem cmpLI_end1 {a b:List Int} {k:Nat} (ha:k<a.length) (hb:b.length≤k):cmpLI (a.drop k) (b.drop k)=1:=by
 rw [List.drop_eq_getElem_cons ha,List.drop_of_length_le hb];rfl
theorem cmpLI_end2 {a b:List Int} {k:Nat} (ha:a.length≤k) (hb:k<b.length):cmpLI (a.drop k) (b.drop k) = -1:=by
 rw [List.drop_eq_getElem_cons hb,List.drop_of_length_le ha];rfl
theorem cmpLI_end {a b:List Int} {k:Nat} (ha:a.length≤k) (hb:b.length≤k):cmpLI (a.drop k) (b.drop k)=0:=by
 rw [List.drop_of_length_le ha,List.drop_of_length_le hb];rfl
theorem compare_calls (ba oa ca bb ob cb:Nat) (a b:List Int) (W:World) (hla:a.length≤1000) (hlb:b.length≤1000) (ha:∀ j,j<a.length→W.cell? ⟨ba,oa+j,none⟩=some (.int .i64 (a.getD j 0))) (hb:∀ j,j<b.length→W.cell? ⟨bb,ob+j,none⟩=some (.int .i64 (b.getD j 0))) :
  Calls Tryz.prog 160 #[.slice (some ⟨ba,oa,none⟩) a.length ca, .slice (some ⟨bb,ob,none⟩) b.length cb] W fun e w'=>e = .returned (.int .i64 (cmpLI a b))∧w'=W:=by
 generalize hna:a.length=na at *
 generalize hnb:b.length=nb at *
 go_enter Tryz.func160,Tryz.ntmps160
 go_wp2
 go_loop [5,6,7,8,11] (fun _ _ _ _ i=>∃ k:Nat,k≤na∧k≤nb∧i = .int .i64 k∧cmpLI a b=cmpLI (a.drop k) (b.drop k)) (fun _ _ _ _ i=>match i with | .int _ m=>na - m.toNat|_=>0)
 case atStart=>exact⟨0,Nat.zero_le _,Nat.zero_le _,rfl,rfl⟩
 case round =>
  obtain⟨k,hk,hkb,rfl,he⟩:=hrel
  by_cases hka:k<na
  ·have hkz:(k:Int)<(na:Int):=by omega
   have hca:=ha k hka
   have hwr:IntKind.i64.wrap ((k:Int)+1)=(k:Int)+1:=by rw [IntKind.wrap_i64];omega
   by_cases hkb2:k<nb
   ·have hkz2:¬ (nb:Int)≤(k:Int):=by omega
    have hkz3:(k:Int)<(nb:Int):=by omega
    have hcb:=hb k hkb2
    have hc:=cmpI_calls (a.getD k 0) (b.getD k 0) W
    rw [cmpLI_drop (by omega) (by omega)] at he
    clear ha hb
    generalize a.getD k 0=x at *
    generalize b.getD k 0=y at *
    generalize cmpI x y=z at *
    by_cases hz:z=0
    ·subst hz
     rw [if_neg (by simp)] at he
     go_wp2_with (go_at_call 207;refine hc.mono ?_;rintro e w' ⟨rfl,rfl⟩)
     refine ⟨⟨k+1,by omega,by omega,rfl,he⟩,?_⟩
     show na - ((k:Int)+1).toNat<na - (k:Int).toNat
     omega
    ·have hzd:decide (z=0)=false:=decide_eq_false hz
     rw [if_pos hz] at he
     go_wp2_with (go_at_call 207;refine hc.mono ?_;rintro e w' ⟨rfl,rfl⟩)
     go_ret
     exact⟨by first|rfl|(rw [he];rfl),rfl⟩
   ·have hkz2:(nb:Int)≤(k:Int):=by omega
    rw [cmpLI_end1 (by omega) (by omega)] at he
    clear ha hb
    go_wp2
    go_ret
    exact⟨by first|rfl|(rw [he];rfl),rfl⟩
  ·have hkz:¬ (k:Int)<(na:Int):=by omega
   clear ha hb
   by_cases hab:na<nb
   ·have habz:(na:Int)<(nb:Int):=by omega
    rw [cmpLI_end2 (by omega) (by omega)] at he
    go_wp2
    go_ret
    exact⟨by first|rfl|(rw [he];rfl),rfl⟩
   ·have habz:¬ (na:Int)<(nb:Int):=by omega
    rw [cmpLI_end (by omega) (by omega)] at he
    go_wp2
    go_ret
    exact⟨by first|rfl|(rw [he];rfl),rfl⟩
theorem moves1_calls (cf:Int) (ba oa ca bb ob cb:Nat) (a b:List Int) (W:World) (hla:a.length≤1000) (hlb:b.length≤1000) (ha:∀ j,j<a.length→W.cell? ⟨ba,oa+j,none⟩=some (.int .i64 (a.getD j 0))) (hb:∀ j,j<b.length→W.cell? ⟨bb,ob+j,none⟩=some (.int .i64 (b.getD j 0)))
  (hcf:cf=if a.length≠b.length then (b.length:Int) - a.length else cmpLI a b) :
  Calls Tryz.prog 159 #[.slice (some ⟨ba,oa,none⟩) a.length ca, .slice (some ⟨bb,ob,none⟩) b.length cb] W fun e w'=>e = .returned (.int .i64 cf)∧w'=W:=by
 have hc:=compare_calls ba oa ca bb ob cb a b W hla hlb ha hb
 clear ha hb
 generalize cmpLI a b=r at *
 generalize a.length=na at *
 generalize b.length=nb at *
 by_cases hab:na=nb
 ·rw [if_neg (by simpa using hab)] at hcf
  subst hcf
  subst hab
  go_enter Tryz.func159,Tryz.ntmps159
  go_wp2_with (go_at_call 160;refine hc.mono ?_;rintro e w' ⟨rfl,rfl⟩)
  go_ret
  exact⟨rfl,rfl⟩
 ·rw [if_pos hab] at hcf
  have hd:¬ (na:Int)=(nb:Int):=by omega
  have hw:IntKind.i64.wrap ((nb:Int) - (na:Int))=(nb:Int) - (na:Int):=by rw [IntKind.wrap_i64];omega
  go_enter Tryz.func159,Tryz.ntmps159
  go_wp2
  go_ret
  exact⟨by rw [hcf];rfl,rfl⟩
end Go.Proofs.YtblnhdnogjijiaaGreatDoor
namespace Go.Proofs.YtblnhdnogjijiaaGreatDoor
open Go.RowKit Go.Shelf Go.Proofs
set_option maxRecDepth 100000
set_option maxHeartbeats 1000000

theorem cmpI_nat (a b:Nat):cmpI (a:Int) (b:Int)=if a<b then -1 else if b<a then 1 else 0:=by
 unfold cmpI
 by_cases h1:a<b
 ·rw [if_pos (by omega),if_pos h1]
 ·rw [if_neg (by omega),if_neg h1]
  by_cases h2:b<a
  ·rw [if_pos (by omega),if_pos h2]
  ·rw [if_neg (by omega),if_neg h2]
theorem cmpLI_nat:∀ a b:List Nat,cmpLI (intN a) (intN b)=cmpL a b
 | [],[]=>rfl
 | [],_::_=>rfl
 | _::_,[]=>rfl
 | a::p,b::q=>by
  have ih:=cmpLI_nat p q
  show (if cmpI (a:Int) (b:Int)≠0 then cmpI (a:Int) (b:Int) else cmpLI (intN p) (intN q))=_
  rw [cmpI_nat,ih,cmpL]
  by_cases h1:a<b
  ·rw [if_pos h1,if_pos h1,if_pos (by omega)]
  ·by_cases h2:b<a
   ·rw [if_neg h1,if_pos h2,if_neg h1,if_pos h2,if_pos (by omega)]
   ·rw [if_neg h1,if_neg h2,if_neg h1,if_neg h2,if_neg (by omega)]
end Go.Proofs.YtblnhdnogjijiaaGreatDoor
namespace Go.Proofs.YtblnhdnogjijiaaGreatDoor
open Go.RowKit Go.Shelf Go.Proofs
set_option maxRecDepth 100000
set_option maxHeartbeats 1000000

theorem volL_app:∀ a b:List Nat,volL (a++b)=volL a * volL b
 | [],b=>by show volL b=1 * volL b;omega
 | n::a,b=>by
  show (n+1) * volL (a++b)=(n+1) * volL a * volL b
  rw [volL_app a b,Nat.mul_assoc]
theorem volL_snoc {ls:List Nat} {k n:Nat} (h:ls[k]?=some n):volL (ls.take (k+1))=volL (ls.take k) * (n+1):=by
 rw [take_snoc _ _ _ h,volL_app]
 show _ * ((n+1) * 1)=_
 rw [Nat.mul_one]
theorem volL_take (ls:List Nat) (k:Nat):volL (ls.take k)≤volL ls:=by
 have h:=volL_app (ls.take k) (ls.drop k)
 rw [List.take_append_drop] at h
 rw [h]
 exact Nat.le_mul_of_pos_right _ (volL_pos _)
theorem volL_drop {ls:List Nat} {k n:Nat} (h:ls[k]?=some n):volL (ls.drop k)=volL (ls.drop (k+1)) * (n+1):=by
 obtain⟨h1,e⟩:=List.getElem?_eq_some_iff.1 h
 rw [List.drop_eq_getElem_cons h1,e]
 show (n+1) * _=_
 rw [Nat.mul_comm]
theorem volL_dropLe (ls:List Nat) (k:Nat):volL (ls.drop k)≤volL ls:=by
 have h:=volL_app (ls.take k) (ls.drop k)
 rw [List.take_append_drop] at h
 rw [h]
 exact Nat.le_mul_of_pos_left _ (volL_pos _)
theorem stpL_drop:∀ {ls:List Nat} {s:Nat},s<ls.length→stpL ls s=volL (ls.drop (s+1))
 | _::ls,0,_=>rfl
 | _::ls,s+1,h=>by
  have:=stpL_drop (ls:=ls) (s:=s) (by simpa using h)
  simpa [stpL] using this
theorem stpL_pos {ls:List Nat} {s:Nat} (h:s<ls.length):0<stpL ls s:=by rw [stpL_drop h];exact volL_pos _
theorem stpL_le {ls:List Nat} {s:Nat} (h:s<ls.length):stpL ls s≤volL ls:=by rw [stpL_drop h];exact volL_dropLe _ _
def capV (v lim:Nat):Nat:=if v≤lim then v else lim+1
theorem size19_spec (A:Option Addr) (n ca:Nat) (l:List TS) (lim:Nat) (w:World) (hg:Grp w A n l) (hlim:1≤lim∧lim≤1000000000000):Spec Tryz.prog 100 [.slice A n ca, .int .i64 (lim:Nat)] w (fun v R=>v = .int .i64 (capV (volL (lens l)) lim:Nat)∧R=[]):=by
 have hn:=hg.hn
 have hb:=hg.hb
 have hll:=lens_len l
 refine spec_of sg Tryz.func100 rfl rfl rfl ?_
 repeat' (first|refine d1 ?_|fail)
 refine T_loopX (fun k:Nat=>[(10, .int .i64 k),(5, .int .i64 (volL ((lens l).take k):Nat))]) (fun _=>[]) (fun k=>k≤n∧volL ((lens l).take k)≤lim) (fun k=>n - k) 0 ⟨Nat.zero_le _,hlim.1⟩ ?_
 rintro k ⟨hk,hv⟩
 repeat' (first|refine d1 ?_|fail)
 refine T_if rfl (fun h=>?_) (fun h=>?_)
 ·simp only [decide_eq_true_eq] at h
  have hkn:k<n:=by omega
  obtain⟨b,o,rfl⟩:=hg.hs.base (by omega)
  obtain⟨t,ht,htm,hr⟩:=hg.get hkn
  have htn:=hg.nb t htm
  have hs:=volL_snoc (lens_get ht)
  have hle:=volL_take (lens l) (k+1)
  have e:((volL ((lens l).take k):Nat):Int) * ((t.n:Int)+1)=(volL ((lens l).take (k+1)):Nat):=by rw [hs];simp
  have hbd:volL ((lens l).take (k+1))≤1000000000000 * 1001:=by rw [hs];exact Nat.mul_le_mul (by omega) (by omega)
  repeat' (first|refine d1 ?_|fail)
  rw [e]
  refine T_if rfl (fun h1=>?_) (fun h1=>?_)
  ·simp only [decide_eq_true_eq] at h1
   repeat' (first|refine d1 ?_|(show T _ (.code .ret::_) _ _ _;refine T_retV [] rfl (Hle.none _) ⟨by unfold capV;rw [if_neg (by omega)];rfl,rfl⟩))
  ·simp only [decide_eq_false_iff_not] at h1
   repeat' (first|refine d1 ?_|fail)
   exact T_backX (k+1) ⟨by omega,by omega⟩ (by omega)
 ·simp only [decide_eq_false_iff_not] at h
  obtain rfl:k=n:=by omega
  rw [List.take_of_length_le (by omega)] at hv ⊢
  repeat' (first|refine d1 ?_|(show T _ (.code .ret::_) _ _ _;refine T_retV [] rfl (Hle.none _) ⟨by unfold capV;rw [if_pos hv];rfl,rfl⟩))
def gridL (A:Option Addr) (n ca:Nat) (ls:List Nat) (j:Nat):List Value :=
 [.slice A n ca, .int .i64 (if j≤0 then stpL ls 0 else 0:Nat), .int .i64 (if j≤1 then stpL ls 1 else 0:Nat), .int .i64 (if j≤2 then stpL ls 2 else 0:Nat), .int .i64 (if j≤3 then stpL ls 3 else 0:Nat), .int .i64 (volL (ls.drop j):Nat)]
def gridM (A:Option Addr) (n ca:Nat) (ls:List Nat) (j v:Nat):List Value :=
 [.slice A n ca, .int .i64 (if j≤0 then stpL ls 0 else 0:Nat), .int .i64 (if j≤1 then stpL ls 1 else 0:Nat), .int .i64 (if j≤2 then stpL ls 2 else 0:Nat), .int .i64 (if j≤3 then stpL ls 3 else 0:Nat), .int .i64 (v:Nat)]
theorem newGrid_spec (A:Option Addr) (n ca:Nat) (l:List TS) (w:World) (hg:Grp w A n l) (h4:n≤4) (hv:volL (lens l)≤65536) :
  Spec Tryz.prog 101 [.slice A n ca] w (fun v R=>∃ g:Nat,True∧v = .pointer (some ⟨g,0,none⟩)∧R=[blk g (gridL A n ca (lens l) 0) 129]):=by
 have hn:=hg.hn
 have hll:=lens_len l
 have hz:∀ s,n≤s→stpL (lens l) s=0:=fun s hs=>by
  have:∀ (ls:List Nat) (s:Nat),ls.length≤s→stpL ls s=0:=by
   intro ls
   induction ls with
   | nil=>intro s _;rfl
   | cons a ls ih=>intro s h;cases s with
    | zero=>simp at h
    | succ s=>exact ih s (by simpa using h)
  exact this _ _ (by omega)
 refine spec_of sg Tryz.func101 rfl rfl rfl ?_
 repeat' (first|refine d1 ?_|(show ∀ _:Nat,T _ _ _ _ _;intro _))
 rename_i g
 refine T_loopX (fun j:Nat=>[(4, .int .i64 ((j:Int) - 1))]) (fun j=>[blk g (gridL A n ca (lens l) j) 129]) (fun j=>j≤n) (fun j=>j) n (Nat.le_refl _) ?_ (hG:=?_)
 ·rintro j hj
  repeat' (first|refine d1 ?_|fail)
  refine T_if rfl (fun h=>?_) (fun h=>?_)
  ·simp only [decide_eq_true_eq] at h
   obtain⟨s,rfl⟩:∃ s,j=s+1:=⟨j - 1,by omega⟩
   obtain⟨b,o,rfl⟩:=hg.hs.base (by omega)
   obtain⟨t,ht,htm,hr⟩:=hg.get (k:=s) (by omega)
   have htn:=hg.nb t htm
   rw [show ((s+1:Nat):Int) - 1=(s:Nat) by omega]
   have e1:volL ((lens l).drop s)=volL ((lens l).drop (s+1)) * (t.n+1):=volL_drop (lens_get ht)
   have e2:=stpL_drop (ls:=lens l) (s:=s) (by omega)
   have b1:=volL_dropLe (lens l) s
   have b2:=volL_dropLe (lens l) (s+1)
   have e3:((volL ((lens l).drop (s+1)):Nat):Int) * ((t.n:Int)+1)=(volL ((lens l).drop s):Nat):=by rw [e1];simp
   have hgl:∀ j,(gridL (some ⟨b,o,none⟩) n ca (lens l) j).length=6:=fun _=>rfl
   refine T_cutX 1 [] (fun _:Unit=>[]) (fun _=>[blk g ((gridL (some ⟨b,o,none⟩) n ca (lens l) (s+1)).set (0+1+(s:Int).toNat * 1) (.int .i64 (volL ((lens l).drop (s+1)):Nat))) 129]) (fun _=>True) ?_ ?_
   ·refine dw0 1000 [] ?_
    repeat' (first|(show T _ (.draw _ _ _ _ _::_) _ _ _;first|refine dw1 ?_|refine dwv rfl (by decide +kernel) rfl rfl (Val.nilc rfl) rfl rfl rfl ?_|refine dwb rfl (by decide +kernel) ?_)|(show AllL _ [];exact True.intro)|(show AllL _ (_::_);refine ⟨?_,?_⟩)|(show OpT _ _ _ _ _ _ _;first|refine dwx ?_|refine OpT.ofVal rfl (Val.nilc rfl) rfl rfl rfl ⟨fun _=>(by first|exact Hle.none _|exact Hle.sub|exact absurd ‹_› (by decide +kernel)),?_⟩|refine OpT.ofVal rfl (Val.load rfl (fun hg=>rdOwn1 rfl)) rfl rfl rfl ⟨fun _=>(by first|exact Hle.none _|exact Hle.sub|exact absurd ‹_› (by decide +kernel)),?_⟩|refine OpT.store rfl rfl rfl rfl (by rw [hgl];omega) ⟨fun _=>Hle.none _,?_⟩)|(show T _ (.mark _::_) _ _ _;exact T_meetX () trivial))
   rintro⟨⟩ _
   refine T_le (H':=[blk g (gridM (some ⟨b,o,none⟩) n ca (lens l) s (volL ((lens l).drop (s+1)))) 129]) ?_ ?_
   ·have e:(gridL (some ⟨b,o,none⟩) n ca (lens l) (s+1)).set (0+1+(s:Int).toNat * 1) (.int .i64 (volL ((lens l).drop (s+1)):Nat))=gridM (some ⟨b,o,none⟩) n ca (lens l) s (volL ((lens l).drop (s+1))):=by
     obtain rfl|rfl|rfl|rfl:s=0∨s=1∨s=2∨s=3:=by omega
     all_goals (simp [gridL,gridM];rw [e2];try simp)
    rw [e]
    exact Hle.refl _
   refine T_cutX 1 [] (fun _:Unit=>[]) (fun _=>[blk g (gridL (some ⟨b,o,none⟩) n ca (lens l) s) 129]) (fun _=>True) ?_ ?_
   ·refine dw0 1000 [] ?_
    repeat' (first|(show T _ (.draw _ _ _ _ _::_) _ _ _;first|refine dw1 ?_|refine dwv rfl (by decide +kernel) rfl rfl (Val.nilc rfl) rfl rfl rfl ?_|refine dwb rfl (by decide +kernel) ?_)|(show AllL _ [];exact True.intro)|(show AllL _ (_::_);refine ⟨?_,?_⟩)|(show OpT _ _ _ _ _ _ _;first|refine dwx ?_|refine OpT.ofVal rfl (Val.load rfl (fun hg=>rdOwn1 rfl)) rfl rfl rfl ⟨fun _=>(by first|exact Hle.none _|exact Hle.sub|exact absurd ‹_› (by decide +kernel)),?_⟩|refine OpT.ofVal rfl (Val.load rfl (fun hg=>rdOld hr)) rfl rfl rfl ⟨fun _=>(by first|exact Hle.none _|exact Hle.sub|exact absurd ‹_› (by decide +kernel)),?_⟩)|(show T _ (.mark _::_) _ _ _;exact T_meetX () trivial (hG:=by rw [e3];exact Hle.refl _)))
   rintro⟨⟩ _
   repeat' (first|refine d1 ?_|fail)
   exact T_backX s (by omega) (by omega)
  ·simp only [decide_eq_false_iff_not] at h
   obtain rfl:j=0:=by omega
   repeat' (first|refine d1 ?_|(show T _ (.code .ret::_) _ _ _;refine T_retV _ rfl (Hle.refl _) ⟨g,trivial,rfl,rfl⟩))
 ·have e:gridL A n ca (lens l) n=[.slice A n ca, .int .i64 0, .int .i64 0, .int .i64 0, .int .i64 0, .int .i64 1]:=by
   have h0:∀ s,(if n≤s then stpL (lens l) s else 0)=0:=fun s=>by split;exact hz s ‹_›;rfl
   unfold gridL
   rw [h0,h0,h0,h0,List.drop_of_length_le (by omega)];rfl
  rw [e]
  exact Hle.refl _
end Go.Proofs.YtblnhdnogjijiaaGreatDoor
namespace Go.Proofs.YtblnhdnogjijiaaGreatDoor
open Go.RowKit Go.Shelf Go.Proofs
set_option maxRecDepth 100000
set_option maxHeartbeats 1000000

theorem stpL_none:∀ {ls:List Nat} {s:Nat},ls.length≤s→stpL ls s=0
 | [],_,_=>rfl
 | _::_,0,h=>by simp at h
 | _::ls,s+1,h=>stpL_none (ls:=ls) (by simpa using h)
def atJ (v:List Nat) (s:Nat):List Value:=[.int .i64 (if 0<s then v.getD 0 0 else 0:Nat), .int .i64 (if 1<s then v.getD 1 0 else 0:Nat), .int .i64 (if 2<s then v.getD 2 0 else 0:Nat), .int .i64 (if 3<s then v.getD 3 0 else 0:Nat)]
def atV (v:List Nat):List Value:=[.int .i64 (v.getD 0 0:Nat), .int .i64 (v.getD 1 0:Nat), .int .i64 (v.getD 2 0:Nat), .int .i64 (v.getD 3 0:Nat)]
theorem atJ_all {v:List Nat} {n:Nat} (hv:v.length=n) (h4:n≤4):atJ v n=atV v:=by
 have h:∀ s,(if s<n then v.getD s 0 else 0)=v.getD s 0:=fun s=>by
  by_cases hs:s<n
  ·rw [if_pos hs]
  ·rw [if_neg hs,List.getD_eq_getElem?_getD,List.getElem?_eq_none (by omega)];rfl
 unfold atJ atV
 rw [h,h,h,h]
theorem gridL_stp (A:Option Addr) (n ca:Nat) (ls:List Nat) {s:Nat} (hs:s<4):(gridL A n ca ls 0)[1+s]?=some (.int .i64 (stpL ls s:Nat)):=by
 obtain rfl|rfl|rfl|rfl:s=0∨s=1∨s=2∨s=3:=by omega
 all_goals rfl
theorem at19_spec (A:Option Addr) (n ca:Nat) (l:List TS) (pg p:Nat) (w:World) (hg:Grp w A n l) (h4:n≤4) (hv:volL (lens l)≤65536) (hp:p<volL (lens l)) (hpg:RdC w pg 0 (gridL A n ca (lens l) 0)) :
  Spec Tryz.prog 162 [.pointer (some ⟨pg,0,none⟩), .int .i64 (p:Nat)] w (fun v R=>v = .agg (atV (atL (lens l) p)).toArray∧R=[]):=by
 have hn:=hg.hn
 have hll:=lens_len l
 have hal:=atL_len (lens l) p
 have hl0:RdC w pg 0 [.slice A n ca]:=fun j u hu=>by
  cases j with
  | zero=>simp at hu;subst hu;exact hpg 0 _ rfl
  | succ j=>simp at hu
 refine spec_of sg Tryz.func162 rfl rfl rfl ?_
 repeat' (first|refine d1 ?_|(show T _ (.ops _ (_::_)::_) _ _ _;refine T_val rfl (Val.nilc rfl) rfl rfl rfl ?_)|(show ∀ _:Nat,T _ _ _ _ _;intro _))
 rename_i p4 p5
 refine T_loopX (fun s:Nat=>[(12, .int .i64 (s:Nat))]) (fun s=>[blk p5 (atJ (atL (lens l) p) s) 127,blk p4 (atJ [] 0) 127]) (fun s=>s≤n) (fun s=>n - s) 0 (Nat.zero_le _) ?_
 rintro s hs
 repeat' (first|refine d1 ?_|fail)
 refine T_if rfl (fun h=>?_) (fun h=>?_)
 ·simp only [decide_eq_true_eq] at h
  have hsn:s<n:=by omega
  obtain⟨b,o,rfl⟩:=hg.hs.base (by omega)
  obtain⟨t,ht,htm,hr⟩:=hg.get (k:=s) hsn
  have htn:=hg.nb t htm
  have hsp:=stpL_pos (ls:=lens l) (s:=s) (by omega)
  have hsl:=stpL_le (ls:=lens l) (s:=s) (by omega)
  have hst:RdC w pg (0+1+(s:Int).toNat * 1) [.int .i64 (stpL (lens l) s:Nat)]:=fun j u hu=>by
   cases j with
   | zero=>simp at hu;subst hu;have:=hpg (1+s) _ (gridL_stp _ _ _ _ (by omega));rw [show 0+1+(s:Int).toNat * 1+0=0+(1+s) by omega];exact this
   | succ j=>simp at hu
  obtain⟨q,hq⟩:∃ q,q=p / stpL (lens l) s:=⟨_,rfl⟩
  have hdv:((p:Int) / (stpL (lens l) s:Nat))=(q:Int):=by rw [hq];simp
  have hat:=atL_get p (lens_get ht)
  have hdl:q≤p:=by rw [hq];exact Nat.div_le_self _ _
  rw [← hq] at hat
  have hrm:(q:Int) % ((t.n:Int)+1)=((atL (lens l) p).getD s 0:Nat):=by
   rw [List.getD_eq_getElem?_getD,hat];simp
  have hset:(atJ (atL (lens l) p) s).set (0+(s:Int).toNat * 1) (.int .i64 ((atL (lens l) p).getD s 0:Nat))=atJ (atL (lens l) p) (s+1):=by
   obtain rfl|rfl|rfl|rfl:s=0∨s=1∨s=2∨s=3:=by omega
   all_goals simp [atJ]
  have hjl:(atJ (atL (lens l) p) s).length=4:=rfl
  repeat' (first|refine d1 ?_|refine dd ?_|(show T _ (.run _ _ (_::_) _ _::_) _ _ _;refine rv rfl rfl rfl (Val.nilc rfl) rfl rfl rfl ?_)|fail)
  refine T_backX (s+1) (by omega) (by omega) (hG:=?_)
  rw [← hset, ← hrm, ← hdv]
  exact Hle.refl _
 ·simp only [decide_eq_false_iff_not] at h
  obtain rfl:s=n:=by omega
  rw [atJ_all (by omega) h4]
  repeat' (first|refine d1 ?_|fail)
  refine T_le (H':=[blk p4 (atV (atL (lens l) p)) 127]) (Hle.tail _ _) ?_
  exact T_retM (vs:=[.agg (atV (atL (lens l) p)).toArray]) [] ⟨⟨p4,_,atV (atL (lens l) p),rfl,rfl,rfl,rfl,(fun h=>by cases h),rfl,rdAll⟩,trivial⟩ (Hle.none _) ⟨rfl,rfl⟩
end Go.Proofs.YtblnhdnogjijiaaGreatDoor
namespace Go.Proofs.YtblnhdnogjijiaaGreatDoor
open Go.RowKit Go.Shelf Go.Proofs Go.Sort Go.Lib
set_option maxRecDepth 100000
set_option maxHeartbeats 1000000

structure MvAt (p:Frag) where
 v:Value
 m:List Nat
 rd:Rd (fr p) [v] [intsD (intN m)]
 ne:m≠[]
 le:m.length≤1000
theorem mvAt_list {p:Frag}:∀ {ms:List (List Nat)} {hs:List Value},Rd (fr p) hs (ms.map fun m=>intsD (intN m))→(∀ m∈ms,m≠[]∧m.length≤1000)→∃ L:List (MvAt p),L.map MvAt.v=hs∧L.map MvAt.m=ms
 | [],hs,h,_=>by cases h;exact⟨[],rfl,rfl⟩
 | m::ms,[],h,_=>by have:=h.length;simp at this
 | m::ms,x::hs,h,hm=>by
  obtain⟨h1,h2⟩:=h.cons_inv
  obtain⟨L,e1,e2⟩:=mvAt_list h2 fun k hk=>hm k (.tail _ hk)
  have hmm:=hm m (.head _)
  exact⟨⟨x,m,h1,hmm.1,hmm.2⟩::L,by rw [List.map_cons,e1],by rw [List.map_cons,e2]⟩
theorem mvAt_rd {p:Frag}:∀ L:List (MvAt p),Rd (fr p) (L.map MvAt.v) ((L.map MvAt.m).map fun m=>intsD (intN m))
 | [] => .nil
 | x::L=>x.rd.append (mvAt_rd L)
def cfM {p:Frag} (x y:MvAt p):Int:=cmpM x.m y.m
theorem cmpM_le {a b c:List Nat} (h1:¬ cmpM a b<0) (h2:¬ cmpM b c<0):¬ cmpM a c<0:=fun h=>by
 have a1:=cmpM_neg a b
 have a2:=cmpM_neg b c
 by_cases e1:cmpM a b=0
 ·rw [cmpM_zero e1] at h;exact h2 h
 ·by_cases e2:cmpM b c=0
  ·rw [← cmpM_zero e2] at h;exact h1 h
  ·have h3:=cmpM_trans (a:=b) (b:=a) (c:=c) (by omega) h
   exact h2 h3
theorem swoM (p:Frag):SWO (ltOf (cfM (p:=p))):=by
 refine ⟨fun x=>?_,fun x y z h1 h2=>?_,fun x y z h1 h2=>?_⟩
 ·unfold ltOf cfM
  rw [cmpM_self];rfl
 ·unfold ltOf cfM at *
  exact decide_eq_true (cmpM_trans (of_decide_eq_true h1) (of_decide_eq_true h2))
 ·unfold ltOf cfM at *
  exact decide_eq_false (cmpM_le (of_decide_eq_false h1) (of_decide_eq_false h2))
theorem sortM_spec {w0:World} {cap g n:Nat} {hs:List Value} {ms:List (List Nat)} {p:Frag} (hp:Rd (fr p) hs (ms.map fun m=>intsD (intN m))) (hn:ms.length=n) (h0:0<n) (hn2:n≤1000) (hms:∀ m∈ms,m≠[]∧m.length≤1000) :
  SpecB Tryz.prog 158 [.slice (some ⟨g,0,none⟩) n cap, .func (.func 159) #[] #[]] w0 [row 47 1 (some ⟨g,0,none⟩) cap n hs,fz p]
   (fun v R=>v = .tuple #[]∧∃ (hs':List Value) (ms':List (List Nat)),Rd (fr p) hs' (ms'.map fun m=>intsD (intN m))∧ms'.Perm ms∧(ms'.Pairwise fun a b=>¬ cmpM b a<0)∧R=[row 47 1 (some ⟨g,0,none⟩) cap n hs',fz p]):=by
 refine ⟨enters_of rfl rfl rfl,fun w hw=>?_⟩
 obtain⟨L,e1,e2⟩:=mvAt_list hp hms
 have hL:L.length=n:=by rw [← hn, ← e2,List.length_map]
 have:Inhabited (MvAt p):=⟨L[0]'(by omega)⟩
 have hw2:Cls w0 w [row 47 1 (some ⟨g,0,none⟩) cap n (L.toArray.toList.map MvAt.v),fz p]:=by rw [List.toList_toArray,e1];exact hw
 obtain⟨hH,hblk⟩:=sort_holds hw2 (by simpa using hL)
 have hcmp:CmpLays1 Tryz.prog 159 #[] (MvAt.v (p:=p)) cfM g 0 L.toArray.size w:=by
  intro k os dk hdk x y
  have hW:=sort_cls (d':=dk) (m:=k) (os:=os) hw2 (by simpa using hL) hdk
  obtain⟨A,ca,hxv,hx1,hx2,hx3⟩:=(x.rd.own hW).row1
  obtain⟨B,cb,hyv,hy1,hy2,hy3⟩:=(y.rd.own hW).row1
  have l1:(intN x.m).length=x.m.length:=by simp [intN]
  have l2:(intN y.m).length=y.m.length:=by simp [intN]
  have p1:=List.length_pos_iff.2 x.ne
  have p2:=List.length_pos_iff.2 y.ne
  have q1:=x.le
  have q2:=y.le
  obtain⟨ba,oa,rfl,hca⟩:=hx3 (by omega)
  obtain⟨bb,ob,rfl,hcb⟩:=hy3 (by omega)
  have hc:=moves1_calls (cmpM x.m y.m) ba oa ca bb ob cb (intN x.m) (intN y.m) (sortWorld (MvAt.v (p:=p)) w g 0 k dk os) (by omega) (by omega)
   (fun j hj=>hca j _ (by rw [List.getElem?_eq_getElem hj,List.getD_eq_getElem?_getD,List.getElem?_eq_getElem hj];rfl)) (fun j hj=>hcb j _ (by rw [List.getElem?_eq_getElem hj,List.getD_eq_getElem?_getD,List.getElem?_eq_getElem hj];rfl))
   (by rw [cmpLI_nat,l1,l2];rfl)
  rw [← hxv, ← hyv] at hc
  exact hc.mono fun e w' ⟨h1,h2⟩=>⟨h1,0, #[],by rw [h2,grow_empty];rfl⟩
 have hS:=Tryz.slices_SortFunc (MvAt.v (p:=p)) (fun x=>by obtain⟨A,ca,h,-⟩:=x.rd.row1;rw [h];rfl) cfM (swoM p) 159 #[] g 0 cap L.toArray w (enters_of rfl rfl rfl) hcmp hH hblk (by simp;omega)
 rw [show L.toArray.size=n by simpa using hL] at hS
 refine hS.mono fun e w' hh=>?_
 obtain⟨rfl,d',k,os,hpm,hso,rfl⟩:=hh
 obtain⟨hsz,hpe⟩:=permIn_all (d:=L.toArray) (by rw [show L.toArray.size=n by simpa using hL];exact hpm)
 have hso2:=sortedIn_all (d:=d') (by rw [hsz];simpa using hL) hso
 have hfin:=sort_cls (d':=d') (m:=k) (os:=os) hw2 (by simpa using hL) hsz
 refine ⟨.tuple #[],_,rfl,⟨rfl,d'.toList.map MvAt.v,d'.toList.map MvAt.m,mvAt_rd _,?_,?_,rfl⟩,hfin.below,hfin.sep⟩
 ·have:=hpe.map MvAt.m
  rw [List.toList_toArray,e2] at this
  exact this
 ·refine List.pairwise_map.2 (hso2.imp fun {a b} h=>?_)
  exact of_decide_eq_false h
end Go.Proofs.YtblnhdnogjijiaaGreatDoor
namespace Go.Proofs.YtblnhdnogjijiaaGreatDoor
open Go.RowKit Go.Shelf Go.Proofs
set_option maxRecDepth 100000
set_option maxHeartbeats 1000000

def allP (n c:Nat):List (List Nat):=((List.range c).map (bitsL n)).filter fun m => !m.isEmpty
theorem allP_all (n:Nat):allP n (2 ^ n)=allL n:=rfl
theorem allP_yes {n c:Nat} (h:0<(bitsL n c).length):allP n (c+1)=allP n c++[bitsL n c]:=by
 unfold allP
 rw [List.range_succ,List.map_append,List.filter_append]
 have:(bitsL n c).isEmpty=false:=by cases hb:bitsL n c with
  | nil=>rw [hb] at h;simp at h
  | cons a l=>rfl
 show _++List.filter _ [bitsL n c]=_
 rw [List.filter_cons,this];rfl
theorem allP_no {n c:Nat} (h:¬ 0<(bitsL n c).length):allP n (c+1)=allP n c:=by
 unfold allP
 rw [List.range_succ,List.map_append,List.filter_append]
 have:bitsL n c=[]:=List.eq_nil_of_length_eq_zero (by omega)
 show _++List.filter _ [bitsL n c]=_
 rw [this]
 exact List.append_nil _
def bitsP (c s:Nat):List Nat:=(List.range s).filter fun k=>c.testBit k
theorem bitsP_succ (c s:Nat):bitsP c (s+1)=bitsP c s++if c.testBit s=true then [s] else []:=by
 unfold bitsP
 rw [List.range_succ,List.filter_append,List.filter_cons]
 rfl
theorem bitsP_len (c s:Nat):(bitsP c s).length≤s:=by
 unfold bitsP
 have:=List.length_filter_le (fun k=>c.testBit k) (List.range s)
 rwa [List.length_range] at this
theorem allP_len (n c:Nat):(allP n c).length≤c:=by
 unfold allP
 have:=List.length_filter_le (fun m:List Nat => !m.isEmpty) ((List.range c).map (bitsL n))
 rwa [List.length_map,List.length_range] at this
theorem bit_law:∀ c:Nat,c<16→∀ s:Nat,s<4→decide (andV .i64 (shrV .i64 (c:Int) (s:Int)) 1=1)=Nat.testBit c s:=by decide +kernel
theorem shl_law {n:Nat} (h4:n≤4):shlV .i64 1 (n:Int)=((2 ^ n:Nat):Int):=by
 obtain rfl|rfl|rfl|rfl|rfl:n=0∨n=1∨n=2∨n=3∨n=4:=by omega
 all_goals decide +kernel
theorem mvL_none {n:Nat} (h:n<1∨4<n):mvL n=[]:=by
 match n,h with
 | 0,_=>rfl
 | 1,h=>omega
 | 2,h=>omega
 | 3,h=>omega
 | 4,h=>omega
 | n+5,_=>rfl
theorem intN_snoc (a:List Nat) (s:Nat):(intN (a++[s])).map (Value.int .i64)=(intN a).map (Value.int .i64)++flatP [(0, .int .i64 (s:Nat))]:=by unfold intN;rw [List.map_append,List.map_append];rfl
theorem moves19_spec (z:Int) (w:World):Spec Tryz.prog 102 [.int .i64 z] w (fun v R=>∃ x:Value,True∧v=x∧R=[dat [x] [rowsD ((mvL z.toNat).map intN)]]):=by
 refine spec_of sg Tryz.func102 rfl rfl rfl ?_
 repeat' (first|refine d1 ?_|fail)
 refine T_if rfl (fun h=>?_) (fun h=>?_)
 ·simp only [Bool.or_eq_true,decide_eq_true_eq] at h
  rw [mvL_none (by omega)]
  repeat' (first|refine d1 ?_|(show T _ (.code .ret::_) _ _ _;refine T_retV _ rfl (nilC _ |>.trans (Hle.nth 0 rfl)) ⟨_,trivial,rfl,rfl⟩))
 simp only [Bool.or_eq_false_iff,decide_eq_false_iff_not] at h
 obtain⟨n,rfl⟩:∃ n:Nat,z=n:=⟨z.toNat,by omega⟩
 have h1:1≤n:=by omega
 have h4:n≤4:=by omega
 rw [Int.toNat_natCast]
 have hpw:2 ^ n≤16:=by
  obtain rfl|rfl|rfl|rfl:n=1∨n=2∨n=3∨n=4:=by omega
  all_goals decide
 repeat' (first|refine d1 ?_|(show T _ (.ops _ (_::_)::_) _ _ _;refine T_val rfl (Val.bits rfl (fun _=>by omega)) rfl rfl rfl ?_)|fail)
 rw [shl_law h4]
 refine T_le (dat_nil _) ?_
 refine T_nilrow 47 1 ?_
 refine T_loopX (fun s:Nat × (Option Addr × Nat) × List Value=>[(15, .int .i64 (s.1:Nat)),(3, .slice s.2.1.1 (allP n s.1).length s.2.1.2)]) (fun s=>[row 47 1 s.2.1.1 s.2.1.2 (allP n s.1).length s.2.2,dat s.2.2 (((allP n s.1).map intN).map intsD)]) (fun s=>s.1≤2 ^ n∧(0<(allP n s.1).length→∃ g,s.2.1.1=some ⟨g,0,none⟩)) (fun s=>2 ^ n - s.1) (0,(none,0),[]) ⟨Nat.zero_le _,fun h=>absurd h (Nat.lt_irrefl 0)⟩ ?_
 rintro⟨c,⟨A,cap⟩,hs⟩ ⟨hc,hA⟩
 dsimp only at hc hA ⊢
 have hal:=allP_len n c
 repeat' (first|refine d1 ?_|fail)
 refine T_if rfl (fun h2=>?_) (fun h2=>?_)
 ·simp only [decide_eq_true_eq] at h2
  have hcn:c<2 ^ n:=by omega
  repeat' (first|refine d1 ?_|fail)
  refine T_nilrow 3 1 ?_
  refine T_loopX (fun s:Nat × (Option Addr × Nat)=>[(19, .int .i64 (s.1:Nat)),(5, .slice s.2.1 (bitsP c s.1).length s.2.2)]) (fun s=>[row 3 1 s.2.1 s.2.2 (bitsP c s.1).length ((intN (bitsP c s.1)).map (Value.int .i64)),row 47 1 A cap (allP n c).length hs,dat hs (((allP n c).map intN).map intsD)]) (fun s=>s.1≤n) (fun s=>n - s.1) (0,(none,0)) (Nat.zero_le _) ?_
  rintro⟨s,⟨A5,cap5⟩⟩ hsn
  dsimp only at hsn ⊢
  have hbl:=bitsP_len c s
  repeat' (first|refine d1 ?_|fail)
  refine T_if rfl (fun h3=>?_) (fun h3=>?_)
  ·simp only [decide_eq_true_eq] at h3
   have hbit:=bit_law c (by omega) s (by omega)
   have hsu:=bitsP_succ c s
   repeat' (first|refine d1 ?_|(show T _ (.ops _ (_::_)::_) _ _ _;first|refine T_val rfl (Val.bits rfl (fun _=>by omega)) rfl rfl rfl ?_|refine T_val rfl (Val.bits rfl (fun _=>trivial)) rfl rfl rfl ?_)|fail)
   rw [hbit]
   refine T_if rfl (fun h5=>?_) (fun h5=>?_)
   ·rw [if_pos h5] at hsu
    repeat' (first|refine d1 ?_|(show T _ (.ops _ (_::_)::_) _ _ _;refine T_op (OpT.append (A:=A5) rfl rfl rfl rfl rfl rfl rfl rfl rfl rfl (fun w hw=>Src.own hw rfl) rfl (by dsimp only;omega) (by omega) (fun A' cap' hA'=>?_)))|(show ∀ _:Nat,T _ _ _ _ _;intro _))
    refine T_backX (s+1,(A',cap')) (by dsimp only;omega) (by dsimp only;omega) (hE:=⟨rfl,by dsimp only;rw [hsu,List.length_append];rfl,trivial⟩) (hG:=?_)
    dsimp only
    rw [hsu,List.length_append,intN_snoc,show [s].length=1 from rfl]
    exact Hle.srt
   ·rw [if_neg (by rw [h5];simp),List.append_nil] at hsu
    repeat' (first|refine d1 ?_|fail)
    exact T_backX (s+1,(A5,cap5)) (by dsimp only;omega) (by dsimp only;omega) (hE:=⟨rfl,by dsimp only;rw [hsu];rfl,trivial⟩) (hG:=by dsimp only;rw [hsu];exact Hle.refl _)
  ·simp only [decide_eq_false_iff_not] at h3
   obtain rfl:s=n:=by omega
   have hbe:bitsP c s=bitsL s c:=rfl
   rw [hbe] at hbl ⊢
   repeat' (first|refine d1 ?_|fail)
   refine T_if rfl (fun h5=>?_) (fun h5=>?_)
   ·simp only [decide_eq_true_eq] at h5
    have hsu:=allP_yes (n:=s) (c:=c) (by omega)
    repeat' (first|refine d1 ?_|(show T _ (.ops _ (_::_)::_) _ _ _;refine T_op (OpT.append (A:=A) rfl rfl rfl rfl rfl rfl rfl rfl rfl rfl (fun w hw=>Src.own hw rfl) rfl (by dsimp only;omega) (by omega) (fun A' cap' hA'=>?_)))|(show ∀ _:Nat,T _ _ _ _ _;intro _))
    refine T_backX (c+1,(A',cap'),hs++[.slice A5 (bitsL s c).length cap5]) ⟨by dsimp only;omega,fun _=>hA' (by omega)⟩ (by dsimp only;omega) (hE:=⟨rfl,by dsimp only;rw [hsu,List.length_append];rfl,trivial⟩) (hG:=?_)
    dsimp only
    rw [hsu,List.length_append,List.map_append,show [bitsL s c].length=1 from rfl,show [bitsL s c].map intN=[intN (bitsL s c)] from rfl]
    exact (Hle.srt (K:=[row 3 1 A5 cap5 (bitsL s c).length ((intN (bitsL s c)).map (Value.int .i64)),dat hs (((allP s c).map intN).map intsD),row 47 1 A' cap' ((allP s c).length+1) (hs++flatP [(0, .slice A5 (bitsL s c).length cap5)])])).trans (out_hle (cl:=intN (bitsL s c)) rfl)
   ·simp only [decide_eq_false_iff_not] at h5
    have hsu:=allP_no (n:=s) (c:=c) (by omega)
    repeat' (first|refine d1 ?_|fail)
    exact T_backX (c+1,(A,cap),hs) ⟨by dsimp only;omega,by dsimp only;rw [hsu];exact hA⟩ (by dsimp only;omega) (hE:=⟨rfl,by dsimp only;rw [hsu];rfl,trivial⟩) (hG:=by dsimp only;rw [hsu];exact Hle.tail _ _)
 ·simp only [decide_eq_false_iff_not] at h2
  obtain rfl:c=2 ^ n:=by omega
  rw [allP_all] at hal hA ⊢
  have hpos:0<(allL n).length:=by
   rw [(allL_perm h1 h4).length_eq]
   obtain rfl|rfl|rfl|rfl:n=1∨n=2∨n=3∨n=4:=by omega
   all_goals decide
  obtain⟨g,rfl⟩:=hA hpos
  have hms:∀ m∈allL n,m≠[]∧m.length≤1000:=fun m hm=>by
   have h9:=(allL_perm h1 h4).mem_iff.1 hm
   refine ⟨(mvL_ok h1 h4).ne m h9,?_⟩
   have h8:=pigeon2 n m ((mvL_ok h1 h4).nd m h9) ((mvL_ok h1 h4).lt m h9)
   omega
  refine T_le (Hle.perm (List.Perm.swap _ _ _)) ?_
  refine T_open fun p hp=>?_
  refine T_le (Hle.perm (List.Perm.swap _ _ _)) ?_
  have hp2:Rd (fr p) hs ((allL n).map fun m=>intsD (intN m)):=by rw [List.map_map] at hp;exact hp
  repeat' (first|refine d1 ?_|(show T _ (.ops _ (_::_)::_) _ _ _;refine T_op (OpT.callB rfl rfl rfl rfl rfl (sortM_spec hp2 rfl hpos (by omega) hms) (fun u R hR=>?_)))|fail)
  obtain⟨rfl,hs',ms',hp3,hpe,hso,rfl⟩:=hR
  obtain rfl:=mvL_sorted h1 h4 hpe hso
  have hl:(allL n).length=(mvL n).length:=(allL_perm h1 h4).length_eq
  rw [hl]
  have hp4:Rd (fr p) hs' (((mvL n).map intN).map intsD):=by rw [List.map_map];exact hp3
  refine T_le (Hle.weaken (i:=1) rfl (fz_dat hp4) rfl) ?_
  repeat' (first|(show T _ (.code .ret::_) _ _ _;refine T_retV _ rfl dat_row ⟨_,trivial,rfl,by rfl⟩))
end Go.Proofs.YtblnhdnogjijiaaGreatDoor
namespace Go.Proofs.YtblnhdnogjijiaaGreatDoor
open Go.RowKit Go.Shelf Go.Proofs
set_option maxRecDepth 100000
set_option maxHeartbeats 1000000

theorem moves19_fn (pg p:Nat) (Am:Option Addr) (nm cm:Nat) (w:World):Spec Tryz.prog 103 [.pointer (some ⟨pg,0,none⟩), .slice Am nm cm, .int .i64 (p:Nat)] w
  (fun v R=>∃ g:Nat × Nat × Nat,True∧v = .func (.func 161) #[] #[.pointer (some ⟨g.1,0,none⟩), .pointer (some ⟨g.2.1,0,none⟩), .pointer (some ⟨g.2.2,0,none⟩)]∧R=[blk g.2.1 [.int .i64 (p:Nat)] 3,blk g.2.2 [.slice Am nm cm] 30,blk g.1 [.pointer (some ⟨pg,0,none⟩)] 123]):=by
 refine spec_of sg Tryz.func103 rfl rfl rfl ?_
 refine T_op (OpT.box (cs:=[.pointer (some ⟨pg,0,none⟩)]) rfl rfl rfl rfl rfl rfl rfl (fun g1=>?_))
 refine T_op (OpT.box (cs:=[.slice Am nm cm]) rfl rfl rfl rfl rfl rfl rfl (fun g3=>?_))
 refine T_op (OpT.box (cs:=[.int .i64 (p:Nat)]) rfl rfl rfl rfl rfl rfl rfl (fun g2=>?_))
 repeat' (first|refine d1 ?_|(show T _ (.code .ret::_) _ _ _;refine T_retV _ rfl (Hle.refl _) ⟨(g1,g2,g3),trivial,rfl,rfl⟩))
def posL (ls v:List Nat) (Ms:List (List Nat)):List (List Nat):=Ms.filter (possM ls v)
theorem posL_yes {ls v m:List Nat} {Ms:List (List Nat)} {i:Nat} (h:Ms[i]?=some m) (hp:possM ls v m=true):posL ls v (Ms.take (i+1))=posL ls v (Ms.take i)++[m]:=by
 unfold posL
 rw [take_snoc _ _ _ h,List.filter_append,List.filter_cons,hp];rfl
theorem posL_no {ls v m:List Nat} {Ms:List (List Nat)} {i:Nat} (h:Ms[i]?=some m) (hp:possM ls v m=false):posL ls v (Ms.take (i+1))=posL ls v (Ms.take i):=by
 unfold posL
 rw [take_snoc _ _ _ h,List.filter_append,List.filter_cons,hp]
 exact List.append_nil _
theorem posL_get {ls v m:List Nat} {Ms:List (List Nat)} {i:Nat} (h:Ms[i]?=some m) (hp:possM ls v m=true):(posL ls v Ms)[(posL ls v (Ms.take i)).length]?=some m:=by
 have h1:posL ls v Ms=posL ls v (Ms.take (i+1))++posL ls v (Ms.drop (i+1)):=by
  unfold posL
  rw [← List.filter_append,List.take_append_drop]
 rw [h1,posL_yes h hp,List.append_assoc,List.getElem?_append_right (Nat.le_refl _),Nat.sub_self];rfl
def QM (n:Nat) (ls v:List Nat) (j:Nat) (x:List Value) (B:List HA):Prop :=
 ∃ m b,(posL ls v (mvL n))[j]?=some m∧x=[.slice (some ⟨b,0,none⟩) n n, .int .i64 (numL ls (toM v m):Nat)]∧B=[row 3 1 (some ⟨b,0,none⟩) n n ((colT v m).map (Value.int .i64))]
theorem colMv_snoc (v:List Nat):∀ (m:List Nat) (s:Nat) (c:List Int),colMv v (m++[s]) c=(colMv v m c).set s (v.getD s 0:Nat)
 | [],s,c=>rfl
 | u::m,s,c=>by
  show colMv v (m++[s]) _=_
  rw [colMv_snoc v m s];rfl
theorem possM_snoc (ls v m:List Nat) (s:Nat):possM ls v (m++[s])=(possM ls v m && decide (v.getD s 0<ls.getD s 0)):=by
 unfold possM
 rw [List.all_append];simp
theorem sum_stp {ls:List Nat}:∀ m:List Nat,(m.map (stpL ls)).sum≤m.length * volL ls
 | []=>Nat.zero_le _
 | s::m=>by
  have h:=sum_stp (ls:=ls) m
  have h2:stpL ls s≤volL ls:=by
   by_cases hs:s<ls.length
   ·exact stpL_le hs
   ·rw [stpL_none (by omega)];exact Nat.zero_le _
  rw [List.map_cons,List.sum_cons,List.length_cons,Nat.add_mul];omega
theorem atV_get (v:List Nat) {s:Nat} (hs:s<4):(atV v)[s]?=some (.int .i64 (v.getD s 0:Nat)):=by
 obtain rfl|rfl|rfl|rfl:s=0∨s=1∨s=2∨s=3:=by omega
 all_goals rfl
theorem moves_iter {w0:World} {A:Option Addr} {n ca:Nat} {l:List TS} (hg:Grp w0 A n l) (h1:1≤n) (h4:n≤4) (hv:volL (lens l)≤65536) {p:Nat} (hp:p<volL (lens l)) (pg p1 p2 p3:Nat) {M:Value} {pm:Frag} (hM:Rd (fr pm) [M] [rowsD ((mvL n).map intN)]) :
  IterO Tryz.prog w0 161 [] [.pointer (some ⟨p1,0,none⟩), .pointer (some ⟨p2,0,none⟩), .pointer (some ⟨p3,0,none⟩)]
   [blk p2 [.int .i64 (p:Nat)] 3,blk p3 [M] 30,blk p1 [.pointer (some ⟨pg,0,none⟩)] 123,blk pg (gridL A n ca (lens l) 0) 129,fz pm]
   (QM n (lens l) (atL (lens l) p)) (posL (lens l) (atL (lens l) p) (mvL n)).length:=by
 have hn:=hg.hn
 have hll:=lens_len l
 have hvl:=atL_len (lens l) p
 have hmo:=mvL_ok h1 h4
 obtain⟨Am,cm,csm,rfl,hm1,hm2,hml,hmr,hrows⟩:=hM.tab
 rw [List.length_map] at hm1 hml hmr
 have hm15:(mvL n).length≤15:=by
  obtain rfl|rfl|rfl|rfl:n=1∨n=2∨n=3∨n=4:=by omega
  all_goals decide
 refine iterO_of sg Tryz.func161 rfl rfl rfl ?_
 intro l' GQ X Hj hY h0
 rw [List.length_map]
 show T _ _ _ _ (blk p2 [.int .i64 (p:Nat)] 3::blk p3 [.slice Am (mvL n).length cm] 30::blk p1 [.pointer (some ⟨pg,0,none⟩)] 123::blk pg (gridL A n ca (lens l) 0) 129::fz pm::Hj)
 repeat' (first|refine d1 ?_|(show T _ (.ops _ (_::_)::_) _ _ _;refine T_call rfl rfl rfl rfl rfl (fun w hw=>at19_spec A n ca l pg p w (hg.cls hw) h4 hv hp (rdAll w hw)) ?_)|(show ∀ _:Nat,T _ _ _ _ _;intro _))
 rename_i p5
 refine T_loopX (fun s:Nat × List HA=>[(18, .int .i64 (s.1:Nat))]) (fun s=>blk p5 (atV (atL (lens l) p)) 127::blk p2 [.int .i64 (p:Nat)] 3::blk p3 [.slice Am (mvL n).length cm] 30::blk p1 [.pointer (some ⟨pg,0,none⟩)] 123::blk pg (gridL A n ca (lens l) 0) 129::fz pm::s.2) (fun s=>s.1≤(mvL n).length∧GQ (posL (lens l) (atL (lens l) p) ((mvL n).take s.1)).length s.2) (fun s=>(mvL n).length - s.1) (0,Hj) ⟨Nat.zero_le _,h0⟩ ?_
 rintro⟨i,H1⟩ ⟨hi,hG⟩
 dsimp only at hi hG ⊢
 repeat' (first|refine d1 ?_|fail)
 refine T_if rfl (fun h=>?_) (fun h=>?_)
 ·simp only [decide_eq_true_eq] at h
  obtain⟨m,hm⟩:∃ m,(mvL n)[i]?=some m:=⟨_,List.getElem?_eq_getElem (by omega)⟩
  have hmm:=List.mem_of_getElem? hm
  have hml4:=pigeon2 n m (hmo.nd m hmm) (hmo.lt m hmm)
  obtain⟨b,o,rfl,hrd⟩:=hmr (by omega)
  obtain⟨Ar,capr,hcs,hr1,hr2,hAr⟩:=hrows.tabRow (i:=i) (r:=intN m) (by rw [List.getElem?_map,hm];rfl)
  rw [show (intN m).length=m.length by unfold intN;rw [List.length_map]] at hcs hr1 hAr
  have hmpos:0<m.length:=List.length_pos_iff.2 (hmo.ne m hmm)
  obtain⟨br,orr,rfl,hAr9⟩:=hAr hmpos
  repeat' (first|refine d1 ?_|(show T _ (.ops _ (_::_)::_) _ _ _;refine T_val rfl (Val.load rfl (fun hg=>rdFz (p:=pm) (u := .slice (some ⟨br,orr,none⟩) m.length capr) (b:=b) (by rw [off1];exact hrd i _ hcs))) rfl rfl rfl ?_)|fail)
  refine rsH [blk p5 (atV (atL (lens l) p)) 127,blk p2 [.int .i64 (p:Nat)] 3,blk p3 [.slice (some ⟨b,o,none⟩) (mvL n).length cm] 30,blk p1 [.pointer (some ⟨pg,0,none⟩)] 123,blk pg (gridL A n ca (lens l) 0) 129,fz pm] 1000 [1,2,3,4,5,7,0,6,8,9,10] ?_
  repeat' (first|refine dd ?_|(show T _ (.run _ _ (_::_) _ _::_) _ _ _;first|refine rv rfl rfl rfl (Val.nilc rfl) rfl rfl rfl ?_|refine ro rfl rfl (OpT.litW rfl rfl rfl rfl rfl rfl rfl rfl rfl rfl rfl (fun b3=>⟨fun _=>Hle.sub,?_⟩))|refine ro rfl rfl (OpT.call rfl rfl rfl rfl rfl (fun w hw=>repeatI_spec (-1) (some ⟨_,0,none⟩) 1 n w (Src.own hw rfl) (by omega)) (fun u R hR=>?_)))|fail)
  obtain⟨bz,-,rfl,rfl⟩:=hR
  refine ⟨fun _=>(Hle.tail _ _).trans ((Hle.tail _ _).trans (Hle.append_left (A:=[blk p5 (atV (atL (lens l) p)) 127,blk p2 [.int .i64 (p:Nat)] 3,blk p3 [.slice (some ⟨b,o,none⟩) (mvL n).length cm] 30,blk p1 [.pointer (some ⟨pg,0,none⟩)] 123,blk pg (gridL A n ca (lens l) 0) 129,fz pm]) H1)),?_⟩
  show T _ _ _ _ (row 3 1 (some ⟨bz,0,none⟩) n n (List.replicate n (.int .i64 (-1)))::blk _ _ _::blk p5 (atV (atL (lens l) p)) 127::blk p2 [.int .i64 (p:Nat)] 3::blk p3 [.slice (some ⟨b,o,none⟩) (mvL n).length cm] 30::blk p1 [.pointer (some ⟨pg,0,none⟩)] 123::blk pg (gridL A n ca (lens l) 0) 129::fz pm::H1)
  repeat' (first|refine d1 ?_|refine dd ?_|fail)
  have hz0:List.replicate n (Value.int .i64 (-1))=(colMv (atL (lens l) p) (m.take 0) (List.replicate n (-1))).map (Value.int .i64):=by rw [List.take_zero];unfold colMv;rw [List.map_replicate]
  rw [hz0]
  refine T_loopX (fun s:Nat=>[(32, .int .i64 (s:Nat)),(9, .int .i64 ((p+((m.take s).map (stpL (lens l))).sum:Nat):Int)),(10, .bool (possM (lens l) (atL (lens l) p) (m.take s)))]) (fun s=>row 3 1 (some ⟨bz,0,none⟩) n n ((colMv (atL (lens l) p) (m.take s) (List.replicate n (-1))).map (Value.int .i64))::blk p5 (atV (atL (lens l) p)) 127::blk p2 [.int .i64 (p:Nat)] 3::blk p3 [.slice (some ⟨b,o,none⟩) (mvL n).length cm] 30::blk p1 [.pointer (some ⟨pg,0,none⟩)] 123::blk pg (gridL A n ca (lens l) 0) 129::fz pm::H1) (fun s=>s≤m.length) (fun s=>m.length - s) 0 (Nat.zero_le _) ?_ (hG:=Hle.drop2 _ _ _)
  rintro s hs
  repeat' (first|refine d1 ?_|fail)
  refine T_if rfl (fun h5=>?_) (fun h5=>?_)
  ·simp only [decide_eq_true_eq] at h5
   obtain⟨u,hu⟩:∃ u,m[s]?=some u:=⟨_,List.getElem?_eq_getElem (by omega)⟩
   have hun:=hmo.lt m hmm u (List.mem_of_getElem? hu)
   have htk:=take_snoc _ _ _ hu
   obtain⟨ba,oa,rfl⟩:=hg.hs.base (by omega)
   obtain⟨t,ht,htm,htr⟩:=hg.get (k:=u) hun
   have htn:=hg.nb t htm
   have hsl:=stpL_le (ls:=lens l) (s:=u) (by omega)
   have hsum:=sum_stp (ls:=lens l) (m.take s)
   have hlt4:(m.take s).length≤4:=by rw [List.length_take];omega
   have hms:=Nat.mul_le_mul hlt4 hv
   have hst:∀ w,RdC w pg 0 (gridL (some ⟨ba,oa,none⟩) n ca (lens l) 0)→RdC w pg (0+1+(u:Int).toNat * 1) [.int .i64 (stpL (lens l) u:Nat)]:=fun w hpg=>RdC.one (by have:=hpg (1+u) _ (gridL_stp _ _ _ _ (by omega));rw [show 0+1+(u:Int).toNat * 1=0+(1+u) by omega];exact this)
   have hat:∀ w,RdC w p5 0 (atV (atL (lens l) p))→RdC w p5 (0+(u:Int).toNat * 1) [.int .i64 ((atL (lens l) p).getD u 0:Nat)]:=fun w hp5=>RdC.one (by have:=hp5 u _ (atV_get _ (by omega));rw [show 0+(u:Int).toNat * 1=0+u by omega];exact this)
   have hmu:fr pm br (orr+(s:Int).toNat * 1)=some (.int .i64 (u:Nat)):=by rw [off1];exact hAr9 s _ (by unfold intN;rw [List.getElem?_map,hu];rfl)
   repeat' (first|refine d1 ?_|refine dd ?_|(show T _ (.ops _ (_::_)::_) _ _ _;first|refine T_val rfl (Val.nilc rfl) rfl rfl rfl ?_|refine T_val rfl (Val.load rfl (fun hg=>rdFz (p:=pm) hmu)) rfl rfl rfl ?_|refine T_val rfl (Val.load rfl (fun hg=>(fun w hw=>hat w (rdAll w hw)))) rfl rfl rfl ?_|refine T_val rfl (Val.load rfl (fun hg=>(fun w hw=>hst w (rdAll w hw)))) rfl rfl rfl ?_|refine T_op (OpT.storeR (us:=[.int .i64 ((atL (lens l) p).getD u 0:Nat)]) rfl rfl rfl rfl rfl rfl (by show 0+(u:Int).toNat * 1+1≤n * 1;omega) ?_))|(show T _ (.run _ _ (_::_) _ _::_) _ _ _;first|refine rg rfl rfl rfl (Val.nilc rfl) rfl rfl rfl rfl rfl ?_|refine rg rfl rfl rfl (Val.load rfl (fun hg=>(fun w hw=>hat w (rdAll w hw)))) rfl rfl rfl rfl rfl ?_)|fail)
   have h9:((p+((m.take (s+1)).map (stpL (lens l))).sum:Nat):Int)=((p+((m.take s).map (stpL (lens l))).sum:Nat):Int)+(stpL (lens l) u:Nat):=by rw [htk,List.map_append,List.sum_append];simp;omega
   have hgl:(lens l).getD u 0=t.n:=by rw [List.getD_eq_getElem?_getD,lens_get ht];rfl
   have h10:possM (lens l) (atL (lens l) p) (m.take (s+1))=(possM (lens l) (atL (lens l) p) (m.take s) && decide ((((atL (lens l) p).getD u 0:Nat):Int)<(t.n:Nat))):=by
    rw [htk,possM_snoc,hgl,decide_eq_decide.2 (show (atL (lens l) p).getD u 0<t.n↔(((atL (lens l) p).getD u 0:Nat):Int)<(t.n:Nat) by omega)]
   refine T_backX (s+1) (by omega) (by omega) (hE:=⟨rfl,by rw [h9];rfl,by rw [h10];rfl,trivial⟩) (hG:=?_)
   rw [htk,colMv_snoc,List.map_set,show 0+(u:Int).toNat * 1=u by omega]
   exact Hle.refl _
  ·simp only [decide_eq_false_iff_not] at h5
   obtain rfl:s=m.length:=by omega
   rw [List.take_length]
   have hnm:p+(m.map (stpL (lens l))).sum=numL (lens l) (toM (atL (lens l) p) m):=by rw [toM_num _ _ _ hvl (fun s hs=>by rw [hvl,hll,hn];exact hmo.lt m hmm s hs),num_at _ _ hp]
   have hct:colMv (atL (lens l) p) m (List.replicate n (-1))=colT (atL (lens l) p) m:=by unfold colT;rw [hvl,hll,hn]
   rw [hnm,hct]
   cases hpo:possM (lens l) (atL (lens l) p) m with
   | true =>
    have hpg:=posL_get hm hpo
    have hy:=posL_yes hm hpo
    repeat' (first|refine d1 ?_|(show T _ (.ops _ (_::_)::_) _ _ _;refine T_op (OpT.yieldO [row 3 1 (some ⟨bz,0,none⟩) n n ((colT (atL (lens l) p) m).map (Value.int .i64))] [blk p5 (atV (atL (lens l) p)) 127,blk p2 [.int .i64 (p:Nat)] 3,blk p3 [.slice (some ⟨b,o,none⟩) (mvL n).length cm] 30,blk p1 [.pointer (some ⟨pg,0,none⟩)] 123,blk pg (gridL A n ca (lens l) 0) 129,fz pm] hY rfl rfl (Holds.of1 rfl rfl rfl) rfl rfl rfl (List.getElem?_eq_some_iff.1 hpg).1 ⟨m,bz,hpg,rfl,rfl⟩ hG (Hle.comm [_,_,_,_,_,_,_] H1) (fun H2 hG2=>?_) (fun Y hX=>?_)))|fail)
    ·show T _ _ _ _ (blk p5 (atV (atL (lens l) p)) 127::blk p2 [.int .i64 (p:Nat)] 3::blk p3 [.slice (some ⟨b,o,none⟩) (mvL n).length cm] 30::blk p1 [.pointer (some ⟨pg,0,none⟩)] 123::blk pg (gridL A n ca (lens l) 0) 129::fz pm::H2)
     skip
     refine T_if rfl (fun h3=>by exfalso;simp at h3) (fun _=>?_)
     repeat' (first|refine d1 ?_|fail)
     exact T_backX (i+1,H2) ⟨by dsimp only;omega,by dsimp only;rw [hy,List.length_append];exact hG2⟩ (by dsimp only;omega)
    ·show T _ _ _ _ (blk p5 (atV (atL (lens l) p)) 127::blk p2 [.int .i64 (p:Nat)] 3::blk p3 [.slice (some ⟨b,o,none⟩) (mvL n).length cm] 30::blk p1 [.pointer (some ⟨pg,0,none⟩)] 123::blk pg (gridL A n ca (lens l) 0) 129::fz pm::Y)
     skip
     refine T_if rfl (fun _=>?_) (fun h3=>by exfalso;simp at h3)
     repeat' (first|(show T _ (.code .ret::_) _ _ _;refine T_istop rfl Y hX (Hle.tail _ _)))
   | false =>
    have hy:=posL_no hm hpo
    repeat' (first|refine d1 ?_|(show T _ (.ops _ (_::_)::_) _ _ _;refine T_op (OpT.never (.bool false) rfl (fun hg9=>by have h10:(false:Bool)=true:=hg9.1;cases h10) rfl rfl rfl rfl rfl ?_))|fail)
    refine T_if rfl (fun h3=>by exfalso;simp at h3) (fun _=>?_)
    repeat' (first|refine d1 ?_|fail)
    exact T_backX (i+1,H1) ⟨by dsimp only;omega,by dsimp only;rw [hy];exact hG⟩ (by dsimp only;omega) (hG:=Hle.tail _ _)
 ·simp only [decide_eq_false_iff_not] at h
  obtain rfl:i=(mvL n).length:=by omega
  rw [List.take_length] at hG
  skip
  exact T_ifall rfl H1 hG (Hle.tail _ _)
end Go.Proofs.YtblnhdnogjijiaaGreatDoor
namespace Go.Proofs.YtblnhdnogjijiaaGreatDoor
open Go.RowKit Go.Shelf Go.Proofs
set_option maxRecDepth 100000
set_option maxHeartbeats 1000000

theorem colT_ok {l:List TS} {v m:List Nat} (hv:v.length=l.length) (hm:∀ s∈m,s<l.length) (hp:possM (lens l) v m=true):ColOk l (colT v m):=by
 refine ⟨by rw [colT_len,hv],fun j z s hz hs=>?_⟩
 have hj:j<v.length:=by rw [hv];exact (List.getElem?_eq_some_iff.1 hs).1
 have h1:=colT_get (v:=v) (m:=m) hj
 rw [List.getD_eq_getElem?_getD,hz] at h1
 have h1':z=if j∈m then ((v.getD j 0:Nat):Int) else -1:=h1
 by_cases hjm:j∈m
 ·rw [if_pos hjm] at h1'
  have h2:=possM_iff.1 hp j hjm
  rw [show (lens l).getD j 0=s.n by rw [List.getD_eq_getElem?_getD,lens_get hs];rfl] at h2
  omega
 ·rw [if_neg hjm] at h1'
  omega
theorem foldB_ub {p:List Nat→Bool} {f:List Nat→Int} {B:Int} (hf:∀ m,f m≤B):∀ (ms:List (List Nat)) (a:Int),a≤B→foldB p f ms a≤B
 | [],a,h=>h
 | m::ms,a,h=>by
  show foldB p f ms (cond (p m) (bst a (f m)) a)≤B
  refine foldB_ub hf ms _ ?_
  have h1:=hf m
  have h2:=(bst_le (a:=a) (x:=f m)).2
  cases p m with
  | false=>exact h
  | true=>show bst a (f m)≤B;omega
theorem rsM_ub {K:List Int→Int} {B:Int} (h0:0≤B) (hK:∀ x,K x≤B) (ls:List Nat) (Ms:List (List Nat)):∀ f v,rsM K ls Ms f v≤B * f
 | 0,v=>by unfold rsM;simp
 | f+1,v=>by
  have h1:0≤B * (f+1:Nat):=Int.mul_nonneg h0 (by omega)
  have h2:=foldB_ub (p:=possM ls v) (f:=fun m=>K (colT v m)+rsM K ls Ms f (toM v m)) (B:=B * (f+1:Nat)) (fun m=>by
   have h3:=hK (colT v m)
   have h4:=rsM_ub h0 hK ls Ms f (toM v m)
   have h5:B * ((f+1:Nat):Int)=B * f+B:=by rw [show ((f+1:Nat):Int)=(f:Int)+1 by omega,Int.mul_add,Int.mul_one]
   omega) Ms (-1) (by omega)
  unfold rsM
  omega
theorem sumL_lens {l:List TS} (h:∀ t∈l,t.n≤1000):sumL (lens l)≤1000 * l.length:=by
 induction l with
 | nil=>exact Nat.zero_le _
 | cons t l ih =>
  have h1:=h t (.head _)
  have h2:=ih fun x hx=>h x (.tail _ hx)
  show t.n+sumL (lens l)≤_
  rw [List.length_cons]
  omega
theorem rsV_ub {c:Costs} (hc:costE c=0) {l:List TS} (h4:l.length≤4) (hb:∀ t∈l,t.n≤1000) (v:List Nat) (Ms:List (List Nat)):0≤rsV (colZ c l) (lens l) Ms v∧rsV (colZ c l) (lens l) Ms v≤4096000000:=by
 refine ⟨rsV_nn _ _ _ _,?_⟩
 unfold rsV
 have h1:=rsM_ub (K:=colZ c l) (B:=1024000) (by omega) (fun x=>(colZ_bd hc (by omega) x).2) (lens l) Ms (sumL (lens l) - sumL v) v
 have h2:=sumL_lens hb
 omega
theorem foldB_posL {ls v:List Nat} {f:List Nat→Int}:∀ (Ms:List (List Nat)) (a:Int),foldB (possM ls v) f (posL ls v Ms) a=foldB (possM ls v) f Ms a
 | [],a=>rfl
 | m::Ms,a=>by
  unfold posL
  rw [List.filter_cons]
  cases hp:possM ls v m with
  | true =>
   show foldB _ _ (posL ls v Ms) (cond (possM ls v m) _ _)=foldB _ _ Ms (cond (possM ls v m) _ _)
   exact foldB_posL Ms _
  | false =>
   show foldB _ _ (posL ls v Ms) a=foldB _ _ Ms (cond (possM ls v m) _ _)
   rw [hp]
   exact foldB_posL Ms _
theorem posL_mem {ls v m:List Nat} {Ms:List (List Nat)} (h:m∈posL ls v Ms):m∈Ms∧possM ls v m=true:=List.mem_filter.1 h
theorem find_posL {K:List Int→Int} {ls v:List Nat}:∀ Ms Ns:List (List Nat),(posL ls v Ms).find? (fitM K ls Ns v)=Ms.find? (fitM K ls Ns v)
 | [],Ns=>rfl
 | m::Ms,Ns=>by
  unfold posL
  rw [List.filter_cons,List.find?_cons (a:=m)]
  cases hp:possM ls v m with
  | true =>
   show List.find? _ (m::posL ls v Ms)=_
   rw [List.find?_cons,find_posL Ms Ns]
  | false =>
   have hf:fitM K ls Ns v m=false:=by unfold fitM;rw [hp];rfl
   show List.find? _ (posL ls v Ms)=_
   rw [hf,find_posL Ms Ns]
end Go.Proofs.YtblnhdnogjijiaaGreatDoor
