/- Joined texts of this claim, part 3. -/
import Derived.Test.YtblnhdnogjijiaaGreatDoorV2
import Derived.Shelf.SlSortCmp.Whole1
set_option linter.unusedSectionVars false
set_option linter.unusedVariables false
set_option linter.unusedSimpArgs false
namespace Go.Proofs.YtblnhdnogjijiaaGreatDoor
open Go.RowKit Go.Shelf Go.Proofs
set_option maxRecDepth 100000
set_option maxHeartbeats 1000000

theorem tbl_hle {N m g cap:Nat} {f:Nat→Nat→Int} {M:List (Nat × List Value)} {J:List HA} (hm:m≤1000) (hM:M.length=N+1) (hR:RowsOk f (m+1) M):Hle (blks 3 M::row 47 1 (some ⟨g,0,none⟩) cap (N+1) (M.map (slv m))::J) (dat [.slice (some ⟨g,0,none⟩) (N+1) cap] [rowsD (tabR N m f)]::J):=by
 have q1:∀ x∈M,m+1≤x.2.length:=fun x hx=>by obtain⟨i,hi,e⟩:=List.getElem_of_mem hx;rw [hR i x (by rw [List.getElem?_eq_getElem hi,e]),valV_length];omega
 refine (dat_blks (L:=M) (m+1) (m+1) (by omega) (by omega) q1).trans ?_
 rw [tab_rows hM hR]
 exact (Hle.perm (List.Perm.swap _ _ _)).trans dat_row
theorem setLast (cA:List Int) (n:Nat) (k z:Int) (h:cA.length=n):setL ((cA++[z]).map (Value.int .i64)) (0+(n:Int).toNat * 1) [.int .i64 k]=(cA++[k]).map (Value.int .i64):=by
 rw [show 0+(n:Int).toNat * 1=n by omega,setL_eq _ _ _ (by simp [h]),List.map_append,List.take_append_of_le_length (by simp [h]),List.take_of_length_le (by simp [h]),List.drop_of_length_le (by simp [h]),List.map_append]
 rfl
theorem add21_spec {w:World} {c:Costs} {A:Option Addr} {n:Nat} {l:List TS} {K:Value} {cols:List (List Int)} {At:Option Addr} {m:Nat} {t:List Tok} (h:AddW w c A n l K cols At m t) (ca ct:Nat) (hprod:((cols.length:Int)+1) * ((m:Int)+1)≤1048576) :
  Spec Tryz.prog 91 [c.val, .slice A n ca,K, .slice At m ct] w (fun v R=>∃ x:Value,True∧v = .tuple #[x, .int .i64 0]∧R=[dat [x] [rowsD (addV c l cols t 0 0)]]):=by
 have hsz:=h.hsz
 have hmb:=h.hm
 have hb:=h.hg.hb
 have hn:=h.hg.hn
 have hprod0:0≤((cols.length:Int)+1) * ((m:Int)+1):=Int.mul_nonneg (by omega) (by omega)
 have e1:(grdA c l cols t).n=cols.length:=rfl
 have e2:(grdA c l cols t).m=m:=h.htl
 obtain⟨Ak,ck,csk,rfl,hck1,hck2,hcs,hrows⟩:=h.hx.tabS
 refine spec_of sg Tryz.func91 rfl rfl rfl ?_
 refine T_op (OpT.box (cs:=c.cells) rfl rfl rfl rfl rfl rfl rfl (fun pc=>?_))
 refine T_op (OpT.box (cs:=[.slice A n ca]) rfl rfl rfl rfl rfl rfl rfl (fun pl=>?_))
 refine T_op (OpT.box (cs:=[.slice Ak cols.length ck]) rfl rfl rfl rfl rfl rfl rfl (fun pk=>?_))
 repeat' (first|refine d1 ?_|fail)
 refine T_if rfl (fun h1=>by exfalso;simp only [decide_eq_true_eq] at h1;omega) (fun _=>?_)
 repeat' (first|refine d1 ?_|(show ∀ _:Nat,T _ _ _ _ _;intro _))
 rename_i pa p10
 refine T_le (H':=blk pa (addL c (.slice A n ca) (.slice Ak cols.length ck) (.slice At m ct) (.slice none 0 0)) 176::blk p10 [.pointer (some ⟨pa,0,none⟩)] 174::blk pk [.slice Ak cols.length ck] 30::blk pl [.slice A n ca] 25::blk pc c.cells 23::[]) (Hle.perm (List.Perm.swap _ _ _)) ?_
 refine T_op (OpT.callB rfl rfl rfl rfl rfl (fill21_spec h ca ct pa _) (fun u R hR=>?_))
 obtain⟨rfl,M,g,cap,hM,hR,rfl⟩:=hR
 refine T_le (tbl_hle hmb hM hR) ?_
 refine T_open fun pt hpt=>?_
 obtain⟨Agt,capt,cst,he,-,-,-,hAt,hrt⟩:=hpt.tab
 rw [tabR_length] at hAt he
 simp only [Value.slice.injEq,true_and] at he
 obtain⟨rfl,rfl⟩:=he
 obtain⟨bt,ot,hbo,hbt⟩:=hAt (by omega)
 simp only [Option.some.injEq,Addr.mk.injEq,and_true] at hbo
 obtain⟨rfl,rfl⟩:=hbo
 repeat' (first|refine d1 ?_|(show ∀ _:Nat,T _ _ _ _ _;intro _))
 rename_i p11 p12 p13
 refine T_le (H':=[blk p13 [.int .i64 ((0:Nat):Int)] 3,blk p12 [.int .i64 ((0:Nat):Int)] 3,blk p11 [.slice none 0 0] 30,fz pt,blk pa (addL c (.slice A n ca) (.slice Ak cols.length ck) (.slice At m ct) (.slice (some ⟨g,0,none⟩) (cols.length+1) cap)) 176,blk p10 [.pointer (some ⟨pa,0,none⟩)] 174,blk pk [.slice Ak cols.length ck] 30,blk pl [.slice A n ca] 25,blk pc c.cells 23]) (Hle.refl _) ?_
 refine T_keep [(3, .slice At m ct),(4, .pointer (some ⟨pc,0,none⟩)),(5, .pointer (some ⟨pl,0,none⟩)),(6, .pointer (some ⟨pk,0,none⟩)),(9, .int .i64 0),(10, .pointer (some ⟨p10,0,none⟩)),(11, .pointer (some ⟨p11,0,none⟩)),(12, .pointer (some ⟨p12,0,none⟩)),(13, .pointer (some ⟨p13,0,none⟩))] ⟨rfl,rfl,rfl,rfl,rfl,rfl,rfl,rfl,rfl,trivial⟩ ?_
 refine T_le (dat_nil _) ?_
 refine T_nilrow 47 1 ?_
 show T (FC _ _ (([]:List Nat).map mkD) _ _ _) _ _ _ _
 refine T_loopDX (fun s:(Nat × Nat) × (Nat × Nat) × (Option Addr × Nat) × List Value × List (List Int) × List Nat=>[(12, .pointer (some ⟨s.2.1.1,0,none⟩)),(13, .pointer (some ⟨s.2.1.2,0,none⟩))]) (fun s=>[blk s.2.1.2 [.int .i64 (s.1.2:Nat)] 3,blk s.2.1.1 [.int .i64 (s.1.1:Nat)] 3,blk p11 [.slice s.2.2.1.1 s.2.2.2.2.1.length s.2.2.1.2] 30,row 47 1 s.2.2.1.1 s.2.2.1.2 s.2.2.2.2.1.length s.2.2.2.1,dat s.2.2.2.1 (s.2.2.2.2.1.map intsD),fz pt,blk pa (addL c (.slice A n ca) (.slice Ak cols.length ck) (.slice At m ct) (.slice (some ⟨g,0,none⟩) (cols.length+1) cap)) 176,blk p10 [.pointer (some ⟨pa,0,none⟩)] 174,blk pk [.slice Ak cols.length ck] 30,blk pl [.slice A n ca] 25,blk pc c.cells 23]) (fun s=>s.2.2.2.2.2) (fun s=>s.1.1≤cols.length∧s.1.2≤m∧s.2.2.2.2.1.length≤s.1.1+s.1.2∧addV c l cols t 0 0=s.2.2.2.2.1++addV c l cols t s.1.1 s.1.2) (fun s=>(cols.length - s.1.1)+(m - s.1.2)) ((0,0),(p12,p13),(none,0),[],[],[]) ⟨Nat.zero_le _,Nat.zero_le _,Nat.zero_le _,rfl⟩ rfl ?_ (hG:=by exact Hle.perm ((List.perm_append_comm (l₁:=[_,_]) (l₂:=[_,_,_])).append_right (fz pt::_)))
 rintro⟨⟨i,k⟩,⟨q12,q13⟩,⟨Ao,capo⟩,hs,out,Dl⟩ ⟨hi,hk,hlo,hout⟩
 dsimp only at hi hk hlo hout ⊢
 refine T_le (H':=blk q13 [.int .i64 (k:Nat)] 3::blk q12 [.int .i64 (i:Nat)] 3::blk p11 [.slice Ao out.length capo] 30::row 47 1 Ao capo out.length hs::dat hs (out.map intsD)::fz pt::blk pa (addL c (.slice A n ca) (.slice Ak cols.length ck) (.slice At m ct) (.slice (some ⟨g,0,none⟩) (cols.length+1) cap)) 176::blk p10 [.pointer (some ⟨pa,0,none⟩)] 174::blk pk [.slice Ak cols.length ck] 30::blk pl [.slice A n ca] 25::blk pc c.cells 23::dfrs Dl) (Hle.refl _) ?_
 repeat' (first|refine d1 ?_|fail)
 refine T_if rfl (fun h3=>?_) (fun h3=>?_)
 ·have h3':i<cols.length∨k<m:=by simpa using h3
  repeat' (first|refine dd ?_|(show T _ (.run _ _ (_::_) _ _::_) _ _ _;first|refine rv rfl rfl rfl (Val.nilc rfl) rfl rfl rfl ?_|refine ro rfl rfl (OpT.call rfl rfl rfl rfl rfl (fun w hw=>steps21_spec c _ _ _ _ i k w) (fun u R hR=>?_)))|fail)
  obtain⟨⟨q1,q2,q3⟩,-,rfl,rfl⟩:=hR
  refine ⟨by intro _;exact Hle.append_right (K:=[]) _,?_⟩
  dsimp only
  repeat' (first|refine dd ?_|fail)
  refine T_rangeA (steps_iter h ca ct (some ⟨g,0,none⟩) (cols.length+1) cap i k hi hk q1 q2 q3) rfl (fun j y hy=>by obtain⟨v,_,rfl⟩:=stepsV_at hy;exact⟨rfl,rfl⟩)
   (fun jj H=>H=blk q13 [.int .i64 (k:Nat)] 3::blk q12 [.int .i64 (i:Nat)] 3::blk p11 [.slice Ao out.length capo] 30::row 47 1 Ao capo out.length hs::dat hs (out.map intsD)::fz pt::blk pa (addL c (.slice A n ca) (.slice Ak cols.length ck) (.slice At m ct) (.slice (some ⟨g,0,none⟩) (cols.length+1) cap)) 176::blk p10 [.pointer (some ⟨pa,0,none⟩)] 174::blk pk [.slice Ak cols.length ck] 30::blk pl [.slice A n ca] 25::blk pc c.cells 23::dfrs Dl∧∀ j' y,j'<jj→(mvs (grdA c l cols t) i k)[j']?=some y→via (grdA c l cols t) i k y≠rst (grdA c l cols t) i k) (fun _=>False)
   (fun id H=>id=2∧∃ (v:Mv) (x:Option Addr × Nat × Value),fstM (grdA c l cols t) i k=some v∧H=blk q13 [.int .i64 ((k+v.snd:Nat):Int)] 3::blk q12 [.int .i64 ((i+v.fst:Nat):Int)] 3::blk p11 [.slice x.1 (out.length+1) x.2.1] 30::row 47 1 x.1 x.2.1 (out.length+1) (hs++[x.2.2])::dat (hs++[x.2.2]) ((out++[colM l.length cols i k v]).map intsD)::fz pt::blk pa (addL c (.slice A n ca) (.slice Ak cols.length ck) (.slice At m ct) (.slice (some ⟨g,0,none⟩) (cols.length+1) cap)) 176::blk p10 [.pointer (some ⟨pa,0,none⟩)] 174::blk pk [.slice Ak cols.length ck] 30::blk pl [.slice A n ca] 25::blk pc c.cells 23::dfrs Dl)
   (blk q13 [.int .i64 (k:Nat)] 3::blk q12 [.int .i64 (i:Nat)] 3::blk p11 [.slice Ao out.length capo] 30::row 47 1 Ao capo out.length hs::dat hs (out.map intsD)::fz pt::blk pa (addL c (.slice A n ca) (.slice Ak cols.length ck) (.slice At m ct) (.slice (some ⟨g,0,none⟩) (cols.length+1) cap)) 176::blk p10 [.pointer (some ⟨pa,0,none⟩)] 174::blk pk [.slice Ak cols.length ck] 30::blk pl [.slice A n ca] 25::blk pc c.cells 23::dfrs Dl) ⟨rfl,fun _ _ h=>by omega⟩ (Hle.refl _) ?_ ?_ (fun _ _ h=>h.elim) ?_
  ·rintro Lp r jj yv Hj K2 hr hyv ⟨rfl,hno⟩
   obtain⟨v,hv,rfl⟩:=stepsV_at hyv
   have hb1:=h.to hi hk hv
   have hrb:=h.rst (i+v.fst) (k+v.snd)
   show T _ _ ((48, .agg v.cells.toArray)::_) _ (lrec Lp r::blk q13 [.int .i64 (k:Nat)] 3::blk q12 [.int .i64 (i:Nat)] 3::blk p11 [.slice Ao out.length capo] 30::row 47 1 Ao capo out.length hs::dat hs (out.map intsD)::fz pt::blk pa (addL c (.slice A n ca) (.slice Ak cols.length ck) (.slice At m ct) (.slice (some ⟨g,0,none⟩) (cols.length+1) cap)) 176::blk p10 [.pointer (some ⟨pa,0,none⟩)] 174::blk pk [.slice Ak cols.length ck] 30::blk pl [.slice A n ca] 25::blk pc c.cells 23::(dfrs Dl++K2))
   repeat' (first|refine d1 ?_|(show ∀ _:Nat,T _ _ _ _ _;intro _))
   rename_i p14
   refine T_le (H':=lrec Lp r::blk p14 v.cells 181::blk q13 [.int .i64 (k:Nat)] 3::blk q12 [.int .i64 (i:Nat)] 3::blk p11 [.slice Ao out.length capo] 30::row 47 1 Ao capo out.length hs::dat hs (out.map intsD)::fz pt::blk pa (addL c (.slice A n ca) (.slice Ak cols.length ck) (.slice At m ct) (.slice (some ⟨g,0,none⟩) (cols.length+1) cap)) 176::blk p10 [.pointer (some ⟨pa,0,none⟩)] 174::blk pk [.slice Ak cols.length ck] 30::blk pl [.slice A n ca] 25::blk pc c.cells 23::(dfrs Dl++K2)) (Hle.perm (List.Perm.swap _ _ _)) ?_
   refine T_begin hr rfl ?_
   obtain⟨Ar1,capr1,hcr1,-,-,hAr1⟩:=hrt.tabRow (tabR_get hb1.1)
   rw [List.length_map,List.length_range] at hcr1 hAr1
   obtain⟨br1,or1,rfl,hbr1⟩:=hAr1 (by omega)
   obtain⟨Ar0,capr0,hcr0,-,-,hAr0⟩:=hrt.tabRow (tabR_get hi)
   rw [List.length_map,List.length_range] at hcr0 hAr0
   obtain⟨br0,or0,rfl,hbr0⟩:=hAr0 (by omega)
   repeat' (first|refine dd ?_|(show T _ (.run _ _ (_::_) _ _::_) _ _ _;first|refine rv rfl rfl rfl (Val.nilc rfl) rfl rfl rfl ?_|refine rv rfl rfl rfl (Val.load rfl (fun hg=>rdFz (p:=pt) (u := .slice (some ⟨br1,or1,none⟩) (m+1) capr1) (b:=g) (by rw [show 0+((i:Int)+v.fst).toNat * 1=0+(i+v.fst) by omega];exact hbt _ _ hcr1))) rfl rfl rfl ?_|refine rv rfl rfl rfl (Val.load rfl (fun hg=>rdFz (p:=pt) (u := .int .i64 (rst (grdA c l cols t) (i+v.fst) (k+v.snd))) (b:=br1) (by rw [show or1+((k:Int)+v.snd).toNat * 1=or1+(k+v.snd) by omega];exact hbr1 _ _ (tabR_cell hb1.2.1)))) rfl rfl rfl ?_|refine rv rfl rfl rfl (Val.load rfl (fun hg=>rdFz (p:=pt) (u := .slice (some ⟨br0,or0,none⟩) (m+1) capr0) (b:=g) (by rw [off1];exact hbt _ _ hcr0))) rfl rfl rfl ?_|refine rv rfl rfl rfl (Val.load rfl (fun hg=>rdFz (p:=pt) (u := .int .i64 (rst (grdA c l cols t) i k)) (b:=br0) (by rw [off1];exact hbr0 _ _ (tabR_cell hk)))) rfl rfl rfl ?_)|fail)
   refine T_if rfl (fun h4=>?_) (fun h4=>?_)
   ·simp only [Bool.not_eq_true',decide_eq_false_iff_not] at h4
    refine T_next (blk q13 [.int .i64 (k:Nat)] 3::blk q12 [.int .i64 (i:Nat)] 3::blk p11 [.slice Ao out.length capo] 30::row 47 1 Ao capo out.length hs::dat hs (out.map intsD)::fz pt::blk pa (addL c (.slice A n ca) (.slice Ak cols.length ck) (.slice At m ct) (.slice (some ⟨g,0,none⟩) (cols.length+1) cap)) 176::blk p10 [.pointer (some ⟨pa,0,none⟩)] 174::blk pk [.slice Ak cols.length ck] 30::blk pl [.slice A n ca] 25::blk pc c.cells 23::dfrs Dl) ⟨rfl,fun j' y hj hy=>?_⟩ (Hle.drop2 _ _ _)
    rcases Nat.lt_or_ge j' jj with h6|h6
    ·exact hno j' y h6 hy
    ·rw [show j'=jj by omega,hv] at hy
     cases hy
     exact h4
   ·simp only [Bool.not_eq_false',decide_eq_true_eq] at h4
    have hf:fstM (grdA c l cols t) i k=some v:=find_at hv (decide_eq_true h4) fun j' y hj hy=>decide_eq_false (hno j' y hj hy)
    repeat' (first|refine d1 ?_|(show T _ (.ops _ (_::_)::_) _ _ _;refine T_callE rfl rfl rfl rfl rfl (fun w hw=>repeatI_spec (-1) (some ⟨_,0,none⟩) 1 (n+1) w (Src.own hw rfl) (by omega)) (fun bc _=>?_))|(show ∀ _:Nat,T _ _ _ _ _;intro _))
    rename_i blit _
    have hb0:(List.replicate (n+1) (Value.int .i64 (-1)))=(noneC l.length++[-1]).map (Value.int .i64):=by
     unfold noneC;rw [List.map_append,List.map_replicate,hn,List.replicate_succ'];rfl
    refine T_le (H':=row 3 1 (some ⟨bc,0,none⟩) (n+1) (n+1) ((noneC l.length++[-1]).map (Value.int .i64))::lrec Lp (busy r)::blk p14 v.cells 181::blk q13 [.int .i64 (k:Nat)] 3::blk q12 [.int .i64 (i:Nat)] 3::blk p11 [.slice Ao out.length capo] 30::row 47 1 Ao capo out.length hs::dat hs (out.map intsD)::fz pt::blk pa (addL c (.slice A n ca) (.slice Ak cols.length ck) (.slice At m ct) (.slice (some ⟨g,0,none⟩) (cols.length+1) cap)) 176::blk p10 [.pointer (some ⟨pa,0,none⟩)] 174::blk pk [.slice Ak cols.length ck] 30::blk pl [.slice A n ca] 25::blk pc c.cells 23::(dfrs Dl++K2)) (by rw [← hb0];exact Hle.drop2 _ _ _) ?_
    refine T_cutX 1 [] (fun _:Unit=>[]) (fun _=>row 3 1 (some ⟨bc,0,none⟩) (n+1) (n+1) (((if v.fst=1 then cols.getD i [] else noneC l.length)++[-1]).map (Value.int .i64))::lrec Lp (busy r)::blk p14 v.cells 181::blk q13 [.int .i64 (k:Nat)] 3::blk q12 [.int .i64 (i:Nat)] 3::blk p11 [.slice Ao out.length capo] 30::row 47 1 Ao capo out.length hs::dat hs (out.map intsD)::fz pt::blk pa (addL c (.slice A n ca) (.slice Ak cols.length ck) (.slice At m ct) (.slice (some ⟨g,0,none⟩) (cols.length+1) cap)) 176::blk p10 [.pointer (some ⟨pa,0,none⟩)] 174::blk pk [.slice Ak cols.length ck] 30::blk pl [.slice A n ca] 25::blk pc c.cells 23::(dfrs Dl++K2)) (fun _=>True) ?_ ?_
    ·refine T_if rfl (fun h5=>?_) (fun h5=>?_)
     ·simp only [decide_eq_true_eq] at h5
      have hv1:v.fst=1:=by omega
      have hin:i<cols.length:=by omega
      rw [if_pos hv1]
      obtain⟨b,o,rfl⟩:=hcs.base (by omega)
      obtain⟨rr,hrr⟩:∃ r,cols[i]?=some r:=⟨_,List.getElem?_eq_getElem hin⟩
      obtain⟨Au,capu,hu,-,-,hA⟩:=hrows.tabRow hrr
      have hrl:rr.length=n:=by rw [(h.hok rr (List.mem_of_getElem? hrr)).1,hn]
      have hr0:RdC w b (o+(i:Int).toNat * 1) [.slice Au n capu]:=by
       have h9:=(hcs.get1 (i:=i) hin hu).2
       rw [Nat.mul_one,hrl] at h9
       rw [off1]
       exact h9
      have hsr:Src w 1 Au n (rr.map (Value.int .i64)):=⟨by rw [List.length_map,hrl,Nat.mul_one],fun h9=>by
       obtain⟨bu,ou,rfl,hbu⟩:=hA (by omega)
       refine ⟨rfl,fun j u hu=>?_⟩
       rw [List.getElem?_map] at hu
       cases hz:rr[j]? with
       | none=>rw [hz] at hu;cases hu
       | some z=>rw [hz] at hu;cases hu;exact hbu j z hz⟩
      have hgd:cols.getD i []=rr:=by rw [List.getD_eq_getElem?_getD,hrr];rfl
      repeat' (first|refine d1 ?_|(show T _ (.ops _ (_::_)::_) _ _ _;refine T_op (OpT.copyR (g:=bc) (k:=n) (us:=rr.map (Value.int .i64)) rfl rfl rfl rfl rfl rfl rfl rfl (by omega) (fun w hw=>src_below hsr hw.below) (oneInts rr) (by rw [List.length_map];omega) ?_))|fail)
      refine T_meetX () trivial (hG:=?_)
      rw [hgd]
      have e9:setL ((noneC l.length++[-1]).map (Value.int .i64)) 0 (rr.map (Value.int .i64))=(rr++[-1]).map (Value.int .i64):=by
       rw [setL_eq _ _ _ (by simp [noneC];omega),List.take_zero,List.nil_append,Nat.zero_add,List.map_append,List.map_append,List.length_map,List.drop_append_of_le_length (by simp [noneC];omega),List.drop_of_length_le (by simp [noneC];omega)]
       simp
      rw [← e9]
      exact Hle.refl _
     ·simp only [decide_eq_false_iff_not] at h5
      rw [if_neg (show ¬ v.fst=1 by omega)]
      exact T_meetX () trivial
    ·rintro⟨⟩ _
     repeat' (first|refine d1 ?_|fail)
     refine T_cutX 1 [] (fun _:Unit=>[]) (fun _=>row 3 1 (some ⟨bc,0,none⟩) (n+1) (n+1) ((colM l.length cols i k v).map (Value.int .i64))::lrec Lp (busy r)::blk p14 v.cells 181::blk q13 [.int .i64 (k:Nat)] 3::blk q12 [.int .i64 (i:Nat)] 3::blk p11 [.slice Ao out.length capo] 30::row 47 1 Ao capo out.length hs::dat hs (out.map intsD)::fz pt::blk pa (addL c (.slice A n ca) (.slice Ak cols.length ck) (.slice At m ct) (.slice (some ⟨g,0,none⟩) (cols.length+1) cap)) 176::blk p10 [.pointer (some ⟨pa,0,none⟩)] 174::blk pk [.slice Ak cols.length ck] 30::blk pl [.slice A n ca] 25::blk pc c.cells 23::(dfrs Dl++K2)) (fun _=>True) ?_ ?_
     ·have hcl:(if v.fst=1 then cols.getD i [] else noneC l.length).length=n:=by
       split
       ·have hin:i<cols.length:=by omega
        rw [List.getD_eq_getElem?_getD,List.getElem?_eq_getElem hin]
        exact (h.hok _ (List.getElem_mem hin)).1.trans hn
       ·simp [noneC,hn]
      refine T_if rfl (fun h5=>?_) (fun h5=>?_)
      ·simp only [decide_eq_true_eq] at h5
       repeat' (first|refine d1 ?_|(show T _ (.ops _ (_::_)::_) _ _ _;refine T_op (OpT.storeR (us:=[.int .i64 (k:Nat)]) rfl rfl rfl rfl rfl rfl (by show 0+(n:Int).toNat * 1+1≤(n+1) * 1;omega) ?_))|fail)
       refine T_meetX () trivial (hG:=?_)
       have e9:setL (((if v.fst=1 then cols.getD i [] else noneC l.length)++[-1]).map (Value.int .i64)) (0+(n:Int).toNat * 1) [.int .i64 (k:Nat)]=(colM l.length cols i k v).map (Value.int .i64):=by
        unfold colM
        rw [if_pos (show v.snd=1 by omega)]
        exact setLast _ _ _ _ hcl
       rw [← e9]
       exact Hle.refl _
      ·simp only [decide_eq_false_iff_not] at h5
       refine T_meetX () trivial (hG:=?_)
       unfold colM
       rw [if_neg (show ¬ v.snd=1 by omega)]
       exact Hle.refl _
     ·rintro⟨⟩ _
      have hov:out.length≤200000:=by omega
      repeat' (first|refine d1 ?_|(show T _ (.ops _ (_::_)::_) _ _ _;refine T_op (OpT.append rfl rfl rfl rfl rfl rfl rfl rfl rfl rfl (fun w hw=>Src.own hw rfl) rfl (by dsimp only;omega) (by omega) (fun A' cap' hA'=>?_)))|(show ∀ _:Nat,T _ _ _ _ _;intro _))
      rename_i blit2
      refine T_le (H':=lrec Lp (busy r)::blk p14 v.cells 181::blk q13 [.int .i64 (k:Nat)] 3::blk q12 [.int .i64 (i:Nat)] 3::blk p11 [.slice A' (out.length+1) cap'] 30::row 47 1 A' cap' (out.length+1) (hs++[(.slice (some ⟨bc,0,none⟩) (n+1) (n+1))])::dat (hs++[(.slice (some ⟨bc,0,none⟩) (n+1) (n+1))]) ((out++[colM l.length cols i k v]).map intsD)::fz pt::blk pa (addL c (.slice A n ca) (.slice Ak cols.length ck) (.slice At m ct) (.slice (some ⟨g,0,none⟩) (cols.length+1) cap)) 176::blk p10 [.pointer (some ⟨pa,0,none⟩)] 174::blk pk [.slice Ak cols.length ck] 30::blk pl [.slice A n ca] 25::blk pc c.cells 23::(dfrs Dl++K2)) ?_ ?_
      ·refine (Hle.srtT (A:=[blk blit2 _ _,row 3 1 (some ⟨bc,0,none⟩) (n+1) (n+1) ((colM l.length cols i k v).map (Value.int .i64)),lrec Lp (busy r),blk p14 v.cells 181,blk q13 [.int .i64 (k:Nat)] 3,blk q12 [.int .i64 (i:Nat)] 3,blk p11 [.slice A' (out.length+1) cap'] 30,row 47 1 A' cap' (out.length+1) (hs++[(.slice (some ⟨bc,0,none⟩) (n+1) (n+1))]),dat hs (out.map intsD)]) (K:=[row 3 1 (some ⟨bc,0,none⟩) (n+1) (n+1) ((colM l.length cols i k v).map (Value.int .i64)),dat hs (out.map intsD),lrec Lp (busy r),blk p14 v.cells 181,blk q13 [.int .i64 (k:Nat)] 3,blk q12 [.int .i64 (i:Nat)] 3,blk p11 [.slice A' (out.length+1) cap'] 30,row 47 1 A' cap' (out.length+1) (hs++[(.slice (some ⟨bc,0,none⟩) (n+1) (n+1))])]) (fz pt::blk pa (addL c (.slice A n ca) (.slice Ak cols.length ck) (.slice At m ct) (.slice (some ⟨g,0,none⟩) (cols.length+1) cap)) 176::blk p10 [.pointer (some ⟨pa,0,none⟩)] 174::blk pk [.slice Ak cols.length ck] 30::blk pl [.slice A n ca] 25::blk pc c.cells 23::(dfrs Dl++K2))).trans ?_
       refine dat_rowV.trans (dat_join.trans ?_)
       have ej:out.map intsD++[D.s 1 (((colM l.length cols i k v).map (Value.int .i64)).map .v)]=(out++[colM l.length cols i k v]).map intsD:=by
        rw [List.map_append,List.map_map];rfl
       rw [ej]
       exact Hle.perm ((List.perm_append_comm (l₁:=[_]) (l₂:=[_,_,_,_,_,_])).append_right (fz pt::blk pa (addL c (.slice A n ca) (.slice Ak cols.length ck) (.slice At m ct) (.slice (some ⟨g,0,none⟩) (cols.length+1) cap)) 176::blk p10 [.pointer (some ⟨pa,0,none⟩)] 174::blk pk [.slice Ak cols.length ck] 30::blk pl [.slice A n ca] 25::blk pc c.cells 23::(dfrs Dl++K2)))
      refine T_keep [(12, .pointer (some ⟨q12,0,none⟩)),(13, .pointer (some ⟨q13,0,none⟩)),(14, .pointer (some ⟨p14,0,none⟩))] ⟨rfl,rfl,rfl,trivial⟩ ?_
      refine T_draw 9 [blk p14 v.cells 181,blk q13 [.int .i64 (k:Nat)] 3] ?_
      refine T_dval 1 rfl (by kernel_rfl) (by kernel_rfl) (by kernel_rfl) (by kernel_rfl) (by kernel_rfl) rfl rfl (by first|exact Val.pure rfl|exact Val.vc rfl (fun hg=>by first|omega|(simp only [inK];omega)|exact True.intro|assumption)|exact Val.load rfl (fun _=>rdOwn1 rfl)|exact Val.loadA rfl (fun _=>rdAll) rfl) rfl rfl rfl (by first|exact Hle.refl _|exact Hle.none _|exact Hle.sub) ?_
      refine T_dval 2 rfl (by kernel_rfl) (by kernel_rfl) (by kernel_rfl) (by kernel_rfl) (by kernel_rfl) rfl rfl (by first|exact Val.pure rfl|exact Val.vc rfl (fun hg=>by first|omega|(simp only [inK];omega)|exact True.intro|assumption)|exact Val.load rfl (fun _=>rdOwn1 rfl)|exact Val.loadA rfl (fun _=>rdAll) rfl) rfl rfl rfl (by first|exact Hle.refl _|exact Hle.none _|exact Hle.sub) ?_
      refine T_dval 4 rfl (by kernel_rfl) (by kernel_rfl) (by kernel_rfl) (by kernel_rfl) (by kernel_rfl) rfl rfl (by first|exact Val.pure rfl|exact Val.vc rfl (fun hg=>by first|omega|(simp only [inK];omega)|exact True.intro|assumption)|exact Val.load rfl (fun _=>rdOwn1 rfl)|exact Val.loadA rfl (fun _=>rdAll) rfl) rfl rfl rfl (by first|exact Hle.refl _|exact Hle.none _|exact Hle.sub) ?_
      refine T_dval 5 rfl (by kernel_rfl) (by kernel_rfl) (by kernel_rfl) (by kernel_rfl) (by kernel_rfl) rfl rfl (by first|exact Val.pure rfl|exact Val.vc rfl (fun hg=>by first|omega|(simp only [inK];omega)|exact True.intro|assumption)|exact Val.load rfl (fun _=>rdOwn1 rfl)|exact Val.loadA rfl (fun _=>rdAll) rfl) rfl rfl rfl (by first|exact Hle.refl _|exact Hle.none _|exact Hle.sub) ?_
      refine T_dval 6 rfl (by kernel_rfl) (by kernel_rfl) (by kernel_rfl) (by kernel_rfl) (by kernel_rfl) rfl rfl (by first|exact Val.pure rfl|exact Val.vc rfl (fun hg=>by first|omega|(simp only [inK];omega)|exact True.intro|assumption)|exact Val.load rfl (fun _=>rdOwn1 rfl)|exact Val.loadA rfl (fun _=>rdAll) rfl) rfl rfl rfl (by first|exact Hle.refl _|exact Hle.none _|exact Hle.sub) ?_
      refine T_dval 7 rfl (by kernel_rfl) (by kernel_rfl) (by kernel_rfl) (by kernel_rfl) (by kernel_rfl) rfl rfl (by first|exact Val.pure rfl|exact Val.vc rfl (fun hg=>by first|omega|(simp only [inK];omega)|exact True.intro|assumption)|exact Val.load rfl (fun _=>rdOwn1 rfl)|exact Val.loadA rfl (fun _=>rdAll) rfl) rfl rfl rfl (by first|exact Hle.refl _|exact Hle.none _|exact Hle.sub) ?_
      refine T_dop 0 (by kernel_rfl) rfl (OpT.ofVal rfl (Val.load rfl (fun _=>rdOwn1 rfl)) rfl rfl rfl ⟨fun _=>Hle.sub,?_⟩)
      refine T_dval 3 rfl (by kernel_rfl) (by kernel_rfl) (by kernel_rfl) (by kernel_rfl) (by kernel_rfl) rfl rfl (by first|exact Val.pure rfl|exact Val.vc rfl (fun hg=>by first|omega|(simp only [inK];omega)|exact True.intro|assumption)|exact Val.load rfl (fun _=>rdOwn1 rfl)|exact Val.loadA rfl (fun _=>rdAll) rfl) rfl rfl rfl (by first|exact Hle.refl _|exact Hle.none _|exact Hle.sub) ?_
      refine T_dop 8 (by kernel_rfl) rfl (OpT.store rfl rfl rfl rfl (by exact Nat.zero_lt_one) ⟨fun _=>Hle.sub,?_⟩)
      refine T_dop 9 (by kernel_rfl) rfl (OpT.store rfl rfl rfl rfl (by exact Nat.zero_lt_one) ⟨fun h=>absurd h (by decide +kernel),?_⟩)
      refine T_dend (by kernel_rfl) ?_
      show T _ (.code (.exit 2)::_) _ _ _
      refine T_rexit (id:=2) (blk q13 [.int .i64 ((k+v.snd:Nat):Int)] 3::blk q12 [.int .i64 ((i+v.fst:Nat):Int)] 3::blk p11 [.slice A' (out.length+1) cap'] 30::row 47 1 A' cap' (out.length+1) (hs++[(.slice (some ⟨bc,0,none⟩) (n+1) (n+1))])::dat (hs++[(.slice (some ⟨bc,0,none⟩) (n+1) (n+1))]) ((out++[colM l.length cols i k v]).map intsD)::fz pt::blk pa (addL c (.slice A n ca) (.slice Ak cols.length ck) (.slice At m ct) (.slice (some ⟨g,0,none⟩) (cols.length+1) cap)) 176::blk p10 [.pointer (some ⟨pa,0,none⟩)] 174::blk pk [.slice Ak cols.length ck] 30::blk pl [.slice A n ca] 25::blk pc c.cells 23::dfrs Dl) (fun _=>rfl) (by exact⟨rfl,v,(A',cap',(.slice (some ⟨bc,0,none⟩) (n+1) (n+1))),hf,rfl⟩) (Hle.drop2 _ _ _)
  ·rintro D Hn ⟨rfl,hno⟩
   exfalso
   rw [stepsV_len] at hno
   obtain⟨fm,hfm⟩:=fstM_ex (G:=grdA c l cols t) (i:=i) (k:=k) (by rw [e1,e2];exact h3')
   obtain⟨hfm1,hfm2⟩:=fstM_mem hfm
   obtain⟨j',hj',e9⟩:=List.getElem_of_mem hfm1
   exact hno j' fm hj' (by rw [List.getElem?_eq_getElem hj',e9]) hfm2
  ·rintro D id Hx ⟨rfl,v,⟨A',cap',hv⟩,hf,rfl⟩
   dsimp only
   obtain⟨hfm1,hfm2⟩:=fstM_mem hf
   obtain⟨jj,hjj,e9⟩:=List.getElem_of_mem hfm1
   have hb1:=h.to hi hk (show (mvs (grdA c l cols t) i k)[jj]?=some v by rw [List.getElem?_eq_getElem hjj,e9])
   have hst:=addV_step hf
   show T (FC _ _ ((D::Dl).map mkD) _ _ _) _ _ _ (dfr D::blk q3 [.int .i64 (k:Nat)] 3::blk q1 [.int .i64 (i:Nat)] 3::blk q2 (addL c (.slice A n ca) (.slice Ak cols.length ck) (.slice At m ct) (.slice (some ⟨g,0,none⟩) (cols.length+1) cap)) 176::blk q13 [.int .i64 ((k+v.snd:Nat):Int)] 3::blk q12 [.int .i64 ((i+v.fst:Nat):Int)] 3::blk p11 [.slice A' (out.length+1) cap'] 30::row 47 1 A' cap' (out.length+1) (hs++[hv])::dat (hs++[hv]) ((out++[colM l.length cols i k v]).map intsD)::fz pt::blk pa (addL c (.slice A n ca) (.slice Ak cols.length ck) (.slice At m ct) (.slice (some ⟨g,0,none⟩) (cols.length+1) cap)) 176::blk p10 [.pointer (some ⟨pa,0,none⟩)] 174::blk pk [.slice Ak cols.length ck] 30::blk pl [.slice A n ca] 25::blk pc c.cells 23::dfrs Dl)
   repeat' (first|refine d1 ?_|(show ∀ _:Nat,T _ _ _ _ _;intro _))
   rename_i n12 n13
   show T _ (.mark _::_) _ _ _
   refine T_backD ((i+v.fst,k+v.snd),(n12,n13),(A',cap'),hs++[hv],out++[colM l.length cols i k v],D::Dl) ⟨hb1.1,hb1.2.1,by dsimp only;rw [List.length_append];simp;omega,by dsimp only;rw [hout,hst,List.append_assoc];rfl⟩ (by dsimp only;omega) rfl (hG:=?_)
   dsimp only
   rw [List.length_append]
   exact Hle.srtT (A:=[blk n13 [.int .i64 ((k+v.snd:Nat):Int)] 3,blk n12 [.int .i64 ((i+v.fst:Nat):Int)] 3,dfr D,blk q3 [.int .i64 (k:Nat)] 3,blk q1 [.int .i64 (i:Nat)] 3,blk q2 (addL c (.slice A n ca) (.slice Ak cols.length ck) (.slice At m ct) (.slice (some ⟨g,0,none⟩) (cols.length+1) cap)) 176,blk q13 [.int .i64 ((k+v.snd:Nat):Int)] 3,blk q12 [.int .i64 ((i+v.fst:Nat):Int)] 3,blk p11 [.slice A' (out.length+1) cap'] 30,row 47 1 A' cap' (out.length+1) (hs++[hv]),dat (hs++[hv]) ((out++[colM l.length cols i k v]).map intsD),fz pt,blk pa (addL c (.slice A n ca) (.slice Ak cols.length ck) (.slice At m ct) (.slice (some ⟨g,0,none⟩) (cols.length+1) cap)) 176,blk p10 [.pointer (some ⟨pa,0,none⟩)] 174,blk pk [.slice Ak cols.length ck] 30,blk pl [.slice A n ca] 25,blk pc c.cells 23]) (K:=[blk n13 [.int .i64 ((k+v.snd:Nat):Int)] 3,blk n12 [.int .i64 ((i+v.fst:Nat):Int)] 3,blk p11 [.slice A' (out.length+1) cap'] 30,row 47 1 A' cap' (out.length+1) (hs++[hv]),dat (hs++[hv]) ((out++[colM l.length cols i k v]).map intsD),fz pt,blk pa (addL c (.slice A n ca) (.slice Ak cols.length ck) (.slice At m ct) (.slice (some ⟨g,0,none⟩) (cols.length+1) cap)) 176,blk p10 [.pointer (some ⟨pa,0,none⟩)] 174,blk pk [.slice Ak cols.length ck] 30,blk pl [.slice A n ca] 25,blk pc c.cells 23,dfr D]) (dfrs Dl)
 ·have h3':¬ (i<cols.length∨k<m):=by simpa using h3
  rw [addV_end (i:=i) (k:=k) (by rw [h.htl];exact h3'),List.append_nil] at hout
  rw [hout]
  repeat' (first|refine d1 ?_|fail)
  refine T_retDs [dat [.slice Ao out.length capo] [rowsD out]] ?_ (rf_V (vs:=[.slice Ao out.length capo, .int .i64 0]) _ rfl (Hle.refl _) ⟨_,trivial,rfl,rfl⟩)
  refine (Hle.tail _ _).trans ((Hle.tail _ _).trans ((Hle.tail _ _).trans (dat_row.trans ?_)))
  exact Hle.srtT (A:=[dat [.slice Ao out.length capo] [.s 1 (out.map intsD)],_,_,_,_,_,_]) (K:=[dat [.slice Ao out.length capo] [.s 1 (out.map intsD)]]) (dfrs Dl)
end Go.Proofs.YtblnhdnogjijiaaGreatDoor
namespace Go.Proofs.YtblnhdnogjijiaaGreatDoor
open Go.RowKit Go.Shelf Go.Proofs
set_option maxRecDepth 100000
set_option maxHeartbeats 1000000

def lens (l:List TS):List Nat:=l.map fun t=>t.n
theorem lens_get {l:List TS} {s:Nat} {t:TS} (h:l[s]?=some t):(lens l)[s]?=some t.n:=by unfold lens;rw [List.getElem?_map,h];rfl
theorem lens_len (l:List TS):(lens l).length=l.length:=by simp [lens]
def atC (cols:List (List Int)) (i k s:Nat):Nat:=(srcC (cols.take (if s<k then i+1 else i)) s).length
def PreOk (ls:List Nat) (cols:List (List Int)) (i k:Nat):Prop:=∀ s n,ls[s]?=some n→srcC (cols.take (if s<k then i+1 else i)) s=upto (atC cols i k s)∧atC cols i k s≤n
theorem PreOk.start (ls:List Nat) (cols:List (List Int)):PreOk ls cols 0 0:=fun s n _=>by
 unfold atC
 rw [if_neg (by omega)]
 exact⟨rfl,Nat.zero_le _⟩
theorem atC_zero (cols:List (List Int)) (s:Nat):atC cols 0 0 s=0:=by unfold atC;rw [if_neg (by omega)];rfl
theorem atC_row {cols:List (List Int)} {i n s:Nat} (h:s<n):atC cols i n s=atC cols (i+1) 0 s:=by unfold atC;rw [if_pos h,if_neg (by omega)]
theorem PreOk.row {ls:List Nat} {cols:List (List Int)} {i:Nat} (h:PreOk ls cols i ls.length):PreOk ls cols (i+1) 0:=fun s n hs=>by
 have hl:=(List.getElem?_eq_some_iff.1 hs).1
 have:=h s n hs
 rw [atC_row hl,if_pos hl] at this
 rw [if_neg (by omega)]
 exact this
theorem srcC_take {cols:List (List Int)} {i:Nat} {r:List Int} (h:cols[i]?=some r) (s:Nat):srcC (cols.take (i+1)) s=srcC (cols.take i) s++(if r.getD s (-1) = -1 then [] else [r.getD s (-1)]):=by
 rw [take_snoc _ _ _ h,srcC_app,srcC_cons]
 simp [srcC]
theorem atC_other {cols:List (List Int)} {i k s:Nat} (h:s≠k):atC cols i (k+1) s=atC cols i k s:=by
 unfold atC
 by_cases h1:s<k
 ·rw [if_pos h1,if_pos (by omega)]
 ·rw [if_neg h1,if_neg (by omega)]
theorem atC_gap {cols:List (List Int)} {i k:Nat} {r:List Int} (hr:cols[i]?=some r) (hz:r[k]?=some (-1)):atC cols i (k+1) k=atC cols i k k:=by
 unfold atC
 rw [if_pos (by omega),if_neg (by omega),srcC_take hr,List.getD_eq_getElem?_getD,hz]
 simp
theorem atC_tok {cols:List (List Int)} {i k:Nat} {r:List Int} {z:Int} (hr:cols[i]?=some r) (hz:r[k]?=some z) (h:z ≠ -1):atC cols i (k+1) k=atC cols i k k+1:=by
 unfold atC
 rw [if_pos (by omega),if_neg (by omega),srcC_take hr,List.getD_eq_getElem?_getD,hz]
 simp [h]
theorem PreOk.gap {ls:List Nat} {cols:List (List Int)} {i k:Nat} {r:List Int} (h:PreOk ls cols i k) (hr:cols[i]?=some r) (hz:r[k]?=some (-1)):PreOk ls cols i (k+1):=fun s n hs=>by
 have:=h s n hs
 by_cases e:s=k
 ·subst e
  rw [atC_gap hr hz]
  rw [if_neg (by omega)] at this
  rw [if_pos (by omega),srcC_take hr,List.getD_eq_getElem?_getD,hz]
  simpa using this
 ·rw [atC_other e]
  by_cases h1:s<k
  ·rw [if_pos h1] at this;rw [if_pos (by omega)];exact this
  ·rw [if_neg h1] at this;rw [if_neg (by omega)];exact this
theorem PreOk.tok {ls:List Nat} {cols:List (List Int)} {i k:Nat} {r:List Int} {z:Int} (h:PreOk ls cols i k) (hr:cols[i]?=some r) (hz:r[k]?=some z) (hz0:z ≠ -1) (he:z=(atC cols i k k:Nat)) (hlt:∀ n,ls[k]?=some n→atC cols i k k<n):PreOk ls cols i (k+1):=fun s n hs=>by
 have:=h s n hs
 by_cases e:s=k
 ·subst e
  have hl:=hlt n hs
  rw [atC_tok hr hz hz0]
  rw [if_neg (by omega)] at this
  rw [if_pos (by omega),srcC_take hr,List.getD_eq_getElem?_getD,hz,this.1]
  refine ⟨?_,hl⟩
  simp only [Option.getD_some]
  rw [if_neg hz0,upto_succ,he]
 ·rw [atC_other e]
  by_cases h1:s<k
  ·rw [if_pos h1] at this;rw [if_pos (by omega)];exact this
  ·rw [if_neg h1] at this;rw [if_neg (by omega)];exact this
theorem PreOk.bad {ls:List Nat} {cols:List (List Int)} {i k n:Nat} {r:List Int} {z:Int} (h:PreOk ls cols i k) (hr:cols[i]?=some r) (hz:r[k]?=some z) (hz0:z ≠ -1) (hk:ls[k]?=some n) (hc:ColsOk ls cols):z=(atC cols i k k:Nat)∧atC cols i k k<n:=by
 have h1:=(h k n hk).1
 rw [if_neg (by omega)] at h1
 have h2:=hc.src k n hk
 have h3:srcC cols k=srcC (cols.take i) k++([z]++srcC (cols.drop (i+1)) k):=by
  have e:cols=cols.take (i+1)++cols.drop (i+1):=(List.take_append_drop _ _).symm
  rw [← List.append_assoc]
  conv=>lhs;rw [e,srcC_app,srcC_take hr,List.getD_eq_getElem?_getD,hz]
  simp [hz0]
 rw [h2,h1] at h3
 have h4:(upto n)[atC cols i k k]?=some z:=by
  rw [h3,List.getElem?_append_right (by rw [upto_len];exact Nat.le_refl _),upto_len,Nat.sub_self]
  rfl
 have h5:atC cols i k k<n:=by
  have:=(List.getElem?_eq_some_iff.1 h4).1
  rwa [upto_len] at this
 rw [upto_get h5] at h4
 exact⟨(Option.some.inj h4).symm,h5⟩
theorem PreOk.all {ls:List Nat} {cols:List (List Int)} (h:PreOk ls cols cols.length 0) (hlen:∀ x∈cols,x.length=ls.length) (hsome:∀ x∈cols,∃ z∈x,z ≠ -1) (hn:∀ s n,ls[s]?=some n→atC cols cols.length 0 s=n):ColsOk ls cols:=by
 refine ⟨hlen,hsome,fun s n hs=>?_⟩
 have:=(h s n hs).1
 rw [if_neg (by omega),List.take_of_length_le (Nat.le_refl _),hn s n hs] at this
 exact this
open Classical in
noncomputable def chkC (l:List TS) (cols:List (List Int)):Int:=if l.length=0 then 5 else if ColsOk (lens l) cols then 0 else 19
theorem chkC_ok {l:List TS} {cols:List (List Int)} (h0:l.length≠0) (h:ColsOk (lens l) cols):chkC l cols=0:=by unfold chkC;rw [if_neg h0,if_pos h]
theorem chkC_bad {l:List TS} {cols:List (List Int)} (h0:l.length≠0) (h:¬ ColsOk (lens l) cols):chkC l cols=19:=by unfold chkC;rw [if_neg h0,if_neg h]
theorem chkC_zero {l:List TS} {cols:List (List Int)} (h0:l.length=0):chkC l cols=5:=if_pos h0
theorem rowSrc {w:World} {Au:Option Addr} {r:List Int} (h:0<r.length→∃ b o,Au=some ⟨b,o,none⟩∧∀ (k:Nat) z,r[k]?=some z→wr w b (o+k)=some (.int .i64 z)):Src w 1 Au r.length (r.map (Value.int .i64)):=⟨by rw [List.length_map,Nat.mul_one],fun h9=>by
 obtain⟨bu,ou,rfl,hbu⟩:=h h9
 refine ⟨rfl,fun j u hu=>?_⟩
 rw [List.getElem?_map] at hu
 cases hz:r[j]? with
 | none=>rw [hz] at hu;cases hu
 | some z=>rw [hz] at hu;cases hu;exact hbu j z hz⟩
theorem rowHd {w:World} {b o n i:Nat} {Au:Option Addr} {m cap:Nat} {cs:List Value} (hcs:Src w 1 (some ⟨b,o,none⟩) n cs) (hi:i<n) (hu:cs[i]?=some (.slice Au m cap)):RdC w b (o+(i:Int).toNat * 1) [.slice Au m cap]:=by
 have h9:=(hcs.get1 (i:=i) hi hu).2
 rw [Nat.mul_one] at h9
 rw [off1]
 exact h9
end Go.Proofs.YtblnhdnogjijiaaGreatDoor
namespace Go.Proofs.YtblnhdnogjijiaaGreatDoor
open Go.RowKit Go.Shelf Go.Proofs
set_option maxRecDepth 100000
set_option maxHeartbeats 4000000

theorem out_hle {A2 X:Option Addr} {c2 nn Y o:Nat} {cs HS hs:List Value} {cl:List Int} {out:List (List Int)} {J:List HA} (hcs:cs=cl.map (Value.int .i64)) :
  Hle (row 3 1 A2 c2 nn cs::dat hs (out.map intsD)::row 47 1 X Y o HS::J) (row 47 1 X Y o HS::dat (hs++[.slice A2 nn c2]) ((out++[cl]).map intsD)::J):=by
 subst hcs
 refine dat_rowV.trans (dat_join.trans ?_)
 have ej:out.map intsD++[D.s 1 ((cl.map (Value.int .i64)).map .v)]=(out++[cl]).map intsD:=by
  rw [List.map_append,List.map_map];rfl
 rw [ej]
 exact Hle.perm (List.Perm.swap _ _ _)
end Go.Proofs.YtblnhdnogjijiaaGreatDoor
namespace Go.Proofs.YtblnhdnogjijiaaGreatDoor
open Go.RowKit Go.Shelf Go.Proofs

def takS (l:List TS) (ord:List Nat) (j:Nat):List TS:=(ord.take j).map (tsA l)
def stgV (c:Costs) (l:List TS) (ord:List Nat):Nat→List (List Int)
 | 0=>[]
 | j+1=>addV c (takS l ord j) (stgV c l ord j) (tsA l (ord.getD j 0)).l 0 0
theorem ord_get {ord:List Nat} {j:Nat} (h:j<ord.length):ord[j]?=some (ord.getD j 0):=by
 rw [List.getD_eq_getElem?_getD,List.getElem?_eq_getElem h];rfl
theorem takS_succ {l:List TS} {ord:List Nat} {j:Nat} (h:j<ord.length):takS l ord (j+1)=takS l ord j++[tsA l (ord.getD j 0)]:=by
 unfold takS;rw [take_snoc _ _ _ (ord_get h),List.map_append];rfl
theorem takS_len {l:List TS} {ord:List Nat} {j:Nat} (h:j≤ord.length):(takS l ord j).length=j:=by
 unfold takS;rw [List.length_map,List.length_take];omega
theorem tsA_mem {l:List TS} {i:Nat} (h:i<l.length):tsA l i∈l:=by
 have e:l[i]?=some l[i]:=List.getElem?_eq_getElem h
 rw [tsA_eq e];exact List.getElem_mem h
theorem takS_mem {l:List TS} {ord:List Nat} (hlt:∀ k∈ord,k<l.length) {j:Nat}:∀ t∈takS l ord j,t∈l:=fun t ht=>by
 unfold takS at ht
 obtain⟨k,hk,rfl⟩:=List.mem_map.1 ht
 exact tsA_mem (hlt k (List.mem_of_mem_take hk))
theorem ord_lt {l:List TS} {ord:List Nat} (hlt:∀ k∈ord,k<l.length) {j:Nat} (h:j<ord.length):ord.getD j 0<l.length:=hlt _ (List.mem_of_getElem? (ord_get h))
theorem lens_app (a b:List TS):lens (a++b)=lens a++lens b:=by unfold lens;rw [List.map_append]
theorem stgV_ok {c:Costs} {l:List TS} {ord:List Nat} (hlt:∀ k∈ord,k<l.length) (hln:∀ t∈l,t.l.length=t.n):∀ j,j≤ord.length→ColsOk (lens (takS l ord j)) (stgV c l ord j)
 | 0,_=>ColsOk.nil
 | j+1,h=>by
  have ih:=stgV_ok (c:=c) hlt hln j (by omega)
  rw [takS_succ (by omega),lens_app]
  have e:=hln _ (tsA_mem (ord_lt hlt (show j<ord.length by omega)))
  have:=addV_ok (c:=c) (l:=takS l ord j) (t:=(tsA l (ord.getD j 0)).l) (by rw [lens_len]) ih
  rw [e] at this
  exact this
theorem stgV_len {c:Costs} {l:List TS} {ord:List Nat} (hlt:∀ k∈ord,k<l.length) {M:Nat} (hln:∀ t∈l,t.l.length≤M):∀ j,j≤ord.length→(stgV c l ord j).length≤j * M
 | 0,_=>Nat.zero_le _
 | j+1,h=>by
  have ih:=stgV_len (c:=c) hlt hln j (by omega)
  have h1:=addV_len c (takS l ord j) (stgV c l ord j) (tsA l (ord.getD j 0)).l
  have h2:=hln _ (tsA_mem (ord_lt hlt (show j<ord.length by omega)))
  rw [Nat.succ_mul]
  show (addV c (takS l ord j) (stgV c l ord j) (tsA l (ord.getD j 0)).l 0 0).length≤_
  omega
theorem badS_tak {l:List TS} {ord:List Nat} (hlt:∀ k∈ord,k<l.length) (h:badS l=false) (j:Nat):badS (takS l ord j)=false:=by
 unfold badS at h ⊢
 rw [List.any_eq_false] at h ⊢
 exact fun t ht=>h t (takS_mem hlt t ht)
theorem Grp.tak {w:World} {A A':Option Addr} {n:Nat} {l:List TS} {ord:List Nat} (hg:Grp w A n l) (hlt:∀ k∈ord,k<l.length) {j:Nat} (hj:j≤ord.length) (hjb:j≤32) (hs:Src w 1 A' j ((takS l ord j).map TS.val)):Grp w A' j (takS l ord j) :=
 ⟨hg.hst,hs,takS_len hj,hjb,⟨fun t ht=>hg.ok.src t (takS_mem hlt t ht),fun t ht=>hg.ok.len t (takS_mem hlt t ht),fun t ht=>hg.ok.bd t (takS_mem hlt t ht)⟩,fun t ht=>hg.nb t (takS_mem hlt t ht),fun t ht=>hg.sm t (takS_mem hlt t ht)⟩
def alnP (c:Costs) (l:List TS):List (List Int):=(stgV c l (orderV (dstT c l) l.length) l.length).map (arrR (orderV (dstT c l) l.length))
def alnA (c:Costs) (l:List TS):List (List Int) × Int:=if ck21 c l=0 then (alnP c l,0) else ([],1)
end Go.Proofs.YtblnhdnogjijiaaGreatDoor
namespace Go.Proofs.YtblnhdnogjijiaaGreatDoor
open Go.RowKit Go.Shelf Go.Proofs

theorem pigeon2:∀ (n:Nat) (l:List Nat),l.Nodup→(∀ x∈l,x<n)→l.length≤n
 | 0,l,_,h=>by
  cases l with
  | nil=>simp
  | cons x l=>exact absurd (h x (List.mem_cons_self ..)) (by omega)
 | n+1,l,hd,h=>by
  have h1:=pigeon2 n (l.erase n) (hd.erase n) (fun x hx=>by
   have h2:=(hd.mem_erase_iff).1 hx
   have:=h x h2.2
   have:=h2.1
   omega)
  have h2:l.length≤(l.erase n).length+1:=by
   by_cases hm:n∈l
   ·rw [List.length_erase_of_mem hm];omega
   ·rw [List.erase_of_not_mem hm];omega
  omega
theorem ord_surj {ord:List Nat} {n:Nat} (hd:ord.Nodup) (hlt:∀ x∈ord,x<n) (hl:ord.length=n) {s:Nat} (hs:s<n):∃ k,k<n∧ord.getD k 0=s:=by
 have hm:s∈ord:=Classical.byContradiction fun h=>by
  have:=pigeon2 n (s::ord) (List.nodup_cons.2 ⟨h,hd⟩) (fun x hx=>by
   rcases List.mem_cons.1 hx with rfl|hx
   ·exact hs
   ·exact hlt x hx)
  simp only [List.length_cons] at this
  omega
 obtain⟨k,hk,e⟩:=List.getElem_of_mem hm
 exact⟨k,by omega,by rw [List.getD_eq_getElem?_getD,List.getElem?_eq_getElem hk];exact e⟩
theorem ord_inj {ord:List Nat} (hd:ord.Nodup) {i k:Nat} (hi:i<ord.length) (hk:k<ord.length) (h:ord.getD i 0=ord.getD k 0):i=k:=by
 rw [List.getD_eq_getElem?_getD,List.getElem?_eq_getElem hi,List.getD_eq_getElem?_getD,List.getElem?_eq_getElem hk] at h
 exact (List.getElem_inj hd).1 h
theorem arrJ_get {ord:List Nat} {r:List Int} (hd:ord.Nodup) (hl:ord.length=r.length) (hlt:∀ x∈ord,x<r.length) {k:Nat} (hk:k<r.length):∀ j,j≤r.length→(arrJ ord r j)[ord.getD k 0]?=some (if k<j then r.getD k 0 else 0)
 | 0,_=>by
  have:=hlt _ (List.mem_of_getElem? (ord_get (show k<ord.length by omega)))
  rw [if_neg (by omega),arrJ,List.getElem?_replicate,if_pos this]
 | j+1,h=>by
  have ih:=arrJ_get hd hl hlt hk j (by omega)
  have hj:=hlt _ (List.mem_of_getElem? (ord_get (show j<ord.length by omega)))
  rw [arrJ,List.getElem?_set,arrJ_len]
  by_cases e:ord.getD j 0=ord.getD k 0
  ·have e2:=ord_inj hd (by omega) (by omega) e
   subst e2
   rw [if_pos rfl,if_pos hj,if_pos (by omega)]
  ·rw [if_neg e,ih]
   have:j≠k:=fun h9=>e (by rw [h9])
   by_cases h1:k<j
   ·rw [if_pos h1,if_pos (by omega)]
   ·rw [if_neg h1,if_neg (by omega)]
theorem arrR_len (ord:List Nat) (r:List Int):(arrR ord r).length=r.length:=arrJ_len ord r _
theorem arrR_get {ord:List Nat} {r:List Int} (hd:ord.Nodup) (hl:ord.length=r.length) (hlt:∀ x∈ord,x<r.length) {k:Nat} (hk:k<r.length):(arrR ord r)[ord.getD k 0]?=r[k]?:=by
 unfold arrR
 rw [arrJ_get hd hl hlt hk _ (Nat.le_refl _),if_pos hk,List.getD_eq_getElem?_getD,List.getElem?_eq_getElem hk]
 rfl
theorem arr_ok {ord:List Nat} {n:Nat} (hd:ord.Nodup) (hl:ord.length=n) (hlt:∀ x∈ord,x<n) {ls:List Nat} (hls:ls.length=n) {cols:List (List Int)} (h:ColsOk (ord.map fun k=>ls.getD k 0) cols):ColsOk ls (cols.map (arrR ord)):=by
 have hrl:∀ r∈cols,r.length=n:=fun r hr=>by rw [h.len r hr,List.length_map,hl]
 refine ⟨fun x hx=>?_,fun x hx=>?_,fun s m hs=>?_⟩
 ·obtain⟨r,hr,rfl⟩:=List.mem_map.1 hx
  rw [arrR_len,hrl r hr,hls]
 ·obtain⟨r,hr,rfl⟩:=List.mem_map.1 hx
  obtain⟨z,hz,hz1⟩:=h.some_ r hr
  obtain⟨k,hk,e⟩:=List.getElem_of_mem hz
  have hrn:=hrl r hr
  have:=arrR_get hd (by omega) (fun x hx=>by rw [hrn];exact hlt x hx) hk
  rw [List.getElem?_eq_getElem hk,e] at this
  exact⟨z,List.mem_of_getElem? this,hz1⟩
 ·have hsn:s<n:=by have:=(List.getElem?_eq_some_iff.1 hs).1;omega
  obtain⟨k,hk,rfl⟩:=ord_surj hd hlt hl hsn
  have h1:=h.src k m (by
   rw [List.getElem?_map,ord_get (show k<ord.length by omega)]
   show some (ls.getD (ord.getD k 0) 0)=some m
   rw [List.getD_eq_getElem?_getD,hs]
   rfl)
  rw [← h1]
  unfold srcC
  rw [List.map_map]
  refine congrArg _ (List.map_congr_left fun r hr=>?_)
  have hrn:=hrl r hr
  show (arrR ord r).getD (ord.getD k 0) (-1)=r.getD k (-1)
  rw [List.getD_eq_getElem?_getD,arrR_get hd (by omega) (fun x hx=>by rw [hrn];exact hlt x hx) (by omega),List.getD_eq_getElem?_getD]
theorem lens_ord (l:List TS) {ord:List Nat} (hlt:∀ k∈ord,k<l.length):lens (takS l ord ord.length)=ord.map fun k=>(lens l).getD k 0:=by
 unfold takS lens
 rw [List.take_of_length_le (Nat.le_refl _),List.map_map]
 refine List.map_congr_left fun k hk=>?_
 have e:l[k]?=some (l[k]'(hlt k hk)):=List.getElem?_eq_getElem (hlt k hk)
 show (tsA l k).n=_
 rw [tsA_eq e,List.getD_eq_getElem?_getD,List.getElem?_map,e]
 rfl
theorem alnP_ok {c:Costs} {l:List TS} (h:ck21 c l=0) (hln:∀ t∈l,t.l.length=t.n) (hb:∀ t∈l,t.l.length≤1000):ColsOk (lens l) (alnP c l):=by
 have hbd:=dstT_bd (ck21_ok h).1 hb
 obtain⟨hd,hlt⟩:=orderV_ok (fun i k=>(hbd i k).1) l.length
 have hol:=orderV_len (dstT c l) l.length
 have h1:=stgV_ok (c:=c) hlt hln (orderV (dstT c l) l.length).length (Nat.le_refl _)
 rw [lens_ord l hlt] at h1
 have h2:=arr_ok hd hol hlt (by rw [lens_len]) h1
 unfold alnP
 rw [hol] at h2
 exact h2
end Go.Proofs.YtblnhdnogjijiaaGreatDoor
namespace Go.Proofs.YtblnhdnogjijiaaGreatDoor

def sumI (g:Nat→Int):List Nat→Int
 | []=>0
 | x::l=>g x+sumI g l
theorem sumI_congr {g h:Nat→Int}:∀ {l:List Nat},(∀ x∈l,g x=h x)→sumI g l=sumI h l
 | [],_=>rfl
 | y::l,e=>by unfold sumI;rw [e y (List.mem_cons_self ..),sumI_congr (l:=l) fun x hx=>e x (List.mem_cons_of_mem _ hx)]
def pS (g:Nat→Nat→Int):List Nat→Int
 | []=>0
 | a::l=>sumI (fun y=>g y a) l+pS g l
theorem psum_append (f:Nat→Nat→Int) (ps:List (Nat × Nat)):∀ qs:List (Nat × Nat),psum f (ps++qs)=psum f ps+psum f qs:=by
 intro qs
 unfold psum
 rw [List.foldl_append]
 generalize List.foldl (fun s p=>s+f p.1 p.2) 0 ps=z
 have key:∀ (qs:List (Nat × Nat)) (z:Int),qs.foldl (fun s p=>s+f p.1 p.2) z=z+qs.foldl (fun s p=>s+f p.1 p.2) 0:=by
  intro qs
  induction qs with
  | nil=>intro z;simp
  | cons q qs ih=>intro z;simp only [List.foldl_cons];rw [ih,ih (0+f q.1 q.2)];omega
 exact key qs z
theorem psum_rowP (f:Nat→Nat→Int) (k:Nat):∀ i,psum f (rowP i k)=sumI (fun q=>f q k) (List.range i).reverse
 | 0=>rfl
 | i+1=>by
  rw [rowP_succ,psum_snoc,psum_rowP f k i,List.range_succ,List.reverse_append,List.reverse_singleton,List.singleton_append]
  simp only [sumI]
  omega
theorem psum_pS (f:Nat→Nat→Int):∀ n,psum f (pairsL n)=pS f (List.range n).reverse
 | 0=>rfl
 | n+1=>by
  rw [pairsL_succ,psum_append,psum_pS f n,psum_rowP,List.range_succ,List.reverse_append,List.reverse_singleton,List.singleton_append]
  simp only [pS]
  omega
theorem pS_congr {g h:Nat→Nat→Int}:∀ {l:List Nat},(∀ x∈l,∀ y∈l,g x y=h x y)→pS g l=pS h l
 | [],_=>rfl
 | a::l,e=>by
  unfold pS
  rw [pS_congr (l:=l) fun x hx y hy=>e x (List.mem_cons_of_mem _ hx) y (List.mem_cons_of_mem _ hy),sumI_congr (h:=fun y=>h y a) fun x hx=>e x (List.mem_cons_of_mem _ hx) a (List.mem_cons_self ..)]
theorem psum_congr {f g:Nat→Nat→Int} {n:Nat} (h:∀ i k,i<n→k<n→f i k=g i k):psum f (pairsL n)=psum g (pairsL n):=by
 rw [psum_pS,psum_pS]
 refine pS_congr fun i hi k hk=>?_
 rw [List.mem_reverse,List.mem_range] at hi hk
 exact h i k hi hk
theorem flat_set {α:Type} (cells:α→List Value) (sz:Nat) (hsz:∀ t,(cells t).length=sz):∀ (l:List α) (i:Nat) (t:α),i<l.length→setL (l.flatMap cells) (i * sz) (cells t)=(l.set i t).flatMap cells
 | [],i,t,h=>by simp at h
 | x::l,0,t,h=>by
  rw [List.set_cons_zero,List.flatMap_cons,List.flatMap_cons,Nat.zero_mul]
  have key:∀ (us xs ys zs:List Value),us.length=xs.length→setL (zs++xs++ys) zs.length us=zs++us++ys:=by
   intro us
   induction us with
   | nil =>
    intro xs ys zs h
    have e:xs=[]:=List.eq_nil_of_length_eq_zero (by simpa using h.symm)
    subst e;simp [setL]
   | cons u us ih =>
    intro xs ys zs h
    obtain⟨x,xs,rfl⟩:∃ y ys,xs=y::ys:=by cases xs with|nil=>simp at h|cons y ys=>exact⟨y,ys,rfl⟩
    simp only [setL]
    have e:(zs++x::xs++ys).set zs.length u=(zs++[u])++xs++ys:=by
     rw [List.append_assoc,List.set_append_right _ _ (Nat.le_refl _),Nat.sub_self];simp
    rw [e,show zs.length+1=(zs++[u]).length by simp,ih xs ys (zs++[u]) (by simpa using h)]
    simp
  have:=key (cells t) (cells x) (l.flatMap cells) [] (by rw [hsz,hsz])
  simpa using this
 | x::l,i+1,t,h=>by
  rw [List.set_cons_succ,List.flatMap_cons,List.flatMap_cons, ← flat_set cells sz hsz l i t (by simpa using h)]
  have key:∀ (us xs ys:List Value) (k:Nat),setL (xs++ys) (xs.length+k) us=xs++setL ys k us:=by
   intro us
   induction us with
   | nil=>intro xs ys k;rfl
   | cons u us ih =>
    intro xs ys k
    simp only [setL]
    rw [List.set_append_right _ _ (by omega),Nat.add_sub_cancel_left,Nat.add_assoc,ih]
  rw [← key,hsz,Nat.succ_mul,Nat.add_comm sz]
theorem flatTok_set (l:List Tok) (i:Nat) (t:Tok) (h:i<l.length):setL (l.flatMap Tok.cells) (i * 6) t.cells=(l.set i t).flatMap Tok.cells:=flat_set Tok.cells 6 (fun _=>rfl) l i t h
end Go.Proofs.YtblnhdnogjijiaaGreatDoor
namespace Go.Proofs.YtblnhdnogjijiaaGreatDoor
open Go.RowKit Go.Shelf Go.Proofs

def zC (c:Costs) (l:List TS) (col:List Int) (i k:Nat):Int:=entC c (tsA l i).l (col.getD i (-1)) (tsA l k).l (col.getD k (-1))
def colZ (c:Costs) (l:List TS) (col:List Int):Int:=psum (zC c l col) (pairsL l.length)
def totZ (c:Costs) (l:List TS) (cols:List (List Int)):Int:=(cols.map (colZ c l)).sum
theorem colZ_bd {c:Costs} (hc:costE c=0) {l:List TS} (hl:l.length≤32) (col:List Int):0≤colZ c l col∧colZ c l col≤1024000:=by
 have h1:=psum_bd (f:=zC c l col) (M:=1000) (by omega) (pairsL l.length) fun p _=>entC_bd hc _ _ _ _
 have h2:=pairsL_len l.length
 have h3:l.length * l.length≤32 * 32:=Nat.mul_le_mul hl hl
 unfold colZ
 omega
theorem columnV_Z {c:Costs} (hc:costE c=0) {l:List TS} (hbs:badS l=false) (hln:∀ t∈l,t.l.length=t.n) (hn:l.length≤32) {col:List Int} (hcol:ColOk l col) {own:List Tok} {th:List Bool} (ho:own.length=l.length) (ht:th.length=l.length)
  (h1:∀ i,i<l.length→thA th i=decide (0≤col.getD i (-1))) (h2:∀ i,i<l.length→0≤col.getD i (-1)→tkA own i=tkA (tsA l i).l (col.getD i (-1)).toNat):columnV c own th=(colZ c l col,0):=by
 have hmem:∀ i,i<l.length→0≤col.getD i (-1)→tkA (tsA l i).l (col.getD i (-1)).toNat∈(tsA l i).l:=fun i hi h0=>by
  have hci:col[i]?=some (col.getD i (-1)):=by rw [List.getD_eq_getElem?_getD,List.getElem?_eq_getElem (by rw [hcol.1];exact hi)];rfl
  have hli:l[i]?=some (tsA l i):=by rw [tsA_eq (List.getElem?_eq_getElem hi)];exact List.getElem?_eq_getElem hi
  have:=hcol.2 i _ _ hci hli
  exact tkA_mem2 h0 (by rw [hln _ (tsA_mem hi)];exact this.2)
 have hbad:badCol own th=false:=badCol_false fun j hj hth=>by
  rw [ho] at hj
  rw [h1 j hj] at hth
  have h0:0≤col.getD j (-1):=of_decide_eq_true hth
  rw [h2 j hj h0]
  exact badS_ok hbs _ (tsA_mem hj) _ (hmem j hj h0)
 unfold columnV colZ
 rw [if_neg (by simp [hc]),if_neg (by omega),if_neg (by omega),if_neg (by rw [hbad];simp),ho]
 refine congrArg (fun x=>(x,(0:Int))) (psum_congr fun i k hi hk=>?_)
 unfold cellC zC entC
 rw [h1 i hi,h1 k hk]
 have e1:=h2 i hi
 have e2:=h2 k hk
 generalize col.getD i (-1)=x at e1 ⊢
 generalize col.getD k (-1)=y at e2 ⊢
 by_cases hi0:0≤x
 ·by_cases hk0:0≤y
  ·rw [e1 hi0,e2 hk0];simp [hi0,hk0]
  ·rw [e1 hi0];simp [hi0,hk0]
 ·by_cases hk0:0≤y
  ·rw [e2 hk0];simp [hi0,hk0]
  ·simp [hi0,hk0]
theorem upto_drop {n p:Nat} (h:p<n):(upto n).drop p=(p:Int)::(upto n).drop (p+1):=by
 rw [List.drop_eq_getElem_cons (by rw [upto_len];exact h)]
 have e:=upto_get h
 rw [List.getElem?_eq_getElem (by rw [upto_len];exact h)] at e
 rw [Option.some.inj e]
end Go.Proofs.YtblnhdnogjijiaaGreatDoor
namespace Go.Proofs.YtblnhdnogjijiaaGreatDoor

def prjR (keep:List Nat) (x:List Int):List Int:=keep.map fun s=>x.getD s (-1)
def anyP (x:List Int):Bool:=x.any fun z=>decide (0≤z)
def prjC (keep:List Nat) (cols:List (List Int)):List (List Int):=(cols.map (prjR keep)).filter anyP
theorem prjR_len (keep:List Nat) (x:List Int):(prjR keep x).length=keep.length:=by simp [prjR]
end Go.Proofs.YtblnhdnogjijiaaGreatDoor
namespace Go.Proofs.YtblnhdnogjijiaaGreatDoor
open Go.RowKit Go.Shelf Go.Proofs
set_option maxRecDepth 100000
set_option maxHeartbeats 1000000

theorem srcs19a_spec (t:TS) (w:World):Spec Tryz.prog 173 [t.val] w (fun v R=>v = .bool (decide ((1024:Int)<t.n))∧R=[]):=by
 refine spec_of sg Tryz.func173 rfl rfl rfl ?_
 repeat' (first|refine d1 ?_|(show T _ (.code .ret::_) _ _ _;refine T_retV [] rfl (Hle.refl _) ⟨rfl,rfl⟩))
theorem srcs19_spec (A:Option Addr) (n ca:Nat) (l:List TS) (w:World) (hgp:Grp w A n l):Spec Tryz.prog 113 [.slice A n ca] w (fun v R=>v = .int .i64 (if n=0 then 5 else 0)∧R=[]):=by
 refine spec_of sg Tryz.func113 rfl rfl rfl ?_
 have hb:=hgp.hb
 have hno:(l.any fun t=>decide ((1024:Int)<t.n))=false:=by
  rw [List.any_eq_false]
  intro t ht
  have:=hgp.nb t ht
  simp;omega
 repeat' (first|refine d1 ?_|fail)
 refine T_if rfl (fun h=>?_) (fun h=>?_)
 ·simp only [decide_eq_true_eq] at h
  repeat' (first|refine d1 ?_|(show T _ (.code .ret::_) _ _ _;refine T_retV [] rfl (Hle.refl _) ⟨congrArg (Value.int .i64) (if_pos (by omega)).symm,rfl⟩))
 simp only [decide_eq_false_iff_not] at h
 repeat' (first|refine d1 ?_|(show T _ (.ops _ (_::_)::_) _ _ _;refine T_callC rfl rfl rfl rfl rfl rfl rfl (fun hg w hw=>containsFuncS_spec A n ca l _ [] [] (fun t=>decide ((1024:Int)<t.n)) w (rdSrc hgp.hs w hw) hgp.hn (by omega) (fun x hx w' hb'=>srcs19a_spec x w')) ?_)|fail)
 refine T_if rfl (fun h1=>?_) (fun h1=>?_)
 ·exfalso
  rw [hno] at h1
  simp at h1
  omega
 ·repeat' (first|refine d1 ?_|(show T _ (.code .ret::_) _ _ _;refine T_retV [] rfl (Hle.refl _) ⟨congrArg (Value.int .i64) (if_neg (by omega)).symm,rfl⟩))
theorem usable1_spec (t:Tok) (ht:t.small) (w:World) (hst:Std w):Spec Tryz.prog 156 [t.val] w (fun v A=>v = .bool (!decide (tokE t=0))∧A=[]):=by
 refine spec_of sg Tryz.func156 rfl rfl rfl ?_
 repeat' (first|(show T _ (.ops _ (⟨_, .box _ _,_,_,_,_⟩::_)::_) _ _ _;refine T_op (OpT.box (cs:=t.cells) rfl rfl rfl rfl rfl rfl rfl (fun _=>?_)))|refine d1 ?_|(show T _ (.ops _ (_::_)::_) _ _ _;refine T_call rfl rfl rfl rfl rfl (fun w hw=>tokPrg_spec t ht w (hst.cls hw)) ?_)|(show T _ (.code .ret::_) _ _ _;refine T_retV [] rfl (Hle.none _) ⟨rfl,rfl⟩))
theorem usable2_spec (A:Option Addr) (n c:Nat) (l:List Tok) (p:Nat) (w:World) (hst:Std w) (hs:Src w 6 A n (l.flatMap Tok.cells)) (hn:l.length=n) (hb:n≤9223372036854775807) (hsm:∀ x∈l,x.small) (hp:RdC w p 0 [.func (.func 156) #[] #[]]) :
  Spec Tryz.prog 157 [.slice A n c, .pointer (some ⟨p,0,none⟩)] w (fun v R=>v = .bool (badL l)∧R=[]):=by
 refine spec_of sg Tryz.func157 rfl rfl rfl ?_
 repeat' (first|refine d1 ?_|(show T _ (.ops _ (_::_)::_) _ _ _;refine T_call rfl rfl rfl rfl rfl (fun w hw=>containsFuncT_spec A n c l _ [] [] (fun t => !decide (tokE t=0)) w (rdSrc hs w hw) hn hb (fun x hx w' hb'=>usable1_spec x (hsm x hx) w' (hst.below (hw.below.trans (hb'.mono hw.below.size))))) ?_)|(show T _ (.code .ret::_) _ _ _;refine T_retV [] rfl (Hle.none _) ⟨rfl,rfl⟩))
def usV (c:Costs) (l:List TS):Int:=if l.length=0 then 5 else ck21 c l
theorem usable19_spec (c:Costs) (A:Option Addr) (n ca:Nat) (l:List TS) (w:World) (hgp:Grp w A n l):Spec Tryz.prog 99 [c.val, .slice A n ca] w (fun v R=>v = .int .i64 (usV c l)∧R=[]):=by
 refine spec_of sg Tryz.func99 rfl rfl rfl ?_
 have hn:=hgp.hn
 have hb:=hgp.hb
 repeat' (first|(show T _ (.ops _ (⟨_, .box _ _,_,_,_,_⟩::_)::_) _ _ _;refine T_op (OpT.box (cs:=c.cells) rfl rfl rfl rfl rfl rfl rfl (fun _=>?_)))|refine d1 ?_|(show T _ (.ops _ (_::_)::_) _ _ _;refine T_call rfl rfl rfl rfl rfl (fun w hw=>srcs19_spec A n ca l w (hgp.cls hw)) ?_)|fail)
 refine T_if rfl (fun h=>?_) (fun h=>?_)
 ·simp only [Bool.not_eq_true',decide_eq_false_iff_not] at h
  have h0:n=0:=by
   rcases Nat.eq_zero_or_pos n with h9|h9
   ·exact h9
   ·exact absurd (if_neg (by omega)) h
  rw [if_pos h0]
  repeat' (first|refine d1 ?_|(show T _ (.code .ret::_) _ _ _;refine T_retV [] rfl (Hle.none _) ⟨congrArg (Value.int .i64) (if_pos (by omega)).symm,rfl⟩))
 simp only [Bool.not_eq_false',decide_eq_true_eq] at h
 have h0:n≠0:=fun h9=>by rw [if_pos h9] at h;omega
 clear h
 repeat' (first|refine d1 ?_|(show T _ (.ops _ (_::_)::_) _ _ _;first|refine T_call rfl rfl rfl rfl rfl (fun w hw=>costPrg_spec c w) ?_|refine T_callC rfl rfl rfl rfl rfl rfl rfl (fun hg w hw=>containsFuncS_spec A n ca l _ [] [_] (fun t=>badL t.l) w (rdSrc hgp.hs w hw) hgp.hn (by omega) (fun x hx w' hb'=>usable2_spec x.A x.n x.cap x.l _ w' (hgp.hst.below (hw.below.trans (hb'.mono hw.below.size))) (src_below (hgp.ok.src x hx) (hw.below.trans (hb'.mono hw.below.size))) (hgp.ok.len x hx) (hgp.ok.bd x hx) (hgp.sm x hx) ((rdOwn1 (u := .func (.func 156) #[] #[]) rfl w hw).below hb'))) ?_)|(show ∀ _:Nat,T _ _ _ _ _;intro _))
 refine T_if rfl (fun h1=>?_) (fun h1=>?_)
 ·repeat' (first|refine d1 ?_|(show T _ (.code .ret::_) _ _ _;refine T_retV [] rfl (Hle.none _) ⟨congrArg (Value.int .i64) ?_,rfl⟩))
  unfold usV ck21
  rw [if_neg (by omega),if_neg]
  rintro⟨e1,e2⟩
  unfold badS at e2
  rw [e2] at h1
  simp [e1] at h1
 ·repeat' (first|refine d1 ?_|(show T _ (.code .ret::_) _ _ _;refine T_retV [] rfl (Hle.none _) ⟨congrArg (Value.int .i64) ?_,rfl⟩))
  unfold usV ck21
  rw [if_neg (by omega),if_pos]
  unfold badS
  simpa using h1
noncomputable def okC (l:List TS) (cols:List (List Int)):Bool:=@decide (ColsOk (lens l) cols) (Classical.propDecidable _)
theorem okC_true {l:List TS} {cols:List (List Int)} (h:ColsOk (lens l) cols):okC l cols=true:=by unfold okC;exact @decide_eq_true _ (Classical.propDecidable _) h
theorem okC_false {l:List TS} {cols:List (List Int)} (h:¬ ColsOk (lens l) cols):okC l cols=false:=by unfold okC;exact @decide_eq_false _ (Classical.propDecidable _) h
theorem aligned19_spec (A:Option Addr) (n ca:Nat) (l:List TS) (x:Value) (cols:List (List Int)) (w:World) (hg:Grp w A n l) (hx:Rd (wr w) [x] [rowsD cols]) :
  Spec Tryz.prog 105 [.slice A n ca,x] w (fun v R=>v = .bool (okC l cols)∧R=[]):=by
 obtain⟨Ak,ck,csk,rfl,hck1,hck2,hcs,hrows⟩:=hx.tabS
 have hb:=hg.hb
 have hn:=hg.hn
 refine spec_of sg Tryz.func105 rfl rfl rfl ?_
 have hbad:∀ (H:¬ ColsOk (lens l) cols),okC l cols=false:=fun H=>okC_false H
 repeat' (first|refine d1 ?_|(show T _ (.ops _ (_::_)::_) _ _ _;refine T_op (OpT.make rfl rfl rfl rfl rfl rfl rfl rfl rfl (by dsimp only;omega) (fun b1=>?_)))|fail)
 have hz:List.replicate n (Value.int .i64 0)=valV (fun s=>(atC cols 0 0 s:Nat)) n:=by
  rw [valV_replicate];exact valV_ext fun q _=>by rw [atC_zero];rfl
 refine T_loopX (fun i:Nat=>[(17, .int .i64 i)]) (fun i=>[blk b1 (valV (fun s=>(atC cols i 0 s:Nat)) n) 3]) (fun i=>i≤cols.length∧PreOk (lens l) cols i 0∧(∀ y∈cols.take i,y.length=n)∧∀ y∈cols.take i,∃ z∈y,z ≠ -1) (fun i=>cols.length - i) 0 ⟨Nat.zero_le _,PreOk.start _ _,fun y h=>by simp at h,fun y h=>by simp at h⟩ ?_ (hG:=by rw [← hz];exact Hle.refl _)
 rintro i ⟨hi,hpre,hlen,hsome⟩
 repeat' (first|refine d1 ?_|fail)
 refine T_if rfl (fun h1=>?_) (fun h1=>?_)
 ·simp only [decide_eq_true_eq] at h1
  have hin:i<cols.length:=by omega
  obtain⟨b,o,rfl⟩:=hcs.base (by omega)
  obtain⟨r,hr⟩:∃ r,cols[i]?=some r:=⟨_,List.getElem?_eq_getElem hin⟩
  have hrm:=List.mem_of_getElem? hr
  obtain⟨Au,capu,hu,hcapu,hcapu2,hA⟩:=hrows.tabRow hr
  have hr0:=rowHd hcs hin hu
  have hsr:=rowSrc hA
  repeat' (first|refine d1 ?_|fail)
  refine T_if rfl (fun h2=>?_) (fun h2=>?_)
  ·simp only [Bool.not_eq_true',decide_eq_false_iff_not] at h2
   repeat' (first|refine d1 ?_|(show T _ (.code .ret::_) _ _ _;refine T_retV [] rfl (Hle.none _) ⟨by rw [hbad fun hc=>h2 (by have:=hc.len r hrm;rw [lens_len] at this;omega)];rfl,rfl⟩))
  simp only [Bool.not_eq_false',decide_eq_true_eq] at h2
  have hrl:r.length=n:=by omega
  repeat' (first|refine d1 ?_|fail)
  refine T_loopX (fun k:Nat=>[(28, .int .i64 k),(8, .bool ((r.take k).any fun z=>decide (z ≠ -1)))]) (fun k=>[blk b1 (valV (fun s=>(atC cols i k s:Nat)) n) 3]) (fun k=>k≤n∧PreOk (lens l) cols i k) (fun k=>n - k) 0 ⟨Nat.zero_le _,hpre⟩ ?_
  rintro k ⟨hk,hp⟩
  repeat' (first|refine d1 ?_|fail)
  refine T_if rfl (fun h3=>?_) (fun h3=>?_)
  ·simp only [decide_eq_true_eq] at h3
   have hkn:k<n:=by omega
   obtain⟨bu,ou,rfl⟩:=hsr.base (by omega)
   obtain⟨z,hzk⟩:∃ z,r[k]?=some z:=⟨_,List.getElem?_eq_getElem (by omega)⟩
   have hr1:=src_int hsr (by omega) hzk
   have htk:=take_snoc _ _ _ hzk
   repeat' (first|refine d1 ?_|fail)
   refine T_if rfl (fun h4=>?_) (fun h4=>?_)
   ·simp only [decide_eq_true_eq] at h4
    subst h4
    repeat' (first|refine d1 ?_|fail)
    refine T_backX (k+1) ⟨hkn,hp.gap hr hzk⟩ (by omega) (hE:=⟨rfl,by rw [show ((r.take (k+1)).any fun z=>decide (z ≠ -1))=(r.take k).any fun z=>decide (z ≠ -1) by rw [htk,List.any_append];simp];rfl,trivial⟩) (hG:=?_)
    have e:valV (fun s=>(atC cols i (k+1) s:Nat)) n=valV (fun s=>(atC cols i k s:Nat)) n:=valV_ext fun q _=>by
     by_cases e:q=k
     ·rw [e,atC_gap hr hzk]
     ·rw [atC_other e]
    rw [e]
    exact Hle.refl _
   simp only [decide_eq_false_iff_not] at h4
   obtain⟨bs,os,rfl⟩:=hg.hs.base (by omega)
   obtain⟨t,ht,htm,hrt⟩:=hg.get hkn
   have htb:=hg.nb t htm
   repeat' (first|refine d1 ?_|(show T _ (.ops _ (_::_)::_) _ _ _;refine T_val rfl (Val.load rfl (fun hg=>rdOwn1 (b:=b1) (u := .int .i64 (atC cols i k k:Nat)) (by rw [show 0+(k:Int).toNat * 1=k by omega];exact valV_get hkn))) rfl rfl rfl ?_)|fail)
   refine T_if rfl (fun h5=>?_) (fun h5=>?_)
   ·simp only [Bool.or_eq_true,Bool.not_eq_true',decide_eq_false_iff_not,decide_eq_true_eq] at h5
    repeat' (first|refine d1 ?_|(show T _ (.code .ret::_) _ _ _;refine T_retV [] rfl (Hle.none _) ⟨by rw [hbad fun hc=>by have:=hp.bad hr hzk h4 (lens_get ht) hc;omega];rfl,rfl⟩))
   simp only [Bool.or_eq_false_iff,Bool.not_eq_false',decide_eq_true_eq,decide_eq_false_iff_not] at h5
   repeat' (first|refine d1 ?_|(show T _ (.ops _ (_::_)::_) _ _ _;first|refine T_val rfl (Val.load rfl (fun hg=>rdOwn1 (b:=b1) (u := .int .i64 (atC cols i k k:Nat)) (by rw [show 0+(k:Int).toNat * 1=k by omega];exact valV_get hkn))) rfl rfl rfl ?_|refine T_op (OpT.store rfl rfl rfl rfl (by rw [valV_length];omega) ?_))|fail)
   refine T_backX (k+1) ⟨hkn,hp.tok hr hzk h4 h5.1 (fun m hm=>by rw [lens_get ht] at hm;cases hm;omega)⟩ (by omega) (hE:=⟨rfl,by rw [show ((r.take (k+1)).any fun z=>decide (z ≠ -1))=true by rw [htk,List.any_append];simp [h4]];rfl,trivial⟩) (hG:=?_)
   rw [show 0+(k:Int).toNat * 1=k by omega,valV_put]
   have e:valV (fun s=>(atC cols i (k+1) s:Nat)) n=valV (fun q=>if q=k then (atC cols i k k:Int)+1 else (atC cols i k q:Nat)) n:=valV_ext fun q _=>by
    by_cases e:q=k
    ·subst e;rw [if_pos rfl,atC_tok hr hzk h4];rfl
    ·rw [if_neg e,atC_other e]
   rw [e]
   exact Hle.refl _
  ·simp only [decide_eq_false_iff_not] at h3
   obtain rfl:k=n:=by omega
   rw [List.take_of_length_le (by omega)]
   repeat' (first|refine d1 ?_|fail)
   refine T_if rfl (fun h4=>?_) (fun h4=>?_)
   ·simp only [Bool.not_eq_true'] at h4
    repeat' (first|refine d1 ?_|(show T _ (.code .ret::_) _ _ _;refine T_retV [] rfl (Hle.none _) ⟨by rw [hbad fun hc=>by obtain⟨z,hz1,hz2⟩:=hc.some_ r hrm;rw [List.any_eq_false] at h4;exact h4 z hz1 (by simpa using hz2)];rfl,rfl⟩))
   simp only [Bool.not_eq_false'] at h4
   rw [List.any_eq_true] at h4
   obtain⟨z,hz1,hz2⟩:=h4
   repeat' (first|refine d1 ?_|fail)
   have htk:=take_snoc _ _ _ hr
   refine T_backX (i+1) ⟨hin,PreOk.row (by rw [lens_len,hn];exact hp),fun y hy=>?_,fun y hy=>?_⟩ (by omega) (hG:=?_)
   ·rw [htk,List.mem_append,List.mem_singleton] at hy
    rcases hy with hy|rfl
    ·exact hlen y hy
    ·exact hrl
   ·rw [htk,List.mem_append,List.mem_singleton] at hy
    rcases hy with hy|rfl
    ·exact hsome y hy
    ·exact⟨z,hz1,by simpa using hz2⟩
   ·have e:valV (fun s=>(atC cols i k s:Nat)) k=valV (fun s=>(atC cols (i+1) 0 s:Nat)) k:=valV_ext fun q hq=>by rw [atC_row hq]
    rw [e]
    exact Hle.refl _
 simp only [decide_eq_false_iff_not] at h1
 obtain rfl:i=cols.length:=by omega
 rw [List.take_of_length_le (Nat.le_refl _)] at hlen hsome
 repeat' (first|refine d1 ?_|fail)
 refine T_loopX (fun k:Nat=>[(62, .int .i64 k)]) (fun _=>[blk b1 (valV (fun s=>(atC cols cols.length 0 s:Nat)) n) 3]) (fun k=>k≤n∧∀ s m,s<k→(lens l)[s]?=some m→atC cols cols.length 0 s=m) (fun k=>n - k) 0 ⟨Nat.zero_le _,fun s m h=>by omega⟩ ?_
 rintro k ⟨hk,hall⟩
 repeat' (first|refine d1 ?_|fail)
 refine T_if rfl (fun h3=>?_) (fun h3=>?_)
 ·simp only [decide_eq_true_eq] at h3
  have hkn:k<n:=by omega
  obtain⟨bs,os,rfl⟩:=hg.hs.base (by omega)
  obtain⟨t,ht,htm,hrt⟩:=hg.get hkn
  repeat' (first|refine d1 ?_|refine dd ?_|(show T _ (.run _ _ (_::_) _ _::_) _ _ _;refine rv rfl rfl rfl (Val.load rfl (fun hg=>rdOwn1 (b:=b1) (u := .int .i64 (atC cols cols.length 0 k:Nat)) (by rw [show 0+(k:Int).toNat * 1=k by omega];exact valV_get hkn))) rfl rfl rfl ?_)|fail)
  refine T_if rfl (fun h4=>?_) (fun h4=>?_)
  ·simp only [Bool.not_eq_true',decide_eq_false_iff_not] at h4
   repeat' (first|refine d1 ?_|(show T _ (.code .ret::_) _ _ _;refine T_retV [] rfl (Hle.none _) ⟨by rw [hbad fun hc=>h4 (by have h5:=hc.src k t.n (lens_get ht);have h6:=(hpre k t.n (lens_get ht)).1;rw [if_neg (by omega),List.take_of_length_le (Nat.le_refl _),h5] at h6;have:=congrArg List.length h6;rw [upto_len,upto_len] at this;omega)];rfl,rfl⟩))
  simp only [Bool.not_eq_false',decide_eq_true_eq] at h4
  repeat' (first|refine d1 ?_|fail)
  refine T_backX (k+1) ⟨hkn,fun s m hs hm=>?_⟩ (by omega)
  rcases Nat.lt_or_ge s k with h5|h5
  ·exact hall s m h5 hm
  ·rw [show s=k by omega] at hm ⊢
   rw [lens_get ht] at hm
   cases hm
   omega
 ·simp only [decide_eq_false_iff_not] at h3
  have hok:ColsOk (lens l) cols:=hpre.all (fun y hy=>by rw [lens_len,hn];exact hlen y hy) hsome fun s m hm=>hall s m (by have:=(List.getElem?_eq_some_iff.1 hm).1;rw [lens_len] at this;omega) hm
  repeat' (first|refine d1 ?_|(show T _ (.code .ret::_) _ _ _;refine T_retV [] rfl (Hle.none _) ⟨by rw [okC_true hok];rfl,rfl⟩))
theorem chkC_okC {l:List TS} {cols:List (List Int)} (h0:l.length≠0):chkC l cols=if okC l cols=true then 0 else 19:=by
 by_cases h:ColsOk (lens l) cols
 ·rw [chkC_ok h0 h,okC_true h];rfl
 ·rw [chkC_bad h0 h,okC_false h];rfl
theorem check19_spec (A:Option Addr) (n ca:Nat) (l:List TS) (x:Value) (cols:List (List Int)) (w:World) (hg:Grp w A n l) (hx:Rd (wr w) [x] [rowsD cols]) :
  Spec Tryz.prog 70 [.slice A n ca,x] w (fun v R=>v = .int .i64 (chkC l cols)∧R=[]):=by
 have hn:=hg.hn
 refine spec_of sg Tryz.func70 rfl rfl rfl ?_
 repeat' (first|refine d1 ?_|(show T _ (.ops _ (_::_)::_) _ _ _;refine T_call rfl rfl rfl rfl rfl (fun w hw=>srcs19_spec A n ca l w (hg.cls hw)) ?_)|fail)
 refine T_if rfl (fun h=>?_) (fun h=>?_)
 ·simp only [Bool.not_eq_true',decide_eq_false_iff_not] at h
  have h0:n=0:=by
   rcases Nat.eq_zero_or_pos n with h9|h9
   ·exact h9
   ·exact absurd (if_neg (by omega)) h
  rw [if_pos h0]
  repeat' (first|refine d1 ?_|(show T _ (.code .ret::_) _ _ _;refine T_retV [] rfl (Hle.refl _) ⟨by rw [chkC_zero (by omega)];rfl,rfl⟩))
 simp only [Bool.not_eq_false',decide_eq_true_eq] at h
 have h0:n≠0:=fun h9=>by rw [if_pos h9] at h;omega
 clear h
 repeat' (first|refine d1 ?_|(show T _ (.ops _ (_::_)::_) _ _ _;refine T_call rfl rfl rfl rfl rfl (fun w hw=>aligned19_spec A n ca l x cols w (hg.cls hw) (hx.old hw)) ?_)|fail)
 refine T_if rfl (fun h1=>?_) (fun h1=>?_)
 ·repeat' (first|refine d1 ?_|(show T _ (.code .ret::_) _ _ _;refine T_retV [] rfl (Hle.refl _) ⟨by rw [chkC_okC (by omega),if_neg (by simpa using h1)];rfl,rfl⟩))
 ·repeat' (first|refine d1 ?_|(show T _ (.code .ret::_) _ _ _;refine T_retV [] rfl (Hle.refl _) ⟨by rw [chkC_okC (by omega),if_pos (by simpa using h1)];rfl,rfl⟩))
end Go.Proofs.YtblnhdnogjijiaaGreatDoor
namespace Go.Proofs.YtblnhdnogjijiaaGreatDoor
open Go.RowKit Go.Shelf Go.Proofs

structure Co where
 sec:ByteArray
 sg:List ByteArray
 m:List (List Tok)
 cols:List (List Int)
def lens22 (m:List (List Tok)):List Nat:=m.map List.length
theorem lens22_of {l:List TS} (hln:∀ t∈l,t.l.length=t.n):lens l=lens22 (l.map TS.l):=by
 unfold lens lens22
 rw [List.map_map]
 exact List.map_congr_left fun t ht=>(hln t ht).symm
def siglum22 (s:ByteArray):Bool:=if 0<s.size∧byteAt s ((s.size:Int) - 1)=42 then isNameB (s.extract 0 (s.size - 1)) && decide (s.size≤16) else isNameB s
def has22 (pre:List ByteArray) (s:ByteArray):Bool:=pre.any fun y=>decide (s=y)
theorem has22_iff {pre:List ByteArray} {s:ByteArray}:has22 pre s=true↔s∈pre:=by
 unfold has22
 rw [List.any_eq_true]
 constructor
 ·rintro⟨y,hy,e⟩;rw [decide_eq_true_eq] at e;rw [e];exact hy
 ·intro h;exact⟨s,h,decide_eq_true rfl⟩
def sgE22 (pre:List ByteArray):List ByteArray→Int
 | []=>0
 | s::r=>if siglum22 s=false then 14 else if has22 pre s=true then 7 else sgE22 (pre++[s]) r
theorem sgE22_step {sg:List ByteArray} {i:Nat} {s:ByteArray} (h:sg[i]?=some s):sgE22 (sg.take i) (sg.drop i)=if siglum22 s=false then 14 else if has22 (sg.take i) s=true then 7 else sgE22 (sg.take (i+1)) (sg.drop (i+1)):=by
 obtain⟨hl,e⟩:=List.getElem?_eq_some_iff.1 h
 rw [List.drop_eq_getElem_cons hl,e,take_snoc _ _ _ h]
 rfl
theorem sgE22_end {sg:List ByteArray} {i:Nat} (h:sg.length≤i):sgE22 (sg.take i) (sg.drop i)=0:=by
 rw [List.drop_eq_nil_of_le h];rfl
theorem sgE22_zero:∀ {sg pre:List ByteArray},sgE22 pre sg=0→(∀ s∈sg,siglum22 s=true∧s ∉ pre)∧sg.Nodup
 | [],_,_=>⟨fun s h=>(by cases h),List.nodup_nil⟩
 | s::r,pre,h=>by
  unfold sgE22 at h
  by_cases h1:siglum22 s=false
  ·rw [if_pos h1] at h;omega
  ·rw [if_neg h1] at h
   by_cases h2':has22 pre s=true
   ·rw [if_pos h2'] at h;omega
   ·rw [if_neg h2'] at h
    have h2:s ∉ pre:=fun hm=>h2' (has22_iff.2 hm)
    obtain⟨h3,h4⟩:=sgE22_zero h
    refine ⟨fun x hx=>?_,List.nodup_cons.2 ⟨fun hm=>(h3 s hm).2 (by simp),h4⟩⟩
    rcases List.mem_cons.1 hx with rfl|hx
    ·exact⟨by simpa using h1,h2⟩
    ·exact⟨(h3 x hx).1,fun hm=>(h3 x hx).2 (List.mem_append_left _ hm)⟩
theorem sgE22_of:∀ {sg pre:List ByteArray},(∀ s∈sg,siglum22 s=true∧s ∉ pre)→sg.Nodup→sgE22 pre sg=0
 | [],_,_,_=>rfl
 | s::r,pre,h,hn=>by
  obtain⟨h1,h2⟩:=h s (.head _)
  obtain⟨h3,h4⟩:=List.nodup_cons.1 hn
  unfold sgE22
  rw [if_neg (by rw [h1];simp),if_neg (fun hh=>h2 (has22_iff.1 hh))]
  refine sgE22_of (fun x hx=>⟨(h x (.tail _ hx)).1,fun hm=>?_⟩) h4
  rcases List.mem_append.1 hm with hm|hm
  ·exact (h x (.tail _ hx)).2 hm
  ·rw [List.mem_singleton] at hm
   subst hm
   exact h3 hx
def tkE22:List (List Tok)→Int
 | []=>0
 | l::r=>if 1024<l.length then 4 else if badL l=true then 1 else tkE22 r
theorem tkE22_step {m:List (List Tok)} {i:Nat} {l:List Tok} (h:m[i]?=some l):tkE22 (m.drop i)=if 1024<l.length then 4 else if badL l=true then 1 else tkE22 (m.drop (i+1)):=by
 obtain⟨hl,e⟩:=List.getElem?_eq_some_iff.1 h
 rw [List.drop_eq_getElem_cons hl,e]
 rfl
theorem tkE22_zero:∀ {m:List (List Tok)},tkE22 m=0↔∀ l∈m,l.length≤1024∧badL l=false
 | []=>⟨fun _ l h=>(by cases h),fun _=>rfl⟩
 | l::r=>by
  rw [List.forall_mem_cons, ← tkE22_zero (m:=r)]
  show (if 1024<l.length then (4:Int) else if badL l=true then 1 else tkE22 r)=0↔_
  by_cases h1:1024<l.length
  ·rw [if_pos h1];exact⟨fun h=>by omega,fun h=>by have:=h.1.1;omega⟩
  ·rw [if_neg h1]
   by_cases h2:badL l=true
   ·rw [if_pos h2];exact⟨fun h=>by omega,fun h=>by rw [h.1.2] at h2;cases h2⟩
   ·rw [if_neg h2]
    exact⟨fun h=>⟨⟨by omega,by simpa using h2⟩,h⟩,fun h=>h.2⟩
def head22 (sec:ByteArray) (sg:List ByteArray) (m:List (List Tok)):Int :=
 if isNameB sec=false then 14 else if sg.length=0 then 5 else if 32<sg.length then 4 else if sgE22 [] sg≠0 then sgE22 [] sg else if m.length≠sg.length then 9 else tkE22 m
structure Head22 (sec:ByteArray) (sg:List ByteArray) (m:List (List Tok)):Prop where
 sec:isNameB sec=true
 pos:1≤sg.length
 le:sg.length≤32
 sig:∀ s∈sg,siglum22 s=true
 nod:sg.Nodup
 len:m.length=sg.length
 tok:∀ l∈m,l.length≤1024∧badL l=false
theorem head22_iff {sec:ByteArray} {sg:List ByteArray} {m:List (List Tok)}:head22 sec sg m=0↔Head22 sec sg m:=by
 unfold head22
 constructor
 ·intro h
  by_cases h1:isNameB sec=false
  ·rw [if_pos h1] at h;omega
  rw [if_neg h1] at h
  by_cases h2:sg.length=0
  ·rw [if_pos h2] at h;omega
  rw [if_neg h2] at h
  by_cases h3:32<sg.length
  ·rw [if_pos h3] at h;omega
  rw [if_neg h3] at h
  by_cases h4:sgE22 [] sg≠0
  ·rw [if_pos h4] at h;exact absurd h h4
  rw [if_neg h4] at h
  by_cases h5:m.length≠sg.length
  ·rw [if_pos h5] at h;omega
  rw [if_neg h5] at h
  obtain⟨g1,g2⟩:=sgE22_zero (Classical.not_not.1 h4)
  exact⟨by simpa using h1,by omega,by omega,fun s hs=>(g1 s hs).1,g2,by omega,tkE22_zero.1 h⟩
 ·rintro⟨h1,h2,h3,h4,h5,h6,h7⟩
  have e:=sgE22_of (pre:=[]) (fun s hs=>⟨h4 s hs,by simp⟩) h5
  rw [if_neg (by rw [h1];simp),if_neg (by omega),if_neg (by omega),e,if_neg (by simp),if_neg (by omega)]
  exact tkE22_zero.2 h7
open Classical in
noncomputable def chk22 (x:Co):Int:=if head22 x.sec x.sg x.m≠0 then head22 x.sec x.sg x.m else if ColsOk (lens22 x.m) x.cols then 0 else 19
structure Ok22 (x:Co):Prop where
 head:Head22 x.sec x.sg x.m
 cols:ColsOk (lens22 x.m) x.cols
theorem chk22_iff {x:Co}:chk22 x=0↔Ok22 x:=by
 unfold chk22
 constructor
 ·intro h
  by_cases h1:head22 x.sec x.sg x.m≠0
  ·rw [if_pos h1] at h;exact absurd h h1
  rw [if_neg h1] at h
  by_cases h2:ColsOk (lens22 x.m) x.cols
  ·exact⟨head22_iff.1 (Classical.not_not.1 h1),h2⟩
  ·rw [if_neg h2] at h;omega
 ·rintro⟨h1,h2⟩
  rw [if_neg (by rw [head22_iff.2 h1];simp),if_pos h2]
def big22 (t:Tok):Bool:=decide (12<t.text.size) || decide (12<t.norm.size) || decide (20<t.page.size) || decide (20<t.name.size)
def grL22 (i n:Nat):List (List Tok)→Bool
 | []=>decide (400<n)
 | l::r=>(decide (6<l.length) || (decide (4≤i) && decide (1<l.length)) || l.any big22) || grL22 (i+1) (if i<4 then n * (l.length+1) else n) r
def grT22 (m:List (List Tok)):Bool:=grL22 0 1 m || (decide (6<m.length∧m.length≤32) || decide (34<m.length))
theorem grL22_no:∀ {m:List (List Tok)} {i n:Nat},grL22 i n m=false→∀ l∈m,l.length≤6∧∀ t∈l,t.small
 | [],_,_,_,l,hl=>by cases hl
 | l::r,i,n,h,x,hx=>by
  unfold grL22 at h
  simp only [Bool.or_eq_false_iff,decide_eq_false_iff_not] at h
  obtain⟨⟨⟨h1,-⟩,h3⟩,h4⟩:=h
  rcases List.mem_cons.1 hx with rfl|hx
  ·refine ⟨by omega,fun t ht=>?_⟩
   have h5:=(List.any_eq_false.1 h3) t ht
   simp only [big22,Bool.or_eq_true,decide_eq_true_eq,not_or] at h5
   exact⟨by omega,by omega,by omega,by omega⟩
  ·exact grL22_no h4 x hx
theorem grL22_txt:∀ {m:List (List Tok)} {i n:Nat},grL22 i n m=false→∀ l∈m,∀ t∈l,t.text.size≤12
 | [],_,_,_,l,hl=>by cases hl
 | l::r,i,n,h,x,hx=>by
  unfold grL22 at h
  simp only [Bool.or_eq_false_iff,decide_eq_false_iff_not] at h
  obtain⟨⟨⟨h1,-⟩,h3⟩,h4⟩:=h
  rcases List.mem_cons.1 hx with rfl|hx
  ·intro t ht
   have h5:=(List.any_eq_false.1 h3) t ht
   simp only [big22,Bool.or_eq_true,decide_eq_true_eq,not_or] at h5
   omega
  ·exact grL22_txt h4 x hx
theorem grT22_txt {m:List (List Tok)} (h:grT22 m=false):∀ l∈m,∀ t∈l,t.text.size≤12:=by
 unfold grT22 at h
 simp only [Bool.or_eq_false_iff] at h
 exact grL22_txt h.1
theorem grT22_no {m:List (List Tok)} (h:grT22 m=false):(∀ l∈m,l.length≤6∧∀ t∈l,t.small)∧(m.length≤6∨32<m.length∧m.length≤34):=by
 unfold grT22 at h
 simp only [Bool.or_eq_false_iff,decide_eq_false_iff_not] at h
 exact⟨grL22_no h.1,by omega⟩
def grN22 (sec:ByteArray) (sg:List ByteArray):Bool:=sg.any (fun s=>decide (20<s.size)) || decide (20<sec.size)
def great22 (x:Co):Bool:=x.cols.any (fun c=>decide (36<c.length)) || (grT22 x.m || (decide (24<x.cols.length) || (decide (36<x.sg.length) || grN22 x.sec x.sg)))
structure Small22 (x:Co):Prop where
 tok:∀ l∈x.m,l.length≤6∧∀ t∈l,t.small
 len:x.m.length≤6∨32<x.m.length∧x.m.length≤34
 wide:∀ c∈x.cols,c.length≤36
 cols:x.cols.length≤24
 sg:x.sg.length≤36
 sig:∀ s∈x.sg,s.size≤20
 sec:x.sec.size≤20
 txt:∀ l∈x.m,∀ t∈l,t.text.size≤12
theorem great22_no {x:Co} (h:great22 x=false):Small22 x:=by
 unfold great22 grN22 at h
 simp only [Bool.or_eq_false_iff,decide_eq_false_iff_not,List.any_eq_false,decide_eq_true_eq] at h
 obtain⟨h1,h2,h3,h4,h5,h6⟩:=h
 obtain⟨g1,g2⟩:=grT22_no h2
 exact⟨g1,g2,fun c hc=>by have:=h1 c hc;omega,by omega,by omega,fun s hs=>by have:=h5 s hs;omega,by omega,grT22_txt h2⟩
end Go.Proofs.YtblnhdnogjijiaaGreatDoor
namespace Go.Proofs.YtblnhdnogjijiaaGreatDoor
open Go.RowKit Go.Shelf Go.Proofs

def txt22 (l:List Tok) (z:Int):ByteArray:=if z<0 then ByteArray.empty else match l[z.toNat]? with|some t=>t.text|none=>ByteArray.empty
def cell22 (x:Co) (k i:Nat):ByteArray:=txt22 (x.m.getD k []) ((x.cols.getD i []).getD k (-1))
def col22 (x:Co) (i:Nat):List ByteArray:=(List.range x.sg.length).map fun k=>cell22 x k i
theorem col22_len (x:Co) (i:Nat):(col22 x i).length=x.sg.length:=by simp [col22]
theorem col22_get {x:Co} {i k:Nat} (h:k<x.sg.length):(col22 x i)[k]?=some (cell22 x k i):=by simp [col22,h]
def pick22 (x:Co) (ks:List Nat):Co:=⟨x.sec,ks.map fun k=>x.sg.getD k ByteArray.empty,ks.map fun k=>x.m.getD k [],prjC ks x.cols⟩
def co0:Co:=⟨ByteArray.empty,[],[],[]⟩
def leP22:Option Int→Int→Bool
 | some q,k=>decide (k≤q)
 | none,_=>false
def kpE22 (n:Nat):Option Int→List Int→Int
 | _,[]=>0
 | p,k::r=>if k<0∨(n:Int)≤k then 2 else if leP22 p k=true then 10 else kpE22 n (some k) r
def prev22 (l:List Int):Nat→Option Int
 | 0=>none
 | i+1=>l[i]?
theorem kpE22_step {n:Nat} {l:List Int} {i:Nat} {k:Int} (h:l[i]?=some k):kpE22 n (prev22 l i) (l.drop i)=if k<0∨(n:Int)≤k then 2 else if leP22 (prev22 l i) k=true then 10 else kpE22 n (prev22 l (i+1)) (l.drop (i+1)):=by
 obtain⟨hl,e⟩:=List.getElem?_eq_some_iff.1 h
 rw [List.drop_eq_getElem_cons hl,e]
 show _=if _ then _ else if _ then _ else kpE22 n l[i]? _
 rw [h]
 rfl
theorem kpE22_end {n:Nat} {l:List Int} {i:Nat} (h:l.length≤i) (p:Option Int):kpE22 n p (l.drop i)=0:=by
 rw [List.drop_eq_nil_of_le h];cases p <;> rfl
theorem kpE22_zero {n:Nat}:∀ {l:List Int} {p:Option Int},kpE22 n p l=0→∀ k∈l,0≤k∧k<(n:Int)
 | [],_,_,k,hk=>by cases hk
 | a::l,p,h,k,hk=>by
  unfold kpE22 at h
  by_cases h1:a<0∨(n:Int)≤a
  ·rw [if_pos h1] at h;omega
  rw [if_neg h1] at h
  by_cases h2:leP22 p a=true
  ·rw [if_pos h2] at h;omega
  rw [if_neg h2] at h
  rcases List.mem_cons.1 hk with rfl|hk
  ·omega
  ·exact kpE22_zero h k hk
def roE22 (n:Nat):List Int→List Int→Int
 | _,[]=>0
 | pre,k::r=>if k<0∨(n:Int)≤k then 2 else if k∈pre then 7 else roE22 n (pre++[k]) r
theorem roE22_step {n:Nat} {l:List Int} {i:Nat} {k:Int} (h:l[i]?=some k):roE22 n (l.take i) (l.drop i)=if k<0∨(n:Int)≤k then 2 else if k∈l.take i then 7 else roE22 n (l.take (i+1)) (l.drop (i+1)):=by
 obtain⟨hl,e⟩:=List.getElem?_eq_some_iff.1 h
 rw [List.drop_eq_getElem_cons hl,e,take_snoc _ _ _ h]
 rfl
theorem roE22_end {n:Nat} {l:List Int} {i:Nat} (h:l.length≤i) (pre:List Int):roE22 n pre (l.drop i)=0:=by
 rw [List.drop_eq_nil_of_le h];rfl
theorem roE22_zero {n:Nat}:∀ {l pre:List Int},roE22 n pre l=0→∀ k∈l,0≤k∧k<(n:Int)
 | [],_,_,k,hk=>by cases hk
 | a::l,p,h,k,hk=>by
  unfold roE22 at h
  by_cases h1:a<0∨(n:Int)≤a
  ·rw [if_pos h1] at h;omega
  rw [if_neg h1] at h
  split at h
  ·omega
  rcases List.mem_cons.1 hk with rfl|hk
  ·omega
  ·exact roE22_zero h k hk
noncomputable def keepV22 (x:Co) (l:List Int):Co × Int:=if chk22 x≠0 then (co0,1) else if l.length=0 then (co0,5) else if kpE22 x.sg.length none l≠0 then (co0,kpE22 x.sg.length none l) else (pick22 x (l.map Int.toNat),0)
noncomputable def turnV22 (x:Co) (l:List Int):Co × Int:=if chk22 x≠0 then (co0,1) else if l.length≠x.sg.length then (co0,9) else if roE22 x.sg.length [] l≠0 then (co0,roE22 x.sg.length [] l) else (pick22 x (l.map Int.toNat),0)
def at22 (x:Co) (s:Nat) (z:Int):Int:=findI (fun c=>decide (c.getD s (-1)=z)) x.cols
noncomputable def findV22 (x:Co) (s k:Int):Int × Int:=if chk22 x≠0 then (0,1) else if (s<0∨(x.sg.length:Int)≤s)∨(k<0∨((x.m.getD s.toNat []).length:Int)≤k) then (0,2) else (at22 x s.toNat k,0)
def cells22 (l:List ByteArray):List UInt8:=l.flatMap fun t=>124::t.data.toList
def line22 (s:ByteArray) (l:List ByteArray):List UInt8:=s.data.toList++cells22 l++[10]
def row22 (x:Co) (k:Nat):List ByteArray:=(List.range x.cols.length).map fun i=>cell22 x k i
def print22 (x:Co):List UInt8:=(List.range x.sg.length).flatMap fun k=>line22 (x.sg.getD k ByteArray.empty) (row22 x k)
noncomputable def printV22 (x:Co):ByteArray × Int:=if chk22 x≠0 then (ByteArray.empty,1) else if 65536<(print22 x).length then (ByteArray.empty,4) else (⟨(print22 x).toArray⟩,0)
def same22 (x y:Co):Bool:=decide (x.sec=y.sec) && (decide (x.sg=y.sg) && (decide (x.m=y.m) && decide (x.cols=y.cols)))
theorem same22_refl (x:Co):same22 x x=true:=by simp [same22]
end Go.Proofs.YtblnhdnogjijiaaGreatDoor
namespace Go.Proofs.YtblnhdnogjijiaaGreatDoor
open Go.RowKit Go.Shelf Go.Proofs

theorem getD_mem22 {α:Type} {l:List α} {k:Nat} (d:α) (h:k<l.length):l.getD k d∈l:=by
 rw [List.getD_eq_getElem?_getD,List.getElem?_eq_getElem h]
 exact List.getElem_mem h
end Go.Proofs.YtblnhdnogjijiaaGreatDoor
namespace Go.Proofs.YtblnhdnogjijiaaGreatDoor
open Go.RowKit Go.Shelf Go.Proofs

theorem txt22_neg22 (l:List Tok) {z:Int} (h:z<0):txt22 l z=ByteArray.empty:=if_pos h
theorem txt22_get {l:List Tok} {k:Nat} {t:Tok} (h:l[k]?=some t):txt22 l (k:Int)=t.text:=by
 unfold txt22
 rw [if_neg (by omega),Int.toNat_natCast,h]
end Go.Proofs.YtblnhdnogjijiaaGreatDoor
namespace Go.Proofs.YtblnhdnogjijiaaGreatDoor
open Go.RowKit Go.Shelf Go.Proofs

theorem row22_len (x:Co) (k:Nat):(row22 x k).length=x.cols.length:=by simp [row22]
end Go.Proofs.YtblnhdnogjijiaaGreatDoor
namespace Go.Proofs.YtblnhdnogjijiaaGreatDoor
open Go.RowKit Go.Shelf Go.Proofs
set_option maxRecDepth 100000
set_option maxHeartbeats 1000000

theorem nilC (H:List HA):Hle H (dat [.slice none 0 0] [rowsD []]::H):=hle_unit (B:=dat [.slice none 0 0] [rowsD []]) (.s none 0 0 1 [] rfl (Nat.le_refl _) (by omega) (fun h=>absurd h (by omega)) .nil .nil)
theorem Rd.intsAt {w:World} {A:Option Addr} {n cap:Nat} {p:List Int} (h:Rd (wr w) [.slice A n cap] [intsD p]):Src w 1 A n (p.map (Value.int .i64)):=by
 obtain⟨A',cap',e,-,hs⟩:=h.ints
 cases e
 exact hs
theorem stg_prod {c:Costs} {l:List TS} {ord:List Nat} (hlt:∀ k∈ord,k<l.length) (hln:∀ t∈l,t.l.length≤100) {j m:Nat} (hj:j≤ord.length) (hj2:j≤32) (hm:m≤100):(stgV c l ord j).length≤3200∧(((stgV c l ord j).length:Int)+1) * ((m:Int)+1)≤1048576:=by
 have h1:=stgV_len (c:=c) hlt hln j hj
 have h2:(stgV c l ord j).length≤3200:=by omega
 have h3:=Nat.mul_le_mul (show (stgV c l ord j).length+1≤3201 by omega) (show m+1≤101 by omega)
 have h4:(((stgV c l ord j).length:Int)+1) * ((m:Int)+1)=((((stgV c l ord j).length+1) * (m+1):Nat):Int):=by push_cast;rfl
 exact⟨h2,by rw [h4];omega⟩
theorem Grp.addW {w w':World} {A:Option Addr} {l:List TS} (hg:Grp w A l.length l) (hw:Below w.heap.size w w') (hst:Std w') {c:Costs} (hc:costE c=0) (hbs:badS l=false) (hq:∀ t∈l,t.n≤100) {ord:List Nat} (hlt:∀ k∈ord,k<l.length) {j:Nat} (hj:j<ord.length) (hj2:j≤32) {At:Option Addr} {K:Value}
  (hs:Src w' 1 At j ((takS l ord j).map TS.val)) (hx:Rd (wr w') [K] [rowsD (stgV c l ord j)]) {t:TS} (ht:t∈l):AddW w' c At j (takS l ord j) K (stgV c l ord j) t.A t.n t.l:=by
 have hln:∀ t∈l,t.l.length=t.n:=hg.ok.len
 have hg':Grp w' A l.length l:=⟨hst,src_below hg.hs hw,hg.hn,hg.hb,⟨fun t ht=>src_below (hg.ok.src t ht) hw,hg.ok.len,hg.ok.bd⟩,hg.nb,hg.sm⟩
 refine ⟨hg'.tak hlt (by omega) hj2 hs,hc,badS_tak hlt hbs j,hx,fun col hcol=>ColsOk.colOk (l:=takS l ord j) (stgV_ok hlt hln j (by omega)) hcol,hg'.ok.src t ht,hln t ht,hg.nb t ht,badS_ok hbs t ht,hg.sm t ht,?_⟩
 have:=(stg_prod (c:=c) hlt (fun t ht=>by rw [hln t ht];exact hq t ht) (j:=j) (m:=0) (by omega) hj2 (by omega)).1
 omega
theorem alignPrg21_spec (c:Costs) (A:Option Addr) (n ca:Nat) (l:List TS) (w:World) (hg:Grp w A n l) (hq:∀ t∈l,t.n≤100) :
  Spec Tryz.prog 44 [c.val, .slice A n ca] w (fun v R=>∃ x:Value,True∧v = .tuple #[x, .int .i64 (alnA c l).2]∧R=[dat [x] [rowsD (alnA c l).1]]):=by
 have hn:=hg.hn
 subst hn
 have hb:=hg.hb
 refine spec_of sg Tryz.func44 rfl rfl rfl ?_
 refine T_op (OpT.box (cs:=c.cells) rfl rfl rfl rfl rfl rfl rfl (fun pc=>?_))
 repeat' (first|refine d1 ?_|(show T _ (.ops _ (_::_)::_) _ _ _;refine T_call rfl rfl rfl rfl rfl (fun w hw=>check21_spec c A l.length ca l w (hg.cls hw)) ?_)|fail)
 refine T_if rfl (fun h=>?_) (fun h=>?_)
 ·simp only [Bool.not_eq_true',decide_eq_false_iff_not] at h
  have e:alnA c l=([],1):=if_neg h
  rw [e,(ck21_01 c l).resolve_left h]
  repeat' (first|refine d1 ?_|(show T _ (.code .ret::_) _ _ _;refine T_retV _ rfl ((nilC _).trans (Hle.nth 0 rfl)) ⟨_,trivial,rfl,rfl⟩))
 simp only [Bool.not_eq_false',decide_eq_true_eq] at h
 have e:alnA c l=(alnP c l,0):=if_pos h
 rw [e]
 obtain⟨hc,hbs⟩:=ck21_ok h
 have hbd:=dstT_bd hc hg.len
 obtain⟨hd,hlt⟩:=orderV_ok (fun i k=>(hbd i k).1) l.length
 have hol:=orderV_len (dstT c l) l.length
 have e2:alnP c l=(stgV c l (orderV (dstT c l) l.length) l.length).map (arrR (orderV (dstT c l) l.length)):=rfl
 rw [e2]
 repeat' (first|refine d1 ?_|(show T _ (.ops _ (_::_)::_) _ _ _;refine T_op (OpT.call rfl rfl rfl rfl rfl (fun w hw=>order21_spec c A l.length ca l w (hg.cls hw) hc hbs) ?_))|fail)
 rintro v R ⟨x,-,rfl,rfl⟩
 generalize orderV (dstT c l) l.length=ord at hd hlt hol ⊢
 refine T_le (H':=[dat [x] [intsD (intN ord)],blk pc c.cells 23]) (Hle.refl _) ?_
 refine T_open fun p hp=>?_
 have hp2:=hp
 have hil:(intN ord).length=l.length:=by unfold intN;rw [List.length_map,hol]
 obtain⟨Ao,co,rfl,hc1,hc2,hAo⟩:=hp.row1
 rw [hil] at hAo hc1 hp2 ⊢
 have hln:∀ t∈l,t.l.length≤100:=fun t ht=>by rw [hg.ok.len t ht];exact hq t ht
 repeat' (first|refine d1 ?_|fail)
 refine T_if rfl (fun h1=>by exfalso;simp at h1) (fun _=>?_)
 repeat' (first|refine d1 ?_|fail)
 refine T_le (nilC _) ?_
 refine T_nilrow 38 1 ?_
 refine T_loopX (fun s:Nat × (Option Addr × Nat) × Value=>[(30, .int .i64 s.1),(10, .slice s.2.1.1 s.1 s.2.1.2),(9,s.2.2)]) (fun s=>[row 38 1 s.2.1.1 s.2.1.2 s.1 ((takS l ord s.1).map TS.val),dat [s.2.2] [rowsD (stgV c l ord s.1)],fz p,blk pc c.cells 23]) (fun s=>s.1≤l.length) (fun s=>l.length - s.1) (0,(none,0), .slice none 0 0) (Nat.zero_le _) ?_
 rintro⟨j,⟨At,capt⟩,K⟩ hj
 dsimp only at hj ⊢
 repeat' (first|refine d1 ?_|fail)
 refine T_if rfl (fun h3=>?_) (fun h3=>?_)
 ·simp only [decide_eq_true_eq] at h3
  have hjn:j<l.length:=by omega
  obtain⟨bo,oo,rfl,hbo⟩:=hAo (by omega)
  obtain⟨b,o,rfl⟩:=hg.hs.base (by omega)
  have hoj:=ord_get (show j<ord.length by omega)
  have hlj:ord.getD j 0<l.length:=ord_lt hlt (by omega)
  obtain⟨t,ht,htm,hrt⟩:=hg.get hlj
  have hts:tsA l (ord.getD j 0)=t:=tsA_eq ht
  have hst:stgV c l ord (j+1)=addV c (takS l ord j) (stgV c l ord j) t.l 0 0:=by
   show addV c (takS l ord j) (stgV c l ord j) (tsA l (ord.getD j 0)).l 0 0=_
   rw [hts]
  have hpr:=(stg_prod (c:=c) hlt hln (j:=j) (m:=t.n) (by omega) (by omega) (hq t htm)).2
  refine T_le (H':=[dat [K] [rowsD (stgV c l ord j)],row 38 1 At capt j ((takS l ord j).map TS.val),fz p,blk pc c.cells 23]) Hle.srt ?_
  refine T_open fun q hq9=>?_
  refine T_le (H':=[row 38 1 At capt j ((takS l ord j).map TS.val),fz q,fz p,blk pc c.cells 23]) Hle.srt ?_
  repeat' (first|refine d1 ?_|refine dd ?_|(show T _ (.ops _ (_::_)::_) _ _ _;refine T_val rfl (Val.load rfl (fun hg=>rdFz (p:=p) (u := .int .i64 (ord.getD j 0:Nat)) (b:=bo) (by rw [off1];exact hbo j _ (by unfold intN;rw [List.getElem?_map,hoj];rfl)))) rfl rfl rfl ?_)|(show T _ (.run _ _ (_::_) _ _::_) _ _ _;refine rcE rfl rfl rfl rfl rfl rfl rfl (fun w hw=>add21_spec (hg.addW hw.below (hg.hst.cls hw) hc hbs hq hlt (by omega) (by omega) (srcRw w hw) (hq9.own hw) htm) capt t.cap hpr) (fun y9 _=>?_))|fail)
  refine T_if rfl (fun h5=>by exfalso;simp at h5) (fun _=>?_)
  repeat' (first|refine d1 ?_|(show T _ (.ops _ (_::_)::_) _ _ _;refine T_op (OpT.append rfl rfl rfl rfl rfl rfl rfl rfl rfl rfl (fun w hw=>Src.own hw rfl) rfl (by dsimp only;omega) (by omega) (fun A' cap' hA'=>?_)))|(show ∀ _:Nat,T _ _ _ _ _;intro _))
  refine T_backX (j+1,(A',cap'),y9) (Nat.succ_le_of_lt hjn) (by dsimp only;omega) (hG:=?_)
  dsimp only
  rw [takS_succ (by omega),List.map_append,hts,hst,show List.map TS.val [t]=flatP [(0, .slice t.A t.n t.cap)] from rfl]
  exact Hle.srt
 ·simp only [decide_eq_false_iff_not] at h3
  obtain rfl:j=l.length:=by omega
  refine T_le (H':=[dat [K] [rowsD (stgV c l ord l.length)],row 38 1 At capt l.length ((takS l ord l.length).map TS.val),fz p,blk pc c.cells 23]) Hle.srt ?_
  refine T_open fun q hq9=>?_
  have hso:=stgV_ok (c:=c) hlt hg.ok.len l.length (by omega)
  have hlen:=(stg_prod (c:=c) hlt hln (j:=l.length) (m:=0) (by omega) (by omega) (by omega)).1
  repeat' (first|refine d1 ?_|(show T _ (.ops _ (_::_)::_) _ _ _;refine T_op (OpT.call rfl rfl rfl rfl rfl (fun w hw=>arranged_spec K (stgV c l ord l.length) Ao l.length co ord w (hq9.own hw) (by have h9:=(hp2.own hw).intsAt;rw [intN_val] at h9;exact h9) hol (fun r hr=>by rw [hso.len r hr,lens_len,takS_len (by omega)]) hlt (by omega) (by omega)) ?_))|fail)
  rintro v R ⟨y,-,rfl,rfl⟩
  repeat' (first|refine d1 ?_|(show T _ (.code .ret::_) _ _ _;refine T_retV _ rfl (Hle.nth 0 rfl) ⟨_,trivial,rfl,rfl⟩))
end Go.Proofs.YtblnhdnogjijiaaGreatDoor
namespace Go.Proofs.YtblnhdnogjijiaaGreatDoor
open Go.RowKit Go.Shelf Go.Proofs
set_option maxRecDepth 100000
set_option maxHeartbeats 4000000

end Go.Proofs.YtblnhdnogjijiaaGreatDoor
namespace Go.Proofs.YtblnhdnogjijiaaGreatDoor
open Go.RowKit Go.Shelf Go.Proofs
set_option maxRecDepth 100000
set_option maxHeartbeats 1000000

end Go.Proofs.YtblnhdnogjijiaaGreatDoor
namespace Go.Proofs.YtblnhdnogjijiaaGreatDoor

def volL:List Nat→Nat
 | []=>1
 | n::ls=>(n+1) * volL ls
def numL:List Nat→List Nat→Nat
 | _::ls,a::v=>a * volL ls+numL ls v
 | _,_=>0
def atL:List Nat→Nat→List Nat
 | [],_=>[]
 | n::ls,p=>(p / volL ls % (n+1))::atL ls p
def stpL:List Nat→Nat→Nat
 | [],_=>0
 | _::ls,0=>volL ls
 | _::ls,s+1=>stpL ls s
def InB:List Nat→List Nat→Prop
 | [],[]=>True
 | n::ls,a::v=>a≤n∧InB ls v
 | _,_=>False
theorem volL_pos:∀ ls:List Nat,0<volL ls
 | []=>Nat.one_pos
 | n::ls=>Nat.mul_pos (Nat.succ_pos n) (volL_pos ls)
theorem InB.len:∀ {ls v:List Nat},InB ls v→v.length=ls.length
 | [],[],_=>rfl
 | n::ls,a::v,h=>by simp [InB.len h.2]
 | [],a::v,h=>h.elim
 | n::ls,[],h=>h.elim
theorem numL_lt:∀ {ls v:List Nat},InB ls v→numL ls v<volL ls
 | [],[],_=>Nat.one_pos
 | n::ls,a::v,h=>by
  have h1:=numL_lt h.2
  have h2:a * volL ls≤n * volL ls:=Nat.mul_le_mul_right _ h.1
  have h3:(n+1) * volL ls=n * volL ls+volL ls:=by rw [Nat.add_mul,Nat.one_mul]
  show a * volL ls+numL ls v<(n+1) * volL ls
  omega
 | [],a::v,h=>h.elim
 | n::ls,[],h=>h.elim
theorem atL_mod:∀ (ls:List Nat) (p:Nat),atL ls (p % volL ls)=atL ls p
 | [],p=>rfl
 | n::ls,p=>by
  show (p % ((n+1) * volL ls) / volL ls % (n+1))::atL ls (p % ((n+1) * volL ls))=(p / volL ls % (n+1))::atL ls p
  have h1:p % ((n+1) * volL ls) / volL ls % (n+1)=p / volL ls % (n+1):=by
   rw [Nat.mod_mul_left_div_self,Nat.mod_mod]
  have h2:atL ls (p % ((n+1) * volL ls))=atL ls p:=by
   rw [← atL_mod ls (p % _), ← atL_mod ls p,Nat.mod_mul_left_mod]
  rw [h1,h2]
theorem atL_in:∀ (ls:List Nat) (p:Nat),InB ls (atL ls p)
 | [],_=>trivial
 | n::ls,p=>⟨Nat.le_of_lt_succ (Nat.mod_lt _ (Nat.succ_pos n)),atL_in ls p⟩
theorem atL_len (ls:List Nat) (p:Nat):(atL ls p).length=ls.length:=(atL_in ls p).len
theorem num_at:∀ (ls:List Nat) (p:Nat),p<volL ls→numL ls (atL ls p)=p
 | [],p,h=>by have:p<1:=h;show 0=p;omega
 | n::ls,p,h=>by
  show (p / volL ls % (n+1)) * volL ls+numL ls (atL ls p)=p
  have hp:=volL_pos ls
  have h1:p / volL ls<n+1:=(Nat.div_lt_iff_lt_mul hp).2 h
  rw [Nat.mod_eq_of_lt h1, ← atL_mod ls p,num_at ls _ (Nat.mod_lt _ hp)]
  exact Nat.div_add_mod' p (volL ls)
theorem at_num:∀ {ls v:List Nat},InB ls v→atL ls (numL ls v)=v
 | [],[],_=>rfl
 | n::ls,a::v,h=>by
  have hp:=volL_pos ls
  have h1:=numL_lt h.2
  show ((a * volL ls+numL ls v) / volL ls % (n+1))::atL ls (a * volL ls+numL ls v)=a::v
  have e1:(a * volL ls+numL ls v) / volL ls=a:=by
   rw [Nat.add_comm,Nat.add_mul_div_right _ _ hp,Nat.div_eq_of_lt h1,Nat.zero_add]
  have e2:(a * volL ls+numL ls v) % volL ls=numL ls v:=by
   rw [Nat.add_comm,Nat.add_mul_mod_self_right,Nat.mod_eq_of_lt h1]
  rw [e1,Nat.mod_eq_of_lt (Nat.lt_succ_of_le h.1), ← atL_mod ls (_+_),e2,at_num h.2]
 | [],a::v,h=>h.elim
 | n::ls,[],h=>h.elim
theorem atL_get:∀ {ls:List Nat} {s n:Nat} (p:Nat),ls[s]?=some n→(atL ls p)[s]?=some (p / stpL ls s % (n+1))
 | m::ls,0,n,p,h=>by
  simp at h;subst h;rfl
 | m::ls,s+1,n,p,h=>by
  have:=atL_get (ls:=ls) (s:=s) (n:=n) p (by simpa using h)
  simpa [atL,stpL] using this
theorem num_set:∀ {ls v:List Nat} {s:Nat},v.length=ls.length→s<v.length→numL ls (v.set s (v.getD s 0+1))=numL ls v+stpL ls s
 | n::ls,a::v,0,_,_=>by
  show (a+1) * volL ls+numL ls v=a * volL ls+numL ls v+volL ls
  rw [Nat.add_mul,Nat.one_mul];omega
 | n::ls,a::v,s+1,hl,hs=>by
  have:=num_set (ls:=ls) (v:=v) (s:=s) (by simpa using hl) (by simpa using hs)
  show a * volL ls+numL ls (v.set s ((a::v).getD (s+1) 0+1))=a * volL ls+numL ls v+stpL ls s
  rw [show (a::v).getD (s+1) 0=v.getD s 0 by simp,this];omega
 | [],a::v,s,hl,_=>by simp at hl
theorem num_all:∀ ls:List Nat,numL ls ls+1=volL ls
 | []=>rfl
 | n::ls=>by
  have:=num_all ls
  show n * volL ls+numL ls ls+1=(n+1) * volL ls
  rw [Nat.add_mul,Nat.one_mul];omega
theorem InB.self:∀ ls:List Nat,InB ls ls
 | []=>trivial
 | n::ls=>⟨Nat.le_refl n,InB.self ls⟩
theorem InB.get:∀ {ls v:List Nat},InB ls v→∀ s,v.getD s 0≤ls.getD s 0
 | [],[],_,s=>by simp
 | n::ls,a::v,h,0=>h.1
 | n::ls,a::v,h,s+1=>by simpa using InB.get h.2 s
 | [],a::v,h,_=>h.elim
 | n::ls,[],h,_=>h.elim
theorem InB.of:∀ {ls v:List Nat},v.length=ls.length→(∀ s,v.getD s 0≤ls.getD s 0)→InB ls v
 | [],[],_,_=>trivial
 | n::ls,a::v,hl,h=>⟨h 0,InB.of (by simpa using hl) fun s=>by simpa using h (s+1)⟩
 | [],a::v,hl,_=>by simp at hl
 | n::ls,[],hl,_=>by simp at hl
theorem InB.some:∀ {ls v:List Nat},InB ls v→v≠ls→∃ s,s<ls.length∧v.getD s 0<ls.getD s 0
 | [],[],_,h=>(h rfl).elim
 | n::ls,a::v,h,hne=>by
  by_cases e:a=n
  ·subst e
   obtain⟨s,h1,h2⟩:=InB.some h.2 (fun e2=>hne (by rw [e2]))
   exact⟨s+1,by simp;omega,by simpa using h2⟩
  ·exact⟨0,by simp,by have:=h.1;show a<n;omega⟩
 | [],a::v,h,_=>h.elim
 | n::ls,[],h,_=>h.elim
def sumL:List Nat→Nat
 | []=>0
 | n::ls=>n+sumL ls
theorem sumL_le:∀ {ls v:List Nat},InB ls v→sumL v≤sumL ls
 | [],[],_=>Nat.le_refl _
 | n::ls,a::v,h=>by have:=sumL_le h.2;have:=h.1;show a+sumL v≤n+sumL ls;omega
 | [],a::v,h=>h.elim
 | n::ls,[],h=>h.elim
theorem sumL_set:∀ {v:List Nat} {s:Nat},s<v.length→sumL (v.set s (v.getD s 0+1))=sumL v+1
 | a::v,0,_=>by show a+1+sumL v=a+sumL v+1;omega
 | a::v,s+1,h=>by
  have:=sumL_set (v:=v) (s:=s) (by simpa using h)
  show a+sumL (v.set s ((a::v).getD (s+1) 0+1))=a+sumL v+1
  rw [show (a::v).getD (s+1) 0=v.getD s 0 by simp,this];omega
def toM (v:List Nat):List Nat→List Nat
 | []=>v
 | s::m=>toM (v.set s (v.getD s 0+1)) m
theorem toM_len:∀ (m v:List Nat),(toM v m).length=v.length
 | [],v=>rfl
 | s::m,v=>by unfold toM;rw [toM_len m,List.length_set]
theorem set_other {v:List Nat} {s u x:Nat} (h:s≠u):(v.set s x).getD u 0=v.getD u 0:=by
 rw [List.getD_eq_getElem?_getD,List.getElem?_set_ne h, ← List.getD_eq_getElem?_getD]
theorem set_self {v:List Nat} {s x:Nat} (h:s<v.length):(v.set s x).getD s 0=x:=by
 rw [List.getD_eq_getElem?_getD,List.getElem?_set_self h];rfl
theorem toM_get:∀ (m v:List Nat),m.Nodup→(∀ s∈m,s<v.length)→∀ s,(toM v m).getD s 0=v.getD s 0+if s∈m then 1 else 0
 | [],v,_,_,s=>by simp [toM]
 | u::m,v,hd,hl,s=>by
  have hu:=List.nodup_cons.1 hd
  unfold toM
  rw [toM_get m _ hu.2 (fun s hs=>by rw [List.length_set];exact hl s (.tail _ hs)) s]
  by_cases e:u=s
  ·subst e
   rw [set_self (hl u (.head _)),if_neg hu.1,if_pos (.head _)]
  ·rw [set_other e]
   have:(s∈u::m)↔s∈m:=by rw [List.mem_cons];exact⟨fun h=>h.resolve_left (fun h=>e h.symm), .inr⟩
   simp only [this]
theorem toM_num:∀ (ls m v:List Nat),v.length=ls.length→(∀ s∈m,s<v.length)→numL ls (toM v m)=numL ls v+(m.map (stpL ls)).sum
 | ls,[],v,_,_=>by simp [toM]
 | ls,s::m,v,hl,hm=>by
  unfold toM
  rw [toM_num ls m _ (by rw [List.length_set];exact hl) (fun s hs=>by rw [List.length_set];exact hm s (.tail _ hs)),num_set hl (hm s (.head _)),List.map_cons,List.sum_cons]
  omega
theorem toM_sum:∀ (m v:List Nat),(∀ s∈m,s<v.length)→sumL (toM v m)=sumL v+m.length
 | [],v,_=>by simp [toM]
 | s::m,v,hm=>by
  unfold toM
  rw [toM_sum m _ (fun s hs=>by rw [List.length_set];exact hm s (.tail _ hs)),sumL_set (hm s (.head _)),List.length_cons]
  omega
theorem toM_in {ls v m:List Nat} (h:InB ls v) (hd:m.Nodup) (hm:∀ s∈m,s<ls.length∧v.getD s 0<ls.getD s 0):InB ls (toM v m):=by
 have hlen:=h.len
 refine InB.of (by rw [toM_len,hlen]) fun s=>?_
 rw [toM_get m v hd (fun s hs=>by rw [hlen];exact (hm s hs).1) s]
 have h1:=h.get s
 split
 ·rename_i hs;have:=(hm s hs).2;omega
 ·omega
end Go.Proofs.YtblnhdnogjijiaaGreatDoor
namespace Go.Proofs.YtblnhdnogjijiaaGreatDoor

def possM (ls v m:List Nat):Bool:=m.all fun s=>decide (v.getD s 0<ls.getD s 0)
theorem possM_iff {ls v m:List Nat}:possM ls v m=true↔∀ s∈m,v.getD s 0<ls.getD s 0:=by unfold possM;rw [List.all_eq_true];simp
def colMv (v:List Nat):List Nat→List Int→List Int
 | [],c=>c
 | s::m,c=>colMv v m (c.set s (v.getD s 0:Nat))
def colT (v m:List Nat):List Int:=colMv v m (List.replicate v.length (-1))
theorem colMv_len (v:List Nat):∀ (m:List Nat) (c:List Int),(colMv v m c).length=c.length
 | [],c=>rfl
 | s::m,c=>by unfold colMv;rw [colMv_len v m,List.length_set]
theorem colT_len (v m:List Nat):(colT v m).length=v.length:=by unfold colT;rw [colMv_len,List.length_replicate]
theorem colMv_get (v:List Nat):∀ (m:List Nat) (c:List Int) (s:Nat),s<c.length→(colMv v m c).getD s (-1)=if s∈m then ((v.getD s 0:Nat):Int) else c.getD s (-1)
 | [],c,s,_=>by simp [colMv]
 | u::m,c,s,h=>by
  unfold colMv
  rw [colMv_get v m _ s (by rw [List.length_set];exact h)]
  by_cases h1:s∈m
  ·rw [if_pos h1,if_pos (List.mem_cons_of_mem _ h1)]
  ·rw [if_neg h1]
   by_cases e:u=s
   ·subst e
    rw [if_pos List.mem_cons_self,List.getD_eq_getElem?_getD,List.getElem?_set_self h];rfl
   ·rw [if_neg (by rw [List.mem_cons];rintro (h|h);exact e h.symm;exact h1 h),List.getD_eq_getElem?_getD,List.getElem?_set_ne e, ← List.getD_eq_getElem?_getD]
theorem colT_get {v m:List Nat} {s:Nat} (h:s<v.length):(colT v m).getD s (-1)=if s∈m then ((v.getD s 0:Nat):Int) else -1:=by
 unfold colT
 rw [colMv_get v m _ s (by rw [List.length_replicate];exact h)]
 simp [List.getD_eq_getElem?_getD,List.getElem?_replicate,h]
structure MvsOk (n:Nat) (Ms:List (List Nat)):Prop where
 nd:∀ m∈Ms,m.Nodup
 lt:∀ m∈Ms,∀ s∈m,s<n
 ne:∀ m∈Ms,m≠[]
 one:∀ s,s<n→[s]∈Ms
def foldB (p:List Nat→Bool) (f:List Nat→Int):List (List Nat)→Int→Int
 | [],a=>a
 | m::ms,a=>foldB p f ms (cond (p m) (bst a (f m)) a)
theorem foldB_app (p:List Nat→Bool) (f:List Nat→Int):∀ (ms ks:List (List Nat)) (a:Int),foldB p f (ms++ks) a=foldB p f ks (foldB p f ms a)
 | [],ks,a=>rfl
 | m::ms,ks,a=>foldB_app p f ms ks _
theorem foldB_congr {p:List Nat→Bool} {f g:List Nat→Int}:∀ {ms:List (List Nat)} {a:Int},(∀ m∈ms,p m=true→f m=g m)→foldB p f ms a=foldB p g ms a
 | [],a,_=>rfl
 | m::ms,a,h=>by
  show foldB p f ms _=foldB p g ms _
  rw [foldB_congr (a:=cond (p m) (bst a (f m)) a) fun k hk=>h k (.tail _ hk)]
  cases hp:p m with
  | true=>rw [h m (.head _) hp]
  | false=>rfl
theorem foldB_none {p:List Nat→Bool} {f:List Nat→Int}:∀ {ms:List (List Nat)} {a:Int},(∀ m∈ms,p m=false)→foldB p f ms a=a
 | [],a,_=>rfl
 | m::ms,a,h=>by
  show foldB p f ms (cond (p m) _ _)=a
  rw [h m (.head _)]
  exact foldB_none fun k hk=>h k (.tail _ hk)
theorem bst_le {a x:Int}:(0≤a→bst a x≤a)∧bst a x≤max a x:=by unfold bst;split <;> omega
theorem foldB_spec {p:List Nat→Bool} {f:List Nat→Int} (hf:∀ m,0≤f m):∀ (ms:List (List Nat)) (a:Int),-1≤a → -1≤foldB p f ms a∧(0≤a→0≤foldB p f ms a∧foldB p f ms a≤a)∧(∀ m∈ms,p m=true→0≤foldB p f ms a∧foldB p f ms a≤f m)∧(foldB p f ms a=a∨∃ m∈ms,p m=true∧foldB p f ms a=f m)
 | [],a,ha=>⟨ha,fun h=>⟨h,Int.le_refl _⟩,fun m hm=>(by cases hm), .inl rfl⟩
 | m::ms,a,ha=>by
  have hfm:=hf m
  have hb : -1≤bst a (f m)∧0≤bst a (f m)∧bst a (f m)≤f m∧(0≤a→bst a (f m)≤a)∧(bst a (f m)=a∨bst a (f m)=f m):=by unfold bst;split <;> omega
  show -1≤foldB p f ms (cond (p m) (bst a (f m)) a)∧(0≤a→0≤foldB p f ms (cond (p m) (bst a (f m)) a)∧foldB p f ms (cond (p m) (bst a (f m)) a)≤a)∧(∀ k∈m::ms,p k=true→0≤foldB p f ms (cond (p m) (bst a (f m)) a)∧foldB p f ms (cond (p m) (bst a (f m)) a)≤f k)∧(foldB p f ms (cond (p m) (bst a (f m)) a)=a∨∃ k∈m::ms,p k=true∧foldB p f ms (cond (p m) (bst a (f m)) a)=f k)
  cases hp:p m with
  | false =>
   obtain⟨h1,h2,h3,h4⟩:=foldB_spec hf ms a ha
   refine ⟨h1,h2,fun k hk hpk=>?_,h4.imp id fun⟨k,hk,h5⟩=>⟨k, .tail _ hk,h5⟩⟩
   rcases List.mem_cons.1 hk with rfl|hk
   ·rw [hp] at hpk;cases hpk
   ·exact h3 k hk hpk
  | true =>
   obtain⟨h1,h2,h3,h4⟩:=foldB_spec hf ms (bst a (f m)) hb.1
   have h5:=h2 hb.2.1
   refine ⟨h1,fun h=>⟨h5.1,Int.le_trans h5.2 (hb.2.2.2.1 h)⟩,fun k hk hpk=>?_,?_⟩
   ·rcases List.mem_cons.1 hk with rfl|hk
    ·exact⟨h5.1,Int.le_trans h5.2 hb.2.2.1⟩
    ·exact h3 k hk hpk
   ·rcases h4 with h4|⟨k,hk,h6⟩
    ·rcases hb.2.2.2.2 with h7|h7
     ·exact .inl (h4.trans h7)
     ·exact .inr ⟨m, .head _,hp,h4.trans h7⟩
    ·exact .inr ⟨k, .tail _ hk,h6⟩
def rsM (K:List Int→Int) (ls:List Nat) (Ms:List (List Nat)):Nat→List Nat→Int
 | 0,_=>0
 | f+1,v=>max (foldB (possM ls v) (fun m=>K (colT v m)+rsM K ls Ms f (toM v m)) Ms (-1)) 0
def rsV (K:List Int→Int) (ls:List Nat) (Ms:List (List Nat)) (v:List Nat):Int:=rsM K ls Ms (sumL ls - sumL v) v
theorem rsM_nn (K:List Int→Int) (ls:List Nat) (Ms:List (List Nat)):∀ f v,0≤rsM K ls Ms f v
 | 0,_=>Int.le_refl _
 | f+1,v=>by unfold rsM;omega
theorem toM_rem {ls v m:List Nat} {n:Nat} {Ms:List (List Nat)} (hM:MvsOk n Ms) (hn:ls.length=n) (hv:InB ls v) (hm:m∈Ms) (hp:possM ls v m=true):InB ls (toM v m)∧sumL v+m.length=sumL (toM v m)∧0<m.length∧sumL (toM v m)≤sumL ls:=by
 have h1:=hM.lt m hm
 have h2:=possM_iff.1 hp
 have hi:=toM_in hv (hM.nd m hm) fun s hs=>⟨by rw [hn];exact h1 s hs,h2 s hs⟩
 exact⟨hi,(toM_sum m v fun s hs=>by rw [hv.len,hn];exact h1 s hs).symm,List.length_pos_iff.2 (hM.ne m hm),sumL_le hi⟩
theorem rsM_fuel (K:List Int→Int) {ls:List Nat} {n:Nat} {Ms:List (List Nat)} (hM:MvsOk n Ms) (hn:ls.length=n):∀ f v,InB ls v→sumL ls - sumL v≤f→∀ g,sumL ls - sumL v≤g→rsM K ls Ms f v=rsM K ls Ms g v:=by
 have none0:∀ v,InB ls v→sumL ls - sumL v=0→∀ m∈Ms,possM ls v m=false:=fun v hv h0 m hm=>by
  cases hp:possM ls v m with
  | false=>rfl
  | true =>
   obtain⟨h1,h2,h3,h4⟩:=toM_rem hM hn hv hm hp
   omega
 intro f
 induction f with
 | zero =>
  intro v hv h0 g hg
  cases g with
  | zero=>rfl
  | succ g =>
   show 0=max (foldB _ _ Ms (-1)) 0
   rw [foldB_none (none0 v hv (by omega))];rfl
 | succ f ih =>
  intro v hv hf g hg
  cases g with
  | zero =>
   show max (foldB _ _ Ms (-1)) 0=0
   rw [foldB_none (none0 v hv (by omega))];rfl
  | succ g =>
   show max (foldB _ _ Ms (-1)) 0=max (foldB _ _ Ms (-1)) 0
   rw [foldB_congr fun m hm hp=>?_]
   obtain⟨h1,h2,h3,h4⟩:=toM_rem hM hn hv hm hp
   rw [ih (toM v m) h1 (by omega) g (by omega)]
theorem rsV_nn (K:List Int→Int) (ls:List Nat) (Ms:List (List Nat)) (v:List Nat):0≤rsV K ls Ms v:=rsM_nn _ _ _ _ _
theorem rsV_end (K:List Int→Int) (ls:List Nat) (Ms:List (List Nat)):rsV K ls Ms ls=0:=by unfold rsV;rw [Nat.sub_self];rfl
theorem eq_of_sum:∀ {ls v:List Nat},InB ls v→sumL ls≤sumL v→v=ls
 | [],[],_,_=>rfl
 | n::ls,a::v,h,hs=>by
  have h1:=sumL_le h.2
  have h2:=h.1
  have h3:n+sumL ls≤a+sumL v:=hs
  rw [eq_of_sum h.2 (by omega),show a=n by omega]
 | [],a::v,h,_=>h.elim
 | n::ls,[],h,_=>h.elim
def mcV (K:List Int→Int) (ls:List Nat) (Ms:List (List Nat)) (v m:List Nat):Int:=K (colT v m)+rsV K ls Ms (toM v m)
theorem rsV_step {K:List Int→Int} (hK:∀ x,0≤K x) {ls:List Nat} {n:Nat} {Ms:List (List Nat)} (hM:MvsOk n Ms) (hn:ls.length=n) {v:List Nat} (hv:InB ls v) (hne:v≠ls) :
  rsV K ls Ms v=foldB (possM ls v) (mcV K ls Ms v) Ms (-1):=by
 have hs:sumL v<sumL ls:=Nat.lt_of_not_le fun h=>hne (eq_of_sum hv h)
 obtain⟨f,hf⟩:∃ f,sumL ls - sumL v=f+1:=⟨sumL ls - sumL v - 1,by omega⟩
 unfold rsV
 rw [hf]
 show max (foldB _ _ Ms (-1)) 0=_
 rw [foldB_congr (g:=mcV K ls Ms v) fun m hm hp=>?_]
 ·obtain⟨s,hs1,hs2⟩:=hv.some hne
  have h0:∀ m,0≤mcV K ls Ms v m:=fun m=>by have:=hK (colT v m);have:=rsV_nn K ls Ms (toM v m);unfold mcV;omega
  have:=((foldB_spec (p:=possM ls v) h0 Ms (-1) (by omega)).2.2.1 [s] (hM.one s (by omega)) (possM_iff.2 fun u hu=>by rw [List.mem_singleton] at hu;subst hu;exact hs2)).1
  omega
 ·obtain⟨h1,h2,h3,h4⟩:=toM_rem hM hn hv hm hp
  show K (colT v m)+_=K (colT v m)+rsM K ls Ms (sumL ls - sumL (toM v m)) (toM v m)
  rw [rsM_fuel K hM hn f (toM v m) h1 (by omega) (sumL ls - sumL (toM v m)) (by omega)]
theorem mcV_nn {K:List Int→Int} (hK:∀ x,0≤K x) (ls:List Nat) (Ms:List (List Nat)) (v m:List Nat):0≤mcV K ls Ms v m:=by
 have:=hK (colT v m);have:=rsV_nn K ls Ms (toM v m);unfold mcV;omega
def fitM (K:List Int→Int) (ls:List Nat) (Ms:List (List Nat)) (v m:List Nat):Bool:=possM ls v m && decide (mcV K ls Ms v m=rsV K ls Ms v)
def alM (K:List Int→Int) (ls:List Nat) (Ms:List (List Nat)):Nat→List Nat→List (List Int)
 | 0,_=>[]
 | f+1,v=>match Ms.find? (fitM K ls Ms v) with
  | some m=>colT v m::alM K ls Ms f (toM v m)
  | none=>[]
def alV19 (K:List Int→Int) (ls:List Nat) (Ms:List (List Nat)) (v:List Nat):List (List Int):=alM K ls Ms (sumL ls - sumL v) v
theorem fit_some {K:List Int→Int} (hK:∀ x,0≤K x) {ls:List Nat} {n:Nat} {Ms:List (List Nat)} (hM:MvsOk n Ms) (hn:ls.length=n) {v:List Nat} (hv:InB ls v) (hne:v≠ls) :
  ∃ m,Ms.find? (fitM K ls Ms v)=some m∧m∈Ms∧possM ls v m=true∧mcV K ls Ms v m=rsV K ls Ms v:=by
 have hst:=rsV_step hK hM hn hv hne
 obtain⟨s,hs1,hs2⟩:=hv.some hne
 have h0:=mcV_nn hK ls Ms v
 obtain⟨-,-,h3,h4⟩:=foldB_spec (p:=possM ls v) h0 Ms (-1) (by omega)
 have h5:=(h3 [s] (hM.one s (by omega)) (possM_iff.2 fun u hu=>by rw [List.mem_singleton] at hu;subst hu;exact hs2)).1
 rcases h4 with h4|⟨m,hm,hp,he⟩
 ·omega
 ·have hfit:fitM K ls Ms v m=true:=by unfold fitM;rw [hp,hst,he];simp
  cases hf:Ms.find? (fitM K ls Ms v) with
  | none=>exact absurd hfit (by have:=List.find?_eq_none.1 hf m hm;simpa using this)
  | some k =>
   have h6:=List.find?_some hf
   unfold fitM at h6
   rw [Bool.and_eq_true,decide_eq_true_eq] at h6
   exact⟨k,rfl,List.mem_of_find?_eq_some hf,h6.1,h6.2⟩
theorem alM_fuel (K:List Int→Int) {ls:List Nat} {n:Nat} {Ms:List (List Nat)} (hM:MvsOk n Ms) (hn:ls.length=n):∀ f v,InB ls v→sumL ls - sumL v≤f→∀ g,sumL ls - sumL v≤g→alM K ls Ms f v=alM K ls Ms g v:=by
 have none0:∀ v,InB ls v→sumL ls - sumL v=0→∀ m∈Ms,fitM K ls Ms v m=false:=fun v hv h0 m hm=>by
  cases hp:fitM K ls Ms v m with
  | false=>rfl
  | true =>
   unfold fitM at hp
   rw [Bool.and_eq_true] at hp
   obtain⟨h1,h2,h3,h4⟩:=toM_rem hM hn hv hm hp.1
   omega
 have nf:∀ v,InB ls v→sumL ls - sumL v=0→Ms.find? (fitM K ls Ms v)=none:=fun v hv h0=>List.find?_eq_none.2 fun m hm=>by rw [none0 v hv h0 m hm];simp
 intro f
 induction f with
 | zero =>
  intro v hv h0 g hg
  cases g with
  | zero=>rfl
  | succ g=>unfold alM;rw [nf v hv (by omega)]
 | succ f ih =>
  intro v hv hf g hg
  cases g with
  | zero=>unfold alM;rw [nf v hv (by omega)]
  | succ g =>
   unfold alM
   cases hF:Ms.find? (fitM K ls Ms v) with
   | none=>rfl
   | some m =>
    have h6:=List.find?_some hF
    unfold fitM at h6
    rw [Bool.and_eq_true] at h6
    obtain⟨h1,h2,h3,h4⟩:=toM_rem hM hn hv (List.mem_of_find?_eq_some hF) h6.1
    simp only
    rw [ih (toM v m) h1 (by omega) g (by omega)]
theorem alV_step {K:List Int→Int} {ls:List Nat} {n:Nat} {Ms:List (List Nat)} (hM:MvsOk n Ms) (hn:ls.length=n) {v m:List Nat} (hv:InB ls v) (hf:Ms.find? (fitM K ls Ms v)=some m):alV19 K ls Ms v=colT v m::alV19 K ls Ms (toM v m):=by
 have h6:=List.find?_some hf
 unfold fitM at h6
 rw [Bool.and_eq_true] at h6
 obtain⟨h1,h2,h3,h4⟩:=toM_rem hM hn hv (List.mem_of_find?_eq_some hf) h6.1
 obtain⟨f,hf2⟩:∃ f,sumL ls - sumL v=f+1:=⟨sumL ls - sumL v - 1,by omega⟩
 unfold alV19
 rw [hf2,alM,hf]
 simp only
 rw [alM_fuel K hM hn f (toM v m) h1 (by omega) (sumL ls - sumL (toM v m)) (by omega)]
theorem alV_end (K:List Int→Int) (ls:List Nat) (Ms:List (List Nat)):alV19 K ls Ms ls=[]:=by unfold alV19;rw [Nat.sub_self];rfl
def RestOk (ls v:List Nat) (cols:List (List Int)):Prop:=(∀ x∈cols,x.length=ls.length)∧(∀ x∈cols,∃ z∈x,z ≠ -1)∧∀ s n,ls[s]?=some n→srcC cols s=(upto n).drop (v.getD s 0)
theorem RestOk.cons {ls v m:List Nat} {cols:List (List Int)} (hv:InB ls v) (hm:m≠[]) (hd:m.Nodup) (hlt:∀ s∈m,s<ls.length) (hp:possM ls v m=true) (h:RestOk ls (toM v m) cols):RestOk ls v (colT v m::cols):=by
 have hlen:=hv.len
 obtain⟨h1,h2,h3⟩:=h
 refine ⟨fun x hx=>?_,fun x hx=>?_,fun s n hs=>?_⟩
 ·rcases List.mem_cons.1 hx with rfl|hx
  ·rw [colT_len,hlen]
  ·exact h1 x hx
 ·rcases List.mem_cons.1 hx with rfl|hx
  ·obtain⟨s,ms,rfl⟩:=List.exists_cons_of_ne_nil hm
   have hs:s<v.length:=by rw [hlen];exact hlt s (.head _)
   have hg:=colT_get (m:=s::ms) hs
   rw [if_pos List.mem_cons_self] at hg
   refine ⟨_,?_,show ((v.getD s 0:Nat):Int) ≠ -1 by omega⟩
   rw [← hg,List.getD_eq_getElem?_getD,List.getElem?_eq_getElem (by rw [colT_len];exact hs)]
   exact List.getElem_mem _
  ·exact h2 x hx
 ·have hsl:s<ls.length:=(List.getElem?_eq_some_iff.1 hs).1
  rw [srcC_cons,h3 s n hs,colT_get (by rw [hlen];exact hsl),toM_get m v hd (fun u hu=>by rw [hlen];exact hlt u hu)]
  by_cases hsm:s∈m
  ·rw [if_pos hsm,if_pos hsm,if_neg (by omega)]
   have:=possM_iff.1 hp s hsm
   rw [List.getD_eq_getElem?_getD (l:=ls),hs] at this
   rw [upto_drop (show v.getD s 0<n from this)];rfl
  ·rw [if_neg hsm,if_neg hsm,if_pos rfl];rfl
theorem RestOk.nil (ls:List Nat):RestOk ls ls []:=⟨fun x h=>(by cases h),fun x h=>(by cases h),fun s n hs=>by
 rw [List.getD_eq_getElem?_getD,hs]
 show []=(upto n).drop n
 rw [List.drop_of_length_le (by rw [upto_len];exact Nat.le_refl _)]⟩
theorem alV_rest {K:List Int→Int} (hK:∀ x,0≤K x) {ls:List Nat} {n:Nat} {Ms:List (List Nat)} (hM:MvsOk n Ms) (hn:ls.length=n):∀ f v,InB ls v→sumL ls - sumL v=f→RestOk ls v (alV19 K ls Ms v)∧((alV19 K ls Ms v).map K).sum=rsV K ls Ms v∧(alV19 K ls Ms v).length≤f:=by
 intro f
 induction f using Nat.strongRecOn with
 | _ f ih =>
  intro v hv hf
  by_cases he:v=ls
  ·subst he
   rw [alV_end,rsV_end]
   exact⟨RestOk.nil _,rfl,Nat.zero_le _⟩
  ·obtain⟨m,h1,hm,hp,hc⟩:=fit_some hK hM hn hv he
   obtain⟨g1,g2,g3,g4⟩:=toM_rem hM hn hv hm hp
   obtain⟨i1,i2,i3⟩:=ih (sumL ls - sumL (toM v m)) (by omega) (toM v m) g1 rfl
   rw [alV_step hM hn hv h1]
   refine ⟨RestOk.cons hv (hM.ne m hm) (hM.nd m hm) (fun s hs=>by rw [hn];exact hM.lt m hm s hs) hp i1,?_,?_⟩
   ·rw [List.map_cons,List.sum_cons,i2];exact hc
   ·rw [List.length_cons];omega
theorem RestOk.colsOk {ls:List Nat} {cols:List (List Int)}:RestOk ls (List.replicate ls.length 0) cols↔ColsOk ls cols:=by
 have e:∀ s,(List.replicate ls.length 0).getD s 0=0:=fun s=>by
  rw [List.getD_eq_getElem?_getD,List.getElem?_replicate];split <;> rfl
 constructor
 ·rintro⟨h1,h2,h3⟩
  exact⟨h1,h2,fun s n hs=>by rw [h3 s n hs,e,List.drop_zero]⟩
 ·rintro⟨h1,h2,h3⟩
  exact⟨h1,h2,fun s n hs=>by rw [h3 s n hs,e,List.drop_zero]⟩
theorem InB.zero:∀ ls:List Nat,InB ls (List.replicate ls.length 0)
 | []=>trivial
 | n::ls=>⟨Nat.zero_le _,InB.zero ls⟩
end Go.Proofs.YtblnhdnogjijiaaGreatDoor
namespace Go.Proofs.YtblnhdnogjijiaaGreatDoor

def mvOfC (x:List Int):List Nat:=(List.range x.length).filter fun s=>decide (x.getD s (-1) ≠ -1)
theorem mvOfC_mem {x:List Int} {s:Nat}:s∈mvOfC x↔s<x.length∧x.getD s (-1) ≠ -1:=by
 unfold mvOfC;rw [List.mem_filter,List.mem_range];simp
theorem mvOfC_asc (x:List Int):(mvOfC x).Pairwise (· < ·):=(List.pairwise_lt_range).filter _
theorem asc_nodup {m:List Nat} (h:m.Pairwise (· < ·)):m.Nodup:=h.imp fun h=>Nat.ne_of_lt h
theorem ext_getD {a b:List Int} (hl:a.length=b.length) (h:∀ s,s<a.length→a.getD s (-1)=b.getD s (-1)):a=b:=by
 refine List.ext_getElem? fun s=>?_
 by_cases hs:s<a.length
 ·have:=h s hs
  rw [List.getD_eq_getElem?_getD,List.getD_eq_getElem?_getD,List.getElem?_eq_getElem hs,List.getElem?_eq_getElem (hl ▸ hs)] at this
  rw [List.getElem?_eq_getElem hs,List.getElem?_eq_getElem (hl ▸ hs)]
  exact congrArg some this
 ·rw [List.getElem?_eq_none (by omega),List.getElem?_eq_none (by omega)]
theorem drop_cons {n p:Nat} {z:Int} {r:List Int} (h:z::r=(upto n).drop p):p<n∧z=(p:Int)∧r=(upto n).drop (p+1):=by
 by_cases hp:p<n
 ·rw [upto_drop hp] at h
  cases h
  exact⟨hp,rfl,rfl⟩
 ·rw [List.drop_of_length_le (by rw [upto_len];omega)] at h
  cases h
theorem RestOk.step {ls v:List Nat} {x:List Int} {cols:List (List Int)} (hv:InB ls v) (h:RestOk ls v (x::cols)) :
  x=colT v (mvOfC x)∧possM ls v (mvOfC x)=true∧mvOfC x≠[]∧(∀ s∈mvOfC x,s<ls.length)∧RestOk ls (toM v (mvOfC x)) cols:=by
 have hlen:=hv.len
 obtain⟨h1,h2,h3⟩:=h
 have hx:=h1 x (.head _)
 have hmem:∀ s,s∈mvOfC x↔s<x.length∧x.getD s (-1) ≠ -1:=fun s=>mvOfC_mem
 have hent:∀ s,s<ls.length→x.getD s (-1) ≠ -1→v.getD s 0<ls.getD s 0∧x.getD s (-1)=((v.getD s 0:Nat):Int)∧srcC cols s=(upto (ls.getD s 0)).drop (v.getD s 0+1):=fun s hs hne=>by
  have h4:=h3 s _ (List.getElem?_eq_getElem hs)
  rw [srcC_cons,if_neg hne] at h4
  have e:ls.getD s 0=ls[s]:=by rw [List.getD_eq_getElem?_getD,List.getElem?_eq_getElem hs];rfl
  rw [e]
  exact drop_cons h4
 have hlt:∀ s∈mvOfC x,s<ls.length:=fun s hs=>by rw [← hx];exact (hmem s).1 hs |>.1
 have hp:possM ls v (mvOfC x)=true:=possM_iff.2 fun s hs=>(hent s (hlt s hs) ((hmem s).1 hs).2).1
 have hxe:x=colT v (mvOfC x):=ext_getD (by rw [colT_len,hlen,hx]) fun s hs=>by
  rw [colT_get (by omega)]
  by_cases hne:x.getD s (-1) = -1
  ·rw [if_neg (fun hm=>((hmem s).1 hm).2 hne),hne]
  ·rw [if_pos ((hmem s).2 ⟨hs,hne⟩)]
   exact (hent s (by omega) hne).2.1
 refine ⟨hxe,hp,?_,hlt,fun y hy=>h1 y (.tail _ hy),fun y hy=>h2 y (.tail _ hy),fun s n hs=>?_⟩
 ·obtain⟨z,hz,hz2⟩:=h2 x (.head _)
  obtain⟨s,hs,rfl⟩:=List.getElem_of_mem hz
  have:s∈mvOfC x:=(hmem s).2 ⟨hs,by rw [List.getD_eq_getElem?_getD,List.getElem?_eq_getElem hs];exact hz2⟩
  exact List.ne_nil_of_mem this
 ·have hsl:s<ls.length:=(List.getElem?_eq_some_iff.1 hs).1
  have e:ls.getD s 0=n:=by rw [List.getD_eq_getElem?_getD,hs];rfl
  rw [toM_get _ v (asc_nodup (mvOfC_asc x)) (fun u hu=>by rw [hlen];exact hlt u hu)]
  have h4:=h3 s n hs
  rw [srcC_cons] at h4
  by_cases hne:x.getD s (-1) = -1
  ·rw [if_pos hne] at h4
   rw [if_neg (fun hm=>((hmem s).1 hm).2 hne)]
   exact h4
  ·rw [if_pos ((hmem s).2 ⟨by omega,hne⟩)]
   have:=(hent s hsl hne).2.2
   rw [e] at this
   exact this
def mvL:Nat→List (List Nat)
 | 1=>[[0]]
 | 2=>[[0,1],[0],[1]]
 | 3=>[[0,1,2],[0,1],[0,2],[1,2],[0],[1],[2]]
 | 4=>[[0,1,2,3],[0,1,2],[0,1,3],[0,2,3],[1,2,3],[0,1],[0,2],[0,3],[1,2],[1,3],[2,3],[0],[1],[2],[3]]
 | _=>[]
theorem mvL_ok {n:Nat} (h1:1≤n) (h4:n≤4):MvsOk n (mvL n):=by
 obtain rfl|rfl|rfl|rfl:n=1∨n=2∨n=3∨n=4:=by omega
 all_goals exact⟨by decide,by decide,by decide,by decide⟩
end Go.Proofs.YtblnhdnogjijiaaGreatDoor
namespace Go.Proofs.YtblnhdnogjijiaaGreatDoor

def cmpL:List Nat→List Nat→Int
 | [],[]=>0
 | [],_::_ => -1
 | _::_,[]=>1
 | a::p,b::q=>if a<b then -1 else if b<a then 1 else cmpL p q
theorem cmpL_self:∀ a:List Nat,cmpL a a=0
 | []=>rfl
 | a::p=>by unfold cmpL;rw [if_neg (Nat.lt_irrefl a),if_neg (Nat.lt_irrefl a),cmpL_self p]
theorem cmpL_zero:∀ {a b:List Nat},cmpL a b=0→a=b
 | [],[],_=>rfl
 | [],_::_,h=>by cases h
 | _::_,[],h=>by cases h
 | a::p,b::q,h=>by
  unfold cmpL at h
  split at h
  ·cases h
  ·split at h
   ·cases h
   ·rw [show a=b by omega,cmpL_zero h]
theorem cmpL_neg:∀ a b:List Nat,cmpL a b = -cmpL b a
 | [],[]=>rfl
 | [],_::_=>rfl
 | _::_,[]=>rfl
 | a::p,b::q=>by
  have ih:=cmpL_neg p q
  unfold cmpL
  by_cases h1:a<b
  ·rw [if_pos h1,if_neg (by omega),if_pos h1]
  ·by_cases h2:b<a
   ·rw [if_neg h1,if_pos h2,if_pos h2];rfl
   ·rw [if_neg h1,if_neg h2,if_neg h2,if_neg h1,ih]
theorem cmpL_trans:∀ {a b c:List Nat},cmpL a b<0→cmpL b c<0→cmpL a c<0
 | [],[],_,h,_=>by simp [cmpL] at h
 | [],_::_,[],_,h=>by simp [cmpL] at h
 | [],_::_,_::_,_,_=>by simp [cmpL]
 | _::_,[],_,h,_=>by simp [cmpL] at h
 | _::_,_::_,[],_,h=>by simp [cmpL] at h
 | a::p,b::q,c::r,h1,h2=>by
  have ih:=@cmpL_trans p q r
  unfold cmpL at h1 h2 ⊢
  by_cases ab:a<b
  ·by_cases bc:b<c
   ·rw [if_pos (by omega)];omega
   ·rw [if_neg bc] at h2
    by_cases cb:c<b
    ·rw [if_pos cb] at h2;omega
    ·rw [if_pos (by omega)];omega
  ·rw [if_neg ab] at h1
   by_cases ba:b<a
   ·rw [if_pos ba] at h1;omega
   ·rw [if_neg ba] at h1
    by_cases bc:b<c
    ·rw [if_pos (by omega)];omega
    ·rw [if_neg bc] at h2
     by_cases cb:c<b
     ·rw [if_pos cb] at h2;omega
     ·rw [if_neg cb] at h2
      rw [if_neg (by omega),if_neg (by omega)]
      exact ih h1 h2
def cmpM (a b:List Nat):Int:=if a.length≠b.length then (b.length:Int) - a.length else cmpL a b
theorem cmpM_self (a:List Nat):cmpM a a=0:=by unfold cmpM;rw [if_neg (by simp),cmpL_self]
theorem cmpM_neg (a b:List Nat):cmpM a b = -cmpM b a:=by
 unfold cmpM
 by_cases h:a.length=b.length
 ·rw [if_neg (by simpa using h),if_neg (by simpa using h.symm),cmpL_neg]
 ·rw [if_pos h,if_pos (fun e=>h e.symm)];omega
theorem cmpM_zero {a b:List Nat} (h:cmpM a b=0):a=b:=by
 unfold cmpM at h
 by_cases e:a.length=b.length
 ·rw [if_neg (by simpa using e)] at h;exact cmpL_zero h
 ·rw [if_pos e] at h;omega
theorem cmpM_trans {a b c:List Nat} (h1:cmpM a b<0) (h2:cmpM b c<0):cmpM a c<0:=by
 unfold cmpM at h1 h2 ⊢
 by_cases ab:a.length=b.length
 ·rw [if_neg (by simpa using ab)] at h1
  by_cases bc:b.length=c.length
  ·rw [if_neg (by simpa using bc)] at h2
   rw [if_neg (by simp;omega)]
   exact cmpL_trans h1 h2
  ·rw [if_pos bc] at h2
   rw [if_pos (by omega)];omega
 ·rw [if_pos ab] at h1
  by_cases bc:b.length=c.length
  ·rw [if_pos (by omega)];omega
  ·rw [if_pos bc] at h2
   rw [if_pos (by omega)];omega
def bitsL (n q:Nat):List Nat:=(List.range n).filter fun s=>q.testBit s
def allL (n:Nat):List (List Nat):=((List.range (2 ^ n)).map (bitsL n)).filter fun m => !m.isEmpty
def ascM:List (List Nat)→Bool
 | []=>true
 | [_]=>true
 | a::b::l=>decide (cmpM a b<0) && ascM (b::l)
theorem mvL_cmp:∀ n,ascM (mvL n)=true
 | 0=>rfl
 | 1=>rfl
 | 2=>by decide
 | 3=>by decide
 | 4=>by decide
 | _+5=>rfl
theorem ascM_pw:∀ {l:List (List Nat)},ascM l=true→l.Pairwise fun a b=>cmpM a b<0
 | [],_ => .nil
 | [a],_ => .cons (fun b h=>by cases h) .nil
 | a::b::l,h=>by
  unfold ascM at h
  rw [Bool.and_eq_true,decide_eq_true_eq] at h
  have ih:=ascM_pw h.2
  refine .cons (fun c hc=>?_) ih
  rcases List.mem_cons.1 hc with rfl|hc
  ·exact h.1
  ·exact cmpM_trans h.1 ((List.pairwise_cons.1 ih).1 c hc)
theorem allL_perm {n:Nat} (h1:1≤n) (h4:n≤4):(allL n).Perm (mvL n):=by
 obtain rfl|rfl|rfl|rfl:n=1∨n=2∨n=3∨n=4:=by omega
 all_goals decide
theorem mvL_sorted {n:Nat} (h1:1≤n) (h4:n≤4) {l:List (List Nat)} (hp:l.Perm (allL n)) (hs:l.Pairwise fun a b=>¬ cmpM b a<0):l=mvL n:=by
 refine List.Perm.eq_of_pairwise (le:=fun a b=>¬ cmpM b a<0) (fun a b _ _ g1 g2=>?_) hs ((ascM_pw (mvL_cmp n)).imp fun {a b} h=>?_) (hp.trans (allL_perm h1 h4))
 ·have:=cmpM_neg a b
  exact cmpM_zero (by omega)
 ·have:=cmpM_neg a b
  omega
end Go.Proofs.YtblnhdnogjijiaaGreatDoor
namespace Go.Proofs.YtblnhdnogjijiaaGreatDoor
open Go.RowKit Go.Shelf Go.Proofs

def lstV (c:Costs) (l:List TS):Int:=rsV (colZ c l) (lens l) (mvL l.length) (List.replicate l.length 0)
def alnW (c:Costs) (l:List TS):List (List Int):=alV19 (colZ c l) (lens l) (mvL l.length) (List.replicate l.length 0)
theorem colZ_nn {c:Costs} (hc:costE c=0) {l:List TS} (h4:l.length≤4) (x:List Int):0≤colZ c l x:=(colZ_bd hc (by omega) x).1
theorem alnW_ok {c:Costs} (hc:costE c=0) {l:List TS} (h1:1≤l.length) (h4:l.length≤4):ColsOk (lens l) (alnW c l)∧totZ c l (alnW c l)=lstV c l:=by
 have hn:(lens l).length=l.length:=lens_len l
 have hz:=InB.zero (lens l)
 obtain⟨i1,i2,-⟩:=alV_rest (K:=colZ c l) (colZ_nn hc h4) (mvL_ok h1 h4) hn _ _ hz rfl
 rw [hn] at i1 i2
 refine ⟨RestOk.colsOk.1 (by rw [hn];exact i1),i2⟩
theorem ColsOk.lt {ls:List Nat} {cols:List (List Int)} (h:ColsOk ls cols) {x:List Int} (hx:x∈cols) {s:Nat} (hs:s<ls.length):x.getD s (-1)<(ls.getD s 0:Int):=by
 have hl:=h.len x hx
 have:=(h.entry hx (s:=s) (n:=ls[s]) (z:=x[s]'(by omega)) (List.getElem?_eq_getElem hs) (List.getElem?_eq_getElem (by omega))).2
 rw [List.getD_eq_getElem?_getD,List.getElem?_eq_getElem (by omega),List.getD_eq_getElem?_getD (l:=ls),List.getElem?_eq_getElem hs]
 exact this
structure BackS (l l':List TS):Prop where
 len:l'.length=l.length
 toks:∀ s,s<l.length→(tsA l' s).l=(tsA l s).l.reverse
 n:lens l'=lens l
 ok:∀ s,s<l.length→(lens l).getD s 0=(tsA l s).l.length
theorem BackS.swap {l l':List TS} (h:BackS l l'):BackS l' l:=by
 refine ⟨h.len.symm,fun s hs=>?_,h.n.symm,fun s hs=>?_⟩
 ·rw [h.toks s (by rw [← h.len];exact hs),List.reverse_reverse]
 ·rw [h.n,h.toks s (by rw [← h.len];exact hs),List.length_reverse,h.ok s (by rw [← h.len];exact hs)]
end Go.Proofs.YtblnhdnogjijiaaGreatDoor
namespace Go.Proofs.YtblnhdnogjijiaaGreatDoor
open Go.RowKit Go.Shelf
set_option maxRecDepth 100000
set_option maxHeartbeats 1000000

def YieldsO (P:Program) (w0:World) (l:Nat) (GP:Nat→List HA→Prop) (X:List HA→Prop) (Q:Nat→List Value→List HA→Prop) (n:Nat):Prop :=
 ∀ (j:Nat) (x:List Value) (B Hj K:List HA) (w:World),j<n→Q j x B→GP j Hj→Cls w0 w (Hj++(B++K)) →
  ∃ f tmps assign body,(Instr.yield l x.toArray).run P w = .ok (.round l f tmps assign body) w∧RoundIn (Fr none) 0 P l f tmps assign body w fun e w' =>
   (e = .returned (.bool true)∧∃ H',GP (j+1) H'∧Cls w0 w' (H'++K))∨(e = .returned (.bool false)∧∃ Y,X Y∧Cls w0 w' (Y++K))
def IterO (P:Program) (w0:World) (f:FuncId) (fs cs:List Value) (cap:List HA) (Q:Nat→List Value→List HA→Prop) (n:Nat):Prop :=
 Enters P f∧∀ l GP X w Hj,YieldsO P w0 l GP X Q n→GP 0 Hj→Cls w0 w (cap++Hj) →
  CallsIn (Fr none) 0 P f (fs++(yv l::cs)).toArray w (RIt w0 cap GP X n)
theorem iterO_of (S : Sig) {w0 : World} {f : FuncId} {fn : Func} {c : Code} {fs cs : List Value} {cap : List HA} {Q : Nat → List Value → List HA → Prop} {n : Nat} (hf : S.P.funcs[f]? = some fn) (hn : (fn.name == "runtime.NumGoroutine") = false) (hb : fn.body = some c)
  (hlen:Nat.ble (fs.length+(1+cs.length)) fn.ntmps=true)
  (h:∀ l GP X Hj,YieldsO S.P w0 l GP X Q n→GP 0 Hj→T (IC S fn.ntmps w0 fn (RIt w0 cap GP X n)) (nf 60 [.code c]) (zipE 0 (fs++(yv l::cs))) [] (cap++Hj)):IterO S.P w0 f fs cs cap Q n:=by
 refine ⟨enters_of hf hn hb,fun l GP X w Hj hY h0 hw=>callsIn_of_wp_marks (n:=0) hf hb trivial ?_⟩
 generalize hargs:fs++(yv l::cs)=args
 have hlen':args.length≤fn.ntmps:=by
  have:=Nat.le_of_ble_eq_true hlen
  rw [← hargs];simp;omega
 have ha:Agrees ⟨fn.ntmps,[]⟩ (allOf (nf 60 [.code c])) (zipE 0 args) [] { tmps:=args.toArray++Array.replicate (fn.ntmps - args.toArray.size) undef,defers:=[] }:=by
  refine ⟨rfl,by simp;omega,fun s v hv=>?_,fun _ _ _ h=>(by cases h),fun _ _ _ h=>(by cases h)⟩
  obtain⟨_,h2⟩:=zipE_spec args 0 s v hv
  simp only [Nat.sub_zero] at h2
  have hs:s<args.length:=(List.getElem?_eq_some_iff.1 h2).1
  simp [Array.getD_eq_getD_getElem?,Array.getElem?_append,hs]
  rw [List.getElem?_eq_getElem hs] at h2
  simpa using h2
 have h1:=h l GP X Hj hY h0
 rw [hargs] at h1
 have:=nf_spec (h1 _ _ ha hw)
 simp only [sem] at this
 refine wpIn_mono this fun e a w' q=>?_
 cases e <;> first|exact q|exact q.elim
theorem T_rangeO {S:Sig} {m:Nat} {ds:List Deferred} {w0:World} {fn:Func} {Φ:Value→List HA→Prop} {g:Operand} {ps:Array Tmp} {assign body:Code} {k:List It} {env:Env} {ec:EnvC} {H:List HA}
  {f:FuncId} {fs cs:List Value} {cap:List HA} {Q:Nat→List Value→List HA→Prop} {n:Nat} (hit:IterO S.P w0 f fs cs cap Q n)
  (hg:evX env [] [] g=some (.func (.func f) fs.toArray cs.toArray)) (hps:∀ (j:Nat) (x:List Value) (B:List HA),j<n→Q j x B→x.length=ps.size∧inP m (ps.toList.zip x)=true)
  (GP:Nat→List HA→Prop) (XR:List HA→Prop) (XE:Nat→List HA→Prop) (H0:List HA) (h0:GP 0 H0) (hH:Hle H (cap++H0))
  (hround:∀ (L:Nat) (r:Loop) (j:Nat) (x:List Value) (B Hj K:List HA),r.state = .ready→j<n→Q j x B→GP j Hj→T (RA (RC S m w0 L (busy r) GP XR XE j K) L body) (nf 60 [.code assign]) (envP (ps.toList.zip x) env) [] (lrec L r::(Hj++(B++K))))
  (hn:∀ D Hn,GP n Hn→T (FC S m (mkD D::ds) w0 fn Φ) (nf 60 k) env [] (dfr D::(cap++Hn)))
  (hret:∀ D Hx,XR Hx→T (FC S m (mkD D::ds) w0 fn Φ) (.code .ret::k) env [] (dfr D::(cap++Hx)))
  (hex:∀ D id Hx,XE id Hx→T (FC S m (mkD D::ds) w0 fn Φ) (nf 60 (.code (.exit id)::k)) env [] (dfr D::(cap++Hx))) :
  T (FC S m ds w0 fn Φ) (.code (.rangeFunc g ps assign body)::k) env ec H:=by
 refine T.mk fun a w ha hw=>?_
 have ha0:Agrees ⟨m,ds⟩ #[] env [] a:=ha.plain
 replace hw:=Cls.le hw hH
 refine wpIn_rangeFunc fun fn' _=>?_
 -- the two blocks
 have hw1:=(hw.alloc (.deferred (some [])) (A:=dfr w.heap.size) rfl)
 have hsz:(w.alloc (.deferred (some []))).heap.size=w.heap.size+1:=World.size_alloc _ _
 generalize hD:w.heap.size=D at hw1 hsz
 generalize hr0:({ state := .ready,pending:=none,fn:=fn',tmps:=a.tmps,params:=ps,assign,body,defers:=D }:Loop)=r
 have hrdy:r.state = .ready:=by rw [← hr0]
 have hpd:r.pending=none:=by rw [← hr0]
 have hw2:=(hw1.alloc (.loop r) (A:=lrec (D+1) r) (by rw [hsz];rfl))
 have hen:=run_enterLoop_outer (P:=S.P) (w:=w) fn' a.tmps ps assign body
 rw [hD,hr0] at hen
 have hgv:=evX_spec (all := #[]) ha0 (Holds.nil _ _) hg
 have hargs:(fs.toArray ++ #[yv (D+1)]++cs.toArray)=(fs++(yv (D+1)::cs)).toArray:=Array.ext' (by simp)
 refine ⟨D+1,[mkD D],_,⟨.fn (.func f) cs.toArray,fs.toArray ++ #[yv (D+1)]⟩,(w.alloc (.deferred (some []))).alloc (.loop r),f,(fs++(yv (D+1)::cs)).toArray,(w.alloc (.deferred (some []))).alloc (.loop r),hen,?_,fun _ _=>trivial,?_,fun h=>(by cases h),?_⟩
 ·simp [resolve,hgv,Deferred.ofValue,yv]
  rfl
 ·have:=hit.1 (fs++(yv (D+1)::cs)).toArray ((w.alloc (.deferred (some []))).alloc (.loop r))
  rw [← hargs] at this ⊢
  simpa [invoke] using this
 · -- the rounds
  have hYd:YieldsO S.P w0 (D+1) (fun j H'=>∃ Hj,H'=lrec (D+1) r::dfr D::Hj∧GP j Hj) (fun Y=>∃ Hx jump,Y=lrec (D+1) { r with state := .done,pending:=some jump }::dfr D::Hx∧((jump = .ret∧XR Hx)∨∃ id,jump = .exit id∧XE id Hx)) Q n:=by
   rintro j x B _ K w1 hj hQ ⟨Hj,rfl,hGj⟩ hc
   have hL:=(hc.obj (i:=0) rfl).1
   obtain⟨hxl,hin⟩:=hps j x B hj hQ
   have hy:=run_yield (P:=S.P) (args:=x.toArray) hL (by rw [← hr0];simp [hxl])
   refine ⟨_,_,_,_,hy,roundIn_of_wpIn trivial ?_⟩
   have hc':Cls w0 w1 (lrec (D+1) r::(Hj++(B++(dfr D::K)))):=hc.le (Hle.perm (.cons _ (by
    have h1:=(List.perm_middle (a:=dfr D) (l₁:=Hj++B) (l₂:=K)).symm
    rw [List.append_assoc,List.append_assoc] at h1
    exact h1)))
   have hT:=hround (D+1) r j x B Hj (dfr D::K) hrdy hj hQ hGj
   have hag:Agrees ⟨m,[]⟩ #[] env [] { tmps:=r.tmps,defers:=[] }:=by
    rw [← hr0]
    exact⟨rfl,ha0.size,ha0.at_,fun _ _ _ h=>(by cases h),fun _ _ _ h=>(by cases h)⟩
   have hag2:=Agrees.putAll (N:=⟨m,[]⟩) (l:=ps.toList.zip x) hin hag
   have htm:(r.params.zip x.toArray).foldl (fun tmps (p:Tmp × Value)=>tmps.setIfInBounds p.1 p.2) r.tmps=(ps.toList.zip x).foldl (fun tmps (p:Nat × Value)=>tmps.setIfInBounds p.1 p.2) r.tmps:=by
    rw [← hr0, ← Array.foldl_toList,Array.toList_zip]
   rw [htm]
   have h1:=nf_spec (hT _ w1 ⟨hag2.defers,hag2.size,hag2.at_,fun _ _ _ h=>(by cases h),fun _ _ _ h=>(by cases h)⟩ hc')
   simp only [sem] at h1
   have hra:r.assign=assign:=by rw [← hr0]
   have hrb:r.body=body:=by rw [← hr0]
   rw [← hra, ← hrb] at h1
   refine wpIn_mono (F:=Fr (some (D+1))) h1 fun e a1 w2 q=>?_
   cases e <;> first|exact q.elim|skip
   obtain⟨w3,hb,hbody⟩:=q
   refine ⟨w3,hb,wpIn_mono hbody fun e a2 w4 q=>?_⟩
   have fin:∀ H':List HA,Cls w0 w4 (lrec (D+1) (busy r)::(H'++(dfr D::K)))→∀ jump,∃ w',(Instr.endRound (D+1) jump).run S.P w4 = .ok (.bool jump.isNone) w'∧Cls w0 w' (lrec (D+1) { r with state:=if jump.isNone then .ready else .done,pending:=jump }::dfr D::(H'++K)):=by
    intro H' hcl jump
    have hL4:=(hcl.obj (i:=0) rfl).1
    refine ⟨_,run_endRound jump hL4,?_⟩
    have:=hcl.putObj (i:=0) rfl (.loop { r with state:=if jump.isNone then .ready else .done,pending:=jump })
    exact this.le (Hle.perm ((List.perm_middle (a:=dfr D) (l₁:=H') (l₂:=K)).cons _))
   cases e with
   | normal =>
    obtain⟨H',g1,g2⟩:=q
    obtain⟨w',e1,e2⟩:=fin H' g2 none
    refine ⟨_,w',e1, .inl ⟨rfl,_,⟨H',rfl,g1⟩,?_⟩⟩
    have er:({ r with state := .ready,pending:=none }:Loop)=r:=by rw [← hr0]
    simp only [Option.isNone_none,if_true] at e2
    rw [er] at e2
    exact e2
   | ret =>
    obtain⟨H',g1,g2⟩:=q
    obtain⟨w',e1,e2⟩:=fin H' g2 (some .ret)
    exact⟨_,w',e1, .inr ⟨rfl,_,⟨H', .ret,rfl, .inl ⟨rfl,g1⟩⟩,e2⟩⟩
   | exit id =>
    obtain⟨H',g1,g2⟩:=q
    obtain⟨w',e1,e2⟩:=fin H' g2 (some (.exit id))
    exact⟨_,w',e1, .inr ⟨rfl,_,⟨H', .exit id,rfl, .inr ⟨id,rfl,g1⟩⟩,e2⟩⟩
   | goto t=>exact q.elim
   | panic c=>exact q.elim
   | outgrown=>exact q.elim
  have hstart:Cls w0 ((w.alloc (.deferred (some []))).alloc (.loop r)) (cap++(lrec (D+1) r::dfr D::H0)):=by
   have h1:Cls w0 ((w.alloc (.deferred (some []))).alloc (.loop r)) (lrec (D+1) r::dfr D::(cap++H0)):=hw2
   exact h1.le (Hle.rot2 _ _ cap H0)
  have hcall:=hit.2 (D+1) _ _ _ _ hYd ⟨H0,rfl,h0⟩ hstart
  have hcall':CallsIn (Fr none) 0 S.P f (fs++(yv (D+1)::cs)).toArray ((w.alloc (.deferred (some []))).alloc (.loop r)) _:=hcall
  refine CallsIn.mono hcall' ?_
  rintro e w3 ⟨⟨v,rfl⟩,hend⟩
  have hsem:=sem_N (FC S m ds w0 fn Φ) ⟨m,mkD D::ds⟩ k
  have hag:∀ all,Agrees ⟨m,mkD D::ds⟩ all env [] { a with defers:=[mkD D]++a.defers }:=fun all =>
   ⟨by simp [ha0.defers],ha0.size,ha0.at_,fun _ _ _ h=>(by cases h),fun _ _ _ h=>(by cases h)⟩
  rcases hend with⟨_,⟨Hn,rfl,hGn⟩,hc⟩|⟨_,⟨Hx,jump,rfl,hj⟩,hc⟩
  ·have hc:=hc.le (Hle.unrot2 _ _ cap Hn)
   have hL:=(hc.obj (i:=0) rfl).1
   refine ⟨none,w3.putObj (D+1) (.loop { r with state := .exhausted }),(run_endLoop hL (by rw [hrdy];intro h;cases h)).trans (by rw [hpd]),?_⟩
   have hc2:=(hc.putObj (i:=0) rfl (.loop { r with state := .exhausted })).le (Hle.tail _ _)
   have:=nf_spec (hn D Hn hGn _ _ (hag _) hc2)
   show (sem (FC S m ds w0 fn Φ) k).1 _ _
   rw [← hsem]
   exact this
  ·have hc:=hc.le (Hle.unrot2 _ _ cap Hx)
   have hL:=(hc.obj (i:=0) rfl).1
   refine ⟨_,_,run_endLoop hL (by intro h;cases h),?_⟩
   have hc2:=(hc.putObj (i:=0) rfl (.loop { ({ r with state := .done,pending:=some jump }:Loop) with state := .exhausted })).le (Hle.tail _ _)
   rcases hj with⟨rfl,hX⟩|⟨id,rfl,hX⟩
   ·have:=hret D Hx hX _ _ (hag _) hc2
    have h9:(sem (FC S m (mkD D::ds) w0 fn Φ) (.code .ret::k)).1 _ _:=this
    simp only [sem] at h9
    have h10:sem (FC S m (mkD D::ds) w0 fn Φ) k=sem (FC S m ds w0 fn Φ) k:=hsem
    rw [h10] at h9
    exact h9
   ·have:=nf_spec (hex D id Hx hX _ _ (hag _) hc2)
    simp only [sem] at this
    have h10:sem (FC S m (mkD D::ds) w0 fn Φ) k=sem (FC S m ds w0 fn Φ) k:=hsem
    rw [h10] at this
    exact this

theorem OpT.yieldO {S:Sig} {m:Nat} {w0:World} {fn:Func} {R:Ending→World→Prop} {all:Array Oper} {o:Oper} {env:Env} {ec:EnvC} {H:List HA} {d l j:Nat} {x:List Value} {G:GId} {Φ:Env→EnvC→List HA→Prop}
  {GP:Nat→List HA→Prop} {X:List HA→Prop} {Q:Nat→List Value→List HA→Prop} {n:Nat} {Hj:List HA} (B K:List HA)
  (hY:YieldsO S.P w0 l GP X Q n) (hg:gOf all env ec o=some G) (he:evYG env ec G o=some (l,x)) (hT:∀ a,Agrees ⟨m,[]⟩ all env ec a→Holds all a G) (hd:o.dst=some d) (hN:Nat.blt d m=true) (hs:safeC all d ec=true) (hj:j<n) (hQ:Q j x B) (hGP:GP j Hj) (hl:Hle H (Hj++(B++K)))
  (ht:∀ H',GP (j+1) H'→Φ ((d, .bool true)::env) ec (K++H'))
  (hf:∀ Y,X Y→Φ ((d, .bool false)::env) ec (K++Y)):OpT (IC S m w0 fn R) all o env ec H Φ:=by
 intro a w ha hw K' Q' hK
 have hH:=hT a ha
 have hwn:=(wanted_iff ha hg).2 hH
 refine ⟨fun _=>?_,fun hn=>(by rw [hwn] at hn;cases hn)⟩
 obtain⟨f,tmps,assign,body,hy,hr⟩:=hY j x B Hj K w hj hQ hGP (hw.le hl)
 have hdef:=gOf_def hg
 have hex:=evYG_spec ha hH he hy
 unfold Oper.wpIn
 refine ⟨about_Fr o _ w _,?_⟩
 rw [Oper.semAt_eq _ _ _ hdef,hex]
 refine ⟨fun h=>(by cases h),RoundIn.mono hr ?_⟩
 rintro e w' (⟨rfl,H',h1,h2⟩|⟨rfl,Y,h1,h2⟩)
 ·exact hK _ _ _ _ _ (ht H' h1) (by rw [hd];exact ha.put hN hs) (h2.le (Hle.comm _ _))
 ·exact hK _ _ _ _ _ (hf Y h1) (by rw [hd];exact ha.put hN hs) (h2.le (Hle.comm _ _))
end Go.Proofs.YtblnhdnogjijiaaGreatDoor
namespace Go.Proofs.YtblnhdnogjijiaaGreatDoor
open Go.RowKit Go.Shelf Go.Sort Go.Lib
set_option maxRecDepth 100000
set_option maxHeartbeats 1000000
variable {α:Type} [Inhabited α]

theorem heap_sortWorld {enc:α→Value} {w:World} {g m:Nat} {d':Array α} {os:Array Obj} {b:Nat} (hb:b<w.heap.size):(sortWorld enc w g 0 m d' os).heap[b]?=(w.heap[b]?).map (fun o=>if b=g then onCells (putCells enc 0 d') o else o):=by
 unfold sortWorld putRow mapBlock grow Sort.ahead
 simp only [Array.getElem?_append,Array.size_modify,hb,if_true,Array.getElem?_modify]
 by_cases h:g=b
 ·subst h
  simp
 ·rw [if_neg h]
  have:¬ b=g:=fun e=>h e.symm
  simp [this]
theorem putCells_at {enc:α→Value} {d':Array α} {cur:Array Value} (j:Nat) (hj:j<d'.size) (hc:j<cur.size):(putCells enc 0 d' cur)[j]?=some (enc d'[j]!):=by
 unfold putCells
 rw [Array.getElem?_mapIdx,Array.getElem?_eq_getElem hc]
 simp [hj]
theorem putCells_size {enc:α→Value} {d':Array α} {cur:Array Value}:(putCells enc 0 d' cur).size=cur.size:=by unfold putCells;simp
theorem below_sortWorld {enc:α→Value} {w:World} {B g m:Nat} {d':Array α} {os:Array Obj} (hB:B≤w.heap.size) (hg:B≤g):Below B w (sortWorld enc w g 0 m d' os):=by
 refine ⟨rfl,rfl,rfl,?_,fun k hk=>?_⟩
 ·show w.heap.size≤(grow (putRow enc (Sort.ahead w m) g 0 d') os).heap.size
  rw [size_grow,size_putRow]
  show w.heap.size≤w.heap.size+os.size
  omega
 ·rw [heap_sortWorld (b:=k) (by omega)]
  have:¬ k=g:=by omega
  cases w.heap[k]? <;> simp [this]
theorem sort_cls {w0 w:World} {e cap n g:Nat} {H:List HA} {enc:α→Value} {d d':Array α} {m:Nat} {os:Array Obj} (hw:Cls w0 w (row e 1 (some ⟨g,0,none⟩) cap n (d.toList.map enc)::H)) (hd:d.size=n) (hs:d'.size=d.size) :
  Cls w0 (sortWorld enc w g 0 m d' os) (row e 1 (some ⟨g,0,none⟩) cap n (d'.toList.map enc)::H):=by
 obtain⟨F,h1,h2,h3⟩:=hw.sep
 obtain⟨hxl,hrow⟩:=h1 0 _ rfl
 rcases hrow with⟨h9,-⟩|⟨g',cur,hA,hf,hn,hc,hcs,ht⟩
 ·cases h9
 cases hA
 have hg:=h2 0 g (.cells cur e (0,0)) (by simp) (by rw [hf];simp [one])
 have hgl:=lt_of_heap hg.2
 have hlt:w0.heap.size≤w.heap.size:=hw.below.size
 refine ⟨hw.below.trans (below_sortWorld hlt hg.1),?_⟩
 refine hw.sep.turn (k:=0) (b:=g) (o := .cells (putCells enc 0 d' cur) e (0,0)) rfl (fun f hf=>?_) (fun c hc hcl=>?_) ?_ ?_
 ·rcases hf.2 with⟨h9,-⟩|⟨g',cur',hA',hf',-⟩
  ·cases h9
  ·cases hA';exact⟨_,hf'⟩
 ·rw [heap_sortWorld hcl]
  cases w.heap[c]? with
  | none=>rfl
  | some o=>simp [hc]
 ·rw [heap_sortWorld hgl,hg.2]
  simp [onCells]
 ·refine ⟨by rw [List.length_map,Array.length_toList];omega, .inr ⟨g,_,rfl,rfl,hn,hc,by rw [putCells_size];exact hcs,?_⟩⟩
  refine List.ext_getElem? fun j=>?_
  by_cases hj:j<n * 1
  ·rw [List.getElem?_take_of_lt hj,Array.getElem?_toList,putCells_at j (by omega) (by omega),List.getElem?_map,Array.getElem?_toList,Array.getElem?_eq_getElem (by omega)]
   simp [show j<d'.size by omega]
  ·rw [List.getElem?_eq_none (by rw [List.length_take,Array.length_toList,putCells_size];omega),List.getElem?_eq_none (by rw [List.length_map,Array.length_toList];omega)]
theorem sort_holds {w0 w:World} {e cap n g:Nat} {H:List HA} {enc:α→Value} {d:Array α} (hw:Cls w0 w (row e 1 (some ⟨g,0,none⟩) cap n (d.toList.map enc)::H)) (hd:d.size=n):Go.Sort.Holds enc w g 0 d∧g<w.heap.size:=by
 obtain⟨F,h1,h2,h3⟩:=hw.sep
 obtain⟨hxl,hrow⟩:=h1 0 _ rfl
 rcases hrow with⟨h9,-⟩|⟨g',cur,hA,hf,hn,hc,hcs,ht⟩
 ·cases h9
 cases hA
 have hg:=h2 0 g (.cells cur e (0,0)) (by simp) (by rw [hf];simp [one])
 refine ⟨fun j hj=>⟨?_,?_⟩,lt_of_heap hg.2⟩
 ·have h5:(d.toList.map enc)[j]?=some (enc d[j]!):=by
   rw [List.getElem?_map,Array.getElem?_toList,Array.getElem?_eq_getElem hj];simp [hj]
  rw [← ht,List.getElem?_take_of_lt (by omega),Array.getElem?_toList] at h5
  simp [World.cell?,hg.2,h5]
 ·simp [World.frozen?,hg.2]
theorem permIn_all {d d':Array α} (h:PermIn 0 d.size d d'):d'.size=d.size∧d'.toList.Perm d.toList:=by
 obtain⟨h1,-,h3⟩:=h
 refine ⟨h1,?_⟩
 have e1:d.extract 0 d.size=d:=by simp
 have e2:d'.extract 0 d.size=d':=by rw [← h1];simp
 rw [e1,e2] at h3
 exact h3
theorem sortedIn_all {lt:α→α→Bool} {d:Array α} {n:Nat} (hn:d.size=n) (h:SortedIn lt 0 n d):d.toList.Pairwise fun a b=>lt b a=false:=by
 rw [List.pairwise_iff_getElem]
 intro i j hi hj hij
 rw [Array.length_toList] at hi hj
 have:=h i j (Nat.zero_le _) hij (by omega)
 simpa [hi,hj] using this
end Go.Proofs.YtblnhdnogjijiaaGreatDoor
namespace Go.Proofs.YtblnhdnogjijiaaGreatDoor
open Go.RowKit Go.Shelf Go.Proofs
set_option maxRecDepth 100000
set_option maxHeartbeats 1000000

def ownJ (l:List TS) (col:List Int) (k:Nat):List Tok:=(List.range l.length).map fun s=>if s<k∧0≤col.getD s (-1) then tkA (tsA l s).l (col.getD s (-1)).toNat else noTok
def thJ (l:List TS) (col:List Int) (k:Nat):List Bool:=(List.range l.length).map fun s=>decide (s<k∧0≤col.getD s (-1))
theorem ownJ_len (l:List TS) (col:List Int) (k:Nat):(ownJ l col k).length=l.length:=by simp [ownJ]
theorem thJ_len (l:List TS) (col:List Int) (k:Nat):(thJ l col k).length=l.length:=by simp [thJ]
theorem ownJ_zero (l:List TS) (col:List Int):ownJ l col 0=List.replicate l.length noTok:=by
 refine List.ext_getElem? fun s=>?_
 unfold ownJ
 rw [List.getElem?_map,List.getElem?_replicate]
 rcases Nat.lt_or_ge s l.length with h|h
 ·rw [List.getElem?_range h,if_pos h];simp
 ·rw [if_neg (by omega),List.getElem?_eq_none (by simp;omega)];rfl
theorem thJ_zero (l:List TS) (col:List Int):thJ l col 0=List.replicate l.length false:=by
 refine List.ext_getElem? fun s=>?_
 unfold thJ
 rw [List.getElem?_map,List.getElem?_replicate]
 rcases Nat.lt_or_ge s l.length with h|h
 ·rw [List.getElem?_range h,if_pos h];simp
 ·rw [if_neg (by omega),List.getElem?_eq_none (by simp;omega)];rfl
theorem ownJ_gap {l:List TS} {col:List Int} {k:Nat} (h:¬ 0≤col.getD k (-1)):ownJ l col (k+1)=ownJ l col k:=by
 unfold ownJ
 refine List.map_congr_left fun s _=>?_
 by_cases e:s=k
 ·subst e;rw [if_neg (fun h9=>h h9.2),if_neg (fun h9=>h h9.2)]
 ·by_cases h2:s<k∧0≤col.getD s (-1)
  ·rw [if_pos h2,if_pos ⟨by omega,h2.2⟩]
  ·rw [if_neg h2,if_neg (fun h9=>h2 ⟨by omega,h9.2⟩)]
theorem thJ_gap {l:List TS} {col:List Int} {k:Nat} (h:¬ 0≤col.getD k (-1)):thJ l col (k+1)=thJ l col k:=by
 unfold thJ
 refine List.map_congr_left fun s _=>?_
 by_cases e:s=k
 ·subst e;rw [decide_eq_false (fun h9=>h h9.2),decide_eq_false (fun h9=>h h9.2)]
 ·by_cases h2:s<k∧0≤col.getD s (-1)
  ·rw [decide_eq_true h2,decide_eq_true (⟨by omega,h2.2⟩:s<k+1∧_)]
  ·rw [decide_eq_false h2,decide_eq_false (fun h9=>h2 ⟨by omega,h9.2⟩)]
theorem ownJ_tok {l:List TS} {col:List Int} {k:Nat} (hk:k<l.length) (h:0≤col.getD k (-1)):(ownJ l col k).set k (tkA (tsA l k).l (col.getD k (-1)).toNat)=ownJ l col (k+1):=by
 refine List.ext_getElem? fun s=>?_
 unfold ownJ
 rw [List.getElem?_set,List.getElem?_map,List.getElem?_map,List.length_map,List.length_range]
 by_cases e:k=s
 ·subst e
  rw [List.getD_eq_getElem?_getD] at h
  rw [if_pos rfl,if_pos hk,List.getElem?_range hk];simp;intro h9;omega
 ·rw [if_neg e]
  rcases Nat.lt_or_ge s l.length with h2|h2
  ·rw [List.getElem?_range h2]
   simp only [Option.map_some]
   by_cases h3:s<k∧0≤col.getD s (-1)
   ·rw [if_pos h3,if_pos ⟨by omega,h3.2⟩]
   ·rw [if_neg h3,if_neg (fun h9=>h3 ⟨by omega,h9.2⟩)]
  ·rw [List.getElem?_eq_none (by simp;omega)];rfl
theorem thJ_tok {l:List TS} {col:List Int} {k:Nat} (hk:k<l.length) (h:0≤col.getD k (-1)):(thJ l col k).set k true=thJ l col (k+1):=by
 refine List.ext_getElem? fun s=>?_
 unfold thJ
 rw [List.getElem?_set,List.getElem?_map,List.getElem?_map,List.length_map,List.length_range]
 by_cases e:k=s
 ·subst e
  rw [List.getD_eq_getElem?_getD] at h
  rw [if_pos rfl,if_pos hk,List.getElem?_range hk];simp [h]
 ·rw [if_neg e]
  rcases Nat.lt_or_ge s l.length with h2|h2
  ·rw [List.getElem?_range h2]
   simp only [Option.map_some]
   by_cases h3:s<k∧0≤col.getD s (-1)
   ·rw [decide_eq_true h3,decide_eq_true (⟨by omega,h3.2⟩:s<k+1∧_)]
   ·rw [decide_eq_false h3,decide_eq_false (fun h9=>h3 ⟨by omega,h9.2⟩)]
  ·rw [List.getElem?_eq_none (by simp;omega)];rfl
theorem ownJ_small {w:World} {A:Option Addr} {n:Nat} {l:List TS} (hg:Grp w A n l) {col:List Int} (hco:ColOk l col) (k:Nat):∀ t∈ownJ l col k,t.small:=by
 intro t ht
 unfold ownJ at ht
 obtain⟨s,hs,rfl⟩:=List.mem_map.1 ht
 rw [List.mem_range] at hs
 split
 ·rename_i h
  have hci:col[s]?=some (col.getD s (-1)):=by rw [List.getD_eq_getElem?_getD,List.getElem?_eq_getElem (by rw [hco.1];exact hs)];rfl
  have hli:l[s]?=some (tsA l s):=by rw [tsA_eq (List.getElem?_eq_getElem hs)];exact List.getElem?_eq_getElem hs
  exact hg.sm _ (tsA_mem hs) _ (tkA_mem2 h.2 (by rw [hg.ok.len _ (tsA_mem hs)];exact (hco.2 s _ _ hci hli).2))
 ·exact noTok_small
theorem own_colV {w:World} {A:Option Addr} {n:Nat} {l:List TS} (hg:Grp w A n l) {c:Costs} (hc:costE c=0) (hbs:badS l=false) {col:List Int} (hco:ColOk l col):columnV c (ownJ l col l.length) (thJ l col l.length)=(colZ c l col,0):=by
 have hb:=hg.hb
 have hn:=hg.hn
 refine columnV_Z hc hbs hg.ok.len (by omega) hco (ownJ_len _ _ _) (thJ_len _ _ _) (fun i hi=>?_) (fun i hi h0=>?_)
 ·unfold thA thJ
  rw [List.getD_eq_getElem?_getD,List.getElem?_map,List.getElem?_range hi]
  show decide (i<l.length∧0≤col.getD i (-1))=_
  by_cases h:0≤col.getD i (-1)
  ·rw [decide_eq_true h,decide_eq_true ⟨hi,h⟩]
  ·rw [decide_eq_false h,decide_eq_false (fun h9=>h h9.2)]
 ·show tkA (ownJ l col l.length) i=_
  have e:(ownJ l col l.length)[i]?=some (tkA (tsA l i).l (col.getD i (-1)).toNat):=by
   unfold ownJ
   rw [List.getElem?_map,List.getElem?_range hi]
   simp only [Option.map_some]
   rw [if_pos ⟨hi,h0⟩]
  unfold tkA at e ⊢
  rw [List.getD_eq_getElem?_getD (l:=ownJ l col l.length),e]
  rfl
theorem made_toks (n:Nat):(madeCells (noTok.val).cells (n * (noTok.val).cells.size)).toList=(List.replicate n noTok).flatMap Tok.cells:=by
 refine (made_flat (noTok.val).cells n).trans ?_
 induction n with
 | zero=>rfl
 | succ n ih=>rw [List.replicate_succ,List.replicate_succ,List.flatMap_cons,List.flatten_cons,ih];rfl
theorem cost19_spec (c:Costs) (A Ac:Option Addr) (n ca cc:Nat) (l:List TS) (col:List Int) (w:World) (hg:Grp w A n l) (hc:costE c=0) (hbs:badS l=false) (hcs:Src w 1 Ac n (col.map (Value.int .i64))) (hco:ColOk l col) :
  Spec Tryz.prog 104 [c.val, .slice A n ca, .slice Ac n cc] w (fun v R=>v = .int .i64 (colZ c l col)∧R=[]):=by
 have hn:=hg.hn
 subst hn
 have hb:=hg.hb
 refine spec_of sg Tryz.func104 rfl rfl rfl ?_
 refine T_op (OpT.box (cs:=c.cells) rfl rfl rfl rfl rfl rfl rfl (fun pc=>?_))
 repeat' (first|refine d1 ?_|fail)
 refine T_cutX 1 [7,8] (fun s:Nat × Nat=>[(7, .slice (some ⟨s.1,0,none⟩) l.length l.length),(8, .slice (some ⟨s.2,0,none⟩) l.length l.length)]) (fun s=>[blk s.1 (madeCells (noTok.val).cells (l.length * (noTok.val).cells.size)).toList 42,blk s.2 (List.replicate l.length (.bool false)) 4,blk pc c.cells 23]) (fun _=>True) ?_ ?_
 ·refine dw0 1000 [blk pc c.cells 23] ?_
  repeat' (first|(show T _ (.draw _ _ _ _ _::_) _ _ _;first|refine dw1 ?_|refine dwb rfl (by decide +kernel) ?_)|(show AllL _ [];exact True.intro)|(show AllL _ (_::_);refine ⟨?_,?_⟩)|(show OpT _ _ _ _ _ _ _;first|refine dwx ?_|refine OpT.makeC rfl rfl rfl rfl rfl rfl (by dsimp only;omega) (fun b2=>⟨fun _=>(by first|exact Hle.none _|exact Hle.sub|exact absurd ‹_› (by decide +kernel)),?_⟩))|(show ∀ _:Nat,T _ _ _ _ _;intro _)|(show T _ (.mark _::_) _ _ _;exact T_meetX (_,_) trivial (hG:=by exact Hle.srt)))
 rintro⟨b2,b3⟩ _
 dsimp only
 refine T_le (H':=[blk b2 ((ownJ l col 0).flatMap Tok.cells) 42,blk b3 ((thJ l col 0).map Value.bool) 4,blk pc c.cells 23]) (by rw [ownJ_zero,thJ_zero,made_toks,List.map_replicate];exact Hle.refl _) ?_
 repeat' (first|refine d1 ?_|fail)
 refine T_loopX (fun k:Nat=>[(21, .int .i64 k)]) (fun k=>[blk b2 ((ownJ l col k).flatMap Tok.cells) 42,blk b3 ((thJ l col k).map Value.bool) 4,blk pc c.cells 23]) (fun k=>k≤l.length) (fun k=>l.length - k) 0 (Nat.zero_le _) ?_
 intro k hk
 repeat' (first|refine d1 ?_|fail)
 refine T_if rfl (fun h=>?_) (fun h=>?_)
 ·simp only [decide_eq_true_eq] at h
  have hkn:k<l.length:=by omega
  obtain⟨b1,o1,rfl⟩:=hcs.base (by omega)
  obtain⟨b,o,rfl⟩:=hg.hs.base (by omega)
  obtain⟨s,hs,hsmem,hr⟩:=hg.get hkn
  obtain⟨z,hz⟩:∃ z,col[k]?=some z:=⟨_,List.getElem?_eq_getElem (by have:=hco.1;omega)⟩
  have hr1:=src_int hcs hkn hz
  obtain⟨hz1,hz2⟩:=hco.2 k z s hz hs
  have hsl:=hg.ok.len s hsmem
  have hsn:=hg.nb s hsmem
  have hzd:col.getD k (-1)=z:=by rw [List.getD_eq_getElem?_getD,hz];rfl
  repeat' (first|refine d1 ?_|fail)
  refine T_if rfl (fun h1=>?_) (fun h1=>?_)
  ·simp only [decide_eq_true_eq] at h1
   obtain⟨b4,o4,hsA⟩:=(hg.ok.src s hsmem).base (by omega)
   have hsr:RdC w b4 (o4+z.toNat * 6) (tkA s.l z.toNat).cells:=(hsA ▸ hg.ok.src s hsmem:Src w 6 (some ⟨b4,o4,none⟩) s.n (s.l.flatMap Tok.cells)).getT (k:=z.toNat) (by omega) (tkA_get (by omega))
   rw [hsA] at hr
   repeat' (first|refine d1 ?_|(show T _ (.ops _ (_::_)::_) _ _ _;first|refine T_op (OpT.storeA (us:=(tkA s.l z.toNat).cells) rfl rfl rfl rfl rfl rfl (by rw [flatT_length,ownJ_len,show (tkA s.l z.toNat).cells.length=6 from rfl];omega) ?_)|refine T_op (OpT.store rfl rfl rfl rfl (by rw [List.length_map,thJ_len];omega) ?_))|fail)
   refine T_backX (k+1) (by omega) (by omega) (hG:=?_)
   have e1:=ownJ_tok (l:=l) (col:=col) hkn (by rw [hzd];exact h1)
   have e2:=thJ_tok (l:=l) (col:=col) hkn (by rw [hzd];exact h1)
   rw [hzd,tsA_eq hs] at e1
   rw [← e1, ← e2, ← flatTok_set _ _ _ (by rw [ownJ_len];exact hkn),List.map_set,show 0+(k:Int).toNat * 6=k * 6 by omega,show 0+(k:Int).toNat * 1=k by omega]
   exact Hle.refl _
  ·simp only [decide_eq_false_iff_not] at h1
   repeat' (first|refine d1 ?_|fail)
   exact T_backX (k+1) (by omega) (by omega) (hG:=by rw [ownJ_gap (by rw [hzd];exact h1),thJ_gap (by rw [hzd];exact h1)];exact Hle.refl _)
 ·simp only [decide_eq_false_iff_not] at h
  obtain rfl:k=l.length:=by omega
  repeat' (first|refine d1 ?_|(show T _ (.ops _ (_::_)::_) _ _ _;refine T_call rfl rfl rfl rfl rfl (fun w hw=>columnPrg_spec c (some ⟨b2,0,none⟩) (some ⟨b3,0,none⟩) l.length l.length l.length l.length (ownJ l col l.length) (thJ l col l.length) w (hg.hst.cls hw) (Src.own hw (by rw [flatT_length,ownJ_len])) (ownJ_len _ _ _) (by omega) (Src.own hw (by rw [List.length_map,thJ_len,Nat.mul_one])) (thJ_len _ _ _) (by omega) (ownJ_small hg hco _)) ?_)|fail)
  rw [own_colV hg hc hbs hco]
  repeat' (first|(show T _ (.code .ret::_) _ _ _;refine T_retV [] rfl (Hle.none _) ⟨rfl,rfl⟩))
end Go.Proofs.YtblnhdnogjijiaaGreatDoor
namespace Go.Proofs.YtblnhdnogjijiaaGreatDoor
open Go.RowKit Go.Shelf Go.Proofs
set_option maxRecDepth 100000
set_option maxHeartbeats 1000000

end Go.Proofs.YtblnhdnogjijiaaGreatDoor
namespace Go.Proofs.YtblnhdnogjijiaaGreatDoor
open Go.RowKit Go.Shelf Go.Lib Go.Sort Go.Proofs
set_option maxRecDepth 100000
set_option maxHeartbeats 2000000
def cmpI (a b:Int):Int:=if a<b then -1 else if b<a then 1 else 0
def cmpLI:List Int→List Int→Int
 | [],[]=>0
 | [],_::_ => -1
 | _::_,[]=>1
 | a::p,b::q=>if cmpI a b≠0 then cmpI a b else cmpLI p q
theorem isNaN_calls (x:Int) (W:World):Calls Tryz.prog 248 #[.int .i64 x] W fun e w'=>e = .returned (.bool false)∧w'=W:=by
 go_enter Tryz.func248,Tryz.ntmps248
 go_wp2
 go_ret
 exact⟨rfl,rfl⟩
theorem cmpI_calls (x y:Int) (W:World):Calls Tryz.prog 207 #[.int .i64 x, .int .i64 y] W fun e w'=>e = .returned (.int .i64 (cmpI x y))∧w'=W:=by
 have h1:=isNaN_calls x
 have h2:=isNaN_calls y
 go_enter Tryz.func207,Tryz.ntmps207
 go_wp2_with (first|(go_at_call 248;refine (h1 _).mono ?_;rintro e w' ⟨rfl,rfl⟩)|(go_at_call 248;refine (h2 _).mono ?_;rintro e w' ⟨rfl,rfl⟩))
 ·rename_i h;go_ret;exact⟨by unfold cmpI;rw [if_pos h];rfl,rfl⟩
 ·rename_i h9 _ _ h;go_ret;exact⟨by unfold cmpI;rw [if_neg (by omega),if_pos h];rfl,rfl⟩
 ·rename_i h;go_ret;exact⟨by unfold cmpI;rw [if_neg (by omega),if_neg (by omega)];rfl,rfl⟩
theorem cmpLI_drop {a b:List Int} {k:Nat} (ha:k<a.length) (hb:k<b.length):cmpLI (a.drop k) (b.drop k)=if cmpI (a.getD k 0) (b.getD k 0)≠0 then cmpI (a.getD k 0) (b.getD k 0) else cmpLI (a.drop (k+1)) (b.drop (k+1)):=by
 rw [List.drop_eq_getElem_cons ha,List.drop_eq_getElem_cons hb,cmpLI,List.getD_eq_getElem?_getD,List.getElem?_eq_getElem ha,List.getD_eq_getElem?_getD,List.getElem?_eq_getElem hb];rfl
theorem cmpLI_end1 {a b:List Int} {k:Nat} (ha:k<a.length) (hb:b.length≤k):cmpLI (a.drop k) (b.drop k)=1:=by
 rw [List.drop_eq_getElem_cons ha,List.drop_of_length_le hb];rfl
theorem cmpLI_end2 {a b:List Int} {k:Nat} (ha:a.length≤k) (hb:k<b.length):cmpLI (a.drop k) (b.drop k) = -1:=by
 rw [List.drop_eq_getElem_cons hb,List.drop_of_length_le ha];rfl
theorem cmpLI_end {a b:List Int} {k:Nat} (ha:a.length≤k) (hb:b.length≤k):cmpLI (a.drop k) (b.drop k)=0:=by
 rw [List.drop_of_length_le ha,List.drop_of_length_le hb];rfl
theorem compare_calls (ba oa ca bb ob cb:Nat) (a b:List Int) (W:World) (hla:a.length≤1000) (hlb:b.length≤1000) (ha:∀ j,j<a.length→W.cell? ⟨ba,oa+j,none⟩=some (.int .i64 (a.getD j 0))) (hb:∀ j,j<b.length→W.cell? ⟨bb,ob+j,none⟩=some (.int .i64 (b.getD j 0))) :
  Calls Tryz.prog 160 #[.slice (some ⟨ba,oa,none⟩) a.length ca, .slice (some ⟨bb,ob,none⟩) b.length cb] W fun e w'=>e = .returned (.int .i64 (cmpLI a b))∧w'=W:=by
 generalize hna:a.length=na at *
 generalize hnb:b.length=nb at *
 go_enter Tryz.func160,Tryz.ntmps160
 go_wp2
 go_loop [5,6,7,8,11] (fun _ _ _ _ i=>∃ k:Nat,k≤na∧k≤nb∧i = .int .i64 k∧cmpLI a b=cmpLI (a.drop k) (b.drop k)) (fun _ _ _ _ i=>match i with | .int _ m=>na - m.toNat|_=>0)
 case atStart=>exact⟨0,Nat.zero_le _,Nat.zero_le _,rfl,rfl⟩
 case round =>
  obtain⟨k,hk,hkb,rfl,he⟩:=hrel
  by_cases hka:k<na
  ·have hkz:(k:Int)<(na:Int):=by omega
   have hca:=ha k hka
   have hwr:IntKind.i64.wrap ((k:Int)+1)=(k:Int)+1:=by rw [IntKind.wrap_i64];omega
   by_cases hkb2:k<nb
   ·have hkz2:¬ (nb:Int)≤(k:Int):=by omega
    have hkz3:(k:Int)<(nb:Int):=by omega
    have hcb:=hb k hkb2
    have hc:=cmpI_calls (a.getD k 0) (b.getD k 0) W
    rw [cmpLI_drop (by omega) (by omega)] at he
    clear ha hb
    generalize a.getD k 0=x at *
    generalize b.getD k 0=y at *
    generalize cmpI x y=z at *
    by_cases hz:z=0
    ·subst hz
     rw [if_neg (by simp)] at he
     go_wp2_with (go_at_call 207;refine hc.mono ?_;rintro e w' ⟨rfl,rfl⟩)
     refine ⟨⟨k+1,by omega,by omega,rfl,he⟩,?_⟩
     show na - ((k:Int)+1).toNat<na - (k:Int).toNat
     omega
    ·have hzd:decide (z=0)=false:=decide_eq_false hz
     rw [if_pos hz] at he
     go_wp2_with (go_at_call 207;refine hc.mono ?_;rintro e w' ⟨rfl,rfl⟩)
     go_ret
     exact⟨by first|rfl|(rw [he];rfl),rfl⟩
   ·have hkz2:(nb:Int)≤(k:Int):=by omega
    rw [cmpLI_end1 (by omega) (by omega)] at he
    clear ha hb
    go_wp2
    go_ret
    exact⟨by first|rfl|(rw [he];rfl),rfl⟩
  ·have hkz:¬ (k:Int)<(na:Int):=by omega
   clear ha hb
   by_cases hab:na<nb
   ·have habz:(na:Int)<(nb:Int):=by omega
    rw [cmpLI_end2 (by omega) (by omega)] at he
    go_wp2
    go_ret
    exact⟨by first|rfl|(rw [he];rfl),rfl⟩
   ·have habz:¬ (na:Int)<(nb:Int):=by omega
    rw [cmpLI_end (by omega) (by omega)] at he
    go_wp2
    go_ret
    exact⟨by first|rfl|(rw [he];rfl),rfl⟩
theorem moves1_calls (cf:Int) (ba oa ca bb ob cb:Nat) (a b:List Int) (W:World) (hla:a.length≤1000) (hlb:b.length≤1000) (ha:∀ j,j<a.length→W.cell? ⟨ba,oa+j,none⟩=some (.int .i64 (a.getD j 0))) (hb:∀ j,j<b.length→W.cell? ⟨bb,ob+j,none⟩=some (.int .i64 (b.getD j 0)))
  (hcf:cf=if a.length≠b.length then (b.length:Int) - a.length else cmpLI a b) :
  Calls Tryz.prog 159 #[.slice (some ⟨ba,oa,none⟩) a.length ca, .slice (some ⟨bb,ob,none⟩) b.length cb] W fun e w'=>e = .returned (.int .i64 cf)∧w'=W:=by
 have hc:=compare_calls ba oa ca bb ob cb a b W hla hlb ha hb
 clear ha hb
 generalize cmpLI a b=r at *
 generalize a.length=na at *
 generalize b.length=nb at *
 by_cases hab:na=nb
 ·rw [if_neg (by simpa using hab)] at hcf
  subst hcf
  subst hab
  go_enter Tryz.func159,Tryz.ntmps159
  go_wp2_with (go_at_call 160;refine hc.mono ?_;rintro e w' ⟨rfl,rfl⟩)
  go_ret
  exact⟨rfl,rfl⟩
 ·rw [if_pos hab] at hcf
  have hd:¬ (na:Int)=(nb:Int):=by omega
  have hw:IntKind.i64.wrap ((nb:Int) - (na:Int))=(nb:Int) - (na:Int):=by rw [IntKind.wrap_i64];omega
  go_enter Tryz.func159,Tryz.ntmps159
  go_wp2
  go_ret
  exact⟨by rw [hcf];rfl,rfl⟩
end Go.Proofs.YtblnhdnogjijiaaGreatDoor
namespace Go.Proofs.YtblnhdnogjijiaaGreatDoor
open Go.RowKit Go.Shelf Go.Proofs
set_option maxRecDepth 100000
set_option maxHeartbeats 1000000

theorem cmpI_nat (a b:Nat):cmpI (a:Int) (b:Int)=if a<b then -1 else if b<a then 1 else 0:=by
 unfold cmpI
 by_cases h1:a<b
 ·rw [if_pos (by omega),if_pos h1]
 ·rw [if_neg (by omega),if_neg h1]
  by_cases h2:b<a
  ·rw [if_pos (by omega),if_pos h2]
  ·rw [if_neg (by omega),if_neg h2]
theorem cmpLI_nat:∀ a b:List Nat,cmpLI (intN a) (intN b)=cmpL a b
 | [],[]=>rfl
 | [],_::_=>rfl
 | _::_,[]=>rfl
 | a::p,b::q=>by
  have ih:=cmpLI_nat p q
  show (if cmpI (a:Int) (b:Int)≠0 then cmpI (a:Int) (b:Int) else cmpLI (intN p) (intN q))=_
  rw [cmpI_nat,ih,cmpL]
  by_cases h1:a<b
  ·rw [if_pos h1,if_pos h1,if_pos (by omega)]
  ·by_cases h2:b<a
   ·rw [if_neg h1,if_pos h2,if_neg h1,if_pos h2,if_pos (by omega)]
   ·rw [if_neg h1,if_neg h2,if_neg h1,if_neg h2,if_neg (by omega)]
end Go.Proofs.YtblnhdnogjijiaaGreatDoor
namespace Go.Proofs.YtblnhdnogjijiaaGreatDoor
open Go.RowKit Go.Shelf Go.Proofs
set_option maxRecDepth 100000
set_option maxHeartbeats 1000000

theorem volL_app:∀ a b:List Nat,volL (a++b)=volL a * volL b
 | [],b=>by show volL b=1 * volL b;omega
 | n::a,b=>by
  show (n+1) * volL (a++b)=(n+1) * volL a * volL b
  rw [volL_app a b,Nat.mul_assoc]
theorem volL_snoc {ls:List Nat} {k n:Nat} (h:ls[k]?=some n):volL (ls.take (k+1))=volL (ls.take k) * (n+1):=by
 rw [take_snoc _ _ _ h,volL_app]
 show _ * ((n+1) * 1)=_
 rw [Nat.mul_one]
theorem volL_take (ls:List Nat) (k:Nat):volL (ls.take k)≤volL ls:=by
 have h:=volL_app (ls.take k) (ls.drop k)
 rw [List.take_append_drop] at h
 rw [h]
 exact Nat.le_mul_of_pos_right _ (volL_pos _)
theorem volL_drop {ls:List Nat} {k n:Nat} (h:ls[k]?=some n):volL (ls.drop k)=volL (ls.drop (k+1)) * (n+1):=by
 obtain⟨h1,e⟩:=List.getElem?_eq_some_iff.1 h
 rw [List.drop_eq_getElem_cons h1,e]
 show (n+1) * _=_
 rw [Nat.mul_comm]
theorem volL_dropLe (ls:List Nat) (k:Nat):volL (ls.drop k)≤volL ls:=by
 have h:=volL_app (ls.take k) (ls.drop k)
 rw [List.take_append_drop] at h
 rw [h]
 exact Nat.le_mul_of_pos_left _ (volL_pos _)
theorem stpL_drop:∀ {ls:List Nat} {s:Nat},s<ls.length→stpL ls s=volL (ls.drop (s+1))
 | _::ls,0,_=>rfl
 | _::ls,s+1,h=>by
  have:=stpL_drop (ls:=ls) (s:=s) (by simpa using h)
  simpa [stpL] using this
theorem stpL_pos {ls:List Nat} {s:Nat} (h:s<ls.length):0<stpL ls s:=by rw [stpL_drop h];exact volL_pos _
theorem stpL_le {ls:List Nat} {s:Nat} (h:s<ls.length):stpL ls s≤volL ls:=by rw [stpL_drop h];exact volL_dropLe _ _
def capV (v lim:Nat):Nat:=if v≤lim then v else lim+1
theorem size19_spec (A:Option Addr) (n ca:Nat) (l:List TS) (lim:Nat) (w:World) (hg:Grp w A n l) (hlim:1≤lim∧lim≤1000000000000):Spec Tryz.prog 100 [.slice A n ca, .int .i64 (lim:Nat)] w (fun v R=>v = .int .i64 (capV (volL (lens l)) lim:Nat)∧R=[]):=by
 have hn:=hg.hn
 have hb:=hg.hb
 have hll:=lens_len l
 refine spec_of sg Tryz.func100 rfl rfl rfl ?_
 repeat' (first|refine d1 ?_|fail)
 refine T_loopX (fun k:Nat=>[(10, .int .i64 k),(5, .int .i64 (volL ((lens l).take k):Nat))]) (fun _=>[]) (fun k=>k≤n∧volL ((lens l).take k)≤lim) (fun k=>n - k) 0 ⟨Nat.zero_le _,hlim.1⟩ ?_
 rintro k ⟨hk,hv⟩
 repeat' (first|refine d1 ?_|fail)
 refine T_if rfl (fun h=>?_) (fun h=>?_)
 ·simp only [decide_eq_true_eq] at h
  have hkn:k<n:=by omega
  obtain⟨b,o,rfl⟩:=hg.hs.base (by omega)
  obtain⟨t,ht,htm,hr⟩:=hg.get hkn
  have htn:=hg.nb t htm
  have hs:=volL_snoc (lens_get ht)
  have hle:=volL_take (lens l) (k+1)
  have e:((volL ((lens l).take k):Nat):Int) * ((t.n:Int)+1)=(volL ((lens l).take (k+1)):Nat):=by rw [hs];simp
  have hbd:volL ((lens l).take (k+1))≤1000000000000 * 1001:=by rw [hs];exact Nat.mul_le_mul (by omega) (by omega)
  repeat' (first|refine d1 ?_|fail)
  rw [e]
  refine T_if rfl (fun h1=>?_) (fun h1=>?_)
  ·simp only [decide_eq_true_eq] at h1
   repeat' (first|refine d1 ?_|(show T _ (.code .ret::_) _ _ _;refine T_retV [] rfl (Hle.none _) ⟨by unfold capV;rw [if_neg (by omega)];rfl,rfl⟩))
  ·simp only [decide_eq_false_iff_not] at h1
   repeat' (first|refine d1 ?_|fail)
   exact T_backX (k+1) ⟨by omega,by omega⟩ (by omega)
 ·simp only [decide_eq_false_iff_not] at h
  obtain rfl:k=n:=by omega
  rw [List.take_of_length_le (by omega)] at hv ⊢
  repeat' (first|refine d1 ?_|(show T _ (.code .ret::_) _ _ _;refine T_retV [] rfl (Hle.none _) ⟨by unfold capV;rw [if_pos hv];rfl,rfl⟩))
def gridL (A:Option Addr) (n ca:Nat) (ls:List Nat) (j:Nat):List Value :=
 [.slice A n ca, .int .i64 (if j≤0 then stpL ls 0 else 0:Nat), .int .i64 (if j≤1 then stpL ls 1 else 0:Nat), .int .i64 (if j≤2 then stpL ls 2 else 0:Nat), .int .i64 (if j≤3 then stpL ls 3 else 0:Nat), .int .i64 (volL (ls.drop j):Nat)]
def gridM (A:Option Addr) (n ca:Nat) (ls:List Nat) (j v:Nat):List Value :=
 [.slice A n ca, .int .i64 (if j≤0 then stpL ls 0 else 0:Nat), .int .i64 (if j≤1 then stpL ls 1 else 0:Nat), .int .i64 (if j≤2 then stpL ls 2 else 0:Nat), .int .i64 (if j≤3 then stpL ls 3 else 0:Nat), .int .i64 (v:Nat)]
theorem newGrid_spec (A:Option Addr) (n ca:Nat) (l:List TS) (w:World) (hg:Grp w A n l) (h4:n≤4) (hv:volL (lens l)≤65536) :
  Spec Tryz.prog 101 [.slice A n ca] w (fun v R=>∃ g:Nat,True∧v = .pointer (some ⟨g,0,none⟩)∧R=[blk g (gridL A n ca (lens l) 0) 129]):=by
 have hn:=hg.hn
 have hll:=lens_len l
 have hz:∀ s,n≤s→stpL (lens l) s=0:=fun s hs=>by
  have:∀ (ls:List Nat) (s:Nat),ls.length≤s→stpL ls s=0:=by
   intro ls
   induction ls with
   | nil=>intro s _;rfl
   | cons a ls ih=>intro s h;cases s with
    | zero=>simp at h
    | succ s=>exact ih s (by simpa using h)
  exact this _ _ (by omega)
 refine spec_of sg Tryz.func101 rfl rfl rfl ?_
 repeat' (first|refine d1 ?_|(show ∀ _:Nat,T _ _ _ _ _;intro _))
 rename_i g
 refine T_loopX (fun j:Nat=>[(4, .int .i64 ((j:Int) - 1))]) (fun j=>[blk g (gridL A n ca (lens l) j) 129]) (fun j=>j≤n) (fun j=>j) n (Nat.le_refl _) ?_ (hG:=?_)
 ·rintro j hj
  repeat' (first|refine d1 ?_|fail)
  refine T_if rfl (fun h=>?_) (fun h=>?_)
  ·simp only [decide_eq_true_eq] at h
   obtain⟨s,rfl⟩:∃ s,j=s+1:=⟨j - 1,by omega⟩
   obtain⟨b,o,rfl⟩:=hg.hs.base (by omega)
   obtain⟨t,ht,htm,hr⟩:=hg.get (k:=s) (by omega)
   have htn:=hg.nb t htm
   rw [show ((s+1:Nat):Int) - 1=(s:Nat) by omega]
   have e1:volL ((lens l).drop s)=volL ((lens l).drop (s+1)) * (t.n+1):=volL_drop (lens_get ht)
   have e2:=stpL_drop (ls:=lens l) (s:=s) (by omega)
   have b1:=volL_dropLe (lens l) s
   have b2:=volL_dropLe (lens l) (s+1)
   have e3:((volL ((lens l).drop (s+1)):Nat):Int) * ((t.n:Int)+1)=(volL ((lens l).drop s):Nat):=by rw [e1];simp
   have hgl:∀ j,(gridL (some ⟨b,o,none⟩) n ca (lens l) j).length=6:=fun _=>rfl
   refine T_cutX 1 [] (fun _:Unit=>[]) (fun _=>[blk g ((gridL (some ⟨b,o,none⟩) n ca (lens l) (s+1)).set (0+1+(s:Int).toNat * 1) (.int .i64 (volL ((lens l).drop (s+1)):Nat))) 129]) (fun _=>True) ?_ ?_
   ·refine dw0 1000 [] ?_
    repeat' (first|(show T _ (.draw _ _ _ _ _::_) _ _ _;first|refine dw1 ?_|refine dwv rfl (by decide +kernel) rfl rfl (Val.nilc rfl) rfl rfl rfl ?_|refine dwb rfl (by decide +kernel) ?_)|(show AllL _ [];exact True.intro)|(show AllL _ (_::_);refine ⟨?_,?_⟩)|(show OpT _ _ _ _ _ _ _;first|refine dwx ?_|refine OpT.ofVal rfl (Val.nilc rfl) rfl rfl rfl ⟨fun _=>(by first|exact Hle.none _|exact Hle.sub|exact absurd ‹_› (by decide +kernel)),?_⟩|refine OpT.ofVal rfl (Val.load rfl (fun hg=>rdOwn1 rfl)) rfl rfl rfl ⟨fun _=>(by first|exact Hle.none _|exact Hle.sub|exact absurd ‹_› (by decide +kernel)),?_⟩|refine OpT.store rfl rfl rfl rfl (by rw [hgl];omega) ⟨fun _=>Hle.none _,?_⟩)|(show T _ (.mark _::_) _ _ _;exact T_meetX () trivial))
   rintro⟨⟩ _
   refine T_le (H':=[blk g (gridM (some ⟨b,o,none⟩) n ca (lens l) s (volL ((lens l).drop (s+1)))) 129]) ?_ ?_
   ·have e:(gridL (some ⟨b,o,none⟩) n ca (lens l) (s+1)).set (0+1+(s:Int).toNat * 1) (.int .i64 (volL ((lens l).drop (s+1)):Nat))=gridM (some ⟨b,o,none⟩) n ca (lens l) s (volL ((lens l).drop (s+1))):=by
     obtain rfl|rfl|rfl|rfl:s=0∨s=1∨s=2∨s=3:=by omega
     all_goals (simp [gridL,gridM];rw [e2];try simp)
    rw [e]
    exact Hle.refl _
   refine T_cutX 1 [] (fun _:Unit=>[]) (fun _=>[blk g (gridL (some ⟨b,o,none⟩) n ca (lens l) s) 129]) (fun _=>True) ?_ ?_
   ·refine dw0 1000 [] ?_
    repeat' (first|(show T _ (.draw _ _ _ _ _::_) _ _ _;first|refine dw1 ?_|refine dwv rfl (by decide +kernel) rfl rfl (Val.nilc rfl) rfl rfl rfl ?_|refine dwb rfl (by decide +kernel) ?_)|(show AllL _ [];exact True.intro)|(show AllL _ (_::_);refine ⟨?_,?_⟩)|(show OpT _ _ _ _ _ _ _;first|refine dwx ?_|refine OpT.ofVal rfl (Val.load rfl (fun hg=>rdOwn1 rfl)) rfl rfl rfl ⟨fun _=>(by first|exact Hle.none _|exact Hle.sub|exact absurd ‹_› (by decide +kernel)),?_⟩|refine OpT.ofVal rfl (Val.load rfl (fun hg=>rdOld hr)) rfl rfl rfl ⟨fun _=>(by first|exact Hle.none _|exact Hle.sub|exact absurd ‹_› (by decide +kernel)),?_⟩)|(show T _ (.mark _::_) _ _ _;exact T_meetX () trivial (hG:=by rw [e3];exact Hle.refl _)))
   rintro⟨⟩ _
   repeat' (first|refine d1 ?_|fail)
   exact T_backX s (by omega) (by omega)
  ·simp only [decide_eq_false_iff_not] at h
   obtain rfl:j=0:=by omega
   repeat' (first|refine d1 ?_|(show T _ (.code .ret::_) _ _ _;refine T_retV _ rfl (Hle.refl _) ⟨g,trivial,rfl,rfl⟩))
 ·have e:gridL A n ca (lens l) n=[.slice A n ca, .int .i64 0, .int .i64 0, .int .i64 0, .int .i64 0, .int .i64 1]:=by
   have h0:∀ s,(if n≤s then stpL (lens l) s else 0)=0:=fun s=>by split;exact hz s ‹_›;rfl
   unfold gridL
   rw [h0,h0,h0,h0,List.drop_of_length_le (by omega)];rfl
  rw [e]
  exact Hle.refl _
end Go.Proofs.YtblnhdnogjijiaaGreatDoor
namespace Go.Proofs.YtblnhdnogjijiaaGreatDoor
open Go.RowKit Go.Shelf Go.Proofs
set_option maxRecDepth 100000
set_option maxHeartbeats 1000000

theorem stpL_none:∀ {ls:List Nat} {s:Nat},ls.length≤s→stpL ls s=0
 | [],_,_=>rfl
 | _::_,0,h=>by simp at h
 | _::ls,s+1,h=>stpL_none (ls:=ls) (by simpa using h)
def atJ (v:List Nat) (s:Nat):List Value:=[.int .i64 (if 0<s then v.getD 0 0 else 0:Nat), .int .i64 (if 1<s then v.getD 1 0 else 0:Nat), .int .i64 (if 2<s then v.getD 2 0 else 0:Nat), .int .i64 (if 3<s then v.getD 3 0 else 0:Nat)]
def atV (v:List Nat):List Value:=[.int .i64 (v.getD 0 0:Nat), .int .i64 (v.getD 1 0:Nat), .int .i64 (v.getD 2 0:Nat), .int .i64 (v.getD 3 0:Nat)]
theorem atJ_all {v:List Nat} {n:Nat} (hv:v.length=n) (h4:n≤4):atJ v n=atV v:=by
 have h:∀ s,(if s<n then v.getD s 0 else 0)=v.getD s 0:=fun s=>by
  by_cases hs:s<n
  ·rw [if_pos hs]
  ·rw [if_neg hs,List.getD_eq_getElem?_getD,List.getElem?_eq_none (by omega)];rfl
 unfold atJ atV
 rw [h,h,h,h]
theorem gridL_stp (A:Option Addr) (n ca:Nat) (ls:List Nat) {s:Nat} (hs:s<4):(gridL A n ca ls 0)[1+s]?=some (.int .i64 (stpL ls s:Nat)):=by
 obtain rfl|rfl|rfl|rfl:s=0∨s=1∨s=2∨s=3:=by omega
 all_goals rfl
theorem at19_spec (A:Option Addr) (n ca:Nat) (l:List TS) (pg p:Nat) (w:World) (hg:Grp w A n l) (h4:n≤4) (hv:volL (lens l)≤65536) (hp:p<volL (lens l)) (hpg:RdC w pg 0 (gridL A n ca (lens l) 0)) :
  Spec Tryz.prog 162 [.pointer (some ⟨pg,0,none⟩), .int .i64 (p:Nat)] w (fun v R=>v = .agg (atV (atL (lens l) p)).toArray∧R=[]):=by
 have hn:=hg.hn
 have hll:=lens_len l
 have hal:=atL_len (lens l) p
 have hl0:RdC w pg 0 [.slice A n ca]:=fun j u hu=>by
  cases j with
  | zero=>simp at hu;subst hu;exact hpg 0 _ rfl
  | succ j=>simp at hu
 refine spec_of sg Tryz.func162 rfl rfl rfl ?_
 repeat' (first|refine d1 ?_|(show T _ (.ops _ (_::_)::_) _ _ _;refine T_val rfl (Val.nilc rfl) rfl rfl rfl ?_)|(show ∀ _:Nat,T _ _ _ _ _;intro _))
 rename_i p4 p5
 refine T_loopX (fun s:Nat=>[(12, .int .i64 (s:Nat))]) (fun s=>[blk p5 (atJ (atL (lens l) p) s) 127,blk p4 (atJ [] 0) 127]) (fun s=>s≤n) (fun s=>n - s) 0 (Nat.zero_le _) ?_
 rintro s hs
 repeat' (first|refine d1 ?_|fail)
 refine T_if rfl (fun h=>?_) (fun h=>?_)
 ·simp only [decide_eq_true_eq] at h
  have hsn:s<n:=by omega
  obtain⟨b,o,rfl⟩:=hg.hs.base (by omega)
  obtain⟨t,ht,htm,hr⟩:=hg.get (k:=s) hsn
  have htn:=hg.nb t htm
  have hsp:=stpL_pos (ls:=lens l) (s:=s) (by omega)
  have hsl:=stpL_le (ls:=lens l) (s:=s) (by omega)
  have hst:RdC w pg (0+1+(s:Int).toNat * 1) [.int .i64 (stpL (lens l) s:Nat)]:=fun j u hu=>by
   cases j with
   | zero=>simp at hu;subst hu;have:=hpg (1+s) _ (gridL_stp _ _ _ _ (by omega));rw [show 0+1+(s:Int).toNat * 1+0=0+(1+s) by omega];exact this
   | succ j=>simp at hu
  obtain⟨q,hq⟩:∃ q,q=p / stpL (lens l) s:=⟨_,rfl⟩
  have hdv:((p:Int) / (stpL (lens l) s:Nat))=(q:Int):=by rw [hq];simp
  have hat:=atL_get p (lens_get ht)
  have hdl:q≤p:=by rw [hq];exact Nat.div_le_self _ _
  rw [← hq] at hat
  have hrm:(q:Int) % ((t.n:Int)+1)=((atL (lens l) p).getD s 0:Nat):=by
   rw [List.getD_eq_getElem?_getD,hat];simp
  have hset:(atJ (atL (lens l) p) s).set (0+(s:Int).toNat * 1) (.int .i64 ((atL (lens l) p).getD s 0:Nat))=atJ (atL (lens l) p) (s+1):=by
   obtain rfl|rfl|rfl|rfl:s=0∨s=1∨s=2∨s=3:=by omega
   all_goals simp [atJ]
  have hjl:(atJ (atL (lens l) p) s).length=4:=rfl
  repeat' (first|refine d1 ?_|refine dd ?_|(show T _ (.run _ _ (_::_) _ _::_) _ _ _;refine rv rfl rfl rfl (Val.nilc rfl) rfl rfl rfl ?_)|fail)
  refine T_backX (s+1) (by omega) (by omega) (hG:=?_)
  rw [← hset, ← hrm, ← hdv]
  exact Hle.refl _
 ·simp only [decide_eq_false_iff_not] at h
  obtain rfl:s=n:=by omega
  rw [atJ_all (by omega) h4]
  repeat' (first|refine d1 ?_|fail)
  refine T_le (H':=[blk p4 (atV (atL (lens l) p)) 127]) (Hle.tail _ _) ?_
  exact T_retM (vs:=[.agg (atV (atL (lens l) p)).toArray]) [] ⟨⟨p4,_,atV (atL (lens l) p),rfl,rfl,rfl,rfl,(fun h=>by cases h),rfl,rdAll⟩,trivial⟩ (Hle.none _) ⟨rfl,rfl⟩
end Go.Proofs.YtblnhdnogjijiaaGreatDoor
namespace Go.Proofs.YtblnhdnogjijiaaGreatDoor
open Go.RowKit Go.Shelf Go.Proofs Go.Sort Go.Lib
set_option maxRecDepth 100000
set_option maxHeartbeats 1000000

structure MvAt (p:Frag) where
 v:Value
 m:List Nat
 rd:Rd (fr p) [v] [intsD (intN m)]
 ne:m≠[]
 le:m.length≤1000
theorem mvAt_list {p:Frag}:∀ {ms:List (List Nat)} {hs:List Value},Rd (fr p) hs (ms.map fun m=>intsD (intN m))→(∀ m∈ms,m≠[]∧m.length≤1000)→∃ L:List (MvAt p),L.map MvAt.v=hs∧L.map MvAt.m=ms
 | [],hs,h,_=>by cases h;exact⟨[],rfl,rfl⟩
 | m::ms,[],h,_=>by have:=h.length;simp at this
 | m::ms,x::hs,h,hm=>by
  obtain⟨h1,h2⟩:=h.cons_inv
  obtain⟨L,e1,e2⟩:=mvAt_list h2 fun k hk=>hm k (.tail _ hk)
  have hmm:=hm m (.head _)
  exact⟨⟨x,m,h1,hmm.1,hmm.2⟩::L,by rw [List.map_cons,e1],by rw [List.map_cons,e2]⟩
theorem mvAt_rd {p:Frag}:∀ L:List (MvAt p),Rd (fr p) (L.map MvAt.v) ((L.map MvAt.m).map fun m=>intsD (intN m))
 | [] => .nil
 | x::L=>x.rd.append (mvAt_rd L)
def cfM {p:Frag} (x y:MvAt p):Int:=cmpM x.m y.m
theorem cmpM_le {a b c:List Nat} (h1:¬ cmpM a b<0) (h2:¬ cmpM b c<0):¬ cmpM a c<0:=fun h=>by
 have a1:=cmpM_neg a b
 have a2:=cmpM_neg b c
 by_cases e1:cmpM a b=0
 ·rw [cmpM_zero e1] at h;exact h2 h
 ·by_cases e2:cmpM b c=0
  ·rw [← cmpM_zero e2] at h;exact h1 h
  ·have h3:=cmpM_trans (a:=b) (b:=a) (c:=c) (by omega) h
   exact h2 h3
theorem swoM (p:Frag):SWO (ltOf (cfM (p:=p))):=by
 refine ⟨fun x=>?_,fun x y z h1 h2=>?_,fun x y z h1 h2=>?_⟩
 ·unfold ltOf cfM
  rw [cmpM_self];rfl
 ·unfold ltOf cfM at *
  exact decide_eq_true (cmpM_trans (of_decide_eq_true h1) (of_decide_eq_true h2))
 ·unfold ltOf cfM at *
  exact decide_eq_false (cmpM_le (of_decide_eq_false h1) (of_decide_eq_false h2))
theorem sortM_spec {w0:World} {cap g n:Nat} {hs:List Value} {ms:List (List Nat)} {p:Frag} (hp:Rd (fr p) hs (ms.map fun m=>intsD (intN m))) (hn:ms.length=n) (h0:0<n) (hn2:n≤1000) (hms:∀ m∈ms,m≠[]∧m.length≤1000) :
  SpecB Tryz.prog 158 [.slice (some ⟨g,0,none⟩) n cap, .func (.func 159) #[] #[]] w0 [row 47 1 (some ⟨g,0,none⟩) cap n hs,fz p]
   (fun v R=>v = .tuple #[]∧∃ (hs':List Value) (ms':List (List Nat)),Rd (fr p) hs' (ms'.map fun m=>intsD (intN m))∧ms'.Perm ms∧(ms'.Pairwise fun a b=>¬ cmpM b a<0)∧R=[row 47 1 (some ⟨g,0,none⟩) cap n hs',fz p]):=by
 refine ⟨enters_of rfl rfl rfl,fun w hw=>?_⟩
 obtain⟨L,e1,e2⟩:=mvAt_list hp hms
 have hL:L.length=n:=by rw [← hn, ← e2,List.length_map]
 have:Inhabited (MvAt p):=⟨L[0]'(by omega)⟩
 have hw2:Cls w0 w [row 47 1 (some ⟨g,0,none⟩) cap n (L.toArray.toList.map MvAt.v),fz p]:=by rw [List.toList_toArray,e1];exact hw
 obtain⟨hH,hblk⟩:=sort_holds hw2 (by simpa using hL)
 have hcmp:CmpLays1 Tryz.prog 159 #[] (MvAt.v (p:=p)) cfM g 0 L.toArray.size w:=by
  intro k os dk hdk x y
  have hW:=sort_cls (d':=dk) (m:=k) (os:=os) hw2 (by simpa using hL) hdk
  obtain⟨A,ca,hxv,hx1,hx2,hx3⟩:=(x.rd.own hW).row1
  obtain⟨B,cb,hyv,hy1,hy2,hy3⟩:=(y.rd.own hW).row1
  have l1:(intN x.m).length=x.m.length:=by simp [intN]
  have l2:(intN y.m).length=y.m.length:=by simp [intN]
  have p1:=List.length_pos_iff.2 x.ne
  have p2:=List.length_pos_iff.2 y.ne
  have q1:=x.le
  have q2:=y.le
  obtain⟨ba,oa,rfl,hca⟩:=hx3 (by omega)
  obtain⟨bb,ob,rfl,hcb⟩:=hy3 (by omega)
  have hc:=moves1_calls (cmpM x.m y.m) ba oa ca bb ob cb (intN x.m) (intN y.m) (sortWorld (MvAt.v (p:=p)) w g 0 k dk os) (by omega) (by omega)
   (fun j hj=>hca j _ (by rw [List.getElem?_eq_getElem hj,List.getD_eq_getElem?_getD,List.getElem?_eq_getElem hj];rfl)) (fun j hj=>hcb j _ (by rw [List.getElem?_eq_getElem hj,List.getD_eq_getElem?_getD,List.getElem?_eq_getElem hj];rfl))
   (by rw [cmpLI_nat,l1,l2];rfl)
  rw [← hxv, ← hyv] at hc
  exact hc.mono fun e w' ⟨h1,h2⟩=>⟨h1,0, #[],by rw [h2,grow_empty];rfl⟩
 have hS:=Tryz.slices_SortFunc (MvAt.v (p:=p)) (fun x=>by obtain⟨A,ca,h,-⟩:=x.rd.row1;rw [h];rfl) cfM (swoM p) 159 #[] g 0 cap L.toArray w (enters_of rfl rfl rfl) hcmp hH hblk (by simp;omega)
 rw [show L.toArray.size=n by simpa using hL] at hS
 refine hS.mono fun e w' hh=>?_
 obtain⟨rfl,d',k,os,hpm,hso,rfl⟩:=hh
 obtain⟨hsz,hpe⟩:=permIn_all (d:=L.toArray) (by rw [show L.toArray.size=n by simpa using hL];exact hpm)
 have hso2:=sortedIn_all (d:=d') (by rw [hsz];simpa using hL) hso
 have hfin:=sort_cls (d':=d') (m:=k) (os:=os) hw2 (by simpa using hL) hsz
 refine ⟨.tuple #[],_,rfl,⟨rfl,d'.toList.map MvAt.v,d'.toList.map MvAt.m,mvAt_rd _,?_,?_,rfl⟩,hfin.below,hfin.sep⟩
 ·have:=hpe.map MvAt.m
  rw [List.toList_toArray,e2] at this
  exact this
 ·refine List.pairwise_map.2 (hso2.imp fun {a b} h=>?_)
  exact of_decide_eq_false h
end Go.Proofs.YtblnhdnogjijiaaGreatDoor
namespace Go.Proofs.YtblnhdnogjijiaaGreatDoor
open Go.RowKit Go.Shelf Go.Proofs
set_option maxRecDepth 100000
set_option maxHeartbeats 1000000

def allP (n c:Nat):List (List Nat):=((List.range c).map (bitsL n)).filter fun m => !m.isEmpty
theorem allP_all (n:Nat):allP n (2 ^ n)=allL n:=rfl
theorem allP_yes {n c:Nat} (h:0<(bitsL n c).length):allP n (c+1)=allP n c++[bitsL n c]:=by
 unfold allP
 rw [List.range_succ,List.map_append,List.filter_append]
 have:(bitsL n c).isEmpty=false:=by cases hb:bitsL n c with
  | nil=>rw [hb] at h;simp at h
  | cons a l=>rfl
 show _++List.filter _ [bitsL n c]=_
 rw [List.filter_cons,this];rfl
theorem allP_no {n c:Nat} (h:¬ 0<(bitsL n c).length):allP n (c+1)=allP n c:=by
 unfold allP
 rw [List.range_succ,List.map_append,List.filter_append]
 have:bitsL n c=[]:=List.eq_nil_of_length_eq_zero (by omega)
 show _++List.filter _ [bitsL n c]=_
 rw [this]
 exact List.append_nil _
def bitsP (c s:Nat):List Nat:=(List.range s).filter fun k=>c.testBit k
theorem bitsP_succ (c s:Nat):bitsP c (s+1)=bitsP c s++if c.testBit s=true then [s] else []:=by
 unfold bitsP
 rw [List.range_succ,List.filter_append,List.filter_cons]
 rfl
theorem bitsP_len (c s:Nat):(bitsP c s).length≤s:=by
 unfold bitsP
 have:=List.length_filter_le (fun k=>c.testBit k) (List.range s)
 rwa [List.length_range] at this
theorem allP_len (n c:Nat):(allP n c).length≤c:=by
 unfold allP
 have:=List.length_filter_le (fun m:List Nat => !m.isEmpty) ((List.range c).map (bitsL n))
 rwa [List.length_map,List.length_range] at this
theorem bit_law:∀ c:Nat,c<16→∀ s:Nat,s<4→decide (andV .i64 (shrV .i64 (c:Int) (s:Int)) 1=1)=Nat.testBit c s:=by decide +kernel
theorem shl_law {n:Nat} (h4:n≤4):shlV .i64 1 (n:Int)=((2 ^ n:Nat):Int):=by
 obtain rfl|rfl|rfl|rfl|rfl:n=0∨n=1∨n=2∨n=3∨n=4:=by omega
 all_goals decide +kernel
theorem mvL_none {n:Nat} (h:n<1∨4<n):mvL n=[]:=by
 match n,h with
 | 0,_=>rfl
 | 1,h=>omega
 | 2,h=>omega
 | 3,h=>omega
 | 4,h=>omega
 | n+5,_=>rfl
theorem intN_snoc (a:List Nat) (s:Nat):(intN (a++[s])).map (Value.int .i64)=(intN a).map (Value.int .i64)++flatP [(0, .int .i64 (s:Nat))]:=by unfold intN;rw [List.map_append,List.map_append];rfl
theorem moves19_spec (z:Int) (w:World):Spec Tryz.prog 102 [.int .i64 z] w (fun v R=>∃ x:Value,True∧v=x∧R=[dat [x] [rowsD ((mvL z.toNat).map intN)]]):=by
 refine spec_of sg Tryz.func102 rfl rfl rfl ?_
 repeat' (first|refine d1 ?_|fail)
 refine T_if rfl (fun h=>?_) (fun h=>?_)
 ·simp only [Bool.or_eq_true,decide_eq_true_eq] at h
  rw [mvL_none (by omega)]
  repeat' (first|refine d1 ?_|(show T _ (.code .ret::_) _ _ _;refine T_retV _ rfl (nilC _ |>.trans (Hle.nth 0 rfl)) ⟨_,trivial,rfl,rfl⟩))
 simp only [Bool.or_eq_false_iff,decide_eq_false_iff_not] at h
 obtain⟨n,rfl⟩:∃ n:Nat,z=n:=⟨z.toNat,by omega⟩
 have h1:1≤n:=by omega
 have h4:n≤4:=by omega
 rw [Int.toNat_natCast]
 have hpw:2 ^ n≤16:=by
  obtain rfl|rfl|rfl|rfl:n=1∨n=2∨n=3∨n=4:=by omega
  all_goals decide
 repeat' (first|refine d1 ?_|(show T _ (.ops _ (_::_)::_) _ _ _;refine T_val rfl (Val.bits rfl (fun _=>by omega)) rfl rfl rfl ?_)|fail)
 rw [shl_law h4]
 refine T_le (dat_nil _) ?_
 refine T_nilrow 47 1 ?_
 refine T_loopX (fun s:Nat × (Option Addr × Nat) × List Value=>[(15, .int .i64 (s.1:Nat)),(3, .slice s.2.1.1 (allP n s.1).length s.2.1.2)]) (fun s=>[row 47 1 s.2.1.1 s.2.1.2 (allP n s.1).length s.2.2,dat s.2.2 (((allP n s.1).map intN).map intsD)]) (fun s=>s.1≤2 ^ n∧(0<(allP n s.1).length→∃ g,s.2.1.1=some ⟨g,0,none⟩)) (fun s=>2 ^ n - s.1) (0,(none,0),[]) ⟨Nat.zero_le _,fun h=>absurd h (Nat.lt_irrefl 0)⟩ ?_
 rintro⟨c,⟨A,cap⟩,hs⟩ ⟨hc,hA⟩
 dsimp only at hc hA ⊢
 have hal:=allP_len n c
 repeat' (first|refine d1 ?_|fail)
 refine T_if rfl (fun h2=>?_) (fun h2=>?_)
 ·simp only [decide_eq_true_eq] at h2
  have hcn:c<2 ^ n:=by omega
  repeat' (first|refine d1 ?_|fail)
  refine T_nilrow 3 1 ?_
  refine T_loopX (fun s:Nat × (Option Addr × Nat)=>[(19, .int .i64 (s.1:Nat)),(5, .slice s.2.1 (bitsP c s.1).length s.2.2)]) (fun s=>[row 3 1 s.2.1 s.2.2 (bitsP c s.1).length ((intN (bitsP c s.1)).map (Value.int .i64)),row 47 1 A cap (allP n c).length hs,dat hs (((allP n c).map intN).map intsD)]) (fun s=>s.1≤n) (fun s=>n - s.1) (0,(none,0)) (Nat.zero_le _) ?_
  rintro⟨s,⟨A5,cap5⟩⟩ hsn
  dsimp only at hsn ⊢
  have hbl:=bitsP_len c s
  repeat' (first|refine d1 ?_|fail)
  refine T_if rfl (fun h3=>?_) (fun h3=>?_)
  ·simp only [decide_eq_true_eq] at h3
   have hbit:=bit_law c (by omega) s (by omega)
   have hsu:=bitsP_succ c s
   repeat' (first|refine d1 ?_|(show T _ (.ops _ (_::_)::_) _ _ _;first|refine T_val rfl (Val.bits rfl (fun _=>by omega)) rfl rfl rfl ?_|refine T_val rfl (Val.bits rfl (fun _=>trivial)) rfl rfl rfl ?_)|fail)
   rw [hbit]
   refine T_if rfl (fun h5=>?_) (fun h5=>?_)
   ·rw [if_pos h5] at hsu
    repeat' (first|refine d1 ?_|(show T _ (.ops _ (_::_)::_) _ _ _;refine T_op (OpT.append (A:=A5) rfl rfl rfl rfl rfl rfl rfl rfl rfl rfl (fun w hw=>Src.own hw rfl) rfl (by dsimp only;omega) (by omega) (fun A' cap' hA'=>?_)))|(show ∀ _:Nat,T _ _ _ _ _;intro _))
    refine T_backX (s+1,(A',cap')) (by dsimp only;omega) (by dsimp only;omega) (hE:=⟨rfl,by dsimp only;rw [hsu,List.length_append];rfl,trivial⟩) (hG:=?_)
    dsimp only
    rw [hsu,List.length_append,intN_snoc,show [s].length=1 from rfl]
    exact Hle.srt
   ·rw [if_neg (by rw [h5];simp),List.append_nil] at hsu
    repeat' (first|refine d1 ?_|fail)
    exact T_backX (s+1,(A5,cap5)) (by dsimp only;omega) (by dsimp only;omega) (hE:=⟨rfl,by dsimp only;rw [hsu];rfl,trivial⟩) (hG:=by dsimp only;rw [hsu];exact Hle.refl _)
  ·simp only [decide_eq_false_iff_not] at h3
   obtain rfl:s=n:=by omega
   have hbe:bitsP c s=bitsL s c:=rfl
   rw [hbe] at hbl ⊢
   repeat' (first|refine d1 ?_|fail)
   refine T_if rfl (fun h5=>?_) (fun h5=>?_)
   ·simp only [decide_eq_true_eq] at h5
    have hsu:=allP_yes (n:=s) (c:=c) (by omega)
    repeat' (first|refine d1 ?_|(show T _ (.ops _ (_::_)::_) _ _ _;refine T_op (OpT.append (A:=A) rfl rfl rfl rfl rfl rfl rfl rfl rfl rfl (fun w hw=>Src.own hw rfl) rfl (by dsimp only;omega) (by omega) (fun A' cap' hA'=>?_)))|(show ∀ _:Nat,T _ _ _ _ _;intro _))
    refine T_backX (c+1,(A',cap'),hs++[.slice A5 (bitsL s c).length cap5]) ⟨by dsimp only;omega,fun _=>hA' (by omega)⟩ (by dsimp only;omega) (hE:=⟨rfl,by dsimp only;rw [hsu,List.length_append];rfl,trivial⟩) (hG:=?_)
    dsimp only
    rw [hsu,List.length_append,List.map_append,show [bitsL s c].length=1 from rfl,show [bitsL s c].map intN=[intN (bitsL s c)] from rfl]
    exact (Hle.srt (K:=[row 3 1 A5 cap5 (bitsL s c).length ((intN (bitsL s c)).map (Value.int .i64)),dat hs (((allP s c).map intN).map intsD),row 47 1 A' cap' ((allP s c).length+1) (hs++flatP [(0, .slice A5 (bitsL s c).length cap5)])])).trans (out_hle (cl:=intN (bitsL s c)) rfl)
   ·simp only [decide_eq_false_iff_not] at h5
    have hsu:=allP_no (n:=s) (c:=c) (by omega)
    repeat' (first|refine d1 ?_|fail)
    exact T_backX (c+1,(A,cap),hs) ⟨by dsimp only;omega,by dsimp only;rw [hsu];exact hA⟩ (by dsimp only;omega) (hE:=⟨rfl,by dsimp only;rw [hsu];rfl,trivial⟩) (hG:=by dsimp only;rw [hsu];exact Hle.tail _ _)
 ·simp only [decide_eq_false_iff_not] at h2
  obtain rfl:c=2 ^ n:=by omega
  rw [allP_all] at hal hA ⊢
  have hpos:0<(allL n).length:=by
   rw [(allL_perm h1 h4).length_eq]
   obtain rfl|rfl|rfl|rfl:n=1∨n=2∨n=3∨n=4:=by omega
   all_goals decide
  obtain⟨g,rfl⟩:=hA hpos
  have hms:∀ m∈allL n,m≠[]∧m.length≤1000:=fun m hm=>by
   have h9:=(allL_perm h1 h4).mem_iff.1 hm
   refine ⟨(mvL_ok h1 h4).ne m h9,?_⟩
   have h8:=pigeon2 n m ((mvL_ok h1 h4).nd m h9) ((mvL_ok h1 h4).lt m h9)
   omega
  refine T_le (Hle.perm (List.Perm.swap _ _ _)) ?_
  refine T_open fun p hp=>?_
  refine T_le (Hle.perm (List.Perm.swap _ _ _)) ?_
  have hp2:Rd (fr p) hs ((allL n).map fun m=>intsD (intN m)):=by rw [List.map_map] at hp;exact hp
  repeat' (first|refine d1 ?_|(show T _ (.ops _ (_::_)::_) _ _ _;refine T_op (OpT.callB rfl rfl rfl rfl rfl (sortM_spec hp2 rfl hpos (by omega) hms) (fun u R hR=>?_)))|fail)
  obtain⟨rfl,hs',ms',hp3,hpe,hso,rfl⟩:=hR
  obtain rfl:=mvL_sorted h1 h4 hpe hso
  have hl:(allL n).length=(mvL n).length:=(allL_perm h1 h4).length_eq
  rw [hl]
  have hp4:Rd (fr p) hs' (((mvL n).map intN).map intsD):=by rw [List.map_map];exact hp3
  refine T_le (Hle.weaken (i:=1) rfl (fz_dat hp4) rfl) ?_
  repeat' (first|(show T _ (.code .ret::_) _ _ _;refine T_retV _ rfl dat_row ⟨_,trivial,rfl,by rfl⟩))
end Go.Proofs.YtblnhdnogjijiaaGreatDoor
namespace Go.Proofs.YtblnhdnogjijiaaGreatDoor
open Go.RowKit Go.Shelf Go.Proofs
set_option maxRecDepth 100000
set_option maxHeartbeats 1000000

theorem moves19_fn (pg p:Nat) (Am:Option Addr) (nm cm:Nat) (w:World):Spec Tryz.prog 103 [.pointer (some ⟨pg,0,none⟩), .slice Am nm cm, .int .i64 (p:Nat)] w
  (fun v R=>∃ g:Nat × Nat × Nat,True∧v = .func (.func 161) #[] #[.pointer (some ⟨g.1,0,none⟩), .pointer (some ⟨g.2.1,0,none⟩), .pointer (some ⟨g.2.2,0,none⟩)]∧R=[blk g.2.1 [.int .i64 (p:Nat)] 3,blk g.2.2 [.slice Am nm cm] 30,blk g.1 [.pointer (some ⟨pg,0,none⟩)] 123]):=by
 refine spec_of sg Tryz.func103 rfl rfl rfl ?_
 refine T_op (OpT.box (cs:=[.pointer (some ⟨pg,0,none⟩)]) rfl rfl rfl rfl rfl rfl rfl (fun g1=>?_))
 refine T_op (OpT.box (cs:=[.slice Am nm cm]) rfl rfl rfl rfl rfl rfl rfl (fun g3=>?_))
 refine T_op (OpT.box (cs:=[.int .i64 (p:Nat)]) rfl rfl rfl rfl rfl rfl rfl (fun g2=>?_))
 repeat' (first|refine d1 ?_|(show T _ (.code .ret::_) _ _ _;refine T_retV _ rfl (Hle.refl _) ⟨(g1,g2,g3),trivial,rfl,rfl⟩))
def posL (ls v:List Nat) (Ms:List (List Nat)):List (List Nat):=Ms.filter (possM ls v)
theorem posL_yes {ls v m:List Nat} {Ms:List (List Nat)} {i:Nat} (h:Ms[i]?=some m) (hp:possM ls v m=true):posL ls v (Ms.take (i+1))=posL ls v (Ms.take i)++[m]:=by
 unfold posL
 rw [take_snoc _ _ _ h,List.filter_append,List.filter_cons,hp];rfl
theorem posL_no {ls v m:List Nat} {Ms:List (List Nat)} {i:Nat} (h:Ms[i]?=some m) (hp:possM ls v m=false):posL ls v (Ms.take (i+1))=posL ls v (Ms.take i):=by
 unfold posL
 rw [take_snoc _ _ _ h,List.filter_append,List.filter_cons,hp]
 exact List.append_nil _
theorem posL_get {ls v m:List Nat} {Ms:List (List Nat)} {i:Nat} (h:Ms[i]?=some m) (hp:possM ls v m=true):(posL ls v Ms)[(posL ls v (Ms.take i)).length]?=some m:=by
 have h1:posL ls v Ms=posL ls v (Ms.take (i+1))++posL ls v (Ms.drop (i+1)):=by
  unfold posL
  rw [← List.filter_append,List.take_append_drop]
 rw [h1,posL_yes h hp,List.append_assoc,List.getElem?_append_right (Nat.le_refl _),Nat.sub_self];rfl
def QM (n:Nat) (ls v:List Nat) (j:Nat) (x:List Value) (B:List HA):Prop :=
 ∃ m b,(posL ls v (mvL n))[j]?=some m∧x=[.slice (some ⟨b,0,none⟩) n n, .int .i64 (numL ls (toM v m):Nat)]∧B=[row 3 1 (some ⟨b,0,none⟩) n n ((colT v m).map (Value.int .i64))]
theorem colMv_snoc (v:List Nat):∀ (m:List Nat) (s:Nat) (c:List Int),colMv v (m++[s]) c=(colMv v m c).set s (v.getD s 0:Nat)
 | [],s,c=>rfl
 | u::m,s,c=>by
  show colMv v (m++[s]) _=_
  rw [colMv_snoc v m s];rfl
theorem possM_snoc (ls v m:List Nat) (s:Nat):possM ls v (m++[s])=(possM ls v m && decide (v.getD s 0<ls.getD s 0)):=by
 unfold possM
 rw [List.all_append];simp
theorem sum_stp {ls:List Nat}:∀ m:List Nat,(m.map (stpL ls)).sum≤m.length * volL ls
 | []=>Nat.zero_le _
 | s::m=>by
  have h:=sum_stp (ls:=ls) m
  have h2:stpL ls s≤volL ls:=by
   by_cases hs:s<ls.length
   ·exact stpL_le hs
   ·rw [stpL_none (by omega)];exact Nat.zero_le _
  rw [List.map_cons,List.sum_cons,List.length_cons,Nat.add_mul];omega
theorem atV_get (v:List Nat) {s:Nat} (hs:s<4):(atV v)[s]?=some (.int .i64 (v.getD s 0:Nat)):=by
 obtain rfl|rfl|rfl|rfl:s=0∨s=1∨s=2∨s=3:=by omega
 all_goals rfl
theorem moves_iter {w0:World} {A:Option Addr} {n ca:Nat} {l:List TS} (hg:Grp w0 A n l) (h1:1≤n) (h4:n≤4) (hv:volL (lens l)≤65536) {p:Nat} (hp:p<volL (lens l)) (pg p1 p2 p3:Nat) {M:Value} {pm:Frag} (hM:Rd (fr pm) [M] [rowsD ((mvL n).map intN)]) :
  IterO Tryz.prog w0 161 [] [.pointer (some ⟨p1,0,none⟩), .pointer (some ⟨p2,0,none⟩), .pointer (some ⟨p3,0,none⟩)]
   [blk p2 [.int .i64 (p:Nat)] 3,blk p3 [M] 30,blk p1 [.pointer (some ⟨pg,0,none⟩)] 123,blk pg (gridL A n ca (lens l) 0) 129,fz pm]
   (QM n (lens l) (atL (lens l) p)) (posL (lens l) (atL (lens l) p) (mvL n)).length:=by
 have hn:=hg.hn
 have hll:=lens_len l
 have hvl:=atL_len (lens l) p
 have hmo:=mvL_ok h1 h4
 obtain⟨Am,cm,csm,rfl,hm1,hm2,hml,hmr,hrows⟩:=hM.tab
 rw [List.length_map] at hm1 hml hmr
 have hm15:(mvL n).length≤15:=by
  obtain rfl|rfl|rfl|rfl:n=1∨n=2∨n=3∨n=4:=by omega
  all_goals decide
 refine iterO_of sg Tryz.func161 rfl rfl rfl ?_
 intro l' GQ X Hj hY h0
 rw [List.length_map]
 show T _ _ _ _ (blk p2 [.int .i64 (p:Nat)] 3::blk p3 [.slice Am (mvL n).length cm] 30::blk p1 [.pointer (some ⟨pg,0,none⟩)] 123::blk pg (gridL A n ca (lens l) 0) 129::fz pm::Hj)
 repeat' (first|refine d1 ?_|(show T _ (.ops _ (_::_)::_) _ _ _;refine T_call rfl rfl rfl rfl rfl (fun w hw=>at19_spec A n ca l pg p w (hg.cls hw) h4 hv hp (rdAll w hw)) ?_)|(show ∀ _:Nat,T _ _ _ _ _;intro _))
 rename_i p5
 refine T_loopX (fun s:Nat × List HA=>[(18, .int .i64 (s.1:Nat))]) (fun s=>blk p5 (atV (atL (lens l) p)) 127::blk p2 [.int .i64 (p:Nat)] 3::blk p3 [.slice Am (mvL n).length cm] 30::blk p1 [.pointer (some ⟨pg,0,none⟩)] 123::blk pg (gridL A n ca (lens l) 0) 129::fz pm::s.2) (fun s=>s.1≤(mvL n).length∧GQ (posL (lens l) (atL (lens l) p) ((mvL n).take s.1)).length s.2) (fun s=>(mvL n).length - s.1) (0,Hj) ⟨Nat.zero_le _,h0⟩ ?_
 rintro⟨i,H1⟩ ⟨hi,hG⟩
 dsimp only at hi hG ⊢
 repeat' (first|refine d1 ?_|fail)
 refine T_if rfl (fun h=>?_) (fun h=>?_)
 ·simp only [decide_eq_true_eq] at h
  obtain⟨m,hm⟩:∃ m,(mvL n)[i]?=some m:=⟨_,List.getElem?_eq_getElem (by omega)⟩
  have hmm:=List.mem_of_getElem? hm
  have hml4:=pigeon2 n m (hmo.nd m hmm) (hmo.lt m hmm)
  obtain⟨b,o,rfl,hrd⟩:=hmr (by omega)
  obtain⟨Ar,capr,hcs,hr1,hr2,hAr⟩:=hrows.tabRow (i:=i) (r:=intN m) (by rw [List.getElem?_map,hm];rfl)
  rw [show (intN m).length=m.length by unfold intN;rw [List.length_map]] at hcs hr1 hAr
  have hmpos:0<m.length:=List.length_pos_iff.2 (hmo.ne m hmm)
  obtain⟨br,orr,rfl,hAr9⟩:=hAr hmpos
  repeat' (first|refine d1 ?_|(show T _ (.ops _ (_::_)::_) _ _ _;refine T_val rfl (Val.load rfl (fun hg=>rdFz (p:=pm) (u := .slice (some ⟨br,orr,none⟩) m.length capr) (b:=b) (by rw [off1];exact hrd i _ hcs))) rfl rfl rfl ?_)|fail)
  refine rsH [blk p5 (atV (atL (lens l) p)) 127,blk p2 [.int .i64 (p:Nat)] 3,blk p3 [.slice (some ⟨b,o,none⟩) (mvL n).length cm] 30,blk p1 [.pointer (some ⟨pg,0,none⟩)] 123,blk pg (gridL A n ca (lens l) 0) 129,fz pm] 1000 [1,2,3,4,5,7,0,6,8,9,10] ?_
  repeat' (first|refine dd ?_|(show T _ (.run _ _ (_::_) _ _::_) _ _ _;first|refine rv rfl rfl rfl (Val.nilc rfl) rfl rfl rfl ?_|refine ro rfl rfl (OpT.litW rfl rfl rfl rfl rfl rfl rfl rfl rfl rfl rfl (fun b3=>⟨fun _=>Hle.sub,?_⟩))|refine ro rfl rfl (OpT.call rfl rfl rfl rfl rfl (fun w hw=>repeatI_spec (-1) (some ⟨_,0,none⟩) 1 n w (Src.own hw rfl) (by omega)) (fun u R hR=>?_)))|fail)
  obtain⟨bz,-,rfl,rfl⟩:=hR
  refine ⟨fun _=>(Hle.tail _ _).trans ((Hle.tail _ _).trans (Hle.append_left (A:=[blk p5 (atV (atL (lens l) p)) 127,blk p2 [.int .i64 (p:Nat)] 3,blk p3 [.slice (some ⟨b,o,none⟩) (mvL n).length cm] 30,blk p1 [.pointer (some ⟨pg,0,none⟩)] 123,blk pg (gridL A n ca (lens l) 0) 129,fz pm]) H1)),?_⟩
  show T _ _ _ _ (row 3 1 (some ⟨bz,0,none⟩) n n (List.replicate n (.int .i64 (-1)))::blk _ _ _::blk p5 (atV (atL (lens l) p)) 127::blk p2 [.int .i64 (p:Nat)] 3::blk p3 [.slice (some ⟨b,o,none⟩) (mvL n).length cm] 30::blk p1 [.pointer (some ⟨pg,0,none⟩)] 123::blk pg (gridL A n ca (lens l) 0) 129::fz pm::H1)
  repeat' (first|refine d1 ?_|refine dd ?_|fail)
  have hz0:List.replicate n (Value.int .i64 (-1))=(colMv (atL (lens l) p) (m.take 0) (List.replicate n (-1))).map (Value.int .i64):=by rw [List.take_zero];unfold colMv;rw [List.map_replicate]
  rw [hz0]
  refine T_loopX (fun s:Nat=>[(32, .int .i64 (s:Nat)),(9, .int .i64 ((p+((m.take s).map (stpL (lens l))).sum:Nat):Int)),(10, .bool (possM (lens l) (atL (lens l) p) (m.take s)))]) (fun s=>row 3 1 (some ⟨bz,0,none⟩) n n ((colMv (atL (lens l) p) (m.take s) (List.replicate n (-1))).map (Value.int .i64))::blk p5 (atV (atL (lens l) p)) 127::blk p2 [.int .i64 (p:Nat)] 3::blk p3 [.slice (some ⟨b,o,none⟩) (mvL n).length cm] 30::blk p1 [.pointer (some ⟨pg,0,none⟩)] 123::blk pg (gridL A n ca (lens l) 0) 129::fz pm::H1) (fun s=>s≤m.length) (fun s=>m.length - s) 0 (Nat.zero_le _) ?_ (hG:=Hle.drop2 _ _ _)
  rintro s hs
  repeat' (first|refine d1 ?_|fail)
  refine T_if rfl (fun h5=>?_) (fun h5=>?_)
  ·simp only [decide_eq_true_eq] at h5
   obtain⟨u,hu⟩:∃ u,m[s]?=some u:=⟨_,List.getElem?_eq_getElem (by omega)⟩
   have hun:=hmo.lt m hmm u (List.mem_of_getElem? hu)
   have htk:=take_snoc _ _ _ hu
   obtain⟨ba,oa,rfl⟩:=hg.hs.base (by omega)
   obtain⟨t,ht,htm,htr⟩:=hg.get (k:=u) hun
   have htn:=hg.nb t htm
   have hsl:=stpL_le (ls:=lens l) (s:=u) (by omega)
   have hsum:=sum_stp (ls:=lens l) (m.take s)
   have hlt4:(m.take s).length≤4:=by rw [List.length_take];omega
   have hms:=Nat.mul_le_mul hlt4 hv
   have hst:∀ w,RdC w pg 0 (gridL (some ⟨ba,oa,none⟩) n ca (lens l) 0)→RdC w pg (0+1+(u:Int).toNat * 1) [.int .i64 (stpL (lens l) u:Nat)]:=fun w hpg=>RdC.one (by have:=hpg (1+u) _ (gridL_stp _ _ _ _ (by omega));rw [show 0+1+(u:Int).toNat * 1=0+(1+u) by omega];exact this)
   have hat:∀ w,RdC w p5 0 (atV (atL (lens l) p))→RdC w p5 (0+(u:Int).toNat * 1) [.int .i64 ((atL (lens l) p).getD u 0:Nat)]:=fun w hp5=>RdC.one (by have:=hp5 u _ (atV_get _ (by omega));rw [show 0+(u:Int).toNat * 1=0+u by omega];exact this)
   have hmu:fr pm br (orr+(s:Int).toNat * 1)=some (.int .i64 (u:Nat)):=by rw [off1];exact hAr9 s _ (by unfold intN;rw [List.getElem?_map,hu];rfl)
   repeat' (first|refine d1 ?_|refine dd ?_|(show T _ (.ops _ (_::_)::_) _ _ _;first|refine T_val rfl (Val.nilc rfl) rfl rfl rfl ?_|refine T_val rfl (Val.load rfl (fun hg=>rdFz (p:=pm) hmu)) rfl rfl rfl ?_|refine T_val rfl (Val.load rfl (fun hg=>(fun w hw=>hat w (rdAll w hw)))) rfl rfl rfl ?_|refine T_val rfl (Val.load rfl (fun hg=>(fun w hw=>hst w (rdAll w hw)))) rfl rfl rfl ?_|refine T_op (OpT.storeR (us:=[.int .i64 ((atL (lens l) p).getD u 0:Nat)]) rfl rfl rfl rfl rfl rfl (by show 0+(u:Int).toNat * 1+1≤n * 1;omega) ?_))|(show T _ (.run _ _ (_::_) _ _::_) _ _ _;first|refine rg rfl rfl rfl (Val.nilc rfl) rfl rfl rfl rfl rfl ?_|refine rg rfl rfl rfl (Val.load rfl (fun hg=>(fun w hw=>hat w (rdAll w hw)))) rfl rfl rfl rfl rfl ?_)|fail)
   have h9:((p+((m.take (s+1)).map (stpL (lens l))).sum:Nat):Int)=((p+((m.take s).map (stpL (lens l))).sum:Nat):Int)+(stpL (lens l) u:Nat):=by rw [htk,List.map_append,List.sum_append];simp;omega
   have hgl:(lens l).getD u 0=t.n:=by rw [List.getD_eq_getElem?_getD,lens_get ht];rfl
   have h10:possM (lens l) (atL (lens l) p) (m.take (s+1))=(possM (lens l) (atL (lens l) p) (m.take s) && decide ((((atL (lens l) p).getD u 0:Nat):Int)<(t.n:Nat))):=by
    rw [htk,possM_snoc,hgl,decide_eq_decide.2 (show (atL (lens l) p).getD u 0<t.n↔(((atL (lens l) p).getD u 0:Nat):Int)<(t.n:Nat) by omega)]
   refine T_backX (s+1) (by omega) (by omega) (hE:=⟨rfl,by rw [h9];rfl,by rw [h10];rfl,trivial⟩) (hG:=?_)
   rw [htk,colMv_snoc,List.map_set,show 0+(u:Int).toNat * 1=u by omega]
   exact Hle.refl _
  ·simp only [decide_eq_false_iff_not] at h5
   obtain rfl:s=m.length:=by omega
   rw [List.take_length]
   have hnm:p+(m.map (stpL (lens l))).sum=numL (lens l) (toM (atL (lens l) p) m):=by rw [toM_num _ _ _ hvl (fun s hs=>by rw [hvl,hll,hn];exact hmo.lt m hmm s hs),num_at _ _ hp]
   have hct:colMv (atL (lens l) p) m (List.replicate n (-1))=colT (atL (lens l) p) m:=by unfold colT;rw [hvl,hll,hn]
   rw [hnm,hct]
   cases hpo:possM (lens l) (atL (lens l) p) m with
   | true =>
    have hpg:=posL_get hm hpo
    have hy:=posL_yes hm hpo
    repeat' (first|refine d1 ?_|(show T _ (.ops _ (_::_)::_) _ _ _;refine T_op (OpT.yieldO [row 3 1 (some ⟨bz,0,none⟩) n n ((colT (atL (lens l) p) m).map (Value.int .i64))] [blk p5 (atV (atL (lens l) p)) 127,blk p2 [.int .i64 (p:Nat)] 3,blk p3 [.slice (some ⟨b,o,none⟩) (mvL n).length cm] 30,blk p1 [.pointer (some ⟨pg,0,none⟩)] 123,blk pg (gridL A n ca (lens l) 0) 129,fz pm] hY rfl rfl (Holds.of1 rfl rfl rfl) rfl rfl rfl (List.getElem?_eq_some_iff.1 hpg).1 ⟨m,bz,hpg,rfl,rfl⟩ hG (Hle.comm [_,_,_,_,_,_,_] H1) (fun H2 hG2=>?_) (fun Y hX=>?_)))|fail)
    ·show T _ _ _ _ (blk p5 (atV (atL (lens l) p)) 127::blk p2 [.int .i64 (p:Nat)] 3::blk p3 [.slice (some ⟨b,o,none⟩) (mvL n).length cm] 30::blk p1 [.pointer (some ⟨pg,0,none⟩)] 123::blk pg (gridL A n ca (lens l) 0) 129::fz pm::H2)
     skip
     refine T_if rfl (fun h3=>by exfalso;simp at h3) (fun _=>?_)
     repeat' (first|refine d1 ?_|fail)
     exact T_backX (i+1,H2) ⟨by dsimp only;omega,by dsimp only;rw [hy,List.length_append];exact hG2⟩ (by dsimp only;omega)
    ·show T _ _ _ _ (blk p5 (atV (atL (lens l) p)) 127::blk p2 [.int .i64 (p:Nat)] 3::blk p3 [.slice (some ⟨b,o,none⟩) (mvL n).length cm] 30::blk p1 [.pointer (some ⟨pg,0,none⟩)] 123::blk pg (gridL A n ca (lens l) 0) 129::fz pm::Y)
     skip
     refine T_if rfl (fun _=>?_) (fun h3=>by exfalso;simp at h3)
     repeat' (first|(show T _ (.code .ret::_) _ _ _;refine T_istop rfl Y hX (Hle.tail _ _)))
   | false =>
    have hy:=posL_no hm hpo
    repeat' (first|refine d1 ?_|(show T _ (.ops _ (_::_)::_) _ _ _;refine T_op (OpT.never (.bool false) rfl (fun hg9=>by have h10:(false:Bool)=true:=hg9.1;cases h10) rfl rfl rfl rfl rfl ?_))|fail)
    refine T_if rfl (fun h3=>by exfalso;simp at h3) (fun _=>?_)
    repeat' (first|refine d1 ?_|fail)
    exact T_backX (i+1,H1) ⟨by dsimp only;omega,by dsimp only;rw [hy];exact hG⟩ (by dsimp only;omega) (hG:=Hle.tail _ _)
 ·simp only [decide_eq_false_iff_not] at h
  obtain rfl:i=(mvL n).length:=by omega
  rw [List.take_length] at hG
  skip
  exact T_ifall rfl H1 hG (Hle.tail _ _)
end Go.Proofs.YtblnhdnogjijiaaGreatDoor
namespace Go.Proofs.YtblnhdnogjijiaaGreatDoor
open Go.RowKit Go.Shelf Go.Proofs
set_option maxRecDepth 100000
set_option maxHeartbeats 1000000

theorem colT_ok {l:List TS} {v m:List Nat} (hv:v.length=l.length) (hm:∀ s∈m,s<l.length) (hp:possM (lens l) v m=true):ColOk l (colT v m):=by
 refine ⟨by rw [colT_len,hv],fun j z s hz hs=>?_⟩
 have hj:j<v.length:=by rw [hv];exact (List.getElem?_eq_some_iff.1 hs).1
 have h1:=colT_get (v:=v) (m:=m) hj
 rw [List.getD_eq_getElem?_getD,hz] at h1
 have h1':z=if j∈m then ((v.getD j 0:Nat):Int) else -1:=h1
 by_cases hjm:j∈m
 ·rw [if_pos hjm] at h1'
  have h2:=possM_iff.1 hp j hjm
  rw [show (lens l).getD j 0=s.n by rw [List.getD_eq_getElem?_getD,lens_get hs];rfl] at h2
  omega
 ·rw [if_neg hjm] at h1'
  omega
theorem foldB_ub {p:List Nat→Bool} {f:List Nat→Int} {B:Int} (hf:∀ m,f m≤B):∀ (ms:List (List Nat)) (a:Int),a≤B→foldB p f ms a≤B
 | [],a,h=>h
 | m::ms,a,h=>by
  show foldB p f ms (cond (p m) (bst a (f m)) a)≤B
  refine foldB_ub hf ms _ ?_
  have h1:=hf m
  have h2:=(bst_le (a:=a) (x:=f m)).2
  cases p m with
  | false=>exact h
  | true=>show bst a (f m)≤B;omega
theorem rsM_ub {K:List Int→Int} {B:Int} (h0:0≤B) (hK:∀ x,K x≤B) (ls:List Nat) (Ms:List (List Nat)):∀ f v,rsM K ls Ms f v≤B * f
 | 0,v=>by unfold rsM;simp
 | f+1,v=>by
  have h1:0≤B * (f+1:Nat):=Int.mul_nonneg h0 (by omega)
  have h2:=foldB_ub (p:=possM ls v) (f:=fun m=>K (colT v m)+rsM K ls Ms f (toM v m)) (B:=B * (f+1:Nat)) (fun m=>by
   have h3:=hK (colT v m)
   have h4:=rsM_ub h0 hK ls Ms f (toM v m)
   have h5:B * ((f+1:Nat):Int)=B * f+B:=by rw [show ((f+1:Nat):Int)=(f:Int)+1 by omega,Int.mul_add,Int.mul_one]
   omega) Ms (-1) (by omega)
  unfold rsM
  omega
theorem sumL_lens {l:List TS} (h:∀ t∈l,t.n≤1000):sumL (lens l)≤1000 * l.length:=by
 induction l with
 | nil=>exact Nat.zero_le _
 | cons t l ih =>
  have h1:=h t (.head _)
  have h2:=ih fun x hx=>h x (.tail _ hx)
  show t.n+sumL (lens l)≤_
  rw [List.length_cons]
  omega
theorem rsV_ub {c:Costs} (hc:costE c=0) {l:List TS} (h4:l.length≤4) (hb:∀ t∈l,t.n≤1000) (v:List Nat) (Ms:List (List Nat)):0≤rsV (colZ c l) (lens l) Ms v∧rsV (colZ c l) (lens l) Ms v≤4096000000:=by
 refine ⟨rsV_nn _ _ _ _,?_⟩
 unfold rsV
 have h1:=rsM_ub (K:=colZ c l) (B:=1024000) (by omega) (fun x=>(colZ_bd hc (by omega) x).2) (lens l) Ms (sumL (lens l) - sumL v) v
 have h2:=sumL_lens hb
 omega
theorem foldB_posL {ls v:List Nat} {f:List Nat→Int}:∀ (Ms:List (List Nat)) (a:Int),foldB (possM ls v) f (posL ls v Ms) a=foldB (possM ls v) f Ms a
 | [],a=>rfl
 | m::Ms,a=>by
  unfold posL
  rw [List.filter_cons]
  cases hp:possM ls v m with
  | true =>
   show foldB _ _ (posL ls v Ms) (cond (possM ls v m) _ _)=foldB _ _ Ms (cond (possM ls v m) _ _)
   exact foldB_posL Ms _
  | false =>
   show foldB _ _ (posL ls v Ms) a=foldB _ _ Ms (cond (possM ls v m) _ _)
   rw [hp]
   exact foldB_posL Ms _
theorem posL_mem {ls v m:List Nat} {Ms:List (List Nat)} (h:m∈posL ls v Ms):m∈Ms∧possM ls v m=true:=List.mem_filter.1 h
theorem find_posL {K:List Int→Int} {ls v:List Nat}:∀ Ms Ns:List (List Nat),(posL ls v Ms).find? (fitM K ls Ns v)=Ms.find? (fitM K ls Ns v)
 | [],Ns=>rfl
 | m::Ms,Ns=>by
  unfold posL
  rw [List.filter_cons,List.find?_cons (a:=m)]
  cases hp:possM ls v m with
  | true =>
   show List.find? _ (m::posL ls v Ms)=_
   rw [List.find?_cons,find_posL Ms Ns]
  | false =>
   have hf:fitM K ls Ns v m=false:=by unfold fitM;rw [hp];rfl
   show List.find? _ (posL ls v Ms)=_
   rw [hf,find_posL Ms Ns]
end Go.Proofs.YtblnhdnogjijiaaGreatDoor
namespace Go.Proofs.YtblnhdnogjijiaaGreatDoor
open Go.RowKit Go.Shelf Go.Proofs
set_option maxRecDepth 100000
set_option maxHeartbeats 1000000

def aln19 (c:Costs) (l:List TS):List (List Int) × Int × Int :=
 if usV c l≠0 then ([],0,usV c l) else if 4<l.length∨65536<volL (lens l) then ([],0,4) else (alnW c l,lstV c l,0)
theorem usV_ok {c:Costs} {l:List TS} (h:usV c l=0):1≤l.length∧costE c=0∧badS l=false:=by
 unfold usV at h
 by_cases h1:l.length=0
 ·rw [if_pos h1] at h;omega
 ·rw [if_neg h1] at h
  unfold ck21 at h
  by_cases h2:costE c=0∧badS l=false
  ·exact⟨by omega,h2⟩
  ·rw [if_neg h2] at h;omega
theorem rdAt {w:World} {b:Nat} {L:List Int} (h:RdC w b 0 (L.map (Value.int .i64))) {q off:Nat} {z:Int} (ho:off=q) (hz:L[q]?=some z):RdC w b off [.int .i64 z]:=by
 subst ho
 refine RdC.one ?_
 have:=h off _ (by rw [List.getElem?_map,hz];rfl)
 rw [Nat.zero_add] at this
 exact this
theorem stp_pos {ls m:List Nat} (h:m≠[]) (hm:∀ s∈m,s<ls.length):0<(m.map (stpL ls)).sum:=by
 cases m with
 | nil=>exact absurd rfl h
 | cons s m =>
  have:=stpL_pos (hm s (.head _))
  rw [List.map_cons,List.sum_cons];omega
theorem numL_zero:∀ (ls:List Nat) (n:Nat),numL ls (List.replicate n 0)=0
 | [],n=>by cases n <;> rfl
 | _::ls,0=>rfl
 | _::ls,n+1=>by
  show 0 * _+numL ls (List.replicate n 0)=0
  rw [numL_zero ls n];simp
theorem align19_spec (c:Costs) (A:Option Addr) (n ca:Nat) (l:List TS) (w:World) (hg:Grp w A n l) :
  Spec Tryz.prog 46 [c.val, .slice A n ca] w (fun v R=>∃ x:Value,True∧v = .tuple #[x, .int .i64 (aln19 c l).2.1, .int .i64 (aln19 c l).2.2]∧R=[dat [x] [rowsD (aln19 c l).1]]):=by
 have hn:=hg.hn
 have hll:=lens_len l
 have hb:=hg.hb
 refine spec_of sg Tryz.func46 rfl rfl rfl ?_
 refine T_op (OpT.box (cs:=c.cells) rfl rfl rfl rfl rfl rfl rfl (fun pc=>?_))
 refine T_op (OpT.box (cs:=[.slice A n ca]) rfl rfl rfl rfl rfl rfl rfl (fun pl=>?_))
 repeat' (first|refine d1 ?_|(show T _ (.ops _ (_::_)::_) _ _ _;refine T_call rfl rfl rfl rfl rfl (fun w hw=>usable19_spec c A n ca l w (hg.cls hw)) ?_)|fail)
 refine T_if rfl (fun h=>?_) (fun h=>?_)
 ·have h0:usV c l≠0:=by simpa using h
  unfold aln19
  rw [if_pos h0]
  repeat' (first|refine d1 ?_|(show T _ (.code .ret::_) _ _ _;refine T_retV _ rfl (nilC _ |>.trans (Hle.nth 0 rfl)) ⟨_,trivial,rfl,rfl⟩))
 have h0:usV c l=0:=by simpa using h
 obtain⟨h1,hc,hbs⟩:=usV_ok h0
 repeat' (first|refine d1 ?_|fail)
 refine T_callC rfl rfl rfl rfl rfl rfl rfl (fun _ w hw=>size19_spec A n ca l 65536 w (hg.cls hw) ⟨by omega,by omega⟩) ?_
 repeat' (first|refine d1 ?_|fail)
 refine T_if rfl (fun h2=>?_) (fun h2=>?_)
 ·have hbig:4<l.length∨65536<volL (lens l):=by
   unfold capV at h2
   simp only [Bool.or_eq_true,decide_eq_true_eq] at h2
   split at h2 <;> omega
  unfold aln19
  rw [if_neg (by simpa using h0),if_pos hbig]
  repeat' (first|refine d1 ?_|(show T _ (.code .ret::_) _ _ _;refine T_retV _ rfl (nilC _ |>.trans (Hle.nth 0 rfl)) ⟨_,trivial,rfl,rfl⟩))
 have hsm:l.length≤4∧volL (lens l)≤65536:=by
  unfold capV at h2
  simp only [Bool.or_eq_false_iff,decide_eq_false_iff_not] at h2
  split at h2 <;> omega
 have h4:n≤4:=by omega
 have hv:=hsm.2
 have hv0:volL ((lens l).drop 0)≤65536:=hv
 have ha:aln19 c l=(alnW c l,lstV c l,0):=by
  unfold aln19
  rw [if_neg (by simpa using h0),if_neg (by omega)]
 rw [ha]
 refine rsH [blk pl [.slice A n ca] 25,blk pc c.cells 23] 1000 [0,2,3,1,4,5,6] ?_
 repeat' (first|refine dd ?_|(show T _ (.run _ _ (_::_) _ _::_) _ _ _;refine ro rfl rfl (OpT.call rfl rfl rfl rfl rfl (fun w hw=>newGrid_spec A n ca l w (hg.cls hw) h4 hv) (fun u R hR=>?_)))|fail)
 obtain⟨pg,-,rfl,rfl⟩:=hR
 refine ⟨fun _=>Hle.tail _ _,?_⟩
 show T _ _ _ _ (blk pg (gridL A n ca (lens l) 0) 129::blk pl [.slice A n ca] 25::blk pc c.cells 23::[])
 repeat' (first|(show T _ (.run _ _ (_::_) _ _::_) _ _ _;refine ro rfl rfl (OpT.call rfl rfl rfl rfl rfl (fun w hw=>moves19_spec (n:Int) w) (fun xm R hR=>?_)))|fail)
 obtain⟨_,-,rfl,rfl⟩:=hR
 refine ⟨fun _=>(Hle.tail _ _).trans (Hle.tail _ _),?_⟩
 show T _ _ _ _ (dat [xm] [rowsD ((mvL n).map intN)]::blk pg (gridL A n ca (lens l) 0) 129::blk pl [.slice A n ca] 25::blk pc c.cells 23::[])
 refine T_open fun pm hM=>?_
 obtain⟨Am,cm,csm,rfl,-⟩:=hM.tab
 rw [List.length_map] at hM ⊢
 repeat' (first|refine d1 ?_|refine dd ?_|(show T _ (.ops _ (_::_)::_) _ _ _;first|refine T_val rfl (Val.nilc rfl) rfl rfl rfl ?_|refine T_op (OpT.make rfl rfl rfl rfl rfl rfl rfl rfl rfl (by dsimp only;omega) (fun b1=>?_)))|(show ∀ _:Nat,T _ _ _ _ _;intro _))
 rename_i p10 p11
 obtain⟨V,hV⟩:∃ V,V=volL (lens l):=⟨_,rfl⟩
 have hVd:volL ((lens l).drop 0)=V:=hV.symm
 have hVp:0<V:=by rw [hV];exact volL_pos _
 rw [hVd]
 have hall:=num_all (lens l)
 rw [← hV] at hall hv
 have hself:=at_num (InB.self (lens l))
 have hno:=mvL_ok (show 1≤n by omega) h4
 have hn4:l.length≤4:=by omega
 have hlsn:(lens l).length=n:=by omega
 obtain⟨F,hF⟩:∃ F:Nat→Int,F=fun q=>rsV (colZ c l) (lens l) (mvL n) (atL (lens l) q):=⟨_,rfl⟩
 have hFb:∀ q,0≤F q∧F q≤4096000000:=fun q=>by rw [hF];exact rsV_ub hc hn4 hg.nb _ _
 refine T_keep [(2, .pointer (some ⟨pc,0,none⟩)),(3, .pointer (some ⟨pl,0,none⟩)),(8, .pointer (some ⟨pg,0,none⟩)),(9, .slice Am (mvL n).length cm),(10, .pointer (some ⟨p10,0,none⟩)),(11, .pointer (some ⟨p11,0,none⟩))] ⟨rfl,rfl,rfl,rfl,rfl,rfl,trivial⟩ ?_
 refine T_le (H':=blk p11 [.int .i64 (((V - 1:Nat):Int) - 1)] 3::blk p10 [.slice (some ⟨b1,0,none⟩) V V] 47::blk b1 ((List.replicate V 0).map (Value.int .i64)) 3::fz pm::blk pg (gridL A n ca (lens l) 0) 129::blk pl [.slice A n ca] 25::blk pc c.cells 23::[]) ?_ ?_
 ·rw [show ((V - 1:Nat):Int) - 1=(V:Int) - 2 by omega,List.map_replicate]
  exact Hle.refl _
 show T (FC _ _ (([]:List Nat).map mkD) _ _ _) _ _ _ _
 refine T_loopDX (fun s:Nat × Nat × List Int × List Nat=>[(11, .pointer (some ⟨s.2.1,0,none⟩))]) (fun s=>blk s.2.1 [.int .i64 ((s.1:Int) - 1)] 3::blk p10 [.slice (some ⟨b1,0,none⟩) V V] 47::blk b1 ((s.2.2.1).map (Value.int .i64)) 3::fz pm::blk pg (gridL A n ca (lens l) 0) 129::blk pl [.slice A n ca] 25::blk pc c.cells 23::[]) (fun s=>s.2.2.2) (fun s=>s.1≤V - 1∧s.2.2.1.length=V∧∀ q,s.1≤q→q<V→s.2.2.1[q]?=some (F q)) (fun s=>s.1) (V - 1,p11,List.replicate V 0,[]) ⟨Nat.le_refl _,by simp,fun q h5 h6=>?_⟩ rfl ?_
 ·dsimp only at h5
  rw [show q=V - 1 by omega,hF]
  dsimp only
  rw [show V - 1=numL (lens l) (lens l) by omega,hself,rsV_end,List.getElem?_replicate,if_pos (by omega)]
 rintro⟨r,q11,L,Dl⟩ ⟨hr,hL,hLF⟩
 dsimp only at hr hL hLF ⊢
 refine T_le (H':=blk q11 [.int .i64 ((r:Int) - 1)] 3::blk p10 [.slice (some ⟨b1,0,none⟩) V V] 47::blk b1 ((L).map (Value.int .i64)) 3::fz pm::blk pg (gridL A n ca (lens l) 0) 129::blk pl [.slice A n ca] 25::blk pc c.cells 23::dfrs Dl) (Hle.refl _) ?_
 have hLm:(L.map (Value.int .i64)).length=V:=by rw [List.length_map,hL]
 rcases r with _|p
 ·repeat' (first|refine d1 ?_|fail)
  refine T_if rfl (fun h5=>by exfalso;simp at h5) (fun _=>?_)
  repeat' (first|refine d1 ?_|(show ∀ _:Nat,T _ _ _ _ _;intro _))
  rename_i p15 p16
  have hz0:numL (lens l) (List.replicate n 0)=0:=numL_zero _ _
  refine T_keep [(2, .pointer (some ⟨pc,0,none⟩)),(3, .pointer (some ⟨pl,0,none⟩)),(8, .pointer (some ⟨pg,0,none⟩)),(9, .slice Am (mvL n).length cm),(10, .pointer (some ⟨p10,0,none⟩)),(15, .pointer (some ⟨p15,0,none⟩)),(16, .pointer (some ⟨p16,0,none⟩))] ⟨rfl,rfl,rfl,rfl,rfl,rfl,rfl,trivial⟩ ?_
  refine T_le (H':=blk p16 [.int .i64 ((0:Nat):Int)] 3::blk p15 [.slice none 0 0] 30::blk p10 [.slice (some ⟨b1,0,none⟩) V V] 47::blk b1 (L.map (Value.int .i64)) 3::fz pm::blk pg (gridL A n ca (lens l) 0) 129::blk pl [.slice A n ca] 25::blk pc c.cells 23::dfrs Dl) (Hle.drop3 _ _ _ _) ?_
  refine T_le (dat_nil _) ?_
  refine T_nilrow 47 1 ?_
  refine T_loopDX (fun s:List Nat × Nat × (Option Addr × Nat) × List Value × List (List Int) × List Nat=>[(16, .pointer (some ⟨s.2.1,0,none⟩))]) (fun s=>blk s.2.1 [.int .i64 (numL (lens l) s.1:Nat)] 3::blk p15 [.slice s.2.2.1.1 s.2.2.2.2.1.length s.2.2.1.2] 30::row 47 1 s.2.2.1.1 s.2.2.1.2 s.2.2.2.2.1.length s.2.2.2.1::dat s.2.2.2.1 (s.2.2.2.2.1.map intsD)::blk p10 [.slice (some ⟨b1,0,none⟩) V V] 47::blk b1 (L.map (Value.int .i64)) 3::fz pm::blk pg (gridL A n ca (lens l) 0) 129::blk pl [.slice A n ca] 25::blk pc c.cells 23::[]) (fun s=>s.2.2.2.2.2) (fun s=>InB (lens l) s.1∧s.2.2.2.2.1.length≤sumL s.1∧alnW c l=s.2.2.2.2.1++(alV19 (colZ c l) (lens l) (mvL n) s.1)) (fun s=>sumL (lens l) - sumL s.1) (List.replicate n 0,p16,(none,0),[],[],Dl) ⟨by rw [← hlsn];exact InB.zero _,Nat.zero_le _,by dsimp only;rw [List.nil_append, ← hn];rfl⟩ rfl ?_ (hG:=by dsimp only;rw [hz0];exact Hle.srtT (A:=[row 47 1 none 0 0 [],dat [] [],blk p16 [.int .i64 ((0:Nat):Int)] 3,blk p15 [.slice none 0 0] 30,blk p10 [.slice (some ⟨b1,0,none⟩) V V] 47,blk b1 (L.map (Value.int .i64)) 3,fz pm,blk pg (gridL A n ca (lens l) 0) 129,blk pl [.slice A n ca] 25,blk pc c.cells 23]) (K:=[blk p16 [.int .i64 ((0:Nat):Int)] 3,blk p15 [.slice none 0 0] 30,row 47 1 none 0 0 [],dat [] [],blk p10 [.slice (some ⟨b1,0,none⟩) V V] 47,blk b1 (L.map (Value.int .i64)) 3,fz pm,blk pg (gridL A n ca (lens l) 0) 129,blk pl [.slice A n ca] 25,blk pc c.cells 23]) (dfrs Dl))
  rintro⟨v,q16,⟨Ao,capo⟩,hs,out,Dl⟩ ⟨hvi,hol,hout⟩
  dsimp only at hvi hol hout ⊢
  obtain⟨p,hp⟩:∃ p,p=numL (lens l) v:=⟨_,rfl⟩
  have hat:=at_num hvi
  have hpl:=numL_lt hvi
  rw [← hp] at hat hpl ⊢
  rw [← hV] at hpl
  refine T_le (H':=blk q16 [.int .i64 (p:Nat)] 3::blk p15 [.slice Ao out.length capo] 30::row 47 1 Ao capo out.length hs::dat hs (out.map intsD)::blk p10 [.slice (some ⟨b1,0,none⟩) V V] 47::blk b1 (L.map (Value.int .i64)) 3::fz pm::blk pg (gridL A n ca (lens l) 0) 129::blk pl [.slice A n ca] 25::blk pc c.cells 23::dfrs Dl) (Hle.refl _) ?_
  have hg5:∀ w,RdC w pg 0 (gridL A n ca (lens l) 0)→RdC w pg (0+5) [.int .i64 (V:Nat)]:=fun w h9=>RdC.one (by have:=h9 5 _ (show (gridL A n ca (lens l) 0)[5]?=some (.int .i64 (V:Nat)) by rw [hV];rfl);exact this)
  repeat' (first|refine dd ?_|(show T _ (.run _ _ (_::_) _ _::_) _ _ _;refine rv rfl rfl rfl (Val.nilc rfl) rfl rfl rfl ?_)|fail)
  refine T_if rfl (fun h5=>?_) (fun h5=>?_)
  ·have hpV:p+1<V:=by simp at h5;omega
   obtain rfl:v=atL (lens l) p:=hat.symm
   repeat' (first|refine d1 ?_|(show T _ (.ops _ (_::_)::_) _ _ _;refine T_op (OpT.call rfl rfl rfl rfl rfl (fun w hw=>moves19_fn pg p Am (mvL n).length cm w) (fun u R hR=>?_)))|fail)
   obtain⟨⟨g1,g2,g3⟩,-,rfl,rfl⟩:=hR
   have hvl:(atL (lens l) p).length=l.length:=by rw [atL_len,hll]
   have hne:(atL (lens l) p)≠lens l:=fun e=>by rw [e] at hp;omega
   have hsub:=sumL_le hvi
   have hlen4:=sumL_lens hg.nb
   refine T_rangeO (moves_iter hg (by omega) h4 (by omega) (p:=p) (by omega) pg g1 g2 g3 hM) rfl (fun j x B hj hQ=>by obtain⟨m,b,_,rfl,_⟩:=hQ;exact⟨rfl,rfl⟩)
    (fun jj H=>H=blk q16 [.int .i64 (p:Nat)] 3::blk p15 [.slice Ao out.length capo] 30::row 47 1 Ao capo out.length hs::dat hs (out.map intsD)::blk p10 [.slice (some ⟨b1,0,none⟩) V V] 47::blk b1 (L.map (Value.int .i64)) 3::blk pl [.slice A n ca] 25::blk pc c.cells 23::dfrs Dl∧∀ j' y,j'<jj→(posL (lens l) (atL (lens l) p) (mvL n))[j']?=some y→fitM (colZ c l) (lens l) (mvL n) (atL (lens l) p) y=false) (fun _=>False)
    (fun id H=>id=6∧∃ (m:List Nat) (x:Option Addr × Nat × Value),(mvL n).find? (fitM (colZ c l) (lens l) (mvL n) (atL (lens l) p))=some m∧H=blk q16 [.int .i64 ((numL (lens l) (toM (atL (lens l) p) m)):Nat)] 3::blk p15 [.slice x.1 (out.length+1) x.2.1] 30::row 47 1 x.1 x.2.1 (out.length+1) (hs++[x.2.2])::dat (hs++[x.2.2]) ((out++[colT (atL (lens l) p) m]).map intsD)::blk p10 [.slice (some ⟨b1,0,none⟩) V V] 47::blk b1 (L.map (Value.int .i64)) 3::blk pl [.slice A n ca] 25::blk pc c.cells 23::dfrs Dl) (blk q16 [.int .i64 (p:Nat)] 3::blk p15 [.slice Ao out.length capo] 30::row 47 1 Ao capo out.length hs::dat hs (out.map intsD)::blk p10 [.slice (some ⟨b1,0,none⟩) V V] 47::blk b1 (L.map (Value.int .i64)) 3::blk pl [.slice A n ca] 25::blk pc c.cells 23::dfrs Dl) ⟨rfl,fun _ _ h=>by omega⟩
    (Hle.srtT (A:=[blk g2 [.int .i64 (p:Nat)] 3,blk g3 [.slice Am (mvL n).length cm] 30,blk g1 [.pointer (some ⟨pg,0,none⟩)] 123,blk q16 [.int .i64 (p:Nat)] 3,blk p15 [.slice Ao out.length capo] 30,row 47 1 Ao capo out.length hs,dat hs (out.map intsD),blk p10 [.slice (some ⟨b1,0,none⟩) V V] 47,blk b1 (L.map (Value.int .i64)) 3,fz pm,blk pg (gridL A n ca (lens l) 0) 129,blk pl [.slice A n ca] 25,blk pc c.cells 23]) (K:=[blk g2 [.int .i64 (p:Nat)] 3,blk g3 [.slice Am (mvL n).length cm] 30,blk g1 [.pointer (some ⟨pg,0,none⟩)] 123,blk pg (gridL A n ca (lens l) 0) 129,fz pm,blk q16 [.int .i64 (p:Nat)] 3,blk p15 [.slice Ao out.length capo] 30,row 47 1 Ao capo out.length hs,dat hs (out.map intsD),blk p10 [.slice (some ⟨b1,0,none⟩) V V] 47,blk b1 (L.map (Value.int .i64)) 3,blk pl [.slice A n ca] 25,blk pc c.cells 23]) (dfrs Dl)) ?_ ?_ (fun _ _ h=>h.elim) ?_
   ·rintro Lp r5 jj x B Hj K2 hr5 hj hQ ⟨rfl,hnf⟩
    obtain⟨m,b,hm,rfl,rfl⟩:=hQ
    obtain⟨hmm,hpo⟩:=posL_mem (List.mem_of_getElem? hm)
    have hti:=(toM_rem hno hlsn hvi hmm hpo).1
    have hqV:=numL_lt hti
    rw [← hV] at hqV
    have hFq:F (numL (lens l) (toM (atL (lens l) p) m))=rsV (colZ c l) (lens l) (mvL n) (toM (atL (lens l) p) m):=by rw [hF];dsimp only;rw [at_num hti]
    have hFp:F p=rsV (colZ c l) (lens l) (mvL n) (atL (lens l) p):=by rw [hF]
    have hfit:fitM (colZ c l) (lens l) (mvL n) (atL (lens l) p) m=decide (colZ c l (colT (atL (lens l) p) m)+F (numL (lens l) (toM (atL (lens l) p) m))=F p):=by
     rw [hFq,hFp]
     unfold fitM
     rw [hpo,Bool.true_and];rfl
    obtain⟨q,hq⟩:∃ q,q=(numL (lens l) (toM (atL (lens l) p) m)):=⟨_,rfl⟩
    rw [← hq] at hqV hfit
    show T _ _ ((100, .int .i64 ((numL (lens l) (toM (atL (lens l) p) m)):Nat))::(99, .slice (some ⟨b,0,none⟩) n n)::_) _ (lrec Lp r5::blk q16 [.int .i64 (p:Nat)] 3::blk p15 [.slice Ao out.length capo] 30::row 47 1 Ao capo out.length hs::dat hs (out.map intsD)::blk p10 [.slice (some ⟨b1,0,none⟩) V V] 47::blk b1 (L.map (Value.int .i64)) 3::blk pl [.slice A n ca] 25::blk pc c.cells 23::(dfrs Dl++(row 3 1 (some ⟨b,0,none⟩) n n ((colT (atL (lens l) p) m).map (Value.int .i64))::K2)))
    rw [← hq]
    repeat' (first|refine d1 ?_|(show T _ _ _ _ _;refine T_begin hr5 rfl ?_))
    refine T_le (H':=row 3 1 (some ⟨b,0,none⟩) n n ((colT (atL (lens l) p) m).map (Value.int .i64))::lrec Lp (busy r5)::blk q16 [.int .i64 (p:Nat)] 3::blk p15 [.slice Ao out.length capo] 30::row 47 1 Ao capo out.length hs::dat hs (out.map intsD)::blk p10 [.slice (some ⟨b1,0,none⟩) V V] 47::blk b1 (L.map (Value.int .i64)) 3::blk pl [.slice A n ca] 25::blk pc c.cells 23::(dfrs Dl++K2)) (Hle.perm (List.perm_middle (l₁:=lrec Lp (busy r5)::blk q16 [.int .i64 (p:Nat)] 3::blk p15 [.slice Ao out.length capo] 30::row 47 1 Ao capo out.length hs::dat hs (out.map intsD)::blk p10 [.slice (some ⟨b1,0,none⟩) V V] 47::blk b1 (L.map (Value.int .i64)) 3::blk pl [.slice A n ca] 25::blk pc c.cells 23::dfrs Dl) (l₂:=K2))) ?_
    have hcq:∀ w,RdC w b1 0 (L.map (Value.int .i64))→RdC w b1 (0+(q:Int).toNat * 1) [.int .i64 (F q)]:=fun w h9=>rdAt h9 (by omega) (hLF q (by omega) (by omega))
    have hcp:∀ w,RdC w b1 0 (L.map (Value.int .i64))→RdC w b1 (0+(p:Int).toNat * 1) [.int .i64 (F p)]:=fun w h9=>rdAt h9 (by omega) (hLF p (by omega) (by omega))
    have hKb:=colZ_bd hc (show l.length≤32 by omega) (colT (atL (lens l) p) m)
    have hFq2:=hFb q
    refine rsH [row 3 1 (some ⟨b,0,none⟩) n n ((colT (atL (lens l) p) m).map (Value.int .i64)),lrec Lp (busy r5),blk q16 [.int .i64 (p:Nat)] 3,blk p15 [.slice Ao out.length capo] 30,row 47 1 Ao capo out.length hs,dat hs (out.map intsD),blk p10 [.slice (some ⟨b1,0,none⟩) V V] 47,blk b1 (L.map (Value.int .i64)) 3,blk pl [.slice A n ca] 25,blk pc c.cells 23] 1000 [0,1,2,4,5,6,7,9,10,11,12,3,8,13] ?_
    repeat' (first|refine dd ?_|(show T _ (.run _ _ (_::_) _ _::_) _ _ _;first|refine rc rfl rfl rfl rfl rfl rfl rfl (fun w hw=>cost19_spec c A (some ⟨b,0,none⟩) n ca n l (colT (atL (lens l) p) m) w (hg.cls hw) hc hbs (srcRw w hw) (colT_ok hvl (fun s hs=>by rw [hn];exact hno.lt m hmm s hs) hpo)) ?_|refine rv rfl rfl rfl (Val.load rfl (fun hg=>(fun w hw=>hcq w (rdAll w hw)))) rfl rfl rfl ?_|refine rv rfl rfl rfl (Val.load rfl (fun hg=>(fun w hw=>hcp w (rdAll w hw)))) rfl rfl rfl ?_)|fail)
    refine T_if rfl (fun h6=>?_) (fun h6=>?_)
    ·rw [h6] at hfit
     have hf:(mvL n).find? (fitM (colZ c l) (lens l) (mvL n) (atL (lens l) p))=some m:=by rw [← find_posL];exact find_at hm hfit hnf
     have hov:out.length≤200000:=by omega
     repeat' (first|refine d1 ?_|(show T _ (.ops _ (_::_)::_) _ _ _;refine T_op (OpT.append rfl rfl rfl rfl rfl rfl rfl rfl rfl rfl (fun w hw=>Src.own hw rfl) rfl (by dsimp only;omega) (by omega) (fun A' cap' hA'=>?_)))|(show ∀ _:Nat,T _ _ _ _ _;intro _))
     rename_i blit2
     show T _ (.code (.exit 6)::_) _ _ _
     refine T_rexit (id:=6) (blk q16 [.int .i64 ((numL (lens l) (toM (atL (lens l) p) m)):Nat)] 3::blk p15 [.slice A' (out.length+1) cap'] 30::row 47 1 A' cap' (out.length+1) (hs++[(.slice (some ⟨b,0,none⟩) n n)])::dat (hs++[(.slice (some ⟨b,0,none⟩) n n)]) ((out++[colT (atL (lens l) p) m]).map intsD)::blk p10 [.slice (some ⟨b1,0,none⟩) V V] 47::blk b1 (L.map (Value.int .i64)) 3::blk pl [.slice A n ca] 25::blk pc c.cells 23::dfrs Dl) (fun _=>rfl) ⟨rfl,m,(A',cap',(.slice (some ⟨b,0,none⟩) n n)),hf,rfl⟩ ?_
     rw [← hq]
     refine (Hle.srtT (A:=[blk blit2 _ _,row 3 1 (some ⟨b,0,none⟩) n n ((colT (atL (lens l) p) m).map (Value.int .i64)),lrec Lp (busy r5),blk q16 [.int .i64 (q:Nat)] 3,blk p15 [.slice A' (out.length+1) cap'] 30,row 47 1 A' cap' (out.length+1) (hs++[(.slice (some ⟨b,0,none⟩) n n)]),dat hs (out.map intsD),blk p10 [.slice (some ⟨b1,0,none⟩) V V] 47,blk b1 (L.map (Value.int .i64)) 3,blk pl [.slice A n ca] 25,blk pc c.cells 23]) (K:=[row 3 1 (some ⟨b,0,none⟩) n n ((colT (atL (lens l) p) m).map (Value.int .i64)),dat hs (out.map intsD),lrec Lp (busy r5),blk q16 [.int .i64 (q:Nat)] 3,blk p15 [.slice A' (out.length+1) cap'] 30,row 47 1 A' cap' (out.length+1) (hs++[(.slice (some ⟨b,0,none⟩) n n)]),blk p10 [.slice (some ⟨b1,0,none⟩) V V] 47,blk b1 (L.map (Value.int .i64)) 3,blk pl [.slice A n ca] 25,blk pc c.cells 23]) (dfrs Dl++K2)).trans ?_
     refine dat_rowV.trans (dat_join.trans ?_)
     have ej:out.map intsD++[D.s 1 (((colT (atL (lens l) p) m).map (Value.int .i64)).map .v)]=(out++[colT (atL (lens l) p) m]).map intsD:=by
      rw [List.map_append,List.map_map];rfl
     rw [ej]
     exact Hle.perm ((List.perm_append_comm (l₁:=[_]) (l₂:=[_,_,_,_])).append_right (blk p10 [.slice (some ⟨b1,0,none⟩) V V] 47::blk b1 (L.map (Value.int .i64)) 3::blk pl [.slice A n ca] 25::blk pc c.cells 23::(dfrs Dl++K2)))
    ·rw [h6] at hfit
     refine T_next (blk q16 [.int .i64 (p:Nat)] 3::blk p15 [.slice Ao out.length capo] 30::row 47 1 Ao capo out.length hs::dat hs (out.map intsD)::blk p10 [.slice (some ⟨b1,0,none⟩) V V] 47::blk b1 (L.map (Value.int .i64)) 3::blk pl [.slice A n ca] 25::blk pc c.cells 23::dfrs Dl) ⟨rfl,fun j' y hj hy=>?_⟩ (Hle.tail _ _)
     rcases Nat.lt_or_ge j' jj with h7|h7
     ·exact hnf j' y h7 hy
     ·rw [show j'=jj by omega,hm] at hy
      cases hy
      exact hfit
   ·rintro D Hn ⟨rfl,hnf⟩
    exfalso
    obtain⟨m,hf,-⟩:=fit_some (K:=colZ c l) (colZ_nn hc hn4) hno hlsn hvi hne
    rw [← find_posL] at hf
    have h7:=List.find?_some hf
    obtain⟨j',hj',e9⟩:=List.getElem_of_mem (List.mem_of_find?_eq_some hf)
    have h8:=hnf j' m hj' (by rw [List.getElem?_eq_getElem hj',e9])
    rw [h8] at h7;cases h7
   ·rintro D id Hx ⟨rfl,m,⟨A',cap',hv9⟩,hf,rfl⟩
    dsimp only
    have h7:=List.find?_some hf
    unfold fitM at h7
    rw [Bool.and_eq_true] at h7
    obtain⟨hti,hs1,hs2,hs3⟩:=toM_rem hno hlsn hvi (List.mem_of_find?_eq_some hf) h7.1
    have hstep:=alV_step hno hlsn hvi hf
    show T (FC _ _ ((D::Dl).map mkD) _ _ _) _ _ _ (dfr D::blk g2 [.int .i64 (p:Nat)] 3::blk g3 [.slice Am (mvL n).length cm] 30::blk g1 [.pointer (some ⟨pg,0,none⟩)] 123::blk pg (gridL A n ca (lens l) 0) 129::fz pm::blk q16 [.int .i64 ((numL (lens l) (toM (atL (lens l) p) m)):Nat)] 3::blk p15 [.slice A' (out.length+1) cap'] 30::row 47 1 A' cap' (out.length+1) (hs++[hv9])::dat (hs++[hv9]) ((out++[colT (atL (lens l) p) m]).map intsD)::blk p10 [.slice (some ⟨b1,0,none⟩) V V] 47::blk b1 (L.map (Value.int .i64)) 3::blk pl [.slice A n ca] 25::blk pc c.cells 23::dfrs Dl)
    repeat' (first|refine d1 ?_|(show ∀ _:Nat,T _ _ _ _ _;intro _))
    rename_i n16
    show T _ (.mark _::_) _ _ _
    refine T_backD (toM (atL (lens l) p) m,n16,(A',cap'),hs++[hv9],out++[colT (atL (lens l) p) m],D::Dl) ⟨hti,by dsimp only;rw [List.length_append];simp;omega,by dsimp only;rw [hout,hstep,List.append_assoc];rfl⟩ (by dsimp only;omega) rfl (hG:=?_)
    dsimp only
    rw [List.length_append]
    exact Hle.srtT (A:=[blk n16 [.int .i64 ((numL (lens l) (toM (atL (lens l) p) m)):Nat)] 3,dfr D,blk g2 [.int .i64 (p:Nat)] 3,blk g3 [.slice Am (mvL n).length cm] 30,blk g1 [.pointer (some ⟨pg,0,none⟩)] 123,blk pg (gridL A n ca (lens l) 0) 129,fz pm,blk q16 [.int .i64 ((numL (lens l) (toM (atL (lens l) p) m)):Nat)] 3,blk p15 [.slice A' (out.length+1) cap'] 30,row 47 1 A' cap' (out.length+1) (hs++[hv9]),dat (hs++[hv9]) ((out++[colT (atL (lens l) p) m]).map intsD),blk p10 [.slice (some ⟨b1,0,none⟩) V V] 47,blk b1 (L.map (Value.int .i64)) 3,blk pl [.slice A n ca] 25,blk pc c.cells 23]) (K:=[blk n16 [.int .i64 ((numL (lens l) (toM (atL (lens l) p) m)):Nat)] 3,blk p15 [.slice A' (out.length+1) cap'] 30,row 47 1 A' cap' (out.length+1) (hs++[hv9]),dat (hs++[hv9]) ((out++[colT (atL (lens l) p) m]).map intsD),blk p10 [.slice (some ⟨b1,0,none⟩) V V] 47,blk b1 (L.map (Value.int .i64)) 3,fz pm,blk pg (gridL A n ca (lens l) 0) 129,blk pl [.slice A n ca] 25,blk pc c.cells 23,dfr D]) (dfrs Dl)
  ·have hpV:p+1=V:=by simp at h5;omega
   obtain rfl:v=lens l:=by rw [← hat, ← hself];congr 1;omega
   rw [alV_end,List.append_nil] at hout
   subst hout
   have hF0:F 0=lstV c l:=by
    rw [hF]
    dsimp only
    rw [show (0:Nat)=numL (lens l) (List.replicate (lens l).length 0) from (numL_zero _ _).symm,at_num (InB.zero _),hll, ← hn]
    rfl
   have hc0:∀ w,RdC w b1 0 (L.map (Value.int .i64))→RdC w b1 (0+(0:Int).toNat * 1) [.int .i64 (lstV c l)]:=fun w h9=>rdAt (q:=0) h9 (by omega) (by rw [← hF0];exact hLF 0 (Nat.zero_le _) hVp)
   repeat' (first|refine dd ?_|(show T _ (.run _ _ (_::_) _ _::_) _ _ _;refine rv rfl rfl rfl (Val.load rfl (fun hg=>(fun w hw=>hc0 w (rdAll w hw)))) rfl rfl rfl ?_)|fail)
   refine T_retDs [dat [.slice Ao (alnW c l).length capo] [rowsD (alnW c l)]] ?_ (rf_V (vs:=[.slice Ao (alnW c l).length capo, .int .i64 (lstV c l), .int .i64 0]) _ rfl (Hle.refl _) ⟨_,trivial,rfl,rfl⟩)
   refine (Hle.tail _ _).trans ((Hle.tail _ _).trans (dat_row.trans ?_))
   exact Hle.srtT (A:=[dat [.slice Ao (alnW c l).length capo] [.s 1 ((alnW c l).map intsD)],_,_,_,_,_,_]) (K:=[dat [.slice Ao (alnW c l).length capo] [.s 1 ((alnW c l).map intsD)]]) (dfrs Dl)
 ·rw [show ((p+1:Nat):Int) - 1=(p:Nat) by omega]
  repeat' (first|refine d1 ?_|fail)
  refine T_if rfl (fun _=>?_) (fun h5=>by exfalso;simp at h5)
  repeat' (first|refine d1 ?_|(show T _ (.ops _ (_::_)::_) _ _ _;refine T_op (OpT.call rfl rfl rfl rfl rfl (fun w hw=>moves19_fn pg p Am (mvL n).length cm w) (fun u R hR=>?_)))|fail)
  obtain⟨⟨g1,g2,g3⟩,-,rfl,rfl⟩:=hR
  have hpV:p+1<V:=by omega
  have hvi:=atL_in (lens l) p
  have hvl:(atL (lens l) p).length=l.length:=by rw [atL_len,hll]
  have hvn:=num_at (lens l) p (by omega)
  have hne:(atL (lens l) p)≠lens l:=fun e=>by rw [e] at hvn;omega
  have hstep:=rsV_step (K:=colZ c l) (colZ_nn hc hn4) hno hlsn hvi hne
  have hset:(L.map (Value.int .i64)).set (0+(p:Int).toNat * 1) (.int .i64 (-1))=(L.set p (foldB (possM (lens l) (atL (lens l) p)) (mcV (colZ c l) (lens l) (mvL n) (atL (lens l) p)) ((posL (lens l) (atL (lens l) p) (mvL n)).take 0) (-1))).map (Value.int .i64):=by
   rw [List.take_zero,List.map_set,show 0+(p:Int).toNat * 1=p by omega];rfl
  rw [hset]
  refine T_rangeO (moves_iter hg (by omega) h4 (by omega) (p:=p) (by omega) pg g1 g2 g3 hM) rfl (fun j x B hj hQ=>by obtain⟨m,b,_,rfl,_⟩:=hQ;exact⟨rfl,rfl⟩)
   (fun jj H=>H=blk q11 [.int .i64 ((p:Nat))] 3::blk p10 [.slice (some ⟨b1,0,none⟩) V V] 47::blk b1 ((L.set p (foldB (possM (lens l) (atL (lens l) p)) (mcV (colZ c l) (lens l) (mvL n) (atL (lens l) p)) ((posL (lens l) (atL (lens l) p) (mvL n)).take jj) (-1))).map (Value.int .i64)) 3::blk pl [.slice A n ca] 25::blk pc c.cells 23::dfrs Dl) (fun _=>False) (fun _ _=>False) (blk q11 [.int .i64 ((p:Nat))] 3::blk p10 [.slice (some ⟨b1,0,none⟩) V V] 47::blk b1 ((L.set p (foldB (possM (lens l) (atL (lens l) p)) (mcV (colZ c l) (lens l) (mvL n) (atL (lens l) p)) ((posL (lens l) (atL (lens l) p) (mvL n)).take 0) (-1))).map (Value.int .i64)) 3::blk pl [.slice A n ca] 25::blk pc c.cells 23::dfrs Dl) rfl
   (Hle.srtT (A:=[blk g2 [.int .i64 (p:Nat)] 3,blk g3 [.slice Am (mvL n).length cm] 30,blk g1 [.pointer (some ⟨pg,0,none⟩)] 123,blk q11 [.int .i64 ((p:Nat))] 3,blk p10 [.slice (some ⟨b1,0,none⟩) V V] 47,blk b1 ((L.set p (foldB (possM (lens l) (atL (lens l) p)) (mcV (colZ c l) (lens l) (mvL n) (atL (lens l) p)) ((posL (lens l) (atL (lens l) p) (mvL n)).take 0) (-1))).map (Value.int .i64)) 3,fz pm,blk pg (gridL A n ca (lens l) 0) 129,blk pl [.slice A n ca] 25,blk pc c.cells 23]) (K:=[blk g2 [.int .i64 (p:Nat)] 3,blk g3 [.slice Am (mvL n).length cm] 30,blk g1 [.pointer (some ⟨pg,0,none⟩)] 123,blk pg (gridL A n ca (lens l) 0) 129,fz pm,blk q11 [.int .i64 ((p:Nat))] 3,blk p10 [.slice (some ⟨b1,0,none⟩) V V] 47,blk b1 ((L.set p (foldB (possM (lens l) (atL (lens l) p)) (mcV (colZ c l) (lens l) (mvL n) (atL (lens l) p)) ((posL (lens l) (atL (lens l) p) (mvL n)).take 0) (-1))).map (Value.int .i64)) 3,blk pl [.slice A n ca] 25,blk pc c.cells 23]) (dfrs Dl)) ?_ ?_ (fun _ _ h=>h.elim) (fun _ _ _ h=>h.elim)
  ·rintro Lp r5 jj x B Hj K2 hr5 hj hQ rfl
   obtain⟨m,b,hm,rfl,rfl⟩:=hQ
   obtain⟨hmm,hpo⟩:=posL_mem (List.mem_of_getElem? hm)
   have hti:=(toM_rem hno hlsn hvi hmm hpo).1
   have hqV:=numL_lt hti
   rw [← hV] at hqV
   have hqn:=toM_num (lens l) m (atL (lens l) p) (by omega) (fun s hs=>by rw [hvl,hn];exact hno.lt m hmm s hs)
   have hqs:=stp_pos (ls:=lens l) (hno.ne m hmm) (fun s hs=>by rw [hlsn];exact hno.lt m hmm s hs)
   have hFq:F (numL (lens l) (toM (atL (lens l) p) m))=rsV (colZ c l) (lens l) (mvL n) (toM (atL (lens l) p) m):=by rw [hF];dsimp only;rw [at_num hti]
   obtain⟨q,hq⟩:∃ q,q=(numL (lens l) (toM (atL (lens l) p) m)):=⟨_,rfl⟩
   obtain⟨X,hX⟩:∃ X,X=foldB (possM (lens l) (atL (lens l) p)) (mcV (colZ c l) (lens l) (mvL n) (atL (lens l) p)) ((posL (lens l) (atL (lens l) p) (mvL n)).take jj) (-1):=⟨_,rfl⟩
   have hXs:foldB (possM (lens l) (atL (lens l) p)) (mcV (colZ c l) (lens l) (mvL n) (atL (lens l) p)) ((posL (lens l) (atL (lens l) p) (mvL n)).take (jj+1)) (-1)=bst X (colZ c l (colT (atL (lens l) p) m)+F q):=by
    rw [take_snoc _ _ _ hm,foldB_app, ← hX,hq,hFq]
    show cond (possM (lens l) (atL (lens l) p) m) _ _=_
    rw [hpo];rfl
   rw [← hq] at hqV hqn hFq
   show T _ _ ((60, .int .i64 ((numL (lens l) (toM (atL (lens l) p) m)):Nat))::(59, .slice (some ⟨b,0,none⟩) n n)::_) _ (lrec Lp r5::blk q11 [.int .i64 ((p:Nat))] 3::blk p10 [.slice (some ⟨b1,0,none⟩) V V] 47::blk b1 ((L.set p (foldB (possM (lens l) (atL (lens l) p)) (mcV (colZ c l) (lens l) (mvL n) (atL (lens l) p)) ((posL (lens l) (atL (lens l) p) (mvL n)).take jj) (-1))).map (Value.int .i64)) 3::blk pl [.slice A n ca] 25::blk pc c.cells 23::(dfrs Dl++(row 3 1 (some ⟨b,0,none⟩) n n ((colT (atL (lens l) p) m).map (Value.int .i64))::K2)))
   rw [← hX, ← hq]
   repeat' (first|refine d1 ?_|(show T _ _ _ _ _;refine T_begin hr5 rfl ?_))
   refine T_le (H':=row 3 1 (some ⟨b,0,none⟩) n n ((colT (atL (lens l) p) m).map (Value.int .i64))::lrec Lp (busy r5)::blk q11 [.int .i64 ((p:Nat))] 3::blk p10 [.slice (some ⟨b1,0,none⟩) V V] 47::blk b1 ((L.set p X).map (Value.int .i64)) 3::blk pl [.slice A n ca] 25::blk pc c.cells 23::(dfrs Dl++K2)) (Hle.perm (List.perm_middle (l₁:=lrec Lp (busy r5)::blk q11 [.int .i64 ((p:Nat))] 3::blk p10 [.slice (some ⟨b1,0,none⟩) V V] 47::blk b1 ((L.set p X).map (Value.int .i64)) 3::blk pl [.slice A n ca] 25::blk pc c.cells 23::dfrs Dl) (l₂:=K2))) ?_
   have hLq:(L.set p X)[q]?=some (F q):=by rw [List.getElem?_set_ne (by omega)];exact hLF q (by omega) (by omega)
   have hLp:(L.set p X)[p]?=some X:=by rw [List.getElem?_set_self (by omega)]
   have hLl:((L.set p X).map (Value.int .i64)).length=V:=by rw [List.length_map,List.length_set,hL]
   have hcq:∀ w,RdC w b1 0 ((L.set p X).map (Value.int .i64))→RdC w b1 (0+(q:Int).toNat * 1) [.int .i64 (F q)]:=fun w h9=>rdAt h9 (by omega) hLq
   have hcp:∀ w,RdC w b1 0 ((L.set p X).map (Value.int .i64))→RdC w b1 (0+(p:Int).toNat * 1) [.int .i64 X]:=fun w h9=>rdAt h9 (by omega) hLp
   have hKb:=colZ_bd hc (show l.length≤32 by omega) (colT (atL (lens l) p) m)
   have hFq2:=hFb q
   refine rsH [row 3 1 (some ⟨b,0,none⟩) n n ((colT (atL (lens l) p) m).map (Value.int .i64)),lrec Lp (busy r5),blk q11 [.int .i64 ((p:Nat))] 3,blk p10 [.slice (some ⟨b1,0,none⟩) V V] 47,blk b1 ((L.set p X).map (Value.int .i64)) 3,blk pl [.slice A n ca] 25,blk pc c.cells 23] 1000 [0,1,2,4,5,6,7,3,8,9] ?_
   repeat' (first|refine d1 ?_|refine dd ?_|(show T _ (.ops _ (_::_)::_) _ _ _;first|refine T_val rfl (Val.load rfl (fun hg=>(fun w hw=>hcp w (rdAll w hw)))) rfl rfl rfl ?_|refine T_valC rfl (Val.load rfl (fun hg=>(fun w hw=>hcp w (rdAll w hw)))) rfl rfl rfl rfl rfl ?_)|(show T _ (.run _ _ (_::_) _ _::_) _ _ _;first|refine rc rfl rfl rfl rfl rfl rfl rfl (fun w hw=>cost19_spec c A (some ⟨b,0,none⟩) n ca n l (colT (atL (lens l) p) m) w (hg.cls hw) hc hbs (srcRw w hw) (colT_ok hvl (fun s hs=>by rw [hn];exact hno.lt m hmm s hs) hpo)) ?_|refine rv rfl rfl rfl (Val.load rfl (fun hg=>(fun w hw=>hcq w (rdAll w hw)))) rfl rfl rfl ?_)|fail)
   refine T_if rfl (fun h5=>?_) (fun h5=>?_)
   ·have hbs9:bst X (colZ c l (colT (atL (lens l) p) m)+F q)=colZ c l (colT (atL (lens l) p) m)+F q:=by unfold bst;rw [if_pos (by simpa using h5)]
    repeat' (first|refine d1 ?_|fail)
    have e9:((L.set p X).map (Value.int .i64)).set (0+(p:Int).toNat * 1) (.int .i64 (colZ c l (colT (atL (lens l) p) m)+F q))=(L.set p (colZ c l (colT (atL (lens l) p) m)+F q)).map (Value.int .i64):=by
     rw [show 0+(p:Int).toNat * 1=p by omega, ← List.map_set,List.set_set]
    rw [e9]
    refine T_next (blk q11 [.int .i64 ((p:Nat))] 3::blk p10 [.slice (some ⟨b1,0,none⟩) V V] 47::blk b1 ((L.set p (foldB (possM (lens l) (atL (lens l) p)) (mcV (colZ c l) (lens l) (mvL n) (atL (lens l) p)) ((posL (lens l) (atL (lens l) p) (mvL n)).take (jj+1)) (-1))).map (Value.int .i64)) 3::blk pl [.slice A n ca] 25::blk pc c.cells 23::dfrs Dl) rfl ?_
    rw [hXs,hbs9]
    exact Hle.tail _ _
   ·have hbs9:bst X (colZ c l (colT (atL (lens l) p) m)+F q)=X:=by unfold bst;rw [if_neg (by simpa using h5)]
    refine T_next (blk q11 [.int .i64 ((p:Nat))] 3::blk p10 [.slice (some ⟨b1,0,none⟩) V V] 47::blk b1 ((L.set p (foldB (possM (lens l) (atL (lens l) p)) (mcV (colZ c l) (lens l) (mvL n) (atL (lens l) p)) ((posL (lens l) (atL (lens l) p) (mvL n)).take (jj+1)) (-1))).map (Value.int .i64)) 3::blk pl [.slice A n ca] 25::blk pc c.cells 23::dfrs Dl) rfl ?_
    rw [hXs,hbs9]
    exact Hle.tail _ _
  ·rintro D Hn rfl
   have hFp:foldB (possM (lens l) (atL (lens l) p)) (mcV (colZ c l) (lens l) (mvL n) (atL (lens l) p)) ((posL (lens l) (atL (lens l) p) (mvL n)).take (posL (lens l) (atL (lens l) p) (mvL n)).length) (-1)=F p:=by rw [List.take_length,foldB_posL, ← hstep,hF]
   rw [hFp]
   show T (FC _ _ ((D::Dl).map mkD) _ _ _) _ _ _ (dfr D::blk g2 [.int .i64 (p:Nat)] 3::blk g3 [.slice Am (mvL n).length cm] 30::blk g1 [.pointer (some ⟨pg,0,none⟩)] 123::blk pg (gridL A n ca (lens l) 0) 129::fz pm::blk q11 [.int .i64 ((p:Nat))] 3::blk p10 [.slice (some ⟨b1,0,none⟩) V V] 47::blk b1 ((L.set p (F p)).map (Value.int .i64)) 3::blk pl [.slice A n ca] 25::blk pc c.cells 23::dfrs Dl)
   repeat' (first|refine d1 ?_|(show ∀ _:Nat,T _ _ _ _ _;intro _))
   rename_i n11
   show T _ (.mark _::_) _ _ _
   refine T_backD (p,n11,L.set p (F p),D::Dl) ⟨by dsimp only;omega,by dsimp only;rw [List.length_set,hL],fun q h5 h6=>?_⟩ (by dsimp only;omega) rfl (hG:=?_)
   ·dsimp only at h5 ⊢
    by_cases hqp:q=p
    ·rw [hqp,List.getElem?_set_self (by omega)]
    ·rw [List.getElem?_set_ne (by omega)];exact hLF q (by omega) h6
   ·dsimp only
    exact Hle.srtT (A:=[blk n11 [.int .i64 ((p:Int) - 1)] 3,dfr D,blk g2 [.int .i64 (p:Nat)] 3,blk g3 [.slice Am (mvL n).length cm] 30,blk g1 [.pointer (some ⟨pg,0,none⟩)] 123,blk pg (gridL A n ca (lens l) 0) 129,fz pm,blk q11 [.int .i64 ((p:Nat))] 3,blk p10 [.slice (some ⟨b1,0,none⟩) V V] 47,blk b1 ((L.set p (F p)).map (Value.int .i64)) 3,blk pl [.slice A n ca] 25,blk pc c.cells 23]) (K:=[blk n11 [.int .i64 ((p:Int) - 1)] 3,blk p10 [.slice (some ⟨b1,0,none⟩) V V] 47,blk b1 ((L.set p (F p)).map (Value.int .i64)) 3,fz pm,blk pg (gridL A n ca (lens l) 0) 129,blk pl [.slice A n ca] 25,blk pc c.cells 23,dfr D]) (dfrs Dl)
end Go.Proofs.YtblnhdnogjijiaaGreatDoor
namespace Go.Proofs.YtblnhdnogjijiaaGreatDoor
open Go.RowKit Go.Shelf Go.ChangeShapes Go.WideShapes Go.Proofs
set_option maxRecDepth 100000

theorem chunks {α:Type} (cells:α→List Value) (sz:Nat):∀ (n:Nat) (l:List D),l.length=n * sz→(∀ i,i<n→∃ t:α,(l.drop (i * sz)).take sz=(cells t).map .v)→∃ ts:List α,ts.length=n∧l=(ts.flatMap cells).map .v
 | 0,l,hl,_=>⟨[],rfl,by simpa using List.eq_nil_of_length_eq_zero (by simpa using hl)⟩
 | n+1,l,hl,h=>by
  obtain⟨t,ht⟩:=h 0 (by omega)
  rw [Nat.zero_mul,List.drop_zero] at ht
  obtain⟨ts,h1,h2⟩:=chunks cells sz n (l.drop sz) (by rw [List.length_drop,hl,Nat.succ_mul];omega) fun i hi=>by
   obtain⟨t,ht⟩:=h (i+1) (by omega)
   exact⟨t,by rw [List.drop_drop, ← ht,Nat.succ_mul,Nat.add_comm]⟩
  exact⟨t::ts,by simp [h1],by rw [List.flatMap_cons,List.map_append, ← ht, ← h2,List.take_append_drop]⟩
section
variable {H:Type} {enc:TypeId × Value→H} {W:World} {base b0:Nat} {sp:Nat→Bool} {held:Bool} {r:Reach} {v:Value} {d:DataW H} {ps:List MemPlace}
end
end Go.Proofs.YtblnhdnogjijiaaGreatDoor
namespace Go.Proofs.YtblnhdnogjijiaaGreatDoor
open Go.RowKit Go.Shelf Go.ChangeShapes Go.WideShapes Go.Proofs
set_option maxRecDepth 100000

theorem chunksD {α:Type} (g:α→List D) (sz:Nat):∀ (n:Nat) (l:List D),l.length=n * sz→(∀ i,i<n→∃ t:α,(l.drop (i * sz)).take sz=g t)→∃ ts:List α,ts.length=n∧l=ts.flatMap g
 | 0,l,hl,_=>⟨[],rfl,by simpa using List.eq_nil_of_length_eq_zero (by simpa using hl)⟩
 | n+1,l,hl,h=>by
  obtain⟨t,ht⟩:=h 0 (by omega)
  rw [Nat.zero_mul,List.drop_zero] at ht
  obtain⟨ts,h1,h2⟩:=chunksD g sz n (l.drop sz) (by rw [List.length_drop,hl,Nat.succ_mul];omega) fun i hi=>by
   obtain⟨t,ht⟩:=h (i+1) (by omega)
   exact⟨t,by rw [List.drop_drop, ← ht,Nat.succ_mul,Nat.add_comm]⟩
  exact⟨t::ts,by simp [h1],by rw [List.flatMap_cons, ← ht, ← h2,List.take_append_drop]⟩
theorem flat1D {α:Type} (f:α→D):∀ l:List α,l.flatMap (fun x=>[f x])=l.map f
 | []=>rfl
 | x::l=>by rw [List.flatMap_cons,List.map_cons,flat1D f l];rfl
def toksD (l:List Tok):D := .s 6 ((l.flatMap Tok.cells).map .v)
theorem ints_wt {f:Nat} {ds:List D} (h:wt sg (f+2) 47 ds):∃ l:List Int,ds=[intsD l]:=by
 obtain⟨l,n,rfl,hl,_,hi⟩:=(show ∃ l n,ds=[.s 1 l]∧l.length=n * 1∧n≤maxLen∧∀ i,i<n→wt sg (f+1) 3 ((l.drop (i * 1)).take 1) from h)
 obtain⟨ts,e1,e2⟩:=chunksD (fun z:Int=>[D.v (.int .i64 z)]) 1 n l hl fun i hin=>by
  obtain⟨z,hz,_⟩:=(show ∃ z,_=[D.v (.int .i64 z)]∧(Lit.int .i64 z).wf=true from hi i hin)
  exact⟨z,hz⟩
 subst e2
 exact⟨ts,by rw [flat1D];rfl⟩
theorem rows_wt {f:Nat} {ds:List D} (h:wt sg (f+3) 30 ds):∃ m:List (List Int),ds=[rowsD m]:=by
 obtain⟨l,n,rfl,hl,_,hi⟩:=(show ∃ l n,ds=[.s 1 l]∧l.length=n * 1∧n≤maxLen∧∀ i,i<n→wt sg (f+2) 47 ((l.drop (i * 1)).take 1) from h)
 obtain⟨ts,e1,e2⟩:=chunksD (fun z:List Int=>[intsD z]) 1 n l hl fun i hin=>ints_wt (hi i hin)
 subst e2
 exact⟨ts,by rw [flat1D];rfl⟩
theorem toks_wt {f:Nat} {ds:List D} (h:wt sg (f+4) 38 ds):∃ l:List Tok,ds=[toksD l]:=by
 obtain⟨l,n,rfl,hl,_,hi⟩:=(show ∃ l n,ds=[.s 6 l]∧l.length=n * 6∧n≤maxLen∧∀ i,i<n→wt sg (f+3) 42 ((l.drop (i * 6)).take 6) from h)
 obtain⟨ts,e1,e2⟩:=chunks Tok.cells 6 n l hl fun i hin=>tok_wt (hi i hin)
 subst e2
 exact⟨ts,rfl⟩
theorem toksL_wt {f:Nat} {ds:List D} (h:wt sg (f+5) 25 ds):∃ m:List (List Tok),ds=[.s 1 (m.map toksD)]:=by
 obtain⟨l,n,rfl,hl,_,hi⟩:=(show ∃ l n,ds=[.s 1 l]∧l.length=n * 1∧n≤maxLen∧∀ i,i<n→wt sg (f+4) 38 ((l.drop (i * 1)).take 1) from h)
 obtain⟨ts,e1,e2⟩:=chunksD (fun z:List Tok=>[toksD z]) 1 n l hl fun i hin=>toks_wt (hi i hin)
 subst e2
 exact⟨ts,by rw [flat1D]⟩
theorem Rd.toks {w:World} {x:Value} {l:List Tok} (h:Rd (wr w) [x] [toksD l]):∃ A cap,x = .slice A l.length cap∧l.length≤9223372036854775807∧Src w 6 A l.length (l.flatMap Tok.cells)∧l.length≤cap∧cap≤9223372036854775807:=by
 obtain⟨A,m,cap,rfl,h3,h4,h5,h6⟩:=h.srcV
 have em:m=l.length:=by
  have:(l.flatMap Tok.cells).length=l.length * 6:=flatT_length l
  omega
 subst em
 exact⟨A,cap,rfl,by omega,h6,h4,h5⟩
section
variable {H:Type} {enc:TypeId × Value→H} {W:World} {base b0:Nat} {sp:Nat→Bool} {held:Bool} {r:Reach} {v:Value} {d:DataW H} {ps:List MemPlace}
theorem arg_ints (hv:Value.okWide Tryz.prog W r b0 47 v) (h:DataW.Trod enc Tryz.prog W base sp held 47 v d ps):∃ m:List Int,Rd (wr W) [v] [intsD m]:=by
 obtain⟨fuel,hf⟩:=h
 obtain⟨ds,h1,h2⟩:=trod_wt (S:=sg) 9 rfl hf
 obtain⟨m,rfl⟩:=ints_wt h2
 have hc:v.cells.toList=[v]:=by
  cases v <;> first|rfl|(exfalso;unfold Value.okWide at hv;simp [Tryz.underlying47] at hv;unfold Cell.okWide at hv;simp [Tryz.underlying47] at hv;unfold Cell.ok at hv;simp [Tryz.underlying47] at hv)
 rw [hc] at h1
 exact⟨m,h1⟩
end
end Go.Proofs.YtblnhdnogjijiaaGreatDoor
namespace Go.Proofs.YtblnhdnogjijiaaGreatDoor
open Go.RowKit Go.Shelf Go.Proofs

def SameL (l l':List TS):Prop:=l.map TS.l=l'.map TS.l
theorem SameL.len {l l':List TS} (h:SameL l l'):l.length=l'.length:=by
 have:=congrArg List.length h
 rwa [List.length_map,List.length_map] at this
theorem SameL.get {l l':List TS} (h:SameL l l') (i:Nat):(tsA l i).l=(tsA l' i).l:=by
 have e:=congrArg (fun x:List (List Tok)=>x[i]?) h
 simp only [List.getElem?_map] at e
 unfold tsA
 rw [List.getD_eq_getElem?_getD,List.getD_eq_getElem?_getD]
 cases h1:l[i]? with
 | none =>
  cases h2:l'[i]? with
  | none=>rfl
  | some y=>rw [h1,h2] at e;cases e
 | some x =>
  cases h2:l'[i]? with
  | none=>rw [h1,h2] at e;cases e
  | some y=>rw [h1,h2] at e;exact Option.some.inj e
theorem SameL.dst {l l':List TS} (h:SameL l l') (c:Costs):dstT c l=dstT c l':=by
 funext i k
 unfold dstT
 rw [h.get,h.get]
theorem SameL.put {l l':List TS} (h:SameL l l') (c:Costs) (col:List Int) (t:List Tok) (k:Int):putC c l col t k=putC c l' col t k:=by
 have e:∀ m:List TS,putC c m col t k=(((m.map TS.l).zip col).map fun p=>entC c p.1 p.2 t k).sum:=fun m=>by
  unfold putC
  rw [List.zip_map_left,List.map_map]
  rfl
 rw [e l,e l',h]
theorem SameL.add {l l':List TS} (h:SameL l l') (c:Costs) (cols:List (List Int)) (t:List Tok):addV c l cols t=addV c l' cols t:=by
 funext i k
 have e:grdA c l cols t=grdA c l' cols t:=by
  unfold grdA
  simp only [h.put,h.len]
 unfold addV
 rw [e,h.len]
theorem SameL.tak {l l':List TS} (h:SameL l l') (ord:List Nat) (j:Nat):SameL (takS l ord j) (takS l' ord j):=by
 unfold SameL takS
 rw [List.map_map,List.map_map]
 exact List.map_congr_left fun i _=>h.get i
theorem SameL.stg {l l':List TS} (h:SameL l l') (c:Costs) (ord:List Nat):∀ j,stgV c l ord j=stgV c l' ord j
 | 0=>rfl
 | j+1=>by
  unfold stgV
  rw [(h.tak ord j).add,SameL.stg h c ord j,h.get]
theorem SameL.bad {l l':List TS} (h:SameL l l'):badS l=badS l':=by
 have e:∀ m:List TS,badS m=(m.map TS.l).any badL:=fun m=>by unfold badS;rw [List.any_map];rfl
 rw [e,e,h]
theorem SameL.ck {l l':List TS} (h:SameL l l') (c:Costs):ck21 c l=ck21 c l':=by unfold ck21;rw [h.bad]
theorem SameL.ord {l l':List TS} (h:SameL l l') (c:Costs):ordV c l=ordV c l':=by unfold ordV;rw [h.ck,h.dst,h.len]
theorem SameL.aln {l l':List TS} (h:SameL l l') (c:Costs):alnA c l=alnA c l':=by unfold alnA alnP;rw [h.ck,h.dst,h.len,h.stg]
end Go.Proofs.YtblnhdnogjijiaaGreatDoor
namespace Go.Proofs.YtblnhdnogjijiaaGreatDoor
open Go.RowKit Go.Shelf Go.Proofs
set_option maxRecDepth 100000

def sA:ByteArray:=⟨#[97]⟩
end Go.Proofs.YtblnhdnogjijiaaGreatDoor
namespace Go.Proofs.YtblnhdnogjijiaaGreatDoor
open Go.RowKit Go.Shelf Go.Proofs
set_option maxRecDepth 100000
set_option maxHeartbeats 1000000

theorem rd_toksL {w:World}:∀ {m:List (List Tok)} {cs:List Value},Rd (wr w) cs (m.map toksD)→∃ l:List TS,cs=l.map TS.val∧TsOk w l∧l.map TS.l=m
 | [],cs,h=>by
  have:=h.length
  obtain rfl:cs=[]:=List.eq_nil_of_length_eq_zero this
  exact⟨[],rfl,⟨fun t ht=>(by cases ht),fun t ht=>(by cases ht),fun t ht=>(by cases ht)⟩,rfl⟩
 | t::m,[],h=>by have:=h.length;simp at this
 | t::m,x::cs,h=>by
  obtain⟨h1,h2⟩:=h.cons_inv
  obtain⟨A,cap,rfl,hb,hs,-,-⟩:=h1.toks
  obtain⟨l,rfl,hl,rfl⟩:=rd_toksL h2
  refine ⟨⟨A,t.length,cap,t⟩::l,rfl,⟨fun y hy=>?_,fun y hy=>?_,fun y hy=>?_⟩,rfl⟩
  ·rcases List.mem_cons.1 hy with rfl|hy
   ·exact hs
   ·exact hl.src y hy
  ·rcases List.mem_cons.1 hy with rfl|hy
   ·rfl
   ·exact hl.len y hy
  ·rcases List.mem_cons.1 hy with rfl|hy
   ·exact hb
   ·exact hl.bd y hy
theorem Rd.toksL {w:World} {x:Value} {m:List (List Tok)} (h:Rd (wr w) [x] [.s 1 (m.map toksD)]):∃ A cap,∃ l:List TS,x = .slice A l.length cap∧l.length≤9223372036854775807∧Src w 1 A l.length (l.map TS.val)∧TsOk w l∧l.map TS.l=m:=by
 obtain⟨A,n,cap,cs,rfl,h1,h2,h3,hs,hr⟩:=h.src
 obtain⟨l,rfl,hl,rfl⟩:=rd_toksL hr
 have hn:n=l.length:=by rw [List.length_map,List.length_map] at h1;omega
 subst hn
 exact⟨A,cap,l,rfl,by omega,hs,hl,rfl⟩
end Go.Proofs.YtblnhdnogjijiaaGreatDoor
namespace Go.Proofs.YtblnhdnogjijiaaGreatDoor
open Go.RowKit Go.Shelf Go.Proofs
set_option maxRecDepth 100000
set_option maxHeartbeats 1000000

end Go.Proofs.YtblnhdnogjijiaaGreatDoor
namespace Go.Proofs.YtblnhdnogjijiaaGreatDoor
open Go.RowKit Go.Shelf Go.Proofs
set_option maxRecDepth 100000
set_option maxHeartbeats 1000000

theorem isNone_true {A:Option Addr} (h:isNone' A=true):A=none:=by cases A <;> simp_all [isNone']
theorem src_none {w:World} {sz n:Nat} {xs:List Value} (h:Src w sz none n xs):n=0∧xs=[]:=by
 have:n=0:=by
  rcases Nat.eq_zero_or_pos n with h1|h1
  ·exact h1
  ·have:=(h.2 h1).1;simp [isAt] at this
 subst this
 exact⟨rfl,List.eq_nil_of_length_eq_zero (by simpa using h.1)⟩
theorem oneMap {α:Type} (f:α→Value) (hf:∀ x,(f x).oneCell'=true):∀ l:List α,oneCells (l.map f)=true
 | []=>rfl
 | x::l=>by rw [List.map_cons];simp only [oneCells,hf,Bool.true_and];exact oneMap f hf l
theorem oneToks:∀ l:List Tok,oneCells (l.flatMap Tok.cells)=true
 | []=>rfl
 | t::l=>by
  rw [List.flatMap_cons]
  simp only [Tok.cells,List.cons_append,List.nil_append,oneCells,Value.oneCell',Bool.true_and]
  exact oneToks l
end Go.Proofs.YtblnhdnogjijiaaGreatDoor
namespace Go.Proofs.YtblnhdnogjijiaaGreatDoor
open Go.RowKit Go.Shelf Go.Proofs
set_option maxRecDepth 100000
set_option maxHeartbeats 1000000

def RvIn (l r:List Tok) (i:Nat):Prop:=r.length=l.length∧∀ k,k<l.length→r[k]?=if k<i∨l.length≤k+i then l[l.length - 1 - k]? else l[k]?
theorem RvIn.zero (l:List Tok):RvIn l l 0:=⟨rfl,fun k hk=>by rw [if_neg (by omega)]⟩
theorem RvIn.step {l r:List Tok} {i:Nat} (h:RvIn l r i) (hi:2 * i+1<l.length):RvIn l ((r.set i (tkA r (l.length - 1 - i))).set (l.length - 1 - i) (tkA r i)) (i+1):=by
 obtain⟨h1,h2⟩:=h
 have e1:r[l.length - 1 - i]?=l[l.length - 1 - i]?:=by rw [h2 _ (by omega),if_neg (by omega)]
 have e2:r[i]?=l[i]?:=by rw [h2 _ (by omega),if_neg (by omega)]
 refine ⟨by simp [h1],fun k hk=>?_⟩
 rw [List.getElem?_set,List.getElem?_set,List.length_set]
 by_cases hk1:l.length - 1 - i=k
 ·rw [if_pos hk1,if_pos (by omega),if_pos (by omega),show l.length - 1 - k=i by omega, ← e2,tkA_get (by omega)]
 ·rw [if_neg hk1]
  by_cases hk2:i=k
  ·subst hk2
   rw [if_pos rfl,if_pos (by omega),if_pos (by omega), ← e1,tkA_get (by omega)]
  ·rw [if_neg hk2,h2 k hk]
   by_cases h3:k<i∨l.length≤k+i
   ·rw [if_pos h3,if_pos (by omega)]
   ·rw [if_neg h3,if_neg (by omega)]
theorem RvIn.all {l r:List Tok} {i:Nat} (h:RvIn l r i) (hi:l.length≤2 * i+1):r=l.reverse:=by
 obtain⟨h1,h2⟩:=h
 apply List.ext_getElem?
 intro k
 by_cases hk:k<l.length
 ·rw [h2 k hk,List.getElem?_reverse hk]
  split
  ·rfl
  ·rw [show l.length - 1 - k=k by omega]
 ·rw [List.getElem?_eq_none (by omega),List.getElem?_eq_none (by simp;omega)]
end Go.Proofs.YtblnhdnogjijiaaGreatDoor
namespace Go.Proofs.YtblnhdnogjijiaaGreatDoor
open Go.RowKit Go.Shelf Go.Proofs
set_option maxRecDepth 100000
set_option maxHeartbeats 1000000

end Go.Proofs.YtblnhdnogjijiaaGreatDoor
namespace Go.Proofs.YtblnhdnogjijiaaGreatDoor
open Go.RowKit Go.Shelf Go.Proofs
set_option maxRecDepth 100000
set_option maxHeartbeats 1000000

theorem cloneS_spec (A:Option Addr) (n c:Nat) (l:List TS) (w:World) (hs:Src w 1 A n (l.map TS.val)) (hb:n≤1000000) :
  Spec Tryz.prog 54 [.slice A n c] w (fun v R=>∃ x:Option Addr × Nat,True∧v = .slice x.1 n x.2∧R=[row 38 1 x.1 x.2 n (l.map TS.val)]):=by
 refine spec_of sg Tryz.func54 rfl rfl rfl ?_
 repeat' (first|refine d1 ?_|(show T _ (.ops _ (_::_)::_) _ _ _;refine T_val rfl (Val.nilS rfl) rfl rfl rfl ?_)|fail)
 refine T_if rfl (fun h=>?_) (fun h=>?_)
 ·obtain rfl:=isNone_true h
  obtain⟨rfl,e⟩:=src_none hs
  rw [e]
  repeat' (first|refine d1 ?_|fail)
  refine T_nilrow 38 1 ?_
  repeat' (first|(show T _ (.code .ret::_) _ _ _;refine T_retV _ rfl Hle.sub ⟨(none,0),trivial,rfl,rfl⟩))
 ·repeat' (first|refine d1 ?_|(show ∀ _:Nat,T _ _ _ _ _;intro _))
  refine T_blk_rowh 1 0 rfl (by omega) ?_
  refine T_op (OpT.append rfl rfl rfl rfl rfl rfl rfl rfl rfl rfl (rdSrc hs) (oneMap TS.val (fun _=>rfl) l) (by dsimp only;omega) (by omega) (fun A' cap' hA'=>?_))
  rw [show 0+n=n by omega,show flatP []++(l.map TS.val)=(l.map TS.val) from rfl]
  repeat' (first|refine d1 ?_|(show T _ (.code .ret::_) _ _ _;refine T_retV _ rfl (Hle.refl _) ⟨(A',cap'),trivial,rfl,rfl⟩))
theorem rd_toksR {R:Rdr}:∀ {m:List (List Tok)} {cs:List Value},Rd R cs (m.map toksD)→∃ l:List TS,cs=l.map TS.val∧l.map TS.l=m∧∀ t∈l,t.l.length=t.n∧t.n≤9223372036854775807∧Rd R [t.val] [toksD t.l]
 | [],cs,h=>by cases h;exact⟨[],rfl,rfl,fun t h=>by cases h⟩
 | a::m,[],h=>by cases h
 | a::m,x::cs,h=>by
  obtain⟨h1,h2⟩:=Rd.cons_inv (d:=toksD a) h
  obtain⟨l,rfl,rfl,h3⟩:=rd_toksR h2
  obtain⟨A,n,cap,rfl,h4,h5,h6,-⟩:=Rd.vals_one (xs:=a.flatMap Tok.cells) h1
  have em:n=a.length:=by
   have:(a.flatMap Tok.cells).length=a.length * 6:=flatT_length a
   omega
  subst em
  refine ⟨⟨A,a.length,cap,a⟩::l,rfl,rfl,fun t ht=>?_⟩
  rcases List.mem_cons.1 ht with rfl|ht
  ·exact⟨rfl,by show a.length≤_;omega,h1⟩
  ·exact h3 t ht
theorem Rd.toksF {p:Frag} {x:Value} {m:List (List Tok)} (h:Rd (fr p) [x] [.s 1 (m.map toksD)]):∃ A cap,∃ l:List TS,x = .slice A l.length cap∧l.length≤9223372036854775807∧l.map TS.l=m∧(∀ t∈l,t.l.length=t.n) ∧
  ∀ {w0 w:World} {H:List HA} [FocusZ H p],Cls w0 w H→Src w 1 A l.length (l.map TS.val)∧TsOk w l:=by
 obtain⟨A,n,cap,cs,rfl,h1,h2,h3,h4,h5,h6⟩:=h.slice
 obtain⟨l,rfl,rfl,h7⟩:=rd_toksR h6
 have hn:n=l.length:=by rw [List.length_map] at h2;omega
 subst hn
 refine ⟨A,cap,l,rfl,by omega,rfl,fun t ht=>(h7 t ht).1,fun {w0 w H} _ hw=>⟨⟨h2,fun hn=>⟨(h5 hn).1,fun j u hu=>hw.fz (p:=p) _ _ _ ((h5 hn).2 j u hu)⟩⟩,⟨fun t ht=>?_,fun t ht=>(h7 t ht).1,fun t ht=>(h7 t ht).2.1⟩⟩⟩
 have h8:=((h7 t ht).2.2).own hw
 obtain⟨A',c',e,-,hs,-⟩:=h8.toks
 have e2:Value.slice t.A t.n t.cap = .slice A' t.l.length c':=e
 injection e2 with e3 e4 e5
 rw [e3,e4]
 exact hs
def RvS (l r:List TS) (i:Nat):Prop:=r.length=l.length∧∀ k,k<l.length→r[k]?=if k<i∨l.length≤k+i then l[l.length - 1 - k]? else l[k]?
theorem RvS.zero (l:List TS):RvS l l 0:=⟨rfl,fun k hk=>by rw [if_neg (by omega)]⟩
theorem tsA_get2 {l:List TS} {i:Nat} (h:i<l.length):l[i]?=some (tsA l i):=by unfold tsA;rw [List.getD_eq_getElem?_getD,List.getElem?_eq_getElem h];rfl
theorem RvS.step {l r:List TS} {i:Nat} (h:RvS l r i) (hi:2 * i+1<l.length):RvS l ((r.set i (tsA r (l.length - 1 - i))).set (l.length - 1 - i) (tsA r i)) (i+1):=by
 obtain⟨h1,h2⟩:=h
 have e1:r[l.length - 1 - i]?=l[l.length - 1 - i]?:=by rw [h2 _ (by omega),if_neg (by omega)]
 have e2:r[i]?=l[i]?:=by rw [h2 _ (by omega),if_neg (by omega)]
 refine ⟨by simp [h1],fun k hk=>?_⟩
 rw [List.getElem?_set,List.getElem?_set,List.length_set]
 by_cases hk1:l.length - 1 - i=k
 ·rw [if_pos hk1,if_pos (by omega),if_pos (by omega),show l.length - 1 - k=i by omega, ← e2,tsA_get2 (by omega)]
 ·rw [if_neg hk1]
  by_cases hk2:i=k
  ·subst hk2
   rw [if_pos rfl,if_pos (by omega),if_pos (by omega), ← e1,tsA_get2 (by omega)]
  ·rw [if_neg hk2,h2 k hk]
   by_cases h3:k<i∨l.length≤k+i
   ·rw [if_pos h3,if_pos (by omega)]
   ·rw [if_neg h3,if_neg (by omega)]
theorem RvS.all {l r:List TS} {i:Nat} (h:RvS l r i) (hi:l.length≤2 * i+1):r=l.reverse:=by
 obtain⟨h1,h2⟩:=h
 apply List.ext_getElem?
 intro k
 by_cases hk:k<l.length
 ·rw [h2 k hk,List.getElem?_reverse hk]
  split
  ·rfl
  ·rw [show l.length - 1 - k=k by omega]
 ·rw [List.getElem?_eq_none (by omega),List.getElem?_eq_none (by simp;omega)]
end Go.Proofs.YtblnhdnogjijiaaGreatDoor
namespace Go.Proofs.YtblnhdnogjijiaaGreatDoor
open Go.RowKit Go.Shelf

end Go.Proofs.YtblnhdnogjijiaaGreatDoor
namespace Go.Proofs.YtblnhdnogjijiaaGreatDoor
open Go.RowKit Go.Shelf Go.Proofs
set_option maxRecDepth 100000
set_option linter.unusedSectionVars false
set_option maxHeartbeats 1000000

def pg (p:List Int) (q:Nat):Int:=p.getD q 0
section
variable {K:List Int→Int} (hK:∀ x,0≤K x) {ls:List Nat} {n:Nat} {Ms:List (List Nat)} (hM:MvsOk n Ms) (hn:ls.length=n)
include hK hM hn
end
section
variable {K:List Int→Int} {ls:List Nat} {n:Nat} {Ms:List (List Nat)} (hM:MvsOk n Ms) (hn:ls.length=n) {p:List Int}
include hM hn
end
section
variable {K:List Int→Int} (hK:∀ x,0≤K x) {ls:List Nat} {n:Nat} {Ms:List (List Nat)} (hM:MvsOk n Ms) (hn:ls.length=n)
include hK hM hn
end
end Go.Proofs.YtblnhdnogjijiaaGreatDoor
namespace Go.Proofs.YtblnhdnogjijiaaGreatDoor
open Go.RowKit Go.Shelf Go.Proofs

end Go.Proofs.YtblnhdnogjijiaaGreatDoor
namespace Go.Proofs.YtblnhdnogjijiaaGreatDoor
open Go.RowKit Go.Shelf Go.Proofs

end Go.Proofs.YtblnhdnogjijiaaGreatDoor
namespace Go.Proofs.YtblnhdnogjijiaaGreatDoor
open Go.RowKit Go.Shelf Go.Proofs

end Go.Proofs.YtblnhdnogjijiaaGreatDoor
namespace Go.Proofs.YtblnhdnogjijiaaGreatDoor
open Go.RowKit Go.Shelf Go.Proofs
set_option maxRecDepth 100000

end Go.Proofs.YtblnhdnogjijiaaGreatDoor
namespace Go.Proofs.YtblnhdnogjijiaaGreatDoor
open Go.RowKit Go.Shelf Go.Proofs
set_option maxRecDepth 100000
set_option maxHeartbeats 1000000

end Go.Proofs.YtblnhdnogjijiaaGreatDoor
namespace Go.Proofs.YtblnhdnogjijiaaGreatDoor
open Go.RowKit Go.Shelf Go.Proofs
set_option maxRecDepth 100000
set_option maxHeartbeats 1000000

end Go.Proofs.YtblnhdnogjijiaaGreatDoor
namespace Go.Proofs.YtblnhdnogjijiaaGreatDoor
open Go.RowKit Go.Shelf Go.Proofs
set_option maxRecDepth 100000
set_option maxHeartbeats 1000000

end Go.Proofs.YtblnhdnogjijiaaGreatDoor
namespace Go.Proofs.YtblnhdnogjijiaaGreatDoor
open Go.RowKit Go.Shelf Go.Proofs
set_option maxRecDepth 100000
set_option maxHeartbeats 1000000

end Go.Proofs.YtblnhdnogjijiaaGreatDoor
namespace Go.Proofs.YtblnhdnogjijiaaGreatDoor
open Go.RowKit Go.Shelf Go.Proofs
set_option maxRecDepth 100000
set_option maxHeartbeats 1000000

end Go.Proofs.YtblnhdnogjijiaaGreatDoor
namespace Go.Proofs.YtblnhdnogjijiaaGreatDoor
open Go.RowKit Go.Shelf Go.Proofs
set_option maxRecDepth 100000
set_option maxHeartbeats 1000000

end Go.Proofs.YtblnhdnogjijiaaGreatDoor
namespace Go.Proofs.YtblnhdnogjijiaaGreatDoor
open Go.RowKit Go.Shelf

instance (priority:=low) SubP.same (H:List HA):SubP H H:=⟨id,fun i B h=>h,fun i j _ _ h=>h⟩
inductive Pq:List HA→List HA→Prop where
 | nil (H:List HA):Pq H []
 | same (H:List HA):Pq H H
 | cons {A:HA} {H H' K:List HA} (h:Rm A H H') (k:Pq H' K):Pq H (A::K)
 | drop {A:HA} {H K:List HA} (k:Pq H K):Pq (A::H) K
theorem Pq.spec {H K:List HA} (h:Pq H K):PickP H K:=by
 induction h with
 | nil H=>exact PickP.nil H
 | same H=>exact⟨id,fun i B h=>h,fun i j _ _ h=>h⟩
 | cons h _ ih=>exact PickP.cons _ _ _ _ (h:=h.spec) (k:=ih)
 | drop _ ih =>
  obtain⟨p,h1,h2⟩:=ih.at_
  exact⟨fun i=>p i+1,fun i B hi=>by simpa using h1 i B hi,fun i j hi hj hne=>by have:=h2 i j hi hj hne;dsimp only;omega⟩
theorem Hle.srtV {H K:List HA} (h:Pq H K:=by repeat' (first|exact Pq.nil _|with_reducible exact Pq.same _|apply Pq.cons|with_reducible exact Rm.here|((with_reducible apply Rm.b);rfl)|((with_reducible apply Rm.r) <;> rfl)|apply Rm.there|apply Pq.drop)):Hle H K:=Hle.any (h:=h.spec)
end Go.Proofs.YtblnhdnogjijiaaGreatDoor
namespace Go.Proofs.YtblnhdnogjijiaaGreatDoor
open Go.RowKit Go.Shelf Go.Proofs
set_option maxRecDepth 100000
set_option maxHeartbeats 1000000

end Go.Proofs.YtblnhdnogjijiaaGreatDoor
namespace Go.Proofs.YtblnhdnogjijiaaGreatDoor
open Go.RowKit Go.Shelf Go.Proofs
set_option maxRecDepth 100000
set_option maxHeartbeats 1000000

theorem InB.take:∀ {ls v:List Nat},InB ls v→∀ k,InB (ls.take k) (v.take k)
 | [],[],_,k=>by simp [InB]
 | n::ls,a::v,h,0=>trivial
 | n::ls,a::v,h,k+1=>⟨h.1,InB.take h.2 k⟩
 | [],a::v,h,_=>h.elim
 | n::ls,[],h,_=>h.elim
end Go.Proofs.YtblnhdnogjijiaaGreatDoor
namespace Go.Proofs.YtblnhdnogjijiaaGreatDoor
open Go.RowKit Go.Shelf Go.Proofs
set_option maxRecDepth 100000
set_option maxHeartbeats 1000000

def goodK (F:Nat→Int) (V:Nat) (L:List Int):Prop:=L.length=V∧∀ (q:Nat) (z:Int),L[q]?=some z→z = -1∨z=F q
theorem goodK.put {F:Nat→Int} {V:Nat} {L:List Int} (h:goodK F V L) (p:Nat):goodK F V (L.set p (F p)):=by
 refine ⟨by rw [List.length_set];exact h.1,fun q z hz=>?_⟩
 by_cases e:p=q
 ·subst e
  rw [List.getElem?_set] at hz
  simp only [if_true] at hz
  split at hz
  ·injection hz with hz;exact .inr hz.symm
  ·cases hz
 ·rw [List.getElem?_set_ne e] at hz
  exact h.2 q z hz
end Go.Proofs.YtblnhdnogjijiaaGreatDoor
namespace Go.Proofs.YtblnhdnogjijiaaGreatDoor
open Go.RowKit Go.Shelf Go.Proofs
set_option maxRecDepth 100000
set_option maxHeartbeats 1000000

end Go.Proofs.YtblnhdnogjijiaaGreatDoor
