/- Joined texts of this claim, part 3. -/
import Derived.Test.YtefieebkankfoaaGreatDoorW2
import Derived.Lib.AppendStr
import Derived.Laws.BytesArg
import Derived.Lib.Builder
import Derived.Lib.UnsafeStr
import Derived.Laws.Externs
set_option linter.unusedSectionVars false
set_option linter.unusedVariables false
set_option linter.unusedSimpArgs false
namespace Go.Proofs.YtefieebkankfoaaGreatDoor
open Go.RowKit Go.Shelf Go.Proofs
set_option maxRecDepth 100000
set_option maxHeartbeats 1000000

theorem tbl_hle {N m g cap:Nat} {f:Nat→Nat→Int} {M:List (Nat × List Value)} {J:List HA} (hm:m≤1000) (hM:M.length=N+1) (hR:RowsOk f (m+1) M):Hle (blks 3 M::row 29 1 (some ⟨g,0,none⟩) cap (N+1) (M.map (slv m))::J) (dat [.slice (some ⟨g,0,none⟩) (N+1) cap] [rowsD (tabR N m f)]::J):=by
 have q1:∀ x∈M,m+1≤x.2.length:=fun x hx=>by obtain⟨i,hi,e⟩:=List.getElem_of_mem hx;rw [hR i x (by rw [List.getElem?_eq_getElem hi,e]),valV_length];omega
 refine (dat_blks (L:=M) (m+1) (m+1) (by omega) (by omega) q1).trans ?_
 rw [tab_rows hM hR]
 exact (Hle.perm (List.Perm.swap _ _ _)).trans dat_row
theorem setLast (cA:List Int) (n:Nat) (k z:Int) (h:cA.length=n):setL ((cA++[z]).map (Value.int .i64)) (0+(n:Int).toNat * 1) [.int .i64 k]=(cA++[k]).map (Value.int .i64):=by
 rw [show 0+(n:Int).toNat * 1=n by omega,setL_eq _ _ _ (by simp [h]),List.map_append,List.take_append_of_le_length (by simp [h]),List.take_of_length_le (by simp [h]),List.drop_of_length_le (by simp [h]),List.map_append]
 rfl
theorem add21_spec {w:World} {c:Costs} {A:Option Addr} {n:Nat} {l:List TS} {K:Value} {cols:List (List Int)} {At:Option Addr} {m:Nat} {t:List Tok} (h:AddW w c A n l K cols At m t) (ca ct:Nat) (hprod:((cols.length:Int)+1) * ((m:Int)+1)≤1048576) :
  Spec Tryz.prog 84 [c.val, .slice A n ca,K, .slice At m ct] w (fun v R=>∃ x:Value,True∧v = .tuple #[x, .int .i64 0]∧R=[dat [x] [rowsD (addV c l cols t 0 0)]]):=by
 have hsz:=h.hsz
 have hmb:=h.hm
 have hb:=h.hg.hb
 have hn:=h.hg.hn
 have hprod0:0≤((cols.length:Int)+1) * ((m:Int)+1):=Int.mul_nonneg (by omega) (by omega)
 have e1:(grdA c l cols t).n=cols.length:=rfl
 have e2:(grdA c l cols t).m=m:=h.htl
 obtain⟨Ak,ck,csk,rfl,hck1,hck2,hcs,hrows⟩:=h.hx.tabS
 refine spec_of sg Tryz.func84 rfl rfl rfl ?_
 refine T_op (OpT.box (cs:=c.cells) rfl rfl rfl rfl rfl rfl rfl (fun pc=>?_))
 refine T_op (OpT.box (cs:=[.slice A n ca]) rfl rfl rfl rfl rfl rfl rfl (fun pl=>?_))
 refine T_op (OpT.box (cs:=[.slice Ak cols.length ck]) rfl rfl rfl rfl rfl rfl rfl (fun pk=>?_))
 repeat' (first|refine d1 ?_|fail)
 refine T_if rfl (fun h1=>by exfalso;simp only [decide_eq_true_eq] at h1;omega) (fun _=>?_)
 repeat' (first|refine d1 ?_|(show ∀ _:Nat,T _ _ _ _ _;intro _))
 rename_i pa p10
 refine T_le (H':=blk pa (addL c (.slice A n ca) (.slice Ak cols.length ck) (.slice At m ct) (.slice none 0 0)) 160::blk p10 [.pointer (some ⟨pa,0,none⟩)] 158::blk pk [.slice Ak cols.length ck] 24::blk pl [.slice A n ca] 23::blk pc c.cells 51::[]) (Hle.perm (List.Perm.swap _ _ _)) ?_
 refine T_op (OpT.callB rfl rfl rfl rfl rfl (fill21_spec h ca ct pa _) (fun u R hR=>?_))
 obtain⟨rfl,M,g,cap,hM,hR,rfl⟩:=hR
 refine T_le (tbl_hle hmb hM hR) ?_
 refine T_open fun pt hpt=>?_
 obtain⟨Agt,capt,cst,he,-,-,-,hAt,hrt⟩:=hpt.tab
 rw [tabR_length] at hAt he
 simp only [Value.slice.injEq,true_and] at he
 obtain⟨rfl,rfl⟩:=he
 obtain⟨bt,ot,hbo,hbt⟩:=hAt (by omega)
 simp only [Option.some.injEq,Addr.mk.injEq,and_true] at hbo
 obtain⟨rfl,rfl⟩:=hbo
 repeat' (first|refine d1 ?_|(show ∀ _:Nat,T _ _ _ _ _;intro _))
 rename_i p11 p12 p13
 refine T_le (H':=[blk p13 [.int .i64 ((0:Nat):Int)] 3,blk p12 [.int .i64 ((0:Nat):Int)] 3,blk p11 [.slice none 0 0] 24,fz pt,blk pa (addL c (.slice A n ca) (.slice Ak cols.length ck) (.slice At m ct) (.slice (some ⟨g,0,none⟩) (cols.length+1) cap)) 160,blk p10 [.pointer (some ⟨pa,0,none⟩)] 158,blk pk [.slice Ak cols.length ck] 24,blk pl [.slice A n ca] 23,blk pc c.cells 51]) (Hle.refl _) ?_
 refine T_keep [(3, .slice At m ct),(4, .pointer (some ⟨pc,0,none⟩)),(5, .pointer (some ⟨pl,0,none⟩)),(6, .pointer (some ⟨pk,0,none⟩)),(9, .int .i64 0),(10, .pointer (some ⟨p10,0,none⟩)),(11, .pointer (some ⟨p11,0,none⟩)),(12, .pointer (some ⟨p12,0,none⟩)),(13, .pointer (some ⟨p13,0,none⟩))] ⟨rfl,rfl,rfl,rfl,rfl,rfl,rfl,rfl,rfl,trivial⟩ ?_
 refine T_le (dat_nil _) ?_
 refine T_nilrow 29 1 ?_
 show T (FC _ _ (([]:List Nat).map mkD) _ _ _) _ _ _ _
 refine T_loopDX (fun s:(Nat × Nat) × (Nat × Nat) × (Option Addr × Nat) × List Value × List (List Int) × List Nat=>[(12, .pointer (some ⟨s.2.1.1,0,none⟩)),(13, .pointer (some ⟨s.2.1.2,0,none⟩))]) (fun s=>[blk s.2.1.2 [.int .i64 (s.1.2:Nat)] 3,blk s.2.1.1 [.int .i64 (s.1.1:Nat)] 3,blk p11 [.slice s.2.2.1.1 s.2.2.2.2.1.length s.2.2.1.2] 24,row 29 1 s.2.2.1.1 s.2.2.1.2 s.2.2.2.2.1.length s.2.2.2.1,dat s.2.2.2.1 (s.2.2.2.2.1.map intsD),fz pt,blk pa (addL c (.slice A n ca) (.slice Ak cols.length ck) (.slice At m ct) (.slice (some ⟨g,0,none⟩) (cols.length+1) cap)) 160,blk p10 [.pointer (some ⟨pa,0,none⟩)] 158,blk pk [.slice Ak cols.length ck] 24,blk pl [.slice A n ca] 23,blk pc c.cells 51]) (fun s=>s.2.2.2.2.2) (fun s=>s.1.1≤cols.length∧s.1.2≤m∧s.2.2.2.2.1.length≤s.1.1+s.1.2∧addV c l cols t 0 0=s.2.2.2.2.1++addV c l cols t s.1.1 s.1.2) (fun s=>(cols.length - s.1.1)+(m - s.1.2)) ((0,0),(p12,p13),(none,0),[],[],[]) ⟨Nat.zero_le _,Nat.zero_le _,Nat.zero_le _,rfl⟩ rfl ?_ (hG:=by exact Hle.perm ((List.perm_append_comm (l₁:=[_,_]) (l₂:=[_,_,_])).append_right (fz pt::_)))
 rintro⟨⟨i,k⟩,⟨q12,q13⟩,⟨Ao,capo⟩,hs,out,Dl⟩ ⟨hi,hk,hlo,hout⟩
 dsimp only at hi hk hlo hout ⊢
 refine T_le (H':=blk q13 [.int .i64 (k:Nat)] 3::blk q12 [.int .i64 (i:Nat)] 3::blk p11 [.slice Ao out.length capo] 24::row 29 1 Ao capo out.length hs::dat hs (out.map intsD)::fz pt::blk pa (addL c (.slice A n ca) (.slice Ak cols.length ck) (.slice At m ct) (.slice (some ⟨g,0,none⟩) (cols.length+1) cap)) 160::blk p10 [.pointer (some ⟨pa,0,none⟩)] 158::blk pk [.slice Ak cols.length ck] 24::blk pl [.slice A n ca] 23::blk pc c.cells 51::dfrs Dl) (Hle.refl _) ?_
 repeat' (first|refine d1 ?_|fail)
 refine T_if rfl (fun h3=>?_) (fun h3=>?_)
 ·have h3':i<cols.length∨k<m:=by simpa using h3
  repeat' (first|refine dd ?_|(show T _ (.run _ _ (_::_) _ _::_) _ _ _;first|refine rv rfl rfl rfl (Val.nilc rfl) rfl rfl rfl ?_|refine ro rfl rfl (OpT.call rfl rfl rfl rfl rfl (fun w hw=>steps21_spec c _ _ _ _ i k w) (fun u R hR=>?_)))|fail)
  obtain⟨⟨q1,q2,q3⟩,-,rfl,rfl⟩:=hR
  refine ⟨by intro _;exact Hle.append_right (K:=[]) _,?_⟩
  dsimp only
  repeat' (first|refine dd ?_|fail)
  refine T_rangeA (steps_iter h ca ct (some ⟨g,0,none⟩) (cols.length+1) cap i k hi hk q1 q2 q3) rfl (fun j y hy=>by obtain⟨v,_,rfl⟩:=stepsV_at hy;exact⟨rfl,rfl⟩)
   (fun jj H=>H=blk q13 [.int .i64 (k:Nat)] 3::blk q12 [.int .i64 (i:Nat)] 3::blk p11 [.slice Ao out.length capo] 24::row 29 1 Ao capo out.length hs::dat hs (out.map intsD)::fz pt::blk pa (addL c (.slice A n ca) (.slice Ak cols.length ck) (.slice At m ct) (.slice (some ⟨g,0,none⟩) (cols.length+1) cap)) 160::blk p10 [.pointer (some ⟨pa,0,none⟩)] 158::blk pk [.slice Ak cols.length ck] 24::blk pl [.slice A n ca] 23::blk pc c.cells 51::dfrs Dl∧∀ j' y,j'<jj→(mvs (grdA c l cols t) i k)[j']?=some y→via (grdA c l cols t) i k y≠rst (grdA c l cols t) i k) (fun _=>False)
   (fun id H=>id=2∧∃ (v:Mv) (x:Option Addr × Nat × Value),fstM (grdA c l cols t) i k=some v∧H=blk q13 [.int .i64 ((k+v.snd:Nat):Int)] 3::blk q12 [.int .i64 ((i+v.fst:Nat):Int)] 3::blk p11 [.slice x.1 (out.length+1) x.2.1] 24::row 29 1 x.1 x.2.1 (out.length+1) (hs++[x.2.2])::dat (hs++[x.2.2]) ((out++[colM l.length cols i k v]).map intsD)::fz pt::blk pa (addL c (.slice A n ca) (.slice Ak cols.length ck) (.slice At m ct) (.slice (some ⟨g,0,none⟩) (cols.length+1) cap)) 160::blk p10 [.pointer (some ⟨pa,0,none⟩)] 158::blk pk [.slice Ak cols.length ck] 24::blk pl [.slice A n ca] 23::blk pc c.cells 51::dfrs Dl)
   (blk q13 [.int .i64 (k:Nat)] 3::blk q12 [.int .i64 (i:Nat)] 3::blk p11 [.slice Ao out.length capo] 24::row 29 1 Ao capo out.length hs::dat hs (out.map intsD)::fz pt::blk pa (addL c (.slice A n ca) (.slice Ak cols.length ck) (.slice At m ct) (.slice (some ⟨g,0,none⟩) (cols.length+1) cap)) 160::blk p10 [.pointer (some ⟨pa,0,none⟩)] 158::blk pk [.slice Ak cols.length ck] 24::blk pl [.slice A n ca] 23::blk pc c.cells 51::dfrs Dl) ⟨rfl,fun _ _ h=>by omega⟩ (Hle.refl _) ?_ ?_ (fun _ _ h=>h.elim) ?_
  ·rintro Lp r jj yv Hj K2 hr hyv ⟨rfl,hno⟩
   obtain⟨v,hv,rfl⟩:=stepsV_at hyv
   have hb1:=h.to hi hk hv
   have hrb:=h.rst (i+v.fst) (k+v.snd)
   show T _ _ ((48, .agg v.cells.toArray)::_) _ (lrec Lp r::blk q13 [.int .i64 (k:Nat)] 3::blk q12 [.int .i64 (i:Nat)] 3::blk p11 [.slice Ao out.length capo] 24::row 29 1 Ao capo out.length hs::dat hs (out.map intsD)::fz pt::blk pa (addL c (.slice A n ca) (.slice Ak cols.length ck) (.slice At m ct) (.slice (some ⟨g,0,none⟩) (cols.length+1) cap)) 160::blk p10 [.pointer (some ⟨pa,0,none⟩)] 158::blk pk [.slice Ak cols.length ck] 24::blk pl [.slice A n ca] 23::blk pc c.cells 51::(dfrs Dl++K2))
   repeat' (first|refine d1 ?_|(show ∀ _:Nat,T _ _ _ _ _;intro _))
   rename_i p14
   refine T_le (H':=lrec Lp r::blk p14 v.cells 165::blk q13 [.int .i64 (k:Nat)] 3::blk q12 [.int .i64 (i:Nat)] 3::blk p11 [.slice Ao out.length capo] 24::row 29 1 Ao capo out.length hs::dat hs (out.map intsD)::fz pt::blk pa (addL c (.slice A n ca) (.slice Ak cols.length ck) (.slice At m ct) (.slice (some ⟨g,0,none⟩) (cols.length+1) cap)) 160::blk p10 [.pointer (some ⟨pa,0,none⟩)] 158::blk pk [.slice Ak cols.length ck] 24::blk pl [.slice A n ca] 23::blk pc c.cells 51::(dfrs Dl++K2)) (Hle.perm (List.Perm.swap _ _ _)) ?_
   refine T_begin hr rfl ?_
   obtain⟨Ar1,capr1,hcr1,-,-,hAr1⟩:=hrt.tabRow (tabR_get hb1.1)
   rw [List.length_map,List.length_range] at hcr1 hAr1
   obtain⟨br1,or1,rfl,hbr1⟩:=hAr1 (by omega)
   obtain⟨Ar0,capr0,hcr0,-,-,hAr0⟩:=hrt.tabRow (tabR_get hi)
   rw [List.length_map,List.length_range] at hcr0 hAr0
   obtain⟨br0,or0,rfl,hbr0⟩:=hAr0 (by omega)
   repeat' (first|refine dd ?_|(show T _ (.run _ _ (_::_) _ _::_) _ _ _;first|refine rv rfl rfl rfl (Val.nilc rfl) rfl rfl rfl ?_|refine rv rfl rfl rfl (Val.load rfl (fun hg=>rdFz (p:=pt) (u := .slice (some ⟨br1,or1,none⟩) (m+1) capr1) (b:=g) (by rw [show 0+((i:Int)+v.fst).toNat * 1=0+(i+v.fst) by omega];exact hbt _ _ hcr1))) rfl rfl rfl ?_|refine rv rfl rfl rfl (Val.load rfl (fun hg=>rdFz (p:=pt) (u := .int .i64 (rst (grdA c l cols t) (i+v.fst) (k+v.snd))) (b:=br1) (by rw [show or1+((k:Int)+v.snd).toNat * 1=or1+(k+v.snd) by omega];exact hbr1 _ _ (tabR_cell hb1.2.1)))) rfl rfl rfl ?_|refine rv rfl rfl rfl (Val.load rfl (fun hg=>rdFz (p:=pt) (u := .slice (some ⟨br0,or0,none⟩) (m+1) capr0) (b:=g) (by rw [off1];exact hbt _ _ hcr0))) rfl rfl rfl ?_|refine rv rfl rfl rfl (Val.load rfl (fun hg=>rdFz (p:=pt) (u := .int .i64 (rst (grdA c l cols t) i k)) (b:=br0) (by rw [off1];exact hbr0 _ _ (tabR_cell hk)))) rfl rfl rfl ?_)|fail)
   refine T_if rfl (fun h4=>?_) (fun h4=>?_)
   ·simp only [Bool.not_eq_true',decide_eq_false_iff_not] at h4
    refine T_next (blk q13 [.int .i64 (k:Nat)] 3::blk q12 [.int .i64 (i:Nat)] 3::blk p11 [.slice Ao out.length capo] 24::row 29 1 Ao capo out.length hs::dat hs (out.map intsD)::fz pt::blk pa (addL c (.slice A n ca) (.slice Ak cols.length ck) (.slice At m ct) (.slice (some ⟨g,0,none⟩) (cols.length+1) cap)) 160::blk p10 [.pointer (some ⟨pa,0,none⟩)] 158::blk pk [.slice Ak cols.length ck] 24::blk pl [.slice A n ca] 23::blk pc c.cells 51::dfrs Dl) ⟨rfl,fun j' y hj hy=>?_⟩ (Hle.drop2 _ _ _)
    rcases Nat.lt_or_ge j' jj with h6|h6
    ·exact hno j' y h6 hy
    ·rw [show j'=jj by omega,hv] at hy
     cases hy
     exact h4
   ·simp only [Bool.not_eq_false',decide_eq_true_eq] at h4
    have hf:fstM (grdA c l cols t) i k=some v:=find_at hv (decide_eq_true h4) fun j' y hj hy=>decide_eq_false (hno j' y hj hy)
    repeat' (first|refine d1 ?_|(show T _ (.ops _ (_::_)::_) _ _ _;refine T_callE rfl rfl rfl rfl rfl (fun w hw=>repeatI_spec (-1) (some ⟨_,0,none⟩) 1 (n+1) w (Src.own hw rfl) (by omega)) (fun bc _=>?_))|(show ∀ _:Nat,T _ _ _ _ _;intro _))
    rename_i blit _
    have hb0:(List.replicate (n+1) (Value.int .i64 (-1)))=(noneC l.length++[-1]).map (Value.int .i64):=by
     unfold noneC;rw [List.map_append,List.map_replicate,hn,List.replicate_succ'];rfl
    refine T_le (H':=row 3 1 (some ⟨bc,0,none⟩) (n+1) (n+1) ((noneC l.length++[-1]).map (Value.int .i64))::lrec Lp (busy r)::blk p14 v.cells 165::blk q13 [.int .i64 (k:Nat)] 3::blk q12 [.int .i64 (i:Nat)] 3::blk p11 [.slice Ao out.length capo] 24::row 29 1 Ao capo out.length hs::dat hs (out.map intsD)::fz pt::blk pa (addL c (.slice A n ca) (.slice Ak cols.length ck) (.slice At m ct) (.slice (some ⟨g,0,none⟩) (cols.length+1) cap)) 160::blk p10 [.pointer (some ⟨pa,0,none⟩)] 158::blk pk [.slice Ak cols.length ck] 24::blk pl [.slice A n ca] 23::blk pc c.cells 51::(dfrs Dl++K2)) (by rw [← hb0];exact Hle.drop2 _ _ _) ?_
    refine T_cutX 1 [] (fun _:Unit=>[]) (fun _=>row 3 1 (some ⟨bc,0,none⟩) (n+1) (n+1) (((if v.fst=1 then cols.getD i [] else noneC l.length)++[-1]).map (Value.int .i64))::lrec Lp (busy r)::blk p14 v.cells 165::blk q13 [.int .i64 (k:Nat)] 3::blk q12 [.int .i64 (i:Nat)] 3::blk p11 [.slice Ao out.length capo] 24::row 29 1 Ao capo out.length hs::dat hs (out.map intsD)::fz pt::blk pa (addL c (.slice A n ca) (.slice Ak cols.length ck) (.slice At m ct) (.slice (some ⟨g,0,none⟩) (cols.length+1) cap)) 160::blk p10 [.pointer (some ⟨pa,0,none⟩)] 158::blk pk [.slice Ak cols.length ck] 24::blk pl [.slice A n ca] 23::blk pc c.cells 51::(dfrs Dl++K2)) (fun _=>True) ?_ ?_
    ·refine T_if rfl (fun h5=>?_) (fun h5=>?_)
     ·simp only [decide_eq_true_eq] at h5
      have hv1:v.fst=1:=by omega
      have hin:i<cols.length:=by omega
      rw [if_pos hv1]
      obtain⟨b,o,rfl⟩:=hcs.base (by omega)
      obtain⟨rr,hrr⟩:∃ r,cols[i]?=some r:=⟨_,List.getElem?_eq_getElem hin⟩
      obtain⟨Au,capu,hu,-,-,hA⟩:=hrows.tabRow hrr
      have hrl:rr.length=n:=by rw [(h.hok rr (List.mem_of_getElem? hrr)).1,hn]
      have hr0:RdC w b (o+(i:Int).toNat * 1) [.slice Au n capu]:=by
       have h9:=(hcs.get1 (i:=i) hin hu).2
       rw [Nat.mul_one,hrl] at h9
       rw [off1]
       exact h9
      have hsr:Src w 1 Au n (rr.map (Value.int .i64)):=⟨by rw [List.length_map,hrl,Nat.mul_one],fun h9=>by
       obtain⟨bu,ou,rfl,hbu⟩:=hA (by omega)
       refine ⟨rfl,fun j u hu=>?_⟩
       rw [List.getElem?_map] at hu
       cases hz:rr[j]? with
       | none=>rw [hz] at hu;cases hu
       | some z=>rw [hz] at hu;cases hu;exact hbu j z hz⟩
      have hgd:cols.getD i []=rr:=by rw [List.getD_eq_getElem?_getD,hrr];rfl
      repeat' (first|refine d1 ?_|(show T _ (.ops _ (_::_)::_) _ _ _;refine T_op (OpT.copyR (g:=bc) (k:=n) (us:=rr.map (Value.int .i64)) rfl rfl rfl rfl rfl rfl rfl rfl (by omega) (fun w hw=>src_below hsr hw.below) (oneInts rr) (by rw [List.length_map];omega) ?_))|fail)
      refine T_meetX () trivial (hG:=?_)
      rw [hgd]
      have e9:setL ((noneC l.length++[-1]).map (Value.int .i64)) 0 (rr.map (Value.int .i64))=(rr++[-1]).map (Value.int .i64):=by
       rw [setL_eq _ _ _ (by simp [noneC];omega),List.take_zero,List.nil_append,Nat.zero_add,List.map_append,List.map_append,List.length_map,List.drop_append_of_le_length (by simp [noneC];omega),List.drop_of_length_le (by simp [noneC];omega)]
       simp
      rw [← e9]
      exact Hle.refl _
     ·simp only [decide_eq_false_iff_not] at h5
      rw [if_neg (show ¬ v.fst=1 by omega)]
      exact T_meetX () trivial
    ·rintro⟨⟩ _
     repeat' (first|refine d1 ?_|fail)
     refine T_cutX 1 [] (fun _:Unit=>[]) (fun _=>row 3 1 (some ⟨bc,0,none⟩) (n+1) (n+1) ((colM l.length cols i k v).map (Value.int .i64))::lrec Lp (busy r)::blk p14 v.cells 165::blk q13 [.int .i64 (k:Nat)] 3::blk q12 [.int .i64 (i:Nat)] 3::blk p11 [.slice Ao out.length capo] 24::row 29 1 Ao capo out.length hs::dat hs (out.map intsD)::fz pt::blk pa (addL c (.slice A n ca) (.slice Ak cols.length ck) (.slice At m ct) (.slice (some ⟨g,0,none⟩) (cols.length+1) cap)) 160::blk p10 [.pointer (some ⟨pa,0,none⟩)] 158::blk pk [.slice Ak cols.length ck] 24::blk pl [.slice A n ca] 23::blk pc c.cells 51::(dfrs Dl++K2)) (fun _=>True) ?_ ?_
     ·have hcl:(if v.fst=1 then cols.getD i [] else noneC l.length).length=n:=by
       split
       ·have hin:i<cols.length:=by omega
        rw [List.getD_eq_getElem?_getD,List.getElem?_eq_getElem hin]
        exact (h.hok _ (List.getElem_mem hin)).1.trans hn
       ·simp [noneC,hn]
      refine T_if rfl (fun h5=>?_) (fun h5=>?_)
      ·simp only [decide_eq_true_eq] at h5
       repeat' (first|refine d1 ?_|(show T _ (.ops _ (_::_)::_) _ _ _;refine T_op (OpT.storeR (us:=[.int .i64 (k:Nat)]) rfl rfl rfl rfl rfl rfl (by show 0+(n:Int).toNat * 1+1≤(n+1) * 1;omega) ?_))|fail)
       refine T_meetX () trivial (hG:=?_)
       have e9:setL (((if v.fst=1 then cols.getD i [] else noneC l.length)++[-1]).map (Value.int .i64)) (0+(n:Int).toNat * 1) [.int .i64 (k:Nat)]=(colM l.length cols i k v).map (Value.int .i64):=by
        unfold colM
        rw [if_pos (show v.snd=1 by omega)]
        exact setLast _ _ _ _ hcl
       rw [← e9]
       exact Hle.refl _
      ·simp only [decide_eq_false_iff_not] at h5
       refine T_meetX () trivial (hG:=?_)
       unfold colM
       rw [if_neg (show ¬ v.snd=1 by omega)]
       exact Hle.refl _
     ·rintro⟨⟩ _
      have hov:out.length≤200000:=by omega
      repeat' (first|refine d1 ?_|(show T _ (.ops _ (_::_)::_) _ _ _;refine T_op (OpT.append rfl rfl rfl rfl rfl rfl rfl rfl rfl rfl (fun w hw=>Src.own hw rfl) rfl (by dsimp only;omega) (by omega) (fun A' cap' hA'=>?_)))|(show ∀ _:Nat,T _ _ _ _ _;intro _))
      rename_i blit2
      refine T_le (H':=lrec Lp (busy r)::blk p14 v.cells 165::blk q13 [.int .i64 (k:Nat)] 3::blk q12 [.int .i64 (i:Nat)] 3::blk p11 [.slice A' (out.length+1) cap'] 24::row 29 1 A' cap' (out.length+1) (hs++[(.slice (some ⟨bc,0,none⟩) (n+1) (n+1))])::dat (hs++[(.slice (some ⟨bc,0,none⟩) (n+1) (n+1))]) ((out++[colM l.length cols i k v]).map intsD)::fz pt::blk pa (addL c (.slice A n ca) (.slice Ak cols.length ck) (.slice At m ct) (.slice (some ⟨g,0,none⟩) (cols.length+1) cap)) 160::blk p10 [.pointer (some ⟨pa,0,none⟩)] 158::blk pk [.slice Ak cols.length ck] 24::blk pl [.slice A n ca] 23::blk pc c.cells 51::(dfrs Dl++K2)) ?_ ?_
      ·refine (Hle.srtT (A:=[blk blit2 _ _,row 3 1 (some ⟨bc,0,none⟩) (n+1) (n+1) ((colM l.length cols i k v).map (Value.int .i64)),lrec Lp (busy r),blk p14 v.cells 165,blk q13 [.int .i64 (k:Nat)] 3,blk q12 [.int .i64 (i:Nat)] 3,blk p11 [.slice A' (out.length+1) cap'] 24,row 29 1 A' cap' (out.length+1) (hs++[(.slice (some ⟨bc,0,none⟩) (n+1) (n+1))]),dat hs (out.map intsD)]) (K:=[row 3 1 (some ⟨bc,0,none⟩) (n+1) (n+1) ((colM l.length cols i k v).map (Value.int .i64)),dat hs (out.map intsD),lrec Lp (busy r),blk p14 v.cells 165,blk q13 [.int .i64 (k:Nat)] 3,blk q12 [.int .i64 (i:Nat)] 3,blk p11 [.slice A' (out.length+1) cap'] 24,row 29 1 A' cap' (out.length+1) (hs++[(.slice (some ⟨bc,0,none⟩) (n+1) (n+1))])]) (fz pt::blk pa (addL c (.slice A n ca) (.slice Ak cols.length ck) (.slice At m ct) (.slice (some ⟨g,0,none⟩) (cols.length+1) cap)) 160::blk p10 [.pointer (some ⟨pa,0,none⟩)] 158::blk pk [.slice Ak cols.length ck] 24::blk pl [.slice A n ca] 23::blk pc c.cells 51::(dfrs Dl++K2))).trans ?_
       refine dat_rowV.trans (dat_join.trans ?_)
       have ej:out.map intsD++[D.s 1 (((colM l.length cols i k v).map (Value.int .i64)).map .v)]=(out++[colM l.length cols i k v]).map intsD:=by
        rw [List.map_append,List.map_map];rfl
       rw [ej]
       exact Hle.perm ((List.perm_append_comm (l₁:=[_]) (l₂:=[_,_,_,_,_,_])).append_right (fz pt::blk pa (addL c (.slice A n ca) (.slice Ak cols.length ck) (.slice At m ct) (.slice (some ⟨g,0,none⟩) (cols.length+1) cap)) 160::blk p10 [.pointer (some ⟨pa,0,none⟩)] 158::blk pk [.slice Ak cols.length ck] 24::blk pl [.slice A n ca] 23::blk pc c.cells 51::(dfrs Dl++K2)))
      refine T_keep [(12, .pointer (some ⟨q12,0,none⟩)),(13, .pointer (some ⟨q13,0,none⟩)),(14, .pointer (some ⟨p14,0,none⟩))] ⟨rfl,rfl,rfl,trivial⟩ ?_
      refine T_draw 9 [blk p14 v.cells 165,blk q13 [.int .i64 (k:Nat)] 3] ?_
      refine T_dval 1 rfl (by kernel_rfl) (by kernel_rfl) (by kernel_rfl) (by kernel_rfl) (by kernel_rfl) rfl rfl (by first|exact Val.pure rfl|exact Val.vc rfl (fun hg=>by first|omega|(simp only [inK];omega)|exact True.intro|assumption)|exact Val.load rfl (fun _=>rdOwn1 rfl)|exact Val.loadA rfl (fun _=>rdAll) rfl) rfl rfl rfl (by first|exact Hle.refl _|exact Hle.none _|exact Hle.sub) ?_
      refine T_dval 2 rfl (by kernel_rfl) (by kernel_rfl) (by kernel_rfl) (by kernel_rfl) (by kernel_rfl) rfl rfl (by first|exact Val.pure rfl|exact Val.vc rfl (fun hg=>by first|omega|(simp only [inK];omega)|exact True.intro|assumption)|exact Val.load rfl (fun _=>rdOwn1 rfl)|exact Val.loadA rfl (fun _=>rdAll) rfl) rfl rfl rfl (by first|exact Hle.refl _|exact Hle.none _|exact Hle.sub) ?_
      refine T_dval 4 rfl (by kernel_rfl) (by kernel_rfl) (by kernel_rfl) (by kernel_rfl) (by kernel_rfl) rfl rfl (by first|exact Val.pure rfl|exact Val.vc rfl (fun hg=>by first|omega|(simp only [inK];omega)|exact True.intro|assumption)|exact Val.load rfl (fun _=>rdOwn1 rfl)|exact Val.loadA rfl (fun _=>rdAll) rfl) rfl rfl rfl (by first|exact Hle.refl _|exact Hle.none _|exact Hle.sub) ?_
      refine T_dval 5 rfl (by kernel_rfl) (by kernel_rfl) (by kernel_rfl) (by kernel_rfl) (by kernel_rfl) rfl rfl (by first|exact Val.pure rfl|exact Val.vc rfl (fun hg=>by first|omega|(simp only [inK];omega)|exact True.intro|assumption)|exact Val.load rfl (fun _=>rdOwn1 rfl)|exact Val.loadA rfl (fun _=>rdAll) rfl) rfl rfl rfl (by first|exact Hle.refl _|exact Hle.none _|exact Hle.sub) ?_
      refine T_dval 6 rfl (by kernel_rfl) (by kernel_rfl) (by kernel_rfl) (by kernel_rfl) (by kernel_rfl) rfl rfl (by first|exact Val.pure rfl|exact Val.vc rfl (fun hg=>by first|omega|(simp only [inK];omega)|exact True.intro|assumption)|exact Val.load rfl (fun _=>rdOwn1 rfl)|exact Val.loadA rfl (fun _=>rdAll) rfl) rfl rfl rfl (by first|exact Hle.refl _|exact Hle.none _|exact Hle.sub) ?_
      refine T_dval 7 rfl (by kernel_rfl) (by kernel_rfl) (by kernel_rfl) (by kernel_rfl) (by kernel_rfl) rfl rfl (by first|exact Val.pure rfl|exact Val.vc rfl (fun hg=>by first|omega|(simp only [inK];omega)|exact True.intro|assumption)|exact Val.load rfl (fun _=>rdOwn1 rfl)|exact Val.loadA rfl (fun _=>rdAll) rfl) rfl rfl rfl (by first|exact Hle.refl _|exact Hle.none _|exact Hle.sub) ?_
      refine T_dop 0 (by kernel_rfl) rfl (OpT.ofVal rfl (Val.load rfl (fun _=>rdOwn1 rfl)) rfl rfl rfl ⟨fun _=>Hle.sub,?_⟩)
      refine T_dval 3 rfl (by kernel_rfl) (by kernel_rfl) (by kernel_rfl) (by kernel_rfl) (by kernel_rfl) rfl rfl (by first|exact Val.pure rfl|exact Val.vc rfl (fun hg=>by first|omega|(simp only [inK];omega)|exact True.intro|assumption)|exact Val.load rfl (fun _=>rdOwn1 rfl)|exact Val.loadA rfl (fun _=>rdAll) rfl) rfl rfl rfl (by first|exact Hle.refl _|exact Hle.none _|exact Hle.sub) ?_
      refine T_dop 8 (by kernel_rfl) rfl (OpT.store rfl rfl rfl rfl (by exact Nat.zero_lt_one) ⟨fun _=>Hle.sub,?_⟩)
      refine T_dop 9 (by kernel_rfl) rfl (OpT.store rfl rfl rfl rfl (by exact Nat.zero_lt_one) ⟨fun h=>absurd h (by decide +kernel),?_⟩)
      refine T_dend (by kernel_rfl) ?_
      show T _ (.code (.exit 2)::_) _ _ _
      refine T_rexit (id:=2) (blk q13 [.int .i64 ((k+v.snd:Nat):Int)] 3::blk q12 [.int .i64 ((i+v.fst:Nat):Int)] 3::blk p11 [.slice A' (out.length+1) cap'] 24::row 29 1 A' cap' (out.length+1) (hs++[(.slice (some ⟨bc,0,none⟩) (n+1) (n+1))])::dat (hs++[(.slice (some ⟨bc,0,none⟩) (n+1) (n+1))]) ((out++[colM l.length cols i k v]).map intsD)::fz pt::blk pa (addL c (.slice A n ca) (.slice Ak cols.length ck) (.slice At m ct) (.slice (some ⟨g,0,none⟩) (cols.length+1) cap)) 160::blk p10 [.pointer (some ⟨pa,0,none⟩)] 158::blk pk [.slice Ak cols.length ck] 24::blk pl [.slice A n ca] 23::blk pc c.cells 51::dfrs Dl) (fun _=>rfl) (by exact⟨rfl,v,(A',cap',(.slice (some ⟨bc,0,none⟩) (n+1) (n+1))),hf,rfl⟩) (Hle.drop2 _ _ _)
  ·rintro D Hn ⟨rfl,hno⟩
   exfalso
   rw [stepsV_len] at hno
   obtain⟨fm,hfm⟩:=fstM_ex (G:=grdA c l cols t) (i:=i) (k:=k) (by rw [e1,e2];exact h3')
   obtain⟨hfm1,hfm2⟩:=fstM_mem hfm
   obtain⟨j',hj',e9⟩:=List.getElem_of_mem hfm1
   exact hno j' fm hj' (by rw [List.getElem?_eq_getElem hj',e9]) hfm2
  ·rintro D id Hx ⟨rfl,v,⟨A',cap',hv⟩,hf,rfl⟩
   dsimp only
   obtain⟨hfm1,hfm2⟩:=fstM_mem hf
   obtain⟨jj,hjj,e9⟩:=List.getElem_of_mem hfm1
   have hb1:=h.to hi hk (show (mvs (grdA c l cols t) i k)[jj]?=some v by rw [List.getElem?_eq_getElem hjj,e9])
   have hst:=addV_step hf
   show T (FC _ _ ((D::Dl).map mkD) _ _ _) _ _ _ (dfr D::blk q3 [.int .i64 (k:Nat)] 3::blk q1 [.int .i64 (i:Nat)] 3::blk q2 (addL c (.slice A n ca) (.slice Ak cols.length ck) (.slice At m ct) (.slice (some ⟨g,0,none⟩) (cols.length+1) cap)) 160::blk q13 [.int .i64 ((k+v.snd:Nat):Int)] 3::blk q12 [.int .i64 ((i+v.fst:Nat):Int)] 3::blk p11 [.slice A' (out.length+1) cap'] 24::row 29 1 A' cap' (out.length+1) (hs++[hv])::dat (hs++[hv]) ((out++[colM l.length cols i k v]).map intsD)::fz pt::blk pa (addL c (.slice A n ca) (.slice Ak cols.length ck) (.slice At m ct) (.slice (some ⟨g,0,none⟩) (cols.length+1) cap)) 160::blk p10 [.pointer (some ⟨pa,0,none⟩)] 158::blk pk [.slice Ak cols.length ck] 24::blk pl [.slice A n ca] 23::blk pc c.cells 51::dfrs Dl)
   repeat' (first|refine d1 ?_|(show ∀ _:Nat,T _ _ _ _ _;intro _))
   rename_i n12 n13
   show T _ (.mark _::_) _ _ _
   refine T_backD ((i+v.fst,k+v.snd),(n12,n13),(A',cap'),hs++[hv],out++[colM l.length cols i k v],D::Dl) ⟨hb1.1,hb1.2.1,by dsimp only;rw [List.length_append];simp;omega,by dsimp only;rw [hout,hst,List.append_assoc];rfl⟩ (by dsimp only;omega) rfl (hG:=?_)
   dsimp only
   rw [List.length_append]
   exact Hle.srtT (A:=[blk n13 [.int .i64 ((k+v.snd:Nat):Int)] 3,blk n12 [.int .i64 ((i+v.fst:Nat):Int)] 3,dfr D,blk q3 [.int .i64 (k:Nat)] 3,blk q1 [.int .i64 (i:Nat)] 3,blk q2 (addL c (.slice A n ca) (.slice Ak cols.length ck) (.slice At m ct) (.slice (some ⟨g,0,none⟩) (cols.length+1) cap)) 160,blk q13 [.int .i64 ((k+v.snd:Nat):Int)] 3,blk q12 [.int .i64 ((i+v.fst:Nat):Int)] 3,blk p11 [.slice A' (out.length+1) cap'] 24,row 29 1 A' cap' (out.length+1) (hs++[hv]),dat (hs++[hv]) ((out++[colM l.length cols i k v]).map intsD),fz pt,blk pa (addL c (.slice A n ca) (.slice Ak cols.length ck) (.slice At m ct) (.slice (some ⟨g,0,none⟩) (cols.length+1) cap)) 160,blk p10 [.pointer (some ⟨pa,0,none⟩)] 158,blk pk [.slice Ak cols.length ck] 24,blk pl [.slice A n ca] 23,blk pc c.cells 51]) (K:=[blk n13 [.int .i64 ((k+v.snd:Nat):Int)] 3,blk n12 [.int .i64 ((i+v.fst:Nat):Int)] 3,blk p11 [.slice A' (out.length+1) cap'] 24,row 29 1 A' cap' (out.length+1) (hs++[hv]),dat (hs++[hv]) ((out++[colM l.length cols i k v]).map intsD),fz pt,blk pa (addL c (.slice A n ca) (.slice Ak cols.length ck) (.slice At m ct) (.slice (some ⟨g,0,none⟩) (cols.length+1) cap)) 160,blk p10 [.pointer (some ⟨pa,0,none⟩)] 158,blk pk [.slice Ak cols.length ck] 24,blk pl [.slice A n ca] 23,blk pc c.cells 51,dfr D]) (dfrs Dl)
 ·have h3':¬ (i<cols.length∨k<m):=by simpa using h3
  rw [addV_end (i:=i) (k:=k) (by rw [h.htl];exact h3'),List.append_nil] at hout
  rw [hout]
  repeat' (first|refine d1 ?_|fail)
  refine T_retDs [dat [.slice Ao out.length capo] [rowsD out]] ?_ (rf_V (vs:=[.slice Ao out.length capo, .int .i64 0]) _ rfl (Hle.refl _) ⟨_,trivial,rfl,rfl⟩)
  refine (Hle.tail _ _).trans ((Hle.tail _ _).trans ((Hle.tail _ _).trans (dat_row.trans ?_)))
  exact Hle.srtT (A:=[dat [.slice Ao out.length capo] [.s 1 (out.map intsD)],_,_,_,_,_,_]) (K:=[dat [.slice Ao out.length capo] [.s 1 (out.map intsD)]]) (dfrs Dl)
end Go.Proofs.YtefieebkankfoaaGreatDoor
namespace Go.Proofs.YtefieebkankfoaaGreatDoor
open Go.RowKit Go.Shelf Go.Proofs
set_option maxRecDepth 100000
set_option maxHeartbeats 1000000

def lens (l:List TS):List Nat:=l.map fun t=>t.n
theorem lens_get {l:List TS} {s:Nat} {t:TS} (h:l[s]?=some t):(lens l)[s]?=some t.n:=by unfold lens;rw [List.getElem?_map,h];rfl
theorem lens_len (l:List TS):(lens l).length=l.length:=by simp [lens]
def atC (cols:List (List Int)) (i k s:Nat):Nat:=(srcC (cols.take (if s<k then i+1 else i)) s).length
def PreOk (ls:List Nat) (cols:List (List Int)) (i k:Nat):Prop:=∀ s n,ls[s]?=some n→srcC (cols.take (if s<k then i+1 else i)) s=upto (atC cols i k s)∧atC cols i k s≤n
theorem PreOk.start (ls:List Nat) (cols:List (List Int)):PreOk ls cols 0 0:=fun s n _=>by
 unfold atC
 rw [if_neg (by omega)]
 exact⟨rfl,Nat.zero_le _⟩
theorem atC_zero (cols:List (List Int)) (s:Nat):atC cols 0 0 s=0:=by unfold atC;rw [if_neg (by omega)];rfl
theorem atC_row {cols:List (List Int)} {i n s:Nat} (h:s<n):atC cols i n s=atC cols (i+1) 0 s:=by unfold atC;rw [if_pos h,if_neg (by omega)]
theorem PreOk.row {ls:List Nat} {cols:List (List Int)} {i:Nat} (h:PreOk ls cols i ls.length):PreOk ls cols (i+1) 0:=fun s n hs=>by
 have hl:=(List.getElem?_eq_some_iff.1 hs).1
 have:=h s n hs
 rw [atC_row hl,if_pos hl] at this
 rw [if_neg (by omega)]
 exact this
theorem srcC_take {cols:List (List Int)} {i:Nat} {r:List Int} (h:cols[i]?=some r) (s:Nat):srcC (cols.take (i+1)) s=srcC (cols.take i) s++(if r.getD s (-1) = -1 then [] else [r.getD s (-1)]):=by
 rw [take_snoc _ _ _ h,srcC_app,srcC_cons]
 simp [srcC]
theorem atC_other {cols:List (List Int)} {i k s:Nat} (h:s≠k):atC cols i (k+1) s=atC cols i k s:=by
 unfold atC
 by_cases h1:s<k
 ·rw [if_pos h1,if_pos (by omega)]
 ·rw [if_neg h1,if_neg (by omega)]
theorem atC_gap {cols:List (List Int)} {i k:Nat} {r:List Int} (hr:cols[i]?=some r) (hz:r[k]?=some (-1)):atC cols i (k+1) k=atC cols i k k:=by
 unfold atC
 rw [if_pos (by omega),if_neg (by omega),srcC_take hr,List.getD_eq_getElem?_getD,hz]
 simp
theorem atC_tok {cols:List (List Int)} {i k:Nat} {r:List Int} {z:Int} (hr:cols[i]?=some r) (hz:r[k]?=some z) (h:z ≠ -1):atC cols i (k+1) k=atC cols i k k+1:=by
 unfold atC
 rw [if_pos (by omega),if_neg (by omega),srcC_take hr,List.getD_eq_getElem?_getD,hz]
 simp [h]
theorem PreOk.gap {ls:List Nat} {cols:List (List Int)} {i k:Nat} {r:List Int} (h:PreOk ls cols i k) (hr:cols[i]?=some r) (hz:r[k]?=some (-1)):PreOk ls cols i (k+1):=fun s n hs=>by
 have:=h s n hs
 by_cases e:s=k
 ·subst e
  rw [atC_gap hr hz]
  rw [if_neg (by omega)] at this
  rw [if_pos (by omega),srcC_take hr,List.getD_eq_getElem?_getD,hz]
  simpa using this
 ·rw [atC_other e]
  by_cases h1:s<k
  ·rw [if_pos h1] at this;rw [if_pos (by omega)];exact this
  ·rw [if_neg h1] at this;rw [if_neg (by omega)];exact this
theorem PreOk.tok {ls:List Nat} {cols:List (List Int)} {i k:Nat} {r:List Int} {z:Int} (h:PreOk ls cols i k) (hr:cols[i]?=some r) (hz:r[k]?=some z) (hz0:z ≠ -1) (he:z=(atC cols i k k:Nat)) (hlt:∀ n,ls[k]?=some n→atC cols i k k<n):PreOk ls cols i (k+1):=fun s n hs=>by
 have:=h s n hs
 by_cases e:s=k
 ·subst e
  have hl:=hlt n hs
  rw [atC_tok hr hz hz0]
  rw [if_neg (by omega)] at this
  rw [if_pos (by omega),srcC_take hr,List.getD_eq_getElem?_getD,hz,this.1]
  refine ⟨?_,hl⟩
  simp only [Option.getD_some]
  rw [if_neg hz0,upto_succ,he]
 ·rw [atC_other e]
  by_cases h1:s<k
  ·rw [if_pos h1] at this;rw [if_pos (by omega)];exact this
  ·rw [if_neg h1] at this;rw [if_neg (by omega)];exact this
theorem PreOk.bad {ls:List Nat} {cols:List (List Int)} {i k n:Nat} {r:List Int} {z:Int} (h:PreOk ls cols i k) (hr:cols[i]?=some r) (hz:r[k]?=some z) (hz0:z ≠ -1) (hk:ls[k]?=some n) (hc:ColsOk ls cols):z=(atC cols i k k:Nat)∧atC cols i k k<n:=by
 have h1:=(h k n hk).1
 rw [if_neg (by omega)] at h1
 have h2:=hc.src k n hk
 have h3:srcC cols k=srcC (cols.take i) k++([z]++srcC (cols.drop (i+1)) k):=by
  have e:cols=cols.take (i+1)++cols.drop (i+1):=(List.take_append_drop _ _).symm
  rw [← List.append_assoc]
  conv=>lhs;rw [e,srcC_app,srcC_take hr,List.getD_eq_getElem?_getD,hz]
  simp [hz0]
 rw [h2,h1] at h3
 have h4:(upto n)[atC cols i k k]?=some z:=by
  rw [h3,List.getElem?_append_right (by rw [upto_len];exact Nat.le_refl _),upto_len,Nat.sub_self]
  rfl
 have h5:atC cols i k k<n:=by
  have:=(List.getElem?_eq_some_iff.1 h4).1
  rwa [upto_len] at this
 rw [upto_get h5] at h4
 exact⟨(Option.some.inj h4).symm,h5⟩
theorem PreOk.all {ls:List Nat} {cols:List (List Int)} (h:PreOk ls cols cols.length 0) (hlen:∀ x∈cols,x.length=ls.length) (hsome:∀ x∈cols,∃ z∈x,z ≠ -1) (hn:∀ s n,ls[s]?=some n→atC cols cols.length 0 s=n):ColsOk ls cols:=by
 refine ⟨hlen,hsome,fun s n hs=>?_⟩
 have:=(h s n hs).1
 rw [if_neg (by omega),List.take_of_length_le (Nat.le_refl _),hn s n hs] at this
 exact this
open Classical in
noncomputable def chkC (l:List TS) (cols:List (List Int)):Int:=if l.length=0 then 5 else if ColsOk (lens l) cols then 0 else 19
theorem chkC_ok {l:List TS} {cols:List (List Int)} (h0:l.length≠0) (h:ColsOk (lens l) cols):chkC l cols=0:=by unfold chkC;rw [if_neg h0,if_pos h]
theorem chkC_bad {l:List TS} {cols:List (List Int)} (h0:l.length≠0) (h:¬ ColsOk (lens l) cols):chkC l cols=19:=by unfold chkC;rw [if_neg h0,if_neg h]
theorem chkC_zero {l:List TS} {cols:List (List Int)} (h0:l.length=0):chkC l cols=5:=if_pos h0
theorem rowSrc {w:World} {Au:Option Addr} {r:List Int} (h:0<r.length→∃ b o,Au=some ⟨b,o,none⟩∧∀ (k:Nat) z,r[k]?=some z→wr w b (o+k)=some (.int .i64 z)):Src w 1 Au r.length (r.map (Value.int .i64)):=⟨by rw [List.length_map,Nat.mul_one],fun h9=>by
 obtain⟨bu,ou,rfl,hbu⟩:=h h9
 refine ⟨rfl,fun j u hu=>?_⟩
 rw [List.getElem?_map] at hu
 cases hz:r[j]? with
 | none=>rw [hz] at hu;cases hu
 | some z=>rw [hz] at hu;cases hu;exact hbu j z hz⟩
theorem rowHd {w:World} {b o n i:Nat} {Au:Option Addr} {m cap:Nat} {cs:List Value} (hcs:Src w 1 (some ⟨b,o,none⟩) n cs) (hi:i<n) (hu:cs[i]?=some (.slice Au m cap)):RdC w b (o+(i:Int).toNat * 1) [.slice Au m cap]:=by
 have h9:=(hcs.get1 (i:=i) hi hu).2
 rw [Nat.mul_one] at h9
 rw [off1]
 exact h9
end Go.Proofs.YtefieebkankfoaaGreatDoor
namespace Go.Proofs.YtefieebkankfoaaGreatDoor
open Go.RowKit Go.Shelf Go.Proofs
set_option maxRecDepth 100000
set_option maxHeartbeats 4000000

theorem out_hle {A2 X:Option Addr} {c2 nn Y o:Nat} {cs HS hs:List Value} {cl:List Int} {out:List (List Int)} {J:List HA} (hcs:cs=cl.map (Value.int .i64)) :
  Hle (row 3 1 A2 c2 nn cs::dat hs (out.map intsD)::row 29 1 X Y o HS::J) (row 29 1 X Y o HS::dat (hs++[.slice A2 nn c2]) ((out++[cl]).map intsD)::J):=by
 subst hcs
 refine dat_rowV.trans (dat_join.trans ?_)
 have ej:out.map intsD++[D.s 1 ((cl.map (Value.int .i64)).map .v)]=(out++[cl]).map intsD:=by
  rw [List.map_append,List.map_map];rfl
 rw [ej]
 exact Hle.perm (List.Perm.swap _ _ _)
end Go.Proofs.YtefieebkankfoaaGreatDoor
namespace Go.Proofs.YtefieebkankfoaaGreatDoor
open Go.RowKit Go.Shelf Go.Proofs

def takS (l:List TS) (ord:List Nat) (j:Nat):List TS:=(ord.take j).map (tsA l)
def stgV (c:Costs) (l:List TS) (ord:List Nat):Nat→List (List Int)
 | 0=>[]
 | j+1=>addV c (takS l ord j) (stgV c l ord j) (tsA l (ord.getD j 0)).l 0 0
theorem ord_get {ord:List Nat} {j:Nat} (h:j<ord.length):ord[j]?=some (ord.getD j 0):=by
 rw [List.getD_eq_getElem?_getD,List.getElem?_eq_getElem h];rfl
theorem takS_succ {l:List TS} {ord:List Nat} {j:Nat} (h:j<ord.length):takS l ord (j+1)=takS l ord j++[tsA l (ord.getD j 0)]:=by
 unfold takS;rw [take_snoc _ _ _ (ord_get h),List.map_append];rfl
theorem takS_len {l:List TS} {ord:List Nat} {j:Nat} (h:j≤ord.length):(takS l ord j).length=j:=by
 unfold takS;rw [List.length_map,List.length_take];omega
theorem tsA_mem {l:List TS} {i:Nat} (h:i<l.length):tsA l i∈l:=by
 have e:l[i]?=some l[i]:=List.getElem?_eq_getElem h
 rw [tsA_eq e];exact List.getElem_mem h
theorem takS_mem {l:List TS} {ord:List Nat} (hlt:∀ k∈ord,k<l.length) {j:Nat}:∀ t∈takS l ord j,t∈l:=fun t ht=>by
 unfold takS at ht
 obtain⟨k,hk,rfl⟩:=List.mem_map.1 ht
 exact tsA_mem (hlt k (List.mem_of_mem_take hk))
theorem ord_lt {l:List TS} {ord:List Nat} (hlt:∀ k∈ord,k<l.length) {j:Nat} (h:j<ord.length):ord.getD j 0<l.length:=hlt _ (List.mem_of_getElem? (ord_get h))
theorem lens_app (a b:List TS):lens (a++b)=lens a++lens b:=by unfold lens;rw [List.map_append]
theorem stgV_ok {c:Costs} {l:List TS} {ord:List Nat} (hlt:∀ k∈ord,k<l.length) (hln:∀ t∈l,t.l.length=t.n):∀ j,j≤ord.length→ColsOk (lens (takS l ord j)) (stgV c l ord j)
 | 0,_=>ColsOk.nil
 | j+1,h=>by
  have ih:=stgV_ok (c:=c) hlt hln j (by omega)
  rw [takS_succ (by omega),lens_app]
  have e:=hln _ (tsA_mem (ord_lt hlt (show j<ord.length by omega)))
  have:=addV_ok (c:=c) (l:=takS l ord j) (t:=(tsA l (ord.getD j 0)).l) (by rw [lens_len]) ih
  rw [e] at this
  exact this
theorem stgV_len {c:Costs} {l:List TS} {ord:List Nat} (hlt:∀ k∈ord,k<l.length) {M:Nat} (hln:∀ t∈l,t.l.length≤M):∀ j,j≤ord.length→(stgV c l ord j).length≤j * M
 | 0,_=>Nat.zero_le _
 | j+1,h=>by
  have ih:=stgV_len (c:=c) hlt hln j (by omega)
  have h1:=addV_len c (takS l ord j) (stgV c l ord j) (tsA l (ord.getD j 0)).l
  have h2:=hln _ (tsA_mem (ord_lt hlt (show j<ord.length by omega)))
  rw [Nat.succ_mul]
  show (addV c (takS l ord j) (stgV c l ord j) (tsA l (ord.getD j 0)).l 0 0).length≤_
  omega
theorem badS_tak {l:List TS} {ord:List Nat} (hlt:∀ k∈ord,k<l.length) (h:badS l=false) (j:Nat):badS (takS l ord j)=false:=by
 unfold badS at h ⊢
 rw [List.any_eq_false] at h ⊢
 exact fun t ht=>h t (takS_mem hlt t ht)
theorem Grp.tak {w:World} {A A':Option Addr} {n:Nat} {l:List TS} {ord:List Nat} (hg:Grp w A n l) (hlt:∀ k∈ord,k<l.length) {j:Nat} (hj:j≤ord.length) (hjb:j≤32) (hs:Src w 1 A' j ((takS l ord j).map TS.val)):Grp w A' j (takS l ord j) :=
 ⟨hg.hst,hs,takS_len hj,hjb,⟨fun t ht=>hg.ok.src t (takS_mem hlt t ht),fun t ht=>hg.ok.len t (takS_mem hlt t ht),fun t ht=>hg.ok.bd t (takS_mem hlt t ht)⟩,fun t ht=>hg.nb t (takS_mem hlt t ht),fun t ht=>hg.sm t (takS_mem hlt t ht)⟩
def alnP (c:Costs) (l:List TS):List (List Int):=(stgV c l (orderV (dstT c l) l.length) l.length).map (arrR (orderV (dstT c l) l.length))
def alnA (c:Costs) (l:List TS):List (List Int) × Int:=if ck21 c l=0 then (alnP c l,0) else ([],1)
end Go.Proofs.YtefieebkankfoaaGreatDoor
namespace Go.Proofs.YtefieebkankfoaaGreatDoor
open Go.RowKit Go.Shelf Go.Proofs

theorem pigeon2:∀ (n:Nat) (l:List Nat),l.Nodup→(∀ x∈l,x<n)→l.length≤n
 | 0,l,_,h=>by
  cases l with
  | nil=>simp
  | cons x l=>exact absurd (h x (List.mem_cons_self ..)) (by omega)
 | n+1,l,hd,h=>by
  have h1:=pigeon2 n (l.erase n) (hd.erase n) (fun x hx=>by
   have h2:=(hd.mem_erase_iff).1 hx
   have:=h x h2.2
   have:=h2.1
   omega)
  have h2:l.length≤(l.erase n).length+1:=by
   by_cases hm:n∈l
   ·rw [List.length_erase_of_mem hm];omega
   ·rw [List.erase_of_not_mem hm];omega
  omega
theorem ord_surj {ord:List Nat} {n:Nat} (hd:ord.Nodup) (hlt:∀ x∈ord,x<n) (hl:ord.length=n) {s:Nat} (hs:s<n):∃ k,k<n∧ord.getD k 0=s:=by
 have hm:s∈ord:=Classical.byContradiction fun h=>by
  have:=pigeon2 n (s::ord) (List.nodup_cons.2 ⟨h,hd⟩) (fun x hx=>by
   rcases List.mem_cons.1 hx with rfl|hx
   ·exact hs
   ·exact hlt x hx)
  simp only [List.length_cons] at this
  omega
 obtain⟨k,hk,e⟩:=List.getElem_of_mem hm
 exact⟨k,by omega,by rw [List.getD_eq_getElem?_getD,List.getElem?_eq_getElem hk];exact e⟩
theorem ord_inj {ord:List Nat} (hd:ord.Nodup) {i k:Nat} (hi:i<ord.length) (hk:k<ord.length) (h:ord.getD i 0=ord.getD k 0):i=k:=by
 rw [List.getD_eq_getElem?_getD,List.getElem?_eq_getElem hi,List.getD_eq_getElem?_getD,List.getElem?_eq_getElem hk] at h
 exact (List.getElem_inj hd).1 h
theorem arrJ_get {ord:List Nat} {r:List Int} (hd:ord.Nodup) (hl:ord.length=r.length) (hlt:∀ x∈ord,x<r.length) {k:Nat} (hk:k<r.length):∀ j,j≤r.length→(arrJ ord r j)[ord.getD k 0]?=some (if k<j then r.getD k 0 else 0)
 | 0,_=>by
  have:=hlt _ (List.mem_of_getElem? (ord_get (show k<ord.length by omega)))
  rw [if_neg (by omega),arrJ,List.getElem?_replicate,if_pos this]
 | j+1,h=>by
  have ih:=arrJ_get hd hl hlt hk j (by omega)
  have hj:=hlt _ (List.mem_of_getElem? (ord_get (show j<ord.length by omega)))
  rw [arrJ,List.getElem?_set,arrJ_len]
  by_cases e:ord.getD j 0=ord.getD k 0
  ·have e2:=ord_inj hd (by omega) (by omega) e
   subst e2
   rw [if_pos rfl,if_pos hj,if_pos (by omega)]
  ·rw [if_neg e,ih]
   have:j≠k:=fun h9=>e (by rw [h9])
   by_cases h1:k<j
   ·rw [if_pos h1,if_pos (by omega)]
   ·rw [if_neg h1,if_neg (by omega)]
theorem arrR_len (ord:List Nat) (r:List Int):(arrR ord r).length=r.length:=arrJ_len ord r _
theorem arrR_get {ord:List Nat} {r:List Int} (hd:ord.Nodup) (hl:ord.length=r.length) (hlt:∀ x∈ord,x<r.length) {k:Nat} (hk:k<r.length):(arrR ord r)[ord.getD k 0]?=r[k]?:=by
 unfold arrR
 rw [arrJ_get hd hl hlt hk _ (Nat.le_refl _),if_pos hk,List.getD_eq_getElem?_getD,List.getElem?_eq_getElem hk]
 rfl
theorem arr_ok {ord:List Nat} {n:Nat} (hd:ord.Nodup) (hl:ord.length=n) (hlt:∀ x∈ord,x<n) {ls:List Nat} (hls:ls.length=n) {cols:List (List Int)} (h:ColsOk (ord.map fun k=>ls.getD k 0) cols):ColsOk ls (cols.map (arrR ord)):=by
 have hrl:∀ r∈cols,r.length=n:=fun r hr=>by rw [h.len r hr,List.length_map,hl]
 refine ⟨fun x hx=>?_,fun x hx=>?_,fun s m hs=>?_⟩
 ·obtain⟨r,hr,rfl⟩:=List.mem_map.1 hx
  rw [arrR_len,hrl r hr,hls]
 ·obtain⟨r,hr,rfl⟩:=List.mem_map.1 hx
  obtain⟨z,hz,hz1⟩:=h.some_ r hr
  obtain⟨k,hk,e⟩:=List.getElem_of_mem hz
  have hrn:=hrl r hr
  have:=arrR_get hd (by omega) (fun x hx=>by rw [hrn];exact hlt x hx) hk
  rw [List.getElem?_eq_getElem hk,e] at this
  exact⟨z,List.mem_of_getElem? this,hz1⟩
 ·have hsn:s<n:=by have:=(List.getElem?_eq_some_iff.1 hs).1;omega
  obtain⟨k,hk,rfl⟩:=ord_surj hd hlt hl hsn
  have h1:=h.src k m (by
   rw [List.getElem?_map,ord_get (show k<ord.length by omega)]
   show some (ls.getD (ord.getD k 0) 0)=some m
   rw [List.getD_eq_getElem?_getD,hs]
   rfl)
  rw [← h1]
  unfold srcC
  rw [List.map_map]
  refine congrArg _ (List.map_congr_left fun r hr=>?_)
  have hrn:=hrl r hr
  show (arrR ord r).getD (ord.getD k 0) (-1)=r.getD k (-1)
  rw [List.getD_eq_getElem?_getD,arrR_get hd (by omega) (fun x hx=>by rw [hrn];exact hlt x hx) (by omega),List.getD_eq_getElem?_getD]
theorem lens_ord (l:List TS) {ord:List Nat} (hlt:∀ k∈ord,k<l.length):lens (takS l ord ord.length)=ord.map fun k=>(lens l).getD k 0:=by
 unfold takS lens
 rw [List.take_of_length_le (Nat.le_refl _),List.map_map]
 refine List.map_congr_left fun k hk=>?_
 have e:l[k]?=some (l[k]'(hlt k hk)):=List.getElem?_eq_getElem (hlt k hk)
 show (tsA l k).n=_
 rw [tsA_eq e,List.getD_eq_getElem?_getD,List.getElem?_map,e]
 rfl
theorem alnP_ok {c:Costs} {l:List TS} (h:ck21 c l=0) (hln:∀ t∈l,t.l.length=t.n) (hb:∀ t∈l,t.l.length≤1000):ColsOk (lens l) (alnP c l):=by
 have hbd:=dstT_bd (ck21_ok h).1 hb
 obtain⟨hd,hlt⟩:=orderV_ok (fun i k=>(hbd i k).1) l.length
 have hol:=orderV_len (dstT c l) l.length
 have h1:=stgV_ok (c:=c) hlt hln (orderV (dstT c l) l.length).length (Nat.le_refl _)
 rw [lens_ord l hlt] at h1
 have h2:=arr_ok hd hol hlt (by rw [lens_len]) h1
 unfold alnP
 rw [hol] at h2
 exact h2
end Go.Proofs.YtefieebkankfoaaGreatDoor
namespace Go.Proofs.YtefieebkankfoaaGreatDoor

def sumI (g:Nat→Int):List Nat→Int
 | []=>0
 | x::l=>g x+sumI g l
theorem sumI_congr {g h:Nat→Int}:∀ {l:List Nat},(∀ x∈l,g x=h x)→sumI g l=sumI h l
 | [],_=>rfl
 | y::l,e=>by unfold sumI;rw [e y (List.mem_cons_self ..),sumI_congr (l:=l) fun x hx=>e x (List.mem_cons_of_mem _ hx)]
def pS (g:Nat→Nat→Int):List Nat→Int
 | []=>0
 | a::l=>sumI (fun y=>g y a) l+pS g l
theorem psum_append (f:Nat→Nat→Int) (ps:List (Nat × Nat)):∀ qs:List (Nat × Nat),psum f (ps++qs)=psum f ps+psum f qs:=by
 intro qs
 unfold psum
 rw [List.foldl_append]
 generalize List.foldl (fun s p=>s+f p.1 p.2) 0 ps=z
 have key:∀ (qs:List (Nat × Nat)) (z:Int),qs.foldl (fun s p=>s+f p.1 p.2) z=z+qs.foldl (fun s p=>s+f p.1 p.2) 0:=by
  intro qs
  induction qs with
  | nil=>intro z;simp
  | cons q qs ih=>intro z;simp only [List.foldl_cons];rw [ih,ih (0+f q.1 q.2)];omega
 exact key qs z
theorem psum_rowP (f:Nat→Nat→Int) (k:Nat):∀ i,psum f (rowP i k)=sumI (fun q=>f q k) (List.range i).reverse
 | 0=>rfl
 | i+1=>by
  rw [rowP_succ,psum_snoc,psum_rowP f k i,List.range_succ,List.reverse_append,List.reverse_singleton,List.singleton_append]
  simp only [sumI]
  omega
theorem psum_pS (f:Nat→Nat→Int):∀ n,psum f (pairsL n)=pS f (List.range n).reverse
 | 0=>rfl
 | n+1=>by
  rw [pairsL_succ,psum_append,psum_pS f n,psum_rowP,List.range_succ,List.reverse_append,List.reverse_singleton,List.singleton_append]
  simp only [pS]
  omega
theorem pS_congr {g h:Nat→Nat→Int}:∀ {l:List Nat},(∀ x∈l,∀ y∈l,g x y=h x y)→pS g l=pS h l
 | [],_=>rfl
 | a::l,e=>by
  unfold pS
  rw [pS_congr (l:=l) fun x hx y hy=>e x (List.mem_cons_of_mem _ hx) y (List.mem_cons_of_mem _ hy),sumI_congr (h:=fun y=>h y a) fun x hx=>e x (List.mem_cons_of_mem _ hx) a (List.mem_cons_self ..)]
theorem psum_congr {f g:Nat→Nat→Int} {n:Nat} (h:∀ i k,i<n→k<n→f i k=g i k):psum f (pairsL n)=psum g (pairsL n):=by
 rw [psum_pS,psum_pS]
 refine pS_congr fun i hi k hk=>?_
 rw [List.mem_reverse,List.mem_range] at hi hk
 exact h i k hi hk
theorem flat_set {α:Type} (cells:α→List Value) (sz:Nat) (hsz:∀ t,(cells t).length=sz):∀ (l:List α) (i:Nat) (t:α),i<l.length→setL (l.flatMap cells) (i * sz) (cells t)=(l.set i t).flatMap cells
 | [],i,t,h=>by simp at h
 | x::l,0,t,h=>by
  rw [List.set_cons_zero,List.flatMap_cons,List.flatMap_cons,Nat.zero_mul]
  have key:∀ (us xs ys zs:List Value),us.length=xs.length→setL (zs++xs++ys) zs.length us=zs++us++ys:=by
   intro us
   induction us with
   | nil =>
    intro xs ys zs h
    have e:xs=[]:=List.eq_nil_of_length_eq_zero (by simpa using h.symm)
    subst e;simp [setL]
   | cons u us ih =>
    intro xs ys zs h
    obtain⟨x,xs,rfl⟩:∃ y ys,xs=y::ys:=by cases xs with|nil=>simp at h|cons y ys=>exact⟨y,ys,rfl⟩
    simp only [setL]
    have e:(zs++x::xs++ys).set zs.length u=(zs++[u])++xs++ys:=by
     rw [List.append_assoc,List.set_append_right _ _ (Nat.le_refl _),Nat.sub_self];simp
    rw [e,show zs.length+1=(zs++[u]).length by simp,ih xs ys (zs++[u]) (by simpa using h)]
    simp
  have:=key (cells t) (cells x) (l.flatMap cells) [] (by rw [hsz,hsz])
  simpa using this
 | x::l,i+1,t,h=>by
  rw [List.set_cons_succ,List.flatMap_cons,List.flatMap_cons, ← flat_set cells sz hsz l i t (by simpa using h)]
  have key:∀ (us xs ys:List Value) (k:Nat),setL (xs++ys) (xs.length+k) us=xs++setL ys k us:=by
   intro us
   induction us with
   | nil=>intro xs ys k;rfl
   | cons u us ih =>
    intro xs ys k
    simp only [setL]
    rw [List.set_append_right _ _ (by omega),Nat.add_sub_cancel_left,Nat.add_assoc,ih]
  rw [← key,hsz,Nat.succ_mul,Nat.add_comm sz]
theorem flatTok_set (l:List Tok) (i:Nat) (t:Tok) (h:i<l.length):setL (l.flatMap Tok.cells) (i * 6) t.cells=(l.set i t).flatMap Tok.cells:=flat_set Tok.cells 6 (fun _=>rfl) l i t h
end Go.Proofs.YtefieebkankfoaaGreatDoor
namespace Go.Proofs.YtefieebkankfoaaGreatDoor
open Go.RowKit Go.Shelf Go.Proofs

def zC (c:Costs) (l:List TS) (col:List Int) (i k:Nat):Int:=entC c (tsA l i).l (col.getD i (-1)) (tsA l k).l (col.getD k (-1))
def colZ (c:Costs) (l:List TS) (col:List Int):Int:=psum (zC c l col) (pairsL l.length)
def totZ (c:Costs) (l:List TS) (cols:List (List Int)):Int:=(cols.map (colZ c l)).sum
theorem colZ_bd {c:Costs} (hc:costE c=0) {l:List TS} (hl:l.length≤32) (col:List Int):0≤colZ c l col∧colZ c l col≤1024000:=by
 have h1:=psum_bd (f:=zC c l col) (M:=1000) (by omega) (pairsL l.length) fun p _=>entC_bd hc _ _ _ _
 have h2:=pairsL_len l.length
 have h3:l.length * l.length≤32 * 32:=Nat.mul_le_mul hl hl
 unfold colZ
 omega
theorem columnV_Z {c:Costs} (hc:costE c=0) {l:List TS} (hbs:badS l=false) (hln:∀ t∈l,t.l.length=t.n) (hn:l.length≤32) {col:List Int} (hcol:ColOk l col) {own:List Tok} {th:List Bool} (ho:own.length=l.length) (ht:th.length=l.length)
  (h1:∀ i,i<l.length→thA th i=decide (0≤col.getD i (-1))) (h2:∀ i,i<l.length→0≤col.getD i (-1)→tkA own i=tkA (tsA l i).l (col.getD i (-1)).toNat):columnV c own th=(colZ c l col,0):=by
 have hmem:∀ i,i<l.length→0≤col.getD i (-1)→tkA (tsA l i).l (col.getD i (-1)).toNat∈(tsA l i).l:=fun i hi h0=>by
  have hci:col[i]?=some (col.getD i (-1)):=by rw [List.getD_eq_getElem?_getD,List.getElem?_eq_getElem (by rw [hcol.1];exact hi)];rfl
  have hli:l[i]?=some (tsA l i):=by rw [tsA_eq (List.getElem?_eq_getElem hi)];exact List.getElem?_eq_getElem hi
  have:=hcol.2 i _ _ hci hli
  exact tkA_mem2 h0 (by rw [hln _ (tsA_mem hi)];exact this.2)
 have hbad:badCol own th=false:=badCol_false fun j hj hth=>by
  rw [ho] at hj
  rw [h1 j hj] at hth
  have h0:0≤col.getD j (-1):=of_decide_eq_true hth
  rw [h2 j hj h0]
  exact badS_ok hbs _ (tsA_mem hj) _ (hmem j hj h0)
 unfold columnV colZ
 rw [if_neg (by simp [hc]),if_neg (by omega),if_neg (by omega),if_neg (by rw [hbad];simp),ho]
 refine congrArg (fun x=>(x,(0:Int))) (psum_congr fun i k hi hk=>?_)
 unfold cellC zC entC
 rw [h1 i hi,h1 k hk]
 have e1:=h2 i hi
 have e2:=h2 k hk
 generalize col.getD i (-1)=x at e1 ⊢
 generalize col.getD k (-1)=y at e2 ⊢
 by_cases hi0:0≤x
 ·by_cases hk0:0≤y
  ·rw [e1 hi0,e2 hk0];simp [hi0,hk0]
  ·rw [e1 hi0];simp [hi0,hk0]
 ·by_cases hk0:0≤y
  ·rw [e2 hk0];simp [hi0,hk0]
  ·simp [hi0,hk0]
theorem upto_drop {n p:Nat} (h:p<n):(upto n).drop p=(p:Int)::(upto n).drop (p+1):=by
 rw [List.drop_eq_getElem_cons (by rw [upto_len];exact h)]
 have e:=upto_get h
 rw [List.getElem?_eq_getElem (by rw [upto_len];exact h)] at e
 rw [Option.some.inj e]
end Go.Proofs.YtefieebkankfoaaGreatDoor
namespace Go.Proofs.YtefieebkankfoaaGreatDoor

end Go.Proofs.YtefieebkankfoaaGreatDoor
namespace Go.Proofs.YtefieebkankfoaaGreatDoor
open Go.RowKit Go.Shelf Go.Proofs
set_option maxRecDepth 100000
set_option maxHeartbeats 1000000

theorem srcs19a_spec (t:TS) (w:World):Spec Tryz.prog 112 [t.val] w (fun v R=>v = .bool (decide ((1024:Int)<t.n))∧R=[]):=by
 refine spec_of sg Tryz.func112 rfl rfl rfl ?_
 repeat' (first|refine d1 ?_|(show T _ (.code .ret::_) _ _ _;refine T_retV [] rfl (Hle.refl _) ⟨rfl,rfl⟩))
theorem srcs19_spec (A:Option Addr) (n ca:Nat) (l:List TS) (w:World) (hgp:Grp w A n l):Spec Tryz.prog 75 [.slice A n ca] w (fun v R=>v = .int .i64 (if n=0 then 5 else 0)∧R=[]):=by
 refine spec_of sg Tryz.func75 rfl rfl rfl ?_
 have hb:=hgp.hb
 have hno:(l.any fun t=>decide ((1024:Int)<t.n))=false:=by
  rw [List.any_eq_false]
  intro t ht
  have:=hgp.nb t ht
  simp;omega
 repeat' (first|refine d1 ?_|fail)
 refine T_if rfl (fun h=>?_) (fun h=>?_)
 ·simp only [decide_eq_true_eq] at h
  repeat' (first|refine d1 ?_|(show T _ (.code .ret::_) _ _ _;refine T_retV [] rfl (Hle.refl _) ⟨congrArg (Value.int .i64) (if_pos (by omega)).symm,rfl⟩))
 simp only [decide_eq_false_iff_not] at h
 repeat' (first|refine d1 ?_|(show T _ (.ops _ (_::_)::_) _ _ _;refine T_callC rfl rfl rfl rfl rfl rfl rfl (fun hg w hw=>containsFuncS_spec A n ca l _ [] [] (fun t=>decide ((1024:Int)<t.n)) w (rdSrc hgp.hs w hw) hgp.hn (by omega) (fun x hx w' hb'=>srcs19a_spec x w')) ?_)|fail)
 refine T_if rfl (fun h1=>?_) (fun h1=>?_)
 ·exfalso
  rw [hno] at h1
  simp at h1
  omega
 ·repeat' (first|refine d1 ?_|(show T _ (.code .ret::_) _ _ _;refine T_retV [] rfl (Hle.refl _) ⟨congrArg (Value.int .i64) (if_neg (by omega)).symm,rfl⟩))
theorem usable1_spec (t:Tok) (ht:t.small) (w:World) (hst:Std w):Spec Tryz.prog 113 [t.val] w (fun v A=>v = .bool (!decide (tokE t=0))∧A=[]):=by
 refine spec_of sg Tryz.func113 rfl rfl rfl ?_
 repeat' (first|(show T _ (.ops _ (⟨_, .box _ _,_,_,_,_⟩::_)::_) _ _ _;refine T_op (OpT.box (cs:=t.cells) rfl rfl rfl rfl rfl rfl rfl (fun _=>?_)))|refine d1 ?_|(show T _ (.ops _ (_::_)::_) _ _ _;refine T_call rfl rfl rfl rfl rfl (fun w hw=>tokPrg_spec t ht w (hst.cls hw)) ?_)|(show T _ (.code .ret::_) _ _ _;refine T_retV [] rfl (Hle.none _) ⟨rfl,rfl⟩))
theorem usable2_spec (A:Option Addr) (n c:Nat) (l:List Tok) (p:Nat) (w:World) (hst:Std w) (hs:Src w 6 A n (l.flatMap Tok.cells)) (hn:l.length=n) (hb:n≤9223372036854775807) (hsm:∀ x∈l,x.small) (hp:RdC w p 0 [.func (.func 113) #[] #[]]) :
  Spec Tryz.prog 114 [.slice A n c, .pointer (some ⟨p,0,none⟩)] w (fun v R=>v = .bool (badL l)∧R=[]):=by
 refine spec_of sg Tryz.func114 rfl rfl rfl ?_
 repeat' (first|refine d1 ?_|(show T _ (.ops _ (_::_)::_) _ _ _;refine T_call rfl rfl rfl rfl rfl (fun w hw=>containsFuncT_spec A n c l _ [] [] (fun t => !decide (tokE t=0)) w (rdSrc hs w hw) hn hb (fun x hx w' hb'=>usable1_spec x (hsm x hx) w' (hst.below (hw.below.trans (hb'.mono hw.below.size))))) ?_)|(show T _ (.code .ret::_) _ _ _;refine T_retV [] rfl (Hle.none _) ⟨rfl,rfl⟩))
def usV (c:Costs) (l:List TS):Int:=if l.length=0 then 5 else ck21 c l
theorem usable19_spec (c:Costs) (A:Option Addr) (n ca:Nat) (l:List TS) (w:World) (hgp:Grp w A n l):Spec Tryz.prog 77 [c.val, .slice A n ca] w (fun v R=>v = .int .i64 (usV c l)∧R=[]):=by
 refine spec_of sg Tryz.func77 rfl rfl rfl ?_
 have hn:=hgp.hn
 have hb:=hgp.hb
 repeat' (first|(show T _ (.ops _ (⟨_, .box _ _,_,_,_,_⟩::_)::_) _ _ _;refine T_op (OpT.box (cs:=c.cells) rfl rfl rfl rfl rfl rfl rfl (fun _=>?_)))|refine d1 ?_|(show T _ (.ops _ (_::_)::_) _ _ _;refine T_call rfl rfl rfl rfl rfl (fun w hw=>srcs19_spec A n ca l w (hgp.cls hw)) ?_)|fail)
 refine T_if rfl (fun h=>?_) (fun h=>?_)
 ·simp only [Bool.not_eq_true',decide_eq_false_iff_not] at h
  have h0:n=0:=by
   rcases Nat.eq_zero_or_pos n with h9|h9
   ·exact h9
   ·exact absurd (if_neg (by omega)) h
  rw [if_pos h0]
  repeat' (first|refine d1 ?_|(show T _ (.code .ret::_) _ _ _;refine T_retV [] rfl (Hle.none _) ⟨congrArg (Value.int .i64) (if_pos (by omega)).symm,rfl⟩))
 simp only [Bool.not_eq_false',decide_eq_true_eq] at h
 have h0:n≠0:=fun h9=>by rw [if_pos h9] at h;omega
 clear h
 repeat' (first|refine d1 ?_|(show T _ (.ops _ (_::_)::_) _ _ _;first|refine T_call rfl rfl rfl rfl rfl (fun w hw=>costPrg_spec c w) ?_|refine T_callC rfl rfl rfl rfl rfl rfl rfl (fun hg w hw=>containsFuncS_spec A n ca l _ [] [_] (fun t=>badL t.l) w (rdSrc hgp.hs w hw) hgp.hn (by omega) (fun x hx w' hb'=>usable2_spec x.A x.n x.cap x.l _ w' (hgp.hst.below (hw.below.trans (hb'.mono hw.below.size))) (src_below (hgp.ok.src x hx) (hw.below.trans (hb'.mono hw.below.size))) (hgp.ok.len x hx) (hgp.ok.bd x hx) (hgp.sm x hx) ((rdOwn1 (u := .func (.func 113) #[] #[]) rfl w hw).below hb'))) ?_)|(show ∀ _:Nat,T _ _ _ _ _;intro _))
 refine T_if rfl (fun h1=>?_) (fun h1=>?_)
 ·repeat' (first|refine d1 ?_|(show T _ (.code .ret::_) _ _ _;refine T_retV [] rfl (Hle.none _) ⟨congrArg (Value.int .i64) ?_,rfl⟩))
  unfold usV ck21
  rw [if_neg (by omega),if_neg]
  rintro⟨e1,e2⟩
  unfold badS at e2
  rw [e2] at h1
  simp [e1] at h1
 ·repeat' (first|refine d1 ?_|(show T _ (.code .ret::_) _ _ _;refine T_retV [] rfl (Hle.none _) ⟨congrArg (Value.int .i64) ?_,rfl⟩))
  unfold usV ck21
  rw [if_neg (by omega),if_pos]
  unfold badS
  simpa using h1
noncomputable def okC (l:List TS) (cols:List (List Int)):Bool:=@decide (ColsOk (lens l) cols) (Classical.propDecidable _)
theorem okC_true {l:List TS} {cols:List (List Int)} (h:ColsOk (lens l) cols):okC l cols=true:=by unfold okC;exact @decide_eq_true _ (Classical.propDecidable _) h
theorem okC_false {l:List TS} {cols:List (List Int)} (h:¬ ColsOk (lens l) cols):okC l cols=false:=by unfold okC;exact @decide_eq_false _ (Classical.propDecidable _) h
theorem aligned19_spec (A:Option Addr) (n ca:Nat) (l:List TS) (x:Value) (cols:List (List Int)) (w:World) (hg:Grp w A n l) (hx:Rd (wr w) [x] [rowsD cols]) :
  Spec Tryz.prog 86 [.slice A n ca,x] w (fun v R=>v = .bool (okC l cols)∧R=[]):=by
 obtain⟨Ak,ck,csk,rfl,hck1,hck2,hcs,hrows⟩:=hx.tabS
 have hb:=hg.hb
 have hn:=hg.hn
 refine spec_of sg Tryz.func86 rfl rfl rfl ?_
 have hbad:∀ (H:¬ ColsOk (lens l) cols),okC l cols=false:=fun H=>okC_false H
 repeat' (first|refine d1 ?_|(show T _ (.ops _ (_::_)::_) _ _ _;refine T_op (OpT.make rfl rfl rfl rfl rfl rfl rfl rfl rfl (by dsimp only;omega) (fun b1=>?_)))|fail)
 have hz:List.replicate n (Value.int .i64 0)=valV (fun s=>(atC cols 0 0 s:Nat)) n:=by
  rw [valV_replicate];exact valV_ext fun q _=>by rw [atC_zero];rfl
 refine T_loopX (fun i:Nat=>[(17, .int .i64 i)]) (fun i=>[blk b1 (valV (fun s=>(atC cols i 0 s:Nat)) n) 3]) (fun i=>i≤cols.length∧PreOk (lens l) cols i 0∧(∀ y∈cols.take i,y.length=n)∧∀ y∈cols.take i,∃ z∈y,z ≠ -1) (fun i=>cols.length - i) 0 ⟨Nat.zero_le _,PreOk.start _ _,fun y h=>by simp at h,fun y h=>by simp at h⟩ ?_ (hG:=by rw [← hz];exact Hle.refl _)
 rintro i ⟨hi,hpre,hlen,hsome⟩
 repeat' (first|refine d1 ?_|fail)
 refine T_if rfl (fun h1=>?_) (fun h1=>?_)
 ·simp only [decide_eq_true_eq] at h1
  have hin:i<cols.length:=by omega
  obtain⟨b,o,rfl⟩:=hcs.base (by omega)
  obtain⟨r,hr⟩:∃ r,cols[i]?=some r:=⟨_,List.getElem?_eq_getElem hin⟩
  have hrm:=List.mem_of_getElem? hr
  obtain⟨Au,capu,hu,hcapu,hcapu2,hA⟩:=hrows.tabRow hr
  have hr0:=rowHd hcs hin hu
  have hsr:=rowSrc hA
  repeat' (first|refine d1 ?_|fail)
  refine T_if rfl (fun h2=>?_) (fun h2=>?_)
  ·simp only [Bool.not_eq_true',decide_eq_false_iff_not] at h2
   repeat' (first|refine d1 ?_|(show T _ (.code .ret::_) _ _ _;refine T_retV [] rfl (Hle.none _) ⟨by rw [hbad fun hc=>h2 (by have:=hc.len r hrm;rw [lens_len] at this;omega)];rfl,rfl⟩))
  simp only [Bool.not_eq_false',decide_eq_true_eq] at h2
  have hrl:r.length=n:=by omega
  repeat' (first|refine d1 ?_|fail)
  refine T_loopX (fun k:Nat=>[(28, .int .i64 k),(8, .bool ((r.take k).any fun z=>decide (z ≠ -1)))]) (fun k=>[blk b1 (valV (fun s=>(atC cols i k s:Nat)) n) 3]) (fun k=>k≤n∧PreOk (lens l) cols i k) (fun k=>n - k) 0 ⟨Nat.zero_le _,hpre⟩ ?_
  rintro k ⟨hk,hp⟩
  repeat' (first|refine d1 ?_|fail)
  refine T_if rfl (fun h3=>?_) (fun h3=>?_)
  ·simp only [decide_eq_true_eq] at h3
   have hkn:k<n:=by omega
   obtain⟨bu,ou,rfl⟩:=hsr.base (by omega)
   obtain⟨z,hzk⟩:∃ z,r[k]?=some z:=⟨_,List.getElem?_eq_getElem (by omega)⟩
   have hr1:=src_int hsr (by omega) hzk
   have htk:=take_snoc _ _ _ hzk
   repeat' (first|refine d1 ?_|fail)
   refine T_if rfl (fun h4=>?_) (fun h4=>?_)
   ·simp only [decide_eq_true_eq] at h4
    subst h4
    repeat' (first|refine d1 ?_|fail)
    refine T_backX (k+1) ⟨hkn,hp.gap hr hzk⟩ (by omega) (hE:=⟨rfl,by rw [show ((r.take (k+1)).any fun z=>decide (z ≠ -1))=(r.take k).any fun z=>decide (z ≠ -1) by rw [htk,List.any_append];simp];rfl,trivial⟩) (hG:=?_)
    have e:valV (fun s=>(atC cols i (k+1) s:Nat)) n=valV (fun s=>(atC cols i k s:Nat)) n:=valV_ext fun q _=>by
     by_cases e:q=k
     ·rw [e,atC_gap hr hzk]
     ·rw [atC_other e]
    rw [e]
    exact Hle.refl _
   simp only [decide_eq_false_iff_not] at h4
   obtain⟨bs,os,rfl⟩:=hg.hs.base (by omega)
   obtain⟨t,ht,htm,hrt⟩:=hg.get hkn
   have htb:=hg.nb t htm
   repeat' (first|refine d1 ?_|(show T _ (.ops _ (_::_)::_) _ _ _;refine T_val rfl (Val.load rfl (fun hg=>rdOwn1 (b:=b1) (u := .int .i64 (atC cols i k k:Nat)) (by rw [show 0+(k:Int).toNat * 1=k by omega];exact valV_get hkn))) rfl rfl rfl ?_)|fail)
   refine T_if rfl (fun h5=>?_) (fun h5=>?_)
   ·simp only [Bool.or_eq_true,Bool.not_eq_true',decide_eq_false_iff_not,decide_eq_true_eq] at h5
    repeat' (first|refine d1 ?_|(show T _ (.code .ret::_) _ _ _;refine T_retV [] rfl (Hle.none _) ⟨by rw [hbad fun hc=>by have:=hp.bad hr hzk h4 (lens_get ht) hc;omega];rfl,rfl⟩))
   simp only [Bool.or_eq_false_iff,Bool.not_eq_false',decide_eq_true_eq,decide_eq_false_iff_not] at h5
   repeat' (first|refine d1 ?_|(show T _ (.ops _ (_::_)::_) _ _ _;first|refine T_val rfl (Val.load rfl (fun hg=>rdOwn1 (b:=b1) (u := .int .i64 (atC cols i k k:Nat)) (by rw [show 0+(k:Int).toNat * 1=k by omega];exact valV_get hkn))) rfl rfl rfl ?_|refine T_op (OpT.store rfl rfl rfl rfl (by rw [valV_length];omega) ?_))|fail)
   refine T_backX (k+1) ⟨hkn,hp.tok hr hzk h4 h5.1 (fun m hm=>by rw [lens_get ht] at hm;cases hm;omega)⟩ (by omega) (hE:=⟨rfl,by rw [show ((r.take (k+1)).any fun z=>decide (z ≠ -1))=true by rw [htk,List.any_append];simp [h4]];rfl,trivial⟩) (hG:=?_)
   rw [show 0+(k:Int).toNat * 1=k by omega,valV_put]
   have e:valV (fun s=>(atC cols i (k+1) s:Nat)) n=valV (fun q=>if q=k then (atC cols i k k:Int)+1 else (atC cols i k q:Nat)) n:=valV_ext fun q _=>by
    by_cases e:q=k
    ·subst e;rw [if_pos rfl,atC_tok hr hzk h4];rfl
    ·rw [if_neg e,atC_other e]
   rw [e]
   exact Hle.refl _
  ·simp only [decide_eq_false_iff_not] at h3
   obtain rfl:k=n:=by omega
   rw [List.take_of_length_le (by omega)]
   repeat' (first|refine d1 ?_|fail)
   refine T_if rfl (fun h4=>?_) (fun h4=>?_)
   ·simp only [Bool.not_eq_true'] at h4
    repeat' (first|refine d1 ?_|(show T _ (.code .ret::_) _ _ _;refine T_retV [] rfl (Hle.none _) ⟨by rw [hbad fun hc=>by obtain⟨z,hz1,hz2⟩:=hc.some_ r hrm;rw [List.any_eq_false] at h4;exact h4 z hz1 (by simpa using hz2)];rfl,rfl⟩))
   simp only [Bool.not_eq_false'] at h4
   rw [List.any_eq_true] at h4
   obtain⟨z,hz1,hz2⟩:=h4
   repeat' (first|refine d1 ?_|fail)
   have htk:=take_snoc _ _ _ hr
   refine T_backX (i+1) ⟨hin,PreOk.row (by rw [lens_len,hn];exact hp),fun y hy=>?_,fun y hy=>?_⟩ (by omega) (hG:=?_)
   ·rw [htk,List.mem_append,List.mem_singleton] at hy
    rcases hy with hy|rfl
    ·exact hlen y hy
    ·exact hrl
   ·rw [htk,List.mem_append,List.mem_singleton] at hy
    rcases hy with hy|rfl
    ·exact hsome y hy
    ·exact⟨z,hz1,by simpa using hz2⟩
   ·have e:valV (fun s=>(atC cols i k s:Nat)) k=valV (fun s=>(atC cols (i+1) 0 s:Nat)) k:=valV_ext fun q hq=>by rw [atC_row hq]
    rw [e]
    exact Hle.refl _
 simp only [decide_eq_false_iff_not] at h1
 obtain rfl:i=cols.length:=by omega
 rw [List.take_of_length_le (Nat.le_refl _)] at hlen hsome
 repeat' (first|refine d1 ?_|fail)
 refine T_loopX (fun k:Nat=>[(62, .int .i64 k)]) (fun _=>[blk b1 (valV (fun s=>(atC cols cols.length 0 s:Nat)) n) 3]) (fun k=>k≤n∧∀ s m,s<k→(lens l)[s]?=some m→atC cols cols.length 0 s=m) (fun k=>n - k) 0 ⟨Nat.zero_le _,fun s m h=>by omega⟩ ?_
 rintro k ⟨hk,hall⟩
 repeat' (first|refine d1 ?_|fail)
 refine T_if rfl (fun h3=>?_) (fun h3=>?_)
 ·simp only [decide_eq_true_eq] at h3
  have hkn:k<n:=by omega
  obtain⟨bs,os,rfl⟩:=hg.hs.base (by omega)
  obtain⟨t,ht,htm,hrt⟩:=hg.get hkn
  repeat' (first|refine d1 ?_|refine dd ?_|(show T _ (.run _ _ (_::_) _ _::_) _ _ _;refine rv rfl rfl rfl (Val.load rfl (fun hg=>rdOwn1 (b:=b1) (u := .int .i64 (atC cols cols.length 0 k:Nat)) (by rw [show 0+(k:Int).toNat * 1=k by omega];exact valV_get hkn))) rfl rfl rfl ?_)|fail)
  refine T_if rfl (fun h4=>?_) (fun h4=>?_)
  ·simp only [Bool.not_eq_true',decide_eq_false_iff_not] at h4
   repeat' (first|refine d1 ?_|(show T _ (.code .ret::_) _ _ _;refine T_retV [] rfl (Hle.none _) ⟨by rw [hbad fun hc=>h4 (by have h5:=hc.src k t.n (lens_get ht);have h6:=(hpre k t.n (lens_get ht)).1;rw [if_neg (by omega),List.take_of_length_le (Nat.le_refl _),h5] at h6;have:=congrArg List.length h6;rw [upto_len,upto_len] at this;omega)];rfl,rfl⟩))
  simp only [Bool.not_eq_false',decide_eq_true_eq] at h4
  repeat' (first|refine d1 ?_|fail)
  refine T_backX (k+1) ⟨hkn,fun s m hs hm=>?_⟩ (by omega)
  rcases Nat.lt_or_ge s k with h5|h5
  ·exact hall s m h5 hm
  ·rw [show s=k by omega] at hm ⊢
   rw [lens_get ht] at hm
   cases hm
   omega
 ·simp only [decide_eq_false_iff_not] at h3
  have hok:ColsOk (lens l) cols:=hpre.all (fun y hy=>by rw [lens_len,hn];exact hlen y hy) hsome fun s m hm=>hall s m (by have:=(List.getElem?_eq_some_iff.1 hm).1;rw [lens_len] at this;omega) hm
  repeat' (first|refine d1 ?_|(show T _ (.code .ret::_) _ _ _;refine T_retV [] rfl (Hle.none _) ⟨by rw [okC_true hok];rfl,rfl⟩))
theorem chkC_okC {l:List TS} {cols:List (List Int)} (h0:l.length≠0):chkC l cols=if okC l cols=true then 0 else 19:=by
 by_cases h:ColsOk (lens l) cols
 ·rw [chkC_ok h0 h,okC_true h];rfl
 ·rw [chkC_bad h0 h,okC_false h];rfl
theorem check19_spec (A:Option Addr) (n ca:Nat) (l:List TS) (x:Value) (cols:List (List Int)) (w:World) (hg:Grp w A n l) (hx:Rd (wr w) [x] [rowsD cols]) :
  Spec Tryz.prog 56 [.slice A n ca,x] w (fun v R=>v = .int .i64 (chkC l cols)∧R=[]):=by
 have hn:=hg.hn
 refine spec_of sg Tryz.func56 rfl rfl rfl ?_
 repeat' (first|refine d1 ?_|(show T _ (.ops _ (_::_)::_) _ _ _;refine T_call rfl rfl rfl rfl rfl (fun w hw=>srcs19_spec A n ca l w (hg.cls hw)) ?_)|fail)
 refine T_if rfl (fun h=>?_) (fun h=>?_)
 ·simp only [Bool.not_eq_true',decide_eq_false_iff_not] at h
  have h0:n=0:=by
   rcases Nat.eq_zero_or_pos n with h9|h9
   ·exact h9
   ·exact absurd (if_neg (by omega)) h
  rw [if_pos h0]
  repeat' (first|refine d1 ?_|(show T _ (.code .ret::_) _ _ _;refine T_retV [] rfl (Hle.refl _) ⟨by rw [chkC_zero (by omega)];rfl,rfl⟩))
 simp only [Bool.not_eq_false',decide_eq_true_eq] at h
 have h0:n≠0:=fun h9=>by rw [if_pos h9] at h;omega
 clear h
 repeat' (first|refine d1 ?_|(show T _ (.ops _ (_::_)::_) _ _ _;refine T_call rfl rfl rfl rfl rfl (fun w hw=>aligned19_spec A n ca l x cols w (hg.cls hw) (hx.old hw)) ?_)|fail)
 refine T_if rfl (fun h1=>?_) (fun h1=>?_)
 ·repeat' (first|refine d1 ?_|(show T _ (.code .ret::_) _ _ _;refine T_retV [] rfl (Hle.refl _) ⟨by rw [chkC_okC (by omega),if_neg (by simpa using h1)];rfl,rfl⟩))
 ·repeat' (first|refine d1 ?_|(show T _ (.code .ret::_) _ _ _;refine T_retV [] rfl (Hle.refl _) ⟨by rw [chkC_okC (by omega),if_pos (by simpa using h1)];rfl,rfl⟩))
end Go.Proofs.YtefieebkankfoaaGreatDoor
namespace Go.Proofs.YtefieebkankfoaaGreatDoor
open Go.RowKit Go.Shelf Go.Proofs

structure Co where
 sec:ByteArray
 sg:List ByteArray
 m:List (List Tok)
 cols:List (List Int)
def lens22 (m:List (List Tok)):List Nat:=m.map List.length
theorem lens22_of {l:List TS} (hln:∀ t∈l,t.l.length=t.n):lens l=lens22 (l.map TS.l):=by
 unfold lens lens22
 rw [List.map_map]
 exact List.map_congr_left fun t ht=>(hln t ht).symm
def siglum22 (s:ByteArray):Bool:=if 0<s.size∧byteAt s ((s.size:Int) - 1)=42 then isNameB (s.extract 0 (s.size - 1)) && decide (s.size≤16) else isNameB s
def has22 (pre:List ByteArray) (s:ByteArray):Bool:=pre.any fun y=>decide (s=y)
theorem has22_iff {pre:List ByteArray} {s:ByteArray}:has22 pre s=true↔s∈pre:=by
 unfold has22
 rw [List.any_eq_true]
 constructor
 ·rintro⟨y,hy,e⟩;rw [decide_eq_true_eq] at e;rw [e];exact hy
 ·intro h;exact⟨s,h,decide_eq_true rfl⟩
def sgE22 (pre:List ByteArray):List ByteArray→Int
 | []=>0
 | s::r=>if siglum22 s=false then 14 else if has22 pre s=true then 7 else sgE22 (pre++[s]) r
theorem sgE22_step {sg:List ByteArray} {i:Nat} {s:ByteArray} (h:sg[i]?=some s):sgE22 (sg.take i) (sg.drop i)=if siglum22 s=false then 14 else if has22 (sg.take i) s=true then 7 else sgE22 (sg.take (i+1)) (sg.drop (i+1)):=by
 obtain⟨hl,e⟩:=List.getElem?_eq_some_iff.1 h
 rw [List.drop_eq_getElem_cons hl,e,take_snoc _ _ _ h]
 rfl
theorem sgE22_end {sg:List ByteArray} {i:Nat} (h:sg.length≤i):sgE22 (sg.take i) (sg.drop i)=0:=by
 rw [List.drop_eq_nil_of_le h];rfl
theorem sgE22_zero:∀ {sg pre:List ByteArray},sgE22 pre sg=0→(∀ s∈sg,siglum22 s=true∧s ∉ pre)∧sg.Nodup
 | [],_,_=>⟨fun s h=>(by cases h),List.nodup_nil⟩
 | s::r,pre,h=>by
  unfold sgE22 at h
  by_cases h1:siglum22 s=false
  ·rw [if_pos h1] at h;omega
  ·rw [if_neg h1] at h
   by_cases h2':has22 pre s=true
   ·rw [if_pos h2'] at h;omega
   ·rw [if_neg h2'] at h
    have h2:s ∉ pre:=fun hm=>h2' (has22_iff.2 hm)
    obtain⟨h3,h4⟩:=sgE22_zero h
    refine ⟨fun x hx=>?_,List.nodup_cons.2 ⟨fun hm=>(h3 s hm).2 (by simp),h4⟩⟩
    rcases List.mem_cons.1 hx with rfl|hx
    ·exact⟨by simpa using h1,h2⟩
    ·exact⟨(h3 x hx).1,fun hm=>(h3 x hx).2 (List.mem_append_left _ hm)⟩
theorem sgE22_of:∀ {sg pre:List ByteArray},(∀ s∈sg,siglum22 s=true∧s ∉ pre)→sg.Nodup→sgE22 pre sg=0
 | [],_,_,_=>rfl
 | s::r,pre,h,hn=>by
  obtain⟨h1,h2⟩:=h s (.head _)
  obtain⟨h3,h4⟩:=List.nodup_cons.1 hn
  unfold sgE22
  rw [if_neg (by rw [h1];simp),if_neg (fun hh=>h2 (has22_iff.1 hh))]
  refine sgE22_of (fun x hx=>⟨(h x (.tail _ hx)).1,fun hm=>?_⟩) h4
  rcases List.mem_append.1 hm with hm|hm
  ·exact (h x (.tail _ hx)).2 hm
  ·rw [List.mem_singleton] at hm
   subst hm
   exact h3 hx
def tkE22:List (List Tok)→Int
 | []=>0
 | l::r=>if 1024<l.length then 4 else if badL l=true then 1 else tkE22 r
theorem tkE22_step {m:List (List Tok)} {i:Nat} {l:List Tok} (h:m[i]?=some l):tkE22 (m.drop i)=if 1024<l.length then 4 else if badL l=true then 1 else tkE22 (m.drop (i+1)):=by
 obtain⟨hl,e⟩:=List.getElem?_eq_some_iff.1 h
 rw [List.drop_eq_getElem_cons hl,e]
 rfl
theorem tkE22_zero:∀ {m:List (List Tok)},tkE22 m=0↔∀ l∈m,l.length≤1024∧badL l=false
 | []=>⟨fun _ l h=>(by cases h),fun _=>rfl⟩
 | l::r=>by
  rw [List.forall_mem_cons, ← tkE22_zero (m:=r)]
  show (if 1024<l.length then (4:Int) else if badL l=true then 1 else tkE22 r)=0↔_
  by_cases h1:1024<l.length
  ·rw [if_pos h1];exact⟨fun h=>by omega,fun h=>by have:=h.1.1;omega⟩
  ·rw [if_neg h1]
   by_cases h2:badL l=true
   ·rw [if_pos h2];exact⟨fun h=>by omega,fun h=>by rw [h.1.2] at h2;cases h2⟩
   ·rw [if_neg h2]
    exact⟨fun h=>⟨⟨by omega,by simpa using h2⟩,h⟩,fun h=>h.2⟩
def head22 (sec:ByteArray) (sg:List ByteArray) (m:List (List Tok)):Int :=
 if isNameB sec=false then 14 else if sg.length=0 then 5 else if 32<sg.length then 4 else if sgE22 [] sg≠0 then sgE22 [] sg else if m.length≠sg.length then 9 else tkE22 m
structure Head22 (sec:ByteArray) (sg:List ByteArray) (m:List (List Tok)):Prop where
 sec:isNameB sec=true
 pos:1≤sg.length
 le:sg.length≤32
 sig:∀ s∈sg,siglum22 s=true
 nod:sg.Nodup
 len:m.length=sg.length
 tok:∀ l∈m,l.length≤1024∧badL l=false
theorem head22_iff {sec:ByteArray} {sg:List ByteArray} {m:List (List Tok)}:head22 sec sg m=0↔Head22 sec sg m:=by
 unfold head22
 constructor
 ·intro h
  by_cases h1:isNameB sec=false
  ·rw [if_pos h1] at h;omega
  rw [if_neg h1] at h
  by_cases h2:sg.length=0
  ·rw [if_pos h2] at h;omega
  rw [if_neg h2] at h
  by_cases h3:32<sg.length
  ·rw [if_pos h3] at h;omega
  rw [if_neg h3] at h
  by_cases h4:sgE22 [] sg≠0
  ·rw [if_pos h4] at h;exact absurd h h4
  rw [if_neg h4] at h
  by_cases h5:m.length≠sg.length
  ·rw [if_pos h5] at h;omega
  rw [if_neg h5] at h
  obtain⟨g1,g2⟩:=sgE22_zero (Classical.not_not.1 h4)
  exact⟨by simpa using h1,by omega,by omega,fun s hs=>(g1 s hs).1,g2,by omega,tkE22_zero.1 h⟩
 ·rintro⟨h1,h2,h3,h4,h5,h6,h7⟩
  have e:=sgE22_of (pre:=[]) (fun s hs=>⟨h4 s hs,by simp⟩) h5
  rw [if_neg (by rw [h1];simp),if_neg (by omega),if_neg (by omega),e,if_neg (by simp),if_neg (by omega)]
  exact tkE22_zero.2 h7
open Classical in
noncomputable def chk22 (x:Co):Int:=if head22 x.sec x.sg x.m≠0 then head22 x.sec x.sg x.m else if ColsOk (lens22 x.m) x.cols then 0 else 19
structure Ok22 (x:Co):Prop where
 head:Head22 x.sec x.sg x.m
 cols:ColsOk (lens22 x.m) x.cols
theorem chk22_iff {x:Co}:chk22 x=0↔Ok22 x:=by
 unfold chk22
 constructor
 ·intro h
  by_cases h1:head22 x.sec x.sg x.m≠0
  ·rw [if_pos h1] at h;exact absurd h h1
  rw [if_neg h1] at h
  by_cases h2:ColsOk (lens22 x.m) x.cols
  ·exact⟨head22_iff.1 (Classical.not_not.1 h1),h2⟩
  ·rw [if_neg h2] at h;omega
 ·rintro⟨h1,h2⟩
  rw [if_neg (by rw [head22_iff.2 h1];simp),if_pos h2]
def big22 (t:Tok):Bool:=decide (12<t.text.size) || decide (12<t.norm.size) || decide (20<t.page.size) || decide (20<t.name.size)
def grL22 (i n:Nat):List (List Tok)→Bool
 | []=>decide (400<n)
 | l::r=>(decide (6<l.length) || (decide (4≤i) && decide (1<l.length)) || l.any big22) || grL22 (i+1) (if i<4 then n * (l.length+1) else n) r
def grT22 (m:List (List Tok)):Bool:=grL22 0 1 m || (decide (6<m.length∧m.length≤32) || decide (34<m.length))
theorem grL22_no:∀ {m:List (List Tok)} {i n:Nat},grL22 i n m=false→∀ l∈m,l.length≤6∧∀ t∈l,t.small
 | [],_,_,_,l,hl=>by cases hl
 | l::r,i,n,h,x,hx=>by
  unfold grL22 at h
  simp only [Bool.or_eq_false_iff,decide_eq_false_iff_not] at h
  obtain⟨⟨⟨h1,-⟩,h3⟩,h4⟩:=h
  rcases List.mem_cons.1 hx with rfl|hx
  ·refine ⟨by omega,fun t ht=>?_⟩
   have h5:=(List.any_eq_false.1 h3) t ht
   simp only [big22,Bool.or_eq_true,decide_eq_true_eq,not_or] at h5
   exact⟨by omega,by omega,by omega,by omega⟩
  ·exact grL22_no h4 x hx
theorem grL22_txt:∀ {m:List (List Tok)} {i n:Nat},grL22 i n m=false→∀ l∈m,∀ t∈l,t.text.size≤12
 | [],_,_,_,l,hl=>by cases hl
 | l::r,i,n,h,x,hx=>by
  unfold grL22 at h
  simp only [Bool.or_eq_false_iff,decide_eq_false_iff_not] at h
  obtain⟨⟨⟨h1,-⟩,h3⟩,h4⟩:=h
  rcases List.mem_cons.1 hx with rfl|hx
  ·intro t ht
   have h5:=(List.any_eq_false.1 h3) t ht
   simp only [big22,Bool.or_eq_true,decide_eq_true_eq,not_or] at h5
   omega
  ·exact grL22_txt h4 x hx
theorem grT22_txt {m:List (List Tok)} (h:grT22 m=false):∀ l∈m,∀ t∈l,t.text.size≤12:=by
 unfold grT22 at h
 simp only [Bool.or_eq_false_iff] at h
 exact grL22_txt h.1
theorem grT22_no {m:List (List Tok)} (h:grT22 m=false):(∀ l∈m,l.length≤6∧∀ t∈l,t.small)∧(m.length≤6∨32<m.length∧m.length≤34):=by
 unfold grT22 at h
 simp only [Bool.or_eq_false_iff,decide_eq_false_iff_not] at h
 exact⟨grL22_no h.1,by omega⟩
def grN22 (sec:ByteArray) (sg:List ByteArray):Bool:=sg.any (fun s=>decide (20<s.size)) || decide (20<sec.size)
def great22 (x:Co):Bool:=x.cols.any (fun c=>decide (36<c.length)) || (grT22 x.m || (decide (24<x.cols.length) || (decide (36<x.sg.length) || grN22 x.sec x.sg)))
structure Small22 (x:Co):Prop where
 tok:∀ l∈x.m,l.length≤6∧∀ t∈l,t.small
 len:x.m.length≤6∨32<x.m.length∧x.m.length≤34
 wide:∀ c∈x.cols,c.length≤36
 cols:x.cols.length≤24
 sg:x.sg.length≤36
 sig:∀ s∈x.sg,s.size≤20
 sec:x.sec.size≤20
 txt:∀ l∈x.m,∀ t∈l,t.text.size≤12
theorem great22_no {x:Co} (h:great22 x=false):Small22 x:=by
 unfold great22 grN22 at h
 simp only [Bool.or_eq_false_iff,decide_eq_false_iff_not,List.any_eq_false,decide_eq_true_eq] at h
 obtain⟨h1,h2,h3,h4,h5,h6⟩:=h
 obtain⟨g1,g2⟩:=grT22_no h2
 exact⟨g1,g2,fun c hc=>by have:=h1 c hc;omega,by omega,by omega,fun s hs=>by have:=h5 s hs;omega,by omega,grT22_txt h2⟩
end Go.Proofs.YtefieebkankfoaaGreatDoor
namespace Go.Proofs.YtefieebkankfoaaGreatDoor
open Go.RowKit Go.Shelf Go.Proofs

def txt22 (l:List Tok) (z:Int):ByteArray:=if z<0 then ByteArray.empty else match l[z.toNat]? with|some t=>t.text|none=>ByteArray.empty
def cell22 (x:Co) (k i:Nat):ByteArray:=txt22 (x.m.getD k []) ((x.cols.getD i []).getD k (-1))
def col22 (x:Co) (i:Nat):List ByteArray:=(List.range x.sg.length).map fun k=>cell22 x k i
def words22 (x:Co) (i:Nat):List ByteArray:=(x.m.getD i []).map Tok.text
theorem col22_len (x:Co) (i:Nat):(col22 x i).length=x.sg.length:=by simp [col22]
theorem col22_get {x:Co} {i k:Nat} (h:k<x.sg.length):(col22 x i)[k]?=some (cell22 x k i):=by simp [col22,h]
noncomputable def textV22 (x:Co) (i:Int):List ByteArray × Int:=if chk22 x≠0 then ([],1) else if i<0∨(x.sg.length:Int)≤i then ([],2) else (words22 x i.toNat,0)
def co0:Co:=⟨ByteArray.empty,[],[],[]⟩
def at22 (x:Co) (s:Nat) (z:Int):Int:=findI (fun c=>decide (c.getD s (-1)=z)) x.cols
noncomputable def findV22 (x:Co) (s k:Int):Int × Int:=if chk22 x≠0 then (0,1) else if (s<0∨(x.sg.length:Int)≤s)∨(k<0∨((x.m.getD s.toNat []).length:Int)≤k) then (0,2) else (at22 x s.toNat k,0)
def cells22 (l:List ByteArray):List UInt8:=l.flatMap fun t=>124::t.data.toList
def line22 (s:ByteArray) (l:List ByteArray):List UInt8:=s.data.toList++cells22 l++[10]
def row22 (x:Co) (k:Nat):List ByteArray:=(List.range x.cols.length).map fun i=>cell22 x k i
def print22 (x:Co):List UInt8:=(List.range x.sg.length).flatMap fun k=>line22 (x.sg.getD k ByteArray.empty) (row22 x k)
noncomputable def printV22 (x:Co):ByteArray × Int:=if chk22 x≠0 then (ByteArray.empty,1) else if 65536<(print22 x).length then (ByteArray.empty,4) else (⟨(print22 x).toArray⟩,0)
def same22 (x y:Co):Bool:=decide (x.sec=y.sec) && (decide (x.sg=y.sg) && (decide (x.m=y.m) && decide (x.cols=y.cols)))
theorem same22_refl (x:Co):same22 x x=true:=by simp [same22]
end Go.Proofs.YtefieebkankfoaaGreatDoor
namespace Go.Proofs.YtefieebkankfoaaGreatDoor
open Go.RowKit Go.Shelf Go.Proofs

theorem getD_mem22 {α:Type} {l:List α} {k:Nat} (d:α) (h:k<l.length):l.getD k d∈l:=by
 rw [List.getD_eq_getElem?_getD,List.getElem?_eq_getElem h]
 exact List.getElem_mem h
end Go.Proofs.YtefieebkankfoaaGreatDoor
namespace Go.Proofs.YtefieebkankfoaaGreatDoor
open Go.RowKit Go.Shelf Go.Proofs

theorem txt22_neg22 (l:List Tok) {z:Int} (h:z<0):txt22 l z=ByteArray.empty:=if_pos h
theorem txt22_get {l:List Tok} {k:Nat} {t:Tok} (h:l[k]?=some t):txt22 l (k:Int)=t.text:=by
 unfold txt22
 rw [if_neg (by omega),Int.toNat_natCast,h]
end Go.Proofs.YtefieebkankfoaaGreatDoor
namespace Go.Proofs.YtefieebkankfoaaGreatDoor
open Go.RowKit Go.Shelf

theorem run_append_str_at {P:Program} (w:World) (base:Nat) (t u ty e:TypeId) (i:TypeInfo) (ht:P.underlying t=some (.slice e)) (hu:P.underlying u=some .string) (hi:P.info? e=some i) (hz:i.zero=some (.int .u8 0))
  (hsize:i.size=1) (hby:i.bytes=1) (v:Value) (n:Nat) (xs:List Value) (hown:w.ownsRow base e 1 v n xs) (s:ByteArray) (hb:n+s.size≤140737488355328) (hbase:base≤w.heap.size) :
  ∃ v' w',(Builtin.append_ #[t,u] ty #[v, .string s]).run P w = .ok v' w'∧w'.ownsRow base e 1 v' (n+s.size) (xs++byteVals s)∧w.grownBy w' v.ownBlock∧(v'.ownBlock=v.ownBlock∨v'.ownBlock=some w.heap.size):=by
 have h63:n+s.size≤maxLen:=by simp only [maxLen];omega
 obtain⟨v',w',hr,h1,h2,-⟩:=Lib.run_append_own_string (P:=P) w base t u ty e i ht hu hi hz hsize hby v n xs hown s h63 hb hbase
 refine ⟨v',w',hr,h1,h2,?_⟩
 have hxl:xs.length=n:=by simpa using hown.1
 rcases hown.2 with⟨rfl,rfl⟩|⟨g,cap,cur,rfl,hbg,hg,hnc,hcm,hcs,htake⟩
 ·by_cases hm:s.size=0
  ·have hf:=Lib.run_firstCells_string (P:=P) w 1 s
   rw [hm] at hf
   have hq:(Builtin.append_ #[t,u] ty #[.slice none 0 0, .string s]).run P w = .ok (.slice none 0 0) w:=by
    simp [Builtin.append_,run_underlying ht,run_underlying hu,sizeOf,typeInfo,hi,hsize,Builtin.lenOf,hm,hf]
   rw [hq] at hr
   cases hr
   exact .inl rfl
  ·have hq:=run_append_nil_string (P:=P) w t u ty e i (.int .u8 0) ht hu hi hz s (by omega) (by omega) (by rw [hby];omega)
   rw [hq] at hr
   cases hr
   exact .inr rfl
 ·by_cases hroom:n+s.size≤cap
  ·have hcs':cur.size=cap:=by simpa using hcs
   have hq:=Lib.run_append_room_string (P:=P) w t u ty e i ht hu hi hsize g n cap cur hg s hroom (by omega)
   rw [hq] at hr
   cases hr
   exact .inl rfl
  ·have holds:∀ j u,xs[j]?=some u→w.cell? ((⟨g,0,none⟩:Addr).add j)=some u:=hown.cells (g:=g) rfl
   have hq:=Lib.run_append_grow_string (P:=P) w t u ty e i (.int .u8 0) ht hu hi hz ⟨g,0,none⟩ n cap xs (by rw [hsize];simpa using hxl) holds s (by omega) (by omega) (by rw [hby];exact growslice_fits (by omega) (by omega))
   rw [hq] at hr
   cases hr
   exact .inr rfl
def evAppS (S:Sig) (env:Env) (ec:EnvC) (o:Oper):Option (Option Addr × Nat × Nat × ByteArray × TypeId) :=
 match o.op with
 | .call { callee := .builtin .append,args:=xs,argTypes:=ts }=>match evL env ec [] xs.toList,ts.toList with
  | some [.slice A n c, .string s],[t,u]=>match S.ty t,S.ty u with
   | some ⟨.slice e,_,_,_⟩,some ⟨.str,_,_,_⟩=>some (A,n,c,s,e)
   | _,_=>none
  | _,_=>none
 | _=>none
section
variable {C:Cx} {all:Array Oper} {o:Oper} {env:Env} {ec:EnvC} {H:List HA} {d:Nat} {Φ:Env→EnvC→List HA→Prop}
theorem OpT.appendS {A:Option Addr} {n c:Nat} {s:ByteArray} {e:TypeId} {ty:TyI} {cap:Nat} {xs:List Value} {rb:HA→List HA} (hg:gOf all env ec o=some []) (he:evAppS C.S env ec o=some (A,n,c,s,e)) (hd:o.dst=some d) (hN:Nat.blt d C.N.n=true) (hs:safeC all d ec=true)
  [hf:FocusR H A e 1 cap n xs rb] (hcap:c=cap) (ht:C.S.ty e=some ty) (hz:ty.zero = .int .u8 0) (hsz:Nat.beq ty.size 1=true) (hby:Nat.beq ty.bytes 1=true) (hb:n+s.size≤140737488355328)
  (h:∀ A' cap',(0<n+s.size→∃ g,A'=some ⟨g,0,none⟩)→Φ ((d, .slice A' (n+s.size) cap')::env) ec (rb (row e 1 A' cap' (n+s.size) (xs++byteVals s)))):OpT C all o env ec H Φ:=by
 subst hcap
 obtain⟨i,hi,hrb⟩:=hf.at_
 have hsz':ty.size=1:=Nat.eq_of_beq_eq_true hsz
 have hby':ty.bytes=1:=Nat.eq_of_beq_eq_true hby
 obtain⟨x,hx,hx1,hx2,hx3⟩:=(Sig.tyOk ht).info'
 refine OpT.eff hg fun a w ha hw=>?_
 obtain⟨F,f1,f2,f3⟩:=hw.sep
 have hil:i<H.length:=(List.getElem?_eq_some_iff.1 hi).1
 have hown:=(f1 i _ hi).own (w:=w) (fun b o hf=>f2 i b o hil hf)
 obtain⟨dst,op,ty0,pos,aft,gd⟩:=o
 unfold evAppS at he
 dsimp only at he
 split at he
 ·rename_i ps ts
  split at he
  ·rename_i A1 n1 c1 s1 t u hps hts
   split at he
   ·rename_i e1 q1 q2 q3 q4 q5 q6 hty hty2
    cases he
    have hut:=(Sig.tyOk hty).fits
    have huu:=(Sig.tyOk hty2).fits
    simp only [Ty.fits] at hut huu
    obtain⟨v',w',g1,g2,g3,g5⟩:=run_append_str_at (P:=C.S.P) w C.w0.heap.size t u ty0 e x hut huu hx (by rw [hx3,hz]) (hx1.trans hsz') (hx2.trans hby') _ n xs hown s hb hw.below.size
    obtain⟨A',cap',rfl,f',r1,r2⟩:=row.of_own g2
    have hargs:ps.map a.eval = #[.slice A n c, .string s]:=Array.ext' (by rw [Array.toList_map];exact evL_spec ha (Holds.nil _ _) hps)
    have hts':ts = #[t,u]:=Array.ext' hts
    refine ⟨.slice A' (n+s.size) cap',w',_,?_,⟨?_,?_⟩,d,hd,hN,hs,h A' cap' ?_⟩
    ·simp [execOp,resolve,invoke,builtin,hargs,hts',g1]
    ·refine hw.below.grown g3 hw.below.size fun b hbk=>?_
     cases hA:A with
     | none=>rw [hA] at hbk;simp [Value.ownBlock] at hbk
     | some ad =>
      rcases hown.2 with⟨h9,_⟩|⟨g,cap9,cur,h9,h10,_⟩
      ·rw [hA] at h9;cases h9
      ·rw [h9] at hbk;simp [Value.ownBlock] at hbk;subst hbk;exact h10
    ·rw [hrb]
     refine Sep.swap ⟨F,f1,f2,f3⟩ hi fun f hrow hf=>⟨f',r1,fun b o hb'=>?_,fun c' hc' hfc=>?_⟩
     ·obtain⟨s1,s2,s3⟩:=r2 b o hb'
      refine ⟨s1,s2,?_⟩
      rw [s3] at g5
      rcases g5 with g5|g5
      ·left
       obtain⟨_,hrow2⟩:=hrow
       rcases hrow2 with⟨rfl,_⟩|⟨g,cur,rfl,rfl,_⟩
       ·simp [Value.ownBlock] at g5
       ·simp [Value.ownBlock] at g5;subst g5;simp [one]
      ·right
       injection g5 with g5
       omega
     ·refine g3.block c' hc' fun e9=>?_
      obtain⟨_,hrow2⟩:=hrow
      rcases hrow2 with⟨rfl,_⟩|⟨g,cur,rfl,rfl,_⟩
      ·simp [Value.ownBlock] at e9
      ·simp [Value.ownBlock] at e9;subst e9;simp [one] at hfc
    ·intro hpos2
     obtain⟨_,hrow2⟩:=r1
     rcases hrow2 with⟨_,_,h9,_⟩|⟨g,cur,rfl,_⟩
     ·omega
     ·exact⟨g,rfl⟩
   ·cases he
  ·cases he
 ·cases he
def evStr (S:Sig) (env:Env) (ec:EnvC) (G:GId) (o:Oper):Option (Option Addr × Nat) :=
 match o.op with
 | .convert s d x=>match S.ty s,S.ty d,evX env ec G x with
  | some ⟨.slice e,_,_,_⟩,some ⟨.str,_,_,_⟩,some (.slice A n _)=>match S.ty e with
   | some ⟨.int .u8,_,_,_⟩=>some (A,n)
   | _=>none
  | _,_,_=>none
 | _=>none
def ints8 (s:List UInt8):List Int:=s.map fun c=>((c.toNat:Nat):Int)
theorem strOf_ints8 (s:List UInt8):strOfNums (ints8 s)=⟨s.toArray⟩:=by
 unfold strOfNums ints8
 congr 1
 apply Array.ext'
 simp only [List.map_map]
 have:((fun n:Int=>UInt8.ofNat n.toNat) ∘ fun c:UInt8=>((c.toNat:Nat):Int))=id:=by
  funext c;simp
 rw [this];simp
theorem run_str0 {P:Program} (w:World) (src dst e:TypeId) (hs:P.underlying src=some (.slice e)) (he:P.underlying e=some (.int .u8)) (hd:P.underlying dst=some .string) (A:Option Addr) (c:Nat) :
  (convert src dst (.slice A 0 c)).run P w = .ok (.string ByteArray.empty) w:=by
 rw [run_convert_bytes_string w src dst e A 0 c hs he hd]
 cases A with
 | none=>simp [Conv.bytesToString]
 | some a =>
  have h:=run_bytesToString (P:=P) w a 0 c [] (by simp [loadCells];rfl)
  simpa using h
theorem Val.str {G:GId} {Hs:List HA} {A:Option Addr} {n:Nat} {bs:List UInt8} (hv:evStr C.S env ec G o=some (A,n)) (hr:∀ w,Cls C.w0 w Hs→Src w 1 A n (bs.map fun c=>Value.int .u8 ((c.toNat:Nat):Int))):Val C all o env ec Hs G (.string ⟨bs.toArray⟩):=by
 intro a w ha hw hH
 obtain⟨h1,h2⟩:=hr w hw
 have hl:bs.length=n:=by simpa using h1
 obtain⟨dst,op,ty,pos,aft,gd⟩:=o
 unfold evStr at hv
 dsimp only at hv
 split at hv
 ·rename_i ts td x
  split at hv
  ·rename_i e q1 q2 q3 q4 q5 q6 A1 n1 c1 hts htd hx
   split at hv
   ·rename_i q7 q8 q9 hte
    cases hv
    have f1:=(Sig.tyOk hts).fits
    have f2:=(Sig.tyOk htd).fits
    have f3:=(Sig.tyOk hte).fits
    simp only [Ty.fits] at f1 f2 f3
    have key:(convert ts td (.slice A n c1)).run C.S.P w = .ok (.string ⟨bs.toArray⟩) w:=by
     by_cases hn:n=0
     ·subst hn
      have hb:bs=[]:=List.eq_nil_of_length_eq_zero hl
      subst hb
      exact run_str0 w ts td e f1 f3 f2 A c1
     ·obtain⟨g1,g2⟩:=h2 (by omega)
      unfold isAt at g1
      rw [g1]
      have h:=run_convert_bytes_arg (P:=C.S.P) w ts e f1 f3 (bk A) (ofs A) n c1 (ints8 bs) (by simp [ints8,hl]) (fun i hi=>by
       have e1:=g2 i (.int .u8 ((ints8 bs).getD i 0)) (by
        have hib:i<bs.length:=by omega
        simp [ints8,List.getD,List.getElem?_eq_getElem hib])
       exact e1) td f2
      rw [h,strOf_ints8]
    simp only [execOp,evX_spec ha hH hx]
    simp [key]
   ·cases hv
  ·cases hv
 ·cases hv
end
def strsD (l:List ByteArray):D := .s 1 ((l.map Value.string).map .v)
theorem Rd.strs {w:World} {x:Value} {l:List ByteArray} (h:Rd (wr w) [x] [strsD l]):∃ A cap,x = .slice A l.length cap∧l.length≤cap∧cap≤9223372036854775807∧Src w 1 A l.length (l.map Value.string):=by
 obtain⟨A,m,cap,rfl,h3,h4,h5,h6⟩:=h.srcV
 have em:m=l.length:=by simpa using h3.symm
 subst em
 exact⟨A,cap,rfl,h4,h5,h6⟩
theorem src_str {w:World} {b o n:Nat} {xs:List ByteArray} (h:Src w 1 (some ⟨b,o,none⟩) n (xs.map Value.string)) {k:Nat} {s:ByteArray} (hk:k<n) (hs:xs[k]?=some s):RdC w b (o+(k:Int).toNat * 1) [.string s]:=by
 have h9:=(h.get1 (i:=k) hk (by rw [List.getElem?_map,hs];rfl)).2
 rw [Nat.mul_one] at h9
 rw [off1]
 exact h9
end Go.Proofs.YtefieebkankfoaaGreatDoor
namespace Go.Proofs.YtefieebkankfoaaGreatDoor
open Go.RowKit Go.Shelf Go.ChangeShapes Go.WideShapes Go.Proofs
set_option maxRecDepth 100000

theorem chunks {α:Type} (cells:α→List Value) (sz:Nat):∀ (n:Nat) (l:List D),l.length=n * sz→(∀ i,i<n→∃ t:α,(l.drop (i * sz)).take sz=(cells t).map .v)→∃ ts:List α,ts.length=n∧l=(ts.flatMap cells).map .v
 | 0,l,hl,_=>⟨[],rfl,by simpa using List.eq_nil_of_length_eq_zero (by simpa using hl)⟩
 | n+1,l,hl,h=>by
  obtain⟨t,ht⟩:=h 0 (by omega)
  rw [Nat.zero_mul,List.drop_zero] at ht
  obtain⟨ts,h1,h2⟩:=chunks cells sz n (l.drop sz) (by rw [List.length_drop,hl,Nat.succ_mul];omega) fun i hi=>by
   obtain⟨t,ht⟩:=h (i+1) (by omega)
   exact⟨t,by rw [List.drop_drop, ← ht,Nat.succ_mul,Nat.add_comm]⟩
  exact⟨t::ts,by simp [h1],by rw [List.flatMap_cons,List.map_append, ← ht, ← h2,List.take_append_drop]⟩
section
variable {H:Type} {enc:TypeId × Value→H} {W:World} {base b0:Nat} {sp:Nat→Bool} {held:Bool} {r:Reach} {v:Value} {d:DataW H} {ps:List MemPlace}
end
end Go.Proofs.YtefieebkankfoaaGreatDoor
namespace Go.Proofs.YtefieebkankfoaaGreatDoor
open Go.RowKit Go.Shelf Go.ChangeShapes Go.WideShapes Go.Proofs
set_option maxRecDepth 100000

theorem chunksD {α:Type} (g:α→List D) (sz:Nat):∀ (n:Nat) (l:List D),l.length=n * sz→(∀ i,i<n→∃ t:α,(l.drop (i * sz)).take sz=g t)→∃ ts:List α,ts.length=n∧l=ts.flatMap g
 | 0,l,hl,_=>⟨[],rfl,by simpa using List.eq_nil_of_length_eq_zero (by simpa using hl)⟩
 | n+1,l,hl,h=>by
  obtain⟨t,ht⟩:=h 0 (by omega)
  rw [Nat.zero_mul,List.drop_zero] at ht
  obtain⟨ts,h1,h2⟩:=chunksD g sz n (l.drop sz) (by rw [List.length_drop,hl,Nat.succ_mul];omega) fun i hi=>by
   obtain⟨t,ht⟩:=h (i+1) (by omega)
   exact⟨t,by rw [List.drop_drop, ← ht,Nat.succ_mul,Nat.add_comm]⟩
  exact⟨t::ts,by simp [h1],by rw [List.flatMap_cons, ← ht, ← h2,List.take_append_drop]⟩
theorem flat1D {α:Type} (f:α→D):∀ l:List α,l.flatMap (fun x=>[f x])=l.map f
 | []=>rfl
 | x::l=>by rw [List.flatMap_cons,List.map_cons,flat1D f l];rfl
def toksD (l:List Tok):D := .s 6 ((l.flatMap Tok.cells).map .v)
theorem ints_wt {f:Nat} {ds:List D} (h:wt sg (f+2) 29 ds):∃ l:List Int,ds=[intsD l]:=by
 obtain⟨l,n,rfl,hl,_,hi⟩:=(show ∃ l n,ds=[.s 1 l]∧l.length=n * 1∧n≤maxLen∧∀ i,i<n→wt sg (f+1) 3 ((l.drop (i * 1)).take 1) from h)
 obtain⟨ts,e1,e2⟩:=chunksD (fun z:Int=>[D.v (.int .i64 z)]) 1 n l hl fun i hin=>by
  obtain⟨z,hz,_⟩:=(show ∃ z,_=[D.v (.int .i64 z)]∧(Lit.int .i64 z).wf=true from hi i hin)
  exact⟨z,hz⟩
 subst e2
 exact⟨ts,by rw [flat1D];rfl⟩
theorem rows_wt {f:Nat} {ds:List D} (h:wt sg (f+3) 24 ds):∃ m:List (List Int),ds=[rowsD m]:=by
 obtain⟨l,n,rfl,hl,_,hi⟩:=(show ∃ l n,ds=[.s 1 l]∧l.length=n * 1∧n≤maxLen∧∀ i,i<n→wt sg (f+2) 29 ((l.drop (i * 1)).take 1) from h)
 obtain⟨ts,e1,e2⟩:=chunksD (fun z:List Int=>[intsD z]) 1 n l hl fun i hin=>ints_wt (hi i hin)
 subst e2
 exact⟨ts,by rw [flat1D];rfl⟩
theorem toks_wt {f:Nat} {ds:List D} (h:wt sg (f+4) 47 ds):∃ l:List Tok,ds=[toksD l]:=by
 obtain⟨l,n,rfl,hl,_,hi⟩:=(show ∃ l n,ds=[.s 6 l]∧l.length=n * 6∧n≤maxLen∧∀ i,i<n→wt sg (f+3) 79 ((l.drop (i * 6)).take 6) from h)
 obtain⟨ts,e1,e2⟩:=chunks Tok.cells 6 n l hl fun i hin=>tok_wt (hi i hin)
 subst e2
 exact⟨ts,rfl⟩
theorem toksL_wt {f:Nat} {ds:List D} (h:wt sg (f+5) 23 ds):∃ m:List (List Tok),ds=[.s 1 (m.map toksD)]:=by
 obtain⟨l,n,rfl,hl,_,hi⟩:=(show ∃ l n,ds=[.s 1 l]∧l.length=n * 1∧n≤maxLen∧∀ i,i<n→wt sg (f+4) 47 ((l.drop (i * 1)).take 1) from h)
 obtain⟨ts,e1,e2⟩:=chunksD (fun z:List Tok=>[toksD z]) 1 n l hl fun i hin=>toks_wt (hi i hin)
 subst e2
 exact⟨ts,by rw [flat1D]⟩
theorem Rd.toks {w:World} {x:Value} {l:List Tok} (h:Rd (wr w) [x] [toksD l]):∃ A cap,x = .slice A l.length cap∧l.length≤9223372036854775807∧Src w 6 A l.length (l.flatMap Tok.cells)∧l.length≤cap∧cap≤9223372036854775807:=by
 obtain⟨A,m,cap,rfl,h3,h4,h5,h6⟩:=h.srcV
 have em:m=l.length:=by
  have:(l.flatMap Tok.cells).length=l.length * 6:=flatT_length l
  omega
 subst em
 exact⟨A,cap,rfl,by omega,h6,h4,h5⟩
section
variable {H:Type} {enc:TypeId × Value→H} {W:World} {base b0:Nat} {sp:Nat→Bool} {held:Bool} {r:Reach} {v:Value} {d:DataW H} {ps:List MemPlace}
end
end Go.Proofs.YtefieebkankfoaaGreatDoor
namespace Go.Proofs.YtefieebkankfoaaGreatDoor
open Go.RowKit Go.Shelf Go.ChangeShapes Go.WideShapes Go.Proofs
set_option maxRecDepth 100000

@[reducible] def coL (sec:ByteArray) (y1 y2 y3:Value):List Value:=[.string sec,y1,y2,y3]
structure CoRd (w:World) (y1 y2 y3:Value) (x:Co):Prop where
 sg:Rd (wr w) [y1] [strsD x.sg]
 m:Rd (wr w) [y2] [.s 1 (x.m.map toksD)]
 cols:Rd (wr w) [y3] [rowsD x.cols]
theorem strs_wt {f:Nat} {ds:List D} (h:wt sg (f+2) 22 ds):∃ l:List ByteArray,ds=[strsD l]:=by
 obtain⟨l,n,rfl,hl,_,hi⟩:=(show ∃ l n,ds=[.s 1 l]∧l.length=n * 1∧n≤maxLen∧∀ i,i<n→wt sg (f+1) 9 ((l.drop (i * 1)).take 1) from h)
 obtain⟨ts,e1,e2⟩:=chunksD (fun z:ByteArray=>[D.v (.string z)]) 1 n l hl fun i hin=>by
  obtain⟨z,hz,_⟩:=(show ∃ s:ByteArray,_=[D.v (.string s)]∧s.size≤maxLen from hi i hin)
  exact⟨z,hz⟩
 subst e2
 exact⟨ts,by rw [flat1D];unfold strsD;rw [List.map_map];rfl⟩
theorem co_wt {f:Nat} {ds:List D} (h:wt sg (f+6) 26 ds):∃ x:Co,ds=[.v (.string x.sec),strsD x.sg, .s 1 (x.m.map toksD),rowsD x.cols]:=by
 obtain⟨a0,b0,rfl,h0,a1,b1,rfl,h1,a2,b2,rfl,h2,a3,b3,rfl,h3,rfl⟩:=(show wtL (wt sg (f+5)) [(9,0),(22,1),(23,2),(24,3)] ds from h)
 obtain⟨s0,rfl,_⟩:=(show ∃ s:ByteArray,a0=[.v (.string s)]∧s.size≤maxLen from h0)
 obtain⟨l1,rfl⟩:=strs_wt (f:=f+3) h1
 obtain⟨l2,rfl⟩:=toksL_wt (f:=f) h2
 obtain⟨l3,rfl⟩:=rows_wt (f:=f+2) h3
 exact⟨⟨s0,l1,l2,l3⟩,rfl⟩
section
variable {H:Type} {enc:TypeId × Value→H} {W:World} {base b0:Nat} {sp:Nat→Bool} {held:Bool} {r:Reach} {v:Value} {d:DataW H} {ps:List MemPlace}
theorem arg_coll (hv:Value.okWide Tryz.prog W r b0 26 v) (h:DataW.Trod enc Tryz.prog W base sp held 26 v d ps):∃ (x:Co) (y1 y2 y3:Value),v = .agg (coL x.sec y1 y2 y3).toArray∧CoRd W y1 y2 y3 x:=by
 obtain⟨cs,rfl,_⟩:=okWide_struct Tryz.underlying26 hv
 obtain⟨fuel,hf⟩:=h
 obtain⟨ds,h1,h2⟩:=trod_wt (S:=sg) 9 rfl hf
 obtain⟨x,rfl⟩:=co_wt (f:=3) h2
 have h3:Rd (wr W) cs.toList [.v (.string x.sec),strsD x.sg, .s 1 (x.m.map toksD),rowsD x.cols]:=h1
 obtain⟨z0,z1,z2,z3,e⟩:∃ z0 z1 z2 z3,cs.toList=[z0,z1,z2,z3]:=by
  have hl:=h3.length
  match cs.toList,hl with
  | [a,b,c,d],_=>exact⟨a,b,c,d,rfl⟩
 rw [e] at h3
 obtain⟨k0,h3⟩:=h3.cons_inv
 obtain⟨k1,h3⟩:=h3.cons_inv
 obtain⟨k2,k3⟩:=h3.cons_inv
 refine ⟨x,z1,z2,z3,congrArg Value.agg (Array.ext' ?_),⟨k1,k2,k3⟩⟩
 rw [e,k0.val]
@[reducible] def case22L (c:Costs) (sec:ByteArray) (y1 y2:Value):List Value:=[.int .i64 c.gap, .int .i64 c.norm, .int .i64 c.letter, .int .i64 c.most, .string sec,y1,y2]
end
end Go.Proofs.YtefieebkankfoaaGreatDoor
namespace Go.Proofs.YtefieebkankfoaaGreatDoor

def volL:List Nat→Nat
 | []=>1
 | n::ls=>(n+1) * volL ls
def numL:List Nat→List Nat→Nat
 | _::ls,a::v=>a * volL ls+numL ls v
 | _,_=>0
def atL:List Nat→Nat→List Nat
 | [],_=>[]
 | n::ls,p=>(p / volL ls % (n+1))::atL ls p
def stpL:List Nat→Nat→Nat
 | [],_=>0
 | _::ls,0=>volL ls
 | _::ls,s+1=>stpL ls s
def InB:List Nat→List Nat→Prop
 | [],[]=>True
 | n::ls,a::v=>a≤n∧InB ls v
 | _,_=>False
theorem volL_pos:∀ ls:List Nat,0<volL ls
 | []=>Nat.one_pos
 | n::ls=>Nat.mul_pos (Nat.succ_pos n) (volL_pos ls)
theorem InB.len:∀ {ls v:List Nat},InB ls v→v.length=ls.length
 | [],[],_=>rfl
 | n::ls,a::v,h=>by simp [InB.len h.2]
 | [],a::v,h=>h.elim
 | n::ls,[],h=>h.elim
theorem numL_lt:∀ {ls v:List Nat},InB ls v→numL ls v<volL ls
 | [],[],_=>Nat.one_pos
 | n::ls,a::v,h=>by
  have h1:=numL_lt h.2
  have h2:a * volL ls≤n * volL ls:=Nat.mul_le_mul_right _ h.1
  have h3:(n+1) * volL ls=n * volL ls+volL ls:=by rw [Nat.add_mul,Nat.one_mul]
  show a * volL ls+numL ls v<(n+1) * volL ls
  omega
 | [],a::v,h=>h.elim
 | n::ls,[],h=>h.elim
theorem atL_mod:∀ (ls:List Nat) (p:Nat),atL ls (p % volL ls)=atL ls p
 | [],p=>rfl
 | n::ls,p=>by
  show (p % ((n+1) * volL ls) / volL ls % (n+1))::atL ls (p % ((n+1) * volL ls))=(p / volL ls % (n+1))::atL ls p
  have h1:p % ((n+1) * volL ls) / volL ls % (n+1)=p / volL ls % (n+1):=by
   rw [Nat.mod_mul_left_div_self,Nat.mod_mod]
  have h2:atL ls (p % ((n+1) * volL ls))=atL ls p:=by
   rw [← atL_mod ls (p % _), ← atL_mod ls p,Nat.mod_mul_left_mod]
  rw [h1,h2]
theorem atL_in:∀ (ls:List Nat) (p:Nat),InB ls (atL ls p)
 | [],_=>trivial
 | n::ls,p=>⟨Nat.le_of_lt_succ (Nat.mod_lt _ (Nat.succ_pos n)),atL_in ls p⟩
theorem atL_len (ls:List Nat) (p:Nat):(atL ls p).length=ls.length:=(atL_in ls p).len
theorem num_at:∀ (ls:List Nat) (p:Nat),p<volL ls→numL ls (atL ls p)=p
 | [],p,h=>by have:p<1:=h;show 0=p;omega
 | n::ls,p,h=>by
  show (p / volL ls % (n+1)) * volL ls+numL ls (atL ls p)=p
  have hp:=volL_pos ls
  have h1:p / volL ls<n+1:=(Nat.div_lt_iff_lt_mul hp).2 h
  rw [Nat.mod_eq_of_lt h1, ← atL_mod ls p,num_at ls _ (Nat.mod_lt _ hp)]
  exact Nat.div_add_mod' p (volL ls)
theorem at_num:∀ {ls v:List Nat},InB ls v→atL ls (numL ls v)=v
 | [],[],_=>rfl
 | n::ls,a::v,h=>by
  have hp:=volL_pos ls
  have h1:=numL_lt h.2
  show ((a * volL ls+numL ls v) / volL ls % (n+1))::atL ls (a * volL ls+numL ls v)=a::v
  have e1:(a * volL ls+numL ls v) / volL ls=a:=by
   rw [Nat.add_comm,Nat.add_mul_div_right _ _ hp,Nat.div_eq_of_lt h1,Nat.zero_add]
  have e2:(a * volL ls+numL ls v) % volL ls=numL ls v:=by
   rw [Nat.add_comm,Nat.add_mul_mod_self_right,Nat.mod_eq_of_lt h1]
  rw [e1,Nat.mod_eq_of_lt (Nat.lt_succ_of_le h.1), ← atL_mod ls (_+_),e2,at_num h.2]
 | [],a::v,h=>h.elim
 | n::ls,[],h=>h.elim
theorem atL_get:∀ {ls:List Nat} {s n:Nat} (p:Nat),ls[s]?=some n→(atL ls p)[s]?=some (p / stpL ls s % (n+1))
 | m::ls,0,n,p,h=>by
  simp at h;subst h;rfl
 | m::ls,s+1,n,p,h=>by
  have:=atL_get (ls:=ls) (s:=s) (n:=n) p (by simpa using h)
  simpa [atL,stpL] using this
theorem num_set:∀ {ls v:List Nat} {s:Nat},v.length=ls.length→s<v.length→numL ls (v.set s (v.getD s 0+1))=numL ls v+stpL ls s
 | n::ls,a::v,0,_,_=>by
  show (a+1) * volL ls+numL ls v=a * volL ls+numL ls v+volL ls
  rw [Nat.add_mul,Nat.one_mul];omega
 | n::ls,a::v,s+1,hl,hs=>by
  have:=num_set (ls:=ls) (v:=v) (s:=s) (by simpa using hl) (by simpa using hs)
  show a * volL ls+numL ls (v.set s ((a::v).getD (s+1) 0+1))=a * volL ls+numL ls v+stpL ls s
  rw [show (a::v).getD (s+1) 0=v.getD s 0 by simp,this];omega
 | [],a::v,s,hl,_=>by simp at hl
theorem num_all:∀ ls:List Nat,numL ls ls+1=volL ls
 | []=>rfl
 | n::ls=>by
  have:=num_all ls
  show n * volL ls+numL ls ls+1=(n+1) * volL ls
  rw [Nat.add_mul,Nat.one_mul];omega
theorem InB.self:∀ ls:List Nat,InB ls ls
 | []=>trivial
 | n::ls=>⟨Nat.le_refl n,InB.self ls⟩
theorem InB.get:∀ {ls v:List Nat},InB ls v→∀ s,v.getD s 0≤ls.getD s 0
 | [],[],_,s=>by simp
 | n::ls,a::v,h,0=>h.1
 | n::ls,a::v,h,s+1=>by simpa using InB.get h.2 s
 | [],a::v,h,_=>h.elim
 | n::ls,[],h,_=>h.elim
theorem InB.of:∀ {ls v:List Nat},v.length=ls.length→(∀ s,v.getD s 0≤ls.getD s 0)→InB ls v
 | [],[],_,_=>trivial
 | n::ls,a::v,hl,h=>⟨h 0,InB.of (by simpa using hl) fun s=>by simpa using h (s+1)⟩
 | [],a::v,hl,_=>by simp at hl
 | n::ls,[],hl,_=>by simp at hl
theorem InB.some:∀ {ls v:List Nat},InB ls v→v≠ls→∃ s,s<ls.length∧v.getD s 0<ls.getD s 0
 | [],[],_,h=>(h rfl).elim
 | n::ls,a::v,h,hne=>by
  by_cases e:a=n
  ·subst e
   obtain⟨s,h1,h2⟩:=InB.some h.2 (fun e2=>hne (by rw [e2]))
   exact⟨s+1,by simp;omega,by simpa using h2⟩
  ·exact⟨0,by simp,by have:=h.1;show a<n;omega⟩
 | [],a::v,h,_=>h.elim
 | n::ls,[],h,_=>h.elim
def sumL:List Nat→Nat
 | []=>0
 | n::ls=>n+sumL ls
theorem sumL_le:∀ {ls v:List Nat},InB ls v→sumL v≤sumL ls
 | [],[],_=>Nat.le_refl _
 | n::ls,a::v,h=>by have:=sumL_le h.2;have:=h.1;show a+sumL v≤n+sumL ls;omega
 | [],a::v,h=>h.elim
 | n::ls,[],h=>h.elim
theorem sumL_set:∀ {v:List Nat} {s:Nat},s<v.length→sumL (v.set s (v.getD s 0+1))=sumL v+1
 | a::v,0,_=>by show a+1+sumL v=a+sumL v+1;omega
 | a::v,s+1,h=>by
  have:=sumL_set (v:=v) (s:=s) (by simpa using h)
  show a+sumL (v.set s ((a::v).getD (s+1) 0+1))=a+sumL v+1
  rw [show (a::v).getD (s+1) 0=v.getD s 0 by simp,this];omega
def toM (v:List Nat):List Nat→List Nat
 | []=>v
 | s::m=>toM (v.set s (v.getD s 0+1)) m
theorem toM_len:∀ (m v:List Nat),(toM v m).length=v.length
 | [],v=>rfl
 | s::m,v=>by unfold toM;rw [toM_len m,List.length_set]
theorem set_other {v:List Nat} {s u x:Nat} (h:s≠u):(v.set s x).getD u 0=v.getD u 0:=by
 rw [List.getD_eq_getElem?_getD,List.getElem?_set_ne h, ← List.getD_eq_getElem?_getD]
theorem set_self {v:List Nat} {s x:Nat} (h:s<v.length):(v.set s x).getD s 0=x:=by
 rw [List.getD_eq_getElem?_getD,List.getElem?_set_self h];rfl
theorem toM_get:∀ (m v:List Nat),m.Nodup→(∀ s∈m,s<v.length)→∀ s,(toM v m).getD s 0=v.getD s 0+if s∈m then 1 else 0
 | [],v,_,_,s=>by simp [toM]
 | u::m,v,hd,hl,s=>by
  have hu:=List.nodup_cons.1 hd
  unfold toM
  rw [toM_get m _ hu.2 (fun s hs=>by rw [List.length_set];exact hl s (.tail _ hs)) s]
  by_cases e:u=s
  ·subst e
   rw [set_self (hl u (.head _)),if_neg hu.1,if_pos (.head _)]
  ·rw [set_other e]
   have:(s∈u::m)↔s∈m:=by rw [List.mem_cons];exact⟨fun h=>h.resolve_left (fun h=>e h.symm), .inr⟩
   simp only [this]
theorem toM_num:∀ (ls m v:List Nat),v.length=ls.length→(∀ s∈m,s<v.length)→numL ls (toM v m)=numL ls v+(m.map (stpL ls)).sum
 | ls,[],v,_,_=>by simp [toM]
 | ls,s::m,v,hl,hm=>by
  unfold toM
  rw [toM_num ls m _ (by rw [List.length_set];exact hl) (fun s hs=>by rw [List.length_set];exact hm s (.tail _ hs)),num_set hl (hm s (.head _)),List.map_cons,List.sum_cons]
  omega
theorem toM_sum:∀ (m v:List Nat),(∀ s∈m,s<v.length)→sumL (toM v m)=sumL v+m.length
 | [],v,_=>by simp [toM]
 | s::m,v,hm=>by
  unfold toM
  rw [toM_sum m _ (fun s hs=>by rw [List.length_set];exact hm s (.tail _ hs)),sumL_set (hm s (.head _)),List.length_cons]
  omega
theorem toM_in {ls v m:List Nat} (h:InB ls v) (hd:m.Nodup) (hm:∀ s∈m,s<ls.length∧v.getD s 0<ls.getD s 0):InB ls (toM v m):=by
 have hlen:=h.len
 refine InB.of (by rw [toM_len,hlen]) fun s=>?_
 rw [toM_get m v hd (fun s hs=>by rw [hlen];exact (hm s hs).1) s]
 have h1:=h.get s
 split
 ·rename_i hs;have:=(hm s hs).2;omega
 ·omega
end Go.Proofs.YtefieebkankfoaaGreatDoor
namespace Go.Proofs.YtefieebkankfoaaGreatDoor

def possM (ls v m:List Nat):Bool:=m.all fun s=>decide (v.getD s 0<ls.getD s 0)
theorem possM_iff {ls v m:List Nat}:possM ls v m=true↔∀ s∈m,v.getD s 0<ls.getD s 0:=by unfold possM;rw [List.all_eq_true];simp
def colMv (v:List Nat):List Nat→List Int→List Int
 | [],c=>c
 | s::m,c=>colMv v m (c.set s (v.getD s 0:Nat))
def colT (v m:List Nat):List Int:=colMv v m (List.replicate v.length (-1))
theorem colMv_len (v:List Nat):∀ (m:List Nat) (c:List Int),(colMv v m c).length=c.length
 | [],c=>rfl
 | s::m,c=>by unfold colMv;rw [colMv_len v m,List.length_set]
theorem colT_len (v m:List Nat):(colT v m).length=v.length:=by unfold colT;rw [colMv_len,List.length_replicate]
theorem colMv_get (v:List Nat):∀ (m:List Nat) (c:List Int) (s:Nat),s<c.length→(colMv v m c).getD s (-1)=if s∈m then ((v.getD s 0:Nat):Int) else c.getD s (-1)
 | [],c,s,_=>by simp [colMv]
 | u::m,c,s,h=>by
  unfold colMv
  rw [colMv_get v m _ s (by rw [List.length_set];exact h)]
  by_cases h1:s∈m
  ·rw [if_pos h1,if_pos (List.mem_cons_of_mem _ h1)]
  ·rw [if_neg h1]
   by_cases e:u=s
   ·subst e
    rw [if_pos List.mem_cons_self,List.getD_eq_getElem?_getD,List.getElem?_set_self h];rfl
   ·rw [if_neg (by rw [List.mem_cons];rintro (h|h);exact e h.symm;exact h1 h),List.getD_eq_getElem?_getD,List.getElem?_set_ne e, ← List.getD_eq_getElem?_getD]
theorem colT_get {v m:List Nat} {s:Nat} (h:s<v.length):(colT v m).getD s (-1)=if s∈m then ((v.getD s 0:Nat):Int) else -1:=by
 unfold colT
 rw [colMv_get v m _ s (by rw [List.length_replicate];exact h)]
 simp [List.getD_eq_getElem?_getD,List.getElem?_replicate,h]
structure MvsOk (n:Nat) (Ms:List (List Nat)):Prop where
 nd:∀ m∈Ms,m.Nodup
 lt:∀ m∈Ms,∀ s∈m,s<n
 ne:∀ m∈Ms,m≠[]
 one:∀ s,s<n→[s]∈Ms
def foldB (p:List Nat→Bool) (f:List Nat→Int):List (List Nat)→Int→Int
 | [],a=>a
 | m::ms,a=>foldB p f ms (cond (p m) (bst a (f m)) a)
theorem foldB_app (p:List Nat→Bool) (f:List Nat→Int):∀ (ms ks:List (List Nat)) (a:Int),foldB p f (ms++ks) a=foldB p f ks (foldB p f ms a)
 | [],ks,a=>rfl
 | m::ms,ks,a=>foldB_app p f ms ks _
theorem foldB_congr {p:List Nat→Bool} {f g:List Nat→Int}:∀ {ms:List (List Nat)} {a:Int},(∀ m∈ms,p m=true→f m=g m)→foldB p f ms a=foldB p g ms a
 | [],a,_=>rfl
 | m::ms,a,h=>by
  show foldB p f ms _=foldB p g ms _
  rw [foldB_congr (a:=cond (p m) (bst a (f m)) a) fun k hk=>h k (.tail _ hk)]
  cases hp:p m with
  | true=>rw [h m (.head _) hp]
  | false=>rfl
theorem foldB_none {p:List Nat→Bool} {f:List Nat→Int}:∀ {ms:List (List Nat)} {a:Int},(∀ m∈ms,p m=false)→foldB p f ms a=a
 | [],a,_=>rfl
 | m::ms,a,h=>by
  show foldB p f ms (cond (p m) _ _)=a
  rw [h m (.head _)]
  exact foldB_none fun k hk=>h k (.tail _ hk)
theorem bst_le {a x:Int}:(0≤a→bst a x≤a)∧bst a x≤max a x:=by unfold bst;split <;> omega
theorem foldB_spec {p:List Nat→Bool} {f:List Nat→Int} (hf:∀ m,0≤f m):∀ (ms:List (List Nat)) (a:Int),-1≤a → -1≤foldB p f ms a∧(0≤a→0≤foldB p f ms a∧foldB p f ms a≤a)∧(∀ m∈ms,p m=true→0≤foldB p f ms a∧foldB p f ms a≤f m)∧(foldB p f ms a=a∨∃ m∈ms,p m=true∧foldB p f ms a=f m)
 | [],a,ha=>⟨ha,fun h=>⟨h,Int.le_refl _⟩,fun m hm=>(by cases hm), .inl rfl⟩
 | m::ms,a,ha=>by
  have hfm:=hf m
  have hb : -1≤bst a (f m)∧0≤bst a (f m)∧bst a (f m)≤f m∧(0≤a→bst a (f m)≤a)∧(bst a (f m)=a∨bst a (f m)=f m):=by unfold bst;split <;> omega
  show -1≤foldB p f ms (cond (p m) (bst a (f m)) a)∧(0≤a→0≤foldB p f ms (cond (p m) (bst a (f m)) a)∧foldB p f ms (cond (p m) (bst a (f m)) a)≤a)∧(∀ k∈m::ms,p k=true→0≤foldB p f ms (cond (p m) (bst a (f m)) a)∧foldB p f ms (cond (p m) (bst a (f m)) a)≤f k)∧(foldB p f ms (cond (p m) (bst a (f m)) a)=a∨∃ k∈m::ms,p k=true∧foldB p f ms (cond (p m) (bst a (f m)) a)=f k)
  cases hp:p m with
  | false =>
   obtain⟨h1,h2,h3,h4⟩:=foldB_spec hf ms a ha
   refine ⟨h1,h2,fun k hk hpk=>?_,h4.imp id fun⟨k,hk,h5⟩=>⟨k, .tail _ hk,h5⟩⟩
   rcases List.mem_cons.1 hk with rfl|hk
   ·rw [hp] at hpk;cases hpk
   ·exact h3 k hk hpk
  | true =>
   obtain⟨h1,h2,h3,h4⟩:=foldB_spec hf ms (bst a (f m)) hb.1
   have h5:=h2 hb.2.1
   refine ⟨h1,fun h=>⟨h5.1,Int.le_trans h5.2 (hb.2.2.2.1 h)⟩,fun k hk hpk=>?_,?_⟩
   ·rcases List.mem_cons.1 hk with rfl|hk
    ·exact⟨h5.1,Int.le_trans h5.2 hb.2.2.1⟩
    ·exact h3 k hk hpk
   ·rcases h4 with h4|⟨k,hk,h6⟩
    ·rcases hb.2.2.2.2 with h7|h7
     ·exact .inl (h4.trans h7)
     ·exact .inr ⟨m, .head _,hp,h4.trans h7⟩
    ·exact .inr ⟨k, .tail _ hk,h6⟩
def rsM (K:List Int→Int) (ls:List Nat) (Ms:List (List Nat)):Nat→List Nat→Int
 | 0,_=>0
 | f+1,v=>max (foldB (possM ls v) (fun m=>K (colT v m)+rsM K ls Ms f (toM v m)) Ms (-1)) 0
def rsV (K:List Int→Int) (ls:List Nat) (Ms:List (List Nat)) (v:List Nat):Int:=rsM K ls Ms (sumL ls - sumL v) v
theorem rsM_nn (K:List Int→Int) (ls:List Nat) (Ms:List (List Nat)):∀ f v,0≤rsM K ls Ms f v
 | 0,_=>Int.le_refl _
 | f+1,v=>by unfold rsM;omega
theorem toM_rem {ls v m:List Nat} {n:Nat} {Ms:List (List Nat)} (hM:MvsOk n Ms) (hn:ls.length=n) (hv:InB ls v) (hm:m∈Ms) (hp:possM ls v m=true):InB ls (toM v m)∧sumL v+m.length=sumL (toM v m)∧0<m.length∧sumL (toM v m)≤sumL ls:=by
 have h1:=hM.lt m hm
 have h2:=possM_iff.1 hp
 have hi:=toM_in hv (hM.nd m hm) fun s hs=>⟨by rw [hn];exact h1 s hs,h2 s hs⟩
 exact⟨hi,(toM_sum m v fun s hs=>by rw [hv.len,hn];exact h1 s hs).symm,List.length_pos_iff.2 (hM.ne m hm),sumL_le hi⟩
theorem rsM_fuel (K:List Int→Int) {ls:List Nat} {n:Nat} {Ms:List (List Nat)} (hM:MvsOk n Ms) (hn:ls.length=n):∀ f v,InB ls v→sumL ls - sumL v≤f→∀ g,sumL ls - sumL v≤g→rsM K ls Ms f v=rsM K ls Ms g v:=by
 have none0:∀ v,InB ls v→sumL ls - sumL v=0→∀ m∈Ms,possM ls v m=false:=fun v hv h0 m hm=>by
  cases hp:possM ls v m with
  | false=>rfl
  | true =>
   obtain⟨h1,h2,h3,h4⟩:=toM_rem hM hn hv hm hp
   omega
 intro f
 induction f with
 | zero =>
  intro v hv h0 g hg
  cases g with
  | zero=>rfl
  | succ g =>
   show 0=max (foldB _ _ Ms (-1)) 0
   rw [foldB_none (none0 v hv (by omega))];rfl
 | succ f ih =>
  intro v hv hf g hg
  cases g with
  | zero =>
   show max (foldB _ _ Ms (-1)) 0=0
   rw [foldB_none (none0 v hv (by omega))];rfl
  | succ g =>
   show max (foldB _ _ Ms (-1)) 0=max (foldB _ _ Ms (-1)) 0
   rw [foldB_congr fun m hm hp=>?_]
   obtain⟨h1,h2,h3,h4⟩:=toM_rem hM hn hv hm hp
   rw [ih (toM v m) h1 (by omega) g (by omega)]
theorem rsV_nn (K:List Int→Int) (ls:List Nat) (Ms:List (List Nat)) (v:List Nat):0≤rsV K ls Ms v:=rsM_nn _ _ _ _ _
theorem rsV_end (K:List Int→Int) (ls:List Nat) (Ms:List (List Nat)):rsV K ls Ms ls=0:=by unfold rsV;rw [Nat.sub_self];rfl
theorem eq_of_sum:∀ {ls v:List Nat},InB ls v→sumL ls≤sumL v→v=ls
 | [],[],_,_=>rfl
 | n::ls,a::v,h,hs=>by
  have h1:=sumL_le h.2
  have h2:=h.1
  have h3:n+sumL ls≤a+sumL v:=hs
  rw [eq_of_sum h.2 (by omega),show a=n by omega]
 | [],a::v,h,_=>h.elim
 | n::ls,[],h,_=>h.elim
def mcV (K:List Int→Int) (ls:List Nat) (Ms:List (List Nat)) (v m:List Nat):Int:=K (colT v m)+rsV K ls Ms (toM v m)
theorem rsV_step {K:List Int→Int} (hK:∀ x,0≤K x) {ls:List Nat} {n:Nat} {Ms:List (List Nat)} (hM:MvsOk n Ms) (hn:ls.length=n) {v:List Nat} (hv:InB ls v) (hne:v≠ls) :
  rsV K ls Ms v=foldB (possM ls v) (mcV K ls Ms v) Ms (-1):=by
 have hs:sumL v<sumL ls:=Nat.lt_of_not_le fun h=>hne (eq_of_sum hv h)
 obtain⟨f,hf⟩:∃ f,sumL ls - sumL v=f+1:=⟨sumL ls - sumL v - 1,by omega⟩
 unfold rsV
 rw [hf]
 show max (foldB _ _ Ms (-1)) 0=_
 rw [foldB_congr (g:=mcV K ls Ms v) fun m hm hp=>?_]
 ·obtain⟨s,hs1,hs2⟩:=hv.some hne
  have h0:∀ m,0≤mcV K ls Ms v m:=fun m=>by have:=hK (colT v m);have:=rsV_nn K ls Ms (toM v m);unfold mcV;omega
  have:=((foldB_spec (p:=possM ls v) h0 Ms (-1) (by omega)).2.2.1 [s] (hM.one s (by omega)) (possM_iff.2 fun u hu=>by rw [List.mem_singleton] at hu;subst hu;exact hs2)).1
  omega
 ·obtain⟨h1,h2,h3,h4⟩:=toM_rem hM hn hv hm hp
  show K (colT v m)+_=K (colT v m)+rsM K ls Ms (sumL ls - sumL (toM v m)) (toM v m)
  rw [rsM_fuel K hM hn f (toM v m) h1 (by omega) (sumL ls - sumL (toM v m)) (by omega)]
theorem mcV_nn {K:List Int→Int} (hK:∀ x,0≤K x) (ls:List Nat) (Ms:List (List Nat)) (v m:List Nat):0≤mcV K ls Ms v m:=by
 have:=hK (colT v m);have:=rsV_nn K ls Ms (toM v m);unfold mcV;omega
def fitM (K:List Int→Int) (ls:List Nat) (Ms:List (List Nat)) (v m:List Nat):Bool:=possM ls v m && decide (mcV K ls Ms v m=rsV K ls Ms v)
def alM (K:List Int→Int) (ls:List Nat) (Ms:List (List Nat)):Nat→List Nat→List (List Int)
 | 0,_=>[]
 | f+1,v=>match Ms.find? (fitM K ls Ms v) with
  | some m=>colT v m::alM K ls Ms f (toM v m)
  | none=>[]
def alV19 (K:List Int→Int) (ls:List Nat) (Ms:List (List Nat)) (v:List Nat):List (List Int):=alM K ls Ms (sumL ls - sumL v) v
theorem fit_some {K:List Int→Int} (hK:∀ x,0≤K x) {ls:List Nat} {n:Nat} {Ms:List (List Nat)} (hM:MvsOk n Ms) (hn:ls.length=n) {v:List Nat} (hv:InB ls v) (hne:v≠ls) :
  ∃ m,Ms.find? (fitM K ls Ms v)=some m∧m∈Ms∧possM ls v m=true∧mcV K ls Ms v m=rsV K ls Ms v:=by
 have hst:=rsV_step hK hM hn hv hne
 obtain⟨s,hs1,hs2⟩:=hv.some hne
 have h0:=mcV_nn hK ls Ms v
 obtain⟨-,-,h3,h4⟩:=foldB_spec (p:=possM ls v) h0 Ms (-1) (by omega)
 have h5:=(h3 [s] (hM.one s (by omega)) (possM_iff.2 fun u hu=>by rw [List.mem_singleton] at hu;subst hu;exact hs2)).1
 rcases h4 with h4|⟨m,hm,hp,he⟩
 ·omega
 ·have hfit:fitM K ls Ms v m=true:=by unfold fitM;rw [hp,hst,he];simp
  cases hf:Ms.find? (fitM K ls Ms v) with
  | none=>exact absurd hfit (by have:=List.find?_eq_none.1 hf m hm;simpa using this)
  | some k =>
   have h6:=List.find?_some hf
   unfold fitM at h6
   rw [Bool.and_eq_true,decide_eq_true_eq] at h6
   exact⟨k,rfl,List.mem_of_find?_eq_some hf,h6.1,h6.2⟩
theorem alM_fuel (K:List Int→Int) {ls:List Nat} {n:Nat} {Ms:List (List Nat)} (hM:MvsOk n Ms) (hn:ls.length=n):∀ f v,InB ls v→sumL ls - sumL v≤f→∀ g,sumL ls - sumL v≤g→alM K ls Ms f v=alM K ls Ms g v:=by
 have none0:∀ v,InB ls v→sumL ls - sumL v=0→∀ m∈Ms,fitM K ls Ms v m=false:=fun v hv h0 m hm=>by
  cases hp:fitM K ls Ms v m with
  | false=>rfl
  | true =>
   unfold fitM at hp
   rw [Bool.and_eq_true] at hp
   obtain⟨h1,h2,h3,h4⟩:=toM_rem hM hn hv hm hp.1
   omega
 have nf:∀ v,InB ls v→sumL ls - sumL v=0→Ms.find? (fitM K ls Ms v)=none:=fun v hv h0=>List.find?_eq_none.2 fun m hm=>by rw [none0 v hv h0 m hm];simp
 intro f
 induction f with
 | zero =>
  intro v hv h0 g hg
  cases g with
  | zero=>rfl
  | succ g=>unfold alM;rw [nf v hv (by omega)]
 | succ f ih =>
  intro v hv hf g hg
  cases g with
  | zero=>unfold alM;rw [nf v hv (by omega)]
  | succ g =>
   unfold alM
   cases hF:Ms.find? (fitM K ls Ms v) with
   | none=>rfl
   | some m =>
    have h6:=List.find?_some hF
    unfold fitM at h6
    rw [Bool.and_eq_true] at h6
    obtain⟨h1,h2,h3,h4⟩:=toM_rem hM hn hv (List.mem_of_find?_eq_some hF) h6.1
    simp only
    rw [ih (toM v m) h1 (by omega) g (by omega)]
theorem alV_step {K:List Int→Int} {ls:List Nat} {n:Nat} {Ms:List (List Nat)} (hM:MvsOk n Ms) (hn:ls.length=n) {v m:List Nat} (hv:InB ls v) (hf:Ms.find? (fitM K ls Ms v)=some m):alV19 K ls Ms v=colT v m::alV19 K ls Ms (toM v m):=by
 have h6:=List.find?_some hf
 unfold fitM at h6
 rw [Bool.and_eq_true] at h6
 obtain⟨h1,h2,h3,h4⟩:=toM_rem hM hn hv (List.mem_of_find?_eq_some hf) h6.1
 obtain⟨f,hf2⟩:∃ f,sumL ls - sumL v=f+1:=⟨sumL ls - sumL v - 1,by omega⟩
 unfold alV19
 rw [hf2,alM,hf]
 simp only
 rw [alM_fuel K hM hn f (toM v m) h1 (by omega) (sumL ls - sumL (toM v m)) (by omega)]
theorem alV_end (K:List Int→Int) (ls:List Nat) (Ms:List (List Nat)):alV19 K ls Ms ls=[]:=by unfold alV19;rw [Nat.sub_self];rfl
def RestOk (ls v:List Nat) (cols:List (List Int)):Prop:=(∀ x∈cols,x.length=ls.length)∧(∀ x∈cols,∃ z∈x,z ≠ -1)∧∀ s n,ls[s]?=some n→srcC cols s=(upto n).drop (v.getD s 0)
theorem RestOk.cons {ls v m:List Nat} {cols:List (List Int)} (hv:InB ls v) (hm:m≠[]) (hd:m.Nodup) (hlt:∀ s∈m,s<ls.length) (hp:possM ls v m=true) (h:RestOk ls (toM v m) cols):RestOk ls v (colT v m::cols):=by
 have hlen:=hv.len
 obtain⟨h1,h2,h3⟩:=h
 refine ⟨fun x hx=>?_,fun x hx=>?_,fun s n hs=>?_⟩
 ·rcases List.mem_cons.1 hx with rfl|hx
  ·rw [colT_len,hlen]
  ·exact h1 x hx
 ·rcases List.mem_cons.1 hx with rfl|hx
  ·obtain⟨s,ms,rfl⟩:=List.exists_cons_of_ne_nil hm
   have hs:s<v.length:=by rw [hlen];exact hlt s (.head _)
   have hg:=colT_get (m:=s::ms) hs
   rw [if_pos List.mem_cons_self] at hg
   refine ⟨_,?_,show ((v.getD s 0:Nat):Int) ≠ -1 by omega⟩
   rw [← hg,List.getD_eq_getElem?_getD,List.getElem?_eq_getElem (by rw [colT_len];exact hs)]
   exact List.getElem_mem _
  ·exact h2 x hx
 ·have hsl:s<ls.length:=(List.getElem?_eq_some_iff.1 hs).1
  rw [srcC_cons,h3 s n hs,colT_get (by rw [hlen];exact hsl),toM_get m v hd (fun u hu=>by rw [hlen];exact hlt u hu)]
  by_cases hsm:s∈m
  ·rw [if_pos hsm,if_pos hsm,if_neg (by omega)]
   have:=possM_iff.1 hp s hsm
   rw [List.getD_eq_getElem?_getD (l:=ls),hs] at this
   rw [upto_drop (show v.getD s 0<n from this)];rfl
  ·rw [if_neg hsm,if_neg hsm,if_pos rfl];rfl
theorem RestOk.nil (ls:List Nat):RestOk ls ls []:=⟨fun x h=>(by cases h),fun x h=>(by cases h),fun s n hs=>by
 rw [List.getD_eq_getElem?_getD,hs]
 show []=(upto n).drop n
 rw [List.drop_of_length_le (by rw [upto_len];exact Nat.le_refl _)]⟩
theorem alV_rest {K:List Int→Int} (hK:∀ x,0≤K x) {ls:List Nat} {n:Nat} {Ms:List (List Nat)} (hM:MvsOk n Ms) (hn:ls.length=n):∀ f v,InB ls v→sumL ls - sumL v=f→RestOk ls v (alV19 K ls Ms v)∧((alV19 K ls Ms v).map K).sum=rsV K ls Ms v∧(alV19 K ls Ms v).length≤f:=by
 intro f
 induction f using Nat.strongRecOn with
 | _ f ih =>
  intro v hv hf
  by_cases he:v=ls
  ·subst he
   rw [alV_end,rsV_end]
   exact⟨RestOk.nil _,rfl,Nat.zero_le _⟩
  ·obtain⟨m,h1,hm,hp,hc⟩:=fit_some hK hM hn hv he
   obtain⟨g1,g2,g3,g4⟩:=toM_rem hM hn hv hm hp
   obtain⟨i1,i2,i3⟩:=ih (sumL ls - sumL (toM v m)) (by omega) (toM v m) g1 rfl
   rw [alV_step hM hn hv h1]
   refine ⟨RestOk.cons hv (hM.ne m hm) (hM.nd m hm) (fun s hs=>by rw [hn];exact hM.lt m hm s hs) hp i1,?_,?_⟩
   ·rw [List.map_cons,List.sum_cons,i2];exact hc
   ·rw [List.length_cons];omega
theorem RestOk.colsOk {ls:List Nat} {cols:List (List Int)}:RestOk ls (List.replicate ls.length 0) cols↔ColsOk ls cols:=by
 have e:∀ s,(List.replicate ls.length 0).getD s 0=0:=fun s=>by
  rw [List.getD_eq_getElem?_getD,List.getElem?_replicate];split <;> rfl
 constructor
 ·rintro⟨h1,h2,h3⟩
  exact⟨h1,h2,fun s n hs=>by rw [h3 s n hs,e,List.drop_zero]⟩
 ·rintro⟨h1,h2,h3⟩
  exact⟨h1,h2,fun s n hs=>by rw [h3 s n hs,e,List.drop_zero]⟩
theorem InB.zero:∀ ls:List Nat,InB ls (List.replicate ls.length 0)
 | []=>trivial
 | n::ls=>⟨Nat.zero_le _,InB.zero ls⟩
end Go.Proofs.YtefieebkankfoaaGreatDoor
namespace Go.Proofs.YtefieebkankfoaaGreatDoor

def mvOfC (x:List Int):List Nat:=(List.range x.length).filter fun s=>decide (x.getD s (-1) ≠ -1)
theorem mvOfC_mem {x:List Int} {s:Nat}:s∈mvOfC x↔s<x.length∧x.getD s (-1) ≠ -1:=by
 unfold mvOfC;rw [List.mem_filter,List.mem_range];simp
theorem mvOfC_asc (x:List Int):(mvOfC x).Pairwise (· < ·):=(List.pairwise_lt_range).filter _
theorem asc_nodup {m:List Nat} (h:m.Pairwise (· < ·)):m.Nodup:=h.imp fun h=>Nat.ne_of_lt h
theorem ext_getD {a b:List Int} (hl:a.length=b.length) (h:∀ s,s<a.length→a.getD s (-1)=b.getD s (-1)):a=b:=by
 refine List.ext_getElem? fun s=>?_
 by_cases hs:s<a.length
 ·have:=h s hs
  rw [List.getD_eq_getElem?_getD,List.getD_eq_getElem?_getD,List.getElem?_eq_getElem hs,List.getElem?_eq_getElem (hl ▸ hs)] at this
  rw [List.getElem?_eq_getElem hs,List.getElem?_eq_getElem (hl ▸ hs)]
  exact congrArg some this
 ·rw [List.getElem?_eq_none (by omega),List.getElem?_eq_none (by omega)]
theorem drop_cons {n p:Nat} {z:Int} {r:List Int} (h:z::r=(upto n).drop p):p<n∧z=(p:Int)∧r=(upto n).drop (p+1):=by
 by_cases hp:p<n
 ·rw [upto_drop hp] at h
  cases h
  exact⟨hp,rfl,rfl⟩
 ·rw [List.drop_of_length_le (by rw [upto_len];omega)] at h
  cases h
theorem RestOk.step {ls v:List Nat} {x:List Int} {cols:List (List Int)} (hv:InB ls v) (h:RestOk ls v (x::cols)) :
  x=colT v (mvOfC x)∧possM ls v (mvOfC x)=true∧mvOfC x≠[]∧(∀ s∈mvOfC x,s<ls.length)∧RestOk ls (toM v (mvOfC x)) cols:=by
 have hlen:=hv.len
 obtain⟨h1,h2,h3⟩:=h
 have hx:=h1 x (.head _)
 have hmem:∀ s,s∈mvOfC x↔s<x.length∧x.getD s (-1) ≠ -1:=fun s=>mvOfC_mem
 have hent:∀ s,s<ls.length→x.getD s (-1) ≠ -1→v.getD s 0<ls.getD s 0∧x.getD s (-1)=((v.getD s 0:Nat):Int)∧srcC cols s=(upto (ls.getD s 0)).drop (v.getD s 0+1):=fun s hs hne=>by
  have h4:=h3 s _ (List.getElem?_eq_getElem hs)
  rw [srcC_cons,if_neg hne] at h4
  have e:ls.getD s 0=ls[s]:=by rw [List.getD_eq_getElem?_getD,List.getElem?_eq_getElem hs];rfl
  rw [e]
  exact drop_cons h4
 have hlt:∀ s∈mvOfC x,s<ls.length:=fun s hs=>by rw [← hx];exact (hmem s).1 hs |>.1
 have hp:possM ls v (mvOfC x)=true:=possM_iff.2 fun s hs=>(hent s (hlt s hs) ((hmem s).1 hs).2).1
 have hxe:x=colT v (mvOfC x):=ext_getD (by rw [colT_len,hlen,hx]) fun s hs=>by
  rw [colT_get (by omega)]
  by_cases hne:x.getD s (-1) = -1
  ·rw [if_neg (fun hm=>((hmem s).1 hm).2 hne),hne]
  ·rw [if_pos ((hmem s).2 ⟨hs,hne⟩)]
   exact (hent s (by omega) hne).2.1
 refine ⟨hxe,hp,?_,hlt,fun y hy=>h1 y (.tail _ hy),fun y hy=>h2 y (.tail _ hy),fun s n hs=>?_⟩
 ·obtain⟨z,hz,hz2⟩:=h2 x (.head _)
  obtain⟨s,hs,rfl⟩:=List.getElem_of_mem hz
  have:s∈mvOfC x:=(hmem s).2 ⟨hs,by rw [List.getD_eq_getElem?_getD,List.getElem?_eq_getElem hs];exact hz2⟩
  exact List.ne_nil_of_mem this
 ·have hsl:s<ls.length:=(List.getElem?_eq_some_iff.1 hs).1
  have e:ls.getD s 0=n:=by rw [List.getD_eq_getElem?_getD,hs];rfl
  rw [toM_get _ v (asc_nodup (mvOfC_asc x)) (fun u hu=>by rw [hlen];exact hlt u hu)]
  have h4:=h3 s n hs
  rw [srcC_cons] at h4
  by_cases hne:x.getD s (-1) = -1
  ·rw [if_pos hne] at h4
   rw [if_neg (fun hm=>((hmem s).1 hm).2 hne)]
   exact h4
  ·rw [if_pos ((hmem s).2 ⟨by omega,hne⟩)]
   have:=(hent s hsl hne).2.2
   rw [e] at this
   exact this
def mvL:Nat→List (List Nat)
 | 1=>[[0]]
 | 2=>[[0,1],[0],[1]]
 | 3=>[[0,1,2],[0,1],[0,2],[1,2],[0],[1],[2]]
 | 4=>[[0,1,2,3],[0,1,2],[0,1,3],[0,2,3],[1,2,3],[0,1],[0,2],[0,3],[1,2],[1,3],[2,3],[0],[1],[2],[3]]
 | _=>[]
theorem mvL_ok {n:Nat} (h1:1≤n) (h4:n≤4):MvsOk n (mvL n):=by
 obtain rfl|rfl|rfl|rfl:n=1∨n=2∨n=3∨n=4:=by omega
 all_goals exact⟨by decide,by decide,by decide,by decide⟩
end Go.Proofs.YtefieebkankfoaaGreatDoor
namespace Go.Proofs.YtefieebkankfoaaGreatDoor

def cmpL:List Nat→List Nat→Int
 | [],[]=>0
 | [],_::_ => -1
 | _::_,[]=>1
 | a::p,b::q=>if a<b then -1 else if b<a then 1 else cmpL p q
theorem cmpL_self:∀ a:List Nat,cmpL a a=0
 | []=>rfl
 | a::p=>by unfold cmpL;rw [if_neg (Nat.lt_irrefl a),if_neg (Nat.lt_irrefl a),cmpL_self p]
theorem cmpL_zero:∀ {a b:List Nat},cmpL a b=0→a=b
 | [],[],_=>rfl
 | [],_::_,h=>by cases h
 | _::_,[],h=>by cases h
 | a::p,b::q,h=>by
  unfold cmpL at h
  split at h
  ·cases h
  ·split at h
   ·cases h
   ·rw [show a=b by omega,cmpL_zero h]
theorem cmpL_neg:∀ a b:List Nat,cmpL a b = -cmpL b a
 | [],[]=>rfl
 | [],_::_=>rfl
 | _::_,[]=>rfl
 | a::p,b::q=>by
  have ih:=cmpL_neg p q
  unfold cmpL
  by_cases h1:a<b
  ·rw [if_pos h1,if_neg (by omega),if_pos h1]
  ·by_cases h2:b<a
   ·rw [if_neg h1,if_pos h2,if_pos h2];rfl
   ·rw [if_neg h1,if_neg h2,if_neg h2,if_neg h1,ih]
theorem cmpL_trans:∀ {a b c:List Nat},cmpL a b<0→cmpL b c<0→cmpL a c<0
 | [],[],_,h,_=>by simp [cmpL] at h
 | [],_::_,[],_,h=>by simp [cmpL] at h
 | [],_::_,_::_,_,_=>by simp [cmpL]
 | _::_,[],_,h,_=>by simp [cmpL] at h
 | _::_,_::_,[],_,h=>by simp [cmpL] at h
 | a::p,b::q,c::r,h1,h2=>by
  have ih:=@cmpL_trans p q r
  unfold cmpL at h1 h2 ⊢
  by_cases ab:a<b
  ·by_cases bc:b<c
   ·rw [if_pos (by omega)];omega
   ·rw [if_neg bc] at h2
    by_cases cb:c<b
    ·rw [if_pos cb] at h2;omega
    ·rw [if_pos (by omega)];omega
  ·rw [if_neg ab] at h1
   by_cases ba:b<a
   ·rw [if_pos ba] at h1;omega
   ·rw [if_neg ba] at h1
    by_cases bc:b<c
    ·rw [if_pos (by omega)];omega
    ·rw [if_neg bc] at h2
     by_cases cb:c<b
     ·rw [if_pos cb] at h2;omega
     ·rw [if_neg cb] at h2
      rw [if_neg (by omega),if_neg (by omega)]
      exact ih h1 h2
def cmpM (a b:List Nat):Int:=if a.length≠b.length then (b.length:Int) - a.length else cmpL a b
theorem cmpM_self (a:List Nat):cmpM a a=0:=by unfold cmpM;rw [if_neg (by simp),cmpL_self]
theorem cmpM_neg (a b:List Nat):cmpM a b = -cmpM b a:=by
 unfold cmpM
 by_cases h:a.length=b.length
 ·rw [if_neg (by simpa using h),if_neg (by simpa using h.symm),cmpL_neg]
 ·rw [if_pos h,if_pos (fun e=>h e.symm)];omega
theorem cmpM_zero {a b:List Nat} (h:cmpM a b=0):a=b:=by
 unfold cmpM at h
 by_cases e:a.length=b.length
 ·rw [if_neg (by simpa using e)] at h;exact cmpL_zero h
 ·rw [if_pos e] at h;omega
theorem cmpM_trans {a b c:List Nat} (h1:cmpM a b<0) (h2:cmpM b c<0):cmpM a c<0:=by
 unfold cmpM at h1 h2 ⊢
 by_cases ab:a.length=b.length
 ·rw [if_neg (by simpa using ab)] at h1
  by_cases bc:b.length=c.length
  ·rw [if_neg (by simpa using bc)] at h2
   rw [if_neg (by simp;omega)]
   exact cmpL_trans h1 h2
  ·rw [if_pos bc] at h2
   rw [if_pos (by omega)];omega
 ·rw [if_pos ab] at h1
  by_cases bc:b.length=c.length
  ·rw [if_pos (by omega)];omega
  ·rw [if_pos bc] at h2
   rw [if_pos (by omega)];omega
def bitsL (n q:Nat):List Nat:=(List.range n).filter fun s=>q.testBit s
def allL (n:Nat):List (List Nat):=((List.range (2 ^ n)).map (bitsL n)).filter fun m => !m.isEmpty
def ascM:List (List Nat)→Bool
 | []=>true
 | [_]=>true
 | a::b::l=>decide (cmpM a b<0) && ascM (b::l)
theorem mvL_cmp:∀ n,ascM (mvL n)=true
 | 0=>rfl
 | 1=>rfl
 | 2=>by decide
 | 3=>by decide
 | 4=>by decide
 | _+5=>rfl
theorem ascM_pw:∀ {l:List (List Nat)},ascM l=true→l.Pairwise fun a b=>cmpM a b<0
 | [],_ => .nil
 | [a],_ => .cons (fun b h=>by cases h) .nil
 | a::b::l,h=>by
  unfold ascM at h
  rw [Bool.and_eq_true,decide_eq_true_eq] at h
  have ih:=ascM_pw h.2
  refine .cons (fun c hc=>?_) ih
  rcases List.mem_cons.1 hc with rfl|hc
  ·exact h.1
  ·exact cmpM_trans h.1 ((List.pairwise_cons.1 ih).1 c hc)
theorem allL_perm {n:Nat} (h1:1≤n) (h4:n≤4):(allL n).Perm (mvL n):=by
 obtain rfl|rfl|rfl|rfl:n=1∨n=2∨n=3∨n=4:=by omega
 all_goals decide
theorem mvL_sorted {n:Nat} (h1:1≤n) (h4:n≤4) {l:List (List Nat)} (hp:l.Perm (allL n)) (hs:l.Pairwise fun a b=>¬ cmpM b a<0):l=mvL n:=by
 refine List.Perm.eq_of_pairwise (le:=fun a b=>¬ cmpM b a<0) (fun a b _ _ g1 g2=>?_) hs ((ascM_pw (mvL_cmp n)).imp fun {a b} h=>?_) (hp.trans (allL_perm h1 h4))
 ·have:=cmpM_neg a b
  exact cmpM_zero (by omega)
 ·have:=cmpM_neg a b
  omega
end Go.Proofs.YtefieebkankfoaaGreatDoor
namespace Go.Proofs.YtefieebkankfoaaGreatDoor
open Go.RowKit Go.Shelf Go.Proofs

def lstV (c:Costs) (l:List TS):Int:=rsV (colZ c l) (lens l) (mvL l.length) (List.replicate l.length 0)
def alnW (c:Costs) (l:List TS):List (List Int):=alV19 (colZ c l) (lens l) (mvL l.length) (List.replicate l.length 0)
theorem colZ_nn {c:Costs} (hc:costE c=0) {l:List TS} (h4:l.length≤4) (x:List Int):0≤colZ c l x:=(colZ_bd hc (by omega) x).1
theorem alnW_ok {c:Costs} (hc:costE c=0) {l:List TS} (h1:1≤l.length) (h4:l.length≤4):ColsOk (lens l) (alnW c l)∧totZ c l (alnW c l)=lstV c l:=by
 have hn:(lens l).length=l.length:=lens_len l
 have hz:=InB.zero (lens l)
 obtain⟨i1,i2,-⟩:=alV_rest (K:=colZ c l) (colZ_nn hc h4) (mvL_ok h1 h4) hn _ _ hz rfl
 rw [hn] at i1 i2
 refine ⟨RestOk.colsOk.1 (by rw [hn];exact i1),i2⟩
theorem ColsOk.lt {ls:List Nat} {cols:List (List Int)} (h:ColsOk ls cols) {x:List Int} (hx:x∈cols) {s:Nat} (hs:s<ls.length):x.getD s (-1)<(ls.getD s 0:Int):=by
 have hl:=h.len x hx
 have:=(h.entry hx (s:=s) (n:=ls[s]) (z:=x[s]'(by omega)) (List.getElem?_eq_getElem hs) (List.getElem?_eq_getElem (by omega))).2
 rw [List.getD_eq_getElem?_getD,List.getElem?_eq_getElem (by omega),List.getD_eq_getElem?_getD (l:=ls),List.getElem?_eq_getElem hs]
 exact this
structure BackS (l l':List TS):Prop where
 len:l'.length=l.length
 toks:∀ s,s<l.length→(tsA l' s).l=(tsA l s).l.reverse
 n:lens l'=lens l
 ok:∀ s,s<l.length→(lens l).getD s 0=(tsA l s).l.length
theorem BackS.swap {l l':List TS} (h:BackS l l'):BackS l' l:=by
 refine ⟨h.len.symm,fun s hs=>?_,h.n.symm,fun s hs=>?_⟩
 ·rw [h.toks s (by rw [← h.len];exact hs),List.reverse_reverse]
 ·rw [h.n,h.toks s (by rw [← h.len];exact hs),List.length_reverse,h.ok s (by rw [← h.len];exact hs)]
end Go.Proofs.YtefieebkankfoaaGreatDoor
namespace Go.Proofs.YtefieebkankfoaaGreatDoor
open Go.RowKit Go.Shelf Go.Proofs

end Go.Proofs.YtefieebkankfoaaGreatDoor
namespace Go.Proofs.YtefieebkankfoaaGreatDoor
open Go.RowKit Go.Shelf Go.Proofs

def SameL (l l':List TS):Prop:=l.map TS.l=l'.map TS.l
theorem SameL.len {l l':List TS} (h:SameL l l'):l.length=l'.length:=by
 have:=congrArg List.length h
 rwa [List.length_map,List.length_map] at this
theorem SameL.get {l l':List TS} (h:SameL l l') (i:Nat):(tsA l i).l=(tsA l' i).l:=by
 have e:=congrArg (fun x:List (List Tok)=>x[i]?) h
 simp only [List.getElem?_map] at e
 unfold tsA
 rw [List.getD_eq_getElem?_getD,List.getD_eq_getElem?_getD]
 cases h1:l[i]? with
 | none =>
  cases h2:l'[i]? with
  | none=>rfl
  | some y=>rw [h1,h2] at e;cases e
 | some x =>
  cases h2:l'[i]? with
  | none=>rw [h1,h2] at e;cases e
  | some y=>rw [h1,h2] at e;exact Option.some.inj e
theorem SameL.dst {l l':List TS} (h:SameL l l') (c:Costs):dstT c l=dstT c l':=by
 funext i k
 unfold dstT
 rw [h.get,h.get]
theorem SameL.put {l l':List TS} (h:SameL l l') (c:Costs) (col:List Int) (t:List Tok) (k:Int):putC c l col t k=putC c l' col t k:=by
 have e:∀ m:List TS,putC c m col t k=(((m.map TS.l).zip col).map fun p=>entC c p.1 p.2 t k).sum:=fun m=>by
  unfold putC
  rw [List.zip_map_left,List.map_map]
  rfl
 rw [e l,e l',h]
theorem SameL.add {l l':List TS} (h:SameL l l') (c:Costs) (cols:List (List Int)) (t:List Tok):addV c l cols t=addV c l' cols t:=by
 funext i k
 have e:grdA c l cols t=grdA c l' cols t:=by
  unfold grdA
  simp only [h.put,h.len]
 unfold addV
 rw [e,h.len]
theorem SameL.tak {l l':List TS} (h:SameL l l') (ord:List Nat) (j:Nat):SameL (takS l ord j) (takS l' ord j):=by
 unfold SameL takS
 rw [List.map_map,List.map_map]
 exact List.map_congr_left fun i _=>h.get i
theorem SameL.stg {l l':List TS} (h:SameL l l') (c:Costs) (ord:List Nat):∀ j,stgV c l ord j=stgV c l' ord j
 | 0=>rfl
 | j+1=>by
  unfold stgV
  rw [(h.tak ord j).add,SameL.stg h c ord j,h.get]
theorem SameL.bad {l l':List TS} (h:SameL l l'):badS l=badS l':=by
 have e:∀ m:List TS,badS m=(m.map TS.l).any badL:=fun m=>by unfold badS;rw [List.any_map];rfl
 rw [e,e,h]
theorem SameL.ck {l l':List TS} (h:SameL l l') (c:Costs):ck21 c l=ck21 c l':=by unfold ck21;rw [h.bad]
theorem SameL.ord {l l':List TS} (h:SameL l l') (c:Costs):ordV c l=ordV c l':=by unfold ordV;rw [h.ck,h.dst,h.len]
theorem SameL.aln {l l':List TS} (h:SameL l l') (c:Costs):alnA c l=alnA c l':=by unfold alnA alnP;rw [h.ck,h.dst,h.len,h.stg]
end Go.Proofs.YtefieebkankfoaaGreatDoor
namespace Go.Proofs.YtefieebkankfoaaGreatDoor
open Go.RowKit Go.Shelf Go.Proofs
set_option maxRecDepth 100000

def sA:ByteArray:=⟨#[97]⟩
end Go.Proofs.YtefieebkankfoaaGreatDoor
namespace Go.Proofs.YtefieebkankfoaaGreatDoor
open Go.RowKit Go.Shelf Go.Proofs
set_option maxRecDepth 100000
set_option maxHeartbeats 1000000

theorem nilC (H:List HA):Hle H (dat [.slice none 0 0] [rowsD []]::H):=hle_unit (B:=dat [.slice none 0 0] [rowsD []]) (.s none 0 0 1 [] rfl (Nat.le_refl _) (by omega) (fun h=>absurd h (by omega)) .nil .nil)
theorem Rd.intsAt {w:World} {A:Option Addr} {n cap:Nat} {p:List Int} (h:Rd (wr w) [.slice A n cap] [intsD p]):Src w 1 A n (p.map (Value.int .i64)):=by
 obtain⟨A',cap',e,-,hs⟩:=h.ints
 cases e
 exact hs
theorem stg_prod {c:Costs} {l:List TS} {ord:List Nat} (hlt:∀ k∈ord,k<l.length) (hln:∀ t∈l,t.l.length≤100) {j m:Nat} (hj:j≤ord.length) (hj2:j≤32) (hm:m≤100):(stgV c l ord j).length≤3200∧(((stgV c l ord j).length:Int)+1) * ((m:Int)+1)≤1048576:=by
 have h1:=stgV_len (c:=c) hlt hln j hj
 have h2:(stgV c l ord j).length≤3200:=by omega
 have h3:=Nat.mul_le_mul (show (stgV c l ord j).length+1≤3201 by omega) (show m+1≤101 by omega)
 have h4:(((stgV c l ord j).length:Int)+1) * ((m:Int)+1)=((((stgV c l ord j).length+1) * (m+1):Nat):Int):=by push_cast;rfl
 exact⟨h2,by rw [h4];omega⟩
theorem Grp.addW {w w':World} {A:Option Addr} {l:List TS} (hg:Grp w A l.length l) (hw:Below w.heap.size w w') (hst:Std w') {c:Costs} (hc:costE c=0) (hbs:badS l=false) (hq:∀ t∈l,t.n≤100) {ord:List Nat} (hlt:∀ k∈ord,k<l.length) {j:Nat} (hj:j<ord.length) (hj2:j≤32) {At:Option Addr} {K:Value}
  (hs:Src w' 1 At j ((takS l ord j).map TS.val)) (hx:Rd (wr w') [K] [rowsD (stgV c l ord j)]) {t:TS} (ht:t∈l):AddW w' c At j (takS l ord j) K (stgV c l ord j) t.A t.n t.l:=by
 have hln:∀ t∈l,t.l.length=t.n:=hg.ok.len
 have hg':Grp w' A l.length l:=⟨hst,src_below hg.hs hw,hg.hn,hg.hb,⟨fun t ht=>src_below (hg.ok.src t ht) hw,hg.ok.len,hg.ok.bd⟩,hg.nb,hg.sm⟩
 refine ⟨hg'.tak hlt (by omega) hj2 hs,hc,badS_tak hlt hbs j,hx,fun col hcol=>ColsOk.colOk (l:=takS l ord j) (stgV_ok hlt hln j (by omega)) hcol,hg'.ok.src t ht,hln t ht,hg.nb t ht,badS_ok hbs t ht,hg.sm t ht,?_⟩
 have:=(stg_prod (c:=c) hlt (fun t ht=>by rw [hln t ht];exact hq t ht) (j:=j) (m:=0) (by omega) hj2 (by omega)).1
 omega
theorem alignPrg21_spec (c:Costs) (A:Option Addr) (n ca:Nat) (l:List TS) (w:World) (hg:Grp w A n l) (hq:∀ t∈l,t.n≤100) :
  Spec Tryz.prog 49 [c.val, .slice A n ca] w (fun v R=>∃ x:Value,True∧v = .tuple #[x, .int .i64 (alnA c l).2]∧R=[dat [x] [rowsD (alnA c l).1]]):=by
 have hn:=hg.hn
 subst hn
 have hb:=hg.hb
 refine spec_of sg Tryz.func49 rfl rfl rfl ?_
 refine T_op (OpT.box (cs:=c.cells) rfl rfl rfl rfl rfl rfl rfl (fun pc=>?_))
 repeat' (first|refine d1 ?_|(show T _ (.ops _ (_::_)::_) _ _ _;refine T_call rfl rfl rfl rfl rfl (fun w hw=>check21_spec c A l.length ca l w (hg.cls hw)) ?_)|fail)
 refine T_if rfl (fun h=>?_) (fun h=>?_)
 ·simp only [Bool.not_eq_true',decide_eq_false_iff_not] at h
  have e:alnA c l=([],1):=if_neg h
  rw [e,(ck21_01 c l).resolve_left h]
  repeat' (first|refine d1 ?_|(show T _ (.code .ret::_) _ _ _;refine T_retV _ rfl ((nilC _).trans (Hle.nth 0 rfl)) ⟨_,trivial,rfl,rfl⟩))
 simp only [Bool.not_eq_false',decide_eq_true_eq] at h
 have e:alnA c l=(alnP c l,0):=if_pos h
 rw [e]
 obtain⟨hc,hbs⟩:=ck21_ok h
 have hbd:=dstT_bd hc hg.len
 obtain⟨hd,hlt⟩:=orderV_ok (fun i k=>(hbd i k).1) l.length
 have hol:=orderV_len (dstT c l) l.length
 have e2:alnP c l=(stgV c l (orderV (dstT c l) l.length) l.length).map (arrR (orderV (dstT c l) l.length)):=rfl
 rw [e2]
 repeat' (first|refine d1 ?_|(show T _ (.ops _ (_::_)::_) _ _ _;refine T_op (OpT.call rfl rfl rfl rfl rfl (fun w hw=>order21_spec c A l.length ca l w (hg.cls hw) hc hbs) ?_))|fail)
 rintro v R ⟨x,-,rfl,rfl⟩
 generalize orderV (dstT c l) l.length=ord at hd hlt hol ⊢
 refine T_le (H':=[dat [x] [intsD (intN ord)],blk pc c.cells 51]) (Hle.refl _) ?_
 refine T_open fun p hp=>?_
 have hp2:=hp
 have hil:(intN ord).length=l.length:=by unfold intN;rw [List.length_map,hol]
 obtain⟨Ao,co,rfl,hc1,hc2,hAo⟩:=hp.row1
 rw [hil] at hAo hc1 hp2 ⊢
 have hln:∀ t∈l,t.l.length≤100:=fun t ht=>by rw [hg.ok.len t ht];exact hq t ht
 repeat' (first|refine d1 ?_|fail)
 refine T_if rfl (fun h1=>by exfalso;simp at h1) (fun _=>?_)
 repeat' (first|refine d1 ?_|fail)
 refine T_le (nilC _) ?_
 refine T_nilrow 47 1 ?_
 refine T_loopX (fun s:Nat × (Option Addr × Nat) × Value=>[(30, .int .i64 s.1),(10, .slice s.2.1.1 s.1 s.2.1.2),(9,s.2.2)]) (fun s=>[row 47 1 s.2.1.1 s.2.1.2 s.1 ((takS l ord s.1).map TS.val),dat [s.2.2] [rowsD (stgV c l ord s.1)],fz p,blk pc c.cells 51]) (fun s=>s.1≤l.length) (fun s=>l.length - s.1) (0,(none,0), .slice none 0 0) (Nat.zero_le _) ?_
 rintro⟨j,⟨At,capt⟩,K⟩ hj
 dsimp only at hj ⊢
 repeat' (first|refine d1 ?_|fail)
 refine T_if rfl (fun h3=>?_) (fun h3=>?_)
 ·simp only [decide_eq_true_eq] at h3
  have hjn:j<l.length:=by omega
  obtain⟨bo,oo,rfl,hbo⟩:=hAo (by omega)
  obtain⟨b,o,rfl⟩:=hg.hs.base (by omega)
  have hoj:=ord_get (show j<ord.length by omega)
  have hlj:ord.getD j 0<l.length:=ord_lt hlt (by omega)
  obtain⟨t,ht,htm,hrt⟩:=hg.get hlj
  have hts:tsA l (ord.getD j 0)=t:=tsA_eq ht
  have hst:stgV c l ord (j+1)=addV c (takS l ord j) (stgV c l ord j) t.l 0 0:=by
   show addV c (takS l ord j) (stgV c l ord j) (tsA l (ord.getD j 0)).l 0 0=_
   rw [hts]
  have hpr:=(stg_prod (c:=c) hlt hln (j:=j) (m:=t.n) (by omega) (by omega) (hq t htm)).2
  refine T_le (H':=[dat [K] [rowsD (stgV c l ord j)],row 47 1 At capt j ((takS l ord j).map TS.val),fz p,blk pc c.cells 51]) Hle.srt ?_
  refine T_open fun q hq9=>?_
  refine T_le (H':=[row 47 1 At capt j ((takS l ord j).map TS.val),fz q,fz p,blk pc c.cells 51]) Hle.srt ?_
  repeat' (first|refine d1 ?_|refine dd ?_|(show T _ (.ops _ (_::_)::_) _ _ _;refine T_val rfl (Val.load rfl (fun hg=>rdFz (p:=p) (u := .int .i64 (ord.getD j 0:Nat)) (b:=bo) (by rw [off1];exact hbo j _ (by unfold intN;rw [List.getElem?_map,hoj];rfl)))) rfl rfl rfl ?_)|(show T _ (.run _ _ (_::_) _ _::_) _ _ _;refine rcE rfl rfl rfl rfl rfl rfl rfl (fun w hw=>add21_spec (hg.addW hw.below (hg.hst.cls hw) hc hbs hq hlt (by omega) (by omega) (srcRw w hw) (hq9.own hw) htm) capt t.cap hpr) (fun y9 _=>?_))|fail)
  refine T_if rfl (fun h5=>by exfalso;simp at h5) (fun _=>?_)
  repeat' (first|refine d1 ?_|(show T _ (.ops _ (_::_)::_) _ _ _;refine T_op (OpT.append rfl rfl rfl rfl rfl rfl rfl rfl rfl rfl (fun w hw=>Src.own hw rfl) rfl (by dsimp only;omega) (by omega) (fun A' cap' hA'=>?_)))|(show ∀ _:Nat,T _ _ _ _ _;intro _))
  refine T_backX (j+1,(A',cap'),y9) (Nat.succ_le_of_lt hjn) (by dsimp only;omega) (hG:=?_)
  dsimp only
  rw [takS_succ (by omega),List.map_append,hts,hst,show List.map TS.val [t]=flatP [(0, .slice t.A t.n t.cap)] from rfl]
  exact Hle.srt
 ·simp only [decide_eq_false_iff_not] at h3
  obtain rfl:j=l.length:=by omega
  refine T_le (H':=[dat [K] [rowsD (stgV c l ord l.length)],row 47 1 At capt l.length ((takS l ord l.length).map TS.val),fz p,blk pc c.cells 51]) Hle.srt ?_
  refine T_open fun q hq9=>?_
  have hso:=stgV_ok (c:=c) hlt hg.ok.len l.length (by omega)
  have hlen:=(stg_prod (c:=c) hlt hln (j:=l.length) (m:=0) (by omega) (by omega) (by omega)).1
  repeat' (first|refine d1 ?_|(show T _ (.ops _ (_::_)::_) _ _ _;refine T_op (OpT.call rfl rfl rfl rfl rfl (fun w hw=>arranged_spec K (stgV c l ord l.length) Ao l.length co ord w (hq9.own hw) (by have h9:=(hp2.own hw).intsAt;rw [intN_val] at h9;exact h9) hol (fun r hr=>by rw [hso.len r hr,lens_len,takS_len (by omega)]) hlt (by omega) (by omega)) ?_))|fail)
  rintro v R ⟨y,-,rfl,rfl⟩
  repeat' (first|refine d1 ?_|(show T _ (.code .ret::_) _ _ _;refine T_retV _ rfl (Hle.nth 0 rfl) ⟨_,trivial,rfl,rfl⟩))
end Go.Proofs.YtefieebkankfoaaGreatDoor
namespace Go.Proofs.YtefieebkankfoaaGreatDoor
open Go.RowKit Go.Shelf Go.Proofs
set_option maxRecDepth 100000
set_option maxHeartbeats 4000000

end Go.Proofs.YtefieebkankfoaaGreatDoor
namespace Go.Proofs.YtefieebkankfoaaGreatDoor
open Go.RowKit Go.Shelf Go.Proofs
set_option maxRecDepth 100000
set_option maxHeartbeats 1000000

end Go.Proofs.YtefieebkankfoaaGreatDoor
namespace Go.Proofs.YtefieebkankfoaaGreatDoor
open Go.RowKit Go.Shelf Go.Proofs
set_option maxRecDepth 100000
set_option maxHeartbeats 1000000

theorem rd_toksL {w:World}:∀ {m:List (List Tok)} {cs:List Value},Rd (wr w) cs (m.map toksD)→∃ l:List TS,cs=l.map TS.val∧TsOk w l∧l.map TS.l=m
 | [],cs,h=>by
  have:=h.length
  obtain rfl:cs=[]:=List.eq_nil_of_length_eq_zero this
  exact⟨[],rfl,⟨fun t ht=>(by cases ht),fun t ht=>(by cases ht),fun t ht=>(by cases ht)⟩,rfl⟩
 | t::m,[],h=>by have:=h.length;simp at this
 | t::m,x::cs,h=>by
  obtain⟨h1,h2⟩:=h.cons_inv
  obtain⟨A,cap,rfl,hb,hs,-,-⟩:=h1.toks
  obtain⟨l,rfl,hl,rfl⟩:=rd_toksL h2
  refine ⟨⟨A,t.length,cap,t⟩::l,rfl,⟨fun y hy=>?_,fun y hy=>?_,fun y hy=>?_⟩,rfl⟩
  ·rcases List.mem_cons.1 hy with rfl|hy
   ·exact hs
   ·exact hl.src y hy
  ·rcases List.mem_cons.1 hy with rfl|hy
   ·rfl
   ·exact hl.len y hy
  ·rcases List.mem_cons.1 hy with rfl|hy
   ·exact hb
   ·exact hl.bd y hy
theorem Rd.toksL {w:World} {x:Value} {m:List (List Tok)} (h:Rd (wr w) [x] [.s 1 (m.map toksD)]):∃ A cap,∃ l:List TS,x = .slice A l.length cap∧l.length≤9223372036854775807∧Src w 1 A l.length (l.map TS.val)∧TsOk w l∧l.map TS.l=m:=by
 obtain⟨A,n,cap,cs,rfl,h1,h2,h3,hs,hr⟩:=h.src
 obtain⟨l,rfl,hl,rfl⟩:=rd_toksL hr
 have hn:n=l.length:=by rw [List.length_map,List.length_map] at h1;omega
 subst hn
 exact⟨A,cap,l,rfl,by omega,hs,hl,rfl⟩
end Go.Proofs.YtefieebkankfoaaGreatDoor
namespace Go.Proofs.YtefieebkankfoaaGreatDoor
open Go.RowKit Go.Shelf Go.Proofs
set_option maxRecDepth 100000
set_option maxHeartbeats 1000000

end Go.Proofs.YtefieebkankfoaaGreatDoor
namespace Go.Proofs.YtefieebkankfoaaGreatDoor
open Go.RowKit Go.Shelf Go.Proofs
set_option maxRecDepth 100000
set_option maxHeartbeats 1000000

theorem isNone_true {A:Option Addr} (h:isNone' A=true):A=none:=by cases A <;> simp_all [isNone']
theorem src_none {w:World} {sz n:Nat} {xs:List Value} (h:Src w sz none n xs):n=0∧xs=[]:=by
 have:n=0:=by
  rcases Nat.eq_zero_or_pos n with h1|h1
  ·exact h1
  ·have:=(h.2 h1).1;simp [isAt] at this
 subst this
 exact⟨rfl,List.eq_nil_of_length_eq_zero (by simpa using h.1)⟩
theorem oneMap {α:Type} (f:α→Value) (hf:∀ x,(f x).oneCell'=true):∀ l:List α,oneCells (l.map f)=true
 | []=>rfl
 | x::l=>by rw [List.map_cons];simp only [oneCells,hf,Bool.true_and];exact oneMap f hf l
end Go.Proofs.YtefieebkankfoaaGreatDoor
namespace Go.Proofs.YtefieebkankfoaaGreatDoor
open Go.RowKit Go.Shelf Go.Proofs
set_option maxRecDepth 100000
set_option maxHeartbeats 1000000

def RvIn (l r:List Tok) (i:Nat):Prop:=r.length=l.length∧∀ k,k<l.length→r[k]?=if k<i∨l.length≤k+i then l[l.length - 1 - k]? else l[k]?
theorem RvIn.zero (l:List Tok):RvIn l l 0:=⟨rfl,fun k hk=>by rw [if_neg (by omega)]⟩
theorem RvIn.step {l r:List Tok} {i:Nat} (h:RvIn l r i) (hi:2 * i+1<l.length):RvIn l ((r.set i (tkA r (l.length - 1 - i))).set (l.length - 1 - i) (tkA r i)) (i+1):=by
 obtain⟨h1,h2⟩:=h
 have e1:r[l.length - 1 - i]?=l[l.length - 1 - i]?:=by rw [h2 _ (by omega),if_neg (by omega)]
 have e2:r[i]?=l[i]?:=by rw [h2 _ (by omega),if_neg (by omega)]
 refine ⟨by simp [h1],fun k hk=>?_⟩
 rw [List.getElem?_set,List.getElem?_set,List.length_set]
 by_cases hk1:l.length - 1 - i=k
 ·rw [if_pos hk1,if_pos (by omega),if_pos (by omega),show l.length - 1 - k=i by omega, ← e2,tkA_get (by omega)]
 ·rw [if_neg hk1]
  by_cases hk2:i=k
  ·subst hk2
   rw [if_pos rfl,if_pos (by omega),if_pos (by omega), ← e1,tkA_get (by omega)]
  ·rw [if_neg hk2,h2 k hk]
   by_cases h3:k<i∨l.length≤k+i
   ·rw [if_pos h3,if_pos (by omega)]
   ·rw [if_neg h3,if_neg (by omega)]
theorem RvIn.all {l r:List Tok} {i:Nat} (h:RvIn l r i) (hi:l.length≤2 * i+1):r=l.reverse:=by
 obtain⟨h1,h2⟩:=h
 apply List.ext_getElem?
 intro k
 by_cases hk:k<l.length
 ·rw [h2 k hk,List.getElem?_reverse hk]
  split
  ·rfl
  ·rw [show l.length - 1 - k=k by omega]
 ·rw [List.getElem?_eq_none (by omega),List.getElem?_eq_none (by simp;omega)]
end Go.Proofs.YtefieebkankfoaaGreatDoor
namespace Go.Proofs.YtefieebkankfoaaGreatDoor
open Go.RowKit Go.Shelf Go.Proofs
set_option maxRecDepth 100000
set_option maxHeartbeats 1000000

end Go.Proofs.YtefieebkankfoaaGreatDoor
namespace Go.Proofs.YtefieebkankfoaaGreatDoor
open Go.RowKit Go.Shelf Go.Proofs
set_option maxRecDepth 100000
set_option maxHeartbeats 1000000

theorem cloneS_spec (A:Option Addr) (n c:Nat) (l:List TS) (w:World) (hs:Src w 1 A n (l.map TS.val)) (hb:n≤1000000) :
  Spec Tryz.prog 46 [.slice A n c] w (fun v R=>∃ x:Option Addr × Nat,True∧v = .slice x.1 n x.2∧R=[row 47 1 x.1 x.2 n (l.map TS.val)]):=by
 refine spec_of sg Tryz.func46 rfl rfl rfl ?_
 repeat' (first|refine d1 ?_|(show T _ (.ops _ (_::_)::_) _ _ _;refine T_val rfl (Val.nilS rfl) rfl rfl rfl ?_)|fail)
 refine T_if rfl (fun h=>?_) (fun h=>?_)
 ·obtain rfl:=isNone_true h
  obtain⟨rfl,e⟩:=src_none hs
  rw [e]
  repeat' (first|refine d1 ?_|fail)
  refine T_nilrow 47 1 ?_
  repeat' (first|(show T _ (.code .ret::_) _ _ _;refine T_retV _ rfl Hle.sub ⟨(none,0),trivial,rfl,rfl⟩))
 ·repeat' (first|refine d1 ?_|(show ∀ _:Nat,T _ _ _ _ _;intro _))
  refine T_blk_rowh 1 0 rfl (by omega) ?_
  refine T_op (OpT.append rfl rfl rfl rfl rfl rfl rfl rfl rfl rfl (rdSrc hs) (oneMap TS.val (fun _=>rfl) l) (by dsimp only;omega) (by omega) (fun A' cap' hA'=>?_))
  rw [show 0+n=n by omega,show flatP []++(l.map TS.val)=(l.map TS.val) from rfl]
  repeat' (first|refine d1 ?_|(show T _ (.code .ret::_) _ _ _;refine T_retV _ rfl (Hle.refl _) ⟨(A',cap'),trivial,rfl,rfl⟩))
def RvS (l r:List TS) (i:Nat):Prop:=r.length=l.length∧∀ k,k<l.length→r[k]?=if k<i∨l.length≤k+i then l[l.length - 1 - k]? else l[k]?
theorem RvS.zero (l:List TS):RvS l l 0:=⟨rfl,fun k hk=>by rw [if_neg (by omega)]⟩
theorem tsA_get2 {l:List TS} {i:Nat} (h:i<l.length):l[i]?=some (tsA l i):=by unfold tsA;rw [List.getD_eq_getElem?_getD,List.getElem?_eq_getElem h];rfl
theorem RvS.step {l r:List TS} {i:Nat} (h:RvS l r i) (hi:2 * i+1<l.length):RvS l ((r.set i (tsA r (l.length - 1 - i))).set (l.length - 1 - i) (tsA r i)) (i+1):=by
 obtain⟨h1,h2⟩:=h
 have e1:r[l.length - 1 - i]?=l[l.length - 1 - i]?:=by rw [h2 _ (by omega),if_neg (by omega)]
 have e2:r[i]?=l[i]?:=by rw [h2 _ (by omega),if_neg (by omega)]
 refine ⟨by simp [h1],fun k hk=>?_⟩
 rw [List.getElem?_set,List.getElem?_set,List.length_set]
 by_cases hk1:l.length - 1 - i=k
 ·rw [if_pos hk1,if_pos (by omega),if_pos (by omega),show l.length - 1 - k=i by omega, ← e2,tsA_get2 (by omega)]
 ·rw [if_neg hk1]
  by_cases hk2:i=k
  ·subst hk2
   rw [if_pos rfl,if_pos (by omega),if_pos (by omega), ← e1,tsA_get2 (by omega)]
  ·rw [if_neg hk2,h2 k hk]
   by_cases h3:k<i∨l.length≤k+i
   ·rw [if_pos h3,if_pos (by omega)]
   ·rw [if_neg h3,if_neg (by omega)]
theorem RvS.all {l r:List TS} {i:Nat} (h:RvS l r i) (hi:l.length≤2 * i+1):r=l.reverse:=by
 obtain⟨h1,h2⟩:=h
 apply List.ext_getElem?
 intro k
 by_cases hk:k<l.length
 ·rw [h2 k hk,List.getElem?_reverse hk]
  split
  ·rfl
  ·rw [show l.length - 1 - k=k by omega]
 ·rw [List.getElem?_eq_none (by omega),List.getElem?_eq_none (by simp;omega)]
end Go.Proofs.YtefieebkankfoaaGreatDoor
namespace Go.Proofs.YtefieebkankfoaaGreatDoor
open Go.RowKit Go.Shelf Go.Proofs
set_option maxRecDepth 100000
set_option maxHeartbeats 1000000

theorem flat_one:∀ xs:List Value,xs.flatMap (fun v=>[v])=xs
 | []=>rfl
 | x::xs=>by rw [List.flatMap_cons,flat_one xs];rfl
theorem src_take1 {w:World} {A:Option Addr} {n:Nat} {xs:List Value} (hs:Src w 1 A n xs) (hi:Nat) (h:hi≤n):Src w 1 A hi (xs.take hi):=by
 have h9:=src_take (fun v:Value=>[v]) 1 (fun _=>rfl) (l:=xs) (by rw [flat_one];exact hs) (by have:=hs.1;omega) hi h
 rwa [flat_one] at h9
theorem src_drop1 {w:World} {A:Option Addr} {n ca:Nat} {xs:List Value} (hs:Src w 1 A n xs) (lo:Nat) (h:lo≤n) (hc:n≤ca):Src w 1 (cutA A ca lo 1) (n - lo) (xs.drop lo):=by
 have h9:=src_sub (fun v:Value=>[v]) 1 (fun _=>rfl) (l:=xs) (ca:=ca) (by rw [flat_one];exact hs) (by have:=hs.1;omega) lo n h (Nat.le_refl _) hc
 rw [flat_one,List.take_of_length_le (by have:=hs.1;omega)] at h9
 exact h9
structure PS where
 A:Option Addr
 n:Nat
 cap:Nat
 vs:List Value
@[reducible] def PS.val (p:PS):Value := .slice p.A p.n p.cap
end Go.Proofs.YtefieebkankfoaaGreatDoor
namespace Go.Proofs.YtefieebkankfoaaGreatDoor
open Go.RowKit Go.Shelf Go.Proofs
set_option maxRecDepth 100000
set_option maxHeartbeats 1000000

theorem equalStr_spec (x y:Value) (p q:List ByteArray) (w:World) (hx:Rd (wr w) [x] [strsD p]) (hy:Rd (wr w) [y] [strsD q]) :
  Spec Tryz.prog 12 [x,y] w (fun v R=>v = .bool (decide (p=q))∧R=[]):=by
 obtain⟨A,ca,rfl,hnc,hnb,hl⟩:=hx.strs
 obtain⟨B,cb,rfl,hmc,hmb,hb⟩:=hy.strs
 refine spec_of sg Tryz.func12 rfl rfl rfl ?_
 repeat' (first|refine d1 ?_|fail)
 refine T_if rfl (fun h=>?_) (fun h=>?_)
 ·simp only [Bool.not_eq_true',decide_eq_false_iff_not] at h
  repeat' (first|refine d1 ?_|(show T _ (.code .ret::_) _ _ _;refine T_retV [] rfl (Hle.none _) ⟨?_,rfl⟩))
  rw [decide_eq_false (fun e=>h (by rw [e]))];rfl
 simp only [Bool.not_eq_false',decide_eq_true_eq] at h
 repeat' (first|refine d1 ?_|fail)
 refine T_loopX (fun k:Nat=>[(13, .int .i64 k)]) (fun _=>[]) (fun k=>k≤p.length∧∀ j,j<k→p[j]?=q[j]?) (fun k=>p.length - k) 0 ⟨by omega,fun j h=>by omega⟩ ?_
 rintro k ⟨hk,hok⟩
 repeat' (first|refine d1 ?_|fail)
 refine T_if rfl (fun h3=>?_) (fun h3=>?_)
 ·simp only [decide_eq_true_eq] at h3
  have hkn:k<p.length:=by omega
  have hkq:k<q.length:=by omega
  obtain⟨ba,oa,rfl⟩:=hl.base (by omega)
  obtain⟨bb,ob,rfl⟩:=hb.base (by omega)
  obtain⟨u,hu⟩:∃ u,p[k]?=some u:=⟨_,List.getElem?_eq_getElem hkn⟩
  obtain⟨v,hv⟩:∃ v,q[k]?=some v:=⟨_,List.getElem?_eq_getElem hkq⟩
  have hr1:RdC w ba (oa+(k:Int).toNat * 1) [.string u]:=(hl.get1 (by omega) (by rw [Int.toNat_natCast,List.getElem?_map,hu];rfl)).2
  have hr2:RdC w bb (ob+(k:Int).toNat * 1) [.string v]:=(hb.get1 (by omega) (by rw [Int.toNat_natCast,List.getElem?_map,hv];rfl)).2
  repeat' (first|refine d1 ?_|refine dd ?_|fail)
  refine T_if rfl (fun h4=>?_) (fun h4=>?_)
  ·simp only [Bool.not_eq_true',decide_eq_false_iff_not] at h4
   repeat' (first|refine d1 ?_|(show T _ (.code .ret::_) _ _ _;refine T_retV [] rfl (Hle.none _) ⟨?_,rfl⟩))
   rw [decide_eq_false (fun e=>h4 (by rw [e,hv] at hu;exact (Option.some.inj hu).symm))];rfl
  ·simp only [Bool.not_eq_false',decide_eq_true_eq] at h4
   repeat' (first|refine d1 ?_|fail)
   refine T_backX (k+1) ⟨by omega,fun j hj=>?_⟩ (by omega)
   rcases Nat.lt_or_ge j k with h5|h5
   ·exact hok j h5
   ·rw [show j=k by omega,hu,hv,h4]
 ·simp only [decide_eq_false_iff_not] at h3
  repeat' (first|refine d1 ?_|(show T _ (.code .ret::_) _ _ _;refine T_retV [] rfl (Hle.none _) ⟨?_,rfl⟩))
  rw [decide_eq_true (list_eq_of (by omega) fun j hj=>hok j (by omega))];rfl
theorem equalTok_spec (A B:Option Addr) (n m ca cb:Nat) (p q:List Tok) (w:World) (ha:Src w 6 A n (p.flatMap Tok.cells)) (hn:p.length=n) (hnb:n≤9223372036854775807) (hb:Src w 6 B m (q.flatMap Tok.cells)) (hm:q.length=m) (hmb:m≤9223372036854775807) :
  Spec Tryz.prog 53 [.slice A n ca, .slice B m cb] w (fun v R=>v = .bool (decide (p=q))∧R=[]):=by
 refine spec_of sg Tryz.func53 rfl rfl rfl ?_
 repeat' (first|refine d1 ?_|fail)
 refine T_if rfl (fun h=>?_) (fun h=>?_)
 ·simp only [Bool.not_eq_true',decide_eq_false_iff_not] at h
  repeat' (first|refine d1 ?_|(show T _ (.code .ret::_) _ _ _;refine T_retV [] rfl (Hle.none _) ⟨?_,rfl⟩))
  rw [decide_eq_false (fun e=>h (by rw [← hn, ← hm,e]))];rfl
 simp only [Bool.not_eq_false',decide_eq_true_eq] at h
 repeat' (first|refine d1 ?_|fail)
 refine T_loopX (fun k:Nat=>[(13, .int .i64 k)]) (fun _=>[]) (fun k=>k≤p.length∧∀ j,j<k→p[j]?=q[j]?) (fun k=>p.length - k) 0 ⟨by omega,fun j h=>by omega⟩ ?_
 rintro k ⟨hk,hok⟩
 repeat' (first|refine d1 ?_|fail)
 refine T_if rfl (fun h3=>?_) (fun h3=>?_)
 ·simp only [decide_eq_true_eq] at h3
  have hkn:k<p.length:=by omega
  have hkq:k<q.length:=by omega
  obtain⟨b1,o1,rfl⟩:=ha.base (by omega)
  obtain⟨b2,o2,rfl⟩:=hb.base (by omega)
  obtain⟨u,hu⟩:∃ u,p[k]?=some u:=⟨_,List.getElem?_eq_getElem hkn⟩
  obtain⟨v,hv⟩:∃ v,q[k]?=some v:=⟨_,List.getElem?_eq_getElem hkq⟩
  have hr1:RdC w b1 (o1+(k:Int).toNat * 6) u.cells:=ha.getT (by omega) hu
  have hr2:RdC w b2 (o2+(k:Int).toNat * 6) v.cells:=hb.getT (by omega) hv
  repeat' (first|refine d1 ?_|refine dd ?_|(show T _ (.run _ _ (_::_) _ _::_) _ _ _;refine rv rfl rfl rfl (Val.eqS (r:=decide (u=v)) rfl (fun w=>eqTok u v w) Tryz.eqGuardType79) rfl rfl rfl ?_)|fail)
  refine T_if rfl (fun h4=>?_) (fun h4=>?_)
  ·have h4:decide (u=v)=false:=by simpa using h4
   rw [decide_eq_false_iff_not] at h4
   repeat' (first|refine d1 ?_|(show T _ (.code .ret::_) _ _ _;refine T_retV [] rfl (Hle.none _) ⟨?_,rfl⟩))
   rw [decide_eq_false (fun e=>h4 (by rw [e,hv] at hu;exact (Option.some.inj hu).symm))];rfl
  ·have h4:decide (u=v)=true:=by simpa using h4
   rw [decide_eq_true_eq] at h4
   repeat' (first|refine d1 ?_|fail)
   refine T_backX (k+1) ⟨by omega,fun j hj=>?_⟩ (by omega)
   rcases Nat.lt_or_ge j k with h5|h5
   ·exact hok j h5
   ·rw [show j=k by omega,hu,hv,h4]
 ·simp only [decide_eq_false_iff_not] at h3
  repeat' (first|refine d1 ?_|(show T _ (.code .ret::_) _ _ _;refine T_retV [] rfl (Hle.none _) ⟨?_,rfl⟩))
  rw [decide_eq_true (list_eq_of (by omega) fun j hj=>hok j (by omega))];rfl
def sStar:ByteArray:=⟨#[42]⟩
def star22 (s:ByteArray):Bool:=decide (0<s.size∧byteAt s ((s.size:Int) - 1)=42)
def bare1_22 (s:ByteArray):ByteArray:=if star22 s=true then s.extract 0 (s.size - 1) else s
theorem star22_eq {s:ByteArray} (h:0<s.size):decide (s.extract (s.size - 1) s.size=sStar)=star22 s:=by
 have h1:(s.extract (s.size - 1) s.size).data.toList=[byteAt s ((s.size:Int) - 1)]:=by
  have:=extract_one (s:=s) (j:=s.size - 1) (by omega)
  rw [show s.size - 1+1=s.size by omega,show ((s.size - 1:Nat):Int)=(s.size:Int) - 1 by omega] at this
  exact this
 unfold star22
 rw [decide_eq_decide]
 constructor
 ·intro e
  rw [e] at h1
  exact⟨h,(List.cons.inj h1).1.symm⟩
 ·rintro⟨-,e⟩
  rw [e] at h1
  exact ByteArray.ext (Array.ext' h1)
theorem siglum22_eq (s:ByteArray):(isNameB (bare1_22 s) && (!star22 s || decide ((s.size:Int)≤16)))=siglum22 s:=by
 unfold siglum22 bare1_22
 by_cases h:star22 s=true
 ·have h2:0<s.size∧byteAt s ((s.size:Int) - 1)=42:=by simpa [star22] using h
  rw [if_pos h,if_pos h2,h]
  rw [show decide ((s.size:Int)≤16)=decide (s.size≤16) from decide_eq_decide.2 (by omega)]
  rfl
 ·have h2:¬ (0<s.size∧byteAt s ((s.size:Int) - 1)=42):=by simpa [star22] using h
  rw [if_neg h,if_neg h2]
  simp [h]
theorem hasStar_spec (s:ByteArray) (hs:s.size≤9223372036854775807) (w:World):Spec Tryz.prog 165 [.string s, .string sStar] w (fun v R=>v = .bool (star22 s)∧R=[]):=by
 refine spec_of sg Tryz.func165 rfl rfl rfl ?_
 have e1:sStar.size=1:=rfl
 repeat' (first|refine d1 ?_|(show T _ (.code .ret::_) _ _ _;refine T_retV [] rfl (Hle.none _) ⟨congrArg Value.bool ?_,rfl⟩))
 rw [e1]
 by_cases h:0<s.size
 ·rw [show ((s.size:Int) - ((1:Nat):Int)).toNat=s.size - 1 by omega,Int.toNat_natCast,star22_eq h,decide_eq_true (by omega),Bool.true_and]
 ·rw [decide_eq_false (by omega),Bool.false_and]
  unfold star22
  rw [decide_eq_false (fun hh=>h hh.1)]
theorem cutStar1_spec (s:ByteArray) (hs:s.size≤9223372036854775807) (w:World):Spec Tryz.prog 138 [.string s, .string sStar] w (fun v R=>v = .tuple #[.string (bare1_22 s), .bool (star22 s)]∧R=[]):=by
 refine spec_of sg Tryz.func138 rfl rfl rfl ?_
 have e1:sStar.size=1:=rfl
 repeat' (first|refine d1 ?_|(show T _ (.ops _ (_::_)::_) _ _ _;refine T_call rfl rfl rfl rfl rfl (fun w hw=>hasStar_spec s hs w) ?_)|fail)
 refine T_if rfl (fun h=>?_) (fun h=>?_)
 ·simp only [Bool.not_eq_true'] at h
  repeat' (first|refine d1 ?_|(show T _ (.code .ret::_) _ _ _;refine T_retV [] rfl (Hle.none _) ⟨by unfold bare1_22;rw [h];rfl,rfl⟩))
 ·simp only [Bool.not_eq_false'] at h
  have h2:0<s.size:=by simp only [star22,decide_eq_true_eq] at h;exact h.1
  repeat' (first|refine d1 ?_|(show T _ (.code .ret::_) _ _ _;refine T_retV [] rfl (Hle.none _) ⟨by unfold bare1_22;rw [h,show ((s.size:Int) - (sStar.size:Int)).toNat=s.size - 1 by omega];rfl,rfl⟩))
theorem cutStar_spec (s:ByteArray) (hs:s.size≤9223372036854775807) (w:World):Spec Tryz.prog 102 [.string s, .string sStar] w (fun v R=>v = .tuple #[.string (bare1_22 s), .bool (star22 s)]∧R=[]):=by
 refine spec_of sg Tryz.func102 rfl rfl rfl ?_
 repeat' (first|refine d1 ?_|(show T _ (.ops _ (_::_)::_) _ _ _;refine T_call rfl rfl rfl rfl rfl (fun w hw=>cutStar1_spec s hs w) ?_)|(show T _ (.code .ret::_) _ _ _;refine T_retV [] rfl (Hle.none _) ⟨rfl,rfl⟩))
theorem indexStr_spec (A:Option Addr) (n c:Nat) (l:List ByteArray) (x:ByteArray) (w:World) (hs:Src w 1 A n (l.map Value.string)) (hn:l.length=n) (hb:n≤9223372036854775807) :
  Spec Tryz.prog 103 [.slice A n c, .string x] w (fun v R=>v = .int .i64 (findI (fun y=>decide (x=y)) l)∧R=[]):=by
 refine spec_of sg Tryz.func103 rfl rfl rfl ?_
 repeat' (first|refine d1 ?_|fail)
 refine T_loopX (fun k:Nat=>[(8, .int .i64 k)]) (fun _=>[]) (fun k=>k≤n∧∀ i y,i<k→l[i]?=some y→decide (x=y)=false) (fun k=>n - k) 0 ⟨Nat.zero_le _,fun i y h=>by omega⟩ ?_
 rintro k ⟨hk,hok⟩
 repeat' (first|refine d1 ?_|fail)
 refine T_if rfl (fun h=>?_) (fun h=>?_)
 ·simp only [decide_eq_true_eq] at h
  have hkn:k<n:=by omega
  obtain⟨b,o,rfl⟩:=hs.base (by omega)
  obtain⟨y,hy⟩:∃ y,l[k]?=some y:=⟨_,List.getElem?_eq_getElem (by omega)⟩
  have hr:=src_str hs hkn hy
  repeat' (first|refine d1 ?_|fail)
  refine T_if rfl (fun h1=>?_) (fun h1=>?_)
  ·repeat' (first|refine d1 ?_|(show T _ (.code .ret::_) _ _ _;refine T_retV [] rfl (Hle.none _) ⟨congrArg (Value.int .i64) (findI_some hy h1 hok).symm,rfl⟩))
  ·repeat' (first|refine d1 ?_|fail)
   refine T_backX (k+1) ⟨by omega,fun i z hi hz=>?_⟩ (by omega)
   rcases Nat.lt_or_ge i k with h2|h2
   ·exact hok i z h2 hz
   ·rw [show i=k by omega,hy] at hz
    cases hz
    exact h1
 ·simp only [decide_eq_false_iff_not] at h
  repeat' (first|refine d1 ?_|(show T _ (.code .ret::_) _ _ _;refine T_retV [] rfl (Hle.none _) ⟨congrArg (Value.int .i64) (findI_none (fun i z hi=>hok i z (by have:=(List.getElem?_eq_some_iff.1 hi).1;omega) hi)).symm,rfl⟩))
theorem containsStr_spec (A:Option Addr) (n c:Nat) (l:List ByteArray) (x:ByteArray) (w:World) (hs:Src w 1 A n (l.map Value.string)) (hn:l.length=n) (hb:n≤9223372036854775807) :
  Spec Tryz.prog 71 [.slice A n c, .string x] w (fun v R=>v = .bool (has22 l x)∧R=[]):=by
 refine spec_of sg Tryz.func71 rfl rfl rfl ?_
 repeat' (first|refine d1 ?_|(show T _ (.ops _ (_::_)::_) _ _ _;refine T_call rfl rfl rfl rfl rfl (fun w hw=>indexStr_spec A n c l x w (rdSrc hs w hw) hn hb) ?_)|(show T _ (.code .ret::_) _ _ _;refine T_retV [] rfl (Hle.none _) ⟨congrArg Value.bool (findI_any _ l),rfl⟩))
theorem oneStr:∀ l:List ByteArray,oneCells (l.map Value.string)=true
 | []=>rfl
 | x::l=>by show (true && oneCells (l.map Value.string))=true;rw [oneStr l];rfl
theorem cloneStr_spec (A:Option Addr) (n c:Nat) (l:List ByteArray) (w:World) (hs:Src w 1 A n (l.map Value.string)) (hb:n≤1000000) :
  Spec Tryz.prog 45 [.slice A n c] w (fun v R=>∃ x:Option Addr × Nat,True∧v = .slice x.1 n x.2∧R=[row 9 1 x.1 x.2 n (l.map Value.string)]):=by
 refine spec_of sg Tryz.func45 rfl rfl rfl ?_
 repeat' (first|refine d1 ?_|(show T _ (.ops _ (_::_)::_) _ _ _;refine T_val rfl (Val.nilS rfl) rfl rfl rfl ?_)|fail)
 refine T_if rfl (fun h=>?_) (fun h=>?_)
 ·obtain rfl:=isNone_true h
  obtain⟨rfl,e⟩:=src_none hs
  rw [e]
  repeat' (first|refine d1 ?_|fail)
  refine T_nilrow 9 1 ?_
  repeat' (first|(show T _ (.code .ret::_) _ _ _;refine T_retV _ rfl Hle.sub ⟨(none,0),trivial,rfl,rfl⟩))
 ·repeat' (first|refine d1 ?_|(show ∀ _:Nat,T _ _ _ _ _;intro _))
  refine T_blk_rowh 1 0 rfl (by omega) ?_
  refine T_op (OpT.append rfl rfl rfl rfl rfl rfl rfl rfl rfl rfl (rdSrc hs) (oneStr l) (by dsimp only;omega) (by omega) (fun A' cap' hA'=>?_))
  rw [show 0+n=n by omega,show flatP []++(l.map Value.string)=(l.map Value.string) from rfl]
  repeat' (first|refine d1 ?_|(show T _ (.code .ret::_) _ _ _;refine T_retV _ rfl (Hle.refl _) ⟨(A',cap'),trivial,rfl,rfl⟩))
theorem words_spec (A:Option Addr) (n c:Nat) (l:List Tok) (w:World) (hs:Src w 6 A n (l.flatMap Tok.cells)) (hn:l.length=n) (hb:n≤1000000) :
  Spec Tryz.prog 31 [.slice A n c] w (fun v R=>∃ x:Option Addr × Nat,True∧v = .slice x.1 n x.2∧R=[row 9 1 x.1 x.2 n ((l.map Tok.text).map Value.string)]):=by
 refine spec_of sg Tryz.func31 rfl rfl rfl ?_
 repeat' (first|refine d1 ?_|fail)
 refine T_nilrow 9 1 ?_
 refine T_loopX (fun s:Nat × Option Addr × Nat=>[(8, .int .i64 (s.1:Nat)),(3, .slice s.2.1 s.1 s.2.2)]) (fun s=>[row 9 1 s.2.1 s.2.2 s.1 (((l.take s.1).map Tok.text).map Value.string)]) (fun s=>s.1≤n) (fun s=>n - s.1) (0,none,0) (Nat.zero_le _) ?_
 rintro⟨k,A1,c1⟩ hk
 dsimp only at hk ⊢
 repeat' (first|refine d1 ?_|fail)
 refine T_if rfl (fun h=>?_) (fun h=>?_)
 ·simp only [decide_eq_true_eq] at h
  have hkn:k<n:=by omega
  obtain⟨b,o,rfl⟩:=hs.base (by omega)
  obtain⟨t,ht⟩:∃ t,l[k]?=some t:=⟨_,List.getElem?_eq_getElem (by omega)⟩
  have hr:RdC w b (o+(k:Int).toNat * 6) t.cells:=hs.getT (by omega) ht
  have htk:=take_snoc _ _ _ ht
  repeat' (first|refine d1 ?_|(show T _ (.ops _ (_::_)::_) _ _ _;refine T_op (OpT.append (A:=A1) rfl rfl rfl rfl rfl rfl rfl rfl rfl rfl (fun w hw=>Src.own hw rfl) rfl (by dsimp only;omega) (by omega) (fun A2 c2 hA2=>?_)))|(show ∀ _:Nat,T _ _ _ _ _;intro _))
  refine T_backX (k+1,A2,c2) (by dsimp only;omega) (by dsimp only;omega) (hG:=?_)
  rw [htk,List.map_append,List.map_append]
  exact (Hle.tail _ _).trans (Hle.tail _ _)
 ·simp only [decide_eq_false_iff_not] at h
  obtain rfl:k=n:=by omega
  rw [List.take_of_length_le (by omega)]
  repeat' (first|refine d1 ?_|(show T _ (.code .ret::_) _ _ _;refine T_retV _ rfl (Hle.refl _) ⟨(A1,c1),trivial,rfl,rfl⟩))
end Go.Proofs.YtefieebkankfoaaGreatDoor
namespace Go.Proofs.YtefieebkankfoaaGreatDoor
open Go.RowKit Go.Shelf Go.Proofs
set_option maxRecDepth 100000
set_option maxHeartbeats 1000000

structure HdAt (w:World) (sec:ByteArray) (sg:List ByteArray) (A1:Option Addr) (c1:Nat) (l:List TS) (A2:Option Addr) (c2:Nat):Prop where
 hst:Std w
 s1:Src w 1 A1 sg.length (sg.map Value.string)
 b1:sg.length≤c1
 s2:Src w 1 A2 l.length (l.map TS.val)
 ok:TsOk w l
 sec:sec.size≤20
 sig:∀ s∈sg,s.size≤20
 n1:sg.length≤36
 n2:l.length≤36
 tok:∀ t∈l,t.n≤6∧∀ x∈t.l,x.small
 txt:∀ t∈l,∀ x∈t.l,x.text.size≤12
theorem Src.old {w0 w:World} {H:List HA} {sz n:Nat} {A:Option Addr} {xs:List Value} (h:Src w0 sz A n xs) (hw:Cls w0 w H):Src w sz A n xs:=⟨h.1,fun q=>⟨(h.2 q).1,(h.2 q).2.old hw⟩⟩
theorem HdAt.cls {w0 w:World} {H:List HA} {sec:ByteArray} {sg:List ByteArray} {A1 A2:Option Addr} {c1 c2:Nat} {l:List TS} (h:HdAt w0 sec sg A1 c1 l A2 c2) (hw:Cls w0 w H):HdAt w sec sg A1 c1 l A2 c2 :=
 ⟨h.hst.cls hw,h.s1.old hw,h.b1,h.s2.old hw,⟨fun t ht=>src_below (h.ok.src t ht) hw.below,h.ok.len,h.ok.bd⟩,h.sec,h.sig,h.n1,h.n2,h.tok,h.txt⟩
theorem HdAt.len {w:World} {sec:ByteArray} {sg:List ByteArray} {A1 A2:Option Addr} {c1 c2:Nat} {l:List TS} (h:HdAt w sec sg A1 c1 l A2 c2) (k:Nat) {t:TS} (ht:l[k]?=some t):(l.map TS.l)[k]?=some t.l∧t.l.length=t.n∧t.n≤6 :=
 ⟨by rw [List.getElem?_map,ht];rfl,h.ok.len t (List.mem_of_getElem? ht),(h.tok t (List.mem_of_getElem? ht)).1⟩
theorem HdAt.hdr {w:World} {sec:ByteArray} {sg:List ByteArray} {A1:Option Addr} {b o:Nat} {c1 c2:Nat} {l:List TS} (h:HdAt w sec sg A1 c1 l (some ⟨b,o,none⟩) c2) {k:Nat} {t:TS} (ht:l[k]?=some t):RdC w b (o+(k:Int).toNat * 1) [.slice t.A t.n t.cap]:=by
 have hk:=(List.getElem?_eq_some_iff.1 ht).1
 have h9:=(h.s2.get1 (i:=k) hk (by rw [List.getElem?_map,ht];rfl)).2
 rw [Nat.mul_one] at h9
 rw [off1]
 exact h9
theorem src_takeStr {w:World} {A:Option Addr} {n:Nat} {l:List ByteArray} (hs:Src w 1 A n (l.map Value.string)) (i:Nat) (h:i≤n):Src w 1 A i ((l.take i).map Value.string):=by
 have:=src_take1 hs i h
 rwa [← List.map_take] at this
theorem siglumP_spec (s:ByteArray) (hs:s.size≤20) (w:World):Spec Tryz.prog 70 [.string s] w (fun v R=>v = .bool (siglum22 s)∧R=[]):=by
 have hb:(bare1_22 s).size≤9223372036854775807:=by
  unfold bare1_22
  split
  ·rw [ByteArray.size_extract];omega
  ·omega
 refine spec_of sg Tryz.func70 rfl rfl rfl ?_
 repeat' (first|refine d1 ?_|(show T _ (.ops _ (_::_)::_) _ _ _;first|refine T_call rfl rfl rfl rfl rfl (fun w hw=>cutStar_spec s (by omega) w) ?_|refine T_call rfl rfl rfl rfl rfl (fun w hw=>isNamePrg_spec (bare1_22 s) hb w) ?_)|(show T _ (.code .ret::_) _ _ _;refine T_retV [] rfl (Hle.none _) ⟨congrArg Value.bool (siglum22_eq s),rfl⟩))
theorem siglumR_spec (s:ByteArray) (hs:s.size≤20) (w:World):Spec Tryz.prog 65 [.string s] w (fun v R=>v = .bool (siglum22 s)∧R=[]):=by
 refine spec_of sg Tryz.func65 rfl rfl rfl ?_
 repeat' (first|refine d1 ?_|fail)
 refine T_if rfl (fun h=>?_) (fun h=>?_)
 ·have h2:0<s.size∧byteAt s ((s.size:Int) - 1)=42:=by
   simp only [Bool.and_eq_true,decide_eq_true_eq] at h
   exact⟨by omega,UInt8.toNat_inj.1 (by rw [show (42:UInt8).toNat=42 from rfl];have:=h.2;omega)⟩
  repeat' (first|refine d1 ?_|(show T _ (.ops _ (_::_)::_) _ _ _;refine T_callC rfl rfl rfl rfl rfl rfl rfl (fun hg w hw=>isNameRef_spec _ w) ?_)|(show T _ (.code .ret::_) _ _ _;refine T_retV [] rfl (Hle.none _) ⟨congrArg Value.bool ?_,rfl⟩))
  unfold siglum22
  rw [if_pos h2,Bool.and_comm,show ((s.size:Int) - 1).toNat=s.size - 1 by omega,show decide ((s.size:Int)≤16)=decide (s.size≤16) from decide_eq_decide.2 (by omega)]
  rfl
 ·have h2:¬ (0<s.size∧byteAt s ((s.size:Int) - 1)=42):=by
   rintro⟨h3,h4⟩
   rw [h4] at h
   simp only [Bool.and_eq_false_iff,decide_eq_false_iff_not] at h
   rcases h with h|h
   ·omega
   ·exact h rfl
  repeat' (first|refine d1 ?_|(show T _ (.ops _ (_::_)::_) _ _ _;refine T_call rfl rfl rfl rfl rfl (fun w hw=>isNameRef_spec s w) ?_)|(show T _ (.code .ret::_) _ _ _;refine T_retV [] rfl (Hle.none _) ⟨congrArg Value.bool (by unfold siglum22;rw [if_neg h2]),rfl⟩))
theorem sources1_22_spec (t:Tok) (ht:t.small) (w:World) (hst:Std w):Spec Tryz.prog 73 [t.val] w (fun v A=>v = .bool (!decide (tokE t=0))∧A=[]):=by
 refine spec_of sg Tryz.func73 rfl rfl rfl ?_
 repeat' (first|(show T _ (.ops _ (⟨_, .box _ _,_,_,_,_⟩::_)::_) _ _ _;refine T_op (OpT.box (cs:=t.cells) rfl rfl rfl rfl rfl rfl rfl (fun _=>?_)))|refine d1 ?_|(show T _ (.ops _ (_::_)::_) _ _ _;refine T_call rfl rfl rfl rfl rfl (fun w hw=>tokPrg_spec t ht w (hst.cls hw)) ?_)|(show T _ (.code .ret::_) _ _ _;refine T_retV [] rfl (Hle.none _) ⟨rfl,rfl⟩))
section
variable {sec:ByteArray} {sg:List ByteArray} {m:List (List Tok)}
theorem head22_a (h:isNameB sec=false):head22 sec sg m=14:=if_pos h
theorem head22_b (h1:isNameB sec=true) (h:sg.length=0):head22 sec sg m=5:=by unfold head22;rw [if_neg (by rw [h1];simp),if_pos h]
theorem head22_c (h1:isNameB sec=true) (h2:sg.length≠0) (h:32<sg.length):head22 sec sg m=4:=by unfold head22;rw [if_neg (by rw [h1];simp),if_neg h2,if_pos h]
theorem head22_d (h1:isNameB sec=true) (h2:sg.length≠0) (h3:¬ 32<sg.length) (h:sgE22 [] sg≠0):head22 sec sg m=sgE22 [] sg:=by unfold head22;rw [if_neg (by rw [h1];simp),if_neg h2,if_neg h3,if_pos h]
theorem head22_e (h1:isNameB sec=true) (h2:sg.length≠0) (h3:¬ 32<sg.length) (h4:sgE22 [] sg=0) (h:m.length≠sg.length):head22 sec sg m=9:=by unfold head22;rw [if_neg (by rw [h1];simp),if_neg h2,if_neg h3,if_neg (by rw [h4];simp),if_pos h]
theorem head22_f (h1:isNameB sec=true) (h2:sg.length≠0) (h3:¬ 32<sg.length) (h4:sgE22 [] sg=0) (h5:m.length=sg.length):head22 sec sg m=tkE22 m:=by unfold head22;rw [if_neg (by rw [h1];simp),if_neg h2,if_neg h3,if_neg (by rw [h4];simp),if_neg (by omega)]
end
theorem sources22_spec (sec:ByteArray) (sg':List ByteArray) (A1:Option Addr) (c1:Nat) (l:List TS) (A2:Option Addr) (c2:Nat) (w:World) (hh:HdAt w sec sg' A1 c1 l A2 c2) :
  Spec Tryz.prog 44 [.string sec, .slice A1 sg'.length c1, .slice A2 l.length c2] w (fun v R=>v = .int .i64 (head22 sec sg' (l.map TS.l))∧R=[]):=by
 obtain⟨hst,hs1,hb1,hs2,hok,hsec,hsig,hn1,hn2,htok,htxt⟩:=hh
 have hh:HdAt w sec sg' A1 c1 l A2 c2:=⟨hst,hs1,hb1,hs2,hok,hsec,hsig,hn1,hn2,htok,htxt⟩
 refine spec_of sg Tryz.func44 rfl rfl rfl ?_
 repeat' (first|refine d1 ?_|(show T _ (.ops _ (_::_)::_) _ _ _;refine T_call rfl rfl rfl rfl rfl (fun w hw=>isNamePrg_spec sec (by omega) w) ?_)|fail)
 refine T_if rfl (fun h=>?_) (fun h=>?_)
 ·simp only [Bool.not_eq_true'] at h
  repeat' (first|refine d1 ?_|(show T _ (.code .ret::_) _ _ _;refine T_retV [] rfl (Hle.none _) ⟨congrArg (Value.int .i64) (head22_a h).symm,rfl⟩))
 simp only [Bool.not_eq_false'] at h
 repeat' (first|refine d1 ?_|fail)
 refine T_if rfl (fun h2=>?_) (fun h2=>?_)
 ·simp only [decide_eq_true_eq] at h2
  repeat' (first|refine d1 ?_|(show T _ (.code .ret::_) _ _ _;refine T_retV [] rfl (Hle.none _) ⟨congrArg (Value.int .i64) (head22_b h (by omega)).symm,rfl⟩))
 simp only [decide_eq_false_iff_not] at h2
 have h2':sg'.length≠0:=by omega
 repeat' (first|refine d1 ?_|fail)
 refine T_if rfl (fun h3=>?_) (fun h3=>?_)
 ·simp only [decide_eq_true_eq] at h3
  repeat' (first|refine d1 ?_|(show T _ (.code .ret::_) _ _ _;refine T_retV [] rfl (Hle.none _) ⟨congrArg (Value.int .i64) (head22_c h h2' (by omega)).symm,rfl⟩))
 simp only [decide_eq_false_iff_not] at h3
 have h3':¬ 32<sg'.length:=by omega
 repeat' (first|refine d1 ?_|fail)
 refine T_loopX (fun k:Nat=>[(25, .int .i64 k)]) (fun _=>[]) (fun k=>k≤sg'.length∧sgE22 [] sg'=sgE22 (sg'.take k) (sg'.drop k)) (fun k=>sg'.length - k) 0 ⟨Nat.zero_le _,by simp⟩ ?_
 rintro k ⟨hk,hE⟩
 repeat' (first|refine d1 ?_|fail)
 refine T_if rfl (fun h4=>?_) (fun h4=>?_)
 ·simp only [decide_eq_true_eq] at h4
  have hkn:k<sg'.length:=by omega
  obtain⟨b,o,rfl⟩:=hs1.base (by omega)
  obtain⟨s,hs⟩:∃ s,sg'[k]?=some s:=⟨_,List.getElem?_eq_getElem hkn⟩
  have hr:=src_str hs1 hkn hs
  have hs20:=hsig s (List.mem_of_getElem? hs)
  rw [sgE22_step hs] at hE
  repeat' (first|refine d1 ?_|(show T _ (.ops _ (_::_)::_) _ _ _;refine T_call rfl rfl rfl rfl rfl (fun w hw=>siglumP_spec s hs20 w) ?_)|fail)
  refine T_if rfl (fun h5=>?_) (fun h5=>?_)
  ·simp only [Bool.not_eq_true'] at h5
   rw [if_pos h5] at hE
   repeat' (first|refine d1 ?_|(show T _ (.code .ret::_) _ _ _;refine T_retV [] rfl (Hle.none _) ⟨congrArg (Value.int .i64) (by rw [head22_d h h2' h3' (by omega),hE]),rfl⟩))
  simp only [Bool.not_eq_false'] at h5
  rw [if_neg (by rw [h5];simp)] at hE
  repeat' (first|refine d1 ?_|(show T _ (.ops _ (_::_)::_) _ _ _;refine T_call rfl rfl rfl rfl rfl (fun w hw=>containsStr_spec (some ⟨b,o,none⟩) k c1 (sg'.take k) s w (src_takeStr (rdSrc hs1 w hw) k (by omega)) (by rw [List.length_take];omega) (by omega)) ?_)|fail)
  refine T_if rfl (fun h6=>?_) (fun h6=>?_)
  ·rw [if_pos (show has22 (sg'.take k) s=true from h6)] at hE
   repeat' (first|refine d1 ?_|(show T _ (.code .ret::_) _ _ _;refine T_retV [] rfl (Hle.none _) ⟨congrArg (Value.int .i64) (by rw [head22_d h h2' h3' (by omega),hE]),rfl⟩))
  rw [if_neg (show ¬ has22 (sg'.take k) s=true by rw [show has22 (sg'.take k) s=false from h6];simp)] at hE
  repeat' (first|refine d1 ?_|fail)
  exact T_backX (k+1) ⟨by omega,hE⟩ (by omega)
 simp only [decide_eq_false_iff_not] at h4
 rw [sgE22_end (by omega)] at hE
 repeat' (first|refine d1 ?_|fail)
 refine T_if rfl (fun h5=>?_) (fun h5=>?_)
 ·simp only [Bool.not_eq_true',decide_eq_false_iff_not] at h5
  repeat' (first|refine d1 ?_|(show T _ (.code .ret::_) _ _ _;refine T_retV [] rfl (Hle.none _) ⟨congrArg (Value.int .i64) (by rw [head22_e h h2' h3' hE (by rw [List.length_map];omega)]),rfl⟩))
 simp only [Bool.not_eq_false',decide_eq_true_eq] at h5
 have hF:=head22_f (m:=l.map TS.l) h h2' h3' hE (by rw [List.length_map];omega)
 repeat' (first|refine d1 ?_|fail)
 refine T_loopX (fun k:Nat=>[(46, .int .i64 k)]) (fun _=>[]) (fun k=>k≤l.length∧tkE22 (l.map TS.l)=tkE22 ((l.map TS.l).drop k)) (fun k=>l.length - k) 0 ⟨Nat.zero_le _,by simp⟩ ?_
 rintro k ⟨hk,hE2⟩
 repeat' (first|refine d1 ?_|fail)
 refine T_if rfl (fun h6=>?_) (fun h6=>?_)
 ·simp only [decide_eq_true_eq] at h6
  have hkn:k<l.length:=by omega
  obtain⟨b,o,rfl⟩:=hs2.base (by omega)
  obtain⟨t,ht⟩:∃ t,l[k]?=some t:=⟨_,List.getElem?_eq_getElem hkn⟩
  have hr:=hh.hdr ht
  have htm:=List.mem_of_getElem? ht
  obtain⟨e1,e2,e3⟩:=hh.len k ht
  rw [tkE22_step e1] at hE2
  repeat' (first|refine d1 ?_|fail)
  refine T_if rfl (fun h7=>by exfalso;simp at h7;omega) (fun _=>?_)
  rw [if_neg (by omega)] at hE2
  repeat' (first|refine d1 ?_|(show T _ (.ops _ (_::_)::_) _ _ _;refine T_call rfl rfl rfl rfl rfl (fun w hw=>containsFuncT_spec t.A t.n t.cap t.l _ [] [] (fun t => !decide (tokE t=0)) w (rdSrc (hok.src t htm) w hw) e2 (by omega) (fun x hx w' hb'=>sources1_22_spec x ((htok t htm).2 x hx) w' ((hst.cls hw).below hb'))) ?_)|fail)
  refine T_if rfl (fun h7=>?_) (fun h7=>?_)
  ·rw [if_pos (show badL t.l=true from h7)] at hE2
   repeat' (first|refine d1 ?_|(show T _ (.code .ret::_) _ _ _;refine T_retV [] rfl (Hle.none _) ⟨congrArg (Value.int .i64) (by rw [hF,hE2]),rfl⟩))
  rw [if_neg (show ¬ badL t.l=true by rw [show badL t.l=false from h7];simp)] at hE2
  repeat' (first|refine d1 ?_|fail)
  exact T_backX (k+1) ⟨by omega,hE2⟩ (by omega)
 simp only [decide_eq_false_iff_not] at h6
 rw [List.drop_eq_nil_of_le (by rw [List.length_map];omega)] at hE2
 repeat' (first|refine d1 ?_|(show T _ (.code .ret::_) _ _ _;refine T_retV [] rfl (Hle.none _) ⟨congrArg (Value.int .i64) (by rw [hF,hE2];rfl),rfl⟩))
end Go.Proofs.YtefieebkankfoaaGreatDoor
namespace Go.Proofs.YtefieebkankfoaaGreatDoor
open Go.RowKit Go.Shelf Go.Proofs
set_option maxRecDepth 100000
set_option maxHeartbeats 1000000

structure CoAt (w:World) (x:Co) (A1:Option Addr) (c1:Nat) (l:List TS) (A2:Option Addr) (c2:Nat) (y3:Value):Prop where
 hd:HdAt w x.sec x.sg A1 c1 l A2 c2
 m:l.map TS.l=x.m
 cols:Rd (wr w) [y3] [rowsD x.cols]
theorem CoAt.cls {w0 w:World} {H:List HA} {x:Co} {A1 A2:Option Addr} {c1 c2:Nat} {l:List TS} {y3:Value} (h:CoAt w0 x A1 c1 l A2 c2 y3) (hw:Cls w0 w H):CoAt w x A1 c1 l A2 c2 y3:=⟨h.hd.cls hw,h.m,h.cols.old hw⟩
theorem headR22_spec (sec:ByteArray) (sg':List ByteArray) (A1:Option Addr) (c1:Nat) (l:List TS) (A2:Option Addr) (c2:Nat) (w:World) (hh:HdAt w sec sg' A1 c1 l A2 c2) :
  Spec Tryz.prog 42 [.string sec, .slice A1 sg'.length c1, .slice A2 l.length c2] w (fun v R=>v = .int .i64 (head22 sec sg' (l.map TS.l))∧R=[]):=by
 obtain⟨hst,hs1,hb1,hs2,hok,hsec,hsig,hn1,hn2,htok,htxt⟩:=hh
 have hh:HdAt w sec sg' A1 c1 l A2 c2:=⟨hst,hs1,hb1,hs2,hok,hsec,hsig,hn1,hn2,htok,htxt⟩
 refine spec_of sg Tryz.func42 rfl rfl rfl ?_
 repeat' (first|refine d1 ?_|(show T _ (.ops _ (_::_)::_) _ _ _;refine T_call rfl rfl rfl rfl rfl (fun w hw=>isNameRef_spec sec w) ?_)|fail)
 refine T_if rfl (fun h=>?_) (fun h=>?_)
 ·simp only [Bool.not_eq_true'] at h
  repeat' (first|refine d1 ?_|(show T _ (.code .ret::_) _ _ _;refine T_retV [] rfl (Hle.none _) ⟨congrArg (Value.int .i64) (head22_a h).symm,rfl⟩))
 simp only [Bool.not_eq_false'] at h
 repeat' (first|refine d1 ?_|fail)
 refine T_if rfl (fun h2=>?_) (fun h2=>?_)
 ·simp only [decide_eq_true_eq] at h2
  repeat' (first|refine d1 ?_|(show T _ (.code .ret::_) _ _ _;refine T_retV [] rfl (Hle.none _) ⟨congrArg (Value.int .i64) (head22_b h (by omega)).symm,rfl⟩))
 simp only [decide_eq_false_iff_not] at h2
 have h2':sg'.length≠0:=by omega
 repeat' (first|refine d1 ?_|fail)
 refine T_if rfl (fun h3=>?_) (fun h3=>?_)
 ·simp only [decide_eq_true_eq] at h3
  repeat' (first|refine d1 ?_|(show T _ (.code .ret::_) _ _ _;refine T_retV [] rfl (Hle.none _) ⟨congrArg (Value.int .i64) (head22_c h h2' (by omega)).symm,rfl⟩))
 simp only [decide_eq_false_iff_not] at h3
 have h3':¬ 32<sg'.length:=by omega
 repeat' (first|refine d1 ?_|fail)
 refine T_loopX (fun k:Nat=>[(7, .int .i64 k)]) (fun _=>[]) (fun k=>k≤sg'.length∧sgE22 [] sg'=sgE22 (sg'.take k) (sg'.drop k)) (fun k=>sg'.length - k) 0 ⟨Nat.zero_le _,by simp⟩ ?_
 rintro k ⟨hk,hE⟩
 repeat' (first|refine d1 ?_|fail)
 refine T_if rfl (fun h4=>?_) (fun h4=>?_)
 ·simp only [decide_eq_true_eq] at h4
  have hkn:k<sg'.length:=by omega
  obtain⟨b,o,rfl⟩:=hs1.base (by omega)
  obtain⟨s,hs⟩:∃ s,sg'[k]?=some s:=⟨_,List.getElem?_eq_getElem hkn⟩
  have hr:=src_str hs1 hkn hs
  have hs20:=hsig s (List.mem_of_getElem? hs)
  rw [sgE22_step hs] at hE
  repeat' (first|refine d1 ?_|(show T _ (.ops _ (_::_)::_) _ _ _;refine T_call rfl rfl rfl rfl rfl (fun w hw=>siglumR_spec s hs20 w) ?_)|fail)
  refine T_if rfl (fun h5=>?_) (fun h5=>?_)
  ·simp only [Bool.not_eq_true'] at h5
   rw [if_pos h5] at hE
   repeat' (first|refine d1 ?_|(show T _ (.code .ret::_) _ _ _;refine T_retV [] rfl (Hle.none _) ⟨congrArg (Value.int .i64) (by rw [head22_d h h2' h3' (by omega),hE]),rfl⟩))
  simp only [Bool.not_eq_false'] at h5
  rw [if_neg (by rw [h5];simp)] at hE
  repeat' (first|refine d1 ?_|fail)
  refine T_loopX (fun j:Nat=>[(8, .int .i64 j)]) (fun _=>[]) (fun j=>j≤k∧s ∉ sg'.take j) (fun j=>k - j) 0 ⟨Nat.zero_le _,by simp⟩ ?_
  rintro j ⟨hj,hnot⟩
  repeat' (first|refine d1 ?_|fail)
  refine T_if rfl (fun h6=>?_) (fun h6=>?_)
  ·simp only [decide_eq_true_eq] at h6
   have hjk:j<k:=by omega
   obtain⟨y,hy⟩:∃ y,sg'[j]?=some y:=⟨_,List.getElem?_eq_getElem (by omega)⟩
   have hr2:=src_str hs1 (k:=j) (by omega) hy
   have htk:=take_snoc _ _ _ hy
   repeat' (first|refine dd ?_|fail)
   refine T_if rfl (fun h7=>?_) (fun h7=>?_)
   ·simp only [decide_eq_true_eq] at h7
    have hmem:s∈sg'.take k:=by
     rw [← h7]
     exact List.mem_iff_getElem?.2 ⟨j,by rw [List.getElem?_take_of_lt hjk];exact hy⟩
    rw [if_pos (has22_iff.2 hmem)] at hE
    repeat' (first|refine d1 ?_|(show T _ (.code .ret::_) _ _ _;refine T_retV [] rfl (Hle.none _) ⟨congrArg (Value.int .i64) (by rw [head22_d h h2' h3' (by omega),hE]),rfl⟩))
   simp only [decide_eq_false_iff_not] at h7
   repeat' (first|refine d1 ?_|fail)
   refine T_backX (j+1) ⟨by omega,?_⟩ (by omega)
   rw [htk,List.mem_append,List.mem_singleton]
   rintro (hm|rfl)
   ·exact hnot hm
   ·exact h7 rfl
  simp only [decide_eq_false_iff_not] at h6
  obtain rfl:j=k:=by omega
  rw [if_neg (fun hh=>hnot (has22_iff.1 hh))] at hE
  repeat' (first|refine d1 ?_|fail)
  exact T_backX (j+1) ⟨by omega,hE⟩ (by omega)
 simp only [decide_eq_false_iff_not] at h4
 rw [sgE22_end (by omega)] at hE
 repeat' (first|refine d1 ?_|fail)
 refine T_if rfl (fun h5=>?_) (fun h5=>?_)
 ·simp only [Bool.not_eq_true',decide_eq_false_iff_not] at h5
  repeat' (first|refine d1 ?_|(show T _ (.code .ret::_) _ _ _;refine T_retV [] rfl (Hle.none _) ⟨congrArg (Value.int .i64) (by rw [head22_e h h2' h3' hE (by rw [List.length_map];omega)]),rfl⟩))
 simp only [Bool.not_eq_false',decide_eq_true_eq] at h5
 have hF:=head22_f (m:=l.map TS.l) h h2' h3' hE (by rw [List.length_map];omega)
 repeat' (first|refine d1 ?_|fail)
 refine T_loopX (fun k:Nat=>[(9, .int .i64 k)]) (fun _=>[]) (fun k=>k≤l.length∧tkE22 (l.map TS.l)=tkE22 ((l.map TS.l).drop k)) (fun k=>l.length - k) 0 ⟨Nat.zero_le _,by simp⟩ ?_
 rintro k ⟨hk,hE2⟩
 repeat' (first|refine d1 ?_|fail)
 refine T_if rfl (fun h6=>?_) (fun h6=>?_)
 ·simp only [decide_eq_true_eq] at h6
  have hkn:k<l.length:=by omega
  obtain⟨b,o,rfl⟩:=hs2.base (by omega)
  obtain⟨t,ht⟩:∃ t,l[k]?=some t:=⟨_,List.getElem?_eq_getElem hkn⟩
  have hr:=hh.hdr ht
  have htm:=List.mem_of_getElem? ht
  obtain⟨e1,e2,e3⟩:=hh.len k ht
  rw [tkE22_step e1] at hE2
  repeat' (first|refine d1 ?_|fail)
  refine T_if rfl (fun h7=>by exfalso;simp at h7;omega) (fun _=>?_)
  rw [if_neg (by omega)] at hE2
  have hst2:=hok.src t htm
  repeat' (first|refine d1 ?_|fail)
  refine T_loopX (fun j:Nat=>[(10, .int .i64 j)]) (fun _=>[]) (fun j=>j≤t.n∧∀ i y,i<j→t.l[i]?=some y→tokE y=0) (fun j=>t.n - j) 0 ⟨Nat.zero_le _,fun i y h=>by omega⟩ ?_
  rintro j ⟨hj,hall⟩
  repeat' (first|refine d1 ?_|fail)
  refine T_if rfl (fun h7=>?_) (fun h7=>?_)
  ·simp only [decide_eq_true_eq] at h7
   have hjn:j<t.n:=by omega
   obtain⟨b2,o2,eA⟩:=hst2.base (by omega)
   obtain⟨y,hy⟩:∃ y,t.l[j]?=some y:=⟨_,List.getElem?_eq_getElem (by omega)⟩
   have hr2:RdC w b2 (o2+(j:Int).toNat * 6) y.cells:=by have:=hst2.getT hjn hy;rw [eA] at this;exact this
   rw [eA] at hr
   repeat' (first|refine d1 ?_|(show T _ (.ops _ (_::_)::_) _ _ _;refine T_call rfl rfl rfl rfl rfl (fun w hw=>tokRef_spec y w) ?_)|fail)
   refine T_if rfl (fun h8=>?_) (fun h8=>?_)
   ·simp only [Bool.not_eq_true',decide_eq_false_iff_not] at h8
    have hbad:badL t.l=true:=List.any_eq_true.2 ⟨y,List.mem_of_getElem? hy,by simpa using h8⟩
    rw [if_pos hbad] at hE2
    repeat' (first|refine d1 ?_|(show T _ (.code .ret::_) _ _ _;refine T_retV [] rfl (Hle.none _) ⟨congrArg (Value.int .i64) (by rw [hF,hE2]),rfl⟩))
   simp only [Bool.not_eq_false',decide_eq_true_eq] at h8
   repeat' (first|refine d1 ?_|fail)
   refine T_backX (j+1) ⟨by omega,fun i z hi hz=>?_⟩ (by omega)
   rcases Nat.lt_or_ge i j with h9|h9
   ·exact hall i z h9 hz
   ·rw [show i=j by omega,hy] at hz
    cases hz
    exact h8
  simp only [decide_eq_false_iff_not] at h7
  have hgood:badL t.l=false:=List.any_eq_false.2 fun y hy=>by
   obtain⟨i,hi,e⟩:=List.getElem_of_mem hy
   rw [hall i y (by omega) (by rw [List.getElem?_eq_getElem hi,e])]
   simp
  rw [if_neg (by rw [hgood];simp)] at hE2
  repeat' (first|refine d1 ?_|fail)
  exact T_backX (k+1) ⟨by omega,hE2⟩ (by omega)
 simp only [decide_eq_false_iff_not] at h6
 rw [List.drop_eq_nil_of_le (by rw [List.length_map];omega)] at hE2
 repeat' (first|refine d1 ?_|(show T _ (.code .ret::_) _ _ _;refine T_retV [] rfl (Hle.none _) ⟨congrArg (Value.int .i64) (by rw [hF,hE2];rfl),rfl⟩))
theorem chk22_19 {x:Co} {l:List TS} (hl:∀ t∈l,t.l.length=t.n) (hm:l.map TS.l=x.m) (h:head22 x.sec x.sg x.m=0) (hc:¬ ColsOk (lens l) x.cols):chk22 x=19:=by
 unfold chk22
 rw [if_neg (by rw [h];simp),if_neg (by rw [← hm, ← lens22_of hl];exact hc)]
theorem chk22_0 {x:Co} {l:List TS} (hl:∀ t∈l,t.l.length=t.n) (hm:l.map TS.l=x.m) (h:head22 x.sec x.sg x.m=0) (hc:ColsOk (lens l) x.cols):chk22 x=0:=by
 unfold chk22
 rw [if_neg (by rw [h];simp),if_pos (by rw [← hm, ← lens22_of hl];exact hc)]
theorem chk22_h {x:Co} (h:head22 x.sec x.sg x.m≠0):chk22 x=head22 x.sec x.sg x.m:=if_pos h
theorem HdAt.grp {w:World} {sec:ByteArray} {sg':List ByteArray} {A1 A2:Option Addr} {c1 c2:Nat} {l:List TS} (h:HdAt w sec sg' A1 c1 l A2 c2) (hn:l.length≤32):Grp w A2 l.length l :=
 ⟨h.hst,h.s2,rfl,hn,h.ok,fun t ht=>by have:=(h.tok t ht).1;omega,fun t ht=>(h.tok t ht).2⟩
theorem checkP22_spec (x:Co) (A1:Option Addr) (c1:Nat) (l:List TS) (A2:Option Addr) (c2:Nat) (y3:Value) (w:World) (hx:CoAt w x A1 c1 l A2 c2 y3) :
  Spec Tryz.prog 26 [.agg (coL x.sec (.slice A1 x.sg.length c1) (.slice A2 l.length c2) y3).toArray] w (fun v R=>v = .int .i64 (chk22 x)∧R=[]):=by
 refine spec_of sg Tryz.func26 rfl rfl rfl ?_
 have hm:=hx.m
 repeat' (first|(show T _ (.ops _ (⟨_, .box _ _,_,_,_,_⟩::_)::_) _ _ _;refine T_op (OpT.box (cs:=coL x.sec (.slice A1 x.sg.length c1) (.slice A2 l.length c2) y3) rfl rfl rfl rfl rfl rfl rfl (fun _=>?_)))|refine d1 ?_|(show T _ (.ops _ (_::_)::_) _ _ _;refine T_call rfl rfl rfl rfl rfl (fun w hw=>sources22_spec x.sec x.sg A1 c1 l A2 c2 w (hx.hd.cls hw)) ?_)|fail)
 rw [hm]
 refine T_if rfl (fun h=>?_) (fun h=>?_)
 ·simp only [Bool.not_eq_true',decide_eq_false_iff_not] at h
  repeat' (first|refine d1 ?_|(show T _ (.code .ret::_) _ _ _;refine T_retV [] rfl (Hle.none _) ⟨congrArg (Value.int .i64) (chk22_h h).symm,rfl⟩))
 simp only [Bool.not_eq_false',decide_eq_true_eq] at h
 have hh:=head22_iff.1 h
 have hll:l.length=x.sg.length:=by rw [← hh.len, ← hm,List.length_map]
 have h32:=hh.le
 have hpos:=hh.pos
 repeat' (first|refine d1 ?_|(show T _ (.ops _ (_::_)::_) _ _ _;refine T_call rfl rfl rfl rfl rfl (fun w hw=>check19_spec A2 l.length c2 l y3 x.cols w ((hx.hd.cls hw).grp (by omega)) (hx.cols.old hw)) ?_)|fail)
 refine T_if rfl (fun h2=>?_) (fun h2=>?_)
 ·simp only [Bool.not_eq_true',decide_eq_false_iff_not] at h2
  repeat' (first|refine d1 ?_|(show T _ (.code .ret::_) _ _ _;refine T_retV [] rfl (Hle.none _) ⟨congrArg (Value.int .i64) (chk22_19 hx.hd.ok.len hm h fun hc=>h2 (chkC_ok (by omega) hc)).symm,rfl⟩))
 simp only [Bool.not_eq_false',decide_eq_true_eq] at h2
 repeat' (first|refine d1 ?_|(show T _ (.code .ret::_) _ _ _;refine T_retV [] rfl (Hle.none _) ⟨congrArg (Value.int .i64) (chk22_0 hx.hd.ok.len hm h (Classical.byContradiction fun hc=>by rw [chkC_bad (by omega) hc] at h2;omega)).symm,rfl⟩))
theorem checkR22_spec (x:Co) (A1:Option Addr) (c1:Nat) (l:List TS) (A2:Option Addr) (c2:Nat) (y3:Value) (w:World) (hx:CoAt w x A1 c1 l A2 c2 y3) :
  Spec Tryz.prog 21 [.agg (coL x.sec (.slice A1 x.sg.length c1) (.slice A2 l.length c2) y3).toArray] w (fun v R=>v = .int .i64 (chk22 x)∧R=[]):=by
 have hm:=hx.m
 obtain⟨Ak,ck,csk,rfl,hck1,hck2,hcs,hrows⟩:=hx.cols.tabS
 obtain⟨n1,hn1⟩:∃ n1,x.sg.length=n1:=⟨_,rfl⟩
 obtain⟨n2,hn2⟩:∃ n2,l.length=n2:=⟨_,rfl⟩
 have hsp:∀ w',HdAt w' x.sec x.sg A1 c1 l A2 c2→Spec Tryz.prog 42 [.string x.sec, .slice A1 n1 c1, .slice A2 n2 c2] w' (fun v R=>v = .int .i64 (head22 x.sec x.sg x.m)∧R=[]):=fun w' h'=>by
  have:=headR22_spec x.sec x.sg A1 c1 l A2 c2 w' h'
  rw [hn1,hn2,hm] at this
  exact this
 rw [hn1,hn2]
 refine spec_of sg Tryz.func21 rfl rfl rfl ?_
 refine T_op (OpT.box (cs:=coL x.sec (.slice A1 n1 c1) (.slice A2 n2 c2) (.slice Ak x.cols.length ck)) rfl rfl rfl rfl rfl rfl rfl (fun pc=>?_))
 repeat' (first|refine d1 ?_|(show T _ (.ops _ (_::_)::_) _ _ _;refine T_call rfl rfl rfl rfl rfl (fun w hw=>hsp w (hx.hd.cls hw)) ?_)|fail)
 refine T_if rfl (fun h=>?_) (fun h=>?_)
 ·simp only [Bool.not_eq_true',decide_eq_false_iff_not] at h
  repeat' (first|refine d1 ?_|(show T _ (.code .ret::_) _ _ _;refine T_retV [] rfl (Hle.none _) ⟨congrArg (Value.int .i64) (chk22_h h).symm,rfl⟩))
 simp only [Bool.not_eq_false',decide_eq_true_eq] at h
 have hh:=head22_iff.1 h
 have h12:n2=n1:=by rw [← hn2, ← hn1, ← hh.len, ← hm,List.length_map]
 subst h12
 have hb:=hh.le
 have h0:=hh.pos
 rw [hn1] at hb h0
 have hg:Grp w A2 n2 l:=by have:=hx.hd.grp (by omega);rw [hn2] at this;exact this
 have hbad:∀ (H:¬ ColsOk (lens l) x.cols),chk22 x=19:=fun H=>chk22_19 hx.hd.ok.len hm h H
 have hgood:ColsOk (lens l) x.cols→chk22 x=0:=fun H=>chk22_0 hx.hd.ok.len hm h H
 have hn:l.length=n2:=hn2
 repeat' (first|refine d1 ?_|(show T _ (.ops _ (_::_)::_) _ _ _;refine T_op (OpT.make rfl rfl rfl rfl rfl rfl rfl rfl rfl (by dsimp only;omega) (fun b1=>?_)))|fail)
 have hz:List.replicate n2 (Value.int .i64 0)=valV (fun s=>(atC x.cols 0 0 s:Nat)) n2:=by
  rw [valV_replicate];exact valV_ext fun q _=>by rw [atC_zero];rfl
 refine T_loopX (fun i:Nat=>[(5, .int .i64 i)]) (fun i=>[blk b1 (valV (fun s=>(atC x.cols i 0 s:Nat)) n2) 3,blk pc (coL x.sec (.slice A1 n2 c1) (.slice A2 n2 c2) (.slice Ak x.cols.length ck)) 26]) (fun i=>i≤x.cols.length∧PreOk (lens l) x.cols i 0∧(∀ y∈x.cols.take i,y.length=n2)∧∀ y∈x.cols.take i,∃ z∈y,z ≠ -1) (fun i=>x.cols.length - i) 0 ⟨Nat.zero_le _,PreOk.start _ _,fun y h=>by simp at h,fun y h=>by simp at h⟩ ?_ (hG:=by rw [← hz];exact Hle.refl _)
 rintro i ⟨hi,hpre,hlen,hsome⟩
 repeat' (first|refine d1 ?_|fail)
 refine T_if rfl (fun h1=>?_) (fun h1=>?_)
 ·simp only [decide_eq_true_eq] at h1
  have hin:i<x.cols.length:=by omega
  obtain⟨b,o,rfl⟩:=hcs.base (by omega)
  obtain⟨r,hr⟩:∃ r,x.cols[i]?=some r:=⟨_,List.getElem?_eq_getElem hin⟩
  have hrm:=List.mem_of_getElem? hr
  obtain⟨Au,capu,hu,-,-,hA⟩:=hrows.tabRow hr
  have hr0:=rowHd hcs hin hu
  have hsr:=rowSrc hA
  repeat' (first|refine d1 ?_|fail)
  refine T_if rfl (fun h2=>?_) (fun h2=>?_)
  ·simp only [Bool.not_eq_true',decide_eq_false_iff_not] at h2
   repeat' (first|refine d1 ?_|(show T _ (.code .ret::_) _ _ _;refine T_retV [] rfl (Hle.none _) ⟨by rw [hbad fun hc=>h2 (by have:=hc.len r hrm;rw [lens_len] at this;omega)];rfl,rfl⟩))
  simp only [Bool.not_eq_false',decide_eq_true_eq] at h2
  have hrl:r.length=n2:=by omega
  repeat' (first|refine d1 ?_|fail)
  refine T_loopX (fun k:Nat=>[(8, .int .i64 k),(7, .bool ((r.take k).any fun z=>decide (z ≠ -1)))]) (fun k=>[blk b1 (valV (fun s=>(atC x.cols i k s:Nat)) n2) 3,blk pc (coL x.sec (.slice A1 n2 c1) (.slice A2 n2 c2) (.slice (some ⟨b,o,none⟩) x.cols.length ck)) 26]) (fun k=>k≤n2∧PreOk (lens l) x.cols i k) (fun k=>n2 - k) 0 ⟨Nat.zero_le _,hpre⟩ ?_
  rintro k ⟨hk,hp⟩
  repeat' (first|refine d1 ?_|fail)
  refine T_if rfl (fun h3=>?_) (fun h3=>?_)
  ·simp only [decide_eq_true_eq] at h3
   have hkn:k<n2:=by omega
   obtain⟨bu,ou,rfl⟩:=hsr.base (by omega)
   obtain⟨z,hzk⟩:∃ z,r[k]?=some z:=⟨_,List.getElem?_eq_getElem (by omega)⟩
   have hr1:=src_int hsr (by omega) hzk
   have htk:=take_snoc _ _ _ hzk
   repeat' (first|refine d1 ?_|fail)
   refine T_if rfl (fun h4=>?_) (fun h4=>?_)
   ·simp only [decide_eq_true_eq] at h4
    subst h4
    repeat' (first|refine d1 ?_|fail)
    refine T_backX (k+1) ⟨hkn,hp.gap hr hzk⟩ (by omega) (hE:=⟨rfl,by rw [show ((r.take (k+1)).any fun z=>decide (z ≠ -1))=(r.take k).any fun z=>decide (z ≠ -1) by rw [htk,List.any_append];simp];rfl,trivial⟩) (hG:=?_)
    have e:valV (fun s=>(atC x.cols i (k+1) s:Nat)) n2=valV (fun s=>(atC x.cols i k s:Nat)) n2:=valV_ext fun q _=>by
     by_cases e:q=k
     ·rw [e,atC_gap hr hzk]
     ·rw [atC_other e]
    rw [e]
    exact Hle.refl _
   simp only [decide_eq_false_iff_not] at h4
   obtain⟨bs,os,rfl⟩:=hg.hs.base (by omega)
   obtain⟨t,ht,htm,hrt⟩:=hg.get hkn
   have htb:=hg.nb t htm
   repeat' (first|refine dd ?_|(show T _ (.run _ _ (_::_) _ _::_) _ _ _;refine rv rfl rfl rfl (Val.load rfl (fun hg=>rdOwn1 (b:=b1) (u := .int .i64 (atC x.cols i k k:Nat)) (by rw [show 0+(k:Int).toNat * 1=k by omega];exact valV_get hkn))) rfl rfl rfl ?_)|fail)
   refine T_if rfl (fun h5=>?_) (fun h5=>?_)
   ·simp only [Bool.or_eq_true,Bool.not_eq_true',decide_eq_false_iff_not,decide_eq_true_eq] at h5
    repeat' (first|refine d1 ?_|(show T _ (.code .ret::_) _ _ _;refine T_retV [] rfl (Hle.none _) ⟨by rw [hbad fun hc=>by have:=hp.bad hr hzk h4 (lens_get ht) hc;omega];rfl,rfl⟩))
   simp only [Bool.or_eq_false_iff,Bool.not_eq_false',decide_eq_true_eq,decide_eq_false_iff_not] at h5
   repeat' (first|refine d1 ?_|(show T _ (.ops _ (_::_)::_) _ _ _;first|refine T_val rfl (Val.load rfl (fun hg=>rdOwn1 (b:=b1) (u := .int .i64 (atC x.cols i k k:Nat)) (by rw [show 0+(k:Int).toNat * 1=k by omega];exact valV_get hkn))) rfl rfl rfl ?_|refine T_op (OpT.store rfl rfl rfl rfl (by rw [valV_length];omega) ?_))|fail)
   refine T_backX (k+1) ⟨hkn,hp.tok hr hzk h4 h5.1 (fun m hm=>by rw [lens_get ht] at hm;cases hm;omega)⟩ (by omega) (hE:=⟨rfl,by rw [show ((r.take (k+1)).any fun z=>decide (z ≠ -1))=true by rw [htk,List.any_append];simp [h4]];rfl,trivial⟩) (hG:=?_)
   rw [show 0+(k:Int).toNat * 1=k by omega,valV_put]
   have e:valV (fun s=>(atC x.cols i (k+1) s:Nat)) n2=valV (fun q=>if q=k then (atC x.cols i k k:Int)+1 else (atC x.cols i k q:Nat)) n2:=valV_ext fun q _=>by
    by_cases e:q=k
    ·subst e;rw [if_pos rfl,atC_tok hr hzk h4];rfl
    ·rw [if_neg e,atC_other e]
   rw [e]
   exact Hle.refl _
  ·simp only [decide_eq_false_iff_not] at h3
   obtain rfl:k=n2:=by omega
   rw [List.take_of_length_le (by omega)]
   repeat' (first|refine d1 ?_|fail)
   refine T_if rfl (fun h4=>?_) (fun h4=>?_)
   ·simp only [Bool.not_eq_true'] at h4
    repeat' (first|refine d1 ?_|(show T _ (.code .ret::_) _ _ _;refine T_retV [] rfl (Hle.none _) ⟨by rw [hbad fun hc=>by obtain⟨z,hz1,hz2⟩:=hc.some_ r hrm;rw [List.any_eq_false] at h4;exact h4 z hz1 (by simpa using hz2)];rfl,rfl⟩))
   simp only [Bool.not_eq_false'] at h4
   rw [List.any_eq_true] at h4
   obtain⟨z,hz1,hz2⟩:=h4
   repeat' (first|refine d1 ?_|fail)
   have htk:=take_snoc _ _ _ hr
   refine T_backX (i+1) ⟨hin,PreOk.row (by rw [lens_len,hn];exact hp),fun y hy=>?_,fun y hy=>?_⟩ (by omega) (hG:=?_)
   ·rw [htk,List.mem_append,List.mem_singleton] at hy
    rcases hy with hy|rfl
    ·exact hlen y hy
    ·exact hrl
   ·rw [htk,List.mem_append,List.mem_singleton] at hy
    rcases hy with hy|rfl
    ·exact hsome y hy
    ·exact⟨z,hz1,by simpa using hz2⟩
   ·have e:valV (fun s=>(atC x.cols i k s:Nat)) k=valV (fun s=>(atC x.cols (i+1) 0 s:Nat)) k:=valV_ext fun q hq=>by rw [atC_row hq]
    rw [e]
    exact Hle.refl _
 simp only [decide_eq_false_iff_not] at h1
 obtain rfl:i=x.cols.length:=by omega
 rw [List.take_of_length_le (Nat.le_refl _)] at hlen hsome
 repeat' (first|refine d1 ?_|fail)
 refine T_loopX (fun k:Nat=>[(9, .int .i64 k)]) (fun _=>[blk b1 (valV (fun s=>(atC x.cols x.cols.length 0 s:Nat)) n2) 3,blk pc (coL x.sec (.slice A1 n2 c1) (.slice A2 n2 c2) (.slice Ak x.cols.length ck)) 26]) (fun k=>k≤n2∧∀ s m,s<k→(lens l)[s]?=some m→atC x.cols x.cols.length 0 s=m) (fun k=>n2 - k) 0 ⟨Nat.zero_le _,fun s m h=>by omega⟩ ?_
 rintro k ⟨hk,hall⟩
 repeat' (first|refine d1 ?_|fail)
 refine T_if rfl (fun h3=>?_) (fun h3=>?_)
 ·simp only [decide_eq_true_eq] at h3
  have hkn:k<n2:=by omega
  obtain⟨bs,os,rfl⟩:=hg.hs.base (by omega)
  obtain⟨t,ht,htm,hrt⟩:=hg.get hkn
  repeat' (first|refine dd ?_|(show T _ (.run _ _ (_::_) _ _::_) _ _ _;refine rv rfl rfl rfl (Val.load rfl (fun hg=>rdOwn1 (b:=b1) (u := .int .i64 (atC x.cols x.cols.length 0 k:Nat)) (by rw [show 0+(k:Int).toNat * 1=k by omega];exact valV_get hkn))) rfl rfl rfl ?_)|fail)
  refine T_if rfl (fun h4=>?_) (fun h4=>?_)
  ·simp only [Bool.not_eq_true',decide_eq_false_iff_not] at h4
   repeat' (first|refine d1 ?_|(show T _ (.code .ret::_) _ _ _;refine T_retV [] rfl (Hle.none _) ⟨by rw [hbad fun hc=>h4 (by have h5:=hc.src k t.n (lens_get ht);have h6:=(hpre k t.n (lens_get ht)).1;rw [if_neg (by omega),List.take_of_length_le (Nat.le_refl _),h5] at h6;have:=congrArg List.length h6;rw [upto_len,upto_len] at this;omega)];rfl,rfl⟩))
  simp only [Bool.not_eq_false',decide_eq_true_eq] at h4
  repeat' (first|refine d1 ?_|fail)
  refine T_backX (k+1) ⟨hkn,fun s m hs hm=>?_⟩ (by omega)
  rcases Nat.lt_or_ge s k with h5|h5
  ·exact hall s m h5 hm
  ·rw [show s=k by omega] at hm ⊢
   rw [lens_get ht] at hm
   cases hm
   omega
 ·simp only [decide_eq_false_iff_not] at h3
  have hok:ColsOk (lens l) x.cols:=hpre.all (fun y hy=>by rw [lens_len,hn];exact hlen y hy) hsome fun s m hm=>hall s m (by have:=(List.getElem?_eq_some_iff.1 hm).1;rw [lens_len] at this;omega) hm
  repeat' (first|refine d1 ?_|(show T _ (.code .ret::_) _ _ _;refine T_retV [] rfl (Hle.none _) ⟨by rw [hgood hok];rfl,rfl⟩))
end Go.Proofs.YtefieebkankfoaaGreatDoor
namespace Go.Proofs.YtefieebkankfoaaGreatDoor
open Go.RowKit Go.Shelf Go.Proofs
set_option maxRecDepth 100000
set_option maxHeartbeats 1000000

theorem nilStr (H:List HA):Hle H (dat [.slice none 0 0] [strsD []]::H):=hle_unit (Rd.s none 0 0 1 [] rfl (Nat.le_refl _) (by omega) (fun h=>absurd h (by omega)) .nil .nil)
theorem CoAt.row {w:World} {x:Co} {A1 A2:Option Addr} {c1 c2:Nat} {l:List TS} {y3:Value} (hx:CoAt w x A1 c1 l A2 c2 y3) (hok:Ok22 x):l.length=x.sg.length∧x.sg.length≤32∧1≤x.sg.length:=⟨by rw [← hok.head.len, ← hx.m,List.length_map],hok.head.le,hok.head.pos⟩
theorem CoAt.entry {w:World} {x:Co} {A1 A2:Option Addr} {c1 c2:Nat} {l:List TS} {y3:Value} (hx:CoAt w x A1 c1 l A2 c2 y3) (hok:Ok22 x) {i k:Nat} {r:List Int} (hr:x.cols[i]?=some r) (hk:k<x.sg.length) :
  r.length=x.sg.length∧∃ t z,l[k]?=some t∧r[k]?=some z ∧ -1≤z∧z<(t.n:Int)∧cell22 x k i=txt22 t.l z∧t.l.length=t.n:=by
 obtain⟨h1,h2,h3⟩:=hx.row hok
 have hm:=hx.m
 obtain⟨t,ht⟩:∃ t,l[k]?=some t:=⟨_,List.getElem?_eq_getElem (by omega)⟩
 have htl:=hx.hd.ok.len t (List.mem_of_getElem? ht)
 have hmk:x.m[k]?=some t.l:=by rw [← hm,List.getElem?_map,ht];rfl
 have hls:(lens22 x.m)[k]?=some t.n:=by unfold lens22;rw [List.getElem?_map,hmk, ← htl];rfl
 have hrl:r.length=x.sg.length:=by rw [hok.cols.len r (List.mem_of_getElem? hr)];unfold lens22;rw [List.length_map];exact hok.head.len
 obtain⟨z,hz⟩:∃ z,r[k]?=some z:=⟨_,List.getElem?_eq_getElem (by omega)⟩
 obtain⟨e1,e2⟩:=hok.cols.entry (List.mem_of_getElem? hr) hls hz
 refine ⟨hrl,t,z,ht,hz,e1,e2,?_,htl⟩
 unfold cell22
 rw [List.getD_eq_getElem?_getD,hmk,List.getD_eq_getElem?_getD,List.getD_eq_getElem?_getD,hr,Option.getD_some,Option.getD_some,hz,Option.getD_some]
def pre22 (l:List ByteArray) (n k:Nat):List Value:=(List.range n).map fun q => .string (if q<k then l.getD q ByteArray.empty else ByteArray.empty)
theorem pre22_len (l:List ByteArray) (n k:Nat):(pre22 l n k).length=n:=by simp [pre22]
theorem pre22_zero (l:List ByteArray) (n:Nat):List.replicate n (Value.string ByteArray.empty)=pre22 l n 0:=by
 unfold pre22
 refine List.ext_getElem? fun j=>?_
 rw [List.getElem?_map,List.getElem?_replicate]
 by_cases hj:j<n
 ·rw [List.getElem?_range hj,if_pos hj,Option.map_some,if_neg (by omega)]
 ·rw [List.getElem?_eq_none (by rw [List.length_range];omega),if_neg hj];rfl
theorem pre22_set {l:List ByteArray} {n k:Nat} (h:k<n):(pre22 l n k).set k (.string (l.getD k ByteArray.empty))=pre22 l n (k+1):=by
 refine List.ext_getElem? fun j=>?_
 unfold pre22
 rw [List.getElem?_set,List.getElem?_map,List.getElem?_map,List.length_map,List.length_range]
 by_cases hj:j<n
 ·rw [List.getElem?_range hj,Option.map_some,Option.map_some]
  by_cases e:k=j
  ·subst e
   rw [if_pos rfl,if_pos h,if_pos (by omega)]
  ·rw [if_neg e]
   by_cases h2:j<k
   ·rw [if_pos h2,if_pos (by omega)]
   ·rw [if_neg h2,if_neg (by omega)]
 ·rw [if_neg (by omega),List.getElem?_eq_none (by rw [List.length_range];omega)]
  rfl
theorem pre22_gap {l:List ByteArray} {n k:Nat} (h:l.getD k ByteArray.empty=ByteArray.empty):pre22 l n k=pre22 l n (k+1):=by
 unfold pre22
 refine List.map_congr_left fun q _=>?_
 by_cases h1:q<k
 ·rw [if_pos h1,if_pos (by omega)]
 ·by_cases h2:q=k
  ·subst h2;rw [if_neg h1,if_pos (by omega),h]
  ·rw [if_neg h1,if_neg (by omega)]
theorem pre22_all (l:List ByteArray):pre22 l l.length l.length=l.map Value.string:=by
 unfold pre22
 refine List.ext_getElem? fun j=>?_
 rw [List.getElem?_map,List.getElem?_map]
 by_cases hj:j<l.length
 ·rw [List.getElem?_range hj,Option.map_some,if_pos hj,List.getD_eq_getElem?_getD,List.getElem?_eq_getElem hj];rfl
 ·rw [List.getElem?_eq_none (by rw [List.length_range];omega),List.getElem?_eq_none (by omega)];rfl
theorem column22_spec (x:Co) (A1:Option Addr) (c1:Nat) (l:List TS) (A2:Option Addr) (c2:Nat) (y3:Value) (i:Nat) (w:World) (hx:CoAt w x A1 c1 l A2 c2 y3) (hok:Ok22 x) (hi:i<x.cols.length) :
  Spec Tryz.prog 33 [.agg (coL x.sec (.slice A1 x.sg.length c1) (.slice A2 l.length c2) y3).toArray, .int .i64 (i:Nat)] w (fun v R=>∃ b:Nat,True∧v = .slice (some ⟨b,0,none⟩) x.sg.length x.sg.length∧R=[blk b ((col22 x i).map Value.string) 9]):=by
 obtain⟨Ak,ck,csk,rfl,hck1,hck2,hcs,hrows⟩:=hx.cols.tabS
 obtain⟨h1,h2,h3⟩:=hx.row hok
 obtain⟨bk3,ok3,rfl⟩:=hcs.base (by omega)
 obtain⟨r,hr⟩:∃ r,x.cols[i]?=some r:=⟨_,List.getElem?_eq_getElem hi⟩
 obtain⟨Au,capu,hu,-,-,hA⟩:=hrows.tabRow hr
 have hr0:=rowHd hcs hi hu
 have hsr:=rowSrc hA
 have hrl:=(hx.entry hok hr (k:=0) (by omega)).1
 obtain⟨n,hn⟩:∃ n,x.sg.length=n:=⟨_,rfl⟩
 have hcl:(col22 x i).length=n:=by rw [col22_len];exact hn
 have hS:Spec Tryz.prog 33 [.agg (coL x.sec (.slice A1 n c1) (.slice A2 l.length c2) (.slice (some ⟨bk3,ok3,none⟩) x.cols.length ck)).toArray, .int .i64 (i:Nat)] w (fun v R=>∃ b:Nat,True∧v = .slice (some ⟨b,0,none⟩) n n∧R=[blk b ((col22 x i).map Value.string) 9]):=by
  refine spec_of sg Tryz.func33 rfl rfl rfl ?_
  refine T_op (OpT.box (cs:=coL x.sec (.slice A1 n c1) (.slice A2 l.length c2) (.slice (some ⟨bk3,ok3,none⟩) x.cols.length ck)) rfl rfl rfl rfl rfl rfl rfl (fun pc=>?_))
  repeat' (first|refine d1 ?_|(show T _ (.ops _ (_::_)::_) _ _ _;refine T_op (OpT.make rfl rfl rfl rfl rfl rfl rfl rfl rfl (by dsimp only;omega) (fun b1=>?_)))|fail)
  have hz:List.replicate n (Value.string ByteArray.empty)=pre22 (col22 x i) n 0:=pre22_zero _ _
  refine T_loopX (fun k:Nat=>[(18, .int .i64 k)]) (fun k=>[blk b1 (pre22 (col22 x i) n k) 9,blk pc (coL x.sec (.slice A1 n c1) (.slice A2 l.length c2) (.slice (some ⟨bk3,ok3,none⟩) x.cols.length ck)) 26]) (fun k=>k≤n) (fun k=>n - k) 0 (Nat.zero_le _) ?_ (hG:=by rw [← hz];exact Hle.refl _)
  intro k hk
  repeat' (first|refine d1 ?_|fail)
  refine T_if rfl (fun h=>?_) (fun h=>?_)
  ·simp only [decide_eq_true_eq] at h
   have hkn:k<n:=by omega
   obtain⟨-,t,z,ht,hz,g1,g2,g3,g4⟩:=hx.entry hok hr (k:=k) (by omega)
   obtain⟨bu,ou,rfl⟩:=hsr.base (by omega)
   have hr1:=src_int hsr (by omega) hz
   have hcg:(col22 x i).getD k ByteArray.empty=txt22 t.l z:=by rw [List.getD_eq_getElem?_getD,col22_get (by omega),Option.getD_some,g3]
   repeat' (first|refine d1 ?_|fail)
   refine T_if rfl (fun h4=>?_) (fun h4=>?_)
   ·simp only [decide_eq_true_eq] at h4
    obtain⟨p,rfl⟩:=Int.eq_ofNat_of_zero_le h4
    obtain⟨y,hy⟩:∃ y,t.l[p]?=some y:=⟨_,List.getElem?_eq_getElem (by omega)⟩
    obtain⟨b2,o2,rfl⟩:=hx.hd.s2.base (by omega)
    have hrt:=hx.hd.hdr ht
    have hts:=hx.hd.ok.src t (List.mem_of_getElem? ht)
    obtain⟨b4,o4,eA⟩:=hts.base (by omega)
    rw [eA] at hrt
    have hr2:RdC w b4 (o4+(p:Int).toNat * 6) y.cells:=by have:=hts.getT (k:=p) (by omega) hy;rw [eA] at this;exact this
    rw [txt22_get hy] at hcg
    repeat' (first|refine d1 ?_|(show T _ (.ops _ (_::_)::_) _ _ _;refine T_op (OpT.store rfl rfl rfl rfl (by rw [pre22_len];omega) ?_))|fail)
    refine T_backX (k+1) hkn (by omega) (hG:=?_)
    rw [show 0+(k:Int).toNat * 1=k by omega, ← hcg,pre22_set hkn]
    exact Hle.refl _
   ·simp only [decide_eq_false_iff_not] at h4
    repeat' (first|refine d1 ?_|fail)
    refine T_backX (k+1) hkn (by omega) (hG:=?_)
    rw [← pre22_gap (by rw [hcg,txt22_neg22 _ (by omega)])]
    exact Hle.refl _
  ·simp only [decide_eq_false_iff_not] at h
   obtain rfl:k=n:=by omega
   have e:pre22 (col22 x i) k k=(col22 x i).map Value.string:=by rw [← hcl];exact pre22_all _
   rw [e]
   repeat' (first|refine d1 ?_|(show T _ (.code .ret::_) _ _ _;refine T_retV _ rfl Hle.sub ⟨b1,trivial,rfl,rfl⟩))
 rw [hn]
 exact hS
end Go.Proofs.YtefieebkankfoaaGreatDoor
namespace Go.Proofs.YtefieebkankfoaaGreatDoor
open Go.RowKit Go.Shelf
set_option linter.unusedSectionVars false

def evCvP (env:Env) (ec:EnvC) (G:GId) (o:Oper):Option (TypeId × TypeId × Nat) :=
 match o.op with
 | .convert s d x=>match evX env ec G x with
  | some (.pointer (some ⟨b,0,none⟩))=>some (s,d,b)
  | _=>none
 | _=>none
section
variable {C:Cx} {all:Array Oper} {o:Oper} {env:Env} {ec:EnvC} {H Hs:List HA} {G:GId} {d:Nat} {Φ:Env→EnvC→List HA→Prop}
theorem evCvP_spec {N:FK} {a:Act} (ha:Agrees N all env ec a) (hG:Holds all a G) {s d':TypeId} {b:Nat} (h:evCvP env ec G o=some (s,d',b)):∃ x,o.op = .convert s d' x∧a.eval x = .pointer (some ⟨b,0,none⟩):=by
 unfold evCvP at h
 split at h
 ·rename_i s' d'' x ho
  split at h
  ·rename_i b' hx
   cases h
   exact⟨x,ho,evX_spec ha hG hx⟩
  ·cases h
 ·cases h
theorem Val.toUnsafe {s d' t e:TypeId} {j:TypeInfo} {b:Nat} {cs:List Value} {rb:HA→List HA} (hv:evCvP env ec G o=some (s,d',b)) [hf:Focus Hs b cs e rb] (hs:C.S.P.underlying s=some (.pointer t)) (hd:C.S.P.underlying d'=some .unsafePointer)
  (ht:C.S.P.info? t=some j) (hj:j.size≠0) (hl:0<cs.length):Val C all o env ec Hs G (.pointer (some ⟨b,0,none⟩)):=by
 intro a w ha hw hH
 obtain⟨i,hi,_⟩:=hf.at_
 have hb:=(hw.heap hi).1
 have hsh:w.shape? b=some (e,cs.length):=by simp [World.shape?,hb]
 obtain⟨x,ho,hx⟩:=evCvP_spec ha hH hv
 have hr:=Lib.run_to_unsafe (P:=C.S.P) w ⟨b,0,none⟩ hs hd ht hj hsh hl
 unfold execOp
 rw [ho]
 simp only [hx]
 simp [hr]
theorem Val.fromUnsafe {s d' u e:TypeId} {j:TypeInfo} {b:Nat} {cs:List Value} {rb:HA→List HA} (hv:evCvP env ec G o=some (s,d',b)) [hf:Focus Hs b cs e rb] (hs:C.S.P.underlying s=some .unsafePointer) (hd:C.S.P.underlying d'=some (.pointer u))
  (hu:C.S.P.info? u=some j) (hlies:liesAt C.S.P C.S.P.depth e (cs.length / C.S.P.cellsOf e) 0 u 1=true):Val C all o env ec Hs G (.pointer (some ⟨b,0,none⟩)):=by
 intro a w ha hw hH
 obtain⟨i,hi,_⟩:=hf.at_
 have hb:=(hw.heap hi).1
 have hsh:w.shape? b=some (e,cs.length):=by simp [World.shape?,hb]
 obtain⟨x,ho,hx⟩:=evCvP_spec ha hH hv
 have hr:=Lib.run_from_unsafe (P:=C.S.P) w ⟨b,0,none⟩ hs hd hu hsh hlies
 unfold execOp
 rw [ho]
 simp only [hx]
 simp [hr]
def evPP (env:Env) (ec:EnvC) (G:GId) (o:Oper):Option (TypeId × Nat × Nat) :=
 match o.op with
 | .binOp .neq t x y _=>match evX env ec G x,evX env ec G y with
  | some (.pointer (some ⟨b,0,none⟩)),some (.pointer (some ⟨c,0,none⟩))=>some (t,b,c)
  | _,_=>none
 | _=>none
theorem Val.ptrSame {t te:TypeId} {j:TypeInfo} {b c:Nat} (hv:evPP env ec G o=some (t,b,c)) (hbc:b=c) (hp:C.S.P.underlying t=some (.pointer te)) (hte:C.S.P.info? te=some j):Val C all o env ec Hs G (.bool false):=by
 subst hbc
 intro a w ha hw hH
 obtain⟨dst,op,ty,pos,aft,gd⟩:=o
 unfold evPP at hv
 dsimp only at hv
 split at hv
 ·rename_i t' x y t2
  split at hv
  ·rename_i b' c' hx hy
   cases hv
   have hr:=Lib.run_neq_ptr_same (P:=C.S.P) w ⟨b,0,none⟩ hp hte
   simp only [execOp,evX_spec ha hH hx,evX_spec ha hH hy]
   simp [eqGuard,hr]
  ·cases hv
 ·cases hv
def evSD (env:Env) (ec:EnvC) (G:GId) (o:Oper):Option (Addr × Nat) :=
 match o.op with
 | .call { callee := .builtin .unsafeSliceData,args:=xs,argTypes:=_ }=>match evL env ec G xs.toList with
  | some [.slice (some a) _ c]=>some (a,c)
  | _=>none
 | _=>none
theorem Val.sliceData {A:Addr} {c:Nat} (hv:evSD env ec G o=some (A,c)) (hc:c≠0):Val C all o env ec Hs G (.pointer (some A)):=by
 intro a w ha hw hH
 obtain⟨dst,op,ty,pos,aft,gd⟩:=o
 unfold evSD at hv
 dsimp only at hv
 split at hv
 ·rename_i xs ts
  split at hv
  ·rename_i a' n' c' hxs
   cases hv
   have hargs:xs.map a.eval = #[.slice (some A) n' c]:=Array.ext' (by rw [Array.toList_map];exact evL_spec ha hH hxs)
   have hr:=Lib.run_unsafeSliceData_row (P:=C.S.P) w ts ty A n' c hc
   simp [execOp,resolve,invoke,builtin,hargs,hr]
  ·cases hv
 ·cases hv
def evUS (S:Sig) (env:Env) (ec:EnvC) (o:Oper):Option (Nat × Nat × TypeId) :=
 match o.op with
 | .call { callee := .builtin .unsafeString,args:=xs,argTypes:=ts }=>match evL env ec [] xs.toList,ts.toList with
  | some [.pointer (some ⟨g,0,none⟩), .int .i64 n],[pt,_]=>match S.ty pt with
   | some ⟨.ptr e,_,_,_⟩=>some (g,n.toNat,e)
   | _=>none
  | _,_=>none
 | _=>none
def u8s (l:List UInt8):List Value:=l.map fun c=>Value.int .u8 ((c.toNat:Nat):Int)
theorem u8s_len (l:List UInt8):(u8s l).length=l.length:=by simp [u8s]
theorem u8s_app (a b:List UInt8):u8s (a++b)=u8s a++u8s b:=by simp [u8s]
theorem OpT.unsafeStr {g n:Nat} {e:TypeId} {cap:Nat} {bs:List UInt8} {rb:HA→List HA} (hg:gOf all env ec o=some []) (he:evUS C.S env ec o=some (g,n,e)) (hd:o.dst=some d) (hN:Nat.blt d C.N.n=true) (hs:safeC all d ec=true)
  [hf:FocusR H (some ⟨g,0,none⟩) e 1 cap n (u8s bs) rb] (hc1:C.S.P.cellsOf e=1) (h0:bs≠[]) (h:Φ ((d, .string ⟨bs.toArray⟩)::env) ec (rb (fz fun _=>none))):OpT C all o env ec H Φ:=by
 obtain⟨i,hi,hrb⟩:=hf.at_
 refine OpT.eff hg fun a w ha hw=>?_
 obtain⟨F,f1,f2,f3⟩:=hw.sep
 have hil:i<H.length:=(List.getElem?_eq_some_iff.1 hi).1
 obtain⟨hln,hrow⟩:=f1 i _ hi
 have hn:bs.length=n:=by rw [u8s_len,Nat.mul_one] at hln;exact hln
 have hn0:bs.length≠0:=by simpa using h0
 rcases hrow with⟨e1,_⟩|⟨g',cur,e1,hF,g3,g4,g5,g6⟩
 ·cases e1
 cases e1
 have hob:=f2 i g (.cells cur e (0,0)) hil (by rw [hF];simp [one])
 have hsh:w.shape? g=some (e,cur.size):=by simp [World.shape?,hob.2]
 have hcell:∀ j x,bs[j]?=some x→w.cell? ((⟨g,0,none⟩:Addr).add j)=some (.int .u8 x.toNat):=by
  intro j x hx
  have hj:=(List.getElem?_eq_some_iff.1 hx).1
  have h9:(u8s bs)[j]?=some (.int .u8 ((x.toNat:Nat):Int)):=by unfold u8s;rw [List.getElem?_map,hx];rfl
  rw [← g6,List.getElem?_take_of_lt (by omega)] at h9
  have h8:w.cell? ⟨g,j,none⟩=cur[j]?:=cell_of_row w g j cur e (0,0) hob.2
  have h7:(⟨g,0,none⟩:Addr).add j=⟨g,j,none⟩:=by unfold Addr.add;split <;> simp_all
  rw [h7,h8]
  simpa using h9
 have hmax:maxLen=9223372036854775807:=rfl
 obtain⟨dst,op,ty,pos,aft,gd⟩:=o
 unfold evUS at he
 dsimp only at he
 split at he
 ·rename_i xs ts
  split at he
  ·rename_i g1 n1 pt it hxs hts
   split at he
   ·rename_i e' q1 q2 q3 hpt
    cases he
    have hp:=(Sig.tyOk hpt).fits
    simp only [Ty.fits] at hp
    have hn1:n1=(bs.length:Int):=by omega
    subst hn1
    have hargs:xs.map a.eval = #[.pointer (some ⟨g,0,none⟩), .int _ (bs.length:Int)]:=Array.ext' (by rw [Array.toList_map];exact evL_spec ha (Holds.nil _ _) hxs)
    have hts':ts = #[pt,it]:=Array.ext' hts
    have hr:=Lib.run_unsafeString_row (P:=C.S.P) w pt it ty e hp hc1 g cur.size hsh bs h0 (by omega) (by omega) hcell
    refine ⟨.string ⟨bs.toArray⟩,w.freeze ⟨g,0,none⟩ bs.length,_,?_,⟨Lib.below_freeze hw.below (p:=⟨g,0,none⟩) hob.1 _,?_⟩,d,hd,hN,hs,h⟩
    ·simp [execOp,resolve,invoke,builtin,hargs,hts',hr]
    ·rw [hrb]
     refine Sep.swap ⟨F,f1,f2,f3⟩ hi fun f hrow hf=>⟨fun _=>none,rfl,(fun b o h=>by cases h),fun c hc hfc=>?_⟩
     have hne:c≠g:=by
      rintro rfl
      obtain⟨_,hrow⟩:=hrow
      rcases hrow with⟨e1,_⟩|⟨g',cur',e1,hF',_⟩
      ·cases e1
      ·cases e1
       rw [hF'] at hfc
       simp [one] at hfc
     unfold World.freeze
     split
     ·rfl
     ·simp only [Array.getElem?_modify]
      rw [if_neg (Ne.symm hne)]
   ·cases he
  ·cases he
 ·cases he
end
end Go.Proofs.YtefieebkankfoaaGreatDoor
namespace Go.Proofs.YtefieebkankfoaaGreatDoor
open Go.RowKit Go.Shelf Go.Proofs

def clean22 (l:List UInt8):Prop:=(124:UInt8) ∉ l∧(10:UInt8) ∉ l
theorem clean22_e:clean22 ByteArray.empty.data.toList:=⟨by decide,by decide⟩
theorem clean22_of {s:ByteArray} (h:∀ j,j<s.size→kAt s j≠0):clean22 s.data.toList:=by
 have key:∀ c:UInt8,kindI ((c.toNat:Nat):Int)=0→c ∉ s.data.toList:=by
  intro c hc hm
  obtain⟨j,hj,e⟩:=List.getElem_of_mem hm
  have hjs:j<s.size:=by simpa using hj
  have h1:=byteAt_nat s j hjs
  rw [List.getElem?_eq_getElem hj,e] at h1
  refine h j hjs ?_
  unfold kAt
  rw [← Option.some.inj h1]
  exact hc
 exact⟨key 124 (by decide),key 10 (by decide)⟩
theorem okAll_at {s:ByteArray} (h:okAll s=true):∀ j,j<s.size→kAt s j≠0:=by
 intro j hj
 unfold okAll at h
 rw [decide_eq_true_eq] at h
 have:=h j hj
 unfold okAt at this
 simp only [Bool.and_eq_true,decide_eq_true_eq] at this
 exact this.1
theorem isWordB_at {s:ByteArray} (h:isWordB s=true):∀ j,j<s.size→kAt s j≠0:=by
 simp only [isWordB,Bool.and_eq_true] at h
 exact okAll_at h.1.1.2
theorem isNameB_at {s:ByteArray} (h:isNameB s=true):∀ j,j<s.size→kAt s j≠0:=by
 simp only [isNameB,Bool.and_eq_true] at h
 exact isWordB_at h.2.1
theorem siglum22_clean {s:ByteArray} (h:siglum22 s=true):clean22 s.data.toList:=by
 unfold siglum22 at h
 split at h
 ·rename_i hs
  simp only [Bool.and_eq_true] at h
  obtain⟨g1,g2⟩:=clean22_of (isNameB_at h.1)
  have e:s.data.toList=(s.extract 0 (s.size - 1)).data.toList++[42]:=by
   have h1:=byteAt_nat s (s.size - 1) (by omega)
   rw [show ((s.size - 1:Nat):Int)=(s.size:Int) - 1 by omega,hs.2] at h1
   have h2:=take_snoc _ _ _ h1
   rw [show s.size - 1+1=s.size by omega,List.take_of_length_le (by simp)] at h2
   rw [ByteArray.data_extract,Array.toList_extract,List.extract_eq_take_drop,Nat.sub_zero,List.drop_zero]
   exact h2
  rw [e]
  refine ⟨fun hm=>?_,fun hm=>?_⟩
  ·rcases List.mem_append.1 hm with hm|hm
   ·exact g1 hm
   ·rw [List.mem_singleton] at hm;exact absurd hm (by decide)
  ·rcases List.mem_append.1 hm with hm|hm
   ·exact g2 hm
   ·rw [List.mem_singleton] at hm;exact absurd hm (by decide)
 ·exact clean22_of (isNameB_at h)
theorem gapStr_clean:∀ n:Nat,n<65→((gapStr n).data.toList.all fun c=>decide (c≠124) && decide (c≠10))=true∧1≤(gapStr n).size:=by decide +kernel
theorem tok22_clean {t:Tok} (h:tokE t=0):clean22 t.text.data.toList∧1≤t.text.size:=by
 unfold tokE at h
 split at h
 ·omega
 split at h
 ·omega
 split at h
 ·omega
 rename_i hf
 clear h
 unfold formBad at hf
 split at hf
 ·simp only [Bool.or_eq_true,Bool.not_eq_true',not_or,Bool.not_eq_false] at hf
  have hg:=hf.1
  unfold gappedB at hg
  rw [List.any_eq_true] at hg
  obtain⟨n,hn,hh⟩:=hg
  simp only [Bool.and_eq_true,decide_eq_true_eq] at hh
  obtain⟨h1,h2⟩:=gapStr_clean n (List.mem_range.1 hn)
  rw [← hh.2] at h1 h2
  rw [List.all_eq_true] at h1
  refine ⟨⟨fun hm=>?_,fun hm=>?_⟩,h2⟩
  ·have:=h1 _ hm;simp at this
  ·have:=h1 _ hm;simp at this
 ·split at hf
  ·rw [Bool.not_eq_true] at hf
   simp only [Bool.or_eq_false_iff,Bool.and_eq_false_iff,Bool.not_eq_false',decide_eq_true_eq] at hf
   obtain⟨⟨h1,h2⟩,-⟩:=hf
   have hs:t.text.size=1:=by omega
   refine ⟨clean22_of fun j hj=>?_,by omega⟩
   rw [show j=0 by omega]
   rcases h2 with h2|h2 <;> omega
  ·simp only [Bool.or_eq_true,Bool.not_eq_true',not_or,Bool.not_eq_false] at hf
   have hw:=hf.1.1.1
   exact⟨clean22_of (isWordB_at hw),(isWordB_size hw).1⟩
theorem badL_at {l:List Tok} (h:badL l=false):∀ t∈l,tokE t=0:=by
 intro t ht
 unfold badL at h
 rw [List.any_eq_false] at h
 have:=h t ht
 simpa using this
theorem cols22_src {l:List Tok} (hl:∀ t∈l,1≤t.text.size) (s:Nat):∀ {cols:List (List Int)},(∀ z∈srcC cols s,0≤z∧z<(l.length:Int)) →
  ((cols.map fun c=>txt22 l (c.getD s (-1))).filter fun w => !decide (w=ByteArray.empty))=(srcC cols s).map (txt22 l)
 | [],_=>rfl
 | c::cols,h=>by
  rw [srcC_cons] at h ⊢
  rw [List.map_cons,List.filter_cons]
  by_cases hz:c.getD s (-1) = -1
  ·rw [if_pos hz] at h ⊢
   rw [hz,txt22_neg22 l (by omega),if_neg (by simp),List.nil_append]
   exact cols22_src hl s (by simpa using h)
  ·rw [if_neg hz] at h ⊢
   obtain⟨h1,h2⟩:=h (c.getD s (-1)) (List.mem_append_left _ (List.mem_singleton_self _))
   have hlt:(c.getD s (-1)).toNat<l.length:=by omega
   have ht:l[(c.getD s (-1)).toNat]?=some l[(c.getD s (-1)).toNat]:=List.getElem?_eq_getElem hlt
   have e:txt22 l (c.getD s (-1))=l[(c.getD s (-1)).toNat].text:=by
    unfold txt22
    rw [if_neg (by omega),ht]
   have hne:l[(c.getD s (-1)).toNat].text≠ByteArray.empty:=fun he=>by
    have:=hl _ (List.mem_of_getElem? ht)
    rw [he] at this
    exact absurd this (by decide)
   rw [if_pos (by rw [e];simpa using hne),List.map_append,List.map_singleton,List.singleton_append]
   congr 1
   exact cols22_src hl s fun z hz'=>h z (List.mem_append_right _ hz')
theorem upto_txt (l:List Tok):(upto l.length).map (txt22 l)=l.map Tok.text:=by
 unfold upto
 rw [List.map_map]
 refine List.ext_getElem? fun j=>?_
 rw [List.getElem?_map,List.getElem?_map]
 by_cases hj:j<l.length
 ·rw [List.getElem?_range hj,List.getElem?_eq_getElem hj,Option.map_some,Option.map_some]
  exact congrArg some (txt22_get (List.getElem?_eq_getElem hj))
 ·rw [List.getElem?_eq_none (by rw [List.length_range];omega),List.getElem?_eq_none (by omega)];rfl
theorem row22_len (x:Co) (k:Nat):(row22 x k).length=x.cols.length:=by simp [row22]
theorem row22_eq (x:Co) (k:Nat):row22 x k=x.cols.map fun c=>txt22 (x.m.getD k []) (c.getD k (-1)):=by
 unfold row22
 refine List.ext_getElem? fun j=>?_
 rw [List.getElem?_map,List.getElem?_map]
 by_cases hj:j<x.cols.length
 ·rw [List.getElem?_range hj,List.getElem?_eq_getElem hj,Option.map_some,Option.map_some]
  unfold cell22
  rw [List.getD_eq_getElem?_getD (l:=x.cols),List.getElem?_eq_getElem hj,Option.getD_some]
 ·rw [List.getElem?_eq_none (by rw [List.length_range];omega),List.getElem?_eq_none (by omega)];rfl
theorem row22_words {x:Co} (h:Ok22 x) {k:Nat} (hk:k<x.sg.length):((row22 x k).filter fun w => !decide (w=ByteArray.empty))=words22 x k:=by
 have hl:=h.head.len
 have hkm:k<x.m.length:=by omega
 have hls:(lens22 x.m)[k]?=some (x.m.getD k []).length:=by
  unfold lens22
  rw [List.getElem?_map,List.getD_eq_getElem?_getD,List.getElem?_eq_getElem hkm];rfl
 have hs:=h.cols.src k _ hls
 rw [row22_eq,cols22_src (fun t ht=>(tok22_clean (badL_at (h.head.tok _ (getD_mem22 _ hkm)).2 t ht)).2) k (by rw [hs];intro z hz;exact upto_mem.1 hz),hs,upto_txt]
 rfl
def part22 (c:UInt8):List UInt8→List (List UInt8)
 | []=>[[]]
 | x::r=>if x=c then []::part22 c r else match part22 c r with
  | []=>[[x]]
  | h::t=>(x::h)::t
theorem part22_ne (c:UInt8):∀ l:List UInt8,part22 c l≠[]
 | []=>by simp [part22]
 | x::r=>by
  unfold part22
  split
  ·simp
  ·split <;> simp
theorem part22_c (c x:UInt8) (r:List UInt8):part22 c (x::r)=if x=c then []::part22 c r else match part22 c r with
  | []=>[[x]]
  | h::t=>(x::h)::t:=rfl
theorem part22_cons {c:UInt8} {a:List UInt8} (r:List UInt8) (h:c ∉ a):part22 c (a++c::r)=a::part22 c r:=by
 induction a with
 | nil=>show part22 c (c::r)=_;rw [part22_c,if_pos rfl]
 | cons x a ih =>
  have h1:x≠c:=fun e=>h (by rw [e];exact .head _)
  have ih:=ih fun hm=>h (.tail _ hm)
  show part22 c (x::(a++c::r))=_
  rw [part22_c,if_neg h1,ih]
theorem part22_none {c:UInt8} {a:List UInt8} (h:c ∉ a):part22 c a=[a]:=by
 induction a with
 | nil=>rfl
 | cons x a ih =>
  have h1:x≠c:=fun e=>h (by rw [e];exact .head _)
  rw [part22_c,if_neg h1,ih fun hm=>h (.tail _ hm)]
theorem part22_lines {c:UInt8}:∀ {l:List (List UInt8)},(∀ a∈l,c ∉ a)→part22 c (l.flatMap fun a=>a++[c])=l++[[]]
 | [],_=>rfl
 | a::l,h=>by
  rw [List.flatMap_cons,List.append_assoc,List.singleton_append,part22_cons _ (h a (.head _)),part22_lines fun b hb=>h b (.tail _ hb)]
  rfl
theorem part22_cells {s:List UInt8} (hs:(124:UInt8) ∉ s):∀ {l:List ByteArray},(∀ t∈l,(124:UInt8) ∉ t.data.toList)→part22 124 (s++cells22 l)=s::l.map fun t=>t.data.toList:=by
 intro l
 induction l generalizing s with
 | nil=>intro _;unfold cells22;rw [List.flatMap_nil,List.append_nil,part22_none hs];rfl
 | cons t l ih =>
  intro h
  have e:s++cells22 (t::l)=s++124::(t.data.toList++cells22 l):=by unfold cells22;rw [List.flatMap_cons];rfl
  rw [e,part22_cons _ hs,ih (h t (.head _)) fun y hy=>h y (.tail _ hy)]
  rfl
theorem cell22_clean {x:Co} (h:Ok22 x) {k:Nat} (hk:k<x.sg.length):∀ t∈row22 x k,clean22 t.data.toList:=by
 have hl:=h.head.len
 intro t ht
 rw [row22_eq] at ht
 obtain⟨c,-,rfl⟩:=List.mem_map.1 ht
 unfold txt22
 split
 ·exact clean22_e
 ·split
  ·rename_i t' ht'
   exact (tok22_clean (badL_at (h.head.tok _ (getD_mem22 _ (by omega))).2 _ (List.mem_of_getElem? ht'))).1
  ·exact clean22_e
def bare22 (x:Co) (k:Nat):List UInt8:=(x.sg.getD k ByteArray.empty).data.toList++cells22 (row22 x k)
theorem print22_eq (x:Co):print22 x=((List.range x.sg.length).map (bare22 x)).flatMap fun a=>a++[10]:=by
 unfold print22
 rw [List.flatMap_map]
 rfl
theorem bare22_clean {x:Co} (h:Ok22 x) {k:Nat} (hk:k<x.sg.length):(10:UInt8) ∉ bare22 x k:=by
 intro hm
 rcases List.mem_append.1 hm with hm|hm
 ·exact (siglum22_clean (h.head.sig _ (getD_mem22 _ hk))).2 hm
 ·unfold cells22 at hm
  obtain⟨t,ht,hm⟩:=List.mem_flatMap.1 hm
  rcases List.mem_cons.1 hm with hm|hm
  ·exact absurd hm (by decide)
  ·exact (cell22_clean h hk t ht).2 hm
theorem lines22 {x:Co} (h:Ok22 x):part22 10 (print22 x)=(List.range x.sg.length).map (bare22 x)++[[]]:=by
 rw [print22_eq]
 refine part22_lines fun a ha=>?_
 obtain⟨k,hk,rfl⟩:=List.mem_map.1 ha
 exact bare22_clean h (List.mem_range.1 hk)
theorem bars22 {x:Co} (h:Ok22 x) {k:Nat} (hk:k<x.sg.length):part22 124 (bare22 x k)=(x.sg.getD k ByteArray.empty).data.toList::(row22 x k).map fun t=>t.data.toList :=
 part22_cells (siglum22_clean (h.head.sig _ (getD_mem22 _ hk))).1 fun t ht=>(cell22_clean h hk t ht).1
end Go.Proofs.YtefieebkankfoaaGreatDoor
namespace Go.Proofs.YtefieebkankfoaaGreatDoor
open Go.RowKit Go.Shelf Go.Proofs
set_option maxRecDepth 100000
set_option maxHeartbeats 1000000

theorem nilStr1 (H:List HA):Hle H [dat [.slice none 0 0] [strsD []]]:=(nilStr H).trans Hle.sub
theorem rowStr {A:Option Addr} {cap n:Nat} {l:List ByteArray} {H:List HA}:Hle (row 9 1 A cap n (l.map Value.string)::H) [dat [.slice A n cap] [strsD l]]:=dat_rowV.trans (Hle.nth 0 rfl)
theorem textP22_spec (x:Co) (A1:Option Addr) (c1:Nat) (l:List TS) (A2:Option Addr) (c2:Nat) (y3:Value) (i:Int) (w:World) (hx:CoAt w x A1 c1 l A2 c2 y3) :
  Spec Tryz.prog 11 [.agg (coL x.sec (.slice A1 x.sg.length c1) (.slice A2 l.length c2) y3).toArray, .int .i64 i] w (fun v R=>∃ y:Value,True∧v = .tuple #[y, .int .i64 (textV22 x i).2]∧R=[dat [y] [strsD (textV22 x i).1]]):=by
 refine spec_of sg Tryz.func11 rfl rfl rfl ?_
 refine T_op (OpT.box (cs:=coL x.sec (.slice A1 x.sg.length c1) (.slice A2 l.length c2) y3) rfl rfl rfl rfl rfl rfl rfl (fun pc=>?_))
 repeat' (first|refine d1 ?_|(show T _ (.ops _ (_::_)::_) _ _ _;refine T_call rfl rfl rfl rfl rfl (fun w hw=>checkP22_spec x A1 c1 l A2 c2 y3 w (hx.cls hw)) ?_)|fail)
 refine T_if rfl (fun h=>?_) (fun h=>?_)
 ·simp only [Bool.not_eq_true',decide_eq_false_iff_not] at h
  have e:textV22 x i=([],1):=if_pos h
  rw [e]
  repeat' (first|refine d1 ?_|(show T _ (.code .ret::_) _ _ _;refine T_retV _ rfl (nilStr1 _) ⟨_,trivial,rfl,rfl⟩))
 simp only [Bool.not_eq_false',decide_eq_true_eq] at h
 have hok:=chk22_iff.1 h
 obtain⟨h1,h2,h3⟩:=hx.row hok
 repeat' (first|refine d1 ?_|fail)
 refine T_if rfl (fun h4=>?_) (fun h4=>?_)
 ·simp only [Bool.or_eq_true,decide_eq_true_eq] at h4
  have e:textV22 x i=([],2):=by unfold textV22;rw [if_neg (by rw [h];simp),if_pos h4]
  rw [e]
  repeat' (first|refine d1 ?_|(show T _ (.code .ret::_) _ _ _;refine T_retV _ rfl (nilStr1 _) ⟨_,trivial,rfl,rfl⟩))
 simp only [Bool.or_eq_false_iff,decide_eq_false_iff_not] at h4
 have e:textV22 x i=(words22 x i.toNat,0):=by unfold textV22;rw [if_neg (by rw [h];simp),if_neg (by omega)]
 obtain⟨p,rfl⟩:=Int.eq_ofNat_of_zero_le (by omega:0≤i)
 rw [Int.toNat_natCast] at e
 rw [e]
 obtain⟨t,ht⟩:∃ t,l[p]?=some t:=⟨_,List.getElem?_eq_getElem (by omega)⟩
 have htm:=List.mem_of_getElem? ht
 have htl:=hx.hd.ok.len t htm
 have ht6:=(hx.hd.tok t htm).1
 have hw22:words22 x p=t.l.map Tok.text:=by unfold words22;rw [← hx.m,List.getD_eq_getElem?_getD,List.getElem?_map,ht];rfl
 rw [hw22]
 obtain⟨b2,o2,rfl⟩:=hx.hd.s2.base (by omega)
 have hrt:=hx.hd.hdr ht
 repeat' (first|refine d1 ?_|(show T _ (.ops _ (_::_)::_) _ _ _;refine T_callE rfl rfl rfl rfl rfl (fun w hw=>words_spec t.A t.n t.cap t.l w (rdSrc (hx.hd.ok.src t htm) w hw) htl (by omega)) (fun x1 _=>?_))|fail)
 repeat' (first|(show T _ (.code .ret::_) _ _ _;refine T_retV _ rfl rowStr ⟨_,trivial,rfl,rfl⟩))
end Go.Proofs.YtefieebkankfoaaGreatDoor
namespace Go.Proofs.YtefieebkankfoaaGreatDoor
open Go.RowKit Go.Shelf Go.Proofs
set_option maxRecDepth 100000
set_option maxHeartbeats 1000000

abbrev bld22 (pb:Nat) (q A:Option Addr) (c:Nat) (bs:List UInt8) (K:List HA):List HA:=blk pb [.pointer q, .slice A bs.length c] 67::row 5 1 A c bs.length (u8s bs)::K
theorem info_builder:∃ j,Tryz.prog.info? 65=some j∧j.size=2:=by
 obtain⟨x,hx,h1,_⟩:=(Sig.tyOk (S:=sg) (t:=65) rfl).info'
 exact⟨x,hx,h1⟩
theorem lies_builder:liesAt Tryz.prog Tryz.prog.depth 67 (2 / Tryz.prog.cellsOf 67) 0 65 1=true:=by kernel_rfl
theorem noEscape_run (x:Value) (w:World):(callFunc 129 #[x]).run Tryz.prog w = .ok (.value x) w:=by
 rw [run_callFunc_extern Tryz.func129 (by kernel_rfl) (by kernel_rfl) (by kernel_rfl) (e:=Extern.AbiNoEscape.same) (by kernel_rfl),Lib.run_noEscape]
 rfl
theorem copyCheck_spec (w0:World) (pb:Nat) (q:Option Addr) (hq:q=none∨q=some ⟨pb,0,none⟩) (A:Option Addr) (n c:Nat) (K:List HA) :
  SpecB Tryz.prog 88 [.pointer (some ⟨pb,0,none⟩)] w0 (blk pb [.pointer q, .slice A n c] 67::K) (fun u R=>u = .tuple #[]∧R=blk pb [.pointer (some ⟨pb,0,none⟩), .slice A n c] 67::K):=by
 obtain⟨j,hj,hj2⟩:=info_builder
 refine specB_of sg Tryz.func88 rfl rfl rfl ?_
 rcases hq with rfl|rfl
 ·repeat' (first|refine d1 ?_|(show T _ (.ops _ (_::_)::_) _ _ _;first|refine T_val rfl (Val.nilc rfl) rfl rfl rfl ?_|refine T_val rfl (Val.nilS rfl) rfl rfl rfl ?_)|fail)
  refine T_if rfl (fun h=>?_) (fun h=>by cases h)
  repeat' (first|refine d1 ?_|(show T _ (.ops _ (_::_)::_) _ _ _;first|refine T_val rfl (Val.nilc rfl) rfl rfl rfl ?_|refine T_val rfl (Val.toUnsafe rfl Tryz.underlying62 Tryz.underlying166 hj (by omega) (by simp)) rfl rfl rfl ?_|refine T_val rfl (Val.fromUnsafe rfl Tryz.underlying166 Tryz.underlying62 hj (by exact lies_builder)) rfl rfl rfl ?_|refine T_op (OpT.callX (v := .pointer (some ⟨pb,0,none⟩)) rfl rfl rfl rfl rfl (fun w hw=>noEscape_run _ w) ?_))|fail)
  exact T_fallV _ rfl (Hle.refl _) ⟨rfl,rfl⟩
 ·repeat' (first|refine d1 ?_|(show T _ (.ops _ (_::_)::_) _ _ _;first|refine T_val rfl (Val.nilc rfl) rfl rfl rfl ?_|refine T_val rfl (Val.nilS rfl) rfl rfl rfl ?_)|fail)
  refine T_if rfl (fun h=>by cases h) (fun h=>?_)
  repeat' (first|refine d1 ?_|(show T _ (.ops _ (_::_)::_) _ _ _;first|refine T_val rfl (Val.nilc rfl) rfl rfl rfl ?_|refine T_val rfl (Val.ptrSame rfl rfl Tryz.underlying62 hj) rfl rfl rfl ?_)|fail)
  refine T_if rfl (fun h=>by cases h) (fun h=>?_)
  skip
  exact T_fallV _ rfl (Hle.refl _) ⟨rfl,rfl⟩
theorem writeString_spec (w0:World) (pb:Nat) (q:Option Addr) (hq:q=none∨q=some ⟨pb,0,none⟩) (A:Option Addr) (c:Nat) (bs:List UInt8) (s:ByteArray) (hb:bs.length+s.size≤1000000) (K:List HA) :
  SpecB Tryz.prog 59 [.pointer (some ⟨pb,0,none⟩), .string s] w0 (bld22 pb q A c bs K) (fun u R=>∃ x:Option Addr × Nat,u = .tuple #[.int .i64 (s.size:Nat), .nilIface]∧R=bld22 pb (some ⟨pb,0,none⟩) x.1 x.2 (bs++s.data.toList) K):=by
 refine specB_of sg Tryz.func59 rfl rfl rfl ?_
 repeat' (first|refine d1 ?_|(show T _ (.ops _ (_::_)::_) _ _ _;refine T_op (OpT.callB rfl rfl rfl rfl rfl (copyCheck_spec _ pb q hq A bs.length c _) (fun u R hR=>?_)))|fail)
 obtain⟨rfl,rfl⟩:=hR
 have e:(bs++s.data.toList).length=bs.length+s.size:=by rw [List.length_append];simp
 repeat' (first|refine d1 ?_|(show T _ (.ops _ (_::_)::_) _ _ _;first|refine T_val rfl (Val.nilc rfl) rfl rfl rfl ?_|refine T_op (OpT.appendS rfl rfl rfl rfl rfl rfl rfl rfl rfl rfl (by omega) (fun A' cap' hA'=>?_)))|fail)
 exact T_retV (bld22 pb (some ⟨pb,0,none⟩) A' cap' (bs++s.data.toList) K) rfl (by unfold bld22;rw [e,u8s_app];exact Hle.refl _) ⟨(A',cap'),rfl,rfl⟩
theorem writeByte_spec (w0:World) (pb:Nat) (q:Option Addr) (hq:q=none∨q=some ⟨pb,0,none⟩) (A:Option Addr) (c:Nat) (bs:List UInt8) (b:UInt8) (hb:bs.length+1≤1000000) (K:List HA) :
  SpecB Tryz.prog 60 [.pointer (some ⟨pb,0,none⟩), .int .u8 ((b.toNat:Nat):Int)] w0 (bld22 pb q A c bs K) (fun u R=>∃ x:Option Addr × Nat,u = .nilIface∧R=bld22 pb (some ⟨pb,0,none⟩) x.1 x.2 (bs++[b]) K):=by
 refine specB_of sg Tryz.func60 rfl rfl rfl ?_
 repeat' (first|refine d1 ?_|(show T _ (.ops _ (_::_)::_) _ _ _;refine T_op (OpT.callB rfl rfl rfl rfl rfl (copyCheck_spec _ pb q hq A bs.length c _) (fun u R hR=>?_)))|fail)
 obtain⟨rfl,rfl⟩:=hR
 have e:(bs++[b]).length=bs.length+1:=by rw [List.length_append];rfl
 repeat' (first|refine d1 ?_|(show T _ (.ops _ (_::_)::_) _ _ _;first|refine T_val rfl (Val.nilc rfl) rfl rfl rfl ?_|refine T_op (OpT.append (A:=A) rfl rfl rfl rfl rfl rfl rfl rfl rfl rfl (fun w hw=>Src.own hw rfl) rfl (by dsimp only;omega) (by omega) (fun A' cap' hA'=>?_)))|(show ∀ _:Nat,T _ _ _ _ _;intro _))
 exact T_retV (bld22 pb (some ⟨pb,0,none⟩) A' cap' (bs++[b]) K) rfl (by unfold bld22;rw [e,u8s_app];exact Hle.tail _ _) ⟨(A',cap'),rfl,rfl⟩
theorem line22_spec (w0:World) (pb:Nat) (q:Option Addr) (hq:q=none∨q=some ⟨pb,0,none⟩) (A:Option Addr) (c:Nat) (bs:List UInt8) (s:ByteArray) (y:Value) (l:List ByteArray) (p:Frag) (K:List HA) [FocusZ K p] (hy:Rd (fr p) [y] [strsD l]) (hs:s.size≤100) (hl:l.length≤100) (ht:∀ t∈l,t.size≤100) (hb:bs.length≤900000) :
  SpecB Tryz.prog 35 [.pointer (some ⟨pb,0,none⟩), .string s,y] w0 (bld22 pb q A c bs K) (fun u R=>∃ x:Option Addr × Nat,u = .tuple #[]∧R=bld22 pb (some ⟨pb,0,none⟩) x.1 x.2 (bs++line22 s l) K):=by
 obtain⟨Ay,cy,rfl,hyc,hym,hyr⟩:∃ Ay cy,y = .slice Ay l.length cy∧l.length≤cy∧cy≤9223372036854775807∧(0<l.length→∃ b o,Ay=some ⟨b,o,none⟩∧∀ (k:Nat) t,l[k]?=some t→fr p b (o+k)=some (.string t)):=by
  obtain⟨A,n,cap,rfl,h1,h2,h3,h4⟩:=hy.vals_one
  have e:n=l.length:=by simpa using h1.symm
  subst e
  exact⟨A,cap,rfl,h2,h3,fun h0=>⟨bk A,ofs A,(h4 h0).1,fun k t ht=>(h4 h0).2 k _ (by rw [List.getElem?_map,ht];rfl)⟩⟩
 refine specB_of sg Tryz.func35 rfl rfl rfl ?_
 repeat' (first|refine d1 ?_|(show T _ (.ops _ (_::_)::_) _ _ _;first|refine T_val rfl (Val.nilc rfl) rfl rfl rfl ?_|refine T_op (OpT.callB rfl rfl rfl rfl rfl (writeString_spec _ pb q hq A c bs s (by omega) _) (fun u R hR=>?_)))|fail)
 obtain⟨⟨A0,c0⟩,rfl,rfl⟩:=hR
 have hsl:s.data.toList.length=s.size:=by simp
 have hcl:∀ k,k≤l.length→(cells22 (l.take k)).length≤101 * k:=by
  intro k
  induction k with
  | zero=>intro _;exact Nat.le_refl _
  | succ k ih =>
   intro hk
   obtain⟨t,hg⟩:∃ t,l[k]?=some t:=⟨_,List.getElem?_eq_getElem (by omega)⟩
   have h1:=ih (by omega)
   have h2:=ht t (List.mem_of_getElem? hg)
   have h3:t.data.toList.length=t.size:=by simp
   rw [take_snoc _ _ _ hg]
   unfold cells22 at h1 ⊢
   rw [List.flatMap_append,List.length_append]
   simp only [List.flatMap_cons,List.flatMap_nil,List.append_nil,List.length_cons]
   omega
 skip
 refine T_loopX (fun z:Nat × Option Addr × Nat=>[(15, .int .i64 (z.1:Nat))]) (fun z=>bld22 pb (some ⟨pb,0,none⟩) z.2.1 z.2.2 (bs++s.data.toList++cells22 (l.take z.1)) K) (fun z=>z.1≤l.length) (fun z=>l.length - z.1) (0,A0,c0) (Nat.zero_le _) ?_ (hG:=by show Hle (bld22 pb _ A0 c0 (bs++s.data.toList) K) (bld22 pb _ A0 c0 (bs++s.data.toList++[]) K);rw [List.append_nil];exact Hle.refl _)
 rintro⟨k,A1,c1⟩ hk
 dsimp only at hk ⊢
 have h101:=hcl k hk
 have hlen:(bs++s.data.toList++cells22 (l.take k)).length=bs.length+s.size+(cells22 (l.take k)).length:=by rw [List.length_append,List.length_append,hsl]
 repeat' (first|refine d1 ?_|fail)
 refine T_if rfl (fun h=>?_) (fun h=>?_)
 ·simp only [decide_eq_true_eq] at h
  have hkn:k<l.length:=by omega
  obtain⟨b,o,rfl,hyk⟩:=hyr (by omega)
  obtain⟨t,hg⟩:∃ t,l[k]?=some t:=⟨_,List.getElem?_eq_getElem hkn⟩
  have hts:=ht t (List.mem_of_getElem? hg)
  have hr:fr p b (o+(k:Int).toNat * 1)=some (.string t):=by rw [off1];exact hyk k t hg
  have hz1:(ByteArray.mk #[124]).size=1:=rfl
  have hz:((ByteArray.mk #[124])++t).size=1+t.size:=by rw [ByteArray.size_append];rfl
  repeat' (first|refine d1 ?_|(show T _ (.ops _ (_::_)::_) _ _ _;first|refine T_val rfl (Val.load rfl (fun hg=>rdFz (p:=p) hr)) rfl rfl rfl ?_|refine T_val rfl (Val.nilc rfl) rfl rfl rfl ?_|refine T_op (OpT.callB rfl rfl rfl rfl rfl (writeString_spec _ pb _ (.inr rfl) A1 c1 _ ((ByteArray.mk #[124])++t) (by rw [hlen,hz];omega) _) (fun u R hR=>?_)))|fail)
  obtain⟨⟨A2,c2⟩,rfl,rfl⟩:=hR
  skip
  refine T_backX (k+1,A2,c2) (by dsimp only;omega) (by dsimp only;omega) (hG:=?_)
  have e:bs++s.data.toList++cells22 (l.take k)++((ByteArray.mk #[124])++t).data.toList=bs++s.data.toList++cells22 (l.take (k+1)):=by
   have hd:((ByteArray.mk #[124])++t).data.toList=124::t.data.toList:=by rw [ByteArray.data_append,Array.toList_append];rfl
   rw [take_snoc _ _ _ hg,hd]
   unfold cells22
   rw [List.flatMap_append,List.append_assoc,List.append_assoc,List.append_assoc,List.flatMap_cons,List.flatMap_nil,List.append_nil]
  rw [e]
  exact Hle.refl _
 ·simp only [decide_eq_false_iff_not] at h
  obtain rfl:k=l.length:=by omega
  rw [List.take_length] at hlen h101 ⊢
  repeat' (first|refine d1 ?_|(show T _ (.ops _ (_::_)::_) _ _ _;first|refine T_val rfl (Val.nilc rfl) rfl rfl rfl ?_|refine T_op (OpT.callB rfl rfl rfl rfl rfl (writeByte_spec _ pb _ (.inr rfl) A1 c1 _ 10 (by rw [hlen];omega) _) (fun u R hR=>?_)))|fail)
  obtain⟨⟨A2,c2⟩,rfl,rfl⟩:=hR
  skip
  refine T_fallV _ rfl (Hle.refl _) ⟨(A2,c2),rfl,?_⟩
  unfold line22
  rw [List.append_assoc,List.append_assoc,List.append_assoc]
theorem len22_spec (pb:Nat) (q A:Option Addr) (n c:Nat) (w:World) (h:RdC w pb 0 [.pointer q, .slice A n c]):Spec Tryz.prog 36 [.pointer (some ⟨pb,0,none⟩)] w (fun v R=>v = .int .i64 (n:Nat)∧R=[]):=by
 have h1:RdC w pb (0+1) [.slice A n c]:=RdC.at h rfl
 refine spec_of sg Tryz.func36 rfl rfl rfl ?_
 repeat' (first|refine d1 ?_|(show T _ (.ops _ (_::_)::_) _ _ _;refine T_val rfl (Val.nilc rfl) rfl rfl rfl ?_)|(show T _ (.code .ret::_) _ _ _;refine T_retV [] rfl (Hle.none _) ⟨rfl,rfl⟩))
end Go.Proofs.YtefieebkankfoaaGreatDoor
namespace Go.Proofs.YtefieebkankfoaaGreatDoor
open Go.RowKit Go.Shelf Go.Proofs
set_option maxRecDepth 100000
set_option maxHeartbeats 1000000

theorem rows_out {n k:Nat} (pre:List HA) (f:Nat→HA) (hk:k<n):Hle (pre++(List.range n).map f) (f k::(pre++((List.range n).erase k).map f)):=by
 refine Hle.perm ?_
 have h1:(List.range n).Perm (k::(List.range n).erase k):=List.perm_cons_erase (List.mem_range.2 hk)
 have h2:=(h1.map f).append_left pre
 exact h2.trans (List.perm_middle (a:=f k))
theorem rows_in {n k:Nat} (pre:List HA) (f g:Nat→HA) (hk:k<n) (hg:∀ j,j≠k→f j=g j):Hle (g k::(pre++((List.range n).erase k).map f)) (pre++(List.range n).map g):=by
 refine Hle.perm ?_
 have h1:(List.range n).Perm (k::(List.range n).erase k):=List.perm_cons_erase (List.mem_range.2 hk)
 have e:((List.range n).erase k).map f=((List.range n).erase k).map g:=List.map_congr_left fun j hj=>hg j fun e=>by
  subst e
  exact absurd hj (List.Nodup.not_mem_erase List.nodup_range)
 rw [e]
 have h2:=(h1.map g).append_left pre
 exact (h2.trans (List.perm_middle (a:=g k))).symm
theorem rows_nil {e sz:Nat} (H:List HA):∀ n:Nat,Hle H ((List.range n).map (fun _=>row e sz none 0 0 [])++H)
 | 0=>Hle.refl _
 | n+1=>by
  have e1:(List.range (n+1)).map (fun _=>row e sz none 0 0 [])=row e sz none 0 0 []::(List.range n).map (fun _=>row e sz none 0 0 []):=by
   rw [List.range_succ_eq_map,List.map_cons,List.map_map];rfl
  rw [e1]
  exact (rows_nil H n).trans (hle_unit (B:=row e sz none 0 0 []) ⟨by simp, .inl ⟨rfl,rfl,rfl,rfl⟩⟩)
theorem rows_acc {e:TypeId} (ρ:Nat→Option Addr × Nat) (m:Nat) (cs:Nat→List Value) (H:List HA):∀ (L:List Nat) (vs:List Value) (ds:List D),
  Hle (dat vs ds::(L.map (fun j=>row e 1 (ρ j).1 (ρ j).2 m (cs j))++H)) (dat (vs++L.map fun j => .slice (ρ j).1 m (ρ j).2) (ds++L.map fun j => .s 1 ((cs j).map .v))::H)
 | [],vs,ds=>by simp only [List.map_nil,List.append_nil,List.nil_append];exact Hle.refl _
 | j::L,vs,ds=>by
  have h1:Hle (dat vs ds::row e 1 (ρ j).1 (ρ j).2 m (cs j)::(L.map (fun j=>row e 1 (ρ j).1 (ρ j).2 m (cs j))++H)) (dat (vs++[.slice (ρ j).1 m (ρ j).2]) (ds++[.s 1 ((cs j).map .v)])::(L.map (fun j=>row e 1 (ρ j).1 (ρ j).2 m (cs j))++H)) :=
   (Hle.perm (List.Perm.swap _ _ _)).trans (dat_rowV.trans dat_join)
  have h2:=rows_acc (e:=e) ρ m cs H L (vs++[.slice (ρ j).1 m (ρ j).2]) (ds++[.s 1 ((cs j).map .v)])
  rw [List.append_assoc,List.append_assoc] at h2
  exact h1.trans h2
def cn22 (i k j:Nat):Nat:=if j<k then i+1 else i
def hd22 (ρ:Nat→Option Addr × Nat) (cnt:Nat→Nat) (n:Nat):List Value:=(List.range n).map fun j => .slice (ρ j).1 (cnt j) (ρ j).2
def rw22 (x:Co) (ρ:Nat→Option Addr × Nat) (cnt:Nat→Nat) (j:Nat):HA:=row 9 1 (ρ j).1 (ρ j).2 (cnt j) (((row22 x j).take (cnt j)).map Value.string)
theorem hd22_len (ρ:Nat→Option Addr × Nat) (cnt:Nat→Nat) (n:Nat):(hd22 ρ cnt n).length=n:=by simp [hd22]
theorem hd22_get {ρ:Nat→Option Addr × Nat} {cnt:Nat→Nat} {n k:Nat} (h:k<n):(hd22 ρ cnt n)[k]?=some (.slice (ρ k).1 (cnt k) (ρ k).2):=by simp [hd22,h]
def up22 (ρ:Nat→Option Addr × Nat) (k:Nat) (a:Option Addr × Nat) (j:Nat):Option Addr × Nat:=if j=k then a else ρ j
theorem hd22_set {ρ:Nat→Option Addr × Nat} {i n k:Nat} (a:Option Addr × Nat) (h:k<n):(hd22 ρ (cn22 i k) n).set k (.slice a.1 (i+1) a.2)=hd22 (up22 ρ k a) (cn22 i (k+1)) n:=by
 refine List.ext_getElem? fun j=>?_
 rw [List.getElem?_set,hd22_len]
 by_cases hj:j<n
 ·rw [hd22_get hj,hd22_get hj]
  by_cases e:k=j
  ·subst e
   rw [if_pos rfl,if_pos h]
   unfold up22 cn22
   rw [if_pos rfl,if_pos (by omega)]
  ·rw [if_neg e]
   unfold up22 cn22
   rw [if_neg (Ne.symm e)]
   by_cases h2:j<k
   ·rw [if_pos h2,if_pos (by omega)]
   ·rw [if_neg h2,if_neg (by omega)]
 ·rw [if_neg (by omega),List.getElem?_eq_none (by rw [hd22_len];omega),List.getElem?_eq_none (by rw [hd22_len];omega)]
theorem cn22_full {i n j:Nat} (h:j<n):cn22 i n j=cn22 (i+1) 0 j:=by unfold cn22;rw [if_pos h,if_neg (by omega)]
theorem hd22_full (ρ:Nat→Option Addr × Nat) (i n:Nat):hd22 ρ (cn22 i n) n=hd22 ρ (cn22 (i+1) 0) n:=List.map_congr_left fun j hj=>by rw [cn22_full (List.mem_range.1 hj)]
theorem rw22_full (x:Co) (ρ:Nat→Option Addr × Nat) (i n:Nat):(List.range n).map (rw22 x ρ (cn22 i n))=(List.range n).map (rw22 x ρ (cn22 (i+1) 0)):=List.map_congr_left fun j hj=>by unfold rw22;rw [cn22_full (List.mem_range.1 hj)]
theorem T_rowcap {C:Cx} {k:List It} {env:Env} {ec:EnvC} {H:List HA} {A:Option Addr} {e sz cap n:Nat} {xs:List Value} {rb:HA→List HA} [hf:FocusR H A e sz cap n xs rb] (h:n≤cap→T C k env ec H):T C k env ec H:=by
 refine T.mk fun a w ha hw=>?_
 obtain⟨i,hi,_⟩:=hf.at_
 obtain⟨F,h1,h2,h3⟩:=hw.sep
 obtain⟨_,hr⟩:=h1 i _ hi
 refine h ?_ a w ha hw
 rcases hr with⟨_,rfl,rfl,_⟩|⟨g,cur,_,_,h5,_⟩
 ·exact Nat.le_refl _
 ·exact h5
theorem string22_spec (w0:World) (pb:Nat) (q A:Option Addr) (c:Nat) (bs:List UInt8) (h0:bs≠[]) (K:List HA) :
  SpecB Tryz.prog 37 [.pointer (some ⟨pb,0,none⟩)] w0 (bld22 pb q A c bs K) (fun u R=>u = .string ⟨bs.toArray⟩∧R=[]):=by
 refine specB_of sg Tryz.func37 rfl rfl rfl ?_
 have hl:0<bs.length:=List.length_pos_iff.2 h0
 refine T_rowcap (e:=5) (sz:=1) (A:=A) (cap:=c) (n:=bs.length) (xs:=u8s bs) fun hc=>?_
 refine T_rowpos (e:=5) (sz:=1) (A:=A) (cap:=c) (n:=bs.length) (xs:=u8s bs) hl fun g hA=>?_
 subst hA
 repeat' (first|refine d1 ?_|fail)
 refine rsH [blk pb [.pointer q, .slice (some ⟨g,0,none⟩) bs.length c] 67] 1000 [0,1,2,3,5,6,7,8,9,4,10,11] ?_
 repeat' (first|refine dd ?_|(show T _ (.run _ _ (_::_) _ _::_) _ _ _;first|refine rv rfl rfl rfl (Val.nilc rfl) rfl rfl rfl ?_|refine ro rfl rfl (OpT.ofVal rfl (Val.sliceData rfl (by omega)) rfl rfl rfl ⟨fun _=>Hle.sub,?_⟩)|refine ro rfl rfl (OpT.unsafeStr rfl rfl rfl rfl rfl (by kernel_rfl) h0 ⟨fun _=>Hle.sub,?_⟩))|(show T _ (.code .ret::_) _ _ _;refine T_retV _ rfl (Hle.none _) ⟨rfl,rfl⟩))
theorem cells22_le {l:List ByteArray} {b:Nat} (h:∀ t∈l,t.size≤b):(cells22 l).length≤(b+1) * l.length:=by
 induction l with
 | nil=>exact Nat.le_refl _
 | cons t l ih =>
  have h1:=h t (.head _)
  have h2:=ih fun y hy=>h y (.tail _ hy)
  have h3:t.data.toList.length=t.size:=by simp
  unfold cells22 at h2 ⊢
  rw [List.flatMap_cons,List.length_append,List.length_cons,List.length_cons,Nat.mul_succ]
  omega
def part22N (x:Co) (k:Nat):List UInt8:=(List.range k).flatMap fun k=>line22 (x.sg.getD k ByteArray.empty) (row22 x k)
theorem part22N_succ (x:Co) (k:Nat):part22N x (k+1)=part22N x k++line22 (x.sg.getD k ByteArray.empty) (row22 x k):=by unfold part22N;rw [List.range_succ,List.flatMap_append];simp
theorem part22N_all (x:Co):part22N x x.sg.length=print22 x:=rfl
theorem cell22_le {x:Co} (hs:Small22 x) (k i:Nat):(cell22 x k i).size≤12:=by
 unfold cell22 txt22
 split
 ·exact Nat.zero_le _
 ·split
  ·rename_i t ht
   have hm:=List.mem_of_getElem? ht
   rw [List.getD_eq_getElem?_getD] at hm
   cases hq:x.m[k]? with
   | none=>rw [hq] at hm;cases hm
   | some l=>rw [hq] at hm;exact hs.txt l (List.mem_of_getElem? hq) t hm
  ·exact Nat.zero_le _
theorem line22_le {x:Co} (hs:Small22 x) {k:Nat} (hk:k<x.sg.length):(line22 (x.sg.getD k ByteArray.empty) (row22 x k)).length≤333:=by
 have h1:=hs.sig _ (getD_mem22 ByteArray.empty hk)
 have h2:=cells22_le (l:=row22 x k) (b:=12) fun t ht=>by
  obtain⟨i,-,rfl⟩:=List.mem_map.1 ht
  exact cell22_le hs k i
 have h3:=hs.cols
 rw [row22_len] at h2
 have h4:(x.sg.getD k ByteArray.empty).data.toList.length=(x.sg.getD k ByteArray.empty).size:=by simp
 unfold line22
 rw [List.length_append,List.length_append,h4,List.length_singleton]
 omega
theorem part22N_le {x:Co} (hs:Small22 x):∀ k,k≤x.sg.length→(part22N x k).length≤333 * k
 | 0,_=>Nat.le_refl _
 | k+1,hk=>by
  have h1:=part22N_le hs k (by omega)
  have h2:=line22_le hs (k:=k) (by omega)
  rw [part22N_succ,List.length_append]
  omega
theorem printV22_ok {x:Co} (hs:Small22 x) (h:Ok22 x):printV22 x=(⟨(print22 x).toArray⟩,0):=by
 have h1:=part22N_le hs x.sg.length (Nat.le_refl _)
 have h2:=hs.sg
 rw [part22N_all] at h1
 unfold printV22
 rw [if_neg (by rw [chk22_iff.2 h];simp),if_neg (by omega)]
theorem row22_get {x:Co} {k i:Nat} (h:i<x.cols.length):(row22 x k)[i]?=some (cell22 x k i):=by unfold row22;rw [List.getElem?_map,List.getElem?_range h];rfl
theorem printP22_spec (x:Co) (A1:Option Addr) (c1:Nat) (l:List TS) (A2:Option Addr) (c2:Nat) (y3:Value) (w:World) (hx:CoAt w x A1 c1 l A2 c2 y3) (hs:Small22 x) :
  Spec Tryz.prog 16 [.agg (coL x.sec (.slice A1 x.sg.length c1) (.slice A2 l.length c2) y3).toArray] w (fun v R=>v = .tuple #[.string (printV22 x).1, .int .i64 (printV22 x).2]∧R=[]):=by
 obtain⟨Ak,ck,csk,rfl,hck1,hck2,hcs,hrows⟩:=hx.cols.tabS
 obtain⟨n,hn⟩:∃ n,x.sg.length=n:=⟨_,rfl⟩
 have hchk:∀ w',CoAt w' x A1 c1 l A2 c2 (.slice Ak x.cols.length ck)→Spec Tryz.prog 26 [.agg (coL x.sec (.slice A1 n c1) (.slice A2 l.length c2) (.slice Ak x.cols.length ck)).toArray] w' (fun v R=>v = .int .i64 (chk22 x)∧R=[]):=fun w' h'=>by
  have:=checkP22_spec x A1 c1 l A2 c2 _ w' h'
  rw [hn] at this
  exact this
 have hcolS:∀ (i:Nat) w',CoAt w' x A1 c1 l A2 c2 (.slice Ak x.cols.length ck)→Ok22 x→i<x.cols.length→Spec Tryz.prog 33 [.agg (coL x.sec (.slice A1 n c1) (.slice A2 l.length c2) (.slice Ak x.cols.length ck)).toArray, .int .i64 (i:Nat)] w' (fun v R=>∃ b:Nat,True∧v = .slice (some ⟨b,0,none⟩) n n∧R=[blk b ((col22 x i).map Value.string) 9]):=fun i w' h' h2 h3=>by
  have:=column22_spec x A1 c1 l A2 c2 _ i w' h' h2 h3
  rw [hn] at this
  exact this
 rw [hn]
 refine spec_of sg Tryz.func16 rfl rfl rfl ?_
 refine T_op (OpT.box (cs:=coL x.sec (.slice A1 n c1) (.slice A2 l.length c2) (.slice Ak x.cols.length ck)) rfl rfl rfl rfl rfl rfl rfl (fun pc=>?_))
 repeat' (first|refine d1 ?_|(show T _ (.ops _ (_::_)::_) _ _ _;refine T_call rfl rfl rfl rfl rfl (fun w hw=>hchk w (hx.cls hw)) ?_)|fail)
 refine T_if rfl (fun h=>?_) (fun h=>?_)
 ·simp only [Bool.not_eq_true',decide_eq_false_iff_not] at h
  have e:printV22 x=(ByteArray.empty,1):=if_pos h
  rw [e]
  repeat' (first|refine d1 ?_|(show T _ (.code .ret::_) _ _ _;refine T_retV [] rfl (Hle.none _) ⟨rfl,rfl⟩))
 simp only [Bool.not_eq_false',decide_eq_true_eq] at h
 have hok:=chk22_iff.1 h
 obtain⟨h1,h2,h3⟩:=hx.row hok
 have hs1:=hx.hd.s1
 have hcols:=hs.cols
 rw [hn] at h1 h2 h3 hs1
 rw [printV22_ok hs hok]
 obtain⟨bs1,os1,rfl⟩:=hs1.base (by omega)
 repeat' (first|refine d1 ?_|(show T _ (.ops _ (_::_)::_) _ _ _;refine T_op (OpT.make rfl rfl rfl rfl rfl rfl rfl rfl rfl (by dsimp only;omega) (fun b1=>?_)))|fail)
 have hz:List.replicate n (Value.slice none 0 0)=hd22 (fun _=>(none,0)) (cn22 0 0) n:=by
  refine List.ext_getElem? fun j=>?_
  rw [List.getElem?_replicate]
  by_cases hj:j<n
  ·rw [if_pos hj,hd22_get hj];rfl
  ·rw [if_neg hj,List.getElem?_eq_none (by rw [hd22_len];omega)]
 refine T_loopX (fun s:Nat × (Nat→Option Addr × Nat)=>[(21, .int .i64 (s.1:Nat))]) (fun s=>blk b1 (hd22 s.2 (cn22 s.1 0) n) 22::blk pc (coL x.sec (.slice (some ⟨bs1,os1,none⟩) n c1) (.slice A2 l.length c2) (.slice Ak x.cols.length ck)) 26::(List.range n).map (rw22 x s.2 (cn22 s.1 0))) (fun s=>s.1≤x.cols.length) (fun s=>x.cols.length - s.1) (0,fun _=>(none,0)) (Nat.zero_le _) ?_ (hG:=?_)
 rotate_left
 ·dsimp only
  refine Hle.trans (rows_nil (e:=9) (sz:=1) _ n) ?_
  rw [← hz]
  exact Hle.perm List.perm_append_comm
 rintro⟨i,ρ⟩ hi
 dsimp only at hi ⊢
 repeat' (first|refine d1 ?_|fail)
 refine T_if rfl (fun h5=>?_) (fun h5=>?_)
 ·simp only [decide_eq_true_eq] at h5
  have hin:i<x.cols.length:=by omega
  repeat' (first|refine d1 ?_|(show T _ (.ops _ (_::_)::_) _ _ _;refine T_callE rfl rfl rfl rfl rfl (fun w hw=>hcolS i w (hx.cls hw) hok hin) (fun b2 _=>?_))|fail)
  refine T_loopX (fun s:Nat × (Nat→Option Addr × Nat)=>[(28, .int .i64 (s.1:Nat))]) (fun s=>blk b1 (hd22 s.2 (cn22 i s.1) n) 22::blk b2 ((col22 x i).map Value.string) 9::blk pc (coL x.sec (.slice (some ⟨bs1,os1,none⟩) n c1) (.slice A2 l.length c2) (.slice Ak x.cols.length ck)) 26::(List.range n).map (rw22 x s.2 (cn22 i s.1))) (fun s=>s.1≤n) (fun s=>n - s.1) (0,ρ) (Nat.zero_le _) ?_ (hG:=Hle.perm (List.Perm.swap _ _ _))
  rintro⟨k,ρ⟩ hk
  dsimp only at hk ⊢
  repeat' (first|refine d1 ?_|fail)
  refine T_if rfl (fun h6=>?_) (fun h6=>?_)
  ·simp only [decide_eq_true_eq] at h6
   have hkn:k<n:=by omega
   refine T_le (H':=rw22 x ρ (cn22 i k) k::blk b1 (hd22 ρ (cn22 i k) n) 22::blk b2 ((col22 x i).map Value.string) 9::blk pc (coL x.sec (.slice (some ⟨bs1,os1,none⟩) n c1) (.slice A2 l.length c2) (.slice Ak x.cols.length ck)) 26::((List.range n).erase k).map (rw22 x ρ (cn22 i k))) (rows_out [_,_,_] _ hkn) ?_
   have hci:cn22 i k k=i:=by unfold cn22;rw [if_neg (by omega)]
   have hrk:rw22 x ρ (cn22 i k) k=row 9 1 (ρ k).1 (ρ k).2 i (((row22 x k).take i).map Value.string):=by unfold rw22;rw [hci]
   have hcg:((col22 x i).map Value.string)[k]?=some (.string (cell22 x k i)):=by rw [List.getElem?_map,col22_get (by omega)];rfl
   have hhg:(hd22 ρ (cn22 i k) n)[k]?=some (.slice (ρ k).1 i (ρ k).2):=by rw [hd22_get hkn,hci]
   rw [hrk]
   repeat' (first|refine d1 ?_|(show T _ (.ops _ (_::_)::_) _ _ _;first|refine T_val rfl (Val.load rfl (fun hg=>rdOwn1 (b:=b2) (u := .string (cell22 x k i)) (by rw [show 0+(k:Int).toNat * 1=k by omega];exact hcg))) rfl rfl rfl ?_|refine T_val rfl (Val.load rfl (fun hg=>rdOwn1 (b:=b1) (u := .slice (ρ k).1 i (ρ k).2) (by rw [show 0+(k:Int).toNat * 1=k by omega];exact hhg))) rfl rfl rfl ?_|refine T_op (OpT.append (A:=(ρ k).1) rfl rfl rfl rfl rfl rfl rfl rfl rfl rfl (fun w hw=>Src.own hw rfl) rfl (by dsimp only;omega) (by omega) (fun A5 c5 hA5=>?_))|refine T_op (OpT.store rfl rfl rfl rfl (by rw [hd22_len];omega) ?_))|(show ∀ _:Nat,T _ _ _ _ _;intro _))
   refine T_backX (k+1,up22 ρ k (A5,c5)) (by dsimp only;omega) (by dsimp only;omega) (hG:=?_)
   dsimp only
   rw [show 0+(k:Int).toNat * 1=k by omega,hd22_set (A5,c5) hkn]
   have htk:=take_snoc _ _ _ (row22_get (k:=k) hin)
   have e1:row 9 1 A5 c5 (i+1) (((row22 x k).take i).map Value.string++flatP [(0, .string (cell22 x k i))])=rw22 x (up22 ρ k (A5,c5)) (cn22 i (k+1)) k:=by
    unfold rw22 up22 cn22
    rw [if_pos rfl,if_pos (by omega),htk,List.map_append]
    rfl
   rw [e1]
   refine (Hle.tail _ _).trans ?_
   exact rows_in [_,_,_] _ _ hkn fun j hj=>by
    unfold rw22 up22 cn22
    rw [if_neg hj]
    by_cases h9:j<k
    ·rw [if_pos h9,if_pos (by omega)]
    ·rw [if_neg h9,if_neg (by omega)]
  ·simp only [decide_eq_false_iff_not] at h6
   obtain rfl:k=n:=by omega
   repeat' (first|refine d1 ?_|fail)
   refine T_backX (i+1,ρ) (by dsimp only;omega) (by dsimp only;omega) (hG:=?_)
   dsimp only
   rw [← hd22_full, ← rw22_full]
   exact Hle.perm (List.Perm.cons _ (List.Perm.refl _)) |>.trans (Hle.drop2 _ _ _)
 simp only [decide_eq_false_iff_not] at h5
 obtain rfl:i=x.cols.length:=by omega
 have hcn:∀ j,cn22 x.cols.length 0 j=x.cols.length:=fun j=>by unfold cn22;rw [if_neg (by omega)]
 refine T_le (H':=dat (hd22 ρ (cn22 x.cols.length 0) n) ((List.range n).map fun j=>strsD (row22 x j))::blk b1 (hd22 ρ (cn22 x.cols.length 0) n) 22::blk pc (coL x.sec (.slice (some ⟨bs1,os1,none⟩) n c1) (.slice A2 l.length c2) (.slice Ak x.cols.length ck)) 26::[]) ?_ ?_
 ·have e1:(List.range n).map (rw22 x ρ (cn22 x.cols.length 0))=(List.range n).map (fun j=>row 9 1 (ρ j).1 (ρ j).2 x.cols.length ((row22 x j).map Value.string)):=List.map_congr_left fun j _=>by
   unfold rw22
   rw [hcn,List.take_of_length_le (by rw [row22_len];omega)]
  have e2:hd22 ρ (cn22 x.cols.length 0) n=(List.range n).map fun j => .slice (ρ j).1 x.cols.length (ρ j).2:=List.map_congr_left fun j _=>by rw [hcn]
  rw [e1,e2]
  refine (Hle.perm (List.perm_append_comm (l₁:=[_,_]))).trans ((dat_nil _).trans ?_)
  have h9:=rows_acc (e:=9) ρ x.cols.length (fun j=>(row22 x j).map Value.string) [blk b1 ((List.range n).map fun j => .slice (ρ j).1 x.cols.length (ρ j).2) 22,blk pc (coL x.sec (.slice (some ⟨bs1,os1,none⟩) n c1) (.slice A2 l.length c2) (.slice Ak x.cols.length ck)) 26] (List.range n) [] []
  exact h9
 refine T_open fun p hp=>?_
 refine T_le (H':=blk b1 (hd22 ρ (cn22 x.cols.length 0) n) 22::fz p::blk pc (coL x.sec (.slice (some ⟨bs1,os1,none⟩) n c1) (.slice A2 l.length c2) (.slice Ak x.cols.length ck)) 26::[]) (Hle.perm (List.Perm.swap _ _ _)) ?_
 repeat' (first|refine d1 ?_|(show ∀ _:Nat,T _ _ _ _ _;intro _))
 rename_i pb
 refine T_nilrow 5 1 ?_
 refine T_loopX (fun s:Nat × Option Addr × Option Addr × Nat=>[(48, .int .i64 (s.1:Nat))]) (fun s=>bld22 pb s.2.1 s.2.2.1 s.2.2.2 (part22N x s.1) [blk b1 (hd22 ρ (cn22 x.cols.length 0) n) 22,fz p,blk pc (coL x.sec (.slice (some ⟨bs1,os1,none⟩) n c1) (.slice A2 l.length c2) (.slice Ak x.cols.length ck)) 26]) (fun s=>s.1≤n∧(s.2.1=none∨s.2.1=some ⟨pb,0,none⟩)) (fun s=>n - s.1) (0,none,none,0) ⟨Nat.zero_le _, .inl rfl⟩ ?_ (hG:=Hle.perm (List.Perm.swap _ _ _))
 rintro⟨k,q,A5,c5⟩ ⟨hk,hq⟩
 dsimp only at hk hq ⊢
 have hpl:=part22N_le hs k (by omega)
 have hsg36:=hs.sg
 repeat' (first|refine d1 ?_|fail)
 refine T_if rfl (fun h6=>?_) (fun h6=>?_)
 ·simp only [decide_eq_true_eq] at h6
  have hkn:k<n:=by omega
  obtain⟨s,hsk⟩:∃ s,x.sg[k]?=some s:=⟨_,List.getElem?_eq_getElem (by omega)⟩
  have hr:=src_str hs1 hkn hsk
  have hs20:=hs.sig s (List.mem_of_getElem? hsk)
  have hsd:x.sg.getD k ByteArray.empty=s:=by rw [List.getD_eq_getElem?_getD,hsk];rfl
  have hhg:(hd22 ρ (cn22 x.cols.length 0) n)[k]?=some (.slice (ρ k).1 x.cols.length (ρ k).2):=by rw [hd22_get hkn,hcn]
  have hyk:Rd (fr p) [.slice (ρ k).1 x.cols.length (ρ k).2] [strsD (row22 x k)]:=by
   obtain⟨u,hu,hru⟩:=hp.get (i:=k) (d:=strsD (row22 x k)) (by rw [List.getElem?_map,List.getElem?_range hkn];rfl)
   rw [hhg] at hu
   cases hu
   exact hru
  repeat' (first|refine d1 ?_|(show T _ (.ops _ (_::_)::_) _ _ _;first|refine T_val rfl (Val.load rfl (fun hg=>rdOwn1 (b:=b1) (u := .slice (ρ k).1 x.cols.length (ρ k).2) (by rw [show 0+(k:Int).toNat * 1=k by omega];exact hhg))) rfl rfl rfl ?_|refine T_op (OpT.callB rfl rfl rfl rfl rfl (line22_spec _ pb q hq A5 c5 (part22N x k) s _ (row22 x k) p _ hyk (by omega) (by rw [row22_len];omega) (fun t ht=>by obtain⟨j,-,rfl⟩:=List.mem_map.1 ht;have:=cell22_le hs k j;omega) (by omega)) (fun u R hR=>?_)))|fail)
  obtain⟨⟨A6,c6⟩,rfl,rfl⟩:=hR
  have hpl2:=part22N_le hs (k+1) (by omega)
  have e9:part22N x k++line22 s (row22 x k)=part22N x (k+1):=by rw [part22N_succ,hsd]
  rw [e9]
  dsimp only
  repeat' (first|refine d1 ?_|(show T _ (.ops _ (_::_)::_) _ _ _;refine T_call rfl rfl rfl rfl rfl (fun w hw=>len22_spec pb (some ⟨pb,0,none⟩) A6 (part22N x (k+1)).length c6 w (rdAll w hw)) ?_)|fail)
  refine T_if rfl (fun h7=>?_) (fun _=>?_)
  ·exfalso
   have h8:=of_decide_eq_true h7
   omega
  repeat' (first|refine d1 ?_|fail)
  exact T_backX (k+1,_,A6,c6) ⟨by dsimp only;omega, .inr rfl⟩ (by dsimp only;omega)
 ·simp only [decide_eq_false_iff_not] at h6
  obtain rfl:k=n:=by omega
  have hne:part22N x k≠[]:=by
   obtain⟨m,rfl⟩:∃ m,k=m+1:=⟨k - 1,by omega⟩
   rw [part22N_succ]
   unfold line22
   simp
  repeat' (first|refine d1 ?_|(show T _ (.ops _ (_::_)::_) _ _ _;refine T_op (OpT.callB rfl rfl rfl rfl rfl (string22_spec _ pb q A5 c5 (part22N x k) hne _) (fun u R hR=>?_)))|fail)
  obtain⟨rfl,rfl⟩:=hR
  have e9:print22 x=part22N x k:=by rw [← hn];rfl
  rw [e9]
  repeat' (first|(show T _ (.code .ret::_) _ _ _;refine T_retV [] rfl (Hle.none _) ⟨rfl,rfl⟩))
end Go.Proofs.YtefieebkankfoaaGreatDoor
