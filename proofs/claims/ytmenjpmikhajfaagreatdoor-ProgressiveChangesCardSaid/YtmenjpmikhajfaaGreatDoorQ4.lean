/- Joined texts of this claim, part 4. -/
import Derived.Test.YtmenjpmikhajfaaGreatDoorQ3
set_option linter.unusedVariables false
set_option linter.unusedSimpArgs false
namespace Go.Proofs.YtmenjpmikhajfaaGreatDoor
open Go.RowKit Go.Shelf Go.Proofs
set_option maxRecDepth 100000
set_option maxHeartbeats 1000000

theorem tbl_hle {N m g cap:Nat} {f:Nat→Nat→Int} {M:List (Nat × List Value)} {J:List HA} (hm:m≤1000) (hM:M.length=N+1) (hR:RowsOk f (m+1) M):Hle (blks 3 M::row 40 1 (some ⟨g,0,none⟩) cap (N+1) (M.map (slv m))::J) (dat [.slice (some ⟨g,0,none⟩) (N+1) cap] [rowsD (tabR N m f)]::J):=by
 have q1:∀ x∈M,m+1≤x.2.length:=fun x hx=>by obtain⟨i,hi,e⟩:=List.getElem_of_mem hx;rw [hR i x (by rw [List.getElem?_eq_getElem hi,e]),valV_length];omega
 refine (dat_blks (L:=M) (m+1) (m+1) (by omega) (by omega) q1).trans ?_
 rw [tab_rows hM hR]
 exact (Hle.perm (List.Perm.swap _ _ _)).trans dat_row
theorem setLast (cA:List Int) (n:Nat) (k z:Int) (h:cA.length=n):setL ((cA++[z]).map (Value.int .i64)) (0+(n:Int).toNat * 1) [.int .i64 k]=(cA++[k]).map (Value.int .i64):=by
 rw [show 0+(n:Int).toNat * 1=n by omega,setL_eq _ _ _ (by simp [h]),List.map_append,List.take_append_of_le_length (by simp [h]),List.take_of_length_le (by simp [h]),List.drop_of_length_le (by simp [h]),List.map_append]
 rfl
theorem add21_spec {w:World} {c:Costs} {A:Option Addr} {n:Nat} {l:List TS} {K:Value} {cols:List (List Int)} {At:Option Addr} {m:Nat} {t:List Tok} (h:AddW w c A n l K cols At m t) (ca ct:Nat) (hprod:((cols.length:Int)+1) * ((m:Int)+1)≤1048576) :
  Spec Tryz.prog 69 [c.val, .slice A n ca,K, .slice At m ct] w (fun v R=>∃ x:Value,True∧v = .tuple #[x, .int .i64 0]∧R=[dat [x] [rowsD (addV c l cols t 0 0)]]):=by
 have hsz:=h.hsz
 have hmb:=h.hm
 have hb:=h.hg.hb
 have hn:=h.hg.hn
 have hprod0:0≤((cols.length:Int)+1) * ((m:Int)+1):=Int.mul_nonneg (by omega) (by omega)
 have e1:(grdA c l cols t).n=cols.length:=rfl
 have e2:(grdA c l cols t).m=m:=h.htl
 obtain⟨Ak,ck,csk,rfl,hck1,hck2,hcs,hrows⟩:=h.hx.tabS
 refine spec_of sg Tryz.func69 rfl rfl rfl ?_
 refine T_op (OpT.box (cs:=c.cells) rfl rfl rfl rfl rfl rfl rfl (fun pc=>?_))
 refine T_op (OpT.box (cs:=[.slice A n ca]) rfl rfl rfl rfl rfl rfl rfl (fun pl=>?_))
 refine T_op (OpT.box (cs:=[.slice Ak cols.length ck]) rfl rfl rfl rfl rfl rfl rfl (fun pk=>?_))
 repeat' (first|refine d1 ?_|refine dd ?_|(show ∀ _:Nat,T _ _ _ _ _;intro _))
 refine T_if rfl (fun h1=>by exfalso;simp only [decide_eq_true_eq] at h1;omega) (fun _=>?_)
 repeat' (first|refine d1 ?_|refine dd ?_|(show T _ (.ops _ (_::_)::_) _ _ _;first|refine T_val rfl (Val.nilc rfl) rfl rfl rfl ?_|refine T_valC rfl (Val.nilc rfl) rfl rfl rfl rfl rfl ?_)|(show T _ (.run _ _ (_::_) _ _::_) _ _ _;first|refine rv rfl rfl rfl (Val.nilc rfl) rfl rfl rfl ?_|refine rg rfl rfl rfl (Val.nilc rfl) rfl rfl rfl rfl rfl ?_)|(show ∀ _:Nat,T _ _ _ _ _;intro _))
 rename_i pa p10
 refine T_le (H':=blk pa (addL c (.slice A n ca) (.slice Ak cols.length ck) (.slice At m ct) (.slice none 0 0)) 158::blk p10 [.pointer (some ⟨pa,0,none⟩)] 156::blk pk [.slice Ak cols.length ck] 25::blk pl [.slice A n ca] 24::blk pc c.cells 23::[]) (Hle.perm (List.Perm.swap _ _ _)) ?_
 refine T_op (OpT.callB rfl rfl rfl rfl rfl (fill21_spec h ca ct pa _) (fun u R hR=>?_))
 obtain⟨rfl,M,g,cap,hM,hR,rfl⟩:=hR
 refine T_le (tbl_hle hmb hM hR) ?_
 refine T_open fun pt hpt=>?_
 obtain⟨Agt,capt,cst,he,-,-,-,hAt,hrt⟩:=hpt.tab
 rw [tabR_length] at hAt he
 simp only [Value.slice.injEq,true_and] at he
 obtain⟨rfl,rfl⟩:=he
 obtain⟨bt,ot,hbo,hbt⟩:=hAt (by omega)
 simp only [Option.some.injEq,Addr.mk.injEq,and_true] at hbo
 obtain⟨rfl,rfl⟩:=hbo
 repeat' (first|refine d1 ?_|refine dd ?_|(show ∀ _:Nat,T _ _ _ _ _;intro _))
 rename_i p11 p12 p13
 refine T_le (H':=[blk p13 [.int .i64 ((0:Nat):Int)] 3,blk p12 [.int .i64 ((0:Nat):Int)] 3,blk p11 [.slice none 0 0] 25,fz pt,blk pa (addL c (.slice A n ca) (.slice Ak cols.length ck) (.slice At m ct) (.slice (some ⟨g,0,none⟩) (cols.length+1) cap)) 158,blk p10 [.pointer (some ⟨pa,0,none⟩)] 156,blk pk [.slice Ak cols.length ck] 25,blk pl [.slice A n ca] 24,blk pc c.cells 23]) (Hle.refl _) ?_
 refine T_keep [(3, .slice At m ct),(4, .pointer (some ⟨pc,0,none⟩)),(5, .pointer (some ⟨pl,0,none⟩)),(6, .pointer (some ⟨pk,0,none⟩)),(9, .int .i64 0),(10, .pointer (some ⟨p10,0,none⟩)),(11, .pointer (some ⟨p11,0,none⟩)),(12, .pointer (some ⟨p12,0,none⟩)),(13, .pointer (some ⟨p13,0,none⟩))] ⟨rfl,rfl,rfl,rfl,rfl,rfl,rfl,rfl,rfl,trivial⟩ ?_
 refine T_le (dat_nil _) ?_
 refine T_nilrow 40 1 ?_
 show T (FC _ _ (([]:List Nat).map mkD) _ _ _) _ _ _ _
 refine T_loopDX (fun s:(Nat × Nat) × (Nat × Nat) × (Option Addr × Nat) × List Value × List (List Int) × List Nat=>[(12, .pointer (some ⟨s.2.1.1,0,none⟩)),(13, .pointer (some ⟨s.2.1.2,0,none⟩))]) (fun s=>[blk s.2.1.2 [.int .i64 (s.1.2:Nat)] 3,blk s.2.1.1 [.int .i64 (s.1.1:Nat)] 3,blk p11 [.slice s.2.2.1.1 s.2.2.2.2.1.length s.2.2.1.2] 25,row 40 1 s.2.2.1.1 s.2.2.1.2 s.2.2.2.2.1.length s.2.2.2.1,dat s.2.2.2.1 (s.2.2.2.2.1.map intsD),fz pt,blk pa (addL c (.slice A n ca) (.slice Ak cols.length ck) (.slice At m ct) (.slice (some ⟨g,0,none⟩) (cols.length+1) cap)) 158,blk p10 [.pointer (some ⟨pa,0,none⟩)] 156,blk pk [.slice Ak cols.length ck] 25,blk pl [.slice A n ca] 24,blk pc c.cells 23]) (fun s=>s.2.2.2.2.2) (fun s=>s.1.1≤cols.length∧s.1.2≤m∧s.2.2.2.2.1.length≤s.1.1+s.1.2∧addV c l cols t 0 0=s.2.2.2.2.1++addV c l cols t s.1.1 s.1.2) (fun s=>(cols.length - s.1.1)+(m - s.1.2)) ((0,0),(p12,p13),(none,0),[],[],[]) ⟨Nat.zero_le _,Nat.zero_le _,Nat.zero_le _,rfl⟩ rfl ?_ (hG:=by exact Hle.perm ((List.perm_append_comm (l₁:=[_,_]) (l₂:=[_,_,_])).append_right (fz pt::_)))
 rintro⟨⟨i,k⟩,⟨q12,q13⟩,⟨Ao,capo⟩,hs,out,Dl⟩ ⟨hi,hk,hlo,hout⟩
 dsimp only at hi hk hlo hout ⊢
 refine T_le (H':=blk q13 [.int .i64 (k:Nat)] 3::blk q12 [.int .i64 (i:Nat)] 3::blk p11 [.slice Ao out.length capo] 25::row 40 1 Ao capo out.length hs::dat hs (out.map intsD)::fz pt::blk pa (addL c (.slice A n ca) (.slice Ak cols.length ck) (.slice At m ct) (.slice (some ⟨g,0,none⟩) (cols.length+1) cap)) 158::blk p10 [.pointer (some ⟨pa,0,none⟩)] 156::blk pk [.slice Ak cols.length ck] 25::blk pl [.slice A n ca] 24::blk pc c.cells 23::dfrs Dl) (Hle.refl _) ?_
 repeat' (first|refine d1 ?_|refine dd ?_|(show ∀ _:Nat,T _ _ _ _ _;intro _))
 refine T_if rfl (fun h3=>?_) (fun h3=>?_)
 ·have h3':i<cols.length∨k<m:=by simpa using h3
  repeat' (first|refine d1 ?_|refine dd ?_|(show T _ (.ops _ (_::_)::_) _ _ _;first|refine T_val rfl (Val.nilc rfl) rfl rfl rfl ?_|refine T_valC rfl (Val.nilc rfl) rfl rfl rfl rfl rfl ?_)|(show T _ (.run _ _ (_::_) _ _::_) _ _ _;first|refine rv rfl rfl rfl (Val.nilc rfl) rfl rfl rfl ?_|refine rg rfl rfl rfl (Val.nilc rfl) rfl rfl rfl rfl rfl ?_|refine ro rfl rfl (OpT.call rfl rfl rfl rfl rfl (fun w hw=>steps21_spec c _ _ _ _ i k w) (fun u R hR=>?_)))|(show ∀ _:Nat,T _ _ _ _ _;intro _))
  obtain⟨⟨q1,q2,q3⟩,-,rfl,rfl⟩:=hR
  refine ⟨by intro _;exact Hle.append_right (K:=[]) _,?_⟩
  dsimp only
  repeat' (first|refine d1 ?_|refine dd ?_|(show ∀ _:Nat,T _ _ _ _ _;intro _))
  refine T_rangeA (steps_iter h ca ct (some ⟨g,0,none⟩) (cols.length+1) cap i k hi hk q1 q2 q3) rfl (fun j y hy=>by obtain⟨v,_,rfl⟩:=stepsV_at hy;exact⟨rfl,rfl⟩)
   (fun jj H=>H=blk q13 [.int .i64 (k:Nat)] 3::blk q12 [.int .i64 (i:Nat)] 3::blk p11 [.slice Ao out.length capo] 25::row 40 1 Ao capo out.length hs::dat hs (out.map intsD)::fz pt::blk pa (addL c (.slice A n ca) (.slice Ak cols.length ck) (.slice At m ct) (.slice (some ⟨g,0,none⟩) (cols.length+1) cap)) 158::blk p10 [.pointer (some ⟨pa,0,none⟩)] 156::blk pk [.slice Ak cols.length ck] 25::blk pl [.slice A n ca] 24::blk pc c.cells 23::dfrs Dl∧∀ j' y,j'<jj→(mvs (grdA c l cols t) i k)[j']?=some y→via (grdA c l cols t) i k y≠rst (grdA c l cols t) i k) (fun _=>False)
   (fun id H=>id=2∧∃ (v:Mv) (x:Option Addr × Nat × Value),fstM (grdA c l cols t) i k=some v∧H=blk q13 [.int .i64 ((k+v.snd:Nat):Int)] 3::blk q12 [.int .i64 ((i+v.fst:Nat):Int)] 3::blk p11 [.slice x.1 (out.length+1) x.2.1] 25::row 40 1 x.1 x.2.1 (out.length+1) (hs++[x.2.2])::dat (hs++[x.2.2]) ((out++[colM l.length cols i k v]).map intsD)::fz pt::blk pa (addL c (.slice A n ca) (.slice Ak cols.length ck) (.slice At m ct) (.slice (some ⟨g,0,none⟩) (cols.length+1) cap)) 158::blk p10 [.pointer (some ⟨pa,0,none⟩)] 156::blk pk [.slice Ak cols.length ck] 25::blk pl [.slice A n ca] 24::blk pc c.cells 23::dfrs Dl)
   (blk q13 [.int .i64 (k:Nat)] 3::blk q12 [.int .i64 (i:Nat)] 3::blk p11 [.slice Ao out.length capo] 25::row 40 1 Ao capo out.length hs::dat hs (out.map intsD)::fz pt::blk pa (addL c (.slice A n ca) (.slice Ak cols.length ck) (.slice At m ct) (.slice (some ⟨g,0,none⟩) (cols.length+1) cap)) 158::blk p10 [.pointer (some ⟨pa,0,none⟩)] 156::blk pk [.slice Ak cols.length ck] 25::blk pl [.slice A n ca] 24::blk pc c.cells 23::dfrs Dl) ⟨rfl,fun _ _ h=>by omega⟩ (Hle.refl _) ?_ ?_ (fun _ _ h=>h.elim) ?_
  ·rintro Lp r jj yv Hj K2 hr hyv ⟨rfl,hno⟩
   obtain⟨v,hv,rfl⟩:=stepsV_at hyv
   have hb1:=h.to hi hk hv
   have hrb:=h.rst (i+v.fst) (k+v.snd)
   show T _ _ ((48, .agg v.cells.toArray)::_) _ (lrec Lp r::blk q13 [.int .i64 (k:Nat)] 3::blk q12 [.int .i64 (i:Nat)] 3::blk p11 [.slice Ao out.length capo] 25::row 40 1 Ao capo out.length hs::dat hs (out.map intsD)::fz pt::blk pa (addL c (.slice A n ca) (.slice Ak cols.length ck) (.slice At m ct) (.slice (some ⟨g,0,none⟩) (cols.length+1) cap)) 158::blk p10 [.pointer (some ⟨pa,0,none⟩)] 156::blk pk [.slice Ak cols.length ck] 25::blk pl [.slice A n ca] 24::blk pc c.cells 23::(dfrs Dl++K2))
   repeat' (first|refine d1 ?_|refine dd ?_|(show ∀ _:Nat,T _ _ _ _ _;intro _))
   rename_i p14
   refine T_le (H':=lrec Lp r::blk p14 v.cells 163::blk q13 [.int .i64 (k:Nat)] 3::blk q12 [.int .i64 (i:Nat)] 3::blk p11 [.slice Ao out.length capo] 25::row 40 1 Ao capo out.length hs::dat hs (out.map intsD)::fz pt::blk pa (addL c (.slice A n ca) (.slice Ak cols.length ck) (.slice At m ct) (.slice (some ⟨g,0,none⟩) (cols.length+1) cap)) 158::blk p10 [.pointer (some ⟨pa,0,none⟩)] 156::blk pk [.slice Ak cols.length ck] 25::blk pl [.slice A n ca] 24::blk pc c.cells 23::(dfrs Dl++K2)) (Hle.perm (List.Perm.swap _ _ _)) ?_
   refine T_begin hr rfl ?_
   obtain⟨Ar1,capr1,hcr1,-,-,hAr1⟩:=hrt.tabRow (tabR_get hb1.1)
   rw [List.length_map,List.length_range] at hcr1 hAr1
   obtain⟨br1,or1,rfl,hbr1⟩:=hAr1 (by omega)
   obtain⟨Ar0,capr0,hcr0,-,-,hAr0⟩:=hrt.tabRow (tabR_get hi)
   rw [List.length_map,List.length_range] at hcr0 hAr0
   obtain⟨br0,or0,rfl,hbr0⟩:=hAr0 (by omega)
   repeat' (first|refine d1 ?_|refine dd ?_|(show T _ (.ops _ (_::_)::_) _ _ _;first|refine T_val rfl (Val.nilc rfl) rfl rfl rfl ?_|refine T_valC rfl (Val.nilc rfl) rfl rfl rfl rfl rfl ?_|refine T_val rfl (Val.load rfl (fun hg=>rdFz (p:=pt) (u := .slice (some ⟨br1,or1,none⟩) (m+1) capr1) (b:=g) (by rw [show 0+((i:Int)+v.fst).toNat * 1=0+(i+v.fst) by omega];exact hbt _ _ hcr1))) rfl rfl rfl ?_|refine T_valC rfl (Val.load rfl (fun hg=>rdFz (p:=pt) (u := .slice (some ⟨br1,or1,none⟩) (m+1) capr1) (b:=g) (by rw [show 0+((i:Int)+v.fst).toNat * 1=0+(i+v.fst) by omega];exact hbt _ _ hcr1))) rfl rfl rfl rfl rfl ?_|refine T_val rfl (Val.load rfl (fun hg=>rdFz (p:=pt) (u := .int .i64 (rst (grdA c l cols t) (i+v.fst) (k+v.snd))) (b:=br1) (by rw [show or1+((k:Int)+v.snd).toNat * 1=or1+(k+v.snd) by omega];exact hbr1 _ _ (tabR_cell hb1.2.1)))) rfl rfl rfl ?_|refine T_valC rfl (Val.load rfl (fun hg=>rdFz (p:=pt) (u := .int .i64 (rst (grdA c l cols t) (i+v.fst) (k+v.snd))) (b:=br1) (by rw [show or1+((k:Int)+v.snd).toNat * 1=or1+(k+v.snd) by omega];exact hbr1 _ _ (tabR_cell hb1.2.1)))) rfl rfl rfl rfl rfl ?_|refine T_val rfl (Val.load rfl (fun hg=>rdFz (p:=pt) (u := .slice (some ⟨br0,or0,none⟩) (m+1) capr0) (b:=g) (by rw [off1];exact hbt _ _ hcr0))) rfl rfl rfl ?_|refine T_valC rfl (Val.load rfl (fun hg=>rdFz (p:=pt) (u := .slice (some ⟨br0,or0,none⟩) (m+1) capr0) (b:=g) (by rw [off1];exact hbt _ _ hcr0))) rfl rfl rfl rfl rfl ?_|refine T_val rfl (Val.load rfl (fun hg=>rdFz (p:=pt) (u := .int .i64 (rst (grdA c l cols t) i k)) (b:=br0) (by rw [off1];exact hbr0 _ _ (tabR_cell hk)))) rfl rfl rfl ?_|refine T_valC rfl (Val.load rfl (fun hg=>rdFz (p:=pt) (u := .int .i64 (rst (grdA c l cols t) i k)) (b:=br0) (by rw [off1];exact hbr0 _ _ (tabR_cell hk)))) rfl rfl rfl rfl rfl ?_)|(show T _ (.run _ _ (_::_) _ _::_) _ _ _;first|refine rv rfl rfl rfl (Val.nilc rfl) rfl rfl rfl ?_|refine rg rfl rfl rfl (Val.nilc rfl) rfl rfl rfl rfl rfl ?_|refine rv rfl rfl rfl (Val.load rfl (fun hg=>rdFz (p:=pt) (u := .slice (some ⟨br1,or1,none⟩) (m+1) capr1) (b:=g) (by rw [show 0+((i:Int)+v.fst).toNat * 1=0+(i+v.fst) by omega];exact hbt _ _ hcr1))) rfl rfl rfl ?_|refine rg rfl rfl rfl (Val.load rfl (fun hg=>rdFz (p:=pt) (u := .slice (some ⟨br1,or1,none⟩) (m+1) capr1) (b:=g) (by rw [show 0+((i:Int)+v.fst).toNat * 1=0+(i+v.fst) by omega];exact hbt _ _ hcr1))) rfl rfl rfl rfl rfl ?_|refine rv rfl rfl rfl (Val.load rfl (fun hg=>rdFz (p:=pt) (u := .int .i64 (rst (grdA c l cols t) (i+v.fst) (k+v.snd))) (b:=br1) (by rw [show or1+((k:Int)+v.snd).toNat * 1=or1+(k+v.snd) by omega];exact hbr1 _ _ (tabR_cell hb1.2.1)))) rfl rfl rfl ?_|refine rg rfl rfl rfl (Val.load rfl (fun hg=>rdFz (p:=pt) (u := .int .i64 (rst (grdA c l cols t) (i+v.fst) (k+v.snd))) (b:=br1) (by rw [show or1+((k:Int)+v.snd).toNat * 1=or1+(k+v.snd) by omega];exact hbr1 _ _ (tabR_cell hb1.2.1)))) rfl rfl rfl rfl rfl ?_|refine rv rfl rfl rfl (Val.load rfl (fun hg=>rdFz (p:=pt) (u := .slice (some ⟨br0,or0,none⟩) (m+1) capr0) (b:=g) (by rw [off1];exact hbt _ _ hcr0))) rfl rfl rfl ?_|refine rg rfl rfl rfl (Val.load rfl (fun hg=>rdFz (p:=pt) (u := .slice (some ⟨br0,or0,none⟩) (m+1) capr0) (b:=g) (by rw [off1];exact hbt _ _ hcr0))) rfl rfl rfl rfl rfl ?_|refine rv rfl rfl rfl (Val.load rfl (fun hg=>rdFz (p:=pt) (u := .int .i64 (rst (grdA c l cols t) i k)) (b:=br0) (by rw [off1];exact hbr0 _ _ (tabR_cell hk)))) rfl rfl rfl ?_|refine rg rfl rfl rfl (Val.load rfl (fun hg=>rdFz (p:=pt) (u := .int .i64 (rst (grdA c l cols t) i k)) (b:=br0) (by rw [off1];exact hbr0 _ _ (tabR_cell hk)))) rfl rfl rfl rfl rfl ?_)|(show ∀ _:Nat,T _ _ _ _ _;intro _))
   refine T_if rfl (fun h4=>?_) (fun h4=>?_)
   ·simp only [Bool.not_eq_true',decide_eq_false_iff_not] at h4
    refine T_next (blk q13 [.int .i64 (k:Nat)] 3::blk q12 [.int .i64 (i:Nat)] 3::blk p11 [.slice Ao out.length capo] 25::row 40 1 Ao capo out.length hs::dat hs (out.map intsD)::fz pt::blk pa (addL c (.slice A n ca) (.slice Ak cols.length ck) (.slice At m ct) (.slice (some ⟨g,0,none⟩) (cols.length+1) cap)) 158::blk p10 [.pointer (some ⟨pa,0,none⟩)] 156::blk pk [.slice Ak cols.length ck] 25::blk pl [.slice A n ca] 24::blk pc c.cells 23::dfrs Dl) ⟨rfl,fun j' y hj hy=>?_⟩ (Hle.drop2 _ _ _)
    rcases Nat.lt_or_ge j' jj with h6|h6
    ·exact hno j' y h6 hy
    ·rw [show j'=jj by omega,hv] at hy
     cases hy
     exact h4
   ·simp only [Bool.not_eq_false',decide_eq_true_eq] at h4
    have hf:fstM (grdA c l cols t) i k=some v:=find_at hv (decide_eq_true h4) fun j' y hj hy=>decide_eq_false (hno j' y hj hy)
    repeat' (first|refine d1 ?_|refine dd ?_|(show T _ (.ops _ (_::_)::_) _ _ _;refine T_callE rfl rfl rfl rfl rfl (fun w hw=>repeatI_spec (-1) (some ⟨_,0,none⟩) 1 (n+1) w (Src.own hw rfl) (by omega)) (fun bc _=>?_))|(show ∀ _:Nat,T _ _ _ _ _;intro _))
    rename_i blit _
    have hb0:(List.replicate (n+1) (Value.int .i64 (-1)))=(noneC l.length++[-1]).map (Value.int .i64):=by
     unfold noneC;rw [List.map_append,List.map_replicate,hn,List.replicate_succ'];rfl
    refine T_le (H':=row 3 1 (some ⟨bc,0,none⟩) (n+1) (n+1) ((noneC l.length++[-1]).map (Value.int .i64))::lrec Lp (busy r)::blk p14 v.cells 163::blk q13 [.int .i64 (k:Nat)] 3::blk q12 [.int .i64 (i:Nat)] 3::blk p11 [.slice Ao out.length capo] 25::row 40 1 Ao capo out.length hs::dat hs (out.map intsD)::fz pt::blk pa (addL c (.slice A n ca) (.slice Ak cols.length ck) (.slice At m ct) (.slice (some ⟨g,0,none⟩) (cols.length+1) cap)) 158::blk p10 [.pointer (some ⟨pa,0,none⟩)] 156::blk pk [.slice Ak cols.length ck] 25::blk pl [.slice A n ca] 24::blk pc c.cells 23::(dfrs Dl++K2)) (by rw [← hb0];exact Hle.drop2 _ _ _) ?_
    refine T_cutX 1 [] (fun _:Unit=>[]) (fun _=>row 3 1 (some ⟨bc,0,none⟩) (n+1) (n+1) (((if v.fst=1 then cols.getD i [] else noneC l.length)++[-1]).map (Value.int .i64))::lrec Lp (busy r)::blk p14 v.cells 163::blk q13 [.int .i64 (k:Nat)] 3::blk q12 [.int .i64 (i:Nat)] 3::blk p11 [.slice Ao out.length capo] 25::row 40 1 Ao capo out.length hs::dat hs (out.map intsD)::fz pt::blk pa (addL c (.slice A n ca) (.slice Ak cols.length ck) (.slice At m ct) (.slice (some ⟨g,0,none⟩) (cols.length+1) cap)) 158::blk p10 [.pointer (some ⟨pa,0,none⟩)] 156::blk pk [.slice Ak cols.length ck] 25::blk pl [.slice A n ca] 24::blk pc c.cells 23::(dfrs Dl++K2)) (fun _=>True) ?_ ?_
    ·refine T_if rfl (fun h5=>?_) (fun h5=>?_)
     ·simp only [decide_eq_true_eq] at h5
      have hv1:v.fst=1:=by omega
      have hin:i<cols.length:=by omega
      rw [if_pos hv1]
      obtain⟨b,o,rfl⟩:=hcs.base (by omega)
      obtain⟨rr,hrr⟩:∃ r,cols[i]?=some r:=⟨_,List.getElem?_eq_getElem hin⟩
      obtain⟨Au,capu,hu,-,-,hA⟩:=hrows.tabRow hrr
      have hrl:rr.length=n:=by rw [(h.hok rr (List.mem_of_getElem? hrr)).1,hn]
      have hr0:RdC w b (o+(i:Int).toNat * 1) [.slice Au n capu]:=by
       have h9:=(hcs.get1 (i:=i) hin hu).2
       rw [Nat.mul_one,hrl] at h9
       rw [off1]
       exact h9
      have hsr:Src w 1 Au n (rr.map (Value.int .i64)):=⟨by rw [List.length_map,hrl,Nat.mul_one],fun h9=>by
       obtain⟨bu,ou,rfl,hbu⟩:=hA (by omega)
       refine ⟨rfl,fun j u hu=>?_⟩
       rw [List.getElem?_map] at hu
       cases hz:rr[j]? with
       | none=>rw [hz] at hu;cases hu
       | some z=>rw [hz] at hu;cases hu;exact hbu j z hz⟩
      have hgd:cols.getD i []=rr:=by rw [List.getD_eq_getElem?_getD,hrr];rfl
      repeat' (first|refine d1 ?_|refine dd ?_|(show T _ (.ops _ (_::_)::_) _ _ _;refine T_op (OpT.copyR (g:=bc) (k:=n) (us:=rr.map (Value.int .i64)) rfl rfl rfl rfl rfl rfl rfl rfl (by omega) (fun w hw=>src_below hsr hw.below) (oneInts rr) (by rw [List.length_map];omega) ?_))|(show ∀ _:Nat,T _ _ _ _ _;intro _))
      refine T_meetX () trivial (hG:=?_)
      rw [hgd]
      have e9:setL ((noneC l.length++[-1]).map (Value.int .i64)) 0 (rr.map (Value.int .i64))=(rr++[-1]).map (Value.int .i64):=by
       rw [setL_eq _ _ _ (by simp [noneC];omega),List.take_zero,List.nil_append,Nat.zero_add,List.map_append,List.map_append,List.length_map,List.drop_append_of_le_length (by simp [noneC];omega),List.drop_of_length_le (by simp [noneC];omega)]
       simp
      rw [← e9]
      exact Hle.refl _
     ·simp only [decide_eq_false_iff_not] at h5
      rw [if_neg (show ¬ v.fst=1 by omega)]
      exact T_meetX () trivial
    ·rintro⟨⟩ _
     repeat' (first|refine d1 ?_|refine dd ?_|(show ∀ _:Nat,T _ _ _ _ _;intro _))
     refine T_cutX 1 [] (fun _:Unit=>[]) (fun _=>row 3 1 (some ⟨bc,0,none⟩) (n+1) (n+1) ((colM l.length cols i k v).map (Value.int .i64))::lrec Lp (busy r)::blk p14 v.cells 163::blk q13 [.int .i64 (k:Nat)] 3::blk q12 [.int .i64 (i:Nat)] 3::blk p11 [.slice Ao out.length capo] 25::row 40 1 Ao capo out.length hs::dat hs (out.map intsD)::fz pt::blk pa (addL c (.slice A n ca) (.slice Ak cols.length ck) (.slice At m ct) (.slice (some ⟨g,0,none⟩) (cols.length+1) cap)) 158::blk p10 [.pointer (some ⟨pa,0,none⟩)] 156::blk pk [.slice Ak cols.length ck] 25::blk pl [.slice A n ca] 24::blk pc c.cells 23::(dfrs Dl++K2)) (fun _=>True) ?_ ?_
     ·have hcl:(if v.fst=1 then cols.getD i [] else noneC l.length).length=n:=by
       split
       ·have hin:i<cols.length:=by omega
        rw [List.getD_eq_getElem?_getD,List.getElem?_eq_getElem hin]
        exact (h.hok _ (List.getElem_mem hin)).1.trans hn
       ·simp [noneC,hn]
      refine T_if rfl (fun h5=>?_) (fun h5=>?_)
      ·simp only [decide_eq_true_eq] at h5
       repeat' (first|refine d1 ?_|refine dd ?_|(show T _ (.ops _ (_::_)::_) _ _ _;refine T_op (OpT.storeR (us:=[.int .i64 (k:Nat)]) rfl rfl rfl rfl rfl rfl (by show 0+(n:Int).toNat * 1+1≤(n+1) * 1;omega) ?_))|(show ∀ _:Nat,T _ _ _ _ _;intro _))
       refine T_meetX () trivial (hG:=?_)
       have e9:setL (((if v.fst=1 then cols.getD i [] else noneC l.length)++[-1]).map (Value.int .i64)) (0+(n:Int).toNat * 1) [.int .i64 (k:Nat)]=(colM l.length cols i k v).map (Value.int .i64):=by
        unfold colM
        rw [if_pos (show v.snd=1 by omega)]
        exact setLast _ _ _ _ hcl
       rw [← e9]
       exact Hle.refl _
      ·simp only [decide_eq_false_iff_not] at h5
       refine T_meetX () trivial (hG:=?_)
       unfold colM
       rw [if_neg (show ¬ v.snd=1 by omega)]
       exact Hle.refl _
     ·rintro⟨⟩ _
      have hov:out.length≤200000:=by omega
      repeat' (first|refine d1 ?_|refine dd ?_|(show T _ (.ops _ (_::_)::_) _ _ _;refine T_op (OpT.append rfl rfl rfl rfl rfl rfl rfl rfl rfl rfl (fun w hw=>Src.own hw rfl) rfl (by dsimp only;omega) (by omega) (fun A' cap' hA'=>?_)))|(show ∀ _:Nat,T _ _ _ _ _;intro _))
      rename_i blit2
      refine T_le (H':=lrec Lp (busy r)::blk p14 v.cells 163::blk q13 [.int .i64 (k:Nat)] 3::blk q12 [.int .i64 (i:Nat)] 3::blk p11 [.slice A' (out.length+1) cap'] 25::row 40 1 A' cap' (out.length+1) (hs++[(.slice (some ⟨bc,0,none⟩) (n+1) (n+1))])::dat (hs++[(.slice (some ⟨bc,0,none⟩) (n+1) (n+1))]) ((out++[colM l.length cols i k v]).map intsD)::fz pt::blk pa (addL c (.slice A n ca) (.slice Ak cols.length ck) (.slice At m ct) (.slice (some ⟨g,0,none⟩) (cols.length+1) cap)) 158::blk p10 [.pointer (some ⟨pa,0,none⟩)] 156::blk pk [.slice Ak cols.length ck] 25::blk pl [.slice A n ca] 24::blk pc c.cells 23::(dfrs Dl++K2)) ?_ ?_
      ·refine (Hle.srtT (A:=[blk blit2 _ _,row 3 1 (some ⟨bc,0,none⟩) (n+1) (n+1) ((colM l.length cols i k v).map (Value.int .i64)),lrec Lp (busy r),blk p14 v.cells 163,blk q13 [.int .i64 (k:Nat)] 3,blk q12 [.int .i64 (i:Nat)] 3,blk p11 [.slice A' (out.length+1) cap'] 25,row 40 1 A' cap' (out.length+1) (hs++[(.slice (some ⟨bc,0,none⟩) (n+1) (n+1))]),dat hs (out.map intsD)]) (K:=[row 3 1 (some ⟨bc,0,none⟩) (n+1) (n+1) ((colM l.length cols i k v).map (Value.int .i64)),dat hs (out.map intsD),lrec Lp (busy r),blk p14 v.cells 163,blk q13 [.int .i64 (k:Nat)] 3,blk q12 [.int .i64 (i:Nat)] 3,blk p11 [.slice A' (out.length+1) cap'] 25,row 40 1 A' cap' (out.length+1) (hs++[(.slice (some ⟨bc,0,none⟩) (n+1) (n+1))])]) (fz pt::blk pa (addL c (.slice A n ca) (.slice Ak cols.length ck) (.slice At m ct) (.slice (some ⟨g,0,none⟩) (cols.length+1) cap)) 158::blk p10 [.pointer (some ⟨pa,0,none⟩)] 156::blk pk [.slice Ak cols.length ck] 25::blk pl [.slice A n ca] 24::blk pc c.cells 23::(dfrs Dl++K2))).trans ?_
       refine dat_rowV.trans (dat_join.trans ?_)
       have ej:out.map intsD++[D.s 1 (((colM l.length cols i k v).map (Value.int .i64)).map .v)]=(out++[colM l.length cols i k v]).map intsD:=by
        rw [List.map_append,List.map_map];rfl
       rw [ej]
       exact Hle.perm ((List.perm_append_comm (l₁:=[_]) (l₂:=[_,_,_,_,_,_])).append_right (fz pt::blk pa (addL c (.slice A n ca) (.slice Ak cols.length ck) (.slice At m ct) (.slice (some ⟨g,0,none⟩) (cols.length+1) cap)) 158::blk p10 [.pointer (some ⟨pa,0,none⟩)] 156::blk pk [.slice Ak cols.length ck] 25::blk pl [.slice A n ca] 24::blk pc c.cells 23::(dfrs Dl++K2)))
      refine T_keep [(12, .pointer (some ⟨q12,0,none⟩)),(13, .pointer (some ⟨q13,0,none⟩)),(14, .pointer (some ⟨p14,0,none⟩))] ⟨rfl,rfl,rfl,trivial⟩ ?_
      refine T_draw 9 [blk p14 v.cells 163,blk q13 [.int .i64 (k:Nat)] 3] ?_
      refine T_dval 1 rfl (by kernel_rfl) (by kernel_rfl) (by kernel_rfl) (by kernel_rfl) (by kernel_rfl) rfl rfl (by first|exact Val.pure rfl|exact Val.vc rfl (fun hg=>by first|omega|(simp only [inK];omega)|exact True.intro|assumption)|exact Val.load rfl (fun _=>rdOwn1 rfl)|exact Val.loadA rfl (fun _=>rdAll) rfl) rfl rfl rfl (by first|exact Hle.refl _|exact Hle.none _|exact Hle.sub) ?_
      refine T_dval 2 rfl (by kernel_rfl) (by kernel_rfl) (by kernel_rfl) (by kernel_rfl) (by kernel_rfl) rfl rfl (by first|exact Val.pure rfl|exact Val.vc rfl (fun hg=>by first|omega|(simp only [inK];omega)|exact True.intro|assumption)|exact Val.load rfl (fun _=>rdOwn1 rfl)|exact Val.loadA rfl (fun _=>rdAll) rfl) rfl rfl rfl (by first|exact Hle.refl _|exact Hle.none _|exact Hle.sub) ?_
      refine T_dval 4 rfl (by kernel_rfl) (by kernel_rfl) (by kernel_rfl) (by kernel_rfl) (by kernel_rfl) rfl rfl (by first|exact Val.pure rfl|exact Val.vc rfl (fun hg=>by first|omega|(simp only [inK];omega)|exact True.intro|assumption)|exact Val.load rfl (fun _=>rdOwn1 rfl)|exact Val.loadA rfl (fun _=>rdAll) rfl) rfl rfl rfl (by first|exact Hle.refl _|exact Hle.none _|exact Hle.sub) ?_
      refine T_dval 5 rfl (by kernel_rfl) (by kernel_rfl) (by kernel_rfl) (by kernel_rfl) (by kernel_rfl) rfl rfl (by first|exact Val.pure rfl|exact Val.vc rfl (fun hg=>by first|omega|(simp only [inK];omega)|exact True.intro|assumption)|exact Val.load rfl (fun _=>rdOwn1 rfl)|exact Val.loadA rfl (fun _=>rdAll) rfl) rfl rfl rfl (by first|exact Hle.refl _|exact Hle.none _|exact Hle.sub) ?_
      refine T_dval 6 rfl (by kernel_rfl) (by kernel_rfl) (by kernel_rfl) (by kernel_rfl) (by kernel_rfl) rfl rfl (by first|exact Val.pure rfl|exact Val.vc rfl (fun hg=>by first|omega|(simp only [inK];omega)|exact True.intro|assumption)|exact Val.load rfl (fun _=>rdOwn1 rfl)|exact Val.loadA rfl (fun _=>rdAll) rfl) rfl rfl rfl (by first|exact Hle.refl _|exact Hle.none _|exact Hle.sub) ?_
      refine T_dval 7 rfl (by kernel_rfl) (by kernel_rfl) (by kernel_rfl) (by kernel_rfl) (by kernel_rfl) rfl rfl (by first|exact Val.pure rfl|exact Val.vc rfl (fun hg=>by first|omega|(simp only [inK];omega)|exact True.intro|assumption)|exact Val.load rfl (fun _=>rdOwn1 rfl)|exact Val.loadA rfl (fun _=>rdAll) rfl) rfl rfl rfl (by first|exact Hle.refl _|exact Hle.none _|exact Hle.sub) ?_
      refine T_dop 0 (by kernel_rfl) rfl (OpT.ofVal rfl (Val.load rfl (fun _=>rdOwn1 rfl)) rfl rfl rfl ⟨fun _=>Hle.sub,?_⟩)
      refine T_dval 3 rfl (by kernel_rfl) (by kernel_rfl) (by kernel_rfl) (by kernel_rfl) (by kernel_rfl) rfl rfl (by first|exact Val.pure rfl|exact Val.vc rfl (fun hg=>by first|omega|(simp only [inK];omega)|exact True.intro|assumption)|exact Val.load rfl (fun _=>rdOwn1 rfl)|exact Val.loadA rfl (fun _=>rdAll) rfl) rfl rfl rfl (by first|exact Hle.refl _|exact Hle.none _|exact Hle.sub) ?_
      refine T_dop 8 (by kernel_rfl) rfl (OpT.store rfl rfl rfl rfl (by exact Nat.zero_lt_one) ⟨fun _=>Hle.sub,?_⟩)
      refine T_dop 9 (by kernel_rfl) rfl (OpT.store rfl rfl rfl rfl (by exact Nat.zero_lt_one) ⟨fun h=>absurd h (by decide +kernel),?_⟩)
      refine T_dend (by kernel_rfl) ?_
      show T _ (.code (.exit 2)::_) _ _ _
      refine T_rexit (id:=2) (blk q13 [.int .i64 ((k+v.snd:Nat):Int)] 3::blk q12 [.int .i64 ((i+v.fst:Nat):Int)] 3::blk p11 [.slice A' (out.length+1) cap'] 25::row 40 1 A' cap' (out.length+1) (hs++[(.slice (some ⟨bc,0,none⟩) (n+1) (n+1))])::dat (hs++[(.slice (some ⟨bc,0,none⟩) (n+1) (n+1))]) ((out++[colM l.length cols i k v]).map intsD)::fz pt::blk pa (addL c (.slice A n ca) (.slice Ak cols.length ck) (.slice At m ct) (.slice (some ⟨g,0,none⟩) (cols.length+1) cap)) 158::blk p10 [.pointer (some ⟨pa,0,none⟩)] 156::blk pk [.slice Ak cols.length ck] 25::blk pl [.slice A n ca] 24::blk pc c.cells 23::dfrs Dl) (fun _=>rfl) (by exact⟨rfl,v,(A',cap',(.slice (some ⟨bc,0,none⟩) (n+1) (n+1))),hf,rfl⟩) (Hle.drop2 _ _ _)
  ·rintro D Hn ⟨rfl,hno⟩
   exfalso
   rw [stepsV_len] at hno
   obtain⟨fm,hfm⟩:=fstM_ex (G:=grdA c l cols t) (i:=i) (k:=k) (by rw [e1,e2];exact h3')
   obtain⟨hfm1,hfm2⟩:=fstM_mem hfm
   obtain⟨j',hj',e9⟩:=List.getElem_of_mem hfm1
   exact hno j' fm hj' (by rw [List.getElem?_eq_getElem hj',e9]) hfm2
  ·rintro D id Hx ⟨rfl,v,⟨A',cap',hv⟩,hf,rfl⟩
   dsimp only
   obtain⟨hfm1,hfm2⟩:=fstM_mem hf
   obtain⟨jj,hjj,e9⟩:=List.getElem_of_mem hfm1
   have hb1:=h.to hi hk (show (mvs (grdA c l cols t) i k)[jj]?=some v by rw [List.getElem?_eq_getElem hjj,e9])
   have hst:=addV_step hf
   show T (FC _ _ ((D::Dl).map mkD) _ _ _) _ _ _ (dfr D::blk q3 [.int .i64 (k:Nat)] 3::blk q1 [.int .i64 (i:Nat)] 3::blk q2 (addL c (.slice A n ca) (.slice Ak cols.length ck) (.slice At m ct) (.slice (some ⟨g,0,none⟩) (cols.length+1) cap)) 158::blk q13 [.int .i64 ((k+v.snd:Nat):Int)] 3::blk q12 [.int .i64 ((i+v.fst:Nat):Int)] 3::blk p11 [.slice A' (out.length+1) cap'] 25::row 40 1 A' cap' (out.length+1) (hs++[hv])::dat (hs++[hv]) ((out++[colM l.length cols i k v]).map intsD)::fz pt::blk pa (addL c (.slice A n ca) (.slice Ak cols.length ck) (.slice At m ct) (.slice (some ⟨g,0,none⟩) (cols.length+1) cap)) 158::blk p10 [.pointer (some ⟨pa,0,none⟩)] 156::blk pk [.slice Ak cols.length ck] 25::blk pl [.slice A n ca] 24::blk pc c.cells 23::dfrs Dl)
   repeat' (first|refine d1 ?_|refine dd ?_|(show ∀ _:Nat,T _ _ _ _ _;intro _))
   rename_i n12 n13
   show T _ (.mark _::_) _ _ _
   refine T_backD ((i+v.fst,k+v.snd),(n12,n13),(A',cap'),hs++[hv],out++[colM l.length cols i k v],D::Dl) ⟨hb1.1,hb1.2.1,by dsimp only;rw [List.length_append];simp;omega,by dsimp only;rw [hout,hst,List.append_assoc];rfl⟩ (by dsimp only;omega) rfl (hG:=?_)
   dsimp only
   rw [List.length_append]
   exact Hle.srtT (A:=[blk n13 [.int .i64 ((k+v.snd:Nat):Int)] 3,blk n12 [.int .i64 ((i+v.fst:Nat):Int)] 3,dfr D,blk q3 [.int .i64 (k:Nat)] 3,blk q1 [.int .i64 (i:Nat)] 3,blk q2 (addL c (.slice A n ca) (.slice Ak cols.length ck) (.slice At m ct) (.slice (some ⟨g,0,none⟩) (cols.length+1) cap)) 158,blk q13 [.int .i64 ((k+v.snd:Nat):Int)] 3,blk q12 [.int .i64 ((i+v.fst:Nat):Int)] 3,blk p11 [.slice A' (out.length+1) cap'] 25,row 40 1 A' cap' (out.length+1) (hs++[hv]),dat (hs++[hv]) ((out++[colM l.length cols i k v]).map intsD),fz pt,blk pa (addL c (.slice A n ca) (.slice Ak cols.length ck) (.slice At m ct) (.slice (some ⟨g,0,none⟩) (cols.length+1) cap)) 158,blk p10 [.pointer (some ⟨pa,0,none⟩)] 156,blk pk [.slice Ak cols.length ck] 25,blk pl [.slice A n ca] 24,blk pc c.cells 23]) (K:=[blk n13 [.int .i64 ((k+v.snd:Nat):Int)] 3,blk n12 [.int .i64 ((i+v.fst:Nat):Int)] 3,blk p11 [.slice A' (out.length+1) cap'] 25,row 40 1 A' cap' (out.length+1) (hs++[hv]),dat (hs++[hv]) ((out++[colM l.length cols i k v]).map intsD),fz pt,blk pa (addL c (.slice A n ca) (.slice Ak cols.length ck) (.slice At m ct) (.slice (some ⟨g,0,none⟩) (cols.length+1) cap)) 158,blk p10 [.pointer (some ⟨pa,0,none⟩)] 156,blk pk [.slice Ak cols.length ck] 25,blk pl [.slice A n ca] 24,blk pc c.cells 23,dfr D]) (dfrs Dl)
 ·have h3':¬ (i<cols.length∨k<m):=by simpa using h3
  rw [addV_end (i:=i) (k:=k) (by rw [h.htl];exact h3'),List.append_nil] at hout
  rw [hout]
  repeat' (first|refine d1 ?_|refine dd ?_|(show ∀ _:Nat,T _ _ _ _ _;intro _))
  refine T_retDs [dat [.slice Ao out.length capo] [rowsD out]] ?_ (rf_V (vs:=[.slice Ao out.length capo, .int .i64 0]) _ rfl (Hle.refl _) ⟨_,trivial,rfl,rfl⟩)
  refine (Hle.tail _ _).trans ((Hle.tail _ _).trans ((Hle.tail _ _).trans (dat_row.trans ?_)))
  exact Hle.srtT (A:=[dat [.slice Ao out.length capo] [.s 1 (out.map intsD)],_,_,_,_,_,_]) (K:=[dat [.slice Ao out.length capo] [.s 1 (out.map intsD)]]) (dfrs Dl)
end Go.Proofs.YtmenjpmikhajfaaGreatDoor
namespace Go.Proofs.YtmenjpmikhajfaaGreatDoor
open Go.RowKit Go.Shelf Go.Proofs
set_option maxRecDepth 100000
set_option maxHeartbeats 1000000

def lens (l:List TS):List Nat:=l.map fun t=>t.n
theorem lens_get {l:List TS} {s:Nat} {t:TS} (h:l[s]?=some t):(lens l)[s]?=some t.n:=by unfold lens;rw [List.getElem?_map,h];rfl
theorem lens_len (l:List TS):(lens l).length=l.length:=by simp [lens]
def atC (cols:List (List Int)) (i k s:Nat):Nat:=(srcC (cols.take (if s<k then i+1 else i)) s).length
def PreOk (ls:List Nat) (cols:List (List Int)) (i k:Nat):Prop:=∀ s n,ls[s]?=some n→srcC (cols.take (if s<k then i+1 else i)) s=upto (atC cols i k s)∧atC cols i k s≤n
theorem PreOk.start (ls:List Nat) (cols:List (List Int)):PreOk ls cols 0 0:=fun s n _=>by
 unfold atC
 rw [if_neg (by omega)]
 exact⟨rfl,Nat.zero_le _⟩
theorem atC_zero (cols:List (List Int)) (s:Nat):atC cols 0 0 s=0:=by unfold atC;rw [if_neg (by omega)];rfl
theorem atC_row {cols:List (List Int)} {i n s:Nat} (h:s<n):atC cols i n s=atC cols (i+1) 0 s:=by unfold atC;rw [if_pos h,if_neg (by omega)]
theorem PreOk.row {ls:List Nat} {cols:List (List Int)} {i:Nat} (h:PreOk ls cols i ls.length):PreOk ls cols (i+1) 0:=fun s n hs=>by
 have hl:=(List.getElem?_eq_some_iff.1 hs).1
 have:=h s n hs
 rw [atC_row hl,if_pos hl] at this
 rw [if_neg (by omega)]
 exact this
theorem srcC_take {cols:List (List Int)} {i:Nat} {r:List Int} (h:cols[i]?=some r) (s:Nat):srcC (cols.take (i+1)) s=srcC (cols.take i) s++(if r.getD s (-1) = -1 then [] else [r.getD s (-1)]):=by
 rw [take_snoc _ _ _ h,srcC_app,srcC_cons]
 simp [srcC]
theorem atC_other {cols:List (List Int)} {i k s:Nat} (h:s≠k):atC cols i (k+1) s=atC cols i k s:=by
 unfold atC
 by_cases h1:s<k
 ·rw [if_pos h1,if_pos (by omega)]
 ·rw [if_neg h1,if_neg (by omega)]
theorem atC_gap {cols:List (List Int)} {i k:Nat} {r:List Int} (hr:cols[i]?=some r) (hz:r[k]?=some (-1)):atC cols i (k+1) k=atC cols i k k:=by
 unfold atC
 rw [if_pos (by omega),if_neg (by omega),srcC_take hr,List.getD_eq_getElem?_getD,hz]
 simp
theorem atC_tok {cols:List (List Int)} {i k:Nat} {r:List Int} {z:Int} (hr:cols[i]?=some r) (hz:r[k]?=some z) (h:z ≠ -1):atC cols i (k+1) k=atC cols i k k+1:=by
 unfold atC
 rw [if_pos (by omega),if_neg (by omega),srcC_take hr,List.getD_eq_getElem?_getD,hz]
 simp [h]
theorem PreOk.gap {ls:List Nat} {cols:List (List Int)} {i k:Nat} {r:List Int} (h:PreOk ls cols i k) (hr:cols[i]?=some r) (hz:r[k]?=some (-1)):PreOk ls cols i (k+1):=fun s n hs=>by
 have:=h s n hs
 by_cases e:s=k
 ·subst e
  rw [atC_gap hr hz]
  rw [if_neg (by omega)] at this
  rw [if_pos (by omega),srcC_take hr,List.getD_eq_getElem?_getD,hz]
  simpa using this
 ·rw [atC_other e]
  by_cases h1:s<k
  ·rw [if_pos h1] at this;rw [if_pos (by omega)];exact this
  ·rw [if_neg h1] at this;rw [if_neg (by omega)];exact this
theorem PreOk.tok {ls:List Nat} {cols:List (List Int)} {i k:Nat} {r:List Int} {z:Int} (h:PreOk ls cols i k) (hr:cols[i]?=some r) (hz:r[k]?=some z) (hz0:z ≠ -1) (he:z=(atC cols i k k:Nat)) (hlt:∀ n,ls[k]?=some n→atC cols i k k<n):PreOk ls cols i (k+1):=fun s n hs=>by
 have:=h s n hs
 by_cases e:s=k
 ·subst e
  have hl:=hlt n hs
  rw [atC_tok hr hz hz0]
  rw [if_neg (by omega)] at this
  rw [if_pos (by omega),srcC_take hr,List.getD_eq_getElem?_getD,hz,this.1]
  refine ⟨?_,hl⟩
  simp only [Option.getD_some]
  rw [if_neg hz0,upto_succ,he]
 ·rw [atC_other e]
  by_cases h1:s<k
  ·rw [if_pos h1] at this;rw [if_pos (by omega)];exact this
  ·rw [if_neg h1] at this;rw [if_neg (by omega)];exact this
theorem PreOk.bad {ls:List Nat} {cols:List (List Int)} {i k n:Nat} {r:List Int} {z:Int} (h:PreOk ls cols i k) (hr:cols[i]?=some r) (hz:r[k]?=some z) (hz0:z ≠ -1) (hk:ls[k]?=some n) (hc:ColsOk ls cols):z=(atC cols i k k:Nat)∧atC cols i k k<n:=by
 have h1:=(h k n hk).1
 rw [if_neg (by omega)] at h1
 have h2:=hc.src k n hk
 have h3:srcC cols k=srcC (cols.take i) k++([z]++srcC (cols.drop (i+1)) k):=by
  have e:cols=cols.take (i+1)++cols.drop (i+1):=(List.take_append_drop _ _).symm
  rw [← List.append_assoc]
  conv=>lhs;rw [e,srcC_app,srcC_take hr,List.getD_eq_getElem?_getD,hz]
  simp [hz0]
 rw [h2,h1] at h3
 have h4:(upto n)[atC cols i k k]?=some z:=by
  rw [h3,List.getElem?_append_right (by rw [upto_len];exact Nat.le_refl _),upto_len,Nat.sub_self]
  rfl
 have h5:atC cols i k k<n:=by
  have:=(List.getElem?_eq_some_iff.1 h4).1
  rwa [upto_len] at this
 rw [upto_get h5] at h4
 exact⟨(Option.some.inj h4).symm,h5⟩
theorem PreOk.all {ls:List Nat} {cols:List (List Int)} (h:PreOk ls cols cols.length 0) (hlen:∀ x∈cols,x.length=ls.length) (hsome:∀ x∈cols,∃ z∈x,z ≠ -1) (hn:∀ s n,ls[s]?=some n→atC cols cols.length 0 s=n):ColsOk ls cols:=by
 refine ⟨hlen,hsome,fun s n hs=>?_⟩
 have:=(h s n hs).1
 rw [if_neg (by omega),List.take_of_length_le (Nat.le_refl _),hn s n hs] at this
 exact this
open Classical in
noncomputable def chkC (l:List TS) (cols:List (List Int)):Int:=if l.length=0 then 5 else if ColsOk (lens l) cols then 0 else 19
theorem chkC_ok {l:List TS} {cols:List (List Int)} (h0:l.length≠0) (h:ColsOk (lens l) cols):chkC l cols=0:=by unfold chkC;rw [if_neg h0,if_pos h]
theorem chkC_bad {l:List TS} {cols:List (List Int)} (h0:l.length≠0) (h:¬ ColsOk (lens l) cols):chkC l cols=19:=by unfold chkC;rw [if_neg h0,if_neg h]
theorem chkC_zero {l:List TS} {cols:List (List Int)} (h0:l.length=0):chkC l cols=5:=if_pos h0
theorem srcs19R_spec (A:Option Addr) (n ca:Nat) (l:List TS) (w:World) (hg:Grp w A n l):Spec Tryz.prog 178 [.slice A n ca] w (fun v R=>v = .int .i64 (if n=0 then 5 else 0)∧R=[]):=by
 refine spec_of sg Tryz.func178 rfl rfl rfl ?_
 have hb:=hg.hb
 repeat' (first|refine d1 ?_|refine dd ?_|(show ∀ _:Nat,T _ _ _ _ _;intro _))
 refine T_if rfl (fun h=>?_) (fun h=>?_)
 ·simp only [decide_eq_true_eq] at h
  repeat' (first|refine d1 ?_|refine dd ?_|(show ∀ _:Nat,T _ _ _ _ _;intro _)|(show T _ (.code .ret::_) _ _ _;refine T_retV [] rfl (Hle.refl _) ⟨congrArg (Value.int .i64) (if_pos (by omega)).symm,rfl⟩))
 simp only [decide_eq_false_iff_not] at h
 repeat' (first|refine d1 ?_|refine dd ?_|(show ∀ _:Nat,T _ _ _ _ _;intro _))
 refine T_if rfl (fun h=>by exfalso;simp at h;omega) (fun _=>?_)
 repeat' (first|refine d1 ?_|refine dd ?_|(show ∀ _:Nat,T _ _ _ _ _;intro _))
 refine T_loopX (fun k:Nat=>[(3, .int .i64 k)]) (fun _=>[]) (fun k=>k≤n) (fun k=>n - k) 0 (Nat.zero_le _) ?_
 intro k hk
 repeat' (first|refine d1 ?_|refine dd ?_|(show ∀ _:Nat,T _ _ _ _ _;intro _))
 refine T_if rfl (fun h1=>?_) (fun h1=>?_)
 ·simp only [decide_eq_true_eq] at h1
  have hkn:k<n:=by omega
  obtain⟨b,o,rfl⟩:=hg.hs.base (by omega)
  obtain⟨t,ht,htm,hr⟩:=hg.get hkn
  have htb:=hg.nb t htm
  repeat' (first|refine d1 ?_|refine dd ?_|(show ∀ _:Nat,T _ _ _ _ _;intro _))
  refine T_if rfl (fun h2=>by exfalso;simp at h2;omega) (fun _=>?_)
  repeat' (first|refine d1 ?_|refine dd ?_|(show ∀ _:Nat,T _ _ _ _ _;intro _))
  exact T_backX (k+1) (by omega) (by omega)
 ·repeat' (first|refine d1 ?_|refine dd ?_|(show ∀ _:Nat,T _ _ _ _ _;intro _)|(show T _ (.code .ret::_) _ _ _;refine T_retV [] rfl (Hle.refl _) ⟨congrArg (Value.int .i64) (if_neg (by omega)).symm,rfl⟩))
theorem rowSrc {w:World} {Au:Option Addr} {r:List Int} (h:0<r.length→∃ b o,Au=some ⟨b,o,none⟩∧∀ (k:Nat) z,r[k]?=some z→wr w b (o+k)=some (.int .i64 z)):Src w 1 Au r.length (r.map (Value.int .i64)):=⟨by rw [List.length_map,Nat.mul_one],fun h9=>by
 obtain⟨bu,ou,rfl,hbu⟩:=h h9
 refine ⟨rfl,fun j u hu=>?_⟩
 rw [List.getElem?_map] at hu
 cases hz:r[j]? with
 | none=>rw [hz] at hu;cases hu
 | some z=>rw [hz] at hu;cases hu;exact hbu j z hz⟩
theorem rowHd {w:World} {b o n i:Nat} {Au:Option Addr} {m cap:Nat} {cs:List Value} (hcs:Src w 1 (some ⟨b,o,none⟩) n cs) (hi:i<n) (hu:cs[i]?=some (.slice Au m cap)):RdC w b (o+(i:Int).toNat * 1) [.slice Au m cap]:=by
 have h9:=(hcs.get1 (i:=i) hi hu).2
 rw [Nat.mul_one] at h9
 rw [off1]
 exact h9
theorem check19R_spec (A:Option Addr) (n ca:Nat) (l:List TS) (x:Value) (cols:List (List Int)) (w:World) (hg:Grp w A n l) (hx:Rd (wr w) [x] [rowsD cols]) :
  Spec Tryz.prog 133 [.slice A n ca,x] w (fun v R=>v = .int .i64 (chkC l cols)∧R=[]):=by
 obtain⟨Ak,ck,csk,rfl,hck1,hck2,hcs,hrows⟩:=hx.tabS
 have hb:=hg.hb
 have hn:=hg.hn
 refine spec_of sg Tryz.func133 rfl rfl rfl ?_
 repeat' (first|refine d1 ?_|refine dd ?_|(show T _ (.ops _ (_::_)::_) _ _ _;first|refine T_call rfl rfl rfl rfl rfl (fun w hw=>srcs19R_spec A n ca l w (hg.cls hw)) ?_|refine T_callC rfl rfl rfl rfl rfl rfl rfl (fun hg w hw=>srcs19R_spec A n ca l w (hg.cls hw)) ?_)|(show T _ (.run _ _ (_::_) _ _::_) _ _ _;first|refine rc rfl rfl rfl rfl rfl rfl rfl (fun w hw=>srcs19R_spec A n ca l w (hg.cls hw)) ?_|refine rcG rfl rfl rfl rfl rfl rfl rfl rfl rfl (fun hg w hw=>srcs19R_spec A n ca l w (hg.cls hw)) ?_)|(show ∀ _:Nat,T _ _ _ _ _;intro _))
 refine T_if rfl (fun h=>?_) (fun h=>?_)
 ·simp only [Bool.not_eq_true',decide_eq_false_iff_not] at h
  have h0:n=0:=by
   rcases Nat.eq_zero_or_pos n with h9|h9
   ·exact h9
   ·exact absurd (if_neg (by omega)) h
  rw [if_pos h0]
  repeat' (first|refine d1 ?_|refine dd ?_|(show ∀ _:Nat,T _ _ _ _ _;intro _)|(show T _ (.code .ret::_) _ _ _;refine T_retV [] rfl (Hle.refl _) ⟨by rw [chkC_zero (by omega)];rfl,rfl⟩))
 simp only [Bool.not_eq_false',decide_eq_true_eq] at h
 have h0:n≠0:=fun h9=>by rw [if_pos h9] at h;omega
 clear h
 have hbad:∀ (H:¬ ColsOk (lens l) cols),chkC l cols=19:=fun H=>chkC_bad (by omega) H
 repeat' (first|refine d1 ?_|refine dd ?_|(show T _ (.ops _ (_::_)::_) _ _ _;refine T_op (OpT.make rfl rfl rfl rfl rfl rfl rfl rfl rfl (by dsimp only;omega) (fun b1=>?_)))|(show ∀ _:Nat,T _ _ _ _ _;intro _))
 have hz:List.replicate n (Value.int .i64 0)=valV (fun s=>(atC cols 0 0 s:Nat)) n:=by
  rw [valV_replicate];exact valV_ext fun q _=>by rw [atC_zero];rfl
 refine T_loopX (fun i:Nat=>[(7, .int .i64 i)]) (fun i=>[blk b1 (valV (fun s=>(atC cols i 0 s:Nat)) n) 3]) (fun i=>i≤cols.length∧PreOk (lens l) cols i 0∧(∀ y∈cols.take i,y.length=n)∧∀ y∈cols.take i,∃ z∈y,z ≠ -1) (fun i=>cols.length - i) 0 ⟨Nat.zero_le _,PreOk.start _ _,fun y h=>by simp at h,fun y h=>by simp at h⟩ ?_ (hG:=by rw [← hz];exact Hle.refl _)
 rintro i ⟨hi,hpre,hlen,hsome⟩
 repeat' (first|refine d1 ?_|refine dd ?_|(show ∀ _:Nat,T _ _ _ _ _;intro _))
 refine T_if rfl (fun h1=>?_) (fun h1=>?_)
 ·simp only [decide_eq_true_eq] at h1
  have hin:i<cols.length:=by omega
  obtain⟨b,o,rfl⟩:=hcs.base (by omega)
  obtain⟨r,hr⟩:∃ r,cols[i]?=some r:=⟨_,List.getElem?_eq_getElem hin⟩
  have hrm:=List.mem_of_getElem? hr
  obtain⟨Au,capu,hu,-,-,hA⟩:=hrows.tabRow hr
  have hr0:=rowHd hcs hin hu
  have hsr:=rowSrc hA
  repeat' (first|refine d1 ?_|refine dd ?_|(show ∀ _:Nat,T _ _ _ _ _;intro _))
  refine T_if rfl (fun h2=>?_) (fun h2=>?_)
  ·simp only [Bool.not_eq_true',decide_eq_false_iff_not] at h2
   repeat' (first|refine d1 ?_|refine dd ?_|(show ∀ _:Nat,T _ _ _ _ _;intro _)|(show T _ (.code .ret::_) _ _ _;refine T_retV [] rfl (Hle.none _) ⟨by rw [hbad fun hc=>h2 (by have:=hc.len r hrm;rw [lens_len] at this;omega)];rfl,rfl⟩))
  simp only [Bool.not_eq_false',decide_eq_true_eq] at h2
  have hrl:r.length=n:=by omega
  repeat' (first|refine d1 ?_|refine dd ?_|(show ∀ _:Nat,T _ _ _ _ _;intro _))
  refine T_loopX (fun k:Nat=>[(9, .int .i64 k),(8, .bool ((r.take k).any fun z=>decide (z ≠ -1)))]) (fun k=>[blk b1 (valV (fun s=>(atC cols i k s:Nat)) n) 3]) (fun k=>k≤n∧PreOk (lens l) cols i k) (fun k=>n - k) 0 ⟨Nat.zero_le _,hpre⟩ ?_
  rintro k ⟨hk,hp⟩
  repeat' (first|refine d1 ?_|refine dd ?_|(show ∀ _:Nat,T _ _ _ _ _;intro _))
  refine T_if rfl (fun h3=>?_) (fun h3=>?_)
  ·simp only [decide_eq_true_eq] at h3
   have hkn:k<n:=by omega
   obtain⟨bu,ou,rfl⟩:=hsr.base (by omega)
   obtain⟨z,hzk⟩:∃ z,r[k]?=some z:=⟨_,List.getElem?_eq_getElem (by omega)⟩
   have hr1:=src_int hsr (by omega) hzk
   have htk:=take_snoc _ _ _ hzk
   repeat' (first|refine d1 ?_|refine dd ?_|(show ∀ _:Nat,T _ _ _ _ _;intro _))
   refine T_if rfl (fun h4=>?_) (fun h4=>?_)
   ·simp only [decide_eq_true_eq] at h4
    subst h4
    repeat' (first|refine d1 ?_|refine dd ?_|(show ∀ _:Nat,T _ _ _ _ _;intro _))
    refine T_backX (k+1) ⟨hkn,hp.gap hr hzk⟩ (by omega) (hE:=⟨rfl,by rw [show ((r.take (k+1)).any fun z=>decide (z ≠ -1))=(r.take k).any fun z=>decide (z ≠ -1) by rw [htk,List.any_append];simp];rfl,trivial⟩) (hG:=?_)
    have e:valV (fun s=>(atC cols i (k+1) s:Nat)) n=valV (fun s=>(atC cols i k s:Nat)) n:=valV_ext fun q _=>by
     by_cases e:q=k
     ·rw [e,atC_gap hr hzk]
     ·rw [atC_other e]
    rw [e]
    exact Hle.refl _
   simp only [decide_eq_false_iff_not] at h4
   obtain⟨bs,os,rfl⟩:=hg.hs.base (by omega)
   obtain⟨t,ht,htm,hrt⟩:=hg.get hkn
   have htb:=hg.nb t htm
   repeat' (first|refine d1 ?_|refine dd ?_|(show T _ (.ops _ (_::_)::_) _ _ _;first|refine T_val rfl (Val.load rfl (fun hg=>rdOwn1 (b:=b1) (u := .int .i64 (atC cols i k k:Nat)) (by rw [show 0+(k:Int).toNat * 1=k by omega];exact valV_get hkn))) rfl rfl rfl ?_|refine T_valC rfl (Val.load rfl (fun hg=>rdOwn1 (b:=b1) (u := .int .i64 (atC cols i k k:Nat)) (by rw [show 0+(k:Int).toNat * 1=k by omega];exact valV_get hkn))) rfl rfl rfl rfl rfl ?_)|(show T _ (.run _ _ (_::_) _ _::_) _ _ _;first|refine rv rfl rfl rfl (Val.load rfl (fun hg=>rdOwn1 (b:=b1) (u := .int .i64 (atC cols i k k:Nat)) (by rw [show 0+(k:Int).toNat * 1=k by omega];exact valV_get hkn))) rfl rfl rfl ?_|refine rg rfl rfl rfl (Val.load rfl (fun hg=>rdOwn1 (b:=b1) (u := .int .i64 (atC cols i k k:Nat)) (by rw [show 0+(k:Int).toNat * 1=k by omega];exact valV_get hkn))) rfl rfl rfl rfl rfl ?_)|(show ∀ _:Nat,T _ _ _ _ _;intro _))
   refine T_if rfl (fun h5=>?_) (fun h5=>?_)
   ·simp only [Bool.or_eq_true,Bool.not_eq_true',decide_eq_false_iff_not,decide_eq_true_eq] at h5
    repeat' (first|refine d1 ?_|refine dd ?_|(show ∀ _:Nat,T _ _ _ _ _;intro _)|(show T _ (.code .ret::_) _ _ _;refine T_retV [] rfl (Hle.none _) ⟨by rw [hbad fun hc=>by have:=hp.bad hr hzk h4 (lens_get ht) hc;omega];rfl,rfl⟩))
   simp only [Bool.or_eq_false_iff,Bool.not_eq_false',decide_eq_true_eq,decide_eq_false_iff_not] at h5
   repeat' (first|refine d1 ?_|refine dd ?_|(show T _ (.ops _ (_::_)::_) _ _ _;first|refine T_val rfl (Val.load rfl (fun hg=>rdOwn1 (b:=b1) (u := .int .i64 (atC cols i k k:Nat)) (by rw [show 0+(k:Int).toNat * 1=k by omega];exact valV_get hkn))) rfl rfl rfl ?_|refine T_valC rfl (Val.load rfl (fun hg=>rdOwn1 (b:=b1) (u := .int .i64 (atC cols i k k:Nat)) (by rw [show 0+(k:Int).toNat * 1=k by omega];exact valV_get hkn))) rfl rfl rfl rfl rfl ?_|refine T_op (OpT.store rfl rfl rfl rfl (by rw [valV_length];omega) ?_))|(show T _ (.run _ _ (_::_) _ _::_) _ _ _;first|refine rv rfl rfl rfl (Val.load rfl (fun hg=>rdOwn1 (b:=b1) (u := .int .i64 (atC cols i k k:Nat)) (by rw [show 0+(k:Int).toNat * 1=k by omega];exact valV_get hkn))) rfl rfl rfl ?_|refine rg rfl rfl rfl (Val.load rfl (fun hg=>rdOwn1 (b:=b1) (u := .int .i64 (atC cols i k k:Nat)) (by rw [show 0+(k:Int).toNat * 1=k by omega];exact valV_get hkn))) rfl rfl rfl rfl rfl ?_)|(show ∀ _:Nat,T _ _ _ _ _;intro _))
   refine T_backX (k+1) ⟨hkn,hp.tok hr hzk h4 h5.1 (fun m hm=>by rw [lens_get ht] at hm;cases hm;omega)⟩ (by omega) (hE:=⟨rfl,by rw [show ((r.take (k+1)).any fun z=>decide (z ≠ -1))=true by rw [htk,List.any_append];simp [h4]];rfl,trivial⟩) (hG:=?_)
   rw [show 0+(k:Int).toNat * 1=k by omega,valV_put]
   have e:valV (fun s=>(atC cols i (k+1) s:Nat)) n=valV (fun q=>if q=k then (atC cols i k k:Int)+1 else (atC cols i k q:Nat)) n:=valV_ext fun q _=>by
    by_cases e:q=k
    ·subst e;rw [if_pos rfl,atC_tok hr hzk h4];rfl
    ·rw [if_neg e,atC_other e]
   rw [e]
   exact Hle.refl _
  ·simp only [decide_eq_false_iff_not] at h3
   obtain rfl:k=n:=by omega
   rw [List.take_of_length_le (by omega)]
   repeat' (first|refine d1 ?_|refine dd ?_|(show ∀ _:Nat,T _ _ _ _ _;intro _))
   refine T_if rfl (fun h4=>?_) (fun h4=>?_)
   ·simp only [Bool.not_eq_true'] at h4
    repeat' (first|refine d1 ?_|refine dd ?_|(show ∀ _:Nat,T _ _ _ _ _;intro _)|(show T _ (.code .ret::_) _ _ _;refine T_retV [] rfl (Hle.none _) ⟨by rw [hbad fun hc=>by obtain⟨z,hz1,hz2⟩:=hc.some_ r hrm;rw [List.any_eq_false] at h4;exact h4 z hz1 (by simpa using hz2)];rfl,rfl⟩))
   simp only [Bool.not_eq_false'] at h4
   rw [List.any_eq_true] at h4
   obtain⟨z,hz1,hz2⟩:=h4
   repeat' (first|refine d1 ?_|refine dd ?_|(show ∀ _:Nat,T _ _ _ _ _;intro _))
   have htk:=take_snoc _ _ _ hr
   refine T_backX (i+1) ⟨hin,PreOk.row (by rw [lens_len,hn];exact hp),fun y hy=>?_,fun y hy=>?_⟩ (by omega) (hG:=?_)
   ·rw [htk,List.mem_append,List.mem_singleton] at hy
    rcases hy with hy|rfl
    ·exact hlen y hy
    ·exact hrl
   ·rw [htk,List.mem_append,List.mem_singleton] at hy
    rcases hy with hy|rfl
    ·exact hsome y hy
    ·exact⟨z,hz1,by simpa using hz2⟩
   ·have e:valV (fun s=>(atC cols i k s:Nat)) k=valV (fun s=>(atC cols (i+1) 0 s:Nat)) k:=valV_ext fun q hq=>by rw [atC_row hq]
    rw [e]
    exact Hle.refl _
 simp only [decide_eq_false_iff_not] at h1
 obtain rfl:i=cols.length:=by omega
 rw [List.take_of_length_le (Nat.le_refl _)] at hlen hsome
 repeat' (first|refine d1 ?_|refine dd ?_|(show ∀ _:Nat,T _ _ _ _ _;intro _))
 refine T_loopX (fun k:Nat=>[(10, .int .i64 k)]) (fun _=>[blk b1 (valV (fun s=>(atC cols cols.length 0 s:Nat)) n) 3]) (fun k=>k≤n∧∀ s m,s<k→(lens l)[s]?=some m→atC cols cols.length 0 s=m) (fun k=>n - k) 0 ⟨Nat.zero_le _,fun s m h=>by omega⟩ ?_
 rintro k ⟨hk,hall⟩
 repeat' (first|refine d1 ?_|refine dd ?_|(show ∀ _:Nat,T _ _ _ _ _;intro _))
 refine T_if rfl (fun h3=>?_) (fun h3=>?_)
 ·simp only [decide_eq_true_eq] at h3
  have hkn:k<n:=by omega
  obtain⟨bs,os,rfl⟩:=hg.hs.base (by omega)
  obtain⟨t,ht,htm,hrt⟩:=hg.get hkn
  repeat' (first|refine d1 ?_|refine dd ?_|(show T _ (.ops _ (_::_)::_) _ _ _;first|refine T_val rfl (Val.load rfl (fun hg=>rdOwn1 (b:=b1) (u := .int .i64 (atC cols cols.length 0 k:Nat)) (by rw [show 0+(k:Int).toNat * 1=k by omega];exact valV_get hkn))) rfl rfl rfl ?_|refine T_valC rfl (Val.load rfl (fun hg=>rdOwn1 (b:=b1) (u := .int .i64 (atC cols cols.length 0 k:Nat)) (by rw [show 0+(k:Int).toNat * 1=k by omega];exact valV_get hkn))) rfl rfl rfl rfl rfl ?_)|(show T _ (.run _ _ (_::_) _ _::_) _ _ _;first|refine rv rfl rfl rfl (Val.load rfl (fun hg=>rdOwn1 (b:=b1) (u := .int .i64 (atC cols cols.length 0 k:Nat)) (by rw [show 0+(k:Int).toNat * 1=k by omega];exact valV_get hkn))) rfl rfl rfl ?_|refine rg rfl rfl rfl (Val.load rfl (fun hg=>rdOwn1 (b:=b1) (u := .int .i64 (atC cols cols.length 0 k:Nat)) (by rw [show 0+(k:Int).toNat * 1=k by omega];exact valV_get hkn))) rfl rfl rfl rfl rfl ?_)|(show ∀ _:Nat,T _ _ _ _ _;intro _))
  refine T_if rfl (fun h4=>?_) (fun h4=>?_)
  ·simp only [Bool.not_eq_true',decide_eq_false_iff_not] at h4
   repeat' (first|refine d1 ?_|refine dd ?_|(show ∀ _:Nat,T _ _ _ _ _;intro _)|(show T _ (.code .ret::_) _ _ _;refine T_retV [] rfl (Hle.none _) ⟨by rw [hbad fun hc=>h4 (by have h5:=hc.src k t.n (lens_get ht);have h6:=(hpre k t.n (lens_get ht)).1;rw [if_neg (by omega),List.take_of_length_le (Nat.le_refl _),h5] at h6;have:=congrArg List.length h6;rw [upto_len,upto_len] at this;omega)];rfl,rfl⟩))
  simp only [Bool.not_eq_false',decide_eq_true_eq] at h4
  repeat' (first|refine d1 ?_|refine dd ?_|(show ∀ _:Nat,T _ _ _ _ _;intro _))
  refine T_backX (k+1) ⟨hkn,fun s m hs hm=>?_⟩ (by omega)
  rcases Nat.lt_or_ge s k with h5|h5
  ·exact hall s m h5 hm
  ·rw [show s=k by omega] at hm ⊢
   rw [lens_get ht] at hm
   cases hm
   omega
 ·simp only [decide_eq_false_iff_not] at h3
  have hok:ColsOk (lens l) cols:=hpre.all (fun y hy=>by rw [lens_len,hn];exact hlen y hy) hsome fun s m hm=>hall s m (by have:=(List.getElem?_eq_some_iff.1 hm).1;rw [lens_len] at this;omega) hm
  repeat' (first|refine d1 ?_|refine dd ?_|(show ∀ _:Nat,T _ _ _ _ _;intro _)|(show T _ (.code .ret::_) _ _ _;refine T_retV [] rfl (Hle.none _) ⟨by rw [chkC_ok (by omega) hok];rfl,rfl⟩))
end Go.Proofs.YtmenjpmikhajfaaGreatDoor
namespace Go.Proofs.YtmenjpmikhajfaaGreatDoor
open Go.RowKit Go.Shelf Go.Proofs
set_option maxRecDepth 100000
set_option maxHeartbeats 4000000

theorem blks_comm {t:TypeId} {l m:List (Nat × List Value)}:∀ f,blks t (l++m) f→blks t (m++l) f:=fun f ⟨h1,h2⟩=>by
 rw [List.map_append,List.nodup_append] at h1
 obtain⟨n1,n2,n3⟩:=h1
 refine ⟨by rw [List.map_append,List.nodup_append];exact⟨n2,n1,fun a ha b hb e=>n3 b hb a ha e.symm⟩,fun b=>?_⟩
 rw [h2 b,lookB_append,lookB_append]
 cases hl:lookB l b with
 | none=>cases lookB m b <;> rfl
 | some x =>
  cases hm:lookB m b with
  | none=>rfl
  | some y =>
   exfalso
   have i1:b∈l.map Prod.fst:=Classical.byContradiction fun h=>by rw [lookB_none.2 h] at hl;cases hl
   have i2:b∈m.map Prod.fst:=Classical.byContradiction fun h=>by rw [lookB_none.2 h] at hm;cases hm
   exact n3 b i1 b i2 rfl
theorem blks_cons {t:TypeId} {l:List (Nat × List Value)} {g:Nat} {cs:List Value} {H:List HA}:Hle (blk g cs t::blks t l::H) (blks t ((g,cs)::l)::H) :=
 blks_snoc.trans (hle_map (blks_comm (l:=l) (m:=[(g,cs)])))
theorem set_mid {α:Type} (i j:Nat) (z x:α) (X:List α) (h:j=i):(List.replicate (i+1) z++X).set j x=List.replicate i z++(x::X):=by
 subst h
 rw [List.set_append_left _ _ (by simp),List.replicate_succ',List.set_append_right _ _ (by simp)]
 simp
noncomputable def ckcV (c:Costs) (l:List TS) (cols:List (List Int)):Int:=if ck21 c l≠0 then 1 else if l.length=0∧cols.length=0 then 0 else if chkC l cols=0 then 0 else 19
theorem checkCols_spec (c:Costs) (A:Option Addr) (n ca:Nat) (l:List TS) (x:Value) (cols:List (List Int)) (w:World) (hg:Grp w A n l) (hx:Rd (wr w) [x] [rowsD cols]) :
  Spec Tryz.prog 70 [c.val, .slice A n ca,x] w (fun v R=>v = .int .i64 (ckcV c l cols)∧R=[]):=by
 have hx0:=hx
 have hn:=hg.hn
 obtain⟨Ak,ck,csk,rfl,hck1,hck2,hcs,hrows⟩:=hx.tabS
 refine spec_of sg Tryz.func70 rfl rfl rfl ?_
 repeat' (first|(show T _ (.ops _ (⟨_, .box _ _,_,_,_,_⟩::_)::_) _ _ _;refine T_op (OpT.box (cs:=c.cells) rfl rfl rfl rfl rfl rfl rfl (fun _=>?_)))|refine d1 ?_|refine dd ?_|(show T _ (.ops _ (_::_)::_) _ _ _;first|refine T_call rfl rfl rfl rfl rfl (fun w hw=>check21R_spec c A n ca l w (hg.cls hw)) ?_|refine T_callC rfl rfl rfl rfl rfl rfl rfl (fun hg w hw=>check21R_spec c A n ca l w (hg.cls hw)) ?_)|(show T _ (.run _ _ (_::_) _ _::_) _ _ _;first|refine rc rfl rfl rfl rfl rfl rfl rfl (fun w hw=>check21R_spec c A n ca l w (hg.cls hw)) ?_|refine rcG rfl rfl rfl rfl rfl rfl rfl rfl rfl (fun hg w hw=>check21R_spec c A n ca l w (hg.cls hw)) ?_)|(show ∀ _:Nat,T _ _ _ _ _;intro _))
 refine T_if rfl (fun h=>?_) (fun h=>?_)
 ·simp only [Bool.not_eq_true',decide_eq_false_iff_not] at h
  have e:ckcV c l cols=1:=if_pos h
  rw [e,(ck21_01 c l).resolve_left h]
  repeat' (first|refine d1 ?_|refine dd ?_|(show ∀ _:Nat,T _ _ _ _ _;intro _)|(show T _ (.code .ret::_) _ _ _;refine T_retV [] rfl (Hle.none _) ⟨rfl,rfl⟩))
 simp only [Bool.not_eq_false',decide_eq_true_eq] at h
 repeat' (first|refine d1 ?_|refine dd ?_|(show ∀ _:Nat,T _ _ _ _ _;intro _))
 refine T_if rfl (fun h1=>?_) (fun h1=>?_)
 ·simp only [Bool.and_eq_true,decide_eq_true_eq] at h1
  have c1:l.length=0∧cols.length=0:=by omega
  have e:ckcV c l cols=0:=by unfold ckcV;rw [if_neg (by simpa using h),if_pos c1]
  rw [e]
  repeat' (first|refine d1 ?_|refine dd ?_|(show ∀ _:Nat,T _ _ _ _ _;intro _)|(show T _ (.code .ret::_) _ _ _;refine T_retV [] rfl (Hle.none _) ⟨rfl,rfl⟩))
 have h2:¬ (l.length=0∧cols.length=0):=fun h9=>by
  rw [decide_eq_true (show (n:Int)=0 by omega),decide_eq_true (show (cols.length:Int)=0 by omega)] at h1
  cases h1
 repeat' (first|refine d1 ?_|refine dd ?_|(show T _ (.ops _ (_::_)::_) _ _ _;first|refine T_call rfl rfl rfl rfl rfl (fun w hw=>check19R_spec A n ca l _ cols w (hg.cls hw) (hx0.old hw)) ?_|refine T_callC rfl rfl rfl rfl rfl rfl rfl (fun hg w hw=>check19R_spec A n ca l _ cols w (hg.cls hw) (hx0.old hw)) ?_)|(show T _ (.run _ _ (_::_) _ _::_) _ _ _;first|refine rc rfl rfl rfl rfl rfl rfl rfl (fun w hw=>check19R_spec A n ca l _ cols w (hg.cls hw) (hx0.old hw)) ?_|refine rcG rfl rfl rfl rfl rfl rfl rfl rfl rfl (fun hg w hw=>check19R_spec A n ca l _ cols w (hg.cls hw) (hx0.old hw)) ?_)|(show ∀ _:Nat,T _ _ _ _ _;intro _))
 refine T_if rfl (fun h3=>?_) (fun h3=>?_)
 ·simp only [Bool.not_eq_true',decide_eq_false_iff_not] at h3
  have e:ckcV c l cols=19:=by unfold ckcV;rw [if_neg (by simpa using h),if_neg h2,if_neg h3]
  rw [e]
  repeat' (first|refine d1 ?_|refine dd ?_|(show ∀ _:Nat,T _ _ _ _ _;intro _)|(show T _ (.code .ret::_) _ _ _;refine T_retV [] rfl (Hle.none _) ⟨rfl,rfl⟩))
 ·simp only [Bool.not_eq_false',decide_eq_true_eq] at h3
  have e:ckcV c l cols=0:=by unfold ckcV;rw [if_neg (by simpa using h),if_neg h2,if_pos h3]
  rw [e]
  repeat' (first|refine d1 ?_|refine dd ?_|(show ∀ _:Nat,T _ _ _ _ _;intro _)|(show T _ (.code .ret::_) _ _ _;refine T_retV [] rfl (Hle.none _) ⟨rfl,rfl⟩))
theorem hdr_get {i j:Nat} {X:List Value} {z v v0:Value} (h:X[j]?=some v):(List.replicate i z++v0::X)[i+1+j]?=some v:=by
 rw [List.getElem?_append_right (by simp;omega),List.length_replicate,show i+1+j - i=j+1 by omega]
 exact h
theorem hdr_mid (i:Nat) (X:List Value) (z v:Value):(List.replicate i z++v::X)[i]?=some v:=by
 rw [List.getElem?_append_right (by simp),List.length_replicate,Nat.sub_self];rfl
theorem out_hle {A2 X:Option Addr} {c2 nn Y o:Nat} {cs HS hs:List Value} {cl:List Int} {out:List (List Int)} {J:List HA} (hcs:cs=cl.map (Value.int .i64)) :
  Hle (row 3 1 A2 c2 nn cs::dat hs (out.map intsD)::row 40 1 X Y o HS::J) (row 40 1 X Y o HS::dat (hs++[.slice A2 nn c2]) ((out++[cl]).map intsD)::J):=by
 subst hcs
 refine dat_rowV.trans (dat_join.trans ?_)
 have ej:out.map intsD++[D.s 1 ((cl.map (Value.int .i64)).map .v)]=(out++[cl]).map intsD:=by
  rw [List.map_append,List.map_map];rfl
 rw [ej]
 exact Hle.perm (List.Perm.swap _ _ _)
theorem ckcV_ok {c:Costs} {l:List TS} {cols:List (List Int)} (h:ckcV c l cols=0):ck21 c l=0∧∀ col∈cols,ColOk l col:=by
 unfold ckcV at h
 by_cases h1:ck21 c l≠0
 ·rw [if_pos h1] at h;omega
 rw [if_neg h1] at h
 refine ⟨by omega,?_⟩
 by_cases h2:l.length=0∧cols.length=0
 ·intro col hc
  rw [List.eq_nil_of_length_eq_zero h2.2] at hc
  cases hc
 rw [if_neg h2] at h
 by_cases h3:chkC l cols=0
 ·unfold chkC at h3
  by_cases h4:l.length=0
  ·rw [if_pos h4] at h3;omega
  rw [if_neg h4] at h3
  by_cases h5:ColsOk (lens l) cols
  ·exact fun col hc=>ColsOk.colOk (l:=l) h5 hc
  ·rw [if_neg h5] at h3;omega
 ·rw [if_neg h3] at h;omega
noncomputable def addRV (c:Costs) (l:List TS) (cols:List (List Int)) (t:List Tok):List (List Int) × Int:=if ckcV c l cols≠0 then ([],ckcV c l cols) else if badL t=true then ([],1) else (addV c l cols t 0 0,0)
def bst1 (G:Grd) (i k:Nat):Int:=if i<G.n∧k<G.m then G.p i k+rst G (i+1) (k+1) else -1
def bst2 (G:Grd) (i k:Nat):Int:=if i<G.n then bst (bst1 G i k) (G.g i+rst G (i+1) k) else bst1 G i k
def bst3 (G:Grd) (i k:Nat):Int:=if k<G.m then bst (bst2 G i k) (G.h k+rst G i (k+1)) else bst2 G i k
theorem bst_rst {G:Grd} {M:Int} (hG:GOk G M) (i k:Nat):max (bst3 G i k) 0=rst G i k:=by
 have q1:=hG.p i k
 have q2:=hG.g i
 have q3:=hG.h k
 have r1:=(rst_bd hG (i+1) (k+1)).1
 have r2:=(rst_bd hG (i+1) k).1
 have r3:=(rst_bd hG i (k+1)).1
 have b1:∀ x y:Int,0≤x→bst x y=min x y:=fun x y h=>by unfold bst;split <;> omega
 have b2:∀ y:Int,bst (-1) y=y:=fun y=>if_pos (.inl (by omega))
 unfold bst3 bst2 bst1
 by_cases hi:i<G.n
 ·by_cases hk:k<G.m
  ·have c1:i<G.n∧k<G.m:=⟨hi,hk⟩
   rw [rst_both hi hk]
   simp only [if_pos c1,if_pos hi,if_pos hk]
   rw [b1 (G.p i k+rst G (i+1) (k+1)) (G.g i+rst G (i+1) k) (by omega),b1 (min (G.p i k+rst G (i+1) (k+1)) (G.g i+rst G (i+1) k)) _ (by omega)]
   omega
  ·have c1:¬ (i<G.n∧k<G.m):=fun h=>hk h.2
   rw [rst_fst hi hk]
   simp only [if_neg c1,if_pos hi,if_neg hk]
   rw [b2]
   omega
 ·have c1:¬ (i<G.n∧k<G.m):=fun h=>hi h.1
  by_cases hk:k<G.m
  ·rw [rst_snd hi hk]
   simp only [if_neg c1,if_neg hi,if_pos hk]
   rw [b2]
   omega
  ·rw [rst_none hi hk]
   simp only [if_neg c1,if_neg hi,if_neg hk]
   rfl
theorem bst_bd {G:Grd} {M:Int} (hG:GOk G M) (i k:Nat) : -1≤bst1 G i k ∧ -1≤bst2 G i k ∧ -1≤bst3 G i k:=by
 have q1:=hG.p i k
 have q2:=hG.g i
 have q3:=hG.h k
 have r1:=(rst_bd hG (i+1) (k+1)).1
 have r2:=(rst_bd hG (i+1) k).1
 have r3:=(rst_bd hG i (k+1)).1
 unfold bst3 bst2 bst1 bst
 refine ⟨?_,?_,?_⟩ <;> (repeat' split) <;> omega
def frt (G:Grd) (m i q:Nat) (k':Nat):Int:=if m<q+k' then rst G i k' else 0
theorem frt_zero (G:Grd) (m i:Nat):List.replicate (m+1) (Value.int .i64 0)=valV (frt G m i 0) (m+1):=by
 rw [valV_replicate];exact valV_ext fun q hq=>by unfold frt;rw [if_neg (by omega)]
theorem frt_succ (G:Grd) {m i q k:Nat} (h:k+q=m):(valV (frt G m i q) (m+1)).set k (.int .i64 (rst G i k))=valV (frt G m i (q+1)) (m+1):=by
 rw [valV_put]
 refine valV_ext fun k' hk=>?_
 unfold frt
 by_cases e:k'=k
 ·subst e;rw [if_pos rfl,if_pos (by omega)]
 ·rw [if_neg e]
  by_cases h1:m<q+k'
  ·rw [if_pos h1,if_pos (by omega)]
  ·rw [if_neg h1,if_neg (by omega)]
theorem frt_all (G:Grd) (m i:Nat):valV (frt G m i (m+1)) (m+1)=valV (rst G i) (m+1):=valV_ext fun k' hk=>by unfold frt;rw [if_pos (by omega)]
theorem fst_11 {G:Grd} {i k:Nat} (hi:i<G.n) (hk:k<G.m) (h:G.p i k+rst G (i+1) (k+1)=rst G i k):fstM G i k=some ⟨1,1,G.p i k⟩:=by
 unfold fstM;rw [mvs_both hi hk,List.find?_cons_of_pos (by simp only [via];exact decide_eq_true h)]
theorem fst_10 {G:Grd} {i k:Nat} (hi:i<G.n) (h1:¬ ((i<G.n∧k<G.m)∧G.p i k+rst G (i+1) (k+1)=rst G i k)) (h:G.g i+rst G (i+1) k=rst G i k):fstM G i k=some ⟨1,0,G.g i⟩:=by
 unfold fstM
 by_cases hk:k<G.m
 ·rw [mvs_both hi hk,List.find?_cons_of_neg (by simp only [via];exact fun h9=>h1 ⟨⟨hi,hk⟩,of_decide_eq_true h9⟩),List.find?_cons_of_pos (by simp only [via,Nat.add_zero];exact decide_eq_true h)]
 ·rw [mvs_fst hi hk,List.find?_cons_of_pos (by simp only [via,Nat.add_zero];exact decide_eq_true h)]
theorem fst_01 {G:Grd} {i k:Nat} (he:i<G.n∨k<G.m) (h1:¬ ((i<G.n∧k<G.m)∧G.p i k+rst G (i+1) (k+1)=rst G i k)) (h2:¬ (i<G.n∧G.g i+rst G (i+1) k=rst G i k)):fstM G i k=some ⟨0,1,G.h k⟩∧k<G.m:=by
 obtain⟨x,hx⟩:=fstM_ex he
 obtain⟨hm,hv⟩:=fstM_mem hx
 unfold via at hv
 rcases mvs_form hm with⟨rfl,f1,f2⟩|⟨rfl,f1⟩|⟨rfl,f1⟩
 ·exact absurd ⟨⟨f1,f2⟩,hv⟩ h1
 ·exact absurd ⟨f1,hv⟩ h2
 ·exact⟨hx,f1⟩
end Go.Proofs.YtmenjpmikhajfaaGreatDoor
namespace Go.Proofs.YtmenjpmikhajfaaGreatDoor
open Go.RowKit Go.Shelf Go.Proofs

def takS (l:List TS) (ord:List Nat) (j:Nat):List TS:=(ord.take j).map (tsA l)
def stgV (c:Costs) (l:List TS) (ord:List Nat):Nat→List (List Int)
 | 0=>[]
 | j+1=>addV c (takS l ord j) (stgV c l ord j) (tsA l (ord.getD j 0)).l 0 0
theorem ord_get {ord:List Nat} {j:Nat} (h:j<ord.length):ord[j]?=some (ord.getD j 0):=by
 rw [List.getD_eq_getElem?_getD,List.getElem?_eq_getElem h];rfl
theorem takS_succ {l:List TS} {ord:List Nat} {j:Nat} (h:j<ord.length):takS l ord (j+1)=takS l ord j++[tsA l (ord.getD j 0)]:=by
 unfold takS;rw [take_snoc _ _ _ (ord_get h),List.map_append];rfl
theorem takS_len {l:List TS} {ord:List Nat} {j:Nat} (h:j≤ord.length):(takS l ord j).length=j:=by
 unfold takS;rw [List.length_map,List.length_take];omega
theorem tsA_mem {l:List TS} {i:Nat} (h:i<l.length):tsA l i∈l:=by
 have e:l[i]?=some l[i]:=List.getElem?_eq_getElem h
 rw [tsA_eq e];exact List.getElem_mem h
theorem takS_mem {l:List TS} {ord:List Nat} (hlt:∀ k∈ord,k<l.length) {j:Nat}:∀ t∈takS l ord j,t∈l:=fun t ht=>by
 unfold takS at ht
 obtain⟨k,hk,rfl⟩:=List.mem_map.1 ht
 exact tsA_mem (hlt k (List.mem_of_mem_take hk))
theorem ord_lt {l:List TS} {ord:List Nat} (hlt:∀ k∈ord,k<l.length) {j:Nat} (h:j<ord.length):ord.getD j 0<l.length:=hlt _ (List.mem_of_getElem? (ord_get h))
theorem lens_app (a b:List TS):lens (a++b)=lens a++lens b:=by unfold lens;rw [List.map_append]
theorem stgV_ok {c:Costs} {l:List TS} {ord:List Nat} (hlt:∀ k∈ord,k<l.length) (hln:∀ t∈l,t.l.length=t.n):∀ j,j≤ord.length→ColsOk (lens (takS l ord j)) (stgV c l ord j)
 | 0,_=>ColsOk.nil
 | j+1,h=>by
  have ih:=stgV_ok (c:=c) hlt hln j (by omega)
  rw [takS_succ (by omega),lens_app]
  have e:=hln _ (tsA_mem (ord_lt hlt (show j<ord.length by omega)))
  have:=addV_ok (c:=c) (l:=takS l ord j) (t:=(tsA l (ord.getD j 0)).l) (by rw [lens_len]) ih
  rw [e] at this
  exact this
theorem stgV_len {c:Costs} {l:List TS} {ord:List Nat} (hlt:∀ k∈ord,k<l.length) {M:Nat} (hln:∀ t∈l,t.l.length≤M):∀ j,j≤ord.length→(stgV c l ord j).length≤j * M
 | 0,_=>Nat.zero_le _
 | j+1,h=>by
  have ih:=stgV_len (c:=c) hlt hln j (by omega)
  have h1:=addV_len c (takS l ord j) (stgV c l ord j) (tsA l (ord.getD j 0)).l
  have h2:=hln _ (tsA_mem (ord_lt hlt (show j<ord.length by omega)))
  rw [Nat.succ_mul]
  show (addV c (takS l ord j) (stgV c l ord j) (tsA l (ord.getD j 0)).l 0 0).length≤_
  omega
theorem badS_tak {l:List TS} {ord:List Nat} (hlt:∀ k∈ord,k<l.length) (h:badS l=false) (j:Nat):badS (takS l ord j)=false:=by
 unfold badS at h ⊢
 rw [List.any_eq_false] at h ⊢
 exact fun t ht=>h t (takS_mem hlt t ht)
theorem Grp.tak {w:World} {A A':Option Addr} {n:Nat} {l:List TS} {ord:List Nat} (hg:Grp w A n l) (hlt:∀ k∈ord,k<l.length) {j:Nat} (hj:j≤ord.length) (hjb:j≤32) (hs:Src w 1 A' j ((takS l ord j).map TS.val)):Grp w A' j (takS l ord j) :=
 ⟨hg.hst,hs,takS_len hj,hjb,⟨fun t ht=>hg.ok.src t (takS_mem hlt t ht),fun t ht=>hg.ok.len t (takS_mem hlt t ht),fun t ht=>hg.ok.bd t (takS_mem hlt t ht)⟩,fun t ht=>hg.nb t (takS_mem hlt t ht),fun t ht=>hg.sm t (takS_mem hlt t ht)⟩
def alnP (c:Costs) (l:List TS):List (List Int):=(stgV c l (orderV (dstT c l) l.length) l.length).map (arrR (orderV (dstT c l) l.length))
def alnA (c:Costs) (l:List TS):List (List Int) × Int:=if ck21 c l=0 then (alnP c l,0) else ([],1)
end Go.Proofs.YtmenjpmikhajfaaGreatDoor
namespace Go.Proofs.YtmenjpmikhajfaaGreatDoor
open Go.RowKit Go.Shelf Go.Proofs

def SameL (l l':List TS):Prop:=l.map TS.l=l'.map TS.l
theorem SameL.len {l l':List TS} (h:SameL l l'):l.length=l'.length:=by
 have:=congrArg List.length h
 rwa [List.length_map,List.length_map] at this
theorem SameL.get {l l':List TS} (h:SameL l l') (i:Nat):(tsA l i).l=(tsA l' i).l:=by
 have e:=congrArg (fun x:List (List Tok)=>x[i]?) h
 simp only [List.getElem?_map] at e
 unfold tsA
 rw [List.getD_eq_getElem?_getD,List.getD_eq_getElem?_getD]
 cases h1:l[i]? with
 | none =>
  cases h2:l'[i]? with
  | none=>rfl
  | some y=>rw [h1,h2] at e;cases e
 | some x =>
  cases h2:l'[i]? with
  | none=>rw [h1,h2] at e;cases e
  | some y=>rw [h1,h2] at e;exact Option.some.inj e
theorem SameL.dst {l l':List TS} (h:SameL l l') (c:Costs):dstT c l=dstT c l':=by
 funext i k
 unfold dstT
 rw [h.get,h.get]
theorem SameL.put {l l':List TS} (h:SameL l l') (c:Costs) (col:List Int) (t:List Tok) (k:Int):putC c l col t k=putC c l' col t k:=by
 have e:∀ m:List TS,putC c m col t k=(((m.map TS.l).zip col).map fun p=>entC c p.1 p.2 t k).sum:=fun m=>by
  unfold putC
  rw [List.zip_map_left,List.map_map]
  rfl
 rw [e l,e l',h]
theorem SameL.add {l l':List TS} (h:SameL l l') (c:Costs) (cols:List (List Int)) (t:List Tok):addV c l cols t=addV c l' cols t:=by
 funext i k
 have e:grdA c l cols t=grdA c l' cols t:=by
  unfold grdA
  simp only [h.put,h.len]
 unfold addV
 rw [e,h.len]
theorem SameL.tak {l l':List TS} (h:SameL l l') (ord:List Nat) (j:Nat):SameL (takS l ord j) (takS l' ord j):=by
 unfold SameL takS
 rw [List.map_map,List.map_map]
 exact List.map_congr_left fun i _=>h.get i
theorem SameL.stg {l l':List TS} (h:SameL l l') (c:Costs) (ord:List Nat):∀ j,stgV c l ord j=stgV c l' ord j
 | 0=>rfl
 | j+1=>by
  unfold stgV
  rw [(h.tak ord j).add,SameL.stg h c ord j,h.get]
theorem SameL.bad {l l':List TS} (h:SameL l l'):badS l=badS l':=by
 have e:∀ m:List TS,badS m=(m.map TS.l).any badL:=fun m=>by unfold badS;rw [List.any_map];rfl
 rw [e,e,h]
theorem SameL.ck {l l':List TS} (h:SameL l l') (c:Costs):ck21 c l=ck21 c l':=by unfold ck21;rw [h.bad]
theorem SameL.ord {l l':List TS} (h:SameL l l') (c:Costs):ordV c l=ordV c l':=by unfold ordV;rw [h.ck,h.dst,h.len]
theorem SameL.aln {l l':List TS} (h:SameL l l') (c:Costs):alnA c l=alnA c l':=by unfold alnA alnP;rw [h.ck,h.dst,h.len,h.stg]
def dstK (c:Costs) (l:List TS) (i k:Nat):Int :=
 if i<k then rstF (grdOf c (tsA l i).l (tsA l k).l) ((tsA l i).l.length+(tsA l k).l.length) 0 0 else if k<i then rstF (grdOf c (tsA l k).l (tsA l i).l) ((tsA l k).l.length+(tsA l i).l.length) 0 0 else 0
theorem dstK_eq (c:Costs) (l:List TS):dstT c l=dstK c l:=by
 funext i k
 unfold dstT dstK
 rw [rstF_eq _ 0 0 (by show ((tsA l i).l.length - 0)+((tsA l k).l.length - 0)≤_;omega),rstF_eq _ 0 0 (by show ((tsA l k).l.length - 0)+((tsA l i).l.length - 0)≤_;omega)]
def addK (c:Costs) (l:List TS) (cols:List (List Int)) (t:List Tok):List (List Int) :=
 (alnK (grdA c l cols t) (cols.length+t.length) (cols.length+t.length) 0 0).map (colA l.length cols)
theorem addK_eq (c:Costs) (l:List TS) (cols:List (List Int)) (t:List Tok):addV c l cols t 0 0=addK c l cols t:=by
 unfold addV addK
 rw [aln_eval]
 rfl
def stgK (c:Costs) (l:List TS) (ord:List Nat):Nat→List (List Int)
 | 0=>[]
 | j+1=>addK c (takS l ord j) (stgK c l ord j) (tsA l (ord.getD j 0)).l
theorem stgK_eq (c:Costs) (l:List TS) (ord:List Nat):∀ j,stgV c l ord j=stgK c l ord j
 | 0=>rfl
 | j+1=>by
  unfold stgV stgK
  rw [addK_eq,stgK_eq c l ord j]
end Go.Proofs.YtmenjpmikhajfaaGreatDoor
namespace Go.Proofs.YtmenjpmikhajfaaGreatDoor
open Go.RowKit Go.Shelf Go.Proofs
set_option maxRecDepth 100000

def awC21:Costs:=⟨40,5,50,50⟩
def sA:ByteArray:=⟨#[97]⟩
def sB:ByteArray:=⟨#[98]⟩
def sC:ByteArray:=⟨#[99]⟩
def aw21a:List Tok:=[tokS sA,tokS sB,tokS sC]
def aw21b:List Tok:=[tokS sA,tokS sC]
def aw21c:List Tok:=[tokS sA,tokS sB]
def aw21:List TS:=[⟨none,3,3,aw21a⟩,⟨none,2,2,aw21b⟩,⟨none,2,2,aw21c⟩]
theorem aw21K:ck21 awC21 aw21=0:=by decide +kernel
theorem aw21O:orderV (dstK awC21 aw21) 3=[0,1,2]:=by decide +kernel
theorem aw21S:(stgK awC21 aw21 [0,1,2] 3).map (arrR [0,1,2])=[[0,0,0],[1,-1,1],[2,1,-1]]:=by decide +kernel
theorem aw21V:ordV awC21 aw21=([0,1,2],0):=by
 unfold ordV
 rw [if_pos aw21K,dstK_eq]
 show (orderV (dstK awC21 aw21) 3,(0:Int))=_
 rw [aw21O]
theorem aw21W:alnA awC21 aw21=([[0,0,0],[1,-1,1],[2,1,-1]],0):=by
 unfold alnA alnP
 rw [if_pos aw21K,dstK_eq]
 show ((stgV awC21 aw21 (orderV (dstK awC21 aw21) 3) 3).map (arrR (orderV (dstK awC21 aw21) 3)),(0:Int))=_
 rw [aw21O,stgK_eq,aw21S]
theorem aw21s:(∀ x∈aw21a,x.small)∧(∀ x∈aw21b,x.small)∧(∀ x∈aw21c,x.small):=by decide +kernel
end Go.Proofs.YtmenjpmikhajfaaGreatDoor
namespace Go.Proofs.YtmenjpmikhajfaaGreatDoor
open Go.RowKit Go.Shelf Go.Proofs
set_option maxRecDepth 100000
set_option maxHeartbeats 1000000

theorem nilC (H:List HA):Hle H (dat [.slice none 0 0] [rowsD []]::H):=hle_unit (B:=dat [.slice none 0 0] [rowsD []]) (.s none 0 0 1 [] rfl (Nat.le_refl _) (by omega) (fun h=>absurd h (by omega)) .nil .nil)
theorem Rd.intsAt {w:World} {A:Option Addr} {n cap:Nat} {p:List Int} (h:Rd (wr w) [.slice A n cap] [intsD p]):Src w 1 A n (p.map (Value.int .i64)):=by
 obtain⟨A',cap',e,-,hs⟩:=h.ints
 cases e
 exact hs
theorem stg_prod {c:Costs} {l:List TS} {ord:List Nat} (hlt:∀ k∈ord,k<l.length) (hln:∀ t∈l,t.l.length≤100) {j m:Nat} (hj:j≤ord.length) (hj2:j≤32) (hm:m≤100):(stgV c l ord j).length≤3200∧(((stgV c l ord j).length:Int)+1) * ((m:Int)+1)≤1048576:=by
 have h1:=stgV_len (c:=c) hlt hln j hj
 have h2:(stgV c l ord j).length≤3200:=by omega
 have h3:=Nat.mul_le_mul (show (stgV c l ord j).length+1≤3201 by omega) (show m+1≤101 by omega)
 have h4:(((stgV c l ord j).length:Int)+1) * ((m:Int)+1)=((((stgV c l ord j).length+1) * (m+1):Nat):Int):=by push_cast;rfl
 exact⟨h2,by rw [h4];omega⟩
theorem Grp.addW {w w':World} {A:Option Addr} {l:List TS} (hg:Grp w A l.length l) (hw:Below w.heap.size w w') (hst:Std w') {c:Costs} (hc:costE c=0) (hbs:badS l=false) (hq:∀ t∈l,t.n≤100) {ord:List Nat} (hlt:∀ k∈ord,k<l.length) {j:Nat} (hj:j<ord.length) (hj2:j≤32) {At:Option Addr} {K:Value}
  (hs:Src w' 1 At j ((takS l ord j).map TS.val)) (hx:Rd (wr w') [K] [rowsD (stgV c l ord j)]) {t:TS} (ht:t∈l):AddW w' c At j (takS l ord j) K (stgV c l ord j) t.A t.n t.l:=by
 have hln:∀ t∈l,t.l.length=t.n:=hg.ok.len
 have hg':Grp w' A l.length l:=⟨hst,src_below hg.hs hw,hg.hn,hg.hb,⟨fun t ht=>src_below (hg.ok.src t ht) hw,hg.ok.len,hg.ok.bd⟩,hg.nb,hg.sm⟩
 refine ⟨hg'.tak hlt (by omega) hj2 hs,hc,badS_tak hlt hbs j,hx,fun col hcol=>ColsOk.colOk (l:=takS l ord j) (stgV_ok hlt hln j (by omega)) hcol,hg'.ok.src t ht,hln t ht,hg.nb t ht,badS_ok hbs t ht,hg.sm t ht,?_⟩
 have:=(stg_prod (c:=c) hlt (fun t ht=>by rw [hln t ht];exact hq t ht) (j:=j) (m:=0) (by omega) hj2 (by omega)).1
 omega
theorem alignPrg21_spec (c:Costs) (A:Option Addr) (n ca:Nat) (l:List TS) (w:World) (hg:Grp w A n l) (hq:∀ t∈l,t.n≤100) :
  Spec Tryz.prog 65 [c.val, .slice A n ca] w (fun v R=>∃ x:Value,True∧v = .tuple #[x, .int .i64 (alnA c l).2]∧R=[dat [x] [rowsD (alnA c l).1]]):=by
 have hn:=hg.hn
 subst hn
 have hb:=hg.hb
 refine spec_of sg Tryz.func65 rfl rfl rfl ?_
 refine T_op (OpT.box (cs:=c.cells) rfl rfl rfl rfl rfl rfl rfl (fun pc=>?_))
 repeat' (first|refine d1 ?_|refine dd ?_|(show T _ (.ops _ (_::_)::_) _ _ _;first|refine T_call rfl rfl rfl rfl rfl (fun w hw=>check21_spec c A l.length ca l w (hg.cls hw)) ?_|refine T_callC rfl rfl rfl rfl rfl rfl rfl (fun hg w hw=>check21_spec c A l.length ca l w (hg.cls hw)) ?_)|(show T _ (.run _ _ (_::_) _ _::_) _ _ _;first|refine rc rfl rfl rfl rfl rfl rfl rfl (fun w hw=>check21_spec c A l.length ca l w (hg.cls hw)) ?_|refine rcG rfl rfl rfl rfl rfl rfl rfl rfl rfl (fun hg w hw=>check21_spec c A l.length ca l w (hg.cls hw)) ?_)|(show ∀ _:Nat,T _ _ _ _ _;intro _))
 refine T_if rfl (fun h=>?_) (fun h=>?_)
 ·simp only [Bool.not_eq_true',decide_eq_false_iff_not] at h
  have e:alnA c l=([],1):=if_neg h
  rw [e,(ck21_01 c l).resolve_left h]
  repeat' (first|refine d1 ?_|refine dd ?_|(show ∀ _:Nat,T _ _ _ _ _;intro _)|(show T _ (.code .ret::_) _ _ _;refine T_retV _ rfl ((nilC _).trans (Hle.nth 0 rfl)) ⟨_,trivial,rfl,rfl⟩))
 simp only [Bool.not_eq_false',decide_eq_true_eq] at h
 have e:alnA c l=(alnP c l,0):=if_pos h
 rw [e]
 obtain⟨hc,hbs⟩:=ck21_ok h
 have hbd:=dstT_bd hc hg.len
 obtain⟨hd,hlt⟩:=orderV_ok (fun i k=>(hbd i k).1) l.length
 have hol:=orderV_len (dstT c l) l.length
 have e2:alnP c l=(stgV c l (orderV (dstT c l) l.length) l.length).map (arrR (orderV (dstT c l) l.length)):=rfl
 rw [e2]
 repeat' (first|refine d1 ?_|refine dd ?_|(show T _ (.ops _ (_::_)::_) _ _ _;refine T_op (OpT.call rfl rfl rfl rfl rfl (fun w hw=>order21_spec c A l.length ca l w (hg.cls hw) hc hbs) ?_))|(show ∀ _:Nat,T _ _ _ _ _;intro _))
 rintro v R ⟨x,-,rfl,rfl⟩
 generalize orderV (dstT c l) l.length=ord at hd hlt hol ⊢
 refine T_le (H':=[dat [x] [intsD (intN ord)],blk pc c.cells 23]) (Hle.refl _) ?_
 refine T_open fun p hp=>?_
 have hp2:=hp
 have hil:(intN ord).length=l.length:=by unfold intN;rw [List.length_map,hol]
 obtain⟨Ao,co,rfl,hc1,hc2,hAo⟩:=hp.row1
 rw [hil] at hAo hc1 hp2 ⊢
 have hln:∀ t∈l,t.l.length≤100:=fun t ht=>by rw [hg.ok.len t ht];exact hq t ht
 repeat' (first|refine d1 ?_|refine dd ?_|(show ∀ _:Nat,T _ _ _ _ _;intro _))
 refine T_if rfl (fun h1=>by exfalso;simp at h1) (fun _=>?_)
 repeat' (first|refine d1 ?_|refine dd ?_|(show ∀ _:Nat,T _ _ _ _ _;intro _))
 refine T_le (nilC _) ?_
 refine T_nilrow 26 1 ?_
 refine T_loopX (fun s:Nat × (Option Addr × Nat) × Value=>[(30, .int .i64 s.1),(10, .slice s.2.1.1 s.1 s.2.1.2),(9,s.2.2)]) (fun s=>[row 26 1 s.2.1.1 s.2.1.2 s.1 ((takS l ord s.1).map TS.val),dat [s.2.2] [rowsD (stgV c l ord s.1)],fz p,blk pc c.cells 23]) (fun s=>s.1≤l.length) (fun s=>l.length - s.1) (0,(none,0), .slice none 0 0) (Nat.zero_le _) ?_
 rintro⟨j,⟨At,capt⟩,K⟩ hj
 dsimp only at hj ⊢
 repeat' (first|refine d1 ?_|refine dd ?_|(show ∀ _:Nat,T _ _ _ _ _;intro _))
 refine T_if rfl (fun h3=>?_) (fun h3=>?_)
 ·simp only [decide_eq_true_eq] at h3
  have hjn:j<l.length:=by omega
  obtain⟨bo,oo,rfl,hbo⟩:=hAo (by omega)
  obtain⟨b,o,rfl⟩:=hg.hs.base (by omega)
  have hoj:=ord_get (show j<ord.length by omega)
  have hlj:ord.getD j 0<l.length:=ord_lt hlt (by omega)
  obtain⟨t,ht,htm,hrt⟩:=hg.get hlj
  have hts:tsA l (ord.getD j 0)=t:=tsA_eq ht
  have hst:stgV c l ord (j+1)=addV c (takS l ord j) (stgV c l ord j) t.l 0 0:=by
   show addV c (takS l ord j) (stgV c l ord j) (tsA l (ord.getD j 0)).l 0 0=_
   rw [hts]
  have hpr:=(stg_prod (c:=c) hlt hln (j:=j) (m:=t.n) (by omega) (by omega) (hq t htm)).2
  refine T_le (H':=[dat [K] [rowsD (stgV c l ord j)],row 26 1 At capt j ((takS l ord j).map TS.val),fz p,blk pc c.cells 23]) Hle.srt ?_
  refine T_open fun q hq9=>?_
  refine T_le (H':=[row 26 1 At capt j ((takS l ord j).map TS.val),fz q,fz p,blk pc c.cells 23]) Hle.srt ?_
  repeat' (first|refine d1 ?_|refine dd ?_|(show T _ (.ops _ (_::_)::_) _ _ _;first|refine T_val rfl (Val.load rfl (fun hg=>rdFz (p:=p) (u := .int .i64 (ord.getD j 0:Nat)) (b:=bo) (by rw [off1];exact hbo j _ (by unfold intN;rw [List.getElem?_map,hoj];rfl)))) rfl rfl rfl ?_|refine T_valC rfl (Val.load rfl (fun hg=>rdFz (p:=p) (u := .int .i64 (ord.getD j 0:Nat)) (b:=bo) (by rw [off1];exact hbo j _ (by unfold intN;rw [List.getElem?_map,hoj];rfl)))) rfl rfl rfl rfl rfl ?_)|(show T _ (.run _ _ (_::_) _ _::_) _ _ _;first|refine rv rfl rfl rfl (Val.load rfl (fun hg=>rdFz (p:=p) (u := .int .i64 (ord.getD j 0:Nat)) (b:=bo) (by rw [off1];exact hbo j _ (by unfold intN;rw [List.getElem?_map,hoj];rfl)))) rfl rfl rfl ?_|refine rg rfl rfl rfl (Val.load rfl (fun hg=>rdFz (p:=p) (u := .int .i64 (ord.getD j 0:Nat)) (b:=bo) (by rw [off1];exact hbo j _ (by unfold intN;rw [List.getElem?_map,hoj];rfl)))) rfl rfl rfl rfl rfl ?_|refine rcE rfl rfl rfl rfl rfl rfl rfl (fun w hw=>add21_spec (hg.addW hw.below (hg.hst.cls hw) hc hbs hq hlt (by omega) (by omega) (srcRw w hw) (hq9.own hw) htm) capt t.cap hpr) (fun y9 _=>?_))|(show ∀ _:Nat,T _ _ _ _ _;intro _))
  refine T_if rfl (fun h5=>by exfalso;simp at h5) (fun _=>?_)
  repeat' (first|refine d1 ?_|refine dd ?_|(show T _ (.ops _ (_::_)::_) _ _ _;refine T_op (OpT.append rfl rfl rfl rfl rfl rfl rfl rfl rfl rfl (fun w hw=>Src.own hw rfl) rfl (by dsimp only;omega) (by omega) (fun A' cap' hA'=>?_)))|(show ∀ _:Nat,T _ _ _ _ _;intro _))
  refine T_backX (j+1,(A',cap'),y9) (Nat.succ_le_of_lt hjn) (by dsimp only;omega) (hG:=?_)
  dsimp only
  rw [takS_succ (by omega),List.map_append,hts,hst,show List.map TS.val [t]=flatP [(0, .slice t.A t.n t.cap)] from rfl]
  exact Hle.srt
 ·simp only [decide_eq_false_iff_not] at h3
  obtain rfl:j=l.length:=by omega
  refine T_le (H':=[dat [K] [rowsD (stgV c l ord l.length)],row 26 1 At capt l.length ((takS l ord l.length).map TS.val),fz p,blk pc c.cells 23]) Hle.srt ?_
  refine T_open fun q hq9=>?_
  have hso:=stgV_ok (c:=c) hlt hg.ok.len l.length (by omega)
  have hlen:=(stg_prod (c:=c) hlt hln (j:=l.length) (m:=0) (by omega) (by omega) (by omega)).1
  repeat' (first|refine d1 ?_|refine dd ?_|(show T _ (.ops _ (_::_)::_) _ _ _;refine T_op (OpT.call rfl rfl rfl rfl rfl (fun w hw=>arranged_spec K (stgV c l ord l.length) Ao l.length co ord w (hq9.own hw) (by have h9:=(hp2.own hw).intsAt;rw [intN_val] at h9;exact h9) hol (fun r hr=>by rw [hso.len r hr,lens_len,takS_len (by omega)]) hlt (by omega) (by omega)) ?_))|(show ∀ _:Nat,T _ _ _ _ _;intro _))
  rintro v R ⟨y,-,rfl,rfl⟩
  repeat' (first|refine d1 ?_|refine dd ?_|(show ∀ _:Nat,T _ _ _ _ _;intro _)|(show T _ (.code .ret::_) _ _ _;refine T_retV _ rfl (Hle.nth 0 rfl) ⟨_,trivial,rfl,rfl⟩))
end Go.Proofs.YtmenjpmikhajfaaGreatDoor
namespace Go.Proofs.YtmenjpmikhajfaaGreatDoor
open Go.RowKit Go.Shelf Go.Proofs
set_option maxRecDepth 100000
set_option maxHeartbeats 4000000

theorem addR21_spec (c:Costs) (A:Option Addr) (n ca:Nat) (l:List TS) (x:Value) (cols:List (List Int)) (At:Option Addr) (m ct:Nat) (t:List Tok) (w:World) (hgr:Grp w A n l) (hn31:n≤31) (hx:Rd (wr w) [x] [rowsD cols]) (hsz:cols.length≤100000)
  (hts:Src w 6 At m (t.flatMap Tok.cells)) (htl:t.length=m) (hm:m≤1000) (hsm:∀ y∈t,y.small) (hprod:((cols.length:Int)+1) * ((m:Int)+1)≤1048576) :
  Spec Tryz.prog 18 [c.val, .slice A n ca,x, .slice At m ct] w (fun v R=>∃ y:Value,True∧v = .tuple #[y, .int .i64 (addRV c l cols t).2]∧R=[dat [y] [rowsD (addRV c l cols t).1]]):=by
 have hx0:=hx
 have hn:=hgr.hn
 have hprod0:0≤((cols.length:Int)+1) * ((m:Int)+1):=Int.mul_nonneg (by omega) (by omega)
 obtain⟨Ak,ck,csk,rfl,hck1,hck2,hcs,hrows⟩:=hx.tabS
 refine spec_of sg Tryz.func18 rfl rfl rfl ?_
 refine T_op (OpT.box (cs:=c.cells) rfl rfl rfl rfl rfl rfl rfl (fun pc=>?_))
 repeat' (first|refine d1 ?_|refine dd ?_|(show T _ (.ops _ (_::_)::_) _ _ _;first|refine T_call rfl rfl rfl rfl rfl (fun w hw=>checkCols_spec c A n ca l _ cols w (hgr.cls hw) (hx0.old hw)) ?_|refine T_callC rfl rfl rfl rfl rfl rfl rfl (fun hg w hw=>checkCols_spec c A n ca l _ cols w (hgr.cls hw) (hx0.old hw)) ?_)|(show T _ (.run _ _ (_::_) _ _::_) _ _ _;first|refine rc rfl rfl rfl rfl rfl rfl rfl (fun w hw=>checkCols_spec c A n ca l _ cols w (hgr.cls hw) (hx0.old hw)) ?_|refine rcG rfl rfl rfl rfl rfl rfl rfl rfl rfl (fun hg w hw=>checkCols_spec c A n ca l _ cols w (hgr.cls hw) (hx0.old hw)) ?_)|(show ∀ _:Nat,T _ _ _ _ _;intro _))
 refine T_if rfl (fun h=>?_) (fun h=>?_)
 ·simp only [Bool.not_eq_true',decide_eq_false_iff_not] at h
  have e:addRV c l cols t=([],ckcV c l cols):=if_pos h
  rw [e]
  repeat' (first|refine d1 ?_|refine dd ?_|(show ∀ _:Nat,T _ _ _ _ _;intro _)|(show T _ (.code .ret::_) _ _ _;refine T_retV _ rfl (dat_blkV (sz:=1) (n:=0) rfl (by omega) |>.trans (Hle.nth 0 rfl)) ⟨_,trivial,rfl,rfl⟩))
 simp only [Bool.not_eq_false',decide_eq_true_eq] at h
 obtain⟨hck,hcolok⟩:=ckcV_ok h
 obtain⟨hc,hbs⟩:=ck21_ok hck
 repeat' (first|refine d1 ?_|refine dd ?_|(show ∀ _:Nat,T _ _ _ _ _;intro _))
 refine T_if rfl (fun h1=>by exfalso;simp at h1;omega) (fun _=>?_)
 repeat' (first|refine d1 ?_|refine dd ?_|(show T _ (.ops _ (_::_)::_) _ _ _;first|refine T_call rfl rfl rfl rfl rfl (fun w hw=>source21_spec At m ct t w (src_below hts hw.below) htl hm) ?_|refine T_callC rfl rfl rfl rfl rfl rfl rfl (fun hg w hw=>source21_spec At m ct t w (src_below hts hw.below) htl hm) ?_)|(show T _ (.run _ _ (_::_) _ _::_) _ _ _;first|refine rc rfl rfl rfl rfl rfl rfl rfl (fun w hw=>source21_spec At m ct t w (src_below hts hw.below) htl hm) ?_|refine rcG rfl rfl rfl rfl rfl rfl rfl rfl rfl (fun hg w hw=>source21_spec At m ct t w (src_below hts hw.below) htl hm) ?_)|(show ∀ _:Nat,T _ _ _ _ _;intro _))
 refine T_if rfl (fun h1=>?_) (fun h1=>?_)
 ·have hb:badL t=true:=by
   cases hb:badL t with
   | true=>rfl
   | false=>rw [hb] at h1;simp at h1
  have e:addRV c l cols t=([],1):=by unfold addRV;rw [if_neg (by simpa using h),if_pos hb]
  rw [e,hb]
  repeat' (first|refine d1 ?_|refine dd ?_|(show ∀ _:Nat,T _ _ _ _ _;intro _)|(show T _ (.code .ret::_) _ _ _;refine T_retV _ rfl (dat_blkV (sz:=1) (n:=0) rfl (by omega) |>.trans (Hle.nth 0 rfl)) ⟨_,trivial,rfl,rfl⟩))
 have hb:badL t=false:=by
  cases hb:badL t with
  | false=>rfl
  | true=>rw [hb] at h1;simp at h1
 have e:addRV c l cols t=(addV c l cols t 0 0,0):=by unfold addRV;rw [if_neg (by simpa using h),if_neg (by rw [hb];simp)]
 rw [e]
 have hA:AddW w c A n l (.slice Ak cols.length ck) cols At m t:=⟨hgr,hc,hbs,hx0,hcolok,hts,htl,hm,badL_false.1 hb,hsm,hsz⟩
 have hte:=hA.hte
 have hG:=hA.ok
 have e1:(grdA c l cols t).n=cols.length:=rfl
 have e2:(grdA c l cols t).m=m:=htl
 have hcolr:∀ {i:Nat},i<cols.length→∃ (b o:Nat) (r:List Int) (Au:Option Addr) (capu:Nat),Ak=some ⟨b,o,none⟩∧cols.getD i []=r∧ColOk l r∧r.length=n∧RdC w b (o+(i:Int).toNat * 1) [.slice Au n capu]∧Src w 1 Au n (r.map (Value.int .i64)):=fun {i} hi=>by
  obtain⟨b,o,rfl⟩:=hcs.base (by omega)
  obtain⟨r,hr⟩:∃ r,cols[i]?=some r:=⟨_,List.getElem?_eq_getElem hi⟩
  obtain⟨Au,capu,hu,-,-,hA9⟩:=hrows.tabRow hr
  have hco:=hcolok r (List.mem_of_getElem? hr)
  have hrl:r.length=n:=by rw [hco.1,hn]
  have h8:=rowHd hcs hi hu
  have h9:=rowSrc hA9
  rw [hrl] at h8 h9
  exact⟨b,o,r,Au,capu,rfl,by rw [List.getD_eq_getElem?_getD,hr];rfl,hco,hrl,h8,h9⟩
 repeat' (first|refine d1 ?_|refine dd ?_|(show ∀ _:Nat,T _ _ _ _ _;intro _))
 refine T_if rfl (fun h2=>by exfalso;simp only [decide_eq_true_eq] at h2;omega) (fun _=>?_)
 repeat' (first|refine d1 ?_|refine dd ?_|(show ∀ _:Nat,T _ _ _ _ _;intro _))
 rename_i b0
 refine T_le (H':=[row 3 1 (some ⟨b0,0,none⟩) 0 0 [],blk pc c.cells 23]) (Hle.weaken (i:=0) rfl (blk_row (sz:=1) (n:=0) rfl (by simp only [maxLen];omega)) rfl) ?_
 refine T_loopX (fun s:Nat × Nat × Nat=>[(15, .int .i64 s.1),(14, .slice (some ⟨s.2.1,0,none⟩) s.1 s.2.2)]) (fun s=>[row 3 1 (some ⟨s.2.1,0,none⟩) s.2.2 s.1 (List.replicate s.1 (.int .i64 (-1))),blk pc c.cells 23]) (fun s=>s.1≤n) (fun s=>n - s.1) (0,b0,0) (Nat.zero_le _) ?_
 rintro⟨i,gn,capn⟩ hi
 dsimp only at hi ⊢
 repeat' (first|refine d1 ?_|refine dd ?_|(show ∀ _:Nat,T _ _ _ _ _;intro _))
 refine T_if rfl (fun h2=>?_) (fun h2=>?_)
 ·simp only [decide_eq_true_eq] at h2
  repeat' (first|refine d1 ?_|refine dd ?_|(show T _ (.ops _ (_::_)::_) _ _ _;refine T_op (OpT.append rfl rfl rfl rfl rfl rfl rfl rfl rfl rfl (fun w hw=>Src.own hw rfl) rfl (by dsimp only;omega) (by omega) (fun A' cap' hA'=>?_)))|(show ∀ _:Nat,T _ _ _ _ _;intro _))
  obtain⟨g',rfl⟩:=hA' (by omega)
  refine T_backX (i+1,g',cap') (Nat.succ_le_of_lt (by omega)) (by dsimp only;omega) (hG:=?_)
  dsimp only
  rw [List.replicate_succ']
  exact Hle.tail _ _
 simp only [decide_eq_false_iff_not] at h2
 have hin9:n=i:=by omega
 subst hin9
 clear h2 hi
 have hnn:(noneC l.length).map (Value.int .i64)=List.replicate n (.int .i64 (-1)):=by unfold noneC;rw [hn,List.map_replicate]
 repeat' (first|refine d1 ?_|refine dd ?_|(show T _ (.ops _ (_::_)::_) _ _ _;refine T_op (OpT.make rfl rfl rfl rfl rfl rfl rfl rfl rfl (by dsimp only;omega) (fun b1=>?_)))|(show ∀ _:Nat,T _ _ _ _ _;intro _))
 refine T_keep [(1, .slice A n ca),(2, .slice Ak cols.length ck),(3, .slice At m ct),(4, .pointer (some ⟨pc,0,none⟩)),(12, .int .i64 cols.length),(13, .int .i64 m),(14, .slice (some ⟨gn,0,none⟩) n capn),(16, .slice (some ⟨b1,0,none⟩) (cols.length+1) (cols.length+1)),(17, .int .i64 cols.length)] ⟨rfl,rfl,rfl,rfl,rfl,rfl,rfl,rfl,rfl,trivial⟩ ?_
 refine T_nilblks 3 ?_
 refine T_loopX (fun L:List (Nat × List Value)=>[(17, .int .i64 ((cols.length:Int) - L.length))]) (fun L=>[blks 3 L,blk b1 (List.replicate (cols.length+1 - L.length) (.slice none 0 0)++L.map (slv m)) 40,row 3 1 (some ⟨gn,0,none⟩) capn n (List.replicate n (.int .i64 (-1))),blk pc c.cells 23]) (fun L=>L.length≤cols.length+1∧RowsOk (fun j=>rst (grdA c l cols t) (cols.length+1 - L.length+j)) (m+1) L) (fun L=>cols.length+1 - L.length) [] ⟨Nat.zero_le _,fun i x h=>by simp at h⟩ ?_ (hE:=⟨by rw [show (cols.length:Int) - (([]:List (Nat × List Value)).length:Int)=cols.length by simp];rfl,trivial⟩) (hG:=by simp only [List.map_nil,List.append_nil,List.length_nil,Nat.sub_zero];exact Hle.refl _)
 rintro Lr ⟨hL,hRL⟩
 repeat' (first|refine d1 ?_|refine dd ?_|(show ∀ _:Nat,T _ _ _ _ _;intro _))
 refine T_if rfl (fun h3=>?_) (fun h3=>?_)
 ·simp only [decide_eq_true_eq] at h3
  obtain⟨i,hi⟩:∃ i,i+Lr.length=cols.length:=⟨cols.length - Lr.length,by omega⟩
  rw [show cols.length+1 - Lr.length=i+1 by omega] at hRL ⊢
  rw [show (cols.length:Int) - Lr.length=(i:Nat) by omega]
  repeat' (first|refine d1 ?_|refine dd ?_|(show T _ (.ops _ (_::_)::_) _ _ _;first|refine T_op (OpT.make rfl rfl rfl rfl rfl rfl rfl rfl rfl (by dsimp only;omega) (fun b2=>?_))|refine T_op (OpT.store rfl rfl rfl rfl (by simp;omega) ?_))|(show ∀ _:Nat,T _ _ _ _ _;intro _))
  rw [set_mid i _ _ _ _ (show 0+(i:Int).toNat * 1=i by omega)]
  refine T_le (H':=[blks 3 ((b2,valV (frt (grdA c l cols t) m i 0) (m+1))::Lr),blk b1 (List.replicate i (.slice none 0 0) ++ .slice (some ⟨b2,0,none⟩) (m+1) (m+1)::Lr.map (slv m)) 40,row 3 1 (some ⟨gn,0,none⟩) capn n (List.replicate n (.int .i64 (-1))),blk pc c.cells 23]) (by rw [← frt_zero];exact blks_cons) ?_
  refine T_loopX (fun q:Nat=>[(18, .int .i64 ((m:Int) - q))]) (fun q=>[blks 3 ((b2,valV (frt (grdA c l cols t) m i q) (m+1))::Lr),blk b1 (List.replicate i (.slice none 0 0) ++ .slice (some ⟨b2,0,none⟩) (m+1) (m+1)::Lr.map (slv m)) 40,row 3 1 (some ⟨gn,0,none⟩) capn n (List.replicate n (.int .i64 (-1))),blk pc c.cells 23]) (fun q=>q≤m+1) (fun q=>m+1 - q) 0 (Nat.zero_le _) ?_ (hE:=⟨by rw [show (m:Int) - ((0:Nat):Int)=m by omega];rfl,trivial⟩)
  intro q hq
  repeat' (first|refine d1 ?_|refine dd ?_|(show ∀ _:Nat,T _ _ _ _ _;intro _))
  refine T_if rfl (fun h4=>?_) (fun h4=>?_)
  ·simp only [decide_eq_true_eq] at h4
   obtain⟨k,hk⟩:∃ k,k+q=m:=⟨m - q,by omega⟩
   rw [show (m:Int) - q=(k:Nat) by omega]
   have r1:=hA.rst (i+1) (k+1)
   have r2:=hA.rst (i+1) k
   have r3:=hA.rst i (k+1)
   have qp:=hG.p i k
   have qg:=hG.g i
   have qh:=hG.h k
   have hbb:=bst_bd hG i k
   have hV0:((b2,valV (frt (grdA c l cols t) m i q) (m+1))::Lr)[0]?=some (b2,valV (frt (grdA c l cols t) m i q) (m+1)):=rfl
   repeat' (first|refine d1 ?_|refine dd ?_|(show ∀ _:Nat,T _ _ _ _ _;intro _))
   refine T_cutX 1 [19] (fun _:Unit=>[(19, .int .i64 (bst1 (grdA c l cols t) i k))]) (fun _=>[blks 3 ((b2,valV (frt (grdA c l cols t) m i q) (m+1))::Lr),blk b1 (List.replicate i (.slice none 0 0) ++ .slice (some ⟨b2,0,none⟩) (m+1) (m+1)::Lr.map (slv m)) 40,row 3 1 (some ⟨gn,0,none⟩) capn n (List.replicate n (.int .i64 (-1))),blk pc c.cells 23]) (fun _=>True) ?_ ?_
   ·refine T_if rfl (fun h5=>?_) (fun h5=>?_)
    ·simp only [Bool.and_eq_true,decide_eq_true_eq] at h5
     have hin:i<cols.length:=by omega
     have hkm:k<m:=by omega
     obtain⟨b,o,r,Au,capu,rfl,hgd,hco,hrl,hr0,hsr⟩:=hcolr hin
     obtain⟨⟨g1,c1⟩,hL0⟩:∃ x,Lr[0]?=some x:=⟨_,List.getElem?_eq_getElem (by omega)⟩
     have hc1:c1=_:=hRL _ _ hL0
     have hV1:((b2,valV (frt (grdA c l cols t) m i q) (m+1))::Lr)[1]?=some (g1,c1):=by simpa using hL0
     have ep:(grdA c l cols t).p i k=putC c l r t (k:Nat):=by show putC c l (cols.getD i []) t (k:Nat)=_;rw [hgd]
     rw [ep] at qp
     repeat' (first|refine d1 ?_|refine dd ?_|(show T _ (.ops _ (_::_)::_) _ _ _;first|refine T_call rfl rfl rfl rfl rfl (fun w hw=>put21_spec c A Au At n ca capu m ct l r t k w (hgr.cls hw) hc hbs (src_below hsr hw.below) hco (src_below hts hw.below) htl hm hte (by omega)) ?_|refine T_callC rfl rfl rfl rfl rfl rfl rfl (fun hg w hw=>put21_spec c A Au At n ca capu m ct l r t k w (hgr.cls hw) hc hbs (src_below hsr hw.below) hco (src_below hts hw.below) htl hm hte (by omega)) ?_|refine T_val rfl (Val.load rfl (fun hg=>rdOwn1 (u := .slice (some ⟨g1,0,none⟩) (m+1) (m+1)) (b:=b1) (by rw [show 0+((i:Int)+1).toNat * 1=i+1+0 by omega];exact hdr_get (by rw [List.getElem?_map,hL0];rfl)))) rfl rfl rfl ?_|refine T_valC rfl (Val.load rfl (fun hg=>rdOwn1 (u := .slice (some ⟨g1,0,none⟩) (m+1) (m+1)) (b:=b1) (by rw [show 0+((i:Int)+1).toNat * 1=i+1+0 by omega];exact hdr_get (by rw [List.getElem?_map,hL0];rfl)))) rfl rfl rfl rfl rfl ?_|refine T_val rfl (Val.load rfl (fun hg=>rdM (k:=1) (g:=g1) (vs:=[.int .i64 (rst (grdA c l cols t) (i+1) (k+1))]) hV1 (get1 (by rw [hc1];exact vget (k+1) (by omega) (by omega))))) rfl rfl rfl ?_|refine T_valC rfl (Val.load rfl (fun hg=>rdM (k:=1) (g:=g1) (vs:=[.int .i64 (rst (grdA c l cols t) (i+1) (k+1))]) hV1 (get1 (by rw [hc1];exact vget (k+1) (by omega) (by omega))))) rfl rfl rfl rfl rfl ?_)|(show T _ (.run _ _ (_::_) _ _::_) _ _ _;first|refine rc rfl rfl rfl rfl rfl rfl rfl (fun w hw=>put21_spec c A Au At n ca capu m ct l r t k w (hgr.cls hw) hc hbs (src_below hsr hw.below) hco (src_below hts hw.below) htl hm hte (by omega)) ?_|refine rcG rfl rfl rfl rfl rfl rfl rfl rfl rfl (fun hg w hw=>put21_spec c A Au At n ca capu m ct l r t k w (hgr.cls hw) hc hbs (src_below hsr hw.below) hco (src_below hts hw.below) htl hm hte (by omega)) ?_|refine rv rfl rfl rfl (Val.load rfl (fun hg=>rdOwn1 (u := .slice (some ⟨g1,0,none⟩) (m+1) (m+1)) (b:=b1) (by rw [show 0+((i:Int)+1).toNat * 1=i+1+0 by omega];exact hdr_get (by rw [List.getElem?_map,hL0];rfl)))) rfl rfl rfl ?_|refine rg rfl rfl rfl (Val.load rfl (fun hg=>rdOwn1 (u := .slice (some ⟨g1,0,none⟩) (m+1) (m+1)) (b:=b1) (by rw [show 0+((i:Int)+1).toNat * 1=i+1+0 by omega];exact hdr_get (by rw [List.getElem?_map,hL0];rfl)))) rfl rfl rfl rfl rfl ?_|refine rv rfl rfl rfl (Val.load rfl (fun hg=>rdM (k:=1) (g:=g1) (vs:=[.int .i64 (rst (grdA c l cols t) (i+1) (k+1))]) hV1 (get1 (by rw [hc1];exact vget (k+1) (by omega) (by omega))))) rfl rfl rfl ?_|refine rg rfl rfl rfl (Val.load rfl (fun hg=>rdM (k:=1) (g:=g1) (vs:=[.int .i64 (rst (grdA c l cols t) (i+1) (k+1))]) hV1 (get1 (by rw [hc1];exact vget (k+1) (by omega) (by omega))))) rfl rfl rfl rfl rfl ?_)|(show ∀ _:Nat,T _ _ _ _ _;intro _))
     exact T_meetX () trivial (hE:=⟨by unfold bst1;rw [if_pos ⟨by rw [e1];exact hin,by rw [e2];exact hkm⟩,ep];rfl,trivial⟩)
    ·have hno:¬ (i<(grdA c l cols t).n∧k<(grdA c l cols t).m):=fun h9=>by
      rw [e1,e2] at h9
      rw [decide_eq_true (show (i:Int)<cols.length by omega),decide_eq_true (show (k:Int)<m by omega)] at h5
      cases h5
     exact T_meetX () trivial (hE:=⟨by unfold bst1;rw [if_neg hno];rfl,trivial⟩)
   rintro⟨⟩ _
   repeat' (first|refine d1 ?_|refine dd ?_|(show ∀ _:Nat,T _ _ _ _ _;intro _))
   refine T_cutX 1 [19] (fun _:Unit=>[(19, .int .i64 (bst2 (grdA c l cols t) i k))]) (fun _=>[blks 3 ((b2,valV (frt (grdA c l cols t) m i q) (m+1))::Lr),blk b1 (List.replicate i (.slice none 0 0) ++ .slice (some ⟨b2,0,none⟩) (m+1) (m+1)::Lr.map (slv m)) 40,row 3 1 (some ⟨gn,0,none⟩) capn n (List.replicate n (.int .i64 (-1))),blk pc c.cells 23]) (fun _=>True) ?_ ?_
   ·refine T_if rfl (fun h5=>?_) (fun h5=>?_)
    ·simp only [decide_eq_true_eq] at h5
     have hin:i<cols.length:=by omega
     obtain⟨b,o,r,Au,capu,rfl,hgd,hco,hrl,hr0,hsr⟩:=hcolr hin
     obtain⟨⟨g1,c1⟩,hL0⟩:∃ x,Lr[0]?=some x:=⟨_,List.getElem?_eq_getElem (by omega)⟩
     have hc1:c1=_:=hRL _ _ hL0
     have hV1:((b2,valV (frt (grdA c l cols t) m i q) (m+1))::Lr)[1]?=some (g1,c1):=by simpa using hL0
     have eg:(grdA c l cols t).g i=putC c l r t (-1):=by show putC c l (cols.getD i []) t (-1)=_;rw [hgd]
     have es:bst2 (grdA c l cols t) i k=bst (bst1 (grdA c l cols t) i k) (putC c l r t (-1)+rst (grdA c l cols t) (i+1) k):=by unfold bst2;rw [if_pos (by rw [e1];exact hin),eg]
     rw [eg] at qg
     repeat' (first|refine d1 ?_|refine dd ?_|(show T _ (.ops _ (_::_)::_) _ _ _;first|refine T_call rfl rfl rfl rfl rfl (fun w hw=>put21_spec c A Au At n ca capu m ct l r t (-1) w (hgr.cls hw) hc hbs (src_below hsr hw.below) hco (src_below hts hw.below) htl hm hte (by omega)) ?_|refine T_callC rfl rfl rfl rfl rfl rfl rfl (fun hg w hw=>put21_spec c A Au At n ca capu m ct l r t (-1) w (hgr.cls hw) hc hbs (src_below hsr hw.below) hco (src_below hts hw.below) htl hm hte (by omega)) ?_|refine T_val rfl (Val.load rfl (fun hg=>rdOwn1 (u := .slice (some ⟨g1,0,none⟩) (m+1) (m+1)) (b:=b1) (by rw [show 0+((i:Int)+1).toNat * 1=i+1+0 by omega];exact hdr_get (by rw [List.getElem?_map,hL0];rfl)))) rfl rfl rfl ?_|refine T_valC rfl (Val.load rfl (fun hg=>rdOwn1 (u := .slice (some ⟨g1,0,none⟩) (m+1) (m+1)) (b:=b1) (by rw [show 0+((i:Int)+1).toNat * 1=i+1+0 by omega];exact hdr_get (by rw [List.getElem?_map,hL0];rfl)))) rfl rfl rfl rfl rfl ?_|refine T_val rfl (Val.load rfl (fun hg=>rdM (k:=1) (g:=g1) (vs:=[.int .i64 (rst (grdA c l cols t) (i+1) k)]) hV1 (get1 (by rw [hc1];exact vget k (by omega) (by omega))))) rfl rfl rfl ?_|refine T_valC rfl (Val.load rfl (fun hg=>rdM (k:=1) (g:=g1) (vs:=[.int .i64 (rst (grdA c l cols t) (i+1) k)]) hV1 (get1 (by rw [hc1];exact vget k (by omega) (by omega))))) rfl rfl rfl rfl rfl ?_)|(show T _ (.run _ _ (_::_) _ _::_) _ _ _;first|refine rc rfl rfl rfl rfl rfl rfl rfl (fun w hw=>put21_spec c A Au At n ca capu m ct l r t (-1) w (hgr.cls hw) hc hbs (src_below hsr hw.below) hco (src_below hts hw.below) htl hm hte (by omega)) ?_|refine rcG rfl rfl rfl rfl rfl rfl rfl rfl rfl (fun hg w hw=>put21_spec c A Au At n ca capu m ct l r t (-1) w (hgr.cls hw) hc hbs (src_below hsr hw.below) hco (src_below hts hw.below) htl hm hte (by omega)) ?_|refine rv rfl rfl rfl (Val.load rfl (fun hg=>rdOwn1 (u := .slice (some ⟨g1,0,none⟩) (m+1) (m+1)) (b:=b1) (by rw [show 0+((i:Int)+1).toNat * 1=i+1+0 by omega];exact hdr_get (by rw [List.getElem?_map,hL0];rfl)))) rfl rfl rfl ?_|refine rg rfl rfl rfl (Val.load rfl (fun hg=>rdOwn1 (u := .slice (some ⟨g1,0,none⟩) (m+1) (m+1)) (b:=b1) (by rw [show 0+((i:Int)+1).toNat * 1=i+1+0 by omega];exact hdr_get (by rw [List.getElem?_map,hL0];rfl)))) rfl rfl rfl rfl rfl ?_|refine rv rfl rfl rfl (Val.load rfl (fun hg=>rdM (k:=1) (g:=g1) (vs:=[.int .i64 (rst (grdA c l cols t) (i+1) k)]) hV1 (get1 (by rw [hc1];exact vget k (by omega) (by omega))))) rfl rfl rfl ?_|refine rg rfl rfl rfl (Val.load rfl (fun hg=>rdM (k:=1) (g:=g1) (vs:=[.int .i64 (rst (grdA c l cols t) (i+1) k)]) hV1 (get1 (by rw [hc1];exact vget k (by omega) (by omega))))) rfl rfl rfl rfl rfl ?_)|(show ∀ _:Nat,T _ _ _ _ _;intro _))
     refine T_if rfl (fun h6=>?_) (fun h6=>?_)
     ·simp only [Bool.or_eq_true,decide_eq_true_eq] at h6
      repeat' (first|refine d1 ?_|refine dd ?_|(show ∀ _:Nat,T _ _ _ _ _;intro _))
      exact T_meetX () trivial (hE:=⟨by rw [es];unfold bst;rw [if_pos h6];rfl,trivial⟩)
     ·simp only [Bool.or_eq_false_iff,decide_eq_false_iff_not] at h6
      exact T_meetX () trivial (hE:=⟨by rw [es];unfold bst;rw [if_neg (fun h9=>h9.elim h6.1 h6.2)];rfl,trivial⟩)
    ·simp only [decide_eq_false_iff_not] at h5
     exact T_meetX () trivial (hE:=⟨by unfold bst2;rw [if_neg (by rw [e1];omega)];rfl,trivial⟩)
   rintro⟨⟩ _
   repeat' (first|refine d1 ?_|refine dd ?_|(show ∀ _:Nat,T _ _ _ _ _;intro _))
   refine T_cutX 1 [19] (fun _:Unit=>[(19, .int .i64 (bst3 (grdA c l cols t) i k))]) (fun _=>[blks 3 ((b2,valV (frt (grdA c l cols t) m i q) (m+1))::Lr),blk b1 (List.replicate i (.slice none 0 0) ++ .slice (some ⟨b2,0,none⟩) (m+1) (m+1)::Lr.map (slv m)) 40,row 3 1 (some ⟨gn,0,none⟩) capn n (List.replicate n (.int .i64 (-1))),blk pc c.cells 23]) (fun _=>True) ?_ ?_
   ·refine T_if rfl (fun h5=>?_) (fun h5=>?_)
    ·simp only [decide_eq_true_eq] at h5
     have hkm:k<m:=by omega
     have eh:(grdA c l cols t).h k=putC c l (noneC l.length) t (k:Nat):=rfl
     have es:bst3 (grdA c l cols t) i k=bst (bst2 (grdA c l cols t) i k) (putC c l (noneC l.length) t (k:Nat)+rst (grdA c l cols t) i (k+1)):=by unfold bst3;rw [if_pos (by rw [e2];exact hkm),eh]
     rw [eh] at qh
     repeat' (first|refine d1 ?_|refine dd ?_|(show T _ (.ops _ (_::_)::_) _ _ _;first|refine T_call rfl rfl rfl rfl rfl (fun w hw=>put21_spec c A (some ⟨gn,0,none⟩) At n ca capn m ct l (noneC l.length) t k w (hgr.cls hw) hc hbs (by rw [hnn];exact srcRw w hw) (noneC_ok l) (src_below hts hw.below) htl hm hte (by omega)) ?_|refine T_callC rfl rfl rfl rfl rfl rfl rfl (fun hg w hw=>put21_spec c A (some ⟨gn,0,none⟩) At n ca capn m ct l (noneC l.length) t k w (hgr.cls hw) hc hbs (by rw [hnn];exact srcRw w hw) (noneC_ok l) (src_below hts hw.below) htl hm hte (by omega)) ?_|refine T_val rfl (Val.load rfl (fun hg=>rdOwn1 (u := .slice (some ⟨b2,0,none⟩) (m+1) (m+1)) (b:=b1) (by rw [show 0+(i:Int).toNat * 1=i by omega];exact hdr_mid _ _ _ _))) rfl rfl rfl ?_|refine T_valC rfl (Val.load rfl (fun hg=>rdOwn1 (u := .slice (some ⟨b2,0,none⟩) (m+1) (m+1)) (b:=b1) (by rw [show 0+(i:Int).toNat * 1=i by omega];exact hdr_mid _ _ _ _))) rfl rfl rfl rfl rfl ?_|refine T_val rfl (Val.load rfl (fun hg=>rdM (k:=0) (g:=b2) (vs:=[.int .i64 (rst (grdA c l cols t) i (k+1))]) hV0 (get1 (by rw [← show frt (grdA c l cols t) m i q (k+1)=rst (grdA c l cols t) i (k+1) from if_pos (by omega)];exact vget (k+1) (by omega) (by omega))))) rfl rfl rfl ?_|refine T_valC rfl (Val.load rfl (fun hg=>rdM (k:=0) (g:=b2) (vs:=[.int .i64 (rst (grdA c l cols t) i (k+1))]) hV0 (get1 (by rw [← show frt (grdA c l cols t) m i q (k+1)=rst (grdA c l cols t) i (k+1) from if_pos (by omega)];exact vget (k+1) (by omega) (by omega))))) rfl rfl rfl rfl rfl ?_)|(show T _ (.run _ _ (_::_) _ _::_) _ _ _;first|refine rc rfl rfl rfl rfl rfl rfl rfl (fun w hw=>put21_spec c A (some ⟨gn,0,none⟩) At n ca capn m ct l (noneC l.length) t k w (hgr.cls hw) hc hbs (by rw [hnn];exact srcRw w hw) (noneC_ok l) (src_below hts hw.below) htl hm hte (by omega)) ?_|refine rcG rfl rfl rfl rfl rfl rfl rfl rfl rfl (fun hg w hw=>put21_spec c A (some ⟨gn,0,none⟩) At n ca capn m ct l (noneC l.length) t k w (hgr.cls hw) hc hbs (by rw [hnn];exact srcRw w hw) (noneC_ok l) (src_below hts hw.below) htl hm hte (by omega)) ?_|refine rv rfl rfl rfl (Val.load rfl (fun hg=>rdOwn1 (u := .slice (some ⟨b2,0,none⟩) (m+1) (m+1)) (b:=b1) (by rw [show 0+(i:Int).toNat * 1=i by omega];exact hdr_mid _ _ _ _))) rfl rfl rfl ?_|refine rg rfl rfl rfl (Val.load rfl (fun hg=>rdOwn1 (u := .slice (some ⟨b2,0,none⟩) (m+1) (m+1)) (b:=b1) (by rw [show 0+(i:Int).toNat * 1=i by omega];exact hdr_mid _ _ _ _))) rfl rfl rfl rfl rfl ?_|refine rv rfl rfl rfl (Val.load rfl (fun hg=>rdM (k:=0) (g:=b2) (vs:=[.int .i64 (rst (grdA c l cols t) i (k+1))]) hV0 (get1 (by rw [← show frt (grdA c l cols t) m i q (k+1)=rst (grdA c l cols t) i (k+1) from if_pos (by omega)];exact vget (k+1) (by omega) (by omega))))) rfl rfl rfl ?_|refine rg rfl rfl rfl (Val.load rfl (fun hg=>rdM (k:=0) (g:=b2) (vs:=[.int .i64 (rst (grdA c l cols t) i (k+1))]) hV0 (get1 (by rw [← show frt (grdA c l cols t) m i q (k+1)=rst (grdA c l cols t) i (k+1) from if_pos (by omega)];exact vget (k+1) (by omega) (by omega))))) rfl rfl rfl rfl rfl ?_)|(show ∀ _:Nat,T _ _ _ _ _;intro _))
     refine T_if rfl (fun h6=>?_) (fun h6=>?_)
     ·simp only [Bool.or_eq_true,decide_eq_true_eq] at h6
      repeat' (first|refine d1 ?_|refine dd ?_|(show ∀ _:Nat,T _ _ _ _ _;intro _))
      exact T_meetX () trivial (hE:=⟨by rw [es];unfold bst;rw [if_pos h6];rfl,trivial⟩)
     ·simp only [Bool.or_eq_false_iff,decide_eq_false_iff_not] at h6
      exact T_meetX () trivial (hE:=⟨by rw [es];unfold bst;rw [if_neg (fun h9=>h9.elim h6.1 h6.2)];rfl,trivial⟩)
    ·simp only [decide_eq_false_iff_not] at h5
     exact T_meetX () trivial (hE:=⟨by unfold bst3;rw [if_neg (by rw [e2];omega)];rfl,trivial⟩)
   rintro⟨⟩ _
   repeat' (first|refine d1 ?_|refine dd ?_|(show T _ (.ops _ (_::_)::_) _ _ _;first|refine T_val rfl (Val.load rfl (fun hg=>rdOwn1 (u := .slice (some ⟨b2,0,none⟩) (m+1) (m+1)) (b:=b1) (by rw [show 0+(i:Int).toNat * 1=i by omega];exact hdr_mid _ _ _ _))) rfl rfl rfl ?_|refine T_valC rfl (Val.load rfl (fun hg=>rdOwn1 (u := .slice (some ⟨b2,0,none⟩) (m+1) (m+1)) (b:=b1) (by rw [show 0+(i:Int).toNat * 1=i by omega];exact hdr_mid _ _ _ _))) rfl rfl rfl rfl rfl ?_|refine T_op (OpT.storeM rfl rfl rfl hV0 rfl (by rw [valV_length];omega) ?_))|(show T _ (.run _ _ (_::_) _ _::_) _ _ _;first|refine rv rfl rfl rfl (Val.load rfl (fun hg=>rdOwn1 (u := .slice (some ⟨b2,0,none⟩) (m+1) (m+1)) (b:=b1) (by rw [show 0+(i:Int).toNat * 1=i by omega];exact hdr_mid _ _ _ _))) rfl rfl rfl ?_|refine rg rfl rfl rfl (Val.load rfl (fun hg=>rdOwn1 (u := .slice (some ⟨b2,0,none⟩) (m+1) (m+1)) (b:=b1) (by rw [show 0+(i:Int).toNat * 1=i by omega];exact hdr_mid _ _ _ _))) rfl rfl rfl rfl rfl ?_)|(show ∀ _:Nat,T _ _ _ _ _;intro _))
   rw [show 0+(k:Int).toNat * 1=k by omega,bst_rst hG]
   exact T_backX (q+1) (by omega) (by omega) (hE:=⟨by rw [show (m:Int) - ((q+1:Nat):Int)=(k:Int) - 1 by omega];rfl,trivial⟩) (hG:=by rw [← frt_succ (grdA c l cols t) (i:=i) hk];exact Hle.refl _)
  ·simp only [decide_eq_false_iff_not] at h4
   obtain rfl:q=m+1:=by omega
   repeat' (first|refine d1 ?_|refine dd ?_|(show ∀ _:Nat,T _ _ _ _ _;intro _))
   refine T_backX ((b2,valV (rst (grdA c l cols t) i) (m+1))::Lr) ⟨by simp;omega,fun j x hx=>?_⟩ (by simp;omega) (hE:=⟨by rw [show (cols.length:Int) - (((b2,valV (rst (grdA c l cols t) i) (m+1))::Lr).length:Int)=(i:Int) - 1 by simp;omega];rfl,trivial⟩) (hG:=?_)
   ·dsimp only
    rw [show cols.length+1 - ((b2,valV (rst (grdA c l cols t) i) (m+1))::Lr).length+j=i+j by simp;omega]
    cases j with
    | zero=>simp at hx;subst hx;rfl
    | succ j =>
     have:=hRL j x (by simpa using hx)
     rw [this]
     show valV (rst (grdA c l cols t) (i+1+j)) _=_
     rw [show i+1+j=i+(j+1) by omega]
   ·rw [show cols.length+1 - ((b2,valV (rst (grdA c l cols t) i) (m+1))::Lr).length=i by simp;omega,frt_all]
    exact Hle.refl _
 simp only [decide_eq_false_iff_not] at h3
 have hLn:Lr.length=cols.length+1:=by omega
 rw [show cols.length+1 - Lr.length=0 by omega] at hRL ⊢
 have hR':RowsOk (rst (grdA c l cols t)) (m+1) Lr:=fun j x hx=>by
  have:=hRL j x hx
  rw [this]
  show valV (rst (grdA c l cols t) (0+j)) _=_
  rw [Nat.zero_add]
 refine T_le ((Hle.weaken (i:=1) (K:=[blks 3 Lr,row 40 1 (some ⟨b1,0,none⟩) (cols.length+1) (cols.length+1) (Lr.map (slv m)),row 3 1 (some ⟨gn,0,none⟩) capn n (List.replicate n (.int .i64 (-1))),blk pc c.cells 23]) rfl (blk_row (sz:=1) (n:=cols.length+1) (by simp;omega) (by simp only [maxLen];omega)) rfl).trans (tbl_hle hm hLn hR')) ?_
 refine T_open fun pt hpt=>?_
 obtain⟨Agt,capt,cst,he,-,-,-,hAt,hrt⟩:=hpt.tab
 rw [tabR_length] at hAt he
 simp only [Value.slice.injEq,true_and] at he
 obtain⟨rfl,rfl⟩:=he
 obtain⟨bt,ot,hbo,hbt⟩:=hAt (by omega)
 simp only [Option.some.injEq,Addr.mk.injEq,and_true] at hbo
 obtain⟨rfl,rfl⟩:=hbo
 repeat' (first|refine d1 ?_|refine dd ?_|(show ∀ _:Nat,T _ _ _ _ _;intro _))
 rename_i b5
 refine T_keep [(1, .slice A n ca),(2, .slice Ak cols.length ck),(3, .slice At m ct),(4, .pointer (some ⟨pc,0,none⟩)),(12, .int .i64 cols.length),(13, .int .i64 m),(14, .slice (some ⟨gn,0,none⟩) n capn),(16, .slice (some ⟨b1,0,none⟩) (cols.length+1) (cols.length+1)),(22, .slice (some ⟨b5,0,none⟩) 0 0),(23, .int .i64 0),(24, .int .i64 0)] ⟨rfl,rfl,rfl,rfl,rfl,rfl,rfl,rfl,rfl,rfl,rfl,trivial⟩ ?_
 refine T_le (H':=[row 40 1 (some ⟨b5,0,none⟩) 0 0 [],dat [] [],fz pt,row 3 1 (some ⟨gn,0,none⟩) capn n (List.replicate n (.int .i64 (-1))),blk pc c.cells 23]) ((Hle.weaken (i:=0) rfl (blk_row (sz:=1) (n:=0) rfl (by simp only [maxLen];omega)) rfl).trans ((dat_nil _).trans (Hle.perm (List.Perm.swap _ _ _)))) ?_
 refine T_loopX (fun x:Nat × Nat × (Option Addr × Nat) × List Value × List (List Int)=>[(23, .int .i64 x.1),(24, .int .i64 x.2.1),(22, .slice x.2.2.1.1 x.2.2.2.2.length x.2.2.1.2)]) (fun x=>[row 40 1 x.2.2.1.1 x.2.2.1.2 x.2.2.2.2.length x.2.2.2.1,dat x.2.2.2.1 (x.2.2.2.2.map intsD),fz pt,row 3 1 (some ⟨gn,0,none⟩) capn n (List.replicate n (.int .i64 (-1))),blk pc c.cells 23]) (fun x=>x.1≤cols.length∧x.2.1≤m∧x.2.2.2.2.length≤x.1+x.2.1∧addV c l cols t 0 0=x.2.2.2.2++addV c l cols t x.1 x.2.1) (fun x=>(cols.length - x.1)+(m - x.2.1)) (0,0,(some ⟨b5,0,none⟩,0),[],[]) ⟨Nat.zero_le _,Nat.zero_le _,Nat.zero_le _,rfl⟩ ?_
 rintro⟨i,k,⟨Ao,capo⟩,hs,out⟩ ⟨hi,hk,hlo,hout⟩
 dsimp only at hi hk hlo hout ⊢
 repeat' (first|refine d1 ?_|refine dd ?_|(show ∀ _:Nat,T _ _ _ _ _;intro _))
 refine T_if rfl (fun h3=>?_) (fun h3=>?_)
 ·have h3':i<cols.length∨k<m:=by simpa using h3
  have q1:=hA.rst (i+1) (k+1)
  have q2:=hA.rst (i+1) k
  have q3:=hA.rst i k
  have qp:=hG.p i k
  have qg:=hG.g i
  obtain⟨Ar0,capr0,hcr0,-,-,hAr0⟩:=hrt.tabRow (tabR_get hi)
  rw [List.length_map,List.length_range] at hcr0 hAr0
  obtain⟨br0,or0,rfl,hbr0⟩:=hAr0 (by omega)
  refine T_cutX 1 [192] (fun vb:Bool=>[(192, .bool vb)]) (fun _=>[row 40 1 Ao capo out.length hs,dat hs (out.map intsD),fz pt,row 3 1 (some ⟨gn,0,none⟩) capn n (List.replicate n (.int .i64 (-1))),blk pc c.cells 23]) (fun vb=>vb=decide ((i<cols.length∧k<m)∧(grdA c l cols t).p i k+rst (grdA c l cols t) (i+1) (k+1)=rst (grdA c l cols t) i k)) ?_ ?_
  ·by_cases hik:i<cols.length∧k<m
   ·obtain⟨b,o,r,Au,capu,rfl,hgd,hco,hrl,hr0,hsr⟩:=hcolr hik.1
    have ep:(grdA c l cols t).p i k=putC c l r t (k:Nat):=by show putC c l (cols.getD i []) t (k:Nat)=_;rw [hgd]
    rw [ep] at qp
    obtain⟨Ar1,capr1,hcr1,-,-,hAr1⟩:=hrt.tabRow (tabR_get (show i+1≤cols.length by omega))
    rw [List.length_map,List.length_range] at hcr1 hAr1
    obtain⟨br1,or1,rfl,hbr1⟩:=hAr1 (by omega)
    repeat' (first|refine d1 ?_|refine dd ?_|(show T _ (.ops _ (_::_)::_) _ _ _;first|refine T_call rfl rfl rfl rfl rfl (fun w hw=>put21_spec c A Au At n ca capu m ct l r t k w (hgr.cls ‹_›) hc hbs (src_below hsr (Cls.below ‹_›)) hco (src_below hts (Cls.below ‹_›)) htl hm hte (by omega)) ?_|refine T_callC rfl rfl rfl rfl rfl rfl rfl (fun hg w hw=>put21_spec c A Au At n ca capu m ct l r t k w (hgr.cls ‹_›) hc hbs (src_below hsr (Cls.below ‹_›)) hco (src_below hts (Cls.below ‹_›)) htl hm hte (by omega)) ?_|refine T_val rfl (Val.load rfl (fun hg=>rdFz (p:=pt) (u := .slice (some ⟨br1,or1,none⟩) (m+1) capr1) (b:=b1) (by rw [show 0+((i:Int)+1).toNat * 1=0+(i+1) by omega];exact hbt _ _ hcr1))) rfl rfl rfl ?_|refine T_valC rfl (Val.load rfl (fun hg=>rdFz (p:=pt) (u := .slice (some ⟨br1,or1,none⟩) (m+1) capr1) (b:=b1) (by rw [show 0+((i:Int)+1).toNat * 1=0+(i+1) by omega];exact hbt _ _ hcr1))) rfl rfl rfl rfl rfl ?_|refine T_val rfl (Val.load rfl (fun hg=>rdFz (p:=pt) (u := .int .i64 (rst (grdA c l cols t) (i+1) (k+1))) (b:=br1) (by rw [show or1+((k:Int)+1).toNat * 1=or1+(k+1) by omega];exact hbr1 _ _ (tabR_cell (by omega))))) rfl rfl rfl ?_|refine T_valC rfl (Val.load rfl (fun hg=>rdFz (p:=pt) (u := .int .i64 (rst (grdA c l cols t) (i+1) (k+1))) (b:=br1) (by rw [show or1+((k:Int)+1).toNat * 1=or1+(k+1) by omega];exact hbr1 _ _ (tabR_cell (by omega))))) rfl rfl rfl rfl rfl ?_|refine T_val rfl (Val.load rfl (fun hg=>rdFz (p:=pt) (u := .slice (some ⟨br0,or0,none⟩) (m+1) capr0) (b:=b1) (by rw [off1];exact hbt _ _ hcr0))) rfl rfl rfl ?_|refine T_valC rfl (Val.load rfl (fun hg=>rdFz (p:=pt) (u := .slice (some ⟨br0,or0,none⟩) (m+1) capr0) (b:=b1) (by rw [off1];exact hbt _ _ hcr0))) rfl rfl rfl rfl rfl ?_|refine T_val rfl (Val.load rfl (fun hg=>rdFz (p:=pt) (u := .int .i64 (rst (grdA c l cols t) i k)) (b:=br0) (by rw [off1];exact hbr0 _ _ (tabR_cell hk)))) rfl rfl rfl ?_|refine T_valC rfl (Val.load rfl (fun hg=>rdFz (p:=pt) (u := .int .i64 (rst (grdA c l cols t) i k)) (b:=br0) (by rw [off1];exact hbr0 _ _ (tabR_cell hk)))) rfl rfl rfl rfl rfl ?_)|(show T _ (.run _ _ (_::_) _ _::_) _ _ _;first|refine rc rfl rfl rfl rfl rfl rfl rfl (fun w hw=>put21_spec c A Au At n ca capu m ct l r t k w (hgr.cls ‹_›) hc hbs (src_below hsr (Cls.below ‹_›)) hco (src_below hts (Cls.below ‹_›)) htl hm hte (by omega)) ?_|refine rcG rfl rfl rfl rfl rfl rfl rfl rfl rfl (fun hg w hw=>put21_spec c A Au At n ca capu m ct l r t k w (hgr.cls ‹_›) hc hbs (src_below hsr (Cls.below ‹_›)) hco (src_below hts (Cls.below ‹_›)) htl hm hte (by omega)) ?_|refine rv rfl rfl rfl (Val.load rfl (fun hg=>rdFz (p:=pt) (u := .slice (some ⟨br1,or1,none⟩) (m+1) capr1) (b:=b1) (by rw [show 0+((i:Int)+1).toNat * 1=0+(i+1) by omega];exact hbt _ _ hcr1))) rfl rfl rfl ?_|refine rg rfl rfl rfl (Val.load rfl (fun hg=>rdFz (p:=pt) (u := .slice (some ⟨br1,or1,none⟩) (m+1) capr1) (b:=b1) (by rw [show 0+((i:Int)+1).toNat * 1=0+(i+1) by omega];exact hbt _ _ hcr1))) rfl rfl rfl rfl rfl ?_|refine rv rfl rfl rfl (Val.load rfl (fun hg=>rdFz (p:=pt) (u := .int .i64 (rst (grdA c l cols t) (i+1) (k+1))) (b:=br1) (by rw [show or1+((k:Int)+1).toNat * 1=or1+(k+1) by omega];exact hbr1 _ _ (tabR_cell (by omega))))) rfl rfl rfl ?_|refine rg rfl rfl rfl (Val.load rfl (fun hg=>rdFz (p:=pt) (u := .int .i64 (rst (grdA c l cols t) (i+1) (k+1))) (b:=br1) (by rw [show or1+((k:Int)+1).toNat * 1=or1+(k+1) by omega];exact hbr1 _ _ (tabR_cell (by omega))))) rfl rfl rfl rfl rfl ?_|refine rv rfl rfl rfl (Val.load rfl (fun hg=>rdFz (p:=pt) (u := .slice (some ⟨br0,or0,none⟩) (m+1) capr0) (b:=b1) (by rw [off1];exact hbt _ _ hcr0))) rfl rfl rfl ?_|refine rg rfl rfl rfl (Val.load rfl (fun hg=>rdFz (p:=pt) (u := .slice (some ⟨br0,or0,none⟩) (m+1) capr0) (b:=b1) (by rw [off1];exact hbt _ _ hcr0))) rfl rfl rfl rfl rfl ?_|refine rv rfl rfl rfl (Val.load rfl (fun hg=>rdFz (p:=pt) (u := .int .i64 (rst (grdA c l cols t) i k)) (b:=br0) (by rw [off1];exact hbr0 _ _ (tabR_cell hk)))) rfl rfl rfl ?_|refine rg rfl rfl rfl (Val.load rfl (fun hg=>rdFz (p:=pt) (u := .int .i64 (rst (grdA c l cols t) i k)) (b:=br0) (by rw [off1];exact hbr0 _ _ (tabR_cell hk)))) rfl rfl rfl rfl rfl ?_)|(show ∀ _:Nat,T _ _ _ _ _;intro _))
    refine T_meetX _ ?_ (hE:=⟨rfl,trivial⟩)
    rw [ep]
    have q8:(decide ((i:Int)<cols.length))=true:=decide_eq_true (by omega)
    have q9:(decide ((k:Int)<m))=true:=decide_eq_true (by omega)
    simp only [q8,q9,Bool.true_and,hik,and_self,true_and]
   ·repeat' (first|refine d1 ?_|refine dd ?_|(show T _ (.ops _ (_::_)::_) _ _ _;first|refine T_val rfl (Val.neverP rfl (fun hg=>by exfalso;first|((simp only [List.cons_append,List.nil_append,GP,dstL,lookE,Nat.beq,cond,List.getElem?_cons_zero,List.getElem?_cons_succ,Option.bind_some,and_true,Bool.and_eq_true,Bool.or_eq_true,Bool.and_eq_false_iff,Bool.or_eq_false_iff,Bool.not_eq_true',Bool.not_eq_false',decide_eq_true_eq,decide_eq_false_iff_not] at hg);done)|((simp only [List.cons_append,List.nil_append,GP,dstL,lookE,Nat.beq,cond,List.getElem?_cons_zero,List.getElem?_cons_succ,Option.bind_some,and_true,Bool.and_eq_true,Bool.or_eq_true,Bool.and_eq_false_iff,Bool.or_eq_false_iff,Bool.not_eq_true',Bool.not_eq_false',decide_eq_true_eq,decide_eq_false_iff_not] at hg);omega))) rfl rfl rfl ?_|refine T_valC rfl (Val.neverP rfl (fun hg=>by exfalso;first|((simp only [List.cons_append,List.nil_append,GP,dstL,lookE,Nat.beq,cond,List.getElem?_cons_zero,List.getElem?_cons_succ,Option.bind_some,and_true,Bool.and_eq_true,Bool.or_eq_true,Bool.and_eq_false_iff,Bool.or_eq_false_iff,Bool.not_eq_true',Bool.not_eq_false',decide_eq_true_eq,decide_eq_false_iff_not] at hg);done)|((simp only [List.cons_append,List.nil_append,GP,dstL,lookE,Nat.beq,cond,List.getElem?_cons_zero,List.getElem?_cons_succ,Option.bind_some,and_true,Bool.and_eq_true,Bool.or_eq_true,Bool.and_eq_false_iff,Bool.or_eq_false_iff,Bool.not_eq_true',Bool.not_eq_false',decide_eq_true_eq,decide_eq_false_iff_not] at hg);omega))) rfl rfl rfl rfl rfl ?_|refine T_val rfl (Val.neverI rfl (fun hg=>by exfalso;first|((simp only [List.cons_append,List.nil_append,GP,dstL,lookE,Nat.beq,cond,List.getElem?_cons_zero,List.getElem?_cons_succ,Option.bind_some,and_true,Bool.and_eq_true,Bool.or_eq_true,Bool.and_eq_false_iff,Bool.or_eq_false_iff,Bool.not_eq_true',Bool.not_eq_false',decide_eq_true_eq,decide_eq_false_iff_not] at hg);done)|((simp only [List.cons_append,List.nil_append,GP,dstL,lookE,Nat.beq,cond,List.getElem?_cons_zero,List.getElem?_cons_succ,Option.bind_some,and_true,Bool.and_eq_true,Bool.or_eq_true,Bool.and_eq_false_iff,Bool.or_eq_false_iff,Bool.not_eq_true',Bool.not_eq_false',decide_eq_true_eq,decide_eq_false_iff_not] at hg);omega))) rfl rfl rfl ?_|refine T_valC rfl (Val.neverI rfl (fun hg=>by exfalso;first|((simp only [List.cons_append,List.nil_append,GP,dstL,lookE,Nat.beq,cond,List.getElem?_cons_zero,List.getElem?_cons_succ,Option.bind_some,and_true,Bool.and_eq_true,Bool.or_eq_true,Bool.and_eq_false_iff,Bool.or_eq_false_iff,Bool.not_eq_true',Bool.not_eq_false',decide_eq_true_eq,decide_eq_false_iff_not] at hg);done)|((simp only [List.cons_append,List.nil_append,GP,dstL,lookE,Nat.beq,cond,List.getElem?_cons_zero,List.getElem?_cons_succ,Option.bind_some,and_true,Bool.and_eq_true,Bool.or_eq_true,Bool.and_eq_false_iff,Bool.or_eq_false_iff,Bool.not_eq_true',Bool.not_eq_false',decide_eq_true_eq,decide_eq_false_iff_not] at hg);omega))) rfl rfl rfl rfl rfl ?_)|(show T _ (.run _ _ (_::_) _ _::_) _ _ _;first|refine rv rfl rfl rfl (Val.neverP rfl (fun hg=>by exfalso;first|((simp only [List.cons_append,List.nil_append,GP,dstL,lookE,Nat.beq,cond,List.getElem?_cons_zero,List.getElem?_cons_succ,Option.bind_some,and_true,Bool.and_eq_true,Bool.or_eq_true,Bool.and_eq_false_iff,Bool.or_eq_false_iff,Bool.not_eq_true',Bool.not_eq_false',decide_eq_true_eq,decide_eq_false_iff_not] at hg);done)|((simp only [List.cons_append,List.nil_append,GP,dstL,lookE,Nat.beq,cond,List.getElem?_cons_zero,List.getElem?_cons_succ,Option.bind_some,and_true,Bool.and_eq_true,Bool.or_eq_true,Bool.and_eq_false_iff,Bool.or_eq_false_iff,Bool.not_eq_true',Bool.not_eq_false',decide_eq_true_eq,decide_eq_false_iff_not] at hg);omega))) rfl rfl rfl ?_|refine rg rfl rfl rfl (Val.neverP rfl (fun hg=>by exfalso;first|((simp only [List.cons_append,List.nil_append,GP,dstL,lookE,Nat.beq,cond,List.getElem?_cons_zero,List.getElem?_cons_succ,Option.bind_some,and_true,Bool.and_eq_true,Bool.or_eq_true,Bool.and_eq_false_iff,Bool.or_eq_false_iff,Bool.not_eq_true',Bool.not_eq_false',decide_eq_true_eq,decide_eq_false_iff_not] at hg);done)|((simp only [List.cons_append,List.nil_append,GP,dstL,lookE,Nat.beq,cond,List.getElem?_cons_zero,List.getElem?_cons_succ,Option.bind_some,and_true,Bool.and_eq_true,Bool.or_eq_true,Bool.and_eq_false_iff,Bool.or_eq_false_iff,Bool.not_eq_true',Bool.not_eq_false',decide_eq_true_eq,decide_eq_false_iff_not] at hg);omega))) rfl rfl rfl rfl rfl ?_|refine rv rfl rfl rfl (Val.neverI rfl (fun hg=>by exfalso;first|((simp only [List.cons_append,List.nil_append,GP,dstL,lookE,Nat.beq,cond,List.getElem?_cons_zero,List.getElem?_cons_succ,Option.bind_some,and_true,Bool.and_eq_true,Bool.or_eq_true,Bool.and_eq_false_iff,Bool.or_eq_false_iff,Bool.not_eq_true',Bool.not_eq_false',decide_eq_true_eq,decide_eq_false_iff_not] at hg);done)|((simp only [List.cons_append,List.nil_append,GP,dstL,lookE,Nat.beq,cond,List.getElem?_cons_zero,List.getElem?_cons_succ,Option.bind_some,and_true,Bool.and_eq_true,Bool.or_eq_true,Bool.and_eq_false_iff,Bool.or_eq_false_iff,Bool.not_eq_true',Bool.not_eq_false',decide_eq_true_eq,decide_eq_false_iff_not] at hg);omega))) rfl rfl rfl ?_|refine rg rfl rfl rfl (Val.neverI rfl (fun hg=>by exfalso;first|((simp only [List.cons_append,List.nil_append,GP,dstL,lookE,Nat.beq,cond,List.getElem?_cons_zero,List.getElem?_cons_succ,Option.bind_some,and_true,Bool.and_eq_true,Bool.or_eq_true,Bool.and_eq_false_iff,Bool.or_eq_false_iff,Bool.not_eq_true',Bool.not_eq_false',decide_eq_true_eq,decide_eq_false_iff_not] at hg);done)|((simp only [List.cons_append,List.nil_append,GP,dstL,lookE,Nat.beq,cond,List.getElem?_cons_zero,List.getElem?_cons_succ,Option.bind_some,and_true,Bool.and_eq_true,Bool.or_eq_true,Bool.and_eq_false_iff,Bool.or_eq_false_iff,Bool.not_eq_true',Bool.not_eq_false',decide_eq_true_eq,decide_eq_false_iff_not] at hg);omega))) rfl rfl rfl rfl rfl ?_|refine ro rfl rfl (OpT.never (.int .i64 0) rfl (fun hg=>by exfalso;first|((simp only [List.cons_append,List.nil_append,GP,dstL,lookE,Nat.beq,cond,List.getElem?_cons_zero,List.getElem?_cons_succ,Option.bind_some,and_true,Bool.and_eq_true,Bool.or_eq_true,Bool.and_eq_false_iff,Bool.or_eq_false_iff,Bool.not_eq_true',Bool.not_eq_false',decide_eq_true_eq,decide_eq_false_iff_not] at hg);done)|((simp only [List.cons_append,List.nil_append,GP,dstL,lookE,Nat.beq,cond,List.getElem?_cons_zero,List.getElem?_cons_succ,Option.bind_some,and_true,Bool.and_eq_true,Bool.or_eq_true,Bool.and_eq_false_iff,Bool.or_eq_false_iff,Bool.not_eq_true',Bool.not_eq_false',decide_eq_true_eq,decide_eq_false_iff_not] at hg);omega)) rfl rfl rfl rfl rfl ⟨fun _=>Hle.sub,?_⟩))|(show ∀ _:Nat,T _ _ _ _ _;intro _))
    refine T_meetX _ ?_ (hE:=⟨rfl,trivial⟩)
    have q8:(decide ((i:Int)<cols.length) && decide ((k:Int)<m))=false:=by
     rw [Bool.eq_false_iff]
     intro h9
     simp only [Bool.and_eq_true,decide_eq_true_eq] at h9
     exact hik ⟨by omega,by omega⟩
    rw [q8,Bool.false_and,decide_eq_false (fun h9=>hik h9.1)]
  ·rintro vb hvb
   refine T_if rfl (fun h4=>?_) (fun h4=>?_)
   ·rw [h4] at hvb
    have h4':=of_decide_eq_true hvb.symm
    have hst:=addV_step (fst_11 (G:=grdA c l cols t) (i:=i) (k:=k) h4'.1.1 (by rw [e2];exact h4'.1.2) h4'.2)
    obtain⟨b,o,r,Au,capu,rfl,hgd,hco,hrl,hr0,hsr⟩:=hcolr h4'.1.1
    have ecl:colM l.length cols i k ⟨1,1,(grdA c l cols t).p i k⟩=r++[(k:Int)]:=by
     unfold colM
     rw [if_pos rfl,if_pos rfl,hgd]
    rw [hst,ecl] at hout
    repeat' (first|refine d1 ?_|refine dd ?_|(show ∀ _:Nat,T _ _ _ _ _;intro _))
    rename_i b6
    refine T_le (H':=[row 3 1 (some ⟨b6,0,none⟩) 0 0 [],row 40 1 Ao capo out.length hs,dat hs (out.map intsD),fz pt,row 3 1 (some ⟨gn,0,none⟩) capn n (List.replicate n (.int .i64 (-1))),blk pc c.cells 23]) (Hle.weaken (i:=0) rfl (blk_row (sz:=1) (n:=0) rfl (by simp only [maxLen];omega)) rfl) ?_
    repeat' (first|refine d1 ?_|refine dd ?_|(show T _ (.ops _ (_::_)::_) _ _ _;first|refine T_op (OpT.append (A:=some ⟨b6,0,none⟩) rfl rfl rfl rfl rfl rfl rfl rfl rfl rfl (fun w hw=>src_below hsr hw.below) (oneInts r) (by dsimp only;omega) (by omega) (fun A6 cap6 hA6=>?_))|refine T_op (OpT.append (A:=A6) rfl rfl rfl rfl rfl rfl rfl rfl rfl rfl (fun w hw=>Src.own hw rfl) rfl (by dsimp only;omega) (by omega) (fun A7 cap7 hA7=>?_))|refine T_op (OpT.append (A:=Ao) rfl rfl rfl rfl rfl rfl rfl rfl rfl rfl (fun w hw=>Src.own hw rfl) rfl (by dsimp only;omega) (by omega) (fun A8 cap8 hA8=>?_)))|(show ∀ _:Nat,T _ _ _ _ _;intro _))
    refine T_backX (i+1,k+1,(A8,cap8),hs++[.slice A7 (0+n+1) cap7],out++[r++[(k:Int)]]) ⟨by dsimp only;omega,by dsimp only;omega,by dsimp only;rw [List.length_append];simp;omega,by dsimp only;rw [List.append_assoc];exact hout⟩ (by dsimp only;omega) (hE:=⟨rfl,rfl,by dsimp only;rw [List.length_append];rfl,trivial⟩) (hG:=?_)
    dsimp only
    rw [List.length_append]
    exact (Hle.srt (K:=[row 3 1 A7 cap7 (0+n+1) _,dat hs (out.map intsD),row 40 1 A8 cap8 (out.length+1) (hs++flatP [(0, .slice A7 (0+n+1) cap7)]),fz pt,row 3 1 (some ⟨gn,0,none⟩) capn n (List.replicate n (.int .i64 (-1))),blk pc c.cells 23])).trans (out_hle (cl:=r++[(k:Int)]) (by rw [List.map_append];rfl))
   ·rw [h4] at hvb
    have h4':=of_decide_eq_false hvb.symm
    refine T_cutX 1 [246] (fun vb:Bool=>[(246, .bool vb)]) (fun _=>[row 40 1 Ao capo out.length hs,dat hs (out.map intsD),fz pt,row 3 1 (some ⟨gn,0,none⟩) capn n (List.replicate n (.int .i64 (-1))),blk pc c.cells 23]) (fun vb=>vb=decide (i<cols.length∧(grdA c l cols t).g i+rst (grdA c l cols t) (i+1) k=rst (grdA c l cols t) i k)) ?_ ?_
    ·by_cases hin:i<cols.length
     ·obtain⟨b,o,r,Au,capu,rfl,hgd,hco,hrl,hr0,hsr⟩:=hcolr hin
      have eg:(grdA c l cols t).g i=putC c l r t (-1):=by show putC c l (cols.getD i []) t (-1)=_;rw [hgd]
      rw [eg] at qg
      obtain⟨Ar1,capr1,hcr1,-,-,hAr1⟩:=hrt.tabRow (tabR_get (show i+1≤cols.length by omega))
      rw [List.length_map,List.length_range] at hcr1 hAr1
      obtain⟨br1,or1,rfl,hbr1⟩:=hAr1 (by omega)
      repeat' (first|refine d1 ?_|refine dd ?_|(show T _ (.ops _ (_::_)::_) _ _ _;first|refine T_call rfl rfl rfl rfl rfl (fun w hw=>put21_spec c A Au At n ca capu m ct l r t (-1) w (hgr.cls ‹_›) hc hbs (src_below hsr (Cls.below ‹_›)) hco (src_below hts (Cls.below ‹_›)) htl hm hte (by omega)) ?_|refine T_callC rfl rfl rfl rfl rfl rfl rfl (fun hg w hw=>put21_spec c A Au At n ca capu m ct l r t (-1) w (hgr.cls ‹_›) hc hbs (src_below hsr (Cls.below ‹_›)) hco (src_below hts (Cls.below ‹_›)) htl hm hte (by omega)) ?_|refine T_val rfl (Val.load rfl (fun hg=>rdFz (p:=pt) (u := .slice (some ⟨br1,or1,none⟩) (m+1) capr1) (b:=b1) (by rw [show 0+((i:Int)+1).toNat * 1=0+(i+1) by omega];exact hbt _ _ hcr1))) rfl rfl rfl ?_|refine T_valC rfl (Val.load rfl (fun hg=>rdFz (p:=pt) (u := .slice (some ⟨br1,or1,none⟩) (m+1) capr1) (b:=b1) (by rw [show 0+((i:Int)+1).toNat * 1=0+(i+1) by omega];exact hbt _ _ hcr1))) rfl rfl rfl rfl rfl ?_|refine T_val rfl (Val.load rfl (fun hg=>rdFz (p:=pt) (u := .int .i64 (rst (grdA c l cols t) (i+1) k)) (b:=br1) (by rw [off1];exact hbr1 _ _ (tabR_cell (by omega))))) rfl rfl rfl ?_|refine T_valC rfl (Val.load rfl (fun hg=>rdFz (p:=pt) (u := .int .i64 (rst (grdA c l cols t) (i+1) k)) (b:=br1) (by rw [off1];exact hbr1 _ _ (tabR_cell (by omega))))) rfl rfl rfl rfl rfl ?_|refine T_val rfl (Val.load rfl (fun hg=>rdFz (p:=pt) (u := .slice (some ⟨br0,or0,none⟩) (m+1) capr0) (b:=b1) (by rw [off1];exact hbt _ _ hcr0))) rfl rfl rfl ?_|refine T_valC rfl (Val.load rfl (fun hg=>rdFz (p:=pt) (u := .slice (some ⟨br0,or0,none⟩) (m+1) capr0) (b:=b1) (by rw [off1];exact hbt _ _ hcr0))) rfl rfl rfl rfl rfl ?_|refine T_val rfl (Val.load rfl (fun hg=>rdFz (p:=pt) (u := .int .i64 (rst (grdA c l cols t) i k)) (b:=br0) (by rw [off1];exact hbr0 _ _ (tabR_cell hk)))) rfl rfl rfl ?_|refine T_valC rfl (Val.load rfl (fun hg=>rdFz (p:=pt) (u := .int .i64 (rst (grdA c l cols t) i k)) (b:=br0) (by rw [off1];exact hbr0 _ _ (tabR_cell hk)))) rfl rfl rfl rfl rfl ?_)|(show T _ (.run _ _ (_::_) _ _::_) _ _ _;first|refine rc rfl rfl rfl rfl rfl rfl rfl (fun w hw=>put21_spec c A Au At n ca capu m ct l r t (-1) w (hgr.cls ‹_›) hc hbs (src_below hsr (Cls.below ‹_›)) hco (src_below hts (Cls.below ‹_›)) htl hm hte (by omega)) ?_|refine rcG rfl rfl rfl rfl rfl rfl rfl rfl rfl (fun hg w hw=>put21_spec c A Au At n ca capu m ct l r t (-1) w (hgr.cls ‹_›) hc hbs (src_below hsr (Cls.below ‹_›)) hco (src_below hts (Cls.below ‹_›)) htl hm hte (by omega)) ?_|refine rv rfl rfl rfl (Val.load rfl (fun hg=>rdFz (p:=pt) (u := .slice (some ⟨br1,or1,none⟩) (m+1) capr1) (b:=b1) (by rw [show 0+((i:Int)+1).toNat * 1=0+(i+1) by omega];exact hbt _ _ hcr1))) rfl rfl rfl ?_|refine rg rfl rfl rfl (Val.load rfl (fun hg=>rdFz (p:=pt) (u := .slice (some ⟨br1,or1,none⟩) (m+1) capr1) (b:=b1) (by rw [show 0+((i:Int)+1).toNat * 1=0+(i+1) by omega];exact hbt _ _ hcr1))) rfl rfl rfl rfl rfl ?_|refine rv rfl rfl rfl (Val.load rfl (fun hg=>rdFz (p:=pt) (u := .int .i64 (rst (grdA c l cols t) (i+1) k)) (b:=br1) (by rw [off1];exact hbr1 _ _ (tabR_cell (by omega))))) rfl rfl rfl ?_|refine rg rfl rfl rfl (Val.load rfl (fun hg=>rdFz (p:=pt) (u := .int .i64 (rst (grdA c l cols t) (i+1) k)) (b:=br1) (by rw [off1];exact hbr1 _ _ (tabR_cell (by omega))))) rfl rfl rfl rfl rfl ?_|refine rv rfl rfl rfl (Val.load rfl (fun hg=>rdFz (p:=pt) (u := .slice (some ⟨br0,or0,none⟩) (m+1) capr0) (b:=b1) (by rw [off1];exact hbt _ _ hcr0))) rfl rfl rfl ?_|refine rg rfl rfl rfl (Val.load rfl (fun hg=>rdFz (p:=pt) (u := .slice (some ⟨br0,or0,none⟩) (m+1) capr0) (b:=b1) (by rw [off1];exact hbt _ _ hcr0))) rfl rfl rfl rfl rfl ?_|refine rv rfl rfl rfl (Val.load rfl (fun hg=>rdFz (p:=pt) (u := .int .i64 (rst (grdA c l cols t) i k)) (b:=br0) (by rw [off1];exact hbr0 _ _ (tabR_cell hk)))) rfl rfl rfl ?_|refine rg rfl rfl rfl (Val.load rfl (fun hg=>rdFz (p:=pt) (u := .int .i64 (rst (grdA c l cols t) i k)) (b:=br0) (by rw [off1];exact hbr0 _ _ (tabR_cell hk)))) rfl rfl rfl rfl rfl ?_)|(show ∀ _:Nat,T _ _ _ _ _;intro _))
      refine T_meetX _ ?_ (hE:=⟨rfl,trivial⟩)
      rw [eg]
      have q8:(decide ((i:Int)<cols.length))=true:=decide_eq_true (by omega)
      simp only [q8,Bool.true_and,hin,true_and]
     ·repeat' (first|refine d1 ?_|refine dd ?_|(show T _ (.ops _ (_::_)::_) _ _ _;first|refine T_val rfl (Val.neverP rfl (fun hg=>by exfalso;first|((simp only [List.cons_append,List.nil_append,GP,dstL,lookE,Nat.beq,cond,List.getElem?_cons_zero,List.getElem?_cons_succ,Option.bind_some,and_true,Bool.and_eq_true,Bool.or_eq_true,Bool.and_eq_false_iff,Bool.or_eq_false_iff,Bool.not_eq_true',Bool.not_eq_false',decide_eq_true_eq,decide_eq_false_iff_not] at hg);done)|((simp only [List.cons_append,List.nil_append,GP,dstL,lookE,Nat.beq,cond,List.getElem?_cons_zero,List.getElem?_cons_succ,Option.bind_some,and_true,Bool.and_eq_true,Bool.or_eq_true,Bool.and_eq_false_iff,Bool.or_eq_false_iff,Bool.not_eq_true',Bool.not_eq_false',decide_eq_true_eq,decide_eq_false_iff_not] at hg);omega))) rfl rfl rfl ?_|refine T_valC rfl (Val.neverP rfl (fun hg=>by exfalso;first|((simp only [List.cons_append,List.nil_append,GP,dstL,lookE,Nat.beq,cond,List.getElem?_cons_zero,List.getElem?_cons_succ,Option.bind_some,and_true,Bool.and_eq_true,Bool.or_eq_true,Bool.and_eq_false_iff,Bool.or_eq_false_iff,Bool.not_eq_true',Bool.not_eq_false',decide_eq_true_eq,decide_eq_false_iff_not] at hg);done)|((simp only [List.cons_append,List.nil_append,GP,dstL,lookE,Nat.beq,cond,List.getElem?_cons_zero,List.getElem?_cons_succ,Option.bind_some,and_true,Bool.and_eq_true,Bool.or_eq_true,Bool.and_eq_false_iff,Bool.or_eq_false_iff,Bool.not_eq_true',Bool.not_eq_false',decide_eq_true_eq,decide_eq_false_iff_not] at hg);omega))) rfl rfl rfl rfl rfl ?_|refine T_val rfl (Val.neverI rfl (fun hg=>by exfalso;first|((simp only [List.cons_append,List.nil_append,GP,dstL,lookE,Nat.beq,cond,List.getElem?_cons_zero,List.getElem?_cons_succ,Option.bind_some,and_true,Bool.and_eq_true,Bool.or_eq_true,Bool.and_eq_false_iff,Bool.or_eq_false_iff,Bool.not_eq_true',Bool.not_eq_false',decide_eq_true_eq,decide_eq_false_iff_not] at hg);done)|((simp only [List.cons_append,List.nil_append,GP,dstL,lookE,Nat.beq,cond,List.getElem?_cons_zero,List.getElem?_cons_succ,Option.bind_some,and_true,Bool.and_eq_true,Bool.or_eq_true,Bool.and_eq_false_iff,Bool.or_eq_false_iff,Bool.not_eq_true',Bool.not_eq_false',decide_eq_true_eq,decide_eq_false_iff_not] at hg);omega))) rfl rfl rfl ?_|refine T_valC rfl (Val.neverI rfl (fun hg=>by exfalso;first|((simp only [List.cons_append,List.nil_append,GP,dstL,lookE,Nat.beq,cond,List.getElem?_cons_zero,List.getElem?_cons_succ,Option.bind_some,and_true,Bool.and_eq_true,Bool.or_eq_true,Bool.and_eq_false_iff,Bool.or_eq_false_iff,Bool.not_eq_true',Bool.not_eq_false',decide_eq_true_eq,decide_eq_false_iff_not] at hg);done)|((simp only [List.cons_append,List.nil_append,GP,dstL,lookE,Nat.beq,cond,List.getElem?_cons_zero,List.getElem?_cons_succ,Option.bind_some,and_true,Bool.and_eq_true,Bool.or_eq_true,Bool.and_eq_false_iff,Bool.or_eq_false_iff,Bool.not_eq_true',Bool.not_eq_false',decide_eq_true_eq,decide_eq_false_iff_not] at hg);omega))) rfl rfl rfl rfl rfl ?_)|(show T _ (.run _ _ (_::_) _ _::_) _ _ _;first|refine rv rfl rfl rfl (Val.neverP rfl (fun hg=>by exfalso;first|((simp only [List.cons_append,List.nil_append,GP,dstL,lookE,Nat.beq,cond,List.getElem?_cons_zero,List.getElem?_cons_succ,Option.bind_some,and_true,Bool.and_eq_true,Bool.or_eq_true,Bool.and_eq_false_iff,Bool.or_eq_false_iff,Bool.not_eq_true',Bool.not_eq_false',decide_eq_true_eq,decide_eq_false_iff_not] at hg);done)|((simp only [List.cons_append,List.nil_append,GP,dstL,lookE,Nat.beq,cond,List.getElem?_cons_zero,List.getElem?_cons_succ,Option.bind_some,and_true,Bool.and_eq_true,Bool.or_eq_true,Bool.and_eq_false_iff,Bool.or_eq_false_iff,Bool.not_eq_true',Bool.not_eq_false',decide_eq_true_eq,decide_eq_false_iff_not] at hg);omega))) rfl rfl rfl ?_|refine rg rfl rfl rfl (Val.neverP rfl (fun hg=>by exfalso;first|((simp only [List.cons_append,List.nil_append,GP,dstL,lookE,Nat.beq,cond,List.getElem?_cons_zero,List.getElem?_cons_succ,Option.bind_some,and_true,Bool.and_eq_true,Bool.or_eq_true,Bool.and_eq_false_iff,Bool.or_eq_false_iff,Bool.not_eq_true',Bool.not_eq_false',decide_eq_true_eq,decide_eq_false_iff_not] at hg);done)|((simp only [List.cons_append,List.nil_append,GP,dstL,lookE,Nat.beq,cond,List.getElem?_cons_zero,List.getElem?_cons_succ,Option.bind_some,and_true,Bool.and_eq_true,Bool.or_eq_true,Bool.and_eq_false_iff,Bool.or_eq_false_iff,Bool.not_eq_true',Bool.not_eq_false',decide_eq_true_eq,decide_eq_false_iff_not] at hg);omega))) rfl rfl rfl rfl rfl ?_|refine rv rfl rfl rfl (Val.neverI rfl (fun hg=>by exfalso;first|((simp only [List.cons_append,List.nil_append,GP,dstL,lookE,Nat.beq,cond,List.getElem?_cons_zero,List.getElem?_cons_succ,Option.bind_some,and_true,Bool.and_eq_true,Bool.or_eq_true,Bool.and_eq_false_iff,Bool.or_eq_false_iff,Bool.not_eq_true',Bool.not_eq_false',decide_eq_true_eq,decide_eq_false_iff_not] at hg);done)|((simp only [List.cons_append,List.nil_append,GP,dstL,lookE,Nat.beq,cond,List.getElem?_cons_zero,List.getElem?_cons_succ,Option.bind_some,and_true,Bool.and_eq_true,Bool.or_eq_true,Bool.and_eq_false_iff,Bool.or_eq_false_iff,Bool.not_eq_true',Bool.not_eq_false',decide_eq_true_eq,decide_eq_false_iff_not] at hg);omega))) rfl rfl rfl ?_|refine rg rfl rfl rfl (Val.neverI rfl (fun hg=>by exfalso;first|((simp only [List.cons_append,List.nil_append,GP,dstL,lookE,Nat.beq,cond,List.getElem?_cons_zero,List.getElem?_cons_succ,Option.bind_some,and_true,Bool.and_eq_true,Bool.or_eq_true,Bool.and_eq_false_iff,Bool.or_eq_false_iff,Bool.not_eq_true',Bool.not_eq_false',decide_eq_true_eq,decide_eq_false_iff_not] at hg);done)|((simp only [List.cons_append,List.nil_append,GP,dstL,lookE,Nat.beq,cond,List.getElem?_cons_zero,List.getElem?_cons_succ,Option.bind_some,and_true,Bool.and_eq_true,Bool.or_eq_true,Bool.and_eq_false_iff,Bool.or_eq_false_iff,Bool.not_eq_true',Bool.not_eq_false',decide_eq_true_eq,decide_eq_false_iff_not] at hg);omega))) rfl rfl rfl rfl rfl ?_|refine ro rfl rfl (OpT.never (.int .i64 0) rfl (fun hg=>by exfalso;first|((simp only [List.cons_append,List.nil_append,GP,dstL,lookE,Nat.beq,cond,List.getElem?_cons_zero,List.getElem?_cons_succ,Option.bind_some,and_true,Bool.and_eq_true,Bool.or_eq_true,Bool.and_eq_false_iff,Bool.or_eq_false_iff,Bool.not_eq_true',Bool.not_eq_false',decide_eq_true_eq,decide_eq_false_iff_not] at hg);done)|((simp only [List.cons_append,List.nil_append,GP,dstL,lookE,Nat.beq,cond,List.getElem?_cons_zero,List.getElem?_cons_succ,Option.bind_some,and_true,Bool.and_eq_true,Bool.or_eq_true,Bool.and_eq_false_iff,Bool.or_eq_false_iff,Bool.not_eq_true',Bool.not_eq_false',decide_eq_true_eq,decide_eq_false_iff_not] at hg);omega)) rfl rfl rfl rfl rfl ⟨fun _=>Hle.sub,?_⟩))|(show ∀ _:Nat,T _ _ _ _ _;intro _))
      refine T_meetX _ ?_ (hE:=⟨rfl,trivial⟩)
      have q8:(decide ((i:Int)<cols.length))=false:=decide_eq_false (by omega)
      rw [q8,Bool.false_and,decide_eq_false (fun h9=>hin h9.1)]
    rintro vb2 hvb2
    refine T_if rfl (fun h5=>?_) (fun h5=>?_)
    ·rw [h5] at hvb2
     have h5':=of_decide_eq_true hvb2.symm
     have hst:=addV_step (fst_10 (G:=grdA c l cols t) (i:=i) (k:=k) h5'.1 (by rw [e1,e2];exact h4') h5'.2)
     obtain⟨b,o,r,Au,capu,rfl,hgd,hco,hrl,hr0,hsr⟩:=hcolr h5'.1
     have ecl:colM l.length cols i k ⟨1,0,(grdA c l cols t).g i⟩=r++[-1]:=by
      unfold colM
      rw [if_pos rfl,if_neg (show ¬ (0:Nat)=1 by omega),hgd]
     rw [hst,ecl,Nat.add_zero] at hout
     repeat' (first|refine d1 ?_|refine dd ?_|(show ∀ _:Nat,T _ _ _ _ _;intro _))
     rename_i b6
     refine T_le (H':=[row 3 1 (some ⟨b6,0,none⟩) 0 0 [],row 40 1 Ao capo out.length hs,dat hs (out.map intsD),fz pt,row 3 1 (some ⟨gn,0,none⟩) capn n (List.replicate n (.int .i64 (-1))),blk pc c.cells 23]) (Hle.weaken (i:=0) rfl (blk_row (sz:=1) (n:=0) rfl (by simp only [maxLen];omega)) rfl) ?_
     repeat' (first|refine d1 ?_|refine dd ?_|(show T _ (.ops _ (_::_)::_) _ _ _;first|refine T_op (OpT.append (A:=some ⟨b6,0,none⟩) rfl rfl rfl rfl rfl rfl rfl rfl rfl rfl (fun w hw=>src_below hsr hw.below) (oneInts r) (by dsimp only;omega) (by omega) (fun A6 cap6 hA6=>?_))|refine T_op (OpT.append (A:=A6) rfl rfl rfl rfl rfl rfl rfl rfl rfl rfl (fun w hw=>Src.own hw rfl) rfl (by dsimp only;omega) (by omega) (fun A7 cap7 hA7=>?_))|refine T_op (OpT.append (A:=Ao) rfl rfl rfl rfl rfl rfl rfl rfl rfl rfl (fun w hw=>Src.own hw rfl) rfl (by dsimp only;omega) (by omega) (fun A8 cap8 hA8=>?_)))|(show ∀ _:Nat,T _ _ _ _ _;intro _))
     refine T_backX (i+1,k,(A8,cap8),hs++[.slice A7 (0+n+1) cap7],out++[r++[-1]]) ⟨by dsimp only;omega,by dsimp only;omega,by dsimp only;rw [List.length_append];simp;omega,by dsimp only;rw [List.append_assoc];exact hout⟩ (by dsimp only;omega) (hE:=⟨rfl,rfl,by dsimp only;rw [List.length_append];rfl,trivial⟩) (hG:=?_)
     dsimp only
     rw [List.length_append]
     exact (Hle.srt (K:=[row 3 1 A7 cap7 (0+n+1) _,dat hs (out.map intsD),row 40 1 A8 cap8 (out.length+1) (hs++flatP [(0, .slice A7 (0+n+1) cap7)]),fz pt,row 3 1 (some ⟨gn,0,none⟩) capn n (List.replicate n (.int .i64 (-1))),blk pc c.cells 23])).trans (out_hle (cl:=r++[-1]) (by rw [List.map_append];rfl))
    ·rw [h5] at hvb2
     have h5':=of_decide_eq_false hvb2.symm
     obtain⟨hf,hkm⟩:=fst_01 (G:=grdA c l cols t) (i:=i) (k:=k) (by rw [e1,e2];exact h3') (by rw [e1,e2];exact h4') (by rw [e1];exact h5')
     rw [e2] at hkm
     have hst:=addV_step hf
     have ecl:colM l.length cols i k ⟨0,1,(grdA c l cols t).h k⟩=noneC l.length++[(k:Int)]:=by
      unfold colM
      rw [if_neg (show ¬ (0:Nat)=1 by omega),if_pos rfl]
     rw [hst,ecl,Nat.add_zero] at hout
     repeat' (first|refine d1 ?_|refine dd ?_|(show ∀ _:Nat,T _ _ _ _ _;intro _))
     rename_i b6
     refine T_le (H':=[row 3 1 (some ⟨b6,0,none⟩) 0 0 [],row 40 1 Ao capo out.length hs,dat hs (out.map intsD),fz pt,row 3 1 (some ⟨gn,0,none⟩) capn n (List.replicate n (.int .i64 (-1))),blk pc c.cells 23]) (Hle.weaken (i:=0) rfl (blk_row (sz:=1) (n:=0) rfl (by simp only [maxLen];omega)) rfl) ?_
     repeat' (first|refine d1 ?_|refine dd ?_|(show T _ (.ops _ (_::_)::_) _ _ _;first|refine T_op (OpT.append (A:=some ⟨b6,0,none⟩) rfl rfl rfl rfl rfl rfl rfl rfl rfl rfl (fun w hw=>srcRw w hw) (oneRep n (-1)) (by dsimp only;omega) (by omega) (fun A6 cap6 hA6=>?_))|refine T_op (OpT.append (A:=A6) rfl rfl rfl rfl rfl rfl rfl rfl rfl rfl (fun w hw=>Src.own hw rfl) rfl (by dsimp only;omega) (by omega) (fun A7 cap7 hA7=>?_))|refine T_op (OpT.append (A:=Ao) rfl rfl rfl rfl rfl rfl rfl rfl rfl rfl (fun w hw=>Src.own hw rfl) rfl (by dsimp only;omega) (by omega) (fun A8 cap8 hA8=>?_)))|(show ∀ _:Nat,T _ _ _ _ _;intro _))
     refine T_backX (i,k+1,(A8,cap8),hs++[.slice A7 (0+n+1) cap7],out++[noneC l.length++[(k:Int)]]) ⟨by dsimp only;omega,by dsimp only;omega,by dsimp only;rw [List.length_append];simp;omega,by dsimp only;rw [List.append_assoc];exact hout⟩ (by dsimp only;omega) (hE:=⟨rfl,rfl,by dsimp only;rw [List.length_append];rfl,trivial⟩) (hG:=?_)
     dsimp only
     rw [List.length_append]
     exact (Hle.srt (K:=[row 3 1 A7 cap7 (0+n+1) _,dat hs (out.map intsD),row 40 1 A8 cap8 (out.length+1) (hs++flatP [(0, .slice A7 (0+n+1) cap7)]),fz pt,row 3 1 (some ⟨gn,0,none⟩) capn n (List.replicate n (.int .i64 (-1))),blk pc c.cells 23])).trans (out_hle (cl:=noneC l.length++[(k:Int)]) (by rw [List.map_append,hnn];rfl))
 ·have h3':¬ (i<cols.length∨k<m):=by simpa using h3
  rw [addV_end (i:=i) (k:=k) (by rw [htl];exact h3'),List.append_nil] at hout
  rw [hout]
  repeat' (first|refine d1 ?_|refine dd ?_|(show ∀ _:Nat,T _ _ _ _ _;intro _)|(show T _ (.code .ret::_) _ _ _;refine T_retV _ rfl (dat_row.trans (Hle.nth 0 rfl)) ⟨_,trivial,rfl,rfl⟩))
end Go.Proofs.YtmenjpmikhajfaaGreatDoor
namespace Go.Proofs.YtmenjpmikhajfaaGreatDoor
open Go.RowKit Go.Shelf Go.Proofs
set_option maxRecDepth 100000
set_option maxHeartbeats 1000000

end Go.Proofs.YtmenjpmikhajfaaGreatDoor
namespace Go.Proofs.YtmenjpmikhajfaaGreatDoor
open Go.RowKit Go.Shelf Go.Proofs
set_option maxRecDepth 100000
set_option maxHeartbeats 1000000

theorem rd_toksL {w:World}:∀ {m:List (List Tok)} {cs:List Value},Rd (wr w) cs (m.map toksD)→∃ l:List TS,cs=l.map TS.val∧TsOk w l∧l.map TS.l=m
 | [],cs,h=>by
  have:=h.length
  obtain rfl:cs=[]:=List.eq_nil_of_length_eq_zero this
  exact⟨[],rfl,⟨fun t ht=>(by cases ht),fun t ht=>(by cases ht),fun t ht=>(by cases ht)⟩,rfl⟩
 | t::m,[],h=>by have:=h.length;simp at this
 | t::m,x::cs,h=>by
  obtain⟨h1,h2⟩:=h.cons_inv
  obtain⟨A,cap,rfl,hb,hs,-,-⟩:=h1.toks
  obtain⟨l,rfl,hl,rfl⟩:=rd_toksL h2
  refine ⟨⟨A,t.length,cap,t⟩::l,rfl,⟨fun y hy=>?_,fun y hy=>?_,fun y hy=>?_⟩,rfl⟩
  ·rcases List.mem_cons.1 hy with rfl|hy
   ·exact hs
   ·exact hl.src y hy
  ·rcases List.mem_cons.1 hy with rfl|hy
   ·rfl
   ·exact hl.len y hy
  ·rcases List.mem_cons.1 hy with rfl|hy
   ·exact hb
   ·exact hl.bd y hy
theorem Rd.toksL {w:World} {x:Value} {m:List (List Tok)} (h:Rd (wr w) [x] [.s 1 (m.map toksD)]):∃ A cap,∃ l:List TS,x = .slice A l.length cap∧l.length≤9223372036854775807∧Src w 1 A l.length (l.map TS.val)∧TsOk w l∧l.map TS.l=m:=by
 obtain⟨A,n,cap,cs,rfl,h1,h2,h3,hs,hr⟩:=h.src
 obtain⟨l,rfl,hl,rfl⟩:=rd_toksL hr
 have hn:n=l.length:=by rw [List.length_map,List.length_map] at h1;omega
 subst hn
 exact⟨A,cap,l,rfl,by omega,hs,hl,rfl⟩
theorem word21_spec (s:ByteArray) (w:World):Spec Tryz.prog 64 [.string s] w (fun v R=>v=(tokS s).val∧R=[]):=by
 refine spec_of sg Tryz.func64 rfl rfl rfl ?_
 repeat' (first|refine d1 ?_|refine dd ?_|(show ∀ _:Nat,T _ _ _ _ _;intro _))
 rename_i b
 exact T_retM (vs:=[(tokS s).val]) [] ⟨⟨b,_,(tokS s).cells,rfl,rfl,rfl,rfl,(fun h=>by cases h),rfl,rdAll⟩,trivial⟩ (Hle.none _) ⟨rfl,rfl⟩
def awTS (b1 b2 b3:Nat):List TS:=[⟨some ⟨b1,0,none⟩,3,3,aw21a⟩,⟨some ⟨b2,0,none⟩,2,2,aw21b⟩,⟨some ⟨b3,0,none⟩,2,2,aw21c⟩]
theorem awake21_spec (w:World) (hst:Std w):Spec Tryz.prog 16 [] w (fun v R=>v = .bool true∧R=[]):=by
 refine spec_of sg Tryz.func16 rfl rfl rfl ?_
 repeat' (first|refine d1 ?_|refine dd ?_|(show T _ (.ops _ (_::_)::_) _ _ _;first|refine T_call rfl rfl rfl rfl rfl (fun w hw=>word21_spec sA w) ?_|refine T_callC rfl rfl rfl rfl rfl rfl rfl (fun hg w hw=>word21_spec sA w) ?_|refine T_call rfl rfl rfl rfl rfl (fun w hw=>word21_spec sB w) ?_|refine T_callC rfl rfl rfl rfl rfl rfl rfl (fun hg w hw=>word21_spec sB w) ?_|refine T_call rfl rfl rfl rfl rfl (fun w hw=>word21_spec sC w) ?_|refine T_callC rfl rfl rfl rfl rfl rfl rfl (fun hg w hw=>word21_spec sC w) ?_|refine T_op (OpT.storeA rfl rfl rfl rfl rfl rfl (by decide) ?_))|(show T _ (.run _ _ (_::_) _ _::_) _ _ _;first|refine rc rfl rfl rfl rfl rfl rfl rfl (fun w hw=>word21_spec sA w) ?_|refine rcG rfl rfl rfl rfl rfl rfl rfl rfl rfl (fun hg w hw=>word21_spec sA w) ?_|refine rc rfl rfl rfl rfl rfl rfl rfl (fun w hw=>word21_spec sB w) ?_|refine rcG rfl rfl rfl rfl rfl rfl rfl rfl rfl (fun hg w hw=>word21_spec sB w) ?_|refine rc rfl rfl rfl rfl rfl rfl rfl (fun w hw=>word21_spec sC w) ?_|refine rcG rfl rfl rfl rfl rfl rfl rfl rfl rfl (fun hg w hw=>word21_spec sC w) ?_)|(show ∀ _:Nat,T _ _ _ _ _;intro _))
 rename_i p1 p2 p3 b1 b2 b3 b4 pc
 refine T_le (H':=[blk pc awC21.cells 23,blk b4 ((awTS b1 b2 b3).map TS.val) 26,blk b3 (aw21c.flatMap Tok.cells) 79,blk b2 (aw21b.flatMap Tok.cells) 79,blk b1 (aw21a.flatMap Tok.cells) 79]) (Hle.append_left (A:=[_,_,_,_,_]) _) ?_
 refine T_le (H':=[blk b4 ((awTS b1 b2 b3).map TS.val) 26,blk b3 (aw21c.flatMap Tok.cells) 79,blk b2 (aw21b.flatMap Tok.cells) 79,blk b1 (aw21a.flatMap Tok.cells) 79,blk pc awC21.cells 23]) Hle.srt ?_
 have hG:∀ {w':World} {H:List HA},Cls w w' (blk b4 ((awTS b1 b2 b3).map TS.val) 26::blk b3 (aw21c.flatMap Tok.cells) 79::blk b2 (aw21b.flatMap Tok.cells) 79::blk b1 (aw21a.flatMap Tok.cells) 79::H)→Grp w' (some ⟨b4,0,none⟩) 3 (awTS b1 b2 b3):=fun hw =>
  ⟨hst.cls hw,Src.own hw rfl,rfl,by omega,⟨List.forall_mem_cons.2 ⟨Src.own (b:=b1) hw rfl,List.forall_mem_cons.2 ⟨Src.own (b:=b2) hw rfl,List.forall_mem_cons.2 ⟨Src.own (b:=b3) hw rfl,fun t h=>by cases h⟩⟩⟩,List.forall_mem_cons.2 ⟨rfl,List.forall_mem_cons.2 ⟨rfl,List.forall_mem_cons.2 ⟨rfl,fun t h=>by cases h⟩⟩⟩,List.forall_mem_cons.2 ⟨Nat.le_of_ble_eq_true rfl,List.forall_mem_cons.2 ⟨Nat.le_of_ble_eq_true rfl,List.forall_mem_cons.2 ⟨Nat.le_of_ble_eq_true rfl,fun t h=>by cases h⟩⟩⟩⟩,
   List.forall_mem_cons.2 ⟨Nat.le_of_ble_eq_true rfl,List.forall_mem_cons.2 ⟨Nat.le_of_ble_eq_true rfl,List.forall_mem_cons.2 ⟨Nat.le_of_ble_eq_true rfl,fun t h=>by cases h⟩⟩⟩,List.forall_mem_cons.2 ⟨aw21s.1,List.forall_mem_cons.2 ⟨aw21s.2.1,List.forall_mem_cons.2 ⟨aw21s.2.2,fun t h=>by cases h⟩⟩⟩⟩
 have hq:∀ t∈awTS b1 b2 b3,t.n≤100:=List.forall_mem_cons.2 ⟨Nat.le_of_ble_eq_true rfl,List.forall_mem_cons.2 ⟨Nat.le_of_ble_eq_true rfl,List.forall_mem_cons.2 ⟨Nat.le_of_ble_eq_true rfl,fun t h=>by cases h⟩⟩⟩
 have hsl:SameL (awTS b1 b2 b3) aw21:=rfl
 have eV:ordV awC21 (awTS b1 b2 b3)=([0,1,2],0):=(SameL.ord hsl awC21).trans aw21V
 have eW:alnA awC21 (awTS b1 b2 b3)=([[0,0,0],[1,-1,1],[2,1,-1]],0):=(SameL.aln hsl awC21).trans aw21W
 repeat' (first|refine d1 ?_|refine dd ?_|(show T _ (.ops _ (_::_)::_) _ _ _;refine T_op (OpT.call rfl rfl rfl rfl rfl (fun w hw=>orderPrg21_spec awC21 (some ⟨b4,0,none⟩) 3 3 (awTS b1 b2 b3) w (hG hw)) ?_))|(show ∀ _:Nat,T _ _ _ _ _;intro _))
 rintro v R ⟨x,-,rfl,rfl⟩
 rw [eV]
 refine T_le (H':=[dat [x] [intsD [0,1,2]],blk b4 ((awTS b1 b2 b3).map TS.val) 26,blk b3 (aw21c.flatMap Tok.cells) 79,blk b2 (aw21b.flatMap Tok.cells) 79,blk b1 (aw21a.flatMap Tok.cells) 79,blk pc awC21.cells 23]) (Hle.refl _) ?_
 refine T_open fun p hp=>?_
 refine T_le (H':=[blk b4 ((awTS b1 b2 b3).map TS.val) 26,blk b3 (aw21c.flatMap Tok.cells) 79,blk b2 (aw21b.flatMap Tok.cells) 79,blk b1 (aw21a.flatMap Tok.cells) 79,fz p,blk pc awC21.cells 23]) Hle.srt ?_
 repeat' (first|refine d1 ?_|refine dd ?_|(show T _ (.ops _ (_::_)::_) _ _ _;refine T_op (OpT.call rfl rfl rfl rfl rfl (fun w hw=>alignPrg21_spec awC21 (some ⟨b4,0,none⟩) 3 3 (awTS b1 b2 b3) w (hG hw) hq) ?_))|(show ∀ _:Nat,T _ _ _ _ _;intro _))
 rintro v R ⟨y,-,rfl,rfl⟩
 rw [eW]
 refine T_le (H':=[dat [y] [rowsD [[0,0,0],[1,-1,1],[2,1,-1]]],blk b4 ((awTS b1 b2 b3).map TS.val) 26,blk b3 (aw21c.flatMap Tok.cells) 79,blk b2 (aw21b.flatMap Tok.cells) 79,blk b1 (aw21a.flatMap Tok.cells) 79,fz p,blk pc awC21.cells 23]) (Hle.refl _) ?_
 refine T_open fun q hq=>?_
 refine T_le (H':=[fz q,fz p]) Hle.srt ?_
 repeat' (first|refine d1 ?_|refine dd ?_|(show T _ (.ops _ (_::_)::_) _ _ _;refine T_op (OpT.sure (p:=true) rfl rfl rfl (OpT.litW rfl rfl rfl rfl rfl rfl rfl rfl rfl rfl rfl (fun _=>?_))))|(show ∀ _:Nat,T _ _ _ _ _;intro _))
 rename_i c1
 refine T_le (H':=[blk c1 [.int .i64 0, .int .i64 1, .int .i64 2] 3,fz q,fz p]) (Hle.refl _) ?_
 refine T_callC rfl rfl rfl rfl rfl rfl rfl (fun _ w hw=>equalI_spec x _ [0,1,2] [0,1,2] w (hp.own hw) (rd_ints (b:=c1) (n:=3) (r:=[0,1,2]) (Src.own (b:=c1) hw rfl) (by omega))) ?_
 refine T_le (H':=[fz q,fz p]) Hle.srt ?_
 repeat' (first|refine d1 ?_|refine dd ?_|(show T _ (.ops _ (_::_)::_) _ _ _;refine T_op (OpT.sure (p:=true) rfl rfl rfl (OpT.litW rfl rfl rfl rfl rfl rfl rfl rfl rfl rfl rfl (fun _=>?_))))|(show ∀ _:Nat,T _ _ _ _ _;intro _))
 rename_i c3 c4 c5 c6
 refine T_le (H':=[blk c6 [.slice (some ⟨c3,0,none⟩) 3 3, .slice (some ⟨c4,0,none⟩) 3 3, .slice (some ⟨c5,0,none⟩) 3 3] 40,blk c5 [.int .i64 2, .int .i64 1, .int .i64 (-1)] 3,blk c4 [.int .i64 1, .int .i64 (-1), .int .i64 1] 3,blk c3 [.int .i64 0, .int .i64 0, .int .i64 0] 3,fz q,fz p]) (Hle.refl _) ?_
 refine T_callC rfl rfl rfl rfl rfl rfl rfl (fun _ w hw=>sameTable_spec y _ [[0,0,0],[1,-1,1],[2,1,-1]] [[0,0,0],[1,-1,1],[2,1,-1]] w (hq.own hw) (rd_lit (n:=3) (Src.own (b:=c6) hw rfl) (by omega) ((rd_ints (b:=c3) (n:=3) (r:=[0,0,0]) (Src.own hw rfl) (by omega)).append ((rd_ints (b:=c4) (n:=3) (r:=[1,-1,1]) (Src.own hw rfl) (by omega)).append (rd_ints (b:=c5) (n:=3) (r:=[2,1,-1]) (Src.own hw rfl) (by omega)))))) ?_
 repeat' (first|refine d1 ?_|refine dd ?_|(show ∀ _:Nat,T _ _ _ _ _;intro _)|(show T _ (.code .ret::_) _ _ _;refine T_retV [] rfl (Hle.none _) ⟨rfl,rfl⟩))
end Go.Proofs.YtmenjpmikhajfaaGreatDoor
namespace Go.Proofs.YtmenjpmikhajfaaGreatDoor
open Go.RowKit Go.Shelf Go.Proofs

theorem pigeon2:∀ (n:Nat) (l:List Nat),l.Nodup→(∀ x∈l,x<n)→l.length≤n
 | 0,l,_,h=>by
  cases l with
  | nil=>simp
  | cons x l=>exact absurd (h x (List.mem_cons_self ..)) (by omega)
 | n+1,l,hd,h=>by
  have h1:=pigeon2 n (l.erase n) (hd.erase n) (fun x hx=>by
   have h2:=(hd.mem_erase_iff).1 hx
   have:=h x h2.2
   have:=h2.1
   omega)
  have h2:l.length≤(l.erase n).length+1:=by
   by_cases hm:n∈l
   ·rw [List.length_erase_of_mem hm];omega
   ·rw [List.erase_of_not_mem hm];omega
  omega
theorem ord_surj {ord:List Nat} {n:Nat} (hd:ord.Nodup) (hlt:∀ x∈ord,x<n) (hl:ord.length=n) {s:Nat} (hs:s<n):∃ k,k<n∧ord.getD k 0=s:=by
 have hm:s∈ord:=Classical.byContradiction fun h=>by
  have:=pigeon2 n (s::ord) (List.nodup_cons.2 ⟨h,hd⟩) (fun x hx=>by
   rcases List.mem_cons.1 hx with rfl|hx
   ·exact hs
   ·exact hlt x hx)
  simp only [List.length_cons] at this
  omega
 obtain⟨k,hk,e⟩:=List.getElem_of_mem hm
 exact⟨k,by omega,by rw [List.getD_eq_getElem?_getD,List.getElem?_eq_getElem hk];exact e⟩
theorem ord_inj {ord:List Nat} (hd:ord.Nodup) {i k:Nat} (hi:i<ord.length) (hk:k<ord.length) (h:ord.getD i 0=ord.getD k 0):i=k:=by
 rw [List.getD_eq_getElem?_getD,List.getElem?_eq_getElem hi,List.getD_eq_getElem?_getD,List.getElem?_eq_getElem hk] at h
 exact (List.getElem_inj hd).1 h
theorem arrJ_get {ord:List Nat} {r:List Int} (hd:ord.Nodup) (hl:ord.length=r.length) (hlt:∀ x∈ord,x<r.length) {k:Nat} (hk:k<r.length):∀ j,j≤r.length→(arrJ ord r j)[ord.getD k 0]?=some (if k<j then r.getD k 0 else 0)
 | 0,_=>by
  have:=hlt _ (List.mem_of_getElem? (ord_get (show k<ord.length by omega)))
  rw [if_neg (by omega),arrJ,List.getElem?_replicate,if_pos this]
 | j+1,h=>by
  have ih:=arrJ_get hd hl hlt hk j (by omega)
  have hj:=hlt _ (List.mem_of_getElem? (ord_get (show j<ord.length by omega)))
  rw [arrJ,List.getElem?_set,arrJ_len]
  by_cases e:ord.getD j 0=ord.getD k 0
  ·have e2:=ord_inj hd (by omega) (by omega) e
   subst e2
   rw [if_pos rfl,if_pos hj,if_pos (by omega)]
  ·rw [if_neg e,ih]
   have:j≠k:=fun h9=>e (by rw [h9])
   by_cases h1:k<j
   ·rw [if_pos h1,if_pos (by omega)]
   ·rw [if_neg h1,if_neg (by omega)]
theorem arrR_len (ord:List Nat) (r:List Int):(arrR ord r).length=r.length:=arrJ_len ord r _
theorem arrR_get {ord:List Nat} {r:List Int} (hd:ord.Nodup) (hl:ord.length=r.length) (hlt:∀ x∈ord,x<r.length) {k:Nat} (hk:k<r.length):(arrR ord r)[ord.getD k 0]?=r[k]?:=by
 unfold arrR
 rw [arrJ_get hd hl hlt hk _ (Nat.le_refl _),if_pos hk,List.getD_eq_getElem?_getD,List.getElem?_eq_getElem hk]
 rfl
theorem arr_ok {ord:List Nat} {n:Nat} (hd:ord.Nodup) (hl:ord.length=n) (hlt:∀ x∈ord,x<n) {ls:List Nat} (hls:ls.length=n) {cols:List (List Int)} (h:ColsOk (ord.map fun k=>ls.getD k 0) cols):ColsOk ls (cols.map (arrR ord)):=by
 have hrl:∀ r∈cols,r.length=n:=fun r hr=>by rw [h.len r hr,List.length_map,hl]
 refine ⟨fun x hx=>?_,fun x hx=>?_,fun s m hs=>?_⟩
 ·obtain⟨r,hr,rfl⟩:=List.mem_map.1 hx
  rw [arrR_len,hrl r hr,hls]
 ·obtain⟨r,hr,rfl⟩:=List.mem_map.1 hx
  obtain⟨z,hz,hz1⟩:=h.some_ r hr
  obtain⟨k,hk,e⟩:=List.getElem_of_mem hz
  have hrn:=hrl r hr
  have:=arrR_get hd (by omega) (fun x hx=>by rw [hrn];exact hlt x hx) hk
  rw [List.getElem?_eq_getElem hk,e] at this
  exact⟨z,List.mem_of_getElem? this,hz1⟩
 ·have hsn:s<n:=by have:=(List.getElem?_eq_some_iff.1 hs).1;omega
  obtain⟨k,hk,rfl⟩:=ord_surj hd hlt hl hsn
  have h1:=h.src k m (by
   rw [List.getElem?_map,ord_get (show k<ord.length by omega)]
   show some (ls.getD (ord.getD k 0) 0)=some m
   rw [List.getD_eq_getElem?_getD,hs]
   rfl)
  rw [← h1]
  unfold srcC
  rw [List.map_map]
  refine congrArg _ (List.map_congr_left fun r hr=>?_)
  have hrn:=hrl r hr
  show (arrR ord r).getD (ord.getD k 0) (-1)=r.getD k (-1)
  rw [List.getD_eq_getElem?_getD,arrR_get hd (by omega) (fun x hx=>by rw [hrn];exact hlt x hx) (by omega),List.getD_eq_getElem?_getD]
end Go.Proofs.YtmenjpmikhajfaaGreatDoor
namespace Go.Proofs.YtmenjpmikhajfaaGreatDoor

def sumI (g:Nat→Int):List Nat→Int
 | []=>0
 | x::l=>g x+sumI g l
theorem sumI_congr {g h:Nat→Int}:∀ {l:List Nat},(∀ x∈l,g x=h x)→sumI g l=sumI h l
 | [],_=>rfl
 | y::l,e=>by unfold sumI;rw [e y (List.mem_cons_self ..),sumI_congr (l:=l) fun x hx=>e x (List.mem_cons_of_mem _ hx)]
def pS (g:Nat→Nat→Int):List Nat→Int
 | []=>0
 | a::l=>sumI (fun y=>g y a) l+pS g l
theorem psum_append (f:Nat→Nat→Int) (ps:List (Nat × Nat)):∀ qs:List (Nat × Nat),psum f (ps++qs)=psum f ps+psum f qs:=by
 intro qs
 unfold psum
 rw [List.foldl_append]
 generalize List.foldl (fun s p=>s+f p.1 p.2) 0 ps=z
 have key:∀ (qs:List (Nat × Nat)) (z:Int),qs.foldl (fun s p=>s+f p.1 p.2) z=z+qs.foldl (fun s p=>s+f p.1 p.2) 0:=by
  intro qs
  induction qs with
  | nil=>intro z;simp
  | cons q qs ih=>intro z;simp only [List.foldl_cons];rw [ih,ih (0+f q.1 q.2)];omega
 exact key qs z
theorem psum_rowP (f:Nat→Nat→Int) (k:Nat):∀ i,psum f (rowP i k)=sumI (fun q=>f q k) (List.range i).reverse
 | 0=>rfl
 | i+1=>by
  rw [rowP_succ,psum_snoc,psum_rowP f k i,List.range_succ,List.reverse_append,List.reverse_singleton,List.singleton_append]
  simp only [sumI]
  omega
theorem psum_pS (f:Nat→Nat→Int):∀ n,psum f (pairsL n)=pS f (List.range n).reverse
 | 0=>rfl
 | n+1=>by
  rw [pairsL_succ,psum_append,psum_pS f n,psum_rowP,List.range_succ,List.reverse_append,List.reverse_singleton,List.singleton_append]
  simp only [pS]
  omega
theorem pS_congr {g h:Nat→Nat→Int}:∀ {l:List Nat},(∀ x∈l,∀ y∈l,g x y=h x y)→pS g l=pS h l
 | [],_=>rfl
 | a::l,e=>by
  unfold pS
  rw [pS_congr (l:=l) fun x hx y hy=>e x (List.mem_cons_of_mem _ hx) y (List.mem_cons_of_mem _ hy),sumI_congr (h:=fun y=>h y a) fun x hx=>e x (List.mem_cons_of_mem _ hx) a (List.mem_cons_self ..)]
theorem psum_congr {f g:Nat→Nat→Int} {n:Nat} (h:∀ i k,i<n→k<n→f i k=g i k):psum f (pairsL n)=psum g (pairsL n):=by
 rw [psum_pS,psum_pS]
 refine pS_congr fun i hi k hk=>?_
 rw [List.mem_reverse,List.mem_range] at hi hk
 exact h i k hi hk
theorem flat_set {α:Type} (cells:α→List Value) (sz:Nat) (hsz:∀ t,(cells t).length=sz):∀ (l:List α) (i:Nat) (t:α),i<l.length→setL (l.flatMap cells) (i * sz) (cells t)=(l.set i t).flatMap cells
 | [],i,t,h=>by simp at h
 | x::l,0,t,h=>by
  rw [List.set_cons_zero,List.flatMap_cons,List.flatMap_cons,Nat.zero_mul]
  have key:∀ (us xs ys zs:List Value),us.length=xs.length→setL (zs++xs++ys) zs.length us=zs++us++ys:=by
   intro us
   induction us with
   | nil =>
    intro xs ys zs h
    have e:xs=[]:=List.eq_nil_of_length_eq_zero (by simpa using h.symm)
    subst e;simp [setL]
   | cons u us ih =>
    intro xs ys zs h
    obtain⟨x,xs,rfl⟩:∃ y ys,xs=y::ys:=by cases xs with|nil=>simp at h|cons y ys=>exact⟨y,ys,rfl⟩
    simp only [setL]
    have e:(zs++x::xs++ys).set zs.length u=(zs++[u])++xs++ys:=by
     rw [List.append_assoc,List.set_append_right _ _ (Nat.le_refl _),Nat.sub_self];simp
    rw [e,show zs.length+1=(zs++[u]).length by simp,ih xs ys (zs++[u]) (by simpa using h)]
    simp
  have:=key (cells t) (cells x) (l.flatMap cells) [] (by rw [hsz,hsz])
  simpa using this
 | x::l,i+1,t,h=>by
  rw [List.set_cons_succ,List.flatMap_cons,List.flatMap_cons, ← flat_set cells sz hsz l i t (by simpa using h)]
  have key:∀ (us xs ys:List Value) (k:Nat),setL (xs++ys) (xs.length+k) us=xs++setL ys k us:=by
   intro us
   induction us with
   | nil=>intro xs ys k;rfl
   | cons u us ih =>
    intro xs ys k
    simp only [setL]
    rw [List.set_append_right _ _ (by omega),Nat.add_sub_cancel_left,Nat.add_assoc,ih]
  rw [← key,hsz,Nat.succ_mul,Nat.add_comm sz]
theorem flatTok_set (l:List Tok) (i:Nat) (t:Tok) (h:i<l.length):setL (l.flatMap Tok.cells) (i * 6) t.cells=(l.set i t).flatMap Tok.cells:=flat_set Tok.cells 6 (fun _=>rfl) l i t h
end Go.Proofs.YtmenjpmikhajfaaGreatDoor
namespace Go.Proofs.YtmenjpmikhajfaaGreatDoor
open Go.RowKit Go.Shelf Go.Proofs

def zC (c:Costs) (l:List TS) (col:List Int) (i k:Nat):Int:=entC c (tsA l i).l (col.getD i (-1)) (tsA l k).l (col.getD k (-1))
def colZ (c:Costs) (l:List TS) (col:List Int):Int:=psum (zC c l col) (pairsL l.length)
def totZ (c:Costs) (l:List TS) (cols:List (List Int)):Int:=(cols.map (colZ c l)).sum
theorem totZ_cons (c:Costs) (l:List TS) (x:List Int) (cols:List (List Int)):totZ c l (x::cols)=colZ c l x+totZ c l cols:=by unfold totZ;rw [List.map_cons,List.sum_cons]
theorem totZ_app (c:Costs) (l:List TS) (a b:List (List Int)):totZ c l (a++b)=totZ c l a+totZ c l b:=by unfold totZ;rw [List.map_append,List.sum_append]
theorem colZ_bd {c:Costs} (hc:costE c=0) {l:List TS} (hl:l.length≤32) (col:List Int):0≤colZ c l col∧colZ c l col≤1024000:=by
 have h1:=psum_bd (f:=zC c l col) (M:=1000) (by omega) (pairsL l.length) fun p _=>entC_bd hc _ _ _ _
 have h2:=pairsL_len l.length
 have h3:l.length * l.length≤32 * 32:=Nat.mul_le_mul hl hl
 unfold colZ
 omega
theorem totZ_bd {c:Costs} (hc:costE c=0) {l:List TS} (hl:l.length≤32):∀ cols:List (List Int),0≤totZ c l cols∧totZ c l cols≤1024000 * (cols.length:Int)
 | []=>by simp [totZ]
 | x::cols=>by
  have h1:=colZ_bd hc hl x
  have h2:=totZ_bd hc hl cols
  rw [totZ_cons,List.length_cons]
  omega
theorem columnV_Z {c:Costs} (hc:costE c=0) {l:List TS} (hbs:badS l=false) (hln:∀ t∈l,t.l.length=t.n) (hn:l.length≤32) {col:List Int} (hcol:ColOk l col) {own:List Tok} {th:List Bool} (ho:own.length=l.length) (ht:th.length=l.length)
  (h1:∀ i,i<l.length→thA th i=decide (0≤col.getD i (-1))) (h2:∀ i,i<l.length→0≤col.getD i (-1)→tkA own i=tkA (tsA l i).l (col.getD i (-1)).toNat):columnV c own th=(colZ c l col,0):=by
 have hmem:∀ i,i<l.length→0≤col.getD i (-1)→tkA (tsA l i).l (col.getD i (-1)).toNat∈(tsA l i).l:=fun i hi h0=>by
  have hci:col[i]?=some (col.getD i (-1)):=by rw [List.getD_eq_getElem?_getD,List.getElem?_eq_getElem (by rw [hcol.1];exact hi)];rfl
  have hli:l[i]?=some (tsA l i):=by rw [tsA_eq (List.getElem?_eq_getElem hi)];exact List.getElem?_eq_getElem hi
  have:=hcol.2 i _ _ hci hli
  exact tkA_mem2 h0 (by rw [hln _ (tsA_mem hi)];exact this.2)
 have hbad:badCol own th=false:=badCol_false fun j hj hth=>by
  rw [ho] at hj
  rw [h1 j hj] at hth
  have h0:0≤col.getD j (-1):=of_decide_eq_true hth
  rw [h2 j hj h0]
  exact badS_ok hbs _ (tsA_mem hj) _ (hmem j hj h0)
 unfold columnV colZ
 rw [if_neg (by simp [hc]),if_neg (by omega),if_neg (by omega),if_neg (by rw [hbad];simp),ho]
 refine congrArg (fun x=>(x,(0:Int))) (psum_congr fun i k hi hk=>?_)
 unfold cellC zC entC
 rw [h1 i hi,h1 k hk]
 have e1:=h2 i hi
 have e2:=h2 k hk
 generalize col.getD i (-1)=x at e1 ⊢
 generalize col.getD k (-1)=y at e2 ⊢
 by_cases hi0:0≤x
 ·by_cases hk0:0≤y
  ·rw [e1 hi0,e2 hk0];simp [hi0,hk0]
  ·rw [e1 hi0];simp [hi0,hk0]
 ·by_cases hk0:0≤y
  ·rw [e2 hk0];simp [hi0,hk0]
  ·simp [hi0,hk0]
theorem tsA_left {l m:List TS} {i:Nat} (h:i<l.length):tsA (l++m) i=tsA l i:=by unfold tsA;rw [List.getD_eq_getElem?_getD,List.getElem?_append_left h, ← List.getD_eq_getElem?_getD]
theorem tsA_end (l:List TS) (t:TS):tsA (l++[t]) l.length=t:=by unfold tsA;rw [List.getD_eq_getElem?_getD,List.getElem?_append_right (Nat.le_refl _),Nat.sub_self];rfl
theorem getD_left {a b:List Int} {i:Nat} (h:i<a.length):(a++b).getD i (-1)=a.getD i (-1):=by rw [List.getD_eq_getElem?_getD,List.getElem?_append_left h, ← List.getD_eq_getElem?_getD]
theorem getD_end (a:List Int) (z:Int):(a++[z]).getD a.length (-1)=z:=by rw [List.getD_eq_getElem?_getD,List.getElem?_append_right (Nat.le_refl _),Nat.sub_self];rfl
theorem colZ_app (c:Costs) {l:List TS} {col:List Int} (hl:col.length=l.length) (t:TS) (z:Int):colZ c (l++[t]) (col++[z])=colZ c l col+putC c l col t.l z:=by
 unfold colZ
 rw [List.length_append]
 show psum _ (pairsL (l.length+1))=_
 rw [pairsL_succ,psum_append]
 congr 1
 ·refine psum_congr fun i k hi hk=>?_
  unfold zC
  rw [tsA_left hi,tsA_left hk,getD_left (by omega),getD_left (by omega)]
 ·rw [← putS_all c (l:=l) (col:=col) t.l z (Nat.le_refl _)]
  have key:∀ j,j≤l.length→psum (zC c (l++[t]) (col++[z])) (rowP j l.length)=putS c l col t.l z j:=by
   intro j
   induction j with
   | zero=>intro _;rfl
   | succ j ih =>
    intro hj
    have e1:l[j]?=some (tsA l j):=by rw [tsA_eq (List.getElem?_eq_getElem (show j<l.length by omega))];exact List.getElem?_eq_getElem _
    have e2:col[j]?=some (col.getD j (-1)):=by rw [List.getD_eq_getElem?_getD,List.getElem?_eq_getElem (show j<col.length by omega)];rfl
    rw [rowP_succ,psum_snoc,ih (by omega),putS_succ c t.l z e1 e2]
    congr 1
    show zC c (l++[t]) (col++[z]) j l.length=_
    unfold zC
    rw [tsA_left (by omega),tsA_end,getD_left (by omega),show l.length=col.length by omega,getD_end]
  exact key _ (Nat.le_refl _)
theorem psum_zero {f:Nat→Nat→Int} (h:∀ i k,f i k=0) (ps:List (Nat × Nat)):psum f ps=0:=by
 have:=psum_bd (f:=f) (M:=0) (Int.le_refl _) ps fun p _=>by rw [h];omega
 omega
theorem colZ_none (c:Costs) (l:List TS):colZ c l (noneC l.length)=0:=by
 refine psum_zero (fun i k=>?_) _
 have e:∀ i,(noneC l.length).getD i (-1) = -1:=fun i=>by
  unfold noneC
  rw [List.getD_eq_getElem?_getD,List.getElem?_replicate]
  split <;> rfl
 unfold zC entC
 rw [e,e]
 rfl
theorem totZ_add {c:Costs} {l:List TS} {cols:List (List Int)} (hlen:∀ x∈cols,x.length=l.length) (t:TS):∀ i k,i≤cols.length→k≤t.l.length→totZ c (l++[t]) (addV c l cols t.l i k)=totZ c l (cols.drop i)+rst (grdA c l cols t.l) i k:=by
 intro i k
 induction i,k using grd_ind (grdA c l cols t.l) with
 | h i k h10 h01 h11 =>
  intro hi hk
  by_cases he:i<cols.length∨k<t.l.length
  ·obtain⟨x,hx⟩:=fstM_ex (G:=grdA c l cols t.l) (i:=i) (k:=k) he
   obtain⟨hm,hv⟩:=fstM_mem hx
   unfold via at hv
   rw [addV_step hx,totZ_cons, ← hv]
   have hcol:∀ (hi:i<cols.length),(cols.getD i []).length=l.length:=fun hi=>by
    rw [List.getD_eq_getElem?_getD,List.getElem?_eq_getElem hi]
    exact hlen _ (List.getElem_mem hi)
   have hdr:∀ (hi:i<cols.length),totZ c l (cols.drop i)=colZ c l (cols.getD i [])+totZ c l (cols.drop (i+1)):=fun hi=>by
    rw [List.drop_eq_getElem_cons hi,totZ_cons,List.getD_eq_getElem?_getD,List.getElem?_eq_getElem hi];rfl
   rcases mvs_form hm with⟨rfl,f1,f2⟩|⟨rfl,f1⟩|⟨rfl,f1⟩
   ·have f1':i<cols.length:=f1
    have f2':k<t.l.length:=f2
    dsimp only
    rw [h11 f1 f2 (by omega) (by omega),hdr f1']
    unfold colM
    rw [if_pos rfl,if_pos rfl,colZ_app c (hcol f1')]
    show _=_+(putC c l (cols.getD i []) t.l (k:Nat)+_)
    omega
   ·have f1':i<cols.length:=f1
    dsimp only
    simp only [Nat.add_zero]
    rw [h10 f1 (by omega) hk,hdr f1']
    unfold colM
    rw [if_pos rfl,if_neg (show ¬ (0:Nat)=1 by omega),colZ_app c (hcol f1')]
    show _=_+(putC c l (cols.getD i []) t.l (-1)+_)
    omega
   ·have f1':k<t.l.length:=f1
    dsimp only
    simp only [Nat.add_zero]
    rw [h01 f1 hi (by omega)]
    unfold colM
    rw [if_neg (show ¬ (0:Nat)=1 by omega),if_pos rfl,colZ_app c (by unfold noneC;rw [List.length_replicate]),colZ_none]
    show _=_+(putC c l (noneC l.length) t.l (k:Nat)+_)
    omega
  ·rw [addV_end he,List.drop_of_length_le (by omega),rst_none (fun h=>he (.inl h)) (fun h=>he (.inr h))]
   rfl
theorem upto_drop {n p:Nat} (h:p<n):(upto n).drop p=(p:Int)::(upto n).drop (p+1):=by
 rw [List.drop_eq_getElem_cons (by rw [upto_len];exact h)]
 have e:=upto_get h
 rw [List.getElem?_eq_getElem (by rw [upto_len];exact h)] at e
 rw [Option.some.inj e]
def rsum (D:Nat→Nat→Int) (i:Nat):Nat→Int
 | 0=>0
 | k+1=>rsum D i k+if i<k then D i k else 0
def ssum (D:Nat→Nat→Int) (n:Nat):Nat→Int
 | 0=>0
 | i+1=>ssum D n i+rsum D i n
theorem rsum_low (D:Nat→Nat→Int) (i:Nat):∀ k,k≤i+1→rsum D i k=0
 | 0,_=>rfl
 | k+1,h=>by rw [rsum,rsum_low D i k (by omega),if_neg (by omega)];rfl
theorem rsum_bd {D:Nat→Nat→Int} {M:Int} (h0:0≤M) (h:∀ i k,0≤D i k∧D i k≤M) (i:Nat):∀ k:Nat,0≤rsum D i k∧rsum D i k≤M * (k:Int)
 | 0=>by simp [rsum]
 | k+1=>by
  have h1:=rsum_bd h0 h i k
  have h2:=h i k
  have e:M * ((k+1:Nat):Int)=M * (k:Int)+M:=by rw [Int.natCast_succ,Int.mul_add,Int.mul_one]
  rw [e,rsum]
  split <;> omega
theorem ssum_bd {D:Nat→Nat→Int} {M:Int} (h0:0≤M) (h:∀ i k,0≤D i k∧D i k≤M) (n:Nat):∀ i:Nat,0≤ssum D n i∧ssum D n i≤M * (n:Int) * (i:Int)
 | 0=>by simp [ssum]
 | i+1=>by
  have h1:=ssum_bd h0 h n i
  have h2:=rsum_bd h0 h i n
  have e:M * (n:Int) * ((i+1:Nat):Int)=M * (n:Int) * (i:Int)+M * (n:Int):=by rw [Int.natCast_succ,Int.mul_add,Int.mul_one]
  rw [e,ssum]
  omega
end Go.Proofs.YtmenjpmikhajfaaGreatDoor
namespace Go.Proofs.YtmenjpmikhajfaaGreatDoor
open Go.RowKit Go.Shelf Go.Proofs
set_option maxRecDepth 100000
set_option maxHeartbeats 1000000

theorem srcs19a_spec (t:TS) (w:World):Spec Tryz.prog 230 [t.val] w (fun v R=>v = .bool (decide ((1024:Int)<t.n))∧R=[]):=by
 refine spec_of sg Tryz.func230 rfl rfl rfl ?_
 repeat' (first|refine d1 ?_|refine dd ?_|(show ∀ _:Nat,T _ _ _ _ _;intro _)|(show T _ (.code .ret::_) _ _ _;refine T_retV [] rfl (Hle.refl _) ⟨rfl,rfl⟩))
theorem srcs19_spec (A:Option Addr) (n ca:Nat) (l:List TS) (w:World) (hgp:Grp w A n l):Spec Tryz.prog 173 [.slice A n ca] w (fun v R=>v = .int .i64 (if n=0 then 5 else 0)∧R=[]):=by
 refine spec_of sg Tryz.func173 rfl rfl rfl ?_
 have hb:=hgp.hb
 have hno:(l.any fun t=>decide ((1024:Int)<t.n))=false:=by
  rw [List.any_eq_false]
  intro t ht
  have:=hgp.nb t ht
  simp;omega
 repeat' (first|refine d1 ?_|refine dd ?_|(show ∀ _:Nat,T _ _ _ _ _;intro _))
 refine T_if rfl (fun h=>?_) (fun h=>?_)
 ·simp only [decide_eq_true_eq] at h
  repeat' (first|refine d1 ?_|refine dd ?_|(show ∀ _:Nat,T _ _ _ _ _;intro _)|(show T _ (.code .ret::_) _ _ _;refine T_retV [] rfl (Hle.refl _) ⟨congrArg (Value.int .i64) (if_pos (by omega)).symm,rfl⟩))
 simp only [decide_eq_false_iff_not] at h
 repeat' (first|refine d1 ?_|refine dd ?_|(show T _ (.ops _ (_::_)::_) _ _ _;first|refine T_call rfl rfl rfl rfl rfl (fun w hw=>containsFuncS_spec A n ca l _ [] [] (fun t=>decide ((1024:Int)<t.n)) w (rdSrc hgp.hs w hw) hgp.hn (by omega) (fun x hx w' hb'=>srcs19a_spec x w')) ?_|refine T_callC rfl rfl rfl rfl rfl rfl rfl (fun hg w hw=>containsFuncS_spec A n ca l _ [] [] (fun t=>decide ((1024:Int)<t.n)) w (rdSrc hgp.hs w hw) hgp.hn (by omega) (fun x hx w' hb'=>srcs19a_spec x w')) ?_)|(show T _ (.run _ _ (_::_) _ _::_) _ _ _;first|refine rc rfl rfl rfl rfl rfl rfl rfl (fun w hw=>containsFuncS_spec A n ca l _ [] [] (fun t=>decide ((1024:Int)<t.n)) w (rdSrc hgp.hs w hw) hgp.hn (by omega) (fun x hx w' hb'=>srcs19a_spec x w')) ?_|refine rcG rfl rfl rfl rfl rfl rfl rfl rfl rfl (fun hg w hw=>containsFuncS_spec A n ca l _ [] [] (fun t=>decide ((1024:Int)<t.n)) w (rdSrc hgp.hs w hw) hgp.hn (by omega) (fun x hx w' hb'=>srcs19a_spec x w')) ?_)|(show ∀ _:Nat,T _ _ _ _ _;intro _))
 refine T_if rfl (fun h1=>?_) (fun h1=>?_)
 ·exfalso
  rw [hno] at h1
  simp at h1
  omega
 ·repeat' (first|refine d1 ?_|refine dd ?_|(show ∀ _:Nat,T _ _ _ _ _;intro _)|(show T _ (.code .ret::_) _ _ _;refine T_retV [] rfl (Hle.refl _) ⟨congrArg (Value.int .i64) (if_neg (by omega)).symm,rfl⟩))
theorem usable1_spec (t:Tok) (ht:t.small) (w:World) (hst:Std w):Spec Tryz.prog 174 [t.val] w (fun v A=>v = .bool (!decide (tokE t=0))∧A=[]):=by
 refine spec_of sg Tryz.func174 rfl rfl rfl ?_
 repeat' (first|(show T _ (.ops _ (⟨_, .box _ _,_,_,_,_⟩::_)::_) _ _ _;refine T_op (OpT.box (cs:=t.cells) rfl rfl rfl rfl rfl rfl rfl (fun _=>?_)))|refine d1 ?_|refine dd ?_|(show T _ (.ops _ (_::_)::_) _ _ _;first|refine T_call rfl rfl rfl rfl rfl (fun w hw=>tokPrg_spec t ht w (hst.cls hw)) ?_|refine T_callC rfl rfl rfl rfl rfl rfl rfl (fun hg w hw=>tokPrg_spec t ht w (hst.cls hw)) ?_)|(show T _ (.run _ _ (_::_) _ _::_) _ _ _;first|refine rc rfl rfl rfl rfl rfl rfl rfl (fun w hw=>tokPrg_spec t ht w (hst.cls hw)) ?_|refine rcG rfl rfl rfl rfl rfl rfl rfl rfl rfl (fun hg w hw=>tokPrg_spec t ht w (hst.cls hw)) ?_)|(show ∀ _:Nat,T _ _ _ _ _;intro _)|(show T _ (.code .ret::_) _ _ _;refine T_retV [] rfl (Hle.none _) ⟨rfl,rfl⟩))
theorem usable2_spec (A:Option Addr) (n c:Nat) (l:List Tok) (p:Nat) (w:World) (hst:Std w) (hs:Src w 6 A n (l.flatMap Tok.cells)) (hn:l.length=n) (hb:n≤9223372036854775807) (hsm:∀ x∈l,x.small) (hp:RdC w p 0 [.func (.func 174) #[] #[]]) :
  Spec Tryz.prog 175 [.slice A n c, .pointer (some ⟨p,0,none⟩)] w (fun v R=>v = .bool (badL l)∧R=[]):=by
 refine spec_of sg Tryz.func175 rfl rfl rfl ?_
 repeat' (first|refine d1 ?_|refine dd ?_|(show T _ (.ops _ (_::_)::_) _ _ _;first|refine T_call rfl rfl rfl rfl rfl (fun w hw=>containsFuncT_spec A n c l _ [] [] (fun t => !decide (tokE t=0)) w (rdSrc hs w hw) hn hb (fun x hx w' hb'=>usable1_spec x (hsm x hx) w' (hst.below (hw.below.trans (hb'.mono hw.below.size))))) ?_|refine T_callC rfl rfl rfl rfl rfl rfl rfl (fun hg w hw=>containsFuncT_spec A n c l _ [] [] (fun t => !decide (tokE t=0)) w (rdSrc hs w hw) hn hb (fun x hx w' hb'=>usable1_spec x (hsm x hx) w' (hst.below (hw.below.trans (hb'.mono hw.below.size))))) ?_)|(show T _ (.run _ _ (_::_) _ _::_) _ _ _;first|refine rc rfl rfl rfl rfl rfl rfl rfl (fun w hw=>containsFuncT_spec A n c l _ [] [] (fun t => !decide (tokE t=0)) w (rdSrc hs w hw) hn hb (fun x hx w' hb'=>usable1_spec x (hsm x hx) w' (hst.below (hw.below.trans (hb'.mono hw.below.size))))) ?_|refine rcG rfl rfl rfl rfl rfl rfl rfl rfl rfl (fun hg w hw=>containsFuncT_spec A n c l _ [] [] (fun t => !decide (tokE t=0)) w (rdSrc hs w hw) hn hb (fun x hx w' hb'=>usable1_spec x (hsm x hx) w' (hst.below (hw.below.trans (hb'.mono hw.below.size))))) ?_)|(show ∀ _:Nat,T _ _ _ _ _;intro _)|(show T _ (.code .ret::_) _ _ _;refine T_retV [] rfl (Hle.none _) ⟨rfl,rfl⟩))
def usV (c:Costs) (l:List TS):Int:=if l.length=0 then 5 else ck21 c l
theorem usable19_spec (c:Costs) (A:Option Addr) (n ca:Nat) (l:List TS) (w:World) (hgp:Grp w A n l):Spec Tryz.prog 100 [c.val, .slice A n ca] w (fun v R=>v = .int .i64 (usV c l)∧R=[]):=by
 refine spec_of sg Tryz.func100 rfl rfl rfl ?_
 have hn:=hgp.hn
 have hb:=hgp.hb
 repeat' (first|(show T _ (.ops _ (⟨_, .box _ _,_,_,_,_⟩::_)::_) _ _ _;refine T_op (OpT.box (cs:=c.cells) rfl rfl rfl rfl rfl rfl rfl (fun _=>?_)))|refine d1 ?_|refine dd ?_|(show T _ (.ops _ (_::_)::_) _ _ _;first|refine T_call rfl rfl rfl rfl rfl (fun w hw=>srcs19_spec A n ca l w (hgp.cls hw)) ?_|refine T_callC rfl rfl rfl rfl rfl rfl rfl (fun hg w hw=>srcs19_spec A n ca l w (hgp.cls hw)) ?_)|(show T _ (.run _ _ (_::_) _ _::_) _ _ _;first|refine rc rfl rfl rfl rfl rfl rfl rfl (fun w hw=>srcs19_spec A n ca l w (hgp.cls hw)) ?_|refine rcG rfl rfl rfl rfl rfl rfl rfl rfl rfl (fun hg w hw=>srcs19_spec A n ca l w (hgp.cls hw)) ?_)|(show ∀ _:Nat,T _ _ _ _ _;intro _))
 refine T_if rfl (fun h=>?_) (fun h=>?_)
 ·simp only [Bool.not_eq_true',decide_eq_false_iff_not] at h
  have h0:n=0:=by
   rcases Nat.eq_zero_or_pos n with h9|h9
   ·exact h9
   ·exact absurd (if_neg (by omega)) h
  rw [if_pos h0]
  repeat' (first|refine d1 ?_|refine dd ?_|(show ∀ _:Nat,T _ _ _ _ _;intro _)|(show T _ (.code .ret::_) _ _ _;refine T_retV [] rfl (Hle.none _) ⟨congrArg (Value.int .i64) (if_pos (by omega)).symm,rfl⟩))
 simp only [Bool.not_eq_false',decide_eq_true_eq] at h
 have h0:n≠0:=fun h9=>by rw [if_pos h9] at h;omega
 clear h
 repeat' (first|refine d1 ?_|refine dd ?_|(show T _ (.ops _ (_::_)::_) _ _ _;first|refine T_call rfl rfl rfl rfl rfl (fun w hw=>costPrg_spec c w) ?_|refine T_callC rfl rfl rfl rfl rfl rfl rfl (fun hg w hw=>costPrg_spec c w) ?_|refine T_call rfl rfl rfl rfl rfl (fun w hw=>containsFuncS_spec A n ca l _ [] [_] (fun t=>badL t.l) w (rdSrc hgp.hs w hw) hgp.hn (by omega) (fun x hx w' hb'=>usable2_spec x.A x.n x.cap x.l _ w' (hgp.hst.below (hw.below.trans (hb'.mono hw.below.size))) (src_below (hgp.ok.src x hx) (hw.below.trans (hb'.mono hw.below.size))) (hgp.ok.len x hx) (hgp.ok.bd x hx) (hgp.sm x hx) ((rdOwn1 (u := .func (.func 174) #[] #[]) rfl w hw).below hb'))) ?_|refine T_callC rfl rfl rfl rfl rfl rfl rfl (fun hg w hw=>containsFuncS_spec A n ca l _ [] [_] (fun t=>badL t.l) w (rdSrc hgp.hs w hw) hgp.hn (by omega) (fun x hx w' hb'=>usable2_spec x.A x.n x.cap x.l _ w' (hgp.hst.below (hw.below.trans (hb'.mono hw.below.size))) (src_below (hgp.ok.src x hx) (hw.below.trans (hb'.mono hw.below.size))) (hgp.ok.len x hx) (hgp.ok.bd x hx) (hgp.sm x hx) ((rdOwn1 (u := .func (.func 174) #[] #[]) rfl w hw).below hb'))) ?_)|(show T _ (.run _ _ (_::_) _ _::_) _ _ _;first|refine rc rfl rfl rfl rfl rfl rfl rfl (fun w hw=>costPrg_spec c w) ?_|refine rcG rfl rfl rfl rfl rfl rfl rfl rfl rfl (fun hg w hw=>costPrg_spec c w) ?_|refine rc rfl rfl rfl rfl rfl rfl rfl (fun w hw=>containsFuncS_spec A n ca l _ [] [_] (fun t=>badL t.l) w (rdSrc hgp.hs w hw) hgp.hn (by omega) (fun x hx w' hb'=>usable2_spec x.A x.n x.cap x.l _ w' (hgp.hst.below (hw.below.trans (hb'.mono hw.below.size))) (src_below (hgp.ok.src x hx) (hw.below.trans (hb'.mono hw.below.size))) (hgp.ok.len x hx) (hgp.ok.bd x hx) (hgp.sm x hx) ((rdOwn1 (u := .func (.func 174) #[] #[]) rfl w hw).below hb'))) ?_|refine rcG rfl rfl rfl rfl rfl rfl rfl rfl rfl (fun hg w hw=>containsFuncS_spec A n ca l _ [] [_] (fun t=>badL t.l) w (rdSrc hgp.hs w hw) hgp.hn (by omega) (fun x hx w' hb'=>usable2_spec x.A x.n x.cap x.l _ w' (hgp.hst.below (hw.below.trans (hb'.mono hw.below.size))) (src_below (hgp.ok.src x hx) (hw.below.trans (hb'.mono hw.below.size))) (hgp.ok.len x hx) (hgp.ok.bd x hx) (hgp.sm x hx) ((rdOwn1 (u := .func (.func 174) #[] #[]) rfl w hw).below hb'))) ?_)|(show ∀ _:Nat,T _ _ _ _ _;intro _))
 refine T_if rfl (fun h1=>?_) (fun h1=>?_)
 ·repeat' (first|refine d1 ?_|refine dd ?_|(show ∀ _:Nat,T _ _ _ _ _;intro _)|(show T _ (.code .ret::_) _ _ _;refine T_retV [] rfl (Hle.none _) ⟨congrArg (Value.int .i64) ?_,rfl⟩))
  unfold usV ck21
  rw [if_neg (by omega),if_neg]
  rintro⟨e1,e2⟩
  unfold badS at e2
  rw [e2] at h1
  simp [e1] at h1
 ·repeat' (first|refine d1 ?_|refine dd ?_|(show ∀ _:Nat,T _ _ _ _ _;intro _)|(show T _ (.code .ret::_) _ _ _;refine T_retV [] rfl (Hle.none _) ⟨congrArg (Value.int .i64) ?_,rfl⟩))
  unfold usV ck21
  rw [if_neg (by omega),if_pos]
  unfold badS
  simpa using h1
noncomputable def okC (l:List TS) (cols:List (List Int)):Bool:=@decide (ColsOk (lens l) cols) (Classical.propDecidable _)
theorem okC_true {l:List TS} {cols:List (List Int)} (h:ColsOk (lens l) cols):okC l cols=true:=by unfold okC;exact @decide_eq_true _ (Classical.propDecidable _) h
theorem okC_false {l:List TS} {cols:List (List Int)} (h:¬ ColsOk (lens l) cols):okC l cols=false:=by unfold okC;exact @decide_eq_false _ (Classical.propDecidable _) h
theorem aligned19_spec (A:Option Addr) (n ca:Nat) (l:List TS) (x:Value) (cols:List (List Int)) (w:World) (hg:Grp w A n l) (hx:Rd (wr w) [x] [rowsD cols]) :
  Spec Tryz.prog 132 [.slice A n ca,x] w (fun v R=>v = .bool (okC l cols)∧R=[]):=by
 obtain⟨Ak,ck,csk,rfl,hck1,hck2,hcs,hrows⟩:=hx.tabS
 have hb:=hg.hb
 have hn:=hg.hn
 refine spec_of sg Tryz.func132 rfl rfl rfl ?_
 have hbad:∀ (H:¬ ColsOk (lens l) cols),okC l cols=false:=fun H=>okC_false H
 repeat' (first|refine d1 ?_|refine dd ?_|(show T _ (.ops _ (_::_)::_) _ _ _;refine T_op (OpT.make rfl rfl rfl rfl rfl rfl rfl rfl rfl (by dsimp only;omega) (fun b1=>?_)))|(show ∀ _:Nat,T _ _ _ _ _;intro _))
 have hz:List.replicate n (Value.int .i64 0)=valV (fun s=>(atC cols 0 0 s:Nat)) n:=by
  rw [valV_replicate];exact valV_ext fun q _=>by rw [atC_zero];rfl
 refine T_loopX (fun i:Nat=>[(17, .int .i64 i)]) (fun i=>[blk b1 (valV (fun s=>(atC cols i 0 s:Nat)) n) 3]) (fun i=>i≤cols.length∧PreOk (lens l) cols i 0∧(∀ y∈cols.take i,y.length=n)∧∀ y∈cols.take i,∃ z∈y,z ≠ -1) (fun i=>cols.length - i) 0 ⟨Nat.zero_le _,PreOk.start _ _,fun y h=>by simp at h,fun y h=>by simp at h⟩ ?_ (hG:=by rw [← hz];exact Hle.refl _)
 rintro i ⟨hi,hpre,hlen,hsome⟩
 repeat' (first|refine d1 ?_|refine dd ?_|(show ∀ _:Nat,T _ _ _ _ _;intro _))
 refine T_if rfl (fun h1=>?_) (fun h1=>?_)
 ·simp only [decide_eq_true_eq] at h1
  have hin:i<cols.length:=by omega
  obtain⟨b,o,rfl⟩:=hcs.base (by omega)
  obtain⟨r,hr⟩:∃ r,cols[i]?=some r:=⟨_,List.getElem?_eq_getElem hin⟩
  have hrm:=List.mem_of_getElem? hr
  obtain⟨Au,capu,hu,hcapu,hcapu2,hA⟩:=hrows.tabRow hr
  have hr0:=rowHd hcs hin hu
  have hsr:=rowSrc hA
  repeat' (first|refine d1 ?_|refine dd ?_|(show ∀ _:Nat,T _ _ _ _ _;intro _))
  refine T_if rfl (fun h2=>?_) (fun h2=>?_)
  ·simp only [Bool.not_eq_true',decide_eq_false_iff_not] at h2
   repeat' (first|refine d1 ?_|refine dd ?_|(show ∀ _:Nat,T _ _ _ _ _;intro _)|(show T _ (.code .ret::_) _ _ _;refine T_retV [] rfl (Hle.none _) ⟨by rw [hbad fun hc=>h2 (by have:=hc.len r hrm;rw [lens_len] at this;omega)];rfl,rfl⟩))
  simp only [Bool.not_eq_false',decide_eq_true_eq] at h2
  have hrl:r.length=n:=by omega
  repeat' (first|refine d1 ?_|refine dd ?_|(show ∀ _:Nat,T _ _ _ _ _;intro _))
  refine T_loopX (fun k:Nat=>[(28, .int .i64 k),(8, .bool ((r.take k).any fun z=>decide (z ≠ -1)))]) (fun k=>[blk b1 (valV (fun s=>(atC cols i k s:Nat)) n) 3]) (fun k=>k≤n∧PreOk (lens l) cols i k) (fun k=>n - k) 0 ⟨Nat.zero_le _,hpre⟩ ?_
  rintro k ⟨hk,hp⟩
  repeat' (first|refine d1 ?_|refine dd ?_|(show ∀ _:Nat,T _ _ _ _ _;intro _))
  refine T_if rfl (fun h3=>?_) (fun h3=>?_)
  ·simp only [decide_eq_true_eq] at h3
   have hkn:k<n:=by omega
   obtain⟨bu,ou,rfl⟩:=hsr.base (by omega)
   obtain⟨z,hzk⟩:∃ z,r[k]?=some z:=⟨_,List.getElem?_eq_getElem (by omega)⟩
   have hr1:=src_int hsr (by omega) hzk
   have htk:=take_snoc _ _ _ hzk
   repeat' (first|refine d1 ?_|refine dd ?_|(show ∀ _:Nat,T _ _ _ _ _;intro _))
   refine T_if rfl (fun h4=>?_) (fun h4=>?_)
   ·simp only [decide_eq_true_eq] at h4
    subst h4
    repeat' (first|refine d1 ?_|refine dd ?_|(show ∀ _:Nat,T _ _ _ _ _;intro _))
    refine T_backX (k+1) ⟨hkn,hp.gap hr hzk⟩ (by omega) (hE:=⟨rfl,by rw [show ((r.take (k+1)).any fun z=>decide (z ≠ -1))=(r.take k).any fun z=>decide (z ≠ -1) by rw [htk,List.any_append];simp];rfl,trivial⟩) (hG:=?_)
    have e:valV (fun s=>(atC cols i (k+1) s:Nat)) n=valV (fun s=>(atC cols i k s:Nat)) n:=valV_ext fun q _=>by
     by_cases e:q=k
     ·rw [e,atC_gap hr hzk]
     ·rw [atC_other e]
    rw [e]
    exact Hle.refl _
   simp only [decide_eq_false_iff_not] at h4
   obtain⟨bs,os,rfl⟩:=hg.hs.base (by omega)
   obtain⟨t,ht,htm,hrt⟩:=hg.get hkn
   have htb:=hg.nb t htm
   repeat' (first|refine d1 ?_|refine dd ?_|(show T _ (.ops _ (_::_)::_) _ _ _;first|refine T_val rfl (Val.load rfl (fun hg=>rdOwn1 (b:=b1) (u := .int .i64 (atC cols i k k:Nat)) (by rw [show 0+(k:Int).toNat * 1=k by omega];exact valV_get hkn))) rfl rfl rfl ?_|refine T_valC rfl (Val.load rfl (fun hg=>rdOwn1 (b:=b1) (u := .int .i64 (atC cols i k k:Nat)) (by rw [show 0+(k:Int).toNat * 1=k by omega];exact valV_get hkn))) rfl rfl rfl rfl rfl ?_)|(show T _ (.run _ _ (_::_) _ _::_) _ _ _;first|refine rv rfl rfl rfl (Val.load rfl (fun hg=>rdOwn1 (b:=b1) (u := .int .i64 (atC cols i k k:Nat)) (by rw [show 0+(k:Int).toNat * 1=k by omega];exact valV_get hkn))) rfl rfl rfl ?_|refine rg rfl rfl rfl (Val.load rfl (fun hg=>rdOwn1 (b:=b1) (u := .int .i64 (atC cols i k k:Nat)) (by rw [show 0+(k:Int).toNat * 1=k by omega];exact valV_get hkn))) rfl rfl rfl rfl rfl ?_)|(show ∀ _:Nat,T _ _ _ _ _;intro _))
   refine T_if rfl (fun h5=>?_) (fun h5=>?_)
   ·simp only [Bool.or_eq_true,Bool.not_eq_true',decide_eq_false_iff_not,decide_eq_true_eq] at h5
    repeat' (first|refine d1 ?_|refine dd ?_|(show ∀ _:Nat,T _ _ _ _ _;intro _)|(show T _ (.code .ret::_) _ _ _;refine T_retV [] rfl (Hle.none _) ⟨by rw [hbad fun hc=>by have:=hp.bad hr hzk h4 (lens_get ht) hc;omega];rfl,rfl⟩))
   simp only [Bool.or_eq_false_iff,Bool.not_eq_false',decide_eq_true_eq,decide_eq_false_iff_not] at h5
   repeat' (first|refine d1 ?_|refine dd ?_|(show T _ (.ops _ (_::_)::_) _ _ _;first|refine T_val rfl (Val.load rfl (fun hg=>rdOwn1 (b:=b1) (u := .int .i64 (atC cols i k k:Nat)) (by rw [show 0+(k:Int).toNat * 1=k by omega];exact valV_get hkn))) rfl rfl rfl ?_|refine T_valC rfl (Val.load rfl (fun hg=>rdOwn1 (b:=b1) (u := .int .i64 (atC cols i k k:Nat)) (by rw [show 0+(k:Int).toNat * 1=k by omega];exact valV_get hkn))) rfl rfl rfl rfl rfl ?_|refine T_op (OpT.store rfl rfl rfl rfl (by rw [valV_length];omega) ?_))|(show T _ (.run _ _ (_::_) _ _::_) _ _ _;first|refine rv rfl rfl rfl (Val.load rfl (fun hg=>rdOwn1 (b:=b1) (u := .int .i64 (atC cols i k k:Nat)) (by rw [show 0+(k:Int).toNat * 1=k by omega];exact valV_get hkn))) rfl rfl rfl ?_|refine rg rfl rfl rfl (Val.load rfl (fun hg=>rdOwn1 (b:=b1) (u := .int .i64 (atC cols i k k:Nat)) (by rw [show 0+(k:Int).toNat * 1=k by omega];exact valV_get hkn))) rfl rfl rfl rfl rfl ?_)|(show ∀ _:Nat,T _ _ _ _ _;intro _))
   refine T_backX (k+1) ⟨hkn,hp.tok hr hzk h4 h5.1 (fun m hm=>by rw [lens_get ht] at hm;cases hm;omega)⟩ (by omega) (hE:=⟨rfl,by rw [show ((r.take (k+1)).any fun z=>decide (z ≠ -1))=true by rw [htk,List.any_append];simp [h4]];rfl,trivial⟩) (hG:=?_)
   rw [show 0+(k:Int).toNat * 1=k by omega,valV_put]
   have e:valV (fun s=>(atC cols i (k+1) s:Nat)) n=valV (fun q=>if q=k then (atC cols i k k:Int)+1 else (atC cols i k q:Nat)) n:=valV_ext fun q _=>by
    by_cases e:q=k
    ·subst e;rw [if_pos rfl,atC_tok hr hzk h4];rfl
    ·rw [if_neg e,atC_other e]
   rw [e]
   exact Hle.refl _
  ·simp only [decide_eq_false_iff_not] at h3
   obtain rfl:k=n:=by omega
   rw [List.take_of_length_le (by omega)]
   repeat' (first|refine d1 ?_|refine dd ?_|(show ∀ _:Nat,T _ _ _ _ _;intro _))
   refine T_if rfl (fun h4=>?_) (fun h4=>?_)
   ·simp only [Bool.not_eq_true'] at h4
    repeat' (first|refine d1 ?_|refine dd ?_|(show ∀ _:Nat,T _ _ _ _ _;intro _)|(show T _ (.code .ret::_) _ _ _;refine T_retV [] rfl (Hle.none _) ⟨by rw [hbad fun hc=>by obtain⟨z,hz1,hz2⟩:=hc.some_ r hrm;rw [List.any_eq_false] at h4;exact h4 z hz1 (by simpa using hz2)];rfl,rfl⟩))
   simp only [Bool.not_eq_false'] at h4
   rw [List.any_eq_true] at h4
   obtain⟨z,hz1,hz2⟩:=h4
   repeat' (first|refine d1 ?_|refine dd ?_|(show ∀ _:Nat,T _ _ _ _ _;intro _))
   have htk:=take_snoc _ _ _ hr
   refine T_backX (i+1) ⟨hin,PreOk.row (by rw [lens_len,hn];exact hp),fun y hy=>?_,fun y hy=>?_⟩ (by omega) (hG:=?_)
   ·rw [htk,List.mem_append,List.mem_singleton] at hy
    rcases hy with hy|rfl
    ·exact hlen y hy
    ·exact hrl
   ·rw [htk,List.mem_append,List.mem_singleton] at hy
    rcases hy with hy|rfl
    ·exact hsome y hy
    ·exact⟨z,hz1,by simpa using hz2⟩
   ·have e:valV (fun s=>(atC cols i k s:Nat)) k=valV (fun s=>(atC cols (i+1) 0 s:Nat)) k:=valV_ext fun q hq=>by rw [atC_row hq]
    rw [e]
    exact Hle.refl _
 simp only [decide_eq_false_iff_not] at h1
 obtain rfl:i=cols.length:=by omega
 rw [List.take_of_length_le (Nat.le_refl _)] at hlen hsome
 repeat' (first|refine d1 ?_|refine dd ?_|(show ∀ _:Nat,T _ _ _ _ _;intro _))
 refine T_loopX (fun k:Nat=>[(62, .int .i64 k)]) (fun _=>[blk b1 (valV (fun s=>(atC cols cols.length 0 s:Nat)) n) 3]) (fun k=>k≤n∧∀ s m,s<k→(lens l)[s]?=some m→atC cols cols.length 0 s=m) (fun k=>n - k) 0 ⟨Nat.zero_le _,fun s m h=>by omega⟩ ?_
 rintro k ⟨hk,hall⟩
 repeat' (first|refine d1 ?_|refine dd ?_|(show ∀ _:Nat,T _ _ _ _ _;intro _))
 refine T_if rfl (fun h3=>?_) (fun h3=>?_)
 ·simp only [decide_eq_true_eq] at h3
  have hkn:k<n:=by omega
  obtain⟨bs,os,rfl⟩:=hg.hs.base (by omega)
  obtain⟨t,ht,htm,hrt⟩:=hg.get hkn
  repeat' (first|refine d1 ?_|refine dd ?_|(show T _ (.ops _ (_::_)::_) _ _ _;first|refine T_val rfl (Val.load rfl (fun hg=>rdOwn1 (b:=b1) (u := .int .i64 (atC cols cols.length 0 k:Nat)) (by rw [show 0+(k:Int).toNat * 1=k by omega];exact valV_get hkn))) rfl rfl rfl ?_|refine T_valC rfl (Val.load rfl (fun hg=>rdOwn1 (b:=b1) (u := .int .i64 (atC cols cols.length 0 k:Nat)) (by rw [show 0+(k:Int).toNat * 1=k by omega];exact valV_get hkn))) rfl rfl rfl rfl rfl ?_)|(show T _ (.run _ _ (_::_) _ _::_) _ _ _;first|refine rv rfl rfl rfl (Val.load rfl (fun hg=>rdOwn1 (b:=b1) (u := .int .i64 (atC cols cols.length 0 k:Nat)) (by rw [show 0+(k:Int).toNat * 1=k by omega];exact valV_get hkn))) rfl rfl rfl ?_|refine rg rfl rfl rfl (Val.load rfl (fun hg=>rdOwn1 (b:=b1) (u := .int .i64 (atC cols cols.length 0 k:Nat)) (by rw [show 0+(k:Int).toNat * 1=k by omega];exact valV_get hkn))) rfl rfl rfl rfl rfl ?_)|(show ∀ _:Nat,T _ _ _ _ _;intro _))
  refine T_if rfl (fun h4=>?_) (fun h4=>?_)
  ·simp only [Bool.not_eq_true',decide_eq_false_iff_not] at h4
   repeat' (first|refine d1 ?_|refine dd ?_|(show ∀ _:Nat,T _ _ _ _ _;intro _)|(show T _ (.code .ret::_) _ _ _;refine T_retV [] rfl (Hle.none _) ⟨by rw [hbad fun hc=>h4 (by have h5:=hc.src k t.n (lens_get ht);have h6:=(hpre k t.n (lens_get ht)).1;rw [if_neg (by omega),List.take_of_length_le (Nat.le_refl _),h5] at h6;have:=congrArg List.length h6;rw [upto_len,upto_len] at this;omega)];rfl,rfl⟩))
  simp only [Bool.not_eq_false',decide_eq_true_eq] at h4
  repeat' (first|refine d1 ?_|refine dd ?_|(show ∀ _:Nat,T _ _ _ _ _;intro _))
  refine T_backX (k+1) ⟨hkn,fun s m hs hm=>?_⟩ (by omega)
  rcases Nat.lt_or_ge s k with h5|h5
  ·exact hall s m h5 hm
  ·rw [show s=k by omega] at hm ⊢
   rw [lens_get ht] at hm
   cases hm
   omega
 ·simp only [decide_eq_false_iff_not] at h3
  have hok:ColsOk (lens l) cols:=hpre.all (fun y hy=>by rw [lens_len,hn];exact hlen y hy) hsome fun s m hm=>hall s m (by have:=(List.getElem?_eq_some_iff.1 hm).1;rw [lens_len] at this;omega) hm
  repeat' (first|refine d1 ?_|refine dd ?_|(show ∀ _:Nat,T _ _ _ _ _;intro _)|(show T _ (.code .ret::_) _ _ _;refine T_retV [] rfl (Hle.none _) ⟨by rw [okC_true hok];rfl,rfl⟩))
theorem chkC_okC {l:List TS} {cols:List (List Int)} (h0:l.length≠0):chkC l cols=if okC l cols=true then 0 else 19:=by
 by_cases h:ColsOk (lens l) cols
 ·rw [chkC_ok h0 h,okC_true h];rfl
 ·rw [chkC_bad h0 h,okC_false h];rfl
theorem check19_spec (A:Option Addr) (n ca:Nat) (l:List TS) (x:Value) (cols:List (List Int)) (w:World) (hg:Grp w A n l) (hx:Rd (wr w) [x] [rowsD cols]) :
  Spec Tryz.prog 131 [.slice A n ca,x] w (fun v R=>v = .int .i64 (chkC l cols)∧R=[]):=by
 have hn:=hg.hn
 refine spec_of sg Tryz.func131 rfl rfl rfl ?_
 repeat' (first|refine d1 ?_|refine dd ?_|(show T _ (.ops _ (_::_)::_) _ _ _;first|refine T_call rfl rfl rfl rfl rfl (fun w hw=>srcs19_spec A n ca l w (hg.cls hw)) ?_|refine T_callC rfl rfl rfl rfl rfl rfl rfl (fun hg w hw=>srcs19_spec A n ca l w (hg.cls hw)) ?_)|(show T _ (.run _ _ (_::_) _ _::_) _ _ _;first|refine rc rfl rfl rfl rfl rfl rfl rfl (fun w hw=>srcs19_spec A n ca l w (hg.cls hw)) ?_|refine rcG rfl rfl rfl rfl rfl rfl rfl rfl rfl (fun hg w hw=>srcs19_spec A n ca l w (hg.cls hw)) ?_)|(show ∀ _:Nat,T _ _ _ _ _;intro _))
 refine T_if rfl (fun h=>?_) (fun h=>?_)
 ·simp only [Bool.not_eq_true',decide_eq_false_iff_not] at h
  have h0:n=0:=by
   rcases Nat.eq_zero_or_pos n with h9|h9
   ·exact h9
   ·exact absurd (if_neg (by omega)) h
  rw [if_pos h0]
  repeat' (first|refine d1 ?_|refine dd ?_|(show ∀ _:Nat,T _ _ _ _ _;intro _)|(show T _ (.code .ret::_) _ _ _;refine T_retV [] rfl (Hle.refl _) ⟨by rw [chkC_zero (by omega)];rfl,rfl⟩))
 simp only [Bool.not_eq_false',decide_eq_true_eq] at h
 have h0:n≠0:=fun h9=>by rw [if_pos h9] at h;omega
 clear h
 repeat' (first|refine d1 ?_|refine dd ?_|(show T _ (.ops _ (_::_)::_) _ _ _;first|refine T_call rfl rfl rfl rfl rfl (fun w hw=>aligned19_spec A n ca l x cols w (hg.cls hw) (hx.old hw)) ?_|refine T_callC rfl rfl rfl rfl rfl rfl rfl (fun hg w hw=>aligned19_spec A n ca l x cols w (hg.cls hw) (hx.old hw)) ?_)|(show T _ (.run _ _ (_::_) _ _::_) _ _ _;first|refine rc rfl rfl rfl rfl rfl rfl rfl (fun w hw=>aligned19_spec A n ca l x cols w (hg.cls hw) (hx.old hw)) ?_|refine rcG rfl rfl rfl rfl rfl rfl rfl rfl rfl (fun hg w hw=>aligned19_spec A n ca l x cols w (hg.cls hw) (hx.old hw)) ?_)|(show ∀ _:Nat,T _ _ _ _ _;intro _))
 refine T_if rfl (fun h1=>?_) (fun h1=>?_)
 ·repeat' (first|refine d1 ?_|refine dd ?_|(show ∀ _:Nat,T _ _ _ _ _;intro _)|(show T _ (.code .ret::_) _ _ _;refine T_retV [] rfl (Hle.refl _) ⟨by rw [chkC_okC (by omega),if_neg (by simpa using h1)];rfl,rfl⟩))
 ·repeat' (first|refine d1 ?_|refine dd ?_|(show ∀ _:Nat,T _ _ _ _ _;intro _)|(show T _ (.code .ret::_) _ _ _;refine T_retV [] rfl (Hle.refl _) ⟨by rw [chkC_okC (by omega),if_pos (by simpa using h1)];rfl,rfl⟩))
end Go.Proofs.YtmenjpmikhajfaaGreatDoor
namespace Go.Proofs.YtmenjpmikhajfaaGreatDoor
open Go.RowKit Go.Shelf Go.Proofs
set_option maxRecDepth 100000
set_option maxHeartbeats 1000000

def ownJ (l:List TS) (col:List Int) (k:Nat):List Tok:=(List.range l.length).map fun s=>if s<k∧0≤col.getD s (-1) then tkA (tsA l s).l (col.getD s (-1)).toNat else noTok
def thJ (l:List TS) (col:List Int) (k:Nat):List Bool:=(List.range l.length).map fun s=>decide (s<k∧0≤col.getD s (-1))
theorem ownJ_len (l:List TS) (col:List Int) (k:Nat):(ownJ l col k).length=l.length:=by simp [ownJ]
theorem thJ_len (l:List TS) (col:List Int) (k:Nat):(thJ l col k).length=l.length:=by simp [thJ]
theorem ownJ_zero (l:List TS) (col:List Int):ownJ l col 0=List.replicate l.length noTok:=by
 refine List.ext_getElem? fun s=>?_
 unfold ownJ
 rw [List.getElem?_map,List.getElem?_replicate]
 rcases Nat.lt_or_ge s l.length with h|h
 ·rw [List.getElem?_range h,if_pos h];simp
 ·rw [if_neg (by omega),List.getElem?_eq_none (by simp;omega)];rfl
theorem thJ_zero (l:List TS) (col:List Int):thJ l col 0=List.replicate l.length false:=by
 refine List.ext_getElem? fun s=>?_
 unfold thJ
 rw [List.getElem?_map,List.getElem?_replicate]
 rcases Nat.lt_or_ge s l.length with h|h
 ·rw [List.getElem?_range h,if_pos h];simp
 ·rw [if_neg (by omega),List.getElem?_eq_none (by simp;omega)];rfl
theorem ownJ_gap {l:List TS} {col:List Int} {k:Nat} (h:¬ 0≤col.getD k (-1)):ownJ l col (k+1)=ownJ l col k:=by
 unfold ownJ
 refine List.map_congr_left fun s _=>?_
 by_cases e:s=k
 ·subst e;rw [if_neg (fun h9=>h h9.2),if_neg (fun h9=>h h9.2)]
 ·by_cases h2:s<k∧0≤col.getD s (-1)
  ·rw [if_pos h2,if_pos ⟨by omega,h2.2⟩]
  ·rw [if_neg h2,if_neg (fun h9=>h2 ⟨by omega,h9.2⟩)]
theorem thJ_gap {l:List TS} {col:List Int} {k:Nat} (h:¬ 0≤col.getD k (-1)):thJ l col (k+1)=thJ l col k:=by
 unfold thJ
 refine List.map_congr_left fun s _=>?_
 by_cases e:s=k
 ·subst e;rw [decide_eq_false (fun h9=>h h9.2),decide_eq_false (fun h9=>h h9.2)]
 ·by_cases h2:s<k∧0≤col.getD s (-1)
  ·rw [decide_eq_true h2,decide_eq_true (⟨by omega,h2.2⟩:s<k+1∧_)]
  ·rw [decide_eq_false h2,decide_eq_false (fun h9=>h2 ⟨by omega,h9.2⟩)]
theorem ownJ_tok {l:List TS} {col:List Int} {k:Nat} (hk:k<l.length) (h:0≤col.getD k (-1)):(ownJ l col k).set k (tkA (tsA l k).l (col.getD k (-1)).toNat)=ownJ l col (k+1):=by
 refine List.ext_getElem? fun s=>?_
 unfold ownJ
 rw [List.getElem?_set,List.getElem?_map,List.getElem?_map,List.length_map,List.length_range]
 by_cases e:k=s
 ·subst e
  rw [List.getD_eq_getElem?_getD] at h
  rw [if_pos rfl,if_pos hk,List.getElem?_range hk];simp;intro h9;omega
 ·rw [if_neg e]
  rcases Nat.lt_or_ge s l.length with h2|h2
  ·rw [List.getElem?_range h2]
   simp only [Option.map_some]
   by_cases h3:s<k∧0≤col.getD s (-1)
   ·rw [if_pos h3,if_pos ⟨by omega,h3.2⟩]
   ·rw [if_neg h3,if_neg (fun h9=>h3 ⟨by omega,h9.2⟩)]
  ·rw [List.getElem?_eq_none (by simp;omega)];rfl
theorem thJ_tok {l:List TS} {col:List Int} {k:Nat} (hk:k<l.length) (h:0≤col.getD k (-1)):(thJ l col k).set k true=thJ l col (k+1):=by
 refine List.ext_getElem? fun s=>?_
 unfold thJ
 rw [List.getElem?_set,List.getElem?_map,List.getElem?_map,List.length_map,List.length_range]
 by_cases e:k=s
 ·subst e
  rw [List.getD_eq_getElem?_getD] at h
  rw [if_pos rfl,if_pos hk,List.getElem?_range hk];simp [h]
 ·rw [if_neg e]
  rcases Nat.lt_or_ge s l.length with h2|h2
  ·rw [List.getElem?_range h2]
   simp only [Option.map_some]
   by_cases h3:s<k∧0≤col.getD s (-1)
   ·rw [decide_eq_true h3,decide_eq_true (⟨by omega,h3.2⟩:s<k+1∧_)]
   ·rw [decide_eq_false h3,decide_eq_false (fun h9=>h3 ⟨by omega,h9.2⟩)]
  ·rw [List.getElem?_eq_none (by simp;omega)];rfl
theorem ownJ_small {w:World} {A:Option Addr} {n:Nat} {l:List TS} (hg:Grp w A n l) {col:List Int} (hco:ColOk l col) (k:Nat):∀ t∈ownJ l col k,t.small:=by
 intro t ht
 unfold ownJ at ht
 obtain⟨s,hs,rfl⟩:=List.mem_map.1 ht
 rw [List.mem_range] at hs
 split
 ·rename_i h
  have hci:col[s]?=some (col.getD s (-1)):=by rw [List.getD_eq_getElem?_getD,List.getElem?_eq_getElem (by rw [hco.1];exact hs)];rfl
  have hli:l[s]?=some (tsA l s):=by rw [tsA_eq (List.getElem?_eq_getElem hs)];exact List.getElem?_eq_getElem hs
  exact hg.sm _ (tsA_mem hs) _ (tkA_mem2 h.2 (by rw [hg.ok.len _ (tsA_mem hs)];exact (hco.2 s _ _ hci hli).2))
 ·exact noTok_small
theorem own_colV {w:World} {A:Option Addr} {n:Nat} {l:List TS} (hg:Grp w A n l) {c:Costs} (hc:costE c=0) (hbs:badS l=false) {col:List Int} (hco:ColOk l col):columnV c (ownJ l col l.length) (thJ l col l.length)=(colZ c l col,0):=by
 have hb:=hg.hb
 have hn:=hg.hn
 refine columnV_Z hc hbs hg.ok.len (by omega) hco (ownJ_len _ _ _) (thJ_len _ _ _) (fun i hi=>?_) (fun i hi h0=>?_)
 ·unfold thA thJ
  rw [List.getD_eq_getElem?_getD,List.getElem?_map,List.getElem?_range hi]
  show decide (i<l.length∧0≤col.getD i (-1))=_
  by_cases h:0≤col.getD i (-1)
  ·rw [decide_eq_true h,decide_eq_true ⟨hi,h⟩]
  ·rw [decide_eq_false h,decide_eq_false (fun h9=>h h9.2)]
 ·show tkA (ownJ l col l.length) i=_
  have e:(ownJ l col l.length)[i]?=some (tkA (tsA l i).l (col.getD i (-1)).toNat):=by
   unfold ownJ
   rw [List.getElem?_map,List.getElem?_range hi]
   simp only [Option.map_some]
   rw [if_pos ⟨hi,h0⟩]
  unfold tkA at e ⊢
  rw [List.getD_eq_getElem?_getD (l:=ownJ l col l.length),e]
  rfl
theorem made_toks (n:Nat):(madeCells (noTok.val).cells (n * (noTok.val).cells.size)).toList=(List.replicate n noTok).flatMap Tok.cells:=by
 refine (made_flat (noTok.val).cells n).trans ?_
 induction n with
 | zero=>rfl
 | succ n ih=>rw [List.replicate_succ,List.replicate_succ,List.flatMap_cons,List.flatten_cons,ih];rfl
noncomputable def costW (c:Costs) (l:List TS) (cols:List (List Int)):Int × Int:=if usV c l≠0 then (0,usV c l) else if okC l cols=true then (totZ c l cols,0) else (0,19)
theorem dstT_bd2 {c:Costs} (hc:costE c=0) {l:List TS} (h:∀ t∈l,t.l.length≤100) (i k:Nat):0≤dstT c l i k∧dstT c l i k≤200000:=by
 have hl:∀ i,(tsA l i).l.length≤100:=fun i=>by
  rcases Nat.lt_or_ge i l.length with h9|h9
  ·exact h _ (tsA_mem h9)
  ·unfold tsA;rw [List.getD_eq_getElem?_getD,List.getElem?_eq_none h9];simp
 have key:∀ i k,0≤rst (grdOf c (tsA l i).l (tsA l k).l) 0 0∧rst (grdOf c (tsA l i).l (tsA l k).l) 0 0≤200000:=fun i k=>by
  have h1:=rst_bd (grdOf_ok hc (tsA l i).l (tsA l k).l) 0 0
  have h2:=hl i
  have h3:=hl k
  have e1:(grdOf c (tsA l i).l (tsA l k).l).n=(tsA l i).l.length:=rfl
  have e2:(grdOf c (tsA l i).l (tsA l k).l).m=(tsA l k).l.length:=rfl
  rw [e1,e2] at h1
  omega
 unfold dstT
 (repeat' split)
 ·exact key i k
 ·exact key k i
 ·omega
noncomputable def boundW (c:Costs) (l:List TS):Int × Int:=if usV c l≠0 then (0,usV c l) else (ssum (dstT c l) l.length l.length,0)
theorem bound19_spec (c:Costs) (A:Option Addr) (n ca:Nat) (l:List TS) (w:World) (hg:Grp w A n l) (hq:∀ t∈l,t.n≤100) :
  Spec Tryz.prog 53 [c.val, .slice A n ca] w (fun v R=>v = .tuple #[.int .i64 (boundW c l).1, .int .i64 (boundW c l).2]∧R=[]):=by
 have hn:=hg.hn
 have hb:=hg.hb
 refine spec_of sg Tryz.func53 rfl rfl rfl ?_
 refine T_op (OpT.box (cs:=c.cells) rfl rfl rfl rfl rfl rfl rfl (fun pc=>?_))
 repeat' (first|refine d1 ?_|refine dd ?_|(show T _ (.ops _ (_::_)::_) _ _ _;first|refine T_call rfl rfl rfl rfl rfl (fun w hw=>usable19_spec c A n ca l w (hg.cls hw)) ?_|refine T_callC rfl rfl rfl rfl rfl rfl rfl (fun hg w hw=>usable19_spec c A n ca l w (hg.cls hw)) ?_)|(show T _ (.run _ _ (_::_) _ _::_) _ _ _;first|refine rc rfl rfl rfl rfl rfl rfl rfl (fun w hw=>usable19_spec c A n ca l w (hg.cls hw)) ?_|refine rcG rfl rfl rfl rfl rfl rfl rfl rfl rfl (fun hg w hw=>usable19_spec c A n ca l w (hg.cls hw)) ?_)|(show ∀ _:Nat,T _ _ _ _ _;intro _))
 refine T_if rfl (fun h=>?_) (fun h=>?_)
 ·simp only [Bool.not_eq_true',decide_eq_false_iff_not] at h
  have e:boundW c l=(0,usV c l):=if_pos h
  rw [e]
  repeat' (first|refine d1 ?_|refine dd ?_|(show ∀ _:Nat,T _ _ _ _ _;intro _)|(show T _ (.code .ret::_) _ _ _;refine T_retV [] rfl (Hle.none _) ⟨rfl,rfl⟩))
 simp only [Bool.not_eq_false',decide_eq_true_eq] at h
 have h0:l.length≠0:=fun h9=>by unfold usV at h;rw [if_pos h9] at h;omega
 have hck:ck21 c l=0:=by unfold usV at h;rwa [if_neg h0] at h
 obtain⟨hc,hbs⟩:=ck21_ok hck
 have e:boundW c l=(ssum (dstT c l) n n,0):=by unfold boundW;rw [if_neg (by simpa using h),hn]
 rw [e]
 have hbd:=dstT_bd2 hc (l:=l) (fun t ht=>by rw [hg.ok.len t ht];exact hq t ht)
 have hnn:(n:Int)≤32:=by omega
 have hsb:∀ i:Nat,i≤n→0≤ssum (dstT c l) n i∧ssum (dstT c l) n i≤204800000:=fun i hi=>by
  have h1:=ssum_bd (M:=200000) (by omega) hbd n i
  have h2:(200000 * (n:Int)) * (i:Int)≤(200000 * 32) * 32:=Int.mul_le_mul (by omega) (by omega) (by omega) (by omega)
  omega
 have hrb:∀ i k:Nat,k≤n→0≤rsum (dstT c l) i k∧rsum (dstT c l) i k≤6400000:=fun i k hk=>by
  have h1:=rsum_bd (M:=200000) (by omega) hbd i k
  omega
 repeat' (first|refine d1 ?_|refine dd ?_|(show ∀ _:Nat,T _ _ _ _ _;intro _))
 refine T_loopX (fun i:Nat=>[(20, .int .i64 i),(7, .int .i64 (ssum (dstT c l) n i))]) (fun _=>[blk pc c.cells 23]) (fun i=>i≤n) (fun i=>n - i) 0 (Nat.zero_le _) ?_
 intro i hi
 repeat' (first|refine d1 ?_|refine dd ?_|(show ∀ _:Nat,T _ _ _ _ _;intro _))
 refine T_if rfl (fun h3=>?_) (fun h3=>?_)
 ·simp only [decide_eq_true_eq] at h3
  have hin:i<n:=by omega
  have hs1:=hsb i hi
  repeat' (first|refine d1 ?_|refine dd ?_|(show ∀ _:Nat,T _ _ _ _ _;intro _))
  refine T_loopX (fun k:Nat=>[(9, .int .i64 k),(7, .int .i64 (ssum (dstT c l) n i+rsum (dstT c l) i k))]) (fun _=>[blk pc c.cells 23]) (fun k=>i+1≤k∧k≤n) (fun k=>n - k) (i+1) ⟨Nat.le_refl _,hin⟩ ?_ (hE:=⟨rfl,by rw [rsum_low _ _ _ (Nat.le_refl _),Int.add_zero];rfl,trivial⟩)
  rintro k ⟨hk1,hk2⟩
  repeat' (first|refine d1 ?_|refine dd ?_|(show ∀ _:Nat,T _ _ _ _ _;intro _))
  refine T_if rfl (fun h4=>?_) (fun h4=>?_)
  ·simp only [decide_eq_true_eq] at h4
   have hkn:k<n:=by omega
   obtain⟨b,o,rfl⟩:=hg.hs.base (by omega)
   obtain⟨s,hs,hsm,hrs⟩:=hg.get hin
   obtain⟨t,ht,htm,hrt⟩:=hg.get hkn
   have hd:=dst_V hc hbs hs ht (show i<k by omega)
   have hbk:=hbd i k
   have hr1:=hrb i k hk2
   have hst:rsum (dstT c l) i (k+1)=rsum (dstT c l) i k+dstT c l i k:=by rw [rsum,if_pos (by omega)]
   repeat' (first|refine d1 ?_|refine dd ?_|(show T _ (.ops _ (_::_)::_) _ _ _;first|refine T_call rfl rfl rfl rfl rfl (fun w hw=>distancePrg_spec c s.A t.A s.n t.n s.cap t.cap s.l t.l w ((hg.cls hw).two hsm htm)) ?_|refine T_callC rfl rfl rfl rfl rfl rfl rfl (fun hg w hw=>distancePrg_spec c s.A t.A s.n t.n s.cap t.cap s.l t.l w ((hg.cls hw).two hsm htm)) ?_)|(show T _ (.run _ _ (_::_) _ _::_) _ _ _;first|refine rc rfl rfl rfl rfl rfl rfl rfl (fun w hw=>distancePrg_spec c s.A t.A s.n t.n s.cap t.cap s.l t.l w ((hg.cls hw).two hsm htm)) ?_|refine rcG rfl rfl rfl rfl rfl rfl rfl rfl rfl (fun hg w hw=>distancePrg_spec c s.A t.A s.n t.n s.cap t.cap s.l t.l w ((hg.cls hw).two hsm htm)) ?_)|(show ∀ _:Nat,T _ _ _ _ _;intro _))
   rw [hd]
   refine T_if rfl (fun h5=>by exfalso;simp at h5) (fun _=>?_)
   repeat' (first|refine d1 ?_|refine dd ?_|(show ∀ _:Nat,T _ _ _ _ _;intro _))
   exact T_backX (k+1) ⟨by omega,hkn⟩ (by omega) (hE:=⟨rfl,by rw [hst, ← Int.add_assoc];rfl,trivial⟩)
  ·simp only [decide_eq_false_iff_not] at h4
   obtain rfl:k=n:=by omega
   repeat' (first|refine d1 ?_|refine dd ?_|(show ∀ _:Nat,T _ _ _ _ _;intro _))
   exact T_backX (i+1) hin (by omega)
 ·simp only [decide_eq_false_iff_not] at h3
  obtain rfl:i=n:=by omega
  have hs1:=hsb i (Nat.le_refl _)
  repeat' (first|refine d1 ?_|refine dd ?_|(show ∀ _:Nat,T _ _ _ _ _;intro _))
  refine T_if rfl (fun h4=>by exfalso;simp at h4;omega) (fun _=>?_)
  repeat' (first|refine d1 ?_|refine dd ?_|(show ∀ _:Nat,T _ _ _ _ _;intro _)|(show T _ (.code .ret::_) _ _ _;refine T_retV [] rfl (Hle.none _) ⟨rfl,rfl⟩))
noncomputable def alV (l:List TS) (cols:List (List Int)):Int:=if l.length=0∧cols.length=0 then 0 else if chkC l cols=0 then 0 else 19
theorem aligned21_spec (A:Option Addr) (n ca:Nat) (l:List TS) (x:Value) (cols:List (List Int)) (w:World) (hg:Grp w A n l) (hx:Rd (wr w) [x] [rowsD cols]) :
  Spec Tryz.prog 67 [.slice A n ca,x] w (fun v R=>v = .int .i64 (alV l cols)∧R=[]):=by
 have hx0:=hx
 have hn:=hg.hn
 obtain⟨Ak,ck,csk,rfl,hck1,hck2,hcs,hrows⟩:=hx.tabS
 refine spec_of sg Tryz.func67 rfl rfl rfl ?_
 repeat' (first|refine d1 ?_|refine dd ?_|(show ∀ _:Nat,T _ _ _ _ _;intro _))
 refine T_if rfl (fun h1=>?_) (fun h1=>?_)
 ·simp only [Bool.and_eq_true,decide_eq_true_eq] at h1
  have c1:l.length=0∧cols.length=0:=by omega
  have e:alV l cols=0:=if_pos c1
  rw [e]
  repeat' (first|refine d1 ?_|refine dd ?_|(show ∀ _:Nat,T _ _ _ _ _;intro _)|(show T _ (.code .ret::_) _ _ _;refine T_retV [] rfl (Hle.none _) ⟨rfl,rfl⟩))
 have h2:¬ (l.length=0∧cols.length=0):=fun h9=>by
  rw [decide_eq_true (show (n:Int)=0 by omega),decide_eq_true (show (cols.length:Int)=0 by omega)] at h1
  cases h1
 repeat' (first|refine d1 ?_|refine dd ?_|(show T _ (.ops _ (_::_)::_) _ _ _;first|refine T_call rfl rfl rfl rfl rfl (fun w hw=>check19_spec A n ca l _ cols w (hg.cls hw) (hx0.old hw)) ?_|refine T_callC rfl rfl rfl rfl rfl rfl rfl (fun hg w hw=>check19_spec A n ca l _ cols w (hg.cls hw) (hx0.old hw)) ?_)|(show T _ (.run _ _ (_::_) _ _::_) _ _ _;first|refine rc rfl rfl rfl rfl rfl rfl rfl (fun w hw=>check19_spec A n ca l _ cols w (hg.cls hw) (hx0.old hw)) ?_|refine rcG rfl rfl rfl rfl rfl rfl rfl rfl rfl (fun hg w hw=>check19_spec A n ca l _ cols w (hg.cls hw) (hx0.old hw)) ?_)|(show ∀ _:Nat,T _ _ _ _ _;intro _))
 refine T_if rfl (fun h3=>?_) (fun h3=>?_)
 ·simp only [Bool.not_eq_true',decide_eq_false_iff_not] at h3
  have e:alV l cols=19:=by unfold alV;rw [if_neg h2,if_neg h3]
  rw [e]
  repeat' (first|refine d1 ?_|refine dd ?_|(show ∀ _:Nat,T _ _ _ _ _;intro _)|(show T _ (.code .ret::_) _ _ _;refine T_retV [] rfl (Hle.none _) ⟨rfl,rfl⟩))
 ·simp only [Bool.not_eq_false',decide_eq_true_eq] at h3
  have e:alV l cols=0:=by unfold alV;rw [if_neg h2,if_pos h3]
  rw [e]
  repeat' (first|refine d1 ?_|refine dd ?_|(show ∀ _:Nat,T _ _ _ _ _;intro _)|(show T _ (.code .ret::_) _ _ _;refine T_retV [] rfl (Hle.none _) ⟨rfl,rfl⟩))
theorem total21_spec (c:Costs) (A:Option Addr) (n ca:Nat) (l:List TS) (x:Value) (cols:List (List Int)) (w:World) (hg:Grp w A n l) (hc:costE c=0) (hbs:badS l=false) (hx:Rd (wr w) [x] [rowsD cols]) (hcols:∀ r∈cols,ColOk l r) (hsz:cols.length≤100000) :
  Spec Tryz.prog 79 [c.val, .slice A n ca,x] w (fun v R=>v = .int .i64 (totZ c l cols)∧R=[]):=by
 have hn:=hg.hn
 subst hn
 have hb:=hg.hb
 obtain⟨Ak,ck,csk,rfl,hck1,hck2,hcs,hrows⟩:=hx.tabS
 refine spec_of sg Tryz.func79 rfl rfl rfl ?_
 refine T_op (OpT.box (cs:=c.cells) rfl rfl rfl rfl rfl rfl rfl (fun pc=>?_))
 repeat' (first|refine d1 ?_|refine dd ?_|(show ∀ _:Nat,T _ _ _ _ _;intro _))
 refine T_loopX (fun i:Nat=>[(18, .int .i64 i),(7, .int .i64 (totZ c l (cols.take i)))]) (fun _=>[blk pc c.cells 23]) (fun i=>i≤cols.length) (fun i=>cols.length - i) 0 (Nat.zero_le _) ?_
 intro i hi
 repeat' (first|refine d1 ?_|refine dd ?_|(show ∀ _:Nat,T _ _ _ _ _;intro _))
 refine T_if rfl (fun h3=>?_) (fun h3=>?_)
 ·simp only [decide_eq_true_eq] at h3
  have hin:i<cols.length:=by omega
  obtain⟨b,o,rfl⟩:=hcs.base (by omega)
  obtain⟨r,hr⟩:∃ r,cols[i]?=some r:=⟨_,List.getElem?_eq_getElem hin⟩
  have hrm:=List.mem_of_getElem? hr
  obtain⟨Au,capu,hu,-,-,hA⟩:=hrows.tabRow hr
  have hco:ColOk l r:=hcols r hrm
  have hrl:r.length=l.length:=hco.1
  have hr0:=rowHd hcs hin hu
  have hsr:=rowSrc hA
  rw [hrl] at hr0 hsr
  have htk:=take_snoc _ _ _ hr
  have hs:totZ c l (cols.take (i+1))=totZ c l (cols.take i)+colZ c l r:=by rw [htk,totZ_app,totZ_cons];show _=totZ c l (cols.take i)+colZ c l r;unfold totZ;simp
  have q1:=totZ_bd hc (l:=l) (by omega) (cols.take i)
  have q2:=colZ_bd hc (l:=l) (by omega) r
  have q3:((cols.take i).length:Int)≤100000:=by rw [List.length_take];omega
  repeat' (first|refine d1 ?_|(show ∀ _:Nat,T _ _ _ _ _;intro _))
  refine T_cutX 1 [10,11] (fun s:Nat × Nat=>[(10, .slice (some ⟨s.1,0,none⟩) l.length l.length),(11, .slice (some ⟨s.2,0,none⟩) l.length l.length)]) (fun s=>[blk s.1 (madeCells (noTok.val).cells (l.length * (noTok.val).cells.size)).toList 79,blk s.2 (List.replicate l.length (.bool false)) 4,blk pc c.cells 23]) (fun _=>True) ?_ ?_
  ·refine dw0 1000 [blk pc c.cells 23] ?_
   repeat' (first|(show T _ (.draw _ _ _ _ _::_) _ _ _;first|refine dw1 ?_|refine dwb rfl (by decide +kernel) ?_)|(show AllL _ [];exact True.intro)|(show AllL _ (_::_);refine ⟨?_,?_⟩)|(show OpT _ _ _ _ _ _ _;first|refine dwx ?_|refine OpT.makeC rfl rfl rfl rfl rfl rfl (by dsimp only;omega) (fun b2=>⟨fun _=>(by first|exact Hle.none _|exact Hle.sub|exact absurd ‹_› (by decide +kernel)),?_⟩)|refine OpT.make rfl rfl rfl rfl rfl rfl rfl rfl rfl (by dsimp only;omega) (fun b3=>⟨fun _=>(by first|exact Hle.none _|exact Hle.sub|exact absurd ‹_› (by decide +kernel)),?_⟩))|(show ∀ _:Nat,T _ _ _ _ _;intro _)|(show T _ (.mark _::_) _ _ _;exact T_meetX (_,_) trivial (hG:=by exact Hle.srt)))
  rintro⟨b2,b3⟩ _
  dsimp only
  refine T_le (H':=[blk b2 ((ownJ l r 0).flatMap Tok.cells) 79,blk b3 ((thJ l r 0).map Value.bool) 4,blk pc c.cells 23]) (by rw [ownJ_zero,thJ_zero,made_toks,List.map_replicate];exact Hle.refl _) ?_
  repeat' (first|refine d1 ?_|refine dd ?_|(show ∀ _:Nat,T _ _ _ _ _;intro _))
  refine T_loopX (fun k:Nat=>[(30, .int .i64 k)]) (fun k=>[blk b2 ((ownJ l r k).flatMap Tok.cells) 79,blk b3 ((thJ l r k).map Value.bool) 4,blk pc c.cells 23]) (fun k=>k≤l.length) (fun k=>l.length - k) 0 (Nat.zero_le _) ?_
  intro k hk
  repeat' (first|refine d1 ?_|refine dd ?_|(show ∀ _:Nat,T _ _ _ _ _;intro _))
  refine T_if rfl (fun h=>?_) (fun h=>?_)
  ·simp only [decide_eq_true_eq] at h
   have hkn:k<l.length:=by omega
   obtain⟨b1,o1,rfl⟩:=hsr.base (by omega)
   obtain⟨b5,o5,rfl⟩:=hg.hs.base (by omega)
   obtain⟨s,hs9,hsmem,hr9⟩:=hg.get hkn
   obtain⟨z,hz⟩:∃ z,r[k]?=some z:=⟨_,List.getElem?_eq_getElem (by omega)⟩
   have hr1:=src_int hsr hkn hz
   obtain⟨hz1,hz2⟩:=hco.2 k z s hz hs9
   have hsl:=hg.ok.len s hsmem
   have hsn:=hg.nb s hsmem
   have hzd:r.getD k (-1)=z:=by rw [List.getD_eq_getElem?_getD,hz];rfl
   repeat' (first|refine d1 ?_|refine dd ?_|(show ∀ _:Nat,T _ _ _ _ _;intro _))
   refine T_if rfl (fun h1=>?_) (fun h1=>?_)
   ·simp only [decide_eq_true_eq] at h1
    obtain⟨b4,o4,hsA⟩:=(hg.ok.src s hsmem).base (by omega)
    have hsr2:RdC w b4 (o4+z.toNat * 6) (tkA s.l z.toNat).cells:=(hsA ▸ hg.ok.src s hsmem:Src w 6 (some ⟨b4,o4,none⟩) s.n (s.l.flatMap Tok.cells)).getT (k:=z.toNat) (by omega) (tkA_get (by omega))
    rw [hsA] at hr9
    repeat' (first|refine d1 ?_|refine dd ?_|(show T _ (.ops _ (_::_)::_) _ _ _;first|refine T_op (OpT.storeA (us:=(tkA s.l z.toNat).cells) rfl rfl rfl rfl rfl rfl (by rw [flatT_length,ownJ_len,show (tkA s.l z.toNat).cells.length=6 from rfl];omega) ?_)|refine T_op (OpT.store rfl rfl rfl rfl (by rw [List.length_map,thJ_len];omega) ?_))|(show ∀ _:Nat,T _ _ _ _ _;intro _))
    refine T_backX (k+1) (by omega) (by omega) (hG:=?_)
    have e1:=ownJ_tok (l:=l) (col:=r) hkn (by rw [hzd];exact h1)
    have e2:=thJ_tok (l:=l) (col:=r) hkn (by rw [hzd];exact h1)
    rw [hzd,tsA_eq hs9] at e1
    rw [← e1, ← e2, ← flatTok_set _ _ _ (by rw [ownJ_len];exact hkn),List.map_set,show 0+(k:Int).toNat * 6=k * 6 by omega,show 0+(k:Int).toNat * 1=k by omega]
    exact Hle.refl _
   ·simp only [decide_eq_false_iff_not] at h1
    repeat' (first|refine d1 ?_|refine dd ?_|(show ∀ _:Nat,T _ _ _ _ _;intro _))
    exact T_backX (k+1) (by omega) (by omega) (hG:=by rw [ownJ_gap (by rw [hzd];exact h1),thJ_gap (by rw [hzd];exact h1)];exact Hle.refl _)
  ·simp only [decide_eq_false_iff_not] at h
   obtain rfl:k=l.length:=by omega
   repeat' (first|refine d1 ?_|refine dd ?_|(show T _ (.ops _ (_::_)::_) _ _ _;first|refine T_call rfl rfl rfl rfl rfl (fun w hw=>columnPrg_spec c (some ⟨b2,0,none⟩) (some ⟨b3,0,none⟩) l.length l.length l.length l.length (ownJ l r l.length) (thJ l r l.length) w (hg.hst.cls hw) (Src.own hw (by rw [flatT_length,ownJ_len])) (ownJ_len _ _ _) (by omega) (Src.own hw (by rw [List.length_map,thJ_len,Nat.mul_one])) (thJ_len _ _ _) (by omega) (ownJ_small hg hco _)) ?_|refine T_callC rfl rfl rfl rfl rfl rfl rfl (fun hg w hw=>columnPrg_spec c (some ⟨b2,0,none⟩) (some ⟨b3,0,none⟩) l.length l.length l.length l.length (ownJ l r l.length) (thJ l r l.length) w (hg.hst.cls hw) (Src.own hw (by rw [flatT_length,ownJ_len])) (ownJ_len _ _ _) (by omega) (Src.own hw (by rw [List.length_map,thJ_len,Nat.mul_one])) (thJ_len _ _ _) (by omega) (ownJ_small hg hco _)) ?_)|(show T _ (.run _ _ (_::_) _ _::_) _ _ _;first|refine rc rfl rfl rfl rfl rfl rfl rfl (fun w hw=>columnPrg_spec c (some ⟨b2,0,none⟩) (some ⟨b3,0,none⟩) l.length l.length l.length l.length (ownJ l r l.length) (thJ l r l.length) w (hg.hst.cls hw) (Src.own hw (by rw [flatT_length,ownJ_len])) (ownJ_len _ _ _) (by omega) (Src.own hw (by rw [List.length_map,thJ_len,Nat.mul_one])) (thJ_len _ _ _) (by omega) (ownJ_small hg hco _)) ?_|refine rcG rfl rfl rfl rfl rfl rfl rfl rfl rfl (fun hg w hw=>columnPrg_spec c (some ⟨b2,0,none⟩) (some ⟨b3,0,none⟩) l.length l.length l.length l.length (ownJ l r l.length) (thJ l r l.length) w (hg.hst.cls hw) (Src.own hw (by rw [flatT_length,ownJ_len])) (ownJ_len _ _ _) (by omega) (Src.own hw (by rw [List.length_map,thJ_len,Nat.mul_one])) (thJ_len _ _ _) (by omega) (ownJ_small hg hco _)) ?_)|(show ∀ _:Nat,T _ _ _ _ _;intro _))
   rw [own_colV hg hc hbs hco]
   repeat' (first|refine d1 ?_|refine dd ?_|(show ∀ _:Nat,T _ _ _ _ _;intro _))
   exact T_backX (i+1) (by omega) (by omega) (hE:=⟨rfl,by rw [hs];rfl,trivial⟩) (hG:=Hle.nth 2 rfl)
 ·simp only [decide_eq_false_iff_not] at h3
  obtain rfl:i=cols.length:=by omega
  rw [List.take_of_length_le (Nat.le_refl _)]
  repeat' (first|refine d1 ?_|refine dd ?_|(show ∀ _:Nat,T _ _ _ _ _;intro _)|(show T _ (.code .ret::_) _ _ _;refine T_retV [] rfl (Hle.none _) ⟨rfl,rfl⟩))
end Go.Proofs.YtmenjpmikhajfaaGreatDoor
namespace Go.Proofs.YtmenjpmikhajfaaGreatDoor
open Go.RowKit Go.Shelf Go.Proofs
set_option maxRecDepth 100000
set_option maxHeartbeats 1000000

end Go.Proofs.YtmenjpmikhajfaaGreatDoor
namespace Go.Proofs.YtmenjpmikhajfaaGreatDoor
open Go.RowKit Go.Shelf Go.Proofs
set_option maxRecDepth 100000
set_option maxHeartbeats 1000000

def greatC (cols:List (List Int)):Bool:=cols.any (fun r=>decide (5<r.length)) || decide (24<cols.length)
theorem greatC_no {cols:List (List Int)} (h:greatC cols=false):(∀ r∈cols,r.length≤5)∧cols.length≤24:=by
 unfold greatC at h
 rw [Bool.or_eq_false_iff,List.any_eq_false,decide_eq_false_iff_not] at h
 exact⟨fun r hr=>by have:=h.1 r hr;simp at this;omega,by omega⟩
theorem greatC_spec (x:Value) (cols:List (List Int)) (w:World) (hx:Rd (wr w) [x] [rowsD cols]):Spec Tryz.prog 15 [x] w (fun v R=>v = .bool (greatC cols)∧R=[]):=by
 obtain⟨Ak,ck,csk,rfl,hck1,hck2,hcs,hrows⟩:=hx.tabS
 refine spec_of sg Tryz.func15 rfl rfl rfl ?_
 repeat' (first|refine d1 ?_|refine dd ?_|(show ∀ _:Nat,T _ _ _ _ _;intro _))
 refine T_loopX (fun k:Nat=>[(3, .int .i64 k)]) (fun _=>[]) (fun k=>k≤cols.length∧∀ r∈cols.take k,r.length≤5) (fun k=>cols.length - k) 0 ⟨Nat.zero_le _,fun r h=>by simp at h⟩ ?_
 rintro k ⟨hk,hok⟩
 repeat' (first|refine d1 ?_|refine dd ?_|(show ∀ _:Nat,T _ _ _ _ _;intro _))
 refine T_if rfl (fun h=>?_) (fun h=>?_)
 ·simp only [decide_eq_true_eq] at h
  have hkn:k<cols.length:=by omega
  obtain⟨b,o,rfl⟩:=hcs.base (by omega)
  obtain⟨r,hr⟩:∃ r,cols[k]?=some r:=⟨_,List.getElem?_eq_getElem hkn⟩
  obtain⟨Au,capu,hu,hcap1,hcap2,hA⟩:=hrows.tabRow hr
  have hr0:=rowHd hcs hkn hu
  have htk:=take_snoc _ _ _ hr
  repeat' (first|refine d1 ?_|refine dd ?_|(show ∀ _:Nat,T _ _ _ _ _;intro _))
  refine T_if rfl (fun h1=>?_) (fun h1=>?_)
  ·simp only [decide_eq_true_eq] at h1
   repeat' (first|refine d1 ?_|refine dd ?_|(show ∀ _:Nat,T _ _ _ _ _;intro _)|(show T _ (.code .ret::_) _ _ _;refine T_retV [] rfl (Hle.none _) ⟨congrArg Value.bool ?_,rfl⟩))
   unfold greatC
   have h9:(cols.any fun r=>decide (5<r.length))=true:=List.any_eq_true.2 ⟨r,List.mem_of_getElem? hr,by simp;omega⟩
   rw [h9];rfl
  ·simp only [decide_eq_false_iff_not] at h1
   repeat' (first|refine d1 ?_|refine dd ?_|(show ∀ _:Nat,T _ _ _ _ _;intro _))
   refine T_backX (k+1) ⟨by omega,fun y hy=>?_⟩ (by omega)
   rw [htk,List.mem_append,List.mem_singleton] at hy
   rcases hy with hy|rfl
   ·exact hok y hy
   ·omega
 ·simp only [decide_eq_false_iff_not] at h
  obtain rfl:k=cols.length:=by omega
  rw [List.take_of_length_le (Nat.le_refl _)] at hok
  repeat' (first|refine d1 ?_|refine dd ?_|(show ∀ _:Nat,T _ _ _ _ _;intro _)|(show T _ (.code .ret::_) _ _ _;refine T_retV [] rfl (Hle.none _) ⟨congrArg Value.bool ?_,rfl⟩))
  unfold greatC
  have h9:(cols.any fun r=>decide (5<r.length))=false:=List.any_eq_false.2 fun r hr=>by have:=hok r hr;simp;omega
  rw [h9,Bool.false_or]
  by_cases h8:24<cols.length
  ·rw [decide_eq_true h8,decide_eq_true (by omega)]
  ·rw [decide_eq_false h8,decide_eq_false (by omega)]
noncomputable def excV (c:Costs) (l:List TS) (cols:List (List Int)):Int × Int :=
 if ck21 c l≠0 then (0,ck21 c l) else if alV l cols≠0 then (0,alV l cols) else if usV c l≠0 then (0,usV c l) else (totZ c l cols - ssum (dstT c l) l.length l.length,0)
theorem alV_ok {l:List TS} {cols:List (List Int)} (h0:l.length≠0) (h:alV l cols=0):ColsOk (lens l) cols:=by
 unfold alV at h
 rw [if_neg (fun h9=>h0 h9.1)] at h
 by_cases h1:chkC l cols=0
 ·exact Classical.byContradiction fun h9=>by rw [chkC_bad h0 h9] at h1;omega
 ·rw [if_neg h1] at h;omega
theorem excess21_spec (c:Costs) (A:Option Addr) (n ca:Nat) (l:List TS) (x:Value) (cols:List (List Int)) (w:World) (hg:Grp w A n l) (hq:∀ t∈l,t.n≤100) (hx:Rd (wr w) [x] [rowsD cols]) (hsz:cols.length≤100000) :
  Spec Tryz.prog 23 [c.val, .slice A n ca,x] w (fun v R=>v = .tuple #[.int .i64 (excV c l cols).1, .int .i64 (excV c l cols).2]∧R=[]):=by
 have hx0:=hx
 have hn:=hg.hn
 have hb:=hg.hb
 obtain⟨Ak,ck,csk,rfl,hck1,hck2,hcs,hrows⟩:=hx.tabS
 refine spec_of sg Tryz.func23 rfl rfl rfl ?_
 refine T_op (OpT.box (cs:=c.cells) rfl rfl rfl rfl rfl rfl rfl (fun pc=>?_))
 repeat' (first|refine d1 ?_|refine dd ?_|(show T _ (.ops _ (_::_)::_) _ _ _;first|refine T_call rfl rfl rfl rfl rfl (fun w hw=>check21_spec c A n ca l w (hg.cls hw)) ?_|refine T_callC rfl rfl rfl rfl rfl rfl rfl (fun hg w hw=>check21_spec c A n ca l w (hg.cls hw)) ?_)|(show T _ (.run _ _ (_::_) _ _::_) _ _ _;first|refine rc rfl rfl rfl rfl rfl rfl rfl (fun w hw=>check21_spec c A n ca l w (hg.cls hw)) ?_|refine rcG rfl rfl rfl rfl rfl rfl rfl rfl rfl (fun hg w hw=>check21_spec c A n ca l w (hg.cls hw)) ?_)|(show ∀ _:Nat,T _ _ _ _ _;intro _))
 refine T_if rfl (fun h=>?_) (fun h=>?_)
 ·simp only [Bool.not_eq_true',decide_eq_false_iff_not] at h
  have e:excV c l cols=(0,ck21 c l):=if_pos h
  rw [e]
  repeat' (first|refine d1 ?_|refine dd ?_|(show ∀ _:Nat,T _ _ _ _ _;intro _)|(show T _ (.code .ret::_) _ _ _;refine T_retV [] rfl (Hle.none _) ⟨rfl,rfl⟩))
 simp only [Bool.not_eq_false',decide_eq_true_eq] at h
 repeat' (first|refine d1 ?_|refine dd ?_|(show T _ (.ops _ (_::_)::_) _ _ _;first|refine T_call rfl rfl rfl rfl rfl (fun w hw=>aligned21_spec A n ca l _ cols w (hg.cls hw) (hx0.old hw)) ?_|refine T_callC rfl rfl rfl rfl rfl rfl rfl (fun hg w hw=>aligned21_spec A n ca l _ cols w (hg.cls hw) (hx0.old hw)) ?_)|(show T _ (.run _ _ (_::_) _ _::_) _ _ _;first|refine rc rfl rfl rfl rfl rfl rfl rfl (fun w hw=>aligned21_spec A n ca l _ cols w (hg.cls hw) (hx0.old hw)) ?_|refine rcG rfl rfl rfl rfl rfl rfl rfl rfl rfl (fun hg w hw=>aligned21_spec A n ca l _ cols w (hg.cls hw) (hx0.old hw)) ?_)|(show ∀ _:Nat,T _ _ _ _ _;intro _))
 refine T_if rfl (fun h1=>?_) (fun h1=>?_)
 ·simp only [Bool.not_eq_true',decide_eq_false_iff_not] at h1
  have e:excV c l cols=(0,alV l cols):=by unfold excV;rw [if_neg (by simpa using h),if_pos h1]
  rw [e]
  repeat' (first|refine d1 ?_|refine dd ?_|(show ∀ _:Nat,T _ _ _ _ _;intro _)|(show T _ (.code .ret::_) _ _ _;refine T_retV [] rfl (Hle.none _) ⟨rfl,rfl⟩))
 simp only [Bool.not_eq_false',decide_eq_true_eq] at h1
 repeat' (first|refine d1 ?_|refine dd ?_|(show T _ (.ops _ (_::_)::_) _ _ _;first|refine T_call rfl rfl rfl rfl rfl (fun w hw=>bound19_spec c A n ca l w (hg.cls hw) hq) ?_|refine T_callC rfl rfl rfl rfl rfl rfl rfl (fun hg w hw=>bound19_spec c A n ca l w (hg.cls hw) hq) ?_)|(show T _ (.run _ _ (_::_) _ _::_) _ _ _;first|refine rc rfl rfl rfl rfl rfl rfl rfl (fun w hw=>bound19_spec c A n ca l w (hg.cls hw) hq) ?_|refine rcG rfl rfl rfl rfl rfl rfl rfl rfl rfl (fun hg w hw=>bound19_spec c A n ca l w (hg.cls hw) hq) ?_)|(show ∀ _:Nat,T _ _ _ _ _;intro _))
 by_cases h2:usV c l=0
 ·have eb:boundW c l=(ssum (dstT c l) l.length l.length,0):=if_neg (by simpa using h2)
  have e:excV c l cols=(totZ c l cols - ssum (dstT c l) l.length l.length,0):=by unfold excV;rw [if_neg (by simpa using h),if_neg (by simpa using h1),if_neg (by simpa using h2)]
  have h0:l.length≠0:=fun h9=>by unfold usV at h2;rw [if_pos h9] at h2;omega
  obtain⟨hc,hbs⟩:=ck21_ok h
  have hok:=alV_ok h0 h1
  have hbd:=dstT_bd2 hc (l:=l) (fun t ht=>by rw [hg.ok.len t ht];exact hq t ht)
  have s1:=ssum_bd (M:=200000) (by omega) hbd l.length l.length
  have s2:(200000 * (l.length:Int)) * (l.length:Int)≤(200000 * 32) * 32:=Int.mul_le_mul (by omega) (by omega) (by omega) (by omega)
  have s3:=totZ_bd hc (l:=l) (by omega) cols
  rw [eb,e]
  refine T_if rfl (fun h3=>by exfalso;simp at h3) (fun _=>?_)
  repeat' (first|refine d1 ?_|refine dd ?_|(show T _ (.ops _ (_::_)::_) _ _ _;first|refine T_call rfl rfl rfl rfl rfl (fun w hw=>total21_spec c A n ca l _ cols w (hg.cls hw) hc hbs (hx0.old hw) (fun r hr=>ColsOk.colOk (l:=l) hok hr) hsz) ?_|refine T_callC rfl rfl rfl rfl rfl rfl rfl (fun hg w hw=>total21_spec c A n ca l _ cols w (hg.cls hw) hc hbs (hx0.old hw) (fun r hr=>ColsOk.colOk (l:=l) hok hr) hsz) ?_)|(show T _ (.run _ _ (_::_) _ _::_) _ _ _;first|refine rc rfl rfl rfl rfl rfl rfl rfl (fun w hw=>total21_spec c A n ca l _ cols w (hg.cls hw) hc hbs (hx0.old hw) (fun r hr=>ColsOk.colOk (l:=l) hok hr) hsz) ?_|refine rcG rfl rfl rfl rfl rfl rfl rfl rfl rfl (fun hg w hw=>total21_spec c A n ca l _ cols w (hg.cls hw) hc hbs (hx0.old hw) (fun r hr=>ColsOk.colOk (l:=l) hok hr) hsz) ?_)|(show ∀ _:Nat,T _ _ _ _ _;intro _)|(show T _ (.code .ret::_) _ _ _;refine T_retV [] rfl (Hle.none _) ⟨rfl,rfl⟩))
 ·have eb:boundW c l=(0,usV c l):=if_pos h2
  have e:excV c l cols=(0,usV c l):=by unfold excV;rw [if_neg (by simpa using h),if_neg (by simpa using h1),if_pos h2]
  rw [eb,e]
  refine T_if rfl (fun _=>?_) (fun h3=>by exfalso;simp at h3;omega)
  repeat' (first|refine d1 ?_|refine dd ?_|(show ∀ _:Nat,T _ _ _ _ _;intro _)|(show T _ (.code .ret::_) _ _ _;refine T_retV [] rfl (Hle.none _) ⟨rfl,rfl⟩))
end Go.Proofs.YtmenjpmikhajfaaGreatDoor
namespace Go.Proofs.YtmenjpmikhajfaaGreatDoor

def prjR (keep:List Nat) (x:List Int):List Int:=keep.map fun s=>x.getD s (-1)
def anyP (x:List Int):Bool:=x.any fun z=>decide (0≤z)
def prjC (keep:List Nat) (cols:List (List Int)):List (List Int):=(cols.map (prjR keep)).filter anyP
theorem prjR_len (keep:List Nat) (x:List Int):(prjR keep x).length=keep.length:=by simp [prjR]
theorem prjR_get (keep:List Nat) (x:List Int) (j:Nat):(prjR keep x)[j]?=(keep[j]?).map fun s=>x.getD s (-1):=by unfold prjR;rw [List.getElem?_map]
theorem prjR_getD {keep:List Nat} {x:List Int} {j:Nat} (h:j<keep.length):(prjR keep x).getD j (-1)=x.getD (keep.getD j 0) (-1):=by
 rw [List.getD_eq_getElem?_getD,prjR_get,List.getElem?_eq_getElem h,List.getD_eq_getElem?_getD (l:=keep),List.getElem?_eq_getElem h];rfl
theorem prjC_cons (keep:List Nat) (x:List Int) (cols:List (List Int)):prjC keep (x::cols)=if anyP (prjR keep x)=true then prjR keep x::prjC keep cols else prjC keep cols:=by
 unfold prjC
 rw [List.map_cons,List.filter_cons]
theorem anyP_iff {x:List Int}:anyP x=true↔∃ z∈x,0≤z:=by unfold anyP;rw [List.any_eq_true];simp
theorem ColsOk.ge {ls:List Nat} {cols:List (List Int)} (h:ColsOk ls cols) {x:List Int} (hx:x∈cols) (s:Nat) : -1≤x.getD s (-1):=by
 rw [List.getD_eq_getElem?_getD]
 cases hz:x[s]? with
 | none=>simp
 | some z =>
  have hs:s<ls.length:=by rw [← h.len x hx];exact (List.getElem?_eq_some_iff.1 hz).1
  exact (h.entry hx (List.getElem?_eq_getElem hs) hz).1
theorem prj_src {keep:List Nat} {j:Nat} (hj:j<keep.length):∀ {cols:List (List Int)},(∀ x∈cols,∀ s,-1≤x.getD s (-1))→srcC (prjC keep cols) j=srcC cols (keep.getD j 0)
 | [],_=>rfl
 | x::cols,h=>by
  have ih:=prj_src hj (cols:=cols) fun y hy=>h y (.tail _ hy)
  rw [prjC_cons,srcC_cons]
  by_cases hp:anyP (prjR keep x)=true
  ·rw [if_pos hp,srcC_cons,ih,prjR_getD hj]
  ·rw [if_neg hp,ih]
   have hz:x.getD (keep.getD j 0) (-1) = -1:=by
    have h1:=h x (.head _) (keep.getD j 0)
    refine Classical.byContradiction fun hne=>hp (anyP_iff.2 ⟨(prjR keep x).getD j (-1),?_,by rw [prjR_getD hj];omega⟩)
    rw [List.getD_eq_getElem?_getD,List.getElem?_eq_getElem (by rw [prjR_len];exact hj)]
    exact List.getElem_mem _
   rw [if_pos hz];rfl
theorem prjC_ok {ls:List Nat} {cols:List (List Int)} (h:ColsOk ls cols) {keep:List Nat} (hk:∀ s∈keep,s<ls.length):ColsOk (keep.map fun s=>ls.getD s 0) (prjC keep cols):=by
 refine ⟨fun x hx=>?_,fun x hx=>?_,fun j n hj=>?_⟩
 ·unfold prjC at hx
  obtain⟨y,-,rfl⟩:=List.mem_map.1 (List.mem_filter.1 hx).1
  rw [prjR_len,List.length_map]
 ·unfold prjC at hx
  obtain⟨z,hz,h0⟩:=anyP_iff.1 (List.mem_filter.1 hx).2
  exact⟨z,hz,by omega⟩
 ·have hjl:j<keep.length:=by simpa using (List.getElem?_eq_some_iff.1 hj).1
  rw [List.getElem?_map,List.getElem?_eq_getElem hjl] at hj
  have e:keep.getD j 0=keep[j]:=by rw [List.getD_eq_getElem?_getD,List.getElem?_eq_getElem hjl];rfl
  have hlt:=hk _ (List.getElem_mem hjl)
  have hn:ls.getD keep[j] 0=n:=by simpa using hj
  rw [prj_src hjl fun x hx s=>h.ge hx s,e]
  refine h.src _ n ?_
  rw [List.getD_eq_getElem?_getD,List.getElem?_eq_getElem hlt] at hn
  rw [List.getElem?_eq_getElem hlt]
  exact congrArg some hn
end Go.Proofs.YtmenjpmikhajfaaGreatDoor
namespace Go.Proofs.YtmenjpmikhajfaaGreatDoor

def InB:List Nat→List Nat→Prop
 | [],[]=>True
 | n::ls,a::v=>a≤n∧InB ls v
 | _,_=>False
theorem InB.len:∀ {ls v:List Nat},InB ls v→v.length=ls.length
 | [],[],_=>rfl
 | n::ls,a::v,h=>by simp [InB.len h.2]
 | [],a::v,h=>h.elim
 | n::ls,[],h=>h.elim
theorem InB.get:∀ {ls v:List Nat},InB ls v→∀ s,v.getD s 0≤ls.getD s 0
 | [],[],_,s=>by simp
 | n::ls,a::v,h,0=>h.1
 | n::ls,a::v,h,s+1=>by simpa using InB.get h.2 s
 | [],a::v,h,_=>h.elim
 | n::ls,[],h,_=>h.elim
theorem InB.of:∀ {ls v:List Nat},v.length=ls.length→(∀ s,v.getD s 0≤ls.getD s 0)→InB ls v
 | [],[],_,_=>trivial
 | n::ls,a::v,hl,h=>⟨h 0,InB.of (by simpa using hl) fun s=>by simpa using h (s+1)⟩
 | [],a::v,hl,_=>by simp at hl
 | n::ls,[],hl,_=>by simp at hl
theorem InB.some:∀ {ls v:List Nat},InB ls v→v≠ls→∃ s,s<ls.length∧v.getD s 0<ls.getD s 0
 | [],[],_,h=>(h rfl).elim
 | n::ls,a::v,h,hne=>by
  by_cases e:a=n
  ·subst e
   obtain⟨s,h1,h2⟩:=InB.some h.2 (fun e2=>hne (by rw [e2]))
   exact⟨s+1,by simp;omega,by simpa using h2⟩
  ·exact⟨0,by simp,by have:=h.1;show a<n;omega⟩
 | [],a::v,h,_=>h.elim
 | n::ls,[],h,_=>h.elim
def sumL:List Nat→Nat
 | []=>0
 | n::ls=>n+sumL ls
theorem sumL_le:∀ {ls v:List Nat},InB ls v→sumL v≤sumL ls
 | [],[],_=>Nat.le_refl _
 | n::ls,a::v,h=>by have:=sumL_le h.2;have:=h.1;show a+sumL v≤n+sumL ls;omega
 | [],a::v,h=>h.elim
 | n::ls,[],h=>h.elim
theorem sumL_set:∀ {v:List Nat} {s:Nat},s<v.length→sumL (v.set s (v.getD s 0+1))=sumL v+1
 | a::v,0,_=>by show a+1+sumL v=a+sumL v+1;omega
 | a::v,s+1,h=>by
  have:=sumL_set (v:=v) (s:=s) (by simpa using h)
  show a+sumL (v.set s ((a::v).getD (s+1) 0+1))=a+sumL v+1
  rw [show (a::v).getD (s+1) 0=v.getD s 0 by simp,this];omega
def toM (v:List Nat):List Nat→List Nat
 | []=>v
 | s::m=>toM (v.set s (v.getD s 0+1)) m
theorem toM_len:∀ (m v:List Nat),(toM v m).length=v.length
 | [],v=>rfl
 | s::m,v=>by unfold toM;rw [toM_len m,List.length_set]
theorem set_other {v:List Nat} {s u x:Nat} (h:s≠u):(v.set s x).getD u 0=v.getD u 0:=by
 rw [List.getD_eq_getElem?_getD,List.getElem?_set_ne h, ← List.getD_eq_getElem?_getD]
theorem set_self {v:List Nat} {s x:Nat} (h:s<v.length):(v.set s x).getD s 0=x:=by
 rw [List.getD_eq_getElem?_getD,List.getElem?_set_self h];rfl
theorem toM_get:∀ (m v:List Nat),m.Nodup→(∀ s∈m,s<v.length)→∀ s,(toM v m).getD s 0=v.getD s 0+if s∈m then 1 else 0
 | [],v,_,_,s=>by simp [toM]
 | u::m,v,hd,hl,s=>by
  have hu:=List.nodup_cons.1 hd
  unfold toM
  rw [toM_get m _ hu.2 (fun s hs=>by rw [List.length_set];exact hl s (.tail _ hs)) s]
  by_cases e:u=s
  ·subst e
   rw [set_self (hl u (.head _)),if_neg hu.1,if_pos (.head _)]
  ·rw [set_other e]
   have:(s∈u::m)↔s∈m:=by rw [List.mem_cons];exact⟨fun h=>h.resolve_left (fun h=>e h.symm), .inr⟩
   simp only [this]
theorem toM_sum:∀ (m v:List Nat),(∀ s∈m,s<v.length)→sumL (toM v m)=sumL v+m.length
 | [],v,_=>by simp [toM]
 | s::m,v,hm=>by
  unfold toM
  rw [toM_sum m _ (fun s hs=>by rw [List.length_set];exact hm s (.tail _ hs)),sumL_set (hm s (.head _)),List.length_cons]
  omega
theorem toM_in {ls v m:List Nat} (h:InB ls v) (hd:m.Nodup) (hm:∀ s∈m,s<ls.length∧v.getD s 0<ls.getD s 0):InB ls (toM v m):=by
 have hlen:=h.len
 refine InB.of (by rw [toM_len,hlen]) fun s=>?_
 rw [toM_get m v hd (fun s hs=>by rw [hlen];exact (hm s hs).1) s]
 have h1:=h.get s
 split
 ·rename_i hs;have:=(hm s hs).2;omega
 ·omega
end Go.Proofs.YtmenjpmikhajfaaGreatDoor
namespace Go.Proofs.YtmenjpmikhajfaaGreatDoor

def possM (ls v m:List Nat):Bool:=m.all fun s=>decide (v.getD s 0<ls.getD s 0)
theorem possM_iff {ls v m:List Nat}:possM ls v m=true↔∀ s∈m,v.getD s 0<ls.getD s 0:=by unfold possM;rw [List.all_eq_true];simp
def colMv (v:List Nat):List Nat→List Int→List Int
 | [],c=>c
 | s::m,c=>colMv v m (c.set s (v.getD s 0:Nat))
def colT (v m:List Nat):List Int:=colMv v m (List.replicate v.length (-1))
theorem colMv_len (v:List Nat):∀ (m:List Nat) (c:List Int),(colMv v m c).length=c.length
 | [],c=>rfl
 | s::m,c=>by unfold colMv;rw [colMv_len v m,List.length_set]
theorem colT_len (v m:List Nat):(colT v m).length=v.length:=by unfold colT;rw [colMv_len,List.length_replicate]
theorem colMv_get (v:List Nat):∀ (m:List Nat) (c:List Int) (s:Nat),s<c.length→(colMv v m c).getD s (-1)=if s∈m then ((v.getD s 0:Nat):Int) else c.getD s (-1)
 | [],c,s,_=>by simp [colMv]
 | u::m,c,s,h=>by
  unfold colMv
  rw [colMv_get v m _ s (by rw [List.length_set];exact h)]
  by_cases h1:s∈m
  ·rw [if_pos h1,if_pos (List.mem_cons_of_mem _ h1)]
  ·rw [if_neg h1]
   by_cases e:u=s
   ·subst e
    rw [if_pos List.mem_cons_self,List.getD_eq_getElem?_getD,List.getElem?_set_self h];rfl
   ·rw [if_neg (by rw [List.mem_cons];rintro (h|h);exact e h.symm;exact h1 h),List.getD_eq_getElem?_getD,List.getElem?_set_ne e, ← List.getD_eq_getElem?_getD]
theorem colT_get {v m:List Nat} {s:Nat} (h:s<v.length):(colT v m).getD s (-1)=if s∈m then ((v.getD s 0:Nat):Int) else -1:=by
 unfold colT
 rw [colMv_get v m _ s (by rw [List.length_replicate];exact h)]
 simp [List.getD_eq_getElem?_getD,List.getElem?_replicate,h]
structure MvsOk (n:Nat) (Ms:List (List Nat)):Prop where
 nd:∀ m∈Ms,m.Nodup
 lt:∀ m∈Ms,∀ s∈m,s<n
 ne:∀ m∈Ms,m≠[]
 one:∀ s,s<n→[s]∈Ms
def RestOk (ls v:List Nat) (cols:List (List Int)):Prop:=(∀ x∈cols,x.length=ls.length)∧(∀ x∈cols,∃ z∈x,z ≠ -1)∧∀ s n,ls[s]?=some n→srcC cols s=(upto n).drop (v.getD s 0)
theorem RestOk.cons {ls v m:List Nat} {cols:List (List Int)} (hv:InB ls v) (hm:m≠[]) (hd:m.Nodup) (hlt:∀ s∈m,s<ls.length) (hp:possM ls v m=true) (h:RestOk ls (toM v m) cols):RestOk ls v (colT v m::cols):=by
 have hlen:=hv.len
 obtain⟨h1,h2,h3⟩:=h
 refine ⟨fun x hx=>?_,fun x hx=>?_,fun s n hs=>?_⟩
 ·rcases List.mem_cons.1 hx with rfl|hx
  ·rw [colT_len,hlen]
  ·exact h1 x hx
 ·rcases List.mem_cons.1 hx with rfl|hx
  ·obtain⟨s,ms,rfl⟩:=List.exists_cons_of_ne_nil hm
   have hs:s<v.length:=by rw [hlen];exact hlt s (.head _)
   have hg:=colT_get (m:=s::ms) hs
   rw [if_pos List.mem_cons_self] at hg
   refine ⟨_,?_,show ((v.getD s 0:Nat):Int) ≠ -1 by omega⟩
   rw [← hg,List.getD_eq_getElem?_getD,List.getElem?_eq_getElem (by rw [colT_len];exact hs)]
   exact List.getElem_mem _
  ·exact h2 x hx
 ·have hsl:s<ls.length:=(List.getElem?_eq_some_iff.1 hs).1
  rw [srcC_cons,h3 s n hs,colT_get (by rw [hlen];exact hsl),toM_get m v hd (fun u hu=>by rw [hlen];exact hlt u hu)]
  by_cases hsm:s∈m
  ·rw [if_pos hsm,if_pos hsm,if_neg (by omega)]
   have:=possM_iff.1 hp s hsm
   rw [List.getD_eq_getElem?_getD (l:=ls),hs] at this
   rw [upto_drop (show v.getD s 0<n from this)];rfl
  ·rw [if_neg hsm,if_neg hsm,if_pos rfl];rfl
theorem RestOk.nil (ls:List Nat):RestOk ls ls []:=⟨fun x h=>(by cases h),fun x h=>(by cases h),fun s n hs=>by
 rw [List.getD_eq_getElem?_getD,hs]
 show []=(upto n).drop n
 rw [List.drop_of_length_le (by rw [upto_len];exact Nat.le_refl _)]⟩
theorem RestOk.colsOk {ls:List Nat} {cols:List (List Int)}:RestOk ls (List.replicate ls.length 0) cols↔ColsOk ls cols:=by
 have e:∀ s,(List.replicate ls.length 0).getD s 0=0:=fun s=>by
  rw [List.getD_eq_getElem?_getD,List.getElem?_replicate];split <;> rfl
 constructor
 ·rintro⟨h1,h2,h3⟩
  exact⟨h1,h2,fun s n hs=>by rw [h3 s n hs,e,List.drop_zero]⟩
 ·rintro⟨h1,h2,h3⟩
  exact⟨h1,h2,fun s n hs=>by rw [h3 s n hs,e,List.drop_zero]⟩
theorem InB.zero:∀ ls:List Nat,InB ls (List.replicate ls.length 0)
 | []=>trivial
 | n::ls=>⟨Nat.zero_le _,InB.zero ls⟩
end Go.Proofs.YtmenjpmikhajfaaGreatDoor
namespace Go.Proofs.YtmenjpmikhajfaaGreatDoor

def mvOfC (x:List Int):List Nat:=(List.range x.length).filter fun s=>decide (x.getD s (-1) ≠ -1)
theorem mvOfC_mem {x:List Int} {s:Nat}:s∈mvOfC x↔s<x.length∧x.getD s (-1) ≠ -1:=by
 unfold mvOfC;rw [List.mem_filter,List.mem_range];simp
theorem mvOfC_asc (x:List Int):(mvOfC x).Pairwise (· < ·):=(List.pairwise_lt_range).filter _
theorem asc_nodup {m:List Nat} (h:m.Pairwise (· < ·)):m.Nodup:=h.imp fun h=>Nat.ne_of_lt h
theorem ext_getD {a b:List Int} (hl:a.length=b.length) (h:∀ s,s<a.length→a.getD s (-1)=b.getD s (-1)):a=b:=by
 refine List.ext_getElem? fun s=>?_
 by_cases hs:s<a.length
 ·have:=h s hs
  rw [List.getD_eq_getElem?_getD,List.getD_eq_getElem?_getD,List.getElem?_eq_getElem hs,List.getElem?_eq_getElem (hl ▸ hs)] at this
  rw [List.getElem?_eq_getElem hs,List.getElem?_eq_getElem (hl ▸ hs)]
  exact congrArg some this
 ·rw [List.getElem?_eq_none (by omega),List.getElem?_eq_none (by omega)]
theorem drop_cons {n p:Nat} {z:Int} {r:List Int} (h:z::r=(upto n).drop p):p<n∧z=(p:Int)∧r=(upto n).drop (p+1):=by
 by_cases hp:p<n
 ·rw [upto_drop hp] at h
  cases h
  exact⟨hp,rfl,rfl⟩
 ·rw [List.drop_of_length_le (by rw [upto_len];omega)] at h
  cases h
theorem RestOk.step {ls v:List Nat} {x:List Int} {cols:List (List Int)} (hv:InB ls v) (h:RestOk ls v (x::cols)) :
  x=colT v (mvOfC x)∧possM ls v (mvOfC x)=true∧mvOfC x≠[]∧(∀ s∈mvOfC x,s<ls.length)∧RestOk ls (toM v (mvOfC x)) cols:=by
 have hlen:=hv.len
 obtain⟨h1,h2,h3⟩:=h
 have hx:=h1 x (.head _)
 have hmem:∀ s,s∈mvOfC x↔s<x.length∧x.getD s (-1) ≠ -1:=fun s=>mvOfC_mem
 have hent:∀ s,s<ls.length→x.getD s (-1) ≠ -1→v.getD s 0<ls.getD s 0∧x.getD s (-1)=((v.getD s 0:Nat):Int)∧srcC cols s=(upto (ls.getD s 0)).drop (v.getD s 0+1):=fun s hs hne=>by
  have h4:=h3 s _ (List.getElem?_eq_getElem hs)
  rw [srcC_cons,if_neg hne] at h4
  have e:ls.getD s 0=ls[s]:=by rw [List.getD_eq_getElem?_getD,List.getElem?_eq_getElem hs];rfl
  rw [e]
  exact drop_cons h4
 have hlt:∀ s∈mvOfC x,s<ls.length:=fun s hs=>by rw [← hx];exact (hmem s).1 hs |>.1
 have hp:possM ls v (mvOfC x)=true:=possM_iff.2 fun s hs=>(hent s (hlt s hs) ((hmem s).1 hs).2).1
 have hxe:x=colT v (mvOfC x):=ext_getD (by rw [colT_len,hlen,hx]) fun s hs=>by
  rw [colT_get (by omega)]
  by_cases hne:x.getD s (-1) = -1
  ·rw [if_neg (fun hm=>((hmem s).1 hm).2 hne),hne]
  ·rw [if_pos ((hmem s).2 ⟨hs,hne⟩)]
   exact (hent s (by omega) hne).2.1
 refine ⟨hxe,hp,?_,hlt,fun y hy=>h1 y (.tail _ hy),fun y hy=>h2 y (.tail _ hy),fun s n hs=>?_⟩
 ·obtain⟨z,hz,hz2⟩:=h2 x (.head _)
  obtain⟨s,hs,rfl⟩:=List.getElem_of_mem hz
  have:s∈mvOfC x:=(hmem s).2 ⟨hs,by rw [List.getD_eq_getElem?_getD,List.getElem?_eq_getElem hs];exact hz2⟩
  exact List.ne_nil_of_mem this
 ·have hsl:s<ls.length:=(List.getElem?_eq_some_iff.1 hs).1
  have e:ls.getD s 0=n:=by rw [List.getD_eq_getElem?_getD,hs];rfl
  rw [toM_get _ v (asc_nodup (mvOfC_asc x)) (fun u hu=>by rw [hlen];exact hlt u hu)]
  have h4:=h3 s n hs
  rw [srcC_cons] at h4
  by_cases hne:x.getD s (-1) = -1
  ·rw [if_pos hne] at h4
   rw [if_neg (fun hm=>((hmem s).1 hm).2 hne)]
   exact h4
  ·rw [if_pos ((hmem s).2 ⟨by omega,hne⟩)]
   have:=(hent s hsl hne).2.2
   rw [e] at this
   exact this
end Go.Proofs.YtmenjpmikhajfaaGreatDoor
namespace Go.Proofs.YtmenjpmikhajfaaGreatDoor

end Go.Proofs.YtmenjpmikhajfaaGreatDoor
namespace Go.Proofs.YtmenjpmikhajfaaGreatDoor
open Go.RowKit Go.Shelf Go.Proofs

theorem ColsOk.lt {ls:List Nat} {cols:List (List Int)} (h:ColsOk ls cols) {x:List Int} (hx:x∈cols) {s:Nat} (hs:s<ls.length):x.getD s (-1)<(ls.getD s 0:Int):=by
 have hl:=h.len x hx
 have:=(h.entry hx (s:=s) (n:=ls[s]) (z:=x[s]'(by omega)) (List.getElem?_eq_getElem hs) (List.getElem?_eq_getElem (by omega))).2
 rw [List.getD_eq_getElem?_getD,List.getElem?_eq_getElem (by omega),List.getD_eq_getElem?_getD (l:=ls),List.getElem?_eq_getElem hs]
 exact this
structure BackS (l l':List TS):Prop where
 len:l'.length=l.length
 toks:∀ s,s<l.length→(tsA l' s).l=(tsA l s).l.reverse
 n:lens l'=lens l
 ok:∀ s,s<l.length→(lens l).getD s 0=(tsA l s).l.length
theorem BackS.swap {l l':List TS} (h:BackS l l'):BackS l' l:=by
 refine ⟨h.len.symm,fun s hs=>?_,h.n.symm,fun s hs=>?_⟩
 ·rw [h.toks s (by rw [← h.len];exact hs),List.reverse_reverse]
 ·rw [h.n,h.toks s (by rw [← h.len];exact hs),List.length_reverse,h.ok s (by rw [← h.len];exact hs)]
end Go.Proofs.YtmenjpmikhajfaaGreatDoor
namespace Go.Proofs.YtmenjpmikhajfaaGreatDoor
open Go.RowKit Go.Shelf Go.Proofs

theorem RestOk.short {ls:List Nat}:∀ {cols:List (List Int)} {v:List Nat},InB ls v→RestOk ls v cols→cols.length+sumL v≤sumL ls
 | [],v,hv,_=>by have:=sumL_le hv;simpa using this
 | x::cols,v,hv,h=>by
  obtain⟨h1,h2,h3,h4,h5⟩:=h.step hv
  have hi:=toM_in hv (asc_nodup (mvOfC_asc x)) fun s hs=>⟨h4 s hs,possM_iff.1 h2 s hs⟩
  have ih:=RestOk.short hi h5
  rw [toM_sum _ v fun s hs=>by rw [hv.len];exact h4 s hs] at ih
  have:=List.length_pos_iff.2 h3
  rw [List.length_cons];omega
theorem ColsOk.short {ls:List Nat} {cols:List (List Int)} (h:ColsOk ls cols):cols.length≤sumL ls:=by
 have:=RestOk.short (InB.zero ls) (RestOk.colsOk.2 h)
 omega
def othS (n i:Nat):List Nat:=(List.range n).filter fun k=>decide (k≠i)
theorem othS_mem {n i k:Nat}:k∈othS n i↔k<n∧k≠i:=by unfold othS;rw [List.mem_filter,List.mem_range];simp
theorem othS_succ (n i:Nat):othS (n+1) i=othS n i++if n≠i then [n] else []:=by
 unfold othS
 rw [List.range_succ,List.filter_append]
 congr 1
 by_cases h:n=i
 ·simp [h]
 ·simp [h]
theorem othS_nodup (n i:Nat):(othS n i).Nodup:=(List.nodup_range).filter _
def dropI {α:Type} (l:List α) (i:Nat):List α:=l.take i++l.drop (i+1)
theorem dropI_len {α:Type} {l:List α} {i:Nat} (h:i<l.length):(dropI l i).length=l.length - 1:=by
 unfold dropI;rw [List.length_append,List.length_take,List.length_drop];omega
theorem dropI_map {α β:Type} (f:α→β) (l:List α) (i:Nat):(dropI l i).map f=dropI (l.map f) i:=by
 unfold dropI;rw [List.map_append,List.map_take,List.map_drop]
theorem oth_low {α:Type} (d:α) (l:List α) {i:Nat}:∀ n,n≤i→n≤l.length→(othS n i).map (fun k=>l.getD k d)=l.take n
 | 0,_,_=>rfl
 | n+1,h,hl=>by
  rw [othS_succ,if_pos (by omega),List.map_append,oth_low d l n (by omega) (by omega),List.take_add_one,List.getElem?_eq_getElem (by omega)]
  show _++[l.getD n d]=_++[l[n]]
  rw [List.getD_eq_getElem?_getD,List.getElem?_eq_getElem (by omega)];rfl
theorem oth_high {α:Type} (d:α) (l:List α) {i:Nat} (hi:i<l.length):∀ n,i+1+n≤l.length→(othS (i+1+n) i).map (fun k=>l.getD k d)=l.take i++(l.drop (i+1)).take n
 | 0,_=>by
  show (othS (i+1) i).map _=_
  rw [othS_succ,if_neg (by simp),List.append_nil,oth_low d l i (Nat.le_refl _) (by omega)];simp
 | n+1,h=>by
  have e:i+1+(n+1)=i+1+n+1:=rfl
  rw [e,othS_succ,if_pos (by omega),List.map_append,oth_high d l hi n (by omega),List.append_assoc,List.take_add_one]
  have h1:n<(l.drop (i+1)).length:=by rw [List.length_drop];omega
  rw [List.getElem?_eq_getElem h1,List.getElem_drop]
  show _++(_++[l.getD (i+1+n) d])=_++(_++[l[i+1+n]])
  rw [List.getD_eq_getElem?_getD,List.getElem?_eq_getElem (by omega)];rfl
theorem oth_dropI {α:Type} (d:α) {l:List α} {i:Nat} (hi:i<l.length):(othS l.length i).map (fun k=>l.getD k d)=dropI l i:=by
 have:=oth_high d l hi (l.length - (i+1)) (by omega)
 rw [show i+1+(l.length - (i+1))=l.length by omega] at this
 rw [this,List.take_of_length_le (l:=l.drop (i+1)) (by rw [List.length_drop];omega)];rfl
theorem othS_len {n i:Nat} (h:i<n):(othS n i).length=n - 1:=by
 have:=congrArg List.length (oth_dropI (l:=List.replicate n 0) 0 (i:=i) (by rw [List.length_replicate];exact h))
 rw [List.length_map,dropI_len (by rw [List.length_replicate];exact h),List.length_replicate] at this
 exact this
def wthC (cols:List (List Int)) (i:Nat):List (List Int):=(cols.map fun x=>dropI x i).filter anyP
theorem wthC_prj {n i:Nat} (hi:i<n) {cols:List (List Int)} (h:∀ x∈cols,x.length=n):wthC cols i=prjC (othS n i) cols:=by
 unfold wthC prjC
 congr 1
 refine List.map_congr_left fun x hx=>?_
 have hl:=h x hx
 subst hl
 exact (oth_dropI (-1) hi).symm
theorem wthC_ok {ls:List Nat} {cols:List (List Int)} {i:Nat} (h:ColsOk ls cols) (hi:i<ls.length):ColsOk (dropI ls i) (wthC cols i):=by
 rw [wthC_prj hi h.len, ← oth_dropI 0 hi]
 exact prjC_ok h fun s hs=>(othS_mem.1 hs).1
theorem wthC_len (cols:List (List Int)) (i:Nat):(wthC cols i).length≤cols.length:=by
 unfold wthC
 have:=List.length_filter_le anyP (cols.map fun x=>dropI x i)
 rwa [List.length_map] at this
def ordI (n i:Nat):List Nat:=othS n i++[i]
theorem ordI_len {n i:Nat} (h:i<n):(ordI n i).length=n:=by unfold ordI;rw [List.length_append,othS_len h];show n - 1+1=n;omega
theorem ordI_lt {n i:Nat} (h:i<n):∀ x∈ordI n i,x<n:=fun x hx=>by
 unfold ordI at hx
 rcases List.mem_append.1 hx with hx|hx
 ·exact (othS_mem.1 hx).1
 ·rw [List.mem_singleton] at hx;omega
theorem ordI_nodup (n i:Nat):(ordI n i).Nodup:=by
 unfold ordI
 rw [List.nodup_append]
 exact⟨othS_nodup n i,List.nodup_cons.2 ⟨by simp,List.nodup_nil⟩,fun a ha b hb=>by rw [List.mem_singleton] at hb;subst hb;exact (othS_mem.1 ha).2⟩
def moreV (c:Costs) (l:List TS) (cols:List (List Int)) (i:Nat):List (List Int):=(addV c (dropI l i) (wthC cols i) (tsA l i).l 0 0).map (arrR (ordI l.length i))
theorem ordI_map {α:Type} (d:α) {l:List α} {i:Nat} (hi:i<l.length):(ordI l.length i).map (fun k=>l.getD k d)=dropI l i++[l.getD i d]:=by
 unfold ordI;rw [List.map_append,oth_dropI d hi];rfl
theorem moreV_ok (c:Costs) {l:List TS} (hln:∀ t∈l,t.l.length=t.n) {cols:List (List Int)} (h:ColsOk (lens l) cols) {i:Nat} (hi:i<l.length):ColsOk (lens l) (moreV c l cols i)∧∀ x∈addV c (dropI l i) (wthC cols i) (tsA l i).l 0 0,x.length=l.length:=by
 have hll:=lens_len l
 have h1:=wthC_ok h (i:=i) (by omega)
 have h2:=addV_ok (c:=c) (l:=dropI l i) (t:=(tsA l i).l) (ls:=dropI (lens l) i) (by rw [dropI_len (by omega),dropI_len hi,hll]) h1
 have e0:(lens l).getD i 0=(tsA l i).l.length:=by
  rw [hln _ (tsA_mem hi)]
  unfold lens tsA
  rw [List.getD_eq_getElem?_getD,List.getElem?_map,List.getD_eq_getElem?_getD,List.getElem?_eq_getElem hi];rfl
 rw [← e0, ← ordI_map 0 (by omega),hll] at h2
 refine ⟨arr_ok (ordI_nodup _ _) (ordI_len hi) (ordI_lt hi) hll h2,fun x hx=>?_⟩
 rw [h2.len x hx,List.length_map,ordI_len hi]
def refS (c:Costs) (l:List TS) (cols:List (List Int)) (i:Nat):List (List Int):=if totZ c l (moreV c l cols i)<totZ c l cols then moreV c l cols i else cols
def refJ (c:Costs) (l:List TS) (cols:List (List Int)):Nat→List (List Int)
 | 0=>cols
 | i+1=>refS c l (refJ c l cols i) i
def refN (c:Costs) (l:List TS) (cols:List (List Int)):Nat→List (List Int)
 | 0=>cols
 | r+1=>refJ c l (refN c l cols r) l.length
theorem refJ_ok (c:Costs) {l:List TS} (hln:∀ t∈l,t.l.length=t.n) {cols:List (List Int)} (h:ColsOk (lens l) cols):∀ i,i≤l.length→ColsOk (lens l) (refJ c l cols i)∧totZ c l (refJ c l cols i)≤totZ c l cols
 | 0,_=>⟨h,Int.le_refl _⟩
 | i+1,hi=>by
  obtain⟨h1,h2⟩:=refJ_ok c hln h i (by omega)
  show ColsOk (lens l) (refS c l _ i)∧totZ c l (refS c l _ i)≤_
  unfold refS
  split
  ·exact⟨(moreV_ok c hln h1 (by omega)).1,by omega⟩
  ·exact⟨h1,h2⟩
theorem refN_ok (c:Costs) {l:List TS} (hln:∀ t∈l,t.l.length=t.n) {cols:List (List Int)} (h:ColsOk (lens l) cols):∀ r,ColsOk (lens l) (refN c l cols r)∧totZ c l (refN c l cols r)≤totZ c l cols
 | 0=>⟨h,Int.le_refl _⟩
 | r+1=>by
  obtain⟨h1,h2⟩:=refN_ok c hln h r
  obtain⟨h3,h4⟩:=refJ_ok c hln h1 l.length (Nat.le_refl _)
  exact⟨h3,Int.le_trans h4 h2⟩
end Go.Proofs.YtmenjpmikhajfaaGreatDoor
namespace Go.Proofs.YtmenjpmikhajfaaGreatDoor
open Go.RowKit Go.Shelf Go.Proofs
set_option maxRecDepth 100000
set_option maxHeartbeats 1000000

end Go.Proofs.YtmenjpmikhajfaaGreatDoor
namespace Go.Proofs.YtmenjpmikhajfaaGreatDoor
open Go.RowKit Go.Shelf Go.Proofs
set_option maxRecDepth 100000
set_option maxHeartbeats 1000000

theorem isNone_true {A:Option Addr} (h:isNone' A=true):A=none:=by cases A <;> simp_all [isNone']
theorem src_none {w:World} {sz n:Nat} {xs:List Value} (h:Src w sz none n xs):n=0∧xs=[]:=by
 have:n=0:=by
  rcases Nat.eq_zero_or_pos n with h1|h1
  ·exact h1
  ·have:=(h.2 h1).1;simp [isAt] at this
 subst this
 exact⟨rfl,List.eq_nil_of_length_eq_zero (by simpa using h.1)⟩
theorem oneMap {α:Type} (f:α→Value) (hf:∀ x,(f x).oneCell'=true):∀ l:List α,oneCells (l.map f)=true
 | []=>rfl
 | x::l=>by rw [List.map_cons];simp only [oneCells,hf,Bool.true_and];exact oneMap f hf l
end Go.Proofs.YtmenjpmikhajfaaGreatDoor
namespace Go.Proofs.YtmenjpmikhajfaaGreatDoor
open Go.RowKit Go.Shelf Go.Proofs
set_option maxRecDepth 100000
set_option maxHeartbeats 1000000

def RvIn (l r:List Tok) (i:Nat):Prop:=r.length=l.length∧∀ k,k<l.length→r[k]?=if k<i∨l.length≤k+i then l[l.length - 1 - k]? else l[k]?
theorem RvIn.zero (l:List Tok):RvIn l l 0:=⟨rfl,fun k hk=>by rw [if_neg (by omega)]⟩
theorem RvIn.step {l r:List Tok} {i:Nat} (h:RvIn l r i) (hi:2 * i+1<l.length):RvIn l ((r.set i (tkA r (l.length - 1 - i))).set (l.length - 1 - i) (tkA r i)) (i+1):=by
 obtain⟨h1,h2⟩:=h
 have e1:r[l.length - 1 - i]?=l[l.length - 1 - i]?:=by rw [h2 _ (by omega),if_neg (by omega)]
 have e2:r[i]?=l[i]?:=by rw [h2 _ (by omega),if_neg (by omega)]
 refine ⟨by simp [h1],fun k hk=>?_⟩
 rw [List.getElem?_set,List.getElem?_set,List.length_set]
 by_cases hk1:l.length - 1 - i=k
 ·rw [if_pos hk1,if_pos (by omega),if_pos (by omega),show l.length - 1 - k=i by omega, ← e2,tkA_get (by omega)]
 ·rw [if_neg hk1]
  by_cases hk2:i=k
  ·subst hk2
   rw [if_pos rfl,if_pos (by omega),if_pos (by omega), ← e1,tkA_get (by omega)]
  ·rw [if_neg hk2,h2 k hk]
   by_cases h3:k<i∨l.length≤k+i
   ·rw [if_pos h3,if_pos (by omega)]
   ·rw [if_neg h3,if_neg (by omega)]
theorem RvIn.all {l r:List Tok} {i:Nat} (h:RvIn l r i) (hi:l.length≤2 * i+1):r=l.reverse:=by
 obtain⟨h1,h2⟩:=h
 apply List.ext_getElem?
 intro k
 by_cases hk:k<l.length
 ·rw [h2 k hk,List.getElem?_reverse hk]
  split
  ·rfl
  ·rw [show l.length - 1 - k=k by omega]
 ·rw [List.getElem?_eq_none (by omega),List.getElem?_eq_none (by simp;omega)]
end Go.Proofs.YtmenjpmikhajfaaGreatDoor
namespace Go.Proofs.YtmenjpmikhajfaaGreatDoor
open Go.RowKit Go.Shelf Go.Proofs
set_option maxRecDepth 100000
set_option maxHeartbeats 1000000

theorem srcRowH {w0 w:World} {H:List HA} {A:Option Addr} {e sz cap n:Nat} {xs:List Value} {rb:HA→List HA} [FocusR H A e sz cap n xs rb] (hw:Cls w0 w H):Src w sz A n xs :=
 srcRw (C:=⟨sg,⟨0,[]⟩,w0,none,fun _ _=>True,fun _ _=>True,fun _ _ _=>True⟩) (e:=e) (cap:=cap) (rb:=rb) w hw
end Go.Proofs.YtmenjpmikhajfaaGreatDoor
namespace Go.Proofs.YtmenjpmikhajfaaGreatDoor
open Go.RowKit Go.Shelf Go.Proofs
set_option maxRecDepth 100000
set_option maxHeartbeats 1000000

theorem cloneI_spec (A:Option Addr) (n c:Nat) (l:List Int) (w:World) (hs:Src w 1 A n (l.map (Value.int .i64))) (hb:n≤1000000) :
  Spec Tryz.prog 52 [.slice A n c] w (fun v R=>∃ x:Option Addr × Nat,True∧v = .slice x.1 n x.2∧R=[row 3 1 x.1 x.2 n (l.map (Value.int .i64))]):=by
 refine spec_of sg Tryz.func52 rfl rfl rfl ?_
 repeat' (first|refine d1 ?_|refine dd ?_|(show T _ (.ops _ (_::_)::_) _ _ _;first|refine T_val rfl (Val.nilS rfl) rfl rfl rfl ?_|refine T_valC rfl (Val.nilS rfl) rfl rfl rfl rfl rfl ?_)|(show T _ (.run _ _ (_::_) _ _::_) _ _ _;first|refine rv rfl rfl rfl (Val.nilS rfl) rfl rfl rfl ?_|refine rg rfl rfl rfl (Val.nilS rfl) rfl rfl rfl rfl rfl ?_)|(show ∀ _:Nat,T _ _ _ _ _;intro _))
 refine T_if rfl (fun h=>?_) (fun h=>?_)
 ·obtain rfl:=isNone_true h
  obtain⟨rfl,e⟩:=src_none hs
  rw [e]
  repeat' (first|refine d1 ?_|refine dd ?_|(show ∀ _:Nat,T _ _ _ _ _;intro _))
  refine T_nilrow 3 1 ?_
  repeat' (first|refine d1 ?_|refine dd ?_|(show ∀ _:Nat,T _ _ _ _ _;intro _)|(show T _ (.code .ret::_) _ _ _;refine T_retV _ rfl Hle.sub ⟨(none,0),trivial,rfl,rfl⟩))
 ·repeat' (first|refine d1 ?_|(show ∀ _:Nat,T _ _ _ _ _;intro _))
  refine T_blk_rowh 1 0 rfl (by omega) ?_
  refine T_op (OpT.append rfl rfl rfl rfl rfl rfl rfl rfl rfl rfl (rdSrc hs) (oneInts l) (by dsimp only;omega) (by omega) (fun A' cap' hA'=>?_))
  rw [show 0+n=n by omega,show flatP []++(l.map (Value.int .i64))=(l.map (Value.int .i64)) from rfl]
  repeat' (first|refine d1 ?_|refine dd ?_|(show ∀ _:Nat,T _ _ _ _ _;intro _)|(show T _ (.code .ret::_) _ _ _;refine T_retV _ rfl (Hle.refl _) ⟨(A',cap'),trivial,rfl,rfl⟩))
theorem oneRows {R:Rdr}:∀ {m:List (List Int)} {cs:List Value},Rd R cs (m.map intsD)→oneCells cs=true
 | [],cs,h=>by cases h;rfl
 | r::m,[],h=>by cases h
 | r::m,x::cs,h=>by
  obtain⟨h1,h2⟩:=Rd.cons_inv (d:=intsD r) h
  obtain⟨A,cap,rfl,-⟩:=h1.row1
  show (true && oneCells cs)=true
  rw [oneRows h2];rfl
theorem cloneR_spec (A:Option Addr) (n c:Nat) (cs:List Value) (hone:oneCells cs=true) (w:World) (hs:Src w 1 A n (cs)) (hb:n≤1000000) :
  Spec Tryz.prog 76 [.slice A n c] w (fun v R=>∃ x:Option Addr × Nat,True∧v = .slice x.1 n x.2∧R=[row 40 1 x.1 x.2 n (cs)]):=by
 refine spec_of sg Tryz.func76 rfl rfl rfl ?_
 repeat' (first|refine d1 ?_|refine dd ?_|(show T _ (.ops _ (_::_)::_) _ _ _;first|refine T_val rfl (Val.nilS rfl) rfl rfl rfl ?_|refine T_valC rfl (Val.nilS rfl) rfl rfl rfl rfl rfl ?_)|(show T _ (.run _ _ (_::_) _ _::_) _ _ _;first|refine rv rfl rfl rfl (Val.nilS rfl) rfl rfl rfl ?_|refine rg rfl rfl rfl (Val.nilS rfl) rfl rfl rfl rfl rfl ?_)|(show ∀ _:Nat,T _ _ _ _ _;intro _))
 refine T_if rfl (fun h=>?_) (fun h=>?_)
 ·obtain rfl:=isNone_true h
  obtain⟨rfl,e⟩:=src_none hs
  rw [e]
  repeat' (first|refine d1 ?_|refine dd ?_|(show ∀ _:Nat,T _ _ _ _ _;intro _))
  refine T_nilrow 40 1 ?_
  repeat' (first|refine d1 ?_|refine dd ?_|(show ∀ _:Nat,T _ _ _ _ _;intro _)|(show T _ (.code .ret::_) _ _ _;refine T_retV _ rfl Hle.sub ⟨(none,0),trivial,rfl,rfl⟩))
 ·repeat' (first|refine d1 ?_|(show ∀ _:Nat,T _ _ _ _ _;intro _))
  refine T_blk_rowh 1 0 rfl (by omega) ?_
  refine T_op (OpT.append rfl rfl rfl rfl rfl rfl rfl rfl rfl rfl (rdSrc hs) (hone) (by dsimp only;omega) (by omega) (fun A' cap' hA'=>?_))
  rw [show 0+n=n by omega,show flatP []++(cs)=(cs) from rfl]
  repeat' (first|refine d1 ?_|refine dd ?_|(show ∀ _:Nat,T _ _ _ _ _;intro _)|(show T _ (.code .ret::_) _ _ _;refine T_retV _ rfl (Hle.refl _) ⟨(A',cap'),trivial,rfl,rfl⟩))
def RvS (l r:List TS) (i:Nat):Prop:=r.length=l.length∧∀ k,k<l.length→r[k]?=if k<i∨l.length≤k+i then l[l.length - 1 - k]? else l[k]?
theorem RvS.zero (l:List TS):RvS l l 0:=⟨rfl,fun k hk=>by rw [if_neg (by omega)]⟩
theorem tsA_get2 {l:List TS} {i:Nat} (h:i<l.length):l[i]?=some (tsA l i):=by unfold tsA;rw [List.getD_eq_getElem?_getD,List.getElem?_eq_getElem h];rfl
theorem RvS.step {l r:List TS} {i:Nat} (h:RvS l r i) (hi:2 * i+1<l.length):RvS l ((r.set i (tsA r (l.length - 1 - i))).set (l.length - 1 - i) (tsA r i)) (i+1):=by
 obtain⟨h1,h2⟩:=h
 have e1:r[l.length - 1 - i]?=l[l.length - 1 - i]?:=by rw [h2 _ (by omega),if_neg (by omega)]
 have e2:r[i]?=l[i]?:=by rw [h2 _ (by omega),if_neg (by omega)]
 refine ⟨by simp [h1],fun k hk=>?_⟩
 rw [List.getElem?_set,List.getElem?_set,List.length_set]
 by_cases hk1:l.length - 1 - i=k
 ·rw [if_pos hk1,if_pos (by omega),if_pos (by omega),show l.length - 1 - k=i by omega, ← e2,tsA_get2 (by omega)]
 ·rw [if_neg hk1]
  by_cases hk2:i=k
  ·subst hk2
   rw [if_pos rfl,if_pos (by omega),if_pos (by omega), ← e1,tsA_get2 (by omega)]
  ·rw [if_neg hk2,h2 k hk]
   by_cases h3:k<i∨l.length≤k+i
   ·rw [if_pos h3,if_pos (by omega)]
   ·rw [if_neg h3,if_neg (by omega)]
theorem RvS.all {l r:List TS} {i:Nat} (h:RvS l r i) (hi:l.length≤2 * i+1):r=l.reverse:=by
 obtain⟨h1,h2⟩:=h
 apply List.ext_getElem?
 intro k
 by_cases hk:k<l.length
 ·rw [h2 k hk,List.getElem?_reverse hk]
  split
  ·rfl
  ·rw [show l.length - 1 - k=k by omega]
 ·rw [List.getElem?_eq_none (by omega),List.getElem?_eq_none (by simp;omega)]
end Go.Proofs.YtmenjpmikhajfaaGreatDoor
