/- Joined texts of this claim, part 2. -/
import Derived.Test.YtabhdaehomjlgaaGreatT1
import Derived.Test.YtabhdaehomjlgaaGreatRows
set_option linter.unusedSectionVars false
set_option linter.unusedVariables false
set_option linter.unusedSimpArgs false
namespace Go.Proofs.YtabhdaehomjlgaaGreat
open Go.RowKit Go.Shelf Go.Proofs
set_option maxRecDepth 100000
set_option maxHeartbeats 1000000

theorem lessI_spec (a b:Int) (w:World):Spec Tryz.prog 166 [.int .i64 a, .int .i64 b] w (fun v R=>v = .bool (decide (a<b))∧R=[]):=by
 refine spec_of sg Tryz.func166 rfl rfl rfl ?_
 repeat' (first|refine d1 ?_|refine dd ?_|(show T _ (.ops _ (_::_)::_) _ _ _;first|refine T_call rfl rfl rfl rfl rfl (fun w hw=>isNaN_spec a w) ?_|refine T_callC rfl rfl rfl rfl rfl rfl rfl (fun hg w hw=>isNaN_spec a w) ?_|refine T_call rfl rfl rfl rfl rfl (fun w hw=>isNaN_spec b w) ?_|refine T_callC rfl rfl rfl rfl rfl rfl rfl (fun hg w hw=>isNaN_spec b w) ?_|refine T_op (OpT.never (.bool false) rfl (fun hg9=>by have h10:(false:Bool)=true:=hg9.1;cases h10) rfl rfl rfl rfl rfl ?_))|(show T _ (.run _ _ (_::_) _ _::_) _ _ _;first|refine rc rfl rfl rfl rfl rfl rfl rfl (fun w hw=>isNaN_spec a w) ?_|refine rcG rfl rfl rfl rfl rfl rfl rfl rfl rfl (fun hg w hw=>isNaN_spec a w) ?_|refine rc rfl rfl rfl rfl rfl rfl rfl (fun w hw=>isNaN_spec b w) ?_|refine rcG rfl rfl rfl rfl rfl rfl rfl rfl rfl (fun hg w hw=>isNaN_spec b w) ?_)|(show ∀ _:Nat,T _ _ _ _ _;intro _)|(show T _ (.code .ret::_) _ _ _;refine T_retV [] rfl (Hle.refl _) ⟨congrArg Value.bool ?_,rfl⟩))
 simp
theorem srt_step {zs:List Int} {i j:Nat} (hi:i<zs.length) (hj:j+1≤i) (h:∀ p q,p<q→q≤i→q≠j+1→zs.getD p 0≤zs.getD q 0) (hlt:zs.getD (j+1) 0<zs.getD j 0) :
  ∀ p q,p<q→q≤i→q≠j→((zs.set (j+1) (zs.getD j 0)).set j (zs.getD (j+1) 0)).getD p 0≤((zs.set (j+1) (zs.getD j 0)).set j (zs.getD (j+1) 0)).getD q 0:=by
 have e:∀ k,((zs.set (j+1) (zs.getD j 0)).set j (zs.getD (j+1) 0)).getD k 0=if k=j then zs.getD (j+1) 0 else if k=j+1 then zs.getD j 0 else zs.getD k 0:=fun k=>by
  by_cases h1:k=j
  ·subst h1
   rw [if_pos rfl,List.getD_eq_getElem?_getD,List.getElem?_set_self (by rw [List.length_set];omega)];rfl
  ·rw [if_neg h1,List.getD_eq_getElem?_getD,List.getElem?_set_ne (Ne.symm h1)]
   by_cases h2:k=j+1
   ·subst h2
    rw [if_pos rfl,List.getElem?_set_self (by omega)];rfl
   ·rw [if_neg h2,List.getElem?_set_ne (Ne.symm h2),List.getD_eq_getElem?_getD]
 intro p q hpq hqi hqj
 rw [e,e,if_neg hqj]
 by_cases h1:q=j+1
 ·rw [if_pos h1]
  by_cases h2:p=j
  ·rw [if_pos h2];omega
  ·rw [if_neg h2,if_neg (by omega)]
   exact h p j (by omega) (by omega) (by omega)
 ·rw [if_neg h1]
  by_cases h2:p=j
  ·rw [if_pos h2];exact h (j+1) q (by omega) hqi h1
  ·rw [if_neg h2]
   by_cases h3:p=j+1
   ·rw [if_pos h3];exact h j q (by omega) hqi h1
   ·rw [if_neg h3];exact h p q hpq hqi h1
theorem srt_end {zs:List Int} {i j:Nat} (hj:j≤i) (h:∀ p q,p<q→q≤i→q≠j→zs.getD p 0≤zs.getD q 0) (hx:j=0∨zs.getD (j - 1) 0≤zs.getD j 0):∀ p q,p<q→q<i+1→zs.getD p 0≤zs.getD q 0:=by
 intro p q hpq hq
 by_cases h1:q=j
 ·subst h1
  rcases hx with h2|h2
  ·omega
  ·by_cases h3:p=q - 1
   ·rw [h3];exact h2
   ·exact Int.le_trans (h p (q - 1) (by omega) (by omega) (by omega)) h2
 ·exact h p q hpq (by omega) h1
theorem swpI_perm {zs:List Int} {j:Nat} (hj:j+1<zs.length):((zs.set (j+1) (zs.getD j 0)).set j (zs.getD (j+1) 0)).Perm zs:=by
 have h:=@List.set_set_perm _ zs (j+1) j hj (by omega)
 rw [List.getD_eq_getElem?_getD,List.getD_eq_getElem?_getD,List.getElem?_eq_getElem hj,List.getElem?_eq_getElem (show j<zs.length by omega)]
 exact h
theorem setL_int {l:List Int} {off k:Nat} {z:Int} (h:off=k):setL (l.map (Value.int .i64)) off [.int .i64 z]=(l.set k z).map (Value.int .i64):=by
 subst h;rw [List.map_set];rfl
theorem getI_row {l:List Int} {off k:Nat} (h:off=k) (hk:k<l.length):∀ (j:Nat) u,[Value.int .i64 (l.getD k 0)][j]?=some u→(l.map (Value.int .i64))[off+j]?=some u:=fun j u hu=>by
 subst h
 rcases j with _|j
 ·cases hu
  rw [Nat.add_zero,List.getElem?_map,List.getElem?_eq_getElem hk,List.getD_eq_getElem?_getD,List.getElem?_eq_getElem hk];rfl
 ·simp at hu
theorem isort_spec (g c n:Nat) (xs:List Int) (w0:World) (K:List HA) (hl:xs.length=n) (h1:1≤n) (h12:n≤12) :
  SpecB Tryz.prog 160 [.slice (some ⟨g,0,none⟩) n c, .int .i64 0, .int .i64 (n:Nat)] w0 (row 3 1 (some ⟨g,0,none⟩) c n (xs.map (Value.int .i64))::K)
   (fun _ R=>∃ ys:List Int,(ys.Perm xs∧∀ p q,p<q→q<n→ys.getD p 0≤ys.getD q 0)∧R=row 3 1 (some ⟨g,0,none⟩) c n (ys.map (Value.int .i64))::K):=by
 refine specB_of sg Tryz.func160 rfl rfl rfl ?_
 repeat' (first|refine d1 ?_|refine dd ?_|(show ∀ _:Nat,T _ _ _ _ _;intro _))
 refine T_loopX (fun s:Nat × List Int=>[(6, .int .i64 (s.1:Nat))]) (fun s=>row 3 1 (some ⟨g,0,none⟩) c n (s.2.map (Value.int .i64))::K) (fun s=>(s.2.length=n∧s.2.Perm xs)∧(1≤s.1∧s.1≤n)∧∀ p q,p<q→q<s.1→s.2.getD p 0≤s.2.getD q 0) (fun s=>n - s.1) (1,xs) ⟨⟨hl,List.Perm.refl _⟩,⟨Nat.le_refl _,h1⟩,fun p q h2 h3=>by dsimp only at h3;omega⟩ ?_
 rintro⟨i,ys⟩ ⟨⟨hyl,hyp⟩,⟨hi1,hin⟩,hys⟩
 dsimp only at hyl hyp hi1 hin hys ⊢
 repeat' (first|refine d1 ?_|refine dd ?_|(show ∀ _:Nat,T _ _ _ _ _;intro _))
 refine T_if rfl (fun h3=>?_) (fun h3=>?_)
 ·simp only [decide_eq_true_eq] at h3
  have hi:i<n:=by omega
  repeat' (first|refine d1 ?_|refine dd ?_|(show ∀ _:Nat,T _ _ _ _ _;intro _))
  refine T_loopX (fun s:Nat × List Int=>[(7, .int .i64 (s.1:Nat))]) (fun s=>row 3 1 (some ⟨g,0,none⟩) c n (s.2.map (Value.int .i64))::K) (fun s=>(s.2.length=n∧s.2.Perm xs)∧s.1≤i∧∀ p q,p<q→q≤i→q≠s.1→s.2.getD p 0≤s.2.getD q 0) (fun s=>s.1) (i,ys) ⟨⟨hyl,hyp⟩,Nat.le_refl _,fun p q h4 h5 h6=>hys p q h4 (by dsimp only at h6;omega)⟩ ?_
  rintro⟨j,zs⟩ ⟨⟨hzl,hzp⟩,hji,hzs⟩
  dsimp only at hzl hzp hji hzs ⊢
  repeat' (first|refine d1 ?_|refine dd ?_|(show T _ (.ops _ (_::_)::_) _ _ _;first|refine T_val rfl (Val.load rfl (fun hg=>rdRow (A:=some ⟨g,0,none⟩) (vs:=[.int .i64 (zs.getD j 0)]) (by omega) (getI_row (by omega) (by omega)))) rfl rfl rfl ?_|refine T_valC rfl (Val.load rfl (fun hg=>rdRow (A:=some ⟨g,0,none⟩) (vs:=[.int .i64 (zs.getD j 0)]) (by omega) (getI_row (by omega) (by omega)))) rfl rfl rfl rfl rfl ?_|refine T_val rfl (Val.load rfl (fun hg=>rdRow (A:=some ⟨g,0,none⟩) (vs:=[.int .i64 (zs.getD (j - 1) 0)]) (by omega) (getI_row (by omega) (by omega)))) rfl rfl rfl ?_|refine T_valC rfl (Val.load rfl (fun hg=>rdRow (A:=some ⟨g,0,none⟩) (vs:=[.int .i64 (zs.getD (j - 1) 0)]) (by omega) (getI_row (by omega) (by omega)))) rfl rfl rfl rfl rfl ?_|refine T_call rfl rfl rfl rfl rfl (fun w hw=>lessI_spec (zs.getD j 0) (zs.getD (j - 1) 0) w) ?_|refine T_callC rfl rfl rfl rfl rfl rfl rfl (fun hg w hw=>lessI_spec (zs.getD j 0) (zs.getD (j - 1) 0) w) ?_)|(show T _ (.run _ _ (_::_) _ _::_) _ _ _;first|refine rv rfl rfl rfl (Val.load rfl (fun hg=>rdRow (A:=some ⟨g,0,none⟩) (vs:=[.int .i64 (zs.getD j 0)]) (by omega) (getI_row (by omega) (by omega)))) rfl rfl rfl ?_|refine rg rfl rfl rfl (Val.load rfl (fun hg=>rdRow (A:=some ⟨g,0,none⟩) (vs:=[.int .i64 (zs.getD j 0)]) (by omega) (getI_row (by omega) (by omega)))) rfl rfl rfl rfl rfl ?_|refine rv rfl rfl rfl (Val.load rfl (fun hg=>rdRow (A:=some ⟨g,0,none⟩) (vs:=[.int .i64 (zs.getD (j - 1) 0)]) (by omega) (getI_row (by omega) (by omega)))) rfl rfl rfl ?_|refine rg rfl rfl rfl (Val.load rfl (fun hg=>rdRow (A:=some ⟨g,0,none⟩) (vs:=[.int .i64 (zs.getD (j - 1) 0)]) (by omega) (getI_row (by omega) (by omega)))) rfl rfl rfl rfl rfl ?_|refine rc rfl rfl rfl rfl rfl rfl rfl (fun w hw=>lessI_spec (zs.getD j 0) (zs.getD (j - 1) 0) w) ?_|refine rcG rfl rfl rfl rfl rfl rfl rfl rfl rfl (fun hg w hw=>lessI_spec (zs.getD j 0) (zs.getD (j - 1) 0) w) ?_)|(show ∀ _:Nat,T _ _ _ _ _;intro _))
  refine T_if rfl (fun h4=>?_) (fun h4=>?_)
  ·simp only [Bool.and_eq_true,decide_eq_true_eq] at h4
   obtain⟨j,rfl⟩:∃ j',j=j'+1:=⟨j - 1,by omega⟩
   have hlt:zs.getD (j+1) 0<zs.getD j 0:=h4.2
   rw [Nat.add_sub_cancel] at *
   refine dw0 14 [row 3 1 (some ⟨g,0,none⟩) c n (zs.map (Value.int .i64))] ?_
   repeat' (first|(show T _ (.draw _ _ _ _ _::_) _ _ _;first|refine dw1 ?_|refine dwv rfl (by decide +kernel) rfl rfl (Val.load rfl (fun hg=>rdRow (A:=some ⟨g,0,none⟩) (vs:=[.int .i64 (zs.getD j 0)]) (by omega) (getI_row (by omega) (by omega)))) rfl rfl rfl ?_|refine dwg rfl (by decide +kernel) rfl rfl (Val.load rfl (fun hg=>rdRow (A:=some ⟨g,0,none⟩) (vs:=[.int .i64 (zs.getD j 0)]) (by omega) (getI_row (by omega) (by omega)))) rfl rfl rfl rfl rfl ?_|refine dwv rfl (by decide +kernel) rfl rfl (Val.load rfl (fun hg=>rdRow (A:=some ⟨g,0,none⟩) (vs:=[.int .i64 (zs.getD (j+1) 0)]) (by omega) (getI_row (by omega) (by omega)))) rfl rfl rfl ?_|refine dwg rfl (by decide +kernel) rfl rfl (Val.load rfl (fun hg=>rdRow (A:=some ⟨g,0,none⟩) (vs:=[.int .i64 (zs.getD (j+1) 0)]) (by omega) (getI_row (by omega) (by omega)))) rfl rfl rfl rfl rfl ?_|refine dwb rfl (by decide +kernel) ?_)|(show AllL _ [];exact True.intro)|(show AllL _ (_::_);refine ⟨?_,?_⟩)|(show OpT _ _ _ _ _ _ _;first|refine dwx ?_|refine OpT.ofVal rfl (Val.load rfl (fun hg=>rdRow (A:=some ⟨g,0,none⟩) (vs:=[.int .i64 (zs.getD j 0)]) (by omega) (getI_row (by omega) (by omega)))) rfl rfl rfl ⟨fun _=>(by first|exact Hle.none _|exact Hle.sub|exact absurd ‹_› (by decide +kernel)),?_⟩|refine OpT.ofVal rfl (Val.load rfl (fun hg=>rdRow (A:=some ⟨g,0,none⟩) (vs:=[.int .i64 (zs.getD (j+1) 0)]) (by omega) (getI_row (by omega) (by omega)))) rfl rfl rfl ⟨fun _=>(by first|exact Hle.none _|exact Hle.sub|exact absurd ‹_› (by decide +kernel)),?_⟩|refine OpT.storeR rfl rfl rfl rfl rfl rfl (by show 0+((j+1:Nat):Int).toNat * 1+1≤n * 1;omega) ⟨fun _=>(by first|exact Hle.none _|exact Hle.sub|exact absurd ‹_› (by decide +kernel)),?_⟩|refine OpT.storeR rfl rfl rfl rfl rfl rfl (by show 0+(((j+1:Nat):Int) - 1).toNat * 1+1≤n * 1;omega) ⟨fun _=>(by first|exact Hle.none _|exact Hle.sub|exact absurd ‹_› (by decide +kernel)),?_⟩)|(show ∀ _:Nat,T _ _ _ _ _;intro _))
   refine T_le (H':=row 3 1 (some ⟨g,0,none⟩) c n (setL (setL (zs.map (Value.int .i64)) (0+((j+1:Nat):Int).toNat * 1) [.int .i64 (zs.getD j 0)]) (0+(((j+1:Nat):Int) - 1).toNat * 1) [.int .i64 (zs.getD (j+1) 0)])::K) (Hle.refl _) ?_
   rw [setL_int (k:=j+1) (by omega),setL_int (k:=j) (by omega)]
   repeat' (first|refine d1 ?_|refine dd ?_|(show ∀ _:Nat,T _ _ _ _ _;intro _))
   rw [show (((j+1:Nat):Int) - 1)=(j:Int) by omega]
   exact T_backX (j,(zs.set (j+1) (zs.getD j 0)).set j (zs.getD (j+1) 0)) ⟨⟨by dsimp only;rw [List.length_set,List.length_set];exact hzl,(swpI_perm (by omega)).trans hzp⟩,by dsimp only;omega,srt_step (by omega) (by omega) hzs hlt⟩ (by dsimp only;omega)
  ·have hx:j=0∨zs.getD (j - 1) 0≤zs.getD j 0:=by
    rcases Nat.eq_zero_or_pos j with h5|h5
    ·exact .inl h5
    ·refine .inr ?_
     simp only [Bool.and_eq_false_iff,decide_eq_false_iff_not] at h4
     omega
   repeat' (first|refine d1 ?_|refine dd ?_|(show ∀ _:Nat,T _ _ _ _ _;intro _))
   exact T_backX (i+1,zs) ⟨⟨hzl,hzp⟩,⟨by dsimp only;omega,by dsimp only;omega⟩,srt_end hji hzs hx⟩ (by dsimp only;omega)
 ·simp only [decide_eq_false_iff_not] at h3
  obtain rfl:i=n:=by omega
  repeat' (first|refine d1 ?_|refine dd ?_|(show ∀ _:Nat,T _ _ _ _ _;intro _))
  exact T_fallV (vs:=[]) _ rfl (Hle.refl _) ⟨ys,⟨hyp,hys⟩,rfl⟩
theorem pdq_spec (g c n:Nat) (z:Int) (xs:List Int) (w0:World) (K:List HA) (hl:xs.length=n) (h1:1≤n) (h12:n≤12) :
  SpecB Tryz.prog 136 [.slice (some ⟨g,0,none⟩) n c, .int .i64 0, .int .i64 (n:Nat), .int .i64 z] w0 (row 3 1 (some ⟨g,0,none⟩) c n (xs.map (Value.int .i64))::K)
   (fun _ R=>∃ ys:List Int,(ys.Perm xs∧∀ p q,p<q→q<n→ys.getD p 0≤ys.getD q 0)∧R=row 3 1 (some ⟨g,0,none⟩) c n (ys.map (Value.int .i64))::K):=by
 refine specB_of sg Tryz.func136 rfl rfl rfl ?_
 repeat' (first|refine d1 ?_|refine dd ?_|(show ∀ _:Nat,T _ _ _ _ _;intro _))
 refine T_loopX (fun _:Unit=>[]) (fun _=>row 3 1 (some ⟨g,0,none⟩) c n (xs.map (Value.int .i64))::K) (fun _=>True) (fun _=>0) () trivial ?_
 rintro - -
 repeat' (first|refine d1 ?_|refine dd ?_|(show ∀ _:Nat,T _ _ _ _ _;intro _))
 refine T_if rfl (fun _=>?_) (fun h=>by exfalso;simp at h;omega)
 repeat' (first|refine d1 ?_|refine dd ?_|(show T _ (.ops _ (_::_)::_) _ _ _;refine T_op (OpT.callB rfl rfl rfl rfl rfl (isort_spec g c n xs w0 K hl h1 h12) ?_))|(show ∀ _:Nat,T _ _ _ _ _;intro _))
 rintro u R ⟨ys,hys,rfl⟩
 repeat' (first|refine d1 ?_|refine dd ?_|(show ∀ _:Nat,T _ _ _ _ _;intro _))
 exact T_retV (vs:=[]) _ rfl (Hle.refl _) ⟨ys,hys,rfl⟩
theorem T_rowAt {C:Cx} {k:List It} {env:Env} {ec:EnvC} {H:List HA} {A:Option Addr} {e:TypeId} {sz cap n:Nat} {xs:List Value} (hn:0<n) (h:∀ g,A=some ⟨g,0,none⟩→T C k env ec (row e sz A cap n xs::H)):T C k env ec (row e sz A cap n xs::H):=by
 refine T.mk fun a w ha hw=>?_
 obtain⟨F,h1,h2,h3⟩:=hw.sep
 obtain⟨hl,hr⟩:=h1 0 _ rfl
 rcases hr with⟨e1,e2,e3,e4⟩|⟨b,cur,e1,_⟩
 ·omega
 ·exact (h b e1).go a w ha hw
end Go.Proofs.YtabhdaehomjlgaaGreat
namespace Go.Proofs.YtabhdaehomjlgaaGreat
open Go.RowKit Go.Shelf Go.Proofs
set_option maxRecDepth 100000
set_option maxHeartbeats 1000000

mutual
def szN:Ln→Nat
 | .mk _ _ _ _ _ ks=>1+szNL ks
def szNL:List Ln→Nat
 | []=>0
 | k::r=>szN k+szNL r
end
theorem szN_mk (b:Nat) (A:Option Addr) (c:Nat) (a:ByteArray) (o:Int) (ks:List Ln):szN (.mk b A c a o ks)=1+szNL ks:=rfl
theorem szNL_app:∀ l r:List Ln,szNL (l++r)=szNL l+szNL r
 | [],r=>by simp [szNL]
 | k::l,r=>by rw [List.cons_append,szNL,szNL,szNL_app l r];omega
theorem szN_kid {ks:List Ln} {k:Ln} (h:k∈ks):szN k≤szNL ks:=by
 obtain⟨l,r,rfl⟩:=List.append_of_mem h
 rw [szNL_app,szNL];omega
theorem szN_len:∀ ks:List Ln,ks.length≤szNL ks
 | []=>Nat.zero_le _
 | k::r=>by
  have:=szN_len r
  cases k
  rw [List.length_cons,szNL,szN];omega
theorem szN_pos (x:Ln):1≤szN x:=by cases x;rw [szN];omega
theorem hle_kid1 {tN tP:TypeId} {k:Ln} {H:List HA}:Hle (trs tN tP [k]::H) (tre tN tP k::H):=by
 show Hle (jn _ _::H) _
 refine hle_part.trans ?_
 refine (Hle.perm (List.Perm.swap _ _ _)).trans ?_
 exact Hle.tail _ _
theorem getV {ls rs:List Ln} {k:Ln} {off i:Nat} (h:off=i) (hi:i=ls.length):∀ (q:Nat) u,[lnV k][q]?=some u→((ls++k::rs).map lnV)[off+q]?=some u:=fun q u hu=>by
 subst h hi
 rcases q with _|q
 ·cases hu
  rw [Nat.add_zero,List.getElem?_map,List.getElem?_append_right (Nat.le_refl _),Nat.sub_self];rfl
 ·simp at hu
theorem setV {ls rs:List Ln} {k y:Ln} {off i:Nat} (h:off=i) (hi:i=ls.length):setL ((ls++k::rs).map lnV) off [lnV y]=((ls++[y])++rs).map lnV:=by
 subst h hi
 show ((ls++k::rs).map lnV).set _ (lnV y)=_
 rw [List.map_append,List.set_append_right _ _ (by rw [List.length_map];exact Nat.le_refl _),List.length_map,Nat.sub_self,List.map_cons,List.set_cons_zero,List.map_append,List.map_append,List.append_assoc]
 rfl

theorem contracted_spec:∀ (m:Nat) (x:Ln) (w0:World) (K:List HA),szN x≤m→m≤100000 →
  SpecB Tryz.prog 106 [lnV x] w0 (tre 97 92 x::K) (fun v R=>∃ y:Ln,er y=ctr (er x)∧v=lnV y∧R=tre 97 92 y::K)
 | 0,x,_,_,h,_=>by have:=szN_pos x;omega
 | m+1,x,w0,K,hm,hmb=>by
  refine specB_of sg Tryz.func106 rfl rfl rfl ?_
  repeat' (first|refine d1 ?_|refine dd ?_|(show ∀ _:Nat,T _ _ _ _ _;intro _))
  refine T_loopX (fun z:Ln=>[(0,lnV z)]) (fun z=>tre 97 92 z::K) (fun z=>szN z≤m+1∧ctr (er z)=ctr (er x)) (fun z=>szN z) x ⟨hm,rfl⟩ ?_
  rintro⟨b,A,c,a,o,ks⟩ ⟨hz,hc⟩
  have hkl:=szN_len ks
  rw [szN_mk] at hz
  refine T_le hle_open ?_
  rw [show lnV (Ln.mk b A c a o ks) = .pointer (some ⟨b,0,none⟩) from rfl]
  repeat' (first|refine d1 ?_|refine dd ?_|(show T _ (.ops _ (_::_)::_) _ _ _;first|refine T_val rfl (Val.nilc rfl) rfl rfl rfl ?_|refine T_valC rfl (Val.nilc rfl) rfl rfl rfl rfl rfl ?_)|(show T _ (.run _ _ (_::_) _ _::_) _ _ _;first|refine rv rfl rfl rfl (Val.nilc rfl) rfl rfl rfl ?_|refine rg rfl rfl rfl (Val.nilc rfl) rfl rfl rfl rfl rfl ?_)|(show ∀ _:Nat,T _ _ _ _ _;intro _))
  refine T_if rfl (fun h1=>?_) (fun h1=>?_)
  ·simp only [decide_eq_true_eq] at h1
   obtain⟨k,rfl⟩:=List.length_eq_one_iff.1 (by omega:ks.length=1)
   refine T_le (Hle.perm (List.Perm.swap _ _ _)) ?_
   refine T_rowAt (by simp) ?_
   rintro g rfl
   repeat' (first|refine d1 ?_|refine dd ?_|(show T _ (.ops _ (_::_)::_) _ _ _;first|refine T_val rfl (Val.nilc rfl) rfl rfl rfl ?_|refine T_valC rfl (Val.nilc rfl) rfl rfl rfl rfl rfl ?_|refine T_val rfl (Val.load rfl (fun hg=>rdRow (A:=some ⟨g,0,none⟩) (vs:=[lnV k]) (by simp) (getV (ls:=[]) rfl rfl))) rfl rfl rfl ?_|refine T_valC rfl (Val.load rfl (fun hg=>rdRow (A:=some ⟨g,0,none⟩) (vs:=[lnV k]) (by simp) (getV (ls:=[]) rfl rfl))) rfl rfl rfl rfl rfl ?_)|(show T _ (.run _ _ (_::_) _ _::_) _ _ _;first|refine rv rfl rfl rfl (Val.nilc rfl) rfl rfl rfl ?_|refine rg rfl rfl rfl (Val.nilc rfl) rfl rfl rfl rfl rfl ?_|refine rv rfl rfl rfl (Val.load rfl (fun hg=>rdRow (A:=some ⟨g,0,none⟩) (vs:=[lnV k]) (by simp) (getV (ls:=[]) rfl rfl))) rfl rfl rfl ?_|refine rg rfl rfl rfl (Val.load rfl (fun hg=>rdRow (A:=some ⟨g,0,none⟩) (vs:=[lnV k]) (by simp) (getV (ls:=[]) rfl rfl))) rfl rfl rfl rfl rfl ?_)|(show ∀ _:Nat,T _ _ _ _ _;intro _))
   refine T_backX k ⟨?_,?_⟩ ?_ (hG:=(Hle.tail _ _).trans ((Hle.tail _ _).trans hle_kid1))
   ·simp only [szNL] at hz;omega
   ·rw [← hc,er_mk,List.map_singleton,ctr_one]
   ·rw [szN_mk];simp only [szNL];omega
  simp only [decide_eq_false_iff_not] at h1
  repeat' (first|refine d1 ?_|refine dd ?_|(show T _ (.ops _ (_::_)::_) _ _ _;first|refine T_val rfl (Val.nilc rfl) rfl rfl rfl ?_|refine T_valC rfl (Val.nilc rfl) rfl rfl rfl rfl rfl ?_)|(show T _ (.run _ _ (_::_) _ _::_) _ _ _;first|refine rv rfl rfl rfl (Val.nilc rfl) rfl rfl rfl ?_|refine rg rfl rfl rfl (Val.nilc rfl) rfl rfl rfl rfl rfl ?_)|(show ∀ _:Nat,T _ _ _ _ _;intro _))
  refine T_loopX (fun s:List Ln × List Ln=>[(22, .int .i64 (s.1.length:Nat))]) (fun s=>blk b [.string a, .slice A ks.length c, .int .i64 o] 97::row 92 1 A c ks.length ((s.1++s.2).map lnV)::trs 97 92 (s.1++s.2)::K) (fun s=>∃ pre,ks=pre++s.2∧s.1.map er=pre.map (fun k=>ctr (er k))) (fun s=>s.2.length) ([],ks) ⟨[],rfl,rfl⟩ ?_
  rintro⟨ls,rs⟩ ⟨pre,hks,hmap⟩
  dsimp only at hks hmap ⊢
  have hpl:ls.length=pre.length:=by have:=congrArg List.length hmap;simpa using this
  have hn:ks.length=ls.length+rs.length:=by rw [hks,List.length_append];omega
  repeat' (first|refine d1 ?_|refine dd ?_|(show ∀ _:Nat,T _ _ _ _ _;intro _))
  refine T_if rfl (fun h5=>?_) (fun h5=>?_)
  ·simp only [decide_eq_true_eq] at h5
   obtain⟨k,rs',rfl⟩:∃ k rs',rs=k::rs':=by
    cases rs with
    | nil=>simp at hn;omega
    | cons k r=>exact⟨k,r,rfl⟩
   have hkm:=szN_kid (ks:=ks) (k:=k) (by rw [hks];exact List.mem_append_right _ (.head _))
   refine T_le (Hle.perm (List.Perm.swap _ _ _)) ?_
   refine T_rowAt (by omega) ?_
   rintro g rfl
   refine T_le (hle_srt3.trans hle_srt3) ?_
   refine T_le hle_focus ?_
   repeat' (first|refine d1 ?_|(show T _ (.ops _ (_::_)::_) _ _ _;first|refine T_val rfl (Val.load rfl (fun hg=>rdRow (A:=some ⟨g,0,none⟩) (vs:=[lnV k]) (by omega) (getV (by omega) rfl))) rfl rfl rfl ?_|refine T_valC rfl (Val.load rfl (fun hg=>rdRow (A:=some ⟨g,0,none⟩) (vs:=[lnV k]) (by omega) (getV (by omega) rfl))) rfl rfl rfl rfl rfl ?_)|(show T _ (.run _ _ (_::_) _ _::_) _ _ _;first|refine rv rfl rfl rfl (Val.load rfl (fun hg=>rdRow (A:=some ⟨g,0,none⟩) (vs:=[lnV k]) (by omega) (getV (by omega) rfl))) rfl rfl rfl ?_|refine rg rfl rfl rfl (Val.load rfl (fun hg=>rdRow (A:=some ⟨g,0,none⟩) (vs:=[lnV k]) (by omega) (getV (by omega) rfl))) rfl rfl rfl rfl rfl ?_)|(show ∀ _:Nat,T _ _ _ _ _;intro _))
   refine rsH [row 92 1 (some ⟨g,0,none⟩) c ks.length ((ls++k::rs').map lnV),blk b [.string a, .slice (some ⟨g,0,none⟩) ks.length c, .int .i64 o] 97] 8 [0,1,2,3,4,5,6,7,8] ?_
   repeat' (first|refine d1 ?_|refine dd ?_|(show T _ (.ops _ (_::_)::_) _ _ _;first|refine T_val rfl (Val.nilc rfl) rfl rfl rfl ?_|refine T_valC rfl (Val.nilc rfl) rfl rfl rfl rfl rfl ?_)|(show T _ (.run _ _ (_::_) _ _::_) _ _ _;first|refine rv rfl rfl rfl (Val.nilc rfl) rfl rfl rfl ?_|refine rg rfl rfl rfl (Val.nilc rfl) rfl rfl rfl rfl rfl ?_)|(show ∀ _:Nat,T _ _ _ _ _;intro _))
   refine ro rfl rfl (OpT.callB rfl rfl rfl rfl rfl (contracted_spec m k w0 _ (by omega) (by omega)) ?_)
   rintro u R ⟨y,hy,rfl,rfl⟩
   refine ⟨fun _=>(Hle.tail _ _).trans ((Hle.tail _ _).trans ((Hle.tail _ _).trans (Hle.append_left (A:=[_,_]) K))),?_⟩
   repeat' (first|refine d1 ?_|(show ∀ _:Nat,T _ _ _ _ _;intro _))
   refine T_le hle_53 ?_
   repeat' (first|refine d1 ?_|refine dd ?_|(show T _ (.run _ _ (_::_) _ _::_) _ _ _;refine ro rfl rfl (OpT.storeR rfl rfl rfl rfl rfl rfl (by show 0+(ls.length:Int).toNat * 1+1≤ks.length * 1;omega) ⟨fun hlv=>absurd hlv (by decide +kernel),?_⟩))|(show ∀ _:Nat,T _ _ _ _ _;intro _))
   refine T_backX (ls++[y],rs') ⟨pre++[k],?_,?_⟩ ?_ (hE:=⟨?_,trivial⟩) (hG:=?_)
   ·dsimp only;rw [hks,List.append_assoc];rfl
   ·dsimp only;rw [List.map_append,List.map_append,hmap,List.map_singleton,hy];rfl
   ·dsimp only;rw [List.length_cons];omega
   ·dsimp only;rw [List.length_append];rfl
   ·dsimp only
    show Hle (row _ _ _ _ _ (setL _ _ [lnV y])::_) _
    rw [setV (by omega) rfl]
    refine hle_52.trans (hle_unfocus.trans ?_)
    rw [List.append_assoc]
    exact hle_srt3.trans hle_swap
  ·simp only [decide_eq_false_iff_not] at h5
   have hrs:rs=[]:=List.eq_nil_of_length_eq_zero (by omega)
   subst hrs
   rw [List.append_nil] at hks ⊢
   subst hks
   rw [← hc,er_mk,ctr_many (by rw [List.length_map];omega),List.map_map]
   repeat' (first|refine d1 ?_|refine dd ?_|(show ∀ _:Nat,T _ _ _ _ _;intro _)|(show T _ (.code .ret::_) _ _ _;refine T_retV _ rfl (hle_shut (by omega) rfl) ⟨.mk b A c a o ls,by rw [er_mk,hmap];rfl,rfl,rfl⟩))
end Go.Proofs.YtabhdaehomjlgaaGreat
namespace Go.Proofs.YtabhdaehomjlgaaGreat
open Go.RowKit Go.Shelf Go.Proofs
set_option maxRecDepth 100000
set_option maxHeartbeats 1000000

theorem hle_tb0 {A B C D E:HA} {H:List HA}:Hle (A::B::C::D::E::H) (D::E::B::A::C::H):=hle_pm [3,4,1,0,2] [A,B,C,D,E] H
theorem hle_tb1 {A B C D E F G:HA} {H:List HA}:Hle (A::B::C::D::E::F::G::H) (B::F::A::D::C::E::G::H):=hle_pm [1,5,0,3,2,4,6] [A,B,C,D,E,F,G] H
theorem hle_tb3 {A B C D E:HA} {H:List HA}:Hle (A::B::C::D::E::H) (E::C::D::H):=hle_pm [4,2,3] [A,B,C,D,E] H
theorem hle_tb4 {A B C D:HA} {H:List HA}:Hle (A::B::C::D::H) (B::C::D::A::H):=hle_pm [1,2,3,0] [A,B,C,D] H
theorem prnL_snoc (p:Int→Bool) (l:List Nd) (k:Nd):prnL p (l++[k])=prnL p l++(prn p k).toList:=by
 rw [prnL_flat,prnL_flat,List.flatMap_append,List.flatMap_singleton]
theorem pruned_spec (p:Int→Bool) (f:FuncId) (cs:List Value) (w0:World) (KK:List HA)
  (hkeep:∀ w,(∃ H,Cls w0 w (H++KK))→∀ b o,RdC w b 2 [.int .i64 o]→Spec Tryz.prog f (.pointer (some ⟨b,0,none⟩)::cs) w (fun v R=>v = .bool (p o)∧R=[])) :
  ∀ (m:Nat) (x:Ln) (K:List HA),(∃ K1,K=K1++KK)→szN x≤m→m≤100000 →
  SpecB Tryz.prog 64 [lnV x, .func (.func f) #[] cs.toArray] w0 (tre 97 92 x::K)
   (fun v R=>(prn p (er x)=none∧v = .pointer none∧R=K)∨∃ y:Ln,prn p (er x)=some (er y)∧szN y≤szN x∧v=lnV y∧R=tre 97 92 y::K)
 | 0,x,_,_,h,_=>by have:=szN_pos x;omega
 | m+1, .mk b A c a o ks,K,hK,hm,hmb=>by
  have hkl:=szN_len ks
  rw [szN_mk] at hm
  refine specB_of sg Tryz.func64 rfl rfl rfl ?_
  rw [show lnV (Ln.mk b A c a o ks) = .pointer (some ⟨b,0,none⟩) from rfl]
  refine T_le hle_open ?_
  repeat' (first|refine d1 ?_|refine dd ?_|(show T _ (.ops _ (_::_)::_) _ _ _;first|refine T_val rfl (Val.nilc rfl) rfl rfl rfl ?_|refine T_valC rfl (Val.nilc rfl) rfl rfl rfl rfl rfl ?_)|(show T _ (.run _ _ (_::_) _ _::_) _ _ _;first|refine rv rfl rfl rfl (Val.nilc rfl) rfl rfl rfl ?_|refine rg rfl rfl rfl (Val.nilc rfl) rfl rfl rfl rfl rfl ?_)|(show ∀ _:Nat,T _ _ _ _ _;intro _))
  refine T_if rfl (fun h1=>?_) (fun h1=>?_)
  ·simp only [decide_eq_true_eq] at h1
   obtain rfl:ks=[]:=List.eq_nil_of_length_eq_zero (by omega)
   repeat' (first|refine d1 ?_|refine dd ?_|(show T _ (.ops _ (_::_)::_) _ _ _;first|refine T_call rfl rfl rfl rfl rfl (fun w hw=>hkeep w (by obtain⟨K1,rfl⟩:=hK;exact⟨_::_::_::K1,hw⟩) b o (rdOwn1 rfl w hw)) ?_|refine T_callC rfl rfl rfl rfl rfl rfl rfl (fun hg w hw=>hkeep w (by obtain⟨K1,rfl⟩:=hK;exact⟨_::_::_::K1,hw⟩) b o (rdOwn1 rfl w hw)) ?_)|(show T _ (.run _ _ (_::_) _ _::_) _ _ _;first|refine rc rfl rfl rfl rfl rfl rfl rfl (fun w hw=>hkeep w (by obtain⟨K1,rfl⟩:=hK;exact⟨_::_::_::K1,hw⟩) b o (rdOwn1 rfl w hw)) ?_|refine rcG rfl rfl rfl rfl rfl rfl rfl rfl rfl (fun hg w hw=>hkeep w (by obtain⟨K1,rfl⟩:=hK;exact⟨_::_::_::K1,hw⟩) b o (rdOwn1 rfl w hw)) ?_)|(show ∀ _:Nat,T _ _ _ _ _;intro _))
   have e0:er (Ln.mk b A c a o []) = .mk a o []:=by rw [er_mk];rfl
   rw [e0,prn_leaf]
   refine T_if rfl (fun h2=>?_) (fun h2=>?_)
   ·rw [if_neg (by simpa using h2)]
    repeat' (first|refine d1 ?_|refine dd ?_|(show ∀ _:Nat,T _ _ _ _ _;intro _)|(show T _ (.code .ret::_) _ _ _;refine T_retV _ rfl ((Hle.tail _ _).trans ((Hle.tail _ _).trans (Hle.tail _ _))) (.inl ⟨rfl,rfl,rfl⟩)))
   ·rw [if_pos (by simpa using h2)]
    repeat' (first|refine d1 ?_|refine dd ?_|(show ∀ _:Nat,T _ _ _ _ _;intro _)|(show T _ (.code .ret::_) _ _ _;refine T_retV _ rfl (hle_shut rfl rfl) (.inr ⟨.mk b A c a o [],by rw [e0],Nat.le_refl _,rfl,rfl⟩)))
  ·simp only [decide_eq_false_iff_not] at h1
   have hks0:ks≠[]:=fun e=>h1 (by rw [e];rfl)
   repeat' (first|refine d1 ?_|(show ∀ _:Nat,T _ _ _ _ _;intro _))
   refine T_nilrow 92 1 ?_
   repeat' (first|refine d1 ?_|refine dd ?_|(show T _ (.ops _ (_::_)::_) _ _ _;first|refine T_val rfl (Val.nilc rfl) rfl rfl rfl ?_|refine T_valC rfl (Val.nilc rfl) rfl rfl rfl rfl rfl ?_)|(show T _ (.run _ _ (_::_) _ _::_) _ _ _;first|refine rv rfl rfl rfl (Val.nilc rfl) rfl rfl rfl ?_|refine rg rfl rfl rfl (Val.nilc rfl) rfl rfl rfl rfl rfl ?_)|(show ∀ _:Nat,T _ _ _ _ _;intro _))
   refine T_le (hle_em.trans hle_tb0) ?_
   refine T_loopX (fun s:(List Ln × List Ln × List Ln) × (Option Addr × Nat)=>[(25, .int .i64 (s.1.1.length:Nat)),(5, .slice s.2.1 s.1.2.1.length s.2.2)])
    (fun s=>row 92 1 A c ks.length (ks.map lnV)::trs 97 92 s.1.2.2::row 92 1 s.2.1 s.2.2 s.1.2.1.length (s.1.2.1.map lnV)::trs 97 92 s.1.2.1::blk b [.string a, .slice A ks.length c, .int .i64 o] 97::K)
    (fun s=>ks=s.1.1++s.1.2.2∧s.1.2.1.map er=prnL p (s.1.1.map er)∧szNL s.1.2.1+szNL s.1.2.2≤szNL ks) (fun s=>s.1.2.2.length) (([],[],ks),(none,0)) ⟨rfl,rfl,by simp [szNL]⟩ ?_
   rintro⟨⟨pre,ls,rs⟩,⟨A',c'⟩⟩ ⟨hks,hmap,hsz⟩
   dsimp only at hks hmap hsz ⊢
   have hn:ks.length=pre.length+rs.length:=by rw [hks,List.length_append]
   have hll:=szN_len ls
   repeat' (first|refine d1 ?_|refine dd ?_|(show ∀ _:Nat,T _ _ _ _ _;intro _))
   refine T_if rfl (fun h5=>?_) (fun h5=>?_)
   ·simp only [decide_eq_true_eq] at h5
    obtain⟨k,rs',rfl⟩:∃ k rs',rs=k::rs':=by
     cases rs with
     | nil=>simp at hn;omega
     | cons k r=>exact⟨k,r,rfl⟩
    have hkm:=szN_kid (ks:=ks) (k:=k) (by rw [hks];exact List.mem_append_right _ (.head _))
    have hsz2:szNL ls+(szN k+szNL rs')≤szNL ks:=hsz
    refine T_rowAt (by omega) ?_
    rintro g rfl
    refine T_le (hle_swap.trans (show Hle (trs 97 92 (k::rs')::_) _ from hle_part)) ?_
    repeat' (first|refine d1 ?_|refine dd ?_|(show T _ (.ops _ (_::_)::_) _ _ _;first|refine T_val rfl (Val.load rfl (fun hg=>rdRow (A:=some ⟨g,0,none⟩) (vs:=[lnV k]) (by omega) (by rw [hks];exact getV (by omega) rfl))) rfl rfl rfl ?_|refine T_valC rfl (Val.load rfl (fun hg=>rdRow (A:=some ⟨g,0,none⟩) (vs:=[lnV k]) (by omega) (by rw [hks];exact getV (by omega) rfl))) rfl rfl rfl rfl rfl ?_)|(show T _ (.run _ _ (_::_) _ _::_) _ _ _;first|refine rv rfl rfl rfl (Val.load rfl (fun hg=>rdRow (A:=some ⟨g,0,none⟩) (vs:=[lnV k]) (by omega) (by rw [hks];exact getV (by omega) rfl))) rfl rfl rfl ?_|refine rg rfl rfl rfl (Val.load rfl (fun hg=>rdRow (A:=some ⟨g,0,none⟩) (vs:=[lnV k]) (by omega) (by rw [hks];exact getV (by omega) rfl))) rfl rfl rfl rfl rfl ?_)|(show ∀ _:Nat,T _ _ _ _ _;intro _))
    refine T_op (OpT.callB rfl rfl rfl rfl rfl (pruned_spec p f cs w0 KK hkeep m k _ (by obtain⟨K1,e⟩:=hK;exact⟨_::_::_::_::_::K1,by rw [e];rfl⟩) (by omega) (by omega)) ?_)
    rintro u R (⟨hy,rfl,rfl⟩|⟨y,hy,hys,rfl,rfl⟩)
    ·repeat' (first|refine d1 ?_|refine dd ?_|(show T _ (.ops _ (_::_)::_) _ _ _;first|refine T_val rfl (Val.nilS rfl) rfl rfl rfl ?_|refine T_valC rfl (Val.nilS rfl) rfl rfl rfl rfl rfl ?_)|(show T _ (.run _ _ (_::_) _ _::_) _ _ _;first|refine rv rfl rfl rfl (Val.nilS rfl) rfl rfl rfl ?_|refine rg rfl rfl rfl (Val.nilS rfl) rfl rfl rfl rfl rfl ?_)|(show ∀ _:Nat,T _ _ _ _ _;intro _))
     refine T_if rfl (fun h6=>by cases h6) (fun _=>?_)
     repeat' (first|refine d1 ?_|refine dd ?_|(show ∀ _:Nat,T _ _ _ _ _;intro _))
     refine T_backX ((pre++[k],ls,rs'),(A',c')) ⟨?_,?_,?_⟩ ?_ (hE:=⟨?_,rfl,trivial⟩) (hG:=hle_swap)
     ·dsimp only;rw [hks,List.append_assoc];rfl
     ·dsimp only;rw [List.map_append,List.map_singleton,prnL_snoc,hy, ← hmap];exact (List.append_nil _).symm
     ·dsimp only;omega
     ·dsimp only;rw [List.length_cons];omega
     ·dsimp only;rw [List.length_append];rfl
    ·repeat' (first|refine d1 ?_|refine dd ?_|(show T _ (.ops _ (_::_)::_) _ _ _;first|refine T_val rfl (Val.nilS rfl) rfl rfl rfl ?_|refine T_valC rfl (Val.nilS rfl) rfl rfl rfl rfl rfl ?_)|(show T _ (.run _ _ (_::_) _ _::_) _ _ _;first|refine rv rfl rfl rfl (Val.nilS rfl) rfl rfl rfl ?_|refine rg rfl rfl rfl (Val.nilS rfl) rfl rfl rfl rfl rfl ?_)|(show ∀ _:Nat,T _ _ _ _ _;intro _))
     refine T_if rfl (fun _=>?_) (fun h6=>by cases h6)
     repeat' (first|refine d1 ?_|(show ∀ _:Nat,T _ _ _ _ _;intro _))
     refine T_op (OpT.append (A:=A') rfl rfl rfl rfl rfl rfl rfl rfl rfl rfl (fun w hw=>Src.own hw rfl) rfl (by dsimp only;omega) (by omega) (fun A9 c9 hA9=>?_))
     repeat' (first|refine d1 ?_|refine dd ?_|(show ∀ _:Nat,T _ _ _ _ _;intro _))
     refine T_backX ((pre++[k],ls++[y],rs'),(A9,c9)) ⟨?_,?_,?_⟩ ?_ (hE:=⟨?_,?_,trivial⟩) (hG:=?_)
     ·dsimp only;rw [hks,List.append_assoc];rfl
     ·dsimp only;rw [List.map_append,List.map_append,List.map_singleton,List.map_singleton,prnL_snoc,hy, ← hmap];rfl
     ·dsimp only;rw [szNL_app];simp only [szNL];omega
     ·dsimp only;rw [List.length_cons];omega
     ·dsimp only;rw [List.length_append];rfl
     ·dsimp only;rw [List.length_append];rfl
     ·dsimp only
      rw [List.length_append,List.map_append]
      refine (Hle.tail _ _).trans ?_
      exact hle_em.trans (hle_tb1.trans ((hle_unfocus (r:=[])).trans hle_tb4))
   ·simp only [decide_eq_false_iff_not] at h5
    have hrs:rs=[]:=List.eq_nil_of_length_eq_zero (by omega)
    subst hrs
    rw [List.append_nil] at hks
    subst hks
    rw [er_mk,prn_node (by simpa using hks0), ← hmap]
    repeat' (first|refine d1 ?_|refine dd ?_|(show T _ (.ops _ (_::_)::_) _ _ _;first|refine T_val rfl (Val.nilc rfl) rfl rfl rfl ?_|refine T_valC rfl (Val.nilc rfl) rfl rfl rfl rfl rfl ?_)|(show T _ (.run _ _ (_::_) _ _::_) _ _ _;first|refine rv rfl rfl rfl (Val.nilc rfl) rfl rfl rfl ?_|refine rg rfl rfl rfl (Val.nilc rfl) rfl rfl rfl rfl rfl ?_)|(show ∀ _:Nat,T _ _ _ _ _;intro _))
    refine T_if rfl (fun h6=>?_) (fun h6=>?_)
    ·simp only [decide_eq_true_eq] at h6
     obtain rfl:ls=[]:=List.eq_nil_of_length_eq_zero (by omega)
     repeat' (first|refine d1 ?_|refine dd ?_|(show ∀ _:Nat,T _ _ _ _ _;intro _)|(show T _ (.code .ret::_) _ _ _;refine T_retV _ rfl ((Hle.tail _ _).trans ((Hle.tail _ _).trans ((Hle.tail _ _).trans ((Hle.tail _ _).trans (Hle.tail _ _))))) (.inl ⟨rfl,rfl,rfl⟩)))
    ·simp only [decide_eq_false_iff_not] at h6
     obtain⟨l0,l1,rfl⟩:∃ l0 l1,ls=l0::l1:=by
      cases ls with
      | nil=>exact absurd rfl h6
      | cons l0 l1=>exact⟨l0,l1,rfl⟩
     repeat' (first|refine d1 ?_|refine dd ?_|(show ∀ _:Nat,T _ _ _ _ _;intro _)|(show T _ (.code .ret::_) _ _ _;refine T_retV _ rfl (hle_tb3.trans (hle_shut rfl rfl)) (.inr ⟨.mk b A' c' a o (l0::l1),by rw [er_mk];rfl,by rw [szN_mk,szN_mk];omega,rfl,rfl⟩)))
end Go.Proofs.YtabhdaehomjlgaaGreat
namespace Go.Proofs.YtabhdaehomjlgaaGreat

end Go.Proofs.YtabhdaehomjlgaaGreat
namespace Go.Proofs.YtabhdaehomjlgaaGreat
open Go.RowKit Go.Shelf Go.Proofs

structure Co where
 sec:ByteArray
 sg:List ByteArray
 m:List (List Tok)
 cols:List (List Int)
def lens22 (m:List (List Tok)):List Nat:=m.map List.length
def siglum22 (s:ByteArray):Bool:=if 0<s.size∧byteAt s ((s.size:Int) - 1)=42 then isNameB (s.extract 0 (s.size - 1)) && decide (s.size≤16) else isNameB s
def has22 (pre:List ByteArray) (s:ByteArray):Bool:=pre.any fun y=>decide (s=y)
theorem has22_iff {pre:List ByteArray} {s:ByteArray}:has22 pre s=true↔s∈pre:=by
 unfold has22
 rw [List.any_eq_true]
 constructor
 ·rintro⟨y,hy,e⟩;rw [decide_eq_true_eq] at e;rw [e];exact hy
 ·intro h;exact⟨s,h,decide_eq_true rfl⟩
structure Head22 (sec:ByteArray) (sg:List ByteArray) (m:List (List Tok)):Prop where
 sec:isNameB sec=true
 pos:1≤sg.length
 le:sg.length≤32
 sig:∀ s∈sg,siglum22 s=true
 nod:sg.Nodup
 len:m.length=sg.length
 tok:∀ l∈m,l.length≤1024∧badL l=false
structure Ok22 (x:Co):Prop where
 head:Head22 x.sec x.sg x.m
 cols:ColsOk (lens22 x.m) x.cols
structure Small22 (x:Co):Prop where
 tok:∀ l∈x.m,l.length≤6∧∀ t∈l,t.small
 len:x.m.length≤6∨32<x.m.length∧x.m.length≤34
 wide:∀ c∈x.cols,c.length≤36
 cols:x.cols.length≤24
 sg:x.sg.length≤36
 sig:∀ s∈x.sg,s.size≤20
 sec:x.sec.size≤20
 txt:∀ l∈x.m,∀ t∈l,t.text.size≤12
end Go.Proofs.YtabhdaehomjlgaaGreat
namespace Go.Proofs.YtabhdaehomjlgaaGreat
open Go.RowKit Go.Shelf Go.Proofs

end Go.Proofs.YtabhdaehomjlgaaGreat
namespace Go.Proofs.YtabhdaehomjlgaaGreat
open Go.RowKit Go.Shelf Go.ChangeShapes Go.WideShapes Go.Proofs
set_option maxRecDepth 100000

section
variable {H:Type} {enc:TypeId × Value→H} {W:World} {base b0:Nat} {sp:Nat→Bool} {held:Bool} {r:Reach} {v:Value} {d:DataW H} {ps:List MemPlace}
end
end Go.Proofs.YtabhdaehomjlgaaGreat
namespace Go.Proofs.YtabhdaehomjlgaaGreat
open Go.RowKit Go.Shelf Go.ChangeShapes Go.WideShapes Go.Proofs
set_option maxRecDepth 100000

section
variable {H:Type} {enc:TypeId × Value→H} {W:World} {base b0:Nat} {sp:Nat→Bool} {held:Bool} {r:Reach} {v:Value} {d:DataW H} {ps:List MemPlace}
end
end Go.Proofs.YtabhdaehomjlgaaGreat
namespace Go.Proofs.YtabhdaehomjlgaaGreat
open Go.RowKit Go.Shelf Go.ChangeShapes Go.WideShapes Go.Proofs
set_option maxRecDepth 100000

section
variable {H:Type} {enc:TypeId × Value→H} {W:World} {base b0:Nat} {sp:Nat→Bool} {held:Bool} {r:Reach} {v:Value} {d:DataW H} {ps:List MemPlace}
end
end Go.Proofs.YtabhdaehomjlgaaGreat
namespace Go.Proofs.YtabhdaehomjlgaaGreat
open Go.RowKit Go.Shelf Go.Proofs

def SameL (l l':List TS):Prop:=l.map TS.l=l'.map TS.l
theorem SameL.len {l l':List TS} (h:SameL l l'):l.length=l'.length:=by
 have:=congrArg List.length h
 rwa [List.length_map,List.length_map] at this
theorem SameL.get {l l':List TS} (h:SameL l l') (i:Nat):(tsA l i).l=(tsA l' i).l:=by
 have e:=congrArg (fun x:List (List Tok)=>x[i]?) h
 simp only [List.getElem?_map] at e
 unfold tsA
 rw [List.getD_eq_getElem?_getD,List.getD_eq_getElem?_getD]
 cases h1:l[i]? with
 | none =>
  cases h2:l'[i]? with
  | none=>rfl
  | some y=>rw [h1,h2] at e;cases e
 | some x =>
  cases h2:l'[i]? with
  | none=>rw [h1,h2] at e;cases e
  | some y=>rw [h1,h2] at e;exact Option.some.inj e
theorem SameL.dst {l l':List TS} (h:SameL l l') (c:Costs):dstT c l=dstT c l':=by
 funext i k
 unfold dstT
 rw [h.get,h.get]
theorem SameL.put {l l':List TS} (h:SameL l l') (c:Costs) (col:List Int) (t:List Tok) (k:Int):putC c l col t k=putC c l' col t k:=by
 have e:∀ m:List TS,putC c m col t k=(((m.map TS.l).zip col).map fun p=>entC c p.1 p.2 t k).sum:=fun m=>by
  unfold putC
  rw [List.zip_map_left,List.map_map]
  rfl
 rw [e l,e l',h]
theorem SameL.add {l l':List TS} (h:SameL l l') (c:Costs) (cols:List (List Int)) (t:List Tok):addV c l cols t=addV c l' cols t:=by
 funext i k
 have e:grdA c l cols t=grdA c l' cols t:=by
  unfold grdA
  simp only [h.put,h.len]
 unfold addV
 rw [e,h.len]
theorem SameL.tak {l l':List TS} (h:SameL l l') (ord:List Nat) (j:Nat):SameL (takS l ord j) (takS l' ord j):=by
 unfold SameL takS
 rw [List.map_map,List.map_map]
 exact List.map_congr_left fun i _=>h.get i
theorem SameL.stg {l l':List TS} (h:SameL l l') (c:Costs) (ord:List Nat):∀ j,stgV c l ord j=stgV c l' ord j
 | 0=>rfl
 | j+1=>by
  unfold stgV
  rw [(h.tak ord j).add,SameL.stg h c ord j,h.get]
theorem SameL.bad {l l':List TS} (h:SameL l l'):badS l=badS l':=by
 have e:∀ m:List TS,badS m=(m.map TS.l).any badL:=fun m=>by unfold badS;rw [List.any_map];rfl
 rw [e,e,h]
theorem SameL.ck {l l':List TS} (h:SameL l l') (c:Costs):ck21 c l=ck21 c l':=by unfold ck21;rw [h.bad]
theorem SameL.ord {l l':List TS} (h:SameL l l') (c:Costs):ordV c l=ordV c l':=by unfold ordV;rw [h.ck,h.dst,h.len]
theorem SameL.aln {l l':List TS} (h:SameL l l') (c:Costs):alnA c l=alnA c l':=by unfold alnA alnP;rw [h.ck,h.dst,h.len,h.stg]
end Go.Proofs.YtabhdaehomjlgaaGreat
namespace Go.Proofs.YtabhdaehomjlgaaGreat
open Go.RowKit Go.Shelf Go.Proofs
set_option maxRecDepth 100000

end Go.Proofs.YtabhdaehomjlgaaGreat
namespace Go.Proofs.YtabhdaehomjlgaaGreat
open Go.RowKit Go.Shelf Go.Proofs
set_option maxRecDepth 100000
set_option maxHeartbeats 4000000

end Go.Proofs.YtabhdaehomjlgaaGreat
namespace Go.Proofs.YtabhdaehomjlgaaGreat
open Go.RowKit Go.Shelf Go.Proofs
set_option maxRecDepth 100000
set_option maxHeartbeats 1000000

end Go.Proofs.YtabhdaehomjlgaaGreat
namespace Go.Proofs.YtabhdaehomjlgaaGreat
open Go.RowKit Go.Shelf Go.Proofs
set_option maxRecDepth 100000
set_option maxHeartbeats 1000000

end Go.Proofs.YtabhdaehomjlgaaGreat
namespace Go.Proofs.YtabhdaehomjlgaaGreat
open Go.RowKit Go.Shelf Go.Proofs
set_option maxRecDepth 100000
set_option maxHeartbeats 1000000

end Go.Proofs.YtabhdaehomjlgaaGreat
namespace Go.Proofs.YtabhdaehomjlgaaGreat
open Go.RowKit Go.Shelf Go.Proofs
set_option maxRecDepth 100000
set_option maxHeartbeats 1000000

theorem isNone_true {A:Option Addr} (h:isNone' A=true):A=none:=by cases A <;> simp_all [isNone']
theorem src_none {w:World} {sz n:Nat} {xs:List Value} (h:Src w sz none n xs):n=0∧xs=[]:=by
 have:n=0:=by
  rcases Nat.eq_zero_or_pos n with h1|h1
  ·exact h1
  ·have:=(h.2 h1).1;simp [isAt] at this
 subst this
 exact⟨rfl,List.eq_nil_of_length_eq_zero (by simpa using h.1)⟩
end Go.Proofs.YtabhdaehomjlgaaGreat
namespace Go.Proofs.YtabhdaehomjlgaaGreat
open Go.RowKit Go.Shelf Go.Proofs
set_option maxRecDepth 100000
set_option maxHeartbeats 1000000

def RvIn (l r:List Tok) (i:Nat):Prop:=r.length=l.length∧∀ k,k<l.length→r[k]?=if k<i∨l.length≤k+i then l[l.length - 1 - k]? else l[k]?
theorem RvIn.zero (l:List Tok):RvIn l l 0:=⟨rfl,fun k hk=>by rw [if_neg (by omega)]⟩
theorem RvIn.step {l r:List Tok} {i:Nat} (h:RvIn l r i) (hi:2 * i+1<l.length):RvIn l ((r.set i (tkA r (l.length - 1 - i))).set (l.length - 1 - i) (tkA r i)) (i+1):=by
 obtain⟨h1,h2⟩:=h
 have e1:r[l.length - 1 - i]?=l[l.length - 1 - i]?:=by rw [h2 _ (by omega),if_neg (by omega)]
 have e2:r[i]?=l[i]?:=by rw [h2 _ (by omega),if_neg (by omega)]
 refine ⟨by simp [h1],fun k hk=>?_⟩
 rw [List.getElem?_set,List.getElem?_set,List.length_set]
 by_cases hk1:l.length - 1 - i=k
 ·rw [if_pos hk1,if_pos (by omega),if_pos (by omega),show l.length - 1 - k=i by omega, ← e2,tkA_get (by omega)]
 ·rw [if_neg hk1]
  by_cases hk2:i=k
  ·subst hk2
   rw [if_pos rfl,if_pos (by omega),if_pos (by omega), ← e1,tkA_get (by omega)]
  ·rw [if_neg hk2,h2 k hk]
   by_cases h3:k<i∨l.length≤k+i
   ·rw [if_pos h3,if_pos (by omega)]
   ·rw [if_neg h3,if_neg (by omega)]
theorem RvIn.all {l r:List Tok} {i:Nat} (h:RvIn l r i) (hi:l.length≤2 * i+1):r=l.reverse:=by
 obtain⟨h1,h2⟩:=h
 apply List.ext_getElem?
 intro k
 by_cases hk:k<l.length
 ·rw [h2 k hk,List.getElem?_reverse hk]
  split
  ·rfl
  ·rw [show l.length - 1 - k=k by omega]
 ·rw [List.getElem?_eq_none (by omega),List.getElem?_eq_none (by simp;omega)]
end Go.Proofs.YtabhdaehomjlgaaGreat
namespace Go.Proofs.YtabhdaehomjlgaaGreat
open Go.RowKit Go.Shelf Go.Proofs
set_option maxRecDepth 100000
set_option maxHeartbeats 1000000

end Go.Proofs.YtabhdaehomjlgaaGreat
namespace Go.Proofs.YtabhdaehomjlgaaGreat
open Go.RowKit Go.Shelf Go.Proofs
set_option maxRecDepth 100000
set_option maxHeartbeats 1000000

theorem cloneI_spec (A:Option Addr) (n c:Nat) (l:List Int) (w:World) (hs:Src w 1 A n (l.map (Value.int .i64))) (hb:n≤1000000) :
  Spec Tryz.prog 23 [.slice A n c] w (fun v R=>∃ x:Option Addr × Nat,True∧v = .slice x.1 n x.2∧R=[row 3 1 x.1 x.2 n (l.map (Value.int .i64))]):=by
 refine spec_of sg Tryz.func23 rfl rfl rfl ?_
 repeat' (first|refine d1 ?_|refine dd ?_|(show T _ (.ops _ (_::_)::_) _ _ _;first|refine T_val rfl (Val.nilS rfl) rfl rfl rfl ?_|refine T_valC rfl (Val.nilS rfl) rfl rfl rfl rfl rfl ?_)|(show T _ (.run _ _ (_::_) _ _::_) _ _ _;first|refine rv rfl rfl rfl (Val.nilS rfl) rfl rfl rfl ?_|refine rg rfl rfl rfl (Val.nilS rfl) rfl rfl rfl rfl rfl ?_)|(show ∀ _:Nat,T _ _ _ _ _;intro _))
 refine T_if rfl (fun h=>?_) (fun h=>?_)
 ·obtain rfl:=isNone_true h
  obtain⟨rfl,e⟩:=src_none hs
  rw [e]
  repeat' (first|refine d1 ?_|refine dd ?_|(show ∀ _:Nat,T _ _ _ _ _;intro _))
  refine T_nilrow 3 1 ?_
  repeat' (first|refine d1 ?_|refine dd ?_|(show ∀ _:Nat,T _ _ _ _ _;intro _)|(show T _ (.code .ret::_) _ _ _;refine T_retV _ rfl Hle.sub ⟨(none,0),trivial,rfl,rfl⟩))
 ·repeat' (first|refine d1 ?_|(show ∀ _:Nat,T _ _ _ _ _;intro _))
  refine T_blk_rowh 1 0 rfl (by omega) ?_
  refine T_op (OpT.append rfl rfl rfl rfl rfl rfl rfl rfl rfl rfl (rdSrc hs) (oneInts l) (by dsimp only;omega) (by omega) (fun A' cap' hA'=>?_))
  rw [show 0+n=n by omega,show flatP []++(l.map (Value.int .i64))=(l.map (Value.int .i64)) from rfl]
  repeat' (first|refine d1 ?_|refine dd ?_|(show ∀ _:Nat,T _ _ _ _ _;intro _)|(show T _ (.code .ret::_) _ _ _;refine T_retV _ rfl (Hle.refl _) ⟨(A',cap'),trivial,rfl,rfl⟩))
def RvS (l r:List TS) (i:Nat):Prop:=r.length=l.length∧∀ k,k<l.length→r[k]?=if k<i∨l.length≤k+i then l[l.length - 1 - k]? else l[k]?
theorem RvS.zero (l:List TS):RvS l l 0:=⟨rfl,fun k hk=>by rw [if_neg (by omega)]⟩
theorem tsA_get2 {l:List TS} {i:Nat} (h:i<l.length):l[i]?=some (tsA l i):=by unfold tsA;rw [List.getD_eq_getElem?_getD,List.getElem?_eq_getElem h];rfl
theorem RvS.step {l r:List TS} {i:Nat} (h:RvS l r i) (hi:2 * i+1<l.length):RvS l ((r.set i (tsA r (l.length - 1 - i))).set (l.length - 1 - i) (tsA r i)) (i+1):=by
 obtain⟨h1,h2⟩:=h
 have e1:r[l.length - 1 - i]?=l[l.length - 1 - i]?:=by rw [h2 _ (by omega),if_neg (by omega)]
 have e2:r[i]?=l[i]?:=by rw [h2 _ (by omega),if_neg (by omega)]
 refine ⟨by simp [h1],fun k hk=>?_⟩
 rw [List.getElem?_set,List.getElem?_set,List.length_set]
 by_cases hk1:l.length - 1 - i=k
 ·rw [if_pos hk1,if_pos (by omega),if_pos (by omega),show l.length - 1 - k=i by omega, ← e2,tsA_get2 (by omega)]
 ·rw [if_neg hk1]
  by_cases hk2:i=k
  ·subst hk2
   rw [if_pos rfl,if_pos (by omega),if_pos (by omega), ← e1,tsA_get2 (by omega)]
  ·rw [if_neg hk2,h2 k hk]
   by_cases h3:k<i∨l.length≤k+i
   ·rw [if_pos h3,if_pos (by omega)]
   ·rw [if_neg h3,if_neg (by omega)]
theorem RvS.all {l r:List TS} {i:Nat} (h:RvS l r i) (hi:l.length≤2 * i+1):r=l.reverse:=by
 obtain⟨h1,h2⟩:=h
 apply List.ext_getElem?
 intro k
 by_cases hk:k<l.length
 ·rw [h2 k hk,List.getElem?_reverse hk]
  split
  ·rfl
  ·rw [show l.length - 1 - k=k by omega]
 ·rw [List.getElem?_eq_none (by omega),List.getElem?_eq_none (by simp;omega)]
end Go.Proofs.YtabhdaehomjlgaaGreat
namespace Go.Proofs.YtabhdaehomjlgaaGreat
open Go.RowKit Go.Shelf Go.Proofs
set_option maxRecDepth 100000
set_option maxHeartbeats 1000000

def sStar:ByteArray:=⟨#[42]⟩
def star22 (s:ByteArray):Bool:=decide (0<s.size∧byteAt s ((s.size:Int) - 1)=42)
def bare1_22 (s:ByteArray):ByteArray:=if star22 s=true then s.extract 0 (s.size - 1) else s
theorem star22_eq {s:ByteArray} (h:0<s.size):decide (s.extract (s.size - 1) s.size=sStar)=star22 s:=by
 have h1:(s.extract (s.size - 1) s.size).data.toList=[byteAt s ((s.size:Int) - 1)]:=by
  have:=extract_one (s:=s) (j:=s.size - 1) (by omega)
  rw [show s.size - 1+1=s.size by omega,show ((s.size - 1:Nat):Int)=(s.size:Int) - 1 by omega] at this
  exact this
 unfold star22
 rw [decide_eq_decide]
 constructor
 ·intro e
  rw [e] at h1
  exact⟨h,(List.cons.inj h1).1.symm⟩
 ·rintro⟨-,e⟩
  rw [e] at h1
  exact ByteArray.ext (Array.ext' h1)
theorem siglum22_eq (s:ByteArray):(isNameB (bare1_22 s) && (!star22 s || decide ((s.size:Int)≤16)))=siglum22 s:=by
 unfold siglum22 bare1_22
 by_cases h:star22 s=true
 ·have h2:0<s.size∧byteAt s ((s.size:Int) - 1)=42:=by simpa [star22] using h
  rw [if_pos h,if_pos h2,h]
  rw [show decide ((s.size:Int)≤16)=decide (s.size≤16) from decide_eq_decide.2 (by omega)]
  rfl
 ·have h2:¬ (0<s.size∧byteAt s ((s.size:Int) - 1)=42):=by simpa [star22] using h
  rw [if_neg h,if_neg h2]
  simp [h]
theorem hasStar_spec (s:ByteArray) (hs:s.size≤9223372036854775807) (w:World):Spec Tryz.prog 178 [.string s, .string sStar] w (fun v R=>v = .bool (star22 s)∧R=[]):=by
 refine spec_of sg Tryz.func178 rfl rfl rfl ?_
 have e1:sStar.size=1:=rfl
 repeat' (first|refine d1 ?_|refine dd ?_|(show ∀ _:Nat,T _ _ _ _ _;intro _)|(show T _ (.code .ret::_) _ _ _;refine T_retV [] rfl (Hle.none _) ⟨congrArg Value.bool ?_,rfl⟩))
 rw [e1]
 by_cases h:0<s.size
 ·rw [show ((s.size:Int) - ((1:Nat):Int)).toNat=s.size - 1 by omega,Int.toNat_natCast,star22_eq h,decide_eq_true (by omega),Bool.true_and]
 ·rw [decide_eq_false (by omega),Bool.false_and]
  unfold star22
  rw [decide_eq_false (fun hh=>h hh.1)]
theorem cutStar1_spec (s:ByteArray) (hs:s.size≤9223372036854775807) (w:World):Spec Tryz.prog 150 [.string s, .string sStar] w (fun v R=>v = .tuple #[.string (bare1_22 s), .bool (star22 s)]∧R=[]):=by
 refine spec_of sg Tryz.func150 rfl rfl rfl ?_
 have e1:sStar.size=1:=rfl
 repeat' (first|refine d1 ?_|refine dd ?_|(show T _ (.ops _ (_::_)::_) _ _ _;first|refine T_call rfl rfl rfl rfl rfl (fun w hw=>hasStar_spec s hs w) ?_|refine T_callC rfl rfl rfl rfl rfl rfl rfl (fun hg w hw=>hasStar_spec s hs w) ?_)|(show T _ (.run _ _ (_::_) _ _::_) _ _ _;first|refine rc rfl rfl rfl rfl rfl rfl rfl (fun w hw=>hasStar_spec s hs w) ?_|refine rcG rfl rfl rfl rfl rfl rfl rfl rfl rfl (fun hg w hw=>hasStar_spec s hs w) ?_)|(show ∀ _:Nat,T _ _ _ _ _;intro _))
 refine T_if rfl (fun h=>?_) (fun h=>?_)
 ·simp only [Bool.not_eq_true'] at h
  repeat' (first|refine d1 ?_|refine dd ?_|(show ∀ _:Nat,T _ _ _ _ _;intro _)|(show T _ (.code .ret::_) _ _ _;refine T_retV [] rfl (Hle.none _) ⟨by unfold bare1_22;rw [h];rfl,rfl⟩))
 ·simp only [Bool.not_eq_false'] at h
  have h2:0<s.size:=by simp only [star22,decide_eq_true_eq] at h;exact h.1
  repeat' (first|refine d1 ?_|refine dd ?_|(show ∀ _:Nat,T _ _ _ _ _;intro _)|(show T _ (.code .ret::_) _ _ _;refine T_retV [] rfl (Hle.none _) ⟨by unfold bare1_22;rw [h,show ((s.size:Int) - (sStar.size:Int)).toNat=s.size - 1 by omega];rfl,rfl⟩))
theorem cutStar_spec (s:ByteArray) (hs:s.size≤9223372036854775807) (w:World):Spec Tryz.prog 114 [.string s, .string sStar] w (fun v R=>v = .tuple #[.string (bare1_22 s), .bool (star22 s)]∧R=[]):=by
 refine spec_of sg Tryz.func114 rfl rfl rfl ?_
 repeat' (first|refine d1 ?_|refine dd ?_|(show T _ (.ops _ (_::_)::_) _ _ _;first|refine T_call rfl rfl rfl rfl rfl (fun w hw=>cutStar1_spec s hs w) ?_|refine T_callC rfl rfl rfl rfl rfl rfl rfl (fun hg w hw=>cutStar1_spec s hs w) ?_)|(show T _ (.run _ _ (_::_) _ _::_) _ _ _;first|refine rc rfl rfl rfl rfl rfl rfl rfl (fun w hw=>cutStar1_spec s hs w) ?_|refine rcG rfl rfl rfl rfl rfl rfl rfl rfl rfl (fun hg w hw=>cutStar1_spec s hs w) ?_)|(show ∀ _:Nat,T _ _ _ _ _;intro _)|(show T _ (.code .ret::_) _ _ _;refine T_retV [] rfl (Hle.none _) ⟨rfl,rfl⟩))
theorem indexStr_spec (A:Option Addr) (n c:Nat) (l:List ByteArray) (x:ByteArray) (w:World) (hs:Src w 1 A n (l.map Value.string)) (hn:l.length=n) (hb:n≤9223372036854775807) :
  Spec Tryz.prog 88 [.slice A n c, .string x] w (fun v R=>v = .int .i64 (findI (fun y=>decide (x=y)) l)∧R=[]):=by
 refine spec_of sg Tryz.func88 rfl rfl rfl ?_
 repeat' (first|refine d1 ?_|refine dd ?_|(show ∀ _:Nat,T _ _ _ _ _;intro _))
 refine T_loopX (fun k:Nat=>[(8, .int .i64 k)]) (fun _=>[]) (fun k=>k≤n∧∀ i y,i<k→l[i]?=some y→decide (x=y)=false) (fun k=>n - k) 0 ⟨Nat.zero_le _,fun i y h=>by omega⟩ ?_
 rintro k ⟨hk,hok⟩
 repeat' (first|refine d1 ?_|refine dd ?_|(show ∀ _:Nat,T _ _ _ _ _;intro _))
 refine T_if rfl (fun h=>?_) (fun h=>?_)
 ·simp only [decide_eq_true_eq] at h
  have hkn:k<n:=by omega
  obtain⟨b,o,rfl⟩:=hs.base (by omega)
  obtain⟨y,hy⟩:∃ y,l[k]?=some y:=⟨_,List.getElem?_eq_getElem (by omega)⟩
  have hr:=src_str hs hkn hy
  repeat' (first|refine d1 ?_|refine dd ?_|(show ∀ _:Nat,T _ _ _ _ _;intro _))
  refine T_if rfl (fun h1=>?_) (fun h1=>?_)
  ·repeat' (first|refine d1 ?_|refine dd ?_|(show ∀ _:Nat,T _ _ _ _ _;intro _)|(show T _ (.code .ret::_) _ _ _;refine T_retV [] rfl (Hle.none _) ⟨congrArg (Value.int .i64) (findI_some hy h1 hok).symm,rfl⟩))
  ·repeat' (first|refine d1 ?_|refine dd ?_|(show ∀ _:Nat,T _ _ _ _ _;intro _))
   refine T_backX (k+1) ⟨by omega,fun i z hi hz=>?_⟩ (by omega)
   rcases Nat.lt_or_ge i k with h2|h2
   ·exact hok i z h2 hz
   ·rw [show i=k by omega,hy] at hz
    cases hz
    exact h1
 ·simp only [decide_eq_false_iff_not] at h
  repeat' (first|refine d1 ?_|refine dd ?_|(show ∀ _:Nat,T _ _ _ _ _;intro _)|(show T _ (.code .ret::_) _ _ _;refine T_retV [] rfl (Hle.none _) ⟨congrArg (Value.int .i64) (findI_none (fun i z hi=>hok i z (by have:=(List.getElem?_eq_some_iff.1 hi).1;omega) hi)).symm,rfl⟩))
theorem containsStr_spec (A:Option Addr) (n c:Nat) (l:List ByteArray) (x:ByteArray) (w:World) (hs:Src w 1 A n (l.map Value.string)) (hn:l.length=n) (hb:n≤9223372036854775807) :
  Spec Tryz.prog 37 [.slice A n c, .string x] w (fun v R=>v = .bool (has22 l x)∧R=[]):=by
 refine spec_of sg Tryz.func37 rfl rfl rfl ?_
 repeat' (first|refine d1 ?_|refine dd ?_|(show T _ (.ops _ (_::_)::_) _ _ _;first|refine T_call rfl rfl rfl rfl rfl (fun w hw=>indexStr_spec A n c l x w (rdSrc hs w hw) hn hb) ?_|refine T_callC rfl rfl rfl rfl rfl rfl rfl (fun hg w hw=>indexStr_spec A n c l x w (rdSrc hs w hw) hn hb) ?_)|(show T _ (.run _ _ (_::_) _ _::_) _ _ _;first|refine rc rfl rfl rfl rfl rfl rfl rfl (fun w hw=>indexStr_spec A n c l x w (rdSrc hs w hw) hn hb) ?_|refine rcG rfl rfl rfl rfl rfl rfl rfl rfl rfl (fun hg w hw=>indexStr_spec A n c l x w (rdSrc hs w hw) hn hb) ?_)|(show ∀ _:Nat,T _ _ _ _ _;intro _)|(show T _ (.code .ret::_) _ _ _;refine T_retV [] rfl (Hle.none _) ⟨congrArg Value.bool (findI_any _ l),rfl⟩))
end Go.Proofs.YtabhdaehomjlgaaGreat
namespace Go.Proofs.YtabhdaehomjlgaaGreat
open Go.RowKit Go.Shelf
set_option maxRecDepth 100000
set_option maxHeartbeats 1000000

def jns:List HA→HA
 | []=>em
 | a::r=>jn a (jns r)
theorem hle_mid {a:HA} {r H:List HA}:Hle (a::(r++H)) (r++a::H):=Hle.perm List.perm_middle.symm
theorem hle_unmid {a:HA} {r H:List HA}:Hle (r++a::H) (a::(r++H)):=Hle.perm List.perm_middle
theorem jns_in:∀ {l:List HA} {H:List HA},Hle (l++H) (jns l::H)
 | [],H=>hle_em
 | a::r,H=>(hle_mid.trans ((jns_in (l:=r) (H:=a::H)).trans hle_swap)).trans hle_jn
theorem jns_out:∀ {l:List HA} {H:List HA},Hle (jns l::H) (l++H)
 | [],H=>Hle.tail _ _
 | a::r,H=>(show Hle (jn a (jns r)::H) (a::jns r::H) from hle_part).trans (hle_swap.trans ((jns_out (l:=r) (H:=a::H)).trans hle_unmid))
theorem jns_perm {l m:List HA} (h:l.Perm m) {H:List HA}:Hle (jns l::H) (jns m::H):=jns_out.trans ((Hle.perm (h.append_right H)).trans jns_in)
structure Fn8 where
 b:Nat
 A:Option Addr
 c:Nat
 nm:ByteArray
 o:Int
 ks:List Nat
def ptrV (b:Nat):Value := .pointer (some ⟨b,0,none⟩)
section
variable (tN tP:TypeId)
def nod (p:Fn8):HA:=jn (blk p.b [.string p.nm, .slice p.A p.ks.length p.c, .int .i64 p.o] tN) (row tP 1 p.A p.c p.ks.length (p.ks.map ptrV))
def nods (l:List Fn8):HA:=jns (l.map (nod tN tP))
end
def lnF (ps:List Int) (m:Nat) (g:Nat→Fn8):Nat→Nat→Ln
 | 0,i => .mk (g i).b (g i).A (g i).c (g i).nm (g i).o []
 | f+1,i => .mk (g i).b (g i).A (g i).c (g i).nm (g i).o ((kdsI ps i m).map (lnF ps m g f))
theorem lnF_b (ps:List Int) (m:Nat) (g:Nat→Fn8) (f i:Nat):lnB (lnF ps m g f i)=(g i).b:=by cases f <;> rfl
section
variable {tN tP:TypeId}
theorem nod_tre {x:Fn8} {ks:List Ln} (h:x.ks=ks.map lnB) {H:List HA}:Hle (nod tN tP x::trs tN tP ks::H) (tre tN tP (.mk x.b x.A x.c x.nm x.o ks)::H):=by
 have e1:x.ks.length=ks.length:=by rw [h,List.length_map]
 have e2:x.ks.map ptrV=ks.map lnV:=by rw [h,List.map_map];rfl
 unfold nod
 rw [e1,e2]
 exact (hle_part (H:=trs tN tP ks::H)).trans (hle_shut rfl rfl)
theorem nods_trees {ps:List Int} {m:Nat} {g:Nat→Fn8} (hup:upT ps) (hm:m≤ps.length) (hk:∀ i,i<m→(g i).ks=(kdsI ps i m).map fun k=>(g k).b) :
  ∀ (f i:Nat),i<m→m≤f+i+1→∀ H,Hle ((dsc ps m f i).map (fun k=>nod tN tP (g k))++H) (tre tN tP (lnF ps m g f i)::H)
 | 0,i,hi,hf,H=>by
  have h0:kdsI ps i m=[]:=by
   refine List.eq_nil_iff_forall_not_mem.2 fun j hj=>?_
   have h1:=hup.gt hm hj
   have h2:=(kdsI_mem.1 hj).1
   omega
  have e:(g i).ks=([]:List Ln).map lnB:=by rw [hk i hi,h0];rfl
  exact (hle_em.trans hle_swap).trans (nod_tre (H:=H) e)
 | f+1,i,hi,hf,H=>by
  have e:(g i).ks=((kdsI ps i m).map (lnF ps m g f)).map lnB:=by
   rw [hk i hi,List.map_map]
   exact List.map_congr_left fun k _=>(lnF_b ps m g f k).symm
  refine Hle.trans ?_ (nod_tre (H:=H) e)
  rw [dsc,List.map_cons,List.cons_append]
  have hall:∀ (ks:List Nat),(∀ k∈ks,k<m∧m≤f+k+1)→∀ H,Hle ((ks.flatMap (dsc ps m f)).map (fun k=>nod tN tP (g k))++H) (trs tN tP (ks.map (lnF ps m g f))::H):=by
   intro ks
   induction ks with
   | nil=>intro _ H;exact hle_em
   | cons k r ih =>
    intro h H
    rw [List.flatMap_cons,List.map_append,List.append_assoc]
    have h1:=nods_trees hup hm hk f k (h k (.head _)).1 (h k (.head _)).2 ((r.flatMap (dsc ps m f)).map (fun k=>nod tN tP (g k))++H)
    exact (h1.trans (hle_mid.trans ((ih (fun y hy=>h y (.tail _ hy)) _).trans hle_swap))).trans hle_jn
  exact hle_mid.trans ((hall _ (fun k hk2=>⟨(kdsI_mem.1 hk2).1,by have:=hup.gt hm hk2;omega⟩) _).trans hle_swap)
theorem nods_tree {ps:List Int} {l:List Fn8} {d:Fn8} (hup:upT ps) (h0:0<ps.length) (hl:l.length=ps.length) (hk:∀ i,i<ps.length→(l.getD i d).ks=(kdsI ps i ps.length).map fun k=>(l.getD k d).b) {H:List HA} :
  Hle (nods tN tP l::H) (tre tN tP (lnF ps ps.length (fun i=>l.getD i d) ps.length 0)::H):=by
 have hp:=(dsc_perm hup h0 (f:=ps.length) (Nat.le_succ _)).map (fun k=>nod tN tP (l.getD k d))
 have e:(List.range ps.length).map (fun k=>nod tN tP (l.getD k d))=l.map (nod tN tP):=by
  refine List.ext_getElem? fun i=>?_
  rw [List.getElem?_map,List.getElem?_map, ← hl]
  rcases Nat.lt_or_ge i l.length with h|h
  ·rw [List.getElem?_range h,List.getElem?_eq_getElem h]
   simp [List.getD_eq_getElem?_getD,List.getElem?_eq_getElem h]
  ·rw [List.getElem?_eq_none (by simpa using h),List.getElem?_eq_none h];rfl
 unfold nods
 rw [← e]
 refine (jns_perm hp.symm).trans (jns_out.trans ?_)
 exact nods_trees hup (Nat.le_refl _) hk ps.length 0 h0 (by omega) H
end
theorem lnF_er {ps:List Int} {ns:List ByteArray} {g:Nat→Fn8} (hg:∀ i,i<ps.length→(g i).nm=ns.getD i ByteArray.empty∧(g i).o=(i:Nat)):∀ f i,i<ps.length→er (lnF ps ps.length g f i)=ndF ps ns f i
 | 0,i,hi=>by rw [lnF,er_mk,ndF,(hg i hi).1,(hg i hi).2];rfl
 | f+1,i,hi=>by
  rw [lnF,er_mk,ndF,(hg i hi).1,(hg i hi).2,List.map_map]
  congr 1
  exact List.map_congr_left fun k hk=>lnF_er hg f k (kdsI_mem.1 hk).1
end Go.Proofs.YtabhdaehomjlgaaGreat
namespace Go.Proofs.YtabhdaehomjlgaaGreat
open Go.RowKit Go.Shelf Go.Proofs
set_option maxRecDepth 100000
set_option maxHeartbeats 2000000

section
variable {β:Type} {le:β→β→Prop} {d:β}
theorem srtG_step (htr:∀ a b c,le a b→le b c→le a c) {zs:List β} {i j:Nat} (hi:i<zs.length) (hj:j+1≤i) (h:∀ p q,p<q→q≤i→q≠j+1→le (zs.getD p d) (zs.getD q d)) (hlt:le (zs.getD (j+1) d) (zs.getD j d)) :
  ∀ p q,p<q→q≤i→q≠j→le (((zs.set (j+1) (zs.getD j d)).set j (zs.getD (j+1) d)).getD p d) (((zs.set (j+1) (zs.getD j d)).set j (zs.getD (j+1) d)).getD q d):=by
 have e:∀ k,((zs.set (j+1) (zs.getD j d)).set j (zs.getD (j+1) d)).getD k d=if k=j then zs.getD (j+1) d else if k=j+1 then zs.getD j d else zs.getD k d:=fun k=>by
  by_cases h1:k=j
  ·subst h1
   rw [if_pos rfl,List.getD_eq_getElem?_getD,List.getElem?_set_self (by rw [List.length_set];omega)];rfl
  ·rw [if_neg h1,List.getD_eq_getElem?_getD,List.getElem?_set_ne (Ne.symm h1)]
   by_cases h2:k=j+1
   ·subst h2
    rw [if_pos rfl,List.getElem?_set_self (by omega)];rfl
   ·rw [if_neg h2,List.getElem?_set_ne (Ne.symm h2),List.getD_eq_getElem?_getD]
 intro p q hpq hqi hqj
 rw [e,e,if_neg hqj]
 by_cases h1:q=j+1
 ·rw [if_pos h1]
  by_cases h2:p=j
  ·rw [if_pos h2];exact hlt
  ·rw [if_neg h2,if_neg (by omega)]
   exact h p j (by omega) (by omega) (by omega)
 ·rw [if_neg h1]
  by_cases h2:p=j
  ·rw [if_pos h2];exact h (j+1) q (by omega) hqi h1
  ·rw [if_neg h2]
   by_cases h3:p=j+1
   ·rw [if_pos h3];exact h j q (by omega) hqi h1
   ·rw [if_neg h3];exact h p q hpq hqi h1
theorem srtG_end (htr:∀ a b c,le a b→le b c→le a c) {zs:List β} {i j:Nat} (hj:j≤i) (h:∀ p q,p<q→q≤i→q≠j→le (zs.getD p d) (zs.getD q d)) (hx:j=0∨le (zs.getD (j - 1) d) (zs.getD j d)):∀ p q,p<q→q<i+1→le (zs.getD p d) (zs.getD q d):=by
 intro p q hpq hq
 by_cases h1:q=j
 ·subst h1
  rcases hx with h2|h2
  ·omega
  ·by_cases h3:p=q - 1
   ·rw [h3];exact h2
   ·exact htr _ _ _ (h p (q - 1) (by omega) (by omega) (by omega)) h2
 ·exact h p q hpq (by omega) h1
theorem swpG_perm {zs:List β} {j:Nat} (hj:j+1<zs.length):((zs.set (j+1) (zs.getD j d)).set j (zs.getD (j+1) d)).Perm zs:=by
 have h:=@List.set_set_perm _ zs (j+1) j hj (by omega)
 rw [List.getD_eq_getElem?_getD,List.getD_eq_getElem?_getD,List.getElem?_eq_getElem hj,List.getElem?_eq_getElem (show j<zs.length by omega)]
 exact h
theorem setG_row {v:β→Value} {l:List β} {off k:Nat} {z:β} (h:off=k):setL (l.map v) off [v z]=(l.set k z).map v:=by
 subst h;rw [List.map_set];rfl
theorem getG_row {v:β→Value} {l:List β} {off k:Nat} (h:off=k) (hk:k<l.length):∀ (j:Nat) u,[v (l.getD k d)][j]?=some u→(l.map v)[off+j]?=some u:=fun j u hu=>by
 subst h
 rcases j with _|j
 ·cases hu
  rw [Nat.add_zero,List.getElem?_map,List.getElem?_eq_getElem hk,List.getD_eq_getElem?_getD,List.getElem?_eq_getElem hk];rfl
 ·simp at hu
theorem getG_mem {l:List β} {k:Nat} (hk:k<l.length):l.getD k d∈l:=by
 rw [List.getD_eq_getElem?_getD,List.getElem?_eq_getElem hk];exact List.getElem_mem hk
end
theorem lenT64_spec (n:Nat) (hn:n≤12) (w:World):Spec Tryz.prog 133 [.int .u64 (n:Nat)] w (fun v R=>∃ z:Int,(0≤z∧z≤300)∧v = .int .i64 z∧R=[]):=by
 refine spec_of sg Tryz.func133 rfl rfl rfl ?_
 repeat' (first|refine d1 ?_|refine dd ?_|(show ∀ _:Nat,T _ _ _ _ _;intro _))
 refine T_if rfl (fun h=>by exfalso;simp at h;omega) (fun _=>?_)
 repeat' (first|refine d1 ?_|refine dd ?_|(show ∀ _:Nat,T _ _ _ _ _;intro _))
 refine T_if rfl (fun h=>by exfalso;simp at h;omega) (fun _=>?_)
 repeat' (first|refine d1 ?_|refine dd ?_|(show ∀ _:Nat,T _ _ _ _ _;intro _))
 refine T_if rfl (fun h=>by exfalso;simp at h;omega) (fun _=>?_)
 repeat' (first|refine d1 ?_|refine dd ?_|(show ∀ _:Nat,T _ _ _ _ _;intro _))
 refine T_val rfl (Val.vc rfl (fun _=>⟨by omega,Int.lt_of_le_of_lt (show (n:Int)≤12 by omega) (by decide +kernel)⟩)) rfl rfl rfl ?_
 generalize byteAt _ _=u
 have hu:=UInt8.toNat_lt u
 repeat' (first|refine d1 ?_|refine dd ?_|(show ∀ _:Nat,T _ _ _ _ _;intro _)|(show T _ (.code .ret::_) _ _ _;refine T_retV _ rfl (Hle.refl _) ⟨_,?_,rfl,rfl⟩))
 omega
theorem lenT_spec (n:Nat) (hn:n≤12) (w:World):Spec Tryz.prog 90 [.int .u64 (n:Nat)] w (fun v R=>∃ z:Int,(0≤z∧z≤300)∧v = .int .i64 z∧R=[]):=by
 refine spec_of sg Tryz.func90 rfl rfl rfl ?_
 repeat' (first|refine d1 ?_|refine dd ?_|(show ∀ _:Nat,T _ _ _ _ _;intro _))
 refine T_if rfl (fun h=>by cases h) (fun _=>?_)
 repeat' (first|refine d1 ?_|refine dd ?_|(show T _ (.ops _ (_::_)::_) _ _ _;refine T_op (OpT.call rfl rfl rfl rfl rfl (fun w hw=>lenT64_spec n hn w) ?_))|(show ∀ _:Nat,T _ _ _ _ _;intro _))
 rintro v R ⟨z,hz,rfl,rfl⟩
 repeat' (first|refine d1 ?_|refine dd ?_|(show ∀ _:Nat,T _ _ _ _ _;intro _)|(show T _ (.code .ret::_) _ _ _;refine T_retV _ rfl (Hle.refl _) ⟨z,hz,rfl,rfl⟩))
def ln0:Ln := .mk 0 none 0 ByteArray.empty 0 []

theorem isortN_spec (g c n:Nat) (xs:List Ln) (f:FuncId) (cs:List Value) (cmp:Ln→Ln→Int) (le:Ln→Ln→Prop) (w0:World) (K:List HA) (hl:xs.length=n) (h1:1≤n) (h12:n≤12)
  (hcmp:∀ w,(∃ H,Cls w0 w (H++K))→∀ x∈xs,∀ y∈xs,Spec Tryz.prog f (lnV x::lnV y::cs) w (fun v R=>v = .int .i64 (cmp x y)∧R=[]))
  (htr:∀ a b c,le a b→le b c→le a c) (hlt9:∀ a b,cmp a b<0→le a b) (hge9:∀ a b,¬ cmp a b<0→le b a) :
  SpecB Tryz.prog 184 [.slice (some ⟨g,0,none⟩) n c, .int .i64 0, .int .i64 (n:Nat), .func (.func f) #[] cs.toArray] w0 (row 92 1 (some ⟨g,0,none⟩) c n (xs.map lnV)::K)
   (fun _ R=>∃ ys:List Ln,(ys.Perm xs∧∀ p q,p<q→q<n→le (ys.getD p ln0) (ys.getD q ln0))∧R=row 92 1 (some ⟨g,0,none⟩) c n (ys.map lnV)::K):=by
 refine specB_of sg Tryz.func184 rfl rfl rfl ?_
 repeat' (first|refine d1 ?_|refine dd ?_|(show ∀ _:Nat,T _ _ _ _ _;intro _))
 refine T_loopX (fun s:Nat × List Ln=>[(8, .int .i64 (s.1:Nat))]) (fun s=>row 92 1 (some ⟨g,0,none⟩) c n (s.2.map lnV)::K) (fun s=>(s.2.length=n∧s.2.Perm xs)∧(1≤s.1∧s.1≤n)∧∀ p q,p<q→q<s.1→le (s.2.getD p ln0) (s.2.getD q ln0)) (fun s=>n - s.1) (1,xs) ⟨⟨hl,List.Perm.refl _⟩,⟨Nat.le_refl _,h1⟩,fun p q h2 h3=>by dsimp only at h3;omega⟩ ?_
 rintro⟨i,ys⟩ ⟨⟨hyl,hyp⟩,⟨hi1,hin⟩,hys⟩
 dsimp only at hyl hyp hi1 hin hys ⊢
 repeat' (first|refine d1 ?_|refine dd ?_|(show ∀ _:Nat,T _ _ _ _ _;intro _))
 refine T_if rfl (fun h3=>?_) (fun h3=>?_)
 ·simp only [decide_eq_true_eq] at h3
  have hi:i<n:=by omega
  repeat' (first|refine d1 ?_|refine dd ?_|(show ∀ _:Nat,T _ _ _ _ _;intro _))
  refine T_loopX (fun s:Nat × List Ln=>[(9, .int .i64 (s.1:Nat))]) (fun s=>row 92 1 (some ⟨g,0,none⟩) c n (s.2.map lnV)::K) (fun s=>(s.2.length=n∧s.2.Perm xs)∧s.1≤i∧∀ p q,p<q→q≤i→q≠s.1→le (s.2.getD p ln0) (s.2.getD q ln0)) (fun s=>s.1) (i,ys) ⟨⟨hyl,hyp⟩,Nat.le_refl _,fun p q h4 h5 h6=>hys p q h4 (by dsimp only at h6;omega)⟩ ?_
  rintro⟨j,zs⟩ ⟨⟨hzl,hzp⟩,hji,hzs⟩
  dsimp only at hzl hzp hji hzs ⊢
  have hm1:zs.getD j ln0∈xs:=hzp.mem_iff.1 (getG_mem (by omega))
  have hm2:zs.getD (j - 1) ln0∈xs:=hzp.mem_iff.1 (getG_mem (by omega))
  repeat' (first|refine d1 ?_|refine dd ?_|(show T _ (.ops _ (_::_)::_) _ _ _;first|refine T_val rfl (Val.load rfl (fun hg=>rdRow (A:=some ⟨g,0,none⟩) (vs:=[lnV (zs.getD j ln0)]) (by omega) (getG_row (by omega) (by omega)))) rfl rfl rfl ?_|refine T_valC rfl (Val.load rfl (fun hg=>rdRow (A:=some ⟨g,0,none⟩) (vs:=[lnV (zs.getD j ln0)]) (by omega) (getG_row (by omega) (by omega)))) rfl rfl rfl rfl rfl ?_|refine T_val rfl (Val.load rfl (fun hg=>rdRow (A:=some ⟨g,0,none⟩) (vs:=[lnV (zs.getD (j - 1) ln0)]) (by omega) (getG_row (by omega) (by omega)))) rfl rfl rfl ?_|refine T_valC rfl (Val.load rfl (fun hg=>rdRow (A:=some ⟨g,0,none⟩) (vs:=[lnV (zs.getD (j - 1) ln0)]) (by omega) (getG_row (by omega) (by omega)))) rfl rfl rfl rfl rfl ?_|refine T_call rfl rfl rfl rfl rfl (fun w hw=>hcmp w ⟨[_],hw⟩ _ hm1 _ hm2) ?_|refine T_callC rfl rfl rfl rfl rfl rfl rfl (fun hg w hw=>hcmp w ⟨[_],hw⟩ _ hm1 _ hm2) ?_)|(show T _ (.run _ _ (_::_) _ _::_) _ _ _;first|refine rv rfl rfl rfl (Val.load rfl (fun hg=>rdRow (A:=some ⟨g,0,none⟩) (vs:=[lnV (zs.getD j ln0)]) (by omega) (getG_row (by omega) (by omega)))) rfl rfl rfl ?_|refine rg rfl rfl rfl (Val.load rfl (fun hg=>rdRow (A:=some ⟨g,0,none⟩) (vs:=[lnV (zs.getD j ln0)]) (by omega) (getG_row (by omega) (by omega)))) rfl rfl rfl rfl rfl ?_|refine rv rfl rfl rfl (Val.load rfl (fun hg=>rdRow (A:=some ⟨g,0,none⟩) (vs:=[lnV (zs.getD (j - 1) ln0)]) (by omega) (getG_row (by omega) (by omega)))) rfl rfl rfl ?_|refine rg rfl rfl rfl (Val.load rfl (fun hg=>rdRow (A:=some ⟨g,0,none⟩) (vs:=[lnV (zs.getD (j - 1) ln0)]) (by omega) (getG_row (by omega) (by omega)))) rfl rfl rfl rfl rfl ?_|refine rc rfl rfl rfl rfl rfl rfl rfl (fun w hw=>hcmp w ⟨[_],hw⟩ _ hm1 _ hm2) ?_|refine rcG rfl rfl rfl rfl rfl rfl rfl rfl rfl (fun hg w hw=>hcmp w ⟨[_],hw⟩ _ hm1 _ hm2) ?_)|(show ∀ _:Nat,T _ _ _ _ _;intro _))
  refine T_if rfl (fun h4=>?_) (fun h4=>?_)
  ·simp only [Bool.and_eq_true,decide_eq_true_eq] at h4
   obtain⟨j,rfl⟩:∃ j',j=j'+1:=⟨j - 1,by omega⟩
   have hlt:=hlt9 _ _ h4.2
   rw [Nat.add_sub_cancel] at *
   refine dw0 14 [row 92 1 (some ⟨g,0,none⟩) c n (zs.map lnV)] ?_
   repeat' (first|(show T _ (.draw _ _ _ _ _::_) _ _ _;first|refine dw1 ?_|refine dwv rfl (by decide +kernel) rfl rfl (Val.load rfl (fun hg=>rdRow (A:=some ⟨g,0,none⟩) (vs:=[lnV (zs.getD j ln0)]) (by omega) (getG_row (by omega) (by omega)))) rfl rfl rfl ?_|refine dwg rfl (by decide +kernel) rfl rfl (Val.load rfl (fun hg=>rdRow (A:=some ⟨g,0,none⟩) (vs:=[lnV (zs.getD j ln0)]) (by omega) (getG_row (by omega) (by omega)))) rfl rfl rfl rfl rfl ?_|refine dwv rfl (by decide +kernel) rfl rfl (Val.load rfl (fun hg=>rdRow (A:=some ⟨g,0,none⟩) (vs:=[lnV (zs.getD (j+1) ln0)]) (by omega) (getG_row (by omega) (by omega)))) rfl rfl rfl ?_|refine dwg rfl (by decide +kernel) rfl rfl (Val.load rfl (fun hg=>rdRow (A:=some ⟨g,0,none⟩) (vs:=[lnV (zs.getD (j+1) ln0)]) (by omega) (getG_row (by omega) (by omega)))) rfl rfl rfl rfl rfl ?_|refine dwb rfl (by decide +kernel) ?_)|(show AllL _ [];exact True.intro)|(show AllL _ (_::_);refine ⟨?_,?_⟩)|(show OpT _ _ _ _ _ _ _;first|refine dwx ?_|refine OpT.ofVal rfl (Val.load rfl (fun hg=>rdRow (A:=some ⟨g,0,none⟩) (vs:=[lnV (zs.getD j ln0)]) (by omega) (getG_row (by omega) (by omega)))) rfl rfl rfl ⟨fun _=>(by first|exact Hle.none _|exact Hle.sub|exact absurd ‹_› (by decide +kernel)),?_⟩|refine OpT.ofVal rfl (Val.load rfl (fun hg=>rdRow (A:=some ⟨g,0,none⟩) (vs:=[lnV (zs.getD (j+1) ln0)]) (by omega) (getG_row (by omega) (by omega)))) rfl rfl rfl ⟨fun _=>(by first|exact Hle.none _|exact Hle.sub|exact absurd ‹_› (by decide +kernel)),?_⟩|refine OpT.storeR rfl rfl rfl rfl rfl rfl (by show 0+((j+1:Nat):Int).toNat * 1+1≤n * 1;omega) ⟨fun _=>(by first|exact Hle.none _|exact Hle.sub|exact absurd ‹_› (by decide +kernel)),?_⟩|refine OpT.storeR rfl rfl rfl rfl rfl rfl (by show 0+(((j+1:Nat):Int) - 1).toNat * 1+1≤n * 1;omega) ⟨fun _=>(by first|exact Hle.none _|exact Hle.sub|exact absurd ‹_› (by decide +kernel)),?_⟩)|(show ∀ _:Nat,T _ _ _ _ _;intro _))
   refine T_le (H':=row 92 1 (some ⟨g,0,none⟩) c n (setL (setL (zs.map lnV) (0+((j+1:Nat):Int).toNat * 1) [lnV (zs.getD j ln0)]) (0+(((j+1:Nat):Int) - 1).toNat * 1) [lnV (zs.getD (j+1) ln0)])::K) (Hle.refl _) ?_
   rw [setG_row (k:=j+1) (by omega),setG_row (k:=j) (by omega)]
   repeat' (first|refine d1 ?_|refine dd ?_|(show ∀ _:Nat,T _ _ _ _ _;intro _))
   rw [show (((j+1:Nat):Int) - 1)=(j:Int) by omega]
   exact T_backX (j,(zs.set (j+1) (zs.getD j ln0)).set j (zs.getD (j+1) ln0)) ⟨⟨by dsimp only;rw [List.length_set,List.length_set];exact hzl,(swpG_perm (by omega)).trans hzp⟩,by dsimp only;omega,srtG_step htr (by omega) (by omega) hzs hlt⟩ (by dsimp only;omega)
  ·have hx:j=0∨le (zs.getD (j - 1) ln0) (zs.getD j ln0):=by
    rcases Nat.eq_zero_or_pos j with h5|h5
    ·exact .inl h5
    ·refine .inr (hge9 _ _ ?_)
     simp only [Bool.and_eq_false_iff,decide_eq_false_iff_not] at h4
     rcases h4 with h4|h4
     ·omega
     ·exact h4
   repeat' (first|refine d1 ?_|refine dd ?_|(show ∀ _:Nat,T _ _ _ _ _;intro _))
   exact T_backX (i+1,zs) ⟨⟨hzl,hzp⟩,⟨by dsimp only;omega,by dsimp only;omega⟩,srtG_end htr hji hzs hx⟩ (by dsimp only;omega)
 ·simp only [decide_eq_false_iff_not] at h3
  obtain rfl:i=n:=by omega
  repeat' (first|refine d1 ?_|refine dd ?_|(show ∀ _:Nat,T _ _ _ _ _;intro _))
  exact T_fallV (vs:=[]) _ rfl (Hle.refl _) ⟨ys,⟨hyp,hys⟩,rfl⟩
theorem pdqN_spec (g c n:Nat) (z:Int) (xs:List Ln) (f:FuncId) (cs:List Value) (cmp:Ln→Ln→Int) (le:Ln→Ln→Prop) (w0:World) (K:List HA) (hl:xs.length=n) (h1:1≤n) (h12:n≤12)
  (hcmp:∀ w,(∃ H,Cls w0 w (H++K))→∀ x∈xs,∀ y∈xs,Spec Tryz.prog f (lnV x::lnV y::cs) w (fun v R=>v = .int .i64 (cmp x y)∧R=[]))
  (htr:∀ a b c,le a b→le b c→le a c) (hlt9:∀ a b,cmp a b<0→le a b) (hge9:∀ a b,¬ cmp a b<0→le b a) :
  SpecB Tryz.prog 170 [.slice (some ⟨g,0,none⟩) n c, .int .i64 0, .int .i64 (n:Nat), .int .i64 z, .func (.func f) #[] cs.toArray] w0 (row 92 1 (some ⟨g,0,none⟩) c n (xs.map lnV)::K)
   (fun _ R=>∃ ys:List Ln,(ys.Perm xs∧∀ p q,p<q→q<n→le (ys.getD p ln0) (ys.getD q ln0))∧R=row 92 1 (some ⟨g,0,none⟩) c n (ys.map lnV)::K):=by
 refine specB_of sg Tryz.func170 rfl rfl rfl ?_
 repeat' (first|refine d1 ?_|refine dd ?_|(show ∀ _:Nat,T _ _ _ _ _;intro _))
 refine T_loopX (fun _:Unit=>[]) (fun _=>row 92 1 (some ⟨g,0,none⟩) c n (xs.map lnV)::K) (fun _=>True) (fun _=>0) () trivial ?_
 rintro - -
 repeat' (first|refine d1 ?_|refine dd ?_|(show ∀ _:Nat,T _ _ _ _ _;intro _))
 refine T_if rfl (fun _=>?_) (fun h=>by exfalso;simp at h;omega)
 repeat' (first|refine d1 ?_|refine dd ?_|(show T _ (.ops _ (_::_)::_) _ _ _;refine T_op (OpT.callB rfl rfl rfl rfl rfl (isortN_spec g c n xs f cs cmp le w0 K hl h1 h12 hcmp htr hlt9 hge9) ?_))|(show ∀ _:Nat,T _ _ _ _ _;intro _))
 rintro u R ⟨ys,hys,rfl⟩
 repeat' (first|refine d1 ?_|refine dd ?_|(show ∀ _:Nat,T _ _ _ _ _;intro _))
 exact T_retV (vs:=[]) _ rfl (Hle.refl _) ⟨ys,hys,rfl⟩
theorem sortFN_spec (g c n:Nat) (xs:List Ln) (f:FuncId) (cs:List Value) (cmp:Ln→Ln→Int) (le:Ln→Ln→Prop) (w0:World) (K:List HA) (hl:xs.length=n) (h1:1≤n) (h12:n≤12)
  (hcmp:∀ w,(∃ H,Cls w0 w (H++K))→∀ x∈xs,∀ y∈xs,Spec Tryz.prog f (lnV x::lnV y::cs) w (fun v R=>v = .int .i64 (cmp x y)∧R=[]))
  (htr:∀ a b c,le a b→le b c→le a c) (hlt9:∀ a b,cmp a b<0→le a b) (hge9:∀ a b,¬ cmp a b<0→le b a) :
  SpecB Tryz.prog 141 [.slice (some ⟨g,0,none⟩) n c, .func (.func f) #[] cs.toArray] w0 (row 92 1 (some ⟨g,0,none⟩) c n (xs.map lnV)::K)
   (fun _ R=>∃ ys:List Ln,(ys.Perm xs∧∀ p q,p<q→q<n→le (ys.getD p ln0) (ys.getD q ln0))∧R=row 92 1 (some ⟨g,0,none⟩) c n (ys.map lnV)::K):=by
 refine specB_of sg Tryz.func141 rfl rfl rfl ?_
 repeat' (first|refine d1 ?_|refine dd ?_|(show T _ (.ops _ (_::_)::_) _ _ _;refine T_op (OpT.call rfl rfl rfl rfl rfl (fun w hw=>lenT_spec n h12 w) ?_))|(show ∀ _:Nat,T _ _ _ _ _;intro _))
 rintro v R ⟨z,hz,rfl,rfl⟩
 refine T_le (H':=row 92 1 (some ⟨g,0,none⟩) c n (xs.map lnV)::K) (Hle.refl _) ?_
 repeat' (first|refine d1 ?_|refine dd ?_|(show T _ (.ops _ (_::_)::_) _ _ _;refine T_op (OpT.callB rfl rfl rfl rfl rfl (pdqN_spec g c n z xs f cs cmp le w0 K hl h1 h12 hcmp htr hlt9 hge9) ?_))|(show ∀ _:Nat,T _ _ _ _ _;intro _))
 rintro u R ⟨ys,hys,rfl⟩
 repeat' (first|refine d1 ?_|refine dd ?_|(show ∀ _:Nat,T _ _ _ _ _;intro _))
 exact T_fallV (vs:=[]) _ rfl (Hle.refl _) ⟨ys,hys,rfl⟩
structure RwI where
 A:Option Addr
 n:Nat
 cap:Nat
 l:List Int
abbrev RwI.val (x:RwI):Value := .slice x.A x.n x.cap
def rw0:RwI:=⟨none,0,0,[]⟩

theorem isortR_spec (g c n:Nat) (xs:List RwI) (f:FuncId) (cs:List Value) (cmp:RwI→RwI→Int) (le:RwI→RwI→Prop) (w0:World) (K:List HA) (hl:xs.length=n) (h1:1≤n) (h12:n≤12)
  (hcmp:∀ w,(∃ H,Cls w0 w (H++K))→∀ x∈xs,∀ y∈xs,Spec Tryz.prog f (RwI.val x::RwI.val y::cs) w (fun v R=>v = .int .i64 (cmp x y)∧R=[]))
  (htr:∀ a b c,le a b→le b c→le a c) (hlt9:∀ a b,cmp a b<0→le a b) (hge9:∀ a b,¬ cmp a b<0→le b a) :
  SpecB Tryz.prog 124 [.slice (some ⟨g,0,none⟩) n c, .int .i64 0, .int .i64 (n:Nat), .func (.func f) #[] cs.toArray] w0 (row 24 1 (some ⟨g,0,none⟩) c n (xs.map RwI.val)::K)
   (fun _ R=>∃ ys:List RwI,(ys.Perm xs∧∀ p q,p<q→q<n→le (ys.getD p rw0) (ys.getD q rw0))∧R=row 24 1 (some ⟨g,0,none⟩) c n (ys.map RwI.val)::K):=by
 refine specB_of sg Tryz.func124 rfl rfl rfl ?_
 repeat' (first|refine d1 ?_|refine dd ?_|(show ∀ _:Nat,T _ _ _ _ _;intro _))
 refine T_loopX (fun s:Nat × List RwI=>[(8, .int .i64 (s.1:Nat))]) (fun s=>row 24 1 (some ⟨g,0,none⟩) c n (s.2.map RwI.val)::K) (fun s=>(s.2.length=n∧s.2.Perm xs)∧(1≤s.1∧s.1≤n)∧∀ p q,p<q→q<s.1→le (s.2.getD p rw0) (s.2.getD q rw0)) (fun s=>n - s.1) (1,xs) ⟨⟨hl,List.Perm.refl _⟩,⟨Nat.le_refl _,h1⟩,fun p q h2 h3=>by dsimp only at h3;omega⟩ ?_
 rintro⟨i,ys⟩ ⟨⟨hyl,hyp⟩,⟨hi1,hin⟩,hys⟩
 dsimp only at hyl hyp hi1 hin hys ⊢
 repeat' (first|refine d1 ?_|refine dd ?_|(show ∀ _:Nat,T _ _ _ _ _;intro _))
 refine T_if rfl (fun h3=>?_) (fun h3=>?_)
 ·simp only [decide_eq_true_eq] at h3
  have hi:i<n:=by omega
  repeat' (first|refine d1 ?_|refine dd ?_|(show ∀ _:Nat,T _ _ _ _ _;intro _))
  refine T_loopX (fun s:Nat × List RwI=>[(9, .int .i64 (s.1:Nat))]) (fun s=>row 24 1 (some ⟨g,0,none⟩) c n (s.2.map RwI.val)::K) (fun s=>(s.2.length=n∧s.2.Perm xs)∧s.1≤i∧∀ p q,p<q→q≤i→q≠s.1→le (s.2.getD p rw0) (s.2.getD q rw0)) (fun s=>s.1) (i,ys) ⟨⟨hyl,hyp⟩,Nat.le_refl _,fun p q h4 h5 h6=>hys p q h4 (by dsimp only at h6;omega)⟩ ?_
  rintro⟨j,zs⟩ ⟨⟨hzl,hzp⟩,hji,hzs⟩
  dsimp only at hzl hzp hji hzs ⊢
  have hm1:zs.getD j rw0∈xs:=hzp.mem_iff.1 (getG_mem (by omega))
  have hm2:zs.getD (j - 1) rw0∈xs:=hzp.mem_iff.1 (getG_mem (by omega))
  repeat' (first|refine d1 ?_|refine dd ?_|(show T _ (.ops _ (_::_)::_) _ _ _;first|refine T_val rfl (Val.load rfl (fun hg=>rdRow (A:=some ⟨g,0,none⟩) (vs:=[RwI.val (zs.getD j rw0)]) (by omega) (getG_row (by omega) (by omega)))) rfl rfl rfl ?_|refine T_valC rfl (Val.load rfl (fun hg=>rdRow (A:=some ⟨g,0,none⟩) (vs:=[RwI.val (zs.getD j rw0)]) (by omega) (getG_row (by omega) (by omega)))) rfl rfl rfl rfl rfl ?_|refine T_val rfl (Val.load rfl (fun hg=>rdRow (A:=some ⟨g,0,none⟩) (vs:=[RwI.val (zs.getD (j - 1) rw0)]) (by omega) (getG_row (by omega) (by omega)))) rfl rfl rfl ?_|refine T_valC rfl (Val.load rfl (fun hg=>rdRow (A:=some ⟨g,0,none⟩) (vs:=[RwI.val (zs.getD (j - 1) rw0)]) (by omega) (getG_row (by omega) (by omega)))) rfl rfl rfl rfl rfl ?_|refine T_call rfl rfl rfl rfl rfl (fun w hw=>hcmp w ⟨[_],hw⟩ _ hm1 _ hm2) ?_|refine T_callC rfl rfl rfl rfl rfl rfl rfl (fun hg w hw=>hcmp w ⟨[_],hw⟩ _ hm1 _ hm2) ?_)|(show T _ (.run _ _ (_::_) _ _::_) _ _ _;first|refine rv rfl rfl rfl (Val.load rfl (fun hg=>rdRow (A:=some ⟨g,0,none⟩) (vs:=[RwI.val (zs.getD j rw0)]) (by omega) (getG_row (by omega) (by omega)))) rfl rfl rfl ?_|refine rg rfl rfl rfl (Val.load rfl (fun hg=>rdRow (A:=some ⟨g,0,none⟩) (vs:=[RwI.val (zs.getD j rw0)]) (by omega) (getG_row (by omega) (by omega)))) rfl rfl rfl rfl rfl ?_|refine rv rfl rfl rfl (Val.load rfl (fun hg=>rdRow (A:=some ⟨g,0,none⟩) (vs:=[RwI.val (zs.getD (j - 1) rw0)]) (by omega) (getG_row (by omega) (by omega)))) rfl rfl rfl ?_|refine rg rfl rfl rfl (Val.load rfl (fun hg=>rdRow (A:=some ⟨g,0,none⟩) (vs:=[RwI.val (zs.getD (j - 1) rw0)]) (by omega) (getG_row (by omega) (by omega)))) rfl rfl rfl rfl rfl ?_|refine rc rfl rfl rfl rfl rfl rfl rfl (fun w hw=>hcmp w ⟨[_],hw⟩ _ hm1 _ hm2) ?_|refine rcG rfl rfl rfl rfl rfl rfl rfl rfl rfl (fun hg w hw=>hcmp w ⟨[_],hw⟩ _ hm1 _ hm2) ?_)|(show ∀ _:Nat,T _ _ _ _ _;intro _))
  refine T_if rfl (fun h4=>?_) (fun h4=>?_)
  ·simp only [Bool.and_eq_true,decide_eq_true_eq] at h4
   obtain⟨j,rfl⟩:∃ j',j=j'+1:=⟨j - 1,by omega⟩
   have hlt:=hlt9 _ _ h4.2
   rw [Nat.add_sub_cancel] at *
   refine dw0 14 [row 24 1 (some ⟨g,0,none⟩) c n (zs.map RwI.val)] ?_
   repeat' (first|(show T _ (.draw _ _ _ _ _::_) _ _ _;first|refine dw1 ?_|refine dwv rfl (by decide +kernel) rfl rfl (Val.load rfl (fun hg=>rdRow (A:=some ⟨g,0,none⟩) (vs:=[RwI.val (zs.getD j rw0)]) (by omega) (getG_row (by omega) (by omega)))) rfl rfl rfl ?_|refine dwg rfl (by decide +kernel) rfl rfl (Val.load rfl (fun hg=>rdRow (A:=some ⟨g,0,none⟩) (vs:=[RwI.val (zs.getD j rw0)]) (by omega) (getG_row (by omega) (by omega)))) rfl rfl rfl rfl rfl ?_|refine dwv rfl (by decide +kernel) rfl rfl (Val.load rfl (fun hg=>rdRow (A:=some ⟨g,0,none⟩) (vs:=[RwI.val (zs.getD (j+1) rw0)]) (by omega) (getG_row (by omega) (by omega)))) rfl rfl rfl ?_|refine dwg rfl (by decide +kernel) rfl rfl (Val.load rfl (fun hg=>rdRow (A:=some ⟨g,0,none⟩) (vs:=[RwI.val (zs.getD (j+1) rw0)]) (by omega) (getG_row (by omega) (by omega)))) rfl rfl rfl rfl rfl ?_|refine dwb rfl (by decide +kernel) ?_)|(show AllL _ [];exact True.intro)|(show AllL _ (_::_);refine ⟨?_,?_⟩)|(show OpT _ _ _ _ _ _ _;first|refine dwx ?_|refine OpT.ofVal rfl (Val.load rfl (fun hg=>rdRow (A:=some ⟨g,0,none⟩) (vs:=[RwI.val (zs.getD j rw0)]) (by omega) (getG_row (by omega) (by omega)))) rfl rfl rfl ⟨fun _=>(by first|exact Hle.none _|exact Hle.sub|exact absurd ‹_› (by decide +kernel)),?_⟩|refine OpT.ofVal rfl (Val.load rfl (fun hg=>rdRow (A:=some ⟨g,0,none⟩) (vs:=[RwI.val (zs.getD (j+1) rw0)]) (by omega) (getG_row (by omega) (by omega)))) rfl rfl rfl ⟨fun _=>(by first|exact Hle.none _|exact Hle.sub|exact absurd ‹_› (by decide +kernel)),?_⟩|refine OpT.storeR rfl rfl rfl rfl rfl rfl (by show 0+((j+1:Nat):Int).toNat * 1+1≤n * 1;omega) ⟨fun _=>(by first|exact Hle.none _|exact Hle.sub|exact absurd ‹_› (by decide +kernel)),?_⟩|refine OpT.storeR rfl rfl rfl rfl rfl rfl (by show 0+(((j+1:Nat):Int) - 1).toNat * 1+1≤n * 1;omega) ⟨fun _=>(by first|exact Hle.none _|exact Hle.sub|exact absurd ‹_› (by decide +kernel)),?_⟩)|(show ∀ _:Nat,T _ _ _ _ _;intro _))
   refine T_le (H':=row 24 1 (some ⟨g,0,none⟩) c n (setL (setL (zs.map RwI.val) (0+((j+1:Nat):Int).toNat * 1) [RwI.val (zs.getD j rw0)]) (0+(((j+1:Nat):Int) - 1).toNat * 1) [RwI.val (zs.getD (j+1) rw0)])::K) (Hle.refl _) ?_
   rw [setG_row (k:=j+1) (by omega),setG_row (k:=j) (by omega)]
   repeat' (first|refine d1 ?_|refine dd ?_|(show ∀ _:Nat,T _ _ _ _ _;intro _))
   rw [show (((j+1:Nat):Int) - 1)=(j:Int) by omega]
   exact T_backX (j,(zs.set (j+1) (zs.getD j rw0)).set j (zs.getD (j+1) rw0)) ⟨⟨by dsimp only;rw [List.length_set,List.length_set];exact hzl,(swpG_perm (by omega)).trans hzp⟩,by dsimp only;omega,srtG_step htr (by omega) (by omega) hzs hlt⟩ (by dsimp only;omega)
  ·have hx:j=0∨le (zs.getD (j - 1) rw0) (zs.getD j rw0):=by
    rcases Nat.eq_zero_or_pos j with h5|h5
    ·exact .inl h5
    ·refine .inr (hge9 _ _ ?_)
     simp only [Bool.and_eq_false_iff,decide_eq_false_iff_not] at h4
     rcases h4 with h4|h4
     ·omega
     ·exact h4
   repeat' (first|refine d1 ?_|refine dd ?_|(show ∀ _:Nat,T _ _ _ _ _;intro _))
   exact T_backX (i+1,zs) ⟨⟨hzl,hzp⟩,⟨by dsimp only;omega,by dsimp only;omega⟩,srtG_end htr hji hzs hx⟩ (by dsimp only;omega)
 ·simp only [decide_eq_false_iff_not] at h3
  obtain rfl:i=n:=by omega
  repeat' (first|refine d1 ?_|refine dd ?_|(show ∀ _:Nat,T _ _ _ _ _;intro _))
  exact T_fallV (vs:=[]) _ rfl (Hle.refl _) ⟨ys,⟨hyp,hys⟩,rfl⟩
theorem pdqR_spec (g c n:Nat) (z:Int) (xs:List RwI) (f:FuncId) (cs:List Value) (cmp:RwI→RwI→Int) (le:RwI→RwI→Prop) (w0:World) (K:List HA) (hl:xs.length=n) (h1:1≤n) (h12:n≤12)
  (hcmp:∀ w,(∃ H,Cls w0 w (H++K))→∀ x∈xs,∀ y∈xs,Spec Tryz.prog f (RwI.val x::RwI.val y::cs) w (fun v R=>v = .int .i64 (cmp x y)∧R=[]))
  (htr:∀ a b c,le a b→le b c→le a c) (hlt9:∀ a b,cmp a b<0→le a b) (hge9:∀ a b,¬ cmp a b<0→le b a) :
  SpecB Tryz.prog 89 [.slice (some ⟨g,0,none⟩) n c, .int .i64 0, .int .i64 (n:Nat), .int .i64 z, .func (.func f) #[] cs.toArray] w0 (row 24 1 (some ⟨g,0,none⟩) c n (xs.map RwI.val)::K)
   (fun _ R=>∃ ys:List RwI,(ys.Perm xs∧∀ p q,p<q→q<n→le (ys.getD p rw0) (ys.getD q rw0))∧R=row 24 1 (some ⟨g,0,none⟩) c n (ys.map RwI.val)::K):=by
 refine specB_of sg Tryz.func89 rfl rfl rfl ?_
 repeat' (first|refine d1 ?_|refine dd ?_|(show ∀ _:Nat,T _ _ _ _ _;intro _))
 refine T_loopX (fun _:Unit=>[]) (fun _=>row 24 1 (some ⟨g,0,none⟩) c n (xs.map RwI.val)::K) (fun _=>True) (fun _=>0) () trivial ?_
 rintro - -
 repeat' (first|refine d1 ?_|refine dd ?_|(show ∀ _:Nat,T _ _ _ _ _;intro _))
 refine T_if rfl (fun _=>?_) (fun h=>by exfalso;simp at h;omega)
 repeat' (first|refine d1 ?_|refine dd ?_|(show T _ (.ops _ (_::_)::_) _ _ _;refine T_op (OpT.callB rfl rfl rfl rfl rfl (isortR_spec g c n xs f cs cmp le w0 K hl h1 h12 hcmp htr hlt9 hge9) ?_))|(show ∀ _:Nat,T _ _ _ _ _;intro _))
 rintro u R ⟨ys,hys,rfl⟩
 repeat' (first|refine d1 ?_|refine dd ?_|(show ∀ _:Nat,T _ _ _ _ _;intro _))
 exact T_retV (vs:=[]) _ rfl (Hle.refl _) ⟨ys,hys,rfl⟩
end Go.Proofs.YtabhdaehomjlgaaGreat
namespace Go.Proofs.YtabhdaehomjlgaaGreat
open Go.RowKit Go.Shelf Go.Proofs
set_option maxRecDepth 100000
set_option maxHeartbeats 2000000

theorem compareStr_spec (a b:ByteArray) (w:World):Spec Tryz.prog 143 [.string a, .string b] w (fun v A=>v = .int .i64 (cmpB a b)∧A=[]) :=
 Calls.spec (enters_of rfl rfl rfl) (Tryz.strings_Compare a b w)
theorem keyN:MKey Tryz.prog 92 ptrK goodP:=key_ptr Tryz.underlying92 (by rfl) (by decide)
def putL (l:List (Option Nat × Value)) (y:Ln):List (Option Nat × Value):=mput l (some (lnB y)) (.string (lsN (er y)))
def mapL (ls:List Ln):List (Option Nat × Value):=ls.foldl putL []
theorem mput_keys {α:Type} [DecidableEq α] {a:α} {v:Value}:∀ {l:List (α × Value)} {p:α × Value},p∈mput l a v→p.1=a∨∃ q∈l,p.1=q.1
 | [],p,h=>by
  rw [mput,List.mem_singleton] at h
  rw [h];exact .inl rfl
 | q::l,p,h=>by
  unfold mput at h
  split at h
  ·rename_i e
   rcases List.mem_cons.1 h with rfl|h
   ·exact .inl e.symm
   ·exact .inr ⟨p, .tail _ h,rfl⟩
  ·rcases List.mem_cons.1 h with rfl|h
   ·exact .inr ⟨p, .head _,rfl⟩
   ·rcases mput_keys h with e|⟨r,hr,e⟩
    ·exact .inl e
    ·exact .inr ⟨r, .tail _ hr,e⟩
theorem mapL_snoc (ls:List Ln) (y:Ln):mapL (ls++[y])=putL (mapL ls) y:=by unfold mapL;rw [List.foldl_append];rfl
theorem foldL_keys:∀ (ls:List Ln) (acc:List (Option Nat × Value)) (p:Option Nat × Value),p∈ls.foldl putL acc→(∃ y∈ls,p.1=some (lnB y))∨∃ q∈acc,p.1=q.1
 | [],acc,p,h => .inr ⟨p,h,rfl⟩
 | y::ls,acc,p,h=>by
  rcases foldL_keys ls (putL acc y) p h with⟨z,hz,e⟩|⟨q,hq,e⟩
  ·exact .inl ⟨z, .tail _ hz,e⟩
  ·rcases mput_keys hq with e2|⟨r,hr,e2⟩
   ·exact .inl ⟨y, .head _,e.trans e2⟩
   ·exact .inr ⟨r,hr,e.trans e2⟩
theorem mapL_keys {ls:List Ln} {p:Option Nat × Value} (h:p∈mapL ls):∃ y∈ls,p.1=some (lnB y):=by
 rcases foldL_keys ls [] p h with h|⟨q,hq,_⟩
 ·exact h
 ·cases hq
theorem bksL_kid {ls:List Ln} {y:Ln} (h:y∈ls):lnB y∈bksL ls:=by
 rw [bksL_flat]
 exact List.mem_flatMap.2 ⟨y,h,lnB_mem y⟩
theorem lnB_nodup:∀ {ls:List Ln},(bksL ls).Nodup→(ls.map lnB).Nodup
 | [],_=>List.nodup_nil
 | k::r,h=>by
  rw [bksL,List.nodup_append] at h
  rw [List.map_cons,List.nodup_cons]
  refine ⟨fun hm=>?_,lnB_nodup h.2.1⟩
  obtain⟨y,hy,e⟩:=List.mem_map.1 hm
  exact h.2.2 _ (lnB_mem k) _ (bksL_kid hy) e.symm
theorem foldL_get:∀ (ls:List Ln) (acc:List (Option Nat × Value)) (b:Nat),(ls.map lnB).Nodup→(b ∉ ls.map lnB→mget (ls.foldl putL acc) (some b)=mget acc (some b))∧∀ y∈ls,lnB y=b→mget (ls.foldl putL acc) (some b)=some (.string (lsN (er y)))
 | [],acc,b,_=>⟨fun _=>rfl,fun y hy=>(by cases hy)⟩
 | z::ls,acc,b,h=>by
  rw [List.map_cons,List.nodup_cons] at h
  obtain⟨h1,h2⟩:=foldL_get ls (putL acc z) b h.2
  refine ⟨fun hb=>?_,fun y hy e=>?_⟩
  ·rw [List.map_cons,List.mem_cons,not_or] at hb
   show mget (ls.foldl putL (putL acc z)) (some b)=_
   rw [h1 hb.2]
   unfold putL
   rw [mget_put,if_neg (by intro e;exact hb.1 (Option.some.inj e))]
  ·show mget (ls.foldl putL (putL acc z)) (some b)=_
   cases hy with
   | head =>
    rw [h1 (by rw [← e];exact h.1)]
    unfold putL
    rw [mget_put,if_pos (by rw [e])]
   | tail _ hy=>exact h2 y hy e
theorem mapL_get {ls:List Ln} (h:(bksL ls).Nodup) {y:Ln} (hy:y∈ls):mget (mapL ls) (some (lnB y))=some (.string (lsN (er y))):=(foldL_get ls [] (lnB y) (lnB_nodup h)).2 y hy rfl
theorem trs_perm {tN tP:TypeId} {l m:List Ln} (h:l.Perm m):∀ {H:List HA},Hle (trs tN tP l::H) (trs tN tP m::H):=by
 induction h with
 | nil=>intro H;exact Hle.refl _
 | cons x _ ih =>
  intro H
  show Hle (jn _ _::H) (jn _ _::H)
  exact hle_part.trans (hle_swap.trans (ih.trans (hle_swap.trans hle_jn)))
 | swap x y l =>
  intro H
  show Hle (jn _ (jn _ _)::H) (jn _ (jn _ _)::H)
  refine hle_part.trans (hle_swap.trans (hle_part.trans ?_))
  -- x,l,y
  refine Hle.trans ?_ (hle_jn)
  refine Hle.trans ?_ hle_swap
  refine Hle.trans ?_ hle_jn
  exact hle_pm [2,1,0] [tre tN tP x,trs tN tP l,tre tN tP y] H
 | trans _ _ ih1 ih2=>intro H;exact ih1.trans ih2
theorem rdBlk8 {w0 w:World} {H:List HA} {b:Nat} {cs:List Value} {t:TypeId} {rb:HA→List HA} (hw:Cls w0 w H) [hf:Focus H b cs t rb]:RdC w b 0 cs:=by
 obtain⟨i,hi,_⟩:=hf.at_
 exact RdC.own hw hi (fun j u hu=>by simpa using hu)
theorem sortedC_spec (p3 mb:Nat) (l:List (Option Nat × Value)) (a b:Nat) (sa sb:ByteArray) (w:World) (h3:RdC w p3 0 [.map (some mb)]) (hm:mapAt w ptrK mb l) (hga:goodP w (some a)) (hgb:goodP w (some b)) (hgl:∀ p∈l,goodP w p.1)
  (ha:mget l (some a)=some (.string sa)) (hb:mget l (some b)=some (.string sb)) :
  Spec Tryz.prog 142 [ptrK (some a),ptrK (some b), .pointer (some ⟨p3,0,none⟩)] w (fun v R=>v = .int .i64 (cmpB sa sb)∧R=[]):=by
 refine spec_of sg Tryz.func142 rfl rfl rfl ?_
 repeat' (first|refine d1 ?_|refine dd ?_|(show T _ (.ops _ (_::_)::_) _ _ _;first|refine T_val rfl (Val.lookupO (a:=some a) (inj:=ptrK) rfl Tryz.underlying182 keyN rfl rfl (fun w hw=>hm.old hw) (fun w hw=>⟨hga.old hw,fun p hp=>(hgl p hp).old hw⟩)) rfl rfl rfl ?_|refine T_valC rfl (Val.lookupO (a:=some a) (inj:=ptrK) rfl Tryz.underlying182 keyN rfl rfl (fun w hw=>hm.old hw) (fun w hw=>⟨hga.old hw,fun p hp=>(hgl p hp).old hw⟩)) rfl rfl rfl rfl rfl ?_|refine T_val rfl (Val.lookupO (a:=some b) (inj:=ptrK) rfl Tryz.underlying182 keyN rfl rfl (fun w hw=>hm.old hw) (fun w hw=>⟨hgb.old hw,fun p hp=>(hgl p hp).old hw⟩)) rfl rfl rfl ?_|refine T_valC rfl (Val.lookupO (a:=some b) (inj:=ptrK) rfl Tryz.underlying182 keyN rfl rfl (fun w hw=>hm.old hw) (fun w hw=>⟨hgb.old hw,fun p hp=>(hgl p hp).old hw⟩)) rfl rfl rfl rfl rfl ?_)|(show T _ (.run _ _ (_::_) _ _::_) _ _ _;first|refine rv rfl rfl rfl (Val.lookupO (a:=some a) (inj:=ptrK) rfl Tryz.underlying182 keyN rfl rfl (fun w hw=>hm.old hw) (fun w hw=>⟨hga.old hw,fun p hp=>(hgl p hp).old hw⟩)) rfl rfl rfl ?_|refine rg rfl rfl rfl (Val.lookupO (a:=some a) (inj:=ptrK) rfl Tryz.underlying182 keyN rfl rfl (fun w hw=>hm.old hw) (fun w hw=>⟨hga.old hw,fun p hp=>(hgl p hp).old hw⟩)) rfl rfl rfl rfl rfl ?_|refine rv rfl rfl rfl (Val.lookupO (a:=some b) (inj:=ptrK) rfl Tryz.underlying182 keyN rfl rfl (fun w hw=>hm.old hw) (fun w hw=>⟨hgb.old hw,fun p hp=>(hgl p hp).old hw⟩)) rfl rfl rfl ?_|refine rg rfl rfl rfl (Val.lookupO (a:=some b) (inj:=ptrK) rfl Tryz.underlying182 keyN rfl rfl (fun w hw=>hm.old hw) (fun w hw=>⟨hgb.old hw,fun p hp=>(hgl p hp).old hw⟩)) rfl rfl rfl rfl rfl ?_)|(show ∀ _:Nat,T _ _ _ _ _;intro _))
 rw [ha,hb]
 repeat' (first|refine d1 ?_|refine dd ?_|(show T _ (.ops _ (_::_)::_) _ _ _;first|refine T_call rfl rfl rfl rfl rfl (fun w hw=>compareStr_spec sa sb w) ?_|refine T_callC rfl rfl rfl rfl rfl rfl rfl (fun hg w hw=>compareStr_spec sa sb w) ?_)|(show T _ (.run _ _ (_::_) _ _::_) _ _ _;first|refine rc rfl rfl rfl rfl rfl rfl rfl (fun w hw=>compareStr_spec sa sb w) ?_|refine rcG rfl rfl rfl rfl rfl rfl rfl rfl rfl (fun hg w hw=>compareStr_spec sa sb w) ?_)|(show ∀ _:Nat,T _ _ _ _ _;intro _)|(show T _ (.code .ret::_) _ _ _;refine T_retV [] rfl (Hle.refl _) ⟨rfl,rfl⟩))
theorem hle_td1 {A B C D E:HA} {H:List HA}:Hle (A::B::C::D::E::H) (D::E::C::A::B::H):=hle_pm [3,4,2,0,1] [A,B,C,D,E] H
theorem sorted_spec:∀ (m:Nat) (x:Ln) (w0:World) (K:List HA),szN x≤m→m≤100000→(nmsN (er x)).Nodup→(nmsN (er x)).length≤12 →
  SpecB Tryz.prog 102 [lnV x] w0 (tre 97 92 x::K) (fun v R=>∃ y:Ln,er y=srtN (er x)∧lnB y=lnB x∧v = .string (lsN (er x))∧R=tre 97 92 y::K)
 | 0,x,_,_,h,_,_,_=>by have:=szN_pos x;omega
 | m+1, .mk b A c a o ks,w0,K,hm,hmb,hnd,h12=>by
  have hkl:=szN_len ks
  rw [szN_mk] at hm
  refine specB_of sg Tryz.func102 rfl rfl rfl ?_
  rw [show lnV (Ln.mk b A c a o ks) = .pointer (some ⟨b,0,none⟩) from rfl]
  refine T_le hle_open ?_
  repeat' (first|refine d1 ?_|refine dd ?_|(show T _ (.ops _ (_::_)::_) _ _ _;first|refine T_val rfl (Val.nilc rfl) rfl rfl rfl ?_|refine T_valC rfl (Val.nilc rfl) rfl rfl rfl rfl rfl ?_)|(show T _ (.run _ _ (_::_) _ _::_) _ _ _;first|refine rv rfl rfl rfl (Val.nilc rfl) rfl rfl rfl ?_|refine rg rfl rfl rfl (Val.nilc rfl) rfl rfl rfl rfl rfl ?_)|(show ∀ _:Nat,T _ _ _ _ _;intro _))
  refine T_if rfl (fun h1=>?_) (fun h1=>?_)
  ·simp only [decide_eq_true_eq] at h1
   obtain rfl:ks=[]:=List.eq_nil_of_length_eq_zero (by omega)
   have e0:er (Ln.mk b A c a o []) = .mk a o []:=by rw [er_mk];rfl
   repeat' (first|refine d1 ?_|refine dd ?_|(show T _ (.ops _ (_::_)::_) _ _ _;first|refine T_val rfl (Val.nilc rfl) rfl rfl rfl ?_|refine T_valC rfl (Val.nilc rfl) rfl rfl rfl rfl rfl ?_)|(show T _ (.run _ _ (_::_) _ _::_) _ _ _;first|refine rv rfl rfl rfl (Val.nilc rfl) rfl rfl rfl ?_|refine rg rfl rfl rfl (Val.nilc rfl) rfl rfl rfl rfl rfl ?_)|(show ∀ _:Nat,T _ _ _ _ _;intro _)|(show T _ (.code .ret::_) _ _ _;refine T_retV _ rfl (hle_shut rfl rfl) ⟨.mk b A c a o [],by rw [e0];rfl,rfl,by rw [e0,lsN_leaf];rfl,rfl⟩))
  simp only [decide_eq_false_iff_not] at h1
  have hks0:ks.map er≠[]:=fun e=>h1 (by rw [List.map_eq_nil_iff.1 e];rfl)
  rw [er_mk,nmsN_node hks0] at hnd h12
  have hk12:ks.length≤12:=by have:=kids_le_lvs (ks.map er);rw [List.length_map] at this;omega
  repeat' (first|refine d1 ?_|(show T _ (.ops _ (_::_)::_) _ _ _;first|refine T_op (OpT.makeMap (inj:=ptrK) rfl rfl rfl rfl rfl (fun mb=>?_))|refine T_val rfl (Val.nilc rfl) rfl rfl rfl ?_|refine T_valC rfl (Val.nilc rfl) rfl rfl rfl rfl rfl ?_)|(show T _ (.run _ _ (_::_) _ _::_) _ _ _;first|refine rv rfl rfl rfl (Val.nilc rfl) rfl rfl rfl ?_|refine rg rfl rfl rfl (Val.nilc rfl) rfl rfl rfl rfl rfl ?_)|(show ∀ _:Nat,T _ _ _ _ _;intro _))
  rename_i p3
  refine T_le (H':=row 92 1 A c ks.length (ks.map lnV)::trs 97 92 ([]++ks)::blk b [.string a, .slice A ks.length c, .int .i64 o] 97::blk p3 [.map (some mb)] 182::mph ptrK mb (mapL [])::K) hle_td1 ?_
  refine T_loopX (fun s:List Ln × List Ln=>[(22, .int .i64 (s.1.length:Nat))]) (fun s=>row 92 1 A c ks.length (ks.map lnV)::trs 97 92 (s.1++s.2)::blk b [.string a, .slice A ks.length c, .int .i64 o] 97::blk p3 [.map (some mb)] 182::mph ptrK mb (mapL s.1)::K)
   (fun s=>∃ pre,ks=pre++s.2∧s.1.map er=pre.map (fun k=>srtN (er k))∧s.1.map lnB=pre.map lnB) (fun s=>s.2.length) ([],ks) ⟨[],rfl,rfl,rfl⟩ ?_
  rintro⟨ls,rs⟩ ⟨pre,hks,hmap,hmb9⟩
  dsimp only at hks hmap hmb9 ⊢
  have hpl:ls.length=pre.length:=by have:=congrArg List.length hmap;simpa using this
  have hn:ks.length=ls.length+rs.length:=by rw [hks,List.length_append];omega
  repeat' (first|refine d1 ?_|refine dd ?_|(show ∀ _:Nat,T _ _ _ _ _;intro _))
  refine T_if rfl (fun h5=>?_) (fun h5=>?_)
  ·simp only [decide_eq_true_eq] at h5
   obtain⟨k,rs',rfl⟩:∃ k rs',rs=k::rs':=by
    cases rs with
    | nil=>simp at hn;omega
    | cons k r=>exact⟨k,r,rfl⟩
   have hkin:k∈ks:=by rw [hks];exact List.mem_append_right _ (.head _)
   have hkm:=szN_kid hkin
   have hsubl:(nmsN (er k)).Sublist ((ks.map er).flatMap nmsN):=by
    rw [hks,List.map_append,List.flatMap_append,List.map_cons,List.flatMap_cons]
    exact (List.sublist_append_left _ _).trans (List.sublist_append_right _ _)
   refine T_rowAt (by omega) ?_
   rintro g rfl
   refine T_le (hle_swap.trans hle_focus) ?_
   repeat' (first|refine d1 ?_|(show T _ (.ops _ (_::_)::_) _ _ _;first|refine T_val rfl (Val.load rfl (fun hg=>rdRow (A:=some ⟨g,0,none⟩) (vs:=[lnV k]) (by omega) (by rw [hks];exact getV (by omega) hpl))) rfl rfl rfl ?_|refine T_valC rfl (Val.load rfl (fun hg=>rdRow (A:=some ⟨g,0,none⟩) (vs:=[lnV k]) (by omega) (by rw [hks];exact getV (by omega) hpl))) rfl rfl rfl rfl rfl ?_)|(show T _ (.run _ _ (_::_) _ _::_) _ _ _;first|refine rv rfl rfl rfl (Val.load rfl (fun hg=>rdRow (A:=some ⟨g,0,none⟩) (vs:=[lnV k]) (by omega) (by rw [hks];exact getV (by omega) hpl))) rfl rfl rfl ?_|refine rg rfl rfl rfl (Val.load rfl (fun hg=>rdRow (A:=some ⟨g,0,none⟩) (vs:=[lnV k]) (by omega) (by rw [hks];exact getV (by omega) hpl))) rfl rfl rfl rfl rfl ?_)|(show ∀ _:Nat,T _ _ _ _ _;intro _))
   refine rsH [blk p3 [.map (some mb)] 182] 1000 [0,1,2,3,4] ?_
   repeat' (first|refine d1 ?_|refine dd ?_|(show ∀ _:Nat,T _ _ _ _ _;intro _))
   refine ro rfl rfl (OpT.callB rfl rfl rfl rfl rfl (sorted_spec m k w0 _ (by omega) (by omega) (hnd.sublist hsubl) (Nat.le_trans hsubl.length_le h12)) ?_)
   rintro u R ⟨y,hy,hyb,rfl,rfl⟩
   refine ⟨fun _=>(Hle.tail _ _).trans ((Hle.tail _ _).trans ((Hle.tail _ _).trans ((Hle.tail _ _).trans ((Hle.tail _ _).trans (Hle.append_left (A:=[_]) _))))),?_⟩
   refine T_le hle_unfocus ?_
   refine roM rfl (by decide +kernel) (OpT.mapUp (inj:=ptrK) (a:=some (lnB k)) (v := .string (lsN (er k))) rfl rfl rfl Tryz.underlying182 keyN (fun w hw=>?_) ⟨fun _=>(Hle.tail _ _).trans ((Hle.tail _ _).trans ((Hle.tail _ _).trans (Hle.append_left (A:=[_]) _))),?_⟩)
   ·obtain⟨hc,-⟩:=hw.trees (ks:=ls++y::rs')
    refine ⟨?_,fun p hp=>?_⟩
    ·rw [← hyb];exact hc _ (bksL_kid (List.mem_append_right _ (.head _)))
    ·obtain⟨z,hz,e⟩:=mapL_keys hp
     rw [e];exact hc _ (bksL_kid (List.mem_append_left _ hz))
   repeat' (first|refine d1 ?_|refine dd ?_|(show ∀ _:Nat,T _ _ _ _ _;intro _))
   refine T_backX (ls++[y],rs') ⟨pre++[k],?_,?_,?_⟩ ?_ (hE:=⟨?_,trivial⟩) (hG:=?_)
   ·dsimp only;rw [hks,List.append_assoc];rfl
   ·dsimp only;rw [List.map_append,List.map_append,hmap,List.map_singleton,hy];rfl
   ·dsimp only;rw [List.map_append,List.map_append,hmb9,List.map_singleton,hyb];rfl
   ·dsimp only;rw [List.length_cons];omega
   ·dsimp only;rw [List.length_append];rfl
   ·dsimp only
    rw [mapL_snoc,List.append_assoc]
    have e9:putL (mapL ls) y=mput (mapL ls) (some (lnB k)) (.string (lsN (er k))):=by unfold putL;rw [hyb,hy,srtN_ls]
    rw [e9]
    exact hle_swap
  simp only [decide_eq_false_iff_not] at h5
  have hrs:rs=[]:=List.eq_nil_of_length_eq_zero (by omega)
  subst hrs
  rw [List.append_nil] at hks ⊢
  subst hks
  have hlv:ks.map lnV=ls.map lnV:=by
   have e1:ks.map lnV=(ks.map lnB).map fun b=>ptrK (some b):=by rw [List.map_map];rfl
   have e2:ls.map lnV=(ls.map lnB).map fun b=>ptrK (some b):=by rw [List.map_map];rfl
   rw [e1,e2,hmb9]
  rw [hlv]
  refine T_fact (fun w hw=>(hw.trees (ks:=ls)).2) (fun hbn=>?_)
  refine T_rowAt (by omega) ?_
  rintro g rfl
  repeat' (first|refine d1 ?_|refine dd ?_|(show T _ (.ops _ (_::_)::_) _ _ _;first|refine T_val rfl (Val.nilc rfl) rfl rfl rfl ?_|refine T_valC rfl (Val.nilc rfl) rfl rfl rfl rfl rfl ?_)|(show T _ (.run _ _ (_::_) _ _::_) _ _ _;first|refine rv rfl rfl rfl (Val.nilc rfl) rfl rfl rfl ?_|refine rg rfl rfl rfl (Val.nilc rfl) rfl rfl rfl rfl rfl ?_)|(show ∀ _:Nat,T _ _ _ _ _;intro _))
  refine T_op (OpT.callB rfl rfl rfl rfl rfl (sortFN_spec g c ks.length ls 142 [.pointer (some ⟨p3,0,none⟩)] (fun x y=>cmpB (lsN (er x)) (lsN (er y))) (fun x y=>leB (lsN (er x)) (lsN (er y))) w0 _ (by omega) (by omega) hk12 (fun w hH x hx y hy=>?_) (fun _ _ _=>leB_trans) (fun _ _=>leB_of_lt) (fun _ _=>leB_of_ge)) ?_)
  ·obtain⟨H,hw⟩:=hH
   have hw':=hw.le (Hle.append_right (K:=[]) H)
   obtain⟨hc,-⟩:=hw'.trees (ks:=ls)
   exact sortedC_spec p3 mb (mapL ls) (lnB x) (lnB y) (lsN (er x)) (lsN (er y)) w (rdBlk8 hw') hw'.mapOf (hc _ (bksL_kid hx)) (hc _ (bksL_kid hy)) (fun p hp=>by obtain⟨z,hz,e⟩:=mapL_keys hp;rw [e];exact hc _ (bksL_kid hz)) (mapL_get hbn hx) (mapL_get hbn hy)
  rintro u R ⟨ys,⟨hperm,hsort⟩,rfl⟩
  have hyl:ys.length=ks.length:=by rw [hperm.length_eq];omega
  obtain⟨y0,yr,rfl⟩:∃ y0 yr,ys=y0::yr:=by
   cases ys with
   | nil=>simp at hyl;omega
   | cons y0 yr=>exact⟨y0,yr,rfl⟩
  refine T_le (hle_swap.trans ((trs_perm hperm.symm).trans hle_swap)) ?_
  have hpw:((y0::yr).map er).Pairwise leN:=by
   rw [List.pairwise_map,List.pairwise_iff_getElem]
   intro p q hp hq hpq
   have h9:=hsort p q hpq (by omega)
   rw [List.getD_eq_getElem?_getD,List.getD_eq_getElem?_getD,List.getElem?_eq_getElem hp,List.getElem?_eq_getElem hq] at h9
   exact h9
  have hpe:((y0::yr).map er).Perm ((ks.map er).map srtN):=by
   have h9:=hperm.map er
   rw [hmap] at h9
   rw [List.map_map];exact h9
  have hsk:(y0::yr).map er=sortK ((ks.map er).map srtN):=by
   refine sortK_unique hpe hpw (lsN_inj ?_)
   rw [List.flatMap_map]
   exact (flatMap_perm2 fun x _=>srtN_nms x).nodup_iff.2 hnd
  have hls0:lsN (.mk a o (ks.map er))=lsN (er y0):=by
   rw [← srtN_ls,srtN_mk, ← hsk,List.map_cons]
   refine lsN_first fun y hy=>?_
   rw [List.map_cons] at hpw
   exact (List.pairwise_cons.1 hpw).1 y hy
  repeat' (first|refine d1 ?_|refine dd ?_|(show T _ (.ops _ (_::_)::_) _ _ _;first|refine T_val rfl (Val.nilc rfl) rfl rfl rfl ?_|refine T_valC rfl (Val.nilc rfl) rfl rfl rfl rfl rfl ?_|refine T_val rfl (Val.load rfl (fun hg=>rdRow (A:=some ⟨g,0,none⟩) (vs:=[lnV y0]) (by omega) (getV (ls:=[]) rfl rfl))) rfl rfl rfl ?_|refine T_valC rfl (Val.load rfl (fun hg=>rdRow (A:=some ⟨g,0,none⟩) (vs:=[lnV y0]) (by omega) (getV (ls:=[]) rfl rfl))) rfl rfl rfl rfl rfl ?_|refine T_val rfl (Val.lookup (a:=some (lnB y0)) (inj:=ptrK) rfl Tryz.underlying182 keyN rfl rfl (fun w hw=>by obtain⟨hc,-⟩:=hw.trees (ks:=y0::yr);exact⟨hc _ (bksL_kid (.head _)),fun p hp=>by obtain⟨z,hz,e⟩:=mapL_keys hp;rw [e];exact hc _ (bksL_kid (hperm.mem_iff.2 hz))⟩)) rfl rfl rfl ?_|refine T_valC rfl (Val.lookup (a:=some (lnB y0)) (inj:=ptrK) rfl Tryz.underlying182 keyN rfl rfl (fun w hw=>by obtain⟨hc,-⟩:=hw.trees (ks:=y0::yr);exact⟨hc _ (bksL_kid (.head _)),fun p hp=>by obtain⟨z,hz,e⟩:=mapL_keys hp;rw [e];exact hc _ (bksL_kid (hperm.mem_iff.2 hz))⟩)) rfl rfl rfl rfl rfl ?_)|(show T _ (.run _ _ (_::_) _ _::_) _ _ _;first|refine rv rfl rfl rfl (Val.nilc rfl) rfl rfl rfl ?_|refine rg rfl rfl rfl (Val.nilc rfl) rfl rfl rfl rfl rfl ?_|refine rv rfl rfl rfl (Val.load rfl (fun hg=>rdRow (A:=some ⟨g,0,none⟩) (vs:=[lnV y0]) (by omega) (getV (ls:=[]) rfl rfl))) rfl rfl rfl ?_|refine rg rfl rfl rfl (Val.load rfl (fun hg=>rdRow (A:=some ⟨g,0,none⟩) (vs:=[lnV y0]) (by omega) (getV (ls:=[]) rfl rfl))) rfl rfl rfl rfl rfl ?_|refine rv rfl rfl rfl (Val.lookup (a:=some (lnB y0)) (inj:=ptrK) rfl Tryz.underlying182 keyN rfl rfl (fun w hw=>by obtain⟨hc,-⟩:=hw.trees (ks:=y0::yr);exact⟨hc _ (bksL_kid (.head _)),fun p hp=>by obtain⟨z,hz,e⟩:=mapL_keys hp;rw [e];exact hc _ (bksL_kid (hperm.mem_iff.2 hz))⟩)) rfl rfl rfl ?_|refine rg rfl rfl rfl (Val.lookup (a:=some (lnB y0)) (inj:=ptrK) rfl Tryz.underlying182 keyN rfl rfl (fun w hw=>by obtain⟨hc,-⟩:=hw.trees (ks:=y0::yr);exact⟨hc _ (bksL_kid (.head _)),fun p hp=>by obtain⟨z,hz,e⟩:=mapL_keys hp;rw [e];exact hc _ (bksL_kid (hperm.mem_iff.2 hz))⟩)) rfl rfl rfl rfl rfl ?_)|(show ∀ _:Nat,T _ _ _ _ _;intro _))
  rw [mapL_get hbn (hperm.mem_iff.1 (.head _))]
  repeat' (first|refine d1 ?_|refine dd ?_|(show ∀ _:Nat,T _ _ _ _ _;intro _)|(show T _ (.code .ret::_) _ _ _;refine T_retV _ rfl ((show Hle (_::_::_::_::_::K) _ from hle_pm [2,0,1] [_,_,_,_,_] K).trans (hle_shut (by omega) rfl)) ⟨.mk b (some ⟨g,0,none⟩) c a o (y0::yr),by rw [er_mk,er_mk,srtN_mk,hsk],rfl,by rw [er_mk,hls0];rfl,rfl⟩))
end Go.Proofs.YtabhdaehomjlgaaGreat
namespace Go.Proofs.YtabhdaehomjlgaaGreat
open Go.RowKit Go.Shelf Go.Proofs
set_option maxRecDepth 100000
set_option maxHeartbeats 1000000

def QB (XS:List (Nat × Option Nat)) (j:Nat) (x:List Value) (B:List HA):Prop:=∃ q:Nat × Option Nat,XS[j]?=some q∧x=[ptrK (some q.1),ptrK q.2]∧B=[]
theorem cntNL_app:∀ (a b:List Nd),cntNL (a++b)=cntNL a+cntNL b
 | [],b=>by rw [List.nil_append,cntNL,Nat.zero_add]
 | k::r,b=>by rw [List.cons_append,cntNL,cntNL,cntNL_app r b,Nat.add_assoc]
theorem belowR_spec {w0:World} {l:Nat} {GQ:Nat→List HA→Prop} {X:List HA→Prop} {XS:List (Nat × Option Nat)} {pz:Frag} (hz:∀ j H,GQ j H→Hle H [fz pz]) (hY:YieldsO Tryz.prog w0 l GQ X (QB XS) XS.length) (t2 t3:Nat) :
  ∀ (m:Nat) (x:Ln) (p:Option Nat) (j:Nat) (Hj:List HA),szN x≤m→m≤100000→tR (fr pz) x→subAt XS j (pre p x)→GQ j Hj →
  SpecB Tryz.prog 173 [lnV x,ptrK p, .pointer (some ⟨t2,0,none⟩), .pointer (some ⟨t3,0,none⟩)] w0
   (blk t2 [yv l] 209::blk t3 [.func (.func 173) #[] #[.pointer (some ⟨t2,0,none⟩), .pointer (some ⟨t3,0,none⟩)]] 209::Hj)
   (fun v R=>(∃ H',GQ (j+cntN (er x)) H'∧v = .bool true∧R=blk t2 [yv l] 209::blk t3 [.func (.func 173) #[] #[.pointer (some ⟨t2,0,none⟩), .pointer (some ⟨t3,0,none⟩)]] 209::H') ∨
    ∃ Y,X Y∧v = .bool false∧R=blk t2 [yv l] 209::blk t3 [.func (.func 173) #[] #[.pointer (some ⟨t2,0,none⟩), .pointer (some ⟨t3,0,none⟩)]] 209::Y)
 | 0,x,_,_,_,h,_,_,_,_=>by have:=szN_pos x;omega
 | m+1, .mk b A c a o ks,p,j,Hj,hm,hmb,ht,hs,hG=>by
  have hkl:=szN_len ks
  rw [szN_mk] at hm
  obtain⟨⟨-,h11,-⟩,h4,h5,h6⟩:=ht
  have hlen:=pre_len (Ln.mk b A c a o ks) p
  obtain⟨hs0,hs1⟩:=hs.cons
  refine specB_of sg Tryz.func173 rfl rfl rfl ?_
  rw [show lnV (Ln.mk b A c a o ks)=ptrK (some b) from rfl]
  generalize hcl:(Value.func (.func 173) #[] #[.pointer (some ⟨t2,0,none⟩), .pointer (some ⟨t3,0,none⟩)])=cl
  repeat' (first|refine d1 ?_|refine dd ?_|(show T _ (.ops _ (_::_)::_) _ _ _;refine T_op (OpT.yieldF [] [blk t2 [yv l] 209,blk t3 [cl] 209] hY rfl rfl (fun _ _=>Holds.nil _ _) rfl rfl rfl (show j<XS.length from (List.getElem?_eq_some_iff.1 hs0).1) ⟨_,hs0,rfl,rfl⟩ hG (Hle.comm [_,_] Hj) (fun H2 hG2=>?_) (fun Y hX=>?_)))|(show ∀ _:Nat,T _ _ _ _ _;intro _))
  ·show T _ _ _ _ (blk t2 [yv l] 209::blk t3 [cl] 209::H2)
   repeat' (first|refine d1 ?_|refine dd ?_|(show ∀ _:Nat,T _ _ _ _ _;intro _))
   refine T_if rfl (fun h3=>by exfalso;simp at h3) (fun _=>?_)
   have hzz:=hz _ _ hG2
   rw [show ptrK (some b) = .pointer (some ⟨b,0,none⟩) from rfl]
   repeat' (first|refine d1 ?_|refine dd ?_|(show T _ (.ops _ (_::_)::_) _ _ _;first|refine T_val rfl (Val.nilc rfl) rfl rfl rfl ?_|refine T_valC rfl (Val.nilc rfl) rfl rfl rfl rfl rfl ?_|refine T_val rfl (Val.load rfl (fun hg=>(fun w hw=>rdRz (fun _ _ h=>h) (hw.le ((Hle.tail _ _).trans ((Hle.tail _ _).trans hzz))) h11))) rfl rfl rfl ?_|refine T_valC rfl (Val.load rfl (fun hg=>(fun w hw=>rdRz (fun _ _ h=>h) (hw.le ((Hle.tail _ _).trans ((Hle.tail _ _).trans hzz))) h11))) rfl rfl rfl rfl rfl ?_)|(show T _ (.run _ _ (_::_) _ _::_) _ _ _;first|refine rv rfl rfl rfl (Val.nilc rfl) rfl rfl rfl ?_|refine rg rfl rfl rfl (Val.nilc rfl) rfl rfl rfl rfl rfl ?_|refine rv rfl rfl rfl (Val.load rfl (fun hg=>(fun w hw=>rdRz (fun _ _ h=>h) (hw.le ((Hle.tail _ _).trans ((Hle.tail _ _).trans hzz))) h11))) rfl rfl rfl ?_|refine rg rfl rfl rfl (Val.load rfl (fun hg=>(fun w hw=>rdRz (fun _ _ h=>h) (hw.le ((Hle.tail _ _).trans ((Hle.tail _ _).trans hzz))) h11))) rfl rfl rfl rfl rfl ?_)|(show ∀ _:Nat,T _ _ _ _ _;intro _))
   refine T_loopX (fun s:(List Ln × List Ln) × List HA=>[(19, .int .i64 (s.1.1.length:Nat))]) (fun s=>blk t2 [yv l] 209::blk t3 [cl] 209::s.2)
    (fun s=>ks=s.1.1++s.1.2∧GQ (j+1+cntNL (s.1.1.map er)) s.2∧subAt XS (j+1+cntNL (s.1.1.map er)) (preL (some b) s.1.2)) (fun s=>s.1.2.length) (([],ks),H2) ⟨rfl,hG2,hs1⟩ ?_
   rintro⟨⟨ls,rs⟩,H3⟩ ⟨hks,hG3,hs3⟩
   dsimp only at hks hG3 hs3 ⊢
   have hn:ks.length=ls.length+rs.length:=by rw [hks,List.length_append]
   repeat' (first|refine d1 ?_|refine dd ?_|(show ∀ _:Nat,T _ _ _ _ _;intro _))
   refine T_if rfl (fun h7=>?_) (fun h7=>?_)
   ·simp only [decide_eq_true_eq] at h7
    obtain⟨k,r,rfl⟩:∃ k r,rs=k::r:=by
     cases rs with
     | nil=>simp at hn;omega
     | cons k r=>exact⟨k,r,rfl⟩
    have hkm:=szN_kid (ks:=ks) (k:=k) (by rw [hks];exact List.mem_append_right _ (.head _))
    have hkt:tR (fr pz) k:=tRL_get h6 (by rw [hks];exact List.mem_append_right _ (.head _))
    obtain⟨g,rfl,hg⟩:=h5 (by omega)
    have hgk:=hg ls.length k (by rw [hks,List.getElem?_append_right (Nat.le_refl _),Nat.sub_self];rfl)
    have hz3:=hz _ _ hG3
    obtain⟨hsk,hsr⟩:=hs3.app
    repeat' (first|refine d1 ?_|refine dd ?_|(show T _ (.ops _ (_::_)::_) _ _ _;first|refine T_val rfl (Val.load rfl (fun hg=>(fun w hw=>rdRz (fun _ _ h=>h) (hw.le ((Hle.tail _ _).trans ((Hle.tail _ _).trans hz3))) (b:=g) (o:=0+(ls.length:Int).toNat * 1) (by rw [show 0+(ls.length:Int).toNat * 1=ls.length by omega];exact hgk)))) rfl rfl rfl ?_|refine T_valC rfl (Val.load rfl (fun hg=>(fun w hw=>rdRz (fun _ _ h=>h) (hw.le ((Hle.tail _ _).trans ((Hle.tail _ _).trans hz3))) (b:=g) (o:=0+(ls.length:Int).toNat * 1) (by rw [show 0+(ls.length:Int).toNat * 1=ls.length by omega];exact hgk)))) rfl rfl rfl rfl rfl ?_)|(show T _ (.run _ _ (_::_) _ _::_) _ _ _;first|refine rv rfl rfl rfl (Val.load rfl (fun hg=>(fun w hw=>rdRz (fun _ _ h=>h) (hw.le ((Hle.tail _ _).trans ((Hle.tail _ _).trans hz3))) (b:=g) (o:=0+(ls.length:Int).toNat * 1) (by rw [show 0+(ls.length:Int).toNat * 1=ls.length by omega];exact hgk)))) rfl rfl rfl ?_|refine rg rfl rfl rfl (Val.load rfl (fun hg=>(fun w hw=>rdRz (fun _ _ h=>h) (hw.le ((Hle.tail _ _).trans ((Hle.tail _ _).trans hz3))) (b:=g) (o:=0+(ls.length:Int).toNat * 1) (by rw [show 0+(ls.length:Int).toNat * 1=ls.length by omega];exact hgk)))) rfl rfl rfl rfl rfl ?_)|(show ∀ _:Nat,T _ _ _ _ _;intro _))
    subst hcl
    refine T_op (OpT.callB rfl rfl rfl rfl rfl (belowR_spec hz hY t2 t3 m k (some b) _ H3 (by omega) (by omega) hkt hsk hG3) ?_)
    rintro u R (⟨H4,hG4,rfl,rfl⟩|⟨Y,hX,rfl,rfl⟩)
    ·repeat' (first|refine d1 ?_|refine dd ?_|(show ∀ _:Nat,T _ _ _ _ _;intro _))
     refine T_if rfl (fun h3=>by exfalso;simp at h3) (fun _=>?_)
     repeat' (first|refine d1 ?_|refine dd ?_|(show ∀ _:Nat,T _ _ _ _ _;intro _))
     have he:cntNL ((ls++[k]).map er)=cntNL (ls.map er)+cntN (er k):=by rw [List.map_append,cntNL_app,List.map_singleton];rfl
     rw [pre_len] at hsr
     refine T_backX ((ls++[k],r),H4) ⟨?_,?_,?_⟩ ?_ (hE:=⟨?_,trivial⟩)
     ·dsimp only;rw [hks,List.append_assoc];rfl
     ·dsimp only;rw [he, ← Nat.add_assoc];exact hG4
     ·dsimp only;rw [he, ← Nat.add_assoc];exact hsr
     ·dsimp only;rw [List.length_cons];omega
     ·dsimp only;rw [List.length_append];rfl
    ·repeat' (first|refine d1 ?_|refine dd ?_|(show ∀ _:Nat,T _ _ _ _ _;intro _))
     refine T_if rfl (fun _=>?_) (fun h3=>by exfalso;simp at h3)
     repeat' (first|refine d1 ?_|refine dd ?_|(show ∀ _:Nat,T _ _ _ _ _;intro _)|(show T _ (.code .ret::_) _ _ _;refine T_retV _ rfl (Hle.refl _) (.inr ⟨Y,hX,rfl,rfl⟩)))
   ·simp only [decide_eq_false_iff_not] at h7
    have hrs:rs=[]:=List.eq_nil_of_length_eq_zero (by omega)
    subst hrs
    rw [List.append_nil] at hks
    subst hks
    subst hcl
    repeat' (first|refine d1 ?_|refine dd ?_|(show ∀ _:Nat,T _ _ _ _ _;intro _)|(show T _ (.code .ret::_) _ _ _;refine T_retV _ rfl (Hle.refl _) (.inl ⟨H3,by rw [er_mk,cntN,show j+(cntNL (ks.map er)+1)=j+1+cntNL (ks.map er) by omega];exact hG3,rfl,rfl⟩)))
  ·show T _ _ _ _ (blk t2 [yv l] 209::blk t3 [cl] 209::Y)
   repeat' (first|refine d1 ?_|refine dd ?_|(show ∀ _:Nat,T _ _ _ _ _;intro _))
   refine T_if rfl (fun _=>?_) (fun h3=>by exfalso;simp at h3)
   subst hcl
   repeat' (first|refine d1 ?_|refine dd ?_|(show ∀ _:Nat,T _ _ _ _ _;intro _)|(show T _ (.code .ret::_) _ _ _;refine T_retV _ rfl (Hle.refl _) (.inr ⟨Y,hX,rfl,rfl⟩)))
theorem below_spec (x:Ln) (w:World):Spec Tryz.prog 144 [lnV x] w (fun v R=>∃ b:Nat,True∧v = .func (.func 172) #[] #[.pointer (some ⟨b,0,none⟩)]∧R=[blk b [lnV x] 92]):=by
 refine spec_of sg Tryz.func144 rfl rfl rfl ?_
 repeat' (first|(show T _ (.ops _ (⟨_, .box _ _,_,_,_,_⟩::_)::_) _ _ _;refine T_op (OpT.box (cs:=[lnV x]) rfl rfl rfl rfl rfl rfl rfl (fun _=>?_)))|refine d1 ?_|refine dd ?_|(show ∀ _:Nat,T _ _ _ _ _;intro _)|(show T _ (.code .ret::_) _ _ _;refine T_retV _ rfl (Hle.refl _) ⟨_,trivial,rfl,rfl⟩))
theorem below_iter {w0:World} (x:Ln) (b1:Nat) {pz:Frag} (hsz:szN x≤100000) (ht:tR (fr pz) x) :
  IterZ Tryz.prog w0 172 [] [.pointer (some ⟨b1,0,none⟩)] [blk b1 [lnV x] 92] (QB (pre none x)) (pre none x).length pz:=by
 refine iterZ_of sg Tryz.func172 rfl rfl rfl ?_
 intro l' GQ X Hj hz hY h0
 show T _ _ _ _ (blk b1 [lnV x] 92::Hj)
 repeat' (first|(show T _ (.ops _ (⟨_, .box _ _,_,_,_,_⟩::_)::_) _ _ _;refine T_op (OpT.box (cs:=[yv l']) rfl rfl rfl rfl rfl rfl rfl (fun _=>?_)))|refine d1 ?_|refine dd ?_|(show ∀ _:Nat,T _ _ _ _ _;intro _))
 rename_i t2 t3
 have hle:∀ (a b c:HA) (H:List HA),Hle (a::b::c::H) (b::a::c::H):=fun a b c H=>Hle.perm (List.Perm.swap _ _ _)
 refine T_le (hle _ _ _ _) ?_
 have hz':∀ j H,(∃ H',H=[blk b1 [lnV x] 92]++H'∧GQ j H')→Hle H [fz pz]:=by
  rintro j _ ⟨H',rfl,h⟩
  exact (Hle.tail _ _).trans (hz j H' h)
 refine T_op (OpT.callB rfl rfl rfl rfl rfl (belowR_spec hz' (hY.frame [blk b1 [lnV x] 92]) t2 t3 100000 x none 0 _ hsz (Nat.le_refl _) ht (subAt.refl _) ⟨Hj,rfl,h0⟩) ?_)
 rintro u R (⟨_,⟨H4,rfl,hG4⟩,rfl,rfl⟩|⟨_,⟨Y,rfl,hX⟩,rfl,rfl⟩)
 ·rw [Nat.zero_add, ← pre_len x none] at hG4
  repeat' (first|refine d1 ?_|refine dd ?_|(show ∀ _:Nat,T _ _ _ _ _;intro _)|(show T _ _ _ _ _;refine T_ifall rfl H4 hG4 ((Hle.tail _ _).trans (Hle.tail _ _))))
 ·repeat' (first|refine d1 ?_|refine dd ?_|(show ∀ _:Nat,T _ _ _ _ _;intro _)|(show T _ _ _ _ _;refine T_istopf rfl Y hX ((Hle.tail _ _).trans (Hle.tail _ _))))
end Go.Proofs.YtabhdaehomjlgaaGreat
namespace Go.Proofs.YtabhdaehomjlgaaGreat
open Go.RowKit Go.Shelf Go.Proofs
set_option maxRecDepth 100000
set_option maxHeartbeats 1000000

def goodM (XS:List (Nat × Option Nat)) (l:List (Option Nat × Value)) (j:Nat):Prop :=
 mget l none=some (.int .i64 (-1))∧(∀ (i b:Nat) (q:Option Nat),i<j→XS[i]?=some (b,q)→mget l (some b)=some (.int .i64 (i:Nat)))∧∀ p∈l,p.1=none∨∃ b∈XS.map Prod.fst,p.1=some b
theorem goodM_zero (XS:List (Nat × Option Nat)):goodM XS (mput [] none (.int .i64 (-1))) 0 :=
 ⟨by rw [mget_put,if_pos rfl],fun i b q h=>absurd h (Nat.not_lt_zero _),fun p hp=>by
  rcases mput_keys hp with e|⟨q,hq,-⟩
  ·exact .inl e
  ·cases hq⟩
theorem goodM_step {XS:List (Nat × Option Nat)} {l:List (Option Nat × Value)} {j b:Nat} {q:Option Nat} (hnd:(XS.map Prod.fst).Nodup) (h:goodM XS l j) (hj:XS[j]?=some (b,q)):goodM XS (mput l (some b) (.int .i64 (j:Nat))) (j+1):=by
 obtain⟨h1,h2,h3⟩:=h
 have hjb:(XS.map Prod.fst)[j]?=some b:=by rw [List.getElem?_map,hj];rfl
 refine ⟨by rw [mget_put,if_neg (by intro h;cases h)];exact h1,fun i c r hi hc=>?_,fun p hp=>?_⟩
 ·rw [mget_put]
  have hic:(XS.map Prod.fst)[i]?=some c:=by rw [List.getElem?_map,hc];rfl
  by_cases e:i=j
  ·subst e
   rw [hjb] at hic
   cases hic
   rw [if_pos rfl]
  ·rw [if_neg (fun e2=>e ?_)]
   ·exact h2 i c r (by omega) hc
   ·cases e2
    exact (List.getElem?_inj (List.getElem?_eq_some_iff.1 hic).1 hnd).1 (hic.trans hjb.symm)
 ·rcases mput_keys hp with e|⟨r,hr,e⟩
  ·exact .inr ⟨b,List.mem_of_getElem? hjb,e⟩
  ·rw [e];exact h3 r hr
theorem goodM_par {XS:List (Nat × Option Nat)} {l:List (Option Nat × Value)} {j:Nat} {q:Option Nat} {r:Int} (h:goodM XS l (j+1)) (ho:okP XS j q r):mget l q=some (.int .i64 r):=by
 rcases ho with⟨rfl,rfl⟩|⟨c,i,q',rfl,rfl,h3,h4⟩
 ·exact h.1
 ·exact h.2.1 i c q' (by omega) h4
theorem hle_tf0 {A B C D E F G I:HA} {H:List HA}:Hle (A::B::C::D::E::F::G::I::H) (C::I::F::B::A::D::E::G::H):=hle_pm [2,7,5,1,0,3,4,6] [A,B,C,D,E,F,G,I] H
theorem hle_tf1 {A B C D E F G I J:HA} {H:List HA}:Hle (A::B::C::D::E::F::G::I::J::H) (C::A::J::E::F::H):=hle_pm [2,0,8,4,5] [A,B,C,D,E,F,G,I,J] H
theorem hle_tf2 {A B C D E:HA} {H:List HA}:Hle (A::B::C::D::E::H) (B::C::A::D::E::H):=hle_pm [1,2,0,3,4] [A,B,C,D,E] H
theorem lookupV {C:Cx} {all:Array Oper} {o:Oper} {env:Env} {ec:EnvC} {Hs:List HA} {G:GId} {α:Type} [DecidableEq α] {inj:α→Value} {good:World→α→Prop} {l:List (α × Value)} {rb:HA→List HA} {t kt e:TypeId} {ty:TyI} {z u:Value} {b:Nat} {a:α} (hv:evLk C.S env ec G o=some (t,b,inj a,false))
  (hm:C.S.P.underlying t=some (.map kt e)) (hk:MKey C.S.P kt inj good) (he:C.S.ty e=some ty) (hz:ty.zero=z) [hf:FocusMp Hs b inj l rb] (hga:∀ w,Cls C.w0 w Hs→good w a∧∀ p∈l,good w p.1) (hget:mget l a=some u):Val C all o env ec Hs G u:=by
 have h:=Val.lookup (all:=all) hv hm hk he hz hga
 rw [hget] at h
 exact h
theorem tree_spec (x:Ln) (w0:World) (K:List HA) (hsz:szN x≤100000) (hcnt:cntN (er x)≤100000) :
  SpecB Tryz.prog 103 [lnV x] w0 (tre 97 92 x::K)
   (fun v R=>∃ s:(Option Addr × Nat) × (Option Addr × Nat),True∧v = .agg #[.slice s.1.1 (cntN (er x)) s.1.2, .slice s.2.1 (cntN (er x)) s.2.2] ∧
    R=tre 97 92 x::row 3 1 s.1.1 s.1.2 (cntN (er x)) ((prsN (-1) 0 (er x)).map (Value.int .i64))::row 9 1 s.2.1 s.2.2 (cntN (er x)) ((nmP (er x)).map Value.string)::K):=by
 refine specB_of sg Tryz.func103 rfl rfl rfl ?_
 refine T_fzA fun pz hpz=>?_
 have ht:=tre_tR x pz hpz
 obtain⟨hcells,hnd⟩:=tre_cells x pz hpz
 rw [← pre_fst x none] at hcells hnd
 have hxl:=pre_len x none
 have hgk:∀ {w:World} {H:List HA} [FocusZ H pz],Cls w0 w H→∀ b∈(pre none x).map Prod.fst,goodP w (some b):=fun {w H} _ hw b hb=>by
  obtain⟨cs,t,hc⟩:=hcells b hb
  exact⟨cs,t,hw.fzAt hc⟩
 generalize hXS:pre none x=XS at hcells hnd hxl hgk
 repeat' (first|refine d1 ?_|(show ∀ _:Nat,T _ _ _ _ _;intro _))
 rename_i t3 t2
 refine T_op (OpT.makeMap (inj:=ptrK) rfl rfl rfl rfl rfl (fun mb=>?_))
 refine T_op (OpT.mapUp (inj:=ptrK) (a:=none) (v := .int .i64 (-1)) rfl rfl rfl Tryz.underlying186 keyN (fun w hw=>⟨trivial,fun p hp=>(by cases hp)⟩) ?_)
 repeat' (first|refine d1 ?_|(show ∀ _:Nat,T _ _ _ _ _;intro _))
 rename_i t4
 refine T_op (OpT.call rfl rfl rfl rfl rfl (fun w hw=>below_spec x w) ?_)
 rintro u R ⟨b1,-,rfl,rfl⟩
 repeat' (first|refine d1 ?_|(show ∀ _:Nat,T _ _ _ _ _;intro _))
 refine T_nilrow 3 1 (T_nilrow 9 1 ?_)
 have hit:=below_iter (w0:=w0) x b1 hsz ht
 rw [hXS] at hit
 refine T_rangeZ hit rfl (fun j x B hj hQ=>by obtain⟨z,_,rfl,rfl⟩:=hQ;exact⟨rfl,rfl⟩)
  (fun j H=>∃ (s:(Option Addr × Nat) × (Option Addr × Nat)) (l:List (Option Nat × Value)),goodM XS l j∧H=fz pz::blk t2 [.slice s.1.1 j s.1.2, .slice s.2.1 j s.2.2] 30::row 3 1 s.1.1 s.1.2 j (((prsN (-1) 0 (er x)).take j).map (Value.int .i64))::row 9 1 s.2.1 s.2.2 j (((nmP (er x)).take j).map Value.string) ::
   blk t4 [.map (some mb)] 186::mph ptrK mb l::blk t3 [.slice none 0 0, .slice none 0 0] 30::K) (fun _=>False) (fun _ _=>False) _
   (by rintro j H ⟨s,l,-,rfl⟩;exact Hle.nth 0 rfl) ⟨((none,0),(none,0)),_,goodM_zero XS,rfl⟩ ?_ ?_ ?_ (fun _ _ h=>h.elim) (fun _ _ _ h=>h.elim)
 ·exact hle_tf0
 ·rintro Lp r5 j y B Hj K2 hr5 hj hQ ⟨⟨⟨A1,c1⟩,⟨A2,c2⟩⟩,l,hgm,rfl⟩
  obtain⟨⟨b,q⟩,hq,rfl,rfl⟩:=hQ
  dsimp only
  obtain⟨r,hr,hok⟩:=pre_at XS x none (-1) 0 (by rw [hXS];exact subAt.refl _) (.inl ⟨rfl,rfl⟩) j b q (by rw [hXS];exact hq)
  rw [Nat.zero_add] at hok
  obtain⟨a,ha,hca⟩:=pre_name x ht none j b q (by rw [hXS];exact hq)
  have hstep:=goodM_step hnd hgm hq
  have hpar:=goodM_par hstep hok
  have htk1:=take_snoc _ _ _ hr
  have htk2:=take_snoc _ _ _ ha
  show T _ _ ((12,ptrK q)::(11,ptrK (some b))::_) _ (lrec Lp r5::fz pz::blk t2 [.slice A1 j c1, .slice A2 j c2] 30::row 3 1 A1 c1 j (((prsN (-1) 0 (er x)).take j).map (Value.int .i64))::row 9 1 A2 c2 j (((nmP (er x)).take j).map Value.string) ::
   blk t4 [.map (some mb)] 186::mph ptrK mb l::blk t3 [.slice none 0 0, .slice none 0 0] 30::(K++K2))
  repeat' (first|refine d1 ?_|refine dd ?_|(show ∀ _:Nat,T _ _ _ _ _;intro _))
  refine T_begin hr5 rfl ?_
  repeat' (first|refine d1 ?_|(show ∀ _:Nat,T _ _ _ _ _;intro _))
  refine T_op (OpT.mapUp (inj:=ptrK) (a:=some b) (v := .int .i64 (j:Nat)) rfl rfl rfl Tryz.underlying186 keyN (fun w hw=>⟨?_,fun p hp=>?_⟩) ?_)
  ·exact hgk hw b (List.mem_of_getElem? (by rw [List.getElem?_map,hq];rfl:(XS.map Prod.fst)[j]?=some b))
  ·rcases hgm.2.2 p hp with e|⟨c,hc,e⟩
   ·rw [e];trivial
   ·rw [e];exact hgk hw c hc
  repeat' (first|refine d1 ?_|(show ∀ _:Nat,T _ _ _ _ _;intro _))
  generalize hl':mput l (some b) (.int .i64 (j:Nat))=l' at hstep hpar ⊢
  have hgl:∀ {w:World} {H:List HA} [FocusZ H pz],Cls w0 w H→∀ p∈l',goodP w p.1:=fun {w H} _ hw p hp=>by
   rcases hstep.2.2 p hp with e|⟨c,hc,e⟩
   ·rw [e];trivial
   ·rw [e];exact hgk hw c hc
  have hgq:∀ {w:World} {H:List HA} [FocusZ H pz],Cls w0 w H→goodP w q:=fun {w H} _ hw=>by
   rcases hok with⟨rfl,-⟩|⟨c,i,q',rfl,-,-,h4⟩
   ·trivial
   ·exact hgk hw c (List.mem_of_getElem? (by rw [List.getElem?_map,h4];rfl:(XS.map Prod.fst)[i]?=some c))
  rw [show ptrK (some b) = .pointer (some ⟨b,0,none⟩) from rfl]
  refine T_cutX 1 [] (fun _:(Option Addr × Nat) × (Option Addr × Nat)=>[]) (fun s=>lrec Lp (busy r5)::fz pz::blk t2 [.slice s.1.1 (j+1) s.1.2, .slice s.2.1 (j+1) s.2.2] 30::row 3 1 s.1.1 s.1.2 (j+1) (((prsN (-1) 0 (er x)).take j).map (Value.int .i64)++flatP [(0, .int .i64 r)])::row 9 1 s.2.1 s.2.2 (j+1) (((nmP (er x)).take j).map Value.string++flatP [(0, .string a)]) ::
   blk t4 [.map (some mb)] 186::mph ptrK mb l'::blk t3 [.slice none 0 0, .slice none 0 0] 30::(K++K2)) (fun _=>True) ?_ ?_
  ·refine dw0 16 [fz pz,blk t2 [.slice A1 j c1, .slice A2 j c2] 30,blk t4 [.map (some mb)] 186,mph ptrK mb l'] ?_
   repeat' (first|(show T _ (.draw _ _ _ _ _::_) _ _ _;first|refine dw1 ?_|refine dwv rfl (by decide +kernel) rfl rfl (lookupV (a:=q) (inj:=ptrK) rfl Tryz.underlying186 keyN rfl rfl (fun w hw=>⟨hgq hw,hgl hw⟩) hpar) rfl rfl rfl ?_|refine dwg rfl (by decide +kernel) rfl rfl (lookupV (a:=q) (inj:=ptrK) rfl Tryz.underlying186 keyN rfl rfl (fun w hw=>⟨hgq hw,hgl hw⟩) hpar) rfl rfl rfl rfl rfl ?_|refine dwv rfl (by decide +kernel) rfl rfl (Val.nilc rfl) rfl rfl rfl ?_|refine dwg rfl (by decide +kernel) rfl rfl (Val.nilc rfl) rfl rfl rfl rfl rfl ?_|refine dwv rfl (by decide +kernel) rfl rfl (Val.load rfl (fun hg=>rdOwn1 rfl)) rfl rfl rfl ?_|refine dwg rfl (by decide +kernel) rfl rfl (Val.load rfl (fun hg=>rdOwn1 rfl)) rfl rfl rfl rfl rfl ?_|refine dwb rfl (by decide +kernel) ?_)|(show AllL _ [];exact True.intro)|(show AllL _ (_::_);refine ⟨?_,?_⟩)|(show OpT _ _ _ _ _ _ _;first|refine dwx ?_|refine OpT.ofVal rfl (lookupV (a:=q) (inj:=ptrK) rfl Tryz.underlying186 keyN rfl rfl (fun w hw=>⟨hgq hw,hgl hw⟩) hpar) rfl rfl rfl ⟨fun _=>(by first|exact Hle.none _|exact Hle.sub|exact absurd ‹_› (by decide +kernel)),?_⟩|refine OpT.ofVal rfl (Val.nilc rfl) rfl rfl rfl ⟨fun _=>(by first|exact Hle.none _|exact Hle.sub|exact absurd ‹_› (by decide +kernel)),?_⟩|refine OpT.ofVal rfl (Val.load rfl (fun hg=>rdOwn1 rfl)) rfl rfl rfl ⟨fun _=>(by first|exact Hle.none _|exact Hle.sub|exact absurd ‹_› (by decide +kernel)),?_⟩|refine OpT.ofVal rfl (Val.load rfl (fun _ w hw=>RdC.one (hw.fz (p:=pz) _ _ _ hca))) rfl rfl rfl ⟨fun _=>(by first|exact Hle.none _|exact Hle.sub|exact absurd ‹_› (by decide +kernel)),?_⟩|refine OpT.litW rfl rfl rfl rfl rfl rfl rfl rfl rfl rfl rfl (fun _=>⟨fun _=>(by first|exact Hle.none _|exact Hle.sub|exact absurd ‹_› (by decide +kernel)),?_⟩)|refine OpT.append (A:=A1) rfl rfl rfl rfl rfl rfl rfl rfl rfl rfl (fun w hw=>Src.own hw rfl) rfl (by dsimp only;omega) (by omega) (fun _ _ _=>⟨fun _=>(by first|exact Hle.none _|exact Hle.sub|exact absurd ‹_› (by decide +kernel)),?_⟩)|refine OpT.append (A:=A2) rfl rfl rfl rfl rfl rfl rfl rfl rfl rfl (fun w hw=>Src.own hw rfl) rfl (by dsimp only;omega) (by omega) (fun _ _ _=>⟨fun _=>(by first|exact Hle.none _|exact Hle.sub|exact absurd ‹_› (by decide +kernel)),?_⟩)|refine OpT.storeA rfl rfl rfl rfl rfl rfl (Nat.le_of_ble_eq_true rfl) ⟨fun _=>(by first|exact Hle.none _|exact Hle.sub|exact absurd ‹_› (by decide +kernel)),?_⟩)|(show ∀ _:Nat,T _ _ _ _ _;intro _)|(show T _ (.mark _::_) _ _ _;exact T_meetX ((_,_),(_,_)) trivial (hG:=by exact (Hle.tail _ _).trans (Hle.tail _ _))))
  rintro⟨⟨A3,c3⟩,⟨A4,c4⟩⟩ -
  dsimp only
  repeat' (first|refine d1 ?_|(show ∀ _:Nat,T _ _ _ _ _;intro _))
  refine T_next _ ⟨((A3,c3),(A4,c4)),l',hstep,rfl⟩ ?_
  dsimp only
  rw [htk1,htk2,List.map_append,List.map_append]
  exact Hle.refl _
 ·rintro D Hn ⟨⟨⟨A1,c1⟩,⟨A2,c2⟩⟩,l,hgm,rfl⟩
  rw [hxl,List.take_of_length_le (Nat.le_of_eq (prsN_len _ _ _)),List.take_of_length_le (Nat.le_of_eq (nmP_len _))]
  show T _ _ _ _ (dfr D::blk b1 [lnV x] 92::fz pz::blk t2 [.slice A1 (cntN (er x)) c1, .slice A2 (cntN (er x)) c2] 30::row 3 1 A1 c1 (cntN (er x)) ((prsN (-1) 0 (er x)).map (Value.int .i64))::row 9 1 A2 c2 (cntN (er x)) ((nmP (er x)).map Value.string) ::
   blk t4 [.map (some mb)] 186::mph ptrK mb l::blk t3 [.slice none 0 0, .slice none 0 0] 30::K)
  repeat' (first|refine d1 ?_|refine dd ?_|(show ∀ _:Nat,T _ _ _ _ _;intro _))
  exact T_retD (H':=blk t3 [.slice A1 (cntN (er x)) c1, .slice A2 (cntN (er x)) c2] 30::tre 97 92 x::row 3 1 A1 c1 (cntN (er x)) ((prsN (-1) 0 (er x)).map (Value.int .i64))::row 9 1 A2 c2 (cntN (er x)) ((nmP (er x)).map Value.string)::K)
   (hle_tf1.trans ((hle_unfz hpz).trans hle_tf2)) (rf_M (ds:=[]) (vs:=[.agg #[.slice A1 (cntN (er x)) c1, .slice A2 (cntN (er x)) c2]]) _ ⟨⟨t3,_,[.slice A1 (cntN (er x)) c1, .slice A2 (cntN (er x)) c2],rfl,rfl,rfl,rfl,(fun h=>by cases h),rfl,rdAll⟩,trivial⟩ (Hle.tail _ _) ⟨((A1,c1),(A2,c2)),trivial,rfl,rfl⟩)
end Go.Proofs.YtabhdaehomjlgaaGreat
namespace Go.Proofs.YtabhdaehomjlgaaGreat
open Go.RowKit Go.Shelf Go.Proofs
set_option maxRecDepth 100000
set_option maxHeartbeats 1000000

def fn0:Fn8:=⟨0,none,0,ByteArray.empty,0,[]⟩
structure okF (ps:List Int) (ns:List ByteArray) (fl:List Fn8):Prop where
 nm:∀ i,i<fl.length→(fl.getD i fn0).nm=ns.getD i ByteArray.empty∧(fl.getD i fn0).o=(i:Nat)
 ks:∀ i,i<fl.length→(fl.getD i fn0).ks=(kdsI ps i fl.length).map fun k=>(fl.getD k fn0).b
def cellsF (n:Nat) (fl:List Fn8):List Value:=fl.map (fun f=>ptrV f.b)++List.replicate (n - fl.length) (.pointer none)
theorem cellsF_set {n:Nat} {fl:List Fn8} (h:fl.length<n) (x:Fn8):(cellsF n fl).set fl.length (ptrV x.b)=cellsF n (fl++[x]):=by
 unfold cellsF
 rw [List.set_append_right _ _ (by simp),List.length_map,Nat.sub_self,List.map_append,List.append_assoc,List.length_append]
 congr 1
 obtain⟨k,hk⟩:∃ k,n - fl.length=k+1:=⟨n - fl.length - 1,by omega⟩
 rw [hk,show n - (fl.length+[x].length)=k by simp only [List.length_singleton];omega]
 rfl
theorem cellsF_get {n:Nat} {fl:List Fn8} {i:Nat} {f:Fn8} (h:fl[i]?=some f):(cellsF n fl)[i]?=some (ptrV f.b):=by
 unfold cellsF
 rw [List.getElem?_append_left (by rw [List.length_map];exact (List.getElem?_eq_some_iff.1 h).1),List.getElem?_map,h];rfl
theorem cellsF_len {n:Nat} {fl:List Fn8} (h:fl.length≤n):(cellsF n fl).length=n:=by
 unfold cellsF;simp;omega
theorem getD_set9 {fl:List Fn8} {p i:Nat} {f:Fn8} (hp:p<fl.length):(fl.set p f).getD i fn0=if p=i then f else fl.getD i fn0:=by
 rw [List.getD_eq_getElem?_getD,List.getElem?_set]
 by_cases e:p=i
 ·subst e;rw [if_pos rfl,if_pos rfl,if_pos hp];rfl
 ·rw [if_neg e,if_neg e, ← List.getD_eq_getElem?_getD]
theorem getD_snoc9 {fl:List Fn8} {i:Nat} {f:Fn8}:(fl++[f]).getD i fn0=if i=fl.length then f else fl.getD i fn0:=by
 rw [List.getD_eq_getElem?_getD,List.getElem?_append]
 by_cases e:i=fl.length
 ·subst e;simp
 ·rw [if_neg e]
  split
  ·rw [← List.getD_eq_getElem?_getD]
  ·rw [List.getElem?_eq_none (by simp;omega),List.getD_eq_getElem?_getD,List.getElem?_eq_none (by omega)]
theorem okF_root {ps:List Int} {ns:List ByteArray} {fl:List Fn8} (h:okF ps ns fl) (hup:upT ps) (hj:fl.length<ps.length) {b:Nat} {A:Option Addr} {c:Nat} (hr:ps.getD fl.length (-1)<0) :
  okF ps ns (fl++[⟨b,A,c,ns.getD fl.length ByteArray.empty,(fl.length:Nat),[]⟩]):=by
 have h1:∀ i,kdsI ps i (fl.length+1)=kdsI ps i fl.length:=fun i=>by rw [kdsI_succ,if_neg (by omega),List.append_nil]
 have hlen:(fl++[(⟨b,A,c,ns.getD fl.length ByteArray.empty,(fl.length:Nat),[]⟩:Fn8)]).length=fl.length+1:=by simp
 refine ⟨fun i hi=>?_,fun i hi=>?_⟩
 ·rw [hlen] at hi
  rw [getD_snoc9]
  by_cases e:i=fl.length
  ·rw [if_pos e,e];exact⟨rfl,rfl⟩
  ·rw [if_neg e];exact h.nm i (by omega)
 ·rw [hlen] at hi ⊢
  rw [getD_snoc9]
  by_cases e:i=fl.length
  ·rw [if_pos e,e,hup.self hj];rfl
  ·rw [if_neg e,h.ks i (by omega),h1]
   refine List.map_congr_left fun k hk=>?_
   rw [getD_snoc9,if_neg (by have:=(kdsI_mem.1 hk).1;omega)]
theorem okF_kid {ps:List Int} {ns:List ByteArray} {fl:List Fn8} (h:okF ps ns fl) (hup:upT ps) (hj:fl.length<ps.length) {b:Nat} {A A':Option Addr} {c c' p:Nat} (hr:ps.getD fl.length (-1)=(p:Nat)) (hp:p<fl.length) :
  okF ps ns ((fl++[(⟨b,A,c,ns.getD fl.length ByteArray.empty,(fl.length:Nat),[]⟩:Fn8)]).set p ⟨(fl.getD p fn0).b,A',c',(fl.getD p fn0).nm,(fl.getD p fn0).o,(fl.getD p fn0).ks++[b]⟩):=by
 have hlen:(fl++[(⟨b,A,c,ns.getD fl.length ByteArray.empty,(fl.length:Nat),[]⟩:Fn8)]).length=fl.length+1:=by simp
 have hb:∀ k,(((fl++[(⟨b,A,c,ns.getD fl.length ByteArray.empty,(fl.length:Nat),[]⟩:Fn8)]).set p ⟨(fl.getD p fn0).b,A',c',(fl.getD p fn0).nm,(fl.getD p fn0).o,(fl.getD p fn0).ks++[b]⟩).getD k fn0).b=if k=fl.length then b else (fl.getD k fn0).b:=fun k=>by
  rw [getD_set9 (by rw [hlen];omega)]
  by_cases e:p=k
  ·subst e;rw [if_pos rfl,if_neg (by omega)]
  ·rw [if_neg e,getD_snoc9]
   by_cases e2:k=fl.length
   ·rw [if_pos e2,if_pos e2]
   ·rw [if_neg e2,if_neg e2]
 refine ⟨fun i hi=>?_,fun i hi=>?_⟩
 ·rw [List.length_set,hlen] at hi
  rw [getD_set9 (by rw [hlen];omega)]
  by_cases e:p=i
  ·subst e;rw [if_pos rfl];exact h.nm p hp
  ·rw [if_neg e,getD_snoc9]
   by_cases e2:i=fl.length
   ·rw [if_pos e2,e2];exact⟨rfl,rfl⟩
   ·rw [if_neg e2];exact h.nm i (by omega)
 ·rw [List.length_set,hlen] at hi ⊢
  have hold:∀ i,(kdsI ps i fl.length).map (fun k=>(((fl++[(⟨b,A,c,ns.getD fl.length ByteArray.empty,(fl.length:Nat),[]⟩:Fn8)]).set p ⟨(fl.getD p fn0).b,A',c',(fl.getD p fn0).nm,(fl.getD p fn0).o,(fl.getD p fn0).ks++[b]⟩).getD k fn0).b)=(kdsI ps i fl.length).map (fun k=>(fl.getD k fn0).b):=fun i =>
   List.map_congr_left fun k hk=>by rw [hb,if_neg (by have:=(kdsI_mem.1 hk).1;omega)]
  rw [kdsI_succ,List.map_append,hold]
  rw [getD_set9 (by rw [hlen];omega)]
  by_cases e:p=i
  ·subst e
   rw [if_pos rfl,if_pos hr,List.map_singleton,hb,if_pos rfl,h.ks p hp]
  ·rw [if_neg e,if_neg (by rw [hr];omega),List.map_nil,List.append_nil,getD_snoc9]
   by_cases e2:i=fl.length
   ·rw [if_pos e2,e2]
    have:=hup.self hj
    rw [kdsI_succ,hr,if_neg (by omega),List.append_nil] at this
    rw [this];rfl
   ·rw [if_neg e2];exact h.ks i (by omega)
section
variable {tN tP:TypeId}
theorem nods_snoc {l:List Fn8} {x:Fn8} {H:List HA}:Hle (nod tN tP x::nods tN tP l::H) (nods tN tP (l++[x])::H):=by
 refine (show Hle _ (jns ((x::l).map (nod tN tP))::H) from hle_jn).trans ?_
 exact jns_perm ((List.perm_append_comm (l₁:=[x]) (l₂:=l)).map _)
theorem nods_focus {l r:List Fn8} {x:Fn8} {H:List HA}:Hle (nods tN tP (l++x::r)::H) (nod tN tP x::nods tN tP (l++r)::H):=by
 refine (jns_perm (m:=(x::(l++r)).map (nod tN tP)) (List.perm_middle.map _)).trans ?_
 exact hle_part
theorem nods_unfocus {l r:List Fn8} {x:Fn8} {H:List HA}:Hle (nod tN tP x::nods tN tP (l++r)::H) (nods tN tP (l++x::r)::H):=by
 refine (show Hle _ (jns ((x::(l++r)).map (nod tN tP))::H) from hle_jn).trans ?_
 exact jns_perm (List.perm_middle.symm.map _)
end
theorem hle_tg0 {A B C D:HA} {H:List HA}:Hle (A::B::C::D::H) (A::C::B::D::H):=hle_pm [0,2,1,3] [A,B,C,D] H
theorem hle_tg1 {A B C:HA} {H:List HA}:Hle (A::B::C::H) (B::A::H):=hle_pm [1,0] [A,B,C] H
theorem nodes_spec (A1 A2:Option Addr) (n c1 c2:Nat) (ps:List Int) (ns:List ByteArray) (w:World) (hs1:Src w 1 A1 n (ps.map (Value.int .i64))) (hs2:Src w 1 A2 n (ns.map Value.string)) (hl1:ps.length=n) (hl2:ns.length=n) (h0:0<n) (h64:n≤64) (hup:upT ps) :
  Spec Tryz.prog 65 [.agg #[.slice A1 n c1, .slice A2 n c2]] w
   (fun v R=>∃ y:Nat × List Nat × Ln,(y.2.1.length=n∧y.2.1[0]?=some (lnB y.2.2)∧er y.2.2=ndOf ps ns)∧v = .slice (some ⟨y.1,0,none⟩) n n∧R=[blk y.1 (y.2.1.map ptrV) 92,tre 97 92 y.2.2]):=by
 refine spec_of sg Tryz.func65 rfl rfl rfl ?_
 repeat' (first|(show T _ (.ops _ (⟨_, .box _ _,_,_,_,_⟩::_)::_) _ _ _;refine T_op (OpT.box (cs:=[.slice A1 n c1, .slice A2 n c2]) rfl rfl rfl rfl rfl rfl rfl (fun _=>?_)))|refine d1 ?_|refine dd ?_|(show T _ (.ops _ (_::_)::_) _ _ _;refine T_op (OpT.make rfl rfl rfl rfl rfl rfl rfl rfl rfl (by dsimp only;omega) (fun b3=>?_)))|(show ∀ _:Nat,T _ _ _ _ _;intro _))
 rename_i t1
 obtain⟨g1,o1,rfl⟩:=hs1.base h0
 obtain⟨g2,o2,rfl⟩:=hs2.base h0
 refine T_le (H':=[blk b3 (cellsF n []) 92,nods 97 92 [],blk t1 [.slice (some ⟨g1,o1,none⟩) n c1, .slice (some ⟨g2,o2,none⟩) n c2] 30]) (hle_em.trans hle_swap) ?_
 refine T_loopX (fun fl:List Fn8=>[(13, .int .i64 (fl.length:Nat)),(3, .slice (some ⟨b3,0,none⟩) n n)]) (fun fl=>[blk b3 (cellsF n fl) 92,nods 97 92 fl,blk t1 [.slice (some ⟨g1,o1,none⟩) n c1, .slice (some ⟨g2,o2,none⟩) n c2] 30])
  (fun fl=>fl.length≤n∧okF ps ns fl) (fun fl=>n - fl.length) [] ⟨Nat.zero_le _,⟨fun i h=>absurd h (Nat.not_lt_zero _),fun i h=>absurd h (Nat.not_lt_zero _)⟩⟩ ?_
 rintro fl ⟨hfl,hok⟩
 repeat' (first|refine d1 ?_|refine dd ?_|(show ∀ _:Nat,T _ _ _ _ _;intro _))
 refine T_if rfl (fun h5=>?_) (fun h5=>?_)
 ·simp only [decide_eq_true_eq] at h5
  have hjn:fl.length<n:=by omega
  obtain⟨r,hr⟩:∃ r,ps[fl.length]?=some r:=⟨_,List.getElem?_eq_getElem (by omega)⟩
  obtain⟨a,ha⟩:∃ a,ns[fl.length]?=some a:=⟨_,List.getElem?_eq_getElem (by omega)⟩
  have hr1:=src_int hs1 (k:=fl.length) (by omega) hr
  have ha1:=src_str hs2 (by omega) ha
  have hrd:ps.getD fl.length (-1)=r:=by rw [List.getD_eq_getElem?_getD,hr];rfl
  have had:ns.getD fl.length ByteArray.empty=a:=by rw [List.getD_eq_getElem?_getD,ha];rfl
  have hcl:=cellsF_len hfl
  repeat' (first|refine d1 ?_|refine dd ?_|(show T _ (.ops _ (_::_)::_) _ _ _;first|refine T_val rfl (Val.load rfl (fun hg=>rdOld hr1)) rfl rfl rfl ?_|refine T_valC rfl (Val.load rfl (fun hg=>rdOld hr1)) rfl rfl rfl rfl rfl ?_|refine T_val rfl (Val.load rfl (fun hg=>rdOld ha1)) rfl rfl rfl ?_|refine T_valC rfl (Val.load rfl (fun hg=>rdOld ha1)) rfl rfl rfl rfl rfl ?_|refine T_op (OpT.storeA rfl rfl rfl rfl rfl rfl (by rw [hcl];show 0+((fl.length:Nat):Int).toNat * 1+1≤n;omega) ?_))|(show T _ (.run _ _ (_::_) _ _::_) _ _ _;first|refine rv rfl rfl rfl (Val.load rfl (fun hg=>rdOld hr1)) rfl rfl rfl ?_|refine rg rfl rfl rfl (Val.load rfl (fun hg=>rdOld hr1)) rfl rfl rfl rfl rfl ?_|refine rv rfl rfl rfl (Val.load rfl (fun hg=>rdOld ha1)) rfl rfl rfl ?_|refine rg rfl rfl rfl (Val.load rfl (fun hg=>rdOld ha1)) rfl rfl rfl rfl rfl ?_)|(show ∀ _:Nat,T _ _ _ _ _;intro _))
  rename_i b
  refine T_nilrow 92 1 ?_
  obtain⟨x,hx⟩:∃ x:Fn8,x=⟨b,none,0,a,(fl.length:Nat),[]⟩:=⟨_,rfl⟩
  have hset:=cellsF_set hjn x
  refine T_le (H':=nods 97 92 (fl++[x])::blk b3 (cellsF n (fl++[x])) 92::blk t1 [.slice (some ⟨g1,o1,none⟩) n c1, .slice (some ⟨g2,o2,none⟩) n c2] 30::[]) (by
   rw [show (cellsF n fl).set (0+((fl.length:Nat):Int).toNat * 1) (Value.pointer (some ⟨b,0,none⟩))=cellsF n (fl++[x]) by rw [← hset,hx,show 0+((fl.length:Nat):Int).toNat * 1=fl.length by omega];rfl]
   rw [hx]
   refine (hle_swap.trans (hle_jn (A:=blk b [.string a, .slice none 0 0, .int .i64 (fl.length:Nat)] 97) (B:=row 92 1 none 0 0 []))).trans ?_
   exact hle_tg0.trans (show Hle (nod 97 92 ⟨b,none,0,a,(fl.length:Nat),[]⟩::_) _ from nods_snoc)) ?_
  have hlen1:(fl++[x]).length=fl.length+1:=by simp
  refine T_if rfl (fun h6=>?_) (fun h6=>?_)
  ·simp only [decide_eq_true_eq] at h6
   have hj0:0<fl.length:=by
    rcases Nat.eq_zero_or_pos fl.length with e|e
    ·have h9:=hup.z
     rw [e] at hrd
     omega
    ·exact e
   have hu:=hup.up fl.length hj0 (by omega)
   rw [hrd] at hu
   obtain⟨p,rfl⟩:=Int.eq_ofNat_of_zero_le hu.1
   have hpj:p<fl.length:=by omega
   have hkid:=fun A' c'=>okF_kid hok hup (by omega) (b:=b) (A:=none) (A':=A') (c:=0) (c':=c') (p:=p) hrd hpj
   simp only [had, ← hx] at hkid
   obtain⟨f,hf⟩:∃ f,fl.getD p fn0=f:=⟨_,rfl⟩
   have hfp:(fl++[x])[p]?=some f:=by
    rw [List.getElem?_append_left hpj,List.getElem?_eq_getElem hpj, ← hf,List.getD_eq_getElem?_getD,List.getElem?_eq_getElem hpj];rfl
   simp only [hf] at hkid
   obtain⟨l1,l2,hll,hl1p⟩:∃ l1 l2,fl++[x]=l1++f::l2∧l1.length=p:=by
    refine ⟨(fl++[x]).take p,(fl++[x]).drop (p+1),?_,by rw [List.length_take];omega⟩
    have hp9:p<(fl++[x]).length:=by omega
    rw [List.getElem?_eq_getElem hp9,Option.some.injEq] at hfp
    rw [← hfp,List.getElem_cons_drop,List.take_append_drop]
   have hcp:(cellsF n (fl++[x]))[0+((p:Nat):Int).toNat * 1]?=some (.pointer (some ⟨f.b,0,none⟩)):=by
    rw [show 0+((p:Nat):Int).toNat * 1=p by omega];exact cellsF_get hfp
   have hcj:(cellsF n (fl++[x]))[0+((fl.length:Nat):Int).toNat * 1]?=some (.pointer (some ⟨b,0,none⟩)):=by
    rw [show 0+((fl.length:Nat):Int).toNat * 1=fl.length by omega]
    have:=cellsF_get (n:=n) (fl:=fl++[x]) (i:=fl.length) (f:=x) (by rw [List.getElem?_append_right (Nat.le_refl _),Nat.sub_self];rfl)
    rw [this,hx];rfl
   have hkl:f.ks.length≤64:=by
    rw [← hf,hok.ks p hpj,List.length_map]
    have:=List.length_filter_le (fun j=>decide (ps.getD j (-1)=(p:Nat))) (List.range fl.length)
    rw [List.length_range] at this
    unfold kdsI;omega
   generalize hcs:cellsF n (fl++[x])=cs at hcp hcj ⊢
   rw [hll]
   refine T_le (nods_focus.trans (show Hle (nod _ _ f::_) _ from hle_part)) ?_
   repeat' (first|refine d1 ?_|(show ∀ _:Nat,T _ _ _ _ _;intro _))
   refine T_cutX 1 [] (fun _:Option Addr × Nat=>[]) (fun s=>[blk f.b [.string f.nm, .slice s.1 (f.ks.length+1) s.2, .int .i64 f.o] 97,row 92 1 s.1 s.2 (f.ks.length+1) (f.ks.map ptrV++flatP [(0, .pointer (some ⟨b,0,none⟩))]),nods 97 92 (l1++l2),blk b3 cs 92,blk t1 [.slice (some ⟨g1,o1,none⟩) n c1, .slice (some ⟨g2,o2,none⟩) n c2] 30]) (fun _=>True) ?_ ?_
   ·refine dw0 19 [blk f.b [.string f.nm, .slice f.A f.ks.length f.c, .int .i64 f.o] 97,blk b3 cs 92] ?_
    repeat' (first|(show T _ (.draw _ _ _ _ _::_) _ _ _;first|refine dw1 ?_|refine dwv rfl (by decide +kernel) rfl rfl (Val.nilc rfl) rfl rfl rfl ?_|refine dwg rfl (by decide +kernel) rfl rfl (Val.nilc rfl) rfl rfl rfl rfl rfl ?_|refine dwv rfl (by decide +kernel) rfl rfl (Val.load rfl (fun hg=>rdOwn1 (b:=b3) hcp)) rfl rfl rfl ?_|refine dwg rfl (by decide +kernel) rfl rfl (Val.load rfl (fun hg=>rdOwn1 (b:=b3) hcp)) rfl rfl rfl rfl rfl ?_|refine dwv rfl (by decide +kernel) rfl rfl (Val.load rfl (fun hg=>rdOwn1 (b:=b3) hcj)) rfl rfl rfl ?_|refine dwg rfl (by decide +kernel) rfl rfl (Val.load rfl (fun hg=>rdOwn1 (b:=b3) hcj)) rfl rfl rfl rfl rfl ?_|refine dwv rfl (by decide +kernel) rfl rfl (Val.load rfl (fun hg=>rdOwn1 rfl)) rfl rfl rfl ?_|refine dwg rfl (by decide +kernel) rfl rfl (Val.load rfl (fun hg=>rdOwn1 rfl)) rfl rfl rfl rfl rfl ?_|refine dwb rfl (by decide +kernel) ?_)|(show AllL _ [];exact True.intro)|(show AllL _ (_::_);refine ⟨?_,?_⟩)|(show OpT _ _ _ _ _ _ _;first|refine dwx ?_|refine OpT.ofVal rfl (Val.nilc rfl) rfl rfl rfl ⟨fun _=>(by first|exact Hle.none _|exact Hle.sub|exact absurd ‹_› (by decide +kernel)),?_⟩|refine OpT.ofVal rfl (Val.load rfl (fun hg=>rdOwn1 (b:=b3) hcp)) rfl rfl rfl ⟨fun _=>(by first|exact Hle.none _|exact Hle.sub|exact absurd ‹_› (by decide +kernel)),?_⟩|refine OpT.ofVal rfl (Val.load rfl (fun hg=>rdOwn1 (b:=b3) hcj)) rfl rfl rfl ⟨fun _=>(by first|exact Hle.none _|exact Hle.sub|exact absurd ‹_› (by decide +kernel)),?_⟩|refine OpT.ofVal rfl (Val.load rfl (fun hg=>rdOwn1 rfl)) rfl rfl rfl ⟨fun _=>(by first|exact Hle.none _|exact Hle.sub|exact absurd ‹_› (by decide +kernel)),?_⟩|refine OpT.litW rfl rfl rfl rfl rfl rfl rfl rfl rfl rfl rfl (fun _=>⟨fun _=>(by first|exact Hle.none _|exact Hle.sub|exact absurd ‹_› (by decide +kernel)),?_⟩)|refine OpT.append (A:=f.A) rfl rfl rfl rfl rfl rfl rfl rfl rfl rfl (fun w hw=>Src.own hw rfl) rfl (by dsimp only;omega) (by omega) (fun _ _ _=>⟨fun _=>(by first|exact Hle.none _|exact Hle.sub|exact absurd ‹_› (by decide +kernel)),?_⟩)|refine OpT.storeA rfl rfl rfl rfl rfl rfl (Nat.le_of_ble_eq_true rfl) ⟨fun _=>(by first|exact Hle.none _|exact Hle.sub|exact absurd ‹_› (by decide +kernel)),?_⟩)|(show ∀ _:Nat,T _ _ _ _ _;intro _)|(show T _ (.mark _::_) _ _ _;exact T_meetX (_,_) trivial (hG:=by exact Hle.tail _ _)))
   rintro⟨A9,c9⟩ -
   dsimp only
   repeat' (first|refine d1 ?_|(show ∀ _:Nat,T _ _ _ _ _;intro _))
   have he2:(fl++[x]).set p ⟨f.b,A9,c9,f.nm,f.o,f.ks++[b]⟩=l1++⟨f.b,A9,c9,f.nm,f.o,f.ks++[b]⟩::l2:=by
    rw [hll,List.set_append_right _ _ (by omega),hl1p,Nat.sub_self];rfl
   have hl9:(l1++f::l2).length=fl.length+1:=by rw [← hll];exact hlen1
   have hl8:(l1++(⟨f.b,A9,c9,f.nm,f.o,f.ks++[b]⟩:Fn8)::l2).length=fl.length+1:=by rw [← hl9];simp
   have hk9:=hkid A9 c9
   rw [he2] at hk9
   refine T_backX (l1++⟨f.b,A9,c9,f.nm,f.o,f.ks++[b]⟩::l2) ⟨by omega,hk9⟩ (by omega) (hE:=⟨by rw [hl8];rfl,rfl,trivial⟩) (hG:=?_)
   rw [show cellsF n (l1++(⟨f.b,A9,c9,f.nm,f.o,f.ks++[b]⟩:Fn8)::l2)=cs by rw [← hcs,hll];unfold cellsF;rw [hl9,hl8,List.map_append,List.map_append];rfl]
   have hjn9:Hle (blk f.b [.string f.nm, .slice A9 (f.ks.length+1) c9, .int .i64 f.o] 97::row 92 1 A9 c9 (f.ks.length+1) (f.ks.map ptrV++flatP [(0, .pointer (some ⟨b,0,none⟩))])::nods 97 92 (l1++l2)::blk b3 cs 92::blk t1 [.slice (some ⟨g1,o1,none⟩) n c1, .slice (some ⟨g2,o2,none⟩) n c2] 30::[])
     (nod 97 92 ⟨f.b,A9,c9,f.nm,f.o,f.ks++[b]⟩::nods 97 92 (l1++l2)::blk b3 cs 92::blk t1 [.slice (some ⟨g1,o1,none⟩) n c1, .slice (some ⟨g2,o2,none⟩) n c2] 30::[]):=by
    unfold nod
    rw [show (f.ks++[b]).length=f.ks.length+1 by simp,List.map_append]
    exact hle_jn
   exact hjn9.trans (nods_unfocus.trans hle_swap)
  ·simp only [decide_eq_false_iff_not] at h6
   have hroot:=okF_root hok hup (by omega) (b:=b) (A:=none) (c:=0) (by rw [hrd];omega)
   simp only [had, ← hx] at hroot
   repeat' (first|refine d1 ?_|(show ∀ _:Nat,T _ _ _ _ _;intro _))
   exact T_backX (fl++[x]) ⟨by omega,hroot⟩ (by omega) (hE:=⟨by rw [hlen1];rfl,rfl,trivial⟩) (hG:=hle_swap)
 ·simp only [decide_eq_false_iff_not] at h5
  have hfn:fl.length=n:=by omega
  have hfp:fl.length=ps.length:=by omega
  obtain⟨f0,hf0⟩:∃ f0,fl[0]?=some f0:=⟨_,List.getElem?_eq_getElem (by omega)⟩
  have hks:∀ i,i<ps.length→(fl.getD i fn0).ks=(kdsI ps i ps.length).map fun k=>(fl.getD k fn0).b:=fun i hi=>by rw [hok.ks i (by omega),hfp]
  have hg:=lnF_er (ps:=ps) (ns:=ns) (g:=fun i=>fl.getD i fn0) (fun i hi=>hok.nm i (by omega)) ps.length 0 (by omega)
  have hc9:cellsF n fl=(fl.map (·.b)).map ptrV:=by unfold cellsF;rw [hfn,Nat.sub_self,List.map_map];exact List.append_nil _
  rw [hc9]
  repeat' (first|refine d1 ?_|refine dd ?_|(show ∀ _:Nat,T _ _ _ _ _;intro _)|(show T _ (.code .ret::_) _ _ _;refine T_retV _ rfl ((hle_swap.trans (nods_tree (d:=fn0) hup (by omega) hfp hks)).trans hle_tg1) ⟨(b3,fl.map (·.b),lnF ps ps.length (fun i=>fl.getD i fn0) ps.length 0),⟨by rw [List.length_map];exact hfn,by rw [List.getElem?_map,hf0,lnF_b,List.getD_eq_getElem?_getD,hf0];rfl,hg⟩,rfl,rfl⟩))
end Go.Proofs.YtabhdaehomjlgaaGreat
namespace Go.Proofs.YtabhdaehomjlgaaGreat
open Go.RowKit Go.Shelf Go.Proofs
set_option maxRecDepth 100000
set_option maxHeartbeats 1000000

structure TrA (w:World) (A1:Option Addr) (n1 c1:Nat) (A2:Option Addr) (n2 c2:Nat) (ps:List Int) (ns:List ByteArray):Prop where
 s1:Src w 1 A1 n1 (ps.map (Value.int .i64))
 s2:Src w 1 A2 n2 (ns.map Value.string)
 l1:ps.length=n1
 l2:ns.length=n2
 k1:n1≤c1
 k2:n2≤c2
 b1:n1≤1000000
 b2:n2≤1000000
 nm:∀ s∈ns,s.size≤1000000
theorem TrA.cls {w0 w:World} {H:List HA} {A1 A2:Option Addr} {n1 c1 n2 c2:Nat} {ps:List Int} {ns:List ByteArray} (h:TrA w0 A1 n1 c1 A2 n2 c2 ps ns) (hw:Cls w0 w H):TrA w A1 n1 c1 A2 n2 c2 ps ns :=
 ⟨src_below h.s1 hw.below,src_below h.s2 hw.below,h.l1,h.l2,h.k1,h.k2,h.b1,h.b2,h.nm⟩
structure tOk (ps:List Int) (ns:List ByteArray):Prop where
 pos:0<ps.length
 n64:ps.length≤64
 len:ns.length=ps.length
 up:upT ps
 inn:∀ i,i<ps.length→kdsI ps i ps.length≠[]→ns.getD i ByteArray.empty=ByteArray.empty
 lf:∀ i,i<ps.length→kdsI ps i ps.length=[]→siglum22 (ns.getD i ByteArray.empty)=true∧ns.getD i ByteArray.empty ∉ ns.take i
theorem src_takeT {w:World} {A:Option Addr} {n:Nat} {xs:List Value} (hs:Src w 1 A n xs) (hi:Nat) (h:hi≤n):Src w 1 A hi (xs.take hi):=by
 have hl:=hs.1
 rw [Nat.mul_one] at hl
 refine ⟨by rw [List.length_take];omega,fun h0=>?_⟩
 obtain⟨h1,h2⟩:=hs.2 (by omega)
 refine ⟨h1,fun j u hu=>h2 j u ?_⟩
 rw [List.getElem?_take] at hu
 split at hu
 ·exact hu
 ·cases hu
theorem namedTree_spec (s:ByteArray) (hs:s.size≤1000000) (w:World):Spec Tryz.prog 101 [.string s] w (fun v R=>v = .bool (siglum22 s)∧R=[]):=by
 have hb:(bare1_22 s).size≤9223372036854775807:=by
  unfold bare1_22
  split
  ·rw [ByteArray.size_extract];omega
  ·omega
 refine spec_of sg Tryz.func101 rfl rfl rfl ?_
 repeat' (first|refine d1 ?_|refine dd ?_|(show T _ (.ops _ (_::_)::_) _ _ _;first|refine T_call rfl rfl rfl rfl rfl (fun w hw=>cutStar_spec s (by omega) w) ?_|refine T_callC rfl rfl rfl rfl rfl rfl rfl (fun hg w hw=>cutStar_spec s (by omega) w) ?_)|(show T _ (.run _ _ (_::_) _ _::_) _ _ _;first|refine rc rfl rfl rfl rfl rfl rfl rfl (fun w hw=>cutStar_spec s (by omega) w) ?_|refine rcG rfl rfl rfl rfl rfl rfl rfl rfl rfl (fun hg w hw=>cutStar_spec s (by omega) w) ?_)|(show ∀ _:Nat,T _ _ _ _ _;intro _))
 refine T_if rfl (fun h=>?_) (fun h=>?_)
 ·repeat' (first|refine d1 ?_|refine dd ?_|(show T _ (.ops _ (_::_)::_) _ _ _;first|refine T_call rfl rfl rfl rfl rfl (fun w hw=>isNamePrg_spec (bare1_22 s) hb w) ?_|refine T_callC rfl rfl rfl rfl rfl rfl rfl (fun hg w hw=>isNamePrg_spec (bare1_22 s) hb w) ?_)|(show T _ (.run _ _ (_::_) _ _::_) _ _ _;first|refine rc rfl rfl rfl rfl rfl rfl rfl (fun w hw=>isNamePrg_spec (bare1_22 s) hb w) ?_|refine rcG rfl rfl rfl rfl rfl rfl rfl rfl rfl (fun hg w hw=>isNamePrg_spec (bare1_22 s) hb w) ?_)|(show ∀ _:Nat,T _ _ _ _ _;intro _)|(show T _ (.code .ret::_) _ _ _;refine T_retV [] rfl (Hle.none _) ⟨congrArg Value.bool (by rw [← siglum22_eq s,h,Bool.and_comm];simp),rfl⟩))
 ·repeat' (first|refine d1 ?_|refine dd ?_|(show T _ (.ops _ (_::_)::_) _ _ _;first|refine T_call rfl rfl rfl rfl rfl (fun w hw=>isNamePrg_spec s (by omega) w) ?_|refine T_callC rfl rfl rfl rfl rfl rfl rfl (fun hg w hw=>isNamePrg_spec s (by omega) w) ?_)|(show T _ (.run _ _ (_::_) _ _::_) _ _ _;first|refine rc rfl rfl rfl rfl rfl rfl rfl (fun w hw=>isNamePrg_spec s (by omega) w) ?_|refine rcG rfl rfl rfl rfl rfl rfl rfl rfl rfl (fun hg w hw=>isNamePrg_spec s (by omega) w) ?_)|(show ∀ _:Nat,T _ _ _ _ _;intro _)|(show T _ (.code .ret::_) _ _ _;refine T_retV [] rfl (Hle.none _) ⟨congrArg Value.bool (by rw [← siglum22_eq s,h];unfold bare1_22;rw [h];simp),rfl⟩))
def flgT (ps:List Int) (n j:Nat):List Bool:=(List.range n).map fun i=>decide (kdsI ps i j≠[])
theorem flgT_len (ps:List Int) (n j:Nat):(flgT ps n j).length=n:=by unfold flgT;simp
theorem flgT_get {ps:List Int} {n j i:Nat} (h:i<n):(flgT ps n j)[i]?=some (decide (kdsI ps i j≠[])):=by unfold flgT;rw [List.getElem?_map,List.getElem?_range h];rfl
theorem flgT_zero (ps:List Int) (n:Nat):flgT ps n 0=List.replicate n false:=by
 unfold flgT
 refine List.ext_getElem? fun i=>?_
 rw [List.getElem?_map,List.getElem?_replicate]
 rcases Nat.lt_or_ge i n with h|h
 ·rw [List.getElem?_range h,if_pos h];rfl
 ·rw [List.getElem?_eq_none (by simpa using h),if_neg (by omega)];rfl
theorem flgT_same {ps:List Int} {n j:Nat} (h:ps.getD j (-1)<0):flgT ps n (j+1)=flgT ps n j:=by
 unfold flgT
 refine List.map_congr_left fun i _=>?_
 rw [kdsI_succ,if_neg (by omega),List.append_nil]
theorem flgT_set {ps:List Int} {n j p:Nat} (h:ps.getD j (-1)=(p:Nat)) (hp:p<n):flgT ps n (j+1)=(flgT ps n j).set p true:=by
 refine List.ext_getElem? fun i=>?_
 rw [List.getElem?_set,flgT_len]
 rcases Nat.lt_or_ge i n with h2|h2
 ·rw [flgT_get h2,flgT_get h2,kdsI_succ,h]
  by_cases e:p=i
  ·subst e;rw [if_pos rfl,if_pos rfl,if_pos hp];simp
  ·rw [if_neg e,if_neg (by omega),List.append_nil]
 ·rw [List.getElem?_eq_none (by rw [flgT_len];exact h2),List.getElem?_eq_none (by rw [flgT_len];exact h2),if_neg (by omega)]
theorem checkTree_spec (A1 A2:Option Addr) (n1 c1 n2 c2:Nat) (ps:List Int) (ns:List ByteArray) (w:World) (ht:TrA w A1 n1 c1 A2 n2 c2 ps ns) :
  Spec Tryz.prog 57 [.agg #[.slice A1 n1 c1, .slice A2 n2 c2]] w (fun v R=>∃ e:Int,(e=0↔tOk ps ns)∧v = .int .i64 e∧R=[]):=by
 have hl1:=ht.l1
 have hl2:=ht.l2
 have hb1:=ht.b1
 have hb2:=ht.b2
 have hk2:=ht.k2
 refine spec_of sg Tryz.func57 rfl rfl rfl ?_
 repeat' (first|(show T _ (.ops _ (⟨_, .box _ _,_,_,_,_⟩::_)::_) _ _ _;refine T_op (OpT.box (cs:=[.slice A1 n1 c1, .slice A2 n2 c2]) rfl rfl rfl rfl rfl rfl rfl (fun _=>?_)))|refine d1 ?_|refine dd ?_|(show ∀ _:Nat,T _ _ _ _ _;intro _))
 refine T_if rfl (fun h=>?_) (fun h=>?_)
 ·simp only [decide_eq_true_eq] at h
  repeat' (first|refine d1 ?_|refine dd ?_|(show ∀ _:Nat,T _ _ _ _ _;intro _)|(show T _ (.code .ret::_) _ _ _;refine T_retV [] rfl (Hle.none _) ⟨5,⟨fun h=>by omega,fun h=>by have:=h.pos;omega⟩,rfl,rfl⟩))
 simp only [decide_eq_false_iff_not] at h
 repeat' (first|refine d1 ?_|refine dd ?_|(show ∀ _:Nat,T _ _ _ _ _;intro _))
 refine T_if rfl (fun h2=>?_) (fun h2=>?_)
 ·simp only [decide_eq_true_eq] at h2
  repeat' (first|refine d1 ?_|refine dd ?_|(show ∀ _:Nat,T _ _ _ _ _;intro _)|(show T _ (.code .ret::_) _ _ _;refine T_retV [] rfl (Hle.none _) ⟨4,⟨fun h=>by omega,fun h=>by have:=h.n64;omega⟩,rfl,rfl⟩))
 simp only [decide_eq_false_iff_not] at h2
 repeat' (first|refine d1 ?_|refine dd ?_|(show ∀ _:Nat,T _ _ _ _ _;intro _))
 refine T_if rfl (fun h3=>?_) (fun h3=>?_)
 ·simp only [Bool.not_eq_true',decide_eq_false_iff_not] at h3
  repeat' (first|refine d1 ?_|refine dd ?_|(show ∀ _:Nat,T _ _ _ _ _;intro _)|(show T _ (.code .ret::_) _ _ _;refine T_retV [] rfl (Hle.none _) ⟨9,⟨fun h=>by omega,fun h=>by have:=h.len;omega⟩,rfl,rfl⟩))
 simp only [Bool.not_eq_false',decide_eq_true_eq] at h3
 obtain rfl:n2=n1:=by omega
 obtain⟨g1,o1,rfl⟩:=ht.s1.base (by omega)
 obtain⟨g2,o2,rfl⟩:=ht.s2.base (by omega)
 repeat' (first|refine d1 ?_|(show T _ (.ops _ (_::_)::_) _ _ _;refine T_op (OpT.make rfl rfl rfl rfl rfl rfl rfl rfl rfl (by dsimp only;omega) (fun b3=>?_)))|(show ∀ _:Nat,T _ _ _ _ _;intro _))
 rename_i t1
 refine T_le (H':=[blk b3 ((flgT ps n2 0).map Value.bool) 4,blk t1 [.slice (some ⟨g1,o1,none⟩) n2 c1, .slice (some ⟨g2,o2,none⟩) n2 c2] 30]) (by rw [flgT_zero,List.map_replicate];exact Hle.refl _) ?_
 repeat' (first|refine d1 ?_|(show ∀ _:Nat,T _ _ _ _ _;intro _))
 refine T_loopX (fun j:Nat=>[(33, .int .i64 (j:Nat)),(3, .slice (some ⟨b3,0,none⟩) n2 n2)]) (fun j=>[blk b3 ((flgT ps n2 j).map Value.bool) 4,blk t1 [.slice (some ⟨g1,o1,none⟩) n2 c1, .slice (some ⟨g2,o2,none⟩) n2 c2] 30])
  (fun j=>j≤n2∧∀ i,i<j→(i=0→ps.getD i (-1) = -1)∧(0<i→0≤ps.getD i (-1)∧ps.getD i (-1)<(i:Nat))) (fun j=>n2 - j) 0 ⟨Nat.zero_le _,fun i h=>absurd h (Nat.not_lt_zero _)⟩ ?_
 rintro j ⟨hj,hok⟩
 repeat' (first|refine d1 ?_|refine dd ?_|(show ∀ _:Nat,T _ _ _ _ _;intro _))
 refine T_if rfl (fun h5=>?_) (fun h5=>?_)
 ·simp only [decide_eq_true_eq] at h5
  obtain⟨r,hr⟩:∃ r,ps[j]?=some r:=⟨_,List.getElem?_eq_getElem (by omega)⟩
  have hr1:=src_int ht.s1 (k:=j) (by omega) hr
  have hrd:ps.getD j (-1)=r:=by rw [List.getD_eq_getElem?_getD,hr];rfl
  repeat' (first|refine d1 ?_|refine dd ?_|(show T _ (.ops _ (_::_)::_) _ _ _;first|refine T_val rfl (Val.load rfl (fun hg=>rdOld hr1)) rfl rfl rfl ?_|refine T_valC rfl (Val.load rfl (fun hg=>rdOld hr1)) rfl rfl rfl rfl rfl ?_)|(show T _ (.run _ _ (_::_) _ _::_) _ _ _;first|refine rv rfl rfl rfl (Val.load rfl (fun hg=>rdOld hr1)) rfl rfl rfl ?_|refine rg rfl rfl rfl (Val.load rfl (fun hg=>rdOld hr1)) rfl rfl rfl rfl rfl ?_)|(show ∀ _:Nat,T _ _ _ _ _;intro _))
  refine T_if rfl (fun h6=>?_) (fun h6=>?_)
  ·simp only [Bool.or_eq_true,Bool.and_eq_true,Bool.not_eq_true',decide_eq_true_eq,decide_eq_false_iff_not] at h6
   repeat' (first|refine d1 ?_|refine dd ?_|(show ∀ _:Nat,T _ _ _ _ _;intro _)|(show T _ (.code .ret::_) _ _ _;refine T_retV [] rfl (Hle.none _) ⟨2,⟨fun h=>by omega,fun h=>?_⟩,rfl,rfl⟩))
   have h7:=h.up.z
   rcases Nat.eq_zero_or_pos j with e|e
   ·subst e;rw [hrd] at h7;omega
   ·have:=h.up.up j e (by omega);rw [hrd] at this;omega
  ·simp only [Bool.or_eq_false_iff,Bool.and_eq_false_iff,Bool.not_eq_false',decide_eq_true_eq,decide_eq_false_iff_not] at h6
   have hst:∀ i,i<j+1→(i=0→ps.getD i (-1) = -1)∧(0<i→0≤ps.getD i (-1)∧ps.getD i (-1)<(i:Nat)):=fun i hi=>by
    by_cases e:i=j
    ·subst e;rw [hrd];constructor <;> intro h <;> omega
    ·exact hok i (by omega)
   repeat' (first|refine d1 ?_|(show ∀ _:Nat,T _ _ _ _ _;intro _))
   refine T_if rfl (fun h7=>?_) (fun h7=>?_)
   ·simp only [decide_eq_true_eq] at h7
    have h8:=(hst j (by omega)).2 (by omega)
    rw [hrd] at h8
    obtain⟨p,rfl⟩:=Int.eq_ofNat_of_zero_le h8.1
    have hfl:((flgT ps n2 j).map Value.bool).length=n2:=by rw [List.length_map,flgT_len]
    have hse:=flgT_set (n:=n2) hrd (show p<n2 by omega)
    repeat' (first|refine d1 ?_|(show T _ (.ops _ (_::_)::_) _ _ _;refine T_op (OpT.store rfl rfl rfl rfl (by rw [hfl];omega) ?_))|(show ∀ _:Nat,T _ _ _ _ _;intro _))
    refine T_backX (j+1) ⟨by omega,hst⟩ (by omega) (hG:=?_)
    rw [hse,List.map_set,show 0+((p:Nat):Int).toNat * 1=p by omega]
    exact Hle.refl _
   ·simp only [decide_eq_false_iff_not] at h7
    have hj0:j=0:=by omega
    have hse:=flgT_same (ps:=ps) (n:=n2) (j:=j) (by rw [(hst j (by omega)).1 hj0];omega)
    repeat' (first|refine d1 ?_|(show ∀ _:Nat,T _ _ _ _ _;intro _))
    refine T_backX (j+1) ⟨by omega,hst⟩ (by omega) (hG:=?_)
    rw [hse]
    exact Hle.refl _
 ·simp only [decide_eq_false_iff_not] at h5
  obtain rfl:j=n2:=by omega
  have hup:upT ps:=⟨(hok 0 (by omega)).1 rfl,fun i h h9=>(hok i (by omega)).2 h⟩
  repeat' (first|refine d1 ?_|(show ∀ _:Nat,T _ _ _ _ _;intro _))
  refine T_loopX (fun i:Nat=>[(66, .int .i64 (i:Nat))]) (fun i=>[blk b3 ((flgT ps j j).map Value.bool) 4,blk t1 [.slice (some ⟨g1,o1,none⟩) j c1, .slice (some ⟨g2,o2,none⟩) j c2] 30])
   (fun i=>i≤j∧∀ k,k<i→(kdsI ps k j≠[]→ns.getD k ByteArray.empty=ByteArray.empty)∧(kdsI ps k j=[]→siglum22 (ns.getD k ByteArray.empty)=true∧ns.getD k ByteArray.empty ∉ ns.take k)) (fun i=>j - i) 0 ⟨Nat.zero_le _,fun i h=>absurd h (Nat.not_lt_zero _)⟩ ?_
  rintro i ⟨hi,hnm⟩
  repeat' (first|refine d1 ?_|refine dd ?_|(show ∀ _:Nat,T _ _ _ _ _;intro _))
  refine T_if rfl (fun h6=>?_) (fun h6=>?_)
  ·simp only [decide_eq_true_eq] at h6
   obtain⟨s,hs⟩:∃ s,ns[i]?=some s:=⟨_,List.getElem?_eq_getElem (by omega)⟩
   have hs1:=src_str ht.s2 (k:=i) (by omega) hs
   have hsd:ns.getD i ByteArray.empty=s:=by rw [List.getD_eq_getElem?_getD,hs];rfl
   have hfg:((flgT ps j j).map Value.bool)[0+((i:Nat):Int).toNat * 1]?=some (.bool (decide (kdsI ps i j≠[]))):=by
    rw [show 0+((i:Nat):Int).toNat * 1=i by omega,List.getElem?_map,flgT_get (by omega)];rfl
   generalize hfe:decide (kdsI ps i j≠[])=fe at hfg
   repeat' (first|refine d1 ?_|refine dd ?_|(show T _ (.ops _ (_::_)::_) _ _ _;first|refine T_val rfl (Val.load rfl (fun hg=>rdOld hs1)) rfl rfl rfl ?_|refine T_valC rfl (Val.load rfl (fun hg=>rdOld hs1)) rfl rfl rfl rfl rfl ?_|refine T_val rfl (Val.load rfl (fun hg=>rdOwn1 (b:=b3) hfg)) rfl rfl rfl ?_|refine T_valC rfl (Val.load rfl (fun hg=>rdOwn1 (b:=b3) hfg)) rfl rfl rfl rfl rfl ?_)|(show T _ (.run _ _ (_::_) _ _::_) _ _ _;first|refine rv rfl rfl rfl (Val.load rfl (fun hg=>rdOld hs1)) rfl rfl rfl ?_|refine rg rfl rfl rfl (Val.load rfl (fun hg=>rdOld hs1)) rfl rfl rfl rfl rfl ?_|refine rv rfl rfl rfl (Val.load rfl (fun hg=>rdOwn1 (b:=b3) hfg)) rfl rfl rfl ?_|refine rg rfl rfl rfl (Val.load rfl (fun hg=>rdOwn1 (b:=b3) hfg)) rfl rfl rfl rfl rfl ?_)|(show ∀ _:Nat,T _ _ _ _ _;intro _))
   have hse:decide (s=(⟨#[]⟩:ByteArray))=decide (s=ByteArray.empty):=rfl
   rw [hse]
   refine T_if rfl (fun h7=>?_) (fun h7=>?_)
   ·simp only [Bool.and_eq_true,decide_eq_true_eq] at h7
    obtain⟨rfl,h7⟩:=h7
    simp only [decide_eq_true_eq] at hfe
    repeat' (first|refine d1 ?_|(show ∀ _:Nat,T _ _ _ _ _;intro _))
    refine T_backX (i+1) ⟨by omega,fun k hk=>?_⟩ (by omega)
    by_cases e:k=i
    ·subst e;exact⟨fun _=>by rw [hsd];exact h7,fun h=>absurd h hfe⟩
    ·exact hnm k (by omega)
   ·repeat' (first|refine d1 ?_|(show T _ (.ops _ (_::_)::_) _ _ _;first|refine T_val rfl (Val.load rfl (fun hg=>rdOwn1 (b:=b3) hfg)) rfl rfl rfl ?_|refine T_valC rfl (Val.load rfl (fun hg=>rdOwn1 (b:=b3) hfg)) rfl rfl rfl rfl rfl ?_|refine T_call rfl rfl rfl rfl rfl (fun w hw=>namedTree_spec s (ht.nm s (List.mem_of_getElem? hs)) w) ?_|refine T_callC rfl rfl rfl rfl rfl rfl rfl (fun hg w hw=>namedTree_spec s (ht.nm s (List.mem_of_getElem? hs)) w) ?_)|(show T _ (.run _ _ (_::_) _ _::_) _ _ _;first|refine rv rfl rfl rfl (Val.load rfl (fun hg=>rdOwn1 (b:=b3) hfg)) rfl rfl rfl ?_|refine rg rfl rfl rfl (Val.load rfl (fun hg=>rdOwn1 (b:=b3) hfg)) rfl rfl rfl rfl rfl ?_|refine rc rfl rfl rfl rfl rfl rfl rfl (fun w hw=>namedTree_spec s (ht.nm s (List.mem_of_getElem? hs)) w) ?_|refine rcG rfl rfl rfl rfl rfl rfl rfl rfl rfl (fun hg w hw=>namedTree_spec s (ht.nm s (List.mem_of_getElem? hs)) w) ?_)|(show ∀ _:Nat,T _ _ _ _ _;intro _))
    have hkj:kdsI ps i ps.length=kdsI ps i j:=by rw [hl1]
    refine T_if rfl (fun h8=>?_) (fun h8=>?_)
    ·repeat' (first|refine d1 ?_|refine dd ?_|(show ∀ _:Nat,T _ _ _ _ _;intro _)|(show T _ (.code .ret::_) _ _ _;refine T_retV [] rfl (Hle.none _) ⟨14,⟨fun h=>by omega,fun h=>?_⟩,rfl,rfl⟩))
     exfalso
     cases fe with
     | true =>
      simp only [decide_eq_true_eq] at hfe
      have h9:=h.inn i (by omega) (by rw [hkj];exact hfe)
      rw [hsd] at h9
      simp [h9] at h7
     | false =>
      simp only [decide_eq_false_iff_not,Classical.not_not] at hfe
      have h9:=h.lf i (by omega) (by rw [hkj];exact hfe)
      rw [hsd] at h9
      simp [h9.1] at h8
    ·simp only [Bool.or_eq_false_iff,Bool.not_eq_false'] at h8
     obtain⟨rfl,h8⟩:=h8
     simp only [decide_eq_false_iff_not,Classical.not_not] at hfe
     have htk:Src w 1 (some ⟨g2,o2,none⟩) i ((ns.take i).map Value.string):=by
      have:=src_takeT ht.s2 i (by omega)
      rwa [← List.map_take] at this
     repeat' (first|refine d1 ?_|refine dd ?_|(show T _ (.ops _ (_::_)::_) _ _ _;first|refine T_call rfl rfl rfl rfl rfl (fun w hw=>containsStr_spec (some ⟨g2,o2,none⟩) i c2 (ns.take i) s w (src_below htk hw.below) (by rw [List.length_take];omega) (by omega)) ?_|refine T_callC rfl rfl rfl rfl rfl rfl rfl (fun hg w hw=>containsStr_spec (some ⟨g2,o2,none⟩) i c2 (ns.take i) s w (src_below htk hw.below) (by rw [List.length_take];omega) (by omega)) ?_)|(show T _ (.run _ _ (_::_) _ _::_) _ _ _;first|refine rc rfl rfl rfl rfl rfl rfl rfl (fun w hw=>containsStr_spec (some ⟨g2,o2,none⟩) i c2 (ns.take i) s w (src_below htk hw.below) (by rw [List.length_take];omega) (by omega)) ?_|refine rcG rfl rfl rfl rfl rfl rfl rfl rfl rfl (fun hg w hw=>containsStr_spec (some ⟨g2,o2,none⟩) i c2 (ns.take i) s w (src_below htk hw.below) (by rw [List.length_take];omega) (by omega)) ?_)|(show ∀ _:Nat,T _ _ _ _ _;intro _))
     refine T_if rfl (fun h9=>?_) (fun h9=>?_)
     ·repeat' (first|refine d1 ?_|refine dd ?_|(show ∀ _:Nat,T _ _ _ _ _;intro _)|(show T _ (.code .ret::_) _ _ _;refine T_retV [] rfl (Hle.none _) ⟨7,⟨fun h=>by omega,fun h=>?_⟩,rfl,rfl⟩))
      exfalso
      have h10:=(h.lf i (by omega) (by rw [hkj];exact hfe)).2
      rw [hsd] at h10
      exact h10 (has22_iff.1 h9)
     ·repeat' (first|refine d1 ?_|(show ∀ _:Nat,T _ _ _ _ _;intro _))
      refine T_backX (i+1) ⟨by omega,fun k hk=>?_⟩ (by omega)
      by_cases e:k=i
      ·subst e
       exact⟨fun h=>absurd hfe h,fun _=>by rw [hsd];exact⟨h8,fun h=>by rw [has22_iff.2 h] at h9;cases h9⟩⟩
      ·exact hnm k (by omega)
  ·simp only [decide_eq_false_iff_not] at h6
   obtain rfl:i=j:=by omega
   repeat' (first|refine d1 ?_|refine dd ?_|(show ∀ _:Nat,T _ _ _ _ _;intro _)|(show T _ (.code .ret::_) _ _ _;refine T_retV [] rfl (Hle.none _) ⟨0,⟨fun _=>⟨by omega,by omega,by omega,hup,fun k hk h=>(hnm k (by omega)).1 (by rw [← hl1];exact h),fun k hk h=>(hnm k (by omega)).2 (by rw [← hl1];exact h)⟩,fun _=>rfl⟩,rfl,rfl⟩))
end Go.Proofs.YtabhdaehomjlgaaGreat
namespace Go.Proofs.YtabhdaehomjlgaaGreat
open Go.RowKit Go.Shelf Go.Proofs
set_option maxRecDepth 100000
set_option maxHeartbeats 1000000

def lfM (ns:List ByteArray) (m:Nat):List Nat:=(List.range m).filter fun i=>decide (ns.getD i ByteArray.empty≠ByteArray.empty)
def lfI (ns:List ByteArray):List Nat:=lfM ns ns.length
def numsV (l:List Nat):List Value:=l.map fun (i:Nat) => .int .i64 (i:Int)
theorem lfM_succ (ns:List ByteArray) (m:Nat):lfM ns (m+1)=lfM ns m++(if ns.getD m ByteArray.empty=ByteArray.empty then [] else [m]):=by
 unfold lfM
 rw [List.range_succ,List.filter_append]
 congr 1
 by_cases h:ns.getD m ByteArray.empty=ByteArray.empty
 ·rw [if_pos h,List.filter_cons_of_neg (by simpa using h)];rfl
 ·rw [if_neg h,List.filter_cons_of_pos (by simpa using h)];rfl
theorem lfM_le (ns:List ByteArray) (m:Nat):(lfM ns m).length≤m:=by
 have:=List.length_filter_le (fun i=>decide (ns.getD i ByteArray.empty≠ByteArray.empty)) (List.range m)
 rw [List.length_range] at this
 exact this
theorem leavesTree_spec (A1 A2:Option Addr) (n1 c1 n2 c2:Nat) (ps:List Int) (ns:List ByteArray) (w:World) (ht:TrA w A1 n1 c1 A2 n2 c2 ps ns) :
  Spec Tryz.prog 24 [.agg #[.slice A1 n1 c1, .slice A2 n2 c2]] w (fun v R=>(¬ tOk ps ns∧v = .tuple #[.slice none 0 0, .int .i64 1]∧R=[]) ∨
   (tOk ps ns∧∃ y:Option Addr × Nat,v = .tuple #[.slice y.1 (lfI ns).length y.2, .int .i64 0]∧R=[row 3 1 y.1 y.2 (lfI ns).length (numsV (lfI ns))])):=by
 refine spec_of sg Tryz.func24 rfl rfl rfl ?_
 repeat' (first|(show T _ (.ops _ (⟨_, .box _ _,_,_,_,_⟩::_)::_) _ _ _;refine T_op (OpT.box (cs:=[.slice A1 n1 c1, .slice A2 n2 c2]) rfl rfl rfl rfl rfl rfl rfl (fun _=>?_)))|refine d1 ?_|(show ∀ _:Nat,T _ _ _ _ _;intro _))
 refine T_op (OpT.call rfl rfl rfl rfl rfl (fun w hw=>checkTree_spec A1 A2 n1 c1 n2 c2 ps ns w (ht.cls hw)) ?_)
 rintro u R ⟨e,he,rfl,rfl⟩
 rw [List.nil_append]
 repeat' (first|refine d1 ?_|(show ∀ _:Nat,T _ _ _ _ _;intro _))
 refine T_if rfl (fun h=>?_) (fun h=>?_)
 ·simp only [Bool.not_eq_true',decide_eq_false_iff_not] at h
  repeat' (first|refine d1 ?_|refine dd ?_|(show ∀ _:Nat,T _ _ _ _ _;intro _)|(show T _ (.code .ret::_) _ _ _;refine T_retV [] rfl (Hle.none _) (.inl ⟨fun h2=>h (he.2 h2),rfl,rfl⟩)))
 simp only [Bool.not_eq_false',decide_eq_true_eq] at h
 have hok:=he.1 h
 have hl2:=ht.l2
 have hlen:=hok.len
 have hn64:=hok.n64
 have hpos:=hok.pos
 obtain⟨g2,o2,rfl⟩:=ht.s2.base (by omega)
 repeat' (first|refine d1 ?_|(show ∀ _:Nat,T _ _ _ _ _;intro _))
 refine T_nilrow 3 1 ?_
 refine T_loopX (fun s:Nat × (Option Addr × Nat)=>[(13, .int .i64 (s.1:Nat)),(4, .slice s.2.1 (lfM ns s.1).length s.2.2)]) (fun s=>[row 3 1 s.2.1 s.2.2 (lfM ns s.1).length (numsV (lfM ns s.1))])
  (fun s=>s.1≤n2) (fun s=>n2 - s.1) (0,(none,0)) (Nat.zero_le _) (hG:=(by exact Hle.append_left (A:=[_]) _)) ?_
 rintro⟨i,⟨A',c'⟩⟩ hi
 dsimp only at hi ⊢
 have hle:=lfM_le ns i
 repeat' (first|refine d1 ?_|refine dd ?_|(show ∀ _:Nat,T _ _ _ _ _;intro _))
 refine T_if rfl (fun h6=>?_) (fun h6=>?_)
 ·simp only [decide_eq_true_eq] at h6
  obtain⟨s,hs⟩:∃ s,ns[i]?=some s:=⟨_,List.getElem?_eq_getElem (by omega)⟩
  have hs1:=src_str ht.s2 (k:=i) (by omega) hs
  have hsd:ns.getD i ByteArray.empty=s:=by rw [List.getD_eq_getElem?_getD,hs];rfl
  have hsu:=lfM_succ ns i
  rw [hsd] at hsu
  repeat' (first|refine d1 ?_|refine dd ?_|(show T _ (.ops _ (_::_)::_) _ _ _;first|refine T_val rfl (Val.load rfl (fun hg=>rdOld hs1)) rfl rfl rfl ?_|refine T_valC rfl (Val.load rfl (fun hg=>rdOld hs1)) rfl rfl rfl rfl rfl ?_)|(show T _ (.run _ _ (_::_) _ _::_) _ _ _;first|refine rv rfl rfl rfl (Val.load rfl (fun hg=>rdOld hs1)) rfl rfl rfl ?_|refine rg rfl rfl rfl (Val.load rfl (fun hg=>rdOld hs1)) rfl rfl rfl rfl rfl ?_)|(show ∀ _:Nat,T _ _ _ _ _;intro _))
  rw [show decide (s=(⟨#[]⟩:ByteArray))=decide (s=ByteArray.empty) from rfl]
  refine T_if rfl (fun h7=>?_) (fun h7=>?_)
  ·have h8:¬ s=ByteArray.empty:=by simpa using h7
   rw [if_neg h8] at hsu
   repeat' (first|refine d1 ?_|(show T _ (.ops _ (_::_)::_) _ _ _;first|refine T_op (OpT.litW rfl rfl rfl rfl rfl rfl rfl rfl rfl rfl rfl (fun _=>?_))|refine T_op (OpT.append (A:=A') rfl rfl rfl rfl rfl rfl rfl rfl rfl rfl (fun w hw=>Src.own hw rfl) rfl (by dsimp only;omega) (by omega) (fun A9 c9 hA9=>?_)))|(show ∀ _:Nat,T _ _ _ _ _;intro _))
   refine T_backX (i+1,(A9,c9)) ?_ ?_ (hE:=⟨rfl,?_,trivial⟩) (hG:=?_)
   ·dsimp only;omega
   ·dsimp only;omega
   ·dsimp only;rw [hsu,List.length_append];rfl
   ·dsimp only;rw [hsu,List.length_append];unfold numsV;rw [List.map_append];exact Hle.tail _ _
  ·have h8:s=ByteArray.empty:=by simpa using h7
   rw [if_pos h8,List.append_nil] at hsu
   repeat' (first|refine d1 ?_|(show ∀ _:Nat,T _ _ _ _ _;intro _))
   refine T_backX (i+1,(A',c')) ?_ ?_ (hE:=⟨rfl,?_,trivial⟩) (hG:=?_)
   ·dsimp only;omega
   ·dsimp only;omega
   ·dsimp only;rw [hsu];rfl
   ·dsimp only;rw [hsu];exact Hle.refl _
 ·simp only [decide_eq_false_iff_not] at h6
  obtain rfl:i=n2:=by omega
  have hlf:lfI ns=lfM ns i:=by unfold lfI;rw [hl2]
  rw [← hlf]
  repeat' (first|refine d1 ?_|refine dd ?_|(show ∀ _:Nat,T _ _ _ _ _;intro _)|(show T _ (.code .ret::_) _ _ _;refine T_retV _ rfl (Hle.refl _) (.inr ⟨hok,(A',c'),rfl,rfl⟩)))
theorem szNL_er:∀ ks:List Ln,(∀ k∈ks,szN k=cntN (er k))→szNL ks=cntNL (ks.map er)
 | [],_=>rfl
 | k::r,h=>by rw [szNL,List.map_cons,cntNL,h k (.head _),szNL_er r fun y hy=>h y (.tail _ hy)]
theorem szN_er (x:Ln):szN x=cntN (er x):=by
 refine ln_ind (p:=fun x=>szN x=cntN (er x)) (fun b A c a o ks ih=>?_) x
 rw [szN_mk,er_mk,cntN,szNL_er ks ih,Nat.add_comm]
def canN (x:Nd):Nd:=srtN (ctr x)
theorem hle_ti0 {A B C D E:HA} {H:List HA}:Hle (A::B::C::D::E::H) (E::C::D::H):=hle_pm [4,2,3] [A,B,C,D,E] H
theorem hle_ti1 {A B C D E F:HA} {H:List HA}:Hle (A::B::C::D::E::F::H) [C,A,B]:=(hle_pm [2,0,1] [A,B,C,D,E,F] H).trans (Hle.append_left (A:=[C,A,B]) H)
theorem made_spec (x:Ln) (w0:World) (K:List HA) (hsz:szN x≤100000) (hc:cntN (canN (er x))≤64) (hnd:(nmsN (ctr (er x))).Nodup) (h12:(nmsN (ctr (er x))).length≤12) :
  SpecB Tryz.prog 63 [lnV x] w0 (tre 97 92 x::K) (fun v R=>∃ s:(Option Addr × Nat) × (Option Addr × Nat),True ∧
   v = .tuple #[.agg #[.slice s.1.1 (cntN (canN (er x))) s.1.2, .slice s.2.1 (cntN (canN (er x))) s.2.2], .int .i64 0] ∧
   R=row 3 1 s.1.1 s.1.2 (cntN (canN (er x))) ((prsN (-1) 0 (canN (er x))).map (Value.int .i64))::row 9 1 s.2.1 s.2.2 (cntN (canN (er x))) ((nmP (canN (er x))).map Value.string)::K):=by
 refine specB_of sg Tryz.func63 rfl rfl rfl ?_
 have hct:=cntN_ctr (er x)
 have hsx:=szN_er x
 repeat' (first|refine d1 ?_|(show ∀ _:Nat,T _ _ _ _ _;intro _))
 rename_i t2
 refine T_le hle_swap ?_
 refine T_op (OpT.callB rfl rfl rfl rfl rfl (contracted_spec 100000 x w0 _ hsz (Nat.le_refl _)) ?_)
 rintro u R ⟨y,hy,rfl,rfl⟩
 have hsy:=szN_er y
 rw [hy] at hsy
 repeat' (first|refine d1 ?_|(show ∀ _:Nat,T _ _ _ _ _;intro _))
 refine T_op (OpT.callB rfl rfl rfl rfl rfl (sorted_spec 100000 y w0 _ (by omega) (Nat.le_refl _) (by rw [hy];exact hnd) (by rw [hy];exact h12)) ?_)
 rintro u R ⟨z,hz,hzb,rfl,rfl⟩
 rw [show lnV y=lnV z by unfold lnV;rw [hzb]]
 have hez:er z=canN (er x):=by rw [hz,hy];rfl
 have hsz2:=szN_er z
 rw [hez] at hsz2
 repeat' (first|refine d1 ?_|(show ∀ _:Nat,T _ _ _ _ _;intro _))
 refine T_op (OpT.callB rfl rfl rfl rfl rfl (tree_spec z w0 _ (by omega) (by rw [hez];omega)) ?_)
 rintro u R ⟨⟨⟨A1,c1⟩,⟨A2,c2⟩⟩,-,rfl,rfl⟩
 dsimp only
 rw [hez]
 generalize canN (er x)=q at hc ⊢
 repeat' (first|refine d1 ?_|refine dd ?_|(show ∀ _:Nat,T _ _ _ _ _;intro _))
 refine T_if rfl (fun h=>?_) (fun h=>?_)
 ·simp only [decide_eq_true_eq] at h;exfalso;omega
 repeat' (first|refine d1 ?_|(show ∀ _:Nat,T _ _ _ _ _;intro _))
 refine T_le (H':=blk t2 [.slice A1 (cntN q) c1, .slice A2 (cntN q) c2] 30::row 3 1 A1 c1 (cntN q) ((prsN (-1) 0 q).map (Value.int .i64))::row 9 1 A2 c2 (cntN q) ((nmP q).map Value.string)::K) hle_ti0 ?_
 exact T_retM (vs:=[.agg #[.slice A1 (cntN q) c1, .slice A2 (cntN q) c2], .int .i64 0]) _ ⟨⟨t2,_,[.slice A1 (cntN q) c1, .slice A2 (cntN q) c2],rfl,rfl,rfl,rfl,(fun h=>by cases h),rfl,rdAll⟩,rfl,trivial⟩ (Hle.tail _ _) ⟨((A1,c1),(A2,c2)),trivial,rfl,rfl⟩
theorem keepC_spec (A:Option Addr) (n c:Nat) (ks:List Int) (w:World) (p3 b:Nat) (o:Int) (h3:RdC w p3 0 [.slice A n c]) (hs:Src w 1 A n (ks.map (Value.int .i64))) (hn:ks.length=n) (hb:n≤1000000) (ho:RdC w b 2 [.int .i64 o]) :
  Spec Tryz.prog 66 [.pointer (some ⟨b,0,none⟩), .pointer (some ⟨p3,0,none⟩)] w (fun v R=>v = .bool (ks.any fun x=>decide (o=x))∧R=[]):=by
 refine spec_of sg Tryz.func66 rfl rfl rfl ?_
 have ho2:RdC w b (0+2) [.int .i64 o]:=ho
 repeat' (first|refine d1 ?_|refine dd ?_|(show T _ (.ops _ (_::_)::_) _ _ _;first|refine T_val rfl (Val.nilc rfl) rfl rfl rfl ?_|refine T_valC rfl (Val.nilc rfl) rfl rfl rfl rfl rfl ?_|refine T_val rfl (Val.load rfl (fun hg=>rdOld h3)) rfl rfl rfl ?_|refine T_valC rfl (Val.load rfl (fun hg=>rdOld h3)) rfl rfl rfl rfl rfl ?_|refine T_val rfl (Val.load rfl (fun hg=>rdOld ho2)) rfl rfl rfl ?_|refine T_valC rfl (Val.load rfl (fun hg=>rdOld ho2)) rfl rfl rfl rfl rfl ?_|refine T_call rfl rfl rfl rfl rfl (fun w hw=>containsI_spec A n c ks o w (src_below hs hw.below) hn (by omega)) ?_|refine T_callC rfl rfl rfl rfl rfl rfl rfl (fun hg w hw=>containsI_spec A n c ks o w (src_below hs hw.below) hn (by omega)) ?_)|(show T _ (.run _ _ (_::_) _ _::_) _ _ _;first|refine rv rfl rfl rfl (Val.nilc rfl) rfl rfl rfl ?_|refine rg rfl rfl rfl (Val.nilc rfl) rfl rfl rfl rfl rfl ?_|refine rv rfl rfl rfl (Val.load rfl (fun hg=>rdOld h3)) rfl rfl rfl ?_|refine rg rfl rfl rfl (Val.load rfl (fun hg=>rdOld h3)) rfl rfl rfl rfl rfl ?_|refine rv rfl rfl rfl (Val.load rfl (fun hg=>rdOld ho2)) rfl rfl rfl ?_|refine rg rfl rfl rfl (Val.load rfl (fun hg=>rdOld ho2)) rfl rfl rfl rfl rfl ?_|refine rc rfl rfl rfl rfl rfl rfl rfl (fun w hw=>containsI_spec A n c ks o w (src_below hs hw.below) hn (by omega)) ?_|refine rcG rfl rfl rfl rfl rfl rfl rfl rfl rfl (fun hg w hw=>containsI_spec A n c ks o w (src_below hs hw.below) hn (by omega)) ?_)|(show ∀ _:Nat,T _ _ _ _ _;intro _)|(show T _ (.code .ret::_) _ _ _;refine T_retV [] rfl (Hle.none _) ⟨rfl,rfl⟩))
structure keepOk (ns:List ByteArray) (ks:List Int):Prop where
 ne:ks≠[]
 lf:∀ k∈ks,0≤k∧k<(ns.length:Nat)∧ns.getD k.toNat ByteArray.empty≠ByteArray.empty
 inc:∀ (i:Nat) (a b:Int),ks[i]?=some a→ks[i+1]?=some b→a<b
theorem restrict_spec (A1 A2 Ak:Option Addr) (n1 c1 n2 c2 nk ck:Nat) (ps:List Int) (ns:List ByteArray) (ks:List Int) (y:Nd) (w:World) (ht:TrA w A1 n1 c1 A2 n2 c2 ps ns) (hk:Src w 1 Ak nk (ks.map (Value.int .i64))) (hnk:ks.length=nk) (hkb:nk≤1000000)
  (hok:tOk ps ns) (hko:keepOk ns ks) (hy:prn (fun o=>ks.any fun x=>decide (o=x)) (ndOf ps ns)=some y) (hnd:(nmsN y).Nodup) (h12:(nmsN y).length≤12) :
  Spec Tryz.prog 21 [.agg #[.slice A1 n1 c1, .slice A2 n2 c2], .slice Ak nk ck] w (fun v R=>∃ s:(Option Addr × Nat) × (Option Addr × Nat),True ∧
   v = .tuple #[.agg #[.slice s.1.1 (cntN (canN y)) s.1.2, .slice s.2.1 (cntN (canN y)) s.2.2], .int .i64 0] ∧
   R=[row 3 1 s.1.1 s.1.2 (cntN (canN y)) ((prsN (-1) 0 (canN y)).map (Value.int .i64)),row 9 1 s.2.1 s.2.2 (cntN (canN y)) ((nmP (canN y)).map Value.string)]):=by
 refine spec_of sg Tryz.func21 rfl rfl rfl ?_
 repeat' (first|(show T _ (.ops _ (⟨_, .box _ _,_,_,_,_⟩::_)::_) _ _ _;first|refine T_op (OpT.box (cs:=[.slice A1 n1 c1, .slice A2 n2 c2]) rfl rfl rfl rfl rfl rfl rfl (fun _=>?_))|refine T_op (OpT.box (cs:=[.slice Ak nk ck]) rfl rfl rfl rfl rfl rfl rfl (fun _=>?_)))|refine d1 ?_|(show ∀ _:Nat,T _ _ _ _ _;intro _))
 rename_i t2 t3 t4
 refine T_le (H':=[blk t4 [.slice none 0 0, .slice none 0 0] 30,blk t2 [.slice A1 n1 c1, .slice A2 n2 c2] 30,blk t3 [.slice Ak nk ck] 24]) (hle_pm [0,2,1] [_,_,_] []) ?_
 refine T_op (OpT.call rfl rfl rfl rfl rfl (fun w hw=>checkTree_spec A1 A2 n1 c1 n2 c2 ps ns w (ht.cls hw)) ?_)
 rintro u R ⟨e,he,rfl,rfl⟩
 rw [List.nil_append]
 have he0:=he.2 hok
 subst he0
 have hk0:0<nk:=by rw [← hnk];exact List.length_pos_iff.2 hko.ne
 have hl1:=ht.l1
 have hl2:=ht.l2
 have hlen:=hok.len
 have hb1:=ht.b1
 have hpos:=hok.pos
 obtain⟨gk,ok,rfl⟩:=hk.base hk0
 obtain⟨g2,o2,rfl⟩:=ht.s2.base (by omega)
 repeat' (first|refine d1 ?_|(show ∀ _:Nat,T _ _ _ _ _;intro _))
 refine T_if rfl (fun h=>by cases h) (fun _=>?_)
 repeat' (first|refine d1 ?_|(show ∀ _:Nat,T _ _ _ _ _;intro _))
 refine T_if rfl (fun h=>?_) (fun h=>?_)
 ·simp only [decide_eq_true_eq] at h;exfalso;omega
 repeat' (first|refine d1 ?_|(show ∀ _:Nat,T _ _ _ _ _;intro _))
 refine T_loopX (fun i:Nat=>[(18, .int .i64 (i:Nat))]) (fun _=>[blk t4 [.slice none 0 0, .slice none 0 0] 30,blk t2 [.slice A1 n1 c1, .slice (some ⟨g2,o2,none⟩) n2 c2] 30,blk t3 [.slice (some ⟨gk,ok,none⟩) nk ck] 24]) (fun i=>i≤nk) (fun i=>nk - i) 0 (Nat.zero_le _) ?_
 intro i hi
 repeat' (first|refine d1 ?_|refine dd ?_|(show ∀ _:Nat,T _ _ _ _ _;intro _))
 refine T_if rfl (fun h6=>?_) (fun h6=>?_)
 ·simp only [decide_eq_true_eq] at h6
  obtain⟨k,hki⟩:∃ k,ks[i]?=some k:=⟨_,List.getElem?_eq_getElem (by omega)⟩
  obtain⟨hk1,hk2,hk3⟩:=hko.lf k (List.mem_of_getElem? hki)
  have hr1:=src_int hk (k:=i) (by omega) hki
  obtain⟨q,rfl⟩:=Int.eq_ofNat_of_zero_le hk1
  obtain⟨s,hs⟩:∃ s,ns[q]?=some s:=⟨_,List.getElem?_eq_getElem (by omega)⟩
  have hs1:=src_str ht.s2 (k:=q) (by omega) hs
  have hsd:ns.getD q ByteArray.empty=s:=by rw [List.getD_eq_getElem?_getD,hs];rfl
  rw [Int.toNat_natCast,hsd] at hk3
  repeat' (first|refine d1 ?_|(show T _ (.ops _ (_::_)::_) _ _ _;first|refine T_val rfl (Val.load rfl (fun hg=>rdOld hr1)) rfl rfl rfl ?_|refine T_valC rfl (Val.load rfl (fun hg=>rdOld hr1)) rfl rfl rfl rfl rfl ?_)|(show T _ (.run _ _ (_::_) _ _::_) _ _ _;first|refine rv rfl rfl rfl (Val.load rfl (fun hg=>rdOld hr1)) rfl rfl rfl ?_|refine rg rfl rfl rfl (Val.load rfl (fun hg=>rdOld hr1)) rfl rfl rfl rfl rfl ?_)|(show ∀ _:Nat,T _ _ _ _ _;intro _))
  refine T_if rfl (fun h7=>?_) (fun h7=>?_)
  ·simp only [Bool.or_eq_true,decide_eq_true_eq] at h7;exfalso;omega
  repeat' (first|refine d1 ?_|refine dd ?_|(show T _ (.ops _ (_::_)::_) _ _ _;first|refine T_val rfl (Val.load rfl (fun hg=>rdOld hs1)) rfl rfl rfl ?_|refine T_valC rfl (Val.load rfl (fun hg=>rdOld hs1)) rfl rfl rfl rfl rfl ?_)|(show T _ (.run _ _ (_::_) _ _::_) _ _ _;first|refine rv rfl rfl rfl (Val.load rfl (fun hg=>rdOld hs1)) rfl rfl rfl ?_|refine rg rfl rfl rfl (Val.load rfl (fun hg=>rdOld hs1)) rfl rfl rfl rfl rfl ?_)|(show ∀ _:Nat,T _ _ _ _ _;intro _))
  rw [show decide (s=(⟨#[]⟩:ByteArray))=decide (s=ByteArray.empty) from rfl]
  refine T_if rfl (fun h8=>?_) (fun h8=>?_)
  ·simp only [decide_eq_true_eq] at h8;exact absurd h8 hk3
  obtain⟨z,hz,hzl⟩:∃ z:Int,RdC w gk (ok+((i:Int) - 1).toNat * 1) [.int .i64 z]∧(0<i→z<(q:Nat)):=by
   obtain⟨z,hz⟩:∃ z,ks[i - 1]?=some z:=⟨_,List.getElem?_eq_getElem (by omega)⟩
   refine ⟨z,?_,fun e=>hko.inc (i - 1) z _ hz (by rw [show i - 1+1=i by omega];exact hki)⟩
   have:=src_int hk (k:=i - 1) (by omega) hz
   rwa [show ((i - 1:Nat):Int).toNat=((i:Int) - 1).toNat by omega] at this
  repeat' (first|refine d1 ?_|(show T _ (.ops _ (_::_)::_) _ _ _;first|refine T_val rfl (Val.load rfl (fun hg=>rdOld hz)) rfl rfl rfl ?_|refine T_valC rfl (Val.load rfl (fun hg=>rdOld hz)) rfl rfl rfl rfl rfl ?_)|(show T _ (.run _ _ (_::_) _ _::_) _ _ _;first|refine rv rfl rfl rfl (Val.load rfl (fun hg=>rdOld hz)) rfl rfl rfl ?_|refine rg rfl rfl rfl (Val.load rfl (fun hg=>rdOld hz)) rfl rfl rfl rfl rfl ?_)|(show ∀ _:Nat,T _ _ _ _ _;intro _))
  refine T_if rfl (fun h9=>?_) (fun h9=>?_)
  ·simp only [Bool.and_eq_true,decide_eq_true_eq] at h9
   have:=hzl (by omega)
   exfalso;omega
  repeat' (first|refine d1 ?_|(show ∀ _:Nat,T _ _ _ _ _;intro _))
  exact T_backX (i+1) (by omega) (by omega)
 ·simp only [decide_eq_false_iff_not] at h6
  have hp64:=hok.n64
  obtain rfl:n2=n1:=by omega
  repeat' (first|refine d1 ?_|(show ∀ _:Nat,T _ _ _ _ _;intro _))
  refine T_op (OpT.call rfl rfl rfl rfl rfl (fun w hw=>nodes_spec A1 (some ⟨g2,o2,none⟩) n2 c1 c2 ps ns w (src_below ht.s1 hw.below) (src_below ht.s2 hw.below) hl1 hl2 (by omega) (by omega) hok.up) ?_)
  rintro u R ⟨⟨b3,bs,x⟩,⟨hbl,hb0,hxe⟩,rfl,rfl⟩
  dsimp only at hbl hb0 hxe ⊢
  rw [List.cons_append,List.cons_append,List.nil_append]
  have hc0:(bs.map ptrV)[0+((0:Nat):Int).toNat * 1]?=some (lnV x):=by
   show (bs.map ptrV)[0]?=_
   rw [List.getElem?_map,hb0];rfl
  repeat' (first|refine d1 ?_|(show T _ (.ops _ (_::_)::_) _ _ _;first|refine T_val rfl (Val.load rfl (fun hg=>rdOwn1 (b:=b3) hc0)) rfl rfl rfl ?_|refine T_valC rfl (Val.load rfl (fun hg=>rdOwn1 (b:=b3) hc0)) rfl rfl rfl rfl rfl ?_)|(show T _ (.run _ _ (_::_) _ _::_) _ _ _;first|refine rv rfl rfl rfl (Val.load rfl (fun hg=>rdOwn1 (b:=b3) hc0)) rfl rfl rfl ?_|refine rg rfl rfl rfl (Val.load rfl (fun hg=>rdOwn1 (b:=b3) hc0)) rfl rfl rfl rfl rfl ?_)|(show ∀ _:Nat,T _ _ _ _ _;intro _))
  refine T_le (H':=tre 97 92 x::([blk t4 [.slice none 0 0, .slice none 0 0] 30,blk t2 [.slice A1 n2 c1, .slice (some ⟨g2,o2,none⟩) n2 c2] 30,blk b3 (bs.map ptrV) 92]++[blk t3 [.slice (some ⟨gk,ok,none⟩) nk ck] 24])) (hle_pm [1,2,3,0,4] [_,_,_,_,_] []) ?_
  have hsx:=szN_er x
  have hcx:=cntN_ndOf (ns:=ns) hok.up hpos
  rw [hxe,hcx] at hsx
  refine T_op (OpT.callB rfl rfl rfl rfl rfl (pruned_spec (fun o=>ks.any fun x=>decide (o=x)) 66 [.pointer (some ⟨t3,0,none⟩)] w [blk t3 [.slice (some ⟨gk,ok,none⟩) nk ck] 24] (fun w' hw' b o hr=>?_) 100000 x _ ⟨_,rfl⟩ (by omega) (Nat.le_refl _)) ?_)
  ·obtain⟨H,hw'⟩:=hw'
   have hi9:(H++[blk t3 [.slice (some ⟨gk,ok,none⟩) nk ck] 24])[H.length]?=some (blk t3 [.slice (some ⟨gk,ok,none⟩) nk ck] 24):=by
    rw [List.getElem?_append_right (Nat.le_refl _),Nat.sub_self];rfl
   exact keepC_spec (some ⟨gk,ok,none⟩) nk ck ks w' t3 b o (RdC.own hw' hi9 (fun j u hu=>by simpa using hu)) (src_below hk hw'.below) hnk hkb hr
  rw [hxe,hy]
  rintro u R (⟨h9,-,-⟩|⟨y9,h9,hs9,rfl,rfl⟩)
  ·cases h9
  have hye:er y9=y:=(Option.some.inj h9).symm
  have hcy:=cntN_prn _ _ y hy
  have hcc:=cntN_ctr y
  have hcs:cntN (canN y)=cntN (ctr y):=cntN_srt _
  have hnm9:nmsN (ctr y)=nmsN y:=by unfold nmsN;rw [ctr_lvs]
  have hmade:=made_spec y9 w ([blk t4 [.slice none 0 0, .slice none 0 0] 30,blk t2 [.slice A1 n2 c1, .slice (some ⟨g2,o2,none⟩) n2 c2] 30,blk b3 (bs.map ptrV) 92]++[blk t3 [.slice (some ⟨gk,ok,none⟩) nk ck] 24]) (by omega) (by rw [hye];omega) (by rw [hye,hnm9];exact hnd) (by rw [hye,hnm9];exact h12)
  rw [hye] at hmade
  repeat' (first|refine d1 ?_|(show ∀ _:Nat,T _ _ _ _ _;intro _))
  refine T_op (OpT.callB rfl rfl rfl rfl rfl hmade ?_)
  rintro u R ⟨⟨⟨A5,c5⟩,⟨A6,c6⟩⟩,-,rfl,rfl⟩
  dsimp only
  generalize canN y=q at hcs ⊢
  refine T_le (H':=blk t4 [.slice none 0 0, .slice none 0 0] 30::[row 3 1 A5 c5 (cntN q) ((prsN (-1) 0 q).map (Value.int .i64)),row 9 1 A6 c6 (cntN q) ((nmP q).map Value.string)]) hle_ti1 ?_
  repeat' (first|refine d1 ?_|(show ∀ _:Nat,T _ _ _ _ _;intro _))
  exact T_retM (vs:=[.agg #[.slice A5 (cntN q) c5, .slice A6 (cntN q) c6], .int .i64 0]) _ ⟨⟨t4,_,[.slice A5 (cntN q) c5, .slice A6 (cntN q) c6],rfl,rfl,rfl,rfl,(fun h=>by cases h),rfl,rdAll⟩,rfl,trivial⟩ (Hle.tail _ _) ⟨((A5,c5),(A6,c6)),trivial,rfl,rfl⟩
end Go.Proofs.YtabhdaehomjlgaaGreat
namespace Go.Proofs.YtabhdaehomjlgaaGreat
open Go.RowKit Go.Shelf Go.Proofs
set_option maxRecDepth 100000
set_option maxHeartbeats 1000000

def rowF (r:List Int) (k:Nat):Int:=r.getD k 0
def lstI (r:Nat→Int):Nat→Int
 | 0=>0
 | k+1=>if 0≤r k∧(lstK r k<0∨r k<lstK r k) then (k:Int) else lstI r k
def bstI (r:Nat→Int) (s:Nat):Nat→Int
 | 0=>0
 | k+1=>if r k<0 then bstI r s k else if bstK r s k<0∨dU s k+r k<bstK r s k then (k:Int) else bstI r s k
theorem leastRow_spec (A:Option Addr) (n c:Nat) (r:List Int) (w:World) (hs:Src w 1 A n (r.map (Value.int .i64))) (hn:r.length=n) (h0:0<n) (hb:n≤1000000) :
  Spec Tryz.prog 68 [.slice A n c] w (fun v R=>v = .tuple #[.int .i64 (lstK (rowF r) n), .int .i64 (lstI (rowF r) n)]∧R=[]):=by
 refine spec_of sg Tryz.func68 rfl rfl rfl ?_
 obtain⟨b,o,rfl⟩:=hs.base h0
 repeat' (first|refine d1 ?_|refine dd ?_|(show ∀ _:Nat,T _ _ _ _ _;intro _))
 refine T_loopX (fun i:Nat=>[(10, .int .i64 (i:Nat)),(4, .int .i64 (lstK (rowF r) i)),(5, .int .i64 (lstI (rowF r) i))]) (fun _=>[]) (fun i=>i≤n) (fun i=>n - i) 0 (Nat.zero_le _) ?_
 intro i hi
 repeat' (first|refine d1 ?_|refine dd ?_|(show ∀ _:Nat,T _ _ _ _ _;intro _))
 refine T_if rfl (fun h6=>?_) (fun h6=>?_)
 ·simp only [decide_eq_true_eq] at h6
  obtain⟨z,hz⟩:∃ z,r[i]?=some z:=⟨_,List.getElem?_eq_getElem (by omega)⟩
  have hz1:=src_int hs (k:=i) (by omega) hz
  have hzf:rowF r i=z:=by unfold rowF;rw [List.getD_eq_getElem?_getD,hz];rfl
  repeat' (first|refine d1 ?_|refine dd ?_|(show T _ (.ops _ (_::_)::_) _ _ _;first|refine T_val rfl (Val.load rfl (fun hg=>rdOld hz1)) rfl rfl rfl ?_|refine T_valC rfl (Val.load rfl (fun hg=>rdOld hz1)) rfl rfl rfl rfl rfl ?_)|(show T _ (.run _ _ (_::_) _ _::_) _ _ _;first|refine rv rfl rfl rfl (Val.load rfl (fun hg=>rdOld hz1)) rfl rfl rfl ?_|refine rg rfl rfl rfl (Val.load rfl (fun hg=>rdOld hz1)) rfl rfl rfl rfl rfl ?_)|(show ∀ _:Nat,T _ _ _ _ _;intro _))
  refine T_if rfl (fun h7=>?_) (fun h7=>?_)
  ·simp only [Bool.and_eq_true,Bool.or_eq_true,decide_eq_true_eq] at h7
   have h8:0≤rowF r i∧(lstK (rowF r) i<0∨rowF r i<lstK (rowF r) i):=by rw [hzf];exact h7
   repeat' (first|refine d1 ?_|(show ∀ _:Nat,T _ _ _ _ _;intro _))
   refine T_backX (i+1) (by omega) (by omega) (hE:=⟨rfl,?_,?_,trivial⟩)
   ·rw [lstK,if_pos h8,hzf];rfl
   ·rw [lstI,if_pos h8];rfl
  ·have h8:¬ (0≤rowF r i∧(lstK (rowF r) i<0∨rowF r i<lstK (rowF r) i)):=by
    rw [hzf];intro h9
    rw [Bool.eq_false_iff] at h7
    exact h7 (by simp only [Bool.and_eq_true,Bool.or_eq_true,decide_eq_true_eq];exact h9)
   repeat' (first|refine d1 ?_|(show ∀ _:Nat,T _ _ _ _ _;intro _))
   refine T_backX (i+1) (by omega) (by omega) (hE:=⟨rfl,?_,?_,trivial⟩)
   ·rw [lstK,if_neg h8];rfl
   ·rw [lstI,if_neg h8];rfl
 ·simp only [decide_eq_false_iff_not] at h6
  obtain rfl:i=n:=by omega
  repeat' (first|refine d1 ?_|refine dd ?_|(show ∀ _:Nat,T _ _ _ _ _;intro _)|(show T _ (.code .ret::_) _ _ _;refine T_retV [] rfl (Hle.none _) ⟨rfl,rfl⟩))
def uM:List (List Int):=(List.range 16).map fun i=>(List.range 16).map fun j=>dU i j
theorem bestRow_spec (Ac Ar:Option Addr) (cc cr s:Nat) (r:List Int) (w:World) (hc:Rd (wr w) [.slice Ac 16 cc] [rowsD uM]) (hs:Src w 1 Ar 16 (r.map (Value.int .i64))) (hn:r.length=16) (hs16:s<16) (hb:∀ x∈r,x≤1000000) :
  Spec Tryz.prog 110 [.slice Ac 16 cc, .int .i64 (s:Nat), .slice Ar 16 cr] w (fun v R=>v = .tuple #[.int .i64 (bstK (rowF r) s 16), .int .i64 (bstI (rowF r) s 16)]∧R=[]):=by
 refine spec_of sg Tryz.func110 rfl rfl rfl ?_
 obtain⟨b,o,rfl⟩:=hs.base (by omega)
 obtain⟨A2,c2,cs,e2,h1,h2,h3,h4,h5⟩:=hc.tab
 have hul:uM.length=16:=by unfold uM;rw [List.length_map,List.length_range]
 obtain⟨gc,oc,rfl,hcs⟩:=h4 (by omega)
 cases e2
 obtain⟨Aw,cw,hcw,hw1,hw2,hw3⟩:=h5.tabRow (i:=s) (r:=(List.range 16).map fun j=>dU s j) (by unfold uM;rw [List.getElem?_map,List.getElem?_range hs16];rfl)
 rw [List.length_map,List.length_range] at hcw hw3
 obtain⟨gw,ow,rfl,hwr⟩:=hw3 (by omega)
 have hrow:RdC w gc (oc+(s:Int).toNat * 1) [.slice (some ⟨gw,ow,none⟩) 16 cw]:=RdC.one (by rw [off1];exact hcs s _ hcw)
 repeat' (first|refine d1 ?_|refine dd ?_|(show ∀ _:Nat,T _ _ _ _ _;intro _))
 refine T_loopX (fun i:Nat=>[(15, .int .i64 (i:Nat)),(8, .int .i64 (bstK (rowF r) s i)),(9, .int .i64 (bstI (rowF r) s i))]) (fun _=>[]) (fun i=>i≤16) (fun i=>16 - i) 0 (Nat.zero_le _) ?_
 intro i hi
 repeat' (first|refine d1 ?_|refine dd ?_|(show ∀ _:Nat,T _ _ _ _ _;intro _))
 refine T_if rfl (fun h6=>?_) (fun h6=>?_)
 ·simp only [decide_eq_true_eq] at h6
  obtain⟨z,hz⟩:∃ z,r[i]?=some z:=⟨_,List.getElem?_eq_getElem (by omega)⟩
  have hz1:=src_int hs (k:=i) (by omega) hz
  have hzf:rowF r i=z:=by unfold rowF;rw [List.getD_eq_getElem?_getD,hz];rfl
  have hzb:=hb z (List.mem_of_getElem? hz)
  have hd:=dU_bd s i
  repeat' (first|refine d1 ?_|refine dd ?_|(show T _ (.ops _ (_::_)::_) _ _ _;first|refine T_val rfl (Val.load rfl (fun hg=>rdOld hz1)) rfl rfl rfl ?_|refine T_valC rfl (Val.load rfl (fun hg=>rdOld hz1)) rfl rfl rfl rfl rfl ?_)|(show T _ (.run _ _ (_::_) _ _::_) _ _ _;first|refine rv rfl rfl rfl (Val.load rfl (fun hg=>rdOld hz1)) rfl rfl rfl ?_|refine rg rfl rfl rfl (Val.load rfl (fun hg=>rdOld hz1)) rfl rfl rfl rfl rfl ?_)|(show ∀ _:Nat,T _ _ _ _ _;intro _))
  refine T_if rfl (fun h7=>?_) (fun h7=>?_)
  ·simp only [decide_eq_true_eq] at h7
   repeat' (first|refine d1 ?_|(show ∀ _:Nat,T _ _ _ _ _;intro _))
   refine T_backX (i+1) (by omega) (by omega) (hE:=⟨rfl,?_,?_,trivial⟩)
   ·rw [bstK,if_pos (by rw [hzf];exact h7)];rfl
   ·rw [bstI,if_pos (by rw [hzf];exact h7)];rfl
  ·simp only [decide_eq_false_iff_not] at h7
   have hz0:¬ rowF r i<0:=by rw [hzf];exact h7
   have hci:RdC w gw (ow+(i:Int).toNat * 1) [.int .i64 (dU s i)]:=RdC.one (by rw [off1];exact hwr i _ (by rw [List.getElem?_map,List.getElem?_range (by omega)];rfl))
   obtain⟨d,hde⟩:∃ d,d=dU s i:=⟨_,rfl⟩
   rw [← hde] at hci hd
   repeat' (first|refine d1 ?_|refine dd ?_|(show T _ (.ops _ (_::_)::_) _ _ _;first|refine T_val rfl (Val.load rfl (fun hg=>rdOld hrow)) rfl rfl rfl ?_|refine T_valC rfl (Val.load rfl (fun hg=>rdOld hrow)) rfl rfl rfl rfl rfl ?_|refine T_val rfl (Val.load rfl (fun hg=>rdOld hci)) rfl rfl rfl ?_|refine T_valC rfl (Val.load rfl (fun hg=>rdOld hci)) rfl rfl rfl rfl rfl ?_)|(show T _ (.run _ _ (_::_) _ _::_) _ _ _;first|refine rv rfl rfl rfl (Val.load rfl (fun hg=>rdOld hrow)) rfl rfl rfl ?_|refine rg rfl rfl rfl (Val.load rfl (fun hg=>rdOld hrow)) rfl rfl rfl rfl rfl ?_|refine rv rfl rfl rfl (Val.load rfl (fun hg=>rdOld hci)) rfl rfl rfl ?_|refine rg rfl rfl rfl (Val.load rfl (fun hg=>rdOld hci)) rfl rfl rfl rfl rfl ?_)|(show ∀ _:Nat,T _ _ _ _ _;intro _))
   refine T_if rfl (fun h8=>?_) (fun h8=>?_)
   ·simp only [Bool.or_eq_true,decide_eq_true_eq] at h8
    have h9:bstK (rowF r) s i<0∨dU s i+rowF r i<bstK (rowF r) s i:=by rw [hzf, ← hde];exact h8
    repeat' (first|refine d1 ?_|(show ∀ _:Nat,T _ _ _ _ _;intro _))
    refine T_backX (i+1) (by omega) (by omega) (hE:=⟨rfl,?_,?_,trivial⟩)
    ·rw [bstK,if_neg hz0,if_pos h9,hzf, ← hde];rfl
    ·rw [bstI,if_neg hz0,if_pos h9];rfl
   ·have h9:¬ (bstK (rowF r) s i<0∨dU s i+rowF r i<bstK (rowF r) s i):=by
     rw [hzf, ← hde];intro h9
     rw [Bool.eq_false_iff] at h8
     exact h8 (by simp only [Bool.or_eq_true,decide_eq_true_eq];exact h9)
    repeat' (first|refine d1 ?_|(show ∀ _:Nat,T _ _ _ _ _;intro _))
    refine T_backX (i+1) (by omega) (by omega) (hE:=⟨rfl,?_,?_,trivial⟩)
    ·rw [bstK,if_neg hz0,if_neg h9];rfl
    ·rw [bstI,if_neg hz0,if_neg h9];rfl
 ·simp only [decide_eq_false_iff_not] at h6
  obtain rfl:i=16:=by omega
  repeat' (first|refine d1 ?_|refine dd ?_|(show ∀ _:Nat,T _ _ _ _ _;intro _)|(show T _ (.code .ret::_) _ _ _;refine T_retV [] rfl (Hle.none _) ⟨rfl,rfl⟩))
end Go.Proofs.YtabhdaehomjlgaaGreat
namespace Go.Proofs.YtabhdaehomjlgaaGreat
open Go.RowKit Go.Shelf Go.Proofs
set_option maxRecDepth 100000
set_option maxHeartbeats 1000000

theorem knownC_spec (x lo hi:Int) (p6 p7:Nat) (w:World) (h6:RdC w p6 0 [.int .i64 lo]) (h7:RdC w p7 0 [.int .i64 hi]) :
  Spec Tryz.prog 107 [.int .i64 x, .pointer (some ⟨p6,0,none⟩), .pointer (some ⟨p7,0,none⟩)] w (fun v R=>v = .bool (decide (x<lo) || decide (hi≤x))∧R=[]):=by
 refine spec_of sg Tryz.func107 rfl rfl rfl ?_
 repeat' (first|refine d1 ?_|refine dd ?_|(show T _ (.ops _ (_::_)::_) _ _ _;first|refine T_val rfl (Val.load rfl (fun hg=>rdOld h6)) rfl rfl rfl ?_|refine T_valC rfl (Val.load rfl (fun hg=>rdOld h6)) rfl rfl rfl rfl rfl ?_|refine T_val rfl (Val.load rfl (fun hg=>rdOld h7)) rfl rfl rfl ?_|refine T_valC rfl (Val.load rfl (fun hg=>rdOld h7)) rfl rfl rfl rfl rfl ?_)|(show T _ (.run _ _ (_::_) _ _::_) _ _ _;first|refine rv rfl rfl rfl (Val.load rfl (fun hg=>rdOld h6)) rfl rfl rfl ?_|refine rg rfl rfl rfl (Val.load rfl (fun hg=>rdOld h6)) rfl rfl rfl rfl rfl ?_|refine rv rfl rfl rfl (Val.load rfl (fun hg=>rdOld h7)) rfl rfl rfl ?_|refine rg rfl rfl rfl (Val.load rfl (fun hg=>rdOld h7)) rfl rfl rfl rfl rfl ?_)|(show ∀ _:Nat,T _ _ _ _ _;intro _)|(show T _ (.code .ret::_) _ _ _;refine T_retV [] rfl (Hle.none _) ⟨rfl,rfl⟩))
def knE (st:List Int) (m lo hi:Int):Int:=if ¬ ((st.length:Nat):Int)=m then 9 else if (st.any fun x=>decide (x<lo) || decide (hi≤x))=true then 2 else 0
theorem known_spec (A:Option Addr) (n c:Nat) (st:List Int) (m lo hi:Int) (w:World) (hs:Src w 1 A n (st.map (Value.int .i64))) (hn:st.length=n) (hb:n≤1000000) :
  Spec Tryz.prog 67 [.slice A n c, .int .i64 m, .int .i64 lo, .int .i64 hi] w (fun v R=>v = .int .i64 (knE st m lo hi)∧R=[]):=by
 refine spec_of sg Tryz.func67 rfl rfl rfl ?_
 repeat' (first|(show T _ (.ops _ (⟨_, .box _ _,_,_,_,_⟩::_)::_) _ _ _;first|refine T_op (OpT.box (cs:=[.int .i64 lo]) rfl rfl rfl rfl rfl rfl rfl (fun _=>?_))|refine T_op (OpT.box (cs:=[.int .i64 hi]) rfl rfl rfl rfl rfl rfl rfl (fun _=>?_)))|refine d1 ?_|(show ∀ _:Nat,T _ _ _ _ _;intro _))
 rename_i p6 p7
 refine T_if rfl (fun h=>?_) (fun h=>?_)
 ·simp only [Bool.not_eq_true',decide_eq_false_iff_not] at h
  repeat' (first|refine d1 ?_|refine dd ?_|(show ∀ _:Nat,T _ _ _ _ _;intro _)|(show T _ (.code .ret::_) _ _ _;refine T_retV [] rfl (Hle.none _) ⟨congrArg (Value.int .i64) (by unfold knE;rw [if_pos (by rw [hn];exact h)]),rfl⟩))
 simp only [Bool.not_eq_false',decide_eq_true_eq] at h
 repeat' (first|refine d1 ?_|(show T _ (.ops _ (_::_)::_) _ _ _;first|refine T_call rfl rfl rfl rfl rfl (fun w hw=>containsFuncI_spec A n c st 107 [] [.pointer (some ⟨p6,0,none⟩), .pointer (some ⟨p7,0,none⟩)] (fun x=>decide (x<lo) || decide (hi≤x)) w (src_below hs hw.below) hn (by omega) (fun x hx w' hb'=>knownC_spec x lo hi p6 p7 w' ((rdAll w hw).below hb') ((rdAll w hw).below hb'))) ?_|refine T_callC rfl rfl rfl rfl rfl rfl rfl (fun hg w hw=>containsFuncI_spec A n c st 107 [] [.pointer (some ⟨p6,0,none⟩), .pointer (some ⟨p7,0,none⟩)] (fun x=>decide (x<lo) || decide (hi≤x)) w (src_below hs hw.below) hn (by omega) (fun x hx w' hb'=>knownC_spec x lo hi p6 p7 w' ((rdAll w hw).below hb') ((rdAll w hw).below hb'))) ?_)|(show T _ (.run _ _ (_::_) _ _::_) _ _ _;first|refine rc rfl rfl rfl rfl rfl rfl rfl (fun w hw=>containsFuncI_spec A n c st 107 [] [.pointer (some ⟨p6,0,none⟩), .pointer (some ⟨p7,0,none⟩)] (fun x=>decide (x<lo) || decide (hi≤x)) w (src_below hs hw.below) hn (by omega) (fun x hx w' hb'=>knownC_spec x lo hi p6 p7 w' ((rdAll w hw).below hb') ((rdAll w hw).below hb'))) ?_|refine rcG rfl rfl rfl rfl rfl rfl rfl rfl rfl (fun hg w hw=>containsFuncI_spec A n c st 107 [] [.pointer (some ⟨p6,0,none⟩), .pointer (some ⟨p7,0,none⟩)] (fun x=>decide (x<lo) || decide (hi≤x)) w (src_below hs hw.below) hn (by omega) (fun x hx w' hb'=>knownC_spec x lo hi p6 p7 w' ((rdAll w hw).below hb') ((rdAll w hw).below hb'))) ?_)|(show ∀ _:Nat,T _ _ _ _ _;intro _))
 refine T_if rfl (fun h2=>?_) (fun h2=>?_)
 ·repeat' (first|refine d1 ?_|refine dd ?_|(show ∀ _:Nat,T _ _ _ _ _;intro _)|(show T _ (.code .ret::_) _ _ _;refine T_retV [] rfl (Hle.none _) ⟨congrArg (Value.int .i64) (by unfold knE;rw [if_neg (by rw [hn];exact fun h9=>h9 h),if_pos h2]),rfl⟩))
 ·repeat' (first|refine d1 ?_|refine dd ?_|(show ∀ _:Nat,T _ _ _ _ _;intro _)|(show T _ (.code .ret::_) _ _ _;refine T_retV [] rfl (Hle.none _) ⟨congrArg (Value.int .i64) (by unfold knE;rw [if_neg (by rw [hn];exact fun h9=>h9 h),if_neg (by rw [h2];exact Bool.false_ne_true)]),rfl⟩))
theorem uRow_set {i:Nat} (h:i<16):(List.replicate 16 (Value.int .i64 1)).set (0+(i:Int).toNat * 1) (.int .i64 0)=((List.range 16).map fun j=>dU i j).map (Value.int .i64):=by
 rw [show 0+(i:Int).toNat * 1=i by omega]
 have h16:∀ i,i<16→(List.replicate 16 (1:Int)).set i 0=(List.range 16).map fun j=>dU i j:=by decide
 rw [← h16 i h,List.map_set,List.map_replicate]
def hdrT (n:Nat) (hs:List Value):List Value:=hs++List.replicate (n - hs.length) (.slice none 0 0)
theorem hdrT_len {n:Nat} {hs:List Value} (h:hs.length≤n):(hdrT n hs).length=n:=by unfold hdrT;simp;omega
theorem hdrT_set {n:Nat} {hs:List Value} (h:hs.length<n) (x:Value):(hdrT n hs).set (0+(hs.length:Int).toNat * 1) x=hdrT n (hs++[x]):=by
 rw [show 0+(hs.length:Int).toNat * 1=hs.length by omega]
 unfold hdrT
 rw [List.set_append_right _ _ (Nat.le_refl _),Nat.sub_self,List.append_assoc,List.length_append]
 congr 1
 obtain⟨k,hk⟩:∃ k,n - hs.length=k+1:=⟨n - hs.length - 1,by omega⟩
 rw [hk,show n - (hs.length+[x].length)=k by simp only [List.length_singleton];omega]
 rfl
theorem hdrT_get {n:Nat} {hs:List Value} (h:hs.length<n) (x:Value):(hdrT n (hs++[x]))[0+(hs.length:Int).toNat * 1]?=some x:=by
 rw [show 0+(hs.length:Int).toNat * 1=hs.length by omega]
 unfold hdrT
 rw [List.getElem?_append_left (by simp),List.getElem?_append_right (Nat.le_refl _),Nat.sub_self];rfl
theorem unitP_spec (w:World):Spec Tryz.prog 70 [.int .i64 16] w (fun v R=>∃ x:Value,True∧v=x∧R=[dat [x] [rowsD uM]]):=by
 refine spec_of sg Tryz.func70 rfl rfl rfl ?_
 repeat' (first|refine d1 ?_|(show T _ (.ops _ (_::_)::_) _ _ _;refine T_op (OpT.make rfl rfl rfl rfl rfl rfl rfl rfl rfl (by decide) (fun b3=>?_)))|(show ∀ _:Nat,T _ _ _ _ _;intro _))
 refine T_le (H':=[blk b3 (hdrT 16 []) 24,dat [] ((uM.take 0).map intsD)]) ((hle_unit (B:=dat [] []) .nil).trans hle_swap) ?_
 refine T_loopX (fun hs:List Value=>[(9, .int .i64 (hs.length:Nat))]) (fun hs=>[blk b3 (hdrT 16 hs) 24,dat hs ((uM.take hs.length).map intsD)]) (fun hs=>hs.length≤16) (fun hs=>16 - hs.length) [] (Nat.zero_le _) ?_
 intro hs hi
 repeat' (first|refine d1 ?_|refine dd ?_|(show ∀ _:Nat,T _ _ _ _ _;intro _))
 refine T_if rfl (fun h6=>?_) (fun h6=>?_)
 ·simp only [decide_eq_true_eq] at h6
  have hi16:hs.length<16:=by omega
  have hhl:=hdrT_len (n:=16) hi
  repeat' (first|refine d1 ?_|(show T _ (.ops _ (_::_)::_) _ _ _;refine T_op (OpT.litW rfl rfl rfl rfl rfl rfl rfl rfl rfl rfl rfl (fun _=>?_)))|(show ∀ _:Nat,T _ _ _ _ _;intro _))
  refine T_op (OpT.call rfl rfl rfl rfl rfl (fun w hw=>repeatI_spec 1 _ 1 16 w (Src.own hw rfl) (by decide)) ?_)
  rintro u R ⟨b,-,rfl,rfl⟩
  refine T_le (H':=[row 3 1 (some ⟨b,0,none⟩) 16 16 (List.replicate 16 (Value.int .i64 1)),blk b3 (hdrT 16 hs) 24,dat hs ((uM.take hs.length).map intsD)]) (hle_pm [0,2,3] [_,_,_,_] []) ?_
  have hrl:(List.replicate 16 (Value.int .i64 1)).length=16:=by simp
  repeat' (first|refine d1 ?_|(show T _ (.ops _ (_::_)::_) _ _ _;refine T_op (OpT.store rfl rfl rfl rfl (by rw [hhl];omega) ?_))|(show ∀ _:Nat,T _ _ _ _ _;intro _))
  rw [hdrT_set hi16]
  have hge:=hdrT_get hi16 (.slice (some ⟨b,0,none⟩) 16 16)
  repeat' (first|refine d1 ?_|(show T _ (.ops _ (_::_)::_) _ _ _;first|refine T_val rfl (Val.load rfl (fun hg=>rdOwn1 (b:=b3) hge)) rfl rfl rfl ?_|refine T_valC rfl (Val.load rfl (fun hg=>rdOwn1 (b:=b3) hge)) rfl rfl rfl rfl rfl ?_|refine T_op (OpT.storeR rfl rfl rfl rfl rfl rfl (by show 0+((hs.length:Nat):Int).toNat * 1+1≤16 * 1;omega) ?_))|(show T _ (.run _ _ (_::_) _ _::_) _ _ _;first|refine rv rfl rfl rfl (Val.load rfl (fun hg=>rdOwn1 (b:=b3) hge)) rfl rfl rfl ?_|refine rg rfl rfl rfl (Val.load rfl (fun hg=>rdOwn1 (b:=b3) hge)) rfl rfl rfl rfl rfl ?_)|(show ∀ _:Nat,T _ _ _ _ _;intro _))
  rw [show setL (List.replicate 16 (Value.int .i64 1)) (0+(hs.length:Int).toNat * 1) (Value.int .i64 0).cells.toList=((List.range 16).map fun j=>dU hs.length j).map (Value.int .i64) from uRow_set hi16]
  have hlen:(hs++[Value.slice (some ⟨b,0,none⟩) 16 16]).length=hs.length+1:=by simp
  refine T_backX (hs++[.slice (some ⟨b,0,none⟩) 16 16]) (by omega) (by omega) (hE:=⟨by rw [hlen];rfl,trivial⟩) (hG:=?_)
  have hge2:uM[hs.length]?=some ((List.range 16).map fun j=>dU hs.length j):=by unfold uM;rw [List.getElem?_map,List.getElem?_range hi16];rfl
  rw [hlen,take_snoc _ _ _ hge2,List.map_append]
  refine (hle_pm [0,2,1] [_,_,_] []).trans ?_
  refine (show Hle (row 3 1 (some ⟨b,0,none⟩) 16 16 (((List.range 16).map fun j=>dU hs.length j).map (Value.int .i64))::_) _ from dat_rowV).trans ?_
  rw [show (((List.range 16).map fun j=>dU hs.length j).map (Value.int .i64)).map D.v=((List.range 16).map fun j=>dU hs.length j).map fun n=>D.v (.int .i64 n) from List.map_map]
  exact (dat_join (ws:=[.slice (some ⟨b,0,none⟩) 16 16]) (es:=[intsD ((List.range 16).map fun j=>dU hs.length j)])).trans hle_swap
 ·simp only [decide_eq_false_iff_not] at h6
  have h16:hs.length=16:=by have:((Int.toNat 16:Nat):Int)=16:=rfl;omega
  have hh:hdrT 16 hs=hs:=by unfold hdrT;rw [h16];exact List.append_nil _
  have hm:uM.take hs.length=uM:=by rw [h16];exact List.take_of_length_le (by unfold uM;simp)
  rw [hh,hm]
  repeat' (first|refine d1 ?_|refine dd ?_|(show ∀ _:Nat,T _ _ _ _ _;intro _)|(show T _ (.code .ret::_) _ _ _;refine T_retV _ rfl ((hle_map (blk_row (sz:=1) (n:=16) (by omega) (by decide))).trans dat_row) ⟨_,trivial,rfl,rfl⟩))
end Go.Proofs.YtabhdaehomjlgaaGreat
namespace Go.Proofs.YtabhdaehomjlgaaGreat
open Go.RowKit Go.Shelf Go.Proofs
set_option maxRecDepth 100000
set_option maxHeartbeats 1000000

theorem kdsI_pre (ps:List Int) (i m:Nat):∀ k,∃ t,kdsI ps i (m+k)=kdsI ps i m++t
 | 0=>⟨[],(List.append_nil _).symm⟩
 | k+1=>by
  obtain⟨t,ht⟩:=kdsI_pre ps i m k
  rw [← Nat.add_assoc,kdsI_succ,ht,List.append_assoc]
  exact⟨_,rfl⟩
theorem kdsI_at {ps:List Int} {i j n:Nat} (h:kdsI ps i (j+1)=kdsI ps i j++[j]) (hj:j+1≤n):(kdsI ps i n)[(kdsI ps i j).length]?=some j:=by
 obtain⟨t,ht⟩:=kdsI_pre ps i (j+1) (n - (j+1))
 rw [show j+1+(n - (j+1))=n by omega] at ht
 rw [ht,h,List.append_assoc,List.getElem?_append_right (Nat.le_refl _),Nat.sub_self];rfl
theorem Val.to {C:Cx} {all:Array Oper} {o:Oper} {env:Env} {ec:EnvC} {Hs:List HA} {G:GId} {v u:Value} (h:Val C all o env ec Hs G v) (e:v=u):Val C all o env ec Hs G u:=e ▸ h
theorem childrenT_spec (A1 A2:Option Addr) (n1 c1 n2 c2 i:Nat) (w:World):Spec Tryz.prog 109 [.agg #[.slice A1 n1 c1, .slice A2 n2 c2], .int .i64 (i:Nat)] w
  (fun v R=>∃ y:Nat × Nat,True∧v = .func (.func 147) #[] #[.pointer (some ⟨y.1,0,none⟩), .pointer (some ⟨y.2,0,none⟩)]∧R=[blk y.1 [.int .i64 (i:Nat)] 3,blk y.2 [.slice A1 n1 c1, .slice A2 n2 c2] 30]):=by
 refine spec_of sg Tryz.func109 rfl rfl rfl ?_
 repeat' (first|(show T _ (.ops _ (⟨_, .box _ _,_,_,_,_⟩::_)::_) _ _ _;first|refine T_op (OpT.box (cs:=[.slice A1 n1 c1, .slice A2 n2 c2]) rfl rfl rfl rfl rfl rfl rfl (fun _=>?_))|refine T_op (OpT.box (cs:=[.int .i64 (i:Nat)]) rfl rfl rfl rfl rfl rfl rfl (fun _=>?_)))|refine d1 ?_|refine dd ?_|(show ∀ _:Nat,T _ _ _ _ _;intro _)|(show T _ (.code .ret::_) _ _ _;refine T_retV _ rfl (Hle.refl _) ⟨(_,_),trivial,rfl,rfl⟩))
theorem childrenT_iter {w0:World} {A1 A2:Option Addr} {n1 c1 n2 c2:Nat} {ps:List Int} {ns:List ByteArray} (ht:TrA w0 A1 n1 c1 A2 n2 c2 ps ns) (hup:upT ps) {i:Nat} (hi:i<n1) (b1 b2:Nat) :
  IterO Tryz.prog w0 147 [] [.pointer (some ⟨b1,0,none⟩), .pointer (some ⟨b2,0,none⟩)] [blk b1 [.int .i64 (i:Nat)] 3,blk b2 [.slice A1 n1 c1, .slice A2 n2 c2] 30]
   (fun j x B=>∃ k:Nat,(kdsI ps i n1)[j]?=some k∧x=[.int .i64 (k:Nat)]∧B=[]) (kdsI ps i n1).length:=by
 have hl1:=ht.l1
 have hb1:=ht.b1
 refine iterO_of sg Tryz.func147 rfl rfl rfl ?_
 intro l' GQ X Hj hY h0
 obtain⟨g1,o1,rfl⟩:=ht.s1.base (by omega)
 show T _ _ _ _ (blk b1 [.int .i64 (i:Nat)] 3::blk b2 [.slice (some ⟨g1,o1,none⟩) n1 c1, .slice A2 n2 c2] 30::Hj)
 repeat' (first|refine d1 ?_|refine dd ?_|(show ∀ _:Nat,T _ _ _ _ _;intro _))
 refine T_loopX (fun s:Nat × List HA=>[(4, .int .i64 (s.1:Nat))]) (fun s=>blk b1 [.int .i64 (i:Nat)] 3::blk b2 [.slice (some ⟨g1,o1,none⟩) n1 c1, .slice A2 n2 c2] 30::s.2) (fun s=>i<s.1∧s.1≤n1∧GQ (kdsI ps i s.1).length s.2) (fun s=>n1 - s.1) (i+1,Hj) ⟨Nat.lt_succ_self _,hi,by dsimp only;rw [hup.self (by omega)];exact h0⟩ ?_
 rintro⟨j,H1⟩ ⟨hij,hjn,hG⟩
 dsimp only at hij hjn hG ⊢
 repeat' (first|refine d1 ?_|(show ∀ _:Nat,T _ _ _ _ _;intro _))
 refine T_if rfl (fun h=>?_) (fun h=>?_)
 ·simp only [decide_eq_true_eq] at h
  obtain⟨r,hr⟩:∃ r,ps[j]?=some r:=⟨_,List.getElem?_eq_getElem (by omega)⟩
  have hr1:=src_int ht.s1 (k:=j) (by omega) hr
  have hrd:ps.getD j (-1)=r:=by rw [List.getD_eq_getElem?_getD,hr];rfl
  repeat' (first|refine d1 ?_|(show ∀ _:Nat,T _ _ _ _ _;intro _))
  refine rsH [blk b1 [.int .i64 (i:Nat)] 3,blk b2 [.slice (some ⟨g1,o1,none⟩) n1 c1, .slice A2 n2 c2] 30] 1000 [0,1,2,3,4,5,6,7,8,9,10,11,12] ?_
  repeat' (first|refine d1 ?_|refine dd ?_|(show T _ (.ops _ (_::_)::_) _ _ _;first|refine T_val rfl (Val.load rfl (fun hg=>rdOld hr1)) rfl rfl rfl ?_|refine T_valC rfl (Val.load rfl (fun hg=>rdOld hr1)) rfl rfl rfl rfl rfl ?_)|(show T _ (.run _ _ (_::_) _ _::_) _ _ _;first|refine rv rfl rfl rfl (Val.load rfl (fun hg=>rdOld hr1)) rfl rfl rfl ?_|refine rg rfl rfl rfl (Val.load rfl (fun hg=>rdOld hr1)) rfl rfl rfl rfl rfl ?_)|(show ∀ _:Nat,T _ _ _ _ _;intro _))
  cases hri:decide (r=((i:Nat):Int)) with
  | true =>
   have hks:=kdsI_succ ps i j
   rw [if_pos (hrd.trans (of_decide_eq_true hri))] at hks
   have hkj:=kdsI_at hks (show j+1≤n1 by omega)
   refine ro rfl rfl (OpT.yieldO [] [blk b1 [.int .i64 (i:Nat)] 3,blk b2 [.slice (some ⟨g1,o1,none⟩) n1 c1, .slice A2 n2 c2] 30] hY rfl rfl (Holds.of1 rfl rfl rfl) rfl rfl rfl (List.getElem?_eq_some_iff.1 hkj).1 ⟨j,hkj,rfl,rfl⟩ hG (Hle.comm [_,_] H1) (fun H2 hG2=>⟨fun _=>Hle.append_left (A:=[_,_]) H2,?_⟩) (fun Y hX=>⟨fun _=>Hle.append_left (A:=[_,_]) Y,?_⟩))
   ·show T _ _ _ _ (blk b1 [.int .i64 (i:Nat)] 3::blk b2 [.slice (some ⟨g1,o1,none⟩) n1 c1, .slice A2 n2 c2] 30::H2)
    repeat' (first|refine d1 ?_|refine dd ?_|(show ∀ _:Nat,T _ _ _ _ _;intro _))
    refine T_if rfl (fun h3=>by exfalso;simp at h3) (fun _=>?_)
    repeat' (first|refine d1 ?_|refine dd ?_|(show ∀ _:Nat,T _ _ _ _ _;intro _))
    exact T_backX (j+1,H2) ⟨by dsimp only;omega,by dsimp only;omega,by dsimp only;rw [hks,List.length_append];exact hG2⟩ (by dsimp only;omega)
   ·show T _ _ _ _ (blk b1 [.int .i64 (i:Nat)] 3::blk b2 [.slice (some ⟨g1,o1,none⟩) n1 c1, .slice A2 n2 c2] 30::Y)
    repeat' (first|refine d1 ?_|refine dd ?_|(show ∀ _:Nat,T _ _ _ _ _;intro _))
    refine T_if rfl (fun _=>?_) (fun h3=>by exfalso;simp at h3)
    repeat' (first|refine d1 ?_|refine dd ?_|(show ∀ _:Nat,T _ _ _ _ _;intro _)|(show T _ (.code .ret::_) _ _ _;refine T_istop rfl Y hX (Hle.refl _)))
  | false =>
   have hks:=kdsI_succ ps i j
   rw [if_neg (fun e=>by have:=of_decide_eq_false hri;exact this (hrd.symm.trans e)),List.append_nil] at hks
   refine ro rfl rfl (OpT.never (.bool false) rfl (fun hg9=>by have h10:(false:Bool)=true:=hg9.1;cases h10) rfl rfl rfl rfl rfl ⟨fun _=>Hle.append_left (A:=[_,_]) H1,?_⟩)
   repeat' (first|refine d1 ?_|refine dd ?_|(show ∀ _:Nat,T _ _ _ _ _;intro _))
   refine T_if rfl (fun h3=>by exfalso;simp at h3) (fun _=>?_)
   repeat' (first|refine d1 ?_|refine dd ?_|(show ∀ _:Nat,T _ _ _ _ _;intro _))
   exact T_backX (j+1,H1) ⟨by dsimp only;omega,by dsimp only;omega,by dsimp only;rw [hks];exact hG⟩ (by dsimp only;omega)
 ·simp only [decide_eq_false_iff_not] at h
  obtain rfl:j=n1:=by omega
  repeat' (first|refine d1 ?_|refine dd ?_|(show ∀ _:Nat,T _ _ _ _ _;intro _))
  exact T_ifall rfl H1 hG (Hle.refl _)
end Go.Proofs.YtabhdaehomjlgaaGreat
namespace Go.Proofs.YtabhdaehomjlgaaGreat
open Go.RowKit Go.Shelf Go.Proofs
set_option maxRecDepth 100000
set_option maxHeartbeats 1000000

def stK (lf:List Int) (i:Nat):Int:=findI (fun x=>decide ((i:Int)=x)) lf
def stI (lf st:List Int) (i:Nat):Int:=if stK lf i<0 then -1 else st.getD (stK lf i).toNat (-1)
def bsS (lf st:List Int) (i s:Nat):Int:=if 0≤stI lf st i∧stI lf st i≠(s:Int) then -1 else 0
theorem bsS_bd (lf st:List Int) (i s:Nat) : -1≤bsS lf st i s∧bsS lf st i s≤0:=by unfold bsS;split <;> omega
def rowL (ps:List Int) (bs:Nat→Nat→Int) (k:Nat):List Int:=(List.range 16).map (rvT ps bs k)
theorem rowL_len (ps:List Int) (bs:Nat→Nat→Int) (k:Nat):(rowL ps bs k).length=16:=by unfold rowL;simp
theorem rowL_f {ps:List Int} {bs:Nat→Nat→Int} {k t:Nat} (h:t<16):rowF (rowL ps bs k) t=rvT ps bs k t:=by
 unfold rowF rowL
 rw [List.getD_eq_getElem?_getD,List.getElem?_map,List.getElem?_range h];rfl
def tbR (ps:List Int) (bs:Nat→Nat→Int) (n m:Nat):List (List Int):=((List.range n).drop m).map (rowL ps bs)
theorem tbR_get {ps:List Int} {bs:Nat→Nat→Int} {n m k:Nat} (h1:m≤k) (h2:k<n):(tbR ps bs n m)[k - m]?=some (rowL ps bs k):=by
 unfold tbR
 rw [List.getElem?_map,List.getElem?_drop,show m+(k - m)=k by omega,List.getElem?_range h2];rfl
theorem tbR_cons {ps:List Int} {bs:Nat→Nat→Int} {n m:Nat} (h:m<n):tbR ps bs n m=rowL ps bs m::tbR ps bs n (m+1):=by
 unfold tbR
 rw [List.drop_eq_getElem_cons (by simpa using h),List.map_cons,List.getElem_range]
theorem tbR_len (ps:List Int) (bs:Nat→Nat→Int) (n m:Nat):(tbR ps bs n m).length=n - m:=by unfold tbR;simp
def tbC (n:Nat) (hs:List Value):List Value:=List.replicate (n - hs.length) (.slice none 0 0)++hs
theorem tbC_len {n:Nat} {hs:List Value} (h:hs.length≤n):(tbC n hs).length=n:=by unfold tbC;simp;omega
theorem tbC_get {n k:Nat} {hs:List Value} {x:Value} {m:Nat} (h:hs.length+m=n) (hk:m≤k) (hx:hs[k - m]?=some x):(tbC n hs)[0+(k:Int).toNat * 1]?=some x:=by
 rw [show 0+(k:Int).toNat * 1=k by omega]
 unfold tbC
 rw [List.getElem?_append_right (by simp;omega),List.length_replicate,show n - hs.length=m by omega]
 exact hx
theorem tbC_set {n i:Nat} {hs:List Value} (h:hs.length+(i+1)=n) (x:Value):(tbC n hs).set (0+(i:Int).toNat * 1) x=tbC n (x::hs):=by
 rw [show 0+(i:Int).toNat * 1=i by omega]
 unfold tbC
 rw [show n - hs.length=i+1 by omega,List.length_cons,show n - (hs.length+1)=i by omega,List.replicate_succ',List.append_assoc,List.set_append_right _ _ (by simp),List.length_replicate,Nat.sub_self]
 rfl
section
variable (pc pl pst pt pT bT:Nat) (C L S:Value) (A1 A2:Option Addr) (n1 c1 n2 c2:Nat)
def tbB:List HA:=[blk pc [C] 23,blk pl [L] 24,blk pst [S] 24,blk pt [.slice A1 n1 c1, .slice A2 n2 c2] 30,blk pT [.slice (some ⟨bT,0,none⟩) n1 n1] 23]
end
theorem findI_ub {α:Type} (p:α→Bool):∀ l:List α,findI p l<l.length
 | []=>by simp [findI]
 | x::l=>by have:=findI_ub p l;rw [List.length_cons];unfold findI;(repeat' split) <;> omega
theorem intsSrc {w:World} {A:Option Addr} {n c:Nat} {l:List Int} (h:Rd (wr w) [.slice A n c] [intsD l]):Src w 1 A n (l.map (Value.int .i64)):=by
 have h':Rd (wr w) [.slice A n c] [.s 1 ((l.map (Value.int .i64)).map .v)]:=by rw [List.map_map];exact h
 obtain⟨A',n',c',e,-,-,-,h5⟩:=h'.srcV
 cases e
 exact h5
theorem hle_tm0 {D A1 A2 A3 B1 B2 C1 C2 C3 C4 C5 C6 C7 C8:HA} {H:List HA}:Hle (D::A1::A2::A3::B1::B2::C1::C2::C3::C4::C5::C6::C7::C8::H) (B1::B2::C1::C2::C3::C4::C5::C6::C7::C8::D::H):=hle_pm [4,5,6,7,8,9,10,11,12,13,0] [D,A1,A2,A3,B1,B2,C1,C2,C3,C4,C5,C6,C7,C8] H
theorem tableC_spec {w0:World} {A1 A2 As:Option Addr} {n1 c1 n2 c2 cs:Nat} {ps:List Int} {ns:List ByteArray} (ht:TrA w0 A1 n1 c1 A2 n2 c2 ps ns) (hup:upT ps) (h64:n1≤64) {lf st:List Int} (hst:Src w0 1 As st.length (st.map (Value.int .i64))) (hls:lf.length=st.length) (hl0:0<lf.length) (hst2:st.length≤64) (hsb:∀ x∈st,-1≤x∧x≤1000000)
  {pz:Frag} {C L:Value} (hC:Rd (wr w0) [C] [rowsD uM]) (hL:Rd (fr pz) [L] [intsD lf]) (pc pl pst pt pT bT:Nat) {i:Nat} (hi:i<n1) (hs:List Value) (hhs:hs.length+(i+1)=n1) :
  SpecB Tryz.prog 108 [.int .i64 (i:Nat), .pointer (some ⟨pc,0,none⟩), .pointer (some ⟨pl,0,none⟩), .pointer (some ⟨pst,0,none⟩), .pointer (some ⟨pt,0,none⟩), .pointer (some ⟨pT,0,none⟩)] w0
   (dat hs ((tbR ps (bsS lf st) n1 (i+1)).map intsD)::blk bT (tbC n1 hs) 24::fz pz::tbB pc pl pst pt pT bT C L (.slice As st.length cs) A1 A2 n1 c1 n2 c2)
   (fun v R=>∃ h:Value,True∧v = .tuple #[]∧R=dat (h::hs) ((tbR ps (bsS lf st) n1 i).map intsD)::blk bT (tbC n1 (h::hs)) 24::fz pz::tbB pc pl pst pt pT bT C L (.slice As st.length cs) A1 A2 n1 c1 n2 c2):=by
 have hl1:=ht.l1
 refine specB_of sg Tryz.func108 rfl rfl rfl ?_
 refine T_fzA fun ph hph=>?_
 obtain⟨gc,oc,csC,rfl,hc1,hc2,hc3,hc4,hc5⟩:=hC.tab
 obtain⟨Al,cl,rfl,hL1,hL2,hL3⟩:=hL.row1
 have hul:uM.length=16:=by unfold uM;simp
 unfold tbB
 rw [hul] at hC ⊢
 repeat' (first|refine d1 ?_|(show T _ (.ops _ (_::_)::_) _ _ _;refine T_op (OpT.make rfl rfl rfl rfl rfl rfl rfl rfl rfl (by decide) (fun b3=>?_)))|(show ∀ _:Nat,T _ _ _ _ _;intro _))
 rename_i t7
 rw [show ((16:Nat):Int).toNat=16 from rfl]
 have hk1:=findI_ge (fun x=>decide ((i:Int)=x)) lf
 have hk2:=findI_ub (fun x=>decide ((i:Int)=x)) lf
 obtain⟨k,hk⟩:∃ k,k=stK lf i:=⟨_,rfl⟩
 have hk':findI (fun x=>decide ((i:Int)=x)) lf=k:=hk.symm
 rw [hk'] at hk1 hk2
 obtain⟨gs,os,rfl⟩:=hst.base (by omega)
 obtain⟨z,hz⟩:∃ z,st[k.toNat]?=some z:=⟨_,List.getElem?_eq_getElem (by omega)⟩
 have hz1:RdC w0 gs (os+k.toNat * 1) [.int .i64 z]:=by
  have:=src_int hst (k:=k.toNat) (by omega) hz
  rwa [Int.toNat_natCast] at this
 have hzb:=hsb z (List.mem_of_getElem? hz)
 have hsti:stI lf st i=if k<0 then -1 else z:=by
  unfold stI;rw [← hk]
  split
  ·rfl
  ·rw [List.getD_eq_getElem?_getD,hz];rfl
 have hL9:∀ {w:World} {H:List HA} [FocusZ H pz],Cls w0 w H→Src w 1 Al lf.length (lf.map (Value.int .i64)):=fun {w H} _ hw=>intsSrc (hL.own hw)
 repeat' (first|refine d1 ?_|(show T _ (.ops _ (_::_)::_) _ _ _;first|refine T_call rfl rfl rfl rfl rfl (fun w hw=>indexI_spec Al lf.length cl lf i w (hL9 hw) rfl (by omega)) ?_|refine T_callC rfl rfl rfl rfl rfl rfl rfl (fun hg w hw=>indexI_spec Al lf.length cl lf i w (hL9 hw) rfl (by omega)) ?_)|(show T _ (.run _ _ (_::_) _ _::_) _ _ _;first|refine rc rfl rfl rfl rfl rfl rfl rfl (fun w hw=>indexI_spec Al lf.length cl lf i w (hL9 hw) rfl (by omega)) ?_|refine rcG rfl rfl rfl rfl rfl rfl rfl rfl rfl (fun hg w hw=>indexI_spec Al lf.length cl lf i w (hL9 hw) rfl (by omega)) ?_)|(show ∀ _:Nat,T _ _ _ _ _;intro _))
 rw [hk']
 refine T_loopDX (Dl:=[]) (fun s:Nat × List Int × List Nat=>[(21, .int .i64 (s.1:Nat))]) (fun s=>blk t7 [.slice (some ⟨b3,0,none⟩) 16 16] 24::blk b3 (s.2.1.map (Value.int .i64)) 3::fz ph::blk bT (tbC n1 hs) 24::fz pz::blk pc [.slice gc 16 oc] 23::blk pl [.slice Al lf.length cl] 24::blk pst [.slice (some ⟨gs,os,none⟩) st.length cs] 24::blk pt [.slice A1 n1 c1, .slice A2 n2 c2] 30::blk pT [.slice (some ⟨bT,0,none⟩) n1 n1] 23::[]) (fun s=>s.2.2)
  (fun s=>s.1≤16∧s.2.1.length=16∧∀ t,t<16→s.2.1.getD t 0=if t<s.1 then rvT ps (bsS lf st) i t else 0) (fun s=>16 - s.1) (0,List.replicate 16 0,[]) ⟨Nat.zero_le _,by simp,fun t ht=>by rw [if_neg (Nat.not_lt_zero _),List.getD_eq_getElem?_getD,List.getElem?_replicate,if_pos ht];rfl⟩ rfl ?_
 rintro⟨s,L,Dl⟩ ⟨hs16,hLl,hLv⟩
 dsimp only at hs16 hLl hLv ⊢
 show T _ _ _ _ (blk t7 [.slice (some ⟨b3,0,none⟩) 16 16] 24::blk b3 (L.map (Value.int .i64)) 3::fz ph::blk bT (tbC n1 hs) 24::fz pz::blk pc [.slice gc 16 oc] 23::blk pl [.slice Al lf.length cl] 24::blk pst [.slice (some ⟨gs,os,none⟩) st.length cs] 24::blk pt [.slice A1 n1 c1, .slice A2 n2 c2] 30::blk pT [.slice (some ⟨bT,0,none⟩) n1 n1] 23::dfrs Dl)
 repeat' (first|refine d1 ?_|(show ∀ _:Nat,T _ _ _ _ _;intro _))
 refine T_if rfl (fun h=>?_) (fun h=>?_)
 ·simp only [decide_eq_true_eq] at h
  have hs1:s<16:=by omega
  have hls0:=hLv s hs1
  rw [if_neg (by omega)] at hls0
  repeat' (first|refine d1 ?_|(show ∀ _:Nat,T _ _ _ _ _;intro _))
  rename_i t9
  have hbs:bsS lf st i s=if (decide (0≤k) && decide (0≤z) && !decide (z=(s:Int)))=true then -1 else 0:=by
   unfold bsS
   rw [hsti]
   by_cases h1:k<0
   ·rw [if_pos h1,if_neg (by omega),if_neg (by simp;omega)]
   ·rw [if_neg h1]
    by_cases h2:0≤z∧z≠(s:Int)
    ·rw [if_pos h2,if_pos (by simp;exact⟨⟨by omega,h2.1⟩,h2.2⟩)]
    ·rw [if_neg h2,if_neg (by simp;omega)]
  repeat' (first|refine d1 ?_|refine dd ?_|(show T _ (.ops _ (_::_)::_) _ _ _;first|refine T_val rfl (Val.load rfl (fun hg=>rdOwn1 rfl)) rfl rfl rfl ?_|refine T_valC rfl (Val.load rfl (fun hg=>rdOwn1 rfl)) rfl rfl rfl rfl rfl ?_|refine T_val rfl (Val.load rfl (fun hg=>rdOld hz1)) rfl rfl rfl ?_|refine T_valC rfl (Val.load rfl (fun hg=>rdOld hz1)) rfl rfl rfl rfl rfl ?_)|(show T _ (.run _ _ (_::_) _ _::_) _ _ _;first|refine rv rfl rfl rfl (Val.load rfl (fun hg=>rdOwn1 rfl)) rfl rfl rfl ?_|refine rg rfl rfl rfl (Val.load rfl (fun hg=>rdOwn1 rfl)) rfl rfl rfl rfl rfl ?_|refine rv rfl rfl rfl (Val.load rfl (fun hg=>rdOld hz1)) rfl rfl rfl ?_|refine rg rfl rfl rfl (Val.load rfl (fun hg=>rdOld hz1)) rfl rfl rfl rfl rfl ?_)|(show ∀ _:Nat,T _ _ _ _ _;intro _))
  refine T_cutX 1 [] (fun _:List Int=>[]) (fun L'=>blk t9 [.int .i64 (s:Nat)] 3::blk t7 [.slice (some ⟨b3,0,none⟩) 16 16] 24::blk b3 (L'.map (Value.int .i64)) 3::fz ph::blk bT (tbC n1 hs) 24::fz pz::blk pc [.slice gc 16 oc] 23::blk pl [.slice Al lf.length cl] 24::blk pst [.slice (some ⟨gs,os,none⟩) st.length cs] 24::blk pt [.slice A1 n1 c1, .slice A2 n2 c2] 30::blk pT [.slice (some ⟨bT,0,none⟩) n1 n1] 23::dfrs Dl)
   (fun L'=>L'.length=16∧∀ t,t<16→L'.getD t 0=if t<s then rvT ps (bsS lf st) i t else if t=s then bsS lf st i s else 0) ?_ ?_
  ·refine T_if rfl (fun h5=>?_) (fun h5=>?_)
   ·rw [if_pos h5] at hbs
    have hlm:(L.map (Value.int .i64)).length=16:=by rw [List.length_map,hLl]
    repeat' (first|refine d1 ?_|(show T _ (.ops _ (_::_)::_) _ _ _;refine T_op (OpT.store rfl rfl rfl rfl (by rw [hlm];omega) ?_))|(show ∀ _:Nat,T _ _ _ _ _;intro _))
    refine T_meetX (L.set s (-1)) ⟨by rw [List.length_set,hLl],fun t ht=>?_⟩ (hG:=?_)
    ·rw [List.getD_eq_getElem?_getD,List.getElem?_set,hLl]
     by_cases e:s=t
     ·subst e;rw [if_pos rfl,if_pos ht,if_neg (by omega),if_pos rfl,hbs];rfl
     ·rw [if_neg e, ← List.getD_eq_getElem?_getD,hLv t ht]
      split
      ·rfl
      ·rw [if_neg (fun e2=>e e2.symm)]
    ·rw [List.map_set,show 0+(s:Int).toNat * 1=s by omega];exact Hle.refl _
   ·rw [if_neg (by rw [h5];exact Bool.false_ne_true)] at hbs
    repeat' (first|refine d1 ?_|(show ∀ _:Nat,T _ _ _ _ _;intro _))
    refine T_meetX L ⟨hLl,fun t ht=>?_⟩ (hG:=Hle.refl _)
    rw [hLv t ht]
    split
    ·rfl
    ·split
     ·rw [hbs]
     ·rfl
  rintro L1 ⟨hL1l,hL1v⟩
  repeat' (first|refine d1 ?_|(show ∀ _:Nat,T _ _ _ _ _;intro _))
  refine T_op (OpT.call rfl rfl rfl rfl rfl (fun w hw=>childrenT_spec A1 A2 n1 c1 n2 c2 i w) ?_)
  rintro u R ⟨⟨b1,b2⟩,-,rfl,rfl⟩
  dsimp only
  repeat' (first|refine d1 ?_|(show ∀ _:Nat,T _ _ _ _ _;intro _))
  have hiter:=childrenT_iter ht hup hi b1 b2
  have hit0:=hiter
  refine T_rangeO hiter rfl (fun j x B hj hQ=>by obtain⟨z,_,rfl,rfl⟩:=hQ;exact⟨rfl,rfl⟩)
   (fun j H=>∃ L':List Int,(L'.length=16∧∀ t,t<16→L'.getD t 0=if t<s then rvT ps (bsS lf st) i t else if t=s then bsS lf st i s+(((kdsI ps i n1).take j).map fun k=>bstK (rvT ps (bsS lf st) k) s 16).sum else 0)∧H=blk t9 [.int .i64 (s:Nat)] 3::blk t7 [.slice (some ⟨b3,0,none⟩) 16 16] 24::blk b3 (L'.map (Value.int .i64)) 3::fz ph::blk bT (tbC n1 hs) 24::fz pz::blk pc [.slice gc 16 oc] 23::blk pl [.slice Al lf.length cl] 24::blk pst [.slice (some ⟨gs,os,none⟩) st.length cs] 24::blk pt [.slice A1 n1 c1, .slice A2 n2 c2] 30::blk pT [.slice (some ⟨bT,0,none⟩) n1 n1] 23::dfrs Dl)
   (fun _=>False) (fun _ _=>False) _ ⟨L1,⟨hL1l,fun t ht=>by rw [hL1v t ht,List.take_zero];simp⟩,rfl⟩ (Hle.refl _) ?_ ?_ (fun _ _ h=>h.elim) (fun _ _ _ h=>h.elim)
  ·rintro Lp r5 j x B Hj K2 hr5 hj hQ ⟨L2,⟨hL2l,hL2v⟩,rfl⟩
   obtain⟨q,hq,rfl,rfl⟩:=hQ
   show T _ _ ((47, .int .i64 (q:Nat))::_) _ (lrec Lp r5::blk t9 [.int .i64 (s:Nat)] 3::blk t7 [.slice (some ⟨b3,0,none⟩) 16 16] 24::blk b3 (L2.map (Value.int .i64)) 3::fz ph::blk bT (tbC n1 hs) 24::fz pz::blk pc [.slice gc 16 oc] 23::blk pl [.slice Al lf.length cl] 24::blk pst [.slice (some ⟨gs,os,none⟩) st.length cs] 24::blk pt [.slice A1 n1 c1, .slice A2 n2 c2] 30::blk pT [.slice (some ⟨bT,0,none⟩) n1 n1] 23::(dfrs Dl++K2))
   repeat' (first|refine d1 ?_|refine dd ?_|(show ∀ _:Nat,T _ _ _ _ _;intro _))
   refine T_begin hr5 rfl ?_
   have hqm:=kdsI_mem.1 (List.mem_of_getElem? hq)
   have hqi:=hup.gt (Nat.le_of_eq hl1.symm) (List.mem_of_getElem? hq)
   obtain⟨Aq,cq,hcq,-,-,-⟩:=Rd.tabRow hph (i:=q - (i+1)) (tbR_get (ps:=ps) (bs:=bsS lf st) hqi hqm.1)
   rw [rowL_len] at hcq
   have hrq:Rd (fr ph) [.slice Aq 16 cq] [intsD (rowL ps (bsS lf st) q)]:=by
    obtain⟨y,hy,hr⟩:=Rd.get hph (i:=q - (i+1)) (d:=intsD (rowL ps (bsS lf st) q)) (by rw [List.getElem?_map,tbR_get hqi hqm.1];rfl)
    rw [hcq] at hy
    cases hy
    exact hr
   have hbT:(tbC n1 hs)[0+(q:Int).toNat * 1]?=some (.slice Aq 16 cq):=tbC_get hhs hqi hcq
   have hrb:∀ x∈rowL ps (bsS lf st) q,x≤1000000:=fun x hx=>by
    unfold rowL at hx
    obtain⟨t,-,rfl⟩:=List.mem_map.1 hx
    have:=rvT_le (bs:=bsS lf st) hup (fun i s=>(bsS_bd lf st i s).2) (i:=q) (by omega) t
    omega
   have hbq:bstK (rowF (rowL ps (bsS lf st) q)) s 16=bstK (rvT ps (bsS lf st) q) s 16:=bst_congr (fun t ht=>rowL_f ht) s
   have hlen9:(kdsI ps i n1).length≤64:=by
    have:=List.length_filter_le (fun j=>decide (ps.getD j (-1)=(i:Nat))) (List.range n1)
    rw [List.length_range] at this
    unfold kdsI;omega
   have hup9:∀ k∈kdsI ps i n1,bstK (rvT ps (bsS lf st) k) s 16≤65:=fun k hk=>by
    have hkm:=kdsI_mem.1 hk
    rcases bstK_spec (rvT ps (bsS lf st) k) s 16 with⟨-,h9⟩|⟨⟨t,-,-,h9⟩,-⟩
    ·omega
    ·have:=dU_bd s t
     have:=rvT_le (bs:=bsS lf st) hup (fun i s=>(bsS_bd lf st i s).2) (i:=k) (by omega) t
     omega
   have hlow:=bst_ge (rvT ps (bsS lf st) q) s 16
   have hupq:=hup9 q (List.mem_of_getElem? hq)
   have hsg:=sum_ge (fun k=>bstK (rvT ps (bsS lf st) k) s 16) (fun k=>bst_ge _ _ _) ((kdsI ps i n1).take j)
   have hsu:=sum_ub (fun k=>bstK (rvT ps (bsS lf st) k) s 16) 65 ((kdsI ps i n1).take j) (fun k hk=>hup9 k (List.mem_of_mem_take hk))
   have htl:((kdsI ps i n1).take j).length≤64:=by rw [List.length_take];omega
   have hbs9:=bsS_bd lf st i s
   have hLs:=hL2v s hs1
   rw [if_neg (Nat.lt_irrefl s),if_pos rfl] at hLs
   obtain⟨x9,hx9⟩:∃ x9,L2[s]?=some x9:=⟨_,List.getElem?_eq_getElem (by omega)⟩
   have hx9v:L2.getD s 0=x9:=by rw [List.getD_eq_getElem?_getD,hx9];rfl
   rw [hx9v] at hLs
   have hxc:(L2.map (Value.int .i64))[0+(s:Int).toNat * 1]?=some (.int .i64 x9):=by rw [show 0+(s:Int).toNat * 1=s by omega,List.getElem?_map,hx9];rfl
   have hlm2:(L2.map (Value.int .i64)).length=16:=by rw [List.length_map,hL2l]
   repeat' (first|refine d1 ?_|refine dd ?_|(show T _ (.ops _ (_::_)::_) _ _ _;first|refine T_val rfl (Val.load rfl (fun hg=>rdOwn1 rfl)) rfl rfl rfl ?_|refine T_valC rfl (Val.load rfl (fun hg=>rdOwn1 rfl)) rfl rfl rfl rfl rfl ?_|refine T_val rfl (Val.load rfl (fun hg=>rdOwn1 (b:=bT) hbT)) rfl rfl rfl ?_|refine T_valC rfl (Val.load rfl (fun hg=>rdOwn1 (b:=bT) hbT)) rfl rfl rfl rfl rfl ?_|refine T_call rfl rfl rfl rfl rfl (fun w hw=>bestRow_spec gc Aq oc cq s (rowL ps (bsS lf st) q) w (hC.old hw) (intsSrc (hrq.own hw)) (rowL_len _ _ _) hs1 hrb) ?_|refine T_callC rfl rfl rfl rfl rfl rfl rfl (fun hg w hw=>bestRow_spec gc Aq oc cq s (rowL ps (bsS lf st) q) w (hC.old hw) (intsSrc (hrq.own hw)) (rowL_len _ _ _) hs1 hrb) ?_)|(show T _ (.run _ _ (_::_) _ _::_) _ _ _;first|refine rv rfl rfl rfl (Val.load rfl (fun hg=>rdOwn1 rfl)) rfl rfl rfl ?_|refine rg rfl rfl rfl (Val.load rfl (fun hg=>rdOwn1 rfl)) rfl rfl rfl rfl rfl ?_|refine rv rfl rfl rfl (Val.load rfl (fun hg=>rdOwn1 (b:=bT) hbT)) rfl rfl rfl ?_|refine rg rfl rfl rfl (Val.load rfl (fun hg=>rdOwn1 (b:=bT) hbT)) rfl rfl rfl rfl rfl ?_|refine rc rfl rfl rfl rfl rfl rfl rfl (fun w hw=>bestRow_spec gc Aq oc cq s (rowL ps (bsS lf st) q) w (hC.old hw) (intsSrc (hrq.own hw)) (rowL_len _ _ _) hs1 hrb) ?_|refine rcG rfl rfl rfl rfl rfl rfl rfl rfl rfl (fun hg w hw=>bestRow_spec gc Aq oc cq s (rowL ps (bsS lf st) q) w (hC.old hw) (intsSrc (hrq.own hw)) (rowL_len _ _ _) hs1 hrb) ?_)|(show ∀ _:Nat,T _ _ _ _ _;intro _))
   rw [hbq]
   obtain⟨y9,hy9⟩:∃ y9,y9=bstK (rvT ps (bsS lf st) q) s 16:=⟨_,rfl⟩
   rw [← hy9] at hlow hupq ⊢
   repeat' (first|refine d1 ?_|(show T _ (.ops _ (_::_)::_) _ _ _;first|refine T_val rfl (Val.load rfl (fun hg=>rdOwn1 (b:=b3) hxc)) rfl rfl rfl ?_|refine T_valC rfl (Val.load rfl (fun hg=>rdOwn1 (b:=b3) hxc)) rfl rfl rfl rfl rfl ?_|refine T_op (OpT.store rfl rfl rfl rfl (by rw [hlm2];omega) ?_))|(show T _ (.run _ _ (_::_) _ _::_) _ _ _;first|refine rv rfl rfl rfl (Val.load rfl (fun hg=>rdOwn1 (b:=b3) hxc)) rfl rfl rfl ?_|refine rg rfl rfl rfl (Val.load rfl (fun hg=>rdOwn1 (b:=b3) hxc)) rfl rfl rfl rfl rfl ?_)|(show ∀ _:Nat,T _ _ _ _ _;intro _))
   have htk:=take_snoc _ _ _ hq
   refine T_next _ ⟨L2.set s (x9+y9),⟨by rw [List.length_set,hL2l],fun t ht=>?_⟩,rfl⟩ ?_
   ·rw [List.getD_eq_getElem?_getD,List.getElem?_set,hL2l]
    by_cases e:s=t
    ·subst e
     rw [if_pos rfl,if_pos hs1,if_neg (Nat.lt_irrefl s),if_pos rfl,htk,List.map_append,List.sum_append,List.map_singleton, ← hy9,hLs]
     show bsS lf st i s+_+y9=_
     simp only [List.sum_cons,List.sum_nil]
     omega
    ·rw [if_neg e, ← List.getD_eq_getElem?_getD,hL2v t ht]
     by_cases e2:t<s
     ·rw [if_pos e2,if_pos e2]
     ·rw [if_neg e2,if_neg e2,if_neg (fun e3=>e e3.symm),if_neg (fun e3=>e e3.symm)]
   ·rw [List.map_set,show 0+(s:Int).toNat * 1=s by omega]
    exact Hle.refl _
  ·rintro D Hn ⟨L2,⟨hL2l,hL2v⟩,rfl⟩
   show T _ _ _ _ (dfr D::blk b1 [.int .i64 (i:Nat)] 3::blk b2 [.slice A1 n1 c1, .slice A2 n2 c2] 30::blk t9 [.int .i64 (s:Nat)] 3::blk t7 [.slice (some ⟨b3,0,none⟩) 16 16] 24::blk b3 (L2.map (Value.int .i64)) 3::fz ph::blk bT (tbC n1 hs) 24::fz pz::blk pc [.slice gc 16 oc] 23::blk pl [.slice Al lf.length cl] 24::blk pst [.slice (some ⟨gs,os,none⟩) st.length cs] 24::blk pt [.slice A1 n1 c1, .slice A2 n2 c2] 30::blk pT [.slice (some ⟨bT,0,none⟩) n1 n1] 23::dfrs Dl)
   repeat' (first|refine d1 ?_|(show ∀ _:Nat,T _ _ _ _ _;intro _))
   refine T_backD (s+1,L2,D::Dl) ⟨by dsimp only;omega,hL2l,fun t ht=>?_⟩ (by dsimp only;omega) rfl (hG:=?_)
   ·dsimp only
    rw [hL2v t ht,List.take_length]
    by_cases e:t=s
    ·subst e
     rw [if_neg (Nat.lt_irrefl _),if_pos rfl,if_pos (Nat.lt_succ_self _),rvT_eq hup (by omega),hl1]
    ·by_cases e2:t<s
     ·rw [if_pos e2,if_pos (by omega)]
     ·rw [if_neg e2,if_neg e,if_neg (by omega)]
   ·exact hle_tm0
 ·simp only [decide_eq_false_iff_not] at h
  obtain rfl:s=16:=by omega
  have hcl9:=tbC_len (n:=n1) (hs:=hs) (by omega)
  have hLe:L=rowL ps (bsS lf st) i:=by
   refine List.ext_getElem? fun t=>?_
   unfold rowL
   rw [List.getElem?_map]
   rcases Nat.lt_or_ge t 16 with h9|h9
   ·have:=hLv t h9
    rw [if_pos h9] at this
    rw [List.getElem?_range h9,List.getElem?_eq_getElem (by omega)]
    rw [List.getD_eq_getElem?_getD,List.getElem?_eq_getElem (by omega)] at this
    exact congrArg some this
   ·rw [List.getElem?_eq_none (by omega),List.getElem?_eq_none (by simpa using h9)];rfl
  subst hLe
  repeat' (first|refine d1 ?_|(show T _ (.ops _ (_::_)::_) _ _ _;refine T_op (OpT.store rfl rfl rfl rfl (by rw [hcl9];omega) ?_))|(show ∀ _:Nat,T _ _ _ _ _;intro _))
  rw [tbC_set hhs]
  rw [← hul] at hC
  refine T_fallDs (Dl:=Dl) (dat (.slice (some ⟨b3,0,none⟩) 16 16::hs) ((tbR ps (bsS lf st) n1 i).map intsD)::blk bT (tbC n1 (.slice (some ⟨b3,0,none⟩) 16 16::hs)) 24::fz pz::blk pc [.slice gc 16 oc] 23::blk pl [.slice Al lf.length cl] 24::blk pst [.slice (some ⟨gs,os,none⟩) st.length cs] 24::blk pt [.slice A1 n1 c1, .slice A2 n2 c2] 30::blk pT [.slice (some ⟨bT,0,none⟩) n1 n1] 23::[]) ?_ (rf_V (vs:=[]) _ rfl (Hle.refl _) ⟨.slice (some ⟨b3,0,none⟩) 16 16,trivial,rfl,rfl⟩)
  refine (Hle.tail _ _).trans ?_
  refine (hle_map (blk_row (sz:=1) (n:=16) (by rw [List.length_map,rowL_len]) (by decide))).trans ?_
  refine (show Hle (row 3 1 (some ⟨b3,0,none⟩) 16 16 ((rowL ps (bsS lf st) i).map (Value.int .i64))::_) _ from dat_rowV).trans ?_
  refine hle_swap.trans ((hle_unfz hph).trans ?_)
  rw [tbR_cons hi,List.map_cons]
  refine (show Hle (dat hs _::dat [.slice (some ⟨b3,0,none⟩) 16 16] _::_) _ from dat_join).trans ?_
  rw [show ((rowL ps (bsS lf st) i).map (Value.int .i64)).map D.v=(rowL ps (bsS lf st) i).map fun n=>D.v (.int .i64 n) from List.map_map]
  exact Hle.refl _
end Go.Proofs.YtabhdaehomjlgaaGreat
namespace Go.Proofs.YtabhdaehomjlgaaGreat
open Go.RowKit Go.Shelf Go.Proofs
set_option maxRecDepth 100000
set_option maxHeartbeats 1000000

def lfZ (ns:List ByteArray):List Int:=(lfI ns).map fun (i:Nat)=>(i:Int)
theorem lfZ_nums (ns:List ByteArray):numsV (lfI ns)=(lfZ ns).map (Value.int .i64):=by unfold lfZ numsV;rw [List.map_map];rfl
theorem lfZ_len (ns:List ByteArray):(lfZ ns).length=(lfI ns).length:=by unfold lfZ;simp
theorem hle_tn0 {A B C D E F G I:HA} {H:List HA}:Hle (A::B::C::D::E::F::G::I::H) (A::E::C::F::B::G::I::D::H):=hle_pm [0,4,2,5,1,6,7,3] [A,B,C,D,E,F,G,I] H
theorem tableP_spec (A1 A2 As:Option Addr) (n1 c1 n2 c2 cs:Nat) (C:Value) (ps:List Int) (ns:List ByteArray) (st:List Int) (w:World) (ht:TrA w A1 n1 c1 A2 n2 c2 ps ns) (hok:tOk ps ns) (hst:Src w 1 As st.length (st.map (Value.int .i64))) (hls:(lfI ns).length=st.length) (hl0:0<st.length) (hst2:st.length≤64) (hsb:∀ x∈st,-1≤x∧x≤1000000) (hC:Rd (wr w) [C] [rowsD uM]) :
  Spec Tryz.prog 69 [.agg #[.slice A1 n1 c1, .slice A2 n2 c2], .slice As st.length cs,C] w (fun v R=>∃ x:Value,True∧v=x∧R=[dat [x] [rowsD (tbR ps (bsS (lfZ ns) st) n1 0)]]):=by
 have hl1:=ht.l1
 have hl2:=ht.l2
 have hlen:=hok.len
 have h64:=hok.n64
 have hpos:=hok.pos
 obtain⟨gc,oc,csC,rfl,hc1,hc2,hc3,hc4,hc5⟩:=hC.tab
 refine spec_of sg Tryz.func69 rfl rfl rfl ?_
 repeat' (first|(show T _ (.ops _ (⟨_, .box _ _,_,_,_,_⟩::_)::_) _ _ _;first|refine T_op (OpT.box (cs:=[.slice A1 n1 c1, .slice A2 n2 c2]) rfl rfl rfl rfl rfl rfl rfl (fun _=>?_))|refine T_op (OpT.box (cs:=[.slice As st.length cs]) rfl rfl rfl rfl rfl rfl rfl (fun _=>?_))|refine T_op (OpT.box (cs:=[.slice gc uM.length oc]) rfl rfl rfl rfl rfl rfl rfl (fun _=>?_)))|refine d1 ?_|(show T _ (.ops _ (_::_)::_) _ _ _;refine T_op (OpT.make rfl rfl rfl rfl rfl rfl rfl rfl rfl (by dsimp only;omega) (fun bT=>?_)))|(show ∀ _:Nat,T _ _ _ _ _;intro _))
 rename_i t3 t4 t5 t7
 rw [show ((n1:Nat):Int).toNat=n1 from rfl]
 refine T_op (OpT.call rfl rfl rfl rfl rfl (fun w hw=>leavesTree_spec A1 A2 n1 c1 n2 c2 ps ns w (ht.cls hw)) ?_)
 rintro u R (⟨h9,-,-⟩|⟨-,⟨Al,cl⟩,rfl,rfl⟩)
 ·exact absurd hok h9
 dsimp only
 rw [lfZ_nums, ← lfZ_len] at *
 refine T_le (H':=dat [.slice Al (lfZ ns).length cl] [intsD (lfZ ns)]::blk t7 [.slice (some ⟨bT,0,none⟩) n1 n1] 23::blk bT (tbC n1 []) 24::blk t5 [.slice gc uM.length oc] 23::blk t4 [.slice As st.length cs] 24::blk t3 [.slice A1 n1 c1, .slice A2 n2 c2] 30::[]) ?_ ?_
 ·refine (show Hle (row 3 1 Al cl (lfZ ns).length ((lfZ ns).map (Value.int .i64))::_) _ from dat_rowV).trans ?_
  rw [show ((lfZ ns).map (Value.int .i64)).map D.v=(lfZ ns).map fun n=>D.v (.int .i64 n) from List.map_map]
  rw [show tbC n1 []=List.replicate n1 (.slice none 0 0) from List.append_nil _]
  exact Hle.refl _
 refine T_open fun pz hpz=>?_
 repeat' (first|refine d1 ?_|(show ∀ _:Nat,T _ _ _ _ _;intro _))
 rename_i t8
 have hm0:tbR ps (bsS (lfZ ns) st) n1 n1=[]:=List.eq_nil_of_length_eq_zero (by rw [tbR_len];omega)
 refine T_loopX (fun s:Nat × List Value=>[(11, .int .i64 ((s.1:Int) - 1))]) (fun s=>dat s.2 ((tbR ps (bsS (lfZ ns) st) n1 s.1).map intsD)::blk bT (tbC n1 s.2) 24::fz pz::tbB t5 t8 t4 t3 t7 bT (.slice gc uM.length oc) (.slice Al (lfZ ns).length cl) (.slice As st.length cs) A1 A2 n1 c1 n2 c2)
  (fun s=>s.2.length+s.1=n1) (fun s=>s.1) (n1,[]) (Nat.zero_add _) (hG:=by
   dsimp only
   rw [hm0]
   exact (hle_unit (B:=dat [] []) .nil).trans hle_tn0) ?_
 rintro⟨m,hs⟩ hhs
 dsimp only at hhs ⊢
 repeat' (first|refine d1 ?_|(show ∀ _:Nat,T _ _ _ _ _;intro _))
 refine T_if rfl (fun h=>?_) (fun h=>?_)
 ·simp only [decide_eq_true_eq] at h
  obtain⟨i,rfl⟩:∃ i,m=i+1:=⟨m - 1,by omega⟩
  rw [show ((i+1:Nat):Int) - 1=(i:Nat) by omega]
  repeat' (first|refine d1 ?_|(show ∀ _:Nat,T _ _ _ _ _;intro _))
  refine T_op (OpT.callB rfl rfl rfl rfl rfl (tableC_spec ht hok.up (by omega) hst hls (by omega) hst2 hsb hC hpz t5 t8 t4 t3 t7 bT (i:=i) (by omega) hs hhs) ?_)
  rintro u R ⟨h9,-,rfl,rfl⟩
  repeat' (first|refine d1 ?_|(show ∀ _:Nat,T _ _ _ _ _;intro _))
  refine T_backX (i,h9::hs) (by dsimp only;rw [List.length_cons];omega) (by dsimp only;omega) (hE:=⟨rfl,trivial⟩) (hG:=Hle.refl _)
 ·simp only [decide_eq_false_iff_not] at h
  obtain rfl:m=0:=by omega
  have htb:tbC n1 hs=hs:=by unfold tbC;rw [show n1 - hs.length=0 by omega];rfl
  rw [htb]
  unfold tbB
  have htl:=tbR_len ps (bsS (lfZ ns) st) n1 0
  repeat' (first|refine d1 ?_|refine dd ?_|(show ∀ _:Nat,T _ _ _ _ _;intro _)|(show T _ (.code .ret::_) _ _ _;refine T_retV _ rfl (hle_swap.trans ((hle_map (blk_row (sz:=1) (n:=n1) (by omega) (by simp only [maxLen];omega))).trans (dat_row.trans (Hle.append_left (A:=[_]) _)))) ⟨_,trivial,rfl,rfl⟩))
theorem fitch_spec (A1 A2 As:Option Addr) (n1 c1 n2 c2 cs:Nat) (ps:List Int) (ns:List ByteArray) (st:List Int) (w:World) (ht:TrA w A1 n1 c1 A2 n2 c2 ps ns) (hok:tOk ps ns) (hst:Src w 1 As st.length (st.map (Value.int .i64))) (hls:(lfI ns).length=st.length) (hl0:0<st.length) (hst2:st.length≤64) (hsb:∀ x∈st,-1≤x∧x<16) :
  Spec Tryz.prog 27 [.agg #[.slice A1 n1 c1, .slice A2 n2 c2], .slice As st.length cs] w (fun v R=>v = .tuple #[.int .i64 (lstK (rvT ps (bsS (lfZ ns) st) 0) 16), .int .i64 0]∧R=[]):=by
 have hl1:=ht.l1
 have hpos:=hok.pos
 refine spec_of sg Tryz.func27 rfl rfl rfl ?_
 repeat' (first|(show T _ (.ops _ (⟨_, .box _ _,_,_,_,_⟩::_)::_) _ _ _;refine T_op (OpT.box (cs:=[.slice A1 n1 c1, .slice A2 n2 c2]) rfl rfl rfl rfl rfl rfl rfl (fun _=>?_)))|refine d1 ?_|(show ∀ _:Nat,T _ _ _ _ _;intro _))
 rename_i t2
 refine T_op (OpT.call rfl rfl rfl rfl rfl (fun w hw=>leavesTree_spec A1 A2 n1 c1 n2 c2 ps ns w (ht.cls hw)) ?_)
 rintro u R (⟨h9,-,-⟩|⟨-,⟨Al,cl⟩,rfl,rfl⟩)
 ·exact absurd hok h9
 dsimp only
 refine T_le (H':=[blk t2 [.slice A1 n1 c1, .slice A2 n2 c2] 30]) (Hle.tail _ _) ?_
 have hkn:knE st ((lfI ns).length:Nat) (-1) 16=0:=by
  unfold knE
  rw [if_neg (by rw [hls];exact fun h=>h rfl),if_neg (by
   intro h
   obtain⟨x,hx,hx2⟩:=List.any_eq_true.1 h
   have:=hsb x hx
   simp at hx2
   omega)]
 repeat' (first|refine d1 ?_|(show ∀ _:Nat,T _ _ _ _ _;intro _))
 refine T_if rfl (fun h=>by cases h) (fun _=>?_)
 repeat' (first|refine d1 ?_|(show T _ (.ops _ (_::_)::_) _ _ _;first|refine T_call rfl rfl rfl rfl rfl (fun w hw=>known_spec As st.length cs st ((lfI ns).length:Nat) (-1) 16 w (src_below hst hw.below) rfl (by omega)) ?_|refine T_callC rfl rfl rfl rfl rfl rfl rfl (fun hg w hw=>known_spec As st.length cs st ((lfI ns).length:Nat) (-1) 16 w (src_below hst hw.below) rfl (by omega)) ?_)|(show T _ (.run _ _ (_::_) _ _::_) _ _ _;first|refine rc rfl rfl rfl rfl rfl rfl rfl (fun w hw=>known_spec As st.length cs st ((lfI ns).length:Nat) (-1) 16 w (src_below hst hw.below) rfl (by omega)) ?_|refine rcG rfl rfl rfl rfl rfl rfl rfl rfl rfl (fun hg w hw=>known_spec As st.length cs st ((lfI ns).length:Nat) (-1) 16 w (src_below hst hw.below) rfl (by omega)) ?_)|(show ∀ _:Nat,T _ _ _ _ _;intro _))
 rw [hkn]
 refine T_if rfl (fun h=>by cases h) (fun _=>?_)
 repeat' (first|refine d1 ?_|(show ∀ _:Nat,T _ _ _ _ _;intro _))
 refine rsH [blk t2 [.slice A1 n1 c1, .slice A2 n2 c2] 30] 1000 [0,1,2,3,4,5,6,7,8,9,10,11] ?_
 repeat' (first|refine d1 ?_|refine dd ?_|(show ∀ _:Nat,T _ _ _ _ _;intro _))
 refine ro rfl rfl (OpT.callE1 rfl rfl rfl rfl rfl (fun w hw=>unitP_spec w) (fun x9 _=>⟨fun _=>Hle.tail _ _,?_⟩))
 show T _ _ _ _ (dat [x9] [rowsD uM]::blk t2 [.slice A1 n1 c1, .slice A2 n2 c2] 30::[])
 refine T_open fun p9 hp9=>?_
 repeat' (first|refine d1 ?_|refine dd ?_|(show ∀ _:Nat,T _ _ _ _ _;intro _))
 refine ro rfl rfl (OpT.callE1 rfl rfl rfl rfl rfl (fun w hw=>tableP_spec A1 A2 As n1 c1 n2 c2 cs x9 ps ns st w (ht.cls hw) hok (src_below hst hw.below) hls hl0 hst2 (fun x hx=>by have:=hsb x hx;omega) (hp9.own hw)) (fun y9 _=>⟨fun _=>(Hle.tail _ _).trans (Hle.tail _ _),?_⟩))
 show T _ _ _ _ (dat [y9] [rowsD (tbR ps (bsS (lfZ ns) st) n1 0)]::fz p9::blk t2 [.slice A1 n1 c1, .slice A2 n2 c2] 30::[])
 refine T_open fun p8 hp8=>?_
 have htl:=tbR_len ps (bsS (lfZ ns) st) n1 0
 obtain⟨Ad,cd,csd,rfl,hd1,hd2,hd3,hd4,hd5⟩:=hp8.tab
 rw [htl,Nat.sub_zero] at *
 obtain⟨gd,od,rfl,hcsd⟩:=hd4 (by omega)
 obtain⟨A0,c0,hc0,-,-,-⟩:=hd5.tabRow (i:=0) (r:=rowL ps (bsS (lfZ ns) st) 0) (tbR_get (m:=0) (k:=0) (Nat.le_refl _) (by omega))
 rw [rowL_len] at hc0
 have hr0:Rd (fr p8) [.slice A0 16 c0] [intsD (rowL ps (bsS (lfZ ns) st) 0)]:=by
  obtain⟨y,hy,hr⟩:=Rd.get hd5 (i:=0) (d:=intsD (rowL ps (bsS (lfZ ns) st) 0)) (by rw [List.getElem?_map,tbR_get (m:=0) (k:=0) (Nat.le_refl _) (by omega)];rfl)
  rw [hc0] at hy
  cases hy
  exact hr
 have hcell:=hcsd 0 _ hc0
 repeat' (first|refine d1 ?_|refine dd ?_|(show ∀ _:Nat,T _ _ _ _ _;intro _))
 refine roM rfl (by decide +kernel) (OpT.ofVal rfl (Val.load rfl (fun _ w hw=>RdC.one (hw.fz (p:=p8) _ _ _ hcell))) rfl rfl rfl ⟨fun _=>(Hle.tail _ _).trans (Hle.tail _ _),?_⟩)
 have hle9:lstK (rowF (rowL ps (bsS (lfZ ns) st) 0)) 16=lstK (rvT ps (bsS (lfZ ns) st) 0) 16:=lst_congr fun t ht=>rowL_f ht
 repeat' (first|refine d1 ?_|refine dd ?_|(show T _ (.ops _ (_::_)::_) _ _ _;first|refine T_call rfl rfl rfl rfl rfl (fun w hw=>leastRow_spec A0 16 c0 (rowL ps (bsS (lfZ ns) st) 0) w (intsSrc (hr0.own hw)) (rowL_len _ _ _) (by decide) (by decide)) ?_|refine T_callC rfl rfl rfl rfl rfl rfl rfl (fun hg w hw=>leastRow_spec A0 16 c0 (rowL ps (bsS (lfZ ns) st) 0) w (intsSrc (hr0.own hw)) (rowL_len _ _ _) (by decide) (by decide)) ?_)|(show T _ (.run _ _ (_::_) _ _::_) _ _ _;first|refine rc rfl rfl rfl rfl rfl rfl rfl (fun w hw=>leastRow_spec A0 16 c0 (rowL ps (bsS (lfZ ns) st) 0) w (intsSrc (hr0.own hw)) (rowL_len _ _ _) (by decide) (by decide)) ?_|refine rcG rfl rfl rfl rfl rfl rfl rfl rfl rfl (fun hg w hw=>leastRow_spec A0 16 c0 (rowL ps (bsS (lfZ ns) st) 0) w (intsSrc (hr0.own hw)) (rowL_len _ _ _) (by decide) (by decide)) ?_)|(show ∀ _:Nat,T _ _ _ _ _;intro _)|(show T _ (.code .ret::_) _ _ _;refine T_retV [] rfl (Hle.none _) ⟨by rw [← hle9];rfl,rfl⟩))
end Go.Proofs.YtabhdaehomjlgaaGreat
namespace Go.Proofs.YtabhdaehomjlgaaGreat
open Go.RowKit Go.Shelf Go.Proofs
set_option maxRecDepth 100000
set_option maxHeartbeats 1000000

theorem namedRef31_spec (s:ByteArray) (hs:s.size≤1000000) (w:World):Spec Tryz.prog 175 [.string s] w (fun v R=>∃ b:Bool,True∧v = .bool b∧R=[]):=by
 refine spec_of sg Tryz.func175 rfl rfl rfl ?_
 repeat' (first|refine d1 ?_|refine dd ?_|(show ∀ _:Nat,T _ _ _ _ _;intro _))
 refine T_if rfl (fun h=>?_) (fun h=>?_)
 ·simp only [Bool.and_eq_true,decide_eq_true_eq] at h
  repeat' (first|refine d1 ?_|refine dd ?_|(show T _ (.ops _ (_::_)::_) _ _ _;first|refine T_call rfl rfl rfl rfl rfl (fun w hw=>isNameRef_spec _ w) ?_|refine T_callC rfl rfl rfl rfl rfl rfl rfl (fun hg w hw=>isNameRef_spec _ w) ?_)|(show T _ (.run _ _ (_::_) _ _::_) _ _ _;first|refine rc rfl rfl rfl rfl rfl rfl rfl (fun w hw=>isNameRef_spec _ w) ?_|refine rcG rfl rfl rfl rfl rfl rfl rfl rfl rfl (fun hg w hw=>isNameRef_spec _ w) ?_)|(show ∀ _:Nat,T _ _ _ _ _;intro _)|(show T _ (.code .ret::_) _ _ _;refine T_retV [] rfl (Hle.none _) ⟨_,trivial,rfl,rfl⟩))
 ·repeat' (first|refine d1 ?_|refine dd ?_|(show T _ (.ops _ (_::_)::_) _ _ _;first|refine T_call rfl rfl rfl rfl rfl (fun w hw=>isNameRef_spec s w) ?_|refine T_callC rfl rfl rfl rfl rfl rfl rfl (fun hg w hw=>isNameRef_spec s w) ?_)|(show T _ (.run _ _ (_::_) _ _::_) _ _ _;first|refine rc rfl rfl rfl rfl rfl rfl rfl (fun w hw=>isNameRef_spec s w) ?_|refine rcG rfl rfl rfl rfl rfl rfl rfl rfl rfl (fun hg w hw=>isNameRef_spec s w) ?_)|(show ∀ _:Nat,T _ _ _ _ _;intro _)|(show T _ (.code .ret::_) _ _ _;refine T_retV [] rfl (Hle.none _) ⟨_,trivial,rfl,rfl⟩))
theorem childrenRef31_spec (A1 A2:Option Addr) (n1 c1 n2 c2:Nat) (ps:List Int) (ns:List ByteArray) (i:Nat) (w:World) (ht:TrA w A1 n1 c1 A2 n2 c2 ps ns) (h64:n1≤64) (hi:i<n1) :
  Spec Tryz.prog 174 [.agg #[.slice A1 n1 c1, .slice A2 n2 c2], .int .i64 (i:Nat)] w (fun v R=>∃ y:List Int × Option Addr × Nat,True∧v = .slice y.2.1 y.1.length y.2.2∧R=[row 3 1 y.2.1 y.2.2 y.1.length (y.1.map (Value.int .i64))]):=by
 have hl1:=ht.l1
 refine spec_of sg Tryz.func174 rfl rfl rfl ?_
 obtain⟨g1,o1,rfl⟩:=ht.s1.base (by omega)
 repeat' (first|(show T _ (.ops _ (⟨_, .box _ _,_,_,_,_⟩::_)::_) _ _ _;refine T_op (OpT.box (cs:=[.slice (some ⟨g1,o1,none⟩) n1 c1, .slice A2 n2 c2]) rfl rfl rfl rfl rfl rfl rfl (fun _=>?_)))|refine d1 ?_|(show ∀ _:Nat,T _ _ _ _ _;intro _))
 rename_i t2
 refine T_nilrow 3 1 ?_
 refine T_loopX (fun s:Nat × List Int × Option Addr × Nat=>[(6, .int .i64 (s.1:Nat)),(5, .slice s.2.2.1 s.2.1.length s.2.2.2)]) (fun s=>[row 3 1 s.2.2.1 s.2.2.2 s.2.1.length (s.2.1.map (Value.int .i64)),blk t2 [.slice (some ⟨g1,o1,none⟩) n1 c1, .slice A2 n2 c2] 30])
  (fun s=>s.1≤n1∧s.2.1.length≤s.1) (fun s=>n1 - s.1) (i+1,[],none,0) ⟨hi,Nat.zero_le _⟩ ?_
 rintro⟨j,l,A',c'⟩ ⟨hj,hl⟩
 dsimp only at hj hl ⊢
 repeat' (first|refine d1 ?_|(show ∀ _:Nat,T _ _ _ _ _;intro _))
 refine T_if rfl (fun h=>?_) (fun h=>?_)
 ·simp only [decide_eq_true_eq] at h
  obtain⟨r,hr⟩:∃ r,ps[j]?=some r:=⟨_,List.getElem?_eq_getElem (by omega)⟩
  have hr1:=src_int ht.s1 (k:=j) (by omega) hr
  repeat' (first|refine d1 ?_|(show T _ (.ops _ (_::_)::_) _ _ _;first|refine T_val rfl (Val.load rfl (fun hg=>rdOld hr1)) rfl rfl rfl ?_|refine T_valC rfl (Val.load rfl (fun hg=>rdOld hr1)) rfl rfl rfl rfl rfl ?_)|(show T _ (.run _ _ (_::_) _ _::_) _ _ _;first|refine rv rfl rfl rfl (Val.load rfl (fun hg=>rdOld hr1)) rfl rfl rfl ?_|refine rg rfl rfl rfl (Val.load rfl (fun hg=>rdOld hr1)) rfl rfl rfl rfl rfl ?_)|(show ∀ _:Nat,T _ _ _ _ _;intro _))
  refine T_if rfl (fun h5=>?_) (fun h5=>?_)
  ·repeat' (first|refine d1 ?_|(show T _ (.ops _ (_::_)::_) _ _ _;first|refine T_op (OpT.litW rfl rfl rfl rfl rfl rfl rfl rfl rfl rfl rfl (fun _=>?_))|refine T_op (OpT.append (A:=A') rfl rfl rfl rfl rfl rfl rfl rfl rfl rfl (fun w hw=>Src.own hw rfl) rfl (by dsimp only;omega) (by omega) (fun A9 c9 hA9=>?_)))|(show ∀ _:Nat,T _ _ _ _ _;intro _))
   refine T_backX (j+1,l++[(j:Int)],A9,c9) ⟨by dsimp only;omega,by dsimp only;simp;omega⟩ (by dsimp only;omega) (hE:=⟨rfl,by dsimp only;rw [List.length_append];rfl,trivial⟩) (hG:=?_)
   dsimp only
   rw [List.length_append,List.map_append]
   exact Hle.tail _ _
  ·repeat' (first|refine d1 ?_|(show ∀ _:Nat,T _ _ _ _ _;intro _))
   exact T_backX (j+1,l,A',c') ⟨by dsimp only;omega,by dsimp only;omega⟩ (by dsimp only;omega)
 ·repeat' (first|refine d1 ?_|refine dd ?_|(show ∀ _:Nat,T _ _ _ _ _;intro _)|(show T _ (.code .ret::_) _ _ _;refine T_retV _ rfl (Hle.append_left (A:=[_]) _) ⟨(l,A',c'),trivial,rfl,rfl⟩))
theorem checkRef31_spec (A1 A2:Option Addr) (n1 c1 n2 c2:Nat) (ps:List Int) (ns:List ByteArray) (w:World) (ht:TrA w A1 n1 c1 A2 n2 c2 ps ns) :
  Spec Tryz.prog 145 [.agg #[.slice A1 n1 c1, .slice A2 n2 c2]] w (fun v R=>∃ e:Int,True∧v = .int .i64 e∧R=[]):=by
 have hl1:=ht.l1
 have hl2:=ht.l2
 have hb1:=ht.b1
 have hb2:=ht.b2
 refine spec_of sg Tryz.func145 rfl rfl rfl ?_
 repeat' (first|(show T _ (.ops _ (⟨_, .box _ _,_,_,_,_⟩::_)::_) _ _ _;refine T_op (OpT.box (cs:=[.slice A1 n1 c1, .slice A2 n2 c2]) rfl rfl rfl rfl rfl rfl rfl (fun _=>?_)))|refine d1 ?_|(show ∀ _:Nat,T _ _ _ _ _;intro _))
 rename_i t1
 refine T_if rfl (fun h=>?_) (fun h=>?_)
 ·repeat' (first|refine d1 ?_|refine dd ?_|(show ∀ _:Nat,T _ _ _ _ _;intro _)|(show T _ (.code .ret::_) _ _ _;refine T_retV [] rfl (Hle.none _) ⟨_,trivial,rfl,rfl⟩))
 simp only [decide_eq_false_iff_not] at h
 repeat' (first|refine d1 ?_|(show ∀ _:Nat,T _ _ _ _ _;intro _))
 refine T_if rfl (fun h2=>?_) (fun h2=>?_)
 ·repeat' (first|refine d1 ?_|refine dd ?_|(show ∀ _:Nat,T _ _ _ _ _;intro _)|(show T _ (.code .ret::_) _ _ _;refine T_retV [] rfl (Hle.none _) ⟨_,trivial,rfl,rfl⟩))
 simp only [decide_eq_false_iff_not] at h2
 repeat' (first|refine d1 ?_|(show ∀ _:Nat,T _ _ _ _ _;intro _))
 refine T_if rfl (fun h3=>?_) (fun h3=>?_)
 ·repeat' (first|refine d1 ?_|refine dd ?_|(show ∀ _:Nat,T _ _ _ _ _;intro _)|(show T _ (.code .ret::_) _ _ _;refine T_retV [] rfl (Hle.none _) ⟨_,trivial,rfl,rfl⟩))
 simp only [Bool.not_eq_false',decide_eq_true_eq] at h3
 obtain rfl:n2=n1:=by omega
 obtain⟨g1,o1,rfl⟩:=ht.s1.base (by omega)
 obtain⟨g2,o2,rfl⟩:=ht.s2.base (by omega)
 repeat' (first|refine d1 ?_|(show ∀ _:Nat,T _ _ _ _ _;intro _))
 refine T_loopX (fun j:Nat=>[(3, .int .i64 (j:Nat))]) (fun _=>[blk t1 [.slice (some ⟨g1,o1,none⟩) n2 c1, .slice (some ⟨g2,o2,none⟩) n2 c2] 30]) (fun j=>j≤n2) (fun j=>n2 - j) 0 (Nat.zero_le _) ?_
 intro j hj
 repeat' (first|refine d1 ?_|(show ∀ _:Nat,T _ _ _ _ _;intro _))
 refine T_if rfl (fun h5=>?_) (fun h5=>?_)
 ·simp only [decide_eq_true_eq] at h5
  obtain⟨r,hr⟩:∃ r,ps[j]?=some r:=⟨_,List.getElem?_eq_getElem (by omega)⟩
  have hr1:=src_int ht.s1 (k:=j) (by omega) hr
  repeat' (first|refine d1 ?_|(show T _ (.ops _ (_::_)::_) _ _ _;first|refine T_val rfl (Val.load rfl (fun hg=>rdOld hr1)) rfl rfl rfl ?_|refine T_valC rfl (Val.load rfl (fun hg=>rdOld hr1)) rfl rfl rfl rfl rfl ?_|refine T_val rfl (Val.load rfl (fun hg=>rdOwn1 rfl)) rfl rfl rfl ?_|refine T_valC rfl (Val.load rfl (fun hg=>rdOwn1 rfl)) rfl rfl rfl rfl rfl ?_)|(show T _ (.run _ _ (_::_) _ _::_) _ _ _;first|refine rv rfl rfl rfl (Val.load rfl (fun hg=>rdOld hr1)) rfl rfl rfl ?_|refine rg rfl rfl rfl (Val.load rfl (fun hg=>rdOld hr1)) rfl rfl rfl rfl rfl ?_|refine rv rfl rfl rfl (Val.load rfl (fun hg=>rdOwn1 rfl)) rfl rfl rfl ?_|refine rg rfl rfl rfl (Val.load rfl (fun hg=>rdOwn1 rfl)) rfl rfl rfl rfl rfl ?_)|(show ∀ _:Nat,T _ _ _ _ _;intro _))
  refine T_if rfl (fun h6=>?_) (fun h6=>?_)
  ·repeat' (first|refine d1 ?_|refine dd ?_|(show ∀ _:Nat,T _ _ _ _ _;intro _)|(show T _ (.code .ret::_) _ _ _;refine T_retV [] rfl (Hle.none _) ⟨_,trivial,rfl,rfl⟩))
  ·repeat' (first|refine d1 ?_|(show ∀ _:Nat,T _ _ _ _ _;intro _))
   exact T_backX (j+1) (by omega) (by omega)
 repeat' (first|refine d1 ?_|(show ∀ _:Nat,T _ _ _ _ _;intro _))
 refine T_loopX (fun i:Nat=>[(4, .int .i64 (i:Nat))]) (fun _=>[blk t1 [.slice (some ⟨g1,o1,none⟩) n2 c1, .slice (some ⟨g2,o2,none⟩) n2 c2] 30]) (fun i=>i≤n2) (fun i=>n2 - i) 0 (Nat.zero_le _) ?_
 intro i hi
 repeat' (first|refine d1 ?_|(show ∀ _:Nat,T _ _ _ _ _;intro _))
 refine T_if rfl (fun h6=>?_) (fun h6=>?_)
 ·simp only [decide_eq_true_eq] at h6
  obtain⟨s,hs⟩:∃ s,ns[i]?=some s:=⟨_,List.getElem?_eq_getElem (by omega)⟩
  have hs1:=src_str ht.s2 (k:=i) (by omega) hs
  repeat' (first|refine d1 ?_|(show ∀ _:Nat,T _ _ _ _ _;intro _))
  refine T_op (OpT.call rfl rfl rfl rfl rfl (fun w hw=>childrenRef31_spec (some ⟨g1,o1,none⟩) (some ⟨g2,o2,none⟩) n2 c1 n2 c2 ps ns i w (ht.cls hw) (by omega) (by omega)) ?_)
  rintro u R ⟨⟨l9,A9,c9⟩,-,rfl,rfl⟩
  dsimp only
  refine T_le (H':=[blk t1 [.slice (some ⟨g1,o1,none⟩) n2 c1, .slice (some ⟨g2,o2,none⟩) n2 c2] 30]) (Hle.tail _ _) ?_
  repeat' (first|refine d1 ?_|(show ∀ _:Nat,T _ _ _ _ _;intro _))
  refine T_if rfl (fun h7=>?_) (fun h7=>?_)
  ·repeat' (first|refine d1 ?_|(show T _ (.ops _ (_::_)::_) _ _ _;first|refine T_val rfl (Val.load rfl (fun hg=>rdOld hs1)) rfl rfl rfl ?_|refine T_valC rfl (Val.load rfl (fun hg=>rdOld hs1)) rfl rfl rfl rfl rfl ?_)|(show T _ (.run _ _ (_::_) _ _::_) _ _ _;first|refine rv rfl rfl rfl (Val.load rfl (fun hg=>rdOld hs1)) rfl rfl rfl ?_|refine rg rfl rfl rfl (Val.load rfl (fun hg=>rdOld hs1)) rfl rfl rfl rfl rfl ?_)|(show ∀ _:Nat,T _ _ _ _ _;intro _))
   refine T_if rfl (fun h8=>?_) (fun h8=>?_)
   ·repeat' (first|refine d1 ?_|refine dd ?_|(show ∀ _:Nat,T _ _ _ _ _;intro _)|(show T _ (.code .ret::_) _ _ _;refine T_retV [] rfl (Hle.none _) ⟨_,trivial,rfl,rfl⟩))
   ·repeat' (first|refine d1 ?_|(show ∀ _:Nat,T _ _ _ _ _;intro _))
    exact T_backX (i+1) (by omega) (by omega)
  ·repeat' (first|refine d1 ?_|(show T _ (.ops _ (_::_)::_) _ _ _;first|refine T_val rfl (Val.load rfl (fun hg=>rdOld hs1)) rfl rfl rfl ?_|refine T_valC rfl (Val.load rfl (fun hg=>rdOld hs1)) rfl rfl rfl rfl rfl ?_)|(show T _ (.run _ _ (_::_) _ _::_) _ _ _;first|refine rv rfl rfl rfl (Val.load rfl (fun hg=>rdOld hs1)) rfl rfl rfl ?_|refine rg rfl rfl rfl (Val.load rfl (fun hg=>rdOld hs1)) rfl rfl rfl rfl rfl ?_)|(show ∀ _:Nat,T _ _ _ _ _;intro _))
   refine T_op (OpT.call rfl rfl rfl rfl rfl (fun w hw=>namedRef31_spec s (ht.nm s (List.mem_of_getElem? hs)) w) ?_)
   rintro u R ⟨b9,-,rfl,rfl⟩
   rw [List.nil_append]
   repeat' (first|refine d1 ?_|(show ∀ _:Nat,T _ _ _ _ _;intro _))
   refine T_if rfl (fun h8=>?_) (fun h8=>?_)
   ·repeat' (first|refine d1 ?_|refine dd ?_|(show ∀ _:Nat,T _ _ _ _ _;intro _)|(show T _ (.code .ret::_) _ _ _;refine T_retV [] rfl (Hle.none _) ⟨_,trivial,rfl,rfl⟩))
   repeat' (first|refine d1 ?_|(show ∀ _:Nat,T _ _ _ _ _;intro _))
   refine T_loopX (fun q:Nat=>[(5, .int .i64 (q:Nat))]) (fun _=>[blk t1 [.slice (some ⟨g1,o1,none⟩) n2 c1, .slice (some ⟨g2,o2,none⟩) n2 c2] 30]) (fun q=>q≤i) (fun q=>i - q) 0 (Nat.zero_le _) ?_
   intro q hq
   repeat' (first|refine d1 ?_|(show ∀ _:Nat,T _ _ _ _ _;intro _))
   refine T_if rfl (fun h9=>?_) (fun h9=>?_)
   ·simp only [decide_eq_true_eq] at h9
    obtain⟨s2,hs2⟩:∃ s2,ns[q]?=some s2:=⟨_,List.getElem?_eq_getElem (by omega)⟩
    have hs3:=src_str ht.s2 (k:=q) (by omega) hs2
    repeat' (first|refine d1 ?_|refine dd ?_|(show T _ (.ops _ (_::_)::_) _ _ _;first|refine T_val rfl (Val.load rfl (fun hg=>rdOwn1 rfl)) rfl rfl rfl ?_|refine T_valC rfl (Val.load rfl (fun hg=>rdOwn1 rfl)) rfl rfl rfl rfl rfl ?_|refine T_val rfl (Val.load rfl (fun hg=>rdOld hs1)) rfl rfl rfl ?_|refine T_valC rfl (Val.load rfl (fun hg=>rdOld hs1)) rfl rfl rfl rfl rfl ?_|refine T_val rfl (Val.load rfl (fun hg=>rdOld hs3)) rfl rfl rfl ?_|refine T_valC rfl (Val.load rfl (fun hg=>rdOld hs3)) rfl rfl rfl rfl rfl ?_)|(show T _ (.run _ _ (_::_) _ _::_) _ _ _;first|refine rv rfl rfl rfl (Val.load rfl (fun hg=>rdOwn1 rfl)) rfl rfl rfl ?_|refine rg rfl rfl rfl (Val.load rfl (fun hg=>rdOwn1 rfl)) rfl rfl rfl rfl rfl ?_|refine rv rfl rfl rfl (Val.load rfl (fun hg=>rdOld hs1)) rfl rfl rfl ?_|refine rg rfl rfl rfl (Val.load rfl (fun hg=>rdOld hs1)) rfl rfl rfl rfl rfl ?_|refine rv rfl rfl rfl (Val.load rfl (fun hg=>rdOld hs3)) rfl rfl rfl ?_|refine rg rfl rfl rfl (Val.load rfl (fun hg=>rdOld hs3)) rfl rfl rfl rfl rfl ?_)|(show ∀ _:Nat,T _ _ _ _ _;intro _))
    refine T_if rfl (fun h10=>?_) (fun h10=>?_)
    ·repeat' (first|refine d1 ?_|refine dd ?_|(show ∀ _:Nat,T _ _ _ _ _;intro _)|(show T _ (.code .ret::_) _ _ _;refine T_retV [] rfl (Hle.none _) ⟨_,trivial,rfl,rfl⟩))
    ·repeat' (first|refine d1 ?_|(show ∀ _:Nat,T _ _ _ _ _;intro _))
     exact T_backX (q+1) (by omega) (by omega)
   ·repeat' (first|refine d1 ?_|(show ∀ _:Nat,T _ _ _ _ _;intro _))
    exact T_backX (i+1) (by omega) (by omega)
 ·repeat' (first|refine d1 ?_|refine dd ?_|(show ∀ _:Nat,T _ _ _ _ _;intro _)|(show T _ (.code .ret::_) _ _ _;refine T_retV [] rfl (Hle.none _) ⟨_,trivial,rfl,rfl⟩))
end Go.Proofs.YtabhdaehomjlgaaGreat
namespace Go.Proofs.YtabhdaehomjlgaaGreat
open Go.RowKit Go.Shelf Go.Proofs
set_option maxRecDepth 100000
set_option maxHeartbeats 1000000

structure TrR (w:World) (A1:Option Addr) (n1 c1:Nat) (A2:Option Addr) (n2 c2:Nat) (ps:List Int) (ns:List ByteArray):Prop where
 s1:Src w 1 A1 n1 (ps.map (Value.int .i64))
 s2:Src w 1 A2 n2 (ns.map Value.string)
 l1:ps.length=n1
 l2:ns.length=n2
 k1:n1≤c1
 k2:n2≤c2
 m1:c1≤9223372036854775807
 m2:c2≤9223372036854775807
theorem TrR.cls {w0 w:World} {H:List HA} {A1 A2:Option Addr} {n1 c1 n2 c2:Nat} {ps:List Int} {ns:List ByteArray} (h:TrR w0 A1 n1 c1 A2 n2 c2 ps ns) (hw:Cls w0 w H):TrR w A1 n1 c1 A2 n2 c2 ps ns :=
 ⟨src_below h.s1 hw.below,src_below h.s2 hw.below,h.l1,h.l2,h.k1,h.k2,h.m1,h.m2⟩
theorem TrR.tra {w:World} {A1 A2:Option Addr} {n1 c1 n2 c2:Nat} {ps:List Int} {ns:List ByteArray} (h:TrR w A1 n1 c1 A2 n2 c2 ps ns) (h1:n1≤1000000) (h2:n2≤1000000) (hn:∀ s∈ns,s.size≤1000000):TrA w A1 n1 c1 A2 n2 c2 ps ns :=
 ⟨h.s1,h.s2,h.l1,h.l2,h.k1,h.k2,h1,h2,hn⟩
theorem great33_spec (A1 A2:Option Addr) (n1 c1 n2 c2:Nat) (ps:List Int) (ns:List ByteArray) (As:Option Addr) (m cs:Nat) (C:Value) (M:List (List Int)) (w:World) (ht:TrR w A1 n1 c1 A2 n2 c2 ps ns) (hm:m≤9223372036854775807) (hC:Rd (wr w) [C] [rowsD M]) (hM:0<M.length∧M.length≤18) :
  Spec Tryz.prog 61 [.agg #[.slice A1 n1 c1, .slice A2 n2 c2], .slice As m cs,C] w (fun v R=>∃ b:Bool,(b=false→n1≤12∧n2≤14∧m≤12∧∀ s∈ns,s.size≤20)∧v = .bool b∧R=[]):=by
 have hl2:=ht.l2
 have hk2:=ht.k2
 have hm2:=ht.m2
 obtain⟨gc,oc,csC,rfl,hc1,hc2,hc3,hc4,hc5⟩:=hC.tab
 obtain⟨gC,oC,rfl,hcs⟩:=hc4 hM.1
 refine spec_of sg Tryz.func61 rfl rfl rfl ?_
 repeat' (first|(show T _ (.ops _ (⟨_, .box _ _,_,_,_,_⟩::_)::_) _ _ _;refine T_op (OpT.box (cs:=[.slice A1 n1 c1, .slice A2 n2 c2]) rfl rfl rfl rfl rfl rfl rfl (fun _=>?_)))|refine d1 ?_|(show ∀ _:Nat,T _ _ _ _ _;intro _))
 rename_i t3
 refine T_loopX (fun i:Nat=>[(7, .int .i64 (i:Nat))]) (fun _=>[blk t3 [.slice A1 n1 c1, .slice A2 n2 c2] 30]) (fun i=>i≤M.length) (fun i=>M.length - i) 0 (Nat.zero_le _) ?_
 intro i hi
 repeat' (first|refine d1 ?_|(show ∀ _:Nat,T _ _ _ _ _;intro _))
 refine T_if rfl (fun h=>?_) (fun h=>?_)
 ·simp only [decide_eq_true_eq] at h
  obtain⟨r,hr⟩:∃ r,M[i]?=some r:=⟨_,List.getElem?_eq_getElem (by omega)⟩
  obtain⟨Ar,cr,hcr,hr1,hr2,-⟩:=hc5.tabRow hr
  have hrow:RdC w gC (oC+(i:Int).toNat * 1) [.slice Ar r.length cr]:=RdC.one (by rw [off1];exact hcs i _ hcr)
  repeat' (first|refine d1 ?_|(show T _ (.ops _ (_::_)::_) _ _ _;first|refine T_val rfl (Val.load rfl (fun hg=>rdOld hrow)) rfl rfl rfl ?_|refine T_valC rfl (Val.load rfl (fun hg=>rdOld hrow)) rfl rfl rfl rfl rfl ?_)|(show T _ (.run _ _ (_::_) _ _::_) _ _ _;first|refine rv rfl rfl rfl (Val.load rfl (fun hg=>rdOld hrow)) rfl rfl rfl ?_|refine rg rfl rfl rfl (Val.load rfl (fun hg=>rdOld hrow)) rfl rfl rfl rfl rfl ?_)|(show ∀ _:Nat,T _ _ _ _ _;intro _))
  refine T_if rfl (fun h5=>?_) (fun h5=>?_)
  ·repeat' (first|refine d1 ?_|refine dd ?_|(show ∀ _:Nat,T _ _ _ _ _;intro _)|(show T _ (.code .ret::_) _ _ _;refine T_retV [] rfl (Hle.none _) ⟨true,(fun h=>by cases h),rfl,rfl⟩))
  ·repeat' (first|refine d1 ?_|(show ∀ _:Nat,T _ _ _ _ _;intro _))
   exact T_backX (i+1) (by omega) (by omega)
 repeat' (first|refine d1 ?_|(show ∀ _:Nat,T _ _ _ _ _;intro _))
 refine T_loopX (fun i:Nat=>[(8, .int .i64 (i:Nat))]) (fun _=>[blk t3 [.slice A1 n1 c1, .slice A2 n2 c2] 30]) (fun i=>i≤n2∧∀ k s,k<i→ns[k]?=some s→s.size≤20) (fun i=>n2 - i) 0 ⟨Nat.zero_le _,fun k s h=>absurd h (Nat.not_lt_zero _)⟩ ?_
 rintro k ⟨hk,hsz⟩
 repeat' (first|refine d1 ?_|(show ∀ _:Nat,T _ _ _ _ _;intro _))
 refine T_if rfl (fun h6=>?_) (fun h6=>?_)
 ·simp only [decide_eq_true_eq] at h6
  obtain⟨s,hs⟩:∃ s,ns[k]?=some s:=⟨_,List.getElem?_eq_getElem (by omega)⟩
  obtain⟨g2,o2,rfl⟩:=ht.s2.base (by omega)
  have hs1:=src_str ht.s2 (k:=k) (by omega) hs
  repeat' (first|refine d1 ?_|(show T _ (.ops _ (_::_)::_) _ _ _;first|refine T_val rfl (Val.load rfl (fun hg=>rdOld hs1)) rfl rfl rfl ?_|refine T_valC rfl (Val.load rfl (fun hg=>rdOld hs1)) rfl rfl rfl rfl rfl ?_)|(show T _ (.run _ _ (_::_) _ _::_) _ _ _;first|refine rv rfl rfl rfl (Val.load rfl (fun hg=>rdOld hs1)) rfl rfl rfl ?_|refine rg rfl rfl rfl (Val.load rfl (fun hg=>rdOld hs1)) rfl rfl rfl rfl rfl ?_)|(show ∀ _:Nat,T _ _ _ _ _;intro _))
  refine T_if rfl (fun h7=>?_) (fun h7=>?_)
  ·repeat' (first|refine d1 ?_|refine dd ?_|(show ∀ _:Nat,T _ _ _ _ _;intro _)|(show T _ (.code .ret::_) _ _ _;refine T_retV [] rfl (Hle.none _) ⟨true,(fun h=>by cases h),rfl,rfl⟩))
  ·simp only [decide_eq_false_iff_not] at h7
   repeat' (first|refine d1 ?_|(show ∀ _:Nat,T _ _ _ _ _;intro _))
   refine T_backX (k+1) ⟨by omega,fun q s2 hq hs2=>?_⟩ (by omega)
   by_cases e:q=k
   ·subst e;rw [hs] at hs2;cases hs2;omega
   ·exact hsz q s2 (by omega) hs2
 ·simp only [decide_eq_false_iff_not] at h6
  obtain rfl:k=n2:=by omega
  repeat' (first|refine d1 ?_|refine dd ?_|(show ∀ _:Nat,T _ _ _ _ _;intro _)|(show T _ (.code .ret::_) _ _ _;refine T_retV [] rfl (Hle.none _) ⟨_,(fun h=>?_),rfl,rfl⟩))
  simp only [Bool.or_eq_false_iff,decide_eq_false_iff_not] at h
  refine ⟨by omega,by omega,by omega,fun s hs=>?_⟩
  obtain⟨q,hq⟩:=List.mem_iff_getElem?.1 hs
  exact hsz q s (by have:=(List.getElem?_eq_some_iff.1 hq).1;omega) hq
end Go.Proofs.YtabhdaehomjlgaaGreat
namespace Go.Proofs.YtabhdaehomjlgaaGreat
open Go.RowKit Go.Shelf Go.ChangeShapes Go.WideShapes Go.Proofs
set_option maxRecDepth 100000

theorem knobT:ownKnob Tryz.prog.godebug=none:=by kernel_rfl
theorem laidOkT:laidOutB Tryz.prog=true:=by kernel_rfl
theorem chunksDT {α:Type} (g:α→List D) (sz:Nat):∀ (n:Nat) (l:List D),l.length=n * sz→(∀ i,i<n→∃ t:α,(l.drop (i * sz)).take sz=g t)→∃ ts:List α,ts.length=n∧l=ts.flatMap g
 | 0,l,hl,_=>⟨[],rfl,by simpa using List.eq_nil_of_length_eq_zero (by simpa using hl)⟩
 | n+1,l,hl,h=>by
  obtain⟨t,ht⟩:=h 0 (by omega)
  rw [Nat.zero_mul,List.drop_zero] at ht
  obtain⟨ts,h1,h2⟩:=chunksDT g sz n (l.drop sz) (by rw [List.length_drop,hl,Nat.succ_mul];omega) fun i hi=>by
   obtain⟨t,ht⟩:=h (i+1) (by omega)
   exact⟨t,by rw [List.drop_drop, ← ht,Nat.succ_mul,Nat.add_comm]⟩
  exact⟨t::ts,by simp [h1],by rw [List.flatMap_cons, ← ht, ← h2,List.take_append_drop]⟩
theorem flat1DT {α:Type} (f:α→D):∀ l:List α,l.flatMap (fun x=>[f x])=l.map f
 | []=>rfl
 | x::l=>by rw [List.flatMap_cons,List.map_cons,flat1DT f l];rfl
theorem ints_wtT {f:Nat} {ds:List D} (h:wt sg (f+2) 24 ds):∃ l:List Int,ds=[intsD l]:=by
 obtain⟨l,n,rfl,hl,_,hi⟩:=(show ∃ l n,ds=[.s 1 l]∧l.length=n * 1∧n≤maxLen∧∀ i,i<n→wt sg (f+1) 3 ((l.drop (i * 1)).take 1) from h)
 obtain⟨ts,e1,e2⟩:=chunksDT (fun z:Int=>[D.v (.int .i64 z)]) 1 n l hl fun i hin=>by
  obtain⟨z,hz,_⟩:=(show ∃ z,_=[D.v (.int .i64 z)]∧(Lit.int .i64 z).wf=true from hi i hin)
  exact⟨z,hz⟩
 subst e2
 exact⟨ts,by rw [flat1DT];rfl⟩
theorem strs_wtT {f:Nat} {ds:List D} (h:wt sg (f+2) 22 ds):∃ l:List ByteArray,ds=[strsD l]:=by
 obtain⟨l,n,rfl,hl,_,hi⟩:=(show ∃ l n,ds=[.s 1 l]∧l.length=n * 1∧n≤maxLen∧∀ i,i<n→wt sg (f+1) 9 ((l.drop (i * 1)).take 1) from h)
 obtain⟨ts,e1,e2⟩:=chunksDT (fun z:ByteArray=>[D.v (.string z)]) 1 n l hl fun i hin=>by
  obtain⟨z,hz,_⟩:=(show ∃ s:ByteArray,_=[D.v (.string s)]∧s.size≤maxLen from hi i hin)
  exact⟨z,hz⟩
 subst e2
 exact⟨ts,by rw [flat1DT];unfold strsD;rw [List.map_map];rfl⟩
theorem tree_wtT {f:Nat} {ds:List D} (h:wt sg (f+3) 30 ds):∃ (ps:List Int) (ns:List ByteArray),ds=[intsD ps,strsD ns]:=by
 obtain⟨a0,b0,rfl,h0,a1,b1,rfl,h1,rfl⟩:=(show wtL (wt sg (f+2)) [(24,0),(22,1)] ds from h)
 obtain⟨l1,rfl⟩:=ints_wtT h0
 obtain⟨l2,rfl⟩:=strs_wtT h1
 exact⟨l1,l2,rfl⟩
section
variable {H:Type} {enc:TypeId × Value→H} {W:World} {base b0:Nat} {sp:Nat→Bool} {held:Bool} {r:Reach} {v:Value} {d:DataW H} {ps:List MemPlace}
theorem arg_treeT (hv:Value.okWide Tryz.prog W r b0 30 v) (h:DataW.Trod enc Tryz.prog W base sp held 30 v d ps):∃ (x y:(Option Addr × Nat × Nat)) (qs:List Int) (ns:List ByteArray),v = .agg #[.slice x.1 x.2.1 x.2.2, .slice y.1 y.2.1 y.2.2]∧TrR W x.1 x.2.1 x.2.2 y.1 y.2.1 y.2.2 qs ns:=by
 obtain⟨cs,rfl,_⟩:=okWide_struct Tryz.underlying30 hv
 obtain⟨fuel,hf⟩:=h
 obtain⟨ds,h1,h2⟩:=trod_wt (S:=sg) 9 rfl hf
 obtain⟨qs,ns,rfl⟩:=tree_wtT h2
 have h3:Rd (wr W) cs.toList [intsD qs,strsD ns]:=h1
 obtain⟨z0,z1,e⟩:∃ z0 z1,cs.toList=[z0,z1]:=by
  have hl:=h3.length
  match cs.toList,hl with
  | [a,b],_=>exact⟨a,b,rfl⟩
 rw [e] at h3
 obtain⟨k0,k1⟩:=h3.cons_inv
 obtain⟨A1,c1,rfl,g1,g2,-⟩:=k0.row1
 obtain⟨A2,c2,rfl,g3,g4,g5⟩:=k1.strs
 exact⟨(A1,qs.length,c1),(A2,ns.length,c2),qs,ns,congrArg Value.agg (Array.ext' e),⟨k0.intsAt,g5,rfl,rfl,g1,g3,g2,g4⟩⟩
theorem arg_intsT (hv:Value.okWide Tryz.prog W r b0 24 v) (h:DataW.Trod enc Tryz.prog W base sp held 24 v d ps):∃ m:List Int,Rd (wr W) [v] [intsD m]:=by
 obtain⟨fuel,hf⟩:=h
 obtain⟨ds,h1,h2⟩:=trod_wt (S:=sg) 9 rfl hf
 obtain⟨m,rfl⟩:=ints_wtT h2
 have hc:v.cells.toList=[v]:=by
  cases v <;> first|rfl|(exfalso;unfold Value.okWide at hv;simp [Tryz.underlying24] at hv;unfold Cell.okWide at hv;simp [Tryz.underlying24] at hv;unfold Cell.ok at hv;simp [Tryz.underlying24] at hv)
 rw [hc] at h1
 exact⟨m,h1⟩
theorem arg_u8T (hv:Value.okWide Tryz.prog W r b0 5 v) (h:DataW.Trod enc Tryz.prog W base sp held 5 v d ps):∃ n:Nat,v = .int .u8 (n:Nat)∧n<256:=by
 obtain⟨fuel,hf⟩:=h
 obtain⟨ds,h1,h2⟩:=trod_wt (S:=sg) 9 rfl hf
 obtain⟨n,rfl,hn⟩:=(show ∃ n,ds=[.v (.int .u8 n)]∧(Lit.int .u8 n).wf=true from h2)
 have hc:v.cells.toList=[v]:=by
  cases v <;> first|rfl|(exfalso;unfold Value.okWide at hv;simp [Tryz.underlying5] at hv;unfold Cell.okWide at hv;simp [Tryz.underlying5] at hv;unfold Cell.ok at hv;simp [Tryz.underlying5] at hv)
 rw [hc] at h1
 simp only [Lit.wf,Bool.and_eq_true,decide_eq_true_eq] at hn
 have h5:0≤n:=by have:=hn.1;simpa [IntKind.min,IntKind.signed] using this
 have h6:n≤255:=by have:=hn.2;simpa [IntKind.max,IntKind.signed,IntKind.bits] using this
 exact⟨n.toNat,by rw [h1.val,Int.toNat_of_nonneg h5],by omega⟩
end
end Go.Proofs.YtabhdaehomjlgaaGreat
