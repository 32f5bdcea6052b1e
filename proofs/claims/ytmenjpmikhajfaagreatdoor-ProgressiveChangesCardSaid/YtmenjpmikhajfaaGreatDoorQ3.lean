/- Joined texts of this claim, part 3. -/
import Derived.Test.YtmenjpmikhajfaaGreatDoorQ2
set_option linter.unusedVariables false
set_option linter.unusedSimpArgs false
namespace Go.Proofs.YtmenjpmikhajfaaGreatDoor
open Go.RowKit Go.Shelf Go.Proofs
set_option maxRecDepth 100000
set_option maxHeartbeats 1000000

def fitsV (a b:List Tok):Int:=if badL a=true∨badL b=true then 1 else 0
theorem fits18_spec (A B:Option Addr) (n m ca cb:Nat) (a b:List Tok) (w:World) (h2:Two w A B n m a b) :
  Spec Tryz.prog 231 [.slice A n ca, .slice B m cb] w (fun v R=>v = .int .i64 (fitsV a b)∧R=[]):=by
 obtain⟨hst,ha,hn,hnb,hb,hm,hmb,hsa,hsb⟩:=h2
 have hsz:=size_law hnb hmb
 refine spec_of sg Tryz.func231 rfl rfl rfl ?_
 repeat' (first|refine d1 ?_|refine dd ?_|(show ∀ _:Nat,T _ _ _ _ _;intro _))
 refine T_loopX (fun k:Nat=>[(5, .int .i64 k)]) (fun _=>[]) (fun k=>k≤n∧∀ j,j<k→tokE (tkA a j)=0) (fun k=>n - k) 0 ⟨by omega,fun j h=>by omega⟩ ?_
 rintro k ⟨hk,hok⟩
 repeat' (first|refine d1 ?_|refine dd ?_|(show ∀ _:Nat,T _ _ _ _ _;intro _))
 refine T_if rfl (fun h=>?_) (fun h=>?_)
 ·simp only [decide_eq_true_eq] at h
  obtain⟨ba,oa,rfl⟩:=ha.base (by omega)
  have hr:RdC w ba (oa+(k:Int).toNat * 6) (tkA a k).cells:=ha.getT (by omega) (tkA_get (by omega))
  repeat' (first|refine d1 ?_|refine dd ?_|(show T _ (.ops _ (_::_)::_) _ _ _;first|refine T_call rfl rfl rfl rfl rfl (fun w hw=>tokRef_spec (tkA a k) w) ?_|refine T_callC rfl rfl rfl rfl rfl rfl rfl (fun hg w hw=>tokRef_spec (tkA a k) w) ?_)|(show T _ (.run _ _ (_::_) _ _::_) _ _ _;first|refine rc rfl rfl rfl rfl rfl rfl rfl (fun w hw=>tokRef_spec (tkA a k) w) ?_|refine rcG rfl rfl rfl rfl rfl rfl rfl rfl rfl (fun hg w hw=>tokRef_spec (tkA a k) w) ?_)|(show ∀ _:Nat,T _ _ _ _ _;intro _))
  refine T_if rfl (fun h1=>?_) (fun h1=>?_)
  ·repeat' (first|refine d1 ?_|refine dd ?_|(show ∀ _:Nat,T _ _ _ _ _;intro _)|(show T _ (.code .ret::_) _ _ _;refine T_retV [] rfl (Hle.none _) ⟨?_,rfl⟩))
   have:badL a=true:=by unfold badL;rw [List.any_eq_true];exact⟨_,tkA_mem (by omega),h1⟩
   unfold fitsV;rw [if_pos (.inl this)];rfl
  ·simp only [Bool.not_eq_false',decide_eq_true_eq] at h1
   repeat' (first|refine d1 ?_|refine dd ?_|(show ∀ _:Nat,T _ _ _ _ _;intro _))
   refine T_backX (k+1) ⟨by omega,fun j hj=>?_⟩ (by omega)
   rcases Nat.lt_or_ge j k with h3|h3
   ·exact hok j h3
   ·rw [show j=k by omega];exact h1
 simp only [decide_eq_false_iff_not] at h
 have hA:badL a=false:=badL_false.2 fun t ht=>by
  obtain⟨i,hi,e⟩:=List.getElem_of_mem ht
  have:=hok i (by omega)
  have e2:=tkA_get hi
  rw [List.getElem?_eq_getElem hi,e] at e2
  rw [Option.some.inj e2];exact this
 repeat' (first|refine d1 ?_|refine dd ?_|(show ∀ _:Nat,T _ _ _ _ _;intro _))
 refine T_loopX (fun k:Nat=>[(6, .int .i64 k)]) (fun _=>[]) (fun k=>k≤m∧∀ j,j<k→tokE (tkA b j)=0) (fun k=>m - k) 0 ⟨by omega,fun j h=>by omega⟩ ?_
 rintro k2 ⟨hk2,hok2⟩
 repeat' (first|refine d1 ?_|refine dd ?_|(show ∀ _:Nat,T _ _ _ _ _;intro _))
 refine T_if rfl (fun h=>?_) (fun h=>?_)
 ·simp only [decide_eq_true_eq] at h
  obtain⟨bb,ob,rfl⟩:=hb.base (by omega)
  have hr:RdC w bb (ob+(k2:Int).toNat * 6) (tkA b k2).cells:=hb.getT (by omega) (tkA_get (by omega))
  repeat' (first|refine d1 ?_|refine dd ?_|(show T _ (.ops _ (_::_)::_) _ _ _;first|refine T_call rfl rfl rfl rfl rfl (fun w hw=>tokRef_spec (tkA b k2) w) ?_|refine T_callC rfl rfl rfl rfl rfl rfl rfl (fun hg w hw=>tokRef_spec (tkA b k2) w) ?_)|(show T _ (.run _ _ (_::_) _ _::_) _ _ _;first|refine rc rfl rfl rfl rfl rfl rfl rfl (fun w hw=>tokRef_spec (tkA b k2) w) ?_|refine rcG rfl rfl rfl rfl rfl rfl rfl rfl rfl (fun hg w hw=>tokRef_spec (tkA b k2) w) ?_)|(show ∀ _:Nat,T _ _ _ _ _;intro _))
  refine T_if rfl (fun h1=>?_) (fun h1=>?_)
  ·repeat' (first|refine d1 ?_|refine dd ?_|(show ∀ _:Nat,T _ _ _ _ _;intro _)|(show T _ (.code .ret::_) _ _ _;refine T_retV [] rfl (Hle.none _) ⟨?_,rfl⟩))
   have:badL b=true:=by unfold badL;rw [List.any_eq_true];exact⟨_,tkA_mem (by omega),h1⟩
   unfold fitsV;rw [if_pos (.inr this)];rfl
  ·simp only [Bool.not_eq_false',decide_eq_true_eq] at h1
   repeat' (first|refine d1 ?_|refine dd ?_|(show ∀ _:Nat,T _ _ _ _ _;intro _))
   refine T_backX (k2+1) ⟨by omega,fun j hj=>?_⟩ (by omega)
   rcases Nat.lt_or_ge j k2 with h3|h3
   ·exact hok2 j h3
   ·rw [show j=k2 by omega];exact h1
 simp only [decide_eq_false_iff_not] at h
 have hB:badL b=false:=badL_false.2 fun t ht=>by
  obtain⟨i,hi,e⟩:=List.getElem_of_mem ht
  have:=hok2 i (by omega)
  have e2:=tkA_get hi
  rw [List.getElem?_eq_getElem hi,e] at e2
  rw [Option.some.inj e2];exact this
 repeat' (first|refine d1 ?_|refine dd ?_|(show ∀ _:Nat,T _ _ _ _ _;intro _))
 refine T_if rfl (fun h3=>?_) (fun h3=>?_)
 ·exfalso
  simp only [Bool.or_eq_true,decide_eq_true_eq] at h3
  omega
 repeat' (first|refine d1 ?_|refine dd ?_|(show ∀ _:Nat,T _ _ _ _ _;intro _)|(show T _ (.code .ret::_) _ _ _;refine T_retV [] rfl (Hle.none _) ⟨?_,rfl⟩))
 unfold fitsV;rw [hA,hB];rfl
theorem ck18_spec (c:Costs) (A B:Option Addr) (n m ca cb:Nat) (a b:List Tok) (w:World) (h2:Two w A B n m a b) :
  Spec Tryz.prog 186 [c.val, .slice A n ca, .slice B m cb] w (fun v R=>v = .int .i64 (ckV c a b)∧R=[]):=by
 refine spec_of sg Tryz.func186 rfl rfl rfl ?_
 refine T_op (OpT.box (cs:=c.cells) rfl rfl rfl rfl rfl rfl rfl (fun pc=>?_))
 repeat' (first|refine d1 ?_|refine dd ?_|(show T _ (.ops _ (_::_)::_) _ _ _;first|refine T_call rfl rfl rfl rfl rfl (fun w hw=>costRef_spec c w) ?_|refine T_callC rfl rfl rfl rfl rfl rfl rfl (fun hg w hw=>costRef_spec c w) ?_)|(show T _ (.run _ _ (_::_) _ _::_) _ _ _;first|refine rc rfl rfl rfl rfl rfl rfl rfl (fun w hw=>costRef_spec c w) ?_|refine rcG rfl rfl rfl rfl rfl rfl rfl rfl rfl (fun hg w hw=>costRef_spec c w) ?_)|(show ∀ _:Nat,T _ _ _ _ _;intro _))
 refine T_if rfl (fun h=>?_) (fun h=>?_)
 ·simp only [Bool.not_eq_true',decide_eq_false_iff_not] at h
  repeat' (first|refine d1 ?_|refine dd ?_|(show ∀ _:Nat,T _ _ _ _ _;intro _)|(show T _ (.code .ret::_) _ _ _;refine T_retV [] rfl (Hle.none _) ⟨?_,rfl⟩))
  unfold ckV;rw [if_pos (.inl h)];rfl
 ·simp only [Bool.not_eq_false',decide_eq_true_eq] at h
  repeat' (first|refine d1 ?_|refine dd ?_|(show T _ (.ops _ (_::_)::_) _ _ _;first|refine T_call rfl rfl rfl rfl rfl (fun w hw=>fits18_spec A B n m ca cb a b w (h2.cls hw)) ?_|refine T_callC rfl rfl rfl rfl rfl rfl rfl (fun hg w hw=>fits18_spec A B n m ca cb a b w (h2.cls hw)) ?_)|(show T _ (.run _ _ (_::_) _ _::_) _ _ _;first|refine rc rfl rfl rfl rfl rfl rfl rfl (fun w hw=>fits18_spec A B n m ca cb a b w (h2.cls hw)) ?_|refine rcG rfl rfl rfl rfl rfl rfl rfl rfl rfl (fun hg w hw=>fits18_spec A B n m ca cb a b w (h2.cls hw)) ?_)|(show ∀ _:Nat,T _ _ _ _ _;intro _)|(show T _ (.code .ret::_) _ _ _;refine T_retV [] rfl (Hle.none _) ⟨?_,rfl⟩))
  unfold ckV fitsV;rw [h];simp;rfl
end Go.Proofs.YtmenjpmikhajfaaGreatDoor
namespace Go.Proofs.YtmenjpmikhajfaaGreatDoor
open Go.RowKit Go.Shelf Go.Proofs
set_option maxRecDepth 100000
set_option maxHeartbeats 1000000

def colV (G:Grd) (u v:Int):Int:=if 0≤u∧0≤v then G.p u.toNat v.toNat else if 0≤u then G.g u.toNat else G.h v.toNat
theorem column18_spec (c:Costs) (A B:Option Addr) (n m ca cb:Nat) (a b:List Tok) (u v:Int) (w:World) (h2:Two w A B n m a b) (hk:ckV c a b=0) (hu:u<n) (hv:v<m) (huv:0≤u∨0≤v) :
  Spec Tryz.prog 265 [c.val, .slice A n ca, .slice B m cb, .int .i64 u, .int .i64 v] w (fun x R=>x = .int .i64 (colV (grdOf c a b) u v)∧R=[]):=by
 obtain⟨hst,ha,hn,hnb,hb,hm,hmb,hsa,hsb⟩:=h2
 obtain⟨hc,ka,kb⟩:=ckV_ok hk
 have hga:∀ i,i<n→gapV c (tkA a i)=(gapC c (tkA a i),0):=fun i hi=>by unfold gapV;rw [if_pos ⟨hc,ka _ (tkA_mem (by omega))⟩]
 have hgb:∀ i,i<m→gapV c (tkA b i)=(gapC c (tkA b i),0):=fun i hi=>by unfold gapV;rw [if_pos ⟨hc,kb _ (tkA_mem (by omega))⟩]
 have hp:∀ i k,i<n→k<m→pairV c (tkA a i) (tkA b k)=(pairC c (tkA a i) (tkA b k),0):=fun i k hi hk=>by unfold pairV;rw [if_pos ⟨hc,ka _ (tkA_mem (by omega)),kb _ (tkA_mem (by omega))⟩]
 refine spec_of sg Tryz.func265 rfl rfl rfl ?_
 refine T_op (OpT.box (cs:=c.cells) rfl rfl rfl rfl rfl rfl rfl (fun pc=>?_))
 repeat' (first|refine d1 ?_|refine dd ?_|(show ∀ _:Nat,T _ _ _ _ _;intro _))
 refine T_if rfl (fun h=>?_) (fun h=>?_)
 ·simp only [Bool.and_eq_true,decide_eq_true_eq] at h
  obtain⟨i,rfl⟩:=Int.eq_ofNat_of_zero_le h.1
  obtain⟨k,rfl⟩:=Int.eq_ofNat_of_zero_le h.2
  obtain⟨ba,oa,rfl⟩:=ha.base (by omega)
  obtain⟨bb,ob,rfl⟩:=hb.base (by omega)
  have hr1:RdC w ba (oa+(i:Int).toNat * 6) (tkA a i).cells:=ha.getT (by omega) (tkA_get (by omega))
  have hr2:RdC w bb (ob+(k:Int).toNat * 6) (tkA b k).cells:=hb.getT (by omega) (tkA_get (by omega))
  repeat' (first|refine d1 ?_|refine dd ?_|(show T _ (.ops _ (_::_)::_) _ _ _;first|refine T_call rfl rfl rfl rfl rfl (fun w hw=>pairTopRef_spec c (tkA a i) (tkA b k) w) ?_|refine T_callC rfl rfl rfl rfl rfl rfl rfl (fun hg w hw=>pairTopRef_spec c (tkA a i) (tkA b k) w) ?_)|(show T _ (.run _ _ (_::_) _ _::_) _ _ _;first|refine rc rfl rfl rfl rfl rfl rfl rfl (fun w hw=>pairTopRef_spec c (tkA a i) (tkA b k) w) ?_|refine rcG rfl rfl rfl rfl rfl rfl rfl rfl rfl (fun hg w hw=>pairTopRef_spec c (tkA a i) (tkA b k) w) ?_)|(show ∀ _:Nat,T _ _ _ _ _;intro _))
  rw [hp i k (by omega) (by omega)]
  repeat' (first|refine d1 ?_|refine dd ?_|(show ∀ _:Nat,T _ _ _ _ _;intro _)|(show T _ (.code .ret::_) _ _ _;refine T_retV [] rfl (Hle.none _) ⟨?_,rfl⟩))
  unfold colV;rw [if_pos h];rfl
 ·have h':¬ (0≤u∧0≤v):=fun hh=>by rw [decide_eq_true hh.1,decide_eq_true hh.2] at h;cases h
  repeat' (first|refine d1 ?_|refine dd ?_|(show ∀ _:Nat,T _ _ _ _ _;intro _))
  refine T_if rfl (fun h1=>?_) (fun h1=>?_)
  ·simp only [decide_eq_true_eq] at h1
   obtain⟨i,rfl⟩:=Int.eq_ofNat_of_zero_le h1
   obtain⟨ba,oa,rfl⟩:=ha.base (by omega)
   have hr1:RdC w ba (oa+(i:Int).toNat * 6) (tkA a i).cells:=ha.getT (by omega) (tkA_get (by omega))
   repeat' (first|refine d1 ?_|refine dd ?_|(show T _ (.ops _ (_::_)::_) _ _ _;first|refine T_call rfl rfl rfl rfl rfl (fun w hw=>gapTopRef_spec c (tkA a i) w) ?_|refine T_callC rfl rfl rfl rfl rfl rfl rfl (fun hg w hw=>gapTopRef_spec c (tkA a i) w) ?_)|(show T _ (.run _ _ (_::_) _ _::_) _ _ _;first|refine rc rfl rfl rfl rfl rfl rfl rfl (fun w hw=>gapTopRef_spec c (tkA a i) w) ?_|refine rcG rfl rfl rfl rfl rfl rfl rfl rfl rfl (fun hg w hw=>gapTopRef_spec c (tkA a i) w) ?_)|(show ∀ _:Nat,T _ _ _ _ _;intro _))
   rw [hga i (by omega)]
   repeat' (first|refine d1 ?_|refine dd ?_|(show ∀ _:Nat,T _ _ _ _ _;intro _)|(show T _ (.code .ret::_) _ _ _;refine T_retV [] rfl (Hle.none _) ⟨?_,rfl⟩))
   unfold colV;rw [if_neg h',if_pos h1];rfl
  ·simp only [decide_eq_false_iff_not] at h1
   obtain⟨k,rfl⟩:=Int.eq_ofNat_of_zero_le (show 0≤v by omega)
   obtain⟨bb,ob,rfl⟩:=hb.base (by omega)
   have hr2:RdC w bb (ob+(k:Int).toNat * 6) (tkA b k).cells:=hb.getT (by omega) (tkA_get (by omega))
   repeat' (first|refine d1 ?_|refine dd ?_|(show T _ (.ops _ (_::_)::_) _ _ _;first|refine T_call rfl rfl rfl rfl rfl (fun w hw=>gapTopRef_spec c (tkA b k) w) ?_|refine T_callC rfl rfl rfl rfl rfl rfl rfl (fun hg w hw=>gapTopRef_spec c (tkA b k) w) ?_)|(show T _ (.run _ _ (_::_) _ _::_) _ _ _;first|refine rc rfl rfl rfl rfl rfl rfl rfl (fun w hw=>gapTopRef_spec c (tkA b k) w) ?_|refine rcG rfl rfl rfl rfl rfl rfl rfl rfl rfl (fun hg w hw=>gapTopRef_spec c (tkA b k) w) ?_)|(show ∀ _:Nat,T _ _ _ _ _;intro _))
   rw [hgb k (by omega)]
   repeat' (first|refine d1 ?_|refine dd ?_|(show ∀ _:Nat,T _ _ _ _ _;intro _)|(show T _ (.code .ret::_) _ _ _;refine T_retV [] rfl (Hle.none _) ⟨?_,rfl⟩))
   unfold colV;rw [if_neg h',if_neg h1];rfl
def mvCol (i k:Nat) (x:Mv):List Int:=[if x.fst=1 then (i:Int) else -1,if x.snd=1 then (k:Int) else -1]
def mvR (G:Grd) (i k:Nat):List (List Int):=(mvs G i k).map (mvCol i k)
theorem mv_join {o b:Nat} {oc ic hs hs':List Value} {to e:TypeId} {ti:TypeId} {sz cap n:Nat} {A:Option Addr} {ds:List D} {H:List HA} (hi:ic.length=2) :
  Hle (blk o oc to::blk b ic ti::row e sz A cap n hs'::dat hs ds::H) (row e sz A cap n hs'::dat (hs++[.slice (some ⟨b,0,none⟩) 2 2]) (ds++[.s 1 (ic.map .v)])::H):=by
 refine (Hle.tail _ _).trans ((dat_blkV (sz:=1) (n:=2) (by omega) (by omega)).trans ?_)
 refine (Hle.perm ?_).trans (dat_join.trans (Hle.perm (List.Perm.swap (row e sz A cap n hs') _ H)))
 exact (List.Perm.swap _ _ _).symm.trans (List.Perm.trans (List.Perm.swap _ _ _) (List.Perm.cons _ (List.Perm.swap _ _ _)))
theorem moves18_spec (c:Costs) (A B:Option Addr) (n m ca cb:Nat) (a b:List Tok) (i k:Nat) (w:World) (hn:a.length=n) (hnb:n≤1000) (hm:b.length=m) (hmb:m≤1000) (hi:i≤n) (hk:k≤m) :
  Spec Tryz.prog 232 [.slice A n ca, .slice B m cb, .int .i64 (i:Nat), .int .i64 (k:Nat)] w (fun v R=>∃ x:Value,True∧v=x∧R=[dat [x] [rowsD (mvR (grdOf c a b) i k)]]):=by
 refine spec_of sg Tryz.func232 rfl rfl rfl ?_
 repeat' (first|refine d1 ?_|refine dd ?_|(show ∀ _:Nat,T _ _ _ _ _;intro _))
 rename_i b0
 refine T_le (H':=[row 40 1 (some ⟨b0,0,none⟩) 0 0 [],dat [] []]) ((Hle.weaken (i:=0) rfl (blk_row (sz:=1) (n:=0) rfl (by simp only [maxLen];omega)) rfl).trans ((dat_nil _).trans (Hle.perm (List.Perm.swap _ _ _)))) ?_
 by_cases hi2:i<n
 ·by_cases hk2:k<m
  ·have em:mvs (grdOf c a b) i k=_:=mvs_both (by show i<a.length;omega) (by show k<b.length;omega)
   have em2:mvR (grdOf c a b) i k=_:=congrArg (List.map (mvCol i k)) em
   rw [em2]
   refine T_if rfl (fun h=>?_) (fun h=>by exfalso;simp only [Bool.and_eq_false_iff,decide_eq_false_iff_not] at h;omega)
   repeat' (first|refine d1 ?_|refine dd ?_|(show T _ (.ops _ (_::_)::_) _ _ _;refine T_op (OpT.append rfl rfl rfl rfl rfl rfl rfl rfl rfl rfl (fun w hw=>Src.own hw rfl) rfl (by dsimp only;omega) (by omega) (fun A' cap' hA'=>?_)))|(show ∀ _:Nat,T _ _ _ _ _;intro _))
   refine T_le (mv_join rfl) ?_
   refine T_if rfl (fun h=>?_) (fun h=>by exfalso;simp only [Bool.and_eq_false_iff,decide_eq_false_iff_not] at h;omega)
   repeat' (first|refine d1 ?_|refine dd ?_|(show T _ (.ops _ (_::_)::_) _ _ _;refine T_op (OpT.append rfl rfl rfl rfl rfl rfl rfl rfl rfl rfl (fun w hw=>Src.own hw rfl) rfl (by dsimp only;omega) (by omega) (fun A' cap' hA'=>?_)))|(show ∀ _:Nat,T _ _ _ _ _;intro _))
   refine T_le (mv_join rfl) ?_
   refine T_if rfl (fun h=>?_) (fun h=>by exfalso;simp only [Bool.and_eq_false_iff,decide_eq_false_iff_not] at h;omega)
   repeat' (first|refine d1 ?_|refine dd ?_|(show T _ (.ops _ (_::_)::_) _ _ _;refine T_op (OpT.append rfl rfl rfl rfl rfl rfl rfl rfl rfl rfl (fun w hw=>Src.own hw rfl) rfl (by dsimp only;omega) (by omega) (fun A' cap' hA'=>?_)))|(show ∀ _:Nat,T _ _ _ _ _;intro _))
   refine T_le (mv_join rfl) ?_
   exact T_retV _ rfl (dat_row) ⟨_,trivial,rfl,rfl⟩
  ·have em:mvs (grdOf c a b) i k=_:=mvs_fst (by show i<a.length;omega) (by show ¬ k<b.length;omega)
   have em2:mvR (grdOf c a b) i k=_:=congrArg (List.map (mvCol i k)) em
   rw [em2]
   refine T_if rfl (fun h=>by exfalso;simp only [Bool.and_eq_true,decide_eq_true_eq] at h;omega) (fun h=>?_)
   repeat' (first|refine d1 ?_|refine dd ?_|(show ∀ _:Nat,T _ _ _ _ _;intro _))
   refine T_if rfl (fun h=>?_) (fun h=>by exfalso;simp only [Bool.and_eq_false_iff,decide_eq_false_iff_not] at h;omega)
   repeat' (first|refine d1 ?_|refine dd ?_|(show T _ (.ops _ (_::_)::_) _ _ _;refine T_op (OpT.append rfl rfl rfl rfl rfl rfl rfl rfl rfl rfl (fun w hw=>Src.own hw rfl) rfl (by dsimp only;omega) (by omega) (fun A' cap' hA'=>?_)))|(show ∀ _:Nat,T _ _ _ _ _;intro _))
   refine T_le (mv_join rfl) ?_
   refine T_if rfl (fun h=>by exfalso;simp only [Bool.and_eq_true,decide_eq_true_eq] at h;omega) (fun h=>?_)
   repeat' (first|refine d1 ?_|refine dd ?_|(show ∀ _:Nat,T _ _ _ _ _;intro _))
   exact T_retV _ rfl (dat_row) ⟨_,trivial,rfl,rfl⟩
 ·by_cases hk2:k<m
  ·have em:mvs (grdOf c a b) i k=_:=mvs_snd (by show ¬ i<a.length;omega) (by show k<b.length;omega)
   have em2:mvR (grdOf c a b) i k=_:=congrArg (List.map (mvCol i k)) em
   rw [em2]
   refine T_if rfl (fun h=>by exfalso;simp only [Bool.and_eq_true,decide_eq_true_eq] at h;omega) (fun h=>?_)
   repeat' (first|refine d1 ?_|refine dd ?_|(show ∀ _:Nat,T _ _ _ _ _;intro _))
   refine T_if rfl (fun h=>by exfalso;simp only [Bool.and_eq_true,decide_eq_true_eq] at h;omega) (fun h=>?_)
   repeat' (first|refine d1 ?_|refine dd ?_|(show ∀ _:Nat,T _ _ _ _ _;intro _))
   refine T_if rfl (fun h=>?_) (fun h=>by exfalso;simp only [Bool.and_eq_false_iff,decide_eq_false_iff_not] at h;omega)
   repeat' (first|refine d1 ?_|refine dd ?_|(show T _ (.ops _ (_::_)::_) _ _ _;refine T_op (OpT.append rfl rfl rfl rfl rfl rfl rfl rfl rfl rfl (fun w hw=>Src.own hw rfl) rfl (by dsimp only;omega) (by omega) (fun A' cap' hA'=>?_)))|(show ∀ _:Nat,T _ _ _ _ _;intro _))
   refine T_le (mv_join rfl) ?_
   exact T_retV _ rfl (dat_row) ⟨_,trivial,rfl,rfl⟩
  ·have em:mvs (grdOf c a b) i k=_:=mvs_none (by show ¬ i<a.length;omega) (by show ¬ k<b.length;omega)
   have em2:mvR (grdOf c a b) i k=_:=congrArg (List.map (mvCol i k)) em
   rw [em2]
   refine T_if rfl (fun h=>by exfalso;simp only [Bool.and_eq_true,decide_eq_true_eq] at h;omega) (fun h=>?_)
   repeat' (first|refine d1 ?_|refine dd ?_|(show ∀ _:Nat,T _ _ _ _ _;intro _))
   refine T_if rfl (fun h=>by exfalso;simp only [Bool.and_eq_true,decide_eq_true_eq] at h;omega) (fun h=>?_)
   repeat' (first|refine d1 ?_|refine dd ?_|(show ∀ _:Nat,T _ _ _ _ _;intro _))
   refine T_if rfl (fun h=>by exfalso;simp only [Bool.and_eq_true,decide_eq_true_eq] at h;omega) (fun h=>?_)
   repeat' (first|refine d1 ?_|refine dd ?_|(show ∀ _:Nat,T _ _ _ _ _;intro _))
   exact T_retV _ rfl (dat_row) ⟨_,trivial,rfl,rfl⟩
theorem colV_mv {c:Costs} {a b:List Tok} {i k:Nat} {x:Mv} (h:x∈mvs (grdOf c a b) i k):colV (grdOf c a b) (if x.fst=1 then (i:Int) else -1) (if x.snd=1 then (k:Int) else -1)=x.cost:=by
 unfold colV
 rcases mvs_to h with⟨h1,h2,h3,h4,h5⟩|⟨h1,h2,h3,h5⟩|⟨h1,h2,h3,h5⟩
 ·rw [h1,h2,h5,if_pos rfl,if_pos rfl,if_pos ⟨by omega,by omega⟩];rfl
 ·rw [h1,h2,h5,if_pos rfl,if_neg (show ¬ (0:Nat)=1 by omega),if_neg (by omega),if_pos (by omega)];rfl
 ·rw [h1,h2,h5,if_neg (show ¬ (0:Nat)=1 by omega),if_pos rfl,if_neg (by omega),if_neg (by omega)];rfl
theorem behind18_spec (c:Costs) (A B:Option Addr) (n m ca cb:Nat) (a b:List Tok) (i k:Nat) (x:Mv) (tb to nt ct rb ro nr cr bx ox cx:Nat) (z:Int) (w:World) (h2:Two w A B n m a b) (hk:ckV c a b=0) (hi:i≤n) (hkm:k≤m)
  (hx:x∈mvs (grdOf c a b) i k) (hx0:RdC w bx ox [.int .i64 (if x.fst=1 then (i:Int) else -1)]) (hx1:RdC w bx (ox+1) [.int .i64 (if x.snd=1 then (k:Int) else -1)])
  (ht:RdC w tb (to+(i+x.fst)) [.slice (some ⟨rb,ro,none⟩) nr cr]) (hr:RdC w rb (ro+(k+x.snd)) [.int .i64 z]) (hnt:i+x.fst<nt) (hnr:k+x.snd<nr) (hz:0≤z∧z≤2000000) :
  Spec Tryz.prog 233 [c.val, .slice A n ca, .slice B m cb, .slice (some ⟨tb,to,none⟩) nt ct, .int .i64 (i:Nat), .int .i64 (k:Nat), .slice (some ⟨bx,ox,none⟩) 2 cx] w (fun v R=>v = .int .i64 (x.cost+z)∧R=[]):=by
 have hG:=grdOf_ok (ckV_ok hk).1 a b
 have hcv:=colV_mv hx
 obtain⟨j,hj,e⟩:=List.getElem_of_mem hx
 have hb:=mv_to hG h2.hn h2.hm hi hkm (show (mvs (grdOf c a b) i k)[j]?=some x by rw [List.getElem?_eq_getElem hj,e])
 have hnb:=h2.hnb
 have hmb:=h2.hmb
 have e1:(grdOf c a b).n=n:=h2.hn
 have e2:(grdOf c a b).m=m:=h2.hm
 have hx0':RdC w bx (ox+(0:Int).toNat * 1) [.int .i64 (if x.fst=1 then (i:Int) else -1)]:=hx0
 have hx1':RdC w bx (ox+(1:Int).toNat * 1) [.int .i64 (if x.snd=1 then (k:Int) else -1)]:=hx1
 refine spec_of sg Tryz.func233 rfl rfl rfl ?_
 refine T_op (OpT.box (cs:=c.cells) rfl rfl rfl rfl rfl rfl rfl (fun pc=>?_))
 rcases mvs_to hx with⟨f1,f2,f3,f4,f5⟩|⟨f1,f2,f3,f5⟩|⟨f1,f2,f3,f5⟩
 ·rw [f1] at hx0' hcv ht hnt
  rw [f2] at hx1' hcv hr hnr
  rw [if_pos rfl] at hx0'
  rw [if_pos rfl] at hx1'
  rw [if_pos rfl,if_pos rfl] at hcv
  have ht':RdC w tb (to+((i:Int)+1).toNat * 1) [.slice (some ⟨rb,ro,none⟩) nr cr]:=by rw [show to+((i:Int)+1).toNat * 1=to+(i+1) by omega];exact ht
  have hr':RdC w rb (ro+((k:Int)+1).toNat * 1) [.int .i64 z]:=by rw [show ro+((k:Int)+1).toNat * 1=ro+(k+1) by omega];exact hr
  repeat' (first|refine d1 ?_|refine dd ?_|(show ∀ _:Nat,T _ _ _ _ _;intro _))
  refine T_if rfl (fun h=>?_) (fun h=>by exfalso;simp only [decide_eq_false_iff_not] at h;omega)
  repeat' (first|refine d1 ?_|refine dd ?_|(show ∀ _:Nat,T _ _ _ _ _;intro _))
  refine T_if rfl (fun h=>?_) (fun h=>by exfalso;simp only [decide_eq_false_iff_not] at h;omega)
  have hcb:0≤colV (grdOf c a b) (i:Int) (k:Int)∧colV (grdOf c a b) (i:Int) (k:Int)≤1000:=by rw [hcv];omega
  repeat' (first|refine d1 ?_|refine dd ?_|(show T _ (.ops _ (_::_)::_) _ _ _;first|refine T_call rfl rfl rfl rfl rfl (fun w hw=>column18_spec c A B n m ca cb a b (i:Int) (k:Int) w (h2.cls hw) hk (by omega) (by omega) (by omega)) ?_|refine T_callC rfl rfl rfl rfl rfl rfl rfl (fun hg w hw=>column18_spec c A B n m ca cb a b (i:Int) (k:Int) w (h2.cls hw) hk (by omega) (by omega) (by omega)) ?_)|(show T _ (.run _ _ (_::_) _ _::_) _ _ _;first|refine rc rfl rfl rfl rfl rfl rfl rfl (fun w hw=>column18_spec c A B n m ca cb a b (i:Int) (k:Int) w (h2.cls hw) hk (by omega) (by omega) (by omega)) ?_|refine rcG rfl rfl rfl rfl rfl rfl rfl rfl rfl (fun hg w hw=>column18_spec c A B n m ca cb a b (i:Int) (k:Int) w (h2.cls hw) hk (by omega) (by omega) (by omega)) ?_)|(show ∀ _:Nat,T _ _ _ _ _;intro _)|(show T _ (.code .ret::_) _ _ _;refine T_retV [] rfl (Hle.none _) ⟨by rw [← hcv];rfl,rfl⟩))
 ·rw [f1] at hx0' hcv ht hnt
  rw [f2] at hx1' hcv hr hnr
  rw [if_pos rfl] at hx0'
  rw [if_neg (show ¬ (0:Nat)=1 by omega)] at hx1'
  rw [if_pos rfl,if_neg (show ¬ (0:Nat)=1 by omega)] at hcv
  have ht':RdC w tb (to+((i:Int)+1).toNat * 1) [.slice (some ⟨rb,ro,none⟩) nr cr]:=by rw [show to+((i:Int)+1).toNat * 1=to+(i+1) by omega];exact ht
  have hr':RdC w rb (ro+((k:Int)).toNat * 1) [.int .i64 z]:=by rw [show ro+((k:Int)).toNat * 1=ro+(k+0) by omega];exact hr
  repeat' (first|refine d1 ?_|refine dd ?_|(show ∀ _:Nat,T _ _ _ _ _;intro _))
  refine T_if rfl (fun h=>?_) (fun h=>by exfalso;simp only [decide_eq_false_iff_not] at h;omega)
  repeat' (first|refine d1 ?_|refine dd ?_|(show ∀ _:Nat,T _ _ _ _ _;intro _))
  refine T_if rfl (fun h=>by exfalso;simp only [decide_eq_true_eq] at h;omega) (fun h=>?_)
  have hcb:0≤colV (grdOf c a b) (i:Int) (-1)∧colV (grdOf c a b) (i:Int) (-1)≤1000:=by rw [hcv];omega
  repeat' (first|refine d1 ?_|refine dd ?_|(show T _ (.ops _ (_::_)::_) _ _ _;first|refine T_call rfl rfl rfl rfl rfl (fun w hw=>column18_spec c A B n m ca cb a b (i:Int) (-1) w (h2.cls hw) hk (by omega) (by omega) (by omega)) ?_|refine T_callC rfl rfl rfl rfl rfl rfl rfl (fun hg w hw=>column18_spec c A B n m ca cb a b (i:Int) (-1) w (h2.cls hw) hk (by omega) (by omega) (by omega)) ?_)|(show T _ (.run _ _ (_::_) _ _::_) _ _ _;first|refine rc rfl rfl rfl rfl rfl rfl rfl (fun w hw=>column18_spec c A B n m ca cb a b (i:Int) (-1) w (h2.cls hw) hk (by omega) (by omega) (by omega)) ?_|refine rcG rfl rfl rfl rfl rfl rfl rfl rfl rfl (fun hg w hw=>column18_spec c A B n m ca cb a b (i:Int) (-1) w (h2.cls hw) hk (by omega) (by omega) (by omega)) ?_)|(show ∀ _:Nat,T _ _ _ _ _;intro _)|(show T _ (.code .ret::_) _ _ _;refine T_retV [] rfl (Hle.none _) ⟨by rw [← hcv];rfl,rfl⟩))
 ·rw [f1] at hx0' hcv ht hnt
  rw [f2] at hx1' hcv hr hnr
  rw [if_neg (show ¬ (0:Nat)=1 by omega)] at hx0'
  rw [if_pos rfl] at hx1'
  rw [if_neg (show ¬ (0:Nat)=1 by omega),if_pos rfl] at hcv
  have ht':RdC w tb (to+((i:Int)).toNat * 1) [.slice (some ⟨rb,ro,none⟩) nr cr]:=by rw [show to+((i:Int)).toNat * 1=to+(i+0) by omega];exact ht
  have hr':RdC w rb (ro+((k:Int)+1).toNat * 1) [.int .i64 z]:=by rw [show ro+((k:Int)+1).toNat * 1=ro+(k+1) by omega];exact hr
  repeat' (first|refine d1 ?_|refine dd ?_|(show ∀ _:Nat,T _ _ _ _ _;intro _))
  refine T_if rfl (fun h=>by exfalso;simp only [decide_eq_true_eq] at h;omega) (fun h=>?_)
  repeat' (first|refine d1 ?_|refine dd ?_|(show ∀ _:Nat,T _ _ _ _ _;intro _))
  refine T_if rfl (fun h=>?_) (fun h=>by exfalso;simp only [decide_eq_false_iff_not] at h;omega)
  have hcb:0≤colV (grdOf c a b) (-1) (k:Int)∧colV (grdOf c a b) (-1) (k:Int)≤1000:=by rw [hcv];omega
  repeat' (first|refine d1 ?_|refine dd ?_|(show T _ (.ops _ (_::_)::_) _ _ _;first|refine T_call rfl rfl rfl rfl rfl (fun w hw=>column18_spec c A B n m ca cb a b (-1) (k:Int) w (h2.cls hw) hk (by omega) (by omega) (by omega)) ?_|refine T_callC rfl rfl rfl rfl rfl rfl rfl (fun hg w hw=>column18_spec c A B n m ca cb a b (-1) (k:Int) w (h2.cls hw) hk (by omega) (by omega) (by omega)) ?_)|(show T _ (.run _ _ (_::_) _ _::_) _ _ _;first|refine rc rfl rfl rfl rfl rfl rfl rfl (fun w hw=>column18_spec c A B n m ca cb a b (-1) (k:Int) w (h2.cls hw) hk (by omega) (by omega) (by omega)) ?_|refine rcG rfl rfl rfl rfl rfl rfl rfl rfl rfl (fun hg w hw=>column18_spec c A B n m ca cb a b (-1) (k:Int) w (h2.cls hw) hk (by omega) (by omega) (by omega)) ?_)|(show ∀ _:Nat,T _ _ _ _ _;intro _)|(show T _ (.code .ret::_) _ _ _;refine T_retV [] rfl (Hle.none _) ⟨by rw [← hcv];rfl,rfl⟩))
end Go.Proofs.YtmenjpmikhajfaaGreatDoor
namespace Go.Proofs.YtmenjpmikhajfaaGreatDoor
open Go.RowKit Go.Shelf Go.Proofs
set_option maxRecDepth 100000
set_option maxHeartbeats 1000000

def inWork (G:Grd) (n m j i k jj:Nat) (i' k':Nat):Int:=if i'=i∧k'=k then (accW G i k jj).1 else soFar n m j (rst G) i' k'
theorem inWork_zero {G:Grd} {n m j i k:Nat} (hp:(placesL n m)[j]?=some (i,k)) (hno:(i,k) ∉ (placesL n m).take j) (i' k':Nat):inWork G n m j i k 0 i' k'=soFar n m j (rst G) i' k':=by
 unfold inWork
 split
 ·rename_i h;obtain⟨rfl,rfl⟩:=h
  unfold soFar;rw [if_neg hno];rfl
 ·rfl
theorem inWork_all {G:Grd} {n m j i k:Nat} (hp:(placesL n m)[j]?=some (i,k)) (i' k':Nat):inWork G n m j i k (mvs G i k).length i' k'=soFar n m (j+1) (rst G) i' k':=by
 rw [soFar_step hp];unfold inWork;rw [accW_all]
theorem place_new {n m p q:Nat} (hp:p≤n) (hq:q≤m):(n - p,m - q) ∉ (placesL n m).take (p * (m+1)+q):=by
 intro h
 obtain⟨j,hj⟩:=List.mem_iff_getElem?.1 h
 have hjl:j<p * (m+1)+q:=by
  have:=(List.getElem?_eq_some_iff.1 hj).1
  rw [List.length_take] at this;omega
 rw [List.getElem?_take_of_lt hjl] at hj
 obtain⟨p',q',h1,h2,rfl,e1,e2⟩:=placesL_at hj
 obtain rfl:p'=p:=by omega
 obtain rfl:q'=q:=by omega
 omega
theorem table18_spec (c:Costs) (A B:Option Addr) (n m ca cb:Nat) (a b:List Tok) (w:World) (h2:Two w A B n m a b) (hk:ckV c a b=0) :
  Spec Tryz.prog 187 [c.val, .slice A n ca, .slice B m cb] w (fun v R=>∃ x:Value,True∧v=x∧R=[dat [x] [rowsD (tabR n m (rst (grdOf c a b)))]]):=by
 have hG:=grdOf_ok (ckV_ok hk).1 a b
 have hnb:=h2.hnb
 have hmb:=h2.hmb
 refine spec_of sg Tryz.func187 rfl rfl rfl ?_
 refine T_op (OpT.box (cs:=c.cells) rfl rfl rfl rfl rfl rfl rfl (fun pc=>?_))
 repeat' (first|refine d1 ?_|refine dd ?_|(show ∀ _:Nat,T _ _ _ _ _;intro _))
 rename_i b0
 refine T_le (H':=[row 40 1 (some ⟨b0,0,none⟩) 0 0 [],blk pc c.cells 23]) (Hle.weaken (i:=0) rfl (blk_row (sz:=1) (n:=0) rfl (by simp only [maxLen];omega)) rfl) ?_
 refine T_nilblks 3 ?_
 refine T_loopX (fun s:List (Nat × List Value) × Nat × Nat=>[(8, .int .i64 s.1.length),(7, .slice (some ⟨s.2.1,0,none⟩) s.1.length s.2.2)]) (fun s=>[blks 3 s.1,row 40 1 (some ⟨s.2.1,0,none⟩) s.2.2 s.1.length (s.1.map (slv m)),blk pc c.cells 23]) (fun s=>s.1.length≤n+1∧RowsOk (fun _ _=>0) (m+1) s.1) (fun s=>n+1 - s.1.length) ([],b0,0) ⟨Nat.zero_le _,fun i x h=>by simp at h⟩ ?_
 rintro⟨L,g,cap⟩ ⟨hL,hR⟩
 dsimp only at hL hR ⊢
 repeat' (first|refine d1 ?_|refine dd ?_|(show ∀ _:Nat,T _ _ _ _ _;intro _))
 refine T_if rfl (fun h=>?_) (fun h=>?_)
 ·simp only [decide_eq_true_eq] at h
  repeat' (first|refine d1 ?_|refine dd ?_|(show T _ (.ops _ (_::_)::_) _ _ _;first|refine T_op (OpT.make rfl rfl rfl rfl rfl rfl rfl rfl rfl (by dsimp only;omega) (fun b1=>?_))|refine T_op (OpT.append rfl rfl rfl rfl rfl rfl rfl rfl rfl rfl (fun w hw=>Src.own hw rfl) rfl (by dsimp only;omega) (by omega) (fun A' cap' hA'=>?_)))|(show ∀ _:Nat,T _ _ _ _ _;intro _))
  obtain⟨g',rfl⟩:=hA' (by omega)
  refine T_le (H':=[blk b1 (List.replicate (m+1) (.int .i64 0)) 3,blks 3 L,row 40 1 (some ⟨g',0,none⟩) cap' (L.length+1) (L.map (slv m)++[.slice (some ⟨b1,0,none⟩) (m+1) (m+1)]),blk pc c.cells 23]) (Hle.tail _ _) ?_
  refine T_backX (L++[(b1,List.replicate (m+1) (.int .i64 0))],g',cap') ⟨by dsimp only;rw [List.length_append];exact Nat.succ_le_of_lt (by omega),rows_snoc0 hR⟩ (by dsimp only;rw [List.length_append];simp;omega) (hE:=⟨by dsimp only;rw [List.length_append];rfl,by dsimp only;rw [List.length_append];rfl,trivial⟩) (hG:=?_)
  dsimp only
  rw [List.length_append,List.map_append]
  exact blks_snoc
 simp only [decide_eq_false_iff_not] at h
 have hLn:L.length=n+1:=by omega
 rw [hLn]
 have hR0:RowsOk (soFar n m 0 (rst (grdOf c a b))) (m+1) L:=fun i x hx=>by rw [hR i x hx,soFar_zero]
 repeat' (first|refine d1 ?_|refine dd ?_|(show ∀ _:Nat,T _ _ _ _ _;intro _))
 refine T_loopX (fun s:Nat × List (Nat × List Value)=>[(9, .int .i64 ((n:Int) - s.1))]) (fun s=>[blks 3 s.2,row 40 1 (some ⟨g,0,none⟩) cap (n+1) (s.2.map (slv m)),blk pc c.cells 23]) (fun s=>s.1≤n+1∧s.2.length=n+1∧RowsOk (soFar n m (s.1 * (m+1)) (rst (grdOf c a b))) (m+1) s.2) (fun s=>n+1 - s.1) (0,L) ⟨Nat.zero_le _,hLn,by rw [Nat.zero_mul];exact hR0⟩ ?_ (hE:=⟨by rw [show (n:Int) - ((0:Nat):Int)=n by omega];rfl,trivial⟩)
 rintro⟨p,M⟩ ⟨hp,hM,hS⟩
 dsimp only at hp hM hS ⊢
 repeat' (first|refine d1 ?_|refine dd ?_|(show ∀ _:Nat,T _ _ _ _ _;intro _))
 refine T_if rfl (fun h3=>?_) (fun h3=>?_)
 ·simp only [decide_eq_true_eq] at h3
  repeat' (first|refine d1 ?_|refine dd ?_|(show ∀ _:Nat,T _ _ _ _ _;intro _))
  refine T_loopX (fun s:Nat × List (Nat × List Value)=>[(10, .int .i64 ((m:Int) - s.1))]) (fun s=>[blks 3 s.2,row 40 1 (some ⟨g,0,none⟩) cap (n+1) (s.2.map (slv m)),blk pc c.cells 23]) (fun s=>s.1≤m+1∧s.2.length=n+1∧RowsOk (soFar n m (p * (m+1)+s.1) (rst (grdOf c a b))) (m+1) s.2) (fun s=>m+1 - s.1) (0,M) ⟨Nat.zero_le _,hM,hS⟩ ?_ (hE:=⟨by rw [show (m:Int) - ((0:Nat):Int)=m by omega];rfl,trivial⟩)
  rintro⟨q,M2⟩ ⟨hq,hM2,hS2⟩
  dsimp only at hq hM2 hS2 ⊢
  repeat' (first|refine d1 ?_|refine dd ?_|(show ∀ _:Nat,T _ _ _ _ _;intro _))
  refine T_if rfl (fun h4=>?_) (fun h4=>?_)
  ·simp only [decide_eq_true_eq] at h4
   have hpl:=placesL_get (n:=n) (m:=m) (p:=p) (q:=q) (by omega) (by omega)
   have hno:=place_new (n:=n) (m:=m) (p:=p) (q:=q) (by omega) (by omega)
   obtain⟨i,hi⟩:∃ i,i=n - p:=⟨_,rfl⟩
   obtain⟨k,hkk⟩:∃ k,k=m - q:=⟨_,rfl⟩
   rw [show (n:Int) - p=(i:Nat) by omega,show (m:Int) - q=(k:Nat) by omega]
   rw [← hi, ← hkk] at hpl hno
   repeat' (first|refine d1 ?_|refine dd ?_|(show T _ (.ops _ (_::_)::_) _ _ _;refine T_op (OpT.call rfl rfl rfl rfl rfl (fun w hw=>moves18_spec c A B n m ca cb a b i k w h2.hn hnb h2.hm hmb (by omega) (by omega)) ?_))|(show ∀ _:Nat,T _ _ _ _ _;intro _))
   rintro v R ⟨x,-,rfl,rfl⟩
   refine T_le (H':=[dat [v] [rowsD (mvR (grdOf c a b) i k)],blks 3 M2,row 40 1 (some ⟨g,0,none⟩) cap (n+1) (M2.map (slv m)),blk pc c.cells 23]) (Hle.refl _) ?_
   refine T_open fun pf hx=>?_
   obtain⟨Am,capm,csm,rfl,-,-,hcsm,hAm,hrm⟩:=hx.tab
   have hlen:(mvR (grdOf c a b) i k).length=(mvs (grdOf c a b) i k).length:=by unfold mvR;rw [List.length_map]
   have hm3:=mvs_len (grdOf c a b) i k
   rw [hlen] at hAm ⊢
   repeat' (first|refine d1 ?_|refine dd ?_|(show ∀ _:Nat,T _ _ _ _ _;intro _))
   refine T_loopX (fun s:Nat × List (Nat × List Value)=>[(12, .int .i64 s.1)]) (fun s=>[fz pf,blks 3 s.2,row 40 1 (some ⟨g,0,none⟩) cap (n+1) (s.2.map (slv m)),blk pc c.cells 23]) (fun s=>s.1≤(mvs (grdOf c a b) i k).length∧s.2.length=n+1∧RowsOk (inWork (grdOf c a b) n m (p * (m+1)+q) i k s.1) (m+1) s.2) (fun s=>(mvs (grdOf c a b) i k).length - s.1) (0,M2) ⟨Nat.zero_le _,hM2,hS2.ext hM2 fun i' k' _ _=>(inWork_zero hpl hno i' k').symm⟩ ?_
   rintro⟨jj,M3⟩ ⟨hjj,hM3,hS3⟩
   dsimp only at hjj hM3 hS3 ⊢
   repeat' (first|refine d1 ?_|refine dd ?_|(show ∀ _:Nat,T _ _ _ _ _;intro _))
   refine T_if rfl (fun h5=>?_) (fun h5=>?_)
   ·simp only [decide_eq_true_eq] at h5
    have hjl:jj<(mvs (grdOf c a b) i k).length:=by omega
    obtain⟨v,hv⟩:∃ v,(mvs (grdOf c a b) i k)[jj]?=some v:=⟨_,List.getElem?_eq_getElem hjl⟩
    have hb:=mv_to hG h2.hn h2.hm (by omega) (by omega) hv
    obtain⟨bm,om,rfl,hbm⟩:=hAm (by omega)
    obtain⟨Ar,capr,hcr,-,-,hAr⟩:=hrm.tabRow (i:=jj) (r:=mvCol i k v) (by unfold mvR;rw [List.getElem?_map,hv];rfl)
    obtain⟨bx,ox,rfl,hbx⟩:=hAr (show 0<2 by omega)
    obtain⟨⟨g1,c1⟩,hV1⟩:∃ x,M3[i+v.fst]?=some x:=⟨_,List.getElem?_eq_getElem (by omega)⟩
    obtain⟨⟨g0,c0⟩,hV0⟩:∃ x,M3[i]?=some x:=⟨_,List.getElem?_eq_getElem (by omega)⟩
    have hc1:c1=valV (inWork (grdOf c a b) n m (p * (m+1)+q) i k jj (i+v.fst)) (m+1):=hS3 _ _ hV1
    have hc0:c0=valV (inWork (grdOf c a b) n m (p * (m+1)+q) i k jj i) (m+1):=hS3 _ _ hV0
    have e1:inWork (grdOf c a b) n m (p * (m+1)+q) i k jj (i+v.fst) (k+v.snd)=rst (grdOf c a b) (i+v.fst) (k+v.snd):=by
     unfold inWork;rw [if_neg (by omega)];exact soFar_get hpl _ (by omega) (by omega) (by omega)
    have e0:inWork (grdOf c a b) n m (p * (m+1)+q) i k jj i k=(accW (grdOf c a b) i k jj).1:=if_pos ⟨rfl,rfl⟩
    have hrb:=rst_bd2 hG h2.hn h2.hm hnb hmb (i+v.fst) (k+v.snd)
    have es:accW (grdOf c a b) i k (jj+1)=stepW (grdOf c a b) i k (accW (grdOf c a b) i k jj) jj v:=accW_step hv
    have hd:∀ {r:Nat} {gr:Nat} {cr:List Value},M3[r]?=some (gr,cr)→r<n+1→(M3.map (slv m))[r]?=some (.slice (some ⟨gr,0,none⟩) (m+1) (m+1)):=fun h _=>by rw [List.getElem?_map,h];rfl
    have hl0:c0.length=m+1:=by rw [hc0,valV_length]
    repeat' (first|refine d1 ?_|refine dd ?_|(show T _ (.ops _ (_::_)::_) _ _ _;first|refine T_val rfl (Val.load rfl (fun hg=>rdFz (p:=pf) (u := .slice (some ⟨bx,ox,none⟩) 2 capr) (b:=bm) (by rw [off1];exact hbm jj _ hcr))) rfl rfl rfl ?_|refine T_valC rfl (Val.load rfl (fun hg=>rdFz (p:=pf) (u := .slice (some ⟨bx,ox,none⟩) 2 capr) (b:=bm) (by rw [off1];exact hbm jj _ hcr))) rfl rfl rfl rfl rfl ?_|refine T_call rfl rfl rfl rfl rfl (fun w hw=>behind18_spec c A B n m ca cb a b i k v g 0 (n+1) cap g1 0 (m+1) (m+1) bx ox capr (rst (grdOf c a b) (i+v.fst) (k+v.snd)) w (h2.cls hw) hk (by omega) (by omega) (List.mem_of_getElem? hv) (rdFz (p:=pf) (hbx 0 _ rfl) w hw) (rdFz (p:=pf) (hbx 1 _ rfl) w hw) (rdRow (A:=some ⟨g,0,none⟩) (by omega) (get1 (by rw [Nat.zero_add];exact hd hV1 (by omega))) w hw) (rdM hV1 (get1 (by rw [hc1, ← e1];exact vget (k+v.snd) (by omega) (by omega))) w hw) (by omega) (by omega) hrb) ?_|refine T_callC rfl rfl rfl rfl rfl rfl rfl (fun hg w hw=>behind18_spec c A B n m ca cb a b i k v g 0 (n+1) cap g1 0 (m+1) (m+1) bx ox capr (rst (grdOf c a b) (i+v.fst) (k+v.snd)) w (h2.cls hw) hk (by omega) (by omega) (List.mem_of_getElem? hv) (rdFz (p:=pf) (hbx 0 _ rfl) w hw) (rdFz (p:=pf) (hbx 1 _ rfl) w hw) (rdRow (A:=some ⟨g,0,none⟩) (by omega) (get1 (by rw [Nat.zero_add];exact hd hV1 (by omega))) w hw) (rdM hV1 (get1 (by rw [hc1, ← e1];exact vget (k+v.snd) (by omega) (by omega))) w hw) (by omega) (by omega) hrb) ?_|refine T_val rfl (Val.load rfl (fun hg=>rdRow (A:=some ⟨g,0,none⟩) (vs:=[.slice (some ⟨g0,0,none⟩) (m+1) (m+1)]) (by omega) (get1 (by rw [show 0+(i:Int).toNat * 1=i by omega];exact hd hV0 (by omega))))) rfl rfl rfl ?_|refine T_valC rfl (Val.load rfl (fun hg=>rdRow (A:=some ⟨g,0,none⟩) (vs:=[.slice (some ⟨g0,0,none⟩) (m+1) (m+1)]) (by omega) (get1 (by rw [show 0+(i:Int).toNat * 1=i by omega];exact hd hV0 (by omega))))) rfl rfl rfl rfl rfl ?_|refine T_val rfl (Val.load rfl (fun hg=>rdM (l:=M3) (k:=i) (g:=g0) (vs:=[.int .i64 (accW (grdOf c a b) i k jj).1]) hV0 (get1 (by rw [hc0, ← e0];exact vget k (by omega) (by omega))))) rfl rfl rfl ?_|refine T_valC rfl (Val.load rfl (fun hg=>rdM (l:=M3) (k:=i) (g:=g0) (vs:=[.int .i64 (accW (grdOf c a b) i k jj).1]) hV0 (get1 (by rw [hc0, ← e0];exact vget k (by omega) (by omega))))) rfl rfl rfl rfl rfl ?_)|(show T _ (.run _ _ (_::_) _ _::_) _ _ _;first|refine rv rfl rfl rfl (Val.load rfl (fun hg=>rdFz (p:=pf) (u := .slice (some ⟨bx,ox,none⟩) 2 capr) (b:=bm) (by rw [off1];exact hbm jj _ hcr))) rfl rfl rfl ?_|refine rg rfl rfl rfl (Val.load rfl (fun hg=>rdFz (p:=pf) (u := .slice (some ⟨bx,ox,none⟩) 2 capr) (b:=bm) (by rw [off1];exact hbm jj _ hcr))) rfl rfl rfl rfl rfl ?_|refine rc rfl rfl rfl rfl rfl rfl rfl (fun w hw=>behind18_spec c A B n m ca cb a b i k v g 0 (n+1) cap g1 0 (m+1) (m+1) bx ox capr (rst (grdOf c a b) (i+v.fst) (k+v.snd)) w (h2.cls hw) hk (by omega) (by omega) (List.mem_of_getElem? hv) (rdFz (p:=pf) (hbx 0 _ rfl) w hw) (rdFz (p:=pf) (hbx 1 _ rfl) w hw) (rdRow (A:=some ⟨g,0,none⟩) (by omega) (get1 (by rw [Nat.zero_add];exact hd hV1 (by omega))) w hw) (rdM hV1 (get1 (by rw [hc1, ← e1];exact vget (k+v.snd) (by omega) (by omega))) w hw) (by omega) (by omega) hrb) ?_|refine rcG rfl rfl rfl rfl rfl rfl rfl rfl rfl (fun hg w hw=>behind18_spec c A B n m ca cb a b i k v g 0 (n+1) cap g1 0 (m+1) (m+1) bx ox capr (rst (grdOf c a b) (i+v.fst) (k+v.snd)) w (h2.cls hw) hk (by omega) (by omega) (List.mem_of_getElem? hv) (rdFz (p:=pf) (hbx 0 _ rfl) w hw) (rdFz (p:=pf) (hbx 1 _ rfl) w hw) (rdRow (A:=some ⟨g,0,none⟩) (by omega) (get1 (by rw [Nat.zero_add];exact hd hV1 (by omega))) w hw) (rdM hV1 (get1 (by rw [hc1, ← e1];exact vget (k+v.snd) (by omega) (by omega))) w hw) (by omega) (by omega) hrb) ?_|refine rv rfl rfl rfl (Val.load rfl (fun hg=>rdRow (A:=some ⟨g,0,none⟩) (vs:=[.slice (some ⟨g0,0,none⟩) (m+1) (m+1)]) (by omega) (get1 (by rw [show 0+(i:Int).toNat * 1=i by omega];exact hd hV0 (by omega))))) rfl rfl rfl ?_|refine rg rfl rfl rfl (Val.load rfl (fun hg=>rdRow (A:=some ⟨g,0,none⟩) (vs:=[.slice (some ⟨g0,0,none⟩) (m+1) (m+1)]) (by omega) (get1 (by rw [show 0+(i:Int).toNat * 1=i by omega];exact hd hV0 (by omega))))) rfl rfl rfl rfl rfl ?_|refine rv rfl rfl rfl (Val.load rfl (fun hg=>rdM (l:=M3) (k:=i) (g:=g0) (vs:=[.int .i64 (accW (grdOf c a b) i k jj).1]) hV0 (get1 (by rw [hc0, ← e0];exact vget k (by omega) (by omega))))) rfl rfl rfl ?_|refine rg rfl rfl rfl (Val.load rfl (fun hg=>rdM (l:=M3) (k:=i) (g:=g0) (vs:=[.int .i64 (accW (grdOf c a b) i k jj).1]) hV0 (get1 (by rw [hc0, ← e0];exact vget k (by omega) (by omega))))) rfl rfl rfl rfl rfl ?_)|(show ∀ _:Nat,T _ _ _ _ _;intro _))
    refine T_if rfl (fun h6=>?_) (fun h6=>?_)
    ·simp only [Bool.or_eq_true,decide_eq_true_eq] at h6
     have es2:(accW (grdOf c a b) i k (jj+1)).1=via (grdOf c a b) i k v:=by
      rw [es];unfold stepW;rw [if_pos]
      rcases h6 with h6|h6
      ·exact .inl (by omega)
      ·exact .inr h6
     repeat' (first|refine d1 ?_|refine dd ?_|(show T _ (.ops _ (_::_)::_) _ _ _;first|refine T_val rfl (Val.load rfl (fun hg=>rdRow (A:=some ⟨g,0,none⟩) (vs:=[.slice (some ⟨g0,0,none⟩) (m+1) (m+1)]) (by omega) (get1 (by rw [show 0+(i:Int).toNat * 1=i by omega];exact hd hV0 (by omega))))) rfl rfl rfl ?_|refine T_valC rfl (Val.load rfl (fun hg=>rdRow (A:=some ⟨g,0,none⟩) (vs:=[.slice (some ⟨g0,0,none⟩) (m+1) (m+1)]) (by omega) (get1 (by rw [show 0+(i:Int).toNat * 1=i by omega];exact hd hV0 (by omega))))) rfl rfl rfl rfl rfl ?_|refine T_op (OpT.storeM rfl rfl rfl hV0 rfl (by rw [hl0];omega) ?_))|(show T _ (.run _ _ (_::_) _ _::_) _ _ _;first|refine rv rfl rfl rfl (Val.load rfl (fun hg=>rdRow (A:=some ⟨g,0,none⟩) (vs:=[.slice (some ⟨g0,0,none⟩) (m+1) (m+1)]) (by omega) (get1 (by rw [show 0+(i:Int).toNat * 1=i by omega];exact hd hV0 (by omega))))) rfl rfl rfl ?_|refine rg rfl rfl rfl (Val.load rfl (fun hg=>rdRow (A:=some ⟨g,0,none⟩) (vs:=[.slice (some ⟨g0,0,none⟩) (m+1) (m+1)]) (by omega) (get1 (by rw [show 0+(i:Int).toNat * 1=i by omega];exact hd hV0 (by omega))))) rfl rfl rfl rfl rfl ?_)|(show ∀ _:Nat,T _ _ _ _ _;intro _))
     refine T_backX (jj+1,M3.set i (g0,c0.set k (.int .i64 (via (grdOf c a b) i k v)))) ⟨Nat.succ_le_of_lt hjl,by dsimp only;rw [List.length_set];exact hM3,rows_put hS3 hV0 fun i' k'=>?_⟩ (by dsimp only;omega) (hG:=?_)
     ·unfold inWork
      rw [es2]
      split <;> rfl
     ·dsimp only
      rw [slv_set hV0,show 0+(k:Int).toNat * 1=k by omega]
      exact Hle.refl _
    ·simp only [Bool.or_eq_false_iff,decide_eq_false_iff_not] at h6
     have es2:(accW (grdOf c a b) i k (jj+1)).1=(accW (grdOf c a b) i k jj).1:=by
      rw [es,stepW_fst,if_neg (by omega)]
      have h7:¬ via (grdOf c a b) i k v<(accW (grdOf c a b) i k jj).1:=h6.2
      omega
     repeat' (first|refine d1 ?_|refine dd ?_|(show ∀ _:Nat,T _ _ _ _ _;intro _))
     refine T_backX (jj+1,M3) ⟨Nat.succ_le_of_lt hjl,hM3,hS3.ext hM3 fun i' k' _ _=>?_⟩ (by dsimp only;omega)
     unfold inWork;rw [es2]
   ·simp only [decide_eq_false_iff_not] at h5
    obtain rfl:jj=(mvs (grdOf c a b) i k).length:=by omega
    repeat' (first|refine d1 ?_|refine dd ?_|(show ∀ _:Nat,T _ _ _ _ _;intro _))
    refine T_backX (q+1,M3) ⟨by dsimp only;omega,hM3,hS3.ext hM3 fun i' k' _ _=>inWork_all hpl i' k'⟩ (by dsimp only;omega) (hE:=⟨by dsimp only;rw [show (m:Int) - ((q+1:Nat):Int)=(k:Int) - 1 by omega];rfl,trivial⟩) (hG:=Hle.tail _ _)
  ·simp only [decide_eq_false_iff_not] at h4
   obtain rfl:q=m+1:=by omega
   repeat' (first|refine d1 ?_|refine dd ?_|(show ∀ _:Nat,T _ _ _ _ _;intro _))
   exact T_backX (p+1,M2) ⟨by dsimp only;omega,hM2,by dsimp only;rw [Nat.succ_mul];exact hS2⟩ (by dsimp only;omega) (hE:=⟨by dsimp only;rw [show (n:Int) - ((p+1:Nat):Int)=(n:Int) - p - 1 by omega];rfl,trivial⟩)
 ·simp only [decide_eq_false_iff_not] at h3
  obtain rfl:p=n+1:=by omega
  have hR':RowsOk (rst (grdOf c a b)) (m+1) M:=hS.ext hM fun i k hi hk=>soFar_all (by rw [placesL_len];exact Nat.le_refl _) _ (by omega) (by omega)
  have q1:∀ x∈M,m+1≤x.2.length:=fun x hx=>by obtain⟨i,hi,e⟩:=List.getElem_of_mem hx;rw [hS i x (by rw [List.getElem?_eq_getElem hi,e]),valV_length];omega
  have hle:Hle [blks 3 M,row 40 1 (some ⟨g,0,none⟩) cap (n+1) (M.map (slv m)),blk pc c.cells 23] [dat [.slice (some ⟨g,0,none⟩) (n+1) cap] [rowsD (tabR n m (rst (grdOf c a b)))]]:=by
   refine (dat_blks (L:=M) (m+1) (m+1) (by omega) (by omega) q1).trans ?_
   rw [tab_rows hM hR']
   exact (Hle.perm (List.Perm.swap _ _ _)).trans (dat_row.trans (show Hle _ [dat [.slice (some ⟨g,0,none⟩) (n+1) cap] [D.s 1 ((tabR n m (rst (grdOf c a b))).map intsD)]] from Hle.sub))
  repeat' (first|refine d1 ?_|refine dd ?_|(show ∀ _:Nat,T _ _ _ _ _;intro _)|(show T _ (.code .ret::_) _ _ _;refine T_retV _ rfl hle ⟨_,trivial,rfl,rfl⟩))
end Go.Proofs.YtmenjpmikhajfaaGreatDoor
namespace Go.Proofs.YtmenjpmikhajfaaGreatDoor
open Go.RowKit Go.Shelf Go.Proofs
set_option maxRecDepth 100000
set_option maxHeartbeats 1000000

theorem distanceRef18_spec (c:Costs) (A B:Option Addr) (n m ca cb:Nat) (a b:List Tok) (w:World) (h2:Two w A B n m a b) :
  Spec Tryz.prog 152 [c.val, .slice A n ca, .slice B m cb] w (fun v R=>v = .tuple #[.int .i64 (distV c a b).1, .int .i64 (distV c a b).2]∧R=[]):=by
 refine spec_of sg Tryz.func152 rfl rfl rfl ?_
 refine T_op (OpT.box (cs:=c.cells) rfl rfl rfl rfl rfl rfl rfl (fun pc=>?_))
 repeat' (first|refine d1 ?_|refine dd ?_|(show T _ (.ops _ (_::_)::_) _ _ _;first|refine T_call rfl rfl rfl rfl rfl (fun w hw=>ck18_spec c A B n m ca cb a b w (h2.cls hw)) ?_|refine T_callC rfl rfl rfl rfl rfl rfl rfl (fun hg w hw=>ck18_spec c A B n m ca cb a b w (h2.cls hw)) ?_)|(show T _ (.run _ _ (_::_) _ _::_) _ _ _;first|refine rc rfl rfl rfl rfl rfl rfl rfl (fun w hw=>ck18_spec c A B n m ca cb a b w (h2.cls hw)) ?_|refine rcG rfl rfl rfl rfl rfl rfl rfl rfl rfl (fun hg w hw=>ck18_spec c A B n m ca cb a b w (h2.cls hw)) ?_)|(show ∀ _:Nat,T _ _ _ _ _;intro _))
 refine T_if rfl (fun h=>?_) (fun h=>?_)
 ·simp only [Bool.not_eq_true',decide_eq_false_iff_not] at h
  have e:distV c a b=(0,1):=if_neg h
  have e1:=(ckV_01 c a b).resolve_left h
  rw [e,e1]
  repeat' (first|refine d1 ?_|refine dd ?_|(show ∀ _:Nat,T _ _ _ _ _;intro _)|(show T _ (.code .ret::_) _ _ _;refine T_retV [] rfl (Hle.none _) ⟨rfl,rfl⟩))
 ·simp only [Bool.not_eq_false',decide_eq_true_eq] at h
  have e:distV c a b=(rst (grdOf c a b) 0 0,0):=if_pos h
  rw [e]
  repeat' (first|refine d1 ?_|refine dd ?_|(show T _ (.ops _ (_::_)::_) _ _ _;refine T_op (OpT.call rfl rfl rfl rfl rfl (fun w hw=>table18_spec c A B n m ca cb a b w (h2.cls hw) h) ?_))|(show ∀ _:Nat,T _ _ _ _ _;intro _))
  rintro v R ⟨x,-,rfl,rfl⟩
  refine T_le (H':=[dat [v] [rowsD (tabR n m (rst (grdOf c a b)))],blk pc c.cells 23]) (Hle.refl _) ?_
  refine T_open fun p hp=>?_
  obtain⟨At,capt,cs,rfl,-,-,-,hA,hrows⟩:=hp.tab
  rw [tabR_length] at hA ⊢
  obtain⟨bt,ot,rfl,hb⟩:=hA (by omega)
  obtain⟨Ar,capr,hcs,-,-,hA'⟩:=hrows.tabRow (tabR_get (Nat.zero_le n))
  rw [List.length_map,List.length_range] at hcs hA'
  obtain⟨br,orr,rfl,hb'⟩:=hA' (by omega)
  repeat' (first|refine d1 ?_|refine dd ?_|(show T _ (.ops _ (_::_)::_) _ _ _;first|refine T_val rfl (Val.load rfl (fun hg=>rdFz (p:=p) (u := .slice (some ⟨br,orr,none⟩) (m+1) capr) (b:=bt) (hb 0 _ hcs))) rfl rfl rfl ?_|refine T_valC rfl (Val.load rfl (fun hg=>rdFz (p:=p) (u := .slice (some ⟨br,orr,none⟩) (m+1) capr) (b:=bt) (hb 0 _ hcs))) rfl rfl rfl rfl rfl ?_|refine T_val rfl (Val.load rfl (fun hg=>rdFz (p:=p) (u := .int .i64 (rst (grdOf c a b) 0 0)) (b:=br) (hb' 0 _ (tabR_cell (Nat.zero_le m))))) rfl rfl rfl ?_|refine T_valC rfl (Val.load rfl (fun hg=>rdFz (p:=p) (u := .int .i64 (rst (grdOf c a b) 0 0)) (b:=br) (hb' 0 _ (tabR_cell (Nat.zero_le m))))) rfl rfl rfl rfl rfl ?_)|(show T _ (.run _ _ (_::_) _ _::_) _ _ _;first|refine rv rfl rfl rfl (Val.load rfl (fun hg=>rdFz (p:=p) (u := .slice (some ⟨br,orr,none⟩) (m+1) capr) (b:=bt) (hb 0 _ hcs))) rfl rfl rfl ?_|refine rg rfl rfl rfl (Val.load rfl (fun hg=>rdFz (p:=p) (u := .slice (some ⟨br,orr,none⟩) (m+1) capr) (b:=bt) (hb 0 _ hcs))) rfl rfl rfl rfl rfl ?_|refine rv rfl rfl rfl (Val.load rfl (fun hg=>rdFz (p:=p) (u := .int .i64 (rst (grdOf c a b) 0 0)) (b:=br) (hb' 0 _ (tabR_cell (Nat.zero_le m))))) rfl rfl rfl ?_|refine rg rfl rfl rfl (Val.load rfl (fun hg=>rdFz (p:=p) (u := .int .i64 (rst (grdOf c a b) 0 0)) (b:=br) (hb' 0 _ (tabR_cell (Nat.zero_le m))))) rfl rfl rfl rfl rfl ?_)|(show ∀ _:Nat,T _ _ _ _ _;intro _)|(show T _ (.code .ret::_) _ _ _;refine T_retV [] rfl (Hle.none _) ⟨rfl,rfl⟩))
structure TS where
 A:Option Addr
 n:Nat
 cap:Nat
 l:List Tok
@[reducible] def TS.val (t:TS):Value := .slice t.A t.n t.cap
theorem indexFuncS_spec (A:Option Addr) (n c:Nat) (l:List TS) (f:FuncId) (fs cs:List Value) (p:TS→Bool) (w:World) (hs:Src w 1 A n (l.map TS.val)) (hn:l.length=n) (hb:n≤9223372036854775807)
  (hf:∀ x∈l,∀ w',Below w.heap.size w w'→Spec Tryz.prog f (fs++(x.val::cs)) w' (fun v A=>v = .bool (p x)∧A=[])) :
  Spec Tryz.prog 128 [.slice A n c, .func (.func f) fs.toArray cs.toArray] w (fun v A=>v = .int .i64 (findI p l)∧A=[]):=by
 refine spec_of sg Tryz.func128 rfl rfl rfl ?_
 repeat' (first|refine d1 ?_|refine dd ?_|(show ∀ _:Nat,T _ _ _ _ _;intro _))
 refine T_loop (fun k:Nat=>[(0, .slice A n c),(1, .func (.func f) fs.toArray cs.toArray),(7, .int .i64 n),(8, .int .i64 k)]) (fun _=>[]) (fun k=>k≤n∧∀ i x,i<k→l[i]?=some x→p x=false) (fun k=>n - k) 0 ⟨Nat.zero_le _,fun i x h=>by omega⟩ ⟨rfl,rfl,rfl,rfl,trivial⟩ (Hle.refl _) ?_
 rintro k ⟨hk,hok⟩
 repeat' (first|refine d1 ?_|refine dd ?_|(show ∀ _:Nat,T _ _ _ _ _;intro _))
 refine T_if rfl (fun h=>?_) (fun h=>?_)
 ·simp only [decide_eq_true_eq] at h
  have hkn:k<n:=by omega
  obtain⟨b,o,rfl⟩:=hs.base (by omega)
  obtain⟨x,hx⟩:∃ x,l[k]?=some x:=⟨_,List.getElem?_eq_getElem (by omega)⟩
  repeat' (first|refine d1 ?_|refine dd ?_|(show ∀ _:Nat,T _ _ _ _ _;intro _))
  refine T_load (v:=x.val) rfl rfl rfl rfl rfl (rdOld ?_) ?_
  ·exact (hs.get1 hkn (by rw [List.getElem?_map,hx];rfl)).2
  repeat' (first|refine d1 ?_|refine dd ?_|(show T _ (.ops _ (_::_)::_) _ _ _;first|refine T_call rfl rfl rfl rfl rfl (fun w hw=>hf x (List.mem_of_getElem? hx) w hw.below) ?_|refine T_callC rfl rfl rfl rfl rfl rfl rfl (fun hg w hw=>hf x (List.mem_of_getElem? hx) w hw.below) ?_)|(show T _ (.run _ _ (_::_) _ _::_) _ _ _;first|refine rc rfl rfl rfl rfl rfl rfl rfl (fun w hw=>hf x (List.mem_of_getElem? hx) w hw.below) ?_|refine rcG rfl rfl rfl rfl rfl rfl rfl rfl rfl (fun hg w hw=>hf x (List.mem_of_getElem? hx) w hw.below) ?_)|(show ∀ _:Nat,T _ _ _ _ _;intro _))
  refine T_if rfl (fun h1=>?_) (fun h1=>?_)
  ·repeat' (first|refine d1 ?_|refine dd ?_|(show ∀ _:Nat,T _ _ _ _ _;intro _)|(show T _ (.code .ret::_) _ _ _;refine T_retV [] rfl (Hle.refl _) ⟨congrArg (Value.int .i64) ?_,rfl⟩))
   exact (findI_some hx h1 hok).symm
  ·repeat' (first|refine d1 ?_|refine dd ?_|(show ∀ _:Nat,T _ _ _ _ _;intro _))
   refine T_back (k+1) ⟨by omega,fun i y hi hy=>?_⟩ (by omega) ⟨rfl,rfl,rfl,rfl,trivial⟩ (Hle.refl _)
   rcases Nat.lt_or_ge i k with h2|h2
   ·exact hok i y h2 hy
   ·rw [show i=k by omega,hx] at hy
    cases hy
    exact h1
 ·simp only [decide_eq_false_iff_not] at h
  repeat' (first|refine d1 ?_|refine dd ?_|(show ∀ _:Nat,T _ _ _ _ _;intro _)|(show T _ (.code .ret::_) _ _ _;refine T_retV [] rfl (Hle.refl _) ⟨congrArg (Value.int .i64) ?_,rfl⟩))
  exact (findI_none (fun i x hi=>hok i x (by have:=(List.getElem?_eq_some_iff.1 hi).1;omega) hi)).symm
theorem containsFuncS_spec (A:Option Addr) (n c:Nat) (l:List TS) (f:FuncId) (fs cs:List Value) (p:TS→Bool) (w:World) (hs:Src w 1 A n (l.map TS.val)) (hn:l.length=n) (hb:n≤9223372036854775807)
  (hf:∀ x∈l,∀ w',Below w.heap.size w w'→Spec Tryz.prog f (fs++(x.val::cs)) w' (fun v A=>v = .bool (p x)∧A=[])) :
  Spec Tryz.prog 48 [.slice A n c, .func (.func f) fs.toArray cs.toArray] w (fun v A=>v = .bool (l.any p)∧A=[]):=by
 refine spec_of sg Tryz.func48 rfl rfl rfl ?_
 repeat' (first|refine d1 ?_|refine dd ?_|(show T _ (.ops _ (_::_)::_) _ _ _;first|refine T_call rfl rfl rfl rfl rfl (fun w hw=>indexFuncS_spec A n c l f fs cs p w (rdSrc hs w hw) hn hb (fun x hx w' hb'=>hf x hx w' (hw.below.trans (hb'.mono hw.below.size)))) ?_|refine T_callC rfl rfl rfl rfl rfl rfl rfl (fun hg w hw=>indexFuncS_spec A n c l f fs cs p w (rdSrc hs w hw) hn hb (fun x hx w' hb'=>hf x hx w' (hw.below.trans (hb'.mono hw.below.size)))) ?_)|(show T _ (.run _ _ (_::_) _ _::_) _ _ _;first|refine rc rfl rfl rfl rfl rfl rfl rfl (fun w hw=>indexFuncS_spec A n c l f fs cs p w (rdSrc hs w hw) hn hb (fun x hx w' hb'=>hf x hx w' (hw.below.trans (hb'.mono hw.below.size)))) ?_|refine rcG rfl rfl rfl rfl rfl rfl rfl rfl rfl (fun hg w hw=>indexFuncS_spec A n c l f fs cs p w (rdSrc hs w hw) hn hb (fun x hx w' hb'=>hf x hx w' (hw.below.trans (hb'.mono hw.below.size)))) ?_)|(show ∀ _:Nat,T _ _ _ _ _;intro _)|(show T _ (.code .ret::_) _ _ _;refine T_retV [] rfl (Hle.refl _) ⟨congrArg Value.bool ?_,rfl⟩))
 exact findI_any p l
structure TsOk (w:World) (l:List TS):Prop where
 src:∀ t∈l,Src w 6 t.A t.n (t.l.flatMap Tok.cells)
 len:∀ t∈l,t.l.length=t.n
 bd:∀ t∈l,t.n≤9223372036854775807
theorem src_below {w w':World} {sz n:Nat} {A:Option Addr} {xs:List Value} (h:Src w sz A n xs) (hb:Below w.heap.size w w'):Src w' sz A n xs:=⟨h.1,fun q=>⟨(h.2 q).1,(h.2 q).2.below hb⟩⟩
end Go.Proofs.YtmenjpmikhajfaaGreatDoor
namespace Go.Proofs.YtmenjpmikhajfaaGreatDoor
open Go.RowKit Go.Shelf Go.Proofs
set_option maxRecDepth 100000
set_option maxHeartbeats 1000000

end Go.Proofs.YtmenjpmikhajfaaGreatDoor
namespace Go.Proofs.YtmenjpmikhajfaaGreatDoor

def fstM (G:Grd) (i k:Nat):Option Mv:=(mvs G i k).find? fun x=>decide (via G i k x=rst G i k)
theorem fstM_ex {G:Grd} {i k:Nat} (h:i<G.n∨k<G.m):∃ x,fstM G i k=some x:=by
 have key:∃ x∈mvs G i k,via G i k x=rst G i k:=by
  by_cases hi:i<G.n
  ·by_cases hk:k<G.m
   ·rw [mvs_both hi hk,rst_both hi hk]
    have e:∀ x y z:Int,min (min x y) z=x∨min (min x y) z=y∨min (min x y) z=z:=by omega
    rcases e (G.p i k+rst G (i+1) (k+1)) (G.g i+rst G (i+1) k) (G.h k+rst G i (k+1)) with h|h|h
    ·exact⟨_,List.mem_cons_self ..,h.symm⟩
    ·exact⟨_,List.mem_cons_of_mem _ (List.mem_cons_self ..),h.symm⟩
    ·exact⟨_,List.mem_cons_of_mem _ (List.mem_cons_of_mem _ (List.mem_cons_self ..)),h.symm⟩
   ·rw [mvs_fst hi hk,rst_fst hi hk];exact⟨_,List.mem_cons_self ..,rfl⟩
  ·have hk:k<G.m:=h.resolve_left hi
   rw [mvs_snd hi hk,rst_snd hi hk];exact⟨_,List.mem_cons_self ..,rfl⟩
 obtain⟨x,hx,e⟩:=key
 unfold fstM
 cases hf:(mvs G i k).find? (fun x=>decide (via G i k x=rst G i k)) with
 | some y=>exact⟨y,rfl⟩
 | none=>exact absurd (decide_eq_true e) (by simpa using List.find?_eq_none.1 hf x hx)
theorem fstM_mem {G:Grd} {i k:Nat} {x:Mv} (h:fstM G i k=some x):x∈mvs G i k∧via G i k x=rst G i k:=by
 unfold fstM at h
 exact⟨List.mem_of_find?_eq_some h,by simpa using List.find?_some h⟩
def alnF (G:Grd):Nat→Nat→Nat→List (List Int)
 | 0,_,_=>[]
 | f+1,i,k=>match fstM G i k with
  | some x=>mvCol i k x::alnF G f (i+x.fst) (k+x.snd)
  | none=>[]
def aln (G:Grd) (i k:Nat):List (List Int):=alnF G ((G.n - i)+(G.m - k)) i k
theorem alnF_end {G:Grd} {i k:Nat} (h:¬ (i<G.n∨k<G.m)):∀ f,alnF G f i k=[]
 | 0=>rfl
 | f+1=>by
  unfold alnF
  have:fstM G i k=none:=by unfold fstM;rw [mvs_none (by omega) (by omega)];rfl
  rw [this]
theorem alnF_more {G:Grd}:∀ (f:Nat) (i k:Nat),(G.n - i)+(G.m - k)≤f→alnF G f i k=aln G i k
 | 0,i,k,h=>by unfold aln;rw [show (G.n - i)+(G.m - k)=0 by omega]
 | f+1,i,k,h=>by
  by_cases he:i<G.n∨k<G.m
  ·obtain⟨x,hx⟩:=fstM_ex he
   obtain⟨d,hd⟩:∃ d,(G.n - i)+(G.m - k)=d+1:=⟨(G.n - i)+(G.m - k) - 1,by omega⟩
   unfold aln
   rw [hd]
   unfold alnF
   rw [hx]
   have hm:=mvs_to (fstM_mem hx).1
   simp only
   rw [alnF_more f _ _ (by omega),alnF_more d _ _ (by omega)]
  ·rw [alnF_end he];unfold aln;rw [alnF_end he]
 termination_by f=>f
 decreasing_by all_goals omega
theorem aln_step {G:Grd} {i k:Nat} {x:Mv} (h:fstM G i k=some x):aln G i k=mvCol i k x::aln G (i+x.fst) (k+x.snd):=by
 have hm:=mvs_to (fstM_mem h).1
 rw [← alnF_more ((G.n - i)+(G.m - k)+1) i k (by omega)]
 unfold alnF
 rw [h]
 simp only
 rw [alnF_more _ _ _ (by omega)]
theorem aln_end {G:Grd} {i k:Nat} (h:¬ (i<G.n∨k<G.m)):aln G i k=[]:=by unfold aln;exact alnF_end h _
end Go.Proofs.YtmenjpmikhajfaaGreatDoor
namespace Go.Proofs.YtmenjpmikhajfaaGreatDoor

theorem mvs_form {G:Grd} {i k:Nat} {y:Mv} (h:y∈mvs G i k):(y=⟨1,1,G.p i k⟩∧i<G.n∧k<G.m)∨(y=⟨1,0,G.g i⟩∧i<G.n)∨(y=⟨0,1,G.h k⟩∧k<G.m):=by
 obtain⟨f,s,c⟩:=y
 rcases mvs_to h with⟨h1,h2,h3,h4,h5⟩|⟨h1,h2,h3,h5⟩|⟨h1,h2,h3,h5⟩
 ·exact .inl ⟨by rw [show f=1 from h1,show s=1 from h2,show c=_ from h5],h3,h4⟩
 ·exact .inr (.inl ⟨by rw [show f=1 from h1,show s=0 from h2,show c=_ from h5],h3⟩)
 ·exact .inr (.inr ⟨by rw [show f=0 from h1,show s=1 from h2,show c=_ from h5],h3⟩)
theorem rst_via {G:Grd} {i k:Nat} {y:Mv} (h:y∈mvs G i k):rst G i k≤via G i k y:=by
 unfold via
 rcases mvs_form h with⟨rfl,h1,h2⟩|⟨rfl,h1⟩|⟨rfl,h1⟩
 ·exact rst_le_p h1 h2
 ·exact rst_le_g h1
 ·exact rst_le_h h1
theorem aln_len (G:Grd) (i k:Nat):(aln G i k).length≤(G.n - i)+(G.m - k):=by
 unfold aln
 have key:∀ (f i k:Nat),(alnF G f i k).length≤f:=by
  intro f
  induction f with
  | zero=>intro i k;exact Nat.le_refl _
  | succ f ih =>
   intro i k
   unfold alnF
   split
   ·rw [List.length_cons];have:=ih (i+(by assumption:Mv).fst) (k+(by assumption:Mv).snd);omega
   ·exact Nat.zero_le _
 exact key _ i k
def shpP (n m:Nat) (t:List (List Int)):Prop:=t.length=n+1∧∀ r∈t,r.length=m+1
instance (n m:Nat) (t:List (List Int)):Decidable (shpP n m t):=by unfold shpP;infer_instance
def rngP (G:Grd) (t:Nat→Nat→Int):Prop:=∀ i,i<G.n+1→∀ k,k<G.m+1→0≤t i k∧t i k≤big
def stpP (G:Grd) (t:Nat→Nat→Int) (i k:Nat):Prop:=∀ y∈mvs G i k,t i k≤y.cost+t (i+y.fst) (k+y.snd)
def stpsP (G:Grd) (t:Nat→Nat→Int):Prop:=∀ i,i<G.n+1→∀ k,k<G.m+1→stpP G t i k
instance (G:Grd) (t:Nat→Nat→Int):Decidable (rngP G t):=by unfold rngP;infer_instance
instance (G:Grd) (t:Nat→Nat→Int) (i k:Nat):Decidable (stpP G t i k):=by unfold stpP;infer_instance
instance (G:Grd) (t:Nat→Nat→Int):Decidable (stpsP G t):=by unfold stpsP;infer_instance
def certP (G:Grd) (t:Nat→Nat→Int) (z:Int):Prop:=(t G.n G.m=0∧t 0 0=z)∧rngP G t∧stpsP G t
instance (G:Grd) (t:Nat→Nat→Int) (z:Int):Decidable (certP G t z):=by unfold certP;infer_instance
end Go.Proofs.YtmenjpmikhajfaaGreatDoor
namespace Go.Proofs.YtmenjpmikhajfaaGreatDoor

inductive Dir where
 | b
 | f
 | s
deriving DecidableEq
def Dir.x:Dir→Nat
 | .b=>1
 | .f=>1
 | .s=>0
def Dir.y:Dir→Nat
 | .b=>1
 | .f=>0
 | .s=>1
def xs:List Dir→Nat
 | []=>0
 | d::l=>d.x+xs l
def ys:List Dir→Nat
 | []=>0
 | d::l=>d.y+ys l
structure Rvs (G F:Grd):Prop where
 n:F.n=G.n
 m:F.m=G.m
 p:∀ i k,i<G.n→k<G.m→F.p (G.n - 1 - i) (G.m - 1 - k)=G.p i k
 g:∀ i,i<G.n→F.g (G.n - 1 - i)=G.g i
 h:∀ k,k<G.m→F.h (G.m - 1 - k)=G.h k
theorem Rvs.symm {G F:Grd} (r:Rvs G F):Rvs F G where
 n:=r.n.symm
 m:=r.m.symm
 p:=fun i k hi hk=>by
  rw [r.n] at hi ⊢;rw [r.m] at hk ⊢
  have:=r.p (G.n - 1 - i) (G.m - 1 - k) (by omega) (by omega)
  rw [show G.n - 1 - (G.n - 1 - i)=i by omega,show G.m - 1 - (G.m - 1 - k)=k by omega] at this
  exact this.symm
 g:=fun i hi=>by
  rw [r.n] at hi ⊢
  have:=r.g (G.n - 1 - i) (by omega)
  rw [show G.n - 1 - (G.n - 1 - i)=i by omega] at this
  exact this.symm
 h:=fun k hk=>by
  rw [r.m] at hk ⊢
  have:=r.h (G.m - 1 - k) (by omega)
  rw [show G.m - 1 - (G.m - 1 - k)=k by omega] at this
  exact this.symm
structure Xch (G F:Grd):Prop where
 n:F.n=G.m
 m:F.m=G.n
 p:∀ i k,i<G.n→k<G.m→F.p k i=G.p i k
 g:∀ k,k<G.m→F.g k=G.h k
 h:∀ i,i<G.n→F.h i=G.g i
end Go.Proofs.YtmenjpmikhajfaaGreatDoor
namespace Go.Proofs.YtmenjpmikhajfaaGreatDoor

def IsMin (d:Nat→Int) (S:Nat→Prop) (m:Int):Prop:=(∃ k,S k∧d k=m)∧∀ k,S k→m≤d k
theorem IsMin.uniq {d:Nat→Int} {S:Nat→Prop} {m m':Int} (h:IsMin d S m) (h':IsMin d S m'):m=m':=by
 obtain⟨⟨k,hk,rfl⟩,h2⟩:=h
 obtain⟨⟨k',hk',rfl⟩,h2'⟩:=h'
 have:=h2 k' hk'
 have:=h2' k hk
 omega
def rowR (d:Nat→Int) (i:Nat) (tk:Nat→Bool) (st:Int × Int):Nat→Int × Int
 | 0=>st
 | k+1=>if tk k=true∧((rowR d i tk st k).1<0∨d k<(rowR d i tk st k).1) then (d k,(i:Int)) else rowR d i tk st k
theorem rowR_law {d:Nat→Int} {i:Nat} {tk:Nat→Bool} {st:Int × Int} (hd:∀ k,0≤d k):∀ k,((∀ j,j<k→tk j=false)∧rowR d i tk st k=st) ∨
  ∃ m,IsMin d (fun j=>j<k∧tk j=true) m∧rowR d i tk st k=if st.1<0∨m<st.1 then (m,(i:Int)) else st
 | 0 => .inl ⟨fun j h=>by omega,rfl⟩
 | k+1=>by
  have hk:=hd k
  cases ht:tk k with
  | false =>
   have e:rowR d i tk st (k+1)=rowR d i tk st k:=by simp [rowR,ht]
   rw [e]
   rcases rowR_law (i:=i) (tk:=tk) (st:=st) hd k with⟨h1,h2⟩|⟨m,⟨⟨k0,h1,h2⟩,h3⟩,h4⟩
   ·refine .inl ⟨fun j hj=>?_,h2⟩
    rcases Nat.lt_or_ge j k with h|h
    ·exact h1 j h
    ·rw [show j=k by omega];exact ht
   ·refine .inr ⟨m,⟨⟨k0,⟨by omega,h1.2⟩,h2⟩,fun j hj=>h3 j ⟨?_,hj.2⟩⟩,h4⟩
    rcases Nat.lt_or_ge j k with h|h
    ·exact h
    ·have:=hj.2;rw [show j=k by omega,ht] at this;cases this
  | true =>
   have e:rowR d i tk st (k+1)=if (rowR d i tk st k).1<0∨d k<(rowR d i tk st k).1 then (d k,(i:Int)) else rowR d i tk st k:=by simp [rowR,ht]
   rw [e]
   rcases rowR_law (i:=i) (tk:=tk) (st:=st) hd k with⟨h1,h2⟩|⟨m,⟨⟨k0,h1,h2⟩,h3⟩,h4⟩
   ·refine .inr ⟨d k,⟨⟨k,⟨by omega,ht⟩,rfl⟩,fun j hj=>?_⟩,by rw [h2]⟩
    rcases Nat.lt_or_ge j k with h|h
    ·have:=hj.2;rw [h1 j h] at this;cases this
    ·rw [show j=k by omega];exact Int.le_refl _
   ·have hm0:0≤m:=h2 ▸ hd k0
    rcases Int.lt_or_le (d k) m with hlt|hge
    ·refine .inr ⟨d k,⟨⟨k,⟨by omega,ht⟩,rfl⟩,fun j hj=>?_⟩,?_⟩
     ·rcases Nat.lt_or_ge j k with h|h
      ·have:=h3 j ⟨h,hj.2⟩;omega
      ·rw [show j=k by omega];exact Int.le_refl _
     ·rw [h4]
      by_cases hc:st.1<0∨m<st.1
      ·rw [if_pos hc,if_pos (.inr hlt),if_pos (by omega)]
      ·rw [if_neg hc]
    ·refine .inr ⟨m,⟨⟨k0,⟨by omega,h1.2⟩,h2⟩,fun j hj=>?_⟩,?_⟩
     ·rcases Nat.lt_or_ge j k with h|h
      ·exact h3 j ⟨h,hj.2⟩
      ·rw [show j=k by omega];exact hge
     ·rw [h4]
      by_cases hc:st.1<0∨m<st.1
      ·rw [if_pos hc,if_neg (by dsimp only;omega)]
      ·rw [if_neg hc,if_neg (by omega)]
def scanR (n:Nat) (d:Nat→Nat→Int) (tk:Nat→Bool):Nat→Int × Int
 | 0=>(-1,-1)
 | i+1=>if tk i=true then scanR n d tk i else rowR (d i) i tk (scanR n d tk i) n
def scanP (near:Nat→Int) (tk:Nat→Bool):Nat→Int × Int
 | 0=>(-1,0)
 | i+1=>if tk i=true then scanP near tk i else if (scanP near tk i).1<0∨near i<(scanP near tk i).2 then ((i:Int),near i) else scanP near tk i
theorem scan_law {n:Nat} {d:Nat→Nat→Int} {tk:Nat→Bool} {near:Nat→Int} (hd:∀ i k,0≤d i k) (hn:∀ i,i<n→tk i=false→IsMin (d i) (fun j=>j<n∧tk j=true) (near i)) :
  ∀ i,i≤n→(scanP near tk i=(-1,0)∧scanR n d tk i=(-1,-1)∧∀ j,j<i→tk j=true) ∨
   (∃ q:Nat,q<i∧tk q=false∧scanP near tk i=((q:Int),near q)∧scanR n d tk i=(near q,(q:Int))∧0≤near q∧∀ j,j<i→tk j=false→near q≤near j)
 | 0,_ => .inl ⟨rfl,rfl,fun j h=>by omega⟩
 | i+1,hi=>by
  cases ht:tk i with
  | true =>
   have e1:scanP near tk (i+1)=scanP near tk i:=by simp [scanP,ht]
   have e2:scanR n d tk (i+1)=scanR n d tk i:=by simp [scanR,ht]
   rw [e1,e2]
   rcases scan_law hd hn i (by omega) with⟨h1,h2,h3⟩|⟨q,h1,h2,h3,h4,h5,h6⟩
   ·refine .inl ⟨h1,h2,fun j hj=>?_⟩
    rcases Nat.lt_or_ge j i with h|h
    ·exact h3 j h
    ·rw [show j=i by omega];exact ht
   ·refine .inr ⟨q,by omega,h2,h3,h4,h5,fun j hj hf=>h6 j ?_ hf⟩
    rcases Nat.lt_or_ge j i with h|h
    ·exact h
    ·rw [show j=i by omega,ht] at hf;cases hf
  | false =>
   have hm:=hn i (by omega) ht
   have h0:0≤near i:=by obtain⟨⟨k,_,e⟩,_⟩:=hm;rw [← e];exact hd i k
   have e1:scanP near tk (i+1)=if (scanP near tk i).1<0∨near i<(scanP near tk i).2 then ((i:Int),near i) else scanP near tk i:=by simp [scanP,ht]
   have e2:scanR n d tk (i+1)=if (scanR n d tk i).1<0∨near i<(scanR n d tk i).1 then (near i,(i:Int)) else scanR n d tk i:=by
    simp only [scanR,ht,Bool.false_eq_true,if_false]
    rcases rowR_law (i:=i) (tk:=tk) (st:=scanR n d tk i) (hd i) n with⟨h1,_⟩|⟨m,h1,h2⟩
    ·obtain⟨⟨k,⟨hk,hk2⟩,_⟩,_⟩:=hm
     rw [h1 k hk] at hk2;cases hk2
    ·rw [h2,h1.uniq hm]
   rw [e1,e2]
   rcases scan_law hd hn i (by omega) with⟨h1,h2,h3⟩|⟨q,h1,h2,h3,h4,h5,h6⟩
   ·rw [h1,h2,if_pos (by dsimp only;omega),if_pos (by dsimp only;omega)]
    refine .inr ⟨i,by omega,ht,rfl,rfl,h0,fun j hj hf=>?_⟩
    rcases Nat.lt_or_ge j i with h|h
    ·rw [h3 j h] at hf;cases hf
    ·rw [show j=i by omega];exact Int.le_refl _
   ·rw [h3,h4]
    dsimp only
    by_cases hc:near i<near q
    ·rw [if_pos (.inr hc),if_pos (.inr hc)]
     refine .inr ⟨i,by omega,ht,rfl,rfl,h0,fun j hj hf=>?_⟩
     rcases Nat.lt_or_ge j i with h|h
     ·have:=h6 j h hf;omega
     ·rw [show j=i by omega];exact Int.le_refl _
    ·rw [if_neg (by omega),if_neg (by omega)]
     refine .inr ⟨q,by omega,h2,rfl,rfl,h5,fun j hj hf=>?_⟩
     rcases Nat.lt_or_ge j i with h|h
     ·exact h6 j h hf
     ·rw [show j=i by omega];omega
end Go.Proofs.YtmenjpmikhajfaaGreatDoor
namespace Go.Proofs.YtmenjpmikhajfaaGreatDoor
open Go.RowKit Go.Shelf Go.Proofs
set_option maxRecDepth 100000
set_option maxHeartbeats 1000000

structure Grp (w:World) (A:Option Addr) (n:Nat) (l:List TS):Prop where
 hst:Std w
 hs:Src w 1 A n (l.map TS.val)
 hn:l.length=n
 hb:n≤32
 ok:TsOk w l
 nb:∀ t∈l,t.n≤1000
 sm:∀ t∈l,∀ x∈t.l,x.small
theorem Grp.cls {w0 w:World} {H:List HA} {A:Option Addr} {n:Nat} {l:List TS} (h:Grp w0 A n l) (hw:Cls w0 w H):Grp w A n l :=
 ⟨h.hst.cls hw,⟨h.hs.1,fun q=>⟨(h.hs.2 q).1,(h.hs.2 q).2.old hw⟩⟩,h.hn,h.hb,⟨fun t ht=>src_below (h.ok.src t ht) hw.below,h.ok.len,h.ok.bd⟩,h.nb,h.sm⟩
theorem Grp.get {w:World} {b o n:Nat} {l:List TS} (h:Grp w (some ⟨b,o,none⟩) n l) {k:Nat} (hk:k<n):∃ t,l[k]?=some t∧t∈l∧RdC w b (o+(k:Int).toNat * 1) [.slice t.A t.n t.cap]:=by
 obtain⟨t,ht⟩:∃ t,l[k]?=some t:=⟨_,List.getElem?_eq_getElem (by have:=h.hn;omega)⟩
 refine ⟨t,ht,List.mem_of_getElem? ht,?_⟩
 have h9:=(h.hs.get1 (i:=k) hk (by rw [List.getElem?_map,ht];rfl)).2
 rw [Nat.mul_one] at h9
 rw [off1]
 exact h9
def badS (l:List TS):Bool:=l.any fun t=>badL t.l
def srcE (l:List TS):Int:=if badS l=true then 1 else 0
def ck21 (c:Costs) (l:List TS):Int:=if costE c=0∧badS l=false then 0 else 1
theorem srcs21_spec (A:Option Addr) (n c:Nat) (l:List TS) (w:World) (hg:Grp w A n l):Spec Tryz.prog 73 [.slice A n c] w (fun v R=>v = .int .i64 0∧R=[]):=by
 refine spec_of sg Tryz.func73 rfl rfl rfl ?_
 have hb:=hg.hb
 repeat' (first|refine d1 ?_|refine dd ?_|(show ∀ _:Nat,T _ _ _ _ _;intro _))
 refine T_if rfl (fun h=>?_) (fun h=>?_)
 ·exfalso;simp at h;omega
 repeat' (first|refine d1 ?_|refine dd ?_|(show ∀ _:Nat,T _ _ _ _ _;intro _))
 refine T_loopX (fun k:Nat=>[(10, .int .i64 k)]) (fun _=>[]) (fun k=>k≤n) (fun k=>n - k) 0 (Nat.zero_le _) ?_
 intro k hk
 repeat' (first|refine d1 ?_|refine dd ?_|(show ∀ _:Nat,T _ _ _ _ _;intro _))
 refine T_if rfl (fun h=>?_) (fun h=>?_)
 ·simp only [decide_eq_true_eq] at h
  have hkn:k<n:=by omega
  obtain⟨b,o,rfl⟩:=hg.hs.base (by omega)
  obtain⟨t,ht,htm,hr⟩:=hg.get hkn
  have htb:=hg.nb t htm
  repeat' (first|refine d1 ?_|refine dd ?_|(show ∀ _:Nat,T _ _ _ _ _;intro _))
  refine T_if rfl (fun h1=>?_) (fun h1=>?_)
  ·exfalso;simp at h1;omega
  repeat' (first|refine d1 ?_|refine dd ?_|(show ∀ _:Nat,T _ _ _ _ _;intro _))
  exact T_backX (k+1) (by omega) (by omega)
 ·repeat' (first|refine d1 ?_|refine dd ?_|(show ∀ _:Nat,T _ _ _ _ _;intro _)|(show T _ (.code .ret::_) _ _ _;refine T_retV [] rfl (Hle.refl _) ⟨rfl,rfl⟩))
theorem toks21aa_spec (t:Tok) (ht:t.small) (w:World) (hst:Std w):Spec Tryz.prog 140 [t.val] w (fun v A=>v = .bool (!decide (tokE t=0))∧A=[]):=by
 refine spec_of sg Tryz.func140 rfl rfl rfl ?_
 repeat' (first|(show T _ (.ops _ (⟨_, .box _ _,_,_,_,_⟩::_)::_) _ _ _;refine T_op (OpT.box (cs:=t.cells) rfl rfl rfl rfl rfl rfl rfl (fun _=>?_)))|refine d1 ?_|refine dd ?_|(show T _ (.ops _ (_::_)::_) _ _ _;first|refine T_call rfl rfl rfl rfl rfl (fun w hw=>tokPrg_spec t ht w (hst.cls hw)) ?_|refine T_callC rfl rfl rfl rfl rfl rfl rfl (fun hg w hw=>tokPrg_spec t ht w (hst.cls hw)) ?_)|(show T _ (.run _ _ (_::_) _ _::_) _ _ _;first|refine rc rfl rfl rfl rfl rfl rfl rfl (fun w hw=>tokPrg_spec t ht w (hst.cls hw)) ?_|refine rcG rfl rfl rfl rfl rfl rfl rfl rfl rfl (fun hg w hw=>tokPrg_spec t ht w (hst.cls hw)) ?_)|(show ∀ _:Nat,T _ _ _ _ _;intro _)|(show T _ (.code .ret::_) _ _ _;refine T_retV [] rfl (Hle.none _) ⟨rfl,rfl⟩))
theorem toks21a_spec (A:Option Addr) (n c:Nat) (l:List Tok) (w:World) (hst:Std w) (hs:Src w 6 A n (l.flatMap Tok.cells)) (hn:l.length=n) (hb:n≤9223372036854775807) (hsm:∀ x∈l,x.small) :
  Spec Tryz.prog 139 [.slice A n c] w (fun v R=>v = .bool (badL l)∧R=[]):=by
 refine spec_of sg Tryz.func139 rfl rfl rfl ?_
 repeat' (first|refine d1 ?_|refine dd ?_|(show T _ (.ops _ (_::_)::_) _ _ _;first|refine T_call rfl rfl rfl rfl rfl (fun w hw=>containsFuncT_spec A n c l _ [] [] (fun t => !decide (tokE t=0)) w (rdSrc hs w hw) hn hb (fun x hx w' hb'=>toks21aa_spec x (hsm x hx) w' (hst.below (hw.below.trans (hb'.mono hw.below.size))))) ?_|refine T_callC rfl rfl rfl rfl rfl rfl rfl (fun hg w hw=>containsFuncT_spec A n c l _ [] [] (fun t => !decide (tokE t=0)) w (rdSrc hs w hw) hn hb (fun x hx w' hb'=>toks21aa_spec x (hsm x hx) w' (hst.below (hw.below.trans (hb'.mono hw.below.size))))) ?_)|(show T _ (.run _ _ (_::_) _ _::_) _ _ _;first|refine rc rfl rfl rfl rfl rfl rfl rfl (fun w hw=>containsFuncT_spec A n c l _ [] [] (fun t => !decide (tokE t=0)) w (rdSrc hs w hw) hn hb (fun x hx w' hb'=>toks21aa_spec x (hsm x hx) w' (hst.below (hw.below.trans (hb'.mono hw.below.size))))) ?_|refine rcG rfl rfl rfl rfl rfl rfl rfl rfl rfl (fun hg w hw=>containsFuncT_spec A n c l _ [] [] (fun t => !decide (tokE t=0)) w (rdSrc hs w hw) hn hb (fun x hx w' hb'=>toks21aa_spec x (hsm x hx) w' (hst.below (hw.below.trans (hb'.mono hw.below.size))))) ?_)|(show ∀ _:Nat,T _ _ _ _ _;intro _)|(show T _ (.code .ret::_) _ _ _;refine T_retV [] rfl (Hle.none _) ⟨rfl,rfl⟩))
theorem toks21_spec (A:Option Addr) (n c:Nat) (l:List TS) (w:World) (hg:Grp w A n l):Spec Tryz.prog 68 [.slice A n c] w (fun v R=>v = .int .i64 (srcE l)∧R=[]):=by
 refine spec_of sg Tryz.func68 rfl rfl rfl ?_
 have hb:=hg.hb
 repeat' (first|refine d1 ?_|refine dd ?_|(show T _ (.ops _ (_::_)::_) _ _ _;first|refine T_call rfl rfl rfl rfl rfl (fun w hw=>containsFuncS_spec A n c l _ [] [] (fun t=>badL t.l) w (rdSrc hg.hs w hw) hg.hn (by omega) (fun x hx w' hb'=>toks21a_spec x.A x.n x.cap x.l w' (hg.hst.below (hw.below.trans (hb'.mono hw.below.size))) (src_below (hg.ok.src x hx) (hw.below.trans (hb'.mono hw.below.size))) (hg.ok.len x hx) (hg.ok.bd x hx) (hg.sm x hx))) ?_|refine T_callC rfl rfl rfl rfl rfl rfl rfl (fun hg w hw=>containsFuncS_spec A n c l _ [] [] (fun t=>badL t.l) w (rdSrc hg.hs w hw) hg.hn (by omega) (fun x hx w' hb'=>toks21a_spec x.A x.n x.cap x.l w' (hg.hst.below (hw.below.trans (hb'.mono hw.below.size))) (src_below (hg.ok.src x hx) (hw.below.trans (hb'.mono hw.below.size))) (hg.ok.len x hx) (hg.ok.bd x hx) (hg.sm x hx))) ?_)|(show T _ (.run _ _ (_::_) _ _::_) _ _ _;first|refine rc rfl rfl rfl rfl rfl rfl rfl (fun w hw=>containsFuncS_spec A n c l _ [] [] (fun t=>badL t.l) w (rdSrc hg.hs w hw) hg.hn (by omega) (fun x hx w' hb'=>toks21a_spec x.A x.n x.cap x.l w' (hg.hst.below (hw.below.trans (hb'.mono hw.below.size))) (src_below (hg.ok.src x hx) (hw.below.trans (hb'.mono hw.below.size))) (hg.ok.len x hx) (hg.ok.bd x hx) (hg.sm x hx))) ?_|refine rcG rfl rfl rfl rfl rfl rfl rfl rfl rfl (fun hg w hw=>containsFuncS_spec A n c l _ [] [] (fun t=>badL t.l) w (rdSrc hg.hs w hw) hg.hn (by omega) (fun x hx w' hb'=>toks21a_spec x.A x.n x.cap x.l w' (hg.hst.below (hw.below.trans (hb'.mono hw.below.size))) (src_below (hg.ok.src x hx) (hw.below.trans (hb'.mono hw.below.size))) (hg.ok.len x hx) (hg.ok.bd x hx) (hg.sm x hx))) ?_)|(show ∀ _:Nat,T _ _ _ _ _;intro _))
 refine T_if rfl (fun h=>?_) (fun h=>?_)
 ·repeat' (first|refine d1 ?_|refine dd ?_|(show ∀ _:Nat,T _ _ _ _ _;intro _)|(show T _ (.code .ret::_) _ _ _;refine T_retV [] rfl (Hle.none _) ⟨congrArg (Value.int .i64) (if_pos h).symm,rfl⟩))
 ·repeat' (first|refine d1 ?_|refine dd ?_|(show ∀ _:Nat,T _ _ _ _ _;intro _)|(show T _ (.code .ret::_) _ _ _;refine T_retV [] rfl (Hle.none _) ⟨congrArg (Value.int .i64) (if_neg (by unfold badS;rw [h];decide)).symm,rfl⟩))
theorem check21_spec (c:Costs) (A:Option Addr) (n ca:Nat) (l:List TS) (w:World) (hg:Grp w A n l):Spec Tryz.prog 66 [c.val, .slice A n ca] w (fun v R=>v = .int .i64 (ck21 c l)∧R=[]):=by
 refine spec_of sg Tryz.func66 rfl rfl rfl ?_
 repeat' (first|(show T _ (.ops _ (⟨_, .box _ _,_,_,_,_⟩::_)::_) _ _ _;refine T_op (OpT.box (cs:=c.cells) rfl rfl rfl rfl rfl rfl rfl (fun _=>?_)))|refine d1 ?_|refine dd ?_|(show T _ (.ops _ (_::_)::_) _ _ _;first|refine T_call rfl rfl rfl rfl rfl (fun w hw=>srcs21_spec A n ca l w (hg.cls hw)) ?_|refine T_callC rfl rfl rfl rfl rfl rfl rfl (fun hg w hw=>srcs21_spec A n ca l w (hg.cls hw)) ?_)|(show T _ (.run _ _ (_::_) _ _::_) _ _ _;first|refine rc rfl rfl rfl rfl rfl rfl rfl (fun w hw=>srcs21_spec A n ca l w (hg.cls hw)) ?_|refine rcG rfl rfl rfl rfl rfl rfl rfl rfl rfl (fun hg w hw=>srcs21_spec A n ca l w (hg.cls hw)) ?_)|(show ∀ _:Nat,T _ _ _ _ _;intro _))
 refine T_if rfl (fun h=>by exfalso;simp at h) (fun h=>?_)
 repeat' (first|refine d1 ?_|refine dd ?_|(show T _ (.ops _ (_::_)::_) _ _ _;first|refine T_call rfl rfl rfl rfl rfl (fun w hw=>costPrg_spec c w) ?_|refine T_callC rfl rfl rfl rfl rfl rfl rfl (fun hg w hw=>costPrg_spec c w) ?_)|(show T _ (.run _ _ (_::_) _ _::_) _ _ _;first|refine rc rfl rfl rfl rfl rfl rfl rfl (fun w hw=>costPrg_spec c w) ?_|refine rcG rfl rfl rfl rfl rfl rfl rfl rfl rfl (fun hg w hw=>costPrg_spec c w) ?_)|(show ∀ _:Nat,T _ _ _ _ _;intro _))
 refine T_if rfl (fun h=>?_) (fun h=>?_)
 ·repeat' (first|refine d1 ?_|refine dd ?_|(show ∀ _:Nat,T _ _ _ _ _;intro _)|(show T _ (.code .ret::_) _ _ _;refine T_retV [] rfl (Hle.none _) ⟨congrArg (Value.int .i64) (if_neg (fun h2=>by simp [h2.1] at h)).symm,rfl⟩))
 ·repeat' (first|refine d1 ?_|refine dd ?_|(show T _ (.ops _ (_::_)::_) _ _ _;first|refine T_call rfl rfl rfl rfl rfl (fun w hw=>toks21_spec A n ca l w (hg.cls hw)) ?_|refine T_callC rfl rfl rfl rfl rfl rfl rfl (fun hg w hw=>toks21_spec A n ca l w (hg.cls hw)) ?_)|(show T _ (.run _ _ (_::_) _ _::_) _ _ _;first|refine rc rfl rfl rfl rfl rfl rfl rfl (fun w hw=>toks21_spec A n ca l w (hg.cls hw)) ?_|refine rcG rfl rfl rfl rfl rfl rfl rfl rfl rfl (fun hg w hw=>toks21_spec A n ca l w (hg.cls hw)) ?_)|(show ∀ _:Nat,T _ _ _ _ _;intro _)|(show T _ (.code .ret::_) _ _ _;refine T_retV [] rfl (Hle.none _) ⟨congrArg (Value.int .i64) ?_,rfl⟩))
  have hc:costE c=0:=by simpa using h
  unfold srcE ck21
  cases badS l <;> simp [hc]
theorem source21_spec (A:Option Addr) (n c:Nat) (l:List Tok) (w:World) (hs:Src w 6 A n (l.flatMap Tok.cells)) (hn:l.length=n) (hb:n≤1000) :
  Spec Tryz.prog 71 [.slice A n c] w (fun v R=>v = .int .i64 (if badL l=true then 1 else 0)∧R=[]):=by
 refine spec_of sg Tryz.func71 rfl rfl rfl ?_
 repeat' (first|refine d1 ?_|refine dd ?_|(show ∀ _:Nat,T _ _ _ _ _;intro _))
 refine T_if rfl (fun h=>?_) (fun h=>?_)
 ·exfalso;simp at h;omega
 repeat' (first|refine d1 ?_|refine dd ?_|(show ∀ _:Nat,T _ _ _ _ _;intro _))
 refine T_loopX (fun k:Nat=>[(3, .int .i64 k)]) (fun _=>[]) (fun k=>k≤n∧∀ i x,i<k→l[i]?=some x→tokE x=0) (fun k=>n - k) 0 ⟨Nat.zero_le _,fun i x h=>by omega⟩ ?_
 rintro k ⟨hk,hok⟩
 repeat' (first|refine d1 ?_|refine dd ?_|(show ∀ _:Nat,T _ _ _ _ _;intro _))
 refine T_if rfl (fun h=>?_) (fun h=>?_)
 ·simp only [decide_eq_true_eq] at h
  have hkn:k<n:=by omega
  obtain⟨b,o,rfl⟩:=hs.base (by omega)
  obtain⟨x,hx⟩:∃ x,l[k]?=some x:=⟨_,List.getElem?_eq_getElem (by omega)⟩
  have hr:RdC w b (o+(k:Int).toNat * 6) x.cells:=hs.getT hkn hx
  repeat' (first|refine d1 ?_|refine dd ?_|(show T _ (.ops _ (_::_)::_) _ _ _;first|refine T_call rfl rfl rfl rfl rfl (fun w hw=>tokRef_spec x w) ?_|refine T_callC rfl rfl rfl rfl rfl rfl rfl (fun hg w hw=>tokRef_spec x w) ?_)|(show T _ (.run _ _ (_::_) _ _::_) _ _ _;first|refine rc rfl rfl rfl rfl rfl rfl rfl (fun w hw=>tokRef_spec x w) ?_|refine rcG rfl rfl rfl rfl rfl rfl rfl rfl rfl (fun hg w hw=>tokRef_spec x w) ?_)|(show ∀ _:Nat,T _ _ _ _ _;intro _))
  refine T_if rfl (fun h1=>?_) (fun h1=>?_)
  ·repeat' (first|refine d1 ?_|refine dd ?_|(show ∀ _:Nat,T _ _ _ _ _;intro _)|(show T _ (.code .ret::_) _ _ _;refine T_retV [] rfl (Hle.refl _) ⟨congrArg (Value.int .i64) (if_pos ?_).symm,rfl⟩))
   exact List.any_eq_true.2 ⟨x,List.mem_of_getElem? hx,by simpa using h1⟩
  ·repeat' (first|refine d1 ?_|refine dd ?_|(show ∀ _:Nat,T _ _ _ _ _;intro _))
   refine T_backX (k+1) ⟨by omega,fun i y hi hy=>?_⟩ (by omega)
   rcases Nat.lt_or_ge i k with h2|h2
   ·exact hok i y h2 hy
   ·rw [show i=k by omega,hx] at hy
    cases hy
    simpa using h1
 ·simp only [decide_eq_false_iff_not] at h
  repeat' (first|refine d1 ?_|refine dd ?_|(show ∀ _:Nat,T _ _ _ _ _;intro _)|(show T _ (.code .ret::_) _ _ _;refine T_retV [] rfl (Hle.refl _) ⟨congrArg (Value.int .i64) (if_neg ?_).symm,rfl⟩))
  rw [Bool.not_eq_true]
  refine badL_false.2 fun t ht=>?_
  obtain⟨i,hi,e⟩:=List.getElem_of_mem ht
  exact hok i t (by omega) (by rw [List.getElem?_eq_getElem hi,e])
theorem sources21_spec (A:Option Addr) (n c:Nat) (l:List TS) (w:World) (hg:Grp w A n l):Spec Tryz.prog 203 [.slice A n c] w (fun v R=>v = .int .i64 (srcE l)∧R=[]):=by
 refine spec_of sg Tryz.func203 rfl rfl rfl ?_
 have hb:=hg.hb
 have hn:=hg.hn
 repeat' (first|refine d1 ?_|refine dd ?_|(show ∀ _:Nat,T _ _ _ _ _;intro _))
 refine T_if rfl (fun h=>?_) (fun h=>?_)
 ·exfalso;simp at h;omega
 repeat' (first|refine d1 ?_|refine dd ?_|(show ∀ _:Nat,T _ _ _ _ _;intro _))
 refine T_loopX (fun k:Nat=>[(4, .int .i64 k),(3, .int .i64 (srcE (l.take k)))]) (fun _=>[]) (fun k=>k≤n) (fun k=>n - k) 0 (Nat.zero_le _) ?_
 intro k hk
 repeat' (first|refine d1 ?_|refine dd ?_|(show ∀ _:Nat,T _ _ _ _ _;intro _))
 refine T_if rfl (fun h=>?_) (fun h=>?_)
 ·simp only [decide_eq_true_eq] at h
  have hkn:k<n:=by omega
  obtain⟨b,o,rfl⟩:=hg.hs.base (by omega)
  obtain⟨t,ht,htm,hr⟩:=hg.get hkn
  repeat' (first|refine d1 ?_|refine dd ?_|(show T _ (.ops _ (_::_)::_) _ _ _;first|refine T_call rfl rfl rfl rfl rfl (fun w hw=>source21_spec t.A t.n t.cap t.l w (rdSrc (hg.ok.src t htm) w hw) (hg.ok.len t htm) (hg.nb t htm)) ?_|refine T_callC rfl rfl rfl rfl rfl rfl rfl (fun hg w hw=>source21_spec t.A t.n t.cap t.l w (rdSrc (hg.ok.src t htm) w hw) (hg.ok.len t htm) (hg.nb t htm)) ?_)|(show T _ (.run _ _ (_::_) _ _::_) _ _ _;first|refine rc rfl rfl rfl rfl rfl rfl rfl (fun w hw=>source21_spec t.A t.n t.cap t.l w (rdSrc (hg.ok.src t htm) w hw) (hg.ok.len t htm) (hg.nb t htm)) ?_|refine rcG rfl rfl rfl rfl rfl rfl rfl rfl rfl (fun hg w hw=>source21_spec t.A t.n t.cap t.l w (rdSrc (hg.ok.src t htm) w hw) (hg.ok.len t htm) (hg.nb t htm)) ?_)|(show ∀ _:Nat,T _ _ _ _ _;intro _))
  have e:srcE (l.take (k+1))=if badL t.l=true then 1 else srcE (l.take k):=by
   unfold srcE badS;rw [take_snoc _ _ _ ht,List.any_append,List.any_cons,List.any_nil,Bool.or_false]
   cases badL t.l <;> simp
  cases hbad:badL t.l with
  | true =>
   rw [hbad] at e
   refine T_if rfl (fun h1=>by exfalso;simp at h1) (fun h1=>?_)
   repeat' (first|refine d1 ?_|refine dd ?_|(show ∀ _:Nat,T _ _ _ _ _;intro _))
   refine T_if rfl (fun h2=>?_) (fun h2=>by exfalso;simp at h2)
   repeat' (first|refine d1 ?_|refine dd ?_|(show ∀ _:Nat,T _ _ _ _ _;intro _))
   exact T_backX (k+1) (by omega) (by omega) (hE:=⟨rfl,by rw [e];rfl,trivial⟩)
  | false =>
   rw [hbad] at e
   refine T_if rfl (fun h1=>by exfalso;simp at h1) (fun h1=>?_)
   repeat' (first|refine d1 ?_|refine dd ?_|(show ∀ _:Nat,T _ _ _ _ _;intro _))
   refine T_if rfl (fun h2=>by exfalso;simp at h2) (fun h2=>?_)
   repeat' (first|refine d1 ?_|refine dd ?_|(show ∀ _:Nat,T _ _ _ _ _;intro _))
   exact T_backX (k+1) (by omega) (by omega) (hE:=⟨rfl,by rw [e];rfl,trivial⟩)
 ·simp only [decide_eq_false_iff_not] at h
  obtain rfl:k=n:=by omega
  rw [show l.take k=l from List.take_of_length_le (by omega)]
  repeat' (first|refine d1 ?_|refine dd ?_|(show ∀ _:Nat,T _ _ _ _ _;intro _)|(show T _ (.code .ret::_) _ _ _;refine T_retV [] rfl (Hle.refl _) ⟨rfl,rfl⟩))
theorem check21R_spec (c:Costs) (A:Option Addr) (n ca:Nat) (l:List TS) (w:World) (hg:Grp w A n l):Spec Tryz.prog 144 [c.val, .slice A n ca] w (fun v R=>v = .int .i64 (ck21 c l)∧R=[]):=by
 refine spec_of sg Tryz.func144 rfl rfl rfl ?_
 repeat' (first|(show T _ (.ops _ (⟨_, .box _ _,_,_,_,_⟩::_)::_) _ _ _;refine T_op (OpT.box (cs:=c.cells) rfl rfl rfl rfl rfl rfl rfl (fun _=>?_)))|refine d1 ?_|refine dd ?_|(show T _ (.ops _ (_::_)::_) _ _ _;first|refine T_call rfl rfl rfl rfl rfl (fun w hw=>sources21_spec A n ca l w (hg.cls hw)) ?_|refine T_callC rfl rfl rfl rfl rfl rfl rfl (fun hg w hw=>sources21_spec A n ca l w (hg.cls hw)) ?_|refine T_call rfl rfl rfl rfl rfl (fun w hw=>costRef_spec c w) ?_|refine T_callC rfl rfl rfl rfl rfl rfl rfl (fun hg w hw=>costRef_spec c w) ?_)|(show T _ (.run _ _ (_::_) _ _::_) _ _ _;first|refine rc rfl rfl rfl rfl rfl rfl rfl (fun w hw=>sources21_spec A n ca l w (hg.cls hw)) ?_|refine rcG rfl rfl rfl rfl rfl rfl rfl rfl rfl (fun hg w hw=>sources21_spec A n ca l w (hg.cls hw)) ?_|refine rc rfl rfl rfl rfl rfl rfl rfl (fun w hw=>costRef_spec c w) ?_|refine rcG rfl rfl rfl rfl rfl rfl rfl rfl rfl (fun hg w hw=>costRef_spec c w) ?_)|(show ∀ _:Nat,T _ _ _ _ _;intro _))
 refine T_if rfl (fun h=>?_) (fun h=>?_)
 ·repeat' (first|refine d1 ?_|refine dd ?_|(show ∀ _:Nat,T _ _ _ _ _;intro _)|(show T _ (.code .ret::_) _ _ _;refine T_retV [] rfl (Hle.none _) ⟨congrArg (Value.int .i64) (if_neg (fun h2=>?_)).symm,rfl⟩))
  simp [h2.1] at h
 ·repeat' (first|refine d1 ?_|refine dd ?_|(show ∀ _:Nat,T _ _ _ _ _;intro _)|(show T _ (.code .ret::_) _ _ _;refine T_retV [] rfl (Hle.none _) ⟨congrArg (Value.int .i64) ?_,rfl⟩))
  unfold srcE ck21 at *
  cases hs:badS l <;> simp [hs] at h ⊢
  exact h
noncomputable def great21B (l:List TS):Bool:=l.any (fun t=>decide (5<t.l.length) || greatB t.l) || decide (4<l.length)
theorem great21_spec (A:Option Addr) (n c:Nat) (l:List TS) (w:World) (hs:Src w 1 A n (l.map TS.val)) (hn:l.length=n) (hb:n≤9223372036854775807) (hl:TsOk w l) :
  Spec Tryz.prog 14 [.slice A n c] w (fun v R=>v = .bool (great21B l)∧R=[]):=by
 refine spec_of sg Tryz.func14 rfl rfl rfl ?_
 repeat' (first|refine d1 ?_|refine dd ?_|(show ∀ _:Nat,T _ _ _ _ _;intro _))
 refine T_loopX (fun k:Nat=>[(3, .int .i64 k)]) (fun _=>[]) (fun k=>k≤n∧∀ i x,i<k→l[i]?=some x→(decide (5<x.l.length) || greatB x.l)=false) (fun k=>n - k) 0 ⟨Nat.zero_le _,fun i x h=>by omega⟩ ?_
 rintro k ⟨hk,hok⟩
 repeat' (first|refine d1 ?_|refine dd ?_|(show ∀ _:Nat,T _ _ _ _ _;intro _))
 refine T_if rfl (fun h=>?_) (fun h=>?_)
 ·simp only [decide_eq_true_eq] at h
  have hkn:k<n:=by omega
  obtain⟨b,o,rfl⟩:=hs.base (by omega)
  obtain⟨t,ht⟩:∃ t,l[k]?=some t:=⟨_,List.getElem?_eq_getElem (by omega)⟩
  have htm:=List.mem_of_getElem? ht
  have hr:RdC w b (o+(k:Int).toNat * 1) [.slice t.A t.n t.cap]:=by
   have h9:=(hs.get1 (i:=k) hkn (by rw [List.getElem?_map,ht];rfl)).2
   rw [Nat.mul_one] at h9
   rw [off1]
   exact h9
  have htl:=hl.len t htm
  have htb:=hl.bd t htm
  repeat' (first|refine d1 ?_|refine dd ?_|(show T _ (.ops _ (_::_)::_) _ _ _;first|refine T_call rfl rfl rfl rfl rfl (fun w hw=>great17_spec t.A t.n t.cap t.l w (rdSrc (hl.src t htm) w hw) htl htb) ?_|refine T_callC rfl rfl rfl rfl rfl rfl rfl (fun hg w hw=>great17_spec t.A t.n t.cap t.l w (rdSrc (hl.src t htm) w hw) htl htb) ?_)|(show T _ (.run _ _ (_::_) _ _::_) _ _ _;first|refine rc rfl rfl rfl rfl rfl rfl rfl (fun w hw=>great17_spec t.A t.n t.cap t.l w (rdSrc (hl.src t htm) w hw) htl htb) ?_|refine rcG rfl rfl rfl rfl rfl rfl rfl rfl rfl (fun hg w hw=>great17_spec t.A t.n t.cap t.l w (rdSrc (hl.src t htm) w hw) htl htb) ?_)|(show ∀ _:Nat,T _ _ _ _ _;intro _))
  have e:(decide ((5:Int)<(t.n:Nat)) || greatB t.l)=(decide (5<t.l.length) || greatB t.l):=by
   rw [htl]
   congr 1
   exact decide_eq_decide.2 (by omega)
  refine T_if rfl (fun h1=>?_) (fun h1=>?_)
  ·repeat' (first|refine d1 ?_|refine dd ?_|(show ∀ _:Nat,T _ _ _ _ _;intro _)|(show T _ (.code .ret::_) _ _ _;refine T_retV [] rfl (Hle.refl _) ⟨congrArg Value.bool ?_,rfl⟩))
   unfold great21B
   rw [List.any_eq_true.2 ⟨t,htm,by rw [← e];exact h1⟩]
   rfl
  ·repeat' (first|refine d1 ?_|refine dd ?_|(show ∀ _:Nat,T _ _ _ _ _;intro _))
   refine T_backX (k+1) ⟨by omega,fun i y hi hy=>?_⟩ (by omega)
   rcases Nat.lt_or_ge i k with h2|h2
   ·exact hok i y h2 hy
   ·rw [show i=k by omega,ht] at hy
    cases hy
    rw [← e]
    exact h1
 ·simp only [decide_eq_false_iff_not] at h
  repeat' (first|refine d1 ?_|refine dd ?_|(show ∀ _:Nat,T _ _ _ _ _;intro _)|(show T _ (.code .ret::_) _ _ _;refine T_retV [] rfl (Hle.refl _) ⟨congrArg Value.bool ?_,rfl⟩))
  have e:(l.any fun t=>decide (5<t.l.length) || greatB t.l)=false:=List.any_eq_false.2 fun t ht=>by
   obtain⟨i,hi,e⟩:=List.getElem_of_mem ht
   rw [Bool.not_eq_true]
   exact hok i t (by omega) (by rw [List.getElem?_eq_getElem hi,e])
  unfold great21B
  rw [e,hn,Bool.false_or]
  exact decide_eq_decide.2 (by omega)
theorem Grp.of {w:World} {A:Option Addr} {n:Nat} {l:List TS} (hst:Std w) (hs:Src w 1 A n (l.map TS.val)) (hn:l.length=n) (hl:TsOk w l) (h:great21B l=false):Grp w A n l∧n≤4∧∀ t∈l,t.n≤5:=by
 unfold great21B at h
 rw [Bool.or_eq_false_iff,decide_eq_false_iff_not,List.any_eq_false] at h
 have h5:∀ t∈l,t.n≤5:=fun t ht=>by
  have:=h.1 t ht
  have:=hl.len t ht
  simp at *
  omega
 refine ⟨⟨hst,hs,hn,by omega,hl,fun t ht=>by have:=h5 t ht;omega,fun t ht x hx=>?_⟩,by omega,h5⟩
 have h9:greatB t.l=false:=by
  have:=h.1 t ht
  simp at this
  exact this.2
 exact (longT_small ((greatB_false h9).1 x hx)).1
end Go.Proofs.YtmenjpmikhajfaaGreatDoor
namespace Go.Proofs.YtmenjpmikhajfaaGreatDoor
open Go.RowKit Go.Shelf Go.Proofs
set_option maxRecDepth 100000
set_option maxHeartbeats 1000000

theorem src_int {w:World} {b o n:Nat} {xs:List Int} (hs:Src w 1 (some ⟨b,o,none⟩) n (xs.map (Value.int .i64))) {k:Nat} (hk:k<n) {x:Int} (hx:xs[k]?=some x):RdC w b (o+(k:Int).toNat * 1) [.int .i64 x]:=by
 have h9:=(hs.get1 (i:=k) hk (by rw [List.getElem?_map,hx];rfl)).2
 rw [Nat.mul_one] at h9
 rw [off1]
 exact h9
theorem indexI_spec (A:Option Addr) (n c:Nat) (xs:List Int) (z:Int) (w:World) (hs:Src w 1 A n (xs.map (Value.int .i64))) (hn:xs.length=n) (hb:n≤9223372036854775807) :
  Spec Tryz.prog 214 [.slice A n c, .int .i64 z] w (fun v R=>v = .int .i64 (findI (fun x=>decide (z=x)) xs)∧R=[]):=by
 refine spec_of sg Tryz.func214 rfl rfl rfl ?_
 repeat' (first|refine d1 ?_|refine dd ?_|(show ∀ _:Nat,T _ _ _ _ _;intro _))
 refine T_loopX (fun k:Nat=>[(8, .int .i64 k)]) (fun _=>[]) (fun k=>k≤n∧∀ i x,i<k→xs[i]?=some x→decide (z=x)=false) (fun k=>n - k) 0 ⟨Nat.zero_le _,fun i x h=>by omega⟩ ?_
 rintro k ⟨hk,hok⟩
 repeat' (first|refine d1 ?_|refine dd ?_|(show ∀ _:Nat,T _ _ _ _ _;intro _))
 refine T_if rfl (fun h=>?_) (fun h=>?_)
 ·simp only [decide_eq_true_eq] at h
  have hkn:k<n:=by omega
  obtain⟨b,o,rfl⟩:=hs.base (by omega)
  obtain⟨x,hx⟩:∃ x,xs[k]?=some x:=⟨_,List.getElem?_eq_getElem (by omega)⟩
  have hr:=src_int hs hkn hx
  repeat' (first|refine d1 ?_|refine dd ?_|(show ∀ _:Nat,T _ _ _ _ _;intro _))
  refine T_if rfl (fun h1=>?_) (fun h1=>?_)
  ·repeat' (first|refine d1 ?_|refine dd ?_|(show ∀ _:Nat,T _ _ _ _ _;intro _)|(show T _ (.code .ret::_) _ _ _;refine T_retV [] rfl (Hle.refl _) ⟨congrArg (Value.int .i64) ?_,rfl⟩))
   exact (findI_some hx h1 hok).symm
  ·repeat' (first|refine d1 ?_|refine dd ?_|(show ∀ _:Nat,T _ _ _ _ _;intro _))
   refine T_backX (k+1) ⟨by omega,fun i y hi hy=>?_⟩ (by omega)
   rcases Nat.lt_or_ge i k with h2|h2
   ·exact hok i y h2 hy
   ·rw [show i=k by omega,hx] at hy
    cases hy
    exact h1
 ·simp only [decide_eq_false_iff_not] at h
  repeat' (first|refine d1 ?_|refine dd ?_|(show ∀ _:Nat,T _ _ _ _ _;intro _)|(show T _ (.code .ret::_) _ _ _;refine T_retV [] rfl (Hle.refl _) ⟨congrArg (Value.int .i64) ?_,rfl⟩))
  exact (findI_none (fun i x hi=>hok i x (by have:=(List.getElem?_eq_some_iff.1 hi).1;omega) hi)).symm
theorem containsI_spec (A:Option Addr) (n c:Nat) (xs:List Int) (z:Int) (w:World) (hs:Src w 1 A n (xs.map (Value.int .i64))) (hn:xs.length=n) (hb:n≤9223372036854775807) :
  Spec Tryz.prog 160 [.slice A n c, .int .i64 z] w (fun v R=>v = .bool (xs.any fun x=>decide (z=x))∧R=[]):=by
 refine spec_of sg Tryz.func160 rfl rfl rfl ?_
 repeat' (first|refine d1 ?_|refine dd ?_|(show T _ (.ops _ (_::_)::_) _ _ _;first|refine T_call rfl rfl rfl rfl rfl (fun w hw=>indexI_spec A n c xs z w (rdSrc hs w hw) hn hb) ?_|refine T_callC rfl rfl rfl rfl rfl rfl rfl (fun hg w hw=>indexI_spec A n c xs z w (rdSrc hs w hw) hn hb) ?_)|(show T _ (.run _ _ (_::_) _ _::_) _ _ _;first|refine rc rfl rfl rfl rfl rfl rfl rfl (fun w hw=>indexI_spec A n c xs z w (rdSrc hs w hw) hn hb) ?_|refine rcG rfl rfl rfl rfl rfl rfl rfl rfl rfl (fun hg w hw=>indexI_spec A n c xs z w (rdSrc hs w hw) hn hb) ?_)|(show ∀ _:Nat,T _ _ _ _ _;intro _)|(show T _ (.code .ret::_) _ _ _;refine T_retV [] rfl (Hle.refl _) ⟨congrArg Value.bool ?_,rfl⟩))
 exact findI_any _ xs
def minF (key:Int→Int) (x:Int) (l:List Int):Int:=l.foldl (fun m y=>if key y<key m then y else m) x
theorem minF_snoc (key:Int→Int) (x:Int) (l:List Int) (y:Int):minF key x (l++[y])=if key y<key (minF key x l) then y else minF key x l:=by
 unfold minF;rw [List.foldl_append];rfl
theorem minF_mem (key:Int→Int):∀ (x:Int) (l:List Int),minF key x l∈x::l
 | x,[]=>List.mem_cons_self ..
 | x,y::l=>by
  have e:minF key x (y::l)=minF key (if key y<key x then y else x) l:=rfl
  rw [e]
  split
  ·exact List.mem_cons_of_mem _ (minF_mem key y l)
  ·rcases List.mem_cons.1 (minF_mem key x l) with h|h
   ·rw [h];exact List.mem_cons_self ..
   ·exact List.mem_cons_of_mem _ (List.mem_cons_of_mem _ h)
theorem minFuncI_spec (A:Option Addr) (n c:Nat) (x0:Int) (xs:List Int) (f:FuncId) (fs cs:List Value) (key:Int→Int) (w:World) (hs:Src w 1 A n ((x0::xs).map (Value.int .i64))) (hn:(x0::xs).length=n) (hb:n≤1000000)
  (hf:∀ x∈x0::xs,∀ y∈x0::xs,∀ w',Below w.heap.size w w'→Spec Tryz.prog f (fs++([.int .i64 x, .int .i64 y]++cs)) w' (fun v R=>v = .int .i64 (key x - key y)∧R=[])) :
  Spec Tryz.prog 161 [.slice A n c, .func (.func f) fs.toArray cs.toArray] w (fun v R=>v = .int .i64 (minF key x0 xs)∧R=[]):=by
 refine spec_of sg Tryz.func161 rfl rfl rfl ?_
 simp only [List.length_cons] at hn
 repeat' (first|refine d1 ?_|refine dd ?_|(show ∀ _:Nat,T _ _ _ _ _;intro _))
 refine T_if rfl (fun h=>by exfalso;simp at h;omega) (fun h=>?_)
 obtain⟨b,o,rfl⟩:=hs.base (by omega)
 have hr0:=src_int (k:=0) hs (by omega) rfl
 repeat' (first|refine d1 ?_|refine dd ?_|(show ∀ _:Nat,T _ _ _ _ _;intro _))
 refine T_loopX (fun k:Nat=>[(6, .int .i64 ((k+1:Nat):Int)),(5, .int .i64 (minF key x0 (xs.take k)))]) (fun _=>[]) (fun k=>k+1≤n) (fun k=>n - k) 0 (by omega) ?_
 intro k hk
 repeat' (first|refine d1 ?_|refine dd ?_|(show ∀ _:Nat,T _ _ _ _ _;intro _))
 refine T_if rfl (fun h3=>?_) (fun h3=>?_)
 ·simp only [decide_eq_true_eq] at h3
  have hkn:k+1<n:=by omega
  obtain⟨x,hx⟩:∃ x,xs[k]?=some x:=⟨_,List.getElem?_eq_getElem (by omega)⟩
  have hr:=src_int (k:=k+1) hs hkn (by simpa using hx)
  have hxm:x∈x0::xs:=List.mem_cons_of_mem _ (List.mem_of_getElem? hx)
  have hym:minF key x0 (xs.take k)∈x0::xs:=by
   rcases List.mem_cons.1 (minF_mem key x0 (xs.take k)) with h9|h9
   ·rw [h9];exact List.mem_cons_self ..
   ·exact List.mem_cons_of_mem _ (List.mem_of_mem_take h9)
  have hst:minF key x0 (xs.take (k+1))=if key x<key (minF key x0 (xs.take k)) then x else minF key x0 (xs.take k):=by rw [take_snoc _ _ _ hx,minF_snoc]
  repeat' (first|refine d1 ?_|refine dd ?_|(show T _ (.ops _ (_::_)::_) _ _ _;first|refine T_call rfl rfl rfl rfl rfl (fun w hw=>hf x hxm _ hym w hw.below) ?_|refine T_callC rfl rfl rfl rfl rfl rfl rfl (fun hg w hw=>hf x hxm _ hym w hw.below) ?_)|(show T _ (.run _ _ (_::_) _ _::_) _ _ _;first|refine rc rfl rfl rfl rfl rfl rfl rfl (fun w hw=>hf x hxm _ hym w hw.below) ?_|refine rcG rfl rfl rfl rfl rfl rfl rfl rfl rfl (fun hg w hw=>hf x hxm _ hym w hw.below) ?_)|(show ∀ _:Nat,T _ _ _ _ _;intro _))
  refine T_if rfl (fun h4=>?_) (fun h4=>?_)
  ·simp only [decide_eq_true_eq] at h4
   rw [if_pos (by omega)] at hst
   repeat' (first|refine d1 ?_|refine dd ?_|(show ∀ _:Nat,T _ _ _ _ _;intro _))
   exact T_backX (k+1) (by omega) (by omega) (hE:=⟨rfl,by rw [hst];rfl,trivial⟩)
  ·simp only [decide_eq_false_iff_not] at h4
   rw [if_neg (by omega)] at hst
   repeat' (first|refine d1 ?_|refine dd ?_|(show ∀ _:Nat,T _ _ _ _ _;intro _))
   exact T_backX (k+1) (by omega) (by omega) (hE:=⟨rfl,by rw [hst];rfl,trivial⟩)
 ·simp only [decide_eq_false_iff_not] at h3
  rw [show xs.take k=xs from List.take_of_length_le (by omega)]
  repeat' (first|refine d1 ?_|refine dd ?_|(show ∀ _:Nat,T _ _ _ _ _;intro _)|(show T _ (.code .ret::_) _ _ _;refine T_retV [] rfl (Hle.refl _) ⟨rfl,rfl⟩))
end Go.Proofs.YtmenjpmikhajfaaGreatDoor
namespace Go.Proofs.YtmenjpmikhajfaaGreatDoor

def stp2 (D:Nat→Nat→Int) (fs p:Nat × Nat):Nat × Nat:=if D p.1 p.2<D fs.1 fs.2 then p else fs
def selK (D:Nat→Nat→Int) (i:Nat) (fs:Nat × Nat):Nat→Nat × Nat
 | 0=>fs
 | k+1=>if i<k then stp2 D (selK D i fs k) (i,k) else selK D i fs k
def selI (D:Nat→Nat→Int) (n:Nat):Nat→Nat × Nat
 | 0=>(0,1)
 | i+1=>selK D i (selI D n i) n
theorem selK_low (D:Nat→Nat→Int) (i:Nat) (fs:Nat × Nat):∀ k,k≤i+1→selK D i fs k=fs
 | 0,_=>rfl
 | k+1,h=>by rw [selK,if_neg (by omega)];exact selK_low D i fs k (by omega)
theorem selK_step {D:Nat→Nat→Int} {i k:Nat} {fs:Nat × Nat} (h:i<k):selK D i fs (k+1)=stp2 D (selK D i fs k) (i,k):=if_pos h
def InP (n i k:Nat) (p:Nat × Nat):Prop:=p.1<p.2∧p.2<n∧(p=(0,1)∨p.1<i∨(p.1=i∧p.2<k))
theorem selK_in {D:Nat→Nat→Int} {n i:Nat} {fs:Nat × Nat} (h:InP n i 0 fs):∀ k,k≤n→InP n i k (selK D i fs k)
 | 0,_=>h
 | k+1,hk=>by
  have ih:=selK_in (D:=D) h k (by omega)
  obtain⟨h1,h2,h3⟩:=ih
  by_cases hik:i<k
  ·rw [selK_step hik]
   unfold stp2
   split
   ·exact⟨hik,by dsimp only;omega, .inr (.inr ⟨rfl,by dsimp only;omega⟩)⟩
   ·refine ⟨h1,h2,?_⟩
    rcases h3 with h3|h3|h3
    ·exact .inl h3
    ·exact .inr (.inl h3)
    ·exact .inr (.inr ⟨h3.1,by omega⟩)
  ·rw [selK,if_neg hik]
   refine ⟨h1,h2,?_⟩
   rcases h3 with h3|h3|h3
   ·exact .inl h3
   ·exact .inr (.inl h3)
   ·exact .inr (.inr ⟨h3.1,by omega⟩)
theorem selI_in {D:Nat→Nat→Int} {n:Nat} (h2:2≤n):∀ i,i≤n→InP n i 0 (selI D n i)
 | 0,_=>⟨Nat.zero_lt_one,by show 1<n;omega, .inl rfl⟩
 | i+1,hi=>by
  obtain⟨g1,g2,g3⟩:=selK_in (D:=D) (selI_in (D:=D) h2 i (by omega)) n (Nat.le_refl _)
  show InP n (i+1) 0 (selK D i (selI D n i) n)
  refine ⟨g1,g2,?_⟩
  rcases g3 with g3|g3|g3
  ·exact .inl g3
  ·exact .inr (.inl (by omega))
  ·exact .inr (.inl (by omega))
def tbl (D:Nat→Nat→Int) (i k p q:Nat):Int:=if min p q<i∨(min p q=i∧max p q<k) then D p q else 0
structure Sym (D:Nat→Nat→Int):Prop where
 z:∀ i,D i i=0
 s:∀ i k,D i k=D k i
theorem tbl_zero (D:Nat→Nat→Int) (p q:Nat):tbl D 0 0 p q=0:=if_neg (by omega)
theorem tbl_step {D:Nat→Nat→Int} (hD:Sym D) {i k:Nat} (h:i<k) (p q:Nat):tbl D i (k+1) p q=if p=k∧q=i then D i k else if p=i∧q=k then D i k else tbl D i k p q:=by
 unfold tbl
 by_cases h1:p=k∧q=i
 ·have h4:min p q<i∨(min p q=i∧max p q<k+1):=by omega
  rw [if_pos h1,if_pos h4,h1.1,h1.2,hD.s]
 ·rw [if_neg h1]
  by_cases h2:p=i∧q=k
  ·have h4:min p q<i∨(min p q=i∧max p q<k+1):=by omega
   rw [if_pos h2,if_pos h4,h2.1,h2.2]
  ·rw [if_neg h2]
   by_cases h3:min p q<i∨(min p q=i∧max p q<k)
   ·have h4:min p q<i∨(min p q=i∧max p q<k+1):=by omega
    rw [if_pos h3,if_pos h4]
   ·have h4:¬ (min p q<i∨(min p q=i∧max p q<k+1)):=by omega
    rw [if_neg h3,if_neg h4]
theorem tbl_low {D:Nat→Nat→Int} (hD:Sym D) (i p q:Nat):tbl D i (i+1) p q=tbl D i 0 p q:=by
 unfold tbl
 by_cases h1:p=i∧q=i
 ·obtain⟨rfl,rfl⟩:=h1
  rw [hD.z];split <;> split <;> rfl
 ·by_cases h3:min p q<i
  ·rw [if_pos (.inl h3),if_pos (.inl h3)]
  ·rw [if_neg (by omega),if_neg (by omega)]
theorem tbl_next {D:Nat→Nat→Int} {n:Nat} (i p q:Nat) (hp:p<n) (hq:q<n):tbl D i n p q=tbl D (i+1) 0 p q:=by
 unfold tbl
 by_cases h3:min p q<i∨(min p q=i∧max p q<n)
 ·rw [if_pos h3,if_pos (by omega)]
 ·rw [if_neg h3,if_neg (by omega)]
theorem tbl_all {D:Nat→Nat→Int} {n:Nat} (p q:Nat) (hp:p<n) (hq:q<n):tbl D n 0 p q=D p q:=if_pos (by omega)
theorem tbl_in {D:Nat→Nat→Int} {n i k:Nat} {x:Nat × Nat} (h:i<k) (hx:InP n i (k+1) x):tbl D i (k+1) x.1 x.2=D x.1 x.2:=by
 obtain⟨h1,h2,h3⟩:=hx
 refine if_pos ?_
 rcases h3 with h3|h3|h3
 ·have e1:x.1=0:=by rw [h3]
  have e2:x.2=1:=by rw [h3]
  omega
 ·omega
 ·omega
def tkOf (out:List Nat) (i:Nat):Bool:=out.any fun x=>decide (i=x)
theorem tkOf_iff {out:List Nat} {i:Nat}:tkOf out i=true↔i∈out:=by
 unfold tkOf;rw [List.any_eq_true];simp
theorem tkOf_no {out:List Nat} {i:Nat}:tkOf out i=false↔i ∉ out:=by
 rw [← tkOf_iff,Bool.not_eq_true]
def keyD (D:Nat→Nat→Int) (i:Nat) (x:Int):Int:=D i x.toNat
def minO (D:Nat→Nat→Int) (out:List Nat) (i:Nat):Int:=minF (keyD D i) (out.headD 0:Nat) (out.tail.map fun (x:Nat)=>(x:Int))
def nearV (D:Nat→Nat→Int) (out:List Nat) (i:Nat):Int:=D i (minO D out i).toNat
theorem minF_le (key:Int→Int):∀ (l:List Int) (x:Int),∀ y∈x::l,key (minF key x l)≤key y
 | [],x,y,h=>by
  rw [List.mem_singleton] at h;subst h;exact Int.le_refl _
 | z::l,x,y,h=>by
  have e:minF key x (z::l)=minF key (if key z<key x then z else x) l:=rfl
  rw [e]
  by_cases hlt:key z<key x
  ·rw [if_pos hlt]
   have h0:=minF_le key l z _ (List.mem_cons_self ..)
   rcases List.mem_cons.1 h with h|h
   ·rw [h];omega
   ·rcases List.mem_cons.1 h with h|h
    ·rw [h];omega
    ·exact minF_le key l z y (List.mem_cons_of_mem _ h)
  ·rw [if_neg hlt]
   have h0:=minF_le key l x _ (List.mem_cons_self ..)
   rcases List.mem_cons.1 h with h|h
   ·rw [h];omega
   ·rcases List.mem_cons.1 h with h|h
    ·rw [h];omega
    ·exact minF_le key l x y (List.mem_cons_of_mem _ h)
theorem minO_mem (D:Nat→Nat→Int) {out:List Nat} (h:out≠[]) (i:Nat):∃ q:Nat,q∈out∧minO D out i=(q:Int):=by
 cases out with
 | nil=>exact absurd rfl h
 | cons x l =>
  have:=minF_mem (keyD D i) (x:Nat) (l.map fun (x:Nat)=>(x:Int))
  show ∃ q:Nat,q∈x::l∧minF (keyD D i) (x:Nat) (l.map fun (x:Nat)=>(x:Int))=(q:Int)
  rcases List.mem_cons.1 this with h9|h9
  ·exact⟨x,List.mem_cons_self ..,h9⟩
  ·obtain⟨q,hq,e⟩:=List.mem_map.1 h9
   exact⟨q,List.mem_cons_of_mem _ hq,e.symm⟩
theorem nearV_min (D:Nat→Nat→Int) {out:List Nat} (h:out≠[]) (i:Nat) {n:Nat} (hn:∀ x∈out,x<n):IsMin (D i) (fun j=>j<n∧tkOf out j=true) (nearV D out i):=by
 obtain⟨q,hq,e⟩:=minO_mem D h i
 refine ⟨⟨q,⟨hn q hq,tkOf_iff.2 hq⟩,by unfold nearV;rw [e];rfl⟩,fun k hk=>?_⟩
 have hk2:=tkOf_iff.1 hk.2
 cases out with
 | nil=>exact absurd rfl h
 | cons x l =>
  have:=minF_le (keyD D i) (l.map fun (x:Nat)=>(x:Int)) (x:Nat) (k:Nat) (by
   rcases List.mem_cons.1 hk2 with rfl|h9
   ·exact List.mem_cons_self ..
   ·exact List.mem_cons_of_mem _ (List.mem_map.2 ⟨k,h9,rfl⟩))
  exact this
def nxtO (D:Nat→Nat→Int) (n:Nat) (out:List Nat):Nat:=(scanP (nearV D out) (tkOf out) n).1.toNat
def ordJ (D:Nat→Nat→Int) (n:Nat):Nat→List Nat
 | 0=>[(selI D n n).1,(selI D n n).2]
 | j+1=>ordJ D n j++[nxtO D n (ordJ D n j)]
def orderV (D:Nat→Nat→Int) (n:Nat):List Nat:=if n=0 then [] else if n=1 then [0] else ordJ D n (n - 2)
theorem ordJ_len (D:Nat→Nat→Int) (n:Nat):∀ j,(ordJ D n j).length=j+2
 | 0=>rfl
 | j+1=>by rw [ordJ,List.length_append,ordJ_len D n j];rfl
theorem pigeon:∀ (n:Nat) (l:List Nat),(∀ i,i<n→i∈l)→n≤l.length
 | 0,l,_=>Nat.zero_le _
 | n+1,l,h=>by
  have h1:=pigeon n (l.erase n) (fun i hi=>(List.mem_erase_of_ne (by omega)).2 (h i (by omega)))
  have h2:=List.length_erase_of_mem (h n (by omega))
  have h3:=List.length_pos_of_mem (h n (by omega))
  omega
theorem nxtO_law {D:Nat→Nat→Int} (hD:∀ i k,0≤D i k) {n:Nat} {out:List Nat} (h:out≠[]) (hn:∀ x∈out,x<n) (hl:out.length<n) :
  nxtO D n out<n∧nxtO D n out ∉ out∧scanP (nearV D out) (tkOf out) n=(((nxtO D n out:Nat):Int),nearV D out (nxtO D n out))∧scanR n D (tkOf out) n=(nearV D out (nxtO D n out),((nxtO D n out:Nat):Int))∧0≤nearV D out (nxtO D n out)∧∀ j,j<n→j ∉ out→nearV D out (nxtO D n out)≤nearV D out j:=by
 rcases scan_law (near:=nearV D out) (tk:=tkOf out) hD (fun i _ _=>nearV_min D h i hn) n (Nat.le_refl _) with⟨h1,h2,h3⟩|⟨q,h1,h2,h3,h4,h5,h6⟩
 ·exfalso
  have:=pigeon n out fun i hi=>tkOf_iff.1 (h3 i hi)
  omega
 ·have e:nxtO D n out=q:=by unfold nxtO;rw [h3];rfl
  rw [e]
  exact⟨h1,tkOf_no.1 h2,h3,h4,h5,fun j hj hjo=>h6 j hj (tkOf_no.2 hjo)⟩
theorem ordJ_ok {D:Nat→Nat→Int} (hD:∀ i k,0≤D i k) {n:Nat} (h2:2≤n):∀ j,j+2≤n→(ordJ D n j).Nodup∧∀ x∈ordJ D n j,x<n
 | 0,_=>by
  obtain⟨g1,g2,_⟩:=selI_in (D:=D) h2 n (Nat.le_refl _)
  refine ⟨?_,fun x hx=>?_⟩
  ·show [(selI D n n).1,(selI D n n).2].Nodup
   simp;omega
  ·have hx:x=(selI D n n).1∨x=(selI D n n).2:=by simpa [ordJ] using hx
   omega
 | j+1,hj=>by
  obtain⟨g1,g2⟩:=ordJ_ok hD h2 j (by omega)
  have hne:ordJ D n j≠[]:=fun h=>by have:=ordJ_len D n j;rw [h] at this;simp at this
  obtain⟨q1,q2,_⟩:=nxtO_law hD hne g2 (by rw [ordJ_len];omega)
  refine ⟨?_,fun x hx=>?_⟩
  ·rw [ordJ,List.nodup_append]
   refine ⟨g1,by simp,fun a ha b hb=>?_⟩
   rw [List.mem_singleton] at hb
   subst hb
   exact fun e=>q2 (e ▸ ha)
  ·rw [ordJ,List.mem_append,List.mem_singleton] at hx
   rcases hx with hx|rfl
   ·exact g2 x hx
   ·exact q1
theorem orderV_len (D:Nat→Nat→Int) (n:Nat):(orderV D n).length=n:=by
 unfold orderV
 split
 ·rename_i h;rw [h];rfl
 ·split
  ·rename_i h;rw [h];rfl
  ·rw [ordJ_len];omega
theorem orderV_ok {D:Nat→Nat→Int} (hD:∀ i k,0≤D i k) (n:Nat):(orderV D n).Nodup∧∀ x∈orderV D n,x<n:=by
 unfold orderV
 split
 ·simp
 ·split
  ·simp;omega
  ·exact ordJ_ok hD (by omega) _ (by omega)
end Go.Proofs.YtmenjpmikhajfaaGreatDoor
namespace Go.Proofs.YtmenjpmikhajfaaGreatDoor

structure Dbl (G F:Grd):Prop where
 n:F.n=G.n
 m:F.m=G.m
 p:∀ i k,i<G.n→k<G.m→F.p i k=2 * G.p i k
 g:∀ i,i<G.n→F.g i=2 * G.g i
 h:∀ k,k<G.m→F.h k=2 * G.h k
structure One (G F:Grd) (q:Nat) (z:Int):Prop where
 hq:q≤G.n
 n:F.n=G.n+1
 m:F.m=G.m
 p:∀ i k,i<q→k<G.m→F.p i k=G.p i k
 g:∀ i,i<q→F.g i=G.g i
 z:F.g q=z
 p2:∀ i k,q≤i→i<G.n→k<G.m→F.p (i+1) k=G.p i k
 g2:∀ i,q≤i→i<G.n→F.g (i+1)=G.g i
 h:∀ k,k<G.m→F.h k=G.h k
def rstF (G:Grd):Nat→Nat→Nat→Int
 | 0,_,_=>0
 | f+1,i,k =>
  if i<G.n then
   if k<G.m then min (min (G.p i k+rstF G f (i+1) (k+1)) (G.g i+rstF G f (i+1) k)) (G.h k+rstF G f i (k+1))
   else G.g i+rstF G f (i+1) k
  else if k<G.m then G.h k+rstF G f i (k+1)
  else 0
theorem rstF_eq {G:Grd}:∀ (f i k:Nat),(G.n - i)+(G.m - k)≤f→rstF G f i k=rst G i k
 | 0,i,k,h=>by rw [rst_none (by omega) (by omega)];rfl
 | f+1,i,k,h=>by
  unfold rstF
  by_cases hi:i<G.n
  ·rw [if_pos hi]
   by_cases hk:k<G.m
   ·rw [if_pos hk,rst_both hi hk,rstF_eq f _ _ (by omega),rstF_eq f _ _ (by omega),rstF_eq f _ _ (by omega)]
   ·rw [if_neg hk,rst_fst hi hk,rstF_eq f _ _ (by omega)]
  ·rw [if_neg hi]
   by_cases hk:k<G.m
   ·rw [if_pos hk,rst_snd hi hk,rstF_eq f _ _ (by omega)]
   ·rw [if_neg hk,rst_none hi hk]
def fstK (G:Grd) (f i k:Nat):Option Mv:=(mvs G i k).find? fun x=>decide (x.cost+rstF G f (i+x.fst) (k+x.snd)=rstF G f i k)
theorem fstK_eq {G:Grd} {f i k:Nat} (h:(G.n - i)+(G.m - k)≤f):fstK G f i k=fstM G i k:=by
 unfold fstK fstM
 congr 1
 funext x
 rw [rstF_eq f i k h,rstF_eq f _ _ (by omega)]
 rfl
def alnK (G:Grd) (f:Nat):Nat→Nat→Nat→List (List Int)
 | 0,_,_=>[]
 | g+1,i,k=>match fstK G f i k with
  | some x=>mvCol i k x::alnK G f g (i+x.fst) (k+x.snd)
  | none=>[]
theorem alnK_eq {G:Grd} {f:Nat}:∀ (g i k:Nat),(G.n - i)+(G.m - k)≤f→alnK G f g i k=alnF G g i k
 | 0,_,_,_=>rfl
 | g+1,i,k,h=>by
  unfold alnK alnF
  rw [fstK_eq h]
  cases hx:fstM G i k with
  | none=>rfl
  | some x=>simp only;rw [alnK_eq g _ _ (by omega)]
theorem aln_eval (G:Grd):aln G 0 0=alnK G (G.n+G.m) (G.n+G.m) 0 0:=by
 rw [alnK_eq _ _ _ (by omega)];rfl
end Go.Proofs.YtmenjpmikhajfaaGreatDoor
namespace Go.Proofs.YtmenjpmikhajfaaGreatDoor
open Go.RowKit Go.Shelf Go.Proofs
set_option maxRecDepth 100000
set_option maxHeartbeats 1000000

def entC (c:Costs) (l:List Tok) (z:Int) (t:List Tok) (k:Int):Int :=
 if 0≤z∧0≤k then pairC c (tkA l z.toNat) (tkA t k.toNat) else if 0≤z then gapC c (tkA l z.toNat) else if 0≤k then gapC c (tkA t k.toNat) else 0
theorem entC_bd {c:Costs} (hc:costE c=0) (l:List Tok) (z:Int) (t:List Tok) (k:Int):0≤entC c l z t k∧entC c l z t k≤1000:=by
 obtain⟨c1,c2,c3,c4,c5⟩:=costE_ok hc
 have h1:=pairC_bd hc (tkA l z.toNat) (tkA t k.toNat)
 have h2:=gapC_bd hc (tkA l z.toNat)
 have h3:=gapC_bd hc (tkA t k.toNat)
 unfold entC
 (repeat' split) <;> omega
def putS (c:Costs) (l:List TS) (col:List Int) (t:List Tok) (k:Int) (j:Nat):Int:=(((l.zip col).take j).map fun p=>entC c p.1.l p.2 t k).sum
def putC (c:Costs) (l:List TS) (col:List Int) (t:List Tok) (k:Int):Int:=((l.zip col).map fun p=>entC c p.1.l p.2 t k).sum
theorem putS_succ (c:Costs) {l:List TS} {col:List Int} (t:List Tok) (k:Int) {j:Nat} {s:TS} {z:Int} (h1:l[j]?=some s) (h2:col[j]?=some z):putS c l col t k (j+1)=putS c l col t k j+entC c s.l z t k:=by
 have h:(l.zip col)[j]?=some (s,z):=by rw [List.getElem?_zip_eq_some];exact⟨h1,h2⟩
 unfold putS;rw [take_snoc _ _ _ h,List.map_append,List.sum_append];simp
theorem putS_bd {c:Costs} (hc:costE c=0) (l:List TS) (col:List Int) (t:List Tok) (k:Int):∀ j,0≤putS c l col t k j∧putS c l col t k j≤1000 * (j:Int)
 | 0=>by simp [putS]
 | j+1=>by
  have ih:=putS_bd hc l col t k j
  cases h:(l.zip col)[j]? with
  | none =>
   have hl:(l.zip col).length≤j:=List.getElem?_eq_none_iff.1 h
   have e:putS c l col t k (j+1)=putS c l col t k j:=by unfold putS;rw [List.take_of_length_le hl,List.take_of_length_le (by omega)]
   rw [e];omega
  | some p =>
   obtain⟨h1,h2⟩:=List.getElem?_zip_eq_some.1 h
   have:=entC_bd hc p.1.l p.2 t k
   rw [putS_succ c t k h1 h2];omega
theorem putS_all (c:Costs) {l:List TS} {col:List Int} (t:List Tok) (k:Int) {n:Nat} (h:l.length≤n):putS c l col t k n=putC c l col t k:=by
 unfold putS putC;rw [List.take_of_length_le (by rw [List.length_zip];omega)]
def ColOk (l:List TS) (col:List Int):Prop:=col.length=l.length∧∀ (j:Nat) (z:Int) (s:TS),col[j]?=some z→l[j]?=some s → -1≤z∧z<(s.n:Int)
theorem badS_ok {l:List TS} (h:badS l=false):∀ s∈l,∀ x∈s.l,tokE x=0:=fun s hs=>badL_false.1 (by
 unfold badS at h
 rw [List.any_eq_false] at h
 simpa using h s hs)
theorem tkA_mem2 {l:List Tok} {z:Int} (h0:0≤z) (h1:z<(l.length:Nat)):tkA l z.toNat∈l:=List.mem_of_getElem? (tkA_get (l:=l) (i:=z.toNat) (by omega))
theorem put21_spec (c:Costs) (A Ac At:Option Addr) (n ca cc m ct:Nat) (l:List TS) (col:List Int) (t:List Tok) (k:Int) (w:World) (hg:Grp w A n l) (hc:costE c=0) (hbs:badS l=false)
  (hcs:Src w 1 Ac n (col.map (Value.int .i64))) (hco:ColOk l col) (hts:Src w 6 At m (t.flatMap Tok.cells)) (htl:t.length=m) (hm:m≤1000) (hte:∀ x∈t,tokE x=0) (hk : -1≤k∧k<(m:Int)) :
  Spec Tryz.prog 72 [c.val, .slice A n ca, .slice Ac n cc, .slice At m ct, .int .i64 k] w (fun v R=>v = .int .i64 (putC c l col t k)∧R=[]):=by
 refine spec_of sg Tryz.func72 rfl rfl rfl ?_
 refine T_op (OpT.box (cs:=c.cells) rfl rfl rfl rfl rfl rfl rfl (fun pc=>?_))
 have hb:=hg.hb
 have hn:=hg.hn
 repeat' (first|refine d1 ?_|refine dd ?_|(show ∀ _:Nat,T _ _ _ _ _;intro _))
 refine T_loopX (fun j:Nat=>[(12, .int .i64 j),(11, .int .i64 (putS c l col t k j))]) (fun _=>[blk pc c.cells 23]) (fun j=>j≤n) (fun j=>n - j) 0 (Nat.zero_le _) ?_
 intro j hj
 repeat' (first|refine d1 ?_|refine dd ?_|(show ∀ _:Nat,T _ _ _ _ _;intro _))
 refine T_if rfl (fun h=>?_) (fun h=>?_)
 ·simp only [decide_eq_true_eq] at h
  have hjn:j<n:=by omega
  obtain⟨b,o,rfl⟩:=hg.hs.base (by omega)
  obtain⟨b1,o1,rfl⟩:=hcs.base (by omega)
  obtain⟨s,hs,hsm,hr⟩:=hg.get hjn
  obtain⟨z,hz⟩:∃ z,col[j]?=some z:=⟨_,List.getElem?_eq_getElem (by have:=hco.1;omega)⟩
  have hr1:=src_int hcs hjn hz
  obtain⟨hz1,hz2⟩:=hco.2 j z s hz hs
  have hsl:=hg.ok.len s hsm
  have hsn:=hg.nb s hsm
  have hput:=putS_succ c t k hs hz
  have hbd:=putS_bd hc l col t k j
  have hbe:=entC_bd hc s.l z t k
  have hcls:∀ x∈s.l,tokE x=0:=badS_ok hbs s hsm
  repeat' (first|refine d1 ?_|refine dd ?_|(show ∀ _:Nat,T _ _ _ _ _;intro _))
  refine T_if rfl (fun h1=>?_) (fun h1=>?_)
  ·have h2:0≤z∧0≤k:=by simpa using h1
   obtain⟨b2,o2,hsA⟩:=(hg.ok.src s hsm).base (by omega)
   obtain⟨b3,o3,rfl⟩:=hts.base (by omega)
   have hsr:RdC w b2 (o2+z.toNat * 6) (tkA s.l z.toNat).cells:=(hsA ▸ hg.ok.src s hsm:Src w 6 (some ⟨b2,o2,none⟩) s.n (s.l.flatMap Tok.cells)).getT (k:=z.toNat) (by omega) (tkA_get (by omega))
   have htr:RdC w b3 (o3+k.toNat * 6) (tkA t k.toNat).cells:=hts.getT (k:=k.toNat) (by omega) (tkA_get (by omega))
   have e1:pairV c (tkA s.l z.toNat) (tkA t k.toNat)=(entC c s.l z t k,0):=by
    unfold entC;rw [if_pos h2];exact if_pos ⟨hc,hcls _ (tkA_mem2 h2.1 (by omega)),hte _ (tkA_mem2 h2.2 (by omega))⟩
   rw [hsA] at hr
   repeat' (first|refine d1 ?_|refine dd ?_|(show T _ (.ops _ (_::_)::_) _ _ _;first|refine T_call rfl rfl rfl rfl rfl (fun w hw=>pairTopRef_spec c (tkA s.l z.toNat) (tkA t k.toNat) w) ?_|refine T_callC rfl rfl rfl rfl rfl rfl rfl (fun hg w hw=>pairTopRef_spec c (tkA s.l z.toNat) (tkA t k.toNat) w) ?_)|(show T _ (.run _ _ (_::_) _ _::_) _ _ _;first|refine rc rfl rfl rfl rfl rfl rfl rfl (fun w hw=>pairTopRef_spec c (tkA s.l z.toNat) (tkA t k.toNat) w) ?_|refine rcG rfl rfl rfl rfl rfl rfl rfl rfl rfl (fun hg w hw=>pairTopRef_spec c (tkA s.l z.toNat) (tkA t k.toNat) w) ?_)|(show ∀ _:Nat,T _ _ _ _ _;intro _))
   rw [e1]
   repeat' (first|refine d1 ?_|refine dd ?_|(show ∀ _:Nat,T _ _ _ _ _;intro _))
   exact T_backX (j+1) (by omega) (by omega) (hE:=⟨rfl,by rw [hput];rfl,trivial⟩)
  ·have h2:¬ (0≤z∧0≤k):=fun h9=>by simp [h9.1,h9.2] at h1
   repeat' (first|refine d1 ?_|refine dd ?_|(show ∀ _:Nat,T _ _ _ _ _;intro _))
   refine T_if rfl (fun h3=>?_) (fun h3=>?_)
   ·simp only [decide_eq_true_eq] at h3
    obtain⟨b2,o2,hsA⟩:=(hg.ok.src s hsm).base (by omega)
    have hsr:RdC w b2 (o2+z.toNat * 6) (tkA s.l z.toNat).cells:=(hsA ▸ hg.ok.src s hsm:Src w 6 (some ⟨b2,o2,none⟩) s.n (s.l.flatMap Tok.cells)).getT (k:=z.toNat) (by omega) (tkA_get (by omega))
    have e1:gapV c (tkA s.l z.toNat)=(entC c s.l z t k,0):=by
     unfold entC;rw [if_neg h2,if_pos h3];exact if_pos ⟨hc,hcls _ (tkA_mem2 h3 (by omega))⟩
    rw [hsA] at hr
    repeat' (first|refine d1 ?_|refine dd ?_|(show T _ (.ops _ (_::_)::_) _ _ _;first|refine T_call rfl rfl rfl rfl rfl (fun w hw=>gapTopRef_spec c (tkA s.l z.toNat) w) ?_|refine T_callC rfl rfl rfl rfl rfl rfl rfl (fun hg w hw=>gapTopRef_spec c (tkA s.l z.toNat) w) ?_)|(show T _ (.run _ _ (_::_) _ _::_) _ _ _;first|refine rc rfl rfl rfl rfl rfl rfl rfl (fun w hw=>gapTopRef_spec c (tkA s.l z.toNat) w) ?_|refine rcG rfl rfl rfl rfl rfl rfl rfl rfl rfl (fun hg w hw=>gapTopRef_spec c (tkA s.l z.toNat) w) ?_)|(show ∀ _:Nat,T _ _ _ _ _;intro _))
    rw [e1]
    repeat' (first|refine d1 ?_|refine dd ?_|(show ∀ _:Nat,T _ _ _ _ _;intro _))
    exact T_backX (j+1) (by omega) (by omega) (hE:=⟨rfl,by rw [hput];rfl,trivial⟩)
   ·simp only [decide_eq_false_iff_not] at h3
    repeat' (first|refine d1 ?_|refine dd ?_|(show ∀ _:Nat,T _ _ _ _ _;intro _))
    refine T_if rfl (fun h4=>?_) (fun h4=>?_)
    ·simp only [decide_eq_true_eq] at h4
     obtain⟨b3,o3,rfl⟩:=hts.base (by omega)
     have htr:RdC w b3 (o3+k.toNat * 6) (tkA t k.toNat).cells:=hts.getT (k:=k.toNat) (by omega) (tkA_get (by omega))
     have e1:gapV c (tkA t k.toNat)=(entC c s.l z t k,0):=by
      unfold entC;rw [if_neg h2,if_neg h3,if_pos h4];exact if_pos ⟨hc,hte _ (tkA_mem2 h4 (by omega))⟩
     repeat' (first|refine d1 ?_|refine dd ?_|(show T _ (.ops _ (_::_)::_) _ _ _;first|refine T_call rfl rfl rfl rfl rfl (fun w hw=>gapTopRef_spec c (tkA t k.toNat) w) ?_|refine T_callC rfl rfl rfl rfl rfl rfl rfl (fun hg w hw=>gapTopRef_spec c (tkA t k.toNat) w) ?_)|(show T _ (.run _ _ (_::_) _ _::_) _ _ _;first|refine rc rfl rfl rfl rfl rfl rfl rfl (fun w hw=>gapTopRef_spec c (tkA t k.toNat) w) ?_|refine rcG rfl rfl rfl rfl rfl rfl rfl rfl rfl (fun hg w hw=>gapTopRef_spec c (tkA t k.toNat) w) ?_)|(show ∀ _:Nat,T _ _ _ _ _;intro _))
     rw [e1]
     repeat' (first|refine d1 ?_|refine dd ?_|(show ∀ _:Nat,T _ _ _ _ _;intro _))
     exact T_backX (j+1) (by omega) (by omega) (hE:=⟨rfl,by rw [hput];rfl,trivial⟩)
    ·simp only [decide_eq_false_iff_not] at h4
     have e1:entC c s.l z t k=0:=by unfold entC;rw [if_neg h2,if_neg h3,if_neg h4]
     rw [e1] at hput
     repeat' (first|refine d1 ?_|refine dd ?_|(show ∀ _:Nat,T _ _ _ _ _;intro _))
     exact T_backX (j+1) (by omega) (by omega) (hE:=⟨rfl,by rw [hput];rfl,trivial⟩)
 ·simp only [decide_eq_false_iff_not] at h
  rw [putS_all c t k (by omega)]
  repeat' (first|refine d1 ?_|refine dd ?_|(show ∀ _:Nat,T _ _ _ _ _;intro _)|(show T _ (.code .ret::_) _ _ _;refine T_retV [] rfl (Hle.none _) ⟨rfl,rfl⟩))
end Go.Proofs.YtmenjpmikhajfaaGreatDoor
namespace Go.Proofs.YtmenjpmikhajfaaGreatDoor
open Go.RowKit Go.Shelf Go.Proofs

def bst (best x:Int):Int:=if best<0∨x<best then x else best
def noneC (n:Nat):List Int:=List.replicate n (-1)
def grdA (c:Costs) (l:List TS) (cols:List (List Int)) (t:List Tok):Grd :=
 ⟨cols.length,t.length,fun i k=>putC c l (cols.getD i []) t (k:Nat),fun i=>putC c l (cols.getD i []) t (-1),fun k=>putC c l (noneC l.length) t (k:Nat)⟩
theorem putC_bd {c:Costs} (hc:costE c=0) (l:List TS) (col:List Int) (t:List Tok) (k:Int):0≤putC c l col t k∧putC c l col t k≤1000 * (l.length:Int):=by
 rw [← putS_all c (l:=l) (col:=col) t k (Nat.le_refl _)]
 exact putS_bd hc l col t k l.length
theorem grdA_ok {c:Costs} (hc:costE c=0) (l:List TS) (cols:List (List Int)) (t:List Tok):GOk (grdA c l cols t) (1000 * (l.length:Int)) :=
 ⟨fun i k=>putC_bd hc l _ t _,fun i=>putC_bd hc l _ t _,fun k=>putC_bd hc l _ t _⟩
def colM (n:Nat) (cols:List (List Int)) (i k:Nat) (v:Mv):List Int:=(if v.fst=1 then cols.getD i [] else noneC n)++[if v.snd=1 then (k:Int) else -1]
def colA (n:Nat) (cols:List (List Int)) (r:List Int):List Int:=(if r.headD 0<0 then noneC n else cols.getD (r.headD 0).toNat [])++[r.getD 1 0]
theorem colA_mv (n:Nat) (cols:List (List Int)) (i k:Nat) (v:Mv):colA n cols (mvCol i k v)=colM n cols i k v:=by
 unfold colA colM mvCol
 by_cases h:v.fst=1
 ·simp [h];intro h9;omega
 ·simp [h]
def addV (c:Costs) (l:List TS) (cols:List (List Int)) (t:List Tok) (i k:Nat):List (List Int):=(aln (grdA c l cols t) i k).map (colA l.length cols)
theorem addV_step {c:Costs} {l:List TS} {cols:List (List Int)} {t:List Tok} {i k:Nat} {x:Mv} (h:fstM (grdA c l cols t) i k=some x):addV c l cols t i k=colM l.length cols i k x::addV c l cols t (i+x.fst) (k+x.snd):=by
 unfold addV;rw [aln_step h,List.map_cons,colA_mv]
theorem addV_end {c:Costs} {l:List TS} {cols:List (List Int)} {t:List Tok} {i k:Nat} (h:¬ (i<cols.length∨k<t.length)):addV c l cols t i k=[]:=by
 unfold addV;rw [aln_end (by exact h)];rfl
theorem addV_len (c:Costs) (l:List TS) (cols:List (List Int)) (t:List Tok):(addV c l cols t 0 0).length≤cols.length+t.length:=by
 unfold addV;rw [List.length_map];exact aln_len _ 0 0
def srcC (cols:List (List Int)) (s:Nat):List Int:=(cols.map fun x=>x.getD s (-1)).filter fun z=>decide (z ≠ -1)
def upto (n:Nat):List Int:=(List.range n).map fun (x:Nat)=>(x:Int)
theorem upto_len (n:Nat):(upto n).length=n:=by simp [upto]
theorem upto_get {n i:Nat} (h:i<n):(upto n)[i]?=some (i:Int):=by unfold upto;rw [List.getElem?_map,List.getElem?_range h];rfl
theorem upto_succ (n:Nat):upto (n+1)=upto n++[(n:Int)]:=by unfold upto;rw [List.range_succ,List.map_append];rfl
theorem upto_mem {n:Nat} {z:Int}:z∈upto n↔0≤z∧z<(n:Int):=by
 unfold upto
 rw [List.mem_map]
 constructor
 ·rintro⟨a,ha,rfl⟩
  rw [List.mem_range] at ha
  omega
 ·rintro⟨h1,h2⟩
  exact⟨z.toNat,List.mem_range.2 (by omega),by omega⟩
structure ColsOk (ls:List Nat) (cols:List (List Int)):Prop where
 len:∀ x∈cols,x.length=ls.length
 some_:∀ x∈cols,∃ z∈x,z ≠ -1
 src:∀ s n,ls[s]?=some n→srcC cols s=upto n
theorem srcC_app (a b:List (List Int)) (s:Nat):srcC (a++b) s=srcC a s++srcC b s:=by unfold srcC;rw [List.map_append,List.filter_append]
theorem srcC_cons (x:List Int) (b:List (List Int)) (s:Nat):srcC (x::b) s=(if x.getD s (-1) = -1 then [] else [x.getD s (-1)])++srcC b s:=by
 unfold srcC
 rw [List.map_cons,List.filter_cons]
 by_cases h:x.getD s (-1) = -1
 ·rw [if_pos h,h];simp
 ·rw [if_neg h,if_pos (by simpa using h)];rfl
theorem srcC_mem {cols:List (List Int)} {s:Nat} {x:List Int} {z:Int} (hx:x∈cols) (hz:x[s]?=some z) (h:z ≠ -1):z∈srcC cols s:=by
 unfold srcC
 rw [List.mem_filter]
 refine ⟨List.mem_map.2 ⟨x,hx,?_⟩,by simpa using h⟩
 rw [List.getD_eq_getElem?_getD,hz];rfl
theorem ColsOk.entry {ls:List Nat} {cols:List (List Int)} (h:ColsOk ls cols) {x:List Int} (hx:x∈cols) {s n:Nat} {z:Int} (hs:ls[s]?=some n) (hz:x[s]?=some z) : -1≤z∧z<(n:Int):=by
 by_cases h1:z = -1
 ·subst h1;omega
 ·have:=srcC_mem hx hz h1
  rw [h.src s n hs,upto_mem] at this
  omega
theorem ColsOk.colOk {l:List TS} {cols:List (List Int)} (h:ColsOk (l.map fun t=>t.n) cols) {x:List Int} (hx:x∈cols):ColOk l x:=by
 refine ⟨by rw [h.len x hx,List.length_map],fun j z s hz hs=>?_⟩
 exact h.entry hx (s:=j) (by rw [List.getElem?_map,hs];rfl) hz
theorem noneC_ok (l:List TS):ColOk l (noneC l.length):=by
 refine ⟨by simp [noneC],fun j z s hz hs=>?_⟩
 unfold noneC at hz
 rw [List.getElem?_replicate] at hz
 split at hz
 ·cases hz;omega
 ·cases hz
theorem ColsOk.nil:ColsOk [] []:=⟨fun x h=>(by cases h),fun x h=>(by cases h),fun s n h=>(by simp at h)⟩
theorem srcC_drop {cols:List (List Int)} {i:Nat} (h:i<cols.length) (s:Nat):srcC (cols.drop i) s=(if (cols.getD i []).getD s (-1) = -1 then [] else [(cols.getD i []).getD s (-1)])++srcC (cols.drop (i+1)) s:=by
 have e:cols.getD i []=cols[i]:=by rw [List.getD_eq_getElem?_getD,List.getElem?_eq_getElem h];rfl
 rw [List.drop_eq_getElem_cons h,srcC_cons,e]
theorem addV_rest {c:Costs} {l:List TS} {cols:List (List Int)} {t:List Tok} (hlen:∀ x∈cols,x.length=l.length):∀ i k,i≤cols.length→k≤t.length →
  (∀ s,s<l.length→srcC (addV c l cols t i k) s=srcC (cols.drop i) s)∧srcC (addV c l cols t i k) l.length=(upto t.length).drop k:=by
 refine grd_ind (grdA c l cols t) fun i k h1 h2 h3 hi hk=>?_
 have e1:(grdA c l cols t).n=cols.length:=rfl
 have e2:(grdA c l cols t).m=t.length:=rfl
 have hr:∀ i,i<cols.length→(cols.getD i []).length=l.length:=fun i h=>by
  rw [List.getD_eq_getElem?_getD,List.getElem?_eq_getElem h];exact hlen _ (List.getElem_mem h)
 have hlow:∀ i s (z:Int),i<cols.length→s<l.length→(cols.getD i []++[z]).getD s (-1)=(cols.getD i []).getD s (-1):=fun i s z h h9=>by
  rw [List.getD_eq_getElem?_getD,List.getElem?_append_left (by rw [hr i h];exact h9), ← List.getD_eq_getElem?_getD]
 have hlast:∀ (a:List Int) (z:Int),a.length=l.length→(a++[z]).getD l.length (-1)=z:=fun a z h=>by
  rw [List.getD_eq_getElem?_getD,List.getElem?_append_right (by omega),h,Nat.sub_self];rfl
 have hnl:(noneC l.length).length=l.length:=by simp [noneC]
 have hnone:∀ s (z:Int),s<l.length→(noneC l.length++[z]).getD s (-1) = -1:=fun s z h=>by
  rw [List.getD_eq_getElem?_getD,List.getElem?_append_left (by rw [hnl];exact h)]
  unfold noneC;rw [List.getElem?_replicate,if_pos h];rfl
 have hd:k<t.length→(upto t.length).drop k=(k:Int)::(upto t.length).drop (k+1):=fun h=>by
  have hg:(upto t.length)[k]'(by rw [upto_len];exact h)=(k:Int):=by
   have:=upto_get h
   rw [List.getElem?_eq_getElem (by rw [upto_len];exact h)] at this
   exact Option.some.inj this
  rw [List.drop_eq_getElem_cons (by rw [upto_len];exact h),hg]
 by_cases he:i<cols.length∨k<t.length
 ·obtain⟨x,hx⟩:=fstM_ex (G:=grdA c l cols t) (i:=i) (k:=k) he
  rw [addV_step hx]
  rcases mvs_form (fstM_mem hx).1 with⟨rfl,f1,f2⟩|⟨rfl,f1⟩|⟨rfl,f1⟩
  ·obtain⟨g1,g2⟩:=h3 f1 f2 (by omega) (by omega)
   have f1':i<cols.length:=f1
   have f2':k<t.length:=f2
   refine ⟨fun s hs=>?_,?_⟩
   ·rw [srcC_cons]
    simp only [colM,if_true]
    rw [hlow i s _ f1' hs,g1 s hs,srcC_drop f1' s]
   ·rw [srcC_cons]
    simp only [colM,if_true]
    rw [hlast _ _ (hr i f1'),g2,if_neg (by omega),hd f2'];rfl
  ·obtain⟨g1,g2⟩:=h1 f1 (by omega) hk
   have f1':i<cols.length:=f1
   refine ⟨fun s hs=>?_,?_⟩
   ·rw [srcC_cons]
    simp only [colM,if_true,Nat.add_zero]
    rw [hlow i s _ f1' hs,g1 s hs,srcC_drop f1' s]
   ·rw [srcC_cons]
    simp only [colM,if_true,Nat.add_zero,show ¬ (0:Nat)=1 by omega,if_false]
    rw [hlast _ _ (hr i f1'),if_pos rfl,g2];rfl
  ·obtain⟨g1,g2⟩:=h2 f1 hi (by omega)
   have f1':k<t.length:=f1
   refine ⟨fun s hs=>?_,?_⟩
   ·rw [srcC_cons]
    simp only [colM,show ¬ (0:Nat)=1 by omega,if_false,Nat.add_zero]
    rw [hnone s _ hs,if_pos rfl,g1 s hs];rfl
   ·rw [srcC_cons]
    simp only [colM,show ¬ (0:Nat)=1 by omega,if_false,if_true,Nat.add_zero]
    rw [hlast _ _ hnl,g2,if_neg (by omega),hd f1'];rfl
 ·rw [addV_end he]
  have hi2:i=cols.length:=by omega
  have hk2:k=t.length:=by omega
  refine ⟨fun s hs=>?_,?_⟩
  ·rw [List.drop_of_length_le (by omega)]
  ·rw [List.drop_of_length_le (by rw [upto_len];omega)];rfl
theorem addV_all {c:Costs} {l:List TS} {cols:List (List Int)} {t:List Tok} {P:List Int→Prop} (h10:∀ x∈cols,∀ z:Int,P (x++[z])) (h01:∀ k:Nat,P (noneC l.length++[(k:Int)])):∀ i k,∀ x∈addV c l cols t i k,P x:=by
 refine grd_ind (grdA c l cols t) fun i k h1 h2 h3 x hx=>?_
 by_cases he:i<cols.length∨k<t.length
 ·obtain⟨y,hy⟩:=fstM_ex (G:=grdA c l cols t) (i:=i) (k:=k) he
  rw [addV_step hy] at hx
  have hc:∀ i,i<cols.length→cols.getD i []∈cols:=fun i h=>by rw [List.getD_eq_getElem?_getD,List.getElem?_eq_getElem h];exact List.getElem_mem h
  rcases mvs_form (fstM_mem hy).1 with⟨rfl,f1,f2⟩|⟨rfl,f1⟩|⟨rfl,f1⟩
  ·rcases List.mem_cons.1 hx with rfl|hx
   ·simp only [colM,if_true];exact h10 _ (hc i f1) _
   ·exact h3 f1 f2 x hx
  ·rcases List.mem_cons.1 hx with rfl|hx
   ·simp only [colM,if_true];exact h10 _ (hc i f1) _
   ·exact h1 f1 x hx
  ·rcases List.mem_cons.1 hx with rfl|hx
   ·simp only [colM,show ¬ (0:Nat)=1 by omega,if_false,if_true];exact h01 k
   ·exact h2 f1 x hx
 ·rw [addV_end he] at hx;cases hx
theorem addV_ok {c:Costs} {l:List TS} {cols:List (List Int)} {t:List Tok} {ls:List Nat} (hl:ls.length=l.length) (h:ColsOk ls cols):ColsOk (ls++[t.length]) (addV c l cols t 0 0):=by
 have hlen:∀ x∈cols,x.length=l.length:=fun x hx=>by rw [h.len x hx,hl]
 obtain⟨r1,r2⟩:=addV_rest (c:=c) (t:=t) hlen 0 0 (Nat.zero_le _) (Nat.zero_le _)
 refine ⟨?_,?_,fun s n hs=>?_⟩
 ·refine addV_all (P:=fun x=>x.length=(ls++[t.length]).length) (fun x hx z=>?_) (fun k=>?_) 0 0
  ·rw [List.length_append,List.length_append,h.len x hx];rfl
  ·rw [List.length_append,List.length_append,hl];simp [noneC]
 ·refine addV_all (P:=fun x=>∃ z∈x,z ≠ -1) (fun x hx z=>?_) (fun k=>?_) 0 0
  ·obtain⟨y,hy,hy2⟩:=h.some_ x hx
   exact⟨y,List.mem_append_left _ hy,hy2⟩
  ·exact⟨k,List.mem_append_right _ (List.mem_singleton.2 rfl),by omega⟩
 ·rcases Nat.lt_or_ge s ls.length with h1|h1
  ·rw [List.getElem?_append_left h1] at hs
   rw [r1 s (by omega),List.drop_zero,h.src s n hs]
  ·rw [List.getElem?_append_right h1] at hs
   have h2:s - ls.length=0:=by have:=(List.getElem?_eq_some_iff.1 hs).1;simp at this;omega
   rw [h2] at hs
   simp only [List.getElem?_cons_zero,Option.some.injEq] at hs
   rw [show s=l.length by omega,r2,List.drop_zero,hs]
end Go.Proofs.YtmenjpmikhajfaaGreatDoor
namespace Go.Proofs.YtmenjpmikhajfaaGreatDoor

theorem col2 {c:Costs} (hc:costE c=0) (x y:Tok) (p q:Bool) (hx:p=true→tokE x=0) (hy:q=true→tokE y=0) :
  columnV c [x,y] [p,q]=(if p=true∧q=true then pairC c x y else if p=true then gapC c x else if q=true then gapC c y else 0,0):=by
 have hb:badCol [x,y] [p,q]=false:=by
  cases hbad:badCol [x,y] [p,q] with
  | false=>rfl
  | true =>
   unfold badCol at hbad
   rw [List.any_eq_true] at hbad
   obtain⟨j,hj,h⟩:=hbad
   have hj2:j<2:=by simpa using hj
   have h01:j=0∨j=1:=by omega
   rcases h01 with rfl|rfl
   ·have h1:p=true∧¬ tokE x=0:=by simpa [thA,tkA] using h
    exact absurd (hx h1.1) h1.2
   ·have h1:q=true∧¬ tokE y=0:=by simpa [thA,tkA] using h
    exact absurd (hy h1.1) h1.2
 unfold columnV
 rw [if_neg (by simp [hc]),if_neg (by simp),if_neg (by simp),hb,if_neg (by simp)]
 have e:psum (cellC c [x,y] [p,q]) (pairsL [x,y].length)=0+cellC c [x,y] [p,q] 0 1:=rfl
 rw [e,Int.zero_add]
 unfold cellC
 have e0:tkA [x,y] 0=x:=rfl
 have e1:tkA [x,y] 1=y:=rfl
 have t0:thA [p,q] 0=p:=rfl
 have t1:thA [p,q] 1=q:=rfl
 rw [e0,e1,t0,t1]
 cases p <;> cases q <;> simp
end Go.Proofs.YtmenjpmikhajfaaGreatDoor
namespace Go.Proofs.YtmenjpmikhajfaaGreatDoor
open Go.RowKit Go.Shelf Go.Proofs
set_option maxRecDepth 100000
set_option maxHeartbeats 1000000

end Go.Proofs.YtmenjpmikhajfaaGreatDoor
namespace Go.Proofs.YtmenjpmikhajfaaGreatDoor
open Go.RowKit Go.Shelf Go.Proofs
set_option maxRecDepth 100000
set_option maxHeartbeats 1000000

theorem find_at {α:Type} {p:α→Bool}:∀ {l:List α} {j:Nat} {v:α},l[j]?=some v→p v=true→(∀ j' y,j'<j→l[j']?=some y→p y=false)→l.find? p=some v
 | x::l,0,v,h,hp,_=>by simp at h;subst h;rw [List.find?_cons_of_pos hp]
 | x::l,j+1,v,h,hp,hn=>by
  rw [List.find?_cons_of_neg (by rw [hn 0 x (by omega) rfl];simp)]
  exact find_at (l:=l) (j:=j) (by simpa using h) hp (fun j' y hj hy=>hn (j'+1) y (by omega) (by simpa using hy))
end Go.Proofs.YtmenjpmikhajfaaGreatDoor
namespace Go.Proofs.YtmenjpmikhajfaaGreatDoor
open Go.RowKit Go.Shelf Go.Proofs
set_option maxRecDepth 100000
set_option maxHeartbeats 1000000

theorem tok6 (t:Tok):t.cells.length=6:=rfl
theorem Two.sub {w:World} {A B:Option Addr} {n m:Nat} {a b:List Tok} (h:Two w A B n m a b) {ca cb:Nat} (hca:n≤ca) (hcb:m≤cb) (lo hi lo' hi':Nat) (h1:lo≤hi) (h2:hi≤n) (h3:lo'≤hi') (h4:hi'≤m) :
  Two w (cutA A ca lo 6) (cutA B cb lo' 6) (hi - lo) (hi' - lo') ((a.take hi).drop lo) ((b.take hi').drop lo') :=
 ⟨h.hst,src_sub Tok.cells 6 tok6 h.ha h.hn lo hi h1 h2 hca,by rw [List.length_drop,List.length_take,h.hn];omega,by have:=h.hnb;omega,src_sub Tok.cells 6 tok6 h.hb h.hm lo' hi' h3 h4 hcb,by rw [List.length_drop,List.length_take,h.hm];omega,by have:=h.hmb;omega,
  fun t ht=>h.hsa t (List.mem_of_mem_take (List.mem_of_mem_drop ht)),fun t ht=>h.hsb t (List.mem_of_mem_take (List.mem_of_mem_drop ht))⟩
theorem Two.pre {w:World} {A B:Option Addr} {n m:Nat} {a b:List Tok} (h:Two w A B n m a b) (hi hi':Nat) (h2:hi≤n) (h4:hi'≤m) :
  Two w A B hi hi' (a.take hi) (b.take hi') :=
 ⟨h.hst,src_take Tok.cells 6 tok6 h.ha h.hn hi h2,by rw [List.length_take,h.hn];omega,by have:=h.hnb;omega,src_take Tok.cells 6 tok6 h.hb h.hm hi' h4,by rw [List.length_take,h.hm];omega,by have:=h.hmb;omega,
  fun t ht=>h.hsa t (List.mem_of_mem_take ht),fun t ht=>h.hsb t (List.mem_of_mem_take ht)⟩
end Go.Proofs.YtmenjpmikhajfaaGreatDoor
namespace Go.Proofs.YtmenjpmikhajfaaGreatDoor
open Go.RowKit Go.Shelf Go.Proofs
set_option maxRecDepth 100000
set_option maxHeartbeats 1000000

end Go.Proofs.YtmenjpmikhajfaaGreatDoor
namespace Go.Proofs.YtmenjpmikhajfaaGreatDoor
open Go.RowKit Go.Shelf Go.Proofs
set_option maxRecDepth 100000
set_option maxHeartbeats 1000000

theorem rd_lit {w:World} {b n:Nat} {cs:List Value} {l:List D} (h:Src w 1 (some ⟨b,0,none⟩) n cs) (hn:n≤9223372036854775807) (hr:Rd (wr w) cs l):Rd (wr w) [.slice (some ⟨b,0,none⟩) n n] [.s 1 l]:=h.rdD (Nat.le_refl _) hn hr
theorem rd_ints {w:World} {b n:Nat} {r:List Int} (h:Src w 1 (some ⟨b,0,none⟩) n (r.map (Value.int .i64))) (hn:n≤9223372036854775807):Rd (wr w) [.slice (some ⟨b,0,none⟩) n n] [intsD r]:=by
 have:=rd_lit h hn (Rd.vals _)
 rw [List.map_map] at this
 exact this
instance (t:Tok):Decidable t.small:=inferInstanceAs (Decidable (_∧_))
end Go.Proofs.YtmenjpmikhajfaaGreatDoor
namespace Go.Proofs.YtmenjpmikhajfaaGreatDoor
open Go.RowKit Go.Shelf Go.Proofs
set_option maxRecDepth 100000
set_option maxHeartbeats 1000000

end Go.Proofs.YtmenjpmikhajfaaGreatDoor
namespace Go.Proofs.YtmenjpmikhajfaaGreatDoor
open Go.RowKit Go.Shelf Go.Proofs
set_option maxRecDepth 100000
set_option maxHeartbeats 1000000

theorem Rd.tabS {w:World} {x:Value} {m:List (List Int)} (h:Rd (wr w) [x] [rowsD m]):∃ A cap cs,x = .slice A m.length cap∧m.length≤cap∧cap≤9223372036854775807∧Src w 1 A m.length cs∧Rd (wr w) cs (m.map intsD):=by
 obtain⟨A,n,cap,cs,rfl,h1,h2,h3,h4,h5⟩:=h.src
 rw [List.length_map,Nat.mul_one] at h1
 subst h1
 exact⟨A,cap,cs,rfl,h2,h3,h4,h5⟩
end Go.Proofs.YtmenjpmikhajfaaGreatDoor
namespace Go.Proofs.YtmenjpmikhajfaaGreatDoor
open Go.RowKit Go.Shelf Go.Proofs
set_option maxRecDepth 100000
set_option maxHeartbeats 1000000

def arrJ (ord:List Nat) (r:List Int):Nat→List Int
 | 0=>List.replicate r.length 0
 | j+1=>(arrJ ord r j).set (ord.getD j 0) (r.getD j 0)
def arrR (ord:List Nat) (r:List Int):List Int:=arrJ ord r r.length
theorem arrJ_len (ord:List Nat) (r:List Int):∀ j,(arrJ ord r j).length=r.length
 | 0=>by simp [arrJ]
 | j+1=>by rw [arrJ,List.length_set,arrJ_len ord r j]
theorem arranged_spec (x:Value) (cols:List (List Int)) (Ao:Option Addr) (n co:Nat) (ord:List Nat) (w:World) (hx:Rd (wr w) [x] [rowsD cols]) (ho:Src w 1 Ao n (ord.map fun k=>Value.int .i64 (k:Nat))) (hno:ord.length=n)
  (hcl:∀ r∈cols,r.length=n) (hlt:∀ k∈ord,k<n) (hn:n≤1000) (hlen:cols.length≤100000) :
  Spec Tryz.prog 78 [x, .slice Ao n co] w (fun v R=>∃ y:Value,True∧v=y∧R=[dat [y] [rowsD (cols.map (arrR ord))]]):=by
 refine spec_of sg Tryz.func78 rfl rfl rfl ?_
 obtain⟨A,cap,cs,rfl,hcap1,hcap2,hcs,hrows⟩:=hx.tabS
 repeat' (first|refine d1 ?_|refine dd ?_|(show ∀ _:Nat,T _ _ _ _ _;intro _))
 refine T_le (dat_nil _) ?_
 refine T_nilrow 40 1 ?_
 refine T_loopX (fun x:Nat × (Option Addr × Nat) × List Value=>[(13, .int .i64 x.1),(5, .slice x.2.1.1 x.1 x.2.1.2)]) (fun x=>[row 40 1 x.2.1.1 x.2.1.2 x.1 x.2.2,dat x.2.2 (((cols.map (arrR ord)).take x.1).map intsD)]) (fun x=>x.1≤cols.length) (fun x=>cols.length - x.1) (0,(none,0),[]) (Nat.zero_le _) ?_
 rintro⟨i,⟨Ar,capr⟩,hs⟩ hi
 dsimp only at hi ⊢
 repeat' (first|refine d1 ?_|refine dd ?_|(show ∀ _:Nat,T _ _ _ _ _;intro _))
 refine T_if rfl (fun h=>?_) (fun h=>?_)
 ·simp only [decide_eq_true_eq] at h
  obtain⟨b,o,rfl⟩:=hcs.base (by omega)
  obtain⟨r,hr⟩:∃ r,cols[i]?=some r:=⟨_,List.getElem?_eq_getElem (by omega)⟩
  obtain⟨Au,capu,hu,-,-,hA⟩:=hrows.tabRow hr
  have hr0:RdC w b (o+(i:Int).toNat * 1) [.slice Au r.length capu]:=by
   have h9:=(hcs.get1 (i:=i) (by omega) hu).2
   rw [Nat.mul_one] at h9
   rw [off1]
   exact h9
  have hrn:=hcl r (List.mem_of_getElem? hr)
  repeat' (first|refine d1 ?_|refine dd ?_|(show T _ (.ops _ (_::_)::_) _ _ _;refine T_op (OpT.make rfl rfl rfl rfl rfl rfl rfl rfl rfl (by dsimp only;omega) (fun b1=>?_)))|(show ∀ _:Nat,T _ _ _ _ _;intro _))
  have e0:(arrJ ord r 0).map (Value.int .i64)=List.replicate ((r.length:Nat):Int).toNat (Value.int .i64 0):=by simp [arrJ]
  refine T_le (H':=[blk b1 ((arrJ ord r 0).map (Value.int .i64)) 3,row 40 1 Ar capr i hs,dat hs (((cols.map (arrR ord)).take i).map intsD)]) (by rw [e0];exact Hle.refl _) ?_
  refine T_loopX (fun k:Nat=>[(22, .int .i64 k)]) (fun k=>[blk b1 ((arrJ ord r k).map (Value.int .i64)) 3,row 40 1 Ar capr i hs,dat hs (((cols.map (arrR ord)).take i).map intsD)]) (fun k=>k≤r.length) (fun k=>r.length - k) 0 (Nat.zero_le _) ?_
  intro k hk
  repeat' (first|refine d1 ?_|refine dd ?_|(show ∀ _:Nat,T _ _ _ _ _;intro _))
  refine T_if rfl (fun h3=>?_) (fun h3=>?_)
  ·simp only [decide_eq_true_eq] at h3
   have hkr:k<r.length:=by omega
   obtain⟨bu,ou,rfl,hbu⟩:=hA (by omega)
   obtain⟨bo,oo,rfl⟩:=ho.base (by omega)
   obtain⟨z,hz⟩:∃ z,r[k]?=some z:=⟨_,List.getElem?_eq_getElem hkr⟩
   obtain⟨q,hq⟩:∃ q,ord[k]?=some q:=⟨_,List.getElem?_eq_getElem (by omega)⟩
   have hqn:=hlt q (List.mem_of_getElem? hq)
   have hr1:RdC w bu (ou+(k:Int).toNat * 1) [.int .i64 z]:=RdC.one (by rw [off1];exact hbu k z hz)
   have hr2:RdC w bo (oo+(k:Int).toNat * 1) [.int .i64 (q:Nat)]:=by
    have h9:=(ho.get1 (i:=k) (by omega) (by rw [List.getElem?_map,hq];rfl)).2
    rw [Nat.mul_one] at h9
    rw [off1]
    exact h9
   have est:(arrJ ord r (k+1)).map (Value.int .i64)=((arrJ ord r k).map (Value.int .i64)).set (0+(q:Int).toNat * 1) (.int .i64 z):=by
    rw [off1,arrJ,List.map_set,List.getD_eq_getElem?_getD,List.getD_eq_getElem?_getD,hq,hz];simp
   repeat' (first|refine d1 ?_|refine dd ?_|(show T _ (.ops _ (_::_)::_) _ _ _;refine T_op (OpT.store rfl rfl rfl rfl (by rw [List.length_map,arrJ_len];omega) ?_))|(show ∀ _:Nat,T _ _ _ _ _;intro _))
   exact T_backX (k+1) (by omega) (by omega) (hG:=by rw [est];exact Hle.refl _)
  ·simp only [decide_eq_false_iff_not] at h3
   obtain rfl:k=r.length:=by omega
   have ei:intsD (arrR ord r) = .s 1 (((arrJ ord r r.length).map (Value.int .i64)).map .v):=by rw [List.map_map];rfl
   have et:((cols.map (arrR ord)).take (i+1)).map intsD=((cols.map (arrR ord)).take i).map intsD++[intsD (arrR ord r)]:=by
    rw [take_snoc _ _ _ (show (cols.map (arrR ord))[i]?=some (arrR ord r) by rw [List.getElem?_map,hr];rfl),List.map_append];rfl
   refine T_le (H':=[row 40 1 Ar capr i hs,dat (hs++[.slice (some ⟨b1,0,none⟩) r.length r.length]) (((cols.map (arrR ord)).take (i+1)).map intsD)]) ?_ ?_
   ·rw [et,ei]
    exact (dat_blkV (sz:=1) (n:=r.length) (by rw [List.length_map,arrJ_len,Nat.mul_one]) (by omega)).trans ((Hle.perm (List.Perm.cons _ (List.Perm.swap _ _ _))).trans (dat_join.trans (Hle.perm (List.Perm.swap _ _ _))))
   repeat' (first|refine d1 ?_|refine dd ?_|(show T _ (.ops _ (_::_)::_) _ _ _;refine T_op (OpT.append rfl rfl rfl rfl rfl rfl rfl rfl rfl rfl (fun w hw=>Src.own hw rfl) rfl (by dsimp only;omega) (by omega) (fun A' cap' hA'=>?_)))|(show ∀ _:Nat,T _ _ _ _ _;intro _))
   exact T_backX (i+1,(A',cap'),hs++[.slice (some ⟨b1,0,none⟩) r.length r.length]) (by dsimp only;omega) (by dsimp only;omega) (hE:=⟨rfl,rfl,trivial⟩) (hG:=Hle.tail _ _)
 ·simp only [decide_eq_false_iff_not] at h
  obtain rfl:i=cols.length:=by omega
  rw [show (cols.map (arrR ord)).take cols.length=cols.map (arrR ord) from List.take_of_length_le (by simp)]
  repeat' (first|refine d1 ?_|refine dd ?_|(show ∀ _:Nat,T _ _ _ _ _;intro _)|(show T _ (.code .ret::_) _ _ _;refine T_retV _ rfl dat_row ⟨_,trivial,rfl,by rfl⟩))
end Go.Proofs.YtmenjpmikhajfaaGreatDoor
namespace Go.Proofs.YtmenjpmikhajfaaGreatDoor
open Go.RowKit Go.Shelf Go.Proofs
set_option maxRecDepth 100000
set_option maxHeartbeats 1000000

theorem equalI_spec (x y:Value) (p q:List Int) (w:World) (hx:Rd (wr w) [x] [intsD p]) (hy:Rd (wr w) [y] [intsD q]) :
  Spec Tryz.prog 47 [x,y] w (fun v R=>v = .bool (decide (p=q))∧R=[]):=by
 obtain⟨A,ca,rfl,hnb,hl⟩:=hx.ints
 obtain⟨B,cb,rfl,hmb,hb⟩:=hy.ints
 refine spec_of sg Tryz.func47 rfl rfl rfl ?_
 repeat' (first|refine d1 ?_|refine dd ?_|(show ∀ _:Nat,T _ _ _ _ _;intro _))
 refine T_if rfl (fun h=>?_) (fun h=>?_)
 ·simp only [Bool.not_eq_true',decide_eq_false_iff_not] at h
  repeat' (first|refine d1 ?_|refine dd ?_|(show ∀ _:Nat,T _ _ _ _ _;intro _)|(show T _ (.code .ret::_) _ _ _;refine T_retV [] rfl (Hle.none _) ⟨?_,rfl⟩))
  rw [decide_eq_false (fun e=>h (by rw [e]))];rfl
 simp only [Bool.not_eq_false',decide_eq_true_eq] at h
 repeat' (first|refine d1 ?_|refine dd ?_|(show ∀ _:Nat,T _ _ _ _ _;intro _))
 refine T_loopX (fun k:Nat=>[(13, .int .i64 k)]) (fun _=>[]) (fun k=>k≤p.length∧∀ j,j<k→p[j]?=q[j]?) (fun k=>p.length - k) 0 ⟨by omega,fun j h=>by omega⟩ ?_
 rintro k ⟨hk,hok⟩
 repeat' (first|refine d1 ?_|refine dd ?_|(show ∀ _:Nat,T _ _ _ _ _;intro _))
 refine T_if rfl (fun h3=>?_) (fun h3=>?_)
 ·simp only [decide_eq_true_eq] at h3
  have hkn:k<p.length:=by omega
  have hkq:k<q.length:=by omega
  obtain⟨ba,oa,rfl⟩:=hl.base (by omega)
  obtain⟨bb,ob,rfl⟩:=hb.base (by omega)
  obtain⟨u,hu⟩:∃ u,p[k]?=some u:=⟨_,List.getElem?_eq_getElem hkn⟩
  obtain⟨v,hv⟩:∃ v,q[k]?=some v:=⟨_,List.getElem?_eq_getElem hkq⟩
  have hr1:RdC w ba (oa+(k:Int).toNat * 1) [.int .i64 u]:=(hl.get1 (by omega) (by rw [Int.toNat_natCast,List.getElem?_map,hu];rfl)).2
  have hr2:RdC w bb (ob+(k:Int).toNat * 1) [.int .i64 v]:=(hb.get1 (by omega) (by rw [Int.toNat_natCast,List.getElem?_map,hv];rfl)).2
  repeat' (first|refine d1 ?_|refine dd ?_|(show ∀ _:Nat,T _ _ _ _ _;intro _))
  refine T_if rfl (fun h4=>?_) (fun h4=>?_)
  ·simp only [Bool.not_eq_true',decide_eq_false_iff_not] at h4
   repeat' (first|refine d1 ?_|refine dd ?_|(show ∀ _:Nat,T _ _ _ _ _;intro _)|(show T _ (.code .ret::_) _ _ _;refine T_retV [] rfl (Hle.none _) ⟨?_,rfl⟩))
   rw [decide_eq_false (fun e=>h4 (by rw [e,hv] at hu;exact (Option.some.inj hu).symm))];rfl
  ·simp only [Bool.not_eq_false',decide_eq_true_eq] at h4
   repeat' (first|refine d1 ?_|refine dd ?_|(show ∀ _:Nat,T _ _ _ _ _;intro _))
   refine T_backX (k+1) ⟨by omega,fun j hj=>?_⟩ (by omega)
   rcases Nat.lt_or_ge j k with h5|h5
   ·exact hok j h5
   ·rw [show j=k by omega,hu,hv,h4]
 ·simp only [decide_eq_false_iff_not] at h3
  repeat' (first|refine d1 ?_|refine dd ?_|(show ∀ _:Nat,T _ _ _ _ _;intro _)|(show T _ (.code .ret::_) _ _ _;refine T_retV [] rfl (Hle.none _) ⟨?_,rfl⟩))
  rw [decide_eq_true (list_eq_of (by omega) fun j hj=>hok j (by omega))];rfl
end Go.Proofs.YtmenjpmikhajfaaGreatDoor
namespace Go.Proofs.YtmenjpmikhajfaaGreatDoor
open Go.RowKit Go.Shelf Go.Proofs
set_option maxRecDepth 100000
set_option maxHeartbeats 1000000

theorem order1_spec (p7 p18 bt ot nt ct br or' nr cr:Nat) (i a b:Nat) (u v:Int) (w:World) (h7:RdC w p7 0 [.slice (some ⟨bt,ot,none⟩) nt ct]) (h18:RdC w p18 0 [.int .i64 (i:Nat)])
  (hi:i<nt) (hr:RdC w bt (ot+(i:Int).toNat * 1) [.slice (some ⟨br,or',none⟩) nr cr]) (ha:a<nr) (hb:b<nr) (hu:RdC w br (or'+(a:Int).toNat * 1) [.int .i64 u]) (hv:RdC w br (or'+(b:Int).toNat * 1) [.int .i64 v])
  (hub:0≤u∧u≤2000000) (hvb:0≤v∧v≤2000000) :
  Spec Tryz.prog 162 [.int .i64 (a:Nat), .int .i64 (b:Nat), .pointer (some ⟨p7,0,none⟩), .pointer (some ⟨p18,0,none⟩)] w (fun x R=>x = .int .i64 (u - v)∧R=[]):=by
 refine spec_of sg Tryz.func162 rfl rfl rfl ?_
 repeat' (first|refine d1 ?_|refine dd ?_|(show ∀ _:Nat,T _ _ _ _ _;intro _)|(show T _ (.code .ret::_) _ _ _;refine T_retV [] rfl (Hle.none _) ⟨rfl,rfl⟩))
end Go.Proofs.YtmenjpmikhajfaaGreatDoor
namespace Go.Proofs.YtmenjpmikhajfaaGreatDoor
open Go.RowKit Go.Shelf Go.Proofs
set_option maxRecDepth 100000
set_option maxHeartbeats 1000000

def addL (c:Costs) (L K T B:Value):List Value:=c.cells++[L,K,T,B]
theorem addL_get {c:Costs} {L K T B:Value} {j:Nat} {u:Value} (hu:c.cells[j]?=some u):(addL c L K T B)[0+j]?=some u:=by
 unfold addL;rw [Nat.zero_add,List.getElem?_append_left (List.getElem?_eq_some_iff.1 hu).1];exact hu
theorem noTok_small:noTok.small:=by decide +kernel
theorem beside_spec (c:Costs) (A Ac At Ak Ab:Option Addr) (n ca cc m ct nk ck nb cb:Nat) (l:List TS) (col:List Int) (t:List Tok) (k:Int) (w:World) (hg:Grp w A n l) (hc:costE c=0) (hbs:badS l=false)
  (hcs:Src w 1 Ac n (col.map (Value.int .i64))) (hco:ColOk l col) (hts:Src w 6 At m (t.flatMap Tok.cells)) (htl:t.length=m) (hm:m≤1000) (hte:∀ x∈t,tokE x=0) (hsm:∀ x∈t,x.small) (hk : -1≤k∧k<(m:Int)) :
  Spec Tryz.prog 202 [.agg (addL c (.slice A n ca) (.slice Ak nk ck) (.slice At m ct) (.slice Ab nb cb)).toArray, .slice Ac n cc, .int .i64 k] w (fun v R=>v = .int .i64 (putC c l col t k)∧R=[]):=by
 refine spec_of sg Tryz.func202 rfl rfl rfl ?_
 refine T_op (OpT.box (cs:=addL c (.slice A n ca) (.slice Ak nk ck) (.slice At m ct) (.slice Ab nb cb)) rfl rfl rfl rfl rfl rfl rfl (fun pa=>?_))
 have hb:=hg.hb
 have hn:=hg.hn
 repeat' (first|refine d1 ?_|refine dd ?_|(show ∀ _:Nat,T _ _ _ _ _;intro _))
 refine T_loopX (fun j:Nat=>[(16, .int .i64 j),(7, .int .i64 (putS c l col t k j))]) (fun _=>[blk pa (addL c (.slice A n ca) (.slice Ak nk ck) (.slice At m ct) (.slice Ab nb cb)) 158]) (fun j=>j≤n) (fun j=>n - j) 0 (Nat.zero_le _) ?_
 intro j hj
 repeat' (first|refine d1 ?_|refine dd ?_|(show ∀ _:Nat,T _ _ _ _ _;intro _))
 refine T_if rfl (fun h=>?_) (fun h=>?_)
 ·simp only [decide_eq_true_eq] at h
  have hjn:j<n:=by omega
  obtain⟨b,o,rfl⟩:=hg.hs.base (by omega)
  obtain⟨b1,o1,rfl⟩:=hcs.base (by omega)
  obtain⟨s,hs,hsmem,hr⟩:=hg.get hjn
  obtain⟨z,hz⟩:∃ z,col[j]?=some z:=⟨_,List.getElem?_eq_getElem (by have:=hco.1;omega)⟩
  have hr1:=src_int hcs hjn hz
  obtain⟨hz1,hz2⟩:=hco.2 j z s hz hs
  have hsl:=hg.ok.len s hsmem
  have hsn:=hg.nb s hsmem
  have hput:=putS_succ c t k hs hz
  have hbd:=putS_bd hc l col t k j
  have hbe:=entC_bd hc s.l z t k
  have hcls:∀ x∈s.l,tokE x=0:=badS_ok hbs s hsmem
  repeat' (first|refine d1 ?_|refine dd ?_|(show T _ (.ops _ (_::_)::_) _ _ _;refine T_op (OpT.makeC rfl rfl rfl rfl rfl rfl (by dsimp only;omega) (fun b2=>?_)))|(show ∀ _:Nat,T _ _ _ _ _;intro _))
  rename_i bb
  have em:(madeCells (noTok.val).cells (2 * (noTok.val).cells.size)).toList=[noTok,noTok].flatMap Tok.cells:=(made_flat (noTok.val).cells 2).trans rfl
  refine T_le (H':=[blk bb ([decide (0≤z),decide (0≤k)].map Value.bool) 4,blk b2 ([noTok,noTok].flatMap Tok.cells) 79,blk pa (addL c (.slice (some ⟨b,o,none⟩) n ca) (.slice Ak nk ck) (.slice At m ct) (.slice Ab nb cb)) 158]) (by rw [← em];exact Hle.refl _) ?_
  refine T_if rfl (fun h1=>?_) (fun h1=>?_)
  ·simp only [decide_eq_true_eq] at h1
   obtain⟨b4,o4,hsA⟩:=(hg.ok.src s hsmem).base (by omega)
   have hsr:RdC w b4 (o4+z.toNat * 6) (tkA s.l z.toNat).cells:=(hsA ▸ hg.ok.src s hsmem:Src w 6 (some ⟨b4,o4,none⟩) s.n (s.l.flatMap Tok.cells)).getT (k:=z.toNat) (by omega) (tkA_get (by omega))
   rw [hsA] at hr
   repeat' (first|refine d1 ?_|refine dd ?_|(show T _ (.ops _ (_::_)::_) _ _ _;refine T_op (OpT.storeA rfl rfl rfl rfl rfl rfl (by decide) ?_))|(show ∀ _:Nat,T _ _ _ _ _;intro _))
   refine T_if rfl (fun h2=>?_) (fun h2=>?_)
   ·simp only [decide_eq_true_eq] at h2
    obtain⟨b5,o5,rfl⟩:=hts.base (by omega)
    have htr:RdC w b5 (o5+k.toNat * 6) (tkA t k.toNat).cells:=hts.getT (k:=k.toNat) (by omega) (tkA_get (by omega))
    repeat' (first|refine d1 ?_|(show T _ (.ops _ (_::_)::_) _ _ _;refine T_op (OpT.storeA rfl rfl rfl rfl rfl rfl (by decide) ?_))|(show ∀ _:Nat,T _ _ _ _ _;intro _))
    have hcol:columnV c [(tkA s.l z.toNat),(tkA t k.toNat)] [decide (0≤z),decide (0≤k)]=(entC c s.l z t k,0):=by
     rw [col2 hc (tkA s.l z.toNat) (tkA t k.toNat) _ _ (fun _=>hcls _ (tkA_mem2 h1 (by omega))) (fun _=>hte _ (tkA_mem2 h2 (by omega)))];unfold entC;simp [h1,h2]
    have hsxy:∀ x∈[(tkA s.l z.toNat),(tkA t k.toNat)],x.small:=by
     intro x hx
     simp only [List.mem_cons,List.mem_nil_iff,or_false] at hx
     rcases hx with rfl|rfl
     ·exact hg.sm s hsmem _ (tkA_mem2 h1 (by omega))
     ·exact hsm _ (tkA_mem2 h2 (by omega))
    refine T_le (H':=[blk bb ([decide (0≤z),decide (0≤k)].map Value.bool) 4,blk b2 ([(tkA s.l z.toNat),(tkA t k.toNat)].flatMap Tok.cells) 79,blk pa (addL c (.slice (some ⟨b,o,none⟩) n ca) (.slice Ak nk ck) (.slice (some ⟨b5,o5,none⟩) m ct) (.slice Ab nb cb)) 158]) (Hle.refl _) ?_
    repeat' (first|refine d1 ?_|refine dd ?_|(show T _ (.ops _ (_::_)::_) _ _ _;first|refine T_val rfl (Val.loadA (vs:=c.cells) rfl (fun _=>rdOwn (b:=pa) (fun j u hu=>addL_get hu)) rfl) rfl rfl rfl ?_|refine T_valC rfl (Val.loadA (vs:=c.cells) rfl (fun _=>rdOwn (b:=pa) (fun j u hu=>addL_get hu)) rfl) rfl rfl rfl rfl rfl ?_|refine T_call rfl rfl rfl rfl rfl (fun w hw=>columnPrg_spec c (some ⟨b2,0,none⟩) (some ⟨bb,0,none⟩) 2 2 2 2 [(tkA s.l z.toNat),(tkA t k.toNat)] [decide (0≤z),decide (0≤k)] w (hg.hst.cls hw) (Src.own hw rfl) rfl (by omega) (Src.own hw rfl) rfl (by omega) hsxy) ?_|refine T_callC rfl rfl rfl rfl rfl rfl rfl (fun hg w hw=>columnPrg_spec c (some ⟨b2,0,none⟩) (some ⟨bb,0,none⟩) 2 2 2 2 [(tkA s.l z.toNat),(tkA t k.toNat)] [decide (0≤z),decide (0≤k)] w (hg.hst.cls hw) (Src.own hw rfl) rfl (by omega) (Src.own hw rfl) rfl (by omega) hsxy) ?_)|(show T _ (.run _ _ (_::_) _ _::_) _ _ _;first|refine rv rfl rfl rfl (Val.loadA (vs:=c.cells) rfl (fun _=>rdOwn (b:=pa) (fun j u hu=>addL_get hu)) rfl) rfl rfl rfl ?_|refine rg rfl rfl rfl (Val.loadA (vs:=c.cells) rfl (fun _=>rdOwn (b:=pa) (fun j u hu=>addL_get hu)) rfl) rfl rfl rfl rfl rfl ?_|refine rc rfl rfl rfl rfl rfl rfl rfl (fun w hw=>columnPrg_spec c (some ⟨b2,0,none⟩) (some ⟨bb,0,none⟩) 2 2 2 2 [(tkA s.l z.toNat),(tkA t k.toNat)] [decide (0≤z),decide (0≤k)] w (hg.hst.cls hw) (Src.own hw rfl) rfl (by omega) (Src.own hw rfl) rfl (by omega) hsxy) ?_|refine rcG rfl rfl rfl rfl rfl rfl rfl rfl rfl (fun hg w hw=>columnPrg_spec c (some ⟨b2,0,none⟩) (some ⟨bb,0,none⟩) 2 2 2 2 [(tkA s.l z.toNat),(tkA t k.toNat)] [decide (0≤z),decide (0≤k)] w (hg.hst.cls hw) (Src.own hw rfl) rfl (by omega) (Src.own hw rfl) rfl (by omega) hsxy) ?_)|(show ∀ _:Nat,T _ _ _ _ _;intro _))
    rw [hcol]
    repeat' (first|refine d1 ?_|refine dd ?_|(show ∀ _:Nat,T _ _ _ _ _;intro _))
    exact T_backX (j+1) (by omega) (by omega) (hE:=⟨rfl,by rw [hput];rfl,trivial⟩) (hG:=Hle.nth 2 rfl)
   ·simp only [decide_eq_false_iff_not] at h2
    have hcol:columnV c [(tkA s.l z.toNat),noTok] [decide (0≤z),decide (0≤k)]=(entC c s.l z t k,0):=by
     rw [col2 hc (tkA s.l z.toNat) noTok _ _ (fun _=>hcls _ (tkA_mem2 h1 (by omega))) (fun h9=>absurd (of_decide_eq_true h9) h2)];unfold entC;simp [h1,h2]
    have hsxy:∀ x∈[(tkA s.l z.toNat),noTok],x.small:=by
     intro x hx
     simp only [List.mem_cons,List.mem_nil_iff,or_false] at hx
     rcases hx with rfl|rfl
     ·exact hg.sm s hsmem _ (tkA_mem2 h1 (by omega))
     ·exact noTok_small
    refine T_le (H':=[blk bb ([decide (0≤z),decide (0≤k)].map Value.bool) 4,blk b2 ([(tkA s.l z.toNat),noTok].flatMap Tok.cells) 79,blk pa (addL c (.slice (some ⟨b,o,none⟩) n ca) (.slice Ak nk ck) (.slice At m ct) (.slice Ab nb cb)) 158]) (Hle.refl _) ?_
    repeat' (first|refine d1 ?_|refine dd ?_|(show T _ (.ops _ (_::_)::_) _ _ _;first|refine T_val rfl (Val.loadA (vs:=c.cells) rfl (fun _=>rdOwn (b:=pa) (fun j u hu=>addL_get hu)) rfl) rfl rfl rfl ?_|refine T_valC rfl (Val.loadA (vs:=c.cells) rfl (fun _=>rdOwn (b:=pa) (fun j u hu=>addL_get hu)) rfl) rfl rfl rfl rfl rfl ?_|refine T_call rfl rfl rfl rfl rfl (fun w hw=>columnPrg_spec c (some ⟨b2,0,none⟩) (some ⟨bb,0,none⟩) 2 2 2 2 [(tkA s.l z.toNat),noTok] [decide (0≤z),decide (0≤k)] w (hg.hst.cls hw) (Src.own hw rfl) rfl (by omega) (Src.own hw rfl) rfl (by omega) hsxy) ?_|refine T_callC rfl rfl rfl rfl rfl rfl rfl (fun hg w hw=>columnPrg_spec c (some ⟨b2,0,none⟩) (some ⟨bb,0,none⟩) 2 2 2 2 [(tkA s.l z.toNat),noTok] [decide (0≤z),decide (0≤k)] w (hg.hst.cls hw) (Src.own hw rfl) rfl (by omega) (Src.own hw rfl) rfl (by omega) hsxy) ?_)|(show T _ (.run _ _ (_::_) _ _::_) _ _ _;first|refine rv rfl rfl rfl (Val.loadA (vs:=c.cells) rfl (fun _=>rdOwn (b:=pa) (fun j u hu=>addL_get hu)) rfl) rfl rfl rfl ?_|refine rg rfl rfl rfl (Val.loadA (vs:=c.cells) rfl (fun _=>rdOwn (b:=pa) (fun j u hu=>addL_get hu)) rfl) rfl rfl rfl rfl rfl ?_|refine rc rfl rfl rfl rfl rfl rfl rfl (fun w hw=>columnPrg_spec c (some ⟨b2,0,none⟩) (some ⟨bb,0,none⟩) 2 2 2 2 [(tkA s.l z.toNat),noTok] [decide (0≤z),decide (0≤k)] w (hg.hst.cls hw) (Src.own hw rfl) rfl (by omega) (Src.own hw rfl) rfl (by omega) hsxy) ?_|refine rcG rfl rfl rfl rfl rfl rfl rfl rfl rfl (fun hg w hw=>columnPrg_spec c (some ⟨b2,0,none⟩) (some ⟨bb,0,none⟩) 2 2 2 2 [(tkA s.l z.toNat),noTok] [decide (0≤z),decide (0≤k)] w (hg.hst.cls hw) (Src.own hw rfl) rfl (by omega) (Src.own hw rfl) rfl (by omega) hsxy) ?_)|(show ∀ _:Nat,T _ _ _ _ _;intro _))
    rw [hcol]
    repeat' (first|refine d1 ?_|refine dd ?_|(show ∀ _:Nat,T _ _ _ _ _;intro _))
    exact T_backX (j+1) (by omega) (by omega) (hE:=⟨rfl,by rw [hput];rfl,trivial⟩) (hG:=Hle.nth 2 rfl)
  ·simp only [decide_eq_false_iff_not] at h1
   repeat' (first|refine d1 ?_|refine dd ?_|(show ∀ _:Nat,T _ _ _ _ _;intro _))
   refine T_if rfl (fun h2=>?_) (fun h2=>?_)
   ·simp only [decide_eq_true_eq] at h2
    obtain⟨b5,o5,rfl⟩:=hts.base (by omega)
    have htr:RdC w b5 (o5+k.toNat * 6) (tkA t k.toNat).cells:=hts.getT (k:=k.toNat) (by omega) (tkA_get (by omega))
    repeat' (first|refine d1 ?_|(show T _ (.ops _ (_::_)::_) _ _ _;refine T_op (OpT.storeA rfl rfl rfl rfl rfl rfl (by decide) ?_))|(show ∀ _:Nat,T _ _ _ _ _;intro _))
    have hcol:columnV c [noTok,(tkA t k.toNat)] [decide (0≤z),decide (0≤k)]=(entC c s.l z t k,0):=by
     rw [col2 hc noTok (tkA t k.toNat) _ _ (fun h9=>absurd (of_decide_eq_true h9) h1) (fun _=>hte _ (tkA_mem2 h2 (by omega)))];unfold entC;simp [h1,h2]
    have hsxy:∀ x∈[noTok,(tkA t k.toNat)],x.small:=by
     intro x hx
     simp only [List.mem_cons,List.mem_nil_iff,or_false] at hx
     rcases hx with rfl|rfl
     ·exact noTok_small
     ·exact hsm _ (tkA_mem2 h2 (by omega))
    refine T_le (H':=[blk bb ([decide (0≤z),decide (0≤k)].map Value.bool) 4,blk b2 ([noTok,(tkA t k.toNat)].flatMap Tok.cells) 79,blk pa (addL c (.slice (some ⟨b,o,none⟩) n ca) (.slice Ak nk ck) (.slice (some ⟨b5,o5,none⟩) m ct) (.slice Ab nb cb)) 158]) (Hle.refl _) ?_
    repeat' (first|refine d1 ?_|refine dd ?_|(show T _ (.ops _ (_::_)::_) _ _ _;first|refine T_val rfl (Val.loadA (vs:=c.cells) rfl (fun _=>rdOwn (b:=pa) (fun j u hu=>addL_get hu)) rfl) rfl rfl rfl ?_|refine T_valC rfl (Val.loadA (vs:=c.cells) rfl (fun _=>rdOwn (b:=pa) (fun j u hu=>addL_get hu)) rfl) rfl rfl rfl rfl rfl ?_|refine T_call rfl rfl rfl rfl rfl (fun w hw=>columnPrg_spec c (some ⟨b2,0,none⟩) (some ⟨bb,0,none⟩) 2 2 2 2 [noTok,(tkA t k.toNat)] [decide (0≤z),decide (0≤k)] w (hg.hst.cls hw) (Src.own hw rfl) rfl (by omega) (Src.own hw rfl) rfl (by omega) hsxy) ?_|refine T_callC rfl rfl rfl rfl rfl rfl rfl (fun hg w hw=>columnPrg_spec c (some ⟨b2,0,none⟩) (some ⟨bb,0,none⟩) 2 2 2 2 [noTok,(tkA t k.toNat)] [decide (0≤z),decide (0≤k)] w (hg.hst.cls hw) (Src.own hw rfl) rfl (by omega) (Src.own hw rfl) rfl (by omega) hsxy) ?_)|(show T _ (.run _ _ (_::_) _ _::_) _ _ _;first|refine rv rfl rfl rfl (Val.loadA (vs:=c.cells) rfl (fun _=>rdOwn (b:=pa) (fun j u hu=>addL_get hu)) rfl) rfl rfl rfl ?_|refine rg rfl rfl rfl (Val.loadA (vs:=c.cells) rfl (fun _=>rdOwn (b:=pa) (fun j u hu=>addL_get hu)) rfl) rfl rfl rfl rfl rfl ?_|refine rc rfl rfl rfl rfl rfl rfl rfl (fun w hw=>columnPrg_spec c (some ⟨b2,0,none⟩) (some ⟨bb,0,none⟩) 2 2 2 2 [noTok,(tkA t k.toNat)] [decide (0≤z),decide (0≤k)] w (hg.hst.cls hw) (Src.own hw rfl) rfl (by omega) (Src.own hw rfl) rfl (by omega) hsxy) ?_|refine rcG rfl rfl rfl rfl rfl rfl rfl rfl rfl (fun hg w hw=>columnPrg_spec c (some ⟨b2,0,none⟩) (some ⟨bb,0,none⟩) 2 2 2 2 [noTok,(tkA t k.toNat)] [decide (0≤z),decide (0≤k)] w (hg.hst.cls hw) (Src.own hw rfl) rfl (by omega) (Src.own hw rfl) rfl (by omega) hsxy) ?_)|(show ∀ _:Nat,T _ _ _ _ _;intro _))
    rw [hcol]
    repeat' (first|refine d1 ?_|refine dd ?_|(show ∀ _:Nat,T _ _ _ _ _;intro _))
    exact T_backX (j+1) (by omega) (by omega) (hE:=⟨rfl,by rw [hput];rfl,trivial⟩) (hG:=Hle.nth 2 rfl)
   ·simp only [decide_eq_false_iff_not] at h2
    have hcol:columnV c [noTok,noTok] [decide (0≤z),decide (0≤k)]=(entC c s.l z t k,0):=by
     rw [col2 hc noTok noTok _ _ (fun h9=>absurd (of_decide_eq_true h9) h1) (fun h9=>absurd (of_decide_eq_true h9) h2)];unfold entC;simp [h1,h2]
    have hsxy:∀ x∈[noTok,noTok],x.small:=by
     intro x hx
     simp only [List.mem_cons,List.mem_nil_iff,or_false] at hx
     rcases hx with rfl|rfl
     ·exact noTok_small
     ·exact noTok_small
    refine T_le (H':=[blk bb ([decide (0≤z),decide (0≤k)].map Value.bool) 4,blk b2 ([noTok,noTok].flatMap Tok.cells) 79,blk pa (addL c (.slice (some ⟨b,o,none⟩) n ca) (.slice Ak nk ck) (.slice At m ct) (.slice Ab nb cb)) 158]) (Hle.refl _) ?_
    repeat' (first|refine d1 ?_|refine dd ?_|(show T _ (.ops _ (_::_)::_) _ _ _;first|refine T_val rfl (Val.loadA (vs:=c.cells) rfl (fun _=>rdOwn (b:=pa) (fun j u hu=>addL_get hu)) rfl) rfl rfl rfl ?_|refine T_valC rfl (Val.loadA (vs:=c.cells) rfl (fun _=>rdOwn (b:=pa) (fun j u hu=>addL_get hu)) rfl) rfl rfl rfl rfl rfl ?_|refine T_call rfl rfl rfl rfl rfl (fun w hw=>columnPrg_spec c (some ⟨b2,0,none⟩) (some ⟨bb,0,none⟩) 2 2 2 2 [noTok,noTok] [decide (0≤z),decide (0≤k)] w (hg.hst.cls hw) (Src.own hw rfl) rfl (by omega) (Src.own hw rfl) rfl (by omega) hsxy) ?_|refine T_callC rfl rfl rfl rfl rfl rfl rfl (fun hg w hw=>columnPrg_spec c (some ⟨b2,0,none⟩) (some ⟨bb,0,none⟩) 2 2 2 2 [noTok,noTok] [decide (0≤z),decide (0≤k)] w (hg.hst.cls hw) (Src.own hw rfl) rfl (by omega) (Src.own hw rfl) rfl (by omega) hsxy) ?_)|(show T _ (.run _ _ (_::_) _ _::_) _ _ _;first|refine rv rfl rfl rfl (Val.loadA (vs:=c.cells) rfl (fun _=>rdOwn (b:=pa) (fun j u hu=>addL_get hu)) rfl) rfl rfl rfl ?_|refine rg rfl rfl rfl (Val.loadA (vs:=c.cells) rfl (fun _=>rdOwn (b:=pa) (fun j u hu=>addL_get hu)) rfl) rfl rfl rfl rfl rfl ?_|refine rc rfl rfl rfl rfl rfl rfl rfl (fun w hw=>columnPrg_spec c (some ⟨b2,0,none⟩) (some ⟨bb,0,none⟩) 2 2 2 2 [noTok,noTok] [decide (0≤z),decide (0≤k)] w (hg.hst.cls hw) (Src.own hw rfl) rfl (by omega) (Src.own hw rfl) rfl (by omega) hsxy) ?_|refine rcG rfl rfl rfl rfl rfl rfl rfl rfl rfl (fun hg w hw=>columnPrg_spec c (some ⟨b2,0,none⟩) (some ⟨bb,0,none⟩) 2 2 2 2 [noTok,noTok] [decide (0≤z),decide (0≤k)] w (hg.hst.cls hw) (Src.own hw rfl) rfl (by omega) (Src.own hw rfl) rfl (by omega) hsxy) ?_)|(show ∀ _:Nat,T _ _ _ _ _;intro _))
    rw [hcol]
    repeat' (first|refine d1 ?_|refine dd ?_|(show ∀ _:Nat,T _ _ _ _ _;intro _))
    exact T_backX (j+1) (by omega) (by omega) (hE:=⟨rfl,by rw [hput];rfl,trivial⟩) (hG:=Hle.nth 2 rfl)
 ·simp only [decide_eq_false_iff_not] at h
  rw [putS_all c t k (by omega)]
  repeat' (first|refine d1 ?_|refine dd ?_|(show ∀ _:Nat,T _ _ _ _ _;intro _)|(show T _ (.code .ret::_) _ _ _;refine T_retV [] rfl (Hle.none _) ⟨rfl,rfl⟩))
end Go.Proofs.YtmenjpmikhajfaaGreatDoor
namespace Go.Proofs.YtmenjpmikhajfaaGreatDoor
open Go.RowKit Go.Shelf Go.Proofs
set_option maxRecDepth 100000
set_option maxHeartbeats 1000000

def tsA (l:List TS) (i:Nat):TS:=l.getD i ⟨none,0,0,[]⟩
theorem tsA_eq {l:List TS} {i:Nat} {t:TS} (h:l[i]?=some t):tsA l i=t:=by unfold tsA;rw [List.getD_eq_getElem?_getD,h];rfl
theorem tsA_len {l:List TS} (h:∀ t∈l,t.l.length≤1000) (i:Nat):(tsA l i).l.length≤1000:=by
 unfold tsA
 rw [List.getD_eq_getElem?_getD]
 cases hi:l[i]? with
 | none=>exact Nat.zero_le _
 | some t=>exact h t (List.mem_of_getElem? hi)
def dstT (c:Costs) (l:List TS) (i k:Nat):Int:=if i<k then rst (grdOf c (tsA l i).l (tsA l k).l) 0 0 else if k<i then rst (grdOf c (tsA l k).l (tsA l i).l) 0 0 else 0
theorem dstT_sym (c:Costs) (l:List TS):Sym (dstT c l):=⟨fun i=>by unfold dstT;rw [if_neg (by omega),if_neg (by omega)],fun i k=>by
 unfold dstT
 rcases Nat.lt_trichotomy i k with h|h|h
 ·rw [if_pos h,if_neg (by omega),if_pos h]
 ·subst h;rfl
 ·rw [if_neg (by omega),if_pos h,if_pos h]⟩
theorem dstT_bd {c:Costs} (hc:costE c=0) {l:List TS} (h:∀ t∈l,t.l.length≤1000) (i k:Nat):0≤dstT c l i k∧dstT c l i k≤2000000:=by
 unfold dstT
 (repeat' split)
 ·exact rst_bd2 (grdOf_ok hc _ _) rfl rfl (tsA_len h _) (tsA_len h _) 0 0
 ·exact rst_bd2 (grdOf_ok hc _ _) rfl rfl (tsA_len h _) (tsA_len h _) 0 0
 ·omega
theorem Grp.len {w:World} {A:Option Addr} {n:Nat} {l:List TS} (hg:Grp w A n l):∀ t∈l,t.l.length≤1000:=fun t ht=>by
 have:=hg.ok.len t ht
 have:=hg.nb t ht
 omega
theorem Grp.two {w:World} {A:Option Addr} {n:Nat} {l:List TS} (hg:Grp w A n l) {s t:TS} (hs:s∈l) (ht:t∈l):Two w s.A t.A s.n t.n s.l t.l :=
 ⟨hg.hst,hg.ok.src s hs,hg.ok.len s hs,hg.nb s hs,hg.ok.src t ht,hg.ok.len t ht,hg.nb t ht,hg.sm s hs,hg.sm t ht⟩
theorem dst_V {c:Costs} {l:List TS} (hc:costE c=0) (hbs:badS l=false) {i k:Nat} {s t:TS} (hs:l[i]?=some s) (ht:l[k]?=some t) (h:i<k):distV c s.l t.l=(dstT c l i k,0):=by
 have e:ckV c s.l t.l=0:=by
  unfold ckV
  rw [if_neg]
  have h1:=badL_false.2 (badS_ok hbs s (List.mem_of_getElem? hs))
  have h2:=badL_false.2 (badS_ok hbs t (List.mem_of_getElem? ht))
  rw [h1,h2]
  simp [hc]
 unfold distV dstT
 rw [if_pos e,if_pos h,tsA_eq hs,tsA_eq ht]
def slw (n:Nat) (x:Nat × List Value):Value := .slice (some ⟨x.1,0,none⟩) n n
theorem slw_set {n k g:Nat} {cs cs':List Value} {M:List (Nat × List Value)} (h:M[k]?=some (g,cs)):(M.set k (g,cs')).map (slw n)=M.map (slw n):=by
 have e0:∀ L:List (Nat × List Value),L.map (slw n)=(L.map Prod.fst).map fun g=>Value.slice (some ⟨g,0,none⟩) n n:=fun L=>by rw [List.map_map];rfl
 rw [e0,e0 M,fst_set h]
theorem InP.up {n i k:Nat} {p:Nat × Nat} (h:InP n i k p):InP n i (k+1) p:=⟨h.1,h.2.1,by
 rcases h.2.2 with h3|h3|h3
 ·exact .inl h3
 ·exact .inr (.inl h3)
 ·exact .inr (.inr ⟨h3.1,by omega⟩)⟩
def natV (x:Nat):Value := .int .i64 (x:Nat)
def intN (l:List Nat):List Int:=l.map fun (x:Nat)=>(x:Int)
theorem intN_val (l:List Nat):(intN l).map (Value.int .i64)=l.map natV:=by unfold intN natV;rw [List.map_map];rfl
theorem intN_any (l:List Nat) (i:Nat):((intN l).any fun x=>decide ((i:Int)=x))=tkOf l i:=by
 unfold intN tkOf
 rw [List.any_map]
 congr 1
 funext x
 exact decide_eq_decide.2 (by dsimp only [Function.comp];omega)
theorem intN_mem {l:List Nat} {z:Int} (h:z∈intN l):∃ a:Nat,a∈l∧z=(a:Nat):=by
 obtain⟨a,h1,h2⟩:=List.mem_map.1 h
 exact⟨a,h1,h2.symm⟩
theorem intN_D (l:List Nat):intsD (intN l) = .s 1 ((l.map natV).map .v):=by
 unfold intsD;rw [← intN_val,List.map_map];rfl
def OutOk (D:Nat→Nat→Int) (n:Nat) (out:List Nat):Prop:=(n<2∧out=orderV D n)∨(2≤n∧∃ j,out=ordJ D n j)
theorem OutOk.start (D:Nat→Nat→Int) (n:Nat):OutOk D n ([(selI D n n).1,(selI D n n).2].take (min n 2)):=by
 rcases Nat.lt_or_ge n 2 with h|h
 ·refine .inl ⟨h,?_⟩
  rcases (show n=0∨n=1 by omega) with rfl|rfl
  ·rfl
  ·have e:selI D 1 1=(0,1):=selK_low D 0 (0,1) 1 (by omega)
   rw [e];rfl
 ·refine .inr ⟨h,0,?_⟩
  rw [Nat.min_eq_right h];rfl
theorem OutOk.all {D:Nat→Nat→Int} {n:Nat} {out:List Nat} (h:OutOk D n out) (hl:out.length=n):out=orderV D n:=by
 rcases h with h|⟨h,j,rfl⟩
 ·exact h.2
 ·rw [ordJ_len] at hl
  unfold orderV
  rw [if_neg (by omega),if_neg (by omega),show n - 2=j by omega]
theorem OutOk.next {D:Nat→Nat→Int} {n:Nat} {out:List Nat} (h:OutOk D n out) (hl:out.length<n):2≤n∧(∃ j,out=ordJ D n j∧j+2<n)∧OutOk D n (out++[nxtO D n out]):=by
 rcases h with h|⟨h,j,rfl⟩
 ·rw [h.2,orderV_len] at hl;omega
 ·rw [ordJ_len] at hl
  exact⟨h,⟨j,rfl,by omega⟩, .inr ⟨h,j+1,rfl⟩⟩
theorem scanP_tk {near:Nat→Int} {tk:Nat→Bool} {i:Nat} (h:tk i=true):scanP near tk (i+1)=scanP near tk i:=by simp [scanP,h]
theorem scanP_no {near:Nat→Int} {tk:Nat→Bool} {i:Nat} (h:tk i=false):scanP near tk (i+1)=if (scanP near tk i).1<0∨near i<(scanP near tk i).2 then ((i:Int),near i) else scanP near tk i:=by simp [scanP,h]
theorem order21_spec (c:Costs) (A:Option Addr) (n ca:Nat) (l:List TS) (w:World) (hg:Grp w A n l) (hc:costE c=0) (hbs:badS l=false) :
  Spec Tryz.prog 89 [c.val, .slice A n ca] w (fun v R=>∃ x:Value,True∧v = .tuple #[x, .int .i64 0]∧R=[dat [x] [intsD (intN (orderV (dstT c l) n))]]):=by
 have hb:=hg.hb
 have hn:=hg.hn
 have hD:=dstT_sym c l
 have hbd:=dstT_bd hc hg.len
 refine spec_of sg Tryz.func89 rfl rfl rfl ?_
 refine T_op (OpT.box (cs:=c.cells) rfl rfl rfl rfl rfl rfl rfl (fun pc=>?_))
 repeat' (first|refine d1 ?_|refine dd ?_|(show T _ (.ops _ (_::_)::_) _ _ _;refine T_op (OpT.make rfl rfl rfl rfl rfl rfl rfl rfl rfl (by dsimp only;omega) (fun b1=>?_)))|(show ∀ _:Nat,T _ _ _ _ _;intro _))
 rename_i p7
 refine T_nilblks 3 ?_
 refine T_loopX (fun L:List (Nat × List Value)=>[(26, .int .i64 L.length)]) (fun L=>[blks 3 L,blk p7 [.slice (some ⟨b1,0,none⟩) n n] 25,blk b1 (L.map (slw n)++List.replicate (n - L.length) (.slice none 0 0)) 40,blk pc c.cells 23]) (fun L=>L.length≤n∧RowsOk (fun _ _=>0) n L) (fun L=>n - L.length) [] ⟨Nat.zero_le _,fun i x h=>by simp at h⟩ ?_
 rintro L ⟨hL,hR⟩
 repeat' (first|refine d1 ?_|refine dd ?_|(show ∀ _:Nat,T _ _ _ _ _;intro _))
 refine T_if rfl (fun h=>?_) (fun h=>?_)
 ·simp only [decide_eq_true_eq] at h
  have hlt:L.length<n:=by omega
  repeat' (first|refine d1 ?_|refine dd ?_|(show T _ (.run _ _ (_::_) _ _::_) _ _ _;refine ro rfl rfl (OpT.make rfl rfl rfl rfl rfl rfl rfl rfl rfl (by dsimp only;omega) (fun b2=>⟨fun _=>Hle.sub,?_⟩)))|(show ∀ _:Nat,T _ _ _ _ _;intro _))
  refine T_backX (L++[(b2,List.replicate n (.int .i64 0))]) ⟨by simp;omega,rows_snoc0 hR⟩ (by simp;omega) (hE:=⟨by rw [List.length_append];rfl,trivial⟩) (hG:=?_)
  show Hle [blk b2 (List.replicate n (.int .i64 0)) 3,blks 3 L,blk p7 _ _,blk b1 ((L.map (slw n)++List.replicate (n - L.length) (Value.slice none 0 0)).set (0+(L.length:Int).toNat * 1) (Value.slice (some ⟨b2,0,none⟩) n n)) _,_] _
  rw [show 0+(L.length:Int).toNat * 1=L.length by omega,set_boundary _ _ _ _ _ (by omega) (by simp)]
  have e:L.map (slw n)++[Value.slice (some ⟨b2,0,none⟩) n n]++List.replicate (n - L.length - 1) (Value.slice none 0 0)=(L++[(b2,List.replicate n (Value.int .i64 0))]).map (slw n)++List.replicate (n - (L++[(b2,List.replicate n (Value.int .i64 0))]).length) (Value.slice none 0 0):=by
   rw [List.map_append,List.length_append,show n - L.length - 1=n - (L.length+1) by omega];rfl
  rw [e]
  exact blks_snoc
 simp only [decide_eq_false_iff_not] at h
 have hLn:L.length=n:=by omega
 have e:L.map (slw n)++List.replicate (n - L.length) (Value.slice none 0 0)=L.map (slw n):=by rw [hLn,Nat.sub_self];simp
 rw [e]
 have hR0:RowsOk (tbl (dstT c l) 0 0) n L:=hR.ext hLn fun p q _ _=>(tbl_zero _ p q).symm
 repeat' (first|refine d1 ?_|refine dd ?_|(show ∀ _:Nat,T _ _ _ _ _;intro _))
 refine T_loopX (fun s:Nat × List (Nat × List Value)=>[(36, .int .i64 s.1),(9, .int .i64 ((selI (dstT c l) n s.1).1:Nat)),(10, .int .i64 ((selI (dstT c l) n s.1).2:Nat))]) (fun s=>[blks 3 s.2,blk p7 [.slice (some ⟨b1,0,none⟩) n n] 25,blk b1 (s.2.map (slw n)) 40,blk pc c.cells 23]) (fun s=>s.1≤n∧s.2.length=n∧RowsOk (tbl (dstT c l) s.1 0) n s.2) (fun s=>n - s.1) (0,L) ⟨Nat.zero_le _,hLn,hR0⟩ ?_
 rintro⟨i,M⟩ ⟨hi,hM,hR2⟩
 dsimp only at hi hM hR2 ⊢
 repeat' (first|refine d1 ?_|refine dd ?_|(show ∀ _:Nat,T _ _ _ _ _;intro _))
 refine T_if rfl (fun h1=>?_) (fun h1=>?_)
 ·simp only [decide_eq_true_eq] at h1
  have hin:i<n:=by omega
  repeat' (first|refine d1 ?_|refine dd ?_|(show ∀ _:Nat,T _ _ _ _ _;intro _))
  refine T_loopX (fun s:Nat × List (Nat × List Value)=>[(12, .int .i64 s.1),(9, .int .i64 ((selK (dstT c l) i (selI (dstT c l) n i) s.1).1:Nat)),(10, .int .i64 ((selK (dstT c l) i (selI (dstT c l) n i) s.1).2:Nat))]) (fun s=>[blks 3 s.2,blk p7 [.slice (some ⟨b1,0,none⟩) n n] 25,blk b1 (s.2.map (slw n)) 40,blk pc c.cells 23]) (fun s=>i+1≤s.1∧s.1≤n∧s.2.length=n∧RowsOk (tbl (dstT c l) i s.1) n s.2) (fun s=>n - s.1) (i+1,M) ⟨Nat.le_refl _,hin,hM,hR2.ext hM fun p q _ _=>(tbl_low hD i p q).symm⟩ ?_ (hE:=⟨rfl,by rw [selK_low _ _ _ _ (Nat.le_refl _)];rfl,by rw [selK_low _ _ _ _ (Nat.le_refl _)];rfl,trivial⟩)
  rintro⟨k,M2⟩ ⟨hk1,hk2,hM2,hR3⟩
  dsimp only at hk1 hk2 hM2 hR3 ⊢
  repeat' (first|refine d1 ?_|refine dd ?_|(show ∀ _:Nat,T _ _ _ _ _;intro _))
  refine T_if rfl (fun h2=>?_) (fun h2=>?_)
  ·simp only [decide_eq_true_eq] at h2
   have hkn:k<n:=by omega
   have hik:i<k:=by omega
   obtain⟨b,o,rfl⟩:=hg.hs.base (by omega)
   obtain⟨s,hs,hsm,hrs⟩:=hg.get hin
   obtain⟨t,ht,htm,hrt⟩:=hg.get hkn
   have hd:=dst_V hc hbs hs ht hik
   have hbk:=hbd i k
   have hin1:=selK_in (D:=dstT c l) (selI_in (D:=dstT c l) (n:=n) (by omega) i (by omega)) k hk2
   have hst:=selK_step (D:=dstT c l) (fs:=selI (dstT c l) n i) hik
   generalize selK (dstT c l) i (selI (dstT c l) n i) k=fs at hin1 hst ⊢
   obtain⟨f,s2⟩:=fs
   have hin2:=hin1.up
   have htb:=tbl_in (D:=dstT c l) hik hin2
   obtain⟨hfs1,hfs2,-⟩:=hin2
   dsimp only at htb hfs1 hfs2 ⊢
   repeat' (first|refine d1 ?_|refine dd ?_|(show T _ (.ops _ (_::_)::_) _ _ _;first|refine T_call rfl rfl rfl rfl rfl (fun w hw=>distancePrg_spec c s.A t.A s.n t.n s.cap t.cap s.l t.l w ((hg.cls hw).two hsm htm)) ?_|refine T_callC rfl rfl rfl rfl rfl rfl rfl (fun hg w hw=>distancePrg_spec c s.A t.A s.n t.n s.cap t.cap s.l t.l w ((hg.cls hw).two hsm htm)) ?_)|(show T _ (.run _ _ (_::_) _ _::_) _ _ _;first|refine rc rfl rfl rfl rfl rfl rfl rfl (fun w hw=>distancePrg_spec c s.A t.A s.n t.n s.cap t.cap s.l t.l w ((hg.cls hw).two hsm htm)) ?_|refine rcG rfl rfl rfl rfl rfl rfl rfl rfl rfl (fun hg w hw=>distancePrg_spec c s.A t.A s.n t.n s.cap t.cap s.l t.l w ((hg.cls hw).two hsm htm)) ?_)|(show ∀ _:Nat,T _ _ _ _ _;intro _))
   rw [hd]
   refine T_if rfl (fun h3=>by exfalso;simp at h3) (fun h3=>?_)
   obtain⟨⟨gi,ci⟩,hLi⟩:∃ x,M2[i]?=some x:=⟨_,List.getElem?_eq_getElem (by omega)⟩
   obtain⟨⟨gq,cq⟩,hLq⟩:∃ x,M2[k]?=some x:=⟨_,List.getElem?_eq_getElem (by omega)⟩
   have hcil:ci.length=n:=by rw [show ci=_ from hR3 _ _ hLi,valV_length]
   have hcql:cq.length=n:=by rw [show cq=_ from hR3 _ _ hLq,valV_length]
   have hne:i≠k:=by omega
   have hLq':∀ x,(M2.set i x)[k]?=some (gq,cq):=fun x=>by rw [List.getElem?_set_ne hne];exact hLq
   refine rsH [blk p7 [.slice (some ⟨b1,0,none⟩) n n] 25,blk b1 (M2.map (slw n)) 40] 1000 [0,1,2,3,4,5,6,7,8,9,10,11,12,13,14,15] ?_
   repeat' (first|refine d1 ?_|refine dd ?_|(show T _ (.ops _ (_::_)::_) _ _ _;first|refine T_val rfl (Val.load rfl (fun hg=>rdOwn1 (u := .slice (some ⟨gi,0,none⟩) n n) (b:=b1) (by rw [show 0+(i:Int).toNat * 1=i by omega,List.getElem?_map,hLi];rfl))) rfl rfl rfl ?_|refine T_valC rfl (Val.load rfl (fun hg=>rdOwn1 (u := .slice (some ⟨gi,0,none⟩) n n) (b:=b1) (by rw [show 0+(i:Int).toNat * 1=i by omega,List.getElem?_map,hLi];rfl))) rfl rfl rfl rfl rfl ?_|refine T_val rfl (Val.load rfl (fun hg=>rdOwn1 (u := .slice (some ⟨gq,0,none⟩) n n) (b:=b1) (by rw [show 0+(k:Int).toNat * 1=k by omega,List.getElem?_map,hLq];rfl))) rfl rfl rfl ?_|refine T_valC rfl (Val.load rfl (fun hg=>rdOwn1 (u := .slice (some ⟨gq,0,none⟩) n n) (b:=b1) (by rw [show 0+(k:Int).toNat * 1=k by omega,List.getElem?_map,hLq];rfl))) rfl rfl rfl rfl rfl ?_)|(show T _ (.run _ _ (_::_) _ _::_) _ _ _;first|refine rv rfl rfl rfl (Val.load rfl (fun hg=>rdOwn1 (u := .slice (some ⟨gi,0,none⟩) n n) (b:=b1) (by rw [show 0+(i:Int).toNat * 1=i by omega,List.getElem?_map,hLi];rfl))) rfl rfl rfl ?_|refine rg rfl rfl rfl (Val.load rfl (fun hg=>rdOwn1 (u := .slice (some ⟨gi,0,none⟩) n n) (b:=b1) (by rw [show 0+(i:Int).toNat * 1=i by omega,List.getElem?_map,hLi];rfl))) rfl rfl rfl rfl rfl ?_|refine rv rfl rfl rfl (Val.load rfl (fun hg=>rdOwn1 (u := .slice (some ⟨gq,0,none⟩) n n) (b:=b1) (by rw [show 0+(k:Int).toNat * 1=k by omega,List.getElem?_map,hLq];rfl))) rfl rfl rfl ?_|refine rg rfl rfl rfl (Val.load rfl (fun hg=>rdOwn1 (u := .slice (some ⟨gq,0,none⟩) n n) (b:=b1) (by rw [show 0+(k:Int).toNat * 1=k by omega,List.getElem?_map,hLq];rfl))) rfl rfl rfl rfl rfl ?_|refine ro rfl rfl (OpT.storeM rfl rfl rfl hLi rfl (by omega) ⟨fun _=>Hle.sub,?_⟩)|refine ro rfl rfl (OpT.storeM rfl rfl rfl (k:=k) (cs:=cq) (hLq' _) rfl (by omega) ⟨fun _=>Hle.sub,?_⟩))|(show ∀ _:Nat,T _ _ _ _ _;intro _))
   rw [show 0+(k:Int).toNat * 1=k by omega,show 0+(i:Int).toNat * 1=i by omega]
   have hR4:RowsOk (tbl (dstT c l) i (k+1)) n ((M2.set i (gi,ci.set k (.int .i64 (dstT c l i k)))).set k (gq,cq.set i (.int .i64 (dstT c l i k)))) :=
    rows_put (f:=fun p q=>if p=i∧q=k then dstT c l i k else tbl (dstT c l) i k p q) (rows_put hR3 hLi (fun _ _=>rfl)) (hLq' _) (fun p q=>tbl_step hD hik p q)
   have hM4:((M2.set i (gi,ci.set k (.int .i64 (dstT c l i k)))).set k (gq,cq.set i (.int .i64 (dstT c l i k)))).length=n:=by rw [List.length_set,List.length_set];exact hM2
   have eM:((M2.set i (gi,ci.set k (.int .i64 (dstT c l i k)))).set k (gq,cq.set i (.int .i64 (dstT c l i k)))).map (slw n)=M2.map (slw n):=by rw [slw_set (hLq' _),slw_set hLi]
   generalize (M2.set i (gi,ci.set k (.int .i64 (dstT c l i k)))).set k (gq,cq.set i (.int .i64 (dstT c l i k)))=M4 at hR4 hM4 eM ⊢
   rw [← eM]
   obtain⟨⟨gf,cf⟩,hLf⟩:∃ x,M4[f]?=some x:=⟨_,List.getElem?_eq_getElem (by omega)⟩
   have hcf:cf=_:=hR4 _ _ hLf
   repeat' (first|refine d1 ?_|refine dd ?_|(show T _ (.ops _ (_::_)::_) _ _ _;first|refine T_val rfl (Val.load rfl (fun hg=>rdOwn1 (u := .slice (some ⟨gf,0,none⟩) n n) (b:=b1) (by rw [show 0+(f:Int).toNat * 1=f by omega,List.getElem?_map,hLf];rfl))) rfl rfl rfl ?_|refine T_valC rfl (Val.load rfl (fun hg=>rdOwn1 (u := .slice (some ⟨gf,0,none⟩) n n) (b:=b1) (by rw [show 0+(f:Int).toNat * 1=f by omega,List.getElem?_map,hLf];rfl))) rfl rfl rfl rfl rfl ?_|refine T_val rfl (Val.load rfl (fun hg=>rdM (l:=M4) (k:=f) (g:=gf) (vs:=[.int .i64 (dstT c l f s2)]) hLf (get1 (by rw [hcf, ← htb];exact vget s2 (by omega) (by omega))))) rfl rfl rfl ?_|refine T_valC rfl (Val.load rfl (fun hg=>rdM (l:=M4) (k:=f) (g:=gf) (vs:=[.int .i64 (dstT c l f s2)]) hLf (get1 (by rw [hcf, ← htb];exact vget s2 (by omega) (by omega))))) rfl rfl rfl rfl rfl ?_)|(show T _ (.run _ _ (_::_) _ _::_) _ _ _;first|refine rv rfl rfl rfl (Val.load rfl (fun hg=>rdOwn1 (u := .slice (some ⟨gf,0,none⟩) n n) (b:=b1) (by rw [show 0+(f:Int).toNat * 1=f by omega,List.getElem?_map,hLf];rfl))) rfl rfl rfl ?_|refine rg rfl rfl rfl (Val.load rfl (fun hg=>rdOwn1 (u := .slice (some ⟨gf,0,none⟩) n n) (b:=b1) (by rw [show 0+(f:Int).toNat * 1=f by omega,List.getElem?_map,hLf];rfl))) rfl rfl rfl rfl rfl ?_|refine rv rfl rfl rfl (Val.load rfl (fun hg=>rdM (l:=M4) (k:=f) (g:=gf) (vs:=[.int .i64 (dstT c l f s2)]) hLf (get1 (by rw [hcf, ← htb];exact vget s2 (by omega) (by omega))))) rfl rfl rfl ?_|refine rg rfl rfl rfl (Val.load rfl (fun hg=>rdM (l:=M4) (k:=f) (g:=gf) (vs:=[.int .i64 (dstT c l f s2)]) hLf (get1 (by rw [hcf, ← htb];exact vget s2 (by omega) (by omega))))) rfl rfl rfl rfl rfl ?_)|(show ∀ _:Nat,T _ _ _ _ _;intro _))
   refine T_if rfl (fun h4=>?_) (fun h4=>?_)
   ·simp only [decide_eq_true_eq] at h4
    have hst2:selK (dstT c l) i (selI (dstT c l) n i) (k+1)=(i,k):=by rw [hst];exact if_pos h4
    repeat' (first|refine d1 ?_|refine dd ?_|(show ∀ _:Nat,T _ _ _ _ _;intro _))
    exact T_backX (k+1,M4) ⟨by dsimp only;omega,by dsimp only;omega,hM4,hR4⟩ (by dsimp only;omega) (hE:=⟨rfl,by rw [hst2];rfl,by rw [hst2];rfl,trivial⟩)
   ·simp only [decide_eq_false_iff_not] at h4
    have hst2:selK (dstT c l) i (selI (dstT c l) n i) (k+1)=(f,s2):=by rw [hst];exact if_neg h4
    repeat' (first|refine d1 ?_|refine dd ?_|(show ∀ _:Nat,T _ _ _ _ _;intro _))
    exact T_backX (k+1,M4) ⟨by dsimp only;omega,by dsimp only;omega,hM4,hR4⟩ (by dsimp only;omega) (hE:=⟨rfl,by rw [hst2];rfl,by rw [hst2];rfl,trivial⟩)
  ·simp only [decide_eq_false_iff_not] at h2
   obtain rfl:k=n:=by omega
   repeat' (first|refine d1 ?_|refine dd ?_|(show ∀ _:Nat,T _ _ _ _ _;intro _))
   exact T_backX (i+1,M2) ⟨hin,hM2,hR3.ext hM2 fun p q hp hq=>tbl_next i p q hp hq⟩ (by dsimp only;omega)
 simp only [decide_eq_false_iff_not] at h1
 obtain rfl:i=n:=by omega
 have hRD:RowsOk (dstT c l) i M:=hR2.ext hM fun p q hp hq=>tbl_all p q hp hq
 repeat' (first|refine d1 ?_|refine dd ?_|(show ∀ _:Nat,T _ _ _ _ _;intro _))
 rename_i b3
 have ho0:=OutOk.start (dstT c l) i
 have hl0:([(selI (dstT c l) i i).1,(selI (dstT c l) i i).2].take (min i 2)).length=min i 2:=by rw [List.length_take];simp
 refine T_le (H':=[row 3 1 (some ⟨b3,0,none⟩) 2 (min i 2) (([(selI (dstT c l) i i).1,(selI (dstT c l) i i).2].take (min i 2)).map natV),blks 3 M,blk p7 [.slice (some ⟨b1,0,none⟩) i i] 25,blk b1 (M.map (slw i)) 40,blk pc c.cells 23]) (Hle.weaken (i:=0) rfl (fun f hf=>by rw [List.map_take];exact blk_row_take (by simp;omega) (by simp [maxLen]) f hf) rfl) ?_
 generalize [(selI (dstT c l) i i).1,(selI (dstT c l) i i).2].take (min i 2)=out0 at ho0 hl0 ⊢
 refine T_loopX (fun x:(Option Addr × Nat) × List Nat=>[(15, .slice x.1.1 x.2.length x.1.2)]) (fun x=>[row 3 1 x.1.1 x.1.2 x.2.length (x.2.map natV),blks 3 M,blk p7 [.slice (some ⟨b1,0,none⟩) i i] 25,blk b1 (M.map (slw i)) 40,blk pc c.cells 23]) (fun x=>x.2.length≤i∧OutOk (dstT c l) i x.2) (fun x=>i - x.2.length) ((some ⟨b3,0,none⟩,2),out0) ⟨by dsimp only;omega,ho0⟩ ?_ (hE:=⟨by dsimp only;rw [hl0,show min i 2=(min (i:Int) 2).toNat by omega];rfl,trivial⟩) (hG:=by dsimp only;rw [hl0];exact Hle.refl _)
 rintro⟨⟨Ao,cap⟩,out⟩ ⟨hol,hok⟩
 dsimp only at hol hok ⊢
 repeat' (first|refine d1 ?_|refine dd ?_|(show ∀ _:Nat,T _ _ _ _ _;intro _))
 refine T_if rfl (fun h2=>?_) (fun h2=>?_)
 ·simp only [decide_eq_true_eq] at h2
  have hl:out.length<i:=by omega
  obtain⟨h2i,⟨j,hoj,hj2⟩,hok2⟩:=hok.next hl
  obtain⟨hnd,hlt⟩:=ordJ_ok (D:=dstT c l) (fun i k=>(hbd i k).1) h2i j (by omega)
  rw [← hoj] at hnd hlt
  have hne:out≠[]:=fun h=>by rw [h] at hoj;have:=ordJ_len (dstT c l) i j;rw [← hoj] at this;simp at this
  have hnl:=nxtO_law (D:=dstT c l) (fun i k=>(hbd i k).1) hne hlt hl
  have hpos:0<out.length:=List.length_pos_iff.2 hne
  refine T_rowpos (A:=Ao) hpos (fun g e=>?_)
  subst e
  repeat' (first|refine d1 ?_|refine dd ?_|(show ∀ _:Nat,T _ _ _ _ _;intro _))
  refine T_loopX (fun q:Nat=>[(99, .int .i64 q),(16, .int .i64 (scanP (nearV (dstT c l) out) (tkOf out) q).1),(17, .int .i64 (scanP (nearV (dstT c l) out) (tkOf out) q).2)]) (fun _=>[row 3 1 (some ⟨g,0,none⟩) cap out.length (out.map natV),blks 3 M,blk p7 [.slice (some ⟨b1,0,none⟩) i i] 25,blk b1 (M.map (slw i)) 40,blk pc c.cells 23]) (fun q=>q≤i) (fun q=>i - q) 0 (Nat.zero_le _) ?_
  intro q hq
  repeat' (first|refine d1 ?_|refine dd ?_|(show ∀ _:Nat,T _ _ _ _ _;intro _))
  refine T_if rfl (fun h3=>?_) (fun h3=>?_)
  ·simp only [decide_eq_true_eq] at h3
   have hqi:q<i:=by omega
   repeat' (first|refine d1 ?_|refine dd ?_|(show T _ (.ops _ (_::_)::_) _ _ _;first|refine T_call rfl rfl rfl rfl rfl (fun w hw=>containsI_spec (some ⟨g,0,none⟩) out.length cap (intN out) q w ⟨by rw [intN_val];simp,fun h9=>⟨rfl,rdRow (A:=some ⟨g,0,none⟩) h9 (fun j u hu=>by rw [intN_val] at hu;show (out.map natV)[0+j]?=some u;rw [Nat.zero_add];exact hu) w hw⟩⟩ (by unfold intN;simp) (by omega)) ?_|refine T_callC rfl rfl rfl rfl rfl rfl rfl (fun hg w hw=>containsI_spec (some ⟨g,0,none⟩) out.length cap (intN out) q w ⟨by rw [intN_val];simp,fun h9=>⟨rfl,rdRow (A:=some ⟨g,0,none⟩) h9 (fun j u hu=>by rw [intN_val] at hu;show (out.map natV)[0+j]?=some u;rw [Nat.zero_add];exact hu) w hw⟩⟩ (by unfold intN;simp) (by omega)) ?_)|(show T _ (.run _ _ (_::_) _ _::_) _ _ _;first|refine rc rfl rfl rfl rfl rfl rfl rfl (fun w hw=>containsI_spec (some ⟨g,0,none⟩) out.length cap (intN out) q w ⟨by rw [intN_val];simp,fun h9=>⟨rfl,rdRow (A:=some ⟨g,0,none⟩) h9 (fun j u hu=>by rw [intN_val] at hu;show (out.map natV)[0+j]?=some u;rw [Nat.zero_add];exact hu) w hw⟩⟩ (by unfold intN;simp) (by omega)) ?_|refine rcG rfl rfl rfl rfl rfl rfl rfl rfl rfl (fun hg w hw=>containsI_spec (some ⟨g,0,none⟩) out.length cap (intN out) q w ⟨by rw [intN_val];simp,fun h9=>⟨rfl,rdRow (A:=some ⟨g,0,none⟩) h9 (fun j u hu=>by rw [intN_val] at hu;show (out.map natV)[0+j]?=some u;rw [Nat.zero_add];exact hu) w hw⟩⟩ (by unfold intN;simp) (by omega)) ?_)|(show ∀ _:Nat,T _ _ _ _ _;intro _))
   rename_i p18
   rw [intN_any]
   refine T_if rfl (fun h4=>?_) (fun h4=>?_)
   ·repeat' (first|refine d1 ?_|refine dd ?_|(show ∀ _:Nat,T _ _ _ _ _;intro _))
    exact T_backX (q+1) hqi (by omega) (hE:=⟨rfl,by rw [scanP_tk h4];rfl,by rw [scanP_tk h4];rfl,trivial⟩) (hG:=Hle.tail _ _)
   obtain⟨a,ha,hamin⟩:=minO_mem (dstT c l) hne q
   have hai:=hlt a ha
   have hsc:=scanP_no (near:=nearV (dstT c l) out) h4
   have hnv:nearV (dstT c l) out q=dstT c l q a:=by unfold nearV;rw [hamin];rfl
   rw [hnv] at hsc
   obtain⟨⟨gi,ci⟩,hLi⟩:∃ x,M[q]?=some x:=⟨_,List.getElem?_eq_getElem (by omega)⟩
   have hci:ci=_:=hRD _ _ hLi
   obtain⟨x0,xr,hx0⟩:∃ x0 xr,out=x0::xr:=by
    cases out with
    | nil=>exact absurd rfl hne
    | cons x xr=>exact⟨x,xr,rfl⟩
   have hmin2:minF (keyD (dstT c l) q) ((x0:Nat):Int) (intN xr)=(a:Int):=by rw [← hamin,hx0];rfl
   have hin2:((x0:Nat):Int)::intN xr=intN out:=by rw [hx0];rfl
   repeat' (first|refine d1 ?_|refine dd ?_|(show T _ (.ops _ (_::_)::_) _ _ _;first|refine T_call rfl rfl rfl rfl rfl (fun w hw=>minFuncI_spec (some ⟨g,0,none⟩) out.length cap ((x0:Nat):Int) (intN xr) 162 [] [.pointer (some ⟨p7,0,none⟩), .pointer (some ⟨p18,0,none⟩)] (keyD (dstT c l) q) w ⟨by rw [hin2,intN_val];simp,fun h9=>⟨rfl,rdRow (A:=some ⟨g,0,none⟩) h9 (fun j u hu=>by rw [hin2,intN_val] at hu;show (out.map natV)[0+j]?=some u;rw [Nat.zero_add];exact hu) w hw⟩⟩ (by rw [hin2];unfold intN;simp) (by omega) (fun x hx y hy w' hb'=>by rw [hin2] at hx hy;obtain⟨a',ha',rfl⟩:=intN_mem hx;obtain⟨b',hb'',rfl⟩:=intN_mem hy;exact order1_spec p7 p18 b1 0 i i gi 0 i i q a' b' (dstT c l q a') (dstT c l q b') w' ((rdOwn1 (b:=p7) rfl w hw).below hb') ((rdOwn1 (b:=p18) rfl w hw).below hb') hqi ((rdOwn1 (b:=b1) (by rw [show 0+(q:Int).toNat * 1=q by omega,List.getElem?_map,hLi];rfl) w hw).below hb') (hlt a' ha') (hlt b' hb'') ((rdM (l:=M) hLi (get1 (by rw [hci];exact vget a' (hlt a' ha') (by omega))) w hw).below hb') ((rdM (l:=M) hLi (get1 (by rw [hci];exact vget b' (hlt b' hb'') (by omega))) w hw).below hb') (hbd q a') (hbd q b'))) ?_|refine T_callC rfl rfl rfl rfl rfl rfl rfl (fun hg w hw=>minFuncI_spec (some ⟨g,0,none⟩) out.length cap ((x0:Nat):Int) (intN xr) 162 [] [.pointer (some ⟨p7,0,none⟩), .pointer (some ⟨p18,0,none⟩)] (keyD (dstT c l) q) w ⟨by rw [hin2,intN_val];simp,fun h9=>⟨rfl,rdRow (A:=some ⟨g,0,none⟩) h9 (fun j u hu=>by rw [hin2,intN_val] at hu;show (out.map natV)[0+j]?=some u;rw [Nat.zero_add];exact hu) w hw⟩⟩ (by rw [hin2];unfold intN;simp) (by omega) (fun x hx y hy w' hb'=>by rw [hin2] at hx hy;obtain⟨a',ha',rfl⟩:=intN_mem hx;obtain⟨b',hb'',rfl⟩:=intN_mem hy;exact order1_spec p7 p18 b1 0 i i gi 0 i i q a' b' (dstT c l q a') (dstT c l q b') w' ((rdOwn1 (b:=p7) rfl w hw).below hb') ((rdOwn1 (b:=p18) rfl w hw).below hb') hqi ((rdOwn1 (b:=b1) (by rw [show 0+(q:Int).toNat * 1=q by omega,List.getElem?_map,hLi];rfl) w hw).below hb') (hlt a' ha') (hlt b' hb'') ((rdM (l:=M) hLi (get1 (by rw [hci];exact vget a' (hlt a' ha') (by omega))) w hw).below hb') ((rdM (l:=M) hLi (get1 (by rw [hci];exact vget b' (hlt b' hb'') (by omega))) w hw).below hb') (hbd q a') (hbd q b'))) ?_)|(show T _ (.run _ _ (_::_) _ _::_) _ _ _;first|refine rc rfl rfl rfl rfl rfl rfl rfl (fun w hw=>minFuncI_spec (some ⟨g,0,none⟩) out.length cap ((x0:Nat):Int) (intN xr) 162 [] [.pointer (some ⟨p7,0,none⟩), .pointer (some ⟨p18,0,none⟩)] (keyD (dstT c l) q) w ⟨by rw [hin2,intN_val];simp,fun h9=>⟨rfl,rdRow (A:=some ⟨g,0,none⟩) h9 (fun j u hu=>by rw [hin2,intN_val] at hu;show (out.map natV)[0+j]?=some u;rw [Nat.zero_add];exact hu) w hw⟩⟩ (by rw [hin2];unfold intN;simp) (by omega) (fun x hx y hy w' hb'=>by rw [hin2] at hx hy;obtain⟨a',ha',rfl⟩:=intN_mem hx;obtain⟨b',hb'',rfl⟩:=intN_mem hy;exact order1_spec p7 p18 b1 0 i i gi 0 i i q a' b' (dstT c l q a') (dstT c l q b') w' ((rdOwn1 (b:=p7) rfl w hw).below hb') ((rdOwn1 (b:=p18) rfl w hw).below hb') hqi ((rdOwn1 (b:=b1) (by rw [show 0+(q:Int).toNat * 1=q by omega,List.getElem?_map,hLi];rfl) w hw).below hb') (hlt a' ha') (hlt b' hb'') ((rdM (l:=M) hLi (get1 (by rw [hci];exact vget a' (hlt a' ha') (by omega))) w hw).below hb') ((rdM (l:=M) hLi (get1 (by rw [hci];exact vget b' (hlt b' hb'') (by omega))) w hw).below hb') (hbd q a') (hbd q b'))) ?_|refine rcG rfl rfl rfl rfl rfl rfl rfl rfl rfl (fun hg w hw=>minFuncI_spec (some ⟨g,0,none⟩) out.length cap ((x0:Nat):Int) (intN xr) 162 [] [.pointer (some ⟨p7,0,none⟩), .pointer (some ⟨p18,0,none⟩)] (keyD (dstT c l) q) w ⟨by rw [hin2,intN_val];simp,fun h9=>⟨rfl,rdRow (A:=some ⟨g,0,none⟩) h9 (fun j u hu=>by rw [hin2,intN_val] at hu;show (out.map natV)[0+j]?=some u;rw [Nat.zero_add];exact hu) w hw⟩⟩ (by rw [hin2];unfold intN;simp) (by omega) (fun x hx y hy w' hb'=>by rw [hin2] at hx hy;obtain⟨a',ha',rfl⟩:=intN_mem hx;obtain⟨b',hb'',rfl⟩:=intN_mem hy;exact order1_spec p7 p18 b1 0 i i gi 0 i i q a' b' (dstT c l q a') (dstT c l q b') w' ((rdOwn1 (b:=p7) rfl w hw).below hb') ((rdOwn1 (b:=p18) rfl w hw).below hb') hqi ((rdOwn1 (b:=b1) (by rw [show 0+(q:Int).toNat * 1=q by omega,List.getElem?_map,hLi];rfl) w hw).below hb') (hlt a' ha') (hlt b' hb'') ((rdM (l:=M) hLi (get1 (by rw [hci];exact vget a' (hlt a' ha') (by omega))) w hw).below hb') ((rdM (l:=M) hLi (get1 (by rw [hci];exact vget b' (hlt b' hb'') (by omega))) w hw).below hb') (hbd q a') (hbd q b'))) ?_)|(show ∀ _:Nat,T _ _ _ _ _;intro _))
   rw [hmin2]
   repeat' (first|refine d1 ?_|refine dd ?_|(show T _ (.ops _ (_::_)::_) _ _ _;first|refine T_val rfl (Val.load rfl (fun hg=>rdOwn1 (u := .slice (some ⟨gi,0,none⟩) i i) (b:=b1) (by rw [show 0+(q:Int).toNat * 1=q by omega,List.getElem?_map,hLi];rfl))) rfl rfl rfl ?_|refine T_valC rfl (Val.load rfl (fun hg=>rdOwn1 (u := .slice (some ⟨gi,0,none⟩) i i) (b:=b1) (by rw [show 0+(q:Int).toNat * 1=q by omega,List.getElem?_map,hLi];rfl))) rfl rfl rfl rfl rfl ?_|refine T_val rfl (Val.load rfl (fun hg=>rdM (l:=M) (k:=q) (g:=gi) (vs:=[.int .i64 (dstT c l q a)]) hLi (get1 (by rw [hci];exact vget a (by omega) (by omega))))) rfl rfl rfl ?_|refine T_valC rfl (Val.load rfl (fun hg=>rdM (l:=M) (k:=q) (g:=gi) (vs:=[.int .i64 (dstT c l q a)]) hLi (get1 (by rw [hci];exact vget a (by omega) (by omega))))) rfl rfl rfl rfl rfl ?_)|(show T _ (.run _ _ (_::_) _ _::_) _ _ _;first|refine rv rfl rfl rfl (Val.load rfl (fun hg=>rdOwn1 (u := .slice (some ⟨gi,0,none⟩) i i) (b:=b1) (by rw [show 0+(q:Int).toNat * 1=q by omega,List.getElem?_map,hLi];rfl))) rfl rfl rfl ?_|refine rg rfl rfl rfl (Val.load rfl (fun hg=>rdOwn1 (u := .slice (some ⟨gi,0,none⟩) i i) (b:=b1) (by rw [show 0+(q:Int).toNat * 1=q by omega,List.getElem?_map,hLi];rfl))) rfl rfl rfl rfl rfl ?_|refine rv rfl rfl rfl (Val.load rfl (fun hg=>rdM (l:=M) (k:=q) (g:=gi) (vs:=[.int .i64 (dstT c l q a)]) hLi (get1 (by rw [hci];exact vget a (by omega) (by omega))))) rfl rfl rfl ?_|refine rg rfl rfl rfl (Val.load rfl (fun hg=>rdM (l:=M) (k:=q) (g:=gi) (vs:=[.int .i64 (dstT c l q a)]) hLi (get1 (by rw [hci];exact vget a (by omega) (by omega))))) rfl rfl rfl rfl rfl ?_)|(show ∀ _:Nat,T _ _ _ _ _;intro _))
   refine T_if rfl (fun h5=>?_) (fun h5=>?_)
   ·simp only [Bool.or_eq_true,decide_eq_true_eq] at h5
    rw [if_pos h5] at hsc
    repeat' (first|refine d1 ?_|refine dd ?_|(show T _ (.ops _ (_::_)::_) _ _ _;first|refine T_val rfl (Val.load rfl (fun hg=>rdOwn1 (u := .slice (some ⟨gi,0,none⟩) i i) (b:=b1) (by rw [show 0+(q:Int).toNat * 1=q by omega,List.getElem?_map,hLi];rfl))) rfl rfl rfl ?_|refine T_valC rfl (Val.load rfl (fun hg=>rdOwn1 (u := .slice (some ⟨gi,0,none⟩) i i) (b:=b1) (by rw [show 0+(q:Int).toNat * 1=q by omega,List.getElem?_map,hLi];rfl))) rfl rfl rfl rfl rfl ?_|refine T_val rfl (Val.load rfl (fun hg=>rdM (l:=M) (k:=q) (g:=gi) (vs:=[.int .i64 (dstT c l q a)]) hLi (get1 (by rw [hci];exact vget a (by omega) (by omega))))) rfl rfl rfl ?_|refine T_valC rfl (Val.load rfl (fun hg=>rdM (l:=M) (k:=q) (g:=gi) (vs:=[.int .i64 (dstT c l q a)]) hLi (get1 (by rw [hci];exact vget a (by omega) (by omega))))) rfl rfl rfl rfl rfl ?_)|(show T _ (.run _ _ (_::_) _ _::_) _ _ _;first|refine rv rfl rfl rfl (Val.load rfl (fun hg=>rdOwn1 (u := .slice (some ⟨gi,0,none⟩) i i) (b:=b1) (by rw [show 0+(q:Int).toNat * 1=q by omega,List.getElem?_map,hLi];rfl))) rfl rfl rfl ?_|refine rg rfl rfl rfl (Val.load rfl (fun hg=>rdOwn1 (u := .slice (some ⟨gi,0,none⟩) i i) (b:=b1) (by rw [show 0+(q:Int).toNat * 1=q by omega,List.getElem?_map,hLi];rfl))) rfl rfl rfl rfl rfl ?_|refine rv rfl rfl rfl (Val.load rfl (fun hg=>rdM (l:=M) (k:=q) (g:=gi) (vs:=[.int .i64 (dstT c l q a)]) hLi (get1 (by rw [hci];exact vget a (by omega) (by omega))))) rfl rfl rfl ?_|refine rg rfl rfl rfl (Val.load rfl (fun hg=>rdM (l:=M) (k:=q) (g:=gi) (vs:=[.int .i64 (dstT c l q a)]) hLi (get1 (by rw [hci];exact vget a (by omega) (by omega))))) rfl rfl rfl rfl rfl ?_)|(show ∀ _:Nat,T _ _ _ _ _;intro _))
    exact T_backX (q+1) hqi (by omega) (hE:=⟨rfl,by rw [hsc];rfl,by rw [hsc];rfl,trivial⟩) (hG:=Hle.tail _ _)
   ·simp only [Bool.or_eq_false_iff,decide_eq_false_iff_not] at h5
    rw [if_neg (fun h9=>h9.elim h5.1 h5.2)] at hsc
    repeat' (first|refine d1 ?_|refine dd ?_|(show ∀ _:Nat,T _ _ _ _ _;intro _))
    exact T_backX (q+1) hqi (by omega) (hE:=⟨rfl,by rw [hsc];rfl,by rw [hsc];rfl,trivial⟩) (hG:=Hle.tail _ _)
  ·simp only [decide_eq_false_iff_not] at h3
   obtain rfl:q=i:=by omega
   rw [hnl.2.2.1]
   repeat' (first|refine d1 ?_|refine dd ?_|(show T _ (.ops _ (_::_)::_) _ _ _;refine T_op (OpT.append rfl rfl rfl rfl rfl rfl rfl rfl rfl rfl (fun w hw=>Src.own hw rfl) rfl (by dsimp only;omega) (by omega) (fun A' cap' hA'=>?_)))|(show ∀ _:Nat,T _ _ _ _ _;intro _))
   refine T_backX ((A',cap'),out++[nxtO (dstT c l) q out]) ⟨by dsimp only;rw [List.length_append];exact Nat.succ_le_of_lt hl,hok2⟩ (by dsimp only;rw [List.length_append];simp;omega) (hE:=⟨by dsimp only;rw [List.length_append];rfl,trivial⟩) (hG:=?_)
   dsimp only
   rw [List.length_append,List.map_append]
   exact Hle.tail _ _
 ·simp only [decide_eq_false_iff_not] at h2
  have hl:out.length=i:=by omega
  have hfin:=hok.all hl
  subst hfin
  repeat' (first|refine d1 ?_|refine dd ?_|(show ∀ _:Nat,T _ _ _ _ _;intro _)|(show T _ (.code .ret::_) _ _ _;refine T_retV _ rfl ((Hle.nth 0 rfl).trans dat_rowV) ⟨_,trivial,rfl,by rw [intN_D]⟩))
end Go.Proofs.YtmenjpmikhajfaaGreatDoor
namespace Go.Proofs.YtmenjpmikhajfaaGreatDoor
open Go.RowKit Go.Shelf Go.Proofs
set_option maxRecDepth 100000
set_option maxHeartbeats 1000000

def ordV (c:Costs) (l:List TS):List Nat × Int:=if ck21 c l=0 then (orderV (dstT c l) l.length,0) else ([],1)
theorem ck21_ok {c:Costs} {l:List TS} (h:ck21 c l=0):costE c=0∧badS l=false:=by
 unfold ck21 at h
 by_cases hh:costE c=0∧badS l=false
 ·exact hh
 ·rw [if_neg hh] at h;omega
theorem ck21_01 (c:Costs) (l:List TS):ck21 c l=0∨ck21 c l=1:=by unfold ck21;split <;> simp
theorem nilI (H:List HA):Hle H [dat [.slice none 0 0] [intsD []]]:=(hle_unit (B:=dat [.slice none 0 0] [intsD []]) (.s none 0 0 1 [] rfl (Nat.le_refl _) (by omega) (fun h=>absurd h (by omega)) .nil .nil)).trans Hle.sub
theorem orderPrg21_spec (c:Costs) (A:Option Addr) (n ca:Nat) (l:List TS) (w:World) (hg:Grp w A n l) :
  Spec Tryz.prog 27 [c.val, .slice A n ca] w (fun v R=>∃ x:Value,True∧v = .tuple #[x, .int .i64 (ordV c l).2]∧R=[dat [x] [intsD (intN (ordV c l).1)]]):=by
 have hn:=hg.hn
 refine spec_of sg Tryz.func27 rfl rfl rfl ?_
 repeat' (first|(show T _ (.ops _ (⟨_, .box _ _,_,_,_,_⟩::_)::_) _ _ _;refine T_op (OpT.box (cs:=c.cells) rfl rfl rfl rfl rfl rfl rfl (fun _=>?_)))|refine d1 ?_|refine dd ?_|(show T _ (.ops _ (_::_)::_) _ _ _;first|refine T_call rfl rfl rfl rfl rfl (fun w hw=>check21_spec c A n ca l w (hg.cls hw)) ?_|refine T_callC rfl rfl rfl rfl rfl rfl rfl (fun hg w hw=>check21_spec c A n ca l w (hg.cls hw)) ?_)|(show T _ (.run _ _ (_::_) _ _::_) _ _ _;first|refine rc rfl rfl rfl rfl rfl rfl rfl (fun w hw=>check21_spec c A n ca l w (hg.cls hw)) ?_|refine rcG rfl rfl rfl rfl rfl rfl rfl rfl rfl (fun hg w hw=>check21_spec c A n ca l w (hg.cls hw)) ?_)|(show ∀ _:Nat,T _ _ _ _ _;intro _))
 refine T_if rfl (fun h=>?_) (fun h=>?_)
 ·simp only [Bool.not_eq_true',decide_eq_false_iff_not] at h
  have e:ordV c l=([],1):=if_neg h
  rw [e,(ck21_01 c l).resolve_left h]
  repeat' (first|refine d1 ?_|refine dd ?_|(show ∀ _:Nat,T _ _ _ _ _;intro _)|(show T _ (.code .ret::_) _ _ _;refine T_retV _ rfl (nilI _) ⟨_,trivial,rfl,rfl⟩))
 ·simp only [Bool.not_eq_false',decide_eq_true_eq] at h
  have e:ordV c l=(orderV (dstT c l) n,0):=by rw [← hn];exact if_pos h
  rw [e]
  obtain⟨hc,hbs⟩:=ck21_ok h
  repeat' (first|refine d1 ?_|refine dd ?_|(show T _ (.ops _ (_::_)::_) _ _ _;refine T_op (OpT.call rfl rfl rfl rfl rfl (fun w hw=>order21_spec c A n ca l w (hg.cls hw) hc hbs) ?_))|(show ∀ _:Nat,T _ _ _ _ _;intro _))
  rintro v R ⟨x,-,rfl,rfl⟩
  repeat' (first|refine d1 ?_|refine dd ?_|(show ∀ _:Nat,T _ _ _ _ _;intro _)|(show T _ (.code .ret::_) _ _ _;refine T_retV _ rfl (Hle.nth 0 rfl) ⟨_,trivial,rfl,rfl⟩))
end Go.Proofs.YtmenjpmikhajfaaGreatDoor
namespace Go.Proofs.YtmenjpmikhajfaaGreatDoor
open Go.RowKit Go.Shelf Go.Proofs
set_option maxRecDepth 100000
set_option maxHeartbeats 1000000

theorem mulOne_spec (n:Nat) (hn:n≤1000000) (w:World):Spec Tryz.prog 192 [.int .u64 1, .int .u64 (n:Nat)] w (fun v R=>v = .tuple #[.int .u64 0, .int .u64 (n:Nat)]∧R=[]):=by
 have h:=Calls.spec (enters_of rfl rfl rfl) (Tryz.bits_Mul 1 n (by omega) (by omega) w)
 have e1:1 * n / 18446744073709551616=0:=by omega
 have e2:1 * n % 18446744073709551616=n:=by omega
 rw [e1,e2] at h
 exact h
theorem oneInts:∀ xs:List Int,oneCells (xs.map (Value.int .i64))=true
 | []=>rfl
 | x::xs=>oneInts xs
def repL (n m:Nat) (z:Int):List Value:=List.replicate m (.int .i64 z)++List.replicate (n - m) (.int .i64 0)
theorem repL_len {n m:Nat} (z:Int) (h:m≤n):(repL n m z).length=n:=by simp [repL];omega
theorem repL_all (n:Nat) (z:Int):repL n n z=List.replicate n (.int .i64 z):=by simp [repL]
theorem oneRep (k:Nat) (z:Int):oneCells (List.replicate k (Value.int .i64 z))=true:=by
 have e:List.replicate k (Value.int .i64 z)=(List.replicate k z).map (Value.int .i64):=by rw [List.map_replicate]
 rw [e];exact oneInts _
theorem repL_set {n m k:Nat} (z:Int) (h:m+k≤n):setL (repL n m z) m (List.replicate k (.int .i64 z))=repL n (m+k) z:=by
 rw [setL_eq _ _ _ (by rw [List.length_replicate,repL_len z (by omega)];exact h)]
 unfold repL
 rw [List.take_append_of_le_length (by simp),List.take_of_length_le (by simp),List.length_replicate,List.drop_append,List.drop_eq_nil_of_le (by simp),List.nil_append,List.length_replicate,List.drop_replicate, ← List.append_assoc,List.replicate_append_replicate,show n - m - (m+k - m)=n - (m+k) by omega]
theorem repL_pre {n m k:Nat} (z:Int) (h:k≤m):∀ j u,(List.replicate k (Value.int .i64 z))[j]?=some u→(repL n m z)[0+j]?=some u:=by
 intro j u hu
 have hj:j<k:=by have:=(List.getElem?_eq_some_iff.1 hu).1;simpa using this
 rw [List.getElem?_replicate,if_pos hj] at hu
 unfold repL
 rw [Nat.zero_add,List.getElem?_append_left (by simp;omega),List.getElem?_replicate,if_pos (by omega)]
 exact hu
theorem repeatI_spec (z:Int) (A:Option Addr) (ca n:Nat) (w:World) (hs:Src w 1 A 1 [.int .i64 z]) (hn:n≤1000) :
  Spec Tryz.prog 137 [.slice A 1 ca, .int .i64 (n:Nat)] w (fun v R=>∃ b:Nat,True∧v = .slice (some ⟨b,0,none⟩) n n∧R=[row 3 1 (some ⟨b,0,none⟩) n n (List.replicate n (.int .i64 z))]):=by
 refine spec_of sg Tryz.func137 rfl rfl rfl ?_
 repeat' (first|refine d1 ?_|refine dd ?_|(show ∀ _:Nat,T _ _ _ _ _;intro _))
 refine T_if rfl (fun h=>by exfalso;simp at h;omega) (fun h=>?_)
 repeat' (first|refine d1 ?_|refine dd ?_|(show T _ (.ops _ (_::_)::_) _ _ _;first|refine T_call rfl rfl rfl rfl rfl (fun w hw=>mulOne_spec n (by omega) w) ?_|refine T_callC rfl rfl rfl rfl rfl rfl rfl (fun hg w hw=>mulOne_spec n (by omega) w) ?_)|(show T _ (.run _ _ (_::_) _ _::_) _ _ _;first|refine rc rfl rfl rfl rfl rfl rfl rfl (fun w hw=>mulOne_spec n (by omega) w) ?_|refine rcG rfl rfl rfl rfl rfl rfl rfl rfl rfl (fun hg w hw=>mulOne_spec n (by omega) w) ?_)|(show ∀ _:Nat,T _ _ _ _ _;intro _))
 refine T_if rfl (fun h=>?_) (fun h=>?_)
 ·exfalso
  simp at h
  omega
 repeat' (first|refine d1 ?_|refine dd ?_|(show T _ (.ops _ (_::_)::_) _ _ _;refine T_op (OpT.make rfl rfl rfl rfl rfl rfl rfl rfl rfl (by dsimp only;omega) (fun b=>?_)))|(show ∀ _:Nat,T _ _ _ _ _;intro _))
 refine T_le (H':=[row 3 1 (some ⟨b,0,none⟩) n n (repL n 0 z)]) (Hle.weaken (i:=0) rfl (blk_row (sz:=1) (n:=n) (by simp) (by simp only [maxLen];omega)) rfl) ?_
 have hs1:∀ w',Cls w w' [row 3 1 (some ⟨b,0,none⟩) n n (repL n 0 z)]→Src w' 1 A (min 1 n) (List.replicate (min 1 n) (Value.int .i64 z)):=fun w' hw'=>by
  rcases Nat.eq_zero_or_pos n with h9|h9
  ·rw [h9];exact⟨rfl,fun h=>absurd h (by simp)⟩
  ·rw [Nat.min_eq_left h9];exact src_below hs hw'.below
 repeat' (first|refine d1 ?_|refine dd ?_|(show T _ (.ops _ (_::_)::_) _ _ _;refine T_op (OpT.copyR (g:=b) (k:=min 1 n) (us:=List.replicate (min 1 n) (.int .i64 z)) rfl rfl rfl rfl rfl rfl rfl rfl rfl hs1 (oneRep _ _) (by rw [List.length_replicate];omega) ?_))|(show ∀ _:Nat,T _ _ _ _ _;intro _))
 rw [repL_set z (by omega),Nat.zero_add]
 refine T_loopX (fun m:Nat=>[(8, .int .i64 m)]) (fun m=>[row 3 1 (some ⟨b,0,none⟩) n n (repL n m z)]) (fun m=>m≤n∧(0<n→0<m)) (fun m=>n - m) (min 1 n) ⟨by omega,fun h=>by omega⟩ ?_
 rintro m ⟨hm,hm0⟩
 repeat' (first|refine d1 ?_|refine dd ?_|(show ∀ _:Nat,T _ _ _ _ _;intro _))
 refine T_if rfl (fun h1=>?_) (fun h1=>?_)
 ·simp only [decide_eq_true_eq] at h1
  have hmn:m<n:=by omega
  have hmp:=hm0 (by omega)
  refine rsH [] 1000 [0,1,2,3,4,5,6,7,8,9] ?_
  repeat' (first|refine d1 ?_|refine dd ?_|(show T _ (.run _ _ (_::_) _ _::_) _ _ _;refine ro rfl rfl (OpT.copyR (g:=b) (k:=min m (n - m)) (us:=List.replicate (min m (n - m)) (.int .i64 z)) rfl rfl rfl rfl rfl rfl rfl (cutA_at (by omega)) rfl (fun w hw=>⟨by simp,fun h9=>⟨rfl,rdRow (A:=some ⟨b,0,none⟩) (by omega) (repL_pre z (by omega)) w hw⟩⟩) (oneRep _ _) (by rw [List.length_replicate];omega) ⟨fun _=>Hle.none _,?_⟩))|(show ∀ _:Nat,T _ _ _ _ _;intro _))
  rw [show (m:Int).toNat * 1=m by omega,repL_set (n:=n) (m:=m) (k:=min m (n - m)) z (by omega)]
  exact T_backX (m+min m (n - m)) ⟨by omega,fun _=>by omega⟩ (by omega)
 ·simp only [decide_eq_false_iff_not] at h1
  obtain rfl:m=n:=by omega
  rw [repL_all]
  repeat' (first|refine d1 ?_|refine dd ?_|(show ∀ _:Nat,T _ _ _ _ _;intro _)|(show T _ (.code .ret::_) _ _ _;refine T_retV _ rfl (Hle.refl _) ⟨b,trivial,rfl,rfl⟩))
end Go.Proofs.YtmenjpmikhajfaaGreatDoor
namespace Go.Proofs.YtmenjpmikhajfaaGreatDoor
open Go.RowKit Go.Shelf Go.Proofs
set_option maxRecDepth 100000
set_option maxHeartbeats 1000000

structure AddW (w:World) (c:Costs) (A:Option Addr) (n:Nat) (l:List TS) (K:Value) (cols:List (List Int)) (At:Option Addr) (m:Nat) (t:List Tok):Prop where
 hg:Grp w A n l
 hc:costE c=0
 hbs:badS l=false
 hx:Rd (wr w) [K] [rowsD cols]
 hok:∀ col∈cols,ColOk l col
 hts:Src w 6 At m (t.flatMap Tok.cells)
 htl:t.length=m
 hm:m≤1000
 hte:∀ x∈t,tokE x=0
 hsm:∀ x∈t,x.small
 hsz:cols.length≤100000
def stepsV (G:Grd) (i k:Nat):List (List Value):=(mvs G i k).map fun v=>[.agg v.cells.toArray]
theorem steps21_spec (c:Costs) (L K T' B:Value) (i k:Nat) (w:World):Spec Tryz.prog 143 [.agg (addL c L K T' B).toArray, .int .i64 (i:Nat), .int .i64 (k:Nat)] w
  (fun v R=>∃ g:Nat × Nat × Nat,True∧v = .func (.func 201) #[] #[.pointer (some ⟨g.1,0,none⟩), .pointer (some ⟨g.2.1,0,none⟩), .pointer (some ⟨g.2.2,0,none⟩)]∧R=[blk g.2.2 [.int .i64 (k:Nat)] 3,blk g.1 [.int .i64 (i:Nat)] 3,blk g.2.1 (addL c L K T' B) 158]):=by
 refine spec_of sg Tryz.func143 rfl rfl rfl ?_
 refine T_op (OpT.box (cs:=addL c L K T' B) rfl rfl rfl rfl rfl rfl rfl (fun g2=>?_))
 refine T_op (OpT.box (cs:=[.int .i64 (i:Nat)]) rfl rfl rfl rfl rfl rfl rfl (fun g1=>?_))
 refine T_op (OpT.box (cs:=[.int .i64 (k:Nat)]) rfl rfl rfl rfl rfl rfl rfl (fun g3=>?_))
 repeat' (first|refine d1 ?_|refine dd ?_|(show ∀ _:Nat,T _ _ _ _ _;intro _)|(show T _ (.code .ret::_) _ _ _;refine T_retV _ rfl (Hle.refl _) ⟨(g1,g2,g3),trivial,rfl,rfl⟩))
theorem steps_iter {w0:World} {c:Costs} {A:Option Addr} {n:Nat} {l:List TS} {K:Value} {cols:List (List Int)} {At:Option Addr} {m:Nat} {t:List Tok} (h:AddW w0 c A n l K cols At m t) (ca ct:Nat) (Ab:Option Addr) (nb cb:Nat) (i k:Nat) (hi:i≤cols.length) (hk:k≤m) (p1 p2 p3:Nat) :
  IterAt Tryz.prog w0 201 [] [.pointer (some ⟨p1,0,none⟩), .pointer (some ⟨p2,0,none⟩), .pointer (some ⟨p3,0,none⟩)]
   [blk p3 [.int .i64 (k:Nat)] 3,blk p1 [.int .i64 (i:Nat)] 3,blk p2 (addL c (.slice A n ca) K (.slice At m ct) (.slice Ab nb cb)) 158] (stepsV (grdA c l cols t) i k):=by
 obtain⟨hgr,hc,hbs,hx,hok,hts,htl,hm,hte,hsm,hsz⟩:=h
 obtain⟨Ak,ck,csk,rfl,hck1,hck2,hcs,hrows⟩:=hx.tabS
 have hb:=hgr.hb
 have hn:=hgr.hn
 have e1:(grdA c l cols t).n=cols.length:=rfl
 have e2:(grdA c l cols t).m=m:=htl
 refine iterAt_of sg Tryz.func201 rfl rfl rfl ?_
 intro l' GQ X Hj hY h0
 show T _ _ _ _ (blk p3 [.int .i64 (k:Nat)] 3::blk p1 [.int .i64 (i:Nat)] 3::blk p2 (addL c (.slice A n ca) (.slice Ak cols.length ck) (.slice At m ct) (.slice Ab nb cb)) 158::Hj)
 repeat' (first|refine d1 ?_|refine dd ?_|(show ∀ _:Nat,T _ _ _ _ _;intro _))
 refine T_cutX 1 [] (fun _:List HA=>[]) (fun s=>blk p3 [.int .i64 (k:Nat)] 3::blk p1 [.int .i64 (i:Nat)] 3::blk p2 (addL c (.slice A n ca) (.slice Ak cols.length ck) (.slice At m ct) (.slice Ab nb cb)) 158::s) (fun s=>GQ (if i<cols.length then (if k<m then 2 else 1) else 0) s) ?_ ?_
 ·refine T_if rfl (fun h1=>?_) (fun h1=>?_)
  ·simp only [decide_eq_true_eq] at h1
   have hin:i<cols.length:=by omega
   obtain⟨b,o,rfl⟩:=hcs.base (by omega)
   obtain⟨r,hr⟩:∃ r,cols[i]?=some r:=⟨_,List.getElem?_eq_getElem hin⟩
   obtain⟨Au,capu,hu,-,-,hA⟩:=hrows.tabRow hr
   have hcol:=hok r (List.mem_of_getElem? hr)
   have hrl:r.length=n:=by rw [hcol.1,hn]
   have hr0:RdC w0 b (o+(i:Int).toNat * 1) [.slice Au n capu]:=by
    have h9:=(hcs.get1 (i:=i) hin hu).2
    rw [Nat.mul_one,hrl] at h9
    rw [off1]
    exact h9
   have hsr:Src w0 1 Au n (r.map (Value.int .i64)):=⟨by rw [List.length_map,hrl,Nat.mul_one],fun h9=>by
    obtain⟨bu,ou,rfl,hbu⟩:=hA (by omega)
    refine ⟨rfl,fun j u hu=>?_⟩
    rw [List.getElem?_map] at hu
    cases hz:r[j]? with
    | none=>rw [hz] at hu;cases hu
    | some z=>rw [hz] at hu;cases hu;exact hbu j z hz⟩
   have hgd:cols.getD i []=r:=by rw [List.getD_eq_getElem?_getD,hr];rfl
   have hgp:(grdA c l cols t).p i k=putC c l r t (k:Nat):=by show putC c l (cols.getD i []) t k=_;rw [hgd]
   have hgg:(grdA c l cols t).g i=putC c l r t (-1):=by show putC c l (cols.getD i []) t (-1)=_;rw [hgd]
   by_cases hkm:k<m
   ·have hmv:stepsV (grdA c l cols t) i k=[[.agg #[.int .i64 1, .int .i64 1, .int .i64 (putC c l r t (k:Nat))]],[.agg #[.int .i64 1, .int .i64 0, .int .i64 (putC c l r t (-1))]],[.agg #[.int .i64 0, .int .i64 1, .int .i64 (putC c l (noneC l.length) t (k:Nat))]]]:=by
     unfold stepsV;rw [mvs_both (by rw [e1];exact hin) (by rw [e2];exact hkm),hgp,hgg];rfl
    rw [hmv] at hY
    rw [if_pos hin,if_pos hkm]
    refine rsH [blk p3 [.int .i64 (k:Nat)] 3,blk p1 [.int .i64 (i:Nat)] 3,blk p2 (addL c (.slice A n ca) (.slice (some ⟨b,o,none⟩) cols.length ck) (.slice At m ct) (.slice Ab nb cb)) 158] 1000 [0,1,2,3,4,5,6,7,8,9,10,11,12,13,14,15,16,17,18] ?_
    repeat' (first|refine d1 ?_|refine dd ?_|(show T _ (.ops _ (_::_)::_) _ _ _;first|refine T_call rfl rfl rfl rfl rfl (fun w hw=>beside_spec c A Au At (some ⟨b,o,none⟩) Ab n ca capu m ct cols.length ck nb cb l r t k w (hgr.cls hw) hc hbs (src_below hsr hw.below) hcol (src_below hts hw.below) htl hm hte hsm (by omega)) ?_|refine T_callC rfl rfl rfl rfl rfl rfl rfl (fun hg w hw=>beside_spec c A Au At (some ⟨b,o,none⟩) Ab n ca capu m ct cols.length ck nb cb l r t k w (hgr.cls hw) hc hbs (src_below hsr hw.below) hcol (src_below hts hw.below) htl hm hte hsm (by omega)) ?_)|(show T _ (.run _ _ (_::_) _ _::_) _ _ _;first|refine rc rfl rfl rfl rfl rfl rfl rfl (fun w hw=>beside_spec c A Au At (some ⟨b,o,none⟩) Ab n ca capu m ct cols.length ck nb cb l r t k w (hgr.cls hw) hc hbs (src_below hsr hw.below) hcol (src_below hts hw.below) htl hm hte hsm (by omega)) ?_|refine rcG rfl rfl rfl rfl rfl rfl rfl rfl rfl (fun hg w hw=>beside_spec c A Au At (some ⟨b,o,none⟩) Ab n ca capu m ct cols.length ck nb cb l r t k w (hgr.cls hw) hc hbs (src_below hsr hw.below) hcol (src_below hts hw.below) htl hm hte hsm (by omega)) ?_|refine ro rfl rfl (OpT.yieldG [blk p3 [.int .i64 (k:Nat)] 3,blk p1 [.int .i64 (i:Nat)] 3,blk p2 (addL c (.slice A n ca) (.slice (some ⟨b,o,none⟩) cols.length ck) (.slice At m ct) (.slice Ab nb cb)) 158] hY rfl rfl (Holds.of1 rfl rfl (decide_eq_true (by omega))) rfl rfl rfl (j:=0) rfl h0 (Hle.comm [_,_,_] Hj) (fun H1 hG1=>⟨fun _=>Hle.append_left _,?_⟩) (fun Y hX=>⟨fun _=>Hle.append_left _,?_⟩)))|(show ∀ _:Nat,T _ _ _ _ _;intro _))
    ·show T _ _ _ _ (blk p3 [.int .i64 (k:Nat)] 3::blk p1 [.int .i64 (i:Nat)] 3::blk p2 (addL c (.slice A n ca) (.slice (some ⟨b,o,none⟩) cols.length ck) (.slice At m ct) (.slice Ab nb cb)) 158::H1)
     repeat' (first|refine d1 ?_|refine dd ?_|(show ∀ _:Nat,T _ _ _ _ _;intro _))
     refine T_if rfl (fun h3=>by exfalso;simp at h3) (fun _=>?_)
     refine rsH [blk p3 [.int .i64 (k:Nat)] 3,blk p1 [.int .i64 (i:Nat)] 3,blk p2 (addL c (.slice A n ca) (.slice (some ⟨b,o,none⟩) cols.length ck) (.slice At m ct) (.slice Ab nb cb)) 158] 1000 [0,1,2,3,4,5,6,7,8,9,10] ?_
     repeat' (first|refine d1 ?_|refine dd ?_|(show T _ (.ops _ (_::_)::_) _ _ _;first|refine T_call rfl rfl rfl rfl rfl (fun w hw=>beside_spec c A Au At (some ⟨b,o,none⟩) Ab n ca capu m ct cols.length ck nb cb l r t (-1) w (hgr.cls hw) hc hbs (src_below hsr hw.below) hcol (src_below hts hw.below) htl hm hte hsm (by omega)) ?_|refine T_callC rfl rfl rfl rfl rfl rfl rfl (fun hg w hw=>beside_spec c A Au At (some ⟨b,o,none⟩) Ab n ca capu m ct cols.length ck nb cb l r t (-1) w (hgr.cls hw) hc hbs (src_below hsr hw.below) hcol (src_below hts hw.below) htl hm hte hsm (by omega)) ?_)|(show T _ (.run _ _ (_::_) _ _::_) _ _ _;first|refine rc rfl rfl rfl rfl rfl rfl rfl (fun w hw=>beside_spec c A Au At (some ⟨b,o,none⟩) Ab n ca capu m ct cols.length ck nb cb l r t (-1) w (hgr.cls hw) hc hbs (src_below hsr hw.below) hcol (src_below hts hw.below) htl hm hte hsm (by omega)) ?_|refine rcG rfl rfl rfl rfl rfl rfl rfl rfl rfl (fun hg w hw=>beside_spec c A Au At (some ⟨b,o,none⟩) Ab n ca capu m ct cols.length ck nb cb l r t (-1) w (hgr.cls hw) hc hbs (src_below hsr hw.below) hcol (src_below hts hw.below) htl hm hte hsm (by omega)) ?_|refine ro rfl rfl (OpT.yieldG [blk p3 [.int .i64 (k:Nat)] 3,blk p1 [.int .i64 (i:Nat)] 3,blk p2 (addL c (.slice A n ca) (.slice (some ⟨b,o,none⟩) cols.length ck) (.slice At m ct) (.slice Ab nb cb)) 158] hY rfl rfl (fun a _=>Holds.nil _ _) rfl rfl rfl (j:=1) rfl hG1 (Hle.comm [_,_,_] H1) (fun H2 hG2=>⟨fun _=>Hle.append_left _,?_⟩) (fun Y hX=>⟨fun _=>Hle.append_left _,?_⟩)))|(show ∀ _:Nat,T _ _ _ _ _;intro _))
     ·show T _ _ _ _ (blk p3 [.int .i64 (k:Nat)] 3::blk p1 [.int .i64 (i:Nat)] 3::blk p2 (addL c (.slice A n ca) (.slice (some ⟨b,o,none⟩) cols.length ck) (.slice At m ct) (.slice Ab nb cb)) 158::H2)
      repeat' (first|refine d1 ?_|refine dd ?_|(show ∀ _:Nat,T _ _ _ _ _;intro _))
      refine T_if rfl (fun h3=>by exfalso;simp at h3) (fun _=>?_)
      exact T_meetX H2 hG2
     ·show T _ _ _ _ (blk p3 [.int .i64 (k:Nat)] 3::blk p1 [.int .i64 (i:Nat)] 3::blk p2 (addL c (.slice A n ca) (.slice (some ⟨b,o,none⟩) cols.length ck) (.slice At m ct) (.slice Ab nb cb)) 158::Y)
      repeat' (first|refine d1 ?_|refine dd ?_|(show ∀ _:Nat,T _ _ _ _ _;intro _))
      refine T_if rfl (fun _=>?_) (fun h3=>by exfalso;simp at h3)
      repeat' (first|refine d1 ?_|refine dd ?_|(show ∀ _:Nat,T _ _ _ _ _;intro _)|(show T _ (.code .ret::_) _ _ _;refine T_istop rfl Y hX (Hle.refl _)))
    ·show T _ _ _ _ (blk p3 [.int .i64 (k:Nat)] 3::blk p1 [.int .i64 (i:Nat)] 3::blk p2 (addL c (.slice A n ca) (.slice (some ⟨b,o,none⟩) cols.length ck) (.slice At m ct) (.slice Ab nb cb)) 158::Y)
     repeat' (first|refine d1 ?_|refine dd ?_|(show ∀ _:Nat,T _ _ _ _ _;intro _))
     refine T_if rfl (fun _=>?_) (fun h3=>by exfalso;simp [show (k:Int)<m by omega] at h3)
     repeat' (first|refine d1 ?_|refine dd ?_|(show ∀ _:Nat,T _ _ _ _ _;intro _)|(show T _ (.code .ret::_) _ _ _;refine T_istop rfl Y hX (Hle.refl _)))
   ·have hmv:stepsV (grdA c l cols t) i k=[[.agg #[.int .i64 1, .int .i64 0, .int .i64 (putC c l r t (-1))]]]:=by
     unfold stepsV;rw [mvs_fst (by rw [e1];exact hin) (by rw [e2];exact hkm),hgg];rfl
    rw [hmv] at hY
    rw [if_pos hin,if_neg hkm]
    refine rsH [blk p3 [.int .i64 (k:Nat)] 3,blk p1 [.int .i64 (i:Nat)] 3,blk p2 (addL c (.slice A n ca) (.slice (some ⟨b,o,none⟩) cols.length ck) (.slice At m ct) (.slice Ab nb cb)) 158] 1000 [0,1,2,3,4,5,6,7,8,9,10,11,12,13,14,15,16,17,18] ?_
    repeat' (first|refine d1 ?_|refine dd ?_|(show T _ (.run _ _ (_::_) _ _::_) _ _ _;refine ro rfl rfl (OpT.never (.bool false) rfl (fun hg9=>by have h10:decide ((k:Int)<m)=true:=hg9.1;simp at h10;omega) rfl rfl rfl rfl rfl ⟨fun _=>Hle.sub,?_⟩))|(show ∀ _:Nat,T _ _ _ _ _;intro _))
    refine T_if rfl (fun h3=>by exfalso;simp [show ¬ (k:Int)<m by omega] at h3) (fun _=>?_)
    refine rsH [blk p3 [.int .i64 (k:Nat)] 3,blk p1 [.int .i64 (i:Nat)] 3,blk p2 (addL c (.slice A n ca) (.slice (some ⟨b,o,none⟩) cols.length ck) (.slice At m ct) (.slice Ab nb cb)) 158] 1000 [0,1,2,3,4,5,6,7,8,9,10] ?_
    repeat' (first|refine d1 ?_|refine dd ?_|(show T _ (.ops _ (_::_)::_) _ _ _;first|refine T_call rfl rfl rfl rfl rfl (fun w hw=>beside_spec c A Au At (some ⟨b,o,none⟩) Ab n ca capu m ct cols.length ck nb cb l r t (-1) w (hgr.cls hw) hc hbs (src_below hsr hw.below) hcol (src_below hts hw.below) htl hm hte hsm (by omega)) ?_|refine T_callC rfl rfl rfl rfl rfl rfl rfl (fun hg w hw=>beside_spec c A Au At (some ⟨b,o,none⟩) Ab n ca capu m ct cols.length ck nb cb l r t (-1) w (hgr.cls hw) hc hbs (src_below hsr hw.below) hcol (src_below hts hw.below) htl hm hte hsm (by omega)) ?_)|(show T _ (.run _ _ (_::_) _ _::_) _ _ _;first|refine rc rfl rfl rfl rfl rfl rfl rfl (fun w hw=>beside_spec c A Au At (some ⟨b,o,none⟩) Ab n ca capu m ct cols.length ck nb cb l r t (-1) w (hgr.cls hw) hc hbs (src_below hsr hw.below) hcol (src_below hts hw.below) htl hm hte hsm (by omega)) ?_|refine rcG rfl rfl rfl rfl rfl rfl rfl rfl rfl (fun hg w hw=>beside_spec c A Au At (some ⟨b,o,none⟩) Ab n ca capu m ct cols.length ck nb cb l r t (-1) w (hgr.cls hw) hc hbs (src_below hsr hw.below) hcol (src_below hts hw.below) htl hm hte hsm (by omega)) ?_|refine ro rfl rfl (OpT.yieldG [blk p3 [.int .i64 (k:Nat)] 3,blk p1 [.int .i64 (i:Nat)] 3,blk p2 (addL c (.slice A n ca) (.slice (some ⟨b,o,none⟩) cols.length ck) (.slice At m ct) (.slice Ab nb cb)) 158] hY rfl rfl (fun a _=>Holds.nil _ _) rfl rfl rfl (j:=0) rfl h0 (Hle.comm [_,_,_] Hj) (fun H2 hG2=>⟨fun _=>Hle.append_left _,?_⟩) (fun Y hX=>⟨fun _=>Hle.append_left _,?_⟩)))|(show ∀ _:Nat,T _ _ _ _ _;intro _))
    ·show T _ _ _ _ (blk p3 [.int .i64 (k:Nat)] 3::blk p1 [.int .i64 (i:Nat)] 3::blk p2 (addL c (.slice A n ca) (.slice (some ⟨b,o,none⟩) cols.length ck) (.slice At m ct) (.slice Ab nb cb)) 158::H2)
     repeat' (first|refine d1 ?_|refine dd ?_|(show ∀ _:Nat,T _ _ _ _ _;intro _))
     refine T_if rfl (fun h3=>by exfalso;simp at h3) (fun _=>?_)
     exact T_meetX H2 hG2
    ·show T _ _ _ _ (blk p3 [.int .i64 (k:Nat)] 3::blk p1 [.int .i64 (i:Nat)] 3::blk p2 (addL c (.slice A n ca) (.slice (some ⟨b,o,none⟩) cols.length ck) (.slice At m ct) (.slice Ab nb cb)) 158::Y)
     repeat' (first|refine d1 ?_|refine dd ?_|(show ∀ _:Nat,T _ _ _ _ _;intro _))
     refine T_if rfl (fun _=>?_) (fun h3=>by exfalso;simp at h3)
     repeat' (first|refine d1 ?_|refine dd ?_|(show ∀ _:Nat,T _ _ _ _ _;intro _)|(show T _ (.code .ret::_) _ _ _;refine T_istop rfl Y hX (Hle.refl _)))
  ·simp only [decide_eq_false_iff_not] at h1
   have hin:¬ i<cols.length:=by omega
   rw [if_neg hin]
   exact T_meetX Hj h0
 ·intro H1 hG1
  repeat' (first|refine d1 ?_|refine dd ?_|(show ∀ _:Nat,T _ _ _ _ _;intro _))
  refine T_if rfl (fun h1=>?_) (fun h1=>?_)
  ·simp only [decide_eq_true_eq] at h1
   have hkm:k<m:=by omega
   have hpos:(stepsV (grdA c l cols t) i k)[if i<cols.length then (if k<m then 2 else 1) else 0]?=some [.agg #[.int .i64 0, .int .i64 1, .int .i64 (putC c l (noneC l.length) t (k:Nat))]]:=by
    unfold stepsV
    by_cases hin:i<cols.length
    ·rw [mvs_both (by rw [e1];exact hin) (by rw [e2];exact hkm),if_pos hin,if_pos hkm];rfl
    ·rw [mvs_snd (by rw [e1];exact hin) (by rw [e2];exact hkm),if_neg hin];rfl
   have hlen:(stepsV (grdA c l cols t) i k).length=(if i<cols.length then (if k<m then 2 else 1) else 0)+1:=by
    unfold stepsV
    by_cases hin:i<cols.length
    ·rw [mvs_both (by rw [e1];exact hin) (by rw [e2];exact hkm),if_pos hin,if_pos hkm];rfl
    ·rw [mvs_snd (by rw [e1];exact hin) (by rw [e2];exact hkm),if_neg hin];rfl
   refine rsH [blk p3 [.int .i64 (k:Nat)] 3,blk p1 [.int .i64 (i:Nat)] 3,blk p2 (addL c (.slice A n ca) (.slice Ak cols.length ck) (.slice At m ct) (.slice Ab nb cb)) 158] 1000 [0,1,3,4,5,7,2,6,8,9,10] ?_
   repeat' (first|refine d1 ?_|refine dd ?_|(show T _ (.run _ _ (_::_) _ _::_) _ _ _;first|refine ro rfl rfl (OpT.litW rfl rfl rfl rfl rfl rfl rfl rfl rfl rfl rfl (fun b3=>⟨fun _=>Hle.sub,?_⟩))|refine ro rfl rfl (OpT.call rfl rfl rfl rfl rfl (fun w hw=>repeatI_spec (-1) (some ⟨_,0,none⟩) 1 n w (Src.own hw rfl) (by omega)) (fun u R hR=>?_)))|(show ∀ _:Nat,T _ _ _ _ _;intro _))
   obtain⟨br,-,rfl,rfl⟩:=hR
   refine ⟨fun _=>(Hle.tail _ _).trans ((Hle.tail _ _).trans (Hle.append_left (A:=[blk p3 [.int .i64 (k:Nat)] 3,blk p1 [.int .i64 (i:Nat)] 3,blk p2 (addL c (.slice A n ca) (.slice Ak cols.length ck) (.slice At m ct) (.slice Ab nb cb)) 158]) H1)),?_⟩
   show T _ _ _ _ (row 3 1 (some ⟨br,0,none⟩) n n (List.replicate n (.int .i64 (-1)))::blk _ _ _::blk p3 [.int .i64 (k:Nat)] 3::blk p1 [.int .i64 (i:Nat)] 3::blk p2 (addL c (.slice A n ca) (.slice Ak cols.length ck) (.slice At m ct) (.slice Ab nb cb)) 158::H1)
   have hnn:(noneC l.length).map (Value.int .i64)=List.replicate n (.int .i64 (-1)):=by unfold noneC;rw [hn,List.map_replicate]
   repeat' (first|refine d1 ?_|refine dd ?_|(show T _ (.ops _ (_::_)::_) _ _ _;first|refine T_call rfl rfl rfl rfl rfl (fun w hw=>beside_spec c A (some ⟨br,0,none⟩) At Ak Ab n ca n m ct cols.length ck nb cb l (noneC l.length) t k w (hgr.cls hw) hc hbs (by rw [hnn];exact srcRw w hw) (noneC_ok l) (src_below hts hw.below) htl hm hte hsm (by omega)) ?_|refine T_callC rfl rfl rfl rfl rfl rfl rfl (fun hg w hw=>beside_spec c A (some ⟨br,0,none⟩) At Ak Ab n ca n m ct cols.length ck nb cb l (noneC l.length) t k w (hgr.cls hw) hc hbs (by rw [hnn];exact srcRw w hw) (noneC_ok l) (src_below hts hw.below) htl hm hte hsm (by omega)) ?_)|(show T _ (.run _ _ (_::_) _ _::_) _ _ _;first|refine rc rfl rfl rfl rfl rfl rfl rfl (fun w hw=>beside_spec c A (some ⟨br,0,none⟩) At Ak Ab n ca n m ct cols.length ck nb cb l (noneC l.length) t k w (hgr.cls hw) hc hbs (by rw [hnn];exact srcRw w hw) (noneC_ok l) (src_below hts hw.below) htl hm hte hsm (by omega)) ?_|refine rcG rfl rfl rfl rfl rfl rfl rfl rfl rfl (fun hg w hw=>beside_spec c A (some ⟨br,0,none⟩) At Ak Ab n ca n m ct cols.length ck nb cb l (noneC l.length) t k w (hgr.cls hw) hc hbs (by rw [hnn];exact srcRw w hw) (noneC_ok l) (src_below hts hw.below) htl hm hte hsm (by omega)) ?_)|(show ∀ _:Nat,T _ _ _ _ _;intro _))
   refine ro rfl rfl (OpT.yieldG (Hj:=H1) (row 3 1 (some ⟨br,0,none⟩) n n (List.replicate n (.int .i64 (-1)))::blk _ _ _::blk p3 [.int .i64 (k:Nat)] 3::blk p1 [.int .i64 (i:Nat)] 3::blk p2 (addL c (.slice A n ca) (.slice Ak cols.length ck) (.slice At m ct) (.slice Ab nb cb)) 158::[]) hY rfl rfl (fun a _=>Holds.nil _ _) rfl rfl rfl hpos hG1 (Hle.comm [_,_,_,_,_] H1) (fun H2 hG2=>⟨fun _=>(Hle.tail _ _).trans ((Hle.tail _ _).trans (Hle.append_left (A:=[blk p3 [.int .i64 (k:Nat)] 3,blk p1 [.int .i64 (i:Nat)] 3,blk p2 (addL c (.slice A n ca) (.slice Ak cols.length ck) (.slice At m ct) (.slice Ab nb cb)) 158]) _)),?_⟩) (fun Y hX=>⟨fun _=>(Hle.tail _ _).trans ((Hle.tail _ _).trans (Hle.append_left (A:=[blk p3 [.int .i64 (k:Nat)] 3,blk p1 [.int .i64 (i:Nat)] 3,blk p2 (addL c (.slice A n ca) (.slice Ak cols.length ck) (.slice At m ct) (.slice Ab nb cb)) 158]) _)),?_⟩))
   ·repeat' (first|refine d1 ?_|refine dd ?_|(show ∀ _:Nat,T _ _ _ _ _;intro _))
    exact T_ifall rfl H2 (by rw [hlen];exact hG2) ((Hle.tail _ _).trans (Hle.tail _ _))
   ·repeat' (first|refine d1 ?_|refine dd ?_|(show ∀ _:Nat,T _ _ _ _ _;intro _))
    exact T_istopf rfl Y hX ((Hle.tail _ _).trans (Hle.tail _ _))
  ·simp only [decide_eq_false_iff_not] at h1
   have hkm:¬ k<m:=by omega
   have hlen:(stepsV (grdA c l cols t) i k).length=if i<cols.length then (if k<m then 2 else 1) else 0:=by
    unfold stepsV
    by_cases hin:i<cols.length
    ·rw [mvs_fst (by rw [e1];exact hin) (by rw [e2];exact hkm),if_pos hin,if_neg hkm];rfl
    ·rw [mvs_none (by rw [e1];exact hin) (by rw [e2];exact hkm),if_neg hin];rfl
   repeat' (first|refine d1 ?_|refine dd ?_|(show ∀ _:Nat,T _ _ _ _ _;intro _))
   exact T_ifall rfl H1 (by rw [hlen];exact hG1) (Hle.refl _)
end Go.Proofs.YtmenjpmikhajfaaGreatDoor
namespace Go.Proofs.YtmenjpmikhajfaaGreatDoor
open Go.RowKit Go.Shelf Go.Proofs
set_option maxRecDepth 100000
set_option maxHeartbeats 1000000

theorem stepsV_at {G:Grd} {i k j:Nat} {y:List Value} (h:(stepsV G i k)[j]?=some y):∃ v,(mvs G i k)[j]?=some v∧y=[.agg v.cells.toArray]:=by
 unfold stepsV at h
 rw [List.getElem?_map] at h
 cases hp:(mvs G i k)[j]? with
 | none=>rw [hp] at h;cases h
 | some p=>rw [hp] at h;exact⟨p,rfl,(Option.some.inj h).symm⟩
theorem stepsV_len (G:Grd) (i k:Nat):(stepsV G i k).length=(mvs G i k).length:=by unfold stepsV;rw [List.length_map]
theorem AddW.ok {w:World} {c:Costs} {A:Option Addr} {n:Nat} {l:List TS} {K:Value} {cols:List (List Int)} {At:Option Addr} {m:Nat} {t:List Tok} (h:AddW w c A n l K cols At m t):GOk (grdA c l cols t) 32000:=by
 have:=grdA_ok h.hc l cols t
 have h1:=h.hg.hn
 have h2:=h.hg.hb
 exact⟨fun i k=>by have:=this.p i k;omega,fun i=>by have:=this.g i;omega,fun k=>by have:=this.h k;omega⟩
theorem AddW.rst {w:World} {c:Costs} {A:Option Addr} {n:Nat} {l:List TS} {K:Value} {cols:List (List Int)} {At:Option Addr} {m:Nat} {t:List Tok} (h:AddW w c A n l K cols At m t) (i k:Nat):0≤rst (grdA c l cols t) i k∧rst (grdA c l cols t) i k≤10000000000:=by
 have h1:=rst_bd h.ok i k
 have e1:(grdA c l cols t).n=cols.length:=rfl
 have e2:(grdA c l cols t).m=m:=h.htl
 have h2:=h.hsz
 have h3:=h.hm
 rw [e1,e2] at h1
 omega
theorem AddW.to {w:World} {c:Costs} {A:Option Addr} {n:Nat} {l:List TS} {K:Value} {cols:List (List Int)} {At:Option Addr} {m:Nat} {t:List Tok} (h:AddW w c A n l K cols At m t) {i k jj:Nat} {v:Mv} (hi:i≤cols.length) (hk:k≤m) (hv:(mvs (grdA c l cols t) i k)[jj]?=some v) :
  i+v.fst≤cols.length∧k+v.snd≤m∧(i<i+v.fst∨(i=i+v.fst∧k<k+v.snd))∧(0≤v.cost∧v.cost≤32000)∧v.fst≤1∧v.snd≤1:=by
 have hG:=h.ok
 have q1:=hG.p i k
 have q2:=hG.g i
 have q3:=hG.h k
 have e1:(grdA c l cols t).n=cols.length:=rfl
 have e2:(grdA c l cols t).m=m:=h.htl
 rcases mvs_to (List.mem_of_getElem? hv) with⟨h1,h2,h3,h4,h5⟩|⟨h1,h2,h3,h5⟩|⟨h1,h2,h3,h5⟩
 ·rw [e1] at h3;rw [e2] at h4;omega
 ·rw [e1] at h3;omega
 ·rw [e2] at h3;omega
@[reducible] def fillH (c:Costs) (L K T':Value) (pb pa g cap N m:Nat) (M:List (Nat × List Value)) (Kr:List HA):List HA :=
 blks 3 M::row 40 1 (some ⟨g,0,none⟩) cap (N+1) (M.map (slv m))::blk pb [.pointer (some ⟨pa,0,none⟩)] 156::blk pa (addL c L K T' (.slice (some ⟨g,0,none⟩) (N+1) cap)) 158::Kr
theorem fill1_spec {w0:World} {c:Costs} {A:Option Addr} {n:Nat} {l:List TS} {K:Value} {cols:List (List Int)} {At:Option Addr} {m:Nat} {t:List Tok} (h:AddW w0 c A n l K cols At m t) (ca ct pb pa g cap:Nat) (Kr:List HA) (M:List (Nat × List Value)) (j i k:Nat)
  (hp:(placesL cols.length m)[j]?=some (i,k)) (hno:(i,k) ∉ (placesL cols.length m).take j) (hM:M.length=cols.length+1) (hS:RowsOk (soFar cols.length m j (rst (grdA c l cols t))) (m+1) M) :
  SpecB Tryz.prog 200 [.int .i64 (i:Nat), .int .i64 (k:Nat), .pointer (some ⟨pb,0,none⟩)] w0 (fillH c (.slice A n ca) K (.slice At m ct) pb pa g cap cols.length m M Kr)
   (fun v R=>v = .tuple #[]∧∃ M',M'.length=cols.length+1∧RowsOk (soFar cols.length m (j+1) (rst (grdA c l cols t))) (m+1) M'∧R=fillH c (.slice A n ca) K (.slice At m ct) pb pa g cap cols.length m M' Kr):=by
 obtain⟨p,q,hpn,hqm,-,hip,hkq⟩:=placesL_at hp
 have hi:i≤cols.length:=by omega
 have hk:k≤m:=by omega
 have hsz:=h.hsz
 have hmb:=h.hm
 refine specB_of sg Tryz.func200 rfl rfl rfl ?_
 unfold fillH
 refine T_op (OpT.box (cs:=[.int .i64 (i:Nat)]) rfl rfl rfl rfl rfl rfl rfl (fun p3=>?_))
 refine T_op (OpT.box (cs:=[.int .i64 (k:Nat)]) rfl rfl rfl rfl rfl rfl rfl (fun p4=>?_))
 repeat' (first|refine d1 ?_|refine dd ?_|(show T _ (.ops _ (_::_)::_) _ _ _;first|refine T_val rfl (Val.nilc rfl) rfl rfl rfl ?_|refine T_valC rfl (Val.nilc rfl) rfl rfl rfl rfl rfl ?_)|(show T _ (.run _ _ (_::_) _ _::_) _ _ _;first|refine rv rfl rfl rfl (Val.nilc rfl) rfl rfl rfl ?_|refine rg rfl rfl rfl (Val.nilc rfl) rfl rfl rfl rfl rfl ?_|refine ro rfl rfl (OpT.call rfl rfl rfl rfl rfl (fun w hw=>steps21_spec c _ _ _ _ i k w) (fun u R hR=>?_)))|(show ∀ _:Nat,T _ _ _ _ _;intro _))
 obtain⟨⟨q1,q2,q3⟩,-,rfl,rfl⟩:=hR
 rename_i p5
 refine ⟨by intro _;exact Hle.append_right (K:=[]) _,?_⟩
 dsimp only
 repeat' (first|refine d1 ?_|refine dd ?_|(show ∀ _:Nat,T _ _ _ _ _;intro _))
 refine T_rangeA (steps_iter h ca ct (some ⟨g,0,none⟩) (cols.length+1) cap i k hi hk q1 q2 q3) rfl (fun j y hy=>by obtain⟨v,_,rfl⟩:=stepsV_at hy;exact⟨rfl,rfl⟩)
  (fun jj H=>∃ M,M.length=cols.length+1∧RowsOk (inWork (grdA c l cols t) cols.length m j i k jj) (m+1) M∧H=blk p5 [.bool (decide (jj=0))] 4::blk p4 [.int .i64 (k:Nat)] 3::blk p3 [.int .i64 (i:Nat)] 3::fillH c (.slice A n ca) K (.slice At m ct) pb pa g cap cols.length m M Kr) (fun _=>False) (fun _ _=>False)
  (blk p5 [.bool true] 4::blk p4 [.int .i64 (k:Nat)] 3::blk p3 [.int .i64 (i:Nat)] 3::fillH c (.slice A n ca) K (.slice At m ct) pb pa g cap cols.length m M Kr) ⟨M,hM,hS.ext hM fun i' k' _ _=>(inWork_zero hp hno i' k').symm,rfl⟩ (Hle.refl _) ?_ ?_ (fun _ _ h=>h.elim) (fun _ _ _ h=>h.elim)
 ·rintro Lp r jj yv Hj K2 hr hyv ⟨M1,hM1,hS1,rfl⟩
  obtain⟨v,hv,rfl⟩:=stepsV_at hyv
  have hb1:=h.to hi hk hv
  have hrb:=h.rst (i+v.fst) (k+v.snd)
  obtain⟨⟨g1,c1⟩,hV1⟩:∃ x,M1[i+v.fst]?=some x:=⟨_,List.getElem?_eq_getElem (by omega)⟩
  obtain⟨⟨g0,c0⟩,hV0⟩:∃ x,M1[i]?=some x:=⟨_,List.getElem?_eq_getElem (by omega)⟩
  have hc1:c1=valV (inWork (grdA c l cols t) cols.length m j i k jj (i+v.fst)) (m+1):=hS1 _ _ hV1
  have hc0:c0=valV (inWork (grdA c l cols t) cols.length m j i k jj i) (m+1):=hS1 _ _ hV0
  have e1:inWork (grdA c l cols t) cols.length m j i k jj (i+v.fst) (k+v.snd)=rst (grdA c l cols t) (i+v.fst) (k+v.snd):=by
   unfold inWork;rw [if_neg (by omega)];exact soFar_get hp _ (by omega) (by omega) (by omega)
  have e0:inWork (grdA c l cols t) cols.length m j i k jj i k=(accW (grdA c l cols t) i k jj).1:=if_pos ⟨rfl,rfl⟩
  have es:accW (grdA c l cols t) i k (jj+1)=stepW (grdA c l cols t) i k (accW (grdA c l cols t) i k jj) jj v:=accW_step hv
  have hd:∀ {r:Nat} {gr:Nat} {cr:List Value},M1[r]?=some (gr,cr)→(M1.map (slv m))[r]?=some (.slice (some ⟨gr,0,none⟩) (m+1) (m+1)):=fun h=>by rw [List.getElem?_map,h];rfl
  have hl0:c0.length=m+1:=by rw [hc0,valV_length]
  show T _ _ ((14, .agg v.cells.toArray)::_) _ (lrec Lp r::blk p5 [.bool (decide (jj=0))] 4::blk p4 [.int .i64 (k:Nat)] 3::blk p3 [.int .i64 (i:Nat)] 3::blks 3 M1::row 40 1 (some ⟨g,0,none⟩) cap (cols.length+1) (M1.map (slv m))::blk pb [.pointer (some ⟨pa,0,none⟩)] 156::blk pa (addL c (.slice A n ca) K (.slice At m ct) (.slice (some ⟨g,0,none⟩) (cols.length+1) cap)) 158::(Kr++K2))
  repeat' (first|refine d1 ?_|refine dd ?_|(show ∀ _:Nat,T _ _ _ _ _;intro _))
  rename_i p6
  refine T_le (H':=lrec Lp r::blk p6 v.cells 163::blk p5 [.bool (decide (jj=0))] 4::blk p4 [.int .i64 (k:Nat)] 3::blk p3 [.int .i64 (i:Nat)] 3::blks 3 M1::row 40 1 (some ⟨g,0,none⟩) cap (cols.length+1) (M1.map (slv m))::blk pb [.pointer (some ⟨pa,0,none⟩)] 156::blk pa (addL c (.slice A n ca) K (.slice At m ct) (.slice (some ⟨g,0,none⟩) (cols.length+1) cap)) 158::(Kr++K2)) (Hle.perm (List.Perm.swap _ _ _)) ?_
  refine T_begin hr rfl ?_
  repeat' (first|refine d1 ?_|refine dd ?_|(show T _ (.ops _ (_::_)::_) _ _ _;first|refine T_val rfl (Val.nilc rfl) rfl rfl rfl ?_|refine T_valC rfl (Val.nilc rfl) rfl rfl rfl rfl rfl ?_|refine T_val rfl (Val.load rfl (fun hg=>rdRow (A:=some ⟨g,0,none⟩) (vs:=[.slice (some ⟨g1,0,none⟩) (m+1) (m+1)]) (by omega) (get1 (by rw [show 0+((i:Int)+v.fst).toNat * 1=i+v.fst by omega];exact hd hV1)))) rfl rfl rfl ?_|refine T_valC rfl (Val.load rfl (fun hg=>rdRow (A:=some ⟨g,0,none⟩) (vs:=[.slice (some ⟨g1,0,none⟩) (m+1) (m+1)]) (by omega) (get1 (by rw [show 0+((i:Int)+v.fst).toNat * 1=i+v.fst by omega];exact hd hV1)))) rfl rfl rfl rfl rfl ?_|refine T_val rfl (Val.load rfl (fun hg=>rdM (l:=M1) (k:=i+v.fst) (g:=g1) (vs:=[.int .i64 (rst (grdA c l cols t) (i+v.fst) (k+v.snd))]) hV1 (get1 (by rw [hc1, ← e1];exact vget (k+v.snd) (by omega) (by omega))))) rfl rfl rfl ?_|refine T_valC rfl (Val.load rfl (fun hg=>rdM (l:=M1) (k:=i+v.fst) (g:=g1) (vs:=[.int .i64 (rst (grdA c l cols t) (i+v.fst) (k+v.snd))]) hV1 (get1 (by rw [hc1, ← e1];exact vget (k+v.snd) (by omega) (by omega))))) rfl rfl rfl rfl rfl ?_|refine T_val rfl (Val.load rfl (fun hg=>rdRow (A:=some ⟨g,0,none⟩) (vs:=[.slice (some ⟨g0,0,none⟩) (m+1) (m+1)]) (by omega) (get1 (by rw [show 0+(i:Int).toNat * 1=i by omega];exact hd hV0)))) rfl rfl rfl ?_|refine T_valC rfl (Val.load rfl (fun hg=>rdRow (A:=some ⟨g,0,none⟩) (vs:=[.slice (some ⟨g0,0,none⟩) (m+1) (m+1)]) (by omega) (get1 (by rw [show 0+(i:Int).toNat * 1=i by omega];exact hd hV0)))) rfl rfl rfl rfl rfl ?_|refine T_val rfl (Val.load rfl (fun hg=>rdM (l:=M1) (k:=i) (g:=g0) (vs:=[.int .i64 (accW (grdA c l cols t) i k jj).1]) hV0 (get1 (by rw [hc0, ← e0];exact vget k (by omega) (by omega))))) rfl rfl rfl ?_|refine T_valC rfl (Val.load rfl (fun hg=>rdM (l:=M1) (k:=i) (g:=g0) (vs:=[.int .i64 (accW (grdA c l cols t) i k jj).1]) hV0 (get1 (by rw [hc0, ← e0];exact vget k (by omega) (by omega))))) rfl rfl rfl rfl rfl ?_)|(show T _ (.run _ _ (_::_) _ _::_) _ _ _;first|refine rv rfl rfl rfl (Val.nilc rfl) rfl rfl rfl ?_|refine rg rfl rfl rfl (Val.nilc rfl) rfl rfl rfl rfl rfl ?_|refine rv rfl rfl rfl (Val.load rfl (fun hg=>rdRow (A:=some ⟨g,0,none⟩) (vs:=[.slice (some ⟨g1,0,none⟩) (m+1) (m+1)]) (by omega) (get1 (by rw [show 0+((i:Int)+v.fst).toNat * 1=i+v.fst by omega];exact hd hV1)))) rfl rfl rfl ?_|refine rg rfl rfl rfl (Val.load rfl (fun hg=>rdRow (A:=some ⟨g,0,none⟩) (vs:=[.slice (some ⟨g1,0,none⟩) (m+1) (m+1)]) (by omega) (get1 (by rw [show 0+((i:Int)+v.fst).toNat * 1=i+v.fst by omega];exact hd hV1)))) rfl rfl rfl rfl rfl ?_|refine rv rfl rfl rfl (Val.load rfl (fun hg=>rdM (l:=M1) (k:=i+v.fst) (g:=g1) (vs:=[.int .i64 (rst (grdA c l cols t) (i+v.fst) (k+v.snd))]) hV1 (get1 (by rw [hc1, ← e1];exact vget (k+v.snd) (by omega) (by omega))))) rfl rfl rfl ?_|refine rg rfl rfl rfl (Val.load rfl (fun hg=>rdM (l:=M1) (k:=i+v.fst) (g:=g1) (vs:=[.int .i64 (rst (grdA c l cols t) (i+v.fst) (k+v.snd))]) hV1 (get1 (by rw [hc1, ← e1];exact vget (k+v.snd) (by omega) (by omega))))) rfl rfl rfl rfl rfl ?_|refine rv rfl rfl rfl (Val.load rfl (fun hg=>rdRow (A:=some ⟨g,0,none⟩) (vs:=[.slice (some ⟨g0,0,none⟩) (m+1) (m+1)]) (by omega) (get1 (by rw [show 0+(i:Int).toNat * 1=i by omega];exact hd hV0)))) rfl rfl rfl ?_|refine rg rfl rfl rfl (Val.load rfl (fun hg=>rdRow (A:=some ⟨g,0,none⟩) (vs:=[.slice (some ⟨g0,0,none⟩) (m+1) (m+1)]) (by omega) (get1 (by rw [show 0+(i:Int).toNat * 1=i by omega];exact hd hV0)))) rfl rfl rfl rfl rfl ?_|refine rv rfl rfl rfl (Val.load rfl (fun hg=>rdM (l:=M1) (k:=i) (g:=g0) (vs:=[.int .i64 (accW (grdA c l cols t) i k jj).1]) hV0 (get1 (by rw [hc0, ← e0];exact vget k (by omega) (by omega))))) rfl rfl rfl ?_|refine rg rfl rfl rfl (Val.load rfl (fun hg=>rdM (l:=M1) (k:=i) (g:=g0) (vs:=[.int .i64 (accW (grdA c l cols t) i k jj).1]) hV0 (get1 (by rw [hc0, ← e0];exact vget k (by omega) (by omega))))) rfl rfl rfl rfl rfl ?_)|(show ∀ _:Nat,T _ _ _ _ _;intro _))
  refine T_if rfl (fun h6=>?_) (fun h6=>?_)
  ·simp only [Bool.or_eq_true,decide_eq_true_eq] at h6
   have es2:(accW (grdA c l cols t) i k (jj+1)).1=via (grdA c l cols t) i k v:=by
    rw [es];unfold stepW;rw [if_pos]
    exact h6
   refine rsH [blk p4 [.int .i64 (k:Nat)] 3,blk p3 [.int .i64 (i:Nat)] 3,row 40 1 (some ⟨g,0,none⟩) cap (cols.length+1) (M1.map (slv m)),blk pb [.pointer (some ⟨pa,0,none⟩)] 156,blk pa (addL c (.slice A n ca) K (.slice At m ct) (.slice (some ⟨g,0,none⟩) (cols.length+1) cap)) 158] 1000 [0,1,2,3,4,5,6,7,8,9,10,11] ?_
   repeat' (first|refine d1 ?_|refine dd ?_|(show T _ (.ops _ (_::_)::_) _ _ _;first|refine T_val rfl (Val.nilc rfl) rfl rfl rfl ?_|refine T_valC rfl (Val.nilc rfl) rfl rfl rfl rfl rfl ?_|refine T_val rfl (Val.load rfl (fun hg=>rdRow (A:=some ⟨g,0,none⟩) (vs:=[.slice (some ⟨g0,0,none⟩) (m+1) (m+1)]) (by omega) (get1 (by rw [show 0+(i:Int).toNat * 1=i by omega];exact hd hV0)))) rfl rfl rfl ?_|refine T_valC rfl (Val.load rfl (fun hg=>rdRow (A:=some ⟨g,0,none⟩) (vs:=[.slice (some ⟨g0,0,none⟩) (m+1) (m+1)]) (by omega) (get1 (by rw [show 0+(i:Int).toNat * 1=i by omega];exact hd hV0)))) rfl rfl rfl rfl rfl ?_)|(show T _ (.run _ _ (_::_) _ _::_) _ _ _;first|refine rv rfl rfl rfl (Val.nilc rfl) rfl rfl rfl ?_|refine rg rfl rfl rfl (Val.nilc rfl) rfl rfl rfl rfl rfl ?_|refine rv rfl rfl rfl (Val.load rfl (fun hg=>rdRow (A:=some ⟨g,0,none⟩) (vs:=[.slice (some ⟨g0,0,none⟩) (m+1) (m+1)]) (by omega) (get1 (by rw [show 0+(i:Int).toNat * 1=i by omega];exact hd hV0)))) rfl rfl rfl ?_|refine rg rfl rfl rfl (Val.load rfl (fun hg=>rdRow (A:=some ⟨g,0,none⟩) (vs:=[.slice (some ⟨g0,0,none⟩) (m+1) (m+1)]) (by omega) (get1 (by rw [show 0+(i:Int).toNat * 1=i by omega];exact hd hV0)))) rfl rfl rfl rfl rfl ?_|refine ro rfl rfl (OpT.storeM rfl rfl rfl hV0 rfl (by rw [hl0];omega) ⟨fun _=>Hle.sub,?_⟩)|refine ro rfl rfl (OpT.store rfl rfl rfl rfl (by decide) ⟨fun _=>Hle.sub,?_⟩))|(show ∀ _:Nat,T _ _ _ _ _;intro _))
   rw [show 0+(k:Int).toNat * 1=k by omega]
   refine T_next (blk p5 [.bool (decide (jj+1=0))] 4::blk p4 [.int .i64 (k:Nat)] 3::blk p3 [.int .i64 (i:Nat)] 3::fillH c (.slice A n ca) K (.slice At m ct) pb pa g cap cols.length m (M1.set i (g0,c0.set k (.int .i64 (via (grdA c l cols t) i k v)))) Kr) ⟨_,by rw [List.length_set];exact hM1,rows_put hS1 hV0 fun i' k'=>?_,rfl⟩ ?_
   ·unfold inWork
    rw [es2]
    split <;> rfl
   ·unfold fillH
    rw [slv_set hV0,show decide (jj+1=0)=false by simp]
    exact Hle.drop2 _ _ _
  ·simp only [Bool.or_eq_false_iff,decide_eq_false_iff_not] at h6
   have es2:(accW (grdA c l cols t) i k (jj+1)).1=(accW (grdA c l cols t) i k jj).1:=by
    rw [es,stepW_fst,if_neg h6.1]
    have h7:¬ via (grdA c l cols t) i k v<(accW (grdA c l cols t) i k jj).1:=h6.2
    omega
   repeat' (first|refine d1 ?_|refine dd ?_|(show ∀ _:Nat,T _ _ _ _ _;intro _))
   refine T_next (blk p5 [.bool (decide (jj+1=0))] 4::blk p4 [.int .i64 (k:Nat)] 3::blk p3 [.int .i64 (i:Nat)] 3::fillH c (.slice A n ca) K (.slice At m ct) pb pa g cap cols.length m M1 Kr) ⟨M1,hM1,hS1.ext hM1 fun i' k' _ _=>?_,rfl⟩ ?_
   ·unfold inWork;rw [es2]
   ·unfold fillH
    rw [show decide (jj+1=0)=decide (jj=0) by rw [decide_eq_false h6.1];simp]
    exact Hle.drop2 _ _ _
 ·rintro D Hn ⟨M1,hM1,hS1,rfl⟩
  rw [stepsV_len] at hS1
  show T _ _ _ _ (dfr D::blk q3 _ _::blk q1 _ _::blk q2 _ _::blk p5 _ _::blk p4 _ _::blk p3 _ _::fillH c (.slice A n ca) K (.slice At m ct) pb pa g cap cols.length m M1 Kr)
  repeat' (first|refine d1 ?_|refine dd ?_|(show ∀ _:Nat,T _ _ _ _ _;intro _)|(show T _ _ _ _ _;refine T_fallD (Hle.refl _) (rf_V (vs:=[]) (fillH c (.slice A n ca) K (.slice At m ct) pb pa g cap cols.length m M1 Kr) rfl ((Hle.tail _ _).trans ((Hle.tail _ _).trans ((Hle.tail _ _).trans ((Hle.tail _ _).trans ((Hle.tail _ _).trans (Hle.tail _ _)))))) ⟨rfl,M1,hM1,hS1.ext hM1 fun i' k' _ _=>inWork_all hp i' k',rfl⟩)))
end Go.Proofs.YtmenjpmikhajfaaGreatDoor
namespace Go.Proofs.YtmenjpmikhajfaaGreatDoor
open Go.RowKit Go.Shelf Go.Proofs
set_option maxRecDepth 100000
set_option maxHeartbeats 1000000

theorem Hle.drop3 (A B C:HA) (K:List HA):Hle (A::B::C::K) (A::B::K):=by
 refine Hle.pick (fun i=>if i<2 then i else i+1) (fun i X h=>?_) (fun i j _ _ h=>by show (if i<2 then i else i+1)≠(if j<2 then j else j+1);split <;> split <;> omega)
 rcases i with _|_|i
 ·simpa using h
 ·simpa using h
 ·rw [if_neg (by omega)];simpa using h
theorem fill21_spec {w0:World} {c:Costs} {A:Option Addr} {n:Nat} {l:List TS} {K:Value} {cols:List (List Int)} {At:Option Addr} {m:Nat} {t:List Tok} (h:AddW w0 c A n l K cols At m t) (ca ct pa:Nat) (Kr:List HA) :
  SpecB Tryz.prog 142 [.pointer (some ⟨pa,0,none⟩)] w0 (blk pa (addL c (.slice A n ca) K (.slice At m ct) (.slice none 0 0)) 158::Kr)
   (fun v R=>v = .tuple #[]∧∃ M g cap,M.length=cols.length+1∧RowsOk (rst (grdA c l cols t)) (m+1) M∧R=blks 3 M::row 40 1 (some ⟨g,0,none⟩) cap (cols.length+1) (M.map (slv m))::blk pa (addL c (.slice A n ca) K (.slice At m ct) (.slice (some ⟨g,0,none⟩) (cols.length+1) cap)) 158::Kr):=by
 have hsz:=h.hsz
 have hmb:=h.hm
 obtain⟨Ak,ck,csk,rfl,hck1,hck2,hcs,hrows⟩:=h.hx.tabS
 refine specB_of sg Tryz.func142 rfl rfl rfl ?_
 refine T_op (OpT.box (cs:=[.pointer (some ⟨pa,0,none⟩)]) rfl rfl rfl rfl rfl rfl rfl (fun pb=>?_))
 repeat' (first|refine d1 ?_|refine dd ?_|(show T _ (.ops _ (_::_)::_) _ _ _;first|refine T_val rfl (Val.nilc rfl) rfl rfl rfl ?_|refine T_valC rfl (Val.nilc rfl) rfl rfl rfl rfl rfl ?_)|(show T _ (.run _ _ (_::_) _ _::_) _ _ _;first|refine rv rfl rfl rfl (Val.nilc rfl) rfl rfl rfl ?_|refine rg rfl rfl rfl (Val.nilc rfl) rfl rfl rfl rfl rfl ?_)|(show ∀ _:Nat,T _ _ _ _ _;intro _))
 refine T_nilrow 40 1 ?_
 refine T_nilblks 3 ?_
 refine T_loopX (fun s:List (Nat × List Value) × (Option Addr × Nat)=>[(11, .int .i64 s.1.length)]) (fun s=>blks 3 s.1::row 40 1 s.2.1 s.2.2 s.1.length (s.1.map (slv m))::blk pb [.pointer (some ⟨pa,0,none⟩)] 156::blk pa (addL c (.slice A n ca) (.slice Ak cols.length ck) (.slice At m ct) (.slice s.2.1 s.1.length s.2.2)) 158::Kr) (fun s=>s.1.length≤cols.length+1∧RowsOk (fun _ _=>0) (m+1) s.1) (fun s=>cols.length+1 - s.1.length) ([],(none,0)) ⟨Nat.zero_le _,fun i x h=>by simp at h⟩ ?_
 rintro⟨L,Ar,capr⟩ ⟨hL,hR⟩
 dsimp only at hL hR ⊢
 repeat' (first|refine d1 ?_|refine dd ?_|(show ∀ _:Nat,T _ _ _ _ _;intro _))
 refine T_if rfl (fun h1=>?_) (fun h1=>?_)
 ·simp only [decide_eq_true_eq] at h1
  have hLt:L.length<cols.length+1:=by omega
  refine dw0 16 [blk pb [.pointer (some ⟨pa,0,none⟩)] 156,blk pa (addL c (.slice A n ca) (.slice Ak cols.length ck) (.slice At m ct) (.slice Ar L.length capr)) 158] ?_
  repeat' (first|(show T _ (.draw _ _ _ _ _::_) _ _ _;first|refine dw1 ?_|refine dwv rfl (by decide +kernel) rfl rfl (Val.nilc rfl) rfl rfl rfl ?_|refine dwg rfl (by decide +kernel) rfl rfl (Val.nilc rfl) rfl rfl rfl rfl rfl ?_|refine dwb rfl (by decide +kernel) ?_)|(show AllL _ [];exact True.intro)|(show AllL _ (_::_);refine ⟨?_,?_⟩)|(show OpT _ _ _ _ _ _ _;first|refine dwx ?_|refine OpT.ofVal rfl (Val.nilc rfl) rfl rfl rfl ⟨fun _=>(by first|exact Hle.none _|exact Hle.sub|exact absurd ‹_› (by decide +kernel)),?_⟩|refine OpT.make rfl rfl rfl rfl rfl rfl rfl rfl rfl (by dsimp only;omega) (fun b2=>⟨fun _=>(by first|exact Hle.none _|exact Hle.sub|exact absurd ‹_› (by decide +kernel)),?_⟩)|refine OpT.litW rfl rfl rfl rfl rfl rfl rfl rfl rfl rfl rfl (fun b3=>⟨fun _=>(by first|exact Hle.none _|exact Hle.sub|exact absurd ‹_› (by decide +kernel)),?_⟩)|refine OpT.append rfl rfl rfl rfl rfl rfl rfl rfl rfl rfl (fun w hw=>Src.own hw rfl) rfl (by dsimp only;omega) (by omega) (fun A' cap' hA'=>⟨fun _=>(by first|exact Hle.none _|exact Hle.sub|exact absurd ‹_› (by decide +kernel)),?_⟩)|refine OpT.store rfl rfl rfl rfl (by decide) ⟨fun _=>(by first|exact Hle.none _|exact Hle.sub|exact absurd ‹_› (by decide +kernel)),?_⟩)|(show ∀ _:Nat,T _ _ _ _ _;intro _))
  repeat' (first|refine d1 ?_|refine dd ?_|(show ∀ _:Nat,T _ _ _ _ _;intro _))
  rename_i b2 b3
  refine T_backX (L++[(b2,List.replicate (m+1) (.int .i64 0))],(A',cap')) ⟨by dsimp only;rw [List.length_append];exact Nat.succ_le_of_lt hLt,rows_snoc0 hR⟩ (by dsimp only;rw [List.length_append];simp;omega) (hE:=⟨by dsimp only;rw [List.length_append];rfl,trivial⟩) (hG:=?_)
  dsimp only
  rw [List.length_append,List.map_append]
  exact (Hle.tail _ _).trans blks_snoc
 simp only [decide_eq_false_iff_not] at h1
 have hLn:L.length=cols.length+1:=by omega
 rw [hLn]
 refine T_rowpos (A:=Ar) (by omega) (fun g e=>?_)
 subst e
 have hR0:RowsOk (soFar cols.length m 0 (rst (grdA c l cols t))) (m+1) L:=fun i x hx=>by rw [hR i x hx,soFar_zero]
 repeat' (first|refine d1 ?_|refine dd ?_|(show T _ (.ops _ (_::_)::_) _ _ _;first|refine T_val rfl (Val.nilc rfl) rfl rfl rfl ?_|refine T_valC rfl (Val.nilc rfl) rfl rfl rfl rfl rfl ?_)|(show T _ (.run _ _ (_::_) _ _::_) _ _ _;first|refine rv rfl rfl rfl (Val.nilc rfl) rfl rfl rfl ?_|refine rg rfl rfl rfl (Val.nilc rfl) rfl rfl rfl rfl rfl ?_)|(show ∀ _:Nat,T _ _ _ _ _;intro _))
 refine T_loopX (fun s:Nat × List (Nat × List Value)=>[(3, .int .i64 ((cols.length:Int) - s.1))]) (fun s=>fillH c (.slice A n ca) (.slice Ak cols.length ck) (.slice At m ct) pb pa g capr cols.length m s.2 Kr) (fun s=>s.1≤cols.length+1∧s.2.length=cols.length+1∧RowsOk (soFar cols.length m (s.1 * (m+1)) (rst (grdA c l cols t))) (m+1) s.2) (fun s=>cols.length+1 - s.1) (0,L) ⟨Nat.zero_le _,hLn,by rw [Nat.zero_mul];exact hR0⟩ ?_ (hE:=⟨by rw [show (cols.length:Int) - ((0:Nat):Int)=cols.length by omega];rfl,trivial⟩)
 rintro⟨p,M⟩ ⟨hp,hM,hS⟩
 dsimp only at hp hM hS ⊢
 repeat' (first|refine d1 ?_|refine dd ?_|(show ∀ _:Nat,T _ _ _ _ _;intro _))
 refine T_if rfl (fun h3=>?_) (fun h3=>?_)
 ·simp only [decide_eq_true_eq] at h3
  repeat' (first|refine d1 ?_|refine dd ?_|(show T _ (.ops _ (_::_)::_) _ _ _;first|refine T_val rfl (Val.nilc rfl) rfl rfl rfl ?_|refine T_valC rfl (Val.nilc rfl) rfl rfl rfl rfl rfl ?_)|(show T _ (.run _ _ (_::_) _ _::_) _ _ _;first|refine rv rfl rfl rfl (Val.nilc rfl) rfl rfl rfl ?_|refine rg rfl rfl rfl (Val.nilc rfl) rfl rfl rfl rfl rfl ?_)|(show ∀ _:Nat,T _ _ _ _ _;intro _))
  refine T_loopX (fun s:Nat × List (Nat × List Value)=>[(4, .int .i64 ((m:Int) - s.1))]) (fun s=>fillH c (.slice A n ca) (.slice Ak cols.length ck) (.slice At m ct) pb pa g capr cols.length m s.2 Kr) (fun s=>s.1≤m+1∧s.2.length=cols.length+1∧RowsOk (soFar cols.length m (p * (m+1)+s.1) (rst (grdA c l cols t))) (m+1) s.2) (fun s=>m+1 - s.1) (0,M) ⟨Nat.zero_le _,hM,hS⟩ ?_ (hE:=⟨by rw [show (m:Int) - ((0:Nat):Int)=m by omega];rfl,trivial⟩)
  rintro⟨q,M2⟩ ⟨hq,hM2,hS2⟩
  dsimp only at hq hM2 hS2 ⊢
  repeat' (first|refine d1 ?_|refine dd ?_|(show ∀ _:Nat,T _ _ _ _ _;intro _))
  refine T_if rfl (fun h4=>?_) (fun h4=>?_)
  ·simp only [decide_eq_true_eq] at h4
   have hpl:=placesL_get (n:=cols.length) (m:=m) (p:=p) (q:=q) (by omega) (by omega)
   have hno:=place_new (n:=cols.length) (m:=m) (p:=p) (q:=q) (by omega) (by omega)
   obtain⟨i,hi⟩:∃ i,i=cols.length - p:=⟨_,rfl⟩
   obtain⟨k,hkk⟩:∃ k,k=m - q:=⟨_,rfl⟩
   rw [show (cols.length:Int) - p=(i:Nat) by omega,show (m:Int) - q=(k:Nat) by omega]
   rw [← hi, ← hkk] at hpl hno
   repeat' (first|refine d1 ?_|refine dd ?_|(show T _ (.ops _ (_::_)::_) _ _ _;refine T_op (OpT.callB rfl rfl rfl rfl rfl (fill1_spec h ca ct pb pa g capr Kr M2 _ i k hpl hno hM2 hS2) (fun u R hR=>?_)))|(show ∀ _:Nat,T _ _ _ _ _;intro _))
   obtain⟨rfl,M3,hM3,hS3,rfl⟩:=hR
   repeat' (first|refine d1 ?_|refine dd ?_|(show ∀ _:Nat,T _ _ _ _ _;intro _))
   exact T_backX (q+1,M3) ⟨by dsimp only;omega,hM3,hS3⟩ (by dsimp only;omega) (hE:=⟨by dsimp only;rw [show (m:Int) - ((q+1:Nat):Int)=(k:Int) - 1 by omega];rfl,trivial⟩)
  ·simp only [decide_eq_false_iff_not] at h4
   obtain rfl:q=m+1:=by omega
   repeat' (first|refine d1 ?_|refine dd ?_|(show ∀ _:Nat,T _ _ _ _ _;intro _))
   exact T_backX (p+1,M2) ⟨by dsimp only;omega,hM2,by dsimp only;rw [Nat.succ_mul];exact hS2⟩ (by dsimp only;omega) (hE:=⟨by dsimp only;rw [show (cols.length:Int) - ((p+1:Nat):Int)=(cols.length:Int) - p - 1 by omega];rfl,trivial⟩)
 ·simp only [decide_eq_false_iff_not] at h3
  obtain rfl:p=cols.length+1:=by omega
  have hR':RowsOk (rst (grdA c l cols t)) (m+1) M:=hS.ext hM fun i k hi hk=>soFar_all (by rw [placesL_len];exact Nat.le_refl _) _ (by omega) (by omega)
  refine T_fallV (vs:=[]) (blks 3 M::row 40 1 (some ⟨g,0,none⟩) capr (cols.length+1) (M.map (slv m))::blk pa (addL c (.slice A n ca) (.slice Ak cols.length ck) (.slice At m ct) (.slice (some ⟨g,0,none⟩) (cols.length+1) capr)) 158::Kr) rfl ?_ ⟨rfl,M,g,capr,hM,hR',rfl⟩
  exact Hle.drop3 _ _ _ _
end Go.Proofs.YtmenjpmikhajfaaGreatDoor
namespace Go.Proofs.YtmenjpmikhajfaaGreatDoor
open Go.RowKit Go.Shelf Go.Proofs
set_option maxRecDepth 100000
set_option maxHeartbeats 1000000

theorem rd_one {R:Rdr} {vs:List Value} {ds:List D} (h:Rd R vs ds) {i:Nat} {x:Value} {d:D} (hx:vs[i]?=some x) (hd:ds[i]?=some d):Rd R [x] [d]:=by
 obtain⟨y,hy,hr⟩:=h.get hd
 rw [hx] at hy
 cases hy
 exact hr
end Go.Proofs.YtmenjpmikhajfaaGreatDoor
