/- Joined texts of this claim, part 4. -/
import Derived.Test.YthadgaboakipoaaGreatDoorR3
set_option linter.unusedSectionVars false
set_option linter.unusedVariables false
set_option linter.unusedSimpArgs false
namespace Go.Proofs.YthadgaboakipoaaGreatDoor
open Go.RowKit Go.Shelf Go.Proofs
set_option maxRecDepth 100000
set_option maxHeartbeats 1000000

open Classical in
noncomputable def sizT (l:List TS):Int × Int:=if l.length=0 then (0,5) else if 32<l.length∨∃ t∈l,1024<t.n then (0,4) else if volL (lens l)≤1073741824 then (((volL (lens l):Nat):Int),0) else (0,4)
theorem sizeT_spec (A:Option Addr) (n ca:Nat) (l:List TS) (p q:Nat) (w:World) (hst:Std w) (hs:Src w 1 A n (l.map TS.val)) (hn:l.length=n) (hl:TsOk w l) (hgr:great19B l p q=false) (hp:p≤32) (hq:q≤1000) :
  Spec Tryz.prog 116 [.slice A n ca] w (fun v R=>v = .tuple #[.int .i64 (sizT l).1, .int .i64 (sizT l).2]∧R=[]):=by
 subst hn
 obtain⟨g1,g2,g3⟩:=great19_no hl hgr
 refine spec_of sg Tryz.func116 rfl rfl rfl ?_
 by_cases h:l.length≠0∧(32<l.length∨∃ t∈l,1024<t.n)
 ·have e:sizT l=(0,4):=by unfold sizT;rw [if_neg h.1,if_pos h.2]
  rw [e]
  repeat' (first|refine d1 ?_|refine dd ?_|(show T _ (.ops _ (_::_)::_) _ _ _;first|refine T_call rfl rfl rfl rfl rfl (fun w hw=>srcsBig_spec A l.length ca l w (rdSrc hs w hw) rfl (by omega) h.1 h.2) ?_|refine T_callC rfl rfl rfl rfl rfl rfl rfl (fun hg w hw=>srcsBig_spec A l.length ca l w (rdSrc hs w hw) rfl (by omega) h.1 h.2) ?_)|(show T _ (.run _ _ (_::_) _ _::_) _ _ _;first|refine rc rfl rfl rfl rfl rfl rfl rfl (fun w hw=>srcsBig_spec A l.length ca l w (rdSrc hs w hw) rfl (by omega) h.1 h.2) ?_|refine rcG rfl rfl rfl rfl rfl rfl rfl rfl rfl (fun hg w hw=>srcsBig_spec A l.length ca l w (rdSrc hs w hw) rfl (by omega) h.1 h.2) ?_)|(show ∀ _:Nat,T _ _ _ _ _;intro _))
  refine T_if rfl (fun h=>?_) (fun h=>by exfalso;simp at h)
  repeat' (first|refine d1 ?_|refine dd ?_|(show ∀ _:Nat,T _ _ _ _ _;intro _)|(show T _ (.code .ret::_) _ _ _;refine T_retV [] rfl (Hle.none _) ⟨rfl,rfl⟩))
 have hgp:Grp w A l.length l:=by
  refine ⟨hst,hs,rfl,?_,hl,fun t ht=>?_,g3⟩
  ·refine Classical.byContradiction fun h9=>h ⟨by omega, .inl (by omega)⟩
  ·rcases g2 t ht with h9|h9
   ·omega
   ·exact absurd ⟨by have:=List.length_pos_of_mem ht;omega, .inr ⟨t,ht,h9.1⟩⟩ h
 repeat' (first|refine d1 ?_|refine dd ?_|(show T _ (.ops _ (_::_)::_) _ _ _;first|refine T_call rfl rfl rfl rfl rfl (fun w hw=>srcs19_spec A l.length ca l w (hgp.cls hw)) ?_|refine T_callC rfl rfl rfl rfl rfl rfl rfl (fun hg w hw=>srcs19_spec A l.length ca l w (hgp.cls hw)) ?_)|(show T _ (.run _ _ (_::_) _ _::_) _ _ _;first|refine rc rfl rfl rfl rfl rfl rfl rfl (fun w hw=>srcs19_spec A l.length ca l w (hgp.cls hw)) ?_|refine rcG rfl rfl rfl rfl rfl rfl rfl rfl rfl (fun hg w hw=>srcs19_spec A l.length ca l w (hgp.cls hw)) ?_)|(show ∀ _:Nat,T _ _ _ _ _;intro _))
 by_cases h0:l.length=0
 ·have e:sizT l=(0,5):=if_pos h0
  rw [e,if_pos h0]
  refine T_if rfl (fun h=>?_) (fun h=>by exfalso;simp at h)
  repeat' (first|refine d1 ?_|refine dd ?_|(show ∀ _:Nat,T _ _ _ _ _;intro _)|(show T _ (.code .ret::_) _ _ _;refine T_retV [] rfl (Hle.none _) ⟨rfl,rfl⟩))
 rw [if_neg h0]
 have hno:¬ (32<l.length∨∃ t∈l,1024<t.n):=fun h9=>h ⟨h0,h9⟩
 refine T_if rfl (fun h=>by exfalso;simp at h) (fun _=>?_)
 repeat' (first|refine d1 ?_|refine dd ?_|(show T _ (.ops _ (_::_)::_) _ _ _;first|refine T_call rfl rfl rfl rfl rfl (fun w hw=>size19_spec A l.length ca l 1073741824 w (hgp.cls hw) ⟨by omega,by omega⟩) ?_|refine T_callC rfl rfl rfl rfl rfl rfl rfl (fun hg w hw=>size19_spec A l.length ca l 1073741824 w (hgp.cls hw) ⟨by omega,by omega⟩) ?_)|(show T _ (.run _ _ (_::_) _ _::_) _ _ _;first|refine rc rfl rfl rfl rfl rfl rfl rfl (fun w hw=>size19_spec A l.length ca l 1073741824 w (hgp.cls hw) ⟨by omega,by omega⟩) ?_|refine rcG rfl rfl rfl rfl rfl rfl rfl rfl rfl (fun hg w hw=>size19_spec A l.length ca l 1073741824 w (hgp.cls hw) ⟨by omega,by omega⟩) ?_)|(show ∀ _:Nat,T _ _ _ _ _;intro _))
 by_cases h2:volL (lens l)≤1073741824
 ·have e:sizT l=(((volL (lens l):Nat):Int),0):=by unfold sizT;rw [if_neg h0,if_neg hno,if_pos h2]
  have ec:capV (volL (lens l)) 1073741824=volL (lens l):=if_pos h2
  rw [e,ec]
  refine T_if rfl (fun h=>by exfalso;simp at h;omega) (fun _=>?_)
  repeat' (first|refine d1 ?_|refine dd ?_|(show ∀ _:Nat,T _ _ _ _ _;intro _)|(show T _ (.code .ret::_) _ _ _;refine T_retV [] rfl (Hle.none _) ⟨rfl,rfl⟩))
 ·have e:sizT l=(0,4):=by unfold sizT;rw [if_neg h0,if_neg hno,if_neg h2]
  have ec:capV (volL (lens l)) 1073741824=1073741824+1:=if_neg h2
  rw [e,ec]
  refine T_if rfl (fun _=>?_) (fun h=>by exfalso;simp at h)
  repeat' (first|refine d1 ?_|refine dd ?_|(show ∀ _:Nat,T _ _ _ _ _;intro _)|(show T _ (.code .ret::_) _ _ _;refine T_retV [] rfl (Hle.none _) ⟨rfl,rfl⟩))
def subsI (k i:Nat) (b:Nat):List (List Nat):=(subsL k (i+1) b).map (i :: ·)
def subsP (k a b j:Nat):List (List Nat):=(List.range' a j).flatMap fun i=>subsI k i b
theorem subsP_succ (k a b j:Nat):subsP k a b (j+1)=subsP k a b j++subsI k (a+j) b:=by
 unfold subsP
 rw [List.range'_concat,List.flatMap_append]
 simp
theorem subsL_P (k a b:Nat):subsL (k+1) a b=subsP k a b (b - a):=rfl
theorem subsP_len {k b:Nat} (h:∀ a,(subsL k a b).length≤5 ^ k) (a:Nat):∀ j,(subsP k a b j).length≤j * 5 ^ k
 | 0=>by simp [subsP]
 | j+1=>by
  have h1:=subsP_len h a j
  have h2:=h (a+j+1)
  rw [subsP_succ,List.length_append,Nat.succ_mul,subsI,List.length_map]
  omega
theorem subsL_len {b:Nat} (hb:b≤4):∀ k a,(subsL k a b).length≤5 ^ k
 | 0,a=>Nat.le_refl _
 | k+1,a=>by
  have h1:=subsP_len (fun a=>subsL_len hb k a) a (b - a)
  have h2:(b - a) * 5 ^ k≤5 * 5 ^ k:=Nat.mul_le_mul_right _ (by omega)
  rw [subsL_P,Nat.pow_succ,Nat.mul_comm (5 ^ k) 5]
  omega
theorem subsL_mem:∀ (k a b:Nat),∀ r∈subsL k a b,r.length=k
 | 0,_,_,r,h=>by rw [List.mem_singleton.1 h];rfl
 | k+1,a,b,r,h=>by
  obtain⟨i,hi,hr⟩:=List.mem_flatMap.1 h
  obtain⟨s,hs,rfl⟩:=List.mem_map.1 hr
  rw [List.length_cons,subsL_mem k _ _ s hs]
theorem subsets_spec:∀ (k a b:Nat) (w:World),k≤4→a≤5→b≤4→Spec Tryz.prog 162 [.int .i64 (a:Nat), .int .i64 (b:Nat), .int .i64 (k:Nat)] w (fun v R=>∃ x:Value,True∧v=x∧R=[dat [x] [rowsD ((subsL k a b).map intN)]]):=by
 intro k
 induction k with
 | zero =>
  intro a b w _ ha hb
  refine spec_of sg Tryz.func162 rfl rfl rfl ?_
  repeat' (first|refine d1 ?_|refine dd ?_|(show ∀ _:Nat,T _ _ _ _ _;intro _))
  refine T_if rfl (fun _=>?_) (fun h=>by exfalso;simp at h)
  repeat' (first|refine d1 ?_|refine dd ?_|(show ∀ _:Nat,T _ _ _ _ _;intro _))
  rename_i b9
  repeat' (first|refine d1 ?_|refine dd ?_|(show ∀ _:Nat,T _ _ _ _ _;intro _)|(show T _ (.code .ret::_) _ _ _;refine T_retV _ rfl ((hle_unit (B:=dat [.slice none 0 0] [intsD []]) (.s none 0 0 1 [] rfl (Nat.le_refl _) (by omega) (fun h=>absurd h (by omega)) .nil .nil)).trans ((Hle.perm (List.Perm.swap _ _ _)).trans (dat_blk (sz:=1) (n:=1) (cs:=[.slice none 0 0]) rfl (by omega)))) ⟨_,trivial,rfl,rfl⟩))
 | succ k ih =>
  intro a b w hk ha hb
  have hp5:5 ^ k≤625:=Nat.le_trans (Nat.pow_le_pow_right (by omega) (show k≤4 by omega)) (by decide)
  refine spec_of sg Tryz.func162 rfl rfl rfl ?_
  repeat' (first|refine d1 ?_|refine dd ?_|(show ∀ _:Nat,T _ _ _ _ _;intro _))
  refine T_if rfl (fun h=>by exfalso;simp at h;omega) (fun _=>?_)
  repeat' (first|refine d1 ?_|refine dd ?_|(show ∀ _:Nat,T _ _ _ _ _;intro _))
  refine T_le (dat_nil _) ?_
  refine T_nilrow 27 1 ?_
  refine T_loopX (fun s:Nat × (Option Addr × Nat) × List Value=>[(8, .int .i64 ((a+s.1:Nat):Int)),(7, .slice s.2.1.1 (subsP k a b s.1).length s.2.1.2)]) (fun s=>[row 27 1 s.2.1.1 s.2.1.2 (subsP k a b s.1).length s.2.2,dat s.2.2 (((subsP k a b s.1).map intN).map intsD)]) (fun s=>s.1≤b - a) (fun s=>b - a - s.1) (0,(none,0),[]) (Nat.zero_le _) ?_
  rintro⟨j,⟨A,c⟩,hs⟩ hj
  dsimp only at hj ⊢
  have hPl:=subsP_len (fun a=>subsL_len hb k a) a j
  have hPj:j * 5 ^ k≤4 * 625:=Nat.mul_le_mul (by omega) hp5
  have hLl:=subsL_len hb k (a+j+1)
  repeat' (first|refine d1 ?_|refine dd ?_|(show ∀ _:Nat,T _ _ _ _ _;intro _))
  refine T_if rfl (fun h=>?_) (fun h=>?_)
  ·simp only [decide_eq_true_eq] at h
   have hjb:j<b - a:=by omega
   repeat' (first|refine d1 ?_|refine dd ?_|(show ∀ _:Nat,T _ _ _ _ _;intro _))
   rw [show (((a+j:Nat):Int)+1)=((a+j+1:Nat):Int) by omega,show (((k+1:Nat):Int) - 1)=((k:Nat):Int) by omega]
   repeat' (first|refine d1 ?_|refine dd ?_|(show T _ (.ops _ (_::_)::_) _ _ _;refine T_op (OpT.call rfl rfl rfl rfl rfl (fun w hw=>ih (a+j+1) b w (by omega) (by omega) hb) ?_))|(show ∀ _:Nat,T _ _ _ _ _;intro _))
   rintro x R ⟨_,-,rfl,rfl⟩
   refine T_le (H':=[dat [x] [rowsD ((subsL k (a+j+1) b).map intN)],row 27 1 A c (subsP k a b j).length hs,dat hs (((subsP k a b j).map intN).map intsD)]) (Hle.refl _) ?_
   refine T_open fun p hp=>?_
   obtain⟨Ax,cx,csx,rfl,hx1,hx2,hxl,hxr,hxrows⟩:=hp.tab
   rw [List.length_map] at hx1 hxl hxr ⊢
   refine T_le (H':=[row 27 1 A c (subsP k a b j).length hs,dat hs (((subsP k a b j).map intN).map intsD),fz p]) Hle.srt ?_
   repeat' (first|refine d1 ?_|refine dd ?_|(show ∀ _:Nat,T _ _ _ _ _;intro _))
   refine T_loopX (fun s:Nat × (Option Addr × Nat) × List Value=>[(10, .int .i64 (s.1:Nat)),(7, .slice s.2.1.1 ((subsP k a b j).length+s.1) s.2.1.2)]) (fun s=>[row 27 1 s.2.1.1 s.2.1.2 ((subsP k a b j).length+s.1) s.2.2,dat s.2.2 (((subsP k a b j++(subsI k (a+j) b).take s.1).map intN).map intsD),fz p]) (fun s=>s.1≤(subsL k (a+j+1) b).length) (fun s=>(subsL k (a+j+1) b).length - s.1) (0,(A,c),hs) (Nat.zero_le _) ?_ (hG:=by rw [List.take_zero,List.append_nil];exact Hle.refl _)
   rintro⟨m,⟨A2,c2⟩,hs2⟩ hm
   dsimp only at hm ⊢
   repeat' (first|refine d1 ?_|refine dd ?_|(show ∀ _:Nat,T _ _ _ _ _;intro _))
   refine T_if rfl (fun h3=>?_) (fun h3=>?_)
   ·simp only [decide_eq_true_eq] at h3
    have hmn:m<(subsL k (a+j+1) b).length:=by omega
    obtain⟨bx,ox,rfl,hrx⟩:=hxr (by omega)
    obtain⟨r,hr⟩:∃ r,(subsL k (a+j+1) b)[m]?=some r:=⟨_,List.getElem?_eq_getElem hmn⟩
    obtain⟨Ar,capr,hcs,hr1,hr2,-⟩:=hxrows.tabRow (i:=m) (r:=intN r) (by rw [List.getElem?_map,hr];rfl)
    have hsr:∀ {w':World} {H:List HA} [FocusZ H p],Cls w w' H→Src w' 1 Ar (intN r).length ((intN r).map (Value.int .i64)):=fun {w' H} _ hw=>((rd_one hxrows hcs (by rw [List.getElem?_map,List.getElem?_map,hr];rfl)).own hw).intsAt
    have hrl:(intN r).length≤4:=by
     have h9:=subsL_mem k (a+j+1) b r (List.mem_of_getElem? hr)
     unfold intN
     rw [List.length_map];omega
    repeat' (first|refine d1 ?_|refine dd ?_|(show T _ (.ops _ (_::_)::_) _ _ _;first|refine T_val rfl (Val.load rfl (fun hg=>rdFz (p:=p) (u := .slice Ar (intN r).length capr) (b:=bx) (by rw [off1];exact hrx m _ hcs))) rfl rfl rfl ?_|refine T_valC rfl (Val.load rfl (fun hg=>rdFz (p:=p) (u := .slice Ar (intN r).length capr) (b:=bx) (by rw [off1];exact hrx m _ hcs))) rfl rfl rfl rfl rfl ?_)|(show T _ (.run _ _ (_::_) _ _::_) _ _ _;first|refine rv rfl rfl rfl (Val.load rfl (fun hg=>rdFz (p:=p) (u := .slice Ar (intN r).length capr) (b:=bx) (by rw [off1];exact hrx m _ hcs))) rfl rfl rfl ?_|refine rg rfl rfl rfl (Val.load rfl (fun hg=>rdFz (p:=p) (u := .slice Ar (intN r).length capr) (b:=bx) (by rw [off1];exact hrx m _ hcs))) rfl rfl rfl rfl rfl ?_)|(show ∀ _:Nat,T _ _ _ _ _;intro _))
    rename_i bl
    refine T_blk_rowh 1 1 rfl (by omega) ?_
    refine T_op (OpT.append (A:=some ⟨bl,0,none⟩) rfl rfl rfl rfl rfl rfl rfl rfl rfl rfl (fun w hw=>hsr hw) (oneInts _) (by dsimp only;omega) (by omega) (fun A' cap' hA'=>?_))
    repeat' (first|refine d1 ?_|refine dd ?_|(show T _ (.ops _ (_::_)::_) _ _ _;refine T_op (OpT.append (A:=A2) rfl rfl rfl rfl rfl rfl rfl rfl rfl rfl (fun w hw=>Src.own hw rfl) rfl (by dsimp only;omega) (by omega) (fun A'' cap'' hA''=>?_)))|(show ∀ _:Nat,T _ _ _ _ _;intro _))
    have hri:(intN ((a+j)::r)).map (Value.int .i64)=flatP [(0, .int .i64 ((a+j:Nat):Int))]++(intN r).map (Value.int .i64):=rfl
    have hst:(subsI k (a+j) b).take (m+1)=(subsI k (a+j) b).take m++[(a+j)::r]:=take_snoc _ _ _ (by unfold subsI;rw [List.getElem?_map,hr];rfl)
    refine T_backX (m+1,(A'',cap''),hs2++[.slice A' (1+(intN r).length) cap']) (by dsimp only;omega) (by dsimp only;omega) (hE:=⟨rfl,rfl,trivial⟩) (hG:=?_)
    dsimp only
    obtain⟨X,hX⟩:∃ X,X=subsP k a b j++(subsI k (a+j) b).take m:=⟨_,rfl⟩
    rw [hst, ← List.append_assoc, ← hX,List.map_append]
    exact (Hle.srt (K:=[row 3 1 A' cap' (1+(intN r).length) (flatP [(0, .int .i64 ((a+j:Nat):Int))]++(intN r).map (Value.int .i64)),dat hs2 ((X.map intN).map intsD),row 27 1 A'' cap'' ((subsP k a b j).length+m+1) (hs2++flatP [(0, .slice A' (1+(intN r).length) cap')]),fz p])).trans (out_hle (cl:=intN ((a+j)::r)) rfl)
   ·simp only [decide_eq_false_iff_not] at h3
    have hme:m=(subsL k (a+j+1) b).length:=by omega
    have hps:subsP k a b (j+1)=subsP k a b j++(subsI k (a+j) b).take m:=by
     rw [subsP_succ,List.take_of_length_le (by unfold subsI;rw [List.length_map];omega)]
    have hpsl:(subsP k a b (j+1)).length=(subsP k a b j).length+m:=by
     rw [hps,List.length_append,List.length_take,subsI,List.length_map];omega
    repeat' (first|refine d1 ?_|refine dd ?_|(show ∀ _:Nat,T _ _ _ _ _;intro _))
    exact T_backX (j+1,(A2,c2),hs2) (by dsimp only;omega) (by dsimp only;omega) (hE:=⟨by dsimp only;rw [show ((a+(j+1):Nat):Int)=((a+j:Nat):Int)+1 by omega];rfl,by dsimp only;rw [hpsl];rfl,trivial⟩) (hG:=by dsimp only;rw [hpsl,hps];exact Hle.sub)
  ·simp only [decide_eq_false_iff_not] at h
   obtain rfl:j=b - a:=by omega
   rw [← subsL_P]
   repeat' (first|refine d1 ?_|refine dd ?_|(show ∀ _:Nat,T _ _ _ _ _;intro _)|(show T _ (.code .ret::_) _ _ _;refine T_retV _ rfl dat_row ⟨_,trivial,rfl,by rfl⟩))
def refJ19 (n:Nat):Nat→List (List Nat)
 | 0=>[]
 | j+1=>refJ19 n j++subsL (n - j) 0 n
theorem refJ19_all {n:Nat} (h1:1≤n) (h4:n≤4):refJ19 n n=mvL n:=by
 obtain rfl|rfl|rfl|rfl:n=1∨n=2∨n=3∨n=4:=by omega
 all_goals decide
theorem refJ19_len {n:Nat} (h4:n≤4):∀ j,(refJ19 n j).length≤j * 625
 | 0=>Nat.le_refl _
 | j+1=>by
  have h1:=refJ19_len h4 j
  have h2:=subsL_len h4 (n - j) 0
  have h3:5 ^ (n - j)≤5 ^ 4:=Nat.pow_le_pow_right (by omega) (by omega)
  have h5:5 ^ 4=625:=by decide
  rw [refJ19,List.length_append]
  omega
theorem movesR_spec (z:Int) (w:World):Spec Tryz.prog 112 [.int .i64 z] w (fun v R=>∃ x:Value,True∧v=x∧R=[dat [x] [rowsD ((mvL z.toNat).map intN)]]):=by
 refine spec_of sg Tryz.func112 rfl rfl rfl ?_
 repeat' (first|refine d1 ?_|refine dd ?_|(show ∀ _:Nat,T _ _ _ _ _;intro _))
 refine T_if rfl (fun h=>?_) (fun h=>?_)
 ·simp only [Bool.or_eq_true,decide_eq_true_eq] at h
  rw [mvL_none (by omega)]
  repeat' (first|refine d1 ?_|refine dd ?_|(show ∀ _:Nat,T _ _ _ _ _;intro _)|(show T _ (.code .ret::_) _ _ _;refine T_retV _ rfl (nilC _ |>.trans (Hle.nth 0 rfl)) ⟨_,trivial,rfl,rfl⟩))
 simp only [Bool.or_eq_false_iff,decide_eq_false_iff_not] at h
 obtain⟨n,rfl⟩:∃ n:Nat,z=n:=⟨z.toNat,by omega⟩
 have h1:1≤n:=by omega
 have h4:n≤4:=by omega
 rw [Int.toNat_natCast]
 repeat' (first|refine d1 ?_|refine dd ?_|(show ∀ _:Nat,T _ _ _ _ _;intro _))
 refine T_le (dat_nil _) ?_
 refine T_nilrow 27 1 ?_
 refine T_loopX (fun s:Nat × (Option Addr × Nat) × List Value=>[(4, .int .i64 ((n:Int) - (s.1:Nat))),(3, .slice s.2.1.1 (refJ19 n s.1).length s.2.1.2)]) (fun s=>[row 27 1 s.2.1.1 s.2.1.2 (refJ19 n s.1).length s.2.2,dat s.2.2 (((refJ19 n s.1).map intN).map intsD)]) (fun s=>s.1≤n) (fun s=>n - s.1) (0,(none,0),[]) (Nat.zero_le _) ?_ (hE:=⟨by dsimp only;rw [show ((n:Int) - ((0:Nat):Int))=(n:Int) by omega];rfl,rfl,trivial⟩)
 rintro⟨j,⟨A,c⟩,hs⟩ hj
 dsimp only at hj ⊢
 have hjl:=refJ19_len h4 j
 repeat' (first|refine d1 ?_|refine dd ?_|(show ∀ _:Nat,T _ _ _ _ _;intro _))
 refine T_if rfl (fun h2=>?_) (fun h2=>?_)
 ·simp only [decide_eq_true_eq] at h2
  have hjn:j<n:=by omega
  rw [show ((n:Int) - ((j:Nat):Int))=((n - j:Nat):Int) by omega]
  have hsl:=subsL_len h4 (n - j) 0
  have h3:5 ^ (n - j)≤5 ^ 4:=Nat.pow_le_pow_right (by omega) (by omega)
  have h5:5 ^ 4=625:=by decide
  repeat' (first|refine d1 ?_|refine dd ?_|(show T _ (.ops _ (_::_)::_) _ _ _;refine T_op (OpT.call rfl rfl rfl rfl rfl (fun w hw=>subsets_spec (n - j) 0 n w (by omega) (by omega) h4) ?_))|(show ∀ _:Nat,T _ _ _ _ _;intro _))
  rintro x R ⟨_,-,rfl,rfl⟩
  refine T_le (H':=[dat [x] [rowsD ((subsL (n - j) 0 n).map intN)],row 27 1 A c (refJ19 n j).length hs,dat hs (((refJ19 n j).map intN).map intsD)]) (Hle.refl _) ?_
  refine T_open fun p hp=>?_
  obtain⟨Ax,cx,csx,rfl,hx1,hx2,hxl,hxr,hxrows⟩:=hp.tab
  rw [List.length_map] at hx1 hxl hxr ⊢
  have hsr:∀ {w':World} {H:List HA} [FocusZ H p],Cls w w' H→Src w' 1 Ax (subsL (n - j) 0 n).length csx:=fun {w' H} _ hw=>⟨by omega,fun hn9=>by
   obtain⟨bx,ox,rfl,hrx⟩:=hxr hn9
   exact⟨rfl,fun q u hu=>hw.fz (p:=p) _ _ _ (hrx q u hu)⟩⟩
  refine T_le (H':=[row 27 1 A c (refJ19 n j).length hs,dat hs (((refJ19 n j).map intN).map intsD),fz p]) Hle.srt ?_
  repeat' (first|refine d1 ?_|refine dd ?_|(show T _ (.ops _ (_::_)::_) _ _ _;refine T_op (OpT.append (A:=A) rfl rfl rfl rfl rfl rfl rfl rfl rfl rfl (fun w hw=>hsr hw) (oneRows hxrows) (by dsimp only;omega) (by omega) (fun A' cap' hA'=>?_)))|(show ∀ _:Nat,T _ _ _ _ _;intro _))
  refine T_backX (j+1,(A',cap'),hs++csx) (by dsimp only;omega) (by dsimp only;omega) (hE:=⟨by dsimp only;rw [show ((n:Int) - ((j+1:Nat):Int))=((n - j:Nat):Int) - 1 by omega];rfl,by dsimp only;rw [refJ19,List.length_append];rfl,trivial⟩) (hG:=?_)
  dsimp only
  rw [refJ19,List.length_append,List.map_append,List.map_append]
  exact (Hle.srt (K:=[fz p,dat hs (((refJ19 n j).map intN).map intsD),row 27 1 A' cap' ((refJ19 n j).length+(subsL (n - j) 0 n).length) (hs++csx)])).trans ((Hle.weaken (i:=0) rfl (fz_dat hxrows) rfl).trans (dat_join.trans (Hle.perm (List.Perm.swap _ _ _))))
 ·simp only [decide_eq_false_iff_not] at h2
  obtain rfl:j=n:=by omega
  rw [refJ19_all h1 h4]
  repeat' (first|refine d1 ?_|refine dd ?_|(show ∀ _:Nat,T _ _ _ _ _;intro _)|(show T _ (.code .ret::_) _ _ _;refine T_retV _ rfl dat_row ⟨_,trivial,rfl,by rfl⟩))
end Go.Proofs.YthadgaboakipoaaGreatDoor
namespace Go.Proofs.YthadgaboakipoaaGreatDoor
open Go.RowKit Go.Shelf

instance (priority:=low) SubP.same (H:List HA):SubP H H:=⟨id,fun i B h=>h,fun i j _ _ h=>h⟩
inductive Pq:List HA→List HA→Prop where
 | nil (H:List HA):Pq H []
 | same (H:List HA):Pq H H
 | cons {A:HA} {H H' K:List HA} (h:Rm A H H') (k:Pq H' K):Pq H (A::K)
 | drop {A:HA} {H K:List HA} (k:Pq H K):Pq (A::H) K
theorem Pq.spec {H K:List HA} (h:Pq H K):PickP H K:=by
 induction h with
 | nil H=>exact PickP.nil H
 | same H=>exact⟨id,fun i B h=>h,fun i j _ _ h=>h⟩
 | cons h _ ih=>exact PickP.cons _ _ _ _ (h:=h.spec) (k:=ih)
 | drop _ ih =>
  obtain⟨p,h1,h2⟩:=ih.at_
  exact⟨fun i=>p i+1,fun i B hi=>by simpa using h1 i B hi,fun i j hi hj hne=>by have:=h2 i j hi hj hne;dsimp only;omega⟩
theorem Hle.srtV {H K:List HA} (h:Pq H K:=by repeat' (first|exact Pq.nil _|with_reducible exact Pq.same _|apply Pq.cons|with_reducible exact Rm.here|((with_reducible apply Rm.b);rfl)|((with_reducible apply Rm.r) <;> rfl)|apply Rm.there|apply Pq.drop)):Hle H K:=Hle.any (h:=h.spec)
end Go.Proofs.YthadgaboakipoaaGreatDoor
namespace Go.Proofs.YthadgaboakipoaaGreatDoor
open Go.RowKit Go.Shelf
set_option maxRecDepth 100000
set_option maxHeartbeats 1000000

def IterZ (P:Program) (w0:World) (f:FuncId) (fs cs:List Value) (cap:List HA) (Q:Nat→List Value→List HA→Prop) (n:Nat) (pz:Frag):Prop :=
 Enters P f∧∀ l GP X w Hj,(∀ j H,GP j H→Hle H [fz pz])→YieldsO P w0 l GP X Q n→GP 0 Hj→Cls w0 w (cap++Hj) →
  CallsIn (Fr none) 0 P f (fs++(yv l::cs)).toArray w (RIt w0 cap GP X n)
theorem iterZ_of (S : Sig) {w0 : World} {f : FuncId} {fn : Func} {c : Code} {fs cs : List Value} {cap : List HA} {Q : Nat → List Value → List HA → Prop} {n : Nat} {pz : Frag} (hf : S.P.funcs[f]? = some fn) (hn : (fn.name == "runtime.NumGoroutine") = false) (hb : fn.body = some c)
  (hlen:Nat.ble (fs.length+(1+cs.length)) fn.ntmps=true)
  (h:∀ l GP X Hj,(∀ j H,GP j H→Hle H [fz pz])→YieldsO S.P w0 l GP X Q n→GP 0 Hj→T (IC S fn.ntmps w0 fn (RIt w0 cap GP X n)) (nf 60 [.code c]) (zipE 0 (fs++(yv l::cs))) [] (cap++Hj)):IterZ S.P w0 f fs cs cap Q n pz:=by
 refine ⟨enters_of hf hn hb,fun l GP X w Hj hz hY h0 hw=>callsIn_of_wp_marks (n:=0) hf hb trivial ?_⟩
 generalize hargs:fs++(yv l::cs)=args
 have hlen':args.length≤fn.ntmps:=by
  have:=Nat.le_of_ble_eq_true hlen
  rw [← hargs];simp;omega
 have ha:Agrees ⟨fn.ntmps,[]⟩ (allOf (nf 60 [.code c])) (zipE 0 args) [] { tmps:=args.toArray++Array.replicate (fn.ntmps - args.toArray.size) undef,defers:=[] }:=by
  refine ⟨rfl,by simp;omega,fun s v hv=>?_,fun _ _ _ h=>(by cases h),fun _ _ _ h=>(by cases h)⟩
  obtain⟨_,h2⟩:=zipE_spec args 0 s v hv
  simp only [Nat.sub_zero] at h2
  have hs:s<args.length:=(List.getElem?_eq_some_iff.1 h2).1
  simp [Array.getD_eq_getD_getElem?,Array.getElem?_append,hs]
  rw [List.getElem?_eq_getElem hs] at h2
  simpa using h2
 have h1:=h l GP X Hj hz hY h0
 rw [hargs] at h1
 have:=nf_spec (h1 _ _ ha hw)
 simp only [sem] at this
 refine wpIn_mono this fun e a w' q=>?_
 cases e <;> first|exact q|exact q.elim
theorem T_rangeZ {S:Sig} {m:Nat} {ds:List Deferred} {w0:World} {fn:Func} {Φ:Value→List HA→Prop} {g:Operand} {ps:Array Tmp} {assign body:Code} {k:List It} {env:Env} {ec:EnvC} {H:List HA}
  {f:FuncId} {fs cs:List Value} {cap:List HA} {Q:Nat→List Value→List HA→Prop} {n:Nat} {pz:Frag} (hit:IterZ S.P w0 f fs cs cap Q n pz)
  (hg:evX env [] [] g=some (.func (.func f) fs.toArray cs.toArray)) (hps:∀ (j:Nat) (x:List Value) (B:List HA),j<n→Q j x B→x.length=ps.size∧inP m (ps.toList.zip x)=true)
  (GP:Nat→List HA→Prop) (XR:List HA→Prop) (XE:Nat→List HA→Prop) (H0:List HA) (hz:∀ j H,GP j H→Hle H [fz pz]) (h0:GP 0 H0) (hH:Hle H (cap++H0))
  (hround:∀ (L:Nat) (r:Loop) (j:Nat) (x:List Value) (B Hj K:List HA),r.state = .ready→j<n→Q j x B→GP j Hj→T (RA (RC S m w0 L (busy r) GP XR XE j K) L body) (nf 60 [.code assign]) (envP (ps.toList.zip x) env) [] (lrec L r::(Hj++(B++K))))
  (hn:∀ D Hn,GP n Hn→T (FC S m (mkD D::ds) w0 fn Φ) (nf 60 k) env [] (dfr D::(cap++Hn)))
  (hret:∀ D Hx,XR Hx→T (FC S m (mkD D::ds) w0 fn Φ) (.code .ret::k) env [] (dfr D::(cap++Hx)))
  (hex:∀ D id Hx,XE id Hx→T (FC S m (mkD D::ds) w0 fn Φ) (nf 60 (.code (.exit id)::k)) env [] (dfr D::(cap++Hx))) :
  T (FC S m ds w0 fn Φ) (.code (.rangeFunc g ps assign body)::k) env ec H:=by
 refine T.mk fun a w ha hw=>?_
 have ha0:Agrees ⟨m,ds⟩ #[] env [] a:=ha.plain
 replace hw:=Cls.le hw hH
 refine wpIn_rangeFunc fun fn' _=>?_
 -- the two blocks
 have hw1:=(hw.alloc (.deferred (some [])) (A:=dfr w.heap.size) rfl)
 have hsz:(w.alloc (.deferred (some []))).heap.size=w.heap.size+1:=World.size_alloc _ _
 generalize hD:w.heap.size=D at hw1 hsz
 generalize hr0:({ state := .ready,pending:=none,fn:=fn',tmps:=a.tmps,params:=ps,assign,body,defers:=D }:Loop)=r
 have hrdy:r.state = .ready:=by rw [← hr0]
 have hpd:r.pending=none:=by rw [← hr0]
 have hw2:=(hw1.alloc (.loop r) (A:=lrec (D+1) r) (by rw [hsz];rfl))
 have hen:=run_enterLoop_outer (P:=S.P) (w:=w) fn' a.tmps ps assign body
 rw [hD,hr0] at hen
 have hgv:=evX_spec (all := #[]) ha0 (Holds.nil _ _) hg
 have hargs:(fs.toArray ++ #[yv (D+1)]++cs.toArray)=(fs++(yv (D+1)::cs)).toArray:=Array.ext' (by simp)
 refine ⟨D+1,[mkD D],_,⟨.fn (.func f) cs.toArray,fs.toArray ++ #[yv (D+1)]⟩,(w.alloc (.deferred (some []))).alloc (.loop r),f,(fs++(yv (D+1)::cs)).toArray,(w.alloc (.deferred (some []))).alloc (.loop r),hen,?_,fun _ _=>trivial,?_,fun h=>(by cases h),?_⟩
 ·simp [resolve,hgv,Deferred.ofValue,yv]
  rfl
 ·have:=hit.1 (fs++(yv (D+1)::cs)).toArray ((w.alloc (.deferred (some []))).alloc (.loop r))
  rw [← hargs] at this ⊢
  simpa [invoke] using this
 · -- the rounds
  have hYd:YieldsO S.P w0 (D+1) (fun j H'=>∃ Hj,H'=lrec (D+1) r::dfr D::Hj∧GP j Hj) (fun Y=>∃ Hx jump,Y=lrec (D+1) { r with state := .done,pending:=some jump }::dfr D::Hx∧((jump = .ret∧XR Hx)∨∃ id,jump = .exit id∧XE id Hx)) Q n:=by
   rintro j x B _ K w1 hj hQ ⟨Hj,rfl,hGj⟩ hc
   have hL:=(hc.obj (i:=0) rfl).1
   obtain⟨hxl,hin⟩:=hps j x B hj hQ
   have hy:=run_yield (P:=S.P) (args:=x.toArray) hL (by rw [← hr0];simp [hxl])
   refine ⟨_,_,_,_,hy,roundIn_of_wpIn trivial ?_⟩
   have hc':Cls w0 w1 (lrec (D+1) r::(Hj++(B++(dfr D::K)))):=hc.le (Hle.perm (.cons _ (by
    have h1:=(List.perm_middle (a:=dfr D) (l₁:=Hj++B) (l₂:=K)).symm
    rw [List.append_assoc,List.append_assoc] at h1
    exact h1)))
   have hT:=hround (D+1) r j x B Hj (dfr D::K) hrdy hj hQ hGj
   have hag:Agrees ⟨m,[]⟩ #[] env [] { tmps:=r.tmps,defers:=[] }:=by
    rw [← hr0]
    exact⟨rfl,ha0.size,ha0.at_,fun _ _ _ h=>(by cases h),fun _ _ _ h=>(by cases h)⟩
   have hag2:=Agrees.putAll (N:=⟨m,[]⟩) (l:=ps.toList.zip x) hin hag
   have htm:(r.params.zip x.toArray).foldl (fun tmps (p:Tmp × Value)=>tmps.setIfInBounds p.1 p.2) r.tmps=(ps.toList.zip x).foldl (fun tmps (p:Nat × Value)=>tmps.setIfInBounds p.1 p.2) r.tmps:=by
    rw [← hr0, ← Array.foldl_toList,Array.toList_zip]
   rw [htm]
   have h1:=nf_spec (hT _ w1 ⟨hag2.defers,hag2.size,hag2.at_,fun _ _ _ h=>(by cases h),fun _ _ _ h=>(by cases h)⟩ hc')
   simp only [sem] at h1
   have hra:r.assign=assign:=by rw [← hr0]
   have hrb:r.body=body:=by rw [← hr0]
   rw [← hra, ← hrb] at h1
   refine wpIn_mono (F:=Fr (some (D+1))) h1 fun e a1 w2 q=>?_
   cases e <;> first|exact q.elim|skip
   obtain⟨w3,hb,hbody⟩:=q
   refine ⟨w3,hb,wpIn_mono hbody fun e a2 w4 q=>?_⟩
   have fin:∀ H':List HA,Cls w0 w4 (lrec (D+1) (busy r)::(H'++(dfr D::K)))→∀ jump,∃ w',(Instr.endRound (D+1) jump).run S.P w4 = .ok (.bool jump.isNone) w'∧Cls w0 w' (lrec (D+1) { r with state:=if jump.isNone then .ready else .done,pending:=jump }::dfr D::(H'++K)):=by
    intro H' hcl jump
    have hL4:=(hcl.obj (i:=0) rfl).1
    refine ⟨_,run_endRound jump hL4,?_⟩
    have:=hcl.putObj (i:=0) rfl (.loop { r with state:=if jump.isNone then .ready else .done,pending:=jump })
    exact this.le (Hle.perm ((List.perm_middle (a:=dfr D) (l₁:=H') (l₂:=K)).cons _))
   cases e with
   | normal =>
    obtain⟨H',g1,g2⟩:=q
    obtain⟨w',e1,e2⟩:=fin H' g2 none
    refine ⟨_,w',e1, .inl ⟨rfl,_,⟨H',rfl,g1⟩,?_⟩⟩
    have er:({ r with state := .ready,pending:=none }:Loop)=r:=by rw [← hr0]
    simp only [Option.isNone_none,if_true] at e2
    rw [er] at e2
    exact e2
   | ret =>
    obtain⟨H',g1,g2⟩:=q
    obtain⟨w',e1,e2⟩:=fin H' g2 (some .ret)
    exact⟨_,w',e1, .inr ⟨rfl,_,⟨H', .ret,rfl, .inl ⟨rfl,g1⟩⟩,e2⟩⟩
   | exit id =>
    obtain⟨H',g1,g2⟩:=q
    obtain⟨w',e1,e2⟩:=fin H' g2 (some (.exit id))
    exact⟨_,w',e1, .inr ⟨rfl,_,⟨H', .exit id,rfl, .inr ⟨id,rfl,g1⟩⟩,e2⟩⟩
   | goto t=>exact q.elim
   | panic c=>exact q.elim
   | outgrown=>exact q.elim
  have hstart:Cls w0 ((w.alloc (.deferred (some []))).alloc (.loop r)) (cap++(lrec (D+1) r::dfr D::H0)):=by
   have h1:Cls w0 ((w.alloc (.deferred (some []))).alloc (.loop r)) (lrec (D+1) r::dfr D::(cap++H0)):=hw2
   exact h1.le (Hle.rot2 _ _ cap H0)
  have hcall:=hit.2 (D+1) _ _ _ _ (fun j H' ⟨Hj,e,hG⟩=>by subst e;exact (Hle.tail _ _).trans ((Hle.tail _ _).trans (hz j Hj hG))) hYd ⟨H0,rfl,h0⟩ hstart
  have hcall':CallsIn (Fr none) 0 S.P f (fs++(yv (D+1)::cs)).toArray ((w.alloc (.deferred (some []))).alloc (.loop r)) _:=hcall
  refine CallsIn.mono hcall' ?_
  rintro e w3 ⟨⟨v,rfl⟩,hend⟩
  have hsem:=sem_N (FC S m ds w0 fn Φ) ⟨m,mkD D::ds⟩ k
  have hag:∀ all,Agrees ⟨m,mkD D::ds⟩ all env [] { a with defers:=[mkD D]++a.defers }:=fun all =>
   ⟨by simp [ha0.defers],ha0.size,ha0.at_,fun _ _ _ h=>(by cases h),fun _ _ _ h=>(by cases h)⟩
  rcases hend with⟨_,⟨Hn,rfl,hGn⟩,hc⟩|⟨_,⟨Hx,jump,rfl,hj⟩,hc⟩
  ·have hc:=hc.le (Hle.unrot2 _ _ cap Hn)
   have hL:=(hc.obj (i:=0) rfl).1
   refine ⟨none,w3.putObj (D+1) (.loop { r with state := .exhausted }),(run_endLoop hL (by rw [hrdy];intro h;cases h)).trans (by rw [hpd]),?_⟩
   have hc2:=(hc.putObj (i:=0) rfl (.loop { r with state := .exhausted })).le (Hle.tail _ _)
   have:=nf_spec (hn D Hn hGn _ _ (hag _) hc2)
   show (sem (FC S m ds w0 fn Φ) k).1 _ _
   rw [← hsem]
   exact this
  ·have hc:=hc.le (Hle.unrot2 _ _ cap Hx)
   have hL:=(hc.obj (i:=0) rfl).1
   refine ⟨_,_,run_endLoop hL (by intro h;cases h),?_⟩
   have hc2:=(hc.putObj (i:=0) rfl (.loop { ({ r with state := .done,pending:=some jump }:Loop) with state := .exhausted })).le (Hle.tail _ _)
   rcases hj with⟨rfl,hX⟩|⟨id,rfl,hX⟩
   ·have:=hret D Hx hX _ _ (hag _) hc2
    have h9:(sem (FC S m (mkD D::ds) w0 fn Φ) (.code .ret::k)).1 _ _:=this
    simp only [sem] at h9
    have h10:sem (FC S m (mkD D::ds) w0 fn Φ) k=sem (FC S m ds w0 fn Φ) k:=hsem
    rw [h10] at h9
    exact h9
   ·have:=nf_spec (hex D id Hx hX _ _ (hag _) hc2)
    simp only [sem] at this
    have h10:sem (FC S m (mkD D::ds) w0 fn Φ) k=sem (FC S m ds w0 fn Φ) k:=hsem
    rw [h10] at this
    exact this

theorem rdRz {w0 w:World} {pz:Frag} {ρ:Rdr} (hρ:∀ w,Below w0.heap.size w0 w→(fr pz).le (wr w)→ρ.le (wr w)) (hw:Cls w0 w [fz pz]) {b o:Nat} {u:Value} (h:ρ b o=some u):RdC w b o [u] :=
 RdC.one (hρ w hw.below (hw.fz (p:=pz)) _ _ _ h)
end Go.Proofs.YthadgaboakipoaaGreatDoor
namespace Go.Proofs.YthadgaboakipoaaGreatDoor
open Go.RowKit Go.Shelf Go.Proofs
set_option maxRecDepth 100000
set_option maxHeartbeats 1000000

theorem usableR_spec (c:Costs) (A:Option Addr) (n ca:Nat) (l:List TS) (w:World) (hg:Grp w A n l):Spec Tryz.prog 125 [c.val, .slice A n ca] w (fun v R=>v = .int .i64 (usV c l)∧R=[]):=by
 have hn:=hg.hn
 have hb:=hg.hb
 refine spec_of sg Tryz.func125 rfl rfl rfl ?_
 refine T_op (OpT.box (cs:=c.cells) rfl rfl rfl rfl rfl rfl rfl (fun pc=>?_))
 repeat' (first|refine d1 ?_|refine dd ?_|(show T _ (.ops _ (_::_)::_) _ _ _;first|refine T_call rfl rfl rfl rfl rfl (fun w hw=>srcs19R_spec A n ca l w (hg.cls hw)) ?_|refine T_callC rfl rfl rfl rfl rfl rfl rfl (fun hg w hw=>srcs19R_spec A n ca l w (hg.cls hw)) ?_)|(show T _ (.run _ _ (_::_) _ _::_) _ _ _;first|refine rc rfl rfl rfl rfl rfl rfl rfl (fun w hw=>srcs19R_spec A n ca l w (hg.cls hw)) ?_|refine rcG rfl rfl rfl rfl rfl rfl rfl rfl rfl (fun hg w hw=>srcs19R_spec A n ca l w (hg.cls hw)) ?_)|(show ∀ _:Nat,T _ _ _ _ _;intro _))
 by_cases h0:n=0
 ·rw [if_pos h0]
  refine T_if rfl (fun h=>?_) (fun h=>by exfalso;simp at h)
  repeat' (first|refine d1 ?_|refine dd ?_|(show ∀ _:Nat,T _ _ _ _ _;intro _)|(show T _ (.code .ret::_) _ _ _;refine T_retV [] rfl (Hle.none _) ⟨congrArg (Value.int .i64) (if_pos (by omega)).symm,rfl⟩))
 rw [if_neg h0]
 refine T_if rfl (fun h=>by exfalso;simp at h) (fun _=>?_)
 repeat' (first|refine d1 ?_|refine dd ?_|(show T _ (.ops _ (_::_)::_) _ _ _;first|refine T_call rfl rfl rfl rfl rfl (fun w hw=>costRef_spec c w) ?_|refine T_callC rfl rfl rfl rfl rfl rfl rfl (fun hg w hw=>costRef_spec c w) ?_)|(show T _ (.run _ _ (_::_) _ _::_) _ _ _;first|refine rc rfl rfl rfl rfl rfl rfl rfl (fun w hw=>costRef_spec c w) ?_|refine rcG rfl rfl rfl rfl rfl rfl rfl rfl rfl (fun hg w hw=>costRef_spec c w) ?_)|(show ∀ _:Nat,T _ _ _ _ _;intro _))
 refine T_if rfl (fun h=>?_) (fun h=>?_)
 ·have h1:costE c≠0:=by simpa using h
  repeat' (first|refine d1 ?_|refine dd ?_|(show ∀ _:Nat,T _ _ _ _ _;intro _)|(show T _ (.code .ret::_) _ _ _;refine T_retV [] rfl (Hle.none _) ⟨congrArg (Value.int .i64) ?_,rfl⟩))
  unfold usV ck21
  rw [if_neg (by omega),if_neg (fun h9=>h1 h9.1)]
 have hc:costE c=0:=by simpa using h
 clear h
 repeat' (first|refine d1 ?_|refine dd ?_|(show ∀ _:Nat,T _ _ _ _ _;intro _))
 refine T_loopX (fun i:Nat=>[(6, .int .i64 (i:Nat))]) (fun _=>[blk pc c.cells 23]) (fun i=>i≤n∧∀ j t,j<i→l[j]?=some t→badL t.l=false) (fun i=>n - i) 0 ⟨Nat.zero_le _,fun j t h=>by omega⟩ ?_
 rintro i ⟨hi,hok⟩
 repeat' (first|refine d1 ?_|refine dd ?_|(show ∀ _:Nat,T _ _ _ _ _;intro _))
 refine T_if rfl (fun h1=>?_) (fun h1=>?_)
 ·simp only [decide_eq_true_eq] at h1
  have hin:i<n:=by omega
  obtain⟨b,o,rfl⟩:=hg.hs.base (by omega)
  obtain⟨t,ht,htm,hr⟩:=hg.get hin
  have htl:=hg.ok.len t htm
  have htn:=hg.nb t htm
  repeat' (first|refine d1 ?_|refine dd ?_|(show ∀ _:Nat,T _ _ _ _ _;intro _))
  refine T_loopX (fun k:Nat=>[(7, .int .i64 (k:Nat))]) (fun _=>[blk pc c.cells 23]) (fun k=>k≤t.n∧∀ q x,q<k→t.l[q]?=some x→tokE x=0) (fun k=>t.n - k) 0 ⟨Nat.zero_le _,fun j t h=>by omega⟩ ?_
  rintro k ⟨hk,hokk⟩
  repeat' (first|refine d1 ?_|refine dd ?_|(show ∀ _:Nat,T _ _ _ _ _;intro _))
  refine T_if rfl (fun h2=>?_) (fun h2=>?_)
  ·simp only [decide_eq_true_eq] at h2
   have hkn:k<t.n:=by omega
   obtain⟨b4,o4,hsA⟩:=(hg.ok.src t htm).base (by omega)
   have hsr:RdC w b4 (o4+(k:Int).toNat * 6) (tkA t.l k).cells:=(hsA ▸ hg.ok.src t htm:Src w 6 (some ⟨b4,o4,none⟩) t.n (t.l.flatMap Tok.cells)).getT (k:=k) (by omega) (tkA_get (by omega))
   rw [hsA] at hr
   repeat' (first|refine d1 ?_|refine dd ?_|(show T _ (.ops _ (_::_)::_) _ _ _;first|refine T_call rfl rfl rfl rfl rfl (fun w hw=>tokRef_spec (tkA t.l k) w) ?_|refine T_callC rfl rfl rfl rfl rfl rfl rfl (fun hg w hw=>tokRef_spec (tkA t.l k) w) ?_)|(show T _ (.run _ _ (_::_) _ _::_) _ _ _;first|refine rc rfl rfl rfl rfl rfl rfl rfl (fun w hw=>tokRef_spec (tkA t.l k) w) ?_|refine rcG rfl rfl rfl rfl rfl rfl rfl rfl rfl (fun hg w hw=>tokRef_spec (tkA t.l k) w) ?_)|(show ∀ _:Nat,T _ _ _ _ _;intro _))
   refine T_if rfl (fun h3=>?_) (fun h3=>?_)
   ·have h4:tokE (tkA t.l k)≠0:=by simpa using h3
    have hbt:badS l=true:=List.any_eq_true.2 ⟨t,htm,List.any_eq_true.2 ⟨tkA t.l k,tkA_mem (by omega),by simpa using h4⟩⟩
    repeat' (first|refine d1 ?_|refine dd ?_|(show ∀ _:Nat,T _ _ _ _ _;intro _)|(show T _ (.code .ret::_) _ _ _;refine T_retV [] rfl (Hle.none _) ⟨congrArg (Value.int .i64) ?_,rfl⟩))
    unfold usV ck21
    rw [if_neg (by omega),if_neg (fun h9=>by rw [hbt] at h9;exact absurd h9.2 (by decide))]
   ·have h4:tokE (tkA t.l k)=0:=by simpa using h3
    repeat' (first|refine d1 ?_|refine dd ?_|(show ∀ _:Nat,T _ _ _ _ _;intro _))
    refine T_backX (k+1) ⟨by omega,fun q x hq hx=>?_⟩ (by omega)
    rcases Nat.lt_or_ge q k with h5|h5
    ·exact hokk q x h5 hx
    ·rw [show q=k by omega,tkA_get (by omega)] at hx
     cases hx
     exact h4
  ·simp only [decide_eq_false_iff_not] at h2
   repeat' (first|refine d1 ?_|refine dd ?_|(show ∀ _:Nat,T _ _ _ _ _;intro _))
   refine T_backX (i+1) ⟨by omega,fun j u hj hu=>?_⟩ (by omega)
   rcases Nat.lt_or_ge j i with h5|h5
   ·exact hok j u h5 hu
   ·rw [show j=i by omega,ht] at hu
    cases hu
    refine badL_false.2 fun x hx=>?_
    obtain⟨q,hq,e⟩:=List.getElem_of_mem hx
    exact hokk q x (by omega) (by rw [List.getElem?_eq_getElem hq,e])
 ·simp only [decide_eq_false_iff_not] at h1
  have hbs:badS l=false:=List.any_eq_false.2 fun t ht=>by
   obtain⟨q,hq,e⟩:=List.getElem_of_mem ht
   rw [hok q t (by omega) (by rw [List.getElem?_eq_getElem hq,e])];simp
  repeat' (first|refine d1 ?_|refine dd ?_|(show ∀ _:Nat,T _ _ _ _ _;intro _)|(show T _ (.code .ret::_) _ _ _;refine T_retV [] rfl (Hle.none _) ⟨congrArg (Value.int .i64) ?_,rfl⟩))
  unfold usV ck21
  rw [if_neg (by omega),if_pos ⟨hc,hbs⟩]
def ownR (l:List TS) (col:List Int) (a:Tok) (k:Nat):List Tok:=(List.range l.length).map fun s=>if s<k then (if 0≤col.getD s (-1) then tkA (tsA l s).l (col.getD s (-1)).toNat else a) else noTok
theorem ownR_len (l:List TS) (col:List Int) (a:Tok) (k:Nat):(ownR l col a k).length=l.length:=by simp [ownR]
theorem ownR_zero (l:List TS) (col:List Int) (a:Tok):ownR l col a 0=List.replicate l.length noTok:=by
 refine List.ext_getElem? fun s=>?_
 unfold ownR
 rw [List.getElem?_map,List.getElem?_replicate]
 rcases Nat.lt_or_ge s l.length with h|h
 ·rw [List.getElem?_range h,if_pos h];simp
 ·rw [if_neg (by omega),List.getElem?_eq_none (by simp;omega)];rfl
theorem ownR_set {l:List TS} {col:List Int} {a x:Tok} {k:Nat} (hk:k<l.length) (hx:x=if 0≤col.getD k (-1) then tkA (tsA l k).l (col.getD k (-1)).toNat else a):(ownR l col a k).set k x=ownR l col a (k+1):=by
 refine List.ext_getElem? fun s=>?_
 unfold ownR
 rw [List.getElem?_set,List.getElem?_map,List.getElem?_map,List.length_map,List.length_range]
 by_cases e:k=s
 ·subst e
  rw [if_pos rfl,if_pos hk,List.getElem?_range hk,Option.map_some,if_pos (by omega),hx]
 ·rw [if_neg e]
  rcases Nat.lt_or_ge s l.length with h2|h2
  ·rw [List.getElem?_range h2,Option.map_some,Option.map_some]
   by_cases h3:s<k
   ·rw [if_pos h3,if_pos (show s<k+1 by omega)]
   ·rw [if_neg h3,if_neg (show ¬ s<k+1 by omega)]
  ·rw [List.getElem?_eq_none (by simp;omega)];rfl
theorem ownR_colV {w:World} {A:Option Addr} {n:Nat} {l:List TS} (hg:Grp w A n l) {c:Costs} (hc:costE c=0) (hbs:badS l=false) {col:List Int} (hco:ColOk l col) (a:Tok):columnV c (ownR l col a l.length) (thJ l col l.length)=(colZ c l col,0):=by
 have hb:=hg.hb
 have hn:=hg.hn
 refine columnV_Z hc hbs hg.ok.len (by omega) hco (ownR_len _ _ _ _) (thJ_len _ _ _) (fun i hi=>?_) (fun i hi h0=>?_)
 ·unfold thA thJ
  rw [List.getD_eq_getElem?_getD,List.getElem?_map,List.getElem?_range hi]
  show decide (i<l.length∧0≤col.getD i (-1))=_
  by_cases h:0≤col.getD i (-1)
  ·rw [decide_eq_true h,decide_eq_true ⟨hi,h⟩]
  ·rw [decide_eq_false h,decide_eq_false (fun h9=>h h9.2)]
 ·have e:(ownR l col a l.length)[i]?=some (tkA (tsA l i).l (col.getD i (-1)).toNat):=by
   unfold ownR
   rw [List.getElem?_map,List.getElem?_range hi,Option.map_some,if_pos hi,if_pos h0]
  unfold tkA at e ⊢
  rw [List.getD_eq_getElem?_getD (l:=ownR l col a l.length),e]
  rfl
theorem columnCostR_spec (c:Costs) (A Ac:Option Addr) (n ca cc:Nat) (l:List TS) (col:List Int) (w:World) (hg:Grp w A n l) (hc:costE c=0) (hbs:badS l=false) (hcs:Src w 1 Ac n (col.map (Value.int .i64))) (hco:ColOk l col) :
  Spec Tryz.prog 126 [c.val, .slice A n ca, .slice Ac n cc] w (fun v R=>v = .int .i64 (colZ c l col)∧R=[]):=by
 have hn:=hg.hn
 subst hn
 have hb:=hg.hb
 refine spec_of sg Tryz.func126 rfl rfl rfl ?_
 refine T_op (OpT.box (cs:=c.cells) rfl rfl rfl rfl rfl rfl rfl (fun pc=>?_))
 repeat' (first|refine d1 ?_|(show ∀ _:Nat,T _ _ _ _ _;intro _))
 refine T_cutX 1 [7,8] (fun s:Nat × Nat=>[(7, .slice (some ⟨s.1,0,none⟩) l.length l.length),(8, .slice (some ⟨s.2,0,none⟩) l.length l.length)]) (fun s=>[blk s.1 (madeCells (noTok.val).cells (l.length * (noTok.val).cells.size)).toList 62,blk s.2 (List.replicate l.length (.bool false)) 4,blk pc c.cells 23]) (fun _=>True) ?_ ?_
 ·refine dw0 1000 [blk pc c.cells 23] ?_
  repeat' (first|(show T _ (.draw _ _ _ _ _::_) _ _ _;first|refine dw1 ?_|refine dwb rfl (by decide +kernel) ?_)|(show AllL _ [];exact True.intro)|(show AllL _ (_::_);refine ⟨?_,?_⟩)|(show OpT _ _ _ _ _ _ _;first|refine dwx ?_|refine OpT.makeC rfl rfl rfl rfl rfl rfl (by dsimp only;omega) (fun b2=>⟨fun _=>(by first|exact Hle.none _|exact Hle.sub|exact absurd ‹_› (by decide +kernel)),?_⟩)|refine OpT.make rfl rfl rfl rfl rfl rfl rfl rfl rfl (by dsimp only;omega) (fun b3=>⟨fun _=>(by first|exact Hle.none _|exact Hle.sub|exact absurd ‹_› (by decide +kernel)),?_⟩))|(show ∀ _:Nat,T _ _ _ _ _;intro _)|(show T _ (.mark _::_) _ _ _;exact T_meetX (_,_) trivial (hG:=by exact Hle.srt)))
 rintro⟨b2,b3⟩ _
 dsimp only
 refine T_le (H':=[blk b2 ((List.replicate l.length noTok).flatMap Tok.cells) 62,blk b3 ((thJ l col 0).map Value.bool) 4,blk pc c.cells 23]) (by rw [thJ_zero,made_toks,List.map_replicate];exact Hle.refl _) ?_
 repeat' (first|refine d1 ?_|refine dd ?_|(show ∀ _:Nat,T _ _ _ _ _;intro _))
 rename_i b9
 refine T_loopX (fun s:Nat × Tok=>[(10, .int .i64 (s.1:Nat))]) (fun s=>[blk b9 s.2.cells 62,blk b2 ((List.replicate l.length noTok).flatMap Tok.cells) 62,blk b3 ((thJ l col 0).map Value.bool) 4,blk pc c.cells 23]) (fun s=>s.1≤l.length) (fun s=>l.length - s.1) (0,noTok) (Nat.zero_le _) ?_
 rintro⟨k,a⟩ hk
 dsimp only at hk ⊢
 repeat' (first|refine d1 ?_|refine dd ?_|(show ∀ _:Nat,T _ _ _ _ _;intro _))
 refine T_if rfl (fun h=>?_) (fun h=>?_)
 ·simp only [decide_eq_true_eq] at h
  have hkn:k<l.length:=by omega
  obtain⟨b1,o1,rfl⟩:=hcs.base (by omega)
  obtain⟨b,o,rfl⟩:=hg.hs.base (by omega)
  obtain⟨s,hs,hsmem,hr⟩:=hg.get hkn
  obtain⟨z,hz⟩:∃ z,col[k]?=some z:=⟨_,List.getElem?_eq_getElem (by have:=hco.1;omega)⟩
  have hr1:=src_int hcs hkn hz
  obtain⟨hz1,hz2⟩:=hco.2 k z s hz hs
  have hsl:=hg.ok.len s hsmem
  have hsn:=hg.nb s hsmem
  repeat' (first|refine d1 ?_|refine dd ?_|(show ∀ _:Nat,T _ _ _ _ _;intro _))
  refine T_if rfl (fun h1=>?_) (fun h1=>?_)
  ·simp only [decide_eq_true_eq] at h1
   obtain⟨b4,o4,hsA⟩:=(hg.ok.src s hsmem).base (by omega)
   have hsr:RdC w b4 (o4+z.toNat * 6) (tkA s.l z.toNat).cells:=(hsA ▸ hg.ok.src s hsmem:Src w 6 (some ⟨b4,o4,none⟩) s.n (s.l.flatMap Tok.cells)).getT (k:=z.toNat) (by omega) (tkA_get (by omega))
   rw [hsA] at hr
   repeat' (first|refine d1 ?_|refine dd ?_|(show T _ (.run _ _ (_::_) _ _::_) _ _ _;refine ro rfl rfl (OpT.storeA (us:=(tkA s.l z.toNat).cells) rfl rfl rfl rfl rfl rfl (by show 0+6≤6;omega) ⟨fun hlv=>absurd hlv (by decide +kernel),?_⟩))|(show ∀ _:Nat,T _ _ _ _ _;intro _))
   exact T_backX (k+1,tkA s.l z.toNat) (by dsimp only;omega) (by dsimp only;omega)
  ·repeat' (first|refine d1 ?_|refine dd ?_|(show ∀ _:Nat,T _ _ _ _ _;intro _))
   exact T_backX (k+1,a) (by dsimp only;omega) (by dsimp only;omega)
 simp only [decide_eq_false_iff_not] at h
 clear h hk
 repeat' (first|refine d1 ?_|refine dd ?_|(show ∀ _:Nat,T _ _ _ _ _;intro _))
 refine T_loopX (fun q:Nat=>[(11, .int .i64 (q:Nat))]) (fun q=>[blk b9 a.cells 62,blk b2 ((ownR l col a q).flatMap Tok.cells) 62,blk b3 ((thJ l col q).map Value.bool) 4,blk pc c.cells 23]) (fun q=>q≤l.length) (fun q=>l.length - q) 0 (Nat.zero_le _) ?_ (hG:=by rw [ownR_zero];exact Hle.refl _)
 rintro q hq
 repeat' (first|refine d1 ?_|refine dd ?_|(show ∀ _:Nat,T _ _ _ _ _;intro _))
 refine T_if rfl (fun h=>?_) (fun h=>?_)
 ·simp only [decide_eq_true_eq] at h
  have hqn:q<l.length:=by omega
  obtain⟨b1,o1,rfl⟩:=hcs.base (by omega)
  obtain⟨b,o,rfl⟩:=hg.hs.base (by omega)
  obtain⟨s,hs,hsmem,hr⟩:=hg.get hqn
  obtain⟨z,hz⟩:∃ z,col[q]?=some z:=⟨_,List.getElem?_eq_getElem (by have:=hco.1;omega)⟩
  have hr1:=src_int hcs hqn hz
  obtain⟨hz1,hz2⟩:=hco.2 q z s hz hs
  have hsl:=hg.ok.len s hsmem
  have hsn:=hg.nb s hsmem
  have hzd:col.getD q (-1)=z:=by rw [List.getD_eq_getElem?_getD,hz];rfl
  repeat' (first|refine d1 ?_|refine dd ?_|(show T _ (.ops _ (_::_)::_) _ _ _;refine T_op (OpT.storeA (us:=a.cells) rfl rfl rfl rfl rfl rfl (by rw [flatT_length,ownR_len,show a.cells.length=6 from rfl];omega) ?_))|(show ∀ _:Nat,T _ _ _ _ _;intro _))
  have e1:setL ((ownR l col a q).flatMap Tok.cells) (0+(q:Int).toNat * 6) a.cells=((ownR l col a q).set q a).flatMap Tok.cells:=by rw [show 0+(q:Int).toNat * 6=q * 6 by omega,flatTok_set _ _ _ (by rw [ownR_len];exact hqn)]
  rw [e1]
  refine T_if rfl (fun h1=>?_) (fun h1=>?_)
  ·simp only [decide_eq_true_eq] at h1
   obtain⟨b4,o4,hsA⟩:=(hg.ok.src s hsmem).base (by omega)
   have hsr:RdC w b4 (o4+z.toNat * 6) (tkA s.l z.toNat).cells:=(hsA ▸ hg.ok.src s hsmem:Src w 6 (some ⟨b4,o4,none⟩) s.n (s.l.flatMap Tok.cells)).getT (k:=z.toNat) (by omega) (tkA_get (by omega))
   rw [hsA] at hr
   have e2:=ownR_set (l:=l) (col:=col) (a:=a) (x:=tkA s.l z.toNat) hqn (by rw [hzd,if_pos h1,tsA_eq hs])
   have e3:=thJ_tok (l:=l) (col:=col) hqn (by rw [hzd];exact h1)
   have e4:setL (((ownR l col a q).set q a).flatMap Tok.cells) (0+(q:Int).toNat * 6) (tkA s.l z.toNat).cells=(ownR l col a (q+1)).flatMap Tok.cells:=by rw [show 0+(q:Int).toNat * 6=q * 6 by omega,flatTok_set _ _ _ (by rw [List.length_set,ownR_len];exact hqn),List.set_set,e2]
   have e5:((thJ l col q).map Value.bool).set (0+(q:Int).toNat * 1) (.bool true)=(thJ l col (q+1)).map Value.bool:=by rw [← e3,List.map_set,show 0+(q:Int).toNat * 1=q by omega]
   refine T_cutX 1 [] (fun _:Unit=>[]) (fun _=>[blk b9 a.cells 62,blk b2 ((ownR l col a (q+1)).flatMap Tok.cells) 62,blk b3 ((thJ l col (q+1)).map Value.bool) 4,blk pc c.cells 23]) (fun _=>True) ?_ ?_
   ·refine dw0 1000 [] ?_
    repeat' (first|(show T _ (.draw _ _ _ _ _::_) _ _ _;first|refine dw1 ?_|refine dwv rfl (by decide +kernel) rfl rfl (Val.load rfl (fun hg=>rdOld hr)) rfl rfl rfl ?_|refine dwg rfl (by decide +kernel) rfl rfl (Val.load rfl (fun hg=>rdOld hr)) rfl rfl rfl rfl rfl ?_|refine dwv rfl (by decide +kernel) rfl rfl (Val.load rfl (fun hg=>rdOld hr1)) rfl rfl rfl ?_|refine dwg rfl (by decide +kernel) rfl rfl (Val.load rfl (fun hg=>rdOld hr1)) rfl rfl rfl rfl rfl ?_|refine dwv rfl (by decide +kernel) rfl rfl (Val.loadA (vs:=(tkA s.l z.toNat).cells) rfl (fun _=>rdOld hsr) rfl) rfl rfl rfl ?_|refine dwg rfl (by decide +kernel) rfl rfl (Val.loadA (vs:=(tkA s.l z.toNat).cells) rfl (fun _=>rdOld hsr) rfl) rfl rfl rfl rfl rfl ?_|refine dwb rfl (by decide +kernel) ?_)|(show AllL _ [];exact True.intro)|(show AllL _ (_::_);refine ⟨?_,?_⟩)|(show OpT _ _ _ _ _ _ _;first|refine dwx ?_|refine OpT.ofVal rfl (Val.load rfl (fun hg=>rdOld hr)) rfl rfl rfl ⟨fun _=>(by first|exact Hle.none _|exact Hle.sub|exact absurd ‹_› (by decide +kernel)),?_⟩|refine OpT.ofVal rfl (Val.load rfl (fun hg=>rdOld hr1)) rfl rfl rfl ⟨fun _=>(by first|exact Hle.none _|exact Hle.sub|exact absurd ‹_› (by decide +kernel)),?_⟩|refine OpT.ofVal rfl (Val.loadA (vs:=(tkA s.l z.toNat).cells) rfl (fun _=>rdOld hsr) rfl) rfl rfl rfl ⟨fun _=>(by first|exact Hle.none _|exact Hle.sub|exact absurd ‹_› (by decide +kernel)),?_⟩|refine OpT.storeA (us:=(tkA s.l z.toNat).cells) rfl rfl rfl rfl rfl rfl (by rw [flatT_length,List.length_set,ownR_len,show (tkA s.l z.toNat).cells.length=6 from rfl];omega) ⟨fun _=>Hle.none _,?_⟩|refine OpT.store rfl rfl rfl rfl (by rw [List.length_map,thJ_len];omega) ⟨fun _=>Hle.none _,?_⟩)|(show ∀ _:Nat,T _ _ _ _ _;intro _)|(show T _ (.mark _::_) _ _ _;exact T_meetX () trivial (hG:=by rw [e4,e5];exact Hle.refl _)))
   rintro - -
   repeat' (first|refine d1 ?_|refine dd ?_|(show ∀ _:Nat,T _ _ _ _ _;intro _))
   exact T_backX (q+1) (by omega) (by omega)
  ·simp only [decide_eq_false_iff_not] at h1
   have e2:=ownR_set (l:=l) (col:=col) (a:=a) (x:=a) hqn (by rw [hzd,if_neg h1])
   repeat' (first|refine d1 ?_|refine dd ?_|(show ∀ _:Nat,T _ _ _ _ _;intro _))
   exact T_backX (q+1) (by omega) (by omega) (hG:=by rw [e2,thJ_gap (by rw [hzd];exact h1)];exact Hle.refl _)
 ·simp only [decide_eq_false_iff_not] at h
  obtain rfl:q=l.length:=by omega
  repeat' (first|refine d1 ?_|refine dd ?_|(show T _ (.ops _ (_::_)::_) _ _ _;first|refine T_call rfl rfl rfl rfl rfl (fun w hw=>columnRef_spec c (some ⟨b2,0,none⟩) (some ⟨b3,0,none⟩) l.length l.length l.length l.length (ownR l col a l.length) (thJ l col l.length) w (Src.own hw (by rw [flatT_length,ownR_len])) (ownR_len _ _ _ _) (by omega) (Src.own hw (by rw [List.length_map,thJ_len,Nat.mul_one])) (thJ_len _ _ _) (by omega)) ?_|refine T_callC rfl rfl rfl rfl rfl rfl rfl (fun hg w hw=>columnRef_spec c (some ⟨b2,0,none⟩) (some ⟨b3,0,none⟩) l.length l.length l.length l.length (ownR l col a l.length) (thJ l col l.length) w (Src.own hw (by rw [flatT_length,ownR_len])) (ownR_len _ _ _ _) (by omega) (Src.own hw (by rw [List.length_map,thJ_len,Nat.mul_one])) (thJ_len _ _ _) (by omega)) ?_)|(show T _ (.run _ _ (_::_) _ _::_) _ _ _;first|refine rc rfl rfl rfl rfl rfl rfl rfl (fun w hw=>columnRef_spec c (some ⟨b2,0,none⟩) (some ⟨b3,0,none⟩) l.length l.length l.length l.length (ownR l col a l.length) (thJ l col l.length) w (Src.own hw (by rw [flatT_length,ownR_len])) (ownR_len _ _ _ _) (by omega) (Src.own hw (by rw [List.length_map,thJ_len,Nat.mul_one])) (thJ_len _ _ _) (by omega)) ?_|refine rcG rfl rfl rfl rfl rfl rfl rfl rfl rfl (fun hg w hw=>columnRef_spec c (some ⟨b2,0,none⟩) (some ⟨b3,0,none⟩) l.length l.length l.length l.length (ownR l col a l.length) (thJ l col l.length) w (Src.own hw (by rw [flatT_length,ownR_len])) (ownR_len _ _ _ _) (by omega) (Src.own hw (by rw [List.length_map,thJ_len,Nat.mul_one])) (thJ_len _ _ _) (by omega)) ?_)|(show ∀ _:Nat,T _ _ _ _ _;intro _))
  rw [ownR_colV hg hc hbs hco]
  repeat' (first|refine d1 ?_|refine dd ?_|(show ∀ _:Nat,T _ _ _ _ _;intro _)|(show T _ (.code .ret::_) _ _ _;refine T_retV [] rfl (Hle.none _) ⟨rfl,rfl⟩))
theorem costSumR_spec (c:Costs) (A:Option Addr) (n ca:Nat) (l:List TS) (x:Value) (cols:List (List Int)) (w:World) (hg:Grp w A n l) (hx:Rd (wr w) [x] [rowsD cols]) (hsz:cols.length≤1000) :
  Spec Tryz.prog 74 [c.val, .slice A n ca,x] w (fun v R=>v = .tuple #[.int .i64 (costW c l cols).1, .int .i64 (costW c l cols).2]∧R=[]):=by
 have hx0:=hx
 have hn:=hg.hn
 have hb:=hg.hb
 obtain⟨Ak,ck,csk,rfl,hck1,hck2,hcs,hrows⟩:=hx.tabS
 refine spec_of sg Tryz.func74 rfl rfl rfl ?_
 refine T_op (OpT.box (cs:=c.cells) rfl rfl rfl rfl rfl rfl rfl (fun pc=>?_))
 repeat' (first|refine d1 ?_|refine dd ?_|(show T _ (.ops _ (_::_)::_) _ _ _;first|refine T_call rfl rfl rfl rfl rfl (fun w hw=>usableR_spec c A n ca l w (hg.cls hw)) ?_|refine T_callC rfl rfl rfl rfl rfl rfl rfl (fun hg w hw=>usableR_spec c A n ca l w (hg.cls hw)) ?_)|(show T _ (.run _ _ (_::_) _ _::_) _ _ _;first|refine rc rfl rfl rfl rfl rfl rfl rfl (fun w hw=>usableR_spec c A n ca l w (hg.cls hw)) ?_|refine rcG rfl rfl rfl rfl rfl rfl rfl rfl rfl (fun hg w hw=>usableR_spec c A n ca l w (hg.cls hw)) ?_)|(show ∀ _:Nat,T _ _ _ _ _;intro _))
 refine T_if rfl (fun h=>?_) (fun h=>?_)
 ·simp only [Bool.not_eq_true',decide_eq_false_iff_not] at h
  have e:costW c l cols=(0,usV c l):=if_pos h
  rw [e]
  repeat' (first|refine d1 ?_|refine dd ?_|(show ∀ _:Nat,T _ _ _ _ _;intro _)|(show T _ (.code .ret::_) _ _ _;refine T_retV [] rfl (Hle.none _) ⟨rfl,rfl⟩))
 simp only [Bool.not_eq_false',decide_eq_true_eq] at h
 have h0:l.length≠0:=fun h9=>by unfold usV at h;rw [if_pos h9] at h;omega
 repeat' (first|refine d1 ?_|refine dd ?_|(show T _ (.ops _ (_::_)::_) _ _ _;first|refine T_call rfl rfl rfl rfl rfl (fun w hw=>check19R_spec A n ca l _ cols w (hg.cls hw) (hx0.old hw)) ?_|refine T_callC rfl rfl rfl rfl rfl rfl rfl (fun hg w hw=>check19R_spec A n ca l _ cols w (hg.cls hw) (hx0.old hw)) ?_)|(show T _ (.run _ _ (_::_) _ _::_) _ _ _;first|refine rc rfl rfl rfl rfl rfl rfl rfl (fun w hw=>check19R_spec A n ca l _ cols w (hg.cls hw) (hx0.old hw)) ?_|refine rcG rfl rfl rfl rfl rfl rfl rfl rfl rfl (fun hg w hw=>check19R_spec A n ca l _ cols w (hg.cls hw) (hx0.old hw)) ?_)|(show ∀ _:Nat,T _ _ _ _ _;intro _))
 rw [chkC_okC h0]
 by_cases h1:okC l cols=true
 case neg =>
  have e:costW c l cols=(0,19):=by unfold costW;rw [if_neg (by simpa using h),if_neg h1]
  rw [e,if_neg h1]
  refine T_if rfl (fun _=>?_) (fun h=>by exfalso;simp at h)
  repeat' (first|refine d1 ?_|refine dd ?_|(show ∀ _:Nat,T _ _ _ _ _;intro _)|(show T _ (.code .ret::_) _ _ _;refine T_retV [] rfl (Hle.none _) ⟨rfl,rfl⟩))
 rw [if_pos h1]
 refine T_if rfl (fun h=>by exfalso;simp at h) (fun _=>?_)
 have hok:ColsOk (lens l) cols:=Classical.byContradiction fun h9=>by rw [okC_false h9] at h1;cases h1
 have hck:ck21 c l=0:=by unfold usV at h;rwa [if_neg h0] at h
 obtain⟨hc,hbs⟩:=ck21_ok hck
 have e:costW c l cols=(totZ c l cols,0):=by unfold costW;rw [if_neg (by simpa using h),if_pos h1]
 rw [e]
 repeat' (first|refine d1 ?_|refine dd ?_|(show ∀ _:Nat,T _ _ _ _ _;intro _))
 refine T_loopX (fun i:Nat=>[(11, .int .i64 (i:Nat)),(10, .int .i64 (totZ c l (cols.take i)))]) (fun _=>[blk pc c.cells 23]) (fun i=>i≤cols.length) (fun i=>cols.length - i) 0 (Nat.zero_le _) ?_
 intro i hi
 repeat' (first|refine d1 ?_|refine dd ?_|(show ∀ _:Nat,T _ _ _ _ _;intro _))
 refine T_if rfl (fun h3=>?_) (fun h3=>?_)
 ·simp only [decide_eq_true_eq] at h3
  have hin:i<cols.length:=by omega
  obtain⟨b,o,rfl⟩:=hcs.base (by omega)
  obtain⟨r,hr⟩:∃ r,cols[i]?=some r:=⟨_,List.getElem?_eq_getElem hin⟩
  have hrm:=List.mem_of_getElem? hr
  obtain⟨Au,capu,hu,-,-,hA⟩:=hrows.tabRow hr
  have hco:ColOk l r:=ColsOk.colOk (l:=l) hok hrm
  have hrl:r.length=n:=by rw [hco.1,hn]
  have hr0:=rowHd hcs hin hu
  have hsr:=rowSrc hA
  rw [hrl] at hr0 hsr
  have htk:=take_snoc _ _ _ hr
  have hs:totZ c l (cols.take (i+1))=totZ c l (cols.take i)+colZ c l r:=by rw [htk,totZ_app,totZ_cons];show _=totZ c l (cols.take i)+colZ c l r;unfold totZ;simp
  have b1:=totZ_bd hc (l:=l) (by omega) (cols.take i)
  have b2:=colZ_bd hc (l:=l) (by omega) r
  have b3:((cols.take i).length:Int)≤999:=by rw [List.length_take];omega
  repeat' (first|refine d1 ?_|refine dd ?_|(show T _ (.ops _ (_::_)::_) _ _ _;first|refine T_call rfl rfl rfl rfl rfl (fun w hw=>columnCostR_spec c A Au n ca capu l r w (hg.cls hw) hc hbs (src_below hsr hw.below) hco) ?_|refine T_callC rfl rfl rfl rfl rfl rfl rfl (fun hg w hw=>columnCostR_spec c A Au n ca capu l r w (hg.cls hw) hc hbs (src_below hsr hw.below) hco) ?_)|(show T _ (.run _ _ (_::_) _ _::_) _ _ _;first|refine rc rfl rfl rfl rfl rfl rfl rfl (fun w hw=>columnCostR_spec c A Au n ca capu l r w (hg.cls hw) hc hbs (src_below hsr hw.below) hco) ?_|refine rcG rfl rfl rfl rfl rfl rfl rfl rfl rfl (fun hg w hw=>columnCostR_spec c A Au n ca capu l r w (hg.cls hw) hc hbs (src_below hsr hw.below) hco) ?_)|(show ∀ _:Nat,T _ _ _ _ _;intro _))
  refine T_if rfl (fun h4=>by exfalso;simp at h4;omega) (fun _=>?_)
  repeat' (first|refine d1 ?_|refine dd ?_|(show ∀ _:Nat,T _ _ _ _ _;intro _))
  exact T_backX (i+1) (by omega) (by omega) (hE:=⟨rfl,by rw [hs];rfl,trivial⟩)
 ·simp only [decide_eq_false_iff_not] at h3
  obtain rfl:i=cols.length:=by omega
  rw [List.take_of_length_le (Nat.le_refl _)]
  repeat' (first|refine d1 ?_|refine dd ?_|(show ∀ _:Nat,T _ _ _ _ _;intro _)|(show T _ (.code .ret::_) _ _ _;refine T_retV [] rfl (Hle.none _) ⟨rfl,rfl⟩))
end Go.Proofs.YthadgaboakipoaaGreatDoor
namespace Go.Proofs.YthadgaboakipoaaGreatDoor
open Go.RowKit Go.Shelf Go.Proofs
set_option maxRecDepth 100000
set_option maxHeartbeats 1000000

theorem numL_app1:∀ {a b:List Nat} (x y:Nat),a.length=b.length→numL (a++[x]) (b++[y])=numL a b * (x+1)+y
 | [],[],x,y,_=>by show y * 1+0=0 * (x+1)+y;omega
 | n::a,c::b,x,y,h=>by
  show c * volL (a++[x])+numL (a++[x]) (b++[y])=(c * volL a+numL a b) * (x+1)+y
  rw [numL_app1 x y (by simpa using h),volL_app,Nat.add_mul,Nat.mul_assoc]
  have:volL [x]=x+1:=Nat.mul_one _
  rw [this];omega
 | [],c::b,_,_,h=>by simp at h
 | n::a,[],_,_,h=>by simp at h
theorem InB.take:∀ {ls v:List Nat},InB ls v→∀ k,InB (ls.take k) (v.take k)
 | [],[],_,k=>by simp [InB]
 | n::ls,a::v,h,0=>trivial
 | n::ls,a::v,h,k+1=>⟨h.1,InB.take h.2 k⟩
 | [],a::v,h,_=>h.elim
 | n::ls,[],h,_=>h.elim
theorem numP_lt {ls v:List Nat} (h:InB ls v) (k:Nat):numL (ls.take k) (v.take k)<volL ls:=Nat.lt_of_lt_of_le (numL_lt (h.take k)) (volL_take ls k)
theorem numP_succ {ls v:List Nat} (h:InB ls v) {k n a:Nat} (hk:ls[k]?=some n) (ha:v[k]?=some a):numL (ls.take (k+1)) (v.take (k+1))=numL (ls.take k) (v.take k) * (n+1)+a:=by
 have hl:=h.len
 rw [take_snoc _ _ _ hk,take_snoc _ _ _ ha,numL_app1 _ _ (by rw [List.length_take,List.length_take,hl])]
theorem intN_get {v:List Nat} {k a:Nat} (h:v[k]?=some a):(intN v)[k]?=some (a:Int):=by unfold intN;rw [List.getElem?_map,h];rfl
theorem intN_len (v:List Nat):(intN v).length=v.length:=by unfold intN;rw [List.length_map]
theorem toM_snoc:∀ (m v:List Nat) (u:Nat),toM v (m++[u])=(toM v m).set u ((toM v m).getD u 0+1)
 | [],v,u=>rfl
 | s::m,v,u=>toM_snoc m (v.set s (v.getD s 0+1)) u
theorem intN_set (v:List Nat) (u x:Nat):intN (v.set u x)=(intN v).set u (x:Int):=by unfold intN;rw [List.map_set]
end Go.Proofs.YthadgaboakipoaaGreatDoor
namespace Go.Proofs.YthadgaboakipoaaGreatDoor
open Go.RowKit Go.Shelf Go.Proofs
set_option maxRecDepth 100000
set_option maxHeartbeats 1000000

def spcL (c:Costs) (A:Option Addr) (n ca:Nat) (M:Value) (V:Nat):List Value:=[.int .i64 c.gap, .int .i64 c.norm, .int .i64 c.letter, .int .i64 c.most, .slice A n ca,M, .int .i64 (V:Nat)]
theorem rdPart {C:Cx} {H:List HA} {b off:Nat} {cs:List Value} {t:TypeId} {rb:HA→List HA} [hf:Focus H b cs t rb] {vs:List Value} (h:(cs.drop off).take vs.length=vs):∀ w,Cls C.w0 w H→RdC w b off vs :=
 rdOwn fun j u hu=>by
  rw [← h] at hu
  have hj:j<vs.length:=by
   refine Nat.lt_of_not_le fun h9=>?_
   rw [List.getElem?_eq_none (by rw [List.length_take];omega)] at hu
   cases hu
  rw [List.getElem?_take_of_lt hj,List.getElem?_drop] at hu
  exact hu
theorem Grp.blw {w0 w:World} {A:Option Addr} {n:Nat} {l:List TS} (h:Grp w0 A n l) (hb:Below w0.heap.size w0 w):Grp w A n l :=
 ⟨h.hst.below hb,src_below h.hs hb,h.hn,h.hb,⟨fun t ht=>src_below (h.ok.src t ht) hb,h.ok.len,h.ok.bd⟩,h.nb,h.sm⟩
theorem number20_spec (c:Costs) (A:Option Addr) (n ca:Nat) (M:Value) (V:Nat) (l:List TS) (v:List Nat) (w:World) (hg:Grp w A n l) (h4:n≤4) (hv:InB (lens l) v) (hV:volL (lens l)≤1000000) :
  Spec Tryz.prog 65 [.agg (spcL c A n ca M V).toArray, .agg (atV v).toArray] w (fun u R=>u = .int .i64 (numL (lens l) v:Nat)∧R=[]):=by
 have hn:=hg.hn
 have hll:=lens_len l
 have hvl:=hv.len
 refine spec_of sg Tryz.func65 rfl rfl rfl ?_
 refine T_op (OpT.box (cs:=spcL c A n ca M V) rfl rfl rfl rfl rfl rfl rfl (fun p2=>?_))
 refine T_op (OpT.box (cs:=atV v) rfl rfl rfl rfl rfl rfl rfl (fun p3=>?_))
 repeat' (first|refine d1 ?_|refine dd ?_|(show ∀ _:Nat,T _ _ _ _ _;intro _))
 refine T_loopX (fun k:Nat=>[(11, .int .i64 (k:Nat)),(5, .int .i64 (numL ((lens l).take k) (v.take k):Nat))]) (fun _=>[blk p3 (atV v) 99,blk p2 (spcL c A n ca M V) 84]) (fun k=>k≤n) (fun k=>n - k) 0 (Nat.zero_le _) ?_
 intro k hk
 have hlt:=numP_lt hv k
 repeat' (first|refine d1 ?_|refine dd ?_|(show ∀ _:Nat,T _ _ _ _ _;intro _))
 refine T_if rfl (fun h=>?_) (fun h=>?_)
 ·simp only [decide_eq_true_eq] at h
  have hkn:k<n:=by omega
  obtain⟨b,o,rfl⟩:=hg.hs.base (by omega)
  obtain⟨t,ht,htm,hrt⟩:=hg.get (k:=k) hkn
  obtain⟨a,ha⟩:∃ a,v[k]?=some a:=⟨_,List.getElem?_eq_getElem (by omega)⟩
  have htb:=hg.nb t htm
  have hst:=numP_succ hv (lens_get ht) ha
  have hlt2:=numP_lt hv (k+1)
  have hav:(atV v)[0+(k:Int).toNat * 1]?=some (.int .i64 (a:Nat)):=by
   have h9:=atV_get v (s:=k) (by omega)
   rw [show 0+(k:Int).toNat * 1=k by omega,h9,List.getD_eq_getElem?_getD,ha];rfl
  have e:((numL ((lens l).take k) (v.take k):Nat):Int) * ((t.n:Int)+1)=((numL ((lens l).take k) (v.take k) * (t.n+1):Nat):Int):=by simp
  have e2:((numL ((lens l).take (k+1)) (v.take (k+1)):Nat):Int)=((numL ((lens l).take k) (v.take k):Nat):Int) * ((t.n:Int)+1)+(a:Int):=by rw [hst];simp
  generalize numL ((lens l).take k) (v.take k)=q at hlt hst e e2 ⊢
  repeat' (first|refine d1 ?_|refine dd ?_|(show T _ (.ops _ (_::_)::_) _ _ _;first|refine T_val rfl (Val.nilc rfl) rfl rfl rfl ?_|refine T_valC rfl (Val.nilc rfl) rfl rfl rfl rfl rfl ?_|refine T_val rfl (Val.load rfl (fun hg=>rdOwn1 (b:=p3) hav)) rfl rfl rfl ?_|refine T_valC rfl (Val.load rfl (fun hg=>rdOwn1 (b:=p3) hav)) rfl rfl rfl rfl rfl ?_)|(show T _ (.run _ _ (_::_) _ _::_) _ _ _;first|refine rv rfl rfl rfl (Val.nilc rfl) rfl rfl rfl ?_|refine rg rfl rfl rfl (Val.nilc rfl) rfl rfl rfl rfl rfl ?_|refine rv rfl rfl rfl (Val.load rfl (fun hg=>rdOwn1 (b:=p3) hav)) rfl rfl rfl ?_|refine rg rfl rfl rfl (Val.load rfl (fun hg=>rdOwn1 (b:=p3) hav)) rfl rfl rfl rfl rfl ?_)|(show ∀ _:Nat,T _ _ _ _ _;intro _))
  exact T_backX (k+1) (by omega) (by omega) (hE:=⟨rfl,by rw [e2];rfl,trivial⟩)
 ·simp only [decide_eq_false_iff_not] at h
  obtain rfl:k=n:=by omega
  rw [List.take_of_length_le (by omega),List.take_of_length_le (by omega)]
  repeat' (first|refine d1 ?_|refine dd ?_|(show ∀ _:Nat,T _ _ _ _ _;intro _)|(show T _ (.code .ret::_) _ _ _;refine T_retV [] rfl (Hle.none _) ⟨rfl,rfl⟩))
theorem stp_drop:∀ {ls:List Nat} {s:Nat},s<ls.length→stpL ls s=volL (ls.drop (s+1))
 | n::ls,0,_=>rfl
 | n::ls,s+1,h=>stp_drop (ls:=ls) (by simpa using h)
theorem vol_drop {ls:List Nat} {s n:Nat} (h:ls[s]?=some n):volL (ls.drop s)=(n+1) * volL (ls.drop (s+1)):=by
 obtain⟨h1,e⟩:=List.getElem?_eq_some_iff.1 h
 rw [List.drop_eq_getElem_cons h1,e];rfl
def atK (v:List Nat) (s:Nat):List Value:=[.int .i64 (if s≤0 then v.getD 0 0 else 0:Nat), .int .i64 (if s≤1 then v.getD 1 0 else 0:Nat), .int .i64 (if s≤2 then v.getD 2 0 else 0:Nat), .int .i64 (if s≤3 then v.getD 3 0 else 0:Nat)]
theorem atK_start {v:List Nat} {n:Nat} (hv:v.length=n):atK v n=atJ [] 0:=by
 have h:∀ s,(if n≤s then v.getD s 0 else 0)=0:=fun s=>by
  by_cases hs:n≤s
  ·rw [if_pos hs,List.getD_eq_getElem?_getD,List.getElem?_eq_none (by omega)];rfl
  ·rw [if_neg hs]
 unfold atK atJ
 rw [h,h,h,h];rfl
theorem atK_zero (v:List Nat):atK v 0=atV v:=rfl
theorem at20_spec (c:Costs) (A:Option Addr) (n ca:Nat) (M:Value) (V:Nat) (l:List TS) (p:Nat) (w:World) (hg:Grp w A n l) (h4:n≤4) (hv:volL (lens l)≤1000000) (hp:p<volL (lens l)) :
  Spec Tryz.prog 61 [.agg (spcL c A n ca M V).toArray, .int .i64 (p:Nat)] w (fun u R=>u = .agg (atV (atL (lens l) p)).toArray∧R=[]):=by
 have hn:=hg.hn
 have hll:=lens_len l
 have hal:=atL_len (lens l) p
 refine spec_of sg Tryz.func61 rfl rfl rfl ?_
 refine T_op (OpT.box (cs:=spcL c A n ca M V) rfl rfl rfl rfl rfl rfl rfl (fun p2=>?_))
 repeat' (first|refine d1 ?_|refine dd ?_|(show T _ (.ops _ (_::_)::_) _ _ _;first|refine T_val rfl (Val.nilc rfl) rfl rfl rfl ?_|refine T_valC rfl (Val.nilc rfl) rfl rfl rfl rfl rfl ?_)|(show T _ (.run _ _ (_::_) _ _::_) _ _ _;first|refine rv rfl rfl rfl (Val.nilc rfl) rfl rfl rfl ?_|refine rg rfl rfl rfl (Val.nilc rfl) rfl rfl rfl rfl rfl ?_)|(show ∀ _:Nat,T _ _ _ _ _;intro _))
 rename_i p4 p5
 refine T_loopX (fun s:Nat=>[(6, .int .i64 ((s:Int) - 1)),(1, .int .i64 (p / volL ((lens l).drop s):Nat))]) (fun s=>[blk p5 (atK (atL (lens l) p) s) 99,blk p4 (atJ [] 0) 99,blk p2 (spcL c A n ca M V) 84]) (fun s=>s≤n) (fun s=>s) n (Nat.le_refl _) ?_ (hE:=⟨rfl,by rw [List.drop_of_length_le (by omega)];show lookE _ 1=some (Value.int .i64 (p / 1:Nat));rw [Nat.div_one];rfl,trivial⟩) (hG:=by rw [atK_start (by omega)];exact Hle.refl _)
 rintro s hs
 repeat' (first|refine d1 ?_|refine dd ?_|(show ∀ _:Nat,T _ _ _ _ _;intro _))
 refine T_if rfl (fun h=>?_) (fun h=>?_)
 ·simp only [decide_eq_true_eq] at h
  obtain⟨s,rfl⟩:∃ r,s=r+1:=⟨s - 1,by omega⟩
  have hsn:s<n:=by omega
  obtain⟨b,o,rfl⟩:=hg.hs.base (by omega)
  obtain⟨t,ht,htm,hr⟩:=hg.get (k:=s) hsn
  have htn:=hg.nb t htm
  have hr9:RdC w b (o+(((s+1:Nat):Int) - 1).toNat * 1) [.slice t.A t.n t.cap]:=by rw [show (((s+1:Nat):Int) - 1)=(s:Int) by omega];exact hr
  obtain⟨q,hq⟩:∃ q,q=p / volL ((lens l).drop (s+1)):=⟨_,rfl⟩
  have hdl:q≤p:=by rw [hq];exact Nat.div_le_self _ _
  have hdv:p / volL ((lens l).drop s)=q / (t.n+1):=by rw [vol_drop (lens_get ht),hq,Nat.div_div_eq_div_mul,Nat.mul_comm]
  have hat:=atL_get p (lens_get ht)
  rw [stp_drop (by omega), ← hq] at hat
  have hgd:(atL (lens l) p).getD s 0=q % (t.n+1):=by rw [List.getD_eq_getElem?_getD,hat];rfl
  rw [← hq]
  obtain⟨y,hy⟩:∃ y,y=q / (t.n+1):=⟨_,rfl⟩
  have e1:((q:Int) / ((t.n:Int)+1))=(y:Int):=by rw [hy];simp
  have e2:((q:Int) % ((t.n:Int)+1))=((q % (t.n+1):Nat):Int):=by simp
  have hdl2:y≤q:=by rw [hy];exact Nat.div_le_self _ _
  have hset:(atK (atL (lens l) p) (s+1)).set (0+(((s+1:Nat):Int) - 1).toNat * 1) (.int .i64 ((atL (lens l) p).getD s 0:Nat))=atK (atL (lens l) p) s:=by
   rw [show 0+(((s+1:Nat):Int) - 1).toNat * 1=s by omega]
   obtain rfl|rfl|rfl|rfl:s=0∨s=1∨s=2∨s=3:=by omega
   all_goals simp [atK]
  have hjl:(atK (atL (lens l) p) (s+1)).length=4:=rfl
  repeat' (first|refine d1 ?_|(show T _ (.ops _ (_::_)::_) _ _ _;first|refine T_val rfl (Val.nilc rfl) rfl rfl rfl ?_|refine T_valC rfl (Val.nilc rfl) rfl rfl rfl rfl rfl ?_)|(show T _ (.run _ _ (_::_) _ _::_) _ _ _;first|refine rv rfl rfl rfl (Val.nilc rfl) rfl rfl rfl ?_|refine rg rfl rfl rfl (Val.nilc rfl) rfl rfl rfl rfl rfl ?_)|(show ∀ _:Nat,T _ _ _ _ _;intro _))
  refine rsH [blk p2 (spcL c (some ⟨b,o,none⟩) n ca M V) 84] 1000 [0,1,2,3,4,5,6,7,8,9] ?_
  repeat' (first|refine d1 ?_|refine dd ?_|(show T _ (.ops _ (_::_)::_) _ _ _;first|refine T_val rfl (Val.nilc rfl) rfl rfl rfl ?_|refine T_valC rfl (Val.nilc rfl) rfl rfl rfl rfl rfl ?_|refine T_val rfl (Val.vc rfl (fun _=>⟨by omega,by omega,by rw [e1];simp only [inK];omega⟩)) rfl rfl rfl ?_|refine T_valC rfl (Val.vc rfl (fun _=>⟨by omega,by omega,by rw [e1];simp only [inK];omega⟩)) rfl rfl rfl rfl rfl ?_|refine T_val rfl (Val.vc rfl (fun _=>⟨by omega,by omega⟩)) rfl rfl rfl ?_|refine T_valC rfl (Val.vc rfl (fun _=>⟨by omega,by omega⟩)) rfl rfl rfl rfl rfl ?_)|(show T _ (.run _ _ (_::_) _ _::_) _ _ _;first|refine rv rfl rfl rfl (Val.nilc rfl) rfl rfl rfl ?_|refine rg rfl rfl rfl (Val.nilc rfl) rfl rfl rfl rfl rfl ?_|refine rv rfl rfl rfl (Val.vc rfl (fun _=>⟨by omega,by omega,by rw [e1];simp only [inK];omega⟩)) rfl rfl rfl ?_|refine rg rfl rfl rfl (Val.vc rfl (fun _=>⟨by omega,by omega,by rw [e1];simp only [inK];omega⟩)) rfl rfl rfl rfl rfl ?_|refine rv rfl rfl rfl (Val.vc rfl (fun _=>⟨by omega,by omega⟩)) rfl rfl rfl ?_|refine rg rfl rfl rfl (Val.vc rfl (fun _=>⟨by omega,by omega⟩)) rfl rfl rfl rfl rfl ?_|refine ro rfl rfl (OpT.store rfl rfl rfl rfl (by rw [hjl];omega) ⟨fun _=>Hle.tail _ _,?_⟩))|(show ∀ _:Nat,T _ _ _ _ _;intro _))
  refine T_backX s (by omega) (by omega) (hE:=⟨by rw [show ((s:Nat):Int) - 1=(((s+1:Nat):Int) - 1) - 1 by omega];rfl,by rw [hdv, ← hy, ← e1];rfl,trivial⟩) (hG:=?_)
  rw [← hset,hgd, ← e2]
  exact Hle.refl _
 ·simp only [decide_eq_false_iff_not] at h
  obtain rfl:s=0:=by omega
  rw [atK_zero]
  repeat' (first|refine d1 ?_|refine dd ?_|(show ∀ _:Nat,T _ _ _ _ _;intro _))
  refine T_le (H':=[blk p4 (atV (atL (lens l) p)) 99]) (Hle.nth 1 rfl) ?_
  exact T_retM (vs:=[.agg (atV (atL (lens l) p)).toArray]) [] ⟨⟨p4,_,atV (atL (lens l) p),rfl,rfl,rfl,rfl,(fun h=>by cases h),rfl,rdAll⟩,trivial⟩ (Hle.none _) ⟨rfl,rfl⟩
theorem steps20_fn (c:Costs) (A:Option Addr) (n ca:Nat) (M:Value) (V p:Nat) (w:World):Spec Tryz.prog 56 [.agg (spcL c A n ca M V).toArray, .int .i64 (p:Nat)] w
  (fun v R=>∃ g:Nat × Nat,True∧v = .func (.func 108) #[] #[.pointer (some ⟨g.1,0,none⟩), .pointer (some ⟨g.2,0,none⟩)]∧R=[blk g.2 [.int .i64 (p:Nat)] 3,blk g.1 (spcL c A n ca M V) 84]):=by
 refine spec_of sg Tryz.func56 rfl rfl rfl ?_
 refine T_op (OpT.box (cs:=spcL c A n ca M V) rfl rfl rfl rfl rfl rfl rfl (fun g1=>?_))
 refine T_op (OpT.box (cs:=[.int .i64 (p:Nat)]) rfl rfl rfl rfl rfl rfl rfl (fun g2=>?_))
 repeat' (first|refine d1 ?_|refine dd ?_|(show ∀ _:Nat,T _ _ _ _ _;intro _)|(show T _ (.code .ret::_) _ _ _;refine T_retV _ rfl (Hle.refl _) ⟨(g1,g2),trivial,rfl,rfl⟩))
end Go.Proofs.YthadgaboakipoaaGreatDoor
namespace Go.Proofs.YthadgaboakipoaaGreatDoor
open Go.RowKit Go.Shelf Go.Proofs
set_option maxRecDepth 100000
set_option maxHeartbeats 1000000

theorem col_none (n s:Nat):(List.replicate n (-1:Int)).getD s (-1) = -1:=by
 rw [List.getD_eq_getElem?_getD,List.getElem?_replicate];split <;> rfl
theorem ownJ_none (l:List TS) (n k:Nat):ownJ l (List.replicate n (-1)) k=ownJ l (List.replicate n (-1)) 0:=by
 unfold ownJ
 refine List.map_congr_left fun s _=>?_
 rw [col_none,if_neg (by omega),if_neg (by omega)]
theorem thJ_none (l:List TS) (n k:Nat):thJ l (List.replicate n (-1)) k=thJ l (List.replicate n (-1)) 0:=by
 unfold thJ
 refine List.map_congr_left fun s _=>?_
 rw [col_none,decide_eq_false (by omega),decide_eq_false (by omega)]
theorem set_getD {col:List Int} {i s:Nat} {z:Int} (hi:i<col.length):(col.set i z).getD s (-1)=if i=s then z else col.getD s (-1):=by
 rw [List.getD_eq_getElem?_getD,List.getElem?_set]
 by_cases e:i=s
 ·subst e;rw [if_pos rfl,if_pos rfl,if_pos hi];rfl
 ·rw [if_neg e,if_neg e, ← List.getD_eq_getElem?_getD]
theorem ownJ_set {l:List TS} {col:List Int} {i:Nat} {z:Int} (hi:i<l.length) (hl:col.length=l.length) (hz:0≤z):ownJ l (col.set i z) l.length=(ownJ l col l.length).set i (tkA (tsA l i).l z.toNat):=by
 refine List.ext_getElem? fun s=>?_
 rw [List.getElem?_set,ownJ_len]
 unfold ownJ
 rw [List.getElem?_map,List.getElem?_map]
 rcases Nat.lt_or_ge s l.length with h2|h2
 ·rw [List.getElem?_range h2]
  simp only [Option.map_some]
  rw [set_getD (by omega)]
  by_cases e:i=s
  ·subst e
   rw [if_pos rfl,if_pos rfl,if_pos hi,if_pos ⟨hi,hz⟩]
  ·rw [if_neg e,if_neg e]
 ·rw [if_neg (by omega),List.getElem?_eq_none (by simp;omega)]
  rfl
theorem thJ_set {l:List TS} {col:List Int} {i:Nat} {z:Int} (hi:i<l.length) (hl:col.length=l.length) (hz:0≤z):thJ l (col.set i z) l.length=(thJ l col l.length).set i true:=by
 refine List.ext_getElem? fun s=>?_
 rw [List.getElem?_set,thJ_len]
 unfold thJ
 rw [List.getElem?_map,List.getElem?_map]
 rcases Nat.lt_or_ge s l.length with h2|h2
 ·rw [List.getElem?_range h2]
  simp only [Option.map_some]
  rw [set_getD (by omega)]
  by_cases e:i=s
  ·subst e
   rw [if_pos rfl,if_pos rfl,if_pos hi,decide_eq_true ⟨hi,hz⟩]
  ·rw [if_neg e,if_neg e]
 ·rw [if_neg (by omega),List.getElem?_eq_none (by simp;omega)]
  rfl
theorem steps20c_spec (c:Costs) (A:Option Addr) (n ca:Nat) (M:Value) (V:Nat) (l:List TS) (v:List Nat) (p4 g1 u:Nat) (w:World) (hg:Grp w A n l) (h4:n≤4) (hu:u<n) (hp4:RdC w p4 0 (atV v)) (hg1:RdC w g1 0 (spcL c A n ca M V)) :
  Spec Tryz.prog 110 [.int .i64 (u:Nat), .pointer (some ⟨p4,0,none⟩), .pointer (some ⟨g1,0,none⟩)] w (fun x R=>x = .bool (decide (((v.getD u 0:Nat):Int)=((lens l).getD u 0:Nat)))∧R=[]):=by
 have hn:=hg.hn
 refine spec_of sg Tryz.func110 rfl rfl rfl ?_
 obtain⟨b,o,rfl⟩:=hg.hs.base (by omega)
 obtain⟨t,ht,htm,hrt⟩:=hg.get (k:=u) hu
 have hgl:(lens l).getD u 0=t.n:=by rw [List.getD_eq_getElem?_getD,lens_get ht];rfl
 have h1:RdC w p4 (0+(u:Int).toNat * 1) [.int .i64 (v.getD u 0:Nat)]:=RdC.one (by have:=hp4 u _ (atV_get v (by omega));rw [show 0+(u:Int).toNat * 1=0+u by omega];exact this)
 have h2:RdC w g1 (0+4) [.slice (some ⟨b,o,none⟩) n ca]:=hg1.at rfl
 rw [hgl]
 repeat' (first|refine d1 ?_|refine dd ?_|(show T _ (.ops _ (_::_)::_) _ _ _;first|refine T_val rfl (Val.nilc rfl) rfl rfl rfl ?_|refine T_valC rfl (Val.nilc rfl) rfl rfl rfl rfl rfl ?_|refine T_val rfl (Val.load rfl (fun hg=>rdOld h1)) rfl rfl rfl ?_|refine T_valC rfl (Val.load rfl (fun hg=>rdOld h1)) rfl rfl rfl rfl rfl ?_|refine T_val rfl (Val.load rfl (fun hg=>rdOld h2)) rfl rfl rfl ?_|refine T_valC rfl (Val.load rfl (fun hg=>rdOld h2)) rfl rfl rfl rfl rfl ?_)|(show T _ (.run _ _ (_::_) _ _::_) _ _ _;first|refine rv rfl rfl rfl (Val.nilc rfl) rfl rfl rfl ?_|refine rg rfl rfl rfl (Val.nilc rfl) rfl rfl rfl rfl rfl ?_|refine rv rfl rfl rfl (Val.load rfl (fun hg=>rdOld h1)) rfl rfl rfl ?_|refine rg rfl rfl rfl (Val.load rfl (fun hg=>rdOld h1)) rfl rfl rfl rfl rfl ?_|refine rv rfl rfl rfl (Val.load rfl (fun hg=>rdOld h2)) rfl rfl rfl ?_|refine rg rfl rfl rfl (Val.load rfl (fun hg=>rdOld h2)) rfl rfl rfl rfl rfl ?_)|(show ∀ _:Nat,T _ _ _ _ _;intro _)|(show T _ (.code .ret::_) _ _ _;refine T_retV [] rfl (Hle.none _) ⟨rfl,rfl⟩))
def Q20 (K:List Int→Int) (n:Nat) (ls v:List Nat) (ρ:Rdr) (j:Nat) (x:List Value) (B:List HA):Prop :=
 ∃ m A ca,(posL ls v (mvL n))[j]?=some m∧Rd ρ [.slice A m.length ca] [intsD (intN m)]∧x=[.agg #[.slice A m.length ca, .int .i64 (K (colT v m)), .int .i64 (numL ls (toM v m):Nat)]]∧B=[]
theorem poss_any {ls v m:List Nat} (hv:InB ls v):((intN m).any fun x=>decide (((v.getD x.toNat 0:Nat):Int)=(ls.getD x.toNat 0:Nat))) = !possM ls v m:=by
 rw [Bool.eq_iff_iff,List.any_eq_true,Bool.not_eq_true', ← Bool.not_eq_true]
 constructor
 ·rintro⟨x,hx,he⟩ hp
  unfold intN at hx
  obtain⟨s,hs,rfl⟩:=List.mem_map.1 hx
  have h1:=possM_iff.1 hp s hs
  rw [decide_eq_true_eq,Int.toNat_natCast] at he
  omega
 ·intro hp
  refine Classical.byContradiction fun h=>hp (possM_iff.2 fun s hs=>?_)
  have h1:=hv.get s
  refine Nat.lt_of_le_of_ne h1 fun e=>h ⟨(s:Int),by unfold intN;exact List.mem_map.2 ⟨s,hs,rfl⟩,?_⟩
  rw [decide_eq_true_eq,Int.toNat_natCast,e]
theorem steps20_iter {c:Costs} {w0:World} {A:Option Addr} {n ca V:Nat} {l:List TS} (hg:Grp w0 A n l) (hc:costE c=0) (hbs:badS l=false) (h1:1≤n) (h4:n≤4) (hv:volL (lens l)≤65536) {p:Nat} (hp:p<volL (lens l)) (g1 g2:Nat) {M:Value} {pz:Frag} {ρ:Rdr} (hρ:∀ w,Below w0.heap.size w0 w→(fr pz).le (wr w)→ρ.le (wr w)) (hM:Rd ρ [M] [rowsD ((mvL n).map intN)]) :
  IterZ Tryz.prog w0 108 [] [.pointer (some ⟨g1,0,none⟩), .pointer (some ⟨g2,0,none⟩)]
   [blk g2 [.int .i64 (p:Nat)] 3,blk g1 (spcL c A n ca M V) 84]
   (Q20 (colZ c l) n (lens l) (atL (lens l) p) ρ) (posL (lens l) (atL (lens l) p) (mvL n)).length pz:=by
 have hn:=hg.hn
 have hll:=lens_len l
 have hvl:=atL_len (lens l) p
 have hin:=atL_in (lens l) p
 have hmo:=mvL_ok h1 h4
 have hlsn:(lens l).length=n:=by omega
 obtain⟨Am,cm,csm,rfl,hm1,hm2,hml,hmr,hrows⟩:=hM.tab
 rw [List.length_map] at hm1 hml hmr
 have hm15:(mvL n).length≤15:=by
  obtain rfl|rfl|rfl|rfl:n=1∨n=2∨n=3∨n=4:=by omega
  all_goals decide
 refine iterZ_of sg Tryz.func108 rfl rfl rfl ?_
 intro l' GQ X Hj hz hY h0
 rw [List.length_map]
 obtain⟨v,hve⟩:∃ v,v=atL (lens l) p:=⟨_,rfl⟩
 show T _ _ _ _ (blk g2 [.int .i64 (p:Nat)] 3::blk g1 (spcL c A n ca (.slice Am (mvL n).length cm) V) 84::Hj)
 repeat' (first|refine d1 ?_|refine dd ?_|(show T _ (.ops _ (_::_)::_) _ _ _;first|refine T_call rfl rfl rfl rfl rfl (fun w hw=>at20_spec c A n ca (.slice Am (mvL n).length cm) V l p w (hg.cls hw) h4 (by omega) hp) ?_|refine T_callC rfl rfl rfl rfl rfl rfl rfl (fun hg w hw=>at20_spec c A n ca (.slice Am (mvL n).length cm) V l p w (hg.cls hw) h4 (by omega) hp) ?_)|(show T _ (.run _ _ (_::_) _ _::_) _ _ _;first|refine rc rfl rfl rfl rfl rfl rfl rfl (fun w hw=>at20_spec c A n ca (.slice Am (mvL n).length cm) V l p w (hg.cls hw) h4 (by omega) hp) ?_|refine rcG rfl rfl rfl rfl rfl rfl rfl rfl rfl (fun hg w hw=>at20_spec c A n ca (.slice Am (mvL n).length cm) V l p w (hg.cls hw) h4 (by omega) hp) ?_)|(show ∀ _:Nat,T _ _ _ _ _;intro _))
 rename_i p5
 rw [← hve] at hvl hin hY ⊢
 refine T_loopX (fun s:Nat × List HA=>[(20, .int .i64 (s.1:Nat))]) (fun s=>blk p5 (atV v) 99::blk g2 [.int .i64 (p:Nat)] 3::blk g1 (spcL c A n ca (.slice Am (mvL n).length cm) V) 84::s.2) (fun s=>s.1≤(mvL n).length∧GQ (posL (lens l) v ((mvL n).take s.1)).length s.2) (fun s=>(mvL n).length - s.1) (0,Hj) ⟨Nat.zero_le _,h0⟩ ?_
 rintro⟨i,H1⟩ ⟨hi,hG⟩
 dsimp only at hi hG ⊢
 have hzz:=hz _ _ hG
 repeat' (first|refine d1 ?_|refine dd ?_|(show ∀ _:Nat,T _ _ _ _ _;intro _))
 refine T_if rfl (fun h=>?_) (fun h=>?_)
 ·simp only [decide_eq_true_eq] at h
  obtain⟨m,hm⟩:∃ m,(mvL n)[i]?=some m:=⟨_,List.getElem?_eq_getElem (by omega)⟩
  have hmm:=List.mem_of_getElem? hm
  have hml4:=pigeon2 n m (hmo.nd m hmm) (hmo.lt m hmm)
  obtain⟨b,o,rfl,hrd⟩:=hmr (by omega)
  obtain⟨Ar,capr,hcs,hr1,hr2,hAr⟩:=hrows.tabRow (i:=i) (r:=intN m) (by rw [List.getElem?_map,hm];rfl)
  have hone:Rd ρ [.slice Ar (intN m).length capr] [intsD (intN m)]:=rd_one hrows hcs (by rw [List.getElem?_map,List.getElem?_map,hm];rfl)
  have hsr:∀ {w':World},Cls w0 w' [fz pz]→Src w' 1 Ar m.length ((intN m).map (Value.int .i64)):=fun {w'} hw=>by
   have h9:=(hone.mono (hρ _ hw.below (hw.fz (p:=pz)))).intsAt
   rwa [intN_len] at h9
  rw [intN_len] at hcs hr1 hAr hone
  have hmpos:0<m.length:=List.length_pos_iff.2 (hmo.ne m hmm)
  obtain⟨br,orr,rfl,hAr9⟩:=hAr hmpos
  repeat' (first|refine d1 ?_|refine dd ?_|(show T _ (.ops _ (_::_)::_) _ _ _;first|refine T_val rfl (Val.load rfl (fun hg=>(fun w hw=>rdRz hρ (hw.le (Hle.sub.trans hzz)) (u := .slice (some ⟨br,orr,none⟩) m.length capr) (b:=b) (by rw [off1];exact hrd i _ hcs)))) rfl rfl rfl ?_|refine T_valC rfl (Val.load rfl (fun hg=>(fun w hw=>rdRz hρ (hw.le (Hle.sub.trans hzz)) (u := .slice (some ⟨br,orr,none⟩) m.length capr) (b:=b) (by rw [off1];exact hrd i _ hcs)))) rfl rfl rfl rfl rfl ?_|refine T_call rfl rfl rfl rfl rfl (fun w hw=>containsFuncI_spec (some ⟨br,orr,none⟩) m.length capr (intN m) _ [] [_,_] (fun x=>decide (((v.getD x.toNat 0:Nat):Int)=((lens l).getD x.toNat 0:Nat))) w (hsr (hw.le (Hle.sub.trans hzz))) (intN_len m) (by omega) (fun x hx w' hb'=>?_)) ?_|refine T_callC rfl rfl rfl rfl rfl rfl rfl (fun hg w hw=>containsFuncI_spec (some ⟨br,orr,none⟩) m.length capr (intN m) _ [] [_,_] (fun x=>decide (((v.getD x.toNat 0:Nat):Int)=((lens l).getD x.toNat 0:Nat))) w (hsr (hw.le (Hle.sub.trans hzz))) (intN_len m) (by omega) (fun x hx w' hb'=>?_)) ?_)|(show T _ (.run _ _ (_::_) _ _::_) _ _ _;first|refine rv rfl rfl rfl (Val.load rfl (fun hg=>(fun w hw=>rdRz hρ (hw.le (Hle.sub.trans hzz)) (u := .slice (some ⟨br,orr,none⟩) m.length capr) (b:=b) (by rw [off1];exact hrd i _ hcs)))) rfl rfl rfl ?_|refine rg rfl rfl rfl (Val.load rfl (fun hg=>(fun w hw=>rdRz hρ (hw.le (Hle.sub.trans hzz)) (u := .slice (some ⟨br,orr,none⟩) m.length capr) (b:=b) (by rw [off1];exact hrd i _ hcs)))) rfl rfl rfl rfl rfl ?_|refine rc rfl rfl rfl rfl rfl rfl rfl (fun w hw=>containsFuncI_spec (some ⟨br,orr,none⟩) m.length capr (intN m) _ [] [_,_] (fun x=>decide (((v.getD x.toNat 0:Nat):Int)=((lens l).getD x.toNat 0:Nat))) w (hsr (hw.le (Hle.sub.trans hzz))) (intN_len m) (by omega) (fun x hx w' hb'=>?_)) ?_|refine rcG rfl rfl rfl rfl rfl rfl rfl rfl rfl (fun hg w hw=>containsFuncI_spec (some ⟨br,orr,none⟩) m.length capr (intN m) _ [] [_,_] (fun x=>decide (((v.getD x.toNat 0:Nat):Int)=((lens l).getD x.toNat 0:Nat))) w (hsr (hw.le (Hle.sub.trans hzz))) (intN_len m) (by omega) (fun x hx w' hb'=>?_)) ?_)|(show ∀ _:Nat,T _ _ _ _ _;intro _))
  ·unfold intN at hx
   obtain⟨s,hs,rfl⟩:=List.mem_map.1 hx
   rw [Int.toNat_natCast]
   exact steps20c_spec c A n ca (.slice (some ⟨b,o,none⟩) (mvL n).length cm) V l v p5 g1 s w' (hg.blw (hw.below.trans (hb'.mono hw.below.size))) h4 (hmo.lt m hmm s hs) ((rdAll w hw).below hb') ((rdAll w hw).below hb')
  rw [poss_any hin]
  cases hpo:possM (lens l) v m with
  | false =>
   have hy:=posL_no hm hpo
   refine T_if rfl (fun _=>?_) (fun h3=>by exfalso;simp at h3)
   repeat' (first|refine d1 ?_|refine dd ?_|(show ∀ _:Nat,T _ _ _ _ _;intro _))
   exact T_backX (i+1,H1) ⟨by dsimp only;omega,by dsimp only;rw [hy];exact hG⟩ (by dsimp only;omega)
  | true =>
   have hpg:=posL_get hm hpo
   have hy:=posL_yes hm hpo
   refine T_if rfl (fun h3=>by exfalso;simp at h3) (fun _=>?_)
   refine T_cutX 1 [7,8,9] (fun s:Nat × Nat × Nat=>[(7, .slice (some ⟨s.1,0,none⟩) n n),(8, .slice (some ⟨s.2.1,0,none⟩) n n),(9, .pointer (some ⟨s.2.2,0,none⟩))]) (fun s=>blk s.1 (madeCells (noTok.val).cells (n * (noTok.val).cells.size)).toList 62::blk s.2.1 (List.replicate n (.bool false)) 4::blk s.2.2 (atV v) 99::blk p5 (atV v) 99::blk g2 [.int .i64 (p:Nat)] 3::blk g1 (spcL c A n ca (.slice (some ⟨b,o,none⟩) (mvL n).length cm) V) 84::H1) (fun _=>True) ?_ ?_
   ·refine dw0 1000 [blk p5 (atV v) 99,blk g1 (spcL c A n ca (.slice (some ⟨b,o,none⟩) (mvL n).length cm) V) 84] ?_
    repeat' (first|(show T _ (.draw _ _ _ _ _::_) _ _ _;first|refine dw1 ?_|refine dwv rfl (by decide +kernel) rfl rfl (Val.loadA rfl (fun _=>rdAll) rfl) rfl rfl rfl ?_|refine dwg rfl (by decide +kernel) rfl rfl (Val.loadA rfl (fun _=>rdAll) rfl) rfl rfl rfl rfl rfl ?_|refine dwv rfl (by decide +kernel) rfl rfl (Val.load rfl (fun hg=>rdOwn1 rfl)) rfl rfl rfl ?_|refine dwg rfl (by decide +kernel) rfl rfl (Val.load rfl (fun hg=>rdOwn1 rfl)) rfl rfl rfl rfl rfl ?_|refine dwb rfl (by decide +kernel) ?_)|(show AllL _ [];exact True.intro)|(show AllL _ (_::_);refine ⟨?_,?_⟩)|(show OpT _ _ _ _ _ _ _;first|refine dwx ?_|refine OpT.ofVal rfl (Val.loadA rfl (fun _=>rdAll) rfl) rfl rfl rfl ⟨fun _=>(by first|exact Hle.none _|exact Hle.sub|exact absurd ‹_› (by decide +kernel)),?_⟩|refine OpT.ofVal rfl (Val.load rfl (fun hg=>rdOwn1 rfl)) rfl rfl rfl ⟨fun _=>(by first|exact Hle.none _|exact Hle.sub|exact absurd ‹_› (by decide +kernel)),?_⟩|refine OpT.makeC rfl rfl rfl rfl rfl rfl (by dsimp only;omega) (fun b2=>⟨fun _=>(by first|exact Hle.none _|exact Hle.sub|exact absurd ‹_› (by decide +kernel)),?_⟩)|refine OpT.make rfl rfl rfl rfl rfl rfl rfl rfl rfl (by dsimp only;omega) (fun b3=>⟨fun _=>(by first|exact Hle.none _|exact Hle.sub|exact absurd ‹_› (by decide +kernel)),?_⟩)|refine OpT.alloc rfl rfl rfl rfl rfl rfl rfl (fun b4=>⟨fun _=>(by first|exact Hle.none _|exact Hle.sub|exact absurd ‹_› (by decide +kernel)),?_⟩)|refine OpT.storeA rfl rfl rfl rfl rfl rfl (by exact Nat.le_of_ble_eq_true rfl) ⟨fun _=>(by first|exact Hle.none _|exact Hle.sub|exact absurd ‹_› (by decide +kernel)),?_⟩)|(show ∀ _:Nat,T _ _ _ _ _;intro _)|(show T _ (.mark _::_) _ _ _;exact T_meetX (_,_,_) trivial (hG:=by exact Hle.srtV)))
   rintro⟨b7,b8,p9⟩ _
   dsimp only
   refine T_le (H':=blk b7 ((ownJ l (colMv v (m.take 0) (List.replicate n (-1))) l.length).flatMap Tok.cells) 62::blk b8 ((thJ l (colMv v (m.take 0) (List.replicate n (-1))) l.length).map Value.bool) 4::blk p9 (atV (toM v (m.take 0))) 99::blk p5 (atV v) 99::blk g2 [.int .i64 (p:Nat)] 3::blk g1 (spcL c A n ca (.slice (some ⟨b,o,none⟩) (mvL n).length cm) V) 84::H1) (by rw [List.take_zero];show Hle _ (blk b7 ((ownJ l (List.replicate n (-1)) l.length).flatMap Tok.cells) 62::blk b8 ((thJ l (List.replicate n (-1)) l.length).map Value.bool) 4::blk p9 (atV v) 99::_);rw [ownJ_none,thJ_none,ownJ_zero,thJ_zero,hn,made_toks,List.map_replicate];exact Hle.refl _) ?_
   repeat' (first|refine d1 ?_|refine dd ?_|(show ∀ _:Nat,T _ _ _ _ _;intro _))
   refine T_loopX (fun s:Nat=>[(38, .int .i64 (s:Nat))]) (fun s=>blk b7 ((ownJ l (colMv v (m.take s) (List.replicate n (-1))) l.length).flatMap Tok.cells) 62::blk b8 ((thJ l (colMv v (m.take s) (List.replicate n (-1))) l.length).map Value.bool) 4::blk p9 (atV (toM v (m.take s))) 99::blk p5 (atV v) 99::blk g2 [.int .i64 (p:Nat)] 3::blk g1 (spcL c A n ca (.slice (some ⟨b,o,none⟩) (mvL n).length cm) V) 84::H1) (fun s=>s≤m.length) (fun s=>m.length - s) 0 (Nat.zero_le _) ?_
   rintro s hs
   repeat' (first|refine d1 ?_|refine dd ?_|(show ∀ _:Nat,T _ _ _ _ _;intro _))
   refine T_if rfl (fun h5=>?_) (fun h5=>?_)
   ·simp only [decide_eq_true_eq] at h5
    obtain⟨u,hu⟩:∃ u,m[s]?=some u:=⟨_,List.getElem?_eq_getElem (by omega)⟩
    have hum:=List.mem_of_getElem? hu
    have hun:=hmo.lt m hmm u hum
    have htk:=take_snoc _ _ _ hu
    obtain⟨ba,oa,rfl⟩:=hg.hs.base (by omega)
    obtain⟨t,ht,htm,htr⟩:=hg.get (k:=u) hun
    have htl:=hg.ok.len t htm
    have htb:=hg.nb t htm
    have hgl:(lens l).getD u 0=t.n:=by rw [List.getD_eq_getElem?_getD,lens_get ht];rfl
    have hvu:v.getD u 0<t.n:=by rw [← hgl];exact possM_iff.1 hpo u hum
    obtain⟨a,hae⟩:∃ a,a=v.getD u 0:=⟨_,rfl⟩
    rw [← hae] at hvu
    have hmu:ρ br (orr+(s:Int).toNat * 1)=some (.int .i64 (u:Nat)):=by rw [off1];exact hAr9 s _ (intN_get hu)
    have hav:(atV v)[0+(u:Int).toNat * 1]?=some (.int .i64 (a:Nat)):=by
     rw [show 0+(u:Int).toNat * 1=u by omega,atV_get v (by omega),hae]
    obtain⟨y,hye⟩:∃ y,y=(toM v (m.take s)).getD u 0:=⟨_,rfl⟩
    have hyb:y≤1001:=by
     have h9:=toM_get (m.take s) v ((List.take_sublist s m).nodup (hmo.nd m hmm)) (fun x hx=>by rw [hvl,hlsn];exact hmo.lt m hmm x (List.mem_of_mem_take hx)) u
     rw [← hye] at h9
     split at h9 <;> omega
    have hnv:(atV (toM v (m.take s)))[0+(u:Int).toNat * 1]?=some (.int .i64 (y:Nat)):=by
     rw [show 0+(u:Int).toNat * 1=u by omega,atV_get _ (by omega),hye]
    obtain⟨b4,o4,htA⟩:=(hg.ok.src t htm).base (by omega)
    have htok:RdC w0 b4 (o4+(a:Int).toNat * 6) (tkA t.l (a:Int).toNat).cells:=(htA ▸ hg.ok.src t htm:Src w0 6 (some ⟨b4,o4,none⟩) t.n (t.l.flatMap Tok.cells)).getT (k:=(a:Int).toNat) (by omega) (tkA_get (by omega))
    rw [htA] at htr
    have hown:((ownJ l (colMv v (m.take s) (List.replicate n (-1))) l.length).flatMap Tok.cells).length=n * 6:=by rw [flatT_length,ownJ_len,hn]
    have hthl:((thJ l (colMv v (m.take s) (List.replicate n (-1))) l.length).map Value.bool).length=n:=by rw [List.length_map,thJ_len,hn]
    have hcl:(colMv v (m.take s) (List.replicate n (-1))).length=l.length:=by rw [colMv_len,List.length_replicate,hn]
    repeat' (first|refine d1 ?_|(show T _ (.ops _ (_::_)::_) _ _ _;first|refine T_val rfl (Val.nilc rfl) rfl rfl rfl ?_|refine T_valC rfl (Val.nilc rfl) rfl rfl rfl rfl rfl ?_|refine T_val rfl (Val.load rfl (fun hg=>(fun w hw=>rdRz hρ (hw.le (Hle.sub.trans hzz)) hmu))) rfl rfl rfl ?_|refine T_valC rfl (Val.load rfl (fun hg=>(fun w hw=>rdRz hρ (hw.le (Hle.sub.trans hzz)) hmu))) rfl rfl rfl rfl rfl ?_)|(show T _ (.run _ _ (_::_) _ _::_) _ _ _;first|refine rv rfl rfl rfl (Val.nilc rfl) rfl rfl rfl ?_|refine rg rfl rfl rfl (Val.nilc rfl) rfl rfl rfl rfl rfl ?_|refine rv rfl rfl rfl (Val.load rfl (fun hg=>(fun w hw=>rdRz hρ (hw.le (Hle.sub.trans hzz)) hmu))) rfl rfl rfl ?_|refine rg rfl rfl rfl (Val.load rfl (fun hg=>(fun w hw=>rdRz hρ (hw.le (Hle.sub.trans hzz)) hmu))) rfl rfl rfl rfl rfl ?_)|(show ∀ _:Nat,T _ _ _ _ _;intro _))
    refine rsH [blk p5 (atV v) 99,blk g1 (spcL c (some ⟨ba,oa,none⟩) n ca (.slice (some ⟨b,o,none⟩) (mvL n).length cm) V) 84] 1000 [0,1,2,3,4,5,6,7,8,9,10,11,12,13,14,15,16,17] ?_
    repeat' (first|refine d1 ?_|refine dd ?_|(show T _ (.ops _ (_::_)::_) _ _ _;first|refine T_val rfl (Val.nilc rfl) rfl rfl rfl ?_|refine T_valC rfl (Val.nilc rfl) rfl rfl rfl rfl rfl ?_|refine T_val rfl (Val.load rfl (fun hg=>rdOwn1 (b:=p5) hav)) rfl rfl rfl ?_|refine T_valC rfl (Val.load rfl (fun hg=>rdOwn1 (b:=p5) hav)) rfl rfl rfl rfl rfl ?_|refine T_val rfl (Val.load rfl (fun hg=>rdOwn1 rfl)) rfl rfl rfl ?_|refine T_valC rfl (Val.load rfl (fun hg=>rdOwn1 rfl)) rfl rfl rfl rfl rfl ?_|refine T_val rfl (Val.loadA rfl (fun _=>rdOld htok) rfl) rfl rfl rfl ?_|refine T_valC rfl (Val.loadA rfl (fun _=>rdOld htok) rfl) rfl rfl rfl rfl rfl ?_)|(show T _ (.run _ _ (_::_) _ _::_) _ _ _;first|refine rv rfl rfl rfl (Val.nilc rfl) rfl rfl rfl ?_|refine rg rfl rfl rfl (Val.nilc rfl) rfl rfl rfl rfl rfl ?_|refine rv rfl rfl rfl (Val.load rfl (fun hg=>rdOwn1 (b:=p5) hav)) rfl rfl rfl ?_|refine rg rfl rfl rfl (Val.load rfl (fun hg=>rdOwn1 (b:=p5) hav)) rfl rfl rfl rfl rfl ?_|refine rv rfl rfl rfl (Val.load rfl (fun hg=>rdOwn1 rfl)) rfl rfl rfl ?_|refine rg rfl rfl rfl (Val.load rfl (fun hg=>rdOwn1 rfl)) rfl rfl rfl rfl rfl ?_|refine rv rfl rfl rfl (Val.loadA rfl (fun _=>rdOld htok) rfl) rfl rfl rfl ?_|refine rg rfl rfl rfl (Val.loadA rfl (fun _=>rdOld htok) rfl) rfl rfl rfl rfl rfl ?_|refine ro rfl rfl (OpT.storeA (us:=(tkA t.l (a:Int).toNat).cells) rfl rfl rfl rfl rfl rfl (by rw [hown,show (tkA t.l (a:Int).toNat).cells.length=6 from rfl];omega) ⟨fun _=>Hle.sub,?_⟩)|refine ro rfl rfl (OpT.store rfl rfl rfl rfl (by rw [hthl];omega) ⟨fun _=>Hle.sub,?_⟩))|(show ∀ _:Nat,T _ _ _ _ _;intro _))
    repeat' (first|refine d1 ?_|refine dd ?_|(show T _ (.ops _ (_::_)::_) _ _ _;first|refine T_val rfl (Val.nilc rfl) rfl rfl rfl ?_|refine T_valC rfl (Val.nilc rfl) rfl rfl rfl rfl rfl ?_|refine T_val rfl (Val.load rfl (fun hg=>rdOwn1 (b:=p9) hnv)) rfl rfl rfl ?_|refine T_valC rfl (Val.load rfl (fun hg=>rdOwn1 (b:=p9) hnv)) rfl rfl rfl rfl rfl ?_|refine T_op (OpT.store rfl rfl rfl rfl (by show 0+(u:Int).toNat * 1<4;omega) ?_))|(show T _ (.run _ _ (_::_) _ _::_) _ _ _;first|refine rv rfl rfl rfl (Val.nilc rfl) rfl rfl rfl ?_|refine rg rfl rfl rfl (Val.nilc rfl) rfl rfl rfl rfl rfl ?_|refine rv rfl rfl rfl (Val.load rfl (fun hg=>rdOwn1 (b:=p9) hnv)) rfl rfl rfl ?_|refine rg rfl rfl rfl (Val.load rfl (fun hg=>rdOwn1 (b:=p9) hnv)) rfl rfl rfl rfl rfl ?_)|(show ∀ _:Nat,T _ _ _ _ _;intro _))
    refine T_backX (s+1) (by omega) (by omega) (hG:=?_)
    have e0:colMv v (m.take (s+1)) (List.replicate n (-1))=(colMv v (m.take s) (List.replicate n (-1))).set u (a:Int):=by rw [htk,colMv_snoc,hae]
    have e1:=ownJ_set (l:=l) (col:=colMv v (m.take s) (List.replicate n (-1))) (i:=u) (z:=(a:Int)) (by omega) hcl (by omega)
    have e2:=thJ_set (l:=l) (col:=colMv v (m.take s) (List.replicate n (-1))) (i:=u) (z:=(a:Int)) (by omega) hcl (by omega)
    have e3:atV (toM v (m.take (s+1)))=(atV (toM v (m.take s))).set (0+(u:Int).toNat * 1) (.int .i64 ((y:Int)+1)):=by
     rw [htk,toM_snoc, ← hye,show 0+(u:Int).toNat * 1=u by omega]
     have hlt:u<(toM v (m.take s)).length:=by rw [toM_len,hvl,hlsn];exact hun
     have hgt:∀ q,((toM v (m.take s)).set u (y+1)).getD q 0=if u=q then y+1 else (toM v (m.take s)).getD q 0:=fun q=>by
      by_cases e:u=q
      ·subst e;rw [if_pos rfl,set_self hlt]
      ·rw [if_neg e,set_other e]
     unfold atV
     rw [hgt,hgt,hgt,hgt]
     obtain rfl|rfl|rfl|rfl:u=0∨u=1∨u=2∨u=3:=by omega
     all_goals simp
    rw [tsA_eq ht] at e1
    rw [e0,e1,e2,e3, ← flatTok_set _ _ _ (by rw [ownJ_len];omega),List.map_set,show 0+(u:Int).toNat * 6=u * 6 by omega]
    rw [show 0+(u:Int).toNat * 1=u by omega]
    exact Hle.refl _
   ·simp only [decide_eq_false_iff_not] at h5
    obtain rfl:s=m.length:=by omega
    rw [List.take_length]
    have hct:colMv v m (List.replicate n (-1))=colT v m:=by unfold colT;rw [hvl,hlsn]
    rw [hct]
    have hco:=colT_ok (l:=l) (v:=v) (m:=m) (by rw [hvl,hll]) (fun s hs=>by rw [hn];exact hmo.lt m hmm s hs) hpo
    have hti:=(toM_rem hmo hlsn hin hmm hpo).1
    repeat' (first|refine d1 ?_|refine dd ?_|(show T _ (.ops _ (_::_)::_) _ _ _;first|refine T_val rfl (Val.nilc rfl) rfl rfl rfl ?_|refine T_valC rfl (Val.nilc rfl) rfl rfl rfl rfl rfl ?_|refine T_val rfl (Val.loadA (vs:=c.cells) rfl (fun _=>rdPart rfl) rfl) rfl rfl rfl ?_|refine T_valC rfl (Val.loadA (vs:=c.cells) rfl (fun _=>rdPart rfl) rfl) rfl rfl rfl rfl rfl ?_|refine T_call rfl rfl rfl rfl rfl (fun w hw=>columnPrg_spec c (some ⟨b7,0,none⟩) (some ⟨b8,0,none⟩) n n n n (ownJ l (colT v m) l.length) (thJ l (colT v m) l.length) w (hg.hst.cls hw) (Src.own hw (by rw [flatT_length,ownJ_len,hn])) (by rw [ownJ_len,hn]) (by omega) (Src.own hw (by rw [List.length_map,thJ_len,hn,Nat.mul_one])) (by rw [thJ_len,hn]) (by omega) (ownJ_small hg hco _)) ?_|refine T_callC rfl rfl rfl rfl rfl rfl rfl (fun hg w hw=>columnPrg_spec c (some ⟨b7,0,none⟩) (some ⟨b8,0,none⟩) n n n n (ownJ l (colT v m) l.length) (thJ l (colT v m) l.length) w (hg.hst.cls hw) (Src.own hw (by rw [flatT_length,ownJ_len,hn])) (by rw [ownJ_len,hn]) (by omega) (Src.own hw (by rw [List.length_map,thJ_len,hn,Nat.mul_one])) (by rw [thJ_len,hn]) (by omega) (ownJ_small hg hco _)) ?_)|(show T _ (.run _ _ (_::_) _ _::_) _ _ _;first|refine rv rfl rfl rfl (Val.nilc rfl) rfl rfl rfl ?_|refine rg rfl rfl rfl (Val.nilc rfl) rfl rfl rfl rfl rfl ?_|refine rv rfl rfl rfl (Val.loadA (vs:=c.cells) rfl (fun _=>rdPart rfl) rfl) rfl rfl rfl ?_|refine rg rfl rfl rfl (Val.loadA (vs:=c.cells) rfl (fun _=>rdPart rfl) rfl) rfl rfl rfl rfl rfl ?_|refine rc rfl rfl rfl rfl rfl rfl rfl (fun w hw=>columnPrg_spec c (some ⟨b7,0,none⟩) (some ⟨b8,0,none⟩) n n n n (ownJ l (colT v m) l.length) (thJ l (colT v m) l.length) w (hg.hst.cls hw) (Src.own hw (by rw [flatT_length,ownJ_len,hn])) (by rw [ownJ_len,hn]) (by omega) (Src.own hw (by rw [List.length_map,thJ_len,hn,Nat.mul_one])) (by rw [thJ_len,hn]) (by omega) (ownJ_small hg hco _)) ?_|refine rcG rfl rfl rfl rfl rfl rfl rfl rfl rfl (fun hg w hw=>columnPrg_spec c (some ⟨b7,0,none⟩) (some ⟨b8,0,none⟩) n n n n (ownJ l (colT v m) l.length) (thJ l (colT v m) l.length) w (hg.hst.cls hw) (Src.own hw (by rw [flatT_length,ownJ_len,hn])) (by rw [ownJ_len,hn]) (by omega) (Src.own hw (by rw [List.length_map,thJ_len,hn,Nat.mul_one])) (by rw [thJ_len,hn]) (by omega) (ownJ_small hg hco _)) ?_)|(show ∀ _:Nat,T _ _ _ _ _;intro _))
    rw [own_colV hg hc hbs hco]
    have hgp:=hg
    repeat' (first|refine d1 ?_|refine dd ?_|(show T _ (.ops _ (_::_)::_) _ _ _;first|refine T_val rfl (Val.loadA rfl (fun _=>rdAll) rfl) rfl rfl rfl ?_|refine T_valC rfl (Val.loadA rfl (fun _=>rdAll) rfl) rfl rfl rfl rfl rfl ?_|refine T_call rfl rfl rfl rfl rfl (fun w hw=>number20_spec c A n ca (.slice (some ⟨b,o,none⟩) (mvL n).length cm) V l (toM v m) w (hgp.cls hw) h4 hti (by omega)) ?_|refine T_callC rfl rfl rfl rfl rfl rfl rfl (fun hg w hw=>number20_spec c A n ca (.slice (some ⟨b,o,none⟩) (mvL n).length cm) V l (toM v m) w (hgp.cls hw) h4 hti (by omega)) ?_)|(show T _ (.run _ _ (_::_) _ _::_) _ _ _;first|refine rv rfl rfl rfl (Val.loadA rfl (fun _=>rdAll) rfl) rfl rfl rfl ?_|refine rg rfl rfl rfl (Val.loadA rfl (fun _=>rdAll) rfl) rfl rfl rfl rfl rfl ?_|refine rc rfl rfl rfl rfl rfl rfl rfl (fun w hw=>number20_spec c A n ca (.slice (some ⟨b,o,none⟩) (mvL n).length cm) V l (toM v m) w (hgp.cls hw) h4 hti (by omega)) ?_|refine rcG rfl rfl rfl rfl rfl rfl rfl rfl rfl (fun hg w hw=>number20_spec c A n ca (.slice (some ⟨b,o,none⟩) (mvL n).length cm) V l (toM v m) w (hgp.cls hw) h4 hti (by omega)) ?_)|(show ∀ _:Nat,T _ _ _ _ _;intro _))
    refine T_le (H':=blk p5 (atV v) 99::blk g2 [.int .i64 (p:Nat)] 3::blk g1 (spcL c A n ca (.slice (some ⟨b,o,none⟩) (mvL n).length cm) V) 84::H1) Hle.sub ?_
    repeat' (first|refine d1 ?_|refine dd ?_|(show T _ (.ops _ (_::_)::_) _ _ _;refine T_op (OpT.yieldO [] [blk p5 (atV v) 99,blk g2 [.int .i64 (p:Nat)] 3,blk g1 (spcL c A n ca (.slice (some ⟨b,o,none⟩) (mvL n).length cm) V) 84] hY rfl rfl (Holds.of1 rfl rfl rfl) rfl rfl rfl (List.getElem?_eq_some_iff.1 hpg).1 ⟨m,_,_,hpg,hone,rfl,rfl⟩ hG (Hle.comm [_,_,_] H1) (fun H2 hG2=>?_) (fun Y hX=>?_)))|(show ∀ _:Nat,T _ _ _ _ _;intro _))
    ·show T _ _ _ _ (blk p5 (atV v) 99::blk g2 [.int .i64 (p:Nat)] 3::blk g1 (spcL c A n ca (.slice (some ⟨b,o,none⟩) (mvL n).length cm) V) 84::H2)
     repeat' (first|refine d1 ?_|refine dd ?_|(show ∀ _:Nat,T _ _ _ _ _;intro _))
     refine T_if rfl (fun h3=>by exfalso;simp at h3) (fun _=>?_)
     repeat' (first|refine d1 ?_|refine dd ?_|(show ∀ _:Nat,T _ _ _ _ _;intro _))
     exact T_backX (i+1,H2) ⟨by dsimp only;omega,by dsimp only;rw [hy,List.length_append];exact hG2⟩ (by dsimp only;omega)
    ·show T _ _ _ _ (blk p5 (atV v) 99::blk g2 [.int .i64 (p:Nat)] 3::blk g1 (spcL c A n ca (.slice (some ⟨b,o,none⟩) (mvL n).length cm) V) 84::Y)
     repeat' (first|refine d1 ?_|refine dd ?_|(show ∀ _:Nat,T _ _ _ _ _;intro _))
     refine T_if rfl (fun _=>?_) (fun h3=>by exfalso;simp at h3)
     repeat' (first|refine d1 ?_|refine dd ?_|(show ∀ _:Nat,T _ _ _ _ _;intro _)|(show T _ (.code .ret::_) _ _ _;refine T_istop rfl Y hX (Hle.tail _ _)))
 ·simp only [decide_eq_false_iff_not] at h
  obtain rfl:i=(mvL n).length:=by omega
  rw [List.take_length] at hG
  repeat' (first|refine d1 ?_|refine dd ?_|(show ∀ _:Nat,T _ _ _ _ _;intro _))
  exact T_ifall rfl H1 hG (Hle.tail _ _)
end Go.Proofs.YthadgaboakipoaaGreatDoor
namespace Go.Proofs.YthadgaboakipoaaGreatDoor
open Go.RowKit Go.Shelf Go.Proofs
set_option maxRecDepth 100000
set_option maxHeartbeats 1000000

structure Fit (w:World) (A:Option Addr) (n:Nat) (l:List TS):Prop where
 hst:Std w
 hs:Src w 1 A n (l.map TS.val)
 hn:l.length=n
 ok:TsOk w l
 gr:great19B l 5 6=false
def bigS (l:List TS):Prop:=l.length≠0∧(32<l.length∨∃ t∈l,1024<t.n)
section
variable {w w':World} {A:Option Addr} {n:Nat} {l:List TS} (h:Fit w A n l)
include h
theorem Fit.b34:n≤34:=by have:=(great19_no h.ok h.gr).1;have:=h.hn;omega
theorem Fit.q:∀ t∈l,t.n≤6∨1024<t.n∧t.n≤1026:=(great19_no h.ok h.gr).2.1
theorem Fit.grp (hb:¬ bigS l):Grp w A n l:=by
 have h34:=h.b34
 have hn:=h.hn
 refine ⟨h.hst,h.hs,hn,?_,h.ok,fun t ht=>?_,(great19_no h.ok h.gr).2.2⟩
 ·refine Classical.byContradiction fun h9=>hb ⟨by omega, .inl (by omega)⟩
 ·rcases h.q t ht with h9|h9
  ·omega
  ·exact absurd ⟨by have:=List.length_pos_of_mem ht;omega, .inr ⟨t,ht,h9.1⟩⟩ hb
theorem Fit.six (hb:¬ bigS l):n≤5∧∀ t∈l,t.n≤6:=by
 have h1:=(great19_no h.ok h.gr).1
 have hn:=h.hn
 refine ⟨?_,fun t ht=>?_⟩
 ·rcases h1 with h9|h9
  ·omega
  ·exact absurd ⟨by omega, .inl h9.1⟩ hb
 ·rcases h.q t ht with h9|h9
  ·exact h9
  ·exact absurd ⟨by have:=List.length_pos_of_mem ht;omega, .inr ⟨t,ht,h9.1⟩⟩ hb
theorem Fit.blw (hb:Below w.heap.size w w'):Fit w' A n l:=⟨h.hst.below hb,src_below h.hs hb,h.hn,⟨fun t ht=>src_below (h.ok.src t ht) hb,h.ok.len,h.ok.bd⟩,h.gr⟩
theorem Fit.cls {H:List HA} (hw:Cls w w' H):Fit w' A n l:=h.blw hw.below
end
open Classical in
noncomputable def plE (l:List TS):Int:=if l.length=0 then 5 else if bigS l then 4 else if 4<l.length∨65536<volL (lens l) then 4 else 0
open Classical in
noncomputable def opE (c:Costs) (l:List TS):Int:=if l.length=0 then 5 else if bigS l then 4 else if ck21 c l≠0 then 1 else if 4<l.length∨65536<volL (lens l) then 4 else 0
theorem plE_ok {l:List TS} (h:plE l=0):1≤l.length∧¬ bigS l∧l.length≤4∧volL (lens l)≤65536:=by
 unfold plE at h
 by_cases h1:l.length=0
 ·rw [if_pos h1] at h;omega
 ·rw [if_neg h1] at h
  by_cases h2:bigS l
  ·rw [if_pos h2] at h;omega
  ·rw [if_neg h2] at h
   by_cases h3:4<l.length∨65536<volL (lens l)
   ·rw [if_pos h3] at h;omega
   ·exact⟨by omega,h2,by omega,by omega⟩
theorem opE_pl {c:Costs} {l:List TS} (h:ck21 c l=0):opE c l=plE l:=by
 unfold opE plE
 rw [if_neg (show ¬ (ck21 c l≠0) by simpa using h)]
theorem opE_ok {c:Costs} {l:List TS} (h:opE c l=0):plE l=0∧ck21 c l=0:=by
 have hc:ck21 c l=0:=by
  refine Classical.byContradiction fun h9=>?_
  unfold opE at h
  by_cases h1:l.length=0
  ·rw [if_pos h1] at h;omega
  ·rw [if_neg h1] at h
   by_cases h2:bigS l
   ·rw [if_pos h2] at h;omega
   ·rw [if_neg h2,if_pos h9] at h;omega
 exact⟨by rw [← opE_pl hc];exact h,hc⟩
theorem plE_siz (l:List TS):plE l=if (sizT l).2≠0 then (sizT l).2 else if 4<l.length∨65536<(sizT l).1 then 4 else 0:=by
 unfold plE sizT
 by_cases h1:l.length=0
 ·rw [if_pos h1,if_pos h1];simp
 ·rw [if_neg h1,if_neg h1]
  by_cases h2:32<l.length∨∃ t∈l,1024<t.n
  ·rw [if_pos (show bigS l from ⟨h1,h2⟩),if_pos h2];simp
  ·rw [if_neg (fun h9:bigS l=>h2 h9.2),if_neg h2]
   by_cases h3:volL (lens l)≤1073741824
   ·rw [if_pos h3]
    simp only [ne_eq,not_true_eq_false,if_false]
    by_cases h4:4<l.length∨65536<volL (lens l)
    ·rw [if_pos h4,if_pos (by omega)]
    ·rw [if_neg h4,if_neg (by omega)]
   ·rw [if_neg h3]
    simp
    omega
def c0:Costs:=⟨0,0,0,0⟩
theorem placesBad_spec (A:Option Addr) (n ca:Nat) (l:List TS) (w:World) (hf:Fit w A n l) (hp:plE l≠0) :
  Spec Tryz.prog 64 [.slice A n ca] w (fun v R=>v = .tuple #[.agg (spcL c0 none 0 0 (.slice none 0 0) 0).toArray, .int .i64 (plE l)]∧R=[]):=by
 have hn:=hf.hn
 have h34:=hf.b34
 have hsz:=plE_siz l
 refine spec_of sg Tryz.func64 rfl rfl rfl ?_
 repeat' (first|refine d1 ?_|refine dd ?_|(show T _ (.ops _ (_::_)::_) _ _ _;first|refine T_call rfl rfl rfl rfl rfl (fun w hw=>sizeT_spec A n ca l 5 6 w (hf.cls hw).hst (hf.cls hw).hs hn (hf.cls hw).ok hf.gr (by omega) (by omega)) ?_|refine T_callC rfl rfl rfl rfl rfl rfl rfl (fun hg w hw=>sizeT_spec A n ca l 5 6 w (hf.cls hw).hst (hf.cls hw).hs hn (hf.cls hw).ok hf.gr (by omega) (by omega)) ?_)|(show T _ (.run _ _ (_::_) _ _::_) _ _ _;first|refine rc rfl rfl rfl rfl rfl rfl rfl (fun w hw=>sizeT_spec A n ca l 5 6 w (hf.cls hw).hst (hf.cls hw).hs hn (hf.cls hw).ok hf.gr (by omega) (by omega)) ?_|refine rcG rfl rfl rfl rfl rfl rfl rfl rfl rfl (fun hg w hw=>sizeT_spec A n ca l 5 6 w (hf.cls hw).hst (hf.cls hw).hs hn (hf.cls hw).ok hf.gr (by omega) (by omega)) ?_)|(show ∀ _:Nat,T _ _ _ _ _;intro _))
 rename_i p2
 by_cases h1:(sizT l).2=0
 ·rw [if_neg (by simpa using h1)] at hsz
  rw [h1]
  refine T_if rfl (fun h=>by exfalso;simp at h) (fun _=>?_)
  have h2:4<l.length∨65536<(sizT l).1:=by
   refine Classical.byContradiction fun h9=>hp ?_
   rw [hsz,if_neg h9]
  rw [if_pos h2] at hsz
  rw [hsz]
  repeat' (first|refine d1 ?_|refine dd ?_|(show ∀ _:Nat,T _ _ _ _ _;intro _))
  refine T_if rfl (fun _=>?_) (fun h=>by exfalso;simp at h;omega)
  repeat' (first|refine d1 ?_|refine dd ?_|(show ∀ _:Nat,T _ _ _ _ _;intro _))
  exact T_retM (vs:=[.agg (spcL c0 none 0 0 (.slice none 0 0) 0).toArray, .int .i64 4]) [] ⟨⟨p2,_,spcL c0 none 0 0 (.slice none 0 0) 0,rfl,rfl,rfl,rfl,(fun h=>by cases h),rfl,rdAll⟩,rfl,trivial⟩ (Hle.none _) ⟨rfl,rfl⟩
 ·rw [if_pos h1] at hsz
  rw [hsz]
  refine T_if rfl (fun _=>?_) (fun h=>by exfalso;simp at h;exact h1 h)
  repeat' (first|refine d1 ?_|refine dd ?_|(show ∀ _:Nat,T _ _ _ _ _;intro _))
  exact T_retM (vs:=[.agg (spcL c0 none 0 0 (.slice none 0 0) 0).toArray, .int .i64 (sizT l).2]) [] ⟨⟨p2,_,spcL c0 none 0 0 (.slice none 0 0) 0,rfl,rfl,rfl,rfl,(fun h=>by cases h),rfl,rdAll⟩,rfl,trivial⟩ (Hle.none _) ⟨rfl,rfl⟩
theorem placesOk_spec (A:Option Addr) (n ca:Nat) (l:List TS) (w:World) (hf:Fit w A n l) (hp:plE l=0) :
  Spec Tryz.prog 64 [.slice A n ca] w (fun v R=>∃ M:Value,True∧v = .tuple #[.agg (spcL c0 A n ca M (volL (lens l))).toArray, .int .i64 0]∧R=[dat [M] [rowsD ((mvL n).map intN)]]):=by
 have hn:=hf.hn
 obtain⟨h1,hb,h4,hv⟩:=plE_ok hp
 have hsz:sizT l=(((volL (lens l):Nat):Int),0):=by
  unfold sizT
  rw [if_neg (by omega),if_neg (fun h9=>hb ⟨by omega,h9⟩),if_pos (by omega)]
 refine spec_of sg Tryz.func64 rfl rfl rfl ?_
 repeat' (first|refine d1 ?_|refine dd ?_|(show T _ (.ops _ (_::_)::_) _ _ _;first|refine T_call rfl rfl rfl rfl rfl (fun w hw=>sizeT_spec A n ca l 5 6 w (hf.cls hw).hst (hf.cls hw).hs hn (hf.cls hw).ok hf.gr (by omega) (by omega)) ?_|refine T_callC rfl rfl rfl rfl rfl rfl rfl (fun hg w hw=>sizeT_spec A n ca l 5 6 w (hf.cls hw).hst (hf.cls hw).hs hn (hf.cls hw).ok hf.gr (by omega) (by omega)) ?_)|(show T _ (.run _ _ (_::_) _ _::_) _ _ _;first|refine rc rfl rfl rfl rfl rfl rfl rfl (fun w hw=>sizeT_spec A n ca l 5 6 w (hf.cls hw).hst (hf.cls hw).hs hn (hf.cls hw).ok hf.gr (by omega) (by omega)) ?_|refine rcG rfl rfl rfl rfl rfl rfl rfl rfl rfl (fun hg w hw=>sizeT_spec A n ca l 5 6 w (hf.cls hw).hst (hf.cls hw).hs hn (hf.cls hw).ok hf.gr (by omega) (by omega)) ?_)|(show ∀ _:Nat,T _ _ _ _ _;intro _))
 rename_i p2
 rw [hsz]
 refine T_if rfl (fun h=>by exfalso;simp at h) (fun _=>?_)
 repeat' (first|refine d1 ?_|refine dd ?_|(show ∀ _:Nat,T _ _ _ _ _;intro _))
 refine T_if rfl (fun h=>by exfalso;simp at h;omega) (fun _=>?_)
 repeat' (first|refine d1 ?_|refine dd ?_|(show T _ (.ops _ (_::_)::_) _ _ _;refine T_op (OpT.call rfl rfl rfl rfl rfl (fun w hw=>moves19_spec (n:Int) w) (fun M R hR=>?_)))|(show ∀ _:Nat,T _ _ _ _ _;intro _))
 obtain⟨_,-,rfl,rfl⟩:=hR
 refine T_le (H':=blk p2 (spcL c0 none 0 0 (.slice none 0 0) 0) 84::dat [M] [rowsD ((mvL n).map intN)]::[]) (Hle.perm (List.Perm.swap _ _ _)) ?_
 have hMd:∃ Am cm,(1:Nat)=1∧∀ p:Frag,Rd (fr p) [M] [rowsD ((mvL n).map intN)]→M = .slice Am (mvL n).length cm:=by
  by_cases h9:∃ p:Frag,Rd (fr p) [M] [rowsD ((mvL n).map intN)]
  ·obtain⟨p,hM⟩:=h9
   obtain⟨Am,cm,csm,rfl,-⟩:=hM.tab
   rw [List.length_map]
   exact⟨Am,cm,rfl,fun _ _=>rfl⟩
  ·exact⟨none,0,rfl,fun p hp=>absurd ⟨p,hp⟩ h9⟩
 obtain⟨Am,cm,-,hM9⟩:=hMd
 refine T_le (Hle.perm (List.Perm.swap _ _ _)) ?_
 refine T_open fun pm hM=>?_
 obtain rfl:=hM9 pm hM
 repeat' (first|refine d1 ?_|refine dd ?_|(show ∀ _:Nat,T _ _ _ _ _;intro _))
 exact T_retM (vs:=[.agg (spcL c0 A n ca (.slice Am (mvL n).length cm) (volL (lens l))).toArray, .int .i64 0]) [dat [.slice Am (mvL n).length cm] [rowsD ((mvL n).map intN)]] ⟨⟨p2,_,spcL c0 A n ca (.slice Am (mvL n).length cm) (volL (lens l)),rfl,rfl,rfl,rfl,(fun h=>by cases h),rfl,rdAll⟩,rfl,trivial⟩ ((Hle.nth (A:=fz pm) 0 rfl).trans (Hle.weaken (i:=0) rfl (fz_dat hM) rfl)) ⟨_,trivial,rfl,rfl⟩
theorem open1_spec (t:TS) (w:World):Spec Tryz.prog 105 [t.val] w (fun v R=>v = .bool (decide ((1024:Int)<t.n))∧R=[]):=by
 refine spec_of sg Tryz.func105 rfl rfl rfl ?_
 repeat' (first|refine d1 ?_|refine dd ?_|(show ∀ _:Nat,T _ _ _ _ _;intro _)|(show T _ (.code .ret::_) _ _ _;refine T_retV [] rfl (Hle.refl _) ⟨rfl,rfl⟩))
theorem open21_spec (t:Tok) (ht:t.small) (w:World) (hst:Std w):Spec Tryz.prog 107 [t.val] w (fun v A=>v = .bool (!decide (tokE t=0))∧A=[]):=by
 refine spec_of sg Tryz.func107 rfl rfl rfl ?_
 repeat' (first|(show T _ (.ops _ (⟨_, .box _ _,_,_,_,_⟩::_)::_) _ _ _;refine T_op (OpT.box (cs:=t.cells) rfl rfl rfl rfl rfl rfl rfl (fun _=>?_)))|refine d1 ?_|refine dd ?_|(show T _ (.ops _ (_::_)::_) _ _ _;first|refine T_call rfl rfl rfl rfl rfl (fun w hw=>tokPrg_spec t ht w (hst.cls hw)) ?_|refine T_callC rfl rfl rfl rfl rfl rfl rfl (fun hg w hw=>tokPrg_spec t ht w (hst.cls hw)) ?_)|(show T _ (.run _ _ (_::_) _ _::_) _ _ _;first|refine rc rfl rfl rfl rfl rfl rfl rfl (fun w hw=>tokPrg_spec t ht w (hst.cls hw)) ?_|refine rcG rfl rfl rfl rfl rfl rfl rfl rfl rfl (fun hg w hw=>tokPrg_spec t ht w (hst.cls hw)) ?_)|(show ∀ _:Nat,T _ _ _ _ _;intro _)|(show T _ (.code .ret::_) _ _ _;refine T_retV [] rfl (Hle.none _) ⟨rfl,rfl⟩))
theorem open2_spec (A:Option Addr) (n c:Nat) (l:List Tok) (w:World) (hst:Std w) (hs:Src w 6 A n (l.flatMap Tok.cells)) (hn:l.length=n) (hb:n≤9223372036854775807) (hsm:∀ x∈l,x.small) :
  Spec Tryz.prog 106 [.slice A n c] w (fun v R=>v = .bool (badL l)∧R=[]):=by
 refine spec_of sg Tryz.func106 rfl rfl rfl ?_
 repeat' (first|refine d1 ?_|refine dd ?_|(show T _ (.ops _ (_::_)::_) _ _ _;first|refine T_call rfl rfl rfl rfl rfl (fun w hw=>containsFuncT_spec A n c l _ [] [] (fun t => !decide (tokE t=0)) w (rdSrc hs w hw) hn hb (fun x hx w' hb'=>open21_spec x (hsm x hx) w' (hst.below (hw.below.trans (hb'.mono hw.below.size))))) ?_|refine T_callC rfl rfl rfl rfl rfl rfl rfl (fun hg w hw=>containsFuncT_spec A n c l _ [] [] (fun t => !decide (tokE t=0)) w (rdSrc hs w hw) hn hb (fun x hx w' hb'=>open21_spec x (hsm x hx) w' (hst.below (hw.below.trans (hb'.mono hw.below.size))))) ?_)|(show T _ (.run _ _ (_::_) _ _::_) _ _ _;first|refine rc rfl rfl rfl rfl rfl rfl rfl (fun w hw=>containsFuncT_spec A n c l _ [] [] (fun t => !decide (tokE t=0)) w (rdSrc hs w hw) hn hb (fun x hx w' hb'=>open21_spec x (hsm x hx) w' (hst.below (hw.below.trans (hb'.mono hw.below.size))))) ?_|refine rcG rfl rfl rfl rfl rfl rfl rfl rfl rfl (fun hg w hw=>containsFuncT_spec A n c l _ [] [] (fun t => !decide (tokE t=0)) w (rdSrc hs w hw) hn hb (fun x hx w' hb'=>open21_spec x (hsm x hx) w' (hst.below (hw.below.trans (hb'.mono hw.below.size))))) ?_)|(show ∀ _:Nat,T _ _ _ _ _;intro _)|(show T _ (.code .ret::_) _ _ _;refine T_retV [] rfl (Hle.none _) ⟨rfl,rfl⟩))
theorem any_long {l:List TS}:(l.any fun t=>decide ((1024:Int)<t.n))=true↔∃ t∈l,1024<t.n:=by
 rw [List.any_eq_true]
 constructor
 ·rintro⟨t,ht,h⟩;exact⟨t,ht,by rw [decide_eq_true_eq] at h;omega⟩
 ·rintro⟨t,ht,h⟩;exact⟨t,ht,by rw [decide_eq_true_eq];omega⟩
theorem openBad_spec (c:Costs) (A:Option Addr) (n ca:Nat) (l:List TS) (w:World) (hf:Fit w A n l) (hp:opE c l≠0) :
  Spec Tryz.prog 55 [c.val, .slice A n ca] w (fun v R=>∃ c':Costs,True∧v = .tuple #[.agg (spcL c' none 0 0 (.slice none 0 0) 0).toArray, .int .i64 (opE c l)]∧R=[]):=by
 have hn:=hf.hn
 have h34:=hf.b34
 refine spec_of sg Tryz.func55 rfl rfl rfl ?_
 refine T_op (OpT.box (cs:=c.cells) rfl rfl rfl rfl rfl rfl rfl (fun pc=>?_))
 repeat' (first|refine d1 ?_|refine dd ?_|(show ∀ _:Nat,T _ _ _ _ _;intro _))
 rename_i p4
 refine T_if rfl (fun h=>?_) (fun h=>?_)
 ·have e:opE c l=5:=by unfold opE;rw [if_pos (by simp at h;omega)]
  rw [e]
  repeat' (first|refine d1 ?_|refine dd ?_|(show ∀ _:Nat,T _ _ _ _ _;intro _))
  exact T_retM (vs:=[.agg (spcL c0 none 0 0 (.slice none 0 0) 0).toArray, .int .i64 5]) [] ⟨⟨p4,_,spcL c0 none 0 0 (.slice none 0 0) 0,rfl,rfl,rfl,rfl,(fun h=>by cases h),rfl,rdAll⟩,rfl,trivial⟩ (Hle.none _) ⟨c0,trivial,rfl,rfl⟩
 have h0:l.length≠0:=by simp at h;omega
 clear h
 repeat' (first|refine d1 ?_|refine dd ?_|(show T _ (.ops _ (_::_)::_) _ _ _;first|refine T_call rfl rfl rfl rfl rfl (fun w hw=>containsFuncS_spec A n ca l _ [] [] (fun t=>decide ((1024:Int)<t.n)) w (rdSrc hf.hs w hw) hn (by omega) (fun x hx w' hb'=>open1_spec x w')) ?_|refine T_callC rfl rfl rfl rfl rfl rfl rfl (fun hg w hw=>containsFuncS_spec A n ca l _ [] [] (fun t=>decide ((1024:Int)<t.n)) w (rdSrc hf.hs w hw) hn (by omega) (fun x hx w' hb'=>open1_spec x w')) ?_)|(show T _ (.run _ _ (_::_) _ _::_) _ _ _;first|refine rc rfl rfl rfl rfl rfl rfl rfl (fun w hw=>containsFuncS_spec A n ca l _ [] [] (fun t=>decide ((1024:Int)<t.n)) w (rdSrc hf.hs w hw) hn (by omega) (fun x hx w' hb'=>open1_spec x w')) ?_|refine rcG rfl rfl rfl rfl rfl rfl rfl rfl rfl (fun hg w hw=>containsFuncS_spec A n ca l _ [] [] (fun t=>decide ((1024:Int)<t.n)) w (rdSrc hf.hs w hw) hn (by omega) (fun x hx w' hb'=>open1_spec x w')) ?_)|(show ∀ _:Nat,T _ _ _ _ _;intro _))
 refine T_if rfl (fun h=>?_) (fun h=>?_)
 ·have hb:bigS l:=⟨h0,by
   rw [Bool.or_eq_true,decide_eq_true_eq,any_long] at h
   rcases h with h|h
   ·exact .inl (by omega)
   ·exact .inr h⟩
  have e:opE c l=4:=by unfold opE;rw [if_neg h0,if_pos hb]
  rw [e]
  repeat' (first|refine d1 ?_|refine dd ?_|(show ∀ _:Nat,T _ _ _ _ _;intro _))
  exact T_retM (vs:=[.agg (spcL c0 none 0 0 (.slice none 0 0) 0).toArray, .int .i64 4]) [] ⟨⟨p4,_,spcL c0 none 0 0 (.slice none 0 0) 0,rfl,rfl,rfl,rfl,(fun h=>by cases h),rfl,rdAll⟩,rfl,trivial⟩ (Hle.none _) ⟨c0,trivial,rfl,rfl⟩
 have hb:¬ bigS l:=fun hb=>by
  rw [Bool.or_eq_false_iff,decide_eq_false_iff_not] at h
  rcases hb.2 with h9|h9
  ·omega
  ·rw [any_long.2 h9] at h;cases h.2
 clear h
 have hg:=hf.grp hb
 have hgp:=hg
 repeat' (first|refine d1 ?_|refine dd ?_|(show T _ (.ops _ (_::_)::_) _ _ _;first|refine T_call rfl rfl rfl rfl rfl (fun w hw=>costPrg_spec c w) ?_|refine T_callC rfl rfl rfl rfl rfl rfl rfl (fun hg w hw=>costPrg_spec c w) ?_|refine T_call rfl rfl rfl rfl rfl (fun w hw=>containsFuncS_spec A n ca l _ [] [] (fun t=>badL t.l) w (rdSrc hgp.hs w hw) hgp.hn (by omega) (fun x hx w' hb'=>open2_spec x.A x.n x.cap x.l w' (hgp.hst.below (hw.below.trans (hb'.mono hw.below.size))) (src_below (hgp.ok.src x hx) (hw.below.trans (hb'.mono hw.below.size))) (hgp.ok.len x hx) (hgp.ok.bd x hx) (hgp.sm x hx))) ?_|refine T_callC rfl rfl rfl rfl rfl rfl rfl (fun hg w hw=>containsFuncS_spec A n ca l _ [] [] (fun t=>badL t.l) w (rdSrc hgp.hs w hw) hgp.hn (by omega) (fun x hx w' hb'=>open2_spec x.A x.n x.cap x.l w' (hgp.hst.below (hw.below.trans (hb'.mono hw.below.size))) (src_below (hgp.ok.src x hx) (hw.below.trans (hb'.mono hw.below.size))) (hgp.ok.len x hx) (hgp.ok.bd x hx) (hgp.sm x hx))) ?_)|(show T _ (.run _ _ (_::_) _ _::_) _ _ _;first|refine rc rfl rfl rfl rfl rfl rfl rfl (fun w hw=>costPrg_spec c w) ?_|refine rcG rfl rfl rfl rfl rfl rfl rfl rfl rfl (fun hg w hw=>costPrg_spec c w) ?_|refine rc rfl rfl rfl rfl rfl rfl rfl (fun w hw=>containsFuncS_spec A n ca l _ [] [] (fun t=>badL t.l) w (rdSrc hgp.hs w hw) hgp.hn (by omega) (fun x hx w' hb'=>open2_spec x.A x.n x.cap x.l w' (hgp.hst.below (hw.below.trans (hb'.mono hw.below.size))) (src_below (hgp.ok.src x hx) (hw.below.trans (hb'.mono hw.below.size))) (hgp.ok.len x hx) (hgp.ok.bd x hx) (hgp.sm x hx))) ?_|refine rcG rfl rfl rfl rfl rfl rfl rfl rfl rfl (fun hg w hw=>containsFuncS_spec A n ca l _ [] [] (fun t=>badL t.l) w (rdSrc hgp.hs w hw) hgp.hn (by omega) (fun x hx w' hb'=>open2_spec x.A x.n x.cap x.l w' (hgp.hst.below (hw.below.trans (hb'.mono hw.below.size))) (src_below (hgp.ok.src x hx) (hw.below.trans (hb'.mono hw.below.size))) (hgp.ok.len x hx) (hgp.ok.bd x hx) (hgp.sm x hx))) ?_)|(show ∀ _:Nat,T _ _ _ _ _;intro _))
 refine T_if rfl (fun h=>?_) (fun h=>?_)
 ·have hck:ck21 c l≠0:=fun h9=>by
   obtain⟨e1,e2⟩:=ck21_ok h9
   unfold badS at e2
   rw [e2] at h
   simp [e1] at h
  have e:opE c l=1:=by unfold opE;rw [if_neg h0,if_neg hb,if_pos hck]
  rw [e]
  repeat' (first|refine d1 ?_|refine dd ?_|(show ∀ _:Nat,T _ _ _ _ _;intro _))
  exact T_retM (vs:=[.agg (spcL c0 none 0 0 (.slice none 0 0) 0).toArray, .int .i64 1]) [] ⟨⟨p4,_,spcL c0 none 0 0 (.slice none 0 0) 0,rfl,rfl,rfl,rfl,(fun h=>by cases h),rfl,rdAll⟩,rfl,trivial⟩ (Hle.none _) ⟨c0,trivial,rfl,rfl⟩
 have hck:ck21 c l=0:=by
  unfold ck21
  rw [if_pos]
  unfold badS
  simpa using h
 clear h
 have e:=opE_pl hck
 rw [e] at hp ⊢
 repeat' (first|refine d1 ?_|refine dd ?_|(show T _ (.ops _ (_::_)::_) _ _ _;first|refine T_call rfl rfl rfl rfl rfl (fun w hw=>placesBad_spec A n ca l w (hf.cls hw) hp) ?_|refine T_callC rfl rfl rfl rfl rfl rfl rfl (fun hg w hw=>placesBad_spec A n ca l w (hf.cls hw) hp) ?_)|(show T _ (.run _ _ (_::_) _ _::_) _ _ _;first|refine rc rfl rfl rfl rfl rfl rfl rfl (fun w hw=>placesBad_spec A n ca l w (hf.cls hw) hp) ?_|refine rcG rfl rfl rfl rfl rfl rfl rfl rfl rfl (fun hg w hw=>placesBad_spec A n ca l w (hf.cls hw) hp) ?_)|(show ∀ _:Nat,T _ _ _ _ _;intro _))
 exact T_retM (vs:=[.agg (spcL c none 0 0 (.slice none 0 0) 0).toArray, .int .i64 (plE l)]) [] ⟨⟨p4,_,spcL c none 0 0 (.slice none 0 0) 0,rfl,rfl,rfl,rfl,(fun h=>by cases h),rfl,rdAll⟩,rfl,trivial⟩ (Hle.none _) ⟨c,trivial,rfl,rfl⟩
theorem openOk_spec (c:Costs) (A:Option Addr) (n ca:Nat) (l:List TS) (w:World) (hf:Fit w A n l) (hp:opE c l=0) :
  Spec Tryz.prog 55 [c.val, .slice A n ca] w (fun v R=>∃ M:Value,True∧v = .tuple #[.agg (spcL c A n ca M (volL (lens l))).toArray, .int .i64 0]∧R=[dat [M] [rowsD ((mvL n).map intN)]]):=by
 have hn:=hf.hn
 obtain⟨hpl,hck⟩:=opE_ok hp
 obtain⟨h1,hb,h4,hv⟩:=plE_ok hpl
 obtain⟨hc,hbs⟩:=ck21_ok hck
 have hg:=hf.grp hb
 refine spec_of sg Tryz.func55 rfl rfl rfl ?_
 refine T_op (OpT.box (cs:=c.cells) rfl rfl rfl rfl rfl rfl rfl (fun pc=>?_))
 repeat' (first|refine d1 ?_|refine dd ?_|(show ∀ _:Nat,T _ _ _ _ _;intro _))
 rename_i p4
 refine T_if rfl (fun h=>by exfalso;simp at h;omega) (fun _=>?_)
 repeat' (first|refine d1 ?_|refine dd ?_|(show T _ (.ops _ (_::_)::_) _ _ _;first|refine T_call rfl rfl rfl rfl rfl (fun w hw=>containsFuncS_spec A n ca l _ [] [] (fun t=>decide ((1024:Int)<t.n)) w (rdSrc hf.hs w hw) hn (by omega) (fun x hx w' hb'=>open1_spec x w')) ?_|refine T_callC rfl rfl rfl rfl rfl rfl rfl (fun hg w hw=>containsFuncS_spec A n ca l _ [] [] (fun t=>decide ((1024:Int)<t.n)) w (rdSrc hf.hs w hw) hn (by omega) (fun x hx w' hb'=>open1_spec x w')) ?_)|(show T _ (.run _ _ (_::_) _ _::_) _ _ _;first|refine rc rfl rfl rfl rfl rfl rfl rfl (fun w hw=>containsFuncS_spec A n ca l _ [] [] (fun t=>decide ((1024:Int)<t.n)) w (rdSrc hf.hs w hw) hn (by omega) (fun x hx w' hb'=>open1_spec x w')) ?_|refine rcG rfl rfl rfl rfl rfl rfl rfl rfl rfl (fun hg w hw=>containsFuncS_spec A n ca l _ [] [] (fun t=>decide ((1024:Int)<t.n)) w (rdSrc hf.hs w hw) hn (by omega) (fun x hx w' hb'=>open1_spec x w')) ?_)|(show ∀ _:Nat,T _ _ _ _ _;intro _))
 refine T_if rfl (fun h=>?_) (fun _=>?_)
 ·exfalso
  rw [Bool.or_eq_true,decide_eq_true_eq,any_long] at h
  rcases h with h|h
  ·omega
  ·exact hb ⟨by omega, .inr h⟩
 have hgp:=hg
 repeat' (first|refine d1 ?_|refine dd ?_|(show T _ (.ops _ (_::_)::_) _ _ _;first|refine T_call rfl rfl rfl rfl rfl (fun w hw=>costPrg_spec c w) ?_|refine T_callC rfl rfl rfl rfl rfl rfl rfl (fun hg w hw=>costPrg_spec c w) ?_|refine T_call rfl rfl rfl rfl rfl (fun w hw=>containsFuncS_spec A n ca l _ [] [] (fun t=>badL t.l) w (rdSrc hgp.hs w hw) hgp.hn (by omega) (fun x hx w' hb'=>open2_spec x.A x.n x.cap x.l w' (hgp.hst.below (hw.below.trans (hb'.mono hw.below.size))) (src_below (hgp.ok.src x hx) (hw.below.trans (hb'.mono hw.below.size))) (hgp.ok.len x hx) (hgp.ok.bd x hx) (hgp.sm x hx))) ?_|refine T_callC rfl rfl rfl rfl rfl rfl rfl (fun hg w hw=>containsFuncS_spec A n ca l _ [] [] (fun t=>badL t.l) w (rdSrc hgp.hs w hw) hgp.hn (by omega) (fun x hx w' hb'=>open2_spec x.A x.n x.cap x.l w' (hgp.hst.below (hw.below.trans (hb'.mono hw.below.size))) (src_below (hgp.ok.src x hx) (hw.below.trans (hb'.mono hw.below.size))) (hgp.ok.len x hx) (hgp.ok.bd x hx) (hgp.sm x hx))) ?_)|(show T _ (.run _ _ (_::_) _ _::_) _ _ _;first|refine rc rfl rfl rfl rfl rfl rfl rfl (fun w hw=>costPrg_spec c w) ?_|refine rcG rfl rfl rfl rfl rfl rfl rfl rfl rfl (fun hg w hw=>costPrg_spec c w) ?_|refine rc rfl rfl rfl rfl rfl rfl rfl (fun w hw=>containsFuncS_spec A n ca l _ [] [] (fun t=>badL t.l) w (rdSrc hgp.hs w hw) hgp.hn (by omega) (fun x hx w' hb'=>open2_spec x.A x.n x.cap x.l w' (hgp.hst.below (hw.below.trans (hb'.mono hw.below.size))) (src_below (hgp.ok.src x hx) (hw.below.trans (hb'.mono hw.below.size))) (hgp.ok.len x hx) (hgp.ok.bd x hx) (hgp.sm x hx))) ?_|refine rcG rfl rfl rfl rfl rfl rfl rfl rfl rfl (fun hg w hw=>containsFuncS_spec A n ca l _ [] [] (fun t=>badL t.l) w (rdSrc hgp.hs w hw) hgp.hn (by omega) (fun x hx w' hb'=>open2_spec x.A x.n x.cap x.l w' (hgp.hst.below (hw.below.trans (hb'.mono hw.below.size))) (src_below (hgp.ok.src x hx) (hw.below.trans (hb'.mono hw.below.size))) (hgp.ok.len x hx) (hgp.ok.bd x hx) (hgp.sm x hx))) ?_)|(show ∀ _:Nat,T _ _ _ _ _;intro _))
 refine T_if rfl (fun h=>?_) (fun _=>?_)
 ·exfalso
  unfold badS at hbs
  rw [hbs] at h
  simp [hc] at h
 repeat' (first|refine d1 ?_|refine dd ?_|(show T _ (.ops _ (_::_)::_) _ _ _;refine T_op (OpT.call rfl rfl rfl rfl rfl (fun w hw=>placesOk_spec A n ca l w (hf.cls hw) hpl) ?_))|(show ∀ _:Nat,T _ _ _ _ _;intro _))
 rintro v R ⟨M,-,rfl,rfl⟩
 refine T_le (H':=dat [M] [rowsD ((mvL n).map intN)]::blk p4 (spcL c0 none 0 0 (.slice none 0 0) 0) 84::blk pc c.cells 23::[]) (Hle.refl _) ?_
 refine T_open fun pm hM=>?_
 obtain⟨Am,cm,csm,rfl,-⟩:=hM.tab
 rw [List.length_map] at hM ⊢
 repeat' (first|refine d1 ?_|refine dd ?_|(show ∀ _:Nat,T _ _ _ _ _;intro _))
 exact T_retM (vs:=[.agg (spcL c A n ca (.slice Am (mvL n).length cm) (volL (lens l))).toArray, .int .i64 0]) [dat [.slice Am (mvL n).length cm] [rowsD ((mvL n).map intN)]] ⟨⟨p4,_,spcL c A n ca (.slice Am (mvL n).length cm) (volL (lens l)),rfl,rfl,rfl,rfl,(fun h=>by cases h),rfl,rdAll⟩,rfl,trivial⟩ ((Hle.srt (K:=[fz pm])).trans (Hle.weaken (i:=0) rfl (fz_dat hM) rfl)) ⟨_,trivial,rfl,rfl⟩
end Go.Proofs.YthadgaboakipoaaGreatDoor
namespace Go.Proofs.YthadgaboakipoaaGreatDoor
open Go.RowKit Go.Shelf Go.Proofs
set_option maxRecDepth 100000
set_option maxHeartbeats 1000000

def mnOf:Int→List Int→Int
 | a,[]=>a
 | a,x::l=>mnOf (min a x) l
theorem mnOf_lt:∀ (l:List Int) (a:Int),mnOf a l<0↔∃ z∈a::l,z<0
 | [],a=>by show a<0↔_;simp
 | x::l,a=>by
  show mnOf (min a x) l<0↔_
  rw [mnOf_lt l]
  simp only [List.mem_cons]
  constructor
  ·rintro⟨z,rfl|hz,h⟩
   ·by_cases h1:a<0
    ·exact⟨a, .inl rfl,h1⟩
    ·exact⟨x, .inr (.inl rfl),by omega⟩
   ·exact⟨z, .inr (.inr hz),h⟩
  ·rintro⟨z,rfl|rfl|hz,h⟩
   ·exact⟨_, .inl rfl,by omega⟩
   ·exact⟨_, .inl rfl,by omega⟩
   ·exact⟨z, .inr hz,h⟩
theorem mxOf_gt (B:Int):∀ (l:List Int) (a:Int),B<mxOf a l↔∃ z∈a::l,B<z
 | [],a=>by show B<a↔_;simp
 | x::l,a=>by
  show B<mxOf (max a x) l↔_
  rw [mxOf_gt B l]
  simp only [List.mem_cons]
  constructor
  ·rintro⟨z,rfl|hz,h⟩
   ·by_cases h1:B<a
    ·exact⟨a, .inl rfl,h1⟩
    ·exact⟨x, .inr (.inl rfl),by omega⟩
   ·exact⟨z, .inr (.inr hz),h⟩
  ·rintro⟨z,rfl|rfl|hz,h⟩
   ·exact⟨_, .inl rfl,by omega⟩
   ·exact⟨_, .inl rfl,by omega⟩
   ·exact⟨z, .inr hz,h⟩
theorem outP_any (a:Int) (r:List Int):(decide (mnOf a r<0) || decide (1073741824<mxOf a r))=(a::r).any outP:=by
 rw [Bool.eq_iff_iff,Bool.or_eq_true,decide_eq_true_eq,decide_eq_true_eq,mnOf_lt,mxOf_gt,List.any_eq_true]
 unfold outP
 simp only [Bool.or_eq_true,decide_eq_true_eq]
 constructor
 ·rintro (⟨z,h1,h2⟩|⟨z,h1,h2⟩)
  ·exact⟨z,h1, .inl h2⟩
  ·exact⟨z,h1, .inr h2⟩
 ·rintro⟨z,h1,h2|h2⟩
  ·exact .inl ⟨z,h1,h2⟩
  ·exact .inr ⟨z,h1,h2⟩
theorem mnOfnt_spec (A:Option Addr) (n ca:Nat) (a:Int) (r:List Int) (w:World) (hs:Src w 1 A n ((a::r).map (Value.int .i64))) (hn:(a::r).length=n) (hb:n≤1000) :
  Spec Tryz.prog 120 [.slice A n ca] w (fun v R=>v = .int .i64 (mnOf a r)∧R=[]):=by
 have hn2:r.length+1=n:=hn
 obtain⟨b,o,rfl⟩:=hs.base (by omega)
 have hr0:=src_int hs (k:=0) (x:=a) (by omega) rfl
 refine spec_of sg Tryz.func120 rfl rfl rfl ?_
 repeat' (first|refine d1 ?_|refine dd ?_|(show ∀ _:Nat,T _ _ _ _ _;intro _))
 refine T_if rfl (fun h=>by exfalso;simp at h;omega) (fun _=>?_)
 repeat' (first|refine d1 ?_|refine dd ?_|(show T _ (.ops _ (_::_)::_) _ _ _;first|refine T_val rfl (Val.load rfl (fun hg=>rdOld hr0)) rfl rfl rfl ?_|refine T_valC rfl (Val.load rfl (fun hg=>rdOld hr0)) rfl rfl rfl rfl rfl ?_)|(show T _ (.run _ _ (_::_) _ _::_) _ _ _;first|refine rv rfl rfl rfl (Val.load rfl (fun hg=>rdOld hr0)) rfl rfl rfl ?_|refine rg rfl rfl rfl (Val.load rfl (fun hg=>rdOld hr0)) rfl rfl rfl rfl rfl ?_)|(show ∀ _:Nat,T _ _ _ _ _;intro _))
 refine T_loopX (fun s:Nat × Int=>[(4, .int .i64 (s.1:Nat)),(3, .int .i64 s.2)]) (fun _=>[]) (fun s=>1≤s.1∧s.1≤n∧mnOf s.2 (r.drop (s.1 - 1))=mnOf a r) (fun s=>n - s.1) (1,a) ⟨Nat.le_refl _,by dsimp only;omega,rfl⟩ ?_
 rintro⟨k,m⟩ ⟨hk1,hk,hm⟩
 dsimp only at hk1 hk hm ⊢
 repeat' (first|refine d1 ?_|refine dd ?_|(show ∀ _:Nat,T _ _ _ _ _;intro _))
 refine T_if rfl (fun h=>?_) (fun h=>?_)
 ·simp only [decide_eq_true_eq] at h
  have hkn:k<n:=by omega
  obtain⟨z,hz⟩:∃ z,r[k - 1]?=some z:=⟨_,List.getElem?_eq_getElem (by omega)⟩
  have hz2:(a::r)[k]?=some z:=by
   obtain⟨j,rfl⟩:∃ j,k=j+1:=⟨k - 1,by omega⟩
   exact hz
  have hr1:=src_int hs hkn hz2
  have hd:r.drop (k - 1)=z::r.drop (k - 1+1):=by
   obtain⟨h1,e⟩:=List.getElem?_eq_some_iff.1 hz
   rw [List.drop_eq_getElem_cons h1,e]
  rw [hd] at hm
  repeat' (first|refine d1 ?_|refine dd ?_|(show ∀ _:Nat,T _ _ _ _ _;intro _))
  refine T_backX (k+1,min m z) ⟨by dsimp only;omega,by dsimp only;omega,?_⟩ (by dsimp only;omega)
  dsimp only
  rw [show k+1 - 1=k - 1+1 by omega]
  exact hm
 ·simp only [decide_eq_false_iff_not] at h
  rw [List.drop_of_length_le (by omega)] at hm
  have hm2:m=mnOf a r:=hm
  repeat' (first|refine d1 ?_|refine dd ?_|(show ∀ _:Nat,T _ _ _ _ _;intro _)|(show T _ (.code .ret::_) _ _ _;refine T_retV [] rfl (Hle.none _) ⟨by rw [hm2];rfl,rfl⟩))
theorem check20_spec (c:Costs) (A:Option Addr) (n ca:Nat) (M:Value) (V:Nat) (l:List TS) (Ap:Option Addr) (np cp:Nat) (p:List Int) (w:World) (hg:Grp w A n l) (hc:costE c=0) (hbs:badS l=false) (h1:1≤n) (h4:n≤4) (hv:volL (lens l)≤65536) (hV:V=volL (lens l)) (hM:Rd (wr w) [M] [rowsD ((mvL n).map intN)]) (hp:Src w 1 Ap np (p.map (Value.int .i64))) (hnp:p.length=np) (hpb:np≤1000) :
  Spec Tryz.prog 70 [.agg (spcL c A n ca M V).toArray, .slice Ap np cp] w (fun v R=>v = .int .i64 (feaE (colZ c l) (lens l) (mvL n) p)∧R=[]):=by
 have hn:=hg.hn
 have hll:=lens_len l
 have hlsn:(lens l).length=n:=by omega
 have hno:=mvL_ok h1 h4
 have hVp:0<V:=by rw [hV];exact volL_pos _
 obtain⟨Am,cm,csm,rfl,-⟩:=hM.tab
 rw [List.length_map] at hM ⊢
 refine spec_of sg Tryz.func70 rfl rfl rfl ?_
 refine T_op (OpT.box (cs:=spcL c A n ca (.slice Am (mvL n).length cm) V) rfl rfl rfl rfl rfl rfl rfl (fun p2=>?_))
 refine T_op (OpT.box (cs:=[.slice Ap np cp]) rfl rfl rfl rfl rfl rfl rfl (fun p3=>?_))
 repeat' (first|refine d1 ?_|refine dd ?_|(show T _ (.ops _ (_::_)::_) _ _ _;first|refine T_val rfl (Val.nilc rfl) rfl rfl rfl ?_|refine T_valC rfl (Val.nilc rfl) rfl rfl rfl rfl rfl ?_)|(show T _ (.run _ _ (_::_) _ _::_) _ _ _;first|refine rv rfl rfl rfl (Val.nilc rfl) rfl rfl rfl ?_|refine rg rfl rfl rfl (Val.nilc rfl) rfl rfl rfl rfl rfl ?_)|(show ∀ _:Nat,T _ _ _ _ _;intro _))
 rename_i p4
 refine T_if rfl (fun h=>?_) (fun h=>?_)
 ·have e:feaE (colZ c l) (lens l) (mvL n) p=9:=if_pos (by simp at h;omega)
  rw [e]
  repeat' (first|refine d1 ?_|refine dd ?_|(show ∀ _:Nat,T _ _ _ _ _;intro _)|(show T _ (.code .ret::_) _ _ _;refine T_retM (vs:=[.int .i64 9]) [] ⟨⟨p4,_,[.int .i64 9],rfl,rfl,rfl,rfl,(fun _=>rfl),rfl,rdOwn1 rfl⟩,trivial⟩ (Hle.none _) ⟨rfl,rfl⟩))
 have hl0:p.length=volL (lens l):=by simp at h;omega
 clear h
 obtain rfl:np=V:=by omega
 obtain⟨b,o,rfl⟩:=hp.base (by omega)
 have hpg:∀ q,q<np→RdC w b (o+(q:Int).toNat * 1) [.int .i64 (pg p q)]:=fun q hq=>src_int hp hq (by unfold pg;rw [List.getD_eq_getElem?_getD,List.getElem?_eq_getElem (by omega)];rfl)
 have hlast:RdC w b (o+((np:Int) - 1).toNat * 1) [.int .i64 (pg p (np - 1))]:=by
  have h9:=hpg (np - 1) (by omega)
  rw [show ((np:Int) - 1)=((np - 1:Nat):Int) by omega]
  exact h9
 obtain⟨a,r,har⟩:∃ a r,p=a::r:=by
  cases p with
  | nil=>simp at hnp;omega
  | cons a r=>exact⟨a,r,rfl⟩
 have hp2:Src w 1 (some ⟨b,o,none⟩) np ((a::r).map (Value.int .i64)):=by rw [← har];exact hp
 have hnp2:(a::r).length=np:=by rw [← har];exact hnp
 repeat' (first|refine d1 ?_|refine dd ?_|(show T _ (.ops _ (_::_)::_) _ _ _;first|refine T_val rfl (Val.nilc rfl) rfl rfl rfl ?_|refine T_valC rfl (Val.nilc rfl) rfl rfl rfl rfl rfl ?_|refine T_val rfl (Val.load rfl (fun hg=>rdOld hlast)) rfl rfl rfl ?_|refine T_valC rfl (Val.load rfl (fun hg=>rdOld hlast)) rfl rfl rfl rfl rfl ?_|refine T_call rfl rfl rfl rfl rfl (fun w hw=>mnOfnt_spec (some ⟨b,o,none⟩) np cp a r w (rdSrc hp2 w hw) hnp2 hpb) ?_|refine T_callC rfl rfl rfl rfl rfl rfl rfl (fun hg w hw=>mnOfnt_spec (some ⟨b,o,none⟩) np cp a r w (rdSrc hp2 w hw) hnp2 hpb) ?_|refine T_call rfl rfl rfl rfl rfl (fun w hw=>mxOfnt_spec (some ⟨b,o,none⟩) np cp a r w (rdSrc hp2 w hw) hnp2 hpb) ?_|refine T_callC rfl rfl rfl rfl rfl rfl rfl (fun hg w hw=>mxOfnt_spec (some ⟨b,o,none⟩) np cp a r w (rdSrc hp2 w hw) hnp2 hpb) ?_)|(show T _ (.run _ _ (_::_) _ _::_) _ _ _;first|refine rv rfl rfl rfl (Val.nilc rfl) rfl rfl rfl ?_|refine rg rfl rfl rfl (Val.nilc rfl) rfl rfl rfl rfl rfl ?_|refine rv rfl rfl rfl (Val.load rfl (fun hg=>rdOld hlast)) rfl rfl rfl ?_|refine rg rfl rfl rfl (Val.load rfl (fun hg=>rdOld hlast)) rfl rfl rfl rfl rfl ?_|refine rc rfl rfl rfl rfl rfl rfl rfl (fun w hw=>mnOfnt_spec (some ⟨b,o,none⟩) np cp a r w (rdSrc hp2 w hw) hnp2 hpb) ?_|refine rcG rfl rfl rfl rfl rfl rfl rfl rfl rfl (fun hg w hw=>mnOfnt_spec (some ⟨b,o,none⟩) np cp a r w (rdSrc hp2 w hw) hnp2 hpb) ?_|refine rc rfl rfl rfl rfl rfl rfl rfl (fun w hw=>mxOfnt_spec (some ⟨b,o,none⟩) np cp a r w (rdSrc hp2 w hw) hnp2 hpb) ?_|refine rcG rfl rfl rfl rfl rfl rfl rfl rfl rfl (fun hg w hw=>mxOfnt_spec (some ⟨b,o,none⟩) np cp a r w (rdSrc hp2 w hw) hnp2 hpb) ?_)|(show ∀ _:Nat,T _ _ _ _ _;intro _))
 have hout:=outP_any a r
 rw [← har] at hout
 refine T_if rfl (fun h=>?_) (fun h=>?_)
 ·have e:feaE (colZ c l) (lens l) (mvL n) p=18:=by
   unfold feaE
   rw [if_neg (by simpa using hl0),if_pos]
   rw [Bool.or_assoc,hout,Bool.or_eq_true,Bool.not_eq_true',decide_eq_false_iff_not] at h
   rw [← hV]
   rcases h with h|h
   ·exact .inl h
   ·exact .inr (.inl h)
  rw [e]
  repeat' (first|refine d1 ?_|refine dd ?_|(show ∀ _:Nat,T _ _ _ _ _;intro _)|(show T _ (.code .ret::_) _ _ _;refine T_retM (vs:=[.int .i64 18]) [] ⟨⟨p4,_,[.int .i64 18],rfl,rfl,rfl,rfl,(fun _=>rfl),rfl,rdOwn1 rfl⟩,trivial⟩ (Hle.none _) ⟨rfl,rfl⟩))
 have hgood:pg p (np - 1)=0∧p.any outP=false:=by
  rw [Bool.or_assoc,hout,Bool.or_eq_false_iff,Bool.not_eq_false',decide_eq_true_eq] at h
  exact h
 clear h
 obtain⟨hl1,hl2⟩:=hgood
 have hpb2:∀ q,0≤pg p q∧pg p q≤1073741824:=fun q=>by
  unfold pg
  rw [List.getD_eq_getElem?_getD]
  cases hq:p[q]? with
  | none=>simp
  | some z =>
   rw [List.any_eq_false] at hl2
   have:=hl2 z (List.mem_of_getElem? hq)
   unfold outP at this
   simp only [Bool.or_eq_true,decide_eq_true_eq] at this
   simp only [Option.getD_some]
   omega
 have hfe:∀ x:Bool,(List.range (volL (lens l))).any (badQ (colZ c l) (lens l) (mvL n) p)=x→feaE (colZ c l) (lens l) (mvL n) p=if x=true then 18 else 0:=fun x hx=>by
  unfold feaE
  rw [if_neg (by simpa using hl0), ← hV,hl1,hl2]
  rw [← hV] at hx
  rw [hx]
  simp
 refine T_keep [(2, .pointer (some ⟨p2,0,none⟩)),(3, .pointer (some ⟨p3,0,none⟩)),(4, .pointer (some ⟨p4,0,none⟩))] ⟨rfl,rfl,rfl,trivial⟩ ?_
 refine T_le (H':=blk p4 [.int .i64 0] 28::blk p3 [.slice (some ⟨b,o,none⟩) np cp] 27::blk p2 (spcL c A n ca (.slice Am (mvL n).length cm) np) 84::[]) (Hle.refl _) ?_
 repeat' (first|refine d1 ?_|refine dd ?_|(show ∀ _:Nat,T _ _ _ _ _;intro _))
 show T (FC _ _ (([]:List Nat).map mkD) _ _ _) _ _ _ _
 refine T_loopDX (fun s:Nat × List Nat=>[(31, .int .i64 (s.1:Nat))]) (fun s=>blk p4 [.int .i64 0] 28::blk p3 [.slice (some ⟨b,o,none⟩) np cp] 27::blk p2 (spcL c A n ca (.slice Am (mvL n).length cm) np) 84::[]) (fun s=>s.2) (fun s=>s.1≤np∧∀ q,q<s.1→badQ (colZ c l) (lens l) (mvL n) p q=false) (fun s=>np - s.1) (0,[]) ⟨Nat.zero_le _,fun q h=>absurd h (Nat.not_lt_zero q)⟩ rfl ?_
 rintro⟨q,Dl⟩ ⟨hq,hno2⟩
 dsimp only at hq hno2 ⊢
 refine T_le (H':=blk p4 [.int .i64 0] 28::blk p3 [.slice (some ⟨b,o,none⟩) np cp] 27::blk p2 (spcL c A n ca (.slice Am (mvL n).length cm) np) 84::dfrs Dl) (Hle.refl _) ?_
 repeat' (first|refine d1 ?_|refine dd ?_|(show ∀ _:Nat,T _ _ _ _ _;intro _))
 refine T_if rfl (fun h5=>?_) (fun h5=>?_)
 ·simp only [decide_eq_true_eq] at h5
  have hqn:q<np:=by omega
  have hin:=atL_in (lens l) q
  repeat' (first|refine d1 ?_|refine dd ?_|(show T _ (.ops _ (_::_)::_) _ _ _;first|refine T_val rfl (Val.loadA rfl (fun _=>rdAll) rfl) rfl rfl rfl ?_|refine T_valC rfl (Val.loadA rfl (fun _=>rdAll) rfl) rfl rfl rfl rfl rfl ?_|refine T_op (OpT.call rfl rfl rfl rfl rfl (fun w hw=>steps20_fn c A n ca (.slice Am (mvL n).length cm) np q w) (fun u R hR=>?_)))|(show T _ (.run _ _ (_::_) _ _::_) _ _ _;first|refine rv rfl rfl rfl (Val.loadA rfl (fun _=>rdAll) rfl) rfl rfl rfl ?_|refine rg rfl rfl rfl (Val.loadA rfl (fun _=>rdAll) rfl) rfl rfl rfl rfl rfl ?_)|(show ∀ _:Nat,T _ _ _ _ _;intro _))
  obtain⟨⟨g1,g2⟩,-,rfl,rfl⟩:=hR
  rename_i p5
  refine T_le (H':=blk g2 [.int .i64 (q:Nat)] 3::blk g1 (spcL c A n ca (.slice Am (mvL n).length cm) np) 84::blk p5 [.int .i64 (q:Nat)] 3::blk p4 [.int .i64 0] 28::blk p3 [.slice (some ⟨b,o,none⟩) np cp] 27::blk p2 (spcL c A n ca (.slice Am (mvL n).length cm) np) 84::dfrs Dl) (Hle.refl _) ?_
  refine T_rangeZ (steps20_iter (ca:=ca) (V:=np) hg hc hbs h1 h4 hv (p:=q) (by omega) g1 g2 (pz:=fun _=>none) (fun w' hb _=>wr_below hb) hM) rfl (fun j x B hj hQ=>by obtain⟨m,_,_,_,_,rfl,_⟩:=hQ;exact⟨rfl,rfl⟩)
   (fun jj H=>H=blk p5 [.int .i64 (q:Nat)] 3::blk p4 [.int .i64 0] 28::blk p3 [.slice (some ⟨b,o,none⟩) np cp] 27::blk p2 (spcL c A n ca (.slice Am (mvL n).length cm) np) 84::dfrs Dl∧∀ j' y,j'<jj→(posL (lens l) (atL (lens l) q) (mvL n))[j']?=some y→¬ viaP (colZ c l) (lens l) p (atL (lens l) q) y<pg p q)
   (fun H=>H=blk p5 [.int .i64 (q:Nat)] 3::blk p4 [.int .i64 18] 28::blk p3 [.slice (some ⟨b,o,none⟩) np cp] 27::blk p2 (spcL c A n ca (.slice Am (mvL n).length cm) np) 84::dfrs Dl∧badQ (colZ c l) (lens l) (mvL n) p q=true) (fun _ _=>False) (blk p5 [.int .i64 (q:Nat)] 3::blk p4 [.int .i64 0] 28::blk p3 [.slice (some ⟨b,o,none⟩) np cp] 27::blk p2 (spcL c A n ca (.slice Am (mvL n).length cm) np) 84::dfrs Dl) (fun _ _ _=>(hle_unit (B:=fz (fun _=>none)) rfl).trans (Hle.nth 0 rfl)) ⟨rfl,fun _ _ h=>absurd h (Nat.not_lt_zero _)⟩ Hle.srtV ?_ ?_ ?_ (fun _ _ _ h=>h.elim)
  ·rintro Lp r5 jj x B Hj K2 hr5 hj hQ ⟨rfl,hdone⟩
   obtain⟨m,A9,c9,hm,hmr,rfl,rfl⟩:=hQ
   obtain⟨hmm,hpo⟩:=posL_mem (List.mem_of_getElem? hm)
   obtain⟨hti,hs1,hs2,hs3⟩:=toM_rem hno hlsn hin hmm hpo
   have hqV:=numL_lt hti
   have hvia:viaP (colZ c l) (lens l) p (atL (lens l) q) m=colZ c l (colT (atL (lens l) q) m)+pg p (numL (lens l) (toM (atL (lens l) q) m)):=rfl
   obtain⟨u,hu⟩:∃ u,u=numL (lens l) (toM (atL (lens l) q) m):=⟨_,rfl⟩
   rw [← hu] at hqV hvia
   have hKb:=colZ_bd hc (show l.length≤32 by omega) (colT (atL (lens l) q) m)
   have hb1:=hpb2 q
   have hb2:=hpb2 u
   have hcq:=hpg q hqn
   have hcu:=hpg u (by omega)
   show T _ _ ((37, .agg #[.slice A9 m.length c9, .int .i64 (colZ c l (colT (atL (lens l) q) m)), .int .i64 (numL (lens l) (toM (atL (lens l) q) m):Nat)])::_) _ (lrec Lp r5::blk p5 [.int .i64 (q:Nat)] 3::blk p4 [.int .i64 0] 28::blk p3 [.slice (some ⟨b,o,none⟩) np cp] 27::blk p2 (spcL c A n ca (.slice Am (mvL n).length cm) np) 84::(dfrs Dl++K2))
   rw [← hu]
   repeat' (first|refine d1 ?_|refine dd ?_|(show ∀ _:Nat,T _ _ _ _ _;intro _))
   rename_i p6
   refine T_le (H':=lrec Lp r5::blk p6 [.slice A9 m.length c9, .int .i64 (colZ c l (colT (atL (lens l) q) m)), .int .i64 (u:Nat)] 91::blk p5 [.int .i64 (q:Nat)] 3::blk p4 [.int .i64 0] 28::blk p3 [.slice (some ⟨b,o,none⟩) np cp] 27::blk p2 (spcL c A n ca (.slice Am (mvL n).length cm) np) 84::(dfrs Dl++K2)) (Hle.perm (List.Perm.swap _ _ _)) ?_
   refine T_begin hr5 rfl ?_
   repeat' (first|refine d1 ?_|refine dd ?_|(show T _ (.ops _ (_::_)::_) _ _ _;first|refine T_val rfl (Val.nilc rfl) rfl rfl rfl ?_|refine T_valC rfl (Val.nilc rfl) rfl rfl rfl rfl rfl ?_|refine T_val rfl (Val.load rfl (fun hg=>rdOld hcq)) rfl rfl rfl ?_|refine T_valC rfl (Val.load rfl (fun hg=>rdOld hcq)) rfl rfl rfl rfl rfl ?_|refine T_val rfl (Val.load rfl (fun hg=>rdOld hcu)) rfl rfl rfl ?_|refine T_valC rfl (Val.load rfl (fun hg=>rdOld hcu)) rfl rfl rfl rfl rfl ?_)|(show T _ (.run _ _ (_::_) _ _::_) _ _ _;first|refine rv rfl rfl rfl (Val.nilc rfl) rfl rfl rfl ?_|refine rg rfl rfl rfl (Val.nilc rfl) rfl rfl rfl rfl rfl ?_|refine rv rfl rfl rfl (Val.load rfl (fun hg=>rdOld hcq)) rfl rfl rfl ?_|refine rg rfl rfl rfl (Val.load rfl (fun hg=>rdOld hcq)) rfl rfl rfl rfl rfl ?_|refine rv rfl rfl rfl (Val.load rfl (fun hg=>rdOld hcu)) rfl rfl rfl ?_|refine rg rfl rfl rfl (Val.load rfl (fun hg=>rdOld hcu)) rfl rfl rfl rfl rfl ?_)|(show ∀ _:Nat,T _ _ _ _ _;intro _))
   refine T_if rfl (fun h6=>?_) (fun h6=>?_)
   ·simp only [decide_eq_true_eq] at h6
    have hbad:badQ (colZ c l) (lens l) (mvL n) p q=true:=by
     unfold badQ
     rw [List.any_eq_true]
     exact⟨m,List.mem_of_getElem? hm,by rw [hvia];exact decide_eq_true h6⟩
    repeat' (first|refine d1 ?_|refine dd ?_|(show ∀ _:Nat,T _ _ _ _ _;intro _)|(show T _ (.code .ret::_) _ _ _;refine T_rret _ ⟨rfl,hbad⟩ (Hle.drop2 _ _ _)))
   ·simp only [decide_eq_false_iff_not] at h6
    repeat' (first|refine d1 ?_|refine dd ?_|(show ∀ _:Nat,T _ _ _ _ _;intro _))
    refine T_next _ ⟨rfl,fun j' y hj' hy=>?_⟩ (Hle.drop2 _ _ _)
    by_cases e:j'=jj
    ·subst e;rw [hm] at hy;cases hy;rw [hvia];exact h6
    ·exact hdone j' y (by omega) hy
  ·rintro D Hn ⟨rfl,hdone⟩
   have hbad:badQ (colZ c l) (lens l) (mvL n) p q=false:=by
    unfold badQ
    rw [List.any_eq_false]
    intro y hy
    obtain⟨j,hj,rfl⟩:=List.getElem_of_mem hy
    have:=hdone j _ hj (List.getElem?_eq_getElem hj)
    simpa using this
   show T (FC _ _ ((D::Dl).map mkD) _ _ _) _ _ _ (dfr D::blk g2 [.int .i64 (q:Nat)] 3::blk g1 (spcL c A n ca (.slice Am (mvL n).length cm) np) 84::blk p5 [.int .i64 (q:Nat)] 3::blk p4 [.int .i64 0] 28::blk p3 [.slice (some ⟨b,o,none⟩) np cp] 27::blk p2 (spcL c A n ca (.slice Am (mvL n).length cm) np) 84::dfrs Dl)
   repeat' (first|refine d1 ?_|refine dd ?_|(show ∀ _:Nat,T _ _ _ _ _;intro _))
   show T _ (.mark _::_) _ _ _
   refine T_backD (q+1,D::Dl) ⟨by dsimp only;omega,fun j hj=>?_⟩ (by dsimp only;omega) rfl (hG:=?_)
   ·dsimp only at hj
    by_cases e:j=q
    ·rw [e];exact hbad
    ·exact hno2 j (by omega)
   ·dsimp only
    exact Hle.srtV (K:=blk p4 [.int .i64 0] 28::blk p3 [.slice (some ⟨b,o,none⟩) np cp] 27::blk p2 (spcL c A n ca (.slice Am (mvL n).length cm) np) 84::dfr D::dfrs Dl)
  ·rintro D Hx ⟨rfl,hbad⟩
   have e:=hfe true (List.any_eq_true.2 ⟨q,List.mem_range.2 (by omega),hbad⟩)
   rw [e]
   show T (FC _ _ ((D::Dl).map mkD) _ _ _) _ _ _ (dfr D::blk g2 [.int .i64 (q:Nat)] 3::blk g1 (spcL c A n ca (.slice Am (mvL n).length cm) np) 84::blk p5 [.int .i64 (q:Nat)] 3::blk p4 [.int .i64 18] 28::blk p3 [.slice (some ⟨b,o,none⟩) np cp] 27::blk p2 (spcL c A n ca (.slice Am (mvL n).length cm) np) 84::dfrs Dl)
   exact T_retDs [blk p4 [.int .i64 18] 28] (Hle.srtV (K:=blk p4 [.int .i64 18] 28::dfr D::dfrs Dl)) (rf_M (ds:=[]) (vs:=[.int .i64 18]) [] ⟨⟨p4,_,[.int .i64 18],rfl,rfl,rfl,rfl,(fun _=>rfl),rfl,rdOwn1 rfl⟩,trivial⟩ (Hle.none _) ⟨rfl,rfl⟩)
 ·simp only [decide_eq_false_iff_not] at h5
  have e:=hfe false (List.any_eq_false.2 fun q hq9=>by rw [hno2 q (by have:=List.mem_range.1 hq9;omega)];simp)
  rw [e]
  repeat' (first|refine d1 ?_|refine dd ?_|(show ∀ _:Nat,T _ _ _ _ _;intro _))
  exact T_retDs [blk p4 [.int .i64 0] 28] (Hle.srtV (K:=blk p4 [.int .i64 0] 28::dfrs Dl)) (rf_M (ds:=[]) (vs:=[.int .i64 0]) [] ⟨⟨p4,_,[.int .i64 0],rfl,rfl,rfl,rfl,(fun _=>rfl),rfl,rdOwn1 rfl⟩,trivial⟩ (Hle.none _) ⟨rfl,rfl⟩)
noncomputable def chkV20 (c:Costs) (l:List TS) (p:List Int):Int:=if opE c l≠0 then opE c l else feaE (colZ c l) (lens l) (mvL l.length) p
theorem checkP20_spec (c:Costs) (A:Option Addr) (n ca:Nat) (l:List TS) (Ap:Option Addr) (np cp:Nat) (p:List Int) (w:World) (hf:Fit w A n l) (hp:Src w 1 Ap np (p.map (Value.int .i64))) (hnp:p.length=np) (hpb:np≤1000) :
  Spec Tryz.prog 28 [c.val, .slice A n ca, .slice Ap np cp] w (fun v R=>v = .int .i64 (chkV20 c l p)∧R=[]):=by
 have hn:=hf.hn
 refine spec_of sg Tryz.func28 rfl rfl rfl ?_
 refine T_op (OpT.box (cs:=c.cells) rfl rfl rfl rfl rfl rfl rfl (fun pc=>?_))
 by_cases hop:opE c l≠0
 ·have e:chkV20 c l p=opE c l:=if_pos hop
  rw [e]
  repeat' (first|refine d1 ?_|refine dd ?_|(show T _ (.ops _ (_::_)::_) _ _ _;refine T_op (OpT.call rfl rfl rfl rfl rfl (fun w hw=>openBad_spec c A n ca l w (hf.cls hw) hop) ?_))|(show ∀ _:Nat,T _ _ _ _ _;intro _))
  rintro v R ⟨c',-,rfl,rfl⟩
  repeat' (first|refine d1 ?_|refine dd ?_|(show ∀ _:Nat,T _ _ _ _ _;intro _))
  refine T_if rfl (fun _=>?_) (fun h=>by exfalso;simp at h;exact hop h)
  repeat' (first|refine d1 ?_|refine dd ?_|(show ∀ _:Nat,T _ _ _ _ _;intro _)|(show T _ (.code .ret::_) _ _ _;refine T_retV [] rfl (Hle.none _) ⟨rfl,rfl⟩))
 have hop:opE c l=0:=by simpa using hop
 have e:chkV20 c l p=feaE (colZ c l) (lens l) (mvL l.length) p:=if_neg (by simpa using hop)
 rw [e]
 obtain⟨hpl,hck⟩:=opE_ok hop
 obtain⟨h1,hb,h4,hv⟩:=plE_ok hpl
 obtain⟨hc,hbs⟩:=ck21_ok hck
 have hg:=hf.grp hb
 repeat' (first|refine d1 ?_|refine dd ?_|(show T _ (.ops _ (_::_)::_) _ _ _;refine T_op (OpT.call rfl rfl rfl rfl rfl (fun w hw=>openOk_spec c A n ca l w (hf.cls hw) hop) ?_))|(show ∀ _:Nat,T _ _ _ _ _;intro _))
 rintro v R ⟨M,-,rfl,rfl⟩
 refine T_le (H':=dat [M] [rowsD ((mvL n).map intN)]::blk pc c.cells 23::[]) (Hle.refl _) ?_
 refine T_open fun pm hM=>?_
 have hM0:=hM
 obtain⟨Am,cm,csm,rfl,-⟩:=hM.tab
 rw [List.length_map] at hM0 ⊢
 repeat' (first|refine d1 ?_|refine dd ?_|(show ∀ _:Nat,T _ _ _ _ _;intro _))
 refine T_if rfl (fun h=>by exfalso;simp at h) (fun _=>?_)
 rw [hn]
 repeat' (first|refine d1 ?_|refine dd ?_|(show T _ (.ops _ (_::_)::_) _ _ _;first|refine T_val rfl (Val.loadA rfl (fun _=>rdAll) rfl) rfl rfl rfl ?_|refine T_valC rfl (Val.loadA rfl (fun _=>rdAll) rfl) rfl rfl rfl rfl rfl ?_|refine T_call rfl rfl rfl rfl rfl (fun w hw=>check20_spec c A n ca (.slice Am (mvL n).length cm) (volL (lens l)) l Ap np cp p w (hg.cls hw) hc hbs (by omega) (by omega) hv rfl (hM0.own hw) (rdSrc hp w hw) hnp hpb) ?_|refine T_callC rfl rfl rfl rfl rfl rfl rfl (fun hg w hw=>check20_spec c A n ca (.slice Am (mvL n).length cm) (volL (lens l)) l Ap np cp p w (hg.cls hw) hc hbs (by omega) (by omega) hv rfl (hM0.own hw) (rdSrc hp w hw) hnp hpb) ?_)|(show T _ (.run _ _ (_::_) _ _::_) _ _ _;first|refine rv rfl rfl rfl (Val.loadA rfl (fun _=>rdAll) rfl) rfl rfl rfl ?_|refine rg rfl rfl rfl (Val.loadA rfl (fun _=>rdAll) rfl) rfl rfl rfl rfl rfl ?_|refine rc rfl rfl rfl rfl rfl rfl rfl (fun w hw=>check20_spec c A n ca (.slice Am (mvL n).length cm) (volL (lens l)) l Ap np cp p w (hg.cls hw) hc hbs (by omega) (by omega) hv rfl (hM0.own hw) (rdSrc hp w hw) hnp hpb) ?_|refine rcG rfl rfl rfl rfl rfl rfl rfl rfl rfl (fun hg w hw=>check20_spec c A n ca (.slice Am (mvL n).length cm) (volL (lens l)) l Ap np cp p w (hg.cls hw) hc hbs (by omega) (by omega) hv rfl (hM0.own hw) (rdSrc hp w hw) hnp hpb) ?_)|(show ∀ _:Nat,T _ _ _ _ _;intro _)|(show T _ (.code .ret::_) _ _ _;refine T_retV [] rfl (Hle.none _) ⟨rfl,rfl⟩))
noncomputable def slkV (c:Costs) (l:List TS) (cols:List (List Int)) (p:List Int):Int × Int :=
 if opE c l≠0 then (0,opE c l) else if chkC l cols≠0 then (0,19) else if feaE (colZ c l) (lens l) (mvL l.length) p≠0 then (0,feaE (colZ c l) (lens l) (mvL l.length) p) else (totZ c l cols - pg p 0,0)
theorem slack20_spec (c:Costs) (A:Option Addr) (n ca:Nat) (l:List TS) (x:Value) (cols:List (List Int)) (Ap:Option Addr) (np cp:Nat) (p:List Int) (w:World) (hf:Fit w A n l) (hx:Rd (wr w) [x] [rowsD cols]) (hcl:cols.length≤1000) (hp:Src w 1 Ap np (p.map (Value.int .i64))) (hnp:p.length=np) (hpb:np≤1000) :
  Spec Tryz.prog 24 [c.val, .slice A n ca,x, .slice Ap np cp] w (fun v R=>v = .tuple #[.int .i64 (slkV c l cols p).1, .int .i64 (slkV c l cols p).2]∧R=[]):=by
 have hn:=hf.hn
 refine spec_of sg Tryz.func24 rfl rfl rfl ?_
 refine T_op (OpT.box (cs:=c.cells) rfl rfl rfl rfl rfl rfl rfl (fun pc=>?_))
 by_cases hop:opE c l≠0
 ·have e:slkV c l cols p=(0,opE c l):=if_pos hop
  rw [e]
  repeat' (first|refine d1 ?_|refine dd ?_|(show T _ (.ops _ (_::_)::_) _ _ _;refine T_op (OpT.call rfl rfl rfl rfl rfl (fun w hw=>openBad_spec c A n ca l w (hf.cls hw) hop) ?_))|(show ∀ _:Nat,T _ _ _ _ _;intro _))
  rintro v R ⟨c',-,rfl,rfl⟩
  repeat' (first|refine d1 ?_|refine dd ?_|(show ∀ _:Nat,T _ _ _ _ _;intro _))
  refine T_if rfl (fun _=>?_) (fun h=>by exfalso;simp at h;exact hop h)
  repeat' (first|refine d1 ?_|refine dd ?_|(show ∀ _:Nat,T _ _ _ _ _;intro _)|(show T _ (.code .ret::_) _ _ _;refine T_retV [] rfl (Hle.none _) ⟨rfl,rfl⟩))
 have hop:opE c l=0:=by simpa using hop
 obtain⟨hpl,hck⟩:=opE_ok hop
 obtain⟨h1,hb,h4,hv⟩:=plE_ok hpl
 obtain⟨hc,hbs⟩:=ck21_ok hck
 have hg:=hf.grp hb
 repeat' (first|refine d1 ?_|refine dd ?_|(show T _ (.ops _ (_::_)::_) _ _ _;refine T_op (OpT.call rfl rfl rfl rfl rfl (fun w hw=>openOk_spec c A n ca l w (hf.cls hw) hop) ?_))|(show ∀ _:Nat,T _ _ _ _ _;intro _))
 rintro v R ⟨M,-,rfl,rfl⟩
 refine T_le (H':=dat [M] [rowsD ((mvL n).map intN)]::blk pc c.cells 23::[]) (Hle.refl _) ?_
 refine T_open fun pm hM=>?_
 have hM0:=hM
 obtain⟨Am,cm,csm,rfl,-⟩:=hM.tab
 rw [List.length_map] at hM0 ⊢
 repeat' (first|refine d1 ?_|refine dd ?_|(show ∀ _:Nat,T _ _ _ _ _;intro _))
 refine T_if rfl (fun h=>by exfalso;simp at h) (fun _=>?_)
 repeat' (first|refine d1 ?_|refine dd ?_|(show T _ (.ops _ (_::_)::_) _ _ _;first|refine T_call rfl rfl rfl rfl rfl (fun w hw=>check19_spec A n ca l x cols w (hg.cls hw) (hx.old hw)) ?_|refine T_callC rfl rfl rfl rfl rfl rfl rfl (fun hg w hw=>check19_spec A n ca l x cols w (hg.cls hw) (hx.old hw)) ?_)|(show T _ (.run _ _ (_::_) _ _::_) _ _ _;first|refine rc rfl rfl rfl rfl rfl rfl rfl (fun w hw=>check19_spec A n ca l x cols w (hg.cls hw) (hx.old hw)) ?_|refine rcG rfl rfl rfl rfl rfl rfl rfl rfl rfl (fun hg w hw=>check19_spec A n ca l x cols w (hg.cls hw) (hx.old hw)) ?_)|(show ∀ _:Nat,T _ _ _ _ _;intro _))
 refine T_if rfl (fun h=>?_) (fun h=>?_)
 ·have e:slkV c l cols p=(0,19):=by unfold slkV;rw [if_neg (by simpa using hop),if_pos (by simpa using h)]
  rw [e]
  repeat' (first|refine d1 ?_|refine dd ?_|(show ∀ _:Nat,T _ _ _ _ _;intro _)|(show T _ (.code .ret::_) _ _ _;refine T_retV [] rfl (Hle.none _) ⟨rfl,rfl⟩))
 have hal:chkC l cols=0:=by simpa using h
 clear h
 repeat' (first|refine d1 ?_|refine dd ?_|(show T _ (.ops _ (_::_)::_) _ _ _;first|refine T_val rfl (Val.loadA rfl (fun _=>rdAll) rfl) rfl rfl rfl ?_|refine T_valC rfl (Val.loadA rfl (fun _=>rdAll) rfl) rfl rfl rfl rfl rfl ?_|refine T_call rfl rfl rfl rfl rfl (fun w hw=>check20_spec c A n ca (.slice Am (mvL n).length cm) (volL (lens l)) l Ap np cp p w (hg.cls hw) hc hbs (by omega) (by omega) hv rfl (hM0.own hw) (rdSrc hp w hw) hnp hpb) ?_|refine T_callC rfl rfl rfl rfl rfl rfl rfl (fun hg w hw=>check20_spec c A n ca (.slice Am (mvL n).length cm) (volL (lens l)) l Ap np cp p w (hg.cls hw) hc hbs (by omega) (by omega) hv rfl (hM0.own hw) (rdSrc hp w hw) hnp hpb) ?_)|(show T _ (.run _ _ (_::_) _ _::_) _ _ _;first|refine rv rfl rfl rfl (Val.loadA rfl (fun _=>rdAll) rfl) rfl rfl rfl ?_|refine rg rfl rfl rfl (Val.loadA rfl (fun _=>rdAll) rfl) rfl rfl rfl rfl rfl ?_|refine rc rfl rfl rfl rfl rfl rfl rfl (fun w hw=>check20_spec c A n ca (.slice Am (mvL n).length cm) (volL (lens l)) l Ap np cp p w (hg.cls hw) hc hbs (by omega) (by omega) hv rfl (hM0.own hw) (rdSrc hp w hw) hnp hpb) ?_|refine rcG rfl rfl rfl rfl rfl rfl rfl rfl rfl (fun hg w hw=>check20_spec c A n ca (.slice Am (mvL n).length cm) (volL (lens l)) l Ap np cp p w (hg.cls hw) hc hbs (by omega) (by omega) hv rfl (hM0.own hw) (rdSrc hp w hw) hnp hpb) ?_)|(show ∀ _:Nat,T _ _ _ _ _;intro _))
 refine T_if rfl (fun h=>?_) (fun h=>?_)
 ·have e:slkV c l cols p=(0,feaE (colZ c l) (lens l) (mvL n) p):=by unfold slkV;rw [if_neg (by simpa using hop),if_neg (by simpa using hal),hn,if_pos (by simpa using h)]
  rw [e]
  repeat' (first|refine d1 ?_|refine dd ?_|(show ∀ _:Nat,T _ _ _ _ _;intro _)|(show T _ (.code .ret::_) _ _ _;refine T_retV [] rfl (Hle.none _) ⟨rfl,rfl⟩))
 have hfe:feaE (colZ c l) (lens l) (mvL n) p=0:=by simpa using h
 clear h
 have e:slkV c l cols p=(totZ c l cols - pg p 0,0):=by unfold slkV;rw [if_neg (by simpa using hop),if_neg (by simpa using hal),hn,if_neg (by simpa using hfe)]
 rw [e]
 have hus:usV c l=0:=by unfold usV;rw [if_neg (by omega),hck]
 have hok:okC l cols=true:=by
  refine Classical.byContradiction fun h9=>?_
  rw [chkC_okC (by omega),if_neg h9] at hal
  omega
 have hcw:costW c l cols=(totZ c l cols,0):=by unfold costW;rw [if_neg (by simpa using hus),if_pos hok]
 obtain⟨f1,f2,f3,f4⟩:=feaE_ok.1 hfe
 have hVp:=volL_pos (lens l)
 obtain⟨b,o,rfl⟩:=hp.base (by omega)
 have hp0:RdC w b (o+(0:Int).toNat * 1) [.int .i64 (pg p 0)]:=src_int hp (k:=0) (by omega) (by unfold pg;rw [List.getD_eq_getElem?_getD,List.getElem?_eq_getElem (by omega)];rfl)
 have hpz:=f3 (pg p 0) (by unfold pg;rw [List.getD_eq_getElem?_getD,List.getElem?_eq_getElem (by omega)];exact List.getElem_mem _)
 have htz:=totZ_bd hc (l:=l) (by omega) cols
 repeat' (first|refine d1 ?_|refine dd ?_|(show T _ (.ops _ (_::_)::_) _ _ _;first|refine T_call rfl rfl rfl rfl rfl (fun w hw=>costSum19_spec c A n ca l x cols w (hg.cls hw) (hx.old hw) hcl) ?_|refine T_callC rfl rfl rfl rfl rfl rfl rfl (fun hg w hw=>costSum19_spec c A n ca l x cols w (hg.cls hw) (hx.old hw) hcl) ?_)|(show T _ (.run _ _ (_::_) _ _::_) _ _ _;first|refine rc rfl rfl rfl rfl rfl rfl rfl (fun w hw=>costSum19_spec c A n ca l x cols w (hg.cls hw) (hx.old hw) hcl) ?_|refine rcG rfl rfl rfl rfl rfl rfl rfl rfl rfl (fun hg w hw=>costSum19_spec c A n ca l x cols w (hg.cls hw) (hx.old hw) hcl) ?_)|(show ∀ _:Nat,T _ _ _ _ _;intro _))
 rw [hcw]
 repeat' (first|refine d1 ?_|refine dd ?_|(show ∀ _:Nat,T _ _ _ _ _;intro _))
 refine T_if rfl (fun h=>by exfalso;simp at h) (fun _=>?_)
 repeat' (first|refine d1 ?_|refine dd ?_|(show T _ (.ops _ (_::_)::_) _ _ _;first|refine T_val rfl (Val.load rfl (fun hg=>rdOld hp0)) rfl rfl rfl ?_|refine T_valC rfl (Val.load rfl (fun hg=>rdOld hp0)) rfl rfl rfl rfl rfl ?_)|(show T _ (.run _ _ (_::_) _ _::_) _ _ _;first|refine rv rfl rfl rfl (Val.load rfl (fun hg=>rdOld hp0)) rfl rfl rfl ?_|refine rg rfl rfl rfl (Val.load rfl (fun hg=>rdOld hp0)) rfl rfl rfl rfl rfl ?_)|(show ∀ _:Nat,T _ _ _ _ _;intro _)|(show T _ (.code .ret::_) _ _ _;refine T_retV [] rfl (Hle.none _) ⟨rfl,rfl⟩))
noncomputable def verV20 (c:Costs) (l:List TS) (cols:List (List Int)) (p:List Int):Int:=if (slkV c l cols p).2≠0 then (slkV c l cols p).2 else if (slkV c l cols p).1≠0 then 18 else 0
theorem verify20_spec (c:Costs) (A:Option Addr) (n ca:Nat) (l:List TS) (x:Value) (cols:List (List Int)) (Ap:Option Addr) (np cp:Nat) (p:List Int) (w:World) (hf:Fit w A n l) (hx:Rd (wr w) [x] [rowsD cols]) (hcl:cols.length≤1000) (hp:Src w 1 Ap np (p.map (Value.int .i64))) (hnp:p.length=np) (hpb:np≤1000) :
  Spec Tryz.prog 30 [c.val, .slice A n ca,x, .slice Ap np cp] w (fun v R=>v = .int .i64 (verV20 c l cols p)∧R=[]):=by
 refine spec_of sg Tryz.func30 rfl rfl rfl ?_
 refine T_op (OpT.box (cs:=c.cells) rfl rfl rfl rfl rfl rfl rfl (fun pc=>?_))
 repeat' (first|refine d1 ?_|refine dd ?_|(show T _ (.ops _ (_::_)::_) _ _ _;first|refine T_call rfl rfl rfl rfl rfl (fun w hw=>slack20_spec c A n ca l x cols Ap np cp p w (hf.cls hw) (hx.old hw) hcl (rdSrc hp w hw) hnp hpb) ?_|refine T_callC rfl rfl rfl rfl rfl rfl rfl (fun hg w hw=>slack20_spec c A n ca l x cols Ap np cp p w (hf.cls hw) (hx.old hw) hcl (rdSrc hp w hw) hnp hpb) ?_)|(show T _ (.run _ _ (_::_) _ _::_) _ _ _;first|refine rc rfl rfl rfl rfl rfl rfl rfl (fun w hw=>slack20_spec c A n ca l x cols Ap np cp p w (hf.cls hw) (hx.old hw) hcl (rdSrc hp w hw) hnp hpb) ?_|refine rcG rfl rfl rfl rfl rfl rfl rfl rfl rfl (fun hg w hw=>slack20_spec c A n ca l x cols Ap np cp p w (hf.cls hw) (hx.old hw) hcl (rdSrc hp w hw) hnp hpb) ?_)|(show ∀ _:Nat,T _ _ _ _ _;intro _))
 refine T_if rfl (fun h=>?_) (fun h=>?_)
 ·have e:verV20 c l cols p=(slkV c l cols p).2:=if_pos (by simpa using h)
  rw [e]
  repeat' (first|refine d1 ?_|refine dd ?_|(show ∀ _:Nat,T _ _ _ _ _;intro _)|(show T _ (.code .ret::_) _ _ _;refine T_retV [] rfl (Hle.none _) ⟨rfl,rfl⟩))
 ·have h0:(slkV c l cols p).2=0:=by simpa using h
  repeat' (first|refine d1 ?_|refine dd ?_|(show ∀ _:Nat,T _ _ _ _ _;intro _))
  refine T_if rfl (fun h=>?_) (fun h=>?_)
  ·have e:verV20 c l cols p=18:=by unfold verV20;rw [if_neg (by simpa using h0),if_pos (by simpa using h)]
   rw [e]
   repeat' (first|refine d1 ?_|refine dd ?_|(show ∀ _:Nat,T _ _ _ _ _;intro _)|(show T _ (.code .ret::_) _ _ _;refine T_retV [] rfl (Hle.none _) ⟨rfl,rfl⟩))
  ·have e:verV20 c l cols p=0:=by unfold verV20;rw [if_neg (by simpa using h0),if_neg (by simpa using h)]
   rw [e]
   repeat' (first|refine d1 ?_|refine dd ?_|(show ∀ _:Nat,T _ _ _ _ _;intro _)|(show T _ (.code .ret::_) _ _ _;refine T_retV [] rfl (Hle.none _) ⟨rfl,rfl⟩))
def rngB (l:List TS) (v:List Int) (i:Nat):Bool:=decide (v.getD i 0<0) || decide (((lens l).getD i 0:Nat)<v.getD i 0)
noncomputable def plcV (l:List TS) (v:List Int):Int × Int:=if plE l≠0 then (0,plE l) else if v.length≠l.length then (0,9) else if (List.range l.length).any (rngB l v)=true then (0,2) else ((numL (lens l) (v.map Int.toNat):Nat),0)
theorem rng_in {l:List TS} {v:List Int} (hl:v.length=l.length) (h:∀ i,i<l.length→rngB l v i=false):InB (lens l) (v.map Int.toNat)∧∀ i,i<l.length→v.getD i 0=(((v.map Int.toNat).getD i 0:Nat):Int):=by
 have hg:∀ i,i<l.length→(v.map Int.toNat).getD i 0=(v.getD i 0).toNat:=fun i hi=>by
  rw [List.getD_eq_getElem?_getD,List.getElem?_map,List.getElem?_eq_getElem (by omega),List.getD_eq_getElem?_getD,List.getElem?_eq_getElem (by omega)];rfl
 have hb:∀ i,i<l.length→0≤v.getD i 0∧v.getD i 0≤((lens l).getD i 0:Nat):=fun i hi=>by
  have:=h i hi
  unfold rngB at this
  rw [Bool.or_eq_false_iff,decide_eq_false_iff_not,decide_eq_false_iff_not] at this
  omega
 refine ⟨InB.of (by rw [List.length_map,hl,lens_len]) fun s=>?_,fun i hi=>?_⟩
 ·by_cases hs:s<l.length
  ·rw [hg s hs]
   have:=hb s hs
   omega
  ·rw [List.getD_eq_getElem?_getD,List.getElem?_eq_none (by rw [List.length_map];omega)]
   simp
 ·rw [hg i hi]
  have:=hb i hi
  omega
theorem place20_spec (A:Option Addr) (n ca:Nat) (l:List TS) (At:Option Addr) (nt ct:Nat) (v:List Int) (w:World) (hf:Fit w A n l) (hs:Src w 1 At nt (v.map (Value.int .i64))) (hnt:v.length=nt) (hb9:nt≤1000) :
  Spec Tryz.prog 20 [.slice A n ca, .slice At nt ct] w (fun u R=>u = .tuple #[.int .i64 (plcV l v).1, .int .i64 (plcV l v).2]∧R=[]):=by
 have hn:=hf.hn
 refine spec_of sg Tryz.func20 rfl rfl rfl ?_
 by_cases hop:plE l≠0
 ·have e:plcV l v=(0,plE l):=if_pos hop
  rw [e]
  repeat' (first|refine d1 ?_|refine dd ?_|(show T _ (.ops _ (_::_)::_) _ _ _;first|refine T_call rfl rfl rfl rfl rfl (fun w hw=>placesBad_spec A n ca l w (hf.cls hw) hop) ?_|refine T_callC rfl rfl rfl rfl rfl rfl rfl (fun hg w hw=>placesBad_spec A n ca l w (hf.cls hw) hop) ?_)|(show T _ (.run _ _ (_::_) _ _::_) _ _ _;first|refine rc rfl rfl rfl rfl rfl rfl rfl (fun w hw=>placesBad_spec A n ca l w (hf.cls hw) hop) ?_|refine rcG rfl rfl rfl rfl rfl rfl rfl rfl rfl (fun hg w hw=>placesBad_spec A n ca l w (hf.cls hw) hop) ?_)|(show ∀ _:Nat,T _ _ _ _ _;intro _))
  refine T_if rfl (fun _=>?_) (fun h=>by exfalso;simp at h;exact hop h)
  repeat' (first|refine d1 ?_|refine dd ?_|(show ∀ _:Nat,T _ _ _ _ _;intro _)|(show T _ (.code .ret::_) _ _ _;refine T_retV [] rfl (Hle.none _) ⟨rfl,rfl⟩))
 have hpl:plE l=0:=by simpa using hop
 obtain⟨h1,hb,h4,hv⟩:=plE_ok hpl
 have hg:=hf.grp hb
 have hll:=lens_len l
 repeat' (first|refine d1 ?_|refine dd ?_|(show T _ (.ops _ (_::_)::_) _ _ _;refine T_op (OpT.call rfl rfl rfl rfl rfl (fun w hw=>placesOk_spec A n ca l w (hf.cls hw) hpl) ?_))|(show ∀ _:Nat,T _ _ _ _ _;intro _))
 rintro u R ⟨M,-,rfl,rfl⟩
 refine T_le (H':=dat [M] [rowsD ((mvL n).map intN)]::[]) (Hle.refl _) ?_
 refine T_open fun pm hM=>?_
 obtain⟨Am,cm,csm,rfl,-⟩:=hM.tab
 rw [List.length_map]
 repeat' (first|refine d1 ?_|refine dd ?_|(show ∀ _:Nat,T _ _ _ _ _;intro _))
 rename_i p6
 refine T_if rfl (fun h=>by exfalso;simp at h) (fun _=>?_)
 repeat' (first|refine d1 ?_|refine dd ?_|(show ∀ _:Nat,T _ _ _ _ _;intro _))
 refine T_if rfl (fun h=>?_) (fun h=>?_)
 ·have e:plcV l v=(0,9):=by unfold plcV;rw [if_neg (by simpa using hpl),if_pos (by simp at h;omega)]
  rw [e]
  repeat' (first|refine d1 ?_|refine dd ?_|(show ∀ _:Nat,T _ _ _ _ _;intro _)|(show T _ (.code .ret::_) _ _ _;refine T_retV [] rfl (Hle.none _) ⟨rfl,rfl⟩))
 have hlen:v.length=l.length:=by simp at h;omega
 clear h
 obtain rfl:nt=n:=by omega
 repeat' (first|refine d1 ?_|refine dd ?_|(show ∀ _:Nat,T _ _ _ _ _;intro _))
 rename_i p8
 refine T_loopX (fun k:Nat=>[(28, .int .i64 (k:Nat))]) (fun k=>[blk p8 (atJ (v.map Int.toNat) k) 99,blk p6 (spcL c0 A nt ca (.slice Am (mvL nt).length cm) (volL (lens l))) 84]) (fun k=>k≤nt∧∀ i,i<k→rngB l v i=false) (fun k=>nt - k) 0 ⟨Nat.zero_le _,fun i h=>absurd h (Nat.not_lt_zero i)⟩ ?_ (hG:=Hle.srt)
 rintro k ⟨hk,hok⟩
 repeat' (first|refine d1 ?_|refine dd ?_|(show ∀ _:Nat,T _ _ _ _ _;intro _))
 refine T_if rfl (fun h=>?_) (fun h=>?_)
 ·simp only [decide_eq_true_eq] at h
  have hkn:k<nt:=by omega
  obtain⟨b,o,rfl⟩:=hg.hs.base (by omega)
  obtain⟨ba,oa,rfl⟩:=hs.base (by omega)
  obtain⟨t,ht,htm,hrt⟩:=hg.get (k:=k) hkn
  obtain⟨z,hz⟩:∃ z,v[k]?=some z:=⟨_,List.getElem?_eq_getElem (by omega)⟩
  have hra:=src_int hs hkn hz
  have hgz:v.getD k 0=z:=by rw [List.getD_eq_getElem?_getD,hz];rfl
  have hgl:(lens l).getD k 0=t.n:=by rw [List.getD_eq_getElem?_getD,lens_get ht];rfl
  have hrb:rngB l v k=(decide (z<0) || decide ((t.n:Int)<z)):=by unfold rngB;rw [hgz,hgl]
  repeat' (first|refine d1 ?_|refine dd ?_|(show ∀ _:Nat,T _ _ _ _ _;intro _))
  refine T_if rfl (fun h2=>?_) (fun h2=>?_)
  ·have e:plcV l v=(0,2):=by
    unfold plcV
    rw [if_neg (by simpa using hpl),if_neg (by simpa using hlen),if_pos (List.any_eq_true.2 ⟨k,List.mem_range.2 (by omega),by rw [hrb];exact h2⟩)]
   rw [e]
   repeat' (first|refine d1 ?_|refine dd ?_|(show ∀ _:Nat,T _ _ _ _ _;intro _)|(show T _ (.code .ret::_) _ _ _;refine T_retV [] rfl (Hle.none _) ⟨rfl,rfl⟩))
  ·have hjl:(atJ (v.map Int.toNat) k).length=4:=rfl
   have hzn:0≤z:=by simp at h2;omega
   have hset:(atJ (v.map Int.toNat) k).set (0+(k:Int).toNat * 1) (.int .i64 z)=atJ (v.map Int.toNat) (k+1):=by
    have hgv:((v.map Int.toNat).getD k 0:Nat)=z.toNat:=by rw [List.getD_eq_getElem?_getD,List.getElem?_map,hz];rfl
    have hzz:z=(((v.map Int.toNat).getD k 0:Nat):Int):=by rw [hgv];omega
    rw [hzz,show 0+(k:Int).toNat * 1=k by omega]
    obtain rfl|rfl|rfl|rfl:k=0∨k=1∨k=2∨k=3:=by omega
    all_goals simp [atJ]
   repeat' (first|refine d1 ?_|refine dd ?_|(show T _ (.ops _ (_::_)::_) _ _ _;first|refine T_val rfl (Val.nilc rfl) rfl rfl rfl ?_|refine T_valC rfl (Val.nilc rfl) rfl rfl rfl rfl rfl ?_|refine T_op (OpT.store rfl rfl rfl rfl (by rw [hjl];omega) ?_))|(show T _ (.run _ _ (_::_) _ _::_) _ _ _;first|refine rv rfl rfl rfl (Val.nilc rfl) rfl rfl rfl ?_|refine rg rfl rfl rfl (Val.nilc rfl) rfl rfl rfl rfl rfl ?_)|(show ∀ _:Nat,T _ _ _ _ _;intro _))
   refine T_backX (k+1) ⟨by omega,fun i hi=>?_⟩ (by omega) (hG:=by rw [hset];exact Hle.refl _)
   by_cases e:i=k
   ·rw [e,hrb];exact h2
   ·exact hok i (by omega)
 ·simp only [decide_eq_false_iff_not] at h
  obtain rfl:k=nt:=by omega
  obtain⟨hin,-⟩:=rng_in hlen (fun i hi=>hok i (by omega))
  rw [atJ_all (by rw [List.length_map];omega) (by omega)]
  have e:plcV l v=(((numL (lens l) (v.map Int.toNat):Nat):Int),0):=by
   unfold plcV
   rw [if_neg (by simpa using hpl),if_neg (by simpa using hlen),if_neg]
   rw [Bool.not_eq_true,List.any_eq_false]
   intro i hi
   rw [hok i (by have:=List.mem_range.1 hi;omega)]
   simp
  rw [e]
  repeat' (first|refine d1 ?_|refine dd ?_|(show T _ (.ops _ (_::_)::_) _ _ _;first|refine T_val rfl (Val.loadA rfl (fun _=>rdAll) rfl) rfl rfl rfl ?_|refine T_valC rfl (Val.loadA rfl (fun _=>rdAll) rfl) rfl rfl rfl rfl rfl ?_|refine T_call rfl rfl rfl rfl rfl (fun w hw=>number20_spec c0 A k ca (.slice Am (mvL k).length cm) (volL (lens l)) l (v.map Int.toNat) w (hg.cls hw) (by omega) hin (by omega)) ?_|refine T_callC rfl rfl rfl rfl rfl rfl rfl (fun hg w hw=>number20_spec c0 A k ca (.slice Am (mvL k).length cm) (volL (lens l)) l (v.map Int.toNat) w (hg.cls hw) (by omega) hin (by omega)) ?_)|(show T _ (.run _ _ (_::_) _ _::_) _ _ _;first|refine rv rfl rfl rfl (Val.loadA rfl (fun _=>rdAll) rfl) rfl rfl rfl ?_|refine rg rfl rfl rfl (Val.loadA rfl (fun _=>rdAll) rfl) rfl rfl rfl rfl rfl ?_|refine rc rfl rfl rfl rfl rfl rfl rfl (fun w hw=>number20_spec c0 A k ca (.slice Am (mvL k).length cm) (volL (lens l)) l (v.map Int.toNat) w (hg.cls hw) (by omega) hin (by omega)) ?_|refine rcG rfl rfl rfl rfl rfl rfl rfl rfl rfl (fun hg w hw=>number20_spec c0 A k ca (.slice Am (mvL k).length cm) (volL (lens l)) l (v.map Int.toNat) w (hg.cls hw) (by omega) hin (by omega)) ?_)|(show ∀ _:Nat,T _ _ _ _ _;intro _)|(show T _ (.code .ret::_) _ _ _;refine T_retV [] rfl (Hle.none _) ⟨rfl,rfl⟩))
end Go.Proofs.YthadgaboakipoaaGreatDoor
namespace Go.Proofs.YthadgaboakipoaaGreatDoor
open Go.RowKit Go.Shelf Go.Proofs
set_option maxRecDepth 100000
set_option maxHeartbeats 1000000

noncomputable def prsW (c:Costs) (l:List TS):List Int × Int:=if opE c l≠0 then ([],opE c l) else (prsL c l,0)
def prsP (c:Costs) (l:List TS) (k i q:Nat):Int:=psum (prV c l (atL (lens l) q)) (pairsL k)+psum (prV c l (atL (lens l) q)) (rowP i k)
theorem prsP_zero (c:Costs) (l:List TS) (k q:Nat):prsP c l k 0 q=psum (prV c l (atL (lens l) q)) (pairsL k):=by
 unfold prsP
 rw [show rowP 0 k=[] from rfl,show psum (prV c l (atL (lens l) q)) []=0 from rfl,Int.add_zero]
theorem prsP_succ (c:Costs) (l:List TS) (k i q:Nat):prsP c l k (i+1) q=prsP c l k i q+prV c l (atL (lens l) q) i k:=by
 unfold prsP
 rw [rowP_succ,psum_snoc]
 dsimp only
 omega
theorem prsP_row (c:Costs) (l:List TS) (k q:Nat):prsP c l (k+1) 0 q=prsP c l k k q:=by
 rw [prsP_zero,pairsL_succ,psum_append];rfl
theorem prsP_all (c:Costs) (l:List TS) (q:Nat):prsP c l l.length 0 q=prsV c l (atL (lens l) q):=prsP_zero c l l.length q
theorem prsP_bd {c:Costs} (hc:costE c=0) {l:List TS} (hb:∀ t∈l,t.l.length≤1000) (q:Nat):∀ (k i:Nat),k≤4→i≤k→0≤prsP c l k i q∧prsP c l k i q≤40000000:=by
 have h:=prV_bd hc hb (atL (lens l) q)
 intro k i hk hi
 have h1:=psum_bd (f:=prV c l (atL (lens l) q)) (M:=2000000) (by omega) (pairsL k) (fun p _=>h p.1 p.2)
 have h2:=psum_bd (f:=prV c l (atL (lens l) q)) (M:=2000000) (by omega) (rowP i k) (fun p _=>h p.1 p.2)
 rw [rowP_length] at h2
 have h3:(pairsL k).length≤6:=by
  obtain rfl|rfl|rfl|rfl|rfl:k=0∨k=1∨k=2∨k=3∨k=4:=by omega
  all_goals decide
 unfold prsP
 omega
theorem prsL_val {c:Costs} {l:List TS}:valV (prsP c l l.length 0) (volL (lens l))=(prsL c l).map (Value.int .i64):=by
 unfold valV prsL
 rw [List.map_map]
 exact List.map_congr_left fun q _=>by rw [prsP_all];rfl
theorem ck18 {c:Costs} {l:List TS} (hc:costE c=0) (hbs:badS l=false) {s t:TS} (hs:s∈l) (ht:t∈l):ckV c s.l t.l=0:=by
 unfold badS at hbs
 rw [List.any_eq_false] at hbs
 have h1:=hbs s hs
 have h2:=hbs t ht
 rw [Bool.not_eq_true] at h1 h2
 unfold ckV
 simp [hc,h1,h2]
theorem pairs20_spec (c:Costs) (A:Option Addr) (n ca:Nat) (l:List TS) (w:World) (hf:Fit w A n l) :
  Spec Tryz.prog 18 [c.val, .slice A n ca] w (fun v R=>∃ x:Value,True∧v = .tuple #[x, .int .i64 (prsW c l).2]∧R=[dat [x] [intsD (prsW c l).1]]):=by
 have hn:=hf.hn
 refine spec_of sg Tryz.func18 rfl rfl rfl ?_
 refine T_op (OpT.box (cs:=c.cells) rfl rfl rfl rfl rfl rfl rfl (fun pc=>?_))
 by_cases hop:opE c l≠0
 ·have e:prsW c l=([],opE c l):=if_pos hop
  rw [e]
  repeat' (first|refine d1 ?_|refine dd ?_|(show T _ (.ops _ (_::_)::_) _ _ _;refine T_op (OpT.call rfl rfl rfl rfl rfl (fun w hw=>openBad_spec c A n ca l w (hf.cls hw) hop) ?_))|(show ∀ _:Nat,T _ _ _ _ _;intro _))
  rintro v R ⟨c',-,rfl,rfl⟩
  repeat' (first|refine d1 ?_|refine dd ?_|(show ∀ _:Nat,T _ _ _ _ _;intro _))
  refine T_if rfl (fun _=>?_) (fun h=>by exfalso;simp at h;exact hop h)
  repeat' (first|refine d1 ?_|refine dd ?_|(show ∀ _:Nat,T _ _ _ _ _;intro _)|(show T _ (.code .ret::_) _ _ _;refine T_retV _ rfl ((hle_unit (B:=dat [.slice none 0 0] [intsD []]) (.s none 0 0 1 [] rfl (Nat.le_refl _) (by omega) (fun h=>absurd h (by omega)) .nil .nil)).trans (Hle.nth 0 rfl)) ⟨_,trivial,rfl,rfl⟩))
 have hop:opE c l=0:=by simpa using hop
 have e:prsW c l=(prsL c l,0):=if_neg (by simpa using hop)
 rw [e]
 obtain⟨hpl,hck⟩:=opE_ok hop
 obtain⟨h1,hb,h4,hv⟩:=plE_ok hpl
 obtain⟨hc,hbs⟩:=ck21_ok hck
 have hg:=hf.grp hb
 have hll:=lens_len l
 repeat' (first|refine d1 ?_|refine dd ?_|(show T _ (.ops _ (_::_)::_) _ _ _;refine T_op (OpT.call rfl rfl rfl rfl rfl (fun w hw=>openOk_spec c A n ca l w (hf.cls hw) hop) ?_))|(show ∀ _:Nat,T _ _ _ _ _;intro _))
 rintro v R ⟨M,-,rfl,rfl⟩
 refine T_le (H':=dat [M] [rowsD ((mvL n).map intN)]::blk pc c.cells 23::[]) (Hle.refl _) ?_
 refine T_open fun pm hM=>?_
 obtain⟨Am,cm,csm,rfl,-⟩:=hM.tab
 rw [List.length_map]
 obtain⟨V,hV⟩:∃ V,V=volL (lens l):=⟨_,rfl⟩
 have hVp:0<V:=by rw [hV];exact volL_pos _
 have hval:=prsL_val (c:=c) (l:=l)
 rw [← hV] at hv hval ⊢
 repeat' (first|refine d1 ?_|refine dd ?_|(show ∀ _:Nat,T _ _ _ _ _;intro _))
 rename_i p6
 refine T_if rfl (fun h=>by exfalso;simp at h) (fun _=>?_)
 repeat' (first|refine d1 ?_|refine dd ?_|(show T _ (.ops _ (_::_)::_) _ _ _;refine T_op (OpT.make rfl rfl rfl rfl rfl rfl rfl rfl rfl (by dsimp only;omega) (fun b1=>?_)))|(show ∀ _:Nat,T _ _ _ _ _;intro _))
 have hz0:List.replicate V (Value.int .i64 0)=valV (prsP c l 0 0) V:=by
  rw [valV_replicate];exact valV_ext fun q _=>by rw [prsP_zero];rfl
 refine T_keep [(1, .slice A n ca),(2, .pointer (some ⟨pc,0,none⟩)),(6, .pointer (some ⟨p6,0,none⟩)),(8, .slice (some ⟨b1,0,none⟩) V V),(28, .int .i64 (n:Nat)),(29, .int .i64 ((0:Nat):Int))] ⟨rfl,rfl,rfl,rfl,rfl,rfl,trivial⟩ ?_
 have hnb:∀ t∈l,t.l.length≤1000:=hg.len
 refine T_loopX (fun k:Nat=>[(29, .int .i64 (k:Nat))]) (fun k=>[blk b1 (valV (prsP c l k 0) V) 3,blk p6 (spcL c A n ca (.slice Am (mvL n).length cm) V) 84,blk pc c.cells 23]) (fun k=>k≤n) (fun k=>n - k) 0 (Nat.zero_le _) ?_ (hG:=by rw [← hz0];exact Hle.srt)
 intro k hk
 repeat' (first|refine d1 ?_|refine dd ?_|(show ∀ _:Nat,T _ _ _ _ _;intro _))
 refine T_if rfl (fun h=>?_) (fun h=>?_)
 ·simp only [decide_eq_true_eq] at h
  have hkn:k<n:=by omega
  repeat' (first|refine d1 ?_|refine dd ?_|(show ∀ _:Nat,T _ _ _ _ _;intro _))
  refine T_loopX (fun i:Nat=>[(33, .int .i64 (i:Nat))]) (fun i=>[blk b1 (valV (prsP c l k i) V) 3,blk p6 (spcL c A n ca (.slice Am (mvL n).length cm) V) 84,blk pc c.cells 23]) (fun i=>i≤k) (fun i=>k - i) 0 (Nat.zero_le _) ?_
  intro i hi
  repeat' (first|refine d1 ?_|refine dd ?_|(show ∀ _:Nat,T _ _ _ _ _;intro _))
  refine T_if rfl (fun h2=>?_) (fun h2=>?_)
  ·simp only [decide_eq_true_eq] at h2
   have hik:i<k:=by omega
   obtain⟨b,o,rfl⟩:=hg.hs.base (by omega)
   obtain⟨s,hs,hsm,hrs⟩:=hg.get (k:=i) (by omega)
   obtain⟨t,ht,htm,hrt⟩:=hg.get (k:=k) hkn
   have hsl:=hg.ok.len s hsm
   have htl:=hg.ok.len t htm
   have hsn:=hg.nb s hsm
   have htn:=hg.nb t htm
   have hgs:(lens l).getD i 0=s.n:=by rw [List.getD_eq_getElem?_getD,lens_get hs];rfl
   have hgt:(lens l).getD k 0=t.n:=by rw [List.getD_eq_getElem?_getD,lens_get ht];rfl
   have htv:tableV c s.l t.l=(tabR s.n t.n (rst (grdOf c s.l t.l)),0):=by
    unfold tableV
    rw [if_pos (ck18 hc hbs hsm htm),hsl,htl]
   repeat' (first|refine d1 ?_|(show ∀ _:Nat,T _ _ _ _ _;intro _))
   refine rsH [blk b1 (valV (prsP c l k i) V) 3,blk p6 (spcL c (some ⟨b,o,none⟩) n ca (.slice Am (mvL n).length cm) V) 84,blk pc c.cells 23] 1000 [0,1,2,3,4,5,6,7,8,9,10,11,12,13,14] ?_
   repeat' (first|refine d1 ?_|refine dd ?_|(show T _ (.ops _ (_::_)::_) _ _ _;first|refine T_val rfl (Val.load rfl (fun hg=>rdOld hrs)) rfl rfl rfl ?_|refine T_valC rfl (Val.load rfl (fun hg=>rdOld hrs)) rfl rfl rfl rfl rfl ?_|refine T_val rfl (Val.load rfl (fun hg=>rdOld hrt)) rfl rfl rfl ?_|refine T_valC rfl (Val.load rfl (fun hg=>rdOld hrt)) rfl rfl rfl rfl rfl ?_)|(show T _ (.run _ _ (_::_) _ _::_) _ _ _;first|refine rv rfl rfl rfl (Val.load rfl (fun hg=>rdOld hrs)) rfl rfl rfl ?_|refine rg rfl rfl rfl (Val.load rfl (fun hg=>rdOld hrs)) rfl rfl rfl rfl rfl ?_|refine rv rfl rfl rfl (Val.load rfl (fun hg=>rdOld hrt)) rfl rfl rfl ?_|refine rg rfl rfl rfl (Val.load rfl (fun hg=>rdOld hrt)) rfl rfl rfl rfl rfl ?_|refine ro rfl rfl (OpT.call rfl rfl rfl rfl rfl (fun w hw=>tablePrg_spec c s.A t.A s.n t.n s.cap t.cap s.l t.l w ((hg.cls hw).two hsm htm)) (fun u R hR=>?_)))|(show ∀ _:Nat,T _ _ _ _ _;intro _))
   rw [htv] at hR
   obtain⟨x,-,rfl,rfl⟩:=hR
   refine ⟨fun _=>Hle.tail _ _,?_⟩
   refine T_le (H':=dat [x] [rowsD (tabR s.n t.n (rst (grdOf c s.l t.l)))]::blk b1 (valV (prsP c l k i) V) 3::blk p6 (spcL c (some ⟨b,o,none⟩) n ca (.slice Am (mvL n).length cm) V) 84::blk pc c.cells 23::[]) (Hle.refl _) ?_
   refine T_open fun pt hT=>?_
   obtain⟨At,ct,cst,rfl,ht1,ht2,htc,htr,htrows⟩:=hT.tab
   rw [tabR_length] at ht1 htc htr ⊢
   repeat' (first|refine d1 ?_|refine dd ?_|(show ∀ _:Nat,T _ _ _ _ _;intro _))
   refine T_if rfl (fun h=>by exfalso;simp at h) (fun _=>?_)
   obtain⟨bt,ot,rfl,hrd⟩:=htr (by omega)
   repeat' (first|refine d1 ?_|refine dd ?_|(show ∀ _:Nat,T _ _ _ _ _;intro _))
   refine T_loopX (fun q:Nat=>[(54, .int .i64 (q:Nat))]) (fun q=>[blk b1 (valV (fun q'=>if q'<q then prsP c l k (i+1) q' else prsP c l k i q') V) 3,fz pt,blk p6 (spcL c (some ⟨b,o,none⟩) n ca (.slice Am (mvL n).length cm) V) 84,blk pc c.cells 23]) (fun q=>q≤V) (fun q=>V - q) 0 (Nat.zero_le _) ?_ (hG:=by
    have e9:valV (fun q'=>if q'<0 then prsP c l k (i+1) q' else prsP c l k i q') V=valV (prsP c l k i) V:=valV_ext fun q _=>if_neg (by omega)
    rw [e9];exact Hle.srt)
   intro q hq
   repeat' (first|refine d1 ?_|refine dd ?_|(show ∀ _:Nat,T _ _ _ _ _;intro _))
   refine T_if rfl (fun h3=>?_) (fun h3=>?_)
   ·simp only [decide_eq_true_eq] at h3
    have hqV:q<V:=by omega
    have hin:=atL_in (lens l) q
    have hai:=hin.get i
    have hak:=hin.get k
    rw [hgs] at hai
    rw [hgt] at hak
    obtain⟨u,hu⟩:∃ u,u=(atL (lens l) q).getD i 0:=⟨_,rfl⟩
    obtain⟨v,hve⟩:∃ v,v=(atL (lens l) q).getD k 0:=⟨_,rfl⟩
    have hprv:prV c l (atL (lens l) q) i k=rst (grdOf c s.l t.l) u v:=by unfold prV;rw [tsA_eq hs,tsA_eq ht, ← hu, ← hve]
    have havi:(atV (atL (lens l) q))[0+(i:Int).toNat * 1]?=some (.int .i64 (u:Nat)):=by rw [show 0+(i:Int).toNat * 1=i by omega,atV_get _ (by omega),hu]
    have havk:(atV (atL (lens l) q))[0+(k:Int).toNat * 1]?=some (.int .i64 (v:Nat)):=by rw [show 0+(k:Int).toNat * 1=k by omega,atV_get _ (by omega),hve]
    rw [← hu] at hai
    rw [← hve] at hak
    obtain⟨Ar,capr,hcs,hr1,hr2,hAr⟩:=htrows.tabRow (i:=u) (tabR_get (n:=s.n) (m:=t.n) (f:=rst (grdOf c s.l t.l)) hai)
    rw [List.length_map,List.length_range] at hcs hr1 hAr
    obtain⟨br,orr,rfl,hb'⟩:=hAr (by omega)
    have hb1v:(valV (fun q'=>if q'<q then prsP c l k (i+1) q' else prsP c l k i q') V)[0+(q:Int).toNat * 1]?=some (.int .i64 (prsP c l k i q)):=by
     rw [show 0+(q:Int).toNat * 1=q by omega,valV_get hqV,if_neg (Nat.lt_irrefl q)]
    have hpb:=prsP_bd hc hnb q k i (by omega) (by omega)
    have hpb2:=prV_bd hc hnb (atL (lens l) q) i k
    rw [hprv] at hpb2
    have hvl:(valV (fun q'=>if q'<q then prsP c l k (i+1) q' else prsP c l k i q') V).length=V:=valV_length _ _
    repeat' (first|refine d1 ?_|(show T _ (.ops _ (_::_)::_) _ _ _;first|refine T_val rfl (Val.loadA rfl (fun _=>rdAll) rfl) rfl rfl rfl ?_|refine T_valC rfl (Val.loadA rfl (fun _=>rdAll) rfl) rfl rfl rfl rfl rfl ?_|refine T_call rfl rfl rfl rfl rfl (fun w hw=>at20_spec c (some ⟨b,o,none⟩) n ca (.slice Am (mvL n).length cm) V l q w (hg.cls hw) (by omega) (by omega) (by omega)) ?_|refine T_callC rfl rfl rfl rfl rfl rfl rfl (fun hg w hw=>at20_spec c (some ⟨b,o,none⟩) n ca (.slice Am (mvL n).length cm) V l q w (hg.cls hw) (by omega) (by omega) (by omega)) ?_)|(show T _ (.run _ _ (_::_) _ _::_) _ _ _;first|refine rv rfl rfl rfl (Val.loadA rfl (fun _=>rdAll) rfl) rfl rfl rfl ?_|refine rg rfl rfl rfl (Val.loadA rfl (fun _=>rdAll) rfl) rfl rfl rfl rfl rfl ?_|refine rc rfl rfl rfl rfl rfl rfl rfl (fun w hw=>at20_spec c (some ⟨b,o,none⟩) n ca (.slice Am (mvL n).length cm) V l q w (hg.cls hw) (by omega) (by omega) (by omega)) ?_|refine rcG rfl rfl rfl rfl rfl rfl rfl rfl rfl (fun hg w hw=>at20_spec c (some ⟨b,o,none⟩) n ca (.slice Am (mvL n).length cm) V l q w (hg.cls hw) (by omega) (by omega) (by omega)) ?_)|(show ∀ _:Nat,T _ _ _ _ _;intro _))
    rename_i p14
    refine T_le (H':=[blk p14 (atV (atL (lens l) q)) 99,blk b1 (valV (fun q'=>if q'<q then prsP c l k (i+1) q' else prsP c l k i q') V) 3,fz pt,blk p6 (spcL c (some ⟨b,o,none⟩) n ca (.slice Am (mvL n).length cm) V) 84,blk pc c.cells 23]) (Hle.refl _) ?_
    refine rsH [blk p14 (atV (atL (lens l) q)) 99,blk b1 (valV (fun q'=>if q'<q then prsP c l k (i+1) q' else prsP c l k i q') V) 3,fz pt] 17 [0,1,2,3,4,5,6,7,8,9,10,11,12,13,14,15,16,17] ?_
    repeat' (first|refine d1 ?_|refine dd ?_|(show T _ (.ops _ (_::_)::_) _ _ _;first|refine T_val rfl (Val.nilc rfl) rfl rfl rfl ?_|refine T_valC rfl (Val.nilc rfl) rfl rfl rfl rfl rfl ?_|refine T_val rfl (Val.load rfl (fun hg=>rdOwn1 (b:=p14) havi)) rfl rfl rfl ?_|refine T_valC rfl (Val.load rfl (fun hg=>rdOwn1 (b:=p14) havi)) rfl rfl rfl rfl rfl ?_|refine T_val rfl (Val.load rfl (fun hg=>rdOwn1 (b:=p14) havk)) rfl rfl rfl ?_|refine T_valC rfl (Val.load rfl (fun hg=>rdOwn1 (b:=p14) havk)) rfl rfl rfl rfl rfl ?_|refine T_val rfl (Val.load rfl (fun hg=>rdOwn1 (b:=b1) hb1v)) rfl rfl rfl ?_|refine T_valC rfl (Val.load rfl (fun hg=>rdOwn1 (b:=b1) hb1v)) rfl rfl rfl rfl rfl ?_|refine T_val rfl (Val.load rfl (fun hg=>rdFz (p:=pt) (u := .slice (some ⟨br,orr,none⟩) (t.n+1) capr) (b:=bt) (by rw [off1];exact hrd u _ hcs))) rfl rfl rfl ?_|refine T_valC rfl (Val.load rfl (fun hg=>rdFz (p:=pt) (u := .slice (some ⟨br,orr,none⟩) (t.n+1) capr) (b:=bt) (by rw [off1];exact hrd u _ hcs))) rfl rfl rfl rfl rfl ?_|refine T_val rfl (Val.load rfl (fun hg=>rdFz (p:=pt) (u := .int .i64 (rst (grdOf c s.l t.l) u v)) (b:=br) (by rw [off1];exact hb' v _ (tabR_cell hak)))) rfl rfl rfl ?_|refine T_valC rfl (Val.load rfl (fun hg=>rdFz (p:=pt) (u := .int .i64 (rst (grdOf c s.l t.l) u v)) (b:=br) (by rw [off1];exact hb' v _ (tabR_cell hak)))) rfl rfl rfl rfl rfl ?_)|(show T _ (.run _ _ (_::_) _ _::_) _ _ _;first|refine rv rfl rfl rfl (Val.nilc rfl) rfl rfl rfl ?_|refine rg rfl rfl rfl (Val.nilc rfl) rfl rfl rfl rfl rfl ?_|refine rv rfl rfl rfl (Val.load rfl (fun hg=>rdOwn1 (b:=p14) havi)) rfl rfl rfl ?_|refine rg rfl rfl rfl (Val.load rfl (fun hg=>rdOwn1 (b:=p14) havi)) rfl rfl rfl rfl rfl ?_|refine rv rfl rfl rfl (Val.load rfl (fun hg=>rdOwn1 (b:=p14) havk)) rfl rfl rfl ?_|refine rg rfl rfl rfl (Val.load rfl (fun hg=>rdOwn1 (b:=p14) havk)) rfl rfl rfl rfl rfl ?_|refine rv rfl rfl rfl (Val.load rfl (fun hg=>rdOwn1 (b:=b1) hb1v)) rfl rfl rfl ?_|refine rg rfl rfl rfl (Val.load rfl (fun hg=>rdOwn1 (b:=b1) hb1v)) rfl rfl rfl rfl rfl ?_|refine rv rfl rfl rfl (Val.load rfl (fun hg=>rdFz (p:=pt) (u := .slice (some ⟨br,orr,none⟩) (t.n+1) capr) (b:=bt) (by rw [off1];exact hrd u _ hcs))) rfl rfl rfl ?_|refine rg rfl rfl rfl (Val.load rfl (fun hg=>rdFz (p:=pt) (u := .slice (some ⟨br,orr,none⟩) (t.n+1) capr) (b:=bt) (by rw [off1];exact hrd u _ hcs))) rfl rfl rfl rfl rfl ?_|refine rv rfl rfl rfl (Val.load rfl (fun hg=>rdFz (p:=pt) (u := .int .i64 (rst (grdOf c s.l t.l) u v)) (b:=br) (by rw [off1];exact hb' v _ (tabR_cell hak)))) rfl rfl rfl ?_|refine rg rfl rfl rfl (Val.load rfl (fun hg=>rdFz (p:=pt) (u := .int .i64 (rst (grdOf c s.l t.l) u v)) (b:=br) (by rw [off1];exact hb' v _ (tabR_cell hak)))) rfl rfl rfl rfl rfl ?_|refine ro rfl rfl (OpT.store rfl rfl rfl rfl (by rw [hvl];omega) ⟨fun hlv=>absurd hlv (by decide +kernel),?_⟩))|(show ∀ _:Nat,T _ _ _ _ _;intro _))
    refine T_backX (q+1) (by omega) (by omega) (hG:=?_)
    rw [show 0+(q:Int).toNat * 1=q by omega,valV_put]
    have e9:valV (fun q'=>if q'=q then prsP c l k i q+rst (grdOf c s.l t.l) u v else if q'<q then prsP c l k (i+1) q' else prsP c l k i q') V=valV (fun q'=>if q'<q+1 then prsP c l k (i+1) q' else prsP c l k i q') V:=valV_ext fun q' _=>by
     by_cases e:q'=q
     ·subst e;rw [if_pos rfl,if_pos (by omega),prsP_succ,hprv]
     ·rw [if_neg e]
      by_cases e2:q'<q
      ·rw [if_pos e2,if_pos (by omega)]
      ·rw [if_neg e2,if_neg (by omega)]
    rw [e9]
    exact Hle.srt
   ·simp only [decide_eq_false_iff_not] at h3
    obtain rfl:q=V:=by omega
    have e9:valV (fun q'=>if q'<q then prsP c l k (i+1) q' else prsP c l k i q') q=valV (prsP c l k (i+1)) q:=valV_ext fun q' h9=>if_pos h9
    rw [e9]
    repeat' (first|refine d1 ?_|refine dd ?_|(show ∀ _:Nat,T _ _ _ _ _;intro _))
    exact T_backX (i+1) (by omega) (by omega) (hG:=Hle.srt)
  ·simp only [decide_eq_false_iff_not] at h2
   obtain rfl:i=k:=by omega
   have e9:valV (prsP c l i i) V=valV (prsP c l (i+1) 0) V:=valV_ext fun q' _=>(prsP_row c l i q').symm
   rw [e9]
   repeat' (first|refine d1 ?_|refine dd ?_|(show ∀ _:Nat,T _ _ _ _ _;intro _))
   exact T_backX (i+1) (by omega) (by omega)
 ·simp only [decide_eq_false_iff_not] at h
  obtain rfl:k=n:=by omega
  rw [← hn,hval]
  have hlm:((prsL c l).map (Value.int .i64)).length=V:=by rw [List.length_map,prsL_len,hV]
  have hd:=dat_blkV (e:=3) (sz:=1) (n:=V) (b:=b1) (cs:=(prsL c l).map (Value.int .i64)) (H:=[]) (by rw [hlm,Nat.mul_one]) (by omega)
  rw [List.map_map] at hd
  repeat' (first|refine d1 ?_|refine dd ?_|(show ∀ _:Nat,T _ _ _ _ _;intro _)|(show T _ (.code .ret::_) _ _ _;refine T_retV _ rfl ((Hle.nth 0 rfl).trans hd) ⟨_,trivial,rfl,rfl⟩))
end Go.Proofs.YthadgaboakipoaaGreatDoor
namespace Go.Proofs.YthadgaboakipoaaGreatDoor
open Go.RowKit Go.Shelf Go.Proofs
set_option maxRecDepth 100000
set_option maxHeartbeats 1000000

noncomputable def tgtV (c:Costs) (l:List TS) (p:List Int):List (List Int) × Int :=
 if opE c l≠0 then ([],opE c l) else if feaE (colZ c l) (lens l) (mvL l.length) p≠0 then ([],feaE (colZ c l) (lens l) (mvL l.length) p)
 else if ldV (colZ c l) (lens l) (mvL l.length) p (List.replicate l.length 0)=true then (tgV (colZ c l) (lens l) (mvL l.length) p (List.replicate l.length 0),0) else ([],6)
theorem tight1_spec (p:List Int) (Lb:List Bool) (b o np cp g5 g11 b11 V q u:Nat) (k:Int) (A9:Option Addr) (m9 c9:Nat) (w:World) (h5:RdC w g5 0 [.slice (some ⟨b,o,none⟩) np cp]) (h11:RdC w g11 0 [.slice (some ⟨b11,0,none⟩) V V]) (hp:Src w 1 (some ⟨b,o,none⟩) np (p.map (Value.int .i64))) (hnp:p.length=np) (hL:RdC w b11 0 (Lb.map Value.bool)) (hLl:Lb.length=V) (hq:q<np) (hu:u<np) (huV:u<V) (hk:0≤k∧k≤1024000) (hb:0≤pg p u∧pg p u≤1073741824) :
  Spec Tryz.prog 75 [.int .i64 (q:Nat), .agg #[.slice A9 m9 c9, .int .i64 k, .int .i64 (u:Nat)], .pointer (some ⟨g5,0,none⟩), .pointer (some ⟨g11,0,none⟩)] w (fun x R=>x = .bool (decide (pg p q=k+pg p u) && Lb.getD u false)∧R=[]):=by
 have hpg:∀ q,q<np→RdC w b (o+(q:Int).toNat * 1) [.int .i64 (pg p q)]:=fun q hq=>src_int hp hq (by unfold pg;rw [List.getD_eq_getElem?_getD,List.getElem?_eq_getElem (by omega)];rfl)
 have h1:=hpg q hq
 have h2:=hpg u hu
 have h3:RdC w b11 (0+(u:Int).toNat * 1) [.bool (Lb.getD u false)]:=RdC.one (by have:=hL u (.bool (Lb.getD u false)) (by rw [List.getElem?_map,List.getD_eq_getElem?_getD,List.getElem?_eq_getElem (by omega)];rfl);rw [show 0+(u:Int).toNat * 1=0+u by omega];exact this)
 refine spec_of sg Tryz.func75 rfl rfl rfl ?_
 refine T_op (OpT.box (cs:=[.slice A9 m9 c9, .int .i64 k, .int .i64 (u:Nat)]) rfl rfl rfl rfl rfl rfl rfl (fun p5=>?_))
 repeat' (first|refine d1 ?_|refine dd ?_|(show T _ (.ops _ (_::_)::_) _ _ _;first|refine T_val rfl (Val.nilc rfl) rfl rfl rfl ?_|refine T_valC rfl (Val.nilc rfl) rfl rfl rfl rfl rfl ?_|refine T_val rfl (Val.load rfl (fun hg=>rdOld h5)) rfl rfl rfl ?_|refine T_valC rfl (Val.load rfl (fun hg=>rdOld h5)) rfl rfl rfl rfl rfl ?_|refine T_val rfl (Val.load rfl (fun hg=>rdOld h11)) rfl rfl rfl ?_|refine T_valC rfl (Val.load rfl (fun hg=>rdOld h11)) rfl rfl rfl rfl rfl ?_|refine T_val rfl (Val.load rfl (fun hg=>rdOld h1)) rfl rfl rfl ?_|refine T_valC rfl (Val.load rfl (fun hg=>rdOld h1)) rfl rfl rfl rfl rfl ?_|refine T_val rfl (Val.load rfl (fun hg=>rdOld h2)) rfl rfl rfl ?_|refine T_valC rfl (Val.load rfl (fun hg=>rdOld h2)) rfl rfl rfl rfl rfl ?_|refine T_val rfl (Val.load rfl (fun hg=>rdOld h3)) rfl rfl rfl ?_|refine T_valC rfl (Val.load rfl (fun hg=>rdOld h3)) rfl rfl rfl rfl rfl ?_)|(show T _ (.run _ _ (_::_) _ _::_) _ _ _;first|refine rv rfl rfl rfl (Val.nilc rfl) rfl rfl rfl ?_|refine rg rfl rfl rfl (Val.nilc rfl) rfl rfl rfl rfl rfl ?_|refine rv rfl rfl rfl (Val.load rfl (fun hg=>rdOld h5)) rfl rfl rfl ?_|refine rg rfl rfl rfl (Val.load rfl (fun hg=>rdOld h5)) rfl rfl rfl rfl rfl ?_|refine rv rfl rfl rfl (Val.load rfl (fun hg=>rdOld h11)) rfl rfl rfl ?_|refine rg rfl rfl rfl (Val.load rfl (fun hg=>rdOld h11)) rfl rfl rfl rfl rfl ?_|refine rv rfl rfl rfl (Val.load rfl (fun hg=>rdOld h1)) rfl rfl rfl ?_|refine rg rfl rfl rfl (Val.load rfl (fun hg=>rdOld h1)) rfl rfl rfl rfl rfl ?_|refine rv rfl rfl rfl (Val.load rfl (fun hg=>rdOld h2)) rfl rfl rfl ?_|refine rg rfl rfl rfl (Val.load rfl (fun hg=>rdOld h2)) rfl rfl rfl rfl rfl ?_|refine rv rfl rfl rfl (Val.load rfl (fun hg=>rdOld h3)) rfl rfl rfl ?_|refine rg rfl rfl rfl (Val.load rfl (fun hg=>rdOld h3)) rfl rfl rfl rfl rfl ?_)|(show ∀ _:Nat,T _ _ _ _ _;intro _)|(show T _ (.code .ret::_) _ _ _;refine T_retV [] rfl (Hle.none _) ⟨rfl,rfl⟩))
def fTv (g5 g11:Nat):Value := .func (.func 75) #[] #[.pointer (some ⟨g5,0,none⟩), .pointer (some ⟨g11,0,none⟩)]
theorem lead_get {L:List Bool} {V q:Nat} (hL:L.length=V) (h:q<V):∀ w b,RdC w b 0 (L.map Value.bool)→RdC w b (0+(q:Int).toNat * 1) [.bool (L.getD q false)]:=fun w b h9=>RdC.one (by have:=h9 q (.bool (L.getD q false)) (by rw [List.getElem?_map,List.getD_eq_getElem?_getD,List.getElem?_eq_getElem (by omega)];rfl);rw [show 0+(q:Int).toNat * 1=0+q by omega];exact this)
theorem set_getB {L:List Bool} {i s:Nat} {z:Bool} (hi:i<L.length):(L.set i z).getD s false=if i=s then z else L.getD s false:=by
 rw [List.getD_eq_getElem?_getD,List.getElem?_set]
 by_cases e:i=s
 ·subst e;rw [if_pos rfl,if_pos rfl,if_pos hi];rfl
 ·rw [if_neg e,if_neg e, ← List.getD_eq_getElem?_getD]
theorem posL_any {ls v:List Nat} {Ms:List (List Nat)} {f:List Nat→Bool}:(posL ls v Ms).any f=Ms.any fun m=>possM ls v m && f m:=by
 unfold posL
 rw [List.any_filter]
theorem find_posT {K:List Int→Int} {ls v:List Nat} {p:List Int}:∀ Ms Ns:List (List Nat),(posL ls v Ms).find? (fitT K ls Ns p v)=Ms.find? (fitT K ls Ns p v)
 | [],Ns=>rfl
 | m::Ms,Ns=>by
  unfold posL
  rw [List.filter_cons,List.find?_cons (a:=m)]
  cases hp:possM ls v m with
  | true =>
   show List.find? _ (m::posL ls v Ms)=_
   rw [List.find?_cons,find_posT Ms Ns]
  | false =>
   have hf:fitT K ls Ns p v m=false:=by unfold fitT;rw [hp];rfl
   show List.find? _ (posL ls v Ms)=_
   rw [hf,find_posT Ms Ns]
theorem any_fit {K:List Int→Int} {ls v:List Nat} {Ns:List (List Nat)} {p:List Int} (Ms:List (List Nat)):(posL ls v Ms).any (fitT K ls Ns p v)=Ms.any (fitT K ls Ns p v):=by
 rw [posL_any]
 congr 1
 funext m
 unfold fitT
 cases possM ls v m <;> rfl
theorem set_sameB {L:List Bool} {q:Nat} (h:L.getD q false=false) (hq:q<L.length):L.set q false=L:=by
 refine List.ext_getElem? fun i=>?_
 rw [List.getElem?_set]
 by_cases e:q=i
 ·subst e
  rw [if_pos rfl,if_pos hq,List.getElem?_eq_getElem hq]
  rw [List.getD_eq_getElem?_getD,List.getElem?_eq_getElem hq] at h
  exact congrArg some h.symm
 ·rw [if_neg e]
theorem tight20_spec (c:Costs) (A:Option Addr) (n ca:Nat) (l:List TS) (Ap:Option Addr) (np cp:Nat) (p:List Int) (w:World) (hf:Fit w A n l) (hp:Src w 1 Ap np (p.map (Value.int .i64))) (hnp:p.length=np) (hpb:np≤1000) :
  Spec Tryz.prog 26 [c.val, .slice A n ca, .slice Ap np cp] w (fun v R=>∃ x:Value,True∧v = .tuple #[x, .int .i64 (tgtV c l p).2]∧R=[dat [x] [rowsD (tgtV c l p).1]]):=by
 have hn:=hf.hn
 refine spec_of sg Tryz.func26 rfl rfl rfl ?_
 refine T_op (OpT.box (cs:=c.cells) rfl rfl rfl rfl rfl rfl rfl (fun p3=>?_))
 refine T_op (OpT.box (cs:=[.slice A n ca]) rfl rfl rfl rfl rfl rfl rfl (fun p4=>?_))
 refine T_op (OpT.box (cs:=[.slice Ap np cp]) rfl rfl rfl rfl rfl rfl rfl (fun p5=>?_))
 by_cases hop:opE c l≠0
 ·have e:tgtV c l p=([],opE c l):=if_pos hop
  rw [e]
  repeat' (first|refine d1 ?_|refine dd ?_|(show T _ (.ops _ (_::_)::_) _ _ _;refine T_op (OpT.call rfl rfl rfl rfl rfl (fun w hw=>openBad_spec c A n ca l w (hf.cls hw) hop) ?_))|(show ∀ _:Nat,T _ _ _ _ _;intro _))
  rintro v R ⟨c',-,rfl,rfl⟩
  repeat' (first|refine d1 ?_|refine dd ?_|(show ∀ _:Nat,T _ _ _ _ _;intro _))
  refine T_if rfl (fun _=>?_) (fun h=>by exfalso;simp at h;exact hop h)
  repeat' (first|refine d1 ?_|refine dd ?_|(show ∀ _:Nat,T _ _ _ _ _;intro _)|(show T _ (.code .ret::_) _ _ _;refine T_retV _ rfl (nilC _ |>.trans (Hle.nth 0 rfl)) ⟨_,trivial,rfl,rfl⟩))
 have hop:opE c l=0:=by simpa using hop
 obtain⟨hpl,hck⟩:=opE_ok hop
 obtain⟨h1,hb,h4,hv⟩:=plE_ok hpl
 obtain⟨hc,hbs⟩:=ck21_ok hck
 have hg:=hf.grp hb
 have hll:=lens_len l
 have hlsn:(lens l).length=n:=by omega
 have h1n:1≤n:=by omega
 have h4n:n≤4:=by omega
 have hno:=mvL_ok h1n h4n
 repeat' (first|refine d1 ?_|refine dd ?_|(show T _ (.ops _ (_::_)::_) _ _ _;refine T_op (OpT.call rfl rfl rfl rfl rfl (fun w hw=>openOk_spec c A n ca l w (hf.cls hw) hop) ?_))|(show ∀ _:Nat,T _ _ _ _ _;intro _))
 rintro v R ⟨M,-,rfl,rfl⟩
 refine T_le (H':=dat [M] [rowsD ((mvL n).map intN)]::blk p5 [.slice Ap np cp] 27::blk p4 [.slice A n ca] 24::blk p3 c.cells 23::[]) (Hle.refl _) ?_
 refine T_open fun pm hM=>?_
 have hM0:=hM
 obtain⟨Am,cm,csm,rfl,-⟩:=hM.tab
 rw [List.length_map] at hM0 ⊢
 obtain⟨V,hV⟩:∃ V,V=volL (lens l):=⟨_,rfl⟩
 have hVp:0<V:=by rw [hV];exact volL_pos _
 rw [← hV] at hv ⊢
 repeat' (first|refine d1 ?_|refine dd ?_|(show ∀ _:Nat,T _ _ _ _ _;intro _))
 rename_i p8
 refine T_if rfl (fun h=>by exfalso;simp at h) (fun _=>?_)
 repeat' (first|refine d1 ?_|refine dd ?_|(show T _ (.ops _ (_::_)::_) _ _ _;first|refine T_val rfl (Val.loadA rfl (fun _=>rdAll) rfl) rfl rfl rfl ?_|refine T_valC rfl (Val.loadA rfl (fun _=>rdAll) rfl) rfl rfl rfl rfl rfl ?_|refine T_call rfl rfl rfl rfl rfl (fun w hw=>check20_spec c A n ca (.slice Am (mvL n).length cm) V l Ap np cp p w (hg.cls hw) hc hbs h1n h4n (by omega) hV (hM0.own hw) (rdSrc hp w hw) hnp hpb) ?_|refine T_callC rfl rfl rfl rfl rfl rfl rfl (fun hg w hw=>check20_spec c A n ca (.slice Am (mvL n).length cm) V l Ap np cp p w (hg.cls hw) hc hbs h1n h4n (by omega) hV (hM0.own hw) (rdSrc hp w hw) hnp hpb) ?_)|(show T _ (.run _ _ (_::_) _ _::_) _ _ _;first|refine rv rfl rfl rfl (Val.loadA rfl (fun _=>rdAll) rfl) rfl rfl rfl ?_|refine rg rfl rfl rfl (Val.loadA rfl (fun _=>rdAll) rfl) rfl rfl rfl rfl rfl ?_|refine rc rfl rfl rfl rfl rfl rfl rfl (fun w hw=>check20_spec c A n ca (.slice Am (mvL n).length cm) V l Ap np cp p w (hg.cls hw) hc hbs h1n h4n (by omega) hV (hM0.own hw) (rdSrc hp w hw) hnp hpb) ?_|refine rcG rfl rfl rfl rfl rfl rfl rfl rfl rfl (fun hg w hw=>check20_spec c A n ca (.slice Am (mvL n).length cm) V l Ap np cp p w (hg.cls hw) hc hbs h1n h4n (by omega) hV (hM0.own hw) (rdSrc hp w hw) hnp hpb) ?_)|(show ∀ _:Nat,T _ _ _ _ _;intro _))
 refine T_if rfl (fun h=>?_) (fun h=>?_)
 ·have e:tgtV c l p=([],feaE (colZ c l) (lens l) (mvL n) p):=by unfold tgtV;rw [if_neg (by simpa using hop),hn,if_pos (by simpa using h)]
  rw [e]
  repeat' (first|refine d1 ?_|refine dd ?_|(show ∀ _:Nat,T _ _ _ _ _;intro _)|(show T _ (.code .ret::_) _ _ _;refine T_retV _ rfl (nilC _ |>.trans (Hle.nth 0 rfl)) ⟨_,trivial,rfl,rfl⟩))
 have hfe:feaE (colZ c l) (lens l) (mvL n) p=0:=by simpa using h
 clear h
 obtain⟨f1,f2,f3,f4⟩:=feaE_ok.1 hfe
 have hnpV:np=V:=by omega
 have hpb2:∀ q,0≤pg p q∧pg p q≤1073741824:=fun q=>by
  unfold pg
  rw [List.getD_eq_getElem?_getD]
  cases hq:p[q]? with
  | none=>simp
  | some z=>exact f3 z (List.mem_of_getElem? hq)
 obtain⟨b,o,rfl⟩:=hp.base (by omega)
 have et:tgtV c l p=if ldV (colZ c l) (lens l) (mvL n) p (List.replicate n 0)=true then (tgV (colZ c l) (lens l) (mvL n) p (List.replicate n 0),0) else ([],6):=by
  unfold tgtV
  rw [if_neg (by simpa using hop),hn,if_neg (by simpa using hfe)]
 rw [et]
 obtain⟨F,hF⟩:∃ F:Nat→Bool,F=fun q=>ldV (colZ c l) (lens l) (mvL n) p (atL (lens l) q):=⟨_,rfl⟩
 repeat' (first|refine d1 ?_|refine dd ?_|(show T _ (.ops _ (_::_)::_) _ _ _;refine T_op (OpT.make rfl rfl rfl rfl rfl rfl rfl rfl rfl (by dsimp only;omega) (fun b11=>?_)))|(show ∀ _:Nat,T _ _ _ _ _;intro _))
 rename_i p11 p12 p13
 have hset:(List.replicate V (Value.bool false)).set (0+((V:Int) - 1).toNat * 1) (.bool true)=((List.replicate V false).set (V - 1) true).map Value.bool:=by
  rw [show 0+((V:Int) - 1).toNat * 1=V - 1 by omega,List.map_set,List.map_replicate]
 refine T_le (H':=[blk p13 [.int .i64 ((V:Int) - 2)] 3,blk p12 [fTv p5 p11] 110,blk p11 [.slice (some ⟨b11,0,none⟩) V V] 109,blk b11 ((List.replicate V (Value.bool false)).set (0+((V:Int) - 1).toNat * 1) (.bool true)) 4,blk p8 (spcL c A n ca (.slice Am (mvL n).length cm) V) 84,fz pm,blk p5 [.slice (some ⟨b,o,none⟩) np cp] 27,blk p4 [.slice A n ca] 24,blk p3 c.cells 23]) (Hle.refl _) ?_
 rw [hset]
 refine T_keep [(3, .pointer (some ⟨p3,0,none⟩)),(4, .pointer (some ⟨p4,0,none⟩)),(5, .pointer (some ⟨p5,0,none⟩)),(8, .pointer (some ⟨p8,0,none⟩)),(11, .pointer (some ⟨p11,0,none⟩)),(12, .pointer (some ⟨p12,0,none⟩)),(13, .pointer (some ⟨p13,0,none⟩))] ⟨rfl,rfl,rfl,rfl,rfl,rfl,rfl,trivial⟩ ?_
 refine T_le (H':=blk p13 [.int .i64 (((V - 1:Nat):Int) - 1)] 3::blk b11 (((List.replicate V false).set (V - 1) true).map Value.bool) 4::blk p12 [fTv p5 p11] 110::blk p11 [.slice (some ⟨b11,0,none⟩) V V] 109::blk p8 (spcL c A n ca (.slice Am (mvL n).length cm) V) 84::fz pm::blk p5 [.slice (some ⟨b,o,none⟩) np cp] 27::blk p4 [.slice A n ca] 24::[]) (by rw [show ((V - 1:Nat):Int) - 1=(V:Int) - 2 by omega];exact Hle.srt) ?_
 show T (FC _ _ (([]:List Nat).map mkD) _ _ _) _ _ _ _
 have hlastF:F (V - 1)=true:=by rw [hF];dsimp only;rw [hV,at_last];exact ldV_end hno hlsn
 refine T_loopDX (fun s:Nat × Nat × List Bool × List Nat=>[(13, .pointer (some ⟨s.2.1,0,none⟩))]) (fun s=>blk s.2.1 [.int .i64 ((s.1:Int) - 1)] 3::blk b11 (s.2.2.1.map Value.bool) 4::blk p12 [fTv p5 p11] 110::blk p11 [.slice (some ⟨b11,0,none⟩) V V] 109::blk p8 (spcL c A n ca (.slice Am (mvL n).length cm) V) 84::fz pm::blk p5 [.slice (some ⟨b,o,none⟩) np cp] 27::blk p4 [.slice A n ca] 24::[]) (fun s=>s.2.2.2) (fun s=>s.1≤V - 1∧s.2.2.1.length=V∧∀ q,q<V→s.2.2.1.getD q false=if s.1≤q then F q else false) (fun s=>s.1) (V - 1,p13,(List.replicate V false).set (V - 1) true,[]) ⟨Nat.le_refl _,by simp,fun q h5=>?_⟩ rfl ?_
 ·dsimp only
  rw [set_getB (by rw [List.length_replicate];omega)]
  by_cases e:V - 1=q
  ·rw [if_pos e,if_pos (by omega), ← e,hlastF]
  ·rw [if_neg e,if_neg (by omega),List.getD_eq_getElem?_getD,List.getElem?_replicate,if_pos h5];rfl
 rintro⟨r,q13,L,Dl⟩ ⟨hr,hL,hLF⟩
 dsimp only at hr hL hLF ⊢
 refine T_le (H':=blk q13 [.int .i64 ((r:Int) - 1)] 3::blk b11 (L.map Value.bool) 4::blk p12 [fTv p5 p11] 110::blk p11 [.slice (some ⟨b11,0,none⟩) V V] 109::blk p8 (spcL c A n ca (.slice Am (mvL n).length cm) V) 84::fz pm::blk p5 [.slice (some ⟨b,o,none⟩) np cp] 27::blk p4 [.slice A n ca] 24::dfrs Dl) (Hle.refl _) ?_
 have hLm:(L.map Value.bool).length=V:=by rw [List.length_map,hL]
 repeat' (first|refine d1 ?_|refine dd ?_|(show ∀ _:Nat,T _ _ _ _ _;intro _))
 rcases r with _|q
 ·refine T_if rfl (fun h5=>by exfalso;simp at h5) (fun _=>?_)
  have hLall:∀ q,q<V→L.getD q false=F q:=fun q hq=>by rw [hLF q hq,if_pos (Nat.zero_le _)]
  have hl0:=lead_get hL hVp
  have hF0:F 0=ldV (colZ c l) (lens l) (mvL n) p (List.replicate n 0):=by
   rw [hF]
   dsimp only
   have h9:=at_num (InB.zero (lens l))
   rw [numL_zero,hlsn] at h9
   rw [h9]
  rw [hLall 0 hVp,hF0] at hl0
  repeat' (first|refine d1 ?_|refine dd ?_|(show T _ (.ops _ (_::_)::_) _ _ _;first|refine T_val rfl (Val.load rfl (fun hg=>(fun w hw=>hl0 w b11 (rdAll w hw)))) rfl rfl rfl ?_|refine T_valC rfl (Val.load rfl (fun hg=>(fun w hw=>hl0 w b11 (rdAll w hw)))) rfl rfl rfl rfl rfl ?_)|(show T _ (.run _ _ (_::_) _ _::_) _ _ _;first|refine rv rfl rfl rfl (Val.load rfl (fun hg=>(fun w hw=>hl0 w b11 (rdAll w hw)))) rfl rfl rfl ?_|refine rg rfl rfl rfl (Val.load rfl (fun hg=>(fun w hw=>hl0 w b11 (rdAll w hw)))) rfl rfl rfl rfl rfl ?_)|(show ∀ _:Nat,T _ _ _ _ _;intro _))
  refine T_if rfl (fun h5=>?_) (fun h5=>?_)
  ·rw [if_neg (by simpa using h5)]
   repeat' (first|refine d1 ?_|refine dd ?_|(show ∀ _:Nat,T _ _ _ _ _;intro _))
   refine T_retDs [dat [.slice none 0 0] [rowsD []]] ?_ (rf_V (vs:=[.slice none 0 0, .int .i64 6]) _ rfl (Hle.refl _) ⟨_,trivial,rfl,rfl⟩)
   exact (nilC _).trans (Hle.srtV (K:=dat [.slice none 0 0] [rowsD []]::dfrs Dl))
  have hld:ldV (colZ c l) (lens l) (mvL n) p (List.replicate n 0)=true:=by simpa using h5
  rw [if_pos hld]
  repeat' (first|refine d1 ?_|refine dd ?_|(show ∀ _:Nat,T _ _ _ _ _;intro _))
  rename_i p15 p16
  have hz0:numL (lens l) (List.replicate n 0)=0:=numL_zero _ _
  have hin0:InB (lens l) (List.replicate n 0):=by rw [← hlsn];exact InB.zero _
  refine T_keep [(4, .pointer (some ⟨p4,0,none⟩)),(8, .pointer (some ⟨p8,0,none⟩)),(12, .pointer (some ⟨p12,0,none⟩)),(15, .pointer (some ⟨p15,0,none⟩)),(16, .pointer (some ⟨p16,0,none⟩))] ⟨rfl,rfl,rfl,rfl,rfl,trivial⟩ ?_
  refine T_le (dat_nil _) ?_
  refine T_nilrow 27 1 ?_
  refine T_loopDX (fun s:List Nat × Nat × (Option Addr × Nat) × List Value × List (List Int) × List Nat=>[(16, .pointer (some ⟨s.2.1,0,none⟩))]) (fun s=>blk s.2.1 [.int .i64 (numL (lens l) s.1:Nat)] 3::blk p15 [.slice s.2.2.1.1 s.2.2.2.2.1.length s.2.2.1.2] 47::row 27 1 s.2.2.1.1 s.2.2.1.2 s.2.2.2.2.1.length s.2.2.2.1::dat s.2.2.2.1 (s.2.2.2.2.1.map intsD)::blk b11 (L.map Value.bool) 4::blk p12 [fTv p5 p11] 110::blk p11 [.slice (some ⟨b11,0,none⟩) V V] 109::blk p8 (spcL c A n ca (.slice Am (mvL n).length cm) V) 84::fz pm::blk p5 [.slice (some ⟨b,o,none⟩) np cp] 27::blk p4 [.slice A n ca] 24::[]) (fun s=>s.2.2.2.2.2) (fun s=>InB (lens l) s.1∧ldV (colZ c l) (lens l) (mvL n) p s.1=true∧s.2.2.2.2.1.length≤sumL s.1∧tgV (colZ c l) (lens l) (mvL n) p (List.replicate n 0)=s.2.2.2.2.1++tgV (colZ c l) (lens l) (mvL n) p s.1) (fun s=>sumL (lens l) - sumL s.1) (List.replicate n 0,p16,(none,0),[],[],Dl) ⟨hin0,hld,Nat.zero_le _,rfl⟩ rfl ?_ (hG:=by dsimp only;rw [hz0];show Hle _ (blk p16 [.int .i64 (0:Nat)] 3::blk p15 [.slice none 0 0] 47::row 27 1 none 0 0 []::dat [] []::blk b11 (L.map Value.bool) 4::blk p12 [fTv p5 p11] 110::blk p11 [.slice (some ⟨b11,0,none⟩) V V] 109::blk p8 (spcL c A n ca (.slice Am (mvL n).length cm) V) 84::fz pm::blk p5 [.slice (some ⟨b,o,none⟩) np cp] 27::blk p4 [.slice A n ca] 24::dfrs Dl);exact Hle.srtV)
  rintro⟨v,q16,⟨Ao,capo⟩,hs,out,Dl⟩ ⟨hvi,hvl2,hol,hout⟩
  dsimp only at hvi hvl2 hol hout ⊢
  obtain⟨q,hq⟩:∃ q,q=numL (lens l) v:=⟨_,rfl⟩
  have hat:=at_num hvi
  have hqV:=numL_lt hvi
  rw [← hq] at hat hqV ⊢
  rw [← hV] at hqV
  refine T_le (H':=blk q16 [.int .i64 (q:Nat)] 3::blk p15 [.slice Ao out.length capo] 47::row 27 1 Ao capo out.length hs::dat hs (out.map intsD)::blk b11 (L.map Value.bool) 4::blk p12 [fTv p5 p11] 110::blk p11 [.slice (some ⟨b11,0,none⟩) V V] 109::blk p8 (spcL c A n ca (.slice Am (mvL n).length cm) V) 84::fz pm::blk p5 [.slice (some ⟨b,o,none⟩) np cp] 27::blk p4 [.slice A n ca] 24::dfrs Dl) (Hle.refl _) ?_
  repeat' (first|refine d1 ?_|refine dd ?_|(show ∀ _:Nat,T _ _ _ _ _;intro _))
  refine T_if rfl (fun h6=>?_) (fun h6=>?_)
  ·simp only [decide_eq_true_eq] at h6
   have hne:v≠lens l:=fun e=>by
    have h9:=num_all (lens l)
    rw [e] at hq
    omega
   obtain rfl:v=atL (lens l) q:=hat.symm
   obtain⟨mf,hfind,-,-,-,-⟩:=fitT_some hno hlsn hvi hne hvl2
   have hsub:=sumL_le hvi
   have hlen4:=sumL_lens hg.nb
   repeat' (first|refine d1 ?_|refine dd ?_|(show T _ (.ops _ (_::_)::_) _ _ _;first|refine T_val rfl (Val.loadA rfl (fun _=>rdAll) rfl) rfl rfl rfl ?_|refine T_valC rfl (Val.loadA rfl (fun _=>rdAll) rfl) rfl rfl rfl rfl rfl ?_|refine T_op (OpT.call rfl rfl rfl rfl rfl (fun w hw=>steps20_fn c A n ca (.slice Am (mvL n).length cm) V q w) (fun u R hR=>?_)))|(show T _ (.run _ _ (_::_) _ _::_) _ _ _;first|refine rv rfl rfl rfl (Val.loadA rfl (fun _=>rdAll) rfl) rfl rfl rfl ?_|refine rg rfl rfl rfl (Val.loadA rfl (fun _=>rdAll) rfl) rfl rfl rfl rfl rfl ?_)|(show ∀ _:Nat,T _ _ _ _ _;intro _))
   obtain⟨⟨g1,g2⟩,-,rfl,rfl⟩:=hR
   refine T_le (H':=blk g2 [.int .i64 (q:Nat)] 3::blk g1 (spcL c A n ca (.slice Am (mvL n).length cm) V) 84::blk q16 [.int .i64 (q:Nat)] 3::blk p15 [.slice Ao out.length capo] 47::row 27 1 Ao capo out.length hs::dat hs (out.map intsD)::blk b11 (L.map Value.bool) 4::blk p12 [fTv p5 p11] 110::blk p11 [.slice (some ⟨b11,0,none⟩) V V] 109::blk p8 (spcL c A n ca (.slice Am (mvL n).length cm) V) 84::fz pm::blk p5 [.slice (some ⟨b,o,none⟩) np cp] 27::blk p4 [.slice A n ca] 24::dfrs Dl) (Hle.refl _) ?_
   refine T_rangeZ (steps20_iter (ca:=ca) (V:=V) hg hc hbs h1n h4n (by omega) (p:=q) (by omega) g1 g2 (fun w _ h9=>h9) hM0) rfl (fun j x B hj hQ=>by obtain⟨m,_,_,_,_,rfl,_⟩:=hQ;exact⟨rfl,rfl⟩)
    (fun jj H=>H=fz pm::blk q16 [.int .i64 (q:Nat)] 3::blk p15 [.slice Ao out.length capo] 47::row 27 1 Ao capo out.length hs::dat hs (out.map intsD)::blk b11 (L.map Value.bool) 4::blk p12 [fTv p5 p11] 110::blk p11 [.slice (some ⟨b11,0,none⟩) V V] 109::blk p8 (spcL c A n ca (.slice Am (mvL n).length cm) V) 84::blk p5 [.slice (some ⟨b,o,none⟩) np cp] 27::blk p4 [.slice A n ca] 24::dfrs Dl∧∀ j' y,j'<jj→(posL (lens l) (atL (lens l) q) (mvL n))[j']?=some y→fitT (colZ c l) (lens l) (mvL n) p (atL (lens l) q) y=false) (fun _=>False)
    (fun id H=>id=6∧∃ (m:List Nat) (x:Option Addr × Nat × Value),(mvL n).find? (fitT (colZ c l) (lens l) (mvL n) p (atL (lens l) q))=some m∧H=fz pm::blk q16 [.int .i64 ((numL (lens l) (toM (atL (lens l) q) m)):Nat)] 3::blk p15 [.slice x.1 (out.length+1) x.2.1] 47::row 27 1 x.1 x.2.1 (out.length+1) (hs++[x.2.2])::dat (hs++[x.2.2]) ((out++[colT (atL (lens l) q) m]).map intsD)::blk b11 (L.map Value.bool) 4::blk p12 [fTv p5 p11] 110::blk p11 [.slice (some ⟨b11,0,none⟩) V V] 109::blk p8 (spcL c A n ca (.slice Am (mvL n).length cm) V) 84::blk p5 [.slice (some ⟨b,o,none⟩) np cp] 27::blk p4 [.slice A n ca] 24::dfrs Dl)
    (fz pm::blk q16 [.int .i64 (q:Nat)] 3::blk p15 [.slice Ao out.length capo] 47::row 27 1 Ao capo out.length hs::dat hs (out.map intsD)::blk b11 (L.map Value.bool) 4::blk p12 [fTv p5 p11] 110::blk p11 [.slice (some ⟨b11,0,none⟩) V V] 109::blk p8 (spcL c A n ca (.slice Am (mvL n).length cm) V) 84::blk p5 [.slice (some ⟨b,o,none⟩) np cp] 27::blk p4 [.slice A n ca] 24::dfrs Dl) (fun j H h=>by obtain⟨rfl,-⟩:=h;exact Hle.nth 0 rfl) ⟨rfl,fun _ _ h=>absurd h (Nat.not_lt_zero _)⟩ Hle.srtV ?_ ?_ (fun _ _ h=>h.elim) ?_
   ·rintro Lp r5 jj x B Hj K2 hr5 hj hQ ⟨rfl,hnf⟩
    obtain⟨m,A9,c9,hm,hmr,rfl,rfl⟩:=hQ
    obtain⟨hmm,hpo⟩:=posL_mem (List.mem_of_getElem? hm)
    have hin:=atL_in (lens l) q
    have hvl:=atL_len (lens l) q
    obtain⟨hti,hs1,hs2,hs3⟩:=toM_rem hno hlsn hin hmm hpo
    have huV:=numL_lt hti
    have hml4:=pigeon2 n m (hno.nd m hmm) (hno.lt m hmm)
    have hnq:=num_at (lens l) q (by omega)
    have hfit:fitT (colZ c l) (lens l) (mvL n) p (atL (lens l) q) m=(decide (pg p q=colZ c l (colT (atL (lens l) q) m)+pg p (numL (lens l) (toM (atL (lens l) q) m))) && L.getD (numL (lens l) (toM (atL (lens l) q) m)) false):=by
     rw [hLall _ (by omega),hF]
     dsimp only
     unfold fitT viaP
     rw [hpo,Bool.true_and,hnq,at_num hti]
    obtain⟨u,hu⟩:∃ u,u=numL (lens l) (toM (atL (lens l) q) m):=⟨_,rfl⟩
    rw [← hu, ← hV] at huV
    rw [← hu] at hfit
    have hKb:=colZ_bd hc (show l.length≤32 by omega) (colT (atL (lens l) q) m)
    obtain⟨A9',c9',e9,hmc,hmc2,hmA⟩:=hmr.row1
    rw [intN_len] at e9 hmc hmA
    cases e9
    have hmpos:0<m.length:=List.length_pos_iff.2 (hno.ne m hmm)
    obtain⟨bm,om,rfl,hmB⟩:=hmA hmpos
    show T _ _ ((83, .agg #[.slice (some ⟨bm,om,none⟩) m.length c9, .int .i64 (colZ c l (colT (atL (lens l) q) m)), .int .i64 (numL (lens l) (toM (atL (lens l) q) m):Nat)])::_) _ (lrec Lp r5::fz pm::blk q16 [.int .i64 (q:Nat)] 3::blk p15 [.slice Ao out.length capo] 47::row 27 1 Ao capo out.length hs::dat hs (out.map intsD)::blk b11 (L.map Value.bool) 4::blk p12 [fTv p5 p11] 110::blk p11 [.slice (some ⟨b11,0,none⟩) V V] 109::blk p8 (spcL c A n ca (.slice Am (mvL n).length cm) V) 84::blk p5 [.slice (some ⟨b,o,none⟩) np cp] 27::blk p4 [.slice A n ca] 24::(dfrs Dl++K2))
    rw [← hu]
    repeat' (first|refine d1 ?_|refine dd ?_|(show ∀ _:Nat,T _ _ _ _ _;intro _))
    rename_i p17
    refine T_le (H':=lrec Lp r5::blk p17 [.slice (some ⟨bm,om,none⟩) m.length c9, .int .i64 (colZ c l (colT (atL (lens l) q) m)), .int .i64 (u:Nat)] 91::fz pm::blk q16 [.int .i64 (q:Nat)] 3::blk p15 [.slice Ao out.length capo] 47::row 27 1 Ao capo out.length hs::dat hs (out.map intsD)::blk b11 (L.map Value.bool) 4::blk p12 [fTv p5 p11] 110::blk p11 [.slice (some ⟨b11,0,none⟩) V V] 109::blk p8 (spcL c A n ca (.slice Am (mvL n).length cm) V) 84::blk p5 [.slice (some ⟨b,o,none⟩) np cp] 27::blk p4 [.slice A n ca] 24::(dfrs Dl++K2)) (Hle.perm (List.Perm.swap _ _ _)) ?_
    refine T_begin hr5 rfl ?_
    repeat' (first|refine d1 ?_|refine dd ?_|(show T _ (.ops _ (_::_)::_) _ _ _;first|refine T_call rfl rfl rfl rfl rfl (fun w hw=>tight1_spec p L b o np cp p5 p11 b11 V q u (colZ c l (colT (atL (lens l) q) m)) _ m.length c9 w (rdAll w hw) (rdAll w hw) (rdSrc hp w hw) hnp (rdAll w hw) hL (by omega) (by omega) huV hKb (hpb2 u)) ?_|refine T_callC rfl rfl rfl rfl rfl rfl rfl (fun hg w hw=>tight1_spec p L b o np cp p5 p11 b11 V q u (colZ c l (colT (atL (lens l) q) m)) _ m.length c9 w (rdAll w hw) (rdAll w hw) (rdSrc hp w hw) hnp (rdAll w hw) hL (by omega) (by omega) huV hKb (hpb2 u)) ?_)|(show T _ (.run _ _ (_::_) _ _::_) _ _ _;first|refine rc rfl rfl rfl rfl rfl rfl rfl (fun w hw=>tight1_spec p L b o np cp p5 p11 b11 V q u (colZ c l (colT (atL (lens l) q) m)) _ m.length c9 w (rdAll w hw) (rdAll w hw) (rdSrc hp w hw) hnp (rdAll w hw) hL (by omega) (by omega) huV hKb (hpb2 u)) ?_|refine rcG rfl rfl rfl rfl rfl rfl rfl rfl rfl (fun hg w hw=>tight1_spec p L b o np cp p5 p11 b11 V q u (colZ c l (colT (atL (lens l) q) m)) _ m.length c9 w (rdAll w hw) (rdAll w hw) (rdSrc hp w hw) hnp (rdAll w hw) hL (by omega) (by omega) huV hKb (hpb2 u)) ?_)|(show ∀ _:Nat,T _ _ _ _ _;intro _))
    rw [← hfit]
    have hnx:fitT (colZ c l) (lens l) (mvL n) p (atL (lens l) q) m=false→∀ j' y,j'<jj+1→(posL (lens l) (atL (lens l) q) (mvL n))[j']?=some y→fitT (colZ c l) (lens l) (mvL n) p (atL (lens l) q) y=false:=fun h9 j' y hj' hy=>by
     by_cases e:j'=jj
     ·subst e;rw [hm] at hy;cases hy;exact h9
     ·exact hnf j' y (by omega) hy
    refine T_if rfl (fun h7=>?_) (fun h7=>?_)
    ·repeat' (first|refine d1 ?_|refine dd ?_|(show ∀ _:Nat,T _ _ _ _ _;intro _))
     exact T_next _ ⟨rfl,hnx (by simpa using h7)⟩ (Hle.drop2 _ _ _)
    have hft:fitT (colZ c l) (lens l) (mvL n) p (atL (lens l) q) m=true:=by simpa using h7
    have hfnd:(mvL n).find? (fitT (colZ c l) (lens l) (mvL n) p (atL (lens l) q))=some m:=by rw [← find_posT];exact find_at hm hft hnf
    repeat' (first|refine d1 ?_|refine dd ?_|(show T _ (.ops _ (_::_)::_) _ _ _;first|refine T_val rfl (Val.loadA rfl (fun _=>rdAll) rfl) rfl rfl rfl ?_|refine T_valC rfl (Val.loadA rfl (fun _=>rdAll) rfl) rfl rfl rfl rfl rfl ?_|refine T_call rfl rfl rfl rfl rfl (fun w hw=>at20_spec c A n ca (.slice Am (mvL n).length cm) V l q w (hg.cls hw) h4n (by omega) (by omega)) ?_|refine T_callC rfl rfl rfl rfl rfl rfl rfl (fun hg w hw=>at20_spec c A n ca (.slice Am (mvL n).length cm) V l q w (hg.cls hw) h4n (by omega) (by omega)) ?_)|(show T _ (.run _ _ (_::_) _ _::_) _ _ _;first|refine rv rfl rfl rfl (Val.loadA rfl (fun _=>rdAll) rfl) rfl rfl rfl ?_|refine rg rfl rfl rfl (Val.loadA rfl (fun _=>rdAll) rfl) rfl rfl rfl rfl rfl ?_|refine rc rfl rfl rfl rfl rfl rfl rfl (fun w hw=>at20_spec c A n ca (.slice Am (mvL n).length cm) V l q w (hg.cls hw) h4n (by omega) (by omega)) ?_|refine rcG rfl rfl rfl rfl rfl rfl rfl rfl rfl (fun hg w hw=>at20_spec c A n ca (.slice Am (mvL n).length cm) V l q w (hg.cls hw) h4n (by omega) (by omega)) ?_)|(show ∀ _:Nat,T _ _ _ _ _;intro _))
    rename_i p18 bl
    repeat' (first|refine d1 ?_|refine dd ?_|(show T _ (.ops _ (_::_)::_) _ _ _;first|refine T_op (OpT.litW rfl rfl rfl rfl rfl rfl rfl rfl rfl rfl rfl (fun bl=>?_))|refine T_op (OpT.call rfl rfl rfl rfl rfl (fun w hw=>repeatI_spec (-1) (some ⟨_,0,none⟩) 1 n w (Src.own hw rfl) (by omega)) (fun x R hR=>?_)))|(show ∀ _:Nat,T _ _ _ _ _;intro _))
    obtain⟨bz,-,rfl,rfl⟩:=hR
    have hz0:List.replicate n (Value.int .i64 (-1))=(colMv (atL (lens l) q) (m.take 0) (List.replicate n (-1))).map (Value.int .i64):=by rw [List.take_zero];unfold colMv;rw [List.map_replicate]
    refine T_le (H':=row 3 1 (some ⟨bz,0,none⟩) n n (List.replicate n (.int .i64 (-1)))::blk bl _ _::blk p18 (atV (atL (lens l) q)) 99::lrec Lp (busy r5)::blk p17 [.slice (some ⟨bm,om,none⟩) m.length c9, .int .i64 (colZ c l (colT (atL (lens l) q) m)), .int .i64 (u:Nat)] 91::fz pm::blk q16 [.int .i64 (q:Nat)] 3::blk p15 [.slice Ao out.length capo] 47::row 27 1 Ao capo out.length hs::dat hs (out.map intsD)::blk b11 (L.map Value.bool) 4::blk p12 [fTv p5 p11] 110::blk p11 [.slice (some ⟨b11,0,none⟩) V V] 109::blk p8 (spcL c A n ca (.slice Am (mvL n).length cm) V) 84::blk p5 [.slice (some ⟨b,o,none⟩) np cp] 27::blk p4 [.slice A n ca] 24::(dfrs Dl++K2)) (Hle.refl _) ?_
    refine T_le (H':=row 3 1 (some ⟨bz,0,none⟩) n n ((colMv (atL (lens l) q) (m.take 0) (List.replicate n (-1))).map (Value.int .i64))::blk p18 (atV (atL (lens l) q)) 99::lrec Lp (busy r5)::blk p17 [.slice (some ⟨bm,om,none⟩) m.length c9, .int .i64 (colZ c l (colT (atL (lens l) q) m)), .int .i64 (u:Nat)] 91::fz pm::blk q16 [.int .i64 (q:Nat)] 3::blk p15 [.slice Ao out.length capo] 47::row 27 1 Ao capo out.length hs::dat hs (out.map intsD)::blk b11 (L.map Value.bool) 4::blk p12 [fTv p5 p11] 110::blk p11 [.slice (some ⟨b11,0,none⟩) V V] 109::blk p8 (spcL c A n ca (.slice Am (mvL n).length cm) V) 84::blk p5 [.slice (some ⟨b,o,none⟩) np cp] 27::blk p4 [.slice A n ca] 24::(dfrs Dl++K2)) (by rw [← hz0];exact Hle.sub) ?_
    obtain⟨K9,hK9⟩:∃ K9:List HA,K9=blk q16 [.int .i64 (q:Nat)] 3::blk p15 [.slice Ao out.length capo] 47::row 27 1 Ao capo out.length hs::dat hs (out.map intsD)::blk b11 (L.map Value.bool) 4::blk p12 [fTv p5 p11] 110::blk p11 [.slice (some ⟨b11,0,none⟩) V V] 109::blk p8 (spcL c A n ca (.slice Am (mvL n).length cm) V) 84::blk p5 [.slice (some ⟨b,o,none⟩) np cp] 27::blk p4 [.slice A n ca] 24::(dfrs Dl++K2):=⟨_,rfl⟩
    rw [← hK9]
    repeat' (first|refine d1 ?_|refine dd ?_|(show ∀ _:Nat,T _ _ _ _ _;intro _))
    refine T_loopX (fun s:Nat=>[(99, .int .i64 (s:Nat))]) (fun s=>row 3 1 (some ⟨bz,0,none⟩) n n ((colMv (atL (lens l) q) (m.take s) (List.replicate n (-1))).map (Value.int .i64))::blk p18 (atV (atL (lens l) q)) 99::lrec Lp (busy r5)::blk p17 [.slice (some ⟨bm,om,none⟩) m.length c9, .int .i64 (colZ c l (colT (atL (lens l) q) m)), .int .i64 (u:Nat)] 91::fz pm::K9) (fun s=>s≤m.length) (fun s=>m.length - s) 0 (Nat.zero_le _) ?_
    intro s hs9
    repeat' (first|refine d1 ?_|refine dd ?_|(show ∀ _:Nat,T _ _ _ _ _;intro _))
    refine T_if rfl (fun h8=>?_) (fun h8=>?_)
    ·simp only [decide_eq_true_eq] at h8
     have hsm:s<m.length:=by omega
     obtain⟨x,hx⟩:∃ x,m[s]?=some x:=⟨_,List.getElem?_eq_getElem hsm⟩
     have hxn:=hno.lt m hmm x (List.mem_of_getElem? hx)
     have htk:=take_snoc _ _ _ hx
     have hmx:fr pm bm (om+(s:Int).toNat * 1)=some (.int .i64 (x:Nat)):=by rw [off1];exact hmB s _ (intN_get hx)
     have hav:(atV (atL (lens l) q))[0+(x:Int).toNat * 1]?=some (.int .i64 ((atL (lens l) q).getD x 0:Nat)):=by rw [show 0+(x:Int).toNat * 1=x by omega,atV_get _ (by omega)]
     have hsetc:∀ off,off=x→setL ((colMv (atL (lens l) q) (m.take s) (List.replicate n (-1))).map (Value.int .i64)) off [.int .i64 ((atL (lens l) q).getD x 0:Nat)]=((colMv (atL (lens l) q) (m.take (s+1)) (List.replicate n (-1))).map (Value.int .i64)):=fun off ho=>by
      subst ho
      rw [htk,colMv_snoc,List.map_set];rfl
     repeat' (first|refine d1 ?_|refine dd ?_|(show T _ (.ops _ (_::_)::_) _ _ _;first|refine T_val rfl (Val.nilc rfl) rfl rfl rfl ?_|refine T_valC rfl (Val.nilc rfl) rfl rfl rfl rfl rfl ?_|refine T_val rfl (Val.load rfl (fun hg=>rdFz (p:=pm) hmx)) rfl rfl rfl ?_|refine T_valC rfl (Val.load rfl (fun hg=>rdFz (p:=pm) hmx)) rfl rfl rfl rfl rfl ?_|refine T_val rfl (Val.load rfl (fun hg=>rdOwn1 (b:=p18) hav)) rfl rfl rfl ?_|refine T_valC rfl (Val.load rfl (fun hg=>rdOwn1 (b:=p18) hav)) rfl rfl rfl rfl rfl ?_|refine T_op (OpT.storeR (us:=[.int .i64 ((atL (lens l) q).getD x 0:Nat)]) rfl rfl rfl rfl rfl rfl (by show 0+(x:Int).toNat * 1+1≤n * 1;omega) ?_))|(show T _ (.run _ _ (_::_) _ _::_) _ _ _;first|refine rv rfl rfl rfl (Val.nilc rfl) rfl rfl rfl ?_|refine rg rfl rfl rfl (Val.nilc rfl) rfl rfl rfl rfl rfl ?_|refine rv rfl rfl rfl (Val.load rfl (fun hg=>rdFz (p:=pm) hmx)) rfl rfl rfl ?_|refine rg rfl rfl rfl (Val.load rfl (fun hg=>rdFz (p:=pm) hmx)) rfl rfl rfl rfl rfl ?_|refine rv rfl rfl rfl (Val.load rfl (fun hg=>rdOwn1 (b:=p18) hav)) rfl rfl rfl ?_|refine rg rfl rfl rfl (Val.load rfl (fun hg=>rdOwn1 (b:=p18) hav)) rfl rfl rfl rfl rfl ?_)|(show ∀ _:Nat,T _ _ _ _ _;intro _))
     rw [hsetc _ (show 0+(x:Int).toNat * 1=x by omega)]
     exact T_backX (s+1) (by omega) (by omega)
    simp only [decide_eq_false_iff_not] at h8
    obtain rfl:s=m.length:=by omega
    have hcT:colMv (atL (lens l) q) m (List.replicate n (-1))=colT (atL (lens l) q) m:=by unfold colT;rw [hvl,hlsn]
    rw [List.take_of_length_le (Nat.le_refl _),hcT]
    subst hK9
    have hov:out.length≤200000:=by omega
    repeat' (first|refine d1 ?_|refine dd ?_|(show T _ (.ops _ (_::_)::_) _ _ _;refine T_op (OpT.append rfl rfl rfl rfl rfl rfl rfl rfl rfl rfl (fun w hw=>Src.own hw rfl) rfl (by dsimp only;omega) (by omega) (fun A' cap' hA'=>?_)))|(show ∀ _:Nat,T _ _ _ _ _;intro _))
    rename_i blit2
    show T _ (.code (.exit 6)::_) _ _ _
    refine T_rexit (id:=6) (fz pm::blk q16 [.int .i64 ((numL (lens l) (toM (atL (lens l) q) m)):Nat)] 3::blk p15 [.slice A' (out.length+1) cap'] 47::row 27 1 A' cap' (out.length+1) (hs++[(.slice (some ⟨bz,0,none⟩) n n)])::dat (hs++[(.slice (some ⟨bz,0,none⟩) n n)]) ((out++[(colT (atL (lens l) q) m)]).map intsD)::blk b11 (L.map Value.bool) 4::blk p12 [fTv p5 p11] 110::blk p11 [.slice (some ⟨b11,0,none⟩) V V] 109::blk p8 (spcL c A n ca (.slice Am (mvL n).length cm) V) 84::blk p5 [.slice (some ⟨b,o,none⟩) np cp] 27::blk p4 [.slice A n ca] 24::dfrs Dl) (fun _=>rfl) ⟨rfl,m,(A',cap',(.slice (some ⟨bz,0,none⟩) n n)),hfnd,rfl⟩ ?_
    rw [← hu]
    refine (Hle.srtT (A:=[blk blit2 _ _,row 3 1 (some ⟨bz,0,none⟩) n n ((colT (atL (lens l) q) m).map (Value.int .i64)),blk p18 (atV (atL (lens l) q)) 99,lrec Lp (busy r5),blk p17 [.slice (some ⟨bm,om,none⟩) m.length c9, .int .i64 (colZ c l (colT (atL (lens l) q) m)), .int .i64 (u:Nat)] 91,fz pm,blk q16 [.int .i64 (u:Nat)] 3,blk p15 [.slice A' (out.length+1) cap'] 47,row 27 1 A' cap' (out.length+1) (hs++[(.slice (some ⟨bz,0,none⟩) n n)]),dat hs (out.map intsD),blk b11 (L.map Value.bool) 4,blk p12 [fTv p5 p11] 110,blk p11 [.slice (some ⟨b11,0,none⟩) V V] 109,blk p8 (spcL c A n ca (.slice Am (mvL n).length cm) V) 84,blk p5 [.slice (some ⟨b,o,none⟩) np cp] 27,blk p4 [.slice A n ca] 24]) (K:=[row 3 1 (some ⟨bz,0,none⟩) n n ((colT (atL (lens l) q) m).map (Value.int .i64)),dat hs (out.map intsD),lrec Lp (busy r5),fz pm,blk q16 [.int .i64 (u:Nat)] 3,blk p15 [.slice A' (out.length+1) cap'] 47,row 27 1 A' cap' (out.length+1) (hs++[(.slice (some ⟨bz,0,none⟩) n n)]),blk b11 (L.map Value.bool) 4,blk p12 [fTv p5 p11] 110,blk p11 [.slice (some ⟨b11,0,none⟩) V V] 109,blk p8 (spcL c A n ca (.slice Am (mvL n).length cm) V) 84,blk p5 [.slice (some ⟨b,o,none⟩) np cp] 27,blk p4 [.slice A n ca] 24]) (dfrs Dl++K2)).trans ?_
    refine dat_rowV.trans (dat_join.trans ?_)
    have ej:out.map intsD++[D.s 1 (((colT (atL (lens l) q) m).map (Value.int .i64)).map .v)]=(out++[(colT (atL (lens l) q) m)]).map intsD:=by
     rw [List.map_append,List.map_map];rfl
    rw [ej]
    exact Hle.perm ((List.perm_append_comm (l₁:=[_]) (l₂:=[_,_,_,_,_])).append_right (blk b11 (L.map Value.bool) 4::blk p12 [fTv p5 p11] 110::blk p11 [.slice (some ⟨b11,0,none⟩) V V] 109::blk p8 (spcL c A n ca (.slice Am (mvL n).length cm) V) 84::blk p5 [.slice (some ⟨b,o,none⟩) np cp] 27::blk p4 [.slice A n ca] 24::(dfrs Dl++K2)))
   ·rintro D Hn ⟨rfl,hnf⟩
    exfalso
    rw [← find_posT] at hfind
    obtain⟨j,hj,hje⟩:=List.getElem_of_mem (List.mem_of_find?_eq_some hfind)
    have h9:=hnf j mf hj (by rw [List.getElem?_eq_getElem hj,hje])
    have h8:=List.find?_some hfind
    rw [h9] at h8
    cases h8
   ·rintro D id Hx ⟨rfl,m,⟨A',cap',hv9⟩,hfd,rfl⟩
    dsimp only
    have h7:=List.find?_some hfd
    have h7':=h7
    unfold fitT at h7'
    rw [Bool.and_eq_true,Bool.and_eq_true] at h7'
    obtain⟨hti,hs1,hs2,hs3⟩:=toM_rem hno hlsn hvi (List.mem_of_find?_eq_some hfd) h7'.1
    have hstep:=tgV_step hno hlsn hvi hfd
    show T (FC _ _ ((D::Dl).map mkD) _ _ _) _ _ _ (dfr D::blk g2 [.int .i64 (q:Nat)] 3::blk g1 (spcL c A n ca (.slice Am (mvL n).length cm) V) 84::fz pm::blk q16 [.int .i64 ((numL (lens l) (toM (atL (lens l) q) m)):Nat)] 3::blk p15 [.slice A' (out.length+1) cap'] 47::row 27 1 A' cap' (out.length+1) (hs++[hv9])::dat (hs++[hv9]) ((out++[colT (atL (lens l) q) m]).map intsD)::blk b11 (L.map Value.bool) 4::blk p12 [fTv p5 p11] 110::blk p11 [.slice (some ⟨b11,0,none⟩) V V] 109::blk p8 (spcL c A n ca (.slice Am (mvL n).length cm) V) 84::blk p5 [.slice (some ⟨b,o,none⟩) np cp] 27::blk p4 [.slice A n ca] 24::dfrs Dl)
    repeat' (first|refine d1 ?_|refine dd ?_|(show ∀ _:Nat,T _ _ _ _ _;intro _))
    rename_i n16
    show T _ (.mark _::_) _ _ _
    refine T_backD (toM (atL (lens l) q) m,n16,(A',cap'),hs++[hv9],out++[colT (atL (lens l) q) m],D::Dl) ⟨hti,h7'.2.2,by dsimp only;rw [List.length_append];simp;omega,by dsimp only;rw [hout,hstep,List.append_assoc];rfl⟩ (by dsimp only;omega) rfl (hG:=?_)
    dsimp only
    rw [List.length_append]
    exact Hle.srtV (K:=blk n16 [.int .i64 ((numL (lens l) (toM (atL (lens l) q) m)):Nat)] 3::blk p15 [.slice A' (out.length+1) cap'] 47::row 27 1 A' cap' (out.length+1) (hs++[hv9])::dat (hs++[hv9]) ((out++[colT (atL (lens l) q) m]).map intsD)::blk b11 (L.map Value.bool) 4::blk p12 [fTv p5 p11] 110::blk p11 [.slice (some ⟨b11,0,none⟩) V V] 109::blk p8 (spcL c A n ca (.slice Am (mvL n).length cm) V) 84::fz pm::blk p5 [.slice (some ⟨b,o,none⟩) np cp] 27::blk p4 [.slice A n ca] 24::dfr D::dfrs Dl)
  ·have he:v=lens l:=by
    rw [← hat]
    simp at h6
    rw [show q=volL (lens l) - 1 by omega,at_last]
   rw [he,tgV_end hno hlsn,List.append_nil] at hout
   rw [hout]
   repeat' (first|refine d1 ?_|refine dd ?_|(show ∀ _:Nat,T _ _ _ _ _;intro _))
   refine T_retDs [dat [.slice Ao out.length capo] [rowsD out]] ?_ (rf_V (vs:=[.slice Ao out.length capo, .int .i64 0]) _ rfl (Hle.refl _) ⟨_,trivial,rfl,rfl⟩)
   exact Hle.trans (Hle.srtV (K:=row 27 1 Ao capo out.length hs::dat hs (out.map intsD)::dfrs Dl)) dat_row
 ·have hqV:q+1<V:=by omega
  refine T_if rfl (fun _=>?_) (fun h5=>by have h9:=of_decide_eq_false h5;omega)
  rw [show (((q+1:Nat):Int) - 1)=(q:Int) by omega]
  have hin:=atL_in (lens l) q
  have hne:=at_ne_last (ls:=lens l) (q:=q) (by omega) (by omega)
  have hnq:=num_at (lens l) q (by omega)
  have hLq:L.getD q false=false:=by rw [hLF q (by omega),if_neg (by omega)]
  have hL0:L.set q (((posL (lens l) (atL (lens l) q) (mvL n)).take 0).any (fitT (colZ c l) (lens l) (mvL n) p (atL (lens l) q)))=L:=by rw [List.take_zero];exact set_sameB hLq (by omega)
  have hFq:F q=(posL (lens l) (atL (lens l) q) (mvL n)).any (fitT (colZ c l) (lens l) (mvL n) p (atL (lens l) q)):=by
   rw [any_fit,hF]
   dsimp only
   rw [ldV_step hno hlsn hin]
   simp [hne]
  repeat' (first|refine d1 ?_|refine dd ?_|(show T _ (.ops _ (_::_)::_) _ _ _;first|refine T_val rfl (Val.loadA rfl (fun _=>rdAll) rfl) rfl rfl rfl ?_|refine T_valC rfl (Val.loadA rfl (fun _=>rdAll) rfl) rfl rfl rfl rfl rfl ?_|refine T_op (OpT.call rfl rfl rfl rfl rfl (fun w hw=>steps20_fn c A n ca (.slice Am (mvL n).length cm) V q w) (fun u R hR=>?_)))|(show T _ (.run _ _ (_::_) _ _::_) _ _ _;first|refine rv rfl rfl rfl (Val.loadA rfl (fun _=>rdAll) rfl) rfl rfl rfl ?_|refine rg rfl rfl rfl (Val.loadA rfl (fun _=>rdAll) rfl) rfl rfl rfl rfl rfl ?_)|(show ∀ _:Nat,T _ _ _ _ _;intro _))
  obtain⟨⟨g1,g2⟩,-,rfl,rfl⟩:=hR
  refine T_le (H':=blk g2 [.int .i64 (q:Nat)] 3::blk g1 (spcL c A n ca (.slice Am (mvL n).length cm) V) 84::blk q13 [.int .i64 (q:Nat)] 3::blk b11 (L.map Value.bool) 4::blk p12 [fTv p5 p11] 110::blk p11 [.slice (some ⟨b11,0,none⟩) V V] 109::blk p8 (spcL c A n ca (.slice Am (mvL n).length cm) V) 84::fz pm::blk p5 [.slice (some ⟨b,o,none⟩) np cp] 27::blk p4 [.slice A n ca] 24::dfrs Dl) (Hle.refl _) ?_
  refine T_rangeZ (steps20_iter (ca:=ca) (V:=V) hg hc hbs h1n h4n (by omega) (p:=q) (by omega) g1 g2 (fun w _ h9=>h9) hM0) rfl (fun j x B hj hQ=>by obtain⟨m,_,_,_,_,rfl,_⟩:=hQ;exact⟨rfl,rfl⟩)
   (fun jj H=>H=fz pm::blk q13 [.int .i64 (q:Nat)] 3::blk b11 ((L.set q (((posL (lens l) (atL (lens l) q) (mvL n)).take jj).any (fitT (colZ c l) (lens l) (mvL n) p (atL (lens l) q)))).map Value.bool) 4::blk p12 [fTv p5 p11] 110::blk p11 [.slice (some ⟨b11,0,none⟩) V V] 109::blk p8 (spcL c A n ca (.slice Am (mvL n).length cm) V) 84::blk p5 [.slice (some ⟨b,o,none⟩) np cp] 27::blk p4 [.slice A n ca] 24::dfrs Dl) (fun _=>False) (fun _ _=>False)
   (fz pm::blk q13 [.int .i64 (q:Nat)] 3::blk b11 ((L.set q (((posL (lens l) (atL (lens l) q) (mvL n)).take 0).any (fitT (colZ c l) (lens l) (mvL n) p (atL (lens l) q)))).map Value.bool) 4::blk p12 [fTv p5 p11] 110::blk p11 [.slice (some ⟨b11,0,none⟩) V V] 109::blk p8 (spcL c A n ca (.slice Am (mvL n).length cm) V) 84::blk p5 [.slice (some ⟨b,o,none⟩) np cp] 27::blk p4 [.slice A n ca] 24::dfrs Dl) (fun j H h=>by subst h;exact Hle.nth 0 rfl) rfl (by rw [hL0];exact Hle.srtV) ?_ ?_ (fun _ _ h=>h.elim) (fun _ _ _ h=>h.elim)
  ·rintro Lp r5 jj x B Hj K2 hr5 hj hQ rfl
   obtain⟨m,A9,c9,hm,hmr,rfl,rfl⟩:=hQ
   obtain⟨hmm,hpo⟩:=posL_mem (List.mem_of_getElem? hm)
   obtain⟨hti,hs1,hs2,hs3⟩:=toM_rem hno hlsn hin hmm hpo
   have huV:=numL_lt hti
   have hqn:q<numL (lens l) (toM (atL (lens l) q) m):=by
    rw [toM_num _ _ _ (by rw [atL_len]) (fun s hs=>by rw [atL_len,hlsn];exact hno.lt m hmm s hs),hnq]
    have:=stp_pos (ls:=lens l) (hno.ne m hmm) (fun s hs=>by rw [hlsn];exact hno.lt m hmm s hs)
    omega
   obtain⟨X,hX⟩:∃ X,X=((posL (lens l) (atL (lens l) q) (mvL n)).take jj).any (fitT (colZ c l) (lens l) (mvL n) p (atL (lens l) q)):=⟨_,rfl⟩
   have hXs:((posL (lens l) (atL (lens l) q) (mvL n)).take (jj+1)).any (fitT (colZ c l) (lens l) (mvL n) p (atL (lens l) q))=(X || fitT (colZ c l) (lens l) (mvL n) p (atL (lens l) q) m):=by
    rw [take_snoc _ _ _ hm,List.any_append, ← hX];simp
   have hfit:fitT (colZ c l) (lens l) (mvL n) p (atL (lens l) q) m=(decide (pg p q=colZ c l (colT (atL (lens l) q) m)+pg p (numL (lens l) (toM (atL (lens l) q) m))) && (L.set q X).getD (numL (lens l) (toM (atL (lens l) q) m)) false):=by
    rw [set_getB (by omega),if_neg (by omega),hLF _ (by omega),if_pos (by omega),hF]
    dsimp only
    unfold fitT viaP
    rw [hpo,Bool.true_and,hnq,at_num hti]
   obtain⟨u,hu⟩:∃ u,u=numL (lens l) (toM (atL (lens l) q) m):=⟨_,rfl⟩
   rw [← hu, ← hV] at huV
   rw [← hu] at hfit hqn
   have hKb:=colZ_bd hc (show l.length≤32 by omega) (colT (atL (lens l) q) m)
   have hLs:(L.set q X).length=V:=by rw [List.length_set,hL]
   have hLsm:((L.set q X).map Value.bool).length=V:=by rw [List.length_map,hLs]
   have hlq:=lead_get hLs (show q<V by omega)
   rw [set_getB (by omega),if_pos rfl] at hlq
   show T _ _ ((56, .agg #[.slice A9 m.length c9, .int .i64 (colZ c l (colT (atL (lens l) q) m)), .int .i64 (numL (lens l) (toM (atL (lens l) q) m):Nat)])::_) _ (lrec Lp r5::fz pm::blk q13 [.int .i64 (q:Nat)] 3::blk b11 ((L.set q (((posL (lens l) (atL (lens l) q) (mvL n)).take jj).any (fitT (colZ c l) (lens l) (mvL n) p (atL (lens l) q)))).map Value.bool) 4::blk p12 [fTv p5 p11] 110::blk p11 [.slice (some ⟨b11,0,none⟩) V V] 109::blk p8 (spcL c A n ca (.slice Am (mvL n).length cm) V) 84::blk p5 [.slice (some ⟨b,o,none⟩) np cp] 27::blk p4 [.slice A n ca] 24::(dfrs Dl++K2))
   rw [← hX, ← hu]
   repeat' (first|refine d1 ?_|refine dd ?_|(show ∀ _:Nat,T _ _ _ _ _;intro _))
   rename_i p14
   refine T_le (H':=lrec Lp r5::blk p14 [.slice A9 m.length c9, .int .i64 (colZ c l (colT (atL (lens l) q) m)), .int .i64 (u:Nat)] 91::fz pm::blk q13 [.int .i64 (q:Nat)] 3::blk b11 ((L.set q X).map Value.bool) 4::blk p12 [fTv p5 p11] 110::blk p11 [.slice (some ⟨b11,0,none⟩) V V] 109::blk p8 (spcL c A n ca (.slice Am (mvL n).length cm) V) 84::blk p5 [.slice (some ⟨b,o,none⟩) np cp] 27::blk p4 [.slice A n ca] 24::(dfrs Dl++K2)) (Hle.perm (List.Perm.swap _ _ _)) ?_
   refine T_begin hr5 rfl ?_
   repeat' (first|refine d1 ?_|(show ∀ _:Nat,T _ _ _ _ _;intro _))
   refine rsH [blk p14 [.slice A9 m.length c9, .int .i64 (colZ c l (colT (atL (lens l) q) m)), .int .i64 (u:Nat)] 91,blk q13 [.int .i64 (q:Nat)] 3,blk b11 ((L.set q X).map Value.bool) 4,blk p12 [fTv p5 p11] 110,blk p11 [.slice (some ⟨b11,0,none⟩) V V] 109,blk p5 [.slice (some ⟨b,o,none⟩) np cp] 27] 13 [0,1,2,3,4,5,6,7,8,9,10,11,12,13] ?_
   repeat' (first|refine d1 ?_|refine dd ?_|(show T _ (.ops _ (_::_)::_) _ _ _;first|refine T_val rfl (Val.nilc rfl) rfl rfl rfl ?_|refine T_valC rfl (Val.nilc rfl) rfl rfl rfl rfl rfl ?_|refine T_val rfl (Val.load rfl (fun hg=>(fun w hw=>hlq w b11 (rdAll w hw)))) rfl rfl rfl ?_|refine T_valC rfl (Val.load rfl (fun hg=>(fun w hw=>hlq w b11 (rdAll w hw)))) rfl rfl rfl rfl rfl ?_|refine T_val rfl (Val.loadA rfl (fun _=>rdAll) rfl) rfl rfl rfl ?_|refine T_valC rfl (Val.loadA rfl (fun _=>rdAll) rfl) rfl rfl rfl rfl rfl ?_|refine T_call rfl rfl rfl rfl rfl (fun w hw=>tight1_spec p (L.set q X) b o np cp p5 p11 b11 V q u (colZ c l (colT (atL (lens l) q) m)) _ m.length c9 w (rdAll w hw) (rdAll w hw) (rdSrc hp w hw) hnp (rdAll w hw) hLs (by omega) (by omega) huV hKb (hpb2 u)) ?_|refine T_callC rfl rfl rfl rfl rfl rfl rfl (fun hg w hw=>tight1_spec p (L.set q X) b o np cp p5 p11 b11 V q u (colZ c l (colT (atL (lens l) q) m)) _ m.length c9 w (rdAll w hw) (rdAll w hw) (rdSrc hp w hw) hnp (rdAll w hw) hLs (by omega) (by omega) huV hKb (hpb2 u)) ?_)|(show T _ (.run _ _ (_::_) _ _::_) _ _ _;first|refine rv rfl rfl rfl (Val.nilc rfl) rfl rfl rfl ?_|refine rg rfl rfl rfl (Val.nilc rfl) rfl rfl rfl rfl rfl ?_|refine rv rfl rfl rfl (Val.load rfl (fun hg=>(fun w hw=>hlq w b11 (rdAll w hw)))) rfl rfl rfl ?_|refine rg rfl rfl rfl (Val.load rfl (fun hg=>(fun w hw=>hlq w b11 (rdAll w hw)))) rfl rfl rfl rfl rfl ?_|refine rv rfl rfl rfl (Val.loadA rfl (fun _=>rdAll) rfl) rfl rfl rfl ?_|refine rg rfl rfl rfl (Val.loadA rfl (fun _=>rdAll) rfl) rfl rfl rfl rfl rfl ?_|refine rc rfl rfl rfl rfl rfl rfl rfl (fun w hw=>tight1_spec p (L.set q X) b o np cp p5 p11 b11 V q u (colZ c l (colT (atL (lens l) q) m)) _ m.length c9 w (rdAll w hw) (rdAll w hw) (rdSrc hp w hw) hnp (rdAll w hw) hLs (by omega) (by omega) huV hKb (hpb2 u)) ?_|refine rcG rfl rfl rfl rfl rfl rfl rfl rfl rfl (fun hg w hw=>tight1_spec p (L.set q X) b o np cp p5 p11 b11 V q u (colZ c l (colT (atL (lens l) q) m)) _ m.length c9 w (rdAll w hw) (rdAll w hw) (rdSrc hp w hw) hnp (rdAll w hw) hLs (by omega) (by omega) huV hKb (hpb2 u)) ?_|refine ro rfl rfl (OpT.store rfl rfl rfl rfl (by rw [hLsm];omega) ⟨fun hlv=>absurd hlv (by decide +kernel),?_⟩))|(show ∀ _:Nat,T _ _ _ _ _;intro _))
   refine T_next _ rfl ?_
   rw [hXs,hfit]
   have e9:((L.set q X).map Value.bool).set (0+(q:Int).toNat * 1) (.bool (X || (decide (pg p q=colZ c l (colT (atL (lens l) q) m)+pg p u) && (L.set q X).getD u false)))=(L.set q (X || (decide (pg p q=colZ c l (colT (atL (lens l) q) m)+pg p u) && (L.set q X).getD u false))).map Value.bool:=by
    rw [show 0+(q:Int).toNat * 1=q by omega, ← List.map_set,List.set_set]
   rw [← e9]
   exact Hle.drop2 _ _ _
  ·rintro D Hn rfl
   rw [List.take_length, ← hFq]
   show T (FC _ _ ((D::Dl).map mkD) _ _ _) _ _ _ (dfr D::blk g2 [.int .i64 (q:Nat)] 3::blk g1 (spcL c A n ca (.slice Am (mvL n).length cm) V) 84::fz pm::blk q13 [.int .i64 (q:Nat)] 3::blk b11 ((L.set q (F q)).map Value.bool) 4::blk p12 [fTv p5 p11] 110::blk p11 [.slice (some ⟨b11,0,none⟩) V V] 109::blk p8 (spcL c A n ca (.slice Am (mvL n).length cm) V) 84::blk p5 [.slice (some ⟨b,o,none⟩) np cp] 27::blk p4 [.slice A n ca] 24::dfrs Dl)
   repeat' (first|refine d1 ?_|refine dd ?_|(show ∀ _:Nat,T _ _ _ _ _;intro _))
   rename_i n13
   show T _ (.mark _::_) _ _ _
   refine T_backD (q,n13,L.set q (F q),D::Dl) ⟨by dsimp only;omega,by dsimp only;rw [List.length_set,hL],fun q' h5=>?_⟩ (by dsimp only;omega) rfl (hG:=?_)
   ·dsimp only
    rw [set_getB (by omega)]
    by_cases e:q=q'
    ·rw [if_pos e,if_pos (by omega),e]
    ·rw [if_neg e,hLF q' h5]
     by_cases e2:q+1≤q'
     ·rw [if_pos e2,if_pos (by omega)]
     ·rw [if_neg e2,if_neg (by omega)]
   ·dsimp only
    exact Hle.srtV (K:=blk n13 [.int .i64 ((q:Int) - 1)] 3::blk b11 ((L.set q (F q)).map Value.bool) 4::blk p12 [fTv p5 p11] 110::blk p11 [.slice (some ⟨b11,0,none⟩) V V] 109::blk p8 (spcL c A n ca (.slice Am (mvL n).length cm) V) 84::fz pm::blk p5 [.slice (some ⟨b,o,none⟩) np cp] 27::blk p4 [.slice A n ca] 24::dfr D::dfrs Dl)
end Go.Proofs.YthadgaboakipoaaGreatDoor
namespace Go.Proofs.YthadgaboakipoaaGreatDoor
open Go.RowKit Go.Shelf Go.Proofs
set_option maxRecDepth 100000
set_option maxHeartbeats 1000000

noncomputable def potV (c:Costs) (l:List TS):List Int × Int:=if opE c l≠0 then ([],opE c l) else (potL (colZ c l) (lens l) (mvL l.length),0)
theorem potentials20_spec (c:Costs) (A:Option Addr) (n ca:Nat) (l:List TS) (w:World) (hf:Fit w A n l) :
  Spec Tryz.prog 16 [c.val, .slice A n ca] w (fun v R=>∃ x:Value,True∧v = .tuple #[x, .int .i64 (potV c l).2]∧R=[dat [x] [intsD (potV c l).1]]):=by
 have hn:=hf.hn
 refine spec_of sg Tryz.func16 rfl rfl rfl ?_
 refine T_op (OpT.box (cs:=c.cells) rfl rfl rfl rfl rfl rfl rfl (fun pc=>?_))
 by_cases hp:opE c l≠0
 ·have e:potV c l=([],opE c l):=if_pos hp
  rw [e]
  repeat' (first|refine d1 ?_|refine dd ?_|(show T _ (.ops _ (_::_)::_) _ _ _;refine T_op (OpT.call rfl rfl rfl rfl rfl (fun w hw=>openBad_spec c A n ca l w (hf.cls hw) hp) ?_))|(show ∀ _:Nat,T _ _ _ _ _;intro _))
  rintro v R ⟨c',-,rfl,rfl⟩
  repeat' (first|refine d1 ?_|refine dd ?_|(show ∀ _:Nat,T _ _ _ _ _;intro _))
  refine T_if rfl (fun _=>?_) (fun h=>by exfalso;simp at h;exact hp h)
  repeat' (first|refine d1 ?_|refine dd ?_|(show ∀ _:Nat,T _ _ _ _ _;intro _)|(show T _ (.code .ret::_) _ _ _;refine T_retV _ rfl ((hle_unit (B:=dat [.slice none 0 0] [intsD []]) (.s none 0 0 1 [] rfl (Nat.le_refl _) (by omega) (fun h=>absurd h (by omega)) .nil .nil)).trans (Hle.nth 0 rfl)) ⟨_,trivial,rfl,rfl⟩))
 have hp:opE c l=0:=by simpa using hp
 have e:potV c l=(potL (colZ c l) (lens l) (mvL l.length),0):=if_neg (by simpa using hp)
 rw [e]
 obtain⟨hpl,hck⟩:=opE_ok hp
 obtain⟨h1,hb,h4,hv⟩:=plE_ok hpl
 obtain⟨hc,hbs⟩:=ck21_ok hck
 have hg:=hf.grp hb
 have hll:=lens_len l
 have hlsn:(lens l).length=n:=by omega
 have h1n:1≤n:=by omega
 have h4n:n≤4:=by omega
 have hno:=mvL_ok h1n h4n
 repeat' (first|refine d1 ?_|refine dd ?_|(show T _ (.ops _ (_::_)::_) _ _ _;refine T_op (OpT.call rfl rfl rfl rfl rfl (fun w hw=>openOk_spec c A n ca l w (hf.cls hw) hp) ?_))|(show ∀ _:Nat,T _ _ _ _ _;intro _))
 rintro v R ⟨M,-,rfl,rfl⟩
 refine T_le (H':=dat [M] [rowsD ((mvL n).map intN)]::blk pc c.cells 23::[]) (Hle.refl _) ?_
 refine T_open fun pm hM=>?_
 have hM0:=hM
 obtain⟨Am,cm,csm,rfl,-⟩:=hM.tab
 rw [List.length_map] at hM0 ⊢
 obtain⟨V,hV⟩:∃ V,V=volL (lens l):=⟨_,rfl⟩
 have hVp:0<V:=by rw [hV];exact volL_pos _
 rw [← hV] at hv ⊢
 repeat' (first|refine d1 ?_|refine dd ?_|(show ∀ _:Nat,T _ _ _ _ _;intro _))
 rename_i p6
 refine T_if rfl (fun h=>by exfalso;simp at h) (fun _=>?_)
 repeat' (first|refine d1 ?_|refine dd ?_|(show T _ (.ops _ (_::_)::_) _ _ _;refine T_op (OpT.make rfl rfl rfl rfl rfl rfl rfl rfl rfl (by dsimp only;omega) (fun b1=>?_)))|(show ∀ _:Nat,T _ _ _ _ _;intro _))
 rename_i p8
 have hKn:=colZ_nn hc h4
 have hfub:∀ v,0≤rsV (colZ c l) (lens l) (mvL n) v∧rsV (colZ c l) (lens l) (mvL n) v≤4096000000:=fun v=>rsV_ub hc h4 hg.nb v _
 obtain⟨F,hF⟩:∃ F:Nat→Int,F=fun q=>rsV (colZ c l) (lens l) (mvL n) (atL (lens l) q):=⟨_,rfl⟩
 have hFb:∀ q,0≤F q∧F q≤4096000000:=fun q=>by rw [hF];exact hfub _
 have hSp:∀ {w':World} {b:Nat},RdC w' b 0 (spcL c A n ca (.slice Am (mvL n).length cm) V)→RdC w' b (0+6) [.int .i64 (V:Nat)]:=fun h9=>h9.at rfl
 refine T_keep [(6, .pointer (some ⟨p6,0,none⟩)),(8, .pointer (some ⟨p8,0,none⟩)),(9, .int .i64 ((V:Int) - 2))] ⟨rfl,rfl,rfl,trivial⟩ ?_
 refine T_le (H':=blk p8 [.slice (some ⟨b1,0,none⟩) V V] 27::blk b1 ((List.replicate V (0:Int)).map (Value.int .i64)) 3::blk p6 (spcL c A n ca (.slice Am (mvL n).length cm) V) 84::fz pm::[]) (by rw [List.map_replicate];exact Hle.srt) ?_
 show T (FC _ _ (([]:List Nat).map mkD) _ _ _) _ _ _ _
 refine T_loopDX (fun s:Nat × List Int × List Nat=>[(9, .int .i64 ((s.1:Int) - 1))]) (fun s=>blk p8 [.slice (some ⟨b1,0,none⟩) V V] 27::blk b1 (s.2.1.map (Value.int .i64)) 3::blk p6 (spcL c A n ca (.slice Am (mvL n).length cm) V) 84::fz pm::[]) (fun s=>s.2.2) (fun s=>s.1≤V - 1∧s.2.1.length=V∧∀ q,s.1≤q→q<V→s.2.1[q]?=some (F q)) (fun s=>s.1) (V - 1,List.replicate V 0,[]) ⟨Nat.le_refl _,by simp,fun q h5 h6=>?_⟩ rfl ?_ (hE:=⟨by dsimp only;rw [show ((V - 1:Nat):Int) - 1=(V:Int) - 2 by omega];rfl,trivial⟩)
 ·dsimp only at h5 ⊢
  rw [show q=V - 1 by omega,hF]
  dsimp only
  rw [hV,at_last,rsV_end,List.getElem?_replicate,if_pos (by rw [← hV];omega)]
 rintro⟨r,L,Dl⟩ ⟨hr,hL,hLF⟩
 dsimp only at hr hL hLF ⊢
 refine T_le (H':=blk p8 [.slice (some ⟨b1,0,none⟩) V V] 27::blk b1 (L.map (Value.int .i64)) 3::blk p6 (spcL c A n ca (.slice Am (mvL n).length cm) V) 84::fz pm::dfrs Dl) (Hle.refl _) ?_
 have hLm:(L.map (Value.int .i64)).length=V:=by rw [List.length_map,hL]
 repeat' (first|refine d1 ?_|refine dd ?_|(show ∀ _:Nat,T _ _ _ _ _;intro _))
 rcases r with _|p
 ·refine T_if rfl (fun h5=>by exfalso;simp at h5) (fun _=>?_)
  have hLe:L=potL (colZ c l) (lens l) (mvL l.length):=by
   refine List.ext_getElem? fun q=>?_
   by_cases hq:q<V
   ·rw [hLF q (by omega) hq,hn,potL_get _ _ _ (by rw [← hV];exact hq),hF]
   ·rw [List.getElem?_eq_none (by omega),List.getElem?_eq_none (by rw [potL_len, ← hV];omega)]
  rw [hLe] at hLm ⊢
  repeat' (first|refine d1 ?_|refine dd ?_|(show ∀ _:Nat,T _ _ _ _ _;intro _))
  refine T_retDs [dat [.slice (some ⟨b1,0,none⟩) V V] [intsD (potL (colZ c l) (lens l) (mvL l.length))]] ?_ (rf_V (vs:=[.slice (some ⟨b1,0,none⟩) V V, .int .i64 0]) _ rfl (Hle.refl _) ⟨_,trivial,rfl,rfl⟩)
  have hd:=dat_blkV (e:=3) (sz:=1) (n:=V) (b:=b1) (cs:=(potL (colZ c l) (lens l) (mvL l.length)).map (Value.int .i64)) (H:=dfrs Dl) (by rw [hLm,Nat.mul_one]) (by omega)
  rw [List.map_map] at hd
  exact Hle.trans (Hle.srtV (K:=blk b1 ((potL (colZ c l) (lens l) (mvL l.length)).map (Value.int .i64)) 3::dfrs Dl)) hd
 have hpV:p+1<V:=by omega
 refine T_if rfl (fun _=>?_) (fun h5=>by have h9:=of_decide_eq_false h5;omega)
 rw [show (((p+1:Nat):Int) - 1)=(p:Int) by omega]
 repeat' (first|refine d1 ?_|refine dd ?_|(show T _ (.ops _ (_::_)::_) _ _ _;first|refine T_val rfl (Val.loadA rfl (fun _=>rdAll) rfl) rfl rfl rfl ?_|refine T_valC rfl (Val.loadA rfl (fun _=>rdAll) rfl) rfl rfl rfl rfl rfl ?_|refine T_op (OpT.call rfl rfl rfl rfl rfl (fun w hw=>steps20_fn c A n ca (.slice Am (mvL n).length cm) V p w) (fun u R hR=>?_)))|(show T _ (.run _ _ (_::_) _ _::_) _ _ _;first|refine rv rfl rfl rfl (Val.loadA rfl (fun _=>rdAll) rfl) rfl rfl rfl ?_|refine rg rfl rfl rfl (Val.loadA rfl (fun _=>rdAll) rfl) rfl rfl rfl rfl rfl ?_)|(show ∀ _:Nat,T _ _ _ _ _;intro _))
 obtain⟨⟨g1,g2⟩,-,rfl,rfl⟩:=hR
 rename_i p10
 have hin:=atL_in (lens l) p
 have hne:=at_ne_last (ls:=lens l) (q:=p) (by omega) (by omega)
 have hstep:=rsV_step hKn hno hlsn hin hne
 have hnum:=num_at (lens l) p (by omega)
 refine T_le (H':=blk g2 [.int .i64 (p:Nat)] 3::blk g1 (spcL c A n ca (.slice Am (mvL n).length cm) V) 84::blk p10 [.int .i64 (-1)] 3::blk p8 [.slice (some ⟨b1,0,none⟩) V V] 27::blk b1 (L.map (Value.int .i64)) 3::blk p6 (spcL c A n ca (.slice Am (mvL n).length cm) V) 84::fz pm::dfrs Dl) (Hle.refl _) ?_
 refine T_rangeZ (steps20_iter (ca:=ca) (V:=V) hg hc hbs h1n h4n (by omega) (p:=p) (by omega) g1 g2 (fun w _ h9=>h9) hM0) rfl (fun j x B hj hQ=>by obtain⟨m,_,_,_,_,rfl,_⟩:=hQ;exact⟨rfl,rfl⟩)
  (fun jj H=>H=fz pm::blk p10 [.int .i64 (foldB (possM (lens l) (atL (lens l) p)) (mcV (colZ c l) (lens l) (mvL n) (atL (lens l) p)) ((posL (lens l) (atL (lens l) p) (mvL n)).take jj) (-1))] 3::blk p8 [.slice (some ⟨b1,0,none⟩) V V] 27::blk b1 (L.map (Value.int .i64)) 3::blk p6 (spcL c A n ca (.slice Am (mvL n).length cm) V) 84::dfrs Dl) (fun _=>False) (fun _ _=>False) (fz pm::blk p10 [.int .i64 (-1)] 3::blk p8 [.slice (some ⟨b1,0,none⟩) V V] 27::blk b1 (L.map (Value.int .i64)) 3::blk p6 (spcL c A n ca (.slice Am (mvL n).length cm) V) 84::dfrs Dl) (fun j H h=>by subst h;exact Hle.nth 0 rfl) rfl Hle.srtV ?_ ?_ (fun _ _ h=>h.elim) (fun _ _ _ h=>h.elim)
 ·rintro Lp r5 jj x B Hj K2 hr5 hj hQ rfl
  obtain⟨m,A9,c9,hm,hmr,rfl,rfl⟩:=hQ
  obtain⟨hmm,hpo⟩:=posL_mem (List.mem_of_getElem? hm)
  obtain⟨hti,hs1,hs2,hs3⟩:=toM_rem hno hlsn hin hmm hpo
  have hqV:=numL_lt hti
  have hmp:0<m.length:=hs2
  have hqn:p<numL (lens l) (toM (atL (lens l) p) m):=by
   rw [toM_num _ _ _ (by rw [atL_len]) (fun s hs=>by rw [atL_len,hlsn];exact hno.lt m hmm s hs),hnum]
   have:=stp_pos (ls:=lens l) (hno.ne m hmm) (fun s hs=>by rw [hlsn];exact hno.lt m hmm s hs)
   omega
  have hFq:F (numL (lens l) (toM (atL (lens l) p) m))=rsV (colZ c l) (lens l) (mvL n) (toM (atL (lens l) p) m):=by rw [hF];dsimp only;rw [at_num hti]
  obtain⟨q,hq⟩:∃ q,q=numL (lens l) (toM (atL (lens l) p) m):=⟨_,rfl⟩
  rw [← hq, ← hV] at hqV
  rw [← hq] at hqn hFq
  have hXb:=foldB_spec (p:=possM (lens l) (atL (lens l) p)) (mcV_nn hKn (lens l) (mvL n) (atL (lens l) p)) ((posL (lens l) (atL (lens l) p) (mvL n)).take jj) (-1) (by omega)
  have hXu:foldB (possM (lens l) (atL (lens l) p)) (mcV (colZ c l) (lens l) (mvL n) (atL (lens l) p)) ((posL (lens l) (atL (lens l) p) (mvL n)).take jj) (-1)≤4097024000:=foldB_ub (fun m=>by
   have h8:=colZ_bd hc (show l.length≤32 by omega) (colT (atL (lens l) p) m)
   have h9:=hfub (toM (atL (lens l) p) m)
   unfold mcV
   omega) _ _ (by omega)
  obtain⟨X,hX⟩:∃ X,X=foldB (possM (lens l) (atL (lens l) p)) (mcV (colZ c l) (lens l) (mvL n) (atL (lens l) p)) ((posL (lens l) (atL (lens l) p) (mvL n)).take jj) (-1):=⟨_,rfl⟩
  have hXs:foldB (possM (lens l) (atL (lens l) p)) (mcV (colZ c l) (lens l) (mvL n) (atL (lens l) p)) ((posL (lens l) (atL (lens l) p) (mvL n)).take (jj+1)) (-1)=bst X (colZ c l (colT (atL (lens l) p) m)+F q):=by
   rw [take_snoc _ _ _ hm,foldB_app, ← hX,hFq]
   show cond (possM (lens l) (atL (lens l) p) m) _ _=_
   rw [hpo];rfl
  rw [← hX] at hXb hXu
  have hX1:=hXb.1
  clear hXb
  have hKb:=colZ_bd hc (show l.length≤32 by omega) (colT (atL (lens l) p) m)
  have hFq2:=hFb q
  have hcq:∀ w,RdC w b1 0 (L.map (Value.int .i64))→RdC w b1 (0+(q:Int).toNat * 1) [.int .i64 (F q)]:=fun w h9=>rdAt h9 (by omega) (hLF q (by omega) (by omega))
  show T _ _ ((35, .agg #[.slice A9 m.length c9, .int .i64 (colZ c l (colT (atL (lens l) p) m)), .int .i64 (numL (lens l) (toM (atL (lens l) p) m):Nat)])::_) _ (lrec Lp r5::fz pm::blk p10 [.int .i64 (foldB (possM (lens l) (atL (lens l) p)) (mcV (colZ c l) (lens l) (mvL n) (atL (lens l) p)) ((posL (lens l) (atL (lens l) p) (mvL n)).take jj) (-1))] 3::blk p8 [.slice (some ⟨b1,0,none⟩) V V] 27::blk b1 (L.map (Value.int .i64)) 3::blk p6 (spcL c A n ca (.slice Am (mvL n).length cm) V) 84::(dfrs Dl++K2))
  rw [← hX, ← hq]
  repeat' (first|refine d1 ?_|refine dd ?_|(show ∀ _:Nat,T _ _ _ _ _;intro _))
  rename_i p11
  refine T_le (H':=lrec Lp r5::blk p11 [.slice A9 m.length c9, .int .i64 (colZ c l (colT (atL (lens l) p) m)), .int .i64 (q:Nat)] 91::fz pm::blk p10 [.int .i64 X] 3::blk p8 [.slice (some ⟨b1,0,none⟩) V V] 27::blk b1 (L.map (Value.int .i64)) 3::blk p6 (spcL c A n ca (.slice Am (mvL n).length cm) V) 84::(dfrs Dl++K2)) (Hle.perm (List.Perm.swap _ _ _)) ?_
  refine T_begin hr5 rfl ?_
  repeat' (first|refine d1 ?_|refine dd ?_|(show T _ (.ops _ (_::_)::_) _ _ _;first|refine T_val rfl (Val.nilc rfl) rfl rfl rfl ?_|refine T_valC rfl (Val.nilc rfl) rfl rfl rfl rfl rfl ?_|refine T_val rfl (Val.load rfl (fun hg=>(fun w hw=>hcq w (rdAll w hw)))) rfl rfl rfl ?_|refine T_valC rfl (Val.load rfl (fun hg=>(fun w hw=>hcq w (rdAll w hw)))) rfl rfl rfl rfl rfl ?_)|(show T _ (.run _ _ (_::_) _ _::_) _ _ _;first|refine rv rfl rfl rfl (Val.nilc rfl) rfl rfl rfl ?_|refine rg rfl rfl rfl (Val.nilc rfl) rfl rfl rfl rfl rfl ?_|refine rv rfl rfl rfl (Val.load rfl (fun hg=>(fun w hw=>hcq w (rdAll w hw)))) rfl rfl rfl ?_|refine rg rfl rfl rfl (Val.load rfl (fun hg=>(fun w hw=>hcq w (rdAll w hw)))) rfl rfl rfl rfl rfl ?_)|(show ∀ _:Nat,T _ _ _ _ _;intro _))
  refine T_if rfl (fun h5=>?_) (fun h5=>?_)
  ·have hbs9:bst X (colZ c l (colT (atL (lens l) p) m)+F q)=colZ c l (colT (atL (lens l) p) m)+F q:=by unfold bst;rw [if_pos (by simpa using h5)]
   repeat' (first|refine d1 ?_|refine dd ?_|(show ∀ _:Nat,T _ _ _ _ _;intro _))
   refine T_next (fz pm::blk p10 [.int .i64 (foldB (possM (lens l) (atL (lens l) p)) (mcV (colZ c l) (lens l) (mvL n) (atL (lens l) p)) ((posL (lens l) (atL (lens l) p) (mvL n)).take (jj+1)) (-1))] 3::blk p8 [.slice (some ⟨b1,0,none⟩) V V] 27::blk b1 (L.map (Value.int .i64)) 3::blk p6 (spcL c A n ca (.slice Am (mvL n).length cm) V) 84::dfrs Dl) rfl ?_
   rw [hXs,hbs9]
   exact Hle.drop2 _ _ _
  ·have hbs9:bst X (colZ c l (colT (atL (lens l) p) m)+F q)=X:=by unfold bst;rw [if_neg (by simpa using h5)]
   repeat' (first|refine d1 ?_|refine dd ?_|(show ∀ _:Nat,T _ _ _ _ _;intro _))
   refine T_next (fz pm::blk p10 [.int .i64 (foldB (possM (lens l) (atL (lens l) p)) (mcV (colZ c l) (lens l) (mvL n) (atL (lens l) p)) ((posL (lens l) (atL (lens l) p) (mvL n)).take (jj+1)) (-1))] 3::blk p8 [.slice (some ⟨b1,0,none⟩) V V] 27::blk b1 (L.map (Value.int .i64)) 3::blk p6 (spcL c A n ca (.slice Am (mvL n).length cm) V) 84::dfrs Dl) rfl ?_
   rw [hXs,hbs9]
   exact Hle.drop2 _ _ _
 ·rintro D Hn rfl
  have hFp:foldB (possM (lens l) (atL (lens l) p)) (mcV (colZ c l) (lens l) (mvL n) (atL (lens l) p)) ((posL (lens l) (atL (lens l) p) (mvL n)).take (posL (lens l) (atL (lens l) p) (mvL n)).length) (-1)=F p:=by rw [List.take_length,foldB_posL, ← hstep,hF]
  rw [hFp]
  show T (FC _ _ ((D::Dl).map mkD) _ _ _) _ _ _ (dfr D::blk g2 [.int .i64 (p:Nat)] 3::blk g1 (spcL c A n ca (.slice Am (mvL n).length cm) V) 84::fz pm::blk p10 [.int .i64 (F p)] 3::blk p8 [.slice (some ⟨b1,0,none⟩) V V] 27::blk b1 (L.map (Value.int .i64)) 3::blk p6 (spcL c A n ca (.slice Am (mvL n).length cm) V) 84::dfrs Dl)
  repeat' (first|refine d1 ?_|refine dd ?_|(show T _ (.ops _ (_::_)::_) _ _ _;refine T_op (OpT.store rfl rfl rfl rfl (by rw [hLm];omega) ?_))|(show ∀ _:Nat,T _ _ _ _ _;intro _))
  have e9:(L.map (Value.int .i64)).set (0+(p:Int).toNat * 1) (.int .i64 (F p))=(L.set p (F p)).map (Value.int .i64):=by
   rw [show 0+(p:Int).toNat * 1=p by omega, ← List.map_set]
  rw [e9]
  show T _ (.mark _::_) _ _ _
  refine T_backD (p,L.set p (F p),D::Dl) ⟨by dsimp only;omega,by dsimp only;rw [List.length_set,hL],fun q h5 h6=>?_⟩ (by dsimp only;omega) rfl (hG:=?_)
  ·dsimp only at h5 ⊢
   by_cases hqp:q=p
   ·rw [hqp,List.getElem?_set_self (by omega)]
   ·rw [List.getElem?_set_ne (by omega)];exact hLF q (by omega) h6
  ·dsimp only
   exact Hle.srtV (K:=blk p8 [.slice (some ⟨b1,0,none⟩) V V] 27::blk b1 ((L.set p (F p)).map (Value.int .i64)) 3::blk p6 (spcL c A n ca (.slice Am (mvL n).length cm) V) 84::fz pm::dfr D::dfrs Dl)
end Go.Proofs.YthadgaboakipoaaGreatDoor
namespace Go.Proofs.YthadgaboakipoaaGreatDoor
open Go.RowKit Go.Shelf Go.Proofs
set_option maxRecDepth 100000
set_option linter.unusedSectionVars false
set_option maxHeartbeats 1000000

theorem pg_some {p:List Int} {q:Nat} (h:q<p.length):p[q]?=some (pg p q):=by unfold pg;rw [List.getD_eq_getElem?_getD,List.getElem?_eq_getElem h];rfl
structure Use20 (c:Costs) (l:List TS):Prop where
 op:opE c l=0
 h1:1≤l.length
 h4:l.length≤4
 hv:volL (lens l)≤65536
 hc:costE c=0
 hbs:badS l=false
 hq:∀ t∈l,t.n≤6
 hln:∀ t∈l,t.l.length=t.n
theorem Fit.use {w:World} {A:Option Addr} {n:Nat} {l:List TS} (hf:Fit w A n l) {c:Costs} (h:opE c l=0):Use20 c l:=by
 obtain⟨hpl,hck⟩:=opE_ok h
 obtain⟨h1,hb,h4,hv⟩:=plE_ok hpl
 obtain⟨hc,hbs⟩:=ck21_ok hck
 exact⟨h,h1,h4,hv,hc,hbs,(hf.six hb).2,hf.ok.len⟩
section
variable {c:Costs} {l:List TS} (h:Use20 c l)
include h
theorem Use20.ub (v:List Nat):rsV (colZ c l) (lens l) (mvL l.length) v≤24576000:=by
 unfold rsV
 have h9:=h.h4
 have h1:=rsM_ub (K:=colZ c l) (B:=1024000) (by omega) (fun x=>(colZ_bd h.hc (by omega) x).2) (lens l) (mvL l.length) (sumL (lens l) - sumL v) v
 have h2:=sumL_lensQ h.hq
 omega
theorem Use20.pot:potV c l=(potL (colZ c l) (lens l) (mvL l.length),0):=if_neg fun h9=>h9 h.op
theorem Use20.prs:prsW c l=(prsL c l,0):=if_neg fun h9=>h9 h.op
theorem Use20.fea:feaE (colZ c l) (lens l) (mvL l.length) (potL (colZ c l) (lens l) (mvL l.length))=0 :=
 potL_fea (K:=colZ c l) (colZ_nn h.hc h.h4) (mvL_ok h.h1 h.h4) (lens_len l) fun v=>by have:=h.ub v;omega
theorem Use20.chk (p:List Int):chkV20 c l p=feaE (colZ c l) (lens l) (mvL l.length) p:=if_neg fun h9=>h9 h.op
theorem Use20.zero:pg (potL (colZ c l) (lens l) (mvL l.length)) 0=lstV c l:=by
 rw [potL_pg _ _ _ (volL_pos _)]
 have h9:=at_num (InB.zero (lens l))
 rw [numL_zero,lens_len] at h9
 rw [h9];rfl
theorem Use20.us:usV c l=0:=by
 unfold usV ck21
 rw [if_neg (by have:=h.h1;omega),if_pos ⟨h.hc,h.hbs⟩]
theorem Use20.aln:aln19 c l=(alnW c l,lstV c l,0):=by
 unfold aln19
 rw [if_neg fun h9=>h9 h.us,if_neg (by have:=h.h4;have:=h.hv;omega)]
theorem Use20.slk {cols:List (List Int)} {p:List Int} (hk:ColsOk (lens l) cols) (hf:feaE (colZ c l) (lens l) (mvL l.length) p=0):slkV c l cols p=(totZ c l cols - pg p 0,0):=by
 unfold slkV
 rw [if_neg fun h9=>h9 h.op,if_neg fun h9=>h9 (chkC_ok (by have:=h.h1;omega) hk),if_neg fun h9=>h9 hf]
theorem Use20.tgt (p:List Int):tgtV c l p=if feaE (colZ c l) (lens l) (mvL l.length) p≠0 then ([],feaE (colZ c l) (lens l) (mvL l.length) p)
  else if ldV (colZ c l) (lens l) (mvL l.length) p (List.replicate l.length 0)=true then (tgV (colZ c l) (lens l) (mvL l.length) p (List.replicate l.length 0),0) else ([],6):=if_neg fun h9=>h9 h.op
theorem Use20.in0:InB (lens l) (List.replicate l.length 0):=by have h9:=InB.zero (lens l);rw [lens_len] at h9;exact h9
theorem Use20.tgtPot:tgtV c l (potL (colZ c l) (lens l) (mvL l.length))=(alnW c l,0):=by
 have hK:=colZ_nn h.hc h.h4
 have hM:=mvL_ok h.h1 h.h4
 rw [h.tgt,if_neg fun h9=>h9 h.fea,if_pos (potL_ld (K:=colZ c l) hK hM (lens_len l) _ _ h.in0 rfl)]
 show (tgF _ _ _ _ _ _,(0:Int))=(alM _ _ _ _ _,0)
 rw [potL_tg (K:=colZ c l) hK hM (lens_len l) _ _ h.in0]
theorem Use20.below {p:List Int} (hf:chkV20 c l p=0):p.length=volL (lens l)∧∀ q,q<volL (lens l)→pg p q≤pg (potL (colZ c l) (lens l) (mvL l.length)) q:=by
 rw [h.chk] at hf
 exact⟨(feaE_ok.1 hf).1,fun q hq=>fea_pot (K:=colZ c l) (colZ_nn h.hc h.h4) (mvL_ok h.h1 h.h4) (lens_len l) hf hq⟩
theorem Use20.hb:∀ t∈l,t.l.length≤1000:=fun t ht=>by rw [h.hln t ht];have:=h.hq t ht;omega
theorem Use20.two (h2:l.length=2):prsL c l=potL (colZ c l) (lens l) (mvL l.length):=prsL_two h.hc h2 h.hln h.hb
end
theorem chkC_cols {l:List TS} {cols:List (List Int)} (h:chkC l cols=0):ColsOk (lens l) cols:=by
 unfold chkC at h
 by_cases h1:l.length=0
 ·rw [if_pos h1] at h;omega
 ·rw [if_neg h1] at h
  by_cases h2:ColsOk (lens l) cols
  ·exact h2
  ·rw [if_neg h2] at h;omega
end Go.Proofs.YthadgaboakipoaaGreatDoor
