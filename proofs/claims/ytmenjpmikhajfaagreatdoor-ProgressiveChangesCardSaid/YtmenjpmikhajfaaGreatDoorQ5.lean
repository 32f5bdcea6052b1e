/- Joined texts of this claim, part 5. -/
import Derived.Test.YtmenjpmikhajfaaGreatDoorQ4
import Derived.Shelf.SlSortCmp.Whole1
set_option linter.unusedVariables false
set_option linter.unusedSimpArgs false
namespace Go.Proofs.YtmenjpmikhajfaaGreatDoor
open Go.RowKit Go.Shelf Go.Proofs
set_option maxRecDepth 100000
set_option maxHeartbeats 1000000

theorem flat_one:∀ xs:List Value,xs.flatMap (fun v=>[v])=xs
 | []=>rfl
 | x::xs=>by rw [List.flatMap_cons,flat_one xs];rfl
theorem src_take1 {w:World} {A:Option Addr} {n:Nat} {xs:List Value} (hs:Src w 1 A n xs) (hi:Nat) (h:hi≤n):Src w 1 A hi (xs.take hi):=by
 have h9:=src_take (fun v:Value=>[v]) 1 (fun _=>rfl) (l:=xs) (by rw [flat_one];exact hs) (by have:=hs.1;omega) hi h
 rwa [flat_one] at h9
theorem src_drop1 {w:World} {A:Option Addr} {n ca:Nat} {xs:List Value} (hs:Src w 1 A n xs) (lo:Nat) (h:lo≤n) (hc:n≤ca):Src w 1 (cutA A ca lo 1) (n - lo) (xs.drop lo):=by
 have h9:=src_sub (fun v:Value=>[v]) 1 (fun _=>rfl) (l:=xs) (ca:=ca) (by rw [flat_one];exact hs) (by have:=hs.1;omega) lo n h (Nat.le_refl _) hc
 rw [flat_one,List.take_of_length_le (by have:=hs.1;omega)] at h9
 exact h9
structure PS where
 A:Option Addr
 n:Nat
 cap:Nat
 vs:List Value
@[reducible] def PS.val (p:PS):Value := .slice p.A p.n p.cap
def sumP (l:List PS):Nat:=(l.map PS.n).sum
def catP (l:List PS):List Value:=l.flatMap PS.vs
theorem sumP_snoc {l:List PS} {j:Nat} {p:PS} (h:l[j]?=some p):sumP (l.take (j+1))=sumP (l.take j)+p.n:=by
 unfold sumP;rw [take_snoc _ _ _ h,List.map_append,List.sum_append];simp
theorem sumP_le (l:List PS) (j:Nat):sumP (l.take j)≤sumP l:=by
 unfold sumP
 have h:(l.map PS.n).sum=((l.take j).map PS.n).sum+((l.drop j).map PS.n).sum:=by
  rw [← List.sum_append, ← List.map_append,List.take_append_drop]
 omega
theorem catP_snoc {l:List PS} {j:Nat} {p:PS} (h:l[j]?=some p):catP (l.take (j+1))=catP (l.take j)++p.vs:=by
 unfold catP;rw [take_snoc _ _ _ h,List.flatMap_append];simp
theorem growI_spec (n:Nat) (w:World) (hb:n≤1000000) :
  Spec Tryz.prog 206 [.slice none 0 0, .int .i64 (n:Nat)] w (fun v R=>∃ x:Option Addr × Nat,True∧v = .slice x.1 0 x.2∧R=[row 3 1 x.1 x.2 0 []]):=by
 refine spec_of sg Tryz.func206 rfl rfl rfl ?_
 repeat' (first|refine d1 ?_|refine dd ?_|(show ∀ _:Nat,T _ _ _ _ _;intro _))
 refine T_if rfl (fun h=>by exfalso;simp at h;omega) (fun h=>?_)
 repeat' (first|refine d1 ?_|refine dd ?_|(show ∀ _:Nat,T _ _ _ _ _;intro _))
 refine T_if rfl (fun h=>?_) (fun h=>?_)
 ·simp only [decide_eq_true_eq] at h
  rw [show (n:Int) - ((0:Nat) - (0:Nat):Int)=((n:Nat):Int) by omega]
  repeat' (first|refine d1 ?_|refine dd ?_|(show T _ (.ops _ (_::_)::_) _ _ _;refine T_op (OpT.appendN (k:=n) (sz:=1) rfl rfl rfl rfl rfl rfl rfl rfl rfl (by omega) (by dsimp only;omega) (by omega) (fun b cap' hc'=>?_)))|(show ∀ _:Nat,T _ _ _ _ _;intro _)|(show T _ (.code .ret::_) _ _ _;refine T_retV _ rfl (Hle.refl _) ⟨(some ⟨_,0,none⟩,_),trivial,rfl,rfl⟩))
 ·simp only [decide_eq_false_iff_not] at h
  refine T_nilrow 3 1 ?_
  repeat' (first|refine d1 ?_|refine dd ?_|(show ∀ _:Nat,T _ _ _ _ _;intro _)|(show T _ (.code .ret::_) _ _ _;refine T_retV _ rfl (Hle.refl _) ⟨(none,0),trivial,rfl,rfl⟩))
theorem concatI_spec (A:Option Addr) (n c:Nat) (l:List PS) (w:World) (hs:Src w 1 A n (l.map PS.val)) (hn:l.length=n) (hb:n≤1000) (hl:∀ p∈l,Src w 1 p.A p.n p.vs∧oneCells p.vs=true) (hsum:sumP l≤1000000) :
  Spec Tryz.prog 147 [.slice A n c] w (fun v R=>∃ x:Option Addr × Nat,True∧v = .slice x.1 (sumP l) x.2∧R=[row 3 1 x.1 x.2 (sumP l) (catP l)]):=by
 refine spec_of sg Tryz.func147 rfl rfl rfl ?_
 repeat' (first|refine d1 ?_|refine dd ?_|(show ∀ _:Nat,T _ _ _ _ _;intro _))
 refine T_loopX (fun j:Nat=>[(11, .int .i64 (j:Nat)),(3, .int .i64 (sumP (l.take j):Nat))]) (fun _=>[]) (fun j=>j≤n) (fun j=>n - j) 0 (Nat.zero_le _) ?_
 intro j hj
 have hsj:=sumP_le l j
 repeat' (first|refine d1 ?_|refine dd ?_|(show ∀ _:Nat,T _ _ _ _ _;intro _))
 refine T_if rfl (fun h=>?_) (fun h=>?_)
 ·simp only [decide_eq_true_eq] at h
  obtain⟨b,o,rfl⟩:=hs.base (by omega)
  obtain⟨t,ht⟩:∃ t,l[j]?=some t:=⟨_,List.getElem?_eq_getElem (by omega)⟩
  have hr:RdC w b (o+(j:Int).toNat * 1) [.slice t.A t.n t.cap]:=by
   have h9:=(hs.get1 (i:=j) (by omega) (by rw [List.getElem?_map,ht];rfl)).2
   rw [Nat.mul_one] at h9
   rw [off1]
   exact h9
  have hsn:=sumP_snoc ht
  have hsn2:=sumP_le l (j+1)
  repeat' (first|refine d1 ?_|refine dd ?_|(show ∀ _:Nat,T _ _ _ _ _;intro _))
  refine T_if rfl (fun h2=>by exfalso;simp at h2;omega) (fun h2=>?_)
  repeat' (first|refine d1 ?_|refine dd ?_|(show ∀ _:Nat,T _ _ _ _ _;intro _))
  exact T_backX (j+1) (by omega) (by omega) (hE:=⟨rfl,by rw [hsn];rfl,trivial⟩)
 simp only [decide_eq_false_iff_not] at h
 obtain rfl:j=n:=by omega
 rw [show l.take j=l from List.take_of_length_le (by omega)]
 repeat' (first|refine d1 ?_|refine dd ?_|(show T _ (.ops _ (_::_)::_) _ _ _;refine T_callE rfl rfl rfl rfl rfl (fun w hw=>growI_spec (sumP l) w hsum) (fun x _=>?_))|(show ∀ _:Nat,T _ _ _ _ _;intro _))
 obtain⟨Ag,cg⟩:=x
 refine T_loopX (fun s:Nat × Option Addr × Nat=>[(27, .int .i64 (s.1:Nat)),(6, .slice s.2.1 (sumP (l.take s.1)) s.2.2)]) (fun s=>[row 3 1 s.2.1 s.2.2 (sumP (l.take s.1)) (catP (l.take s.1))]) (fun s=>s.1≤j) (fun s=>j - s.1) (0,Ag,cg) (Nat.zero_le _) ?_
 rintro⟨k,A1,cap1⟩ hk
 dsimp only at hk ⊢
 have hsk:=sumP_le l k
 repeat' (first|refine d1 ?_|refine dd ?_|(show ∀ _:Nat,T _ _ _ _ _;intro _))
 refine T_if rfl (fun h3=>?_) (fun h3=>?_)
 ·simp only [decide_eq_true_eq] at h3
  obtain⟨b,o,rfl⟩:=hs.base (by omega)
  obtain⟨t,ht⟩:∃ t,l[k]?=some t:=⟨_,List.getElem?_eq_getElem (by omega)⟩
  have hr:RdC w b (o+(k:Int).toNat * 1) [.slice t.A t.n t.cap]:=by
   have h9:=(hs.get1 (i:=k) (by omega) (by rw [List.getElem?_map,ht];rfl)).2
   rw [Nat.mul_one] at h9
   rw [off1]
   exact h9
  have hsn:=sumP_snoc ht
  have hsn2:=sumP_le l (k+1)
  obtain⟨hp1,hp2⟩:=hl t (List.mem_of_getElem? ht)
  repeat' (first|refine d1 ?_|refine dd ?_|(show T _ (.ops _ (_::_)::_) _ _ _;refine T_op (OpT.append rfl rfl rfl rfl rfl rfl rfl rfl rfl rfl (rdSrc hp1) hp2 (by dsimp only;omega) (by omega) (fun A' cap' hA'=>?_)))|(show ∀ _:Nat,T _ _ _ _ _;intro _))
  exact T_backX (k+1,A',cap') (by dsimp only;omega) (by dsimp only;omega) (hE:=⟨rfl,by dsimp only;rw [hsn];rfl,trivial⟩) (hG:=by dsimp only;rw [hsn,catP_snoc ht];exact Hle.refl _)
 ·simp only [decide_eq_false_iff_not] at h3
  obtain rfl:k=j:=by omega
  rw [show l.take k=l from List.take_of_length_le (by omega)]
  repeat' (first|refine d1 ?_|refine dd ?_|(show ∀ _:Nat,T _ _ _ _ _;intro _)|(show T _ (.code .ret::_) _ _ _;refine T_retV _ rfl (Hle.refl _) ⟨(A1,cap1),trivial,rfl,rfl⟩))
theorem growS_spec (n:Nat) (w:World) (hb:n≤1000000) :
  Spec Tryz.prog 150 [.slice none 0 0, .int .i64 (n:Nat)] w (fun v R=>∃ x:Option Addr × Nat,True∧v = .slice x.1 0 x.2∧R=[row 26 1 x.1 x.2 0 []]):=by
 refine spec_of sg Tryz.func150 rfl rfl rfl ?_
 repeat' (first|refine d1 ?_|refine dd ?_|(show ∀ _:Nat,T _ _ _ _ _;intro _))
 refine T_if rfl (fun h=>by exfalso;simp at h;omega) (fun h=>?_)
 repeat' (first|refine d1 ?_|refine dd ?_|(show ∀ _:Nat,T _ _ _ _ _;intro _))
 refine T_if rfl (fun h=>?_) (fun h=>?_)
 ·simp only [decide_eq_true_eq] at h
  rw [show (n:Int) - ((0:Nat) - (0:Nat):Int)=((n:Nat):Int) by omega]
  repeat' (first|refine d1 ?_|refine dd ?_|(show T _ (.ops _ (_::_)::_) _ _ _;refine T_op (OpT.appendN (k:=n) (sz:=1) rfl rfl rfl rfl rfl rfl rfl rfl rfl (by omega) (by dsimp only;omega) (by omega) (fun b cap' hc'=>?_)))|(show ∀ _:Nat,T _ _ _ _ _;intro _)|(show T _ (.code .ret::_) _ _ _;refine T_retV _ rfl (Hle.refl _) ⟨(some ⟨_,0,none⟩,_),trivial,rfl,rfl⟩))
 ·simp only [decide_eq_false_iff_not] at h
  refine T_nilrow 26 1 ?_
  repeat' (first|refine d1 ?_|refine dd ?_|(show ∀ _:Nat,T _ _ _ _ _;intro _)|(show T _ (.code .ret::_) _ _ _;refine T_retV _ rfl (Hle.refl _) ⟨(none,0),trivial,rfl,rfl⟩))
theorem concatS_spec (A:Option Addr) (n c:Nat) (l:List PS) (w:World) (hs:Src w 1 A n (l.map PS.val)) (hn:l.length=n) (hb:n≤1000) (hl:∀ p∈l,Src w 1 p.A p.n p.vs∧oneCells p.vs=true) (hsum:sumP l≤1000000) :
  Spec Tryz.prog 77 [.slice A n c] w (fun v R=>∃ x:Option Addr × Nat,True∧v = .slice x.1 (sumP l) x.2∧R=[row 26 1 x.1 x.2 (sumP l) (catP l)]):=by
 refine spec_of sg Tryz.func77 rfl rfl rfl ?_
 repeat' (first|refine d1 ?_|refine dd ?_|(show ∀ _:Nat,T _ _ _ _ _;intro _))
 refine T_loopX (fun j:Nat=>[(11, .int .i64 (j:Nat)),(3, .int .i64 (sumP (l.take j):Nat))]) (fun _=>[]) (fun j=>j≤n) (fun j=>n - j) 0 (Nat.zero_le _) ?_
 intro j hj
 have hsj:=sumP_le l j
 repeat' (first|refine d1 ?_|refine dd ?_|(show ∀ _:Nat,T _ _ _ _ _;intro _))
 refine T_if rfl (fun h=>?_) (fun h=>?_)
 ·simp only [decide_eq_true_eq] at h
  obtain⟨b,o,rfl⟩:=hs.base (by omega)
  obtain⟨t,ht⟩:∃ t,l[j]?=some t:=⟨_,List.getElem?_eq_getElem (by omega)⟩
  have hr:RdC w b (o+(j:Int).toNat * 1) [.slice t.A t.n t.cap]:=by
   have h9:=(hs.get1 (i:=j) (by omega) (by rw [List.getElem?_map,ht];rfl)).2
   rw [Nat.mul_one] at h9
   rw [off1]
   exact h9
  have hsn:=sumP_snoc ht
  have hsn2:=sumP_le l (j+1)
  repeat' (first|refine d1 ?_|refine dd ?_|(show ∀ _:Nat,T _ _ _ _ _;intro _))
  refine T_if rfl (fun h2=>by exfalso;simp at h2;omega) (fun h2=>?_)
  repeat' (first|refine d1 ?_|refine dd ?_|(show ∀ _:Nat,T _ _ _ _ _;intro _))
  exact T_backX (j+1) (by omega) (by omega) (hE:=⟨rfl,by rw [hsn];rfl,trivial⟩)
 simp only [decide_eq_false_iff_not] at h
 obtain rfl:j=n:=by omega
 rw [show l.take j=l from List.take_of_length_le (by omega)]
 repeat' (first|refine d1 ?_|refine dd ?_|(show T _ (.ops _ (_::_)::_) _ _ _;refine T_callE rfl rfl rfl rfl rfl (fun w hw=>growS_spec (sumP l) w hsum) (fun x _=>?_))|(show ∀ _:Nat,T _ _ _ _ _;intro _))
 obtain⟨Ag,cg⟩:=x
 refine T_loopX (fun s:Nat × Option Addr × Nat=>[(27, .int .i64 (s.1:Nat)),(6, .slice s.2.1 (sumP (l.take s.1)) s.2.2)]) (fun s=>[row 26 1 s.2.1 s.2.2 (sumP (l.take s.1)) (catP (l.take s.1))]) (fun s=>s.1≤j) (fun s=>j - s.1) (0,Ag,cg) (Nat.zero_le _) ?_
 rintro⟨k,A1,cap1⟩ hk
 dsimp only at hk ⊢
 have hsk:=sumP_le l k
 repeat' (first|refine d1 ?_|refine dd ?_|(show ∀ _:Nat,T _ _ _ _ _;intro _))
 refine T_if rfl (fun h3=>?_) (fun h3=>?_)
 ·simp only [decide_eq_true_eq] at h3
  obtain⟨b,o,rfl⟩:=hs.base (by omega)
  obtain⟨t,ht⟩:∃ t,l[k]?=some t:=⟨_,List.getElem?_eq_getElem (by omega)⟩
  have hr:RdC w b (o+(k:Int).toNat * 1) [.slice t.A t.n t.cap]:=by
   have h9:=(hs.get1 (i:=k) (by omega) (by rw [List.getElem?_map,ht];rfl)).2
   rw [Nat.mul_one] at h9
   rw [off1]
   exact h9
  have hsn:=sumP_snoc ht
  have hsn2:=sumP_le l (k+1)
  obtain⟨hp1,hp2⟩:=hl t (List.mem_of_getElem? ht)
  repeat' (first|refine d1 ?_|refine dd ?_|(show T _ (.ops _ (_::_)::_) _ _ _;refine T_op (OpT.append rfl rfl rfl rfl rfl rfl rfl rfl rfl rfl (rdSrc hp1) hp2 (by dsimp only;omega) (by omega) (fun A' cap' hA'=>?_)))|(show ∀ _:Nat,T _ _ _ _ _;intro _))
  exact T_backX (k+1,A',cap') (by dsimp only;omega) (by dsimp only;omega) (hE:=⟨rfl,by dsimp only;rw [hsn];rfl,trivial⟩) (hG:=by dsimp only;rw [hsn,catP_snoc ht];exact Hle.refl _)
 ·simp only [decide_eq_false_iff_not] at h3
  obtain rfl:k=j:=by omega
  rw [show l.take k=l from List.take_of_length_le (by omega)]
  repeat' (first|refine d1 ?_|refine dd ?_|(show ∀ _:Nat,T _ _ _ _ _;intro _)|(show T _ (.code .ret::_) _ _ _;refine T_retV _ rfl (Hle.refl _) ⟨(A1,cap1),trivial,rfl,rfl⟩))
theorem withoutC_spec (z:Int) (w:World):Spec Tryz.prog 149 [.int .i64 z] w (fun v A=>v = .bool (decide (0≤z))∧A=[]):=by
 refine spec_of sg Tryz.func149 rfl rfl rfl ?_
 repeat' (first|refine d1 ?_|refine dd ?_|(show ∀ _:Nat,T _ _ _ _ _;intro _)|(show T _ (.code .ret::_) _ _ _;refine T_retV [] rfl (Hle.none _) ⟨rfl,rfl⟩))
theorem wthC_snoc (cols:List (List Int)) (i:Nat) (x:List Int):wthC (cols++[x]) i=wthC cols i++if anyP (dropI x i)=true then [dropI x i] else []:=by
 unfold wthC
 rw [List.map_append,List.filter_append]
 show _++List.filter anyP [dropI x i]=_
 rw [List.filter_cons]
 rfl
theorem without_spec (x:Value) (cols:List (List Int)) (i:Nat) (w:World) (hx:Rd (wr w) [x] [rowsD cols]) (hi:∀ r∈cols,i<r.length) (hr9:∀ r∈cols,r.length≤1000) (hsz:cols.length≤100000) :
  Spec Tryz.prog 74 [x, .int .i64 (i:Nat)] w (fun v R=>∃ y:Value,True∧v=y∧R=[dat [y] [rowsD (wthC cols i)]]):=by
 obtain⟨Ac,cc,csc,rfl,hc1,hc2,hcs,hrows⟩:=hx.tabS
 refine spec_of sg Tryz.func74 rfl rfl rfl ?_
 repeat' (first|refine d1 ?_|refine dd ?_|(show ∀ _:Nat,T _ _ _ _ _;intro _))
 refine T_le (dat_nil _) ?_
 refine T_nilrow 40 1 ?_
 refine T_loopX (fun s:Nat × (Option Addr × Nat) × List Value=>[(11, .int .i64 (s.1:Nat)),(5, .slice s.2.1.1 (wthC (cols.take s.1) i).length s.2.1.2)]) (fun s=>[row 40 1 s.2.1.1 s.2.1.2 (wthC (cols.take s.1) i).length s.2.2,dat s.2.2 ((wthC (cols.take s.1) i).map intsD)]) (fun s=>s.1≤cols.length) (fun s=>cols.length - s.1) (0,(none,0),[]) (Nat.zero_le _) ?_
 rintro⟨q,⟨Ao,capo⟩,hs9⟩ hq
 dsimp only at hq ⊢
 repeat' (first|refine d1 ?_|refine dd ?_|(show ∀ _:Nat,T _ _ _ _ _;intro _))
 refine T_if rfl (fun h4=>?_) (fun h4=>?_)
 ·simp only [decide_eq_true_eq] at h4
  have hqn:q<cols.length:=by omega
  obtain⟨b,o,rfl⟩:=hcs.base (by omega)
  obtain⟨r,hr⟩:∃ r,cols[q]?=some r:=⟨_,List.getElem?_eq_getElem hqn⟩
  have hrm:=List.mem_of_getElem? hr
  have hir:=hi r hrm
  have hrl:=hr9 r hrm
  obtain⟨Au,capu,hu,hcu1,hcu2,hA⟩:=hrows.tabRow hr
  have hr0:=rowHd hcs hqn hu
  have hsr:=rowSrc hA
  have htk:=take_snoc _ _ _ hr
  have hps:wthC (cols.take (q+1)) i=wthC (cols.take q) i++if anyP (dropI r i)=true then [dropI r i] else []:=by rw [htk,wthC_snoc]
  have hpl:(wthC (cols.take q) i).length≤q:=by
   have h9:=wthC_len (cols.take q) i
   rw [List.length_take] at h9
   omega
  have hdl:(dropI r i).length=i+(r.length - (i+1)):=by unfold dropI;rw [List.length_append,List.length_take,List.length_drop];omega
  have hok:∀ {w':World} {H:List HA},Cls w w' H→∀ p∈([⟨Au,i,capu,(r.take i).map (Value.int .i64)⟩,⟨cutA Au capu (i+1) 1,r.length - (i+1),capu - (i+1),(r.drop (i+1)).map (Value.int .i64)⟩]:List PS),Src w' 1 p.A p.n p.vs∧oneCells p.vs=true:=fun {w' H} hw=>by
   have hsr9:=src_below hsr hw.below
   refine List.forall_mem_cons.2 ⟨⟨?_,oneInts _⟩,List.forall_mem_cons.2 ⟨⟨?_,oneInts _⟩,fun p h=>by cases h⟩⟩
   ·have h9:=src_take1 hsr9 i (by omega)
    rw [← List.map_take] at h9
    exact h9
   ·have h9:=src_drop1 (ca:=capu) hsr9 (i+1) (by omega) (by omega)
    rw [← List.map_drop] at h9
    exact h9
  have hsum:sumP ([⟨Au,i,capu,(r.take i).map (Value.int .i64)⟩,⟨cutA Au capu (i+1) 1,r.length - (i+1),capu - (i+1),(r.drop (i+1)).map (Value.int .i64)⟩]:List PS)=(dropI r i).length:=by
   rw [hdl]
   show i+(r.length - (i+1)+0)=_
   omega
  have hcat:catP ([⟨Au,i,capu,(r.take i).map (Value.int .i64)⟩,⟨cutA Au capu (i+1) 1,r.length - (i+1),capu - (i+1),(r.drop (i+1)).map (Value.int .i64)⟩]:List PS)=(dropI r i).map (Value.int .i64):=by
   unfold dropI
   rw [List.map_append]
   show (r.take i).map (Value.int .i64)++((r.drop (i+1)).map (Value.int .i64)++[])=_
   rw [List.append_nil]
  repeat' (first|refine d1 ?_|(show ∀ _:Nat,T _ _ _ _ _;intro _))
  refine rsH [row 40 1 Ao capo (wthC (cols.take q) i).length hs9,dat hs9 ((wthC (cols.take q) i).map intsD)] 1000 [0,1,2,3,4,5,6,7,8,9] ?_
  repeat' (first|refine d1 ?_|refine dd ?_|(show T _ (.run _ _ (_::_) _ _::_) _ _ _;refine ro rfl rfl (OpT.litW rfl rfl rfl rfl rfl rfl rfl rfl rfl rfl rfl (fun b3=>⟨fun _=>Hle.sub,?_⟩)))|(show ∀ _:Nat,T _ _ _ _ _;intro _))
  rw [show ((i:Int)+1).toNat=i+1 by omega]
  simp only [Int.toNat_natCast]
  refine ro rfl rfl (OpT.callE1 rfl rfl rfl rfl rfl (fun w hw=>concatI_spec (some ⟨b3,0,none⟩) 2 2 [⟨Au,i,capu,(r.take i).map (Value.int .i64)⟩,⟨cutA Au capu (i+1) 1,r.length - (i+1),capu - (i+1),(r.drop (i+1)).map (Value.int .i64)⟩] w (Src.own hw rfl) rfl (by omega) (hok hw) (by rw [hsum,hdl];omega)) (fun x9 _=>⟨fun _=>(Hle.tail _ _).trans (Hle.tail _ _),?_⟩))
  rw [hsum,hcat]
  obtain⟨A9,c9⟩:=x9
  dsimp only
  refine T_le (Hle.drop2 _ _ _) ?_
  repeat' (first|refine d1 ?_|refine dd ?_|(show T _ (.ops _ (_::_)::_) _ _ _;first|refine T_call rfl rfl rfl rfl rfl (fun w hw=>containsFuncI_spec A9 (dropI r i).length c9 (dropI r i) _ [] [] (fun z=>decide (0≤z)) w (srcRw w hw) rfl (by omega) (fun z hz w' hb'=>withoutC_spec z w')) ?_|refine T_callC rfl rfl rfl rfl rfl rfl rfl (fun hg w hw=>containsFuncI_spec A9 (dropI r i).length c9 (dropI r i) _ [] [] (fun z=>decide (0≤z)) w (srcRw w hw) rfl (by omega) (fun z hz w' hb'=>withoutC_spec z w')) ?_)|(show T _ (.run _ _ (_::_) _ _::_) _ _ _;first|refine rc rfl rfl rfl rfl rfl rfl rfl (fun w hw=>containsFuncI_spec A9 (dropI r i).length c9 (dropI r i) _ [] [] (fun z=>decide (0≤z)) w (srcRw w hw) rfl (by omega) (fun z hz w' hb'=>withoutC_spec z w')) ?_|refine rcG rfl rfl rfl rfl rfl rfl rfl rfl rfl (fun hg w hw=>containsFuncI_spec A9 (dropI r i).length c9 (dropI r i) _ [] [] (fun z=>decide (0≤z)) w (srcRw w hw) rfl (by omega) (fun z hz w' hb'=>withoutC_spec z w')) ?_)|(show ∀ _:Nat,T _ _ _ _ _;intro _))
  have hany:((dropI r i).any fun z=>decide (0≤z))=anyP (dropI r i):=rfl
  rw [hany]
  refine T_if rfl (fun h6=>?_) (fun h6=>?_)
  ·rw [if_pos h6] at hps
   repeat' (first|refine d1 ?_|refine dd ?_|(show T _ (.ops _ (_::_)::_) _ _ _;refine T_op (OpT.append (A:=Ao) rfl rfl rfl rfl rfl rfl rfl rfl rfl rfl (fun w hw=>Src.own hw rfl) rfl (by dsimp only;omega) (by omega) (fun A' cap' hA'=>?_)))|(show ∀ _:Nat,T _ _ _ _ _;intro _))
   refine T_backX (q+1,(A',cap'),hs9++[.slice A9 (dropI r i).length c9]) (by dsimp only;omega) (by dsimp only;omega) (hE:=⟨rfl,by dsimp only;rw [hps,List.length_append];rfl,trivial⟩) (hG:=?_)
   dsimp only
   rw [hps,List.length_append,show [dropI r i].length=1 from rfl]
   exact (Hle.srt (K:=[row 3 1 A9 c9 (dropI r i).length ((dropI r i).map (Value.int .i64)),dat hs9 ((wthC (cols.take q) i).map intsD),row 40 1 A' cap' ((wthC (cols.take q) i).length+1) (hs9++flatP [(0, .slice A9 (dropI r i).length c9)])])).trans (out_hle (cl:=dropI r i) rfl)
  ·rw [if_neg (by rw [h6];simp),List.append_nil] at hps
   repeat' (first|refine d1 ?_|refine dd ?_|(show ∀ _:Nat,T _ _ _ _ _;intro _))
   exact T_backX (q+1,(Ao,capo),hs9) (by dsimp only;omega) (by dsimp only;omega) (hE:=⟨rfl,by dsimp only;rw [hps];rfl,trivial⟩) (hG:=by dsimp only;rw [hps];exact Hle.tail _ _)
 ·simp only [decide_eq_false_iff_not] at h4
  obtain rfl:q=cols.length:=by omega
  rw [List.take_of_length_le (Nat.le_refl _)]
  repeat' (first|refine d1 ?_|refine dd ?_|(show ∀ _:Nat,T _ _ _ _ _;intro _)|(show T _ (.code .ret::_) _ _ _;refine T_retV _ rfl dat_row ⟨_,trivial,rfl,by rfl⟩))
end Go.Proofs.YtmenjpmikhajfaaGreatDoor
namespace Go.Proofs.YtmenjpmikhajfaaGreatDoor
open Go.RowKit Go.Shelf Go.Proofs
set_option maxRecDepth 100000
set_option maxHeartbeats 1000000

theorem rowBd {w0 w:World} {H:List HA} {A:Option Addr} {e sz cap n:Nat} {xs:List Value} {rb:HA→List HA} [hf:FocusR H A e sz cap n xs rb] (hw:Cls w0 w H):n≤cap∧cap≤9223372036854775807:=by
 obtain⟨i,hi,_⟩:=hf.at_
 obtain⟨F,h1,h2,h3⟩:=hw.sep
 obtain⟨hl,hr⟩:=h1 i _ hi
 rcases hr with⟨_,h8,h9,_⟩|⟨g,cur,rfl,hF,g1,g2,g3,g4⟩
 ·omega
 ·simp only [maxLen] at g2
  exact⟨g1,g2⟩
theorem rowRd {w0 w:World} {H:List HA} {A:Option Addr} {e cap n:Nat} {hs:List Value} {rb:HA→List HA} [FocusR H A e 1 cap n hs rb] (hw:Cls w0 w H) {m:List (List Int)} (hr:Rd (wr w) hs (m.map intsD)):Rd (wr w) [.slice A n cap] [rowsD m] :=
 (srcRowH (A:=A) hw).rdD (rowBd (A:=A) hw).1 (rowBd (A:=A) hw).2 hr
structure ColsAt (w0:World) (p:Frag) (hs:List Value) (cols:List (List Int)):Prop where
 rd:∀ {w':World} {H:List HA} [FocusZ H p],Cls w0 w' H→Rd (wr w') hs (cols.map intsD)
 sh:∀ {i:Nat} {r:List Int},cols[i]?=some r→∃ A cap,hs[i]?=some (.slice A r.length cap)
 len:hs.length=cols.length
theorem ColsAt.old {w:World} {p:Frag} {hs:List Value} {cols:List (List Int)} (h:Rd (wr w) hs (cols.map intsD)):ColsAt w p hs cols :=
 ⟨fun hw=>h.old hw,fun hr=>by obtain⟨A,cap,h1,-⟩:=h.tabRow hr;exact⟨A,cap,h1⟩,by have:=h.length;rwa [List.length_map] at this⟩
theorem ColsAt.own {w:World} {p:Frag} {hs:List Value} {cols:List (List Int)} (h:Rd (fr p) hs (cols.map intsD)):ColsAt w p hs cols :=
 ⟨fun hw=>h.own hw,fun hr=>by obtain⟨A,cap,h1,-⟩:=h.tabRow hr;exact⟨A,cap,h1⟩,by have:=h.length;rwa [List.length_map] at this⟩
theorem set_at {α:Type} (y:α):∀ (ns:List α) (x:α) (t:List α),(ns++x::t).set ns.length y=ns++y::t
 | [],_,_=>rfl
 | n::ns,x,t=>by
  show n::(ns++x::t).set ns.length y=_
  rw [set_at y ns x t];rfl
theorem fz_unit (H:List HA):Hle H (fz (fun _=>none)::H):=hle_unit rfl
noncomputable def refV (c:Costs) (l:List TS) (cols:List (List Int)) (z:Int):List (List Int) × Int:=if ck21 c l≠0 then ([],ck21 c l) else if alV l cols≠0 then ([],alV l cols) else if z<0∨8<z then ([],2) else (refN c l cols z.toNat,0)
theorem alV_ok2 {l:List TS} {cols:List (List Int)} (h:alV l cols=0):ColsOk (lens l) cols:=by
 by_cases h0:l.length=0
 ·unfold alV at h
  by_cases h1:l.length=0∧cols.length=0
  ·have e1:l=[]:=List.eq_nil_of_length_eq_zero h1.1
   have e2:cols=[]:=List.eq_nil_of_length_eq_zero h1.2
   subst e1;subst e2
   exact⟨fun x hx=>(by cases hx),fun x hx=>(by cases hx),fun s m hm=>(by simp [lens] at hm)⟩
  ·rw [if_neg h1,if_neg (by rw [chkC_zero h0];decide)] at h
   omega
 ·exact alV_ok h0 h
theorem sumL_lens100 {l:List TS} (h:∀ t∈l,t.n≤100):sumL (lens l)≤100 * l.length:=by
 induction l with
 | nil=>exact Nat.zero_le _
 | cons t l ih =>
  have h1:=h t (.head _)
  have h2:=ih fun x hx=>h x (.tail _ hx)
  show t.n+sumL (lens l)≤_
  rw [List.length_cons,Nat.mul_add]
  omega
theorem arrangedR_spec (x:Value) (cols:List (List Int)) (Ao:Option Addr) (n co:Nat) (ord:List Nat) (w:World) (hx:Rd (wr w) [x] [rowsD cols]) (ho:Src w 1 Ao n (ord.map fun k=>Value.int .i64 (k:Nat))) (hno:ord.length=n)
  (hcl:∀ r∈cols,r.length=n) (hlt:∀ k∈ord,k<n) (hn:n≤1000) (hlen:cols.length≤100000) :
  Spec Tryz.prog 78 [x, .slice Ao n co] w (fun v R=>∃ y:(Option Addr × Nat) × List Value,True∧v = .slice y.1.1 cols.length y.1.2∧R=[row 40 1 y.1.1 y.1.2 cols.length y.2,dat y.2 ((cols.map (arrR ord)).map intsD)]):=by
 refine spec_of sg Tryz.func78 rfl rfl rfl ?_
 obtain⟨A,cap,cs,rfl,hcap1,hcap2,hcs,hrows⟩:=hx.tabS
 repeat' (first|refine d1 ?_|refine dd ?_|(show ∀ _:Nat,T _ _ _ _ _;intro _))
 refine T_le (dat_nil _) ?_
 refine T_nilrow 40 1 ?_
 refine T_loopX (fun x:Nat × (Option Addr × Nat) × List Value=>[(13, .int .i64 x.1),(5, .slice x.2.1.1 x.1 x.2.1.2)]) (fun x=>[row 40 1 x.2.1.1 x.2.1.2 x.1 x.2.2,dat x.2.2 (((cols.map (arrR ord)).take x.1).map intsD)]) (fun x=>x.1≤cols.length) (fun x=>cols.length - x.1) (0,(none,0),[]) (Nat.zero_le _) ?_
 rintro⟨i,⟨Ar,capr⟩,hs⟩ hi
 dsimp only at hi ⊢
 repeat' (first|refine d1 ?_|refine dd ?_|(show ∀ _:Nat,T _ _ _ _ _;intro _))
 refine T_if rfl (fun h=>?_) (fun h=>?_)
 ·simp only [decide_eq_true_eq] at h
  obtain⟨b,o,rfl⟩:=hcs.base (by omega)
  obtain⟨r,hr⟩:∃ r,cols[i]?=some r:=⟨_,List.getElem?_eq_getElem (by omega)⟩
  obtain⟨Au,capu,hu,-,-,hA⟩:=hrows.tabRow hr
  have hr0:RdC w b (o+(i:Int).toNat * 1) [.slice Au r.length capu]:=by
   have h9:=(hcs.get1 (i:=i) (by omega) hu).2
   rw [Nat.mul_one] at h9
   rw [off1]
   exact h9
  have hrn:=hcl r (List.mem_of_getElem? hr)
  repeat' (first|refine d1 ?_|refine dd ?_|(show T _ (.ops _ (_::_)::_) _ _ _;refine T_op (OpT.make rfl rfl rfl rfl rfl rfl rfl rfl rfl (by dsimp only;omega) (fun b1=>?_)))|(show ∀ _:Nat,T _ _ _ _ _;intro _))
  have e0:(arrJ ord r 0).map (Value.int .i64)=List.replicate ((r.length:Nat):Int).toNat (Value.int .i64 0):=by simp [arrJ]
  refine T_le (H':=[blk b1 ((arrJ ord r 0).map (Value.int .i64)) 3,row 40 1 Ar capr i hs,dat hs (((cols.map (arrR ord)).take i).map intsD)]) (by rw [e0];exact Hle.refl _) ?_
  refine T_loopX (fun k:Nat=>[(22, .int .i64 k)]) (fun k=>[blk b1 ((arrJ ord r k).map (Value.int .i64)) 3,row 40 1 Ar capr i hs,dat hs (((cols.map (arrR ord)).take i).map intsD)]) (fun k=>k≤r.length) (fun k=>r.length - k) 0 (Nat.zero_le _) ?_
  intro k hk
  repeat' (first|refine d1 ?_|refine dd ?_|(show ∀ _:Nat,T _ _ _ _ _;intro _))
  refine T_if rfl (fun h3=>?_) (fun h3=>?_)
  ·simp only [decide_eq_true_eq] at h3
   have hkr:k<r.length:=by omega
   obtain⟨bu,ou,rfl,hbu⟩:=hA (by omega)
   obtain⟨bo,oo,rfl⟩:=ho.base (by omega)
   obtain⟨z,hz⟩:∃ z,r[k]?=some z:=⟨_,List.getElem?_eq_getElem hkr⟩
   obtain⟨q,hq⟩:∃ q,ord[k]?=some q:=⟨_,List.getElem?_eq_getElem (by omega)⟩
   have hqn:=hlt q (List.mem_of_getElem? hq)
   have hr1:RdC w bu (ou+(k:Int).toNat * 1) [.int .i64 z]:=RdC.one (by rw [off1];exact hbu k z hz)
   have hr2:RdC w bo (oo+(k:Int).toNat * 1) [.int .i64 (q:Nat)]:=by
    have h9:=(ho.get1 (i:=k) (by omega) (by rw [List.getElem?_map,hq];rfl)).2
    rw [Nat.mul_one] at h9
    rw [off1]
    exact h9
   have est:(arrJ ord r (k+1)).map (Value.int .i64)=((arrJ ord r k).map (Value.int .i64)).set (0+(q:Int).toNat * 1) (.int .i64 z):=by
    rw [off1,arrJ,List.map_set,List.getD_eq_getElem?_getD,List.getD_eq_getElem?_getD,hq,hz];simp
   repeat' (first|refine d1 ?_|refine dd ?_|(show T _ (.ops _ (_::_)::_) _ _ _;refine T_op (OpT.store rfl rfl rfl rfl (by rw [List.length_map,arrJ_len];omega) ?_))|(show ∀ _:Nat,T _ _ _ _ _;intro _))
   exact T_backX (k+1) (by omega) (by omega) (hG:=by rw [est];exact Hle.refl _)
  ·simp only [decide_eq_false_iff_not] at h3
   obtain rfl:k=r.length:=by omega
   have ei:intsD (arrR ord r) = .s 1 (((arrJ ord r r.length).map (Value.int .i64)).map .v):=by rw [List.map_map];rfl
   have et:((cols.map (arrR ord)).take (i+1)).map intsD=((cols.map (arrR ord)).take i).map intsD++[intsD (arrR ord r)]:=by
    rw [take_snoc _ _ _ (show (cols.map (arrR ord))[i]?=some (arrR ord r) by rw [List.getElem?_map,hr];rfl),List.map_append];rfl
   refine T_le (H':=[row 40 1 Ar capr i hs,dat (hs++[.slice (some ⟨b1,0,none⟩) r.length r.length]) (((cols.map (arrR ord)).take (i+1)).map intsD)]) ?_ ?_
   ·rw [et,ei]
    exact (dat_blkV (sz:=1) (n:=r.length) (by rw [List.length_map,arrJ_len,Nat.mul_one]) (by omega)).trans ((Hle.perm (List.Perm.cons _ (List.Perm.swap _ _ _))).trans (dat_join.trans (Hle.perm (List.Perm.swap _ _ _))))
   repeat' (first|refine d1 ?_|refine dd ?_|(show T _ (.ops _ (_::_)::_) _ _ _;refine T_op (OpT.append rfl rfl rfl rfl rfl rfl rfl rfl rfl rfl (fun w hw=>Src.own hw rfl) rfl (by dsimp only;omega) (by omega) (fun A' cap' hA'=>?_)))|(show ∀ _:Nat,T _ _ _ _ _;intro _))
   exact T_backX (i+1,(A',cap'),hs++[.slice (some ⟨b1,0,none⟩) r.length r.length]) (by dsimp only;omega) (by dsimp only;omega) (hE:=⟨rfl,rfl,trivial⟩) (hG:=Hle.tail _ _)
 ·simp only [decide_eq_false_iff_not] at h
  obtain rfl:i=cols.length:=by omega
  rw [show (cols.map (arrR ord)).take cols.length=cols.map (arrR ord) from List.take_of_length_le (by simp)]
  repeat' (first|refine d1 ?_|refine dd ?_|(show ∀ _:Nat,T _ _ _ _ _;intro _)|(show T _ (.code .ret::_) _ _ _;refine T_retV _ rfl (Hle.refl _) ⟨((Ar,capr),hs),trivial,rfl,rfl⟩))
end Go.Proofs.YtmenjpmikhajfaaGreatDoor
namespace Go.Proofs.YtmenjpmikhajfaaGreatDoor
open Go.RowKit Go.Shelf Go.Proofs
set_option maxRecDepth 100000
set_option maxHeartbeats 2000000

theorem intN_put (a:List Nat) (s:Nat):(intN (a++[s])).map (Value.int .i64)=(intN a).map (Value.int .i64)++flatP [(0, .int .i64 (s:Nat))]:=by unfold intN;rw [List.map_append,List.map_append];rfl
theorem refine21_spec (c:Costs) (A:Option Addr) (n ca:Nat) (l:List TS) (x:Value) (cols:List (List Int)) (z:Int) (w:World) (hg:Grp w A n l) (hq:∀ t∈l,t.n≤100) (hcap:n≤ca) (hx:Rd (wr w) [x] [rowsD cols]) :
  Spec Tryz.prog 21 [c.val, .slice A n ca,x, .int .i64 z] w (fun v R=>∃ y:Value,True∧v = .tuple #[y, .int .i64 (refV c l cols z).2]∧R=[dat [y] [rowsD (refV c l cols z).1]]):=by
 have hx0:=hx
 have hn:=hg.hn
 subst hn
 have hb:=hg.hb
 obtain⟨Ac,cc,csc,rfl,hc1,hc2,hcs,hrows⟩:=hx.tabS
 refine spec_of sg Tryz.func21 rfl rfl rfl ?_
 refine T_op (OpT.box (cs:=c.cells) rfl rfl rfl rfl rfl rfl rfl (fun pc=>?_))
 repeat' (first|refine d1 ?_|refine dd ?_|(show T _ (.ops _ (_::_)::_) _ _ _;first|refine T_call rfl rfl rfl rfl rfl (fun w hw=>check21_spec c A l.length ca l w (hg.cls hw)) ?_|refine T_callC rfl rfl rfl rfl rfl rfl rfl (fun hg w hw=>check21_spec c A l.length ca l w (hg.cls hw)) ?_)|(show T _ (.run _ _ (_::_) _ _::_) _ _ _;first|refine rc rfl rfl rfl rfl rfl rfl rfl (fun w hw=>check21_spec c A l.length ca l w (hg.cls hw)) ?_|refine rcG rfl rfl rfl rfl rfl rfl rfl rfl rfl (fun hg w hw=>check21_spec c A l.length ca l w (hg.cls hw)) ?_)|(show ∀ _:Nat,T _ _ _ _ _;intro _))
 refine T_if rfl (fun h=>?_) (fun h=>?_)
 ·have e:refV c l cols z=([],ck21 c l):=if_pos (by simpa using h)
  rw [e]
  repeat' (first|refine d1 ?_|refine dd ?_|(show ∀ _:Nat,T _ _ _ _ _;intro _)|(show T _ (.code .ret::_) _ _ _;refine T_retV _ rfl (nilC _ |>.trans (Hle.nth 0 rfl)) ⟨_,trivial,rfl,rfl⟩))
 have hck:ck21 c l=0:=by simpa using h
 clear h
 repeat' (first|refine d1 ?_|refine dd ?_|(show T _ (.ops _ (_::_)::_) _ _ _;first|refine T_call rfl rfl rfl rfl rfl (fun w hw=>aligned21_spec A l.length ca l _ cols w (hg.cls hw) (hx0.old hw)) ?_|refine T_callC rfl rfl rfl rfl rfl rfl rfl (fun hg w hw=>aligned21_spec A l.length ca l _ cols w (hg.cls hw) (hx0.old hw)) ?_)|(show T _ (.run _ _ (_::_) _ _::_) _ _ _;first|refine rc rfl rfl rfl rfl rfl rfl rfl (fun w hw=>aligned21_spec A l.length ca l _ cols w (hg.cls hw) (hx0.old hw)) ?_|refine rcG rfl rfl rfl rfl rfl rfl rfl rfl rfl (fun hg w hw=>aligned21_spec A l.length ca l _ cols w (hg.cls hw) (hx0.old hw)) ?_)|(show ∀ _:Nat,T _ _ _ _ _;intro _))
 refine T_if rfl (fun h=>?_) (fun h=>?_)
 ·have e:refV c l cols z=([],alV l cols):=by unfold refV;rw [if_neg (by simpa using hck),if_pos (by simpa using h)]
  rw [e]
  repeat' (first|refine d1 ?_|refine dd ?_|(show ∀ _:Nat,T _ _ _ _ _;intro _)|(show T _ (.code .ret::_) _ _ _;refine T_retV _ rfl (nilC _ |>.trans (Hle.nth 0 rfl)) ⟨_,trivial,rfl,rfl⟩))
 have hal:alV l cols=0:=by simpa using h
 clear h
 repeat' (first|refine d1 ?_|refine dd ?_|(show ∀ _:Nat,T _ _ _ _ _;intro _))
 refine T_if rfl (fun h=>?_) (fun h=>?_)
 ·have e:refV c l cols z=([],2):=by unfold refV;rw [if_neg (by simpa using hck),if_neg (by simpa using hal),if_pos (by simpa using h)]
  rw [e]
  repeat' (first|refine d1 ?_|refine dd ?_|(show ∀ _:Nat,T _ _ _ _ _;intro _)|(show T _ (.code .ret::_) _ _ _;refine T_retV _ rfl (nilC _ |>.trans (Hle.nth 0 rfl)) ⟨_,trivial,rfl,rfl⟩))
 have hz:0≤z∧z≤8:=by
  simp only [Bool.or_eq_false_iff,decide_eq_false_iff_not] at h
  omega
 clear h
 have e:refV c l cols z=(refN c l cols z.toNat,0):=by unfold refV;rw [if_neg (by simpa using hck),if_neg (by simpa using hal),if_neg (by omega)]
 rw [e]
 obtain⟨hc,hbs⟩:=ck21_ok hck
 have hok:=alV_ok2 hal
 have hln:=hg.ok.len
 have hsl:=sumL_lens100 hq
 have hshort:∀ {o:List (List Int)},ColsOk (lens l) o→o.length≤3200:=fun h=>by have:=h.short;omega
 have hl0:=hshort hok
 repeat' (first|refine d1 ?_|refine dd ?_|(show T _ (.ops _ (_::_)::_) _ _ _;refine T_callE rfl rfl rfl rfl rfl (fun w hw=>cloneR_spec Ac cols.length cc csc (oneRows hrows) w (rdSrc hcs w hw) (by omega)) (fun xr _=>?_))|(show ∀ _:Nat,T _ _ _ _ _;intro _))
 obtain⟨A1,c1⟩:=xr
 dsimp only
 refine T_le (H':=[row 40 1 A1 c1 cols.length csc,fz (fun _=>none),blk pc c.cells 23]) ((fz_unit _).trans (Hle.perm (List.Perm.swap _ _ _))) ?_
 refine T_loopX (fun s:Nat × (Option Addr × Nat) × List Value × Frag=>[(41, .int .i64 (s.1:Nat)),(2, .slice s.2.1.1 (refN c l cols s.1).length s.2.1.2)]) (fun s=>[row 40 1 s.2.1.1 s.2.1.2 (refN c l cols s.1).length s.2.2.1,fz s.2.2.2,blk pc c.cells 23]) (fun s=>s.1≤z.toNat∧ColsAt w s.2.2.2 s.2.2.1 (refN c l cols s.1)) (fun s=>z.toNat - s.1) (0,(A1,c1),csc,fun _=>none) ⟨Nat.zero_le _,ColsAt.old hrows⟩ ?_
 rintro⟨r,⟨A2,c2⟩,hs2,p2⟩ ⟨hr,hI2⟩
 dsimp only at hr hI2 ⊢
 repeat' (first|refine d1 ?_|refine dd ?_|(show ∀ _:Nat,T _ _ _ _ _;intro _))
 refine T_if rfl (fun h1=>?_) (fun h1=>?_)
 ·simp only [decide_eq_true_eq] at h1
  have hokr:=(refN_ok c hln hok r).1
  repeat' (first|refine d1 ?_|refine dd ?_|(show ∀ _:Nat,T _ _ _ _ _;intro _))
  refine T_loopX (fun s:Nat × (Option Addr × Nat) × List Value × Frag=>[(45, .int .i64 (s.1:Nat)),(2, .slice s.2.1.1 (refJ c l (refN c l cols r) s.1).length s.2.1.2)]) (fun s=>[row 40 1 s.2.1.1 s.2.1.2 (refJ c l (refN c l cols r) s.1).length s.2.2.1,fz s.2.2.2,blk pc c.cells 23]) (fun s=>s.1≤l.length∧ColsAt w s.2.2.2 s.2.2.1 (refJ c l (refN c l cols r) s.1)) (fun s=>l.length - s.1) (0,(A2,c2),hs2,p2) ⟨Nat.zero_le _,hI2⟩ ?_
  rintro⟨i,⟨A3,c3⟩,hs3,p3⟩ ⟨hi,hI3⟩
  dsimp only at hi hI3 ⊢
  repeat' (first|refine d1 ?_|refine dd ?_|(show ∀ _:Nat,T _ _ _ _ _;intro _))
  refine T_if rfl (fun h2=>?_) (fun h2=>?_)
  ·simp only [decide_eq_true_eq] at h2
   have hin:i<l.length:=by omega
   have hoki:=(refJ_ok c hln hokr i hi).1
   have hrj:refJ c l (refN c l cols r) (i+1)=refS c l (refJ c l (refN c l cols r) i) i:=rfl
   generalize hcu:refJ c l (refN c l cols r) i=cu at hoki hrj hI3 ⊢
   obtain⟨b,o,rfl⟩:=hg.hs.base (by omega)
   obtain⟨t,ht,htm,hrt⟩:=hg.get hin
   have hts:tsA l i=t:=tsA_eq ht
   have htl:=hln t htm
   have htq:=hq t htm
   have hcul:=hshort hoki
   have hcul2:=wthC_len cu i
   have hrow:∀ q∈cu,q.length=l.length:=fun q hq9=>by rw [hoki.len q hq9,lens_len]
   obtain⟨hmo,hmo2⟩:=moreV_ok c hln hoki hin
   have hdl:(dropI l i).length=l.length - 1:=dropI_len hin
   have hdm:∀ s∈dropI l i,s∈l:=fun s hs=>by
    unfold dropI at hs
    rcases List.mem_append.1 hs with hs|hs
    ·exact List.mem_of_mem_take hs
    ·exact List.mem_of_mem_drop hs
   have hwok:ColsOk (lens (dropI l i)) (wthC cu i):=by
    have h9:=wthC_ok hoki (i:=i) (by rw [lens_len];exact hin)
    unfold lens at h9 ⊢
    rwa [dropI_map]
   have hlv:(l.map TS.val).length=l.length:=List.length_map _
   have hokP:∀ {w':World} {H:List HA},Cls w w' H→∀ p∈([⟨some ⟨b,o,none⟩,i,ca,(l.take i).map TS.val⟩,⟨cutA (some ⟨b,o,none⟩) ca (i+1) 1,l.length - (i+1),ca - (i+1),(l.drop (i+1)).map TS.val⟩]:List PS),Src w' 1 p.A p.n p.vs∧oneCells p.vs=true:=fun {w' H} hw=>by
    have hsr9:=src_below hg.hs hw.below
    refine List.forall_mem_cons.2 ⟨⟨?_,oneMap TS.val (fun _=>rfl) _⟩,List.forall_mem_cons.2 ⟨⟨?_,oneMap TS.val (fun _=>rfl) _⟩,fun p h=>by cases h⟩⟩
    ·have h9:=src_take1 hsr9 i (by omega)
     rw [← List.map_take] at h9
     exact h9
    ·have h9:=src_drop1 (ca:=ca) hsr9 (i+1) (by omega) hcap
     rw [← List.map_drop] at h9
     exact h9
   have hsum:sumP ([⟨some ⟨b,o,none⟩,i,ca,(l.take i).map TS.val⟩,⟨cutA (some ⟨b,o,none⟩) ca (i+1) 1,l.length - (i+1),ca - (i+1),(l.drop (i+1)).map TS.val⟩]:List PS)=(dropI l i).length:=by
    rw [hdl]
    show i+(l.length - (i+1)+0)=_
    omega
   have hcat:catP ([⟨some ⟨b,o,none⟩,i,ca,(l.take i).map TS.val⟩,⟨cutA (some ⟨b,o,none⟩) ca (i+1) 1,l.length - (i+1),ca - (i+1),(l.drop (i+1)).map TS.val⟩]:List PS)=(dropI l i).map TS.val:=by
    unfold dropI
    rw [List.map_append]
    show (l.take i).map TS.val++((l.drop (i+1)).map TS.val++[])=_
    rw [List.append_nil]
   repeat' (first|refine d1 ?_|(show ∀ _:Nat,T _ _ _ _ _;intro _))
   refine rsH [row 40 1 A3 c3 cu.length hs3,fz p3,blk pc c.cells 23] 1000 [0,1,2,3,4,5,6,7,8,9] ?_
   repeat' (first|refine d1 ?_|refine dd ?_|(show T _ (.run _ _ (_::_) _ _::_) _ _ _;refine ro rfl rfl (OpT.litW rfl rfl rfl rfl rfl rfl rfl rfl rfl rfl rfl (fun b3=>⟨fun _=>Hle.sub,?_⟩)))|(show ∀ _:Nat,T _ _ _ _ _;intro _))
   rw [show ((i:Int)+1).toNat=i+1 by omega]
   simp only [Int.toNat_natCast]
   refine ro rfl rfl (OpT.callE1 rfl rfl rfl rfl rfl (fun w hw=>concatS_spec (some ⟨b3,0,none⟩) 2 2 [⟨some ⟨b,o,none⟩,i,ca,(l.take i).map TS.val⟩,⟨cutA (some ⟨b,o,none⟩) ca (i+1) 1,l.length - (i+1),ca - (i+1),(l.drop (i+1)).map TS.val⟩] w (Src.own hw rfl) rfl (by omega) (hokP hw) (by rw [hsum,hdl];omega)) (fun x9 _=>⟨fun _=>(Hle.tail _ _).trans (Hle.tail _ _),?_⟩))
   rw [hsum,hcat]
   obtain⟨A9,c9⟩:=x9
   dsimp only
   refine T_le (Hle.drop2 _ _ _) ?_
   refine dd ?_
   refine dd ?_
   have hst9:∀ {w':World} {H:List HA},Cls w w' H→Std w':=fun hw=>hg.hst.cls hw
   have hbs9:badS (dropI l i)=false:=by
    unfold badS at hbs ⊢
    rw [List.any_eq_false] at hbs ⊢
    exact fun x hx=>hbs x (hdm x hx)
   have hgd:∀ {w':World} {H:List HA},Cls w w' H→Src w' 1 A9 (dropI l i).length ((dropI l i).map TS.val)→Grp w' A9 (dropI l i).length (dropI l i):=fun {w' H} hw h9=>by
    have hg9:=hg.cls hw
    exact⟨hg9.hst,h9,rfl,by omega,⟨fun x hx=>hg9.ok.src x (hdm x hx),fun x hx=>hg9.ok.len x (hdm x hx),fun x hx=>hg9.ok.bd x (hdm x hx)⟩,fun x hx=>hg9.nb x (hdm x hx),fun x hx=>hg9.sm x (hdm x hx)⟩
   have hprod:(((wthC cu i).length:Int)+1) * ((t.n:Int)+1)≤1048576:=by
    have h9:=Nat.mul_le_mul (show (wthC cu i).length+1≤3201 by omega) (show t.n+1≤101 by omega)
    have h8:(((wthC cu i).length:Int)+1) * ((t.n:Int)+1)=((((wthC cu i).length+1) * (t.n+1):Nat):Int):=by push_cast;rfl
    rw [h8];omega
   have hwl:(wthC cu i).length≤3200:=by omega
   have hM:(addV c (dropI l i) (wthC cu i) t.l 0 0).map (arrR (ordI l.length i))=moreV c l cu i:=by unfold moreV;rw [hts]
   have hML:(addV c (dropI l i) (wthC cu i) t.l 0 0).length=(moreV c l cu i).length:=by rw [← hM,List.length_map]
   have hmol:=hshort hmo
   refine rsH [row 26 1 A9 c9 (dropI l i).length ((dropI l i).map TS.val),row 40 1 A3 c3 cu.length hs3,fz p3,blk pc c.cells 23] 1000 [0,1,2,3,5,6,7,8,4,9,10,11,12,13,14] ?_
   repeat' (first|refine d1 ?_|refine dd ?_|(show T _ (.ops _ (_::_)::_) _ _ _;first|refine T_val rfl (Val.load rfl (fun hg=>rdOld hrt)) rfl rfl rfl ?_|refine T_valC rfl (Val.load rfl (fun hg=>rdOld hrt)) rfl rfl rfl rfl rfl ?_)|(show T _ (.run _ _ (_::_) _ _::_) _ _ _;first|refine rv rfl rfl rfl (Val.load rfl (fun hg=>rdOld hrt)) rfl rfl rfl ?_|refine rg rfl rfl rfl (Val.load rfl (fun hg=>rdOld hrt)) rfl rfl rfl rfl rfl ?_|refine ro rfl rfl (OpT.callE1 rfl rfl rfl rfl rfl (fun w hw=>without_spec (.slice A3 cu.length c3) cu i w (rowRd hw (hI3.rd hw)) (fun q hq9=>by rw [hrow q hq9];exact hin) (fun q hq9=>by rw [hrow q hq9];omega) (by omega)) (fun y1 _=>⟨fun _=>Hle.tail _ _,?_⟩)))|(show ∀ _:Nat,T _ _ _ _ _;intro _))
   refine T_open fun q1 hq1=>?_
   refine ro rfl rfl (OpT.callE1 rfl rfl rfl rfl rfl (fun w hw=>add21_spec (h:=⟨hgd hw (srcRw w hw),hc,hbs9,hq1.own hw,fun col hcol=>ColsOk.colOk (l:=dropI l i) hwok hcol,src_below (hg.ok.src t htm) hw.below,htl,by omega,badS_ok hbs t htm,hg.sm t htm,by omega⟩) c9 t.cap hprod) (fun y9 _=>⟨fun _=>(Hle.tail _ _).trans (Hle.tail _ _),?_⟩))
   repeat' (first|refine d1 ?_|refine dd ?_|(show ∀ _:Nat,T _ _ _ _ _;intro _))
   refine T_if rfl (fun h=>by exfalso;simp at h) (fun _=>?_)
   repeat' (first|refine d1 ?_|refine dd ?_|(show ∀ _:Nat,T _ _ _ _ _;intro _))
   refine T_le (H':=[dat [y9] [rowsD (addV c (dropI l i) (wthC cu i) t.l 0 0)],row 40 1 A3 c3 cu.length hs3,fz p3,blk pc c.cells 23]) Hle.srt ?_
   refine T_open fun q2 hq2=>?_
   refine T_nilrow 3 1 ?_
   refine T_loopX (fun s:Nat × (Option Addr × Nat)=>[(75, .int .i64 (s.1:Nat)),(16, .slice s.2.1 (othS s.1 i).length s.2.2)]) (fun s=>[row 3 1 s.2.1 s.2.2 (othS s.1 i).length ((intN (othS s.1 i)).map (Value.int .i64)),fz q2,row 40 1 A3 c3 cu.length hs3,fz p3,blk pc c.cells 23]) (fun s=>s.1≤l.length) (fun s=>l.length - s.1) (0,(none,0)) (Nat.zero_le _) ?_
   rintro⟨k,⟨A6,c6⟩⟩ hk
   dsimp only at hk ⊢
   have hok6:(othS k i).length≤k:=by
    unfold othS
    have h9:=List.length_filter_le (fun q=>decide (q≠i)) (List.range k)
    rwa [List.length_range] at h9
   repeat' (first|refine d1 ?_|refine dd ?_|(show ∀ _:Nat,T _ _ _ _ _;intro _))
   refine T_if rfl (fun h3=>?_) (fun h3=>?_)
   ·simp only [decide_eq_true_eq] at h3
    have hsu:=othS_succ k i
    repeat' (first|refine d1 ?_|refine dd ?_|(show ∀ _:Nat,T _ _ _ _ _;intro _))
    refine T_if rfl (fun h4=>?_) (fun h4=>?_)
    ·have h5:k≠i:=fun h9=>by rw [h9] at h4;simp at h4
     rw [if_pos h5] at hsu
     repeat' (first|refine d1 ?_|refine dd ?_|(show T _ (.ops _ (_::_)::_) _ _ _;refine T_op (OpT.append (A:=A6) rfl rfl rfl rfl rfl rfl rfl rfl rfl rfl (fun w hw=>Src.own hw rfl) rfl (by dsimp only;omega) (by omega) (fun A' cap' hA'=>?_)))|(show ∀ _:Nat,T _ _ _ _ _;intro _))
     refine T_backX (k+1,(A',cap')) (by dsimp only;omega) (by dsimp only;omega) (hE:=⟨rfl,by dsimp only;rw [hsu,List.length_append];rfl,trivial⟩) (hG:=?_)
     dsimp only
     rw [hsu,List.length_append,intN_put,show [k].length=1 from rfl]
     exact Hle.srt
    ·have h5:k=i:=by
      simp only [Bool.not_eq_false',decide_eq_true_eq] at h4
      omega
     rw [if_neg (fun h9=>h9 h5),List.append_nil] at hsu
     repeat' (first|refine d1 ?_|refine dd ?_|(show ∀ _:Nat,T _ _ _ _ _;intro _))
     exact T_backX (k+1,(A6,c6)) (by dsimp only;omega) (by dsimp only;omega) (hE:=⟨rfl,by dsimp only;rw [hsu];rfl,trivial⟩) (hG:=by dsimp only;rw [hsu];exact Hle.refl _)
   simp only [decide_eq_false_iff_not] at h3
   obtain rfl:k=l.length:=by omega
   have hon:(othS l.length i).length+1=l.length:=by rw [othS_len hin];omega
   have hov:(intN (othS l.length i)).map (Value.int .i64)++flatP [(0, .int .i64 (i:Nat))]=(ordI l.length i).map fun k=>Value.int .i64 (k:Nat):=by
    unfold ordI
    rw [List.map_append,intN_val]
    rfl
   repeat' (first|refine d1 ?_|refine dd ?_|(show T _ (.ops _ (_::_)::_) _ _ _;refine T_op (OpT.append (A:=A6) rfl rfl rfl rfl rfl rfl rfl rfl rfl rfl (fun w hw=>Src.own hw rfl) rfl (by dsimp only;omega) (by omega) (fun A' cap' hA'=>?_)))|(show ∀ _:Nat,T _ _ _ _ _;intro _))
   rw [hov,hon]
   refine T_op (OpT.callE rfl rfl rfl rfl rfl (fun w hw=>arrangedR_spec y9 (addV c (dropI l i) (wthC cu i) t.l 0 0) _ l.length _ (ordI l.length i) w (hq2.own hw) (srcRw w hw) (ordI_len hin) (fun q hq9=>hmo2 q (by rw [hts];exact hq9)) (ordI_lt hin) (by omega) (by omega)) (fun y5 _=>?_))
   obtain⟨⟨A5,c5⟩,hs5⟩:=y5
   rw [hM,hML,show ∀ (a b:HA) (l:List HA),[a,b]++l=a::b::l from fun _ _ _=>rfl]
   refine T_le (H':=[dat hs5 ((moreV c l cu i).map intsD),row 40 1 A5 c5 (moreV c l cu i).length hs5,row 40 1 A3 c3 cu.length hs3,fz p3,blk pc c.cells 23]) Hle.srt ?_
   refine T_open fun q5 hq5=>?_
   repeat' (first|refine d1 ?_|refine dd ?_|(show T _ (.ops _ (_::_)::_) _ _ _;first|refine T_call rfl rfl rfl rfl rfl (fun w hw=>total21_spec c (some ⟨b,o,none⟩) l.length ca l (.slice A5 (moreV c l cu i).length c5) (moreV c l cu i) w (hg.cls hw) hc hbs (rowRd hw (hq5.own hw)) (fun q hq9=>ColsOk.colOk (l:=l) hmo hq9) (by omega)) ?_|refine T_callC rfl rfl rfl rfl rfl rfl rfl (fun hg w hw=>total21_spec c (some ⟨b,o,none⟩) l.length ca l (.slice A5 (moreV c l cu i).length c5) (moreV c l cu i) w (hg.cls hw) hc hbs (rowRd hw (hq5.own hw)) (fun q hq9=>ColsOk.colOk (l:=l) hmo hq9) (by omega)) ?_|refine T_call rfl rfl rfl rfl rfl (fun w hw=>total21_spec c (some ⟨b,o,none⟩) l.length ca l (.slice A3 cu.length c3) cu w (hg.cls hw) hc hbs (rowRd hw (hI3.rd hw)) (fun q hq9=>ColsOk.colOk (l:=l) hoki hq9) (by omega)) ?_|refine T_callC rfl rfl rfl rfl rfl rfl rfl (fun hg w hw=>total21_spec c (some ⟨b,o,none⟩) l.length ca l (.slice A3 cu.length c3) cu w (hg.cls hw) hc hbs (rowRd hw (hI3.rd hw)) (fun q hq9=>ColsOk.colOk (l:=l) hoki hq9) (by omega)) ?_)|(show T _ (.run _ _ (_::_) _ _::_) _ _ _;first|refine rc rfl rfl rfl rfl rfl rfl rfl (fun w hw=>total21_spec c (some ⟨b,o,none⟩) l.length ca l (.slice A5 (moreV c l cu i).length c5) (moreV c l cu i) w (hg.cls hw) hc hbs (rowRd hw (hq5.own hw)) (fun q hq9=>ColsOk.colOk (l:=l) hmo hq9) (by omega)) ?_|refine rcG rfl rfl rfl rfl rfl rfl rfl rfl rfl (fun hg w hw=>total21_spec c (some ⟨b,o,none⟩) l.length ca l (.slice A5 (moreV c l cu i).length c5) (moreV c l cu i) w (hg.cls hw) hc hbs (rowRd hw (hq5.own hw)) (fun q hq9=>ColsOk.colOk (l:=l) hmo hq9) (by omega)) ?_|refine rc rfl rfl rfl rfl rfl rfl rfl (fun w hw=>total21_spec c (some ⟨b,o,none⟩) l.length ca l (.slice A3 cu.length c3) cu w (hg.cls hw) hc hbs (rowRd hw (hI3.rd hw)) (fun q hq9=>ColsOk.colOk (l:=l) hoki hq9) (by omega)) ?_|refine rcG rfl rfl rfl rfl rfl rfl rfl rfl rfl (fun hg w hw=>total21_spec c (some ⟨b,o,none⟩) l.length ca l (.slice A3 cu.length c3) cu w (hg.cls hw) hc hbs (rowRd hw (hI3.rd hw)) (fun q hq9=>ColsOk.colOk (l:=l) hoki hq9) (by omega)) ?_)|(show ∀ _:Nat,T _ _ _ _ _;intro _))
   refine T_if rfl (fun h6=>?_) (fun h6=>?_)
   ·have h7:refS c l cu i=moreV c l cu i:=by unfold refS;rw [if_pos (by simpa using h6)]
    repeat' (first|refine d1 ?_|refine dd ?_|(show ∀ _:Nat,T _ _ _ _ _;intro _))
    exact T_backX (i+1,(A5,c5),hs5,q5) ⟨by dsimp only;omega,by dsimp only;rw [hrj,h7];exact ColsAt.own hq5⟩ (by dsimp only;omega) (hE:=⟨rfl,by dsimp only;rw [hrj,h7];rfl,trivial⟩) (hG:=by dsimp only;rw [hrj,h7];exact Hle.srt)
   ·have h7:refS c l cu i=cu:=by unfold refS;rw [if_neg (by simpa using h6)]
    repeat' (first|refine d1 ?_|refine dd ?_|(show ∀ _:Nat,T _ _ _ _ _;intro _))
    exact T_backX (i+1,(A3,c3),hs3,p3) ⟨by dsimp only;omega,by dsimp only;rw [hrj,h7];exact hI3⟩ (by dsimp only;omega) (hE:=⟨rfl,by dsimp only;rw [hrj,h7];rfl,trivial⟩) (hG:=by dsimp only;rw [hrj,h7];exact Hle.srt)
  ·simp only [decide_eq_false_iff_not] at h2
   obtain rfl:i=l.length:=by omega
   repeat' (first|refine d1 ?_|refine dd ?_|(show ∀ _:Nat,T _ _ _ _ _;intro _))
   exact T_backX (r+1,(A3,c3),hs3,p3) ⟨by dsimp only;omega,hI3⟩ (by dsimp only;omega)
 ·simp only [decide_eq_false_iff_not] at h1
  obtain rfl:r=z.toNat:=by omega
  have hokF:=(refN_ok c hln hok z.toNat).1
  generalize refN c l cols z.toNat=F at hI2 hokF ⊢
  have hFl:=hshort hokF
  have hFr:∀ q∈F,q.length=l.length:=fun q hq9=>by rw [hokF.len q hq9,lens_len]
  repeat' (first|refine d1 ?_|refine dd ?_|(show ∀ _:Nat,T _ _ _ _ _;intro _))
  refine T_le (dat_nil _) ?_
  refine T_loopX (fun s:Nat × List Value=>[(106, .int .i64 (s.1:Nat))]) (fun s=>[dat s.2 ((F.take s.1).map intsD),row 40 1 A2 c2 F.length (s.2++hs2.drop s.1),fz p2,blk pc c.cells 23]) (fun s=>s.1≤F.length∧s.2.length=s.1) (fun s=>F.length - s.1) (0,[]) ⟨Nat.zero_le _,rfl⟩ ?_
  rintro⟨i,ns⟩ ⟨hi,hns⟩
  dsimp only at hi hns ⊢
  repeat' (first|refine d1 ?_|refine dd ?_|(show ∀ _:Nat,T _ _ _ _ _;intro _))
  refine T_if rfl (fun h3=>?_) (fun h3=>?_)
  ·simp only [decide_eq_true_eq] at h3
   have hin:i<F.length:=by omega
   refine T_rowpos (A:=A2) (by omega) (fun g e=>?_)
   subst e
   obtain⟨f,hf⟩:∃ f,F[i]?=some f:=⟨_,List.getElem?_eq_getElem hin⟩
   obtain⟨Af,cf,hhd⟩:=hI2.sh hf
   have hfl:=hFr f (List.mem_of_getElem? hf)
   have htk:=take_snoc _ _ _ hf
   have hdr:hs2.drop i = .slice Af f.length cf::hs2.drop (i+1):=by
    obtain⟨h1,e⟩:=List.getElem?_eq_some_iff.1 hhd
    rw [List.drop_eq_getElem_cons h1,e]
   have hg1:∀ j u,[Value.slice Af f.length cf][j]?=some u→(ns++hs2.drop i)[i+j]?=some u:=fun j u hu=>by
    cases j with
    | zero=>rw [Nat.add_zero,List.getElem?_append_right (by omega),hns,Nat.sub_self,hdr];exact hu
    | succ j=>simp at hu
   have hsf:∀ {w':World} {H:List HA} [FocusZ H p2],Cls w w' H→Src w' 1 Af f.length (f.map (Value.int .i64)):=fun {w' H} _ hw=>(rd_one (hI2.rd hw) hhd (by rw [List.getElem?_map,hf];rfl)).intsAt
   repeat' (first|refine d1 ?_|refine dd ?_|(show T _ (.ops _ (_::_)::_) _ _ _;first|refine T_val rfl (Val.load rfl (fun hg=>rdRow (A:=some ⟨g,0,none⟩) (by omega) (fun j u hu=>by rw [show 0+(i:Int).toNat * 1=i by omega];exact hg1 j u hu))) rfl rfl rfl ?_|refine T_valC rfl (Val.load rfl (fun hg=>rdRow (A:=some ⟨g,0,none⟩) (by omega) (fun j u hu=>by rw [show 0+(i:Int).toNat * 1=i by omega];exact hg1 j u hu))) rfl rfl rfl rfl rfl ?_|refine T_callE rfl rfl rfl rfl rfl (fun w hw=>cloneI_spec Af f.length cf f w (hsf hw) (by omega)) (fun x9 _=>?_))|(show T _ (.run _ _ (_::_) _ _::_) _ _ _;first|refine rv rfl rfl rfl (Val.load rfl (fun hg=>rdRow (A:=some ⟨g,0,none⟩) (by omega) (fun j u hu=>by rw [show 0+(i:Int).toNat * 1=i by omega];exact hg1 j u hu))) rfl rfl rfl ?_|refine rg rfl rfl rfl (Val.load rfl (fun hg=>rdRow (A:=some ⟨g,0,none⟩) (by omega) (fun j u hu=>by rw [show 0+(i:Int).toNat * 1=i by omega];exact hg1 j u hu))) rfl rfl rfl rfl rfl ?_)|(show ∀ _:Nat,T _ _ _ _ _;intro _))
   obtain⟨A9,c9⟩:=x9
   dsimp only
   refine T_op (OpT.storeR (us:=[.slice A9 f.length c9]) rfl rfl rfl rfl rfl rfl (by show 0+(i:Int).toNat * 1+1≤F.length * 1;omega) ?_)
   have e9:setL (ns++hs2.drop i) (0+(i:Int).toNat * 1) [.slice A9 f.length c9]=(ns++[.slice A9 f.length c9])++hs2.drop (i+1):=by
    rw [hdr,show 0+(i:Int).toNat * 1=ns.length by omega]
    show (ns++_::_).set ns.length _=_
    rw [set_at]
    simp
   have hrw:intsD f = .s 1 ((f.map (Value.int .i64)).map .v):=by rw [List.map_map];rfl
   rw [e9]
   repeat' (first|refine d1 ?_|refine dd ?_|(show ∀ _:Nat,T _ _ _ _ _;intro _))
   refine T_backX (i+1,ns++[.slice A9 f.length c9]) ⟨by dsimp only;omega,by dsimp only;rw [List.length_append,hns];rfl⟩ (by dsimp only;omega) (hG:=?_)
   dsimp only
   rw [htk,List.map_append,show [f].map intsD=[intsD f] from rfl,hrw]
   exact dat_rowV.trans dat_join
  ·simp only [decide_eq_false_iff_not] at h3
   obtain rfl:i=F.length:=by omega
   rw [List.take_of_length_le (Nat.le_refl _),List.drop_of_length_le (by rw [hI2.len];omega),List.append_nil]
   repeat' (first|refine d1 ?_|refine dd ?_|(show ∀ _:Nat,T _ _ _ _ _;intro _)|(show T _ (.code .ret::_) _ _ _;refine T_retV _ rfl (((Hle.perm (List.Perm.swap _ _ _)).trans dat_row).trans (Hle.nth 0 rfl)) ⟨_,trivial,rfl,rfl⟩))
end Go.Proofs.YtmenjpmikhajfaaGreatDoor
namespace Go.Proofs.YtmenjpmikhajfaaGreatDoor
open Go.RowKit Go.Shelf Go.Proofs

structure OthP (c:Costs) (l:List TS) (cols:List (List Int)) (t:TS) (i k:Nat) (oth:List (List Int)):Prop where
 len:∀ x∈oth,x.length=l.length+1
 some_:∀ x∈oth,∃ z∈x,z ≠ -1
 src:∀ s,s<l.length→srcC oth s=srcC (cols.take i) s
 last:srcC oth l.length=upto k
 cost:totZ c l cols+rst (grdA c l cols t.l) 0 0≤totZ c (l++[t]) oth+totZ c l (cols.drop i)+rst (grdA c l cols t.l) i k
theorem OthP.start (c:Costs) (l:List TS) (cols:List (List Int)) (t:TS):OthP c l cols t 0 0 [] :=
 ⟨fun x h=>(by cases h),fun x h=>(by cases h),fun s _=>rfl,rfl,by rw [List.drop_zero];show _≤(0:Int)+_+_;omega⟩
theorem OthP.step {c:Costs} {l:List TS} {cols:List (List Int)} {t:TS} {i k:Nat} {oth:List (List Int)} (h:OthP c l cols t i k oth) (hcl:∀ x∈cols,x.length=l.length) (hcs:∀ x∈cols,∃ z∈x,z ≠ -1) {y:Mv} (hy:y∈mvs (grdA c l cols t.l) i k) :
  OthP c l cols t (i+y.fst) (k+y.snd) (oth++[colM l.length cols i k y]):=by
 have hvia:=rst_via hy
 unfold via at hvia
 have e1:(grdA c l cols t.l).n=cols.length:=rfl
 have e2:(grdA c l cols t.l).m=t.l.length:=rfl
 have hnl:(noneC l.length).length=l.length:=by unfold noneC;rw [List.length_replicate]
 have hnone:∀ s,(noneC l.length).getD s (-1) = -1:=fun s=>by
  unfold noneC;rw [List.getD_eq_getElem?_getD,List.getElem?_replicate];split <;> rfl
 have hrow:i<cols.length→(cols.getD i []).length=l.length∧(∃ z∈cols.getD i [],z ≠ -1)∧cols.take (i+1)=cols.take i++[cols.getD i []]∧cols.drop i=cols.getD i []::cols.drop (i+1):=fun hi=>by
  have e:cols.getD i []=cols[i]:=by rw [List.getD_eq_getElem?_getD,List.getElem?_eq_getElem hi];rfl
  rw [e]
  exact⟨hcl _ (List.getElem_mem hi),hcs _ (List.getElem_mem hi),take_snoc _ _ _ (List.getElem?_eq_getElem hi),List.drop_eq_getElem_cons hi⟩
 -- a column with an entry more
 have key:∀ (col:List Int) (z:Int) (q:Int) (i' k':Nat),col.length=l.length→(∃ w∈col++[z],w ≠ -1)→putC c l col t.l z=q →
   (∀ s,s<l.length→srcC (cols.take i) s++(if col.getD s (-1) = -1 then [] else [col.getD s (-1)])=srcC (cols.take i') s)→(upto k++(if z = -1 then [] else [z])=upto k') →
   (totZ c l (cols.drop i)=colZ c l col+totZ c l (cols.drop i'))→rst (grdA c l cols t.l) i k≤q+rst (grdA c l cols t.l) i' k'→OthP c l cols t i' k' (oth++[col++[z]]):=by
  intro col z q i' k' hl hs hq h1 h2 h3 h4
  have hone:∀ s,srcC (oth++[col++[z]]) s=srcC oth s++(if (col++[z]).getD s (-1) = -1 then [] else [(col++[z]).getD s (-1)]):=fun s=>by
   rw [srcC_app,srcC_cons]
   show _++(_++[])=_
   rw [List.append_nil]
  refine ⟨fun x hx=>?_,fun x hx=>?_,fun s hs2=>?_,?_,?_⟩
  ·rcases List.mem_append.1 hx with hx|hx
   ·exact h.len x hx
   ·rw [List.mem_singleton] at hx;subst hx;rw [List.length_append,hl];rfl
  ·rcases List.mem_append.1 hx with hx|hx
   ·exact h.some_ x hx
   ·rw [List.mem_singleton] at hx;subst hx;exact hs
  ·rw [hone,h.src s hs2,getD_left (by omega)]
   exact h1 s hs2
  ·rw [hone,h.last, ← hl,getD_end]
   exact h2
  ·have hc:=h.cost
   rw [totZ_app,totZ_cons,colZ_app c hl,hq]
   show _≤totZ c (l++[t]) oth+(colZ c l col+q+0)+_+_
   omega
 rcases mvs_form hy with⟨rfl,hi,hk⟩|⟨rfl,hi⟩|⟨rfl,hk⟩
 ·rw [e1] at hi
  obtain⟨r1,r2,r3,r4⟩:=hrow hi
  have ecl:colM l.length cols i k ⟨1,1,(grdA c l cols t.l).p i k⟩=cols.getD i []++[(k:Int)]:=by unfold colM;rw [if_pos rfl,if_pos rfl]
  rw [ecl]
  refine key _ _ _ (i+1) (k+1) r1 ⟨(k:Int),by simp,by omega⟩ rfl (fun s hs=>?_) ?_ (by rw [r4,totZ_cons]) hvia
  ·rw [r3,srcC_app,srcC_cons];show _=_++(_++[]);rw [List.append_nil]
  ·rw [if_neg (by omega),upto_succ]
 ·rw [e1] at hi
  obtain⟨r1,⟨w,w1,w2⟩,r3,r4⟩:=hrow hi
  have ecl:colM l.length cols i k ⟨1,0,(grdA c l cols t.l).g i⟩=cols.getD i []++[-1]:=by unfold colM;rw [if_pos rfl,if_neg (show ¬ (0:Nat)=1 by omega)]
  rw [ecl]
  refine key _ _ _ (i+1) k r1 ⟨w,List.mem_append_left _ w1,w2⟩ rfl (fun s hs=>?_) ?_ (by rw [r4,totZ_cons]) hvia
  ·rw [r3,srcC_app,srcC_cons];show _=_++(_++[]);rw [List.append_nil]
  ·rw [if_pos rfl,List.append_nil]
 ·have ecl:colM l.length cols i k ⟨0,1,(grdA c l cols t.l).h k⟩=noneC l.length++[(k:Int)]:=by unfold colM;rw [if_neg (show ¬ (0:Nat)=1 by omega),if_pos rfl]
  rw [ecl]
  refine key _ _ _ i (k+1) hnl ⟨(k:Int),by simp,by omega⟩ rfl (fun s hs=>?_) ?_ (by rw [colZ_none];omega) hvia
  ·rw [hnone,if_pos rfl,List.append_nil]
  ·rw [if_neg (by omega),upto_succ]
theorem OthP.fin {c:Costs} {l:List TS} {cols:List (List Int)} {t:TS} {i k:Nat} {oth:List (List Int)} (h:OthP c l cols t i k oth) (hok:ColsOk (lens l) cols) (htn:t.l.length=t.n) (hi:i=cols.length) (hk:k=t.l.length) :
  ColsOk (lens (l++[t])) oth∧totZ c (l++[t]) (addV c l cols t.l 0 0)≤totZ c (l++[t]) oth:=by
 subst hi;subst hk
 have hll:=lens_len l
 have e:lens (l++[t])=lens l++[t.n]:=by rw [lens_app];rfl
 refine ⟨⟨fun x hx=>?_,h.some_,fun s n hs=>?_⟩,?_⟩
 ·rw [e,List.length_append,hll];exact h.len x hx
 ·rw [e] at hs
  by_cases hsl:s<l.length
  ·rw [List.getElem?_append_left (by omega)] at hs
   rw [h.src s hsl,List.take_of_length_le (Nat.le_refl _)]
   exact hok.src s n hs
  ·have hse:s=l.length:=by
    have:=(List.getElem?_eq_some_iff.1 hs).1
    rw [List.length_append,hll] at this
    have h1:[t.n].length=1:=rfl
    omega
   subst hse
   rw [List.getElem?_append_right (by omega),hll,Nat.sub_self] at hs
   cases hs
   rw [h.last,htn]
 ·have hlen:∀ x∈cols,x.length=l.length:=fun x hx=>by rw [hok.len x hx,hll]
  rw [totZ_add hlen t 0 0 (Nat.zero_le _) (Nat.zero_le _),List.drop_zero]
  have hc:=h.cost
  rw [List.drop_of_length_le (Nat.le_refl _),rst_none (G:=grdA c l cols t.l) (i:=cols.length) (k:=t.l.length) (Nat.lt_irrefl _) (Nat.lt_irrefl _)] at hc
  have h0:totZ c l []=0:=rfl
  omega
end Go.Proofs.YtmenjpmikhajfaaGreatDoor
namespace Go.Proofs.YtmenjpmikhajfaaGreatDoor
open Go.RowKit Go.Shelf Go.Proofs

end Go.Proofs.YtmenjpmikhajfaaGreatDoor
namespace Go.Proofs.YtmenjpmikhajfaaGreatDoor
open Go.RowKit Go.Shelf Go.Proofs

theorem othS_eq {n i:Nat} (h:i<n):othS n i=dropI (List.range n) i:=by
 have h9:=oth_dropI (0:Nat) (l:=List.range n) (i:=i) (by rw [List.length_range];exact h)
 rw [List.length_range] at h9
 rw [← h9]
 have e:(othS n i).map (fun k=>(List.range n).getD k 0)=(othS n i).map id:=List.map_congr_left fun k hk=>by
  have:=(othS_mem.1 hk).1
  rw [List.getD_eq_getElem?_getD,List.getElem?_range this];rfl
 rw [e,List.map_id]
theorem othS_get {n i k:Nat} (h:i<n) (hk:k+1<n):(othS n i)[k]?=some (if k<i then k else k+1):=by
 rw [othS_eq h]
 unfold dropI
 by_cases h1:k<i
 ·rw [if_pos h1,List.getElem?_append_left (by rw [List.length_take,List.length_range];omega),List.getElem?_take_of_lt h1,List.getElem?_range (by omega)]
 ·rw [if_neg h1,List.getElem?_append_right (by rw [List.length_take,List.length_range];omega),List.length_take,List.length_range,List.getElem?_drop,List.getElem?_range (by omega)]
  congr 1;omega
theorem arrR_ordI {n i:Nat} {r:List Int} (h:i<n) (hr:r.length=n):arrR (ordI n i) r=r.take i++([r.getD (n - 1) (-1)]++(r.take (n - 1)).drop i):=by
 subst hr
 have hl:=ordI_len h
 have hget:∀ k,k<r.length→(arrR (ordI r.length i) r)[(ordI r.length i).getD k 0]?=r[k]?:=fun k hk=>arrR_get (ordI_nodup _ _) hl (ordI_lt h) hk
 apply List.ext_getElem?
 intro s
 by_cases hs:s<r.length
 ·by_cases h1:s<i
  ·have h2:=hget s hs
   have h3:(ordI r.length i).getD s 0=s:=by
    unfold ordI
    rw [List.getD_eq_getElem?_getD,List.getElem?_append_left (by rw [othS_len h];omega),othS_get h (by omega),if_pos h1];rfl
   rw [h3] at h2
   rw [h2,List.getElem?_append_left (by rw [List.length_take];omega),List.getElem?_take_of_lt h1]
  ·by_cases h4:s=i
   ·subst h4
    have h2:=hget (r.length - 1) (by omega)
    have h3:(ordI r.length s).getD (r.length - 1) 0=s:=by
     unfold ordI
     rw [List.getD_eq_getElem?_getD,List.getElem?_append_right (by rw [othS_len h];omega),othS_len h,Nat.sub_self];rfl
    rw [h3] at h2
    rw [h2,List.getElem?_append_right (by rw [List.length_take];omega),List.length_take,Nat.min_eq_left (by omega),Nat.sub_self,List.getD_eq_getElem?_getD,List.getElem?_eq_getElem (by omega)];rfl
   ·have h2:=hget (s - 1) (by omega)
    have h3:(ordI r.length i).getD (s - 1) 0=s:=by
     unfold ordI
     rw [List.getD_eq_getElem?_getD,List.getElem?_append_left (by rw [othS_len h];omega),othS_get h (by omega),if_neg (by omega)]
     show s - 1+1=s
     omega
    rw [h3] at h2
    rw [h2,List.getElem?_append_right (by rw [List.length_take];omega),List.length_take,Nat.min_eq_left (by omega),List.getElem?_append_right (by simp;omega),List.getElem?_drop,List.getElem?_take_of_lt (by simp;omega)]
    congr 1;simp;omega
 ·rw [List.getElem?_eq_none (by rw [arrR_len];omega),List.getElem?_eq_none (by simp;omega)]
end Go.Proofs.YtmenjpmikhajfaaGreatDoor
namespace Go.Proofs.YtmenjpmikhajfaaGreatDoor
open Go.RowKit Go.Shelf Go.Proofs

end Go.Proofs.YtmenjpmikhajfaaGreatDoor
namespace Go.Proofs.YtmenjpmikhajfaaGreatDoor
open Go.RowKit Go.Shelf Go.Proofs

end Go.Proofs.YtmenjpmikhajfaaGreatDoor
namespace Go.Proofs.YtmenjpmikhajfaaGreatDoor
open Go.RowKit Go.Shelf Go.Proofs

end Go.Proofs.YtmenjpmikhajfaaGreatDoor
namespace Go.Proofs.YtmenjpmikhajfaaGreatDoor
open Go.RowKit Go.Shelf Go.Proofs
set_option maxRecDepth 100000

end Go.Proofs.YtmenjpmikhajfaaGreatDoor
namespace Go.Proofs.YtmenjpmikhajfaaGreatDoor
open Go.RowKit Go.Shelf
set_option maxRecDepth 100000
set_option maxHeartbeats 1000000

end Go.Proofs.YtmenjpmikhajfaaGreatDoor
namespace Go.Proofs.YtmenjpmikhajfaaGreatDoor
open Go.RowKit Go.Shelf Go.Sort Go.Lib
set_option maxRecDepth 100000
set_option maxHeartbeats 1000000
variable {α:Type} [Inhabited α]

end Go.Proofs.YtmenjpmikhajfaaGreatDoor
namespace Go.Proofs.YtmenjpmikhajfaaGreatDoor
open Go.RowKit Go.Shelf Go.Lib Go.Sort Go.Proofs
set_option maxRecDepth 100000
set_option maxHeartbeats 2000000
end Go.Proofs.YtmenjpmikhajfaaGreatDoor
namespace Go.Proofs.YtmenjpmikhajfaaGreatDoor
open Go.RowKit Go.Shelf Go.Proofs
set_option maxRecDepth 100000
set_option maxHeartbeats 1000000

end Go.Proofs.YtmenjpmikhajfaaGreatDoor
namespace Go.Proofs.YtmenjpmikhajfaaGreatDoor
open Go.RowKit Go.Shelf Go.Proofs
set_option maxRecDepth 100000
set_option maxHeartbeats 1000000

end Go.Proofs.YtmenjpmikhajfaaGreatDoor
namespace Go.Proofs.YtmenjpmikhajfaaGreatDoor
open Go.RowKit Go.Shelf Go.Proofs
set_option maxRecDepth 100000
set_option maxHeartbeats 1000000

end Go.Proofs.YtmenjpmikhajfaaGreatDoor
namespace Go.Proofs.YtmenjpmikhajfaaGreatDoor
open Go.RowKit Go.Shelf Go.Proofs Go.Sort Go.Lib
set_option maxRecDepth 100000
set_option maxHeartbeats 1000000

structure MvAt (p:Frag) where
 v:Value
 m:List Nat
 rd:Rd (fr p) [v] [intsD (intN m)]
 ne:m≠[]
 le:m.length≤1000
end Go.Proofs.YtmenjpmikhajfaaGreatDoor
namespace Go.Proofs.YtmenjpmikhajfaaGreatDoor
open Go.RowKit Go.Shelf Go.Proofs
set_option maxRecDepth 100000
set_option maxHeartbeats 1000000

end Go.Proofs.YtmenjpmikhajfaaGreatDoor
namespace Go.Proofs.YtmenjpmikhajfaaGreatDoor
open Go.RowKit Go.Shelf Go.Proofs
set_option maxRecDepth 100000
set_option maxHeartbeats 1000000

end Go.Proofs.YtmenjpmikhajfaaGreatDoor
namespace Go.Proofs.YtmenjpmikhajfaaGreatDoor
open Go.RowKit Go.Shelf Go.Proofs
set_option maxRecDepth 100000
set_option maxHeartbeats 1000000

theorem sumL_lens {l:List TS} (h:∀ t∈l,t.n≤1000):sumL (lens l)≤1000 * l.length:=by
 induction l with
 | nil=>exact Nat.zero_le _
 | cons t l ih =>
  have h1:=h t (.head _)
  have h2:=ih fun x hx=>h x (.tail _ hx)
  show t.n+sumL (lens l)≤_
  rw [List.length_cons]
  omega
end Go.Proofs.YtmenjpmikhajfaaGreatDoor
namespace Go.Proofs.YtmenjpmikhajfaaGreatDoor
open Go.RowKit Go.Shelf Go.Proofs
set_option maxRecDepth 100000
set_option maxHeartbeats 1000000

end Go.Proofs.YtmenjpmikhajfaaGreatDoor
namespace Go.Proofs.YtmenjpmikhajfaaGreatDoor
open Go.RowKit Go.Shelf Go.Proofs
set_option maxRecDepth 100000
set_option maxHeartbeats 1000000

end Go.Proofs.YtmenjpmikhajfaaGreatDoor
namespace Go.Proofs.YtmenjpmikhajfaaGreatDoor
open Go.RowKit Go.Shelf Go.Proofs
set_option maxRecDepth 100000
set_option maxHeartbeats 1000000

end Go.Proofs.YtmenjpmikhajfaaGreatDoor
namespace Go.Proofs.YtmenjpmikhajfaaGreatDoor
open Go.RowKit Go.Shelf Go.Proofs
set_option maxRecDepth 100000
set_option maxHeartbeats 1000000

end Go.Proofs.YtmenjpmikhajfaaGreatDoor
namespace Go.Proofs.YtmenjpmikhajfaaGreatDoor
open Go.RowKit Go.Shelf Go.Proofs
set_option maxRecDepth 100000
set_option maxHeartbeats 1000000

end Go.Proofs.YtmenjpmikhajfaaGreatDoor
namespace Go.Proofs.YtmenjpmikhajfaaGreatDoor
open Go.RowKit Go.Shelf Go.Proofs
set_option maxRecDepth 100000
set_option maxHeartbeats 1000000

theorem anyP_snoc (a:List Int) (z:Int):anyP (a++[z])=(anyP a || decide (0≤z)):=by unfold anyP;rw [List.any_append];simp
end Go.Proofs.YtmenjpmikhajfaaGreatDoor
namespace Go.Proofs.YtmenjpmikhajfaaGreatDoor
open Go.RowKit Go.Shelf Go.Proofs
set_option maxRecDepth 100000
set_option maxHeartbeats 1000000

theorem usableR_spec (c:Costs) (A:Option Addr) (n ca:Nat) (l:List TS) (w:World) (hg:Grp w A n l):Spec Tryz.prog 105 [c.val, .slice A n ca] w (fun v R=>v = .int .i64 (usV c l)∧R=[]):=by
 have hn:=hg.hn
 have hb:=hg.hb
 refine spec_of sg Tryz.func105 rfl rfl rfl ?_
 refine T_op (OpT.box (cs:=c.cells) rfl rfl rfl rfl rfl rfl rfl (fun pc=>?_))
 repeat' (first|refine d1 ?_|refine dd ?_|(show T _ (.ops _ (_::_)::_) _ _ _;first|refine T_call rfl rfl rfl rfl rfl (fun w hw=>srcs19R_spec A n ca l w (hg.cls hw)) ?_|refine T_callC rfl rfl rfl rfl rfl rfl rfl (fun hg w hw=>srcs19R_spec A n ca l w (hg.cls hw)) ?_)|(show T _ (.run _ _ (_::_) _ _::_) _ _ _;first|refine rc rfl rfl rfl rfl rfl rfl rfl (fun w hw=>srcs19R_spec A n ca l w (hg.cls hw)) ?_|refine rcG rfl rfl rfl rfl rfl rfl rfl rfl rfl (fun hg w hw=>srcs19R_spec A n ca l w (hg.cls hw)) ?_)|(show ∀ _:Nat,T _ _ _ _ _;intro _))
 by_cases h0:n=0
 ·rw [if_pos h0]
  refine T_if rfl (fun h=>?_) (fun h=>by exfalso;simp at h)
  repeat' (first|refine d1 ?_|refine dd ?_|(show ∀ _:Nat,T _ _ _ _ _;intro _)|(show T _ (.code .ret::_) _ _ _;refine T_retV [] rfl (Hle.none _) ⟨congrArg (Value.int .i64) (if_pos (by omega)).symm,rfl⟩))
 rw [if_neg h0]
 refine T_if rfl (fun h=>by exfalso;simp at h) (fun _=>?_)
 repeat' (first|refine d1 ?_|refine dd ?_|(show T _ (.ops _ (_::_)::_) _ _ _;first|refine T_call rfl rfl rfl rfl rfl (fun w hw=>costRef_spec c w) ?_|refine T_callC rfl rfl rfl rfl rfl rfl rfl (fun hg w hw=>costRef_spec c w) ?_)|(show T _ (.run _ _ (_::_) _ _::_) _ _ _;first|refine rc rfl rfl rfl rfl rfl rfl rfl (fun w hw=>costRef_spec c w) ?_|refine rcG rfl rfl rfl rfl rfl rfl rfl rfl rfl (fun hg w hw=>costRef_spec c w) ?_)|(show ∀ _:Nat,T _ _ _ _ _;intro _))
 refine T_if rfl (fun h=>?_) (fun h=>?_)
 ·have h1:costE c≠0:=by simpa using h
  repeat' (first|refine d1 ?_|refine dd ?_|(show ∀ _:Nat,T _ _ _ _ _;intro _)|(show T _ (.code .ret::_) _ _ _;refine T_retV [] rfl (Hle.none _) ⟨congrArg (Value.int .i64) ?_,rfl⟩))
  unfold usV ck21
  rw [if_neg (by omega),if_neg (fun h9=>h1 h9.1)]
 have hc:costE c=0:=by simpa using h
 clear h
 repeat' (first|refine d1 ?_|refine dd ?_|(show ∀ _:Nat,T _ _ _ _ _;intro _))
 refine T_loopX (fun i:Nat=>[(6, .int .i64 (i:Nat))]) (fun _=>[blk pc c.cells 23]) (fun i=>i≤n∧∀ j t,j<i→l[j]?=some t→badL t.l=false) (fun i=>n - i) 0 ⟨Nat.zero_le _,fun j t h=>by omega⟩ ?_
 rintro i ⟨hi,hok⟩
 repeat' (first|refine d1 ?_|refine dd ?_|(show ∀ _:Nat,T _ _ _ _ _;intro _))
 refine T_if rfl (fun h1=>?_) (fun h1=>?_)
 ·simp only [decide_eq_true_eq] at h1
  have hin:i<n:=by omega
  obtain⟨b,o,rfl⟩:=hg.hs.base (by omega)
  obtain⟨t,ht,htm,hr⟩:=hg.get hin
  have htl:=hg.ok.len t htm
  have htn:=hg.nb t htm
  repeat' (first|refine d1 ?_|refine dd ?_|(show ∀ _:Nat,T _ _ _ _ _;intro _))
  refine T_loopX (fun k:Nat=>[(7, .int .i64 (k:Nat))]) (fun _=>[blk pc c.cells 23]) (fun k=>k≤t.n∧∀ q x,q<k→t.l[q]?=some x→tokE x=0) (fun k=>t.n - k) 0 ⟨Nat.zero_le _,fun j t h=>by omega⟩ ?_
  rintro k ⟨hk,hokk⟩
  repeat' (first|refine d1 ?_|refine dd ?_|(show ∀ _:Nat,T _ _ _ _ _;intro _))
  refine T_if rfl (fun h2=>?_) (fun h2=>?_)
  ·simp only [decide_eq_true_eq] at h2
   have hkn:k<t.n:=by omega
   obtain⟨b4,o4,hsA⟩:=(hg.ok.src t htm).base (by omega)
   have hsr:RdC w b4 (o4+(k:Int).toNat * 6) (tkA t.l k).cells:=(hsA ▸ hg.ok.src t htm:Src w 6 (some ⟨b4,o4,none⟩) t.n (t.l.flatMap Tok.cells)).getT (k:=k) (by omega) (tkA_get (by omega))
   rw [hsA] at hr
   repeat' (first|refine d1 ?_|refine dd ?_|(show T _ (.ops _ (_::_)::_) _ _ _;first|refine T_call rfl rfl rfl rfl rfl (fun w hw=>tokRef_spec (tkA t.l k) w) ?_|refine T_callC rfl rfl rfl rfl rfl rfl rfl (fun hg w hw=>tokRef_spec (tkA t.l k) w) ?_)|(show T _ (.run _ _ (_::_) _ _::_) _ _ _;first|refine rc rfl rfl rfl rfl rfl rfl rfl (fun w hw=>tokRef_spec (tkA t.l k) w) ?_|refine rcG rfl rfl rfl rfl rfl rfl rfl rfl rfl (fun hg w hw=>tokRef_spec (tkA t.l k) w) ?_)|(show ∀ _:Nat,T _ _ _ _ _;intro _))
   refine T_if rfl (fun h3=>?_) (fun h3=>?_)
   ·have h4:tokE (tkA t.l k)≠0:=by simpa using h3
    have hbt:badS l=true:=List.any_eq_true.2 ⟨t,htm,List.any_eq_true.2 ⟨tkA t.l k,tkA_mem (by omega),by simpa using h4⟩⟩
    repeat' (first|refine d1 ?_|refine dd ?_|(show ∀ _:Nat,T _ _ _ _ _;intro _)|(show T _ (.code .ret::_) _ _ _;refine T_retV [] rfl (Hle.none _) ⟨congrArg (Value.int .i64) ?_,rfl⟩))
    unfold usV ck21
    rw [if_neg (by omega),if_neg (fun h9=>by rw [hbt] at h9;exact absurd h9.2 (by decide))]
   ·have h4:tokE (tkA t.l k)=0:=by simpa using h3
    repeat' (first|refine d1 ?_|refine dd ?_|(show ∀ _:Nat,T _ _ _ _ _;intro _))
    refine T_backX (k+1) ⟨by omega,fun q x hq hx=>?_⟩ (by omega)
    rcases Nat.lt_or_ge q k with h5|h5
    ·exact hokk q x h5 hx
    ·rw [show q=k by omega,tkA_get (by omega)] at hx
     cases hx
     exact h4
  ·simp only [decide_eq_false_iff_not] at h2
   repeat' (first|refine d1 ?_|refine dd ?_|(show ∀ _:Nat,T _ _ _ _ _;intro _))
   refine T_backX (i+1) ⟨by omega,fun j u hj hu=>?_⟩ (by omega)
   rcases Nat.lt_or_ge j i with h5|h5
   ·exact hok j u h5 hu
   ·rw [show j=i by omega,ht] at hu
    cases hu
    refine badL_false.2 fun x hx=>?_
    obtain⟨q,hq,e⟩:=List.getElem_of_mem hx
    exact hokk q x (by omega) (by rw [List.getElem?_eq_getElem hq,e])
 ·simp only [decide_eq_false_iff_not] at h1
  have hbs:badS l=false:=List.any_eq_false.2 fun t ht=>by
   obtain⟨q,hq,e⟩:=List.getElem_of_mem ht
   rw [hok q t (by omega) (by rw [List.getElem?_eq_getElem hq,e])];simp
  repeat' (first|refine d1 ?_|refine dd ?_|(show ∀ _:Nat,T _ _ _ _ _;intro _)|(show T _ (.code .ret::_) _ _ _;refine T_retV [] rfl (Hle.none _) ⟨congrArg (Value.int .i64) ?_,rfl⟩))
  unfold usV ck21
  rw [if_neg (by omega),if_pos ⟨hc,hbs⟩]
def ownR (l:List TS) (col:List Int) (a:Tok) (k:Nat):List Tok:=(List.range l.length).map fun s=>if s<k then (if 0≤col.getD s (-1) then tkA (tsA l s).l (col.getD s (-1)).toNat else a) else noTok
theorem ownR_len (l:List TS) (col:List Int) (a:Tok) (k:Nat):(ownR l col a k).length=l.length:=by simp [ownR]
theorem ownR_zero (l:List TS) (col:List Int) (a:Tok):ownR l col a 0=List.replicate l.length noTok:=by
 refine List.ext_getElem? fun s=>?_
 unfold ownR
 rw [List.getElem?_map,List.getElem?_replicate]
 rcases Nat.lt_or_ge s l.length with h|h
 ·rw [List.getElem?_range h,if_pos h];simp
 ·rw [if_neg (by omega),List.getElem?_eq_none (by simp;omega)];rfl
theorem ownR_set {l:List TS} {col:List Int} {a x:Tok} {k:Nat} (hk:k<l.length) (hx:x=if 0≤col.getD k (-1) then tkA (tsA l k).l (col.getD k (-1)).toNat else a):(ownR l col a k).set k x=ownR l col a (k+1):=by
 refine List.ext_getElem? fun s=>?_
 unfold ownR
 rw [List.getElem?_set,List.getElem?_map,List.getElem?_map,List.length_map,List.length_range]
 by_cases e:k=s
 ·subst e
  rw [if_pos rfl,if_pos hk,List.getElem?_range hk,Option.map_some,if_pos (by omega),hx]
 ·rw [if_neg e]
  rcases Nat.lt_or_ge s l.length with h2|h2
  ·rw [List.getElem?_range h2,Option.map_some,Option.map_some]
   by_cases h3:s<k
   ·rw [if_pos h3,if_pos (show s<k+1 by omega)]
   ·rw [if_neg h3,if_neg (show ¬ s<k+1 by omega)]
  ·rw [List.getElem?_eq_none (by simp;omega)];rfl
theorem ownR_colV {w:World} {A:Option Addr} {n:Nat} {l:List TS} (hg:Grp w A n l) {c:Costs} (hc:costE c=0) (hbs:badS l=false) {col:List Int} (hco:ColOk l col) (a:Tok):columnV c (ownR l col a l.length) (thJ l col l.length)=(colZ c l col,0):=by
 have hb:=hg.hb
 have hn:=hg.hn
 refine columnV_Z hc hbs hg.ok.len (by omega) hco (ownR_len _ _ _ _) (thJ_len _ _ _) (fun i hi=>?_) (fun i hi h0=>?_)
 ·unfold thA thJ
  rw [List.getD_eq_getElem?_getD,List.getElem?_map,List.getElem?_range hi]
  show decide (i<l.length∧0≤col.getD i (-1))=_
  by_cases h:0≤col.getD i (-1)
  ·rw [decide_eq_true h,decide_eq_true ⟨hi,h⟩]
  ·rw [decide_eq_false h,decide_eq_false (fun h9=>h h9.2)]
 ·have e:(ownR l col a l.length)[i]?=some (tkA (tsA l i).l (col.getD i (-1)).toNat):=by
   unfold ownR
   rw [List.getElem?_map,List.getElem?_range hi,Option.map_some,if_pos hi,if_pos h0]
  unfold tkA at e ⊢
  rw [List.getD_eq_getElem?_getD (l:=ownR l col a l.length),e]
  rfl
theorem columnCostR_spec (c:Costs) (A Ac:Option Addr) (n ca cc:Nat) (l:List TS) (col:List Int) (w:World) (hg:Grp w A n l) (hc:costE c=0) (hbs:badS l=false) (hcs:Src w 1 Ac n (col.map (Value.int .i64))) (hco:ColOk l col) :
  Spec Tryz.prog 110 [c.val, .slice A n ca, .slice Ac n cc] w (fun v R=>v = .int .i64 (colZ c l col)∧R=[]):=by
 have hn:=hg.hn
 subst hn
 have hb:=hg.hb
 refine spec_of sg Tryz.func110 rfl rfl rfl ?_
 refine T_op (OpT.box (cs:=c.cells) rfl rfl rfl rfl rfl rfl rfl (fun pc=>?_))
 repeat' (first|refine d1 ?_|(show ∀ _:Nat,T _ _ _ _ _;intro _))
 refine T_cutX 1 [7,8] (fun s:Nat × Nat=>[(7, .slice (some ⟨s.1,0,none⟩) l.length l.length),(8, .slice (some ⟨s.2,0,none⟩) l.length l.length)]) (fun s=>[blk s.1 (madeCells (noTok.val).cells (l.length * (noTok.val).cells.size)).toList 79,blk s.2 (List.replicate l.length (.bool false)) 4,blk pc c.cells 23]) (fun _=>True) ?_ ?_
 ·refine dw0 1000 [blk pc c.cells 23] ?_
  repeat' (first|(show T _ (.draw _ _ _ _ _::_) _ _ _;first|refine dw1 ?_|refine dwb rfl (by decide +kernel) ?_)|(show AllL _ [];exact True.intro)|(show AllL _ (_::_);refine ⟨?_,?_⟩)|(show OpT _ _ _ _ _ _ _;first|refine dwx ?_|refine OpT.makeC rfl rfl rfl rfl rfl rfl (by dsimp only;omega) (fun b2=>⟨fun _=>(by first|exact Hle.none _|exact Hle.sub|exact absurd ‹_› (by decide +kernel)),?_⟩)|refine OpT.make rfl rfl rfl rfl rfl rfl rfl rfl rfl (by dsimp only;omega) (fun b3=>⟨fun _=>(by first|exact Hle.none _|exact Hle.sub|exact absurd ‹_› (by decide +kernel)),?_⟩))|(show ∀ _:Nat,T _ _ _ _ _;intro _)|(show T _ (.mark _::_) _ _ _;exact T_meetX (_,_) trivial (hG:=by exact Hle.srt)))
 rintro⟨b2,b3⟩ _
 dsimp only
 refine T_le (H':=[blk b2 ((List.replicate l.length noTok).flatMap Tok.cells) 79,blk b3 ((thJ l col 0).map Value.bool) 4,blk pc c.cells 23]) (by rw [thJ_zero,made_toks,List.map_replicate];exact Hle.refl _) ?_
 repeat' (first|refine d1 ?_|refine dd ?_|(show ∀ _:Nat,T _ _ _ _ _;intro _))
 rename_i b9
 refine T_loopX (fun s:Nat × Tok=>[(10, .int .i64 (s.1:Nat))]) (fun s=>[blk b9 s.2.cells 79,blk b2 ((List.replicate l.length noTok).flatMap Tok.cells) 79,blk b3 ((thJ l col 0).map Value.bool) 4,blk pc c.cells 23]) (fun s=>s.1≤l.length) (fun s=>l.length - s.1) (0,noTok) (Nat.zero_le _) ?_
 rintro⟨k,a⟩ hk
 dsimp only at hk ⊢
 repeat' (first|refine d1 ?_|refine dd ?_|(show ∀ _:Nat,T _ _ _ _ _;intro _))
 refine T_if rfl (fun h=>?_) (fun h=>?_)
 ·simp only [decide_eq_true_eq] at h
  have hkn:k<l.length:=by omega
  obtain⟨b1,o1,rfl⟩:=hcs.base (by omega)
  obtain⟨b,o,rfl⟩:=hg.hs.base (by omega)
  obtain⟨s,hs,hsmem,hr⟩:=hg.get hkn
  obtain⟨z,hz⟩:∃ z,col[k]?=some z:=⟨_,List.getElem?_eq_getElem (by have:=hco.1;omega)⟩
  have hr1:=src_int hcs hkn hz
  obtain⟨hz1,hz2⟩:=hco.2 k z s hz hs
  have hsl:=hg.ok.len s hsmem
  have hsn:=hg.nb s hsmem
  repeat' (first|refine d1 ?_|refine dd ?_|(show ∀ _:Nat,T _ _ _ _ _;intro _))
  refine T_if rfl (fun h1=>?_) (fun h1=>?_)
  ·simp only [decide_eq_true_eq] at h1
   obtain⟨b4,o4,hsA⟩:=(hg.ok.src s hsmem).base (by omega)
   have hsr:RdC w b4 (o4+z.toNat * 6) (tkA s.l z.toNat).cells:=(hsA ▸ hg.ok.src s hsmem:Src w 6 (some ⟨b4,o4,none⟩) s.n (s.l.flatMap Tok.cells)).getT (k:=z.toNat) (by omega) (tkA_get (by omega))
   rw [hsA] at hr
   repeat' (first|refine d1 ?_|refine dd ?_|(show T _ (.run _ _ (_::_) _ _::_) _ _ _;refine ro rfl rfl (OpT.storeA (us:=(tkA s.l z.toNat).cells) rfl rfl rfl rfl rfl rfl (by show 0+6≤6;omega) ⟨fun hlv=>absurd hlv (by decide +kernel),?_⟩))|(show ∀ _:Nat,T _ _ _ _ _;intro _))
   exact T_backX (k+1,tkA s.l z.toNat) (by dsimp only;omega) (by dsimp only;omega)
  ·repeat' (first|refine d1 ?_|refine dd ?_|(show ∀ _:Nat,T _ _ _ _ _;intro _))
   exact T_backX (k+1,a) (by dsimp only;omega) (by dsimp only;omega)
 simp only [decide_eq_false_iff_not] at h
 clear h hk
 repeat' (first|refine d1 ?_|refine dd ?_|(show ∀ _:Nat,T _ _ _ _ _;intro _))
 refine T_loopX (fun q:Nat=>[(11, .int .i64 (q:Nat))]) (fun q=>[blk b9 a.cells 79,blk b2 ((ownR l col a q).flatMap Tok.cells) 79,blk b3 ((thJ l col q).map Value.bool) 4,blk pc c.cells 23]) (fun q=>q≤l.length) (fun q=>l.length - q) 0 (Nat.zero_le _) ?_ (hG:=by rw [ownR_zero];exact Hle.refl _)
 rintro q hq
 repeat' (first|refine d1 ?_|refine dd ?_|(show ∀ _:Nat,T _ _ _ _ _;intro _))
 refine T_if rfl (fun h=>?_) (fun h=>?_)
 ·simp only [decide_eq_true_eq] at h
  have hqn:q<l.length:=by omega
  obtain⟨b1,o1,rfl⟩:=hcs.base (by omega)
  obtain⟨b,o,rfl⟩:=hg.hs.base (by omega)
  obtain⟨s,hs,hsmem,hr⟩:=hg.get hqn
  obtain⟨z,hz⟩:∃ z,col[q]?=some z:=⟨_,List.getElem?_eq_getElem (by have:=hco.1;omega)⟩
  have hr1:=src_int hcs hqn hz
  obtain⟨hz1,hz2⟩:=hco.2 q z s hz hs
  have hsl:=hg.ok.len s hsmem
  have hsn:=hg.nb s hsmem
  have hzd:col.getD q (-1)=z:=by rw [List.getD_eq_getElem?_getD,hz];rfl
  repeat' (first|refine d1 ?_|refine dd ?_|(show T _ (.ops _ (_::_)::_) _ _ _;refine T_op (OpT.storeA (us:=a.cells) rfl rfl rfl rfl rfl rfl (by rw [flatT_length,ownR_len,show a.cells.length=6 from rfl];omega) ?_))|(show ∀ _:Nat,T _ _ _ _ _;intro _))
  have e1:setL ((ownR l col a q).flatMap Tok.cells) (0+(q:Int).toNat * 6) a.cells=((ownR l col a q).set q a).flatMap Tok.cells:=by rw [show 0+(q:Int).toNat * 6=q * 6 by omega,flatTok_set _ _ _ (by rw [ownR_len];exact hqn)]
  rw [e1]
  refine T_if rfl (fun h1=>?_) (fun h1=>?_)
  ·simp only [decide_eq_true_eq] at h1
   obtain⟨b4,o4,hsA⟩:=(hg.ok.src s hsmem).base (by omega)
   have hsr:RdC w b4 (o4+z.toNat * 6) (tkA s.l z.toNat).cells:=(hsA ▸ hg.ok.src s hsmem:Src w 6 (some ⟨b4,o4,none⟩) s.n (s.l.flatMap Tok.cells)).getT (k:=z.toNat) (by omega) (tkA_get (by omega))
   rw [hsA] at hr
   have e2:=ownR_set (l:=l) (col:=col) (a:=a) (x:=tkA s.l z.toNat) hqn (by rw [hzd,if_pos h1,tsA_eq hs])
   have e3:=thJ_tok (l:=l) (col:=col) hqn (by rw [hzd];exact h1)
   have e4:setL (((ownR l col a q).set q a).flatMap Tok.cells) (0+(q:Int).toNat * 6) (tkA s.l z.toNat).cells=(ownR l col a (q+1)).flatMap Tok.cells:=by rw [show 0+(q:Int).toNat * 6=q * 6 by omega,flatTok_set _ _ _ (by rw [List.length_set,ownR_len];exact hqn),List.set_set,e2]
   have e5:((thJ l col q).map Value.bool).set (0+(q:Int).toNat * 1) (.bool true)=(thJ l col (q+1)).map Value.bool:=by rw [← e3,List.map_set,show 0+(q:Int).toNat * 1=q by omega]
   refine T_cutX 1 [] (fun _:Unit=>[]) (fun _=>[blk b9 a.cells 79,blk b2 ((ownR l col a (q+1)).flatMap Tok.cells) 79,blk b3 ((thJ l col (q+1)).map Value.bool) 4,blk pc c.cells 23]) (fun _=>True) ?_ ?_
   ·refine dw0 1000 [] ?_
    repeat' (first|(show T _ (.draw _ _ _ _ _::_) _ _ _;first|refine dw1 ?_|refine dwv rfl (by decide +kernel) rfl rfl (Val.load rfl (fun hg=>rdOld hr)) rfl rfl rfl ?_|refine dwg rfl (by decide +kernel) rfl rfl (Val.load rfl (fun hg=>rdOld hr)) rfl rfl rfl rfl rfl ?_|refine dwv rfl (by decide +kernel) rfl rfl (Val.load rfl (fun hg=>rdOld hr1)) rfl rfl rfl ?_|refine dwg rfl (by decide +kernel) rfl rfl (Val.load rfl (fun hg=>rdOld hr1)) rfl rfl rfl rfl rfl ?_|refine dwv rfl (by decide +kernel) rfl rfl (Val.loadA (vs:=(tkA s.l z.toNat).cells) rfl (fun _=>rdOld hsr) rfl) rfl rfl rfl ?_|refine dwg rfl (by decide +kernel) rfl rfl (Val.loadA (vs:=(tkA s.l z.toNat).cells) rfl (fun _=>rdOld hsr) rfl) rfl rfl rfl rfl rfl ?_|refine dwb rfl (by decide +kernel) ?_)|(show AllL _ [];exact True.intro)|(show AllL _ (_::_);refine ⟨?_,?_⟩)|(show OpT _ _ _ _ _ _ _;first|refine dwx ?_|refine OpT.ofVal rfl (Val.load rfl (fun hg=>rdOld hr)) rfl rfl rfl ⟨fun _=>(by first|exact Hle.none _|exact Hle.sub|exact absurd ‹_› (by decide +kernel)),?_⟩|refine OpT.ofVal rfl (Val.load rfl (fun hg=>rdOld hr1)) rfl rfl rfl ⟨fun _=>(by first|exact Hle.none _|exact Hle.sub|exact absurd ‹_› (by decide +kernel)),?_⟩|refine OpT.ofVal rfl (Val.loadA (vs:=(tkA s.l z.toNat).cells) rfl (fun _=>rdOld hsr) rfl) rfl rfl rfl ⟨fun _=>(by first|exact Hle.none _|exact Hle.sub|exact absurd ‹_› (by decide +kernel)),?_⟩|refine OpT.storeA (us:=(tkA s.l z.toNat).cells) rfl rfl rfl rfl rfl rfl (by rw [flatT_length,List.length_set,ownR_len,show (tkA s.l z.toNat).cells.length=6 from rfl];omega) ⟨fun _=>Hle.none _,?_⟩|refine OpT.store rfl rfl rfl rfl (by rw [List.length_map,thJ_len];omega) ⟨fun _=>Hle.none _,?_⟩)|(show ∀ _:Nat,T _ _ _ _ _;intro _)|(show T _ (.mark _::_) _ _ _;exact T_meetX () trivial (hG:=by rw [e4,e5];exact Hle.refl _)))
   rintro - -
   repeat' (first|refine d1 ?_|refine dd ?_|(show ∀ _:Nat,T _ _ _ _ _;intro _))
   exact T_backX (q+1) (by omega) (by omega)
  ·simp only [decide_eq_false_iff_not] at h1
   have e2:=ownR_set (l:=l) (col:=col) (a:=a) (x:=a) hqn (by rw [hzd,if_neg h1])
   repeat' (first|refine d1 ?_|refine dd ?_|(show ∀ _:Nat,T _ _ _ _ _;intro _))
   exact T_backX (q+1) (by omega) (by omega) (hG:=by rw [e2,thJ_gap (by rw [hzd];exact h1)];exact Hle.refl _)
 ·simp only [decide_eq_false_iff_not] at h
  obtain rfl:q=l.length:=by omega
  repeat' (first|refine d1 ?_|refine dd ?_|(show T _ (.ops _ (_::_)::_) _ _ _;first|refine T_call rfl rfl rfl rfl rfl (fun w hw=>columnRef_spec c (some ⟨b2,0,none⟩) (some ⟨b3,0,none⟩) l.length l.length l.length l.length (ownR l col a l.length) (thJ l col l.length) w (Src.own hw (by rw [flatT_length,ownR_len])) (ownR_len _ _ _ _) (by omega) (Src.own hw (by rw [List.length_map,thJ_len,Nat.mul_one])) (thJ_len _ _ _) (by omega)) ?_|refine T_callC rfl rfl rfl rfl rfl rfl rfl (fun hg w hw=>columnRef_spec c (some ⟨b2,0,none⟩) (some ⟨b3,0,none⟩) l.length l.length l.length l.length (ownR l col a l.length) (thJ l col l.length) w (Src.own hw (by rw [flatT_length,ownR_len])) (ownR_len _ _ _ _) (by omega) (Src.own hw (by rw [List.length_map,thJ_len,Nat.mul_one])) (thJ_len _ _ _) (by omega)) ?_)|(show T _ (.run _ _ (_::_) _ _::_) _ _ _;first|refine rc rfl rfl rfl rfl rfl rfl rfl (fun w hw=>columnRef_spec c (some ⟨b2,0,none⟩) (some ⟨b3,0,none⟩) l.length l.length l.length l.length (ownR l col a l.length) (thJ l col l.length) w (Src.own hw (by rw [flatT_length,ownR_len])) (ownR_len _ _ _ _) (by omega) (Src.own hw (by rw [List.length_map,thJ_len,Nat.mul_one])) (thJ_len _ _ _) (by omega)) ?_|refine rcG rfl rfl rfl rfl rfl rfl rfl rfl rfl (fun hg w hw=>columnRef_spec c (some ⟨b2,0,none⟩) (some ⟨b3,0,none⟩) l.length l.length l.length l.length (ownR l col a l.length) (thJ l col l.length) w (Src.own hw (by rw [flatT_length,ownR_len])) (ownR_len _ _ _ _) (by omega) (Src.own hw (by rw [List.length_map,thJ_len,Nat.mul_one])) (thJ_len _ _ _) (by omega)) ?_)|(show ∀ _:Nat,T _ _ _ _ _;intro _))
  rw [ownR_colV hg hc hbs hco]
  repeat' (first|refine d1 ?_|refine dd ?_|(show ∀ _:Nat,T _ _ _ _ _;intro _)|(show T _ (.code .ret::_) _ _ _;refine T_retV [] rfl (Hle.none _) ⟨rfl,rfl⟩))
theorem costSumR_spec (c:Costs) (A:Option Addr) (n ca:Nat) (l:List TS) (x:Value) (cols:List (List Int)) (w:World) (hg:Grp w A n l) (hx:Rd (wr w) [x] [rowsD cols]) (hsz:cols.length≤1000) :
  Spec Tryz.prog 135 [c.val, .slice A n ca,x] w (fun v R=>v = .tuple #[.int .i64 (costW c l cols).1, .int .i64 (costW c l cols).2]∧R=[]):=by
 have hx0:=hx
 have hn:=hg.hn
 have hb:=hg.hb
 obtain⟨Ak,ck,csk,rfl,hck1,hck2,hcs,hrows⟩:=hx.tabS
 refine spec_of sg Tryz.func135 rfl rfl rfl ?_
 refine T_op (OpT.box (cs:=c.cells) rfl rfl rfl rfl rfl rfl rfl (fun pc=>?_))
 repeat' (first|refine d1 ?_|refine dd ?_|(show T _ (.ops _ (_::_)::_) _ _ _;first|refine T_call rfl rfl rfl rfl rfl (fun w hw=>usableR_spec c A n ca l w (hg.cls hw)) ?_|refine T_callC rfl rfl rfl rfl rfl rfl rfl (fun hg w hw=>usableR_spec c A n ca l w (hg.cls hw)) ?_)|(show T _ (.run _ _ (_::_) _ _::_) _ _ _;first|refine rc rfl rfl rfl rfl rfl rfl rfl (fun w hw=>usableR_spec c A n ca l w (hg.cls hw)) ?_|refine rcG rfl rfl rfl rfl rfl rfl rfl rfl rfl (fun hg w hw=>usableR_spec c A n ca l w (hg.cls hw)) ?_)|(show ∀ _:Nat,T _ _ _ _ _;intro _))
 refine T_if rfl (fun h=>?_) (fun h=>?_)
 ·simp only [Bool.not_eq_true',decide_eq_false_iff_not] at h
  have e:costW c l cols=(0,usV c l):=if_pos h
  rw [e]
  repeat' (first|refine d1 ?_|refine dd ?_|(show ∀ _:Nat,T _ _ _ _ _;intro _)|(show T _ (.code .ret::_) _ _ _;refine T_retV [] rfl (Hle.none _) ⟨rfl,rfl⟩))
 simp only [Bool.not_eq_false',decide_eq_true_eq] at h
 have h0:l.length≠0:=fun h9=>by unfold usV at h;rw [if_pos h9] at h;omega
 repeat' (first|refine d1 ?_|refine dd ?_|(show T _ (.ops _ (_::_)::_) _ _ _;first|refine T_call rfl rfl rfl rfl rfl (fun w hw=>check19R_spec A n ca l _ cols w (hg.cls hw) (hx0.old hw)) ?_|refine T_callC rfl rfl rfl rfl rfl rfl rfl (fun hg w hw=>check19R_spec A n ca l _ cols w (hg.cls hw) (hx0.old hw)) ?_)|(show T _ (.run _ _ (_::_) _ _::_) _ _ _;first|refine rc rfl rfl rfl rfl rfl rfl rfl (fun w hw=>check19R_spec A n ca l _ cols w (hg.cls hw) (hx0.old hw)) ?_|refine rcG rfl rfl rfl rfl rfl rfl rfl rfl rfl (fun hg w hw=>check19R_spec A n ca l _ cols w (hg.cls hw) (hx0.old hw)) ?_)|(show ∀ _:Nat,T _ _ _ _ _;intro _))
 rw [chkC_okC h0]
 by_cases h1:okC l cols=true
 case neg =>
  have e:costW c l cols=(0,19):=by unfold costW;rw [if_neg (by simpa using h),if_neg h1]
  rw [e,if_neg h1]
  refine T_if rfl (fun _=>?_) (fun h=>by exfalso;simp at h)
  repeat' (first|refine d1 ?_|refine dd ?_|(show ∀ _:Nat,T _ _ _ _ _;intro _)|(show T _ (.code .ret::_) _ _ _;refine T_retV [] rfl (Hle.none _) ⟨rfl,rfl⟩))
 rw [if_pos h1]
 refine T_if rfl (fun h=>by exfalso;simp at h) (fun _=>?_)
 have hok:ColsOk (lens l) cols:=Classical.byContradiction fun h9=>by rw [okC_false h9] at h1;cases h1
 have hck:ck21 c l=0:=by unfold usV at h;rwa [if_neg h0] at h
 obtain⟨hc,hbs⟩:=ck21_ok hck
 have e:costW c l cols=(totZ c l cols,0):=by unfold costW;rw [if_neg (by simpa using h),if_pos h1]
 rw [e]
 repeat' (first|refine d1 ?_|refine dd ?_|(show ∀ _:Nat,T _ _ _ _ _;intro _))
 refine T_loopX (fun i:Nat=>[(11, .int .i64 (i:Nat)),(10, .int .i64 (totZ c l (cols.take i)))]) (fun _=>[blk pc c.cells 23]) (fun i=>i≤cols.length) (fun i=>cols.length - i) 0 (Nat.zero_le _) ?_
 intro i hi
 repeat' (first|refine d1 ?_|refine dd ?_|(show ∀ _:Nat,T _ _ _ _ _;intro _))
 refine T_if rfl (fun h3=>?_) (fun h3=>?_)
 ·simp only [decide_eq_true_eq] at h3
  have hin:i<cols.length:=by omega
  obtain⟨b,o,rfl⟩:=hcs.base (by omega)
  obtain⟨r,hr⟩:∃ r,cols[i]?=some r:=⟨_,List.getElem?_eq_getElem hin⟩
  have hrm:=List.mem_of_getElem? hr
  obtain⟨Au,capu,hu,-,-,hA⟩:=hrows.tabRow hr
  have hco:ColOk l r:=ColsOk.colOk (l:=l) hok hrm
  have hrl:r.length=n:=by rw [hco.1,hn]
  have hr0:=rowHd hcs hin hu
  have hsr:=rowSrc hA
  rw [hrl] at hr0 hsr
  have htk:=take_snoc _ _ _ hr
  have hs:totZ c l (cols.take (i+1))=totZ c l (cols.take i)+colZ c l r:=by rw [htk,totZ_app,totZ_cons];show _=totZ c l (cols.take i)+colZ c l r;unfold totZ;simp
  have b1:=totZ_bd hc (l:=l) (by omega) (cols.take i)
  have b2:=colZ_bd hc (l:=l) (by omega) r
  have b3:((cols.take i).length:Int)≤999:=by rw [List.length_take];omega
  repeat' (first|refine d1 ?_|refine dd ?_|(show T _ (.ops _ (_::_)::_) _ _ _;first|refine T_call rfl rfl rfl rfl rfl (fun w hw=>columnCostR_spec c A Au n ca capu l r w (hg.cls hw) hc hbs (src_below hsr hw.below) hco) ?_|refine T_callC rfl rfl rfl rfl rfl rfl rfl (fun hg w hw=>columnCostR_spec c A Au n ca capu l r w (hg.cls hw) hc hbs (src_below hsr hw.below) hco) ?_)|(show T _ (.run _ _ (_::_) _ _::_) _ _ _;first|refine rc rfl rfl rfl rfl rfl rfl rfl (fun w hw=>columnCostR_spec c A Au n ca capu l r w (hg.cls hw) hc hbs (src_below hsr hw.below) hco) ?_|refine rcG rfl rfl rfl rfl rfl rfl rfl rfl rfl (fun hg w hw=>columnCostR_spec c A Au n ca capu l r w (hg.cls hw) hc hbs (src_below hsr hw.below) hco) ?_)|(show ∀ _:Nat,T _ _ _ _ _;intro _))
  refine T_if rfl (fun h4=>by exfalso;simp at h4;omega) (fun _=>?_)
  repeat' (first|refine d1 ?_|refine dd ?_|(show ∀ _:Nat,T _ _ _ _ _;intro _))
  exact T_backX (i+1) (by omega) (by omega) (hE:=⟨rfl,by rw [hs];rfl,trivial⟩)
 ·simp only [decide_eq_false_iff_not] at h3
  obtain rfl:i=cols.length:=by omega
  rw [List.take_of_length_le (Nat.le_refl _)]
  repeat' (first|refine d1 ?_|refine dd ?_|(show ∀ _:Nat,T _ _ _ _ _;intro _)|(show T _ (.code .ret::_) _ _ _;refine T_retV [] rfl (Hle.none _) ⟨rfl,rfl⟩))
theorem boundR_spec (c:Costs) (A:Option Addr) (n ca:Nat) (l:List TS) (w:World) (hg:Grp w A n l) (hq:∀ t∈l,t.n≤100) :
  Spec Tryz.prog 82 [c.val, .slice A n ca] w (fun v R=>v = .tuple #[.int .i64 (boundW c l).1, .int .i64 (boundW c l).2]∧R=[]):=by
 have hn:=hg.hn
 have hb:=hg.hb
 refine spec_of sg Tryz.func82 rfl rfl rfl ?_
 refine T_op (OpT.box (cs:=c.cells) rfl rfl rfl rfl rfl rfl rfl (fun pc=>?_))
 repeat' (first|refine d1 ?_|refine dd ?_|(show T _ (.ops _ (_::_)::_) _ _ _;first|refine T_call rfl rfl rfl rfl rfl (fun w hw=>usableR_spec c A n ca l w (hg.cls hw)) ?_|refine T_callC rfl rfl rfl rfl rfl rfl rfl (fun hg w hw=>usableR_spec c A n ca l w (hg.cls hw)) ?_)|(show T _ (.run _ _ (_::_) _ _::_) _ _ _;first|refine rc rfl rfl rfl rfl rfl rfl rfl (fun w hw=>usableR_spec c A n ca l w (hg.cls hw)) ?_|refine rcG rfl rfl rfl rfl rfl rfl rfl rfl rfl (fun hg w hw=>usableR_spec c A n ca l w (hg.cls hw)) ?_)|(show ∀ _:Nat,T _ _ _ _ _;intro _))
 refine T_if rfl (fun h=>?_) (fun h=>?_)
 ·simp only [Bool.not_eq_true',decide_eq_false_iff_not] at h
  have e:boundW c l=(0,usV c l):=if_pos h
  rw [e]
  repeat' (first|refine d1 ?_|refine dd ?_|(show ∀ _:Nat,T _ _ _ _ _;intro _)|(show T _ (.code .ret::_) _ _ _;refine T_retV [] rfl (Hle.none _) ⟨rfl,rfl⟩))
 simp only [Bool.not_eq_false',decide_eq_true_eq] at h
 have h0:l.length≠0:=fun h9=>by unfold usV at h;rw [if_pos h9] at h;omega
 have hck:ck21 c l=0:=by unfold usV at h;rwa [if_neg h0] at h
 obtain⟨hc,hbs⟩:=ck21_ok hck
 have e:boundW c l=(ssum (dstT c l) n n,0):=by unfold boundW;rw [if_neg (by simpa using h),hn]
 rw [e]
 have hbd:=dstT_bd2 hc (l:=l) (fun t ht=>by rw [hg.ok.len t ht];exact hq t ht)
 have hsb:∀ i:Nat,i≤n→0≤ssum (dstT c l) n i∧ssum (dstT c l) n i≤204800000:=fun i hi=>by
  have h1:=ssum_bd (M:=200000) (by omega) hbd n i
  have h2:(200000 * (n:Int)) * (i:Int)≤(200000 * 32) * 32:=Int.mul_le_mul (by omega) (by omega) (by omega) (by omega)
  omega
 have hrb:∀ i k:Nat,k≤n→0≤rsum (dstT c l) i k∧rsum (dstT c l) i k≤6400000:=fun i k hk=>by
  have h1:=rsum_bd (M:=200000) (by omega) hbd i k
  omega
 repeat' (first|refine d1 ?_|refine dd ?_|(show ∀ _:Nat,T _ _ _ _ _;intro _))
 refine T_loopX (fun i:Nat=>[(8, .int .i64 (i:Nat)),(7, .int .i64 (ssum (dstT c l) n i))]) (fun _=>[blk pc c.cells 23]) (fun i=>i≤n) (fun i=>n - i) 0 (Nat.zero_le _) ?_
 intro i hi
 repeat' (first|refine d1 ?_|refine dd ?_|(show ∀ _:Nat,T _ _ _ _ _;intro _))
 refine T_if rfl (fun h3=>?_) (fun h3=>?_)
 ·simp only [decide_eq_true_eq] at h3
  have hin:i<n:=by omega
  have hs1:=hsb i hi
  repeat' (first|refine d1 ?_|refine dd ?_|(show ∀ _:Nat,T _ _ _ _ _;intro _))
  refine T_loopX (fun k:Nat=>[(9, .int .i64 (k:Nat)),(7, .int .i64 (ssum (dstT c l) n i+rsum (dstT c l) i k))]) (fun _=>[blk pc c.cells 23]) (fun k=>i+1≤k∧k≤n) (fun k=>n - k) (i+1) ⟨Nat.le_refl _,hin⟩ ?_ (hE:=⟨rfl,by rw [rsum_low _ _ _ (Nat.le_refl _),Int.add_zero];rfl,trivial⟩)
  rintro k ⟨hk1,hk2⟩
  repeat' (first|refine d1 ?_|refine dd ?_|(show ∀ _:Nat,T _ _ _ _ _;intro _))
  refine T_if rfl (fun h4=>?_) (fun h4=>?_)
  ·simp only [decide_eq_true_eq] at h4
   have hkn:k<n:=by omega
   obtain⟨b,o,rfl⟩:=hg.hs.base (by omega)
   obtain⟨s,hs,hsm,hrs⟩:=hg.get hin
   obtain⟨t,ht,htm,hrt⟩:=hg.get hkn
   have hd:=dst_V hc hbs hs ht (show i<k by omega)
   have hbk:=hbd i k
   have hr1:=hrb i k hk2
   have hst:rsum (dstT c l) i (k+1)=rsum (dstT c l) i k+dstT c l i k:=by rw [rsum,if_pos (by omega)]
   repeat' (first|refine d1 ?_|refine dd ?_|(show T _ (.ops _ (_::_)::_) _ _ _;first|refine T_val rfl (Val.load rfl (fun hg=>rdOld hrs)) rfl rfl rfl ?_|refine T_valC rfl (Val.load rfl (fun hg=>rdOld hrs)) rfl rfl rfl rfl rfl ?_|refine T_val rfl (Val.load rfl (fun hg=>rdOld hrt)) rfl rfl rfl ?_|refine T_valC rfl (Val.load rfl (fun hg=>rdOld hrt)) rfl rfl rfl rfl rfl ?_|refine T_call rfl rfl rfl rfl rfl (fun w hw=>distanceRef18_spec c s.A t.A s.n t.n s.cap t.cap s.l t.l w ((hg.cls hw).two hsm htm)) ?_|refine T_callC rfl rfl rfl rfl rfl rfl rfl (fun hg w hw=>distanceRef18_spec c s.A t.A s.n t.n s.cap t.cap s.l t.l w ((hg.cls hw).two hsm htm)) ?_)|(show T _ (.run _ _ (_::_) _ _::_) _ _ _;first|refine rv rfl rfl rfl (Val.load rfl (fun hg=>rdOld hrs)) rfl rfl rfl ?_|refine rg rfl rfl rfl (Val.load rfl (fun hg=>rdOld hrs)) rfl rfl rfl rfl rfl ?_|refine rv rfl rfl rfl (Val.load rfl (fun hg=>rdOld hrt)) rfl rfl rfl ?_|refine rg rfl rfl rfl (Val.load rfl (fun hg=>rdOld hrt)) rfl rfl rfl rfl rfl ?_|refine rc rfl rfl rfl rfl rfl rfl rfl (fun w hw=>distanceRef18_spec c s.A t.A s.n t.n s.cap t.cap s.l t.l w ((hg.cls hw).two hsm htm)) ?_|refine rcG rfl rfl rfl rfl rfl rfl rfl rfl rfl (fun hg w hw=>distanceRef18_spec c s.A t.A s.n t.n s.cap t.cap s.l t.l w ((hg.cls hw).two hsm htm)) ?_)|(show ∀ _:Nat,T _ _ _ _ _;intro _))
   rw [hd]
   refine T_if rfl (fun h5=>by exfalso;simp at h5) (fun _=>?_)
   repeat' (first|refine d1 ?_|refine dd ?_|(show ∀ _:Nat,T _ _ _ _ _;intro _))
   exact T_backX (k+1) ⟨by omega,hkn⟩ (by omega) (hE:=⟨rfl,by rw [hst, ← Int.add_assoc];rfl,trivial⟩)
  ·simp only [decide_eq_false_iff_not] at h4
   obtain rfl:k=n:=by omega
   repeat' (first|refine d1 ?_|refine dd ?_|(show ∀ _:Nat,T _ _ _ _ _;intro _))
   exact T_backX (i+1) hin (by omega)
 ·simp only [decide_eq_false_iff_not] at h3
  obtain rfl:i=n:=by omega
  have hs1:=hsb i (Nat.le_refl _)
  repeat' (first|refine d1 ?_|refine dd ?_|(show ∀ _:Nat,T _ _ _ _ _;intro _))
  refine T_if rfl (fun h4=>by exfalso;simp at h4;omega) (fun _=>?_)
  repeat' (first|refine d1 ?_|refine dd ?_|(show ∀ _:Nat,T _ _ _ _ _;intro _)|(show T _ (.code .ret::_) _ _ _;refine T_retV [] rfl (Hle.none _) ⟨rfl,rfl⟩))
end Go.Proofs.YtmenjpmikhajfaaGreatDoor
namespace Go.Proofs.YtmenjpmikhajfaaGreatDoor
open Go.RowKit Go.Shelf Go.Proofs
set_option maxRecDepth 100000
set_option maxHeartbeats 1000000

noncomputable def remV (l:List TS) (cols:List (List Int)) (z:Int):List (List Int) × Int:=if srcE l≠0 then ([],srcE l) else if alV l cols≠0 then ([],alV l cols) else if z<0∨(l.length:Int)≤z then ([],2) else (wthC cols z.toNat,0)
theorem remove21_spec (A:Option Addr) (n ca:Nat) (l:List TS) (x:Value) (cols:List (List Int)) (z:Int) (w:World) (hg:Grp w A n l) (hx:Rd (wr w) [x] [rowsD cols]) :
  Spec Tryz.prog 19 [.slice A n ca,x, .int .i64 z] w (fun v R=>∃ y:Value,True∧v = .tuple #[y, .int .i64 (remV l cols z).2]∧R=[dat [y] [rowsD (remV l cols z).1]]):=by
 have hn:=hg.hn
 subst hn
 have hb:=hg.hb
 refine spec_of sg Tryz.func19 rfl rfl rfl ?_
 repeat' (first|refine d1 ?_|refine dd ?_|(show T _ (.ops _ (_::_)::_) _ _ _;first|refine T_call rfl rfl rfl rfl rfl (fun w hw=>srcs21_spec A l.length ca l w (hg.cls hw)) ?_|refine T_callC rfl rfl rfl rfl rfl rfl rfl (fun hg w hw=>srcs21_spec A l.length ca l w (hg.cls hw)) ?_)|(show T _ (.run _ _ (_::_) _ _::_) _ _ _;first|refine rc rfl rfl rfl rfl rfl rfl rfl (fun w hw=>srcs21_spec A l.length ca l w (hg.cls hw)) ?_|refine rcG rfl rfl rfl rfl rfl rfl rfl rfl rfl (fun hg w hw=>srcs21_spec A l.length ca l w (hg.cls hw)) ?_)|(show ∀ _:Nat,T _ _ _ _ _;intro _))
 refine T_if rfl (fun h=>by exfalso;simp at h) (fun _=>?_)
 repeat' (first|refine d1 ?_|refine dd ?_|(show T _ (.ops _ (_::_)::_) _ _ _;first|refine T_call rfl rfl rfl rfl rfl (fun w hw=>toks21_spec A l.length ca l w (hg.cls hw)) ?_|refine T_callC rfl rfl rfl rfl rfl rfl rfl (fun hg w hw=>toks21_spec A l.length ca l w (hg.cls hw)) ?_)|(show T _ (.run _ _ (_::_) _ _::_) _ _ _;first|refine rc rfl rfl rfl rfl rfl rfl rfl (fun w hw=>toks21_spec A l.length ca l w (hg.cls hw)) ?_|refine rcG rfl rfl rfl rfl rfl rfl rfl rfl rfl (fun hg w hw=>toks21_spec A l.length ca l w (hg.cls hw)) ?_)|(show ∀ _:Nat,T _ _ _ _ _;intro _))
 refine T_if rfl (fun h=>?_) (fun h=>?_)
 ·have e:remV l cols z=([],srcE l):=if_pos (by simpa using h)
  rw [e]
  repeat' (first|refine d1 ?_|refine dd ?_|(show ∀ _:Nat,T _ _ _ _ _;intro _)|(show T _ (.code .ret::_) _ _ _;refine T_retV _ rfl (nilC _ |>.trans (Hle.nth 0 rfl)) ⟨_,trivial,rfl,rfl⟩))
 have h1:srcE l=0:=by simpa using h
 clear h
 repeat' (first|refine d1 ?_|refine dd ?_|(show T _ (.ops _ (_::_)::_) _ _ _;first|refine T_call rfl rfl rfl rfl rfl (fun w hw=>aligned21_spec A l.length ca l x cols w (hg.cls hw) (hx.old hw)) ?_|refine T_callC rfl rfl rfl rfl rfl rfl rfl (fun hg w hw=>aligned21_spec A l.length ca l x cols w (hg.cls hw) (hx.old hw)) ?_)|(show T _ (.run _ _ (_::_) _ _::_) _ _ _;first|refine rc rfl rfl rfl rfl rfl rfl rfl (fun w hw=>aligned21_spec A l.length ca l x cols w (hg.cls hw) (hx.old hw)) ?_|refine rcG rfl rfl rfl rfl rfl rfl rfl rfl rfl (fun hg w hw=>aligned21_spec A l.length ca l x cols w (hg.cls hw) (hx.old hw)) ?_)|(show ∀ _:Nat,T _ _ _ _ _;intro _))
 refine T_if rfl (fun h=>?_) (fun h=>?_)
 ·have e:remV l cols z=([],alV l cols):=by unfold remV;rw [if_neg (by simpa using h1),if_pos (by simpa using h)]
  rw [e]
  repeat' (first|refine d1 ?_|refine dd ?_|(show ∀ _:Nat,T _ _ _ _ _;intro _)|(show T _ (.code .ret::_) _ _ _;refine T_retV _ rfl (nilC _ |>.trans (Hle.nth 0 rfl)) ⟨_,trivial,rfl,rfl⟩))
 have h2:alV l cols=0:=by simpa using h
 clear h
 have hok:=alV_ok2 h2
 have hsh:=hok.short
 have hsl:=sumL_lens hg.nb
 have hrow:∀ q∈cols,q.length=l.length:=fun q hq9=>by rw [hok.len q hq9,lens_len]
 repeat' (first|refine d1 ?_|refine dd ?_|(show ∀ _:Nat,T _ _ _ _ _;intro _))
 refine T_if rfl (fun h=>?_) (fun h=>?_)
 ·have e:remV l cols z=([],2):=by unfold remV;rw [if_neg (by simpa using h1),if_neg (by simpa using h2),if_pos (by simpa using h)]
  rw [e]
  repeat' (first|refine d1 ?_|refine dd ?_|(show ∀ _:Nat,T _ _ _ _ _;intro _)|(show T _ (.code .ret::_) _ _ _;refine T_retV _ rfl (nilC _ |>.trans (Hle.nth 0 rfl)) ⟨_,trivial,rfl,rfl⟩))
 have hz:0≤z∧z<(l.length:Int):=by
  simp only [Bool.or_eq_false_iff,decide_eq_false_iff_not] at h
  omega
 clear h
 have e:remV l cols z=(wthC cols z.toNat,0):=by unfold remV;rw [if_neg (by simpa using h1),if_neg (by simpa using h2),if_neg (by omega)]
 rw [e]
 obtain⟨i,rfl⟩:∃ i:Nat,z=i:=⟨z.toNat,by omega⟩
 rw [Int.toNat_natCast]
 repeat' (first|refine d1 ?_|refine dd ?_|(show T _ (.ops _ (_::_)::_) _ _ _;refine T_op (OpT.call rfl rfl rfl rfl rfl (fun w hw=>without_spec x cols i w (hx.old hw) (fun q hq9=>by rw [hrow q hq9];omega) (fun q hq9=>by rw [hrow q hq9];omega) (by omega)) ?_))|(show ∀ _:Nat,T _ _ _ _ _;intro _))
 rintro y R ⟨_,-,rfl,rfl⟩
 repeat' (first|refine d1 ?_|refine dd ?_|(show ∀ _:Nat,T _ _ _ _ _;intro _)|(show T _ (.code .ret::_) _ _ _;refine T_retV _ rfl (Hle.nth 0 rfl) ⟨_,trivial,rfl,rfl⟩))
noncomputable def addTV (c:Costs) (l:List TS) (cols:List (List Int)) (t:List Tok):List (List Int) × Int:=if ck21 c l≠0 then ([],ck21 c l) else if alV l cols≠0 then ([],alV l cols) else if l.length=32∨1024<t.length then ([],4) else if badL t=true then ([],1) else (addV c l cols t 0 0,0)
theorem addT21_spec (c:Costs) (A At:Option Addr) (n ca m ct:Nat) (l:List TS) (x:Value) (cols:List (List Int)) (t:List Tok) (w:World) (hg:Grp w A n l) (hq:∀ t∈l,t.n≤100) (hx:Rd (wr w) [x] [rowsD cols]) (hts:Src w 6 At m (t.flatMap Tok.cells)) (htl:t.length=m) (hm:m≤100) (hsm:∀ x∈t,x.small) :
  Spec Tryz.prog 17 [c.val, .slice A n ca,x, .slice At m ct] w (fun v R=>∃ y:Value,True∧v = .tuple #[y, .int .i64 (addTV c l cols t).2]∧R=[dat [y] [rowsD (addTV c l cols t).1]]):=by
 have hn:=hg.hn
 subst hn
 have hb:=hg.hb
 refine spec_of sg Tryz.func17 rfl rfl rfl ?_
 refine T_op (OpT.box (cs:=c.cells) rfl rfl rfl rfl rfl rfl rfl (fun pc=>?_))
 repeat' (first|refine d1 ?_|refine dd ?_|(show T _ (.ops _ (_::_)::_) _ _ _;first|refine T_call rfl rfl rfl rfl rfl (fun w hw=>check21_spec c A l.length ca l w (hg.cls hw)) ?_|refine T_callC rfl rfl rfl rfl rfl rfl rfl (fun hg w hw=>check21_spec c A l.length ca l w (hg.cls hw)) ?_)|(show T _ (.run _ _ (_::_) _ _::_) _ _ _;first|refine rc rfl rfl rfl rfl rfl rfl rfl (fun w hw=>check21_spec c A l.length ca l w (hg.cls hw)) ?_|refine rcG rfl rfl rfl rfl rfl rfl rfl rfl rfl (fun hg w hw=>check21_spec c A l.length ca l w (hg.cls hw)) ?_)|(show ∀ _:Nat,T _ _ _ _ _;intro _))
 refine T_if rfl (fun h=>?_) (fun h=>?_)
 ·have e:addTV c l cols t=([],ck21 c l):=if_pos (by simpa using h)
  rw [e]
  repeat' (first|refine d1 ?_|refine dd ?_|(show ∀ _:Nat,T _ _ _ _ _;intro _)|(show T _ (.code .ret::_) _ _ _;refine T_retV _ rfl (nilC _ |>.trans (Hle.nth 0 rfl)) ⟨_,trivial,rfl,rfl⟩))
 have h1:ck21 c l=0:=by simpa using h
 clear h
 repeat' (first|refine d1 ?_|refine dd ?_|(show T _ (.ops _ (_::_)::_) _ _ _;first|refine T_call rfl rfl rfl rfl rfl (fun w hw=>aligned21_spec A l.length ca l x cols w (hg.cls hw) (hx.old hw)) ?_|refine T_callC rfl rfl rfl rfl rfl rfl rfl (fun hg w hw=>aligned21_spec A l.length ca l x cols w (hg.cls hw) (hx.old hw)) ?_)|(show T _ (.run _ _ (_::_) _ _::_) _ _ _;first|refine rc rfl rfl rfl rfl rfl rfl rfl (fun w hw=>aligned21_spec A l.length ca l x cols w (hg.cls hw) (hx.old hw)) ?_|refine rcG rfl rfl rfl rfl rfl rfl rfl rfl rfl (fun hg w hw=>aligned21_spec A l.length ca l x cols w (hg.cls hw) (hx.old hw)) ?_)|(show ∀ _:Nat,T _ _ _ _ _;intro _))
 refine T_if rfl (fun h=>?_) (fun h=>?_)
 ·have e:addTV c l cols t=([],alV l cols):=by unfold addTV;rw [if_neg (by simpa using h1),if_pos (by simpa using h)]
  rw [e]
  repeat' (first|refine d1 ?_|refine dd ?_|(show ∀ _:Nat,T _ _ _ _ _;intro _)|(show T _ (.code .ret::_) _ _ _;refine T_retV _ rfl (nilC _ |>.trans (Hle.nth 0 rfl)) ⟨_,trivial,rfl,rfl⟩))
 have h2:alV l cols=0:=by simpa using h
 clear h
 have hok:=alV_ok2 h2
 have hsh:=hok.short
 have hsl:=sumL_lens100 hq
 obtain⟨hc,hbs⟩:=ck21_ok h1
 repeat' (first|refine d1 ?_|refine dd ?_|(show ∀ _:Nat,T _ _ _ _ _;intro _))
 refine T_if rfl (fun h=>?_) (fun h=>?_)
 ·have e:addTV c l cols t=([],4):=by
   unfold addTV
   rw [if_neg (by simpa using h1),if_neg (by simpa using h2),if_pos]
   simp only [Bool.or_eq_true,decide_eq_true_eq] at h
   omega
  rw [e]
  repeat' (first|refine d1 ?_|refine dd ?_|(show ∀ _:Nat,T _ _ _ _ _;intro _)|(show T _ (.code .ret::_) _ _ _;refine T_retV _ rfl (nilC _ |>.trans (Hle.nth 0 rfl)) ⟨_,trivial,rfl,rfl⟩))
 have h3:¬ (l.length=32∨1024<t.length):=by
  simp only [Bool.or_eq_false_iff,decide_eq_false_iff_not] at h
  omega
 clear h
 have hg1:∀ {w':World} {H:List HA} {b1:Nat},Cls w w' H→Src w' 1 (some ⟨b1,0,none⟩) 1 (([⟨At,m,ct,t⟩]:List TS).map TS.val)→Grp w' (some ⟨b1,0,none⟩) 1 [⟨At,m,ct,t⟩]:=fun {w' H b1} hw hs =>
  ⟨hg.hst.cls hw,hs,rfl,by omega,⟨List.forall_mem_cons.2 ⟨src_below hts hw.below,fun t h=>by cases h⟩,List.forall_mem_cons.2 ⟨htl,fun t h=>by cases h⟩,List.forall_mem_cons.2 ⟨by show m≤9223372036854775807;omega,fun t h=>by cases h⟩⟩,List.forall_mem_cons.2 ⟨by show m≤1000;omega,fun t h=>by cases h⟩,List.forall_mem_cons.2 ⟨hsm,fun t h=>by cases h⟩⟩
 have hse:srcE ([⟨At,m,ct,t⟩]:List TS)=if badL t=true then 1 else 0:=by
  unfold srcE badS
  simp
 repeat' (first|refine d1 ?_|refine dd ?_|(show T _ (.ops _ (_::_)::_) _ _ _;first|refine T_op (OpT.litW rfl rfl rfl rfl rfl rfl rfl rfl rfl rfl rfl (fun b1=>?_))|refine T_call rfl rfl rfl rfl rfl (fun w hw=>toks21_spec _ 1 1 [⟨At,m,ct,t⟩] w (hg1 hw (Src.own hw rfl))) ?_|refine T_callC rfl rfl rfl rfl rfl rfl rfl (fun hg w hw=>toks21_spec _ 1 1 [⟨At,m,ct,t⟩] w (hg1 hw (Src.own hw rfl))) ?_)|(show T _ (.run _ _ (_::_) _ _::_) _ _ _;first|refine rc rfl rfl rfl rfl rfl rfl rfl (fun w hw=>toks21_spec _ 1 1 [⟨At,m,ct,t⟩] w (hg1 hw (Src.own hw rfl))) ?_|refine rcG rfl rfl rfl rfl rfl rfl rfl rfl rfl (fun hg w hw=>toks21_spec _ 1 1 [⟨At,m,ct,t⟩] w (hg1 hw (Src.own hw rfl))) ?_)|(show ∀ _:Nat,T _ _ _ _ _;intro _))
 rw [hse]
 cases hbt:badL t with
 | true =>
  have e:addTV c l cols t=([],1):=by unfold addTV;rw [if_neg (by simpa using h1),if_neg (by simpa using h2),if_neg h3,if_pos hbt]
  rw [e]
  refine T_if rfl (fun _=>?_) (fun h=>by exfalso;simp at h)
  repeat' (first|refine d1 ?_|refine dd ?_|(show ∀ _:Nat,T _ _ _ _ _;intro _)|(show T _ (.code .ret::_) _ _ _;refine T_retV _ rfl (nilC _ |>.trans (Hle.nth 0 rfl)) ⟨_,trivial,rfl,rfl⟩))
 | false =>
  have e:addTV c l cols t=(addV c l cols t 0 0,0):=by unfold addTV;rw [if_neg (by simpa using h1),if_neg (by simpa using h2),if_neg h3,if_neg (by rw [hbt];decide)]
  rw [e]
  have hprod:((cols.length:Int)+1) * ((m:Int)+1)≤1048576:=by
   have h9:=Nat.mul_le_mul (show cols.length+1≤3201 by omega) (show m+1≤101 by omega)
   have h8:((cols.length:Int)+1) * ((m:Int)+1)=(((cols.length+1) * (m+1):Nat):Int):=by push_cast;rfl
   rw [h8];omega
  refine T_if rfl (fun h=>by exfalso;simp at h) (fun _=>?_)
  repeat' (first|refine d1 ?_|refine dd ?_|(show T _ (.ops _ (_::_)::_) _ _ _;refine T_op (OpT.call rfl rfl rfl rfl rfl (fun w hw=>add21_spec (h:=⟨hg.cls hw,hc,hbs,hx.old hw,fun col hcol=>ColsOk.colOk (l:=l) hok hcol,src_below hts hw.below,htl,by omega,badL_false.1 hbt,hsm,by omega⟩) ca ct hprod) ?_))|(show ∀ _:Nat,T _ _ _ _ _;intro _))
  rintro v R ⟨y,-,rfl,rfl⟩
  repeat' (first|refine d1 ?_|refine dd ?_|(show ∀ _:Nat,T _ _ _ _ _;intro _)|(show T _ (.code .ret::_) _ _ _;refine T_retV _ rfl (Hle.nth 0 rfl) ⟨_,trivial,rfl,rfl⟩))
end Go.Proofs.YtmenjpmikhajfaaGreatDoor
namespace Go.Proofs.YtmenjpmikhajfaaGreatDoor
open Go.RowKit Go.Shelf Go.Proofs
set_option maxRecDepth 100000
set_option maxHeartbeats 4000000

theorem withoutR_spec (A:Option Addr) (n ca:Nat) (l:List TS) (i:Nat) (w:World) (hg:Grp w A n l) (hin:i<n) :
  Spec Tryz.prog 80 [.slice A n ca, .int .i64 (i:Nat)] w (fun v R=>∃ x:Option Addr × Nat,True∧v = .slice x.1 (dropI l i).length x.2∧R=[row 26 1 x.1 x.2 (dropI l i).length ((dropI l i).map TS.val)]):=by
 have hn:=hg.hn
 subst hn
 have hb:=hg.hb
 have hs:=hg.hs
 refine spec_of sg Tryz.func80 rfl rfl rfl ?_
 repeat' (first|refine d1 ?_|refine dd ?_|(show ∀ _:Nat,T _ _ _ _ _;intro _))
 rename_i b6
 refine T_le (H':=[row 26 1 (some ⟨b6,0,none⟩) 0 0 []]) (Hle.weaken (i:=0) rfl (blk_row (sz:=1) (n:=0) rfl (by simp only [maxLen];omega)) rfl) ?_
 refine T_loopX (fun s:Nat × (Option Addr × Nat)=>[(6, .int .i64 (s.1:Nat)),(5, .slice s.2.1 (othS s.1 i).length s.2.2)]) (fun s=>[row 26 1 s.2.1 s.2.2 (othS s.1 i).length (((othS s.1 i).map (tsA l)).map TS.val)]) (fun s=>s.1≤l.length) (fun s=>l.length - s.1) (0,(some ⟨b6,0,none⟩,0)) (Nat.zero_le _) ?_
 rintro⟨k,⟨A6,c6⟩⟩ hk
 dsimp only at hk ⊢
 have hok6:(othS k i).length≤k:=by
  unfold othS
  have h9:=List.length_filter_le (fun q=>decide (q≠i)) (List.range k)
  rwa [List.length_range] at h9
 repeat' (first|refine d1 ?_|refine dd ?_|(show ∀ _:Nat,T _ _ _ _ _;intro _))
 refine T_if rfl (fun h3=>?_) (fun h3=>?_)
 ·simp only [decide_eq_true_eq] at h3
  have hsu:=othS_succ k i
  obtain⟨b,o,rfl⟩:=hs.base (by omega)
  obtain⟨t,ht,htm,hrt⟩:=hg.get (k:=k) (by omega)
  have hts:tsA l k=t:=tsA_eq ht
  repeat' (first|refine d1 ?_|refine dd ?_|(show ∀ _:Nat,T _ _ _ _ _;intro _))
  refine T_if rfl (fun h4=>?_) (fun h4=>?_)
  ·have h5:k≠i:=fun h9=>by rw [h9] at h4;simp at h4
   rw [if_pos h5] at hsu
   repeat' (first|refine d1 ?_|refine dd ?_|(show T _ (.ops _ (_::_)::_) _ _ _;first|refine T_val rfl (Val.load rfl (fun hg=>rdOld hrt)) rfl rfl rfl ?_|refine T_valC rfl (Val.load rfl (fun hg=>rdOld hrt)) rfl rfl rfl rfl rfl ?_|refine T_op (OpT.append (A:=A6) rfl rfl rfl rfl rfl rfl rfl rfl rfl rfl (fun w hw=>Src.own hw rfl) rfl (by dsimp only;omega) (by omega) (fun A' cap' hA'=>?_)))|(show T _ (.run _ _ (_::_) _ _::_) _ _ _;first|refine rv rfl rfl rfl (Val.load rfl (fun hg=>rdOld hrt)) rfl rfl rfl ?_|refine rg rfl rfl rfl (Val.load rfl (fun hg=>rdOld hrt)) rfl rfl rfl rfl rfl ?_)|(show ∀ _:Nat,T _ _ _ _ _;intro _))
   refine T_backX (k+1,(A',cap')) (by dsimp only;omega) (by dsimp only;omega) (hE:=⟨rfl,by dsimp only;rw [hsu,List.length_append];rfl,trivial⟩) (hG:=?_)
   dsimp only
   rw [hsu,List.length_append,List.map_append,List.map_append,show [k].length=1 from rfl,show ([k].map (tsA l)).map TS.val=flatP [(0, .slice t.A t.n t.cap)] by (rw [← hts];rfl)]
   exact Hle.srt
  ·have h5:k=i:=by
    simp only [Bool.not_eq_false',decide_eq_true_eq] at h4
    omega
   rw [if_neg (fun h9=>h9 h5),List.append_nil] at hsu
   repeat' (first|refine d1 ?_|refine dd ?_|(show ∀ _:Nat,T _ _ _ _ _;intro _))
   exact T_backX (k+1,(A6,c6)) (by dsimp only;omega) (by dsimp only;omega) (hE:=⟨rfl,by dsimp only;rw [hsu];rfl,trivial⟩) (hG:=by dsimp only;rw [hsu];exact Hle.refl _)
 ·simp only [decide_eq_false_iff_not] at h3
  obtain rfl:k=l.length:=by omega
  have e1:(othS l.length i).map (tsA l)=dropI l i:=oth_dropI _ hin
  have e2:(othS l.length i).length=(dropI l i).length:=by rw [← e1,List.length_map]
  rw [e1,e2]
  repeat' (first|refine d1 ?_|refine dd ?_|(show ∀ _:Nat,T _ _ _ _ _;intro _)|(show T _ (.code .ret::_) _ _ _;refine T_retV _ rfl (Hle.refl _) ⟨(A6,c6),trivial,rfl,rfl⟩))
theorem costR21_spec (c:Costs) (A:Option Addr) (n ca:Nat) (l:List TS) (x:Value) (cols:List (List Int)) (w:World) (hg:Grp w A n l) (hx:Rd (wr w) [x] [rowsD cols]) (hsz:cols.length≤1000) :
  Spec Tryz.prog 81 [c.val, .slice A n ca,x] w (fun v R=>v = .int .i64 (costW c l cols).1∧R=[]):=by
 refine spec_of sg Tryz.func81 rfl rfl rfl ?_
 refine T_op (OpT.box (cs:=c.cells) rfl rfl rfl rfl rfl rfl rfl (fun pc=>?_))
 repeat' (first|refine d1 ?_|refine dd ?_|(show T _ (.ops _ (_::_)::_) _ _ _;first|refine T_call rfl rfl rfl rfl rfl (fun w hw=>costSumR_spec c A n ca l x cols w (hg.cls hw) (hx.old hw) hsz) ?_|refine T_callC rfl rfl rfl rfl rfl rfl rfl (fun hg w hw=>costSumR_spec c A n ca l x cols w (hg.cls hw) (hx.old hw) hsz) ?_)|(show T _ (.run _ _ (_::_) _ _::_) _ _ _;first|refine rc rfl rfl rfl rfl rfl rfl rfl (fun w hw=>costSumR_spec c A n ca l x cols w (hg.cls hw) (hx.old hw) hsz) ?_|refine rcG rfl rfl rfl rfl rfl rfl rfl rfl rfl (fun hg w hw=>costSumR_spec c A n ca l x cols w (hg.cls hw) (hx.old hw) hsz) ?_)|(show ∀ _:Nat,T _ _ _ _ _;intro _)|(show T _ (.code .ret::_) _ _ _;refine T_retV [] rfl (Hle.none _) ⟨rfl,rfl⟩))
theorem excessR21_spec (c:Costs) (A:Option Addr) (n ca:Nat) (l:List TS) (x:Value) (cols:List (List Int)) (w:World) (hg:Grp w A n l) (hq:∀ t∈l,t.n≤100) (hx:Rd (wr w) [x] [rowsD cols]) (hsz:cols.length≤1000) :
  Spec Tryz.prog 24 [c.val, .slice A n ca,x] w (fun v R=>v = .tuple #[.int .i64 (excV c l cols).1, .int .i64 (excV c l cols).2]∧R=[]):=by
 have hn:=hg.hn
 have hb:=hg.hb
 refine spec_of sg Tryz.func24 rfl rfl rfl ?_
 refine T_op (OpT.box (cs:=c.cells) rfl rfl rfl rfl rfl rfl rfl (fun pc=>?_))
 have hk:ckcV c l cols=if ck21 c l≠0 then ck21 c l else alV l cols:=by
  unfold ckcV alV
  by_cases h:ck21 c l≠0
  ·rw [if_pos h,if_pos h]
   unfold ck21 at h ⊢
   split <;> simp_all
  ·rw [if_neg h,if_neg h]
 repeat' (first|refine d1 ?_|refine dd ?_|(show T _ (.ops _ (_::_)::_) _ _ _;first|refine T_call rfl rfl rfl rfl rfl (fun w hw=>checkCols_spec c A n ca l x cols w (hg.cls hw) (hx.old hw)) ?_|refine T_callC rfl rfl rfl rfl rfl rfl rfl (fun hg w hw=>checkCols_spec c A n ca l x cols w (hg.cls hw) (hx.old hw)) ?_)|(show T _ (.run _ _ (_::_) _ _::_) _ _ _;first|refine rc rfl rfl rfl rfl rfl rfl rfl (fun w hw=>checkCols_spec c A n ca l x cols w (hg.cls hw) (hx.old hw)) ?_|refine rcG rfl rfl rfl rfl rfl rfl rfl rfl rfl (fun hg w hw=>checkCols_spec c A n ca l x cols w (hg.cls hw) (hx.old hw)) ?_)|(show ∀ _:Nat,T _ _ _ _ _;intro _))
 refine T_if rfl (fun h=>?_) (fun h=>?_)
 ·have h1:ckcV c l cols≠0:=by simpa using h
  have e:excV c l cols=(0,ckcV c l cols):=by
   unfold excV
   by_cases h9:ck21 c l≠0
   ·rw [if_pos h9,hk,if_pos h9]
   ·rw [if_neg h9] at hk ⊢
    rw [if_pos (by rw [← hk];exact h1),hk]
  rw [e]
  repeat' (first|refine d1 ?_|refine dd ?_|(show ∀ _:Nat,T _ _ _ _ _;intro _)|(show T _ (.code .ret::_) _ _ _;refine T_retV [] rfl (Hle.none _) ⟨rfl,rfl⟩))
 have h1:ckcV c l cols=0:=by simpa using h
 clear h
 have h2:ck21 c l=0∧alV l cols=0:=by
  rw [h1] at hk
  by_cases h9:ck21 c l≠0
  ·rw [if_pos h9] at hk;exact absurd hk.symm h9
  ·rw [if_neg h9] at hk;exact⟨by omega,hk.symm⟩
 obtain⟨h,h3⟩:=h2
 repeat' (first|refine d1 ?_|refine dd ?_|(show T _ (.ops _ (_::_)::_) _ _ _;first|refine T_call rfl rfl rfl rfl rfl (fun w hw=>boundR_spec c A n ca l w (hg.cls hw) hq) ?_|refine T_callC rfl rfl rfl rfl rfl rfl rfl (fun hg w hw=>boundR_spec c A n ca l w (hg.cls hw) hq) ?_)|(show T _ (.run _ _ (_::_) _ _::_) _ _ _;first|refine rc rfl rfl rfl rfl rfl rfl rfl (fun w hw=>boundR_spec c A n ca l w (hg.cls hw) hq) ?_|refine rcG rfl rfl rfl rfl rfl rfl rfl rfl rfl (fun hg w hw=>boundR_spec c A n ca l w (hg.cls hw) hq) ?_)|(show ∀ _:Nat,T _ _ _ _ _;intro _))
 by_cases h2:usV c l=0
 ·have eb:boundW c l=(ssum (dstT c l) l.length l.length,0):=if_neg (by simpa using h2)
  have e:excV c l cols=(totZ c l cols - ssum (dstT c l) l.length l.length,0):=by unfold excV;rw [if_neg (by simpa using h),if_neg (by simpa using h3),if_neg (by simpa using h2)]
  have h0:l.length≠0:=fun h9=>by unfold usV at h2;rw [if_pos h9] at h2;omega
  obtain⟨hc,hbs⟩:=ck21_ok h
  have hok:=alV_ok h0 h3
  have hbd:=dstT_bd2 hc (l:=l) (fun t ht=>by rw [hg.ok.len t ht];exact hq t ht)
  have s1:=ssum_bd (M:=200000) (by omega) hbd l.length l.length
  have s2:(200000 * (l.length:Int)) * (l.length:Int)≤(200000 * 32) * 32:=Int.mul_le_mul (by omega) (by omega) (by omega) (by omega)
  have s3:=totZ_bd hc (l:=l) (by omega) cols
  have ec:costW c l cols=(totZ c l cols,0):=by unfold costW;rw [if_neg (by simpa using h2),if_pos (okC_true hok)]
  rw [eb,e]
  refine T_if rfl (fun h3=>by exfalso;simp at h3) (fun _=>?_)
  repeat' (first|refine d1 ?_|refine dd ?_|(show T _ (.ops _ (_::_)::_) _ _ _;first|refine T_call rfl rfl rfl rfl rfl (fun w hw=>costR21_spec c A n ca l x cols w (hg.cls hw) (hx.old hw) hsz) ?_|refine T_callC rfl rfl rfl rfl rfl rfl rfl (fun hg w hw=>costR21_spec c A n ca l x cols w (hg.cls hw) (hx.old hw) hsz) ?_)|(show T _ (.run _ _ (_::_) _ _::_) _ _ _;first|refine rc rfl rfl rfl rfl rfl rfl rfl (fun w hw=>costR21_spec c A n ca l x cols w (hg.cls hw) (hx.old hw) hsz) ?_|refine rcG rfl rfl rfl rfl rfl rfl rfl rfl rfl (fun hg w hw=>costR21_spec c A n ca l x cols w (hg.cls hw) (hx.old hw) hsz) ?_)|(show ∀ _:Nat,T _ _ _ _ _;intro _))
  rw [ec]
  repeat' (first|refine d1 ?_|refine dd ?_|(show ∀ _:Nat,T _ _ _ _ _;intro _)|(show T _ (.code .ret::_) _ _ _;refine T_retV [] rfl (Hle.none _) ⟨rfl,rfl⟩))
 ·have eb:boundW c l=(0,usV c l):=if_pos h2
  have e:excV c l cols=(0,usV c l):=by unfold excV;rw [if_neg (by simpa using h),if_neg (by simpa using h3),if_pos h2]
  rw [eb,e]
  refine T_if rfl (fun _=>?_) (fun h3=>by exfalso;simp at h3;omega)
  repeat' (first|refine d1 ?_|refine dd ?_|(show ∀ _:Nat,T _ _ _ _ _;intro _)|(show T _ (.code .ret::_) _ _ _;refine T_retV [] rfl (Hle.none _) ⟨rfl,rfl⟩))
end Go.Proofs.YtmenjpmikhajfaaGreatDoor
namespace Go.Proofs.YtmenjpmikhajfaaGreatDoor
open Go.RowKit Go.Shelf Go.Proofs
set_option maxRecDepth 100000
set_option maxHeartbeats 4000000

theorem removeR_spec (x:Value) (cols:List (List Int)) (i:Nat) (w:World) (hx:Rd (wr w) [x] [rowsD cols]) (hi:∀ q∈cols,i<q.length) (hb:∀ q∈cols,q.length≤1000) (hsz:cols.length≤100000) :
  Spec Tryz.prog 75 [x, .int .i64 (i:Nat)] w (fun v R=>∃ y:Value,True∧v=y∧R=[dat [y] [rowsD (wthC cols i)]]):=by
 obtain⟨Ac,cc,csc,rfl,hc1,hc2,hcs,hrows⟩:=hx.tabS
 refine spec_of sg Tryz.func75 rfl rfl rfl ?_
 repeat' (first|refine d1 ?_|refine dd ?_|(show ∀ _:Nat,T _ _ _ _ _;intro _))
 rename_i b6
 refine T_le (H':=[row 40 1 (some ⟨b6,0,none⟩) 0 0 []]) (Hle.weaken (i:=0) rfl (blk_row (sz:=1) (n:=0) rfl (by simp only [maxLen];omega)) rfl) ?_
 refine T_le (dat_nil _) ?_
 refine T_loopX (fun s:Nat × (Option Addr × Nat) × List Value=>[(6, .int .i64 (s.1:Nat)),(5, .slice s.2.1.1 (wthC (cols.take s.1) i).length s.2.1.2)]) (fun s=>[dat s.2.2 ((wthC (cols.take s.1) i).map intsD),row 40 1 s.2.1.1 s.2.1.2 (wthC (cols.take s.1) i).length s.2.2]) (fun s=>s.1≤cols.length) (fun s=>cols.length - s.1) (0,(some ⟨b6,0,none⟩,0),[]) (Nat.zero_le _) ?_
 rintro⟨q,⟨Ao,capo⟩,hs9⟩ hq
 dsimp only at hq ⊢
 repeat' (first|refine d1 ?_|refine dd ?_|(show ∀ _:Nat,T _ _ _ _ _;intro _))
 refine T_if rfl (fun h4=>?_) (fun h4=>?_)
 ·simp only [decide_eq_true_eq] at h4
  have hqn:q<cols.length:=by omega
  obtain⟨b,o,rfl⟩:=hcs.base (by omega)
  obtain⟨r,hr⟩:∃ r,cols[q]?=some r:=⟨_,List.getElem?_eq_getElem hqn⟩
  have hrm:=List.mem_of_getElem? hr
  obtain⟨Au,capu,hu,-,-,hA⟩:=hrows.tabRow hr
  have hri:=hi r hrm
  have hrb:=hb r hrm
  have hr0:=rowHd hcs hqn hu
  have hsr:=rowSrc hA
  obtain⟨bu,ou,rfl⟩:=hsr.base (by omega)
  have htk:=take_snoc _ _ _ hr
  have hps:wthC (cols.take (q+1)) i=wthC (cols.take q) i++if anyP (dropI r i)=true then [dropI r i] else []:=by
   rw [htk]
   unfold wthC
   rw [List.map_append,List.filter_append]
   congr 1
   show List.filter anyP [dropI r i]=_
   rw [List.filter_cons]
   rfl
  have hpl:(wthC (cols.take q) i).length≤q:=by
   have h9:=wthC_len (cols.take q) i
   rw [List.length_take] at h9
   omega
  repeat' (first|refine d1 ?_|refine dd ?_|(show ∀ _:Nat,T _ _ _ _ _;intro _))
  rename_i b7
  refine T_le (H':=[row 3 1 (some ⟨b7,0,none⟩) 0 0 [],dat hs9 ((wthC (cols.take q) i).map intsD),row 40 1 Ao capo (wthC (cols.take q) i).length hs9]) (Hle.weaken (i:=0) rfl (blk_row (sz:=1) (n:=0) rfl (by simp only [maxLen];omega)) rfl) ?_
  refine T_loopX (fun s:Nat × (Option Addr × Nat)=>[(9, .int .i64 (s.1:Nat)),(7, .slice s.2.1 (othS s.1 i).length s.2.2),(8, .bool (anyP ((othS s.1 i).map fun k=>r.getD k (-1))))]) (fun s=>[row 3 1 s.2.1 s.2.2 (othS s.1 i).length (((othS s.1 i).map fun k=>r.getD k (-1)).map (Value.int .i64)),dat hs9 ((wthC (cols.take q) i).map intsD),row 40 1 Ao capo (wthC (cols.take q) i).length hs9]) (fun s=>s.1≤r.length) (fun s=>r.length - s.1) (0,(some ⟨b7,0,none⟩,0)) (Nat.zero_le _) ?_
  rintro⟨k,⟨A6,c6⟩⟩ hk
  dsimp only at hk ⊢
  have hok6:(othS k i).length≤k:=by
   unfold othS
   have h9:=List.length_filter_le (fun q=>decide (q≠i)) (List.range k)
   rwa [List.length_range] at h9
  repeat' (first|refine d1 ?_|refine dd ?_|(show T _ (.ops _ (_::_)::_) _ _ _;first|refine T_val rfl (Val.load rfl (fun hg=>rdOld hr0)) rfl rfl rfl ?_|refine T_valC rfl (Val.load rfl (fun hg=>rdOld hr0)) rfl rfl rfl rfl rfl ?_)|(show T _ (.run _ _ (_::_) _ _::_) _ _ _;first|refine rv rfl rfl rfl (Val.load rfl (fun hg=>rdOld hr0)) rfl rfl rfl ?_|refine rg rfl rfl rfl (Val.load rfl (fun hg=>rdOld hr0)) rfl rfl rfl rfl rfl ?_)|(show ∀ _:Nat,T _ _ _ _ _;intro _))
  refine T_if rfl (fun h3=>?_) (fun h3=>?_)
  ·simp only [decide_eq_true_eq] at h3
   have hsu:=othS_succ k i
   obtain⟨z,hz⟩:∃ z,r[k]?=some z:=⟨_,List.getElem?_eq_getElem (by omega)⟩
   have hr1:=src_int hsr (by omega) hz
   have hgz:r.getD k (-1)=z:=by rw [List.getD_eq_getElem?_getD,hz];rfl
   repeat' (first|refine d1 ?_|refine dd ?_|(show ∀ _:Nat,T _ _ _ _ _;intro _))
   refine T_if rfl (fun h5=>?_) (fun h5=>?_)
   ·have h6:k≠i:=fun h9=>by rw [h9] at h5;simp at h5
    rw [if_pos h6] at hsu
    have hmp:(othS (k+1) i).map (fun k=>r.getD k (-1))=(othS k i).map (fun k=>r.getD k (-1))++[z]:=by
     rw [hsu,List.map_append, ← hgz];rfl
    repeat' (first|refine d1 ?_|refine dd ?_|(show T _ (.ops _ (_::_)::_) _ _ _;first|refine T_val rfl (Val.load rfl (fun hg=>rdOld hr0)) rfl rfl rfl ?_|refine T_valC rfl (Val.load rfl (fun hg=>rdOld hr0)) rfl rfl rfl rfl rfl ?_|refine T_val rfl (Val.load rfl (fun hg=>rdOld hr1)) rfl rfl rfl ?_|refine T_valC rfl (Val.load rfl (fun hg=>rdOld hr1)) rfl rfl rfl rfl rfl ?_|refine T_op (OpT.append (A:=A6) rfl rfl rfl rfl rfl rfl rfl rfl rfl rfl (fun w hw=>Src.own hw rfl) rfl (by dsimp only;omega) (by omega) (fun A' cap' hA'=>?_)))|(show T _ (.run _ _ (_::_) _ _::_) _ _ _;first|refine rv rfl rfl rfl (Val.load rfl (fun hg=>rdOld hr0)) rfl rfl rfl ?_|refine rg rfl rfl rfl (Val.load rfl (fun hg=>rdOld hr0)) rfl rfl rfl rfl rfl ?_|refine rv rfl rfl rfl (Val.load rfl (fun hg=>rdOld hr1)) rfl rfl rfl ?_|refine rg rfl rfl rfl (Val.load rfl (fun hg=>rdOld hr1)) rfl rfl rfl rfl rfl ?_)|(show ∀ _:Nat,T _ _ _ _ _;intro _))
    refine T_backX (k+1,(A',cap')) (by dsimp only;omega) (by dsimp only;omega) (hE:=⟨rfl,by dsimp only;rw [hsu,List.length_append];rfl,by dsimp only;rw [hmp,anyP_snoc];rfl,trivial⟩) (hG:=?_)
    dsimp only
    rw [hmp,hsu,List.length_append,List.map_append,show [k].length=1 from rfl,show [z].map (Value.int .i64)=flatP [(0, .int .i64 z)] from rfl]
    exact Hle.srt
   ·have h6:k=i:=by
     simp only [Bool.not_eq_false',decide_eq_true_eq] at h5
     omega
    rw [if_neg (fun h9=>h9 h6),List.append_nil] at hsu
    repeat' (first|refine d1 ?_|refine dd ?_|(show ∀ _:Nat,T _ _ _ _ _;intro _))
    exact T_backX (k+1,(A6,c6)) (by dsimp only;omega) (by dsimp only;omega) (hE:=⟨rfl,by dsimp only;rw [hsu];rfl,by dsimp only;rw [hsu];rfl,trivial⟩) (hG:=by dsimp only;rw [hsu];exact Hle.refl _)
  ·simp only [decide_eq_false_iff_not] at h3
   obtain rfl:k=r.length:=by omega
   have e1:(othS r.length i).map (fun k=>r.getD k (-1))=dropI r i:=oth_dropI _ hri
   have e2:(othS r.length i).length=(dropI r i).length:=by rw [← e1,List.length_map]
   rw [e1,e2]
   repeat' (first|refine d1 ?_|refine dd ?_|(show ∀ _:Nat,T _ _ _ _ _;intro _))
   refine T_if rfl (fun h6=>?_) (fun h6=>?_)
   ·rw [if_pos h6] at hps
    repeat' (first|refine d1 ?_|refine dd ?_|(show T _ (.ops _ (_::_)::_) _ _ _;refine T_op (OpT.append (A:=Ao) rfl rfl rfl rfl rfl rfl rfl rfl rfl rfl (fun w hw=>Src.own hw rfl) rfl (by dsimp only;omega) (by omega) (fun A' cap' hA'=>?_)))|(show ∀ _:Nat,T _ _ _ _ _;intro _))
    refine T_backX (q+1,(A',cap'),hs9++[.slice A6 (dropI r i).length c6]) (by dsimp only;omega) (by dsimp only;omega) (hE:=⟨rfl,by dsimp only;rw [hps,List.length_append];rfl,trivial⟩) (hG:=?_)
    dsimp only
    rw [hps,List.length_append,show [dropI r i].length=1 from rfl]
    exact (Hle.srt (K:=[row 3 1 A6 c6 (dropI r i).length ((dropI r i).map (Value.int .i64)),dat hs9 ((wthC (cols.take q) i).map intsD),row 40 1 A' cap' ((wthC (cols.take q) i).length+1) (hs9++flatP [(0, .slice A6 (dropI r i).length c6)])])).trans ((out_hle (cl:=dropI r i) rfl).trans (Hle.perm (List.Perm.swap _ _ _)))
   ·rw [if_neg (by rw [h6];simp),List.append_nil] at hps
    repeat' (first|refine d1 ?_|refine dd ?_|(show ∀ _:Nat,T _ _ _ _ _;intro _))
    exact T_backX (q+1,(Ao,capo),hs9) (by dsimp only;omega) (by dsimp only;omega) (hE:=⟨rfl,by dsimp only;rw [hps];rfl,trivial⟩) (hG:=by dsimp only;rw [hps];exact Hle.tail _ _)
 ·simp only [decide_eq_false_iff_not] at h4
  obtain rfl:q=cols.length:=by omega
  rw [List.take_of_length_le (Nat.le_refl _)]
  repeat' (first|refine d1 ?_|refine dd ?_|(show ∀ _:Nat,T _ _ _ _ _;intro _)|(show T _ (.code .ret::_) _ _ _;refine T_retV _ rfl ((Hle.perm (List.Perm.swap _ _ _)).trans dat_row) ⟨_,trivial,rfl,by rfl⟩))
noncomputable def cost0:Costs:=⟨0,0,0,0⟩
theorem ckcV_0 (l:List TS) (cols:List (List Int)):ckcV cost0 l cols=if srcE l≠0 then srcE l else alV l cols:=by
 have hc:costE cost0=0:=by decide
 have e:ck21 cost0 l=srcE l:=by
  unfold ck21 srcE
  cases h:badS l with
  | true=>rw [if_neg (by simp),if_pos rfl]
  | false=>rw [if_pos ⟨hc,rfl⟩,if_neg (by simp)]
 unfold ckcV alV
 rw [e]
 by_cases h:srcE l≠0
 ·rw [if_pos h,if_pos h]
  unfold srcE at h ⊢
  split <;> simp_all
 ·rw [if_neg h,if_neg h]
theorem removeR21_spec (l:List TS) (A:Option Addr) (n ca:Nat) (x:Value) (cols:List (List Int)) (z:Int) (w:World) (hg:Grp w A n l) (hsz:cols.length≤100000) (hx:Rd (wr w) [x] [rowsD cols]) :
  Spec Tryz.prog 20 [.slice A n ca,x, .int .i64 z] w (fun v R=>∃ y:Value,True∧v = .tuple #[y, .int .i64 (remV l cols z).2]∧R=[dat [y] [rowsD (remV l cols z).1]]):=by
 have hn:=hg.hn
 subst hn
 have hb:=hg.hb
 refine spec_of sg Tryz.func20 rfl rfl rfl ?_
 have h0:=ckcV_0 l cols
 repeat' (first|refine d1 ?_|refine dd ?_|(show T _ (.ops _ (_::_)::_) _ _ _;first|refine T_call rfl rfl rfl rfl rfl (fun w hw=>checkCols_spec cost0 A l.length ca l x cols w (hg.cls hw) (hx.old hw)) ?_|refine T_callC rfl rfl rfl rfl rfl rfl rfl (fun hg w hw=>checkCols_spec cost0 A l.length ca l x cols w (hg.cls hw) (hx.old hw)) ?_)|(show T _ (.run _ _ (_::_) _ _::_) _ _ _;first|refine rc rfl rfl rfl rfl rfl rfl rfl (fun w hw=>checkCols_spec cost0 A l.length ca l x cols w (hg.cls hw) (hx.old hw)) ?_|refine rcG rfl rfl rfl rfl rfl rfl rfl rfl rfl (fun hg w hw=>checkCols_spec cost0 A l.length ca l x cols w (hg.cls hw) (hx.old hw)) ?_)|(show ∀ _:Nat,T _ _ _ _ _;intro _))
 refine T_if rfl (fun h=>?_) (fun h=>?_)
 ·have h1:ckcV cost0 l cols≠0:=by simpa using h
  have e:remV l cols z=([],ckcV cost0 l cols):=by
   unfold remV
   by_cases h9:srcE l≠0
   ·rw [if_pos h9,h0,if_pos h9]
   ·rw [if_neg h9] at h0 ⊢
    rw [if_pos (by rw [← h0];exact h1),h0]
  rw [e]
  repeat' (first|refine d1 ?_|refine dd ?_|(show ∀ _:Nat,T _ _ _ _ _;intro _)|(show T _ (.code .ret::_) _ _ _;refine T_retV _ rfl (dat_blkV (sz:=1) (n:=0) rfl (by omega) |>.trans (Hle.nth 0 rfl)) ⟨_,trivial,rfl,rfl⟩))
 have h1:ckcV cost0 l cols=0:=by simpa using h
 clear h
 have h2:srcE l=0∧alV l cols=0:=by
  rw [h1] at h0
  by_cases h9:srcE l≠0
  ·rw [if_pos h9] at h0;exact absurd h0.symm h9
  ·rw [if_neg h9] at h0;exact⟨by omega,h0.symm⟩
 obtain⟨h2,h3⟩:=h2
 have hok:=alV_ok2 h3
 have hrow:∀ q∈cols,q.length=l.length:=fun q hq9=>by rw [hok.len q hq9,lens_len]
 repeat' (first|refine d1 ?_|refine dd ?_|(show ∀ _:Nat,T _ _ _ _ _;intro _))
 refine T_if rfl (fun h=>?_) (fun h=>?_)
 ·have e:remV l cols z=([],2):=by unfold remV;rw [if_neg (by simpa using h2),if_neg (by simpa using h3),if_pos (by simpa using h)]
  rw [e]
  repeat' (first|refine d1 ?_|refine dd ?_|(show ∀ _:Nat,T _ _ _ _ _;intro _)|(show T _ (.code .ret::_) _ _ _;refine T_retV _ rfl (dat_blkV (sz:=1) (n:=0) rfl (by omega) |>.trans (Hle.nth 0 rfl)) ⟨_,trivial,rfl,rfl⟩))
 have hz:0≤z∧z<(l.length:Int):=by
  simp only [Bool.or_eq_false_iff,decide_eq_false_iff_not] at h
  omega
 clear h
 have e:remV l cols z=(wthC cols z.toNat,0):=by unfold remV;rw [if_neg (by simpa using h2),if_neg (by simpa using h3),if_neg (by omega)]
 rw [e]
 obtain⟨i,rfl⟩:∃ i:Nat,z=i:=⟨z.toNat,by omega⟩
 rw [Int.toNat_natCast]
 repeat' (first|refine d1 ?_|refine dd ?_|(show T _ (.ops _ (_::_)::_) _ _ _;refine T_op (OpT.call rfl rfl rfl rfl rfl (fun w hw=>removeR_spec x cols i w (hx.old hw) (fun q hq9=>by rw [hrow q hq9];omega) (fun q hq9=>by rw [hrow q hq9];omega) hsz) ?_))|(show ∀ _:Nat,T _ _ _ _ _;intro _))
 rintro y R ⟨_,-,rfl,rfl⟩
 repeat' (first|refine d1 ?_|refine dd ?_|(show ∀ _:Nat,T _ _ _ _ _;intro _)|(show T _ (.code .ret::_) _ _ _;refine T_retV _ rfl (Hle.nth 0 rfl) ⟨_,trivial,rfl,rfl⟩))
end Go.Proofs.YtmenjpmikhajfaaGreatDoor
namespace Go.Proofs.YtmenjpmikhajfaaGreatDoor
open Go.RowKit Go.Shelf Go.Proofs
set_option maxRecDepth 100000
set_option maxHeartbeats 2000000

structure TabAt (x0:Value) (c0:List (List Int)) (p:Frag) (y:Value) (cols:List (List Int)):Prop where
 h:Rd (fr p) [y] [rowsD cols]∨(y=x0∧cols=c0)
theorem TabAt.rd {x0:Value} {c0:List (List Int)} {p:Frag} {y:Value} {cols:List (List Int)} {w w':World} {H:List HA} [FocusZ H p] (h:TabAt x0 c0 p y cols) (hx:Rd (wr w) [x0] [rowsD c0]) (hw:Cls w w' H):Rd (wr w') [y] [rowsD cols]:=by
 rcases h.h with h|⟨rfl,rfl⟩
 ·exact h.own hw
 ·exact hx.old hw
theorem TabAt.old {x0:Value} {c0:List (List Int)} {p:Frag}:TabAt x0 c0 p x0 c0:=⟨.inr ⟨rfl,rfl⟩⟩
theorem TabAt.own {x0:Value} {c0:List (List Int)} {p:Frag} {y:Value} {cols:List (List Int)} (h:Rd (fr p) [y] [rowsD cols]):TabAt x0 c0 p y cols:=⟨.inl h⟩
theorem refineR21_spec (c:Costs) (A:Option Addr) (n ca:Nat) (l:List TS) (x:Value) (cols:List (List Int)) (z:Int) (w:World) (hg:Grp w A n l) (hq:∀ t∈l,t.n≤5) (hn4:n≤4) (hx:Rd (wr w) [x] [rowsD cols]) :
  Spec Tryz.prog 22 [c.val, .slice A n ca,x, .int .i64 z] w (fun v R=>∃ y:Value × Frag,TabAt x cols y.2 y.1 (refV c l cols z).1∧v = .tuple #[y.1, .int .i64 (refV c l cols z).2]∧R=[fz y.2]):=by
 have hn:=hg.hn
 subst hn
 have hb:=hg.hb
 refine spec_of sg Tryz.func22 rfl rfl rfl ?_
 refine T_op (OpT.box (cs:=c.cells) rfl rfl rfl rfl rfl rfl rfl (fun pc=>?_))
 have hk:ckcV c l cols=if ck21 c l≠0 then ck21 c l else alV l cols:=by
  unfold ckcV alV
  by_cases h:ck21 c l≠0
  ·rw [if_pos h,if_pos h]
   unfold ck21 at h ⊢
   split <;> simp_all
  ·rw [if_neg h,if_neg h]
 repeat' (first|refine d1 ?_|refine dd ?_|(show T _ (.ops _ (_::_)::_) _ _ _;first|refine T_call rfl rfl rfl rfl rfl (fun w hw=>checkCols_spec c A l.length ca l x cols w (hg.cls hw) (hx.old hw)) ?_|refine T_callC rfl rfl rfl rfl rfl rfl rfl (fun hg w hw=>checkCols_spec c A l.length ca l x cols w (hg.cls hw) (hx.old hw)) ?_)|(show T _ (.run _ _ (_::_) _ _::_) _ _ _;first|refine rc rfl rfl rfl rfl rfl rfl rfl (fun w hw=>checkCols_spec c A l.length ca l x cols w (hg.cls hw) (hx.old hw)) ?_|refine rcG rfl rfl rfl rfl rfl rfl rfl rfl rfl (fun hg w hw=>checkCols_spec c A l.length ca l x cols w (hg.cls hw) (hx.old hw)) ?_)|(show ∀ _:Nat,T _ _ _ _ _;intro _))
 refine T_if rfl (fun h=>?_) (fun h=>?_)
 ·have h1:ckcV c l cols≠0:=by simpa using h
  have e:refV c l cols z=([],ckcV c l cols):=by
   unfold refV
   by_cases h9:ck21 c l≠0
   ·rw [if_pos h9,hk,if_pos h9]
   ·rw [if_neg h9] at hk ⊢
    rw [if_pos (by rw [← hk];exact h1),hk]
  rw [e]
  repeat' (first|refine d1 ?_|refine dd ?_|(show ∀ _:Nat,T _ _ _ _ _;intro _))
  refine T_le (dat_blkV (sz:=1) (n:=0) rfl (by omega)) ?_
  refine T_open fun p hp=>?_
  repeat' (first|refine d1 ?_|refine dd ?_|(show ∀ _:Nat,T _ _ _ _ _;intro _)|(show T _ (.code .ret::_) _ _ _;refine T_retV _ rfl (Hle.nth 0 rfl) ⟨(_,p),TabAt.own hp,rfl,rfl⟩))
 have h1:ckcV c l cols=0:=by simpa using h
 clear h
 have h2:ck21 c l=0∧alV l cols=0:=by
  rw [h1] at hk
  by_cases h9:ck21 c l≠0
  ·rw [if_pos h9] at hk;exact absurd hk.symm h9
  ·rw [if_neg h9] at hk;exact⟨by omega,hk.symm⟩
 obtain⟨hck,hal⟩:=h2
 repeat' (first|refine d1 ?_|refine dd ?_|(show ∀ _:Nat,T _ _ _ _ _;intro _))
 refine T_if rfl (fun h=>?_) (fun h=>?_)
 ·have e:refV c l cols z=([],2):=by
   unfold refV
   simp only [Bool.or_eq_true,decide_eq_true_eq] at h
   rw [if_neg (by simpa using hck),if_neg (by simpa using hal),if_pos (by omega)]
  rw [e]
  repeat' (first|refine d1 ?_|refine dd ?_|(show ∀ _:Nat,T _ _ _ _ _;intro _))
  refine T_le (dat_blkV (sz:=1) (n:=0) rfl (by omega)) ?_
  refine T_open fun p hp=>?_
  repeat' (first|refine d1 ?_|refine dd ?_|(show ∀ _:Nat,T _ _ _ _ _;intro _)|(show T _ (.code .ret::_) _ _ _;refine T_retV _ rfl (Hle.nth 0 rfl) ⟨(_,p),TabAt.own hp,rfl,rfl⟩))
 have hz:0≤z∧z≤8:=by
  simp only [Bool.or_eq_false_iff,decide_eq_false_iff_not] at h
  omega
 clear h
 have e:refV c l cols z=(refN c l cols z.toNat,0):=by unfold refV;rw [if_neg (by simpa using hck),if_neg (by simpa using hal),if_neg (by omega)]
 rw [e]
 obtain⟨hc,hbs⟩:=ck21_ok hck
 have hok:=alV_ok2 hal
 have hln:=hg.ok.len
 repeat' (first|refine d1 ?_|refine dd ?_|(show ∀ _:Nat,T _ _ _ _ _;intro _))
 refine T_le (H':=[fz (fun _=>none),blk pc c.cells 23]) (fz_unit _) ?_
 refine T_loopX (fun s:Nat × Value × Frag=>[(11, .int .i64 (s.1:Nat)),(2,s.2.1)]) (fun s=>[fz s.2.2,blk pc c.cells 23]) (fun s=>s.1≤z.toNat∧TabAt x cols s.2.2 s.2.1 (refN c l cols s.1)) (fun s=>z.toNat - s.1) (0,x,fun _=>none) ⟨Nat.zero_le _,TabAt.old⟩ ?_
 rintro⟨r,y2,p2⟩ ⟨hr,hI2⟩
 dsimp only at hr hI2 ⊢
 repeat' (first|refine d1 ?_|refine dd ?_|(show ∀ _:Nat,T _ _ _ _ _;intro _))
 refine T_if rfl (fun h1=>?_) (fun h1=>?_)
 ·simp only [decide_eq_true_eq] at h1
  have hokr:=(refN_ok c hln hok r).1
  repeat' (first|refine d1 ?_|refine dd ?_|(show ∀ _:Nat,T _ _ _ _ _;intro _))
  refine T_loopX (fun s:Nat × Value × Frag=>[(12, .int .i64 (s.1:Nat)),(2,s.2.1)]) (fun s=>[fz s.2.2,blk pc c.cells 23]) (fun s=>s.1≤l.length∧TabAt x cols s.2.2 s.2.1 (refJ c l (refN c l cols r) s.1)) (fun s=>l.length - s.1) (0,y2,p2) ⟨Nat.zero_le _,hI2⟩ ?_
  rintro⟨i,y3,p3⟩ ⟨hi,hI3⟩
  dsimp only at hi hI3 ⊢
  repeat' (first|refine d1 ?_|refine dd ?_|(show ∀ _:Nat,T _ _ _ _ _;intro _))
  refine T_if rfl (fun h2=>?_) (fun h2=>?_)
  ·simp only [decide_eq_true_eq] at h2
   have hin:i<l.length:=by omega
   obtain⟨b,o,rfl⟩:=hg.hs.base (by omega)
   obtain⟨t,ht,htm,hrt⟩:=hg.get (k:=i) (by omega)
   have hts:tsA l i=t:=tsA_eq ht
   have htq:=hq t htm
   have hoki:=(refJ_ok c hln hokr i hi).1
   have hrj:refJ c l (refN c l cols r) (i+1)=refS c l (refJ c l (refN c l cols r) i) i:=rfl
   generalize refJ c l (refN c l cols r) i=cu at hoki hrj hI3 ⊢
   have hrow:∀ q∈cu,q.length=l.length:=fun q hq9=>by rw [hoki.len q hq9,lens_len]
   have hcul:cu.length≤400:=by
    have h1:=hoki.short
    have h2:=sumL_lens100 (l:=l) (fun t ht=>by have:=hq t ht;omega)
    omega
   have hcul2:=wthC_len cu i
   have htl:=hln t htm
   obtain⟨hmo,hmo2⟩:=moreV_ok c hln hoki hin
   have hdl:(dropI l i).length=l.length - 1:=dropI_len hin
   have hdm:∀ s∈dropI l i,s∈l:=fun s hs=>by
    unfold dropI at hs
    rcases List.mem_append.1 hs with hs|hs
    ·exact List.mem_of_mem_take hs
    ·exact List.mem_of_mem_drop hs
   have hwok:ColsOk (lens (dropI l i)) (wthC cu i):=by
    have h9:=wthC_ok hoki (i:=i) (by rw [lens_len];exact hin)
    unfold lens at h9 ⊢
    rwa [dropI_map]
   have hbs9:badS (dropI l i)=false:=by
    unfold badS at hbs ⊢
    rw [List.any_eq_false] at hbs ⊢
    exact fun x hx=>hbs x (hdm x hx)
   have hbt:¬ badL t.l=true:=by
    unfold badS at hbs
    rw [List.any_eq_false] at hbs
    exact hbs t htm
   have hgd:∀ {w':World} {H:List HA} {A9:Option Addr},Cls w w' H→Src w' 1 A9 (dropI l i).length ((dropI l i).map TS.val)→Grp w' A9 (dropI l i).length (dropI l i):=fun {w' H A9} hw h9=>by
    have hg9:=hg.cls hw
    exact⟨hg9.hst,h9,rfl,by omega,⟨fun x hx=>hg9.ok.src x (hdm x hx),fun x hx=>hg9.ok.len x (hdm x hx),fun x hx=>hg9.ok.bd x (hdm x hx)⟩,fun x hx=>hg9.nb x (hdm x hx),fun x hx=>hg9.sm x (hdm x hx)⟩
   have hprod:(((wthC cu i).length:Int)+1) * ((t.n:Int)+1)≤1048576:=by
    have h9:=Nat.mul_le_mul (show (wthC cu i).length+1≤3201 by omega) (show t.n+1≤101 by omega)
    have h8:(((wthC cu i).length:Int)+1) * ((t.n:Int)+1)=((((wthC cu i).length+1) * (t.n+1):Nat):Int):=by push_cast;rfl
    rw [h8];omega
   have hadd:addRV c (dropI l i) (wthC cu i) t.l=(addV c (dropI l i) (wthC cu i) t.l 0 0,0):=by
    have hk9:ckcV c (dropI l i) (wthC cu i)=0:=by
     have h8:ck21 c (dropI l i)=0:=if_pos ⟨hc,hbs9⟩
     unfold ckcV
     rw [if_neg (by simpa using h8)]
     by_cases h0:(dropI l i).length=0
     ·have h7:=hwok.short
      have h6:dropI l i=[]:=List.eq_nil_of_length_eq_zero h0
      rw [h6] at h7
      have h5:(wthC cu i).length≤0:=h7
      rw [if_pos ⟨h0,by omega⟩]
     ·rw [if_neg (fun h9=>h0 h9.1),if_pos (chkC_ok h0 hwok)]
    unfold addRV
    rw [if_neg (by simpa using hk9),if_neg hbt]
   repeat' (first|refine d1 ?_|(show ∀ _:Nat,T _ _ _ _ _;intro _))
   refine rsH [fz p3,blk pc c.cells 23] 1000 [0,1,2,4,5,7,8,9,10,3,6,11,12,13,14,15,16] ?_
   repeat' (first|refine d1 ?_|refine dd ?_|(show T _ (.ops _ (_::_)::_) _ _ _;first|refine T_val rfl (Val.load rfl (fun hg=>rdOld hrt)) rfl rfl rfl ?_|refine T_valC rfl (Val.load rfl (fun hg=>rdOld hrt)) rfl rfl rfl rfl rfl ?_)|(show T _ (.run _ _ (_::_) _ _::_) _ _ _;first|refine rv rfl rfl rfl (Val.load rfl (fun hg=>rdOld hrt)) rfl rfl rfl ?_|refine rg rfl rfl rfl (Val.load rfl (fun hg=>rdOld hrt)) rfl rfl rfl rfl rfl ?_|refine ro rfl rfl (OpT.callE1 rfl rfl rfl rfl rfl (fun w hw=>withoutR_spec (some ⟨b,o,none⟩) l.length ca l i w (hg.cls hw) hin) (fun x9 _=>⟨fun _=>Hle.tail _ _,?_⟩)))|(show ∀ _:Nat,T _ _ _ _ _;intro _))
   refine ro rfl rfl (OpT.callE1 rfl rfl rfl rfl rfl (fun w hw=>removeR_spec y3 cu i w (hI3.rd hx hw) (fun q hq9=>by rw [hrow q hq9];exact hin) (fun q hq9=>by rw [hrow q hq9];omega) (by omega)) (fun y1 _=>⟨fun _=>(Hle.tail _ _).trans (Hle.tail _ _),?_⟩))
   refine T_open fun q1 hq1=>?_
   refine ro rfl rfl (OpT.callE1 rfl rfl rfl rfl rfl (fun w hw=>addR21_spec c x9.1 (dropI l i).length x9.2 (dropI l i) y1 (wthC cu i) t.A t.n t.cap t.l w (hgd hw (srcRw w hw)) (by omega) (hq1.own hw) (by omega) (src_below (hg.ok.src t htm) hw.below) htl (by omega) (hg.sm t htm) hprod) (fun y9 _=>⟨fun _=>((Hle.tail _ _).trans (Hle.tail _ _)).trans (Hle.tail _ _),?_⟩))
   rw [hadd]
   repeat' (first|refine d1 ?_|refine dd ?_|(show ∀ _:Nat,T _ _ _ _ _;intro _))
   refine T_if rfl (fun h=>by exfalso;simp at h) (fun _=>?_)
   repeat' (first|refine d1 ?_|refine dd ?_|(show ∀ _:Nat,T _ _ _ _ _;intro _))
   rename_i b6
   have hN:∀ q∈addV c (dropI l i) (wthC cu i) t.l 0 0,q.length=l.length:=fun q hq9=>hmo2 q (by rw [hts];exact hq9)
   have hM:(addV c (dropI l i) (wthC cu i) t.l 0 0).map (arrR (ordI l.length i))=moreV c l cu i:=by unfold moreV;rw [hts]
   have hNl:=addV_len c (dropI l i) (wthC cu i) t.l
   dsimp only
   generalize addV c (dropI l i) (wthC cu i) t.l 0 0=N at hN hM hNl ⊢
   refine T_le (H':=[row 40 1 (some ⟨b6,0,none⟩) 0 0 [],dat [y9] [rowsD N],fz q1,row 26 1 x9.1 x9.2 (dropI l i).length ((dropI l i).map TS.val),fz p3,blk pc c.cells 23]) (Hle.weaken (i:=0) rfl (blk_row (sz:=1) (n:=0) rfl (by simp only [maxLen];omega)) rfl) ?_
   refine T_le (H':=[dat [y9] [rowsD N],row 40 1 (some ⟨b6,0,none⟩) 0 0 [],fz p3,blk pc c.cells 23]) Hle.srt ?_
   refine T_open fun q2 hq2=>?_
   obtain⟨Ay,capy,csy,rfl,hy1,hy2,hyl,hyr,hyrows⟩:=hq2.tab
   refine T_le (dat_nil _) ?_
   refine T_le (H':=[dat [] [],row 40 1 (some ⟨b6,0,none⟩) 0 0 [],fz q2,fz p3,blk pc c.cells 23]) (Hle.perm ((List.Perm.swap _ _ _).cons _)) ?_
   refine T_loopX (fun s:Nat × (Option Addr × Nat) × List Value=>[(16, .int .i64 (s.1:Nat)),(15, .slice s.2.1.1 s.1 s.2.1.2)]) (fun s=>[dat s.2.2 (((N.take s.1).map (arrR (ordI l.length i))).map intsD),row 40 1 s.2.1.1 s.2.1.2 s.1 s.2.2,fz q2,fz p3,blk pc c.cells 23]) (fun s=>s.1≤N.length) (fun s=>N.length - s.1) (0,(some ⟨b6,0,none⟩,0),[]) (Nat.zero_le _) ?_
   rintro⟨k,⟨Ao,capo⟩,hs9⟩ hk
   dsimp only at hk ⊢
   repeat' (first|refine d1 ?_|refine dd ?_|(show ∀ _:Nat,T _ _ _ _ _;intro _))
   refine T_if rfl (fun h4=>?_) (fun h4=>?_)
   ·simp only [decide_eq_true_eq] at h4
    have hkn:k<N.length:=by omega
    obtain⟨by9,oy,rfl,hyr9⟩:=hyr (by omega)
    obtain⟨r9,hr9⟩:∃ r,N[k]?=some r:=⟨_,List.getElem?_eq_getElem hkn⟩
    have hrl:=hN r9 (List.mem_of_getElem? hr9)
    obtain⟨Ar,capr,hcs9,hcr1,hcr2,hAr⟩:=hyrows.tabRow hr9
    have hsr:∀ {w':World} {H:List HA} [FocusZ H q2],Cls w w' H→Src w' 1 Ar r9.length (r9.map (Value.int .i64)):=fun {w' H} _ hw=>((rd_one hyrows hcs9 (by rw [List.getElem?_map,hr9];rfl)).own hw).intsAt
    obtain⟨br,or9,rfl,hbr⟩:=hAr (by omega)
    obtain⟨z9,hz9⟩:∃ z,r9[r9.length - 1]?=some z:=⟨_,List.getElem?_eq_getElem (by omega)⟩
    have hnew:arrR (ordI l.length i) r9=r9.take i++([z9]++(r9.take (l.length - 1)).drop i):=by
     rw [arrR_ordI hin hrl, ← hrl,List.getD_eq_getElem?_getD,hz9];rfl
    repeat' (first|refine d1 ?_|refine dd ?_|(show T _ (.ops _ (_::_)::_) _ _ _;first|refine T_val rfl (Val.load rfl (fun hg=>rdFz (p:=q2) (u := .slice (some ⟨br,or9,none⟩) r9.length capr) (b:=by9) (by rw [off1];exact hyr9 k _ hcs9))) rfl rfl rfl ?_|refine T_valC rfl (Val.load rfl (fun hg=>rdFz (p:=q2) (u := .slice (some ⟨br,or9,none⟩) r9.length capr) (b:=by9) (by rw [off1];exact hyr9 k _ hcs9))) rfl rfl rfl rfl rfl ?_|refine T_val rfl (Val.load rfl (fun hg=>rdFz (p:=q2) (u := .int .i64 z9) (b:=br) (by rw [show or9+((r9.length:Int) - 1).toNat * 1=or9+(r9.length - 1) by omega];exact hbr _ _ hz9))) rfl rfl rfl ?_|refine T_valC rfl (Val.load rfl (fun hg=>rdFz (p:=q2) (u := .int .i64 z9) (b:=br) (by rw [show or9+((r9.length:Int) - 1).toNat * 1=or9+(r9.length - 1) by omega];exact hbr _ _ hz9))) rfl rfl rfl rfl rfl ?_)|(show T _ (.run _ _ (_::_) _ _::_) _ _ _;first|refine rv rfl rfl rfl (Val.load rfl (fun hg=>rdFz (p:=q2) (u := .slice (some ⟨br,or9,none⟩) r9.length capr) (b:=by9) (by rw [off1];exact hyr9 k _ hcs9))) rfl rfl rfl ?_|refine rg rfl rfl rfl (Val.load rfl (fun hg=>rdFz (p:=q2) (u := .slice (some ⟨br,or9,none⟩) r9.length capr) (b:=by9) (by rw [off1];exact hyr9 k _ hcs9))) rfl rfl rfl rfl rfl ?_|refine rv rfl rfl rfl (Val.load rfl (fun hg=>rdFz (p:=q2) (u := .int .i64 z9) (b:=br) (by rw [show or9+((r9.length:Int) - 1).toNat * 1=or9+(r9.length - 1) by omega];exact hbr _ _ hz9))) rfl rfl rfl ?_|refine rg rfl rfl rfl (Val.load rfl (fun hg=>rdFz (p:=q2) (u := .int .i64 z9) (b:=br) (by rw [show or9+((r9.length:Int) - 1).toNat * 1=or9+(r9.length - 1) by omega];exact hbr _ _ hz9))) rfl rfl rfl rfl rfl ?_)|(show ∀ _:Nat,T _ _ _ _ _;intro _))
    rename_i b7
    simp only [Int.toNat_natCast]
    refine T_le (H':=[row 3 1 (some ⟨b7,0,none⟩) 0 0 [],dat hs9 (((N.take k).map (arrR (ordI l.length i))).map intsD),row 40 1 Ao capo k hs9,fz q2,fz p3,blk pc c.cells 23]) (Hle.weaken (i:=0) rfl (blk_row (sz:=1) (n:=0) rfl (by simp only [maxLen];omega)) rfl) ?_
    repeat' (first|refine d1 ?_|refine dd ?_|(show T _ (.ops _ (_::_)::_) _ _ _;first|refine T_op (OpT.append (A:=some ⟨b7,0,none⟩) rfl rfl rfl rfl rfl rfl rfl rfl rfl rfl (fun w hw=>by have h9:=src_take1 (hsr hw) i (by omega);rw [← List.map_take] at h9;exact h9) (oneInts (r9.take i)) (by dsimp only;omega) (by omega) (fun A6 cap6 hA6=>?_))|refine T_op (OpT.append (A:=A6) rfl rfl rfl rfl rfl rfl rfl rfl rfl rfl (fun w hw=>Src.own hw rfl) rfl (by dsimp only;omega) (by omega) (fun A7 cap7 hA7=>?_)))|(show ∀ _:Nat,T _ _ _ _ _;intro _))
    rw [show ((r9.length:Int) - 1).toNat=r9.length - 1 by omega]
    simp only [Int.toNat_natCast]
    have hsn:(N.take (k+1)).map (arrR (ordI l.length i))=(N.take k).map (arrR (ordI l.length i))++[arrR (ordI l.length i) r9]:=by rw [take_snoc _ _ _ hr9,List.map_append];rfl
    repeat' (first|refine d1 ?_|refine dd ?_|(show T _ (.ops _ (_::_)::_) _ _ _;first|refine T_op (OpT.append (A:=A7) rfl rfl rfl rfl rfl rfl rfl rfl rfl rfl (fun w hw=>by have h9:=src_drop1 (ca:=capr) (src_take1 (hsr hw) (r9.length - 1) (by omega)) i (by omega) (by omega);rw [← List.map_take, ← List.map_drop] at h9;exact h9) (oneInts ((r9.take (r9.length - 1)).drop i)) (by dsimp only;omega) (by omega) (fun A8 cap8 hA8=>?_))|refine T_op (OpT.append (A:=Ao) rfl rfl rfl rfl rfl rfl rfl rfl rfl rfl (fun w hw=>Src.own hw rfl) rfl (by dsimp only;omega) (by omega) (fun A9 cap9 hA9=>?_)))|(show ∀ _:Nat,T _ _ _ _ _;intro _))
    refine T_backX (k+1,(A9,cap9),hs9++[.slice A8 (0+i+1+(r9.length - 1 - i)) cap8]) (by dsimp only;omega) (by dsimp only;omega) (hE:=⟨rfl,rfl,trivial⟩) (hG:=?_)
    dsimp only
    rw [hsn]
    exact (Hle.srt (K:=[row 3 1 A8 cap8 (0+i+1+(r9.length - 1 - i)) ([]++(r9.take i).map (Value.int .i64)++flatP [(0, .int .i64 z9)]++((r9.take (r9.length - 1)).drop i).map (Value.int .i64)),dat hs9 (((N.take k).map (arrR (ordI l.length i))).map intsD),row 40 1 A9 cap9 (k+1) (hs9++flatP [(0, .slice A8 (0+i+1+(r9.length - 1 - i)) cap8)]),fz q2,fz p3,blk pc c.cells 23])).trans ((out_hle (cl:=arrR (ordI l.length i) r9) (by rw [hnew, ← hrl,List.map_append,List.map_append, ← List.append_assoc];rfl)).trans (Hle.perm (List.Perm.swap _ _ _)))
   ·simp only [decide_eq_false_iff_not] at h4
    obtain rfl:k=N.length:=by omega
    have hml:(moreV c l cu i).length=N.length:=by rw [← hM,List.length_map]
    have hmol:(moreV c l cu i).length≤400:=by
     have h1:=hmo.short
     have h2:=sumL_lens100 (l:=l) (fun t ht=>by have:=hq t ht;omega)
     omega
    have hus:usV c l=0:=by unfold usV;rw [if_neg (by omega),hck]
    have e5:costW c l (moreV c l cu i)=(totZ c l (moreV c l cu i),0):=by unfold costW;rw [if_neg (by simpa using hus),if_pos (okC_true hmo)]
    have e6:costW c l cu=(totZ c l cu,0):=by unfold costW;rw [if_neg (by simpa using hus),if_pos (okC_true hoki)]
    rw [List.take_of_length_le (Nat.le_refl _),hM, ← hml]
    repeat' (first|refine d1 ?_|(show ∀ _:Nat,T _ _ _ _ _;intro _))
    refine T_le (H':=[dat [.slice Ao (moreV c l cu i).length capo] [rowsD (moreV c l cu i)],fz p3,blk pc c.cells 23]) ((Hle.perm (List.Perm.swap _ _ _)).trans (dat_row.trans (Hle.drop2 _ _ _))) ?_
    refine T_open fun q5 hq5=>?_
    refine rsH [fz q5,fz p3,blk pc c.cells 23] 1000 [0,1,2,4,5,6,3,7,8] ?_
    repeat' (first|refine d1 ?_|refine dd ?_|(show T _ (.ops _ (_::_)::_) _ _ _;first|refine T_call rfl rfl rfl rfl rfl (fun w hw=>costR21_spec c (some ⟨b,o,none⟩) l.length ca l (.slice Ao (moreV c l cu i).length capo) (moreV c l cu i) w (hg.cls ‹_›) (hq5.own ‹_›) (by omega)) ?_|refine T_callC rfl rfl rfl rfl rfl rfl rfl (fun hg w hw=>costR21_spec c (some ⟨b,o,none⟩) l.length ca l (.slice Ao (moreV c l cu i).length capo) (moreV c l cu i) w (hg.cls ‹_›) (hq5.own ‹_›) (by omega)) ?_|refine T_call rfl rfl rfl rfl rfl (fun w hw=>costR21_spec c (some ⟨b,o,none⟩) l.length ca l y3 cu w (hg.cls ‹_›) (hI3.rd hx ‹_›) (by omega)) ?_|refine T_callC rfl rfl rfl rfl rfl rfl rfl (fun hg w hw=>costR21_spec c (some ⟨b,o,none⟩) l.length ca l y3 cu w (hg.cls ‹_›) (hI3.rd hx ‹_›) (by omega)) ?_)|(show T _ (.run _ _ (_::_) _ _::_) _ _ _;first|refine rc rfl rfl rfl rfl rfl rfl rfl (fun w hw=>costR21_spec c (some ⟨b,o,none⟩) l.length ca l (.slice Ao (moreV c l cu i).length capo) (moreV c l cu i) w (hg.cls ‹_›) (hq5.own ‹_›) (by omega)) ?_|refine rcG rfl rfl rfl rfl rfl rfl rfl rfl rfl (fun hg w hw=>costR21_spec c (some ⟨b,o,none⟩) l.length ca l (.slice Ao (moreV c l cu i).length capo) (moreV c l cu i) w (hg.cls ‹_›) (hq5.own ‹_›) (by omega)) ?_|refine rc rfl rfl rfl rfl rfl rfl rfl (fun w hw=>costR21_spec c (some ⟨b,o,none⟩) l.length ca l y3 cu w (hg.cls ‹_›) (hI3.rd hx ‹_›) (by omega)) ?_|refine rcG rfl rfl rfl rfl rfl rfl rfl rfl rfl (fun hg w hw=>costR21_spec c (some ⟨b,o,none⟩) l.length ca l y3 cu w (hg.cls ‹_›) (hI3.rd hx ‹_›) (by omega)) ?_)|(show ∀ _:Nat,T _ _ _ _ _;intro _))
    rw [e5,e6]
    refine T_if rfl (fun h6=>?_) (fun h6=>?_)
    ·have h7:refS c l cu i=moreV c l cu i:=by unfold refS;rw [if_pos (by simpa using h6)]
     repeat' (first|refine d1 ?_|refine dd ?_|(show ∀ _:Nat,T _ _ _ _ _;intro _))
     exact T_backX (i+1, .slice Ao (moreV c l cu i).length capo,q5) ⟨by dsimp only;omega,by dsimp only;rw [hrj,h7];exact TabAt.own hq5⟩ (by dsimp only;omega) (hE:=⟨rfl,rfl,trivial⟩) (hG:=Hle.drop2 _ _ _)
    ·have h7:refS c l cu i=cu:=by unfold refS;rw [if_neg (by simpa using h6)]
     repeat' (first|refine d1 ?_|refine dd ?_|(show ∀ _:Nat,T _ _ _ _ _;intro _))
     exact T_backX (i+1,y3,p3) ⟨by dsimp only;omega,by dsimp only;rw [hrj,h7];exact hI3⟩ (by dsimp only;omega) (hE:=⟨rfl,rfl,trivial⟩) (hG:=Hle.tail _ _)
  ·simp only [decide_eq_false_iff_not] at h2
   obtain rfl:i=l.length:=by omega
   repeat' (first|refine d1 ?_|refine dd ?_|(show ∀ _:Nat,T _ _ _ _ _;intro _))
   exact T_backX (r+1,y3,p3) ⟨by dsimp only;omega,hI3⟩ (by dsimp only;omega)
 ·simp only [decide_eq_false_iff_not] at h1
  obtain rfl:r=z.toNat:=by omega
  repeat' (first|refine d1 ?_|refine dd ?_|(show ∀ _:Nat,T _ _ _ _ _;intro _)|(show T _ (.code .ret::_) _ _ _;refine T_retV _ rfl (Hle.nth 0 rfl) ⟨(_,p2),hI2,rfl,rfl⟩))
end Go.Proofs.YtmenjpmikhajfaaGreatDoor
