/- Joined texts of this claim, part 3. -/
import Derived.Test.YtbfcfpmholkmeaaGreatDoorN2
import Derived.Shelf.SlSortCmp.Whole1
set_option linter.unusedSectionVars false
set_option linter.unusedVariables false
set_option linter.unusedSimpArgs false
namespace Go.Proofs.YtbfcfpmholkmeaaGreatDoor
open Go.RowKit Go.Shelf Go.Proofs
set_option maxRecDepth 100000
set_option maxHeartbeats 1000000

def lens (l:List TS):List Nat:=l.map fun t=>t.n
theorem lens_get {l:List TS} {s:Nat} {t:TS} (h:l[s]?=some t):(lens l)[s]?=some t.n:=by unfold lens;rw [List.getElem?_map,h];rfl
theorem lens_len (l:List TS):(lens l).length=l.length:=by simp [lens]
def atC (cols:List (List Int)) (i k s:Nat):Nat:=(srcC (cols.take (if s<k then i+1 else i)) s).length
def PreOk (ls:List Nat) (cols:List (List Int)) (i k:Nat):Prop:=∀ s n,ls[s]?=some n→srcC (cols.take (if s<k then i+1 else i)) s=upto (atC cols i k s)∧atC cols i k s≤n
theorem PreOk.start (ls:List Nat) (cols:List (List Int)):PreOk ls cols 0 0:=fun s n _=>by
 unfold atC
 rw [if_neg (by omega)]
 exact⟨rfl,Nat.zero_le _⟩
theorem atC_row {cols:List (List Int)} {i n s:Nat} (h:s<n):atC cols i n s=atC cols (i+1) 0 s:=by unfold atC;rw [if_pos h,if_neg (by omega)]
theorem PreOk.row {ls:List Nat} {cols:List (List Int)} {i:Nat} (h:PreOk ls cols i ls.length):PreOk ls cols (i+1) 0:=fun s n hs=>by
 have hl:=(List.getElem?_eq_some_iff.1 hs).1
 have:=h s n hs
 rw [atC_row hl,if_pos hl] at this
 rw [if_neg (by omega)]
 exact this
theorem srcC_take {cols:List (List Int)} {i:Nat} {r:List Int} (h:cols[i]?=some r) (s:Nat):srcC (cols.take (i+1)) s=srcC (cols.take i) s++(if r.getD s (-1) = -1 then [] else [r.getD s (-1)]):=by
 rw [take_snoc _ _ _ h,srcC_app,srcC_cons]
 simp [srcC]
theorem atC_other {cols:List (List Int)} {i k s:Nat} (h:s≠k):atC cols i (k+1) s=atC cols i k s:=by
 unfold atC
 by_cases h1:s<k
 ·rw [if_pos h1,if_pos (by omega)]
 ·rw [if_neg h1,if_neg (by omega)]
theorem atC_gap {cols:List (List Int)} {i k:Nat} {r:List Int} (hr:cols[i]?=some r) (hz:r[k]?=some (-1)):atC cols i (k+1) k=atC cols i k k:=by
 unfold atC
 rw [if_pos (by omega),if_neg (by omega),srcC_take hr,List.getD_eq_getElem?_getD,hz]
 simp
theorem atC_tok {cols:List (List Int)} {i k:Nat} {r:List Int} {z:Int} (hr:cols[i]?=some r) (hz:r[k]?=some z) (h:z ≠ -1):atC cols i (k+1) k=atC cols i k k+1:=by
 unfold atC
 rw [if_pos (by omega),if_neg (by omega),srcC_take hr,List.getD_eq_getElem?_getD,hz]
 simp [h]
theorem PreOk.gap {ls:List Nat} {cols:List (List Int)} {i k:Nat} {r:List Int} (h:PreOk ls cols i k) (hr:cols[i]?=some r) (hz:r[k]?=some (-1)):PreOk ls cols i (k+1):=fun s n hs=>by
 have:=h s n hs
 by_cases e:s=k
 ·subst e
  rw [atC_gap hr hz]
  rw [if_neg (by omega)] at this
  rw [if_pos (by omega),srcC_take hr,List.getD_eq_getElem?_getD,hz]
  simpa using this
 ·rw [atC_other e]
  by_cases h1:s<k
  ·rw [if_pos h1] at this;rw [if_pos (by omega)];exact this
  ·rw [if_neg h1] at this;rw [if_neg (by omega)];exact this
theorem PreOk.tok {ls:List Nat} {cols:List (List Int)} {i k:Nat} {r:List Int} {z:Int} (h:PreOk ls cols i k) (hr:cols[i]?=some r) (hz:r[k]?=some z) (hz0:z ≠ -1) (he:z=(atC cols i k k:Nat)) (hlt:∀ n,ls[k]?=some n→atC cols i k k<n):PreOk ls cols i (k+1):=fun s n hs=>by
 have:=h s n hs
 by_cases e:s=k
 ·subst e
  have hl:=hlt n hs
  rw [atC_tok hr hz hz0]
  rw [if_neg (by omega)] at this
  rw [if_pos (by omega),srcC_take hr,List.getD_eq_getElem?_getD,hz,this.1]
  refine ⟨?_,hl⟩
  simp only [Option.getD_some]
  rw [if_neg hz0,upto_succ,he]
 ·rw [atC_other e]
  by_cases h1:s<k
  ·rw [if_pos h1] at this;rw [if_pos (by omega)];exact this
  ·rw [if_neg h1] at this;rw [if_neg (by omega)];exact this
theorem PreOk.bad {ls:List Nat} {cols:List (List Int)} {i k n:Nat} {r:List Int} {z:Int} (h:PreOk ls cols i k) (hr:cols[i]?=some r) (hz:r[k]?=some z) (hz0:z ≠ -1) (hk:ls[k]?=some n) (hc:ColsOk ls cols):z=(atC cols i k k:Nat)∧atC cols i k k<n:=by
 have h1:=(h k n hk).1
 rw [if_neg (by omega)] at h1
 have h2:=hc.src k n hk
 have h3:srcC cols k=srcC (cols.take i) k++([z]++srcC (cols.drop (i+1)) k):=by
  have e:cols=cols.take (i+1)++cols.drop (i+1):=(List.take_append_drop _ _).symm
  rw [← List.append_assoc]
  conv=>lhs;rw [e,srcC_app,srcC_take hr,List.getD_eq_getElem?_getD,hz]
  simp [hz0]
 rw [h2,h1] at h3
 have h4:(upto n)[atC cols i k k]?=some z:=by
  rw [h3,List.getElem?_append_right (by rw [upto_len];exact Nat.le_refl _),upto_len,Nat.sub_self]
  rfl
 have h5:atC cols i k k<n:=by
  have:=(List.getElem?_eq_some_iff.1 h4).1
  rwa [upto_len] at this
 rw [upto_get h5] at h4
 exact⟨(Option.some.inj h4).symm,h5⟩
theorem PreOk.all {ls:List Nat} {cols:List (List Int)} (h:PreOk ls cols cols.length 0) (hlen:∀ x∈cols,x.length=ls.length) (hsome:∀ x∈cols,∃ z∈x,z ≠ -1) (hn:∀ s n,ls[s]?=some n→atC cols cols.length 0 s=n):ColsOk ls cols:=by
 refine ⟨hlen,hsome,fun s n hs=>?_⟩
 have:=(h s n hs).1
 rw [if_neg (by omega),List.take_of_length_le (Nat.le_refl _),hn s n hs] at this
 exact this
end Go.Proofs.YtbfcfpmholkmeaaGreatDoor
namespace Go.Proofs.YtbfcfpmholkmeaaGreatDoor
open Go.RowKit Go.Shelf Go.Proofs
set_option maxRecDepth 100000
set_option maxHeartbeats 4000000

theorem out_hle {A2 X:Option Addr} {c2 nn Y o:Nat} {cs HS hs:List Value} {cl:List Int} {out:List (List Int)} {J:List HA} (hcs:cs=cl.map (Value.int .i64)) :
  Hle (row 3 1 A2 c2 nn cs::dat hs (out.map intsD)::row 67 1 X Y o HS::J) (row 67 1 X Y o HS::dat (hs++[.slice A2 nn c2]) ((out++[cl]).map intsD)::J):=by
 subst hcs
 refine dat_rowV.trans (dat_join.trans ?_)
 have ej:out.map intsD++[D.s 1 ((cl.map (Value.int .i64)).map .v)]=(out++[cl]).map intsD:=by
  rw [List.map_append,List.map_map];rfl
 rw [ej]
 exact Hle.perm (List.Perm.swap _ _ _)
end Go.Proofs.YtbfcfpmholkmeaaGreatDoor
namespace Go.Proofs.YtbfcfpmholkmeaaGreatDoor
open Go.RowKit Go.Shelf Go.Proofs

def takS (l:List TS) (ord:List Nat) (j:Nat):List TS:=(ord.take j).map (tsA l)
def stgV (c:Costs) (l:List TS) (ord:List Nat):Nat→List (List Int)
 | 0=>[]
 | j+1=>addV c (takS l ord j) (stgV c l ord j) (tsA l (ord.getD j 0)).l 0 0
theorem takS_len {l:List TS} {ord:List Nat} {j:Nat} (h:j≤ord.length):(takS l ord j).length=j:=by
 unfold takS;rw [List.length_map,List.length_take];omega
theorem tsA_mem {l:List TS} {i:Nat} (h:i<l.length):tsA l i∈l:=by
 have e:l[i]?=some l[i]:=List.getElem?_eq_getElem h
 rw [tsA_eq e];exact List.getElem_mem h
theorem takS_mem {l:List TS} {ord:List Nat} (hlt:∀ k∈ord,k<l.length) {j:Nat}:∀ t∈takS l ord j,t∈l:=fun t ht=>by
 unfold takS at ht
 obtain⟨k,hk,rfl⟩:=List.mem_map.1 ht
 exact tsA_mem (hlt k (List.mem_of_mem_take hk))
theorem Grp.tak {w:World} {A A':Option Addr} {n:Nat} {l:List TS} {ord:List Nat} (hg:Grp w A n l) (hlt:∀ k∈ord,k<l.length) {j:Nat} (hj:j≤ord.length) (hjb:j≤32) (hs:Src w 1 A' j ((takS l ord j).map TS.val)):Grp w A' j (takS l ord j) :=
 ⟨hg.hst,hs,takS_len hj,hjb,⟨fun t ht=>hg.ok.src t (takS_mem hlt t ht),fun t ht=>hg.ok.len t (takS_mem hlt t ht),fun t ht=>hg.ok.bd t (takS_mem hlt t ht)⟩,fun t ht=>hg.nb t (takS_mem hlt t ht),fun t ht=>hg.sm t (takS_mem hlt t ht)⟩
def alnP (c:Costs) (l:List TS):List (List Int):=(stgV c l (orderV (dstT c l) l.length) l.length).map (arrR (orderV (dstT c l) l.length))
def alnA (c:Costs) (l:List TS):List (List Int) × Int:=if ck21 c l=0 then (alnP c l,0) else ([],1)
end Go.Proofs.YtbfcfpmholkmeaaGreatDoor
namespace Go.Proofs.YtbfcfpmholkmeaaGreatDoor
open Go.RowKit Go.Shelf Go.Proofs

theorem pigeon2:∀ (n:Nat) (l:List Nat),l.Nodup→(∀ x∈l,x<n)→l.length≤n
 | 0,l,_,h=>by
  cases l with
  | nil=>simp
  | cons x l=>exact absurd (h x (List.mem_cons_self ..)) (by omega)
 | n+1,l,hd,h=>by
  have h1:=pigeon2 n (l.erase n) (hd.erase n) (fun x hx=>by
   have h2:=(hd.mem_erase_iff).1 hx
   have:=h x h2.2
   have:=h2.1
   omega)
  have h2:l.length≤(l.erase n).length+1:=by
   by_cases hm:n∈l
   ·rw [List.length_erase_of_mem hm];omega
   ·rw [List.erase_of_not_mem hm];omega
  omega
end Go.Proofs.YtbfcfpmholkmeaaGreatDoor
namespace Go.Proofs.YtbfcfpmholkmeaaGreatDoor

def sumI (g:Nat→Int):List Nat→Int
 | []=>0
 | x::l=>g x+sumI g l
theorem sumI_congr {g h:Nat→Int}:∀ {l:List Nat},(∀ x∈l,g x=h x)→sumI g l=sumI h l
 | [],_=>rfl
 | y::l,e=>by unfold sumI;rw [e y (List.mem_cons_self ..),sumI_congr (l:=l) fun x hx=>e x (List.mem_cons_of_mem _ hx)]
def pS (g:Nat→Nat→Int):List Nat→Int
 | []=>0
 | a::l=>sumI (fun y=>g y a) l+pS g l
theorem psum_append (f:Nat→Nat→Int) (ps:List (Nat × Nat)):∀ qs:List (Nat × Nat),psum f (ps++qs)=psum f ps+psum f qs:=by
 intro qs
 unfold psum
 rw [List.foldl_append]
 generalize List.foldl (fun s p=>s+f p.1 p.2) 0 ps=z
 have key:∀ (qs:List (Nat × Nat)) (z:Int),qs.foldl (fun s p=>s+f p.1 p.2) z=z+qs.foldl (fun s p=>s+f p.1 p.2) 0:=by
  intro qs
  induction qs with
  | nil=>intro z;simp
  | cons q qs ih=>intro z;simp only [List.foldl_cons];rw [ih,ih (0+f q.1 q.2)];omega
 exact key qs z
theorem psum_rowP (f:Nat→Nat→Int) (k:Nat):∀ i,psum f (rowP i k)=sumI (fun q=>f q k) (List.range i).reverse
 | 0=>rfl
 | i+1=>by
  rw [rowP_succ,psum_snoc,psum_rowP f k i,List.range_succ,List.reverse_append,List.reverse_singleton,List.singleton_append]
  simp only [sumI]
  omega
theorem psum_pS (f:Nat→Nat→Int):∀ n,psum f (pairsL n)=pS f (List.range n).reverse
 | 0=>rfl
 | n+1=>by
  rw [pairsL_succ,psum_append,psum_pS f n,psum_rowP,List.range_succ,List.reverse_append,List.reverse_singleton,List.singleton_append]
  simp only [pS]
  omega
theorem pS_congr {g h:Nat→Nat→Int}:∀ {l:List Nat},(∀ x∈l,∀ y∈l,g x y=h x y)→pS g l=pS h l
 | [],_=>rfl
 | a::l,e=>by
  unfold pS
  rw [pS_congr (l:=l) fun x hx y hy=>e x (List.mem_cons_of_mem _ hx) y (List.mem_cons_of_mem _ hy),sumI_congr (h:=fun y=>h y a) fun x hx=>e x (List.mem_cons_of_mem _ hx) a (List.mem_cons_self ..)]
theorem psum_congr {f g:Nat→Nat→Int} {n:Nat} (h:∀ i k,i<n→k<n→f i k=g i k):psum f (pairsL n)=psum g (pairsL n):=by
 rw [psum_pS,psum_pS]
 refine pS_congr fun i hi k hk=>?_
 rw [List.mem_reverse,List.mem_range] at hi hk
 exact h i k hi hk
theorem flat_set {α:Type} (cells:α→List Value) (sz:Nat) (hsz:∀ t,(cells t).length=sz):∀ (l:List α) (i:Nat) (t:α),i<l.length→setL (l.flatMap cells) (i * sz) (cells t)=(l.set i t).flatMap cells
 | [],i,t,h=>by simp at h
 | x::l,0,t,h=>by
  rw [List.set_cons_zero,List.flatMap_cons,List.flatMap_cons,Nat.zero_mul]
  have key:∀ (us xs ys zs:List Value),us.length=xs.length→setL (zs++xs++ys) zs.length us=zs++us++ys:=by
   intro us
   induction us with
   | nil =>
    intro xs ys zs h
    have e:xs=[]:=List.eq_nil_of_length_eq_zero (by simpa using h.symm)
    subst e;simp [setL]
   | cons u us ih =>
    intro xs ys zs h
    obtain⟨x,xs,rfl⟩:∃ y ys,xs=y::ys:=by cases xs with|nil=>simp at h|cons y ys=>exact⟨y,ys,rfl⟩
    simp only [setL]
    have e:(zs++x::xs++ys).set zs.length u=(zs++[u])++xs++ys:=by
     rw [List.append_assoc,List.set_append_right _ _ (Nat.le_refl _),Nat.sub_self];simp
    rw [e,show zs.length+1=(zs++[u]).length by simp,ih xs ys (zs++[u]) (by simpa using h)]
    simp
  have:=key (cells t) (cells x) (l.flatMap cells) [] (by rw [hsz,hsz])
  simpa using this
 | x::l,i+1,t,h=>by
  rw [List.set_cons_succ,List.flatMap_cons,List.flatMap_cons, ← flat_set cells sz hsz l i t (by simpa using h)]
  have key:∀ (us xs ys:List Value) (k:Nat),setL (xs++ys) (xs.length+k) us=xs++setL ys k us:=by
   intro us
   induction us with
   | nil=>intro xs ys k;rfl
   | cons u us ih =>
    intro xs ys k
    simp only [setL]
    rw [List.set_append_right _ _ (by omega),Nat.add_sub_cancel_left,Nat.add_assoc,ih]
  rw [← key,hsz,Nat.succ_mul,Nat.add_comm sz]
theorem flatTok_set (l:List Tok) (i:Nat) (t:Tok) (h:i<l.length):setL (l.flatMap Tok.cells) (i * 6) t.cells=(l.set i t).flatMap Tok.cells:=flat_set Tok.cells 6 (fun _=>rfl) l i t h
end Go.Proofs.YtbfcfpmholkmeaaGreatDoor
namespace Go.Proofs.YtbfcfpmholkmeaaGreatDoor
open Go.RowKit Go.Shelf Go.Proofs

def zC (c:Costs) (l:List TS) (col:List Int) (i k:Nat):Int:=entC c (tsA l i).l (col.getD i (-1)) (tsA l k).l (col.getD k (-1))
def colZ (c:Costs) (l:List TS) (col:List Int):Int:=psum (zC c l col) (pairsL l.length)
theorem colZ_bd {c:Costs} (hc:costE c=0) {l:List TS} (hl:l.length≤32) (col:List Int):0≤colZ c l col∧colZ c l col≤1024000:=by
 have h1:=psum_bd (f:=zC c l col) (M:=1000) (by omega) (pairsL l.length) fun p _=>entC_bd hc _ _ _ _
 have h2:=pairsL_len l.length
 have h3:l.length * l.length≤32 * 32:=Nat.mul_le_mul hl hl
 unfold colZ
 omega
theorem columnV_Z {c:Costs} (hc:costE c=0) {l:List TS} (hbs:badS l=false) (hln:∀ t∈l,t.l.length=t.n) (hn:l.length≤32) {col:List Int} (hcol:ColOk l col) {own:List Tok} {th:List Bool} (ho:own.length=l.length) (ht:th.length=l.length)
  (h1:∀ i,i<l.length→thA th i=decide (0≤col.getD i (-1))) (h2:∀ i,i<l.length→0≤col.getD i (-1)→tkA own i=tkA (tsA l i).l (col.getD i (-1)).toNat):columnV c own th=(colZ c l col,0):=by
 have hmem:∀ i,i<l.length→0≤col.getD i (-1)→tkA (tsA l i).l (col.getD i (-1)).toNat∈(tsA l i).l:=fun i hi h0=>by
  have hci:col[i]?=some (col.getD i (-1)):=by rw [List.getD_eq_getElem?_getD,List.getElem?_eq_getElem (by rw [hcol.1];exact hi)];rfl
  have hli:l[i]?=some (tsA l i):=by rw [tsA_eq (List.getElem?_eq_getElem hi)];exact List.getElem?_eq_getElem hi
  have:=hcol.2 i _ _ hci hli
  exact tkA_mem2 h0 (by rw [hln _ (tsA_mem hi)];exact this.2)
 have hbad:badCol own th=false:=badCol_false fun j hj hth=>by
  rw [ho] at hj
  rw [h1 j hj] at hth
  have h0:0≤col.getD j (-1):=of_decide_eq_true hth
  rw [h2 j hj h0]
  exact badS_ok hbs _ (tsA_mem hj) _ (hmem j hj h0)
 unfold columnV colZ
 rw [if_neg (by simp [hc]),if_neg (by omega),if_neg (by omega),if_neg (by rw [hbad];simp),ho]
 refine congrArg (fun x=>(x,(0:Int))) (psum_congr fun i k hi hk=>?_)
 unfold cellC zC entC
 rw [h1 i hi,h1 k hk]
 have e1:=h2 i hi
 have e2:=h2 k hk
 generalize col.getD i (-1)=x at e1 ⊢
 generalize col.getD k (-1)=y at e2 ⊢
 by_cases hi0:0≤x
 ·by_cases hk0:0≤y
  ·rw [e1 hi0,e2 hk0];simp [hi0,hk0]
  ·rw [e1 hi0];simp [hi0,hk0]
 ·by_cases hk0:0≤y
  ·rw [e2 hk0];simp [hi0,hk0]
  ·simp [hi0,hk0]
theorem upto_drop {n p:Nat} (h:p<n):(upto n).drop p=(p:Int)::(upto n).drop (p+1):=by
 rw [List.drop_eq_getElem_cons (by rw [upto_len];exact h)]
 have e:=upto_get h
 rw [List.getElem?_eq_getElem (by rw [upto_len];exact h)] at e
 rw [Option.some.inj e]
end Go.Proofs.YtbfcfpmholkmeaaGreatDoor
namespace Go.Proofs.YtbfcfpmholkmeaaGreatDoor

end Go.Proofs.YtbfcfpmholkmeaaGreatDoor
namespace Go.Proofs.YtbfcfpmholkmeaaGreatDoor
open Go.RowKit Go.Shelf Go.Proofs
set_option maxRecDepth 100000
set_option maxHeartbeats 1000000

theorem srcs19a_spec (t:TS) (w:World):Spec Tryz.prog 122 [t.val] w (fun v R=>v = .bool (decide ((1024:Int)<t.n))∧R=[]):=by
 refine spec_of sg Tryz.func122 rfl rfl rfl ?_
 repeat' (first|refine d1 ?_|refine dd ?_|(show ∀ _:Nat,T _ _ _ _ _;intro _)|(show T _ (.code .ret::_) _ _ _;refine T_retV [] rfl (Hle.refl _) ⟨rfl,rfl⟩))
theorem srcs19_spec (A:Option Addr) (n ca:Nat) (l:List TS) (w:World) (hgp:Grp w A n l):Spec Tryz.prog 87 [.slice A n ca] w (fun v R=>v = .int .i64 (if n=0 then 5 else 0)∧R=[]):=by
 refine spec_of sg Tryz.func87 rfl rfl rfl ?_
 have hb:=hgp.hb
 have hno:(l.any fun t=>decide ((1024:Int)<t.n))=false:=by
  rw [List.any_eq_false]
  intro t ht
  have:=hgp.nb t ht
  simp;omega
 repeat' (first|refine d1 ?_|refine dd ?_|(show ∀ _:Nat,T _ _ _ _ _;intro _))
 refine T_if rfl (fun h=>?_) (fun h=>?_)
 ·simp only [decide_eq_true_eq] at h
  repeat' (first|refine d1 ?_|refine dd ?_|(show ∀ _:Nat,T _ _ _ _ _;intro _)|(show T _ (.code .ret::_) _ _ _;refine T_retV [] rfl (Hle.refl _) ⟨congrArg (Value.int .i64) (if_pos (by omega)).symm,rfl⟩))
 simp only [decide_eq_false_iff_not] at h
 repeat' (first|refine d1 ?_|refine dd ?_|(show T _ (.ops _ (_::_)::_) _ _ _;first|refine T_call rfl rfl rfl rfl rfl (fun w hw=>containsFuncS_spec A n ca l _ [] [] (fun t=>decide ((1024:Int)<t.n)) w (rdSrc hgp.hs w hw) hgp.hn (by omega) (fun x hx w' hb'=>srcs19a_spec x w')) ?_|refine T_callC rfl rfl rfl rfl rfl rfl rfl (fun hg w hw=>containsFuncS_spec A n ca l _ [] [] (fun t=>decide ((1024:Int)<t.n)) w (rdSrc hgp.hs w hw) hgp.hn (by omega) (fun x hx w' hb'=>srcs19a_spec x w')) ?_)|(show T _ (.run _ _ (_::_) _ _::_) _ _ _;first|refine rc rfl rfl rfl rfl rfl rfl rfl (fun w hw=>containsFuncS_spec A n ca l _ [] [] (fun t=>decide ((1024:Int)<t.n)) w (rdSrc hgp.hs w hw) hgp.hn (by omega) (fun x hx w' hb'=>srcs19a_spec x w')) ?_|refine rcG rfl rfl rfl rfl rfl rfl rfl rfl rfl (fun hg w hw=>containsFuncS_spec A n ca l _ [] [] (fun t=>decide ((1024:Int)<t.n)) w (rdSrc hgp.hs w hw) hgp.hn (by omega) (fun x hx w' hb'=>srcs19a_spec x w')) ?_)|(show ∀ _:Nat,T _ _ _ _ _;intro _))
 refine T_if rfl (fun h1=>?_) (fun h1=>?_)
 ·exfalso
  rw [hno] at h1
  simp at h1
  omega
 ·repeat' (first|refine d1 ?_|refine dd ?_|(show ∀ _:Nat,T _ _ _ _ _;intro _)|(show T _ (.code .ret::_) _ _ _;refine T_retV [] rfl (Hle.refl _) ⟨congrArg (Value.int .i64) (if_neg (by omega)).symm,rfl⟩))
theorem usable1_spec (t:Tok) (ht:t.small) (w:World) (hst:Std w):Spec Tryz.prog 123 [t.val] w (fun v A=>v = .bool (!decide (tokE t=0))∧A=[]):=by
 refine spec_of sg Tryz.func123 rfl rfl rfl ?_
 repeat' (first|(show T _ (.ops _ (⟨_, .box _ _,_,_,_,_⟩::_)::_) _ _ _;refine T_op (OpT.box (cs:=t.cells) rfl rfl rfl rfl rfl rfl rfl (fun _=>?_)))|refine d1 ?_|refine dd ?_|(show T _ (.ops _ (_::_)::_) _ _ _;first|refine T_call rfl rfl rfl rfl rfl (fun w hw=>tokPrg_spec t ht w (hst.cls hw)) ?_|refine T_callC rfl rfl rfl rfl rfl rfl rfl (fun hg w hw=>tokPrg_spec t ht w (hst.cls hw)) ?_)|(show T _ (.run _ _ (_::_) _ _::_) _ _ _;first|refine rc rfl rfl rfl rfl rfl rfl rfl (fun w hw=>tokPrg_spec t ht w (hst.cls hw)) ?_|refine rcG rfl rfl rfl rfl rfl rfl rfl rfl rfl (fun hg w hw=>tokPrg_spec t ht w (hst.cls hw)) ?_)|(show ∀ _:Nat,T _ _ _ _ _;intro _)|(show T _ (.code .ret::_) _ _ _;refine T_retV [] rfl (Hle.none _) ⟨rfl,rfl⟩))
theorem usable2_spec (A:Option Addr) (n c:Nat) (l:List Tok) (p:Nat) (w:World) (hst:Std w) (hs:Src w 6 A n (l.flatMap Tok.cells)) (hn:l.length=n) (hb:n≤9223372036854775807) (hsm:∀ x∈l,x.small) (hp:RdC w p 0 [.func (.func 123) #[] #[]]) :
  Spec Tryz.prog 124 [.slice A n c, .pointer (some ⟨p,0,none⟩)] w (fun v R=>v = .bool (badL l)∧R=[]):=by
 refine spec_of sg Tryz.func124 rfl rfl rfl ?_
 repeat' (first|refine d1 ?_|refine dd ?_|(show T _ (.ops _ (_::_)::_) _ _ _;first|refine T_call rfl rfl rfl rfl rfl (fun w hw=>containsFuncT_spec A n c l _ [] [] (fun t => !decide (tokE t=0)) w (rdSrc hs w hw) hn hb (fun x hx w' hb'=>usable1_spec x (hsm x hx) w' (hst.below (hw.below.trans (hb'.mono hw.below.size))))) ?_|refine T_callC rfl rfl rfl rfl rfl rfl rfl (fun hg w hw=>containsFuncT_spec A n c l _ [] [] (fun t => !decide (tokE t=0)) w (rdSrc hs w hw) hn hb (fun x hx w' hb'=>usable1_spec x (hsm x hx) w' (hst.below (hw.below.trans (hb'.mono hw.below.size))))) ?_)|(show T _ (.run _ _ (_::_) _ _::_) _ _ _;first|refine rc rfl rfl rfl rfl rfl rfl rfl (fun w hw=>containsFuncT_spec A n c l _ [] [] (fun t => !decide (tokE t=0)) w (rdSrc hs w hw) hn hb (fun x hx w' hb'=>usable1_spec x (hsm x hx) w' (hst.below (hw.below.trans (hb'.mono hw.below.size))))) ?_|refine rcG rfl rfl rfl rfl rfl rfl rfl rfl rfl (fun hg w hw=>containsFuncT_spec A n c l _ [] [] (fun t => !decide (tokE t=0)) w (rdSrc hs w hw) hn hb (fun x hx w' hb'=>usable1_spec x (hsm x hx) w' (hst.below (hw.below.trans (hb'.mono hw.below.size))))) ?_)|(show ∀ _:Nat,T _ _ _ _ _;intro _)|(show T _ (.code .ret::_) _ _ _;refine T_retV [] rfl (Hle.none _) ⟨rfl,rfl⟩))
def usV (c:Costs) (l:List TS):Int:=if l.length=0 then 5 else ck21 c l
theorem usable19_spec (c:Costs) (A:Option Addr) (n ca:Nat) (l:List TS) (w:World) (hgp:Grp w A n l):Spec Tryz.prog 89 [c.val, .slice A n ca] w (fun v R=>v = .int .i64 (usV c l)∧R=[]):=by
 refine spec_of sg Tryz.func89 rfl rfl rfl ?_
 have hn:=hgp.hn
 have hb:=hgp.hb
 repeat' (first|(show T _ (.ops _ (⟨_, .box _ _,_,_,_,_⟩::_)::_) _ _ _;refine T_op (OpT.box (cs:=c.cells) rfl rfl rfl rfl rfl rfl rfl (fun _=>?_)))|refine d1 ?_|refine dd ?_|(show T _ (.ops _ (_::_)::_) _ _ _;first|refine T_call rfl rfl rfl rfl rfl (fun w hw=>srcs19_spec A n ca l w (hgp.cls hw)) ?_|refine T_callC rfl rfl rfl rfl rfl rfl rfl (fun hg w hw=>srcs19_spec A n ca l w (hgp.cls hw)) ?_)|(show T _ (.run _ _ (_::_) _ _::_) _ _ _;first|refine rc rfl rfl rfl rfl rfl rfl rfl (fun w hw=>srcs19_spec A n ca l w (hgp.cls hw)) ?_|refine rcG rfl rfl rfl rfl rfl rfl rfl rfl rfl (fun hg w hw=>srcs19_spec A n ca l w (hgp.cls hw)) ?_)|(show ∀ _:Nat,T _ _ _ _ _;intro _))
 refine T_if rfl (fun h=>?_) (fun h=>?_)
 ·simp only [Bool.not_eq_true',decide_eq_false_iff_not] at h
  have h0:n=0:=by
   rcases Nat.eq_zero_or_pos n with h9|h9
   ·exact h9
   ·exact absurd (if_neg (by omega)) h
  rw [if_pos h0]
  repeat' (first|refine d1 ?_|refine dd ?_|(show ∀ _:Nat,T _ _ _ _ _;intro _)|(show T _ (.code .ret::_) _ _ _;refine T_retV [] rfl (Hle.none _) ⟨congrArg (Value.int .i64) (if_pos (by omega)).symm,rfl⟩))
 simp only [Bool.not_eq_false',decide_eq_true_eq] at h
 have h0:n≠0:=fun h9=>by rw [if_pos h9] at h;omega
 clear h
 repeat' (first|refine d1 ?_|refine dd ?_|(show T _ (.ops _ (_::_)::_) _ _ _;first|refine T_call rfl rfl rfl rfl rfl (fun w hw=>costPrg_spec c w) ?_|refine T_callC rfl rfl rfl rfl rfl rfl rfl (fun hg w hw=>costPrg_spec c w) ?_|refine T_call rfl rfl rfl rfl rfl (fun w hw=>containsFuncS_spec A n ca l _ [] [_] (fun t=>badL t.l) w (rdSrc hgp.hs w hw) hgp.hn (by omega) (fun x hx w' hb'=>usable2_spec x.A x.n x.cap x.l _ w' (hgp.hst.below (hw.below.trans (hb'.mono hw.below.size))) (src_below (hgp.ok.src x hx) (hw.below.trans (hb'.mono hw.below.size))) (hgp.ok.len x hx) (hgp.ok.bd x hx) (hgp.sm x hx) ((rdOwn1 (u := .func (.func 123) #[] #[]) rfl w hw).below hb'))) ?_|refine T_callC rfl rfl rfl rfl rfl rfl rfl (fun hg w hw=>containsFuncS_spec A n ca l _ [] [_] (fun t=>badL t.l) w (rdSrc hgp.hs w hw) hgp.hn (by omega) (fun x hx w' hb'=>usable2_spec x.A x.n x.cap x.l _ w' (hgp.hst.below (hw.below.trans (hb'.mono hw.below.size))) (src_below (hgp.ok.src x hx) (hw.below.trans (hb'.mono hw.below.size))) (hgp.ok.len x hx) (hgp.ok.bd x hx) (hgp.sm x hx) ((rdOwn1 (u := .func (.func 123) #[] #[]) rfl w hw).below hb'))) ?_)|(show T _ (.run _ _ (_::_) _ _::_) _ _ _;first|refine rc rfl rfl rfl rfl rfl rfl rfl (fun w hw=>costPrg_spec c w) ?_|refine rcG rfl rfl rfl rfl rfl rfl rfl rfl rfl (fun hg w hw=>costPrg_spec c w) ?_|refine rc rfl rfl rfl rfl rfl rfl rfl (fun w hw=>containsFuncS_spec A n ca l _ [] [_] (fun t=>badL t.l) w (rdSrc hgp.hs w hw) hgp.hn (by omega) (fun x hx w' hb'=>usable2_spec x.A x.n x.cap x.l _ w' (hgp.hst.below (hw.below.trans (hb'.mono hw.below.size))) (src_below (hgp.ok.src x hx) (hw.below.trans (hb'.mono hw.below.size))) (hgp.ok.len x hx) (hgp.ok.bd x hx) (hgp.sm x hx) ((rdOwn1 (u := .func (.func 123) #[] #[]) rfl w hw).below hb'))) ?_|refine rcG rfl rfl rfl rfl rfl rfl rfl rfl rfl (fun hg w hw=>containsFuncS_spec A n ca l _ [] [_] (fun t=>badL t.l) w (rdSrc hgp.hs w hw) hgp.hn (by omega) (fun x hx w' hb'=>usable2_spec x.A x.n x.cap x.l _ w' (hgp.hst.below (hw.below.trans (hb'.mono hw.below.size))) (src_below (hgp.ok.src x hx) (hw.below.trans (hb'.mono hw.below.size))) (hgp.ok.len x hx) (hgp.ok.bd x hx) (hgp.sm x hx) ((rdOwn1 (u := .func (.func 123) #[] #[]) rfl w hw).below hb'))) ?_)|(show ∀ _:Nat,T _ _ _ _ _;intro _))
 refine T_if rfl (fun h1=>?_) (fun h1=>?_)
 ·repeat' (first|refine d1 ?_|refine dd ?_|(show ∀ _:Nat,T _ _ _ _ _;intro _)|(show T _ (.code .ret::_) _ _ _;refine T_retV [] rfl (Hle.none _) ⟨congrArg (Value.int .i64) ?_,rfl⟩))
  unfold usV ck21
  rw [if_neg (by omega),if_neg]
  rintro⟨e1,e2⟩
  unfold badS at e2
  rw [e2] at h1
  simp [e1] at h1
 ·repeat' (first|refine d1 ?_|refine dd ?_|(show ∀ _:Nat,T _ _ _ _ _;intro _)|(show T _ (.code .ret::_) _ _ _;refine T_retV [] rfl (Hle.none _) ⟨congrArg (Value.int .i64) ?_,rfl⟩))
  unfold usV ck21
  rw [if_neg (by omega),if_pos]
  unfold badS
  simpa using h1
end Go.Proofs.YtbfcfpmholkmeaaGreatDoor
namespace Go.Proofs.YtbfcfpmholkmeaaGreatDoor
open Go.RowKit Go.Shelf Go.Proofs

structure Co where
 sec:ByteArray
 sg:List ByteArray
 m:List (List Tok)
 cols:List (List Int)
def lens22 (m:List (List Tok)):List Nat:=m.map List.length
def siglum22 (s:ByteArray):Bool:=if 0<s.size∧byteAt s ((s.size:Int) - 1)=42 then isNameB (s.extract 0 (s.size - 1)) && decide (s.size≤16) else isNameB s
def has22 (pre:List ByteArray) (s:ByteArray):Bool:=pre.any fun y=>decide (s=y)
theorem has22_iff {pre:List ByteArray} {s:ByteArray}:has22 pre s=true↔s∈pre:=by
 unfold has22
 rw [List.any_eq_true]
 constructor
 ·rintro⟨y,hy,e⟩;rw [decide_eq_true_eq] at e;rw [e];exact hy
 ·intro h;exact⟨s,h,decide_eq_true rfl⟩
def sgE22 (pre:List ByteArray):List ByteArray→Int
 | []=>0
 | s::r=>if siglum22 s=false then 14 else if has22 pre s=true then 7 else sgE22 (pre++[s]) r
theorem sgE22_step {sg:List ByteArray} {i:Nat} {s:ByteArray} (h:sg[i]?=some s):sgE22 (sg.take i) (sg.drop i)=if siglum22 s=false then 14 else if has22 (sg.take i) s=true then 7 else sgE22 (sg.take (i+1)) (sg.drop (i+1)):=by
 obtain⟨hl,e⟩:=List.getElem?_eq_some_iff.1 h
 rw [List.drop_eq_getElem_cons hl,e,take_snoc _ _ _ h]
 rfl
theorem sgE22_end {sg:List ByteArray} {i:Nat} (h:sg.length≤i):sgE22 (sg.take i) (sg.drop i)=0:=by
 rw [List.drop_eq_nil_of_le h];rfl
theorem sgE22_zero:∀ {sg pre:List ByteArray},sgE22 pre sg=0→(∀ s∈sg,siglum22 s=true∧s ∉ pre)∧sg.Nodup
 | [],_,_=>⟨fun s h=>(by cases h),List.nodup_nil⟩
 | s::r,pre,h=>by
  unfold sgE22 at h
  by_cases h1:siglum22 s=false
  ·rw [if_pos h1] at h;omega
  ·rw [if_neg h1] at h
   by_cases h2':has22 pre s=true
   ·rw [if_pos h2'] at h;omega
   ·rw [if_neg h2'] at h
    have h2:s ∉ pre:=fun hm=>h2' (has22_iff.2 hm)
    obtain⟨h3,h4⟩:=sgE22_zero h
    refine ⟨fun x hx=>?_,List.nodup_cons.2 ⟨fun hm=>(h3 s hm).2 (by simp),h4⟩⟩
    rcases List.mem_cons.1 hx with rfl|hx
    ·exact⟨by simpa using h1,h2⟩
    ·exact⟨(h3 x hx).1,fun hm=>(h3 x hx).2 (List.mem_append_left _ hm)⟩
theorem sgE22_of:∀ {sg pre:List ByteArray},(∀ s∈sg,siglum22 s=true∧s ∉ pre)→sg.Nodup→sgE22 pre sg=0
 | [],_,_,_=>rfl
 | s::r,pre,h,hn=>by
  obtain⟨h1,h2⟩:=h s (.head _)
  obtain⟨h3,h4⟩:=List.nodup_cons.1 hn
  unfold sgE22
  rw [if_neg (by rw [h1];simp),if_neg (fun hh=>h2 (has22_iff.1 hh))]
  refine sgE22_of (fun x hx=>⟨(h x (.tail _ hx)).1,fun hm=>?_⟩) h4
  rcases List.mem_append.1 hm with hm|hm
  ·exact (h x (.tail _ hx)).2 hm
  ·rw [List.mem_singleton] at hm
   subst hm
   exact h3 hx
def tkE22:List (List Tok)→Int
 | []=>0
 | l::r=>if 1024<l.length then 4 else if badL l=true then 1 else tkE22 r
theorem tkE22_step {m:List (List Tok)} {i:Nat} {l:List Tok} (h:m[i]?=some l):tkE22 (m.drop i)=if 1024<l.length then 4 else if badL l=true then 1 else tkE22 (m.drop (i+1)):=by
 obtain⟨hl,e⟩:=List.getElem?_eq_some_iff.1 h
 rw [List.drop_eq_getElem_cons hl,e]
 rfl
theorem tkE22_zero:∀ {m:List (List Tok)},tkE22 m=0↔∀ l∈m,l.length≤1024∧badL l=false
 | []=>⟨fun _ l h=>(by cases h),fun _=>rfl⟩
 | l::r=>by
  rw [List.forall_mem_cons, ← tkE22_zero (m:=r)]
  show (if 1024<l.length then (4:Int) else if badL l=true then 1 else tkE22 r)=0↔_
  by_cases h1:1024<l.length
  ·rw [if_pos h1];exact⟨fun h=>by omega,fun h=>by have:=h.1.1;omega⟩
  ·rw [if_neg h1]
   by_cases h2:badL l=true
   ·rw [if_pos h2];exact⟨fun h=>by omega,fun h=>by rw [h.1.2] at h2;cases h2⟩
   ·rw [if_neg h2]
    exact⟨fun h=>⟨⟨by omega,by simpa using h2⟩,h⟩,fun h=>h.2⟩
def head22 (sec:ByteArray) (sg:List ByteArray) (m:List (List Tok)):Int :=
 if isNameB sec=false then 14 else if sg.length=0 then 5 else if 32<sg.length then 4 else if sgE22 [] sg≠0 then sgE22 [] sg else if m.length≠sg.length then 9 else tkE22 m
structure Head22 (sec:ByteArray) (sg:List ByteArray) (m:List (List Tok)):Prop where
 sec:isNameB sec=true
 pos:1≤sg.length
 le:sg.length≤32
 sig:∀ s∈sg,siglum22 s=true
 nod:sg.Nodup
 len:m.length=sg.length
 tok:∀ l∈m,l.length≤1024∧badL l=false
theorem head22_iff {sec:ByteArray} {sg:List ByteArray} {m:List (List Tok)}:head22 sec sg m=0↔Head22 sec sg m:=by
 unfold head22
 constructor
 ·intro h
  by_cases h1:isNameB sec=false
  ·rw [if_pos h1] at h;omega
  rw [if_neg h1] at h
  by_cases h2:sg.length=0
  ·rw [if_pos h2] at h;omega
  rw [if_neg h2] at h
  by_cases h3:32<sg.length
  ·rw [if_pos h3] at h;omega
  rw [if_neg h3] at h
  by_cases h4:sgE22 [] sg≠0
  ·rw [if_pos h4] at h;exact absurd h h4
  rw [if_neg h4] at h
  by_cases h5:m.length≠sg.length
  ·rw [if_pos h5] at h;omega
  rw [if_neg h5] at h
  obtain⟨g1,g2⟩:=sgE22_zero (Classical.not_not.1 h4)
  exact⟨by simpa using h1,by omega,by omega,fun s hs=>(g1 s hs).1,g2,by omega,tkE22_zero.1 h⟩
 ·rintro⟨h1,h2,h3,h4,h5,h6,h7⟩
  have e:=sgE22_of (pre:=[]) (fun s hs=>⟨h4 s hs,by simp⟩) h5
  rw [if_neg (by rw [h1];simp),if_neg (by omega),if_neg (by omega),e,if_neg (by simp),if_neg (by omega)]
  exact tkE22_zero.2 h7
structure Ok22 (x:Co):Prop where
 head:Head22 x.sec x.sg x.m
 cols:ColsOk (lens22 x.m) x.cols
def big22 (t:Tok):Bool:=decide (12<t.text.size) || decide (12<t.norm.size) || decide (20<t.page.size) || decide (20<t.name.size)
def grL22 (i n:Nat):List (List Tok)→Bool
 | []=>decide (400<n)
 | l::r=>(decide (6<l.length) || (decide (4≤i) && decide (1<l.length)) || l.any big22) || grL22 (i+1) (if i<4 then n * (l.length+1) else n) r
def grT22 (m:List (List Tok)):Bool:=grL22 0 1 m || (decide (6<m.length∧m.length≤32) || decide (34<m.length))
theorem grL22_no:∀ {m:List (List Tok)} {i n:Nat},grL22 i n m=false→∀ l∈m,l.length≤6∧∀ t∈l,t.small
 | [],_,_,_,l,hl=>by cases hl
 | l::r,i,n,h,x,hx=>by
  unfold grL22 at h
  simp only [Bool.or_eq_false_iff,decide_eq_false_iff_not] at h
  obtain⟨⟨⟨h1,-⟩,h3⟩,h4⟩:=h
  rcases List.mem_cons.1 hx with rfl|hx
  ·refine ⟨by omega,fun t ht=>?_⟩
   have h5:=(List.any_eq_false.1 h3) t ht
   simp only [big22,Bool.or_eq_true,decide_eq_true_eq,not_or] at h5
   exact⟨by omega,by omega,by omega,by omega⟩
  ·exact grL22_no h4 x hx
theorem grL22_txt:∀ {m:List (List Tok)} {i n:Nat},grL22 i n m=false→∀ l∈m,∀ t∈l,t.text.size≤12
 | [],_,_,_,l,hl=>by cases hl
 | l::r,i,n,h,x,hx=>by
  unfold grL22 at h
  simp only [Bool.or_eq_false_iff,decide_eq_false_iff_not] at h
  obtain⟨⟨⟨h1,-⟩,h3⟩,h4⟩:=h
  rcases List.mem_cons.1 hx with rfl|hx
  ·intro t ht
   have h5:=(List.any_eq_false.1 h3) t ht
   simp only [big22,Bool.or_eq_true,decide_eq_true_eq,not_or] at h5
   omega
  ·exact grL22_txt h4 x hx
theorem grT22_txt {m:List (List Tok)} (h:grT22 m=false):∀ l∈m,∀ t∈l,t.text.size≤12:=by
 unfold grT22 at h
 simp only [Bool.or_eq_false_iff] at h
 exact grL22_txt h.1
theorem grT22_no {m:List (List Tok)} (h:grT22 m=false):(∀ l∈m,l.length≤6∧∀ t∈l,t.small)∧(m.length≤6∨32<m.length∧m.length≤34):=by
 unfold grT22 at h
 simp only [Bool.or_eq_false_iff,decide_eq_false_iff_not] at h
 exact⟨grL22_no h.1,by omega⟩
structure Small22 (x:Co):Prop where
 tok:∀ l∈x.m,l.length≤6∧∀ t∈l,t.small
 len:x.m.length≤6∨32<x.m.length∧x.m.length≤34
 wide:∀ c∈x.cols,c.length≤36
 cols:x.cols.length≤24
 sg:x.sg.length≤36
 sig:∀ s∈x.sg,s.size≤20
 sec:x.sec.size≤20
 txt:∀ l∈x.m,∀ t∈l,t.text.size≤12
end Go.Proofs.YtbfcfpmholkmeaaGreatDoor
namespace Go.Proofs.YtbfcfpmholkmeaaGreatDoor
open Go.RowKit Go.Shelf Go.Proofs

def txt22 (l:List Tok) (z:Int):ByteArray:=if z<0 then ByteArray.empty else match l[z.toNat]? with|some t=>t.text|none=>ByteArray.empty
def cell22 (x:Co) (k i:Nat):ByteArray:=txt22 (x.m.getD k []) ((x.cols.getD i []).getD k (-1))
end Go.Proofs.YtbfcfpmholkmeaaGreatDoor
namespace Go.Proofs.YtbfcfpmholkmeaaGreatDoor
open Go.RowKit Go.Shelf Go.Proofs

def SameL (l l':List TS):Prop:=l.map TS.l=l'.map TS.l
theorem SameL.len {l l':List TS} (h:SameL l l'):l.length=l'.length:=by
 have:=congrArg List.length h
 rwa [List.length_map,List.length_map] at this
theorem SameL.get {l l':List TS} (h:SameL l l') (i:Nat):(tsA l i).l=(tsA l' i).l:=by
 have e:=congrArg (fun x:List (List Tok)=>x[i]?) h
 simp only [List.getElem?_map] at e
 unfold tsA
 rw [List.getD_eq_getElem?_getD,List.getD_eq_getElem?_getD]
 cases h1:l[i]? with
 | none =>
  cases h2:l'[i]? with
  | none=>rfl
  | some y=>rw [h1,h2] at e;cases e
 | some x =>
  cases h2:l'[i]? with
  | none=>rw [h1,h2] at e;cases e
  | some y=>rw [h1,h2] at e;exact Option.some.inj e
theorem SameL.dst {l l':List TS} (h:SameL l l') (c:Costs):dstT c l=dstT c l':=by
 funext i k
 unfold dstT
 rw [h.get,h.get]
theorem SameL.put {l l':List TS} (h:SameL l l') (c:Costs) (col:List Int) (t:List Tok) (k:Int):putC c l col t k=putC c l' col t k:=by
 have e:∀ m:List TS,putC c m col t k=(((m.map TS.l).zip col).map fun p=>entC c p.1 p.2 t k).sum:=fun m=>by
  unfold putC
  rw [List.zip_map_left,List.map_map]
  rfl
 rw [e l,e l',h]
theorem SameL.add {l l':List TS} (h:SameL l l') (c:Costs) (cols:List (List Int)) (t:List Tok):addV c l cols t=addV c l' cols t:=by
 funext i k
 have e:grdA c l cols t=grdA c l' cols t:=by
  unfold grdA
  simp only [h.put,h.len]
 unfold addV
 rw [e,h.len]
theorem SameL.tak {l l':List TS} (h:SameL l l') (ord:List Nat) (j:Nat):SameL (takS l ord j) (takS l' ord j):=by
 unfold SameL takS
 rw [List.map_map,List.map_map]
 exact List.map_congr_left fun i _=>h.get i
theorem SameL.stg {l l':List TS} (h:SameL l l') (c:Costs) (ord:List Nat):∀ j,stgV c l ord j=stgV c l' ord j
 | 0=>rfl
 | j+1=>by
  unfold stgV
  rw [(h.tak ord j).add,SameL.stg h c ord j,h.get]
theorem SameL.bad {l l':List TS} (h:SameL l l'):badS l=badS l':=by
 have e:∀ m:List TS,badS m=(m.map TS.l).any badL:=fun m=>by unfold badS;rw [List.any_map];rfl
 rw [e,e,h]
theorem SameL.ck {l l':List TS} (h:SameL l l') (c:Costs):ck21 c l=ck21 c l':=by unfold ck21;rw [h.bad]
theorem SameL.ord {l l':List TS} (h:SameL l l') (c:Costs):ordV c l=ordV c l':=by unfold ordV;rw [h.ck,h.dst,h.len]
theorem SameL.aln {l l':List TS} (h:SameL l l') (c:Costs):alnA c l=alnA c l':=by unfold alnA alnP;rw [h.ck,h.dst,h.len,h.stg]
end Go.Proofs.YtbfcfpmholkmeaaGreatDoor
namespace Go.Proofs.YtbfcfpmholkmeaaGreatDoor
open Go.RowKit Go.Shelf Go.Proofs
set_option maxRecDepth 100000

def sA:ByteArray:=⟨#[97]⟩
end Go.Proofs.YtbfcfpmholkmeaaGreatDoor
namespace Go.Proofs.YtbfcfpmholkmeaaGreatDoor
open Go.RowKit Go.Shelf Go.Proofs
set_option maxRecDepth 100000
set_option maxHeartbeats 1000000

theorem nilC (H:List HA):Hle H (dat [.slice none 0 0] [rowsD []]::H):=hle_unit (B:=dat [.slice none 0 0] [rowsD []]) (.s none 0 0 1 [] rfl (Nat.le_refl _) (by omega) (fun h=>absurd h (by omega)) .nil .nil)
end Go.Proofs.YtbfcfpmholkmeaaGreatDoor
namespace Go.Proofs.YtbfcfpmholkmeaaGreatDoor
open Go.RowKit Go.Shelf Go.Proofs
set_option maxRecDepth 100000
set_option maxHeartbeats 4000000

end Go.Proofs.YtbfcfpmholkmeaaGreatDoor
namespace Go.Proofs.YtbfcfpmholkmeaaGreatDoor
open Go.RowKit Go.Shelf Go.Proofs
set_option maxRecDepth 100000
set_option maxHeartbeats 1000000

end Go.Proofs.YtbfcfpmholkmeaaGreatDoor
namespace Go.Proofs.YtbfcfpmholkmeaaGreatDoor
open Go.RowKit Go.Shelf Go.Proofs
set_option maxRecDepth 100000
set_option maxHeartbeats 1000000

theorem rd_toksL {w:World}:∀ {m:List (List Tok)} {cs:List Value},Rd (wr w) cs (m.map toksD)→∃ l:List TS,cs=l.map TS.val∧TsOk w l∧l.map TS.l=m
 | [],cs,h=>by
  have:=h.length
  obtain rfl:cs=[]:=List.eq_nil_of_length_eq_zero this
  exact⟨[],rfl,⟨fun t ht=>(by cases ht),fun t ht=>(by cases ht),fun t ht=>(by cases ht)⟩,rfl⟩
 | t::m,[],h=>by have:=h.length;simp at this
 | t::m,x::cs,h=>by
  obtain⟨h1,h2⟩:=h.cons_inv
  obtain⟨A,cap,rfl,hb,hs,-,-⟩:=h1.toks
  obtain⟨l,rfl,hl,rfl⟩:=rd_toksL h2
  refine ⟨⟨A,t.length,cap,t⟩::l,rfl,⟨fun y hy=>?_,fun y hy=>?_,fun y hy=>?_⟩,rfl⟩
  ·rcases List.mem_cons.1 hy with rfl|hy
   ·exact hs
   ·exact hl.src y hy
  ·rcases List.mem_cons.1 hy with rfl|hy
   ·rfl
   ·exact hl.len y hy
  ·rcases List.mem_cons.1 hy with rfl|hy
   ·exact hb
   ·exact hl.bd y hy
theorem Rd.toksL {w:World} {x:Value} {m:List (List Tok)} (h:Rd (wr w) [x] [.s 1 (m.map toksD)]):∃ A cap,∃ l:List TS,x = .slice A l.length cap∧l.length≤9223372036854775807∧Src w 1 A l.length (l.map TS.val)∧TsOk w l∧l.map TS.l=m:=by
 obtain⟨A,n,cap,cs,rfl,h1,h2,h3,hs,hr⟩:=h.src
 obtain⟨l,rfl,hl,rfl⟩:=rd_toksL hr
 have hn:n=l.length:=by rw [List.length_map,List.length_map] at h1;omega
 subst hn
 exact⟨A,cap,l,rfl,by omega,hs,hl,rfl⟩
end Go.Proofs.YtbfcfpmholkmeaaGreatDoor
namespace Go.Proofs.YtbfcfpmholkmeaaGreatDoor
open Go.RowKit Go.Shelf Go.Proofs
set_option maxRecDepth 100000
set_option maxHeartbeats 1000000

end Go.Proofs.YtbfcfpmholkmeaaGreatDoor
namespace Go.Proofs.YtbfcfpmholkmeaaGreatDoor
open Go.RowKit Go.Shelf Go.Proofs
set_option maxRecDepth 100000
set_option maxHeartbeats 1000000

theorem isNone_true {A:Option Addr} (h:isNone' A=true):A=none:=by cases A <;> simp_all [isNone']
theorem src_none {w:World} {sz n:Nat} {xs:List Value} (h:Src w sz none n xs):n=0∧xs=[]:=by
 have:n=0:=by
  rcases Nat.eq_zero_or_pos n with h1|h1
  ·exact h1
  ·have:=(h.2 h1).1;simp [isAt] at this
 subst this
 exact⟨rfl,List.eq_nil_of_length_eq_zero (by simpa using h.1)⟩
theorem oneMap {α:Type} (f:α→Value) (hf:∀ x,(f x).oneCell'=true):∀ l:List α,oneCells (l.map f)=true
 | []=>rfl
 | x::l=>by rw [List.map_cons];simp only [oneCells,hf,Bool.true_and];exact oneMap f hf l
theorem oneToks:∀ l:List Tok,oneCells (l.flatMap Tok.cells)=true
 | []=>rfl
 | t::l=>by
  rw [List.flatMap_cons]
  simp only [Tok.cells,List.cons_append,List.nil_append,oneCells,Value.oneCell',Bool.true_and]
  exact oneToks l
theorem cloneT_spec (A:Option Addr) (n c:Nat) (l:List Tok) (w:World) (hs:Src w 6 A n (l.flatMap Tok.cells)) (hb:n≤1000000) :
  Spec Tryz.prog 28 [.slice A n c] w (fun v R=>∃ x:Option Addr × Nat,True∧v = .slice x.1 n x.2∧R=[row 38 6 x.1 x.2 n (l.flatMap Tok.cells)]):=by
 refine spec_of sg Tryz.func28 rfl rfl rfl ?_
 repeat' (first|refine d1 ?_|refine dd ?_|(show T _ (.ops _ (_::_)::_) _ _ _;first|refine T_val rfl (Val.nilS rfl) rfl rfl rfl ?_|refine T_valC rfl (Val.nilS rfl) rfl rfl rfl rfl rfl ?_)|(show T _ (.run _ _ (_::_) _ _::_) _ _ _;first|refine rv rfl rfl rfl (Val.nilS rfl) rfl rfl rfl ?_|refine rg rfl rfl rfl (Val.nilS rfl) rfl rfl rfl rfl rfl ?_)|(show ∀ _:Nat,T _ _ _ _ _;intro _))
 refine T_if rfl (fun h=>?_) (fun h=>?_)
 ·obtain rfl:=isNone_true h
  obtain⟨rfl,e⟩:=src_none hs
  rw [e]
  repeat' (first|refine d1 ?_|refine dd ?_|(show ∀ _:Nat,T _ _ _ _ _;intro _))
  refine T_nilrow 38 6 ?_
  repeat' (first|refine d1 ?_|refine dd ?_|(show ∀ _:Nat,T _ _ _ _ _;intro _)|(show T _ (.code .ret::_) _ _ _;refine T_retV _ rfl Hle.sub ⟨(none,0),trivial,rfl,rfl⟩))
 ·repeat' (first|refine d1 ?_|(show ∀ _:Nat,T _ _ _ _ _;intro _))
  refine T_blk_rowh 6 0 rfl (by omega) ?_
  refine T_op (OpT.append rfl rfl rfl rfl rfl rfl rfl rfl rfl rfl (rdSrc hs) (oneToks l) (by dsimp only;omega) (by omega) (fun A' cap' hA'=>?_))
  rw [show 0+n=n by omega,show flatP []++l.flatMap Tok.cells=l.flatMap Tok.cells from rfl]
  repeat' (first|refine d1 ?_|refine dd ?_|(show ∀ _:Nat,T _ _ _ _ _;intro _)|(show T _ (.code .ret::_) _ _ _;refine T_retV _ rfl (Hle.refl _) ⟨(A',cap'),trivial,rfl,rfl⟩))
end Go.Proofs.YtbfcfpmholkmeaaGreatDoor
namespace Go.Proofs.YtbfcfpmholkmeaaGreatDoor
open Go.RowKit Go.Shelf Go.Proofs
set_option maxRecDepth 100000
set_option maxHeartbeats 1000000

def RvIn (l r:List Tok) (i:Nat):Prop:=r.length=l.length∧∀ k,k<l.length→r[k]?=if k<i∨l.length≤k+i then l[l.length - 1 - k]? else l[k]?
theorem RvIn.zero (l:List Tok):RvIn l l 0:=⟨rfl,fun k hk=>by rw [if_neg (by omega)]⟩
theorem RvIn.step {l r:List Tok} {i:Nat} (h:RvIn l r i) (hi:2 * i+1<l.length):RvIn l ((r.set i (tkA r (l.length - 1 - i))).set (l.length - 1 - i) (tkA r i)) (i+1):=by
 obtain⟨h1,h2⟩:=h
 have e1:r[l.length - 1 - i]?=l[l.length - 1 - i]?:=by rw [h2 _ (by omega),if_neg (by omega)]
 have e2:r[i]?=l[i]?:=by rw [h2 _ (by omega),if_neg (by omega)]
 refine ⟨by simp [h1],fun k hk=>?_⟩
 rw [List.getElem?_set,List.getElem?_set,List.length_set]
 by_cases hk1:l.length - 1 - i=k
 ·rw [if_pos hk1,if_pos (by omega),if_pos (by omega),show l.length - 1 - k=i by omega, ← e2,tkA_get (by omega)]
 ·rw [if_neg hk1]
  by_cases hk2:i=k
  ·subst hk2
   rw [if_pos rfl,if_pos (by omega),if_pos (by omega), ← e1,tkA_get (by omega)]
  ·rw [if_neg hk2,h2 k hk]
   by_cases h3:k<i∨l.length≤k+i
   ·rw [if_pos h3,if_pos (by omega)]
   ·rw [if_neg h3,if_neg (by omega)]
theorem RvIn.all {l r:List Tok} {i:Nat} (h:RvIn l r i) (hi:l.length≤2 * i+1):r=l.reverse:=by
 obtain⟨h1,h2⟩:=h
 apply List.ext_getElem?
 intro k
 by_cases hk:k<l.length
 ·rw [h2 k hk,List.getElem?_reverse hk]
  split
  ·rfl
  ·rw [show l.length - 1 - k=k by omega]
 ·rw [List.getElem?_eq_none (by omega),List.getElem?_eq_none (by simp;omega)]
end Go.Proofs.YtbfcfpmholkmeaaGreatDoor
namespace Go.Proofs.YtbfcfpmholkmeaaGreatDoor
open Go.RowKit Go.Shelf Go.Proofs
set_option maxRecDepth 100000
set_option maxHeartbeats 1000000

end Go.Proofs.YtbfcfpmholkmeaaGreatDoor
namespace Go.Proofs.YtbfcfpmholkmeaaGreatDoor
open Go.RowKit Go.Shelf Go.Proofs
set_option maxRecDepth 100000
set_option maxHeartbeats 1000000

theorem cloneS_spec (A:Option Addr) (n c:Nat) (l:List TS) (w:World) (hs:Src w 1 A n (l.map TS.val)) (hb:n≤1000000) :
  Spec Tryz.prog 52 [.slice A n c] w (fun v R=>∃ x:Option Addr × Nat,True∧v = .slice x.1 n x.2∧R=[row 30 1 x.1 x.2 n (l.map TS.val)]):=by
 refine spec_of sg Tryz.func52 rfl rfl rfl ?_
 repeat' (first|refine d1 ?_|refine dd ?_|(show T _ (.ops _ (_::_)::_) _ _ _;first|refine T_val rfl (Val.nilS rfl) rfl rfl rfl ?_|refine T_valC rfl (Val.nilS rfl) rfl rfl rfl rfl rfl ?_)|(show T _ (.run _ _ (_::_) _ _::_) _ _ _;first|refine rv rfl rfl rfl (Val.nilS rfl) rfl rfl rfl ?_|refine rg rfl rfl rfl (Val.nilS rfl) rfl rfl rfl rfl rfl ?_)|(show ∀ _:Nat,T _ _ _ _ _;intro _))
 refine T_if rfl (fun h=>?_) (fun h=>?_)
 ·obtain rfl:=isNone_true h
  obtain⟨rfl,e⟩:=src_none hs
  rw [e]
  repeat' (first|refine d1 ?_|refine dd ?_|(show ∀ _:Nat,T _ _ _ _ _;intro _))
  refine T_nilrow 30 1 ?_
  repeat' (first|refine d1 ?_|refine dd ?_|(show ∀ _:Nat,T _ _ _ _ _;intro _)|(show T _ (.code .ret::_) _ _ _;refine T_retV _ rfl Hle.sub ⟨(none,0),trivial,rfl,rfl⟩))
 ·repeat' (first|refine d1 ?_|(show ∀ _:Nat,T _ _ _ _ _;intro _))
  refine T_blk_rowh 1 0 rfl (by omega) ?_
  refine T_op (OpT.append rfl rfl rfl rfl rfl rfl rfl rfl rfl rfl (rdSrc hs) (oneMap TS.val (fun _=>rfl) l) (by dsimp only;omega) (by omega) (fun A' cap' hA'=>?_))
  rw [show 0+n=n by omega,show flatP []++(l.map TS.val)=(l.map TS.val) from rfl]
  repeat' (first|refine d1 ?_|refine dd ?_|(show ∀ _:Nat,T _ _ _ _ _;intro _)|(show T _ (.code .ret::_) _ _ _;refine T_retV _ rfl (Hle.refl _) ⟨(A',cap'),trivial,rfl,rfl⟩))
def RvS (l r:List TS) (i:Nat):Prop:=r.length=l.length∧∀ k,k<l.length→r[k]?=if k<i∨l.length≤k+i then l[l.length - 1 - k]? else l[k]?
theorem RvS.zero (l:List TS):RvS l l 0:=⟨rfl,fun k hk=>by rw [if_neg (by omega)]⟩
theorem tsA_get2 {l:List TS} {i:Nat} (h:i<l.length):l[i]?=some (tsA l i):=by unfold tsA;rw [List.getD_eq_getElem?_getD,List.getElem?_eq_getElem h];rfl
theorem RvS.step {l r:List TS} {i:Nat} (h:RvS l r i) (hi:2 * i+1<l.length):RvS l ((r.set i (tsA r (l.length - 1 - i))).set (l.length - 1 - i) (tsA r i)) (i+1):=by
 obtain⟨h1,h2⟩:=h
 have e1:r[l.length - 1 - i]?=l[l.length - 1 - i]?:=by rw [h2 _ (by omega),if_neg (by omega)]
 have e2:r[i]?=l[i]?:=by rw [h2 _ (by omega),if_neg (by omega)]
 refine ⟨by simp [h1],fun k hk=>?_⟩
 rw [List.getElem?_set,List.getElem?_set,List.length_set]
 by_cases hk1:l.length - 1 - i=k
 ·rw [if_pos hk1,if_pos (by omega),if_pos (by omega),show l.length - 1 - k=i by omega, ← e2,tsA_get2 (by omega)]
 ·rw [if_neg hk1]
  by_cases hk2:i=k
  ·subst hk2
   rw [if_pos rfl,if_pos (by omega),if_pos (by omega), ← e1,tsA_get2 (by omega)]
  ·rw [if_neg hk2,h2 k hk]
   by_cases h3:k<i∨l.length≤k+i
   ·rw [if_pos h3,if_pos (by omega)]
   ·rw [if_neg h3,if_neg (by omega)]
theorem RvS.all {l r:List TS} {i:Nat} (h:RvS l r i) (hi:l.length≤2 * i+1):r=l.reverse:=by
 obtain⟨h1,h2⟩:=h
 apply List.ext_getElem?
 intro k
 by_cases hk:k<l.length
 ·rw [h2 k hk,List.getElem?_reverse hk]
  split
  ·rfl
  ·rw [show l.length - 1 - k=k by omega]
 ·rw [List.getElem?_eq_none (by omega),List.getElem?_eq_none (by simp;omega)]
end Go.Proofs.YtbfcfpmholkmeaaGreatDoor
namespace Go.Proofs.YtbfcfpmholkmeaaGreatDoor
open Go.RowKit Go.Shelf Go.Proofs
set_option maxRecDepth 100000
set_option maxHeartbeats 1000000

theorem equalTok_spec (A B:Option Addr) (n m ca cb:Nat) (p q:List Tok) (w:World) (ha:Src w 6 A n (p.flatMap Tok.cells)) (hn:p.length=n) (hnb:n≤9223372036854775807) (hb:Src w 6 B m (q.flatMap Tok.cells)) (hm:q.length=m) (hmb:m≤9223372036854775807) :
  Spec Tryz.prog 9 [.slice A n ca, .slice B m cb] w (fun v R=>v = .bool (decide (p=q))∧R=[]):=by
 refine spec_of sg Tryz.func9 rfl rfl rfl ?_
 repeat' (first|refine d1 ?_|refine dd ?_|(show ∀ _:Nat,T _ _ _ _ _;intro _))
 refine T_if rfl (fun h=>?_) (fun h=>?_)
 ·simp only [Bool.not_eq_true',decide_eq_false_iff_not] at h
  repeat' (first|refine d1 ?_|refine dd ?_|(show ∀ _:Nat,T _ _ _ _ _;intro _)|(show T _ (.code .ret::_) _ _ _;refine T_retV [] rfl (Hle.none _) ⟨?_,rfl⟩))
  rw [decide_eq_false (fun e=>h (by rw [← hn, ← hm,e]))];rfl
 simp only [Bool.not_eq_false',decide_eq_true_eq] at h
 repeat' (first|refine d1 ?_|refine dd ?_|(show ∀ _:Nat,T _ _ _ _ _;intro _))
 refine T_loopX (fun k:Nat=>[(13, .int .i64 k)]) (fun _=>[]) (fun k=>k≤p.length∧∀ j,j<k→p[j]?=q[j]?) (fun k=>p.length - k) 0 ⟨by omega,fun j h=>by omega⟩ ?_
 rintro k ⟨hk,hok⟩
 repeat' (first|refine d1 ?_|refine dd ?_|(show ∀ _:Nat,T _ _ _ _ _;intro _))
 refine T_if rfl (fun h3=>?_) (fun h3=>?_)
 ·simp only [decide_eq_true_eq] at h3
  have hkn:k<p.length:=by omega
  have hkq:k<q.length:=by omega
  obtain⟨b1,o1,rfl⟩:=ha.base (by omega)
  obtain⟨b2,o2,rfl⟩:=hb.base (by omega)
  obtain⟨u,hu⟩:∃ u,p[k]?=some u:=⟨_,List.getElem?_eq_getElem hkn⟩
  obtain⟨v,hv⟩:∃ v,q[k]?=some v:=⟨_,List.getElem?_eq_getElem hkq⟩
  have hr1:RdC w b1 (o1+(k:Int).toNat * 6) u.cells:=ha.getT (by omega) hu
  have hr2:RdC w b2 (o2+(k:Int).toNat * 6) v.cells:=hb.getT (by omega) hv
  repeat' (first|refine d1 ?_|refine dd ?_|(show T _ (.ops _ (_::_)::_) _ _ _;first|refine T_val rfl (Val.loadA (vs:=u.cells) rfl (fun hg=>rdOld hr1) rfl) rfl rfl rfl ?_|refine T_valC rfl (Val.loadA (vs:=u.cells) rfl (fun hg=>rdOld hr1) rfl) rfl rfl rfl rfl rfl ?_|refine T_val rfl (Val.loadA (vs:=v.cells) rfl (fun hg=>rdOld hr2) rfl) rfl rfl rfl ?_|refine T_valC rfl (Val.loadA (vs:=v.cells) rfl (fun hg=>rdOld hr2) rfl) rfl rfl rfl rfl rfl ?_|refine T_val rfl (Val.eqS (r:=decide (u=v)) rfl (fun w=>eqTok u v w) Tryz.eqGuardType38) rfl rfl rfl ?_|refine T_valC rfl (Val.eqS (r:=decide (u=v)) rfl (fun w=>eqTok u v w) Tryz.eqGuardType38) rfl rfl rfl rfl rfl ?_)|(show T _ (.run _ _ (_::_) _ _::_) _ _ _;first|refine rv rfl rfl rfl (Val.loadA (vs:=u.cells) rfl (fun hg=>rdOld hr1) rfl) rfl rfl rfl ?_|refine rg rfl rfl rfl (Val.loadA (vs:=u.cells) rfl (fun hg=>rdOld hr1) rfl) rfl rfl rfl rfl rfl ?_|refine rv rfl rfl rfl (Val.loadA (vs:=v.cells) rfl (fun hg=>rdOld hr2) rfl) rfl rfl rfl ?_|refine rg rfl rfl rfl (Val.loadA (vs:=v.cells) rfl (fun hg=>rdOld hr2) rfl) rfl rfl rfl rfl rfl ?_|refine rv rfl rfl rfl (Val.eqS (r:=decide (u=v)) rfl (fun w=>eqTok u v w) Tryz.eqGuardType38) rfl rfl rfl ?_|refine rg rfl rfl rfl (Val.eqS (r:=decide (u=v)) rfl (fun w=>eqTok u v w) Tryz.eqGuardType38) rfl rfl rfl rfl rfl ?_)|(show ∀ _:Nat,T _ _ _ _ _;intro _))
  refine T_if rfl (fun h4=>?_) (fun h4=>?_)
  ·have h4:decide (u=v)=false:=by simpa using h4
   rw [decide_eq_false_iff_not] at h4
   repeat' (first|refine d1 ?_|refine dd ?_|(show ∀ _:Nat,T _ _ _ _ _;intro _)|(show T _ (.code .ret::_) _ _ _;refine T_retV [] rfl (Hle.none _) ⟨?_,rfl⟩))
   rw [decide_eq_false (fun e=>h4 (by rw [e,hv] at hu;exact (Option.some.inj hu).symm))];rfl
  ·have h4:decide (u=v)=true:=by simpa using h4
   rw [decide_eq_true_eq] at h4
   repeat' (first|refine d1 ?_|refine dd ?_|(show ∀ _:Nat,T _ _ _ _ _;intro _))
   refine T_backX (k+1) ⟨by omega,fun j hj=>?_⟩ (by omega)
   rcases Nat.lt_or_ge j k with h5|h5
   ·exact hok j h5
   ·rw [show j=k by omega,hu,hv,h4]
 ·simp only [decide_eq_false_iff_not] at h3
  repeat' (first|refine d1 ?_|refine dd ?_|(show ∀ _:Nat,T _ _ _ _ _;intro _)|(show T _ (.code .ret::_) _ _ _;refine T_retV [] rfl (Hle.none _) ⟨?_,rfl⟩))
  rw [decide_eq_true (list_eq_of (by omega) fun j hj=>hok j (by omega))];rfl
def sStar:ByteArray:=⟨#[42]⟩
def star22 (s:ByteArray):Bool:=decide (0<s.size∧byteAt s ((s.size:Int) - 1)=42)
def bare1_22 (s:ByteArray):ByteArray:=if star22 s=true then s.extract 0 (s.size - 1) else s
theorem star22_eq {s:ByteArray} (h:0<s.size):decide (s.extract (s.size - 1) s.size=sStar)=star22 s:=by
 have h1:(s.extract (s.size - 1) s.size).data.toList=[byteAt s ((s.size:Int) - 1)]:=by
  have:=extract_one (s:=s) (j:=s.size - 1) (by omega)
  rw [show s.size - 1+1=s.size by omega,show ((s.size - 1:Nat):Int)=(s.size:Int) - 1 by omega] at this
  exact this
 unfold star22
 rw [decide_eq_decide]
 constructor
 ·intro e
  rw [e] at h1
  exact⟨h,(List.cons.inj h1).1.symm⟩
 ·rintro⟨-,e⟩
  rw [e] at h1
  exact ByteArray.ext (Array.ext' h1)
theorem siglum22_eq (s:ByteArray):(isNameB (bare1_22 s) && (!star22 s || decide ((s.size:Int)≤16)))=siglum22 s:=by
 unfold siglum22 bare1_22
 by_cases h:star22 s=true
 ·have h2:0<s.size∧byteAt s ((s.size:Int) - 1)=42:=by simpa [star22] using h
  rw [if_pos h,if_pos h2,h]
  rw [show decide ((s.size:Int)≤16)=decide (s.size≤16) from decide_eq_decide.2 (by omega)]
  rfl
 ·have h2:¬ (0<s.size∧byteAt s ((s.size:Int) - 1)=42):=by simpa [star22] using h
  rw [if_neg h,if_neg h2]
  simp [h]
theorem hasStar_spec (s:ByteArray) (hs:s.size≤9223372036854775807) (w:World):Spec Tryz.prog 191 [.string s, .string sStar] w (fun v R=>v = .bool (star22 s)∧R=[]):=by
 refine spec_of sg Tryz.func191 rfl rfl rfl ?_
 have e1:sStar.size=1:=rfl
 repeat' (first|refine d1 ?_|refine dd ?_|(show ∀ _:Nat,T _ _ _ _ _;intro _)|(show T _ (.code .ret::_) _ _ _;refine T_retV [] rfl (Hle.none _) ⟨congrArg Value.bool ?_,rfl⟩))
 rw [e1]
 by_cases h:0<s.size
 ·rw [show ((s.size:Int) - ((1:Nat):Int)).toNat=s.size - 1 by omega,Int.toNat_natCast,star22_eq h,decide_eq_true (by omega),Bool.true_and]
 ·rw [decide_eq_false (by omega),Bool.false_and]
  unfold star22
  rw [decide_eq_false (fun hh=>h hh.1)]
theorem cutStar1_spec (s:ByteArray) (hs:s.size≤9223372036854775807) (w:World):Spec Tryz.prog 155 [.string s, .string sStar] w (fun v R=>v = .tuple #[.string (bare1_22 s), .bool (star22 s)]∧R=[]):=by
 refine spec_of sg Tryz.func155 rfl rfl rfl ?_
 have e1:sStar.size=1:=rfl
 repeat' (first|refine d1 ?_|refine dd ?_|(show T _ (.ops _ (_::_)::_) _ _ _;first|refine T_call rfl rfl rfl rfl rfl (fun w hw=>hasStar_spec s hs w) ?_|refine T_callC rfl rfl rfl rfl rfl rfl rfl (fun hg w hw=>hasStar_spec s hs w) ?_)|(show T _ (.run _ _ (_::_) _ _::_) _ _ _;first|refine rc rfl rfl rfl rfl rfl rfl rfl (fun w hw=>hasStar_spec s hs w) ?_|refine rcG rfl rfl rfl rfl rfl rfl rfl rfl rfl (fun hg w hw=>hasStar_spec s hs w) ?_)|(show ∀ _:Nat,T _ _ _ _ _;intro _))
 refine T_if rfl (fun h=>?_) (fun h=>?_)
 ·simp only [Bool.not_eq_true'] at h
  repeat' (first|refine d1 ?_|refine dd ?_|(show ∀ _:Nat,T _ _ _ _ _;intro _)|(show T _ (.code .ret::_) _ _ _;refine T_retV [] rfl (Hle.none _) ⟨by unfold bare1_22;rw [h];rfl,rfl⟩))
 ·simp only [Bool.not_eq_false'] at h
  have h2:0<s.size:=by simp only [star22,decide_eq_true_eq] at h;exact h.1
  repeat' (first|refine d1 ?_|refine dd ?_|(show ∀ _:Nat,T _ _ _ _ _;intro _)|(show T _ (.code .ret::_) _ _ _;refine T_retV [] rfl (Hle.none _) ⟨by unfold bare1_22;rw [h,show ((s.size:Int) - (sStar.size:Int)).toNat=s.size - 1 by omega];rfl,rfl⟩))
theorem cutStar_spec (s:ByteArray) (hs:s.size≤9223372036854775807) (w:World):Spec Tryz.prog 120 [.string s, .string sStar] w (fun v R=>v = .tuple #[.string (bare1_22 s), .bool (star22 s)]∧R=[]):=by
 refine spec_of sg Tryz.func120 rfl rfl rfl ?_
 repeat' (first|refine d1 ?_|refine dd ?_|(show T _ (.ops _ (_::_)::_) _ _ _;first|refine T_call rfl rfl rfl rfl rfl (fun w hw=>cutStar1_spec s hs w) ?_|refine T_callC rfl rfl rfl rfl rfl rfl rfl (fun hg w hw=>cutStar1_spec s hs w) ?_)|(show T _ (.run _ _ (_::_) _ _::_) _ _ _;first|refine rc rfl rfl rfl rfl rfl rfl rfl (fun w hw=>cutStar1_spec s hs w) ?_|refine rcG rfl rfl rfl rfl rfl rfl rfl rfl rfl (fun hg w hw=>cutStar1_spec s hs w) ?_)|(show ∀ _:Nat,T _ _ _ _ _;intro _)|(show T _ (.code .ret::_) _ _ _;refine T_retV [] rfl (Hle.none _) ⟨rfl,rfl⟩))
theorem indexStr_spec (A:Option Addr) (n c:Nat) (l:List ByteArray) (x:ByteArray) (w:World) (hs:Src w 1 A n (l.map Value.string)) (hn:l.length=n) (hb:n≤9223372036854775807) :
  Spec Tryz.prog 121 [.slice A n c, .string x] w (fun v R=>v = .int .i64 (findI (fun y=>decide (x=y)) l)∧R=[]):=by
 refine spec_of sg Tryz.func121 rfl rfl rfl ?_
 repeat' (first|refine d1 ?_|refine dd ?_|(show ∀ _:Nat,T _ _ _ _ _;intro _))
 refine T_loopX (fun k:Nat=>[(8, .int .i64 k)]) (fun _=>[]) (fun k=>k≤n∧∀ i y,i<k→l[i]?=some y→decide (x=y)=false) (fun k=>n - k) 0 ⟨Nat.zero_le _,fun i y h=>by omega⟩ ?_
 rintro k ⟨hk,hok⟩
 repeat' (first|refine d1 ?_|refine dd ?_|(show ∀ _:Nat,T _ _ _ _ _;intro _))
 refine T_if rfl (fun h=>?_) (fun h=>?_)
 ·simp only [decide_eq_true_eq] at h
  have hkn:k<n:=by omega
  obtain⟨b,o,rfl⟩:=hs.base (by omega)
  obtain⟨y,hy⟩:∃ y,l[k]?=some y:=⟨_,List.getElem?_eq_getElem (by omega)⟩
  have hr:=src_str hs hkn hy
  repeat' (first|refine d1 ?_|refine dd ?_|(show ∀ _:Nat,T _ _ _ _ _;intro _))
  refine T_if rfl (fun h1=>?_) (fun h1=>?_)
  ·repeat' (first|refine d1 ?_|refine dd ?_|(show ∀ _:Nat,T _ _ _ _ _;intro _)|(show T _ (.code .ret::_) _ _ _;refine T_retV [] rfl (Hle.none _) ⟨congrArg (Value.int .i64) (findI_some hy h1 hok).symm,rfl⟩))
  ·repeat' (first|refine d1 ?_|refine dd ?_|(show ∀ _:Nat,T _ _ _ _ _;intro _))
   refine T_backX (k+1) ⟨by omega,fun i z hi hz=>?_⟩ (by omega)
   rcases Nat.lt_or_ge i k with h2|h2
   ·exact hok i z h2 hz
   ·rw [show i=k by omega,hy] at hz
    cases hz
    exact h1
 ·simp only [decide_eq_false_iff_not] at h
  repeat' (first|refine d1 ?_|refine dd ?_|(show ∀ _:Nat,T _ _ _ _ _;intro _)|(show T _ (.code .ret::_) _ _ _;refine T_retV [] rfl (Hle.none _) ⟨congrArg (Value.int .i64) (findI_none (fun i z hi=>hok i z (by have:=(List.getElem?_eq_some_iff.1 hi).1;omega) hi)).symm,rfl⟩))
theorem containsStr_spec (A:Option Addr) (n c:Nat) (l:List ByteArray) (x:ByteArray) (w:World) (hs:Src w 1 A n (l.map Value.string)) (hn:l.length=n) (hb:n≤9223372036854775807) :
  Spec Tryz.prog 85 [.slice A n c, .string x] w (fun v R=>v = .bool (has22 l x)∧R=[]):=by
 refine spec_of sg Tryz.func85 rfl rfl rfl ?_
 repeat' (first|refine d1 ?_|refine dd ?_|(show T _ (.ops _ (_::_)::_) _ _ _;first|refine T_call rfl rfl rfl rfl rfl (fun w hw=>indexStr_spec A n c l x w (rdSrc hs w hw) hn hb) ?_|refine T_callC rfl rfl rfl rfl rfl rfl rfl (fun hg w hw=>indexStr_spec A n c l x w (rdSrc hs w hw) hn hb) ?_)|(show T _ (.run _ _ (_::_) _ _::_) _ _ _;first|refine rc rfl rfl rfl rfl rfl rfl rfl (fun w hw=>indexStr_spec A n c l x w (rdSrc hs w hw) hn hb) ?_|refine rcG rfl rfl rfl rfl rfl rfl rfl rfl rfl (fun hg w hw=>indexStr_spec A n c l x w (rdSrc hs w hw) hn hb) ?_)|(show ∀ _:Nat,T _ _ _ _ _;intro _)|(show T _ (.code .ret::_) _ _ _;refine T_retV [] rfl (Hle.none _) ⟨congrArg Value.bool (findI_any _ l),rfl⟩))
theorem oneStr:∀ l:List ByteArray,oneCells (l.map Value.string)=true
 | []=>rfl
 | x::l=>by show (true && oneCells (l.map Value.string))=true;rw [oneStr l];rfl
theorem cloneStr_spec (A:Option Addr) (n c:Nat) (l:List ByteArray) (w:World) (hs:Src w 1 A n (l.map Value.string)) (hb:n≤1000000) :
  Spec Tryz.prog 51 [.slice A n c] w (fun v R=>∃ x:Option Addr × Nat,True∧v = .slice x.1 n x.2∧R=[row 9 1 x.1 x.2 n (l.map Value.string)]):=by
 refine spec_of sg Tryz.func51 rfl rfl rfl ?_
 repeat' (first|refine d1 ?_|refine dd ?_|(show T _ (.ops _ (_::_)::_) _ _ _;first|refine T_val rfl (Val.nilS rfl) rfl rfl rfl ?_|refine T_valC rfl (Val.nilS rfl) rfl rfl rfl rfl rfl ?_)|(show T _ (.run _ _ (_::_) _ _::_) _ _ _;first|refine rv rfl rfl rfl (Val.nilS rfl) rfl rfl rfl ?_|refine rg rfl rfl rfl (Val.nilS rfl) rfl rfl rfl rfl rfl ?_)|(show ∀ _:Nat,T _ _ _ _ _;intro _))
 refine T_if rfl (fun h=>?_) (fun h=>?_)
 ·obtain rfl:=isNone_true h
  obtain⟨rfl,e⟩:=src_none hs
  rw [e]
  repeat' (first|refine d1 ?_|refine dd ?_|(show ∀ _:Nat,T _ _ _ _ _;intro _))
  refine T_nilrow 9 1 ?_
  repeat' (first|refine d1 ?_|refine dd ?_|(show ∀ _:Nat,T _ _ _ _ _;intro _)|(show T _ (.code .ret::_) _ _ _;refine T_retV _ rfl Hle.sub ⟨(none,0),trivial,rfl,rfl⟩))
 ·repeat' (first|refine d1 ?_|(show ∀ _:Nat,T _ _ _ _ _;intro _))
  refine T_blk_rowh 1 0 rfl (by omega) ?_
  refine T_op (OpT.append rfl rfl rfl rfl rfl rfl rfl rfl rfl rfl (rdSrc hs) (oneStr l) (by dsimp only;omega) (by omega) (fun A' cap' hA'=>?_))
  rw [show 0+n=n by omega,show flatP []++(l.map Value.string)=(l.map Value.string) from rfl]
  repeat' (first|refine d1 ?_|refine dd ?_|(show ∀ _:Nat,T _ _ _ _ _;intro _)|(show T _ (.code .ret::_) _ _ _;refine T_retV _ rfl (Hle.refl _) ⟨(A',cap'),trivial,rfl,rfl⟩))
end Go.Proofs.YtbfcfpmholkmeaaGreatDoor
namespace Go.Proofs.YtbfcfpmholkmeaaGreatDoor

def volL:List Nat→Nat
 | []=>1
 | n::ls=>(n+1) * volL ls
def numL:List Nat→List Nat→Nat
 | _::ls,a::v=>a * volL ls+numL ls v
 | _,_=>0
def atL:List Nat→Nat→List Nat
 | [],_=>[]
 | n::ls,p=>(p / volL ls % (n+1))::atL ls p
def stpL:List Nat→Nat→Nat
 | [],_=>0
 | _::ls,0=>volL ls
 | _::ls,s+1=>stpL ls s
def InB:List Nat→List Nat→Prop
 | [],[]=>True
 | n::ls,a::v=>a≤n∧InB ls v
 | _,_=>False
theorem volL_pos:∀ ls:List Nat,0<volL ls
 | []=>Nat.one_pos
 | n::ls=>Nat.mul_pos (Nat.succ_pos n) (volL_pos ls)
theorem InB.len:∀ {ls v:List Nat},InB ls v→v.length=ls.length
 | [],[],_=>rfl
 | n::ls,a::v,h=>by simp [InB.len h.2]
 | [],a::v,h=>h.elim
 | n::ls,[],h=>h.elim
theorem numL_lt:∀ {ls v:List Nat},InB ls v→numL ls v<volL ls
 | [],[],_=>Nat.one_pos
 | n::ls,a::v,h=>by
  have h1:=numL_lt h.2
  have h2:a * volL ls≤n * volL ls:=Nat.mul_le_mul_right _ h.1
  have h3:(n+1) * volL ls=n * volL ls+volL ls:=by rw [Nat.add_mul,Nat.one_mul]
  show a * volL ls+numL ls v<(n+1) * volL ls
  omega
 | [],a::v,h=>h.elim
 | n::ls,[],h=>h.elim
theorem atL_mod:∀ (ls:List Nat) (p:Nat),atL ls (p % volL ls)=atL ls p
 | [],p=>rfl
 | n::ls,p=>by
  show (p % ((n+1) * volL ls) / volL ls % (n+1))::atL ls (p % ((n+1) * volL ls))=(p / volL ls % (n+1))::atL ls p
  have h1:p % ((n+1) * volL ls) / volL ls % (n+1)=p / volL ls % (n+1):=by
   rw [Nat.mod_mul_left_div_self,Nat.mod_mod]
  have h2:atL ls (p % ((n+1) * volL ls))=atL ls p:=by
   rw [← atL_mod ls (p % _), ← atL_mod ls p,Nat.mod_mul_left_mod]
  rw [h1,h2]
theorem atL_in:∀ (ls:List Nat) (p:Nat),InB ls (atL ls p)
 | [],_=>trivial
 | n::ls,p=>⟨Nat.le_of_lt_succ (Nat.mod_lt _ (Nat.succ_pos n)),atL_in ls p⟩
theorem atL_len (ls:List Nat) (p:Nat):(atL ls p).length=ls.length:=(atL_in ls p).len
theorem num_at:∀ (ls:List Nat) (p:Nat),p<volL ls→numL ls (atL ls p)=p
 | [],p,h=>by have:p<1:=h;show 0=p;omega
 | n::ls,p,h=>by
  show (p / volL ls % (n+1)) * volL ls+numL ls (atL ls p)=p
  have hp:=volL_pos ls
  have h1:p / volL ls<n+1:=(Nat.div_lt_iff_lt_mul hp).2 h
  rw [Nat.mod_eq_of_lt h1, ← atL_mod ls p,num_at ls _ (Nat.mod_lt _ hp)]
  exact Nat.div_add_mod' p (volL ls)
theorem at_num:∀ {ls v:List Nat},InB ls v→atL ls (numL ls v)=v
 | [],[],_=>rfl
 | n::ls,a::v,h=>by
  have hp:=volL_pos ls
  have h1:=numL_lt h.2
  show ((a * volL ls+numL ls v) / volL ls % (n+1))::atL ls (a * volL ls+numL ls v)=a::v
  have e1:(a * volL ls+numL ls v) / volL ls=a:=by
   rw [Nat.add_comm,Nat.add_mul_div_right _ _ hp,Nat.div_eq_of_lt h1,Nat.zero_add]
  have e2:(a * volL ls+numL ls v) % volL ls=numL ls v:=by
   rw [Nat.add_comm,Nat.add_mul_mod_self_right,Nat.mod_eq_of_lt h1]
  rw [e1,Nat.mod_eq_of_lt (Nat.lt_succ_of_le h.1), ← atL_mod ls (_+_),e2,at_num h.2]
 | [],a::v,h=>h.elim
 | n::ls,[],h=>h.elim
theorem atL_get:∀ {ls:List Nat} {s n:Nat} (p:Nat),ls[s]?=some n→(atL ls p)[s]?=some (p / stpL ls s % (n+1))
 | m::ls,0,n,p,h=>by
  simp at h;subst h;rfl
 | m::ls,s+1,n,p,h=>by
  have:=atL_get (ls:=ls) (s:=s) (n:=n) p (by simpa using h)
  simpa [atL,stpL] using this
theorem num_set:∀ {ls v:List Nat} {s:Nat},v.length=ls.length→s<v.length→numL ls (v.set s (v.getD s 0+1))=numL ls v+stpL ls s
 | n::ls,a::v,0,_,_=>by
  show (a+1) * volL ls+numL ls v=a * volL ls+numL ls v+volL ls
  rw [Nat.add_mul,Nat.one_mul];omega
 | n::ls,a::v,s+1,hl,hs=>by
  have:=num_set (ls:=ls) (v:=v) (s:=s) (by simpa using hl) (by simpa using hs)
  show a * volL ls+numL ls (v.set s ((a::v).getD (s+1) 0+1))=a * volL ls+numL ls v+stpL ls s
  rw [show (a::v).getD (s+1) 0=v.getD s 0 by simp,this];omega
 | [],a::v,s,hl,_=>by simp at hl
theorem num_all:∀ ls:List Nat,numL ls ls+1=volL ls
 | []=>rfl
 | n::ls=>by
  have:=num_all ls
  show n * volL ls+numL ls ls+1=(n+1) * volL ls
  rw [Nat.add_mul,Nat.one_mul];omega
theorem InB.self:∀ ls:List Nat,InB ls ls
 | []=>trivial
 | n::ls=>⟨Nat.le_refl n,InB.self ls⟩
theorem InB.get:∀ {ls v:List Nat},InB ls v→∀ s,v.getD s 0≤ls.getD s 0
 | [],[],_,s=>by simp
 | n::ls,a::v,h,0=>h.1
 | n::ls,a::v,h,s+1=>by simpa using InB.get h.2 s
 | [],a::v,h,_=>h.elim
 | n::ls,[],h,_=>h.elim
theorem InB.of:∀ {ls v:List Nat},v.length=ls.length→(∀ s,v.getD s 0≤ls.getD s 0)→InB ls v
 | [],[],_,_=>trivial
 | n::ls,a::v,hl,h=>⟨h 0,InB.of (by simpa using hl) fun s=>by simpa using h (s+1)⟩
 | [],a::v,hl,_=>by simp at hl
 | n::ls,[],hl,_=>by simp at hl
theorem InB.some:∀ {ls v:List Nat},InB ls v→v≠ls→∃ s,s<ls.length∧v.getD s 0<ls.getD s 0
 | [],[],_,h=>(h rfl).elim
 | n::ls,a::v,h,hne=>by
  by_cases e:a=n
  ·subst e
   obtain⟨s,h1,h2⟩:=InB.some h.2 (fun e2=>hne (by rw [e2]))
   exact⟨s+1,by simp;omega,by simpa using h2⟩
  ·exact⟨0,by simp,by have:=h.1;show a<n;omega⟩
 | [],a::v,h,_=>h.elim
 | n::ls,[],h,_=>h.elim
def sumL:List Nat→Nat
 | []=>0
 | n::ls=>n+sumL ls
theorem sumL_le:∀ {ls v:List Nat},InB ls v→sumL v≤sumL ls
 | [],[],_=>Nat.le_refl _
 | n::ls,a::v,h=>by have:=sumL_le h.2;have:=h.1;show a+sumL v≤n+sumL ls;omega
 | [],a::v,h=>h.elim
 | n::ls,[],h=>h.elim
theorem sumL_set:∀ {v:List Nat} {s:Nat},s<v.length→sumL (v.set s (v.getD s 0+1))=sumL v+1
 | a::v,0,_=>by show a+1+sumL v=a+sumL v+1;omega
 | a::v,s+1,h=>by
  have:=sumL_set (v:=v) (s:=s) (by simpa using h)
  show a+sumL (v.set s ((a::v).getD (s+1) 0+1))=a+sumL v+1
  rw [show (a::v).getD (s+1) 0=v.getD s 0 by simp,this];omega
def toM (v:List Nat):List Nat→List Nat
 | []=>v
 | s::m=>toM (v.set s (v.getD s 0+1)) m
theorem toM_len:∀ (m v:List Nat),(toM v m).length=v.length
 | [],v=>rfl
 | s::m,v=>by unfold toM;rw [toM_len m,List.length_set]
theorem set_other {v:List Nat} {s u x:Nat} (h:s≠u):(v.set s x).getD u 0=v.getD u 0:=by
 rw [List.getD_eq_getElem?_getD,List.getElem?_set_ne h, ← List.getD_eq_getElem?_getD]
theorem set_self {v:List Nat} {s x:Nat} (h:s<v.length):(v.set s x).getD s 0=x:=by
 rw [List.getD_eq_getElem?_getD,List.getElem?_set_self h];rfl
theorem toM_get:∀ (m v:List Nat),m.Nodup→(∀ s∈m,s<v.length)→∀ s,(toM v m).getD s 0=v.getD s 0+if s∈m then 1 else 0
 | [],v,_,_,s=>by simp [toM]
 | u::m,v,hd,hl,s=>by
  have hu:=List.nodup_cons.1 hd
  unfold toM
  rw [toM_get m _ hu.2 (fun s hs=>by rw [List.length_set];exact hl s (.tail _ hs)) s]
  by_cases e:u=s
  ·subst e
   rw [set_self (hl u (.head _)),if_neg hu.1,if_pos (.head _)]
  ·rw [set_other e]
   have:(s∈u::m)↔s∈m:=by rw [List.mem_cons];exact⟨fun h=>h.resolve_left (fun h=>e h.symm), .inr⟩
   simp only [this]
theorem toM_num:∀ (ls m v:List Nat),v.length=ls.length→(∀ s∈m,s<v.length)→numL ls (toM v m)=numL ls v+(m.map (stpL ls)).sum
 | ls,[],v,_,_=>by simp [toM]
 | ls,s::m,v,hl,hm=>by
  unfold toM
  rw [toM_num ls m _ (by rw [List.length_set];exact hl) (fun s hs=>by rw [List.length_set];exact hm s (.tail _ hs)),num_set hl (hm s (.head _)),List.map_cons,List.sum_cons]
  omega
theorem toM_sum:∀ (m v:List Nat),(∀ s∈m,s<v.length)→sumL (toM v m)=sumL v+m.length
 | [],v,_=>by simp [toM]
 | s::m,v,hm=>by
  unfold toM
  rw [toM_sum m _ (fun s hs=>by rw [List.length_set];exact hm s (.tail _ hs)),sumL_set (hm s (.head _)),List.length_cons]
  omega
theorem toM_in {ls v m:List Nat} (h:InB ls v) (hd:m.Nodup) (hm:∀ s∈m,s<ls.length∧v.getD s 0<ls.getD s 0):InB ls (toM v m):=by
 have hlen:=h.len
 refine InB.of (by rw [toM_len,hlen]) fun s=>?_
 rw [toM_get m v hd (fun s hs=>by rw [hlen];exact (hm s hs).1) s]
 have h1:=h.get s
 split
 ·rename_i hs;have:=(hm s hs).2;omega
 ·omega
end Go.Proofs.YtbfcfpmholkmeaaGreatDoor
namespace Go.Proofs.YtbfcfpmholkmeaaGreatDoor

def possM (ls v m:List Nat):Bool:=m.all fun s=>decide (v.getD s 0<ls.getD s 0)
theorem possM_iff {ls v m:List Nat}:possM ls v m=true↔∀ s∈m,v.getD s 0<ls.getD s 0:=by unfold possM;rw [List.all_eq_true];simp
def colMv (v:List Nat):List Nat→List Int→List Int
 | [],c=>c
 | s::m,c=>colMv v m (c.set s (v.getD s 0:Nat))
def colT (v m:List Nat):List Int:=colMv v m (List.replicate v.length (-1))
theorem colMv_len (v:List Nat):∀ (m:List Nat) (c:List Int),(colMv v m c).length=c.length
 | [],c=>rfl
 | s::m,c=>by unfold colMv;rw [colMv_len v m,List.length_set]
theorem colT_len (v m:List Nat):(colT v m).length=v.length:=by unfold colT;rw [colMv_len,List.length_replicate]
theorem colMv_get (v:List Nat):∀ (m:List Nat) (c:List Int) (s:Nat),s<c.length→(colMv v m c).getD s (-1)=if s∈m then ((v.getD s 0:Nat):Int) else c.getD s (-1)
 | [],c,s,_=>by simp [colMv]
 | u::m,c,s,h=>by
  unfold colMv
  rw [colMv_get v m _ s (by rw [List.length_set];exact h)]
  by_cases h1:s∈m
  ·rw [if_pos h1,if_pos (List.mem_cons_of_mem _ h1)]
  ·rw [if_neg h1]
   by_cases e:u=s
   ·subst e
    rw [if_pos List.mem_cons_self,List.getD_eq_getElem?_getD,List.getElem?_set_self h];rfl
   ·rw [if_neg (by rw [List.mem_cons];rintro (h|h);exact e h.symm;exact h1 h),List.getD_eq_getElem?_getD,List.getElem?_set_ne e, ← List.getD_eq_getElem?_getD]
theorem colT_get {v m:List Nat} {s:Nat} (h:s<v.length):(colT v m).getD s (-1)=if s∈m then ((v.getD s 0:Nat):Int) else -1:=by
 unfold colT
 rw [colMv_get v m _ s (by rw [List.length_replicate];exact h)]
 simp [List.getD_eq_getElem?_getD,List.getElem?_replicate,h]
structure MvsOk (n:Nat) (Ms:List (List Nat)):Prop where
 nd:∀ m∈Ms,m.Nodup
 lt:∀ m∈Ms,∀ s∈m,s<n
 ne:∀ m∈Ms,m≠[]
 one:∀ s,s<n→[s]∈Ms
def foldB (p:List Nat→Bool) (f:List Nat→Int):List (List Nat)→Int→Int
 | [],a=>a
 | m::ms,a=>foldB p f ms (cond (p m) (bst a (f m)) a)
theorem foldB_app (p:List Nat→Bool) (f:List Nat→Int):∀ (ms ks:List (List Nat)) (a:Int),foldB p f (ms++ks) a=foldB p f ks (foldB p f ms a)
 | [],ks,a=>rfl
 | m::ms,ks,a=>foldB_app p f ms ks _
theorem foldB_congr {p:List Nat→Bool} {f g:List Nat→Int}:∀ {ms:List (List Nat)} {a:Int},(∀ m∈ms,p m=true→f m=g m)→foldB p f ms a=foldB p g ms a
 | [],a,_=>rfl
 | m::ms,a,h=>by
  show foldB p f ms _=foldB p g ms _
  rw [foldB_congr (a:=cond (p m) (bst a (f m)) a) fun k hk=>h k (.tail _ hk)]
  cases hp:p m with
  | true=>rw [h m (.head _) hp]
  | false=>rfl
theorem foldB_none {p:List Nat→Bool} {f:List Nat→Int}:∀ {ms:List (List Nat)} {a:Int},(∀ m∈ms,p m=false)→foldB p f ms a=a
 | [],a,_=>rfl
 | m::ms,a,h=>by
  show foldB p f ms (cond (p m) _ _)=a
  rw [h m (.head _)]
  exact foldB_none fun k hk=>h k (.tail _ hk)
theorem bst_le {a x:Int}:(0≤a→bst a x≤a)∧bst a x≤max a x:=by unfold bst;split <;> omega
theorem foldB_spec {p:List Nat→Bool} {f:List Nat→Int} (hf:∀ m,0≤f m):∀ (ms:List (List Nat)) (a:Int),-1≤a → -1≤foldB p f ms a∧(0≤a→0≤foldB p f ms a∧foldB p f ms a≤a)∧(∀ m∈ms,p m=true→0≤foldB p f ms a∧foldB p f ms a≤f m)∧(foldB p f ms a=a∨∃ m∈ms,p m=true∧foldB p f ms a=f m)
 | [],a,ha=>⟨ha,fun h=>⟨h,Int.le_refl _⟩,fun m hm=>(by cases hm), .inl rfl⟩
 | m::ms,a,ha=>by
  have hfm:=hf m
  have hb : -1≤bst a (f m)∧0≤bst a (f m)∧bst a (f m)≤f m∧(0≤a→bst a (f m)≤a)∧(bst a (f m)=a∨bst a (f m)=f m):=by unfold bst;split <;> omega
  show -1≤foldB p f ms (cond (p m) (bst a (f m)) a)∧(0≤a→0≤foldB p f ms (cond (p m) (bst a (f m)) a)∧foldB p f ms (cond (p m) (bst a (f m)) a)≤a)∧(∀ k∈m::ms,p k=true→0≤foldB p f ms (cond (p m) (bst a (f m)) a)∧foldB p f ms (cond (p m) (bst a (f m)) a)≤f k)∧(foldB p f ms (cond (p m) (bst a (f m)) a)=a∨∃ k∈m::ms,p k=true∧foldB p f ms (cond (p m) (bst a (f m)) a)=f k)
  cases hp:p m with
  | false =>
   obtain⟨h1,h2,h3,h4⟩:=foldB_spec hf ms a ha
   refine ⟨h1,h2,fun k hk hpk=>?_,h4.imp id fun⟨k,hk,h5⟩=>⟨k, .tail _ hk,h5⟩⟩
   rcases List.mem_cons.1 hk with rfl|hk
   ·rw [hp] at hpk;cases hpk
   ·exact h3 k hk hpk
  | true =>
   obtain⟨h1,h2,h3,h4⟩:=foldB_spec hf ms (bst a (f m)) hb.1
   have h5:=h2 hb.2.1
   refine ⟨h1,fun h=>⟨h5.1,Int.le_trans h5.2 (hb.2.2.2.1 h)⟩,fun k hk hpk=>?_,?_⟩
   ·rcases List.mem_cons.1 hk with rfl|hk
    ·exact⟨h5.1,Int.le_trans h5.2 hb.2.2.1⟩
    ·exact h3 k hk hpk
   ·rcases h4 with h4|⟨k,hk,h6⟩
    ·rcases hb.2.2.2.2 with h7|h7
     ·exact .inl (h4.trans h7)
     ·exact .inr ⟨m, .head _,hp,h4.trans h7⟩
    ·exact .inr ⟨k, .tail _ hk,h6⟩
def rsM (K:List Int→Int) (ls:List Nat) (Ms:List (List Nat)):Nat→List Nat→Int
 | 0,_=>0
 | f+1,v=>max (foldB (possM ls v) (fun m=>K (colT v m)+rsM K ls Ms f (toM v m)) Ms (-1)) 0
def rsV (K:List Int→Int) (ls:List Nat) (Ms:List (List Nat)) (v:List Nat):Int:=rsM K ls Ms (sumL ls - sumL v) v
theorem rsM_nn (K:List Int→Int) (ls:List Nat) (Ms:List (List Nat)):∀ f v,0≤rsM K ls Ms f v
 | 0,_=>Int.le_refl _
 | f+1,v=>by unfold rsM;omega
theorem toM_rem {ls v m:List Nat} {n:Nat} {Ms:List (List Nat)} (hM:MvsOk n Ms) (hn:ls.length=n) (hv:InB ls v) (hm:m∈Ms) (hp:possM ls v m=true):InB ls (toM v m)∧sumL v+m.length=sumL (toM v m)∧0<m.length∧sumL (toM v m)≤sumL ls:=by
 have h1:=hM.lt m hm
 have h2:=possM_iff.1 hp
 have hi:=toM_in hv (hM.nd m hm) fun s hs=>⟨by rw [hn];exact h1 s hs,h2 s hs⟩
 exact⟨hi,(toM_sum m v fun s hs=>by rw [hv.len,hn];exact h1 s hs).symm,List.length_pos_iff.2 (hM.ne m hm),sumL_le hi⟩
theorem rsM_fuel (K:List Int→Int) {ls:List Nat} {n:Nat} {Ms:List (List Nat)} (hM:MvsOk n Ms) (hn:ls.length=n):∀ f v,InB ls v→sumL ls - sumL v≤f→∀ g,sumL ls - sumL v≤g→rsM K ls Ms f v=rsM K ls Ms g v:=by
 have none0:∀ v,InB ls v→sumL ls - sumL v=0→∀ m∈Ms,possM ls v m=false:=fun v hv h0 m hm=>by
  cases hp:possM ls v m with
  | false=>rfl
  | true =>
   obtain⟨h1,h2,h3,h4⟩:=toM_rem hM hn hv hm hp
   omega
 intro f
 induction f with
 | zero =>
  intro v hv h0 g hg
  cases g with
  | zero=>rfl
  | succ g =>
   show 0=max (foldB _ _ Ms (-1)) 0
   rw [foldB_none (none0 v hv (by omega))];rfl
 | succ f ih =>
  intro v hv hf g hg
  cases g with
  | zero =>
   show max (foldB _ _ Ms (-1)) 0=0
   rw [foldB_none (none0 v hv (by omega))];rfl
  | succ g =>
   show max (foldB _ _ Ms (-1)) 0=max (foldB _ _ Ms (-1)) 0
   rw [foldB_congr fun m hm hp=>?_]
   obtain⟨h1,h2,h3,h4⟩:=toM_rem hM hn hv hm hp
   rw [ih (toM v m) h1 (by omega) g (by omega)]
theorem rsV_nn (K:List Int→Int) (ls:List Nat) (Ms:List (List Nat)) (v:List Nat):0≤rsV K ls Ms v:=rsM_nn _ _ _ _ _
theorem rsV_end (K:List Int→Int) (ls:List Nat) (Ms:List (List Nat)):rsV K ls Ms ls=0:=by unfold rsV;rw [Nat.sub_self];rfl
theorem eq_of_sum:∀ {ls v:List Nat},InB ls v→sumL ls≤sumL v→v=ls
 | [],[],_,_=>rfl
 | n::ls,a::v,h,hs=>by
  have h1:=sumL_le h.2
  have h2:=h.1
  have h3:n+sumL ls≤a+sumL v:=hs
  rw [eq_of_sum h.2 (by omega),show a=n by omega]
 | [],a::v,h,_=>h.elim
 | n::ls,[],h,_=>h.elim
def mcV (K:List Int→Int) (ls:List Nat) (Ms:List (List Nat)) (v m:List Nat):Int:=K (colT v m)+rsV K ls Ms (toM v m)
theorem rsV_step {K:List Int→Int} (hK:∀ x,0≤K x) {ls:List Nat} {n:Nat} {Ms:List (List Nat)} (hM:MvsOk n Ms) (hn:ls.length=n) {v:List Nat} (hv:InB ls v) (hne:v≠ls) :
  rsV K ls Ms v=foldB (possM ls v) (mcV K ls Ms v) Ms (-1):=by
 have hs:sumL v<sumL ls:=Nat.lt_of_not_le fun h=>hne (eq_of_sum hv h)
 obtain⟨f,hf⟩:∃ f,sumL ls - sumL v=f+1:=⟨sumL ls - sumL v - 1,by omega⟩
 unfold rsV
 rw [hf]
 show max (foldB _ _ Ms (-1)) 0=_
 rw [foldB_congr (g:=mcV K ls Ms v) fun m hm hp=>?_]
 ·obtain⟨s,hs1,hs2⟩:=hv.some hne
  have h0:∀ m,0≤mcV K ls Ms v m:=fun m=>by have:=hK (colT v m);have:=rsV_nn K ls Ms (toM v m);unfold mcV;omega
  have:=((foldB_spec (p:=possM ls v) h0 Ms (-1) (by omega)).2.2.1 [s] (hM.one s (by omega)) (possM_iff.2 fun u hu=>by rw [List.mem_singleton] at hu;subst hu;exact hs2)).1
  omega
 ·obtain⟨h1,h2,h3,h4⟩:=toM_rem hM hn hv hm hp
  show K (colT v m)+_=K (colT v m)+rsM K ls Ms (sumL ls - sumL (toM v m)) (toM v m)
  rw [rsM_fuel K hM hn f (toM v m) h1 (by omega) (sumL ls - sumL (toM v m)) (by omega)]
theorem mcV_nn {K:List Int→Int} (hK:∀ x,0≤K x) (ls:List Nat) (Ms:List (List Nat)) (v m:List Nat):0≤mcV K ls Ms v m:=by
 have:=hK (colT v m);have:=rsV_nn K ls Ms (toM v m);unfold mcV;omega
def fitM (K:List Int→Int) (ls:List Nat) (Ms:List (List Nat)) (v m:List Nat):Bool:=possM ls v m && decide (mcV K ls Ms v m=rsV K ls Ms v)
def alM (K:List Int→Int) (ls:List Nat) (Ms:List (List Nat)):Nat→List Nat→List (List Int)
 | 0,_=>[]
 | f+1,v=>match Ms.find? (fitM K ls Ms v) with
  | some m=>colT v m::alM K ls Ms f (toM v m)
  | none=>[]
def alV19 (K:List Int→Int) (ls:List Nat) (Ms:List (List Nat)) (v:List Nat):List (List Int):=alM K ls Ms (sumL ls - sumL v) v
theorem fit_some {K:List Int→Int} (hK:∀ x,0≤K x) {ls:List Nat} {n:Nat} {Ms:List (List Nat)} (hM:MvsOk n Ms) (hn:ls.length=n) {v:List Nat} (hv:InB ls v) (hne:v≠ls) :
  ∃ m,Ms.find? (fitM K ls Ms v)=some m∧m∈Ms∧possM ls v m=true∧mcV K ls Ms v m=rsV K ls Ms v:=by
 have hst:=rsV_step hK hM hn hv hne
 obtain⟨s,hs1,hs2⟩:=hv.some hne
 have h0:=mcV_nn hK ls Ms v
 obtain⟨-,-,h3,h4⟩:=foldB_spec (p:=possM ls v) h0 Ms (-1) (by omega)
 have h5:=(h3 [s] (hM.one s (by omega)) (possM_iff.2 fun u hu=>by rw [List.mem_singleton] at hu;subst hu;exact hs2)).1
 rcases h4 with h4|⟨m,hm,hp,he⟩
 ·omega
 ·have hfit:fitM K ls Ms v m=true:=by unfold fitM;rw [hp,hst,he];simp
  cases hf:Ms.find? (fitM K ls Ms v) with
  | none=>exact absurd hfit (by have:=List.find?_eq_none.1 hf m hm;simpa using this)
  | some k =>
   have h6:=List.find?_some hf
   unfold fitM at h6
   rw [Bool.and_eq_true,decide_eq_true_eq] at h6
   exact⟨k,rfl,List.mem_of_find?_eq_some hf,h6.1,h6.2⟩
theorem alM_fuel (K:List Int→Int) {ls:List Nat} {n:Nat} {Ms:List (List Nat)} (hM:MvsOk n Ms) (hn:ls.length=n):∀ f v,InB ls v→sumL ls - sumL v≤f→∀ g,sumL ls - sumL v≤g→alM K ls Ms f v=alM K ls Ms g v:=by
 have none0:∀ v,InB ls v→sumL ls - sumL v=0→∀ m∈Ms,fitM K ls Ms v m=false:=fun v hv h0 m hm=>by
  cases hp:fitM K ls Ms v m with
  | false=>rfl
  | true =>
   unfold fitM at hp
   rw [Bool.and_eq_true] at hp
   obtain⟨h1,h2,h3,h4⟩:=toM_rem hM hn hv hm hp.1
   omega
 have nf:∀ v,InB ls v→sumL ls - sumL v=0→Ms.find? (fitM K ls Ms v)=none:=fun v hv h0=>List.find?_eq_none.2 fun m hm=>by rw [none0 v hv h0 m hm];simp
 intro f
 induction f with
 | zero =>
  intro v hv h0 g hg
  cases g with
  | zero=>rfl
  | succ g=>unfold alM;rw [nf v hv (by omega)]
 | succ f ih =>
  intro v hv hf g hg
  cases g with
  | zero=>unfold alM;rw [nf v hv (by omega)]
  | succ g =>
   unfold alM
   cases hF:Ms.find? (fitM K ls Ms v) with
   | none=>rfl
   | some m =>
    have h6:=List.find?_some hF
    unfold fitM at h6
    rw [Bool.and_eq_true] at h6
    obtain⟨h1,h2,h3,h4⟩:=toM_rem hM hn hv (List.mem_of_find?_eq_some hF) h6.1
    simp only
    rw [ih (toM v m) h1 (by omega) g (by omega)]
theorem alV_step {K:List Int→Int} {ls:List Nat} {n:Nat} {Ms:List (List Nat)} (hM:MvsOk n Ms) (hn:ls.length=n) {v m:List Nat} (hv:InB ls v) (hf:Ms.find? (fitM K ls Ms v)=some m):alV19 K ls Ms v=colT v m::alV19 K ls Ms (toM v m):=by
 have h6:=List.find?_some hf
 unfold fitM at h6
 rw [Bool.and_eq_true] at h6
 obtain⟨h1,h2,h3,h4⟩:=toM_rem hM hn hv (List.mem_of_find?_eq_some hf) h6.1
 obtain⟨f,hf2⟩:∃ f,sumL ls - sumL v=f+1:=⟨sumL ls - sumL v - 1,by omega⟩
 unfold alV19
 rw [hf2,alM,hf]
 simp only
 rw [alM_fuel K hM hn f (toM v m) h1 (by omega) (sumL ls - sumL (toM v m)) (by omega)]
theorem alV_end (K:List Int→Int) (ls:List Nat) (Ms:List (List Nat)):alV19 K ls Ms ls=[]:=by unfold alV19;rw [Nat.sub_self];rfl
def RestOk (ls v:List Nat) (cols:List (List Int)):Prop:=(∀ x∈cols,x.length=ls.length)∧(∀ x∈cols,∃ z∈x,z ≠ -1)∧∀ s n,ls[s]?=some n→srcC cols s=(upto n).drop (v.getD s 0)
theorem RestOk.cons {ls v m:List Nat} {cols:List (List Int)} (hv:InB ls v) (hm:m≠[]) (hd:m.Nodup) (hlt:∀ s∈m,s<ls.length) (hp:possM ls v m=true) (h:RestOk ls (toM v m) cols):RestOk ls v (colT v m::cols):=by
 have hlen:=hv.len
 obtain⟨h1,h2,h3⟩:=h
 refine ⟨fun x hx=>?_,fun x hx=>?_,fun s n hs=>?_⟩
 ·rcases List.mem_cons.1 hx with rfl|hx
  ·rw [colT_len,hlen]
  ·exact h1 x hx
 ·rcases List.mem_cons.1 hx with rfl|hx
  ·obtain⟨s,ms,rfl⟩:=List.exists_cons_of_ne_nil hm
   have hs:s<v.length:=by rw [hlen];exact hlt s (.head _)
   have hg:=colT_get (m:=s::ms) hs
   rw [if_pos List.mem_cons_self] at hg
   refine ⟨_,?_,show ((v.getD s 0:Nat):Int) ≠ -1 by omega⟩
   rw [← hg,List.getD_eq_getElem?_getD,List.getElem?_eq_getElem (by rw [colT_len];exact hs)]
   exact List.getElem_mem _
  ·exact h2 x hx
 ·have hsl:s<ls.length:=(List.getElem?_eq_some_iff.1 hs).1
  rw [srcC_cons,h3 s n hs,colT_get (by rw [hlen];exact hsl),toM_get m v hd (fun u hu=>by rw [hlen];exact hlt u hu)]
  by_cases hsm:s∈m
  ·rw [if_pos hsm,if_pos hsm,if_neg (by omega)]
   have:=possM_iff.1 hp s hsm
   rw [List.getD_eq_getElem?_getD (l:=ls),hs] at this
   rw [upto_drop (show v.getD s 0<n from this)];rfl
  ·rw [if_neg hsm,if_neg hsm,if_pos rfl];rfl
theorem RestOk.nil (ls:List Nat):RestOk ls ls []:=⟨fun x h=>(by cases h),fun x h=>(by cases h),fun s n hs=>by
 rw [List.getD_eq_getElem?_getD,hs]
 show []=(upto n).drop n
 rw [List.drop_of_length_le (by rw [upto_len];exact Nat.le_refl _)]⟩
theorem InB.zero:∀ ls:List Nat,InB ls (List.replicate ls.length 0)
 | []=>trivial
 | n::ls=>⟨Nat.zero_le _,InB.zero ls⟩
end Go.Proofs.YtbfcfpmholkmeaaGreatDoor
namespace Go.Proofs.YtbfcfpmholkmeaaGreatDoor

def mvOfC (x:List Int):List Nat:=(List.range x.length).filter fun s=>decide (x.getD s (-1) ≠ -1)
theorem mvOfC_mem {x:List Int} {s:Nat}:s∈mvOfC x↔s<x.length∧x.getD s (-1) ≠ -1:=by
 unfold mvOfC;rw [List.mem_filter,List.mem_range];simp
theorem mvOfC_asc (x:List Int):(mvOfC x).Pairwise (· < ·):=(List.pairwise_lt_range).filter _
theorem asc_nodup {m:List Nat} (h:m.Pairwise (· < ·)):m.Nodup:=h.imp fun h=>Nat.ne_of_lt h
theorem ext_getD {a b:List Int} (hl:a.length=b.length) (h:∀ s,s<a.length→a.getD s (-1)=b.getD s (-1)):a=b:=by
 refine List.ext_getElem? fun s=>?_
 by_cases hs:s<a.length
 ·have:=h s hs
  rw [List.getD_eq_getElem?_getD,List.getD_eq_getElem?_getD,List.getElem?_eq_getElem hs,List.getElem?_eq_getElem (hl ▸ hs)] at this
  rw [List.getElem?_eq_getElem hs,List.getElem?_eq_getElem (hl ▸ hs)]
  exact congrArg some this
 ·rw [List.getElem?_eq_none (by omega),List.getElem?_eq_none (by omega)]
theorem drop_cons {n p:Nat} {z:Int} {r:List Int} (h:z::r=(upto n).drop p):p<n∧z=(p:Int)∧r=(upto n).drop (p+1):=by
 by_cases hp:p<n
 ·rw [upto_drop hp] at h
  cases h
  exact⟨hp,rfl,rfl⟩
 ·rw [List.drop_of_length_le (by rw [upto_len];omega)] at h
  cases h
theorem RestOk.step {ls v:List Nat} {x:List Int} {cols:List (List Int)} (hv:InB ls v) (h:RestOk ls v (x::cols)) :
  x=colT v (mvOfC x)∧possM ls v (mvOfC x)=true∧mvOfC x≠[]∧(∀ s∈mvOfC x,s<ls.length)∧RestOk ls (toM v (mvOfC x)) cols:=by
 have hlen:=hv.len
 obtain⟨h1,h2,h3⟩:=h
 have hx:=h1 x (.head _)
 have hmem:∀ s,s∈mvOfC x↔s<x.length∧x.getD s (-1) ≠ -1:=fun s=>mvOfC_mem
 have hent:∀ s,s<ls.length→x.getD s (-1) ≠ -1→v.getD s 0<ls.getD s 0∧x.getD s (-1)=((v.getD s 0:Nat):Int)∧srcC cols s=(upto (ls.getD s 0)).drop (v.getD s 0+1):=fun s hs hne=>by
  have h4:=h3 s _ (List.getElem?_eq_getElem hs)
  rw [srcC_cons,if_neg hne] at h4
  have e:ls.getD s 0=ls[s]:=by rw [List.getD_eq_getElem?_getD,List.getElem?_eq_getElem hs];rfl
  rw [e]
  exact drop_cons h4
 have hlt:∀ s∈mvOfC x,s<ls.length:=fun s hs=>by rw [← hx];exact (hmem s).1 hs |>.1
 have hp:possM ls v (mvOfC x)=true:=possM_iff.2 fun s hs=>(hent s (hlt s hs) ((hmem s).1 hs).2).1
 have hxe:x=colT v (mvOfC x):=ext_getD (by rw [colT_len,hlen,hx]) fun s hs=>by
  rw [colT_get (by omega)]
  by_cases hne:x.getD s (-1) = -1
  ·rw [if_neg (fun hm=>((hmem s).1 hm).2 hne),hne]
  ·rw [if_pos ((hmem s).2 ⟨hs,hne⟩)]
   exact (hent s (by omega) hne).2.1
 refine ⟨hxe,hp,?_,hlt,fun y hy=>h1 y (.tail _ hy),fun y hy=>h2 y (.tail _ hy),fun s n hs=>?_⟩
 ·obtain⟨z,hz,hz2⟩:=h2 x (.head _)
  obtain⟨s,hs,rfl⟩:=List.getElem_of_mem hz
  have:s∈mvOfC x:=(hmem s).2 ⟨hs,by rw [List.getD_eq_getElem?_getD,List.getElem?_eq_getElem hs];exact hz2⟩
  exact List.ne_nil_of_mem this
 ·have hsl:s<ls.length:=(List.getElem?_eq_some_iff.1 hs).1
  have e:ls.getD s 0=n:=by rw [List.getD_eq_getElem?_getD,hs];rfl
  rw [toM_get _ v (asc_nodup (mvOfC_asc x)) (fun u hu=>by rw [hlen];exact hlt u hu)]
  have h4:=h3 s n hs
  rw [srcC_cons] at h4
  by_cases hne:x.getD s (-1) = -1
  ·rw [if_pos hne] at h4
   rw [if_neg (fun hm=>((hmem s).1 hm).2 hne)]
   exact h4
  ·rw [if_pos ((hmem s).2 ⟨by omega,hne⟩)]
   have:=(hent s hsl hne).2.2
   rw [e] at this
   exact this
def mvL:Nat→List (List Nat)
 | 1=>[[0]]
 | 2=>[[0,1],[0],[1]]
 | 3=>[[0,1,2],[0,1],[0,2],[1,2],[0],[1],[2]]
 | 4=>[[0,1,2,3],[0,1,2],[0,1,3],[0,2,3],[1,2,3],[0,1],[0,2],[0,3],[1,2],[1,3],[2,3],[0],[1],[2],[3]]
 | _=>[]
theorem mvL_ok {n:Nat} (h1:1≤n) (h4:n≤4):MvsOk n (mvL n):=by
 obtain rfl|rfl|rfl|rfl:n=1∨n=2∨n=3∨n=4:=by omega
 all_goals exact⟨by decide,by decide,by decide,by decide⟩
end Go.Proofs.YtbfcfpmholkmeaaGreatDoor
namespace Go.Proofs.YtbfcfpmholkmeaaGreatDoor

def cmpL:List Nat→List Nat→Int
 | [],[]=>0
 | [],_::_ => -1
 | _::_,[]=>1
 | a::p,b::q=>if a<b then -1 else if b<a then 1 else cmpL p q
theorem cmpL_self:∀ a:List Nat,cmpL a a=0
 | []=>rfl
 | a::p=>by unfold cmpL;rw [if_neg (Nat.lt_irrefl a),if_neg (Nat.lt_irrefl a),cmpL_self p]
theorem cmpL_zero:∀ {a b:List Nat},cmpL a b=0→a=b
 | [],[],_=>rfl
 | [],_::_,h=>by cases h
 | _::_,[],h=>by cases h
 | a::p,b::q,h=>by
  unfold cmpL at h
  split at h
  ·cases h
  ·split at h
   ·cases h
   ·rw [show a=b by omega,cmpL_zero h]
theorem cmpL_neg:∀ a b:List Nat,cmpL a b = -cmpL b a
 | [],[]=>rfl
 | [],_::_=>rfl
 | _::_,[]=>rfl
 | a::p,b::q=>by
  have ih:=cmpL_neg p q
  unfold cmpL
  by_cases h1:a<b
  ·rw [if_pos h1,if_neg (by omega),if_pos h1]
  ·by_cases h2:b<a
   ·rw [if_neg h1,if_pos h2,if_pos h2];rfl
   ·rw [if_neg h1,if_neg h2,if_neg h2,if_neg h1,ih]
theorem cmpL_trans:∀ {a b c:List Nat},cmpL a b<0→cmpL b c<0→cmpL a c<0
 | [],[],_,h,_=>by simp [cmpL] at h
 | [],_::_,[],_,h=>by simp [cmpL] at h
 | [],_::_,_::_,_,_=>by simp [cmpL]
 | _::_,[],_,h,_=>by simp [cmpL] at h
 | _::_,_::_,[],_,h=>by simp [cmpL] at h
 | a::p,b::q,c::r,h1,h2=>by
  have ih:=@cmpL_trans p q r
  unfold cmpL at h1 h2 ⊢
  by_cases ab:a<b
  ·by_cases bc:b<c
   ·rw [if_pos (by omega)];omega
   ·rw [if_neg bc] at h2
    by_cases cb:c<b
    ·rw [if_pos cb] at h2;omega
    ·rw [if_pos (by omega)];omega
  ·rw [if_neg ab] at h1
   by_cases ba:b<a
   ·rw [if_pos ba] at h1;omega
   ·rw [if_neg ba] at h1
    by_cases bc:b<c
    ·rw [if_pos (by omega)];omega
    ·rw [if_neg bc] at h2
     by_cases cb:c<b
     ·rw [if_pos cb] at h2;omega
     ·rw [if_neg cb] at h2
      rw [if_neg (by omega),if_neg (by omega)]
      exact ih h1 h2
def cmpM (a b:List Nat):Int:=if a.length≠b.length then (b.length:Int) - a.length else cmpL a b
theorem cmpM_self (a:List Nat):cmpM a a=0:=by unfold cmpM;rw [if_neg (by simp),cmpL_self]
theorem cmpM_neg (a b:List Nat):cmpM a b = -cmpM b a:=by
 unfold cmpM
 by_cases h:a.length=b.length
 ·rw [if_neg (by simpa using h),if_neg (by simpa using h.symm),cmpL_neg]
 ·rw [if_pos h,if_pos (fun e=>h e.symm)];omega
theorem cmpM_zero {a b:List Nat} (h:cmpM a b=0):a=b:=by
 unfold cmpM at h
 by_cases e:a.length=b.length
 ·rw [if_neg (by simpa using e)] at h;exact cmpL_zero h
 ·rw [if_pos e] at h;omega
theorem cmpM_trans {a b c:List Nat} (h1:cmpM a b<0) (h2:cmpM b c<0):cmpM a c<0:=by
 unfold cmpM at h1 h2 ⊢
 by_cases ab:a.length=b.length
 ·rw [if_neg (by simpa using ab)] at h1
  by_cases bc:b.length=c.length
  ·rw [if_neg (by simpa using bc)] at h2
   rw [if_neg (by simp;omega)]
   exact cmpL_trans h1 h2
  ·rw [if_pos bc] at h2
   rw [if_pos (by omega)];omega
 ·rw [if_pos ab] at h1
  by_cases bc:b.length=c.length
  ·rw [if_pos (by omega)];omega
  ·rw [if_pos bc] at h2
   rw [if_pos (by omega)];omega
def bitsL (n q:Nat):List Nat:=(List.range n).filter fun s=>q.testBit s
def allL (n:Nat):List (List Nat):=((List.range (2 ^ n)).map (bitsL n)).filter fun m => !m.isEmpty
def ascM:List (List Nat)→Bool
 | []=>true
 | [_]=>true
 | a::b::l=>decide (cmpM a b<0) && ascM (b::l)
theorem mvL_cmp:∀ n,ascM (mvL n)=true
 | 0=>rfl
 | 1=>rfl
 | 2=>by decide
 | 3=>by decide
 | 4=>by decide
 | _+5=>rfl
theorem ascM_pw:∀ {l:List (List Nat)},ascM l=true→l.Pairwise fun a b=>cmpM a b<0
 | [],_ => .nil
 | [a],_ => .cons (fun b h=>by cases h) .nil
 | a::b::l,h=>by
  unfold ascM at h
  rw [Bool.and_eq_true,decide_eq_true_eq] at h
  have ih:=ascM_pw h.2
  refine .cons (fun c hc=>?_) ih
  rcases List.mem_cons.1 hc with rfl|hc
  ·exact h.1
  ·exact cmpM_trans h.1 ((List.pairwise_cons.1 ih).1 c hc)
theorem allL_perm {n:Nat} (h1:1≤n) (h4:n≤4):(allL n).Perm (mvL n):=by
 obtain rfl|rfl|rfl|rfl:n=1∨n=2∨n=3∨n=4:=by omega
 all_goals decide
theorem mvL_sorted {n:Nat} (h1:1≤n) (h4:n≤4) {l:List (List Nat)} (hp:l.Perm (allL n)) (hs:l.Pairwise fun a b=>¬ cmpM b a<0):l=mvL n:=by
 refine List.Perm.eq_of_pairwise (le:=fun a b=>¬ cmpM b a<0) (fun a b _ _ g1 g2=>?_) hs ((ascM_pw (mvL_cmp n)).imp fun {a b} h=>?_) (hp.trans (allL_perm h1 h4))
 ·have:=cmpM_neg a b
  exact cmpM_zero (by omega)
 ·have:=cmpM_neg a b
  omega
end Go.Proofs.YtbfcfpmholkmeaaGreatDoor
namespace Go.Proofs.YtbfcfpmholkmeaaGreatDoor
open Go.RowKit Go.Shelf Go.Proofs

def lstV (c:Costs) (l:List TS):Int:=rsV (colZ c l) (lens l) (mvL l.length) (List.replicate l.length 0)
def alnW (c:Costs) (l:List TS):List (List Int):=alV19 (colZ c l) (lens l) (mvL l.length) (List.replicate l.length 0)
theorem colZ_nn {c:Costs} (hc:costE c=0) {l:List TS} (h4:l.length≤4) (x:List Int):0≤colZ c l x:=(colZ_bd hc (by omega) x).1
theorem ColsOk.lt {ls:List Nat} {cols:List (List Int)} (h:ColsOk ls cols) {x:List Int} (hx:x∈cols) {s:Nat} (hs:s<ls.length):x.getD s (-1)<(ls.getD s 0:Int):=by
 have hl:=h.len x hx
 have:=(h.entry hx (s:=s) (n:=ls[s]) (z:=x[s]'(by omega)) (List.getElem?_eq_getElem hs) (List.getElem?_eq_getElem (by omega))).2
 rw [List.getD_eq_getElem?_getD,List.getElem?_eq_getElem (by omega),List.getD_eq_getElem?_getD (l:=ls),List.getElem?_eq_getElem hs]
 exact this
structure BackS (l l':List TS):Prop where
 len:l'.length=l.length
 toks:∀ s,s<l.length→(tsA l' s).l=(tsA l s).l.reverse
 n:lens l'=lens l
 ok:∀ s,s<l.length→(lens l).getD s 0=(tsA l s).l.length
theorem BackS.swap {l l':List TS} (h:BackS l l'):BackS l' l:=by
 refine ⟨h.len.symm,fun s hs=>?_,h.n.symm,fun s hs=>?_⟩
 ·rw [h.toks s (by rw [← h.len];exact hs),List.reverse_reverse]
 ·rw [h.n,h.toks s (by rw [← h.len];exact hs),List.length_reverse,h.ok s (by rw [← h.len];exact hs)]
end Go.Proofs.YtbfcfpmholkmeaaGreatDoor
namespace Go.Proofs.YtbfcfpmholkmeaaGreatDoor
open Go.RowKit Go.Shelf Go.Proofs

end Go.Proofs.YtbfcfpmholkmeaaGreatDoor
namespace Go.Proofs.YtbfcfpmholkmeaaGreatDoor
open Go.RowKit Go.Shelf Go.Proofs
set_option maxRecDepth 100000
set_option maxHeartbeats 1000000

theorem flat_one:∀ xs:List Value,xs.flatMap (fun v=>[v])=xs
 | []=>rfl
 | x::xs=>by rw [List.flatMap_cons,flat_one xs];rfl
theorem src_take1 {w:World} {A:Option Addr} {n:Nat} {xs:List Value} (hs:Src w 1 A n xs) (hi:Nat) (h:hi≤n):Src w 1 A hi (xs.take hi):=by
 have h9:=src_take (fun v:Value=>[v]) 1 (fun _=>rfl) (l:=xs) (by rw [flat_one];exact hs) (by have:=hs.1;omega) hi h
 rwa [flat_one] at h9
structure PS where
 A:Option Addr
 n:Nat
 cap:Nat
 vs:List Value
@[reducible] def PS.val (p:PS):Value := .slice p.A p.n p.cap
def sumP (l:List PS):Nat:=(l.map PS.n).sum
def catP (l:List PS):List Value:=l.flatMap PS.vs
theorem sumP_snoc {l:List PS} {j:Nat} {p:PS} (h:l[j]?=some p):sumP (l.take (j+1))=sumP (l.take j)+p.n:=by
 unfold sumP;rw [take_snoc _ _ _ h,List.map_append,List.sum_append];simp
theorem sumP_le (l:List PS) (j:Nat):sumP (l.take j)≤sumP l:=by
 unfold sumP
 have h:(l.map PS.n).sum=((l.take j).map PS.n).sum+((l.drop j).map PS.n).sum:=by
  rw [← List.sum_append, ← List.map_append,List.take_append_drop]
 omega
theorem catP_snoc {l:List PS} {j:Nat} {p:PS} (h:l[j]?=some p):catP (l.take (j+1))=catP (l.take j)++p.vs:=by
 unfold catP;rw [take_snoc _ _ _ h,List.flatMap_append];simp
end Go.Proofs.YtbfcfpmholkmeaaGreatDoor
namespace Go.Proofs.YtbfcfpmholkmeaaGreatDoor
open Go.RowKit Go.Shelf Go.ChangeShapes Go.WideShapes Go.Proofs
set_option maxRecDepth 100000

@[reducible] def coL (sec:ByteArray) (y1 y2 y3:Value):List Value:=[.string sec,y1,y2,y3]
structure CoRd (w:World) (y1 y2 y3:Value) (x:Co):Prop where
 sg:Rd (wr w) [y1] [strsD x.sg]
 m:Rd (wr w) [y2] [.s 1 (x.m.map toksD)]
 cols:Rd (wr w) [y3] [rowsD x.cols]
section
variable {H:Type} {enc:TypeId × Value→H} {W:World} {base b0:Nat} {sp:Nat→Bool} {held:Bool} {r:Reach} {v:Value} {d:DataW H} {ps:List MemPlace}
@[reducible] def case22L (c:Costs) (sec:ByteArray) (y1 y2:Value):List Value:=[.int .i64 c.gap, .int .i64 c.norm, .int .i64 c.letter, .int .i64 c.most, .string sec,y1,y2]
end
end Go.Proofs.YtbfcfpmholkmeaaGreatDoor
namespace Go.Proofs.YtbfcfpmholkmeaaGreatDoor
open Go.RowKit Go.Shelf Go.Proofs
set_option maxRecDepth 100000
set_option maxHeartbeats 1000000

structure HdAt (w:World) (sec:ByteArray) (sg:List ByteArray) (A1:Option Addr) (c1:Nat) (l:List TS) (A2:Option Addr) (c2:Nat):Prop where
 hst:Std w
 s1:Src w 1 A1 sg.length (sg.map Value.string)
 b1:sg.length≤c1
 s2:Src w 1 A2 l.length (l.map TS.val)
 ok:TsOk w l
 sec:sec.size≤20
 sig:∀ s∈sg,s.size≤20
 n1:sg.length≤36
 n2:l.length≤36
 tok:∀ t∈l,t.n≤6∧∀ x∈t.l,x.small
 txt:∀ t∈l,∀ x∈t.l,x.text.size≤12
theorem Src.old {w0 w:World} {H:List HA} {sz n:Nat} {A:Option Addr} {xs:List Value} (h:Src w0 sz A n xs) (hw:Cls w0 w H):Src w sz A n xs:=⟨h.1,fun q=>⟨(h.2 q).1,(h.2 q).2.old hw⟩⟩
theorem HdAt.cls {w0 w:World} {H:List HA} {sec:ByteArray} {sg:List ByteArray} {A1 A2:Option Addr} {c1 c2:Nat} {l:List TS} (h:HdAt w0 sec sg A1 c1 l A2 c2) (hw:Cls w0 w H):HdAt w sec sg A1 c1 l A2 c2 :=
 ⟨h.hst.cls hw,h.s1.old hw,h.b1,h.s2.old hw,⟨fun t ht=>src_below (h.ok.src t ht) hw.below,h.ok.len,h.ok.bd⟩,h.sec,h.sig,h.n1,h.n2,h.tok,h.txt⟩
theorem HdAt.len {w:World} {sec:ByteArray} {sg:List ByteArray} {A1 A2:Option Addr} {c1 c2:Nat} {l:List TS} (h:HdAt w sec sg A1 c1 l A2 c2) (k:Nat) {t:TS} (ht:l[k]?=some t):(l.map TS.l)[k]?=some t.l∧t.l.length=t.n∧t.n≤6 :=
 ⟨by rw [List.getElem?_map,ht];rfl,h.ok.len t (List.mem_of_getElem? ht),(h.tok t (List.mem_of_getElem? ht)).1⟩
theorem HdAt.hdr {w:World} {sec:ByteArray} {sg:List ByteArray} {A1:Option Addr} {b o:Nat} {c1 c2:Nat} {l:List TS} (h:HdAt w sec sg A1 c1 l (some ⟨b,o,none⟩) c2) {k:Nat} {t:TS} (ht:l[k]?=some t):RdC w b (o+(k:Int).toNat * 1) [.slice t.A t.n t.cap]:=by
 have hk:=(List.getElem?_eq_some_iff.1 ht).1
 have h9:=(h.s2.get1 (i:=k) hk (by rw [List.getElem?_map,ht];rfl)).2
 rw [Nat.mul_one] at h9
 rw [off1]
 exact h9
theorem src_takeStr {w:World} {A:Option Addr} {n:Nat} {l:List ByteArray} (hs:Src w 1 A n (l.map Value.string)) (i:Nat) (h:i≤n):Src w 1 A i ((l.take i).map Value.string):=by
 have:=src_take1 hs i h
 rwa [← List.map_take] at this
theorem siglumP_spec (s:ByteArray) (hs:s.size≤20) (w:World):Spec Tryz.prog 84 [.string s] w (fun v R=>v = .bool (siglum22 s)∧R=[]):=by
 have hb:(bare1_22 s).size≤9223372036854775807:=by
  unfold bare1_22
  split
  ·rw [ByteArray.size_extract];omega
  ·omega
 refine spec_of sg Tryz.func84 rfl rfl rfl ?_
 repeat' (first|refine d1 ?_|refine dd ?_|(show T _ (.ops _ (_::_)::_) _ _ _;first|refine T_call rfl rfl rfl rfl rfl (fun w hw=>cutStar_spec s (by omega) w) ?_|refine T_callC rfl rfl rfl rfl rfl rfl rfl (fun hg w hw=>cutStar_spec s (by omega) w) ?_|refine T_call rfl rfl rfl rfl rfl (fun w hw=>isNamePrg_spec (bare1_22 s) hb w) ?_|refine T_callC rfl rfl rfl rfl rfl rfl rfl (fun hg w hw=>isNamePrg_spec (bare1_22 s) hb w) ?_)|(show T _ (.run _ _ (_::_) _ _::_) _ _ _;first|refine rc rfl rfl rfl rfl rfl rfl rfl (fun w hw=>cutStar_spec s (by omega) w) ?_|refine rcG rfl rfl rfl rfl rfl rfl rfl rfl rfl (fun hg w hw=>cutStar_spec s (by omega) w) ?_|refine rc rfl rfl rfl rfl rfl rfl rfl (fun w hw=>isNamePrg_spec (bare1_22 s) hb w) ?_|refine rcG rfl rfl rfl rfl rfl rfl rfl rfl rfl (fun hg w hw=>isNamePrg_spec (bare1_22 s) hb w) ?_)|(show ∀ _:Nat,T _ _ _ _ _;intro _)|(show T _ (.code .ret::_) _ _ _;refine T_retV [] rfl (Hle.none _) ⟨congrArg Value.bool (siglum22_eq s),rfl⟩))
theorem sources1_22_spec (t:Tok) (ht:t.small) (w:World) (hst:Std w):Spec Tryz.prog 86 [t.val] w (fun v A=>v = .bool (!decide (tokE t=0))∧A=[]):=by
 refine spec_of sg Tryz.func86 rfl rfl rfl ?_
 repeat' (first|(show T _ (.ops _ (⟨_, .box _ _,_,_,_,_⟩::_)::_) _ _ _;refine T_op (OpT.box (cs:=t.cells) rfl rfl rfl rfl rfl rfl rfl (fun _=>?_)))|refine d1 ?_|refine dd ?_|(show T _ (.ops _ (_::_)::_) _ _ _;first|refine T_call rfl rfl rfl rfl rfl (fun w hw=>tokPrg_spec t ht w (hst.cls hw)) ?_|refine T_callC rfl rfl rfl rfl rfl rfl rfl (fun hg w hw=>tokPrg_spec t ht w (hst.cls hw)) ?_)|(show T _ (.run _ _ (_::_) _ _::_) _ _ _;first|refine rc rfl rfl rfl rfl rfl rfl rfl (fun w hw=>tokPrg_spec t ht w (hst.cls hw)) ?_|refine rcG rfl rfl rfl rfl rfl rfl rfl rfl rfl (fun hg w hw=>tokPrg_spec t ht w (hst.cls hw)) ?_)|(show ∀ _:Nat,T _ _ _ _ _;intro _)|(show T _ (.code .ret::_) _ _ _;refine T_retV [] rfl (Hle.none _) ⟨rfl,rfl⟩))
section
variable {sec:ByteArray} {sg:List ByteArray} {m:List (List Tok)}
theorem head22_a (h:isNameB sec=false):head22 sec sg m=14:=if_pos h
theorem head22_b (h1:isNameB sec=true) (h:sg.length=0):head22 sec sg m=5:=by unfold head22;rw [if_neg (by rw [h1];simp),if_pos h]
theorem head22_c (h1:isNameB sec=true) (h2:sg.length≠0) (h:32<sg.length):head22 sec sg m=4:=by unfold head22;rw [if_neg (by rw [h1];simp),if_neg h2,if_pos h]
theorem head22_d (h1:isNameB sec=true) (h2:sg.length≠0) (h3:¬ 32<sg.length) (h:sgE22 [] sg≠0):head22 sec sg m=sgE22 [] sg:=by unfold head22;rw [if_neg (by rw [h1];simp),if_neg h2,if_neg h3,if_pos h]
theorem head22_e (h1:isNameB sec=true) (h2:sg.length≠0) (h3:¬ 32<sg.length) (h4:sgE22 [] sg=0) (h:m.length≠sg.length):head22 sec sg m=9:=by unfold head22;rw [if_neg (by rw [h1];simp),if_neg h2,if_neg h3,if_neg (by rw [h4];simp),if_pos h]
theorem head22_f (h1:isNameB sec=true) (h2:sg.length≠0) (h3:¬ 32<sg.length) (h4:sgE22 [] sg=0) (h5:m.length=sg.length):head22 sec sg m=tkE22 m:=by unfold head22;rw [if_neg (by rw [h1];simp),if_neg h2,if_neg h3,if_neg (by rw [h4];simp),if_neg (by omega)]
end
theorem sources22_spec (sec:ByteArray) (sg':List ByteArray) (A1:Option Addr) (c1:Nat) (l:List TS) (A2:Option Addr) (c2:Nat) (w:World) (hh:HdAt w sec sg' A1 c1 l A2 c2) :
  Spec Tryz.prog 50 [.string sec, .slice A1 sg'.length c1, .slice A2 l.length c2] w (fun v R=>v = .int .i64 (head22 sec sg' (l.map TS.l))∧R=[]):=by
 obtain⟨hst,hs1,hb1,hs2,hok,hsec,hsig,hn1,hn2,htok,htxt⟩:=hh
 have hh:HdAt w sec sg' A1 c1 l A2 c2:=⟨hst,hs1,hb1,hs2,hok,hsec,hsig,hn1,hn2,htok,htxt⟩
 refine spec_of sg Tryz.func50 rfl rfl rfl ?_
 repeat' (first|refine d1 ?_|refine dd ?_|(show T _ (.ops _ (_::_)::_) _ _ _;first|refine T_call rfl rfl rfl rfl rfl (fun w hw=>isNamePrg_spec sec (by omega) w) ?_|refine T_callC rfl rfl rfl rfl rfl rfl rfl (fun hg w hw=>isNamePrg_spec sec (by omega) w) ?_)|(show T _ (.run _ _ (_::_) _ _::_) _ _ _;first|refine rc rfl rfl rfl rfl rfl rfl rfl (fun w hw=>isNamePrg_spec sec (by omega) w) ?_|refine rcG rfl rfl rfl rfl rfl rfl rfl rfl rfl (fun hg w hw=>isNamePrg_spec sec (by omega) w) ?_)|(show ∀ _:Nat,T _ _ _ _ _;intro _))
 refine T_if rfl (fun h=>?_) (fun h=>?_)
 ·simp only [Bool.not_eq_true'] at h
  repeat' (first|refine d1 ?_|refine dd ?_|(show ∀ _:Nat,T _ _ _ _ _;intro _)|(show T _ (.code .ret::_) _ _ _;refine T_retV [] rfl (Hle.none _) ⟨congrArg (Value.int .i64) (head22_a h).symm,rfl⟩))
 simp only [Bool.not_eq_false'] at h
 repeat' (first|refine d1 ?_|refine dd ?_|(show ∀ _:Nat,T _ _ _ _ _;intro _))
 refine T_if rfl (fun h2=>?_) (fun h2=>?_)
 ·simp only [decide_eq_true_eq] at h2
  repeat' (first|refine d1 ?_|refine dd ?_|(show ∀ _:Nat,T _ _ _ _ _;intro _)|(show T _ (.code .ret::_) _ _ _;refine T_retV [] rfl (Hle.none _) ⟨congrArg (Value.int .i64) (head22_b h (by omega)).symm,rfl⟩))
 simp only [decide_eq_false_iff_not] at h2
 have h2':sg'.length≠0:=by omega
 repeat' (first|refine d1 ?_|refine dd ?_|(show ∀ _:Nat,T _ _ _ _ _;intro _))
 refine T_if rfl (fun h3=>?_) (fun h3=>?_)
 ·simp only [decide_eq_true_eq] at h3
  repeat' (first|refine d1 ?_|refine dd ?_|(show ∀ _:Nat,T _ _ _ _ _;intro _)|(show T _ (.code .ret::_) _ _ _;refine T_retV [] rfl (Hle.none _) ⟨congrArg (Value.int .i64) (head22_c h h2' (by omega)).symm,rfl⟩))
 simp only [decide_eq_false_iff_not] at h3
 have h3':¬ 32<sg'.length:=by omega
 repeat' (first|refine d1 ?_|refine dd ?_|(show ∀ _:Nat,T _ _ _ _ _;intro _))
 refine T_loopX (fun k:Nat=>[(25, .int .i64 k)]) (fun _=>[]) (fun k=>k≤sg'.length∧sgE22 [] sg'=sgE22 (sg'.take k) (sg'.drop k)) (fun k=>sg'.length - k) 0 ⟨Nat.zero_le _,by simp⟩ ?_
 rintro k ⟨hk,hE⟩
 repeat' (first|refine d1 ?_|refine dd ?_|(show ∀ _:Nat,T _ _ _ _ _;intro _))
 refine T_if rfl (fun h4=>?_) (fun h4=>?_)
 ·simp only [decide_eq_true_eq] at h4
  have hkn:k<sg'.length:=by omega
  obtain⟨b,o,rfl⟩:=hs1.base (by omega)
  obtain⟨s,hs⟩:∃ s,sg'[k]?=some s:=⟨_,List.getElem?_eq_getElem hkn⟩
  have hr:=src_str hs1 hkn hs
  have hs20:=hsig s (List.mem_of_getElem? hs)
  rw [sgE22_step hs] at hE
  repeat' (first|refine d1 ?_|refine dd ?_|(show T _ (.ops _ (_::_)::_) _ _ _;first|refine T_call rfl rfl rfl rfl rfl (fun w hw=>siglumP_spec s hs20 w) ?_|refine T_callC rfl rfl rfl rfl rfl rfl rfl (fun hg w hw=>siglumP_spec s hs20 w) ?_)|(show T _ (.run _ _ (_::_) _ _::_) _ _ _;first|refine rc rfl rfl rfl rfl rfl rfl rfl (fun w hw=>siglumP_spec s hs20 w) ?_|refine rcG rfl rfl rfl rfl rfl rfl rfl rfl rfl (fun hg w hw=>siglumP_spec s hs20 w) ?_)|(show ∀ _:Nat,T _ _ _ _ _;intro _))
  refine T_if rfl (fun h5=>?_) (fun h5=>?_)
  ·simp only [Bool.not_eq_true'] at h5
   rw [if_pos h5] at hE
   repeat' (first|refine d1 ?_|refine dd ?_|(show ∀ _:Nat,T _ _ _ _ _;intro _)|(show T _ (.code .ret::_) _ _ _;refine T_retV [] rfl (Hle.none _) ⟨congrArg (Value.int .i64) (by rw [head22_d h h2' h3' (by omega),hE]),rfl⟩))
  simp only [Bool.not_eq_false'] at h5
  rw [if_neg (by rw [h5];simp)] at hE
  repeat' (first|refine d1 ?_|refine dd ?_|(show T _ (.ops _ (_::_)::_) _ _ _;first|refine T_call rfl rfl rfl rfl rfl (fun w hw=>containsStr_spec (some ⟨b,o,none⟩) k c1 (sg'.take k) s w (src_takeStr (rdSrc hs1 w hw) k (by omega)) (by rw [List.length_take];omega) (by omega)) ?_|refine T_callC rfl rfl rfl rfl rfl rfl rfl (fun hg w hw=>containsStr_spec (some ⟨b,o,none⟩) k c1 (sg'.take k) s w (src_takeStr (rdSrc hs1 w hw) k (by omega)) (by rw [List.length_take];omega) (by omega)) ?_)|(show T _ (.run _ _ (_::_) _ _::_) _ _ _;first|refine rc rfl rfl rfl rfl rfl rfl rfl (fun w hw=>containsStr_spec (some ⟨b,o,none⟩) k c1 (sg'.take k) s w (src_takeStr (rdSrc hs1 w hw) k (by omega)) (by rw [List.length_take];omega) (by omega)) ?_|refine rcG rfl rfl rfl rfl rfl rfl rfl rfl rfl (fun hg w hw=>containsStr_spec (some ⟨b,o,none⟩) k c1 (sg'.take k) s w (src_takeStr (rdSrc hs1 w hw) k (by omega)) (by rw [List.length_take];omega) (by omega)) ?_)|(show ∀ _:Nat,T _ _ _ _ _;intro _))
  refine T_if rfl (fun h6=>?_) (fun h6=>?_)
  ·rw [if_pos (show has22 (sg'.take k) s=true from h6)] at hE
   repeat' (first|refine d1 ?_|refine dd ?_|(show ∀ _:Nat,T _ _ _ _ _;intro _)|(show T _ (.code .ret::_) _ _ _;refine T_retV [] rfl (Hle.none _) ⟨congrArg (Value.int .i64) (by rw [head22_d h h2' h3' (by omega),hE]),rfl⟩))
  rw [if_neg (show ¬ has22 (sg'.take k) s=true by rw [show has22 (sg'.take k) s=false from h6];simp)] at hE
  repeat' (first|refine d1 ?_|refine dd ?_|(show ∀ _:Nat,T _ _ _ _ _;intro _))
  exact T_backX (k+1) ⟨by omega,hE⟩ (by omega)
 simp only [decide_eq_false_iff_not] at h4
 rw [sgE22_end (by omega)] at hE
 repeat' (first|refine d1 ?_|refine dd ?_|(show ∀ _:Nat,T _ _ _ _ _;intro _))
 refine T_if rfl (fun h5=>?_) (fun h5=>?_)
 ·simp only [Bool.not_eq_true',decide_eq_false_iff_not] at h5
  repeat' (first|refine d1 ?_|refine dd ?_|(show ∀ _:Nat,T _ _ _ _ _;intro _)|(show T _ (.code .ret::_) _ _ _;refine T_retV [] rfl (Hle.none _) ⟨congrArg (Value.int .i64) (by rw [head22_e h h2' h3' hE (by rw [List.length_map];omega)]),rfl⟩))
 simp only [Bool.not_eq_false',decide_eq_true_eq] at h5
 have hF:=head22_f (m:=l.map TS.l) h h2' h3' hE (by rw [List.length_map];omega)
 repeat' (first|refine d1 ?_|refine dd ?_|(show ∀ _:Nat,T _ _ _ _ _;intro _))
 refine T_loopX (fun k:Nat=>[(46, .int .i64 k)]) (fun _=>[]) (fun k=>k≤l.length∧tkE22 (l.map TS.l)=tkE22 ((l.map TS.l).drop k)) (fun k=>l.length - k) 0 ⟨Nat.zero_le _,by simp⟩ ?_
 rintro k ⟨hk,hE2⟩
 repeat' (first|refine d1 ?_|refine dd ?_|(show ∀ _:Nat,T _ _ _ _ _;intro _))
 refine T_if rfl (fun h6=>?_) (fun h6=>?_)
 ·simp only [decide_eq_true_eq] at h6
  have hkn:k<l.length:=by omega
  obtain⟨b,o,rfl⟩:=hs2.base (by omega)
  obtain⟨t,ht⟩:∃ t,l[k]?=some t:=⟨_,List.getElem?_eq_getElem hkn⟩
  have hr:=hh.hdr ht
  have htm:=List.mem_of_getElem? ht
  obtain⟨e1,e2,e3⟩:=hh.len k ht
  rw [tkE22_step e1] at hE2
  repeat' (first|refine d1 ?_|refine dd ?_|(show ∀ _:Nat,T _ _ _ _ _;intro _))
  refine T_if rfl (fun h7=>by exfalso;simp at h7;omega) (fun _=>?_)
  rw [if_neg (by omega)] at hE2
  repeat' (first|refine d1 ?_|refine dd ?_|(show T _ (.ops _ (_::_)::_) _ _ _;first|refine T_call rfl rfl rfl rfl rfl (fun w hw=>containsFuncT_spec t.A t.n t.cap t.l _ [] [] (fun t => !decide (tokE t=0)) w (rdSrc (hok.src t htm) w hw) e2 (by omega) (fun x hx w' hb'=>sources1_22_spec x ((htok t htm).2 x hx) w' ((hst.cls hw).below hb'))) ?_|refine T_callC rfl rfl rfl rfl rfl rfl rfl (fun hg w hw=>containsFuncT_spec t.A t.n t.cap t.l _ [] [] (fun t => !decide (tokE t=0)) w (rdSrc (hok.src t htm) w hw) e2 (by omega) (fun x hx w' hb'=>sources1_22_spec x ((htok t htm).2 x hx) w' ((hst.cls hw).below hb'))) ?_)|(show T _ (.run _ _ (_::_) _ _::_) _ _ _;first|refine rc rfl rfl rfl rfl rfl rfl rfl (fun w hw=>containsFuncT_spec t.A t.n t.cap t.l _ [] [] (fun t => !decide (tokE t=0)) w (rdSrc (hok.src t htm) w hw) e2 (by omega) (fun x hx w' hb'=>sources1_22_spec x ((htok t htm).2 x hx) w' ((hst.cls hw).below hb'))) ?_|refine rcG rfl rfl rfl rfl rfl rfl rfl rfl rfl (fun hg w hw=>containsFuncT_spec t.A t.n t.cap t.l _ [] [] (fun t => !decide (tokE t=0)) w (rdSrc (hok.src t htm) w hw) e2 (by omega) (fun x hx w' hb'=>sources1_22_spec x ((htok t htm).2 x hx) w' ((hst.cls hw).below hb'))) ?_)|(show ∀ _:Nat,T _ _ _ _ _;intro _))
  refine T_if rfl (fun h7=>?_) (fun h7=>?_)
  ·rw [if_pos (show badL t.l=true from h7)] at hE2
   repeat' (first|refine d1 ?_|refine dd ?_|(show ∀ _:Nat,T _ _ _ _ _;intro _)|(show T _ (.code .ret::_) _ _ _;refine T_retV [] rfl (Hle.none _) ⟨congrArg (Value.int .i64) (by rw [hF,hE2]),rfl⟩))
  rw [if_neg (show ¬ badL t.l=true by rw [show badL t.l=false from h7];simp)] at hE2
  repeat' (first|refine d1 ?_|refine dd ?_|(show ∀ _:Nat,T _ _ _ _ _;intro _))
  exact T_backX (k+1) ⟨by omega,hE2⟩ (by omega)
 simp only [decide_eq_false_iff_not] at h6
 rw [List.drop_eq_nil_of_le (by rw [List.length_map];omega)] at hE2
 repeat' (first|refine d1 ?_|refine dd ?_|(show ∀ _:Nat,T _ _ _ _ _;intro _)|(show T _ (.code .ret::_) _ _ _;refine T_retV [] rfl (Hle.none _) ⟨congrArg (Value.int .i64) (by rw [hF,hE2];rfl),rfl⟩))
end Go.Proofs.YtbfcfpmholkmeaaGreatDoor
namespace Go.Proofs.YtbfcfpmholkmeaaGreatDoor
open Go.RowKit Go.Shelf Go.Proofs
set_option maxRecDepth 100000
set_option maxHeartbeats 1000000

structure CoAt (w:World) (x:Co) (A1:Option Addr) (c1:Nat) (l:List TS) (A2:Option Addr) (c2:Nat) (y3:Value):Prop where
 hd:HdAt w x.sec x.sg A1 c1 l A2 c2
 m:l.map TS.l=x.m
 cols:Rd (wr w) [y3] [rowsD x.cols]
theorem CoAt.cls {w0 w:World} {H:List HA} {x:Co} {A1 A2:Option Addr} {c1 c2:Nat} {l:List TS} {y3:Value} (h:CoAt w0 x A1 c1 l A2 c2 y3) (hw:Cls w0 w H):CoAt w x A1 c1 l A2 c2 y3:=⟨h.hd.cls hw,h.m,h.cols.old hw⟩
theorem HdAt.grp {w:World} {sec:ByteArray} {sg':List ByteArray} {A1 A2:Option Addr} {c1 c2:Nat} {l:List TS} (h:HdAt w sec sg' A1 c1 l A2 c2) (hn:l.length≤32):Grp w A2 l.length l :=
 ⟨h.hst,h.s2,rfl,hn,h.ok,fun t ht=>by have:=(h.tok t ht).1;omega,fun t ht=>(h.tok t ht).2⟩
end Go.Proofs.YtbfcfpmholkmeaaGreatDoor
namespace Go.Proofs.YtbfcfpmholkmeaaGreatDoor
open Go.RowKit Go.Shelf Go.Proofs
set_option maxRecDepth 100000
set_option maxHeartbeats 1000000

theorem grL22_step {m:List (List Tok)} {k n:Nat} {l:List Tok} (h:m[k]?=some l):grL22 k n (m.drop k)=((decide (6<l.length) || (decide (4≤k) && decide (1<l.length)) || l.any big22) || grL22 (k+1) (if k<4 then n * (l.length+1) else n) (m.drop (k+1))):=by
 obtain⟨hl,e⟩:=List.getElem?_eq_some_iff.1 h
 rw [List.drop_eq_getElem_cons hl,e]
 rfl
theorem greatTokens_spec (A2:Option Addr) (c2:Nat) (l:List TS) (w:World) (hs:Src w 1 A2 l.length (l.map TS.val)) (hl:TsOk w l) (hb:l.length≤9223372036854775807) :
  Spec Tryz.prog 13 [.slice A2 l.length c2] w (fun v R=>v = .bool (grT22 (l.map TS.l))∧R=[]):=by
 refine spec_of sg Tryz.func13 rfl rfl rfl ?_
 repeat' (first|refine d1 ?_|refine dd ?_|(show ∀ _:Nat,T _ _ _ _ _;intro _))
 refine T_loopX (fun s:Nat × Nat=>[(4, .int .i64 (s.1:Nat)),(3, .int .i64 (s.2:Nat))]) (fun _=>[]) (fun s=>s.1≤l.length∧grL22 0 1 (l.map TS.l)=grL22 s.1 s.2 ((l.map TS.l).drop s.1)∧s.2 * 7 ^ (4 - s.1)≤2401) (fun s=>l.length - s.1) (0,1) ⟨Nat.zero_le _,by simp,by decide⟩ ?_
 rintro⟨k,n⟩ ⟨hk,hE,hN⟩
 dsimp only at hk hE hN ⊢
 have hn:n≤2401:=Nat.le_trans (Nat.le_mul_of_pos_right n (Nat.pow_pos (by omega))) hN
 repeat' (first|refine d1 ?_|refine dd ?_|(show ∀ _:Nat,T _ _ _ _ _;intro _))
 refine T_if rfl (fun h=>?_) (fun h=>?_)
 ·simp only [decide_eq_true_eq] at h
  have hkn:k<l.length:=by omega
  obtain⟨b,o,rfl⟩:=hs.base (by omega)
  obtain⟨t,ht⟩:∃ t,l[k]?=some t:=⟨_,List.getElem?_eq_getElem hkn⟩
  have htm:=List.mem_of_getElem? ht
  have htl:=hl.len t htm
  have htb:=hl.bd t htm
  have hts:=hl.src t htm
  have hr:RdC w b (o+(k:Int).toNat * 1) [.slice t.A t.n t.cap]:=by
   have h9:=(hs.get1 (i:=k) hkn (by rw [List.getElem?_map,ht];rfl)).2
   rw [Nat.mul_one] at h9
   rw [off1]
   exact h9
  rw [grL22_step (by rw [List.getElem?_map,ht];rfl)] at hE
  repeat' (first|refine d1 ?_|refine dd ?_|(show ∀ _:Nat,T _ _ _ _ _;intro _))
  refine T_if rfl (fun h2=>?_) (fun h2=>?_)
  ·have h3:(decide (6<t.l.length) || (decide (4≤k) && decide (1<t.l.length)))=true:=by
    simp only [Bool.or_eq_true,Bool.and_eq_true,decide_eq_true_eq] at h2 ⊢
    omega
   rw [h3,Bool.true_or,Bool.true_or] at hE
   repeat' (first|refine d1 ?_|refine dd ?_|(show ∀ _:Nat,T _ _ _ _ _;intro _)|(show T _ (.code .ret::_) _ _ _;refine T_retV [] rfl (Hle.none _) ⟨congrArg Value.bool (by unfold grT22;rw [hE];rfl),rfl⟩))
  have h3:(decide (6<t.l.length) || (decide (4≤k) && decide (1<t.l.length)))=false:=by
   simp only [Bool.or_eq_false_iff,Bool.and_eq_false_iff,decide_eq_false_iff_not] at h2 ⊢
   omega
  have h6:t.n≤6:=by
   simp only [Bool.or_eq_false_iff,decide_eq_false_iff_not] at h3
   omega
  rw [h3,Bool.false_or] at hE
  repeat' (first|refine d1 ?_|refine dd ?_|(show ∀ _:Nat,T _ _ _ _ _;intro _))
  refine T_cutX 1 [3] (fun _:Unit=>[(3, .int .i64 ((if k<4 then n * (t.l.length+1) else n:Nat):Nat))]) (fun _=>[]) (fun _=>True) ?_ ?_
  ·refine T_if rfl (fun h4=>?_) (fun h4=>?_)
   ·simp only [decide_eq_true_eq] at h4
    have h5:n * (t.n+1)≤2401 * 7:=Nat.mul_le_mul hn (by omega)
    have h7:(n:Int) * ((t.n:Int)+1)=((n * (t.n+1):Nat):Int):=by push_cast;rfl
    repeat' (first|refine d1 ?_|refine dd ?_|(show ∀ _:Nat,T _ _ _ _ _;intro _))
    refine T_meetX () trivial (hE:=⟨by rw [if_pos (by omega),htl, ← h7];rfl,trivial⟩)
   ·simp only [decide_eq_false_iff_not] at h4
    repeat' (first|refine d1 ?_|refine dd ?_|(show ∀ _:Nat,T _ _ _ _ _;intro _))
    exact T_meetX () trivial (hE:=⟨by rw [if_neg (by omega)];rfl,trivial⟩)
  rintro⟨⟩ -
  repeat' (first|refine d1 ?_|refine dd ?_|(show ∀ _:Nat,T _ _ _ _ _;intro _))
  refine T_loopX (fun j:Nat=>[(5, .int .i64 j)]) (fun _=>[]) (fun j=>j≤t.n∧∀ i y,i<j→t.l[i]?=some y→big22 y=false) (fun j=>t.n - j) 0 ⟨Nat.zero_le _,fun i y h=>by omega⟩ ?_
  rintro j ⟨hj,hall⟩
  repeat' (first|refine d1 ?_|refine dd ?_|(show ∀ _:Nat,T _ _ _ _ _;intro _))
  refine T_if rfl (fun h4=>?_) (fun h4=>?_)
  ·simp only [decide_eq_true_eq] at h4
   have hjn:j<t.n:=by omega
   obtain⟨b2,o2,eA⟩:=hts.base (by omega)
   obtain⟨y,hy⟩:∃ y,t.l[j]?=some y:=⟨_,List.getElem?_eq_getElem (by omega)⟩
   have hr2:RdC w b2 (o2+(j:Int).toNat * 6) y.cells:=by have:=hts.getT hjn hy;rw [eA] at this;exact this
   rw [eA] at hr
   repeat' (first|refine d1 ?_|refine dd ?_|(show T _ (.ops _ (_::_)::_) _ _ _;refine T_op (OpT.storeA rfl rfl rfl rfl rfl rfl (by decide) ?_))|(show ∀ _:Nat,T _ _ _ _ _;intro _))
   refine T_if rfl (fun h5=>?_) (fun h5=>?_)
   ·have hbig:big22 y=true:=by
     simp only [Bool.or_eq_true,decide_eq_true_eq] at h5
     simp only [big22,Bool.or_eq_true,decide_eq_true_eq]
     omega
    rw [List.any_eq_true.2 ⟨y,List.mem_of_getElem? hy,hbig⟩,Bool.true_or] at hE
    repeat' (first|refine d1 ?_|refine dd ?_|(show ∀ _:Nat,T _ _ _ _ _;intro _)|(show T _ (.code .ret::_) _ _ _;refine T_retV [] rfl (Hle.none _) ⟨congrArg Value.bool (by unfold grT22;rw [hE];rfl),rfl⟩))
   have hbig:big22 y=false:=by
    simp only [Bool.or_eq_false_iff,decide_eq_false_iff_not] at h5
    simp only [big22,Bool.or_eq_false_iff,decide_eq_false_iff_not]
    omega
   repeat' (first|refine d1 ?_|refine dd ?_|(show ∀ _:Nat,T _ _ _ _ _;intro _))
   refine T_backX (j+1) ⟨by omega,fun i z hi hz=>?_⟩ (by omega)
   rcases Nat.lt_or_ge i j with h9|h9
   ·exact hall i z h9 hz
   ·rw [show i=j by omega,hy] at hz
    cases hz
    exact hbig
  simp only [decide_eq_false_iff_not] at h4
  have hgood:t.l.any big22=false:=List.any_eq_false.2 fun y hy=>by
   obtain⟨i,hi,e⟩:=List.getElem_of_mem hy
   rw [hall i y (by omega) (by rw [List.getElem?_eq_getElem hi,e])]
   simp
  rw [hgood,Bool.false_or] at hE
  repeat' (first|refine d1 ?_|refine dd ?_|(show ∀ _:Nat,T _ _ _ _ _;intro _))
  refine T_backX (k+1,if k<4 then n * (t.l.length+1) else n) ⟨by dsimp only;omega,hE,?_⟩ (by dsimp only;omega)
  show (if k<4 then n * (t.l.length+1) else n) * 7 ^ (4 - (k+1))≤2401
  by_cases h7:k<4
  ·rw [if_pos h7]
   rw [show 4 - k=(4 - (k+1))+1 by omega,Nat.pow_succ] at hN
   have h8:n * (t.l.length+1) * 7 ^ (4 - (k+1))≤n * 7 * 7 ^ (4 - (k+1)):=Nat.mul_le_mul_right _ (Nat.mul_le_mul_left _ (by omega))
   have e9:n * 7 * 7 ^ (4 - (k+1))=n * (7 ^ (4 - (k+1)) * 7):=by rw [Nat.mul_assoc,Nat.mul_comm 7]
   rw [e9] at h8
   exact Nat.le_trans h8 hN
  ·rw [if_neg h7,show 4 - (k+1)=4 - k by omega]
   exact hN
 simp only [decide_eq_false_iff_not] at h
 rw [List.drop_eq_nil_of_le (by rw [List.length_map];omega)] at hE
 have hE2:grL22 0 1 (l.map TS.l)=decide (400<n):=hE
 repeat' (first|refine d1 ?_|refine dd ?_|(show ∀ _:Nat,T _ _ _ _ _;intro _)|(show T _ (.code .ret::_) _ _ _;refine T_retV [] rfl (Hle.none _) ⟨congrArg Value.bool ?_,rfl⟩))
 unfold grT22
 rw [hE2,List.length_map,Bool.eq_iff_iff]
 simp only [Bool.or_eq_true,Bool.and_eq_true,decide_eq_true_eq]
 omega
end Go.Proofs.YtbfcfpmholkmeaaGreatDoor
namespace Go.Proofs.YtbfcfpmholkmeaaGreatDoor
open Go.RowKit Go.Shelf Go.Proofs

end Go.Proofs.YtbfcfpmholkmeaaGreatDoor
namespace Go.Proofs.YtbfcfpmholkmeaaGreatDoor
open Go.RowKit Go.Shelf Go.Proofs

end Go.Proofs.YtbfcfpmholkmeaaGreatDoor
namespace Go.Proofs.YtbfcfpmholkmeaaGreatDoor
open Go.RowKit Go.Shelf Go.Proofs

theorem okAll_at {s:ByteArray} (h:okAll s=true):∀ j,j<s.size→kAt s j≠0:=by
 intro j hj
 unfold okAll at h
 rw [decide_eq_true_eq] at h
 have:=h j hj
 unfold okAt at this
 simp only [Bool.and_eq_true,decide_eq_true_eq] at this
 exact this.1
theorem isWordB_at {s:ByteArray} (h:isWordB s=true):∀ j,j<s.size→kAt s j≠0:=by
 simp only [isWordB,Bool.and_eq_true] at h
 exact okAll_at h.1.1.2
end Go.Proofs.YtbfcfpmholkmeaaGreatDoor
namespace Go.Proofs.YtbfcfpmholkmeaaGreatDoor
open Go.RowKit Go.Shelf
set_option maxRecDepth 100000

def ovB (x y:RuB) (k:Nat):Option ByteArray:=if preB y.1 (x.1.extract (x.1.size - k) x.1.size) then some (x.1.extract 0 (x.1.size - k)++y.1) else none
def inB1 (x y:RuB) (i j p:Nat):Option ByteArray:=if (i≠j∧preB (x.1.extract p x.1.size) y.1=true) then some x.1 else none
def ovN (x y:RuB):Nat:=min x.1.size y.1.size - 1
def inR (x y:RuB) (i j p:Nat):List ByteArray:=((List.range x.1.size).drop p).filterMap (inB1 x y i j)
def ovR (x y:RuB) (i j k:Nat):List ByteArray:=(((List.range (ovN x y)).map (· + 1)).drop k).filterMap (ovB x y)++inR x y i j 0
def ruAt (rs:List RuB) (i:Nat):RuB:=rs.getD i (ByteArray.empty,ByteArray.empty)
def cellR (rs:List RuB) (i j:Nat):List ByteArray:=ovR (ruAt rs i) (ruAt rs j) i j 0
def rowCr (rs:List RuB) (i j:Nat):List ByteArray:=((List.range rs.length).drop j).flatMap (cellR rs i)
def crtR (rs:List RuB) (i:Nat):List ByteArray:=((List.range rs.length).drop i).flatMap fun i=>rowCr rs i 0
theorem drop_range {n i:Nat} (h:i<n):(List.range n).drop i=i::(List.range n).drop (i+1):=by
 rw [List.drop_eq_getElem_cons (by rw [List.length_range];exact h),List.getElem_range]
theorem crtR_end (rs:List RuB):crtR rs rs.length=[]:=by unfold crtR;rw [List.drop_of_length_le (by rw [List.length_range];exact Nat.le_refl _)];rfl
theorem crtR_row {rs:List RuB} {i:Nat} (h:i<rs.length):crtR rs i=rowCr rs i 0++crtR rs (i+1):=by unfold crtR;rw [drop_range h,List.flatMap_cons]
theorem rowCr_end (rs:List RuB) (i:Nat):rowCr rs i rs.length=[]:=by unfold rowCr;rw [List.drop_of_length_le (by rw [List.length_range];exact Nat.le_refl _)];rfl
theorem rowCr_cell {rs:List RuB} {i j:Nat} (h:j<rs.length):rowCr rs i j=ovR (ruAt rs i) (ruAt rs j) i j 0++rowCr rs i (j+1):=by unfold rowCr;rw [drop_range h,List.flatMap_cons];rfl
theorem ovR_end (x y:RuB) (i j:Nat) {k:Nat} (h:ovN x y≤k):ovR x y i j k=inR x y i j 0:=by unfold ovR;rw [List.drop_of_length_le (by rw [List.length_map,List.length_range];exact h)];rfl
theorem ovR_step (x y:RuB) (i j:Nat) {k:Nat} (h:k<ovN x y):ovR x y i j k=(ovB x y (k+1)).toList++ovR x y i j (k+1):=by
 unfold ovR
 rw [← List.map_drop,drop_range h,List.map_cons,List.map_drop]
 cases e:ovB x y (k+1) with
 | none=>rw [List.filterMap_cons_none e];rfl
 | some z=>rw [List.filterMap_cons_some e];rfl
theorem inR_end (x y:RuB) (i j:Nat) {p:Nat} (h:x.1.size≤p):inR x y i j p=[]:=by unfold inR;rw [List.drop_of_length_le (by rw [List.length_range];exact h)];rfl
theorem inR_step (x y:RuB) (i j:Nat) {p:Nat} (h:p<x.1.size):inR x y i j p=(inB1 x y i j p).toList++inR x y i j (p+1):=by
 unfold inR
 rw [drop_range h]
 cases e:inB1 x y i j p with
 | none=>rw [List.filterMap_cons_none e];rfl
 | some z=>rw [List.filterMap_cons_some e];rfl
theorem ruAt_get {rs:List RuB} {i:Nat} {r:RuB} (h:rs[i]?=some r):ruAt rs i=r:=by unfold ruAt;rw [List.getD_eq_getElem?_getD,h];rfl
theorem ext_drop (s:ByteArray) (i:Nat):(s.extract i s.size).data.toList=s.data.toList.drop i:=by
 rw [ext_listW,List.take_of_length_le (by rw [size_list];exact Nat.le_refl _)]
theorem crt_critI {rs:List RuB} (h:∀ z∈crtR rs 0,uniW (rusL rs) z.data.toList):critI (rusL rs):=by
 have hcell:∀ i j,i<rs.length→j<rs.length→∀ z∈cellR rs i j,uniW (rusL rs) z.data.toList:=fun i j hi hj z hz=>h z (by
  unfold crtR rowCr
  rw [List.drop_zero]
  exact List.mem_flatMap.2 ⟨i,List.mem_range.2 hi,List.mem_flatMap.2 ⟨j,List.mem_range.2 hj,hz⟩⟩)
 have hget:∀ (i:Nat) (x:List UInt8 × List UInt8),(rusL rs)[i]?=some x→i<rs.length∧x=ruL (ruAt rs i):=fun i x hx=>by
  unfold rusL at hx
  rw [List.getElem?_map] at hx
  cases e:rs[i]? with
  | none=>rw [e] at hx;cases hx
  | some r=>rw [e] at hx;cases hx;exact⟨(List.getElem?_eq_some_iff.1 e).1,by rw [ruAt_get e]⟩
 constructor
 ·intro i j x y hx hy k hk1 hk2 hk3 c hc
  obtain⟨hi,rfl⟩:=hget i x hx
  obtain⟨hj,rfl⟩:=hget j y hy
  generalize hX:ruAt rs i=X at *
  generalize hY:ruAt rs j=Y at *
  have l1:(ruL X).1.length=X.1.size:=size_list _
  have l2:(ruL Y).1.length=Y.1.size:=size_list _
  unfold ovW at hc
  split at hc
  ·rename_i hp
   cases hc
   have hpre:preB Y.1 (X.1.extract (X.1.size - k) X.1.size)=true:=by
    rw [preB_iff,ext_drop]
    have e1:(X.1.data.toList.drop (X.1.size - k)).length=k:=by rw [List.length_drop,size_list];omega
    rw [e1]
    rw [l1] at hp
    exact hp
   have hz:ovB X Y k=some (X.1.extract 0 (X.1.size - k)++Y.1):=by unfold ovB;rw [if_pos hpre]
   have hm:=hcell i j hi hj (X.1.extract 0 (X.1.size - k)++Y.1) (by
    unfold cellR ovR
    rw [hX,hY,List.drop_zero]
    refine List.mem_append_left _ (List.mem_filterMap.2 ⟨k,List.mem_map.2 ⟨k - 1,List.mem_range.2 (by unfold ovN;omega),by omega⟩,hz⟩))
   rw [app_listW,ext_listW,List.drop_zero] at hm
   rw [l1]
   exact hm
  ·cases hc
 ·intro i j x y hx hy hne p hp hin
  obtain⟨hi,rfl⟩:=hget i x hx
  obtain⟨hj,rfl⟩:=hget j y hy
  have l1:(ruL (ruAt rs i)).1.length=(ruAt rs i).1.size:=size_list _
  unfold inW at hin
  rw [decide_eq_true_eq] at hin
  have hpre:preB ((ruAt rs i).1.extract p (ruAt rs i).1.size) (ruAt rs j).1=true:=by
   rw [preB_iff,ext_drop];exact hin
  refine hcell i j hi hj (ruAt rs i).1 ?_
  unfold cellR ovR inR
  rw [List.drop_zero,List.drop_zero]
  refine List.mem_append_right _ (List.mem_filterMap.2 ⟨p,List.mem_range.2 (by omega),?_⟩)
  unfold inB1
  rw [if_pos ⟨hne,hpre⟩]
end Go.Proofs.YtbfcfpmholkmeaaGreatDoor
namespace Go.Proofs.YtbfcfpmholkmeaaGreatDoor
open Go.RowKit Go.Shelf
set_option maxRecDepth 100000

def trL (R:List ByteArray):List (ByteArray × Value):=R.map fun z=>(z,Value.bool true)
def hasW (R:List ByteArray) (a:ByteArray):Bool:=R.any fun z=>decide (a=z)
theorem hasW_iff {R:List ByteArray} {a:ByteArray}:hasW R a=true↔a∈R:=by
 unfold hasW
 rw [List.any_eq_true]
 constructor
 ·rintro⟨z,hz,e⟩
  rw [of_decide_eq_true e];exact hz
 ·exact fun h=>⟨a,h,decide_eq_true rfl⟩
theorem trL_get (a:ByteArray):∀ R:List ByteArray,(mget (trL R) a).getD (.bool false) = .bool (hasW R a)
 | []=>rfl
 | z::R=>by
  show (mget ((z,Value.bool true)::trL R) a).getD _=_
  rw [mget_cons]
  by_cases h:a=z
  ·subst h
   rw [if_pos rfl,hasW_iff.2 (.head _)];rfl
  ·rw [if_neg h,trL_get a R]
   unfold hasW
   rw [List.any_cons,decide_eq_false h,Bool.false_or]
theorem trL_new (a:ByteArray):∀ {R:List ByteArray},a ∉ R→mput (trL R) a (.bool true)=trL (R++[a])
 | [],_=>rfl
 | z::R,h=>by
  simp only [List.mem_cons,not_or] at h
  show mput ((z,Value.bool true)::trL R) a _=(z,Value.bool true)::trL (R++[a])
  unfold mput
  rw [if_neg h.1,trL_new a h.2]
theorem trL_old (a:ByteArray):∀ {R:List ByteArray},a∈R→mput (trL R) a (.bool true)=trL R
 | [],h=>by cases h
 | z::R,h=>by
  show mput ((z,Value.bool true)::trL R) a _=(z,Value.bool true)::trL R
  unfold mput
  by_cases e:a=z
  ·rw [if_pos e]
  ·rw [if_neg e,trL_old a ((List.mem_cons.1 h).resolve_left e)]
theorem trL_put {N:List ByteArray} (hn:N.Nodup) (a:ByteArray):∃ N':List ByteArray,mput (trL N) a (.bool true)=trL N'∧N'.Nodup∧∀ z,z∈N'↔z∈N∨z=a:=by
 by_cases h:a∈N
 ·exact⟨N,trL_old a h,hn,fun z=>⟨.inl,fun h9=>h9.elim id (fun e=>e ▸ h)⟩⟩
 ·refine ⟨N++[a],trL_new a h,?_,fun z=>by rw [List.mem_append,List.mem_singleton]⟩
  rw [List.nodup_append]
  exact⟨hn,List.nodup_cons.2 ⟨by simp,List.nodup_nil⟩,fun x hx y hy e=>by rw [List.mem_singleton] at hy;subst hy;subst e;exact h hx⟩
theorem sub_lenW {α:Type} [DecidableEq α]:∀ {l m:List α},l.Nodup→(∀ x∈l,x∈m)→l.length≤m.length
 | [],_,_,_=>Nat.zero_le _
 | x::l,m,h,hs=>by
  rw [List.nodup_cons] at h
  have hx:=hs x (.head _)
  have h1:=sub_lenW (l:=l) (m:=m.erase x) h.2 fun y hy=>(List.mem_erase_of_ne (fun e=>h.1 (by rw [← e];exact hy))).2 (hs y (.tail _ hy))
  rw [List.length_erase_of_mem hx] at h1
  have:=List.length_pos_of_mem hx
  rw [List.length_cons]
  omega
def goodW (rs:List RuB) (R N:List ByteArray) (z:ByteArray):Prop:=(∀ v∈resB rs z,v∈R)∧(resB rs z=[]→z∈N)
theorem goodW.mono {rs:List RuB} {R R' N N':List ByteArray} {z:ByteArray} (h:goodW rs R N z) (hR:∀ v∈R,v∈R') (hN:∀ v∈N,v∈N'):goodW rs R' N' z:=⟨fun v hv=>hR v (h.1 v hv),fun e=>hN z (h.2 e)⟩
structure BfsI (rs:List RuB) (s:ByteArray) (R Q N:List ByteArray):Prop where
 s0:s∈R
 qr:∀ z∈Q,z∈R
 cl:∀ z∈R,z∈Q∨goodW rs R N z
 ql:Q.length≤R.length
 rl:R.length≤4096
 nn:N.Nodup
 nr:∀ z∈N,z∈R
 sz:∀ z∈R,z.size≤200
structure BfsJ (rs:List RuB) (s:ByteArray) (N:List ByteArray) (u:ByteArray) (m:Nat) (R Q:List ByteArray) (j:Nat):Prop where
 s0:s∈R
 u0:u∈R
 qr:∀ z∈Q,z∈R
 cl:∀ z∈R,z∈Q∨z=u∨goodW rs R N z
 res:∀ i v,i<j→(resB rs u)[i]?=some v→v∈R
 ql:Q.length+1≤R.length
 rl:R.length≤4096
 mu:Q.length+2 * (4096 - R.length)≤m
 nr:∀ z∈N,z∈R
 sz:∀ z∈R,z.size≤200
theorem BfsI.start (rs:List RuB) (s:ByteArray) (h:s.size≤200):BfsI rs s [s] [s] [] :=
 ⟨.head _,fun z hz=>hz,fun z hz => .inl hz,Nat.le_refl _,(show 1≤4096 by decide),List.nodup_nil,fun z hz=>(by cases hz),fun z hz=>by rw [List.mem_singleton] at hz;subst hz;exact h⟩
theorem BfsI.pop {rs:List RuB} {s u:ByteArray} {R Q N:List ByteArray} (h:BfsI rs s R (u::Q) N):BfsJ rs s N u (Q.length+2 * (4096 - R.length)) R Q 0 :=
 ⟨h.s0,h.qr u (.head _),fun z hz=>h.qr z (.tail _ hz),fun z hz=>by
  rcases h.cl z hz with h9|h9
  ·rcases List.mem_cons.1 h9 with rfl|h8
   ·exact .inr (.inl rfl)
   ·exact .inl h8
  ·exact .inr (.inr h9),fun i v hi=>absurd hi (Nat.not_lt_zero _),h.ql,h.rl,Nat.le_refl _,h.nr,h.sz⟩
theorem BfsJ.old {rs:List RuB} {s u v:ByteArray} {m j:Nat} {R Q N:List ByteArray} (h:BfsJ rs s N u m R Q j) (hv:(resB rs u)[j]?=some v) (hm:v∈R):BfsJ rs s N u m R Q (j+1) :=
 ⟨h.s0,h.u0,h.qr,h.cl,fun i x hi hx=>by
  rcases Nat.lt_or_ge i j with h9|h9
  ·exact h.res i x h9 hx
  ·rw [show i=j by omega,hv] at hx;cases hx;exact hm,h.ql,h.rl,h.mu,h.nr,h.sz⟩
theorem BfsJ.new {rs:List RuB} {s u v:ByteArray} {m j:Nat} {R Q N:List ByteArray} (h:BfsJ rs s N u m R Q j) (hv:(resB rs u)[j]?=some v) (hl:R.length+1≤4096) (hz:v.size≤200):BfsJ rs s N u m (R++[v]) (Q++[v]) (j+1):=by
 have hR:∀ z∈R,z∈R++[v]:=fun z hz=>List.mem_append_left _ hz
 have hlast:v∈R++[v]:=List.mem_append_right _ (.head _)
 have e1:(R++[v]).length=R.length+1:=by rw [List.length_append,List.length_singleton]
 have e2:(Q++[v]).length=Q.length+1:=by rw [List.length_append,List.length_singleton]
 have h1:=h.mu
 have h2:=h.ql
 refine ⟨hR _ h.s0,hR _ h.u0,fun z hz=>?_,fun z hz=>?_,fun i x hi hx=>?_,by omega,by omega,by omega,fun z hz=>hR z (h.nr z hz),fun z hz9=>?_⟩
 ·rcases List.mem_append.1 hz with h9|h9
  ·exact hR z (h.qr z h9)
  ·rw [List.mem_singleton] at h9;subst h9;exact hlast
 ·rcases List.mem_append.1 hz with h9|h9
  ·rcases h.cl z h9 with h8|h8|h8
   ·exact .inl (List.mem_append_left _ h8)
   ·exact .inr (.inl h8)
   ·exact .inr (.inr (h8.mono hR fun _ h=>h))
  ·rw [List.mem_singleton] at h9;subst h9;exact .inl (List.mem_append_right _ (.head _))
 ·rcases Nat.lt_or_ge i j with h9|h9
  ·exact hR x (h.res i x h9 hx)
  ·rw [show i=j by omega,hv] at hx;cases hx;exact hlast
 ·rcases List.mem_append.1 hz9 with h9|h9
  ·exact h.sz z h9
  ·rw [List.mem_singleton] at h9;subst h9;exact hz
theorem BfsJ.done {rs:List RuB} {s u:ByteArray} {m:Nat} {R Q N N':List ByteArray} (h:BfsJ rs s N u m R Q (resB rs u).length) (hn:N'.Nodup) (hN:∀ z∈N,z∈N') (hN2:∀ z∈N',z∈N∨z=u) (hu:resB rs u=[]→u∈N'):BfsI rs s R Q N':=by
 have hg:goodW rs R N' u:=⟨fun v hv=>by
  obtain⟨i,hi⟩:=List.mem_iff_getElem?.1 hv
  exact h.res i v (List.getElem?_eq_some_iff.1 hi).1 hi,hu⟩
 refine ⟨h.s0,h.qr,fun z hz=>?_,by have:=h.ql;omega,h.rl,hn,fun z hz=>?_,h.sz⟩
 ·rcases h.cl z hz with h8|rfl|h8
  ·exact .inl h8
  ·exact .inr hg
  ·exact .inr (h8.mono (fun _ h=>h) hN)
 ·rcases hN2 z hz with h9|rfl
  ·exact h.nr z h9
  ·exact h.u0
theorem BfsI.done {rs:List RuB} {s:ByteArray} {R N:List ByteArray} (hok:rusOk rs) (h:BfsI rs s R [] N):0<N.length∧N.length≤4096∧(N.length=1→uniW (rusL rs) s.data.toList):=by
 have hall:∀ n,rchW (rusL rs) s.data.toList n→nrmW (rusL rs) n→n∈N.map fun z=>z.data.toList:=by
  refine bfsW (R:=R.map fun z=>z.data.toList) (List.mem_map_of_mem (f:=fun z:ByteArray=>z.data.toList) h.s0) (fun u hu v hv=>?_) (fun u hu hn=>?_)
  ·obtain⟨z,hz,rfl⟩:=List.mem_map.1 hu
   have hg:=(h.cl z hz).resolve_left (fun h9=>by cases h9)
   have h9:=hg.1 ⟨v.toArray⟩ ((resB_iff hok).2 (by simpa using hv))
   have h8:=List.mem_map_of_mem (f:=fun z:ByteArray=>z.data.toList) h9
   simpa using h8
  ·obtain⟨z,hz,rfl⟩:=List.mem_map.1 hu
   have hg:=(h.cl z hz).resolve_left (fun h9=>by cases h9)
   exact List.mem_map_of_mem (f:=fun z:ByteArray=>z.data.toList) (hg.2 ((resB_nil hok).2 hn))
 obtain⟨v,h1,h2⟩:=nf_exW hok.dwn _ s.data.toList (Nat.lt_succ_self _)
 have h3:=List.length_pos_of_mem (hall v h1 h2)
 rw [List.length_map] at h3
 refine ⟨h3,Nat.le_trans (sub_lenW h.nn h.nr) h.rl,fun hN=>uniW_one hall (by rw [List.length_map];exact hN)⟩
end Go.Proofs.YtbfcfpmholkmeaaGreatDoor
namespace Go.Proofs.YtbfcfpmholkmeaaGreatDoor
open Go.RowKit Go.Shelf Go.Sort Go.Lib
set_option maxRecDepth 100000
set_option maxHeartbeats 1000000
variable {α:Type} [Inhabited α]

theorem heap_sortWorld {enc:α→Value} {w:World} {g m:Nat} {d':Array α} {os:Array Obj} {b:Nat} (hb:b<w.heap.size):(sortWorld enc w g 0 m d' os).heap[b]?=(w.heap[b]?).map (fun o=>if b=g then onCells (putCells enc 0 d') o else o):=by
 unfold sortWorld putRow mapBlock grow Sort.ahead
 simp only [Array.getElem?_append,Array.size_modify,hb,if_true,Array.getElem?_modify]
 by_cases h:g=b
 ·subst h
  simp
 ·rw [if_neg h]
  have:¬ b=g:=fun e=>h e.symm
  simp [this]
theorem putCells_at {enc:α→Value} {d':Array α} {cur:Array Value} (j:Nat) (hj:j<d'.size) (hc:j<cur.size):(putCells enc 0 d' cur)[j]?=some (enc d'[j]!):=by
 unfold putCells
 rw [Array.getElem?_mapIdx,Array.getElem?_eq_getElem hc]
 simp [hj]
theorem putCells_size {enc:α→Value} {d':Array α} {cur:Array Value}:(putCells enc 0 d' cur).size=cur.size:=by unfold putCells;simp
theorem below_sortWorld {enc:α→Value} {w:World} {B g m:Nat} {d':Array α} {os:Array Obj} (hB:B≤w.heap.size) (hg:B≤g):Below B w (sortWorld enc w g 0 m d' os):=by
 refine ⟨rfl,rfl,rfl,?_,fun k hk=>?_⟩
 ·show w.heap.size≤(grow (putRow enc (Sort.ahead w m) g 0 d') os).heap.size
  rw [size_grow,size_putRow]
  show w.heap.size≤w.heap.size+os.size
  omega
 ·rw [heap_sortWorld (b:=k) (by omega)]
  have:¬ k=g:=by omega
  cases w.heap[k]? <;> simp [this]
theorem sort_cls {w0 w:World} {e cap n g:Nat} {H:List HA} {enc:α→Value} {d d':Array α} {m:Nat} {os:Array Obj} (hw:Cls w0 w (row e 1 (some ⟨g,0,none⟩) cap n (d.toList.map enc)::H)) (hd:d.size=n) (hs:d'.size=d.size) :
  Cls w0 (sortWorld enc w g 0 m d' os) (row e 1 (some ⟨g,0,none⟩) cap n (d'.toList.map enc)::H):=by
 obtain⟨F,h1,h2,h3⟩:=hw.sep
 obtain⟨hxl,hrow⟩:=h1 0 _ rfl
 rcases hrow with⟨h9,-⟩|⟨g',cur,hA,hf,hn,hc,hcs,ht⟩
 ·cases h9
 cases hA
 have hg:=h2 0 g (.cells cur e (0,0)) (by simp) (by rw [hf];simp [one])
 have hgl:=lt_of_heap hg.2
 have hlt:w0.heap.size≤w.heap.size:=hw.below.size
 refine ⟨hw.below.trans (below_sortWorld hlt hg.1),?_⟩
 refine hw.sep.turn (k:=0) (b:=g) (o := .cells (putCells enc 0 d' cur) e (0,0)) rfl (fun f hf=>?_) (fun c hc hcl=>?_) ?_ ?_
 ·rcases hf.2 with⟨h9,-⟩|⟨g',cur',hA',hf',-⟩
  ·cases h9
  ·cases hA';exact⟨_,hf'⟩
 ·rw [heap_sortWorld hcl]
  cases w.heap[c]? with
  | none=>rfl
  | some o=>simp [hc]
 ·rw [heap_sortWorld hgl,hg.2]
  simp [onCells]
 ·refine ⟨by rw [List.length_map,Array.length_toList];omega, .inr ⟨g,_,rfl,rfl,hn,hc,by rw [putCells_size];exact hcs,?_⟩⟩
  refine List.ext_getElem? fun j=>?_
  by_cases hj:j<n * 1
  ·rw [List.getElem?_take_of_lt hj,Array.getElem?_toList,putCells_at j (by omega) (by omega),List.getElem?_map,Array.getElem?_toList,Array.getElem?_eq_getElem (by omega)]
   simp [show j<d'.size by omega]
  ·rw [List.getElem?_eq_none (by rw [List.length_take,Array.length_toList,putCells_size];omega),List.getElem?_eq_none (by rw [List.length_map,Array.length_toList];omega)]
theorem sort_holds {w0 w:World} {e cap n g:Nat} {H:List HA} {enc:α→Value} {d:Array α} (hw:Cls w0 w (row e 1 (some ⟨g,0,none⟩) cap n (d.toList.map enc)::H)) (hd:d.size=n):Go.Sort.Holds enc w g 0 d∧g<w.heap.size:=by
 obtain⟨F,h1,h2,h3⟩:=hw.sep
 obtain⟨hxl,hrow⟩:=h1 0 _ rfl
 rcases hrow with⟨h9,-⟩|⟨g',cur,hA,hf,hn,hc,hcs,ht⟩
 ·cases h9
 cases hA
 have hg:=h2 0 g (.cells cur e (0,0)) (by simp) (by rw [hf];simp [one])
 refine ⟨fun j hj=>⟨?_,?_⟩,lt_of_heap hg.2⟩
 ·have h5:(d.toList.map enc)[j]?=some (enc d[j]!):=by
   rw [List.getElem?_map,Array.getElem?_toList,Array.getElem?_eq_getElem hj];simp [hj]
  rw [← ht,List.getElem?_take_of_lt (by omega),Array.getElem?_toList] at h5
  simp [World.cell?,hg.2,h5]
 ·simp [World.frozen?,hg.2]
theorem permIn_all {d d':Array α} (h:PermIn 0 d.size d d'):d'.size=d.size∧d'.toList.Perm d.toList:=by
 obtain⟨h1,-,h3⟩:=h
 refine ⟨h1,?_⟩
 have e1:d.extract 0 d.size=d:=by simp
 have e2:d'.extract 0 d.size=d':=by rw [← h1];simp
 rw [e1,e2] at h3
 exact h3
theorem sortedIn_all {lt:α→α→Bool} {d:Array α} {n:Nat} (hn:d.size=n) (h:SortedIn lt 0 n d):d.toList.Pairwise fun a b=>lt b a=false:=by
 rw [List.pairwise_iff_getElem]
 intro i j hi hj hij
 rw [Array.length_toList] at hi hj
 have:=h i j (Nat.zero_le _) hij (by omega)
 simpa [hi,hj] using this
end Go.Proofs.YtbfcfpmholkmeaaGreatDoor
namespace Go.Proofs.YtbfcfpmholkmeaaGreatDoor
open Go.RowKit Go.Shelf Go.Proofs Go.Sort Go.Lib
set_option maxRecDepth 100000
set_option maxHeartbeats 2000000

theorem keysM_spec (b:Nat) (w:World):Spec Tryz.prog 62 [.map (some b)] w (fun v R=>∃ b1:Nat,True∧v = .func (.func 104) #[] #[.pointer (some ⟨b1,0,none⟩)]∧R=[blk b1 [.map (some b)] 115]):=by
 refine spec_of sg Tryz.func62 rfl rfl rfl ?_
 repeat' (first|(show T _ (.ops _ (⟨_, .box _ _,_,_,_,_⟩::_)::_) _ _ _;refine T_op (OpT.box (cs:=[.map (some b)]) rfl rfl rfl rfl rfl rfl rfl (fun _=>?_)))|refine d1 ?_|refine dd ?_|(show ∀ _:Nat,T _ _ _ _ _;intro _)|(show T _ (.code .ret::_) _ _ _;refine T_retV _ rfl (Hle.refl _) ⟨_,trivial,rfl,rfl⟩))
theorem keysM_iter {w0:World} {b b1:Nat} {es:Array MapEntry} {clock:Nat} {l:List (ByteArray × Value)} (hb:RdC w0 b1 0 [.map (some b)]) (hm:w0.heap[b]?=some (.map es clock)) (hl:es.toList.map (fun e=>(e.key,e.val))=l.map (fun p=>(Value.string p.1,p.2))) (hbo:bornOk es clock) :
  IterO Tryz.prog w0 104 [] [.pointer (some ⟨b1,0,none⟩)] [] (fun j x B=>∃ z:ByteArray,x=[.string z]∧B=[]) es.size:=by
 have hold:∀ (H:List HA) (w:World),Cls w0 w H→w.heap[b]?=some (.map es clock):=fun H w hw=>(hw.below.block b (lt_of_heap hm)).trans hm
 have hkey:∀ e∈es.toList,∃ z:ByteArray,e.key = .string z:=fun e he=>by
  have h1:(e.key,e.val)∈es.toList.map (fun e=>(e.key,e.val)):=List.mem_map_of_mem (f:=fun e:MapEntry=>(e.key,e.val)) he
  rw [hl] at h1
  obtain⟨p,-,hp⟩:=List.mem_map.1 h1
  exact⟨p.1,(Prod.mk.inj hp).1.symm⟩
 refine iterO_of sg Tryz.func104 rfl rfl rfl ?_
 intro l' GQ X Hj hY h0
 show T _ _ _ _ Hj
 repeat' (first|refine d1 ?_|(show T _ (.ops _ (_::_)::_) _ _ _;first|refine T_val rfl (Val.load rfl (fun hg=>rdOld hb)) rfl rfl rfl ?_|refine T_valC rfl (Val.load rfl (fun hg=>rdOld hb)) rfl rfl rfl rfl rfl ?_)|(show T _ (.run _ _ (_::_) _ _::_) _ _ _;first|refine rv rfl rfl rfl (Val.load rfl (fun hg=>rdOld hb)) rfl rfl rfl ?_|refine rg rfl rfl rfl (Val.load rfl (fun hg=>rdOld hb)) rfl rfl rfl rfl rfl ?_)|(show ∀ _:Nat,T _ _ _ _ _;intro _))
 refine T_op (OpT.rangeMap rfl rfl rfl rfl rfl Tryz.underlying115 (fun w hw=>hold _ w hw) (fun r=>?_))
 repeat' (first|refine d1 ?_|(show ∀ _:Nat,T _ _ _ _ _;intro _))
 refine T_loopX (fun z:Nat × List HA=>[]) (fun z=>itm r b es clock (es.size - z.1)::z.2) (fun z=>z.1≤es.size∧GQ z.1 z.2) (fun z=>es.size - z.1) (0,Hj) ⟨Nat.zero_le _,h0⟩ ?_
 rintro⟨i,H1⟩ ⟨hi,hG⟩
 dsimp only at hi hG ⊢
 repeat' (first|refine d1 ?_|(show ∀ _:Nat,T _ _ _ _ _;intro _))
 refine T_op (OpT.nextMap rfl rfl rfl rfl rfl (fun w hw=>hold _ w hw) hbo (fun hz=>?_) (fun e he hpos=>?_))
 ·obtain rfl:i=es.size:=by omega
  repeat' (first|refine d1 ?_|(show ∀ _:Nat,T _ _ _ _ _;intro _))
  refine T_if rfl (fun h=>by cases h) (fun _=>?_)
  repeat' (first|refine d1 ?_|(show ∀ _:Nat,T _ _ _ _ _;intro _))
  exact T_ifall rfl H1 hG (Hle.tail _ _)
 ·obtain⟨z,hz⟩:=hkey e he
  repeat' (first|refine d1 ?_|(show ∀ _:Nat,T _ _ _ _ _;intro _))
  refine T_if rfl (fun _=>?_) (fun h=>by cases h)
  repeat' (first|refine d1 ?_|(show ∀ _:Nat,T _ _ _ _ _;intro _))
  refine T_op (OpT.entryMap rfl rfl rfl rfl rfl (fun w hw=>hold _ w hw) hbo he ?_)
  rw [hz]
  repeat' (first|refine d1 ?_|(show ∀ _:Nat,T _ _ _ _ _;intro _))
  refine T_op (OpT.yieldO [] [itl r b es clock (es.size - i - 1) e] hY rfl rfl (fun _ _=>Holds.nil _ _) rfl rfl rfl (show i<es.size by omega) ⟨z,rfl,rfl⟩ hG (Hle.comm [_] H1) (fun H2 hG2=>?_) (fun Y hX=>?_))
  ·refine T_le (H':=itm r b es clock (es.size - (i+1))::H2) (by rw [show es.size - (i+1)=es.size - i - 1 by omega];exact itl_itm) ?_
   repeat' (first|refine d1 ?_|(show ∀ _:Nat,T _ _ _ _ _;intro _))
   refine T_if rfl (fun h3=>by exfalso;simp at h3) (fun _=>?_)
   repeat' (first|refine d1 ?_|(show ∀ _:Nat,T _ _ _ _ _;intro _))
   exact T_backX (i+1,H2) ⟨by dsimp only;omega,hG2⟩ (by dsimp only;omega)
  ·refine T_le (H':=Y) (Hle.tail _ _) ?_
   repeat' (first|refine d1 ?_|(show ∀ _:Nat,T _ _ _ _ _;intro _))
   refine T_if rfl (fun _=>?_) (fun h3=>by exfalso;simp at h3)
   repeat' (first|refine d1 ?_|(show ∀ _:Nat,T _ _ _ _ _;intro _)|(show T _ (.code .ret::_) _ _ _;refine T_istop rfl Y hX (Hle.refl _)))
def itS (f:FuncId) (b1 n:Nat) (w:World):Prop:=IterO Tryz.prog w f [] [.pointer (some ⟨b1,0,none⟩)] [] (fun j x B=>∃ z:ByteArray,x=[.string z]∧B=[]) n
theorem appendSeqS_spec {f:FuncId} (b1 n:Nat) (w:World) (hit:itS f b1 n w) (hnb:n≤1000000) :
  Spec Tryz.prog 142 [.slice none 0 0, .func (.func f) #[] #[.pointer (some ⟨b1,0,none⟩)]] w (fun v R=>∃ x:(Option Addr × Nat) × List ByteArray,x.2.length=n∧v = .slice x.1.1 n x.1.2∧R=[row 9 1 x.1.1 x.1.2 n (x.2.map Value.string)]):=by
 refine spec_of sg Tryz.func142 rfl rfl rfl ?_
 repeat' (first|(show T _ (.ops _ (⟨_, .box _ _,_,_,_,_⟩::_)::_) _ _ _;refine T_op (OpT.box (cs:=[.slice none 0 0]) rfl rfl rfl rfl rfl rfl rfl (fun _=>?_)))|refine d1 ?_|refine dd ?_|(show ∀ _:Nat,T _ _ _ _ _;intro _))
 rename_i p2
 refine T_nilrow 9 1 ?_
 refine T_rangeO hit rfl (fun j x B hj hQ=>by obtain⟨z,rfl,rfl⟩:=hQ;exact⟨rfl,rfl⟩)
  (fun j H=>∃ x:(Option Addr × Nat) × List ByteArray,x.2.length=j∧H=[blk p2 [.slice x.1.1 j x.1.2] 58,row 9 1 x.1.1 x.1.2 j (x.2.map Value.string)]) (fun _=>False) (fun _ _=>False) [blk p2 [.slice none 0 0] 58,row 9 1 none 0 0 []] ⟨((none,0),[]),rfl,rfl⟩ Hle.srtV ?_ ?_ (fun _ _ h=>h.elim) (fun _ _ _ h=>h.elim)
 ·rintro Lp r5 j x B Hj K2 hr5 hj hQ ⟨⟨⟨A',c'⟩,xs⟩,hxl,rfl⟩
  obtain⟨z,rfl,rfl⟩:=hQ
  dsimp only at hxl
  show T _ _ ((7, .string z)::_) _ (lrec Lp r5::blk p2 [.slice A' j c'] 58::row 9 1 A' c' j (xs.map Value.string)::K2)
  repeat' (first|refine d1 ?_|refine dd ?_|(show ∀ _:Nat,T _ _ _ _ _;intro _))
  refine T_begin hr5 rfl ?_
  repeat' (first|refine d1 ?_|refine dd ?_|(show T _ (.ops _ (_::_)::_) _ _ _;refine T_op (OpT.append (A:=A') rfl rfl rfl rfl rfl rfl rfl rfl rfl rfl (fun w hw=>Src.own hw rfl) rfl (by dsimp only;omega) (by omega) (fun A2 c2 hA2=>?_)))|(show ∀ _:Nat,T _ _ _ _ _;intro _))
  rename_i b3
  refine T_next [blk p2 [.slice A2 (j+1) c2] 58,row 9 1 A2 c2 (j+1) ((xs++[z]).map Value.string)] ⟨((A2,c2),xs++[z]),by rw [List.length_append,hxl];rfl,rfl⟩ ?_
  rw [List.map_append]
  exact Hle.tail _ _
 ·rintro D Hn ⟨⟨⟨A',c'⟩,xs⟩,hxl,rfl⟩
  dsimp only at hxl
  show T _ _ _ _ (dfr D::blk p2 [.slice A' n c'] 58::row 9 1 A' c' n (xs.map Value.string)::[])
  repeat' (first|refine d1 ?_|refine dd ?_|(show ∀ _:Nat,T _ _ _ _ _;intro _))
  exact T_retD (H':=[row 9 1 A' c' n (xs.map Value.string)]) (Hle.srtV (K:=dfr D::[row 9 1 A' c' n (xs.map Value.string)])) (rf_V (vs:=[.slice A' n c']) _ rfl (Hle.refl _) ⟨((A',c'),xs),hxl,rfl,rfl⟩)
theorem collectS_spec {f:FuncId} (b1 n:Nat) (w:World) (hit:∀ w',Below w.heap.size w w'→itS f b1 n w') (hnb:n≤1000000) :
  Spec Tryz.prog 102 [.func (.func f) #[] #[.pointer (some ⟨b1,0,none⟩)]] w (fun v R=>∃ x:(Option Addr × Nat) × List ByteArray,x.2.length=n∧v = .slice x.1.1 n x.1.2∧R=[row 9 1 x.1.1 x.1.2 n (x.2.map Value.string)]):=by
 refine spec_of sg Tryz.func102 rfl rfl rfl ?_
 repeat' (first|refine d1 ?_|refine dd ?_|(show T _ (.ops _ (_::_)::_) _ _ _;refine T_op (OpT.call rfl rfl rfl rfl rfl (fun w hw=>appendSeqS_spec b1 n w (hit w hw.below) hnb) ?_))|(show ∀ _:Nat,T _ _ _ _ _;intro _))
 rintro v R ⟨⟨⟨A',c'⟩,xs⟩,hxl,rfl,rfl⟩
 dsimp only at hxl ⊢
 repeat' (first|refine d1 ?_|refine dd ?_|(show ∀ _:Nat,T _ _ _ _ _;intro _)|(show T _ (.code .ret::_) _ _ _;refine T_retV _ rfl (Hle.refl _) ⟨((A',c'),xs),hxl,rfl,rfl⟩))
theorem sortS_spec {w0:World} {cap g n:Nat} {xs:List ByteArray} (hn:xs.length=n) (hn2:n≤1000000) :
  SpecB Tryz.prog 103 [.slice (some ⟨g,0,none⟩) n cap] w0 [row 9 1 (some ⟨g,0,none⟩) cap n (xs.map Value.string)]
   (fun v R=>v = .tuple #[]∧∃ ys:List ByteArray,ys.length=n∧R=[row 9 1 (some ⟨g,0,none⟩) cap n (ys.map Value.string)]):=by
 refine ⟨enters_of rfl rfl rfl,fun w hw=>?_⟩
 have henc:∀ z:ByteArray,encStr z.data.toList = .string z:=fun z=>by show Value.string ⟨z.data.toList.toArray⟩=_;simp
 have e1:xs.map Value.string=((xs.map fun z=>z.data.toList).toArray.toList.map encStr):=by
  rw [List.toList_toArray,List.map_map]
  exact List.map_congr_left fun z _=>(henc z).symm
 have hl1:((xs.map fun z=>z.data.toList).toArray).size=n:=by simp [hn]
 rw [e1] at hw
 obtain⟨hH,hblk⟩:=sort_holds hw hl1
 have hc:=Tryz.slices_Sort_string g 0 cap (xs.map fun z=>z.data.toList) w hH hblk (by rw [List.length_map];omega)
 rw [List.length_map,hn] at hc
 refine hc.mono fun e w' hh=>?_
 obtain⟨rfl,k,os,rfl⟩:=hh
 have hsz:((xs.map fun z=>z.data.toList).mergeSort fun x y=>decide (x≤y)).length=n:=by rw [List.length_mergeSort,List.length_map,hn]
 generalize ((xs.map fun z=>z.data.toList).mergeSort fun x y=>decide (x≤y))=ss at hsz
 have hfin:=sort_cls (d':=ss.toArray) (m:=k) (os:=os) hw hl1 (by rw [hl1];simpa using hsz)
 have e2:ss.toArray.toList.map encStr=(ss.map fun l=>(⟨l.toArray⟩:ByteArray)).map Value.string:=by
  rw [List.toList_toArray,List.map_map];rfl
 rw [e2] at hfin
 exact⟨.tuple #[],_,rfl,⟨rfl,_,by rw [List.length_map];exact hsz,rfl⟩,hfin.below,hfin.sep⟩
theorem sortedS_spec {f:FuncId} (b1 n:Nat) (w:World) (hit:∀ w',Below w.heap.size w w'→itS f b1 n w') (h0:0<n) (hnb:n≤1000000) :
  Spec Tryz.prog 61 [.func (.func f) #[] #[.pointer (some ⟨b1,0,none⟩)]] w (fun v R=>∃ x:(Option Addr × Nat) × List ByteArray,x.2.length=n∧v = .slice x.1.1 n x.1.2∧R=[row 9 1 x.1.1 x.1.2 n (x.2.map Value.string)]):=by
 refine spec_of sg Tryz.func61 rfl rfl rfl ?_
 repeat' (first|refine d1 ?_|(show ∀ _:Nat,T _ _ _ _ _;intro _))
 refine T_op (OpT.call rfl rfl rfl rfl rfl (fun w hw=>collectS_spec b1 n w (fun w' hb=>hit w' (hw.below.trans (hb.mono hw.below.size))) hnb) ?_)
 rintro v R ⟨⟨⟨A',c'⟩,xs⟩,hxl,rfl,rfl⟩
 dsimp only at hxl ⊢
 refine T_le (H':=[row 9 1 A' c' n (xs.map Value.string)]) (Hle.refl _) ?_
 refine T_rowpos (A:=A') h0 fun g e=>?_
 subst e
 repeat' (first|refine d1 ?_|(show T _ (.ops _ (_::_)::_) _ _ _;refine T_op (OpT.callB rfl rfl rfl rfl rfl (sortS_spec hxl hnb) (fun u R hR=>?_)))|(show ∀ _:Nat,T _ _ _ _ _;intro _))
 obtain⟨rfl,ys,hyl,rfl⟩:=hR
 repeat' (first|refine d1 ?_|(show ∀ _:Nat,T _ _ _ _ _;intro _)|(show T _ (.code .ret::_) _ _ _;refine T_retV _ rfl (Hle.refl _) ⟨((some ⟨g,0,none⟩,c'),ys),hyl,rfl,rfl⟩))
end Go.Proofs.YtbfcfpmholkmeaaGreatDoor
namespace Go.Proofs.YtbfcfpmholkmeaaGreatDoor
open Go.RowKit Go.Shelf Go.Proofs
set_option maxRecDepth 100000
set_option maxHeartbeats 4000000

theorem hle_swapW {A B:HA} {H:List HA}:Hle (A::B::H) (B::A::H):=Hle.perm (List.Perm.swap _ _ _)
theorem Val.toW {C:Cx} {all:Array Oper} {o:Oper} {env:Env} {ec:EnvC} {Hs:List HA} {G:GId} {v u:Value} (h:Val C all o env ec Hs G v) (e:v=u):Val C all o env ec Hs G u:=e ▸ h
theorem all_spec (A:Option Addr) (n c:Nat) (rs:List RuB) (s:ByteArray) (w:World) (hs:RsR w A n rs) (hok:rusOk rs) (hss:s.size≤200) :
  Spec Tryz.prog 34 [.slice A n c, .string s] w (fun v R=>∃ (P:Option Addr) (m cm:Nat) (e:Int),(e=0→m=1→uniW (rusL rs) s.data.toList)∧m≤4096∧v = .tuple #[.slice P m cm, .int .i64 e]∧R=[]):=by
 refine spec_of sg Tryz.func34 rfl rfl rfl ?_
 repeat' (first|refine d1 ?_|(show ∀ _:Nat,T _ _ _ _ _;intro _))
 rename_i b4 b5
 refine T_op (OpT.makeMap (inj:=Value.string) rfl rfl rfl rfl rfl (fun mr=>?_))
 repeat' (first|refine d1 ?_|(show ∀ _:Nat,T _ _ _ _ _;intro _))
 refine T_op (OpT.mapUp (inj:=Value.string) (a:=s) (v := .bool true) rfl rfl rfl Tryz.underlying115 (key_str Tryz.underlying9) (fun w hw=>⟨trivial,fun p hp=>trivial⟩) ?_)
 repeat' (first|refine d1 ?_|(show ∀ _:Nat,T _ _ _ _ _;intro _))
 refine T_op (OpT.makeMap (inj:=Value.string) rfl rfl rfl rfl rfl (fun mn=>?_))
 repeat' (first|refine d1 ?_|(show ∀ _:Nat,T _ _ _ _ _;intro _))
 rename_i b6 b17 b8
 refine T_le (H':=[blk b17 [.string s] 9,blk b8 [.slice (some ⟨b17,0,none⟩) 1 1] 58,blk b6 [.map (some mr)] 115,mph Value.string mn (trL []),mph Value.string mr (trL [s]),blk b5 [.int .i64 0] 31,blk b4 [.slice none 0 0] 58]) hle_swapW ?_
 refine T_le (que_of (xs:=[.string s]) (show 1≤maxLen by decide)) ?_
 refine T_le hle_swapW ?_
 refine T_loopDX (Dl:=[]) (fun s=>[]) (fun s:(List ByteArray × List ByteArray × List ByteArray) × (Nat × Nat × Nat) × List Nat=>blk b8 [.slice (some ⟨s.2.1.1,s.2.1.2.1,none⟩) s.1.2.1.length s.2.1.2.2] 58::que 9 (some ⟨s.2.1.1,s.2.1.2.1,none⟩) s.2.1.2.2 s.1.2.1.length (s.1.2.1.map Value.string)::blk b6 [.map (some mr)] 115::mph Value.string mn (trL s.1.2.2)::mph Value.string mr (trL s.1.1)::blk b5 [.int .i64 0] 31::blk b4 [.slice none 0 0] 58::[]) (fun s=>s.2.2) (fun q=>BfsI rs s q.1.1 q.1.2.1 q.1.2.2) (fun s=>s.1.2.1.length+2 * (4096 - s.1.1.length)) (([s],[s],[]),(b17,0,1),[]) (BfsI.start rs s hss) rfl (hG:=by exact Hle.refl _) ?_
 rintro⟨⟨R,Q,N⟩,⟨g,off,cq⟩,Dl⟩ hI
 dsimp only at hI
 show T _ _ _ _ (blk b8 [.slice (some ⟨g,off,none⟩) Q.length cq] 58::que 9 (some ⟨g,off,none⟩) cq Q.length (Q.map Value.string)::blk b6 [.map (some mr)] 115::mph Value.string mn (trL N)::mph Value.string mr (trL R)::blk b5 [.int .i64 0] 31::blk b4 [.slice none 0 0] 58::dfrs Dl)
 refine T_quecap (e:=9) (A:=some ⟨g,off,none⟩) fun hcap=>?_
 have hql:=hI.ql
 have hrl:=hI.rl
 repeat' (first|refine d1 ?_|(show ∀ _:Nat,T _ _ _ _ _;intro _))
 refine T_if rfl (fun h=>?_) (fun h=>?_)
 ·simp only [decide_eq_true_eq] at h
  cases Q with
  | nil=>exfalso;simp at h
  | cons u Q0 =>
  have hJ0:=hI.pop
  rw [List.length_cons] at hcap hql
  rw [List.map_cons,List.length_cons]
  repeat' (first|refine d1 ?_|(show T _ (.ops _ (_::_)::_) _ _ _;first|refine T_val rfl (Val.load rfl (fun hg=>(fun w hw=>rdQue (g:=g) (off:=off) w hw))) rfl rfl rfl ?_|refine T_valC rfl (Val.load rfl (fun hg=>(fun w hw=>rdQue (g:=g) (off:=off) w hw))) rfl rfl rfl rfl rfl ?_)|(show T _ (.run _ _ (_::_) _ _::_) _ _ _;first|refine rv rfl rfl rfl (Val.load rfl (fun hg=>(fun w hw=>rdQue (g:=g) (off:=off) w hw))) rfl rfl rfl ?_|refine rg rfl rfl rfl (Val.load rfl (fun hg=>(fun w hw=>rdQue (g:=g) (off:=off) w hw))) rfl rfl rfl rfl rfl ?_)|(show ∀ _:Nat,T _ _ _ _ _;intro _))
  rename_i b10
  obtain⟨off',ho⟩:∃ off',cutA (some ⟨g,off,none⟩) cq 1 1=some ⟨g,off',none⟩:=by
   unfold cutA
   split
   ·exact⟨_,rfl⟩
   ·exact⟨off+1,by simp [Addr.add]⟩
  have ho':cutA (some ⟨g,off,none⟩) cq (Int.toNat 1) 1=some ⟨g,off',none⟩:=ho
  rw [ho']
  have hq9:∀ (a b:HA) (H:List HA),Hle (a::b::que 9 (some ⟨g,off,none⟩) cq (Q0.length+1) (.string u::Q0.map Value.string)::H) (a::b::que 9 (some ⟨g,off',none⟩) (cq - 1) Q0.length (Q0.map Value.string)::H):=fun a b H=>by
   have h9:=que_tail (e:=9) (g:=g) (off:=off) (c:=cq) (n:=Q0.length+1) (x := .string u) (xs:=Q0.map Value.string) (H:=a::b::H)
   rw [ho] at h9
   exact (Hle.perm (List.perm_middle (l₁:=[a,b]))).trans (h9.trans (Hle.perm (List.perm_middle (l₁:=[a,b])).symm))
  refine T_le (H':=blk b10 [.bool true] 4::blk b8 [.slice (some ⟨g,off',none⟩) Q0.length (cq - 1)] 58::que 9 (some ⟨g,off',none⟩) (cq - 1) Q0.length (Q0.map Value.string)::blk b6 [.map (some mr)] 115::mph Value.string mn (trL N)::mph Value.string mr (trL R)::blk b5 [.int .i64 0] 31::blk b4 [.slice none 0 0] 58::dfrs Dl) (hq9 _ _ _) ?_
  have husz:=hJ0.sz u hJ0.u0
  refine T_op (OpT.call rfl rfl rfl rfl rfl (fun w hw=>results_spec A n c u w) ?_)
  rintro v R1 ⟨⟨y1,y2⟩,-,rfl,rfl⟩
  repeat' (first|refine d1 ?_|(show ∀ _:Nat,T _ _ _ _ _;intro _))
  refine T_rangeO (results_iter hs (by omega) y1 y2) rfl (fun j x B hj hQ=>by obtain⟨z,_,rfl,rfl⟩:=hQ;exact⟨rfl,rfl⟩)
   (fun j H=>∃ (R' Q':List ByteArray) (g' o' c':Nat),BfsJ rs s N u (Q0.length+2 * (4096 - R.length)) R' Q' j∧H=blk b10 [.bool (Nat.beq j 0)] 4::blk b8 [.slice (some ⟨g',o',none⟩) Q'.length c'] 58::que 9 (some ⟨g',o',none⟩) c' Q'.length (Q'.map Value.string)::blk b6 [.map (some mr)] 115::mph Value.string mn (trL N)::mph Value.string mr (trL R')::blk b5 [.int .i64 0] 31::blk b4 [.slice none 0 0] 58::dfrs Dl) (fun H=>H=blk b5 [.int .i64 4] 31::blk b4 [.slice none 0 0] 58::dfrs Dl) (fun _ _=>False) _ ⟨R,Q0,g,off',cq - 1,hJ0,rfl⟩ (Hle.refl _) ?_ ?_ ?_ (fun _ _ _ h=>h.elim)
  ·rintro Lp r5 j x B Hj K2 hr5 hj hQ ⟨R',Q',g',o',c',hJ,rfl⟩
   obtain⟨z,hz,rfl,rfl⟩:=hQ
   have hJl:=hJ.rl
   have hJq:=hJ.ql
   show T _ _ ((29, .string z)::_) _ (lrec Lp r5::blk b10 [.bool (Nat.beq j 0)] 4::blk b8 [.slice (some ⟨g',o',none⟩) Q'.length c'] 58::que 9 (some ⟨g',o',none⟩) c' Q'.length (Q'.map Value.string)::blk b6 [.map (some mr)] 115::mph Value.string mn (trL N)::mph Value.string mr (trL R')::blk b5 [.int .i64 0] 31::blk b4 [.slice none 0 0] 58::(dfrs Dl++K2))
   repeat' (first|refine d1 ?_|(show ∀ _:Nat,T _ _ _ _ _;intro _))
   refine T_begin hr5 rfl ?_
   repeat' (first|refine d1 ?_|(show T _ (.ops _ (_::_)::_) _ _ _;first|refine T_val rfl (Val.toW (Val.lookup (a:=z) (inj:=Value.string) rfl Tryz.underlying115 (key_str Tryz.underlying9) rfl rfl (fun w hw=>⟨trivial,fun _ _=>trivial⟩)) (show cond false _ _=_ from trL_get z R')) rfl rfl rfl ?_|refine T_valC rfl (Val.toW (Val.lookup (a:=z) (inj:=Value.string) rfl Tryz.underlying115 (key_str Tryz.underlying9) rfl rfl (fun w hw=>⟨trivial,fun _ _=>trivial⟩)) (show cond false _ _=_ from trL_get z R')) rfl rfl rfl rfl rfl ?_)|(show T _ (.run _ _ (_::_) _ _::_) _ _ _;first|refine rv rfl rfl rfl (Val.toW (Val.lookup (a:=z) (inj:=Value.string) rfl Tryz.underlying115 (key_str Tryz.underlying9) rfl rfl (fun w hw=>⟨trivial,fun _ _=>trivial⟩)) (show cond false _ _=_ from trL_get z R')) rfl rfl rfl ?_|refine rg rfl rfl rfl (Val.toW (Val.lookup (a:=z) (inj:=Value.string) rfl Tryz.underlying115 (key_str Tryz.underlying9) rfl rfl (fun w hw=>⟨trivial,fun _ _=>trivial⟩)) (show cond false _ _=_ from trL_get z R')) rfl rfl rfl rfl rfl ?_)|(show ∀ _:Nat,T _ _ _ _ _;intro _))
   refine T_if rfl (fun h2=>?_) (fun h2=>?_)
   ·have hnm:z ∉ R':=fun h9=>by rw [hasW_iff.2 h9] at h2;cases h2
    repeat' (first|refine d1 ?_|(show ∀ _:Nat,T _ _ _ _ _;intro _))
    refine T_op (OpT.mapUp (inj:=Value.string) (a:=z) (v := .bool true) rfl rfl rfl Tryz.underlying115 (key_str Tryz.underlying9) (fun w hw=>⟨trivial,fun p hp=>trivial⟩) ?_)
    rw [trL_new z hnm]
    have hln:(trL (R'++[z])).length=R'.length+1:=by unfold trL;rw [List.length_map,List.length_append,List.length_singleton]
    repeat' (first|refine d1 ?_|(show T _ (.ops _ (_::_)::_) _ _ _;first|refine T_val rfl (Val.lenMap rfl Tryz.underlying115) rfl rfl rfl ?_|refine T_valC rfl (Val.lenMap rfl Tryz.underlying115) rfl rfl rfl rfl rfl ?_)|(show T _ (.run _ _ (_::_) _ _::_) _ _ _;first|refine rv rfl rfl rfl (Val.lenMap rfl Tryz.underlying115) rfl rfl rfl ?_|refine rg rfl rfl rfl (Val.lenMap rfl Tryz.underlying115) rfl rfl rfl rfl rfl ?_)|(show ∀ _:Nat,T _ _ _ _ _;intro _))
    rw [hln]
    refine T_if rfl (fun h3=>?_) (fun h3=>?_)
    ·repeat' (first|refine d1 ?_|(show ∀ _:Nat,T _ _ _ _ _;intro _))
     exact T_rret _ rfl (Hle.srtT (A:=[_,_,_,_,_,_,_,_,_]) (K:=[_,_,_]) (dfrs Dl++K2))
    ·have h4:R'.length+1≤4096:=by simp only [decide_eq_false_iff_not] at h3;omega
     have hzs:z.size≤200:=by
      have h9:=rch_size hok (.one ((resB_iff hok).1 (List.mem_of_getElem? hz)))
      omega
     repeat' (first|refine d1 ?_|(show T _ (.ops _ (_::_)::_) _ _ _;refine T_op (OpT.appendQ rfl rfl rfl rfl rfl rfl rfl rfl (fun w hw=>Src.own hw rfl) (by decide) rfl (by dsimp only;omega) (by omega) (fun g2 o2 c2=>?_)))|(show ∀ _:Nat,T _ _ _ _ _;intro _))
     refine T_next _ ⟨R'++[z],Q'++[z],g2,o2,c2,hJ.new hz h4 hzs,rfl⟩ ?_
     rw [List.length_append,List.length_singleton,List.map_append]
     exact Hle.tail _ _
   ·have hm:z∈R':=hasW_iff.1 (by simpa using h2)
    repeat' (first|refine d1 ?_|(show ∀ _:Nat,T _ _ _ _ _;intro _))
    exact T_next _ ⟨R',Q',g',o',c',hJ.old hz hm,rfl⟩ (Hle.refl _)
  ·rintro D Hn ⟨R',Q',g',o',c',hJ,rfl⟩
   show T _ _ _ _ (dfr D::blk y1 [.string u] 9::blk y2 [.slice A n c] 22::blk b10 [.bool (Nat.beq (resB rs u).length 0)] 4::blk b8 [.slice (some ⟨g',o',none⟩) Q'.length c'] 58::que 9 (some ⟨g',o',none⟩) c' Q'.length (Q'.map Value.string)::blk b6 [.map (some mr)] 115::mph Value.string mn (trL N)::mph Value.string mr (trL R')::blk b5 [.int .i64 0] 31::blk b4 [.slice none 0 0] 58::dfrs Dl)
   have hmu:=hJ.mu
   repeat' (first|refine d1 ?_|(show ∀ _:Nat,T _ _ _ _ _;intro _))
   refine T_if rfl (fun h2=>?_) (fun h2=>?_)
   ·obtain⟨N',e1,e2,e3⟩:=trL_put hI.nn u
    repeat' (first|refine d1 ?_|(show ∀ _:Nat,T _ _ _ _ _;intro _))
    refine T_op (OpT.mapUp (inj:=Value.string) (a:=u) (v := .bool true) rfl rfl rfl Tryz.underlying115 (key_str Tryz.underlying9) (fun w hw=>⟨trivial,fun p hp=>trivial⟩) ?_)
    rw [e1]
    repeat' (first|refine d1 ?_|(show ∀ _:Nat,T _ _ _ _ _;intro _))
    exact T_backD ((R',Q',N'),(g',o',c'),D::Dl) (hJ.done e2 (fun z hz=>(e3 z).2 (.inl hz)) (fun z hz=>(e3 z).1 hz) (fun _=>(e3 u).2 (.inr rfl))) (by dsimp only;rw [List.length_cons];omega) rfl (hG:=Hle.srtT (A:=[_,_,_,_,_,_,_,_,_,_,_]) (K:=[_,_,_,_,_,_,_,_]) (dfrs Dl))
   ·have hne:resB rs u≠[]:=fun h9=>by rw [h9] at h2;cases h2
    repeat' (first|refine d1 ?_|(show ∀ _:Nat,T _ _ _ _ _;intro _))
    exact T_backD ((R',Q',N),(g',o',c'),D::Dl) (hJ.done hI.nn (fun z hz=>hz) (fun z hz => .inl hz) (fun h9=>absurd h9 hne)) (by dsimp only;rw [List.length_cons];omega) rfl (hG:=Hle.srtT (A:=[_,_,_,_,_,_,_,_,_,_,_]) (K:=[_,_,_,_,_,_,_,_]) (dfrs Dl))
  ·rintro D Hx rfl
   show T _ _ _ _ (dfr D::blk y1 [.string u] 9::blk y2 [.slice A n c] 22::blk b5 [.int .i64 4] 31::blk b4 [.slice none 0 0] 58::dfrs Dl)
   exact T_retDs (Dl:=D::Dl) [blk b5 [.int .i64 4] 31,blk b4 [.slice none 0 0] 58] (Hle.srtT (A:=[_,_,_,_,_]) (K:=[_,_,_]) (dfrs Dl)) (rf_M (ds:=[]) (vs:=[.slice none 0 0, .int .i64 4]) [] ⟨⟨b4,_,[.slice none 0 0],rfl,rfl,rfl,rfl,fun _=>rfl,rfl,rdOwn1 rfl⟩,⟨b5,_,[.int .i64 4],rfl,rfl,rfl,rfl,fun _=>rfl,rfl,rdOwn1 rfl⟩,trivial⟩ (Hle.none _) ⟨none,0,0,4,fun h=>by omega,by decide,rfl,rfl⟩)
 ·simp only [decide_eq_false_iff_not] at h
  cases Q with
  | cons u Q0=>exfalso;simp at h
  | nil =>
  obtain⟨hn0,hn1,hN⟩:=hI.done hok
  repeat' (first|refine d1 ?_|(show ∀ _:Nat,T _ _ _ _ _;intro _))
  refine T_op (OpT.call rfl rfl rfl rfl rfl (fun w hw=>keysM_spec mn w) ?_)
  rintro v R1 ⟨b1,-,rfl,rfl⟩
  refine T_le (H':=blk b1 [.map (some mn)] 115::mph Value.string mn (trL N)::blk b5 [.int .i64 0] 31::blk b4 [.slice none 0 0] 58::dfrs Dl) (Hle.srtT (A:=[_,_,_,_,_,_,_,_]) (K:=[_,_,_,_]) (dfrs Dl)) ?_
  repeat' (first|refine d1 ?_|(show ∀ _:Nat,T _ _ _ _ _;intro _))
  refine T_op (OpT.call rfl rfl rfl rfl rfl (fun w hw=>by
   obtain⟨es,clock,h1,h2,h3⟩:=hw.mapOfB (b:=mn)
   have hlen:es.size=N.length:=by
    have h9:=congrArg List.length h2
    unfold trL at h9
    simpa using h9
   have hbx:RdC w b1 0 [.map (some mn)]:=rdOwn1 (b:=b1) rfl w hw
   exact sortedS_spec b1 N.length w (fun w' hb=>by
    unfold itS
    rw [← hlen]
    exact keysM_iter (hbx.below hb) ((hb.block mn (lt_of_heap h1)).trans h1) h2 h3) hn0 (by omega)) ?_)
  rintro v R1 ⟨⟨⟨P,cp⟩,ks⟩,hkl,rfl,rfl⟩
  dsimp only at hkl ⊢
  refine T_le (H':=blk b5 [.int .i64 0] 31::blk b4 [.slice none 0 0] 58::dfrs Dl) (Hle.srtT (A:=[_,_,_,_,_]) (K:=[_,_]) (dfrs Dl)) ?_
  repeat' (first|refine d1 ?_|(show ∀ _:Nat,T _ _ _ _ _;intro _))
  exact T_retDs (Dl:=Dl) [blk b5 [.int .i64 0] 31,blk b4 [.slice P N.length cp] 58] (Hle.refl _) (rf_M (ds:=[]) (vs:=[.slice P N.length cp, .int .i64 0]) [] ⟨⟨b4,_,[.slice P N.length cp],rfl,rfl,rfl,rfl,fun _=>rfl,rfl,rdOwn1 rfl⟩,⟨b5,_,[.int .i64 0],rfl,rfl,rfl,rfl,fun _=>rfl,rfl,rdOwn1 rfl⟩,trivial⟩ (Hle.none _) ⟨P,N.length,cp,0,fun _ h=>hN h,hn1,rfl,rfl⟩)
end Go.Proofs.YtbfcfpmholkmeaaGreatDoor
namespace Go.Proofs.YtbfcfpmholkmeaaGreatDoor
open Go.RowKit Go.Shelf Go.Proofs
set_option maxRecDepth 100000
set_option maxHeartbeats 4000000

theorem critical_spec (A:Option Addr) (n c:Nat) (w:World):Spec Tryz.prog 60 [.slice A n c] w
  (fun v R=>∃ y:Nat,True∧v = .func (.func 100) #[] #[.pointer (some ⟨y,0,none⟩)]∧R=[blk y [.slice A n c] 22]):=by
 refine spec_of sg Tryz.func60 rfl rfl rfl ?_
 repeat' (first|(show T _ (.ops _ (⟨_, .box _ _,_,_,_,_⟩::_)::_) _ _ _;refine T_op (OpT.box (cs:=[.slice A n c]) rfl rfl rfl rfl rfl rfl rfl (fun _=>?_)))|refine d1 ?_|refine dd ?_|(show ∀ _:Nat,T _ _ _ _ _;intro _)|(show T _ (.code .ret::_) _ _ _;refine T_retV _ rfl (Hle.refl _) ⟨_,trivial,rfl,rfl⟩))
def triC (t:ByteArray × ByteArray × ByteArray):List Value:=[.string t.1, .string t.2.1, .string t.2.2]
theorem critical_iter {w0:World} {A:Option Addr} {n c:Nat} {rs:List RuB} (hs:RsR w0 A n rs) (b1:Nat) :
  IterO Tryz.prog w0 100 [] [.pointer (some ⟨b1,0,none⟩)] [blk b1 [.slice A n c] 22]
   (fun j x B=>∃ (g:Nat) (t:ByteArray × ByteArray × ByteArray),(crtR rs 0)[j]?=some t.1∧x=[.slice (some ⟨g,0,none⟩) 3 3]∧B=[blk g (triC t) 9]) (crtR rs 0).length:=by
 have hl:=hs.len
 have hn:=hs.n68
 refine iterO_of sg Tryz.func100 rfl rfl rfl ?_
 intro l' GQ X Hj hY h0
 show T _ _ _ _ (blk b1 [.slice A n c] 22::Hj)
 repeat' (first|refine d1 ?_|(show ∀ _:Nat,T _ _ _ _ _;intro _))
 refine T_loopX (fun z:Nat × List ByteArray × List HA=>[(14, .int .i64 (z.1:Nat))]) (fun z=>blk b1 [.slice A n c] 22::z.2.2) (fun z=>z.1≤n∧crtR rs 0=z.2.1++crtR rs z.1∧GQ z.2.1.length z.2.2) (fun z=>n - z.1) (0,[],Hj) ⟨Nat.zero_le _,rfl,h0⟩ ?_
 rintro⟨i,acc1,H1⟩ ⟨hi,hc1,hG1⟩
 dsimp only at hi hc1 hG1 ⊢
 repeat' (first|refine d1 ?_|(show ∀ _:Nat,T _ _ _ _ _;intro _))
 refine T_if rfl (fun h=>?_) (fun h=>?_)
 ·simp only [decide_eq_true_eq] at h
  have hil:i<rs.length:=by omega
  obtain⟨b,o,rfl⟩:=hs.s.base (by omega)
  obtain⟨x,hx⟩:∃ x,rs[i]?=some x:=⟨_,List.getElem?_eq_getElem hil⟩
  have hatx:=hs.at hx
  have hxs:=hs.sz x (List.mem_of_getElem? hx)
  have hxa:=ruAt_get hx
  rw [crtR_row hil] at hc1
  repeat' (first|refine d1 ?_|(show T _ (.ops _ (_::_)::_) _ _ _;first|refine T_val rfl (Val.load rfl (fun hg=>rdOld hatx)) rfl rfl rfl ?_|refine T_valC rfl (Val.load rfl (fun hg=>rdOld hatx)) rfl rfl rfl rfl rfl ?_)|(show T _ (.run _ _ (_::_) _ _::_) _ _ _;first|refine rv rfl rfl rfl (Val.load rfl (fun hg=>rdOld hatx)) rfl rfl rfl ?_|refine rg rfl rfl rfl (Val.load rfl (fun hg=>rdOld hatx)) rfl rfl rfl rfl rfl ?_)|(show ∀ _:Nat,T _ _ _ _ _;intro _))
  rename_i b4
  refine T_le (H':=blk b4 [.string x.1, .string x.2] 28::blk b1 [.slice (some ⟨b,o,none⟩) n c] 22::H1) (Hle.refl _) ?_
  refine T_loopX (fun z:Nat × List ByteArray × List HA=>[(21, .int .i64 (z.1:Nat))]) (fun z=>blk b4 [.string x.1, .string x.2] 28::blk b1 [.slice (some ⟨b,o,none⟩) n c] 22::z.2.2) (fun z=>z.1≤n∧crtR rs 0=z.2.1++(rowCr rs i z.1++crtR rs (i+1))∧GQ z.2.1.length z.2.2) (fun z=>n - z.1) (0,acc1,H1) ⟨Nat.zero_le _,hc1,hG1⟩ ?_
  rintro⟨j,acc2,H2⟩ ⟨hj,hc2,hG2⟩
  dsimp only at hj hc2 hG2 ⊢
  repeat' (first|refine d1 ?_|(show ∀ _:Nat,T _ _ _ _ _;intro _))
  refine T_if rfl (fun h2=>?_) (fun h2=>?_)
  ·simp only [decide_eq_true_eq] at h2
   have hjl:j<rs.length:=by omega
   obtain⟨y,hy⟩:∃ y,rs[j]?=some y:=⟨_,List.getElem?_eq_getElem hjl⟩
   have haty:=hs.at hy
   have hys:=hs.sz y (List.mem_of_getElem? hy)
   have hya:=ruAt_get hy
   rw [rowCr_cell hjl,hxa,hya,List.append_assoc] at hc2
   repeat' (first|refine d1 ?_|(show T _ (.ops _ (_::_)::_) _ _ _;first|refine T_val rfl (Val.load rfl (fun hg=>rdOld haty)) rfl rfl rfl ?_|refine T_valC rfl (Val.load rfl (fun hg=>rdOld haty)) rfl rfl rfl rfl rfl ?_)|(show T _ (.run _ _ (_::_) _ _::_) _ _ _;first|refine rv rfl rfl rfl (Val.load rfl (fun hg=>rdOld haty)) rfl rfl rfl ?_|refine rg rfl rfl rfl (Val.load rfl (fun hg=>rdOld haty)) rfl rfl rfl rfl rfl ?_)|(show ∀ _:Nat,T _ _ _ _ _;intro _))
   rename_i b6
   refine T_le (H':=blk b6 [.string y.1, .string y.2] 28::blk b4 [.string x.1, .string x.2] 28::blk b1 [.slice (some ⟨b,o,none⟩) n c] 22::H2) (Hle.refl _) ?_
   refine T_loopX (fun z:Nat × List ByteArray × List HA=>[(7, .int .i64 ((z.1+1:Nat):Int))]) (fun z=>blk b6 [.string y.1, .string y.2] 28::blk b4 [.string x.1, .string x.2] 28::blk b1 [.slice (some ⟨b,o,none⟩) n c] 22::z.2.2) (fun z=>z.1≤ovN x y∧crtR rs 0=z.2.1++(ovR x y i j z.1++(rowCr rs i (j+1)++crtR rs (i+1)))∧GQ z.2.1.length z.2.2) (fun z=>ovN x y - z.1) (0,acc2,H2) ⟨Nat.zero_le _,hc2,hG2⟩ ?_
   rintro⟨q,acc3,H3⟩ ⟨hq,hc3,hG3⟩
   dsimp only at hq hc3 hG3 ⊢
   have hov:ovN x y=min x.1.size y.1.size - 1:=rfl
   repeat' (first|refine d1 ?_|(show ∀ _:Nat,T _ _ _ _ _;intro _))
   refine T_if rfl (fun h3=>?_) (fun h3=>?_)
   ·simp only [decide_eq_true_eq] at h3
    have hqo:q<ovN x y:=by rw [hov];omega
    rw [ovR_step x y i j hqo,List.append_assoc] at hc3
    repeat' (first|refine d1 ?_|(show ∀ _:Nat,T _ _ _ _ _;intro _))
    obtain⟨hd,hhd⟩:∃ hd:ByteArray,hd=x.1.extract 0 (x.1.size - (q+1)):=⟨_,rfl⟩
    have hhs:hd.size=x.1.size - (q+1):=by rw [hhd,ByteArray.size_extract];omega
    have e9:x.1.extract (Int.toNat 0) ((x.1.size:Int) - ((q+1:Nat):Int)).toNat=hd:=by rw [hhd,show ((x.1.size:Int) - ((q+1:Nat):Int)).toNat=x.1.size - (q+1) by omega];rfl
    rw [e9]
    have hz1:(y.1.extract ((q+1:Nat):Int).toNat ((y.1.size:Nat):Int).toNat).size≤100:=by rw [ByteArray.size_extract];omega
    by_cases hp:preB y.1 (x.1.extract hd.size x.1.size)=true
    ·have hpc:∀ w,Spec Tryz.prog 101 [.string y.1, .string (x.1.extract hd.size x.1.size)] w (fun v R=>v = .bool true∧R=[]):=fun w=>by
      have h9:=hasPrefix_spec y.1 (x.1.extract hd.size x.1.size) w
      rw [hp] at h9
      exact h9
     have hz:ovB x y (q+1)=some (hd++y.1):=by unfold ovB;rw [← hhs,if_pos hp,hhs, ← hhd]
     refine rsH [blk b6 [.string y.1, .string y.2] 28,blk b4 [.string x.1, .string x.2] 28,blk b1 [.slice (some ⟨b,o,none⟩) n c] 22] 1000 [0,1,2,3,4,5,6,7,8,9,10,11,12,13,14,15,16,17,18,19,20,21,22,23,24,25,26,27,28] ?_
     repeat' (first|refine d1 ?_|refine dd ?_|(show T _ (.ops _ (_::_)::_) _ _ _;first|refine T_call rfl rfl rfl rfl rfl (fun w hw=>hpc w) ?_|refine T_callC rfl rfl rfl rfl rfl rfl rfl (fun hg w hw=>hpc w) ?_)|(show T _ (.run _ _ (_::_) _ _::_) _ _ _;first|refine rc rfl rfl rfl rfl rfl rfl rfl (fun w hw=>hpc w) ?_|refine rcG rfl rfl rfl rfl rfl rfl rfl rfl rfl (fun hg w hw=>hpc w) ?_)|(show ∀ _:Nat,T _ _ _ _ _;intro _))
     refine T_known 58 rfl rfl ?_
     refine T_known 65 rfl rfl ?_
     refine T_known 69 rfl rfl ?_
     refine ro rfl rfl (OpT.sure (p:=true) rfl rfl rfl (OpT.litW rfl rfl rfl rfl rfl rfl rfl rfl rfl rfl rfl (fun b9=>⟨fun _=>(Hle.tail _ _).trans (Hle.append_left (A:=[_,_,_]) H3),?_⟩)))
     repeat' (first|refine d1 ?_|refine dd ?_|(show ∀ _:Nat,T _ _ _ _ _;intro _))
     have hkj:(crtR rs 0)[acc3.length]?=some (hd++y.1):=by rw [hc3,hz];simp
     refine T_known 54 rfl rfl ?_
     refine ro rfl rfl (OpT.yieldO [blk b9 (triC (hd++y.1,x.2++y.1.extract ((q+1:Nat):Int).toNat ((y.1.size:Nat):Int).toNat,hd++y.2)) 9] [blk b6 [.string y.1, .string y.2] 28,blk b4 [.string x.1, .string x.2] 28,blk b1 [.slice (some ⟨b,o,none⟩) n c] 22] hY rfl rfl (Holds.of1 rfl rfl rfl) rfl rfl rfl (List.getElem?_eq_some_iff.1 hkj).1 ⟨b9,(hd++y.1,x.2++y.1.extract ((q+1:Nat):Int).toNat ((y.1.size:Nat):Int).toNat,hd++y.2),hkj,rfl,rfl⟩ hG3 (Hle.comm [_,_,_,_] H3) (fun H4 hG4=>⟨fun _=>Hle.append_left (A:=[_,_,_]) H4,?_⟩) (fun Y hX=>⟨fun _=>Hle.append_left (A:=[_,_,_]) Y,?_⟩))
     ·show T _ _ _ _ (blk b6 [.string y.1, .string y.2] 28::blk b4 [.string x.1, .string x.2] 28::blk b1 [.slice (some ⟨b,o,none⟩) n c] 22::H4)
      repeat' (first|refine d1 ?_|refine dd ?_|(show ∀ _:Nat,T _ _ _ _ _;intro _))
      refine T_if rfl (fun h4=>by exfalso;simp at h4) (fun _=>?_)
      repeat' (first|refine d1 ?_|(show ∀ _:Nat,T _ _ _ _ _;intro _))
      exact T_backX (q+1,acc3++[hd++y.1],H4) ⟨by dsimp only;omega,by dsimp only;rw [hc3,hz];simp,by dsimp only;rw [List.length_append];exact hG4⟩ (by dsimp only;omega)
     ·show T _ _ _ _ (blk b6 [.string y.1, .string y.2] 28::blk b4 [.string x.1, .string x.2] 28::blk b1 [.slice (some ⟨b,o,none⟩) n c] 22::Y)
      repeat' (first|refine d1 ?_|refine dd ?_|(show ∀ _:Nat,T _ _ _ _ _;intro _))
      refine T_if rfl (fun _=>?_) (fun h4=>by exfalso;simp at h4)
      repeat' (first|refine d1 ?_|refine dd ?_|(show ∀ _:Nat,T _ _ _ _ _;intro _)|(show T _ (.code .ret::_) _ _ _;refine T_istop rfl Y hX ((Hle.tail _ _).trans (Hle.tail _ _))))
    ·rw [Bool.not_eq_true] at hp
     have hpc:∀ w,Spec Tryz.prog 101 [.string y.1, .string (x.1.extract hd.size x.1.size)] w (fun v R=>v = .bool false∧R=[]):=fun w=>by
      have h9:=hasPrefix_spec y.1 (x.1.extract hd.size x.1.size) w
      rw [hp] at h9
      exact h9
     have hz:ovB x y (q+1)=none:=by unfold ovB;rw [← hhs,if_neg (by rw [hp];simp)]
     rw [hz] at hc3
     refine rsH [blk b6 [.string y.1, .string y.2] 28,blk b4 [.string x.1, .string x.2] 28,blk b1 [.slice (some ⟨b,o,none⟩) n c] 22] 1000 [0,1,2,3,4,5,6,7,8,9,10,11,12,13,14,15,16,17,18,19,20,21,22,23,24,25,26,27,28] ?_
     repeat' (first|refine d1 ?_|refine dd ?_|(show T _ (.ops _ (_::_)::_) _ _ _;first|refine T_call rfl rfl rfl rfl rfl (fun w hw=>hpc w) ?_|refine T_callC rfl rfl rfl rfl rfl rfl rfl (fun hg w hw=>hpc w) ?_)|(show T _ (.run _ _ (_::_) _ _::_) _ _ _;first|refine rc rfl rfl rfl rfl rfl rfl rfl (fun w hw=>hpc w) ?_|refine rcG rfl rfl rfl rfl rfl rfl rfl rfl rfl (fun hg w hw=>hpc w) ?_)|(show ∀ _:Nat,T _ _ _ _ _;intro _))
     refine ro rfl rfl (OpT.never (.slice none 0 0) rfl (fun hg9=>by have h10:(false:Bool)=true:=hg9.1;cases h10) rfl rfl rfl rfl rfl ⟨fun _=>Hle.append_left (A:=[_,_,_]) H3,?_⟩)
     repeat' (first|refine d1 ?_|refine dd ?_|(show ∀ _:Nat,T _ _ _ _ _;intro _))
     refine ro rfl rfl (OpT.never (.bool false) rfl (fun hg9=>by have h10:(false:Bool)=true:=hg9.1;cases h10) rfl rfl rfl rfl rfl ⟨fun _=>Hle.append_left (A:=[_,_,_]) H3,?_⟩)
     repeat' (first|refine d1 ?_|refine dd ?_|(show ∀ _:Nat,T _ _ _ _ _;intro _))
     refine T_if rfl (fun h4=>by exfalso;simp at h4) (fun _=>?_)
     repeat' (first|refine d1 ?_|(show ∀ _:Nat,T _ _ _ _ _;intro _))
     exact T_backX (q+1,acc3,H3) ⟨by dsimp only;omega,hc3,hG3⟩ (by dsimp only;omega)
   ·simp only [decide_eq_false_iff_not] at h3
    have hqo:ovN x y≤q:=by rw [hov];omega
    rw [ovR_end x y i j hqo] at hc3
    repeat' (first|refine d1 ?_|(show ∀ _:Nat,T _ _ _ _ _;intro _))
    refine T_loopX (fun z:Nat × List ByteArray × List HA=>[(77, .int .i64 (z.1:Nat))]) (fun z=>blk b6 [.string y.1, .string y.2] 28::blk b4 [.string x.1, .string x.2] 28::blk b1 [.slice (some ⟨b,o,none⟩) n c] 22::z.2.2) (fun z=>z.1≤x.1.size∧crtR rs 0=z.2.1++(inR x y i j z.1++(rowCr rs i (j+1)++crtR rs (i+1)))∧GQ z.2.1.length z.2.2) (fun z=>x.1.size - z.1) (0,acc3,H3) ⟨Nat.zero_le _,hc3,hG3⟩ ?_
    rintro⟨p,acc4,H4⟩ ⟨hp4,hc4,hG4⟩
    dsimp only at hp4 hc4 hG4 ⊢
    repeat' (first|refine d1 ?_|(show ∀ _:Nat,T _ _ _ _ _;intro _))
    refine T_if rfl (fun h4=>?_) (fun h4=>?_)
    ·simp only [decide_eq_true_eq] at h4
     have hpx:p<x.1.size:=by omega
     rw [inR_step x y i j hpx,List.append_assoc] at hc4
     repeat' (first|refine d1 ?_|(show ∀ _:Nat,T _ _ _ _ _;intro _))
     have hcp:=fun w=>cutPrefix_spec (x.1.extract p x.1.size) y.1 w
     have hzr:(x.1.extract p x.1.size).size≤100:=by rw [ByteArray.size_extract];omega
     have hzc:(if preB (x.1.extract p x.1.size) y.1=true then (x.1.extract p x.1.size).extract y.1.size (x.1.extract p x.1.size).size else x.1.extract p x.1.size).size≤100:=by
      split
      ·rw [ByteArray.size_extract];omega
      ·omega
     generalize (if preB (x.1.extract p x.1.size) y.1=true then (x.1.extract p x.1.size).extract y.1.size (x.1.extract p x.1.size).size else x.1.extract p x.1.size)=rest at hcp hzc
     have hbi:inB1 x y i j p=if (!decide (((i:Nat):Int)=((j:Nat):Int)) && preB (x.1.extract p x.1.size) y.1)=true then some x.1 else none:=by
      unfold inB1
      by_cases hij:i=j
      ·rw [if_neg (fun h9=>h9.1 hij),if_neg (by simp [hij])]
      ·by_cases hpb:preB (x.1.extract p x.1.size) y.1=true
       ·rw [if_pos ⟨hij,hpb⟩,if_pos (by rw [hpb];simp;omega)]
       ·rw [if_neg (fun h9=>hpb h9.2),if_neg (by rw [Bool.not_eq_true] at hpb;rw [hpb];simp)]
     generalize preB (x.1.extract p x.1.size) y.1=pb at hcp hbi
     refine T_cutX 1 [] (fun _:Unit=>[(10, .string rest),(11, .bool pb)]) (fun _=>blk b6 [.string y.1, .string y.2] 28::blk b4 [.string x.1, .string x.2] 28::blk b1 [.slice (some ⟨b,o,none⟩) n c] 22::H4) (fun _=>True) ?_ ?_
     ·refine rsH [blk b6 [.string y.1, .string y.2] 28,blk b4 [.string x.1, .string x.2] 28,blk b1 [.slice (some ⟨b,o,none⟩) n c] 22] 1000 [0,1,2,3,4,5,6,7,8,9,10,11] ?_
      repeat' (first|refine d1 ?_|refine dd ?_|(show T _ (.ops _ (_::_)::_) _ _ _;first|refine T_call rfl rfl rfl rfl rfl (fun w hw=>hcp w) ?_|refine T_callC rfl rfl rfl rfl rfl rfl rfl (fun hg w hw=>hcp w) ?_)|(show T _ (.run _ _ (_::_) _ _::_) _ _ _;first|refine rc rfl rfl rfl rfl rfl rfl rfl (fun w hw=>hcp w) ?_|refine rcG rfl rfl rfl rfl rfl rfl rfl rfl rfl (fun hg w hw=>hcp w) ?_)|(show ∀ _:Nat,T _ _ _ _ _;intro _)|(show T _ _ _ _ _;exact T_meetX () trivial))
     rintro - -
     have hz1:(x.1.extract (Int.toNat 0) ((p:Nat):Int).toNat).size≤100:=by rw [ByteArray.size_extract];omega
     have hz4:(x.1.extract (Int.toNat 0) ((p:Nat):Int).toNat++y.2).size≤200:=by rw [ByteArray.size_append];omega
     refine rsH [blk b6 [.string y.1, .string y.2] 28,blk b4 [.string x.1, .string x.2] 28,blk b1 [.slice (some ⟨b,o,none⟩) n c] 22] 1000 [0,1,2,3,4,5,6,7,8,9,10,11,12,13,14,15,16,17,18,19,20,21,22,23,24] ?_
     repeat' (first|refine d1 ?_|refine dd ?_|(show ∀ _:Nat,T _ _ _ _ _;intro _))
     generalize (!decide (((i:Nat):Int)=((j:Nat):Int)) && pb)=gb at hbi ⊢
     cases gb with
     | true =>
      rw [if_pos rfl] at hbi
      have hkj:(crtR rs 0)[acc4.length]?=some x.1:=by rw [hc4,hbi];simp
      refine T_known 99 rfl rfl ?_
      refine T_known 101 rfl rfl ?_
      refine T_known 110 rfl rfl ?_
      refine T_known 97 rfl rfl ?_
      refine ro rfl rfl (OpT.sure (p:=true) rfl rfl rfl (OpT.litW rfl rfl rfl rfl rfl rfl rfl rfl rfl rfl rfl (fun b9=>⟨fun _=>(Hle.tail _ _).trans (Hle.append_left (A:=[_,_,_]) H4),?_⟩)))
      repeat' (first|refine d1 ?_|refine dd ?_|(show ∀ _:Nat,T _ _ _ _ _;intro _))
      refine ro rfl rfl (OpT.yieldO [blk b9 (triC (x.1,x.2,x.1.extract (Int.toNat 0) ((p:Nat):Int).toNat++y.2++rest)) 9] [blk b6 [.string y.1, .string y.2] 28,blk b4 [.string x.1, .string x.2] 28,blk b1 [.slice (some ⟨b,o,none⟩) n c] 22] hY rfl rfl (Holds.of1 rfl rfl rfl) rfl rfl rfl (List.getElem?_eq_some_iff.1 hkj).1 ⟨b9,(x.1,x.2,x.1.extract (Int.toNat 0) ((p:Nat):Int).toNat++y.2++rest),hkj,rfl,rfl⟩ hG4 (Hle.comm [_,_,_,_] H4) (fun H5 hG5=>⟨fun _=>Hle.append_left (A:=[_,_,_]) H5,?_⟩) (fun Y hX=>⟨fun _=>Hle.append_left (A:=[_,_,_]) Y,?_⟩))
      ·show T _ _ _ _ (blk b6 [.string y.1, .string y.2] 28::blk b4 [.string x.1, .string x.2] 28::blk b1 [.slice (some ⟨b,o,none⟩) n c] 22::H5)
       repeat' (first|refine d1 ?_|refine dd ?_|(show ∀ _:Nat,T _ _ _ _ _;intro _))
       refine T_if rfl (fun h5=>by exfalso;simp at h5) (fun _=>?_)
       repeat' (first|refine d1 ?_|(show ∀ _:Nat,T _ _ _ _ _;intro _))
       exact T_backX (p+1,acc4++[x.1],H5) ⟨by dsimp only;omega,by dsimp only;rw [hc4,hbi];simp,by dsimp only;rw [List.length_append];exact hG5⟩ (by dsimp only;omega)
      ·show T _ _ _ _ (blk b6 [.string y.1, .string y.2] 28::blk b4 [.string x.1, .string x.2] 28::blk b1 [.slice (some ⟨b,o,none⟩) n c] 22::Y)
       repeat' (first|refine d1 ?_|refine dd ?_|(show ∀ _:Nat,T _ _ _ _ _;intro _))
       refine T_if rfl (fun _=>?_) (fun h5=>by exfalso;simp at h5)
       repeat' (first|refine d1 ?_|refine dd ?_|(show ∀ _:Nat,T _ _ _ _ _;intro _)|(show T _ (.code .ret::_) _ _ _;refine T_istop rfl Y hX ((Hle.tail _ _).trans (Hle.tail _ _))))
     | false =>
      rw [if_neg (by simp)] at hbi
      rw [hbi] at hc4
      refine ro rfl rfl (OpT.never (.slice none 0 0) rfl (fun hg9=>by have h10:(false:Bool)=true:=hg9.1;cases h10) rfl rfl rfl rfl rfl ⟨fun _=>Hle.append_left (A:=[_,_,_]) H4,?_⟩)
      repeat' (first|refine d1 ?_|refine dd ?_|(show ∀ _:Nat,T _ _ _ _ _;intro _))
      refine ro rfl rfl (OpT.never (.bool false) rfl (fun hg9=>by have h10:(false:Bool)=true:=hg9.1;cases h10) rfl rfl rfl rfl rfl ⟨fun _=>Hle.append_left (A:=[_,_,_]) H4,?_⟩)
      repeat' (first|refine d1 ?_|refine dd ?_|(show ∀ _:Nat,T _ _ _ _ _;intro _))
      refine T_if rfl (fun h5=>by exfalso;simp at h5) (fun _=>?_)
      repeat' (first|refine d1 ?_|(show ∀ _:Nat,T _ _ _ _ _;intro _))
      exact T_backX (p+1,acc4,H4) ⟨by dsimp only;omega,hc4,hG4⟩ (by dsimp only;omega)
    ·simp only [decide_eq_false_iff_not] at h4
     rw [inR_end x y i j (by omega),List.nil_append] at hc4
     repeat' (first|refine d1 ?_|(show ∀ _:Nat,T _ _ _ _ _;intro _))
     exact T_backX (j+1,acc4,H4) ⟨by dsimp only;omega,hc4,hG4⟩ (by dsimp only;omega) (hG:=Hle.tail _ _)
  ·simp only [decide_eq_false_iff_not] at h2
   obtain rfl:j=rs.length:=by omega
   rw [rowCr_end,List.nil_append] at hc2
   repeat' (first|refine d1 ?_|(show ∀ _:Nat,T _ _ _ _ _;intro _))
   exact T_backX (i+1,acc2,H2) ⟨by dsimp only;omega,hc2,hG2⟩ (by dsimp only;omega) (hG:=Hle.tail _ _)
 ·simp only [decide_eq_false_iff_not] at h
  obtain rfl:i=rs.length:=by omega
  rw [crtR_end,List.append_nil] at hc1
  rw [← hc1] at hG1
  repeat' (first|refine d1 ?_|(show ∀ _:Nat,T _ _ _ _ _;intro _))
  exact T_ifall rfl H1 hG1 (Hle.refl _)
end Go.Proofs.YtbfcfpmholkmeaaGreatDoor
namespace Go.Proofs.YtbfcfpmholkmeaaGreatDoor
open Go.RowKit Go.Shelf Go.Proofs
set_option maxRecDepth 100000
set_option maxHeartbeats 4000000

theorem crtR_size {rs:List RuB} (h:∀ r∈rs,r.1.size≤100∧r.2.size≤100):∀ z∈crtR rs 0,z.size≤200:=by
 have hat:∀ i,(ruAt rs i).1.size≤100:=fun i=>by
  unfold ruAt
  rw [List.getD_eq_getElem?_getD]
  cases e:rs[i]? with
  | none=>exact Nat.zero_le _
  | some r=>exact (h r (List.mem_of_getElem? e)).1
 intro z hz
 unfold crtR rowCr at hz
 obtain⟨i,-,hz⟩:=List.mem_flatMap.1 hz
 obtain⟨j,-,hz⟩:=List.mem_flatMap.1 hz
 have h1:=hat i
 have h2:=hat j
 unfold cellR ovR inR at hz
 rcases List.mem_append.1 hz with hz|hz
 ·obtain⟨k,-,hk⟩:=List.mem_filterMap.1 hz
  unfold ovB at hk
  split at hk
  ·cases hk
   rw [ByteArray.size_append,ByteArray.size_extract];omega
  ·cases hk
 ·obtain⟨k,-,hk⟩:=List.mem_filterMap.1 hz
  unfold inB1 at hk
  split at hk
  ·cases hk;omega
  ·cases hk
theorem hle_ng1 {a b c d e f g h:HA} {K:List HA}:Hle (a::b::c::d::e::f::g::h::K) (h::e::b::c::d::f::g::K):=Hle.srtT (A:=[a,b,c,d,e,f,g,h]) (K:=[h,e,b,c,d,f,g]) K
theorem hle_ng2 {b c d e f g:HA} {K:List HA}:Hle (e::b::c::d::f::g::K) (b::c::d::e::f::g::K):=Hle.srtT (A:=[e,b,c,d,f,g]) (K:=[b,c,d,e,f,g]) K
theorem hle_ng3 {a b c d e f g:HA}:Hle [a,b,c,d,e,f,g] [a,d,e,f,g]:=Hle.srtT (A:=[a,b,c,d,e,f,g]) (K:=[a,d,e,f,g]) []
theorem row1k {xs:List Value} {j:Nat} {v:Value} (h:xs[j]?=some v):∀ i u,[v][i]?=some u→xs[0+(j:Int).toNat * 1+i]?=some u:=by
 intro i u hu
 cases i with
 | zero=>simp at hu;subst hu;rw [show 0+(j:Int).toNat * 1+0=j by omega];exact h
 | succ i=>simp at hu
abbrev T3:=Nat × ByteArray × ByteArray × ByteArray
def hdV (t:T3):Value := .slice (some ⟨t.1,0,none⟩) 3 3
def blV (t:T3):Nat × List Value:=(t.1,triC t.2)
theorem criticalE_spec (A:Option Addr) (n c:Nat) (rs:List RuB) (w:World) (hs:RsR w A n rs) :
  Spec Tryz.prog 33 [.slice A n c] w (fun v R=>(∃ e:Int,e≠0∧v = .tuple #[.slice none 0 0, .int .i64 e]∧R=[]) ∨
   (rusOk rs∧∃ (x:Option Addr × Nat) (ts:List T3),ts.map (fun t=>t.2.1)=crtR rs 0∧ts.length≤4096∧v = .tuple #[.slice x.1 ts.length x.2, .int .i64 0]∧R=[row 58 1 x.1 x.2 ts.length (ts.map hdV),blks 9 (ts.map blV)])):=by
 refine spec_of sg Tryz.func33 rfl rfl rfl ?_
 repeat' (first|refine d1 ?_|(show ∀ _:Nat,T _ _ _ _ _;intro _))
 rename_i b2 b3
 refine T_op (OpT.call rfl rfl rfl rfl rfl (fun w hw=>checkRules_spec A n c rs w (hs.cls hw)) ?_)
 rintro u R ⟨e,he,rfl,rfl⟩
 rw [List.nil_append]
 repeat' (first|refine d1 ?_|(show ∀ _:Nat,T _ _ _ _ _;intro _))
 refine T_if rfl (fun h1=>?_) (fun h1=>?_)
 ·repeat' (first|refine d1 ?_|(show ∀ _:Nat,T _ _ _ _ _;intro _))
  exact T_retM (vs:=[.slice none 0 0, .int .i64 1]) [] ⟨⟨b2,_,[.slice none 0 0],rfl,rfl,rfl,rfl,fun _=>rfl,rfl,rdOwn1 rfl⟩,⟨b3,_,[.int .i64 1],rfl,rfl,rfl,rfl,fun _=>rfl,rfl,rdOwn1 rfl⟩,trivial⟩ (Hle.none _) (.inl ⟨1,by decide,rfl,rfl⟩)
 have hok:=he.1 (by simpa using h1)
 repeat' (first|refine d1 ?_|(show ∀ _:Nat,T _ _ _ _ _;intro _))
 rename_i b4
 refine T_op (OpT.call rfl rfl rfl rfl rfl (fun w hw=>critical_spec A n c w) ?_)
 rintro u R ⟨y1,-,rfl,rfl⟩
 repeat' (first|refine d1 ?_|(show ∀ _:Nat,T _ _ _ _ _;intro _))
 refine T_nilrow 58 1 ?_
 refine T_nilblks 9 ?_
 refine T_le (H':=[blks 9 [],row 58 1 none 0 0 [],blk y1 [.slice A n c] 22,blk b4 [.slice none 0 0] 78,blk b3 [.int .i64 0] 31,blk b2 [.slice none 0 0] 78]) (Hle.refl _) ?_
 refine T_le (H':=[blk y1 [.slice A n c] 22,blk b4 [.slice none 0 0] 78,row 58 1 none 0 0 [],blks 9 [],blk b3 [.int .i64 0] 31,blk b2 [.slice none 0 0] 78]) Hle.srt ?_
 refine T_rangeO (critical_iter (c:=c) hs y1) rfl (fun j x B hj hQ=>by obtain⟨g,t,_,rfl,rfl⟩:=hQ;exact⟨rfl,rfl⟩)
  (fun j H=>∃ (x:Option Addr × Nat) (ts:List T3),(ts.map (fun t=>t.2.1)=(crtR rs 0).take j∧ts.length=j∧j≤4096)∧H=[blk b4 [.slice x.1 ts.length x.2] 78,row 58 1 x.1 x.2 ts.length (ts.map hdV),blks 9 (ts.map blV),blk b3 [.int .i64 0] 31,blk b2 [.slice none 0 0] 78]) (fun H=>H=[blk b3 [.int .i64 4] 31,blk b2 [.slice none 0 0] 78]) (fun _ _=>False)
  [blk b4 [.slice none 0 0] 78,row 58 1 none 0 0 [],blks 9 [],blk b3 [.int .i64 0] 31,blk b2 [.slice none 0 0] 78] ⟨(none,0),[],⟨by simp,rfl,Nat.zero_le _⟩,rfl⟩ ?_ ?_ ?_ ?_ (fun _ _ _ h=>h.elim)
 ·exact Hle.refl _
 ·rintro Lp r5 j x B Hj K2 hr5 hj hQ ⟨⟨A',c'⟩,ts,⟨htm,htl,htb⟩,rfl⟩
  obtain⟨g,t,hz,rfl,rfl⟩:=hQ
  show T _ _ ((11, .slice (some ⟨g,0,none⟩) 3 3)::_) _ (lrec Lp r5::blk b4 [.slice A' ts.length c'] 78::row 58 1 A' c' ts.length (ts.map hdV)::blks 9 (ts.map blV)::blk b3 [.int .i64 0] 31::blk b2 [.slice none 0 0] 78::blk g (triC t) 9::K2)
  repeat' (first|refine d1 ?_|(show ∀ _:Nat,T _ _ _ _ _;intro _))
  refine T_begin hr5 rfl ?_
  repeat' (first|refine d1 ?_|(show ∀ _:Nat,T _ _ _ _ _;intro _))
  refine T_if rfl (fun h3=>?_) (fun h3=>?_)
  ·repeat' (first|refine d1 ?_|(show ∀ _:Nat,T _ _ _ _ _;intro _))
   exact T_rret _ rfl (Hle.srtT (A:=[_,_,_,_,_,_,_]) (K:=[_,_,_]) K2)
  ·have h4:ts.length+1≤4096:=by simp only [decide_eq_false_iff_not] at h3;omega
   repeat' (first|refine d1 ?_|(show T _ (.ops _ (_::_)::_) _ _ _;refine T_op (OpT.append (A:=A') rfl rfl rfl rfl rfl rfl rfl rfl rfl rfl (fun w hw=>Src.own hw rfl) rfl (by dsimp only;omega) (by omega) (fun A9 c9 hA9=>?_)))|(show ∀ _:Nat,T _ _ _ _ _;intro _))
   have hlen:(ts++[(g,t)]).length=ts.length+1:=by rw [List.length_append,List.length_singleton]
   have hmv:ts.map hdV++[.slice (some ⟨g,0,none⟩) 3 3]=(ts++[(g,t)]).map hdV:=by rw [List.map_append];rfl
   have hmb:ts.map blV++[(g,triC t)]=(ts++[(g,t)]).map blV:=by rw [List.map_append];rfl
   refine T_next _ ⟨(A9,c9),ts++[(g,t)],⟨?_,by rw [hlen,htl],by omega⟩,rfl⟩ ?_
   ·rw [List.map_append,htm,take_snoc _ _ _ hz];rfl
   ·rw [hlen, ← hmb]
    rw [show flatP [(0,Value.slice (some ⟨g,0,none⟩) 3 3)]=[.slice (some ⟨g,0,none⟩) 3 3] from rfl,hmv]
    exact hle_ng1.trans (blks_snoc.trans hle_ng2)
 ·rintro D Hn ⟨⟨A',c'⟩,ts,⟨htm,htl,htb⟩,rfl⟩
  rw [List.take_length] at htm
  show T _ _ _ _ (dfr D::blk y1 [.slice A n c] 22::blk b4 [.slice A' ts.length c'] 78::row 58 1 A' c' ts.length (ts.map hdV)::blks 9 (ts.map blV)::blk b3 [.int .i64 0] 31::blk b2 [.slice none 0 0] 78::[])
  repeat' (first|refine d1 ?_|(show ∀ _:Nat,T _ _ _ _ _;intro _))
  exact T_retD (H':=[row 58 1 A' c' ts.length (ts.map hdV),blks 9 (ts.map blV),blk b3 [.int .i64 0] 31,blk b2 [.slice A' ts.length c'] 78]) hle_ng3 (rf_M (ds:=[]) (vs:=[.slice A' ts.length c', .int .i64 0]) [row 58 1 A' c' ts.length (ts.map hdV),blks 9 (ts.map blV)] ⟨⟨b2,_,[.slice A' ts.length c'],rfl,rfl,rfl,rfl,fun _=>rfl,rfl,rdOwn1 rfl⟩,⟨b3,_,[.int .i64 0],rfl,rfl,rfl,rfl,fun _=>rfl,rfl,rdOwn1 rfl⟩,trivial⟩ (Hle.append_left (A:=[_,_]) [_,_]) (.inr ⟨hok,(A',c'),ts,htm,by omega,rfl,rfl⟩))
 ·rintro D Hx rfl
  show T _ _ _ _ (dfr D::blk y1 [.slice A n c] 22::blk b3 [.int .i64 4] 31::blk b2 [.slice none 0 0] 78::[])
  exact T_retD (Hle.refl _) (rf_M (ds:=[]) (vs:=[.slice none 0 0, .int .i64 4]) [] ⟨⟨b2,_,[.slice none 0 0],rfl,rfl,rfl,rfl,fun _=>rfl,rfl,rdOwn1 rfl⟩,⟨b3,_,[.int .i64 4],rfl,rfl,rfl,rfl,fun _=>rfl,rfl,rdOwn1 rfl⟩,trivial⟩ (Hle.none _) (.inl ⟨4,by decide,rfl,rfl⟩))
theorem confluent_spec (A:Option Addr) (n c:Nat) (rs:List RuB) (w:World) (hs:RsR w A n rs) :
  Spec Tryz.prog 14 [.slice A n c] w (fun v R=>∃ (q:Bool) (e:Int),(e=0→q=true→rusOk rs∧critI (rusL rs))∧v = .tuple #[.bool q, .int .i64 e]∧R=[]):=by
 refine spec_of sg Tryz.func14 rfl rfl rfl ?_
 repeat' (first|refine d1 ?_|(show ∀ _:Nat,T _ _ _ _ _;intro _))
 refine T_op (OpT.call rfl rfl rfl rfl rfl (fun w hw=>criticalE_spec A n c rs w (hs.cls hw)) ?_)
 rintro u R (⟨e,he,rfl,rfl⟩|⟨hok,⟨X,cx⟩,ts,hts,htb,rfl,rfl⟩)
 ·rw [List.nil_append]
  repeat' (first|refine d1 ?_|(show ∀ _:Nat,T _ _ _ _ _;intro _))
  refine T_if rfl (fun _=>?_) (fun h=>absurd (by simpa using h) he)
  repeat' (first|refine d1 ?_|(show ∀ _:Nat,T _ _ _ _ _;intro _)|(show T _ (.code .ret::_) _ _ _;refine T_retV [] rfl (Hle.none _) ⟨false,e,fun h=>absurd h he,rfl,rfl⟩))
 dsimp only
 have hws:∀ t∈ts,t.2.1.size≤200:=fun t ht=>crtR_size hs.sz _ (by rw [← hts];exact List.mem_map_of_mem (f:=fun t:T3=>t.2.1) ht)
 refine T_le (H':=[row 58 1 X cx ts.length (ts.map hdV),blks 9 (ts.map blV)]) (Hle.refl _) ?_
 repeat' (first|refine d1 ?_|(show ∀ _:Nat,T _ _ _ _ _;intro _))
 refine T_if rfl (fun h=>by exfalso;simp at h) (fun _=>?_)
 repeat' (first|refine d1 ?_|(show ∀ _:Nat,T _ _ _ _ _;intro _))
 refine T_loopX (fun z:Nat × Bool=>[(21, .int .i64 (z.1:Nat)),(6, .bool z.2)]) (fun _=>[row 58 1 X cx ts.length (ts.map hdV),blks 9 (ts.map blV)]) (fun z=>z.1≤ts.length∧(z.2=true→∀ t∈ts.take z.1,uniW (rusL rs) t.2.1.data.toList)) (fun z=>ts.length - z.1) (0,true) ⟨Nat.zero_le _,fun _ t ht=>by simp at ht⟩ ?_
 rintro⟨k,q⟩ ⟨hk,hq⟩
 dsimp only at hk hq ⊢
 repeat' (first|refine d1 ?_|(show ∀ _:Nat,T _ _ _ _ _;intro _))
 refine T_if rfl (fun h=>?_) (fun h=>?_)
 ·simp only [decide_eq_true_eq] at h
  obtain⟨t,ht⟩:∃ t,ts[k]?=some t:=⟨_,List.getElem?_eq_getElem (by omega)⟩
  have htm:=List.mem_of_getElem? ht
  refine T_rowpos (A:=X) (by omega) fun g e=>?_
  subst e
  have hc1:(ts.map hdV)[k]?=some (.slice (some ⟨t.1,0,none⟩) 3 3):=by rw [List.getElem?_map,ht];rfl
  have hc2:(ts.map blV)[k]?=some (t.1,triC t.2):=by rw [List.getElem?_map,ht];rfl
  repeat' (first|refine d1 ?_|(show T _ (.ops _ (_::_)::_) _ _ _;first|refine T_val rfl (Val.load rfl (fun hg=>rdRow (A:=some ⟨g,0,none⟩) (vs:=[.slice (some ⟨t.1,0,none⟩) 3 3]) (by omega) (row1k hc1))) rfl rfl rfl ?_|refine T_valC rfl (Val.load rfl (fun hg=>rdRow (A:=some ⟨g,0,none⟩) (vs:=[.slice (some ⟨t.1,0,none⟩) 3 3]) (by omega) (row1k hc1))) rfl rfl rfl rfl rfl ?_|refine T_val rfl (Val.load rfl (fun hg=>rdM (l:=ts.map blV) (vs:=[.string t.2.1]) hc2 (fun j u hu=>by cases j with|zero=>simp at hu;subst hu;rfl|succ j=>simp at hu))) rfl rfl rfl ?_|refine T_valC rfl (Val.load rfl (fun hg=>rdM (l:=ts.map blV) (vs:=[.string t.2.1]) hc2 (fun j u hu=>by cases j with|zero=>simp at hu;subst hu;rfl|succ j=>simp at hu))) rfl rfl rfl rfl rfl ?_)|(show T _ (.run _ _ (_::_) _ _::_) _ _ _;first|refine rv rfl rfl rfl (Val.load rfl (fun hg=>rdRow (A:=some ⟨g,0,none⟩) (vs:=[.slice (some ⟨t.1,0,none⟩) 3 3]) (by omega) (row1k hc1))) rfl rfl rfl ?_|refine rg rfl rfl rfl (Val.load rfl (fun hg=>rdRow (A:=some ⟨g,0,none⟩) (vs:=[.slice (some ⟨t.1,0,none⟩) 3 3]) (by omega) (row1k hc1))) rfl rfl rfl rfl rfl ?_|refine rv rfl rfl rfl (Val.load rfl (fun hg=>rdM (l:=ts.map blV) (vs:=[.string t.2.1]) hc2 (fun j u hu=>by cases j with|zero=>simp at hu;subst hu;rfl|succ j=>simp at hu))) rfl rfl rfl ?_|refine rg rfl rfl rfl (Val.load rfl (fun hg=>rdM (l:=ts.map blV) (vs:=[.string t.2.1]) hc2 (fun j u hu=>by cases j with|zero=>simp at hu;subst hu;rfl|succ j=>simp at hu))) rfl rfl rfl rfl rfl ?_)|(show ∀ _:Nat,T _ _ _ _ _;intro _))
  refine T_op (OpT.call rfl rfl rfl rfl rfl (fun w hw=>all_spec A n c rs t.2.1 w (hs.cls hw) hok (hws t htm)) ?_)
  rintro u R ⟨P,m,cm,e,he,hm,rfl,rfl⟩
  rw [List.nil_append]
  repeat' (first|refine d1 ?_|(show ∀ _:Nat,T _ _ _ _ _;intro _))
  refine T_if rfl (fun h3=>?_) (fun h3=>?_)
  ·have he0:e≠0:=by simpa using h3
   repeat' (first|refine d1 ?_|(show ∀ _:Nat,T _ _ _ _ _;intro _)|(show T _ (.code .ret::_) _ _ _;refine T_retV [] rfl (Hle.none _) ⟨false,e,fun h=>absurd h he0,rfl,rfl⟩))
  ·have he0:e=0:=by simpa using h3
   repeat' (first|refine d1 ?_|(show ∀ _:Nat,T _ _ _ _ _;intro _))
   refine T_backX (k+1,q && decide ((m:Int)=1)) ⟨by dsimp only;omega,fun hq2 t' ht'=>?_⟩ (by dsimp only;omega) (hE:=⟨rfl,rfl,trivial⟩) (hG:=Hle.refl _)
   dsimp only at hq2 ht'
   rw [Bool.and_eq_true,decide_eq_true_eq] at hq2
   rw [take_snoc _ _ _ ht,List.mem_append,List.mem_singleton] at ht'
   rcases ht' with ht'|rfl
   ·exact hq hq2.1 t' ht'
   ·exact he he0 (by omega)
 ·simp only [decide_eq_false_iff_not] at h
  rw [List.take_of_length_le (by omega)] at hq
  repeat' (first|refine d1 ?_|(show ∀ _:Nat,T _ _ _ _ _;intro _)|(show T _ (.code .ret::_) _ _ _;refine T_retV [] rfl (Hle.none _) ⟨q,0,fun _ hq1=>⟨hok,crt_critI fun z hz=>?_⟩,rfl,rfl⟩))
  rw [← hts] at hz
  obtain⟨t,ht,rfl⟩:=List.mem_map.1 hz
  exact hq hq1 t ht
end Go.Proofs.YtbfcfpmholkmeaaGreatDoor
namespace Go.Proofs.YtbfcfpmholkmeaaGreatDoor
open Go.RowKit Go.Shelf Go.Proofs
set_option maxRecDepth 100000
set_option maxHeartbeats 4000000

def wordT (t:Tok):Bool := !hasN t.flags 2 && !hasN t.flags 8
structure nmTok (rs:List RuB) (t u:Tok):Prop where
 e:u={ t with norm:=u.norm }
 w:wordT t=true→rchW (rusL rs) t.text.data.toList u.norm.data.toList∧nrmW (rusL rs) u.norm.data.toList
 n:wordT t=false→u.norm=t.text
structure nmList (rs:List RuB) (ts us:List Tok):Prop where
 len:us.length=ts.length
 at_:∀ (i:Nat) (t:Tok),ts[i]?=some t→∃ u,us[i]?=some u∧nmTok rs t u
theorem isWordB_norm {s:ByteArray} (h:isWordB s=true):normB s=true:=by
 unfold normB
 rw [decide_eq_true_eq]
 intro j hj
 have h1:=isWordB_at h j hj
 simp only [isWordB,Bool.and_eq_true,decide_eq_true_eq] at h
 have h2:=h.2 j hj
 have h3:=kindI_bd ((byteAt s (j:Int)).toNat:Int)
 have h4:kAt s j=kindI ((byteAt s (j:Int)).toNat:Int):=rfl
 unfold wordlyK
 have:kAt s j=1∨kAt s j=2∨kAt s j=3∨kAt s j=4:=by omega
 rcases this with e|e|e|e <;> rw [e] <;> rfl
theorem tokE_word {t:Tok} (h:tokE t=0):(0≤t.flags∧t.flags≤31)∧(wordT t=true→normB t.text=true∧t.text.size≤64):=by
 unfold tokE at h
 split at h
 ·omega
 ·rename_i h1
  split at h
  ·omega
  ·split at h
   ·omega
   ·rename_i h3
    refine ⟨by omega,fun hw=>?_⟩
    unfold wordT at hw
    simp only [Bool.and_eq_true,Bool.not_eq_true'] at hw
    unfold formBad at h3
    rw [if_neg (by rw [hw.1];simp),if_neg (by rw [hw.2];simp)] at h3
    simp only [Bool.or_eq_true,not_or,Bool.not_eq_true',Bool.not_eq_false] at h3
    have hb:isWordB t.text=true:=h3.1.1.1
    exact⟨isWordB_norm hb,(isWordB_size hb).2⟩
theorem setL_tok {ts:List Tok} {k:Nat} {t:Tok} (h:ts[k]?=some t) (z:ByteArray) (o:Nat) (ho:o=k * 6+1):setL (ts.flatMap Tok.cells) o [.string z]=(ts.set k { t with norm:=z }).flatMap Tok.cells:=by
 subst ho
 induction ts generalizing k with
 | nil=>simp at h
 | cons x l ih =>
  cases k with
  | zero =>
   simp only [List.getElem?_cons_zero,Option.some.injEq] at h
   subst h
   rw [List.flatMap_cons,List.set_cons_zero,List.flatMap_cons]
   rfl
  | succ k =>
   have hk:l[k]?=some t:=by simpa using h
   rw [List.flatMap_cons,List.set_cons_succ,List.flatMap_cons, ← ih hk]
   have hl:=(List.getElem?_eq_some_iff.1 hk).1
   have h6:(l.flatMap Tok.cells).length=l.length * 6:=flatT_length l
   rw [setL_eq _ _ _ (by rw [List.length_append,h6];simp [Tok.cells];omega),setL_eq _ _ _ (by rw [h6];simp;omega)]
   have hx:x.cells.length=6:=rfl
   rw [List.take_append,List.drop_append,hx]
   rw [List.take_of_length_le (by rw [hx];omega),List.drop_of_length_le (by rw [hx];simp;omega)]
   rw [show (k+1) * 6+1 - 6=k * 6+1 by omega,show (k+1) * 6+1+[Value.string z].length - 6=k * 6+1+[Value.string z].length by simp;omega]
   simp
theorem normalized_spec {w0:World} (A B:Option Addr) (n c m cm:Nat) (rs:List RuB) (ts:List Tok) (K:List HA) (hs:RsR w0 A n rs) (hok:rusOk rs) (hm:ts.length=m) (hmb:m≤1000000) (ht:∀ t∈ts,(0≤t.flags∧t.flags≤31)∧(wordT t=true→normB t.text=true∧t.text.size≤64)) :
  SpecB Tryz.prog 27 [.slice A n c, .slice B m cm] w0 (row 38 6 B cm m (ts.flatMap Tok.cells)::K)
   (fun v R=>(∃ us,nmList rs ts us∧v = .tuple #[.slice B m cm, .int .i64 0]∧R=row 38 6 B cm m (us.flatMap Tok.cells)::K)∨((∃ t∈ts,wordT t=true∧lngT rs t.text)∧v = .tuple #[.slice none 0 0, .int .i64 4]∧R=K)):=by
 refine specB_of sg Tryz.func27 rfl rfl rfl ?_
 repeat' (first|refine d1 ?_|(show ∀ _:Nat,T _ _ _ _ _;intro _))
 refine T_loopX (fun z:Nat × List Tok=>[(11, .int .i64 (z.1:Nat))]) (fun z=>row 38 6 B cm m (z.2.flatMap Tok.cells)::K) (fun z=>z.1≤m∧z.2.length=m∧(∀ (i:Nat) (t:Tok),i<z.1→ts[i]?=some t→∃ u,z.2[i]?=some u∧nmTok rs t u)∧∀ i:Nat,z.1≤i→z.2[i]?=ts[i]?) (fun z=>m - z.1) (0,ts) ⟨Nat.zero_le _,hm,fun i t h=>absurd h (Nat.not_lt_zero _),fun i _=>rfl⟩ ?_
 rintro⟨k,us⟩ ⟨hk,hul,hdn,hup⟩
 dsimp only at hk hul hdn hup ⊢
 repeat' (first|refine d1 ?_|(show ∀ _:Nat,T _ _ _ _ _;intro _))
 refine T_if rfl (fun h=>?_) (fun h=>?_)
 ·simp only [decide_eq_true_eq] at h
  refine T_rowpos (A:=B) (by omega) fun g e=>?_
  subst e
  obtain⟨t,htk⟩:∃ t,ts[k]?=some t:=⟨_,List.getElem?_eq_getElem (by omega)⟩
  have huk:us[k]?=some t:=(hup k (Nat.le_refl _)).trans htk
  have hcell:∀ (j:Nat) u,t.cells[j]?=some u→(us.flatMap Tok.cells)[k * 6+j]?=some u:=flat_getW Tok.cells 6 (fun _=>rfl) huk
  obtain⟨hfl,hwd⟩:=ht t (List.mem_of_getElem? htk)
  repeat' (first|refine d1 ?_|(show T _ (.ops _ (_::_)::_) _ _ _;first|refine T_val rfl (Val.load rfl (fun hg=>rdRow (A:=some ⟨g,0,none⟩) (vs:=[.string t.text]) (by omega) (fun j u hu=>by cases j with|zero=>simp at hu;subst hu;rw [show 0+((k:Nat):Int).toNat * 6+0+0=k * 6+0 by omega];exact hcell 0 _ rfl|succ j=>simp at hu))) rfl rfl rfl ?_|refine T_valC rfl (Val.load rfl (fun hg=>rdRow (A:=some ⟨g,0,none⟩) (vs:=[.string t.text]) (by omega) (fun j u hu=>by cases j with|zero=>simp at hu;subst hu;rw [show 0+((k:Nat):Int).toNat * 6+0+0=k * 6+0 by omega];exact hcell 0 _ rfl|succ j=>simp at hu))) rfl rfl rfl rfl rfl ?_)|(show T _ (.run _ _ (_::_) _ _::_) _ _ _;first|refine rv rfl rfl rfl (Val.load rfl (fun hg=>rdRow (A:=some ⟨g,0,none⟩) (vs:=[.string t.text]) (by omega) (fun j u hu=>by cases j with|zero=>simp at hu;subst hu;rw [show 0+((k:Nat):Int).toNat * 6+0+0=k * 6+0 by omega];exact hcell 0 _ rfl|succ j=>simp at hu))) rfl rfl rfl ?_|refine rg rfl rfl rfl (Val.load rfl (fun hg=>rdRow (A:=some ⟨g,0,none⟩) (vs:=[.string t.text]) (by omega) (fun j u hu=>by cases j with|zero=>simp at hu;subst hu;rw [show 0+((k:Nat):Int).toNat * 6+0+0=k * 6+0 by omega];exact hcell 0 _ rfl|succ j=>simp at hu))) rfl rfl rfl rfl rfl ?_)|(show ∀ _:Nat,T _ _ _ _ _;intro _))
  refine T_op (OpT.storeR (us:=[.string t.text]) rfl rfl rfl rfl rfl rfl (by show 0+((k:Nat):Int).toNat * 6+1+1≤m * 6;omega) ?_)
  rw [setL_tok huk t.text _ (by omega)]
  have hset:∀ x:Tok,(us.set k x)[k]?=some x:=fun x=>by rw [List.getElem?_set_self (by omega)]
  have hcell1:∀ (j:Nat) u,({ t with norm:=t.text }:Tok).cells[j]?=some u→((us.set k { t with norm:=t.text }).flatMap Tok.cells)[k * 6+j]?=some u:=flat_getW Tok.cells 6 (fun _=>rfl) (hset _)
  have hstep:∀ x:Tok,nmTok rs t x→(us.set k x).length=m∧(∀ (i:Nat) (t':Tok),i<k+1→ts[i]?=some t'→∃ u,(us.set k x)[i]?=some u∧nmTok rs t' u)∧∀ i:Nat,k+1≤i→(us.set k x)[i]?=ts[i]?:=fun x hx=>by
   refine ⟨by rw [List.length_set];exact hul,fun i t' hi ht'=>?_,fun i hi=>?_⟩
   ·by_cases e:i=k
    ·subst e
     rw [htk] at ht'
     cases ht'
     exact⟨x,hset x,hx⟩
    ·rw [List.getElem?_set_ne (fun e9=>e e9.symm)]
     exact hdn i t' (by omega) ht'
   ·rw [List.getElem?_set_ne (by omega)]
    exact hup i (by omega)
  repeat' (first|refine d1 ?_|(show T _ (.ops _ (_::_)::_) _ _ _;first|refine T_val rfl (Val.loadA (vs:=({ t with norm:=t.text }:Tok).cells) rfl (fun _=>rdRow (A:=some ⟨g,0,none⟩) (by omega) (fun j u hu=>by rw [show 0+((k:Nat):Int).toNat * 6+j=k * 6+j by omega];exact hcell1 j u hu)) rfl) rfl rfl rfl ?_|refine T_valC rfl (Val.loadA (vs:=({ t with norm:=t.text }:Tok).cells) rfl (fun _=>rdRow (A:=some ⟨g,0,none⟩) (by omega) (fun j u hu=>by rw [show 0+((k:Nat):Int).toNat * 6+j=k * 6+j by omega];exact hcell1 j u hu)) rfl) rfl rfl rfl rfl rfl ?_|refine T_call rfl rfl rfl rfl rfl (fun w hw=>isWordTok_spec ({ t with norm:=t.text }:Tok) hfl w) ?_|refine T_callC rfl rfl rfl rfl rfl rfl rfl (fun hg w hw=>isWordTok_spec ({ t with norm:=t.text }:Tok) hfl w) ?_)|(show T _ (.run _ _ (_::_) _ _::_) _ _ _;first|refine rv rfl rfl rfl (Val.loadA (vs:=({ t with norm:=t.text }:Tok).cells) rfl (fun _=>rdRow (A:=some ⟨g,0,none⟩) (by omega) (fun j u hu=>by rw [show 0+((k:Nat):Int).toNat * 6+j=k * 6+j by omega];exact hcell1 j u hu)) rfl) rfl rfl rfl ?_|refine rg rfl rfl rfl (Val.loadA (vs:=({ t with norm:=t.text }:Tok).cells) rfl (fun _=>rdRow (A:=some ⟨g,0,none⟩) (by omega) (fun j u hu=>by rw [show 0+((k:Nat):Int).toNat * 6+j=k * 6+j by omega];exact hcell1 j u hu)) rfl) rfl rfl rfl rfl rfl ?_|refine rc rfl rfl rfl rfl rfl rfl rfl (fun w hw=>isWordTok_spec ({ t with norm:=t.text }:Tok) hfl w) ?_|refine rcG rfl rfl rfl rfl rfl rfl rfl rfl rfl (fun hg w hw=>isWordTok_spec ({ t with norm:=t.text }:Tok) hfl w) ?_)|(show ∀ _:Nat,T _ _ _ _ _;intro _))
  refine T_if rfl (fun h2=>?_) (fun h2=>?_)
  ·have hw0:wordT t=false:=by
    have h9:(!wordT t)=true:=h2
    simpa using h9
   repeat' (first|refine d1 ?_|(show ∀ _:Nat,T _ _ _ _ _;intro _))
   obtain⟨g1,g2,g3⟩:=hstep { t with norm:=t.text } ⟨rfl,fun h9=>(by rw [hw0] at h9;cases h9),fun _=>rfl⟩
   exact T_backX (k+1,us.set k { t with norm:=t.text }) ⟨by dsimp only;omega,g1,g2,g3⟩ (by dsimp only;omega)
  ·have hw0:wordT t=true:=by
    have h9:(!wordT t)=false:=h2
    simpa using h9
   obtain⟨hnb,hsz⟩:=hwd hw0
   repeat' (first|refine d1 ?_|(show T _ (.ops _ (_::_)::_) _ _ _;first|refine T_val rfl (Val.load rfl (fun hg=>rdRow (A:=some ⟨g,0,none⟩) (vs:=[.string t.text]) (by omega) (fun j u hu=>by cases j with|zero=>simp at hu;subst hu;rw [show 0+((k:Nat):Int).toNat * 6+0+0=k * 6+0 by omega];exact hcell1 0 _ rfl|succ j=>simp at hu))) rfl rfl rfl ?_|refine T_valC rfl (Val.load rfl (fun hg=>rdRow (A:=some ⟨g,0,none⟩) (vs:=[.string t.text]) (by omega) (fun j u hu=>by cases j with|zero=>simp at hu;subst hu;rw [show 0+((k:Nat):Int).toNat * 6+0+0=k * 6+0 by omega];exact hcell1 0 _ rfl|succ j=>simp at hu))) rfl rfl rfl rfl rfl ?_)|(show T _ (.run _ _ (_::_) _ _::_) _ _ _;first|refine rv rfl rfl rfl (Val.load rfl (fun hg=>rdRow (A:=some ⟨g,0,none⟩) (vs:=[.string t.text]) (by omega) (fun j u hu=>by cases j with|zero=>simp at hu;subst hu;rw [show 0+((k:Nat):Int).toNat * 6+0+0=k * 6+0 by omega];exact hcell1 0 _ rfl|succ j=>simp at hu))) rfl rfl rfl ?_|refine rg rfl rfl rfl (Val.load rfl (fun hg=>rdRow (A:=some ⟨g,0,none⟩) (vs:=[.string t.text]) (by omega) (fun j u hu=>by cases j with|zero=>simp at hu;subst hu;rw [show 0+((k:Nat):Int).toNat * 6+0+0=k * 6+0 by omega];exact hcell1 0 _ rfl|succ j=>simp at hu))) rfl rfl rfl rfl rfl ?_)|(show ∀ _:Nat,T _ _ _ _ _;intro _))
   refine T_op (OpT.call rfl rfl rfl rfl rfl (fun w hw=>normalizeW_spec A n c rs t.text w (hs.cls hw) hok hsz hnb) ?_)
   rintro u R ⟨z,e,⟨he1,he2,he3⟩,rfl,rfl⟩
   rw [List.nil_append]
   repeat' (first|refine d1 ?_|(show ∀ _:Nat,T _ _ _ _ _;intro _))
   refine T_if rfl (fun h3=>?_) (fun h3=>?_)
   ·have he0:e≠0:=by simpa using h3
    obtain rfl:e=4:=he1.resolve_left he0
    repeat' (first|refine d1 ?_|(show ∀ _:Nat,T _ _ _ _ _;intro _))
    exact T_retV K rfl (Hle.tail _ _) (.inr ⟨⟨t,List.mem_of_getElem? htk,hw0,Classical.byContradiction fun h9=>he0 (he3 h9)⟩,rfl,rfl⟩)
   ·have he0:e=0:=by simpa using h3
    repeat' (first|refine d1 ?_|(show ∀ _:Nat,T _ _ _ _ _;intro _))
    refine T_op (OpT.storeR (us:=[.string z]) rfl rfl rfl rfl rfl rfl (by show 0+((k:Nat):Int).toNat * 6+1+1≤m * 6;omega) ?_)
    rw [setL_tok (hset _) z _ (by omega),List.set_set]
    repeat' (first|refine d1 ?_|(show ∀ _:Nat,T _ _ _ _ _;intro _))
    obtain⟨g1,g2,g3⟩:=hstep { t with norm:=z } ⟨rfl,fun _=>he2 he0,fun h9=>by rw [hw0] at h9;cases h9⟩
    exact T_backX (k+1,us.set k { t with norm:=z }) ⟨by dsimp only;omega,g1,g2,g3⟩ (by dsimp only;omega)
 ·simp only [decide_eq_false_iff_not] at h
  repeat' (first|refine d1 ?_|(show ∀ _:Nat,T _ _ _ _ _;intro _))
  exact T_retV (row 38 6 B cm m (us.flatMap Tok.cells)::K) rfl (Hle.refl _) (.inl ⟨us,⟨by rw [hul,hm],fun i t hit=>hdn i t (by have:=(List.getElem?_eq_some_iff.1 hit).1;omega) hit⟩,rfl,rfl⟩)
end Go.Proofs.YtbfcfpmholkmeaaGreatDoor
namespace Go.Proofs.YtbfcfpmholkmeaaGreatDoor
open Go.RowKit Go.Shelf Go.Proofs
set_option maxRecDepth 100000
set_option maxHeartbeats 4000000

theorem badTok_spec (t:Tok) (ht:t.small) (w:World) (hst:Std w):Spec Tryz.prog 26 [t.val] w (fun v R=>v = .bool (!decide (tokE t=0))∧R=[]):=by
 refine spec_of sg Tryz.func26 rfl rfl rfl ?_
 repeat' (first|(show T _ (.ops _ (⟨_, .box _ _,_,_,_,_⟩::_)::_) _ _ _;refine T_op (OpT.box (cs:=t.cells) rfl rfl rfl rfl rfl rfl rfl (fun _=>?_)))|refine d1 ?_|(show T _ (.ops _ (_::_)::_) _ _ _;first|refine T_call rfl rfl rfl rfl rfl (fun w hw=>tokPrg_spec t ht w (hst.cls hw)) ?_|refine T_callC rfl rfl rfl rfl rfl rfl rfl (fun hg w hw=>tokPrg_spec t ht w (hst.cls hw)) ?_)|(show T _ (.run _ _ (_::_) _ _::_) _ _ _;first|refine rc rfl rfl rfl rfl rfl rfl rfl (fun w hw=>tokPrg_spec t ht w (hst.cls hw)) ?_|refine rcG rfl rfl rfl rfl rfl rfl rfl rfl rfl (fun hg w hw=>tokPrg_spec t ht w (hst.cls hw)) ?_)|(show ∀ _:Nat,T _ _ _ _ _;intro _)|(show T _ (.code .ret::_) _ _ _;refine T_retV [] rfl (Hle.none _) ⟨rfl,rfl⟩))
theorem normTok_spec (A B:Option Addr) (n c m cm:Nat) (rs:List RuB) (ts:List Tok) (w:World) (hst:Std w) (hs:RsR w A n rs) (hok:rusOk rs) (hB:Src w 6 B m (ts.flatMap Tok.cells)) (hm:ts.length=m) (hmb:m≤1000) (hsm:∀ t∈ts,t.small) (ht:∀ t∈ts,tokE t=0) :
  Spec Tryz.prog 8 [.slice A n c, .slice B m cm] w
   (fun v R=>(∃ (x:Option Addr × Nat) (us:List Tok),nmList rs ts us∧v = .tuple #[.slice x.1 m x.2, .int .i64 0]∧R=[row 38 6 x.1 x.2 m (us.flatMap Tok.cells)])∨(v = .tuple #[.slice none 0 0, .int .i64 4]∧R=[])):=by
 refine spec_of sg Tryz.func8 rfl rfl rfl ?_
 repeat' (first|refine d1 ?_|(show ∀ _:Nat,T _ _ _ _ _;intro _))
 refine T_op (OpT.call rfl rfl rfl rfl rfl (fun w hw=>checkRules_spec A n c rs w (hs.cls hw)) ?_)
 rintro u R ⟨e,he,rfl,rfl⟩
 rw [List.nil_append]
 obtain rfl:=he.2 hok
 repeat' (first|refine d1 ?_|(show ∀ _:Nat,T _ _ _ _ _;intro _))
 refine T_if rfl (fun h=>by exfalso;simp at h) (fun _=>?_)
 repeat' (first|refine d1 ?_|(show ∀ _:Nat,T _ _ _ _ _;intro _))
 refine T_if rfl (fun h=>by exfalso;simp at h;omega) (fun _=>?_)
 have hany:(ts.any fun t => !decide (tokE t=0))=false:=List.any_eq_false.2 fun t h9=>by simp [ht t h9]
 repeat' (first|refine d1 ?_|(show T _ (.ops _ (_::_)::_) _ _ _;first|refine T_call rfl rfl rfl rfl rfl (fun w hw=>containsFuncT_spec B m cm ts 26 [] [] (fun t => !decide (tokE t=0)) w (src_below hB hw.below) hm (by omega) (fun x hx w' hb'=>badTok_spec x (hsm x hx) w' ((hst.cls hw).below hb'))) ?_|refine T_callC rfl rfl rfl rfl rfl rfl rfl (fun hg w hw=>containsFuncT_spec B m cm ts 26 [] [] (fun t => !decide (tokE t=0)) w (src_below hB hw.below) hm (by omega) (fun x hx w' hb'=>badTok_spec x (hsm x hx) w' ((hst.cls hw).below hb'))) ?_)|(show T _ (.run _ _ (_::_) _ _::_) _ _ _;first|refine rc rfl rfl rfl rfl rfl rfl rfl (fun w hw=>containsFuncT_spec B m cm ts 26 [] [] (fun t => !decide (tokE t=0)) w (src_below hB hw.below) hm (by omega) (fun x hx w' hb'=>badTok_spec x (hsm x hx) w' ((hst.cls hw).below hb'))) ?_|refine rcG rfl rfl rfl rfl rfl rfl rfl rfl rfl (fun hg w hw=>containsFuncT_spec B m cm ts 26 [] [] (fun t => !decide (tokE t=0)) w (src_below hB hw.below) hm (by omega) (fun x hx w' hb'=>badTok_spec x (hsm x hx) w' ((hst.cls hw).below hb'))) ?_)|(show ∀ _:Nat,T _ _ _ _ _;intro _))
 rw [hany]
 refine T_if rfl (fun h=>by cases h) (fun _=>?_)
 repeat' (first|refine d1 ?_|(show ∀ _:Nat,T _ _ _ _ _;intro _))
 refine T_op (OpT.call rfl rfl rfl rfl rfl (fun w hw=>cloneT_spec B m cm ts w (src_below hB hw.below) (by omega)) ?_)
 rintro u R ⟨⟨X,cx⟩,-,rfl,rfl⟩
 dsimp only
 refine T_le (H':=[row 38 6 X cx m (ts.flatMap Tok.cells)]) (Hle.refl _) ?_
 refine T_op (OpT.callB rfl rfl rfl rfl rfl (normalized_spec A X n c m cx rs ts [] hs hok hm (by omega) fun t h=>tokE_word (ht t h)) ?_)
 rintro u R (⟨us,hus,rfl,rfl⟩|⟨-,rfl,rfl⟩)
 ·repeat' (first|refine d1 ?_|(show ∀ _:Nat,T _ _ _ _ _;intro _))
  exact T_retV [row 38 6 X cx m (us.flatMap Tok.cells)] rfl (Hle.refl _) (.inl ⟨(X,cx),us,hus,rfl,rfl⟩)
 ·repeat' (first|refine d1 ?_|(show ∀ _:Nat,T _ _ _ _ _;intro _))
  exact T_retV [] rfl (Hle.none _) (.inr ⟨rfl,rfl⟩)
def longB (s:ByteArray):Bool:=(decide (5<s.size) && decide (s.size≤64)) || decide (68<s.size)
theorem long14_spec (s:ByteArray) (w:World):Spec Tryz.prog 32 [.string s, .int .i64 5] w (fun v R=>v = .bool (longB s)∧R=[]):=by
 refine spec_of sg Tryz.func32 rfl rfl rfl ?_
 repeat' (first|refine d1 ?_|(show ∀ _:Nat,T _ _ _ _ _;intro _)|(show T _ (.code .ret::_) _ _ _;refine T_retV [] rfl (Hle.none _) ⟨congrArg Value.bool ?_,rfl⟩))
 unfold longB
 rw [show decide ((5:Int)<(s.size:Int))=decide (5<s.size) from decide_eq_decide.2 (by omega),show decide ((s.size:Int)≤64)=decide (s.size≤64) from decide_eq_decide.2 (by omega),show decide ((68:Int)<(s.size:Int))=decide (68<s.size) from decide_eq_decide.2 (by omega)]
theorem great14_spec (A:Option Addr) (n c:Nat) (rs:List RuB) (w:World) (hs:Src w 2 A n (rs.flatMap ruC)) (hl:rs.length=n) (hn:n≤9223372036854775807) :
  Spec Tryz.prog 12 [.slice A n c] w (fun v R=>∃ q:Bool,(q=false→n≤68∧∀ r∈rs,r.1.size≤68∧r.2.size≤68)∧v = .bool q∧R=[]):=by
 refine spec_of sg Tryz.func12 rfl rfl rfl ?_
 repeat' (first|refine d1 ?_|(show ∀ _:Nat,T _ _ _ _ _;intro _))
 refine T_if rfl (fun h1=>?_) (fun h1=>?_)
 ·repeat' (first|refine d1 ?_|(show ∀ _:Nat,T _ _ _ _ _;intro _)|(show T _ (.code .ret::_) _ _ _;refine T_retV [] rfl (Hle.none _) ⟨true,fun h=>(by cases h),rfl,rfl⟩))
 have hn68:n≤68:=by
  simp only [Bool.or_eq_false_iff,Bool.and_eq_false_iff,decide_eq_false_iff_not] at h1
  omega
 repeat' (first|refine d1 ?_|(show ∀ _:Nat,T _ _ _ _ _;intro _))
 refine T_loopX (fun k:Nat=>[(3, .int .i64 (k:Nat))]) (fun _=>[]) (fun k=>k≤n∧∀ r∈rs.take k,r.1.size≤68∧r.2.size≤68) (fun k=>n - k) 0 ⟨Nat.zero_le _,fun r h=>by simp at h⟩ ?_
 rintro k ⟨hk,hok⟩
 repeat' (first|refine d1 ?_|(show ∀ _:Nat,T _ _ _ _ _;intro _))
 refine T_if rfl (fun h2=>?_) (fun h2=>?_)
 ·simp only [decide_eq_true_eq] at h2
  obtain⟨b,o,rfl⟩:=hs.base (by omega)
  obtain⟨r,hr⟩:∃ r,rs[k]?=some r:=⟨_,List.getElem?_eq_getElem (by omega)⟩
  obtain⟨-,hr2⟩:=hs.2 (by omega)
  have h9:∀ (j:Nat) u,(ruC r)[j]?=some u→RdC w b (o+(k:Int).toNat * 2+j) [u]:=fun j u hu=>RdC.one (by
   have:=hr2 (k * 2+j) u (flat_getW ruC 2 ruC_len hr j u hu)
   rw [show o+(k:Int).toNat * 2+j=ofs (some ⟨b,o,none⟩)+(k * 2+j) by show _=o+(k * 2+j);omega]
   exact this)
  have ha:=h9 0 _ rfl
  have hb:=h9 1 _ rfl
  repeat' (first|refine d1 ?_|(show T _ (.ops _ (_::_)::_) _ _ _;first|refine T_val rfl (Val.load rfl (fun hg=>rdOld ha)) rfl rfl rfl ?_|refine T_valC rfl (Val.load rfl (fun hg=>rdOld ha)) rfl rfl rfl rfl rfl ?_|refine T_val rfl (Val.load rfl (fun hg=>rdOld hb)) rfl rfl rfl ?_|refine T_valC rfl (Val.load rfl (fun hg=>rdOld hb)) rfl rfl rfl rfl rfl ?_|refine T_call rfl rfl rfl rfl rfl (fun w hw=>long14_spec r.1 w) ?_|refine T_callC rfl rfl rfl rfl rfl rfl rfl (fun hg w hw=>long14_spec r.1 w) ?_|refine T_call rfl rfl rfl rfl rfl (fun w hw=>long14_spec r.2 w) ?_|refine T_callC rfl rfl rfl rfl rfl rfl rfl (fun hg w hw=>long14_spec r.2 w) ?_)|(show T _ (.run _ _ (_::_) _ _::_) _ _ _;first|refine rv rfl rfl rfl (Val.load rfl (fun hg=>rdOld ha)) rfl rfl rfl ?_|refine rg rfl rfl rfl (Val.load rfl (fun hg=>rdOld ha)) rfl rfl rfl rfl rfl ?_|refine rv rfl rfl rfl (Val.load rfl (fun hg=>rdOld hb)) rfl rfl rfl ?_|refine rg rfl rfl rfl (Val.load rfl (fun hg=>rdOld hb)) rfl rfl rfl rfl rfl ?_|refine rc rfl rfl rfl rfl rfl rfl rfl (fun w hw=>long14_spec r.1 w) ?_|refine rcG rfl rfl rfl rfl rfl rfl rfl rfl rfl (fun hg w hw=>long14_spec r.1 w) ?_|refine rc rfl rfl rfl rfl rfl rfl rfl (fun w hw=>long14_spec r.2 w) ?_|refine rcG rfl rfl rfl rfl rfl rfl rfl rfl rfl (fun hg w hw=>long14_spec r.2 w) ?_)|(show ∀ _:Nat,T _ _ _ _ _;intro _))
  refine T_if rfl (fun h3=>?_) (fun h3=>?_)
  ·repeat' (first|refine d1 ?_|(show ∀ _:Nat,T _ _ _ _ _;intro _)|(show T _ (.code .ret::_) _ _ _;refine T_retV [] rfl (Hle.none _) ⟨true,fun h=>(by cases h),rfl,rfl⟩))
  ·repeat' (first|refine d1 ?_|(show ∀ _:Nat,T _ _ _ _ _;intro _))
   refine T_backX (k+1) ⟨by omega,fun r' hr'=>?_⟩ (by omega)
   rw [take_snoc _ _ _ hr,List.mem_append,List.mem_singleton] at hr'
   rcases hr' with hr'|rfl
   ·exact hok r' hr'
   ·unfold longB at h3
    simp only [Bool.or_eq_false_iff,Bool.and_eq_false_iff,decide_eq_false_iff_not] at h3
    omega
 ·simp only [decide_eq_false_iff_not] at h2
  rw [List.take_of_length_le (by omega)] at hok
  repeat' (first|refine d1 ?_|(show ∀ _:Nat,T _ _ _ _ _;intro _)|(show T _ (.code .ret::_) _ _ _;refine T_retV [] rfl (Hle.none _) ⟨false,fun _=>⟨hn68,hok⟩,rfl,rfl⟩))
end Go.Proofs.YtbfcfpmholkmeaaGreatDoor
namespace Go.Proofs.YtbfcfpmholkmeaaGreatDoor
open Go.RowKit Go.Shelf Go.Proofs
set_option maxRecDepth 100000
set_option maxHeartbeats 4000000

theorem fineT_spec (t:Tok) (ht:t.small) (w:World) (hst:Std w):Spec Tryz.prog 18 [t.val] w (fun v R=>v = .bool (!decide (tokE t=0))∧R=[]):=by
 refine spec_of sg Tryz.func18 rfl rfl rfl ?_
 repeat' (first|(show T _ (.ops _ (⟨_, .box _ _,_,_,_,_⟩::_)::_) _ _ _;refine T_op (OpT.box (cs:=t.cells) rfl rfl rfl rfl rfl rfl rfl (fun _=>?_)))|refine d1 ?_|(show T _ (.ops _ (_::_)::_) _ _ _;first|refine T_call rfl rfl rfl rfl rfl (fun w hw=>tokPrg_spec t ht w (hst.cls hw)) ?_|refine T_callC rfl rfl rfl rfl rfl rfl rfl (fun hg w hw=>tokPrg_spec t ht w (hst.cls hw)) ?_)|(show T _ (.run _ _ (_::_) _ _::_) _ _ _;first|refine rc rfl rfl rfl rfl rfl rfl rfl (fun w hw=>tokPrg_spec t ht w (hst.cls hw)) ?_|refine rcG rfl rfl rfl rfl rfl rfl rfl rfl rfl (fun hg w hw=>tokPrg_spec t ht w (hst.cls hw)) ?_)|(show ∀ _:Nat,T _ _ _ _ _;intro _)|(show T _ (.code .ret::_) _ _ _;refine T_retV [] rfl (Hle.none _) ⟨rfl,rfl⟩))
theorem fineL_spec (t:TS) (w:World) (hst:Std w) (hs:Src w 6 t.A t.n (t.l.flatMap Tok.cells)) (hl:t.l.length=t.n) (hb:t.n≤9223372036854775807) (hsm:∀ x∈t.l,x.small):Spec Tryz.prog 16 [t.val] w (fun v R=>v = .bool (t.l.any fun x => !decide (tokE x=0))∧R=[]):=by
 refine spec_of sg Tryz.func16 rfl rfl rfl ?_
 repeat' (first|refine d1 ?_|(show T _ (.ops _ (_::_)::_) _ _ _;first|refine T_call rfl rfl rfl rfl rfl (fun w hw=>containsFuncT_spec t.A t.n t.cap t.l 18 [] [] (fun x => !decide (tokE x=0)) w (src_below hs hw.below) hl hb (fun x hx w' hb'=>fineT_spec x (hsm x hx) w' ((hst.cls hw).below hb'))) ?_|refine T_callC rfl rfl rfl rfl rfl rfl rfl (fun hg w hw=>containsFuncT_spec t.A t.n t.cap t.l 18 [] [] (fun x => !decide (tokE x=0)) w (src_below hs hw.below) hl hb (fun x hx w' hb'=>fineT_spec x (hsm x hx) w' ((hst.cls hw).below hb'))) ?_)|(show T _ (.run _ _ (_::_) _ _::_) _ _ _;first|refine rc rfl rfl rfl rfl rfl rfl rfl (fun w hw=>containsFuncT_spec t.A t.n t.cap t.l 18 [] [] (fun x => !decide (tokE x=0)) w (src_below hs hw.below) hl hb (fun x hx w' hb'=>fineT_spec x (hsm x hx) w' ((hst.cls hw).below hb'))) ?_|refine rcG rfl rfl rfl rfl rfl rfl rfl rfl rfl (fun hg w hw=>containsFuncT_spec t.A t.n t.cap t.l 18 [] [] (fun x => !decide (tokE x=0)) w (src_below hs hw.below) hl hb (fun x hx w' hb'=>fineT_spec x (hsm x hx) w' ((hst.cls hw).below hb'))) ?_)|(show ∀ _:Nat,T _ _ _ _ _;intro _)|(show T _ (.code .ret::_) _ _ _;refine T_retV [] rfl (Hle.none _) ⟨rfl,rfl⟩))
structure FineN (n:Nat) (rs:List RuB) (l:List TS):Prop where
 n5:n≤5
 sz:∀ r∈rs,r.1.size≤68∧r.2.size≤68
 ok:rusOk rs
 cr:critI (rusL rs)
 l4:l.length≤4
 gr:grT22 (l.map TS.l)=false
 tk:∀ t∈l,∀ x∈t.l,tokE x=0
theorem fineN_spec (A A2:Option Addr) (n c c2:Nat) (rs:List RuB) (l:List TS) (w:World) (hst:Std w) (hs:Src w 2 A n (rs.flatMap ruC)) (hl:rs.length=n) (hn:n≤9223372036854775807) (hs2:Src w 1 A2 l.length (l.map TS.val)) (hts:TsOk w l) (hb2:l.length≤9223372036854775807) :
  Spec Tryz.prog 4 [.slice A n c, .slice A2 l.length c2] w (fun v R=>∃ q:Bool,(q=true→FineN n rs l)∧v = .bool q∧R=[]):=by
 refine spec_of sg Tryz.func4 rfl rfl rfl ?_
 repeat' (first|refine d1 ?_|(show ∀ _:Nat,T _ _ _ _ _;intro _))
 refine T_op (OpT.call rfl rfl rfl rfl rfl (fun w hw=>great14_spec A n c rs w (src_below hs hw.below) hl hn) ?_)
 rintro u R ⟨q0,hq0,rfl,rfl⟩
 rw [List.nil_append]
 repeat' (first|refine d1 ?_|(show T _ (.ops _ (_::_)::_) _ _ _;first|refine T_call rfl rfl rfl rfl rfl (fun w hw=>greatTokens_spec A2 c2 l w (src_below hs2 hw.below) ⟨fun t ht=>src_below (hts.src t ht) hw.below,hts.len,hts.bd⟩ hb2) ?_|refine T_callC rfl rfl rfl rfl rfl rfl rfl (fun hg w hw=>greatTokens_spec A2 c2 l w (src_below hs2 hw.below) ⟨fun t ht=>src_below (hts.src t ht) hw.below,hts.len,hts.bd⟩ hb2) ?_)|(show T _ (.run _ _ (_::_) _ _::_) _ _ _;first|refine rc rfl rfl rfl rfl rfl rfl rfl (fun w hw=>greatTokens_spec A2 c2 l w (src_below hs2 hw.below) ⟨fun t ht=>src_below (hts.src t ht) hw.below,hts.len,hts.bd⟩ hb2) ?_|refine rcG rfl rfl rfl rfl rfl rfl rfl rfl rfl (fun hg w hw=>greatTokens_spec A2 c2 l w (src_below hs2 hw.below) ⟨fun t ht=>src_below (hts.src t ht) hw.below,hts.len,hts.bd⟩ hb2) ?_)|(show ∀ _:Nat,T _ _ _ _ _;intro _))
 refine T_if rfl (fun h=>?_) (fun h=>?_)
 ·repeat' (first|refine d1 ?_|(show ∀ _:Nat,T _ _ _ _ _;intro _)|(show T _ (.code .ret::_) _ _ _;refine T_retV [] rfl (Hle.none _) ⟨false,fun h=>(by cases h),rfl,rfl⟩))
 simp only [Bool.or_eq_false_iff,decide_eq_false_iff_not] at h
 obtain⟨⟨⟨⟨h1,h2⟩,h3⟩,h4⟩,h5⟩:=h
 obtain⟨-,hsz⟩:=hq0 h1
 obtain⟨hsm,-⟩:=grT22_no h3
 have hrs:RsR w A n rs:=⟨hs,hl,by omega,fun r hr=>by have:=hsz r hr;omega⟩
 repeat' (first|refine d1 ?_|(show ∀ _:Nat,T _ _ _ _ _;intro _))
 refine T_op (OpT.call rfl rfl rfl rfl rfl (fun w hw=>confluent_spec A n c rs w (hrs.cls hw)) ?_)
 rintro u R ⟨q1,e,hq1,rfl,rfl⟩
 rw [List.nil_append]
 repeat' (first|refine d1 ?_|(show T _ (.ops _ (_::_)::_) _ _ _;first|refine T_call rfl rfl rfl rfl rfl (fun w hw=>containsFuncS_spec A2 l.length c2 l 16 [] [] (fun t=>t.l.any fun x => !decide (tokE x=0)) w (src_below hs2 hw.below) rfl hb2 (fun x hx w' hb'=>fineL_spec x w' ((hst.cls hw).below hb') (src_below (src_below (hts.src x hx) hw.below) hb') (hts.len x hx) (hts.bd x hx) (hsm x.l (List.mem_map_of_mem hx)).2)) ?_|refine T_callC rfl rfl rfl rfl rfl rfl rfl (fun hg w hw=>containsFuncS_spec A2 l.length c2 l 16 [] [] (fun t=>t.l.any fun x => !decide (tokE x=0)) w (src_below hs2 hw.below) rfl hb2 (fun x hx w' hb'=>fineL_spec x w' ((hst.cls hw).below hb') (src_below (src_below (hts.src x hx) hw.below) hb') (hts.len x hx) (hts.bd x hx) (hsm x.l (List.mem_map_of_mem hx)).2)) ?_)|(show T _ (.run _ _ (_::_) _ _::_) _ _ _;first|refine rc rfl rfl rfl rfl rfl rfl rfl (fun w hw=>containsFuncS_spec A2 l.length c2 l 16 [] [] (fun t=>t.l.any fun x => !decide (tokE x=0)) w (src_below hs2 hw.below) rfl hb2 (fun x hx w' hb'=>fineL_spec x w' ((hst.cls hw).below hb') (src_below (src_below (hts.src x hx) hw.below) hb') (hts.len x hx) (hts.bd x hx) (hsm x.l (List.mem_map_of_mem hx)).2)) ?_|refine rcG rfl rfl rfl rfl rfl rfl rfl rfl rfl (fun hg w hw=>containsFuncS_spec A2 l.length c2 l 16 [] [] (fun t=>t.l.any fun x => !decide (tokE x=0)) w (src_below hs2 hw.below) rfl hb2 (fun x hx w' hb'=>fineL_spec x w' ((hst.cls hw).below hb') (src_below (src_below (hts.src x hx) hw.below) hb') (hts.len x hx) (hts.bd x hx) (hsm x.l (List.mem_map_of_mem hx)).2)) ?_)|(show ∀ _:Nat,T _ _ _ _ _;intro _))
 repeat' (first|refine d1 ?_|(show ∀ _:Nat,T _ _ _ _ _;intro _)|(show T _ (.code .ret::_) _ _ _;refine T_retV [] rfl (Hle.none _) ⟨_,fun hq=>?_,rfl,rfl⟩))
 simp only [Bool.and_eq_true,decide_eq_true_eq,Bool.not_eq_true'] at hq
 obtain⟨⟨he,hq1'⟩,hany⟩:=hq
 obtain⟨g1,g2⟩:=hq1 he hq1'
 refine ⟨by omega,hsz,g1,g2,by omega,h3,fun t ht x hx=>?_⟩
 have h9:=List.any_eq_false.1 hany t ht
 rw [Bool.not_eq_true,List.any_eq_false] at h9
 simpa using h9 x hx
end Go.Proofs.YtbfcfpmholkmeaaGreatDoor
namespace Go.Proofs.YtbfcfpmholkmeaaGreatDoor
open Go.RowKit Go.Shelf Go.Proofs
set_option maxRecDepth 100000
set_option maxHeartbeats 4000000

theorem growW_spec (n:Nat) (w:World) (hb:n≤1000000) :
  Spec Tryz.prog 24 [.slice none 0 0, .int .i64 (n:Nat)] w (fun v R=>∃ x:Option Addr × Nat,True∧v = .slice x.1 0 x.2∧R=[row 28 2 x.1 x.2 0 []]):=by
 refine spec_of sg Tryz.func24 rfl rfl rfl ?_
 repeat' (first|refine d1 ?_|refine dd ?_|(show ∀ _:Nat,T _ _ _ _ _;intro _))
 refine T_if rfl (fun h=>by exfalso;simp at h;omega) (fun h=>?_)
 repeat' (first|refine d1 ?_|refine dd ?_|(show ∀ _:Nat,T _ _ _ _ _;intro _))
 refine T_if rfl (fun h=>?_) (fun h=>?_)
 ·simp only [decide_eq_true_eq] at h
  rw [show (n:Int) - ((0:Nat) - (0:Nat):Int)=((n:Nat):Int) by omega]
  repeat' (first|refine d1 ?_|refine dd ?_|(show T _ (.ops _ (_::_)::_) _ _ _;refine T_op (OpT.appendN (k:=n) (sz:=2) rfl rfl rfl rfl rfl rfl rfl rfl rfl (by omega) (by dsimp only;omega) (by omega) (fun b cap' hc'=>?_)))|(show ∀ _:Nat,T _ _ _ _ _;intro _)|(show T _ (.code .ret::_) _ _ _;refine T_retV _ rfl (Hle.refl _) ⟨(some ⟨_,0,none⟩,_),trivial,rfl,rfl⟩))
 ·simp only [decide_eq_false_iff_not] at h
  refine T_nilrow 28 2 ?_
  repeat' (first|refine d1 ?_|refine dd ?_|(show ∀ _:Nat,T _ _ _ _ _;intro _)|(show T _ (.code .ret::_) _ _ _;refine T_retV _ rfl (Hle.refl _) ⟨(none,0),trivial,rfl,rfl⟩))
theorem concatW_spec (A:Option Addr) (n c:Nat) (l:List PS) (w:World) (hs:Src w 1 A n (l.map PS.val)) (hn:l.length=n) (hb:n≤1000) (hl:∀ p∈l,Src w 2 p.A p.n p.vs∧oneCells p.vs=true) (hsum:sumP l≤1000000) :
  Spec Tryz.prog 6 [.slice A n c] w (fun v R=>∃ x:Option Addr × Nat,True∧v = .slice x.1 (sumP l) x.2∧R=[row 28 2 x.1 x.2 (sumP l) (catP l)]):=by
 refine spec_of sg Tryz.func6 rfl rfl rfl ?_
 repeat' (first|refine d1 ?_|refine dd ?_|(show ∀ _:Nat,T _ _ _ _ _;intro _))
 refine T_loopX (fun j:Nat=>[(11, .int .i64 (j:Nat)),(3, .int .i64 (sumP (l.take j):Nat))]) (fun _=>[]) (fun j=>j≤n) (fun j=>n - j) 0 (Nat.zero_le _) ?_
 intro j hj
 have hsj:=sumP_le l j
 repeat' (first|refine d1 ?_|refine dd ?_|(show ∀ _:Nat,T _ _ _ _ _;intro _))
 refine T_if rfl (fun h=>?_) (fun h=>?_)
 ·simp only [decide_eq_true_eq] at h
  obtain⟨b,o,rfl⟩:=hs.base (by omega)
  obtain⟨t,ht⟩:∃ t,l[j]?=some t:=⟨_,List.getElem?_eq_getElem (by omega)⟩
  have hr:RdC w b (o+(j:Int).toNat * 1) [.slice t.A t.n t.cap]:=by
   have h9:=(hs.get1 (i:=j) (by omega) (by rw [List.getElem?_map,ht];rfl)).2
   rw [Nat.mul_one] at h9
   rw [off1]
   exact h9
  have hsn:=sumP_snoc ht
  have hsn2:=sumP_le l (j+1)
  repeat' (first|refine d1 ?_|refine dd ?_|(show ∀ _:Nat,T _ _ _ _ _;intro _))
  refine T_if rfl (fun h2=>by exfalso;simp at h2;omega) (fun h2=>?_)
  repeat' (first|refine d1 ?_|refine dd ?_|(show ∀ _:Nat,T _ _ _ _ _;intro _))
  exact T_backX (j+1) (by omega) (by omega) (hE:=⟨rfl,by rw [hsn];rfl,trivial⟩)
 simp only [decide_eq_false_iff_not] at h
 obtain rfl:j=n:=by omega
 rw [show l.take j=l from List.take_of_length_le (by omega)]
 repeat' (first|refine d1 ?_|refine dd ?_|(show T _ (.ops _ (_::_)::_) _ _ _;refine T_callE rfl rfl rfl rfl rfl (fun w hw=>growW_spec (sumP l) w hsum) (fun x _=>?_))|(show ∀ _:Nat,T _ _ _ _ _;intro _))
 obtain⟨Ag,cg⟩:=x
 refine T_loopX (fun s:Nat × Option Addr × Nat=>[(27, .int .i64 (s.1:Nat)),(6, .slice s.2.1 (sumP (l.take s.1)) s.2.2)]) (fun s=>[row 28 2 s.2.1 s.2.2 (sumP (l.take s.1)) (catP (l.take s.1))]) (fun s=>s.1≤j) (fun s=>j - s.1) (0,Ag,cg) (Nat.zero_le _) ?_
 rintro⟨k,A1,cap1⟩ hk
 dsimp only at hk ⊢
 have hsk:=sumP_le l k
 repeat' (first|refine d1 ?_|refine dd ?_|(show ∀ _:Nat,T _ _ _ _ _;intro _))
 refine T_if rfl (fun h3=>?_) (fun h3=>?_)
 ·simp only [decide_eq_true_eq] at h3
  obtain⟨b,o,rfl⟩:=hs.base (by omega)
  obtain⟨t,ht⟩:∃ t,l[k]?=some t:=⟨_,List.getElem?_eq_getElem (by omega)⟩
  have hr:RdC w b (o+(k:Int).toNat * 1) [.slice t.A t.n t.cap]:=by
   have h9:=(hs.get1 (i:=k) (by omega) (by rw [List.getElem?_map,ht];rfl)).2
   rw [Nat.mul_one] at h9
   rw [off1]
   exact h9
  have hsn:=sumP_snoc ht
  have hsn2:=sumP_le l (k+1)
  obtain⟨hp1,hp2⟩:=hl t (List.mem_of_getElem? ht)
  repeat' (first|refine d1 ?_|refine dd ?_|(show T _ (.ops _ (_::_)::_) _ _ _;refine T_op (OpT.append rfl rfl rfl rfl rfl rfl rfl rfl rfl rfl (rdSrc hp1) hp2 (by dsimp only;omega) (by omega) (fun A' cap' hA'=>?_)))|(show ∀ _:Nat,T _ _ _ _ _;intro _))
  exact T_backX (k+1,A',cap') (by dsimp only;omega) (by dsimp only;omega) (hE:=⟨rfl,by dsimp only;rw [hsn];rfl,trivial⟩) (hG:=by dsimp only;rw [hsn,catP_snoc ht];exact Hle.refl _)
 ·simp only [decide_eq_false_iff_not] at h3
  obtain rfl:k=j:=by omega
  rw [show l.take k=l from List.take_of_length_le (by omega)]
  repeat' (first|refine d1 ?_|refine dd ?_|(show ∀ _:Nat,T _ _ _ _ _;intro _)|(show T _ (.code .ret::_) _ _ _;refine T_retV _ rfl (Hle.refl _) ⟨(A1,cap1),trivial,rfl,rfl⟩))
def ruA (l:List RuB) (i:Nat):RuB:=l.getD i (ByteArray.empty,ByteArray.empty)
theorem ruA_get {l:List RuB} {i:Nat} (h:i<l.length):l[i]?=some (ruA l i):=by
 unfold ruA;rw [List.getD_eq_getElem?_getD,List.getElem?_eq_getElem h];rfl
theorem flatRu_set (l:List RuB) (i:Nat) (t:RuB) (h:i<l.length):setL (l.flatMap ruC) (i * 2) (ruC t)=(l.set i t).flatMap ruC:=flat_set ruC 2 (fun _=>rfl) l i t h
def RvRu (l r:List RuB) (i:Nat):Prop:=r.length=l.length∧∀ k,k<l.length→r[k]?=if k<i∨l.length≤k+i then l[l.length - 1 - k]? else l[k]?
theorem RvRu.zero (l:List RuB):RvRu l l 0:=⟨rfl,fun k hk=>by rw [if_neg (by omega)]⟩
theorem RvRu.step {l r:List RuB} {i:Nat} (h:RvRu l r i) (hi:2 * i+1<l.length):RvRu l ((r.set i (ruA r (l.length - 1 - i))).set (l.length - 1 - i) (ruA r i)) (i+1):=by
 obtain⟨h1,h2⟩:=h
 have e1:r[l.length - 1 - i]?=l[l.length - 1 - i]?:=by rw [h2 _ (by omega),if_neg (by omega)]
 have e2:r[i]?=l[i]?:=by rw [h2 _ (by omega),if_neg (by omega)]
 refine ⟨by simp [h1],fun k hk=>?_⟩
 rw [List.getElem?_set,List.getElem?_set,List.length_set]
 by_cases hk1:l.length - 1 - i=k
 ·rw [if_pos hk1,if_pos (by omega),if_pos (by omega),show l.length - 1 - k=i by omega, ← e2,ruA_get (by omega)]
 ·rw [if_neg hk1]
  by_cases hk2:i=k
  ·subst hk2
   rw [if_pos rfl,if_pos (by omega),if_pos (by omega), ← e1,ruA_get (by omega)]
  ·rw [if_neg hk2,h2 k hk]
   by_cases h3:k<i∨l.length≤k+i
   ·rw [if_pos h3,if_pos (by omega)]
   ·rw [if_neg h3,if_neg (by omega)]
theorem RvRu.all {l r:List RuB} {i:Nat} (h:RvRu l r i) (hi:l.length≤2 * i+1):r=l.reverse:=by
 obtain⟨h1,h2⟩:=h
 apply List.ext_getElem?
 intro k
 by_cases hk:k<l.length
 ·rw [h2 k hk,List.getElem?_reverse hk]
  split
  ·rfl
  ·rw [show l.length - 1 - k=k by omega]
 ·rw [List.getElem?_eq_none (by omega),List.getElem?_eq_none (by simp;omega)]
theorem reverseW_spec (A:Option Addr) (n c cap:Nat) (l:List RuB) (w0:World) (K:List HA) (hl:l.length=n) (hb:n≤1000000) :
  SpecB Tryz.prog 7 [.slice A n c] w0 (row 28 2 A cap n (l.flatMap ruC)::K) (fun v R=>v = .tuple #[]∧R=row 28 2 A cap n (l.reverse.flatMap ruC)::K):=by
 refine specB_of sg Tryz.func7 rfl rfl rfl ?_
 repeat' (first|refine d1 ?_|refine dd ?_|(show ∀ _:Nat,T _ _ _ _ _;intro _))
 refine T_loopX (fun s:Nat × List RuB=>[(2, .int .i64 s.1),(3, .int .i64 ((n:Int) - 1 - s.1))]) (fun s=>row 28 2 A cap n (s.2.flatMap ruC)::K) (fun s=>2 * s.1≤n+1∧RvRu l s.2 s.1) (fun s=>n+1 - s.1) (0,l) ⟨by omega,RvRu.zero l⟩ ?_ (hE:=⟨rfl,by rw [show (n:Int) - 1 - ((0:Nat):Int)=(n:Int) - 1 by omega];rfl,trivial⟩)
 rintro⟨i,r⟩ ⟨hi,hr⟩
 dsimp only at hi hr ⊢
 have hrl:r.length=n:=by rw [hr.1,hl]
 repeat' (first|refine d1 ?_|refine dd ?_|(show ∀ _:Nat,T _ _ _ _ _;intro _))
 refine T_if rfl (fun h=>?_) (fun h=>?_)
 ·simp only [decide_eq_true_eq] at h
  refine T_rowpos (A:=A) (by omega) (fun g e=>?_)
  subst e
  have hs:=hr.step (by omega)
  rw [hl] at hs
  have hg1:∀ j u,(ruC (ruA r i))[j]?=some u→(r.flatMap ruC)[i * 2+j]?=some u:=fun j u hu=>flat_get ruC 2 (fun _=>rfl) (ruA_get (l:=r) (i:=i) (by omega)) j u hu
  have hg2:∀ j u,(ruC (ruA r (n - 1 - i)))[j]?=some u→(r.flatMap ruC)[(n - 1 - i) * 2+j]?=some u:=fun j u hu=>flat_get ruC 2 (fun _=>rfl) (ruA_get (l:=r) (i:=n - 1 - i) (by omega)) j u hu
  refine T_cutX 1 [] (fun _:Unit=>[]) (fun _=>row 28 2 (some ⟨g,0,none⟩) cap n (((r.set i (ruA r (n - 1 - i))).set (n - 1 - i) (ruA r i)).flatMap ruC)::K) (fun _=>True) ?_ ?_
  ·have hfin:row 28 2 (some ⟨g,0,none⟩) cap n (setL (setL (r.flatMap ruC) (0+(i:Int).toNat * 2) (ruC (ruA r (n - 1 - i)))) (0+((n:Int) - 1 - i).toNat * 2) (ruC (ruA r i)))=row 28 2 (some ⟨g,0,none⟩) cap n (((r.set i (ruA r (n - 1 - i))).set (n - 1 - i) (ruA r i)).flatMap ruC):=by
    rw [show 0+(i:Int).toNat * 2=i * 2 by omega,show 0+((n:Int) - 1 - i).toNat * 2=(n - 1 - i) * 2 by omega,flatRu_set r i _ (by omega),flatRu_set _ (n - 1 - i) _ (by rw [List.length_set];omega)]
   refine dw0 1000 [] ?_
   repeat' (first|(show T _ (.draw _ _ _ _ _::_) _ _ _;first|refine dw1 ?_|refine dwv rfl (by decide +kernel) rfl rfl (Val.loadA (vs:=(ruC (ruA r (n - 1 - i)))) rfl (fun _=>rdRow (A:=some ⟨g,0,none⟩) (by omega) (fun j u hu=>by rw [show 0+((n:Int) - 1 - i).toNat * 2=(n - 1 - i) * 2 by omega];exact hg2 j u hu)) rfl) rfl rfl rfl ?_|refine dwg rfl (by decide +kernel) rfl rfl (Val.loadA (vs:=(ruC (ruA r (n - 1 - i)))) rfl (fun _=>rdRow (A:=some ⟨g,0,none⟩) (by omega) (fun j u hu=>by rw [show 0+((n:Int) - 1 - i).toNat * 2=(n - 1 - i) * 2 by omega];exact hg2 j u hu)) rfl) rfl rfl rfl rfl rfl ?_|refine dwv rfl (by decide +kernel) rfl rfl (Val.loadA (vs:=(ruC (ruA r i))) rfl (fun _=>rdRow (A:=some ⟨g,0,none⟩) (by omega) (fun j u hu=>by rw [show 0+(i:Int).toNat * 2=i * 2 by omega];exact hg1 j u hu)) rfl) rfl rfl rfl ?_|refine dwg rfl (by decide +kernel) rfl rfl (Val.loadA (vs:=(ruC (ruA r i))) rfl (fun _=>rdRow (A:=some ⟨g,0,none⟩) (by omega) (fun j u hu=>by rw [show 0+(i:Int).toNat * 2=i * 2 by omega];exact hg1 j u hu)) rfl) rfl rfl rfl rfl rfl ?_|refine dwb rfl (by decide +kernel) ?_)|(show AllL _ [];exact True.intro)|(show AllL _ (_::_);refine ⟨?_,?_⟩)|(show OpT _ _ _ _ _ _ _;first|refine dwx ?_|refine OpT.ofVal rfl (Val.loadA (vs:=(ruC (ruA r (n - 1 - i)))) rfl (fun _=>rdRow (A:=some ⟨g,0,none⟩) (by omega) (fun j u hu=>by rw [show 0+((n:Int) - 1 - i).toNat * 2=(n - 1 - i) * 2 by omega];exact hg2 j u hu)) rfl) rfl rfl rfl ⟨fun _=>(by first|exact Hle.none _|exact Hle.sub|exact absurd ‹_› (by decide +kernel)),?_⟩|refine OpT.ofVal rfl (Val.loadA (vs:=(ruC (ruA r i))) rfl (fun _=>rdRow (A:=some ⟨g,0,none⟩) (by omega) (fun j u hu=>by rw [show 0+(i:Int).toNat * 2=i * 2 by omega];exact hg1 j u hu)) rfl) rfl rfl rfl ⟨fun _=>(by first|exact Hle.none _|exact Hle.sub|exact absurd ‹_› (by decide +kernel)),?_⟩|refine OpT.storeR (us:=(ruC (ruA r (n - 1 - i)))) rfl rfl rfl rfl rfl rfl (by show 0+(i:Int).toNat * 2+2≤n * 2;omega) ⟨fun _=>Hle.none _,?_⟩|refine OpT.storeR (us:=(ruC (ruA r i))) rfl rfl rfl rfl rfl rfl (by show 0+((n:Int) - 1 - i).toNat * 2+2≤n * 2;omega) ⟨fun _=>Hle.none _,?_⟩)|(show ∀ _:Nat,T _ _ _ _ _;intro _)|(show T _ (.mark _::_) _ _ _;exact T_meetX () trivial (hG:=by rw [← hfin];exact Hle.refl _)))
  rintro - -
  repeat' (first|refine d1 ?_|refine dd ?_|(show ∀ _:Nat,T _ _ _ _ _;intro _))
  refine T_backX (i+1,(r.set i (ruA r (n - 1 - i))).set (n - 1 - i) (ruA r i)) ⟨by dsimp only;omega,hs⟩ (by dsimp only;omega) (hE:=⟨rfl,by dsimp only;rw [show (n:Int) - 1 - ((i+1:Nat):Int)=(n:Int) - 1 - i - 1 by omega];rfl,trivial⟩)
 ·simp only [decide_eq_false_iff_not] at h
  rw [hr.all (by omega)]
  repeat' (first|refine d1 ?_|refine dd ?_|(show ∀ _:Nat,T _ _ _ _ _;intro _))
  exact T_fallV _ rfl (Hle.refl _) ⟨rfl,rfl⟩
end Go.Proofs.YtbfcfpmholkmeaaGreatDoor
namespace Go.Proofs.YtbfcfpmholkmeaaGreatDoor
open Go.RowKit Go.Shelf Go.Proofs
set_option maxRecDepth 100000
set_option maxHeartbeats 4000000

theorem rusL_same {rs ro:List RuB} (h:∀ r,r∈rs↔r∈ro):∀ x,x∈rusL rs↔x∈rusL ro:=fun x=>by
 unfold rusL
 rw [List.mem_map,List.mem_map]
 exact⟨fun⟨r,h1,h2⟩=>⟨r,(h r).1 h1,h2⟩,fun⟨r,h1,h2⟩=>⟨r,(h r).2 h1,h2⟩⟩
theorem nrm_rch {rs:RulW} {u v:List UInt8} (hn:nrmW rs u) (h:rchW rs u v):u=v:=by
 cases h with
 | refl=>rfl
 | head h _=>exact absurd h (hn _)
theorem nmList_same {rs ro:List RuB} (hs:∀ r,r∈rs↔r∈ro) (hok:rusOk rs) (cr:critI (rusL rs)) {ts us vs:List Tok} (h1:nmList rs ts us) (h2:nmList ro ts vs):us=vs:=by
 apply List.ext_getElem?
 intro i
 by_cases hi:i<ts.length
 ·obtain⟨t,ht⟩:∃ t,ts[i]?=some t:=⟨_,List.getElem?_eq_getElem hi⟩
  obtain⟨u,hu,e1⟩:=h1.at_ i t ht
  obtain⟨v,hv,e2⟩:=h2.at_ i t ht
  rw [hu,hv]
  have hn:u.norm=v.norm:=by
   by_cases hw:wordT t=true
   ·obtain⟨a1,a2⟩:=e1.w hw
    obtain⟨b1,b2⟩:=e2.w hw
    exact ba_ext.2 ((cr.uni hok.dwn _).order (rusL_same hs) a1 a2 b1 b2)
   ·rw [e1.n (by simpa using hw),e2.n (by simpa using hw)]
  rw [e1.e,e2.e,hn]
 ·rw [List.getElem?_eq_none (by rw [h1.len];omega),List.getElem?_eq_none (by rw [h2.len];omega)]
theorem norm_again {rs:List RuB} (hok:rusOk rs) {t u:ByteArray} (h1:rchW (rusL rs) t.data.toList u.data.toList) (h2:nrmW (rusL rs) u.data.toList) (hs:t.size≤64) (hn:normB t=true):u.size≤64∧normB u=true∧∀ z:ByteArray,rchW (rusL rs) u.data.toList z.data.toList→z=u :=
 ⟨by have:=rch_size hok h1;omega,normB_wly.2 (h1.all hok.wly (normB_wly.1 hn)),fun z h=>(ba_ext.2 (nrm_rch h2 h)).symm⟩
theorem step_same {rs ro:List RuB} (hs:∀ r,r∈rs↔r∈ro) (hok:rusOk rs) (hoo:rusOk ro) (cr:critI (rusL rs)) {t u:ByteArray} (h1:rchW (rusL rs) t.data.toList u.data.toList) (h2:nrmW (rusL rs) u.data.toList) (hs4:t.size≤64) (hn:normB t=true) :
  ∀ x,x=(resB ro t).head?.getD t→x.size≤64∧normB x=true∧∀ z:ByteArray,rchW (rusL rs) x.data.toList z.data.toList→nrmW (rusL rs) z.data.toList→z=u:=fun x hx=>by
 have hr:rchW (rusL rs) t.data.toList x.data.toList:=by
  cases hh:(resB ro t).head? with
  | none=>rw [hh] at hx;subst hx;exact .refl _
  | some y =>
   rw [hh] at hx
   obtain rfl:x=y:=hx
   have hm:x∈resB ro t:=List.mem_of_mem_head? hh
   exact .head (((resB_iff hoo).1 hm).sub fun r h=>(rusL_same hs r).2 h) (.refl _)
 exact⟨by have:=rch_size hok hr;omega,normB_wly.2 (hr.all hok.wly (normB_wly.1 hn)),fun z g1 g2=>ba_ext.2 (cr.uni hok.dwn _ _ _ (hr.trans g1) h1 g2 h2)⟩
theorem other_spec (A:Option Addr) (n c k b:Nat) (rs:List RuB) (w:World) (hs:RsR w A n rs) (hk:k≤n) (hc:n≤c) (hb:Src w 1 (some ⟨b,0,none⟩) 2 [.slice (cutA A c k 2) (n - k) (c - k), .slice A k c]) :
  Spec Tryz.prog 6 [.slice (some ⟨b,0,none⟩) 2 2] w (fun v R=>∃ x:Option Addr × Nat,True∧v = .slice x.1 n x.2∧R=[row 28 2 x.1 x.2 n ((rs.drop k++rs.take k).flatMap ruC)]):=by
 have hl:=hs.len
 have h68:=hs.n68
 have e1:sumP [⟨cutA A c k 2,n - k,c - k,(rs.drop k).flatMap ruC⟩,⟨A,k,c,(rs.take k).flatMap ruC⟩]=n:=by
  show n - k+(k+0)=n
  omega
 have e2:catP [⟨cutA A c k 2,n - k,c - k,(rs.drop k).flatMap ruC⟩,⟨A,k,c,(rs.take k).flatMap ruC⟩]=(rs.drop k++rs.take k).flatMap ruC:=by
  unfold catP
  rw [List.flatMap_append,List.flatMap_cons,List.flatMap_cons,List.flatMap_nil,List.append_nil]
 have hone:∀ q:List RuB,oneCells (q.flatMap ruC)=true:=fun q=>by
  induction q with
  | nil=>rfl
  | cons r q ih=>exact ih
 have h9:=concatW_spec (some ⟨b,0,none⟩) 2 2 [⟨cutA A c k 2,n - k,c - k,(rs.drop k).flatMap ruC⟩,⟨A,k,c,(rs.take k).flatMap ruC⟩] w hb rfl (by omega) (List.forall_mem_cons.2 ⟨⟨by
  have h8:=src_sub ruC 2 ruC_len hs.s hl k n hk (Nat.le_refl _) hc
  rw [List.take_of_length_le (by omega)] at h8
  exact h8,hone _⟩,List.forall_mem_cons.2 ⟨⟨src_take ruC 2 ruC_len hs.s hl k hk,hone _⟩,fun p h=>by cases h⟩⟩) (by rw [e1];omega)
 rw [e1,e2] at h9
 exact h9
theorem topNormal_walk (A A2:Option Addr) (n c c2:Nat) (rs:List RuB) (l:List TS) (tn:Nat) (w:World) (hst:Std w) (hfs:FormS w) (hs:Src w 2 A n (rs.flatMap ruC)) (hl:rs.length=n) (hc:n≤c) (hn:n≤9223372036854775807) (hs2:Src w 1 A2 l.length (l.map TS.val)) (hts:TsOk w l) (hb2:l.length≤9223372036854775807) (htn:tn<256)
  (haw:∀ w':World,Std w'→FormS w'→Spec Tryz.prog 5 [] w' (fun v R=>v = .bool true∧R=[])) :
  Spec Tryz.prog 3 [.slice A n c, .slice A2 l.length c2, .int .u8 (tn:Nat)] w (fun v R=>v = .bool true∧R=[]):=by
 refine spec_of sg Tryz.func3 rfl rfl rfl ?_
 repeat' (first|refine d1 ?_|(show ∀ _:Nat,T _ _ _ _ _;intro _))
 refine T_op (OpT.call rfl rfl rfl rfl rfl (fun w hw=>fineN_spec A A2 n c c2 rs l w (hst.cls hw) (src_below hs hw.below) hl hn (src_below hs2 hw.below) ⟨fun t ht=>src_below (hts.src t ht) hw.below,hts.len,hts.bd⟩ hb2) ?_)
 rintro u R ⟨q,hq,rfl,rfl⟩
 rw [List.nil_append]
 repeat' (first|refine d1 ?_|(show ∀ _:Nat,T _ _ _ _ _;intro _))
 refine T_if rfl (fun h=>?_) (fun h=>?_)
 ·repeat' (first|refine d1 ?_|(show T _ (.ops _ (_::_)::_) _ _ _;first|refine T_call rfl rfl rfl rfl rfl (fun w hw=>haw w (hst.cls hw) (hfs.cls hw)) ?_|refine T_callC rfl rfl rfl rfl rfl rfl rfl (fun hg w hw=>haw w (hst.cls hw) (hfs.cls hw)) ?_)|(show T _ (.run _ _ (_::_) _ _::_) _ _ _;first|refine rc rfl rfl rfl rfl rfl rfl rfl (fun w hw=>haw w (hst.cls hw) (hfs.cls hw)) ?_|refine rcG rfl rfl rfl rfl rfl rfl rfl rfl rfl (fun hg w hw=>haw w (hst.cls hw) (hfs.cls hw)) ?_)|(show ∀ _:Nat,T _ _ _ _ _;intro _)|(show T _ (.code .ret::_) _ _ _;refine T_retV [] rfl (Hle.none _) ⟨rfl,rfl⟩))
 have hf:=hq (by simpa using h)
 have hn5:=hf.n5
 have hrs:RsR w A n rs:=⟨hs,hl,by omega,fun r hr=>by have:=hf.sz r hr;omega⟩
 repeat' (first|refine d1 ?_|(show ∀ _:Nat,T _ _ _ _ _;intro _))
 obtain⟨k,hkv,hkl⟩:∃ k:Nat,((tn:Nat):Int) % ((n:Int)+1)=(k:Int)∧k≤n:=by
  exact⟨tn % (n+1),(Int.natCast_emod tn (n+1)).symm,Nat.lt_succ_iff.1 (Nat.mod_lt tn (Nat.succ_pos n))⟩
 rw [hkv]
 refine T_cutX 1 [] (fun x:Option Addr × Nat=>[(8, .slice x.1 n x.2)]) (fun x=>[row 28 2 x.1 x.2 n ((rs.drop k++rs.take k).flatMap ruC)]) (fun _=>True) ?_ ?_
 ·refine rsH [] 1000 [0,1,2,3,4,5,6,7,8] ?_
  repeat' (first|refine d1 ?_|refine dd ?_|(show T _ (.run _ _ (_::_) _ _::_) _ _ _;first|refine ro rfl rfl (OpT.litW rfl rfl rfl rfl rfl rfl rfl rfl rfl rfl rfl (fun b3=>⟨fun _=>Hle.sub,?_⟩))|refine ro rfl rfl (OpT.callE1 rfl rfl rfl rfl rfl (fun w hw=>other_spec A n c k b3 rs w (hrs.cls hw) hkl hc (Src.own hw rfl)) (fun x1 _=>⟨fun _=>Hle.sub,?_⟩)))|(show ∀ _:Nat,T _ _ _ _ _;intro _))
  exact T_meetX x1 trivial (hG:=by exact Hle.srt)
 rintro⟨A8,c8⟩ -
 dsimp only
 have hdl:(rs.drop k++rs.take k).length=n:=by rw [List.length_append,List.length_drop,List.length_take];omega
 repeat' (first|refine d1 ?_|(show ∀ _:Nat,T _ _ _ _ _;intro _))
 refine T_op (OpT.callB rfl rfl rfl rfl rfl (reverseW_spec A8 n c8 c8 (rs.drop k++rs.take k) w [] hdl (by omega)) ?_)
 rintro u R ⟨rfl,rfl⟩
 generalize hro:(rs.drop k++rs.take k).reverse=ro
 have hsame:∀ r,r∈rs↔r∈ro:=fun r=>by
  rw [← hro,List.mem_reverse,List.mem_append]
  constructor
  ·intro h9
   rw [← List.take_append_drop k rs] at h9
   exact (List.mem_append.1 h9).symm
  ·rintro (h9|h9)
   ·exact List.mem_of_mem_drop h9
   ·exact List.mem_of_mem_take h9
 have hrol:ro.length=n:=by rw [← hro,List.length_reverse,hdl]
 have hok:=hf.ok
 have hoo:rusOk ro:=⟨by omega,fun r hr=>hok.2 r ((hsame r).2 hr)⟩
 have hosz:∀ r∈ro,r.1.size≤100∧r.2.size≤100:=fun r hr=>hrs.sz r ((hsame r).2 hr)
 obtain⟨hgr,-⟩:=grT22_no hf.gr
 have hgx:=grT22_txt hf.gr
 repeat' (first|refine d1 ?_|(show ∀ _:Nat,T _ _ _ _ _;intro _))
 refine T_loopX (fun j:Nat=>[(47, .int .i64 (j:Nat))]) (fun _=>[row 28 2 A8 c8 n (ro.flatMap ruC)]) (fun j=>j≤l.length) (fun j=>l.length - j) 0 (Nat.zero_le _) ?_
 intro j hj
 repeat' (first|refine d1 ?_|(show ∀ _:Nat,T _ _ _ _ _;intro _))
 refine T_if rfl (fun h=>?_) (fun h=>?_)
 ·simp only [decide_eq_true_eq] at h
  obtain⟨b,o,rfl⟩:=hs2.base (by omega)
  obtain⟨t,ht⟩:∃ t,l[j]?=some t:=⟨_,List.getElem?_eq_getElem (by omega)⟩
  have htm:=List.mem_of_getElem? ht
  have hr:RdC w b (o+(j:Int).toNat * 1) [.slice t.A t.n t.cap]:=by
   have h9:=(hs2.get1 (i:=j) (by omega) (by rw [List.getElem?_map,ht];rfl)).2
   rw [Nat.mul_one] at h9
   rw [off1]
   exact h9
  have hsr:=hts.src t htm
  have hln:=hts.len t htm
  obtain⟨h6,hsm⟩:=hgr t.l (List.mem_map_of_mem htm)
  have hgt:=hgx t.l (List.mem_map_of_mem htm)
  have htk:=hf.tk t htm
  obtain⟨tA,m,tc,ts⟩:=t
  dsimp only at hr hsr hln h6 hsm hgt htk
  repeat' (first|refine d1 ?_|(show ∀ _:Nat,T _ _ _ _ _;intro _))
  refine T_op (OpT.call rfl rfl rfl rfl rfl (fun w hw=>normTok_spec A tA n c m tc rs ts w (hst.cls hw) (hrs.cls hw) hok (src_below hsr hw.below) hln (by omega) hsm htk) ?_)
  rintro u R (⟨⟨A1,c1⟩,us,hus,rfl,rfl⟩|⟨rfl,rfl⟩)
  all_goals try dsimp only
  ·refine T_le (H':=[row 38 6 A1 c1 m (us.flatMap Tok.cells),row 28 2 A8 c8 n (ro.flatMap ruC)]) (Hle.refl _) ?_
   repeat' (first|refine d1 ?_|(show ∀ _:Nat,T _ _ _ _ _;intro _))
   refine T_op (OpT.call rfl rfl rfl rfl rfl (fun w hw=>normTok_spec A8 tA n c8 m tc ro ts w (hst.cls hw) ⟨srcRw w hw,hrol,by omega,hosz⟩ hoo (src_below hsr hw.below) hln (by omega) hsm htk) ?_)
   rintro u R (⟨⟨A2,c2⟩,vs,hvs,rfl,rfl⟩|⟨rfl,rfl⟩)
   all_goals try dsimp only
   ·obtain rfl:=nmList_same hsame hok hf.cr hus hvs
    have hul:us.length=m:=by rw [hus.len,hln]
    refine T_le (H':=[row 38 6 A2 c2 m (us.flatMap Tok.cells),row 38 6 A1 c1 m (us.flatMap Tok.cells),row 28 2 A8 c8 n (ro.flatMap ruC)]) (Hle.refl _) ?_
    repeat' (first|refine d1 ?_|(show ∀ _:Nat,T _ _ _ _ _;intro _))
    refine T_if rfl (fun h9=>by exfalso;simp at h9) (fun _=>?_)
    repeat' (first|refine d1 ?_|(show T _ (.ops _ (_::_)::_) _ _ _;first|refine T_call rfl rfl rfl rfl rfl (fun w hw=>equalTok_spec A1 A2 m m c1 c2 us us w (srcRw w hw) hul (by omega) (srcRw w hw) hul (by omega)) ?_|refine T_callC rfl rfl rfl rfl rfl rfl rfl (fun hg w hw=>equalTok_spec A1 A2 m m c1 c2 us us w (srcRw w hw) hul (by omega) (srcRw w hw) hul (by omega)) ?_)|(show T _ (.run _ _ (_::_) _ _::_) _ _ _;first|refine rc rfl rfl rfl rfl rfl rfl rfl (fun w hw=>equalTok_spec A1 A2 m m c1 c2 us us w (srcRw w hw) hul (by omega) (srcRw w hw) hul (by omega)) ?_|refine rcG rfl rfl rfl rfl rfl rfl rfl rfl rfl (fun hg w hw=>equalTok_spec A1 A2 m m c1 c2 us us w (srcRw w hw) hul (by omega) (srcRw w hw) hul (by omega)) ?_)|(show ∀ _:Nat,T _ _ _ _ _;intro _))
    refine T_if rfl (fun h9=>by exfalso;simp at h9) (fun _=>?_)
    repeat' (first|refine d1 ?_|(show ∀ _:Nat,T _ _ _ _ _;intro _))
    refine T_loopX (fun i:Nat=>[(99, .int .i64 (i:Nat))]) (fun _=>[row 38 6 A1 c1 m (us.flatMap Tok.cells),row 28 2 A8 c8 n (ro.flatMap ruC)]) (fun i=>i≤m) (fun i=>m - i) 0 (Nat.zero_le _) ?_ (hG:=by exact Hle.srt)
    intro i hi
    repeat' (first|refine d1 ?_|(show ∀ _:Nat,T _ _ _ _ _;intro _))
    refine T_if rfl (fun h2=>?_) (fun h2=>?_)
    ·simp only [decide_eq_true_eq] at h2
     obtain⟨b5,o5,rfl⟩:=hsr.base (by omega)
     refine T_rowpos (A:=A1) (by omega) fun g e=>?_
     subst e
     obtain⟨t,hti⟩:∃ t,ts[i]?=some t:=⟨_,List.getElem?_eq_getElem (by omega)⟩
     obtain⟨x,hxi,hnm⟩:=hus.at_ i t hti
     have htm2:=List.mem_of_getElem? hti
     have hcell:∀ (j:Nat) u,x.cells[j]?=some u→(us.flatMap Tok.cells)[i * 6+j]?=some u:=flat_getW Tok.cells 6 (fun _=>rfl) hxi
     have hrt:RdC w b5 (o5+(i:Int).toNat * 6+0) [.string t.text]:=RdC.one (hsr.getT (k:=i) (by omega) hti 0 _ rfl)
     have hxt:x.text=t.text:=by rw [hnm.e]
     repeat' (first|(show T _ (.ops _ (⟨_, .box _ _,_,_,_,_⟩::_)::_) _ _ _;refine T_op (OpT.box (cs:=x.cells) rfl rfl rfl rfl rfl rfl rfl (fun _=>?_)))|refine d1 ?_|(show T _ (.ops _ (_::_)::_) _ _ _;first|refine T_val rfl (Val.loadA (vs:=x.cells) rfl (fun _=>rdRow (A:=some ⟨g,0,none⟩) (by omega) (fun j u hu=>by rw [show 0+((i:Nat):Int).toNat * 6+j=i * 6+j by omega];exact hcell j u hu)) rfl) rfl rfl rfl ?_|refine T_valC rfl (Val.loadA (vs:=x.cells) rfl (fun _=>rdRow (A:=some ⟨g,0,none⟩) (by omega) (fun j u hu=>by rw [show 0+((i:Nat):Int).toNat * 6+j=i * 6+j by omega];exact hcell j u hu)) rfl) rfl rfl rfl rfl rfl ?_)|(show T _ (.run _ _ (_::_) _ _::_) _ _ _;first|refine rv rfl rfl rfl (Val.loadA (vs:=x.cells) rfl (fun _=>rdRow (A:=some ⟨g,0,none⟩) (by omega) (fun j u hu=>by rw [show 0+((i:Nat):Int).toNat * 6+j=i * 6+j by omega];exact hcell j u hu)) rfl) rfl rfl rfl ?_|refine rg rfl rfl rfl (Val.loadA (vs:=x.cells) rfl (fun _=>rdRow (A:=some ⟨g,0,none⟩) (by omega) (fun j u hu=>by rw [show 0+((i:Nat):Int).toNat * 6+j=i * 6+j by omega];exact hcell j u hu)) rfl) rfl rfl rfl rfl rfl ?_)|(show ∀ _:Nat,T _ _ _ _ _;intro _))
     rename_i b16
     refine T_le (H':=[blk b16 x.cells 38,row 38 6 (some ⟨g,0,none⟩) c1 m (us.flatMap Tok.cells),row 28 2 A8 c8 n (ro.flatMap ruC)]) (Hle.refl _) ?_
     repeat' (first|refine d1 ?_|refine dd ?_|(show T _ (.ops _ (_::_)::_) _ _ _;first|refine T_val rfl (Val.load rfl (fun hg=>rdOld hrt)) rfl rfl rfl ?_|refine T_valC rfl (Val.load rfl (fun hg=>rdOld hrt)) rfl rfl rfl rfl rfl ?_)|(show T _ (.run _ _ (_::_) _ _::_) _ _ _;first|refine rv rfl rfl rfl (Val.load rfl (fun hg=>rdOld hrt)) rfl rfl rfl ?_|refine rg rfl rfl rfl (Val.load rfl (fun hg=>rdOld hrt)) rfl rfl rfl rfl rfl ?_)|(show ∀ _:Nat,T _ _ _ _ _;intro _))
     refine T_if rfl (fun h3=>by exfalso;rw [hxt] at h3;simp at h3) (fun _=>?_)
     obtain⟨hfl,hwd⟩:=tokE_word (htk t htm2)
     have hxf:x.flags=t.flags:=by rw [hnm.e]
     have hw10:(!decide (andI x.flags 10=0)) = !wordT t:=by
      rw [hxf,(flags_law t.flags hfl).2.2];rfl
     repeat' (first|refine d1 ?_|(show ∀ _:Nat,T _ _ _ _ _;intro _))
     rw [hw10]
     refine T_if rfl (fun h4=>?_) (fun h4=>?_)
     ·have hxn:x.norm=x.text:=by rw [hxt];exact hnm.n (by simpa using h4)
      repeat' (first|refine d1 ?_|(show ∀ _:Nat,T _ _ _ _ _;intro _))
      refine T_if rfl (fun h5=>by exfalso;rw [hxn] at h5;simp at h5) (fun _=>?_)
      repeat' (first|refine d1 ?_|(show ∀ _:Nat,T _ _ _ _ _;intro _))
      exact T_backX (i+1) (by omega) (by omega) (hG:=by exact Hle.srt)
     have hwt:wordT t=true:=by simpa using h4
     obtain⟨r1,r2⟩:=hnm.w hwt
     obtain⟨hnb,hsz⟩:=hwd hwt
     obtain⟨a1,a2,a3⟩:=norm_again hok r1 r2 hsz hnb
     repeat' (first|refine d1 ?_|(show ∀ _:Nat,T _ _ _ _ _;intro _))
     refine T_op (OpT.call rfl rfl rfl rfl rfl (fun w hw=>normalizeW_spec A n c rs x.norm w (hrs.cls hw) hok a1 a2) ?_)
     rintro u R ⟨z,e,⟨-,f2,f3⟩,rfl,rfl⟩
     obtain rfl:=f3 fun h=>h.1 r2
     obtain rfl:=a3 z (f2 rfl).1
     rw [List.nil_append]
     repeat' (first|refine d1 ?_|(show ∀ _:Nat,T _ _ _ _ _;intro _))
     refine T_op (OpT.call rfl rfl rfl rfl rfl (fun w hw=>stepE_spec A8 n c8 ro x.text w ⟨srcRw w hw,hrol,by omega,hosz⟩ (by rw [hxt];omega)) ?_)
     rintro u R ⟨⟨z2,b2,e2,rfl,hz2⟩,rfl⟩
     rw [hxt] at hz2
     obtain⟨rfl,hz3⟩:=hz2 ⟨hoo,hsz,hnb⟩
     obtain⟨b1,b3,b4⟩:=step_same hsame hok hoo hf.cr r1 r2 hsz hnb z2 hz3
     rw [List.nil_append]
     repeat' (first|refine d1 ?_|(show ∀ _:Nat,T _ _ _ _ _;intro _))
     refine T_if rfl (fun h5=>by exfalso;simp at h5) (fun _=>?_)
     repeat' (first|refine d1 ?_|(show ∀ _:Nat,T _ _ _ _ _;intro _))
     refine T_op (OpT.call rfl rfl rfl rfl rfl (fun w hw=>normalizeW_spec A n c rs z2 w (hrs.cls hw) hok b1 b3) ?_)
     rintro u R ⟨z3,e3,⟨g1,g2,-⟩,rfl,rfl⟩
     rw [List.nil_append]
     rcases g1 with rfl|rfl
     ·obtain⟨k1,k2⟩:=g2 rfl
      obtain rfl:=b4 z3 k1 k2
      repeat' (first|refine d1 ?_|(show ∀ _:Nat,T _ _ _ _ _;intro _))
      refine T_if rfl (fun h5=>by exfalso;simp at h5) (fun _=>?_)
      repeat' (first|refine d1 ?_|(show ∀ _:Nat,T _ _ _ _ _;intro _))
      exact T_backX (i+1) (by omega) (by omega) (hG:=by exact Hle.srt)
     ·repeat' (first|refine d1 ?_|(show ∀ _:Nat,T _ _ _ _ _;intro _))
      refine T_if rfl (fun h5=>by exfalso;simp at h5) (fun _=>?_)
      repeat' (first|refine d1 ?_|(show ∀ _:Nat,T _ _ _ _ _;intro _))
      exact T_backX (i+1) (by omega) (by omega) (hG:=by exact Hle.srt)
    ·simp only [decide_eq_false_iff_not] at h2
     repeat' (first|refine d1 ?_|(show ∀ _:Nat,T _ _ _ _ _;intro _))
     exact T_backX (j+1) (by omega) (by omega) (hG:=by exact Hle.srt)
   ·refine T_le (H':=[row 38 6 A1 c1 m (us.flatMap Tok.cells),row 28 2 A8 c8 n (ro.flatMap ruC)]) (Hle.refl _) ?_
    repeat' (first|refine d1 ?_|(show ∀ _:Nat,T _ _ _ _ _;intro _))
    refine T_if rfl (fun _=>?_) (fun h9=>by exfalso;simp at h9)
    repeat' (first|refine d1 ?_|(show T _ (.ops _ (_::_)::_) _ _ _;refine T_callC rfl rfl rfl rfl rfl rfl rfl (fun _ w hw=>haw w (hst.cls hw) (hfs.cls hw)) ?_)|(show ∀ _:Nat,T _ _ _ _ _;intro _)|(show T _ (.code .ret::_) _ _ _;refine T_retV [] rfl (Hle.none _) ⟨rfl,rfl⟩))
  ·rw [List.nil_append]
   repeat' (first|refine d1 ?_|(show ∀ _:Nat,T _ _ _ _ _;intro _))
   refine T_op (OpT.call rfl rfl rfl rfl rfl (fun w hw=>normTok_spec A8 tA n c8 m tc ro ts w (hst.cls hw) ⟨srcRw w hw,hrol,by omega,hosz⟩ hoo (src_below hsr hw.below) hln (by omega) hsm htk) ?_)
   rintro u R (⟨⟨A2,c2⟩,vs,hvs,rfl,rfl⟩|⟨rfl,rfl⟩)
   all_goals try dsimp only
   ·repeat' (first|refine d1 ?_|(show ∀ _:Nat,T _ _ _ _ _;intro _))
    refine T_if rfl (fun _=>?_) (fun h9=>by exfalso;simp at h9)
    repeat' (first|refine d1 ?_|(show T _ (.ops _ (_::_)::_) _ _ _;refine T_callC rfl rfl rfl rfl rfl rfl rfl (fun _ w hw=>haw w (hst.cls hw) (hfs.cls hw)) ?_)|(show ∀ _:Nat,T _ _ _ _ _;intro _)|(show T _ (.code .ret::_) _ _ _;refine T_retV [] rfl (Hle.none _) ⟨rfl,rfl⟩))
   ·repeat' (first|refine d1 ?_|(show ∀ _:Nat,T _ _ _ _ _;intro _))
    refine T_if rfl (fun _=>?_) (fun h9=>by exfalso;simp at h9)
    repeat' (first|refine d1 ?_|(show T _ (.ops _ (_::_)::_) _ _ _;refine T_callC rfl rfl rfl rfl rfl rfl rfl (fun _ w hw=>haw w (hst.cls hw) (hfs.cls hw)) ?_)|(show ∀ _:Nat,T _ _ _ _ _;intro _)|(show T _ (.code .ret::_) _ _ _;refine T_retV [] rfl (Hle.none _) ⟨rfl,rfl⟩))
 ·simp only [decide_eq_false_iff_not] at h
  repeat' (first|refine d1 ?_|(show T _ (.ops _ (_::_)::_) _ _ _;first|refine T_call rfl rfl rfl rfl rfl (fun w hw=>haw w (hst.cls hw) (hfs.cls hw)) ?_|refine T_callC rfl rfl rfl rfl rfl rfl rfl (fun hg w hw=>haw w (hst.cls hw) (hfs.cls hw)) ?_)|(show T _ (.run _ _ (_::_) _ _::_) _ _ _;first|refine rc rfl rfl rfl rfl rfl rfl rfl (fun w hw=>haw w (hst.cls hw) (hfs.cls hw)) ?_|refine rcG rfl rfl rfl rfl rfl rfl rfl rfl rfl (fun hg w hw=>haw w (hst.cls hw) (hfs.cls hw)) ?_)|(show ∀ _:Nat,T _ _ _ _ _;intro _)|(show T _ (.code .ret::_) _ _ _;refine T_retV [] rfl (Hle.none _) ⟨rfl,rfl⟩))
end Go.Proofs.YtbfcfpmholkmeaaGreatDoor
namespace Go.Proofs.YtbfcfpmholkmeaaGreatDoor
open Go.RowKit Go.Shelf Go.Proofs
set_option maxRecDepth 100000
set_option maxHeartbeats 1000000

theorem sameCols22_spec (x y:Value) (a b:List (List Int)) (w:World) (hx:Rd (wr w) [x] [rowsD a]) (hy:Rd (wr w) [y] [rowsD b]) :
  Spec Tryz.prog 23 [x,y] w (fun v R=>v = .bool (decide (a=b))∧R=[]):=by
 obtain⟨A,ca,cs,rfl,ha1,ha2,hcs,hA,hrA⟩:=hx.tab
 obtain⟨B,cb,ds,rfl,hb1,hb2,hds,hB,hrB⟩:=hy.tab
 refine spec_of sg Tryz.func23 rfl rfl rfl ?_
 repeat' (first|refine d1 ?_|refine dd ?_|(show ∀ _:Nat,T _ _ _ _ _;intro _))
 refine T_if rfl (fun h=>?_) (fun h=>?_)
 ·simp only [Bool.not_eq_true',decide_eq_false_iff_not] at h
  repeat' (first|refine d1 ?_|refine dd ?_|(show ∀ _:Nat,T _ _ _ _ _;intro _)|(show T _ (.code .ret::_) _ _ _;refine T_retV [] rfl (Hle.none _) ⟨?_,rfl⟩))
  rw [decide_eq_false (fun e=>h (by rw [e]))];rfl
 simp only [Bool.not_eq_false',decide_eq_true_eq] at h
 repeat' (first|refine d1 ?_|refine dd ?_|(show ∀ _:Nat,T _ _ _ _ _;intro _))
 refine T_loopX (fun k:Nat=>[(5, .int .i64 k)]) (fun _=>[]) (fun k=>k≤a.length∧∀ j,j<k→a[j]?=b[j]?) (fun k=>a.length - k) 0 ⟨by omega,fun j h=>by omega⟩ ?_
 rintro k ⟨hk,hok⟩
 repeat' (first|refine d1 ?_|refine dd ?_|(show ∀ _:Nat,T _ _ _ _ _;intro _))
 refine T_if rfl (fun h3=>?_) (fun h3=>?_)
 ·simp only [decide_eq_true_eq] at h3
  obtain⟨b1,o1,rfl,hA2⟩:=hA (by omega)
  obtain⟨b2,o2,rfl,hB2⟩:=hB (by omega)
  obtain⟨p,hp⟩:∃ u,a[k]?=some u:=⟨_,List.getElem?_eq_getElem (by omega)⟩
  obtain⟨q,hq⟩:∃ v,b[k]?=some v:=⟨_,List.getElem?_eq_getElem (by omega)⟩
  obtain⟨A',capA,hcA,hlA,hmA,hA3⟩:=hrA.tabRow hp
  obtain⟨B',capB,hcB,hlB,hmB,hB3⟩:=hrB.tabRow hq
  have hr1:RdC w b1 (o1+(k:Int).toNat * 1) [.slice A' p.length capA]:=RdC.one (by rw [off1];exact hA2 k _ hcA)
  have hr2:RdC w b2 (o2+(k:Int).toNat * 1) [.slice B' q.length capB]:=RdC.one (by rw [off1];exact hB2 k _ hcB)
  repeat' (first|refine d1 ?_|refine dd ?_|(show ∀ _:Nat,T _ _ _ _ _;intro _))
  refine T_if rfl (fun h4=>?_) (fun h4=>?_)
  ·simp only [Bool.not_eq_true',decide_eq_false_iff_not] at h4
   repeat' (first|refine d1 ?_|refine dd ?_|(show ∀ _:Nat,T _ _ _ _ _;intro _)|(show T _ (.code .ret::_) _ _ _;refine T_retV [] rfl (Hle.none _) ⟨?_,rfl⟩))
   rw [decide_eq_false (fun e=>h4 (by rw [e,hq] at hp;rw [Option.some.inj hp]))];rfl
  simp only [Bool.not_eq_false',decide_eq_true_eq] at h4
  repeat' (first|refine d1 ?_|refine dd ?_|(show ∀ _:Nat,T _ _ _ _ _;intro _))
  refine T_loopX (fun i:Nat=>[(6, .int .i64 i)]) (fun _=>[]) (fun i=>i≤p.length∧∀ j,j<i→p[j]?=q[j]?) (fun i=>p.length - i) 0 ⟨by omega,fun j h=>by omega⟩ ?_
  rintro i ⟨hi,hoki⟩
  repeat' (first|refine d1 ?_|refine dd ?_|(show ∀ _:Nat,T _ _ _ _ _;intro _))
  refine T_if rfl (fun h5=>?_) (fun h5=>?_)
  ·simp only [decide_eq_true_eq] at h5
   obtain⟨b3,o3,rfl,hA4⟩:=hA3 (by omega)
   obtain⟨b4,o4,rfl,hB4⟩:=hB3 (by omega)
   obtain⟨u,hu⟩:∃ u,p[i]?=some u:=⟨_,List.getElem?_eq_getElem (by omega)⟩
   obtain⟨v,hv⟩:∃ v,q[i]?=some v:=⟨_,List.getElem?_eq_getElem (by omega)⟩
   have hr3:RdC w b3 (o3+(i:Int).toNat * 1) [.int .i64 u]:=RdC.one (by rw [off1];exact hA4 i _ hu)
   have hr4:RdC w b4 (o4+(i:Int).toNat * 1) [.int .i64 v]:=RdC.one (by rw [off1];exact hB4 i _ hv)
   repeat' (first|refine d1 ?_|refine dd ?_|(show ∀ _:Nat,T _ _ _ _ _;intro _))
   refine T_if rfl (fun h6=>?_) (fun h6=>?_)
   ·simp only [Bool.not_eq_true',decide_eq_false_iff_not] at h6
    repeat' (first|refine d1 ?_|refine dd ?_|(show ∀ _:Nat,T _ _ _ _ _;intro _)|(show T _ (.code .ret::_) _ _ _;refine T_retV [] rfl (Hle.none _) ⟨?_,rfl⟩))
    rw [decide_eq_false (fun e=>h6 (by rw [e,hq] at hp;rw [Option.some.inj hp,hu] at hv;exact Option.some.inj hv))];rfl
   ·simp only [Bool.not_eq_false',decide_eq_true_eq] at h6
    repeat' (first|refine d1 ?_|refine dd ?_|(show ∀ _:Nat,T _ _ _ _ _;intro _))
    refine T_backX (i+1) ⟨by omega,fun j hj=>?_⟩ (by omega)
    rcases Nat.lt_or_ge j i with h7|h7
    ·exact hoki j h7
    ·rw [show j=i by omega,hu,hv,h6]
  ·simp only [decide_eq_false_iff_not] at h5
   repeat' (first|refine d1 ?_|refine dd ?_|(show ∀ _:Nat,T _ _ _ _ _;intro _))
   refine T_backX (k+1) ⟨by omega,fun j hj=>?_⟩ (by omega)
   rcases Nat.lt_or_ge j k with h7|h7
   ·exact hok j h7
   ·rw [show j=k by omega,hp,hq,list_eq_of (by omega) fun j hj=>hoki j (by omega)]
 ·simp only [decide_eq_false_iff_not] at h3
  repeat' (first|refine d1 ?_|refine dd ?_|(show ∀ _:Nat,T _ _ _ _ _;intro _)|(show T _ (.code .ret::_) _ _ _;refine T_retV [] rfl (Hle.none _) ⟨?_,rfl⟩))
  rw [decide_eq_true (list_eq_of (by omega) fun j hj=>hok j (by omega))];rfl
structure CoSm (w:World) (x:Co) (A1:Option Addr) (c1:Nat) (l:List TS) (A2:Option Addr) (c2:Nat) (y3:Value):Prop where
 s1:Rd (wr w) [.slice A1 x.sg.length c1] [strsD x.sg]
 s2:Src w 1 A2 l.length (l.map TS.val)
 b2:l.length≤9223372036854775807
 ok:TsOk w l
 m:l.map TS.l=x.m
 cols:Rd (wr w) [y3] [rowsD x.cols]
theorem CoSm.cls {w0 w:World} {H:List HA} {x:Co} {A1 A2:Option Addr} {c1 c2:Nat} {l:List TS} {y3:Value} (h:CoSm w0 x A1 c1 l A2 c2 y3) (hw:Cls w0 w H):CoSm w x A1 c1 l A2 c2 y3:=⟨h.s1.old hw,h.s2.old hw,h.b2,⟨fun t ht=>src_below (h.ok.src t ht) hw.below,h.ok.len,h.ok.bd⟩,h.m,h.cols.old hw⟩
end Go.Proofs.YtbfcfpmholkmeaaGreatDoor
