/- Joined texts of this claim, part 1. -/
import Derived.Test.YtblnhdnogjijiaaGreatDoorU0
import Derived.Test.YtblnhdnogjijiaaGreatDoorProg
import Derived.Tactics
import Derived.Laws.StructEq
import Derived.Test.YtblnhdnogjijiaaGreatDoorRows
import Derived.Test.YtblnhdnogjijiaaGreatDoorTie
import Derived.Test.YtblnhdnogjijiaaGreatDoorCards
import Derived.JoinedOf
import Derived.Lib.AppendStr
import Derived.Laws.BytesArg
set_option linter.unusedSectionVars false
set_option linter.unusedVariables false
set_option linter.unusedSimpArgs false
namespace Go.Proofs.YtblnhdnogjijiaaGreatDoor
set_option maxRecDepth 100000

def punctL:List UInt8:=[46,44,59,58,33,63,40,41,45]
theorem punct_all:∀ n:Nat,n<256→(decide (0≤Lib.indexByte punctL n.toUInt8)=true↔(n=46∨n=44∨n=59∨n=58∨n=33∨n=63∨n=40∨n=41∨n=45)):=by decide

def stp (s:ByteArray):Nat→Nat × List (Nat × Nat)
 | 0=>(0,[])
 | m+1=>if m+1<s.size∧kAt s (m+1)=2∧kAt s (stp s m).1=1∧(stp s m).1<m+1 then stp s m else (m+1,(stp s m).2++[((stp s m).1,m+1)])
theorem stp_le (s:ByteArray):∀ m,(stp s m).1≤m
 | 0=>Nat.le_refl _
 | m+1=>by
  unfold stp
  split
  ·exact Nat.le_succ_of_le (stp_le s m)
  ·exact Nat.le_refl _
theorem stp_prefix (s:ByteArray) (m:Nat):∀ n,m≤n→(stp s m).2 <+: (stp s n).2:=by
 intro n h
 induction n with
 | zero=>rw [show m=0 by omega];exact List.prefix_refl _
 | succ n ih =>
  rcases Nat.lt_or_ge m (n+1) with h1|h1
  ·refine List.IsPrefix.trans (ih (by omega)) ?_
   conv=>rhs;unfold stp
   split
   ·exact List.prefix_refl _
   ·exact List.prefix_append _ _
  ·rw [show m=n+1 by omega];exact List.prefix_refl _
def clusterV (s:ByteArray) (p:Nat × Nat):List Value:=[.int .i64 (p.1:Nat), .string (s.extract p.1 p.2)]
def clusterVs (s:ByteArray):List (List Value):=(stp s s.size).2.map (clusterV s)
theorem stp_yield (s:ByteArray) (m:Nat) (hm:m+1≤s.size) (h:¬ (m+1<s.size∧kAt s (m+1)=2∧kAt s (stp s m).1=1∧(stp s m).1<m+1)) :
  (clusterVs s)[(stp s m).2.length]?=some (clusterV s ((stp s m).1,m+1))∧stp s (m+1)=(m+1,(stp s m).2++[((stp s m).1,m+1)]):=by
 have e:stp s (m+1)=(m+1,(stp s m).2++[((stp s m).1,m+1)]):=by
  conv=>lhs;unfold stp
  rw [if_neg h]
 refine ⟨?_,e⟩
 have hp:=stp_prefix s (m+1) s.size hm
 rw [e] at hp
 obtain⟨t,ht⟩:=hp
 unfold clusterVs
 rw [← ht]
 simp
theorem stp_same (s:ByteArray) (m:Nat) (h:m+1<s.size∧kAt s (m+1)=2∧kAt s (stp s m).1=1∧(stp s m).1<m+1):stp s (m+1)=stp s m:=by
 conv=>lhs;unfold stp
 rw [if_pos h]
def firstOk (s:ByteArray) (f:Nat):Prop:=kAt s f≠0∧kAt s f≠2
theorem okAt_iff (s:ByteArray) (j:Nat):okAt s j=true↔kAt s j≠0∧(kAt s j=2→canAt s j=true):=by
 unfold okAt
 simp only [Bool.and_eq_true,Bool.or_eq_true,decide_eq_true_eq]
 constructor
 ·rintro⟨h1,h2⟩
  exact⟨h1,fun h=>h2.resolve_left (fun h3=>h3 h)⟩
 ·rintro⟨h1,h2⟩
  refine ⟨h1,?_⟩
  by_cases h:kAt s j=2
  ·exact .inr (h2 h)
  ·exact .inl h
theorem stp_law (s:ByteArray):∀ m,m<s.size →
  (((∀ p∈(stp s m).2,firstOk s p.1)∧firstOk s (stp s m).1)↔∀ j,j≤m→okAt s j=true)∧(firstOk s (stp s m).1→(∀ j,j≤m→okAt s j=true)→(canAt s (m+1)=true↔kAt s (stp s m).1=1)):=by
 intro m
 induction m with
 | zero =>
  intro h
  have hc:canAt s 0=false:=rfl
  constructor
  ·constructor
   ·rintro⟨_,h1⟩ j hj
    have:j=0:=by omega
    subst this
    rw [okAt_iff]
    exact⟨h1.1,fun h2=>absurd h2 h1.2⟩
   ·intro h1
    have h2:=(okAt_iff s 0).1 (h1 0 (Nat.le_refl _))
    refine ⟨fun p hp=>(by cases hp),h2.1,fun h3=>?_⟩
    have:=h2.2 h3
    rw [hc] at this;cases this
  ·intro h1 h2
   rw [canAt_succ]
   unfold rtAt
   rw [hc]
   simp [stp]
 | succ m ih =>
  intro h
  obtain⟨i1,i2⟩:=ih (by omega)
  have hle:=stp_le s m
  by_cases hs:m+1<s.size∧kAt s (m+1)=2∧kAt s (stp s m).1=1∧(stp s m).1<m+1
  ·have e:=stp_same s m hs
   rw [e]
   have key:(∀ j,j≤m→okAt s j=true)→okAt s (m+1)=true∧canAt s (m+1)=true:=by
    intro hall
    have hf:=(i1.2 hall).2
    have hcan:=(i2 hf hall).2 hs.2.2.1
    exact⟨(okAt_iff s (m+1)).2 ⟨by omega,fun _=>hcan⟩,hcan⟩
   constructor
   ·rw [i1]
    constructor
    ·intro hall j hj
     rcases Nat.lt_or_ge j (m+1) with h3|h3
     ·exact hall j (by omega)
     ·rw [show j=m+1 by omega];exact (key hall).1
    ·intro hall j hj
     exact hall j (by omega)
   ·intro hf hall
    have hcan:=(key (fun j hj=>hall j (by omega))).2
    rw [canAt_succ]
    unfold rtAt
    rw [hcan]
    simp [hs.2.1,hs.2.2.1]
  ·have e:=(stp_yield s m (by omega) hs).2
   rw [e]
   have step:(∀ j,j≤m→okAt s j=true)→(firstOk s (m+1)↔okAt s (m+1)=true):=by
    intro hall
    have hf:=(i1.2 hall).2
    have hcan:=i2 hf hall
    rw [okAt_iff]
    constructor
    ·rintro⟨h1,h2⟩;exact⟨h1,fun h3=>absurd h3 h2⟩
    ·rintro⟨h1,h2⟩
     refine ⟨h1,fun h3=>hs ⟨h,h3,hcan.1 (h2 h3),by omega⟩⟩
   constructor
   ·constructor
    ·rintro⟨h1,h2⟩ j hj
     have hall:=i1.1 ⟨fun p hp=>h1 p (by simp [hp]),h1 ((stp s m).1,m+1) (by simp)⟩
     rcases Nat.lt_or_ge j (m+1) with h3|h3
     ·exact hall j (by omega)
     ·rw [show j=m+1 by omega];exact (step hall).1 h2
    ·intro hall
     have hall':∀ j,j≤m→okAt s j=true:=fun j hj=>hall j (by omega)
     obtain⟨h1,h2⟩:=i1.2 hall'
     refine ⟨fun p hp=>?_,(step hall').2 (hall (m+1) (Nat.le_refl _))⟩
     simp only [List.mem_append,List.mem_singleton] at hp
     rcases hp with hp|rfl
     ·exact h1 p hp
     ·exact h2
   ·intro hf _
    rw [canAt_succ]
    unfold rtAt
    have h2:kAt s (m+1)≠2:=hf.2
    simp [h2]
theorem clusters_law (s:ByteArray):(∀ p∈(stp s s.size).2,firstOk s p.1)↔okAll s=true:=by
 unfold okAll
 rw [decide_eq_true_eq]
 cases hz:s.size with
 | zero =>
  simp [stp]
 | succ m =>
  have h:=stp_law s m (by omega)
  have hs:¬ (m+1<s.size∧kAt s (m+1)=2∧kAt s (stp s m).1=1∧(stp s m).1<m+1):=fun hh=>by omega
  rw [(stp_yield s m (by omega) hs).2]
  constructor
  ·intro h1 j hj
   exact h.1.1 ⟨fun p hp=>h1 p (by simp [hp]),h1 ((stp s m).1,m+1) (by simp)⟩ j (by omega)
  ·intro h1 p hp
   obtain⟨g1,g2⟩:=h.1.2 (fun j hj=>h1 j (by omega))
   simp only [List.mem_append,List.mem_singleton] at hp
   rcases hp with hp|rfl
   ·exact g1 p hp
   ·exact g2
theorem stp_bounds (s:ByteArray):∀ m p,p∈(stp s m).2→p.1<p.2∧p.2≤m
 | 0,p,h=>by cases h
 | m+1,p,h=>by
  unfold stp at h
  split at h
  ·have:=stp_bounds s m p h;omega
  ·simp only [List.mem_append,List.mem_singleton] at h
   rcases h with h|rfl
   ·have:=stp_bounds s m p h;omega
   ·have:=stp_le s m;dsimp only;omega
theorem letters_all {s:ByteArray} (h:(lettersN s.data.toList:Int)=s.size):∀ j,j<s.size→kAt s j=1∨kAt s j=3:=by
 intro j hj
 have h1:(s.data.toList.filter alnum).length=s.data.toList.length:=by
  unfold lettersN at h
  simp only [Array.length_toList,ByteArray.size_data]
  omega
 rw [List.length_filter_eq_length_iff] at h1
 have:=h1 _ (List.mem_of_getElem? (byteAt_nat s j hj))
 rw [alnum_at] at this
 simpa using this
theorem word_of_letters {s:ByteArray} (h:(lettersN s.data.toList:Int)=s.size) (h1:1≤s.size) (h2:s.size≤64):isWordB s=true:=by
 have ha:=letters_all h
 have e1:okAll s=true:=okAll_true fun j hj=>by
  rw [okAt_iff]
  have:=ha j hj
  exact⟨by omega,fun h=>by omega⟩
 have e2:∀ j,j<s.size→kAt s j≤4:=fun j hj=>by have:=ha j hj;omega
 have e3:=ha 0 (by omega)
 unfold isWordB
 rw [e1,decide_eq_true e2,decide_eq_true (show 1≤s.size∧s.size≤64 from ⟨h1,h2⟩)]
 simpa using e3
theorem empty_size {s:ByteArray}:s=ByteArray.mk #[]↔s.size=0:=by
 constructor
 ·rintro rfl;rfl
 ·intro h
  have:s.data = #[]:=Array.eq_empty_of_size_eq_zero h
  exact ByteArray.ext this
theorem name_law (s:ByteArray):(!decide (s=ByteArray.mk #[]) && decide ((s.size:Int)≤16) && decide ((lettersN s.data.toList:Int)=s.size))=isNameB s:=by
 rw [Bool.eq_iff_iff]
 unfold isNameB
 simp only [Bool.and_eq_true,Bool.not_eq_true',decide_eq_true_eq,decide_eq_false_iff_not]
 constructor
 ·rintro⟨⟨h1,h2⟩,h3⟩
  rw [empty_size] at h1
  exact⟨by omega,word_of_letters h3 (by omega) (by omega),h3⟩
 ·rintro⟨h1,h2,h3⟩
  have:=isWordB_size h2
  rw [empty_size]
  exact⟨⟨by omega,by omega⟩,h3⟩
def beginsK (k:Int):Bool:=decide (k=1) || decide (k=3)
theorem inner_law (k:Int):(beginsK k || decide (k=2) || decide (k=4))=wordlyK k:=by
 unfold beginsK wordlyK
 by_cases h1:k=1 <;> by_cases h2:k=2 <;> by_cases h3:k=3 <;> by_cases h4:k=4 <;> simp [h1,h2,h3,h4]
theorem isWord_law (s:ByteArray) (h1:1≤s.size∧s.size≤64) (h2:okAll s=true) (h3:(decide (kAt s 0=1) || decide (kAt s 0=3))=true):(!(s.data.toList.any fun c=>decide (kindB c=5) || decide (kindB c=6)))=isWordB s:=by
 unfold isWordB
 rw [decide_eq_true h1,h2,h3,Bool.true_and,Bool.true_and,Bool.true_and]
 rw [Bool.eq_iff_iff,Bool.not_eq_true',List.any_eq_false,decide_eq_true_eq]
 constructor
 ·intro h j hj
  have:=h _ (List.mem_of_getElem? (byteAt_nat s j hj))
  have hb:=kAt_bd s j
  simp only [Bool.or_eq_true,decide_eq_true_eq,not_or] at this
  have e:kindB (byteAt s (j:Int))=kAt s j:=rfl
  rw [e] at this
  omega
 ·intro h c hc
  obtain⟨j,hj,e⟩:=List.getElem_of_mem hc
  have hj':j<s.size:=by simpa using hj
  have h4:=h j hj'
  have h5:byteAt s (j:Int)=c:=by
   have:=byteAt_nat s j hj'
   rw [List.getElem?_eq_getElem hj] at this
   rw [← e];exact (Option.some.inj this).symm
  have e2:kAt s j=kindB c:=by rw [← h5];rfl
  rw [e2] at h4
  simp only [Bool.or_eq_true,decide_eq_true_eq,not_or]
  omega
theorem flags_all:∀ n:Nat,n<32→decide (andI (n:Int) 2≠0)=hasN (n:Int) 2∧decide (andI (n:Int) 8≠0)=hasN (n:Int) 8∧decide (andI (n:Int) 10=0)=(!hasN (n:Int) 2 && !hasN (n:Int) 8):=by decide
theorem flags_law (f:Int) (h:0≤f∧f≤31):decide (andI f 2≠0)=hasN f 2∧decide (andI f 8≠0)=hasN f 8∧decide (andI f 10=0)=(!hasN f 2 && !hasN f 8):=by
 obtain⟨n,rfl⟩:=Int.eq_ofNat_of_zero_le h.1
 exact flags_all n (by omega)
theorem atoi_one:∀ n:Nat,n<10→1≤n→Lib.atoiAll [UInt8.ofNat (48+n)] = .ok n:=by decide
theorem atoi_two:∀ n:Nat,n<65→¬ n<10→Lib.atoiAll [UInt8.ofNat (48+n / 10),UInt8.ofNat (48+n % 10)] = .ok n:=by decide
theorem atoi_small (n:Nat) (h:n<65) (h1:1≤n):Lib.atoiAll (Lib.decDigits n) = .ok n:=by
 by_cases h2:n<10
 ·rw [Lib.decDigits_one h2];exact atoi_one n h2 h1
 ·rw [Lib.decDigits_two h2 (by omega)];exact atoi_two n h h2
theorem decDigits_pos (n:Nat) (h:n<100):1≤(Lib.decDigits n).length:=by
 by_cases h1:n<10
 ·rw [Lib.decDigits_one h1];simp
 ·rw [Lib.decDigits_two h1 h];simp
theorem gapStr_list (n:Nat):(gapStr n).data.toList=91::(Lib.decDigits n++[93]):=by
 unfold gapStr
 simp
theorem gapStr_size (n:Nat):(gapStr n).size=(Lib.decDigits n).length+2:=by
 have:=congrArg List.length (gapStr_list n)
 simpa using this
def gapInner (s:ByteArray):ByteArray:=s.extract 1 (s.size - 1)
theorem gapInner_gap (n:Nat):(gapInner (gapStr n)).data.toList=Lib.decDigits n:=by
 unfold gapInner
 rw [ByteArray.data_extract,Array.toList_extract,gapStr_list,gapStr_size]
 simp
theorem gap_frame {s:ByteArray} (h:gappedB s=true):(3:Int)≤s.size∧((byteAt s 0).toNat:Int)=91∧((byteAt s ((s.size:Int) - 1)).toNat:Int)=93:=by
 unfold gappedB at h
 rw [List.any_eq_true] at h
 obtain⟨n,hn,hh⟩:=h
 simp only [Bool.and_eq_true,decide_eq_true_eq,List.mem_range] at hn hh
 obtain⟨h1,rfl⟩:=hh
 have hp:=decDigits_pos n (by omega)
 have hsz:=gapStr_size n
 refine ⟨by omega,?_,?_⟩
 ·unfold byteAt
  rw [gapStr_list];rfl
 ·unfold byteAt
  rw [gapStr_list,hsz]
  have:((((Lib.decDigits n).length+2:Nat):Int) - 1).toNat=(Lib.decDigits n).length+1:=by omega
  rw [this]
  simp
theorem gap_ok {s:ByteArray} {n:Int} (h:Lib.atoiAll (gapInner s).data.toList = .ok n):(decide (1≤n) && decide (n≤64) && decide (s=gapStr n.toNat))=gappedB s:=by
 cases hg:gappedB s with
 | true =>
  unfold gappedB at hg
  rw [List.any_eq_true] at hg
  obtain⟨m,hm,hh⟩:=hg
  simp only [Bool.and_eq_true,decide_eq_true_eq,List.mem_range] at hm hh
  obtain⟨h1,rfl⟩:=hh
  rw [gapInner_gap,atoi_small m hm h1] at h
  injection h with h
  subst h
  simp
  omega
 | false =>
  rw [Bool.and_eq_false_iff]
  by_cases h1:1≤n∧n≤64
  ·right
   rw [decide_eq_false_iff_not]
   intro h2
   rw [gappedB_true (n:=n.toNat) (by omega) (by omega) h2] at hg
   cases hg
  ·left
   simp only [Bool.and_eq_false_iff,decide_eq_false_iff_not]
   omega
theorem gap_no {s:ByteArray} (h:∀ n,Lib.atoiAll (gapInner s).data.toList ≠ .ok n):gappedB s=false:=by
 cases hg:gappedB s with
 | false=>rfl
 | true =>
  unfold gappedB at hg
  rw [List.any_eq_true] at hg
  obtain⟨m,hm,hh⟩:=hg
  simp only [Bool.and_eq_true,decide_eq_true_eq,List.mem_range] at hm hh
  obtain⟨h1,rfl⟩:=hh
  rw [gapInner_gap,atoi_small m hm h1] at h
  exact absurd rfl (h _)
theorem byteAt_extract (s:ByteArray) (f t:Nat) (h:f<t) (h2:t≤s.size):byteAt (s.extract f t) 0=byteAt s (f:Int):=by
 unfold byteAt
 rw [ByteArray.data_extract,Array.toList_extract]
 simp only [Int.toNat_zero,Int.toNat_natCast,List.getD_eq_getElem?_getD]
 congr 1
 rw [List.extract_eq_take_drop,List.getElem?_take_of_lt (by omega),List.getElem?_drop,Nat.add_zero]
end Go.Proofs.YtblnhdnogjijiaaGreatDoor
namespace Go.Proofs.YtblnhdnogjijiaaGreatDoor
def findI {α:Type} (p:α→Bool):List α→Int
 | [] => -1
 | x::l=>if p x then 0 else if findI p l = -1 then -1 else findI p l+1
theorem findI_ge {α:Type} (p:α→Bool):∀ l:List α,-1≤findI p l
 | []=>by simp [findI]
 | x::l=>by have:=findI_ge p l;unfold findI;(repeat' split) <;> omega
theorem findI_none {α:Type} {p:α→Bool}:∀ {l:List α},(∀ (i:Nat) x,l[i]?=some x→p x=false)→findI p l = -1
 | [],_=>rfl
 | x::l,h=>by
  unfold findI
  rw [h 0 x rfl,findI_none (l:=l) (fun i y hy=>h (i+1) y (by simpa using hy))]
  simp
theorem findI_some {α:Type} {p:α→Bool}:∀ {l:List α} {k:Nat} {x:α},l[k]?=some x→p x=true→(∀ (i:Nat) y,i<k→l[i]?=some y→p y=false)→findI p l=k
 | y::l,0,x,hx,hp,_=>by
  simp at hx;subst hx
  unfold findI;rw [if_pos hp];rfl
 | y::l,k+1,x,hx,hp,h=>by
  unfold findI
  have h0:=h 0 y (by omega) rfl
  have ih:=findI_some (l:=l) (k:=k) (by simpa using hx) hp (fun i z hi hz=>h (i+1) z (by omega) (by simpa using hz))
  rw [h0,ih]
  simp only [Bool.false_eq_true,if_false]
  split <;> omega
theorem findI_any {α:Type} (p:α→Bool):∀ l:List α,decide ((0:Int)≤findI p l)=l.any p
 | []=>by simp [findI]
 | x::l=>by
  have ih:=findI_any p l
  have:=findI_ge p l
  unfold findI
  rw [List.any_cons]
  cases hp:p x with
  | true=>simp
  | false =>
   rw [Bool.false_or, ← ih]
   simp only [Bool.false_eq_true,if_false,decide_eq_decide]
   split <;> omega
theorem flatT_get:∀ {l:List Tok} {k:Nat} {x:Tok},l[k]?=some x→∀ (j:Nat) u,x.cells[j]?=some u→(l.flatMap Tok.cells)[k * 6+j]?=some u
 | y::l,0,x,hx,j,u,hu=>by
  simp at hx;subst hx
  rw [List.flatMap_cons,Nat.zero_mul,Nat.zero_add,List.getElem?_append_left (List.getElem?_eq_some_iff.1 hu).1]
  exact hu
 | y::l,k+1,x,hx,j,u,hu=>by
  have ih:=flatT_get (l:=l) (k:=k) (by simpa using hx) j u hu
  rw [List.flatMap_cons,List.getElem?_append_right (by simp [Tok.cells];omega)]
  have e:(k+1) * 6+j - y.cells.length=k * 6+j:=by simp only [Tok.cells,List.length_cons,List.length_nil];omega
  rw [e];exact ih
theorem Src.getT {w:World} {A:Option Addr} {n k:Nat} {l:List Tok} {x:Tok} (h:Src w 6 A n (l.flatMap Tok.cells)) (hk:k<n) (hx:l[k]?=some x):RdC w (bk A) (ofs A+k * 6) x.cells:=by
 obtain⟨_,h2⟩:=h.2 (by omega)
 intro j u hu
 have:=h2 _ u (flatT_get hx j u hu)
 rw [Nat.add_assoc];exact this
theorem flatT_length (l:List Tok):(l.flatMap Tok.cells).length=l.length * 6:=by
 induction l with
 | nil=>rfl
 | cons x l ih=>rw [List.flatMap_cons,List.length_append,ih];simp [Tok.cells];omega
end Go.Proofs.YtblnhdnogjijiaaGreatDoor
namespace Go.Proofs.YtblnhdnogjijiaaGreatDoor

def lvRow (e:Nat→Bool) (prev:Nat→Int) (i1:Int):Nat→Int
 | 0=>i1
 | j+1=>min (min (prev (j+1)) (lvRow e prev i1 j)+1) (prev j+if e j then 0 else 1)
def lv (e:Nat→Nat→Bool):Nat→Nat→Int
 | 0=>fun j=>j
 | i+1=>lvRow (e i) (lv e i) (i+1)
theorem lv_zero (e:Nat→Nat→Bool) (j:Nat):lv e 0 j=j:=rfl
theorem lv_left (e:Nat→Nat→Bool) (i:Nat):lv e (i+1) 0=(i:Int)+1:=rfl
theorem lv_step (e:Nat→Nat→Bool) (i j:Nat):lv e (i+1) (j+1)=min (min (lv e i (j+1)) (lv e (i+1) j)+1) (lv e i j+if e i j then 0 else 1):=rfl
theorem lv_bd (e:Nat→Nat→Bool):∀ i j,0≤lv e i j∧lv e i j≤i+j
 | 0,j=>by rw [lv_zero];omega
 | i+1,0=>by rw [lv_left];omega
 | i+1,j+1=>by
  have h1:=lv_bd e i (j+1)
  have h2:=lv_bd e (i+1) j
  have h3:=lv_bd e i j
  rw [lv_step]
  split <;> omega
termination_by i j=>(i,j)
def valV (f:Nat→Int) (tot:Nat):List Value:=(List.range tot).map fun q => .int .i64 (f q)
def mx (f g:Nat→Int) (k q:Nat):Int:=if q<k then f q else g q
theorem valV_length (f:Nat→Int) (tot:Nat):(valV f tot).length=tot:=by simp [valV]
theorem valV_get {f:Nat→Int} {tot k:Nat} (h:k<tot):(valV f tot)[k]?=some (.int .i64 (f k)):=by simp [valV,h]
theorem valV_set {f g:Nat→Int} {tot k:Nat} {x:Int} (hx:x=f k):(valV (mx f g k) tot).set k (.int .i64 x)=valV (mx f g (k+1)) tot:=by
 subst hx
 apply List.ext_getElem?
 intro q
 rw [List.getElem?_set]
 by_cases hq:q<tot
 ·rw [valV_get hq,valV_get hq,valV_length]
  by_cases e:k=q
  ·subst e
   rw [if_pos rfl,if_pos hq]
   unfold mx
   rw [if_pos (by omega)]
  ·rw [if_neg e]
   unfold mx
   by_cases h1:q<k
   ·rw [if_pos h1,if_pos (by omega)]
   ·rw [if_neg h1,if_neg (by omega)]
 ·rw [List.getElem?_eq_none (by rw [valV_length];omega),List.getElem?_eq_none (by rw [valV_length];omega),valV_length]
  split
  ·rw [if_neg (by omega)]
  ·rfl
theorem valV_mx_zero (f g:Nat→Int) (tot:Nat):valV (mx f g 0) tot=valV g tot:=by
 unfold valV mx;simp
theorem valV_mx_full (f g:Nat→Int) (tot k:Nat) (h:tot≤k):valV (mx f g k) tot=valV f tot:=by
 unfold valV mx
 apply List.map_congr_left
 intro q hq
 rw [if_pos (by have:=List.mem_range.1 hq;omega)]
theorem valV_replicate (tot:Nat):List.replicate tot (Value.int .i64 0)=valV (fun _=>0) tot:=by
 unfold valV
 rw [List.map_const']
 simp
theorem mx_lt {f g:Nat→Int} {k q:Nat} (h:q<k):mx f g k q=f q:=if_pos h
theorem vget {f:Nat→Int} {tot off:Nat} (k:Nat) (h:k<tot) (ho:off=k):(valV f tot)[off]?=some (.int .i64 (f k)):=by rw [ho];exact valV_get h
theorem vgetm {f g:Nat→Int} {tot off n:Nat} (k:Nat) (h:k<tot) (hk:k<n) (ho:off=k):(valV (mx f g n) tot)[off]?=some (.int .i64 (f k)):=by rw [ho,valV_get h,mx_lt hk]
def strs (s:ByteArray) (n:Nat):List Value:=(List.range n).map fun j => .string (s.extract j (j+1))
theorem extract_one {s:ByteArray} {j:Nat} (h:j<s.size):(s.extract j (j+1)).data.toList=[byteAt s (j:Int)]:=by
 rw [ByteArray.data_extract,Array.toList_extract,List.extract_eq_take_drop]
 have:=byteAt_get s j h
 rw [List.drop_eq_getElem_cons (by simpa using h)]
 rw [List.getElem?_eq_getElem (by simpa using h)] at this
 rw [Option.some.inj this,show j+1 - j=1 by omega]
 rfl
end Go.Proofs.YtblnhdnogjijiaaGreatDoor
namespace Go.Proofs.YtblnhdnogjijiaaGreatDoor

structure Costs where
 gap:Int
 norm:Int
 letter:Int
 most:Int
@[reducible] def Costs.cells (c:Costs):List Value:=[.int .i64 c.gap, .int .i64 c.norm, .int .i64 c.letter, .int .i64 c.most]
@[reducible] def Costs.val (c:Costs):Value := .agg c.cells.toArray
def Costs.ints (c:Costs):List Int:=[c.gap,c.norm,c.letter,c.most]
def badN (n:Int):Bool:=decide (n<0) || decide (1000<n)
def costE (c:Costs):Int:=if c.ints.any badN then 2 else if c.most<c.norm then 10 else 0
theorem costE_ok {c:Costs} (h:costE c=0):(0≤c.gap∧c.gap≤1000)∧(0≤c.norm∧c.norm≤1000)∧(0≤c.letter∧c.letter≤1000)∧(0≤c.most∧c.most≤1000)∧c.norm≤c.most:=by
 unfold costE at h
 by_cases h1:c.ints.any badN=true
 ·rw [if_pos h1] at h;omega
 ·rw [if_neg h1] at h
  simp only [Costs.ints,List.any_cons,List.any_nil,Bool.or_eq_true,badN,decide_eq_true_eq] at h1
  split at h <;> omega
def gapC (c:Costs) (t:Tok):Int:=if hasN t.flags 8 then (c.gap+1) / 2 else c.gap
def eqS (a b:ByteArray) (i j:Nat):Bool:=decide (((byteAt a (i:Int)).toNat:Int)=((byteAt b (j:Int)).toNat:Int))
def distS (a b:ByteArray):Int:=lv (eqS a b) a.size b.size
def pairC (c:Costs) (a b:Tok):Int :=
 if a.text=b.text then 0
 else if a.norm=b.norm∨hasN a.flags 2=true∨hasN b.flags 2=true then c.norm
 else min c.most (max c.norm (c.letter * distS a.norm b.norm))
end Go.Proofs.YtblnhdnogjijiaaGreatDoor
namespace Go.Proofs.YtblnhdnogjijiaaGreatDoor

theorem toL_iff (a b:ByteArray):a.toList=b.toList↔a=b:=by
 have:=eq_toList a b
 rw [Bool.eq_iff_iff] at this
 simpa using this
theorem Tok.eq_iff (a b:Tok):a=b↔a.text=b.text∧a.norm=b.norm∧a.page=b.page∧a.line=b.line∧a.flags=b.flags∧a.name=b.name:=by
 cases a;cases b;simp
theorem Costs.eq_iff (a b:Costs):a=b↔a.gap=b.gap∧a.norm=b.norm∧a.letter=b.letter∧a.most=b.most:=by
 cases a;cases b;simp
instance:DecidableEq Tok:=fun a b=>decidable_of_iff _ (Tok.eq_iff a b).symm
instance:DecidableEq Costs:=fun a b=>decidable_of_iff _ (Costs.eq_iff a b).symm
theorem or_all:∀ m:Nat,m<32→∀ n:Nat,n<32→(0≤orI (m:Int) (n:Int)∧orI (m:Int) (n:Int)≤31)∧(!decide (andI (orI (m:Int) (n:Int)) 2=0))=(hasN (m:Int) 2 || hasN (n:Int) 2):=by decide
theorem or_law (f g:Int) (h:0≤f∧f≤31) (k:0≤g∧g≤31):(0≤orI f g∧orI f g≤31)∧(!decide (andI (orI f g) 2=0))=(hasN f 2 || hasN g 2):=by
 obtain⟨m,rfl⟩:=Int.eq_ofNat_of_zero_le h.1
 obtain⟨n,rfl⟩:=Int.eq_ofNat_of_zero_le k.1
 exact or_all m (by omega) n (by omega)
theorem tokE_ok {t:Tok} (h:tokE t=0):(0≤t.flags∧t.flags≤31)∧t.norm.size≤64∧t.text.size≤64∧0≤t.line:=by
 unfold tokE at h
 by_cases h1:t.flags<0∨31<t.flags
 ·rw [if_pos h1] at h;omega
 rw [if_neg h1] at h
 by_cases h2:(hasN t.flags 2 && hasN t.flags 8)=true
 ·rw [if_pos h2] at h;omega
 rw [if_neg h2] at h
 by_cases h3:formBad t=true
 ·rw [if_pos h3] at h;omega
 rw [if_neg h3] at h
 by_cases h4:t.line<0
 ·rw [if_pos h4] at h;omega
 have hs:t.norm.size≤64∧t.text.size≤64:=by
  unfold formBad at h3
  by_cases g2:hasN t.flags 2=true
  ·rw [if_pos g2] at h3
   simp only [Bool.or_eq_true,not_or,Bool.not_eq_true',Bool.not_eq_false',Bool.not_eq_false,decide_eq_true_eq] at h3
   have hg:=h3.1
   unfold gappedB at hg
   rw [List.any_eq_true] at hg
   obtain⟨n,hn,hh⟩:=hg
   simp only [Bool.and_eq_true,decide_eq_true_eq] at hh
   have hl:=decDigits_len n (by have:=List.mem_range.1 hn;omega)
   have:t.text.size≤4:=by
    rw [hh.2];unfold gapStr;simp only [ByteArray.size_append];simp only [ByteArray.size,List.size_toArray];simp;omega
   exact⟨by rw [h3.2];omega,by omega⟩
  rw [if_neg g2] at h3
  by_cases g8:hasN t.flags 8=true
  ·rw [if_pos g8] at h3
   simp only [Bool.or_eq_true,not_or,Bool.not_eq_true',Bool.not_eq_false',Bool.not_eq_false,decide_eq_true_eq] at h3
   have h5:=h3.1.1
   have h6:=h3.2
   exact⟨by rw [h6];omega,by omega⟩
  rw [if_neg g8] at h3
  simp only [Bool.or_eq_true,not_or,Bool.not_eq_true',Bool.not_eq_false',Bool.not_eq_false,decide_eq_true_eq] at h3
  have:=isWordB_size h3.1.1.1
  exact⟨by omega,by omega⟩
 exact⟨by omega,hs.1,hs.2,by omega⟩
def pairV (c:Costs) (a b:Tok):Int × Int:=if costE c=0∧tokE a=0∧tokE b=0 then (pairC c a b,0) else (0,1)
def gapV (c:Costs) (t:Tok):Int × Int:=if costE c=0∧tokE t=0 then (gapC c t,0) else (0,1)
def longT (t:Tok):Bool:=decide ((12:Int)<t.text.size) || decide ((12:Int)<t.norm.size) || decide ((20:Int)<t.page.size) || decide ((20:Int)<t.name.size)
def oddAt (l:List Tok) (i:Nat) (t:Tok):Bool:=longT t || (decide ((8:Int)<i) && !decide (some t=l[8]?))
def manyB (n:Int):Bool:=decide (8<n) && decide (n<33) || decide (258<n) || decide (40<n) && decide (n<257)
noncomputable def greatB (l:List Tok):Bool:=open Classical in decide (∃ i,i<l.length∧∃ t,l[i]?=some t∧oddAt l i t=true) || manyB l.length
theorem greatB_false {l:List Tok} (h:greatB l=false):(∀ t,t∈l→longT t=false)∧manyB l.length=false:=by
 unfold greatB at h
 rw [Bool.or_eq_false_iff,decide_eq_false_iff_not] at h
 refine ⟨fun t ht=>?_,h.2⟩
 obtain⟨i,hi,e⟩:=List.getElem_of_mem ht
 cases hl:longT t with
 | false=>rfl
 | true=>exact absurd ⟨i,hi,t,by rw [List.getElem?_eq_getElem hi,e],by unfold oddAt;rw [hl];rfl⟩ h.1
end Go.Proofs.YtblnhdnogjijiaaGreatDoor
namespace Go.Proofs.YtblnhdnogjijiaaGreatDoor
open Go.Proofs
set_option maxRecDepth 100000
theorem tyOk1:TyOk Tryz.prog 1 ⟨.func,1,8, .nilFunc⟩:=⟨⟨_,_,_,Tryz.underlying1⟩,by kernel_rfl⟩
theorem tyOk2:TyOk Tryz.prog 2 ⟨.int .i64,1,8, .int .i64 0⟩:=⟨Tryz.underlying2,by kernel_rfl⟩
theorem tyOk3:TyOk Tryz.prog 3 ⟨.int .i64,1,8, .int .i64 0⟩:=⟨Tryz.underlying3,by kernel_rfl⟩
theorem tyOk4:TyOk Tryz.prog 4 ⟨.bool,1,1, .bool false⟩:=⟨Tryz.underlying4,by kernel_rfl⟩
theorem tyOk5:TyOk Tryz.prog 5 ⟨.int .u8,1,1, .int .u8 0⟩:=⟨Tryz.underlying5,by kernel_rfl⟩
theorem tyOk6:TyOk Tryz.prog 6 ⟨.int .u8,1,1, .int .u8 0⟩:=⟨Tryz.underlying6,by kernel_rfl⟩
theorem tyOk7:TyOk Tryz.prog 7 ⟨.struct [(2,0),(3,1),(4,2),(6,3)],4,24, .agg #[.int .i64 0, .int .i64 0, .bool false, .int .u8 0]⟩:=⟨⟨_,Tryz.underlying7,by kernel_rfl⟩,by kernel_rfl⟩
theorem tyOk8:TyOk Tryz.prog 8 ⟨.struct [(2,0),(3,1),(4,2),(6,3)],4,24, .agg #[.int .i64 0, .int .i64 0, .bool false, .int .u8 0]⟩:=⟨⟨_,Tryz.underlying8,by kernel_rfl⟩,by kernel_rfl⟩
theorem tyOk9:TyOk Tryz.prog 9 ⟨.str,1,16, .string .empty⟩:=⟨Tryz.underlying9,by kernel_rfl⟩
theorem tyOk10:TyOk Tryz.prog 10 ⟨.str,1,16, .string .empty⟩:=⟨Tryz.underlying10,by kernel_rfl⟩
theorem tyOk11:TyOk Tryz.prog 11 ⟨.str,1,16, .string .empty⟩:=⟨Tryz.underlying11,by kernel_rfl⟩
theorem tyOk12:TyOk Tryz.prog 12 ⟨.int .u64,1,8, .int .u64 0⟩:=⟨Tryz.underlying12,by kernel_rfl⟩
theorem tyOk13:TyOk Tryz.prog 13 ⟨.struct [(9,0),(12,1)],2,24, .agg #[.string .empty, .int .u64 0]⟩:=⟨⟨_,Tryz.underlying13,by kernel_rfl⟩,by kernel_rfl⟩
theorem tyOk14:TyOk Tryz.prog 14 ⟨.struct [(9,0),(12,1)],2,24, .agg #[.string .empty, .int .u64 0]⟩:=⟨⟨_,Tryz.underlying14,by kernel_rfl⟩,by kernel_rfl⟩
theorem tyOk15:TyOk Tryz.prog 15 ⟨.ptr 314,1,8, .pointer none⟩:=⟨Tryz.underlying15,by kernel_rfl⟩
theorem tyOk16:TyOk Tryz.prog 16 ⟨.ptr 317,1,8, .pointer none⟩:=⟨Tryz.underlying16,by kernel_rfl⟩
theorem tyOk17:TyOk Tryz.prog 17 ⟨.ptr 324,1,8, .pointer none⟩:=⟨Tryz.underlying17,by kernel_rfl⟩
theorem tyOk18:TyOk Tryz.prog 18 ⟨.struct [(17,0)],1,8, .agg #[.pointer none]⟩:=⟨⟨_,Tryz.underlying18,by kernel_rfl⟩,by kernel_rfl⟩
theorem tyOk19:TyOk Tryz.prog 19 ⟨.struct [(17,0)],1,8, .agg #[.pointer none]⟩:=⟨⟨_,Tryz.underlying19,by kernel_rfl⟩,by kernel_rfl⟩
theorem tyOk20:TyOk Tryz.prog 20 ⟨.iface,1,16, .nilIface⟩:=⟨⟨_,Tryz.underlying20⟩,by kernel_rfl⟩
theorem tyOk21:TyOk Tryz.prog 21 ⟨.int .i32,1,4, .int .i32 0⟩:=⟨Tryz.underlying21,by kernel_rfl⟩
theorem tyOk22:TyOk Tryz.prog 22 ⟨.struct [(3,0),(3,1),(3,2),(3,3)],4,32, .agg #[.int .i64 0, .int .i64 0, .int .i64 0, .int .i64 0]⟩:=⟨⟨_,Tryz.underlying22,by kernel_rfl⟩,by kernel_rfl⟩
theorem tyOk23:TyOk Tryz.prog 23 ⟨.struct [(3,0),(3,1),(3,2),(3,3)],4,32, .agg #[.int .i64 0, .int .i64 0, .int .i64 0, .int .i64 0]⟩:=⟨⟨_,Tryz.underlying23,by kernel_rfl⟩,by kernel_rfl⟩
theorem tyOk24:TyOk Tryz.prog 24 ⟨.slice 9,1,24, .slice none 0 0⟩:=⟨Tryz.underlying24,by kernel_rfl⟩
theorem tyOk25:TyOk Tryz.prog 25 ⟨.slice 38,1,24, .slice none 0 0⟩:=⟨Tryz.underlying25,by kernel_rfl⟩
theorem tyOk26:TyOk Tryz.prog 26 ⟨.struct [(23,0),(9,4),(24,5),(25,6)],7,96, .agg #[.int .i64 0, .int .i64 0, .int .i64 0, .int .i64 0, .string .empty, .slice none 0 0, .slice none 0 0]⟩:=⟨⟨_,Tryz.underlying26,by kernel_rfl⟩,by kernel_rfl⟩
theorem tyOk27:TyOk Tryz.prog 27 ⟨.struct [(23,0),(9,4),(24,5),(25,6)],7,96, .agg #[.int .i64 0, .int .i64 0, .int .i64 0, .int .i64 0, .string .empty, .slice none 0 0, .slice none 0 0]⟩:=⟨⟨_,Tryz.underlying27,by kernel_rfl⟩,by kernel_rfl⟩
theorem tyOk28:TyOk Tryz.prog 28 ⟨.func,1,8, .nilFunc⟩:=⟨⟨_,_,_,Tryz.underlying28⟩,by kernel_rfl⟩
theorem tyOk29:TyOk Tryz.prog 29 ⟨.func,1,8, .nilFunc⟩:=⟨⟨_,_,_,Tryz.underlying29⟩,by kernel_rfl⟩
theorem tyOk30:TyOk Tryz.prog 30 ⟨.slice 47,1,24, .slice none 0 0⟩:=⟨Tryz.underlying30,by kernel_rfl⟩
theorem tyOk31:TyOk Tryz.prog 31 ⟨.struct [(9,0),(24,1),(25,2),(30,3)],4,88, .agg #[.string .empty, .slice none 0 0, .slice none 0 0, .slice none 0 0]⟩:=⟨⟨_,Tryz.underlying31,by kernel_rfl⟩,by kernel_rfl⟩
theorem tyOk32:TyOk Tryz.prog 32 ⟨.struct [(9,0),(24,1),(25,2),(30,3)],4,88, .agg #[.string .empty, .slice none 0 0, .slice none 0 0, .slice none 0 0]⟩:=⟨⟨_,Tryz.underlying32,by kernel_rfl⟩,by kernel_rfl⟩
theorem tyOk33:TyOk Tryz.prog 33 ⟨.int .i64,1,8, .int .i64 0⟩:=⟨Tryz.underlying33,by kernel_rfl⟩
theorem tyOk35:TyOk Tryz.prog 35 ⟨.func,1,8, .nilFunc⟩:=⟨⟨_,_,_,Tryz.underlying35⟩,by kernel_rfl⟩
theorem tyOk36:TyOk Tryz.prog 36 ⟨.func,1,8, .nilFunc⟩:=⟨⟨_,_,_,Tryz.underlying36⟩,by kernel_rfl⟩
theorem tyOk37:TyOk Tryz.prog 37 ⟨.func,1,8, .nilFunc⟩:=⟨⟨_,_,_,Tryz.underlying37⟩,by kernel_rfl⟩
theorem tyOk38:TyOk Tryz.prog 38 ⟨.slice 42,1,24, .slice none 0 0⟩:=⟨Tryz.underlying38,by kernel_rfl⟩
theorem tyOk39:TyOk Tryz.prog 39 ⟨.struct [(9,0),(3,1)],2,24, .agg #[.string .empty, .int .i64 0]⟩:=⟨⟨_,Tryz.underlying39,by kernel_rfl⟩,by kernel_rfl⟩
theorem tyOk40:TyOk Tryz.prog 40 ⟨.struct [(9,0),(3,1)],2,24, .agg #[.string .empty, .int .i64 0]⟩:=⟨⟨_,Tryz.underlying40,by kernel_rfl⟩,by kernel_rfl⟩
theorem tyOk41:TyOk Tryz.prog 41 ⟨.struct [(9,0),(9,1),(40,2),(3,4),(9,5)],6,80, .agg #[.string .empty, .string .empty, .string .empty, .int .i64 0, .int .i64 0, .string .empty]⟩:=⟨⟨_,Tryz.underlying41,by kernel_rfl⟩,by kernel_rfl⟩
theorem tyOk42:TyOk Tryz.prog 42 ⟨.struct [(9,0),(9,1),(40,2),(3,4),(9,5)],6,80, .agg #[.string .empty, .string .empty, .string .empty, .int .i64 0, .int .i64 0, .string .empty]⟩:=⟨⟨_,Tryz.underlying42,by kernel_rfl⟩,by kernel_rfl⟩
theorem tyOk44:TyOk Tryz.prog 44 ⟨.func,1,8, .nilFunc⟩:=⟨⟨_,_,_,Tryz.underlying44⟩,by kernel_rfl⟩
theorem tyOk46:TyOk Tryz.prog 46 ⟨.func,1,8, .nilFunc⟩:=⟨⟨_,_,_,Tryz.underlying46⟩,by kernel_rfl⟩
theorem tyOk47:TyOk Tryz.prog 47 ⟨.slice 3,1,24, .slice none 0 0⟩:=⟨Tryz.underlying47,by kernel_rfl⟩
theorem tyOk49:TyOk Tryz.prog 49 ⟨.func,1,8, .nilFunc⟩:=⟨⟨_,_,_,Tryz.underlying49⟩,by kernel_rfl⟩
theorem tyOk50:TyOk Tryz.prog 50 ⟨.func,1,8, .nilFunc⟩:=⟨⟨_,_,_,Tryz.underlying50⟩,by kernel_rfl⟩
theorem tyOk51:TyOk Tryz.prog 51 ⟨.func,1,8, .nilFunc⟩:=⟨⟨_,_,_,Tryz.underlying51⟩,by kernel_rfl⟩
theorem tyOk52:TyOk Tryz.prog 52 ⟨.func,1,8, .nilFunc⟩:=⟨⟨_,_,_,Tryz.underlying52⟩,by kernel_rfl⟩
theorem tyOk53:TyOk Tryz.prog 53 ⟨.func,1,8, .nilFunc⟩:=⟨⟨_,_,_,Tryz.underlying53⟩,by kernel_rfl⟩
theorem tyOk54:TyOk Tryz.prog 54 ⟨.func,1,8, .nilFunc⟩:=⟨⟨_,_,_,Tryz.underlying54⟩,by kernel_rfl⟩
theorem tyOk55:TyOk Tryz.prog 55 ⟨.func,1,8, .nilFunc⟩:=⟨⟨_,_,_,Tryz.underlying55⟩,by kernel_rfl⟩
theorem tyOk56:TyOk Tryz.prog 56 ⟨.func,1,8, .nilFunc⟩:=⟨⟨_,_,_,Tryz.underlying56⟩,by kernel_rfl⟩
theorem tyOk57:TyOk Tryz.prog 57 ⟨.func,1,8, .nilFunc⟩:=⟨⟨_,_,_,Tryz.underlying57⟩,by kernel_rfl⟩
theorem tyOk58:TyOk Tryz.prog 58 ⟨.func,1,8, .nilFunc⟩:=⟨⟨_,_,_,Tryz.underlying58⟩,by kernel_rfl⟩
theorem tyOk59:TyOk Tryz.prog 59 ⟨.func,1,8, .nilFunc⟩:=⟨⟨_,_,_,Tryz.underlying59⟩,by kernel_rfl⟩
theorem tyOk63:TyOk Tryz.prog 63 ⟨.func,1,8, .nilFunc⟩:=⟨⟨_,_,_,Tryz.underlying63⟩,by kernel_rfl⟩
theorem tyOk81:TyOk Tryz.prog 81 ⟨.func,1,8, .nilFunc⟩:=⟨⟨_,_,_,Tryz.underlying81⟩,by kernel_rfl⟩
theorem tyOk85:TyOk Tryz.prog 85 ⟨.slice 24,1,24, .slice none 0 0⟩:=⟨Tryz.underlying85,by kernel_rfl⟩
theorem tyOk86:TyOk Tryz.prog 86 ⟨.ptr 89,1,8, .pointer none⟩:=⟨Tryz.underlying86,by kernel_rfl⟩
theorem tyOk87:TyOk Tryz.prog 87 ⟨.slice 5,1,24, .slice none 0 0⟩:=⟨Tryz.underlying87,by kernel_rfl⟩
theorem tyOk89:TyOk Tryz.prog 89 ⟨.struct [(86,0),(87,1)],2,32, .agg #[.pointer none, .slice none 0 0]⟩:=⟨⟨_,Tryz.underlying89,by kernel_rfl⟩,by kernel_rfl⟩
theorem tyOk91:TyOk Tryz.prog 91 ⟨.struct [(89,0)],2,32, .agg #[.pointer none, .slice none 0 0]⟩:=⟨⟨_,Tryz.underlying91,by kernel_rfl⟩,by kernel_rfl⟩
theorem tyOk99:TyOk Tryz.prog 99 ⟨.func,1,8, .nilFunc⟩:=⟨⟨_,_,_,Tryz.underlying99⟩,by kernel_rfl⟩
theorem tyOk101:TyOk Tryz.prog 101 ⟨.func,1,8, .nilFunc⟩:=⟨⟨_,_,_,Tryz.underlying101⟩,by kernel_rfl⟩
theorem tyOk108:TyOk Tryz.prog 108 ⟨.func,1,8, .nilFunc⟩:=⟨⟨_,_,_,Tryz.underlying108⟩,by kernel_rfl⟩
theorem tyOk109:TyOk Tryz.prog 109 ⟨.func,1,8, .nilFunc⟩:=⟨⟨_,_,_,Tryz.underlying109⟩,by kernel_rfl⟩
theorem tyOk123:TyOk Tryz.prog 123 ⟨.ptr 129,1,8, .pointer none⟩:=⟨Tryz.underlying123,by kernel_rfl⟩
theorem tyOk127:TyOk Tryz.prog 127 ⟨.arr 4 3,4,32, .agg #[.int .i64 0, .int .i64 0, .int .i64 0, .int .i64 0]⟩:=⟨Tryz.underlying127,by kernel_rfl⟩
theorem tyOk129:TyOk Tryz.prog 129 ⟨.struct [(25,0),(127,1),(3,5)],6,64, .agg #[.slice none 0 0, .int .i64 0, .int .i64 0, .int .i64 0, .int .i64 0, .int .i64 0]⟩:=⟨⟨_,Tryz.underlying129,by kernel_rfl⟩,by kernel_rfl⟩
theorem tyOk136:TyOk Tryz.prog 136 ⟨.func,1,8, .nilFunc⟩:=⟨⟨_,_,_,Tryz.underlying136⟩,by kernel_rfl⟩
theorem tyOk144:TyOk Tryz.prog 144 ⟨.func,1,8, .nilFunc⟩:=⟨⟨_,_,_,Tryz.underlying144⟩,by kernel_rfl⟩
theorem tyOk147:TyOk Tryz.prog 147 ⟨.iface,1,16, .nilIface⟩:=⟨⟨_,Tryz.underlying147⟩,by kernel_rfl⟩
theorem tyOk151:TyOk Tryz.prog 151 ⟨.ptr 5,1,8, .pointer none⟩:=⟨Tryz.underlying151,by kernel_rfl⟩
theorem tyOk157:TyOk Tryz.prog 157 ⟨.func,1,8, .nilFunc⟩:=⟨⟨_,_,_,Tryz.underlying157⟩,by kernel_rfl⟩
theorem tyOk161:TyOk Tryz.prog 161 ⟨.func,1,8, .nilFunc⟩:=⟨⟨_,_,_,Tryz.underlying161⟩,by kernel_rfl⟩
theorem tyOk162:TyOk Tryz.prog 162 ⟨.func,1,8, .nilFunc⟩:=⟨⟨_,_,_,Tryz.underlying162⟩,by kernel_rfl⟩
theorem tyOk163:TyOk Tryz.prog 163 ⟨.arr 2 47,2,48, .agg #[.slice none 0 0, .slice none 0 0]⟩:=⟨Tryz.underlying163,by kernel_rfl⟩
theorem tyOk165:TyOk Tryz.prog 165 ⟨.struct [(23,0),(38,4),(38,5),(163,6)],8,128, .agg #[.int .i64 0, .int .i64 0, .int .i64 0, .int .i64 0, .slice none 0 0, .slice none 0 0, .slice none 0 0, .slice none 0 0]⟩:=⟨⟨_,Tryz.underlying165,by kernel_rfl⟩,by kernel_rfl⟩
theorem tyOk168:TyOk Tryz.prog 168 ⟨.slice 47,1,24, .slice none 0 0⟩:=⟨Tryz.underlying168,by kernel_rfl⟩
theorem tyOk171:TyOk Tryz.prog 171 ⟨.func,1,8, .nilFunc⟩:=⟨⟨_,_,_,Tryz.underlying171⟩,by kernel_rfl⟩
theorem tyOk174:TyOk Tryz.prog 174 ⟨.ptr 176,1,8, .pointer none⟩:=⟨Tryz.underlying174,by kernel_rfl⟩
theorem tyOk176:TyOk Tryz.prog 176 ⟨.struct [(23,0),(25,4),(30,5),(38,6),(30,7)],8,128, .agg #[.int .i64 0, .int .i64 0, .int .i64 0, .int .i64 0, .slice none 0 0, .slice none 0 0, .slice none 0 0, .slice none 0 0]⟩:=⟨⟨_,Tryz.underlying176,by kernel_rfl⟩,by kernel_rfl⟩
theorem tyOk181:TyOk Tryz.prog 181 ⟨.struct [(3,0),(3,1),(3,2)],3,24, .agg #[.int .i64 0, .int .i64 0, .int .i64 0]⟩:=⟨⟨_,Tryz.underlying181,by kernel_rfl⟩,by kernel_rfl⟩
theorem tyOk183:TyOk Tryz.prog 183 ⟨.slice 25,1,24, .slice none 0 0⟩:=⟨Tryz.underlying183,by kernel_rfl⟩
theorem tyOk184:TyOk Tryz.prog 184 ⟨.func,1,8, .nilFunc⟩:=⟨⟨_,_,_,Tryz.underlying184⟩,by kernel_rfl⟩
theorem tyOk186:TyOk Tryz.prog 186 ⟨.slice 4,1,24, .slice none 0 0⟩:=⟨Tryz.underlying186,by kernel_rfl⟩
theorem tyOk189:TyOk Tryz.prog 189 ⟨.func,1,8, .nilFunc⟩:=⟨⟨_,_,_,Tryz.underlying189⟩,by kernel_rfl⟩
theorem tyOk197:TyOk Tryz.prog 197 ⟨.func,1,8, .nilFunc⟩:=⟨⟨_,_,_,Tryz.underlying197⟩,by kernel_rfl⟩
theorem tyOk198:TyOk Tryz.prog 198 ⟨.func,1,8, .nilFunc⟩:=⟨⟨_,_,_,Tryz.underlying198⟩,by kernel_rfl⟩
theorem tyOk206:TyOk Tryz.prog 206 ⟨.arr 2 38,2,48, .agg #[.slice none 0 0, .slice none 0 0]⟩:=⟨Tryz.underlying206,by kernel_rfl⟩
theorem tyOk211:TyOk Tryz.prog 211 ⟨.slice 214,1,24, .slice none 0 0⟩:=⟨Tryz.underlying211,by kernel_rfl⟩
theorem tyOk214:TyOk Tryz.prog 214 ⟨.struct [(3,0),(3,1),(3,2)],3,24, .agg #[.int .i64 0, .int .i64 0, .int .i64 0]⟩:=⟨⟨_,Tryz.underlying214,by kernel_rfl⟩,by kernel_rfl⟩
theorem tyOk217:TyOk Tryz.prog 217 ⟨.int .u64,1,8, .int .u64 0⟩:=⟨Tryz.underlying217,by kernel_rfl⟩
theorem tyOk232:TyOk Tryz.prog 232 ⟨.func,1,8, .nilFunc⟩:=⟨⟨_,_,_,Tryz.underlying232⟩,by kernel_rfl⟩
theorem tyOk234:TyOk Tryz.prog 234 ⟨.func,1,8, .nilFunc⟩:=⟨⟨_,_,_,Tryz.underlying234⟩,by kernel_rfl⟩
theorem tyOk235:TyOk Tryz.prog 235 ⟨.int .u32,1,4, .int .u32 0⟩:=⟨Tryz.underlying235,by kernel_rfl⟩
theorem tyOk238:TyOk Tryz.prog 238 ⟨.int .u64,1,8, .int .u64 0⟩:=⟨Tryz.underlying238,by kernel_rfl⟩
theorem tyOk241:TyOk Tryz.prog 241 ⟨.slice 244,1,24, .slice none 0 0⟩:=⟨Tryz.underlying241,by kernel_rfl⟩
theorem tyOk244:TyOk Tryz.prog 244 ⟨.func,1,8, .nilFunc⟩:=⟨⟨_,_,_,Tryz.underlying244⟩,by kernel_rfl⟩
theorem tyOk247:TyOk Tryz.prog 247 ⟨.int .i64,1,8, .int .i64 0⟩:=⟨Tryz.underlying247,by kernel_rfl⟩
theorem tyOk267:TyOk Tryz.prog 267 ⟨.struct [(5,0),(5,1)],2,2, .agg #[.int .u8 0, .int .u8 0]⟩:=⟨⟨_,Tryz.underlying267,by kernel_rfl⟩,by kernel_rfl⟩
theorem tyOk268:TyOk Tryz.prog 268 ⟨.arr 16 267,32,32, .agg #[.int .u8 0, .int .u8 0, .int .u8 0, .int .u8 0, .int .u8 0, .int .u8 0, .int .u8 0, .int .u8 0, .int .u8 0, .int .u8 0, .int .u8 0, .int .u8 0, .int .u8 0, .int .u8 0, .int .u8 0, .int .u8 0, .int .u8 0, .int .u8 0, .int .u8 0, .int .u8 0, .int .u8 0, .int .u8 0, .int .u8 0, .int .u8 0, .int .u8 0, .int .u8 0, .int .u8 0, .int .u8 0, .int .u8 0, .int .u8 0, .int .u8 0, .int .u8 0]⟩:=⟨Tryz.underlying268,by kernel_rfl⟩
theorem tyOk271:TyOk Tryz.prog 271 ⟨.int .u64,1,8, .int .u64 0⟩:=⟨Tryz.underlying271,by kernel_rfl⟩
theorem tyOk275:TyOk Tryz.prog 275 ⟨.ptr 3,1,8, .pointer none⟩:=⟨Tryz.underlying275,by kernel_rfl⟩
theorem tyOk279:TyOk Tryz.prog 279 ⟨.int .i64,1,8, .int .i64 0⟩:=⟨Tryz.underlying279,by kernel_rfl⟩
theorem tyOk282:TyOk Tryz.prog 282 ⟨.ptr 299,1,8, .pointer none⟩:=⟨Tryz.underlying282,by kernel_rfl⟩
theorem tyOk288:TyOk Tryz.prog 288 ⟨.arr 24 5,24,24, .agg #[.int .u8 0, .int .u8 0, .int .u8 0, .int .u8 0, .int .u8 0, .int .u8 0, .int .u8 0, .int .u8 0, .int .u8 0, .int .u8 0, .int .u8 0, .int .u8 0, .int .u8 0, .int .u8 0, .int .u8 0, .int .u8 0, .int .u8 0, .int .u8 0, .int .u8 0, .int .u8 0, .int .u8 0, .int .u8 0, .int .u8 0, .int .u8 0]⟩:=⟨Tryz.underlying288,by kernel_rfl⟩
theorem tyOk299:TyOk Tryz.prog 299 ⟨.struct [(9,0),(9,1),(147,2)],3,48, .agg #[.string .empty, .string .empty, .nilIface]⟩:=⟨⟨_,Tryz.underlying299,by kernel_rfl⟩,by kernel_rfl⟩
theorem tyOk303:TyOk Tryz.prog 303 ⟨.arr 20 238,20,160, .agg #[.int .u64 0, .int .u64 0, .int .u64 0, .int .u64 0, .int .u64 0, .int .u64 0, .int .u64 0, .int .u64 0, .int .u64 0, .int .u64 0, .int .u64 0, .int .u64 0, .int .u64 0, .int .u64 0, .int .u64 0, .int .u64 0, .int .u64 0, .int .u64 0, .int .u64 0, .int .u64 0]⟩:=⟨Tryz.underlying303,by kernel_rfl⟩
theorem tyOk306:TyOk Tryz.prog 306 ⟨.func,1,8, .nilFunc⟩:=⟨⟨_,_,_,Tryz.underlying306⟩,by kernel_rfl⟩
theorem tyOk308:TyOk Tryz.prog 308 ⟨.ptr 310,1,8, .pointer none⟩:=⟨Tryz.underlying308,by kernel_rfl⟩
theorem tyOk310:TyOk Tryz.prog 310 ⟨.struct [(9,0)],1,16, .agg #[.string .empty]⟩:=⟨⟨_,Tryz.underlying310,by kernel_rfl⟩,by kernel_rfl⟩
theorem tyOk311:TyOk Tryz.prog 311 ⟨.arr 32 5,32,32, .agg #[.int .u8 0, .int .u8 0, .int .u8 0, .int .u8 0, .int .u8 0, .int .u8 0, .int .u8 0, .int .u8 0, .int .u8 0, .int .u8 0, .int .u8 0, .int .u8 0, .int .u8 0, .int .u8 0, .int .u8 0, .int .u8 0, .int .u8 0, .int .u8 0, .int .u8 0, .int .u8 0, .int .u8 0, .int .u8 0, .int .u8 0, .int .u8 0, .int .u8 0, .int .u8 0, .int .u8 0, .int .u8 0, .int .u8 0, .int .u8 0, .int .u8 0, .int .u8 0]⟩:=⟨Tryz.underlying311,by kernel_rfl⟩
def tyTab:List (Nat × TyI):=[
 (3,⟨.int .i64,1,8, .int .i64 0⟩),
 (47,⟨.slice 3,1,24, .slice none 0 0⟩),
 (9,⟨.str,1,16, .string .empty⟩),
 (32,⟨.struct [(9,0),(24,1),(25,2),(30,3)],4,88, .agg #[.string .empty, .slice none 0 0, .slice none 0 0, .slice none 0 0]⟩),
 (30,⟨.slice 47,1,24, .slice none 0 0⟩),
 (5,⟨.int .u8,1,1, .int .u8 0⟩),
 (2,⟨.int .i64,1,8, .int .i64 0⟩),
 (25,⟨.slice 38,1,24, .slice none 0 0⟩),
 (38,⟨.slice 42,1,24, .slice none 0 0⟩),
 (1,⟨.func,1,8, .nilFunc⟩),
 (23,⟨.struct [(3,0),(3,1),(3,2),(3,3)],4,32, .agg #[.int .i64 0, .int .i64 0, .int .i64 0, .int .i64 0]⟩),
 (24,⟨.slice 9,1,24, .slice none 0 0⟩),
 (33,⟨.int .i64,1,8, .int .i64 0⟩),
 (42,⟨.struct [(9,0),(9,1),(40,2),(3,4),(9,5)],6,80, .agg #[.string .empty, .string .empty, .string .empty, .int .i64 0, .int .i64 0, .string .empty]⟩),
 (4,⟨.bool,1,1, .bool false⟩),
 (238,⟨.int .u64,1,8, .int .u64 0⟩),
 (235,⟨.int .u32,1,4, .int .u32 0⟩),
 (6,⟨.int .u8,1,1, .int .u8 0⟩),
 (8,⟨.struct [(2,0),(3,1),(4,2),(6,3)],4,24, .agg #[.int .i64 0, .int .i64 0, .bool false, .int .u8 0]⟩),
 (87,⟨.slice 5,1,24, .slice none 0 0⟩),
 (217,⟨.int .u64,1,8, .int .u64 0⟩),
 (12,⟨.int .u64,1,8, .int .u64 0⟩),
 (10,⟨.str,1,16, .string .empty⟩),
 (21,⟨.int .i32,1,4, .int .i32 0⟩),
 (186,⟨.slice 4,1,24, .slice none 0 0⟩),
 (18,⟨.struct [(17,0)],1,8, .agg #[.pointer none]⟩),
 (165,⟨.struct [(23,0),(38,4),(38,5),(163,6)],8,128, .agg #[.int .i64 0, .int .i64 0, .int .i64 0, .int .i64 0, .slice none 0 0, .slice none 0 0, .slice none 0 0, .slice none 0 0]⟩),
 (7,⟨.struct [(2,0),(3,1),(4,2),(6,3)],4,24, .agg #[.int .i64 0, .int .i64 0, .bool false, .int .u8 0]⟩),
 (176,⟨.struct [(23,0),(25,4),(30,5),(38,6),(30,7)],8,128, .agg #[.int .i64 0, .int .i64 0, .int .i64 0, .int .i64 0, .slice none 0 0, .slice none 0 0, .slice none 0 0, .slice none 0 0]⟩),
 (27,⟨.struct [(23,0),(9,4),(24,5),(25,6)],7,96, .agg #[.int .i64 0, .int .i64 0, .int .i64 0, .int .i64 0, .string .empty, .slice none 0 0, .slice none 0 0]⟩),
 (13,⟨.struct [(9,0),(12,1)],2,24, .agg #[.string .empty, .int .u64 0]⟩),
 (168,⟨.slice 47,1,24, .slice none 0 0⟩),
 (271,⟨.int .u64,1,8, .int .u64 0⟩),
 (189,⟨.func,1,8, .nilFunc⟩),
 (19,⟨.struct [(17,0)],1,8, .agg #[.pointer none]⟩),
 (147,⟨.iface,1,16, .nilIface⟩),
 (174,⟨.ptr 176,1,8, .pointer none⟩),
 (181,⟨.struct [(3,0),(3,1),(3,2)],3,24, .agg #[.int .i64 0, .int .i64 0, .int .i64 0]⟩),
 (11,⟨.str,1,16, .string .empty⟩),
 (17,⟨.ptr 324,1,8, .pointer none⟩),
 (26,⟨.struct [(23,0),(9,4),(24,5),(25,6)],7,96, .agg #[.int .i64 0, .int .i64 0, .int .i64 0, .int .i64 0, .string .empty, .slice none 0 0, .slice none 0 0]⟩),
 (279,⟨.int .i64,1,8, .int .i64 0⟩),
 (275,⟨.ptr 3,1,8, .pointer none⟩),
 (14,⟨.struct [(9,0),(12,1)],2,24, .agg #[.string .empty, .int .u64 0]⟩),
 (89,⟨.struct [(86,0),(87,1)],2,32, .agg #[.pointer none, .slice none 0 0]⟩),
 (129,⟨.struct [(25,0),(127,1),(3,5)],6,64, .agg #[.slice none 0 0, .int .i64 0, .int .i64 0, .int .i64 0, .int .i64 0, .int .i64 0]⟩),
 (214,⟨.struct [(3,0),(3,1),(3,2)],3,24, .agg #[.int .i64 0, .int .i64 0, .int .i64 0]⟩),
 (127,⟨.arr 4 3,4,32, .agg #[.int .i64 0, .int .i64 0, .int .i64 0, .int .i64 0]⟩),
 (86,⟨.ptr 89,1,8, .pointer none⟩),
 (108,⟨.func,1,8, .nilFunc⟩),
 (211,⟨.slice 214,1,24, .slice none 0 0⟩),
 (15,⟨.ptr 314,1,8, .pointer none⟩),
 (85,⟨.slice 24,1,24, .slice none 0 0⟩),
 (267,⟨.struct [(5,0),(5,1)],2,2, .agg #[.int .u8 0, .int .u8 0]⟩),
 (40,⟨.struct [(9,0),(3,1)],2,24, .agg #[.string .empty, .int .i64 0]⟩),
 (16,⟨.ptr 317,1,8, .pointer none⟩),
 (123,⟨.ptr 129,1,8, .pointer none⟩),
 (299,⟨.struct [(9,0),(9,1),(147,2)],3,48, .agg #[.string .empty, .string .empty, .nilIface]⟩),
 (35,⟨.func,1,8, .nilFunc⟩),
 (91,⟨.struct [(89,0)],2,32, .agg #[.pointer none, .slice none 0 0]⟩),
 (183,⟨.slice 25,1,24, .slice none 0 0⟩),
 (28,⟨.func,1,8, .nilFunc⟩),
 (109,⟨.func,1,8, .nilFunc⟩),
 (288,⟨.arr 24 5,24,24, .agg #[.int .u8 0, .int .u8 0, .int .u8 0, .int .u8 0, .int .u8 0, .int .u8 0, .int .u8 0, .int .u8 0, .int .u8 0, .int .u8 0, .int .u8 0, .int .u8 0, .int .u8 0, .int .u8 0, .int .u8 0, .int .u8 0, .int .u8 0, .int .u8 0, .int .u8 0, .int .u8 0, .int .u8 0, .int .u8 0, .int .u8 0, .int .u8 0]⟩),
 (163,⟨.arr 2 47,2,48, .agg #[.slice none 0 0, .slice none 0 0]⟩),
 (171,⟨.func,1,8, .nilFunc⟩),
 (247,⟨.int .i64,1,8, .int .i64 0⟩),
 (282,⟨.ptr 299,1,8, .pointer none⟩),
 (20,⟨.iface,1,16, .nilIface⟩),
 (63,⟨.func,1,8, .nilFunc⟩),
 (136,⟨.func,1,8, .nilFunc⟩),
 (241,⟨.slice 244,1,24, .slice none 0 0⟩),
 (268,⟨.arr 16 267,32,32, .agg #[.int .u8 0, .int .u8 0, .int .u8 0, .int .u8 0, .int .u8 0, .int .u8 0, .int .u8 0, .int .u8 0, .int .u8 0, .int .u8 0, .int .u8 0, .int .u8 0, .int .u8 0, .int .u8 0, .int .u8 0, .int .u8 0, .int .u8 0, .int .u8 0, .int .u8 0, .int .u8 0, .int .u8 0, .int .u8 0, .int .u8 0, .int .u8 0, .int .u8 0, .int .u8 0, .int .u8 0, .int .u8 0, .int .u8 0, .int .u8 0, .int .u8 0, .int .u8 0]⟩),
 (303,⟨.arr 20 238,20,160, .agg #[.int .u64 0, .int .u64 0, .int .u64 0, .int .u64 0, .int .u64 0, .int .u64 0, .int .u64 0, .int .u64 0, .int .u64 0, .int .u64 0, .int .u64 0, .int .u64 0, .int .u64 0, .int .u64 0, .int .u64 0, .int .u64 0, .int .u64 0, .int .u64 0, .int .u64 0, .int .u64 0]⟩),
 (311,⟨.arr 32 5,32,32, .agg #[.int .u8 0, .int .u8 0, .int .u8 0, .int .u8 0, .int .u8 0, .int .u8 0, .int .u8 0, .int .u8 0, .int .u8 0, .int .u8 0, .int .u8 0, .int .u8 0, .int .u8 0, .int .u8 0, .int .u8 0, .int .u8 0, .int .u8 0, .int .u8 0, .int .u8 0, .int .u8 0, .int .u8 0, .int .u8 0, .int .u8 0, .int .u8 0, .int .u8 0, .int .u8 0, .int .u8 0, .int .u8 0, .int .u8 0, .int .u8 0, .int .u8 0, .int .u8 0]⟩),
 (22,⟨.struct [(3,0),(3,1),(3,2),(3,3)],4,32, .agg #[.int .i64 0, .int .i64 0, .int .i64 0, .int .i64 0]⟩),
 (151,⟨.ptr 5,1,8, .pointer none⟩),
 (162,⟨.func,1,8, .nilFunc⟩),
 (206,⟨.arr 2 38,2,48, .agg #[.slice none 0 0, .slice none 0 0]⟩),
 (310,⟨.struct [(9,0)],1,16, .agg #[.string .empty]⟩),
 (81,⟨.func,1,8, .nilFunc⟩),
 (99,⟨.func,1,8, .nilFunc⟩),
 (101,⟨.func,1,8, .nilFunc⟩),
 (144,⟨.func,1,8, .nilFunc⟩),
 (157,⟨.func,1,8, .nilFunc⟩),
 (161,⟨.func,1,8, .nilFunc⟩),
 (184,⟨.func,1,8, .nilFunc⟩),
 (197,⟨.func,1,8, .nilFunc⟩),
 (198,⟨.func,1,8, .nilFunc⟩),
 (232,⟨.func,1,8, .nilFunc⟩),
 (234,⟨.func,1,8, .nilFunc⟩),
 (244,⟨.func,1,8, .nilFunc⟩),
 (306,⟨.func,1,8, .nilFunc⟩),
 (308,⟨.ptr 310,1,8, .pointer none⟩),
 (29,⟨.func,1,8, .nilFunc⟩),
 (31,⟨.struct [(9,0),(24,1),(25,2),(30,3)],4,88, .agg #[.string .empty, .slice none 0 0, .slice none 0 0, .slice none 0 0]⟩),
 (36,⟨.func,1,8, .nilFunc⟩),
 (37,⟨.func,1,8, .nilFunc⟩),
 (39,⟨.struct [(9,0),(3,1)],2,24, .agg #[.string .empty, .int .i64 0]⟩),
 (41,⟨.struct [(9,0),(9,1),(40,2),(3,4),(9,5)],6,80, .agg #[.string .empty, .string .empty, .string .empty, .int .i64 0, .int .i64 0, .string .empty]⟩),
 (44,⟨.func,1,8, .nilFunc⟩),
 (46,⟨.func,1,8, .nilFunc⟩),
 (49,⟨.func,1,8, .nilFunc⟩),
 (50,⟨.func,1,8, .nilFunc⟩),
 (51,⟨.func,1,8, .nilFunc⟩),
 (52,⟨.func,1,8, .nilFunc⟩),
 (53,⟨.func,1,8, .nilFunc⟩),
 (54,⟨.func,1,8, .nilFunc⟩),
 (55,⟨.func,1,8, .nilFunc⟩),
 (56,⟨.func,1,8, .nilFunc⟩),
 (57,⟨.func,1,8, .nilFunc⟩),
 (58,⟨.func,1,8, .nilFunc⟩),
 (59,⟨.func,1,8, .nilFunc⟩)
]
theorem tyTab_ok:∀ e∈tyTab,TyOk Tryz.prog e.1 e.2:=by
 unfold tyTab
 refine List.forall_mem_cons.2 ⟨tyOk3,?_⟩
 refine List.forall_mem_cons.2 ⟨tyOk47,?_⟩
 refine List.forall_mem_cons.2 ⟨tyOk9,?_⟩
 refine List.forall_mem_cons.2 ⟨tyOk32,?_⟩
 refine List.forall_mem_cons.2 ⟨tyOk30,?_⟩
 refine List.forall_mem_cons.2 ⟨tyOk5,?_⟩
 refine List.forall_mem_cons.2 ⟨tyOk2,?_⟩
 refine List.forall_mem_cons.2 ⟨tyOk25,?_⟩
 refine List.forall_mem_cons.2 ⟨tyOk38,?_⟩
 refine List.forall_mem_cons.2 ⟨tyOk1,?_⟩
 refine List.forall_mem_cons.2 ⟨tyOk23,?_⟩
 refine List.forall_mem_cons.2 ⟨tyOk24,?_⟩
 refine List.forall_mem_cons.2 ⟨tyOk33,?_⟩
 refine List.forall_mem_cons.2 ⟨tyOk42,?_⟩
 refine List.forall_mem_cons.2 ⟨tyOk4,?_⟩
 refine List.forall_mem_cons.2 ⟨tyOk238,?_⟩
 refine List.forall_mem_cons.2 ⟨tyOk235,?_⟩
 refine List.forall_mem_cons.2 ⟨tyOk6,?_⟩
 refine List.forall_mem_cons.2 ⟨tyOk8,?_⟩
 refine List.forall_mem_cons.2 ⟨tyOk87,?_⟩
 refine List.forall_mem_cons.2 ⟨tyOk217,?_⟩
 refine List.forall_mem_cons.2 ⟨tyOk12,?_⟩
 refine List.forall_mem_cons.2 ⟨tyOk10,?_⟩
 refine List.forall_mem_cons.2 ⟨tyOk21,?_⟩
 refine List.forall_mem_cons.2 ⟨tyOk186,?_⟩
 refine List.forall_mem_cons.2 ⟨tyOk18,?_⟩
 refine List.forall_mem_cons.2 ⟨tyOk165,?_⟩
 refine List.forall_mem_cons.2 ⟨tyOk7,?_⟩
 refine List.forall_mem_cons.2 ⟨tyOk176,?_⟩
 refine List.forall_mem_cons.2 ⟨tyOk27,?_⟩
 refine List.forall_mem_cons.2 ⟨tyOk13,?_⟩
 refine List.forall_mem_cons.2 ⟨tyOk168,?_⟩
 refine List.forall_mem_cons.2 ⟨tyOk271,?_⟩
 refine List.forall_mem_cons.2 ⟨tyOk189,?_⟩
 refine List.forall_mem_cons.2 ⟨tyOk19,?_⟩
 refine List.forall_mem_cons.2 ⟨tyOk147,?_⟩
 refine List.forall_mem_cons.2 ⟨tyOk174,?_⟩
 refine List.forall_mem_cons.2 ⟨tyOk181,?_⟩
 refine List.forall_mem_cons.2 ⟨tyOk11,?_⟩
 refine List.forall_mem_cons.2 ⟨tyOk17,?_⟩
 refine List.forall_mem_cons.2 ⟨tyOk26,?_⟩
 refine List.forall_mem_cons.2 ⟨tyOk279,?_⟩
 refine List.forall_mem_cons.2 ⟨tyOk275,?_⟩
 refine List.forall_mem_cons.2 ⟨tyOk14,?_⟩
 refine List.forall_mem_cons.2 ⟨tyOk89,?_⟩
 refine List.forall_mem_cons.2 ⟨tyOk129,?_⟩
 refine List.forall_mem_cons.2 ⟨tyOk214,?_⟩
 refine List.forall_mem_cons.2 ⟨tyOk127,?_⟩
 refine List.forall_mem_cons.2 ⟨tyOk86,?_⟩
 refine List.forall_mem_cons.2 ⟨tyOk108,?_⟩
 refine List.forall_mem_cons.2 ⟨tyOk211,?_⟩
 refine List.forall_mem_cons.2 ⟨tyOk15,?_⟩
 refine List.forall_mem_cons.2 ⟨tyOk85,?_⟩
 refine List.forall_mem_cons.2 ⟨tyOk267,?_⟩
 refine List.forall_mem_cons.2 ⟨tyOk40,?_⟩
 refine List.forall_mem_cons.2 ⟨tyOk16,?_⟩
 refine List.forall_mem_cons.2 ⟨tyOk123,?_⟩
 refine List.forall_mem_cons.2 ⟨tyOk299,?_⟩
 refine List.forall_mem_cons.2 ⟨tyOk35,?_⟩
 refine List.forall_mem_cons.2 ⟨tyOk91,?_⟩
 refine List.forall_mem_cons.2 ⟨tyOk183,?_⟩
 refine List.forall_mem_cons.2 ⟨tyOk28,?_⟩
 refine List.forall_mem_cons.2 ⟨tyOk109,?_⟩
 refine List.forall_mem_cons.2 ⟨tyOk288,?_⟩
 refine List.forall_mem_cons.2 ⟨tyOk163,?_⟩
 refine List.forall_mem_cons.2 ⟨tyOk171,?_⟩
 refine List.forall_mem_cons.2 ⟨tyOk247,?_⟩
 refine List.forall_mem_cons.2 ⟨tyOk282,?_⟩
 refine List.forall_mem_cons.2 ⟨tyOk20,?_⟩
 refine List.forall_mem_cons.2 ⟨tyOk63,?_⟩
 refine List.forall_mem_cons.2 ⟨tyOk136,?_⟩
 refine List.forall_mem_cons.2 ⟨tyOk241,?_⟩
 refine List.forall_mem_cons.2 ⟨tyOk268,?_⟩
 refine List.forall_mem_cons.2 ⟨tyOk303,?_⟩
 refine List.forall_mem_cons.2 ⟨tyOk311,?_⟩
 refine List.forall_mem_cons.2 ⟨tyOk22,?_⟩
 refine List.forall_mem_cons.2 ⟨tyOk151,?_⟩
 refine List.forall_mem_cons.2 ⟨tyOk162,?_⟩
 refine List.forall_mem_cons.2 ⟨tyOk206,?_⟩
 refine List.forall_mem_cons.2 ⟨tyOk310,?_⟩
 refine List.forall_mem_cons.2 ⟨tyOk81,?_⟩
 refine List.forall_mem_cons.2 ⟨tyOk99,?_⟩
 refine List.forall_mem_cons.2 ⟨tyOk101,?_⟩
 refine List.forall_mem_cons.2 ⟨tyOk144,?_⟩
 refine List.forall_mem_cons.2 ⟨tyOk157,?_⟩
 refine List.forall_mem_cons.2 ⟨tyOk161,?_⟩
 refine List.forall_mem_cons.2 ⟨tyOk184,?_⟩
 refine List.forall_mem_cons.2 ⟨tyOk197,?_⟩
 refine List.forall_mem_cons.2 ⟨tyOk198,?_⟩
 refine List.forall_mem_cons.2 ⟨tyOk232,?_⟩
 refine List.forall_mem_cons.2 ⟨tyOk234,?_⟩
 refine List.forall_mem_cons.2 ⟨tyOk244,?_⟩
 refine List.forall_mem_cons.2 ⟨tyOk306,?_⟩
 refine List.forall_mem_cons.2 ⟨tyOk308,?_⟩
 refine List.forall_mem_cons.2 ⟨tyOk29,?_⟩
 refine List.forall_mem_cons.2 ⟨tyOk31,?_⟩
 refine List.forall_mem_cons.2 ⟨tyOk36,?_⟩
 refine List.forall_mem_cons.2 ⟨tyOk37,?_⟩
 refine List.forall_mem_cons.2 ⟨tyOk39,?_⟩
 refine List.forall_mem_cons.2 ⟨tyOk41,?_⟩
 refine List.forall_mem_cons.2 ⟨tyOk44,?_⟩
 refine List.forall_mem_cons.2 ⟨tyOk46,?_⟩
 refine List.forall_mem_cons.2 ⟨tyOk49,?_⟩
 refine List.forall_mem_cons.2 ⟨tyOk50,?_⟩
 refine List.forall_mem_cons.2 ⟨tyOk51,?_⟩
 refine List.forall_mem_cons.2 ⟨tyOk52,?_⟩
 refine List.forall_mem_cons.2 ⟨tyOk53,?_⟩
 refine List.forall_mem_cons.2 ⟨tyOk54,?_⟩
 refine List.forall_mem_cons.2 ⟨tyOk55,?_⟩
 refine List.forall_mem_cons.2 ⟨tyOk56,?_⟩
 refine List.forall_mem_cons.2 ⟨tyOk57,?_⟩
 refine List.forall_mem_cons.2 ⟨tyOk58,?_⟩
 refine List.forall_mem_cons.2 ⟨tyOk59,?_⟩
 intro _ h;cases h
noncomputable def sg:Sig:=⟨Tryz.prog,tyTab,tyTab_ok,by kernel_rfl⟩
end Go.Proofs.YtblnhdnogjijiaaGreatDoor
namespace Go.Proofs.YtblnhdnogjijiaaGreatDoor
open Go.RowKit Go.Shelf Go.Proofs
set_option maxRecDepth 100000
set_option maxHeartbeats 1000000

theorem kindRef_spec (c:Int) (w:World):Spec Tryz.prog 138 [.int .u8 c] w (fun v A=>v = .int .i64 (kindI c)∧A=[]):=by
 refine spec_of sg Tryz.func138 rfl rfl rfl ?_
 repeat' (first|refine d1 ?_|refine dd ?_|(show ∀ _:Nat,T _ _ _ _ _;intro _)|(show T _ (.code (.cond _ _ _)::_) _ _ _;refine T_if rfl (fun h=>?_) (fun h=>?_))|(show T _ (.code .ret::_) _ _ _;refine T_retV [] rfl (Hle.refl _) ?_))
 all_goals refine ⟨congrArg (Value.int .i64) ?_,rfl⟩
 all_goals simp only [Bool.or_eq_true,Bool.and_eq_true,decide_eq_true_eq,Bool.or_eq_false_iff,Bool.and_eq_false_iff,decide_eq_false_iff_not] at *
 all_goals (unfold kindI;(repeat' split) <;> omega)

theorem lettersRef_spec (s:ByteArray) (w:World) (hs:s.size≤9223372036854775807):Spec Tryz.prog 174 [.string s] w (fun v A=>v = .int .i64 (lettersN s.data.toList)∧A=[]):=by
 refine spec_of sg Tryz.func174 rfl rfl rfl ?_
 repeat' (first|refine d1 ?_|refine dd ?_|(show ∀ _:Nat,T _ _ _ _ _;intro _))
 refine T_loop (fun k:Nat=>[(0, .string s),(3, .int .i64 (lettersN (s.data.toList.take k))),(4, .int .i64 k)]) (fun _=>[]) (fun k=>k≤s.size) (fun k=>s.size - k) 0 (by omega) ⟨rfl,rfl,rfl,trivial⟩ (Hle.refl _) ?_
 intro k hk
 repeat' (first|refine d1 ?_|refine dd ?_|(show ∀ _:Nat,T _ _ _ _ _;intro _))
 refine T_if rfl (fun h=>?_) (fun h=>?_)
 ·simp only [decide_eq_true_eq] at h
  have hl:=lettersN_le (s.data.toList.take k)
  have hl2:(s.data.toList.take k).length≤k:=by rw [List.length_take];omega
  have hst:=lettersN_take s k (by omega)
  repeat' (first|refine d1 ?_|refine dd ?_|(show T _ (.ops _ (_::_)::_) _ _ _;first|refine T_call rfl rfl rfl rfl rfl (fun w hw=>kindRef_spec _ w) ?_|refine T_callC rfl rfl rfl rfl rfl rfl rfl (fun hg w hw=>kindRef_spec _ w) ?_)|(show T _ (.run _ _ (_::_) _ _::_) _ _ _;first|refine rc rfl rfl rfl rfl rfl rfl rfl (fun w hw=>kindRef_spec _ w) ?_|refine rcG rfl rfl rfl rfl rfl rfl rfl rfl rfl (fun hg w hw=>kindRef_spec _ w) ?_)|(show ∀ _:Nat,T _ _ _ _ _;intro _)|(show T _ (.code (.cond _ _ _)::_) _ _ _;refine T_if rfl (fun h=>?_) (fun h=>?_))|(show T _ _ _ _ _;refine T_back (k+1) (by omega) (by omega) ⟨rfl,?_,rfl,trivial⟩ (Hle.refl _)))
  all_goals (refine congrArg (fun z:Int=>some (Value.int .i64 z)) ?_;simp only [Bool.or_eq_true,Bool.or_eq_false_iff,decide_eq_true_eq,decide_eq_false_iff_not] at h;rw [hst];unfold kAt;split <;> omega)
 ·simp only [decide_eq_false_iff_not] at h
  have hk2:k=s.size:=by omega
  subst hk2
  repeat' (first|refine d1 ?_|refine dd ?_|(show ∀ _:Nat,T _ _ _ _ _;intro _)|(show T _ (.code .ret::_) _ _ _;refine T_retV [] rfl (Hle.refl _) ⟨?_,rfl⟩))
  rw [List.take_of_length_le (by simp)]
  rfl

theorem rightRef_spec (s:ByteArray) (w:World) (hs:s.size≤65536):Spec Tryz.prog 230 [.string s] w
  (fun v A=>∃ x:Nat × Nat,True∧v = .slice (some ⟨x.1,0,none⟩) s.size x.2∧A=[row 4 1 (some ⟨x.1,0,none⟩) x.2 s.size (rts s s.size)]):=by
 refine spec_of sg Tryz.func230 rfl rfl rfl ?_
 repeat' (first|refine d1 ?_|refine dd ?_|(show ∀ _:Nat,T _ _ _ _ _;intro _))
 refine T_blk_rowh 1 0 rfl (by omega) ?_
 refine T_loop (fun x:Nat × Nat × Nat=>[(0, .string s),(3, .slice (some ⟨x.2.1,0,none⟩) x.1 x.2.2),(4, .int .i64 x.1)]) (fun x=>[row 4 1 (some ⟨x.2.1,0,none⟩) x.2.2 x.1 (rts s x.1)]) (fun x=>x.1≤s.size) (fun x=>s.size - x.1) (0,_,0) (Nat.zero_le _) ⟨rfl,rfl,rfl,trivial⟩ (Hle.refl _) ?_
 rintro⟨k,g,cap⟩ hk
 dsimp only at hk ⊢
 repeat' (first|refine d1 ?_|refine dd ?_|(show ∀ _:Nat,T _ _ _ _ _;intro _))
 refine T_if rfl (fun h=>?_) (fun h=>?_)
 ·simp only [decide_eq_true_eq] at h
  repeat' (first|refine d1 ?_|refine dd ?_|(show T _ (.ops _ (_::_)::_) _ _ _;first|refine T_call rfl rfl rfl rfl rfl (fun w hw=>kindRef_spec _ w) ?_|refine T_callC rfl rfl rfl rfl rfl rfl rfl (fun hg w hw=>kindRef_spec _ w) ?_)|(show T _ (.run _ _ (_::_) _ _::_) _ _ _;first|refine rc rfl rfl rfl rfl rfl rfl rfl (fun w hw=>kindRef_spec _ w) ?_|refine rcG rfl rfl rfl rfl rfl rfl rfl rfl rfl (fun hg w hw=>kindRef_spec _ w) ?_)|(show ∀ _:Nat,T _ _ _ _ _;intro _))
  refine T_loadC (v := .bool (rtAt s (k - 1))) rfl rfl rfl rfl rfl rfl rfl (fun hg=>?_) ?_
  ·(simp only [List.cons_append,List.nil_append,GP,dstL,lookE,Nat.beq,cond,List.getElem?_cons_zero,List.getElem?_cons_succ,Option.bind_some,and_true,Bool.and_eq_true,Bool.or_eq_true,Bool.and_eq_false_iff,Bool.or_eq_false_iff,Bool.not_eq_true',Bool.not_eq_false',decide_eq_true_eq,decide_eq_false_iff_not] at hg)
   refine rdRow (A:=some ⟨g,0,none⟩) (by omega) (get1 ?_)
   rw [show 0+((k:Int) - 1).toNat * 1=k - 1 by omega]
   exact rts_get (by omega)
  repeat' (first|refine d1 ?_|refine dd ?_|(show ∀ _:Nat,T _ _ _ _ _;intro _))
  refine T_op (OpT.append rfl rfl rfl rfl rfl rfl rfl rfl rfl rfl (fun w hw=>Src.own hw rfl) rfl (by dsimp only;omega) (by omega) (fun A' cap' hA=>?_))
  obtain⟨g',rfl⟩:=hA (by omega)
  have hv:(decide (kindI (byteAt s (k:Int)).toNat=2) && decide ((0:Int)<k) && (decide (kindI (byteAt s ((k:Int) - 1)).toNat=1) || rtAt s (k - 1)))=rtAt s k:=by
   rw [byteAt_pred]
   cases k with
   | zero=>simp [rtAt,canAt]
   | succ k=>simp [rtAt,canAt,kAt];rfl
  rw [hv,show rts s k++flatP [(0, .bool (rtAt s k))]=rts s (k+1) from (rts_succ s k).symm]
  repeat' (first|refine d1 ?_|refine dd ?_|(show ∀ _:Nat,T _ _ _ _ _;intro _))
  exact T_back (k+1,g',cap') (Nat.succ_le_of_lt (by omega)) (by dsimp only;omega) ⟨rfl,rfl,rfl,trivial⟩ (Hle.tail _ _)
 ·simp only [decide_eq_false_iff_not] at h
  have hk2:k=s.size:=by omega
  subst hk2
  repeat' (first|refine d1 ?_|refine dd ?_|(show ∀ _:Nat,T _ _ _ _ _;intro _)|(show T _ (.code .ret::_) _ _ _;refine T_retV _ rfl (Hle.refl _) ⟨(g,cap),trivial,rfl,rfl⟩))

theorem checkRef_spec (s:ByteArray) (w:World):Spec Tryz.prog 190 [.string s] w (fun v A=>v = .int .i64 (checkS s)∧A=[]):=by
 refine spec_of sg Tryz.func190 rfl rfl rfl ?_
 repeat' (first|refine d1 ?_|refine dd ?_|(show ∀ _:Nat,T _ _ _ _ _;intro _))
 refine T_if rfl (fun h=>?_) (fun h=>?_)
 ·simp only [decide_eq_true_eq] at h
  repeat' (first|refine d1 ?_|refine dd ?_|(show ∀ _:Nat,T _ _ _ _ _;intro _)|(show T _ (.code .ret::_) _ _ _;refine T_retV [] rfl (Hle.refl _) ⟨?_,rfl⟩))
  unfold checkS;rw [if_pos h];rfl
 simp only [decide_eq_false_iff_not] at h
 repeat' (first|refine d1 ?_|refine dd ?_|(show T _ (.ops _ (_::_)::_) _ _ _;refine T_callE rfl rfl rfl rfl rfl (fun w _=>rightRef_spec s w (by omega)) (fun x _=>?_))|(show ∀ _:Nat,T _ _ _ _ _;intro _))
 refine T_loop (fun k:Nat=>[(0, .string s),(3, .slice (some ⟨x.1,0,none⟩) s.size x.2),(4, .int .i64 k)]) (fun _=>[row 4 1 (some ⟨x.1,0,none⟩) x.2 s.size (rts s s.size)])
  (fun k=>k≤s.size∧∀ j,j<k→okAt s j=true) (fun k=>s.size - k) 0 ⟨by omega,fun j h=>by omega⟩ ⟨rfl,rfl,rfl,trivial⟩ (Hle.refl _) ?_
 rintro k ⟨hk,hok⟩
 repeat' (first|refine d1 ?_|refine dd ?_|(show ∀ _:Nat,T _ _ _ _ _;intro _))
 refine T_if rfl (fun h1=>?_) (fun h1=>?_)
 ·simp only [decide_eq_true_eq] at h1
  repeat' (first|refine d1 ?_|refine dd ?_|(show T _ (.ops _ (_::_)::_) _ _ _;first|refine T_call rfl rfl rfl rfl rfl (fun w hw=>kindRef_spec _ w) ?_|refine T_callC rfl rfl rfl rfl rfl rfl rfl (fun hg w hw=>kindRef_spec _ w) ?_)|(show T _ (.run _ _ (_::_) _ _::_) _ _ _;first|refine rc rfl rfl rfl rfl rfl rfl rfl (fun w hw=>kindRef_spec _ w) ?_|refine rcG rfl rfl rfl rfl rfl rfl rfl rfl rfl (fun hg w hw=>kindRef_spec _ w) ?_)|(show ∀ _:Nat,T _ _ _ _ _;intro _))
  refine T_loadC (v := .bool (rtAt s k)) rfl rfl rfl rfl rfl rfl rfl (fun hg=>rdRow (A:=some ⟨x.1,0,none⟩) (by omega) (get1 ?_)) ?_
  ·rw [show 0+(k:Int).toNat * 1=k by omega]
   exact rts_get (by omega)
  have hst:(decide (kindI (byteAt s (k:Int)).toNat=0) || (decide (kindI (byteAt s (k:Int)).toNat=2) && !rtAt s k)) = !okAt s k:=by
   unfold okAt rtAt kAt
   generalize kindI (byteAt s (k:Int)).toNat=q
   by_cases h0:q=0 <;> by_cases h2:q=2 <;> cases canAt s k <;> simp [h0,h2] <;> omega
  repeat' (first|refine d1 ?_|refine dd ?_|(show ∀ _:Nat,T _ _ _ _ _;intro _))
  refine T_if rfl (fun h2=>?_) (fun h2=>?_)
  ·rw [hst,Bool.not_eq_true'] at h2
   repeat' (first|refine d1 ?_|refine dd ?_|(show ∀ _:Nat,T _ _ _ _ _;intro _)|(show T _ (.code .ret::_) _ _ _;refine T_retV [] rfl (Hle.none _) ⟨?_,rfl⟩))
   unfold checkS;rw [if_neg h,okAll_false (by omega) h2];rfl
  ·rw [hst,Bool.not_eq_false'] at h2
   repeat' (first|refine d1 ?_|refine dd ?_|(show ∀ _:Nat,T _ _ _ _ _;intro _))
   refine T_back (k+1) ⟨by omega,fun j hj=>?_⟩ (by omega) ⟨rfl,rfl,rfl,trivial⟩ (Hle.refl _)
   rcases Nat.lt_or_ge j k with h3|h3
   ·exact hok j h3
   ·rw [show j=k by omega];exact h2
 ·simp only [decide_eq_false_iff_not] at h1
  repeat' (first|refine d1 ?_|refine dd ?_|(show ∀ _:Nat,T _ _ _ _ _;intro _)|(show T _ (.code .ret::_) _ _ _;refine T_retV [] rfl (Hle.none _) ⟨?_,rfl⟩))
  unfold checkS;rw [if_neg h,okAll_true (fun j hj=>hok j (by omega))];rfl

theorem isWordRef_spec (s:ByteArray) (w:World):Spec Tryz.prog 139 [.string s] w (fun v A=>v = .bool (isWordB s)∧A=[]):=by
 refine spec_of sg Tryz.func139 rfl rfl rfl ?_
 repeat' (first|refine d1 ?_|refine dd ?_|(show T _ (.ops _ (_::_)::_) _ _ _;first|refine T_call rfl rfl rfl rfl rfl (fun w hw=>checkRef_spec s w) ?_|refine T_callC rfl rfl rfl rfl rfl rfl rfl (fun hg w hw=>checkRef_spec s w) ?_)|(show T _ (.run _ _ (_::_) _ _::_) _ _ _;first|refine rc rfl rfl rfl rfl rfl rfl rfl (fun w hw=>checkRef_spec s w) ?_|refine rcG rfl rfl rfl rfl rfl rfl rfl rfl rfl (fun hg w hw=>checkRef_spec s w) ?_)|(show ∀ _:Nat,T _ _ _ _ _;intro _))
 refine T_if rfl (fun h=>?_) (fun h=>?_)
 ·repeat' (first|refine d1 ?_|refine dd ?_|(show ∀ _:Nat,T _ _ _ _ _;intro _)|(show T _ (.code .ret::_) _ _ _;refine T_retV [] rfl (Hle.refl _) ⟨congrArg Value.bool ?_,rfl⟩))
  simp only [Bool.or_eq_true,decide_eq_true_eq,Bool.not_eq_true',decide_eq_false_iff_not] at h
  unfold isWordB
  by_cases h1:1≤s.size∧s.size≤64
  ·have h2:okAll s=false:=by
    cases h3:okAll s with
    | false=>rfl
    | true=>unfold checkS at h;rw [if_neg (by omega),h3] at h;simp at h;omega
   simp [h2]
  ·simp [h1]
 simp only [Bool.or_eq_false_iff,decide_eq_false_iff_not,Bool.not_eq_false',decide_eq_true_eq] at h
 have h1:1≤s.size∧s.size≤64:=by omega
 have h2:okAll s=true:=by
  cases h3:okAll s with
  | true=>rfl
  | false=>have h4:=h.2;unfold checkS at h4;rw [if_neg (by omega),h3] at h4;simp at h4
 repeat' (first|refine d1 ?_|refine dd ?_|(show T _ (.ops _ (_::_)::_) _ _ _;first|refine T_call rfl rfl rfl rfl rfl (fun w hw=>kindRef_spec _ w) ?_|refine T_callC rfl rfl rfl rfl rfl rfl rfl (fun hg w hw=>kindRef_spec _ w) ?_)|(show T _ (.run _ _ (_::_) _ _::_) _ _ _;first|refine rc rfl rfl rfl rfl rfl rfl rfl (fun w hw=>kindRef_spec _ w) ?_|refine rcG rfl rfl rfl rfl rfl rfl rfl rfl rfl (fun hg w hw=>kindRef_spec _ w) ?_)|(show ∀ _:Nat,T _ _ _ _ _;intro _))
 refine T_if rfl (fun h3=>?_) (fun h3=>?_)
 ·repeat' (first|refine d1 ?_|refine dd ?_|(show ∀ _:Nat,T _ _ _ _ _;intro _)|(show T _ (.code .ret::_) _ _ _;refine T_retV [] rfl (Hle.refl _) ⟨congrArg Value.bool ?_,rfl⟩))
  have h4:(decide (kAt s 0=1) || decide (kAt s 0=3))=false:=by
   simp only [Bool.and_eq_true,Bool.not_eq_true'] at h3
   rw [Bool.or_eq_false_iff];exact h3
  unfold isWordB
  simp [h4]
 have h4:(decide (kAt s 0=1) || decide (kAt s 0=3))=true:=by
  simp only [Bool.and_eq_false_iff,Bool.not_eq_false'] at h3
  rw [Bool.or_eq_true];exact h3
 repeat' (first|refine d1 ?_|refine dd ?_|(show ∀ _:Nat,T _ _ _ _ _;intro _))
 refine T_loop (fun k:Nat=>[(0, .string s),(4, .int .i64 k)]) (fun _=>[]) (fun k=>k≤s.size∧∀ j,j<k→kAt s j≤4) (fun k=>s.size - k) 0 ⟨by omega,fun j h=>by omega⟩ ⟨rfl,rfl,trivial⟩ (Hle.refl _) ?_
 rintro k ⟨hk,hok⟩
 repeat' (first|refine d1 ?_|refine dd ?_|(show ∀ _:Nat,T _ _ _ _ _;intro _))
 refine T_if rfl (fun h5=>?_) (fun h5=>?_)
 ·simp only [decide_eq_true_eq] at h5
  repeat' (first|refine d1 ?_|refine dd ?_|(show T _ (.ops _ (_::_)::_) _ _ _;first|refine T_call rfl rfl rfl rfl rfl (fun w hw=>kindRef_spec _ w) ?_|refine T_callC rfl rfl rfl rfl rfl rfl rfl (fun hg w hw=>kindRef_spec _ w) ?_)|(show T _ (.run _ _ (_::_) _ _::_) _ _ _;first|refine rc rfl rfl rfl rfl rfl rfl rfl (fun w hw=>kindRef_spec _ w) ?_|refine rcG rfl rfl rfl rfl rfl rfl rfl rfl rfl (fun hg w hw=>kindRef_spec _ w) ?_)|(show ∀ _:Nat,T _ _ _ _ _;intro _))
  refine T_if rfl (fun h6=>?_) (fun h6=>?_)
  ·simp only [decide_eq_true_eq] at h6
   repeat' (first|refine d1 ?_|refine dd ?_|(show ∀ _:Nat,T _ _ _ _ _;intro _)|(show T _ (.code .ret::_) _ _ _;refine T_retV [] rfl (Hle.refl _) ⟨congrArg Value.bool ?_,rfl⟩))
   have h7:¬ ∀ j,j<s.size→kAt s j≤4:=fun hh=>by have:=hh k (by omega);unfold kAt at this;omega
   unfold isWordB
   simp [h7]
  ·simp only [decide_eq_false_iff_not] at h6
   repeat' (first|refine d1 ?_|refine dd ?_|(show ∀ _:Nat,T _ _ _ _ _;intro _))
   refine T_back (k+1) ⟨by omega,fun j hj=>?_⟩ (by omega) ⟨rfl,rfl,trivial⟩ (Hle.refl _)
   rcases Nat.lt_or_ge j k with h7|h7
   ·exact hok j h7
   ·rw [show j=k by omega];unfold kAt;omega
 ·simp only [decide_eq_false_iff_not] at h5
  repeat' (first|refine d1 ?_|refine dd ?_|(show ∀ _:Nat,T _ _ _ _ _;intro _)|(show T _ (.code .ret::_) _ _ _;refine T_retV [] rfl (Hle.refl _) ⟨congrArg Value.bool ?_,rfl⟩))
  unfold isWordB
  have h7:∀ j,j<s.size→kAt s j≤4:=fun j hj=>hok j (by omega)
  rw [decide_eq_true h1,h2,h4,decide_eq_true h7];rfl

theorem isNameRef_spec (s:ByteArray) (w:World):Spec Tryz.prog 114 [.string s] w (fun v A=>v = .bool (isNameB s)∧A=[]):=by
 refine spec_of sg Tryz.func114 rfl rfl rfl ?_
 repeat' (first|refine d1 ?_|refine dd ?_|(show T _ (.ops _ (_::_)::_) _ _ _;first|refine T_call rfl rfl rfl rfl rfl (fun w hw=>isWordRef_spec s w) ?_|refine T_callC rfl rfl rfl rfl rfl rfl rfl (fun hg w hw=>isWordRef_spec s w) ?_|refine T_call rfl rfl rfl rfl rfl (fun w hw=>lettersRef_spec s w (by ((simp only [List.cons_append,List.nil_append,GP,dstL,lookE,Nat.beq,cond,List.getElem?_cons_zero,List.getElem?_cons_succ,Option.bind_some,and_true,Bool.and_eq_true,Bool.or_eq_true,Bool.and_eq_false_iff,Bool.or_eq_false_iff,Bool.not_eq_true',Bool.not_eq_false',decide_eq_true_eq,decide_eq_false_iff_not] at hg);omega))) ?_|refine T_callC rfl rfl rfl rfl rfl rfl rfl (fun hg w hw=>lettersRef_spec s w (by ((simp only [List.cons_append,List.nil_append,GP,dstL,lookE,Nat.beq,cond,List.getElem?_cons_zero,List.getElem?_cons_succ,Option.bind_some,and_true,Bool.and_eq_true,Bool.or_eq_true,Bool.and_eq_false_iff,Bool.or_eq_false_iff,Bool.not_eq_true',Bool.not_eq_false',decide_eq_true_eq,decide_eq_false_iff_not] at hg);omega))) ?_)|(show T _ (.run _ _ (_::_) _ _::_) _ _ _;first|refine rc rfl rfl rfl rfl rfl rfl rfl (fun w hw=>isWordRef_spec s w) ?_|refine rcG rfl rfl rfl rfl rfl rfl rfl rfl rfl (fun hg w hw=>isWordRef_spec s w) ?_|refine rc rfl rfl rfl rfl rfl rfl rfl (fun w hw=>lettersRef_spec s w (by ((simp only [List.cons_append,List.nil_append,GP,dstL,lookE,Nat.beq,cond,List.getElem?_cons_zero,List.getElem?_cons_succ,Option.bind_some,and_true,Bool.and_eq_true,Bool.or_eq_true,Bool.and_eq_false_iff,Bool.or_eq_false_iff,Bool.not_eq_true',Bool.not_eq_false',decide_eq_true_eq,decide_eq_false_iff_not] at hg);omega))) ?_|refine rcG rfl rfl rfl rfl rfl rfl rfl rfl rfl (fun hg w hw=>lettersRef_spec s w (by ((simp only [List.cons_append,List.nil_append,GP,dstL,lookE,Nat.beq,cond,List.getElem?_cons_zero,List.getElem?_cons_succ,Option.bind_some,and_true,Bool.and_eq_true,Bool.or_eq_true,Bool.and_eq_false_iff,Bool.or_eq_false_iff,Bool.not_eq_true',Bool.not_eq_false',decide_eq_true_eq,decide_eq_false_iff_not] at hg);omega))) ?_)|(show ∀ _:Nat,T _ _ _ _ _;intro _)|(show T _ (.code .ret::_) _ _ _;refine T_retV [] rfl (Hle.refl _) ⟨congrArg Value.bool ?_,rfl⟩))
 unfold isNameB
 rw [Bool.and_assoc]
 congr 1
 simp only [decide_eq_decide];omega

theorem wordlyRef_spec (c:Int) (w:World):Spec Tryz.prog 140 [.int .u8 c] w (fun v A=>v = .bool (wordlyK (kindI c))∧A=[]):=by
 refine spec_of sg Tryz.func140 rfl rfl rfl ?_
 repeat' (first|refine d1 ?_|refine dd ?_|(show T _ (.ops _ (_::_)::_) _ _ _;first|refine T_call rfl rfl rfl rfl rfl (fun w hw=>kindRef_spec c w) ?_|refine T_callC rfl rfl rfl rfl rfl rfl rfl (fun hg w hw=>kindRef_spec c w) ?_)|(show T _ (.run _ _ (_::_) _ _::_) _ _ _;first|refine rc rfl rfl rfl rfl rfl rfl rfl (fun w hw=>kindRef_spec c w) ?_|refine rcG rfl rfl rfl rfl rfl rfl rfl rfl rfl (fun hg w hw=>kindRef_spec c w) ?_)|(show ∀ _:Nat,T _ _ _ _ _;intro _)|(show T _ (.code .ret::_) _ _ _;refine T_retV [] rfl (Hle.refl _) ⟨rfl,rfl⟩))

theorem namedRef_spec (s:ByteArray) (w:World):Spec Tryz.prog 141 [.string s] w (fun v A=>v = .bool (namedB s)∧A=[]):=by
 refine spec_of sg Tryz.func141 rfl rfl rfl ?_
 repeat' (first|refine d1 ?_|refine dd ?_|(show T _ (.ops _ (_::_)::_) _ _ _;first|refine T_call rfl rfl rfl rfl rfl (fun w hw=>isNameRef_spec s w) ?_|refine T_callC rfl rfl rfl rfl rfl rfl rfl (fun hg w hw=>isNameRef_spec s w) ?_)|(show T _ (.run _ _ (_::_) _ _::_) _ _ _;first|refine rc rfl rfl rfl rfl rfl rfl rfl (fun w hw=>isNameRef_spec s w) ?_|refine rcG rfl rfl rfl rfl rfl rfl rfl rfl rfl (fun hg w hw=>isNameRef_spec s w) ?_)|(show ∀ _:Nat,T _ _ _ _ _;intro _)|(show T _ (.code .ret::_) _ _ _;refine T_retV [] rfl (Hle.refl _) ⟨rfl,rfl⟩))
end Go.Proofs.YtblnhdnogjijiaaGreatDoor
namespace Go.Proofs.YtblnhdnogjijiaaGreatDoor
open Go.RowKit Go.Shelf Go.Proofs
set_option maxRecDepth 100000
set_option maxHeartbeats 1000000

theorem Calls.spec {P:Program} {f:FuncId} {args:List Value} {w:World} {v:Value} (he:Enters P f) (h:Calls P f args.toArray w fun e w'=>e = .returned v∧w'=w):Spec P f args w (fun u A=>u=v∧A=[]) :=
 ⟨he,h.mono fun _ _ ⟨h1,h2⟩=>⟨v,[],h1,⟨rfl,rfl⟩,by rw [h2];exact Below.refl _ _,Sep.nil _ _⟩⟩
theorem itoa_spec (i:Nat) (hi:i<100) (w:World):Spec Tryz.prog 189 [.int .i64 (i:Int)] w (fun v A=>v = .string ⟨(Lib.decDigits i).toArray⟩∧A=[]) :=
 Calls.spec (enters_of rfl rfl rfl) (Tryz.strconv_Itoa_small i hi w)

theorem gappedRef_spec (s:ByteArray) (w:World):Spec Tryz.prog 137 [.string s] w (fun v A=>v = .bool (gappedB s)∧A=[]):=by
 refine spec_of sg Tryz.func137 rfl rfl rfl ?_
 repeat' (first|refine d1 ?_|refine dd ?_|(show ∀ _:Nat,T _ _ _ _ _;intro _))
 refine T_loop (fun k:Nat=>[(0, .string s),(3, .int .i64 k)]) (fun _=>[]) (fun k=>(1≤k∧k≤65)∧∀ n,1≤n→n<k→s≠gapStr n) (fun k=>65 - k) 1 ⟨by omega,fun n h=>by omega⟩ ⟨rfl,rfl,trivial⟩ (Hle.refl _) ?_
 rintro k ⟨hk,hn⟩
 repeat' (first|refine d1 ?_|refine dd ?_|(show ∀ _:Nat,T _ _ _ _ _;intro _))
 refine T_if rfl (fun h=>?_) (fun h=>?_)
 ·simp only [decide_eq_true_eq] at h
  have hsz:=decDigits_len k (by omega)
  repeat' (first|refine d1 ?_|refine dd ?_|(show T _ (.ops _ (_::_)::_) _ _ _;first|refine T_call rfl rfl rfl rfl rfl (fun w hw=>itoa_spec k (by omega) w) ?_|refine T_callC rfl rfl rfl rfl rfl rfl rfl (fun hg w hw=>itoa_spec k (by omega) w) ?_|refine T_vc rfl rfl rfl rfl rfl (by simp [ByteArray.size];omega) ?_)|(show T _ (.run _ _ (_::_) _ _::_) _ _ _;first|refine rc rfl rfl rfl rfl rfl rfl rfl (fun w hw=>itoa_spec k (by omega) w) ?_|refine rcG rfl rfl rfl rfl rfl rfl rfl rfl rfl (fun hg w hw=>itoa_spec k (by omega) w) ?_)|(show ∀ _:Nat,T _ _ _ _ _;intro _))
  refine T_if rfl (fun h2=>?_) (fun h2=>?_)
  ·simp only [decide_eq_true_eq] at h2
   repeat' (first|refine d1 ?_|refine dd ?_|(show ∀ _:Nat,T _ _ _ _ _;intro _)|(show T _ (.code .ret::_) _ _ _;refine T_retV [] rfl (Hle.refl _) ⟨congrArg Value.bool (gappedB_true (by omega) hk.1 h2).symm,rfl⟩))
  ·simp only [decide_eq_false_iff_not] at h2
   repeat' (first|refine d1 ?_|refine dd ?_|(show ∀ _:Nat,T _ _ _ _ _;intro _))
   refine T_back (k+1) ⟨by omega,fun n h3 h4=>?_⟩ (by omega) ⟨rfl,rfl,trivial⟩ (Hle.refl _)
   rcases Nat.lt_or_ge n k with h5|h5
   ·exact hn n h3 h5
   ·rw [show n=k by omega];exact h2
 ·simp only [decide_eq_false_iff_not] at h
  repeat' (first|refine d1 ?_|refine dd ?_|(show ∀ _:Nat,T _ _ _ _ _;intro _)|(show T _ (.code .ret::_) _ _ _;refine T_retV [] rfl (Hle.refl _) ⟨congrArg Value.bool (gappedB_false (fun n h1 h2=>hn n h2 (by omega))).symm,rfl⟩))

theorem hasRef15_spec (t:Tok) (n:Int) (hn:n=2∨n=8) (h0:0≤t.flags∧t.flags≤31) (w:World):Spec Tryz.prog 136 [t.val, .int .i64 n] w (fun v A=>v = .bool (hasN t.flags n)∧A=[]):=by
 refine spec_of sg Tryz.func136 rfl rfl rfl ?_
 rcases hn with rfl|rfl
 ·repeat' (first|(show T _ (.ops _ (⟨_, .box _ _,_,_,_,_⟩::_)::_) _ _ _;refine T_op (OpT.box (cs:=t.cells) rfl rfl rfl rfl rfl rfl rfl (fun _=>?_)))|refine d1 ?_|refine dd ?_|(show ∀ _:Nat,T _ _ _ _ _;intro _)|(show T _ (.code .ret::_) _ _ _;refine T_retV [] rfl (Hle.none _) ⟨rfl,rfl⟩))
 ·repeat' (first|(show T _ (.ops _ (⟨_, .box _ _,_,_,_,_⟩::_)::_) _ _ _;refine T_op (OpT.box (cs:=t.cells) rfl rfl rfl rfl rfl rfl rfl (fun _=>?_)))|refine d1 ?_|refine dd ?_|(show ∀ _:Nat,T _ _ _ _ _;intro _)|(show T _ (.code .ret::_) _ _ _;refine T_retV [] rfl (Hle.none _) ⟨rfl,rfl⟩))
theorem tokRef_spec (t:Tok) (w:World):Spec Tryz.prog 86 [t.val] w (fun v A=>v = .int .i64 (tokE t)∧A=[]):=by
 refine spec_of sg Tryz.func86 rfl rfl rfl ?_
 repeat' (first|(show T _ (.ops _ (⟨_, .box _ _,_,_,_,_⟩::_)::_) _ _ _;refine T_op (OpT.box (cs:=t.cells) rfl rfl rfl rfl rfl rfl rfl (fun _=>?_)))|refine d1 ?_|refine dd ?_|(show ∀ _:Nat,T _ _ _ _ _;intro _))
 rename_i b
 refine T_if rfl (fun h=>?_) (fun h=>?_)
 ·repeat' (first|refine d1 ?_|refine dd ?_|(show ∀ _:Nat,T _ _ _ _ _;intro _)|(show T _ (.code .ret::_) _ _ _;refine T_retV [] rfl (Hle.none _) ⟨?_,rfl⟩))
  simp only [Bool.or_eq_true,decide_eq_true_eq] at h
  unfold tokE;rw [if_pos h];rfl
 simp only [Bool.or_eq_false_iff,decide_eq_false_iff_not] at h
 refine T_draw 1000 [blk b t.cells 42] ?_
 refine T_dval 0 rfl (by kernel_rfl) (by kernel_rfl) (by kernel_rfl) (by kernel_rfl) (by kernel_rfl) rfl rfl (by first|exact Val.pure rfl|exact Val.vc rfl (fun hg=>by first|omega|(simp only [inK];omega)|exact True.intro|assumption)|exact Val.load rfl (fun _=>rdOwn1 rfl)|exact Val.loadA rfl (fun _=>rdAll) rfl) rfl rfl rfl (by first|exact Hle.refl _|exact Hle.none _|exact Hle.sub) ?_
 refine T_dval 2 rfl (by kernel_rfl) (by kernel_rfl) (by kernel_rfl) (by kernel_rfl) (by kernel_rfl) rfl rfl (by first|exact Val.pure rfl|exact Val.vc rfl (fun hg=>by first|omega|(simp only [inK];omega)|exact True.intro|assumption)|exact Val.load rfl (fun _=>rdOwn1 rfl)|exact Val.loadA rfl (fun _=>rdAll) rfl) rfl rfl rfl (by first|exact Hle.refl _|exact Hle.none _|exact Hle.sub) ?_
 refine T_dop 1 (by kernel_rfl) rfl (OpT.callV rfl rfl rfl rfl rfl (fun w hw=>hasRef15_spec t 2 (.inl rfl) (by omega) w) ⟨fun _=>(by first|exact Hle.refl _|exact Hle.none _),?_⟩)
 refine T_dop 3 (by kernel_rfl) rfl (OpT.callV rfl rfl rfl rfl rfl (fun w hw=>hasRef15_spec t 8 (.inr rfl) (by omega) w) ⟨fun _=>(by first|exact Hle.refl _|exact Hle.none _),?_⟩)
 refine T_dval 4 rfl (by kernel_rfl) (by kernel_rfl) (by kernel_rfl) (by kernel_rfl) (by kernel_rfl) rfl rfl (by first|exact Val.pure rfl|exact Val.vc rfl (fun hg=>by first|omega|(simp only [inK];omega)|exact True.intro|assumption)|exact Val.load rfl (fun _=>rdOwn1 rfl)|exact Val.loadA rfl (fun _=>rdAll) rfl) rfl rfl rfl (by first|exact Hle.refl _|exact Hle.none _|exact Hle.sub) ?_
 refine T_dval 5 rfl (by kernel_rfl) (by kernel_rfl) (by kernel_rfl) (by kernel_rfl) (by kernel_rfl) rfl rfl (by first|exact Val.pure rfl|exact Val.vc rfl (fun hg=>by first|omega|(simp only [inK];omega)|exact True.intro|assumption)|exact Val.load rfl (fun _=>rdOwn1 rfl)|exact Val.loadA rfl (fun _=>rdAll) rfl) rfl rfl rfl (by first|exact Hle.refl _|exact Hle.none _|exact Hle.sub) ?_
 refine T_dend (by kernel_rfl) ?_
 have e1:¬ (t.flags<0∨31<t.flags):=by omega
 repeat' (first|refine d1 ?_|refine dd ?_|(show ∀ _:Nat,T _ _ _ _ _;intro _))
 refine T_if rfl (fun h2=>?_) (fun h2=>?_)
 ·repeat' (first|refine d1 ?_|refine dd ?_|(show ∀ _:Nat,T _ _ _ _ _;intro _)|(show T _ (.code .ret::_) _ _ _;refine T_retV [] rfl (Hle.none _) ⟨?_,rfl⟩))
  unfold tokE;rw [if_neg e1,if_pos h2];rfl
 have e2:¬ ((hasN t.flags 2 && hasN t.flags 8)=true):=by rw [h2];simp
 show T _ [_,_,_,_] _ _ _
 refine T_cutAt 3 (fun _:Unit=>[(1, .pointer (some ⟨b,0,none⟩))]) (fun _=>[blk b t.cells 42]) (fun _=>formBad t=false) rfl ?_ ?_
 ·have done:formBad t=true→tokE t=11:=fun hb=>by unfold tokE;rw [if_neg e1,if_neg e2,if_pos hb]
  repeat' (first|refine d1 ?_|refine dd ?_|(show ∀ _:Nat,T _ _ _ _ _;intro _))
  refine T_if rfl (fun h3=>?_) (fun h3=>?_)
  ·repeat' (first|refine d1 ?_|refine dd ?_|(show T _ (.ops _ (_::_)::_) _ _ _;first|refine T_call rfl rfl rfl rfl rfl (fun w hw=>gappedRef_spec _ w) ?_|refine T_callC rfl rfl rfl rfl rfl rfl rfl (fun hg w hw=>gappedRef_spec _ w) ?_)|(show T _ (.run _ _ (_::_) _ _::_) _ _ _;first|refine rc rfl rfl rfl rfl rfl rfl rfl (fun w hw=>gappedRef_spec _ w) ?_|refine rcG rfl rfl rfl rfl rfl rfl rfl rfl rfl (fun hg w hw=>gappedRef_spec _ w) ?_)|(show ∀ _:Nat,T _ _ _ _ _;intro _))
   have hfb:formBad t=(!gappedB t.text || !decide (t.norm=t.text)):=by unfold formBad;rw [if_pos h3]
   refine T_if rfl (fun h4=>?_) (fun h4=>?_)
   ·repeat' (first|refine d1 ?_|refine dd ?_|(show ∀ _:Nat,T _ _ _ _ _;intro _)|(show T _ (.code .ret::_) _ _ _;refine T_retV [] rfl (Hle.none _) ⟨congrArg (Value.int .i64) (done (hfb.trans h4)).symm,rfl⟩))
   ·repeat' (first|refine d1 ?_|refine dd ?_|(show ∀ _:Nat,T _ _ _ _ _;intro _)|(show T _ _ _ _ _;refine T_meet () (hfb.trans h4) ⟨rfl,trivial⟩ (Hle.refl _)))
  ·have e3:¬ hasN t.flags 2=true:=by rw [h3];simp
   repeat' (first|refine d1 ?_|refine dd ?_|(show ∀ _:Nat,T _ _ _ _ _;intro _))
   refine T_if rfl (fun h4=>?_) (fun h4=>?_)
   ·repeat' (first|refine d1 ?_|refine dd ?_|(show T _ (.ops _ (_::_)::_) _ _ _;first|refine T_call rfl rfl rfl rfl rfl (fun w hw=>kindRef_spec _ w) ?_|refine T_callC rfl rfl rfl rfl rfl rfl rfl (fun hg w hw=>kindRef_spec _ w) ?_)|(show T _ (.run _ _ (_::_) _ _::_) _ _ _;first|refine rc rfl rfl rfl rfl rfl rfl rfl (fun w hw=>kindRef_spec _ w) ?_|refine rcG rfl rfl rfl rfl rfl rfl rfl rfl rfl (fun hg w hw=>kindRef_spec _ w) ?_)|(show ∀ _:Nat,T _ _ _ _ _;intro _))
    have hfb:formBad t=(!decide ((t.text.size:Int)=1) || (!decide (kAt t.text 0=5) && !decide (kAt t.text 0=4)) || !decide (t.norm=t.text)):=by unfold formBad;rw [if_neg e3,if_pos h4]
    refine T_if rfl (fun h5=>?_) (fun h5=>?_)
    ·repeat' (first|refine d1 ?_|refine dd ?_|(show ∀ _:Nat,T _ _ _ _ _;intro _)|(show T _ (.code .ret::_) _ _ _;refine T_retV [] rfl (Hle.none _) ⟨congrArg (Value.int .i64) (done (hfb.trans h5)).symm,rfl⟩))
    ·repeat' (first|refine d1 ?_|refine dd ?_|(show ∀ _:Nat,T _ _ _ _ _;intro _)|(show T _ _ _ _ _;refine T_meet () (hfb.trans h5) ⟨rfl,trivial⟩ (Hle.refl _)))
   ·have e4:¬ hasN t.flags 8=true:=by rw [h4];simp
    have hfb:formBad t=(!isWordB t.text || decide (t.norm=ByteArray.mk #[]) || decide ((64:Int)<t.norm.size) || !normB t.norm):=by unfold formBad;rw [if_neg e3,if_neg e4]
    repeat' (first|refine d1 ?_|refine dd ?_|(show T _ (.ops _ (_::_)::_) _ _ _;first|refine T_call rfl rfl rfl rfl rfl (fun w hw=>isWordRef_spec _ w) ?_|refine T_callC rfl rfl rfl rfl rfl rfl rfl (fun hg w hw=>isWordRef_spec _ w) ?_)|(show T _ (.run _ _ (_::_) _ _::_) _ _ _;first|refine rc rfl rfl rfl rfl rfl rfl rfl (fun w hw=>isWordRef_spec _ w) ?_|refine rcG rfl rfl rfl rfl rfl rfl rfl rfl rfl (fun hg w hw=>isWordRef_spec _ w) ?_)|(show ∀ _:Nat,T _ _ _ _ _;intro _))
    refine T_if rfl (fun h5=>?_) (fun h5=>?_)
    ·repeat' (first|refine d1 ?_|refine dd ?_|(show ∀ _:Nat,T _ _ _ _ _;intro _)|(show T _ (.code .ret::_) _ _ _;refine T_retV [] rfl (Hle.none _) ⟨congrArg (Value.int .i64) (done (hfb.trans ?_)).symm,rfl⟩))
     rw [show (!isWordB t.text || decide (t.norm=ByteArray.mk #[]) || decide ((64:Int)<t.norm.size))=true from h5];rfl
    have h6:t.norm.size≤64:=by
     simp only [Bool.or_eq_false_iff,decide_eq_false_iff_not] at h5
     have:=h5.2
     omega
    repeat' (first|refine d1 ?_|refine dd ?_|(show ∀ _:Nat,T _ _ _ _ _;intro _))
    refine T_loop (fun k:Nat=>[(1, .pointer (some ⟨b,0,none⟩)),(5, .int .i64 k)]) (fun _=>[blk b t.cells 42]) (fun k=>k≤t.norm.size∧∀ j,j<k→wordlyK (kAt t.norm j)=true) (fun k=>t.norm.size - k) 0 ⟨by omega,fun j h=>by omega⟩ ⟨rfl,rfl,trivial⟩ (Hle.refl _) ?_
    rintro k ⟨hk,hok⟩
    repeat' (first|refine d1 ?_|refine dd ?_|(show ∀ _:Nat,T _ _ _ _ _;intro _))
    refine T_if rfl (fun h7=>?_) (fun h7=>?_)
    ·simp only [decide_eq_true_eq] at h7
     repeat' (first|refine d1 ?_|refine dd ?_|(show T _ (.ops _ (_::_)::_) _ _ _;first|refine T_call rfl rfl rfl rfl rfl (fun w hw=>wordlyRef_spec _ w) ?_|refine T_callC rfl rfl rfl rfl rfl rfl rfl (fun hg w hw=>wordlyRef_spec _ w) ?_)|(show T _ (.run _ _ (_::_) _ _::_) _ _ _;first|refine rc rfl rfl rfl rfl rfl rfl rfl (fun w hw=>wordlyRef_spec _ w) ?_|refine rcG rfl rfl rfl rfl rfl rfl rfl rfl rfl (fun hg w hw=>wordlyRef_spec _ w) ?_)|(show ∀ _:Nat,T _ _ _ _ _;intro _))
     refine T_if rfl (fun h8=>?_) (fun h8=>?_)
     ·repeat' (first|refine d1 ?_|refine dd ?_|(show ∀ _:Nat,T _ _ _ _ _;intro _)|(show T _ (.code .ret::_) _ _ _;refine T_retV [] rfl (Hle.none _) ⟨congrArg (Value.int .i64) (done (hfb.trans ?_)).symm,rfl⟩))
      rw [Bool.not_eq_true'] at h8
      have:normB t.norm=false:=by
       unfold normB
       rw [decide_eq_false_iff_not]
       intro hh
       have h9:=hh k (by omega)
       unfold kAt at h9
       rw [h8] at h9;cases h9
      rw [this];simp
     ·rw [Bool.not_eq_false'] at h8
      repeat' (first|refine d1 ?_|refine dd ?_|(show ∀ _:Nat,T _ _ _ _ _;intro _))
      refine T_back (k+1) ⟨by omega,fun j hj=>?_⟩ (by omega) ⟨rfl,rfl,trivial⟩ (Hle.refl _)
      rcases Nat.lt_or_ge j k with h9|h9
      ·exact hok j h9
      ·rw [show j=k by omega];exact h8
    ·simp only [decide_eq_false_iff_not] at h7
     have h8:normB t.norm=true:=decide_eq_true (fun j hj=>hok j (by omega))
     repeat' (first|refine d1 ?_|refine dd ?_|(show ∀ _:Nat,T _ _ _ _ _;intro _)|(show T _ _ _ _ _;refine T_meet () (hfb.trans ?_) ⟨rfl,trivial⟩ (Hle.refl _)))
     rw [show (!isWordB t.text || decide (t.norm=ByteArray.mk #[]) || decide ((64:Int)<t.norm.size))=false from h5,h8];rfl
 ·rintro⟨⟩ hfb
  have e3:¬ formBad t=true:=by rw [hfb];simp
  repeat' (first|refine d1 ?_|refine dd ?_|(show ∀ _:Nat,T _ _ _ _ _;intro _))
  refine T_if rfl (fun h3=>?_) (fun h3=>?_)
  ·repeat' (first|refine d1 ?_|refine dd ?_|(show ∀ _:Nat,T _ _ _ _ _;intro _)|(show T _ (.code .ret::_) _ _ _;refine T_retV [] rfl (Hle.none _) ⟨?_,rfl⟩))
   simp only [decide_eq_true_eq] at h3
   unfold tokE;rw [if_neg e1,if_neg e2,if_neg e3,if_pos h3];rfl
  simp only [decide_eq_false_iff_not] at h3
  repeat' (first|refine d1 ?_|refine dd ?_|(show T _ (.ops _ (_::_)::_) _ _ _;first|refine T_call rfl rfl rfl rfl rfl (fun w hw=>namedRef_spec _ w) ?_|refine T_callC rfl rfl rfl rfl rfl rfl rfl (fun hg w hw=>namedRef_spec _ w) ?_)|(show T _ (.run _ _ (_::_) _ _::_) _ _ _;first|refine rc rfl rfl rfl rfl rfl rfl rfl (fun w hw=>namedRef_spec _ w) ?_|refine rcG rfl rfl rfl rfl rfl rfl rfl rfl rfl (fun hg w hw=>namedRef_spec _ w) ?_)|(show ∀ _:Nat,T _ _ _ _ _;intro _))
  refine T_if rfl (fun h4=>?_) (fun h4=>?_)
  ·repeat' (first|refine d1 ?_|refine dd ?_|(show ∀ _:Nat,T _ _ _ _ _;intro _)|(show T _ (.code .ret::_) _ _ _;refine T_retV [] rfl (Hle.none _) ⟨?_,rfl⟩))
   unfold tokE;rw [if_neg e1,if_neg e2,if_neg e3,if_neg h3,if_pos h4];rfl
  ·repeat' (first|refine d1 ?_|refine dd ?_|(show ∀ _:Nat,T _ _ _ _ _;intro _)|(show T _ (.code .ret::_) _ _ _;refine T_retV [] rfl (Hle.none _) ⟨?_,rfl⟩))
   unfold tokE;rw [if_neg e1,if_neg e2,if_neg e3,if_neg h3,if_neg (by rw [h4];simp)];rfl
end Go.Proofs.YtblnhdnogjijiaaGreatDoor
namespace Go.Proofs.YtblnhdnogjijiaaGreatDoor
open Go.RowKit Go.Shelf Go.Proofs
set_option maxRecDepth 100000
set_option maxHeartbeats 1000000

theorem indexByte_spec (s:ByteArray) (c:Int) (w:World):Spec Tryz.prog 249 [.string s, .int .u8 c] w (fun v A=>v = .int .i64 (Lib.indexByte s.data.toList c.toNat.toUInt8)∧A=[]) :=
 Calls.spec (enters_of rfl rfl rfl) (Tryz.strings_IndexByte s c w)

theorem kindPrg_spec (c:Int) (hc:0≤c∧c≤255) (w:World):Spec Tryz.prog 208 [.int .u8 c] w (fun v A=>v = .int .i64 (kindI c)∧A=[]):=by
 refine spec_of sg Tryz.func208 rfl rfl rfl ?_
 have hp:=punct_all c.toNat (by omega)
 repeat' (first|refine d1 ?_|refine dd ?_|(show T _ (.ops _ (_::_)::_) _ _ _;first|refine T_call rfl rfl rfl rfl rfl (fun w hw=>indexByte_spec _ _ w) ?_|refine T_callC rfl rfl rfl rfl rfl rfl rfl (fun hg w hw=>indexByte_spec _ _ w) ?_)|(show T _ (.run _ _ (_::_) _ _::_) _ _ _;first|refine rc rfl rfl rfl rfl rfl rfl rfl (fun w hw=>indexByte_spec _ _ w) ?_|refine rcG rfl rfl rfl rfl rfl rfl rfl rfl rfl (fun hg w hw=>indexByte_spec _ _ w) ?_)|(show ∀ _:Nat,T _ _ _ _ _;intro _)|(show T _ (.code (.cond _ _ _)::_) _ _ _;refine T_if rfl (fun h=>?_) (fun h=>?_))|(show T _ (.code .ret::_) _ _ _;refine T_retV [] rfl (Hle.refl _) ?_))
 all_goals refine ⟨congrArg (Value.int .i64) ?_,rfl⟩
 all_goals unfold punctL at hp
 all_goals simp only [Bool.or_eq_true,Bool.and_eq_true,decide_eq_true_eq,Bool.or_eq_false_iff,Bool.and_eq_false_iff,decide_eq_false_iff_not,Bool.not_eq_true',Bool.not_eq_false'] at *
 all_goals (generalize Lib.indexByte [46,44,59,58,33,63,40,41,45] c.toNat.toUInt8=q at *;unfold kindI;(repeat' split) <;> omega)
theorem byteAt_bd (s:ByteArray) (i:Int):0≤((byteAt s i).toNat:Int)∧((byteAt s i).toNat:Int)≤255:=by
 have:=(byteAt s i).toNat_lt
 omega

theorem lettersPrg_spec (s:ByteArray) (w:World) (hs:s.size≤9223372036854775807):Spec Tryz.prog 164 [.string s] w (fun v A=>v = .int .i64 (lettersN s.data.toList)∧A=[]):=by
 refine spec_of sg Tryz.func164 rfl rfl rfl ?_
 repeat' (first|refine d1 ?_|refine dd ?_|(show ∀ _:Nat,T _ _ _ _ _;intro _))
 refine T_loop (fun k:Nat=>[(0, .string s),(7, .int .i64 s.size),(3, .int .i64 (lettersN (s.data.toList.take k))),(8, .int .i64 k)]) (fun _=>[]) (fun k=>k≤s.size) (fun k=>s.size - k) 0 (by omega) ⟨rfl,rfl,rfl,rfl,trivial⟩ (Hle.refl _) ?_
 intro k hk
 repeat' (first|refine d1 ?_|refine dd ?_|(show ∀ _:Nat,T _ _ _ _ _;intro _))
 refine T_if rfl (fun h=>?_) (fun h=>?_)
 ·simp only [decide_eq_true_eq] at h
  have hl:=lettersN_le (s.data.toList.take k)
  have hl2:(s.data.toList.take k).length≤k:=by rw [List.length_take];omega
  have hst:=lettersN_take s k (by omega)
  repeat' (first|refine d1 ?_|refine dd ?_|(show T _ (.ops _ (_::_)::_) _ _ _;first|refine T_call rfl rfl rfl rfl rfl (fun w hw=>kindPrg_spec _ (byteAt_bd _ _) w) ?_|refine T_callC rfl rfl rfl rfl rfl rfl rfl (fun hg w hw=>kindPrg_spec _ (byteAt_bd _ _) w) ?_)|(show T _ (.run _ _ (_::_) _ _::_) _ _ _;first|refine rc rfl rfl rfl rfl rfl rfl rfl (fun w hw=>kindPrg_spec _ (byteAt_bd _ _) w) ?_|refine rcG rfl rfl rfl rfl rfl rfl rfl rfl rfl (fun hg w hw=>kindPrg_spec _ (byteAt_bd _ _) w) ?_)|(show ∀ _:Nat,T _ _ _ _ _;intro _)|(show T _ (.code (.cond _ _ _)::_) _ _ _;refine T_if rfl (fun h=>?_) (fun h=>?_))|(show T _ _ _ _ _;refine T_back (k+1) (by omega) (by omega) ⟨rfl,rfl,?_,rfl,trivial⟩ (Hle.refl _)))
  all_goals (refine congrArg (fun z:Int=>some (Value.int .i64 z)) ?_;simp only [Bool.or_eq_true,Bool.or_eq_false_iff,decide_eq_true_eq,decide_eq_false_iff_not] at h;rw [hst];unfold kAt;split <;> omega)
 ·simp only [decide_eq_false_iff_not] at h
  have hk2:k=s.size:=by omega
  subst hk2
  repeat' (first|refine d1 ?_|refine dd ?_|(show ∀ _:Nat,T _ _ _ _ _;intro _)|(show T _ (.code .ret::_) _ _ _;refine T_retV [] rfl (Hle.refl _) ⟨?_,rfl⟩))
  rw [List.take_of_length_le (by simp)]
  rfl
theorem isNamePrg_spec (s:ByteArray) (hs:s.size≤9223372036854775807) (w:World):Spec Tryz.prog 108 [.string s] w (fun v A=>v = .bool (isNameB s)∧A=[]):=by
 refine spec_of sg Tryz.func108 rfl rfl rfl ?_
 repeat' (first|refine d1 ?_|refine dd ?_|(show T _ (.ops _ (_::_)::_) _ _ _;first|refine T_call rfl rfl rfl rfl rfl (fun w hw=>lettersPrg_spec s w hs) ?_|refine T_callC rfl rfl rfl rfl rfl rfl rfl (fun hg w hw=>lettersPrg_spec s w hs) ?_)|(show T _ (.run _ _ (_::_) _ _::_) _ _ _;first|refine rc rfl rfl rfl rfl rfl rfl rfl (fun w hw=>lettersPrg_spec s w hs) ?_|refine rcG rfl rfl rfl rfl rfl rfl rfl rfl rfl (fun hg w hw=>lettersPrg_spec s w hs) ?_)|(show ∀ _:Nat,T _ _ _ _ _;intro _)|(show T _ (.code .ret::_) _ _ _;refine T_retV [] rfl (Hle.refl _) ⟨congrArg Value.bool ?_,rfl⟩))
 exact name_law s
theorem namedPrg_spec (s:ByteArray) (hs:s.size≤9223372036854775807) (w:World):Spec Tryz.prog 172 [.string s] w (fun v A=>v = .bool (namedB s)∧A=[]):=by
 refine spec_of sg Tryz.func172 rfl rfl rfl ?_
 repeat' (first|refine d1 ?_|refine dd ?_|(show T _ (.ops _ (_::_)::_) _ _ _;first|refine T_call rfl rfl rfl rfl rfl (fun w hw=>isNamePrg_spec s hs w) ?_|refine T_callC rfl rfl rfl rfl rfl rfl rfl (fun hg w hw=>isNamePrg_spec s hs w) ?_)|(show T _ (.run _ _ (_::_) _ _::_) _ _ _;first|refine rc rfl rfl rfl rfl rfl rfl rfl (fun w hw=>isNamePrg_spec s hs w) ?_|refine rcG rfl rfl rfl rfl rfl rfl rfl rfl rfl (fun hg w hw=>isNamePrg_spec s hs w) ?_)|(show ∀ _:Nat,T _ _ _ _ _;intro _)|(show T _ (.code .ret::_) _ _ _;refine T_retV [] rfl (Hle.refl _) ⟨rfl,rfl⟩))
theorem beginsPrg_spec (c:Int) (hc:0≤c∧c≤255) (w:World):Spec Tryz.prog 255 [.int .u8 c] w (fun v A=>v = .bool (beginsK (kindI c))∧A=[]):=by
 refine spec_of sg Tryz.func255 rfl rfl rfl ?_
 repeat' (first|refine d1 ?_|refine dd ?_|(show T _ (.ops _ (_::_)::_) _ _ _;first|refine T_call rfl rfl rfl rfl rfl (fun w hw=>kindPrg_spec c hc w) ?_|refine T_callC rfl rfl rfl rfl rfl rfl rfl (fun hg w hw=>kindPrg_spec c hc w) ?_)|(show T _ (.run _ _ (_::_) _ _::_) _ _ _;first|refine rc rfl rfl rfl rfl rfl rfl rfl (fun w hw=>kindPrg_spec c hc w) ?_|refine rcG rfl rfl rfl rfl rfl rfl rfl rfl rfl (fun hg w hw=>kindPrg_spec c hc w) ?_)|(show ∀ _:Nat,T _ _ _ _ _;intro _)|(show T _ (.code .ret::_) _ _ _;refine T_retV [] rfl (Hle.refl _) ⟨rfl,rfl⟩))
theorem innerPrg_spec (c:Int) (hc:0≤c∧c≤255) (w:World):Spec Tryz.prog 214 [.int .u8 c] w (fun v A=>v = .bool (wordlyK (kindI c))∧A=[]):=by
 refine spec_of sg Tryz.func214 rfl rfl rfl ?_
 repeat' (first|refine d1 ?_|refine dd ?_|(show T _ (.ops _ (_::_)::_) _ _ _;first|refine T_call rfl rfl rfl rfl rfl (fun w hw=>kindPrg_spec c hc w) ?_|refine T_callC rfl rfl rfl rfl rfl rfl rfl (fun hg w hw=>kindPrg_spec c hc w) ?_|refine T_call rfl rfl rfl rfl rfl (fun w hw=>beginsPrg_spec c hc w) ?_|refine T_callC rfl rfl rfl rfl rfl rfl rfl (fun hg w hw=>beginsPrg_spec c hc w) ?_)|(show T _ (.run _ _ (_::_) _ _::_) _ _ _;first|refine rc rfl rfl rfl rfl rfl rfl rfl (fun w hw=>kindPrg_spec c hc w) ?_|refine rcG rfl rfl rfl rfl rfl rfl rfl rfl rfl (fun hg w hw=>kindPrg_spec c hc w) ?_|refine rc rfl rfl rfl rfl rfl rfl rfl (fun w hw=>beginsPrg_spec c hc w) ?_|refine rcG rfl rfl rfl rfl rfl rfl rfl rfl rfl (fun hg w hw=>beginsPrg_spec c hc w) ?_)|(show ∀ _:Nat,T _ _ _ _ _;intro _)|(show T _ (.code .ret::_) _ _ _;refine T_retV [] rfl (Hle.refl _) ⟨congrArg Value.bool (inner_law (kindI c)),rfl⟩))
theorem markPrg_spec (s:ByteArray) (w:World):Spec Tryz.prog 169 [.string s] w (fun v A=>v = .bool (decide ((s.size:Int)=1) && (decide (kAt s 0=5) || decide (kAt s 0=4)))∧A=[]):=by
 refine spec_of sg Tryz.func169 rfl rfl rfl ?_
 repeat' (first|refine d1 ?_|refine dd ?_|(show ∀ _:Nat,T _ _ _ _ _;intro _))
 refine T_if rfl (fun h=>?_) (fun h=>?_)
 ·repeat' (first|refine d1 ?_|refine dd ?_|(show ∀ _:Nat,T _ _ _ _ _;intro _)|(show T _ (.code .ret::_) _ _ _;refine T_retV [] rfl (Hle.refl _) ⟨congrArg Value.bool ?_,rfl⟩))
  rw [Bool.not_eq_true'] at h
  rw [h];rfl
 ·rw [Bool.not_eq_false'] at h
  have h1:(s.size:Int)=1:=by simpa using h
  repeat' (first|refine d1 ?_|refine dd ?_|(show T _ (.ops _ (_::_)::_) _ _ _;first|refine T_call rfl rfl rfl rfl rfl (fun w hw=>kindPrg_spec _ (byteAt_bd _ _) w) ?_|refine T_callC rfl rfl rfl rfl rfl rfl rfl (fun hg w hw=>kindPrg_spec _ (byteAt_bd _ _) w) ?_)|(show T _ (.run _ _ (_::_) _ _::_) _ _ _;first|refine rc rfl rfl rfl rfl rfl rfl rfl (fun w hw=>kindPrg_spec _ (byteAt_bd _ _) w) ?_|refine rcG rfl rfl rfl rfl rfl rfl rfl rfl rfl (fun hg w hw=>kindPrg_spec _ (byteAt_bd _ _) w) ?_)|(show ∀ _:Nat,T _ _ _ _ _;intro _)|(show T _ (.code .ret::_) _ _ _;refine T_retV [] rfl (Hle.refl _) ⟨congrArg Value.bool ?_,rfl⟩))
  rw [h];rfl
theorem normPrg_spec (s:ByteArray) (hs:s.size≤9223372036854775807) (w:World):Spec Tryz.prog 171 [.string s] w (fun v A=>v = .bool (normB s && (!decide (s=ByteArray.mk #[]) && decide ((s.size:Int)≤64)))∧A=[]):=by
 refine spec_of sg Tryz.func171 rfl rfl rfl ?_
 repeat' (first|refine d1 ?_|refine dd ?_|(show ∀ _:Nat,T _ _ _ _ _;intro _))
 refine T_loop (fun k:Nat=>[(0, .string s),(5, .int .i64 s.size),(6, .int .i64 k)]) (fun _=>[]) (fun k=>k≤s.size∧∀ j,j<k→wordlyK (kAt s j)=true) (fun k=>s.size - k) 0 ⟨by omega,fun j h=>by omega⟩ ⟨rfl,rfl,rfl,trivial⟩ (Hle.refl _) ?_
 rintro k ⟨hk,hok⟩
 repeat' (first|refine d1 ?_|refine dd ?_|(show ∀ _:Nat,T _ _ _ _ _;intro _))
 refine T_if rfl (fun h=>?_) (fun h=>?_)
 ·simp only [decide_eq_true_eq] at h
  repeat' (first|refine d1 ?_|refine dd ?_|(show T _ (.ops _ (_::_)::_) _ _ _;first|refine T_call rfl rfl rfl rfl rfl (fun w hw=>innerPrg_spec _ (byteAt_bd _ _) w) ?_|refine T_callC rfl rfl rfl rfl rfl rfl rfl (fun hg w hw=>innerPrg_spec _ (byteAt_bd _ _) w) ?_)|(show T _ (.run _ _ (_::_) _ _::_) _ _ _;first|refine rc rfl rfl rfl rfl rfl rfl rfl (fun w hw=>innerPrg_spec _ (byteAt_bd _ _) w) ?_|refine rcG rfl rfl rfl rfl rfl rfl rfl rfl rfl (fun hg w hw=>innerPrg_spec _ (byteAt_bd _ _) w) ?_)|(show ∀ _:Nat,T _ _ _ _ _;intro _))
  refine T_if rfl (fun h8=>?_) (fun h8=>?_)
  ·repeat' (first|refine d1 ?_|refine dd ?_|(show ∀ _:Nat,T _ _ _ _ _;intro _)|(show T _ (.code .ret::_) _ _ _;refine T_retV [] rfl (Hle.refl _) ⟨congrArg Value.bool ?_,rfl⟩))
   rw [Bool.not_eq_true'] at h8
   have:normB s=false:=by
    unfold normB
    rw [decide_eq_false_iff_not]
    intro hh
    have h9:=hh k (by omega)
    unfold kAt at h9
    rw [h8] at h9;cases h9
   rw [this];rfl
  ·rw [Bool.not_eq_false'] at h8
   repeat' (first|refine d1 ?_|refine dd ?_|(show ∀ _:Nat,T _ _ _ _ _;intro _))
   refine T_back (k+1) ⟨by omega,fun j hj=>?_⟩ (by omega) ⟨rfl,rfl,rfl,trivial⟩ (Hle.refl _)
   rcases Nat.lt_or_ge j k with h9|h9
   ·exact hok j h9
   ·rw [show j=k by omega];exact h8
 ·simp only [decide_eq_false_iff_not] at h
  have h8:normB s=true:=decide_eq_true (fun j hj=>hok j (by omega))
  repeat' (first|refine d1 ?_|refine dd ?_|(show ∀ _:Nat,T _ _ _ _ _;intro _)|(show T _ (.code .ret::_) _ _ _;refine T_retV [] rfl (Hle.refl _) ⟨congrArg Value.bool ?_,rfl⟩))
  rw [h8];rfl
theorem isWordTok_spec (t:Tok) (h0:0≤t.flags∧t.flags≤31) (w:World):Spec Tryz.prog 170 [t.val] w (fun v A=>v = .bool (!hasN t.flags 2 && !hasN t.flags 8)∧A=[]):=by
 refine spec_of sg Tryz.func170 rfl rfl rfl ?_
 repeat' (first|(show T _ (.ops _ (⟨_, .box _ _,_,_,_,_⟩::_)::_) _ _ _;refine T_op (OpT.box (cs:=t.cells) rfl rfl rfl rfl rfl rfl rfl (fun _=>?_)))|refine d1 ?_|refine dd ?_|(show ∀ _:Nat,T _ _ _ _ _;intro _)|(show T _ (.code .ret::_) _ _ _;refine T_retV [] rfl (Hle.none _) ⟨congrArg Value.bool ?_,rfl⟩))
 exact (flags_law t.flags h0).2.2
theorem rightPrg_spec (s:ByteArray) (f i:Int) (hf:0≤f∧f<s.size) (w:World):Spec Tryz.prog 276 [.string s, .int .i64 f, .int .i64 i] w (fun v A=>v = .bool (decide (kindI (byteAt s f).toNat=1) && decide (f<i))∧A=[]):=by
 refine spec_of sg Tryz.func276 rfl rfl rfl ?_
 repeat' (first|refine d1 ?_|refine dd ?_|(show T _ (.ops _ (_::_)::_) _ _ _;first|refine T_call rfl rfl rfl rfl rfl (fun w hw=>kindPrg_spec _ (byteAt_bd _ _) w) ?_|refine T_callC rfl rfl rfl rfl rfl rfl rfl (fun hg w hw=>kindPrg_spec _ (byteAt_bd _ _) w) ?_)|(show T _ (.run _ _ (_::_) _ _::_) _ _ _;first|refine rc rfl rfl rfl rfl rfl rfl rfl (fun w hw=>kindPrg_spec _ (byteAt_bd _ _) w) ?_|refine rcG rfl rfl rfl rfl rfl rfl rfl rfl rfl (fun hg w hw=>kindPrg_spec _ (byteAt_bd _ _) w) ?_)|(show ∀ _:Nat,T _ _ _ _ _;intro _)|(show T _ (.code .ret::_) _ _ _;refine T_retV [] rfl (Hle.refl _) ⟨rfl,rfl⟩))

def Std (w : World) : Prop := ∃ tp p tq q, w.var? Tryz.prog "strconv.ErrSyntax" = some #[.iface tp p] ∧ w.var? Tryz.prog "strconv.ErrRange" = some #[.iface tq q]
theorem var_below {P:Program} {w w':World} {n:String} {cs:Array Value} (hb:Below w.heap.size w w') (h:w.var? P n=some cs):w'.var? P n=some cs:=by
 unfold World.var? at h ⊢
 cases hg:P.globalNamed n with
 | none=>rw [hg] at h;cases h
 | some g =>
  rw [hg] at h
  simp only [Option.bind_some] at h ⊢
  cases ho:w.heap[g]? with
  | none=>rw [ho] at h;cases h
  | some o =>
   rw [hb.block g (lt_of_heap ho)]
   exact h
theorem Std.below {w w':World} (h:Std w) (hb:Below w.heap.size w w'):Std w':=by
 obtain⟨tp,p,tq,q,h1,h2⟩:=h
 exact⟨tp,p,tq,q,var_below hb h1,var_below hb h2⟩
theorem Std.cls {w0 w:World} {H:List HA} (h:Std w0) (hw:Cls w0 w H):Std w:=h.below hw.below
theorem atoi_spec (s:ByteArray) (hs:s.size≤281474976710656) (w:World) (hw:Std w):Spec Tryz.prog 213 [.string s] w (fun v A =>
  (∃ n,Lib.atoiAll s.data.toList = .ok n∧v = .tuple #[.int .i64 n, .nilIface])∧A=[]∨(∀ n,Lib.atoiAll s.data.toList ≠ .ok n)∧(∃ n tp p,v = .tuple #[.int .i64 n, .iface tp p])∧A=[]):=by
 refine ⟨enters_of rfl rfl rfl,?_⟩
 obtain⟨tp,p,tq,q,h1,h2⟩:=hw
 cases h:Lib.atoiAll s.data.toList
 ·rename_i n
  refine (Tryz.strconv_Atoi_ok s (by omega) n h w).mono ?_
  rintro e w' ⟨rfl,hw'⟩
  refine ⟨_,[],rfl, .inl ⟨⟨n,rfl,rfl⟩,rfl⟩,?_,Sep.nil _ _⟩
  rcases hw' with rfl|⟨t,rfl⟩
  ·exact Below.refl _ _
  ·exact Lib.bytesWorld_below _ _ _
 ·refine (Tryz.strconv_Atoi_syntax_var s hs h tp p w h1).mono ?_
  rintro e w' ⟨N,rfl,_,_,hb⟩
  exact⟨_,[],rfl, .inr ⟨fun n hn=>(by cases hn),⟨_,_,_,rfl⟩,rfl⟩,hb,Sep.nil _ _⟩
 ·refine (Tryz.strconv_Atoi_range_var s hs h tq q w h2).mono ?_
  rintro e w' ⟨N,rfl,_,_,hb⟩
  exact⟨_,[],rfl, .inr ⟨fun n hn=>(by cases hn),⟨_,_,_,rfl⟩,rfl⟩,hb,Sep.nil _ _⟩
end Go.Proofs.YtblnhdnogjijiaaGreatDoor
namespace Go.Proofs.YtblnhdnogjijiaaGreatDoor
open Go.RowKit Go.Shelf Go.Proofs
set_option maxRecDepth 100000
set_option maxHeartbeats 1000000

theorem itoa_spec' (n:Int) (h:1≤n∧n≤64) (w:World):Spec Tryz.prog 189 [.int .i64 n] w (fun v A=>v = .string ⟨(Lib.decDigits n.toNat).toArray⟩∧A=[]):=by
 have:=itoa_spec n.toNat (by omega) w
 rwa [Int.toNat_of_nonneg (by omega)] at this
theorem gapPrg_spec (s:ByteArray) (hs:s.size≤65536) (w:World) (hw:Std w):Spec Tryz.prog 168 [.string s] w (fun v A=>v = .bool (gappedB s)∧A=[]):=by
 refine spec_of sg Tryz.func168 rfl rfl rfl ?_
 repeat' (first|refine d1 ?_|refine dd ?_|(show ∀ _:Nat,T _ _ _ _ _;intro _))
 refine T_if rfl (fun h=>?_) (fun h=>?_)
 ·repeat' (first|refine d1 ?_|refine dd ?_|(show ∀ _:Nat,T _ _ _ _ _;intro _)|(show T _ (.code .ret::_) _ _ _;refine T_retV [] rfl (Hle.refl _) ⟨congrArg Value.bool ?_,rfl⟩))
  cases hg:gappedB s with
  | false=>rfl
  | true =>
   obtain⟨h1,h2,h3⟩:=gap_frame hg
   simp only [Bool.or_eq_true,decide_eq_true_eq,Bool.not_eq_true',decide_eq_false_iff_not] at h
   omega
 simp only [Bool.or_eq_false_iff,decide_eq_false_iff_not,Bool.not_eq_false',decide_eq_true_eq] at h
 have hsz:(s.extract (1:Int).toNat ((s.size:Int) - 1).toNat).size≤65536:=by
  rw [ByteArray.size_extract];omega
 have hin:s.extract (1:Int).toNat ((s.size:Int) - 1).toNat=gapInner s:=by
  unfold gapInner
  congr 1
  omega
 repeat' (first|refine d1 ?_|refine dd ?_|(show ∀ _:Nat,T _ _ _ _ _;intro _))
 rw [hin] at hsz ⊢
 refine T_op (OpT.call rfl rfl rfl rfl rfl (fun w hc=>atoi_spec (gapInner s) (by omega) w (hw.cls hc)) ?_)
 rintro v A (⟨⟨n,hn,rfl⟩,rfl⟩|⟨hn,⟨n,tp,p,rfl⟩,rfl⟩)
 ·have hlaw:=gap_ok hn
  have hd:=decDigits_len n.toNat
  repeat' (first|refine d1 ?_|refine dd ?_|(show T _ (.ops _ (_::_)::_) _ _ _;first|refine T_val rfl (Val.nilq rfl) rfl rfl rfl ?_|refine T_call rfl rfl rfl rfl rfl (fun w hw=>itoa_spec' n (by ((simp only [List.cons_append,List.nil_append,GP,dstL,lookE,Nat.beq,cond,List.getElem?_cons_zero,List.getElem?_cons_succ,Option.bind_some,and_true,Bool.and_eq_true,Bool.or_eq_true,Bool.and_eq_false_iff,Bool.or_eq_false_iff,Bool.not_eq_true',Bool.not_eq_false',decide_eq_true_eq,decide_eq_false_iff_not] at hg);omega)) w) ?_|refine T_callC rfl rfl rfl rfl rfl rfl rfl (fun hg w hw=>itoa_spec' n (by ((simp only [List.cons_append,List.nil_append,GP,dstL,lookE,Nat.beq,cond,List.getElem?_cons_zero,List.getElem?_cons_succ,Option.bind_some,and_true,Bool.and_eq_true,Bool.or_eq_true,Bool.and_eq_false_iff,Bool.or_eq_false_iff,Bool.not_eq_true',Bool.not_eq_false',decide_eq_true_eq,decide_eq_false_iff_not] at hg);omega)) w) ?_|refine T_vcC rfl rfl rfl rfl rfl rfl rfl (fun hg=>by ((simp only [List.cons_append,List.nil_append,GP,dstL,lookE,Nat.beq,cond,List.getElem?_cons_zero,List.getElem?_cons_succ,Option.bind_some,and_true,Bool.and_eq_true,Bool.or_eq_true,Bool.and_eq_false_iff,Bool.or_eq_false_iff,Bool.not_eq_true',Bool.not_eq_false',decide_eq_true_eq,decide_eq_false_iff_not] at hg);simp [ByteArray.size];omega)) ?_)|(show T _ (.run _ _ (_::_) _ _::_) _ _ _;first|refine rc rfl rfl rfl rfl rfl rfl rfl (fun w hw=>itoa_spec' n (by ((simp only [List.cons_append,List.nil_append,GP,dstL,lookE,Nat.beq,cond,List.getElem?_cons_zero,List.getElem?_cons_succ,Option.bind_some,and_true,Bool.and_eq_true,Bool.or_eq_true,Bool.and_eq_false_iff,Bool.or_eq_false_iff,Bool.not_eq_true',Bool.not_eq_false',decide_eq_true_eq,decide_eq_false_iff_not] at hg);omega)) w) ?_|refine rcG rfl rfl rfl rfl rfl rfl rfl rfl rfl (fun hg w hw=>itoa_spec' n (by ((simp only [List.cons_append,List.nil_append,GP,dstL,lookE,Nat.beq,cond,List.getElem?_cons_zero,List.getElem?_cons_succ,Option.bind_some,and_true,Bool.and_eq_true,Bool.or_eq_true,Bool.and_eq_false_iff,Bool.or_eq_false_iff,Bool.not_eq_true',Bool.not_eq_false',decide_eq_true_eq,decide_eq_false_iff_not] at hg);omega)) w) ?_)|(show ∀ _:Nat,T _ _ _ _ _;intro _)|(show T _ (.code .ret::_) _ _ _;refine T_retV [] rfl (Hle.none _) ⟨congrArg Value.bool ?_,rfl⟩))
  rw [← hlaw,Bool.true_and];rfl
 ·have hlaw:=gap_no hn
  have hd:=decDigits_len n.toNat
  repeat' (first|refine d1 ?_|refine dd ?_|(show T _ (.ops _ (_::_)::_) _ _ _;first|refine T_val rfl (Val.nilq rfl) rfl rfl rfl ?_|refine T_call rfl rfl rfl rfl rfl (fun w hw=>itoa_spec' n (by ((simp only [List.cons_append,List.nil_append,GP,dstL,lookE,Nat.beq,cond,List.getElem?_cons_zero,List.getElem?_cons_succ,Option.bind_some,and_true,Bool.and_eq_true,Bool.or_eq_true,Bool.and_eq_false_iff,Bool.or_eq_false_iff,Bool.not_eq_true',Bool.not_eq_false',decide_eq_true_eq,decide_eq_false_iff_not] at hg);omega)) w) ?_|refine T_callC rfl rfl rfl rfl rfl rfl rfl (fun hg w hw=>itoa_spec' n (by ((simp only [List.cons_append,List.nil_append,GP,dstL,lookE,Nat.beq,cond,List.getElem?_cons_zero,List.getElem?_cons_succ,Option.bind_some,and_true,Bool.and_eq_true,Bool.or_eq_true,Bool.and_eq_false_iff,Bool.or_eq_false_iff,Bool.not_eq_true',Bool.not_eq_false',decide_eq_true_eq,decide_eq_false_iff_not] at hg);omega)) w) ?_|refine T_vcC rfl rfl rfl rfl rfl rfl rfl (fun hg=>by ((simp only [List.cons_append,List.nil_append,GP,dstL,lookE,Nat.beq,cond,List.getElem?_cons_zero,List.getElem?_cons_succ,Option.bind_some,and_true,Bool.and_eq_true,Bool.or_eq_true,Bool.and_eq_false_iff,Bool.or_eq_false_iff,Bool.not_eq_true',Bool.not_eq_false',decide_eq_true_eq,decide_eq_false_iff_not] at hg);simp [ByteArray.size];omega)) ?_)|(show T _ (.run _ _ (_::_) _ _::_) _ _ _;first|refine rc rfl rfl rfl rfl rfl rfl rfl (fun w hw=>itoa_spec' n (by ((simp only [List.cons_append,List.nil_append,GP,dstL,lookE,Nat.beq,cond,List.getElem?_cons_zero,List.getElem?_cons_succ,Option.bind_some,and_true,Bool.and_eq_true,Bool.or_eq_true,Bool.and_eq_false_iff,Bool.or_eq_false_iff,Bool.not_eq_true',Bool.not_eq_false',decide_eq_true_eq,decide_eq_false_iff_not] at hg);omega)) w) ?_|refine rcG rfl rfl rfl rfl rfl rfl rfl rfl rfl (fun hg w hw=>itoa_spec' n (by ((simp only [List.cons_append,List.nil_append,GP,dstL,lookE,Nat.beq,cond,List.getElem?_cons_zero,List.getElem?_cons_succ,Option.bind_some,and_true,Bool.and_eq_true,Bool.or_eq_true,Bool.and_eq_false_iff,Bool.or_eq_false_iff,Bool.not_eq_true',Bool.not_eq_false',decide_eq_true_eq,decide_eq_false_iff_not] at hg);omega)) w) ?_)|(show ∀ _:Nat,T _ _ _ _ _;intro _)|(show T _ (.code .ret::_) _ _ _;refine T_retV [] rfl (Hle.none _) ⟨congrArg Value.bool ?_,rfl⟩))
  rw [hlaw,Bool.false_and,Bool.false_and];rfl

theorem clusters_spec (s:ByteArray) (w:World):Spec Tryz.prog 251 [.string s] w (fun v A=>∃ b:Nat,True∧v = .func (.func 275) #[] #[.pointer (some ⟨b,0,none⟩)]∧A=[blk b [.string s] 9]):=by
 refine spec_of sg Tryz.func251 rfl rfl rfl ?_
 repeat' (first|(show T _ (.ops _ (⟨_, .box _ _,_,_,_,_⟩::_)::_) _ _ _;refine T_op (OpT.box (cs:=[.string s]) rfl rfl rfl rfl rfl rfl rfl (fun _=>?_)))|refine d1 ?_|refine dd ?_|(show ∀ _:Nat,T _ _ _ _ _;intro _)|(show T _ (.code .ret::_) _ _ _;refine T_retV _ rfl (Hle.refl _) ⟨_,trivial,rfl,rfl⟩))
theorem clusters_iter (s:ByteArray) (b:Nat) (hs:s.size≤65536):Iter Tryz.prog 275 [] [.pointer (some ⟨b,0,none⟩)] [blk b [.string s] 9] (clusterVs s):=by
 refine iter_of sg Tryz.func275 rfl rfl rfl ?_
 intro w0 l GQ X Hj hY h0
 show T _ _ _ _ (blk b [.string s] 9::Hj)
 repeat' (first|refine d1 ?_|refine dd ?_|(show ∀ _:Nat,T _ _ _ _ _;intro _))
 refine T_loop (fun x:Nat × List HA=>[(0,yv l),(1, .pointer (some ⟨b,0,none⟩)),(3, .int .i64 ((stp s x.1).1:Nat)),(4, .int .i64 ((x.1:Int)+1))]) (fun x=>blk b [.string s] 9::x.2) (fun x=>x.1≤s.size∧GQ (stp s x.1).2.length x.2) (fun x=>s.size - x.1) (0,Hj) ⟨Nat.zero_le _,h0⟩ ⟨rfl,rfl,rfl,rfl,trivial⟩ (Hle.refl _) ?_
 rintro⟨m,H'⟩ ⟨hm,hG⟩
 have hle:=stp_le s m
 dsimp only at hm hG ⊢
 repeat' (first|refine d1 ?_|refine dd ?_|(show ∀ _:Nat,T _ _ _ _ _;intro _))
 refine T_if rfl (fun h=>?_) (fun h=>?_)
 ·simp only [decide_eq_true_eq] at h
  repeat' (first|refine d1 ?_|refine dd ?_|(show T _ (.ops _ (_::_)::_) _ _ _;first|refine T_call rfl rfl rfl rfl rfl (fun w hw=>kindPrg_spec _ (byteAt_bd _ _) w) ?_|refine T_callC rfl rfl rfl rfl rfl rfl rfl (fun hg w hw=>kindPrg_spec _ (byteAt_bd _ _) w) ?_|refine T_call rfl rfl rfl rfl rfl (fun w hw=>rightPrg_spec _ _ _ (by ((simp only [List.cons_append,List.nil_append,GP,dstL,lookE,Nat.beq,cond,List.getElem?_cons_zero,List.getElem?_cons_succ,Option.bind_some,and_true,Bool.and_eq_true,Bool.or_eq_true,Bool.and_eq_false_iff,Bool.or_eq_false_iff,Bool.not_eq_true',Bool.not_eq_false',decide_eq_true_eq,decide_eq_false_iff_not] at hg);omega)) w) ?_|refine T_callC rfl rfl rfl rfl rfl rfl rfl (fun hg w hw=>rightPrg_spec _ _ _ (by ((simp only [List.cons_append,List.nil_append,GP,dstL,lookE,Nat.beq,cond,List.getElem?_cons_zero,List.getElem?_cons_succ,Option.bind_some,and_true,Bool.and_eq_true,Bool.or_eq_true,Bool.and_eq_false_iff,Bool.or_eq_false_iff,Bool.not_eq_true',Bool.not_eq_false',decide_eq_true_eq,decide_eq_false_iff_not] at hg);omega)) w) ?_)|(show T _ (.run _ _ (_::_) _ _::_) _ _ _;first|refine rc rfl rfl rfl rfl rfl rfl rfl (fun w hw=>kindPrg_spec _ (byteAt_bd _ _) w) ?_|refine rcG rfl rfl rfl rfl rfl rfl rfl rfl rfl (fun hg w hw=>kindPrg_spec _ (byteAt_bd _ _) w) ?_|refine rc rfl rfl rfl rfl rfl rfl rfl (fun w hw=>rightPrg_spec _ _ _ (by ((simp only [List.cons_append,List.nil_append,GP,dstL,lookE,Nat.beq,cond,List.getElem?_cons_zero,List.getElem?_cons_succ,Option.bind_some,and_true,Bool.and_eq_true,Bool.or_eq_true,Bool.and_eq_false_iff,Bool.or_eq_false_iff,Bool.not_eq_true',Bool.not_eq_false',decide_eq_true_eq,decide_eq_false_iff_not] at hg);omega)) w) ?_|refine rcG rfl rfl rfl rfl rfl rfl rfl rfl rfl (fun hg w hw=>rightPrg_spec _ _ _ (by ((simp only [List.cons_append,List.nil_append,GP,dstL,lookE,Nat.beq,cond,List.getElem?_cons_zero,List.getElem?_cons_succ,Option.bind_some,and_true,Bool.and_eq_true,Bool.or_eq_true,Bool.and_eq_false_iff,Bool.or_eq_false_iff,Bool.not_eq_true',Bool.not_eq_false',decide_eq_true_eq,decide_eq_false_iff_not] at hg);omega)) w) ?_)|(show ∀ _:Nat,T _ _ _ _ _;intro _))
  refine T_if rfl (fun h1=>?_) (fun h1=>?_)
  ·simp only [Bool.and_eq_true,decide_eq_true_eq] at h1
   have hst:=stp_same s m ⟨by omega,h1.1.2,h1.2.1,by omega⟩
   repeat' (first|refine d1 ?_|refine dd ?_|(show ∀ _:Nat,T _ _ _ _ _;intro _))
   refine T_back (m+1,H') ⟨by dsimp only;omega,by dsimp only;rw [hst];exact hG⟩ (by dsimp only;omega) ⟨rfl,rfl,?_,rfl,trivial⟩ (Hle.refl _)
   dsimp only
   rw [hst];rfl
  ·have hno:¬ (m+1<s.size∧kAt s (m+1)=2∧kAt s (stp s m).1=1∧(stp s m).1<m+1):=by
    rintro⟨g1,g2,g3,g4⟩
    have:(decide ((m:Int)+1<s.size) && decide (kAt s (m+1)=2) && (decide (kAt s (stp s m).1=1) && decide (((stp s m).1:Int)<(m:Int)+1)))=true:=by
     simp only [Bool.and_eq_true,decide_eq_true_eq]
     exact⟨⟨by omega,g2⟩,g3,by omega⟩
    exact absurd (this.symm.trans h1) (by simp)
   obtain⟨hy,hst⟩:=stp_yield s m (by omega) hno
   repeat' (first|refine d1 ?_|refine dd ?_|(show ∀ _:Nat,T _ _ _ _ _;intro _))
   refine T_yield (K:=[blk b [.string s] 9]) hY rfl rfl rfl rfl hy hG (Hle.comm [_] H') (fun J=>Hle.comm J [_]) (fun H2 hG2=>?_) (fun Y hX=>?_)
   ·show T _ _ _ _ (blk b [.string s] 9::H2)
    repeat' (first|refine d1 ?_|refine dd ?_|(show ∀ _:Nat,T _ _ _ _ _;intro _)|(show T _ (.code (.cond _ _ _)::_) _ _ _;refine T_if rfl (fun h=>?_) (fun h=>?_)))
    ·exact absurd h (by decide)
    ·refine T_back (m+1,H2) ⟨by dsimp only;omega,?_⟩ (by dsimp only;omega) ⟨rfl,rfl,?_,rfl,trivial⟩ (Hle.refl _)
     ·dsimp only
      rw [hst]
      simpa using hG2
     ·dsimp only
      rw [hst];rfl
   ·show T _ _ _ _ (blk b [.string s] 9::Y)
    repeat' (first|refine d1 ?_|refine dd ?_|(show ∀ _:Nat,T _ _ _ _ _;intro _)|(show T _ (.code (.cond _ _ _)::_) _ _ _;refine T_if rfl (fun h=>?_) (fun h=>?_))|(show T _ (.code .ret::_) _ _ _;refine T_istop rfl Y hX (Hle.refl _)))
    exact absurd h (by decide)
 ·simp only [decide_eq_false_iff_not] at h
  have hm2:m=s.size:=by omega
  subst hm2
  have hlen:(clusterVs s).length=(stp s s.size).2.length:=by simp [clusterVs]
  repeat' (first|refine d1 ?_|refine dd ?_|(show ∀ _:Nat,T _ _ _ _ _;intro _))
  refine T_ifall rfl H' ?_ (Hle.refl _)
  rw [hlen];exact hG

theorem checkPrg_spec (s:ByteArray) (w:World):Spec Tryz.prog 210 [.string s] w (fun v A=>v = .int .i64 (checkS s)∧A=[]):=by
 refine spec_of sg Tryz.func210 rfl rfl rfl ?_
 repeat' (first|refine d1 ?_|refine dd ?_|(show ∀ _:Nat,T _ _ _ _ _;intro _))
 rename_i b
 refine T_if rfl (fun h=>?_) (fun h=>?_)
 ·simp only [decide_eq_true_eq] at h
  repeat' (first|refine d1 ?_|refine dd ?_|(show ∀ _:Nat,T _ _ _ _ _;intro _)|(show T _ (.code .ret::_) _ _ _;refine T_retM (vs:=[.int .i64 4]) [] ⟨⟨b,_,[.int .i64 4],rfl,rfl,rfl,rfl,fun _=>rfl,rfl,rdOwn1 rfl⟩,trivial⟩ (Hle.none _) ⟨?_,rfl⟩))
  unfold checkS;rw [if_pos h];rfl
 simp only [decide_eq_false_iff_not] at h
 repeat' (first|refine d1 ?_|refine dd ?_|(show T _ (.ops _ (_::_)::_) _ _ _;refine T_callE rfl rfl rfl rfl rfl (fun w _=>clusters_spec s w) (fun x _=>?_))|(show ∀ _:Nat,T _ _ _ _ _;intro _))
 have hps:∀ (j:Nat) (y:List Value),(clusterVs s)[j]?=some y→∃ p,(stp s s.size).2[j]?=some p∧y=clusterV s p:=by
  intro j y hy
  unfold clusterVs at hy
  rw [List.getElem?_map] at hy
  cases hp:(stp s s.size).2[j]? with
  | none=>rw [hp] at hy;cases hy
  | some p=>rw [hp] at hy;exact⟨p,rfl,(Option.some.inj hy).symm⟩
 refine T_range (clusters_iter s x (by omega)) rfl (fun j y hy=>by obtain⟨p,_,rfl⟩:=hps j y hy;exact⟨rfl,rfl⟩)
  (fun j H=>H=[blk b [.int .i64 0] 33]∧∀ i p,i<j→(stp s s.size).2[i]?=some p→firstOk s p.1) (fun H=>H=[blk b [.int .i64 11] 33]∧okAll s=false) (fun _ _=>False)
  [blk b [.int .i64 0] 33] ⟨rfl,fun i p h=>by omega⟩ (Hle.refl _) ?_ ?_ ?_ (fun _ _ _ h=>h.elim)
 ·rintro L r j y Hj K hr hy ⟨rfl,hG⟩
  obtain⟨p,hp,rfl⟩:=hps j y hy
  have hb:=stp_bounds s s.size p (List.mem_of_getElem? hp)
  have hk:kindI ((byteAt (s.extract p.1 p.2) 0).toNat:Int)=kAt s p.1:=by rw [byteAt_extract s _ _ hb.1 hb.2];rfl
  have hsz:(s.extract p.1 p.2).size=p.2 - p.1:=by rw [ByteArray.size_extract];omega
  show T _ _ ((12, .string (s.extract p.1 p.2))::(11, .int .i64 (p.1:Nat))::_) _ (lrec L r::blk b [.int .i64 0] 33::K)
  repeat' (first|refine d1 ?_|refine dd ?_|(show ∀ _:Nat,T _ _ _ _ _;intro _)|(show T _ _ _ _ _;refine T_begin hr rfl ?_))
  repeat' (first|refine d1 ?_|refine dd ?_|(show T _ (.ops _ (_::_)::_) _ _ _;first|refine T_call rfl rfl rfl rfl rfl (fun w hw=>kindPrg_spec _ (byteAt_bd _ _) w) ?_|refine T_callC rfl rfl rfl rfl rfl rfl rfl (fun hg w hw=>kindPrg_spec _ (byteAt_bd _ _) w) ?_)|(show T _ (.run _ _ (_::_) _ _::_) _ _ _;first|refine rc rfl rfl rfl rfl rfl rfl rfl (fun w hw=>kindPrg_spec _ (byteAt_bd _ _) w) ?_|refine rcG rfl rfl rfl rfl rfl rfl rfl rfl rfl (fun hg w hw=>kindPrg_spec _ (byteAt_bd _ _) w) ?_)|(show ∀ _:Nat,T _ _ _ _ _;intro _))
  rw [hk]
  refine T_if rfl (fun h1=>?_) (fun h1=>?_)
  ·simp only [Bool.or_eq_true,decide_eq_true_eq] at h1
   repeat' (first|refine d1 ?_|refine dd ?_|(show ∀ _:Nat,T _ _ _ _ _;intro _)|(show T _ (.code .ret::_) _ _ _;refine T_rret _ ⟨rfl,?_⟩ (Hle.refl _)))
   cases ho:okAll s with
   | false=>rfl
   | true =>
    have:=(clusters_law s).2 ho p (List.mem_of_getElem? hp)
    unfold firstOk at this
    omega
  ·simp only [Bool.or_eq_false_iff,decide_eq_false_iff_not] at h1
   repeat' (first|refine d1 ?_|refine dd ?_|(show ∀ _:Nat,T _ _ _ _ _;intro _)|(show T _ _ _ _ _;refine T_next _ ⟨rfl,?_⟩ (Hle.refl _)))
   intro i q hi hq
   rcases Nat.lt_or_ge i j with h2|h2
   ·exact hG i q h2 hq
   ·rw [show i=j by omega,hp] at hq
    cases hq
    exact h1
 ·rintro D Hn ⟨rfl,hG⟩
  show T _ _ _ _ (dfr D::blk x [.string s] 9::blk b [.int .i64 0] 33::[])
  repeat' (first|refine d1 ?_|refine dd ?_|(show ∀ _:Nat,T _ _ _ _ _;intro _)|(show T _ (.code .ret::_) _ _ _;refine T_retD (Hle.refl _) (rf_M (ds:=[]) (vs:=[.int .i64 0]) [] ⟨⟨b,_,[.int .i64 0],rfl,rfl,rfl,rfl,fun _=>rfl,rfl,rdOwn1 rfl⟩,trivial⟩ (Hle.none _) ⟨?_,rfl⟩)))
  have:okAll s=true:=(clusters_law s).1 (fun p hp=>by
   obtain⟨i,hi,e⟩:=List.getElem_of_mem hp
   refine hG i p (by simpa [clusterVs] using hi) ?_
   rw [List.getElem?_eq_getElem hi,e])
  unfold checkS;rw [if_neg h,this];rfl
 ·rintro D Hx ⟨rfl,ho⟩
  show T _ _ _ _ (dfr D::blk x [.string s] 9::blk b [.int .i64 11] 33::[])
  refine T_retD (Hle.refl _) (rf_M (ds:=[]) (vs:=[.int .i64 11]) [] ⟨⟨b,_,[.int .i64 11],rfl,rfl,rfl,rfl,fun _=>rfl,rfl,rdOwn1 rfl⟩,trivial⟩ (Hle.none _) ⟨?_,rfl⟩)
  unfold checkS;rw [if_neg h,ho];rfl
end Go.Proofs.YtblnhdnogjijiaaGreatDoor
namespace Go.Proofs.YtblnhdnogjijiaaGreatDoor
open Go.RowKit Go.Shelf Go.Proofs
set_option maxRecDepth 100000
set_option maxHeartbeats 1000000

theorem indexFuncB_spec (A:Option Addr) (n c:Nat) (l:List UInt8) (f:FuncId) (fs cs:List Value) (p:UInt8→Bool) (w:World) (hs:Src w 1 A n (l.map fun c=>Value.int .u8 (c.toNat:Nat))) (hn:l.length=n) (hb:n≤9223372036854775807)
  (hf:∀ x∈l,∀ w',Below w.heap.size w w'→Spec Tryz.prog f (fs++(.int .u8 ((x.toNat:Nat):Int)::cs)) w' (fun v A=>v = .bool (p x)∧A=[])) :
  Spec Tryz.prog 252 [.slice A n c, .func (.func f) fs.toArray cs.toArray] w (fun v A=>v = .int .i64 (findI p l)∧A=[]):=by
 refine spec_of sg Tryz.func252 rfl rfl rfl ?_
 repeat' (first|refine d1 ?_|refine dd ?_|(show ∀ _:Nat,T _ _ _ _ _;intro _))
 refine T_loop (fun k:Nat=>[(0, .slice A n c),(1, .func (.func f) fs.toArray cs.toArray),(7, .int .i64 n),(8, .int .i64 k)]) (fun _=>[]) (fun k=>k≤n∧∀ i x,i<k→l[i]?=some x→p x=false) (fun k=>n - k) 0 ⟨Nat.zero_le _,fun i x h=>by omega⟩ ⟨rfl,rfl,rfl,rfl,trivial⟩ (Hle.refl _) ?_
 rintro k ⟨hk,hok⟩
 repeat' (first|refine d1 ?_|refine dd ?_|(show ∀ _:Nat,T _ _ _ _ _;intro _))
 refine T_if rfl (fun h=>?_) (fun h=>?_)
 ·simp only [decide_eq_true_eq] at h
  have hkn:k<n:=by omega
  obtain⟨b,o,rfl⟩:=hs.base (by omega)
  obtain⟨x,hx⟩:∃ x,l[k]?=some x:=⟨_,List.getElem?_eq_getElem (by omega)⟩
  repeat' (first|refine d1 ?_|refine dd ?_|(show ∀ _:Nat,T _ _ _ _ _;intro _))
  refine T_load (v := .int .u8 ((x.toNat:Nat):Int)) rfl rfl rfl rfl rfl (rdOld ?_) ?_
  ·exact (hs.get1 hkn (by rw [List.getElem?_map,hx];rfl)).2
  repeat' (first|refine d1 ?_|refine dd ?_|(show T _ (.ops _ (_::_)::_) _ _ _;first|refine T_call rfl rfl rfl rfl rfl (fun w hw=>hf x (List.mem_of_getElem? hx) w hw.below) ?_|refine T_callC rfl rfl rfl rfl rfl rfl rfl (fun hg w hw=>hf x (List.mem_of_getElem? hx) w hw.below) ?_)|(show T _ (.run _ _ (_::_) _ _::_) _ _ _;first|refine rc rfl rfl rfl rfl rfl rfl rfl (fun w hw=>hf x (List.mem_of_getElem? hx) w hw.below) ?_|refine rcG rfl rfl rfl rfl rfl rfl rfl rfl rfl (fun hg w hw=>hf x (List.mem_of_getElem? hx) w hw.below) ?_)|(show ∀ _:Nat,T _ _ _ _ _;intro _))
  refine T_if rfl (fun h1=>?_) (fun h1=>?_)
  ·repeat' (first|refine d1 ?_|refine dd ?_|(show ∀ _:Nat,T _ _ _ _ _;intro _)|(show T _ (.code .ret::_) _ _ _;refine T_retV [] rfl (Hle.refl _) ⟨congrArg (Value.int .i64) ?_,rfl⟩))
   exact (findI_some hx h1 hok).symm
  ·repeat' (first|refine d1 ?_|refine dd ?_|(show ∀ _:Nat,T _ _ _ _ _;intro _))
   refine T_back (k+1) ⟨by omega,fun i y hi hy=>?_⟩ (by omega) ⟨rfl,rfl,rfl,rfl,trivial⟩ (Hle.refl _)
   rcases Nat.lt_or_ge i k with h2|h2
   ·exact hok i y h2 hy
   ·rw [show i=k by omega,hx] at hy
    cases hy
    exact h1
 ·simp only [decide_eq_false_iff_not] at h
  repeat' (first|refine d1 ?_|refine dd ?_|(show ∀ _:Nat,T _ _ _ _ _;intro _)|(show T _ (.code .ret::_) _ _ _;refine T_retV [] rfl (Hle.refl _) ⟨congrArg (Value.int .i64) ?_,rfl⟩))
  exact (findI_none (fun i x hi=>hok i x (by have:=(List.getElem?_eq_some_iff.1 hi).1;omega) hi)).symm
theorem containsFuncB_spec (A:Option Addr) (n c:Nat) (l:List UInt8) (f:FuncId) (fs cs:List Value) (p:UInt8→Bool) (w:World) (hs:Src w 1 A n (l.map fun c=>Value.int .u8 (c.toNat:Nat))) (hn:l.length=n) (hb:n≤9223372036854775807)
  (hf:∀ x∈l,∀ w',Below w.heap.size w w'→Spec Tryz.prog f (fs++(.int .u8 ((x.toNat:Nat):Int)::cs)) w' (fun v A=>v = .bool (p x)∧A=[])) :
  Spec Tryz.prog 211 [.slice A n c, .func (.func f) fs.toArray cs.toArray] w (fun v A=>v = .bool (l.any p)∧A=[]):=by
 refine spec_of sg Tryz.func211 rfl rfl rfl ?_
 repeat' (first|refine d1 ?_|refine dd ?_|(show T _ (.ops _ (_::_)::_) _ _ _;first|refine T_call rfl rfl rfl rfl rfl (fun w hw=>indexFuncB_spec A n c l f fs cs p w (rdSrc hs w hw) hn hb (fun x hx w' hb'=>hf x hx w' (hw.below.trans (hb'.mono hw.below.size)))) ?_|refine T_callC rfl rfl rfl rfl rfl rfl rfl (fun hg w hw=>indexFuncB_spec A n c l f fs cs p w (rdSrc hs w hw) hn hb (fun x hx w' hb'=>hf x hx w' (hw.below.trans (hb'.mono hw.below.size)))) ?_)|(show T _ (.run _ _ (_::_) _ _::_) _ _ _;first|refine rc rfl rfl rfl rfl rfl rfl rfl (fun w hw=>indexFuncB_spec A n c l f fs cs p w (rdSrc hs w hw) hn hb (fun x hx w' hb'=>hf x hx w' (hw.below.trans (hb'.mono hw.below.size)))) ?_|refine rcG rfl rfl rfl rfl rfl rfl rfl rfl rfl (fun hg w hw=>indexFuncB_spec A n c l f fs cs p w (rdSrc hs w hw) hn hb (fun x hx w' hb'=>hf x hx w' (hw.below.trans (hb'.mono hw.below.size)))) ?_)|(show ∀ _:Nat,T _ _ _ _ _;intro _)|(show T _ (.code .ret::_) _ _ _;refine T_retV [] rfl (Hle.refl _) ⟨congrArg Value.bool ?_,rfl⟩))
 exact findI_any p l

theorem indexFuncI_spec (A:Option Addr) (n c:Nat) (l:List Int) (f:FuncId) (fs cs:List Value) (p:Int→Bool) (w:World) (hs:Src w 1 A n (l.map fun n=>Value.int .i64 n)) (hn:l.length=n) (hb:n≤9223372036854775807)
  (hf:∀ x∈l,∀ w',Below w.heap.size w w'→Spec Tryz.prog f (fs++(.int .i64 x::cs)) w' (fun v A=>v = .bool (p x)∧A=[])) :
  Spec Tryz.prog 163 [.slice A n c, .func (.func f) fs.toArray cs.toArray] w (fun v A=>v = .int .i64 (findI p l)∧A=[]):=by
 refine spec_of sg Tryz.func163 rfl rfl rfl ?_
 repeat' (first|refine d1 ?_|refine dd ?_|(show ∀ _:Nat,T _ _ _ _ _;intro _))
 refine T_loop (fun k:Nat=>[(0, .slice A n c),(1, .func (.func f) fs.toArray cs.toArray),(7, .int .i64 n),(8, .int .i64 k)]) (fun _=>[]) (fun k=>k≤n∧∀ i x,i<k→l[i]?=some x→p x=false) (fun k=>n - k) 0 ⟨Nat.zero_le _,fun i x h=>by omega⟩ ⟨rfl,rfl,rfl,rfl,trivial⟩ (Hle.refl _) ?_
 rintro k ⟨hk,hok⟩
 repeat' (first|refine d1 ?_|refine dd ?_|(show ∀ _:Nat,T _ _ _ _ _;intro _))
 refine T_if rfl (fun h=>?_) (fun h=>?_)
 ·simp only [decide_eq_true_eq] at h
  have hkn:k<n:=by omega
  obtain⟨b,o,rfl⟩:=hs.base (by omega)
  obtain⟨x,hx⟩:∃ x,l[k]?=some x:=⟨_,List.getElem?_eq_getElem (by omega)⟩
  repeat' (first|refine d1 ?_|refine dd ?_|(show ∀ _:Nat,T _ _ _ _ _;intro _))
  refine T_load (v := .int .i64 x) rfl rfl rfl rfl rfl (rdOld ?_) ?_
  ·exact (hs.get1 hkn (by rw [List.getElem?_map,hx];rfl)).2
  repeat' (first|refine d1 ?_|refine dd ?_|(show T _ (.ops _ (_::_)::_) _ _ _;first|refine T_call rfl rfl rfl rfl rfl (fun w hw=>hf x (List.mem_of_getElem? hx) w hw.below) ?_|refine T_callC rfl rfl rfl rfl rfl rfl rfl (fun hg w hw=>hf x (List.mem_of_getElem? hx) w hw.below) ?_)|(show T _ (.run _ _ (_::_) _ _::_) _ _ _;first|refine rc rfl rfl rfl rfl rfl rfl rfl (fun w hw=>hf x (List.mem_of_getElem? hx) w hw.below) ?_|refine rcG rfl rfl rfl rfl rfl rfl rfl rfl rfl (fun hg w hw=>hf x (List.mem_of_getElem? hx) w hw.below) ?_)|(show ∀ _:Nat,T _ _ _ _ _;intro _))
  refine T_if rfl (fun h1=>?_) (fun h1=>?_)
  ·repeat' (first|refine d1 ?_|refine dd ?_|(show ∀ _:Nat,T _ _ _ _ _;intro _)|(show T _ (.code .ret::_) _ _ _;refine T_retV [] rfl (Hle.refl _) ⟨congrArg (Value.int .i64) ?_,rfl⟩))
   exact (findI_some hx h1 hok).symm
  ·repeat' (first|refine d1 ?_|refine dd ?_|(show ∀ _:Nat,T _ _ _ _ _;intro _))
   refine T_back (k+1) ⟨by omega,fun i y hi hy=>?_⟩ (by omega) ⟨rfl,rfl,rfl,rfl,trivial⟩ (Hle.refl _)
   rcases Nat.lt_or_ge i k with h2|h2
   ·exact hok i y h2 hy
   ·rw [show i=k by omega,hx] at hy
    cases hy
    exact h1
 ·simp only [decide_eq_false_iff_not] at h
  repeat' (first|refine d1 ?_|refine dd ?_|(show ∀ _:Nat,T _ _ _ _ _;intro _)|(show T _ (.code .ret::_) _ _ _;refine T_retV [] rfl (Hle.refl _) ⟨congrArg (Value.int .i64) ?_,rfl⟩))
  exact (findI_none (fun i x hi=>hok i x (by have:=(List.getElem?_eq_some_iff.1 hi).1;omega) hi)).symm
theorem containsFuncI_spec (A:Option Addr) (n c:Nat) (l:List Int) (f:FuncId) (fs cs:List Value) (p:Int→Bool) (w:World) (hs:Src w 1 A n (l.map fun n=>Value.int .i64 n)) (hn:l.length=n) (hb:n≤9223372036854775807)
  (hf:∀ x∈l,∀ w',Below w.heap.size w w'→Spec Tryz.prog f (fs++(.int .i64 x::cs)) w' (fun v A=>v = .bool (p x)∧A=[])) :
  Spec Tryz.prog 106 [.slice A n c, .func (.func f) fs.toArray cs.toArray] w (fun v A=>v = .bool (l.any p)∧A=[]):=by
 refine spec_of sg Tryz.func106 rfl rfl rfl ?_
 repeat' (first|refine d1 ?_|refine dd ?_|(show T _ (.ops _ (_::_)::_) _ _ _;first|refine T_call rfl rfl rfl rfl rfl (fun w hw=>indexFuncI_spec A n c l f fs cs p w (rdSrc hs w hw) hn hb (fun x hx w' hb'=>hf x hx w' (hw.below.trans (hb'.mono hw.below.size)))) ?_|refine T_callC rfl rfl rfl rfl rfl rfl rfl (fun hg w hw=>indexFuncI_spec A n c l f fs cs p w (rdSrc hs w hw) hn hb (fun x hx w' hb'=>hf x hx w' (hw.below.trans (hb'.mono hw.below.size)))) ?_)|(show T _ (.run _ _ (_::_) _ _::_) _ _ _;first|refine rc rfl rfl rfl rfl rfl rfl rfl (fun w hw=>indexFuncI_spec A n c l f fs cs p w (rdSrc hs w hw) hn hb (fun x hx w' hb'=>hf x hx w' (hw.below.trans (hb'.mono hw.below.size)))) ?_|refine rcG rfl rfl rfl rfl rfl rfl rfl rfl rfl (fun hg w hw=>indexFuncI_spec A n c l f fs cs p w (rdSrc hs w hw) hn hb (fun x hx w' hb'=>hf x hx w' (hw.below.trans (hb'.mono hw.below.size)))) ?_)|(show ∀ _:Nat,T _ _ _ _ _;intro _)|(show T _ (.code .ret::_) _ _ _;refine T_retV [] rfl (Hle.refl _) ⟨congrArg Value.bool ?_,rfl⟩))
 exact findI_any p l

theorem indexFuncT_spec (A:Option Addr) (n c:Nat) (l:List Tok) (f:FuncId) (fs cs:List Value) (p:Tok→Bool) (w:World) (hs:Src w 6 A n (l.flatMap Tok.cells)) (hn:l.length=n) (hb:n≤9223372036854775807)
  (hf:∀ x∈l,∀ w',Below w.heap.size w w'→Spec Tryz.prog f (fs++(x.val::cs)) w' (fun v A=>v = .bool (p x)∧A=[])) :
  Spec Tryz.prog 135 [.slice A n c, .func (.func f) fs.toArray cs.toArray] w (fun v A=>v = .int .i64 (findI p l)∧A=[]):=by
 refine spec_of sg Tryz.func135 rfl rfl rfl ?_
 repeat' (first|refine d1 ?_|refine dd ?_|(show ∀ _:Nat,T _ _ _ _ _;intro _))
 refine T_loop (fun k:Nat=>[(0, .slice A n c),(1, .func (.func f) fs.toArray cs.toArray),(7, .int .i64 n),(8, .int .i64 k)]) (fun _=>[]) (fun k=>k≤n∧∀ i x,i<k→l[i]?=some x→p x=false) (fun k=>n - k) 0 ⟨Nat.zero_le _,fun i x h=>by omega⟩ ⟨rfl,rfl,rfl,rfl,trivial⟩ (Hle.refl _) ?_
 rintro k ⟨hk,hok⟩
 repeat' (first|refine d1 ?_|refine dd ?_|(show ∀ _:Nat,T _ _ _ _ _;intro _))
 refine T_if rfl (fun h=>?_) (fun h=>?_)
 ·simp only [decide_eq_true_eq] at h
  have hkn:k<n:=by omega
  obtain⟨b,o,rfl⟩:=hs.base (by omega)
  obtain⟨x,hx⟩:∃ x,l[k]?=some x:=⟨_,List.getElem?_eq_getElem (by omega)⟩
  repeat' (first|refine d1 ?_|refine dd ?_|(show ∀ _:Nat,T _ _ _ _ _;intro _))
  refine T_loadA (vs:=x.cells) rfl rfl rfl rfl rfl (rdOld ?_) rfl ?_
  ·exact hs.getT hkn hx
  repeat' (first|refine d1 ?_|refine dd ?_|(show T _ (.ops _ (_::_)::_) _ _ _;first|refine T_call rfl rfl rfl rfl rfl (fun w hw=>hf x (List.mem_of_getElem? hx) w hw.below) ?_|refine T_callC rfl rfl rfl rfl rfl rfl rfl (fun hg w hw=>hf x (List.mem_of_getElem? hx) w hw.below) ?_)|(show T _ (.run _ _ (_::_) _ _::_) _ _ _;first|refine rc rfl rfl rfl rfl rfl rfl rfl (fun w hw=>hf x (List.mem_of_getElem? hx) w hw.below) ?_|refine rcG rfl rfl rfl rfl rfl rfl rfl rfl rfl (fun hg w hw=>hf x (List.mem_of_getElem? hx) w hw.below) ?_)|(show ∀ _:Nat,T _ _ _ _ _;intro _))
  refine T_if rfl (fun h1=>?_) (fun h1=>?_)
  ·repeat' (first|refine d1 ?_|refine dd ?_|(show ∀ _:Nat,T _ _ _ _ _;intro _)|(show T _ (.code .ret::_) _ _ _;refine T_retV [] rfl (Hle.refl _) ⟨congrArg (Value.int .i64) ?_,rfl⟩))
   exact (findI_some hx h1 hok).symm
  ·repeat' (first|refine d1 ?_|refine dd ?_|(show ∀ _:Nat,T _ _ _ _ _;intro _))
   refine T_back (k+1) ⟨by omega,fun i y hi hy=>?_⟩ (by omega) ⟨rfl,rfl,rfl,rfl,trivial⟩ (Hle.refl _)
   rcases Nat.lt_or_ge i k with h2|h2
   ·exact hok i y h2 hy
   ·rw [show i=k by omega,hx] at hy
    cases hy
    exact h1
 ·simp only [decide_eq_false_iff_not] at h
  repeat' (first|refine d1 ?_|refine dd ?_|(show ∀ _:Nat,T _ _ _ _ _;intro _)|(show T _ (.code .ret::_) _ _ _;refine T_retV [] rfl (Hle.refl _) ⟨congrArg (Value.int .i64) ?_,rfl⟩))
  exact (findI_none (fun i x hi=>hok i x (by have:=(List.getElem?_eq_some_iff.1 hi).1;omega) hi)).symm
theorem containsFuncT_spec (A:Option Addr) (n c:Nat) (l:List Tok) (f:FuncId) (fs cs:List Value) (p:Tok→Bool) (w:World) (hs:Src w 6 A n (l.flatMap Tok.cells)) (hn:l.length=n) (hb:n≤9223372036854775807)
  (hf:∀ x∈l,∀ w',Below w.heap.size w w'→Spec Tryz.prog f (fs++(x.val::cs)) w' (fun v A=>v = .bool (p x)∧A=[])) :
  Spec Tryz.prog 84 [.slice A n c, .func (.func f) fs.toArray cs.toArray] w (fun v A=>v = .bool (l.any p)∧A=[]):=by
 refine spec_of sg Tryz.func84 rfl rfl rfl ?_
 repeat' (first|refine d1 ?_|refine dd ?_|(show T _ (.ops _ (_::_)::_) _ _ _;first|refine T_call rfl rfl rfl rfl rfl (fun w hw=>indexFuncT_spec A n c l f fs cs p w (rdSrc hs w hw) hn hb (fun x hx w' hb'=>hf x hx w' (hw.below.trans (hb'.mono hw.below.size)))) ?_|refine T_callC rfl rfl rfl rfl rfl rfl rfl (fun hg w hw=>indexFuncT_spec A n c l f fs cs p w (rdSrc hs w hw) hn hb (fun x hx w' hb'=>hf x hx w' (hw.below.trans (hb'.mono hw.below.size)))) ?_)|(show T _ (.run _ _ (_::_) _ _::_) _ _ _;first|refine rc rfl rfl rfl rfl rfl rfl rfl (fun w hw=>indexFuncT_spec A n c l f fs cs p w (rdSrc hs w hw) hn hb (fun x hx w' hb'=>hf x hx w' (hw.below.trans (hb'.mono hw.below.size)))) ?_|refine rcG rfl rfl rfl rfl rfl rfl rfl rfl rfl (fun hg w hw=>indexFuncT_spec A n c l f fs cs p w (rdSrc hs w hw) hn hb (fun x hx w' hb'=>hf x hx w' (hw.below.trans (hb'.mono hw.below.size)))) ?_)|(show ∀ _:Nat,T _ _ _ _ _;intro _)|(show T _ (.code .ret::_) _ _ _;refine T_retV [] rfl (Hle.refl _) ⟨congrArg Value.bool ?_,rfl⟩))
 exact findI_any p l
end Go.Proofs.YtblnhdnogjijiaaGreatDoor
namespace Go.Proofs.YtblnhdnogjijiaaGreatDoor
open Go.RowKit Go.Shelf Go.Proofs
set_option maxRecDepth 100000
set_option maxHeartbeats 1000000

theorem isWord1_spec (c:Int) (hc:0≤c∧c≤255) (w:World):Spec Tryz.prog 212 [.int .u8 c] w (fun v A=>v = .bool (decide (kindI c=5) || decide (kindI c=6))∧A=[]):=by
 refine spec_of sg Tryz.func212 rfl rfl rfl ?_
 repeat' (first|refine d1 ?_|refine dd ?_|(show T _ (.ops _ (_::_)::_) _ _ _;first|refine T_call rfl rfl rfl rfl rfl (fun w hw=>kindPrg_spec c hc w) ?_|refine T_callC rfl rfl rfl rfl rfl rfl rfl (fun hg w hw=>kindPrg_spec c hc w) ?_)|(show T _ (.run _ _ (_::_) _ _::_) _ _ _;first|refine rc rfl rfl rfl rfl rfl rfl rfl (fun w hw=>kindPrg_spec c hc w) ?_|refine rcG rfl rfl rfl rfl rfl rfl rfl rfl rfl (fun hg w hw=>kindPrg_spec c hc w) ?_)|(show ∀ _:Nat,T _ _ _ _ _;intro _)|(show T _ (.code .ret::_) _ _ _;refine T_retV [] rfl (Hle.refl _) ⟨rfl,rfl⟩))
theorem isWordPrg_spec (s:ByteArray) (w:World):Spec Tryz.prog 167 [.string s] w (fun v A=>v = .bool (isWordB s)∧A=[]):=by
 refine spec_of sg Tryz.func167 rfl rfl rfl ?_
 repeat' (first|refine d1 ?_|refine dd ?_|(show T _ (.ops _ (_::_)::_) _ _ _;first|refine T_call rfl rfl rfl rfl rfl (fun w hw=>checkPrg_spec s w) ?_|refine T_callC rfl rfl rfl rfl rfl rfl rfl (fun hg w hw=>checkPrg_spec s w) ?_)|(show T _ (.run _ _ (_::_) _ _::_) _ _ _;first|refine rc rfl rfl rfl rfl rfl rfl rfl (fun w hw=>checkPrg_spec s w) ?_|refine rcG rfl rfl rfl rfl rfl rfl rfl rfl rfl (fun hg w hw=>checkPrg_spec s w) ?_)|(show ∀ _:Nat,T _ _ _ _ _;intro _))
 refine T_if rfl (fun h=>?_) (fun h=>?_)
 ·repeat' (first|refine d1 ?_|refine dd ?_|(show ∀ _:Nat,T _ _ _ _ _;intro _)|(show T _ (.code .ret::_) _ _ _;refine T_retV [] rfl (Hle.refl _) ⟨congrArg Value.bool ?_,rfl⟩))
  simp only [Bool.or_eq_true,decide_eq_true_eq,Bool.not_eq_true',decide_eq_false_iff_not] at h
  unfold isWordB
  by_cases h1:1≤s.size∧s.size≤64
  ·have h2:okAll s=false:=by
    cases h3:okAll s with
    | false=>rfl
    | true =>
     have h4:=(empty_size (s:=s)).1
     unfold checkS at h
     rw [if_neg (by omega),h3] at h
     rcases h with (h|h)|h
     ·have:=h4 h;omega
     ·omega
     ·exact absurd rfl h
   simp [h2]
  ·simp [h1]
 simp only [Bool.or_eq_false_iff,decide_eq_false_iff_not,Bool.not_eq_false',decide_eq_true_eq] at h
 have h1:1≤s.size∧s.size≤64:=by
  have h4:=(empty_size (s:=s)).2
  have:s.size≠0:=fun h5=>h.1.1 (h4 h5)
  omega
 have h2:okAll s=true:=by
  cases h3:okAll s with
  | true=>rfl
  | false=>have h4:=h.2;unfold checkS at h4;rw [if_neg (by omega),h3] at h4;simp at h4
 repeat' (first|refine d1 ?_|refine dd ?_|(show T _ (.ops _ (_::_)::_) _ _ _;first|refine T_call rfl rfl rfl rfl rfl (fun w hw=>kindPrg_spec _ (byteAt_bd _ _) w) ?_|refine T_callC rfl rfl rfl rfl rfl rfl rfl (fun hg w hw=>kindPrg_spec _ (byteAt_bd _ _) w) ?_)|(show T _ (.run _ _ (_::_) _ _::_) _ _ _;first|refine rc rfl rfl rfl rfl rfl rfl rfl (fun w hw=>kindPrg_spec _ (byteAt_bd _ _) w) ?_|refine rcG rfl rfl rfl rfl rfl rfl rfl rfl rfl (fun hg w hw=>kindPrg_spec _ (byteAt_bd _ _) w) ?_)|(show ∀ _:Nat,T _ _ _ _ _;intro _))
 refine T_if rfl (fun h3=>?_) (fun h3=>?_)
 ·repeat' (first|refine d1 ?_|refine dd ?_|(show ∀ _:Nat,T _ _ _ _ _;intro _)|(show T _ (.code .ret::_) _ _ _;refine T_retV [] rfl (Hle.refl _) ⟨congrArg Value.bool ?_,rfl⟩))
  have h4:(decide (kAt s 0=1) || decide (kAt s 0=3))=false:=by
   simp only [Bool.and_eq_true,Bool.not_eq_true'] at h3
   rw [Bool.or_eq_false_iff];exact h3
  unfold isWordB
  simp [h4]
 have h4:(decide (kAt s 0=1) || decide (kAt s 0=3))=true:=by
  simp only [Bool.and_eq_false_iff,Bool.not_eq_false'] at h3
  rw [Bool.or_eq_true];exact h3
 repeat' (first|refine d1 ?_|refine dd ?_|(show T _ (.ops _ (_::_)::_) _ _ _;first|refine T_op (OpT.bytes rfl rfl rfl rfl rfl (fun b cap=>?_))|refine T_call rfl rfl rfl rfl rfl (fun w hw=>containsFuncB_spec _ _ _ s.data.toList _ [] [] (fun c=>decide (kindB c=5) || decide (kindB c=6)) w (srcByt w hw) (by simp) (by omega) (fun c _ w' _=>isWord1_spec _ (by have:=c.toNat_lt;omega) w')) ?_|refine T_callC rfl rfl rfl rfl rfl rfl rfl (fun hg w hw=>containsFuncB_spec _ _ _ s.data.toList _ [] [] (fun c=>decide (kindB c=5) || decide (kindB c=6)) w (srcByt w hw) (by simp) (by omega) (fun c _ w' _=>isWord1_spec _ (by have:=c.toNat_lt;omega) w')) ?_)|(show T _ (.run _ _ (_::_) _ _::_) _ _ _;first|refine rc rfl rfl rfl rfl rfl rfl rfl (fun w hw=>containsFuncB_spec _ _ _ s.data.toList _ [] [] (fun c=>decide (kindB c=5) || decide (kindB c=6)) w (srcByt w hw) (by simp) (by omega) (fun c _ w' _=>isWord1_spec _ (by have:=c.toNat_lt;omega) w')) ?_|refine rcG rfl rfl rfl rfl rfl rfl rfl rfl rfl (fun hg w hw=>containsFuncB_spec _ _ _ s.data.toList _ [] [] (fun c=>decide (kindB c=5) || decide (kindB c=6)) w (srcByt w hw) (by simp) (by omega) (fun c _ w' _=>isWord1_spec _ (by have:=c.toNat_lt;omega) w')) ?_)|(show ∀ _:Nat,T _ _ _ _ _;intro _)|(show T _ (.code .ret::_) _ _ _;refine T_retV [] rfl (Hle.none _) ⟨congrArg Value.bool ?_,rfl⟩))
 exact isWord_law s h1 h2 h4

theorem mark_case:∀ {p q r z:Bool},(!(p && (q || r)))=true→(!(p && (q || r)))=(!p || (!q && !r) || !z):=by decide
theorem lt_le64 (n:Nat):decide ((64:Int)<n) = !decide ((n:Int)≤64):=by rw [Bool.eq_iff_iff];simp
theorem word_case1:∀ {p q r z:Bool},(!p)=false→(!false && !false && !(z && (!q && r)))=true→(!false && !false && !(z && (!q && r)))=(!p || q || !r || !z):=by decide
theorem word_case2:∀ {p q r z e:Bool},(!p)=false→(!false && !false && !(z && (!q && r)))=false→(!(!false && !false) && !e)=(!p || q || !r || !z):=by decide
def Tok.small (t:Tok):Prop:=t.text.size≤65536∧t.norm.size≤65536∧t.page.size≤65536∧t.name.size≤65536
theorem tokPrg_spec (t:Tok) (ht:t.small) (w:World) (hw0:Std w):Spec Tryz.prog 112 [t.val] w (fun v A=>v = .int .i64 (tokE t)∧A=[]):=by
 obtain⟨ht1,ht2,ht3,ht4⟩:=ht
 refine spec_of sg Tryz.func112 rfl rfl rfl ?_
 repeat' (first|(show T _ (.ops _ (⟨_, .box _ _,_,_,_,_⟩::_)::_) _ _ _;refine T_op (OpT.box (cs:=t.cells) rfl rfl rfl rfl rfl rfl rfl (fun _=>?_)))|refine d1 ?_|refine dd ?_|(show ∀ _:Nat,T _ _ _ _ _;intro _))
 rename_i b
 refine T_if rfl (fun h=>?_) (fun h=>?_)
 ·repeat' (first|refine d1 ?_|refine dd ?_|(show ∀ _:Nat,T _ _ _ _ _;intro _)|(show T _ (.code .ret::_) _ _ _;refine T_retV [] rfl (Hle.none _) ⟨?_,rfl⟩))
  simp only [Bool.or_eq_true,decide_eq_true_eq] at h
  unfold tokE;rw [if_pos h];rfl
 simp only [Bool.or_eq_false_iff,decide_eq_false_iff_not] at h
 have e1:¬ (t.flags<0∨31<t.flags):=by omega
 have hfl:=flags_law t.flags (by omega)
 refine T_draw 1000 [blk b t.cells 42] ?_
 refine T_dval 0 rfl (by kernel_rfl) (by kernel_rfl) (by kernel_rfl) (by kernel_rfl) (by kernel_rfl) rfl rfl (by first|exact Val.pure rfl|exact Val.vc rfl (fun hg=>by first|omega|(simp only [inK];omega)|exact True.intro|assumption)|exact Val.load rfl (fun _=>rdOwn1 rfl)|exact Val.loadA rfl (fun _=>rdAll) rfl) rfl rfl rfl (by first|exact Hle.refl _|exact Hle.none _|exact Hle.sub) ?_
 refine T_dval 1 rfl (by kernel_rfl) (by kernel_rfl) (by kernel_rfl) (by kernel_rfl) (by kernel_rfl) rfl rfl (by first|exact Val.pure rfl|exact Val.vc rfl (fun hg=>by first|omega|(simp only [inK];omega)|exact True.intro|assumption)|exact Val.load rfl (fun _=>rdOwn1 rfl)|exact Val.loadA rfl (fun _=>rdAll) rfl) rfl rfl rfl (by first|exact Hle.refl _|exact Hle.none _|exact Hle.sub) ?_
 refine T_dval 2 rfl (by kernel_rfl) (by kernel_rfl) (by kernel_rfl) (by kernel_rfl) (by kernel_rfl) rfl rfl (by first|exact Val.pure rfl|exact Val.vc rfl (fun hg=>by first|omega|(simp only [inK];omega)|exact True.intro|assumption)|exact Val.load rfl (fun _=>rdOwn1 rfl)|exact Val.loadA rfl (fun _=>rdAll) rfl) rfl rfl rfl (by first|exact Hle.refl _|exact Hle.none _|exact Hle.sub) ?_
 refine T_dval 3 rfl (by kernel_rfl) (by kernel_rfl) (by kernel_rfl) (by kernel_rfl) (by kernel_rfl) rfl rfl (by first|exact Val.pure rfl|exact Val.vc rfl (fun hg=>by first|omega|(simp only [inK];omega)|exact True.intro|assumption)|exact Val.load rfl (fun _=>rdOwn1 rfl)|exact Val.loadA rfl (fun _=>rdAll) rfl) rfl rfl rfl (by first|exact Hle.refl _|exact Hle.none _|exact Hle.sub) ?_
 refine T_dval 4 rfl (by kernel_rfl) (by kernel_rfl) (by kernel_rfl) (by kernel_rfl) (by kernel_rfl) rfl rfl (by first|exact Val.pure rfl|exact Val.vc rfl (fun hg=>by first|omega|(simp only [inK];omega)|exact True.intro|assumption)|exact Val.load rfl (fun _=>rdOwn1 rfl)|exact Val.loadA rfl (fun _=>rdAll) rfl) rfl rfl rfl (by first|exact Hle.refl _|exact Hle.none _|exact Hle.sub) ?_
 refine T_dval 5 rfl (by kernel_rfl) (by kernel_rfl) (by kernel_rfl) (by kernel_rfl) (by kernel_rfl) rfl rfl (by first|exact Val.pure rfl|exact Val.vc rfl (fun hg=>by first|omega|(simp only [inK];omega)|exact True.intro|assumption)|exact Val.load rfl (fun _=>rdOwn1 rfl)|exact Val.loadA rfl (fun _=>rdAll) rfl) rfl rfl rfl (by first|exact Hle.refl _|exact Hle.none _|exact Hle.sub) ?_
 refine T_dval 6 rfl (by kernel_rfl) (by kernel_rfl) (by kernel_rfl) (by kernel_rfl) (by kernel_rfl) rfl rfl (by first|exact Val.pure rfl|exact Val.vc rfl (fun hg=>by first|omega|(simp only [inK];omega)|exact True.intro|assumption)|exact Val.load rfl (fun _=>rdOwn1 rfl)|exact Val.loadA rfl (fun _=>rdAll) rfl) rfl rfl rfl (by first|exact Hle.refl _|exact Hle.none _|exact Hle.sub) ?_
 refine T_dval 7 rfl (by kernel_rfl) (by kernel_rfl) (by kernel_rfl) (by kernel_rfl) (by kernel_rfl) rfl rfl (by first|exact Val.pure rfl|exact Val.vc rfl (fun hg=>by first|omega|(simp only [inK];omega)|exact True.intro|assumption)|exact Val.load rfl (fun _=>rdOwn1 rfl)|exact Val.loadA rfl (fun _=>rdAll) rfl) rfl rfl rfl (by first|exact Hle.refl _|exact Hle.none _|exact Hle.sub) ?_
 refine T_dval 8 rfl (by kernel_rfl) (by kernel_rfl) (by kernel_rfl) (by kernel_rfl) (by kernel_rfl) rfl rfl (by first|exact Val.pure rfl|exact Val.vc rfl (fun hg=>by first|omega|(simp only [inK];omega)|exact True.intro|assumption)|exact Val.load rfl (fun _=>rdOwn1 rfl)|exact Val.loadA rfl (fun _=>rdAll) rfl) rfl rfl rfl (by first|exact Hle.refl _|exact Hle.none _|exact Hle.sub) ?_
 refine T_dval 9 rfl (by kernel_rfl) (by kernel_rfl) (by kernel_rfl) (by kernel_rfl) (by kernel_rfl) rfl rfl (by first|exact Val.pure rfl|exact Val.vc rfl (fun hg=>by first|omega|(simp only [inK];omega)|exact True.intro|assumption)|exact Val.load rfl (fun _=>rdOwn1 rfl)|exact Val.loadA rfl (fun _=>rdAll) rfl) rfl rfl rfl (by first|exact Hle.refl _|exact Hle.none _|exact Hle.sub) ?_
 refine T_dend (by kernel_rfl) ?_
 rw [show (!decide (andI t.flags 2=0))=hasN t.flags 2 by rw [← hfl.1];simp,show (!decide (andI t.flags 8=0))=hasN t.flags 8 by rw [← hfl.2.1];simp]
 repeat' (first|refine d1 ?_|refine dd ?_|(show ∀ _:Nat,T _ _ _ _ _;intro _))
 refine T_if rfl (fun h2=>?_) (fun h2=>?_)
 ·repeat' (first|refine d1 ?_|refine dd ?_|(show ∀ _:Nat,T _ _ _ _ _;intro _)|(show T _ (.code .ret::_) _ _ _;refine T_retV [] rfl (Hle.none _) ⟨?_,rfl⟩))
  unfold tokE;rw [if_neg e1,if_pos h2];rfl
 have e2:¬ ((hasN t.flags 2 && hasN t.flags 8)=true):=by rw [h2];simp
 repeat' (first|refine d1 ?_|refine dd ?_|(show ∀ _:Nat,T _ _ _ _ _;intro _))
 refine T_if rfl (fun h3=>?_) (fun h3=>?_)
 ·have h4:hasN t.flags 8=false:=by rw [h3] at h2;simpa using h2
  repeat' (first|refine d1 ?_|refine dd ?_|(show ∀ _:Nat,T _ _ _ _ _;intro _))
  refine T_if rfl (fun h9=>absurd (h9.symm.trans h4) (by simp)) (fun _=>?_)
  show T _ [_,_,_,_,_] _ _ _
  refine T_cutAt 2 (fun _:Unit=>[(1, .pointer (some ⟨b,0,none⟩)),(28, .bool (formBad t))]) (fun _=>[blk b t.cells 42]) (fun _=>True) rfl ?_ ?_
  ·have hfb:formBad t=(!gappedB t.text || !decide (t.norm=t.text)):=by unfold formBad;rw [if_pos h3]
   repeat' (first|refine d1 ?_|refine dd ?_|(show T _ (.ops _ (_::_)::_) _ _ _;first|refine T_call rfl rfl rfl rfl rfl (fun w hw=>gapPrg_spec _ (by omega) w (hw0.cls hw)) ?_|refine T_callC rfl rfl rfl rfl rfl rfl rfl (fun hg w hw=>gapPrg_spec _ (by omega) w (hw0.cls hw)) ?_)|(show T _ (.run _ _ (_::_) _ _::_) _ _ _;first|refine rc rfl rfl rfl rfl rfl rfl rfl (fun w hw=>gapPrg_spec _ (by omega) w (hw0.cls hw)) ?_|refine rcG rfl rfl rfl rfl rfl rfl rfl rfl rfl (fun hg w hw=>gapPrg_spec _ (by omega) w (hw0.cls hw)) ?_)|(show ∀ _:Nat,T _ _ _ _ _;intro _))
   refine T_if rfl (fun h5=>?_) (fun h5=>?_)
   ·repeat' (first|refine d1 ?_|refine dd ?_|(show ∀ _:Nat,T _ _ _ _ _;intro _)|(show T _ _ _ _ _;refine T_meet () trivial ⟨rfl,?_,trivial⟩ (Hle.refl _)))
    refine congrArg (fun q=>some (Value.bool q)) ?_
    rw [hfb];rw [h5];rfl
   ·repeat' (first|refine d1 ?_|refine dd ?_|(show T _ (.ops _ (_::_)::_) _ _ _;first|refine T_loadA rfl rfl rfl rfl rfl (rdOwn (vs:=t.cells) (fun j u hu=>by rw [Nat.zero_add];exact hu)) rfl ?_|refine T_call rfl rfl rfl rfl rfl (fun w hw=>isWordTok_spec t (by omega) w) ?_|refine T_callC rfl rfl rfl rfl rfl rfl rfl (fun hg w hw=>isWordTok_spec t (by omega) w) ?_|refine T_call rfl rfl rfl rfl rfl (fun w hw=>normPrg_spec _ (by omega) w) ?_|refine T_callC rfl rfl rfl rfl rfl rfl rfl (fun hg w hw=>normPrg_spec _ (by omega) w) ?_)|(show T _ (.run _ _ (_::_) _ _::_) _ _ _;first|refine rc rfl rfl rfl rfl rfl rfl rfl (fun w hw=>isWordTok_spec t (by omega) w) ?_|refine rcG rfl rfl rfl rfl rfl rfl rfl rfl rfl (fun hg w hw=>isWordTok_spec t (by omega) w) ?_|refine rc rfl rfl rfl rfl rfl rfl rfl (fun w hw=>normPrg_spec _ (by omega) w) ?_|refine rcG rfl rfl rfl rfl rfl rfl rfl rfl rfl (fun hg w hw=>normPrg_spec _ (by omega) w) ?_)|(show ∀ _:Nat,T _ _ _ _ _;intro _))
    refine T_if rfl (fun h6=>?_) (fun h6=>?_)
    ·repeat' (first|refine d1 ?_|refine dd ?_|(show ∀ _:Nat,T _ _ _ _ _;intro _)|(show T _ _ _ _ _;refine T_meet () trivial ⟨rfl,?_,trivial⟩ (Hle.refl _)))
     refine congrArg (fun q=>some (Value.bool q)) ?_
     rw [hfb];simp [h3] at h6
    ·repeat' (first|refine d1 ?_|refine dd ?_|(show T _ (.ops _ (_::_)::_) _ _ _;first|refine T_loadA rfl rfl rfl rfl rfl (rdOwn (vs:=t.cells) (fun j u hu=>by rw [Nat.zero_add];exact hu)) rfl ?_|refine T_call rfl rfl rfl rfl rfl (fun w hw=>isWordTok_spec t (by omega) w) ?_|refine T_callC rfl rfl rfl rfl rfl rfl rfl (fun hg w hw=>isWordTok_spec t (by omega) w) ?_)|(show T _ (.run _ _ (_::_) _ _::_) _ _ _;first|refine rc rfl rfl rfl rfl rfl rfl rfl (fun w hw=>isWordTok_spec t (by omega) w) ?_|refine rcG rfl rfl rfl rfl rfl rfl rfl rfl rfl (fun hg w hw=>isWordTok_spec t (by omega) w) ?_)|(show ∀ _:Nat,T _ _ _ _ _;intro _)|(show T _ _ _ _ _;refine T_meet () trivial ⟨rfl,?_,trivial⟩ (Hle.refl _)))
     refine congrArg (fun q=>some (Value.bool q)) ?_
     rw [hfb];rw [Bool.not_eq_false'] at h5;simp [h3,h5]
  ·rintro⟨⟩ _
   repeat' (first|refine d1 ?_|refine dd ?_|(show ∀ _:Nat,T _ _ _ _ _;intro _))
   refine T_if rfl (fun h5=>?_) (fun h5=>?_)
   ·repeat' (first|refine d1 ?_|refine dd ?_|(show ∀ _:Nat,T _ _ _ _ _;intro _)|(show T _ (.code .ret::_) _ _ _;refine T_retV [] rfl (Hle.none _) ⟨?_,rfl⟩))
    unfold tokE;rw [if_neg e1,if_neg e2,if_pos h5];rfl
   have e3:¬ formBad t=true:=by rw [h5];simp
   repeat' (first|refine d1 ?_|refine dd ?_|(show ∀ _:Nat,T _ _ _ _ _;intro _))
   refine T_if rfl (fun h6=>?_) (fun h6=>?_)
   ·repeat' (first|refine d1 ?_|refine dd ?_|(show ∀ _:Nat,T _ _ _ _ _;intro _)|(show T _ (.code .ret::_) _ _ _;refine T_retV [] rfl (Hle.none _) ⟨?_,rfl⟩))
    simp only [decide_eq_true_eq] at h6
    unfold tokE;rw [if_neg e1,if_neg e2,if_neg e3,if_pos h6];rfl
   simp only [decide_eq_false_iff_not] at h6
   repeat' (first|refine d1 ?_|refine dd ?_|(show T _ (.ops _ (_::_)::_) _ _ _;first|refine T_call rfl rfl rfl rfl rfl (fun w hw=>namedPrg_spec _ (by omega) w) ?_|refine T_callC rfl rfl rfl rfl rfl rfl rfl (fun hg w hw=>namedPrg_spec _ (by omega) w) ?_)|(show T _ (.run _ _ (_::_) _ _::_) _ _ _;first|refine rc rfl rfl rfl rfl rfl rfl rfl (fun w hw=>namedPrg_spec _ (by omega) w) ?_|refine rcG rfl rfl rfl rfl rfl rfl rfl rfl rfl (fun hg w hw=>namedPrg_spec _ (by omega) w) ?_)|(show ∀ _:Nat,T _ _ _ _ _;intro _))
   refine T_if rfl (fun h7=>?_) (fun h7=>?_)
   ·repeat' (first|refine d1 ?_|refine dd ?_|(show ∀ _:Nat,T _ _ _ _ _;intro _)|(show T _ (.code .ret::_) _ _ _;refine T_retV [] rfl (Hle.none _) ⟨?_,rfl⟩))
    unfold tokE;rw [if_neg e1,if_neg e2,if_neg e3,if_neg h6,if_pos h7];rfl
   ·repeat' (first|refine d1 ?_|refine dd ?_|(show ∀ _:Nat,T _ _ _ _ _;intro _)|(show T _ (.code .ret::_) _ _ _;refine T_retV [] rfl (Hle.none _) ⟨?_,rfl⟩))
    unfold tokE;rw [if_neg e1,if_neg e2,if_neg e3,if_neg h6,if_neg (by rw [h7];simp)];rfl
 ·repeat' (first|refine d1 ?_|refine dd ?_|(show ∀ _:Nat,T _ _ _ _ _;intro _))
  refine T_if rfl (fun h4=>?_) (fun h4=>?_)
  ·repeat' (first|refine d1 ?_|refine dd ?_|(show ∀ _:Nat,T _ _ _ _ _;intro _))
   show T _ [_,_,_,_,_] _ _ _
   refine T_cutAt 2 (fun _:Unit=>[(1, .pointer (some ⟨b,0,none⟩)),(28, .bool (formBad t))]) (fun _=>[blk b t.cells 42]) (fun _=>True) rfl ?_ ?_
   ·have hfb:formBad t=(!decide ((t.text.size:Int)=1) || (!decide (kAt t.text 0=5) && !decide (kAt t.text 0=4)) || !decide (t.norm=t.text)):=by unfold formBad;rw [if_neg (by rw [h3];simp),if_pos h4]
    repeat' (first|refine d1 ?_|refine dd ?_|(show T _ (.ops _ (_::_)::_) _ _ _;first|refine T_call rfl rfl rfl rfl rfl (fun w hw=>markPrg_spec _ w) ?_|refine T_callC rfl rfl rfl rfl rfl rfl rfl (fun hg w hw=>markPrg_spec _ w) ?_)|(show T _ (.run _ _ (_::_) _ _::_) _ _ _;first|refine rc rfl rfl rfl rfl rfl rfl rfl (fun w hw=>markPrg_spec _ w) ?_|refine rcG rfl rfl rfl rfl rfl rfl rfl rfl rfl (fun hg w hw=>markPrg_spec _ w) ?_)|(show ∀ _:Nat,T _ _ _ _ _;intro _))
    refine T_if rfl (fun h5=>?_) (fun h5=>?_)
    ·repeat' (first|refine d1 ?_|refine dd ?_|(show ∀ _:Nat,T _ _ _ _ _;intro _)|(show T _ _ _ _ _;refine T_meet () trivial ⟨rfl,?_,trivial⟩ (Hle.refl _)))
     refine congrArg (fun q=>some (Value.bool q)) ?_
     rw [hfb];exact mark_case h5
    ·repeat' (first|refine d1 ?_|refine dd ?_|(show T _ (.ops _ (_::_)::_) _ _ _;first|refine T_loadA rfl rfl rfl rfl rfl (rdOwn (vs:=t.cells) (fun j u hu=>by rw [Nat.zero_add];exact hu)) rfl ?_|refine T_call rfl rfl rfl rfl rfl (fun w hw=>isWordTok_spec t (by omega) w) ?_|refine T_callC rfl rfl rfl rfl rfl rfl rfl (fun hg w hw=>isWordTok_spec t (by omega) w) ?_|refine T_call rfl rfl rfl rfl rfl (fun w hw=>normPrg_spec _ (by omega) w) ?_|refine T_callC rfl rfl rfl rfl rfl rfl rfl (fun hg w hw=>normPrg_spec _ (by omega) w) ?_)|(show T _ (.run _ _ (_::_) _ _::_) _ _ _;first|refine rc rfl rfl rfl rfl rfl rfl rfl (fun w hw=>isWordTok_spec t (by omega) w) ?_|refine rcG rfl rfl rfl rfl rfl rfl rfl rfl rfl (fun hg w hw=>isWordTok_spec t (by omega) w) ?_|refine rc rfl rfl rfl rfl rfl rfl rfl (fun w hw=>normPrg_spec _ (by omega) w) ?_|refine rcG rfl rfl rfl rfl rfl rfl rfl rfl rfl (fun hg w hw=>normPrg_spec _ (by omega) w) ?_)|(show ∀ _:Nat,T _ _ _ _ _;intro _))
     refine T_if rfl (fun h6=>?_) (fun h6=>?_)
     ·repeat' (first|refine d1 ?_|refine dd ?_|(show ∀ _:Nat,T _ _ _ _ _;intro _)|(show T _ _ _ _ _;refine T_meet () trivial ⟨rfl,?_,trivial⟩ (Hle.refl _)))
      refine congrArg (fun q=>some (Value.bool q)) ?_
      rw [hfb];simp [h4] at h6
     ·repeat' (first|refine d1 ?_|refine dd ?_|(show T _ (.ops _ (_::_)::_) _ _ _;first|refine T_loadA rfl rfl rfl rfl rfl (rdOwn (vs:=t.cells) (fun j u hu=>by rw [Nat.zero_add];exact hu)) rfl ?_|refine T_call rfl rfl rfl rfl rfl (fun w hw=>isWordTok_spec t (by omega) w) ?_|refine T_callC rfl rfl rfl rfl rfl rfl rfl (fun hg w hw=>isWordTok_spec t (by omega) w) ?_)|(show T _ (.run _ _ (_::_) _ _::_) _ _ _;first|refine rc rfl rfl rfl rfl rfl rfl rfl (fun w hw=>isWordTok_spec t (by omega) w) ?_|refine rcG rfl rfl rfl rfl rfl rfl rfl rfl rfl (fun hg w hw=>isWordTok_spec t (by omega) w) ?_)|(show ∀ _:Nat,T _ _ _ _ _;intro _)|(show T _ _ _ _ _;refine T_meet () trivial ⟨rfl,?_,trivial⟩ (Hle.refl _)))
      refine congrArg (fun q=>some (Value.bool q)) ?_
      rw [hfb];simp_all
   ·rintro⟨⟩ _
    repeat' (first|refine d1 ?_|refine dd ?_|(show ∀ _:Nat,T _ _ _ _ _;intro _))
    refine T_if rfl (fun h5=>?_) (fun h5=>?_)
    ·repeat' (first|refine d1 ?_|refine dd ?_|(show ∀ _:Nat,T _ _ _ _ _;intro _)|(show T _ (.code .ret::_) _ _ _;refine T_retV [] rfl (Hle.none _) ⟨?_,rfl⟩))
     unfold tokE;rw [if_neg e1,if_neg e2,if_pos h5];rfl
    have e3:¬ formBad t=true:=by rw [h5];simp
    repeat' (first|refine d1 ?_|refine dd ?_|(show ∀ _:Nat,T _ _ _ _ _;intro _))
    refine T_if rfl (fun h6=>?_) (fun h6=>?_)
    ·repeat' (first|refine d1 ?_|refine dd ?_|(show ∀ _:Nat,T _ _ _ _ _;intro _)|(show T _ (.code .ret::_) _ _ _;refine T_retV [] rfl (Hle.none _) ⟨?_,rfl⟩))
     simp only [decide_eq_true_eq] at h6
     unfold tokE;rw [if_neg e1,if_neg e2,if_neg e3,if_pos h6];rfl
    simp only [decide_eq_false_iff_not] at h6
    repeat' (first|refine d1 ?_|refine dd ?_|(show T _ (.ops _ (_::_)::_) _ _ _;first|refine T_call rfl rfl rfl rfl rfl (fun w hw=>namedPrg_spec _ (by omega) w) ?_|refine T_callC rfl rfl rfl rfl rfl rfl rfl (fun hg w hw=>namedPrg_spec _ (by omega) w) ?_)|(show T _ (.run _ _ (_::_) _ _::_) _ _ _;first|refine rc rfl rfl rfl rfl rfl rfl rfl (fun w hw=>namedPrg_spec _ (by omega) w) ?_|refine rcG rfl rfl rfl rfl rfl rfl rfl rfl rfl (fun hg w hw=>namedPrg_spec _ (by omega) w) ?_)|(show ∀ _:Nat,T _ _ _ _ _;intro _))
    refine T_if rfl (fun h7=>?_) (fun h7=>?_)
    ·repeat' (first|refine d1 ?_|refine dd ?_|(show ∀ _:Nat,T _ _ _ _ _;intro _)|(show T _ (.code .ret::_) _ _ _;refine T_retV [] rfl (Hle.none _) ⟨?_,rfl⟩))
     unfold tokE;rw [if_neg e1,if_neg e2,if_neg e3,if_neg h6,if_pos h7];rfl
    ·repeat' (first|refine d1 ?_|refine dd ?_|(show ∀ _:Nat,T _ _ _ _ _;intro _)|(show T _ (.code .ret::_) _ _ _;refine T_retV [] rfl (Hle.none _) ⟨?_,rfl⟩))
     unfold tokE;rw [if_neg e1,if_neg e2,if_neg e3,if_neg h6,if_neg (by rw [h7];simp)];rfl
  ·skip
   show T _ [_,_,_,_,_] _ _ _
   refine T_cutAt 2 (fun _:Unit=>[(1, .pointer (some ⟨b,0,none⟩)),(28, .bool (formBad t))]) (fun _=>[blk b t.cells 42]) (fun _=>True) rfl ?_ ?_
   ·have hfb:formBad t=(!isWordB t.text || decide (t.norm=ByteArray.mk #[]) || decide ((64:Int)<t.norm.size) || !normB t.norm):=by unfold formBad;rw [if_neg (by rw [h3];simp),if_neg (by rw [h4];simp)]
    repeat' (first|refine d1 ?_|refine dd ?_|(show T _ (.ops _ (_::_)::_) _ _ _;first|refine T_call rfl rfl rfl rfl rfl (fun w hw=>isWordPrg_spec _ w) ?_|refine T_callC rfl rfl rfl rfl rfl rfl rfl (fun hg w hw=>isWordPrg_spec _ w) ?_)|(show T _ (.run _ _ (_::_) _ _::_) _ _ _;first|refine rc rfl rfl rfl rfl rfl rfl rfl (fun w hw=>isWordPrg_spec _ w) ?_|refine rcG rfl rfl rfl rfl rfl rfl rfl rfl rfl (fun hg w hw=>isWordPrg_spec _ w) ?_)|(show ∀ _:Nat,T _ _ _ _ _;intro _))
    refine T_if rfl (fun h5=>?_) (fun h5=>?_)
    ·repeat' (first|refine d1 ?_|refine dd ?_|(show ∀ _:Nat,T _ _ _ _ _;intro _)|(show T _ _ _ _ _;refine T_meet () trivial ⟨rfl,?_,trivial⟩ (Hle.refl _)))
     refine congrArg (fun q=>some (Value.bool q)) ?_
     rw [hfb];rw [h5];rfl
    ·repeat' (first|refine d1 ?_|refine dd ?_|(show T _ (.ops _ (_::_)::_) _ _ _;first|refine T_loadA rfl rfl rfl rfl rfl (rdOwn (vs:=t.cells) (fun j u hu=>by rw [Nat.zero_add];exact hu)) rfl ?_|refine T_call rfl rfl rfl rfl rfl (fun w hw=>isWordTok_spec t (by omega) w) ?_|refine T_callC rfl rfl rfl rfl rfl rfl rfl (fun hg w hw=>isWordTok_spec t (by omega) w) ?_|refine T_call rfl rfl rfl rfl rfl (fun w hw=>normPrg_spec _ (by omega) w) ?_|refine T_callC rfl rfl rfl rfl rfl rfl rfl (fun hg w hw=>normPrg_spec _ (by omega) w) ?_)|(show T _ (.run _ _ (_::_) _ _::_) _ _ _;first|refine rc rfl rfl rfl rfl rfl rfl rfl (fun w hw=>isWordTok_spec t (by omega) w) ?_|refine rcG rfl rfl rfl rfl rfl rfl rfl rfl rfl (fun hg w hw=>isWordTok_spec t (by omega) w) ?_|refine rc rfl rfl rfl rfl rfl rfl rfl (fun w hw=>normPrg_spec _ (by omega) w) ?_|refine rcG rfl rfl rfl rfl rfl rfl rfl rfl rfl (fun hg w hw=>normPrg_spec _ (by omega) w) ?_)|(show ∀ _:Nat,T _ _ _ _ _;intro _))
     refine T_if rfl (fun h6=>?_) (fun h6=>?_)
     ·repeat' (first|refine d1 ?_|refine dd ?_|(show ∀ _:Nat,T _ _ _ _ _;intro _)|(show T _ _ _ _ _;refine T_meet () trivial ⟨rfl,?_,trivial⟩ (Hle.refl _)))
      refine congrArg (fun q=>some (Value.bool q)) ?_
      rw [hfb,h3,h4,lt_le64];rw [h3,h4] at h6;exact word_case1 h5 h6
     ·repeat' (first|refine d1 ?_|refine dd ?_|(show T _ (.ops _ (_::_)::_) _ _ _;first|refine T_loadA rfl rfl rfl rfl rfl (rdOwn (vs:=t.cells) (fun j u hu=>by rw [Nat.zero_add];exact hu)) rfl ?_|refine T_call rfl rfl rfl rfl rfl (fun w hw=>isWordTok_spec t (by omega) w) ?_|refine T_callC rfl rfl rfl rfl rfl rfl rfl (fun hg w hw=>isWordTok_spec t (by omega) w) ?_)|(show T _ (.run _ _ (_::_) _ _::_) _ _ _;first|refine rc rfl rfl rfl rfl rfl rfl rfl (fun w hw=>isWordTok_spec t (by omega) w) ?_|refine rcG rfl rfl rfl rfl rfl rfl rfl rfl rfl (fun hg w hw=>isWordTok_spec t (by omega) w) ?_)|(show ∀ _:Nat,T _ _ _ _ _;intro _)|(show T _ _ _ _ _;refine T_meet () trivial ⟨rfl,?_,trivial⟩ (Hle.refl _)))
      refine congrArg (fun q=>some (Value.bool q)) ?_
      rw [hfb,h3,h4,lt_le64];rw [h3,h4] at h6;exact word_case2 h5 h6
   ·rintro⟨⟩ _
    repeat' (first|refine d1 ?_|refine dd ?_|(show ∀ _:Nat,T _ _ _ _ _;intro _))
    refine T_if rfl (fun h5=>?_) (fun h5=>?_)
    ·repeat' (first|refine d1 ?_|refine dd ?_|(show ∀ _:Nat,T _ _ _ _ _;intro _)|(show T _ (.code .ret::_) _ _ _;refine T_retV [] rfl (Hle.none _) ⟨?_,rfl⟩))
     unfold tokE;rw [if_neg e1,if_neg e2,if_pos h5];rfl
    have e3:¬ formBad t=true:=by rw [h5];simp
    repeat' (first|refine d1 ?_|refine dd ?_|(show ∀ _:Nat,T _ _ _ _ _;intro _))
    refine T_if rfl (fun h6=>?_) (fun h6=>?_)
    ·repeat' (first|refine d1 ?_|refine dd ?_|(show ∀ _:Nat,T _ _ _ _ _;intro _)|(show T _ (.code .ret::_) _ _ _;refine T_retV [] rfl (Hle.none _) ⟨?_,rfl⟩))
     simp only [decide_eq_true_eq] at h6
     unfold tokE;rw [if_neg e1,if_neg e2,if_neg e3,if_pos h6];rfl
    simp only [decide_eq_false_iff_not] at h6
    repeat' (first|refine d1 ?_|refine dd ?_|(show T _ (.ops _ (_::_)::_) _ _ _;first|refine T_call rfl rfl rfl rfl rfl (fun w hw=>namedPrg_spec _ (by omega) w) ?_|refine T_callC rfl rfl rfl rfl rfl rfl rfl (fun hg w hw=>namedPrg_spec _ (by omega) w) ?_)|(show T _ (.run _ _ (_::_) _ _::_) _ _ _;first|refine rc rfl rfl rfl rfl rfl rfl rfl (fun w hw=>namedPrg_spec _ (by omega) w) ?_|refine rcG rfl rfl rfl rfl rfl rfl rfl rfl rfl (fun hg w hw=>namedPrg_spec _ (by omega) w) ?_)|(show ∀ _:Nat,T _ _ _ _ _;intro _))
    refine T_if rfl (fun h7=>?_) (fun h7=>?_)
    ·repeat' (first|refine d1 ?_|refine dd ?_|(show ∀ _:Nat,T _ _ _ _ _;intro _)|(show T _ (.code .ret::_) _ _ _;refine T_retV [] rfl (Hle.none _) ⟨?_,rfl⟩))
     unfold tokE;rw [if_neg e1,if_neg e2,if_neg e3,if_neg h6,if_pos h7];rfl
    ·repeat' (first|refine d1 ?_|refine dd ?_|(show ∀ _:Nat,T _ _ _ _ _;intro _)|(show T _ (.code .ret::_) _ _ _;refine T_retV [] rfl (Hle.none _) ⟨?_,rfl⟩))
     unfold tokE;rw [if_neg e1,if_neg e2,if_neg e3,if_neg h6,if_neg (by rw [h7];simp)];rfl
end Go.Proofs.YtblnhdnogjijiaaGreatDoor
namespace Go.Proofs.YtblnhdnogjijiaaGreatDoor
open Go.RowKit Go.Shelf Go.Proofs
set_option maxRecDepth 100000
set_option maxHeartbeats 1000000

theorem distances_spec (n m:Nat) (hn:n≤65536) (hm:m≤65536) (f:FuncId) (fs cs:List Value) (e:Nat→Nat→Bool) (w:World)
  (hf:∀ i j,i<n→j<m→∀ w',Below w.heap.size w w'→Spec Tryz.prog f (fs++(.int .i64 (i:Nat) :: .int .i64 (j:Nat)::cs)) w' (fun v A=>v = .bool (e i j)∧A=[])) :
  Spec Tryz.prog 300 [.int .i64 n, .int .i64 m, .func (.func f) fs.toArray cs.toArray] w (fun v A=>v = .int .i64 (lv e n m)∧A=[]):=by
 refine spec_of sg Tryz.func300 rfl rfl rfl ?_
 repeat' (first|refine d1 ?_|(show ∀ _:Nat,T _ _ _ _ _;intro _))
 show T _ [_,_] _ _ _
 refine T_cutAt 1 (fun x:Nat × Nat=>[(0, .int .i64 n),(1, .int .i64 m),(2, .func (.func f) fs.toArray cs.toArray),(7, .slice (some ⟨x.1,0,none⟩) (m+1) (m+1)),(8, .slice (some ⟨x.2,0,none⟩) (m+1) (m+1))])
  (fun x=>[blk x.1 (valV (mx (lv e 0) (fun _=>0) 0) (m+1)) 3,blk x.2 (valV (fun _=>0) (m+1)) 3]) (fun _=>True) rfl ?_ ?_
 ·refine T_draw 1000 [] ?_
  refine T_dval 0 rfl (by kernel_rfl) (by kernel_rfl) (by kernel_rfl) (by kernel_rfl) (by kernel_rfl) rfl rfl (by first|exact Val.pure rfl|exact Val.vc rfl (fun hg=>by first|omega|(simp only [inK];omega)|exact True.intro|assumption)|exact Val.load rfl (fun _=>rdOwn1 rfl)|exact Val.loadA rfl (fun _=>rdAll) rfl) rfl rfl rfl (by first|exact Hle.refl _|exact Hle.none _|exact Hle.sub) ?_
  refine T_dval 1 rfl (by kernel_rfl) (by kernel_rfl) (by kernel_rfl) (by kernel_rfl) (by kernel_rfl) rfl rfl (by first|exact Val.pure rfl|exact Val.vc rfl (fun hg=>by first|omega|(simp only [inK];omega)|exact True.intro|assumption)|exact Val.load rfl (fun _=>rdOwn1 rfl)|exact Val.loadA rfl (fun _=>rdAll) rfl) rfl rfl rfl (by first|exact Hle.refl _|exact Hle.none _|exact Hle.sub) ?_
  refine T_dval 3 rfl (by kernel_rfl) (by kernel_rfl) (by kernel_rfl) (by kernel_rfl) (by kernel_rfl) rfl rfl (by first|exact Val.pure rfl|exact Val.vc rfl (fun hg=>by first|omega|(simp only [inK];omega)|exact True.intro|assumption)|exact Val.load rfl (fun _=>rdOwn1 rfl)|exact Val.loadA rfl (fun _=>rdAll) rfl) rfl rfl rfl (by first|exact Hle.refl _|exact Hle.none _|exact Hle.sub) ?_
  refine T_dval 4 rfl (by kernel_rfl) (by kernel_rfl) (by kernel_rfl) (by kernel_rfl) (by kernel_rfl) rfl rfl (by first|exact Val.pure rfl|exact Val.vc rfl (fun hg=>by first|omega|(simp only [inK];omega)|exact True.intro|assumption)|exact Val.load rfl (fun _=>rdOwn1 rfl)|exact Val.loadA rfl (fun _=>rdAll) rfl) rfl rfl rfl (by first|exact Hle.refl _|exact Hle.none _|exact Hle.sub) ?_
  refine T_dop2 2 5 (by kernel_rfl) rfl rfl (OpT.make rfl rfl rfl rfl rfl rfl rfl rfl rfl (by dsimp only;omega) (fun b1=>⟨fun _=>Hle.none _,?_⟩)) (OpT.make rfl rfl rfl rfl rfl rfl rfl rfl rfl (by dsimp only;omega) (fun b2=>⟨fun _=>Hle.none _,?_⟩))
  ·refine T_dval 6 rfl (by kernel_rfl) (by kernel_rfl) (by kernel_rfl) (by kernel_rfl) (by kernel_rfl) rfl rfl (Val.pure rfl) rfl rfl rfl (Hle.none _) ?_
   refine T_dop 5 (by kernel_rfl) rfl (OpT.make rfl rfl rfl rfl rfl rfl rfl rfl rfl (by dsimp only;omega) (fun b2=>⟨fun _=>Hle.none _,?_⟩))
   refine T_dval 7 rfl (by kernel_rfl) (by kernel_rfl) (by kernel_rfl) (by kernel_rfl) (by kernel_rfl) rfl rfl (Val.pure rfl) rfl rfl rfl (Hle.none _) ?_
   refine T_dend (by kernel_rfl) ?_
   refine T_le (H':=[blk b1 (valV (mx (lv e 0) (fun _=>0) 0) (m+1)) 3,blk b2 (valV (fun _=>0) (m+1)) 3]) ?_ (T_meet (b1,b2) trivial ⟨rfl,rfl,rfl,rfl,rfl,trivial⟩ (Hle.refl _))
   show Hle [blk b2 (List.replicate (m+1) (.int .i64 0)) 3,blk b1 (List.replicate (m+1) (.int .i64 0)) 3] _
   rw [valV_replicate,valV_mx_zero]
   exact Hle.perm (List.Perm.swap _ _ _)
  ·skip
   refine T_dop 2 (by kernel_rfl) rfl (OpT.make rfl rfl rfl rfl rfl rfl rfl rfl rfl (by dsimp only;omega) (fun b1=>⟨fun _=>Hle.none _,?_⟩))
   refine T_dval 6 rfl (by kernel_rfl) (by kernel_rfl) (by kernel_rfl) (by kernel_rfl) (by kernel_rfl) rfl rfl (Val.pure rfl) rfl rfl rfl (Hle.none _) ?_
   refine T_dval 7 rfl (by kernel_rfl) (by kernel_rfl) (by kernel_rfl) (by kernel_rfl) (by kernel_rfl) rfl rfl (Val.pure rfl) rfl rfl rfl (Hle.none _) ?_
   refine T_dend (by kernel_rfl) ?_
   refine T_le (H':=[blk b1 (valV (mx (lv e 0) (fun _=>0) 0) (m+1)) 3,blk b2 (valV (fun _=>0) (m+1)) 3]) ?_ (T_meet (b1,b2) trivial ⟨rfl,rfl,rfl,rfl,rfl,trivial⟩ (Hle.refl _))
   show Hle [blk b1 (List.replicate (m+1) (.int .i64 0)) 3,blk b2 (List.replicate (m+1) (.int .i64 0)) 3] _
   rw [valV_replicate,valV_mx_zero]
   exact Hle.refl _
 ·rintro⟨b1,b2⟩ _
  dsimp only
  repeat' (first|refine d1 ?_|refine dd ?_|(show ∀ _:Nat,T _ _ _ _ _;intro _))
  refine T_loop (fun k:Nat=>[(0, .int .i64 n),(1, .int .i64 m),(2, .func (.func f) fs.toArray cs.toArray),(7, .slice (some ⟨b1,0,none⟩) (m+1) (m+1)),(8, .slice (some ⟨b2,0,none⟩) (m+1) (m+1)),(20, .int .i64 ((m+1:Nat):Int)),(21, .int .i64 k)])
   (fun k=>[blk b1 (valV (mx (lv e 0) (fun _=>0) k) (m+1)) 3,blk b2 (valV (fun _=>0) (m+1)) 3]) (fun k=>k≤m+1) (fun k=>m+1 - k) 0 (Nat.zero_le _) ⟨rfl,rfl,rfl,rfl,rfl,rfl,rfl,trivial⟩ (Hle.refl _) ?_
  ·intro k hk
   repeat' (first|refine d1 ?_|refine dd ?_|(show ∀ _:Nat,T _ _ _ _ _;intro _))
   refine T_if rfl (fun h=>?_) (fun h=>?_)
   ·simp only [decide_eq_true_eq] at h
    repeat' (first|refine d1 ?_|refine dd ?_|(show T _ (.ops _ (_::_)::_) _ _ _;refine T_op (OpT.store (b:=b1) rfl rfl rfl rfl (by rw [valV_length];omega) ?_))|(show ∀ _:Nat,T _ _ _ _ _;intro _))
    refine T_back (k+1) (by omega) (by omega) ⟨rfl,rfl,rfl,rfl,rfl,rfl,rfl,trivial⟩ ?_
    show Hle [blk b1 ((valV (mx (lv e 0) (fun _=>0) k) (m+1)).set (0+k * 1) (.int .i64 k)) 3,_] _
    rw [show 0+k * 1=k by omega,valV_set (f:=lv e 0) (x:=(k:Int)) rfl]
    exact Hle.refl _
   ·simp only [decide_eq_false_iff_not] at h
    rw [valV_mx_full _ _ _ _ (by omega)]
    repeat' (first|refine d1 ?_|refine dd ?_|(show ∀ _:Nat,T _ _ _ _ _;intro _))
    refine T_loop (fun x:Nat × (Nat→Int) × Nat × Nat=>[(0, .int .i64 n),(1, .int .i64 m),(2, .func (.func f) fs.toArray cs.toArray),(7, .slice (some ⟨x.2.2.1,0,none⟩) (m+1) (m+1)),(8, .slice (some ⟨x.2.2.2,0,none⟩) (m+1) (m+1)),(29, .int .i64 n),(30, .int .i64 x.1)])
     (fun x=>[blk x.2.2.1 (valV (lv e x.1) (m+1)) 3,blk x.2.2.2 (valV x.2.1 (m+1)) 3]) (fun x=>x.1≤n) (fun x=>n - x.1) (0,(fun _=>0),b1,b2) (Nat.zero_le _) ⟨rfl,rfl,rfl,rfl,rfl,rfl,rfl,trivial⟩ (Hle.refl _) ?_
    rintro⟨i,g,b1,b2⟩ hi
    dsimp only at hi ⊢
    repeat' (first|refine d1 ?_|refine dd ?_|(show ∀ _:Nat,T _ _ _ _ _;intro _))
    refine T_if rfl (fun h1=>?_) (fun h1=>?_)
    ·simp only [decide_eq_true_eq] at h1
     repeat' (first|refine d1 ?_|refine dd ?_|(show T _ (.ops _ (_::_)::_) _ _ _;refine T_op (OpT.store (b:=b2) rfl rfl rfl rfl (by rw [valV_length];omega) ?_))|(show ∀ _:Nat,T _ _ _ _ _;intro _))
     refine T_le (H':=[blk b1 (valV (lv e i) (m+1)) 3,blk b2 (valV (mx (lv e (i+1)) g 1) (m+1)) 3]) ?_ ?_
     ·show Hle [_,blk b2 ((valV g (m+1)).set 0 (.int .i64 ((i:Int)+1))) 3] _
      rw [← valV_mx_zero (lv e (i+1)) g,valV_set (f:=lv e (i+1)) (x:=(i:Int)+1) rfl]
      exact Hle.refl _
     refine T_loop (fun k:Nat=>[(0, .int .i64 n),(1, .int .i64 m),(2, .func (.func f) fs.toArray cs.toArray),(7, .slice (some ⟨b1,0,none⟩) (m+1) (m+1)),(8, .slice (some ⟨b2,0,none⟩) (m+1) (m+1)),(29, .int .i64 n),(30, .int .i64 i),(10, .int .i64 i),(37, .int .i64 m),(38, .int .i64 k)])
      (fun k=>[blk b1 (valV (lv e i) (m+1)) 3,blk b2 (valV (mx (lv e (i+1)) g (k+1)) (m+1)) 3]) (fun k=>k≤m) (fun k=>m - k) 0 (Nat.zero_le _) ⟨rfl,rfl,rfl,rfl,rfl,rfl,rfl,rfl,rfl,rfl,trivial⟩ (Hle.refl _) ?_
     intro k hk
     repeat' (first|refine d1 ?_|refine dd ?_|(show ∀ _:Nat,T _ _ _ _ _;intro _))
     refine T_if rfl (fun h2=>?_) (fun h2=>?_)
     ·simp only [decide_eq_true_eq] at h2
      repeat' (first|refine d1 ?_|(show T _ (.ops _ (_::_)::_) _ _ _;first|refine T_call rfl rfl rfl rfl rfl (fun w hw=>hf i k (by omega) (by omega) w hw.below) ?_|refine T_callC rfl rfl rfl rfl rfl rfl rfl (fun hg w hw=>hf i k (by omega) (by omega) w hw.below) ?_)|(show T _ (.run _ _ (_::_) _ _::_) _ _ _;first|refine rc rfl rfl rfl rfl rfl rfl rfl (fun w hw=>hf i k (by omega) (by omega) w hw.below) ?_|refine rcG rfl rfl rfl rfl rfl rfl rfl rfl rfl (fun hg w hw=>hf i k (by omega) (by omega) w hw.below) ?_)|(show ∀ _:Nat,T _ _ _ _ _;intro _))
      show T _ (_::_) _ _ _
      refine T_cutAt 1 (fun _:Unit=>[(0, .int .i64 n),(1, .int .i64 m),(2, .func (.func f) fs.toArray cs.toArray),(7, .slice (some ⟨b1,0,none⟩) (m+1) (m+1)),(8, .slice (some ⟨b2,0,none⟩) (m+1) (m+1)),(29, .int .i64 n),(30, .int .i64 i),(10, .int .i64 i),(37, .int .i64 m),(38, .int .i64 k),(11, .int .i64 k),(12, .int .i64 (if e i k then 0 else 1))])
       (fun _=>[blk b1 (valV (lv e i) (m+1)) 3,blk b2 (valV (mx (lv e (i+1)) g (k+1)) (m+1)) 3]) (fun _=>True) rfl ?_ ?_
      ·refine T_if rfl (fun h3=>?_) (fun h3=>?_)
       ·rw [h3]
        repeat' (first|refine d1 ?_|refine dd ?_|(show ∀ _:Nat,T _ _ _ _ _;intro _)|(show T _ _ _ _ _;refine T_meet () trivial ⟨rfl,rfl,rfl,rfl,rfl,rfl,rfl,rfl,rfl,rfl,rfl,rfl,trivial⟩ (Hle.refl _)))
       ·rw [h3]
        repeat' (first|refine d1 ?_|refine dd ?_|(show ∀ _:Nat,T _ _ _ _ _;intro _)|(show T _ _ _ _ _;refine T_meet () trivial ⟨rfl,rfl,rfl,rfl,rfl,rfl,rfl,rfl,rfl,rfl,rfl,rfl,trivial⟩ (Hle.refl _)))
      ·rintro⟨⟩ _
       have B1:=lv_bd e i k
       have B2:=lv_bd e i (k+1)
       have B3:=lv_bd e (i+1) k
       have B4:0≤(if e i k then (0:Int) else 1)∧(if e i k then (0:Int) else 1)≤1:=by split <;> omega
       show T _ (.code (.region _ _ true)::_) _ _ _
       refine T_draw 22 [blk b1 (valV (lv e i) (m+1)) 3,blk b2 (valV (mx (lv e (i+1)) g (k+1)) (m+1)) 3] ?_
       refine T_dval 0 rfl (by kernel_rfl) (by kernel_rfl) (by kernel_rfl) (by kernel_rfl) (by kernel_rfl) rfl rfl (by first|exact Val.pure rfl|exact Val.vc rfl (fun hg=>by first|omega|(simp only [inK];omega)|exact True.intro|assumption)|exact Val.load rfl (fun _=>rdOwn1 rfl)|exact Val.loadA rfl (fun _=>rdAll) rfl) rfl rfl rfl (by first|exact Hle.refl _|exact Hle.none _|exact Hle.sub) ?_
       refine T_dval 1 rfl (by kernel_rfl) (by kernel_rfl) (by kernel_rfl) (by kernel_rfl) (by kernel_rfl) rfl rfl (by first|exact Val.pure rfl|exact Val.vc rfl (fun hg=>by first|omega|(simp only [inK];omega)|exact True.intro|assumption)|exact Val.load rfl (fun _=>rdOwn1 rfl)|exact Val.loadA rfl (fun _=>rdAll) rfl) rfl rfl rfl (by first|exact Hle.refl _|exact Hle.none _|exact Hle.sub) ?_
       refine T_dval 2 rfl (by kernel_rfl) (by kernel_rfl) (by kernel_rfl) (by kernel_rfl) (by kernel_rfl) rfl rfl (by first|exact Val.pure rfl|exact Val.vc rfl (fun hg=>by first|omega|(simp only [inK];omega)|exact True.intro|assumption)|exact Val.load rfl (fun _=>rdOwn1 rfl)|exact Val.loadA rfl (fun _=>rdAll) rfl) rfl rfl rfl (by first|exact Hle.refl _|exact Hle.none _|exact Hle.sub) ?_
       refine T_dval 3 rfl (by kernel_rfl) (by kernel_rfl) (by kernel_rfl) (by kernel_rfl) (by kernel_rfl) rfl rfl (by first|exact Val.pure rfl|exact Val.vc rfl (fun hg=>by first|omega|(simp only [inK];omega)|exact True.intro|assumption)|exact Val.load rfl (fun _=>rdOwn1 rfl)|exact Val.loadA rfl (fun _=>rdAll) rfl) rfl rfl rfl (by first|exact Hle.refl _|exact Hle.none _|exact Hle.sub) ?_
       refine T_dval 4 rfl (by kernel_rfl) (by kernel_rfl) (by kernel_rfl) (by kernel_rfl) (by kernel_rfl) rfl rfl (by first|exact Val.pure rfl|exact Val.vc rfl (fun hg=>by first|omega|(simp only [inK];omega)|exact True.intro|assumption)|exact Val.load rfl (fun _=>rdOwn1 rfl)|exact Val.loadA rfl (fun _=>rdAll) rfl) rfl rfl rfl (by first|exact Hle.refl _|exact Hle.none _|exact Hle.sub) ?_
       refine T_dval 5 rfl (by kernel_rfl) (by kernel_rfl) (by kernel_rfl) (by kernel_rfl) (by kernel_rfl) rfl rfl (by first|exact Val.pure rfl|exact Val.vc rfl (fun hg=>by first|omega|(simp only [inK];omega)|exact True.intro|assumption)|exact Val.load rfl (fun _=>rdOwn1 rfl)|exact Val.loadA rfl (fun _=>rdAll) rfl) rfl rfl rfl (by first|exact Hle.refl _|exact Hle.none _|exact Hle.sub) ?_
       refine T_dval 6 rfl (by kernel_rfl) (by kernel_rfl) (by kernel_rfl) (by kernel_rfl) (by kernel_rfl) rfl rfl (Val.load (v := .int .i64 (lv e i k)) rfl (fun _=>rdOwn1 (b:=b1) (vget k (by omega) (by omega)))) rfl rfl rfl (by first|exact Hle.refl _|exact Hle.none _) ?_
       refine T_dval 7 rfl (by kernel_rfl) (by kernel_rfl) (by kernel_rfl) (by kernel_rfl) (by kernel_rfl) rfl rfl (by first|exact Val.pure rfl|exact Val.vc rfl (fun hg=>by first|omega|(simp only [inK];omega)|exact True.intro|assumption)|exact Val.load rfl (fun _=>rdOwn1 rfl)|exact Val.loadA rfl (fun _=>rdAll) rfl) rfl rfl rfl (by first|exact Hle.refl _|exact Hle.none _|exact Hle.sub) ?_
       refine T_dval 8 rfl (by kernel_rfl) (by kernel_rfl) (by kernel_rfl) (by kernel_rfl) (by kernel_rfl) rfl rfl (by first|exact Val.pure rfl|exact Val.vc rfl (fun hg=>by first|omega|(simp only [inK];omega)|exact True.intro|assumption)|exact Val.load rfl (fun _=>rdOwn1 rfl)|exact Val.loadA rfl (fun _=>rdAll) rfl) rfl rfl rfl (by first|exact Hle.refl _|exact Hle.none _|exact Hle.sub) ?_
       refine T_dval 9 rfl (by kernel_rfl) (by kernel_rfl) (by kernel_rfl) (by kernel_rfl) (by kernel_rfl) rfl rfl (by first|exact Val.pure rfl|exact Val.vc rfl (fun hg=>by first|omega|(simp only [inK];omega)|exact True.intro|assumption)|exact Val.load rfl (fun _=>rdOwn1 rfl)|exact Val.loadA rfl (fun _=>rdAll) rfl) rfl rfl rfl (by first|exact Hle.refl _|exact Hle.none _|exact Hle.sub) ?_
       refine T_dval 10 rfl (by kernel_rfl) (by kernel_rfl) (by kernel_rfl) (by kernel_rfl) (by kernel_rfl) rfl rfl (by first|exact Val.pure rfl|exact Val.vc rfl (fun hg=>by first|omega|(simp only [inK];omega)|exact True.intro|assumption)|exact Val.load rfl (fun _=>rdOwn1 rfl)|exact Val.loadA rfl (fun _=>rdAll) rfl) rfl rfl rfl (by first|exact Hle.refl _|exact Hle.none _|exact Hle.sub) ?_
       refine T_dval 11 rfl (by kernel_rfl) (by kernel_rfl) (by kernel_rfl) (by kernel_rfl) (by kernel_rfl) rfl rfl (by first|exact Val.pure rfl|exact Val.vc rfl (fun hg=>by first|omega|(simp only [inK];omega)|exact True.intro|assumption)|exact Val.load rfl (fun _=>rdOwn1 rfl)|exact Val.loadA rfl (fun _=>rdAll) rfl) rfl rfl rfl (by first|exact Hle.refl _|exact Hle.none _|exact Hle.sub) ?_
       refine T_dval 12 rfl (by kernel_rfl) (by kernel_rfl) (by kernel_rfl) (by kernel_rfl) (by kernel_rfl) rfl rfl (by first|exact Val.pure rfl|exact Val.vc rfl (fun hg=>by first|omega|(simp only [inK];omega)|exact True.intro|assumption)|exact Val.load rfl (fun _=>rdOwn1 rfl)|exact Val.loadA rfl (fun _=>rdAll) rfl) rfl rfl rfl (by first|exact Hle.refl _|exact Hle.none _|exact Hle.sub) ?_
       refine T_dval 13 rfl (by kernel_rfl) (by kernel_rfl) (by kernel_rfl) (by kernel_rfl) (by kernel_rfl) rfl rfl (Val.load (v := .int .i64 (lv e i (k+1))) rfl (fun _=>rdOwn1 (b:=b1) (vget (k+1) (by omega) (by omega)))) rfl rfl rfl (by first|exact Hle.refl _|exact Hle.none _) ?_
       refine T_dval 14 rfl (by kernel_rfl) (by kernel_rfl) (by kernel_rfl) (by kernel_rfl) (by kernel_rfl) rfl rfl (by first|exact Val.pure rfl|exact Val.vc rfl (fun hg=>by first|omega|(simp only [inK];omega)|exact True.intro|assumption)|exact Val.load rfl (fun _=>rdOwn1 rfl)|exact Val.loadA rfl (fun _=>rdAll) rfl) rfl rfl rfl (by first|exact Hle.refl _|exact Hle.none _|exact Hle.sub) ?_
       refine T_dval 15 rfl (by kernel_rfl) (by kernel_rfl) (by kernel_rfl) (by kernel_rfl) (by kernel_rfl) rfl rfl (by first|exact Val.pure rfl|exact Val.vc rfl (fun hg=>by first|omega|(simp only [inK];omega)|exact True.intro|assumption)|exact Val.load rfl (fun _=>rdOwn1 rfl)|exact Val.loadA rfl (fun _=>rdAll) rfl) rfl rfl rfl (by first|exact Hle.refl _|exact Hle.none _|exact Hle.sub) ?_
       refine T_dval 16 rfl (by kernel_rfl) (by kernel_rfl) (by kernel_rfl) (by kernel_rfl) (by kernel_rfl) rfl rfl (by first|exact Val.pure rfl|exact Val.vc rfl (fun hg=>by first|omega|(simp only [inK];omega)|exact True.intro|assumption)|exact Val.load rfl (fun _=>rdOwn1 rfl)|exact Val.loadA rfl (fun _=>rdAll) rfl) rfl rfl rfl (by first|exact Hle.refl _|exact Hle.none _|exact Hle.sub) ?_
       refine T_dval 17 rfl (by kernel_rfl) (by kernel_rfl) (by kernel_rfl) (by kernel_rfl) (by kernel_rfl) rfl rfl (by first|exact Val.pure rfl|exact Val.vc rfl (fun hg=>by first|omega|(simp only [inK];omega)|exact True.intro|assumption)|exact Val.load rfl (fun _=>rdOwn1 rfl)|exact Val.loadA rfl (fun _=>rdAll) rfl) rfl rfl rfl (by first|exact Hle.refl _|exact Hle.none _|exact Hle.sub) ?_
       refine T_dval 18 rfl (by kernel_rfl) (by kernel_rfl) (by kernel_rfl) (by kernel_rfl) (by kernel_rfl) rfl rfl (Val.load (v := .int .i64 (lv e (i+1) k)) rfl (fun _=>rdOwn1 (b:=b2) (vgetm k (by omega) (by omega) (by omega)))) rfl rfl rfl (by first|exact Hle.refl _|exact Hle.none _) ?_
       refine T_dval 19 rfl (by kernel_rfl) (by kernel_rfl) (by kernel_rfl) (by kernel_rfl) (by kernel_rfl) rfl rfl (by first|exact Val.pure rfl|exact Val.vc rfl (fun hg=>by first|omega|(simp only [inK];omega)|exact True.intro|assumption)|exact Val.load rfl (fun _=>rdOwn1 rfl)|exact Val.loadA rfl (fun _=>rdAll) rfl) rfl rfl rfl (by first|exact Hle.refl _|exact Hle.none _|exact Hle.sub) ?_
       refine T_dval 20 rfl (by kernel_rfl) (by kernel_rfl) (by kernel_rfl) (by kernel_rfl) (by kernel_rfl) rfl rfl (by first|exact Val.pure rfl|exact Val.vc rfl (fun hg=>by first|omega|(simp only [inK];omega)|exact True.intro|assumption)|exact Val.load rfl (fun _=>rdOwn1 rfl)|exact Val.loadA rfl (fun _=>rdAll) rfl) rfl rfl rfl (by first|exact Hle.refl _|exact Hle.none _|exact Hle.sub) ?_
       refine T_dval 21 rfl (by kernel_rfl) (by kernel_rfl) (by kernel_rfl) (by kernel_rfl) (by kernel_rfl) rfl rfl (by first|exact Val.pure rfl|exact Val.vc rfl (fun hg=>by first|omega|(simp only [inK];omega)|exact True.intro|assumption)|exact Val.load rfl (fun _=>rdOwn1 rfl)|exact Val.loadA rfl (fun _=>rdAll) rfl) rfl rfl rfl (by first|exact Hle.refl _|exact Hle.none _|exact Hle.sub) ?_
       refine T_dop 22 (by kernel_rfl) rfl (OpT.store (b:=b2) rfl rfl rfl rfl (by rw [valV_length];omega) ⟨fun h=>(by cases h),?_⟩)
       refine T_dend (by kernel_rfl) ?_
       repeat' (first|refine d1 ?_|refine dd ?_|(show ∀ _:Nat,T _ _ _ _ _;intro _))
       refine T_back (k+1) (by omega) (by omega) ⟨rfl,rfl,rfl,rfl,rfl,rfl,rfl,rfl,rfl,rfl,trivial⟩ ?_
       show Hle [_,blk b2 ((valV (mx (lv e (i+1)) g (k+1)) (m+1)).set (0+(k+1) * 1) (.int .i64 (min (min (lv e i k+if e i k then 0 else 1) (lv e i (k+1)+1)) (lv e (i+1) k+1)))) 3] _
       rw [show 0+(k+1) * 1=k+1 by omega,valV_set (f:=lv e (i+1)) (by rw [lv_step];omega)]
       exact Hle.refl _
     ·simp only [decide_eq_false_iff_not] at h2
      rw [valV_mx_full _ _ _ _ (by omega)]
      repeat' (first|refine d1 ?_|refine dd ?_|(show ∀ _:Nat,T _ _ _ _ _;intro _))
      exact T_back (i+1,lv e i,b2,b1) (Nat.succ_le_of_lt (by omega)) (by dsimp only;omega) ⟨rfl,rfl,rfl,rfl,rfl,rfl,rfl,trivial⟩ (Hle.perm (List.Perm.swap _ _ _))
    ·simp only [decide_eq_false_iff_not] at h1
     have hin:i=n:=by omega
     subst hin
     repeat' (first|refine d1 ?_|refine dd ?_|(show T _ (.ops _ (_::_)::_) _ _ _;refine T_load (v := .int .i64 (lv e i m)) rfl rfl rfl rfl rfl (rdOwn1 (b:=b1) (vget m (by omega) (by omega))) ?_)|(show ∀ _:Nat,T _ _ _ _ _;intro _)|(show T _ (.code .ret::_) _ _ _;refine T_retV [] rfl (Hle.none _) ⟨rfl,rfl⟩))

def eqB (a b:ByteArray) (i j:Nat):Bool:=decide (((byteAt a (i:Int)).toNat:Int)=((byteAt b (j:Int)).toNat:Int))
theorem equal1_spec (a b:ByteArray) (p2 p3 ba bb ca cb i j:Nat) (hi:i<a.size) (hj:j<b.size) (w:World) (h2:RdC w p2 0 [.slice (some ⟨ba,0,none⟩) a.size ca]) (h3:RdC w p3 0 [.slice (some ⟨bb,0,none⟩) b.size cb]) (ha:RdC w ba 0 (byteVals a)) (hb:RdC w bb 0 (byteVals b)) :
  Spec Tryz.prog 306 [.int .i64 i, .int .i64 j, .pointer (some ⟨p2,0,none⟩), .pointer (some ⟨p3,0,none⟩)] w (fun v A=>v = .bool (eqB a b i j)∧A=[]):=by
 refine spec_of sg Tryz.func306 rfl rfl rfl ?_
 have hx:∀ {s:ByteArray} {c k:Nat},RdC w c 0 (byteVals s)→k<s.size→RdC w c (0+(k:Int).toNat * 1) [.int .u8 ((byteAt s (k:Int)).toNat:Nat)]:=by
  intro s c k h hk q u hu
  rw [show 0+(k:Int).toNat * 1=k by omega]
  cases q with
  | zero =>
   simp at hu;subst hu
   have:=h k _ (byteVals_get hk)
   simpa using this
  | succ q=>simp at hu
 repeat' (first|refine d1 ?_|(show ∀ _:Nat,T _ _ _ _ _;intro _))
 show T _ (.code (.region _ _ true)::_) _ _ _
 refine T_draw 1000 [] ?_
 refine T_dval 0 rfl (by kernel_rfl) (by kernel_rfl) (by kernel_rfl) (by kernel_rfl) (by kernel_rfl) rfl rfl (Val.load (v := .slice (some ⟨ba,0,none⟩) a.size ca) rfl (fun _=>rdOld h2)) rfl rfl rfl (by first|exact Hle.refl _|exact Hle.none _) ?_
 refine T_dval 1 rfl (by kernel_rfl) (by kernel_rfl) (by kernel_rfl) (by kernel_rfl) (by kernel_rfl) rfl rfl (by first|exact Val.pure rfl|exact Val.vc rfl (fun hg=>by first|omega|(simp only [inK];omega)|exact True.intro|assumption)|exact Val.load rfl (fun _=>rdOwn1 rfl)|exact Val.loadA rfl (fun _=>rdAll) rfl) rfl rfl rfl (by first|exact Hle.refl _|exact Hle.none _|exact Hle.sub) ?_
 refine T_dval 2 rfl (by kernel_rfl) (by kernel_rfl) (by kernel_rfl) (by kernel_rfl) (by kernel_rfl) rfl rfl (by first|exact Val.pure rfl|exact Val.vc rfl (fun hg=>by first|omega|(simp only [inK];omega)|exact True.intro|assumption)|exact Val.load rfl (fun _=>rdOwn1 rfl)|exact Val.loadA rfl (fun _=>rdAll) rfl) rfl rfl rfl (by first|exact Hle.refl _|exact Hle.none _|exact Hle.sub) ?_
 refine T_dval 3 rfl (by kernel_rfl) (by kernel_rfl) (by kernel_rfl) (by kernel_rfl) (by kernel_rfl) rfl rfl (Val.load (v := .int .u8 ((byteAt a (i:Int)).toNat:Nat)) rfl (fun _=>rdOld (hx ha hi))) rfl rfl rfl (by first|exact Hle.refl _|exact Hle.none _) ?_
 refine T_dval 4 rfl (by kernel_rfl) (by kernel_rfl) (by kernel_rfl) (by kernel_rfl) (by kernel_rfl) rfl rfl (Val.load (v := .slice (some ⟨bb,0,none⟩) b.size cb) rfl (fun _=>rdOld h3)) rfl rfl rfl (by first|exact Hle.refl _|exact Hle.none _) ?_
 refine T_dval 5 rfl (by kernel_rfl) (by kernel_rfl) (by kernel_rfl) (by kernel_rfl) (by kernel_rfl) rfl rfl (by first|exact Val.pure rfl|exact Val.vc rfl (fun hg=>by first|omega|(simp only [inK];omega)|exact True.intro|assumption)|exact Val.load rfl (fun _=>rdOwn1 rfl)|exact Val.loadA rfl (fun _=>rdAll) rfl) rfl rfl rfl (by first|exact Hle.refl _|exact Hle.none _|exact Hle.sub) ?_
 refine T_dval 6 rfl (by kernel_rfl) (by kernel_rfl) (by kernel_rfl) (by kernel_rfl) (by kernel_rfl) rfl rfl (by first|exact Val.pure rfl|exact Val.vc rfl (fun hg=>by first|omega|(simp only [inK];omega)|exact True.intro|assumption)|exact Val.load rfl (fun _=>rdOwn1 rfl)|exact Val.loadA rfl (fun _=>rdAll) rfl) rfl rfl rfl (by first|exact Hle.refl _|exact Hle.none _|exact Hle.sub) ?_
 refine T_dval 7 rfl (by kernel_rfl) (by kernel_rfl) (by kernel_rfl) (by kernel_rfl) (by kernel_rfl) rfl rfl (Val.load (v := .int .u8 ((byteAt b (j:Int)).toNat:Nat)) rfl (fun _=>rdOld (hx hb hj))) rfl rfl rfl (by first|exact Hle.refl _|exact Hle.none _) ?_
 refine T_dval 8 rfl (by kernel_rfl) (by kernel_rfl) (by kernel_rfl) (by kernel_rfl) (by kernel_rfl) rfl rfl (by first|exact Val.pure rfl|exact Val.vc rfl (fun hg=>by first|omega|(simp only [inK];omega)|exact True.intro|assumption)|exact Val.load rfl (fun _=>rdOwn1 rfl)|exact Val.loadA rfl (fun _=>rdAll) rfl) rfl rfl rfl (by first|exact Hle.refl _|exact Hle.none _|exact Hle.sub) ?_
 refine T_dval 9 rfl (by kernel_rfl) (by kernel_rfl) (by kernel_rfl) (by kernel_rfl) (by kernel_rfl) rfl rfl (by first|exact Val.pure rfl|exact Val.vc rfl (fun hg=>by first|omega|(simp only [inK];omega)|exact True.intro|assumption)|exact Val.load rfl (fun _=>rdOwn1 rfl)|exact Val.loadA rfl (fun _=>rdAll) rfl) rfl rfl rfl (by first|exact Hle.refl _|exact Hle.none _|exact Hle.sub) ?_
 refine T_dend (by kernel_rfl) ?_
 repeat' (first|refine d1 ?_|refine dd ?_|(show ∀ _:Nat,T _ _ _ _ _;intro _)|(show T _ (.code .ret::_) _ _ _;refine T_retV [] rfl (Hle.none _) ⟨rfl,rfl⟩))
theorem equal_spec (sa sb:Value) (ha:sa.cells = #[sa]) (hb:sb.cells = #[sb]) (w:World):Spec Tryz.prog 301 [sa,sb] w (fun v A=>∃ p2 p3,v = .func (.func 306) #[] #[.pointer (some ⟨p2,0,none⟩), .pointer (some ⟨p3,0,none⟩)]∧A=[blk p3 [sb] 87,blk p2 [sa] 87]):=by
 refine spec_of sg Tryz.func301 rfl rfl rfl ?_
 refine T_op (OpT.box (cs:=[sa]) rfl rfl rfl (by rw [ha]) rfl rfl rfl (fun _=>?_))
 refine T_op (OpT.box (cs:=[sb]) rfl rfl rfl (by rw [hb]) rfl rfl rfl (fun _=>?_))
 repeat' (first|refine d1 ?_|refine dd ?_|(show ∀ _:Nat,T _ _ _ _ _;intro _)|(show T _ (.code .ret::_) _ _ _;refine T_retV _ rfl (Hle.refl _) ⟨_,_,rfl,rfl⟩))
theorem of_spec (a b:ByteArray) (ha:a.size≤65536) (hb:b.size≤65536) (w:World):Spec Tryz.prog 290 [.string a, .string b] w (fun v A=>v = .int .i64 (lv (eqB a b) a.size b.size)∧A=[]):=by
 refine spec_of sg Tryz.func290 rfl rfl rfl ?_
 repeat' (first|refine d1 ?_|refine dd ?_|(show ∀ _:Nat,T _ _ _ _ _;intro _))
 refine T_op (OpT.bytes rfl rfl rfl rfl rfl (fun ba ca=>?_))
 repeat' (first|refine d1 ?_|refine dd ?_|(show ∀ _:Nat,T _ _ _ _ _;intro _))
 refine T_op (OpT.bytes rfl rfl rfl rfl rfl (fun bb cb=>?_))
 refine T_op (OpT.call rfl rfl rfl rfl rfl (fun w _=>equal_spec _ _ rfl rfl w) ?_)
 rintro v A ⟨p2,p3,rfl,rfl⟩
 show T _ _ _ _ [blk p3 [.slice (some ⟨bb,0,none⟩) b.size cb] 87,blk p2 [.slice (some ⟨ba,0,none⟩) a.size ca] 87,byt bb 5 b,byt ba 5 a]
 repeat' (first|refine d1 ?_|refine dd ?_|(show T _ (.ops _ (_::_)::_) _ _ _;refine T_call rfl rfl rfl rfl rfl (fun w hw=>distances_spec a.size b.size ha hb _ [] [.pointer (some ⟨p2,0,none⟩), .pointer (some ⟨p3,0,none⟩)] (eqB a b) w (fun i j hi hj w' hb'=>equal1_spec a b p2 p3 ba bb ca cb i j hi hj w' ((rdOwn1 (b:=p2) rfl w hw).below hb') ((rdOwn1 (b:=p3) rfl w hw).below hb') ((rdByt (b:=ba) w hw).below hb') ((rdByt (b:=bb) w hw).below hb'))) ?_)|(show ∀ _:Nat,T _ _ _ _ _;intro _)|(show T _ (.code .ret::_) _ _ _;refine T_retV [] rfl (Hle.none _) ⟨rfl,rfl⟩))
theorem longPrg_spec (n m:Int) (w:World):Spec Tryz.prog 289 [.int .i64 n, .int .i64 m] w (fun v A=>v = .bool (decide (256<max n m))∧A=[]):=by
 refine spec_of sg Tryz.func289 rfl rfl rfl ?_
 repeat' (first|refine d1 ?_|refine dd ?_|(show ∀ _:Nat,T _ _ _ _ _;intro _)|(show T _ (.code .ret::_) _ _ _;refine T_retV [] rfl (Hle.none _) ⟨rfl,rfl⟩))
theorem distPrg_spec (a b:ByteArray) (w:World):Spec Tryz.prog 269 [.string a, .string b] w (fun v A=>v=(if 256<max (a.size:Int) b.size then .tuple #[.int .i64 0, .int .i64 4] else .tuple #[.int .i64 (lv (eqB a b) a.size b.size), .int .i64 0])∧A=[]):=by
 refine spec_of sg Tryz.func269 rfl rfl rfl ?_
 repeat' (first|refine d1 ?_|refine dd ?_|(show T _ (.ops _ (_::_)::_) _ _ _;first|refine T_call rfl rfl rfl rfl rfl (fun w hw=>longPrg_spec _ _ w) ?_|refine T_callC rfl rfl rfl rfl rfl rfl rfl (fun hg w hw=>longPrg_spec _ _ w) ?_)|(show T _ (.run _ _ (_::_) _ _::_) _ _ _;first|refine rc rfl rfl rfl rfl rfl rfl rfl (fun w hw=>longPrg_spec _ _ w) ?_|refine rcG rfl rfl rfl rfl rfl rfl rfl rfl rfl (fun hg w hw=>longPrg_spec _ _ w) ?_)|(show ∀ _:Nat,T _ _ _ _ _;intro _))
 refine T_if rfl (fun h=>?_) (fun h=>?_)
 ·simp only [decide_eq_true_eq] at h
  repeat' (first|refine d1 ?_|refine dd ?_|(show ∀ _:Nat,T _ _ _ _ _;intro _)|(show T _ (.code .ret::_) _ _ _;refine T_retV [] rfl (Hle.none _) ⟨by rw [if_pos h];rfl,rfl⟩))
 ·simp only [decide_eq_false_iff_not] at h
  repeat' (first|refine d1 ?_|refine dd ?_|(show T _ (.ops _ (_::_)::_) _ _ _;first|refine T_call rfl rfl rfl rfl rfl (fun w hw=>of_spec a b (by omega) (by omega) w) ?_|refine T_callC rfl rfl rfl rfl rfl rfl rfl (fun hg w hw=>of_spec a b (by omega) (by omega) w) ?_)|(show T _ (.run _ _ (_::_) _ _::_) _ _ _;first|refine rc rfl rfl rfl rfl rfl rfl rfl (fun w hw=>of_spec a b (by omega) (by omega) w) ?_|refine rcG rfl rfl rfl rfl rfl rfl rfl rfl rfl (fun hg w hw=>of_spec a b (by omega) (by omega) w) ?_)|(show ∀ _:Nat,T _ _ _ _ _;intro _)|(show T _ (.code .ret::_) _ _ _;refine T_retV [] rfl (Hle.none _) ⟨by rw [if_neg h];rfl,rfl⟩))
end Go.Proofs.YtblnhdnogjijiaaGreatDoor
namespace Go.Proofs.YtblnhdnogjijiaaGreatDoor
open Go.RowKit Go.Shelf Go.Proofs
set_option maxRecDepth 100000
set_option maxHeartbeats 1000000

def slv (m:Nat) (x:Nat × List Value):Value := .slice (some ⟨x.1,0,none⟩) (m+1) (m+1)
end Go.Proofs.YtblnhdnogjijiaaGreatDoor
namespace Go.Proofs.YtblnhdnogjijiaaGreatDoor
open Go.RowKit Go.Shelf Go.Proofs
set_option maxRecDepth 100000
set_option maxHeartbeats 1000000

theorem badPrg_spec (n:Int) (w:World):Spec Tryz.prog 107 [.int .i64 n] w (fun v A=>v = .bool (badN n)∧A=[]):=by
 refine spec_of sg Tryz.func107 rfl rfl rfl ?_
 repeat' (first|refine d1 ?_|refine dd ?_|(show ∀ _:Nat,T _ _ _ _ _;intro _)|(show T _ (.code .ret::_) _ _ _;refine T_retV [] rfl (Hle.none _) ⟨rfl,rfl⟩))
theorem costPrg_spec (c:Costs) (w:World):Spec Tryz.prog 51 [c.val] w (fun v A=>v = .int .i64 (costE c)∧A=[]):=by
 refine spec_of sg Tryz.func51 rfl rfl rfl ?_
 repeat' (first|(show T _ (.ops _ (⟨_, .box _ _,_,_,_,_⟩::_)::_) _ _ _;refine T_op (OpT.box (cs:=c.cells) rfl rfl rfl rfl rfl rfl rfl (fun _=>?_)))|refine d1 ?_|refine dd ?_|(show T _ (.ops _ (_::_)::_) _ _ _;first|refine T_call rfl rfl rfl rfl rfl (fun w hw=>containsFuncI_spec _ _ _ c.ints _ [] [] badN w (Src.own hw rfl) rfl (by omega) (fun x _ w' _=>badPrg_spec x w')) ?_|refine T_callC rfl rfl rfl rfl rfl rfl rfl (fun hg w hw=>containsFuncI_spec _ _ _ c.ints _ [] [] badN w (Src.own hw rfl) rfl (by omega) (fun x _ w' _=>badPrg_spec x w')) ?_)|(show T _ (.run _ _ (_::_) _ _::_) _ _ _;first|refine rc rfl rfl rfl rfl rfl rfl rfl (fun w hw=>containsFuncI_spec _ _ _ c.ints _ [] [] badN w (Src.own hw rfl) rfl (by omega) (fun x _ w' _=>badPrg_spec x w')) ?_|refine rcG rfl rfl rfl rfl rfl rfl rfl rfl rfl (fun hg w hw=>containsFuncI_spec _ _ _ c.ints _ [] [] badN w (Src.own hw rfl) rfl (by omega) (fun x _ w' _=>badPrg_spec x w')) ?_)|(show ∀ _:Nat,T _ _ _ _ _;intro _))
 refine T_if rfl (fun h=>?_) (fun h=>?_)
 ·repeat' (first|refine d1 ?_|refine dd ?_|(show ∀ _:Nat,T _ _ _ _ _;intro _)|(show T _ (.code .ret::_) _ _ _;refine T_retV [] rfl (Hle.none _) ⟨congrArg (Value.int .i64) ?_,rfl⟩))
  unfold costE;rw [if_pos h]
 ·repeat' (first|refine d1 ?_|refine dd ?_|(show ∀ _:Nat,T _ _ _ _ _;intro _))
  refine T_if rfl (fun h2=>?_) (fun h2=>?_)
  ·simp only [decide_eq_true_eq] at h2
   repeat' (first|refine d1 ?_|refine dd ?_|(show ∀ _:Nat,T _ _ _ _ _;intro _)|(show T _ (.code .ret::_) _ _ _;refine T_retV [] rfl (Hle.none _) ⟨congrArg (Value.int .i64) ?_,rfl⟩))
   unfold costE;rw [if_neg (by rw [h];simp),if_pos h2]
  ·simp only [decide_eq_false_iff_not] at h2
   repeat' (first|refine d1 ?_|refine dd ?_|(show ∀ _:Nat,T _ _ _ _ _;intro _)|(show T _ (.code .ret::_) _ _ _;refine T_retV [] rfl (Hle.none _) ⟨congrArg (Value.int .i64) ?_,rfl⟩))
   unfold costE;rw [if_neg (by rw [h];simp),if_neg h2]
theorem gapPrgC_spec (c:Costs) (t:Tok) (hc:0≤c.gap∧c.gap≤1000) (ht:0≤t.flags∧t.flags≤31) (w:World):Spec Tryz.prog 204 [c.val,t.val] w (fun v A=>v = .int .i64 (gapC c t)∧A=[]):=by
 refine spec_of sg Tryz.func204 rfl rfl rfl ?_
 have hfl:=(flags_law t.flags ht).2.1
 refine T_op (OpT.box (cs:=c.cells) rfl rfl rfl rfl rfl rfl rfl (fun _=>?_))
 repeat' (first|(show T _ (.ops _ (⟨_, .box _ _,_,_,_,_⟩::_)::_) _ _ _;refine T_op (OpT.box (cs:=t.cells) rfl rfl rfl rfl rfl rfl rfl (fun _=>?_)))|refine d1 ?_|refine dd ?_|(show ∀ _:Nat,T _ _ _ _ _;intro _))
 rw [show (!decide (andI t.flags 8=0))=hasN t.flags 8 by rw [← hfl];simp]
 refine T_if rfl (fun h=>?_) (fun h=>?_)
 ·repeat' (first|refine d1 ?_|refine dd ?_|(show ∀ _:Nat,T _ _ _ _ _;intro _)|(show T _ (.code .ret::_) _ _ _;refine T_retV [] rfl (Hle.none _) ⟨congrArg (Value.int .i64) ?_,rfl⟩))
  unfold gapC;rw [if_pos h]
 ·repeat' (first|refine d1 ?_|refine dd ?_|(show ∀ _:Nat,T _ _ _ _ _;intro _)|(show T _ (.code .ret::_) _ _ _;refine T_retV [] rfl (Hle.none _) ⟨congrArg (Value.int .i64) ?_,rfl⟩))
  unfold gapC;rw [if_neg (by rw [h];simp)]
theorem rule3_spec (c:Costs) (a b:Tok) (hc:costE c=0) (hsa:a.norm.size≤128) (hsb:b.norm.size≤128) (w:World):Spec Tryz.prog 268 [c.val,a.val,b.val] w (fun v A=>v = .tuple #[.int .i64 (min c.most (max c.norm (c.letter * distS a.norm b.norm))), .bool true]∧A=[]):=by
 obtain⟨c1,c2,c3,c4,c5⟩:=costE_ok hc
 refine spec_of sg Tryz.func268 rfl rfl rfl ?_
 refine T_op (OpT.box (cs:=c.cells) rfl rfl rfl rfl rfl rfl rfl (fun _=>?_))
 refine T_op (OpT.box (cs:=a.cells) rfl rfl rfl rfl rfl rfl rfl (fun _=>?_))
 refine T_op (OpT.box (cs:=b.cells) rfl rfl rfl rfl rfl rfl rfl (fun _=>?_))
 repeat' (first|refine d1 ?_|refine dd ?_|(show ∀ _:Nat,T _ _ _ _ _;intro _))
 refine T_op (OpT.call rfl rfl rfl rfl rfl (fun w _=>distPrg_spec a.norm b.norm w) ?_)
 rintro v A ⟨hv,rfl⟩
 rw [if_neg (by omega)] at hv
 subst hv
 show T _ _ _ _ [_,_,_]
 have hd:=lv_bd (eqB a.norm b.norm) a.norm.size b.norm.size
 have hm:0≤c.letter * lv (eqB a.norm b.norm) a.norm.size b.norm.size∧c.letter * lv (eqB a.norm b.norm) a.norm.size b.norm.size≤1000 * 256 :=
  ⟨Int.mul_nonneg (by omega) (by omega),Int.mul_le_mul (by omega) (by omega) (by omega) (by omega)⟩
 repeat' (first|refine d1 ?_|refine dd ?_|(show ∀ _:Nat,T _ _ _ _ _;intro _)|(show T _ (.code .ret::_) _ _ _;refine T_retV [] rfl (Hle.none _) ⟨rfl,rfl⟩))

theorem rule1_spec (c:Costs) (a b:Tok) (w:World):Spec Tryz.prog 266 [c.val,a.val,b.val] w (fun v A=>v = .tuple #[.int .i64 0, .bool (decide (a.text=b.text))]∧A=[]):=by
 refine spec_of sg Tryz.func266 rfl rfl rfl ?_
 refine T_op (OpT.box (cs:=c.cells) rfl rfl rfl rfl rfl rfl rfl (fun pc=>?_))
 refine T_op (OpT.box (cs:=a.cells) rfl rfl rfl rfl rfl rfl rfl (fun pa=>?_))
 refine T_op (OpT.box (cs:=b.cells) rfl rfl rfl rfl rfl rfl rfl (fun pb=>?_))
 repeat' (first|refine d1 ?_|refine dd ?_|(show ∀ _:Nat,T _ _ _ _ _;intro _)|(show T _ (.code .ret::_) _ _ _;refine T_retV [] rfl (Hle.none _) ⟨rfl,rfl⟩))

theorem rule2_spec (c:Costs) (a b:Tok) (ha:0≤a.flags∧a.flags≤31) (hb:0≤b.flags∧b.flags≤31) (ho:0≤orI a.flags b.flags∧orI a.flags b.flags≤31) (w:World):Spec Tryz.prog 267 [c.val,a.val,b.val] w (fun v A=>v = .tuple #[.int .i64 c.norm, .bool (decide (a.norm=b.norm) || !decide (andI (orI a.flags b.flags) 2=0))]∧A=[]):=by
 refine spec_of sg Tryz.func267 rfl rfl rfl ?_
 refine T_op (OpT.box (cs:=c.cells) rfl rfl rfl rfl rfl rfl rfl (fun pc=>?_))
 refine T_op (OpT.box (cs:=a.cells) rfl rfl rfl rfl rfl rfl rfl (fun pa=>?_))
 refine T_op (OpT.box (cs:=b.cells) rfl rfl rfl rfl rfl rfl rfl (fun pb=>?_))
 repeat' (first|refine d1 ?_|refine dd ?_|(show ∀ _:Nat,T _ _ _ _ _;intro _)|(show T _ (.code .ret::_) _ _ _;refine T_retV [] rfl (Hle.none _) ⟨rfl,rfl⟩))
end Go.Proofs.YtblnhdnogjijiaaGreatDoor
namespace Go.Proofs.YtblnhdnogjijiaaGreatDoor
open Go.RowKit Go.Shelf Go.Proofs
set_option maxRecDepth 100000
set_option maxHeartbeats 1000000

theorem eqTok (a b:Tok) (w:World):(Op.equalIn 10000 42 (.agg a.cells.toArray) (.agg b.cells.toArray)).run Tryz.prog w = .ok (decide (a=b)) w:=by
 have hS:Tryz.prog.underlying 42=some (.struct (Tryz.prog.fieldsOf 42)):=by kernel_rfl
 have hp:Tryz.prog.stoodInHeld 42=false:=Tryz.stoodInHeld42
 have hS2:Tryz.prog.underlying 40=some (.struct (Tryz.prog.fieldsOf 40)):=by kernel_rfl
 have hp2:Tryz.prog.stoodInHeld 40=false:=Tryz.stoodInHeld40
 have u3:=Tryz.underlying3
 have a3:=Tryz.isAgg3
 have u9:=Tryz.underlying9
 have a9:=Tryz.isAgg9
 have a25:=Tryz.isAgg40
 have z25:=Tryz.sizeOf40
 have h2:∀ (p q:ByteArray) (m n:Int),(Op.equalIn 9999 40 (.agg #[.string p, .int .i64 m]) (.agg #[.string q, .int .i64 n])).run Tryz.prog w = .ok (decide (p=q) && decide (m=n)) w:=by
  intro p q m n
  rw [show (9999:Nat)=9998+1 from rfl,run_equalIn_agg w 9998 40 _ _ hS2 hp2]
  simp only [Program.fieldsOf,Tryz.underlying40]
  go_simp
  simp only [toL_iff]
  (repeat' split) <;> simp_all
 rw [show (10000:Nat)=9999+1 from rfl,run_equalIn_agg w 9999 42 _ _ hS hp]
 simp only [Program.fieldsOf,Tryz.underlying42]
 clear hS2 hp2
 go_simp
 try simp only [h2]
 simp only [toL_iff]
 rw [show decide (a=b)=decide (a.text=b.text∧a.norm=b.norm∧a.page=b.page∧a.line=b.line∧a.flags=b.flags∧a.name=b.name) from decide_eq_decide.2 (Tok.eq_iff a b)]
 (repeat' split) <;> simp_all

theorem rules_spec (w:World):Spec Tryz.prog 237 [] w (fun v A=>∃ g:Nat,True∧v = .slice (some ⟨g,0,none⟩) 3 3∧A=[blk g [.func (.func 266) #[] #[], .func (.func 267) #[] #[], .func (.func 268) #[] #[]] 244]):=by
 refine spec_of sg Tryz.func237 rfl rfl rfl ?_
 repeat' (first|refine d1 ?_|refine dd ?_|(show ∀ _:Nat,T _ _ _ _ _;intro _))
 rename_i g
 refine T_retV _ rfl (Hle.refl _) ⟨g,trivial,rfl,rfl⟩
theorem pairPrg_spec (c:Costs) (a b:Tok) (hc:costE c=0) (ha:0≤a.flags∧a.flags≤31) (hb:0≤b.flags∧b.flags≤31) (hsa:a.norm.size≤128) (hsb:b.norm.size≤128) (w:World):Spec Tryz.prog 203 [c.val,a.val,b.val] w (fun v A=>v = .int .i64 (pairC c a b)∧A=[]):=by
 obtain⟨ho1,ho2⟩:=or_law a.flags b.flags ha hb
 refine spec_of sg Tryz.func203 rfl rfl rfl ?_
 refine T_op (OpT.box (cs:=c.cells) rfl rfl rfl rfl rfl rfl rfl (fun pc=>?_))
 refine T_op (OpT.box (cs:=a.cells) rfl rfl rfl rfl rfl rfl rfl (fun pa=>?_))
 refine T_op (OpT.box (cs:=b.cells) rfl rfl rfl rfl rfl rfl rfl (fun pb=>?_))
 repeat' (first|refine d1 ?_|refine dd ?_|(show T _ (.ops _ (_::_)::_) _ _ _;refine T_callE rfl rfl rfl rfl rfl (fun w hw=>rules_spec w) (fun g _=>?_))|(show ∀ _:Nat,T _ _ _ _ _;intro _))
 refine T_loopX (fun k:Nat=>[(13, .int .i64 k)]) (fun _=>[blk g _ _,blk pb b.cells 42,blk pa a.cells 42,blk pc c.cells 23]) (fun k=>k≤2∧(1≤k→a.text≠b.text)∧(2≤k→¬ (a.norm=b.norm∨hasN a.flags 2=true∨hasN b.flags 2=true))) (fun k=>3 - k) 0 ⟨by omega,by omega,by omega⟩ ?_
 rintro k ⟨hk,h1,h2⟩
 repeat' (first|refine d1 ?_|refine dd ?_|(show ∀ _:Nat,T _ _ _ _ _;intro _))
 refine T_if rfl (fun h=>?_) (fun h=>?_)
 ·have hk3:k=0∨k=1∨k=2:=by omega
  rcases hk3 with rfl|rfl|rfl
  ·repeat' (first|refine d1 ?_|refine dd ?_|(show T _ (.ops _ (_::_)::_) _ _ _;first|refine T_call rfl rfl rfl rfl rfl (fun w hw=>rule1_spec c a b w) ?_|refine T_callC rfl rfl rfl rfl rfl rfl rfl (fun hg w hw=>rule1_spec c a b w) ?_)|(show T _ (.run _ _ (_::_) _ _::_) _ _ _;first|refine rc rfl rfl rfl rfl rfl rfl rfl (fun w hw=>rule1_spec c a b w) ?_|refine rcG rfl rfl rfl rfl rfl rfl rfl rfl rfl (fun hg w hw=>rule1_spec c a b w) ?_)|(show ∀ _:Nat,T _ _ _ _ _;intro _))
   refine T_if rfl (fun h3=>?_) (fun h3=>?_)
   ·repeat' (first|refine d1 ?_|refine dd ?_|(show ∀ _:Nat,T _ _ _ _ _;intro _)|(show T _ (.code .ret::_) _ _ _;refine T_retV [] rfl (Hle.none _) ⟨congrArg (Value.int .i64) ?_,rfl⟩))
    simp only [decide_eq_true_eq] at h3
    unfold pairC;rw [if_pos h3]
   ·simp only [decide_eq_false_iff_not] at h3
    repeat' (first|refine d1 ?_|refine dd ?_|(show ∀ _:Nat,T _ _ _ _ _;intro _))
    exact T_backX 1 ⟨by omega,fun _=>h3,by omega⟩ (by omega)
  ·have h1:=h1 (by omega)
   repeat' (first|refine d1 ?_|refine dd ?_|(show T _ (.ops _ (_::_)::_) _ _ _;first|refine T_call rfl rfl rfl rfl rfl (fun w hw=>rule2_spec c a b ha hb ho1 w) ?_|refine T_callC rfl rfl rfl rfl rfl rfl rfl (fun hg w hw=>rule2_spec c a b ha hb ho1 w) ?_)|(show T _ (.run _ _ (_::_) _ _::_) _ _ _;first|refine rc rfl rfl rfl rfl rfl rfl rfl (fun w hw=>rule2_spec c a b ha hb ho1 w) ?_|refine rcG rfl rfl rfl rfl rfl rfl rfl rfl rfl (fun hg w hw=>rule2_spec c a b ha hb ho1 w) ?_)|(show ∀ _:Nat,T _ _ _ _ _;intro _))
   rw [ho2]
   refine T_if rfl (fun h3=>?_) (fun h3=>?_)
   ·repeat' (first|refine d1 ?_|refine dd ?_|(show ∀ _:Nat,T _ _ _ _ _;intro _)|(show T _ (.code .ret::_) _ _ _;refine T_retV [] rfl (Hle.none _) ⟨congrArg (Value.int .i64) ?_,rfl⟩))
    simp only [Bool.or_eq_true,decide_eq_true_eq] at h3
    unfold pairC;rw [if_neg h1,if_pos h3]
   ·simp only [Bool.or_eq_false_iff,decide_eq_false_iff_not] at h3
    repeat' (first|refine d1 ?_|refine dd ?_|(show ∀ _:Nat,T _ _ _ _ _;intro _))
    refine T_backX 2 ⟨by omega,fun _=>h1,fun _ hh=>?_⟩ (by omega)
    rw [h3.2.1,h3.2.2] at hh
    simp [h3.1] at hh
  ·have h1:=h1 (by omega)
   have h2:=h2 (by omega)
   repeat' (first|refine d1 ?_|refine dd ?_|(show T _ (.ops _ (_::_)::_) _ _ _;first|refine T_call rfl rfl rfl rfl rfl (fun w hw=>rule3_spec c a b hc hsa hsb w) ?_|refine T_callC rfl rfl rfl rfl rfl rfl rfl (fun hg w hw=>rule3_spec c a b hc hsa hsb w) ?_)|(show T _ (.run _ _ (_::_) _ _::_) _ _ _;first|refine rc rfl rfl rfl rfl rfl rfl rfl (fun w hw=>rule3_spec c a b hc hsa hsb w) ?_|refine rcG rfl rfl rfl rfl rfl rfl rfl rfl rfl (fun hg w hw=>rule3_spec c a b hc hsa hsb w) ?_)|(show ∀ _:Nat,T _ _ _ _ _;intro _))
   refine T_if rfl (fun h3=>?_) (fun h3=>by cases h3)
   repeat' (first|refine d1 ?_|refine dd ?_|(show ∀ _:Nat,T _ _ _ _ _;intro _)|(show T _ (.code .ret::_) _ _ _;refine T_retV [] rfl (Hle.none _) ⟨congrArg (Value.int .i64) ?_,rfl⟩))
   unfold pairC;rw [if_neg h1,if_neg h2]
 ·simp only [decide_eq_false_iff_not] at h
  omega
end Go.Proofs.YtblnhdnogjijiaaGreatDoor
namespace Go.Proofs.YtblnhdnogjijiaaGreatDoor
open Go.RowKit Go.Shelf Go.Proofs
set_option maxRecDepth 100000
set_option maxHeartbeats 1000000

def badL (l:List Tok):Bool:=l.any fun t => !decide (tokE t=0)
def tokErr (c:Costs) (l:List Tok):Int:=if (!decide (costE c=0) || badL l) then 1 else 0
theorem tokErr_ok {c:Costs} {l:List Tok} (h:tokErr c l=0):costE c=0∧∀ t∈l,tokE t=0:=by
 unfold tokErr badL at h
 split at h
 ·omega
 ·rename_i hh
  simp only [Bool.or_eq_true,not_or,Bool.not_eq_true',Bool.not_eq_true,Bool.not_eq_false',Bool.not_eq_false,decide_eq_true_eq,decide_eq_false_iff_not,List.any_eq_true,Bool.not_not,not_exists,not_and,Classical.not_not] at hh
  exact⟨by simpa using hh.1,fun t ht=>by simpa using hh.2 t ht⟩
theorem check1Prg_spec (t:Tok) (hl:t.small) (w:World) (hs:Std w):Spec Tryz.prog 264 [t.val] w (fun v A=>v = .bool (!decide (tokE t=0))∧A=[]):=by
 refine spec_of sg Tryz.func264 rfl rfl rfl ?_
 repeat' (first|(show T _ (.ops _ (⟨_, .box _ _,_,_,_,_⟩::_)::_) _ _ _;refine T_op (OpT.box (cs:=t.cells) rfl rfl rfl rfl rfl rfl rfl (fun _=>?_)))|refine d1 ?_|refine dd ?_|(show T _ (.ops _ (_::_)::_) _ _ _;first|refine T_call rfl rfl rfl rfl rfl (fun w hw=>tokPrg_spec t hl w (hs.cls hw)) ?_|refine T_callC rfl rfl rfl rfl rfl rfl rfl (fun hg w hw=>tokPrg_spec t hl w (hs.cls hw)) ?_)|(show T _ (.run _ _ (_::_) _ _::_) _ _ _;first|refine rc rfl rfl rfl rfl rfl rfl rfl (fun w hw=>tokPrg_spec t hl w (hs.cls hw)) ?_|refine rcG rfl rfl rfl rfl rfl rfl rfl rfl rfl (fun hg w hw=>tokPrg_spec t hl w (hs.cls hw)) ?_)|(show ∀ _:Nat,T _ _ _ _ _;intro _)|(show T _ (.code .ret::_) _ _ _;refine T_retV [] rfl (Hle.none _) ⟨rfl,rfl⟩))
theorem checkTC_spec (c:Costs) (A:Option Addr) (n cap:Nat) (l:List Tok) (w:World) (hs:Std w) (hl:Src w 6 A n (l.flatMap Tok.cells)) (hn:l.length=n) (hb:n≤9223372036854775807) (hsm:∀ t∈l,t.small) :
  Spec Tryz.prog 231 [c.val, .slice A n cap] w (fun v A=>v = .int .i64 (tokErr c l)∧A=[]):=by
 refine spec_of sg Tryz.func231 rfl rfl rfl ?_
 repeat' (first|(show T _ (.ops _ (⟨_, .box _ _,_,_,_,_⟩::_)::_) _ _ _;refine T_op (OpT.box (cs:=c.cells) rfl rfl rfl rfl rfl rfl rfl (fun _=>?_)))|refine d1 ?_|refine dd ?_|(show T _ (.ops _ (_::_)::_) _ _ _;first|refine T_call rfl rfl rfl rfl rfl (fun w hw=>costPrg_spec c w) ?_|refine T_callC rfl rfl rfl rfl rfl rfl rfl (fun hg w hw=>costPrg_spec c w) ?_|refine T_call rfl rfl rfl rfl rfl (fun w hw=>containsFuncT_spec A n cap l _ [] [] (fun t => !decide (tokE t=0)) w (rdSrc hl w hw) hn hb (fun x hx w' hb'=>check1Prg_spec x (hsm x hx) w' ((hs.cls hw).below hb'))) ?_|refine T_callC rfl rfl rfl rfl rfl rfl rfl (fun hg w hw=>containsFuncT_spec A n cap l _ [] [] (fun t => !decide (tokE t=0)) w (rdSrc hl w hw) hn hb (fun x hx w' hb'=>check1Prg_spec x (hsm x hx) w' ((hs.cls hw).below hb'))) ?_)|(show T _ (.run _ _ (_::_) _ _::_) _ _ _;first|refine rc rfl rfl rfl rfl rfl rfl rfl (fun w hw=>costPrg_spec c w) ?_|refine rcG rfl rfl rfl rfl rfl rfl rfl rfl rfl (fun hg w hw=>costPrg_spec c w) ?_|refine rc rfl rfl rfl rfl rfl rfl rfl (fun w hw=>containsFuncT_spec A n cap l _ [] [] (fun t => !decide (tokE t=0)) w (rdSrc hl w hw) hn hb (fun x hx w' hb'=>check1Prg_spec x (hsm x hx) w' ((hs.cls hw).below hb'))) ?_|refine rcG rfl rfl rfl rfl rfl rfl rfl rfl rfl (fun hg w hw=>containsFuncT_spec A n cap l _ [] [] (fun t => !decide (tokE t=0)) w (rdSrc hl w hw) hn hb (fun x hx w' hb'=>check1Prg_spec x (hsm x hx) w' ((hs.cls hw).below hb'))) ?_)|(show ∀ _:Nat,T _ _ _ _ _;intro _))
 refine T_if rfl (fun h=>?_) (fun h=>?_)
 ·repeat' (first|refine d1 ?_|refine dd ?_|(show ∀ _:Nat,T _ _ _ _ _;intro _)|(show T _ (.code .ret::_) _ _ _;refine T_retV [] rfl (Hle.none _) ⟨congrArg (Value.int .i64) ?_,rfl⟩))
  unfold tokErr badL;rw [if_pos h]
 ·repeat' (first|refine d1 ?_|refine dd ?_|(show ∀ _:Nat,T _ _ _ _ _;intro _)|(show T _ (.code .ret::_) _ _ _;refine T_retV [] rfl (Hle.none _) ⟨congrArg (Value.int .i64) ?_,rfl⟩))
  unfold tokErr badL;rw [if_neg (by rw [h];simp)]
theorem pairV_eq (c:Costs) (a b:Tok):pairV c a b=if tokErr c [a,b]=0 then (pairC c a b,0) else (0,1):=by
 unfold pairV tokErr badL
 by_cases h1:costE c=0 <;> by_cases h2:tokE a=0 <;> by_cases h3:tokE b=0 <;> simp [h1,h2,h3]
theorem gapV_eq (c:Costs) (a:Tok):gapV c a=if tokErr c [a]=0 then (gapC c a,0) else (0,1):=by
 unfold gapV tokErr badL
 by_cases h1:costE c=0 <;> by_cases h2:tokE a=0 <;> simp [h1,h2]
theorem tokErr_01 (c:Costs) (l:List Tok):tokErr c l=0∨tokErr c l=1:=by unfold tokErr;split <;> omega
theorem pairTop_spec (c:Costs) (a b:Tok) (ha:a.small) (hb:b.small) (w:World) (hs:Std w):Spec Tryz.prog 265 [c.val,a.val,b.val] w (fun v A=>v = .tuple #[.int .i64 (pairV c a b).1, .int .i64 (pairV c a b).2]∧A=[]):=by
 refine spec_of sg Tryz.func265 rfl rfl rfl ?_
 refine T_op (OpT.box (cs:=c.cells) rfl rfl rfl rfl rfl rfl rfl (fun pc=>?_))
 refine T_op (OpT.box (cs:=a.cells) rfl rfl rfl rfl rfl rfl rfl (fun pa=>?_))
 refine T_op (OpT.box (cs:=b.cells) rfl rfl rfl rfl rfl rfl rfl (fun pb=>?_))
 repeat' (first|refine d1 ?_|refine dd ?_|(show T _ (.ops _ (_::_)::_) _ _ _;first|refine T_call rfl rfl rfl rfl rfl (fun w hw=>checkTC_spec c _ 2 _ [a,b] w (hs.cls hw) (Src.own hw rfl) rfl (by omega) (by simp [ha,hb])) ?_|refine T_callC rfl rfl rfl rfl rfl rfl rfl (fun hg w hw=>checkTC_spec c _ 2 _ [a,b] w (hs.cls hw) (Src.own hw rfl) rfl (by omega) (by simp [ha,hb])) ?_)|(show T _ (.run _ _ (_::_) _ _::_) _ _ _;first|refine rc rfl rfl rfl rfl rfl rfl rfl (fun w hw=>checkTC_spec c _ 2 _ [a,b] w (hs.cls hw) (Src.own hw rfl) rfl (by omega) (by simp [ha,hb])) ?_|refine rcG rfl rfl rfl rfl rfl rfl rfl rfl rfl (fun hg w hw=>checkTC_spec c _ 2 _ [a,b] w (hs.cls hw) (Src.own hw rfl) rfl (by omega) (by simp [ha,hb])) ?_)|(show ∀ _:Nat,T _ _ _ _ _;intro _))
 rw [pairV_eq]
 refine T_if rfl (fun h=>?_) (fun h=>?_)
 ·simp only [Bool.not_eq_true',decide_eq_false_iff_not] at h
  rw [if_neg h]
  repeat' (first|refine d1 ?_|refine dd ?_|(show ∀ _:Nat,T _ _ _ _ _;intro _)|(show T _ (.code .ret::_) _ _ _;refine T_retV [] rfl (Hle.none _) ⟨?_,rfl⟩))
  rw [(tokErr_01 c [a,b]).resolve_left h];rfl
 ·simp only [Bool.not_eq_false',decide_eq_true_eq] at h
  rw [if_pos h]
  obtain⟨h1,h2⟩:=tokErr_ok h
  have k1:=tokE_ok (h2 a (by simp))
  have k2:=tokE_ok (h2 b (by simp))
  repeat' (first|refine d1 ?_|refine dd ?_|(show T _ (.ops _ (_::_)::_) _ _ _;first|refine T_call rfl rfl rfl rfl rfl (fun w hw=>pairPrg_spec c a b h1 k1.1 k2.1 (by omega) (by omega) w) ?_|refine T_callC rfl rfl rfl rfl rfl rfl rfl (fun hg w hw=>pairPrg_spec c a b h1 k1.1 k2.1 (by omega) (by omega) w) ?_)|(show T _ (.run _ _ (_::_) _ _::_) _ _ _;first|refine rc rfl rfl rfl rfl rfl rfl rfl (fun w hw=>pairPrg_spec c a b h1 k1.1 k2.1 (by omega) (by omega) w) ?_|refine rcG rfl rfl rfl rfl rfl rfl rfl rfl rfl (fun hg w hw=>pairPrg_spec c a b h1 k1.1 k2.1 (by omega) (by omega) w) ?_)|(show ∀ _:Nat,T _ _ _ _ _;intro _)|(show T _ (.code .ret::_) _ _ _;refine T_retV [] rfl (Hle.none _) ⟨rfl,rfl⟩))
theorem gapTop_spec (c:Costs) (a:Tok) (ha:a.small) (w:World) (hs:Std w):Spec Tryz.prog 192 [c.val,a.val] w (fun v A=>v = .tuple #[.int .i64 (gapV c a).1, .int .i64 (gapV c a).2]∧A=[]):=by
 refine spec_of sg Tryz.func192 rfl rfl rfl ?_
 refine T_op (OpT.box (cs:=c.cells) rfl rfl rfl rfl rfl rfl rfl (fun pc=>?_))
 refine T_op (OpT.box (cs:=a.cells) rfl rfl rfl rfl rfl rfl rfl (fun pa=>?_))
 repeat' (first|refine d1 ?_|refine dd ?_|(show T _ (.ops _ (_::_)::_) _ _ _;first|refine T_call rfl rfl rfl rfl rfl (fun w hw=>checkTC_spec c _ 1 _ [a] w (hs.cls hw) (Src.own hw rfl) rfl (by omega) (by simp [ha])) ?_|refine T_callC rfl rfl rfl rfl rfl rfl rfl (fun hg w hw=>checkTC_spec c _ 1 _ [a] w (hs.cls hw) (Src.own hw rfl) rfl (by omega) (by simp [ha])) ?_)|(show T _ (.run _ _ (_::_) _ _::_) _ _ _;first|refine rc rfl rfl rfl rfl rfl rfl rfl (fun w hw=>checkTC_spec c _ 1 _ [a] w (hs.cls hw) (Src.own hw rfl) rfl (by omega) (by simp [ha])) ?_|refine rcG rfl rfl rfl rfl rfl rfl rfl rfl rfl (fun hg w hw=>checkTC_spec c _ 1 _ [a] w (hs.cls hw) (Src.own hw rfl) rfl (by omega) (by simp [ha])) ?_)|(show ∀ _:Nat,T _ _ _ _ _;intro _))
 rw [gapV_eq]
 refine T_if rfl (fun h=>?_) (fun h=>?_)
 ·simp only [Bool.not_eq_true',decide_eq_false_iff_not] at h
  rw [if_neg h]
  repeat' (first|refine d1 ?_|refine dd ?_|(show ∀ _:Nat,T _ _ _ _ _;intro _)|(show T _ (.code .ret::_) _ _ _;refine T_retV [] rfl (Hle.none _) ⟨?_,rfl⟩))
  rw [(tokErr_01 c [a]).resolve_left h];rfl
 ·simp only [Bool.not_eq_false',decide_eq_true_eq] at h
  rw [if_pos h]
  obtain⟨h1,h2⟩:=tokErr_ok h
  have k0:=costE_ok h1
  have k1:=tokE_ok (h2 a (by simp))
  repeat' (first|refine d1 ?_|refine dd ?_|(show T _ (.ops _ (_::_)::_) _ _ _;first|refine T_call rfl rfl rfl rfl rfl (fun w hw=>gapPrgC_spec c a k0.1 k1.1 w) ?_|refine T_callC rfl rfl rfl rfl rfl rfl rfl (fun hg w hw=>gapPrgC_spec c a k0.1 k1.1 w) ?_)|(show T _ (.run _ _ (_::_) _ _::_) _ _ _;first|refine rc rfl rfl rfl rfl rfl rfl rfl (fun w hw=>gapPrgC_spec c a k0.1 k1.1 w) ?_|refine rcG rfl rfl rfl rfl rfl rfl rfl rfl rfl (fun hg w hw=>gapPrgC_spec c a k0.1 k1.1 w) ?_)|(show ∀ _:Nat,T _ _ _ _ _;intro _)|(show T _ (.code .ret::_) _ _ _;refine T_retV [] rfl (Hle.none _) ⟨rfl,rfl⟩))
end Go.Proofs.YtblnhdnogjijiaaGreatDoor
namespace Go.Proofs.YtblnhdnogjijiaaGreatDoor
open Go.RowKit Go.Shelf Go.Proofs
set_option maxRecDepth 100000
set_option maxHeartbeats 1000000

def tokS (s:ByteArray):Tok:=⟨s,s, .empty,0,0, .empty⟩
def str (l:List UInt8):ByteArray:=⟨l.toArray⟩
instance (t:Tok):Decidable t.small:=inferInstanceAs (Decidable (_∧_))
theorem longT_small {t:Tok} (h:longT t=false):t.small∧t.text.size≤12∧t.norm.size≤12:=by
 simp only [longT,Bool.or_eq_false_iff,decide_eq_false_iff_not] at h
 unfold Tok.small;omega
end Go.Proofs.YtblnhdnogjijiaaGreatDoor
namespace Go.Proofs.YtblnhdnogjijiaaGreatDoor
open Go.RowKit Go.Shelf Go.ChangeShapes Go.WideShapes Go.Proofs
set_option maxRecDepth 100000

theorem knob:ownKnob Tryz.prog.godebug=none:=by kernel_rfl
theorem laidOk:laidOutB Tryz.prog=true:=by kernel_rfl
theorem costs_wt {f:Nat} {ds:List D} (h:wt sg (f+2) 23 ds):∃ c:Costs,ds=c.cells.map .v:=by
 obtain⟨a0,b0,rfl,h0,a1,b1,rfl,h1,a2,b2,rfl,h2,a3,b3,rfl,h3,rfl⟩:=(show wtL (wt sg (f+1)) [(3,0),(3,1),(3,2),(3,3)] ds from h)
 obtain⟨n0,rfl,_⟩:=(show ∃ n,a0=[.v (.int .i64 n)]∧(Lit.int .i64 n).wf=true from h0)
 obtain⟨n1,rfl,_⟩:=(show ∃ n,a1=[.v (.int .i64 n)]∧(Lit.int .i64 n).wf=true from h1)
 obtain⟨n2,rfl,_⟩:=(show ∃ n,a2=[.v (.int .i64 n)]∧(Lit.int .i64 n).wf=true from h2)
 obtain⟨n3,rfl,_⟩:=(show ∃ n,a3=[.v (.int .i64 n)]∧(Lit.int .i64 n).wf=true from h3)
 exact⟨⟨n0,n1,n2,n3⟩,rfl⟩
theorem tok_wt {f:Nat} {ds:List D} (h:wt sg (f+3) 42 ds):∃ t:Tok,ds=t.cells.map .v:=by
 obtain⟨a0,b0,rfl,h0,a1,b1,rfl,h1,a2,b2,rfl,h2,a3,b3,rfl,h3,a4,b4,rfl,h4,rfl⟩:=(show wtL (wt sg (f+2)) [(9,0),(9,1),(40,2),(3,4),(9,5)] ds from h)
 obtain⟨s0,rfl,_⟩:=(show ∃ s:ByteArray,a0=[.v (.string s)]∧s.size≤maxLen from h0)
 obtain⟨s1,rfl,_⟩:=(show ∃ s:ByteArray,a1=[.v (.string s)]∧s.size≤maxLen from h1)
 obtain⟨c0,d0,rfl,g0,c1,d1,rfl,g1,rfl⟩:=(show wtL (wt sg (f+1)) [(9,0),(3,1)] a2 from h2)
 obtain⟨s2,rfl,_⟩:=(show ∃ s:ByteArray,c0=[.v (.string s)]∧s.size≤maxLen from g0)
 obtain⟨n0,rfl,_⟩:=(show ∃ n,c1=[.v (.int .i64 n)]∧(Lit.int .i64 n).wf=true from g1)
 obtain⟨n1,rfl,_⟩:=(show ∃ n,a3=[.v (.int .i64 n)]∧(Lit.int .i64 n).wf=true from h3)
 obtain⟨s3,rfl,_⟩:=(show ∃ s:ByteArray,a4=[.v (.string s)]∧s.size≤maxLen from h4)
 exact⟨⟨s0,s1,s2,n0,n1,s3⟩,rfl⟩
section
variable {H:Type} {enc:TypeId × Value→H} {W:World} {base b0:Nat} {sp:Nat→Bool} {held:Bool} {r:Reach} {v:Value} {d:DataW H} {ps:List MemPlace}
end
def laids : List (String × DataW Unit) := [("math/bits.deBruijn32tab", Rows.laid_math_bits_deBruijn32tab), ("math/bits.deBruijn64tab", Rows.laid_math_bits_deBruijn64tab), ("internal/strconv.uint64pow10", Rows.laid_internal_strconv_uint64pow10), ("strconv.ErrRange", Rows.laid_strconv_ErrRange), ("strconv.ErrSyntax", Rows.laid_strconv_ErrSyntax)]
theorem iface_var {n:String} {rest:List (String × DataW Unit)} {W:World} {g:Nat} {ti:TypeId} {ms:Array (String × TypeId)} {nm:String} {dd:DataW Unit} (h:laidMet Tryz.prog ((n, .iface nm dd)::rest) W) (hg:Tryz.prog.globalNamed n=some g)
  (ht:(Tryz.prog.globals[g]?).map (·.type)=some ti) (hi:Tryz.prog.underlying ti=some (.interface ms)):∃ tp p,W.var? Tryz.prog n=some #[.iface tp p]:=by
 obtain⟨ps,⟨g0,t0,cs0,f0,p0,q0,hg0,ht0,hv0,hd0,_,e0⟩,_,hrows⟩:=h
 obtain rfl:=Option.some.inj (hg.symm.trans hg0)
 obtain rfl:=Option.some.inj (ht.symm.trans ht0)
 obtain⟨l0⟩:=cs0
 cases f0 with
 | zero=>simp [DataW.trod] at hd0
 | succ f0 =>
  unfold DataW.trod at hd0
  rw [hi] at hd0
  split at hd0 <;> simp_all
theorem std_of {W:World} (h:laidMetH Tryz.prog laids W):Std W:=by
 rw [MakeChecks.laidMetH_plain _ _ _ (by kernel_rfl)] at h
 have h1:=h.tail.tail.tail
 obtain⟨tq,q,hq⟩:=iface_var (g:=4) h1 (by kernel_rfl) (by kernel_rfl) Tryz.underlying147
 obtain⟨tp,p,hp⟩:=iface_var (g:=3) h1.tail (by kernel_rfl) (by kernel_rfl) Tryz.underlying147
 exact⟨tp,p,tq,q,hp,hq⟩
end Go.Proofs.YtblnhdnogjijiaaGreatDoor
namespace Go.Proofs.YtblnhdnogjijiaaGreatDoor
open Go.RowKit Go.Shelf Go.ChangeShapes Go.WideShapes Go.Proofs
set_option maxRecDepth 100000

theorem words_app:∀ (w r:List Char),(w.all fun c => !(c == Char.ofNat 32))=true→wordsSigns (w++Char.ofNat 32::r)=w::wordsSigns r
 | [],_,_=>rfl
 | c::w,r,h=>by
  rw [List.all_cons,Bool.and_eq_true] at h
  have ih:=words_app w r h.2
  have hc:c≠Char.ofNat 32:=by simpa using h.1
  show wordsSigns (c::(w++Char.ofNat 32::r))=_
  rw [wordsSigns.eq_3 c _ hc,ih]
theorem io_eq : Tryz.prog.initOrder = "harness a33e9cbe7952f7f382826246a114ee55385dea5ab4652de37f5d8544d92e8eb8 cut at apograph/apographlaw22.CollationCollates apograph/apographlaw22.CollationFinds apograph/apographlaw22.CollationReads apograph/apographlaw22.CollationTexts apograph/apographlaw22.CollationKeeps apograph/apographlaw22.CollationChanges apograph/apographlaw22.CollationReorders apograph/apographlaw22.CollationLines apograph/apographtop.TopProgressive" := by kernel_rfl
theorem io_of : ∃ r : List Char, ("harness a33e9cbe7952f7f382826246a114ee55385dea5ab4652de37f5d8544d92e8eb8 cut at apograph/apographlaw22.CollationCollates apograph/apographlaw22.CollationFinds apograph/apographlaw22.CollationReads apograph/apographlaw22.CollationTexts apograph/apographlaw22.CollationKeeps apograph/apographlaw22.CollationChanges apograph/apographlaw22.CollationReorders apograph/apographlaw22.CollationLines apograph/apographtop.TopProgressive" : String) = String.ofList (Char.ofNat 104 :: Char.ofNat 97 :: Char.ofNat 114 :: Char.ofNat 110 :: Char.ofNat 101 :: Char.ofNat 115 :: Char.ofNat 115 :: Char.ofNat 32 :: Char.ofNat 97 :: Char.ofNat 51 :: Char.ofNat 51 :: Char.ofNat 101 :: Char.ofNat 57 :: Char.ofNat 99 :: Char.ofNat 98 :: Char.ofNat 101 :: Char.ofNat 55 :: Char.ofNat 57 :: Char.ofNat 53 :: Char.ofNat 50 :: Char.ofNat 102 :: Char.ofNat 55 :: Char.ofNat 102 :: Char.ofNat 51 :: Char.ofNat 56 :: Char.ofNat 50 :: Char.ofNat 56 :: Char.ofNat 50 :: Char.ofNat 54 :: Char.ofNat 50 :: Char.ofNat 52 :: Char.ofNat 54 :: Char.ofNat 97 :: Char.ofNat 49 :: Char.ofNat 49 :: Char.ofNat 52 :: Char.ofNat 101 :: Char.ofNat 101 :: Char.ofNat 53 :: Char.ofNat 53 :: Char.ofNat 51 :: Char.ofNat 56 :: Char.ofNat 53 :: Char.ofNat 100 :: Char.ofNat 101 :: Char.ofNat 97 :: Char.ofNat 53 :: Char.ofNat 97 :: Char.ofNat 98 :: Char.ofNat 52 :: Char.ofNat 54 :: Char.ofNat 53 :: Char.ofNat 50 :: Char.ofNat 100 :: Char.ofNat 101 :: Char.ofNat 51 :: Char.ofNat 55 :: Char.ofNat 102 :: Char.ofNat 53 :: Char.ofNat 100 :: Char.ofNat 56 :: Char.ofNat 53 :: Char.ofNat 52 :: Char.ofNat 52 :: Char.ofNat 100 :: Char.ofNat 57 :: Char.ofNat 50 :: Char.ofNat 101 :: Char.ofNat 56 :: Char.ofNat 101 :: Char.ofNat 98 :: Char.ofNat 56 :: Char.ofNat 32 :: Char.ofNat 99 :: Char.ofNat 117 :: Char.ofNat 116 :: Char.ofNat 32 :: r) := ⟨_, rfl⟩
theorem io_behind:∃ X:List (List Char),behindMainWord (wordsSigns Tryz.prog.initOrder.toList)=[Char.ofNat 99,Char.ofNat 117,Char.ofNat 116]::X:=by
 obtain⟨r,h⟩:=io_of
 have e:Tryz.prog.initOrder.toList=[Char.ofNat 104,Char.ofNat 97,Char.ofNat 114,Char.ofNat 110,Char.ofNat 101,Char.ofNat 115,Char.ofNat 115]++Char.ofNat 32::([Char.ofNat 97,Char.ofNat 51,Char.ofNat 51,Char.ofNat 101,Char.ofNat 57,Char.ofNat 99,Char.ofNat 98,Char.ofNat 101,Char.ofNat 55,Char.ofNat 57,Char.ofNat 53,Char.ofNat 50,Char.ofNat 102,Char.ofNat 55,Char.ofNat 102,Char.ofNat 51,Char.ofNat 56,Char.ofNat 50,Char.ofNat 56,Char.ofNat 50,Char.ofNat 54,Char.ofNat 50,Char.ofNat 52,Char.ofNat 54,Char.ofNat 97,Char.ofNat 49,Char.ofNat 49,Char.ofNat 52,Char.ofNat 101,Char.ofNat 101,Char.ofNat 53,Char.ofNat 53,Char.ofNat 51,Char.ofNat 56,Char.ofNat 53,Char.ofNat 100,Char.ofNat 101,Char.ofNat 97,Char.ofNat 53,Char.ofNat 97,Char.ofNat 98,Char.ofNat 52,Char.ofNat 54,Char.ofNat 53,Char.ofNat 50,Char.ofNat 100,Char.ofNat 101,Char.ofNat 51,Char.ofNat 55,Char.ofNat 102,Char.ofNat 53,Char.ofNat 100,Char.ofNat 56,Char.ofNat 53,Char.ofNat 52,Char.ofNat 52,Char.ofNat 100,Char.ofNat 57,Char.ofNat 50,Char.ofNat 101,Char.ofNat 56,Char.ofNat 101,Char.ofNat 98,Char.ofNat 56]++Char.ofNat 32::([Char.ofNat 99,Char.ofNat 117,Char.ofNat 116]++Char.ofNat 32::r)):=by
  rw [io_eq,h,String.toList_ofList];rfl
 rw [e,words_app _ _ (by decide +kernel),words_app _ _ (by decide +kernel),words_app _ _ (by decide +kernel)]
 refine ⟨wordsSigns r,?_⟩
 generalize wordsSigns r=X
 kernel_rfl
theorem io_strip (X:List (List Char)):stripLifts liftWords ([Char.ofNat 99,Char.ofNat 117,Char.ofNat 116]::X)=([],[Char.ofNat 99,Char.ofNat 117,Char.ofNat 116]::X):=by kernel_rfl
theorem enter_of {P:Program} {X:List (List Char)} (h:behindMainWord (wordsSigns P.initOrder.toList)=[Char.ofNat 99,Char.ofNat 117,Char.ofNat 116]::X) (h1:P.laysLater=false) (h2:P.bearsReflect=false) (h3:P.doorFits []=true):P.mayEnter=true:=by
 unfold Program.mayEnter
 rw [h]
 simp only [io_strip,h1,h2,h3]
 kernel_rfl
theorem head_of {P:Program} {X:List (List Char)} (h:behindMainWord (wordsSigns P.initOrder.toList)=[Char.ofNat 99,Char.ofNat 117,Char.ofNat 116]::X):P.headLifts=[]:=by
 unfold Program.headLifts
 rw [h,io_strip]
 kernel_rfl
theorem lifts_of {P:Program} {X:List (List Char)} (h:behindMainWord (wordsSigns P.initOrder.toList)=[Char.ofNat 99,Char.ofNat 117,Char.ofNat 116]::X):P.liftsFinal=false:=by
 show (((behindMainWord (wordsSigns P.initOrder.toList)).head? == some "carried".toList && (behindMainWord (wordsSigns P.initOrder.toList)).take 3 != ["carried".toList, "gc".toList, "cut".toList]) || P.headLifts.contains "finals") = false
 rw [h,head_of h]
 kernel_rfl
theorem make_of {P:Program} {X:List (List Char)} (h:behindMainWord (wordsSigns P.initOrder.toList)=[Char.ofNat 99,Char.ofNat 117,Char.ofNat 116]::X):P.make=some .cut:=by
 unfold Program.make
 rw [h]
 kernel_rfl
theorem io_enter:Tryz.prog.mayEnter=true:=by
 obtain⟨X,h⟩:=io_behind
 exact enter_of h (by as_aux_lemma=>kernel_rfl) (by as_aux_lemma=>kernel_rfl) (by as_aux_lemma=>kernel_rfl)
theorem io_lifts:Tryz.prog.liftsFinal=false:=by
 obtain⟨X,h⟩:=io_behind
 exact lifts_of h
theorem io_make:Tryz.prog.make=some .cut:=by
 obtain⟨X,h⟩:=io_behind
 exact make_of h
theorem io_two:∃ X:List (List Char),wordsSigns Tryz.prog.initOrder.toList=[Char.ofNat 104,Char.ofNat 97,Char.ofNat 114,Char.ofNat 110,Char.ofNat 101,Char.ofNat 115,Char.ofNat 115]::[Char.ofNat 97,Char.ofNat 51,Char.ofNat 51,Char.ofNat 101,Char.ofNat 57,Char.ofNat 99,Char.ofNat 98,Char.ofNat 101,Char.ofNat 55,Char.ofNat 57,Char.ofNat 53,Char.ofNat 50,Char.ofNat 102,Char.ofNat 55,Char.ofNat 102,Char.ofNat 51,Char.ofNat 56,Char.ofNat 50,Char.ofNat 56,Char.ofNat 50,Char.ofNat 54,Char.ofNat 50,Char.ofNat 52,Char.ofNat 54,Char.ofNat 97,Char.ofNat 49,Char.ofNat 49,Char.ofNat 52,Char.ofNat 101,Char.ofNat 101,Char.ofNat 53,Char.ofNat 53,Char.ofNat 51,Char.ofNat 56,Char.ofNat 53,Char.ofNat 100,Char.ofNat 101,Char.ofNat 97,Char.ofNat 53,Char.ofNat 97,Char.ofNat 98,Char.ofNat 52,Char.ofNat 54,Char.ofNat 53,Char.ofNat 50,Char.ofNat 100,Char.ofNat 101,Char.ofNat 51,Char.ofNat 55,Char.ofNat 102,Char.ofNat 53,Char.ofNat 100,Char.ofNat 56,Char.ofNat 53,Char.ofNat 52,Char.ofNat 52,Char.ofNat 100,Char.ofNat 57,Char.ofNat 50,Char.ofNat 101,Char.ofNat 56,Char.ofNat 101,Char.ofNat 98,Char.ofNat 56]::X:=by
 obtain⟨r,h⟩:=io_of
 have e:Tryz.prog.initOrder.toList=[Char.ofNat 104,Char.ofNat 97,Char.ofNat 114,Char.ofNat 110,Char.ofNat 101,Char.ofNat 115,Char.ofNat 115]++Char.ofNat 32::([Char.ofNat 97,Char.ofNat 51,Char.ofNat 51,Char.ofNat 101,Char.ofNat 57,Char.ofNat 99,Char.ofNat 98,Char.ofNat 101,Char.ofNat 55,Char.ofNat 57,Char.ofNat 53,Char.ofNat 50,Char.ofNat 102,Char.ofNat 55,Char.ofNat 102,Char.ofNat 51,Char.ofNat 56,Char.ofNat 50,Char.ofNat 56,Char.ofNat 50,Char.ofNat 54,Char.ofNat 50,Char.ofNat 52,Char.ofNat 54,Char.ofNat 97,Char.ofNat 49,Char.ofNat 49,Char.ofNat 52,Char.ofNat 101,Char.ofNat 101,Char.ofNat 53,Char.ofNat 53,Char.ofNat 51,Char.ofNat 56,Char.ofNat 53,Char.ofNat 100,Char.ofNat 101,Char.ofNat 97,Char.ofNat 53,Char.ofNat 97,Char.ofNat 98,Char.ofNat 52,Char.ofNat 54,Char.ofNat 53,Char.ofNat 50,Char.ofNat 100,Char.ofNat 101,Char.ofNat 51,Char.ofNat 55,Char.ofNat 102,Char.ofNat 53,Char.ofNat 100,Char.ofNat 56,Char.ofNat 53,Char.ofNat 52,Char.ofNat 52,Char.ofNat 100,Char.ofNat 57,Char.ofNat 50,Char.ofNat 101,Char.ofNat 56,Char.ofNat 101,Char.ofNat 98,Char.ofNat 56]++Char.ofNat 32::([Char.ofNat 99,Char.ofNat 117,Char.ofNat 116]++Char.ofNat 32::r)):=by
  rw [io_eq,h,String.toList_ofList];rfl
 rw [e,words_app _ _ (by decide +kernel),words_app _ _ (by decide +kernel)]
 exact⟨_,rfl⟩
theorem main_of {P:Program} {X:List (List Char)} (h:wordsSigns P.initOrder.toList=[Char.ofNat 104,Char.ofNat 97,Char.ofNat 114,Char.ofNat 110,Char.ofNat 101,Char.ofNat 115,Char.ofNat 115]::[Char.ofNat 97,Char.ofNat 51,Char.ofNat 51,Char.ofNat 101,Char.ofNat 57,Char.ofNat 99,Char.ofNat 98,Char.ofNat 101,Char.ofNat 55,Char.ofNat 57,Char.ofNat 53,Char.ofNat 50,Char.ofNat 102,Char.ofNat 55,Char.ofNat 102,Char.ofNat 51,Char.ofNat 56,Char.ofNat 50,Char.ofNat 56,Char.ofNat 50,Char.ofNat 54,Char.ofNat 50,Char.ofNat 52,Char.ofNat 54,Char.ofNat 97,Char.ofNat 49,Char.ofNat 49,Char.ofNat 52,Char.ofNat 101,Char.ofNat 101,Char.ofNat 53,Char.ofNat 53,Char.ofNat 51,Char.ofNat 56,Char.ofNat 53,Char.ofNat 100,Char.ofNat 101,Char.ofNat 97,Char.ofNat 53,Char.ofNat 97,Char.ofNat 98,Char.ofNat 52,Char.ofNat 54,Char.ofNat 53,Char.ofNat 50,Char.ofNat 100,Char.ofNat 101,Char.ofNat 51,Char.ofNat 55,Char.ofNat 102,Char.ofNat 53,Char.ofNat 100,Char.ofNat 56,Char.ofNat 53,Char.ofNat 52,Char.ofNat 52,Char.ofNat 100,Char.ofNat 57,Char.ofNat 50,Char.ofNat 101,Char.ofNat 56,Char.ofNat 101,Char.ofNat 98,Char.ofNat 56]::X):P.mainIs=some (true,[Char.ofNat 97,Char.ofNat 51,Char.ofNat 51,Char.ofNat 101,Char.ofNat 57,Char.ofNat 99,Char.ofNat 98,Char.ofNat 101,Char.ofNat 55,Char.ofNat 57,Char.ofNat 53,Char.ofNat 50,Char.ofNat 102,Char.ofNat 55,Char.ofNat 102,Char.ofNat 51,Char.ofNat 56,Char.ofNat 50,Char.ofNat 56,Char.ofNat 50,Char.ofNat 54,Char.ofNat 50,Char.ofNat 52,Char.ofNat 54,Char.ofNat 97,Char.ofNat 49,Char.ofNat 49,Char.ofNat 52,Char.ofNat 101,Char.ofNat 101,Char.ofNat 53,Char.ofNat 53,Char.ofNat 51,Char.ofNat 56,Char.ofNat 53,Char.ofNat 100,Char.ofNat 101,Char.ofNat 97,Char.ofNat 53,Char.ofNat 97,Char.ofNat 98,Char.ofNat 52,Char.ofNat 54,Char.ofNat 53,Char.ofNat 50,Char.ofNat 100,Char.ofNat 101,Char.ofNat 51,Char.ofNat 55,Char.ofNat 102,Char.ofNat 53,Char.ofNat 100,Char.ofNat 56,Char.ofNat 53,Char.ofNat 52,Char.ofNat 52,Char.ofNat 100,Char.ofNat 57,Char.ofNat 50,Char.ofNat 101,Char.ofNat 56,Char.ofNat 101,Char.ofNat 98,Char.ofNat 56]):=by
 unfold Program.mainIs
 rw [h]
 kernel_rfl
theorem io_sum : "a33e9cbe7952f7f382826246a114ee55385dea5ab4652de37f5d8544d92e8eb8".toList = [Char.ofNat 97, Char.ofNat 51, Char.ofNat 51, Char.ofNat 101, Char.ofNat 57, Char.ofNat 99, Char.ofNat 98, Char.ofNat 101, Char.ofNat 55, Char.ofNat 57, Char.ofNat 53, Char.ofNat 50, Char.ofNat 102, Char.ofNat 55, Char.ofNat 102, Char.ofNat 51, Char.ofNat 56, Char.ofNat 50, Char.ofNat 56, Char.ofNat 50, Char.ofNat 54, Char.ofNat 50, Char.ofNat 52, Char.ofNat 54, Char.ofNat 97, Char.ofNat 49, Char.ofNat 49, Char.ofNat 52, Char.ofNat 101, Char.ofNat 101, Char.ofNat 53, Char.ofNat 53, Char.ofNat 51, Char.ofNat 56, Char.ofNat 53, Char.ofNat 100, Char.ofNat 101, Char.ofNat 97, Char.ofNat 53, Char.ofNat 97, Char.ofNat 98, Char.ofNat 52, Char.ofNat 54, Char.ofNat 53, Char.ofNat 50, Char.ofNat 100, Char.ofNat 101, Char.ofNat 51, Char.ofNat 55, Char.ofNat 102, Char.ofNat 53, Char.ofNat 100, Char.ofNat 56, Char.ofNat 53, Char.ofNat 52, Char.ofNat 52, Char.ofNat 100, Char.ofNat 57, Char.ofNat 50, Char.ofNat 101, Char.ofNat 56, Char.ofNat 101, Char.ofNat 98, Char.ofNat 56] := by kernel_rfl
theorem io_main : Tryz.prog.mainIs = some (true, "a33e9cbe7952f7f382826246a114ee55385dea5ab4652de37f5d8544d92e8eb8".toList) := by
 obtain⟨X,h⟩:=io_two
 rw [io_sum]
 exact main_of h

theorem io_met (os:Os) (args:Array Value):laidMetH Tryz.prog laids ((World.doorLaid Tryz.prog 400 os).forCall (fun _ _=>0) ⟨#[],args,[]⟩).memory :=
 laidMetH_of_parts3 (fuel:=8) (laidMet_of_run' 8 (by as_aux_lemma=>kernel_rfl) (by as_aux_lemma=>kernel_rfl)) (by as_aux_lemma=>kernel_rfl) (by as_aux_lemma=>kernel_rfl)
end Go.Proofs.YtblnhdnogjijiaaGreatDoor
namespace Go.Proofs.YtblnhdnogjijiaaGreatDoor
open Go.RowKit Go.Shelf

class FocusMW (H:List HA) (t:outParam TypeId) (l:outParam (List (Nat × List Value))) (rb:outParam (HA→List HA)):Prop where
 at_:∃ i,H[i]?=some (blks t l)∧∀ B,rb B=H.set i B
instance FocusMW.head (H:List HA) (t:TypeId) (l:List (Nat × List Value)):FocusMW (blks t l::H) t l (fun B=>B::H):=⟨0,rfl,fun _=>rfl⟩
instance FocusMW.tail (A0:HA) (H:List HA) (t:TypeId) (l:List (Nat × List Value)) (rb:HA→List HA) [h:FocusMW H t l rb]:FocusMW (A0::H) t l (fun B=>A0::rb B) :=
 ⟨by obtain⟨i,h1,h2⟩:=h.at_;exact⟨i+1,by simpa using h1,fun B=>by simp [h2]⟩⟩
theorem lookB_set {l:List (Nat × List Value)} (hn:(l.map Prod.fst).Nodup) {k g:Nat} {cs cs':List Value} (h:l[k]?=some (g,cs)) (x:Nat):lookB (l.set k (g,cs')) x=if x=g then some cs' else lookB l x:=by
 induction l generalizing k with
 | nil=>simp at h
 | cons y l ih =>
  obtain⟨g0,c0⟩:=y
  simp only [List.map_cons,List.nodup_cons] at hn
  cases k with
  | zero =>
   simp at h
   obtain⟨rfl,rfl⟩:=h
   simp only [List.set_cons_zero,lookB]
   by_cases e:x=g0
   ·simp [e]
   ·simp [e]
  | succ k =>
   simp only [List.getElem?_cons_succ] at h
   simp only [List.set_cons_succ,lookB]
   have hne:g≠g0:=fun e=>hn.1 (by rw [← e];exact List.mem_map.2 ⟨(g,cs),List.mem_of_getElem? h,rfl⟩)
   by_cases e:x=g0
   ·subst e;rw [if_pos rfl,if_neg (Ne.symm hne),if_pos rfl]
   ·rw [if_neg e,if_neg e];exact ih hn.2 h
theorem fst_set {l:List (Nat × List Value)} {k g:Nat} {cs cs':List Value} (h:l[k]?=some (g,cs)):(l.set k (g,cs')).map Prod.fst=l.map Prod.fst:=by
 rw [List.map_set]
 apply List.ext_getElem?
 intro i
 rw [List.getElem?_set]
 split
 ·rename_i e;subst e
  split
  ·rw [List.getElem?_map,h];rfl
  ·rename_i h2;rw [List.getElem?_eq_none (by omega)]
 ·rfl
section
variable {C:Cx} {all:Array Oper} {o:Oper} {env:Env} {ec:EnvC} {H:List HA} {d:Nat} {Φ:Env→EnvC→List HA→Prop}
theorem OpT.storeM {b off k:Nat} {u:Value} {t:TypeId} {l:List (Nat × List Value)} {cs:List Value} {rb:HA→List HA} (hg:gOf all env ec o=some []) (hd:o.dst=none) (he:evSt C.S env ec o=some (b,off,1,u)) [hf:FocusMW H t l rb]
  (hk:l[k]?=some (b,cs)) (h1:u.oneCell'=true) (hl:off<cs.length) (h:Φ env ec (rb (blks t (l.set k (b,cs.set off u))))):OpT C all o env ec H Φ:=by
 obtain⟨i,hi,hrb⟩:=hf.at_
 have hcu:u.cells.toList=[u]:=by cases u <;> first|rfl|(simp [Value.oneCell'] at h1)
 refine OpT.skip hg hd fun a w ha hw=>?_
 have hb:=hw.blks hi hk
 have hbn:C.w0.heap.size≤b:=by
  obtain⟨F,f1,f2,f3⟩:=hw.sep
  have hil:i<H.length:=(List.getElem?_eq_some_iff.1 hi).1
  obtain⟨hn,hF⟩:=f1 i _ hi
  exact (f2 i b _ hil (by rw [hF,lookB_get hn hk];rfl)).1
 obtain⟨w',g1,g2,g3,g4,g5,g6,g7⟩:=run_storeL C.S.P b t [u] 0 off cs w hb (by simp;omega) (by simp [oneCells,h1])
 refine ⟨w',_,?_,⟨?_,?_⟩,h⟩
 ·obtain⟨dst,op,ty,pos,aft,gd⟩:=o
  unfold evSt at he
  dsimp only at he
  split at he
  ·rename_i t' x y
   split at he
   ·rename_i d0 n' m z b' off' v' ht hx hy
    cases he
    have hsz:=(Sig.tyOk ht).sizeOf w
    dsimp only at hsz
    have hsize:u.cells.size=1:=by have:=congrArg List.length hcu;simpa using this
    simp only [execOp,evX_spec ha (Holds.nil _ _) hx,evX_spec ha (Holds.nil _ _) hy,Instr.storeAt,Instr.sureAddr,storeVar]
    simp [hsz,hsize,hcu,g1]
   ·cases he
  ·cases he
 ·exact hw.below.trans ⟨g4,g5,g6,by omega,fun c hc=>g3 c (by omega)⟩
 ·rw [hrb]
  refine hw.sep.swap hi fun f hF hfw=>?_
  obtain⟨hn,hF⟩:=hF
  refine ⟨fun x=>if x=b then some (.cells (cs.set off u).toArray t (0,0)) else f x,⟨by rw [fst_set hk];exact hn,fun x=>?_⟩,fun x ob hx=>?_,fun c hc hfc=>?_⟩
  ·rw [lookB_set hn hk]
   dsimp only
   by_cases e:x=b
   ·rw [if_pos e,if_pos e];rfl
   ·rw [if_neg e,if_neg e];exact hF x
  ·dsimp only at hx
   by_cases e:x=b
   ·subst e
    rw [if_pos rfl] at hx
    cases hx
    refine ⟨hbn,by simpa [setL] using g2, .inl ?_⟩
    rw [hF,lookB_get hn hk];simp
   ·rw [if_neg e] at hx
    have:=hfw x ob hx
    refine ⟨this.1,(g3 x e).trans this.2, .inl ?_⟩
    rw [hx];simp
  ·refine g3 c fun e=>?_
   subst e
   rw [hF,lookB_get hn hk] at hfc
   cases hfc
end
def intsD (l:List Int):D := .s 1 (l.map fun n => .v (.int .i64 n))
def rowsD (m:List (List Int)):D := .s 1 (m.map intsD)
theorem rd_blks {f:Frag} {t:TypeId} {k cap:Nat} (hk:k≤cap) (hcap:cap≤9223372036854775807):∀ {L:List (Nat × List Value)},(∀ x∈L,f x.1=some (.cells x.2.toArray t (0,0))∧k≤x.2.length) →
  Rd (fr f) (L.map fun x => .slice (some ⟨x.1,0,none⟩) k cap) (L.map fun x=>D.s 1 ((x.2.take k).map .v))
 | [],_ => .nil
 | x::L,h=>by
  obtain⟨h1,h2⟩:=h x (List.mem_cons_self ..)
  refine Rd.s (some ⟨x.1,0,none⟩) k cap 1 (x.2.take k) (by simp;omega) hk hcap (fun _=>⟨rfl,fun j u hu=>?_⟩) (Rd.vals _) (rd_blks hk hcap fun y hy=>h y (List.mem_cons_of_mem _ hy))
  show fr f x.1 (0+j)=some u
  unfold fr
  rw [h1,Nat.zero_add]
  rw [List.getElem?_take] at hu
  split at hu
  ·simpa using hu
  ·cases hu
theorem dat_blks {t:TypeId} {L:List (Nat × List Value)} {H:List HA} (k cap:Nat) (hk:k≤cap) (hcap:cap≤9223372036854775807) (hL:∀ x∈L,k≤x.2.length) :
  Hle (blks t L::H) (dat (L.map fun x => .slice (some ⟨x.1,0,none⟩) k cap) (L.map fun x=>D.s 1 ((x.2.take k).map .v))::H) :=
 hle_map fun f ⟨hn,hf⟩=>rd_blks hk hcap fun x hx=>by
  obtain⟨i,hi,e⟩:=List.getElem_of_mem hx
  refine ⟨?_,hL x hx⟩
  rw [hf,lookB_get hn (k:=i) (cs:=x.2) (by rw [List.getElem?_eq_getElem hi,e])]
  rfl
theorem blk_row_take {b:Nat} {cs:List Value} {e:TypeId} {n:Nat} (hn:n≤cs.length) (hm:cs.length≤maxLen):∀ f,blk b cs e f→row e 1 (some ⟨b,0,none⟩) cs.length n (cs.take n) f :=
 fun f hf=>⟨by simp;omega, .inr ⟨b,cs.toArray,rfl,hf,hn,hm,by simp,by simp⟩⟩
end Go.Proofs.YtblnhdnogjijiaaGreatDoor
namespace Go.Proofs.YtblnhdnogjijiaaGreatDoor
open Go.RowKit Go.Shelf

theorem rdFz {C:Cx} {H:List HA} {p:Frag} [FocusZ H p] {b o:Nat} {u:Value} (h:fr p b o=some u):∀ w,Cls C.w0 w H→RdC w b o [u] :=
 fun _ hw=>RdC.one (hw.fz (p:=p) _ _ _ h)
theorem Rd.row1 {R:Rdr} {x:Value} {r:List Int} (h:Rd R [x] [intsD r]):∃ A cap,x = .slice A r.length cap∧r.length≤cap∧cap≤9223372036854775807∧(0<r.length→∃ b o,A=some ⟨b,o,none⟩∧∀ (k:Nat) z,r[k]?=some z→R b (o+k)=some (.int .i64 z)):=by
 have h':Rd R [x] [.s 1 ((r.map (Value.int .i64)).map .v)]:=by rw [List.map_map];exact h
 obtain⟨A,n,cap,rfl,h1,h2,h3,h4⟩:=h'.vals_one
 have e:n=r.length:=by simpa using h1.symm
 subst e
 exact⟨A,cap,rfl,h2,h3,fun h0=>⟨bk A,ofs A,(h4 h0).1,fun k z hz=>(h4 h0).2 k _ (by rw [List.getElem?_map,hz];rfl)⟩⟩
theorem Rd.tab {R:Rdr} {x:Value} {m:List (List Int)} (h:Rd R [x] [rowsD m]):∃ A cap cs,x = .slice A m.length cap∧m.length≤cap∧cap≤9223372036854775807∧cs.length=m.length∧(0<m.length→∃ b o,A=some ⟨b,o,none⟩∧∀ (i:Nat) u,cs[i]?=some u→R b (o+i)=some u)∧Rd R cs (m.map intsD):=by
 obtain⟨A,n,cap,cs,rfl,h1,h2,h3,h4,h5,h6⟩:=h.slice
 have e:n=m.length:=by simpa using h1.symm
 subst e
 exact⟨A,cap,cs,rfl,h3,h4,by simpa using h2,fun h0=>⟨bk A,ofs A,(h5 h0).1,(h5 h0).2⟩,h6⟩
theorem Rd.tabRow {R:Rdr} {cs:List Value} {m:List (List Int)} (h:Rd R cs (m.map intsD)) {i:Nat} {r:List Int} (hi:m[i]?=some r):∃ A cap,cs[i]?=some (.slice A r.length cap)∧r.length≤cap∧cap≤9223372036854775807∧(0<r.length→∃ b o,A=some ⟨b,o,none⟩∧∀ (k:Nat) z,r[k]?=some z→R b (o+k)=some (.int .i64 z)):=by
 obtain⟨x,hx,hr⟩:=h.get (i:=i) (d:=intsD r) (by rw [List.getElem?_map,hi];rfl)
 obtain⟨A,cap,rfl,h1,h2,h3⟩:=hr.row1
 exact⟨A,cap,hx,h1,h2,h3⟩
theorem off1 (o k:Nat):o+(k:Int).toNat * 1=o+k:=by omega
end Go.Proofs.YtblnhdnogjijiaaGreatDoor
namespace Go.Proofs.YtblnhdnogjijiaaGreatDoor
open Go.RowKit Go.Shelf

theorem run_append_str_at {P:Program} (w:World) (base:Nat) (t u ty e:TypeId) (i:TypeInfo) (ht:P.underlying t=some (.slice e)) (hu:P.underlying u=some .string) (hi:P.info? e=some i) (hz:i.zero=some (.int .u8 0))
  (hsize:i.size=1) (hby:i.bytes=1) (v:Value) (n:Nat) (xs:List Value) (hown:w.ownsRow base e 1 v n xs) (s:ByteArray) (hb:n+s.size≤140737488355328) (hbase:base≤w.heap.size) :
  ∃ v' w',(Builtin.append_ #[t,u] ty #[v, .string s]).run P w = .ok v' w'∧w'.ownsRow base e 1 v' (n+s.size) (xs++byteVals s)∧w.grownBy w' v.ownBlock∧(v'.ownBlock=v.ownBlock∨v'.ownBlock=some w.heap.size):=by
 have h63:n+s.size≤maxLen:=by simp only [maxLen];omega
 obtain⟨v',w',hr,h1,h2,-⟩:=Lib.run_append_own_string (P:=P) w base t u ty e i ht hu hi hz hsize hby v n xs hown s h63 hb hbase
 refine ⟨v',w',hr,h1,h2,?_⟩
 have hxl:xs.length=n:=by simpa using hown.1
 rcases hown.2 with⟨rfl,rfl⟩|⟨g,cap,cur,rfl,hbg,hg,hnc,hcm,hcs,htake⟩
 ·by_cases hm:s.size=0
  ·have hf:=Lib.run_firstCells_string (P:=P) w 1 s
   rw [hm] at hf
   have hq:(Builtin.append_ #[t,u] ty #[.slice none 0 0, .string s]).run P w = .ok (.slice none 0 0) w:=by
    simp [Builtin.append_,run_underlying ht,run_underlying hu,sizeOf,typeInfo,hi,hsize,Builtin.lenOf,hm,hf]
   rw [hq] at hr
   cases hr
   exact .inl rfl
  ·have hq:=run_append_nil_string (P:=P) w t u ty e i (.int .u8 0) ht hu hi hz s (by omega) (by omega) (by rw [hby];omega)
   rw [hq] at hr
   cases hr
   exact .inr rfl
 ·by_cases hroom:n+s.size≤cap
  ·have hcs':cur.size=cap:=by simpa using hcs
   have hq:=Lib.run_append_room_string (P:=P) w t u ty e i ht hu hi hsize g n cap cur hg s hroom (by omega)
   rw [hq] at hr
   cases hr
   exact .inl rfl
  ·have holds:∀ j u,xs[j]?=some u→w.cell? ((⟨g,0,none⟩:Addr).add j)=some u:=hown.cells (g:=g) rfl
   have hq:=Lib.run_append_grow_string (P:=P) w t u ty e i (.int .u8 0) ht hu hi hz ⟨g,0,none⟩ n cap xs (by rw [hsize];simpa using hxl) holds s (by omega) (by omega) (by rw [hby];exact growslice_fits (by omega) (by omega))
   rw [hq] at hr
   cases hr
   exact .inr rfl
def evAppS (S:Sig) (env:Env) (ec:EnvC) (o:Oper):Option (Option Addr × Nat × Nat × ByteArray × TypeId) :=
 match o.op with
 | .call { callee := .builtin .append,args:=xs,argTypes:=ts }=>match evL env ec [] xs.toList,ts.toList with
  | some [.slice A n c, .string s],[t,u]=>match S.ty t,S.ty u with
   | some ⟨.slice e,_,_,_⟩,some ⟨.str,_,_,_⟩=>some (A,n,c,s,e)
   | _,_=>none
  | _,_=>none
 | _=>none
section
variable {C:Cx} {all:Array Oper} {o:Oper} {env:Env} {ec:EnvC} {H:List HA} {d:Nat} {Φ:Env→EnvC→List HA→Prop}
theorem OpT.appendS {A:Option Addr} {n c:Nat} {s:ByteArray} {e:TypeId} {ty:TyI} {cap:Nat} {xs:List Value} {rb:HA→List HA} (hg:gOf all env ec o=some []) (he:evAppS C.S env ec o=some (A,n,c,s,e)) (hd:o.dst=some d) (hN:Nat.blt d C.N.n=true) (hs:safeC all d ec=true)
  [hf:FocusR H A e 1 cap n xs rb] (hcap:c=cap) (ht:C.S.ty e=some ty) (hz:ty.zero = .int .u8 0) (hsz:Nat.beq ty.size 1=true) (hby:Nat.beq ty.bytes 1=true) (hb:n+s.size≤140737488355328)
  (h:∀ A' cap',(0<n+s.size→∃ g,A'=some ⟨g,0,none⟩)→Φ ((d, .slice A' (n+s.size) cap')::env) ec (rb (row e 1 A' cap' (n+s.size) (xs++byteVals s)))):OpT C all o env ec H Φ:=by
 subst hcap
 obtain⟨i,hi,hrb⟩:=hf.at_
 have hsz':ty.size=1:=Nat.eq_of_beq_eq_true hsz
 have hby':ty.bytes=1:=Nat.eq_of_beq_eq_true hby
 obtain⟨x,hx,hx1,hx2,hx3⟩:=(Sig.tyOk ht).info'
 refine OpT.eff hg fun a w ha hw=>?_
 obtain⟨F,f1,f2,f3⟩:=hw.sep
 have hil:i<H.length:=(List.getElem?_eq_some_iff.1 hi).1
 have hown:=(f1 i _ hi).own (w:=w) (fun b o hf=>f2 i b o hil hf)
 obtain⟨dst,op,ty0,pos,aft,gd⟩:=o
 unfold evAppS at he
 dsimp only at he
 split at he
 ·rename_i ps ts
  split at he
  ·rename_i A1 n1 c1 s1 t u hps hts
   split at he
   ·rename_i e1 q1 q2 q3 q4 q5 q6 hty hty2
    cases he
    have hut:=(Sig.tyOk hty).fits
    have huu:=(Sig.tyOk hty2).fits
    simp only [Ty.fits] at hut huu
    obtain⟨v',w',g1,g2,g3,g5⟩:=run_append_str_at (P:=C.S.P) w C.w0.heap.size t u ty0 e x hut huu hx (by rw [hx3,hz]) (hx1.trans hsz') (hx2.trans hby') _ n xs hown s hb hw.below.size
    obtain⟨A',cap',rfl,f',r1,r2⟩:=row.of_own g2
    have hargs:ps.map a.eval = #[.slice A n c, .string s]:=Array.ext' (by rw [Array.toList_map];exact evL_spec ha (Holds.nil _ _) hps)
    have hts':ts = #[t,u]:=Array.ext' hts
    refine ⟨.slice A' (n+s.size) cap',w',_,?_,⟨?_,?_⟩,d,hd,hN,hs,h A' cap' ?_⟩
    ·simp [execOp,resolve,invoke,builtin,hargs,hts',g1]
    ·refine hw.below.grown g3 hw.below.size fun b hbk=>?_
     cases hA:A with
     | none=>rw [hA] at hbk;simp [Value.ownBlock] at hbk
     | some ad =>
      rcases hown.2 with⟨h9,_⟩|⟨g,cap9,cur,h9,h10,_⟩
      ·rw [hA] at h9;cases h9
      ·rw [h9] at hbk;simp [Value.ownBlock] at hbk;subst hbk;exact h10
    ·rw [hrb]
     refine Sep.swap ⟨F,f1,f2,f3⟩ hi fun f hrow hf=>⟨f',r1,fun b o hb'=>?_,fun c' hc' hfc=>?_⟩
     ·obtain⟨s1,s2,s3⟩:=r2 b o hb'
      refine ⟨s1,s2,?_⟩
      rw [s3] at g5
      rcases g5 with g5|g5
      ·left
       obtain⟨_,hrow2⟩:=hrow
       rcases hrow2 with⟨rfl,_⟩|⟨g,cur,rfl,rfl,_⟩
       ·simp [Value.ownBlock] at g5
       ·simp [Value.ownBlock] at g5;subst g5;simp [one]
      ·right
       injection g5 with g5
       omega
     ·refine g3.block c' hc' fun e9=>?_
      obtain⟨_,hrow2⟩:=hrow
      rcases hrow2 with⟨rfl,_⟩|⟨g,cur,rfl,rfl,_⟩
      ·simp [Value.ownBlock] at e9
      ·simp [Value.ownBlock] at e9;subst e9;simp [one] at hfc
    ·intro hpos2
     obtain⟨_,hrow2⟩:=r1
     rcases hrow2 with⟨_,_,h9,_⟩|⟨g,cur,rfl,_⟩
     ·omega
     ·exact⟨g,rfl⟩
   ·cases he
  ·cases he
 ·cases he
def evStr (S:Sig) (env:Env) (ec:EnvC) (G:GId) (o:Oper):Option (Option Addr × Nat) :=
 match o.op with
 | .convert s d x=>match S.ty s,S.ty d,evX env ec G x with
  | some ⟨.slice e,_,_,_⟩,some ⟨.str,_,_,_⟩,some (.slice A n _)=>match S.ty e with
   | some ⟨.int .u8,_,_,_⟩=>some (A,n)
   | _=>none
  | _,_,_=>none
 | _=>none
def ints8 (s:List UInt8):List Int:=s.map fun c=>((c.toNat:Nat):Int)
theorem strOf_ints8 (s:List UInt8):strOfNums (ints8 s)=⟨s.toArray⟩:=by
 unfold strOfNums ints8
 congr 1
 apply Array.ext'
 simp only [List.map_map]
 have:((fun n:Int=>UInt8.ofNat n.toNat) ∘ fun c:UInt8=>((c.toNat:Nat):Int))=id:=by
  funext c;simp
 rw [this];simp
theorem run_str0 {P:Program} (w:World) (src dst e:TypeId) (hs:P.underlying src=some (.slice e)) (he:P.underlying e=some (.int .u8)) (hd:P.underlying dst=some .string) (A:Option Addr) (c:Nat) :
  (convert src dst (.slice A 0 c)).run P w = .ok (.string ByteArray.empty) w:=by
 rw [run_convert_bytes_string w src dst e A 0 c hs he hd]
 cases A with
 | none=>simp [Conv.bytesToString]
 | some a =>
  have h:=run_bytesToString (P:=P) w a 0 c [] (by simp [loadCells];rfl)
  simpa using h
theorem Val.str {G:GId} {Hs:List HA} {A:Option Addr} {n:Nat} {bs:List UInt8} (hv:evStr C.S env ec G o=some (A,n)) (hr:∀ w,Cls C.w0 w Hs→Src w 1 A n (bs.map fun c=>Value.int .u8 ((c.toNat:Nat):Int))):Val C all o env ec Hs G (.string ⟨bs.toArray⟩):=by
 intro a w ha hw hH
 obtain⟨h1,h2⟩:=hr w hw
 have hl:bs.length=n:=by simpa using h1
 obtain⟨dst,op,ty,pos,aft,gd⟩:=o
 unfold evStr at hv
 dsimp only at hv
 split at hv
 ·rename_i ts td x
  split at hv
  ·rename_i e q1 q2 q3 q4 q5 q6 A1 n1 c1 hts htd hx
   split at hv
   ·rename_i q7 q8 q9 hte
    cases hv
    have f1:=(Sig.tyOk hts).fits
    have f2:=(Sig.tyOk htd).fits
    have f3:=(Sig.tyOk hte).fits
    simp only [Ty.fits] at f1 f2 f3
    have key:(convert ts td (.slice A n c1)).run C.S.P w = .ok (.string ⟨bs.toArray⟩) w:=by
     by_cases hn:n=0
     ·subst hn
      have hb:bs=[]:=List.eq_nil_of_length_eq_zero hl
      subst hb
      exact run_str0 w ts td e f1 f3 f2 A c1
     ·obtain⟨g1,g2⟩:=h2 (by omega)
      unfold isAt at g1
      rw [g1]
      have h:=run_convert_bytes_arg (P:=C.S.P) w ts e f1 f3 (bk A) (ofs A) n c1 (ints8 bs) (by simp [ints8,hl]) (fun i hi=>by
       have e1:=g2 i (.int .u8 ((ints8 bs).getD i 0)) (by
        have hib:i<bs.length:=by omega
        simp [ints8,List.getD,List.getElem?_eq_getElem hib])
       exact e1) td f2
      rw [h,strOf_ints8]
    simp only [execOp,evX_spec ha hH hx]
    simp [key]
   ·cases hv
  ·cases hv
 ·cases hv
end
def strsD (l:List ByteArray):D := .s 1 ((l.map Value.string).map .v)
theorem Rd.strs {w:World} {x:Value} {l:List ByteArray} (h:Rd (wr w) [x] [strsD l]):∃ A cap,x = .slice A l.length cap∧l.length≤cap∧cap≤9223372036854775807∧Src w 1 A l.length (l.map Value.string):=by
 obtain⟨A,m,cap,rfl,h3,h4,h5,h6⟩:=h.srcV
 have em:m=l.length:=by simpa using h3.symm
 subst em
 exact⟨A,cap,rfl,h4,h5,h6⟩
theorem src_str {w:World} {b o n:Nat} {xs:List ByteArray} (h:Src w 1 (some ⟨b,o,none⟩) n (xs.map Value.string)) {k:Nat} {s:ByteArray} (hk:k<n) (hs:xs[k]?=some s):RdC w b (o+(k:Int).toNat * 1) [.string s]:=by
 have h9:=(h.get1 (i:=k) hk (by rw [List.getElem?_map,hs];rfl)).2
 rw [Nat.mul_one] at h9
 rw [off1]
 exact h9
end Go.Proofs.YtblnhdnogjijiaaGreatDoor
namespace Go.Proofs.YtblnhdnogjijiaaGreatDoor
open Go.RowKit Go.Shelf Go.ChangeShapes Go.WideShapes Go.Proofs
set_option maxRecDepth 100000

theorem chunks {α:Type} (cells:α→List Value) (sz:Nat):∀ (n:Nat) (l:List D),l.length=n * sz→(∀ i,i<n→∃ t:α,(l.drop (i * sz)).take sz=(cells t).map .v)→∃ ts:List α,ts.length=n∧l=(ts.flatMap cells).map .v
 | 0,l,hl,_=>⟨[],rfl,by simpa using List.eq_nil_of_length_eq_zero (by simpa using hl)⟩
 | n+1,l,hl,h=>by
  obtain⟨t,ht⟩:=h 0 (by omega)
  rw [Nat.zero_mul,List.drop_zero] at ht
  obtain⟨ts,h1,h2⟩:=chunks cells sz n (l.drop sz) (by rw [List.length_drop,hl,Nat.succ_mul];omega) fun i hi=>by
   obtain⟨t,ht⟩:=h (i+1) (by omega)
   exact⟨t,by rw [List.drop_drop, ← ht,Nat.succ_mul,Nat.add_comm]⟩
  exact⟨t::ts,by simp [h1],by rw [List.flatMap_cons,List.map_append, ← ht, ← h2,List.take_append_drop]⟩
section
variable {H:Type} {enc:TypeId × Value→H} {W:World} {base b0:Nat} {sp:Nat→Bool} {held:Bool} {r:Reach} {v:Value} {d:DataW H} {ps:List MemPlace}
end
end Go.Proofs.YtblnhdnogjijiaaGreatDoor
namespace Go.Proofs.YtblnhdnogjijiaaGreatDoor
open Go.RowKit Go.Shelf Go.ChangeShapes Go.WideShapes Go.Proofs
set_option maxRecDepth 100000

theorem chunksD {α:Type} (g:α→List D) (sz:Nat):∀ (n:Nat) (l:List D),l.length=n * sz→(∀ i,i<n→∃ t:α,(l.drop (i * sz)).take sz=g t)→∃ ts:List α,ts.length=n∧l=ts.flatMap g
 | 0,l,hl,_=>⟨[],rfl,by simpa using List.eq_nil_of_length_eq_zero (by simpa using hl)⟩
 | n+1,l,hl,h=>by
  obtain⟨t,ht⟩:=h 0 (by omega)
  rw [Nat.zero_mul,List.drop_zero] at ht
  obtain⟨ts,h1,h2⟩:=chunksD g sz n (l.drop sz) (by rw [List.length_drop,hl,Nat.succ_mul];omega) fun i hi=>by
   obtain⟨t,ht⟩:=h (i+1) (by omega)
   exact⟨t,by rw [List.drop_drop, ← ht,Nat.succ_mul,Nat.add_comm]⟩
  exact⟨t::ts,by simp [h1],by rw [List.flatMap_cons, ← ht, ← h2,List.take_append_drop]⟩
theorem flat1D {α:Type} (f:α→D):∀ l:List α,l.flatMap (fun x=>[f x])=l.map f
 | []=>rfl
 | x::l=>by rw [List.flatMap_cons,List.map_cons,flat1D f l];rfl
def toksD (l:List Tok):D := .s 6 ((l.flatMap Tok.cells).map .v)
theorem ints_wt {f:Nat} {ds:List D} (h:wt sg (f+2) 47 ds):∃ l:List Int,ds=[intsD l]:=by
 obtain⟨l,n,rfl,hl,_,hi⟩:=(show ∃ l n,ds=[.s 1 l]∧l.length=n * 1∧n≤maxLen∧∀ i,i<n→wt sg (f+1) 3 ((l.drop (i * 1)).take 1) from h)
 obtain⟨ts,e1,e2⟩:=chunksD (fun z:Int=>[D.v (.int .i64 z)]) 1 n l hl fun i hin=>by
  obtain⟨z,hz,_⟩:=(show ∃ z,_=[D.v (.int .i64 z)]∧(Lit.int .i64 z).wf=true from hi i hin)
  exact⟨z,hz⟩
 subst e2
 exact⟨ts,by rw [flat1D];rfl⟩
theorem rows_wt {f:Nat} {ds:List D} (h:wt sg (f+3) 30 ds):∃ m:List (List Int),ds=[rowsD m]:=by
 obtain⟨l,n,rfl,hl,_,hi⟩:=(show ∃ l n,ds=[.s 1 l]∧l.length=n * 1∧n≤maxLen∧∀ i,i<n→wt sg (f+2) 47 ((l.drop (i * 1)).take 1) from h)
 obtain⟨ts,e1,e2⟩:=chunksD (fun z:List Int=>[intsD z]) 1 n l hl fun i hin=>ints_wt (hi i hin)
 subst e2
 exact⟨ts,by rw [flat1D];rfl⟩
theorem toks_wt {f:Nat} {ds:List D} (h:wt sg (f+4) 38 ds):∃ l:List Tok,ds=[toksD l]:=by
 obtain⟨l,n,rfl,hl,_,hi⟩:=(show ∃ l n,ds=[.s 6 l]∧l.length=n * 6∧n≤maxLen∧∀ i,i<n→wt sg (f+3) 42 ((l.drop (i * 6)).take 6) from h)
 obtain⟨ts,e1,e2⟩:=chunks Tok.cells 6 n l hl fun i hin=>tok_wt (hi i hin)
 subst e2
 exact⟨ts,rfl⟩
theorem toksL_wt {f:Nat} {ds:List D} (h:wt sg (f+5) 25 ds):∃ m:List (List Tok),ds=[.s 1 (m.map toksD)]:=by
 obtain⟨l,n,rfl,hl,_,hi⟩:=(show ∃ l n,ds=[.s 1 l]∧l.length=n * 1∧n≤maxLen∧∀ i,i<n→wt sg (f+4) 38 ((l.drop (i * 1)).take 1) from h)
 obtain⟨ts,e1,e2⟩:=chunksD (fun z:List Tok=>[toksD z]) 1 n l hl fun i hin=>toks_wt (hi i hin)
 subst e2
 exact⟨ts,by rw [flat1D]⟩
theorem Rd.toks {w:World} {x:Value} {l:List Tok} (h:Rd (wr w) [x] [toksD l]):∃ A cap,x = .slice A l.length cap∧l.length≤9223372036854775807∧Src w 6 A l.length (l.flatMap Tok.cells)∧l.length≤cap∧cap≤9223372036854775807:=by
 obtain⟨A,m,cap,rfl,h3,h4,h5,h6⟩:=h.srcV
 have em:m=l.length:=by
  have:(l.flatMap Tok.cells).length=l.length * 6:=flatT_length l
  omega
 subst em
 exact⟨A,cap,rfl,by omega,h6,h4,h5⟩
section
variable {H:Type} {enc:TypeId × Value→H} {W:World} {base b0:Nat} {sp:Nat→Bool} {held:Bool} {r:Reach} {v:Value} {d:DataW H} {ps:List MemPlace}
theorem arg_int (hv:Value.okWide Tryz.prog W r b0 3 v) (h:DataW.Trod enc Tryz.prog W base sp held 3 v d ps):∃ n:Int,v = .int .i64 n ∧ -9223372036854775808≤n∧n≤9223372036854775807:=by
 obtain⟨fuel,hf⟩:=h
 obtain⟨ds,h1,h2⟩:=trod_wt (S:=sg) 9 rfl hf
 obtain⟨n,rfl,hn⟩:=(show ∃ n,ds=[.v (.int .i64 n)]∧(Lit.int .i64 n).wf=true from h2)
 have hc:v.cells.toList=[v]:=by
  cases v <;> first|rfl|(exfalso;unfold Value.okWide at hv;simp [Tryz.underlying3] at hv;unfold Cell.okWide at hv;simp [Tryz.underlying3] at hv;unfold Cell.ok at hv;simp [Tryz.underlying3] at hv)
 rw [hc] at h1
 refine ⟨n,h1.val,?_⟩
 simp only [Lit.wf,Bool.and_eq_true,decide_eq_true_eq] at hn
 exact⟨by have:=hn.1;simpa [IntKind.min,IntKind.signed,IntKind.bits] using this,by have:=hn.2;simpa [IntKind.max,IntKind.signed,IntKind.bits] using this⟩
end
end Go.Proofs.YtblnhdnogjijiaaGreatDoor
