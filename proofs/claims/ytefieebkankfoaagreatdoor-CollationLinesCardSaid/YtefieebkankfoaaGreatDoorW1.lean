/- Joined texts of this claim, part 1. -/
import Derived.Test.YtefieebkankfoaaGreatDoorW0
import Derived.Lib.ItoaNum
import Derived.Lib.AtoiAll
import Derived.Lib.Bytealg
import Derived.Test.YtefieebkankfoaaGreatDoorProg
import Derived.Tactics
import Derived.Laws.StructEq
import Derived.Test.YtefieebkankfoaaGreatDoorRows
import Derived.Test.YtefieebkankfoaaGreatDoorTie
import Derived.Test.YtefieebkankfoaaGreatDoorCards
import Derived.JoinedOf
import Derived.Lay
import Derived.Lib.AppendZerosOnto
import Derived.Laws.IdiomCopy
import Derived.Lib.Overlaps
import Derived.Laws.Externs
set_option linter.unusedSectionVars false
set_option linter.unusedVariables false
set_option linter.unusedSimpArgs false
namespace Go.Proofs.YtefieebkankfoaaGreatDoor

structure Tok where
 text:ByteArray
 norm:ByteArray
 page:ByteArray
 line:Int
 flags:Int
 name:ByteArray
@[reducible] def Tok.cells (t:Tok):List Value:=[.string t.text, .string t.norm, .string t.page, .int .i64 t.line, .int .i64 t.flags, .string t.name]
@[reducible] def Tok.val (t:Tok):Value := .agg t.cells.toArray
def hasN (f n:Int):Bool:=decide (f / n % 2=1)
def gapStr (n:Nat):ByteArray:=⟨#[91]⟩++⟨(Lib.decDigits n).toArray⟩++⟨#[93]⟩
def gappedB (s:ByteArray):Bool:=(List.range 65).any fun n=>decide (1≤n) && decide (s=gapStr n)
theorem gappedB_true {s:ByteArray} {n:Nat} (h:n<65) (h1:1≤n) (h2:s=gapStr n):gappedB s=true:=by
 unfold gappedB
 rw [List.any_eq_true]
 exact⟨n,List.mem_range.2 h,by simp [h1,h2]⟩
theorem gappedB_false {s:ByteArray} (h:∀ n,n<65→1≤n→s≠gapStr n):gappedB s=false:=by
 unfold gappedB
 rw [List.any_eq_false]
 intro n hn hh
 simp only [Bool.and_eq_true,decide_eq_true_eq] at hh
 exact h n (List.mem_range.1 hn) hh.1 hh.2
theorem decDigits_len (n:Nat) (h:n<100):(Lib.decDigits n).length≤2:=by
 by_cases h1:n<10
 ·rw [Lib.decDigits_one h1];simp
 ·rw [Lib.decDigits_two h1 h];simp
def normB (s:ByteArray):Bool:=decide (∀ j,j<s.size→wordlyK (kAt s j)=true)
def formBad (t:Tok):Bool :=
 if hasN t.flags 2 then !gappedB t.text || !decide (t.norm=t.text)
 else if hasN t.flags 8 then !decide ((t.text.size:Int)=1) || (!decide (kAt t.text 0=5) && !decide (kAt t.text 0=4)) || !decide (t.norm=t.text)
 else !isWordB t.text || decide (t.norm=ByteArray.mk #[]) || decide ((64:Int)<t.norm.size) || !normB t.norm
def tokE (t:Tok):Int :=
 if t.flags<0∨31<t.flags then 2
 else if hasN t.flags 2 && hasN t.flags 8 then 8
 else if formBad t then 11
 else if t.line<0 then 2
 else if !namedB t.page || !namedB t.name then 14
 else 0
end Go.Proofs.YtefieebkankfoaaGreatDoor
namespace Go.Proofs.YtefieebkankfoaaGreatDoor
set_option maxRecDepth 100000

def punctL:List UInt8:=[46,44,59,58,33,63,40,41,45]
theorem punct_all:∀ n:Nat,n<256→(decide (0≤Lib.indexByte punctL n.toUInt8)=true↔(n=46∨n=44∨n=59∨n=58∨n=33∨n=63∨n=40∨n=41∨n=45)):=by decide

def stp (s:ByteArray):Nat→Nat × List (Nat × Nat)
 | 0=>(0,[])
 | m+1=>if m+1<s.size∧kAt s (m+1)=2∧kAt s (stp s m).1=1∧(stp s m).1<m+1 then stp s m else (m+1,(stp s m).2++[((stp s m).1,m+1)])
theorem stp_le (s:ByteArray):∀ m,(stp s m).1≤m
 | 0=>Nat.le_refl _
 | m+1=>by
  unfold stp
  split
  ·exact Nat.le_succ_of_le (stp_le s m)
  ·exact Nat.le_refl _
theorem stp_prefix (s:ByteArray) (m:Nat):∀ n,m≤n→(stp s m).2 <+: (stp s n).2:=by
 intro n h
 induction n with
 | zero=>rw [show m=0 by omega];exact List.prefix_refl _
 | succ n ih =>
  rcases Nat.lt_or_ge m (n+1) with h1|h1
  ·refine List.IsPrefix.trans (ih (by omega)) ?_
   conv=>rhs;unfold stp
   split
   ·exact List.prefix_refl _
   ·exact List.prefix_append _ _
  ·rw [show m=n+1 by omega];exact List.prefix_refl _
def clusterV (s:ByteArray) (p:Nat × Nat):List Value:=[.int .i64 (p.1:Nat), .string (s.extract p.1 p.2)]
def clusterVs (s:ByteArray):List (List Value):=(stp s s.size).2.map (clusterV s)
theorem stp_yield (s:ByteArray) (m:Nat) (hm:m+1≤s.size) (h:¬ (m+1<s.size∧kAt s (m+1)=2∧kAt s (stp s m).1=1∧(stp s m).1<m+1)) :
  (clusterVs s)[(stp s m).2.length]?=some (clusterV s ((stp s m).1,m+1))∧stp s (m+1)=(m+1,(stp s m).2++[((stp s m).1,m+1)]):=by
 have e:stp s (m+1)=(m+1,(stp s m).2++[((stp s m).1,m+1)]):=by
  conv=>lhs;unfold stp
  rw [if_neg h]
 refine ⟨?_,e⟩
 have hp:=stp_prefix s (m+1) s.size hm
 rw [e] at hp
 obtain⟨t,ht⟩:=hp
 unfold clusterVs
 rw [← ht]
 simp
theorem stp_same (s:ByteArray) (m:Nat) (h:m+1<s.size∧kAt s (m+1)=2∧kAt s (stp s m).1=1∧(stp s m).1<m+1):stp s (m+1)=stp s m:=by
 conv=>lhs;unfold stp
 rw [if_pos h]
def firstOk (s:ByteArray) (f:Nat):Prop:=kAt s f≠0∧kAt s f≠2
theorem okAt_iff (s:ByteArray) (j:Nat):okAt s j=true↔kAt s j≠0∧(kAt s j=2→canAt s j=true):=by
 unfold okAt
 simp only [Bool.and_eq_true,Bool.or_eq_true,decide_eq_true_eq]
 constructor
 ·rintro⟨h1,h2⟩
  exact⟨h1,fun h=>h2.resolve_left (fun h3=>h3 h)⟩
 ·rintro⟨h1,h2⟩
  refine ⟨h1,?_⟩
  by_cases h:kAt s j=2
  ·exact .inr (h2 h)
  ·exact .inl h
theorem stp_law (s:ByteArray):∀ m,m<s.size →
  (((∀ p∈(stp s m).2,firstOk s p.1)∧firstOk s (stp s m).1)↔∀ j,j≤m→okAt s j=true)∧(firstOk s (stp s m).1→(∀ j,j≤m→okAt s j=true)→(canAt s (m+1)=true↔kAt s (stp s m).1=1)):=by
 intro m
 induction m with
 | zero =>
  intro h
  have hc:canAt s 0=false:=rfl
  constructor
  ·constructor
   ·rintro⟨_,h1⟩ j hj
    have:j=0:=by omega
    subst this
    rw [okAt_iff]
    exact⟨h1.1,fun h2=>absurd h2 h1.2⟩
   ·intro h1
    have h2:=(okAt_iff s 0).1 (h1 0 (Nat.le_refl _))
    refine ⟨fun p hp=>(by cases hp),h2.1,fun h3=>?_⟩
    have:=h2.2 h3
    rw [hc] at this;cases this
  ·intro h1 h2
   rw [canAt_succ]
   unfold rtAt
   rw [hc]
   simp [stp]
 | succ m ih =>
  intro h
  obtain⟨i1,i2⟩:=ih (by omega)
  have hle:=stp_le s m
  by_cases hs:m+1<s.size∧kAt s (m+1)=2∧kAt s (stp s m).1=1∧(stp s m).1<m+1
  ·have e:=stp_same s m hs
   rw [e]
   have key:(∀ j,j≤m→okAt s j=true)→okAt s (m+1)=true∧canAt s (m+1)=true:=by
    intro hall
    have hf:=(i1.2 hall).2
    have hcan:=(i2 hf hall).2 hs.2.2.1
    exact⟨(okAt_iff s (m+1)).2 ⟨by omega,fun _=>hcan⟩,hcan⟩
   constructor
   ·rw [i1]
    constructor
    ·intro hall j hj
     rcases Nat.lt_or_ge j (m+1) with h3|h3
     ·exact hall j (by omega)
     ·rw [show j=m+1 by omega];exact (key hall).1
    ·intro hall j hj
     exact hall j (by omega)
   ·intro hf hall
    have hcan:=(key (fun j hj=>hall j (by omega))).2
    rw [canAt_succ]
    unfold rtAt
    rw [hcan]
    simp [hs.2.1,hs.2.2.1]
  ·have e:=(stp_yield s m (by omega) hs).2
   rw [e]
   have step:(∀ j,j≤m→okAt s j=true)→(firstOk s (m+1)↔okAt s (m+1)=true):=by
    intro hall
    have hf:=(i1.2 hall).2
    have hcan:=i2 hf hall
    rw [okAt_iff]
    constructor
    ·rintro⟨h1,h2⟩;exact⟨h1,fun h3=>absurd h3 h2⟩
    ·rintro⟨h1,h2⟩
     refine ⟨h1,fun h3=>hs ⟨h,h3,hcan.1 (h2 h3),by omega⟩⟩
   constructor
   ·constructor
    ·rintro⟨h1,h2⟩ j hj
     have hall:=i1.1 ⟨fun p hp=>h1 p (by simp [hp]),h1 ((stp s m).1,m+1) (by simp)⟩
     rcases Nat.lt_or_ge j (m+1) with h3|h3
     ·exact hall j (by omega)
     ·rw [show j=m+1 by omega];exact (step hall).1 h2
    ·intro hall
     have hall':∀ j,j≤m→okAt s j=true:=fun j hj=>hall j (by omega)
     obtain⟨h1,h2⟩:=i1.2 hall'
     refine ⟨fun p hp=>?_,(step hall').2 (hall (m+1) (Nat.le_refl _))⟩
     simp only [List.mem_append,List.mem_singleton] at hp
     rcases hp with hp|rfl
     ·exact h1 p hp
     ·exact h2
   ·intro hf _
    rw [canAt_succ]
    unfold rtAt
    have h2:kAt s (m+1)≠2:=hf.2
    simp [h2]
theorem clusters_law (s:ByteArray):(∀ p∈(stp s s.size).2,firstOk s p.1)↔okAll s=true:=by
 unfold okAll
 rw [decide_eq_true_eq]
 cases hz:s.size with
 | zero =>
  simp [stp]
 | succ m =>
  have h:=stp_law s m (by omega)
  have hs:¬ (m+1<s.size∧kAt s (m+1)=2∧kAt s (stp s m).1=1∧(stp s m).1<m+1):=fun hh=>by omega
  rw [(stp_yield s m (by omega) hs).2]
  constructor
  ·intro h1 j hj
   exact h.1.1 ⟨fun p hp=>h1 p (by simp [hp]),h1 ((stp s m).1,m+1) (by simp)⟩ j (by omega)
  ·intro h1 p hp
   obtain⟨g1,g2⟩:=h.1.2 (fun j hj=>h1 j (by omega))
   simp only [List.mem_append,List.mem_singleton] at hp
   rcases hp with hp|rfl
   ·exact g1 p hp
   ·exact g2
theorem stp_bounds (s:ByteArray):∀ m p,p∈(stp s m).2→p.1<p.2∧p.2≤m
 | 0,p,h=>by cases h
 | m+1,p,h=>by
  unfold stp at h
  split at h
  ·have:=stp_bounds s m p h;omega
  ·simp only [List.mem_append,List.mem_singleton] at h
   rcases h with h|rfl
   ·have:=stp_bounds s m p h;omega
   ·have:=stp_le s m;dsimp only;omega
theorem letters_all {s:ByteArray} (h:(lettersN s.data.toList:Int)=s.size):∀ j,j<s.size→kAt s j=1∨kAt s j=3:=by
 intro j hj
 have h1:(s.data.toList.filter alnum).length=s.data.toList.length:=by
  unfold lettersN at h
  simp only [Array.length_toList,ByteArray.size_data]
  omega
 rw [List.length_filter_eq_length_iff] at h1
 have:=h1 _ (List.mem_of_getElem? (byteAt_nat s j hj))
 rw [alnum_at] at this
 simpa using this
theorem word_of_letters {s:ByteArray} (h:(lettersN s.data.toList:Int)=s.size) (h1:1≤s.size) (h2:s.size≤64):isWordB s=true:=by
 have ha:=letters_all h
 have e1:okAll s=true:=okAll_true fun j hj=>by
  rw [okAt_iff]
  have:=ha j hj
  exact⟨by omega,fun h=>by omega⟩
 have e2:∀ j,j<s.size→kAt s j≤4:=fun j hj=>by have:=ha j hj;omega
 have e3:=ha 0 (by omega)
 unfold isWordB
 rw [e1,decide_eq_true e2,decide_eq_true (show 1≤s.size∧s.size≤64 from ⟨h1,h2⟩)]
 simpa using e3
theorem empty_size {s:ByteArray}:s=ByteArray.mk #[]↔s.size=0:=by
 constructor
 ·rintro rfl;rfl
 ·intro h
  have:s.data = #[]:=Array.eq_empty_of_size_eq_zero h
  exact ByteArray.ext this
theorem name_law (s:ByteArray):(!decide (s=ByteArray.mk #[]) && decide ((s.size:Int)≤16) && decide ((lettersN s.data.toList:Int)=s.size))=isNameB s:=by
 rw [Bool.eq_iff_iff]
 unfold isNameB
 simp only [Bool.and_eq_true,Bool.not_eq_true',decide_eq_true_eq,decide_eq_false_iff_not]
 constructor
 ·rintro⟨⟨h1,h2⟩,h3⟩
  rw [empty_size] at h1
  exact⟨by omega,word_of_letters h3 (by omega) (by omega),h3⟩
 ·rintro⟨h1,h2,h3⟩
  have:=isWordB_size h2
  rw [empty_size]
  exact⟨⟨by omega,by omega⟩,h3⟩
def beginsK (k:Int):Bool:=decide (k=1) || decide (k=3)
theorem inner_law (k:Int):(beginsK k || decide (k=2) || decide (k=4))=wordlyK k:=by
 unfold beginsK wordlyK
 by_cases h1:k=1 <;> by_cases h2:k=2 <;> by_cases h3:k=3 <;> by_cases h4:k=4 <;> simp [h1,h2,h3,h4]
theorem isWord_law (s:ByteArray) (h1:1≤s.size∧s.size≤64) (h2:okAll s=true) (h3:(decide (kAt s 0=1) || decide (kAt s 0=3))=true):(!(s.data.toList.any fun c=>decide (kindB c=5) || decide (kindB c=6)))=isWordB s:=by
 unfold isWordB
 rw [decide_eq_true h1,h2,h3,Bool.true_and,Bool.true_and,Bool.true_and]
 rw [Bool.eq_iff_iff,Bool.not_eq_true',List.any_eq_false,decide_eq_true_eq]
 constructor
 ·intro h j hj
  have:=h _ (List.mem_of_getElem? (byteAt_nat s j hj))
  have hb:=kAt_bd s j
  simp only [Bool.or_eq_true,decide_eq_true_eq,not_or] at this
  have e:kindB (byteAt s (j:Int))=kAt s j:=rfl
  rw [e] at this
  omega
 ·intro h c hc
  obtain⟨j,hj,e⟩:=List.getElem_of_mem hc
  have hj':j<s.size:=by simpa using hj
  have h4:=h j hj'
  have h5:byteAt s (j:Int)=c:=by
   have:=byteAt_nat s j hj'
   rw [List.getElem?_eq_getElem hj] at this
   rw [← e];exact (Option.some.inj this).symm
  have e2:kAt s j=kindB c:=by rw [← h5];rfl
  rw [e2] at h4
  simp only [Bool.or_eq_true,decide_eq_true_eq,not_or]
  omega
theorem flags_all:∀ n:Nat,n<32→decide (andI (n:Int) 2≠0)=hasN (n:Int) 2∧decide (andI (n:Int) 8≠0)=hasN (n:Int) 8∧decide (andI (n:Int) 10=0)=(!hasN (n:Int) 2 && !hasN (n:Int) 8):=by decide
theorem flags_law (f:Int) (h:0≤f∧f≤31):decide (andI f 2≠0)=hasN f 2∧decide (andI f 8≠0)=hasN f 8∧decide (andI f 10=0)=(!hasN f 2 && !hasN f 8):=by
 obtain⟨n,rfl⟩:=Int.eq_ofNat_of_zero_le h.1
 exact flags_all n (by omega)
theorem atoi_one:∀ n:Nat,n<10→1≤n→Lib.atoiAll [UInt8.ofNat (48+n)] = .ok n:=by decide
theorem atoi_two:∀ n:Nat,n<65→¬ n<10→Lib.atoiAll [UInt8.ofNat (48+n / 10),UInt8.ofNat (48+n % 10)] = .ok n:=by decide
theorem atoi_small (n:Nat) (h:n<65) (h1:1≤n):Lib.atoiAll (Lib.decDigits n) = .ok n:=by
 by_cases h2:n<10
 ·rw [Lib.decDigits_one h2];exact atoi_one n h2 h1
 ·rw [Lib.decDigits_two h2 (by omega)];exact atoi_two n h h2
theorem decDigits_pos (n:Nat) (h:n<100):1≤(Lib.decDigits n).length:=by
 by_cases h1:n<10
 ·rw [Lib.decDigits_one h1];simp
 ·rw [Lib.decDigits_two h1 h];simp
theorem gapStr_list (n:Nat):(gapStr n).data.toList=91::(Lib.decDigits n++[93]):=by
 unfold gapStr
 simp
theorem gapStr_size (n:Nat):(gapStr n).size=(Lib.decDigits n).length+2:=by
 have:=congrArg List.length (gapStr_list n)
 simpa using this
def gapInner (s:ByteArray):ByteArray:=s.extract 1 (s.size - 1)
theorem gapInner_gap (n:Nat):(gapInner (gapStr n)).data.toList=Lib.decDigits n:=by
 unfold gapInner
 rw [ByteArray.data_extract,Array.toList_extract,gapStr_list,gapStr_size]
 simp
theorem gap_frame {s:ByteArray} (h:gappedB s=true):(3:Int)≤s.size∧((byteAt s 0).toNat:Int)=91∧((byteAt s ((s.size:Int) - 1)).toNat:Int)=93:=by
 unfold gappedB at h
 rw [List.any_eq_true] at h
 obtain⟨n,hn,hh⟩:=h
 simp only [Bool.and_eq_true,decide_eq_true_eq,List.mem_range] at hn hh
 obtain⟨h1,rfl⟩:=hh
 have hp:=decDigits_pos n (by omega)
 have hsz:=gapStr_size n
 refine ⟨by omega,?_,?_⟩
 ·unfold byteAt
  rw [gapStr_list];rfl
 ·unfold byteAt
  rw [gapStr_list,hsz]
  have:((((Lib.decDigits n).length+2:Nat):Int) - 1).toNat=(Lib.decDigits n).length+1:=by omega
  rw [this]
  simp
theorem gap_ok {s:ByteArray} {n:Int} (h:Lib.atoiAll (gapInner s).data.toList = .ok n):(decide (1≤n) && decide (n≤64) && decide (s=gapStr n.toNat))=gappedB s:=by
 cases hg:gappedB s with
 | true =>
  unfold gappedB at hg
  rw [List.any_eq_true] at hg
  obtain⟨m,hm,hh⟩:=hg
  simp only [Bool.and_eq_true,decide_eq_true_eq,List.mem_range] at hm hh
  obtain⟨h1,rfl⟩:=hh
  rw [gapInner_gap,atoi_small m hm h1] at h
  injection h with h
  subst h
  simp
  omega
 | false =>
  rw [Bool.and_eq_false_iff]
  by_cases h1:1≤n∧n≤64
  ·right
   rw [decide_eq_false_iff_not]
   intro h2
   rw [gappedB_true (n:=n.toNat) (by omega) (by omega) h2] at hg
   cases hg
  ·left
   simp only [Bool.and_eq_false_iff,decide_eq_false_iff_not]
   omega
theorem gap_no {s:ByteArray} (h:∀ n,Lib.atoiAll (gapInner s).data.toList ≠ .ok n):gappedB s=false:=by
 cases hg:gappedB s with
 | false=>rfl
 | true =>
  unfold gappedB at hg
  rw [List.any_eq_true] at hg
  obtain⟨m,hm,hh⟩:=hg
  simp only [Bool.and_eq_true,decide_eq_true_eq,List.mem_range] at hm hh
  obtain⟨h1,rfl⟩:=hh
  rw [gapInner_gap,atoi_small m hm h1] at h
  exact absurd rfl (h _)
theorem byteAt_extract (s:ByteArray) (f t:Nat) (h:f<t) (h2:t≤s.size):byteAt (s.extract f t) 0=byteAt s (f:Int):=by
 unfold byteAt
 rw [ByteArray.data_extract,Array.toList_extract]
 simp only [Int.toNat_zero,Int.toNat_natCast,List.getD_eq_getElem?_getD]
 congr 1
 rw [List.extract_eq_take_drop,List.getElem?_take_of_lt (by omega),List.getElem?_drop,Nat.add_zero]
end Go.Proofs.YtefieebkankfoaaGreatDoor
namespace Go.Proofs.YtefieebkankfoaaGreatDoor
def findI {α:Type} (p:α→Bool):List α→Int
 | [] => -1
 | x::l=>if p x then 0 else if findI p l = -1 then -1 else findI p l+1
theorem findI_ge {α:Type} (p:α→Bool):∀ l:List α,-1≤findI p l
 | []=>by simp [findI]
 | x::l=>by have:=findI_ge p l;unfold findI;(repeat' split) <;> omega
theorem findI_none {α:Type} {p:α→Bool}:∀ {l:List α},(∀ (i:Nat) x,l[i]?=some x→p x=false)→findI p l = -1
 | [],_=>rfl
 | x::l,h=>by
  unfold findI
  rw [h 0 x rfl,findI_none (l:=l) (fun i y hy=>h (i+1) y (by simpa using hy))]
  simp
theorem findI_some {α:Type} {p:α→Bool}:∀ {l:List α} {k:Nat} {x:α},l[k]?=some x→p x=true→(∀ (i:Nat) y,i<k→l[i]?=some y→p y=false)→findI p l=k
 | y::l,0,x,hx,hp,_=>by
  simp at hx;subst hx
  unfold findI;rw [if_pos hp];rfl
 | y::l,k+1,x,hx,hp,h=>by
  unfold findI
  have h0:=h 0 y (by omega) rfl
  have ih:=findI_some (l:=l) (k:=k) (by simpa using hx) hp (fun i z hi hz=>h (i+1) z (by omega) (by simpa using hz))
  rw [h0,ih]
  simp only [Bool.false_eq_true,if_false]
  split <;> omega
theorem findI_any {α:Type} (p:α→Bool):∀ l:List α,decide ((0:Int)≤findI p l)=l.any p
 | []=>by simp [findI]
 | x::l=>by
  have ih:=findI_any p l
  have:=findI_ge p l
  unfold findI
  rw [List.any_cons]
  cases hp:p x with
  | true=>simp
  | false =>
   rw [Bool.false_or, ← ih]
   simp only [Bool.false_eq_true,if_false,decide_eq_decide]
   split <;> omega
theorem flatT_get:∀ {l:List Tok} {k:Nat} {x:Tok},l[k]?=some x→∀ (j:Nat) u,x.cells[j]?=some u→(l.flatMap Tok.cells)[k * 6+j]?=some u
 | y::l,0,x,hx,j,u,hu=>by
  simp at hx;subst hx
  rw [List.flatMap_cons,Nat.zero_mul,Nat.zero_add,List.getElem?_append_left (List.getElem?_eq_some_iff.1 hu).1]
  exact hu
 | y::l,k+1,x,hx,j,u,hu=>by
  have ih:=flatT_get (l:=l) (k:=k) (by simpa using hx) j u hu
  rw [List.flatMap_cons,List.getElem?_append_right (by simp [Tok.cells];omega)]
  have e:(k+1) * 6+j - y.cells.length=k * 6+j:=by simp only [Tok.cells,List.length_cons,List.length_nil];omega
  rw [e];exact ih
theorem Src.getT {w:World} {A:Option Addr} {n k:Nat} {l:List Tok} {x:Tok} (h:Src w 6 A n (l.flatMap Tok.cells)) (hk:k<n) (hx:l[k]?=some x):RdC w (bk A) (ofs A+k * 6) x.cells:=by
 obtain⟨_,h2⟩:=h.2 (by omega)
 intro j u hu
 have:=h2 _ u (flatT_get hx j u hu)
 rw [Nat.add_assoc];exact this
theorem flatT_length (l:List Tok):(l.flatMap Tok.cells).length=l.length * 6:=by
 induction l with
 | nil=>rfl
 | cons x l ih=>rw [List.flatMap_cons,List.length_append,ih];simp [Tok.cells];omega
end Go.Proofs.YtefieebkankfoaaGreatDoor
namespace Go.Proofs.YtefieebkankfoaaGreatDoor

def lvRow (e:Nat→Bool) (prev:Nat→Int) (i1:Int):Nat→Int
 | 0=>i1
 | j+1=>min (min (prev (j+1)) (lvRow e prev i1 j)+1) (prev j+if e j then 0 else 1)
def lv (e:Nat→Nat→Bool):Nat→Nat→Int
 | 0=>fun j=>j
 | i+1=>lvRow (e i) (lv e i) (i+1)
theorem lv_zero (e:Nat→Nat→Bool) (j:Nat):lv e 0 j=j:=rfl
theorem lv_left (e:Nat→Nat→Bool) (i:Nat):lv e (i+1) 0=(i:Int)+1:=rfl
theorem lv_step (e:Nat→Nat→Bool) (i j:Nat):lv e (i+1) (j+1)=min (min (lv e i (j+1)) (lv e (i+1) j)+1) (lv e i j+if e i j then 0 else 1):=rfl
theorem lv_bd (e:Nat→Nat→Bool):∀ i j,0≤lv e i j∧lv e i j≤i+j
 | 0,j=>by rw [lv_zero];omega
 | i+1,0=>by rw [lv_left];omega
 | i+1,j+1=>by
  have h1:=lv_bd e i (j+1)
  have h2:=lv_bd e (i+1) j
  have h3:=lv_bd e i j
  rw [lv_step]
  split <;> omega
termination_by i j=>(i,j)
def valV (f:Nat→Int) (tot:Nat):List Value:=(List.range tot).map fun q => .int .i64 (f q)
def mx (f g:Nat→Int) (k q:Nat):Int:=if q<k then f q else g q
theorem valV_length (f:Nat→Int) (tot:Nat):(valV f tot).length=tot:=by simp [valV]
theorem valV_get {f:Nat→Int} {tot k:Nat} (h:k<tot):(valV f tot)[k]?=some (.int .i64 (f k)):=by simp [valV,h]
theorem valV_set {f g:Nat→Int} {tot k:Nat} {x:Int} (hx:x=f k):(valV (mx f g k) tot).set k (.int .i64 x)=valV (mx f g (k+1)) tot:=by
 subst hx
 apply List.ext_getElem?
 intro q
 rw [List.getElem?_set]
 by_cases hq:q<tot
 ·rw [valV_get hq,valV_get hq,valV_length]
  by_cases e:k=q
  ·subst e
   rw [if_pos rfl,if_pos hq]
   unfold mx
   rw [if_pos (by omega)]
  ·rw [if_neg e]
   unfold mx
   by_cases h1:q<k
   ·rw [if_pos h1,if_pos (by omega)]
   ·rw [if_neg h1,if_neg (by omega)]
 ·rw [List.getElem?_eq_none (by rw [valV_length];omega),List.getElem?_eq_none (by rw [valV_length];omega),valV_length]
  split
  ·rw [if_neg (by omega)]
  ·rfl
theorem valV_mx_zero (f g:Nat→Int) (tot:Nat):valV (mx f g 0) tot=valV g tot:=by
 unfold valV mx;simp
theorem valV_mx_full (f g:Nat→Int) (tot k:Nat) (h:tot≤k):valV (mx f g k) tot=valV f tot:=by
 unfold valV mx
 apply List.map_congr_left
 intro q hq
 rw [if_pos (by have:=List.mem_range.1 hq;omega)]
theorem valV_replicate (tot:Nat):List.replicate tot (Value.int .i64 0)=valV (fun _=>0) tot:=by
 unfold valV
 rw [List.map_const']
 simp
theorem mx_lt {f g:Nat→Int} {k q:Nat} (h:q<k):mx f g k q=f q:=if_pos h
theorem vget {f:Nat→Int} {tot off:Nat} (k:Nat) (h:k<tot) (ho:off=k):(valV f tot)[off]?=some (.int .i64 (f k)):=by rw [ho];exact valV_get h
theorem vgetm {f g:Nat→Int} {tot off n:Nat} (k:Nat) (h:k<tot) (hk:k<n) (ho:off=k):(valV (mx f g n) tot)[off]?=some (.int .i64 (f k)):=by rw [ho,valV_get h,mx_lt hk]
def strs (s:ByteArray) (n:Nat):List Value:=(List.range n).map fun j => .string (s.extract j (j+1))
theorem extract_one {s:ByteArray} {j:Nat} (h:j<s.size):(s.extract j (j+1)).data.toList=[byteAt s (j:Int)]:=by
 rw [ByteArray.data_extract,Array.toList_extract,List.extract_eq_take_drop]
 have:=byteAt_get s j h
 rw [List.drop_eq_getElem_cons (by simpa using h)]
 rw [List.getElem?_eq_getElem (by simpa using h)] at this
 rw [Option.some.inj this,show j+1 - j=1 by omega]
 rfl
end Go.Proofs.YtefieebkankfoaaGreatDoor
namespace Go.Proofs.YtefieebkankfoaaGreatDoor

structure Costs where
 gap:Int
 norm:Int
 letter:Int
 most:Int
@[reducible] def Costs.cells (c:Costs):List Value:=[.int .i64 c.gap, .int .i64 c.norm, .int .i64 c.letter, .int .i64 c.most]
@[reducible] def Costs.val (c:Costs):Value := .agg c.cells.toArray
def Costs.ints (c:Costs):List Int:=[c.gap,c.norm,c.letter,c.most]
def badN (n:Int):Bool:=decide (n<0) || decide (1000<n)
def costE (c:Costs):Int:=if c.ints.any badN then 2 else if c.most<c.norm then 10 else 0
theorem costE_ok {c:Costs} (h:costE c=0):(0≤c.gap∧c.gap≤1000)∧(0≤c.norm∧c.norm≤1000)∧(0≤c.letter∧c.letter≤1000)∧(0≤c.most∧c.most≤1000)∧c.norm≤c.most:=by
 unfold costE at h
 by_cases h1:c.ints.any badN=true
 ·rw [if_pos h1] at h;omega
 ·rw [if_neg h1] at h
  simp only [Costs.ints,List.any_cons,List.any_nil,Bool.or_eq_true,badN,decide_eq_true_eq] at h1
  split at h <;> omega
def gapC (c:Costs) (t:Tok):Int:=if hasN t.flags 8 then (c.gap+1) / 2 else c.gap
def eqS (a b:ByteArray) (i j:Nat):Bool:=decide (((byteAt a (i:Int)).toNat:Int)=((byteAt b (j:Int)).toNat:Int))
def distS (a b:ByteArray):Int:=lv (eqS a b) a.size b.size
def pairC (c:Costs) (a b:Tok):Int :=
 if a.text=b.text then 0
 else if a.norm=b.norm∨hasN a.flags 2=true∨hasN b.flags 2=true then c.norm
 else min c.most (max c.norm (c.letter * distS a.norm b.norm))
end Go.Proofs.YtefieebkankfoaaGreatDoor
namespace Go.Proofs.YtefieebkankfoaaGreatDoor

theorem toL_iff (a b:ByteArray):a.toList=b.toList↔a=b:=by
 have:=eq_toList a b
 rw [Bool.eq_iff_iff] at this
 simpa using this
theorem Tok.eq_iff (a b:Tok):a=b↔a.text=b.text∧a.norm=b.norm∧a.page=b.page∧a.line=b.line∧a.flags=b.flags∧a.name=b.name:=by
 cases a;cases b;simp
theorem Costs.eq_iff (a b:Costs):a=b↔a.gap=b.gap∧a.norm=b.norm∧a.letter=b.letter∧a.most=b.most:=by
 cases a;cases b;simp
instance:DecidableEq Tok:=fun a b=>decidable_of_iff _ (Tok.eq_iff a b).symm
instance:DecidableEq Costs:=fun a b=>decidable_of_iff _ (Costs.eq_iff a b).symm
theorem or_all:∀ m:Nat,m<32→∀ n:Nat,n<32→(0≤orI (m:Int) (n:Int)∧orI (m:Int) (n:Int)≤31)∧(!decide (andI (orI (m:Int) (n:Int)) 2=0))=(hasN (m:Int) 2 || hasN (n:Int) 2):=by decide
theorem or_law (f g:Int) (h:0≤f∧f≤31) (k:0≤g∧g≤31):(0≤orI f g∧orI f g≤31)∧(!decide (andI (orI f g) 2=0))=(hasN f 2 || hasN g 2):=by
 obtain⟨m,rfl⟩:=Int.eq_ofNat_of_zero_le h.1
 obtain⟨n,rfl⟩:=Int.eq_ofNat_of_zero_le k.1
 exact or_all m (by omega) n (by omega)
theorem tokE_ok {t:Tok} (h:tokE t=0):(0≤t.flags∧t.flags≤31)∧t.norm.size≤64∧t.text.size≤64∧0≤t.line:=by
 unfold tokE at h
 by_cases h1:t.flags<0∨31<t.flags
 ·rw [if_pos h1] at h;omega
 rw [if_neg h1] at h
 by_cases h2:(hasN t.flags 2 && hasN t.flags 8)=true
 ·rw [if_pos h2] at h;omega
 rw [if_neg h2] at h
 by_cases h3:formBad t=true
 ·rw [if_pos h3] at h;omega
 rw [if_neg h3] at h
 by_cases h4:t.line<0
 ·rw [if_pos h4] at h;omega
 have hs:t.norm.size≤64∧t.text.size≤64:=by
  unfold formBad at h3
  by_cases g2:hasN t.flags 2=true
  ·rw [if_pos g2] at h3
   simp only [Bool.or_eq_true,not_or,Bool.not_eq_true',Bool.not_eq_false',Bool.not_eq_false,decide_eq_true_eq] at h3
   have hg:=h3.1
   unfold gappedB at hg
   rw [List.any_eq_true] at hg
   obtain⟨n,hn,hh⟩:=hg
   simp only [Bool.and_eq_true,decide_eq_true_eq] at hh
   have hl:=decDigits_len n (by have:=List.mem_range.1 hn;omega)
   have:t.text.size≤4:=by
    rw [hh.2];unfold gapStr;simp only [ByteArray.size_append];simp only [ByteArray.size,List.size_toArray];simp;omega
   exact⟨by rw [h3.2];omega,by omega⟩
  rw [if_neg g2] at h3
  by_cases g8:hasN t.flags 8=true
  ·rw [if_pos g8] at h3
   simp only [Bool.or_eq_true,not_or,Bool.not_eq_true',Bool.not_eq_false',Bool.not_eq_false,decide_eq_true_eq] at h3
   have h5:=h3.1.1
   have h6:=h3.2
   exact⟨by rw [h6];omega,by omega⟩
  rw [if_neg g8] at h3
  simp only [Bool.or_eq_true,not_or,Bool.not_eq_true',Bool.not_eq_false',Bool.not_eq_false,decide_eq_true_eq] at h3
  have:=isWordB_size h3.1.1.1
  exact⟨by omega,by omega⟩
 exact⟨by omega,hs.1,hs.2,by omega⟩
def pairV (c:Costs) (a b:Tok):Int × Int:=if costE c=0∧tokE a=0∧tokE b=0 then (pairC c a b,0) else (0,1)
def gapV (c:Costs) (t:Tok):Int × Int:=if costE c=0∧tokE t=0 then (gapC c t,0) else (0,1)
def longT (t:Tok):Bool:=decide ((12:Int)<t.text.size) || decide ((12:Int)<t.norm.size) || decide ((20:Int)<t.page.size) || decide ((20:Int)<t.name.size)
def oddAt (l:List Tok) (i:Nat) (t:Tok):Bool:=longT t || (decide ((8:Int)<i) && !decide (some t=l[8]?))
def manyB (n:Int):Bool:=decide (8<n) && decide (n<33) || decide (258<n) || decide (40<n) && decide (n<257)
noncomputable def greatB (l:List Tok):Bool:=open Classical in decide (∃ i,i<l.length∧∃ t,l[i]?=some t∧oddAt l i t=true) || manyB l.length
theorem greatB_false {l:List Tok} (h:greatB l=false):(∀ t,t∈l→longT t=false)∧manyB l.length=false:=by
 unfold greatB at h
 rw [Bool.or_eq_false_iff,decide_eq_false_iff_not] at h
 refine ⟨fun t ht=>?_,h.2⟩
 obtain⟨i,hi,e⟩:=List.getElem_of_mem ht
 cases hl:longT t with
 | false=>rfl
 | true=>exact absurd ⟨i,hi,t,by rw [List.getElem?_eq_getElem hi,e],by unfold oddAt;rw [hl];rfl⟩ h.1
end Go.Proofs.YtefieebkankfoaaGreatDoor
namespace Go.Proofs.YtefieebkankfoaaGreatDoor
open Go.Proofs
set_option maxRecDepth 100000
theorem tyOk1:TyOk Tryz.prog 1 ⟨.func,1,8, .nilFunc⟩:=⟨⟨_,_,_,Tryz.underlying1⟩,by kernel_rfl⟩
theorem tyOk2:TyOk Tryz.prog 2 ⟨.int .i64,1,8, .int .i64 0⟩:=⟨Tryz.underlying2,by kernel_rfl⟩
theorem tyOk3:TyOk Tryz.prog 3 ⟨.int .i64,1,8, .int .i64 0⟩:=⟨Tryz.underlying3,by kernel_rfl⟩
theorem tyOk4:TyOk Tryz.prog 4 ⟨.bool,1,1, .bool false⟩:=⟨Tryz.underlying4,by kernel_rfl⟩
theorem tyOk5:TyOk Tryz.prog 5 ⟨.int .u8,1,1, .int .u8 0⟩:=⟨Tryz.underlying5,by kernel_rfl⟩
theorem tyOk6:TyOk Tryz.prog 6 ⟨.int .u8,1,1, .int .u8 0⟩:=⟨Tryz.underlying6,by kernel_rfl⟩
theorem tyOk7:TyOk Tryz.prog 7 ⟨.struct [(2,0),(3,1),(4,2),(6,3)],4,24, .agg #[.int .i64 0, .int .i64 0, .bool false, .int .u8 0]⟩:=⟨⟨_,Tryz.underlying7,by kernel_rfl⟩,by kernel_rfl⟩
theorem tyOk8:TyOk Tryz.prog 8 ⟨.struct [(2,0),(3,1),(4,2),(6,3)],4,24, .agg #[.int .i64 0, .int .i64 0, .bool false, .int .u8 0]⟩:=⟨⟨_,Tryz.underlying8,by kernel_rfl⟩,by kernel_rfl⟩
theorem tyOk9:TyOk Tryz.prog 9 ⟨.str,1,16, .string .empty⟩:=⟨Tryz.underlying9,by kernel_rfl⟩
theorem tyOk10:TyOk Tryz.prog 10 ⟨.str,1,16, .string .empty⟩:=⟨Tryz.underlying10,by kernel_rfl⟩
theorem tyOk11:TyOk Tryz.prog 11 ⟨.str,1,16, .string .empty⟩:=⟨Tryz.underlying11,by kernel_rfl⟩
theorem tyOk12:TyOk Tryz.prog 12 ⟨.int .u64,1,8, .int .u64 0⟩:=⟨Tryz.underlying12,by kernel_rfl⟩
theorem tyOk13:TyOk Tryz.prog 13 ⟨.struct [(9,0),(12,1)],2,24, .agg #[.string .empty, .int .u64 0]⟩:=⟨⟨_,Tryz.underlying13,by kernel_rfl⟩,by kernel_rfl⟩
theorem tyOk14:TyOk Tryz.prog 14 ⟨.struct [(9,0),(12,1)],2,24, .agg #[.string .empty, .int .u64 0]⟩:=⟨⟨_,Tryz.underlying14,by kernel_rfl⟩,by kernel_rfl⟩
theorem tyOk15:TyOk Tryz.prog 15 ⟨.ptr 276,1,8, .pointer none⟩:=⟨Tryz.underlying15,by kernel_rfl⟩
theorem tyOk16:TyOk Tryz.prog 16 ⟨.ptr 279,1,8, .pointer none⟩:=⟨Tryz.underlying16,by kernel_rfl⟩
theorem tyOk17:TyOk Tryz.prog 17 ⟨.ptr 286,1,8, .pointer none⟩:=⟨Tryz.underlying17,by kernel_rfl⟩
theorem tyOk18:TyOk Tryz.prog 18 ⟨.struct [(17,0)],1,8, .agg #[.pointer none]⟩:=⟨⟨_,Tryz.underlying18,by kernel_rfl⟩,by kernel_rfl⟩
theorem tyOk19:TyOk Tryz.prog 19 ⟨.struct [(17,0)],1,8, .agg #[.pointer none]⟩:=⟨⟨_,Tryz.underlying19,by kernel_rfl⟩,by kernel_rfl⟩
theorem tyOk20:TyOk Tryz.prog 20 ⟨.iface,1,16, .nilIface⟩:=⟨⟨_,Tryz.underlying20⟩,by kernel_rfl⟩
theorem tyOk21:TyOk Tryz.prog 21 ⟨.int .i32,1,4, .int .i32 0⟩:=⟨Tryz.underlying21,by kernel_rfl⟩
theorem tyOk22:TyOk Tryz.prog 22 ⟨.slice 9,1,24, .slice none 0 0⟩:=⟨Tryz.underlying22,by kernel_rfl⟩
theorem tyOk23:TyOk Tryz.prog 23 ⟨.slice 47,1,24, .slice none 0 0⟩:=⟨Tryz.underlying23,by kernel_rfl⟩
theorem tyOk24:TyOk Tryz.prog 24 ⟨.slice 29,1,24, .slice none 0 0⟩:=⟨Tryz.underlying24,by kernel_rfl⟩
theorem tyOk25:TyOk Tryz.prog 25 ⟨.struct [(9,0),(22,1),(23,2),(24,3)],4,88, .agg #[.string .empty, .slice none 0 0, .slice none 0 0, .slice none 0 0]⟩:=⟨⟨_,Tryz.underlying25,by kernel_rfl⟩,by kernel_rfl⟩
theorem tyOk26:TyOk Tryz.prog 26 ⟨.struct [(9,0),(22,1),(23,2),(24,3)],4,88, .agg #[.string .empty, .slice none 0 0, .slice none 0 0, .slice none 0 0]⟩:=⟨⟨_,Tryz.underlying26,by kernel_rfl⟩,by kernel_rfl⟩
theorem tyOk27:TyOk Tryz.prog 27 ⟨.func,1,8, .nilFunc⟩:=⟨⟨_,_,_,Tryz.underlying27⟩,by kernel_rfl⟩
theorem tyOk28:TyOk Tryz.prog 28 ⟨.func,1,8, .nilFunc⟩:=⟨⟨_,_,_,Tryz.underlying28⟩,by kernel_rfl⟩
theorem tyOk29:TyOk Tryz.prog 29 ⟨.slice 3,1,24, .slice none 0 0⟩:=⟨Tryz.underlying29,by kernel_rfl⟩
theorem tyOk30:TyOk Tryz.prog 30 ⟨.func,1,8, .nilFunc⟩:=⟨⟨_,_,_,Tryz.underlying30⟩,by kernel_rfl⟩
theorem tyOk31:TyOk Tryz.prog 31 ⟨.int .i64,1,8, .int .i64 0⟩:=⟨Tryz.underlying31,by kernel_rfl⟩
theorem tyOk33:TyOk Tryz.prog 33 ⟨.func,1,8, .nilFunc⟩:=⟨⟨_,_,_,Tryz.underlying33⟩,by kernel_rfl⟩
theorem tyOk34:TyOk Tryz.prog 34 ⟨.func,1,8, .nilFunc⟩:=⟨⟨_,_,_,Tryz.underlying34⟩,by kernel_rfl⟩
theorem tyOk36:TyOk Tryz.prog 36 ⟨.func,1,8, .nilFunc⟩:=⟨⟨_,_,_,Tryz.underlying36⟩,by kernel_rfl⟩
theorem tyOk37:TyOk Tryz.prog 37 ⟨.func,1,8, .nilFunc⟩:=⟨⟨_,_,_,Tryz.underlying37⟩,by kernel_rfl⟩
theorem tyOk38:TyOk Tryz.prog 38 ⟨.func,1,8, .nilFunc⟩:=⟨⟨_,_,_,Tryz.underlying38⟩,by kernel_rfl⟩
theorem tyOk39:TyOk Tryz.prog 39 ⟨.func,1,8, .nilFunc⟩:=⟨⟨_,_,_,Tryz.underlying39⟩,by kernel_rfl⟩
theorem tyOk40:TyOk Tryz.prog 40 ⟨.func,1,8, .nilFunc⟩:=⟨⟨_,_,_,Tryz.underlying40⟩,by kernel_rfl⟩
theorem tyOk42:TyOk Tryz.prog 42 ⟨.func,1,8, .nilFunc⟩:=⟨⟨_,_,_,Tryz.underlying42⟩,by kernel_rfl⟩
theorem tyOk43:TyOk Tryz.prog 43 ⟨.func,1,8, .nilFunc⟩:=⟨⟨_,_,_,Tryz.underlying43⟩,by kernel_rfl⟩
theorem tyOk44:TyOk Tryz.prog 44 ⟨.func,1,8, .nilFunc⟩:=⟨⟨_,_,_,Tryz.underlying44⟩,by kernel_rfl⟩
theorem tyOk45:TyOk Tryz.prog 45 ⟨.func,1,8, .nilFunc⟩:=⟨⟨_,_,_,Tryz.underlying45⟩,by kernel_rfl⟩
theorem tyOk46:TyOk Tryz.prog 46 ⟨.func,1,8, .nilFunc⟩:=⟨⟨_,_,_,Tryz.underlying46⟩,by kernel_rfl⟩
theorem tyOk47:TyOk Tryz.prog 47 ⟨.slice 79,1,24, .slice none 0 0⟩:=⟨Tryz.underlying47,by kernel_rfl⟩
theorem tyOk48:TyOk Tryz.prog 48 ⟨.func,1,8, .nilFunc⟩:=⟨⟨_,_,_,Tryz.underlying48⟩,by kernel_rfl⟩
theorem tyOk49:TyOk Tryz.prog 49 ⟨.func,1,8, .nilFunc⟩:=⟨⟨_,_,_,Tryz.underlying49⟩,by kernel_rfl⟩
theorem tyOk50:TyOk Tryz.prog 50 ⟨.struct [(3,0),(3,1),(3,2),(3,3)],4,32, .agg #[.int .i64 0, .int .i64 0, .int .i64 0, .int .i64 0]⟩:=⟨⟨_,Tryz.underlying50,by kernel_rfl⟩,by kernel_rfl⟩
theorem tyOk51:TyOk Tryz.prog 51 ⟨.struct [(3,0),(3,1),(3,2),(3,3)],4,32, .agg #[.int .i64 0, .int .i64 0, .int .i64 0, .int .i64 0]⟩:=⟨⟨_,Tryz.underlying51,by kernel_rfl⟩,by kernel_rfl⟩
theorem tyOk53:TyOk Tryz.prog 53 ⟨.func,1,8, .nilFunc⟩:=⟨⟨_,_,_,Tryz.underlying53⟩,by kernel_rfl⟩
theorem tyOk54:TyOk Tryz.prog 54 ⟨.func,1,8, .nilFunc⟩:=⟨⟨_,_,_,Tryz.underlying54⟩,by kernel_rfl⟩
theorem tyOk55:TyOk Tryz.prog 55 ⟨.func,1,8, .nilFunc⟩:=⟨⟨_,_,_,Tryz.underlying55⟩,by kernel_rfl⟩
theorem tyOk56:TyOk Tryz.prog 56 ⟨.func,1,8, .nilFunc⟩:=⟨⟨_,_,_,Tryz.underlying56⟩,by kernel_rfl⟩
theorem tyOk57:TyOk Tryz.prog 57 ⟨.func,1,8, .nilFunc⟩:=⟨⟨_,_,_,Tryz.underlying57⟩,by kernel_rfl⟩
theorem tyOk58:TyOk Tryz.prog 58 ⟨.func,1,8, .nilFunc⟩:=⟨⟨_,_,_,Tryz.underlying58⟩,by kernel_rfl⟩
theorem tyOk59:TyOk Tryz.prog 59 ⟨.func,1,8, .nilFunc⟩:=⟨⟨_,_,_,Tryz.underlying59⟩,by kernel_rfl⟩
theorem tyOk60:TyOk Tryz.prog 60 ⟨.slice 22,1,24, .slice none 0 0⟩:=⟨Tryz.underlying60,by kernel_rfl⟩
theorem tyOk62:TyOk Tryz.prog 62 ⟨.ptr 65,1,8, .pointer none⟩:=⟨Tryz.underlying62,by kernel_rfl⟩
theorem tyOk63:TyOk Tryz.prog 63 ⟨.slice 5,1,24, .slice none 0 0⟩:=⟨Tryz.underlying63,by kernel_rfl⟩
theorem tyOk65:TyOk Tryz.prog 65 ⟨.struct [(62,0),(63,1)],2,32, .agg #[.pointer none, .slice none 0 0]⟩:=⟨⟨_,Tryz.underlying65,by kernel_rfl⟩,by kernel_rfl⟩
theorem tyOk67:TyOk Tryz.prog 67 ⟨.struct [(65,0)],2,32, .agg #[.pointer none, .slice none 0 0]⟩:=⟨⟨_,Tryz.underlying67,by kernel_rfl⟩,by kernel_rfl⟩
theorem tyOk77:TyOk Tryz.prog 77 ⟨.struct [(9,0),(3,1)],2,24, .agg #[.string .empty, .int .i64 0]⟩:=⟨⟨_,Tryz.underlying77,by kernel_rfl⟩,by kernel_rfl⟩
theorem tyOk79:TyOk Tryz.prog 79 ⟨.struct [(9,0),(9,1),(77,2),(3,4),(9,5)],6,80, .agg #[.string .empty, .string .empty, .string .empty, .int .i64 0, .int .i64 0, .string .empty]⟩:=⟨⟨_,Tryz.underlying79,by kernel_rfl⟩,by kernel_rfl⟩
theorem tyOk87:TyOk Tryz.prog 87 ⟨.func,1,8, .nilFunc⟩:=⟨⟨_,_,_,Tryz.underlying87⟩,by kernel_rfl⟩
theorem tyOk89:TyOk Tryz.prog 89 ⟨.func,1,8, .nilFunc⟩:=⟨⟨_,_,_,Tryz.underlying89⟩,by kernel_rfl⟩
theorem tyOk91:TyOk Tryz.prog 91 ⟨.func,1,8, .nilFunc⟩:=⟨⟨_,_,_,Tryz.underlying91⟩,by kernel_rfl⟩
theorem tyOk93:TyOk Tryz.prog 93 ⟨.func,1,8, .nilFunc⟩:=⟨⟨_,_,_,Tryz.underlying93⟩,by kernel_rfl⟩
theorem tyOk101:TyOk Tryz.prog 101 ⟨.iface,1,16, .nilIface⟩:=⟨⟨_,Tryz.underlying101⟩,by kernel_rfl⟩
theorem tyOk105:TyOk Tryz.prog 105 ⟨.ptr 5,1,8, .pointer none⟩:=⟨Tryz.underlying105,by kernel_rfl⟩
theorem tyOk110:TyOk Tryz.prog 110 ⟨.func,1,8, .nilFunc⟩:=⟨⟨_,_,_,Tryz.underlying110⟩,by kernel_rfl⟩
theorem tyOk113:TyOk Tryz.prog 113 ⟨.func,1,8, .nilFunc⟩:=⟨⟨_,_,_,Tryz.underlying113⟩,by kernel_rfl⟩
theorem tyOk114:TyOk Tryz.prog 114 ⟨.func,1,8, .nilFunc⟩:=⟨⟨_,_,_,Tryz.underlying114⟩,by kernel_rfl⟩
theorem tyOk117:TyOk Tryz.prog 117 ⟨.ptr 123,1,8, .pointer none⟩:=⟨Tryz.underlying117,by kernel_rfl⟩
theorem tyOk118:TyOk Tryz.prog 118 ⟨.func,1,8, .nilFunc⟩:=⟨⟨_,_,_,Tryz.underlying118⟩,by kernel_rfl⟩
theorem tyOk121:TyOk Tryz.prog 121 ⟨.arr 4 3,4,32, .agg #[.int .i64 0, .int .i64 0, .int .i64 0, .int .i64 0]⟩:=⟨Tryz.underlying121,by kernel_rfl⟩
theorem tyOk123:TyOk Tryz.prog 123 ⟨.struct [(23,0),(121,1),(3,5)],6,64, .agg #[.slice none 0 0, .int .i64 0, .int .i64 0, .int .i64 0, .int .i64 0, .int .i64 0]⟩:=⟨⟨_,Tryz.underlying123,by kernel_rfl⟩,by kernel_rfl⟩
theorem tyOk126:TyOk Tryz.prog 126 ⟨.func,1,8, .nilFunc⟩:=⟨⟨_,_,_,Tryz.underlying126⟩,by kernel_rfl⟩
theorem tyOk140:TyOk Tryz.prog 140 ⟨.func,1,8, .nilFunc⟩:=⟨⟨_,_,_,Tryz.underlying140⟩,by kernel_rfl⟩
theorem tyOk147:TyOk Tryz.prog 147 ⟨.func,1,8, .nilFunc⟩:=⟨⟨_,_,_,Tryz.underlying147⟩,by kernel_rfl⟩
theorem tyOk149:TyOk Tryz.prog 149 ⟨.func,1,8, .nilFunc⟩:=⟨⟨_,_,_,Tryz.underlying149⟩,by kernel_rfl⟩
theorem tyOk152:TyOk Tryz.prog 152 ⟨.slice 4,1,24, .slice none 0 0⟩:=⟨Tryz.underlying152,by kernel_rfl⟩
theorem tyOk156:TyOk Tryz.prog 156 ⟨.func,1,8, .nilFunc⟩:=⟨⟨_,_,_,Tryz.underlying156⟩,by kernel_rfl⟩
theorem tyOk157:TyOk Tryz.prog 157 ⟨.func,1,8, .nilFunc⟩:=⟨⟨_,_,_,Tryz.underlying157⟩,by kernel_rfl⟩
theorem tyOk158:TyOk Tryz.prog 158 ⟨.ptr 160,1,8, .pointer none⟩:=⟨Tryz.underlying158,by kernel_rfl⟩
theorem tyOk160:TyOk Tryz.prog 160 ⟨.struct [(51,0),(23,4),(24,5),(47,6),(24,7)],8,128, .agg #[.int .i64 0, .int .i64 0, .int .i64 0, .int .i64 0, .slice none 0 0, .slice none 0 0, .slice none 0 0, .slice none 0 0]⟩:=⟨⟨_,Tryz.underlying160,by kernel_rfl⟩,by kernel_rfl⟩
theorem tyOk165:TyOk Tryz.prog 165 ⟨.struct [(3,0),(3,1),(3,2)],3,24, .agg #[.int .i64 0, .int .i64 0, .int .i64 0]⟩:=⟨⟨_,Tryz.underlying165,by kernel_rfl⟩,by kernel_rfl⟩
theorem tyOk169:TyOk Tryz.prog 169 ⟨.int .u64,1,8, .int .u64 0⟩:=⟨Tryz.underlying169,by kernel_rfl⟩
theorem tyOk183:TyOk Tryz.prog 183 ⟨.arr 2 29,2,48, .agg #[.slice none 0 0, .slice none 0 0]⟩:=⟨Tryz.underlying183,by kernel_rfl⟩
theorem tyOk184:TyOk Tryz.prog 184 ⟨.struct [(51,0),(47,4),(47,5),(183,6)],8,128, .agg #[.int .i64 0, .int .i64 0, .int .i64 0, .int .i64 0, .slice none 0 0, .slice none 0 0, .slice none 0 0, .slice none 0 0]⟩:=⟨⟨_,Tryz.underlying184,by kernel_rfl⟩,by kernel_rfl⟩
theorem tyOk185:TyOk Tryz.prog 185 ⟨.struct [(51,0),(47,4),(47,5),(183,6)],8,128, .agg #[.int .i64 0, .int .i64 0, .int .i64 0, .int .i64 0, .slice none 0 0, .slice none 0 0, .slice none 0 0, .slice none 0 0]⟩:=⟨⟨_,Tryz.underlying185,by kernel_rfl⟩,by kernel_rfl⟩
theorem tyOk188:TyOk Tryz.prog 188 ⟨.slice 29,1,24, .slice none 0 0⟩:=⟨Tryz.underlying188,by kernel_rfl⟩
theorem tyOk191:TyOk Tryz.prog 191 ⟨.func,1,8, .nilFunc⟩:=⟨⟨_,_,_,Tryz.underlying191⟩,by kernel_rfl⟩
theorem tyOk195:TyOk Tryz.prog 195 ⟨.struct [(5,0),(5,1)],2,2, .agg #[.int .u8 0, .int .u8 0]⟩:=⟨⟨_,Tryz.underlying195,by kernel_rfl⟩,by kernel_rfl⟩
theorem tyOk196:TyOk Tryz.prog 196 ⟨.arr 16 195,32,32, .agg #[.int .u8 0, .int .u8 0, .int .u8 0, .int .u8 0, .int .u8 0, .int .u8 0, .int .u8 0, .int .u8 0, .int .u8 0, .int .u8 0, .int .u8 0, .int .u8 0, .int .u8 0, .int .u8 0, .int .u8 0, .int .u8 0, .int .u8 0, .int .u8 0, .int .u8 0, .int .u8 0, .int .u8 0, .int .u8 0, .int .u8 0, .int .u8 0, .int .u8 0, .int .u8 0, .int .u8 0, .int .u8 0, .int .u8 0, .int .u8 0, .int .u8 0, .int .u8 0]⟩:=⟨Tryz.underlying196,by kernel_rfl⟩
theorem tyOk197:TyOk Tryz.prog 197 ⟨.int .u32,1,4, .int .u32 0⟩:=⟨Tryz.underlying197,by kernel_rfl⟩
theorem tyOk208:TyOk Tryz.prog 208 ⟨.int .i64,1,8, .int .i64 0⟩:=⟨Tryz.underlying208,by kernel_rfl⟩
theorem tyOk217:TyOk Tryz.prog 217 ⟨.int .u64,1,8, .int .u64 0⟩:=⟨Tryz.underlying217,by kernel_rfl⟩
theorem tyOk221:TyOk Tryz.prog 221 ⟨.func,1,8, .nilFunc⟩:=⟨⟨_,_,_,Tryz.underlying221⟩,by kernel_rfl⟩
theorem tyOk222:TyOk Tryz.prog 222 ⟨.slice 225,1,24, .slice none 0 0⟩:=⟨Tryz.underlying222,by kernel_rfl⟩
theorem tyOk225:TyOk Tryz.prog 225 ⟨.func,1,8, .nilFunc⟩:=⟨⟨_,_,_,Tryz.underlying225⟩,by kernel_rfl⟩
theorem tyOk226:TyOk Tryz.prog 226 ⟨.arr 2 47,2,48, .agg #[.slice none 0 0, .slice none 0 0]⟩:=⟨Tryz.underlying226,by kernel_rfl⟩
theorem tyOk229:TyOk Tryz.prog 229 ⟨.slice 232,1,24, .slice none 0 0⟩:=⟨Tryz.underlying229,by kernel_rfl⟩
theorem tyOk232:TyOk Tryz.prog 232 ⟨.struct [(3,0),(3,1),(3,2)],3,24, .agg #[.int .i64 0, .int .i64 0, .int .i64 0]⟩:=⟨⟨_,Tryz.underlying232,by kernel_rfl⟩,by kernel_rfl⟩
theorem tyOk236:TyOk Tryz.prog 236 ⟨.int .i64,1,8, .int .i64 0⟩:=⟨Tryz.underlying236,by kernel_rfl⟩
theorem tyOk239:TyOk Tryz.prog 239 ⟨.ptr 258,1,8, .pointer none⟩:=⟨Tryz.underlying239,by kernel_rfl⟩
theorem tyOk242:TyOk Tryz.prog 242 ⟨.int .u64,1,8, .int .u64 0⟩:=⟨Tryz.underlying242,by kernel_rfl⟩
theorem tyOk246:TyOk Tryz.prog 246 ⟨.ptr 3,1,8, .pointer none⟩:=⟨Tryz.underlying246,by kernel_rfl⟩
theorem tyOk250:TyOk Tryz.prog 250 ⟨.arr 24 5,24,24, .agg #[.int .u8 0, .int .u8 0, .int .u8 0, .int .u8 0, .int .u8 0, .int .u8 0, .int .u8 0, .int .u8 0, .int .u8 0, .int .u8 0, .int .u8 0, .int .u8 0, .int .u8 0, .int .u8 0, .int .u8 0, .int .u8 0, .int .u8 0, .int .u8 0, .int .u8 0, .int .u8 0, .int .u8 0, .int .u8 0, .int .u8 0, .int .u8 0]⟩:=⟨Tryz.underlying250,by kernel_rfl⟩
theorem tyOk258:TyOk Tryz.prog 258 ⟨.struct [(9,0),(9,1),(101,2)],3,48, .agg #[.string .empty, .string .empty, .nilIface]⟩:=⟨⟨_,Tryz.underlying258,by kernel_rfl⟩,by kernel_rfl⟩
theorem tyOk265:TyOk Tryz.prog 265 ⟨.arr 20 217,20,160, .agg #[.int .u64 0, .int .u64 0, .int .u64 0, .int .u64 0, .int .u64 0, .int .u64 0, .int .u64 0, .int .u64 0, .int .u64 0, .int .u64 0, .int .u64 0, .int .u64 0, .int .u64 0, .int .u64 0, .int .u64 0, .int .u64 0, .int .u64 0, .int .u64 0, .int .u64 0, .int .u64 0]⟩:=⟨Tryz.underlying265,by kernel_rfl⟩
theorem tyOk268:TyOk Tryz.prog 268 ⟨.ptr 270,1,8, .pointer none⟩:=⟨Tryz.underlying268,by kernel_rfl⟩
theorem tyOk270:TyOk Tryz.prog 270 ⟨.struct [(9,0)],1,16, .agg #[.string .empty]⟩:=⟨⟨_,Tryz.underlying270,by kernel_rfl⟩,by kernel_rfl⟩
theorem tyOk273:TyOk Tryz.prog 273 ⟨.arr 32 5,32,32, .agg #[.int .u8 0, .int .u8 0, .int .u8 0, .int .u8 0, .int .u8 0, .int .u8 0, .int .u8 0, .int .u8 0, .int .u8 0, .int .u8 0, .int .u8 0, .int .u8 0, .int .u8 0, .int .u8 0, .int .u8 0, .int .u8 0, .int .u8 0, .int .u8 0, .int .u8 0, .int .u8 0, .int .u8 0, .int .u8 0, .int .u8 0, .int .u8 0, .int .u8 0, .int .u8 0, .int .u8 0, .int .u8 0, .int .u8 0, .int .u8 0, .int .u8 0, .int .u8 0]⟩:=⟨Tryz.underlying273,by kernel_rfl⟩
def tyTab:List (Nat × TyI):=[
 (3,⟨.int .i64,1,8, .int .i64 0⟩),
 (9,⟨.str,1,16, .string .empty⟩),
 (29,⟨.slice 3,1,24, .slice none 0 0⟩),
 (5,⟨.int .u8,1,1, .int .u8 0⟩),
 (2,⟨.int .i64,1,8, .int .i64 0⟩),
 (24,⟨.slice 29,1,24, .slice none 0 0⟩),
 (26,⟨.struct [(9,0),(22,1),(23,2),(24,3)],4,88, .agg #[.string .empty, .slice none 0 0, .slice none 0 0, .slice none 0 0]⟩),
 (1,⟨.func,1,8, .nilFunc⟩),
 (22,⟨.slice 9,1,24, .slice none 0 0⟩),
 (47,⟨.slice 79,1,24, .slice none 0 0⟩),
 (23,⟨.slice 47,1,24, .slice none 0 0⟩),
 (79,⟨.struct [(9,0),(9,1),(77,2),(3,4),(9,5)],6,80, .agg #[.string .empty, .string .empty, .string .empty, .int .i64 0, .int .i64 0, .string .empty]⟩),
 (4,⟨.bool,1,1, .bool false⟩),
 (31,⟨.int .i64,1,8, .int .i64 0⟩),
 (217,⟨.int .u64,1,8, .int .u64 0⟩),
 (197,⟨.int .u32,1,4, .int .u32 0⟩),
 (51,⟨.struct [(3,0),(3,1),(3,2),(3,3)],4,32, .agg #[.int .i64 0, .int .i64 0, .int .i64 0, .int .i64 0]⟩),
 (6,⟨.int .u8,1,1, .int .u8 0⟩),
 (169,⟨.int .u64,1,8, .int .u64 0⟩),
 (63,⟨.slice 5,1,24, .slice none 0 0⟩),
 (12,⟨.int .u64,1,8, .int .u64 0⟩),
 (21,⟨.int .i32,1,4, .int .i32 0⟩),
 (185,⟨.struct [(51,0),(47,4),(47,5),(183,6)],8,128, .agg #[.int .i64 0, .int .i64 0, .int .i64 0, .int .i64 0, .slice none 0 0, .slice none 0 0, .slice none 0 0, .slice none 0 0]⟩),
 (10,⟨.str,1,16, .string .empty⟩),
 (160,⟨.struct [(51,0),(23,4),(24,5),(47,6),(24,7)],8,128, .agg #[.int .i64 0, .int .i64 0, .int .i64 0, .int .i64 0, .slice none 0 0, .slice none 0 0, .slice none 0 0, .slice none 0 0]⟩),
 (8,⟨.struct [(2,0),(3,1),(4,2),(6,3)],4,24, .agg #[.int .i64 0, .int .i64 0, .bool false, .int .u8 0]⟩),
 (18,⟨.struct [(17,0)],1,8, .agg #[.pointer none]⟩),
 (152,⟨.slice 4,1,24, .slice none 0 0⟩),
 (7,⟨.struct [(2,0),(3,1),(4,2),(6,3)],4,24, .agg #[.int .i64 0, .int .i64 0, .bool false, .int .u8 0]⟩),
 (188,⟨.slice 29,1,24, .slice none 0 0⟩),
 (242,⟨.int .u64,1,8, .int .u64 0⟩),
 (149,⟨.func,1,8, .nilFunc⟩),
 (101,⟨.iface,1,16, .nilIface⟩),
 (158,⟨.ptr 160,1,8, .pointer none⟩),
 (165,⟨.struct [(3,0),(3,1),(3,2)],3,24, .agg #[.int .i64 0, .int .i64 0, .int .i64 0]⟩),
 (19,⟨.struct [(17,0)],1,8, .agg #[.pointer none]⟩),
 (236,⟨.int .i64,1,8, .int .i64 0⟩),
 (246,⟨.ptr 3,1,8, .pointer none⟩),
 (65,⟨.struct [(62,0),(63,1)],2,32, .agg #[.pointer none, .slice none 0 0]⟩),
 (123,⟨.struct [(23,0),(121,1),(3,5)],6,64, .agg #[.slice none 0 0, .int .i64 0, .int .i64 0, .int .i64 0, .int .i64 0, .int .i64 0]⟩),
 (232,⟨.struct [(3,0),(3,1),(3,2)],3,24, .agg #[.int .i64 0, .int .i64 0, .int .i64 0]⟩),
 (13,⟨.struct [(9,0),(12,1)],2,24, .agg #[.string .empty, .int .u64 0]⟩),
 (121,⟨.arr 4 3,4,32, .agg #[.int .i64 0, .int .i64 0, .int .i64 0, .int .i64 0]⟩),
 (11,⟨.str,1,16, .string .empty⟩),
 (62,⟨.ptr 65,1,8, .pointer none⟩),
 (229,⟨.slice 232,1,24, .slice none 0 0⟩),
 (60,⟨.slice 22,1,24, .slice none 0 0⟩),
 (113,⟨.func,1,8, .nilFunc⟩),
 (195,⟨.struct [(5,0),(5,1)],2,2, .agg #[.int .u8 0, .int .u8 0]⟩),
 (17,⟨.ptr 286,1,8, .pointer none⟩),
 (117,⟨.ptr 123,1,8, .pointer none⟩),
 (258,⟨.struct [(9,0),(9,1),(101,2)],3,48, .agg #[.string .empty, .string .empty, .nilIface]⟩),
 (67,⟨.struct [(65,0)],2,32, .agg #[.pointer none, .slice none 0 0]⟩),
 (15,⟨.ptr 276,1,8, .pointer none⟩),
 (77,⟨.struct [(9,0),(3,1)],2,24, .agg #[.string .empty, .int .i64 0]⟩),
 (157,⟨.func,1,8, .nilFunc⟩),
 (208,⟨.int .i64,1,8, .int .i64 0⟩),
 (250,⟨.arr 24 5,24,24, .agg #[.int .u8 0, .int .u8 0, .int .u8 0, .int .u8 0, .int .u8 0, .int .u8 0, .int .u8 0, .int .u8 0, .int .u8 0, .int .u8 0, .int .u8 0, .int .u8 0, .int .u8 0, .int .u8 0, .int .u8 0, .int .u8 0, .int .u8 0, .int .u8 0, .int .u8 0, .int .u8 0, .int .u8 0, .int .u8 0, .int .u8 0, .int .u8 0]⟩),
 (14,⟨.struct [(9,0),(12,1)],2,24, .agg #[.string .empty, .int .u64 0]⟩),
 (147,⟨.func,1,8, .nilFunc⟩),
 (183,⟨.arr 2 29,2,48, .agg #[.slice none 0 0, .slice none 0 0]⟩),
 (239,⟨.ptr 258,1,8, .pointer none⟩),
 (196,⟨.arr 16 195,32,32, .agg #[.int .u8 0, .int .u8 0, .int .u8 0, .int .u8 0, .int .u8 0, .int .u8 0, .int .u8 0, .int .u8 0, .int .u8 0, .int .u8 0, .int .u8 0, .int .u8 0, .int .u8 0, .int .u8 0, .int .u8 0, .int .u8 0, .int .u8 0, .int .u8 0, .int .u8 0, .int .u8 0, .int .u8 0, .int .u8 0, .int .u8 0, .int .u8 0, .int .u8 0, .int .u8 0, .int .u8 0, .int .u8 0, .int .u8 0, .int .u8 0, .int .u8 0, .int .u8 0]⟩),
 (222,⟨.slice 225,1,24, .slice none 0 0⟩),
 (265,⟨.arr 20 217,20,160, .agg #[.int .u64 0, .int .u64 0, .int .u64 0, .int .u64 0, .int .u64 0, .int .u64 0, .int .u64 0, .int .u64 0, .int .u64 0, .int .u64 0, .int .u64 0, .int .u64 0, .int .u64 0, .int .u64 0, .int .u64 0, .int .u64 0, .int .u64 0, .int .u64 0, .int .u64 0, .int .u64 0]⟩),
 (273,⟨.arr 32 5,32,32, .agg #[.int .u8 0, .int .u8 0, .int .u8 0, .int .u8 0, .int .u8 0, .int .u8 0, .int .u8 0, .int .u8 0, .int .u8 0, .int .u8 0, .int .u8 0, .int .u8 0, .int .u8 0, .int .u8 0, .int .u8 0, .int .u8 0, .int .u8 0, .int .u8 0, .int .u8 0, .int .u8 0, .int .u8 0, .int .u8 0, .int .u8 0, .int .u8 0, .int .u8 0, .int .u8 0, .int .u8 0, .int .u8 0, .int .u8 0, .int .u8 0, .int .u8 0, .int .u8 0]⟩),
 (30,⟨.func,1,8, .nilFunc⟩),
 (45,⟨.func,1,8, .nilFunc⟩),
 (105,⟨.ptr 5,1,8, .pointer none⟩),
 (110,⟨.func,1,8, .nilFunc⟩),
 (140,⟨.func,1,8, .nilFunc⟩),
 (226,⟨.arr 2 47,2,48, .agg #[.slice none 0 0, .slice none 0 0]⟩),
 (270,⟨.struct [(9,0)],1,16, .agg #[.string .empty]⟩),
 (87,⟨.func,1,8, .nilFunc⟩),
 (89,⟨.func,1,8, .nilFunc⟩),
 (91,⟨.func,1,8, .nilFunc⟩),
 (93,⟨.func,1,8, .nilFunc⟩),
 (114,⟨.func,1,8, .nilFunc⟩),
 (118,⟨.func,1,8, .nilFunc⟩),
 (126,⟨.func,1,8, .nilFunc⟩),
 (156,⟨.func,1,8, .nilFunc⟩),
 (184,⟨.struct [(51,0),(47,4),(47,5),(183,6)],8,128, .agg #[.int .i64 0, .int .i64 0, .int .i64 0, .int .i64 0, .slice none 0 0, .slice none 0 0, .slice none 0 0, .slice none 0 0]⟩),
 (191,⟨.func,1,8, .nilFunc⟩),
 (221,⟨.func,1,8, .nilFunc⟩),
 (225,⟨.func,1,8, .nilFunc⟩),
 (268,⟨.ptr 270,1,8, .pointer none⟩),
 (16,⟨.ptr 279,1,8, .pointer none⟩),
 (20,⟨.iface,1,16, .nilIface⟩),
 (25,⟨.struct [(9,0),(22,1),(23,2),(24,3)],4,88, .agg #[.string .empty, .slice none 0 0, .slice none 0 0, .slice none 0 0]⟩),
 (27,⟨.func,1,8, .nilFunc⟩),
 (28,⟨.func,1,8, .nilFunc⟩),
 (33,⟨.func,1,8, .nilFunc⟩),
 (34,⟨.func,1,8, .nilFunc⟩),
 (36,⟨.func,1,8, .nilFunc⟩),
 (37,⟨.func,1,8, .nilFunc⟩),
 (38,⟨.func,1,8, .nilFunc⟩),
 (39,⟨.func,1,8, .nilFunc⟩),
 (40,⟨.func,1,8, .nilFunc⟩),
 (42,⟨.func,1,8, .nilFunc⟩),
 (43,⟨.func,1,8, .nilFunc⟩),
 (44,⟨.func,1,8, .nilFunc⟩),
 (46,⟨.func,1,8, .nilFunc⟩),
 (48,⟨.func,1,8, .nilFunc⟩),
 (49,⟨.func,1,8, .nilFunc⟩),
 (50,⟨.struct [(3,0),(3,1),(3,2),(3,3)],4,32, .agg #[.int .i64 0, .int .i64 0, .int .i64 0, .int .i64 0]⟩),
 (53,⟨.func,1,8, .nilFunc⟩),
 (54,⟨.func,1,8, .nilFunc⟩),
 (55,⟨.func,1,8, .nilFunc⟩),
 (56,⟨.func,1,8, .nilFunc⟩),
 (57,⟨.func,1,8, .nilFunc⟩),
 (58,⟨.func,1,8, .nilFunc⟩),
 (59,⟨.func,1,8, .nilFunc⟩)
]
theorem tyTab_ok:∀ e∈tyTab,TyOk Tryz.prog e.1 e.2:=by
 unfold tyTab
 refine List.forall_mem_cons.2 ⟨tyOk3,?_⟩
 refine List.forall_mem_cons.2 ⟨tyOk9,?_⟩
 refine List.forall_mem_cons.2 ⟨tyOk29,?_⟩
 refine List.forall_mem_cons.2 ⟨tyOk5,?_⟩
 refine List.forall_mem_cons.2 ⟨tyOk2,?_⟩
 refine List.forall_mem_cons.2 ⟨tyOk24,?_⟩
 refine List.forall_mem_cons.2 ⟨tyOk26,?_⟩
 refine List.forall_mem_cons.2 ⟨tyOk1,?_⟩
 refine List.forall_mem_cons.2 ⟨tyOk22,?_⟩
 refine List.forall_mem_cons.2 ⟨tyOk47,?_⟩
 refine List.forall_mem_cons.2 ⟨tyOk23,?_⟩
 refine List.forall_mem_cons.2 ⟨tyOk79,?_⟩
 refine List.forall_mem_cons.2 ⟨tyOk4,?_⟩
 refine List.forall_mem_cons.2 ⟨tyOk31,?_⟩
 refine List.forall_mem_cons.2 ⟨tyOk217,?_⟩
 refine List.forall_mem_cons.2 ⟨tyOk197,?_⟩
 refine List.forall_mem_cons.2 ⟨tyOk51,?_⟩
 refine List.forall_mem_cons.2 ⟨tyOk6,?_⟩
 refine List.forall_mem_cons.2 ⟨tyOk169,?_⟩
 refine List.forall_mem_cons.2 ⟨tyOk63,?_⟩
 refine List.forall_mem_cons.2 ⟨tyOk12,?_⟩
 refine List.forall_mem_cons.2 ⟨tyOk21,?_⟩
 refine List.forall_mem_cons.2 ⟨tyOk185,?_⟩
 refine List.forall_mem_cons.2 ⟨tyOk10,?_⟩
 refine List.forall_mem_cons.2 ⟨tyOk160,?_⟩
 refine List.forall_mem_cons.2 ⟨tyOk8,?_⟩
 refine List.forall_mem_cons.2 ⟨tyOk18,?_⟩
 refine List.forall_mem_cons.2 ⟨tyOk152,?_⟩
 refine List.forall_mem_cons.2 ⟨tyOk7,?_⟩
 refine List.forall_mem_cons.2 ⟨tyOk188,?_⟩
 refine List.forall_mem_cons.2 ⟨tyOk242,?_⟩
 refine List.forall_mem_cons.2 ⟨tyOk149,?_⟩
 refine List.forall_mem_cons.2 ⟨tyOk101,?_⟩
 refine List.forall_mem_cons.2 ⟨tyOk158,?_⟩
 refine List.forall_mem_cons.2 ⟨tyOk165,?_⟩
 refine List.forall_mem_cons.2 ⟨tyOk19,?_⟩
 refine List.forall_mem_cons.2 ⟨tyOk236,?_⟩
 refine List.forall_mem_cons.2 ⟨tyOk246,?_⟩
 refine List.forall_mem_cons.2 ⟨tyOk65,?_⟩
 refine List.forall_mem_cons.2 ⟨tyOk123,?_⟩
 refine List.forall_mem_cons.2 ⟨tyOk232,?_⟩
 refine List.forall_mem_cons.2 ⟨tyOk13,?_⟩
 refine List.forall_mem_cons.2 ⟨tyOk121,?_⟩
 refine List.forall_mem_cons.2 ⟨tyOk11,?_⟩
 refine List.forall_mem_cons.2 ⟨tyOk62,?_⟩
 refine List.forall_mem_cons.2 ⟨tyOk229,?_⟩
 refine List.forall_mem_cons.2 ⟨tyOk60,?_⟩
 refine List.forall_mem_cons.2 ⟨tyOk113,?_⟩
 refine List.forall_mem_cons.2 ⟨tyOk195,?_⟩
 refine List.forall_mem_cons.2 ⟨tyOk17,?_⟩
 refine List.forall_mem_cons.2 ⟨tyOk117,?_⟩
 refine List.forall_mem_cons.2 ⟨tyOk258,?_⟩
 refine List.forall_mem_cons.2 ⟨tyOk67,?_⟩
 refine List.forall_mem_cons.2 ⟨tyOk15,?_⟩
 refine List.forall_mem_cons.2 ⟨tyOk77,?_⟩
 refine List.forall_mem_cons.2 ⟨tyOk157,?_⟩
 refine List.forall_mem_cons.2 ⟨tyOk208,?_⟩
 refine List.forall_mem_cons.2 ⟨tyOk250,?_⟩
 refine List.forall_mem_cons.2 ⟨tyOk14,?_⟩
 refine List.forall_mem_cons.2 ⟨tyOk147,?_⟩
 refine List.forall_mem_cons.2 ⟨tyOk183,?_⟩
 refine List.forall_mem_cons.2 ⟨tyOk239,?_⟩
 refine List.forall_mem_cons.2 ⟨tyOk196,?_⟩
 refine List.forall_mem_cons.2 ⟨tyOk222,?_⟩
 refine List.forall_mem_cons.2 ⟨tyOk265,?_⟩
 refine List.forall_mem_cons.2 ⟨tyOk273,?_⟩
 refine List.forall_mem_cons.2 ⟨tyOk30,?_⟩
 refine List.forall_mem_cons.2 ⟨tyOk45,?_⟩
 refine List.forall_mem_cons.2 ⟨tyOk105,?_⟩
 refine List.forall_mem_cons.2 ⟨tyOk110,?_⟩
 refine List.forall_mem_cons.2 ⟨tyOk140,?_⟩
 refine List.forall_mem_cons.2 ⟨tyOk226,?_⟩
 refine List.forall_mem_cons.2 ⟨tyOk270,?_⟩
 refine List.forall_mem_cons.2 ⟨tyOk87,?_⟩
 refine List.forall_mem_cons.2 ⟨tyOk89,?_⟩
 refine List.forall_mem_cons.2 ⟨tyOk91,?_⟩
 refine List.forall_mem_cons.2 ⟨tyOk93,?_⟩
 refine List.forall_mem_cons.2 ⟨tyOk114,?_⟩
 refine List.forall_mem_cons.2 ⟨tyOk118,?_⟩
 refine List.forall_mem_cons.2 ⟨tyOk126,?_⟩
 refine List.forall_mem_cons.2 ⟨tyOk156,?_⟩
 refine List.forall_mem_cons.2 ⟨tyOk184,?_⟩
 refine List.forall_mem_cons.2 ⟨tyOk191,?_⟩
 refine List.forall_mem_cons.2 ⟨tyOk221,?_⟩
 refine List.forall_mem_cons.2 ⟨tyOk225,?_⟩
 refine List.forall_mem_cons.2 ⟨tyOk268,?_⟩
 refine List.forall_mem_cons.2 ⟨tyOk16,?_⟩
 refine List.forall_mem_cons.2 ⟨tyOk20,?_⟩
 refine List.forall_mem_cons.2 ⟨tyOk25,?_⟩
 refine List.forall_mem_cons.2 ⟨tyOk27,?_⟩
 refine List.forall_mem_cons.2 ⟨tyOk28,?_⟩
 refine List.forall_mem_cons.2 ⟨tyOk33,?_⟩
 refine List.forall_mem_cons.2 ⟨tyOk34,?_⟩
 refine List.forall_mem_cons.2 ⟨tyOk36,?_⟩
 refine List.forall_mem_cons.2 ⟨tyOk37,?_⟩
 refine List.forall_mem_cons.2 ⟨tyOk38,?_⟩
 refine List.forall_mem_cons.2 ⟨tyOk39,?_⟩
 refine List.forall_mem_cons.2 ⟨tyOk40,?_⟩
 refine List.forall_mem_cons.2 ⟨tyOk42,?_⟩
 refine List.forall_mem_cons.2 ⟨tyOk43,?_⟩
 refine List.forall_mem_cons.2 ⟨tyOk44,?_⟩
 refine List.forall_mem_cons.2 ⟨tyOk46,?_⟩
 refine List.forall_mem_cons.2 ⟨tyOk48,?_⟩
 refine List.forall_mem_cons.2 ⟨tyOk49,?_⟩
 refine List.forall_mem_cons.2 ⟨tyOk50,?_⟩
 refine List.forall_mem_cons.2 ⟨tyOk53,?_⟩
 refine List.forall_mem_cons.2 ⟨tyOk54,?_⟩
 refine List.forall_mem_cons.2 ⟨tyOk55,?_⟩
 refine List.forall_mem_cons.2 ⟨tyOk56,?_⟩
 refine List.forall_mem_cons.2 ⟨tyOk57,?_⟩
 refine List.forall_mem_cons.2 ⟨tyOk58,?_⟩
 refine List.forall_mem_cons.2 ⟨tyOk59,?_⟩
 intro _ h;cases h
noncomputable def sg:Sig:=⟨Tryz.prog,tyTab,tyTab_ok,by kernel_rfl⟩
end Go.Proofs.YtefieebkankfoaaGreatDoor
namespace Go.Proofs.YtefieebkankfoaaGreatDoor
open Go.RowKit Go.Shelf Go.Proofs
set_option maxRecDepth 100000
set_option maxHeartbeats 1000000

theorem kindRef_spec (c:Int) (w:World):Spec Tryz.prog 97 [.int .u8 c] w (fun v A=>v = .int .i64 (kindI c)∧A=[]):=by
 refine spec_of sg Tryz.func97 rfl rfl rfl ?_
 repeat' (first|refine d1 ?_|(show T _ (.code (.cond _ _ _)::_) _ _ _;refine T_if rfl (fun h=>?_) (fun h=>?_))|(show T _ (.code .ret::_) _ _ _;refine T_retV [] rfl (Hle.refl _) ?_))
 all_goals refine ⟨congrArg (Value.int .i64) ?_,rfl⟩
 all_goals simp only [Bool.or_eq_true,Bool.and_eq_true,decide_eq_true_eq,Bool.or_eq_false_iff,Bool.and_eq_false_iff,decide_eq_false_iff_not] at *
 all_goals (unfold kindI;(repeat' split) <;> omega)

theorem lettersRef_spec (s:ByteArray) (w:World) (hs:s.size≤9223372036854775807):Spec Tryz.prog 94 [.string s] w (fun v A=>v = .int .i64 (lettersN s.data.toList)∧A=[]):=by
 refine spec_of sg Tryz.func94 rfl rfl rfl ?_
 repeat' (first|refine d1 ?_|fail)
 refine T_loop (fun k:Nat=>[(0, .string s),(3, .int .i64 (lettersN (s.data.toList.take k))),(4, .int .i64 k)]) (fun _=>[]) (fun k=>k≤s.size) (fun k=>s.size - k) 0 (by omega) ⟨rfl,rfl,rfl,trivial⟩ (Hle.refl _) ?_
 intro k hk
 repeat' (first|refine d1 ?_|fail)
 refine T_if rfl (fun h=>?_) (fun h=>?_)
 ·simp only [decide_eq_true_eq] at h
  have hl:=lettersN_le (s.data.toList.take k)
  have hl2:(s.data.toList.take k).length≤k:=by rw [List.length_take];omega
  have hst:=lettersN_take s k (by omega)
  repeat' (first|refine d1 ?_|(show T _ (.ops _ (_::_)::_) _ _ _;refine T_call rfl rfl rfl rfl rfl (fun w hw=>kindRef_spec _ w) ?_)|(show T _ (.code (.cond _ _ _)::_) _ _ _;refine T_if rfl (fun h=>?_) (fun h=>?_))|(show T _ _ _ _ _;refine T_back (k+1) (by omega) (by omega) ⟨rfl,?_,rfl,trivial⟩ (Hle.refl _)))
  all_goals (refine congrArg (fun z:Int=>some (Value.int .i64 z)) ?_;simp only [Bool.or_eq_true,Bool.or_eq_false_iff,decide_eq_true_eq,decide_eq_false_iff_not] at h;rw [hst];unfold kAt;split <;> omega)
 ·simp only [decide_eq_false_iff_not] at h
  have hk2:k=s.size:=by omega
  subst hk2
  repeat' (first|refine d1 ?_|(show T _ (.code .ret::_) _ _ _;refine T_retV [] rfl (Hle.refl _) ⟨?_,rfl⟩))
  rw [List.take_of_length_le (by simp)]
  rfl

theorem rightRef_spec (s:ByteArray) (w:World) (hs:s.size≤65536):Spec Tryz.prog 162 [.string s] w
  (fun v A=>∃ x:Nat × Nat,True∧v = .slice (some ⟨x.1,0,none⟩) s.size x.2∧A=[row 4 1 (some ⟨x.1,0,none⟩) x.2 s.size (rts s s.size)]):=by
 refine spec_of sg Tryz.func162 rfl rfl rfl ?_
 repeat' (first|refine d1 ?_|(show ∀ _:Nat,T _ _ _ _ _;intro _))
 refine T_blk_rowh 1 0 rfl (by omega) ?_
 refine T_loop (fun x:Nat × Nat × Nat=>[(0, .string s),(3, .slice (some ⟨x.2.1,0,none⟩) x.1 x.2.2),(4, .int .i64 x.1)]) (fun x=>[row 4 1 (some ⟨x.2.1,0,none⟩) x.2.2 x.1 (rts s x.1)]) (fun x=>x.1≤s.size) (fun x=>s.size - x.1) (0,_,0) (Nat.zero_le _) ⟨rfl,rfl,rfl,trivial⟩ (Hle.refl _) ?_
 rintro⟨k,g,cap⟩ hk
 dsimp only at hk ⊢
 repeat' (first|refine d1 ?_|fail)
 refine T_if rfl (fun h=>?_) (fun h=>?_)
 ·simp only [decide_eq_true_eq] at h
  repeat' (first|refine d1 ?_|(show T _ (.ops _ (_::_)::_) _ _ _;first|refine T_call rfl rfl rfl rfl rfl (fun w hw=>kindRef_spec _ w) ?_|refine T_callC rfl rfl rfl rfl rfl rfl rfl (fun hg w hw=>kindRef_spec _ w) ?_)|fail)
  refine T_loadC (v := .bool (rtAt s (k - 1))) rfl rfl rfl rfl rfl rfl rfl (fun hg=>?_) ?_
  ·(simp only [List.cons_append,List.nil_append,GP,dstL,lookE,Nat.beq,cond,List.getElem?_cons_zero,List.getElem?_cons_succ,Option.bind_some,and_true,Bool.and_eq_true,Bool.or_eq_true,Bool.and_eq_false_iff,Bool.or_eq_false_iff,Bool.not_eq_true',Bool.not_eq_false',decide_eq_true_eq,decide_eq_false_iff_not] at hg)
   refine rdRow (A:=some ⟨g,0,none⟩) (by omega) (get1 ?_)
   rw [show 0+((k:Int) - 1).toNat * 1=k - 1 by omega]
   exact rts_get (by omega)
  repeat' (first|refine d1 ?_|(show ∀ _:Nat,T _ _ _ _ _;intro _))
  refine T_op (OpT.append rfl rfl rfl rfl rfl rfl rfl rfl rfl rfl (fun w hw=>Src.own hw rfl) rfl (by dsimp only;omega) (by omega) (fun A' cap' hA=>?_))
  obtain⟨g',rfl⟩:=hA (by omega)
  have hv:(decide (kindI (byteAt s (k:Int)).toNat=2) && decide ((0:Int)<k) && (decide (kindI (byteAt s ((k:Int) - 1)).toNat=1) || rtAt s (k - 1)))=rtAt s k:=by
   rw [byteAt_pred]
   cases k with
   | zero=>simp [rtAt,canAt]
   | succ k=>simp [rtAt,canAt,kAt];rfl
  rw [hv,show rts s k++flatP [(0, .bool (rtAt s k))]=rts s (k+1) from (rts_succ s k).symm]
  repeat' (first|refine d1 ?_|fail)
  exact T_back (k+1,g',cap') (Nat.succ_le_of_lt (by omega)) (by dsimp only;omega) ⟨rfl,rfl,rfl,trivial⟩ (Hle.tail _ _)
 ·simp only [decide_eq_false_iff_not] at h
  have hk2:k=s.size:=by omega
  subst hk2
  repeat' (first|refine d1 ?_|(show T _ (.code .ret::_) _ _ _;refine T_retV _ rfl (Hle.refl _) ⟨(g,cap),trivial,rfl,rfl⟩))

theorem checkRef_spec (s:ByteArray) (w:World):Spec Tryz.prog 135 [.string s] w (fun v A=>v = .int .i64 (checkS s)∧A=[]):=by
 refine spec_of sg Tryz.func135 rfl rfl rfl ?_
 repeat' (first|refine d1 ?_|fail)
 refine T_if rfl (fun h=>?_) (fun h=>?_)
 ·simp only [decide_eq_true_eq] at h
  repeat' (first|refine d1 ?_|(show T _ (.code .ret::_) _ _ _;refine T_retV [] rfl (Hle.refl _) ⟨?_,rfl⟩))
  unfold checkS;rw [if_pos h];rfl
 simp only [decide_eq_false_iff_not] at h
 repeat' (first|refine d1 ?_|(show T _ (.ops _ (_::_)::_) _ _ _;refine T_callE rfl rfl rfl rfl rfl (fun w _=>rightRef_spec s w (by omega)) (fun x _=>?_))|fail)
 refine T_loop (fun k:Nat=>[(0, .string s),(3, .slice (some ⟨x.1,0,none⟩) s.size x.2),(4, .int .i64 k)]) (fun _=>[row 4 1 (some ⟨x.1,0,none⟩) x.2 s.size (rts s s.size)])
  (fun k=>k≤s.size∧∀ j,j<k→okAt s j=true) (fun k=>s.size - k) 0 ⟨by omega,fun j h=>by omega⟩ ⟨rfl,rfl,rfl,trivial⟩ (Hle.refl _) ?_
 rintro k ⟨hk,hok⟩
 repeat' (first|refine d1 ?_|fail)
 refine T_if rfl (fun h1=>?_) (fun h1=>?_)
 ·simp only [decide_eq_true_eq] at h1
  repeat' (first|refine d1 ?_|(show T _ (.ops _ (_::_)::_) _ _ _;refine T_call rfl rfl rfl rfl rfl (fun w hw=>kindRef_spec _ w) ?_)|fail)
  refine T_loadC (v := .bool (rtAt s k)) rfl rfl rfl rfl rfl rfl rfl (fun hg=>rdRow (A:=some ⟨x.1,0,none⟩) (by omega) (get1 ?_)) ?_
  ·rw [show 0+(k:Int).toNat * 1=k by omega]
   exact rts_get (by omega)
  have hst:(decide (kindI (byteAt s (k:Int)).toNat=0) || (decide (kindI (byteAt s (k:Int)).toNat=2) && !rtAt s k)) = !okAt s k:=by
   unfold okAt rtAt kAt
   generalize kindI (byteAt s (k:Int)).toNat=q
   by_cases h0:q=0 <;> by_cases h2:q=2 <;> cases canAt s k <;> simp [h0,h2] <;> omega
  repeat' (first|refine d1 ?_|fail)
  refine T_if rfl (fun h2=>?_) (fun h2=>?_)
  ·rw [hst,Bool.not_eq_true'] at h2
   repeat' (first|refine d1 ?_|(show T _ (.code .ret::_) _ _ _;refine T_retV [] rfl (Hle.none _) ⟨?_,rfl⟩))
   unfold checkS;rw [if_neg h,okAll_false (by omega) h2];rfl
  ·rw [hst,Bool.not_eq_false'] at h2
   repeat' (first|refine d1 ?_|fail)
   refine T_back (k+1) ⟨by omega,fun j hj=>?_⟩ (by omega) ⟨rfl,rfl,rfl,trivial⟩ (Hle.refl _)
   rcases Nat.lt_or_ge j k with h3|h3
   ·exact hok j h3
   ·rw [show j=k by omega];exact h2
 ·simp only [decide_eq_false_iff_not] at h1
  repeat' (first|refine d1 ?_|(show T _ (.code .ret::_) _ _ _;refine T_retV [] rfl (Hle.none _) ⟨?_,rfl⟩))
  unfold checkS;rw [if_neg h,okAll_true (fun j hj=>hok j (by omega))];rfl

theorem isWordRef_spec (s:ByteArray) (w:World):Spec Tryz.prog 93 [.string s] w (fun v A=>v = .bool (isWordB s)∧A=[]):=by
 refine spec_of sg Tryz.func93 rfl rfl rfl ?_
 repeat' (first|refine d1 ?_|(show T _ (.ops _ (_::_)::_) _ _ _;refine T_callC rfl rfl rfl rfl rfl rfl rfl (fun hg w hw=>checkRef_spec s w) ?_)|fail)
 refine T_if rfl (fun h=>?_) (fun h=>?_)
 ·repeat' (first|refine d1 ?_|(show T _ (.code .ret::_) _ _ _;refine T_retV [] rfl (Hle.refl _) ⟨congrArg Value.bool ?_,rfl⟩))
  simp only [Bool.or_eq_true,decide_eq_true_eq,Bool.not_eq_true',decide_eq_false_iff_not] at h
  unfold isWordB
  by_cases h1:1≤s.size∧s.size≤64
  ·have h2:okAll s=false:=by
    cases h3:okAll s with
    | false=>rfl
    | true=>unfold checkS at h;rw [if_neg (by omega),h3] at h;simp at h;omega
   simp [h2]
  ·simp [h1]
 simp only [Bool.or_eq_false_iff,decide_eq_false_iff_not,Bool.not_eq_false',decide_eq_true_eq] at h
 have h1:1≤s.size∧s.size≤64:=by omega
 have h2:okAll s=true:=by
  cases h3:okAll s with
  | true=>rfl
  | false=>have h4:=h.2;unfold checkS at h4;rw [if_neg (by omega),h3] at h4;simp at h4
 repeat' (first|refine d1 ?_|(show T _ (.ops _ (_::_)::_) _ _ _;refine T_call rfl rfl rfl rfl rfl (fun w hw=>kindRef_spec _ w) ?_)|fail)
 refine T_if rfl (fun h3=>?_) (fun h3=>?_)
 ·repeat' (first|refine d1 ?_|(show T _ (.code .ret::_) _ _ _;refine T_retV [] rfl (Hle.refl _) ⟨congrArg Value.bool ?_,rfl⟩))
  have h4:(decide (kAt s 0=1) || decide (kAt s 0=3))=false:=by
   simp only [Bool.and_eq_true,Bool.not_eq_true'] at h3
   rw [Bool.or_eq_false_iff];exact h3
  unfold isWordB
  simp [h4]
 have h4:(decide (kAt s 0=1) || decide (kAt s 0=3))=true:=by
  simp only [Bool.and_eq_false_iff,Bool.not_eq_false'] at h3
  rw [Bool.or_eq_true];exact h3
 repeat' (first|refine d1 ?_|fail)
 refine T_loop (fun k:Nat=>[(0, .string s),(4, .int .i64 k)]) (fun _=>[]) (fun k=>k≤s.size∧∀ j,j<k→kAt s j≤4) (fun k=>s.size - k) 0 ⟨by omega,fun j h=>by omega⟩ ⟨rfl,rfl,trivial⟩ (Hle.refl _) ?_
 rintro k ⟨hk,hok⟩
 repeat' (first|refine d1 ?_|fail)
 refine T_if rfl (fun h5=>?_) (fun h5=>?_)
 ·simp only [decide_eq_true_eq] at h5
  repeat' (first|refine d1 ?_|(show T _ (.ops _ (_::_)::_) _ _ _;refine T_call rfl rfl rfl rfl rfl (fun w hw=>kindRef_spec _ w) ?_)|fail)
  refine T_if rfl (fun h6=>?_) (fun h6=>?_)
  ·simp only [decide_eq_true_eq] at h6
   repeat' (first|refine d1 ?_|(show T _ (.code .ret::_) _ _ _;refine T_retV [] rfl (Hle.refl _) ⟨congrArg Value.bool ?_,rfl⟩))
   have h7:¬ ∀ j,j<s.size→kAt s j≤4:=fun hh=>by have:=hh k (by omega);unfold kAt at this;omega
   unfold isWordB
   simp [h7]
  ·simp only [decide_eq_false_iff_not] at h6
   repeat' (first|refine d1 ?_|fail)
   refine T_back (k+1) ⟨by omega,fun j hj=>?_⟩ (by omega) ⟨rfl,rfl,trivial⟩ (Hle.refl _)
   rcases Nat.lt_or_ge j k with h7|h7
   ·exact hok j h7
   ·rw [show j=k by omega];unfold kAt;omega
 ·simp only [decide_eq_false_iff_not] at h5
  repeat' (first|refine d1 ?_|(show T _ (.code .ret::_) _ _ _;refine T_retV [] rfl (Hle.refl _) ⟨congrArg Value.bool ?_,rfl⟩))
  unfold isWordB
  have h7:∀ j,j<s.size→kAt s j≤4:=fun j hj=>hok j (by omega)
  rw [decide_eq_true h1,h2,h4,decide_eq_true h7];rfl

theorem isNameRef_spec (s:ByteArray) (w:World):Spec Tryz.prog 64 [.string s] w (fun v A=>v = .bool (isNameB s)∧A=[]):=by
 refine spec_of sg Tryz.func64 rfl rfl rfl ?_
 repeat' (first|refine d1 ?_|(show T _ (.ops _ (_::_)::_) _ _ _;first|refine T_callC rfl rfl rfl rfl rfl rfl rfl (fun hg w hw=>isWordRef_spec s w) ?_|refine T_callC rfl rfl rfl rfl rfl rfl rfl (fun hg w hw=>lettersRef_spec s w (by ((simp only [List.cons_append,List.nil_append,GP,dstL,lookE,Nat.beq,cond,List.getElem?_cons_zero,List.getElem?_cons_succ,Option.bind_some,and_true,Bool.and_eq_true,Bool.or_eq_true,Bool.and_eq_false_iff,Bool.or_eq_false_iff,Bool.not_eq_true',Bool.not_eq_false',decide_eq_true_eq,decide_eq_false_iff_not] at hg);omega))) ?_)|(show T _ (.code .ret::_) _ _ _;refine T_retV [] rfl (Hle.refl _) ⟨congrArg Value.bool ?_,rfl⟩))
 unfold isNameB
 rw [Bool.and_assoc]
 congr 1
 simp only [decide_eq_decide];omega

theorem wordlyRef_spec (c:Int) (w:World):Spec Tryz.prog 98 [.int .u8 c] w (fun v A=>v = .bool (wordlyK (kindI c))∧A=[]):=by
 refine spec_of sg Tryz.func98 rfl rfl rfl ?_
 repeat' (first|refine d1 ?_|(show T _ (.ops _ (_::_)::_) _ _ _;refine T_call rfl rfl rfl rfl rfl (fun w hw=>kindRef_spec c w) ?_)|(show T _ (.code .ret::_) _ _ _;refine T_retV [] rfl (Hle.refl _) ⟨rfl,rfl⟩))

theorem namedRef_spec (s:ByteArray) (w:World):Spec Tryz.prog 99 [.string s] w (fun v A=>v = .bool (namedB s)∧A=[]):=by
 refine spec_of sg Tryz.func99 rfl rfl rfl ?_
 repeat' (first|refine d1 ?_|(show T _ (.ops _ (_::_)::_) _ _ _;refine T_callC rfl rfl rfl rfl rfl rfl rfl (fun hg w hw=>isNameRef_spec s w) ?_)|(show T _ (.code .ret::_) _ _ _;refine T_retV [] rfl (Hle.refl _) ⟨rfl,rfl⟩))
end Go.Proofs.YtefieebkankfoaaGreatDoor
namespace Go.Proofs.YtefieebkankfoaaGreatDoor
open Go.RowKit Go.Shelf Go.Proofs
set_option maxRecDepth 100000
set_option maxHeartbeats 1000000

theorem Calls.spec {P:Program} {f:FuncId} {args:List Value} {w:World} {v:Value} (he:Enters P f) (h:Calls P f args.toArray w fun e w'=>e = .returned v∧w'=w):Spec P f args w (fun u A=>u=v∧A=[]) :=
 ⟨he,h.mono fun _ _ ⟨h1,h2⟩=>⟨v,[],h1,⟨rfl,rfl⟩,by rw [h2];exact Below.refl _ _,Sep.nil _ _⟩⟩
theorem itoa_spec (i:Nat) (hi:i<100) (w:World):Spec Tryz.prog 136 [.int .i64 (i:Int)] w (fun v A=>v = .string ⟨(Lib.decDigits i).toArray⟩∧A=[]) :=
 Calls.spec (enters_of rfl rfl rfl) (Tryz.strconv_Itoa_small i hi w)

theorem gappedRef_spec (s:ByteArray) (w:World):Spec Tryz.prog 96 [.string s] w (fun v A=>v = .bool (gappedB s)∧A=[]):=by
 refine spec_of sg Tryz.func96 rfl rfl rfl ?_
 repeat' (first|refine d1 ?_|fail)
 refine T_loop (fun k:Nat=>[(0, .string s),(3, .int .i64 k)]) (fun _=>[]) (fun k=>(1≤k∧k≤65)∧∀ n,1≤n→n<k→s≠gapStr n) (fun k=>65 - k) 1 ⟨by omega,fun n h=>by omega⟩ ⟨rfl,rfl,trivial⟩ (Hle.refl _) ?_
 rintro k ⟨hk,hn⟩
 repeat' (first|refine d1 ?_|fail)
 refine T_if rfl (fun h=>?_) (fun h=>?_)
 ·simp only [decide_eq_true_eq] at h
  have hsz:=decDigits_len k (by omega)
  repeat' (first|refine d1 ?_|(show T _ (.ops _ (_::_)::_) _ _ _;first|refine T_call rfl rfl rfl rfl rfl (fun w hw=>itoa_spec k (by omega) w) ?_|refine T_vc rfl rfl rfl rfl rfl (by simp [ByteArray.size];omega) ?_)|fail)
  refine T_if rfl (fun h2=>?_) (fun h2=>?_)
  ·simp only [decide_eq_true_eq] at h2
   repeat' (first|refine d1 ?_|(show T _ (.code .ret::_) _ _ _;refine T_retV [] rfl (Hle.refl _) ⟨congrArg Value.bool (gappedB_true (by omega) hk.1 h2).symm,rfl⟩))
  ·simp only [decide_eq_false_iff_not] at h2
   repeat' (first|refine d1 ?_|fail)
   refine T_back (k+1) ⟨by omega,fun n h3 h4=>?_⟩ (by omega) ⟨rfl,rfl,trivial⟩ (Hle.refl _)
   rcases Nat.lt_or_ge n k with h5|h5
   ·exact hn n h3 h5
   ·rw [show n=k by omega];exact h2
 ·simp only [decide_eq_false_iff_not] at h
  repeat' (first|refine d1 ?_|(show T _ (.code .ret::_) _ _ _;refine T_retV [] rfl (Hle.refl _) ⟨congrArg Value.bool (gappedB_false (fun n h1 h2=>hn n h2 (by omega))).symm,rfl⟩))

theorem hasRef15_spec (t:Tok) (n:Int) (hn:n=2∨n=8) (h0:0≤t.flags∧t.flags≤31) (w:World):Spec Tryz.prog 95 [t.val, .int .i64 n] w (fun v A=>v = .bool (hasN t.flags n)∧A=[]):=by
 refine spec_of sg Tryz.func95 rfl rfl rfl ?_
 rcases hn with rfl|rfl
 ·repeat' (first|(show T _ (.ops _ (⟨_, .box _ _,_,_,_,_⟩::_)::_) _ _ _;refine T_op (OpT.box (cs:=t.cells) rfl rfl rfl rfl rfl rfl rfl (fun _=>?_)))|refine d1 ?_|(show T _ (.code .ret::_) _ _ _;refine T_retV [] rfl (Hle.none _) ⟨rfl,rfl⟩))
 ·repeat' (first|(show T _ (.ops _ (⟨_, .box _ _,_,_,_,_⟩::_)::_) _ _ _;refine T_op (OpT.box (cs:=t.cells) rfl rfl rfl rfl rfl rfl rfl (fun _=>?_)))|refine d1 ?_|(show T _ (.code .ret::_) _ _ _;refine T_retV [] rfl (Hle.none _) ⟨rfl,rfl⟩))
theorem tokRef_spec (t:Tok) (w:World):Spec Tryz.prog 66 [t.val] w (fun v A=>v = .int .i64 (tokE t)∧A=[]):=by
 refine spec_of sg Tryz.func66 rfl rfl rfl ?_
 repeat' (first|(show T _ (.ops _ (⟨_, .box _ _,_,_,_,_⟩::_)::_) _ _ _;refine T_op (OpT.box (cs:=t.cells) rfl rfl rfl rfl rfl rfl rfl (fun _=>?_)))|refine d1 ?_|fail)
 rename_i b
 refine T_if rfl (fun h=>?_) (fun h=>?_)
 ·repeat' (first|refine d1 ?_|(show T _ (.code .ret::_) _ _ _;refine T_retV [] rfl (Hle.none _) ⟨?_,rfl⟩))
  simp only [Bool.or_eq_true,decide_eq_true_eq] at h
  unfold tokE;rw [if_pos h];rfl
 simp only [Bool.or_eq_false_iff,decide_eq_false_iff_not] at h
 refine T_draw 1000 [blk b t.cells 79] ?_
 refine T_dval 0 rfl (by kernel_rfl) (by kernel_rfl) (by kernel_rfl) (by kernel_rfl) (by kernel_rfl) rfl rfl (by first|exact Val.pure rfl|exact Val.vc rfl (fun hg=>by first|omega|(simp only [inK];omega)|exact True.intro|assumption)|exact Val.load rfl (fun _=>rdOwn1 rfl)|exact Val.loadA rfl (fun _=>rdAll) rfl) rfl rfl rfl (by first|exact Hle.refl _|exact Hle.none _|exact Hle.sub) ?_
 refine T_dval 2 rfl (by kernel_rfl) (by kernel_rfl) (by kernel_rfl) (by kernel_rfl) (by kernel_rfl) rfl rfl (by first|exact Val.pure rfl|exact Val.vc rfl (fun hg=>by first|omega|(simp only [inK];omega)|exact True.intro|assumption)|exact Val.load rfl (fun _=>rdOwn1 rfl)|exact Val.loadA rfl (fun _=>rdAll) rfl) rfl rfl rfl (by first|exact Hle.refl _|exact Hle.none _|exact Hle.sub) ?_
 refine T_dop 1 (by kernel_rfl) rfl (OpT.callV rfl rfl rfl rfl rfl (fun w hw=>hasRef15_spec t 2 (.inl rfl) (by omega) w) ⟨fun _=>(by first|exact Hle.refl _|exact Hle.none _),?_⟩)
 refine T_dop 3 (by kernel_rfl) rfl (OpT.callV rfl rfl rfl rfl rfl (fun w hw=>hasRef15_spec t 8 (.inr rfl) (by omega) w) ⟨fun _=>(by first|exact Hle.refl _|exact Hle.none _),?_⟩)
 refine T_dval 4 rfl (by kernel_rfl) (by kernel_rfl) (by kernel_rfl) (by kernel_rfl) (by kernel_rfl) rfl rfl (by first|exact Val.pure rfl|exact Val.vc rfl (fun hg=>by first|omega|(simp only [inK];omega)|exact True.intro|assumption)|exact Val.load rfl (fun _=>rdOwn1 rfl)|exact Val.loadA rfl (fun _=>rdAll) rfl) rfl rfl rfl (by first|exact Hle.refl _|exact Hle.none _|exact Hle.sub) ?_
 refine T_dval 5 rfl (by kernel_rfl) (by kernel_rfl) (by kernel_rfl) (by kernel_rfl) (by kernel_rfl) rfl rfl (by first|exact Val.pure rfl|exact Val.vc rfl (fun hg=>by first|omega|(simp only [inK];omega)|exact True.intro|assumption)|exact Val.load rfl (fun _=>rdOwn1 rfl)|exact Val.loadA rfl (fun _=>rdAll) rfl) rfl rfl rfl (by first|exact Hle.refl _|exact Hle.none _|exact Hle.sub) ?_
 refine T_dend (by kernel_rfl) ?_
 have e1:¬ (t.flags<0∨31<t.flags):=by omega
 repeat' (first|refine d1 ?_|fail)
 refine T_if rfl (fun h2=>?_) (fun h2=>?_)
 ·repeat' (first|refine d1 ?_|(show T _ (.code .ret::_) _ _ _;refine T_retV [] rfl (Hle.none _) ⟨?_,rfl⟩))
  unfold tokE;rw [if_neg e1,if_pos h2];rfl
 have e2:¬ ((hasN t.flags 2 && hasN t.flags 8)=true):=by rw [h2];simp
 show T _ [_,_,_,_] _ _ _
 refine T_cutAt 3 (fun _:Unit=>[(1, .pointer (some ⟨b,0,none⟩))]) (fun _=>[blk b t.cells 79]) (fun _=>formBad t=false) rfl ?_ ?_
 ·have done:formBad t=true→tokE t=11:=fun hb=>by unfold tokE;rw [if_neg e1,if_neg e2,if_pos hb]
  repeat' (first|refine d1 ?_|fail)
  refine T_if rfl (fun h3=>?_) (fun h3=>?_)
  ·repeat' (first|refine d1 ?_|(show T _ (.ops _ (_::_)::_) _ _ _;refine T_call rfl rfl rfl rfl rfl (fun w hw=>gappedRef_spec _ w) ?_)|fail)
   have hfb:formBad t=(!gappedB t.text || !decide (t.norm=t.text)):=by unfold formBad;rw [if_pos h3]
   refine T_if rfl (fun h4=>?_) (fun h4=>?_)
   ·repeat' (first|refine d1 ?_|(show T _ (.code .ret::_) _ _ _;refine T_retV [] rfl (Hle.none _) ⟨congrArg (Value.int .i64) (done (hfb.trans h4)).symm,rfl⟩))
   ·repeat' (first|(show T _ _ _ _ _;refine T_meet () (hfb.trans h4) ⟨rfl,trivial⟩ (Hle.refl _)))
  ·have e3:¬ hasN t.flags 2=true:=by rw [h3];simp
   repeat' (first|refine d1 ?_|fail)
   refine T_if rfl (fun h4=>?_) (fun h4=>?_)
   ·repeat' (first|refine d1 ?_|(show T _ (.ops _ (_::_)::_) _ _ _;refine T_callC rfl rfl rfl rfl rfl rfl rfl (fun hg w hw=>kindRef_spec _ w) ?_)|fail)
    have hfb:formBad t=(!decide ((t.text.size:Int)=1) || (!decide (kAt t.text 0=5) && !decide (kAt t.text 0=4)) || !decide (t.norm=t.text)):=by unfold formBad;rw [if_neg e3,if_pos h4]
    refine T_if rfl (fun h5=>?_) (fun h5=>?_)
    ·repeat' (first|refine d1 ?_|(show T _ (.code .ret::_) _ _ _;refine T_retV [] rfl (Hle.none _) ⟨congrArg (Value.int .i64) (done (hfb.trans h5)).symm,rfl⟩))
    ·repeat' (first|(show T _ _ _ _ _;refine T_meet () (hfb.trans h5) ⟨rfl,trivial⟩ (Hle.refl _)))
   ·have e4:¬ hasN t.flags 8=true:=by rw [h4];simp
    have hfb:formBad t=(!isWordB t.text || decide (t.norm=ByteArray.mk #[]) || decide ((64:Int)<t.norm.size) || !normB t.norm):=by unfold formBad;rw [if_neg e3,if_neg e4]
    repeat' (first|refine d1 ?_|(show T _ (.ops _ (_::_)::_) _ _ _;refine T_call rfl rfl rfl rfl rfl (fun w hw=>isWordRef_spec _ w) ?_)|fail)
    refine T_if rfl (fun h5=>?_) (fun h5=>?_)
    ·repeat' (first|refine d1 ?_|(show T _ (.code .ret::_) _ _ _;refine T_retV [] rfl (Hle.none _) ⟨congrArg (Value.int .i64) (done (hfb.trans ?_)).symm,rfl⟩))
     rw [show (!isWordB t.text || decide (t.norm=ByteArray.mk #[]) || decide ((64:Int)<t.norm.size))=true from h5];rfl
    have h6:t.norm.size≤64:=by
     simp only [Bool.or_eq_false_iff,decide_eq_false_iff_not] at h5
     have:=h5.2
     omega
    repeat' (first|refine d1 ?_|fail)
    refine T_loop (fun k:Nat=>[(1, .pointer (some ⟨b,0,none⟩)),(5, .int .i64 k)]) (fun _=>[blk b t.cells 79]) (fun k=>k≤t.norm.size∧∀ j,j<k→wordlyK (kAt t.norm j)=true) (fun k=>t.norm.size - k) 0 ⟨by omega,fun j h=>by omega⟩ ⟨rfl,rfl,trivial⟩ (Hle.refl _) ?_
    rintro k ⟨hk,hok⟩
    repeat' (first|refine d1 ?_|fail)
    refine T_if rfl (fun h7=>?_) (fun h7=>?_)
    ·simp only [decide_eq_true_eq] at h7
     repeat' (first|refine d1 ?_|(show T _ (.ops _ (_::_)::_) _ _ _;refine T_call rfl rfl rfl rfl rfl (fun w hw=>wordlyRef_spec _ w) ?_)|fail)
     refine T_if rfl (fun h8=>?_) (fun h8=>?_)
     ·repeat' (first|refine d1 ?_|(show T _ (.code .ret::_) _ _ _;refine T_retV [] rfl (Hle.none _) ⟨congrArg (Value.int .i64) (done (hfb.trans ?_)).symm,rfl⟩))
      rw [Bool.not_eq_true'] at h8
      have:normB t.norm=false:=by
       unfold normB
       rw [decide_eq_false_iff_not]
       intro hh
       have h9:=hh k (by omega)
       unfold kAt at h9
       rw [h8] at h9;cases h9
      rw [this];simp
     ·rw [Bool.not_eq_false'] at h8
      repeat' (first|refine d1 ?_|fail)
      refine T_back (k+1) ⟨by omega,fun j hj=>?_⟩ (by omega) ⟨rfl,rfl,trivial⟩ (Hle.refl _)
      rcases Nat.lt_or_ge j k with h9|h9
      ·exact hok j h9
      ·rw [show j=k by omega];exact h8
    ·simp only [decide_eq_false_iff_not] at h7
     have h8:normB t.norm=true:=decide_eq_true (fun j hj=>hok j (by omega))
     repeat' (first|(show T _ _ _ _ _;refine T_meet () (hfb.trans ?_) ⟨rfl,trivial⟩ (Hle.refl _)))
     rw [show (!isWordB t.text || decide (t.norm=ByteArray.mk #[]) || decide ((64:Int)<t.norm.size))=false from h5,h8];rfl
 ·rintro⟨⟩ hfb
  have e3:¬ formBad t=true:=by rw [hfb];simp
  repeat' (first|refine d1 ?_|fail)
  refine T_if rfl (fun h3=>?_) (fun h3=>?_)
  ·repeat' (first|refine d1 ?_|(show T _ (.code .ret::_) _ _ _;refine T_retV [] rfl (Hle.none _) ⟨?_,rfl⟩))
   simp only [decide_eq_true_eq] at h3
   unfold tokE;rw [if_neg e1,if_neg e2,if_neg e3,if_pos h3];rfl
  simp only [decide_eq_false_iff_not] at h3
  repeat' (first|refine d1 ?_|(show T _ (.ops _ (_::_)::_) _ _ _;first|refine T_call rfl rfl rfl rfl rfl (fun w hw=>namedRef_spec _ w) ?_|refine T_callC rfl rfl rfl rfl rfl rfl rfl (fun hg w hw=>namedRef_spec _ w) ?_)|fail)
  refine T_if rfl (fun h4=>?_) (fun h4=>?_)
  ·repeat' (first|refine d1 ?_|(show T _ (.code .ret::_) _ _ _;refine T_retV [] rfl (Hle.none _) ⟨?_,rfl⟩))
   unfold tokE;rw [if_neg e1,if_neg e2,if_neg e3,if_neg h3,if_pos h4];rfl
  ·repeat' (first|refine d1 ?_|(show T _ (.code .ret::_) _ _ _;refine T_retV [] rfl (Hle.none _) ⟨?_,rfl⟩))
   unfold tokE;rw [if_neg e1,if_neg e2,if_neg e3,if_neg h3,if_neg (by rw [h4];simp)];rfl
end Go.Proofs.YtefieebkankfoaaGreatDoor
namespace Go.Proofs.YtefieebkankfoaaGreatDoor
open Go.RowKit Go.Shelf Go.Proofs
set_option maxRecDepth 100000
set_option maxHeartbeats 1000000

theorem indexByte_spec (s:ByteArray) (c:Int) (w:World):Spec Tryz.prog 164 [.string s, .int .u8 c] w (fun v A=>v = .int .i64 (Lib.indexByte s.data.toList c.toNat.toUInt8)∧A=[]) :=
 Calls.spec (enters_of rfl rfl rfl) (Tryz.strings_IndexByte s c w)

theorem kindPrg_spec (c:Int) (hc:0≤c∧c≤255) (w:World):Spec Tryz.prog 137 [.int .u8 c] w (fun v A=>v = .int .i64 (kindI c)∧A=[]):=by
 refine spec_of sg Tryz.func137 rfl rfl rfl ?_
 have hp:=punct_all c.toNat (by omega)
 repeat' (first|refine d1 ?_|(show T _ (.ops _ (_::_)::_) _ _ _;refine T_callC rfl rfl rfl rfl rfl rfl rfl (fun hg w hw=>indexByte_spec _ _ w) ?_)|(show T _ (.code (.cond _ _ _)::_) _ _ _;refine T_if rfl (fun h=>?_) (fun h=>?_))|(show T _ (.code .ret::_) _ _ _;refine T_retV [] rfl (Hle.refl _) ?_))
 all_goals refine ⟨congrArg (Value.int .i64) ?_,rfl⟩
 all_goals unfold punctL at hp
 all_goals simp only [Bool.or_eq_true,Bool.and_eq_true,decide_eq_true_eq,Bool.or_eq_false_iff,Bool.and_eq_false_iff,decide_eq_false_iff_not,Bool.not_eq_true',Bool.not_eq_false'] at *
 all_goals (generalize Lib.indexByte [46,44,59,58,33,63,40,41,45] c.toNat.toUInt8=q at *;unfold kindI;(repeat' split) <;> omega)
theorem byteAt_bd (s:ByteArray) (i:Int):0≤((byteAt s i).toNat:Int)∧((byteAt s i).toNat:Int)≤255:=by
 have:=(byteAt s i).toNat_lt
 omega

theorem lettersPrg_spec (s:ByteArray) (w:World) (hs:s.size≤9223372036854775807):Spec Tryz.prog 101 [.string s] w (fun v A=>v = .int .i64 (lettersN s.data.toList)∧A=[]):=by
 refine spec_of sg Tryz.func101 rfl rfl rfl ?_
 repeat' (first|refine d1 ?_|fail)
 refine T_loop (fun k:Nat=>[(0, .string s),(7, .int .i64 s.size),(3, .int .i64 (lettersN (s.data.toList.take k))),(8, .int .i64 k)]) (fun _=>[]) (fun k=>k≤s.size) (fun k=>s.size - k) 0 (by omega) ⟨rfl,rfl,rfl,rfl,trivial⟩ (Hle.refl _) ?_
 intro k hk
 repeat' (first|refine d1 ?_|fail)
 refine T_if rfl (fun h=>?_) (fun h=>?_)
 ·simp only [decide_eq_true_eq] at h
  have hl:=lettersN_le (s.data.toList.take k)
  have hl2:(s.data.toList.take k).length≤k:=by rw [List.length_take];omega
  have hst:=lettersN_take s k (by omega)
  repeat' (first|refine d1 ?_|(show T _ (.ops _ (_::_)::_) _ _ _;refine T_call rfl rfl rfl rfl rfl (fun w hw=>kindPrg_spec _ (byteAt_bd _ _) w) ?_)|(show T _ (.code (.cond _ _ _)::_) _ _ _;refine T_if rfl (fun h=>?_) (fun h=>?_))|(show T _ _ _ _ _;refine T_back (k+1) (by omega) (by omega) ⟨rfl,rfl,?_,rfl,trivial⟩ (Hle.refl _)))
  all_goals (refine congrArg (fun z:Int=>some (Value.int .i64 z)) ?_;simp only [Bool.or_eq_true,Bool.or_eq_false_iff,decide_eq_true_eq,decide_eq_false_iff_not] at h;rw [hst];unfold kAt;split <;> omega)
 ·simp only [decide_eq_false_iff_not] at h
  have hk2:k=s.size:=by omega
  subst hk2
  repeat' (first|refine d1 ?_|(show T _ (.code .ret::_) _ _ _;refine T_retV [] rfl (Hle.refl _) ⟨?_,rfl⟩))
  rw [List.take_of_length_le (by simp)]
  rfl
theorem isNamePrg_spec (s:ByteArray) (hs:s.size≤9223372036854775807) (w:World):Spec Tryz.prog 69 [.string s] w (fun v A=>v = .bool (isNameB s)∧A=[]):=by
 refine spec_of sg Tryz.func69 rfl rfl rfl ?_
 repeat' (first|refine d1 ?_|(show T _ (.ops _ (_::_)::_) _ _ _;refine T_callC rfl rfl rfl rfl rfl rfl rfl (fun hg w hw=>lettersPrg_spec s w hs) ?_)|(show T _ (.code .ret::_) _ _ _;refine T_retV [] rfl (Hle.refl _) ⟨congrArg Value.bool ?_,rfl⟩))
 exact name_law s
theorem namedPrg_spec (s:ByteArray) (hs:s.size≤9223372036854775807) (w:World):Spec Tryz.prog 110 [.string s] w (fun v A=>v = .bool (namedB s)∧A=[]):=by
 refine spec_of sg Tryz.func110 rfl rfl rfl ?_
 repeat' (first|refine d1 ?_|(show T _ (.ops _ (_::_)::_) _ _ _;refine T_callC rfl rfl rfl rfl rfl rfl rfl (fun hg w hw=>isNamePrg_spec s hs w) ?_)|(show T _ (.code .ret::_) _ _ _;refine T_retV [] rfl (Hle.refl _) ⟨rfl,rfl⟩))
theorem beginsPrg_spec (c:Int) (hc:0≤c∧c≤255) (w:World):Spec Tryz.prog 170 [.int .u8 c] w (fun v A=>v = .bool (beginsK (kindI c))∧A=[]):=by
 refine spec_of sg Tryz.func170 rfl rfl rfl ?_
 repeat' (first|refine d1 ?_|(show T _ (.ops _ (_::_)::_) _ _ _;refine T_call rfl rfl rfl rfl rfl (fun w hw=>kindPrg_spec c hc w) ?_)|(show T _ (.code .ret::_) _ _ _;refine T_retV [] rfl (Hle.refl _) ⟨rfl,rfl⟩))
theorem innerPrg_spec (c:Int) (hc:0≤c∧c≤255) (w:World):Spec Tryz.prog 143 [.int .u8 c] w (fun v A=>v = .bool (wordlyK (kindI c))∧A=[]):=by
 refine spec_of sg Tryz.func143 rfl rfl rfl ?_
 repeat' (first|refine d1 ?_|(show T _ (.ops _ (_::_)::_) _ _ _;first|refine T_call rfl rfl rfl rfl rfl (fun w hw=>kindPrg_spec c hc w) ?_|refine T_call rfl rfl rfl rfl rfl (fun w hw=>beginsPrg_spec c hc w) ?_)|(show T _ (.code .ret::_) _ _ _;refine T_retV [] rfl (Hle.refl _) ⟨congrArg Value.bool (inner_law (kindI c)),rfl⟩))
theorem markPrg_spec (s:ByteArray) (w:World):Spec Tryz.prog 107 [.string s] w (fun v A=>v = .bool (decide ((s.size:Int)=1) && (decide (kAt s 0=5) || decide (kAt s 0=4)))∧A=[]):=by
 refine spec_of sg Tryz.func107 rfl rfl rfl ?_
 repeat' (first|refine d1 ?_|fail)
 refine T_if rfl (fun h=>?_) (fun h=>?_)
 ·repeat' (first|refine d1 ?_|(show T _ (.code .ret::_) _ _ _;refine T_retV [] rfl (Hle.refl _) ⟨congrArg Value.bool ?_,rfl⟩))
  rw [Bool.not_eq_true'] at h
  rw [h];rfl
 ·rw [Bool.not_eq_false'] at h
  have h1:(s.size:Int)=1:=by simpa using h
  repeat' (first|refine d1 ?_|(show T _ (.ops _ (_::_)::_) _ _ _;refine T_call rfl rfl rfl rfl rfl (fun w hw=>kindPrg_spec _ (byteAt_bd _ _) w) ?_)|(show T _ (.code .ret::_) _ _ _;refine T_retV [] rfl (Hle.refl _) ⟨congrArg Value.bool ?_,rfl⟩))
  rw [h];rfl
theorem normPrg_spec (s:ByteArray) (hs:s.size≤9223372036854775807) (w:World):Spec Tryz.prog 109 [.string s] w (fun v A=>v = .bool (normB s && (!decide (s=ByteArray.mk #[]) && decide ((s.size:Int)≤64)))∧A=[]):=by
 refine spec_of sg Tryz.func109 rfl rfl rfl ?_
 repeat' (first|refine d1 ?_|fail)
 refine T_loop (fun k:Nat=>[(0, .string s),(5, .int .i64 s.size),(6, .int .i64 k)]) (fun _=>[]) (fun k=>k≤s.size∧∀ j,j<k→wordlyK (kAt s j)=true) (fun k=>s.size - k) 0 ⟨by omega,fun j h=>by omega⟩ ⟨rfl,rfl,rfl,trivial⟩ (Hle.refl _) ?_
 rintro k ⟨hk,hok⟩
 repeat' (first|refine d1 ?_|fail)
 refine T_if rfl (fun h=>?_) (fun h=>?_)
 ·simp only [decide_eq_true_eq] at h
  repeat' (first|refine d1 ?_|(show T _ (.ops _ (_::_)::_) _ _ _;refine T_call rfl rfl rfl rfl rfl (fun w hw=>innerPrg_spec _ (byteAt_bd _ _) w) ?_)|fail)
  refine T_if rfl (fun h8=>?_) (fun h8=>?_)
  ·repeat' (first|refine d1 ?_|(show T _ (.code .ret::_) _ _ _;refine T_retV [] rfl (Hle.refl _) ⟨congrArg Value.bool ?_,rfl⟩))
   rw [Bool.not_eq_true'] at h8
   have:normB s=false:=by
    unfold normB
    rw [decide_eq_false_iff_not]
    intro hh
    have h9:=hh k (by omega)
    unfold kAt at h9
    rw [h8] at h9;cases h9
   rw [this];rfl
  ·rw [Bool.not_eq_false'] at h8
   repeat' (first|refine d1 ?_|fail)
   refine T_back (k+1) ⟨by omega,fun j hj=>?_⟩ (by omega) ⟨rfl,rfl,rfl,trivial⟩ (Hle.refl _)
   rcases Nat.lt_or_ge j k with h9|h9
   ·exact hok j h9
   ·rw [show j=k by omega];exact h8
 ·simp only [decide_eq_false_iff_not] at h
  have h8:normB s=true:=decide_eq_true (fun j hj=>hok j (by omega))
  repeat' (first|refine d1 ?_|(show T _ (.code .ret::_) _ _ _;refine T_retV [] rfl (Hle.refl _) ⟨congrArg Value.bool ?_,rfl⟩))
  rw [h8];rfl
theorem isWordTok_spec (t:Tok) (h0:0≤t.flags∧t.flags≤31) (w:World):Spec Tryz.prog 108 [t.val] w (fun v A=>v = .bool (!hasN t.flags 2 && !hasN t.flags 8)∧A=[]):=by
 refine spec_of sg Tryz.func108 rfl rfl rfl ?_
 repeat' (first|(show T _ (.ops _ (⟨_, .box _ _,_,_,_,_⟩::_)::_) _ _ _;refine T_op (OpT.box (cs:=t.cells) rfl rfl rfl rfl rfl rfl rfl (fun _=>?_)))|refine d1 ?_|(show T _ (.code .ret::_) _ _ _;refine T_retV [] rfl (Hle.none _) ⟨congrArg Value.bool ?_,rfl⟩))
 exact (flags_law t.flags h0).2.2
theorem rightPrg_spec (s:ByteArray) (f i:Int) (hf:0≤f∧f<s.size) (w:World):Spec Tryz.prog 192 [.string s, .int .i64 f, .int .i64 i] w (fun v A=>v = .bool (decide (kindI (byteAt s f).toNat=1) && decide (f<i))∧A=[]):=by
 refine spec_of sg Tryz.func192 rfl rfl rfl ?_
 repeat' (first|refine d1 ?_|(show T _ (.ops _ (_::_)::_) _ _ _;refine T_call rfl rfl rfl rfl rfl (fun w hw=>kindPrg_spec _ (byteAt_bd _ _) w) ?_)|(show T _ (.code .ret::_) _ _ _;refine T_retV [] rfl (Hle.refl _) ⟨rfl,rfl⟩))

def Std (w : World) : Prop := ∃ tp p tq q, w.var? Tryz.prog "strconv.ErrSyntax" = some #[.iface tp p] ∧ w.var? Tryz.prog "strconv.ErrRange" = some #[.iface tq q]
theorem var_below {P:Program} {w w':World} {n:String} {cs:Array Value} (hb:Below w.heap.size w w') (h:w.var? P n=some cs):w'.var? P n=some cs:=by
 unfold World.var? at h ⊢
 cases hg:P.globalNamed n with
 | none=>rw [hg] at h;cases h
 | some g =>
  rw [hg] at h
  simp only [Option.bind_some] at h ⊢
  cases ho:w.heap[g]? with
  | none=>rw [ho] at h;cases h
  | some o =>
   rw [hb.block g (lt_of_heap ho)]
   exact h
theorem Std.below {w w':World} (h:Std w) (hb:Below w.heap.size w w'):Std w':=by
 obtain⟨tp,p,tq,q,h1,h2⟩:=h
 exact⟨tp,p,tq,q,var_below hb h1,var_below hb h2⟩
theorem Std.cls {w0 w:World} {H:List HA} (h:Std w0) (hw:Cls w0 w H):Std w:=h.below hw.below
theorem atoi_spec (s:ByteArray) (hs:s.size≤281474976710656) (w:World) (hw:Std w):Spec Tryz.prog 142 [.string s] w (fun v A =>
  (∃ n,Lib.atoiAll s.data.toList = .ok n∧v = .tuple #[.int .i64 n, .nilIface])∧A=[]∨(∀ n,Lib.atoiAll s.data.toList ≠ .ok n)∧(∃ n tp p,v = .tuple #[.int .i64 n, .iface tp p])∧A=[]):=by
 refine ⟨enters_of rfl rfl rfl,?_⟩
 obtain⟨tp,p,tq,q,h1,h2⟩:=hw
 cases h:Lib.atoiAll s.data.toList
 ·rename_i n
  refine (Tryz.strconv_Atoi_ok s (by omega) n h w).mono ?_
  rintro e w' ⟨rfl,hw'⟩
  refine ⟨_,[],rfl, .inl ⟨⟨n,rfl,rfl⟩,rfl⟩,?_,Sep.nil _ _⟩
  rcases hw' with rfl|⟨t,rfl⟩
  ·exact Below.refl _ _
  ·exact Lib.bytesWorld_below _ _ _
 ·refine (Tryz.strconv_Atoi_syntax_var s hs h tp p w h1).mono ?_
  rintro e w' ⟨N,rfl,_,_,hb⟩
  exact⟨_,[],rfl, .inr ⟨fun n hn=>(by cases hn),⟨_,_,_,rfl⟩,rfl⟩,hb,Sep.nil _ _⟩
 ·refine (Tryz.strconv_Atoi_range_var s hs h tq q w h2).mono ?_
  rintro e w' ⟨N,rfl,_,_,hb⟩
  exact⟨_,[],rfl, .inr ⟨fun n hn=>(by cases hn),⟨_,_,_,rfl⟩,rfl⟩,hb,Sep.nil _ _⟩
end Go.Proofs.YtefieebkankfoaaGreatDoor
namespace Go.Proofs.YtefieebkankfoaaGreatDoor
open Go.RowKit Go.Shelf Go.Proofs
set_option maxRecDepth 100000
set_option maxHeartbeats 1000000

theorem itoa_spec' (n:Int) (h:1≤n∧n≤64) (w:World):Spec Tryz.prog 136 [.int .i64 n] w (fun v A=>v = .string ⟨(Lib.decDigits n.toNat).toArray⟩∧A=[]):=by
 have:=itoa_spec n.toNat (by omega) w
 rwa [Int.toNat_of_nonneg (by omega)] at this
theorem gapPrg_spec (s:ByteArray) (hs:s.size≤65536) (w:World) (hw:Std w):Spec Tryz.prog 106 [.string s] w (fun v A=>v = .bool (gappedB s)∧A=[]):=by
 refine spec_of sg Tryz.func106 rfl rfl rfl ?_
 repeat' (first|refine d1 ?_|fail)
 refine T_if rfl (fun h=>?_) (fun h=>?_)
 ·repeat' (first|refine d1 ?_|(show T _ (.code .ret::_) _ _ _;refine T_retV [] rfl (Hle.refl _) ⟨congrArg Value.bool ?_,rfl⟩))
  cases hg:gappedB s with
  | false=>rfl
  | true =>
   obtain⟨h1,h2,h3⟩:=gap_frame hg
   simp only [Bool.or_eq_true,decide_eq_true_eq,Bool.not_eq_true',decide_eq_false_iff_not] at h
   omega
 simp only [Bool.or_eq_false_iff,decide_eq_false_iff_not,Bool.not_eq_false',decide_eq_true_eq] at h
 have hsz:(s.extract (1:Int).toNat ((s.size:Int) - 1).toNat).size≤65536:=by
  rw [ByteArray.size_extract];omega
 have hin:s.extract (1:Int).toNat ((s.size:Int) - 1).toNat=gapInner s:=by
  unfold gapInner
  congr 1
  omega
 repeat' (first|refine d1 ?_|fail)
 rw [hin] at hsz ⊢
 refine T_op (OpT.call rfl rfl rfl rfl rfl (fun w hc=>atoi_spec (gapInner s) (by omega) w (hw.cls hc)) ?_)
 rintro v A (⟨⟨n,hn,rfl⟩,rfl⟩|⟨hn,⟨n,tp,p,rfl⟩,rfl⟩)
 ·have hlaw:=gap_ok hn
  have hd:=decDigits_len n.toNat
  repeat' (first|refine d1 ?_|(show T _ (.ops _ (_::_)::_) _ _ _;first|refine T_val rfl (Val.nilq rfl) rfl rfl rfl ?_|refine T_callC rfl rfl rfl rfl rfl rfl rfl (fun hg w hw=>itoa_spec' n (by ((simp only [List.cons_append,List.nil_append,GP,dstL,lookE,Nat.beq,cond,List.getElem?_cons_zero,List.getElem?_cons_succ,Option.bind_some,and_true,Bool.and_eq_true,Bool.or_eq_true,Bool.and_eq_false_iff,Bool.or_eq_false_iff,Bool.not_eq_true',Bool.not_eq_false',decide_eq_true_eq,decide_eq_false_iff_not] at hg);omega)) w) ?_|refine T_vcC rfl rfl rfl rfl rfl rfl rfl (fun hg=>by ((simp only [List.cons_append,List.nil_append,GP,dstL,lookE,Nat.beq,cond,List.getElem?_cons_zero,List.getElem?_cons_succ,Option.bind_some,and_true,Bool.and_eq_true,Bool.or_eq_true,Bool.and_eq_false_iff,Bool.or_eq_false_iff,Bool.not_eq_true',Bool.not_eq_false',decide_eq_true_eq,decide_eq_false_iff_not] at hg);simp [ByteArray.size];omega)) ?_)|(show T _ (.code .ret::_) _ _ _;refine T_retV [] rfl (Hle.none _) ⟨congrArg Value.bool ?_,rfl⟩))
  rw [← hlaw,Bool.true_and];rfl
 ·have hlaw:=gap_no hn
  have hd:=decDigits_len n.toNat
  repeat' (first|refine d1 ?_|(show T _ (.ops _ (_::_)::_) _ _ _;first|refine T_val rfl (Val.nilq rfl) rfl rfl rfl ?_|refine T_callC rfl rfl rfl rfl rfl rfl rfl (fun hg w hw=>itoa_spec' n (by ((simp only [List.cons_append,List.nil_append,GP,dstL,lookE,Nat.beq,cond,List.getElem?_cons_zero,List.getElem?_cons_succ,Option.bind_some,and_true,Bool.and_eq_true,Bool.or_eq_true,Bool.and_eq_false_iff,Bool.or_eq_false_iff,Bool.not_eq_true',Bool.not_eq_false',decide_eq_true_eq,decide_eq_false_iff_not] at hg);omega)) w) ?_|refine T_vcC rfl rfl rfl rfl rfl rfl rfl (fun hg=>by ((simp only [List.cons_append,List.nil_append,GP,dstL,lookE,Nat.beq,cond,List.getElem?_cons_zero,List.getElem?_cons_succ,Option.bind_some,and_true,Bool.and_eq_true,Bool.or_eq_true,Bool.and_eq_false_iff,Bool.or_eq_false_iff,Bool.not_eq_true',Bool.not_eq_false',decide_eq_true_eq,decide_eq_false_iff_not] at hg);simp [ByteArray.size];omega)) ?_)|(show T _ (.code .ret::_) _ _ _;refine T_retV [] rfl (Hle.none _) ⟨congrArg Value.bool ?_,rfl⟩))
  rw [hlaw,Bool.false_and,Bool.false_and];rfl

theorem clusters_spec (s:ByteArray) (w:World):Spec Tryz.prog 166 [.string s] w (fun v A=>∃ b:Nat,True∧v = .func (.func 191) #[] #[.pointer (some ⟨b,0,none⟩)]∧A=[blk b [.string s] 9]):=by
 refine spec_of sg Tryz.func166 rfl rfl rfl ?_
 repeat' (first|(show T _ (.ops _ (⟨_, .box _ _,_,_,_,_⟩::_)::_) _ _ _;refine T_op (OpT.box (cs:=[.string s]) rfl rfl rfl rfl rfl rfl rfl (fun _=>?_)))|refine d1 ?_|(show T _ (.code .ret::_) _ _ _;refine T_retV _ rfl (Hle.refl _) ⟨_,trivial,rfl,rfl⟩))
theorem clusters_iter (s:ByteArray) (b:Nat) (hs:s.size≤65536):Iter Tryz.prog 191 [] [.pointer (some ⟨b,0,none⟩)] [blk b [.string s] 9] (clusterVs s):=by
 refine iter_of sg Tryz.func191 rfl rfl rfl ?_
 intro w0 l GQ X Hj hY h0
 show T _ _ _ _ (blk b [.string s] 9::Hj)
 repeat' (first|refine d1 ?_|fail)
 refine T_loop (fun x:Nat × List HA=>[(0,yv l),(1, .pointer (some ⟨b,0,none⟩)),(3, .int .i64 ((stp s x.1).1:Nat)),(4, .int .i64 ((x.1:Int)+1))]) (fun x=>blk b [.string s] 9::x.2) (fun x=>x.1≤s.size∧GQ (stp s x.1).2.length x.2) (fun x=>s.size - x.1) (0,Hj) ⟨Nat.zero_le _,h0⟩ ⟨rfl,rfl,rfl,rfl,trivial⟩ (Hle.refl _) ?_
 rintro⟨m,H'⟩ ⟨hm,hG⟩
 have hle:=stp_le s m
 dsimp only at hm hG ⊢
 repeat' (first|refine d1 ?_|fail)
 refine T_if rfl (fun h=>?_) (fun h=>?_)
 ·simp only [decide_eq_true_eq] at h
  repeat' (first|refine d1 ?_|(show T _ (.ops _ (_::_)::_) _ _ _;first|refine T_callC rfl rfl rfl rfl rfl rfl rfl (fun hg w hw=>kindPrg_spec _ (byteAt_bd _ _) w) ?_|refine T_callC rfl rfl rfl rfl rfl rfl rfl (fun hg w hw=>rightPrg_spec _ _ _ (by ((simp only [List.cons_append,List.nil_append,GP,dstL,lookE,Nat.beq,cond,List.getElem?_cons_zero,List.getElem?_cons_succ,Option.bind_some,and_true,Bool.and_eq_true,Bool.or_eq_true,Bool.and_eq_false_iff,Bool.or_eq_false_iff,Bool.not_eq_true',Bool.not_eq_false',decide_eq_true_eq,decide_eq_false_iff_not] at hg);omega)) w) ?_)|fail)
  refine T_if rfl (fun h1=>?_) (fun h1=>?_)
  ·simp only [Bool.and_eq_true,decide_eq_true_eq] at h1
   have hst:=stp_same s m ⟨by omega,h1.1.2,h1.2.1,by omega⟩
   repeat' (first|refine d1 ?_|fail)
   refine T_back (m+1,H') ⟨by dsimp only;omega,by dsimp only;rw [hst];exact hG⟩ (by dsimp only;omega) ⟨rfl,rfl,?_,rfl,trivial⟩ (Hle.refl _)
   dsimp only
   rw [hst];rfl
  ·have hno:¬ (m+1<s.size∧kAt s (m+1)=2∧kAt s (stp s m).1=1∧(stp s m).1<m+1):=by
    rintro⟨g1,g2,g3,g4⟩
    have:(decide ((m:Int)+1<s.size) && decide (kAt s (m+1)=2) && (decide (kAt s (stp s m).1=1) && decide (((stp s m).1:Int)<(m:Int)+1)))=true:=by
     simp only [Bool.and_eq_true,decide_eq_true_eq]
     exact⟨⟨by omega,g2⟩,g3,by omega⟩
    exact absurd (this.symm.trans h1) (by simp)
   obtain⟨hy,hst⟩:=stp_yield s m (by omega) hno
   repeat' (first|refine d1 ?_|fail)
   refine T_yield (K:=[blk b [.string s] 9]) hY rfl rfl rfl rfl hy hG (Hle.comm [_] H') (fun J=>Hle.comm J [_]) (fun H2 hG2=>?_) (fun Y hX=>?_)
   ·show T _ _ _ _ (blk b [.string s] 9::H2)
    repeat' (first|refine d1 ?_|(show T _ (.code (.cond _ _ _)::_) _ _ _;refine T_if rfl (fun h=>?_) (fun h=>?_)))
    ·exact absurd h (by decide)
    ·refine T_back (m+1,H2) ⟨by dsimp only;omega,?_⟩ (by dsimp only;omega) ⟨rfl,rfl,?_,rfl,trivial⟩ (Hle.refl _)
     ·dsimp only
      rw [hst]
      simpa using hG2
     ·dsimp only
      rw [hst];rfl
   ·show T _ _ _ _ (blk b [.string s] 9::Y)
    repeat' (first|refine d1 ?_|(show T _ (.code (.cond _ _ _)::_) _ _ _;refine T_if rfl (fun h=>?_) (fun h=>?_))|(show T _ (.code .ret::_) _ _ _;refine T_istop rfl Y hX (Hle.refl _)))
    exact absurd h (by decide)
 ·simp only [decide_eq_false_iff_not] at h
  have hm2:m=s.size:=by omega
  subst hm2
  have hlen:(clusterVs s).length=(stp s s.size).2.length:=by simp [clusterVs]
  skip
  refine T_ifall rfl H' ?_ (Hle.refl _)
  rw [hlen];exact hG

theorem checkPrg_spec (s:ByteArray) (w:World):Spec Tryz.prog 139 [.string s] w (fun v A=>v = .int .i64 (checkS s)∧A=[]):=by
 refine spec_of sg Tryz.func139 rfl rfl rfl ?_
 repeat' (first|refine d1 ?_|(show ∀ _:Nat,T _ _ _ _ _;intro _))
 rename_i b
 refine T_if rfl (fun h=>?_) (fun h=>?_)
 ·simp only [decide_eq_true_eq] at h
  repeat' (first|refine d1 ?_|(show T _ (.code .ret::_) _ _ _;refine T_retM (vs:=[.int .i64 4]) [] ⟨⟨b,_,[.int .i64 4],rfl,rfl,rfl,rfl,fun _=>rfl,rfl,rdOwn1 rfl⟩,trivial⟩ (Hle.none _) ⟨?_,rfl⟩))
  unfold checkS;rw [if_pos h];rfl
 simp only [decide_eq_false_iff_not] at h
 repeat' (first|refine d1 ?_|(show T _ (.ops _ (_::_)::_) _ _ _;refine T_callE rfl rfl rfl rfl rfl (fun w _=>clusters_spec s w) (fun x _=>?_))|fail)
 have hps:∀ (j:Nat) (y:List Value),(clusterVs s)[j]?=some y→∃ p,(stp s s.size).2[j]?=some p∧y=clusterV s p:=by
  intro j y hy
  unfold clusterVs at hy
  rw [List.getElem?_map] at hy
  cases hp:(stp s s.size).2[j]? with
  | none=>rw [hp] at hy;cases hy
  | some p=>rw [hp] at hy;exact⟨p,rfl,(Option.some.inj hy).symm⟩
 refine T_range (clusters_iter s x (by omega)) rfl (fun j y hy=>by obtain⟨p,_,rfl⟩:=hps j y hy;exact⟨rfl,rfl⟩)
  (fun j H=>H=[blk b [.int .i64 0] 31]∧∀ i p,i<j→(stp s s.size).2[i]?=some p→firstOk s p.1) (fun H=>H=[blk b [.int .i64 11] 31]∧okAll s=false) (fun _ _=>False)
  [blk b [.int .i64 0] 31] ⟨rfl,fun i p h=>by omega⟩ (Hle.refl _) ?_ ?_ ?_ (fun _ _ _ h=>h.elim)
 ·rintro L r j y Hj K hr hy ⟨rfl,hG⟩
  obtain⟨p,hp,rfl⟩:=hps j y hy
  have hb:=stp_bounds s s.size p (List.mem_of_getElem? hp)
  have hk:kindI ((byteAt (s.extract p.1 p.2) 0).toNat:Int)=kAt s p.1:=by rw [byteAt_extract s _ _ hb.1 hb.2];rfl
  have hsz:(s.extract p.1 p.2).size=p.2 - p.1:=by rw [ByteArray.size_extract];omega
  show T _ _ ((12, .string (s.extract p.1 p.2))::(11, .int .i64 (p.1:Nat))::_) _ (lrec L r::blk b [.int .i64 0] 31::K)
  repeat' (first|refine d1 ?_|(show T _ _ _ _ _;refine T_begin hr rfl ?_))
  repeat' (first|refine d1 ?_|(show T _ (.ops _ (_::_)::_) _ _ _;refine T_call rfl rfl rfl rfl rfl (fun w hw=>kindPrg_spec _ (byteAt_bd _ _) w) ?_)|fail)
  rw [hk]
  refine T_if rfl (fun h1=>?_) (fun h1=>?_)
  ·simp only [Bool.or_eq_true,decide_eq_true_eq] at h1
   repeat' (first|refine d1 ?_|(show T _ (.code .ret::_) _ _ _;refine T_rret _ ⟨rfl,?_⟩ (Hle.refl _)))
   cases ho:okAll s with
   | false=>rfl
   | true =>
    have:=(clusters_law s).2 ho p (List.mem_of_getElem? hp)
    unfold firstOk at this
    omega
  ·simp only [Bool.or_eq_false_iff,decide_eq_false_iff_not] at h1
   repeat' (first|(show T _ _ _ _ _;refine T_next _ ⟨rfl,?_⟩ (Hle.refl _)))
   intro i q hi hq
   rcases Nat.lt_or_ge i j with h2|h2
   ·exact hG i q h2 hq
   ·rw [show i=j by omega,hp] at hq
    cases hq
    exact h1
 ·rintro D Hn ⟨rfl,hG⟩
  show T _ _ _ _ (dfr D::blk x [.string s] 9::blk b [.int .i64 0] 31::[])
  repeat' (first|refine d1 ?_|(show T _ (.code .ret::_) _ _ _;refine T_retD (Hle.refl _) (rf_M (ds:=[]) (vs:=[.int .i64 0]) [] ⟨⟨b,_,[.int .i64 0],rfl,rfl,rfl,rfl,fun _=>rfl,rfl,rdOwn1 rfl⟩,trivial⟩ (Hle.none _) ⟨?_,rfl⟩)))
  have:okAll s=true:=(clusters_law s).1 (fun p hp=>by
   obtain⟨i,hi,e⟩:=List.getElem_of_mem hp
   refine hG i p (by simpa [clusterVs] using hi) ?_
   rw [List.getElem?_eq_getElem hi,e])
  unfold checkS;rw [if_neg h,this];rfl
 ·rintro D Hx ⟨rfl,ho⟩
  show T _ _ _ _ (dfr D::blk x [.string s] 9::blk b [.int .i64 11] 31::[])
  refine T_retD (Hle.refl _) (rf_M (ds:=[]) (vs:=[.int .i64 11]) [] ⟨⟨b,_,[.int .i64 11],rfl,rfl,rfl,rfl,fun _=>rfl,rfl,rdOwn1 rfl⟩,trivial⟩ (Hle.none _) ⟨?_,rfl⟩)
  unfold checkS;rw [if_neg h,ho];rfl
end Go.Proofs.YtefieebkankfoaaGreatDoor
namespace Go.Proofs.YtefieebkankfoaaGreatDoor
open Go.RowKit Go.Shelf Go.Proofs
set_option maxRecDepth 100000
set_option maxHeartbeats 1000000

theorem indexFuncB_spec (A:Option Addr) (n c:Nat) (l:List UInt8) (f:FuncId) (fs cs:List Value) (p:UInt8→Bool) (w:World) (hs:Src w 1 A n (l.map fun c=>Value.int .u8 (c.toNat:Nat))) (hn:l.length=n) (hb:n≤9223372036854775807)
  (hf:∀ x∈l,∀ w',Below w.heap.size w w'→Spec Tryz.prog f (fs++(.int .u8 ((x.toNat:Nat):Int)::cs)) w' (fun v A=>v = .bool (p x)∧A=[])) :
  Spec Tryz.prog 167 [.slice A n c, .func (.func f) fs.toArray cs.toArray] w (fun v A=>v = .int .i64 (findI p l)∧A=[]):=by
 refine spec_of sg Tryz.func167 rfl rfl rfl ?_
 repeat' (first|refine d1 ?_|fail)
 refine T_loop (fun k:Nat=>[(0, .slice A n c),(1, .func (.func f) fs.toArray cs.toArray),(7, .int .i64 n),(8, .int .i64 k)]) (fun _=>[]) (fun k=>k≤n∧∀ i x,i<k→l[i]?=some x→p x=false) (fun k=>n - k) 0 ⟨Nat.zero_le _,fun i x h=>by omega⟩ ⟨rfl,rfl,rfl,rfl,trivial⟩ (Hle.refl _) ?_
 rintro k ⟨hk,hok⟩
 repeat' (first|refine d1 ?_|fail)
 refine T_if rfl (fun h=>?_) (fun h=>?_)
 ·simp only [decide_eq_true_eq] at h
  have hkn:k<n:=by omega
  obtain⟨b,o,rfl⟩:=hs.base (by omega)
  obtain⟨x,hx⟩:∃ x,l[k]?=some x:=⟨_,List.getElem?_eq_getElem (by omega)⟩
  repeat' (first|refine d1 ?_|fail)
  refine T_load (v := .int .u8 ((x.toNat:Nat):Int)) rfl rfl rfl rfl rfl (rdOld ?_) ?_
  ·exact (hs.get1 hkn (by rw [List.getElem?_map,hx];rfl)).2
  repeat' (first|refine d1 ?_|(show T _ (.ops _ (_::_)::_) _ _ _;refine T_call rfl rfl rfl rfl rfl (fun w hw=>hf x (List.mem_of_getElem? hx) w hw.below) ?_)|fail)
  refine T_if rfl (fun h1=>?_) (fun h1=>?_)
  ·repeat' (first|refine d1 ?_|(show T _ (.code .ret::_) _ _ _;refine T_retV [] rfl (Hle.refl _) ⟨congrArg (Value.int .i64) ?_,rfl⟩))
   exact (findI_some hx h1 hok).symm
  ·repeat' (first|refine d1 ?_|fail)
   refine T_back (k+1) ⟨by omega,fun i y hi hy=>?_⟩ (by omega) ⟨rfl,rfl,rfl,rfl,trivial⟩ (Hle.refl _)
   rcases Nat.lt_or_ge i k with h2|h2
   ·exact hok i y h2 hy
   ·rw [show i=k by omega,hx] at hy
    cases hy
    exact h1
 ·simp only [decide_eq_false_iff_not] at h
  repeat' (first|refine d1 ?_|(show T _ (.code .ret::_) _ _ _;refine T_retV [] rfl (Hle.refl _) ⟨congrArg (Value.int .i64) ?_,rfl⟩))
  exact (findI_none (fun i x hi=>hok i x (by have:=(List.getElem?_eq_some_iff.1 hi).1;omega) hi)).symm
theorem containsFuncB_spec (A:Option Addr) (n c:Nat) (l:List UInt8) (f:FuncId) (fs cs:List Value) (p:UInt8→Bool) (w:World) (hs:Src w 1 A n (l.map fun c=>Value.int .u8 (c.toNat:Nat))) (hn:l.length=n) (hb:n≤9223372036854775807)
  (hf:∀ x∈l,∀ w',Below w.heap.size w w'→Spec Tryz.prog f (fs++(.int .u8 ((x.toNat:Nat):Int)::cs)) w' (fun v A=>v = .bool (p x)∧A=[])) :
  Spec Tryz.prog 140 [.slice A n c, .func (.func f) fs.toArray cs.toArray] w (fun v A=>v = .bool (l.any p)∧A=[]):=by
 refine spec_of sg Tryz.func140 rfl rfl rfl ?_
 repeat' (first|refine d1 ?_|(show T _ (.ops _ (_::_)::_) _ _ _;refine T_call rfl rfl rfl rfl rfl (fun w hw=>indexFuncB_spec A n c l f fs cs p w (rdSrc hs w hw) hn hb (fun x hx w' hb'=>hf x hx w' (hw.below.trans (hb'.mono hw.below.size)))) ?_)|(show T _ (.code .ret::_) _ _ _;refine T_retV [] rfl (Hle.refl _) ⟨congrArg Value.bool ?_,rfl⟩))
 exact findI_any p l

theorem indexFuncI_spec (A:Option Addr) (n c:Nat) (l:List Int) (f:FuncId) (fs cs:List Value) (p:Int→Bool) (w:World) (hs:Src w 1 A n (l.map fun n=>Value.int .i64 n)) (hn:l.length=n) (hb:n≤9223372036854775807)
  (hf:∀ x∈l,∀ w',Below w.heap.size w w'→Spec Tryz.prog f (fs++(.int .i64 x::cs)) w' (fun v A=>v = .bool (p x)∧A=[])) :
  Spec Tryz.prog 100 [.slice A n c, .func (.func f) fs.toArray cs.toArray] w (fun v A=>v = .int .i64 (findI p l)∧A=[]):=by
 refine spec_of sg Tryz.func100 rfl rfl rfl ?_
 repeat' (first|refine d1 ?_|fail)
 refine T_loop (fun k:Nat=>[(0, .slice A n c),(1, .func (.func f) fs.toArray cs.toArray),(7, .int .i64 n),(8, .int .i64 k)]) (fun _=>[]) (fun k=>k≤n∧∀ i x,i<k→l[i]?=some x→p x=false) (fun k=>n - k) 0 ⟨Nat.zero_le _,fun i x h=>by omega⟩ ⟨rfl,rfl,rfl,rfl,trivial⟩ (Hle.refl _) ?_
 rintro k ⟨hk,hok⟩
 repeat' (first|refine d1 ?_|fail)
 refine T_if rfl (fun h=>?_) (fun h=>?_)
 ·simp only [decide_eq_true_eq] at h
  have hkn:k<n:=by omega
  obtain⟨b,o,rfl⟩:=hs.base (by omega)
  obtain⟨x,hx⟩:∃ x,l[k]?=some x:=⟨_,List.getElem?_eq_getElem (by omega)⟩
  repeat' (first|refine d1 ?_|fail)
  refine T_load (v := .int .i64 x) rfl rfl rfl rfl rfl (rdOld ?_) ?_
  ·exact (hs.get1 hkn (by rw [List.getElem?_map,hx];rfl)).2
  repeat' (first|refine d1 ?_|(show T _ (.ops _ (_::_)::_) _ _ _;refine T_call rfl rfl rfl rfl rfl (fun w hw=>hf x (List.mem_of_getElem? hx) w hw.below) ?_)|fail)
  refine T_if rfl (fun h1=>?_) (fun h1=>?_)
  ·repeat' (first|refine d1 ?_|(show T _ (.code .ret::_) _ _ _;refine T_retV [] rfl (Hle.refl _) ⟨congrArg (Value.int .i64) ?_,rfl⟩))
   exact (findI_some hx h1 hok).symm
  ·repeat' (first|refine d1 ?_|fail)
   refine T_back (k+1) ⟨by omega,fun i y hi hy=>?_⟩ (by omega) ⟨rfl,rfl,rfl,rfl,trivial⟩ (Hle.refl _)
   rcases Nat.lt_or_ge i k with h2|h2
   ·exact hok i y h2 hy
   ·rw [show i=k by omega,hx] at hy
    cases hy
    exact h1
 ·simp only [decide_eq_false_iff_not] at h
  repeat' (first|refine d1 ?_|(show T _ (.code .ret::_) _ _ _;refine T_retV [] rfl (Hle.refl _) ⟨congrArg (Value.int .i64) ?_,rfl⟩))
  exact (findI_none (fun i x hi=>hok i x (by have:=(List.getElem?_eq_some_iff.1 hi).1;omega) hi)).symm
theorem containsFuncI_spec (A:Option Addr) (n c:Nat) (l:List Int) (f:FuncId) (fs cs:List Value) (p:Int→Bool) (w:World) (hs:Src w 1 A n (l.map fun n=>Value.int .i64 n)) (hn:l.length=n) (hb:n≤9223372036854775807)
  (hf:∀ x∈l,∀ w',Below w.heap.size w w'→Spec Tryz.prog f (fs++(.int .i64 x::cs)) w' (fun v A=>v = .bool (p x)∧A=[])) :
  Spec Tryz.prog 67 [.slice A n c, .func (.func f) fs.toArray cs.toArray] w (fun v A=>v = .bool (l.any p)∧A=[]):=by
 refine spec_of sg Tryz.func67 rfl rfl rfl ?_
 repeat' (first|refine d1 ?_|(show T _ (.ops _ (_::_)::_) _ _ _;refine T_call rfl rfl rfl rfl rfl (fun w hw=>indexFuncI_spec A n c l f fs cs p w (rdSrc hs w hw) hn hb (fun x hx w' hb'=>hf x hx w' (hw.below.trans (hb'.mono hw.below.size)))) ?_)|(show T _ (.code .ret::_) _ _ _;refine T_retV [] rfl (Hle.refl _) ⟨congrArg Value.bool ?_,rfl⟩))
 exact findI_any p l

theorem indexFuncT_spec (A:Option Addr) (n c:Nat) (l:List Tok) (f:FuncId) (fs cs:List Value) (p:Tok→Bool) (w:World) (hs:Src w 6 A n (l.flatMap Tok.cells)) (hn:l.length=n) (hb:n≤9223372036854775807)
  (hf:∀ x∈l,∀ w',Below w.heap.size w w'→Spec Tryz.prog f (fs++(x.val::cs)) w' (fun v A=>v = .bool (p x)∧A=[])) :
  Spec Tryz.prog 104 [.slice A n c, .func (.func f) fs.toArray cs.toArray] w (fun v A=>v = .int .i64 (findI p l)∧A=[]):=by
 refine spec_of sg Tryz.func104 rfl rfl rfl ?_
 repeat' (first|refine d1 ?_|fail)
 refine T_loop (fun k:Nat=>[(0, .slice A n c),(1, .func (.func f) fs.toArray cs.toArray),(7, .int .i64 n),(8, .int .i64 k)]) (fun _=>[]) (fun k=>k≤n∧∀ i x,i<k→l[i]?=some x→p x=false) (fun k=>n - k) 0 ⟨Nat.zero_le _,fun i x h=>by omega⟩ ⟨rfl,rfl,rfl,rfl,trivial⟩ (Hle.refl _) ?_
 rintro k ⟨hk,hok⟩
 repeat' (first|refine d1 ?_|fail)
 refine T_if rfl (fun h=>?_) (fun h=>?_)
 ·simp only [decide_eq_true_eq] at h
  have hkn:k<n:=by omega
  obtain⟨b,o,rfl⟩:=hs.base (by omega)
  obtain⟨x,hx⟩:∃ x,l[k]?=some x:=⟨_,List.getElem?_eq_getElem (by omega)⟩
  repeat' (first|refine d1 ?_|fail)
  refine T_loadA (vs:=x.cells) rfl rfl rfl rfl rfl (rdOld ?_) rfl ?_
  ·exact hs.getT hkn hx
  repeat' (first|refine d1 ?_|(show T _ (.ops _ (_::_)::_) _ _ _;refine T_call rfl rfl rfl rfl rfl (fun w hw=>hf x (List.mem_of_getElem? hx) w hw.below) ?_)|fail)
  refine T_if rfl (fun h1=>?_) (fun h1=>?_)
  ·repeat' (first|refine d1 ?_|(show T _ (.code .ret::_) _ _ _;refine T_retV [] rfl (Hle.refl _) ⟨congrArg (Value.int .i64) ?_,rfl⟩))
   exact (findI_some hx h1 hok).symm
  ·repeat' (first|refine d1 ?_|fail)
   refine T_back (k+1) ⟨by omega,fun i y hi hy=>?_⟩ (by omega) ⟨rfl,rfl,rfl,rfl,trivial⟩ (Hle.refl _)
   rcases Nat.lt_or_ge i k with h2|h2
   ·exact hok i y h2 hy
   ·rw [show i=k by omega,hx] at hy
    cases hy
    exact h1
 ·simp only [decide_eq_false_iff_not] at h
  repeat' (first|refine d1 ?_|(show T _ (.code .ret::_) _ _ _;refine T_retV [] rfl (Hle.refl _) ⟨congrArg (Value.int .i64) ?_,rfl⟩))
  exact (findI_none (fun i x hi=>hok i x (by have:=(List.getElem?_eq_some_iff.1 hi).1;omega) hi)).symm
theorem containsFuncT_spec (A:Option Addr) (n c:Nat) (l:List Tok) (f:FuncId) (fs cs:List Value) (p:Tok→Bool) (w:World) (hs:Src w 6 A n (l.flatMap Tok.cells)) (hn:l.length=n) (hb:n≤9223372036854775807)
  (hf:∀ x∈l,∀ w',Below w.heap.size w w'→Spec Tryz.prog f (fs++(x.val::cs)) w' (fun v A=>v = .bool (p x)∧A=[])) :
  Spec Tryz.prog 72 [.slice A n c, .func (.func f) fs.toArray cs.toArray] w (fun v A=>v = .bool (l.any p)∧A=[]):=by
 refine spec_of sg Tryz.func72 rfl rfl rfl ?_
 repeat' (first|refine d1 ?_|(show T _ (.ops _ (_::_)::_) _ _ _;refine T_call rfl rfl rfl rfl rfl (fun w hw=>indexFuncT_spec A n c l f fs cs p w (rdSrc hs w hw) hn hb (fun x hx w' hb'=>hf x hx w' (hw.below.trans (hb'.mono hw.below.size)))) ?_)|(show T _ (.code .ret::_) _ _ _;refine T_retV [] rfl (Hle.refl _) ⟨congrArg Value.bool ?_,rfl⟩))
 exact findI_any p l
end Go.Proofs.YtefieebkankfoaaGreatDoor
namespace Go.Proofs.YtefieebkankfoaaGreatDoor
open Go.RowKit Go.Shelf Go.Proofs
set_option maxRecDepth 100000
set_option maxHeartbeats 1000000

theorem isWord1_spec (c:Int) (hc:0≤c∧c≤255) (w:World):Spec Tryz.prog 141 [.int .u8 c] w (fun v A=>v = .bool (decide (kindI c=5) || decide (kindI c=6))∧A=[]):=by
 refine spec_of sg Tryz.func141 rfl rfl rfl ?_
 repeat' (first|refine d1 ?_|(show T _ (.ops _ (_::_)::_) _ _ _;refine T_call rfl rfl rfl rfl rfl (fun w hw=>kindPrg_spec c hc w) ?_)|(show T _ (.code .ret::_) _ _ _;refine T_retV [] rfl (Hle.refl _) ⟨rfl,rfl⟩))
theorem isWordPrg_spec (s:ByteArray) (w:World):Spec Tryz.prog 105 [.string s] w (fun v A=>v = .bool (isWordB s)∧A=[]):=by
 refine spec_of sg Tryz.func105 rfl rfl rfl ?_
 repeat' (first|refine d1 ?_|(show T _ (.ops _ (_::_)::_) _ _ _;refine T_callC rfl rfl rfl rfl rfl rfl rfl (fun hg w hw=>checkPrg_spec s w) ?_)|fail)
 refine T_if rfl (fun h=>?_) (fun h=>?_)
 ·repeat' (first|refine d1 ?_|(show T _ (.code .ret::_) _ _ _;refine T_retV [] rfl (Hle.refl _) ⟨congrArg Value.bool ?_,rfl⟩))
  simp only [Bool.or_eq_true,decide_eq_true_eq,Bool.not_eq_true',decide_eq_false_iff_not] at h
  unfold isWordB
  by_cases h1:1≤s.size∧s.size≤64
  ·have h2:okAll s=false:=by
    cases h3:okAll s with
    | false=>rfl
    | true =>
     have h4:=(empty_size (s:=s)).1
     unfold checkS at h
     rw [if_neg (by omega),h3] at h
     rcases h with (h|h)|h
     ·have:=h4 h;omega
     ·omega
     ·exact absurd rfl h
   simp [h2]
  ·simp [h1]
 simp only [Bool.or_eq_false_iff,decide_eq_false_iff_not,Bool.not_eq_false',decide_eq_true_eq] at h
 have h1:1≤s.size∧s.size≤64:=by
  have h4:=(empty_size (s:=s)).2
  have:s.size≠0:=fun h5=>h.1.1 (h4 h5)
  omega
 have h2:okAll s=true:=by
  cases h3:okAll s with
  | true=>rfl
  | false=>have h4:=h.2;unfold checkS at h4;rw [if_neg (by omega),h3] at h4;simp at h4
 repeat' (first|refine d1 ?_|(show T _ (.ops _ (_::_)::_) _ _ _;refine T_call rfl rfl rfl rfl rfl (fun w hw=>kindPrg_spec _ (byteAt_bd _ _) w) ?_)|fail)
 refine T_if rfl (fun h3=>?_) (fun h3=>?_)
 ·repeat' (first|refine d1 ?_|(show T _ (.code .ret::_) _ _ _;refine T_retV [] rfl (Hle.refl _) ⟨congrArg Value.bool ?_,rfl⟩))
  have h4:(decide (kAt s 0=1) || decide (kAt s 0=3))=false:=by
   simp only [Bool.and_eq_true,Bool.not_eq_true'] at h3
   rw [Bool.or_eq_false_iff];exact h3
  unfold isWordB
  simp [h4]
 have h4:(decide (kAt s 0=1) || decide (kAt s 0=3))=true:=by
  simp only [Bool.and_eq_false_iff,Bool.not_eq_false'] at h3
  rw [Bool.or_eq_true];exact h3
 repeat' (first|refine d1 ?_|(show T _ (.ops _ (_::_)::_) _ _ _;first|refine T_op (OpT.bytes rfl rfl rfl rfl rfl (fun b cap=>?_))|refine T_call rfl rfl rfl rfl rfl (fun w hw=>containsFuncB_spec _ _ _ s.data.toList _ [] [] (fun c=>decide (kindB c=5) || decide (kindB c=6)) w (srcByt w hw) (by simp) (by omega) (fun c _ w' _=>isWord1_spec _ (by have:=c.toNat_lt;omega) w')) ?_)|(show T _ (.code .ret::_) _ _ _;refine T_retV [] rfl (Hle.none _) ⟨congrArg Value.bool ?_,rfl⟩))
 exact isWord_law s h1 h2 h4

theorem mark_case:∀ {p q r z:Bool},(!(p && (q || r)))=true→(!(p && (q || r)))=(!p || (!q && !r) || !z):=by decide
theorem lt_le64 (n:Nat):decide ((64:Int)<n) = !decide ((n:Int)≤64):=by rw [Bool.eq_iff_iff];simp
theorem word_case1:∀ {p q r z:Bool},(!p)=false→(!false && !false && !(z && (!q && r)))=true→(!false && !false && !(z && (!q && r)))=(!p || q || !r || !z):=by decide
theorem word_case2:∀ {p q r z e:Bool},(!p)=false→(!false && !false && !(z && (!q && r)))=false→(!(!false && !false) && !e)=(!p || q || !r || !z):=by decide
def Tok.small (t:Tok):Prop:=t.text.size≤65536∧t.norm.size≤65536∧t.page.size≤65536∧t.name.size≤65536
theorem tokPrg_spec (t:Tok) (ht:t.small) (w:World) (hw0:Std w):Spec Tryz.prog 74 [t.val] w (fun v A=>v = .int .i64 (tokE t)∧A=[]):=by
 obtain⟨ht1,ht2,ht3,ht4⟩:=ht
 refine spec_of sg Tryz.func74 rfl rfl rfl ?_
 repeat' (first|(show T _ (.ops _ (⟨_, .box _ _,_,_,_,_⟩::_)::_) _ _ _;refine T_op (OpT.box (cs:=t.cells) rfl rfl rfl rfl rfl rfl rfl (fun _=>?_)))|refine d1 ?_|fail)
 rename_i b
 refine T_if rfl (fun h=>?_) (fun h=>?_)
 ·repeat' (first|refine d1 ?_|(show T _ (.code .ret::_) _ _ _;refine T_retV [] rfl (Hle.none _) ⟨?_,rfl⟩))
  simp only [Bool.or_eq_true,decide_eq_true_eq] at h
  unfold tokE;rw [if_pos h];rfl
 simp only [Bool.or_eq_false_iff,decide_eq_false_iff_not] at h
 have e1:¬ (t.flags<0∨31<t.flags):=by omega
 have hfl:=flags_law t.flags (by omega)
 refine T_draw 1000 [blk b t.cells 79] ?_
 refine T_dval 0 rfl (by kernel_rfl) (by kernel_rfl) (by kernel_rfl) (by kernel_rfl) (by kernel_rfl) rfl rfl (by first|exact Val.pure rfl|exact Val.vc rfl (fun hg=>by first|omega|(simp only [inK];omega)|exact True.intro|assumption)|exact Val.load rfl (fun _=>rdOwn1 rfl)|exact Val.loadA rfl (fun _=>rdAll) rfl) rfl rfl rfl (by first|exact Hle.refl _|exact Hle.none _|exact Hle.sub) ?_
 refine T_dval 1 rfl (by kernel_rfl) (by kernel_rfl) (by kernel_rfl) (by kernel_rfl) (by kernel_rfl) rfl rfl (by first|exact Val.pure rfl|exact Val.vc rfl (fun hg=>by first|omega|(simp only [inK];omega)|exact True.intro|assumption)|exact Val.load rfl (fun _=>rdOwn1 rfl)|exact Val.loadA rfl (fun _=>rdAll) rfl) rfl rfl rfl (by first|exact Hle.refl _|exact Hle.none _|exact Hle.sub) ?_
 refine T_dval 2 rfl (by kernel_rfl) (by kernel_rfl) (by kernel_rfl) (by kernel_rfl) (by kernel_rfl) rfl rfl (by first|exact Val.pure rfl|exact Val.vc rfl (fun hg=>by first|omega|(simp only [inK];omega)|exact True.intro|assumption)|exact Val.load rfl (fun _=>rdOwn1 rfl)|exact Val.loadA rfl (fun _=>rdAll) rfl) rfl rfl rfl (by first|exact Hle.refl _|exact Hle.none _|exact Hle.sub) ?_
 refine T_dval 3 rfl (by kernel_rfl) (by kernel_rfl) (by kernel_rfl) (by kernel_rfl) (by kernel_rfl) rfl rfl (by first|exact Val.pure rfl|exact Val.vc rfl (fun hg=>by first|omega|(simp only [inK];omega)|exact True.intro|assumption)|exact Val.load rfl (fun _=>rdOwn1 rfl)|exact Val.loadA rfl (fun _=>rdAll) rfl) rfl rfl rfl (by first|exact Hle.refl _|exact Hle.none _|exact Hle.sub) ?_
 refine T_dval 4 rfl (by kernel_rfl) (by kernel_rfl) (by kernel_rfl) (by kernel_rfl) (by kernel_rfl) rfl rfl (by first|exact Val.pure rfl|exact Val.vc rfl (fun hg=>by first|omega|(simp only [inK];omega)|exact True.intro|assumption)|exact Val.load rfl (fun _=>rdOwn1 rfl)|exact Val.loadA rfl (fun _=>rdAll) rfl) rfl rfl rfl (by first|exact Hle.refl _|exact Hle.none _|exact Hle.sub) ?_
 refine T_dval 5 rfl (by kernel_rfl) (by kernel_rfl) (by kernel_rfl) (by kernel_rfl) (by kernel_rfl) rfl rfl (by first|exact Val.pure rfl|exact Val.vc rfl (fun hg=>by first|omega|(simp only [inK];omega)|exact True.intro|assumption)|exact Val.load rfl (fun _=>rdOwn1 rfl)|exact Val.loadA rfl (fun _=>rdAll) rfl) rfl rfl rfl (by first|exact Hle.refl _|exact Hle.none _|exact Hle.sub) ?_
 refine T_dval 6 rfl (by kernel_rfl) (by kernel_rfl) (by kernel_rfl) (by kernel_rfl) (by kernel_rfl) rfl rfl (by first|exact Val.pure rfl|exact Val.vc rfl (fun hg=>by first|omega|(simp only [inK];omega)|exact True.intro|assumption)|exact Val.load rfl (fun _=>rdOwn1 rfl)|exact Val.loadA rfl (fun _=>rdAll) rfl) rfl rfl rfl (by first|exact Hle.refl _|exact Hle.none _|exact Hle.sub) ?_
 refine T_dval 7 rfl (by kernel_rfl) (by kernel_rfl) (by kernel_rfl) (by kernel_rfl) (by kernel_rfl) rfl rfl (by first|exact Val.pure rfl|exact Val.vc rfl (fun hg=>by first|omega|(simp only [inK];omega)|exact True.intro|assumption)|exact Val.load rfl (fun _=>rdOwn1 rfl)|exact Val.loadA rfl (fun _=>rdAll) rfl) rfl rfl rfl (by first|exact Hle.refl _|exact Hle.none _|exact Hle.sub) ?_
 refine T_dval 8 rfl (by kernel_rfl) (by kernel_rfl) (by kernel_rfl) (by kernel_rfl) (by kernel_rfl) rfl rfl (by first|exact Val.pure rfl|exact Val.vc rfl (fun hg=>by first|omega|(simp only [inK];omega)|exact True.intro|assumption)|exact Val.load rfl (fun _=>rdOwn1 rfl)|exact Val.loadA rfl (fun _=>rdAll) rfl) rfl rfl rfl (by first|exact Hle.refl _|exact Hle.none _|exact Hle.sub) ?_
 refine T_dval 9 rfl (by kernel_rfl) (by kernel_rfl) (by kernel_rfl) (by kernel_rfl) (by kernel_rfl) rfl rfl (by first|exact Val.pure rfl|exact Val.vc rfl (fun hg=>by first|omega|(simp only [inK];omega)|exact True.intro|assumption)|exact Val.load rfl (fun _=>rdOwn1 rfl)|exact Val.loadA rfl (fun _=>rdAll) rfl) rfl rfl rfl (by first|exact Hle.refl _|exact Hle.none _|exact Hle.sub) ?_
 refine T_dend (by kernel_rfl) ?_
 rw [show (!decide (andI t.flags 2=0))=hasN t.flags 2 by rw [← hfl.1];simp,show (!decide (andI t.flags 8=0))=hasN t.flags 8 by rw [← hfl.2.1];simp]
 repeat' (first|refine d1 ?_|fail)
 refine T_if rfl (fun h2=>?_) (fun h2=>?_)
 ·repeat' (first|refine d1 ?_|(show T _ (.code .ret::_) _ _ _;refine T_retV [] rfl (Hle.none _) ⟨?_,rfl⟩))
  unfold tokE;rw [if_neg e1,if_pos h2];rfl
 have e2:¬ ((hasN t.flags 2 && hasN t.flags 8)=true):=by rw [h2];simp
 repeat' (first|refine d1 ?_|fail)
 refine T_if rfl (fun h3=>?_) (fun h3=>?_)
 ·have h4:hasN t.flags 8=false:=by rw [h3] at h2;simpa using h2
  repeat' (first|refine d1 ?_|fail)
  refine T_if rfl (fun h9=>absurd (h9.symm.trans h4) (by simp)) (fun _=>?_)
  show T _ [_,_,_,_,_] _ _ _
  refine T_cutAt 2 (fun _:Unit=>[(1, .pointer (some ⟨b,0,none⟩)),(28, .bool (formBad t))]) (fun _=>[blk b t.cells 79]) (fun _=>True) rfl ?_ ?_
  ·have hfb:formBad t=(!gappedB t.text || !decide (t.norm=t.text)):=by unfold formBad;rw [if_pos h3]
   repeat' (first|refine d1 ?_|(show T _ (.ops _ (_::_)::_) _ _ _;refine T_call rfl rfl rfl rfl rfl (fun w hw=>gapPrg_spec _ (by omega) w (hw0.cls hw)) ?_)|fail)
   refine T_if rfl (fun h5=>?_) (fun h5=>?_)
   ·repeat' (first|(show T _ _ _ _ _;refine T_meet () trivial ⟨rfl,?_,trivial⟩ (Hle.refl _)))
    refine congrArg (fun q=>some (Value.bool q)) ?_
    rw [hfb];rw [h5];rfl
   ·repeat' (first|refine d1 ?_|(show T _ (.ops _ (_::_)::_) _ _ _;first|refine T_call rfl rfl rfl rfl rfl (fun w hw=>isWordTok_spec t (by omega) w) ?_|refine T_callC rfl rfl rfl rfl rfl rfl rfl (fun hg w hw=>normPrg_spec _ (by omega) w) ?_)|fail)
    refine T_if rfl (fun h6=>?_) (fun h6=>?_)
    ·repeat' (first|(show T _ _ _ _ _;refine T_meet () trivial ⟨rfl,?_,trivial⟩ (Hle.refl _)))
     refine congrArg (fun q=>some (Value.bool q)) ?_
     rw [hfb];simp [h3] at h6
    ·repeat' (first|refine d1 ?_|(show T _ (.ops _ (_::_)::_) _ _ _;refine T_call rfl rfl rfl rfl rfl (fun w hw=>isWordTok_spec t (by omega) w) ?_)|(show T _ _ _ _ _;refine T_meet () trivial ⟨rfl,?_,trivial⟩ (Hle.refl _)))
     refine congrArg (fun q=>some (Value.bool q)) ?_
     rw [hfb];rw [Bool.not_eq_false'] at h5;simp [h3,h5]
  ·rintro⟨⟩ _
   skip
   refine T_if rfl (fun h5=>?_) (fun h5=>?_)
   ·repeat' (first|refine d1 ?_|(show T _ (.code .ret::_) _ _ _;refine T_retV [] rfl (Hle.none _) ⟨?_,rfl⟩))
    unfold tokE;rw [if_neg e1,if_neg e2,if_pos h5];rfl
   have e3:¬ formBad t=true:=by rw [h5];simp
   repeat' (first|refine d1 ?_|fail)
   refine T_if rfl (fun h6=>?_) (fun h6=>?_)
   ·repeat' (first|refine d1 ?_|(show T _ (.code .ret::_) _ _ _;refine T_retV [] rfl (Hle.none _) ⟨?_,rfl⟩))
    simp only [decide_eq_true_eq] at h6
    unfold tokE;rw [if_neg e1,if_neg e2,if_neg e3,if_pos h6];rfl
   simp only [decide_eq_false_iff_not] at h6
   repeat' (first|refine d1 ?_|(show T _ (.ops _ (_::_)::_) _ _ _;first|refine T_call rfl rfl rfl rfl rfl (fun w hw=>namedPrg_spec _ (by omega) w) ?_|refine T_callC rfl rfl rfl rfl rfl rfl rfl (fun hg w hw=>namedPrg_spec _ (by omega) w) ?_)|fail)
   refine T_if rfl (fun h7=>?_) (fun h7=>?_)
   ·repeat' (first|refine d1 ?_|(show T _ (.code .ret::_) _ _ _;refine T_retV [] rfl (Hle.none _) ⟨?_,rfl⟩))
    unfold tokE;rw [if_neg e1,if_neg e2,if_neg e3,if_neg h6,if_pos h7];rfl
   ·repeat' (first|refine d1 ?_|(show T _ (.code .ret::_) _ _ _;refine T_retV [] rfl (Hle.none _) ⟨?_,rfl⟩))
    unfold tokE;rw [if_neg e1,if_neg e2,if_neg e3,if_neg h6,if_neg (by rw [h7];simp)];rfl
 ·repeat' (first|refine d1 ?_|fail)
  refine T_if rfl (fun h4=>?_) (fun h4=>?_)
  ·repeat' (first|refine d1 ?_|fail)
   show T _ [_,_,_,_,_] _ _ _
   refine T_cutAt 2 (fun _:Unit=>[(1, .pointer (some ⟨b,0,none⟩)),(28, .bool (formBad t))]) (fun _=>[blk b t.cells 79]) (fun _=>True) rfl ?_ ?_
   ·have hfb:formBad t=(!decide ((t.text.size:Int)=1) || (!decide (kAt t.text 0=5) && !decide (kAt t.text 0=4)) || !decide (t.norm=t.text)):=by unfold formBad;rw [if_neg (by rw [h3];simp),if_pos h4]
    repeat' (first|refine d1 ?_|(show T _ (.ops _ (_::_)::_) _ _ _;refine T_call rfl rfl rfl rfl rfl (fun w hw=>markPrg_spec _ w) ?_)|fail)
    refine T_if rfl (fun h5=>?_) (fun h5=>?_)
    ·repeat' (first|(show T _ _ _ _ _;refine T_meet () trivial ⟨rfl,?_,trivial⟩ (Hle.refl _)))
     refine congrArg (fun q=>some (Value.bool q)) ?_
     rw [hfb];exact mark_case h5
    ·repeat' (first|refine d1 ?_|(show T _ (.ops _ (_::_)::_) _ _ _;first|refine T_call rfl rfl rfl rfl rfl (fun w hw=>isWordTok_spec t (by omega) w) ?_|refine T_callC rfl rfl rfl rfl rfl rfl rfl (fun hg w hw=>normPrg_spec _ (by omega) w) ?_)|fail)
     refine T_if rfl (fun h6=>?_) (fun h6=>?_)
     ·repeat' (first|(show T _ _ _ _ _;refine T_meet () trivial ⟨rfl,?_,trivial⟩ (Hle.refl _)))
      refine congrArg (fun q=>some (Value.bool q)) ?_
      rw [hfb];simp [h4] at h6
     ·repeat' (first|refine d1 ?_|(show T _ (.ops _ (_::_)::_) _ _ _;refine T_call rfl rfl rfl rfl rfl (fun w hw=>isWordTok_spec t (by omega) w) ?_)|(show T _ _ _ _ _;refine T_meet () trivial ⟨rfl,?_,trivial⟩ (Hle.refl _)))
      refine congrArg (fun q=>some (Value.bool q)) ?_
      rw [hfb];simp_all
   ·rintro⟨⟩ _
    skip
    refine T_if rfl (fun h5=>?_) (fun h5=>?_)
    ·repeat' (first|refine d1 ?_|(show T _ (.code .ret::_) _ _ _;refine T_retV [] rfl (Hle.none _) ⟨?_,rfl⟩))
     unfold tokE;rw [if_neg e1,if_neg e2,if_pos h5];rfl
    have e3:¬ formBad t=true:=by rw [h5];simp
    repeat' (first|refine d1 ?_|fail)
    refine T_if rfl (fun h6=>?_) (fun h6=>?_)
    ·repeat' (first|refine d1 ?_|(show T _ (.code .ret::_) _ _ _;refine T_retV [] rfl (Hle.none _) ⟨?_,rfl⟩))
     simp only [decide_eq_true_eq] at h6
     unfold tokE;rw [if_neg e1,if_neg e2,if_neg e3,if_pos h6];rfl
    simp only [decide_eq_false_iff_not] at h6
    repeat' (first|refine d1 ?_|(show T _ (.ops _ (_::_)::_) _ _ _;first|refine T_call rfl rfl rfl rfl rfl (fun w hw=>namedPrg_spec _ (by omega) w) ?_|refine T_callC rfl rfl rfl rfl rfl rfl rfl (fun hg w hw=>namedPrg_spec _ (by omega) w) ?_)|fail)
    refine T_if rfl (fun h7=>?_) (fun h7=>?_)
    ·repeat' (first|refine d1 ?_|(show T _ (.code .ret::_) _ _ _;refine T_retV [] rfl (Hle.none _) ⟨?_,rfl⟩))
     unfold tokE;rw [if_neg e1,if_neg e2,if_neg e3,if_neg h6,if_pos h7];rfl
    ·repeat' (first|refine d1 ?_|(show T _ (.code .ret::_) _ _ _;refine T_retV [] rfl (Hle.none _) ⟨?_,rfl⟩))
     unfold tokE;rw [if_neg e1,if_neg e2,if_neg e3,if_neg h6,if_neg (by rw [h7];simp)];rfl
  ·skip
   show T _ [_,_,_,_,_] _ _ _
   refine T_cutAt 2 (fun _:Unit=>[(1, .pointer (some ⟨b,0,none⟩)),(28, .bool (formBad t))]) (fun _=>[blk b t.cells 79]) (fun _=>True) rfl ?_ ?_
   ·have hfb:formBad t=(!isWordB t.text || decide (t.norm=ByteArray.mk #[]) || decide ((64:Int)<t.norm.size) || !normB t.norm):=by unfold formBad;rw [if_neg (by rw [h3];simp),if_neg (by rw [h4];simp)]
    repeat' (first|refine d1 ?_|(show T _ (.ops _ (_::_)::_) _ _ _;refine T_call rfl rfl rfl rfl rfl (fun w hw=>isWordPrg_spec _ w) ?_)|fail)
    refine T_if rfl (fun h5=>?_) (fun h5=>?_)
    ·repeat' (first|(show T _ _ _ _ _;refine T_meet () trivial ⟨rfl,?_,trivial⟩ (Hle.refl _)))
     refine congrArg (fun q=>some (Value.bool q)) ?_
     rw [hfb];rw [h5];rfl
    ·repeat' (first|refine d1 ?_|(show T _ (.ops _ (_::_)::_) _ _ _;first|refine T_call rfl rfl rfl rfl rfl (fun w hw=>isWordTok_spec t (by omega) w) ?_|refine T_callC rfl rfl rfl rfl rfl rfl rfl (fun hg w hw=>normPrg_spec _ (by omega) w) ?_)|fail)
     refine T_if rfl (fun h6=>?_) (fun h6=>?_)
     ·repeat' (first|(show T _ _ _ _ _;refine T_meet () trivial ⟨rfl,?_,trivial⟩ (Hle.refl _)))
      refine congrArg (fun q=>some (Value.bool q)) ?_
      rw [hfb,h3,h4,lt_le64];rw [h3,h4] at h6;exact word_case1 h5 h6
     ·repeat' (first|refine d1 ?_|(show T _ (.ops _ (_::_)::_) _ _ _;refine T_call rfl rfl rfl rfl rfl (fun w hw=>isWordTok_spec t (by omega) w) ?_)|(show T _ _ _ _ _;refine T_meet () trivial ⟨rfl,?_,trivial⟩ (Hle.refl _)))
      refine congrArg (fun q=>some (Value.bool q)) ?_
      rw [hfb,h3,h4,lt_le64];rw [h3,h4] at h6;exact word_case2 h5 h6
   ·rintro⟨⟩ _
    skip
    refine T_if rfl (fun h5=>?_) (fun h5=>?_)
    ·repeat' (first|refine d1 ?_|(show T _ (.code .ret::_) _ _ _;refine T_retV [] rfl (Hle.none _) ⟨?_,rfl⟩))
     unfold tokE;rw [if_neg e1,if_neg e2,if_pos h5];rfl
    have e3:¬ formBad t=true:=by rw [h5];simp
    repeat' (first|refine d1 ?_|fail)
    refine T_if rfl (fun h6=>?_) (fun h6=>?_)
    ·repeat' (first|refine d1 ?_|(show T _ (.code .ret::_) _ _ _;refine T_retV [] rfl (Hle.none _) ⟨?_,rfl⟩))
     simp only [decide_eq_true_eq] at h6
     unfold tokE;rw [if_neg e1,if_neg e2,if_neg e3,if_pos h6];rfl
    simp only [decide_eq_false_iff_not] at h6
    repeat' (first|refine d1 ?_|(show T _ (.ops _ (_::_)::_) _ _ _;first|refine T_call rfl rfl rfl rfl rfl (fun w hw=>namedPrg_spec _ (by omega) w) ?_|refine T_callC rfl rfl rfl rfl rfl rfl rfl (fun hg w hw=>namedPrg_spec _ (by omega) w) ?_)|fail)
    refine T_if rfl (fun h7=>?_) (fun h7=>?_)
    ·repeat' (first|refine d1 ?_|(show T _ (.code .ret::_) _ _ _;refine T_retV [] rfl (Hle.none _) ⟨?_,rfl⟩))
     unfold tokE;rw [if_neg e1,if_neg e2,if_neg e3,if_neg h6,if_pos h7];rfl
    ·repeat' (first|refine d1 ?_|(show T _ (.code .ret::_) _ _ _;refine T_retV [] rfl (Hle.none _) ⟨?_,rfl⟩))
     unfold tokE;rw [if_neg e1,if_neg e2,if_neg e3,if_neg h6,if_neg (by rw [h7];simp)];rfl
end Go.Proofs.YtefieebkankfoaaGreatDoor
namespace Go.Proofs.YtefieebkankfoaaGreatDoor
open Go.RowKit Go.Shelf Go.Proofs
set_option maxRecDepth 100000
set_option maxHeartbeats 1000000

theorem distances_spec (n m:Nat) (hn:n≤65536) (hm:m≤65536) (f:FuncId) (fs cs:List Value) (e:Nat→Nat→Bool) (w:World)
  (hf:∀ i j,i<n→j<m→∀ w',Below w.heap.size w w'→Spec Tryz.prog f (fs++(.int .i64 (i:Nat) :: .int .i64 (j:Nat)::cs)) w' (fun v A=>v = .bool (e i j)∧A=[])) :
  Spec Tryz.prog 228 [.int .i64 n, .int .i64 m, .func (.func f) fs.toArray cs.toArray] w (fun v A=>v = .int .i64 (lv e n m)∧A=[]):=by
 refine spec_of sg Tryz.func228 rfl rfl rfl ?_
 repeat' (first|refine d1 ?_|fail)
 show T _ [_,_] _ _ _
 refine T_cutAt 1 (fun x:Nat × Nat=>[(0, .int .i64 n),(1, .int .i64 m),(2, .func (.func f) fs.toArray cs.toArray),(7, .slice (some ⟨x.1,0,none⟩) (m+1) (m+1)),(8, .slice (some ⟨x.2,0,none⟩) (m+1) (m+1))])
  (fun x=>[blk x.1 (valV (mx (lv e 0) (fun _=>0) 0) (m+1)) 3,blk x.2 (valV (fun _=>0) (m+1)) 3]) (fun _=>True) rfl ?_ ?_
 ·refine T_draw 1000 [] ?_
  refine T_dval 0 rfl (by kernel_rfl) (by kernel_rfl) (by kernel_rfl) (by kernel_rfl) (by kernel_rfl) rfl rfl (by first|exact Val.pure rfl|exact Val.vc rfl (fun hg=>by first|omega|(simp only [inK];omega)|exact True.intro|assumption)|exact Val.load rfl (fun _=>rdOwn1 rfl)|exact Val.loadA rfl (fun _=>rdAll) rfl) rfl rfl rfl (by first|exact Hle.refl _|exact Hle.none _|exact Hle.sub) ?_
  refine T_dval 1 rfl (by kernel_rfl) (by kernel_rfl) (by kernel_rfl) (by kernel_rfl) (by kernel_rfl) rfl rfl (by first|exact Val.pure rfl|exact Val.vc rfl (fun hg=>by first|omega|(simp only [inK];omega)|exact True.intro|assumption)|exact Val.load rfl (fun _=>rdOwn1 rfl)|exact Val.loadA rfl (fun _=>rdAll) rfl) rfl rfl rfl (by first|exact Hle.refl _|exact Hle.none _|exact Hle.sub) ?_
  refine T_dval 3 rfl (by kernel_rfl) (by kernel_rfl) (by kernel_rfl) (by kernel_rfl) (by kernel_rfl) rfl rfl (by first|exact Val.pure rfl|exact Val.vc rfl (fun hg=>by first|omega|(simp only [inK];omega)|exact True.intro|assumption)|exact Val.load rfl (fun _=>rdOwn1 rfl)|exact Val.loadA rfl (fun _=>rdAll) rfl) rfl rfl rfl (by first|exact Hle.refl _|exact Hle.none _|exact Hle.sub) ?_
  refine T_dval 4 rfl (by kernel_rfl) (by kernel_rfl) (by kernel_rfl) (by kernel_rfl) (by kernel_rfl) rfl rfl (by first|exact Val.pure rfl|exact Val.vc rfl (fun hg=>by first|omega|(simp only [inK];omega)|exact True.intro|assumption)|exact Val.load rfl (fun _=>rdOwn1 rfl)|exact Val.loadA rfl (fun _=>rdAll) rfl) rfl rfl rfl (by first|exact Hle.refl _|exact Hle.none _|exact Hle.sub) ?_
  refine T_dop2 2 5 (by kernel_rfl) rfl rfl (OpT.make rfl rfl rfl rfl rfl rfl rfl rfl rfl (by dsimp only;omega) (fun b1=>⟨fun _=>Hle.none _,?_⟩)) (OpT.make rfl rfl rfl rfl rfl rfl rfl rfl rfl (by dsimp only;omega) (fun b2=>⟨fun _=>Hle.none _,?_⟩))
  ·refine T_dval 6 rfl (by kernel_rfl) (by kernel_rfl) (by kernel_rfl) (by kernel_rfl) (by kernel_rfl) rfl rfl (Val.pure rfl) rfl rfl rfl (Hle.none _) ?_
   refine T_dop 5 (by kernel_rfl) rfl (OpT.make rfl rfl rfl rfl rfl rfl rfl rfl rfl (by dsimp only;omega) (fun b2=>⟨fun _=>Hle.none _,?_⟩))
   refine T_dval 7 rfl (by kernel_rfl) (by kernel_rfl) (by kernel_rfl) (by kernel_rfl) (by kernel_rfl) rfl rfl (Val.pure rfl) rfl rfl rfl (Hle.none _) ?_
   refine T_dend (by kernel_rfl) ?_
   refine T_le (H':=[blk b1 (valV (mx (lv e 0) (fun _=>0) 0) (m+1)) 3,blk b2 (valV (fun _=>0) (m+1)) 3]) ?_ (T_meet (b1,b2) trivial ⟨rfl,rfl,rfl,rfl,rfl,trivial⟩ (Hle.refl _))
   show Hle [blk b2 (List.replicate (m+1) (.int .i64 0)) 3,blk b1 (List.replicate (m+1) (.int .i64 0)) 3] _
   rw [valV_replicate,valV_mx_zero]
   exact Hle.perm (List.Perm.swap _ _ _)
  ·skip
   refine T_dop 2 (by kernel_rfl) rfl (OpT.make rfl rfl rfl rfl rfl rfl rfl rfl rfl (by dsimp only;omega) (fun b1=>⟨fun _=>Hle.none _,?_⟩))
   refine T_dval 6 rfl (by kernel_rfl) (by kernel_rfl) (by kernel_rfl) (by kernel_rfl) (by kernel_rfl) rfl rfl (Val.pure rfl) rfl rfl rfl (Hle.none _) ?_
   refine T_dval 7 rfl (by kernel_rfl) (by kernel_rfl) (by kernel_rfl) (by kernel_rfl) (by kernel_rfl) rfl rfl (Val.pure rfl) rfl rfl rfl (Hle.none _) ?_
   refine T_dend (by kernel_rfl) ?_
   refine T_le (H':=[blk b1 (valV (mx (lv e 0) (fun _=>0) 0) (m+1)) 3,blk b2 (valV (fun _=>0) (m+1)) 3]) ?_ (T_meet (b1,b2) trivial ⟨rfl,rfl,rfl,rfl,rfl,trivial⟩ (Hle.refl _))
   show Hle [blk b1 (List.replicate (m+1) (.int .i64 0)) 3,blk b2 (List.replicate (m+1) (.int .i64 0)) 3] _
   rw [valV_replicate,valV_mx_zero]
   exact Hle.refl _
 ·rintro⟨b1,b2⟩ _
  dsimp only
  repeat' (first|refine d1 ?_|fail)
  refine T_loop (fun k:Nat=>[(0, .int .i64 n),(1, .int .i64 m),(2, .func (.func f) fs.toArray cs.toArray),(7, .slice (some ⟨b1,0,none⟩) (m+1) (m+1)),(8, .slice (some ⟨b2,0,none⟩) (m+1) (m+1)),(20, .int .i64 ((m+1:Nat):Int)),(21, .int .i64 k)])
   (fun k=>[blk b1 (valV (mx (lv e 0) (fun _=>0) k) (m+1)) 3,blk b2 (valV (fun _=>0) (m+1)) 3]) (fun k=>k≤m+1) (fun k=>m+1 - k) 0 (Nat.zero_le _) ⟨rfl,rfl,rfl,rfl,rfl,rfl,rfl,trivial⟩ (Hle.refl _) ?_
  ·intro k hk
   repeat' (first|refine d1 ?_|fail)
   refine T_if rfl (fun h=>?_) (fun h=>?_)
   ·simp only [decide_eq_true_eq] at h
    repeat' (first|refine d1 ?_|(show T _ (.ops _ (_::_)::_) _ _ _;refine T_op (OpT.store (b:=b1) rfl rfl rfl rfl (by rw [valV_length];omega) ?_))|fail)
    refine T_back (k+1) (by omega) (by omega) ⟨rfl,rfl,rfl,rfl,rfl,rfl,rfl,trivial⟩ ?_
    show Hle [blk b1 ((valV (mx (lv e 0) (fun _=>0) k) (m+1)).set (0+k * 1) (.int .i64 k)) 3,_] _
    rw [show 0+k * 1=k by omega,valV_set (f:=lv e 0) (x:=(k:Int)) rfl]
    exact Hle.refl _
   ·simp only [decide_eq_false_iff_not] at h
    rw [valV_mx_full _ _ _ _ (by omega)]
    repeat' (first|refine d1 ?_|fail)
    refine T_loop (fun x:Nat × (Nat→Int) × Nat × Nat=>[(0, .int .i64 n),(1, .int .i64 m),(2, .func (.func f) fs.toArray cs.toArray),(7, .slice (some ⟨x.2.2.1,0,none⟩) (m+1) (m+1)),(8, .slice (some ⟨x.2.2.2,0,none⟩) (m+1) (m+1)),(29, .int .i64 n),(30, .int .i64 x.1)])
     (fun x=>[blk x.2.2.1 (valV (lv e x.1) (m+1)) 3,blk x.2.2.2 (valV x.2.1 (m+1)) 3]) (fun x=>x.1≤n) (fun x=>n - x.1) (0,(fun _=>0),b1,b2) (Nat.zero_le _) ⟨rfl,rfl,rfl,rfl,rfl,rfl,rfl,trivial⟩ (Hle.refl _) ?_
    rintro⟨i,g,b1,b2⟩ hi
    dsimp only at hi ⊢
    repeat' (first|refine d1 ?_|fail)
    refine T_if rfl (fun h1=>?_) (fun h1=>?_)
    ·simp only [decide_eq_true_eq] at h1
     repeat' (first|refine d1 ?_|(show T _ (.ops _ (_::_)::_) _ _ _;refine T_op (OpT.store (b:=b2) rfl rfl rfl rfl (by rw [valV_length];omega) ?_))|fail)
     refine T_le (H':=[blk b1 (valV (lv e i) (m+1)) 3,blk b2 (valV (mx (lv e (i+1)) g 1) (m+1)) 3]) ?_ ?_
     ·show Hle [_,blk b2 ((valV g (m+1)).set 0 (.int .i64 ((i:Int)+1))) 3] _
      rw [← valV_mx_zero (lv e (i+1)) g,valV_set (f:=lv e (i+1)) (x:=(i:Int)+1) rfl]
      exact Hle.refl _
     refine T_loop (fun k:Nat=>[(0, .int .i64 n),(1, .int .i64 m),(2, .func (.func f) fs.toArray cs.toArray),(7, .slice (some ⟨b1,0,none⟩) (m+1) (m+1)),(8, .slice (some ⟨b2,0,none⟩) (m+1) (m+1)),(29, .int .i64 n),(30, .int .i64 i),(10, .int .i64 i),(37, .int .i64 m),(38, .int .i64 k)])
      (fun k=>[blk b1 (valV (lv e i) (m+1)) 3,blk b2 (valV (mx (lv e (i+1)) g (k+1)) (m+1)) 3]) (fun k=>k≤m) (fun k=>m - k) 0 (Nat.zero_le _) ⟨rfl,rfl,rfl,rfl,rfl,rfl,rfl,rfl,rfl,rfl,trivial⟩ (Hle.refl _) ?_
     intro k hk
     repeat' (first|refine d1 ?_|fail)
     refine T_if rfl (fun h2=>?_) (fun h2=>?_)
     ·simp only [decide_eq_true_eq] at h2
      repeat' (first|refine d1 ?_|(show T _ (.ops _ (_::_)::_) _ _ _;refine T_call rfl rfl rfl rfl rfl (fun w hw=>hf i k (by omega) (by omega) w hw.below) ?_)|fail)
      show T _ (_::_) _ _ _
      refine T_cutAt 1 (fun _:Unit=>[(0, .int .i64 n),(1, .int .i64 m),(2, .func (.func f) fs.toArray cs.toArray),(7, .slice (some ⟨b1,0,none⟩) (m+1) (m+1)),(8, .slice (some ⟨b2,0,none⟩) (m+1) (m+1)),(29, .int .i64 n),(30, .int .i64 i),(10, .int .i64 i),(37, .int .i64 m),(38, .int .i64 k),(11, .int .i64 k),(12, .int .i64 (if e i k then 0 else 1))])
       (fun _=>[blk b1 (valV (lv e i) (m+1)) 3,blk b2 (valV (mx (lv e (i+1)) g (k+1)) (m+1)) 3]) (fun _=>True) rfl ?_ ?_
      ·refine T_if rfl (fun h3=>?_) (fun h3=>?_)
       ·rw [h3]
        repeat' (first|refine d1 ?_|(show T _ _ _ _ _;refine T_meet () trivial ⟨rfl,rfl,rfl,rfl,rfl,rfl,rfl,rfl,rfl,rfl,rfl,rfl,trivial⟩ (Hle.refl _)))
       ·rw [h3]
        repeat' (first|(show T _ _ _ _ _;refine T_meet () trivial ⟨rfl,rfl,rfl,rfl,rfl,rfl,rfl,rfl,rfl,rfl,rfl,rfl,trivial⟩ (Hle.refl _)))
      ·rintro⟨⟩ _
       have B1:=lv_bd e i k
       have B2:=lv_bd e i (k+1)
       have B3:=lv_bd e (i+1) k
       have B4:0≤(if e i k then (0:Int) else 1)∧(if e i k then (0:Int) else 1)≤1:=by split <;> omega
       show T _ (.code (.region _ _ true)::_) _ _ _
       refine T_draw 22 [blk b1 (valV (lv e i) (m+1)) 3,blk b2 (valV (mx (lv e (i+1)) g (k+1)) (m+1)) 3] ?_
       refine T_dval 0 rfl (by kernel_rfl) (by kernel_rfl) (by kernel_rfl) (by kernel_rfl) (by kernel_rfl) rfl rfl (by first|exact Val.pure rfl|exact Val.vc rfl (fun hg=>by first|omega|(simp only [inK];omega)|exact True.intro|assumption)|exact Val.load rfl (fun _=>rdOwn1 rfl)|exact Val.loadA rfl (fun _=>rdAll) rfl) rfl rfl rfl (by first|exact Hle.refl _|exact Hle.none _|exact Hle.sub) ?_
       refine T_dval 1 rfl (by kernel_rfl) (by kernel_rfl) (by kernel_rfl) (by kernel_rfl) (by kernel_rfl) rfl rfl (by first|exact Val.pure rfl|exact Val.vc rfl (fun hg=>by first|omega|(simp only [inK];omega)|exact True.intro|assumption)|exact Val.load rfl (fun _=>rdOwn1 rfl)|exact Val.loadA rfl (fun _=>rdAll) rfl) rfl rfl rfl (by first|exact Hle.refl _|exact Hle.none _|exact Hle.sub) ?_
       refine T_dval 2 rfl (by kernel_rfl) (by kernel_rfl) (by kernel_rfl) (by kernel_rfl) (by kernel_rfl) rfl rfl (by first|exact Val.pure rfl|exact Val.vc rfl (fun hg=>by first|omega|(simp only [inK];omega)|exact True.intro|assumption)|exact Val.load rfl (fun _=>rdOwn1 rfl)|exact Val.loadA rfl (fun _=>rdAll) rfl) rfl rfl rfl (by first|exact Hle.refl _|exact Hle.none _|exact Hle.sub) ?_
       refine T_dval 3 rfl (by kernel_rfl) (by kernel_rfl) (by kernel_rfl) (by kernel_rfl) (by kernel_rfl) rfl rfl (by first|exact Val.pure rfl|exact Val.vc rfl (fun hg=>by first|omega|(simp only [inK];omega)|exact True.intro|assumption)|exact Val.load rfl (fun _=>rdOwn1 rfl)|exact Val.loadA rfl (fun _=>rdAll) rfl) rfl rfl rfl (by first|exact Hle.refl _|exact Hle.none _|exact Hle.sub) ?_
       refine T_dval 4 rfl (by kernel_rfl) (by kernel_rfl) (by kernel_rfl) (by kernel_rfl) (by kernel_rfl) rfl rfl (by first|exact Val.pure rfl|exact Val.vc rfl (fun hg=>by first|omega|(simp only [inK];omega)|exact True.intro|assumption)|exact Val.load rfl (fun _=>rdOwn1 rfl)|exact Val.loadA rfl (fun _=>rdAll) rfl) rfl rfl rfl (by first|exact Hle.refl _|exact Hle.none _|exact Hle.sub) ?_
       refine T_dval 5 rfl (by kernel_rfl) (by kernel_rfl) (by kernel_rfl) (by kernel_rfl) (by kernel_rfl) rfl rfl (by first|exact Val.pure rfl|exact Val.vc rfl (fun hg=>by first|omega|(simp only [inK];omega)|exact True.intro|assumption)|exact Val.load rfl (fun _=>rdOwn1 rfl)|exact Val.loadA rfl (fun _=>rdAll) rfl) rfl rfl rfl (by first|exact Hle.refl _|exact Hle.none _|exact Hle.sub) ?_
       refine T_dval 6 rfl (by kernel_rfl) (by kernel_rfl) (by kernel_rfl) (by kernel_rfl) (by kernel_rfl) rfl rfl (Val.load (v := .int .i64 (lv e i k)) rfl (fun _=>rdOwn1 (b:=b1) (vget k (by omega) (by omega)))) rfl rfl rfl (by first|exact Hle.refl _|exact Hle.none _) ?_
       refine T_dval 7 rfl (by kernel_rfl) (by kernel_rfl) (by kernel_rfl) (by kernel_rfl) (by kernel_rfl) rfl rfl (by first|exact Val.pure rfl|exact Val.vc rfl (fun hg=>by first|omega|(simp only [inK];omega)|exact True.intro|assumption)|exact Val.load rfl (fun _=>rdOwn1 rfl)|exact Val.loadA rfl (fun _=>rdAll) rfl) rfl rfl rfl (by first|exact Hle.refl _|exact Hle.none _|exact Hle.sub) ?_
       refine T_dval 8 rfl (by kernel_rfl) (by kernel_rfl) (by kernel_rfl) (by kernel_rfl) (by kernel_rfl) rfl rfl (by first|exact Val.pure rfl|exact Val.vc rfl (fun hg=>by first|omega|(simp only [inK];omega)|exact True.intro|assumption)|exact Val.load rfl (fun _=>rdOwn1 rfl)|exact Val.loadA rfl (fun _=>rdAll) rfl) rfl rfl rfl (by first|exact Hle.refl _|exact Hle.none _|exact Hle.sub) ?_
       refine T_dval 9 rfl (by kernel_rfl) (by kernel_rfl) (by kernel_rfl) (by kernel_rfl) (by kernel_rfl) rfl rfl (by first|exact Val.pure rfl|exact Val.vc rfl (fun hg=>by first|omega|(simp only [inK];omega)|exact True.intro|assumption)|exact Val.load rfl (fun _=>rdOwn1 rfl)|exact Val.loadA rfl (fun _=>rdAll) rfl) rfl rfl rfl (by first|exact Hle.refl _|exact Hle.none _|exact Hle.sub) ?_
       refine T_dval 10 rfl (by kernel_rfl) (by kernel_rfl) (by kernel_rfl) (by kernel_rfl) (by kernel_rfl) rfl rfl (by first|exact Val.pure rfl|exact Val.vc rfl (fun hg=>by first|omega|(simp only [inK];omega)|exact True.intro|assumption)|exact Val.load rfl (fun _=>rdOwn1 rfl)|exact Val.loadA rfl (fun _=>rdAll) rfl) rfl rfl rfl (by first|exact Hle.refl _|exact Hle.none _|exact Hle.sub) ?_
       refine T_dval 11 rfl (by kernel_rfl) (by kernel_rfl) (by kernel_rfl) (by kernel_rfl) (by kernel_rfl) rfl rfl (by first|exact Val.pure rfl|exact Val.vc rfl (fun hg=>by first|omega|(simp only [inK];omega)|exact True.intro|assumption)|exact Val.load rfl (fun _=>rdOwn1 rfl)|exact Val.loadA rfl (fun _=>rdAll) rfl) rfl rfl rfl (by first|exact Hle.refl _|exact Hle.none _|exact Hle.sub) ?_
       refine T_dval 12 rfl (by kernel_rfl) (by kernel_rfl) (by kernel_rfl) (by kernel_rfl) (by kernel_rfl) rfl rfl (by first|exact Val.pure rfl|exact Val.vc rfl (fun hg=>by first|omega|(simp only [inK];omega)|exact True.intro|assumption)|exact Val.load rfl (fun _=>rdOwn1 rfl)|exact Val.loadA rfl (fun _=>rdAll) rfl) rfl rfl rfl (by first|exact Hle.refl _|exact Hle.none _|exact Hle.sub) ?_
       refine T_dval 13 rfl (by kernel_rfl) (by kernel_rfl) (by kernel_rfl) (by kernel_rfl) (by kernel_rfl) rfl rfl (Val.load (v := .int .i64 (lv e i (k+1))) rfl (fun _=>rdOwn1 (b:=b1) (vget (k+1) (by omega) (by omega)))) rfl rfl rfl (by first|exact Hle.refl _|exact Hle.none _) ?_
       refine T_dval 14 rfl (by kernel_rfl) (by kernel_rfl) (by kernel_rfl) (by kernel_rfl) (by kernel_rfl) rfl rfl (by first|exact Val.pure rfl|exact Val.vc rfl (fun hg=>by first|omega|(simp only [inK];omega)|exact True.intro|assumption)|exact Val.load rfl (fun _=>rdOwn1 rfl)|exact Val.loadA rfl (fun _=>rdAll) rfl) rfl rfl rfl (by first|exact Hle.refl _|exact Hle.none _|exact Hle.sub) ?_
       refine T_dval 15 rfl (by kernel_rfl) (by kernel_rfl) (by kernel_rfl) (by kernel_rfl) (by kernel_rfl) rfl rfl (by first|exact Val.pure rfl|exact Val.vc rfl (fun hg=>by first|omega|(simp only [inK];omega)|exact True.intro|assumption)|exact Val.load rfl (fun _=>rdOwn1 rfl)|exact Val.loadA rfl (fun _=>rdAll) rfl) rfl rfl rfl (by first|exact Hle.refl _|exact Hle.none _|exact Hle.sub) ?_
       refine T_dval 16 rfl (by kernel_rfl) (by kernel_rfl) (by kernel_rfl) (by kernel_rfl) (by kernel_rfl) rfl rfl (by first|exact Val.pure rfl|exact Val.vc rfl (fun hg=>by first|omega|(simp only [inK];omega)|exact True.intro|assumption)|exact Val.load rfl (fun _=>rdOwn1 rfl)|exact Val.loadA rfl (fun _=>rdAll) rfl) rfl rfl rfl (by first|exact Hle.refl _|exact Hle.none _|exact Hle.sub) ?_
       refine T_dval 17 rfl (by kernel_rfl) (by kernel_rfl) (by kernel_rfl) (by kernel_rfl) (by kernel_rfl) rfl rfl (by first|exact Val.pure rfl|exact Val.vc rfl (fun hg=>by first|omega|(simp only [inK];omega)|exact True.intro|assumption)|exact Val.load rfl (fun _=>rdOwn1 rfl)|exact Val.loadA rfl (fun _=>rdAll) rfl) rfl rfl rfl (by first|exact Hle.refl _|exact Hle.none _|exact Hle.sub) ?_
       refine T_dval 18 rfl (by kernel_rfl) (by kernel_rfl) (by kernel_rfl) (by kernel_rfl) (by kernel_rfl) rfl rfl (Val.load (v := .int .i64 (lv e (i+1) k)) rfl (fun _=>rdOwn1 (b:=b2) (vgetm k (by omega) (by omega) (by omega)))) rfl rfl rfl (by first|exact Hle.refl _|exact Hle.none _) ?_
       refine T_dval 19 rfl (by kernel_rfl) (by kernel_rfl) (by kernel_rfl) (by kernel_rfl) (by kernel_rfl) rfl rfl (by first|exact Val.pure rfl|exact Val.vc rfl (fun hg=>by first|omega|(simp only [inK];omega)|exact True.intro|assumption)|exact Val.load rfl (fun _=>rdOwn1 rfl)|exact Val.loadA rfl (fun _=>rdAll) rfl) rfl rfl rfl (by first|exact Hle.refl _|exact Hle.none _|exact Hle.sub) ?_
       refine T_dval 20 rfl (by kernel_rfl) (by kernel_rfl) (by kernel_rfl) (by kernel_rfl) (by kernel_rfl) rfl rfl (by first|exact Val.pure rfl|exact Val.vc rfl (fun hg=>by first|omega|(simp only [inK];omega)|exact True.intro|assumption)|exact Val.load rfl (fun _=>rdOwn1 rfl)|exact Val.loadA rfl (fun _=>rdAll) rfl) rfl rfl rfl (by first|exact Hle.refl _|exact Hle.none _|exact Hle.sub) ?_
       refine T_dval 21 rfl (by kernel_rfl) (by kernel_rfl) (by kernel_rfl) (by kernel_rfl) (by kernel_rfl) rfl rfl (by first|exact Val.pure rfl|exact Val.vc rfl (fun hg=>by first|omega|(simp only [inK];omega)|exact True.intro|assumption)|exact Val.load rfl (fun _=>rdOwn1 rfl)|exact Val.loadA rfl (fun _=>rdAll) rfl) rfl rfl rfl (by first|exact Hle.refl _|exact Hle.none _|exact Hle.sub) ?_
       refine T_dop 22 (by kernel_rfl) rfl (OpT.store (b:=b2) rfl rfl rfl rfl (by rw [valV_length];omega) ⟨fun h=>(by cases h),?_⟩)
       refine T_dend (by kernel_rfl) ?_
       repeat' (first|refine d1 ?_|fail)
       refine T_back (k+1) (by omega) (by omega) ⟨rfl,rfl,rfl,rfl,rfl,rfl,rfl,rfl,rfl,rfl,trivial⟩ ?_
       show Hle [_,blk b2 ((valV (mx (lv e (i+1)) g (k+1)) (m+1)).set (0+(k+1) * 1) (.int .i64 (min (min (lv e i k+if e i k then 0 else 1) (lv e i (k+1)+1)) (lv e (i+1) k+1)))) 3] _
       rw [show 0+(k+1) * 1=k+1 by omega,valV_set (f:=lv e (i+1)) (by rw [lv_step];omega)]
       exact Hle.refl _
     ·simp only [decide_eq_false_iff_not] at h2
      rw [valV_mx_full _ _ _ _ (by omega)]
      repeat' (first|refine d1 ?_|fail)
      exact T_back (i+1,lv e i,b2,b1) (Nat.succ_le_of_lt (by omega)) (by dsimp only;omega) ⟨rfl,rfl,rfl,rfl,rfl,rfl,rfl,trivial⟩ (Hle.perm (List.Perm.swap _ _ _))
    ·simp only [decide_eq_false_iff_not] at h1
     have hin:i=n:=by omega
     subst hin
     repeat' (first|refine d1 ?_|(show T _ (.ops _ (_::_)::_) _ _ _;refine T_load (v := .int .i64 (lv e i m)) rfl rfl rfl rfl rfl (rdOwn1 (b:=b1) (vget m (by omega) (by omega))) ?_)|(show T _ (.code .ret::_) _ _ _;refine T_retV [] rfl (Hle.none _) ⟨rfl,rfl⟩))

def eqB (a b:ByteArray) (i j:Nat):Bool:=decide (((byteAt a (i:Int)).toNat:Int)=((byteAt b (j:Int)).toNat:Int))
theorem equal1_spec (a b:ByteArray) (p2 p3 ba bb ca cb i j:Nat) (hi:i<a.size) (hj:j<b.size) (w:World) (h2:RdC w p2 0 [.slice (some ⟨ba,0,none⟩) a.size ca]) (h3:RdC w p3 0 [.slice (some ⟨bb,0,none⟩) b.size cb]) (ha:RdC w ba 0 (byteVals a)) (hb:RdC w bb 0 (byteVals b)) :
  Spec Tryz.prog 232 [.int .i64 i, .int .i64 j, .pointer (some ⟨p2,0,none⟩), .pointer (some ⟨p3,0,none⟩)] w (fun v A=>v = .bool (eqB a b i j)∧A=[]):=by
 refine spec_of sg Tryz.func232 rfl rfl rfl ?_
 have hx:∀ {s:ByteArray} {c k:Nat},RdC w c 0 (byteVals s)→k<s.size→RdC w c (0+(k:Int).toNat * 1) [.int .u8 ((byteAt s (k:Int)).toNat:Nat)]:=by
  intro s c k h hk q u hu
  rw [show 0+(k:Int).toNat * 1=k by omega]
  cases q with
  | zero =>
   simp at hu;subst hu
   have:=h k _ (byteVals_get hk)
   simpa using this
  | succ q=>simp at hu
 repeat' (first|refine d1 ?_|fail)
 show T _ (.code (.region _ _ true)::_) _ _ _
 refine T_draw 1000 [] ?_
 refine T_dval 0 rfl (by kernel_rfl) (by kernel_rfl) (by kernel_rfl) (by kernel_rfl) (by kernel_rfl) rfl rfl (Val.load (v := .slice (some ⟨ba,0,none⟩) a.size ca) rfl (fun _=>rdOld h2)) rfl rfl rfl (by first|exact Hle.refl _|exact Hle.none _) ?_
 refine T_dval 1 rfl (by kernel_rfl) (by kernel_rfl) (by kernel_rfl) (by kernel_rfl) (by kernel_rfl) rfl rfl (by first|exact Val.pure rfl|exact Val.vc rfl (fun hg=>by first|omega|(simp only [inK];omega)|exact True.intro|assumption)|exact Val.load rfl (fun _=>rdOwn1 rfl)|exact Val.loadA rfl (fun _=>rdAll) rfl) rfl rfl rfl (by first|exact Hle.refl _|exact Hle.none _|exact Hle.sub) ?_
 refine T_dval 2 rfl (by kernel_rfl) (by kernel_rfl) (by kernel_rfl) (by kernel_rfl) (by kernel_rfl) rfl rfl (by first|exact Val.pure rfl|exact Val.vc rfl (fun hg=>by first|omega|(simp only [inK];omega)|exact True.intro|assumption)|exact Val.load rfl (fun _=>rdOwn1 rfl)|exact Val.loadA rfl (fun _=>rdAll) rfl) rfl rfl rfl (by first|exact Hle.refl _|exact Hle.none _|exact Hle.sub) ?_
 refine T_dval 3 rfl (by kernel_rfl) (by kernel_rfl) (by kernel_rfl) (by kernel_rfl) (by kernel_rfl) rfl rfl (Val.load (v := .int .u8 ((byteAt a (i:Int)).toNat:Nat)) rfl (fun _=>rdOld (hx ha hi))) rfl rfl rfl (by first|exact Hle.refl _|exact Hle.none _) ?_
 refine T_dval 4 rfl (by kernel_rfl) (by kernel_rfl) (by kernel_rfl) (by kernel_rfl) (by kernel_rfl) rfl rfl (Val.load (v := .slice (some ⟨bb,0,none⟩) b.size cb) rfl (fun _=>rdOld h3)) rfl rfl rfl (by first|exact Hle.refl _|exact Hle.none _) ?_
 refine T_dval 5 rfl (by kernel_rfl) (by kernel_rfl) (by kernel_rfl) (by kernel_rfl) (by kernel_rfl) rfl rfl (by first|exact Val.pure rfl|exact Val.vc rfl (fun hg=>by first|omega|(simp only [inK];omega)|exact True.intro|assumption)|exact Val.load rfl (fun _=>rdOwn1 rfl)|exact Val.loadA rfl (fun _=>rdAll) rfl) rfl rfl rfl (by first|exact Hle.refl _|exact Hle.none _|exact Hle.sub) ?_
 refine T_dval 6 rfl (by kernel_rfl) (by kernel_rfl) (by kernel_rfl) (by kernel_rfl) (by kernel_rfl) rfl rfl (by first|exact Val.pure rfl|exact Val.vc rfl (fun hg=>by first|omega|(simp only [inK];omega)|exact True.intro|assumption)|exact Val.load rfl (fun _=>rdOwn1 rfl)|exact Val.loadA rfl (fun _=>rdAll) rfl) rfl rfl rfl (by first|exact Hle.refl _|exact Hle.none _|exact Hle.sub) ?_
 refine T_dval 7 rfl (by kernel_rfl) (by kernel_rfl) (by kernel_rfl) (by kernel_rfl) (by kernel_rfl) rfl rfl (Val.load (v := .int .u8 ((byteAt b (j:Int)).toNat:Nat)) rfl (fun _=>rdOld (hx hb hj))) rfl rfl rfl (by first|exact Hle.refl _|exact Hle.none _) ?_
 refine T_dval 8 rfl (by kernel_rfl) (by kernel_rfl) (by kernel_rfl) (by kernel_rfl) (by kernel_rfl) rfl rfl (by first|exact Val.pure rfl|exact Val.vc rfl (fun hg=>by first|omega|(simp only [inK];omega)|exact True.intro|assumption)|exact Val.load rfl (fun _=>rdOwn1 rfl)|exact Val.loadA rfl (fun _=>rdAll) rfl) rfl rfl rfl (by first|exact Hle.refl _|exact Hle.none _|exact Hle.sub) ?_
 refine T_dval 9 rfl (by kernel_rfl) (by kernel_rfl) (by kernel_rfl) (by kernel_rfl) (by kernel_rfl) rfl rfl (by first|exact Val.pure rfl|exact Val.vc rfl (fun hg=>by first|omega|(simp only [inK];omega)|exact True.intro|assumption)|exact Val.load rfl (fun _=>rdOwn1 rfl)|exact Val.loadA rfl (fun _=>rdAll) rfl) rfl rfl rfl (by first|exact Hle.refl _|exact Hle.none _|exact Hle.sub) ?_
 refine T_dend (by kernel_rfl) ?_
 repeat' (first|(show T _ (.code .ret::_) _ _ _;refine T_retV [] rfl (Hle.none _) ⟨rfl,rfl⟩))
theorem equal_spec (sa sb:Value) (ha:sa.cells = #[sa]) (hb:sb.cells = #[sb]) (w:World):Spec Tryz.prog 229 [sa,sb] w (fun v A=>∃ p2 p3,v = .func (.func 232) #[] #[.pointer (some ⟨p2,0,none⟩), .pointer (some ⟨p3,0,none⟩)]∧A=[blk p3 [sb] 63,blk p2 [sa] 63]):=by
 refine spec_of sg Tryz.func229 rfl rfl rfl ?_
 refine T_op (OpT.box (cs:=[sa]) rfl rfl rfl (by rw [ha]) rfl rfl rfl (fun _=>?_))
 refine T_op (OpT.box (cs:=[sb]) rfl rfl rfl (by rw [hb]) rfl rfl rfl (fun _=>?_))
 repeat' (first|refine d1 ?_|(show T _ (.code .ret::_) _ _ _;refine T_retV _ rfl (Hle.refl _) ⟨_,_,rfl,rfl⟩))
theorem of_spec (a b:ByteArray) (ha:a.size≤65536) (hb:b.size≤65536) (w:World):Spec Tryz.prog 219 [.string a, .string b] w (fun v A=>v = .int .i64 (lv (eqB a b) a.size b.size)∧A=[]):=by
 refine spec_of sg Tryz.func219 rfl rfl rfl ?_
 repeat' (first|refine d1 ?_|fail)
 refine T_op (OpT.bytes rfl rfl rfl rfl rfl (fun ba ca=>?_))
 repeat' (first|refine d1 ?_|fail)
 refine T_op (OpT.bytes rfl rfl rfl rfl rfl (fun bb cb=>?_))
 refine T_op (OpT.call rfl rfl rfl rfl rfl (fun w _=>equal_spec _ _ rfl rfl w) ?_)
 rintro v A ⟨p2,p3,rfl,rfl⟩
 show T _ _ _ _ [blk p3 [.slice (some ⟨bb,0,none⟩) b.size cb] 63,blk p2 [.slice (some ⟨ba,0,none⟩) a.size ca] 63,byt bb 5 b,byt ba 5 a]
 repeat' (first|refine d1 ?_|(show T _ (.ops _ (_::_)::_) _ _ _;refine T_call rfl rfl rfl rfl rfl (fun w hw=>distances_spec a.size b.size ha hb _ [] [.pointer (some ⟨p2,0,none⟩), .pointer (some ⟨p3,0,none⟩)] (eqB a b) w (fun i j hi hj w' hb'=>equal1_spec a b p2 p3 ba bb ca cb i j hi hj w' ((rdOwn1 (b:=p2) rfl w hw).below hb') ((rdOwn1 (b:=p3) rfl w hw).below hb') ((rdByt (b:=ba) w hw).below hb') ((rdByt (b:=bb) w hw).below hb'))) ?_)|(show T _ (.code .ret::_) _ _ _;refine T_retV [] rfl (Hle.none _) ⟨rfl,rfl⟩))
theorem longPrg_spec (n m:Int) (w:World):Spec Tryz.prog 218 [.int .i64 n, .int .i64 m] w (fun v A=>v = .bool (decide (256<max n m))∧A=[]):=by
 refine spec_of sg Tryz.func218 rfl rfl rfl ?_
 repeat' (first|refine d1 ?_|(show T _ (.code .ret::_) _ _ _;refine T_retV [] rfl (Hle.none _) ⟨rfl,rfl⟩))
theorem distPrg_spec (a b:ByteArray) (w:World):Spec Tryz.prog 206 [.string a, .string b] w (fun v A=>v=(if 256<max (a.size:Int) b.size then .tuple #[.int .i64 0, .int .i64 4] else .tuple #[.int .i64 (lv (eqB a b) a.size b.size), .int .i64 0])∧A=[]):=by
 refine spec_of sg Tryz.func206 rfl rfl rfl ?_
 repeat' (first|refine d1 ?_|(show T _ (.ops _ (_::_)::_) _ _ _;refine T_call rfl rfl rfl rfl rfl (fun w hw=>longPrg_spec _ _ w) ?_)|fail)
 refine T_if rfl (fun h=>?_) (fun h=>?_)
 ·simp only [decide_eq_true_eq] at h
  repeat' (first|refine d1 ?_|(show T _ (.code .ret::_) _ _ _;refine T_retV [] rfl (Hle.none _) ⟨by rw [if_pos h];rfl,rfl⟩))
 ·simp only [decide_eq_false_iff_not] at h
  repeat' (first|refine d1 ?_|(show T _ (.ops _ (_::_)::_) _ _ _;refine T_call rfl rfl rfl rfl rfl (fun w hw=>of_spec a b (by omega) (by omega) w) ?_)|(show T _ (.code .ret::_) _ _ _;refine T_retV [] rfl (Hle.none _) ⟨by rw [if_neg h];rfl,rfl⟩))
end Go.Proofs.YtefieebkankfoaaGreatDoor
namespace Go.Proofs.YtefieebkankfoaaGreatDoor
open Go.RowKit Go.Shelf Go.Proofs
set_option maxRecDepth 100000
set_option maxHeartbeats 1000000

def slv (m:Nat) (x:Nat × List Value):Value := .slice (some ⟨x.1,0,none⟩) (m+1) (m+1)
end Go.Proofs.YtefieebkankfoaaGreatDoor
namespace Go.Proofs.YtefieebkankfoaaGreatDoor
open Go.RowKit Go.Shelf Go.Proofs
set_option maxRecDepth 100000
set_option maxHeartbeats 1000000

theorem badPrg_spec (n:Int) (w:World):Spec Tryz.prog 68 [.int .i64 n] w (fun v A=>v = .bool (badN n)∧A=[]):=by
 refine spec_of sg Tryz.func68 rfl rfl rfl ?_
 repeat' (first|refine d1 ?_|(show T _ (.code .ret::_) _ _ _;refine T_retV [] rfl (Hle.none _) ⟨rfl,rfl⟩))
theorem costPrg_spec (c:Costs) (w:World):Spec Tryz.prog 43 [c.val] w (fun v A=>v = .int .i64 (costE c)∧A=[]):=by
 refine spec_of sg Tryz.func43 rfl rfl rfl ?_
 repeat' (first|(show T _ (.ops _ (⟨_, .box _ _,_,_,_,_⟩::_)::_) _ _ _;refine T_op (OpT.box (cs:=c.cells) rfl rfl rfl rfl rfl rfl rfl (fun _=>?_)))|refine d1 ?_|(show T _ (.ops _ (_::_)::_) _ _ _;refine T_call rfl rfl rfl rfl rfl (fun w hw=>containsFuncI_spec _ _ _ c.ints _ [] [] badN w (Src.own hw rfl) rfl (by omega) (fun x _ w' _=>badPrg_spec x w')) ?_)|(show ∀ _:Nat,T _ _ _ _ _;intro _))
 refine T_if rfl (fun h=>?_) (fun h=>?_)
 ·repeat' (first|refine d1 ?_|(show T _ (.code .ret::_) _ _ _;refine T_retV [] rfl (Hle.none _) ⟨congrArg (Value.int .i64) ?_,rfl⟩))
  unfold costE;rw [if_pos h]
 ·repeat' (first|refine d1 ?_|fail)
  refine T_if rfl (fun h2=>?_) (fun h2=>?_)
  ·simp only [decide_eq_true_eq] at h2
   repeat' (first|refine d1 ?_|(show T _ (.code .ret::_) _ _ _;refine T_retV [] rfl (Hle.none _) ⟨congrArg (Value.int .i64) ?_,rfl⟩))
   unfold costE;rw [if_neg (by rw [h];simp),if_pos h2]
  ·simp only [decide_eq_false_iff_not] at h2
   repeat' (first|refine d1 ?_|(show T _ (.code .ret::_) _ _ _;refine T_retV [] rfl (Hle.none _) ⟨congrArg (Value.int .i64) ?_,rfl⟩))
   unfold costE;rw [if_neg (by rw [h];simp),if_neg h2]
theorem gapPrgC_spec (c:Costs) (t:Tok) (hc:0≤c.gap∧c.gap≤1000) (ht:0≤t.flags∧t.flags≤31) (w:World):Spec Tryz.prog 151 [c.val,t.val] w (fun v A=>v = .int .i64 (gapC c t)∧A=[]):=by
 refine spec_of sg Tryz.func151 rfl rfl rfl ?_
 have hfl:=(flags_law t.flags ht).2.1
 refine T_op (OpT.box (cs:=c.cells) rfl rfl rfl rfl rfl rfl rfl (fun _=>?_))
 repeat' (first|(show T _ (.ops _ (⟨_, .box _ _,_,_,_,_⟩::_)::_) _ _ _;refine T_op (OpT.box (cs:=t.cells) rfl rfl rfl rfl rfl rfl rfl (fun _=>?_)))|refine d1 ?_|fail)
 rw [show (!decide (andI t.flags 8=0))=hasN t.flags 8 by rw [← hfl];simp]
 refine T_if rfl (fun h=>?_) (fun h=>?_)
 ·repeat' (first|refine d1 ?_|(show T _ (.code .ret::_) _ _ _;refine T_retV [] rfl (Hle.none _) ⟨congrArg (Value.int .i64) ?_,rfl⟩))
  unfold gapC;rw [if_pos h]
 ·repeat' (first|refine d1 ?_|(show T _ (.code .ret::_) _ _ _;refine T_retV [] rfl (Hle.none _) ⟨congrArg (Value.int .i64) ?_,rfl⟩))
  unfold gapC;rw [if_neg (by rw [h];simp)]
theorem rule3_spec (c:Costs) (a b:Tok) (hc:costE c=0) (hsa:a.norm.size≤128) (hsb:b.norm.size≤128) (w:World):Spec Tryz.prog 205 [c.val,a.val,b.val] w (fun v A=>v = .tuple #[.int .i64 (min c.most (max c.norm (c.letter * distS a.norm b.norm))), .bool true]∧A=[]):=by
 obtain⟨c1,c2,c3,c4,c5⟩:=costE_ok hc
 refine spec_of sg Tryz.func205 rfl rfl rfl ?_
 refine T_op (OpT.box (cs:=c.cells) rfl rfl rfl rfl rfl rfl rfl (fun _=>?_))
 refine T_op (OpT.box (cs:=a.cells) rfl rfl rfl rfl rfl rfl rfl (fun _=>?_))
 refine T_op (OpT.box (cs:=b.cells) rfl rfl rfl rfl rfl rfl rfl (fun _=>?_))
 repeat' (first|refine d1 ?_|fail)
 refine T_op (OpT.call rfl rfl rfl rfl rfl (fun w _=>distPrg_spec a.norm b.norm w) ?_)
 rintro v A ⟨hv,rfl⟩
 rw [if_neg (by omega)] at hv
 subst hv
 show T _ _ _ _ [_,_,_]
 have hd:=lv_bd (eqB a.norm b.norm) a.norm.size b.norm.size
 have hm:0≤c.letter * lv (eqB a.norm b.norm) a.norm.size b.norm.size∧c.letter * lv (eqB a.norm b.norm) a.norm.size b.norm.size≤1000 * 256 :=
  ⟨Int.mul_nonneg (by omega) (by omega),Int.mul_le_mul (by omega) (by omega) (by omega) (by omega)⟩
 repeat' (first|refine d1 ?_|(show T _ (.code .ret::_) _ _ _;refine T_retV [] rfl (Hle.none _) ⟨rfl,rfl⟩))

theorem rule1_spec (c:Costs) (a b:Tok) (w:World):Spec Tryz.prog 203 [c.val,a.val,b.val] w (fun v A=>v = .tuple #[.int .i64 0, .bool (decide (a.text=b.text))]∧A=[]):=by
 refine spec_of sg Tryz.func203 rfl rfl rfl ?_
 refine T_op (OpT.box (cs:=c.cells) rfl rfl rfl rfl rfl rfl rfl (fun pc=>?_))
 refine T_op (OpT.box (cs:=a.cells) rfl rfl rfl rfl rfl rfl rfl (fun pa=>?_))
 refine T_op (OpT.box (cs:=b.cells) rfl rfl rfl rfl rfl rfl rfl (fun pb=>?_))
 repeat' (first|refine d1 ?_|refine dd ?_|(show T _ (.code .ret::_) _ _ _;refine T_retV [] rfl (Hle.none _) ⟨rfl,rfl⟩))

theorem rule2_spec (c:Costs) (a b:Tok) (ha:0≤a.flags∧a.flags≤31) (hb:0≤b.flags∧b.flags≤31) (ho:0≤orI a.flags b.flags∧orI a.flags b.flags≤31) (w:World):Spec Tryz.prog 204 [c.val,a.val,b.val] w (fun v A=>v = .tuple #[.int .i64 c.norm, .bool (decide (a.norm=b.norm) || !decide (andI (orI a.flags b.flags) 2=0))]∧A=[]):=by
 refine spec_of sg Tryz.func204 rfl rfl rfl ?_
 refine T_op (OpT.box (cs:=c.cells) rfl rfl rfl rfl rfl rfl rfl (fun pc=>?_))
 refine T_op (OpT.box (cs:=a.cells) rfl rfl rfl rfl rfl rfl rfl (fun pa=>?_))
 refine T_op (OpT.box (cs:=b.cells) rfl rfl rfl rfl rfl rfl rfl (fun pb=>?_))
 repeat' (first|refine d1 ?_|refine dd ?_|(show T _ (.code .ret::_) _ _ _;refine T_retV [] rfl (Hle.none _) ⟨rfl,rfl⟩))
end Go.Proofs.YtefieebkankfoaaGreatDoor
namespace Go.Proofs.YtefieebkankfoaaGreatDoor
open Go.RowKit Go.Shelf Go.Proofs
set_option maxRecDepth 100000
set_option maxHeartbeats 1000000

theorem eqTok (a b:Tok) (w:World):(Op.equalIn 10000 79 (.agg a.cells.toArray) (.agg b.cells.toArray)).run Tryz.prog w = .ok (decide (a=b)) w:=by
 have hS:Tryz.prog.underlying 79=some (.struct (Tryz.prog.fieldsOf 79)):=by kernel_rfl
 have hp:Tryz.prog.stoodInHeld 79=false:=Tryz.stoodInHeld79
 have hS2:Tryz.prog.underlying 77=some (.struct (Tryz.prog.fieldsOf 77)):=by kernel_rfl
 have hp2:Tryz.prog.stoodInHeld 77=false:=Tryz.stoodInHeld77
 have u3:=Tryz.underlying3
 have a3:=Tryz.isAgg3
 have u9:=Tryz.underlying9
 have a9:=Tryz.isAgg9
 have a25:=Tryz.isAgg77
 have z25:=Tryz.sizeOf77
 have h2:∀ (p q:ByteArray) (m n:Int),(Op.equalIn 9999 77 (.agg #[.string p, .int .i64 m]) (.agg #[.string q, .int .i64 n])).run Tryz.prog w = .ok (decide (p=q) && decide (m=n)) w:=by
  intro p q m n
  rw [show (9999:Nat)=9998+1 from rfl,run_equalIn_agg w 9998 77 _ _ hS2 hp2]
  simp only [Program.fieldsOf,Tryz.underlying77]
  go_simp
  simp only [toL_iff]
  (repeat' split) <;> simp_all
 rw [show (10000:Nat)=9999+1 from rfl,run_equalIn_agg w 9999 79 _ _ hS hp]
 simp only [Program.fieldsOf,Tryz.underlying79]
 clear hS2 hp2
 go_simp
 try simp only [h2]
 simp only [toL_iff]
 rw [show decide (a=b)=decide (a.text=b.text∧a.norm=b.norm∧a.page=b.page∧a.line=b.line∧a.flags=b.flags∧a.name=b.name) from decide_eq_decide.2 (Tok.eq_iff a b)]
 (repeat' split) <;> simp_all

theorem rules_spec (w:World):Spec Tryz.prog 185 [] w (fun v A=>∃ g:Nat,True∧v = .slice (some ⟨g,0,none⟩) 3 3∧A=[blk g [.func (.func 203) #[] #[], .func (.func 204) #[] #[], .func (.func 205) #[] #[]] 225]):=by
 refine spec_of sg Tryz.func185 rfl rfl rfl ?_
 repeat' (first|refine d1 ?_|(show ∀ _:Nat,T _ _ _ _ _;intro _))
 rename_i g
 refine T_retV _ rfl (Hle.refl _) ⟨g,trivial,rfl,rfl⟩
theorem pairPrg_spec (c:Costs) (a b:Tok) (hc:costE c=0) (ha:0≤a.flags∧a.flags≤31) (hb:0≤b.flags∧b.flags≤31) (hsa:a.norm.size≤128) (hsb:b.norm.size≤128) (w:World):Spec Tryz.prog 150 [c.val,a.val,b.val] w (fun v A=>v = .int .i64 (pairC c a b)∧A=[]):=by
 obtain⟨ho1,ho2⟩:=or_law a.flags b.flags ha hb
 refine spec_of sg Tryz.func150 rfl rfl rfl ?_
 refine T_op (OpT.box (cs:=c.cells) rfl rfl rfl rfl rfl rfl rfl (fun pc=>?_))
 refine T_op (OpT.box (cs:=a.cells) rfl rfl rfl rfl rfl rfl rfl (fun pa=>?_))
 refine T_op (OpT.box (cs:=b.cells) rfl rfl rfl rfl rfl rfl rfl (fun pb=>?_))
 repeat' (first|refine d1 ?_|(show T _ (.ops _ (_::_)::_) _ _ _;refine T_callE rfl rfl rfl rfl rfl (fun w hw=>rules_spec w) (fun g _=>?_))|fail)
 refine T_loopX (fun k:Nat=>[(13, .int .i64 k)]) (fun _=>[blk g _ _,blk pb b.cells 79,blk pa a.cells 79,blk pc c.cells 51]) (fun k=>k≤2∧(1≤k→a.text≠b.text)∧(2≤k→¬ (a.norm=b.norm∨hasN a.flags 2=true∨hasN b.flags 2=true))) (fun k=>3 - k) 0 ⟨by omega,by omega,by omega⟩ ?_
 rintro k ⟨hk,h1,h2⟩
 repeat' (first|refine d1 ?_|fail)
 refine T_if rfl (fun h=>?_) (fun h=>?_)
 ·have hk3:k=0∨k=1∨k=2:=by omega
  rcases hk3 with rfl|rfl|rfl
  ·repeat' (first|refine d1 ?_|(show T _ (.ops _ (_::_)::_) _ _ _;refine T_call rfl rfl rfl rfl rfl (fun w hw=>rule1_spec c a b w) ?_)|fail)
   refine T_if rfl (fun h3=>?_) (fun h3=>?_)
   ·repeat' (first|refine d1 ?_|(show T _ (.code .ret::_) _ _ _;refine T_retV [] rfl (Hle.none _) ⟨congrArg (Value.int .i64) ?_,rfl⟩))
    simp only [decide_eq_true_eq] at h3
    unfold pairC;rw [if_pos h3]
   ·simp only [decide_eq_false_iff_not] at h3
    repeat' (first|refine d1 ?_|fail)
    exact T_backX 1 ⟨by omega,fun _=>h3,by omega⟩ (by omega)
  ·have h1:=h1 (by omega)
   repeat' (first|refine d1 ?_|(show T _ (.ops _ (_::_)::_) _ _ _;refine T_call rfl rfl rfl rfl rfl (fun w hw=>rule2_spec c a b ha hb ho1 w) ?_)|fail)
   rw [ho2]
   refine T_if rfl (fun h3=>?_) (fun h3=>?_)
   ·repeat' (first|refine d1 ?_|(show T _ (.code .ret::_) _ _ _;refine T_retV [] rfl (Hle.none _) ⟨congrArg (Value.int .i64) ?_,rfl⟩))
    simp only [Bool.or_eq_true,decide_eq_true_eq] at h3
    unfold pairC;rw [if_neg h1,if_pos h3]
   ·simp only [Bool.or_eq_false_iff,decide_eq_false_iff_not] at h3
    repeat' (first|refine d1 ?_|fail)
    refine T_backX 2 ⟨by omega,fun _=>h1,fun _ hh=>?_⟩ (by omega)
    rw [h3.2.1,h3.2.2] at hh
    simp [h3.1] at hh
  ·have h1:=h1 (by omega)
   have h2:=h2 (by omega)
   repeat' (first|refine d1 ?_|(show T _ (.ops _ (_::_)::_) _ _ _;refine T_call rfl rfl rfl rfl rfl (fun w hw=>rule3_spec c a b hc hsa hsb w) ?_)|fail)
   refine T_if rfl (fun h3=>?_) (fun h3=>by cases h3)
   repeat' (first|refine d1 ?_|(show T _ (.code .ret::_) _ _ _;refine T_retV [] rfl (Hle.none _) ⟨congrArg (Value.int .i64) ?_,rfl⟩))
   unfold pairC;rw [if_neg h1,if_neg h2]
 ·simp only [decide_eq_false_iff_not] at h
  omega
end Go.Proofs.YtefieebkankfoaaGreatDoor
namespace Go.Proofs.YtefieebkankfoaaGreatDoor
open Go.RowKit Go.Shelf Go.Proofs
set_option maxRecDepth 100000
set_option maxHeartbeats 1000000

def badL (l:List Tok):Bool:=l.any fun t => !decide (tokE t=0)
def tokErr (c:Costs) (l:List Tok):Int:=if (!decide (costE c=0) || badL l) then 1 else 0
theorem tokErr_ok {c:Costs} {l:List Tok} (h:tokErr c l=0):costE c=0∧∀ t∈l,tokE t=0:=by
 unfold tokErr badL at h
 split at h
 ·omega
 ·rename_i hh
  simp only [Bool.or_eq_true,not_or,Bool.not_eq_true',Bool.not_eq_true,Bool.not_eq_false',Bool.not_eq_false,decide_eq_true_eq,decide_eq_false_iff_not,List.any_eq_true,Bool.not_not,not_exists,not_and,Classical.not_not] at hh
  exact⟨by simpa using hh.1,fun t ht=>by simpa using hh.2 t ht⟩
theorem check1Prg_spec (t:Tok) (hl:t.small) (w:World) (hs:Std w):Spec Tryz.prog 220 [t.val] w (fun v A=>v = .bool (!decide (tokE t=0))∧A=[]):=by
 refine spec_of sg Tryz.func220 rfl rfl rfl ?_
 repeat' (first|(show T _ (.ops _ (⟨_, .box _ _,_,_,_,_⟩::_)::_) _ _ _;refine T_op (OpT.box (cs:=t.cells) rfl rfl rfl rfl rfl rfl rfl (fun _=>?_)))|refine d1 ?_|(show T _ (.ops _ (_::_)::_) _ _ _;refine T_call rfl rfl rfl rfl rfl (fun w hw=>tokPrg_spec t hl w (hs.cls hw)) ?_)|(show T _ (.code .ret::_) _ _ _;refine T_retV [] rfl (Hle.none _) ⟨rfl,rfl⟩))
theorem checkTC_spec (c:Costs) (A:Option Addr) (n cap:Nat) (l:List Tok) (w:World) (hs:Std w) (hl:Src w 6 A n (l.flatMap Tok.cells)) (hn:l.length=n) (hb:n≤9223372036854775807) (hsm:∀ t∈l,t.small) :
  Spec Tryz.prog 207 [c.val, .slice A n cap] w (fun v A=>v = .int .i64 (tokErr c l)∧A=[]):=by
 refine spec_of sg Tryz.func207 rfl rfl rfl ?_
 repeat' (first|(show T _ (.ops _ (⟨_, .box _ _,_,_,_,_⟩::_)::_) _ _ _;refine T_op (OpT.box (cs:=c.cells) rfl rfl rfl rfl rfl rfl rfl (fun _=>?_)))|refine d1 ?_|(show T _ (.ops _ (_::_)::_) _ _ _;first|refine T_call rfl rfl rfl rfl rfl (fun w hw=>costPrg_spec c w) ?_|refine T_callC rfl rfl rfl rfl rfl rfl rfl (fun hg w hw=>containsFuncT_spec A n cap l _ [] [] (fun t => !decide (tokE t=0)) w (rdSrc hl w hw) hn hb (fun x hx w' hb'=>check1Prg_spec x (hsm x hx) w' ((hs.cls hw).below hb'))) ?_)|fail)
 refine T_if rfl (fun h=>?_) (fun h=>?_)
 ·repeat' (first|refine d1 ?_|(show T _ (.code .ret::_) _ _ _;refine T_retV [] rfl (Hle.none _) ⟨congrArg (Value.int .i64) ?_,rfl⟩))
  unfold tokErr badL;rw [if_pos h]
 ·repeat' (first|refine d1 ?_|(show T _ (.code .ret::_) _ _ _;refine T_retV [] rfl (Hle.none _) ⟨congrArg (Value.int .i64) ?_,rfl⟩))
  unfold tokErr badL;rw [if_neg (by rw [h];simp)]
theorem pairV_eq (c:Costs) (a b:Tok):pairV c a b=if tokErr c [a,b]=0 then (pairC c a b,0) else (0,1):=by
 unfold pairV tokErr badL
 by_cases h1:costE c=0 <;> by_cases h2:tokE a=0 <;> by_cases h3:tokE b=0 <;> simp [h1,h2,h3]
theorem gapV_eq (c:Costs) (a:Tok):gapV c a=if tokErr c [a]=0 then (gapC c a,0) else (0,1):=by
 unfold gapV tokErr badL
 by_cases h1:costE c=0 <;> by_cases h2:tokE a=0 <;> simp [h1,h2]
theorem tokErr_01 (c:Costs) (l:List Tok):tokErr c l=0∨tokErr c l=1:=by unfold tokErr;split <;> omega
theorem pairTop_spec (c:Costs) (a b:Tok) (ha:a.small) (hb:b.small) (w:World) (hs:Std w):Spec Tryz.prog 221 [c.val,a.val,b.val] w (fun v A=>v = .tuple #[.int .i64 (pairV c a b).1, .int .i64 (pairV c a b).2]∧A=[]):=by
 refine spec_of sg Tryz.func221 rfl rfl rfl ?_
 refine T_op (OpT.box (cs:=c.cells) rfl rfl rfl rfl rfl rfl rfl (fun pc=>?_))
 refine T_op (OpT.box (cs:=a.cells) rfl rfl rfl rfl rfl rfl rfl (fun pa=>?_))
 refine T_op (OpT.box (cs:=b.cells) rfl rfl rfl rfl rfl rfl rfl (fun pb=>?_))
 repeat' (first|refine d1 ?_|(show T _ (.ops _ (_::_)::_) _ _ _;refine T_call rfl rfl rfl rfl rfl (fun w hw=>checkTC_spec c _ 2 _ [a,b] w (hs.cls hw) (Src.own hw rfl) rfl (by omega) (by simp [ha,hb])) ?_)|(show ∀ _:Nat,T _ _ _ _ _;intro _))
 rw [pairV_eq]
 refine T_if rfl (fun h=>?_) (fun h=>?_)
 ·simp only [Bool.not_eq_true',decide_eq_false_iff_not] at h
  rw [if_neg h]
  repeat' (first|refine d1 ?_|(show T _ (.code .ret::_) _ _ _;refine T_retV [] rfl (Hle.none _) ⟨?_,rfl⟩))
  rw [(tokErr_01 c [a,b]).resolve_left h];rfl
 ·simp only [Bool.not_eq_false',decide_eq_true_eq] at h
  rw [if_pos h]
  obtain⟨h1,h2⟩:=tokErr_ok h
  have k1:=tokE_ok (h2 a (by simp))
  have k2:=tokE_ok (h2 b (by simp))
  repeat' (first|refine d1 ?_|(show T _ (.ops _ (_::_)::_) _ _ _;refine T_call rfl rfl rfl rfl rfl (fun w hw=>pairPrg_spec c a b h1 k1.1 k2.1 (by omega) (by omega) w) ?_)|(show T _ (.code .ret::_) _ _ _;refine T_retV [] rfl (Hle.none _) ⟨rfl,rfl⟩))
theorem gapTop_spec (c:Costs) (a:Tok) (ha:a.small) (w:World) (hs:Std w):Spec Tryz.prog 187 [c.val,a.val] w (fun v A=>v = .tuple #[.int .i64 (gapV c a).1, .int .i64 (gapV c a).2]∧A=[]):=by
 refine spec_of sg Tryz.func187 rfl rfl rfl ?_
 refine T_op (OpT.box (cs:=c.cells) rfl rfl rfl rfl rfl rfl rfl (fun pc=>?_))
 refine T_op (OpT.box (cs:=a.cells) rfl rfl rfl rfl rfl rfl rfl (fun pa=>?_))
 repeat' (first|refine d1 ?_|(show T _ (.ops _ (_::_)::_) _ _ _;refine T_call rfl rfl rfl rfl rfl (fun w hw=>checkTC_spec c _ 1 _ [a] w (hs.cls hw) (Src.own hw rfl) rfl (by omega) (by simp [ha])) ?_)|(show ∀ _:Nat,T _ _ _ _ _;intro _))
 rw [gapV_eq]
 refine T_if rfl (fun h=>?_) (fun h=>?_)
 ·simp only [Bool.not_eq_true',decide_eq_false_iff_not] at h
  rw [if_neg h]
  repeat' (first|refine d1 ?_|(show T _ (.code .ret::_) _ _ _;refine T_retV [] rfl (Hle.none _) ⟨?_,rfl⟩))
  rw [(tokErr_01 c [a]).resolve_left h];rfl
 ·simp only [Bool.not_eq_false',decide_eq_true_eq] at h
  rw [if_pos h]
  obtain⟨h1,h2⟩:=tokErr_ok h
  have k0:=costE_ok h1
  have k1:=tokE_ok (h2 a (by simp))
  repeat' (first|refine d1 ?_|(show T _ (.ops _ (_::_)::_) _ _ _;refine T_call rfl rfl rfl rfl rfl (fun w hw=>gapPrgC_spec c a k0.1 k1.1 w) ?_)|(show T _ (.code .ret::_) _ _ _;refine T_retV [] rfl (Hle.none _) ⟨rfl,rfl⟩))
end Go.Proofs.YtefieebkankfoaaGreatDoor
namespace Go.Proofs.YtefieebkankfoaaGreatDoor
open Go.RowKit Go.Shelf Go.Proofs
set_option maxRecDepth 100000
set_option maxHeartbeats 1000000

def tokS (s:ByteArray):Tok:=⟨s,s, .empty,0,0, .empty⟩
def str (l:List UInt8):ByteArray:=⟨l.toArray⟩
instance (t:Tok):Decidable t.small:=inferInstanceAs (Decidable (_∧_))
theorem longT_small {t:Tok} (h:longT t=false):t.small∧t.text.size≤12∧t.norm.size≤12:=by
 simp only [longT,Bool.or_eq_false_iff,decide_eq_false_iff_not] at h
 unfold Tok.small;omega
end Go.Proofs.YtefieebkankfoaaGreatDoor
namespace Go.Proofs.YtefieebkankfoaaGreatDoor
open Go.RowKit Go.Shelf Go.ChangeShapes Go.WideShapes Go.Proofs
set_option maxRecDepth 100000

theorem knob:ownKnob Tryz.prog.godebug=none:=by kernel_rfl
theorem laidOk:laidOutB Tryz.prog=true:=by kernel_rfl
theorem tok_wt {f:Nat} {ds:List D} (h:wt sg (f+3) 79 ds):∃ t:Tok,ds=t.cells.map .v:=by
 obtain⟨a0,b0,rfl,h0,a1,b1,rfl,h1,a2,b2,rfl,h2,a3,b3,rfl,h3,a4,b4,rfl,h4,rfl⟩:=(show wtL (wt sg (f+2)) [(9,0),(9,1),(77,2),(3,4),(9,5)] ds from h)
 obtain⟨s0,rfl,_⟩:=(show ∃ s:ByteArray,a0=[.v (.string s)]∧s.size≤maxLen from h0)
 obtain⟨s1,rfl,_⟩:=(show ∃ s:ByteArray,a1=[.v (.string s)]∧s.size≤maxLen from h1)
 obtain⟨c0,d0,rfl,g0,c1,d1,rfl,g1,rfl⟩:=(show wtL (wt sg (f+1)) [(9,0),(3,1)] a2 from h2)
 obtain⟨s2,rfl,_⟩:=(show ∃ s:ByteArray,c0=[.v (.string s)]∧s.size≤maxLen from g0)
 obtain⟨n0,rfl,_⟩:=(show ∃ n,c1=[.v (.int .i64 n)]∧(Lit.int .i64 n).wf=true from g1)
 obtain⟨n1,rfl,_⟩:=(show ∃ n,a3=[.v (.int .i64 n)]∧(Lit.int .i64 n).wf=true from h3)
 obtain⟨s3,rfl,_⟩:=(show ∃ s:ByteArray,a4=[.v (.string s)]∧s.size≤maxLen from h4)
 exact⟨⟨s0,s1,s2,n0,n1,s3⟩,rfl⟩
section
variable {H:Type} {enc:TypeId × Value→H} {W:World} {base b0:Nat} {sp:Nat→Bool} {held:Bool} {r:Reach} {v:Value} {d:DataW H} {ps:List MemPlace}
end
theorem iface_var {n:String} {rest:List (String × DataW Unit)} {W:World} {g:Nat} {ti:TypeId} {ms:Array (String × TypeId)} {nm:String} {dd:DataW Unit} (h:laidMet Tryz.prog ((n, .iface nm dd)::rest) W) (hg:Tryz.prog.globalNamed n=some g)
  (ht:(Tryz.prog.globals[g]?).map (·.type)=some ti) (hi:Tryz.prog.underlying ti=some (.interface ms)):∃ tp p,W.var? Tryz.prog n=some #[.iface tp p]:=by
 obtain⟨ps,⟨g0,t0,cs0,f0,p0,q0,hg0,ht0,hv0,hd0,_,e0⟩,_,hrows⟩:=h
 obtain rfl:=Option.some.inj (hg.symm.trans hg0)
 obtain rfl:=Option.some.inj (ht.symm.trans ht0)
 obtain⟨l0⟩:=cs0
 cases f0 with
 | zero=>simp [DataW.trod] at hd0
 | succ f0 =>
  unfold DataW.trod at hd0
  rw [hi] at hd0
  split at hd0 <;> simp_all
end Go.Proofs.YtefieebkankfoaaGreatDoor
namespace Go.Proofs.YtefieebkankfoaaGreatDoor
open Go.RowKit Go.Shelf Go.ChangeShapes Go.WideShapes Go.Proofs
set_option maxRecDepth 100000

theorem words_app:∀ (w r:List Char),(w.all fun c => !(c == Char.ofNat 32))=true→wordsSigns (w++Char.ofNat 32::r)=w::wordsSigns r
 | [],_,_=>rfl
 | c::w,r,h=>by
  rw [List.all_cons,Bool.and_eq_true] at h
  have ih:=words_app w r h.2
  have hc:c≠Char.ofNat 32:=by simpa using h.1
  show wordsSigns (c::(w++Char.ofNat 32::r))=_
  rw [wordsSigns.eq_3 c _ hc,ih]
theorem io_eq : Tryz.prog.initOrder = "harness 27597454c744800805070ea993a6c7ef5f1435d54266d0de058cda0719a2f829 cut at apograph/apographlaw22.CollationKeeps apograph/apographlaw22.CollationReorders apograph/apographlaw22.CollationLines" := by kernel_rfl
theorem io_of : ∃ r : List Char, ("harness 27597454c744800805070ea993a6c7ef5f1435d54266d0de058cda0719a2f829 cut at apograph/apographlaw22.CollationKeeps apograph/apographlaw22.CollationReorders apograph/apographlaw22.CollationLines" : String) = String.ofList (Char.ofNat 104 :: Char.ofNat 97 :: Char.ofNat 114 :: Char.ofNat 110 :: Char.ofNat 101 :: Char.ofNat 115 :: Char.ofNat 115 :: Char.ofNat 32 :: Char.ofNat 50 :: Char.ofNat 55 :: Char.ofNat 53 :: Char.ofNat 57 :: Char.ofNat 55 :: Char.ofNat 52 :: Char.ofNat 53 :: Char.ofNat 52 :: Char.ofNat 99 :: Char.ofNat 55 :: Char.ofNat 52 :: Char.ofNat 52 :: Char.ofNat 56 :: Char.ofNat 48 :: Char.ofNat 48 :: Char.ofNat 56 :: Char.ofNat 48 :: Char.ofNat 53 :: Char.ofNat 48 :: Char.ofNat 55 :: Char.ofNat 48 :: Char.ofNat 101 :: Char.ofNat 97 :: Char.ofNat 57 :: Char.ofNat 57 :: Char.ofNat 51 :: Char.ofNat 97 :: Char.ofNat 54 :: Char.ofNat 99 :: Char.ofNat 55 :: Char.ofNat 101 :: Char.ofNat 102 :: Char.ofNat 53 :: Char.ofNat 102 :: Char.ofNat 49 :: Char.ofNat 52 :: Char.ofNat 51 :: Char.ofNat 53 :: Char.ofNat 100 :: Char.ofNat 53 :: Char.ofNat 52 :: Char.ofNat 50 :: Char.ofNat 54 :: Char.ofNat 54 :: Char.ofNat 100 :: Char.ofNat 48 :: Char.ofNat 100 :: Char.ofNat 101 :: Char.ofNat 48 :: Char.ofNat 53 :: Char.ofNat 56 :: Char.ofNat 99 :: Char.ofNat 100 :: Char.ofNat 97 :: Char.ofNat 48 :: Char.ofNat 55 :: Char.ofNat 49 :: Char.ofNat 57 :: Char.ofNat 97 :: Char.ofNat 50 :: Char.ofNat 102 :: Char.ofNat 56 :: Char.ofNat 50 :: Char.ofNat 57 :: Char.ofNat 32 :: Char.ofNat 99 :: Char.ofNat 117 :: Char.ofNat 116 :: Char.ofNat 32 :: r) := ⟨_, rfl⟩
theorem io_behind:∃ X:List (List Char),behindMainWord (wordsSigns Tryz.prog.initOrder.toList)=[Char.ofNat 99,Char.ofNat 117,Char.ofNat 116]::X:=by
 obtain⟨r,h⟩:=io_of
 have e:Tryz.prog.initOrder.toList=[Char.ofNat 104,Char.ofNat 97,Char.ofNat 114,Char.ofNat 110,Char.ofNat 101,Char.ofNat 115,Char.ofNat 115]++Char.ofNat 32::([Char.ofNat 50,Char.ofNat 55,Char.ofNat 53,Char.ofNat 57,Char.ofNat 55,Char.ofNat 52,Char.ofNat 53,Char.ofNat 52,Char.ofNat 99,Char.ofNat 55,Char.ofNat 52,Char.ofNat 52,Char.ofNat 56,Char.ofNat 48,Char.ofNat 48,Char.ofNat 56,Char.ofNat 48,Char.ofNat 53,Char.ofNat 48,Char.ofNat 55,Char.ofNat 48,Char.ofNat 101,Char.ofNat 97,Char.ofNat 57,Char.ofNat 57,Char.ofNat 51,Char.ofNat 97,Char.ofNat 54,Char.ofNat 99,Char.ofNat 55,Char.ofNat 101,Char.ofNat 102,Char.ofNat 53,Char.ofNat 102,Char.ofNat 49,Char.ofNat 52,Char.ofNat 51,Char.ofNat 53,Char.ofNat 100,Char.ofNat 53,Char.ofNat 52,Char.ofNat 50,Char.ofNat 54,Char.ofNat 54,Char.ofNat 100,Char.ofNat 48,Char.ofNat 100,Char.ofNat 101,Char.ofNat 48,Char.ofNat 53,Char.ofNat 56,Char.ofNat 99,Char.ofNat 100,Char.ofNat 97,Char.ofNat 48,Char.ofNat 55,Char.ofNat 49,Char.ofNat 57,Char.ofNat 97,Char.ofNat 50,Char.ofNat 102,Char.ofNat 56,Char.ofNat 50,Char.ofNat 57]++Char.ofNat 32::([Char.ofNat 99,Char.ofNat 117,Char.ofNat 116]++Char.ofNat 32::r)):=by
  rw [io_eq,h,String.toList_ofList];rfl
 rw [e,words_app _ _ (by decide +kernel),words_app _ _ (by decide +kernel),words_app _ _ (by decide +kernel)]
 refine ⟨wordsSigns r,?_⟩
 generalize wordsSigns r=X
 kernel_rfl
theorem io_strip (X:List (List Char)):stripLifts liftWords ([Char.ofNat 99,Char.ofNat 117,Char.ofNat 116]::X)=([],[Char.ofNat 99,Char.ofNat 117,Char.ofNat 116]::X):=by kernel_rfl
theorem enter_of {P:Program} {X:List (List Char)} (h:behindMainWord (wordsSigns P.initOrder.toList)=[Char.ofNat 99,Char.ofNat 117,Char.ofNat 116]::X) (h1:P.laysLater=false) (h2:P.bearsReflect=false) (h3:P.doorFits []=true):P.mayEnter=true:=by
 unfold Program.mayEnter
 rw [h]
 simp only [io_strip,h1,h2,h3]
 kernel_rfl
theorem head_of {P:Program} {X:List (List Char)} (h:behindMainWord (wordsSigns P.initOrder.toList)=[Char.ofNat 99,Char.ofNat 117,Char.ofNat 116]::X):P.headLifts=[]:=by
 unfold Program.headLifts
 rw [h,io_strip]
 kernel_rfl
theorem lifts_of {P:Program} {X:List (List Char)} (h:behindMainWord (wordsSigns P.initOrder.toList)=[Char.ofNat 99,Char.ofNat 117,Char.ofNat 116]::X):P.liftsFinal=false:=by
 show (((behindMainWord (wordsSigns P.initOrder.toList)).head? == some "carried".toList && (behindMainWord (wordsSigns P.initOrder.toList)).take 3 != ["carried".toList, "gc".toList, "cut".toList]) || P.headLifts.contains "finals") = false
 rw [h,head_of h]
 kernel_rfl
theorem make_of {P:Program} {X:List (List Char)} (h:behindMainWord (wordsSigns P.initOrder.toList)=[Char.ofNat 99,Char.ofNat 117,Char.ofNat 116]::X):P.make=some .cut:=by
 unfold Program.make
 rw [h]
 kernel_rfl
theorem io_enter:Tryz.prog.mayEnter=true:=by
 obtain⟨X,h⟩:=io_behind
 exact enter_of h (by as_aux_lemma=>kernel_rfl) (by as_aux_lemma=>kernel_rfl) (by as_aux_lemma=>kernel_rfl)
theorem io_lifts:Tryz.prog.liftsFinal=false:=by
 obtain⟨X,h⟩:=io_behind
 exact lifts_of h
theorem io_make:Tryz.prog.make=some .cut:=by
 obtain⟨X,h⟩:=io_behind
 exact make_of h
theorem io_two:∃ X:List (List Char),wordsSigns Tryz.prog.initOrder.toList=[Char.ofNat 104,Char.ofNat 97,Char.ofNat 114,Char.ofNat 110,Char.ofNat 101,Char.ofNat 115,Char.ofNat 115]::[Char.ofNat 50,Char.ofNat 55,Char.ofNat 53,Char.ofNat 57,Char.ofNat 55,Char.ofNat 52,Char.ofNat 53,Char.ofNat 52,Char.ofNat 99,Char.ofNat 55,Char.ofNat 52,Char.ofNat 52,Char.ofNat 56,Char.ofNat 48,Char.ofNat 48,Char.ofNat 56,Char.ofNat 48,Char.ofNat 53,Char.ofNat 48,Char.ofNat 55,Char.ofNat 48,Char.ofNat 101,Char.ofNat 97,Char.ofNat 57,Char.ofNat 57,Char.ofNat 51,Char.ofNat 97,Char.ofNat 54,Char.ofNat 99,Char.ofNat 55,Char.ofNat 101,Char.ofNat 102,Char.ofNat 53,Char.ofNat 102,Char.ofNat 49,Char.ofNat 52,Char.ofNat 51,Char.ofNat 53,Char.ofNat 100,Char.ofNat 53,Char.ofNat 52,Char.ofNat 50,Char.ofNat 54,Char.ofNat 54,Char.ofNat 100,Char.ofNat 48,Char.ofNat 100,Char.ofNat 101,Char.ofNat 48,Char.ofNat 53,Char.ofNat 56,Char.ofNat 99,Char.ofNat 100,Char.ofNat 97,Char.ofNat 48,Char.ofNat 55,Char.ofNat 49,Char.ofNat 57,Char.ofNat 97,Char.ofNat 50,Char.ofNat 102,Char.ofNat 56,Char.ofNat 50,Char.ofNat 57]::X:=by
 obtain⟨r,h⟩:=io_of
 have e:Tryz.prog.initOrder.toList=[Char.ofNat 104,Char.ofNat 97,Char.ofNat 114,Char.ofNat 110,Char.ofNat 101,Char.ofNat 115,Char.ofNat 115]++Char.ofNat 32::([Char.ofNat 50,Char.ofNat 55,Char.ofNat 53,Char.ofNat 57,Char.ofNat 55,Char.ofNat 52,Char.ofNat 53,Char.ofNat 52,Char.ofNat 99,Char.ofNat 55,Char.ofNat 52,Char.ofNat 52,Char.ofNat 56,Char.ofNat 48,Char.ofNat 48,Char.ofNat 56,Char.ofNat 48,Char.ofNat 53,Char.ofNat 48,Char.ofNat 55,Char.ofNat 48,Char.ofNat 101,Char.ofNat 97,Char.ofNat 57,Char.ofNat 57,Char.ofNat 51,Char.ofNat 97,Char.ofNat 54,Char.ofNat 99,Char.ofNat 55,Char.ofNat 101,Char.ofNat 102,Char.ofNat 53,Char.ofNat 102,Char.ofNat 49,Char.ofNat 52,Char.ofNat 51,Char.ofNat 53,Char.ofNat 100,Char.ofNat 53,Char.ofNat 52,Char.ofNat 50,Char.ofNat 54,Char.ofNat 54,Char.ofNat 100,Char.ofNat 48,Char.ofNat 100,Char.ofNat 101,Char.ofNat 48,Char.ofNat 53,Char.ofNat 56,Char.ofNat 99,Char.ofNat 100,Char.ofNat 97,Char.ofNat 48,Char.ofNat 55,Char.ofNat 49,Char.ofNat 57,Char.ofNat 97,Char.ofNat 50,Char.ofNat 102,Char.ofNat 56,Char.ofNat 50,Char.ofNat 57]++Char.ofNat 32::([Char.ofNat 99,Char.ofNat 117,Char.ofNat 116]++Char.ofNat 32::r)):=by
  rw [io_eq,h,String.toList_ofList];rfl
 rw [e,words_app _ _ (by decide +kernel),words_app _ _ (by decide +kernel)]
 exact⟨_,rfl⟩
theorem main_of {P:Program} {X:List (List Char)} (h:wordsSigns P.initOrder.toList=[Char.ofNat 104,Char.ofNat 97,Char.ofNat 114,Char.ofNat 110,Char.ofNat 101,Char.ofNat 115,Char.ofNat 115]::[Char.ofNat 50,Char.ofNat 55,Char.ofNat 53,Char.ofNat 57,Char.ofNat 55,Char.ofNat 52,Char.ofNat 53,Char.ofNat 52,Char.ofNat 99,Char.ofNat 55,Char.ofNat 52,Char.ofNat 52,Char.ofNat 56,Char.ofNat 48,Char.ofNat 48,Char.ofNat 56,Char.ofNat 48,Char.ofNat 53,Char.ofNat 48,Char.ofNat 55,Char.ofNat 48,Char.ofNat 101,Char.ofNat 97,Char.ofNat 57,Char.ofNat 57,Char.ofNat 51,Char.ofNat 97,Char.ofNat 54,Char.ofNat 99,Char.ofNat 55,Char.ofNat 101,Char.ofNat 102,Char.ofNat 53,Char.ofNat 102,Char.ofNat 49,Char.ofNat 52,Char.ofNat 51,Char.ofNat 53,Char.ofNat 100,Char.ofNat 53,Char.ofNat 52,Char.ofNat 50,Char.ofNat 54,Char.ofNat 54,Char.ofNat 100,Char.ofNat 48,Char.ofNat 100,Char.ofNat 101,Char.ofNat 48,Char.ofNat 53,Char.ofNat 56,Char.ofNat 99,Char.ofNat 100,Char.ofNat 97,Char.ofNat 48,Char.ofNat 55,Char.ofNat 49,Char.ofNat 57,Char.ofNat 97,Char.ofNat 50,Char.ofNat 102,Char.ofNat 56,Char.ofNat 50,Char.ofNat 57]::X):P.mainIs=some (true,[Char.ofNat 50,Char.ofNat 55,Char.ofNat 53,Char.ofNat 57,Char.ofNat 55,Char.ofNat 52,Char.ofNat 53,Char.ofNat 52,Char.ofNat 99,Char.ofNat 55,Char.ofNat 52,Char.ofNat 52,Char.ofNat 56,Char.ofNat 48,Char.ofNat 48,Char.ofNat 56,Char.ofNat 48,Char.ofNat 53,Char.ofNat 48,Char.ofNat 55,Char.ofNat 48,Char.ofNat 101,Char.ofNat 97,Char.ofNat 57,Char.ofNat 57,Char.ofNat 51,Char.ofNat 97,Char.ofNat 54,Char.ofNat 99,Char.ofNat 55,Char.ofNat 101,Char.ofNat 102,Char.ofNat 53,Char.ofNat 102,Char.ofNat 49,Char.ofNat 52,Char.ofNat 51,Char.ofNat 53,Char.ofNat 100,Char.ofNat 53,Char.ofNat 52,Char.ofNat 50,Char.ofNat 54,Char.ofNat 54,Char.ofNat 100,Char.ofNat 48,Char.ofNat 100,Char.ofNat 101,Char.ofNat 48,Char.ofNat 53,Char.ofNat 56,Char.ofNat 99,Char.ofNat 100,Char.ofNat 97,Char.ofNat 48,Char.ofNat 55,Char.ofNat 49,Char.ofNat 57,Char.ofNat 97,Char.ofNat 50,Char.ofNat 102,Char.ofNat 56,Char.ofNat 50,Char.ofNat 57]):=by
 unfold Program.mainIs
 rw [h]
 kernel_rfl
theorem io_sum : "27597454c744800805070ea993a6c7ef5f1435d54266d0de058cda0719a2f829".toList = [Char.ofNat 50, Char.ofNat 55, Char.ofNat 53, Char.ofNat 57, Char.ofNat 55, Char.ofNat 52, Char.ofNat 53, Char.ofNat 52, Char.ofNat 99, Char.ofNat 55, Char.ofNat 52, Char.ofNat 52, Char.ofNat 56, Char.ofNat 48, Char.ofNat 48, Char.ofNat 56, Char.ofNat 48, Char.ofNat 53, Char.ofNat 48, Char.ofNat 55, Char.ofNat 48, Char.ofNat 101, Char.ofNat 97, Char.ofNat 57, Char.ofNat 57, Char.ofNat 51, Char.ofNat 97, Char.ofNat 54, Char.ofNat 99, Char.ofNat 55, Char.ofNat 101, Char.ofNat 102, Char.ofNat 53, Char.ofNat 102, Char.ofNat 49, Char.ofNat 52, Char.ofNat 51, Char.ofNat 53, Char.ofNat 100, Char.ofNat 53, Char.ofNat 52, Char.ofNat 50, Char.ofNat 54, Char.ofNat 54, Char.ofNat 100, Char.ofNat 48, Char.ofNat 100, Char.ofNat 101, Char.ofNat 48, Char.ofNat 53, Char.ofNat 56, Char.ofNat 99, Char.ofNat 100, Char.ofNat 97, Char.ofNat 48, Char.ofNat 55, Char.ofNat 49, Char.ofNat 57, Char.ofNat 97, Char.ofNat 50, Char.ofNat 102, Char.ofNat 56, Char.ofNat 50, Char.ofNat 57] := by kernel_rfl
theorem io_main : Tryz.prog.mainIs = some (true, "27597454c744800805070ea993a6c7ef5f1435d54266d0de058cda0719a2f829".toList) := by
 obtain⟨X,h⟩:=io_two
 rw [io_sum]
 exact main_of h

end Go.Proofs.YtefieebkankfoaaGreatDoor
namespace Go.Proofs.YtefieebkankfoaaGreatDoor
open Go.RowKit Go.Shelf Go.ChangeShapes Go.WideShapes Go.Proofs
set_option maxRecDepth 100000

def laidsL : List (String × DataW Unit) := [("math/bits.deBruijn32tab", Rows.laid_math_bits_deBruijn32tab), ("math/bits.deBruijn64tab", Rows.laid_math_bits_deBruijn64tab), ("internal/strconv.uint64pow10", Rows.laid_internal_strconv_uint64pow10), ("unicode/utf8.acceptRanges", Rows.laid_unicode_utf8_acceptRanges), ("strconv.ErrRange", Rows.laid_strconv_ErrRange), ("strconv.ErrSyntax", Rows.laid_strconv_ErrSyntax), ("unicode/utf8.first", Rows.laid_unicode_utf8_first)]
theorem std_ofL {W:World} (h:laidMetH Tryz.prog laidsL W):Std W:=by
 rw [MakeChecks.laidMetH_plain _ _ _ (by kernel_rfl)] at h
 have h1:=h.tail.tail.tail.tail
 obtain⟨tq,q,hq⟩:=iface_var (g:=4) h1 (by kernel_rfl) (by kernel_rfl) Tryz.underlying101
 obtain⟨tp,p,hp⟩:=iface_var (g:=3) h1.tail (by kernel_rfl) (by kernel_rfl) Tryz.underlying101
 exact⟨tp,p,tq,q,hp,hq⟩
theorem io_metL (os:Os) (args:Array Value):laidMetH Tryz.prog laidsL ((World.laidAll Tryz.prog os laidsL).forCall (fun _ _=>0) ⟨#[],args,[]⟩).memory:=by
 rw [MakeChecks.laidMetH_plain _ _ _ (by as_aux_lemma=>kernel_rfl)]
 exact laidMet_laidAll _ (by as_aux_lemma=>kernel_rfl) (by as_aux_lemma=>kernel_rfl)
end Go.Proofs.YtefieebkankfoaaGreatDoor
namespace Go.Proofs.YtefieebkankfoaaGreatDoor
open Go.RowKit Go.Shelf

class FocusMW (H:List HA) (t:outParam TypeId) (l:outParam (List (Nat × List Value))) (rb:outParam (HA→List HA)):Prop where
 at_:∃ i,H[i]?=some (blks t l)∧∀ B,rb B=H.set i B
instance FocusMW.head (H:List HA) (t:TypeId) (l:List (Nat × List Value)):FocusMW (blks t l::H) t l (fun B=>B::H):=⟨0,rfl,fun _=>rfl⟩
instance FocusMW.tail (A0:HA) (H:List HA) (t:TypeId) (l:List (Nat × List Value)) (rb:HA→List HA) [h:FocusMW H t l rb]:FocusMW (A0::H) t l (fun B=>A0::rb B) :=
 ⟨by obtain⟨i,h1,h2⟩:=h.at_;exact⟨i+1,by simpa using h1,fun B=>by simp [h2]⟩⟩
theorem lookB_set {l:List (Nat × List Value)} (hn:(l.map Prod.fst).Nodup) {k g:Nat} {cs cs':List Value} (h:l[k]?=some (g,cs)) (x:Nat):lookB (l.set k (g,cs')) x=if x=g then some cs' else lookB l x:=by
 induction l generalizing k with
 | nil=>simp at h
 | cons y l ih =>
  obtain⟨g0,c0⟩:=y
  simp only [List.map_cons,List.nodup_cons] at hn
  cases k with
  | zero =>
   simp at h
   obtain⟨rfl,rfl⟩:=h
   simp only [List.set_cons_zero,lookB]
   by_cases e:x=g0
   ·simp [e]
   ·simp [e]
  | succ k =>
   simp only [List.getElem?_cons_succ] at h
   simp only [List.set_cons_succ,lookB]
   have hne:g≠g0:=fun e=>hn.1 (by rw [← e];exact List.mem_map.2 ⟨(g,cs),List.mem_of_getElem? h,rfl⟩)
   by_cases e:x=g0
   ·subst e;rw [if_pos rfl,if_neg (Ne.symm hne),if_pos rfl]
   ·rw [if_neg e,if_neg e];exact ih hn.2 h
theorem fst_set {l:List (Nat × List Value)} {k g:Nat} {cs cs':List Value} (h:l[k]?=some (g,cs)):(l.set k (g,cs')).map Prod.fst=l.map Prod.fst:=by
 rw [List.map_set]
 apply List.ext_getElem?
 intro i
 rw [List.getElem?_set]
 split
 ·rename_i e;subst e
  split
  ·rw [List.getElem?_map,h];rfl
  ·rename_i h2;rw [List.getElem?_eq_none (by omega)]
 ·rfl
section
variable {C:Cx} {all:Array Oper} {o:Oper} {env:Env} {ec:EnvC} {H:List HA} {d:Nat} {Φ:Env→EnvC→List HA→Prop}
theorem OpT.storeM {b off k:Nat} {u:Value} {t:TypeId} {l:List (Nat × List Value)} {cs:List Value} {rb:HA→List HA} (hg:gOf all env ec o=some []) (hd:o.dst=none) (he:evSt C.S env ec o=some (b,off,1,u)) [hf:FocusMW H t l rb]
  (hk:l[k]?=some (b,cs)) (h1:u.oneCell'=true) (hl:off<cs.length) (h:Φ env ec (rb (blks t (l.set k (b,cs.set off u))))):OpT C all o env ec H Φ:=by
 obtain⟨i,hi,hrb⟩:=hf.at_
 have hcu:u.cells.toList=[u]:=by cases u <;> first|rfl|(simp [Value.oneCell'] at h1)
 refine OpT.skip hg hd fun a w ha hw=>?_
 have hb:=hw.blks hi hk
 have hbn:C.w0.heap.size≤b:=by
  obtain⟨F,f1,f2,f3⟩:=hw.sep
  have hil:i<H.length:=(List.getElem?_eq_some_iff.1 hi).1
  obtain⟨hn,hF⟩:=f1 i _ hi
  exact (f2 i b _ hil (by rw [hF,lookB_get hn hk];rfl)).1
 obtain⟨w',g1,g2,g3,g4,g5,g6,g7⟩:=run_storeL C.S.P b t [u] 0 off cs w hb (by simp;omega) (by simp [oneCells,h1])
 refine ⟨w',_,?_,⟨?_,?_⟩,h⟩
 ·obtain⟨dst,op,ty,pos,aft,gd⟩:=o
  unfold evSt at he
  dsimp only at he
  split at he
  ·rename_i t' x y
   split at he
   ·rename_i d0 n' m z b' off' v' ht hx hy
    cases he
    have hsz:=(Sig.tyOk ht).sizeOf w
    dsimp only at hsz
    have hsize:u.cells.size=1:=by have:=congrArg List.length hcu;simpa using this
    simp only [execOp,evX_spec ha (Holds.nil _ _) hx,evX_spec ha (Holds.nil _ _) hy,Instr.storeAt,Instr.sureAddr,storeVar]
    simp [hsz,hsize,hcu,g1]
   ·cases he
  ·cases he
 ·exact hw.below.trans ⟨g4,g5,g6,by omega,fun c hc=>g3 c (by omega)⟩
 ·rw [hrb]
  refine hw.sep.swap hi fun f hF hfw=>?_
  obtain⟨hn,hF⟩:=hF
  refine ⟨fun x=>if x=b then some (.cells (cs.set off u).toArray t (0,0)) else f x,⟨by rw [fst_set hk];exact hn,fun x=>?_⟩,fun x ob hx=>?_,fun c hc hfc=>?_⟩
  ·rw [lookB_set hn hk]
   dsimp only
   by_cases e:x=b
   ·rw [if_pos e,if_pos e];rfl
   ·rw [if_neg e,if_neg e];exact hF x
  ·dsimp only at hx
   by_cases e:x=b
   ·subst e
    rw [if_pos rfl] at hx
    cases hx
    refine ⟨hbn,by simpa [setL] using g2, .inl ?_⟩
    rw [hF,lookB_get hn hk];simp
   ·rw [if_neg e] at hx
    have:=hfw x ob hx
    refine ⟨this.1,(g3 x e).trans this.2, .inl ?_⟩
    rw [hx];simp
  ·refine g3 c fun e=>?_
   subst e
   rw [hF,lookB_get hn hk] at hfc
   cases hfc
end
def intsD (l:List Int):D := .s 1 (l.map fun n => .v (.int .i64 n))
def rowsD (m:List (List Int)):D := .s 1 (m.map intsD)
theorem rd_blks {f:Frag} {t:TypeId} {k cap:Nat} (hk:k≤cap) (hcap:cap≤9223372036854775807):∀ {L:List (Nat × List Value)},(∀ x∈L,f x.1=some (.cells x.2.toArray t (0,0))∧k≤x.2.length) →
  Rd (fr f) (L.map fun x => .slice (some ⟨x.1,0,none⟩) k cap) (L.map fun x=>D.s 1 ((x.2.take k).map .v))
 | [],_ => .nil
 | x::L,h=>by
  obtain⟨h1,h2⟩:=h x (List.mem_cons_self ..)
  refine Rd.s (some ⟨x.1,0,none⟩) k cap 1 (x.2.take k) (by simp;omega) hk hcap (fun _=>⟨rfl,fun j u hu=>?_⟩) (Rd.vals _) (rd_blks hk hcap fun y hy=>h y (List.mem_cons_of_mem _ hy))
  show fr f x.1 (0+j)=some u
  unfold fr
  rw [h1,Nat.zero_add]
  rw [List.getElem?_take] at hu
  split at hu
  ·simpa using hu
  ·cases hu
theorem dat_blks {t:TypeId} {L:List (Nat × List Value)} {H:List HA} (k cap:Nat) (hk:k≤cap) (hcap:cap≤9223372036854775807) (hL:∀ x∈L,k≤x.2.length) :
  Hle (blks t L::H) (dat (L.map fun x => .slice (some ⟨x.1,0,none⟩) k cap) (L.map fun x=>D.s 1 ((x.2.take k).map .v))::H) :=
 hle_map fun f ⟨hn,hf⟩=>rd_blks hk hcap fun x hx=>by
  obtain⟨i,hi,e⟩:=List.getElem_of_mem hx
  refine ⟨?_,hL x hx⟩
  rw [hf,lookB_get hn (k:=i) (cs:=x.2) (by rw [List.getElem?_eq_getElem hi,e])]
  rfl
theorem blk_row_take {b:Nat} {cs:List Value} {e:TypeId} {n:Nat} (hn:n≤cs.length) (hm:cs.length≤maxLen):∀ f,blk b cs e f→row e 1 (some ⟨b,0,none⟩) cs.length n (cs.take n) f :=
 fun f hf=>⟨by simp;omega, .inr ⟨b,cs.toArray,rfl,hf,hn,hm,by simp,by simp⟩⟩
end Go.Proofs.YtefieebkankfoaaGreatDoor
namespace Go.Proofs.YtefieebkankfoaaGreatDoor
open Go.RowKit Go.Shelf

theorem rdFz {C:Cx} {H:List HA} {p:Frag} [FocusZ H p] {b o:Nat} {u:Value} (h:fr p b o=some u):∀ w,Cls C.w0 w H→RdC w b o [u] :=
 fun _ hw=>RdC.one (hw.fz (p:=p) _ _ _ h)
theorem Rd.row1 {R:Rdr} {x:Value} {r:List Int} (h:Rd R [x] [intsD r]):∃ A cap,x = .slice A r.length cap∧r.length≤cap∧cap≤9223372036854775807∧(0<r.length→∃ b o,A=some ⟨b,o,none⟩∧∀ (k:Nat) z,r[k]?=some z→R b (o+k)=some (.int .i64 z)):=by
 have h':Rd R [x] [.s 1 ((r.map (Value.int .i64)).map .v)]:=by rw [List.map_map];exact h
 obtain⟨A,n,cap,rfl,h1,h2,h3,h4⟩:=h'.vals_one
 have e:n=r.length:=by simpa using h1.symm
 subst e
 exact⟨A,cap,rfl,h2,h3,fun h0=>⟨bk A,ofs A,(h4 h0).1,fun k z hz=>(h4 h0).2 k _ (by rw [List.getElem?_map,hz];rfl)⟩⟩
theorem Rd.tab {R:Rdr} {x:Value} {m:List (List Int)} (h:Rd R [x] [rowsD m]):∃ A cap cs,x = .slice A m.length cap∧m.length≤cap∧cap≤9223372036854775807∧cs.length=m.length∧(0<m.length→∃ b o,A=some ⟨b,o,none⟩∧∀ (i:Nat) u,cs[i]?=some u→R b (o+i)=some u)∧Rd R cs (m.map intsD):=by
 obtain⟨A,n,cap,cs,rfl,h1,h2,h3,h4,h5,h6⟩:=h.slice
 have e:n=m.length:=by simpa using h1.symm
 subst e
 exact⟨A,cap,cs,rfl,h3,h4,by simpa using h2,fun h0=>⟨bk A,ofs A,(h5 h0).1,(h5 h0).2⟩,h6⟩
theorem Rd.tabRow {R:Rdr} {cs:List Value} {m:List (List Int)} (h:Rd R cs (m.map intsD)) {i:Nat} {r:List Int} (hi:m[i]?=some r):∃ A cap,cs[i]?=some (.slice A r.length cap)∧r.length≤cap∧cap≤9223372036854775807∧(0<r.length→∃ b o,A=some ⟨b,o,none⟩∧∀ (k:Nat) z,r[k]?=some z→R b (o+k)=some (.int .i64 z)):=by
 obtain⟨x,hx,hr⟩:=h.get (i:=i) (d:=intsD r) (by rw [List.getElem?_map,hi];rfl)
 obtain⟨A,cap,rfl,h1,h2,h3⟩:=hr.row1
 exact⟨A,cap,hx,h1,h2,h3⟩
theorem off1 (o k:Nat):o+(k:Int).toNat * 1=o+k:=by omega
end Go.Proofs.YtefieebkankfoaaGreatDoor
namespace Go.Proofs.YtefieebkankfoaaGreatDoor
open Go.RowKit Go.Shelf

def isNone':Option Addr→Bool
 | none=>true
 | some _=>false
def nilK:Operand→Nat
 | .const (.slice none 0 0)=>1
 | .const (.pointer none)=>2
 | _=>0
def evNilS (S:Sig) (env:Env) (ec:EnvC) (G:GId) (o:Oper):Option (Bool × Bool) :=
 match o.op with
 | .binOp op t x y _=>match S.ty t,evX env ec G x,nilK y,op with
  | some ⟨.slice _,_,_,_⟩,some (.slice A _ _),1, .eql=>some (true,isNone' A)
  | some ⟨.slice _,_,_,_⟩,some (.slice A _ _),1, .neq=>some (false,isNone' A)
  | some ⟨.ptr _,_,_,_⟩,some (.pointer A),2, .eql=>some (true,isNone' A)
  | some ⟨.ptr _,_,_,_⟩,some (.pointer A),2, .neq=>some (false,isNone' A)
  | _,_,_,_=>none
 | _=>none
theorem nilK_one {y:Operand} (h:nilK y=1):y = .const (.slice none 0 0):=by
 unfold nilK at h
 split at h
 ·rfl
 ·cases h
 ·cases h
theorem nilK_two {y:Operand} (h:nilK y=2):y = .const (.pointer none):=by
 unfold nilK at h
 split at h
 ·cases h
 ·rfl
 ·cases h
theorem run_sliceNil {P:Program} {t e:TypeId} (hf:P.underlying t=some (.slice e)) (A:Option Addr) (n c:Nat) (w:World):(Op.equal t (.slice A n c) (.slice none 0 0)).run P w = .ok (isNone' A) w:=by
 show (Op.equalIn (9999+1) t _ _).run P w=_
 rw [Op.equalIn]
 cases A <;> (simp only [Sem.run_bind,run_underlying hf,Result.andThen_ok];rfl)
theorem run_ptrNil {P:Program} {t e:TypeId} (hf:P.underlying t=some (.pointer e)) (A:Option Addr) (w:World):(Op.equal t (.pointer A) (.pointer none)).run P w = .ok (isNone' A) w:=by
 show (Op.equalIn (9999+1) t _ _).run P w=_
 rw [Op.equalIn]
 cases A <;> (simp only [Sem.run_bind,run_underlying hf,Result.andThen_ok];rfl)
theorem run_nilOpS {P:Program} {w:World} {t:TypeId} {x:Operand} {A:Option Addr} {n c:Nat} {r:Bool} (hq:(Op.equal t (.slice A n c) (.slice none 0 0)).run P w = .ok r w) :
  ((do eqGuard .eql t x (.const (.slice none 0 0)) (.slice A n c) (.slice none 0 0);binOp .eql t (.slice A n c) (.slice none 0 0):Sem Value)).run P w = .ok (.bool r) w∧((do eqGuard .neq t x (.const (.slice none 0 0)) (.slice A n c) (.slice none 0 0);binOp .neq t (.slice A n c) (.slice none 0 0):Sem Value)).run P w = .ok (.bool (!r)) w:=by
 constructor
 ·show ((do pure PUnit.unit;pure (.bool (← Op.equal t _ _)):Sem Value)).run P w=_
  rw [Sem.run_bind,hq];rfl
 ·show ((do pure PUnit.unit;pure (.bool (!(← Op.equal t _ _))):Sem Value)).run P w=_
  rw [Sem.run_bind,hq];rfl
theorem run_nilOpP {P:Program} {w:World} {t:TypeId} {x:Operand} {A:Option Addr} {r:Bool} (hq:(Op.equal t (.pointer A) (.pointer none)).run P w = .ok r w) :
  ((do eqGuard .eql t x (.const (.pointer none)) (.pointer A) (.pointer none);binOp .eql t (.pointer A) (.pointer none):Sem Value)).run P w = .ok (.bool r) w∧((do eqGuard .neq t x (.const (.pointer none)) (.pointer A) (.pointer none);binOp .neq t (.pointer A) (.pointer none):Sem Value)).run P w = .ok (.bool (!r)) w:=by
 constructor
 ·show ((do pure PUnit.unit;pure (.bool (← Op.equal t _ _)):Sem Value)).run P w=_
  rw [Sem.run_bind,hq];rfl
 ·show ((do pure PUnit.unit;pure (.bool (!(← Op.equal t _ _))):Sem Value)).run P w=_
  rw [Sem.run_bind,hq];rfl
theorem Val.nilS {C:Cx} {all:Array Oper} {o:Oper} {env:Env} {ec:EnvC} {Hs:List HA} {G:GId} {p r:Bool} (hv:evNilS C.S env ec G o=some (p,r)):Val C all o env ec Hs G (.bool (cond p r (!r))):=by
 intro a w ha _ hH
 obtain⟨dst,op,ty,pos,aft,gd⟩:=o
 unfold evNilS at hv
 dsimp only at hv
 split at hv
 ·rename_i op t x y t2
  split at hv
  ·rename_i ht hx hy
   have hy':=nilK_one hy
   subst hy'
   cases hv
   have hf:=(Sig.tyOk ht).fits
   simp only [Ty.fits] at hf
   simp only [execOp,evX_spec ha hH hx,show a.eval (.const (.slice none 0 0)) = .slice none 0 0 from rfl]
   rw [Sem.run_bind,(run_nilOpS (x:=x) (run_sliceNil hf _ _ _ w)).1];rfl
  ·rename_i ht hx hy
   have hy':=nilK_one hy
   subst hy'
   cases hv
   have hf:=(Sig.tyOk ht).fits
   simp only [Ty.fits] at hf
   simp only [execOp,evX_spec ha hH hx,show a.eval (.const (.slice none 0 0)) = .slice none 0 0 from rfl]
   rw [Sem.run_bind,(run_nilOpS (x:=x) (run_sliceNil hf _ _ _ w)).2];rfl
  ·rename_i ht hx hy
   have hy':=nilK_two hy
   subst hy'
   cases hv
   have hf:=(Sig.tyOk ht).fits
   simp only [Ty.fits] at hf
   simp only [execOp,evX_spec ha hH hx,show a.eval (.const (.pointer none)) = .pointer none from rfl]
   rw [Sem.run_bind,(run_nilOpP (x:=x) (run_ptrNil hf _ w)).1];rfl
  ·rename_i ht hx hy
   have hy':=nilK_two hy
   subst hy'
   cases hv
   have hf:=(Sig.tyOk ht).fits
   simp only [Ty.fits] at hf
   simp only [execOp,evX_spec ha hH hx,show a.eval (.const (.pointer none)) = .pointer none from rfl]
   rw [Sem.run_bind,(run_nilOpP (x:=x) (run_ptrNil hf _ w)).2];rfl
  ·cases hv
 ·cases hv

def shrV (k:IntKind) (a b:Int):Int:=a.fdiv (2 ^ (min b.toNat k.bits))
def shlV (k:IntKind) (a b:Int):Int:=k.wrap (a * 2 ^ (min b.toNat k.bits))
def andV (k:IntKind) (a b:Int):Int:=k.wrap ((BitVec.ofInt k.bits a &&& BitVec.ofInt k.bits b).toNat:Int)
def evBits (env:Env) (ec:EnvC) (G:GId) (o:Oper):Option (Value × Prop) :=
 match o.op with
 | .binOp op _ x y _=>match op,evX env ec G x,evX env ec G y with
  | .shr,some (.int k a),some (.int _ b)=>some (.int k (shrV k a b),0≤b)
  | .shl,some (.int k a),some (.int _ b)=>some (.int k (shlV k a b),0≤b)
  | .and,some (.int k a),some (.int k' b)=>cond (sameK k k') (some (.int k (andV k a b),True)) none
  | _,_,_=>none
 | _=>none
theorem Val.bits {C:Cx} {all:Array Oper} {o:Oper} {env:Env} {ec:EnvC} {Hs:List HA} {G:GId} {v:Value} {p:Prop} (hv:evBits env ec G o=some (v,p)) (hp:GP all env ec G→p):Val C all o env ec Hs G v:=by
 intro a w ha _ hH
 have hp:=hp (hH.gp ha)
 obtain⟨dst,op,ty,pos,aft,gd⟩:=o
 unfold evBits at hv
 dsimp only at hv
 split at hv
 ·rename_i op t x y t2
  split at hv
  ·rename_i k n k' m hx hy
   cases hv
   simp only [execOp,evX_spec ha hH hx,evX_spec ha hH hy]
   have:¬ m<0:=by omega
   simp [eqGuard,binOp,Op.shift,this,shrV]
  ·rename_i k n k' m hx hy
   cases hv
   simp only [execOp,evX_spec ha hH hx,evX_spec ha hH hy]
   have:¬ m<0:=by omega
   simp [eqGuard,binOp,Op.shift,this,shlV]
  ·rename_i k n k' m hx hy
   cases hk:sameK k k' with
   | false=>rw [hk] at hv;cases hv
   | true =>
    rw [hk] at hv
    have ek:k=k':=sameK_eq hk
    subst ek
    cases hv
    simp only [execOp,evX_spec ha hH hx,evX_spec ha hH hy]
    simp [eqGuard,binOp,Op.intBits,andV]
  ·cases hv
 ·cases hv

def evNC (env:Env) (ec:EnvC) (G:GId) (o:Oper):Option Value :=
 match o.op with
 | .nilCheck x=>match evX env ec G x with
  | some (.pointer (some a))=>some (.pointer (some a))
  | _=>none
 | _=>none
theorem Val.nilc {C:Cx} {all:Array Oper} {o:Oper} {env:Env} {ec:EnvC} {Hs:List HA} {G:GId} {v:Value} (hv:evNC env ec G o=some v):Val C all o env ec Hs G v:=by
 intro a w ha _ hH
 obtain⟨dst,op,ty,pos,aft,gd⟩:=o
 unfold evNC at hv
 dsimp only at hv
 split at hv
 ·rename_i x
  split at hv
  ·rename_i ad hx
   cases hv
   simp only [execOp,evX_spec ha hH hx]
   rfl
  ·cases hv
 ·cases hv

theorem srcRw {C:Cx} {H:List HA} {A:Option Addr} {e sz cap n:Nat} {xs:List Value} {rb:HA→List HA} [hf:FocusR H A e sz cap n xs rb]:∀ w,Cls C.w0 w H→Src w sz A n xs:=by
 intro w hw
 obtain⟨i,hi,_⟩:=hf.at_
 obtain⟨F,h1,h2,h3⟩:=hw.sep
 have hil:i<H.length:=(List.getElem?_eq_some_iff.1 hi).1
 obtain⟨hl,hr⟩:=h1 i _ hi
 refine ⟨hl,fun hn=>?_⟩
 rcases hr with⟨_,_,h9,_⟩|⟨g,cur,rfl,hF,g1,g2,g3,g4⟩
 ·omega
 ·refine ⟨rfl,fun j u hu=>?_⟩
  have hb:=(h2 i g (.cells cur e (0,0)) hil (by rw [hF];simp [one])).2
  rw [← g4] at hu
  show w.cell? ⟨g,0+j,none⟩=_
  rw [Nat.zero_add,cell_of_row w g j cur e (0,0) hb]
  rw [List.getElem?_take] at hu
  split at hu
  ·simpa using hu
  ·cases hu
theorem setL_take {n:Nat}:∀ (us cs:List Value) (off:Nat),off+us.length≤n→(setL cs off us).take n=setL (cs.take n) off us
 | [],cs,off,h=>rfl
 | u::us,cs,off,h=>by
  simp only [setL]
  rw [setL_take us (cs.set off u) (off+1) (by simp at h;omega)]
  congr 1
  rw [List.take_set]
section
variable {C:Cx} {all:Array Oper} {o:Oper} {env:Env} {ec:EnvC} {H:List HA} {Φ:Env→EnvC→List HA→Prop}
theorem OpT.storeR {g off m:Nat} {u:Value} {us:List Value} {e sz cap n:Nat} {xs:List Value} {rb:HA→List HA} (hg:gOf all env ec o=some []) (hd:o.dst=none) (he:evSt C.S env ec o=some (g,off,m,u)) [hf:FocusR H (some ⟨g,0,none⟩) e sz cap n xs rb]
  (hus:u.cells.toList=us) (hm:us.length=m) (h1:oneCells us=true) (hl:off+us.length≤n * sz)
  (h:Φ env ec (rb (row e sz (some ⟨g,0,none⟩) cap n (setL xs off us)))):OpT C all o env ec H Φ:=by
 obtain⟨i,hi,hrb⟩:=hf.at_
 refine OpT.skip hg hd fun a w ha hw=>?_
 obtain⟨F,f1,f2,f3⟩:=hw.sep
 have hil:i<H.length:=(List.getElem?_eq_some_iff.1 hi).1
 obtain⟨hxl,hrow⟩:=f1 i _ hi
 rcases hrow with⟨h9,_⟩|⟨g',cur,hA,hF,g1,g2,g3,g4⟩
 ·cases h9
 cases hA
 obtain⟨hbn,hb⟩:=f2 i g (.cells cur e (0,0)) hil (by rw [hF];simp [one])
 have hsz:n * sz≤cap * sz:=Nat.mul_le_mul_right _ g1
 have hcl:cur.toList.length=cap * sz:=by simpa using g3
 obtain⟨w',k1,k2,k3,k4,k5,k6,k7⟩:=run_storeL C.S.P g e us 0 off cur.toList w (by simpa using hb) (by rw [hcl];omega) h1
 refine ⟨w',_,?_,⟨?_,?_⟩,h⟩
 ·obtain⟨dst,op,ty,pos,aft,gd⟩:=o
  unfold evSt at he
  dsimp only at he
  split at he
  ·rename_i t' x y
   split at he
   ·rename_i d0 n' m' z b' off' v' ht hx hy
    cases he
    have hsz:=(Sig.tyOk ht).sizeOf w
    dsimp only at hsz
    have hsize:u.cells.size=m:=by rw [← hm, ← hus];simp
    simp only [execOp,evX_spec ha (Holds.nil _ _) hx,evX_spec ha (Holds.nil _ _) hy,Instr.storeAt,Instr.sureAddr,storeVar]
    simp [hsz,hsize,hus,k1]
   ·cases he
  ·cases he
 ·exact hw.below.trans ⟨k4,k5,k6,by omega,fun c hc=>k3 c (by omega)⟩
 ·rw [hrb]
  refine hw.sep.turn hi (fun f hf=>?_) (fun c hc _=>k3 c hc) k2 ?_
  ·obtain⟨_,hr⟩:=hf
   rcases hr with⟨h9,_⟩|⟨g',cur',hA',hF',_⟩
   ·cases h9
   ·cases hA';exact⟨_,hF'⟩
  ·refine ⟨by rw [setL_length];exact hxl, .inr ⟨g,_,rfl,rfl,g1,g2,by rw [List.size_toArray,setL_length];exact hcl,?_⟩⟩
   rw [Nat.add_zero]
   show (setL cur.toList off us).take (n * sz)=_
   rw [setL_take _ _ _ (by omega),g4]
end

def notIn (done:List Nat):List (Nat × Oper)→List (Nat × Oper)
  | []=>[]
  | (n,o)::l=>cond (isNum n done) (notIn done l) ((n,o)::notIn done l)
def remL (all:Array Oper) (done:List Nat):List (Nat × Oper):=notIn done (zipN nums all.toList)
def pickF (rem:List (Nat × Oper)):List (Nat × Oper)→Option (Nat × Oper)
  | (n,o)::l=>cond (quietO o.op && freeL rem o.after.toList) (some (n,o)) (pickF rem l)
  | []=>none
def pickQ (all:Array Oper) (done:List Nat):Option (Nat × Oper):=pickF (remL all done) (remL all done)
def readyF (rem:List (Nat × Oper)):List (Nat × Oper)→List (Nat × Oper)
  | (n,o)::l=>cond (freeL rem o.after.toList) ((n,o)::readyF rem l) (readyF rem l)
  | []=>[]
def readyL (all:Array Oper) (done:List Nat):List (Nat × Oper):=readyF (remL all done) (remL all done)
theorem readyF_mem {rem:List (Nat × Oper)} {x:Nat × Oper}:∀ {l:List (Nat × Oper)},x∈readyF rem l→x∈l
  | (n,o)::l,h=>by
    unfold readyF at h
    cases hc:freeL rem o.after.toList with
    | true =>
      rw [hc] at h
      simp only [cond_true,List.mem_cons] at h ⊢
      rcases h with h|h
      · exact .inl h
      · exact .inr (readyF_mem h)
    | false=>rw [hc] at h;simp only [cond_false] at h;exact List.mem_cons_of_mem _ (readyF_mem h)
theorem notIn_mem {done:List Nat} {x:Nat × Oper}:∀ {l:List (Nat × Oper)},x∈notIn done l→x∈l
  | (n,o)::l,h=>by
    unfold notIn at h
    cases hc:isNum n done with
    | true=>rw [hc] at h;simp only [cond_true] at h;exact List.mem_cons_of_mem _ (notIn_mem h)
    | false =>
      rw [hc] at h
      simp only [cond_false,List.mem_cons] at h ⊢
      rcases h with h|h
      · exact .inl h
      · exact .inr (notIn_mem h)
theorem zipN_mem {x:Nat × Oper}:∀ {ns:List Nat} {os:List Oper},x∈zipN ns os→∃ k:Nat,ns[k]?=some x.1∧os[k]?=some x.2
 | n::ns,o::os,h=>by
  simp only [zipN,List.mem_cons] at h
  rcases h with rfl|h
  ·exact⟨0,rfl,rfl⟩
  ·obtain⟨k,h1,h2⟩:=zipN_mem h;exact⟨k+1,by simpa using h1,by simpa using h2⟩
 | [],_,h=>by simp [zipN] at h
 | _::_,[],h=>by simp [zipN] at h
theorem nums_get:∀ k:Nat,k<nums.length→nums[k]?=some k:=by decide +kernel
theorem readyL_get {all:Array Oper} {done:List Nat} {x:Nat × Oper} (h:x∈readyL all done):all[x.1]?=some x.2:=by
 obtain⟨k,h1,h2⟩:=zipN_mem (notIn_mem (readyF_mem h))
 have h3:=nums_get k (List.getElem?_eq_some_iff.1 h1).1
 rw [h1] at h3
 cases h3
 simpa using h2
def chkQ (all:Array Oper) (z:Nat) (done:List Nat) (i:Nat):Bool :=
 noDef all && (Region.noSelect all && (Region.free .any all (lst all done) i && ((Region.ready .any all (lst all done)).contains i && (waits .any all z i && live z (lst all done)))))
def AllL (p:Nat→Oper→Prop):List (Nat × Oper)→Prop
 | []=>True
 | x::l=>p x.1 x.2∧AllL p l
theorem AllL.mem {p:Nat→Oper→Prop}:∀ {l:List (Nat × Oper)},AllL p l→∀ x∈l,p x.1 x.2
 | [],_,x,hx=>by cases hx
 | y::l,h,x,hx=>by
  rcases List.mem_cons.1 hx with e|hx
  ·subst e;exact h.1
  ·exact AllL.mem h.2 x hx
section
variable {r:Option Nat} {n:Nat} {P:Program} {ops:Array Oper} {Q:Exit→Act→World→Prop} {md:Region.Mode} {S:World→Prop} {z:Nat}
theorem wpAnyHR_pure {i:Nat} {oi:Oper} {v:Value} (hnd:noDef ops=true) (hi:ops[i]?=some oi) (hsel:∀ (j:Nat) (o:Oper) cs b,ops[j]?=some o→o.op ≠ .select cs b)
  (hQ:∀ c a w,Q (.panic c) (a.put oi.dst v) w→Q (.panic c) a w) (hiz:i≠z) :
  ∀ (fuel:Nat) (listed:Array Bool) (a:Act) (w:World),
   (∀ j oj,ops[j]?=some oj→j≠i→listed.getD j true=false→(∀ e∈oj.after,Region.binds md e=true→e.on≠i)→oi.apart ops oj=true) →
   i∈Region.ready md ops listed→YieldsS P ops (fun _=>True) oi v a→(live z listed=true→S w) →
   wpAnyHR r n P md ops Q S z fuel (listed.setIfInBounds i true) (a.put oi.dst v) w→wpAnyHR r n P md ops Q S z (fuel+1) listed a w:=by
 have hlz:∀ listed:Array Bool,live z (listed.setIfInBounds i true)=live z listed:=fun listed=>by
  unfold live
  rw [Array.getD_eq_getD_getElem?,Array.getElem?_setIfInBounds_ne hiz, ← Array.getD_eq_getD_getElem?]
 intro fuel
 induction fuel with
 | zero =>
  intro listed a w _ hr hy hS H
  refine ⟨fun h=>(by rw [h] at hr;cases hr),fun j hj=>?_⟩
  by_cases hji:j=i
  ·subst hji;exact hy.op hnd hi trivial ⟨fun h=>hS (by rw [← hlz];exact h),H⟩
  ·have:=ready_mono hj hji
   rw [H.1] at this
   cases this
 | succ fuel ih =>
  intro listed a w hfree hr hy hS H
  refine ⟨fun h=>(by rw [h] at hr;cases hr),fun j hj=>?_⟩
  by_cases hji:j=i
  ·subst hji;exact hy.op hnd hi trivial ⟨fun h=>hS (by rw [← hlz];exact h),H⟩
  ·have h1:=H.2 j (ready_mono hj hji)
   obtain⟨hjun,oj,hoj,hall⟩:=mem_ready.1 hj
   have hnot:∀ e∈oj.after,Region.binds md e=true→e.on≠i:=fun e he hb heq=>by
    have h1:=hall e he hb
    have h0:=(mem_ready.1 hr).1
    rw [heq] at h1
    rcases Nat.lt_or_ge i listed.size with h'|h'
    ·simp [h'] at h0 h1;rw [h0] at h1;cases h1
    ·simp [Array.getElem?_eq_none h'] at h1
   have h2:=wpOpIn_putS hnd hoj (hfree j oj hoj hji hjun hnot) (fun cs b=>hsel i oi cs b hi) (fun cs b=>hsel j oj cs b hoj) hQ hy h1
   have hfree':∀ k ok,ops[k]?=some ok→k≠i→(listed.setIfInBounds j true).getD k true=false →
     (∀ e∈ok.after,Region.binds md e=true→e.on≠i)→oi.apart ops ok=true:=fun k ok hk hki hun hno=>by
    refine hfree k ok hk hki ?_ hno
    by_cases hjk:j=k
    ·subst hjk;exact hjun
    ·rw [getD_set_ne true hjk] at hun;exact hun
   have hl2:live z ((listed.setIfInBounds i true).setIfInBounds j true)=live z (listed.setIfInBounds j true):=by
    rw [Array.setIfInBounds_comm _ _ (Ne.symm hji),hlz]
   refine wpOpIn_mono (fun a' w' h3=>⟨fun h=>h3.2.1 (by rw [hl2];exact h),ih (listed.setIfInBounds j true) a' w' hfree' (ready_mono hr (Ne.symm hji)) h3.1 (fun h=>h3.2.1 (by rw [hl2];exact h)) ?_⟩) h2
   rw [Array.setIfInBounds_comm _ _ hji]
   exact h3.2.2
end
def ValP (C:Cx) (all:Array Oper) (o:Oper) (env:Env) (ec:EnvC) (G:GId) (v:Value):Prop:=∀ a w,Agrees C.N all env ec a→Holds all a G→(execOp a.eval o).run C.S.P w = .ok (.value v) w
def chkP (all:Array Oper) (z:Nat) (done:List Nat) (i:Nat):Bool :=
 noDef all && (Region.noSelect all && (Region.free .any all (lst all done) i && ((Region.ready .any all (lst all done)).contains i && !(Nat.beq i z))))
section
variable {C:Cx} {all:Array Oper} {o:Oper} {env:Env} {ec:EnvC} {G:GId} {v:Value}
theorem ValP.pure (hv:evP C.S all env ec G o=some v):ValP C all o env ec G v:=fun _ w ha hH=>evP_spec ha hH hv w
theorem ValP.vc {p:Prop} (hv:evV C.S env ec G o=some (v,p)) (hp:GP all env ec G→p):ValP C all o env ec G v:=fun _ w ha hH=>evV_spec ha hH hv (hp (hH.gp ha)) w
theorem ValP.val {Hs:List HA} (h:ValP C all o env ec G v):Val C all o env ec Hs G v:=fun a w ha _ hH=>h a w ha hH
end
section
variable {C:Cx} {all:Array Oper} {o:Oper} {k:List It} {env:Env} {ec:EnvC} {H Hs:List HA} {d:Nat} {v:Value} {fuel:Nat} {done:List Nat} {G:GId} {z i:Nat}
theorem chkP_spec (h:chkP all z done i=true):noDef all=true∧Region.noSelect all=true∧Region.free .any all (lst all done) i=true∧i∈Region.ready .any all (lst all done)∧i≠z:=by
 simp only [chkP,Bool.and_eq_true,Bool.not_eq_true'] at h
 obtain⟨h1,h2,h3,h4,h5⟩:=h
 exact⟨h1,h2,h3,by simpa using h4,fun e=>by subst e;simp at h5⟩
theorem dwp (hp:pickQ all done=some (i,o)) (hk:chkP all z done i=true) (hi:all[i]?=some o) (hg:gOf all env ec o=some []) (hv:ValP C all o env ec [] v) (hd:o.dst=some d) (hN:Nat.blt d C.N.n=true) (hs:safeC all d ec=true)
  (h:T C (.draw all fuel (lst all (i::done)) Hs z::k) ((d,v)::env) ec H) (hle:live z (lst all done)=true→Hle H Hs:=by intro h;first|exact Hle.refl _|exact Hle.none _|exact Hle.sub|exact absurd h (by decide +kernel)):T C (.draw all (fuel+1) (lst all done) Hs z::k) env ec H:=by
 obtain⟨h1,h2,h3,h4,h5⟩:=chkP_spec hk
 refine T.mk fun a w ha hw=>?_
 have hwn:=(wanted_iff ha hg).2 (Holds.nil _ _)
 refine wpAnyHR_pure h1 hi (Region.noSelect_spec h2) (fun c a w q=>q) h5 fuel _ a w (Region.free_spec hi h3) h4 (.inl ⟨hwn,fun w' _=>hv a w' ha (Holds.nil _ _)⟩) (fun hl=>hw.le (hle hl)) ?_
 rw [hd]
 exact h _ w (ha.put hN hs) hw
theorem dwpg (hp:pickQ all done=some (i,o)) (hk:chkP all z done i=true) (hi:all[i]?=some o) (hg:gOf all env ec o=some G) (hv:ValP C all o env ec G v) (hd:o.dst=some d) (hN:Nat.blt d C.N.n=true) (hs:safeC all d ec=true) (hsG:safeG all d G=true) (hl:lookE env d=none)
  (h:T C (.draw all fuel (lst all (i::done)) Hs z::k) env ((d,(G,v))::ec) H) (hle:live z (lst all done)=true→Hle H Hs:=by intro h;first|exact Hle.refl _|exact Hle.none _|exact Hle.sub|exact absurd h (by decide +kernel)):T C (.draw all (fuel+1) (lst all done) Hs z::k) env ec H:=by
 obtain⟨h1,h2,h3,h4,h5⟩:=chkP_spec hk
 refine T.mk fun a w ha hw=>?_
 by_cases hH:Holds all a G
 ·have hwn:=(wanted_iff ha hg).2 hH
  refine wpAnyHR_pure h1 hi (Region.noSelect_spec h2) (fun c a w q=>q) h5 fuel _ a w (Region.free_spec hi h3) h4 (.inl ⟨hwn,fun w' _=>hv a w' ha hH⟩) (fun hl=>hw.le (hle hl)) ?_
  rw [hd]
  exact h _ w (ha.putC hN hs hsG hl (fun _=>rfl) (fun hh=>absurd hH hh)) hw
 ·have hwn:Region.wanted o (yielded all a.tmps)=false:=by
   cases hq:Region.wanted o (yielded all a.tmps) with
   | false=>rfl
   | true=>exact absurd ((wanted_iff ha hg).1 hq) hH
  refine wpAnyHR_pure h1 hi (Region.noSelect_spec h2) (fun c a w q=>q) h5 fuel _ a w (Region.free_spec hi h3) h4 (.inr ⟨hwn,rfl⟩) (fun hl=>hw.le (hle hl)) ?_
  rw [hd]
  exact h _ w (ha.putC hN hs hsG hl (fun hh=>absurd hh hH) (fun _=>rfl)) hw
theorem dw0 {id:Nat} (z:Nat) (Hs:List HA) (h:T C (.draw all all.size (lst all []) Hs z::k) env [] H):T C (.code (.region id all true)::k) env ec H:=T_draw z Hs h
theorem dwe (hr:(Region.ready .any all (lst all done)).isEmpty=true) (h:T C (nf 60 k) env [] H):T C (.draw all fuel (lst all done) Hs z::k) env ec H:=T_dend (List.isEmpty_iff.1 hr) h
theorem chkQ_spec (h:chkQ all z done i=true):noDef all=true∧Region.noSelect all=true∧Region.free .any all (lst all done) i=true∧(Region.ready .any all (lst all done)).contains i=true∧waits .any all z i=true∧live z (lst all done)=true:=by
 simpa only [chkQ,Bool.and_eq_true] using h
theorem dwv (hp:pickQ all done=some (i,o)) (hk:chkQ all z done i=true) (hi:all[i]?=some o) (hg:gOf all env ec o=some []) (hv:Val C all o env ec Hs [] v) (hd:o.dst=some d) (hN:Nat.blt d C.N.n=true) (hs:safeC all d ec=true)
  (h:T C (.draw all fuel (lst all (i::done)) Hs z::k) ((d,v)::env) ec H) (hle:Hle H Hs:=by first|exact Hle.refl _|exact Hle.none _|exact Hle.sub):T C (.draw all (fuel+1) (lst all done) Hs z::k) env ec H:=by
 obtain⟨h1,h2,h3,h4,h5,h6⟩:=chkQ_spec hk
 exact T_dval i hi h1 h2 h3 h4 h5 h6 hg hv hd hN hs hle h
theorem dwg (hp:pickQ all done=some (i,o)) (hk:chkQ all z done i=true) (hi:all[i]?=some o) (hg:gOf all env ec o=some G) (hv:Val C all o env ec Hs G v) (hd:o.dst=some d) (hN:Nat.blt d C.N.n=true) (hs:safeC all d ec=true) (hsG:safeG all d G=true) (hl:lookE env d=none)
  (h:T C (.draw all fuel (lst all (i::done)) Hs z::k) env ((d,(G,v))::ec) H) (hle:Hle H Hs:=by first|exact Hle.refl _|exact Hle.none _|exact Hle.sub):T C (.draw all (fuel+1) (lst all done) Hs z::k) env ec H:=by
 obtain⟨h1,h2,h3,h4,h5,h6⟩:=chkQ_spec hk
 exact T_dvalC i hi h1 h2 h3 h4 h5 h6 hg hv hd hN hs hsG hl hle h
theorem dwb {rs:List (Nat × Oper)} (hp:readyL all done=rs) (hk:(!rs.isEmpty && decide (Region.ready .any all (lst all done)=rs.map Prod.fst))=true)
  (h:AllL (fun i o=>OpT C all o env ec H (fun env' ec' H'=>(live z (lst all (i::done))=true→Hle H' Hs)∧T C (.draw all fuel (lst all (i::done)) Hs z::k) env' ec' H')) rs):T C (.draw all (fuel+1) (lst all done) Hs z::k) env ec H:=by
 simp only [Bool.and_eq_true,decide_eq_true_eq,Bool.not_eq_true'] at hk
 refine T_dops hk.2 ?_ fun i hi=>?_
 ·cases rs with
  | nil=>simp at hk
  | cons x l=>rfl
 ·obtain⟨x,hx,rfl⟩:=List.mem_map.1 hi
  exact⟨x.2,readyL_get (hp ▸ hx),h.mem x hx⟩
end
section
variable {C:Cx} {all:Array Oper} {o:Oper} {env:Env} {ec:EnvC} {H Hs:List HA} {d:Nat} {L:Prop} {X:Env→EnvC→List HA→Prop}
theorem dxBox {t:TypeId} {x:Operand} {u:Value} {cs:List Value} (hg:gOf all env ec o=some []) (ho:o.op = .box t x) (hx:evX env ec [] x=some u) (hcs:u.cells.toList=cs) (hd:o.dst=some d) (hN:Nat.blt d C.N.n=true) (hs:safeC all d ec=true)
  (hle:∀ b,L→Hle (blk b cs t::H) Hs) (h:∀ b,X ((d, .pointer (some ⟨b,0,none⟩))::env) ec (blk b cs t::H)):OpT C all o env ec H (fun e c H'=>(L→Hle H' Hs)∧X e c H'):=OpT.box hg ho hx hcs hd hN hs fun b=>⟨hle b,h b⟩
theorem dxAlloc {t:TypeId} {ty:TyI} {cs:List Value} (hg:gOf all env ec o=some []) (ho:o.op = .alloc t) (ht:C.S.ty t=some ty) (hcs:ty.zero.cells.toList=cs) (hd:o.dst=some d) (hN:Nat.blt d C.N.n=true) (hs:safeC all d ec=true)
  (hle:∀ b,L→Hle (blk b cs t::H) Hs) (h:∀ b,X ((d, .pointer (some ⟨b,0,none⟩))::env) ec (blk b cs t::H)):OpT C all o env ec H (fun e c H'=>(L→Hle H' Hs)∧X e c H'):=OpT.alloc hg ho ht hcs hd hN hs fun b=>⟨hle b,h b⟩
theorem dxLit {e:TypeId} {n sz:Nat} {vs:List (Nat × Value)} {ty:TyI} {cs:List Value} (hg:gOf all env ec o=some []) (he:evLit C.S env ec o=some (e,n,vs)) (ht:C.S.ty e=some ty) (hsz:ty.size=sz) (h0:Nat.blt 0 sz=true)
  (hseq:(isSeq 0 vs && (Nat.beq vs.length n && allSz sz vs))=true) (hcs:flatP vs=cs) (hln:Nat.ble (n * sz) 16777216=true) (hd:o.dst=some d) (hN:Nat.blt d C.N.n=true) (hs:safeC all d ec=true)
  (hle:∀ b,L→Hle (blk b cs e::H) Hs) (h:∀ b,X ((d, .slice (some ⟨b,0,none⟩) n n)::env) ec (blk b cs e::H)):OpT C all o env ec H (fun e c H'=>(L→Hle H' Hs)∧X e c H'):=OpT.litW hg he ht hsz h0 hseq hcs hln hd hN hs fun b=>⟨hle b,h b⟩
theorem dxMake {e:TypeId} {l c:Int} {ty:TyI} {z:Value} (hg:gOf all env ec o=some []) (he:evMk C.S env ec o=some (e,l,c)) (ht:C.S.ty e=some ty) (h1:ty.zero=z) (hz1:z.cells = #[z]) (hs1:Nat.beq ty.size 1=true) (hd:o.dst=some d) (hN:Nat.blt d C.N.n=true) (hs:safeC all d ec=true)
  (hb:(0≤l∧l≤c)∧(ty.bytes:Int) * c≤281474976710656∧c≤9223372036854775807) (hle:∀ b,L→Hle (blk b (List.replicate c.toNat z) e::H) Hs) (h:∀ b,X ((d, .slice (some ⟨b,0,none⟩) l.toNat c.toNat)::env) ec (blk b (List.replicate c.toNat z) e::H)):OpT C all o env ec H (fun e c H'=>(L→Hle H' Hs)∧X e c H') :=
 OpT.make hg he ht h1 hz1 hs1 hd hN hs hb fun b=>⟨hle b,h b⟩
end
theorem dw1 {A B:Prop} (h:B) (hab:B→A:=by
  intro hh
  first
  | exact dwp rfl (by decide +kernel) rfl rfl (by first|exact ValP.pure rfl|exact ValP.vc rfl (fun hg=>by first|(simp only [inK];omega)|omega|with_reducible exact True.intro|with_reducible assumption)) rfl rfl rfl hh
  | exact dwpg rfl (by decide +kernel) rfl rfl (by first|exact ValP.pure rfl|exact ValP.vc rfl (fun hg=>by
             (simp only [List.cons_append,List.nil_append,GP,dstL,lookE,Nat.beq,cond,List.getElem?_cons_zero,List.getElem?_cons_succ,Option.bind_some,and_true,Bool.and_eq_true,Bool.or_eq_true,Bool.and_eq_false_iff,Bool.or_eq_false_iff,Bool.not_eq_true',Bool.not_eq_false',decide_eq_true_eq,decide_eq_false_iff_not] at hg)
             first|(simp only [inK];omega)|omega|with_reducible exact True.intro|with_reducible assumption)) rfl rfl rfl rfl rfl hh
  | exact dwv rfl (by decide +kernel) rfl rfl (by
         first
         | exact Val.load rfl (fun _=>rdOwn1 rfl)
         | exact Val.loadA rfl (fun _=>rdAll) rfl
         | exact Val.build rfl
         | exact Val.load rfl (fun _=>rdOld ‹RdC _ _ _ [_]›)
         | exact Val.load rfl (fun _=>rdOld (RdC.at ‹RdC _ _ _ _› rfl))
         | exact Val.load rfl (fun _=>rdOld (RdC.at2 ‹RdC _ _ _ _› rfl))
         | exact Val.loadA rfl (fun _=>rdOld ‹RdC _ _ _ _›) rfl) rfl rfl rfl hh
  | exact dwg rfl (by decide +kernel) rfl rfl (by
         first
         | exact Val.load rfl (fun _=>rdOwn1 rfl)
         | exact Val.loadA rfl (fun _=>rdAll) rfl
         | exact Val.build rfl
         | exact Val.load rfl (fun _=>rdOld ‹RdC _ _ _ [_]›)
         | exact Val.load rfl (fun _=>rdOld (RdC.at ‹RdC _ _ _ _› rfl))
         | exact Val.load rfl (fun _=>rdOld (RdC.at2 ‹RdC _ _ _ _› rfl))
         | exact Val.loadA rfl (fun _=>rdOld ‹RdC _ _ _ _›) rfl) rfl rfl rfl rfl rfl hh
  | exact dwe (by decide +kernel) hh):A:=hab h
theorem dwx {A B:Prop} (h:B) (hab:B→A:=by
 intro hh
 first
 | exact OpT.ofVal rfl (Val.pure rfl) rfl rfl rfl ⟨fun _=>(by first|exact Hle.none _|exact Hle.sub|exact absurd ‹_› (by decide +kernel)),hh⟩
 | exact OpT.ofVal rfl (Val.vc rfl (fun hg=>by first|(simp only [inK];omega)|omega|with_reducible exact True.intro|with_reducible assumption)) rfl rfl rfl ⟨fun _=>(by first|exact Hle.none _|exact Hle.sub|exact absurd ‹_› (by decide +kernel)),hh⟩
 | exact dxBox rfl rfl rfl rfl rfl rfl rfl (fun b _=>(by first|exact Hle.none _|exact Hle.sub|exact absurd ‹_› (by decide +kernel))) hh
 | exact dxAlloc rfl rfl rfl rfl rfl rfl rfl (fun b _=>(by first|exact Hle.none _|exact Hle.sub|exact absurd ‹_› (by decide +kernel))) hh
 | exact dxLit rfl rfl rfl rfl rfl rfl rfl rfl rfl rfl rfl (fun b _=>(by first|exact Hle.none _|exact Hle.sub|exact absurd ‹_› (by decide +kernel))) hh
 | exact dxMake rfl rfl rfl rfl rfl rfl rfl rfl rfl (by first|omega|(dsimp only;omega)) (fun b _=>(by first|exact Hle.none _|exact Hle.sub|exact absurd ‹_› (by decide +kernel))) hh
 | exact OpT.store rfl rfl rfl rfl (by first|exact Nat.le_of_ble_eq_true rfl|decide|(simp;omega)) ⟨fun _=>(by first|exact Hle.none _|exact Hle.sub|exact absurd ‹_› (by decide +kernel)),hh⟩
 | exact OpT.storeA rfl rfl rfl rfl rfl rfl (by first|exact Nat.le_of_ble_eq_true rfl|decide|(simp;omega)) ⟨fun _=>(by first|exact Hle.none _|exact Hle.sub|exact absurd ‹_› (by decide +kernel)),hh⟩):A:=hab h
end Go.Proofs.YtefieebkankfoaaGreatDoor
namespace Go.Proofs.YtefieebkankfoaaGreatDoor
open Go.RowKit Go.Shelf

def fillA (sz:Nat) (cs:List Value):List (Nat × Value)→Option (List Value)
  | []=>some cs
  | (i,v)::r=>cond (Nat.beq v.cells.size sz && Nat.ble (i * sz+sz) cs.length) (fillA sz (setL cs (i * sz) v.cells.toList) r) none
theorem fillA_spec {sz:Nat}:∀ {ps:List (Nat × Value)} {cs cs':List Value},fillA sz cs ps=some cs'→Instr.fill (fun i=>some (i * sz,sz)) cs.toArray ps=some cs'.toArray
  | [],cs,cs',h=>by cases h;rfl
  | (i,v)::r,cs,cs',h=>by
    unfold fillA at h
    cases hc:(Nat.beq v.cells.size sz && Nat.ble (i * sz+sz) cs.length) with
    | false=>rw [hc] at h;cases h
    | true =>
      rw [hc] at h
      simp only [cond_true] at h
      simp only [Bool.and_eq_true] at hc
      have h1:v.cells.size=sz:=Nat.eq_of_beq_eq_true hc.1
      have h2:i * sz+sz≤cs.length:=Nat.le_of_ble_eq_true hc.2
      have ih:=fillA_spec h
      unfold Instr.fill
      dsimp only
      rw [if_neg (by simp [h1];omega)]
      have e:=foldl_setL v.cells.toList cs (i * sz) 0
      rw [← Array.foldl_toList,Array.toList_zipIdx]
      rw [e,Nat.add_zero]
      exact ih
def evBdA (S:Sig) (env:Env) (ec:EnvC) (G:GId) (o:Oper):Option (List Value) :=
 match o.op with
 | .build t ps=>match S.ty t,evPartsG env ec G ps.toList with
  | some ⟨.arr _ e,_,_,z⟩,some vs=>match S.ty e with
   | some ⟨_,sz,_,_⟩=>fillA sz z.cells.toList vs
   | none=>none
  | _,_=>none
 | _=>none
theorem Val.buildA {C:Cx} {all:Array Oper} {o:Oper} {env:Env} {ec:EnvC} {Hs:List HA} {G:GId} {cs:List Value} (hv:evBdA C.S env ec G o=some cs):Val C all o env ec Hs G (.agg cs.toArray):=by
 intro a w ha _ hG
 obtain⟨dst,op,ty,pos,aft,gd⟩:=o
 unfold evBdA at hv
 dsimp only at hv
 split at hv
 ·rename_i t ps
  split at hv
  ·rename_i n e q1 q2 z vs ht hvs
   split at hv
   ·rename_i q3 sz q4 q5 hte
    have hk:=Sig.tyOk ht
    have hfa:=hk.fits
    simp only [Ty.fits] at hfa
    have hz:=hk.zeroValue w
    dsimp only at hz
    have hsz:=(Sig.tyOk hte).sizeOf w
    dsimp only at hsz
    have hparts:(Array.map (fun x:Nat × Operand=>(x.1,a.eval x.2)) ps).toList=vs:=by rw [Array.toList_map];exact evPartsG_spec ha hG hvs
    have hf:=fillA_spec hv
    have hf':Instr.fill (fun i=>some (i * sz,sz)) z.cells vs=some cs.toArray:=hf
    simp only [execOp,Instr.build,Sem.run_bind,hz,Result.andThen_ok,run_underlying hfa,hsz]
    rw [hparts,hf']
    rfl
   ·cases hv
  ·cases hv
 ·cases hv
def evIxA (S:Sig) (env:Env) (ec:EnvC) (G:GId) (o:Oper):Option (Value × Int × Nat) :=
 match o.op with
 | .index t x i=>match S.ty t,evX env ec G x,evX env ec G i with
  | some ⟨.arr n e,_,_,_⟩,some (.agg cs),some (.int _ i)=>match S.ty e with
   | some ⟨d,sz,_,_⟩=>cond (d.plain && (!d.isAgg && Nat.beq sz 1)) (match cs.toList[i.toNat]? with
    | some v=>some (v,i,n)
    | none=>none) none
   | none=>none
  | _,_,_=>none
 | _=>none
theorem Val.indexA {C:Cx} {all:Array Oper} {o:Oper} {env:Env} {ec:EnvC} {Hs:List HA} {G:GId} {v:Value} {i:Int} {n:Nat} (hv:evIxA C.S env ec G o=some (v,i,n)) (hi:GP all env ec G→0≤i∧i<(n:Int)):Val C all o env ec Hs G v:=by
 intro a w ha _ hG
 have hi:=hi (hG.gp ha)
 obtain⟨dst,op,ty,pos,aft,gd⟩:=o
 unfold evIxA at hv
 dsimp only at hv
 split at hv
 ·rename_i t x y
  split at hv
  ·rename_i n' e q1 q2 q3 cs k i' ht hx hy
   split at hv
   ·rename_i d sz q4 q5 hte
    cases hc:(d.plain && (!d.isAgg && Nat.beq sz 1)) with
    | false=>rw [hc] at hv;cases hv
    | true =>
     rw [hc] at hv
     simp only [cond_true] at hv
     simp only [Bool.and_eq_true,Bool.not_eq_true'] at hc
     obtain⟨c1,c2,c3⟩:=hc
     have e1:sz=1:=Nat.eq_of_beq_eq_true c3
     subst e1
     split at hv
     ·rename_i u hu
      cases hv
      have hk:=(Sig.tyOk ht).fits
      simp only [Ty.fits] at hk
      have hsz:=(Sig.tyOk hte).sizeOf w
      dsimp only at hsz
      have hia:=(Sig.tyOk hte).isAgg w c1
      dsimp only at hia
      rw [c2] at hia
      have hu':cs[i.toNat]?=some v:=by simpa using hu
      simp only [execOp,evX_spec ha hG hx,evX_spec ha hG hy,Instr.index]
      simp [asIntOf,run_underlying hk,hsz,hi,part,hia,hu']
     ·cases hv
   ·cases hv
  ·cases hv
 ·cases hv

class RemP (A:HA) (H:List HA) (H':outParam (List HA)):Prop where
 at_:∃ i:Nat,H[i]?=some A∧∀ j:Nat,H'[j]?=H[if j<i then j else j+1]?
instance RemP.head (A:HA) (H:List HA):RemP A (A::H) H:=⟨0,rfl,fun j=>by rw [if_neg (by omega)];rfl⟩
instance (priority:=low) RemP.tail (A B:HA) (H H':List HA) [h:RemP A H H']:RemP A (B::H) (B::H'):=⟨by
 obtain⟨i,h1,h2⟩:=h.at_
 refine ⟨i+1,by simpa using h1,fun j=>?_⟩
 cases j with
 | zero=>simp
 | succ j =>
  rw [List.getElem?_cons_succ,h2 j]
  by_cases h3:j<i
  ·rw [if_pos h3,if_pos (by omega)];simp
  ·rw [if_neg h3,if_neg (by omega)];simp⟩
class PickP (H K:List HA):Prop where
 at_:∃ p:Nat→Nat,(∀ (i:Nat) (B:HA),K[i]?=some B→H[p i]?=some B)∧∀ i j,i<K.length→j<K.length→i≠j→p i≠p j
instance PickP.nil (H:List HA):PickP H []:=⟨id,fun i B h=>by simp at h,fun i j h=>by simp at h⟩
instance PickP.cons (A:HA) (H H' K:List HA) [h:RemP A H H'] [k:PickP H' K]:PickP H (A::K):=⟨by
 obtain⟨i,h1,h2⟩:=h.at_
 obtain⟨p,k1,k2⟩:=k.at_
 refine ⟨fun s=>match s with | 0=>i|s+1=>if p s<i then p s else p s+1,fun s B hs=>?_,fun s t hs ht hne=>?_⟩
 ·cases s with
  | zero=>simp at hs;subst hs;exact h1
  | succ s =>
   have:=k1 s B (by simpa using hs)
   rw [h2] at this
   exact this
 ·cases s <;> cases t <;> dsimp only
  ·omega
  ·split <;> omega
  ·split <;> omega
  ·rename_i s t
   have:=k2 s t (by simpa using hs) (by simpa using ht) (by omega)
   (repeat' split) <;> omega⟩
theorem Hle.any {H K:List HA} [h:PickP H K]:Hle H K:=by
 obtain⟨p,h1,h2⟩:=h.at_
 exact Hle.pick p h1 h2
theorem Hle.nth {H:List HA} {A:HA} (i:Nat) (h:H[i]?=some A):Hle H [A] :=
 Hle.pick (fun _=>i) (fun j B hj=>by
  cases j with
  | zero=>simp at hj;subst hj;exact h
  | succ j=>simp at hj) (fun i j hi hj hne=>by simp at hi hj;omega)
inductive Rm (A:HA):List HA→List HA→Prop where
 | here {H:List HA}:Rm A (A::H) H
 | there {B:HA} {H H':List HA} (h:Rm A H H'):Rm A (B::H) (B::H')
inductive Pk:List HA→List HA→Prop where
 | nil (H:List HA):Pk H []
 | cons {A:HA} {H H' K:List HA} (h:Rm A H H') (k:Pk H' K):Pk H (A::K)
theorem Rm.spec {A:HA} {H H':List HA} (h:Rm A H H'):RemP A H H':=by
 induction h with
 | here=>exact RemP.head _ _
 | there _ ih=>exact RemP.tail _ _ _ _ (h:=ih)
theorem Pk.spec {H K:List HA} (h:Pk H K):PickP H K:=by
 induction h with
 | nil H=>exact PickP.nil H
 | cons h _ ih=>exact PickP.cons _ _ _ _ (h:=h.spec) (k:=ih)
theorem Rm.b {b:Nat} {cs cs':List Value} {t:TypeId} {H:List HA} (h:cs'=cs):Rm (blk b cs t) (blk b cs' t::H) H:=by subst h;exact .here
theorem Hle.srt {H K:List HA} (h:Pk H K:=by repeat' (first|exact Pk.nil _|apply Pk.cons|with_reducible exact Rm.here|((with_reducible apply Rm.b);rfl)|apply Rm.there)):Hle H K:=Hle.any (h:=h.spec)
end Go.Proofs.YtefieebkankfoaaGreatDoor
namespace Go.Proofs.YtefieebkankfoaaGreatDoor
open Go.RowKit Go.Shelf

end Go.Proofs.YtefieebkankfoaaGreatDoor
namespace Go.Proofs.YtefieebkankfoaaGreatDoor
open Go.RowKit Go.Shelf

theorem Rm.r {e:TypeId} {sz cap n cap' n':Nat} {A:Option Addr} {xs xs':List Value} {H:List HA} (h1:cap'=cap) (h2:n'=n) (h:xs'=xs):Rm (row e sz A cap n xs) (row e sz A cap' n' xs'::H) H:=by subst h;subst h1;subst h2;exact .here
theorem Hle.srt2 {H K:List HA} (h:Pk H K:=by repeat' (first|exact Pk.nil _|apply Pk.cons|with_reducible exact Rm.here|((with_reducible apply Rm.b);rfl)|((with_reducible apply Rm.r) <;> rfl)|apply Rm.there)):Hle H K:=Hle.any (h:=h.spec)
theorem flat_len {α:Type} (cells:α→List Value) (sz:Nat) (h:∀ t,(cells t).length=sz):∀ l:List α,(l.flatMap cells).length=l.length * sz
 | []=>by simp
 | t::l=>by rw [List.flatMap_cons,List.length_append,h,flat_len cells sz h l,List.length_cons,Nat.succ_mul];omega
theorem flat_sub {α:Type} (cells:α→List Value) (sz:Nat) (h:∀ t,(cells t).length=sz) (l:List α) (lo hi j:Nat) (u:Value) (hu:(((l.take hi).drop lo).flatMap cells)[j]?=some u):(l.flatMap cells)[lo * sz+j]?=some u:=by
 have hlo:lo≤(l.take hi).length:=by
  rcases Nat.lt_or_ge (l.take hi).length lo with h1|h1
  ·rw [List.drop_of_length_le (by omega)] at hu;simp at hu
  ·exact h1
 have e1:((l.take hi).flatMap cells)[lo * sz+j]?=some u:=by
  rw [← List.take_append_drop lo (l.take hi),List.flatMap_append,List.getElem?_append_right (by rw [flat_len cells sz h,List.length_take];have:=Nat.mul_le_mul_right sz (Nat.min_le_left lo (l.take hi).length);omega),flat_len cells sz h,List.length_take,Nat.min_eq_left hlo,Nat.add_sub_cancel_left]
  exact hu
 rw [← List.take_append_drop hi l,List.flatMap_append,List.getElem?_append_left (List.getElem?_eq_some_iff.1 e1).1]
 exact e1
theorem src_sub {α:Type} (cells:α→List Value) (sz:Nat) (h:∀ t,(cells t).length=sz) {w:World} {A:Option Addr} {n ca:Nat} {l:List α} (hs:Src w sz A n (l.flatMap cells)) (hl:l.length=n) (lo hi:Nat) (h1:lo≤hi) (h2:hi≤n) (h3:n≤ca) :
  Src w sz (cutA A ca lo sz) (hi - lo) (((l.take hi).drop lo).flatMap cells):=by
 refine ⟨by rw [flat_len cells sz h,List.length_drop,List.length_take];congr 1;omega,fun hn=>?_⟩
 obtain⟨hA,hr⟩:=hs.2 (by omega)
 unfold isAt at hA
 have e:cutA A ca lo sz=some ⟨bk A,ofs A+lo * sz,none⟩:=by
  unfold cutA
  rw [if_neg (by omega),hA]
  simp only [Option.map_some,Addr.add]
  congr 1
  split
  ·rename_i hz;rw [hz];rfl
  ·rfl
 rw [e]
 refine ⟨rfl,fun j u hu=>?_⟩
 have:=hr (lo * sz+j) u (flat_sub cells sz h l lo hi j u hu)
 show w.cell? ⟨bk A,ofs A+lo * sz+j,none⟩=_
 rw [Nat.add_assoc];exact this
theorem src_take {α:Type} (cells:α→List Value) (sz:Nat) (h:∀ t,(cells t).length=sz) {w:World} {A:Option Addr} {n:Nat} {l:List α} (hs:Src w sz A n (l.flatMap cells)) (hl:l.length=n) (hi:Nat) (h2:hi≤n) :
  Src w sz A hi ((l.take hi).flatMap cells):=by
 refine ⟨by rw [flat_len cells sz h,List.length_take];congr 1;omega,fun hn=>?_⟩
 obtain⟨hA,hr⟩:=hs.2 (by omega)
 refine ⟨hA,fun j u hu=>hr j u ?_⟩
 have:=flat_sub cells sz h l 0 hi j u (by rw [List.drop_zero];exact hu)
 rwa [Nat.zero_mul,Nat.zero_add] at this
end Go.Proofs.YtefieebkankfoaaGreatDoor
namespace Go.Proofs.YtefieebkankfoaaGreatDoor
open Go.RowKit Go.Shelf

structure SpecB (P:Program) (f:FuncId) (args:List Value) (w0:World) (H:List HA) (Φ:Value→List HA→Prop):Prop where
 enters:Enters P f
 calls:∀ w,Cls w0 w H→Calls P f args.toArray w (Ret w0 Φ)
theorem specB_of (S : Sig) {f : FuncId} {fn : Func} {c : Code} {args : List Value} {w0 : World} {H : List HA} {Φ : Value → List HA → Prop} (hf : S.P.funcs[f]? = some fn) (hn : (fn.name == "runtime.NumGoroutine") = false) (hb : fn.body = some c)
  (hlen:Nat.ble args.length fn.ntmps=true) (h:T (FC S fn.ntmps [] w0 fn Φ) (nf 60 [.code c]) (zipE 0 args) [] H):SpecB S.P f args w0 H Φ:=by
 refine ⟨enters_of hf hn hb,fun w hw=>callsIn_wide.1 (callsIn_of_wp_marks (n:=0) hf hb trivial ?_)⟩
 have hlen':args.length≤fn.ntmps:=Nat.le_of_ble_eq_true hlen
 have ha:Agrees ⟨fn.ntmps,[]⟩ (allOf (nf 60 [.code c])) (zipE 0 args) [] { tmps:=args.toArray++Array.replicate (fn.ntmps - args.toArray.size) undef,defers:=[] }:=by
  refine ⟨rfl,by simp;omega,fun s v hv=>?_,fun _ _ _ h=>(by cases h),fun _ _ _ h=>(by cases h)⟩
  obtain⟨_,h2⟩:=zipE_spec args 0 s v hv
  simp only [Nat.sub_zero] at h2
  have hs:s<args.length:=(List.getElem?_eq_some_iff.1 h2).1
  simp [Array.getD_eq_getD_getElem?,Array.getElem?_append,hs]
  rw [List.getElem?_eq_getElem hs] at h2
  simpa using h2
 have:=nf_spec (h _ _ ha hw)
 simp only [sem] at this
 refine wpIn_mono this fun e a w' q=>?_
 cases e <;> first|exact q|exact q.elim
section
variable {C:Cx} {all:Array Oper} {o:Oper} {env:Env} {ec:EnvC} {H:List HA} {d:Nat}
theorem OpT.callB {f:FuncId} {args:List Value} {Ψ:Value→List HA→Prop} {Φ:Env→EnvC→List HA→Prop} (hg:gOf all env ec o=some []) (he:evCall env ec [] o=some (f,args)) (hd:o.dst=some d) (hN:Nat.blt d C.N.n=true) (hs:safeC all d ec=true)
  (hc:SpecB C.S.P f args C.w0 H Ψ) (h:∀ u A,Ψ u A→Φ ((d,u)::env) ec A):OpT C all o env ec H Φ:=by
 intro a w ha hw K Q hK
 have hwn:=(wanted_iff ha hg).2 (Holds.nil _ _)
 refine ⟨fun _=>?_,fun hn=>(by rw [hwn] at hn;cases hn)⟩
 obtain⟨hen,hcall⟩:=hc
 unfold Oper.wpIn
 refine ⟨about_Fr o _ w _,?_⟩
 rw [Oper.semAt_eq _ _ _ (gOf_def hg)]
 rw [evCall_spec ha (Holds.nil _ _) he hen w]
 refine ⟨fun h=>(by cases h),callsIn_Fr (Calls.mono (hcall w hw) ?_)⟩
 rintro e w' ⟨u,A,rfl,hΨ,hb,hsep⟩
 exact hK _ _ _ _ _ (h u A hΨ) (by rw [hd];exact ha.put hN hs) ⟨hb,hsep⟩
end
end Go.Proofs.YtefieebkankfoaaGreatDoor
namespace Go.Proofs.YtefieebkankfoaaGreatDoor
open Go.RowKit Go.Shelf

section
variable {C:Cx} {all:Array Oper} {o:Oper} {env:Env} {ec:EnvC} {H:List HA} {d:Nat} {Φ:Env→EnvC→List HA→Prop}
end
end Go.Proofs.YtefieebkankfoaaGreatDoor
namespace Go.Proofs.YtefieebkankfoaaGreatDoor
open Go.RowKit Go.Shelf
set_option maxRecDepth 100000
set_option maxHeartbeats 1000000

section
variable {C:Cx} {env:Env} {ec:EnvC} {H:List HA}
theorem Hle.drop2 (A B:HA) (K:List HA):Hle (A::B::K) (A::K):=by
 refine Hle.pick (fun i=>if i=0 then 0 else i+1) (fun i X h=>?_) (fun i j _ _ h=>by show (if i=0 then 0 else i+1)≠(if j=0 then 0 else j+1);split <;> split <;> omega)
 cases i with
 | zero=>simpa using h
 | succ i=>simpa using h
end

def evCp (S:Sig) (env:Env) (ec:EnvC) (o:Oper):Option (Option Addr × Nat × Option Addr × Nat × TypeId) :=
 match o.op with
 | .call { callee := .builtin .copy,args:=xs,argTypes:=ts }=>match evL env ec [] xs.toList,ts.toList with
  | some [.slice A n _, .slice B m _],[t,_]=>match S.ty t with
   | some ⟨.slice e,_,_,_⟩=>some (A,n,B,m,e)
   | _=>none
  | _,_=>none
 | _=>none
section
variable {C:Cx} {all:Array Oper} {o:Oper} {env:Env} {ec:EnvC} {H:List HA} {d:Nat} {Φ:Env→EnvC→List HA→Prop}
theorem OpT.copyR {g off dl sl k:Nat} {A' B:Option Addr} {e:TypeId} {ty:TyI} {sz cap n:Nat} {xs us:List Value} {rb:HA→List HA} (hg:gOf all env ec o=some []) (he:evCp C.S env ec o=some (A',dl,B,sl,e)) (hd:o.dst=some d) (hN:Nat.blt d C.N.n=true) (hs:safeC all d ec=true)
  (ht:C.S.ty e=some ty) (hsz:Nat.beq ty.size sz=true) [hf:FocusR H (some ⟨g,0,none⟩) e sz cap n xs rb] (hA':A'=some ⟨g,off,none⟩) (hk:min sl dl=k) (hsrc:∀ w,Cls C.w0 w H→Src w sz B k us) (h1:oneCells us=true) (hl:off+us.length≤n * sz)
  (h:Φ ((d, .int .i64 k)::env) ec (rb (row e sz (some ⟨g,0,none⟩) cap n (setL xs off us)))):OpT C all o env ec H Φ:=by
 subst hA'
 have hsz':ty.size=sz:=Nat.eq_of_beq_eq_true hsz
 obtain⟨i,hi,hrb⟩:=hf.at_
 obtain⟨x,hx,hx1,hx2,hx3⟩:=(Sig.tyOk ht).info'
 refine OpT.eff hg fun a w ha hw=>?_
 obtain⟨F,f1,f2,f3⟩:=hw.sep
 have hil:i<H.length:=(List.getElem?_eq_some_iff.1 hi).1
 obtain⟨hxl,hrow⟩:=f1 i _ hi
 rcases hrow with⟨h9,_⟩|⟨g',cur,hA,hF,g1,g2,g3,g4⟩
 ·cases h9
 cases hA
 obtain⟨hbn,hb⟩:=f2 i g (.cells cur e (0,0)) hil (by rw [hF];simp [one])
 have hsn:n * sz≤cap * sz:=Nat.mul_le_mul_right _ g1
 have hcl:cur.toList.length=cap * sz:=by simpa using g3
 obtain⟨w',k1,k2,k3,k4,k5,k6,k7⟩:=run_storeL C.S.P g e us 0 off cur.toList w (by simpa using hb) (by rw [hcl];omega) h1
 obtain⟨hul,hat⟩:=hsrc w hw
 have hload:∀ cc,(Builtin.firstCells x.size k (.slice B sl cc)).run C.S.P w = .ok us.toArray w:=fun cc=>by
  rw [hx1,hsz']
  rcases B with _|ad
  ·have hk0:¬ 0<k:=fun h9=>by
    have:=(hat h9).1
    simp [isAt] at this
   have hu0:us=[]:=List.eq_nil_of_length_eq_zero (by rw [hul,show k=0 by omega,Nat.zero_mul])
   subst hu0
   simp [Builtin.firstCells]
  ·simp only [Builtin.firstCells]
   rw [← hul]
   refine run_loadCells_list (P:=C.S.P) w ad us fun j u hu=>?_
   have hj:j<us.length:=(List.getElem?_eq_some_iff.1 hu).1
   have hk0:0<k:=by
    rcases Nat.eq_zero_or_pos k with h9|h9
    ·rw [h9,Nat.zero_mul] at hul;omega
    ·exact h9
   obtain⟨h8,h9⟩:=hat hk0
   obtain⟨ab,ao,ap⟩:=ad
   have h7:ap=none:=by simpa [isAt,bk,ofs] using h8
   subst h7
   have:=h9 j u hu
   unfold Addr.add
   split
   ·rename_i e0;subst e0;simpa [bk,ofs] using this
   ·simpa [bk,ofs] using this
 obtain⟨dst,op,ty0,pos,aft,gd⟩:=o
 unfold evCp at he
 dsimp only at he
 split at he
 ·rename_i ps ts
  split at he
  ·rename_i A1 n1 c1 B1 m1 c2 t u hps hts
   split at he
   ·rename_i e1 q1 q2 q3 hty
    cases he
    have hut:=(Sig.tyOk hty).fits
    simp only [Ty.fits] at hut
    have hargs:ps.map a.eval = #[.slice (some ⟨g,off,none⟩) dl c1, .slice B sl c2]:=Array.ext' (by rw [Array.toList_map];exact evL_spec ha (Holds.nil _ _) hps)
    have hts':ts = #[t,u]:=Array.ext' hts
    have hcp:(Builtin.copy_ #[t,u] ty0 #[.slice (some ⟨g,off,none⟩) dl c1, .slice B sl c2]).run C.S.P w = .ok (goInt k) w':=by
     have hk':Nat.min sl dl=k:=hk
     simp [Builtin.copy_,run_underlying hut,Builtin.lenOf,sizeOf,typeInfo,hx,hk',hload,k1]
    refine ⟨.int .i64 k,w',rb (row e sz (some ⟨g,0,none⟩) cap n (setL xs off us)),?_,⟨?_,?_⟩,d,hd,hN,hs,h⟩
    ·simp [execOp,resolve,invoke,builtin,hargs,hts',hcp,goInt]
    ·exact hw.below.trans ⟨k4,k5,k6,by omega,fun c hc=>k3 c (by omega)⟩
    ·rw [hrb]
     refine hw.sep.turn hi (fun f hf=>?_) (fun c hc _=>k3 c hc) k2 ?_
     ·obtain⟨_,hr⟩:=hf
      rcases hr with⟨h9,_⟩|⟨g',cur',hA',hF',_⟩
      ·cases h9
      ·cases hA';exact⟨_,hF'⟩
     ·refine ⟨by rw [setL_length];exact hxl, .inr ⟨g,_,rfl,rfl,g1,g2,by rw [List.size_toArray,setL_length];exact hcl,?_⟩⟩
      rw [Nat.add_zero]
      show (setL cur.toList off us).take (n * sz)=_
      rw [setL_take _ _ _ (by omega),g4]
   ·cases he
  ·cases he
 ·cases he

theorem evCall_run {P:Program} {N:FK} {all:Array Oper} {env:Env} {ec:EnvC} {G:GId} {o:Oper} {a:Act} (ha:Agrees N all env ec a) (hG:Holds all a G) {f:FuncId} {args:List Value}
  (h:evCall env ec G o=some (f,args)) (w:World):(execOp a.eval o).run P w=(callFunc f args.toArray).run P w:=by
 obtain⟨dst,op,ty,pos,aft,gd⟩:=o
 unfold evCall at h
 dsimp only at h
 split at h
 ·rename_i x xs ts
  split at h
  ·rename_i g fs cs vs hx hvs
   cases h
   have e1:=evL_spec ha hG hvs
   have e2:xs.map a.eval=vs.toArray:=Array.ext' (by rw [Array.toList_map];exact e1)
   have e3:(fs.toList++(vs++cs.toList)).toArray=fs++vs.toArray++cs:=Array.ext' (by simp)
   simp only [execOp,resolve,e2,evX_spec ha hG hx,Deferred.ofValue]
   rw [e3]
   simp [invoke]
  ·cases h
 ·cases h
theorem OpT.callX {f:FuncId} {args:List Value} {v:Value} (hg:gOf all env ec o=some []) (he:evCall env ec [] o=some (f,args)) (hd:o.dst=some d) (hN:Nat.blt d C.N.n=true) (hs:safeC all d ec=true)
  (hrun:∀ w,Cls C.w0 w H→(callFunc f args.toArray).run C.S.P w = .ok (.value v) w) (h:Φ ((d,v)::env) ec H):OpT C all o env ec H Φ :=
 OpT.eff hg fun _ w ha hw=>⟨v,w,H,by rw [evCall_run ha (Holds.nil _ _) he w];exact hrun w hw,hw,d,hd,hN,hs,h⟩
end
theorem setL_eq:∀ (us cs:List Value) (off:Nat),off+us.length≤cs.length→setL cs off us=cs.take off++(us++cs.drop (off+us.length))
 | [],cs,off,h=>by simp [setL]
 | u::us,cs,off,h=>by
  simp only [List.length_cons] at h
  have e:cs.set off u=cs.take off++u::cs.drop (off+1):=by rw [List.set_eq_take_append_cons_drop,if_pos (by omega)]
  have hl:(cs.take off).length=off:=by rw [List.length_take];omega
  simp only [setL]
  rw [setL_eq us (cs.set off u) (off+1) (by simp;omega),e,List.take_append,List.drop_append,hl,show off+1 - off=1 by omega,List.take_of_length_le (l:=cs.take off) (by rw [hl];omega),show (cs.take off).drop (off+1+us.length)=[] from List.drop_eq_nil_of_le (by rw [hl];omega),
   show off+1+us.length - off=us.length+1 by omega]
  simp [Nat.add_assoc,Nat.add_comm 1]
theorem cutA_at {a ca lo sz:Nat} (h:lo<ca):cutA (some ⟨a,0,none⟩) ca lo sz=some ⟨a,lo * sz,none⟩:=by
 unfold cutA
 rw [if_neg (by omega)]
 simp only [Option.map_some,Addr.add]
 split
 ·rename_i e;rw [e]
 ·simp
end Go.Proofs.YtefieebkankfoaaGreatDoor
namespace Go.Proofs.YtefieebkankfoaaGreatDoor
open Go.RowKit Go.Shelf
set_option maxRecDepth 100000
set_option maxHeartbeats 1000000
theorem made_flat (z:Array Value):∀ n,(madeCells z (n * z.size)).toList=(List.replicate n z.toList).flatten
 | 0=>by simp [madeCells]
 | n+1=>by
  have ih:=made_flat z n
  have e:∀ m,(madeCells z m).toList=(List.range m).map fun i=>z[i % z.size]!:=fun m=>by simp [madeCells,Array.toList_range]
  rw [e] at ih
  rw [e,show (n+1) * z.size=z.size+n * z.size by rw [Nat.add_mul];omega,List.range_add,List.map_append,List.replicate_succ,List.flatten_cons, ← ih,List.map_map]
  congr 1
  ·apply List.ext_getElem?
   intro j
   by_cases hj:j<z.size
   ·rw [List.getElem?_map,List.getElem?_range hj]
    simp [Nat.mod_eq_of_lt hj,hj]
   ·rw [List.getElem?_eq_none (by simp;omega),List.getElem?_eq_none (by simp;omega)]
  ·apply List.map_congr_left
   intro i _
   simp [Nat.add_mod_left]
section
variable {C:Cx} {all:Array Oper} {o:Oper} {env:Env} {ec:EnvC} {H:List HA} {d:Nat} {Φ:Env→EnvC→List HA→Prop}
theorem OpT.makeC {e:TypeId} {l c:Int} {ty:TyI} (hg:gOf all env ec o=some []) (he:evMk C.S env ec o=some (e,l,c)) (ht:C.S.ty e=some ty) (hd:o.dst=some d) (hN:Nat.blt d C.N.n=true) (hs:safeC all d ec=true)
  (hb:(0≤l∧l≤c)∧(ty.bytes:Int) * c≤281474976710656∧c≤9223372036854775807) (h:∀ b,Φ ((d, .slice (some ⟨b,0,none⟩) l.toNat c.toNat)::env) ec (blk b (madeCells ty.zero.cells (c.toNat * ty.size)).toList e::H)):OpT C all o env ec H Φ:=by
 obtain⟨x,hx,hx1,hx2,hx3⟩:=(Sig.tyOk ht).info'
 refine OpT.eff hg fun a w ha hw=>⟨.slice (some ⟨w.heap.size,0,none⟩) l.toNat c.toNat,w.alloc (.cells (madeCells ty.zero.cells (c.toNat * x.size)) e),_,?_,hw.alloc _ ?_,d,hd,hN,hs,h w.heap.size⟩
 ·obtain⟨dst,op,ty0,pos,aft,gd⟩:=o
  unfold evMk at he
  dsimp only at he
  split at he
  ·rename_i t p q
   split at he
   ·rename_i e' q1 q2 q3 kl l' kc c' hty hl hc
    cases he
    have hut:=(Sig.tyOk hty).fits
    simp only [Ty.fits] at hut
    have hr:=run_make (P:=C.S.P) w t e x ty.zero hut hx hx3 kl kc l c hb.1.1 hb.1.2 (by rw [hx2];exact hb.2.1) hb.2.2
    simp only [execOp,evX_spec ha (Holds.nil _ _) hl,evX_spec ha (Holds.nil _ _) hc]
    simp [hr]
   ·cases he
  ·cases he
 ·unfold blk
  rw [hx1]
end
end Go.Proofs.YtefieebkankfoaaGreatDoor
namespace Go.Proofs.YtefieebkankfoaaGreatDoor
open Go.RowKit Go.Shelf
set_option maxRecDepth 100000
set_option maxHeartbeats 1000000

def IterAt (P:Program) (w0:World) (f:FuncId) (fs cs:List Value) (cap:List HA) (xs:List (List Value)):Prop :=
 Enters P f∧∀ l GP X w Hj,Yields P w0 l GP X xs→GP 0 Hj→Cls w0 w (cap++Hj) →
  CallsIn (Fr none) 0 P f (fs++(yv l::cs)).toArray w (RIt w0 cap GP X xs.length)
theorem iterAt_of (S : Sig) {w0 : World} {f : FuncId} {fn : Func} {c : Code} {fs cs : List Value} {cap : List HA} {xs : List (List Value)} (hf : S.P.funcs[f]? = some fn) (hn : (fn.name == "runtime.NumGoroutine") = false) (hb : fn.body = some c)
  (hlen:Nat.ble (fs.length+(1+cs.length)) fn.ntmps=true)
  (h:∀ l GP X Hj,Yields S.P w0 l GP X xs→GP 0 Hj→T (IC S fn.ntmps w0 fn (RIt w0 cap GP X xs.length)) (nf 60 [.code c]) (zipE 0 (fs++(yv l::cs))) [] (cap++Hj)):IterAt S.P w0 f fs cs cap xs:=by
 refine ⟨enters_of hf hn hb,fun l GP X w Hj hY h0 hw=>callsIn_of_wp_marks (n:=0) hf hb trivial ?_⟩
 generalize hargs:fs++(yv l::cs)=args
 have hlen':args.length≤fn.ntmps:=by
  have:=Nat.le_of_ble_eq_true hlen
  rw [← hargs];simp;omega
 have ha:Agrees ⟨fn.ntmps,[]⟩ (allOf (nf 60 [.code c])) (zipE 0 args) [] { tmps:=args.toArray++Array.replicate (fn.ntmps - args.toArray.size) undef,defers:=[] }:=by
  refine ⟨rfl,by simp;omega,fun s v hv=>?_,fun _ _ _ h=>(by cases h),fun _ _ _ h=>(by cases h)⟩
  obtain⟨_,h2⟩:=zipE_spec args 0 s v hv
  simp only [Nat.sub_zero] at h2
  have hs:s<args.length:=(List.getElem?_eq_some_iff.1 h2).1
  simp [Array.getD_eq_getD_getElem?,Array.getElem?_append,hs]
  rw [List.getElem?_eq_getElem hs] at h2
  simpa using h2
 have h1:=h l GP X Hj hY h0
 rw [hargs] at h1
 have:=nf_spec (h1 _ _ ha hw)
 simp only [sem] at this
 refine wpIn_mono this fun e a w' q=>?_
 cases e <;> first|exact q|exact q.elim
theorem T_rangeA {S:Sig} {m:Nat} {ds:List Deferred} {w0:World} {fn:Func} {Φ:Value→List HA→Prop} {g:Operand} {ps:Array Tmp} {assign body:Code} {k:List It} {env:Env} {ec:EnvC} {H:List HA}
  {f:FuncId} {fs cs:List Value} {cap:List HA} {xs:List (List Value)} (hit:IterAt S.P w0 f fs cs cap xs)
  (hg:evX env [] [] g=some (.func (.func f) fs.toArray cs.toArray)) (hps:∀ (j:Nat) (x:List Value),xs[j]?=some x→x.length=ps.size∧inP m (ps.toList.zip x)=true)
  (GP:Nat→List HA→Prop) (XR:List HA→Prop) (XE:Nat→List HA→Prop) (H0:List HA) (h0:GP 0 H0) (hH:Hle H (cap++H0))
  (hround:∀ (L:Nat) (r:Loop) (j:Nat) (x:List Value) (Hj K:List HA),r.state = .ready→xs[j]?=some x→GP j Hj→T (RA (RC S m w0 L (busy r) GP XR XE j K) L body) (nf 60 [.code assign]) (envP (ps.toList.zip x) env) [] (lrec L r::(Hj++K)))
  (hn:∀ D Hn,GP xs.length Hn→T (FC S m (mkD D::ds) w0 fn Φ) (nf 60 k) env [] (dfr D::(cap++Hn)))
  (hret:∀ D Hx,XR Hx→T (FC S m (mkD D::ds) w0 fn Φ) (.code .ret::k) env [] (dfr D::(cap++Hx)))
  (hex:∀ D id Hx,XE id Hx→T (FC S m (mkD D::ds) w0 fn Φ) (nf 60 (.code (.exit id)::k)) env [] (dfr D::(cap++Hx))) :
  T (FC S m ds w0 fn Φ) (.code (.rangeFunc g ps assign body)::k) env ec H:=by
 refine T.mk fun a w ha hw=>?_
 have ha0:Agrees ⟨m,ds⟩ #[] env [] a:=ha.plain
 replace hw:=Cls.le hw hH
 refine wpIn_rangeFunc fun fn' _=>?_
 -- the two blocks
 have hw1:=(hw.alloc (.deferred (some [])) (A:=dfr w.heap.size) rfl)
 have hsz:(w.alloc (.deferred (some []))).heap.size=w.heap.size+1:=World.size_alloc _ _
 generalize hD:w.heap.size=D at hw1 hsz
 generalize hr0:({ state := .ready,pending:=none,fn:=fn',tmps:=a.tmps,params:=ps,assign,body,defers:=D }:Loop)=r
 have hrdy:r.state = .ready:=by rw [← hr0]
 have hpd:r.pending=none:=by rw [← hr0]
 have hw2:=(hw1.alloc (.loop r) (A:=lrec (D+1) r) (by rw [hsz];rfl))
 have hen:=run_enterLoop_outer (P:=S.P) (w:=w) fn' a.tmps ps assign body
 rw [hD,hr0] at hen
 have hgv:=evX_spec (all := #[]) ha0 (Holds.nil _ _) hg
 have hargs:(fs.toArray ++ #[yv (D+1)]++cs.toArray)=(fs++(yv (D+1)::cs)).toArray:=Array.ext' (by simp)
 refine ⟨D+1,[mkD D],_,⟨.fn (.func f) cs.toArray,fs.toArray ++ #[yv (D+1)]⟩,(w.alloc (.deferred (some []))).alloc (.loop r),f,(fs++(yv (D+1)::cs)).toArray,(w.alloc (.deferred (some []))).alloc (.loop r),hen,?_,fun _ _=>trivial,?_,fun h=>(by cases h),?_⟩
 ·simp [resolve,hgv,Deferred.ofValue,yv]
  rfl
 ·have:=hit.1 (fs++(yv (D+1)::cs)).toArray ((w.alloc (.deferred (some []))).alloc (.loop r))
  rw [← hargs] at this ⊢
  simpa [invoke] using this
 · -- the rounds
  have hYd:Yields S.P w0 (D+1) (fun j H'=>∃ Hj,H'=lrec (D+1) r::dfr D::Hj∧GP j Hj) (fun Y=>∃ Hx jump,Y=lrec (D+1) { r with state := .done,pending:=some jump }::dfr D::Hx∧((jump = .ret∧XR Hx)∨∃ id,jump = .exit id∧XE id Hx)) xs:=by
   rintro j x _ K w1 hj ⟨Hj,rfl,hGj⟩ hc
   have hL:=(hc.obj (i:=0) rfl).1
   obtain⟨hxl,hin⟩:=hps j x hj
   have hy:=run_yield (P:=S.P) (args:=x.toArray) hL (by rw [← hr0];simp [hxl])
   refine ⟨_,_,_,_,hy,roundIn_of_wpIn trivial ?_⟩
   have hc':Cls w0 w1 (lrec (D+1) r::(Hj++(dfr D::K))):=hc.le (Hle.perm ((List.perm_middle (a:=dfr D) (l₁:=Hj) (l₂:=K)).symm.cons _))
   have hT:=hround (D+1) r j x Hj (dfr D::K) hrdy hj hGj
   have hag:Agrees ⟨m,[]⟩ #[] env [] { tmps:=r.tmps,defers:=[] }:=by
    rw [← hr0]
    exact⟨rfl,ha0.size,ha0.at_,fun _ _ _ h=>(by cases h),fun _ _ _ h=>(by cases h)⟩
   have hag2:=Agrees.putAll (N:=⟨m,[]⟩) (l:=ps.toList.zip x) hin hag
   have htm:(r.params.zip x.toArray).foldl (fun tmps (p:Tmp × Value)=>tmps.setIfInBounds p.1 p.2) r.tmps=(ps.toList.zip x).foldl (fun tmps (p:Nat × Value)=>tmps.setIfInBounds p.1 p.2) r.tmps:=by
    rw [← hr0, ← Array.foldl_toList,Array.toList_zip]
   rw [htm]
   have h1:=nf_spec (hT _ w1 ⟨hag2.defers,hag2.size,hag2.at_,fun _ _ _ h=>(by cases h),fun _ _ _ h=>(by cases h)⟩ hc')
   simp only [sem] at h1
   have hra:r.assign=assign:=by rw [← hr0]
   have hrb:r.body=body:=by rw [← hr0]
   rw [← hra, ← hrb] at h1
   refine wpIn_mono (F:=Fr (some (D+1))) h1 fun e a1 w2 q=>?_
   cases e <;> first|exact q.elim|skip
   obtain⟨w3,hb,hbody⟩:=q
   refine ⟨w3,hb,wpIn_mono hbody fun e a2 w4 q=>?_⟩
   have fin:∀ H':List HA,Cls w0 w4 (lrec (D+1) (busy r)::(H'++(dfr D::K)))→∀ jump,∃ w',(Instr.endRound (D+1) jump).run S.P w4 = .ok (.bool jump.isNone) w'∧Cls w0 w' (lrec (D+1) { r with state:=if jump.isNone then .ready else .done,pending:=jump }::dfr D::(H'++K)):=by
    intro H' hcl jump
    have hL4:=(hcl.obj (i:=0) rfl).1
    refine ⟨_,run_endRound jump hL4,?_⟩
    have:=hcl.putObj (i:=0) rfl (.loop { r with state:=if jump.isNone then .ready else .done,pending:=jump })
    exact this.le (Hle.perm ((List.perm_middle (a:=dfr D) (l₁:=H') (l₂:=K)).cons _))
   cases e with
   | normal =>
    obtain⟨H',g1,g2⟩:=q
    obtain⟨w',e1,e2⟩:=fin H' g2 none
    refine ⟨_,w',e1, .inl ⟨rfl,_,⟨H',rfl,g1⟩,?_⟩⟩
    have er:({ r with state := .ready,pending:=none }:Loop)=r:=by rw [← hr0]
    simp only [Option.isNone_none,if_true] at e2
    rw [er] at e2
    exact e2
   | ret =>
    obtain⟨H',g1,g2⟩:=q
    obtain⟨w',e1,e2⟩:=fin H' g2 (some .ret)
    exact⟨_,w',e1, .inr ⟨rfl,_,⟨H', .ret,rfl, .inl ⟨rfl,g1⟩⟩,e2⟩⟩
   | exit id =>
    obtain⟨H',g1,g2⟩:=q
    obtain⟨w',e1,e2⟩:=fin H' g2 (some (.exit id))
    exact⟨_,w',e1, .inr ⟨rfl,_,⟨H', .exit id,rfl, .inr ⟨id,rfl,g1⟩⟩,e2⟩⟩
   | goto t=>exact q.elim
   | panic c=>exact q.elim
   | outgrown=>exact q.elim
  have hstart:Cls w0 ((w.alloc (.deferred (some []))).alloc (.loop r)) (cap++(lrec (D+1) r::dfr D::H0)):=by
   have h1:Cls w0 ((w.alloc (.deferred (some []))).alloc (.loop r)) (lrec (D+1) r::dfr D::(cap++H0)):=hw2
   exact h1.le (Hle.rot2 _ _ cap H0)
  have hcall:=hit.2 (D+1) _ _ _ _ hYd ⟨H0,rfl,h0⟩ hstart
  have hcall':CallsIn (Fr none) 0 S.P f (fs++(yv (D+1)::cs)).toArray ((w.alloc (.deferred (some []))).alloc (.loop r)) _:=hcall
  refine CallsIn.mono hcall' ?_
  rintro e w3 ⟨⟨v,rfl⟩,hend⟩
  have hsem:=sem_N (FC S m ds w0 fn Φ) ⟨m,mkD D::ds⟩ k
  have hag:∀ all,Agrees ⟨m,mkD D::ds⟩ all env [] { a with defers:=[mkD D]++a.defers }:=fun all =>
   ⟨by simp [ha0.defers],ha0.size,ha0.at_,fun _ _ _ h=>(by cases h),fun _ _ _ h=>(by cases h)⟩
  rcases hend with⟨_,⟨Hn,rfl,hGn⟩,hc⟩|⟨_,⟨Hx,jump,rfl,hj⟩,hc⟩
  ·have hc:=hc.le (Hle.unrot2 _ _ cap Hn)
   have hL:=(hc.obj (i:=0) rfl).1
   refine ⟨none,w3.putObj (D+1) (.loop { r with state := .exhausted }),(run_endLoop hL (by rw [hrdy];intro h;cases h)).trans (by rw [hpd]),?_⟩
   have hc2:=(hc.putObj (i:=0) rfl (.loop { r with state := .exhausted })).le (Hle.tail _ _)
   have:=nf_spec (hn D Hn hGn _ _ (hag _) hc2)
   show (sem (FC S m ds w0 fn Φ) k).1 _ _
   rw [← hsem]
   exact this
  ·have hc:=hc.le (Hle.unrot2 _ _ cap Hx)
   have hL:=(hc.obj (i:=0) rfl).1
   refine ⟨_,_,run_endLoop hL (by intro h;cases h),?_⟩
   have hc2:=(hc.putObj (i:=0) rfl (.loop { ({ r with state := .done,pending:=some jump }:Loop) with state := .exhausted })).le (Hle.tail _ _)
   rcases hj with⟨rfl,hX⟩|⟨id,rfl,hX⟩
   ·have:=hret D Hx hX _ _ (hag _) hc2
    have h9:(sem (FC S m (mkD D::ds) w0 fn Φ) (.code .ret::k)).1 _ _:=this
    simp only [sem] at h9
    have h10:sem (FC S m (mkD D::ds) w0 fn Φ) k=sem (FC S m ds w0 fn Φ) k:=hsem
    rw [h10] at h9
    exact h9
   ·have:=nf_spec (hex D id Hx hX _ _ (hag _) hc2)
    simp only [sem] at this
    have h10:sem (FC S m (mkD D::ds) w0 fn Φ) k=sem (FC S m ds w0 fn Φ) k:=hsem
    rw [h10] at this
    exact this

def evYG (env:Env) (ec:EnvC) (G:GId) (o:Oper):Option (Nat × List Value) :=
 match o.op with
 | .call { callee := .value x,args:=xs,argTypes:=_ }=>match evX env ec G x,evL env ec G xs.toList with
  | some (.func (.yield l) fs cs),some vs=>cond (fs.isEmpty && cs.isEmpty) (some (l,vs)) none
  | _,_=>none
 | _=>none
theorem evYG_spec {P:Program} {N:FK} {all:Array Oper} {env:Env} {ec:EnvC} {G:GId} {o:Oper} {a:Act} (ha:Agrees N all env ec a) (hG:Holds all a G) {l:Nat} {x:List Value}
  (h:evYG env ec G o=some (l,x)) {w:World} {r:Next} (hy:(Instr.yield l x.toArray).run P w = .ok r w):(execOp a.eval o).run P w = .ok r w:=by
 obtain⟨dst,op,ty,pos,aft,gd⟩:=o
 unfold evYG at h
 dsimp only at h
 split at h
 ·rename_i xo xa ts
  split at h
  ·rename_i l' fs cs vs hx hvs
   cases hc:(fs.isEmpty && cs.isEmpty) with
   | false=>rw [hc] at h;cases h
   | true =>
    rw [hc] at h
    cases h
    simp only [Bool.and_eq_true,Array.isEmpty_iff] at hc
    obtain⟨rfl,rfl⟩:=hc
    have hx':=evX_spec ha hG hx
    have e1:=evL_spec ha hG hvs
    have e2:xa.map a.eval=x.toArray:=Array.ext' (by rw [Array.toList_map];exact e1)
    simp only [execOp,resolve,e2,hx',Deferred.ofValue]
    simpa [invoke] using hy
  ·cases h
 ·cases h
theorem Holds.of1 {N:FK} {all:Array Oper} {env:Env} {ec:EnvC} {i s:Nat} {b p:Bool} (hs:dstL all i=some s) (hv:lookE env s=some (.bool b)) (hb:b=p):∀ a,Agrees N all env ec a→Holds all a [(i,p)]:=by
 intro a ha x hx
 rw [List.mem_singleton] at hx
 subst hx
 subst hb
 have ht:=ha.at_ s _ hv
 unfold yielded
 rw [← dstL_eq,hs]
 simp only [Option.bind_some]
 rw [Array.getD_eq_getD_getElem?] at ht
 cases hq:a.tmps[s]? with
 | none=>rw [hq] at ht;simp [undef] at ht
 | some u=>rw [hq] at ht;simp only [Option.getD_some] at ht;subst ht;rfl
theorem OpT.yieldG {S:Sig} {m:Nat} {w0:World} {fn:Func} {R:Ending→World→Prop} {all:Array Oper} {o:Oper} {env:Env} {ec:EnvC} {H:List HA} {d l j:Nat} {x:List Value} {G:GId} {Φ:Env→EnvC→List HA→Prop}
  {GP:Nat→List HA→Prop} {X:List HA→Prop} {xs:List (List Value)} {Hj:List HA} (K:List HA)
  (hY:Yields S.P w0 l GP X xs) (hg:gOf all env ec o=some G) (he:evYG env ec G o=some (l,x)) (hT:∀ a,Agrees ⟨m,[]⟩ all env ec a→Holds all a G) (hd:o.dst=some d) (hN:Nat.blt d m=true) (hs:safeC all d ec=true) (hj:xs[j]?=some x) (hGP:GP j Hj) (hl:Hle H (Hj++K))
  (ht:∀ H',GP (j+1) H'→Φ ((d, .bool true)::env) ec (K++H'))
  (hf:∀ Y,X Y→Φ ((d, .bool false)::env) ec (K++Y)):OpT (IC S m w0 fn R) all o env ec H Φ:=by
 intro a w ha hw K' Q hK
 have hH:=hT a ha
 have hwn:=(wanted_iff ha hg).2 hH
 refine ⟨fun _=>?_,fun hn=>(by rw [hwn] at hn;cases hn)⟩
 obtain⟨f,tmps,assign,body,hy,hr⟩:=hY j x Hj K w hj hGP (hw.le hl)
 have hdef:=gOf_def hg
 have hex:=evYG_spec ha hH he hy
 unfold Oper.wpIn
 refine ⟨about_Fr o _ w _,?_⟩
 rw [Oper.semAt_eq _ _ _ hdef,hex]
 refine ⟨fun h=>(by cases h),RoundIn.mono hr ?_⟩
 rintro e w' (⟨rfl,H',h1,h2⟩|⟨rfl,Y,h1,h2⟩)
 ·exact hK _ _ _ _ _ (ht H' h1) (by rw [hd];exact ha.put hN hs) (h2.le (Hle.comm _ _))
 ·exact hK _ _ _ _ _ (hf Y h1) (by rw [hd];exact ha.put hN hs) (h2.le (Hle.comm _ _))
theorem OpT.never {C:Cx} {all:Array Oper} {o:Oper} {env:Env} {ec:EnvC} {H:List HA} {d:Nat} {G:GId} {Φ:Env→EnvC→List HA→Prop} (v:Value) (hg:gOf all env ec o=some G) (hn:GP all env ec G→False) (hd:o.dst=some d) (hN:Nat.blt d C.N.n=true) (hs:safeC all d ec=true) (hsG:safeG all d G=true) (hl:lookE env d=none)
  (h:Φ env ((d,(G,v))::ec) H):OpT C all o env ec H Φ:=by
 intro a w ha hw K Q hK
 have hH:¬ Holds all a G:=fun hh=>hn (hh.gp ha)
 refine ⟨fun hwn=>absurd ((wanted_iff ha hg).1 hwn) hH,fun _=>?_⟩
 rw [hd]
 exact hK _ _ _ _ _ h (ha.putC hN hs hsG hl (fun hh=>absurd hh hH) (fun _=>rfl)) hw
end Go.Proofs.YtefieebkankfoaaGreatDoor
