/- Joined texts of this claim, part 4. -/
import Derived.Test.YtmenjpmikhajfaaGreatDoorJ3
set_option linter.unusedVariables false
set_option linter.unusedSimpArgs false
namespace Go.Proofs.YtmenjpmikhajfaaGreatDoor
open Go.RowKit Go.Shelf Go.Proofs
set_option maxRecDepth 100000
set_option maxHeartbeats 1000000

def long15 (s:ByteArray):Bool:=decide (12<s.size∧s.size≤64∨66<s.size)
theorem long15_spec (s:ByteArray) (w:World):Spec Tryz.prog 170 [.string s] w (fun v R=>v = .bool (long15 s)∧R=[]):=by
 refine spec_of sg Tryz.func170 rfl rfl rfl ?_
 repeat' (first|refine d1 ?_|refine dd ?_|(show ∀ _:Nat,T _ _ _ _ _;intro _)|(show T _ (.code .ret::_) _ _ _;refine T_retV [] rfl (Hle.none _) ⟨congrArg Value.bool ?_,rfl⟩))
 unfold long15
 rw [Bool.eq_iff_iff]
 simp
 omega
def long15T (t:Tok):Bool:=long15 t.text || long15 t.norm || long15 t.name || long15 t.page
theorem long15T_small {t:Tok} (h:long15T t=false):t.small:=by
 simp only [long15T,long15,Bool.or_eq_false_iff,decide_eq_false_iff_not] at h
 unfold Tok.small;omega
def great15B (l:List Tok) (m:Nat):Bool:=decide (m<l.length∧l.length≤1024∨1026<l.length) || l.any long15T
theorem great15_spec (A:Option Addr) (n ca:Nat) (l:List Tok) (m:Nat) (w:World) (hs:Src w 6 A n (l.flatMap Tok.cells)) (hn:l.length=n) (hb:n≤9223372036854775807) (hm:m≤1000) :
  Spec Tryz.prog 96 [.slice A n ca, .int .i64 (m:Nat)] w (fun v R=>v = .bool (great15B l m)∧R=[]):=by
 refine spec_of sg Tryz.func96 rfl rfl rfl ?_
 repeat' (first|refine d1 ?_|refine dd ?_|(show ∀ _:Nat,T _ _ _ _ _;intro _))
 refine T_if rfl (fun h=>?_) (fun h=>?_)
 ·have h9:m<l.length∧l.length≤1024∨1026<l.length:=by simp at h;omega
  repeat' (first|refine d1 ?_|refine dd ?_|(show ∀ _:Nat,T _ _ _ _ _;intro _)|(show T _ (.code .ret::_) _ _ _;refine T_retV [] rfl (Hle.none _) ⟨congrArg Value.bool ?_,rfl⟩))
  unfold great15B;rw [decide_eq_true h9];rfl
 have h9:¬ (m<l.length∧l.length≤1024∨1026<l.length):=by simp at h;omega
 repeat' (first|refine d1 ?_|refine dd ?_|(show ∀ _:Nat,T _ _ _ _ _;intro _))
 refine T_loopX (fun k:Nat=>[(5, .int .i64 k)]) (fun _=>[]) (fun k=>k≤n∧∀ j,j<k→long15T (tkA l j)=false) (fun k=>n - k) 0 ⟨by omega,fun j h=>by omega⟩ ?_
 rintro k ⟨hk,hok⟩
 repeat' (first|refine d1 ?_|refine dd ?_|(show ∀ _:Nat,T _ _ _ _ _;intro _))
 refine T_if rfl (fun h=>?_) (fun h=>?_)
 ·simp only [decide_eq_true_eq] at h
  obtain⟨b,o,rfl⟩:=hs.base (by omega)
  have hr:RdC w b (o+(k:Int).toNat * 6) (tkA l k).cells:=hs.getT (by omega) (tkA_get (by omega))
  repeat' (first|refine d1 ?_|refine dd ?_|(show T _ (.ops _ (_::_)::_) _ _ _;first|refine T_call rfl rfl rfl rfl rfl (fun w hw=>long15_spec (tkA l k).text w) ?_|refine T_callC rfl rfl rfl rfl rfl rfl rfl (fun hg w hw=>long15_spec (tkA l k).text w) ?_|refine T_call rfl rfl rfl rfl rfl (fun w hw=>long15_spec (tkA l k).norm w) ?_|refine T_callC rfl rfl rfl rfl rfl rfl rfl (fun hg w hw=>long15_spec (tkA l k).norm w) ?_|refine T_call rfl rfl rfl rfl rfl (fun w hw=>long15_spec (tkA l k).name w) ?_|refine T_callC rfl rfl rfl rfl rfl rfl rfl (fun hg w hw=>long15_spec (tkA l k).name w) ?_|refine T_call rfl rfl rfl rfl rfl (fun w hw=>long15_spec (tkA l k).page w) ?_|refine T_callC rfl rfl rfl rfl rfl rfl rfl (fun hg w hw=>long15_spec (tkA l k).page w) ?_)|(show T _ (.run _ _ (_::_) _ _::_) _ _ _;first|refine rc rfl rfl rfl rfl rfl rfl rfl (fun w hw=>long15_spec (tkA l k).text w) ?_|refine rcG rfl rfl rfl rfl rfl rfl rfl rfl rfl (fun hg w hw=>long15_spec (tkA l k).text w) ?_|refine rc rfl rfl rfl rfl rfl rfl rfl (fun w hw=>long15_spec (tkA l k).norm w) ?_|refine rcG rfl rfl rfl rfl rfl rfl rfl rfl rfl (fun hg w hw=>long15_spec (tkA l k).norm w) ?_|refine rc rfl rfl rfl rfl rfl rfl rfl (fun w hw=>long15_spec (tkA l k).name w) ?_|refine rcG rfl rfl rfl rfl rfl rfl rfl rfl rfl (fun hg w hw=>long15_spec (tkA l k).name w) ?_|refine rc rfl rfl rfl rfl rfl rfl rfl (fun w hw=>long15_spec (tkA l k).page w) ?_|refine rcG rfl rfl rfl rfl rfl rfl rfl rfl rfl (fun hg w hw=>long15_spec (tkA l k).page w) ?_)|(show ∀ _:Nat,T _ _ _ _ _;intro _))
  refine T_if rfl (fun h2=>?_) (fun h2=>?_)
  ·repeat' (first|refine d1 ?_|refine dd ?_|(show ∀ _:Nat,T _ _ _ _ _;intro _)|(show T _ (.code .ret::_) _ _ _;refine T_retV [] rfl (Hle.none _) ⟨congrArg Value.bool ?_,rfl⟩))
   have h8:long15T (tkA l k)=true:=h2
   have:l.any long15T=true:=List.any_eq_true.2 ⟨_,tkA_mem (by omega),h8⟩
   unfold great15B;rw [this,Bool.or_true]
  ·repeat' (first|refine d1 ?_|refine dd ?_|(show ∀ _:Nat,T _ _ _ _ _;intro _))
   refine T_backX (k+1) ⟨by omega,fun j hj=>?_⟩ (by omega)
   rcases Nat.lt_or_ge j k with h3|h3
   ·exact hok j h3
   ·rw [show j=k by omega];exact h2
 ·simp only [decide_eq_false_iff_not] at h
  have:l.any long15T=false:=List.any_eq_false.2 fun t ht=>by
   obtain⟨i,hi,e⟩:=List.getElem_of_mem ht
   have h3:=hok i (by omega)
   have e2:=tkA_get hi
   rw [List.getElem?_eq_getElem hi,e] at e2
   rw [Option.some.inj e2,h3];simp
  repeat' (first|refine d1 ?_|refine dd ?_|(show ∀ _:Nat,T _ _ _ _ _;intro _)|(show T _ (.code .ret::_) _ _ _;refine T_retV [] rfl (Hle.none _) ⟨congrArg Value.bool ?_,rfl⟩))
  unfold great15B;rw [this,decide_eq_false h9];rfl
def great19B (l:List TS) (n m:Nat):Bool:=decide (n<l.length∧l.length≤32∨34<l.length) || l.any fun t=>great15B t.l m
theorem great19_spec (A:Option Addr) (n c:Nat) (l:List TS) (q m:Nat) (w:World) (hs:Src w 1 A n (l.map TS.val)) (hn:l.length=n) (hb:n≤9223372036854775807) (hl:TsOk w l) (hq:q≤1000) (hm:m≤1000) :
  Spec Tryz.prog 33 [.slice A n c, .int .i64 (q:Nat), .int .i64 (m:Nat)] w (fun v R=>v = .bool (great19B l q m)∧R=[]):=by
 refine spec_of sg Tryz.func33 rfl rfl rfl ?_
 repeat' (first|refine d1 ?_|refine dd ?_|(show ∀ _:Nat,T _ _ _ _ _;intro _))
 refine T_if rfl (fun h=>?_) (fun h=>?_)
 ·have h9:q<l.length∧l.length≤32∨34<l.length:=by simp at h;omega
  repeat' (first|refine d1 ?_|refine dd ?_|(show ∀ _:Nat,T _ _ _ _ _;intro _)|(show T _ (.code .ret::_) _ _ _;refine T_retV [] rfl (Hle.none _) ⟨congrArg Value.bool ?_,rfl⟩))
  unfold great19B;rw [decide_eq_true h9];rfl
 have h9:¬ (q<l.length∧l.length≤32∨34<l.length):=by simp at h;omega
 repeat' (first|refine d1 ?_|refine dd ?_|(show ∀ _:Nat,T _ _ _ _ _;intro _))
 refine T_loopX (fun k:Nat=>[(7, .int .i64 k)]) (fun _=>[]) (fun k=>k≤n∧∀ i x,i<k→l[i]?=some x→great15B x.l m=false) (fun k=>n - k) 0 ⟨Nat.zero_le _,fun i x h=>by omega⟩ ?_
 rintro k ⟨hk,hok⟩
 repeat' (first|refine d1 ?_|refine dd ?_|(show ∀ _:Nat,T _ _ _ _ _;intro _))
 refine T_if rfl (fun h=>?_) (fun h=>?_)
 ·simp only [decide_eq_true_eq] at h
  have hkn:k<n:=by omega
  obtain⟨b,o,rfl⟩:=hs.base (by omega)
  obtain⟨t,ht⟩:∃ t,l[k]?=some t:=⟨_,List.getElem?_eq_getElem (by omega)⟩
  have htm:=List.mem_of_getElem? ht
  have hr:RdC w b (o+(k:Int).toNat * 1) [.slice t.A t.n t.cap]:=by
   have h9:=(hs.get1 (i:=k) hkn (by rw [List.getElem?_map,ht];rfl)).2
   rw [Nat.mul_one] at h9
   rw [off1]
   exact h9
  repeat' (first|refine d1 ?_|refine dd ?_|(show T _ (.ops _ (_::_)::_) _ _ _;first|refine T_call rfl rfl rfl rfl rfl (fun w hw=>great15_spec t.A t.n t.cap t.l m w (rdSrc (hl.src t htm) w hw) (hl.len t htm) (hl.bd t htm) hm) ?_|refine T_callC rfl rfl rfl rfl rfl rfl rfl (fun hg w hw=>great15_spec t.A t.n t.cap t.l m w (rdSrc (hl.src t htm) w hw) (hl.len t htm) (hl.bd t htm) hm) ?_)|(show T _ (.run _ _ (_::_) _ _::_) _ _ _;first|refine rc rfl rfl rfl rfl rfl rfl rfl (fun w hw=>great15_spec t.A t.n t.cap t.l m w (rdSrc (hl.src t htm) w hw) (hl.len t htm) (hl.bd t htm) hm) ?_|refine rcG rfl rfl rfl rfl rfl rfl rfl rfl rfl (fun hg w hw=>great15_spec t.A t.n t.cap t.l m w (rdSrc (hl.src t htm) w hw) (hl.len t htm) (hl.bd t htm) hm) ?_)|(show ∀ _:Nat,T _ _ _ _ _;intro _))
  refine T_if rfl (fun h1=>?_) (fun h1=>?_)
  ·repeat' (first|refine d1 ?_|refine dd ?_|(show ∀ _:Nat,T _ _ _ _ _;intro _)|(show T _ (.code .ret::_) _ _ _;refine T_retV [] rfl (Hle.refl _) ⟨congrArg Value.bool ?_,rfl⟩))
   unfold great19B
   rw [List.any_eq_true.2 ⟨t,htm,h1⟩,Bool.or_true]
  ·repeat' (first|refine d1 ?_|refine dd ?_|(show ∀ _:Nat,T _ _ _ _ _;intro _))
   refine T_backX (k+1) ⟨by omega,fun i y hi hy=>?_⟩ (by omega)
   rcases Nat.lt_or_ge i k with h2|h2
   ·exact hok i y h2 hy
   ·rw [show i=k by omega,ht] at hy
    cases hy
    exact h1
 ·simp only [decide_eq_false_iff_not] at h
  repeat' (first|refine d1 ?_|refine dd ?_|(show ∀ _:Nat,T _ _ _ _ _;intro _)|(show T _ (.code .ret::_) _ _ _;refine T_retV [] rfl (Hle.refl _) ⟨congrArg Value.bool ?_,rfl⟩))
  have e:(l.any fun t=>great15B t.l m)=false:=List.any_eq_false.2 fun t ht=>by
   obtain⟨i,hi,e⟩:=List.getElem_of_mem ht
   rw [Bool.not_eq_true]
   exact hok i t (by omega) (by rw [List.getElem?_eq_getElem hi,e])
  unfold great19B
  rw [e,decide_eq_false h9];rfl
theorem great19_no {w:World} {l:List TS} (hl:TsOk w l) {n m:Nat} (h:great19B l n m=false):(l.length≤n∨32<l.length∧l.length≤34)∧(∀ t∈l,t.n≤m∨1024<t.n∧t.n≤1026)∧∀ t∈l,∀ x∈t.l,x.small:=by
 unfold great19B at h
 rw [Bool.or_eq_false_iff,decide_eq_false_iff_not,List.any_eq_false] at h
 refine ⟨by omega,fun t ht=>?_,fun t ht x hx=>?_⟩
 ·have h1:=h.2 t ht
  have h2:=hl.len t ht
  rw [Bool.not_eq_true] at h1
  unfold great15B at h1
  rw [Bool.or_eq_false_iff,decide_eq_false_iff_not] at h1
  omega
 ·have h1:=h.2 t ht
  rw [Bool.not_eq_true] at h1
  unfold great15B at h1
  rw [Bool.or_eq_false_iff,List.any_eq_false] at h1
  exact long15T_small (by simpa using h1.2 x hx)
def sizV:Nat→List Nat→Nat
 | a,[]=>a
 | a,n::ls=>if 1073741824<a * (n+1) then a * (n+1) else sizV (a * (n+1)) ls
theorem sizV_cons (a n:Nat) (ls:List Nat):sizV a (n::ls)=if 1073741824<a * (n+1) then a * (n+1) else sizV (a * (n+1)) ls:=rfl
theorem sizV_small:∀ (ls:List Nat) (a:Nat),a * volL ls≤1073741824→sizV a ls=a * volL ls
 | [],a,_=>(Nat.mul_one a).symm
 | n::ls,a,h=>by
  have h1:volL (n::ls)=(n+1) * volL ls:=rfl
  rw [h1, ← Nat.mul_assoc] at h ⊢
  have h2:=Nat.le_mul_of_pos_right (a * (n+1)) (volL_pos ls)
  unfold sizV
  rw [if_neg (by omega)]
  exact sizV_small ls _ h
theorem sizV_great:∀ (ls:List Nat) (a:Nat),1073741824<a * volL ls→1073741824<sizV a ls
 | [],a,h=>by have:a * volL []=a:=Nat.mul_one a;rw [this] at h;exact h
 | n::ls,a,h=>by
  have h1:volL (n::ls)=(n+1) * volL ls:=rfl
  rw [h1, ← Nat.mul_assoc] at h
  unfold sizV
  split
  ·assumption
  ·exact sizV_great ls _ h
theorem size19R_spec (A:Option Addr) (n ca:Nat) (l:List TS) (w:World) (hs:Src w 1 A n (l.map TS.val)) (hn:l.length=n) (hb:n≤34) (hq:∀ t∈l,t.n≤1026) :
  Spec Tryz.prog 97 [.slice A n ca] w (fun v R=>v = .int .i64 (sizV 1 (lens l):Nat)∧R=[]):=by
 have hll:=lens_len l
 refine spec_of sg Tryz.func97 rfl rfl rfl ?_
 repeat' (first|refine d1 ?_|refine dd ?_|(show ∀ _:Nat,T _ _ _ _ _;intro _))
 refine T_loopX (fun s:Nat × Nat=>[(4, .int .i64 (s.1:Nat)),(3, .int .i64 (s.2:Nat))]) (fun _=>[]) (fun s=>s.1≤n∧s.2≤1073741824∧sizV s.2 ((lens l).drop s.1)=sizV 1 (lens l)) (fun s=>n - s.1) (0,1) ⟨Nat.zero_le _,by decide,rfl⟩ ?_
 rintro⟨k,a⟩ ⟨hk,ha,hv⟩
 dsimp only at hk ha hv ⊢
 repeat' (first|refine d1 ?_|refine dd ?_|(show ∀ _:Nat,T _ _ _ _ _;intro _))
 refine T_if rfl (fun h=>?_) (fun h=>?_)
 ·simp only [decide_eq_true_eq] at h
  have hkn:k<n:=by omega
  obtain⟨b,o,rfl⟩:=hs.base (by omega)
  obtain⟨t,ht⟩:∃ t,l[k]?=some t:=⟨_,List.getElem?_eq_getElem (by omega)⟩
  have htq:=hq t (List.mem_of_getElem? ht)
  have hr:RdC w b (o+(k:Int).toNat * 1) [.slice t.A t.n t.cap]:=by
   have h9:=(hs.get1 (i:=k) hkn (by rw [List.getElem?_map,ht];rfl)).2
   rw [Nat.mul_one] at h9
   rw [off1]
   exact h9
  have hd:(lens l).drop k=t.n::(lens l).drop (k+1):=by
   obtain⟨h1,e⟩:=List.getElem?_eq_some_iff.1 (lens_get ht)
   rw [List.drop_eq_getElem_cons h1,e]
  have e:(a:Int) * ((t.n:Int)+1)=((a * (t.n+1):Nat):Int):=by simp
  have hbd:a * (t.n+1)≤1073741824 * 1027:=Nat.mul_le_mul ha (by omega)
  rw [hd,sizV_cons] at hv
  repeat' (first|refine d1 ?_|refine dd ?_|(show ∀ _:Nat,T _ _ _ _ _;intro _))
  rw [e]
  refine T_if rfl (fun h1=>?_) (fun h1=>?_)
  ·simp only [decide_eq_true_eq] at h1
   rw [if_pos (by omega)] at hv
   repeat' (first|refine d1 ?_|refine dd ?_|(show ∀ _:Nat,T _ _ _ _ _;intro _)|(show T _ (.code .ret::_) _ _ _;refine T_retV [] rfl (Hle.none _) ⟨by rw [← hv];rfl,rfl⟩))
  ·simp only [decide_eq_false_iff_not] at h1
   rw [if_neg (by omega)] at hv
   repeat' (first|refine d1 ?_|refine dd ?_|(show ∀ _:Nat,T _ _ _ _ _;intro _))
   exact T_backX (k+1,a * (t.n+1)) ⟨by dsimp only;omega,by dsimp only;omega,hv⟩ (by dsimp only;omega)
 ·simp only [decide_eq_false_iff_not] at h
  rw [List.drop_of_length_le (by omega)] at hv
  have hv2:a=sizV 1 (lens l):=hv
  repeat' (first|refine d1 ?_|refine dd ?_|(show ∀ _:Nat,T _ _ _ _ _;intro _)|(show T _ (.code .ret::_) _ _ _;refine T_retV [] rfl (Hle.none _) ⟨by rw [← hv2];rfl,rfl⟩))
def wideB (l:List TS) (q:Nat):Bool:=decide (l.length≤4∧q<volL (lens l)∧volL (lens l)≤65536)
theorem wide19_spec (A:Option Addr) (n ca:Nat) (l:List TS) (q:Nat) (w:World) (hs:Src w 1 A n (l.map TS.val)) (hn:l.length=n) (hb:n≤34) (hq:∀ t∈l,t.n≤1026) (hq2:q≤1000) :
  Spec Tryz.prog 34 [.slice A n ca, .int .i64 (q:Nat)] w (fun v R=>v = .bool (wideB l q)∧R=[]):=by
 refine spec_of sg Tryz.func34 rfl rfl rfl ?_
 repeat' (first|refine d1 ?_|refine dd ?_|(show T _ (.ops _ (_::_)::_) _ _ _;first|refine T_call rfl rfl rfl rfl rfl (fun w hw=>size19R_spec A n ca l w (rdSrc hs w hw) hn hb hq) ?_|refine T_callC rfl rfl rfl rfl rfl rfl rfl (fun hg w hw=>size19R_spec A n ca l w (rdSrc hs w hw) hn hb hq) ?_)|(show T _ (.run _ _ (_::_) _ _::_) _ _ _;first|refine rc rfl rfl rfl rfl rfl rfl rfl (fun w hw=>size19R_spec A n ca l w (rdSrc hs w hw) hn hb hq) ?_|refine rcG rfl rfl rfl rfl rfl rfl rfl rfl rfl (fun hg w hw=>size19R_spec A n ca l w (rdSrc hs w hw) hn hb hq) ?_)|(show ∀ _:Nat,T _ _ _ _ _;intro _)|(show T _ (.code .ret::_) _ _ _;refine T_retV [] rfl (Hle.none _) ⟨congrArg Value.bool ?_,rfl⟩))
 unfold wideB
 rw [Bool.eq_iff_iff]
 rcases Nat.lt_or_ge 1073741824 (volL (lens l)) with h|h
 ·have h1:=sizV_great (lens l) 1 (by omega)
  simp
  omega
 ·have h1:=sizV_small (lens l) 1 (by omega)
  rw [Nat.one_mul] at h1
  rw [h1]
  simp
  omega
theorem srcsBig_spec (A:Option Addr) (n ca:Nat) (l:List TS) (w:World) (hs:Src w 1 A n (l.map TS.val)) (hn:l.length=n) (hb:n≤1000) (h0:n≠0) (hbig:32<n∨∃ t∈l,1024<t.n) :
  Spec Tryz.prog 173 [.slice A n ca] w (fun v R=>v = .int .i64 4∧R=[]):=by
 refine spec_of sg Tryz.func173 rfl rfl rfl ?_
 have hyes:32<n∨(l.any fun t=>decide ((1024:Int)<t.n))=true:=hbig.imp id fun⟨t,ht,h⟩=>List.any_eq_true.2 ⟨t,ht,decide_eq_true (by omega)⟩
 repeat' (first|refine d1 ?_|refine dd ?_|(show ∀ _:Nat,T _ _ _ _ _;intro _))
 refine T_if rfl (fun h=>?_) (fun h=>?_)
 ·exfalso;simp at h;omega
 simp only [decide_eq_false_iff_not] at h
 repeat' (first|refine d1 ?_|refine dd ?_|(show T _ (.ops _ (_::_)::_) _ _ _;first|refine T_call rfl rfl rfl rfl rfl (fun w hw=>containsFuncS_spec A n ca l _ [] [] (fun t=>decide ((1024:Int)<t.n)) w (rdSrc hs w hw) hn (by omega) (fun x hx w' hb'=>srcs19a_spec x w')) ?_|refine T_callC rfl rfl rfl rfl rfl rfl rfl (fun hg w hw=>containsFuncS_spec A n ca l _ [] [] (fun t=>decide ((1024:Int)<t.n)) w (rdSrc hs w hw) hn (by omega) (fun x hx w' hb'=>srcs19a_spec x w')) ?_)|(show T _ (.run _ _ (_::_) _ _::_) _ _ _;first|refine rc rfl rfl rfl rfl rfl rfl rfl (fun w hw=>containsFuncS_spec A n ca l _ [] [] (fun t=>decide ((1024:Int)<t.n)) w (rdSrc hs w hw) hn (by omega) (fun x hx w' hb'=>srcs19a_spec x w')) ?_|refine rcG rfl rfl rfl rfl rfl rfl rfl rfl rfl (fun hg w hw=>containsFuncS_spec A n ca l _ [] [] (fun t=>decide ((1024:Int)<t.n)) w (rdSrc hs w hw) hn (by omega) (fun x hx w' hb'=>srcs19a_spec x w')) ?_)|(show ∀ _:Nat,T _ _ _ _ _;intro _))
 refine T_if rfl (fun h1=>?_) (fun h1=>?_)
 ·repeat' (first|refine d1 ?_|refine dd ?_|(show ∀ _:Nat,T _ _ _ _ _;intro _)|(show T _ (.code .ret::_) _ _ _;refine T_retV [] rfl (Hle.refl _) ⟨rfl,rfl⟩))
 ·exfalso
  rcases hyes with h2|h2
  ·simp at h1;omega
  ·rw [h2] at h1;simp at h1
theorem usableBig_spec (c:Costs) (A:Option Addr) (n ca:Nat) (l:List TS) (w:World) (hs:Src w 1 A n (l.map TS.val)) (hn:l.length=n) (hb:n≤1000) (h0:n≠0) (hbig:32<n∨∃ t∈l,1024<t.n) :
  Spec Tryz.prog 100 [c.val, .slice A n ca] w (fun v R=>v = .int .i64 4∧R=[]):=by
 refine spec_of sg Tryz.func100 rfl rfl rfl ?_
 repeat' (first|(show T _ (.ops _ (⟨_, .box _ _,_,_,_,_⟩::_)::_) _ _ _;refine T_op (OpT.box (cs:=c.cells) rfl rfl rfl rfl rfl rfl rfl (fun _=>?_)))|refine d1 ?_|refine dd ?_|(show T _ (.ops _ (_::_)::_) _ _ _;first|refine T_call rfl rfl rfl rfl rfl (fun w hw=>srcsBig_spec A n ca l w (rdSrc hs w hw) hn hb h0 hbig) ?_|refine T_callC rfl rfl rfl rfl rfl rfl rfl (fun hg w hw=>srcsBig_spec A n ca l w (rdSrc hs w hw) hn hb h0 hbig) ?_)|(show T _ (.run _ _ (_::_) _ _::_) _ _ _;first|refine rc rfl rfl rfl rfl rfl rfl rfl (fun w hw=>srcsBig_spec A n ca l w (rdSrc hs w hw) hn hb h0 hbig) ?_|refine rcG rfl rfl rfl rfl rfl rfl rfl rfl rfl (fun hg w hw=>srcsBig_spec A n ca l w (rdSrc hs w hw) hn hb h0 hbig) ?_)|(show ∀ _:Nat,T _ _ _ _ _;intro _))
 refine T_if rfl (fun h=>?_) (fun h=>by exfalso;simp at h)
 repeat' (first|refine d1 ?_|refine dd ?_|(show ∀ _:Nat,T _ _ _ _ _;intro _)|(show T _ (.code .ret::_) _ _ _;refine T_retV [] rfl (Hle.none _) ⟨rfl,rfl⟩))
theorem alignBig_spec (c:Costs) (A:Option Addr) (n ca:Nat) (l:List TS) (w:World) (hs:Src w 1 A n (l.map TS.val)) (hn:l.length=n) (hb:n≤1000) (h0:n≠0) (hbig:32<n∨∃ t∈l,1024<t.n) :
  Spec Tryz.prog 36 [c.val, .slice A n ca] w (fun v R=>∃ x:Value,True∧v = .tuple #[x, .int .i64 0, .int .i64 4]∧R=[dat [x] [rowsD []]]):=by
 refine spec_of sg Tryz.func36 rfl rfl rfl ?_
 refine T_op (OpT.box (cs:=c.cells) rfl rfl rfl rfl rfl rfl rfl (fun pc=>?_))
 refine T_op (OpT.box (cs:=[.slice A n ca]) rfl rfl rfl rfl rfl rfl rfl (fun pl=>?_))
 repeat' (first|refine d1 ?_|refine dd ?_|(show T _ (.ops _ (_::_)::_) _ _ _;first|refine T_call rfl rfl rfl rfl rfl (fun w hw=>usableBig_spec c A n ca l w (rdSrc hs w hw) hn hb h0 hbig) ?_|refine T_callC rfl rfl rfl rfl rfl rfl rfl (fun hg w hw=>usableBig_spec c A n ca l w (rdSrc hs w hw) hn hb h0 hbig) ?_)|(show T _ (.run _ _ (_::_) _ _::_) _ _ _;first|refine rc rfl rfl rfl rfl rfl rfl rfl (fun w hw=>usableBig_spec c A n ca l w (rdSrc hs w hw) hn hb h0 hbig) ?_|refine rcG rfl rfl rfl rfl rfl rfl rfl rfl rfl (fun hg w hw=>usableBig_spec c A n ca l w (rdSrc hs w hw) hn hb h0 hbig) ?_)|(show ∀ _:Nat,T _ _ _ _ _;intro _))
 refine T_if rfl (fun h=>?_) (fun h=>by exfalso;simp at h)
 repeat' (first|refine d1 ?_|refine dd ?_|(show ∀ _:Nat,T _ _ _ _ _;intro _)|(show T _ (.code .ret::_) _ _ _;refine T_retV _ rfl (nilC _ |>.trans (Hle.nth 0 rfl)) ⟨_,trivial,rfl,rfl⟩))
theorem sumL_lensQ {l:List TS} {q:Nat} (h:∀ t∈l,t.n≤q):sumL (lens l)≤q * l.length:=by
 induction l with
 | nil=>exact Nat.zero_le _
 | cons t l ih =>
  have h1:=h t (.head _)
  have h2:=ih fun x hx=>h x (.tail _ hx)
  show t.n+sumL (lens l)≤_
  rw [List.length_cons,Nat.mul_add]
  omega
end Go.Proofs.YtmenjpmikhajfaaGreatDoor
namespace Go.Proofs.YtmenjpmikhajfaaGreatDoor
open Go.RowKit Go.Shelf Go.Proofs
set_option maxRecDepth 100000
set_option maxHeartbeats 1000000

def greatC19 (cols:List (List Int)) (q:Nat):Bool:=decide (q<cols.length) || cols.any fun r=>decide (36<r.length)
theorem greatC19_no {cols:List (List Int)} {q:Nat} (h:greatC19 cols q=false):(∀ r∈cols,r.length≤36)∧cols.length≤q:=by
 unfold greatC19 at h
 rw [Bool.or_eq_false_iff,List.any_eq_false,decide_eq_false_iff_not] at h
 exact⟨fun r hr=>by have:=h.2 r hr;simp at this;omega,by omega⟩
theorem greatC19_spec (x:Value) (cols:List (List Int)) (q:Nat) (w:World) (hx:Rd (wr w) [x] [rowsD cols]):Spec Tryz.prog 54 [x, .int .i64 (q:Nat)] w (fun v R=>v = .bool (greatC19 cols q)∧R=[]):=by
 obtain⟨Ak,ck,csk,rfl,hck1,hck2,hcs,hrows⟩:=hx.tabS
 refine spec_of sg Tryz.func54 rfl rfl rfl ?_
 repeat' (first|refine d1 ?_|refine dd ?_|(show ∀ _:Nat,T _ _ _ _ _;intro _))
 refine T_if rfl (fun h=>?_) (fun h=>?_)
 ·simp only [decide_eq_true_eq] at h
  repeat' (first|refine d1 ?_|refine dd ?_|(show ∀ _:Nat,T _ _ _ _ _;intro _)|(show T _ (.code .ret::_) _ _ _;refine T_retV [] rfl (Hle.none _) ⟨congrArg Value.bool ?_,rfl⟩))
  unfold greatC19;rw [decide_eq_true (by omega)];rfl
 simp only [decide_eq_false_iff_not] at h
 repeat' (first|refine d1 ?_|refine dd ?_|(show ∀ _:Nat,T _ _ _ _ _;intro _))
 refine T_loopX (fun k:Nat=>[(5, .int .i64 k)]) (fun _=>[]) (fun k=>k≤cols.length∧∀ r∈cols.take k,r.length≤36) (fun k=>cols.length - k) 0 ⟨Nat.zero_le _,fun r h=>by simp at h⟩ ?_
 rintro k ⟨hk,hok⟩
 repeat' (first|refine d1 ?_|refine dd ?_|(show ∀ _:Nat,T _ _ _ _ _;intro _))
 refine T_if rfl (fun h=>?_) (fun h=>?_)
 ·simp only [decide_eq_true_eq] at h
  have hkn:k<cols.length:=by omega
  obtain⟨b,o,rfl⟩:=hcs.base (by omega)
  obtain⟨r,hr⟩:∃ r,cols[k]?=some r:=⟨_,List.getElem?_eq_getElem hkn⟩
  obtain⟨Au,capu,hu,hcap1,hcap2,hA⟩:=hrows.tabRow hr
  have hr0:=rowHd hcs hkn hu
  have htk:=take_snoc _ _ _ hr
  repeat' (first|refine d1 ?_|refine dd ?_|(show ∀ _:Nat,T _ _ _ _ _;intro _))
  refine T_if rfl (fun h1=>?_) (fun h1=>?_)
  ·simp only [decide_eq_true_eq] at h1
   repeat' (first|refine d1 ?_|refine dd ?_|(show ∀ _:Nat,T _ _ _ _ _;intro _)|(show T _ (.code .ret::_) _ _ _;refine T_retV [] rfl (Hle.none _) ⟨congrArg Value.bool ?_,rfl⟩))
   unfold greatC19
   have h9:(cols.any fun r=>decide (36<r.length))=true:=List.any_eq_true.2 ⟨r,List.mem_of_getElem? hr,by simp;omega⟩
   rw [h9,Bool.or_true]
  ·simp only [decide_eq_false_iff_not] at h1
   repeat' (first|refine d1 ?_|refine dd ?_|(show ∀ _:Nat,T _ _ _ _ _;intro _))
   refine T_backX (k+1) ⟨by omega,fun y hy=>?_⟩ (by omega)
   rw [htk,List.mem_append,List.mem_singleton] at hy
   rcases hy with hy|rfl
   ·exact hok y hy
   ·omega
 ·simp only [decide_eq_false_iff_not] at h
  obtain rfl:k=cols.length:=by omega
  rw [List.take_of_length_le (Nat.le_refl _)] at hok
  repeat' (first|refine d1 ?_|refine dd ?_|(show ∀ _:Nat,T _ _ _ _ _;intro _)|(show T _ (.code .ret::_) _ _ _;refine T_retV [] rfl (Hle.none _) ⟨congrArg Value.bool ?_,rfl⟩))
  unfold greatC19
  have h9:(cols.any fun r=>decide (36<r.length))=false:=List.any_eq_false.2 fun r hr=>by have:=hok r hr;simp;omega
  rw [h9,Bool.or_false]
  exact (decide_eq_false (by omega)).symm
end Go.Proofs.YtmenjpmikhajfaaGreatDoor
namespace Go.Proofs.YtmenjpmikhajfaaGreatDoor
open Go.RowKit Go.Shelf

def sureG (all:Array Oper) (env:Env):GId→Bool
  | []=>true
  | (i,p)::G=>(match dstL all i with
    | some s=>(match lookE env s with
      | some (.bool q)=>(match q,p with
        | true,true=>true
        | false,false=>true
        | _,_=>false)
      | _=>false)
    | none=>false) && sureG all env G
theorem sureG_holds {N:FK} {all:Array Oper} {env:Env} {ec:EnvC} {a:Act} (ha:Agrees N all env ec a):∀ {G:GId},sureG all env G=true→Holds all a G
  | [],_=>Holds.nil _ _
  | (i,p)::G,h=>by
    unfold sureG at h
    rw [Bool.and_eq_true] at h
    obtain⟨h1,h2⟩:=h
    intro x hx
    rcases List.mem_cons.1 hx with rfl|hx
    · split at h1
      · rename_i s hs
        split at h1
        · rename_i q hv
          have hqp:q=p:=by cases q <;> cases p <;> first|rfl|cases h1
          subst hqp
          have ht:=ha.at_ s _ hv
          show yielded all a.tmps i=some q
          unfold yielded
          rw [← dstL_eq,hs]
          simp only [Option.bind_some]
          rw [Array.getD_eq_getD_getElem?] at ht
          cases hq:a.tmps[s]? with
          | none=>rw [hq] at ht;simp [undef] at ht
          | some u=>rw [hq] at ht;simp only [Option.getD_some] at ht;subst ht;rfl
        · cases h1
      · cases h1
    · exact sureG_holds ha h2 x hx
theorem T_known {C:Cx} {k:List It} {env:Env} {ec:EnvC} {H:List HA} (d:Nat) {G:GId} {v:Value} (hl:lookE ec d=some (G,v)) (hg:sureG (allOf k) env G=true) (h:T C k ((d,v)::env) ec H):T C k env ec H :=
 T.mk fun a w ha hw=>h.go a w ⟨ha.defers,ha.size,fun s u hs=>by
  rcases lookE_cons hs with⟨rfl,rfl⟩|⟨_,hs⟩
  ·exact ha.yes _ _ _ hl (sureG_holds ha hg)
  ·exact ha.at_ s u hs,ha.yes,ha.no⟩ hw
end Go.Proofs.YtmenjpmikhajfaaGreatDoor
namespace Go.Proofs.YtmenjpmikhajfaaGreatDoor
open Go.RowKit Go.Shelf Go.Proofs
set_option maxRecDepth 100000
set_option linter.unusedSectionVars false
set_option maxHeartbeats 1000000

theorem find_congr {α:Type} {p q:α→Bool}:∀ {l:List α},(∀ x∈l,p x=q x)→l.find? p=l.find? q
 | [],_=>rfl
 | a::l,h=>by rw [List.find?_cons,List.find?_cons,h a (.head _),find_congr fun x hx=>h x (.tail _ hx)]
def pg (p:List Int) (q:Nat):Int:=p.getD q 0
def viaP (K:List Int→Int) (ls:List Nat) (p:List Int) (v m:List Nat):Int:=K (colT v m)+pg p (numL ls (toM v m))
def badQ (K:List Int→Int) (ls:List Nat) (Ms:List (List Nat)) (p:List Int) (q:Nat):Bool:=(posL ls (atL ls q) Ms).any fun m=>decide (viaP K ls p (atL ls q) m<pg p q)
def outP (z:Int):Bool:=decide (z<0) || decide (1073741824<z)
def feaE (K:List Int→Int) (ls:List Nat) (Ms:List (List Nat)) (p:List Int):Int :=
 if p.length≠volL ls then 9 else if pg p (volL ls - 1)≠0∨p.any outP=true∨(List.range (volL ls)).any (badQ K ls Ms p)=true then 18 else 0
theorem feaE_ok {K:List Int→Int} {ls:List Nat} {Ms:List (List Nat)} {p:List Int}:feaE K ls Ms p=0↔p.length=volL ls∧pg p (volL ls - 1)=0∧(∀ z∈p,0≤z∧z≤1073741824)∧∀ q,q<volL ls→∀ m∈Ms,possM ls (atL ls q) m=true→pg p q≤viaP K ls p (atL ls q) m:=by
 have hany:p.any outP=true↔¬ ∀ z∈p,0≤z∧z≤1073741824:=by
  rw [List.any_eq_true]
  constructor
  ·rintro⟨z,hz,ho⟩ h
   have:=h z hz
   unfold outP at ho
   simp only [Bool.or_eq_true,decide_eq_true_eq] at ho
   omega
  ·intro h
   refine Classical.byContradiction fun h2=>h fun z hz=>?_
   have:¬ outP z=true:=fun h3=>h2 ⟨z,hz,h3⟩
   unfold outP at this
   simp only [Bool.or_eq_true,decide_eq_true_eq] at this
   omega
 have hbad:(List.range (volL ls)).any (badQ K ls Ms p)=true↔¬ ∀ q,q<volL ls→∀ m∈Ms,possM ls (atL ls q) m=true→pg p q≤viaP K ls p (atL ls q) m:=by
  rw [List.any_eq_true]
  constructor
  ·rintro⟨q,hq,hb⟩ h
   unfold badQ at hb
   rw [List.any_eq_true] at hb
   obtain⟨m,hm,hlt⟩:=hb
   obtain⟨h1,h2⟩:=posL_mem hm
   have:=h q (List.mem_range.1 hq) m h1 h2
   rw [decide_eq_true_eq] at hlt
   omega
  ·intro h
   refine Classical.byContradiction fun h2=>h fun q hq m hm hp=>?_
   refine Int.not_lt.1 fun hlt=>h2 ⟨q,List.mem_range.2 hq,?_⟩
   unfold badQ
   rw [List.any_eq_true]
   exact⟨m,List.mem_filter.2 ⟨hm,hp⟩,by simpa using hlt⟩
 unfold feaE
 by_cases h1:p.length=volL ls
 ·rw [if_neg (by simpa using h1)]
  by_cases h2:pg p (volL ls - 1)=0
  ·by_cases h3:∀ z∈p,0≤z∧z≤1073741824
   ·by_cases h4:∀ q,q<volL ls→∀ m∈Ms,possM ls (atL ls q) m=true→pg p q≤viaP K ls p (atL ls q) m
    ·rw [if_neg]
     ·exact⟨fun _=>⟨h1,h2,h3,h4⟩,fun _=>rfl⟩
     ·rintro (h|h|h)
      ·exact h h2
      ·exact hany.1 h h3
      ·exact hbad.1 h h4
    ·rw [if_pos (.inr (.inr (hbad.2 h4)))]
     exact⟨fun h=>by omega,fun h=>absurd h.2.2.2 h4⟩
   ·rw [if_pos (.inr (.inl (hany.2 h3)))]
    exact⟨fun h=>by omega,fun h=>absurd h.2.2.1 h3⟩
  ·rw [if_pos (.inl h2)]
   exact⟨fun h=>by omega,fun h=>absurd h.2.1 h2⟩
 ·rw [if_pos h1]
  exact⟨fun h=>by omega,fun h=>absurd h.1 h1⟩
theorem feaE_val (K:List Int→Int) (ls:List Nat) (Ms:List (List Nat)) (p:List Int):feaE K ls Ms p=0∨feaE K ls Ms p=9∨feaE K ls Ms p=18:=by
 unfold feaE
 repeat' split
 all_goals omega
def potL (K:List Int→Int) (ls:List Nat) (Ms:List (List Nat)):List Int:=(List.range (volL ls)).map fun q=>rsV K ls Ms (atL ls q)
theorem potL_len (K:List Int→Int) (ls:List Nat) (Ms:List (List Nat)):(potL K ls Ms).length=volL ls:=by simp [potL]
theorem potL_get (K:List Int→Int) (ls:List Nat) (Ms:List (List Nat)) {q:Nat} (h:q<volL ls):(potL K ls Ms)[q]?=some (rsV K ls Ms (atL ls q)):=by
 unfold potL;rw [List.getElem?_map,List.getElem?_range h];rfl
theorem potL_pg (K:List Int→Int) (ls:List Nat) (Ms:List (List Nat)) {q:Nat} (h:q<volL ls):pg (potL K ls Ms) q=rsV K ls Ms (atL ls q):=by
 unfold pg;rw [List.getD_eq_getElem?_getD,potL_get K ls Ms h];rfl
theorem at_last (ls:List Nat):atL ls (volL ls - 1)=ls:=by
 have h:=num_all ls
 rw [show volL ls - 1=numL ls ls by omega,at_num (InB.self ls)]
theorem at_ne_last {ls:List Nat} {q:Nat} (hq:q<volL ls) (h:q≠volL ls - 1):atL ls q≠ls:=fun e=>by
 have h1:=num_at ls q hq
 have h2:=num_all ls
 rw [e] at h1
 omega
section
variable {K:List Int→Int} (hK:∀ x,0≤K x) {ls:List Nat} {n:Nat} {Ms:List (List Nat)} (hM:MvsOk n Ms) (hn:ls.length=n)
include hK hM hn
theorem rsV_step_le {v m:List Nat} (hv:InB ls v) (hm:m∈Ms) (hp:possM ls v m=true):rsV K ls Ms v≤mcV K ls Ms v m:=by
 by_cases he:v=ls
 ·subst he
  rw [rsV_end]
  exact mcV_nn hK _ _ _ _
 ·rw [rsV_step hK hM hn hv he]
  exact ((foldB_spec (p:=possM ls v) (mcV_nn hK ls Ms v) Ms (-1) (by omega)).2.2.1 m hm hp).2
theorem potL_via {v m:List Nat} (hv:InB ls v) (hm:m∈Ms) (hp:possM ls v m=true):viaP K ls (potL K ls Ms) v m=mcV K ls Ms v m:=by
 have h1:=(toM_rem hM hn hv hm hp).1
 unfold viaP mcV
 rw [potL_pg K ls Ms (numL_lt h1),at_num h1]
theorem potL_fea (hB:∀ v,rsV K ls Ms v≤1073741824):feaE K ls Ms (potL K ls Ms)=0:=by
 have hpos:=volL_pos ls
 refine feaE_ok.2 ⟨potL_len K ls Ms,?_,fun z hz=>?_,fun q hq m hm hp=>?_⟩
 ·rw [potL_pg K ls Ms (by omega),at_last,rsV_end]
 ·obtain⟨q,-,rfl⟩:=List.mem_map.1 hz
  exact⟨rsV_nn _ _ _ _,hB _⟩
 ·rw [potL_pg K ls Ms hq,potL_via hK hM hn (atL_in ls q) hm hp]
  exact rsV_step_le hK hM hn (atL_in ls q) hm hp
theorem fea_le {p:List Int} (hp:feaE K ls Ms p=0):∀ (d:Nat) (v:List Nat),InB ls v→sumL ls - sumL v=d→pg p (numL ls v)≤rsV K ls Ms v:=by
 obtain⟨h1,h2,h3,h4⟩:=feaE_ok.1 hp
 intro d
 induction d using Nat.strongRecOn with
 | _ d ih =>
  intro v hv hd
  by_cases he:v=ls
  ·subst he
   rw [rsV_end]
   have h5:=num_all v
   rw [show numL v v=volL v - 1 by omega,h2]
   exact Int.le_refl _
  ·obtain⟨m,-,hm,hpo,hc⟩:=fit_some hK hM hn hv he
   obtain⟨g1,g2,g3,g4⟩:=toM_rem hM hn hv hm hpo
   have h5:=h4 (numL ls v) (numL_lt hv) m hm (by rw [at_num hv];exact hpo)
   rw [at_num hv] at h5
   have h6:=ih (sumL ls - sumL (toM v m)) (by omega) (toM v m) g1 rfl
   rw [← hc]
   unfold viaP at h5
   unfold mcV
   omega
theorem fea_pot {p:List Int} (hp:feaE K ls Ms p=0) {q:Nat} (hq:q<volL ls):pg p q≤pg (potL K ls Ms) q:=by
 have:=fea_le hK hM hn hp _ _ (atL_in ls q) rfl
 rw [num_at ls q hq] at this
 rw [potL_pg K ls Ms hq]
 exact this
theorem potL_raise {k:Nat} (hk:k<volL ls):feaE K ls Ms ((potL K ls Ms).set k (rsV K ls Ms (atL ls k)+1))=18:=by
 have hpos:=volL_pos ls
 have hset:pg ((potL K ls Ms).set k (rsV K ls Ms (atL ls k)+1)) k=rsV K ls Ms (atL ls k)+1:=by
  unfold pg
  rw [List.getD_eq_getElem?_getD,List.getElem?_set_self (by rw [potL_len];exact hk)];rfl
 have hoth:∀ {q:Nat},q≠k→pg ((potL K ls Ms).set k (rsV K ls Ms (atL ls k)+1)) q=pg (potL K ls Ms) q:=fun {q} hq=>by
  unfold pg
  rw [List.getD_eq_getElem?_getD,List.getElem?_set_ne (Ne.symm hq), ← List.getD_eq_getElem?_getD]
 rcases feaE_val K ls Ms ((potL K ls Ms).set k (rsV K ls Ms (atL ls k)+1)) with h|h|h
 ·exfalso
  obtain⟨h1,h2,h3,h4⟩:=feaE_ok.1 h
  by_cases he:k=volL ls - 1
  ·rw [← he,hset] at h2
   have:=rsV_nn K ls Ms (atL ls k)
   omega
  ·have hv:=atL_in ls k
   obtain⟨m,-,hm,hpo,hc⟩:=fit_some hK hM hn hv (at_ne_last hk he)
   obtain⟨g1,g2,g3,g4⟩:=toM_rem hM hn hv hm hpo
   have h5:=h4 k hk m hm hpo
   have hne:numL ls (toM (atL ls k) m)≠k:=fun e=>by
    have h6:=at_num g1
    rw [e] at h6
    rw [← h6] at g2
    omega
   have h7:=potL_via hK hM hn hv hm hpo
   unfold viaP at h5 h7
   rw [hset,hoth hne,h7,hc] at h5
   omega
 ·exfalso
  unfold feaE at h
  rw [if_neg (by rw [List.length_set,potL_len];simp)] at h
  split at h <;> omega
 ·exact h
end
def ldF (K:List Int→Int) (ls:List Nat) (Ms:List (List Nat)) (p:List Int):Nat→List Nat→Bool
 | 0,v=>decide (v=ls)
 | f+1,v=>decide (v=ls) || Ms.any fun m=>possM ls v m && (decide (pg p (numL ls v)=viaP K ls p v m) && ldF K ls Ms p f (toM v m))
def ldV (K:List Int→Int) (ls:List Nat) (Ms:List (List Nat)) (p:List Int) (v:List Nat):Bool:=ldF K ls Ms p (sumL ls - sumL v) v
def fitT (K:List Int→Int) (ls:List Nat) (Ms:List (List Nat)) (p:List Int) (v m:List Nat):Bool:=possM ls v m && (decide (pg p (numL ls v)=viaP K ls p v m) && ldV K ls Ms p (toM v m))
def tgF (K:List Int→Int) (ls:List Nat) (Ms:List (List Nat)) (p:List Int):Nat→List Nat→List (List Int)
 | 0,_=>[]
 | f+1,v=>match Ms.find? (fitT K ls Ms p v) with
  | some m=>colT v m::tgF K ls Ms p f (toM v m)
  | none=>[]
def tgV (K:List Int→Int) (ls:List Nat) (Ms:List (List Nat)) (p:List Int) (v:List Nat):List (List Int):=tgF K ls Ms p (sumL ls - sumL v) v
section
variable {K:List Int→Int} {ls:List Nat} {n:Nat} {Ms:List (List Nat)} (hM:MvsOk n Ms) (hn:ls.length=n) {p:List Int}
include hM hn
theorem poss_none {v:List Nat} (hv:InB ls v) (h0:sumL ls - sumL v=0):∀ m∈Ms,possM ls v m=false:=fun m hm=>by
 cases hp:possM ls v m with
 | false=>rfl
 | true =>
  obtain⟨h1,h2,h3,h4⟩:=toM_rem hM hn hv hm hp
  omega
theorem ldF_fuel:∀ f v,InB ls v→sumL ls - sumL v≤f→∀ g,sumL ls - sumL v≤g→ldF K ls Ms p f v=ldF K ls Ms p g v:=by
 have nn:∀ v,InB ls v→sumL ls - sumL v=0→∀ g,ldF K ls Ms p g v=decide (v=ls):=fun v hv h0 g=>by
  cases g with
  | zero=>rfl
  | succ g =>
   show (decide (v=ls) || _)=_
   rw [List.any_eq_false.2 fun m hm=>by rw [poss_none hM hn hv h0 m hm];simp]
   simp
 intro f
 induction f with
 | zero=>intro v hv h0 g hg;rw [nn v hv (by omega),nn v hv (by omega)]
 | succ f ih =>
  intro v hv hf g hg
  cases g with
  | zero=>rw [nn v hv (by omega),nn v hv (by omega)]
  | succ g =>
   show (decide (v=ls) || Ms.any _)=(decide (v=ls) || Ms.any _)
   congr 1
   rw [Bool.eq_iff_iff,List.any_eq_true,List.any_eq_true]
   refine exists_congr fun m=>and_congr_right fun hm=>?_
   cases hp:possM ls v m with
   | false=>simp
   | true =>
    obtain⟨h1,h2,h3,h4⟩:=toM_rem hM hn hv hm hp
    rw [ih (toM v m) h1 (by omega) g (by omega)]
theorem ldV_step {v:List Nat} (hv:InB ls v):ldV K ls Ms p v=(decide (v=ls) || Ms.any (fitT K ls Ms p v)):=by
 unfold ldV
 by_cases h0:sumL ls - sumL v=0
 ·rw [h0]
  show decide (v=ls)=_
  rw [List.any_eq_false.2 fun m hm=>by unfold fitT;rw [poss_none hM hn hv h0 m hm];simp]
  simp
 ·obtain⟨f,hf⟩:∃ f,sumL ls - sumL v=f+1:=⟨sumL ls - sumL v - 1,by omega⟩
  rw [hf]
  show (decide (v=ls) || Ms.any _)=(decide (v=ls) || Ms.any _)
  congr 1
  rw [Bool.eq_iff_iff,List.any_eq_true,List.any_eq_true]
  refine exists_congr fun m=>and_congr_right fun hm=>?_
  unfold fitT ldV
  cases hp:possM ls v m with
  | false=>simp
  | true =>
   obtain⟨h1,h2,h3,h4⟩:=toM_rem hM hn hv hm hp
   rw [ldF_fuel hM hn f (toM v m) h1 (by omega) (sumL ls - sumL (toM v m)) (by omega)]
theorem ldV_end:ldV K ls Ms p ls=true:=by rw [ldV_step hM hn (InB.self ls)];simp
theorem fitT_some {v:List Nat} (hv:InB ls v) (hne:v≠ls) (hl:ldV K ls Ms p v=true):∃ m,Ms.find? (fitT K ls Ms p v)=some m∧m∈Ms∧possM ls v m=true∧pg p (numL ls v)=viaP K ls p v m∧ldV K ls Ms p (toM v m)=true:=by
 rw [ldV_step hM hn hv] at hl
 simp only [hne,decide_false,Bool.false_or] at hl
 cases hf:Ms.find? (fitT K ls Ms p v) with
 | none =>
  exfalso
  obtain⟨m,hm,h9⟩:=List.any_eq_true.1 hl
  have:=List.find?_eq_none.1 hf m hm
  exact this h9
 | some m =>
  have h6:=List.find?_some hf
  unfold fitT at h6
  rw [Bool.and_eq_true,Bool.and_eq_true,decide_eq_true_eq] at h6
  exact⟨m,rfl,List.mem_of_find?_eq_some hf,h6.1,h6.2.1,h6.2.2⟩
theorem tgF_fuel:∀ f v,InB ls v→sumL ls - sumL v≤f→∀ g,sumL ls - sumL v≤g→tgF K ls Ms p f v=tgF K ls Ms p g v:=by
 have nf:∀ v,InB ls v→sumL ls - sumL v=0→Ms.find? (fitT K ls Ms p v)=none:=fun v hv h0=>List.find?_eq_none.2 fun m hm=>by unfold fitT;rw [poss_none hM hn hv h0 m hm];simp
 intro f
 induction f with
 | zero =>
  intro v hv h0 g hg
  cases g with
  | zero=>rfl
  | succ g=>unfold tgF;rw [nf v hv (by omega)]
 | succ f ih =>
  intro v hv hf g hg
  cases g with
  | zero=>unfold tgF;rw [nf v hv (by omega)]
  | succ g =>
   unfold tgF
   cases hF:Ms.find? (fitT K ls Ms p v) with
   | none=>rfl
   | some m =>
    have h6:=List.find?_some hF
    unfold fitT at h6
    rw [Bool.and_eq_true] at h6
    obtain⟨h1,h2,h3,h4⟩:=toM_rem hM hn hv (List.mem_of_find?_eq_some hF) h6.1
    simp only
    rw [ih (toM v m) h1 (by omega) g (by omega)]
theorem tgV_step {v m:List Nat} (hv:InB ls v) (hf:Ms.find? (fitT K ls Ms p v)=some m):tgV K ls Ms p v=colT v m::tgV K ls Ms p (toM v m):=by
 have h6:=List.find?_some hf
 unfold fitT at h6
 rw [Bool.and_eq_true] at h6
 obtain⟨h1,h2,h3,h4⟩:=toM_rem hM hn hv (List.mem_of_find?_eq_some hf) h6.1
 obtain⟨f,hf2⟩:∃ f,sumL ls - sumL v=f+1:=⟨sumL ls - sumL v - 1,by omega⟩
 unfold tgV
 rw [hf2,tgF,hf]
 simp only
 rw [tgF_fuel hM hn f (toM v m) h1 (by omega) (sumL ls - sumL (toM v m)) (by omega)]
theorem tgV_end:tgV K ls Ms p ls=[]:=by unfold tgV;rw [Nat.sub_self];rfl
theorem tgV_rest (hlast:pg p (volL ls - 1)=0):∀ f v,InB ls v→sumL ls - sumL v=f→ldV K ls Ms p v=true→RestOk ls v (tgV K ls Ms p v)∧((tgV K ls Ms p v).map K).sum=pg p (numL ls v)∧(tgV K ls Ms p v).length≤f:=by
 intro f
 induction f using Nat.strongRecOn with
 | _ f ih =>
  intro v hv hf hl
  by_cases he:v=ls
  ·subst he
   have h5:=num_all v
   rw [tgV_end hM hn,show numL v v=volL v - 1 by omega,hlast]
   exact⟨RestOk.nil _,rfl,Nat.zero_le _⟩
  ·obtain⟨m,h1,hm,hp,hc,hl2⟩:=fitT_some hM hn hv he hl
   obtain⟨g1,g2,g3,g4⟩:=toM_rem hM hn hv hm hp
   obtain⟨i1,i2,i3⟩:=ih (sumL ls - sumL (toM v m)) (by omega) (toM v m) g1 rfl hl2
   rw [tgV_step hM hn hv h1]
   refine ⟨RestOk.cons hv (hM.ne m hm) (hM.nd m hm) (fun s hs=>by rw [hn];exact hM.lt m hm s hs) hp i1,?_,?_⟩
   ·rw [List.map_cons,List.sum_cons,i2,hc];rfl
   ·rw [List.length_cons];omega
end
section
variable {K:List Int→Int} (hK:∀ x,0≤K x) {ls:List Nat} {n:Nat} {Ms:List (List Nat)} (hM:MvsOk n Ms) (hn:ls.length=n)
include hK hM hn
theorem potL_ld:∀ (d:Nat) (v:List Nat),InB ls v→sumL ls - sumL v=d→ldV K ls Ms (potL K ls Ms) v=true:=by
 intro d
 induction d using Nat.strongRecOn with
 | _ d ih =>
  intro v hv hd
  rw [ldV_step hM hn hv]
  by_cases he:v=ls
  ·simp [he]
  ·obtain⟨m,-,hm,hpo,hc⟩:=fit_some hK hM hn hv he
   obtain⟨g1,g2,g3,g4⟩:=toM_rem hM hn hv hm hpo
   rw [Bool.or_eq_true,List.any_eq_true]
   refine .inr ⟨m,hm,?_⟩
   unfold fitT
   rw [hpo,potL_pg K ls Ms (numL_lt hv),at_num hv,potL_via hK hM hn hv hm hpo,hc,ih (sumL ls - sumL (toM v m)) (by omega) (toM v m) g1 rfl]
   simp
theorem potL_fit {v m:List Nat} (hv:InB ls v) (hm:m∈Ms):fitT K ls Ms (potL K ls Ms) v m=fitM K ls Ms v m:=by
 unfold fitT fitM
 cases hpo:possM ls v m with
 | false=>rfl
 | true =>
  obtain⟨g1,g2,g3,g4⟩:=toM_rem hM hn hv hm hpo
  rw [potL_pg K ls Ms (numL_lt hv),at_num hv,potL_via hK hM hn hv hm hpo,potL_ld hK hM hn _ _ g1 rfl,Bool.and_true]
  exact congrArg (true && ·) (decide_eq_decide.2 eq_comm)
theorem potL_tg:∀ (f:Nat) (v:List Nat),InB ls v→tgF K ls Ms (potL K ls Ms) f v=alM K ls Ms f v
 | 0,v,_=>rfl
 | f+1,v,hv=>by
  unfold tgF alM
  rw [find_congr (q:=fitM K ls Ms v) fun m hm=>potL_fit hK hM hn hv hm]
  cases hF:Ms.find? (fitM K ls Ms v) with
  | none=>rfl
  | some m =>
   have h6:=List.find?_some hF
   unfold fitM at h6
   rw [Bool.and_eq_true] at h6
   obtain⟨h1,h2,h3,h4⟩:=toM_rem hM hn hv (List.mem_of_find?_eq_some hF) h6.1
   simp only
   rw [potL_tg f (toM v m) h1]
end
end Go.Proofs.YtmenjpmikhajfaaGreatDoor
namespace Go.Proofs.YtmenjpmikhajfaaGreatDoor
open Go.RowKit Go.Shelf Go.Proofs

end Go.Proofs.YtmenjpmikhajfaaGreatDoor
namespace Go.Proofs.YtmenjpmikhajfaaGreatDoor
open Go.RowKit Go.Shelf Go.Proofs

def subsL:Nat→Nat→Nat→List (List Nat)
 | 0,_,_=>[[]]
 | k+1,a,b=>(List.range' a (b - a)).flatMap fun i=>(subsL k (i+1) b).map (i :: ·)
end Go.Proofs.YtmenjpmikhajfaaGreatDoor
namespace Go.Proofs.YtmenjpmikhajfaaGreatDoor
open Go.RowKit Go.Shelf Go.Proofs

def mxOf:Int→List Int→Int
 | a,[]=>a
 | a,x::l=>mxOf (max a x) l
end Go.Proofs.YtmenjpmikhajfaaGreatDoor
namespace Go.Proofs.YtmenjpmikhajfaaGreatDoor
open Go.RowKit Go.Shelf Go.Proofs
set_option maxRecDepth 100000
set_option maxHeartbeats 1000000

theorem mxOfnt_spec (A:Option Addr) (n ca:Nat) (a:Int) (r:List Int) (w:World) (hs:Src w 1 A n ((a::r).map (Value.int .i64))) (hn:(a::r).length=n) (hb:n≤1000) :
  Spec Tryz.prog 191 [.slice A n ca] w (fun v R=>v = .int .i64 (mxOf a r)∧R=[]):=by
 have hn2:r.length+1=n:=hn
 obtain⟨b,o,rfl⟩:=hs.base (by omega)
 have hr0:=src_int hs (k:=0) (x:=a) (by omega) rfl
 refine spec_of sg Tryz.func191 rfl rfl rfl ?_
 repeat' (first|refine d1 ?_|refine dd ?_|(show ∀ _:Nat,T _ _ _ _ _;intro _))
 refine T_if rfl (fun h=>by exfalso;simp at h;omega) (fun _=>?_)
 repeat' (first|refine d1 ?_|refine dd ?_|(show T _ (.ops _ (_::_)::_) _ _ _;first|refine T_val rfl (Val.load rfl (fun hg=>rdOld hr0)) rfl rfl rfl ?_|refine T_valC rfl (Val.load rfl (fun hg=>rdOld hr0)) rfl rfl rfl rfl rfl ?_)|(show T _ (.run _ _ (_::_) _ _::_) _ _ _;first|refine rv rfl rfl rfl (Val.load rfl (fun hg=>rdOld hr0)) rfl rfl rfl ?_|refine rg rfl rfl rfl (Val.load rfl (fun hg=>rdOld hr0)) rfl rfl rfl rfl rfl ?_)|(show ∀ _:Nat,T _ _ _ _ _;intro _))
 refine T_loopX (fun s:Nat × Int=>[(4, .int .i64 (s.1:Nat)),(3, .int .i64 s.2)]) (fun _=>[]) (fun s=>1≤s.1∧s.1≤n∧mxOf s.2 (r.drop (s.1 - 1))=mxOf a r) (fun s=>n - s.1) (1,a) ⟨Nat.le_refl _,by dsimp only;omega,rfl⟩ ?_
 rintro⟨k,m⟩ ⟨hk1,hk,hm⟩
 dsimp only at hk1 hk hm ⊢
 repeat' (first|refine d1 ?_|refine dd ?_|(show ∀ _:Nat,T _ _ _ _ _;intro _))
 refine T_if rfl (fun h=>?_) (fun h=>?_)
 ·simp only [decide_eq_true_eq] at h
  have hkn:k<n:=by omega
  obtain⟨z,hz⟩:∃ z,r[k - 1]?=some z:=⟨_,List.getElem?_eq_getElem (by omega)⟩
  have hz2:(a::r)[k]?=some z:=by
   obtain⟨j,rfl⟩:∃ j,k=j+1:=⟨k - 1,by omega⟩
   exact hz
  have hr1:=src_int hs hkn hz2
  have hd:r.drop (k - 1)=z::r.drop (k - 1+1):=by
   obtain⟨h1,e⟩:=List.getElem?_eq_some_iff.1 hz
   rw [List.drop_eq_getElem_cons h1,e]
  rw [hd] at hm
  repeat' (first|refine d1 ?_|refine dd ?_|(show ∀ _:Nat,T _ _ _ _ _;intro _))
  refine T_backX (k+1,max m z) ⟨by dsimp only;omega,by dsimp only;omega,?_⟩ (by dsimp only;omega)
  dsimp only
  rw [show k+1 - 1=k - 1+1 by omega]
  exact hm
 ·simp only [decide_eq_false_iff_not] at h
  rw [List.drop_of_length_le (by omega)] at hm
  have hm2:m=mxOf a r:=hm
  repeat' (first|refine d1 ?_|refine dd ?_|(show ∀ _:Nat,T _ _ _ _ _;intro _)|(show T _ (.code .ret::_) _ _ _;refine T_retV [] rfl (Hle.none _) ⟨by rw [hm2];rfl,rfl⟩))
end Go.Proofs.YtmenjpmikhajfaaGreatDoor
namespace Go.Proofs.YtmenjpmikhajfaaGreatDoor
open Go.RowKit Go.Shelf Go.Proofs
set_option maxRecDepth 100000
set_option maxHeartbeats 1000000

theorem srcsRBig_spec (A:Option Addr) (n ca:Nat) (l:List TS) (w:World) (hs:Src w 1 A n (l.map TS.val)) (hn:l.length=n) (hb:n≤1000) (h0:n≠0) (hbig:32<n∨∃ t∈l,1024<t.n) :
  Spec Tryz.prog 178 [.slice A n ca] w (fun v R=>v = .int .i64 4∧R=[]):=by
 refine spec_of sg Tryz.func178 rfl rfl rfl ?_
 repeat' (first|refine d1 ?_|refine dd ?_|(show ∀ _:Nat,T _ _ _ _ _;intro _))
 refine T_if rfl (fun h=>by exfalso;simp at h;omega) (fun _=>?_)
 repeat' (first|refine d1 ?_|refine dd ?_|(show ∀ _:Nat,T _ _ _ _ _;intro _))
 refine T_if rfl (fun h=>?_) (fun h=>?_)
 ·repeat' (first|refine d1 ?_|refine dd ?_|(show ∀ _:Nat,T _ _ _ _ _;intro _)|(show T _ (.code .ret::_) _ _ _;refine T_retV [] rfl (Hle.refl _) ⟨rfl,rfl⟩))
 simp only [decide_eq_false_iff_not] at h
 repeat' (first|refine d1 ?_|refine dd ?_|(show ∀ _:Nat,T _ _ _ _ _;intro _))
 refine T_loopX (fun k:Nat=>[(3, .int .i64 k)]) (fun _=>[]) (fun k=>k≤n∧∀ j t,j<k→l[j]?=some t→t.n≤1024) (fun k=>n - k) 0 ⟨Nat.zero_le _,fun j t h=>by omega⟩ ?_
 rintro k ⟨hk,hok⟩
 repeat' (first|refine d1 ?_|refine dd ?_|(show ∀ _:Nat,T _ _ _ _ _;intro _))
 refine T_if rfl (fun h1=>?_) (fun h1=>?_)
 ·simp only [decide_eq_true_eq] at h1
  have hkn:k<n:=by omega
  obtain⟨b,o,rfl⟩:=hs.base (by omega)
  obtain⟨t,ht⟩:∃ t,l[k]?=some t:=⟨_,List.getElem?_eq_getElem (by omega)⟩
  have hr:RdC w b (o+(k:Int).toNat * 1) [.slice t.A t.n t.cap]:=by
   have h9:=(hs.get1 (i:=k) hkn (by rw [List.getElem?_map,ht];rfl)).2
   rw [Nat.mul_one] at h9
   rw [off1]
   exact h9
  repeat' (first|refine d1 ?_|refine dd ?_|(show ∀ _:Nat,T _ _ _ _ _;intro _))
  refine T_if rfl (fun h2=>?_) (fun h2=>?_)
  ·repeat' (first|refine d1 ?_|refine dd ?_|(show ∀ _:Nat,T _ _ _ _ _;intro _)|(show T _ (.code .ret::_) _ _ _;refine T_retV [] rfl (Hle.refl _) ⟨rfl,rfl⟩))
  ·simp only [decide_eq_false_iff_not] at h2
   repeat' (first|refine d1 ?_|refine dd ?_|(show ∀ _:Nat,T _ _ _ _ _;intro _))
   refine T_backX (k+1) ⟨by omega,fun j u hj hu=>?_⟩ (by omega)
   rcases Nat.lt_or_ge j k with h3|h3
   ·exact hok j u h3 hu
   ·rw [show j=k by omega,ht] at hu
    cases hu
    omega
 ·simp only [decide_eq_false_iff_not] at h1
  exfalso
  rcases hbig with h9|⟨t,ht,h9⟩
  ·omega
  ·obtain⟨i,hi,e⟩:=List.getElem_of_mem ht
   have:=hok i t (by omega) (by rw [List.getElem?_eq_getElem hi,e])
   omega
end Go.Proofs.YtmenjpmikhajfaaGreatDoor
namespace Go.Proofs.YtmenjpmikhajfaaGreatDoor
open Go.RowKit Go.Shelf Go.Proofs
set_option maxRecDepth 100000
set_option maxHeartbeats 1000000

end Go.Proofs.YtmenjpmikhajfaaGreatDoor
namespace Go.Proofs.YtmenjpmikhajfaaGreatDoor
open Go.RowKit Go.Shelf Go.Proofs
set_option maxRecDepth 100000
set_option maxHeartbeats 1000000

theorem isNone_true {A:Option Addr} (h:isNone' A=true):A=none:=by cases A <;> simp_all [isNone']
theorem src_none {w:World} {sz n:Nat} {xs:List Value} (h:Src w sz none n xs):n=0∧xs=[]:=by
 have:n=0:=by
  rcases Nat.eq_zero_or_pos n with h1|h1
  ·exact h1
  ·have:=(h.2 h1).1;simp [isAt] at this
 subst this
 exact⟨rfl,List.eq_nil_of_length_eq_zero (by simpa using h.1)⟩
end Go.Proofs.YtmenjpmikhajfaaGreatDoor
namespace Go.Proofs.YtmenjpmikhajfaaGreatDoor
open Go.RowKit Go.Shelf Go.Proofs
set_option maxRecDepth 100000
set_option maxHeartbeats 1000000

def RvIn (l r:List Tok) (i:Nat):Prop:=r.length=l.length∧∀ k,k<l.length→r[k]?=if k<i∨l.length≤k+i then l[l.length - 1 - k]? else l[k]?
theorem RvIn.zero (l:List Tok):RvIn l l 0:=⟨rfl,fun k hk=>by rw [if_neg (by omega)]⟩
theorem RvIn.step {l r:List Tok} {i:Nat} (h:RvIn l r i) (hi:2 * i+1<l.length):RvIn l ((r.set i (tkA r (l.length - 1 - i))).set (l.length - 1 - i) (tkA r i)) (i+1):=by
 obtain⟨h1,h2⟩:=h
 have e1:r[l.length - 1 - i]?=l[l.length - 1 - i]?:=by rw [h2 _ (by omega),if_neg (by omega)]
 have e2:r[i]?=l[i]?:=by rw [h2 _ (by omega),if_neg (by omega)]
 refine ⟨by simp [h1],fun k hk=>?_⟩
 rw [List.getElem?_set,List.getElem?_set,List.length_set]
 by_cases hk1:l.length - 1 - i=k
 ·rw [if_pos hk1,if_pos (by omega),if_pos (by omega),show l.length - 1 - k=i by omega, ← e2,tkA_get (by omega)]
 ·rw [if_neg hk1]
  by_cases hk2:i=k
  ·subst hk2
   rw [if_pos rfl,if_pos (by omega),if_pos (by omega), ← e1,tkA_get (by omega)]
  ·rw [if_neg hk2,h2 k hk]
   by_cases h3:k<i∨l.length≤k+i
   ·rw [if_pos h3,if_pos (by omega)]
   ·rw [if_neg h3,if_neg (by omega)]
theorem RvIn.all {l r:List Tok} {i:Nat} (h:RvIn l r i) (hi:l.length≤2 * i+1):r=l.reverse:=by
 obtain⟨h1,h2⟩:=h
 apply List.ext_getElem?
 intro k
 by_cases hk:k<l.length
 ·rw [h2 k hk,List.getElem?_reverse hk]
  split
  ·rfl
  ·rw [show l.length - 1 - k=k by omega]
 ·rw [List.getElem?_eq_none (by omega),List.getElem?_eq_none (by simp;omega)]
end Go.Proofs.YtmenjpmikhajfaaGreatDoor
namespace Go.Proofs.YtmenjpmikhajfaaGreatDoor
open Go.RowKit Go.Shelf Go.Proofs
set_option maxRecDepth 100000
set_option maxHeartbeats 1000000

end Go.Proofs.YtmenjpmikhajfaaGreatDoor
namespace Go.Proofs.YtmenjpmikhajfaaGreatDoor
open Go.RowKit Go.Shelf Go.Proofs
set_option maxRecDepth 100000
set_option maxHeartbeats 1000000

theorem cloneI_spec (A:Option Addr) (n c:Nat) (l:List Int) (w:World) (hs:Src w 1 A n (l.map (Value.int .i64))) (hb:n≤1000000) :
  Spec Tryz.prog 52 [.slice A n c] w (fun v R=>∃ x:Option Addr × Nat,True∧v = .slice x.1 n x.2∧R=[row 3 1 x.1 x.2 n (l.map (Value.int .i64))]):=by
 refine spec_of sg Tryz.func52 rfl rfl rfl ?_
 repeat' (first|refine d1 ?_|refine dd ?_|(show T _ (.ops _ (_::_)::_) _ _ _;first|refine T_val rfl (Val.nilS rfl) rfl rfl rfl ?_|refine T_valC rfl (Val.nilS rfl) rfl rfl rfl rfl rfl ?_)|(show T _ (.run _ _ (_::_) _ _::_) _ _ _;first|refine rv rfl rfl rfl (Val.nilS rfl) rfl rfl rfl ?_|refine rg rfl rfl rfl (Val.nilS rfl) rfl rfl rfl rfl rfl ?_)|(show ∀ _:Nat,T _ _ _ _ _;intro _))
 refine T_if rfl (fun h=>?_) (fun h=>?_)
 ·obtain rfl:=isNone_true h
  obtain⟨rfl,e⟩:=src_none hs
  rw [e]
  repeat' (first|refine d1 ?_|refine dd ?_|(show ∀ _:Nat,T _ _ _ _ _;intro _))
  refine T_nilrow 3 1 ?_
  repeat' (first|refine d1 ?_|refine dd ?_|(show ∀ _:Nat,T _ _ _ _ _;intro _)|(show T _ (.code .ret::_) _ _ _;refine T_retV _ rfl Hle.sub ⟨(none,0),trivial,rfl,rfl⟩))
 ·repeat' (first|refine d1 ?_|(show ∀ _:Nat,T _ _ _ _ _;intro _))
  refine T_blk_rowh 1 0 rfl (by omega) ?_
  refine T_op (OpT.append rfl rfl rfl rfl rfl rfl rfl rfl rfl rfl (rdSrc hs) (oneInts l) (by dsimp only;omega) (by omega) (fun A' cap' hA'=>?_))
  rw [show 0+n=n by omega,show flatP []++(l.map (Value.int .i64))=(l.map (Value.int .i64)) from rfl]
  repeat' (first|refine d1 ?_|refine dd ?_|(show ∀ _:Nat,T _ _ _ _ _;intro _)|(show T _ (.code .ret::_) _ _ _;refine T_retV _ rfl (Hle.refl _) ⟨(A',cap'),trivial,rfl,rfl⟩))
theorem oneRows {R:Rdr}:∀ {m:List (List Int)} {cs:List Value},Rd R cs (m.map intsD)→oneCells cs=true
 | [],cs,h=>by cases h;rfl
 | r::m,[],h=>by cases h
 | r::m,x::cs,h=>by
  obtain⟨h1,h2⟩:=Rd.cons_inv (d:=intsD r) h
  obtain⟨A,cap,rfl,-⟩:=h1.row1
  show (true && oneCells cs)=true
  rw [oneRows h2];rfl
def RvS (l r:List TS) (i:Nat):Prop:=r.length=l.length∧∀ k,k<l.length→r[k]?=if k<i∨l.length≤k+i then l[l.length - 1 - k]? else l[k]?
theorem RvS.zero (l:List TS):RvS l l 0:=⟨rfl,fun k hk=>by rw [if_neg (by omega)]⟩
theorem tsA_get2 {l:List TS} {i:Nat} (h:i<l.length):l[i]?=some (tsA l i):=by unfold tsA;rw [List.getD_eq_getElem?_getD,List.getElem?_eq_getElem h];rfl
theorem RvS.step {l r:List TS} {i:Nat} (h:RvS l r i) (hi:2 * i+1<l.length):RvS l ((r.set i (tsA r (l.length - 1 - i))).set (l.length - 1 - i) (tsA r i)) (i+1):=by
 obtain⟨h1,h2⟩:=h
 have e1:r[l.length - 1 - i]?=l[l.length - 1 - i]?:=by rw [h2 _ (by omega),if_neg (by omega)]
 have e2:r[i]?=l[i]?:=by rw [h2 _ (by omega),if_neg (by omega)]
 refine ⟨by simp [h1],fun k hk=>?_⟩
 rw [List.getElem?_set,List.getElem?_set,List.length_set]
 by_cases hk1:l.length - 1 - i=k
 ·rw [if_pos hk1,if_pos (by omega),if_pos (by omega),show l.length - 1 - k=i by omega, ← e2,tsA_get2 (by omega)]
 ·rw [if_neg hk1]
  by_cases hk2:i=k
  ·subst hk2
   rw [if_pos rfl,if_pos (by omega),if_pos (by omega), ← e1,tsA_get2 (by omega)]
  ·rw [if_neg hk2,h2 k hk]
   by_cases h3:k<i∨l.length≤k+i
   ·rw [if_pos h3,if_pos (by omega)]
   ·rw [if_neg h3,if_neg (by omega)]
theorem RvS.all {l r:List TS} {i:Nat} (h:RvS l r i) (hi:l.length≤2 * i+1):r=l.reverse:=by
 obtain⟨h1,h2⟩:=h
 apply List.ext_getElem?
 intro k
 by_cases hk:k<l.length
 ·rw [h2 k hk,List.getElem?_reverse hk]
  split
  ·rfl
  ·rw [show l.length - 1 - k=k by omega]
 ·rw [List.getElem?_eq_none (by omega),List.getElem?_eq_none (by simp;omega)]
end Go.Proofs.YtmenjpmikhajfaaGreatDoor
namespace Go.Proofs.YtmenjpmikhajfaaGreatDoor
open Go.RowKit Go.Shelf Go.Proofs
set_option maxRecDepth 100000
set_option maxHeartbeats 1000000

open Classical in
noncomputable def sizT (l:List TS):Int × Int:=if l.length=0 then (0,5) else if 32<l.length∨∃ t∈l,1024<t.n then (0,4) else if volL (lens l)≤1073741824 then (((volL (lens l):Nat):Int),0) else (0,4)
theorem sizeT_spec (A:Option Addr) (n ca:Nat) (l:List TS) (p q:Nat) (w:World) (hst:Std w) (hs:Src w 1 A n (l.map TS.val)) (hn:l.length=n) (hl:TsOk w l) (hgr:great19B l p q=false) (hp:p≤32) (hq:q≤1000) :
  Spec Tryz.prog 188 [.slice A n ca] w (fun v R=>v = .tuple #[.int .i64 (sizT l).1, .int .i64 (sizT l).2]∧R=[]):=by
 subst hn
 obtain⟨g1,g2,g3⟩:=great19_no hl hgr
 refine spec_of sg Tryz.func188 rfl rfl rfl ?_
 by_cases h:l.length≠0∧(32<l.length∨∃ t∈l,1024<t.n)
 ·have e:sizT l=(0,4):=by unfold sizT;rw [if_neg h.1,if_pos h.2]
  rw [e]
  repeat' (first|refine d1 ?_|refine dd ?_|(show T _ (.ops _ (_::_)::_) _ _ _;first|refine T_call rfl rfl rfl rfl rfl (fun w hw=>srcsBig_spec A l.length ca l w (rdSrc hs w hw) rfl (by omega) h.1 h.2) ?_|refine T_callC rfl rfl rfl rfl rfl rfl rfl (fun hg w hw=>srcsBig_spec A l.length ca l w (rdSrc hs w hw) rfl (by omega) h.1 h.2) ?_)|(show T _ (.run _ _ (_::_) _ _::_) _ _ _;first|refine rc rfl rfl rfl rfl rfl rfl rfl (fun w hw=>srcsBig_spec A l.length ca l w (rdSrc hs w hw) rfl (by omega) h.1 h.2) ?_|refine rcG rfl rfl rfl rfl rfl rfl rfl rfl rfl (fun hg w hw=>srcsBig_spec A l.length ca l w (rdSrc hs w hw) rfl (by omega) h.1 h.2) ?_)|(show ∀ _:Nat,T _ _ _ _ _;intro _))
  refine T_if rfl (fun h=>?_) (fun h=>by exfalso;simp at h)
  repeat' (first|refine d1 ?_|refine dd ?_|(show ∀ _:Nat,T _ _ _ _ _;intro _)|(show T _ (.code .ret::_) _ _ _;refine T_retV [] rfl (Hle.none _) ⟨rfl,rfl⟩))
 have hgp:Grp w A l.length l:=by
  refine ⟨hst,hs,rfl,?_,hl,fun t ht=>?_,g3⟩
  ·refine Classical.byContradiction fun h9=>h ⟨by omega, .inl (by omega)⟩
  ·rcases g2 t ht with h9|h9
   ·omega
   ·exact absurd ⟨by have:=List.length_pos_of_mem ht;omega, .inr ⟨t,ht,h9.1⟩⟩ h
 repeat' (first|refine d1 ?_|refine dd ?_|(show T _ (.ops _ (_::_)::_) _ _ _;first|refine T_call rfl rfl rfl rfl rfl (fun w hw=>srcs19_spec A l.length ca l w (hgp.cls hw)) ?_|refine T_callC rfl rfl rfl rfl rfl rfl rfl (fun hg w hw=>srcs19_spec A l.length ca l w (hgp.cls hw)) ?_)|(show T _ (.run _ _ (_::_) _ _::_) _ _ _;first|refine rc rfl rfl rfl rfl rfl rfl rfl (fun w hw=>srcs19_spec A l.length ca l w (hgp.cls hw)) ?_|refine rcG rfl rfl rfl rfl rfl rfl rfl rfl rfl (fun hg w hw=>srcs19_spec A l.length ca l w (hgp.cls hw)) ?_)|(show ∀ _:Nat,T _ _ _ _ _;intro _))
 by_cases h0:l.length=0
 ·have e:sizT l=(0,5):=if_pos h0
  rw [e,if_pos h0]
  refine T_if rfl (fun h=>?_) (fun h=>by exfalso;simp at h)
  repeat' (first|refine d1 ?_|refine dd ?_|(show ∀ _:Nat,T _ _ _ _ _;intro _)|(show T _ (.code .ret::_) _ _ _;refine T_retV [] rfl (Hle.none _) ⟨rfl,rfl⟩))
 rw [if_neg h0]
 have hno:¬ (32<l.length∨∃ t∈l,1024<t.n):=fun h9=>h ⟨h0,h9⟩
 refine T_if rfl (fun h=>by exfalso;simp at h) (fun _=>?_)
 repeat' (first|refine d1 ?_|refine dd ?_|(show T _ (.ops _ (_::_)::_) _ _ _;first|refine T_call rfl rfl rfl rfl rfl (fun w hw=>size19_spec A l.length ca l 1073741824 w (hgp.cls hw) ⟨by omega,by omega⟩) ?_|refine T_callC rfl rfl rfl rfl rfl rfl rfl (fun hg w hw=>size19_spec A l.length ca l 1073741824 w (hgp.cls hw) ⟨by omega,by omega⟩) ?_)|(show T _ (.run _ _ (_::_) _ _::_) _ _ _;first|refine rc rfl rfl rfl rfl rfl rfl rfl (fun w hw=>size19_spec A l.length ca l 1073741824 w (hgp.cls hw) ⟨by omega,by omega⟩) ?_|refine rcG rfl rfl rfl rfl rfl rfl rfl rfl rfl (fun hg w hw=>size19_spec A l.length ca l 1073741824 w (hgp.cls hw) ⟨by omega,by omega⟩) ?_)|(show ∀ _:Nat,T _ _ _ _ _;intro _))
 by_cases h2:volL (lens l)≤1073741824
 ·have e:sizT l=(((volL (lens l):Nat):Int),0):=by unfold sizT;rw [if_neg h0,if_neg hno,if_pos h2]
  have ec:capV (volL (lens l)) 1073741824=volL (lens l):=if_pos h2
  rw [e,ec]
  refine T_if rfl (fun h=>by exfalso;simp at h;omega) (fun _=>?_)
  repeat' (first|refine d1 ?_|refine dd ?_|(show ∀ _:Nat,T _ _ _ _ _;intro _)|(show T _ (.code .ret::_) _ _ _;refine T_retV [] rfl (Hle.none _) ⟨rfl,rfl⟩))
 ·have e:sizT l=(0,4):=by unfold sizT;rw [if_neg h0,if_neg hno,if_neg h2]
  have ec:capV (volL (lens l)) 1073741824=1073741824+1:=if_neg h2
  rw [e,ec]
  refine T_if rfl (fun _=>?_) (fun h=>by exfalso;simp at h)
  repeat' (first|refine d1 ?_|refine dd ?_|(show ∀ _:Nat,T _ _ _ _ _;intro _)|(show T _ (.code .ret::_) _ _ _;refine T_retV [] rfl (Hle.none _) ⟨rfl,rfl⟩))
def subsI (k i:Nat) (b:Nat):List (List Nat):=(subsL k (i+1) b).map (i :: ·)
def subsP (k a b j:Nat):List (List Nat):=(List.range' a j).flatMap fun i=>subsI k i b
theorem subsP_succ (k a b j:Nat):subsP k a b (j+1)=subsP k a b j++subsI k (a+j) b:=by
 unfold subsP
 rw [List.range'_concat,List.flatMap_append]
 simp
theorem subsL_P (k a b:Nat):subsL (k+1) a b=subsP k a b (b - a):=rfl
theorem subsP_len {k b:Nat} (h:∀ a,(subsL k a b).length≤5 ^ k) (a:Nat):∀ j,(subsP k a b j).length≤j * 5 ^ k
 | 0=>by simp [subsP]
 | j+1=>by
  have h1:=subsP_len h a j
  have h2:=h (a+j+1)
  rw [subsP_succ,List.length_append,Nat.succ_mul,subsI,List.length_map]
  omega
theorem subsL_len {b:Nat} (hb:b≤4):∀ k a,(subsL k a b).length≤5 ^ k
 | 0,a=>Nat.le_refl _
 | k+1,a=>by
  have h1:=subsP_len (fun a=>subsL_len hb k a) a (b - a)
  have h2:(b - a) * 5 ^ k≤5 * 5 ^ k:=Nat.mul_le_mul_right _ (by omega)
  rw [subsL_P,Nat.pow_succ,Nat.mul_comm (5 ^ k) 5]
  omega
theorem subsL_mem:∀ (k a b:Nat),∀ r∈subsL k a b,r.length=k
 | 0,_,_,r,h=>by rw [List.mem_singleton.1 h];rfl
 | k+1,a,b,r,h=>by
  obtain⟨i,hi,hr⟩:=List.mem_flatMap.1 h
  obtain⟨s,hs,rfl⟩:=List.mem_map.1 hr
  rw [List.length_cons,subsL_mem k _ _ s hs]
theorem subsets_spec:∀ (k a b:Nat) (w:World),k≤4→a≤5→b≤4→Spec Tryz.prog 179 [.int .i64 (a:Nat), .int .i64 (b:Nat), .int .i64 (k:Nat)] w (fun v R=>∃ x:Value,True∧v=x∧R=[dat [x] [rowsD ((subsL k a b).map intN)]]):=by
 intro k
 induction k with
 | zero =>
  intro a b w _ ha hb
  refine spec_of sg Tryz.func179 rfl rfl rfl ?_
  repeat' (first|refine d1 ?_|refine dd ?_|(show ∀ _:Nat,T _ _ _ _ _;intro _))
  refine T_if rfl (fun _=>?_) (fun h=>by exfalso;simp at h)
  repeat' (first|refine d1 ?_|refine dd ?_|(show ∀ _:Nat,T _ _ _ _ _;intro _))
  rename_i b9
  repeat' (first|refine d1 ?_|refine dd ?_|(show ∀ _:Nat,T _ _ _ _ _;intro _)|(show T _ (.code .ret::_) _ _ _;refine T_retV _ rfl ((hle_unit (B:=dat [.slice none 0 0] [intsD []]) (.s none 0 0 1 [] rfl (Nat.le_refl _) (by omega) (fun h=>absurd h (by omega)) .nil .nil)).trans ((Hle.perm (List.Perm.swap _ _ _)).trans (dat_blk (sz:=1) (n:=1) (cs:=[.slice none 0 0]) rfl (by omega)))) ⟨_,trivial,rfl,rfl⟩))
 | succ k ih =>
  intro a b w hk ha hb
  have hp5:5 ^ k≤625:=Nat.le_trans (Nat.pow_le_pow_right (by omega) (show k≤4 by omega)) (by decide)
  refine spec_of sg Tryz.func179 rfl rfl rfl ?_
  repeat' (first|refine d1 ?_|refine dd ?_|(show ∀ _:Nat,T _ _ _ _ _;intro _))
  refine T_if rfl (fun h=>by exfalso;simp at h;omega) (fun _=>?_)
  repeat' (first|refine d1 ?_|refine dd ?_|(show ∀ _:Nat,T _ _ _ _ _;intro _))
  refine T_le (dat_nil _) ?_
  refine T_nilrow 40 1 ?_
  refine T_loopX (fun s:Nat × (Option Addr × Nat) × List Value=>[(8, .int .i64 ((a+s.1:Nat):Int)),(7, .slice s.2.1.1 (subsP k a b s.1).length s.2.1.2)]) (fun s=>[row 40 1 s.2.1.1 s.2.1.2 (subsP k a b s.1).length s.2.2,dat s.2.2 (((subsP k a b s.1).map intN).map intsD)]) (fun s=>s.1≤b - a) (fun s=>b - a - s.1) (0,(none,0),[]) (Nat.zero_le _) ?_
  rintro⟨j,⟨A,c⟩,hs⟩ hj
  dsimp only at hj ⊢
  have hPl:=subsP_len (fun a=>subsL_len hb k a) a j
  have hPj:j * 5 ^ k≤4 * 625:=Nat.mul_le_mul (by omega) hp5
  have hLl:=subsL_len hb k (a+j+1)
  repeat' (first|refine d1 ?_|refine dd ?_|(show ∀ _:Nat,T _ _ _ _ _;intro _))
  refine T_if rfl (fun h=>?_) (fun h=>?_)
  ·simp only [decide_eq_true_eq] at h
   have hjb:j<b - a:=by omega
   repeat' (first|refine d1 ?_|refine dd ?_|(show ∀ _:Nat,T _ _ _ _ _;intro _))
   rw [show (((a+j:Nat):Int)+1)=((a+j+1:Nat):Int) by omega,show (((k+1:Nat):Int) - 1)=((k:Nat):Int) by omega]
   repeat' (first|refine d1 ?_|refine dd ?_|(show T _ (.ops _ (_::_)::_) _ _ _;refine T_op (OpT.call rfl rfl rfl rfl rfl (fun w hw=>ih (a+j+1) b w (by omega) (by omega) hb) ?_))|(show ∀ _:Nat,T _ _ _ _ _;intro _))
   rintro x R ⟨_,-,rfl,rfl⟩
   refine T_le (H':=[dat [x] [rowsD ((subsL k (a+j+1) b).map intN)],row 40 1 A c (subsP k a b j).length hs,dat hs (((subsP k a b j).map intN).map intsD)]) (Hle.refl _) ?_
   refine T_open fun p hp=>?_
   obtain⟨Ax,cx,csx,rfl,hx1,hx2,hxl,hxr,hxrows⟩:=hp.tab
   rw [List.length_map] at hx1 hxl hxr ⊢
   refine T_le (H':=[row 40 1 A c (subsP k a b j).length hs,dat hs (((subsP k a b j).map intN).map intsD),fz p]) Hle.srt ?_
   repeat' (first|refine d1 ?_|refine dd ?_|(show ∀ _:Nat,T _ _ _ _ _;intro _))
   refine T_loopX (fun s:Nat × (Option Addr × Nat) × List Value=>[(10, .int .i64 (s.1:Nat)),(7, .slice s.2.1.1 ((subsP k a b j).length+s.1) s.2.1.2)]) (fun s=>[row 40 1 s.2.1.1 s.2.1.2 ((subsP k a b j).length+s.1) s.2.2,dat s.2.2 (((subsP k a b j++(subsI k (a+j) b).take s.1).map intN).map intsD),fz p]) (fun s=>s.1≤(subsL k (a+j+1) b).length) (fun s=>(subsL k (a+j+1) b).length - s.1) (0,(A,c),hs) (Nat.zero_le _) ?_ (hG:=by rw [List.take_zero,List.append_nil];exact Hle.refl _)
   rintro⟨m,⟨A2,c2⟩,hs2⟩ hm
   dsimp only at hm ⊢
   repeat' (first|refine d1 ?_|refine dd ?_|(show ∀ _:Nat,T _ _ _ _ _;intro _))
   refine T_if rfl (fun h3=>?_) (fun h3=>?_)
   ·simp only [decide_eq_true_eq] at h3
    have hmn:m<(subsL k (a+j+1) b).length:=by omega
    obtain⟨bx,ox,rfl,hrx⟩:=hxr (by omega)
    obtain⟨r,hr⟩:∃ r,(subsL k (a+j+1) b)[m]?=some r:=⟨_,List.getElem?_eq_getElem hmn⟩
    obtain⟨Ar,capr,hcs,hr1,hr2,-⟩:=hxrows.tabRow (i:=m) (r:=intN r) (by rw [List.getElem?_map,hr];rfl)
    have hsr:∀ {w':World} {H:List HA} [FocusZ H p],Cls w w' H→Src w' 1 Ar (intN r).length ((intN r).map (Value.int .i64)):=fun {w' H} _ hw=>((rd_one hxrows hcs (by rw [List.getElem?_map,List.getElem?_map,hr];rfl)).own hw).intsAt
    have hrl:(intN r).length≤4:=by
     have h9:=subsL_mem k (a+j+1) b r (List.mem_of_getElem? hr)
     unfold intN
     rw [List.length_map];omega
    repeat' (first|refine d1 ?_|refine dd ?_|(show T _ (.ops _ (_::_)::_) _ _ _;first|refine T_val rfl (Val.load rfl (fun hg=>rdFz (p:=p) (u := .slice Ar (intN r).length capr) (b:=bx) (by rw [off1];exact hrx m _ hcs))) rfl rfl rfl ?_|refine T_valC rfl (Val.load rfl (fun hg=>rdFz (p:=p) (u := .slice Ar (intN r).length capr) (b:=bx) (by rw [off1];exact hrx m _ hcs))) rfl rfl rfl rfl rfl ?_)|(show T _ (.run _ _ (_::_) _ _::_) _ _ _;first|refine rv rfl rfl rfl (Val.load rfl (fun hg=>rdFz (p:=p) (u := .slice Ar (intN r).length capr) (b:=bx) (by rw [off1];exact hrx m _ hcs))) rfl rfl rfl ?_|refine rg rfl rfl rfl (Val.load rfl (fun hg=>rdFz (p:=p) (u := .slice Ar (intN r).length capr) (b:=bx) (by rw [off1];exact hrx m _ hcs))) rfl rfl rfl rfl rfl ?_)|(show ∀ _:Nat,T _ _ _ _ _;intro _))
    rename_i bl
    refine T_blk_rowh 1 1 rfl (by omega) ?_
    refine T_op (OpT.append (A:=some ⟨bl,0,none⟩) rfl rfl rfl rfl rfl rfl rfl rfl rfl rfl (fun w hw=>hsr hw) (oneInts _) (by dsimp only;omega) (by omega) (fun A' cap' hA'=>?_))
    repeat' (first|refine d1 ?_|refine dd ?_|(show T _ (.ops _ (_::_)::_) _ _ _;refine T_op (OpT.append (A:=A2) rfl rfl rfl rfl rfl rfl rfl rfl rfl rfl (fun w hw=>Src.own hw rfl) rfl (by dsimp only;omega) (by omega) (fun A'' cap'' hA''=>?_)))|(show ∀ _:Nat,T _ _ _ _ _;intro _))
    have hri:(intN ((a+j)::r)).map (Value.int .i64)=flatP [(0, .int .i64 ((a+j:Nat):Int))]++(intN r).map (Value.int .i64):=rfl
    have hst:(subsI k (a+j) b).take (m+1)=(subsI k (a+j) b).take m++[(a+j)::r]:=take_snoc _ _ _ (by unfold subsI;rw [List.getElem?_map,hr];rfl)
    refine T_backX (m+1,(A'',cap''),hs2++[.slice A' (1+(intN r).length) cap']) (by dsimp only;omega) (by dsimp only;omega) (hE:=⟨rfl,rfl,trivial⟩) (hG:=?_)
    dsimp only
    obtain⟨X,hX⟩:∃ X,X=subsP k a b j++(subsI k (a+j) b).take m:=⟨_,rfl⟩
    rw [hst, ← List.append_assoc, ← hX,List.map_append]
    exact (Hle.srt (K:=[row 3 1 A' cap' (1+(intN r).length) (flatP [(0, .int .i64 ((a+j:Nat):Int))]++(intN r).map (Value.int .i64)),dat hs2 ((X.map intN).map intsD),row 40 1 A'' cap'' ((subsP k a b j).length+m+1) (hs2++flatP [(0, .slice A' (1+(intN r).length) cap')]),fz p])).trans (out_hle (cl:=intN ((a+j)::r)) rfl)
   ·simp only [decide_eq_false_iff_not] at h3
    have hme:m=(subsL k (a+j+1) b).length:=by omega
    have hps:subsP k a b (j+1)=subsP k a b j++(subsI k (a+j) b).take m:=by
     rw [subsP_succ,List.take_of_length_le (by unfold subsI;rw [List.length_map];omega)]
    have hpsl:(subsP k a b (j+1)).length=(subsP k a b j).length+m:=by
     rw [hps,List.length_append,List.length_take,subsI,List.length_map];omega
    repeat' (first|refine d1 ?_|refine dd ?_|(show ∀ _:Nat,T _ _ _ _ _;intro _))
    exact T_backX (j+1,(A2,c2),hs2) (by dsimp only;omega) (by dsimp only;omega) (hE:=⟨by dsimp only;rw [show ((a+(j+1):Nat):Int)=((a+j:Nat):Int)+1 by omega];rfl,by dsimp only;rw [hpsl];rfl,trivial⟩) (hG:=by dsimp only;rw [hpsl,hps];exact Hle.sub)
  ·simp only [decide_eq_false_iff_not] at h
   obtain rfl:j=b - a:=by omega
   rw [← subsL_P]
   repeat' (first|refine d1 ?_|refine dd ?_|(show ∀ _:Nat,T _ _ _ _ _;intro _)|(show T _ (.code .ret::_) _ _ _;refine T_retV _ rfl dat_row ⟨_,trivial,rfl,by rfl⟩))
def refJ19 (n:Nat):Nat→List (List Nat)
 | 0=>[]
 | j+1=>refJ19 n j++subsL (n - j) 0 n
theorem refJ19_all {n:Nat} (h1:1≤n) (h4:n≤4):refJ19 n n=mvL n:=by
 obtain rfl|rfl|rfl|rfl:n=1∨n=2∨n=3∨n=4:=by omega
 all_goals decide
theorem refJ19_len {n:Nat} (h4:n≤4):∀ j,(refJ19 n j).length≤j * 625
 | 0=>Nat.le_refl _
 | j+1=>by
  have h1:=refJ19_len h4 j
  have h2:=subsL_len h4 (n - j) 0
  have h3:5 ^ (n - j)≤5 ^ 4:=Nat.pow_le_pow_right (by omega) (by omega)
  have h5:5 ^ 4=625:=by decide
  rw [refJ19,List.length_append]
  omega
theorem movesR_spec (z:Int) (w:World):Spec Tryz.prog 106 [.int .i64 z] w (fun v R=>∃ x:Value,True∧v=x∧R=[dat [x] [rowsD ((mvL z.toNat).map intN)]]):=by
 refine spec_of sg Tryz.func106 rfl rfl rfl ?_
 repeat' (first|refine d1 ?_|refine dd ?_|(show ∀ _:Nat,T _ _ _ _ _;intro _))
 refine T_if rfl (fun h=>?_) (fun h=>?_)
 ·simp only [Bool.or_eq_true,decide_eq_true_eq] at h
  rw [mvL_none (by omega)]
  repeat' (first|refine d1 ?_|refine dd ?_|(show ∀ _:Nat,T _ _ _ _ _;intro _)|(show T _ (.code .ret::_) _ _ _;refine T_retV _ rfl (nilC _ |>.trans (Hle.nth 0 rfl)) ⟨_,trivial,rfl,rfl⟩))
 simp only [Bool.or_eq_false_iff,decide_eq_false_iff_not] at h
 obtain⟨n,rfl⟩:∃ n:Nat,z=n:=⟨z.toNat,by omega⟩
 have h1:1≤n:=by omega
 have h4:n≤4:=by omega
 rw [Int.toNat_natCast]
 repeat' (first|refine d1 ?_|refine dd ?_|(show ∀ _:Nat,T _ _ _ _ _;intro _))
 refine T_le (dat_nil _) ?_
 refine T_nilrow 40 1 ?_
 refine T_loopX (fun s:Nat × (Option Addr × Nat) × List Value=>[(4, .int .i64 ((n:Int) - (s.1:Nat))),(3, .slice s.2.1.1 (refJ19 n s.1).length s.2.1.2)]) (fun s=>[row 40 1 s.2.1.1 s.2.1.2 (refJ19 n s.1).length s.2.2,dat s.2.2 (((refJ19 n s.1).map intN).map intsD)]) (fun s=>s.1≤n) (fun s=>n - s.1) (0,(none,0),[]) (Nat.zero_le _) ?_ (hE:=⟨by dsimp only;rw [show ((n:Int) - ((0:Nat):Int))=(n:Int) by omega];rfl,rfl,trivial⟩)
 rintro⟨j,⟨A,c⟩,hs⟩ hj
 dsimp only at hj ⊢
 have hjl:=refJ19_len h4 j
 repeat' (first|refine d1 ?_|refine dd ?_|(show ∀ _:Nat,T _ _ _ _ _;intro _))
 refine T_if rfl (fun h2=>?_) (fun h2=>?_)
 ·simp only [decide_eq_true_eq] at h2
  have hjn:j<n:=by omega
  rw [show ((n:Int) - ((j:Nat):Int))=((n - j:Nat):Int) by omega]
  have hsl:=subsL_len h4 (n - j) 0
  have h3:5 ^ (n - j)≤5 ^ 4:=Nat.pow_le_pow_right (by omega) (by omega)
  have h5:5 ^ 4=625:=by decide
  repeat' (first|refine d1 ?_|refine dd ?_|(show T _ (.ops _ (_::_)::_) _ _ _;refine T_op (OpT.call rfl rfl rfl rfl rfl (fun w hw=>subsets_spec (n - j) 0 n w (by omega) (by omega) h4) ?_))|(show ∀ _:Nat,T _ _ _ _ _;intro _))
  rintro x R ⟨_,-,rfl,rfl⟩
  refine T_le (H':=[dat [x] [rowsD ((subsL (n - j) 0 n).map intN)],row 40 1 A c (refJ19 n j).length hs,dat hs (((refJ19 n j).map intN).map intsD)]) (Hle.refl _) ?_
  refine T_open fun p hp=>?_
  obtain⟨Ax,cx,csx,rfl,hx1,hx2,hxl,hxr,hxrows⟩:=hp.tab
  rw [List.length_map] at hx1 hxl hxr ⊢
  have hsr:∀ {w':World} {H:List HA} [FocusZ H p],Cls w w' H→Src w' 1 Ax (subsL (n - j) 0 n).length csx:=fun {w' H} _ hw=>⟨by omega,fun hn9=>by
   obtain⟨bx,ox,rfl,hrx⟩:=hxr hn9
   exact⟨rfl,fun q u hu=>hw.fz (p:=p) _ _ _ (hrx q u hu)⟩⟩
  refine T_le (H':=[row 40 1 A c (refJ19 n j).length hs,dat hs (((refJ19 n j).map intN).map intsD),fz p]) Hle.srt ?_
  repeat' (first|refine d1 ?_|refine dd ?_|(show T _ (.ops _ (_::_)::_) _ _ _;refine T_op (OpT.append (A:=A) rfl rfl rfl rfl rfl rfl rfl rfl rfl rfl (fun w hw=>hsr hw) (oneRows hxrows) (by dsimp only;omega) (by omega) (fun A' cap' hA'=>?_)))|(show ∀ _:Nat,T _ _ _ _ _;intro _))
  refine T_backX (j+1,(A',cap'),hs++csx) (by dsimp only;omega) (by dsimp only;omega) (hE:=⟨by dsimp only;rw [show ((n:Int) - ((j+1:Nat):Int))=((n - j:Nat):Int) - 1 by omega];rfl,by dsimp only;rw [refJ19,List.length_append];rfl,trivial⟩) (hG:=?_)
  dsimp only
  rw [refJ19,List.length_append,List.map_append,List.map_append]
  exact (Hle.srt (K:=[fz p,dat hs (((refJ19 n j).map intN).map intsD),row 40 1 A' cap' ((refJ19 n j).length+(subsL (n - j) 0 n).length) (hs++csx)])).trans ((Hle.weaken (i:=0) rfl (fz_dat hxrows) rfl).trans (dat_join.trans (Hle.perm (List.Perm.swap _ _ _))))
 ·simp only [decide_eq_false_iff_not] at h2
  obtain rfl:j=n:=by omega
  rw [refJ19_all h1 h4]
  repeat' (first|refine d1 ?_|refine dd ?_|(show ∀ _:Nat,T _ _ _ _ _;intro _)|(show T _ (.code .ret::_) _ _ _;refine T_retV _ rfl dat_row ⟨_,trivial,rfl,by rfl⟩))
end Go.Proofs.YtmenjpmikhajfaaGreatDoor
namespace Go.Proofs.YtmenjpmikhajfaaGreatDoor
open Go.RowKit Go.Shelf

instance (priority:=low) SubP.same (H:List HA):SubP H H:=⟨id,fun i B h=>h,fun i j _ _ h=>h⟩
inductive Pq:List HA→List HA→Prop where
 | nil (H:List HA):Pq H []
 | same (H:List HA):Pq H H
 | cons {A:HA} {H H' K:List HA} (h:Rm A H H') (k:Pq H' K):Pq H (A::K)
 | drop {A:HA} {H K:List HA} (k:Pq H K):Pq (A::H) K
theorem Pq.spec {H K:List HA} (h:Pq H K):PickP H K:=by
 induction h with
 | nil H=>exact PickP.nil H
 | same H=>exact⟨id,fun i B h=>h,fun i j _ _ h=>h⟩
 | cons h _ ih=>exact PickP.cons _ _ _ _ (h:=h.spec) (k:=ih)
 | drop _ ih =>
  obtain⟨p,h1,h2⟩:=ih.at_
  exact⟨fun i=>p i+1,fun i B hi=>by simpa using h1 i B hi,fun i j hi hj hne=>by have:=h2 i j hi hj hne;dsimp only;omega⟩
theorem Hle.srtV {H K:List HA} (h:Pq H K:=by repeat' (first|exact Pq.nil _|with_reducible exact Pq.same _|apply Pq.cons|with_reducible exact Rm.here|((with_reducible apply Rm.b);rfl)|((with_reducible apply Rm.r) <;> rfl)|apply Rm.there|apply Pq.drop)):Hle H K:=Hle.any (h:=h.spec)
end Go.Proofs.YtmenjpmikhajfaaGreatDoor
namespace Go.Proofs.YtmenjpmikhajfaaGreatDoor
open Go.RowKit Go.Shelf Go.Proofs
set_option maxRecDepth 100000
set_option maxHeartbeats 1000000

theorem usableR_spec (c:Costs) (A:Option Addr) (n ca:Nat) (l:List TS) (w:World) (hg:Grp w A n l):Spec Tryz.prog 105 [c.val, .slice A n ca] w (fun v R=>v = .int .i64 (usV c l)∧R=[]):=by
 have hn:=hg.hn
 have hb:=hg.hb
 refine spec_of sg Tryz.func105 rfl rfl rfl ?_
 refine T_op (OpT.box (cs:=c.cells) rfl rfl rfl rfl rfl rfl rfl (fun pc=>?_))
 repeat' (first|refine d1 ?_|refine dd ?_|(show T _ (.ops _ (_::_)::_) _ _ _;first|refine T_call rfl rfl rfl rfl rfl (fun w hw=>srcs19R_spec A n ca l w (hg.cls hw)) ?_|refine T_callC rfl rfl rfl rfl rfl rfl rfl (fun hg w hw=>srcs19R_spec A n ca l w (hg.cls hw)) ?_)|(show T _ (.run _ _ (_::_) _ _::_) _ _ _;first|refine rc rfl rfl rfl rfl rfl rfl rfl (fun w hw=>srcs19R_spec A n ca l w (hg.cls hw)) ?_|refine rcG rfl rfl rfl rfl rfl rfl rfl rfl rfl (fun hg w hw=>srcs19R_spec A n ca l w (hg.cls hw)) ?_)|(show ∀ _:Nat,T _ _ _ _ _;intro _))
 by_cases h0:n=0
 ·rw [if_pos h0]
  refine T_if rfl (fun h=>?_) (fun h=>by exfalso;simp at h)
  repeat' (first|refine d1 ?_|refine dd ?_|(show ∀ _:Nat,T _ _ _ _ _;intro _)|(show T _ (.code .ret::_) _ _ _;refine T_retV [] rfl (Hle.none _) ⟨congrArg (Value.int .i64) (if_pos (by omega)).symm,rfl⟩))
 rw [if_neg h0]
 refine T_if rfl (fun h=>by exfalso;simp at h) (fun _=>?_)
 repeat' (first|refine d1 ?_|refine dd ?_|(show T _ (.ops _ (_::_)::_) _ _ _;first|refine T_call rfl rfl rfl rfl rfl (fun w hw=>costRef_spec c w) ?_|refine T_callC rfl rfl rfl rfl rfl rfl rfl (fun hg w hw=>costRef_spec c w) ?_)|(show T _ (.run _ _ (_::_) _ _::_) _ _ _;first|refine rc rfl rfl rfl rfl rfl rfl rfl (fun w hw=>costRef_spec c w) ?_|refine rcG rfl rfl rfl rfl rfl rfl rfl rfl rfl (fun hg w hw=>costRef_spec c w) ?_)|(show ∀ _:Nat,T _ _ _ _ _;intro _))
 refine T_if rfl (fun h=>?_) (fun h=>?_)
 ·have h1:costE c≠0:=by simpa using h
  repeat' (first|refine d1 ?_|refine dd ?_|(show ∀ _:Nat,T _ _ _ _ _;intro _)|(show T _ (.code .ret::_) _ _ _;refine T_retV [] rfl (Hle.none _) ⟨congrArg (Value.int .i64) ?_,rfl⟩))
  unfold usV ck21
  rw [if_neg (by omega),if_neg (fun h9=>h1 h9.1)]
 have hc:costE c=0:=by simpa using h
 clear h
 repeat' (first|refine d1 ?_|refine dd ?_|(show ∀ _:Nat,T _ _ _ _ _;intro _))
 refine T_loopX (fun i:Nat=>[(6, .int .i64 (i:Nat))]) (fun _=>[blk pc c.cells 23]) (fun i=>i≤n∧∀ j t,j<i→l[j]?=some t→badL t.l=false) (fun i=>n - i) 0 ⟨Nat.zero_le _,fun j t h=>by omega⟩ ?_
 rintro i ⟨hi,hok⟩
 repeat' (first|refine d1 ?_|refine dd ?_|(show ∀ _:Nat,T _ _ _ _ _;intro _))
 refine T_if rfl (fun h1=>?_) (fun h1=>?_)
 ·simp only [decide_eq_true_eq] at h1
  have hin:i<n:=by omega
  obtain⟨b,o,rfl⟩:=hg.hs.base (by omega)
  obtain⟨t,ht,htm,hr⟩:=hg.get hin
  have htl:=hg.ok.len t htm
  have htn:=hg.nb t htm
  repeat' (first|refine d1 ?_|refine dd ?_|(show ∀ _:Nat,T _ _ _ _ _;intro _))
  refine T_loopX (fun k:Nat=>[(7, .int .i64 (k:Nat))]) (fun _=>[blk pc c.cells 23]) (fun k=>k≤t.n∧∀ q x,q<k→t.l[q]?=some x→tokE x=0) (fun k=>t.n - k) 0 ⟨Nat.zero_le _,fun j t h=>by omega⟩ ?_
  rintro k ⟨hk,hokk⟩
  repeat' (first|refine d1 ?_|refine dd ?_|(show ∀ _:Nat,T _ _ _ _ _;intro _))
  refine T_if rfl (fun h2=>?_) (fun h2=>?_)
  ·simp only [decide_eq_true_eq] at h2
   have hkn:k<t.n:=by omega
   obtain⟨b4,o4,hsA⟩:=(hg.ok.src t htm).base (by omega)
   have hsr:RdC w b4 (o4+(k:Int).toNat * 6) (tkA t.l k).cells:=(hsA ▸ hg.ok.src t htm:Src w 6 (some ⟨b4,o4,none⟩) t.n (t.l.flatMap Tok.cells)).getT (k:=k) (by omega) (tkA_get (by omega))
   rw [hsA] at hr
   repeat' (first|refine d1 ?_|refine dd ?_|(show T _ (.ops _ (_::_)::_) _ _ _;first|refine T_call rfl rfl rfl rfl rfl (fun w hw=>tokRef_spec (tkA t.l k) w) ?_|refine T_callC rfl rfl rfl rfl rfl rfl rfl (fun hg w hw=>tokRef_spec (tkA t.l k) w) ?_)|(show T _ (.run _ _ (_::_) _ _::_) _ _ _;first|refine rc rfl rfl rfl rfl rfl rfl rfl (fun w hw=>tokRef_spec (tkA t.l k) w) ?_|refine rcG rfl rfl rfl rfl rfl rfl rfl rfl rfl (fun hg w hw=>tokRef_spec (tkA t.l k) w) ?_)|(show ∀ _:Nat,T _ _ _ _ _;intro _))
   refine T_if rfl (fun h3=>?_) (fun h3=>?_)
   ·have h4:tokE (tkA t.l k)≠0:=by simpa using h3
    have hbt:badS l=true:=List.any_eq_true.2 ⟨t,htm,List.any_eq_true.2 ⟨tkA t.l k,tkA_mem (by omega),by simpa using h4⟩⟩
    repeat' (first|refine d1 ?_|refine dd ?_|(show ∀ _:Nat,T _ _ _ _ _;intro _)|(show T _ (.code .ret::_) _ _ _;refine T_retV [] rfl (Hle.none _) ⟨congrArg (Value.int .i64) ?_,rfl⟩))
    unfold usV ck21
    rw [if_neg (by omega),if_neg (fun h9=>by rw [hbt] at h9;exact absurd h9.2 (by decide))]
   ·have h4:tokE (tkA t.l k)=0:=by simpa using h3
    repeat' (first|refine d1 ?_|refine dd ?_|(show ∀ _:Nat,T _ _ _ _ _;intro _))
    refine T_backX (k+1) ⟨by omega,fun q x hq hx=>?_⟩ (by omega)
    rcases Nat.lt_or_ge q k with h5|h5
    ·exact hokk q x h5 hx
    ·rw [show q=k by omega,tkA_get (by omega)] at hx
     cases hx
     exact h4
  ·simp only [decide_eq_false_iff_not] at h2
   repeat' (first|refine d1 ?_|refine dd ?_|(show ∀ _:Nat,T _ _ _ _ _;intro _))
   refine T_backX (i+1) ⟨by omega,fun j u hj hu=>?_⟩ (by omega)
   rcases Nat.lt_or_ge j i with h5|h5
   ·exact hok j u h5 hu
   ·rw [show j=i by omega,ht] at hu
    cases hu
    refine badL_false.2 fun x hx=>?_
    obtain⟨q,hq,e⟩:=List.getElem_of_mem hx
    exact hokk q x (by omega) (by rw [List.getElem?_eq_getElem hq,e])
 ·simp only [decide_eq_false_iff_not] at h1
  have hbs:badS l=false:=List.any_eq_false.2 fun t ht=>by
   obtain⟨q,hq,e⟩:=List.getElem_of_mem ht
   rw [hok q t (by omega) (by rw [List.getElem?_eq_getElem hq,e])];simp
  repeat' (first|refine d1 ?_|refine dd ?_|(show ∀ _:Nat,T _ _ _ _ _;intro _)|(show T _ (.code .ret::_) _ _ _;refine T_retV [] rfl (Hle.none _) ⟨congrArg (Value.int .i64) ?_,rfl⟩))
  unfold usV ck21
  rw [if_neg (by omega),if_pos ⟨hc,hbs⟩]
theorem usableRBig_spec (c:Costs) (A:Option Addr) (n ca:Nat) (l:List TS) (w:World) (hs:Src w 1 A n (l.map TS.val)) (hn:l.length=n) (hb:n≤1000) (h0:n≠0) (hbig:32<n∨∃ t∈l,1024<t.n) :
  Spec Tryz.prog 105 [c.val, .slice A n ca] w (fun v R=>v = .int .i64 4∧R=[]):=by
 refine spec_of sg Tryz.func105 rfl rfl rfl ?_
 repeat' (first|(show T _ (.ops _ (⟨_, .box _ _,_,_,_,_⟩::_)::_) _ _ _;refine T_op (OpT.box (cs:=c.cells) rfl rfl rfl rfl rfl rfl rfl (fun _=>?_)))|refine d1 ?_|refine dd ?_|(show T _ (.ops _ (_::_)::_) _ _ _;first|refine T_call rfl rfl rfl rfl rfl (fun w hw=>srcsRBig_spec A n ca l w (rdSrc hs w hw) hn hb h0 hbig) ?_|refine T_callC rfl rfl rfl rfl rfl rfl rfl (fun hg w hw=>srcsRBig_spec A n ca l w (rdSrc hs w hw) hn hb h0 hbig) ?_)|(show T _ (.run _ _ (_::_) _ _::_) _ _ _;first|refine rc rfl rfl rfl rfl rfl rfl rfl (fun w hw=>srcsRBig_spec A n ca l w (rdSrc hs w hw) hn hb h0 hbig) ?_|refine rcG rfl rfl rfl rfl rfl rfl rfl rfl rfl (fun hg w hw=>srcsRBig_spec A n ca l w (rdSrc hs w hw) hn hb h0 hbig) ?_)|(show ∀ _:Nat,T _ _ _ _ _;intro _))
 refine T_if rfl (fun h=>?_) (fun h=>by exfalso;simp at h)
 repeat' (first|refine d1 ?_|refine dd ?_|(show ∀ _:Nat,T _ _ _ _ _;intro _)|(show T _ (.code .ret::_) _ _ _;refine T_retV [] rfl (Hle.none _) ⟨rfl,rfl⟩))
def ownR (l:List TS) (col:List Int) (a:Tok) (k:Nat):List Tok:=(List.range l.length).map fun s=>if s<k then (if 0≤col.getD s (-1) then tkA (tsA l s).l (col.getD s (-1)).toNat else a) else noTok
theorem ownR_len (l:List TS) (col:List Int) (a:Tok) (k:Nat):(ownR l col a k).length=l.length:=by simp [ownR]
theorem ownR_zero (l:List TS) (col:List Int) (a:Tok):ownR l col a 0=List.replicate l.length noTok:=by
 refine List.ext_getElem? fun s=>?_
 unfold ownR
 rw [List.getElem?_map,List.getElem?_replicate]
 rcases Nat.lt_or_ge s l.length with h|h
 ·rw [List.getElem?_range h,if_pos h];simp
 ·rw [if_neg (by omega),List.getElem?_eq_none (by simp;omega)];rfl
theorem ownR_set {l:List TS} {col:List Int} {a x:Tok} {k:Nat} (hk:k<l.length) (hx:x=if 0≤col.getD k (-1) then tkA (tsA l k).l (col.getD k (-1)).toNat else a):(ownR l col a k).set k x=ownR l col a (k+1):=by
 refine List.ext_getElem? fun s=>?_
 unfold ownR
 rw [List.getElem?_set,List.getElem?_map,List.getElem?_map,List.length_map,List.length_range]
 by_cases e:k=s
 ·subst e
  rw [if_pos rfl,if_pos hk,List.getElem?_range hk,Option.map_some,if_pos (by omega),hx]
 ·rw [if_neg e]
  rcases Nat.lt_or_ge s l.length with h2|h2
  ·rw [List.getElem?_range h2,Option.map_some,Option.map_some]
   by_cases h3:s<k
   ·rw [if_pos h3,if_pos (show s<k+1 by omega)]
   ·rw [if_neg h3,if_neg (show ¬ s<k+1 by omega)]
  ·rw [List.getElem?_eq_none (by simp;omega)];rfl
theorem ownR_colV {w:World} {A:Option Addr} {n:Nat} {l:List TS} (hg:Grp w A n l) {c:Costs} (hc:costE c=0) (hbs:badS l=false) {col:List Int} (hco:ColOk l col) (a:Tok):columnV c (ownR l col a l.length) (thJ l col l.length)=(colZ c l col,0):=by
 have hb:=hg.hb
 have hn:=hg.hn
 refine columnV_Z hc hbs hg.ok.len (by omega) hco (ownR_len _ _ _ _) (thJ_len _ _ _) (fun i hi=>?_) (fun i hi h0=>?_)
 ·unfold thA thJ
  rw [List.getD_eq_getElem?_getD,List.getElem?_map,List.getElem?_range hi]
  show decide (i<l.length∧0≤col.getD i (-1))=_
  by_cases h:0≤col.getD i (-1)
  ·rw [decide_eq_true h,decide_eq_true ⟨hi,h⟩]
  ·rw [decide_eq_false h,decide_eq_false (fun h9=>h h9.2)]
 ·have e:(ownR l col a l.length)[i]?=some (tkA (tsA l i).l (col.getD i (-1)).toNat):=by
   unfold ownR
   rw [List.getElem?_map,List.getElem?_range hi,Option.map_some,if_pos hi,if_pos h0]
  unfold tkA at e ⊢
  rw [List.getD_eq_getElem?_getD (l:=ownR l col a l.length),e]
  rfl
theorem columnCostR_spec (c:Costs) (A Ac:Option Addr) (n ca cc:Nat) (l:List TS) (col:List Int) (w:World) (hg:Grp w A n l) (hc:costE c=0) (hbs:badS l=false) (hcs:Src w 1 Ac n (col.map (Value.int .i64))) (hco:ColOk l col) :
  Spec Tryz.prog 110 [c.val, .slice A n ca, .slice Ac n cc] w (fun v R=>v = .int .i64 (colZ c l col)∧R=[]):=by
 have hn:=hg.hn
 subst hn
 have hb:=hg.hb
 refine spec_of sg Tryz.func110 rfl rfl rfl ?_
 refine T_op (OpT.box (cs:=c.cells) rfl rfl rfl rfl rfl rfl rfl (fun pc=>?_))
 repeat' (first|refine d1 ?_|(show ∀ _:Nat,T _ _ _ _ _;intro _))
 refine T_cutX 1 [7,8] (fun s:Nat × Nat=>[(7, .slice (some ⟨s.1,0,none⟩) l.length l.length),(8, .slice (some ⟨s.2,0,none⟩) l.length l.length)]) (fun s=>[blk s.1 (madeCells (noTok.val).cells (l.length * (noTok.val).cells.size)).toList 79,blk s.2 (List.replicate l.length (.bool false)) 4,blk pc c.cells 23]) (fun _=>True) ?_ ?_
 ·refine dw0 1000 [blk pc c.cells 23] ?_
  repeat' (first|(show T _ (.draw _ _ _ _ _::_) _ _ _;first|refine dw1 ?_|refine dwb rfl (by decide +kernel) ?_)|(show AllL _ [];exact True.intro)|(show AllL _ (_::_);refine ⟨?_,?_⟩)|(show OpT _ _ _ _ _ _ _;first|refine dwx ?_|refine OpT.makeC rfl rfl rfl rfl rfl rfl (by dsimp only;omega) (fun b2=>⟨fun _=>(by first|exact Hle.none _|exact Hle.sub|exact absurd ‹_› (by decide +kernel)),?_⟩)|refine OpT.make rfl rfl rfl rfl rfl rfl rfl rfl rfl (by dsimp only;omega) (fun b3=>⟨fun _=>(by first|exact Hle.none _|exact Hle.sub|exact absurd ‹_› (by decide +kernel)),?_⟩))|(show ∀ _:Nat,T _ _ _ _ _;intro _)|(show T _ (.mark _::_) _ _ _;exact T_meetX (_,_) trivial (hG:=by exact Hle.srt)))
 rintro⟨b2,b3⟩ _
 dsimp only
 refine T_le (H':=[blk b2 ((List.replicate l.length noTok).flatMap Tok.cells) 79,blk b3 ((thJ l col 0).map Value.bool) 4,blk pc c.cells 23]) (by rw [thJ_zero,made_toks,List.map_replicate];exact Hle.refl _) ?_
 repeat' (first|refine d1 ?_|refine dd ?_|(show ∀ _:Nat,T _ _ _ _ _;intro _))
 rename_i b9
 refine T_loopX (fun s:Nat × Tok=>[(10, .int .i64 (s.1:Nat))]) (fun s=>[blk b9 s.2.cells 79,blk b2 ((List.replicate l.length noTok).flatMap Tok.cells) 79,blk b3 ((thJ l col 0).map Value.bool) 4,blk pc c.cells 23]) (fun s=>s.1≤l.length) (fun s=>l.length - s.1) (0,noTok) (Nat.zero_le _) ?_
 rintro⟨k,a⟩ hk
 dsimp only at hk ⊢
 repeat' (first|refine d1 ?_|refine dd ?_|(show ∀ _:Nat,T _ _ _ _ _;intro _))
 refine T_if rfl (fun h=>?_) (fun h=>?_)
 ·simp only [decide_eq_true_eq] at h
  have hkn:k<l.length:=by omega
  obtain⟨b1,o1,rfl⟩:=hcs.base (by omega)
  obtain⟨b,o,rfl⟩:=hg.hs.base (by omega)
  obtain⟨s,hs,hsmem,hr⟩:=hg.get hkn
  obtain⟨z,hz⟩:∃ z,col[k]?=some z:=⟨_,List.getElem?_eq_getElem (by have:=hco.1;omega)⟩
  have hr1:=src_int hcs hkn hz
  obtain⟨hz1,hz2⟩:=hco.2 k z s hz hs
  have hsl:=hg.ok.len s hsmem
  have hsn:=hg.nb s hsmem
  repeat' (first|refine d1 ?_|refine dd ?_|(show ∀ _:Nat,T _ _ _ _ _;intro _))
  refine T_if rfl (fun h1=>?_) (fun h1=>?_)
  ·simp only [decide_eq_true_eq] at h1
   obtain⟨b4,o4,hsA⟩:=(hg.ok.src s hsmem).base (by omega)
   have hsr:RdC w b4 (o4+z.toNat * 6) (tkA s.l z.toNat).cells:=(hsA ▸ hg.ok.src s hsmem:Src w 6 (some ⟨b4,o4,none⟩) s.n (s.l.flatMap Tok.cells)).getT (k:=z.toNat) (by omega) (tkA_get (by omega))
   rw [hsA] at hr
   repeat' (first|refine d1 ?_|refine dd ?_|(show T _ (.run _ _ (_::_) _ _::_) _ _ _;refine ro rfl rfl (OpT.storeA (us:=(tkA s.l z.toNat).cells) rfl rfl rfl rfl rfl rfl (by show 0+6≤6;omega) ⟨fun hlv=>absurd hlv (by decide +kernel),?_⟩))|(show ∀ _:Nat,T _ _ _ _ _;intro _))
   exact T_backX (k+1,tkA s.l z.toNat) (by dsimp only;omega) (by dsimp only;omega)
  ·repeat' (first|refine d1 ?_|refine dd ?_|(show ∀ _:Nat,T _ _ _ _ _;intro _))
   exact T_backX (k+1,a) (by dsimp only;omega) (by dsimp only;omega)
 simp only [decide_eq_false_iff_not] at h
 clear h hk
 repeat' (first|refine d1 ?_|refine dd ?_|(show ∀ _:Nat,T _ _ _ _ _;intro _))
 refine T_loopX (fun q:Nat=>[(11, .int .i64 (q:Nat))]) (fun q=>[blk b9 a.cells 79,blk b2 ((ownR l col a q).flatMap Tok.cells) 79,blk b3 ((thJ l col q).map Value.bool) 4,blk pc c.cells 23]) (fun q=>q≤l.length) (fun q=>l.length - q) 0 (Nat.zero_le _) ?_ (hG:=by rw [ownR_zero];exact Hle.refl _)
 rintro q hq
 repeat' (first|refine d1 ?_|refine dd ?_|(show ∀ _:Nat,T _ _ _ _ _;intro _))
 refine T_if rfl (fun h=>?_) (fun h=>?_)
 ·simp only [decide_eq_true_eq] at h
  have hqn:q<l.length:=by omega
  obtain⟨b1,o1,rfl⟩:=hcs.base (by omega)
  obtain⟨b,o,rfl⟩:=hg.hs.base (by omega)
  obtain⟨s,hs,hsmem,hr⟩:=hg.get hqn
  obtain⟨z,hz⟩:∃ z,col[q]?=some z:=⟨_,List.getElem?_eq_getElem (by have:=hco.1;omega)⟩
  have hr1:=src_int hcs hqn hz
  obtain⟨hz1,hz2⟩:=hco.2 q z s hz hs
  have hsl:=hg.ok.len s hsmem
  have hsn:=hg.nb s hsmem
  have hzd:col.getD q (-1)=z:=by rw [List.getD_eq_getElem?_getD,hz];rfl
  repeat' (first|refine d1 ?_|refine dd ?_|(show T _ (.ops _ (_::_)::_) _ _ _;refine T_op (OpT.storeA (us:=a.cells) rfl rfl rfl rfl rfl rfl (by rw [flatT_length,ownR_len,show a.cells.length=6 from rfl];omega) ?_))|(show ∀ _:Nat,T _ _ _ _ _;intro _))
  have e1:setL ((ownR l col a q).flatMap Tok.cells) (0+(q:Int).toNat * 6) a.cells=((ownR l col a q).set q a).flatMap Tok.cells:=by rw [show 0+(q:Int).toNat * 6=q * 6 by omega,flatTok_set _ _ _ (by rw [ownR_len];exact hqn)]
  rw [e1]
  refine T_if rfl (fun h1=>?_) (fun h1=>?_)
  ·simp only [decide_eq_true_eq] at h1
   obtain⟨b4,o4,hsA⟩:=(hg.ok.src s hsmem).base (by omega)
   have hsr:RdC w b4 (o4+z.toNat * 6) (tkA s.l z.toNat).cells:=(hsA ▸ hg.ok.src s hsmem:Src w 6 (some ⟨b4,o4,none⟩) s.n (s.l.flatMap Tok.cells)).getT (k:=z.toNat) (by omega) (tkA_get (by omega))
   rw [hsA] at hr
   have e2:=ownR_set (l:=l) (col:=col) (a:=a) (x:=tkA s.l z.toNat) hqn (by rw [hzd,if_pos h1,tsA_eq hs])
   have e3:=thJ_tok (l:=l) (col:=col) hqn (by rw [hzd];exact h1)
   have e4:setL (((ownR l col a q).set q a).flatMap Tok.cells) (0+(q:Int).toNat * 6) (tkA s.l z.toNat).cells=(ownR l col a (q+1)).flatMap Tok.cells:=by rw [show 0+(q:Int).toNat * 6=q * 6 by omega,flatTok_set _ _ _ (by rw [List.length_set,ownR_len];exact hqn),List.set_set,e2]
   have e5:((thJ l col q).map Value.bool).set (0+(q:Int).toNat * 1) (.bool true)=(thJ l col (q+1)).map Value.bool:=by rw [← e3,List.map_set,show 0+(q:Int).toNat * 1=q by omega]
   refine T_cutX 1 [] (fun _:Unit=>[]) (fun _=>[blk b9 a.cells 79,blk b2 ((ownR l col a (q+1)).flatMap Tok.cells) 79,blk b3 ((thJ l col (q+1)).map Value.bool) 4,blk pc c.cells 23]) (fun _=>True) ?_ ?_
   ·refine dw0 1000 [] ?_
    repeat' (first|(show T _ (.draw _ _ _ _ _::_) _ _ _;first|refine dw1 ?_|refine dwv rfl (by decide +kernel) rfl rfl (Val.load rfl (fun hg=>rdOld hr)) rfl rfl rfl ?_|refine dwg rfl (by decide +kernel) rfl rfl (Val.load rfl (fun hg=>rdOld hr)) rfl rfl rfl rfl rfl ?_|refine dwv rfl (by decide +kernel) rfl rfl (Val.load rfl (fun hg=>rdOld hr1)) rfl rfl rfl ?_|refine dwg rfl (by decide +kernel) rfl rfl (Val.load rfl (fun hg=>rdOld hr1)) rfl rfl rfl rfl rfl ?_|refine dwv rfl (by decide +kernel) rfl rfl (Val.loadA (vs:=(tkA s.l z.toNat).cells) rfl (fun _=>rdOld hsr) rfl) rfl rfl rfl ?_|refine dwg rfl (by decide +kernel) rfl rfl (Val.loadA (vs:=(tkA s.l z.toNat).cells) rfl (fun _=>rdOld hsr) rfl) rfl rfl rfl rfl rfl ?_|refine dwb rfl (by decide +kernel) ?_)|(show AllL _ [];exact True.intro)|(show AllL _ (_::_);refine ⟨?_,?_⟩)|(show OpT _ _ _ _ _ _ _;first|refine dwx ?_|refine OpT.ofVal rfl (Val.load rfl (fun hg=>rdOld hr)) rfl rfl rfl ⟨fun _=>(by first|exact Hle.none _|exact Hle.sub|exact absurd ‹_› (by decide +kernel)),?_⟩|refine OpT.ofVal rfl (Val.load rfl (fun hg=>rdOld hr1)) rfl rfl rfl ⟨fun _=>(by first|exact Hle.none _|exact Hle.sub|exact absurd ‹_› (by decide +kernel)),?_⟩|refine OpT.ofVal rfl (Val.loadA (vs:=(tkA s.l z.toNat).cells) rfl (fun _=>rdOld hsr) rfl) rfl rfl rfl ⟨fun _=>(by first|exact Hle.none _|exact Hle.sub|exact absurd ‹_› (by decide +kernel)),?_⟩|refine OpT.storeA (us:=(tkA s.l z.toNat).cells) rfl rfl rfl rfl rfl rfl (by rw [flatT_length,List.length_set,ownR_len,show (tkA s.l z.toNat).cells.length=6 from rfl];omega) ⟨fun _=>Hle.none _,?_⟩|refine OpT.store rfl rfl rfl rfl (by rw [List.length_map,thJ_len];omega) ⟨fun _=>Hle.none _,?_⟩)|(show ∀ _:Nat,T _ _ _ _ _;intro _)|(show T _ (.mark _::_) _ _ _;exact T_meetX () trivial (hG:=by rw [e4,e5];exact Hle.refl _)))
   rintro - -
   repeat' (first|refine d1 ?_|refine dd ?_|(show ∀ _:Nat,T _ _ _ _ _;intro _))
   exact T_backX (q+1) (by omega) (by omega)
  ·simp only [decide_eq_false_iff_not] at h1
   have e2:=ownR_set (l:=l) (col:=col) (a:=a) (x:=a) hqn (by rw [hzd,if_neg h1])
   repeat' (first|refine d1 ?_|refine dd ?_|(show ∀ _:Nat,T _ _ _ _ _;intro _))
   exact T_backX (q+1) (by omega) (by omega) (hG:=by rw [e2,thJ_gap (by rw [hzd];exact h1)];exact Hle.refl _)
 ·simp only [decide_eq_false_iff_not] at h
  obtain rfl:q=l.length:=by omega
  repeat' (first|refine d1 ?_|refine dd ?_|(show T _ (.ops _ (_::_)::_) _ _ _;first|refine T_call rfl rfl rfl rfl rfl (fun w hw=>columnRef_spec c (some ⟨b2,0,none⟩) (some ⟨b3,0,none⟩) l.length l.length l.length l.length (ownR l col a l.length) (thJ l col l.length) w (Src.own hw (by rw [flatT_length,ownR_len])) (ownR_len _ _ _ _) (by omega) (Src.own hw (by rw [List.length_map,thJ_len,Nat.mul_one])) (thJ_len _ _ _) (by omega)) ?_|refine T_callC rfl rfl rfl rfl rfl rfl rfl (fun hg w hw=>columnRef_spec c (some ⟨b2,0,none⟩) (some ⟨b3,0,none⟩) l.length l.length l.length l.length (ownR l col a l.length) (thJ l col l.length) w (Src.own hw (by rw [flatT_length,ownR_len])) (ownR_len _ _ _ _) (by omega) (Src.own hw (by rw [List.length_map,thJ_len,Nat.mul_one])) (thJ_len _ _ _) (by omega)) ?_)|(show T _ (.run _ _ (_::_) _ _::_) _ _ _;first|refine rc rfl rfl rfl rfl rfl rfl rfl (fun w hw=>columnRef_spec c (some ⟨b2,0,none⟩) (some ⟨b3,0,none⟩) l.length l.length l.length l.length (ownR l col a l.length) (thJ l col l.length) w (Src.own hw (by rw [flatT_length,ownR_len])) (ownR_len _ _ _ _) (by omega) (Src.own hw (by rw [List.length_map,thJ_len,Nat.mul_one])) (thJ_len _ _ _) (by omega)) ?_|refine rcG rfl rfl rfl rfl rfl rfl rfl rfl rfl (fun hg w hw=>columnRef_spec c (some ⟨b2,0,none⟩) (some ⟨b3,0,none⟩) l.length l.length l.length l.length (ownR l col a l.length) (thJ l col l.length) w (Src.own hw (by rw [flatT_length,ownR_len])) (ownR_len _ _ _ _) (by omega) (Src.own hw (by rw [List.length_map,thJ_len,Nat.mul_one])) (thJ_len _ _ _) (by omega)) ?_)|(show ∀ _:Nat,T _ _ _ _ _;intro _))
  rw [ownR_colV hg hc hbs hco]
  repeat' (first|refine d1 ?_|refine dd ?_|(show ∀ _:Nat,T _ _ _ _ _;intro _)|(show T _ (.code .ret::_) _ _ _;refine T_retV [] rfl (Hle.none _) ⟨rfl,rfl⟩))
end Go.Proofs.YtmenjpmikhajfaaGreatDoor
namespace Go.Proofs.YtmenjpmikhajfaaGreatDoor
open Go.RowKit Go.Shelf Go.Proofs
set_option maxRecDepth 100000
set_option maxHeartbeats 1000000

theorem numL_app1:∀ {a b:List Nat} (x y:Nat),a.length=b.length→numL (a++[x]) (b++[y])=numL a b * (x+1)+y
 | [],[],x,y,_=>by show y * 1+0=0 * (x+1)+y;omega
 | n::a,c::b,x,y,h=>by
  show c * volL (a++[x])+numL (a++[x]) (b++[y])=(c * volL a+numL a b) * (x+1)+y
  rw [numL_app1 x y (by simpa using h),volL_app,Nat.add_mul,Nat.mul_assoc]
  have:volL [x]=x+1:=Nat.mul_one _
  rw [this];omega
 | [],c::b,_,_,h=>by simp at h
 | n::a,[],_,_,h=>by simp at h
theorem InB.take:∀ {ls v:List Nat},InB ls v→∀ k,InB (ls.take k) (v.take k)
 | [],[],_,k=>by simp [InB]
 | n::ls,a::v,h,0=>trivial
 | n::ls,a::v,h,k+1=>⟨h.1,InB.take h.2 k⟩
 | [],a::v,h,_=>h.elim
 | n::ls,[],h,_=>h.elim
theorem numP_lt {ls v:List Nat} (h:InB ls v) (k:Nat):numL (ls.take k) (v.take k)<volL ls:=Nat.lt_of_lt_of_le (numL_lt (h.take k)) (volL_take ls k)
theorem numP_succ {ls v:List Nat} (h:InB ls v) {k n a:Nat} (hk:ls[k]?=some n) (ha:v[k]?=some a):numL (ls.take (k+1)) (v.take (k+1))=numL (ls.take k) (v.take k) * (n+1)+a:=by
 have hl:=h.len
 rw [take_snoc _ _ _ hk,take_snoc _ _ _ ha,numL_app1 _ _ (by rw [List.length_take,List.length_take,hl])]
theorem intN_get {v:List Nat} {k a:Nat} (h:v[k]?=some a):(intN v)[k]?=some (a:Int):=by unfold intN;rw [List.getElem?_map,h];rfl
theorem intN_len (v:List Nat):(intN v).length=v.length:=by unfold intN;rw [List.length_map]
theorem place19R_spec (A At:Option Addr) (n ca ct:Nat) (l:List TS) (v:List Nat) (w:World) (hg:Grp w A n l) (hv:InB (lens l) v) (hV:volL (lens l)≤1000000) (hs:Src w 1 At n ((intN v).map (Value.int .i64))) :
  Spec Tryz.prog 108 [.slice A n ca, .slice At n ct] w (fun u R=>u = .int .i64 (numL (lens l) v:Nat)∧R=[]):=by
 have hn:=hg.hn
 have hb:=hg.hb
 have hll:=lens_len l
 have hvl:=hv.len
 refine spec_of sg Tryz.func108 rfl rfl rfl ?_
 repeat' (first|refine d1 ?_|refine dd ?_|(show ∀ _:Nat,T _ _ _ _ _;intro _))
 refine T_loopX (fun k:Nat=>[(6, .int .i64 (k:Nat)),(5, .int .i64 (numL ((lens l).take k) (v.take k):Nat))]) (fun _=>[]) (fun k=>k≤n) (fun k=>n - k) 0 (Nat.zero_le _) ?_
 intro k hk
 have hlt:=numP_lt hv k
 repeat' (first|refine d1 ?_|refine dd ?_|(show ∀ _:Nat,T _ _ _ _ _;intro _))
 refine T_if rfl (fun h=>?_) (fun h=>?_)
 ·simp only [decide_eq_true_eq] at h
  have hkn:k<n:=by omega
  obtain⟨b,o,rfl⟩:=hg.hs.base (by omega)
  obtain⟨ba,oa,rfl⟩:=hs.base (by omega)
  obtain⟨t,ht,htm,hrt⟩:=hg.get (k:=k) hkn
  obtain⟨a,ha⟩:∃ a,v[k]?=some a:=⟨_,List.getElem?_eq_getElem (by omega)⟩
  have hra:=src_int hs hkn (intN_get ha)
  have htb:=hg.nb t htm
  have hst:=numP_succ hv (lens_get ht) ha
  have hlt2:=numP_lt hv (k+1)
  have e:((numL ((lens l).take k) (v.take k):Nat):Int) * ((t.n:Int)+1)=((numL ((lens l).take k) (v.take k) * (t.n+1):Nat):Int):=by simp
  have e2:((numL ((lens l).take (k+1)) (v.take (k+1)):Nat):Int)=((numL ((lens l).take k) (v.take k):Nat):Int) * ((t.n:Int)+1)+(a:Int):=by rw [hst];simp
  generalize numL ((lens l).take k) (v.take k)=q at hlt hst e e2 ⊢
  repeat' (first|refine d1 ?_|refine dd ?_|(show ∀ _:Nat,T _ _ _ _ _;intro _))
  exact T_backX (k+1) (by omega) (by omega) (hE:=⟨rfl,by rw [e2];rfl,trivial⟩)
 ·simp only [decide_eq_false_iff_not] at h
  obtain rfl:k=n:=by omega
  rw [List.take_of_length_le (by omega),List.take_of_length_le (by omega)]
  repeat' (first|refine d1 ?_|refine dd ?_|(show ∀ _:Nat,T _ _ _ _ _;intro _)|(show T _ (.code .ret::_) _ _ _;refine T_retV [] rfl (Hle.none _) ⟨rfl,rfl⟩))
theorem valV_neg (n:Nat):valV (fun q=>if q<n then (-1:Int) else 0) n=List.replicate n (.int .i64 (-1)):=by
 unfold valV
 refine List.eq_replicate_iff.2 ⟨by simp,fun x hx=>?_⟩
 obtain⟨q,hq,rfl⟩:=List.mem_map.1 hx
 show Value.int .i64 (if q<n then (-1:Int) else 0)=_
 rw [if_pos (List.mem_range.1 hq)]
theorem column19R_spec (A At Am:Option Addr) (n ca ct cm:Nat) (l:List TS) (v m:List Nat) (w:World) (hg:Grp w A n l) (hv:InB (lens l) v) (hm:∀ s∈m,s<n) (hml:m.length≤1000) (hs:Src w 1 At n ((intN v).map (Value.int .i64))) (hms:Src w 1 Am m.length ((intN m).map (Value.int .i64))) :
  Spec Tryz.prog 109 [.slice A n ca, .slice At n ct, .slice Am m.length cm] w (fun u R=>∃ b:Nat,(possM (lens l) v m=true∧u = .tuple #[.slice (some ⟨b,0,none⟩) n n, .bool true]∧R=[row 3 1 (some ⟨b,0,none⟩) n n ((colT v m).map (Value.int .i64))])∨(possM (lens l) v m=false∧u = .tuple #[.slice none 0 0, .bool false]∧R=[])):=by
 have hn:=hg.hn
 have hb:=hg.hb
 have hll:=lens_len l
 have hvl:=hv.len
 refine spec_of sg Tryz.func109 rfl rfl rfl ?_
 repeat' (first|refine d1 ?_|refine dd ?_|(show T _ (.ops _ (_::_)::_) _ _ _;refine T_op (OpT.make rfl rfl rfl rfl rfl rfl rfl rfl rfl (by dsimp only;omega) (fun b1=>?_)))|(show ∀ _:Nat,T _ _ _ _ _;intro _))
 have hz:List.replicate n (Value.int .i64 0)=valV (fun q=>if q<0 then (-1:Int) else 0) n:=by
  rw [valV_replicate];exact valV_ext fun q _=>by rw [if_neg (by omega)]
 refine T_loopX (fun k:Nat=>[(9, .int .i64 (k:Nat))]) (fun k=>[blk b1 (valV (fun q=>if q<k then (-1:Int) else 0) n) 3]) (fun k=>k≤n) (fun k=>n - k) 0 (Nat.zero_le _) ?_ (hG:=by rw [← hz];exact Hle.refl _)
 intro k hk
 repeat' (first|refine d1 ?_|refine dd ?_|(show ∀ _:Nat,T _ _ _ _ _;intro _))
 refine T_if rfl (fun h=>?_) (fun h=>?_)
 ·simp only [decide_eq_true_eq] at h
  repeat' (first|refine d1 ?_|refine dd ?_|(show T _ (.ops _ (_::_)::_) _ _ _;refine T_op (OpT.store rfl rfl rfl rfl (by rw [valV_length];omega) ?_))|(show ∀ _:Nat,T _ _ _ _ _;intro _))
  refine T_backX (k+1) (by omega) (by omega) (hG:=?_)
  rw [show 0+(k:Int).toNat * 1=k by omega,valV_put]
  have e:valV (fun q=>if q=k then (-1:Int) else if q<k then -1 else 0) n=valV (fun q=>if q<k+1 then (-1:Int) else 0) n:=valV_ext fun q _=>by
   by_cases e:q=k
   ·rw [if_pos e,if_pos (by omega)]
   ·rw [if_neg e]
    by_cases e2:q<k
    ·rw [if_pos e2,if_pos (by omega)]
    ·rw [if_neg e2,if_neg (by omega)]
  rw [e]
  exact Hle.refl _
 simp only [decide_eq_false_iff_not] at h
 obtain rfl:k=n:=by omega
 have hz0:valV (fun q=>if q<k then (-1:Int) else 0) k=(colMv v (m.take 0) (List.replicate k (-1))).map (Value.int .i64):=by rw [valV_neg,List.take_zero];unfold colMv;rw [List.map_replicate]
 rw [hz0]
 repeat' (first|refine d1 ?_|refine dd ?_|(show ∀ _:Nat,T _ _ _ _ _;intro _))
 refine T_loopX (fun s:Nat=>[(10, .int .i64 (s:Nat))]) (fun s=>[blk b1 ((colMv v (m.take s) (List.replicate k (-1))).map (Value.int .i64)) 3]) (fun s=>s≤m.length∧possM (lens l) v (m.take s)=true) (fun s=>m.length - s) 0 ⟨Nat.zero_le _,by rw [List.take_zero];rfl⟩ ?_
 rintro s ⟨hsm,hpo⟩
 have hcl:((colMv v (m.take s) (List.replicate k (-1))).map (Value.int .i64)).length=k:=by rw [List.length_map,colMv_len,List.length_replicate]
 repeat' (first|refine d1 ?_|refine dd ?_|(show ∀ _:Nat,T _ _ _ _ _;intro _))
 refine T_if rfl (fun h2=>?_) (fun h2=>?_)
 ·simp only [decide_eq_true_eq] at h2
  have hsl:s<m.length:=by omega
  obtain⟨u,hu⟩:∃ u,m[s]?=some u:=⟨_,List.getElem?_eq_getElem hsl⟩
  have hun:=hm u (List.mem_of_getElem? hu)
  obtain⟨b,o,rfl⟩:=hg.hs.base (by omega)
  obtain⟨ba,oa,rfl⟩:=hs.base (by omega)
  obtain⟨bm,om,rfl⟩:=hms.base (by omega)
  obtain⟨t,ht,htm,hrt⟩:=hg.get (k:=u) hun
  obtain⟨a,ha⟩:∃ a,v[u]?=some a:=⟨_,List.getElem?_eq_getElem (by omega)⟩
  have hra:=src_int hs hun (intN_get ha)
  have hrm:=src_int hms hsl (intN_get hu)
  have htk:=take_snoc _ _ _ hu
  have hgv:v.getD u 0=a:=by rw [List.getD_eq_getElem?_getD,ha];rfl
  have hgl:(lens l).getD u 0=t.n:=by rw [List.getD_eq_getElem?_getD,lens_get ht];rfl
  have hps:possM (lens l) v (m.take (s+1))=decide (a<t.n):=by rw [htk,possM_snoc,hpo,hgv,hgl];rfl
  repeat' (first|refine d1 ?_|refine dd ?_|(show ∀ _:Nat,T _ _ _ _ _;intro _))
  refine T_if rfl (fun h3=>?_) (fun h3=>?_)
  ·have hno:possM (lens l) v m=false:=by
    rw [← Bool.not_eq_true]
    intro h9
    have h8:=possM_iff.1 h9 u (List.mem_of_getElem? hu)
    rw [hgv,hgl] at h8
    simp at h3
    omega
   repeat' (first|refine d1 ?_|refine dd ?_|(show ∀ _:Nat,T _ _ _ _ _;intro _)|(show T _ (.code .ret::_) _ _ _;refine T_retV [] rfl (Hle.none _) ⟨0, .inr ⟨hno,rfl,rfl⟩⟩))
  ·have hyes:a<t.n:=by simp at h3;omega
   repeat' (first|refine d1 ?_|refine dd ?_|(show T _ (.run _ _ (_::_) _ _::_) _ _ _;refine ro rfl rfl (OpT.store rfl rfl rfl rfl (by rw [hcl];omega) ⟨fun hlv=>absurd hlv (by decide +kernel),?_⟩))|(show ∀ _:Nat,T _ _ _ _ _;intro _))
   refine T_backX (s+1) ⟨by omega,by rw [hps];exact decide_eq_true hyes⟩ (by omega) (hG:=?_)
   rw [htk,colMv_snoc,List.map_set,hgv,show 0+(u:Int).toNat * 1=u by omega]
   exact Hle.refl _
 ·simp only [decide_eq_false_iff_not] at h2
  obtain rfl:s=m.length:=by omega
  rw [List.take_length] at hpo hcl ⊢
  have hct:colMv v m (List.replicate k (-1))=colT v m:=by unfold colT;rw [hvl,hll,hn]
  rw [hct] at hcl ⊢
  refine T_blk_rowh 1 k (by rw [hcl];omega) (by omega) ?_
  repeat' (first|refine d1 ?_|refine dd ?_|(show ∀ _:Nat,T _ _ _ _ _;intro _)|(show T _ (.code .ret::_) _ _ _;refine T_retV _ rfl (Hle.refl _) ⟨b1, .inl ⟨hpo,rfl,rfl⟩⟩))
theorem toM_snoc:∀ (m v:List Nat) (u:Nat),toM v (m++[u])=(toM v m).set u ((toM v m).getD u 0+1)
 | [],v,u=>rfl
 | s::m,v,u=>toM_snoc m (v.set s (v.getD s 0+1)) u
theorem intN_set (v:List Nat) (u x:Nat):intN (v.set u x)=(intN v).set u (x:Int):=by unfold intN;rw [List.map_set]
theorem behind19R_spec (At Am:Option Addr) (n ct cm:Nat) (v m:List Nat) (w:World) (hvl:v.length=n) (hn:n≤1000) (hvb:∀ x∈v,x≤1000000) (hm:∀ s∈m,s<n) (hml:m.length≤1000) (hs:Src w 1 At n ((intN v).map (Value.int .i64))) (hms:Src w 1 Am m.length ((intN m).map (Value.int .i64))) :
  Spec Tryz.prog 111 [.slice At n ct, .slice Am m.length cm] w (fun u R=>∃ x:Option Addr × Nat,True∧u = .slice x.1 n x.2∧R=[row 3 1 x.1 x.2 n ((intN (toM v m)).map (Value.int .i64))]):=by
 refine spec_of sg Tryz.func111 rfl rfl rfl ?_
 repeat' (first|refine d1 ?_|refine dd ?_|(show ∀ _:Nat,T _ _ _ _ _;intro _))
 rename_i b7
 refine T_le (H':=[row 3 1 (some ⟨b7,0,none⟩) 0 0 []]) (Hle.weaken (i:=0) rfl (blk_row (sz:=1) (n:=0) rfl (by simp only [maxLen];omega)) rfl) ?_
 repeat' (first|refine d1 ?_|refine dd ?_|(show T _ (.ops _ (_::_)::_) _ _ _;refine T_op (OpT.append (A:=some ⟨b7,0,none⟩) rfl rfl rfl rfl rfl rfl rfl rfl rfl rfl (fun w hw=>src_below hs hw.below) (oneInts _) (by dsimp only;omega) (by omega) (fun A6 cap6 hA6=>?_)))|(show ∀ _:Nat,T _ _ _ _ _;intro _))
 rw [Nat.zero_add,List.nil_append] at *
 have hub:∀ j,j≤1000→∀ (k:Nat),k=j→∀ u,(toM v (m.take k)).getD u 0≤1000000+k:=by
  intro j
  induction j with
  | zero =>
   rintro - k rfl u
   rw [List.take_zero]
   show v.getD u 0≤_
   rw [List.getD_eq_getElem?_getD]
   cases hq:v[u]? with
   | none=>simp
   | some x=>exact Nat.le_trans (hvb x (List.mem_of_getElem? hq)) (Nat.le_add_right _ _)
  | succ j ih =>
   rintro hj k rfl u
   have h9:=ih (by omega) j rfl
   cases hq:m[j]? with
   | none =>
    have:m.take (j+1)=m.take j:=by
     have h8:=List.getElem?_eq_none_iff.1 hq
     rw [List.take_of_length_le (by omega),List.take_of_length_le h8]
    rw [this]
    have:=h9 u
    omega
   | some x =>
    rw [take_snoc _ _ _ hq,toM_snoc]
    have h7:=h9 x
    have h6:=h9 u
    by_cases e:x=u
    ·subst e
     by_cases hx:x<(toM v (m.take j)).length
     ·rw [set_self hx];omega
     ·rw [List.set_eq_of_length_le (by omega)];omega
    ·rw [set_other e];omega
 refine T_loopX (fun s:Nat=>[(6, .int .i64 (s:Nat))]) (fun s=>[row 3 1 A6 cap6 n ((intN (toM v (m.take s))).map (Value.int .i64))]) (fun s=>s≤m.length) (fun s=>m.length - s) 0 (Nat.zero_le _) ?_
 intro s hsm
 repeat' (first|refine d1 ?_|refine dd ?_|(show ∀ _:Nat,T _ _ _ _ _;intro _))
 refine T_if rfl (fun h2=>?_) (fun h2=>?_)
 ·simp only [decide_eq_true_eq] at h2
  have hsl:s<m.length:=by omega
  obtain⟨u,hu⟩:∃ u,m[s]?=some u:=⟨_,List.getElem?_eq_getElem hsl⟩
  have hun:=hm u (List.mem_of_getElem? hu)
  obtain⟨g,rfl⟩:=hA6 (by omega)
  obtain⟨bm,om,rfl⟩:=hms.base (by omega)
  have hrm:=src_int hms hsl (intN_get hu)
  have htk:=take_snoc _ _ _ hu
  have htl:(toM v (m.take s)).length=n:=by rw [toM_len,hvl]
  obtain⟨a,ha⟩:∃ a,(toM v (m.take s))[u]?=some a:=⟨_,List.getElem?_eq_getElem (by omega)⟩
  have hga:(toM v (m.take s)).getD u 0=a:=by rw [List.getD_eq_getElem?_getD,ha];rfl
  have hab:=hub s (by omega) s rfl u
  rw [hga] at hab
  repeat' (first|refine d1 ?_|refine dd ?_|(show T _ (.ops _ (_::_)::_) _ _ _;first|refine T_val rfl (Val.load rfl (fun hg=>(fun w hw=>src_int (srcRw w hw) hun (intN_get ha)))) rfl rfl rfl ?_|refine T_valC rfl (Val.load rfl (fun hg=>(fun w hw=>src_int (srcRw w hw) hun (intN_get ha)))) rfl rfl rfl rfl rfl ?_|refine T_op (OpT.storeR (us:=[.int .i64 ((a:Int)+1)]) rfl rfl rfl rfl rfl rfl (by show 0+(u:Int).toNat * 1+1≤n * 1;omega) ?_))|(show T _ (.run _ _ (_::_) _ _::_) _ _ _;first|refine rv rfl rfl rfl (Val.load rfl (fun hg=>(fun w hw=>src_int (srcRw w hw) hun (intN_get ha)))) rfl rfl rfl ?_|refine rg rfl rfl rfl (Val.load rfl (fun hg=>(fun w hw=>src_int (srcRw w hw) hun (intN_get ha)))) rfl rfl rfl rfl rfl ?_)|(show ∀ _:Nat,T _ _ _ _ _;intro _))
  refine T_backX (s+1) (by omega) (by omega) (hG:=?_)
  rw [htk,toM_snoc,hga,intN_set,List.map_set,show 0+(u:Int).toNat * 1=u by omega]
  exact Hle.refl _
 ·simp only [decide_eq_false_iff_not] at h2
  obtain rfl:s=m.length:=by omega
  rw [List.take_length]
  repeat' (first|refine d1 ?_|refine dd ?_|(show ∀ _:Nat,T _ _ _ _ _;intro _)|(show T _ (.code .ret::_) _ _ _;refine T_retV _ rfl (Hle.refl _) ⟨(A6,cap6),trivial,rfl,rfl⟩))
end Go.Proofs.YtmenjpmikhajfaaGreatDoor
namespace Go.Proofs.YtmenjpmikhajfaaGreatDoor
open Go.RowKit Go.Shelf Go.Proofs
set_option maxRecDepth 100000
set_option maxHeartbeats 1000000

def goodK (F:Nat→Int) (V:Nat) (L:List Int):Prop:=L.length=V∧∀ (q:Nat) (z:Int),L[q]?=some z→z = -1∨z=F q
theorem srcRH {w0 w:World} {H:List HA} {A:Option Addr} {e sz cap n:Nat} {xs:List Value} {rb:HA→List HA} [FocusR H A e sz cap n xs rb] (hw:Cls w0 w H):Src w sz A n xs :=
 srcRw (C:=⟨sg,⟨0,[]⟩,w0,none,fun _ _=>True,fun _ _=>True,fun _ _ _=>True⟩) (e:=e) (cap:=cap) (rb:=rb) w hw
theorem goodK.put {F:Nat→Int} {V:Nat} {L:List Int} (h:goodK F V L) (p:Nat):goodK F V (L.set p (F p)):=by
 refine ⟨by rw [List.length_set];exact h.1,fun q z hz=>?_⟩
 by_cases e:p=q
 ·subst e
  rw [List.getElem?_set] at hz
  simp only [if_true] at hz
  split at hz
  ·injection hz with hz;exact .inr hz.symm
  ·cases hz
 ·rw [List.getElem?_set_ne e] at hz
  exact h.2 q z hz
theorem rsV_max {K:List Int→Int} (hK:∀ x,0≤K x) {ls:List Nat} {n:Nat} {Ms:List (List Nat)} (hM:MvsOk n Ms) (hn:ls.length=n) {v:List Nat} (hv:InB ls v):max (foldB (possM ls v) (mcV K ls Ms v) Ms (-1)) 0=rsV K ls Ms v:=by
 by_cases he:v=ls
 ·subst he
  rw [foldB_none (poss_none hM hn hv (Nat.sub_self _)),rsV_end];rfl
 ·rw [← rsV_step hK hM hn hv he]
  have:=rsV_nn K ls Ms v
  omega
theorem rest19_spec {c:Costs} {A:Option Addr} {n ca:Nat} {l:List TS} {w0:World} (hg:Grp w0 A n l) (hc:costE c=0) (hbs:badS l=false) (h1:1≤n) (h4:n≤4) (hV:volL (lens l)≤65536):∀ (d:Nat) (v:List Nat) (At:Option Addr) (ct b9:Nat) (L:List Int) (K:List HA),InB (lens l) v→sumL (lens l) - sumL v=d →
  goodK (fun q=>rsV (colZ c l) (lens l) (mvL n) (atL (lens l) q)) (volL (lens l)) L→(∀ w,Cls w0 w K→Src w 1 At n ((intN v).map (Value.int .i64))) →
  SpecB Tryz.prog 107 [c.val, .slice A n ca, .slice (some ⟨b9,0,none⟩) (volL (lens l)) (volL (lens l)), .slice At n ct] w0 (blk b9 (L.map (Value.int .i64)) 3::K)
   (fun u R=>∃ L':List Int,goodK (fun q=>rsV (colZ c l) (lens l) (mvL n) (atL (lens l) q)) (volL (lens l)) L'∧u = .int .i64 (rsV (colZ c l) (lens l) (mvL n) v)∧R=blk b9 (L'.map (Value.int .i64)) 3::K):=by
 have hn:=hg.hn
 have hll:=lens_len l
 have hno:=mvL_ok h1 h4
 have hlsn:(lens l).length=n:=by omega
 have hn4:l.length≤4:=by omega
 have hKn:=colZ_nn hc hn4
 have hm15:(mvL n).length≤15:=by
  obtain rfl|rfl|rfl|rfl:n=1∨n=2∨n=3∨n=4:=by omega
  all_goals decide
 obtain⟨V,hVe⟩:∃ V,V=volL (lens l):=⟨_,rfl⟩
 rw [← hVe] at hV ⊢
 have hfub:∀ v,0≤rsV (colZ c l) (lens l) (mvL n) v∧rsV (colZ c l) (lens l) (mvL n) v≤4096000000:=fun v=>rsV_ub hc hn4 hg.nb v _
 intro d
 induction d using Nat.strongRecOn with
 | _ d ih =>
 intro v At ct b9 L K hv hd hL hat
 obtain⟨p,hp⟩:∃ p,p=numL (lens l) v:=⟨_,rfl⟩
 have hpV:p<V:=by rw [hp,hVe];exact numL_lt hv
 have hFp:(fun q=>rsV (colZ c l) (lens l) (mvL n) (atL (lens l) q)) p=rsV (colZ c l) (lens l) (mvL n) v:=by dsimp only;rw [hp,at_num hv]
 obtain⟨z,hz⟩:∃ z,L[p]?=some z:=⟨_,List.getElem?_eq_getElem (by rw [hL.1];exact hpV)⟩
 have hz9:=hL.2 p z hz
 rw [hFp] at hz9
 have hcp:∀ w,RdC w b9 0 (L.map (Value.int .i64))→RdC w b9 (0+(p:Int).toNat * 1) [.int .i64 z]:=fun w h9=>rdAt h9 (by omega) hz
 refine specB_of sg Tryz.func107 rfl rfl rfl ?_
 refine T_op (OpT.box (cs:=c.cells) rfl rfl rfl rfl rfl rfl rfl (fun pc=>?_))
 repeat' (first|refine d1 ?_|refine dd ?_|(show T _ (.ops _ (_::_)::_) _ _ _;first|refine T_call rfl rfl rfl rfl rfl (fun w hw=>place19R_spec A At n ca ct l v w (hg.cls hw) hv (by omega) (hat w (hw.le ((Hle.tail _ _).trans (Hle.tail _ _))))) ?_|refine T_callC rfl rfl rfl rfl rfl rfl rfl (fun hg w hw=>place19R_spec A At n ca ct l v w (hg.cls hw) hv (by omega) (hat w (hw.le ((Hle.tail _ _).trans (Hle.tail _ _))))) ?_)|(show T _ (.run _ _ (_::_) _ _::_) _ _ _;first|refine rc rfl rfl rfl rfl rfl rfl rfl (fun w hw=>place19R_spec A At n ca ct l v w (hg.cls hw) hv (by omega) (hat w (hw.le ((Hle.tail _ _).trans (Hle.tail _ _))))) ?_|refine rcG rfl rfl rfl rfl rfl rfl rfl rfl rfl (fun hg w hw=>place19R_spec A At n ca ct l v w (hg.cls hw) hv (by omega) (hat w (hw.le ((Hle.tail _ _).trans (Hle.tail _ _))))) ?_)|(show ∀ _:Nat,T _ _ _ _ _;intro _))
 rw [← hp]
 repeat' (first|refine d1 ?_|refine dd ?_|(show T _ (.ops _ (_::_)::_) _ _ _;first|refine T_val rfl (Val.load rfl (fun hg=>(fun w hw=>hcp w (rdAll w hw)))) rfl rfl rfl ?_|refine T_valC rfl (Val.load rfl (fun hg=>(fun w hw=>hcp w (rdAll w hw)))) rfl rfl rfl rfl rfl ?_)|(show T _ (.run _ _ (_::_) _ _::_) _ _ _;first|refine rv rfl rfl rfl (Val.load rfl (fun hg=>(fun w hw=>hcp w (rdAll w hw)))) rfl rfl rfl ?_|refine rg rfl rfl rfl (Val.load rfl (fun hg=>(fun w hw=>hcp w (rdAll w hw)))) rfl rfl rfl rfl rfl ?_)|(show ∀ _:Nat,T _ _ _ _ _;intro _))
 refine T_if rfl (fun h=>?_) (fun h=>?_)
 ·simp only [decide_eq_true_eq] at h
  have hzF:z=rsV (colZ c l) (lens l) (mvL n) v:=by omega
  repeat' (first|refine d1 ?_|refine dd ?_|(show T _ (.ops _ (_::_)::_) _ _ _;first|refine T_val rfl (Val.load rfl (fun hg=>(fun w hw=>hcp w (rdAll w hw)))) rfl rfl rfl ?_|refine T_valC rfl (Val.load rfl (fun hg=>(fun w hw=>hcp w (rdAll w hw)))) rfl rfl rfl rfl rfl ?_)|(show T _ (.run _ _ (_::_) _ _::_) _ _ _;first|refine rv rfl rfl rfl (Val.load rfl (fun hg=>(fun w hw=>hcp w (rdAll w hw)))) rfl rfl rfl ?_|refine rg rfl rfl rfl (Val.load rfl (fun hg=>(fun w hw=>hcp w (rdAll w hw)))) rfl rfl rfl rfl rfl ?_)|(show ∀ _:Nat,T _ _ _ _ _;intro _)|(show T _ (.code .ret::_) _ _ _;refine T_retV _ rfl (Hle.tail _ _) ⟨L,hL,by rw [hzF];rfl,rfl⟩))
 clear h hz9 hz hcp
 repeat' (first|refine d1 ?_|refine dd ?_|(show T _ (.ops _ (_::_)::_) _ _ _;refine T_op (OpT.call rfl rfl rfl rfl rfl (fun w hw=>movesR_spec (n:Int) w) (fun xm R hR=>?_)))|(show ∀ _:Nat,T _ _ _ _ _;intro _))
 obtain⟨_,-,rfl,rfl⟩:=hR
 refine T_le (H':=dat [xm] [rowsD ((mvL n).map intN)]::blk pc c.cells 23::blk b9 (L.map (Value.int .i64)) 3::K) (Hle.refl _) ?_
 refine T_open fun pm hM=>?_
 obtain⟨Am,cm,csm,rfl,hm1,hm2,hml,hmr,hrows⟩:=hM.tab
 rw [List.length_map] at hm1 hml hmr ⊢
 refine T_le (H':=blk b9 (L.map (Value.int .i64)) 3::fz pm::blk pc c.cells 23::K) (Hle.srtT (A:=[fz pm,blk pc c.cells 23,blk b9 (L.map (Value.int .i64)) 3]) (K:=[blk b9 (L.map (Value.int .i64)) 3,fz pm,blk pc c.cells 23]) K) ?_
 repeat' (first|refine d1 ?_|refine dd ?_|(show ∀ _:Nat,T _ _ _ _ _;intro _))
 refine T_loopX (fun s:Nat × List Int=>[(12, .int .i64 (s.1:Nat)),(11, .int .i64 (foldB (possM (lens l) v) (mcV (colZ c l) (lens l) (mvL n) v) ((mvL n).take s.1) (-1)))]) (fun s=>blk b9 (s.2.map (Value.int .i64)) 3::fz pm::blk pc c.cells 23::K) (fun s=>s.1≤(mvL n).length∧goodK (fun q=>rsV (colZ c l) (lens l) (mvL n) (atL (lens l) q)) V s.2) (fun s=>(mvL n).length - s.1) (0,L) ⟨Nat.zero_le _,hL⟩ ?_
 rintro⟨i,L⟩ ⟨hi,hL⟩
 dsimp only at hi hL ⊢
 have hmc:∀ m,0≤mcV (colZ c l) (lens l) (mvL n) v m∧mcV (colZ c l) (lens l) (mvL n) v m≤4097024000:=fun m=>by
  have h8:=colZ_bd hc (show l.length≤32 by omega) (colT v m)
  have h9:=hfub (toM v m)
  unfold mcV
  omega
 have hXb : -1≤foldB (possM (lens l) v) (mcV (colZ c l) (lens l) (mvL n) v) ((mvL n).take i) (-1)∧foldB (possM (lens l) v) (mcV (colZ c l) (lens l) (mvL n) v) ((mvL n).take i) (-1)≤4097024000 :=
  ⟨(foldB_spec (p:=possM (lens l) v) (fun m=>(hmc m).1) ((mvL n).take i) (-1) (by omega)).1,foldB_ub (fun m=>(hmc m).2) _ _ (by omega)⟩
 repeat' (first|refine d1 ?_|refine dd ?_|(show ∀ _:Nat,T _ _ _ _ _;intro _))
 refine T_if rfl (fun h2=>?_) (fun h2=>?_)
 ·simp only [decide_eq_true_eq] at h2
  obtain⟨m,hm⟩:∃ m,(mvL n)[i]?=some m:=⟨_,List.getElem?_eq_getElem (by omega)⟩
  have hmm:=List.mem_of_getElem? hm
  have hml4:=pigeon2 n m (hno.nd m hmm) (hno.lt m hmm)
  have hmpos:0<m.length:=List.length_pos_iff.2 (hno.ne m hmm)
  obtain⟨bt,ot,rfl,hrd⟩:=hmr (by omega)
  obtain⟨Ar,capr,hcs,hr1,hr2,hAr⟩:=hrows.tabRow (i:=i) (r:=intN m) (by rw [List.getElem?_map,hm];rfl)
  have hsr:∀ {w':World} {H:List HA} [FocusZ H pm],Cls w0 w' H→Src w' 1 Ar m.length ((intN m).map (Value.int .i64)):=fun {w' H} _ hw=>by
   have h9:=((rd_one hrows hcs (by rw [List.getElem?_map,List.getElem?_map,hm];rfl)).own hw).intsAt
   rwa [intN_len] at h9
  rw [intN_len] at hcs hr1
  have hst9:foldB (possM (lens l) v) (mcV (colZ c l) (lens l) (mvL n) v) ((mvL n).take (i+1)) (-1)=cond (possM (lens l) v m) (bst (foldB (possM (lens l) v) (mcV (colZ c l) (lens l) (mvL n) v) ((mvL n).take i) (-1)) (mcV (colZ c l) (lens l) (mvL n) v m)) (foldB (possM (lens l) v) (mcV (colZ c l) (lens l) (mvL n) v) ((mvL n).take i) (-1)):=by
   rw [take_snoc _ _ _ hm,foldB_app];rfl
  have hmcm:=hmc m
  generalize foldB (possM (lens l) v) (mcV (colZ c l) (lens l) (mvL n) v) ((mvL n).take i) (-1)=X at hst9 hXb ⊢
  repeat' (first|refine d1 ?_|refine dd ?_|(show T _ (.ops _ (_::_)::_) _ _ _;first|refine T_val rfl (Val.load rfl (fun hg=>rdFz (p:=pm) (u := .slice Ar m.length capr) (b:=bt) (by rw [off1];exact hrd i _ hcs))) rfl rfl rfl ?_|refine T_valC rfl (Val.load rfl (fun hg=>rdFz (p:=pm) (u := .slice Ar m.length capr) (b:=bt) (by rw [off1];exact hrd i _ hcs))) rfl rfl rfl rfl rfl ?_|refine T_op (OpT.call rfl rfl rfl rfl rfl (fun w hw=>column19R_spec A At Ar n ca ct capr l v m w (hg.cls hw) hv (hno.lt m hmm) (by omega) (hat w (hw.le ((Hle.tail _ _).trans ((Hle.tail _ _).trans (Hle.tail _ _))))) (hsr hw)) ?_))|(show T _ (.run _ _ (_::_) _ _::_) _ _ _;first|refine rv rfl rfl rfl (Val.load rfl (fun hg=>rdFz (p:=pm) (u := .slice Ar m.length capr) (b:=bt) (by rw [off1];exact hrd i _ hcs))) rfl rfl rfl ?_|refine rg rfl rfl rfl (Val.load rfl (fun hg=>rdFz (p:=pm) (u := .slice Ar m.length capr) (b:=bt) (by rw [off1];exact hrd i _ hcs))) rfl rfl rfl rfl rfl ?_)|(show ∀ _:Nat,T _ _ _ _ _;intro _))
  rintro u R ⟨b,⟨hpo,rfl,rfl⟩|⟨hpo,rfl,rfl⟩⟩
  ·obtain⟨g1,g2,g3,g4⟩:=toM_rem hno hlsn hv hmm hpo
   have hco:=colT_ok (l:=l) (v:=v) (m:=m) (by rw [hv.len,hll]) (fun s hs=>by rw [hn];exact hno.lt m hmm s hs) hpo
   have hKb:=colZ_bd hc (show l.length≤32 by omega) (colT v m)
   have hfq:=hfub (toM v m)
   have hmce:mcV (colZ c l) (lens l) (mvL n) v m=colZ c l (colT v m)+rsV (colZ c l) (lens l) (mvL n) (toM v m):=rfl
   rw [hmce] at hst9 hmcm
   rw [hpo] at hst9
   refine T_le (H':=row 3 1 (some ⟨b,0,none⟩) n n ((colT v m).map (Value.int .i64))::blk b9 (L.map (Value.int .i64)) 3::fz pm::blk pc c.cells 23::K) (Hle.refl _) ?_
   repeat' (first|refine d1 ?_|refine dd ?_|(show ∀ _:Nat,T _ _ _ _ _;intro _))
   refine T_if rfl (fun h3=>by exfalso;simp at h3) (fun _=>?_)
   refine rsH [fz pm,blk pc c.cells 23] 1000 [0,1,2,4,5,6,7,8,9,10,11,3,12,13,14,15] ?_
   repeat' (first|refine d1 ?_|refine dd ?_|(show T _ (.ops _ (_::_)::_) _ _ _;first|refine T_val rfl (Val.load rfl (fun hg=>rdFz (p:=pm) (u := .slice Ar m.length capr) (b:=bt) (by rw [off1];exact hrd i _ hcs))) rfl rfl rfl ?_|refine T_valC rfl (Val.load rfl (fun hg=>rdFz (p:=pm) (u := .slice Ar m.length capr) (b:=bt) (by rw [off1];exact hrd i _ hcs))) rfl rfl rfl rfl rfl ?_|refine T_call rfl rfl rfl rfl rfl (fun w hw=>columnCostR_spec c A (some ⟨b,0,none⟩) n ca n l (colT v m) w (hg.cls hw) hc hbs (srcRw w hw) hco) ?_|refine T_callC rfl rfl rfl rfl rfl rfl rfl (fun hg w hw=>columnCostR_spec c A (some ⟨b,0,none⟩) n ca n l (colT v m) w (hg.cls hw) hc hbs (srcRw w hw) hco) ?_)|(show T _ (.run _ _ (_::_) _ _::_) _ _ _;first|refine rv rfl rfl rfl (Val.load rfl (fun hg=>rdFz (p:=pm) (u := .slice Ar m.length capr) (b:=bt) (by rw [off1];exact hrd i _ hcs))) rfl rfl rfl ?_|refine rg rfl rfl rfl (Val.load rfl (fun hg=>rdFz (p:=pm) (u := .slice Ar m.length capr) (b:=bt) (by rw [off1];exact hrd i _ hcs))) rfl rfl rfl rfl rfl ?_|refine rc rfl rfl rfl rfl rfl rfl rfl (fun w hw=>columnCostR_spec c A (some ⟨b,0,none⟩) n ca n l (colT v m) w (hg.cls hw) hc hbs (srcRw w hw) hco) ?_|refine rcG rfl rfl rfl rfl rfl rfl rfl rfl rfl (fun hg w hw=>columnCostR_spec c A (some ⟨b,0,none⟩) n ca n l (colT v m) w (hg.cls hw) hc hbs (srcRw w hw) hco) ?_|refine ro rfl rfl (OpT.call rfl rfl rfl rfl rfl (fun w hw=>behind19R_spec At Ar n ct capr v m w (by rw [hv.len];exact hlsn) (by omega) (fun x hx=>?_) (hno.lt m hmm) (by omega) (hat w (hw.le ((Hle.tail _ _).trans ((Hle.tail _ _).trans ((Hle.tail _ _).trans (Hle.tail _ _)))))) (hsr hw)) (fun u R hR=>?_)))|(show ∀ _:Nat,T _ _ _ _ _;intro _))
   ·obtain⟨s,hs,rfl⟩:=List.getElem_of_mem hx
    have h8:=hv.get s
    have h9:v.getD s 0=v[s]:=by rw [List.getD_eq_getElem?_getD,List.getElem?_eq_getElem hs];rfl
    have hsn:s<l.length:=by rw [← hll, ← hv.len];exact hs
    have h7:(lens l).getD s 0=l[s].n:=by rw [List.getD_eq_getElem?_getD,lens_get (List.getElem?_eq_getElem hsn)];rfl
    have h6:=hg.nb l[s] (List.getElem_mem hsn)
    omega
   obtain⟨⟨Ab,cb⟩,-,rfl,rfl⟩:=hR
   refine ⟨fun _=>(Hle.refl (row 3 1 Ab cb n ((intN (toM v m)).map (Value.int .i64))::row 3 1 (some ⟨b,0,none⟩) n n ((colT v m).map (Value.int .i64))::blk b9 (L.map (Value.int .i64)) 3::fz pm::blk pc c.cells 23::K)).trans Hle.sub,?_⟩
   refine T_le (H':=row 3 1 Ab cb n ((intN (toM v m)).map (Value.int .i64))::row 3 1 (some ⟨b,0,none⟩) n n ((colT v m).map (Value.int .i64))::blk b9 (L.map (Value.int .i64)) 3::fz pm::blk pc c.cells 23::K) (Hle.refl _) ?_
   refine T_le (H':=blk b9 (L.map (Value.int .i64)) 3::row 3 1 Ab cb n ((intN (toM v m)).map (Value.int .i64))::fz pm::blk pc c.cells 23::K) (Hle.srtT (A:=[row 3 1 Ab cb n ((intN (toM v m)).map (Value.int .i64)),row 3 1 (some ⟨b,0,none⟩) n n ((colT v m).map (Value.int .i64)),blk b9 (L.map (Value.int .i64)) 3,fz pm,blk pc c.cells 23]) (K:=[blk b9 (L.map (Value.int .i64)) 3,row 3 1 Ab cb n ((intN (toM v m)).map (Value.int .i64)),fz pm,blk pc c.cells 23]) K) ?_
   refine ro rfl rfl (OpT.callB rfl rfl rfl rfl rfl (ih (sumL (lens l) - sumL (toM v m)) (by omega) (toM v m) Ab cb b9 L (row 3 1 Ab cb n ((intN (toM v m)).map (Value.int .i64))::fz pm::blk pc c.cells 23::K) g1 rfl hL (fun w hw=>srcRH hw)) (fun u R hR=>?_))
   obtain⟨L2,hL2,rfl,rfl⟩:=hR
   refine ⟨fun _=>Hle.sub,?_⟩
   repeat' (first|refine d1 ?_|refine dd ?_|(show ∀ _:Nat,T _ _ _ _ _;intro _))
   refine T_if rfl (fun h3=>?_) (fun h3=>?_)
   ·have hb9:bst X (colZ c l (colT v m)+rsV (colZ c l) (lens l) (mvL n) (toM v m))=colZ c l (colT v m)+rsV (colZ c l) (lens l) (mvL n) (toM v m):=by unfold bst;rw [if_pos (by simpa using h3)]
    repeat' (first|refine d1 ?_|refine dd ?_|(show ∀ _:Nat,T _ _ _ _ _;intro _))
    exact T_backX (i+1,L2) ⟨by dsimp only;omega,hL2⟩ (by dsimp only;omega) (hE:=⟨rfl,by dsimp only;rw [hst9];show lookE _ 11=some (Value.int .i64 (bst X _));rw [hb9];rfl,trivial⟩) (hG:=by dsimp only;exact Hle.sub)
   ·have hb9:bst X (colZ c l (colT v m)+rsV (colZ c l) (lens l) (mvL n) (toM v m))=X:=by unfold bst;rw [if_neg (by simpa using h3)]
    repeat' (first|refine d1 ?_|refine dd ?_|(show ∀ _:Nat,T _ _ _ _ _;intro _))
    exact T_backX (i+1,L2) ⟨by dsimp only;omega,hL2⟩ (by dsimp only;omega) (hE:=⟨rfl,by dsimp only;rw [hst9];show lookE _ 11=some (Value.int .i64 (bst X _));rw [hb9];rfl,trivial⟩) (hG:=by dsimp only;exact Hle.sub)
  ·rw [hpo] at hst9
   refine T_le (H':=blk b9 (L.map (Value.int .i64)) 3::fz pm::blk pc c.cells 23::K) (Hle.refl _) ?_
   repeat' (first|refine d1 ?_|refine dd ?_|(show ∀ _:Nat,T _ _ _ _ _;intro _))
   refine T_if rfl (fun _=>?_) (fun h3=>by exfalso;simp at h3)
   repeat' (first|refine d1 ?_|refine dd ?_|(show ∀ _:Nat,T _ _ _ _ _;intro _))
   exact T_backX (i+1,L) ⟨by dsimp only;omega,hL⟩ (by dsimp only;omega) (hE:=⟨rfl,by dsimp only;rw [hst9];rfl,trivial⟩)
 ·simp only [decide_eq_false_iff_not] at h2
  obtain rfl:i=(mvL n).length:=by omega
  rw [List.take_length] at hXb ⊢
  have hmx:=rsV_max hKn hno hlsn hv
  generalize foldB (possM (lens l) v) (mcV (colZ c l) (lens l) (mvL n) v) (mvL n) (-1)=X at hmx hXb ⊢
  have hLm:(L.map (Value.int .i64)).length=V:=by rw [List.length_map,hL.1]
  repeat' (first|refine d1 ?_|refine dd ?_|(show T _ (.ops _ (_::_)::_) _ _ _;refine T_op (OpT.store rfl rfl rfl rfl (by rw [hLm];omega) ?_))|(show ∀ _:Nat,T _ _ _ _ _;intro _))
  have e9:(L.map (Value.int .i64)).set (0+(p:Int).toNat * 1) (.int .i64 (max X 0))=(L.set p (rsV (colZ c l) (lens l) (mvL n) v)).map (Value.int .i64):=by
   rw [show 0+(p:Int).toNat * 1=p by omega, ← List.map_set,hmx]
  rw [e9]
  have hput:=hL.put p
  rw [show rsV (colZ c l) (lens l) (mvL n) (atL (lens l) p)=rsV (colZ c l) (lens l) (mvL n) v from hFp] at hput
  have hcp:∀ w,RdC w b9 0 ((L.set p (rsV (colZ c l) (lens l) (mvL n) v)).map (Value.int .i64))→RdC w b9 (0+(p:Int).toNat * 1) [.int .i64 (rsV (colZ c l) (lens l) (mvL n) v)]:=fun w h9=>rdAt (q:=p) h9 (by omega) (by rw [List.getElem?_set_self (by rw [hL.1];exact hpV)])
  repeat' (first|refine d1 ?_|refine dd ?_|(show T _ (.ops _ (_::_)::_) _ _ _;first|refine T_val rfl (Val.load rfl (fun hg=>(fun w hw=>hcp w (rdAll w hw)))) rfl rfl rfl ?_|refine T_valC rfl (Val.load rfl (fun hg=>(fun w hw=>hcp w (rdAll w hw)))) rfl rfl rfl rfl rfl ?_)|(show T _ (.run _ _ (_::_) _ _::_) _ _ _;first|refine rv rfl rfl rfl (Val.load rfl (fun hg=>(fun w hw=>hcp w (rdAll w hw)))) rfl rfl rfl ?_|refine rg rfl rfl rfl (Val.load rfl (fun hg=>(fun w hw=>hcp w (rdAll w hw)))) rfl rfl rfl rfl rfl ?_)|(show ∀ _:Nat,T _ _ _ _ _;intro _)|(show T _ (.code .ret::_) _ _ _;refine T_retV _ rfl Hle.sub ⟨_,hput,rfl,rfl⟩))
end Go.Proofs.YtmenjpmikhajfaaGreatDoor
namespace Go.Proofs.YtmenjpmikhajfaaGreatDoor
open Go.RowKit Go.Shelf Go.Proofs
set_option maxRecDepth 100000
set_option maxHeartbeats 1000000

theorem intN_zero (n:Nat):(intN (List.replicate n 0)).map (Value.int .i64)=List.replicate n (.int .i64 0):=by
 unfold intN;rw [List.map_replicate,List.map_replicate];rfl
theorem alignR19_spec (c:Costs) (A:Option Addr) (n ca:Nat) (l:List TS) (w:World) (hg:Grp w A n l) :
  Spec Tryz.prog 37 [c.val, .slice A n ca] w (fun v R=>∃ x:Value,True∧v = .tuple #[x, .int .i64 (aln19 c l).2.1, .int .i64 (aln19 c l).2.2]∧R=[dat [x] [rowsD (aln19 c l).1]]):=by
 have hn:=hg.hn
 have hll:=lens_len l
 have hb:=hg.hb
 have hnb:=hg.nb
 refine spec_of sg Tryz.func37 rfl rfl rfl ?_
 refine T_op (OpT.box (cs:=c.cells) rfl rfl rfl rfl rfl rfl rfl (fun pc=>?_))
 repeat' (first|refine d1 ?_|refine dd ?_|(show T _ (.ops _ (_::_)::_) _ _ _;first|refine T_call rfl rfl rfl rfl rfl (fun w hw=>usableR_spec c A n ca l w (hg.cls hw)) ?_|refine T_callC rfl rfl rfl rfl rfl rfl rfl (fun hg w hw=>usableR_spec c A n ca l w (hg.cls hw)) ?_)|(show T _ (.run _ _ (_::_) _ _::_) _ _ _;first|refine rc rfl rfl rfl rfl rfl rfl rfl (fun w hw=>usableR_spec c A n ca l w (hg.cls hw)) ?_|refine rcG rfl rfl rfl rfl rfl rfl rfl rfl rfl (fun hg w hw=>usableR_spec c A n ca l w (hg.cls hw)) ?_)|(show ∀ _:Nat,T _ _ _ _ _;intro _))
 refine T_if rfl (fun h=>?_) (fun h=>?_)
 ·have h0:usV c l≠0:=by simpa using h
  unfold aln19
  rw [if_pos h0]
  repeat' (first|refine d1 ?_|refine dd ?_|(show ∀ _:Nat,T _ _ _ _ _;intro _)|(show T _ (.code .ret::_) _ _ _;refine T_retV _ rfl (nilC _ |>.trans (Hle.nth 0 rfl)) ⟨_,trivial,rfl,rfl⟩))
 have h0:usV c l=0:=by simpa using h
 obtain⟨h1,hc,hbs⟩:=usV_ok h0
 have hsz:∀ w',Below w.heap.size w w'→Spec Tryz.prog 97 [.slice A n ca] w' (fun v R=>v = .int .i64 (sizV 1 (lens l):Nat)∧R=[]):=fun w' hw=>size19R_spec A n ca l w' (src_below hg.hs hw) hn (by omega) (fun t ht=>by have:=hnb t ht;omega)
 repeat' (first|refine d1 ?_|refine dd ?_|(show ∀ _:Nat,T _ _ _ _ _;intro _))
 refine T_callC rfl rfl rfl rfl rfl rfl rfl (fun _ w hw=>hsz w hw.below) ?_
 repeat' (first|refine d1 ?_|refine dd ?_|(show ∀ _:Nat,T _ _ _ _ _;intro _))
 refine T_if rfl (fun h2=>?_) (fun h2=>?_)
 ·have hbig:4<l.length∨65536<volL (lens l):=by
   simp only [Bool.or_eq_true,decide_eq_true_eq] at h2
   refine Classical.byContradiction fun h9=>?_
   have h8:=sizV_small (lens l) 1 (by omega)
   omega
  unfold aln19
  rw [if_neg (by simpa using h0),if_pos hbig]
  repeat' (first|refine d1 ?_|refine dd ?_|(show ∀ _:Nat,T _ _ _ _ _;intro _)|(show T _ (.code .ret::_) _ _ _;refine T_retV _ rfl (nilC _ |>.trans (Hle.nth 0 rfl)) ⟨_,trivial,rfl,rfl⟩))
 have hsm:l.length≤4∧volL (lens l)≤65536∧sizV 1 (lens l)=volL (lens l):=by
  simp only [Bool.or_eq_false_iff,decide_eq_false_iff_not] at h2
  have h7:¬ 1073741824<1 * volL (lens l):=fun h9=>by
   have:=sizV_great (lens l) 1 h9
   omega
  have h8:=sizV_small (lens l) 1 (by omega)
  omega
 obtain⟨h4,hv,hsv⟩:=hsm
 have ha:aln19 c l=(alnW c l,lstV c l,0):=by
  unfold aln19
  rw [if_neg (by simpa using h0),if_neg (by omega)]
 rw [ha]
 clear h2
 have h1n:1≤n:=by omega
 have h4n:n≤4:=by omega
 have hrst:=rest19_spec (ca:=ca) hg hc hbs h1n h4n hv
 have hno:=mvL_ok h1n h4n
 have hlsn:(lens l).length=n:=by omega
 have hKn:=colZ_nn hc h4
 have hm15:(mvL n).length≤15:=by
  obtain rfl|rfl|rfl|rfl:n=1∨n=2∨n=3∨n=4:=by omega
  all_goals decide
 have hfub:∀ v,0≤rsV (colZ c l) (lens l) (mvL n) v∧rsV (colZ c l) (lens l) (mvL n) v≤4096000000:=fun v=>rsV_ub hc h4 hg.nb v _
 repeat' (first|refine d1 ?_|refine dd ?_|(show T _ (.ops _ (_::_)::_) _ _ _;refine T_op (OpT.call rfl rfl rfl rfl rfl (fun w hw=>movesR_spec (n:Int) w) (fun xm R hR=>?_)))|(show ∀ _:Nat,T _ _ _ _ _;intro _))
 obtain⟨_,-,rfl,rfl⟩:=hR
 refine T_le (H':=dat [xm] [rowsD ((mvL n).map intN)]::blk pc c.cells 23::[]) (Hle.refl _) ?_
 refine T_open fun pm hM=>?_
 obtain⟨Am,cm,csm,rfl,hm1,hm2,hml,hmr,hrows⟩:=hM.tab
 rw [List.length_map] at hm1 hml hmr ⊢
 repeat' (first|refine d1 ?_|refine dd ?_|(show T _ (.ops _ (_::_)::_) _ _ _;first|refine T_call rfl rfl rfl rfl rfl (fun w hw=>hsz w hw.below) ?_|refine T_callC rfl rfl rfl rfl rfl rfl rfl (fun hg w hw=>hsz w hw.below) ?_)|(show T _ (.run _ _ (_::_) _ _::_) _ _ _;first|refine rc rfl rfl rfl rfl rfl rfl rfl (fun w hw=>hsz w hw.below) ?_|refine rcG rfl rfl rfl rfl rfl rfl rfl rfl rfl (fun hg w hw=>hsz w hw.below) ?_)|(show ∀ _:Nat,T _ _ _ _ _;intro _))
 rw [hsv]
 obtain⟨V,hVe⟩:∃ V,V=volL (lens l):=⟨_,rfl⟩
 have hVp:0<V:=by rw [hVe];exact volL_pos _
 rw [← hVe] at hv hrst ⊢
 repeat' (first|refine d1 ?_|refine dd ?_|(show T _ (.ops _ (_::_)::_) _ _ _;refine T_op (OpT.make rfl rfl rfl rfl rfl rfl rfl rfl rfl (by dsimp only;omega) (fun b9=>?_)))|(show ∀ _:Nat,T _ _ _ _ _;intro _))
 have hz:List.replicate V (Value.int .i64 0)=valV (fun q=>if q<0 then (-1:Int) else 0) V:=by
  rw [valV_replicate];exact valV_ext fun q _=>by rw [if_neg (by omega)]
 refine T_loopX (fun k:Nat=>[(10, .int .i64 (k:Nat))]) (fun k=>[blk b9 (valV (fun q=>if q<k then (-1:Int) else 0) V) 3,fz pm,blk pc c.cells 23]) (fun k=>k≤V) (fun k=>V - k) 0 (Nat.zero_le _) ?_ (hG:=by rw [← hz];exact Hle.refl _)
 intro k hk
 repeat' (first|refine d1 ?_|refine dd ?_|(show ∀ _:Nat,T _ _ _ _ _;intro _))
 refine T_if rfl (fun h=>?_) (fun h=>?_)
 ·simp only [decide_eq_true_eq] at h
  repeat' (first|refine d1 ?_|refine dd ?_|(show T _ (.ops _ (_::_)::_) _ _ _;refine T_op (OpT.store rfl rfl rfl rfl (by rw [valV_length];omega) ?_))|(show ∀ _:Nat,T _ _ _ _ _;intro _))
  refine T_backX (k+1) (by omega) (by omega) (hG:=?_)
  rw [show 0+(k:Int).toNat * 1=k by omega,valV_put]
  have e:valV (fun q=>if q=k then (-1:Int) else if q<k then -1 else 0) V=valV (fun q=>if q<k+1 then (-1:Int) else 0) V:=valV_ext fun q _=>by
   by_cases e:q=k
   ·rw [if_pos e,if_pos (by omega)]
   ·rw [if_neg e]
    by_cases e2:q<k
    ·rw [if_pos e2,if_pos (by omega)]
    ·rw [if_neg e2,if_neg (by omega)]
  rw [e]
  exact Hle.refl _
 simp only [decide_eq_false_iff_not] at h
 obtain rfl:k=V:=by omega
 have hz0:valV (fun q=>if q<k then (-1:Int) else 0) k=(List.replicate k (-1:Int)).map (Value.int .i64):=by rw [valV_neg,List.map_replicate]
 rw [hz0]
 have hg0:goodK (fun q=>rsV (colZ c l) (lens l) (mvL n) (atL (lens l) q)) k (List.replicate k (-1)):=⟨List.length_replicate,fun q z hz=>by
  rw [List.getElem?_replicate] at hz
  split at hz
  ·cases hz;exact .inl rfl
  ·cases hz⟩
 have hin0:InB (lens l) (List.replicate n 0):=by rw [← hlsn];exact InB.zero _
 repeat' (first|refine d1 ?_|refine dd ?_|(show T _ (.ops _ (_::_)::_) _ _ _;refine T_op (OpT.make rfl rfl rfl rfl rfl rfl rfl rfl rfl (by dsimp only;omega) (fun b2=>?_)))|(show ∀ _:Nat,T _ _ _ _ _;intro _))
 refine T_le (H':=blk b2 (List.replicate n (.int .i64 0)) 3::blk b9 ((List.replicate k (-1:Int)).map (Value.int .i64)) 3::fz pm::blk pc c.cells 23::[]) (Hle.refl _) ?_
 rw [← intN_zero n]
 refine T_le (H':=blk b9 ((List.replicate k (-1:Int)).map (Value.int .i64)) 3::blk b2 ((intN (List.replicate n 0)).map (Value.int .i64)) 3::fz pm::blk pc c.cells 23::[]) (Hle.perm (List.Perm.swap _ _ _)) ?_
 repeat' (first|refine d1 ?_|refine dd ?_|(show T _ (.ops _ (_::_)::_) _ _ _;refine T_op (OpT.callB rfl rfl rfl rfl rfl (hrst (sumL (lens l) - sumL (List.replicate n 0)) (List.replicate n 0) (some ⟨b2,0,none⟩) n b9 (List.replicate k (-1)) (blk b2 ((intN (List.replicate n 0)).map (Value.int .i64)) 3::fz pm::blk pc c.cells 23::[]) hin0 rfl hg0 (fun w hw=>Src.own hw (by rw [List.length_map,intN_len,List.length_replicate,Nat.mul_one]))) (fun u R hR=>?_)))|(show ∀ _:Nat,T _ _ _ _ _;intro _))
 obtain⟨L,hL,rfl,rfl⟩:=hR
 have hlst:rsV (colZ c l) (lens l) (mvL n) (List.replicate n 0)=lstV c l:=by unfold lstV;rw [hn]
 rw [hlst]
 repeat' (first|refine d1 ?_|refine dd ?_|(show ∀ _:Nat,T _ _ _ _ _;intro _))
 refine T_le (H':=row 3 1 (some ⟨b2,0,none⟩) n n ((intN (List.replicate n 0)).map (Value.int .i64))::blk b9 (L.map (Value.int .i64)) 3::fz pm::blk pc c.cells 23::[]) ((Hle.perm (List.Perm.swap _ _ _)).trans (Hle.weaken (i:=0) rfl (blk_row (sz:=1) (n:=n) (by rw [List.length_map,intN_len,List.length_replicate,Nat.mul_one]) (by simp only [maxLen];omega)) rfl)) ?_
 refine T_le (dat_nil _) ?_
 refine T_nilrow 40 1 ?_
 refine T_loopX (fun s:List Nat × (Option Addr × Nat) × List Int × (Option Addr × Nat) × List Value × List (List Int)=>[(11, .slice s.2.1.1 n s.2.1.2),(13, .slice s.2.2.2.1.1 s.2.2.2.2.2.length s.2.2.2.1.2)]) (fun s=>[blk b9 (s.2.2.1.map (Value.int .i64)) 3,row 3 1 s.2.1.1 s.2.1.2 n ((intN s.1).map (Value.int .i64)),row 40 1 s.2.2.2.1.1 s.2.2.2.1.2 s.2.2.2.2.2.length s.2.2.2.2.1,dat s.2.2.2.2.1 (s.2.2.2.2.2.map intsD),fz pm,blk pc c.cells 23]) (fun s=>InB (lens l) s.1∧goodK (fun q=>rsV (colZ c l) (lens l) (mvL n) (atL (lens l) q)) k s.2.2.1∧s.2.2.2.2.2.length≤sumL s.1∧alnW c l=s.2.2.2.2.2++alV19 (colZ c l) (lens l) (mvL n) s.1) (fun s=>sumL (lens l) - sumL s.1) (List.replicate n 0,(some ⟨b2,0,none⟩,n),L,(none,0),[],[]) ⟨hin0,hL,Nat.zero_le _,by dsimp only;rw [List.nil_append, ← hn];rfl⟩ ?_ (hG:=by show Hle _ [blk b9 (L.map (Value.int .i64)) 3,row 3 1 (some ⟨b2,0,none⟩) n n ((intN (List.replicate n 0)).map (Value.int .i64)),row 40 1 none 0 0 [],dat [] [],fz pm,blk pc c.cells 23];exact Hle.srt)
 rintro⟨v,⟨At,ct⟩,L,⟨Ao,co⟩,hs,out⟩ ⟨hvi,hL,hol,hout⟩
 dsimp only at hvi hL hol hout ⊢
 obtain⟨p,hp⟩:∃ p,p=numL (lens l) v:=⟨_,rfl⟩
 have hpV:p<k:=by rw [hp,hVe];exact numL_lt hvi
 repeat' (first|refine d1 ?_|refine dd ?_|(show T _ (.ops _ (_::_)::_) _ _ _;first|refine T_call rfl rfl rfl rfl rfl (fun w hw=>place19R_spec A At n ca ct l v w (hg.cls hw) hvi (by omega) (srcRw w hw)) ?_|refine T_callC rfl rfl rfl rfl rfl rfl rfl (fun hg w hw=>place19R_spec A At n ca ct l v w (hg.cls hw) hvi (by omega) (srcRw w hw)) ?_)|(show T _ (.run _ _ (_::_) _ _::_) _ _ _;first|refine rc rfl rfl rfl rfl rfl rfl rfl (fun w hw=>place19R_spec A At n ca ct l v w (hg.cls hw) hvi (by omega) (srcRw w hw)) ?_|refine rcG rfl rfl rfl rfl rfl rfl rfl rfl rfl (fun hg w hw=>place19R_spec A At n ca ct l v w (hg.cls hw) hvi (by omega) (srcRw w hw)) ?_)|(show ∀ _:Nat,T _ _ _ _ _;intro _))
 rw [← hp]
 refine T_if rfl (fun h5=>?_) (fun h5=>?_)
 ·simp only [decide_eq_true_eq] at h5
  have hne:v≠lens l:=fun e=>by
   have h9:=num_all (lens l)
   rw [e] at hp
   omega
  have hsub:=sumL_le hvi
  have hlen4:=sumL_lens hg.nb
  have hvb:∀ x∈v,x≤1000000:=fun x hx=>by
   obtain⟨s,hs,rfl⟩:=List.getElem_of_mem hx
   have h8:=hvi.get s
   have h9:v.getD s 0=v[s]:=by rw [List.getD_eq_getElem?_getD,List.getElem?_eq_getElem hs];rfl
   have hsn:s<l.length:=by rw [← hll, ← hvi.len];exact hs
   have h7:(lens l).getD s 0=l[s].n:=by rw [List.getD_eq_getElem?_getD,lens_get (List.getElem?_eq_getElem hsn)];rfl
   have h6:=hg.nb l[s] (List.getElem_mem hsn)
   omega
  repeat' (first|refine d1 ?_|refine dd ?_|(show ∀ _:Nat,T _ _ _ _ _;intro _))
  refine T_loopX (fun s:Nat × List Int=>[(14, .int .i64 (s.1:Nat))]) (fun s=>[blk b9 (s.2.map (Value.int .i64)) 3,row 3 1 At ct n ((intN v).map (Value.int .i64)),row 40 1 Ao co out.length hs,dat hs (out.map intsD),fz pm,blk pc c.cells 23]) (fun s=>s.1≤(mvL n).length∧goodK (fun q=>rsV (colZ c l) (lens l) (mvL n) (atL (lens l) q)) k s.2∧∀ j y,j<s.1→(mvL n)[j]?=some y→fitM (colZ c l) (lens l) (mvL n) v y=false) (fun s=>(mvL n).length - s.1) (0,L) ⟨Nat.zero_le _,hL,fun j y hj _=>absurd hj (Nat.not_lt_zero j)⟩ ?_
  rintro⟨i,L⟩ ⟨hi,hL,hnf⟩
  dsimp only at hi hL hnf ⊢
  repeat' (first|refine d1 ?_|refine dd ?_|(show ∀ _:Nat,T _ _ _ _ _;intro _))
  refine T_if rfl (fun h2=>?_) (fun h2=>?_)
  ·simp only [decide_eq_true_eq] at h2
   obtain⟨m,hm⟩:∃ m,(mvL n)[i]?=some m:=⟨_,List.getElem?_eq_getElem (by omega)⟩
   have hmm:=List.mem_of_getElem? hm
   have hml4:=pigeon2 n m (hno.nd m hmm) (hno.lt m hmm)
   have hmpos:0<m.length:=List.length_pos_iff.2 (hno.ne m hmm)
   obtain⟨bt,ot,rfl,hrd⟩:=hmr (by omega)
   obtain⟨Ar,capr,hcs,hr1,hr2,hAr⟩:=hrows.tabRow (i:=i) (r:=intN m) (by rw [List.getElem?_map,hm];rfl)
   have hsr:∀ {w':World} {H:List HA} [FocusZ H pm],Cls w w' H→Src w' 1 Ar m.length ((intN m).map (Value.int .i64)):=fun {w' H} _ hw=>by
    have h9:=((rd_one hrows hcs (by rw [List.getElem?_map,List.getElem?_map,hm];rfl)).own hw).intsAt
    rwa [intN_len] at h9
   rw [intN_len] at hcs hr1
   have hnf':fitM (colZ c l) (lens l) (mvL n) v m=false→∀ j y,j<i+1→(mvL n)[j]?=some y→fitM (colZ c l) (lens l) (mvL n) v y=false:=fun h9 j y hj hy=>by
    by_cases e:j=i
    ·subst e;rw [hm] at hy;cases hy;exact h9
    ·exact hnf j y (by omega) hy
   repeat' (first|refine d1 ?_|refine dd ?_|(show T _ (.ops _ (_::_)::_) _ _ _;first|refine T_val rfl (Val.load rfl (fun hg=>rdFz (p:=pm) (u := .slice Ar m.length capr) (b:=bt) (by rw [off1];exact hrd i _ hcs))) rfl rfl rfl ?_|refine T_valC rfl (Val.load rfl (fun hg=>rdFz (p:=pm) (u := .slice Ar m.length capr) (b:=bt) (by rw [off1];exact hrd i _ hcs))) rfl rfl rfl rfl rfl ?_|refine T_op (OpT.call rfl rfl rfl rfl rfl (fun w hw=>column19R_spec A At Ar n ca ct capr l v m w (hg.cls hw) hvi (hno.lt m hmm) (by omega) (srcRw w hw) (hsr hw)) ?_))|(show T _ (.run _ _ (_::_) _ _::_) _ _ _;first|refine rv rfl rfl rfl (Val.load rfl (fun hg=>rdFz (p:=pm) (u := .slice Ar m.length capr) (b:=bt) (by rw [off1];exact hrd i _ hcs))) rfl rfl rfl ?_|refine rg rfl rfl rfl (Val.load rfl (fun hg=>rdFz (p:=pm) (u := .slice Ar m.length capr) (b:=bt) (by rw [off1];exact hrd i _ hcs))) rfl rfl rfl rfl rfl ?_)|(show ∀ _:Nat,T _ _ _ _ _;intro _))
   rintro u R ⟨b,⟨hpo,rfl,rfl⟩|⟨hpo,rfl,rfl⟩⟩
   ·obtain⟨g1,g2,g3,g4⟩:=toM_rem hno hlsn hvi hmm hpo
    have hco:=colT_ok (l:=l) (v:=v) (m:=m) (by rw [hvi.len,hll]) (fun s hs=>by rw [hn];exact hno.lt m hmm s hs) hpo
    have hKb:=colZ_bd hc (show l.length≤32 by omega) (colT v m)
    have hfq:=hfub (toM v m)
    have hfit:fitM (colZ c l) (lens l) (mvL n) v m=decide (colZ c l (colT v m)+rsV (colZ c l) (lens l) (mvL n) (toM v m)=rsV (colZ c l) (lens l) (mvL n) v):=by
     unfold fitM
     rw [hpo,Bool.true_and];rfl
    refine T_le (H':=row 3 1 (some ⟨b,0,none⟩) n n ((colT v m).map (Value.int .i64))::blk b9 (L.map (Value.int .i64)) 3::row 3 1 At ct n ((intN v).map (Value.int .i64))::row 40 1 Ao co out.length hs::dat hs (out.map intsD)::fz pm::blk pc c.cells 23::[]) (Hle.refl _) ?_
    repeat' (first|refine d1 ?_|(show ∀ _:Nat,T _ _ _ _ _;intro _))
    refine rsH [fz pm,blk pc c.cells 23] 1000 [0,1,2,3,4,6,7,8,9,10,11,12,13,17,18,19,20,5,14,15,16,21,22,23] ?_
    have hgp:=hg
    repeat' (first|refine d1 ?_|refine dd ?_|(show T _ (.ops _ (_::_)::_) _ _ _;first|refine T_val rfl (Val.load rfl (fun hg=>rdFz (p:=pm) (u := .slice Ar m.length capr) (b:=bt) (by rw [off1];exact hrd i _ hcs))) rfl rfl rfl ?_|refine T_valC rfl (Val.load rfl (fun hg=>rdFz (p:=pm) (u := .slice Ar m.length capr) (b:=bt) (by rw [off1];exact hrd i _ hcs))) rfl rfl rfl rfl rfl ?_|refine T_call rfl rfl rfl rfl rfl (fun w hw=>columnCostR_spec c A (some ⟨b,0,none⟩) n ca n l (colT v m) w (hgp.cls hw) hc hbs (srcRw w hw) hco) ?_|refine T_callC rfl rfl rfl rfl rfl rfl rfl (fun hg w hw=>columnCostR_spec c A (some ⟨b,0,none⟩) n ca n l (colT v m) w (hgp.cls hw) hc hbs (srcRw w hw) hco) ?_)|(show T _ (.run _ _ (_::_) _ _::_) _ _ _;first|refine rv rfl rfl rfl (Val.load rfl (fun hg=>rdFz (p:=pm) (u := .slice Ar m.length capr) (b:=bt) (by rw [off1];exact hrd i _ hcs))) rfl rfl rfl ?_|refine rg rfl rfl rfl (Val.load rfl (fun hg=>rdFz (p:=pm) (u := .slice Ar m.length capr) (b:=bt) (by rw [off1];exact hrd i _ hcs))) rfl rfl rfl rfl rfl ?_|refine rc rfl rfl rfl rfl rfl rfl rfl (fun w hw=>columnCostR_spec c A (some ⟨b,0,none⟩) n ca n l (colT v m) w (hgp.cls hw) hc hbs (srcRw w hw) hco) ?_|refine rcG rfl rfl rfl rfl rfl rfl rfl rfl rfl (fun hg w hw=>columnCostR_spec c A (some ⟨b,0,none⟩) n ca n l (colT v m) w (hgp.cls hw) hc hbs (srcRw w hw) hco) ?_)|(show ∀ _:Nat,T _ _ _ _ _;intro _))
    refine T_known 86 rfl rfl ?_
    refine T_known 90 rfl rfl ?_
    refine T_known 83 rfl rfl ?_
    refine T_known 84 rfl rfl ?_
    refine T_known 85 rfl rfl ?_
    refine T_known 94 rfl rfl ?_
    refine T_known 95 rfl rfl ?_
    refine T_known 96 rfl rfl ?_
    refine T_known 97 rfl rfl ?_
    refine ro rfl rfl (OpT.sure (p:=true) rfl rfl rfl (OpT.call rfl rfl rfl rfl rfl (fun w hw=>behind19R_spec At Ar n ct capr v m w (by rw [hvi.len];exact hlsn) (by omega) hvb (hno.lt m hmm) (by omega) (srcRw w hw) (hsr hw)) (fun u R hR=>?_)))
    obtain⟨⟨Ab,cb⟩,-,rfl,rfl⟩:=hR
    refine ⟨fun _=>by dsimp only [List.cons_append,List.nil_append];exact Hle.sub,?_⟩
    refine T_le (H':=blk b9 (L.map (Value.int .i64)) 3::row 3 1 Ab cb n ((intN (toM v m)).map (Value.int .i64))::row 3 1 (some ⟨b,0,none⟩) n n ((colT v m).map (Value.int .i64))::row 3 1 At ct n ((intN v).map (Value.int .i64))::row 40 1 Ao co out.length hs::dat hs (out.map intsD)::fz pm::blk pc c.cells 23::[]) Hle.srt ?_
    refine ro rfl rfl (OpT.sure (p:=true) rfl rfl rfl (OpT.callB rfl rfl rfl rfl rfl (hrst (sumL (lens l) - sumL (toM v m)) (toM v m) Ab cb b9 L (row 3 1 Ab cb n ((intN (toM v m)).map (Value.int .i64))::row 3 1 (some ⟨b,0,none⟩) n n ((colT v m).map (Value.int .i64))::row 3 1 At ct n ((intN v).map (Value.int .i64))::row 40 1 Ao co out.length hs::dat hs (out.map intsD)::fz pm::blk pc c.cells 23::[]) g1 rfl hL (fun w hw=>srcRH hw)) (fun u R hR=>?_)))
    obtain⟨L2,hL2,rfl,rfl⟩:=hR
    refine ⟨fun _=>Hle.sub,?_⟩
    repeat' (first|refine d1 ?_|refine dd ?_|(show ∀ _:Nat,T _ _ _ _ _;intro _))
    refine ro rfl rfl (OpT.sure (p:=true) rfl rfl rfl (OpT.callB rfl rfl rfl rfl rfl (hrst (sumL (lens l) - sumL v) v At ct b9 L2 (row 3 1 Ab cb n ((intN (toM v m)).map (Value.int .i64))::row 3 1 (some ⟨b,0,none⟩) n n ((colT v m).map (Value.int .i64))::row 3 1 At ct n ((intN v).map (Value.int .i64))::row 40 1 Ao co out.length hs::dat hs (out.map intsD)::fz pm::blk pc c.cells 23::[]) hvi rfl hL2 (fun w hw=>srcRH hw)) (fun u R hR=>?_)))
    obtain⟨L3,hL3,rfl,rfl⟩:=hR
    refine ⟨fun _=>Hle.sub,?_⟩
    repeat' (first|refine d1 ?_|refine dd ?_|(show ∀ _:Nat,T _ _ _ _ _;intro _))
    refine T_if rfl (fun h6=>?_) (fun h6=>?_)
    ·have h6':colZ c l (colT v m)+rsV (colZ c l) (lens l) (mvL n) (toM v m)=rsV (colZ c l) (lens l) (mvL n) v:=by simpa using h6
     have hfm:fitM (colZ c l) (lens l) (mvL n) v m=true:=by rw [hfit];exact decide_eq_true h6'
     have hfd:(mvL n).find? (fitM (colZ c l) (lens l) (mvL n) v)=some m:=find_at hm hfm hnf
     have hav:=alV_step hno hlsn hvi hfd
     rw [hav] at hout
     repeat' (first|refine d1 ?_|(show ∀ _:Nat,T _ _ _ _ _;intro _))
     refine rsH [fz pm,blk pc c.cells 23] 1000 [0,1,4,5,6,7,8,2,3,9,10,11] ?_
     repeat' (first|refine d1 ?_|refine dd ?_|(show T _ (.ops _ (_::_)::_) _ _ _;first|refine T_val rfl (Val.load rfl (fun hg=>rdFz (p:=pm) (u := .slice Ar m.length capr) (b:=bt) (by rw [off1];exact hrd i _ hcs))) rfl rfl rfl ?_|refine T_valC rfl (Val.load rfl (fun hg=>rdFz (p:=pm) (u := .slice Ar m.length capr) (b:=bt) (by rw [off1];exact hrd i _ hcs))) rfl rfl rfl rfl rfl ?_)|(show T _ (.run _ _ (_::_) _ _::_) _ _ _;first|refine rv rfl rfl rfl (Val.load rfl (fun hg=>rdFz (p:=pm) (u := .slice Ar m.length capr) (b:=bt) (by rw [off1];exact hrd i _ hcs))) rfl rfl rfl ?_|refine rg rfl rfl rfl (Val.load rfl (fun hg=>rdFz (p:=pm) (u := .slice Ar m.length capr) (b:=bt) (by rw [off1];exact hrd i _ hcs))) rfl rfl rfl rfl rfl ?_|refine ro rfl rfl (OpT.litW rfl rfl rfl rfl rfl rfl rfl rfl rfl rfl rfl (fun bl=>⟨fun _=>Hle.sub,?_⟩))|refine ro rfl rfl (OpT.append (A:=Ao) rfl rfl rfl rfl rfl rfl rfl rfl rfl rfl (fun w hw=>Src.own hw rfl) rfl (by dsimp only;omega) (by omega) (fun A' cap' hA'=>⟨fun _=>Hle.sub,?_⟩))|refine ro rfl rfl (OpT.call rfl rfl rfl rfl rfl (fun w hw=>behind19R_spec At Ar n ct capr v m w (by rw [hvi.len];exact hlsn) (by omega) hvb (hno.lt m hmm) (by omega) (srcRw w hw) (hsr hw)) (fun u R hR=>?_)))|(show ∀ _:Nat,T _ _ _ _ _;intro _))
     obtain⟨⟨A7,c7⟩,-,rfl,rfl⟩:=hR
     refine ⟨fun _=>by dsimp only [List.cons_append,List.nil_append];exact Hle.sub,?_⟩
     refine T_le (H':=row 3 1 A7 c7 n ((intN (toM v m)).map (Value.int .i64))::blk bl (flatP [(0, .slice (some ⟨b,0,none⟩) n n)]) 40::blk b9 (L3.map (Value.int .i64)) 3::row 3 1 Ab cb n ((intN (toM v m)).map (Value.int .i64))::row 3 1 (some ⟨b,0,none⟩) n n ((colT v m).map (Value.int .i64))::row 3 1 At ct n ((intN v).map (Value.int .i64))::row 40 1 A' cap' (out.length+1) (hs++flatP [(0, .slice (some ⟨b,0,none⟩) n n)])::dat hs (out.map intsD)::fz pm::blk pc c.cells 23::[]) (Hle.refl _) ?_
     repeat' (first|refine d1 ?_|refine dd ?_|(show ∀ _:Nat,T _ _ _ _ _;intro _))
     show T _ (.mark _::_) _ _ _
     refine T_backX (toM v m,(A7,c7),L3,(A',cap'),hs++[Value.slice (some ⟨b,0,none⟩) n n],out++[colT v m]) ⟨g1,hL3,?_,?_⟩ (by dsimp only;omega) (hE:=⟨rfl,by dsimp only;rw [List.length_append];rfl,trivial⟩) (hG:=?_)
     ·dsimp only;rw [List.length_append,List.length_singleton];omega
     ·dsimp only;rw [List.append_assoc];exact hout
     ·dsimp only
      rw [List.length_append,List.length_singleton]
      refine (Hle.srt (K:=[row 3 1 (some ⟨b,0,none⟩) n n ((colT v m).map (Value.int .i64)),dat hs (out.map intsD),row 40 1 A' cap' (out.length+1) (hs++flatP [(0, .slice (some ⟨b,0,none⟩) n n)]),blk b9 (L3.map (Value.int .i64)) 3,row 3 1 A7 c7 n ((intN (toM v m)).map (Value.int .i64)),fz pm,blk pc c.cells 23])).trans ?_
      show Hle (row 3 1 (some ⟨b,0,none⟩) n n ((colT v m).map (Value.int .i64))::dat hs (out.map intsD)::row 40 1 A' cap' (out.length+1) (hs++[Value.slice (some ⟨b,0,none⟩) n n])::[blk b9 (L3.map (Value.int .i64)) 3,row 3 1 A7 c7 n ((intN (toM v m)).map (Value.int .i64)),fz pm,blk pc c.cells 23]) _
      exact (out_hle (cl:=colT v m) rfl).trans Hle.srt
    ·have hfm:fitM (colZ c l) (lens l) (mvL n) v m=false:=by rw [hfit];exact decide_eq_false (by simpa using h6)
     repeat' (first|refine d1 ?_|refine dd ?_|(show ∀ _:Nat,T _ _ _ _ _;intro _))
     exact T_backX (i+1,L3) ⟨by dsimp only;omega,hL3,hnf' hfm⟩ (by dsimp only;omega) (hG:=by dsimp only;exact Hle.sub)
   ·have hfm:fitM (colZ c l) (lens l) (mvL n) v m=false:=by unfold fitM;rw [hpo];rfl
    refine T_le (H':=blk b9 (L.map (Value.int .i64)) 3::row 3 1 At ct n ((intN v).map (Value.int .i64))::row 40 1 Ao co out.length hs::dat hs (out.map intsD)::fz pm::blk pc c.cells 23::[]) (Hle.refl _) ?_
    repeat' (first|refine d1 ?_|(show ∀ _:Nat,T _ _ _ _ _;intro _))
    refine rsH [fz pm,blk pc c.cells 23] 1000 [0,1,2,3,4,6,7,8,9,10,11,12,13,17,18,19,20,5,14,15,16,21,22,23] ?_
    repeat' (first|refine d1 ?_|refine dd ?_|(show T _ (.ops _ (_::_)::_) _ _ _;first|refine T_val rfl (Val.load rfl (fun hg=>rdFz (p:=pm) (u := .slice Ar m.length capr) (b:=bt) (by rw [off1];exact hrd i _ hcs))) rfl rfl rfl ?_|refine T_valC rfl (Val.load rfl (fun hg=>rdFz (p:=pm) (u := .slice Ar m.length capr) (b:=bt) (by rw [off1];exact hrd i _ hcs))) rfl rfl rfl rfl rfl ?_)|(show T _ (.run _ _ (_::_) _ _::_) _ _ _;first|refine rv rfl rfl rfl (Val.load rfl (fun hg=>rdFz (p:=pm) (u := .slice Ar m.length capr) (b:=bt) (by rw [off1];exact hrd i _ hcs))) rfl rfl rfl ?_|refine rg rfl rfl rfl (Val.load rfl (fun hg=>rdFz (p:=pm) (u := .slice Ar m.length capr) (b:=bt) (by rw [off1];exact hrd i _ hcs))) rfl rfl rfl rfl rfl ?_|refine ro rfl rfl (OpT.never (.int .i64 0) rfl (fun hg9=>by have h10:(false:Bool)=true:=hg9.1;cases h10) rfl rfl rfl rfl rfl ⟨fun _=>Hle.sub,?_⟩))|(show ∀ _:Nat,T _ _ _ _ _;intro _))
    refine T_if rfl (fun h3=>by exfalso;simp at h3) (fun _=>?_)
    repeat' (first|refine d1 ?_|refine dd ?_|(show ∀ _:Nat,T _ _ _ _ _;intro _))
    exact T_backX (i+1,L) ⟨by dsimp only;omega,hL,hnf' hfm⟩ (by dsimp only;omega)
  ·exfalso
   simp only [decide_eq_false_iff_not] at h2
   obtain⟨m,h6,hm,hpo,-⟩:=fit_some hKn hno hlsn hvi hne
   have hfm:=List.find?_some h6
   obtain⟨j,hj,hje⟩:=List.getElem_of_mem hm
   have:=hnf j m (by omega) (by rw [List.getElem?_eq_getElem hj,hje])
   rw [this] at hfm
   cases hfm
 ·simp only [decide_eq_false_iff_not] at h5
  have he:v=lens l:=by
   have h9:=num_all (lens l)
   have h8:=at_num hvi
   rw [← hp,show p=numL (lens l) (lens l) by omega,at_num (InB.self _)] at h8
   exact h8.symm
  rw [he,alV_end,List.append_nil] at hout
  rw [hout]
  repeat' (first|refine d1 ?_|refine dd ?_|(show ∀ _:Nat,T _ _ _ _ _;intro _)|(show T _ (.code .ret::_) _ _ _;refine T_retV _ rfl ((Hle.srt (K:=[row 40 1 Ao co out.length hs,dat hs (out.map intsD)])).trans dat_row) ⟨_,trivial,rfl,by rfl⟩))
end Go.Proofs.YtmenjpmikhajfaaGreatDoor
namespace Go.Proofs.YtmenjpmikhajfaaGreatDoor
open Go.RowKit Go.Shelf Go.ChangeShapes Go.WideShapes Go.Proofs
set_option maxRecDepth 100000

@[reducible] def case20L (c:Costs) (x:Value):List Value:=[.int .i64 c.gap, .int .i64 c.norm, .int .i64 c.letter, .int .i64 c.most,x]
section
variable {H:Type} {enc:TypeId × Value→H} {W:World} {base b0:Nat} {sp:Nat→Bool} {held:Bool} {r:Reach} {v:Value} {d:DataW H} {ps:List MemPlace}
theorem arg_case20 (hv:Value.okWide Tryz.prog W r b0 56 v) (h:DataW.Trod enc Tryz.prog W base sp held 56 v d ps):∃ (c:Costs) (z:Value) (m:List (List Tok)),v = .agg (case20L c z).toArray∧Rd (wr W) [z] [.s 1 (m.map toksD)]:=by
 obtain⟨cs,rfl,_⟩:=okWide_struct Tryz.underlying56 hv
 obtain⟨fuel,hf⟩:=h
 obtain⟨ds,h1,h2⟩:=trod_wt (S:=sg) 9 rfl hf
 obtain⟨a0,b0',rfl,h3,a1,b1,rfl,h4,rfl⟩:=(show wtL (wt sg 8) [(23,0),(24,4)] ds from h2)
 obtain⟨c,rfl⟩:=costs_wt (f:=6) h3
 obtain⟨m,rfl⟩:=toksL_wt (f:=3) h4
 have h1':Rd (wr W) cs.toList (c.cells.map .v++([.s 1 (m.map toksD)]++[])):=h1
 obtain⟨ws,us,e,k1,k2⟩:=h1'.split
 have e1:=k1.vals_inv
 have hu:=k2.length
 simp only [List.length_append,List.length_cons,List.length_nil] at hu
 obtain⟨z,rfl⟩:∃ z,us=[z]:=by
  match us,hu with
  | [p],_=>exact⟨p,rfl⟩
 refine ⟨c,z,m,congrArg Value.agg (Array.ext' ?_),k2⟩
 rw [e,e1]
 rfl
theorem arg_u16 (hv:Value.okWide Tryz.prog W r b0 65 v) (h:DataW.Trod enc Tryz.prog W base sp held 65 v d ps):∃ n:Int,v = .int .u16 n∧0≤n∧n≤65535:=by
 obtain⟨fuel,hf⟩:=h
 obtain⟨ds,h1,h2⟩:=trod_wt (S:=sg) 9 rfl hf
 obtain⟨n,rfl,hn⟩:=(show ∃ n,ds=[.v (.int .u16 n)]∧(Lit.int .u16 n).wf=true from h2)
 have hc:v.cells.toList=[v]:=by
  cases v <;> first|rfl|(exfalso;unfold Value.okWide at hv;simp [Tryz.underlying65] at hv;unfold Cell.okWide at hv;simp [Tryz.underlying65] at hv;unfold Cell.ok at hv;simp [Tryz.underlying65] at hv)
 rw [hc] at h1
 refine ⟨n,h1.val,?_⟩
 simp only [Lit.wf,Bool.and_eq_true,decide_eq_true_eq] at hn
 exact⟨by have:=hn.1;simpa [IntKind.min,IntKind.signed] using this,by have:=hn.2;simpa [IntKind.max,IntKind.signed,IntKind.bits] using this⟩
end
end Go.Proofs.YtmenjpmikhajfaaGreatDoor
namespace Go.Proofs.YtmenjpmikhajfaaGreatDoor
open Go.RowKit Go.Shelf Go.Proofs

theorem RestOk.short {ls:List Nat}:∀ {cols:List (List Int)} {v:List Nat},InB ls v→RestOk ls v cols→cols.length+sumL v≤sumL ls
 | [],v,hv,_=>by have:=sumL_le hv;simpa using this
 | x::cols,v,hv,h=>by
  obtain⟨h1,h2,h3,h4,h5⟩:=h.step hv
  have hi:=toM_in hv (asc_nodup (mvOfC_asc x)) fun s hs=>⟨h4 s hs,possM_iff.1 h2 s hs⟩
  have ih:=RestOk.short hi h5
  rw [toM_sum _ v fun s hs=>by rw [hv.len];exact h4 s hs] at ih
  have:=List.length_pos_iff.2 h3
  rw [List.length_cons];omega
theorem ColsOk.short {ls:List Nat} {cols:List (List Int)} (h:ColsOk ls cols):cols.length≤sumL ls:=by
 have:=RestOk.short (InB.zero ls) (RestOk.colsOk.2 h)
 omega
end Go.Proofs.YtmenjpmikhajfaaGreatDoor
namespace Go.Proofs.YtmenjpmikhajfaaGreatDoor
open Go.RowKit Go.Shelf Go.Proofs
set_option maxRecDepth 100000
set_option maxHeartbeats 1000000

structure PS where
 A:Option Addr
 n:Nat
 cap:Nat
 vs:List Value
@[reducible] def PS.val (p:PS):Value := .slice p.A p.n p.cap
end Go.Proofs.YtmenjpmikhajfaaGreatDoor
namespace Go.Proofs.YtmenjpmikhajfaaGreatDoor
open Go.RowKit Go.Shelf Go.Proofs
set_option maxRecDepth 100000
set_option maxHeartbeats 1000000

structure ColsAt (w0:World) (p:Frag) (hs:List Value) (cols:List (List Int)):Prop where
 rd:∀ {w':World} {H:List HA} [FocusZ H p],Cls w0 w' H→Rd (wr w') hs (cols.map intsD)
 sh:∀ {i:Nat} {r:List Int},cols[i]?=some r→∃ A cap,hs[i]?=some (.slice A r.length cap)
 len:hs.length=cols.length
theorem ColsAt.old {w:World} {p:Frag} {hs:List Value} {cols:List (List Int)} (h:Rd (wr w) hs (cols.map intsD)):ColsAt w p hs cols :=
 ⟨fun hw=>h.old hw,fun hr=>by obtain⟨A,cap,h1,-⟩:=h.tabRow hr;exact⟨A,cap,h1⟩,by have:=h.length;rwa [List.length_map] at this⟩
theorem ColsAt.own {w:World} {p:Frag} {hs:List Value} {cols:List (List Int)} (h:Rd (fr p) hs (cols.map intsD)):ColsAt w p hs cols :=
 ⟨fun hw=>h.own hw,fun hr=>by obtain⟨A,cap,h1,-⟩:=h.tabRow hr;exact⟨A,cap,h1⟩,by have:=h.length;rwa [List.length_map] at this⟩
end Go.Proofs.YtmenjpmikhajfaaGreatDoor
namespace Go.Proofs.YtmenjpmikhajfaaGreatDoor
open Go.RowKit Go.Shelf Go.Proofs
set_option maxRecDepth 100000
set_option maxHeartbeats 1000000

def prV (c:Costs) (l:List TS) (v:List Nat) (i k:Nat):Int:=rst (grdOf c (tsA l i).l (tsA l k).l) (v.getD i 0) (v.getD k 0)
def prsV (c:Costs) (l:List TS) (v:List Nat):Int:=psum (prV c l v) (pairsL l.length)
def prsL (c:Costs) (l:List TS):List Int:=(List.range (volL (lens l))).map fun q=>prsV c l (atL (lens l) q)
theorem prsL_len (c:Costs) (l:List TS):(prsL c l).length=volL (lens l):=by simp [prsL]
theorem prsL_get (c:Costs) (l:List TS) {q:Nat} (h:q<volL (lens l)):(prsL c l)[q]?=some (prsV c l (atL (lens l) q)):=by
 unfold prsL;rw [List.getElem?_map,List.getElem?_range h];rfl
theorem prsL_pg (c:Costs) (l:List TS) {q:Nat} (h:q<volL (lens l)):pg (prsL c l) q=prsV c l (atL (lens l) q):=by
 unfold pg;rw [List.getD_eq_getElem?_getD,prsL_get c l h];rfl
theorem psum_eqP {f g:Nat→Nat→Int} {n:Nat} (h:∀ i k,i<k→k<n→f i k=g i k):psum f (pairsL n)=psum g (pairsL n):=by
 have h1:psum f (pairsL n)≤psum g (pairsL n):=psum_le fun p hp=>by
  obtain⟨i,k⟩:=p
  have:=pairsL_mem.1 hp
  exact Int.le_of_eq (h i k this.1 this.2)
 have h2:psum g (pairsL n)≤psum f (pairsL n):=psum_le fun p hp=>by
  obtain⟨i,k⟩:=p
  have:=pairsL_mem.1 hp
  exact Int.le_of_eq (h i k this.1 this.2).symm
 omega
theorem lens_tsA {l:List TS} (hln:∀ t∈l,t.l.length=t.n) {i:Nat} (h:i<l.length):(lens l).getD i 0=(tsA l i).l.length:=by
 have e:l[i]?=some l[i]:=List.getElem?_eq_getElem h
 rw [List.getD_eq_getElem?_getD,lens_get e,tsA_eq e,hln _ (List.getElem_mem h)];rfl
theorem prV_step {c:Costs} {l:List TS} (hln:∀ t∈l,t.l.length=t.n) {v m:List Nat} (hv:v.length=l.length) (hd:m.Nodup) (hm:∀ s∈m,s<l.length) (hp:possM (lens l) v m=true) {i k:Nat} (hi:i<l.length) (hk:k<l.length) :
  prV c l v i k≤zC c l (colT v m) i k+prV c l (toM v m) i k:=by
 have hlt:∀ s∈m,s<v.length:=fun s hs=>by rw [hv];exact hm s hs
 unfold prV zC
 rw [toM_get m v hd hlt i,toM_get m v hd hlt k,colT_get (by omega),colT_get (by omega)]
 have hpi:i∈m→v.getD i 0<(tsA l i).l.length:=fun h=>by rw [← lens_tsA hln hi];exact possM_iff.1 hp i h
 have hpk:k∈m→v.getD k 0<(tsA l k).l.length:=fun h=>by rw [← lens_tsA hln hk];exact possM_iff.1 hp k h
 by_cases h1:i∈m
 ·by_cases h2:k∈m
  ·rw [if_pos h1,if_pos h1,if_pos h2,if_pos h2]
   have:=rst_le_p (G:=grdOf c (tsA l i).l (tsA l k).l) (i:=v.getD i 0) (k:=v.getD k 0) (hpi h1) (hpk h2)
   have e:entC c (tsA l i).l ((v.getD i 0:Nat):Int) (tsA l k).l ((v.getD k 0:Nat):Int)=(grdOf c (tsA l i).l (tsA l k).l).p (v.getD i 0) (v.getD k 0):=by
    unfold entC;rw [if_pos (by omega)];rfl
   rw [e];exact this
  ·rw [if_pos h1,if_pos h1,if_neg h2,if_neg h2]
   have:=rst_le_g (G:=grdOf c (tsA l i).l (tsA l k).l) (i:=v.getD i 0) (k:=v.getD k 0) (hpi h1)
   have e:entC c (tsA l i).l ((v.getD i 0:Nat):Int) (tsA l k).l (-1)=(grdOf c (tsA l i).l (tsA l k).l).g (v.getD i 0):=by
    unfold entC;rw [if_neg (by omega),if_pos (by omega)];rfl
   rw [e];exact this
 ·by_cases h2:k∈m
  ·rw [if_neg h1,if_neg h1,if_pos h2,if_pos h2]
   have:=rst_le_h (G:=grdOf c (tsA l i).l (tsA l k).l) (i:=v.getD i 0) (k:=v.getD k 0) (hpk h2)
   have e:entC c (tsA l i).l (-1) (tsA l k).l ((v.getD k 0:Nat):Int)=(grdOf c (tsA l i).l (tsA l k).l).h (v.getD k 0):=by
    unfold entC;rw [if_neg (by omega),if_neg (by omega),if_pos (by omega)];rfl
   rw [e];exact this
  ·rw [if_neg h1,if_neg h1,if_neg h2,if_neg h2]
   have e:entC c (tsA l i).l (-1) (tsA l k).l (-1)=0:=by unfold entC;rw [if_neg (by omega),if_neg (by omega),if_neg (by omega)]
   rw [e]
   simp
theorem prV_bd {c:Costs} (hc:costE c=0) {l:List TS} (hb:∀ t∈l,t.l.length≤1000) (v:List Nat) (i k:Nat):0≤prV c l v i k∧prV c l v i k≤2000000:=by
 have h:=rst_bd (grdOf_ok hc (tsA l i).l (tsA l k).l) (v.getD i 0) (v.getD k 0)
 have hh:∀ j,(tsA l j).l.length≤1000:=fun j=>by
  by_cases hj:j<l.length
  ·exact hb _ (tsA_mem hj)
  ·have e:tsA l j=⟨none,0,0,[]⟩:=by unfold tsA;rw [List.getD_eq_getElem?_getD,List.getElem?_eq_none (by omega)];rfl
   rw [e];simp
 have h1:=hh i
 have h2:=hh k
 have e1:(grdOf c (tsA l i).l (tsA l k).l).n=(tsA l i).l.length:=rfl
 have e2:(grdOf c (tsA l i).l (tsA l k).l).m=(tsA l k).l.length:=rfl
 rw [e1,e2] at h
 unfold prV
 refine ⟨h.1,?_⟩
 have:=h.2
 omega
theorem prsV_bd {c:Costs} (hc:costE c=0) {l:List TS} (h4:l.length≤4) (hb:∀ t∈l,t.l.length≤1000) (v:List Nat):0≤prsV c l v∧prsV c l v≤12000000:=by
 have h:=prV_bd hc hb v
 have h1:psum (fun _ _=>0) (pairsL l.length)≤prsV c l v:=psum_le fun p _=>(h p.1 p.2).1
 have h2:prsV c l v≤psum (fun _ _=>2000000) (pairsL l.length):=psum_le fun p _=>(h p.1 p.2).2
 obtain h9|h9|h9|h9|h9:l.length=0∨l.length=1∨l.length=2∨l.length=3∨l.length=4:=by omega
 all_goals
  rw [h9] at h1 h2
  have e1:psum (fun _ _=>0) (pairsL l.length)=0:=psum_zero (fun _ _=>rfl) _
  rw [h9] at e1
  rw [e1] at h1
  refine ⟨h1,Int.le_trans h2 ?_⟩
  decide
theorem prsL_fea {c:Costs} (hc:costE c=0) {l:List TS} (h1:1≤l.length) (h4:l.length≤4) (hln:∀ t∈l,t.l.length=t.n) (hb:∀ t∈l,t.l.length≤1000):feaE (colZ c l) (lens l) (mvL l.length) (prsL c l)=0:=by
 have hpos:=volL_pos (lens l)
 have hll:=lens_len l
 have hmo:=mvL_ok h1 h4
 refine feaE_ok.2 ⟨prsL_len c l,?_,fun z hz=>?_,fun q hq m hm hp=>?_⟩
 ·rw [prsL_pg c l (by omega),at_last]
  unfold prsV
  rw [psum_eqP (g:=fun _ _=>0),psum_zero (fun _ _=>rfl)]
  intro i k hik hk
  unfold prV
  rw [lens_tsA hln (by omega),lens_tsA hln hk]
  exact rst_none (Nat.lt_irrefl _) (Nat.lt_irrefl _)
 ·obtain⟨q,-,rfl⟩:=List.mem_map.1 hz
  have:=prsV_bd hc h4 hb (atL (lens l) q)
  omega
 ·have hin:=atL_in (lens l) q
  have hvl:=atL_len (lens l) q
  have hti:=(toM_rem hmo hll hin hm hp).1
  rw [prsL_pg c l hq]
  unfold viaP
  rw [prsL_pg c l (numL_lt hti),at_num hti]
  unfold prsV colZ
  rw [← psum_add]
  refine psum_le fun p hp9=>?_
  obtain⟨i,k⟩:=p
  obtain⟨hik,hk⟩:=pairsL_mem.1 hp9
  exact prV_step hln (by omega) (hmo.nd m hm) (fun s hs=>hmo.lt m hm s hs) hp (by omega) hk
theorem prsV_zero (c:Costs) (l:List TS):prsV c l (List.replicate l.length 0)=ssum (dstT c l) l.length l.length:=by
 rw [ssum_eq]
 unfold prsV
 refine psum_eqP fun i k hik hk=>?_
 unfold prV dstT
 rw [if_pos hik]
 have e:∀ s,(List.replicate l.length 0).getD s 0=0:=fun s=>by
  rw [List.getD_eq_getElem?_getD,List.getElem?_replicate];split <;> rfl
 rw [e,e]
theorem prsL_zero (c:Costs) (l:List TS):pg (prsL c l) 0=ssum (dstT c l) l.length l.length:=by
 rw [prsL_pg c l (volL_pos _)]
 have h:=at_num (InB.zero (lens l))
 have e:numL (lens l) (List.replicate (lens l).length 0)=0:=by
  have:∀ (ls:List Nat) (n:Nat),numL ls (List.replicate n 0)=0:=by
   intro ls
   induction ls with
   | nil=>intro n;cases n <;> rfl
   | cons a ls ih =>
    intro n
    cases n with
    | zero=>rfl
    | succ n =>
     show 0 * _+numL ls (List.replicate n 0)=0
     rw [ih n];simp
  exact this _ _
 rw [e,lens_len] at h
 rw [h,prsV_zero]
theorem prs_two {c:Costs} (hc:costE c=0) {s t:TS} (hln:∀ x∈[s,t],x.l.length=x.n):∀ i k:Nat,i≤s.n→k≤t.n→rsV (colZ c [s,t]) (lens [s,t]) (mvL 2) [i,k]≤rst (grdOf c s.l t.l) i k:=by
 have h4:[s,t].length≤4:=by simp
 have hmo:=mvL_ok (n:=2) (by omega) (by omega)
 have hls:lens [s,t]=[s.n,t.n]:=rfl
 have hs:=hln s (.head _)
 have ht:=hln t (.tail _ (.head _))
 have hK:∀ x,0≤colZ c [s,t] x:=colZ_nn hc h4
 have hz:∀ x,colZ c [s,t] x=zC c [s,t] x 0 1:=fun x=>Int.zero_add _
 intro i k
 refine grd_ind (grdOf c s.l t.l) (P:=fun i k=>i≤s.n→k≤t.n→rsV (colZ c [s,t]) (lens [s,t]) (mvL 2) [i,k]≤rst (grdOf c s.l t.l) i k) (fun i k h1 h2 h3 hi hk=>?_) i k
 have hin:InB (lens [s,t]) [i,k]:=⟨hi,hk,trivial⟩
 have eN:(grdOf c s.l t.l).n=s.n:=hs
 have eM:(grdOf c s.l t.l).m=t.n:=ht
 have step:∀ m∈mvL 2,possM (lens [s,t]) [i,k] m=true→rsV (colZ c [s,t]) (lens [s,t]) (mvL 2) [i,k]≤colZ c [s,t] (colT [i,k] m)+rsV (colZ c [s,t]) (lens [s,t]) (mvL 2) (toM [i,k] m):=fun m hm hp=>rsV_step_le hK hmo rfl hin hm hp
 have a1:i<s.n→rsV (colZ c [s,t]) (lens [s,t]) (mvL 2) [i,k]≤(grdOf c s.l t.l).g i+rsV (colZ c [s,t]) (lens [s,t]) (mvL 2) [i+1,k]:=fun h=>by
  have:=step [0] (by decide) (possM_iff.2 fun u hu=>by rw [List.mem_singleton] at hu;subst hu;exact h)
  rw [hz] at this
  have e:zC c [s,t] (colT [i,k] [0]) 0 1=(grdOf c s.l t.l).g i:=by
   show entC c s.l (i:Nat) t.l (-1)=_
   unfold entC;rw [if_neg (by omega),if_pos (by omega)];rfl
  rw [e] at this
  exact this
 have a2:k<t.n→rsV (colZ c [s,t]) (lens [s,t]) (mvL 2) [i,k]≤(grdOf c s.l t.l).h k+rsV (colZ c [s,t]) (lens [s,t]) (mvL 2) [i,k+1]:=fun h=>by
  have:=step [1] (by decide) (possM_iff.2 fun u hu=>by rw [List.mem_singleton] at hu;subst hu;exact h)
  rw [hz] at this
  have e:zC c [s,t] (colT [i,k] [1]) 0 1=(grdOf c s.l t.l).h k:=by
   show entC c s.l (-1) t.l (k:Nat)=_
   unfold entC;rw [if_neg (by omega),if_neg (by omega),if_pos (by omega)];rfl
  rw [e] at this
  exact this
 have a3:i<s.n→k<t.n→rsV (colZ c [s,t]) (lens [s,t]) (mvL 2) [i,k]≤(grdOf c s.l t.l).p i k+rsV (colZ c [s,t]) (lens [s,t]) (mvL 2) [i+1,k+1]:=fun h h'=>by
  have:=step [0,1] (by decide) (possM_iff.2 fun u hu=>by
   rcases List.mem_cons.1 hu with rfl|hu
   ·exact h
   ·rw [List.mem_singleton] at hu;subst hu;exact h')
  rw [hz] at this
  have e:zC c [s,t] (colT [i,k] [0,1]) 0 1=(grdOf c s.l t.l).p i k:=by
   show entC c s.l (i:Nat) t.l (k:Nat)=_
   unfold entC;rw [if_pos (by omega)];rfl
  rw [e] at this
  exact this
 by_cases e1:i<s.n
 ·have b1:=h1 (by rw [eN];exact e1) (by omega) hk
  by_cases e2:k<t.n
  ·have b2:=h2 (by rw [eM];exact e2) hi (by omega)
   have b3:=h3 (by rw [eN];exact e1) (by rw [eM];exact e2) (by omega) (by omega)
   rw [rst_both (by rw [eN];exact e1) (by rw [eM];exact e2)]
   have:=a1 e1
   have:=a2 e2
   have:=a3 e1 e2
   omega
  ·rw [rst_fst (by rw [eN];exact e1) (by rw [eM];exact e2)]
   have:=a1 e1
   omega
 ·by_cases e2:k<t.n
  ·have b2:=h2 (by rw [eM];exact e2) hi (by omega)
   rw [rst_snd (by rw [eN];exact e1) (by rw [eM];exact e2)]
   have:=a2 e2
   omega
  ·rw [rst_none (by rw [eN];exact e1) (by rw [eM];exact e2)]
   have:[i,k]=lens [s,t]:=by rw [hls,show i=s.n by omega,show k=t.n by omega]
   rw [this,rsV_end]
   exact Int.le_refl _
theorem prsL_two {c:Costs} (hc:costE c=0) {l:List TS} (h2:l.length=2) (hln:∀ t∈l,t.l.length=t.n) (hb:∀ t∈l,t.l.length≤1000):prsL c l=potL (colZ c l) (lens l) (mvL l.length):=by
 have h4:l.length≤4:=by omega
 have hmo:=mvL_ok (n:=l.length) (by omega) h4
 have hll:=lens_len l
 unfold prsL potL
 refine List.map_congr_left fun q hq=>?_
 rw [List.mem_range] at hq
 have h1:=fea_pot (K:=colZ c l) (colZ_nn hc h4) hmo hll (prsL_fea hc (by omega) h4 hln hb) hq
 rw [prsL_pg c l hq,potL_pg _ _ _ hq] at h1
 have h3:rsV (colZ c l) (lens l) (mvL l.length) (atL (lens l) q)≤prsV c l (atL (lens l) q):=by
  match l,h2,hln with
  | [s,t],_,hln =>
   have hin:=atL_in (lens [s,t]) q
   have hvl:=atL_len (lens [s,t]) q
   match he:atL (lens [s,t]) q,hin,hvl with
   | [i,k],hin,_ =>
    have:=prs_two hc hln i k hin.1 hin.2.1
    show rsV (colZ c [s,t]) (lens [s,t]) (mvL 2) [i,k]≤0+rst (grdOf c s.l t.l) i k
    omega
 omega
end Go.Proofs.YtmenjpmikhajfaaGreatDoor
namespace Go.Proofs.YtmenjpmikhajfaaGreatDoor
open Go.RowKit Go.Shelf
set_option maxRecDepth 100000
set_option maxHeartbeats 1000000

def IterZ (P:Program) (w0:World) (f:FuncId) (fs cs:List Value) (cap:List HA) (Q:Nat→List Value→List HA→Prop) (n:Nat) (pz:Frag):Prop :=
 Enters P f∧∀ l GP X w Hj,(∀ j H,GP j H→Hle H [fz pz])→YieldsO P w0 l GP X Q n→GP 0 Hj→Cls w0 w (cap++Hj) →
  CallsIn (Fr none) 0 P f (fs++(yv l::cs)).toArray w (RIt w0 cap GP X n)
theorem iterZ_of (S : Sig) {w0 : World} {f : FuncId} {fn : Func} {c : Code} {fs cs : List Value} {cap : List HA} {Q : Nat → List Value → List HA → Prop} {n : Nat} {pz : Frag} (hf : S.P.funcs[f]? = some fn) (hn : (fn.name == "runtime.NumGoroutine") = false) (hb : fn.body = some c)
  (hlen:Nat.ble (fs.length+(1+cs.length)) fn.ntmps=true)
  (h:∀ l GP X Hj,(∀ j H,GP j H→Hle H [fz pz])→YieldsO S.P w0 l GP X Q n→GP 0 Hj→T (IC S fn.ntmps w0 fn (RIt w0 cap GP X n)) (nf 60 [.code c]) (zipE 0 (fs++(yv l::cs))) [] (cap++Hj)):IterZ S.P w0 f fs cs cap Q n pz:=by
 refine ⟨enters_of hf hn hb,fun l GP X w Hj hz hY h0 hw=>callsIn_of_wp_marks (n:=0) hf hb trivial ?_⟩
 generalize hargs:fs++(yv l::cs)=args
 have hlen':args.length≤fn.ntmps:=by
  have:=Nat.le_of_ble_eq_true hlen
  rw [← hargs];simp;omega
 have ha:Agrees ⟨fn.ntmps,[]⟩ (allOf (nf 60 [.code c])) (zipE 0 args) [] { tmps:=args.toArray++Array.replicate (fn.ntmps - args.toArray.size) undef,defers:=[] }:=by
  refine ⟨rfl,by simp;omega,fun s v hv=>?_,fun _ _ _ h=>(by cases h),fun _ _ _ h=>(by cases h)⟩
  obtain⟨_,h2⟩:=zipE_spec args 0 s v hv
  simp only [Nat.sub_zero] at h2
  have hs:s<args.length:=(List.getElem?_eq_some_iff.1 h2).1
  simp [Array.getD_eq_getD_getElem?,Array.getElem?_append,hs]
  rw [List.getElem?_eq_getElem hs] at h2
  simpa using h2
 have h1:=h l GP X Hj hz hY h0
 rw [hargs] at h1
 have:=nf_spec (h1 _ _ ha hw)
 simp only [sem] at this
 refine wpIn_mono this fun e a w' q=>?_
 cases e <;> first|exact q|exact q.elim
theorem T_rangeZ {S:Sig} {m:Nat} {ds:List Deferred} {w0:World} {fn:Func} {Φ:Value→List HA→Prop} {g:Operand} {ps:Array Tmp} {assign body:Code} {k:List It} {env:Env} {ec:EnvC} {H:List HA}
  {f:FuncId} {fs cs:List Value} {cap:List HA} {Q:Nat→List Value→List HA→Prop} {n:Nat} {pz:Frag} (hit:IterZ S.P w0 f fs cs cap Q n pz)
  (hg:evX env [] [] g=some (.func (.func f) fs.toArray cs.toArray)) (hps:∀ (j:Nat) (x:List Value) (B:List HA),j<n→Q j x B→x.length=ps.size∧inP m (ps.toList.zip x)=true)
  (GP:Nat→List HA→Prop) (XR:List HA→Prop) (XE:Nat→List HA→Prop) (H0:List HA) (hz:∀ j H,GP j H→Hle H [fz pz]) (h0:GP 0 H0) (hH:Hle H (cap++H0))
  (hround:∀ (L:Nat) (r:Loop) (j:Nat) (x:List Value) (B Hj K:List HA),r.state = .ready→j<n→Q j x B→GP j Hj→T (RA (RC S m w0 L (busy r) GP XR XE j K) L body) (nf 60 [.code assign]) (envP (ps.toList.zip x) env) [] (lrec L r::(Hj++(B++K))))
  (hn:∀ D Hn,GP n Hn→T (FC S m (mkD D::ds) w0 fn Φ) (nf 60 k) env [] (dfr D::(cap++Hn)))
  (hret:∀ D Hx,XR Hx→T (FC S m (mkD D::ds) w0 fn Φ) (.code .ret::k) env [] (dfr D::(cap++Hx)))
  (hex:∀ D id Hx,XE id Hx→T (FC S m (mkD D::ds) w0 fn Φ) (nf 60 (.code (.exit id)::k)) env [] (dfr D::(cap++Hx))) :
  T (FC S m ds w0 fn Φ) (.code (.rangeFunc g ps assign body)::k) env ec H:=by
 refine T.mk fun a w ha hw=>?_
 have ha0:Agrees ⟨m,ds⟩ #[] env [] a:=ha.plain
 replace hw:=Cls.le hw hH
 refine wpIn_rangeFunc fun fn' _=>?_
 -- the two blocks
 have hw1:=(hw.alloc (.deferred (some [])) (A:=dfr w.heap.size) rfl)
 have hsz:(w.alloc (.deferred (some []))).heap.size=w.heap.size+1:=World.size_alloc _ _
 generalize hD:w.heap.size=D at hw1 hsz
 generalize hr0:({ state := .ready,pending:=none,fn:=fn',tmps:=a.tmps,params:=ps,assign,body,defers:=D }:Loop)=r
 have hrdy:r.state = .ready:=by rw [← hr0]
 have hpd:r.pending=none:=by rw [← hr0]
 have hw2:=(hw1.alloc (.loop r) (A:=lrec (D+1) r) (by rw [hsz];rfl))
 have hen:=run_enterLoop_outer (P:=S.P) (w:=w) fn' a.tmps ps assign body
 rw [hD,hr0] at hen
 have hgv:=evX_spec (all := #[]) ha0 (Holds.nil _ _) hg
 have hargs:(fs.toArray ++ #[yv (D+1)]++cs.toArray)=(fs++(yv (D+1)::cs)).toArray:=Array.ext' (by simp)
 refine ⟨D+1,[mkD D],_,⟨.fn (.func f) cs.toArray,fs.toArray ++ #[yv (D+1)]⟩,(w.alloc (.deferred (some []))).alloc (.loop r),f,(fs++(yv (D+1)::cs)).toArray,(w.alloc (.deferred (some []))).alloc (.loop r),hen,?_,fun _ _=>trivial,?_,fun h=>(by cases h),?_⟩
 ·simp [resolve,hgv,Deferred.ofValue,yv]
  rfl
 ·have:=hit.1 (fs++(yv (D+1)::cs)).toArray ((w.alloc (.deferred (some []))).alloc (.loop r))
  rw [← hargs] at this ⊢
  simpa [invoke] using this
 · -- the rounds
  have hYd:YieldsO S.P w0 (D+1) (fun j H'=>∃ Hj,H'=lrec (D+1) r::dfr D::Hj∧GP j Hj) (fun Y=>∃ Hx jump,Y=lrec (D+1) { r with state := .done,pending:=some jump }::dfr D::Hx∧((jump = .ret∧XR Hx)∨∃ id,jump = .exit id∧XE id Hx)) Q n:=by
   rintro j x B _ K w1 hj hQ ⟨Hj,rfl,hGj⟩ hc
   have hL:=(hc.obj (i:=0) rfl).1
   obtain⟨hxl,hin⟩:=hps j x B hj hQ
   have hy:=run_yield (P:=S.P) (args:=x.toArray) hL (by rw [← hr0];simp [hxl])
   refine ⟨_,_,_,_,hy,roundIn_of_wpIn trivial ?_⟩
   have hc':Cls w0 w1 (lrec (D+1) r::(Hj++(B++(dfr D::K)))):=hc.le (Hle.perm (.cons _ (by
    have h1:=(List.perm_middle (a:=dfr D) (l₁:=Hj++B) (l₂:=K)).symm
    rw [List.append_assoc,List.append_assoc] at h1
    exact h1)))
   have hT:=hround (D+1) r j x B Hj (dfr D::K) hrdy hj hQ hGj
   have hag:Agrees ⟨m,[]⟩ #[] env [] { tmps:=r.tmps,defers:=[] }:=by
    rw [← hr0]
    exact⟨rfl,ha0.size,ha0.at_,fun _ _ _ h=>(by cases h),fun _ _ _ h=>(by cases h)⟩
   have hag2:=Agrees.putAll (N:=⟨m,[]⟩) (l:=ps.toList.zip x) hin hag
   have htm:(r.params.zip x.toArray).foldl (fun tmps (p:Tmp × Value)=>tmps.setIfInBounds p.1 p.2) r.tmps=(ps.toList.zip x).foldl (fun tmps (p:Nat × Value)=>tmps.setIfInBounds p.1 p.2) r.tmps:=by
    rw [← hr0, ← Array.foldl_toList,Array.toList_zip]
   rw [htm]
   have h1:=nf_spec (hT _ w1 ⟨hag2.defers,hag2.size,hag2.at_,fun _ _ _ h=>(by cases h),fun _ _ _ h=>(by cases h)⟩ hc')
   simp only [sem] at h1
   have hra:r.assign=assign:=by rw [← hr0]
   have hrb:r.body=body:=by rw [← hr0]
   rw [← hra, ← hrb] at h1
   refine wpIn_mono (F:=Fr (some (D+1))) h1 fun e a1 w2 q=>?_
   cases e <;> first|exact q.elim|skip
   obtain⟨w3,hb,hbody⟩:=q
   refine ⟨w3,hb,wpIn_mono hbody fun e a2 w4 q=>?_⟩
   have fin:∀ H':List HA,Cls w0 w4 (lrec (D+1) (busy r)::(H'++(dfr D::K)))→∀ jump,∃ w',(Instr.endRound (D+1) jump).run S.P w4 = .ok (.bool jump.isNone) w'∧Cls w0 w' (lrec (D+1) { r with state:=if jump.isNone then .ready else .done,pending:=jump }::dfr D::(H'++K)):=by
    intro H' hcl jump
    have hL4:=(hcl.obj (i:=0) rfl).1
    refine ⟨_,run_endRound jump hL4,?_⟩
    have:=hcl.putObj (i:=0) rfl (.loop { r with state:=if jump.isNone then .ready else .done,pending:=jump })
    exact this.le (Hle.perm ((List.perm_middle (a:=dfr D) (l₁:=H') (l₂:=K)).cons _))
   cases e with
   | normal =>
    obtain⟨H',g1,g2⟩:=q
    obtain⟨w',e1,e2⟩:=fin H' g2 none
    refine ⟨_,w',e1, .inl ⟨rfl,_,⟨H',rfl,g1⟩,?_⟩⟩
    have er:({ r with state := .ready,pending:=none }:Loop)=r:=by rw [← hr0]
    simp only [Option.isNone_none,if_true] at e2
    rw [er] at e2
    exact e2
   | ret =>
    obtain⟨H',g1,g2⟩:=q
    obtain⟨w',e1,e2⟩:=fin H' g2 (some .ret)
    exact⟨_,w',e1, .inr ⟨rfl,_,⟨H', .ret,rfl, .inl ⟨rfl,g1⟩⟩,e2⟩⟩
   | exit id =>
    obtain⟨H',g1,g2⟩:=q
    obtain⟨w',e1,e2⟩:=fin H' g2 (some (.exit id))
    exact⟨_,w',e1, .inr ⟨rfl,_,⟨H', .exit id,rfl, .inr ⟨id,rfl,g1⟩⟩,e2⟩⟩
   | goto t=>exact q.elim
   | panic c=>exact q.elim
   | outgrown=>exact q.elim
  have hstart:Cls w0 ((w.alloc (.deferred (some []))).alloc (.loop r)) (cap++(lrec (D+1) r::dfr D::H0)):=by
   have h1:Cls w0 ((w.alloc (.deferred (some []))).alloc (.loop r)) (lrec (D+1) r::dfr D::(cap++H0)):=hw2
   exact h1.le (Hle.rot2 _ _ cap H0)
  have hcall:=hit.2 (D+1) _ _ _ _ (fun j H' ⟨Hj,e,hG⟩=>by subst e;exact (Hle.tail _ _).trans ((Hle.tail _ _).trans (hz j Hj hG))) hYd ⟨H0,rfl,h0⟩ hstart
  have hcall':CallsIn (Fr none) 0 S.P f (fs++(yv (D+1)::cs)).toArray ((w.alloc (.deferred (some []))).alloc (.loop r)) _:=hcall
  refine CallsIn.mono hcall' ?_
  rintro e w3 ⟨⟨v,rfl⟩,hend⟩
  have hsem:=sem_N (FC S m ds w0 fn Φ) ⟨m,mkD D::ds⟩ k
  have hag:∀ all,Agrees ⟨m,mkD D::ds⟩ all env [] { a with defers:=[mkD D]++a.defers }:=fun all =>
   ⟨by simp [ha0.defers],ha0.size,ha0.at_,fun _ _ _ h=>(by cases h),fun _ _ _ h=>(by cases h)⟩
  rcases hend with⟨_,⟨Hn,rfl,hGn⟩,hc⟩|⟨_,⟨Hx,jump,rfl,hj⟩,hc⟩
  ·have hc:=hc.le (Hle.unrot2 _ _ cap Hn)
   have hL:=(hc.obj (i:=0) rfl).1
   refine ⟨none,w3.putObj (D+1) (.loop { r with state := .exhausted }),(run_endLoop hL (by rw [hrdy];intro h;cases h)).trans (by rw [hpd]),?_⟩
   have hc2:=(hc.putObj (i:=0) rfl (.loop { r with state := .exhausted })).le (Hle.tail _ _)
   have:=nf_spec (hn D Hn hGn _ _ (hag _) hc2)
   show (sem (FC S m ds w0 fn Φ) k).1 _ _
   rw [← hsem]
   exact this
  ·have hc:=hc.le (Hle.unrot2 _ _ cap Hx)
   have hL:=(hc.obj (i:=0) rfl).1
   refine ⟨_,_,run_endLoop hL (by intro h;cases h),?_⟩
   have hc2:=(hc.putObj (i:=0) rfl (.loop { ({ r with state := .done,pending:=some jump }:Loop) with state := .exhausted })).le (Hle.tail _ _)
   rcases hj with⟨rfl,hX⟩|⟨id,rfl,hX⟩
   ·have:=hret D Hx hX _ _ (hag _) hc2
    have h9:(sem (FC S m (mkD D::ds) w0 fn Φ) (.code .ret::k)).1 _ _:=this
    simp only [sem] at h9
    have h10:sem (FC S m (mkD D::ds) w0 fn Φ) k=sem (FC S m ds w0 fn Φ) k:=hsem
    rw [h10] at h9
    exact h9
   ·have:=nf_spec (hex D id Hx hX _ _ (hag _) hc2)
    simp only [sem] at this
    have h10:sem (FC S m (mkD D::ds) w0 fn Φ) k=sem (FC S m ds w0 fn Φ) k:=hsem
    rw [h10] at this
    exact this

theorem rdRz {w0 w:World} {pz:Frag} {ρ:Rdr} (hρ:∀ w,Below w0.heap.size w0 w→(fr pz).le (wr w)→ρ.le (wr w)) (hw:Cls w0 w [fz pz]) {b o:Nat} {u:Value} (h:ρ b o=some u):RdC w b o [u] :=
 RdC.one (hρ w hw.below (hw.fz (p:=pz)) _ _ _ h)
end Go.Proofs.YtmenjpmikhajfaaGreatDoor
namespace Go.Proofs.YtmenjpmikhajfaaGreatDoor
open Go.RowKit Go.Shelf Go.Proofs
set_option maxRecDepth 100000
set_option maxHeartbeats 1000000

def spcL (c:Costs) (A:Option Addr) (n ca:Nat) (M:Value) (V:Nat):List Value:=[.int .i64 c.gap, .int .i64 c.norm, .int .i64 c.letter, .int .i64 c.most, .slice A n ca,M, .int .i64 (V:Nat)]
theorem rdPart {C:Cx} {H:List HA} {b off:Nat} {cs:List Value} {t:TypeId} {rb:HA→List HA} [hf:Focus H b cs t rb] {vs:List Value} (h:(cs.drop off).take vs.length=vs):∀ w,Cls C.w0 w H→RdC w b off vs :=
 rdOwn fun j u hu=>by
  rw [← h] at hu
  have hj:j<vs.length:=by
   refine Nat.lt_of_not_le fun h9=>?_
   rw [List.getElem?_eq_none (by rw [List.length_take];omega)] at hu
   cases hu
  rw [List.getElem?_take_of_lt hj,List.getElem?_drop] at hu
  exact hu
theorem Grp.blw {w0 w:World} {A:Option Addr} {n:Nat} {l:List TS} (h:Grp w0 A n l) (hb:Below w0.heap.size w0 w):Grp w A n l :=
 ⟨h.hst.below hb,src_below h.hs hb,h.hn,h.hb,⟨fun t ht=>src_below (h.ok.src t ht) hb,h.ok.len,h.ok.bd⟩,h.nb,h.sm⟩
theorem number20_spec (c:Costs) (A:Option Addr) (n ca:Nat) (M:Value) (V:Nat) (l:List TS) (v:List Nat) (w:World) (hg:Grp w A n l) (h4:n≤4) (hv:InB (lens l) v) (hV:volL (lens l)≤1000000) :
  Spec Tryz.prog 124 [.agg (spcL c A n ca M V).toArray, .agg (atV v).toArray] w (fun u R=>u = .int .i64 (numL (lens l) v:Nat)∧R=[]):=by
 have hn:=hg.hn
 have hll:=lens_len l
 have hvl:=hv.len
 refine spec_of sg Tryz.func124 rfl rfl rfl ?_
 refine T_op (OpT.box (cs:=spcL c A n ca M V) rfl rfl rfl rfl rfl rfl rfl (fun p2=>?_))
 refine T_op (OpT.box (cs:=atV v) rfl rfl rfl rfl rfl rfl rfl (fun p3=>?_))
 repeat' (first|refine d1 ?_|refine dd ?_|(show ∀ _:Nat,T _ _ _ _ _;intro _))
 refine T_loopX (fun k:Nat=>[(11, .int .i64 (k:Nat)),(5, .int .i64 (numL ((lens l).take k) (v.take k):Nat))]) (fun _=>[blk p3 (atV v) 145,blk p2 (spcL c A n ca M V) 132]) (fun k=>k≤n) (fun k=>n - k) 0 (Nat.zero_le _) ?_
 intro k hk
 have hlt:=numP_lt hv k
 repeat' (first|refine d1 ?_|refine dd ?_|(show ∀ _:Nat,T _ _ _ _ _;intro _))
 refine T_if rfl (fun h=>?_) (fun h=>?_)
 ·simp only [decide_eq_true_eq] at h
  have hkn:k<n:=by omega
  obtain⟨b,o,rfl⟩:=hg.hs.base (by omega)
  obtain⟨t,ht,htm,hrt⟩:=hg.get (k:=k) hkn
  obtain⟨a,ha⟩:∃ a,v[k]?=some a:=⟨_,List.getElem?_eq_getElem (by omega)⟩
  have htb:=hg.nb t htm
  have hst:=numP_succ hv (lens_get ht) ha
  have hlt2:=numP_lt hv (k+1)
  have hav:(atV v)[0+(k:Int).toNat * 1]?=some (.int .i64 (a:Nat)):=by
   have h9:=atV_get v (s:=k) (by omega)
   rw [show 0+(k:Int).toNat * 1=k by omega,h9,List.getD_eq_getElem?_getD,ha];rfl
  have e:((numL ((lens l).take k) (v.take k):Nat):Int) * ((t.n:Int)+1)=((numL ((lens l).take k) (v.take k) * (t.n+1):Nat):Int):=by simp
  have e2:((numL ((lens l).take (k+1)) (v.take (k+1)):Nat):Int)=((numL ((lens l).take k) (v.take k):Nat):Int) * ((t.n:Int)+1)+(a:Int):=by rw [hst];simp
  generalize numL ((lens l).take k) (v.take k)=q at hlt hst e e2 ⊢
  repeat' (first|refine d1 ?_|refine dd ?_|(show T _ (.ops _ (_::_)::_) _ _ _;first|refine T_val rfl (Val.nilc rfl) rfl rfl rfl ?_|refine T_valC rfl (Val.nilc rfl) rfl rfl rfl rfl rfl ?_|refine T_val rfl (Val.load rfl (fun hg=>rdOwn1 (b:=p3) hav)) rfl rfl rfl ?_|refine T_valC rfl (Val.load rfl (fun hg=>rdOwn1 (b:=p3) hav)) rfl rfl rfl rfl rfl ?_)|(show T _ (.run _ _ (_::_) _ _::_) _ _ _;first|refine rv rfl rfl rfl (Val.nilc rfl) rfl rfl rfl ?_|refine rg rfl rfl rfl (Val.nilc rfl) rfl rfl rfl rfl rfl ?_|refine rv rfl rfl rfl (Val.load rfl (fun hg=>rdOwn1 (b:=p3) hav)) rfl rfl rfl ?_|refine rg rfl rfl rfl (Val.load rfl (fun hg=>rdOwn1 (b:=p3) hav)) rfl rfl rfl rfl rfl ?_)|(show ∀ _:Nat,T _ _ _ _ _;intro _))
  exact T_backX (k+1) (by omega) (by omega) (hE:=⟨rfl,by rw [e2];rfl,trivial⟩)
 ·simp only [decide_eq_false_iff_not] at h
  obtain rfl:k=n:=by omega
  rw [List.take_of_length_le (by omega),List.take_of_length_le (by omega)]
  repeat' (first|refine d1 ?_|refine dd ?_|(show ∀ _:Nat,T _ _ _ _ _;intro _)|(show T _ (.code .ret::_) _ _ _;refine T_retV [] rfl (Hle.none _) ⟨rfl,rfl⟩))
theorem stp_drop:∀ {ls:List Nat} {s:Nat},s<ls.length→stpL ls s=volL (ls.drop (s+1))
 | n::ls,0,_=>rfl
 | n::ls,s+1,h=>stp_drop (ls:=ls) (by simpa using h)
theorem vol_drop {ls:List Nat} {s n:Nat} (h:ls[s]?=some n):volL (ls.drop s)=(n+1) * volL (ls.drop (s+1)):=by
 obtain⟨h1,e⟩:=List.getElem?_eq_some_iff.1 h
 rw [List.drop_eq_getElem_cons h1,e];rfl
def atK (v:List Nat) (s:Nat):List Value:=[.int .i64 (if s≤0 then v.getD 0 0 else 0:Nat), .int .i64 (if s≤1 then v.getD 1 0 else 0:Nat), .int .i64 (if s≤2 then v.getD 2 0 else 0:Nat), .int .i64 (if s≤3 then v.getD 3 0 else 0:Nat)]
theorem atK_start {v:List Nat} {n:Nat} (hv:v.length=n):atK v n=atJ [] 0:=by
 have h:∀ s,(if n≤s then v.getD s 0 else 0)=0:=fun s=>by
  by_cases hs:n≤s
  ·rw [if_pos hs,List.getD_eq_getElem?_getD,List.getElem?_eq_none (by omega)];rfl
  ·rw [if_neg hs]
 unfold atK atJ
 rw [h,h,h,h];rfl
theorem atK_zero (v:List Nat):atK v 0=atV v:=rfl
theorem at20_spec (c:Costs) (A:Option Addr) (n ca:Nat) (M:Value) (V:Nat) (l:List TS) (p:Nat) (w:World) (hg:Grp w A n l) (h4:n≤4) (hv:volL (lens l)≤1000000) (hp:p<volL (lens l)) :
  Spec Tryz.prog 120 [.agg (spcL c A n ca M V).toArray, .int .i64 (p:Nat)] w (fun u R=>u = .agg (atV (atL (lens l) p)).toArray∧R=[]):=by
 have hn:=hg.hn
 have hll:=lens_len l
 have hal:=atL_len (lens l) p
 refine spec_of sg Tryz.func120 rfl rfl rfl ?_
 refine T_op (OpT.box (cs:=spcL c A n ca M V) rfl rfl rfl rfl rfl rfl rfl (fun p2=>?_))
 repeat' (first|refine d1 ?_|refine dd ?_|(show T _ (.ops _ (_::_)::_) _ _ _;first|refine T_val rfl (Val.nilc rfl) rfl rfl rfl ?_|refine T_valC rfl (Val.nilc rfl) rfl rfl rfl rfl rfl ?_)|(show T _ (.run _ _ (_::_) _ _::_) _ _ _;first|refine rv rfl rfl rfl (Val.nilc rfl) rfl rfl rfl ?_|refine rg rfl rfl rfl (Val.nilc rfl) rfl rfl rfl rfl rfl ?_)|(show ∀ _:Nat,T _ _ _ _ _;intro _))
 rename_i p4 p5
 refine T_loopX (fun s:Nat=>[(6, .int .i64 ((s:Int) - 1)),(1, .int .i64 (p / volL ((lens l).drop s):Nat))]) (fun s=>[blk p5 (atK (atL (lens l) p) s) 145,blk p4 (atJ [] 0) 145,blk p2 (spcL c A n ca M V) 132]) (fun s=>s≤n) (fun s=>s) n (Nat.le_refl _) ?_ (hE:=⟨rfl,by rw [List.drop_of_length_le (by omega)];show lookE _ 1=some (Value.int .i64 (p / 1:Nat));rw [Nat.div_one];rfl,trivial⟩) (hG:=by rw [atK_start (by omega)];exact Hle.refl _)
 rintro s hs
 repeat' (first|refine d1 ?_|refine dd ?_|(show ∀ _:Nat,T _ _ _ _ _;intro _))
 refine T_if rfl (fun h=>?_) (fun h=>?_)
 ·simp only [decide_eq_true_eq] at h
  obtain⟨s,rfl⟩:∃ r,s=r+1:=⟨s - 1,by omega⟩
  have hsn:s<n:=by omega
  obtain⟨b,o,rfl⟩:=hg.hs.base (by omega)
  obtain⟨t,ht,htm,hr⟩:=hg.get (k:=s) hsn
  have htn:=hg.nb t htm
  have hr9:RdC w b (o+(((s+1:Nat):Int) - 1).toNat * 1) [.slice t.A t.n t.cap]:=by rw [show (((s+1:Nat):Int) - 1)=(s:Int) by omega];exact hr
  obtain⟨q,hq⟩:∃ q,q=p / volL ((lens l).drop (s+1)):=⟨_,rfl⟩
  have hdl:q≤p:=by rw [hq];exact Nat.div_le_self _ _
  have hdv:p / volL ((lens l).drop s)=q / (t.n+1):=by rw [vol_drop (lens_get ht),hq,Nat.div_div_eq_div_mul,Nat.mul_comm]
  have hat:=atL_get p (lens_get ht)
  rw [stp_drop (by omega), ← hq] at hat
  have hgd:(atL (lens l) p).getD s 0=q % (t.n+1):=by rw [List.getD_eq_getElem?_getD,hat];rfl
  rw [← hq]
  obtain⟨y,hy⟩:∃ y,y=q / (t.n+1):=⟨_,rfl⟩
  have e1:((q:Int) / ((t.n:Int)+1))=(y:Int):=by rw [hy];simp
  have e2:((q:Int) % ((t.n:Int)+1))=((q % (t.n+1):Nat):Int):=by simp
  have hdl2:y≤q:=by rw [hy];exact Nat.div_le_self _ _
  have hset:(atK (atL (lens l) p) (s+1)).set (0+(((s+1:Nat):Int) - 1).toNat * 1) (.int .i64 ((atL (lens l) p).getD s 0:Nat))=atK (atL (lens l) p) s:=by
   rw [show 0+(((s+1:Nat):Int) - 1).toNat * 1=s by omega]
   obtain rfl|rfl|rfl|rfl:s=0∨s=1∨s=2∨s=3:=by omega
   all_goals simp [atK]
  have hjl:(atK (atL (lens l) p) (s+1)).length=4:=rfl
  repeat' (first|refine d1 ?_|(show T _ (.ops _ (_::_)::_) _ _ _;first|refine T_val rfl (Val.nilc rfl) rfl rfl rfl ?_|refine T_valC rfl (Val.nilc rfl) rfl rfl rfl rfl rfl ?_)|(show T _ (.run _ _ (_::_) _ _::_) _ _ _;first|refine rv rfl rfl rfl (Val.nilc rfl) rfl rfl rfl ?_|refine rg rfl rfl rfl (Val.nilc rfl) rfl rfl rfl rfl rfl ?_)|(show ∀ _:Nat,T _ _ _ _ _;intro _))
  refine rsH [blk p2 (spcL c (some ⟨b,o,none⟩) n ca M V) 132] 1000 [0,1,2,3,4,5,6,7,8,9] ?_
  repeat' (first|refine d1 ?_|refine dd ?_|(show T _ (.ops _ (_::_)::_) _ _ _;first|refine T_val rfl (Val.nilc rfl) rfl rfl rfl ?_|refine T_valC rfl (Val.nilc rfl) rfl rfl rfl rfl rfl ?_|refine T_val rfl (Val.vc rfl (fun _=>⟨by omega,by omega,by rw [e1];simp only [inK];omega⟩)) rfl rfl rfl ?_|refine T_valC rfl (Val.vc rfl (fun _=>⟨by omega,by omega,by rw [e1];simp only [inK];omega⟩)) rfl rfl rfl rfl rfl ?_|refine T_val rfl (Val.vc rfl (fun _=>⟨by omega,by omega⟩)) rfl rfl rfl ?_|refine T_valC rfl (Val.vc rfl (fun _=>⟨by omega,by omega⟩)) rfl rfl rfl rfl rfl ?_)|(show T _ (.run _ _ (_::_) _ _::_) _ _ _;first|refine rv rfl rfl rfl (Val.nilc rfl) rfl rfl rfl ?_|refine rg rfl rfl rfl (Val.nilc rfl) rfl rfl rfl rfl rfl ?_|refine rv rfl rfl rfl (Val.vc rfl (fun _=>⟨by omega,by omega,by rw [e1];simp only [inK];omega⟩)) rfl rfl rfl ?_|refine rg rfl rfl rfl (Val.vc rfl (fun _=>⟨by omega,by omega,by rw [e1];simp only [inK];omega⟩)) rfl rfl rfl rfl rfl ?_|refine rv rfl rfl rfl (Val.vc rfl (fun _=>⟨by omega,by omega⟩)) rfl rfl rfl ?_|refine rg rfl rfl rfl (Val.vc rfl (fun _=>⟨by omega,by omega⟩)) rfl rfl rfl rfl rfl ?_|refine ro rfl rfl (OpT.store rfl rfl rfl rfl (by rw [hjl];omega) ⟨fun _=>Hle.tail _ _,?_⟩))|(show ∀ _:Nat,T _ _ _ _ _;intro _))
  refine T_backX s (by omega) (by omega) (hE:=⟨by rw [show ((s:Nat):Int) - 1=(((s+1:Nat):Int) - 1) - 1 by omega];rfl,by rw [hdv, ← hy, ← e1];rfl,trivial⟩) (hG:=?_)
  rw [← hset,hgd, ← e2]
  exact Hle.refl _
 ·simp only [decide_eq_false_iff_not] at h
  obtain rfl:s=0:=by omega
  rw [atK_zero]
  repeat' (first|refine d1 ?_|refine dd ?_|(show ∀ _:Nat,T _ _ _ _ _;intro _))
  refine T_le (H':=[blk p4 (atV (atL (lens l) p)) 145]) (Hle.nth 1 rfl) ?_
  exact T_retM (vs:=[.agg (atV (atL (lens l) p)).toArray]) [] ⟨⟨p4,_,atV (atL (lens l) p),rfl,rfl,rfl,rfl,(fun h=>by cases h),rfl,rdAll⟩,trivial⟩ (Hle.none _) ⟨rfl,rfl⟩
theorem steps20_fn (c:Costs) (A:Option Addr) (n ca:Nat) (M:Value) (V p:Nat) (w:World):Spec Tryz.prog 115 [.agg (spcL c A n ca M V).toArray, .int .i64 (p:Nat)] w
  (fun v R=>∃ g:Nat × Nat,True∧v = .func (.func 184) #[] #[.pointer (some ⟨g.1,0,none⟩), .pointer (some ⟨g.2,0,none⟩)]∧R=[blk g.2 [.int .i64 (p:Nat)] 3,blk g.1 (spcL c A n ca M V) 132]):=by
 refine spec_of sg Tryz.func115 rfl rfl rfl ?_
 refine T_op (OpT.box (cs:=spcL c A n ca M V) rfl rfl rfl rfl rfl rfl rfl (fun g1=>?_))
 refine T_op (OpT.box (cs:=[.int .i64 (p:Nat)]) rfl rfl rfl rfl rfl rfl rfl (fun g2=>?_))
 repeat' (first|refine d1 ?_|refine dd ?_|(show ∀ _:Nat,T _ _ _ _ _;intro _)|(show T _ (.code .ret::_) _ _ _;refine T_retV _ rfl (Hle.refl _) ⟨(g1,g2),trivial,rfl,rfl⟩))
end Go.Proofs.YtmenjpmikhajfaaGreatDoor
namespace Go.Proofs.YtmenjpmikhajfaaGreatDoor
open Go.RowKit Go.Shelf Go.Proofs
set_option maxRecDepth 100000
set_option maxHeartbeats 1000000

theorem col_none (n s:Nat):(List.replicate n (-1:Int)).getD s (-1) = -1:=by
 rw [List.getD_eq_getElem?_getD,List.getElem?_replicate];split <;> rfl
theorem ownJ_none (l:List TS) (n k:Nat):ownJ l (List.replicate n (-1)) k=ownJ l (List.replicate n (-1)) 0:=by
 unfold ownJ
 refine List.map_congr_left fun s _=>?_
 rw [col_none,if_neg (by omega),if_neg (by omega)]
theorem thJ_none (l:List TS) (n k:Nat):thJ l (List.replicate n (-1)) k=thJ l (List.replicate n (-1)) 0:=by
 unfold thJ
 refine List.map_congr_left fun s _=>?_
 rw [col_none,decide_eq_false (by omega),decide_eq_false (by omega)]
theorem set_getD {col:List Int} {i s:Nat} {z:Int} (hi:i<col.length):(col.set i z).getD s (-1)=if i=s then z else col.getD s (-1):=by
 rw [List.getD_eq_getElem?_getD,List.getElem?_set]
 by_cases e:i=s
 ·subst e;rw [if_pos rfl,if_pos rfl,if_pos hi];rfl
 ·rw [if_neg e,if_neg e, ← List.getD_eq_getElem?_getD]
theorem ownJ_set {l:List TS} {col:List Int} {i:Nat} {z:Int} (hi:i<l.length) (hl:col.length=l.length) (hz:0≤z):ownJ l (col.set i z) l.length=(ownJ l col l.length).set i (tkA (tsA l i).l z.toNat):=by
 refine List.ext_getElem? fun s=>?_
 rw [List.getElem?_set,ownJ_len]
 unfold ownJ
 rw [List.getElem?_map,List.getElem?_map]
 rcases Nat.lt_or_ge s l.length with h2|h2
 ·rw [List.getElem?_range h2]
  simp only [Option.map_some]
  rw [set_getD (by omega)]
  by_cases e:i=s
  ·subst e
   rw [if_pos rfl,if_pos rfl,if_pos hi,if_pos ⟨hi,hz⟩]
  ·rw [if_neg e,if_neg e]
 ·rw [if_neg (by omega),List.getElem?_eq_none (by simp;omega)]
  rfl
theorem thJ_set {l:List TS} {col:List Int} {i:Nat} {z:Int} (hi:i<l.length) (hl:col.length=l.length) (hz:0≤z):thJ l (col.set i z) l.length=(thJ l col l.length).set i true:=by
 refine List.ext_getElem? fun s=>?_
 rw [List.getElem?_set,thJ_len]
 unfold thJ
 rw [List.getElem?_map,List.getElem?_map]
 rcases Nat.lt_or_ge s l.length with h2|h2
 ·rw [List.getElem?_range h2]
  simp only [Option.map_some]
  rw [set_getD (by omega)]
  by_cases e:i=s
  ·subst e
   rw [if_pos rfl,if_pos rfl,if_pos hi,decide_eq_true ⟨hi,hz⟩]
  ·rw [if_neg e,if_neg e]
 ·rw [if_neg (by omega),List.getElem?_eq_none (by simp;omega)]
  rfl
theorem steps20c_spec (c:Costs) (A:Option Addr) (n ca:Nat) (M:Value) (V:Nat) (l:List TS) (v:List Nat) (p4 g1 u:Nat) (w:World) (hg:Grp w A n l) (h4:n≤4) (hu:u<n) (hp4:RdC w p4 0 (atV v)) (hg1:RdC w g1 0 (spcL c A n ca M V)) :
  Spec Tryz.prog 185 [.int .i64 (u:Nat), .pointer (some ⟨p4,0,none⟩), .pointer (some ⟨g1,0,none⟩)] w (fun x R=>x = .bool (decide (((v.getD u 0:Nat):Int)=((lens l).getD u 0:Nat)))∧R=[]):=by
 have hn:=hg.hn
 refine spec_of sg Tryz.func185 rfl rfl rfl ?_
 obtain⟨b,o,rfl⟩:=hg.hs.base (by omega)
 obtain⟨t,ht,htm,hrt⟩:=hg.get (k:=u) hu
 have hgl:(lens l).getD u 0=t.n:=by rw [List.getD_eq_getElem?_getD,lens_get ht];rfl
 have h1:RdC w p4 (0+(u:Int).toNat * 1) [.int .i64 (v.getD u 0:Nat)]:=RdC.one (by have:=hp4 u _ (atV_get v (by omega));rw [show 0+(u:Int).toNat * 1=0+u by omega];exact this)
 have h2:RdC w g1 (0+4) [.slice (some ⟨b,o,none⟩) n ca]:=hg1.at rfl
 rw [hgl]
 repeat' (first|refine d1 ?_|refine dd ?_|(show T _ (.ops _ (_::_)::_) _ _ _;first|refine T_val rfl (Val.nilc rfl) rfl rfl rfl ?_|refine T_valC rfl (Val.nilc rfl) rfl rfl rfl rfl rfl ?_|refine T_val rfl (Val.load rfl (fun hg=>rdOld h1)) rfl rfl rfl ?_|refine T_valC rfl (Val.load rfl (fun hg=>rdOld h1)) rfl rfl rfl rfl rfl ?_|refine T_val rfl (Val.load rfl (fun hg=>rdOld h2)) rfl rfl rfl ?_|refine T_valC rfl (Val.load rfl (fun hg=>rdOld h2)) rfl rfl rfl rfl rfl ?_)|(show T _ (.run _ _ (_::_) _ _::_) _ _ _;first|refine rv rfl rfl rfl (Val.nilc rfl) rfl rfl rfl ?_|refine rg rfl rfl rfl (Val.nilc rfl) rfl rfl rfl rfl rfl ?_|refine rv rfl rfl rfl (Val.load rfl (fun hg=>rdOld h1)) rfl rfl rfl ?_|refine rg rfl rfl rfl (Val.load rfl (fun hg=>rdOld h1)) rfl rfl rfl rfl rfl ?_|refine rv rfl rfl rfl (Val.load rfl (fun hg=>rdOld h2)) rfl rfl rfl ?_|refine rg rfl rfl rfl (Val.load rfl (fun hg=>rdOld h2)) rfl rfl rfl rfl rfl ?_)|(show ∀ _:Nat,T _ _ _ _ _;intro _)|(show T _ (.code .ret::_) _ _ _;refine T_retV [] rfl (Hle.none _) ⟨rfl,rfl⟩))
def Q20 (K:List Int→Int) (n:Nat) (ls v:List Nat) (ρ:Rdr) (j:Nat) (x:List Value) (B:List HA):Prop :=
 ∃ m A ca,(posL ls v (mvL n))[j]?=some m∧Rd ρ [.slice A m.length ca] [intsD (intN m)]∧x=[.agg #[.slice A m.length ca, .int .i64 (K (colT v m)), .int .i64 (numL ls (toM v m):Nat)]]∧B=[]
theorem poss_any {ls v m:List Nat} (hv:InB ls v):((intN m).any fun x=>decide (((v.getD x.toNat 0:Nat):Int)=(ls.getD x.toNat 0:Nat))) = !possM ls v m:=by
 rw [Bool.eq_iff_iff,List.any_eq_true,Bool.not_eq_true', ← Bool.not_eq_true]
 constructor
 ·rintro⟨x,hx,he⟩ hp
  unfold intN at hx
  obtain⟨s,hs,rfl⟩:=List.mem_map.1 hx
  have h1:=possM_iff.1 hp s hs
  rw [decide_eq_true_eq,Int.toNat_natCast] at he
  omega
 ·intro hp
  refine Classical.byContradiction fun h=>hp (possM_iff.2 fun s hs=>?_)
  have h1:=hv.get s
  refine Nat.lt_of_le_of_ne h1 fun e=>h ⟨(s:Int),by unfold intN;exact List.mem_map.2 ⟨s,hs,rfl⟩,?_⟩
  rw [decide_eq_true_eq,Int.toNat_natCast,e]
theorem steps20_iter {c:Costs} {w0:World} {A:Option Addr} {n ca V:Nat} {l:List TS} (hg:Grp w0 A n l) (hc:costE c=0) (hbs:badS l=false) (h1:1≤n) (h4:n≤4) (hv:volL (lens l)≤65536) {p:Nat} (hp:p<volL (lens l)) (g1 g2:Nat) {M:Value} {pz:Frag} {ρ:Rdr} (hρ:∀ w,Below w0.heap.size w0 w→(fr pz).le (wr w)→ρ.le (wr w)) (hM:Rd ρ [M] [rowsD ((mvL n).map intN)]) :
  IterZ Tryz.prog w0 184 [] [.pointer (some ⟨g1,0,none⟩), .pointer (some ⟨g2,0,none⟩)]
   [blk g2 [.int .i64 (p:Nat)] 3,blk g1 (spcL c A n ca M V) 132]
   (Q20 (colZ c l) n (lens l) (atL (lens l) p) ρ) (posL (lens l) (atL (lens l) p) (mvL n)).length pz:=by
 have hn:=hg.hn
 have hll:=lens_len l
 have hvl:=atL_len (lens l) p
 have hin:=atL_in (lens l) p
 have hmo:=mvL_ok h1 h4
 have hlsn:(lens l).length=n:=by omega
 obtain⟨Am,cm,csm,rfl,hm1,hm2,hml,hmr,hrows⟩:=hM.tab
 rw [List.length_map] at hm1 hml hmr
 have hm15:(mvL n).length≤15:=by
  obtain rfl|rfl|rfl|rfl:n=1∨n=2∨n=3∨n=4:=by omega
  all_goals decide
 refine iterZ_of sg Tryz.func184 rfl rfl rfl ?_
 intro l' GQ X Hj hz hY h0
 rw [List.length_map]
 obtain⟨v,hve⟩:∃ v,v=atL (lens l) p:=⟨_,rfl⟩
 show T _ _ _ _ (blk g2 [.int .i64 (p:Nat)] 3::blk g1 (spcL c A n ca (.slice Am (mvL n).length cm) V) 132::Hj)
 repeat' (first|refine d1 ?_|refine dd ?_|(show T _ (.ops _ (_::_)::_) _ _ _;first|refine T_call rfl rfl rfl rfl rfl (fun w hw=>at20_spec c A n ca (.slice Am (mvL n).length cm) V l p w (hg.cls hw) h4 (by omega) hp) ?_|refine T_callC rfl rfl rfl rfl rfl rfl rfl (fun hg w hw=>at20_spec c A n ca (.slice Am (mvL n).length cm) V l p w (hg.cls hw) h4 (by omega) hp) ?_)|(show T _ (.run _ _ (_::_) _ _::_) _ _ _;first|refine rc rfl rfl rfl rfl rfl rfl rfl (fun w hw=>at20_spec c A n ca (.slice Am (mvL n).length cm) V l p w (hg.cls hw) h4 (by omega) hp) ?_|refine rcG rfl rfl rfl rfl rfl rfl rfl rfl rfl (fun hg w hw=>at20_spec c A n ca (.slice Am (mvL n).length cm) V l p w (hg.cls hw) h4 (by omega) hp) ?_)|(show ∀ _:Nat,T _ _ _ _ _;intro _))
 rename_i p5
 rw [← hve] at hvl hin hY ⊢
 refine T_loopX (fun s:Nat × List HA=>[(20, .int .i64 (s.1:Nat))]) (fun s=>blk p5 (atV v) 145::blk g2 [.int .i64 (p:Nat)] 3::blk g1 (spcL c A n ca (.slice Am (mvL n).length cm) V) 132::s.2) (fun s=>s.1≤(mvL n).length∧GQ (posL (lens l) v ((mvL n).take s.1)).length s.2) (fun s=>(mvL n).length - s.1) (0,Hj) ⟨Nat.zero_le _,h0⟩ ?_
 rintro⟨i,H1⟩ ⟨hi,hG⟩
 dsimp only at hi hG ⊢
 have hzz:=hz _ _ hG
 repeat' (first|refine d1 ?_|refine dd ?_|(show ∀ _:Nat,T _ _ _ _ _;intro _))
 refine T_if rfl (fun h=>?_) (fun h=>?_)
 ·simp only [decide_eq_true_eq] at h
  obtain⟨m,hm⟩:∃ m,(mvL n)[i]?=some m:=⟨_,List.getElem?_eq_getElem (by omega)⟩
  have hmm:=List.mem_of_getElem? hm
  have hml4:=pigeon2 n m (hmo.nd m hmm) (hmo.lt m hmm)
  obtain⟨b,o,rfl,hrd⟩:=hmr (by omega)
  obtain⟨Ar,capr,hcs,hr1,hr2,hAr⟩:=hrows.tabRow (i:=i) (r:=intN m) (by rw [List.getElem?_map,hm];rfl)
  have hone:Rd ρ [.slice Ar (intN m).length capr] [intsD (intN m)]:=rd_one hrows hcs (by rw [List.getElem?_map,List.getElem?_map,hm];rfl)
  have hsr:∀ {w':World},Cls w0 w' [fz pz]→Src w' 1 Ar m.length ((intN m).map (Value.int .i64)):=fun {w'} hw=>by
   have h9:=(hone.mono (hρ _ hw.below (hw.fz (p:=pz)))).intsAt
   rwa [intN_len] at h9
  rw [intN_len] at hcs hr1 hAr hone
  have hmpos:0<m.length:=List.length_pos_iff.2 (hmo.ne m hmm)
  obtain⟨br,orr,rfl,hAr9⟩:=hAr hmpos
  repeat' (first|refine d1 ?_|refine dd ?_|(show T _ (.ops _ (_::_)::_) _ _ _;first|refine T_val rfl (Val.load rfl (fun hg=>(fun w hw=>rdRz hρ (hw.le (Hle.sub.trans hzz)) (u := .slice (some ⟨br,orr,none⟩) m.length capr) (b:=b) (by rw [off1];exact hrd i _ hcs)))) rfl rfl rfl ?_|refine T_valC rfl (Val.load rfl (fun hg=>(fun w hw=>rdRz hρ (hw.le (Hle.sub.trans hzz)) (u := .slice (some ⟨br,orr,none⟩) m.length capr) (b:=b) (by rw [off1];exact hrd i _ hcs)))) rfl rfl rfl rfl rfl ?_|refine T_call rfl rfl rfl rfl rfl (fun w hw=>containsFuncI_spec (some ⟨br,orr,none⟩) m.length capr (intN m) _ [] [_,_] (fun x=>decide (((v.getD x.toNat 0:Nat):Int)=((lens l).getD x.toNat 0:Nat))) w (hsr (hw.le (Hle.sub.trans hzz))) (intN_len m) (by omega) (fun x hx w' hb'=>?_)) ?_|refine T_callC rfl rfl rfl rfl rfl rfl rfl (fun hg w hw=>containsFuncI_spec (some ⟨br,orr,none⟩) m.length capr (intN m) _ [] [_,_] (fun x=>decide (((v.getD x.toNat 0:Nat):Int)=((lens l).getD x.toNat 0:Nat))) w (hsr (hw.le (Hle.sub.trans hzz))) (intN_len m) (by omega) (fun x hx w' hb'=>?_)) ?_)|(show T _ (.run _ _ (_::_) _ _::_) _ _ _;first|refine rv rfl rfl rfl (Val.load rfl (fun hg=>(fun w hw=>rdRz hρ (hw.le (Hle.sub.trans hzz)) (u := .slice (some ⟨br,orr,none⟩) m.length capr) (b:=b) (by rw [off1];exact hrd i _ hcs)))) rfl rfl rfl ?_|refine rg rfl rfl rfl (Val.load rfl (fun hg=>(fun w hw=>rdRz hρ (hw.le (Hle.sub.trans hzz)) (u := .slice (some ⟨br,orr,none⟩) m.length capr) (b:=b) (by rw [off1];exact hrd i _ hcs)))) rfl rfl rfl rfl rfl ?_|refine rc rfl rfl rfl rfl rfl rfl rfl (fun w hw=>containsFuncI_spec (some ⟨br,orr,none⟩) m.length capr (intN m) _ [] [_,_] (fun x=>decide (((v.getD x.toNat 0:Nat):Int)=((lens l).getD x.toNat 0:Nat))) w (hsr (hw.le (Hle.sub.trans hzz))) (intN_len m) (by omega) (fun x hx w' hb'=>?_)) ?_|refine rcG rfl rfl rfl rfl rfl rfl rfl rfl rfl (fun hg w hw=>containsFuncI_spec (some ⟨br,orr,none⟩) m.length capr (intN m) _ [] [_,_] (fun x=>decide (((v.getD x.toNat 0:Nat):Int)=((lens l).getD x.toNat 0:Nat))) w (hsr (hw.le (Hle.sub.trans hzz))) (intN_len m) (by omega) (fun x hx w' hb'=>?_)) ?_)|(show ∀ _:Nat,T _ _ _ _ _;intro _))
  ·unfold intN at hx
   obtain⟨s,hs,rfl⟩:=List.mem_map.1 hx
   rw [Int.toNat_natCast]
   exact steps20c_spec c A n ca (.slice (some ⟨b,o,none⟩) (mvL n).length cm) V l v p5 g1 s w' (hg.blw (hw.below.trans (hb'.mono hw.below.size))) h4 (hmo.lt m hmm s hs) ((rdAll w hw).below hb') ((rdAll w hw).below hb')
  rw [poss_any hin]
  cases hpo:possM (lens l) v m with
  | false =>
   have hy:=posL_no hm hpo
   refine T_if rfl (fun _=>?_) (fun h3=>by exfalso;simp at h3)
   repeat' (first|refine d1 ?_|refine dd ?_|(show ∀ _:Nat,T _ _ _ _ _;intro _))
   exact T_backX (i+1,H1) ⟨by dsimp only;omega,by dsimp only;rw [hy];exact hG⟩ (by dsimp only;omega)
  | true =>
   have hpg:=posL_get hm hpo
   have hy:=posL_yes hm hpo
   refine T_if rfl (fun h3=>by exfalso;simp at h3) (fun _=>?_)
   refine T_cutX 1 [7,8,9] (fun s:Nat × Nat × Nat=>[(7, .slice (some ⟨s.1,0,none⟩) n n),(8, .slice (some ⟨s.2.1,0,none⟩) n n),(9, .pointer (some ⟨s.2.2,0,none⟩))]) (fun s=>blk s.1 (madeCells (noTok.val).cells (n * (noTok.val).cells.size)).toList 79::blk s.2.1 (List.replicate n (.bool false)) 4::blk s.2.2 (atV v) 145::blk p5 (atV v) 145::blk g2 [.int .i64 (p:Nat)] 3::blk g1 (spcL c A n ca (.slice (some ⟨b,o,none⟩) (mvL n).length cm) V) 132::H1) (fun _=>True) ?_ ?_
   ·refine dw0 1000 [blk p5 (atV v) 145,blk g1 (spcL c A n ca (.slice (some ⟨b,o,none⟩) (mvL n).length cm) V) 132] ?_
    repeat' (first|(show T _ (.draw _ _ _ _ _::_) _ _ _;first|refine dw1 ?_|refine dwv rfl (by decide +kernel) rfl rfl (Val.loadA rfl (fun _=>rdAll) rfl) rfl rfl rfl ?_|refine dwg rfl (by decide +kernel) rfl rfl (Val.loadA rfl (fun _=>rdAll) rfl) rfl rfl rfl rfl rfl ?_|refine dwv rfl (by decide +kernel) rfl rfl (Val.load rfl (fun hg=>rdOwn1 rfl)) rfl rfl rfl ?_|refine dwg rfl (by decide +kernel) rfl rfl (Val.load rfl (fun hg=>rdOwn1 rfl)) rfl rfl rfl rfl rfl ?_|refine dwb rfl (by decide +kernel) ?_)|(show AllL _ [];exact True.intro)|(show AllL _ (_::_);refine ⟨?_,?_⟩)|(show OpT _ _ _ _ _ _ _;first|refine dwx ?_|refine OpT.ofVal rfl (Val.loadA rfl (fun _=>rdAll) rfl) rfl rfl rfl ⟨fun _=>(by first|exact Hle.none _|exact Hle.sub|exact absurd ‹_› (by decide +kernel)),?_⟩|refine OpT.ofVal rfl (Val.load rfl (fun hg=>rdOwn1 rfl)) rfl rfl rfl ⟨fun _=>(by first|exact Hle.none _|exact Hle.sub|exact absurd ‹_› (by decide +kernel)),?_⟩|refine OpT.makeC rfl rfl rfl rfl rfl rfl (by dsimp only;omega) (fun b2=>⟨fun _=>(by first|exact Hle.none _|exact Hle.sub|exact absurd ‹_› (by decide +kernel)),?_⟩)|refine OpT.make rfl rfl rfl rfl rfl rfl rfl rfl rfl (by dsimp only;omega) (fun b3=>⟨fun _=>(by first|exact Hle.none _|exact Hle.sub|exact absurd ‹_› (by decide +kernel)),?_⟩)|refine OpT.alloc rfl rfl rfl rfl rfl rfl rfl (fun b4=>⟨fun _=>(by first|exact Hle.none _|exact Hle.sub|exact absurd ‹_› (by decide +kernel)),?_⟩)|refine OpT.storeA rfl rfl rfl rfl rfl rfl (by exact Nat.le_of_ble_eq_true rfl) ⟨fun _=>(by first|exact Hle.none _|exact Hle.sub|exact absurd ‹_› (by decide +kernel)),?_⟩)|(show ∀ _:Nat,T _ _ _ _ _;intro _)|(show T _ (.mark _::_) _ _ _;exact T_meetX (_,_,_) trivial (hG:=by exact Hle.srtV)))
   rintro⟨b7,b8,p9⟩ _
   dsimp only
   refine T_le (H':=blk b7 ((ownJ l (colMv v (m.take 0) (List.replicate n (-1))) l.length).flatMap Tok.cells) 79::blk b8 ((thJ l (colMv v (m.take 0) (List.replicate n (-1))) l.length).map Value.bool) 4::blk p9 (atV (toM v (m.take 0))) 145::blk p5 (atV v) 145::blk g2 [.int .i64 (p:Nat)] 3::blk g1 (spcL c A n ca (.slice (some ⟨b,o,none⟩) (mvL n).length cm) V) 132::H1) (by rw [List.take_zero];show Hle _ (blk b7 ((ownJ l (List.replicate n (-1)) l.length).flatMap Tok.cells) 79::blk b8 ((thJ l (List.replicate n (-1)) l.length).map Value.bool) 4::blk p9 (atV v) 145::_);rw [ownJ_none,thJ_none,ownJ_zero,thJ_zero,hn,made_toks,List.map_replicate];exact Hle.refl _) ?_
   repeat' (first|refine d1 ?_|refine dd ?_|(show ∀ _:Nat,T _ _ _ _ _;intro _))
   refine T_loopX (fun s:Nat=>[(38, .int .i64 (s:Nat))]) (fun s=>blk b7 ((ownJ l (colMv v (m.take s) (List.replicate n (-1))) l.length).flatMap Tok.cells) 79::blk b8 ((thJ l (colMv v (m.take s) (List.replicate n (-1))) l.length).map Value.bool) 4::blk p9 (atV (toM v (m.take s))) 145::blk p5 (atV v) 145::blk g2 [.int .i64 (p:Nat)] 3::blk g1 (spcL c A n ca (.slice (some ⟨b,o,none⟩) (mvL n).length cm) V) 132::H1) (fun s=>s≤m.length) (fun s=>m.length - s) 0 (Nat.zero_le _) ?_
   rintro s hs
   repeat' (first|refine d1 ?_|refine dd ?_|(show ∀ _:Nat,T _ _ _ _ _;intro _))
   refine T_if rfl (fun h5=>?_) (fun h5=>?_)
   ·simp only [decide_eq_true_eq] at h5
    obtain⟨u,hu⟩:∃ u,m[s]?=some u:=⟨_,List.getElem?_eq_getElem (by omega)⟩
    have hum:=List.mem_of_getElem? hu
    have hun:=hmo.lt m hmm u hum
    have htk:=take_snoc _ _ _ hu
    obtain⟨ba,oa,rfl⟩:=hg.hs.base (by omega)
    obtain⟨t,ht,htm,htr⟩:=hg.get (k:=u) hun
    have htl:=hg.ok.len t htm
    have htb:=hg.nb t htm
    have hgl:(lens l).getD u 0=t.n:=by rw [List.getD_eq_getElem?_getD,lens_get ht];rfl
    have hvu:v.getD u 0<t.n:=by rw [← hgl];exact possM_iff.1 hpo u hum
    obtain⟨a,hae⟩:∃ a,a=v.getD u 0:=⟨_,rfl⟩
    rw [← hae] at hvu
    have hmu:ρ br (orr+(s:Int).toNat * 1)=some (.int .i64 (u:Nat)):=by rw [off1];exact hAr9 s _ (intN_get hu)
    have hav:(atV v)[0+(u:Int).toNat * 1]?=some (.int .i64 (a:Nat)):=by
     rw [show 0+(u:Int).toNat * 1=u by omega,atV_get v (by omega),hae]
    obtain⟨y,hye⟩:∃ y,y=(toM v (m.take s)).getD u 0:=⟨_,rfl⟩
    have hyb:y≤1001:=by
     have h9:=toM_get (m.take s) v ((List.take_sublist s m).nodup (hmo.nd m hmm)) (fun x hx=>by rw [hvl,hlsn];exact hmo.lt m hmm x (List.mem_of_mem_take hx)) u
     rw [← hye] at h9
     split at h9 <;> omega
    have hnv:(atV (toM v (m.take s)))[0+(u:Int).toNat * 1]?=some (.int .i64 (y:Nat)):=by
     rw [show 0+(u:Int).toNat * 1=u by omega,atV_get _ (by omega),hye]
    obtain⟨b4,o4,htA⟩:=(hg.ok.src t htm).base (by omega)
    have htok:RdC w0 b4 (o4+(a:Int).toNat * 6) (tkA t.l (a:Int).toNat).cells:=(htA ▸ hg.ok.src t htm:Src w0 6 (some ⟨b4,o4,none⟩) t.n (t.l.flatMap Tok.cells)).getT (k:=(a:Int).toNat) (by omega) (tkA_get (by omega))
    rw [htA] at htr
    have hown:((ownJ l (colMv v (m.take s) (List.replicate n (-1))) l.length).flatMap Tok.cells).length=n * 6:=by rw [flatT_length,ownJ_len,hn]
    have hthl:((thJ l (colMv v (m.take s) (List.replicate n (-1))) l.length).map Value.bool).length=n:=by rw [List.length_map,thJ_len,hn]
    have hcl:(colMv v (m.take s) (List.replicate n (-1))).length=l.length:=by rw [colMv_len,List.length_replicate,hn]
    repeat' (first|refine d1 ?_|(show T _ (.ops _ (_::_)::_) _ _ _;first|refine T_val rfl (Val.nilc rfl) rfl rfl rfl ?_|refine T_valC rfl (Val.nilc rfl) rfl rfl rfl rfl rfl ?_|refine T_val rfl (Val.load rfl (fun hg=>(fun w hw=>rdRz hρ (hw.le (Hle.sub.trans hzz)) hmu))) rfl rfl rfl ?_|refine T_valC rfl (Val.load rfl (fun hg=>(fun w hw=>rdRz hρ (hw.le (Hle.sub.trans hzz)) hmu))) rfl rfl rfl rfl rfl ?_)|(show T _ (.run _ _ (_::_) _ _::_) _ _ _;first|refine rv rfl rfl rfl (Val.nilc rfl) rfl rfl rfl ?_|refine rg rfl rfl rfl (Val.nilc rfl) rfl rfl rfl rfl rfl ?_|refine rv rfl rfl rfl (Val.load rfl (fun hg=>(fun w hw=>rdRz hρ (hw.le (Hle.sub.trans hzz)) hmu))) rfl rfl rfl ?_|refine rg rfl rfl rfl (Val.load rfl (fun hg=>(fun w hw=>rdRz hρ (hw.le (Hle.sub.trans hzz)) hmu))) rfl rfl rfl rfl rfl ?_)|(show ∀ _:Nat,T _ _ _ _ _;intro _))
    refine rsH [blk p5 (atV v) 145,blk g1 (spcL c (some ⟨ba,oa,none⟩) n ca (.slice (some ⟨b,o,none⟩) (mvL n).length cm) V) 132] 1000 [0,1,2,3,4,5,6,7,8,9,10,11,12,13,14,15,16,17] ?_
    repeat' (first|refine d1 ?_|refine dd ?_|(show T _ (.ops _ (_::_)::_) _ _ _;first|refine T_val rfl (Val.nilc rfl) rfl rfl rfl ?_|refine T_valC rfl (Val.nilc rfl) rfl rfl rfl rfl rfl ?_|refine T_val rfl (Val.load rfl (fun hg=>rdOwn1 (b:=p5) hav)) rfl rfl rfl ?_|refine T_valC rfl (Val.load rfl (fun hg=>rdOwn1 (b:=p5) hav)) rfl rfl rfl rfl rfl ?_|refine T_val rfl (Val.load rfl (fun hg=>rdOwn1 rfl)) rfl rfl rfl ?_|refine T_valC rfl (Val.load rfl (fun hg=>rdOwn1 rfl)) rfl rfl rfl rfl rfl ?_|refine T_val rfl (Val.loadA rfl (fun _=>rdOld htok) rfl) rfl rfl rfl ?_|refine T_valC rfl (Val.loadA rfl (fun _=>rdOld htok) rfl) rfl rfl rfl rfl rfl ?_)|(show T _ (.run _ _ (_::_) _ _::_) _ _ _;first|refine rv rfl rfl rfl (Val.nilc rfl) rfl rfl rfl ?_|refine rg rfl rfl rfl (Val.nilc rfl) rfl rfl rfl rfl rfl ?_|refine rv rfl rfl rfl (Val.load rfl (fun hg=>rdOwn1 (b:=p5) hav)) rfl rfl rfl ?_|refine rg rfl rfl rfl (Val.load rfl (fun hg=>rdOwn1 (b:=p5) hav)) rfl rfl rfl rfl rfl ?_|refine rv rfl rfl rfl (Val.load rfl (fun hg=>rdOwn1 rfl)) rfl rfl rfl ?_|refine rg rfl rfl rfl (Val.load rfl (fun hg=>rdOwn1 rfl)) rfl rfl rfl rfl rfl ?_|refine rv rfl rfl rfl (Val.loadA rfl (fun _=>rdOld htok) rfl) rfl rfl rfl ?_|refine rg rfl rfl rfl (Val.loadA rfl (fun _=>rdOld htok) rfl) rfl rfl rfl rfl rfl ?_|refine ro rfl rfl (OpT.storeA (us:=(tkA t.l (a:Int).toNat).cells) rfl rfl rfl rfl rfl rfl (by rw [hown,show (tkA t.l (a:Int).toNat).cells.length=6 from rfl];omega) ⟨fun _=>Hle.sub,?_⟩)|refine ro rfl rfl (OpT.store rfl rfl rfl rfl (by rw [hthl];omega) ⟨fun _=>Hle.sub,?_⟩))|(show ∀ _:Nat,T _ _ _ _ _;intro _))
    repeat' (first|refine d1 ?_|refine dd ?_|(show T _ (.ops _ (_::_)::_) _ _ _;first|refine T_val rfl (Val.nilc rfl) rfl rfl rfl ?_|refine T_valC rfl (Val.nilc rfl) rfl rfl rfl rfl rfl ?_|refine T_val rfl (Val.load rfl (fun hg=>rdOwn1 (b:=p9) hnv)) rfl rfl rfl ?_|refine T_valC rfl (Val.load rfl (fun hg=>rdOwn1 (b:=p9) hnv)) rfl rfl rfl rfl rfl ?_|refine T_op (OpT.store rfl rfl rfl rfl (by show 0+(u:Int).toNat * 1<4;omega) ?_))|(show T _ (.run _ _ (_::_) _ _::_) _ _ _;first|refine rv rfl rfl rfl (Val.nilc rfl) rfl rfl rfl ?_|refine rg rfl rfl rfl (Val.nilc rfl) rfl rfl rfl rfl rfl ?_|refine rv rfl rfl rfl (Val.load rfl (fun hg=>rdOwn1 (b:=p9) hnv)) rfl rfl rfl ?_|refine rg rfl rfl rfl (Val.load rfl (fun hg=>rdOwn1 (b:=p9) hnv)) rfl rfl rfl rfl rfl ?_)|(show ∀ _:Nat,T _ _ _ _ _;intro _))
    refine T_backX (s+1) (by omega) (by omega) (hG:=?_)
    have e0:colMv v (m.take (s+1)) (List.replicate n (-1))=(colMv v (m.take s) (List.replicate n (-1))).set u (a:Int):=by rw [htk,colMv_snoc,hae]
    have e1:=ownJ_set (l:=l) (col:=colMv v (m.take s) (List.replicate n (-1))) (i:=u) (z:=(a:Int)) (by omega) hcl (by omega)
    have e2:=thJ_set (l:=l) (col:=colMv v (m.take s) (List.replicate n (-1))) (i:=u) (z:=(a:Int)) (by omega) hcl (by omega)
    have e3:atV (toM v (m.take (s+1)))=(atV (toM v (m.take s))).set (0+(u:Int).toNat * 1) (.int .i64 ((y:Int)+1)):=by
     rw [htk,toM_snoc, ← hye,show 0+(u:Int).toNat * 1=u by omega]
     have hlt:u<(toM v (m.take s)).length:=by rw [toM_len,hvl,hlsn];exact hun
     have hgt:∀ q,((toM v (m.take s)).set u (y+1)).getD q 0=if u=q then y+1 else (toM v (m.take s)).getD q 0:=fun q=>by
      by_cases e:u=q
      ·subst e;rw [if_pos rfl,set_self hlt]
      ·rw [if_neg e,set_other e]
     unfold atV
     rw [hgt,hgt,hgt,hgt]
     obtain rfl|rfl|rfl|rfl:u=0∨u=1∨u=2∨u=3:=by omega
     all_goals simp
    rw [tsA_eq ht] at e1
    rw [e0,e1,e2,e3, ← flatTok_set _ _ _ (by rw [ownJ_len];omega),List.map_set,show 0+(u:Int).toNat * 6=u * 6 by omega]
    rw [show 0+(u:Int).toNat * 1=u by omega]
    exact Hle.refl _
   ·simp only [decide_eq_false_iff_not] at h5
    obtain rfl:s=m.length:=by omega
    rw [List.take_length]
    have hct:colMv v m (List.replicate n (-1))=colT v m:=by unfold colT;rw [hvl,hlsn]
    rw [hct]
    have hco:=colT_ok (l:=l) (v:=v) (m:=m) (by rw [hvl,hll]) (fun s hs=>by rw [hn];exact hmo.lt m hmm s hs) hpo
    have hti:=(toM_rem hmo hlsn hin hmm hpo).1
    repeat' (first|refine d1 ?_|refine dd ?_|(show T _ (.ops _ (_::_)::_) _ _ _;first|refine T_val rfl (Val.nilc rfl) rfl rfl rfl ?_|refine T_valC rfl (Val.nilc rfl) rfl rfl rfl rfl rfl ?_|refine T_val rfl (Val.loadA (vs:=c.cells) rfl (fun _=>rdPart rfl) rfl) rfl rfl rfl ?_|refine T_valC rfl (Val.loadA (vs:=c.cells) rfl (fun _=>rdPart rfl) rfl) rfl rfl rfl rfl rfl ?_|refine T_call rfl rfl rfl rfl rfl (fun w hw=>columnPrg_spec c (some ⟨b7,0,none⟩) (some ⟨b8,0,none⟩) n n n n (ownJ l (colT v m) l.length) (thJ l (colT v m) l.length) w (hg.hst.cls hw) (Src.own hw (by rw [flatT_length,ownJ_len,hn])) (by rw [ownJ_len,hn]) (by omega) (Src.own hw (by rw [List.length_map,thJ_len,hn,Nat.mul_one])) (by rw [thJ_len,hn]) (by omega) (ownJ_small hg hco _)) ?_|refine T_callC rfl rfl rfl rfl rfl rfl rfl (fun hg w hw=>columnPrg_spec c (some ⟨b7,0,none⟩) (some ⟨b8,0,none⟩) n n n n (ownJ l (colT v m) l.length) (thJ l (colT v m) l.length) w (hg.hst.cls hw) (Src.own hw (by rw [flatT_length,ownJ_len,hn])) (by rw [ownJ_len,hn]) (by omega) (Src.own hw (by rw [List.length_map,thJ_len,hn,Nat.mul_one])) (by rw [thJ_len,hn]) (by omega) (ownJ_small hg hco _)) ?_)|(show T _ (.run _ _ (_::_) _ _::_) _ _ _;first|refine rv rfl rfl rfl (Val.nilc rfl) rfl rfl rfl ?_|refine rg rfl rfl rfl (Val.nilc rfl) rfl rfl rfl rfl rfl ?_|refine rv rfl rfl rfl (Val.loadA (vs:=c.cells) rfl (fun _=>rdPart rfl) rfl) rfl rfl rfl ?_|refine rg rfl rfl rfl (Val.loadA (vs:=c.cells) rfl (fun _=>rdPart rfl) rfl) rfl rfl rfl rfl rfl ?_|refine rc rfl rfl rfl rfl rfl rfl rfl (fun w hw=>columnPrg_spec c (some ⟨b7,0,none⟩) (some ⟨b8,0,none⟩) n n n n (ownJ l (colT v m) l.length) (thJ l (colT v m) l.length) w (hg.hst.cls hw) (Src.own hw (by rw [flatT_length,ownJ_len,hn])) (by rw [ownJ_len,hn]) (by omega) (Src.own hw (by rw [List.length_map,thJ_len,hn,Nat.mul_one])) (by rw [thJ_len,hn]) (by omega) (ownJ_small hg hco _)) ?_|refine rcG rfl rfl rfl rfl rfl rfl rfl rfl rfl (fun hg w hw=>columnPrg_spec c (some ⟨b7,0,none⟩) (some ⟨b8,0,none⟩) n n n n (ownJ l (colT v m) l.length) (thJ l (colT v m) l.length) w (hg.hst.cls hw) (Src.own hw (by rw [flatT_length,ownJ_len,hn])) (by rw [ownJ_len,hn]) (by omega) (Src.own hw (by rw [List.length_map,thJ_len,hn,Nat.mul_one])) (by rw [thJ_len,hn]) (by omega) (ownJ_small hg hco _)) ?_)|(show ∀ _:Nat,T _ _ _ _ _;intro _))
    rw [own_colV hg hc hbs hco]
    have hgp:=hg
    repeat' (first|refine d1 ?_|refine dd ?_|(show T _ (.ops _ (_::_)::_) _ _ _;first|refine T_val rfl (Val.loadA rfl (fun _=>rdAll) rfl) rfl rfl rfl ?_|refine T_valC rfl (Val.loadA rfl (fun _=>rdAll) rfl) rfl rfl rfl rfl rfl ?_|refine T_call rfl rfl rfl rfl rfl (fun w hw=>number20_spec c A n ca (.slice (some ⟨b,o,none⟩) (mvL n).length cm) V l (toM v m) w (hgp.cls hw) h4 hti (by omega)) ?_|refine T_callC rfl rfl rfl rfl rfl rfl rfl (fun hg w hw=>number20_spec c A n ca (.slice (some ⟨b,o,none⟩) (mvL n).length cm) V l (toM v m) w (hgp.cls hw) h4 hti (by omega)) ?_)|(show T _ (.run _ _ (_::_) _ _::_) _ _ _;first|refine rv rfl rfl rfl (Val.loadA rfl (fun _=>rdAll) rfl) rfl rfl rfl ?_|refine rg rfl rfl rfl (Val.loadA rfl (fun _=>rdAll) rfl) rfl rfl rfl rfl rfl ?_|refine rc rfl rfl rfl rfl rfl rfl rfl (fun w hw=>number20_spec c A n ca (.slice (some ⟨b,o,none⟩) (mvL n).length cm) V l (toM v m) w (hgp.cls hw) h4 hti (by omega)) ?_|refine rcG rfl rfl rfl rfl rfl rfl rfl rfl rfl (fun hg w hw=>number20_spec c A n ca (.slice (some ⟨b,o,none⟩) (mvL n).length cm) V l (toM v m) w (hgp.cls hw) h4 hti (by omega)) ?_)|(show ∀ _:Nat,T _ _ _ _ _;intro _))
    refine T_le (H':=blk p5 (atV v) 145::blk g2 [.int .i64 (p:Nat)] 3::blk g1 (spcL c A n ca (.slice (some ⟨b,o,none⟩) (mvL n).length cm) V) 132::H1) Hle.sub ?_
    repeat' (first|refine d1 ?_|refine dd ?_|(show T _ (.ops _ (_::_)::_) _ _ _;refine T_op (OpT.yieldO [] [blk p5 (atV v) 145,blk g2 [.int .i64 (p:Nat)] 3,blk g1 (spcL c A n ca (.slice (some ⟨b,o,none⟩) (mvL n).length cm) V) 132] hY rfl rfl (Holds.of1 rfl rfl rfl) rfl rfl rfl (List.getElem?_eq_some_iff.1 hpg).1 ⟨m,_,_,hpg,hone,rfl,rfl⟩ hG (Hle.comm [_,_,_] H1) (fun H2 hG2=>?_) (fun Y hX=>?_)))|(show ∀ _:Nat,T _ _ _ _ _;intro _))
    ·show T _ _ _ _ (blk p5 (atV v) 145::blk g2 [.int .i64 (p:Nat)] 3::blk g1 (spcL c A n ca (.slice (some ⟨b,o,none⟩) (mvL n).length cm) V) 132::H2)
     repeat' (first|refine d1 ?_|refine dd ?_|(show ∀ _:Nat,T _ _ _ _ _;intro _))
     refine T_if rfl (fun h3=>by exfalso;simp at h3) (fun _=>?_)
     repeat' (first|refine d1 ?_|refine dd ?_|(show ∀ _:Nat,T _ _ _ _ _;intro _))
     exact T_backX (i+1,H2) ⟨by dsimp only;omega,by dsimp only;rw [hy,List.length_append];exact hG2⟩ (by dsimp only;omega)
    ·show T _ _ _ _ (blk p5 (atV v) 145::blk g2 [.int .i64 (p:Nat)] 3::blk g1 (spcL c A n ca (.slice (some ⟨b,o,none⟩) (mvL n).length cm) V) 132::Y)
     repeat' (first|refine d1 ?_|refine dd ?_|(show ∀ _:Nat,T _ _ _ _ _;intro _))
     refine T_if rfl (fun _=>?_) (fun h3=>by exfalso;simp at h3)
     repeat' (first|refine d1 ?_|refine dd ?_|(show ∀ _:Nat,T _ _ _ _ _;intro _)|(show T _ (.code .ret::_) _ _ _;refine T_istop rfl Y hX (Hle.tail _ _)))
 ·simp only [decide_eq_false_iff_not] at h
  obtain rfl:i=(mvL n).length:=by omega
  rw [List.take_length] at hG
  repeat' (first|refine d1 ?_|refine dd ?_|(show ∀ _:Nat,T _ _ _ _ _;intro _))
  exact T_ifall rfl H1 hG (Hle.tail _ _)
end Go.Proofs.YtmenjpmikhajfaaGreatDoor
namespace Go.Proofs.YtmenjpmikhajfaaGreatDoor
open Go.RowKit Go.Shelf Go.Proofs
set_option maxRecDepth 100000
set_option maxHeartbeats 1000000

structure Fit (w:World) (A:Option Addr) (n:Nat) (l:List TS):Prop where
 hst:Std w
 hs:Src w 1 A n (l.map TS.val)
 hn:l.length=n
 ok:TsOk w l
 gr:great19B l 5 6=false
def bigS (l:List TS):Prop:=l.length≠0∧(32<l.length∨∃ t∈l,1024<t.n)
section
variable {w w':World} {A:Option Addr} {n:Nat} {l:List TS} (h:Fit w A n l)
include h
theorem Fit.b34:n≤34:=by have:=(great19_no h.ok h.gr).1;have:=h.hn;omega
theorem Fit.q:∀ t∈l,t.n≤6∨1024<t.n∧t.n≤1026:=(great19_no h.ok h.gr).2.1
theorem Fit.grp (hb:¬ bigS l):Grp w A n l:=by
 have h34:=h.b34
 have hn:=h.hn
 refine ⟨h.hst,h.hs,hn,?_,h.ok,fun t ht=>?_,(great19_no h.ok h.gr).2.2⟩
 ·refine Classical.byContradiction fun h9=>hb ⟨by omega, .inl (by omega)⟩
 ·rcases h.q t ht with h9|h9
  ·omega
  ·exact absurd ⟨by have:=List.length_pos_of_mem ht;omega, .inr ⟨t,ht,h9.1⟩⟩ hb
theorem Fit.six (hb:¬ bigS l):n≤5∧∀ t∈l,t.n≤6:=by
 have h1:=(great19_no h.ok h.gr).1
 have hn:=h.hn
 refine ⟨?_,fun t ht=>?_⟩
 ·rcases h1 with h9|h9
  ·omega
  ·exact absurd ⟨by omega, .inl h9.1⟩ hb
 ·rcases h.q t ht with h9|h9
  ·exact h9
  ·exact absurd ⟨by have:=List.length_pos_of_mem ht;omega, .inr ⟨t,ht,h9.1⟩⟩ hb
theorem Fit.blw (hb:Below w.heap.size w w'):Fit w' A n l:=⟨h.hst.below hb,src_below h.hs hb,h.hn,⟨fun t ht=>src_below (h.ok.src t ht) hb,h.ok.len,h.ok.bd⟩,h.gr⟩
theorem Fit.cls {H:List HA} (hw:Cls w w' H):Fit w' A n l:=h.blw hw.below
end
open Classical in
noncomputable def plE (l:List TS):Int:=if l.length=0 then 5 else if bigS l then 4 else if 4<l.length∨65536<volL (lens l) then 4 else 0
open Classical in
noncomputable def opE (c:Costs) (l:List TS):Int:=if l.length=0 then 5 else if bigS l then 4 else if ck21 c l≠0 then 1 else if 4<l.length∨65536<volL (lens l) then 4 else 0
theorem plE_ok {l:List TS} (h:plE l=0):1≤l.length∧¬ bigS l∧l.length≤4∧volL (lens l)≤65536:=by
 unfold plE at h
 by_cases h1:l.length=0
 ·rw [if_pos h1] at h;omega
 ·rw [if_neg h1] at h
  by_cases h2:bigS l
  ·rw [if_pos h2] at h;omega
  ·rw [if_neg h2] at h
   by_cases h3:4<l.length∨65536<volL (lens l)
   ·rw [if_pos h3] at h;omega
   ·exact⟨by omega,h2,by omega,by omega⟩
theorem opE_pl {c:Costs} {l:List TS} (h:ck21 c l=0):opE c l=plE l:=by
 unfold opE plE
 rw [if_neg (show ¬ (ck21 c l≠0) by simpa using h)]
theorem opE_ok {c:Costs} {l:List TS} (h:opE c l=0):plE l=0∧ck21 c l=0:=by
 have hc:ck21 c l=0:=by
  refine Classical.byContradiction fun h9=>?_
  unfold opE at h
  by_cases h1:l.length=0
  ·rw [if_pos h1] at h;omega
  ·rw [if_neg h1] at h
   by_cases h2:bigS l
   ·rw [if_pos h2] at h;omega
   ·rw [if_neg h2,if_pos h9] at h;omega
 exact⟨by rw [← opE_pl hc];exact h,hc⟩
theorem plE_siz (l:List TS):plE l=if (sizT l).2≠0 then (sizT l).2 else if 4<l.length∨65536<(sizT l).1 then 4 else 0:=by
 unfold plE sizT
 by_cases h1:l.length=0
 ·rw [if_pos h1,if_pos h1];simp
 ·rw [if_neg h1,if_neg h1]
  by_cases h2:32<l.length∨∃ t∈l,1024<t.n
  ·rw [if_pos (show bigS l from ⟨h1,h2⟩),if_pos h2];simp
  ·rw [if_neg (fun h9:bigS l=>h2 h9.2),if_neg h2]
   by_cases h3:volL (lens l)≤1073741824
   ·rw [if_pos h3]
    simp only [ne_eq,not_true_eq_false,if_false]
    by_cases h4:4<l.length∨65536<volL (lens l)
    ·rw [if_pos h4,if_pos (by omega)]
    ·rw [if_neg h4,if_neg (by omega)]
   ·rw [if_neg h3]
    simp
    omega
def c0:Costs:=⟨0,0,0,0⟩
theorem placesBad_spec (A:Option Addr) (n ca:Nat) (l:List TS) (w:World) (hf:Fit w A n l) (hp:plE l≠0) :
  Spec Tryz.prog 123 [.slice A n ca] w (fun v R=>v = .tuple #[.agg (spcL c0 none 0 0 (.slice none 0 0) 0).toArray, .int .i64 (plE l)]∧R=[]):=by
 have hn:=hf.hn
 have h34:=hf.b34
 have hsz:=plE_siz l
 refine spec_of sg Tryz.func123 rfl rfl rfl ?_
 repeat' (first|refine d1 ?_|refine dd ?_|(show T _ (.ops _ (_::_)::_) _ _ _;first|refine T_call rfl rfl rfl rfl rfl (fun w hw=>sizeT_spec A n ca l 5 6 w (hf.cls hw).hst (hf.cls hw).hs hn (hf.cls hw).ok hf.gr (by omega) (by omega)) ?_|refine T_callC rfl rfl rfl rfl rfl rfl rfl (fun hg w hw=>sizeT_spec A n ca l 5 6 w (hf.cls hw).hst (hf.cls hw).hs hn (hf.cls hw).ok hf.gr (by omega) (by omega)) ?_)|(show T _ (.run _ _ (_::_) _ _::_) _ _ _;first|refine rc rfl rfl rfl rfl rfl rfl rfl (fun w hw=>sizeT_spec A n ca l 5 6 w (hf.cls hw).hst (hf.cls hw).hs hn (hf.cls hw).ok hf.gr (by omega) (by omega)) ?_|refine rcG rfl rfl rfl rfl rfl rfl rfl rfl rfl (fun hg w hw=>sizeT_spec A n ca l 5 6 w (hf.cls hw).hst (hf.cls hw).hs hn (hf.cls hw).ok hf.gr (by omega) (by omega)) ?_)|(show ∀ _:Nat,T _ _ _ _ _;intro _))
 rename_i p2
 by_cases h1:(sizT l).2=0
 ·rw [if_neg (by simpa using h1)] at hsz
  rw [h1]
  refine T_if rfl (fun h=>by exfalso;simp at h) (fun _=>?_)
  have h2:4<l.length∨65536<(sizT l).1:=by
   refine Classical.byContradiction fun h9=>hp ?_
   rw [hsz,if_neg h9]
  rw [if_pos h2] at hsz
  rw [hsz]
  repeat' (first|refine d1 ?_|refine dd ?_|(show ∀ _:Nat,T _ _ _ _ _;intro _))
  refine T_if rfl (fun _=>?_) (fun h=>by exfalso;simp at h;omega)
  repeat' (first|refine d1 ?_|refine dd ?_|(show ∀ _:Nat,T _ _ _ _ _;intro _))
  exact T_retM (vs:=[.agg (spcL c0 none 0 0 (.slice none 0 0) 0).toArray, .int .i64 4]) [] ⟨⟨p2,_,spcL c0 none 0 0 (.slice none 0 0) 0,rfl,rfl,rfl,rfl,(fun h=>by cases h),rfl,rdAll⟩,rfl,trivial⟩ (Hle.none _) ⟨rfl,rfl⟩
 ·rw [if_pos h1] at hsz
  rw [hsz]
  refine T_if rfl (fun _=>?_) (fun h=>by exfalso;simp at h;exact h1 h)
  repeat' (first|refine d1 ?_|refine dd ?_|(show ∀ _:Nat,T _ _ _ _ _;intro _))
  exact T_retM (vs:=[.agg (spcL c0 none 0 0 (.slice none 0 0) 0).toArray, .int .i64 (sizT l).2]) [] ⟨⟨p2,_,spcL c0 none 0 0 (.slice none 0 0) 0,rfl,rfl,rfl,rfl,(fun h=>by cases h),rfl,rdAll⟩,rfl,trivial⟩ (Hle.none _) ⟨rfl,rfl⟩
theorem placesOk_spec (A:Option Addr) (n ca:Nat) (l:List TS) (w:World) (hf:Fit w A n l) (hp:plE l=0) :
  Spec Tryz.prog 123 [.slice A n ca] w (fun v R=>∃ M:Value,True∧v = .tuple #[.agg (spcL c0 A n ca M (volL (lens l))).toArray, .int .i64 0]∧R=[dat [M] [rowsD ((mvL n).map intN)]]):=by
 have hn:=hf.hn
 obtain⟨h1,hb,h4,hv⟩:=plE_ok hp
 have hsz:sizT l=(((volL (lens l):Nat):Int),0):=by
  unfold sizT
  rw [if_neg (by omega),if_neg (fun h9=>hb ⟨by omega,h9⟩),if_pos (by omega)]
 refine spec_of sg Tryz.func123 rfl rfl rfl ?_
 repeat' (first|refine d1 ?_|refine dd ?_|(show T _ (.ops _ (_::_)::_) _ _ _;first|refine T_call rfl rfl rfl rfl rfl (fun w hw=>sizeT_spec A n ca l 5 6 w (hf.cls hw).hst (hf.cls hw).hs hn (hf.cls hw).ok hf.gr (by omega) (by omega)) ?_|refine T_callC rfl rfl rfl rfl rfl rfl rfl (fun hg w hw=>sizeT_spec A n ca l 5 6 w (hf.cls hw).hst (hf.cls hw).hs hn (hf.cls hw).ok hf.gr (by omega) (by omega)) ?_)|(show T _ (.run _ _ (_::_) _ _::_) _ _ _;first|refine rc rfl rfl rfl rfl rfl rfl rfl (fun w hw=>sizeT_spec A n ca l 5 6 w (hf.cls hw).hst (hf.cls hw).hs hn (hf.cls hw).ok hf.gr (by omega) (by omega)) ?_|refine rcG rfl rfl rfl rfl rfl rfl rfl rfl rfl (fun hg w hw=>sizeT_spec A n ca l 5 6 w (hf.cls hw).hst (hf.cls hw).hs hn (hf.cls hw).ok hf.gr (by omega) (by omega)) ?_)|(show ∀ _:Nat,T _ _ _ _ _;intro _))
 rename_i p2
 rw [hsz]
 refine T_if rfl (fun h=>by exfalso;simp at h) (fun _=>?_)
 repeat' (first|refine d1 ?_|refine dd ?_|(show ∀ _:Nat,T _ _ _ _ _;intro _))
 refine T_if rfl (fun h=>by exfalso;simp at h;omega) (fun _=>?_)
 repeat' (first|refine d1 ?_|refine dd ?_|(show T _ (.ops _ (_::_)::_) _ _ _;refine T_op (OpT.call rfl rfl rfl rfl rfl (fun w hw=>moves19_spec (n:Int) w) (fun M R hR=>?_)))|(show ∀ _:Nat,T _ _ _ _ _;intro _))
 obtain⟨_,-,rfl,rfl⟩:=hR
 refine T_le (H':=blk p2 (spcL c0 none 0 0 (.slice none 0 0) 0) 132::dat [M] [rowsD ((mvL n).map intN)]::[]) (Hle.perm (List.Perm.swap _ _ _)) ?_
 have hMd:∃ Am cm,(1:Nat)=1∧∀ p:Frag,Rd (fr p) [M] [rowsD ((mvL n).map intN)]→M = .slice Am (mvL n).length cm:=by
  by_cases h9:∃ p:Frag,Rd (fr p) [M] [rowsD ((mvL n).map intN)]
  ·obtain⟨p,hM⟩:=h9
   obtain⟨Am,cm,csm,rfl,-⟩:=hM.tab
   rw [List.length_map]
   exact⟨Am,cm,rfl,fun _ _=>rfl⟩
  ·exact⟨none,0,rfl,fun p hp=>absurd ⟨p,hp⟩ h9⟩
 obtain⟨Am,cm,-,hM9⟩:=hMd
 refine T_le (Hle.perm (List.Perm.swap _ _ _)) ?_
 refine T_open fun pm hM=>?_
 obtain rfl:=hM9 pm hM
 repeat' (first|refine d1 ?_|refine dd ?_|(show ∀ _:Nat,T _ _ _ _ _;intro _))
 exact T_retM (vs:=[.agg (spcL c0 A n ca (.slice Am (mvL n).length cm) (volL (lens l))).toArray, .int .i64 0]) [dat [.slice Am (mvL n).length cm] [rowsD ((mvL n).map intN)]] ⟨⟨p2,_,spcL c0 A n ca (.slice Am (mvL n).length cm) (volL (lens l)),rfl,rfl,rfl,rfl,(fun h=>by cases h),rfl,rdAll⟩,rfl,trivial⟩ ((Hle.nth (A:=fz pm) 0 rfl).trans (Hle.weaken (i:=0) rfl (fz_dat hM) rfl)) ⟨_,trivial,rfl,rfl⟩
theorem open1_spec (t:TS) (w:World):Spec Tryz.prog 181 [t.val] w (fun v R=>v = .bool (decide ((1024:Int)<t.n))∧R=[]):=by
 refine spec_of sg Tryz.func181 rfl rfl rfl ?_
 repeat' (first|refine d1 ?_|refine dd ?_|(show ∀ _:Nat,T _ _ _ _ _;intro _)|(show T _ (.code .ret::_) _ _ _;refine T_retV [] rfl (Hle.refl _) ⟨rfl,rfl⟩))
theorem open21_spec (t:Tok) (ht:t.small) (w:World) (hst:Std w):Spec Tryz.prog 183 [t.val] w (fun v A=>v = .bool (!decide (tokE t=0))∧A=[]):=by
 refine spec_of sg Tryz.func183 rfl rfl rfl ?_
 repeat' (first|(show T _ (.ops _ (⟨_, .box _ _,_,_,_,_⟩::_)::_) _ _ _;refine T_op (OpT.box (cs:=t.cells) rfl rfl rfl rfl rfl rfl rfl (fun _=>?_)))|refine d1 ?_|refine dd ?_|(show T _ (.ops _ (_::_)::_) _ _ _;first|refine T_call rfl rfl rfl rfl rfl (fun w hw=>tokPrg_spec t ht w (hst.cls hw)) ?_|refine T_callC rfl rfl rfl rfl rfl rfl rfl (fun hg w hw=>tokPrg_spec t ht w (hst.cls hw)) ?_)|(show T _ (.run _ _ (_::_) _ _::_) _ _ _;first|refine rc rfl rfl rfl rfl rfl rfl rfl (fun w hw=>tokPrg_spec t ht w (hst.cls hw)) ?_|refine rcG rfl rfl rfl rfl rfl rfl rfl rfl rfl (fun hg w hw=>tokPrg_spec t ht w (hst.cls hw)) ?_)|(show ∀ _:Nat,T _ _ _ _ _;intro _)|(show T _ (.code .ret::_) _ _ _;refine T_retV [] rfl (Hle.none _) ⟨rfl,rfl⟩))
theorem open2_spec (A:Option Addr) (n c:Nat) (l:List Tok) (w:World) (hst:Std w) (hs:Src w 6 A n (l.flatMap Tok.cells)) (hn:l.length=n) (hb:n≤9223372036854775807) (hsm:∀ x∈l,x.small) :
  Spec Tryz.prog 182 [.slice A n c] w (fun v R=>v = .bool (badL l)∧R=[]):=by
 refine spec_of sg Tryz.func182 rfl rfl rfl ?_
 repeat' (first|refine d1 ?_|refine dd ?_|(show T _ (.ops _ (_::_)::_) _ _ _;first|refine T_call rfl rfl rfl rfl rfl (fun w hw=>containsFuncT_spec A n c l _ [] [] (fun t => !decide (tokE t=0)) w (rdSrc hs w hw) hn hb (fun x hx w' hb'=>open21_spec x (hsm x hx) w' (hst.below (hw.below.trans (hb'.mono hw.below.size))))) ?_|refine T_callC rfl rfl rfl rfl rfl rfl rfl (fun hg w hw=>containsFuncT_spec A n c l _ [] [] (fun t => !decide (tokE t=0)) w (rdSrc hs w hw) hn hb (fun x hx w' hb'=>open21_spec x (hsm x hx) w' (hst.below (hw.below.trans (hb'.mono hw.below.size))))) ?_)|(show T _ (.run _ _ (_::_) _ _::_) _ _ _;first|refine rc rfl rfl rfl rfl rfl rfl rfl (fun w hw=>containsFuncT_spec A n c l _ [] [] (fun t => !decide (tokE t=0)) w (rdSrc hs w hw) hn hb (fun x hx w' hb'=>open21_spec x (hsm x hx) w' (hst.below (hw.below.trans (hb'.mono hw.below.size))))) ?_|refine rcG rfl rfl rfl rfl rfl rfl rfl rfl rfl (fun hg w hw=>containsFuncT_spec A n c l _ [] [] (fun t => !decide (tokE t=0)) w (rdSrc hs w hw) hn hb (fun x hx w' hb'=>open21_spec x (hsm x hx) w' (hst.below (hw.below.trans (hb'.mono hw.below.size))))) ?_)|(show ∀ _:Nat,T _ _ _ _ _;intro _)|(show T _ (.code .ret::_) _ _ _;refine T_retV [] rfl (Hle.none _) ⟨rfl,rfl⟩))
theorem any_long {l:List TS}:(l.any fun t=>decide ((1024:Int)<t.n))=true↔∃ t∈l,1024<t.n:=by
 rw [List.any_eq_true]
 constructor
 ·rintro⟨t,ht,h⟩;exact⟨t,ht,by rw [decide_eq_true_eq] at h;omega⟩
 ·rintro⟨t,ht,h⟩;exact⟨t,ht,by rw [decide_eq_true_eq];omega⟩
theorem openBad_spec (c:Costs) (A:Option Addr) (n ca:Nat) (l:List TS) (w:World) (hf:Fit w A n l) (hp:opE c l≠0) :
  Spec Tryz.prog 114 [c.val, .slice A n ca] w (fun v R=>∃ c':Costs,True∧v = .tuple #[.agg (spcL c' none 0 0 (.slice none 0 0) 0).toArray, .int .i64 (opE c l)]∧R=[]):=by
 have hn:=hf.hn
 have h34:=hf.b34
 refine spec_of sg Tryz.func114 rfl rfl rfl ?_
 refine T_op (OpT.box (cs:=c.cells) rfl rfl rfl rfl rfl rfl rfl (fun pc=>?_))
 repeat' (first|refine d1 ?_|refine dd ?_|(show ∀ _:Nat,T _ _ _ _ _;intro _))
 rename_i p4
 refine T_if rfl (fun h=>?_) (fun h=>?_)
 ·have e:opE c l=5:=by unfold opE;rw [if_pos (by simp at h;omega)]
  rw [e]
  repeat' (first|refine d1 ?_|refine dd ?_|(show ∀ _:Nat,T _ _ _ _ _;intro _))
  exact T_retM (vs:=[.agg (spcL c0 none 0 0 (.slice none 0 0) 0).toArray, .int .i64 5]) [] ⟨⟨p4,_,spcL c0 none 0 0 (.slice none 0 0) 0,rfl,rfl,rfl,rfl,(fun h=>by cases h),rfl,rdAll⟩,rfl,trivial⟩ (Hle.none _) ⟨c0,trivial,rfl,rfl⟩
 have h0:l.length≠0:=by simp at h;omega
 clear h
 repeat' (first|refine d1 ?_|refine dd ?_|(show T _ (.ops _ (_::_)::_) _ _ _;first|refine T_call rfl rfl rfl rfl rfl (fun w hw=>containsFuncS_spec A n ca l _ [] [] (fun t=>decide ((1024:Int)<t.n)) w (rdSrc hf.hs w hw) hn (by omega) (fun x hx w' hb'=>open1_spec x w')) ?_|refine T_callC rfl rfl rfl rfl rfl rfl rfl (fun hg w hw=>containsFuncS_spec A n ca l _ [] [] (fun t=>decide ((1024:Int)<t.n)) w (rdSrc hf.hs w hw) hn (by omega) (fun x hx w' hb'=>open1_spec x w')) ?_)|(show T _ (.run _ _ (_::_) _ _::_) _ _ _;first|refine rc rfl rfl rfl rfl rfl rfl rfl (fun w hw=>containsFuncS_spec A n ca l _ [] [] (fun t=>decide ((1024:Int)<t.n)) w (rdSrc hf.hs w hw) hn (by omega) (fun x hx w' hb'=>open1_spec x w')) ?_|refine rcG rfl rfl rfl rfl rfl rfl rfl rfl rfl (fun hg w hw=>containsFuncS_spec A n ca l _ [] [] (fun t=>decide ((1024:Int)<t.n)) w (rdSrc hf.hs w hw) hn (by omega) (fun x hx w' hb'=>open1_spec x w')) ?_)|(show ∀ _:Nat,T _ _ _ _ _;intro _))
 refine T_if rfl (fun h=>?_) (fun h=>?_)
 ·have hb:bigS l:=⟨h0,by
   rw [Bool.or_eq_true,decide_eq_true_eq,any_long] at h
   rcases h with h|h
   ·exact .inl (by omega)
   ·exact .inr h⟩
  have e:opE c l=4:=by unfold opE;rw [if_neg h0,if_pos hb]
  rw [e]
  repeat' (first|refine d1 ?_|refine dd ?_|(show ∀ _:Nat,T _ _ _ _ _;intro _))
  exact T_retM (vs:=[.agg (spcL c0 none 0 0 (.slice none 0 0) 0).toArray, .int .i64 4]) [] ⟨⟨p4,_,spcL c0 none 0 0 (.slice none 0 0) 0,rfl,rfl,rfl,rfl,(fun h=>by cases h),rfl,rdAll⟩,rfl,trivial⟩ (Hle.none _) ⟨c0,trivial,rfl,rfl⟩
 have hb:¬ bigS l:=fun hb=>by
  rw [Bool.or_eq_false_iff,decide_eq_false_iff_not] at h
  rcases hb.2 with h9|h9
  ·omega
  ·rw [any_long.2 h9] at h;cases h.2
 clear h
 have hg:=hf.grp hb
 have hgp:=hg
 repeat' (first|refine d1 ?_|refine dd ?_|(show T _ (.ops _ (_::_)::_) _ _ _;first|refine T_call rfl rfl rfl rfl rfl (fun w hw=>costPrg_spec c w) ?_|refine T_callC rfl rfl rfl rfl rfl rfl rfl (fun hg w hw=>costPrg_spec c w) ?_|refine T_call rfl rfl rfl rfl rfl (fun w hw=>containsFuncS_spec A n ca l _ [] [] (fun t=>badL t.l) w (rdSrc hgp.hs w hw) hgp.hn (by omega) (fun x hx w' hb'=>open2_spec x.A x.n x.cap x.l w' (hgp.hst.below (hw.below.trans (hb'.mono hw.below.size))) (src_below (hgp.ok.src x hx) (hw.below.trans (hb'.mono hw.below.size))) (hgp.ok.len x hx) (hgp.ok.bd x hx) (hgp.sm x hx))) ?_|refine T_callC rfl rfl rfl rfl rfl rfl rfl (fun hg w hw=>containsFuncS_spec A n ca l _ [] [] (fun t=>badL t.l) w (rdSrc hgp.hs w hw) hgp.hn (by omega) (fun x hx w' hb'=>open2_spec x.A x.n x.cap x.l w' (hgp.hst.below (hw.below.trans (hb'.mono hw.below.size))) (src_below (hgp.ok.src x hx) (hw.below.trans (hb'.mono hw.below.size))) (hgp.ok.len x hx) (hgp.ok.bd x hx) (hgp.sm x hx))) ?_)|(show T _ (.run _ _ (_::_) _ _::_) _ _ _;first|refine rc rfl rfl rfl rfl rfl rfl rfl (fun w hw=>costPrg_spec c w) ?_|refine rcG rfl rfl rfl rfl rfl rfl rfl rfl rfl (fun hg w hw=>costPrg_spec c w) ?_|refine rc rfl rfl rfl rfl rfl rfl rfl (fun w hw=>containsFuncS_spec A n ca l _ [] [] (fun t=>badL t.l) w (rdSrc hgp.hs w hw) hgp.hn (by omega) (fun x hx w' hb'=>open2_spec x.A x.n x.cap x.l w' (hgp.hst.below (hw.below.trans (hb'.mono hw.below.size))) (src_below (hgp.ok.src x hx) (hw.below.trans (hb'.mono hw.below.size))) (hgp.ok.len x hx) (hgp.ok.bd x hx) (hgp.sm x hx))) ?_|refine rcG rfl rfl rfl rfl rfl rfl rfl rfl rfl (fun hg w hw=>containsFuncS_spec A n ca l _ [] [] (fun t=>badL t.l) w (rdSrc hgp.hs w hw) hgp.hn (by omega) (fun x hx w' hb'=>open2_spec x.A x.n x.cap x.l w' (hgp.hst.below (hw.below.trans (hb'.mono hw.below.size))) (src_below (hgp.ok.src x hx) (hw.below.trans (hb'.mono hw.below.size))) (hgp.ok.len x hx) (hgp.ok.bd x hx) (hgp.sm x hx))) ?_)|(show ∀ _:Nat,T _ _ _ _ _;intro _))
 refine T_if rfl (fun h=>?_) (fun h=>?_)
 ·have hck:ck21 c l≠0:=fun h9=>by
   obtain⟨e1,e2⟩:=ck21_ok h9
   unfold badS at e2
   rw [e2] at h
   simp [e1] at h
  have e:opE c l=1:=by unfold opE;rw [if_neg h0,if_neg hb,if_pos hck]
  rw [e]
  repeat' (first|refine d1 ?_|refine dd ?_|(show ∀ _:Nat,T _ _ _ _ _;intro _))
  exact T_retM (vs:=[.agg (spcL c0 none 0 0 (.slice none 0 0) 0).toArray, .int .i64 1]) [] ⟨⟨p4,_,spcL c0 none 0 0 (.slice none 0 0) 0,rfl,rfl,rfl,rfl,(fun h=>by cases h),rfl,rdAll⟩,rfl,trivial⟩ (Hle.none _) ⟨c0,trivial,rfl,rfl⟩
 have hck:ck21 c l=0:=by
  unfold ck21
  rw [if_pos]
  unfold badS
  simpa using h
 clear h
 have e:=opE_pl hck
 rw [e] at hp ⊢
 repeat' (first|refine d1 ?_|refine dd ?_|(show T _ (.ops _ (_::_)::_) _ _ _;first|refine T_call rfl rfl rfl rfl rfl (fun w hw=>placesBad_spec A n ca l w (hf.cls hw) hp) ?_|refine T_callC rfl rfl rfl rfl rfl rfl rfl (fun hg w hw=>placesBad_spec A n ca l w (hf.cls hw) hp) ?_)|(show T _ (.run _ _ (_::_) _ _::_) _ _ _;first|refine rc rfl rfl rfl rfl rfl rfl rfl (fun w hw=>placesBad_spec A n ca l w (hf.cls hw) hp) ?_|refine rcG rfl rfl rfl rfl rfl rfl rfl rfl rfl (fun hg w hw=>placesBad_spec A n ca l w (hf.cls hw) hp) ?_)|(show ∀ _:Nat,T _ _ _ _ _;intro _))
 exact T_retM (vs:=[.agg (spcL c none 0 0 (.slice none 0 0) 0).toArray, .int .i64 (plE l)]) [] ⟨⟨p4,_,spcL c none 0 0 (.slice none 0 0) 0,rfl,rfl,rfl,rfl,(fun h=>by cases h),rfl,rdAll⟩,rfl,trivial⟩ (Hle.none _) ⟨c,trivial,rfl,rfl⟩
theorem openOk_spec (c:Costs) (A:Option Addr) (n ca:Nat) (l:List TS) (w:World) (hf:Fit w A n l) (hp:opE c l=0) :
  Spec Tryz.prog 114 [c.val, .slice A n ca] w (fun v R=>∃ M:Value,True∧v = .tuple #[.agg (spcL c A n ca M (volL (lens l))).toArray, .int .i64 0]∧R=[dat [M] [rowsD ((mvL n).map intN)]]):=by
 have hn:=hf.hn
 obtain⟨hpl,hck⟩:=opE_ok hp
 obtain⟨h1,hb,h4,hv⟩:=plE_ok hpl
 obtain⟨hc,hbs⟩:=ck21_ok hck
 have hg:=hf.grp hb
 refine spec_of sg Tryz.func114 rfl rfl rfl ?_
 refine T_op (OpT.box (cs:=c.cells) rfl rfl rfl rfl rfl rfl rfl (fun pc=>?_))
 repeat' (first|refine d1 ?_|refine dd ?_|(show ∀ _:Nat,T _ _ _ _ _;intro _))
 rename_i p4
 refine T_if rfl (fun h=>by exfalso;simp at h;omega) (fun _=>?_)
 repeat' (first|refine d1 ?_|refine dd ?_|(show T _ (.ops _ (_::_)::_) _ _ _;first|refine T_call rfl rfl rfl rfl rfl (fun w hw=>containsFuncS_spec A n ca l _ [] [] (fun t=>decide ((1024:Int)<t.n)) w (rdSrc hf.hs w hw) hn (by omega) (fun x hx w' hb'=>open1_spec x w')) ?_|refine T_callC rfl rfl rfl rfl rfl rfl rfl (fun hg w hw=>containsFuncS_spec A n ca l _ [] [] (fun t=>decide ((1024:Int)<t.n)) w (rdSrc hf.hs w hw) hn (by omega) (fun x hx w' hb'=>open1_spec x w')) ?_)|(show T _ (.run _ _ (_::_) _ _::_) _ _ _;first|refine rc rfl rfl rfl rfl rfl rfl rfl (fun w hw=>containsFuncS_spec A n ca l _ [] [] (fun t=>decide ((1024:Int)<t.n)) w (rdSrc hf.hs w hw) hn (by omega) (fun x hx w' hb'=>open1_spec x w')) ?_|refine rcG rfl rfl rfl rfl rfl rfl rfl rfl rfl (fun hg w hw=>containsFuncS_spec A n ca l _ [] [] (fun t=>decide ((1024:Int)<t.n)) w (rdSrc hf.hs w hw) hn (by omega) (fun x hx w' hb'=>open1_spec x w')) ?_)|(show ∀ _:Nat,T _ _ _ _ _;intro _))
 refine T_if rfl (fun h=>?_) (fun _=>?_)
 ·exfalso
  rw [Bool.or_eq_true,decide_eq_true_eq,any_long] at h
  rcases h with h|h
  ·omega
  ·exact hb ⟨by omega, .inr h⟩
 have hgp:=hg
 repeat' (first|refine d1 ?_|refine dd ?_|(show T _ (.ops _ (_::_)::_) _ _ _;first|refine T_call rfl rfl rfl rfl rfl (fun w hw=>costPrg_spec c w) ?_|refine T_callC rfl rfl rfl rfl rfl rfl rfl (fun hg w hw=>costPrg_spec c w) ?_|refine T_call rfl rfl rfl rfl rfl (fun w hw=>containsFuncS_spec A n ca l _ [] [] (fun t=>badL t.l) w (rdSrc hgp.hs w hw) hgp.hn (by omega) (fun x hx w' hb'=>open2_spec x.A x.n x.cap x.l w' (hgp.hst.below (hw.below.trans (hb'.mono hw.below.size))) (src_below (hgp.ok.src x hx) (hw.below.trans (hb'.mono hw.below.size))) (hgp.ok.len x hx) (hgp.ok.bd x hx) (hgp.sm x hx))) ?_|refine T_callC rfl rfl rfl rfl rfl rfl rfl (fun hg w hw=>containsFuncS_spec A n ca l _ [] [] (fun t=>badL t.l) w (rdSrc hgp.hs w hw) hgp.hn (by omega) (fun x hx w' hb'=>open2_spec x.A x.n x.cap x.l w' (hgp.hst.below (hw.below.trans (hb'.mono hw.below.size))) (src_below (hgp.ok.src x hx) (hw.below.trans (hb'.mono hw.below.size))) (hgp.ok.len x hx) (hgp.ok.bd x hx) (hgp.sm x hx))) ?_)|(show T _ (.run _ _ (_::_) _ _::_) _ _ _;first|refine rc rfl rfl rfl rfl rfl rfl rfl (fun w hw=>costPrg_spec c w) ?_|refine rcG rfl rfl rfl rfl rfl rfl rfl rfl rfl (fun hg w hw=>costPrg_spec c w) ?_|refine rc rfl rfl rfl rfl rfl rfl rfl (fun w hw=>containsFuncS_spec A n ca l _ [] [] (fun t=>badL t.l) w (rdSrc hgp.hs w hw) hgp.hn (by omega) (fun x hx w' hb'=>open2_spec x.A x.n x.cap x.l w' (hgp.hst.below (hw.below.trans (hb'.mono hw.below.size))) (src_below (hgp.ok.src x hx) (hw.below.trans (hb'.mono hw.below.size))) (hgp.ok.len x hx) (hgp.ok.bd x hx) (hgp.sm x hx))) ?_|refine rcG rfl rfl rfl rfl rfl rfl rfl rfl rfl (fun hg w hw=>containsFuncS_spec A n ca l _ [] [] (fun t=>badL t.l) w (rdSrc hgp.hs w hw) hgp.hn (by omega) (fun x hx w' hb'=>open2_spec x.A x.n x.cap x.l w' (hgp.hst.below (hw.below.trans (hb'.mono hw.below.size))) (src_below (hgp.ok.src x hx) (hw.below.trans (hb'.mono hw.below.size))) (hgp.ok.len x hx) (hgp.ok.bd x hx) (hgp.sm x hx))) ?_)|(show ∀ _:Nat,T _ _ _ _ _;intro _))
 refine T_if rfl (fun h=>?_) (fun _=>?_)
 ·exfalso
  unfold badS at hbs
  rw [hbs] at h
  simp [hc] at h
 repeat' (first|refine d1 ?_|refine dd ?_|(show T _ (.ops _ (_::_)::_) _ _ _;refine T_op (OpT.call rfl rfl rfl rfl rfl (fun w hw=>placesOk_spec A n ca l w (hf.cls hw) hpl) ?_))|(show ∀ _:Nat,T _ _ _ _ _;intro _))
 rintro v R ⟨M,-,rfl,rfl⟩
 refine T_le (H':=dat [M] [rowsD ((mvL n).map intN)]::blk p4 (spcL c0 none 0 0 (.slice none 0 0) 0) 132::blk pc c.cells 23::[]) (Hle.refl _) ?_
 refine T_open fun pm hM=>?_
 obtain⟨Am,cm,csm,rfl,-⟩:=hM.tab
 rw [List.length_map] at hM ⊢
 repeat' (first|refine d1 ?_|refine dd ?_|(show ∀ _:Nat,T _ _ _ _ _;intro _))
 exact T_retM (vs:=[.agg (spcL c A n ca (.slice Am (mvL n).length cm) (volL (lens l))).toArray, .int .i64 0]) [dat [.slice Am (mvL n).length cm] [rowsD ((mvL n).map intN)]] ⟨⟨p4,_,spcL c A n ca (.slice Am (mvL n).length cm) (volL (lens l)),rfl,rfl,rfl,rfl,(fun h=>by cases h),rfl,rdAll⟩,rfl,trivial⟩ ((Hle.srt (K:=[fz pm])).trans (Hle.weaken (i:=0) rfl (fz_dat hM) rfl)) ⟨_,trivial,rfl,rfl⟩
end Go.Proofs.YtmenjpmikhajfaaGreatDoor
