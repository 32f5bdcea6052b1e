/- Joined texts of this claim, part 4. -/
import Derived.Test.YtefieebkankfoaaGreatDoorW3
import Derived.Shelf.SlSortCmp.Whole1
import Derived.Lib.IndexLaws
set_option linter.unusedSectionVars false
set_option linter.unusedVariables false
set_option linter.unusedSimpArgs false
namespace Go.Proofs.YtefieebkankfoaaGreatDoor
open Go.RowKit Go.Shelf Go.Proofs
set_option maxRecDepth 100000
set_option maxHeartbeats 1000000

theorem greatNames_spec (sec:ByteArray) (sg':List ByteArray) (A1:Option Addr) (c1:Nat) (w:World) (hs:Src w 1 A1 sg'.length (sg'.map Value.string)) (hb:sg'.length≤9223372036854775807) :
  Spec Tryz.prog 41 [.string sec, .slice A1 sg'.length c1] w (fun v R=>v = .bool (grN22 sec sg')∧R=[]):=by
 refine spec_of sg Tryz.func41 rfl rfl rfl ?_
 repeat' (first|refine d1 ?_|fail)
 refine T_loopX (fun k:Nat=>[(5, .int .i64 k)]) (fun _=>[]) (fun k=>k≤sg'.length∧∀ j s,j<k→sg'[j]?=some s→s.size≤20) (fun k=>sg'.length - k) 0 ⟨Nat.zero_le _,fun j s h=>by omega⟩ ?_
 rintro k ⟨hk,hall⟩
 repeat' (first|refine d1 ?_|fail)
 refine T_if rfl (fun h=>?_) (fun h=>?_)
 ·simp only [decide_eq_true_eq] at h
  have hkn:k<sg'.length:=by omega
  obtain⟨b,o,rfl⟩:=hs.base (by omega)
  obtain⟨s,hs9⟩:∃ s,sg'[k]?=some s:=⟨_,List.getElem?_eq_getElem hkn⟩
  have hr:=src_str hs hkn hs9
  repeat' (first|refine d1 ?_|fail)
  refine T_if rfl (fun h2=>?_) (fun h2=>?_)
  ·simp only [decide_eq_true_eq] at h2
   have:sg'.any (fun s=>decide (20<s.size))=true:=List.any_eq_true.2 ⟨s,List.mem_of_getElem? hs9,by simp;omega⟩
   repeat' (first|refine d1 ?_|(show T _ (.code .ret::_) _ _ _;refine T_retV [] rfl (Hle.none _) ⟨congrArg Value.bool (by unfold grN22;rw [this];rfl),rfl⟩))
  simp only [decide_eq_false_iff_not] at h2
  repeat' (first|refine d1 ?_|fail)
  refine T_backX (k+1) ⟨by omega,fun j z hj hz=>?_⟩ (by omega)
  rcases Nat.lt_or_ge j k with h9|h9
  ·exact hall j z h9 hz
  ·rw [show j=k by omega,hs9] at hz
   cases hz
   omega
 simp only [decide_eq_false_iff_not] at h
 have:sg'.any (fun s=>decide (20<s.size))=false:=List.any_eq_false.2 fun y hy=>by
  obtain⟨i,hi,e⟩:=List.getElem_of_mem hy
  have:=hall i y (by omega) (by rw [List.getElem?_eq_getElem hi,e])
  simp;omega
 repeat' (first|refine d1 ?_|(show T _ (.code .ret::_) _ _ _;refine T_retV [] rfl (Hle.none _) ⟨congrArg Value.bool (by unfold grN22;rw [this,Bool.false_or];exact decide_eq_decide.2 (by omega)),rfl⟩))
theorem grL22_step {m:List (List Tok)} {k n:Nat} {l:List Tok} (h:m[k]?=some l):grL22 k n (m.drop k)=((decide (6<l.length) || (decide (4≤k) && decide (1<l.length)) || l.any big22) || grL22 (k+1) (if k<4 then n * (l.length+1) else n) (m.drop (k+1))):=by
 obtain⟨hl,e⟩:=List.getElem?_eq_some_iff.1 h
 rw [List.drop_eq_getElem_cons hl,e]
 rfl
theorem greatTokens_spec (A2:Option Addr) (c2:Nat) (l:List TS) (w:World) (hs:Src w 1 A2 l.length (l.map TS.val)) (hl:TsOk w l) (hb:l.length≤9223372036854775807) :
  Spec Tryz.prog 40 [.slice A2 l.length c2] w (fun v R=>v = .bool (grT22 (l.map TS.l))∧R=[]):=by
 refine spec_of sg Tryz.func40 rfl rfl rfl ?_
 repeat' (first|refine d1 ?_|fail)
 refine T_loopX (fun s:Nat × Nat=>[(4, .int .i64 (s.1:Nat)),(3, .int .i64 (s.2:Nat))]) (fun _=>[]) (fun s=>s.1≤l.length∧grL22 0 1 (l.map TS.l)=grL22 s.1 s.2 ((l.map TS.l).drop s.1)∧s.2 * 7 ^ (4 - s.1)≤2401) (fun s=>l.length - s.1) (0,1) ⟨Nat.zero_le _,by simp,by decide⟩ ?_
 rintro⟨k,n⟩ ⟨hk,hE,hN⟩
 dsimp only at hk hE hN ⊢
 have hn:n≤2401:=Nat.le_trans (Nat.le_mul_of_pos_right n (Nat.pow_pos (by omega))) hN
 repeat' (first|refine d1 ?_|fail)
 refine T_if rfl (fun h=>?_) (fun h=>?_)
 ·simp only [decide_eq_true_eq] at h
  have hkn:k<l.length:=by omega
  obtain⟨b,o,rfl⟩:=hs.base (by omega)
  obtain⟨t,ht⟩:∃ t,l[k]?=some t:=⟨_,List.getElem?_eq_getElem hkn⟩
  have htm:=List.mem_of_getElem? ht
  have htl:=hl.len t htm
  have htb:=hl.bd t htm
  have hts:=hl.src t htm
  have hr:RdC w b (o+(k:Int).toNat * 1) [.slice t.A t.n t.cap]:=by
   have h9:=(hs.get1 (i:=k) hkn (by rw [List.getElem?_map,ht];rfl)).2
   rw [Nat.mul_one] at h9
   rw [off1]
   exact h9
  rw [grL22_step (by rw [List.getElem?_map,ht];rfl)] at hE
  repeat' (first|refine d1 ?_|fail)
  refine T_if rfl (fun h2=>?_) (fun h2=>?_)
  ·have h3:(decide (6<t.l.length) || (decide (4≤k) && decide (1<t.l.length)))=true:=by
    simp only [Bool.or_eq_true,Bool.and_eq_true,decide_eq_true_eq] at h2 ⊢
    omega
   rw [h3,Bool.true_or,Bool.true_or] at hE
   repeat' (first|refine d1 ?_|(show T _ (.code .ret::_) _ _ _;refine T_retV [] rfl (Hle.none _) ⟨congrArg Value.bool (by unfold grT22;rw [hE];rfl),rfl⟩))
  have h3:(decide (6<t.l.length) || (decide (4≤k) && decide (1<t.l.length)))=false:=by
   simp only [Bool.or_eq_false_iff,Bool.and_eq_false_iff,decide_eq_false_iff_not] at h2 ⊢
   omega
  have h6:t.n≤6:=by
   simp only [Bool.or_eq_false_iff,decide_eq_false_iff_not] at h3
   omega
  rw [h3,Bool.false_or] at hE
  repeat' (first|refine d1 ?_|fail)
  refine T_cutX 1 [3] (fun _:Unit=>[(3, .int .i64 ((if k<4 then n * (t.l.length+1) else n:Nat):Nat))]) (fun _=>[]) (fun _=>True) ?_ ?_
  ·refine T_if rfl (fun h4=>?_) (fun h4=>?_)
   ·simp only [decide_eq_true_eq] at h4
    have h5:n * (t.n+1)≤2401 * 7:=Nat.mul_le_mul hn (by omega)
    have h7:(n:Int) * ((t.n:Int)+1)=((n * (t.n+1):Nat):Int):=by push_cast;rfl
    repeat' (first|refine d1 ?_|fail)
    refine T_meetX () trivial (hE:=⟨by rw [if_pos (by omega),htl, ← h7];rfl,trivial⟩)
   ·simp only [decide_eq_false_iff_not] at h4
    skip
    exact T_meetX () trivial (hE:=⟨by rw [if_neg (by omega)];rfl,trivial⟩)
  rintro⟨⟩ -
  repeat' (first|refine d1 ?_|fail)
  refine T_loopX (fun j:Nat=>[(5, .int .i64 j)]) (fun _=>[]) (fun j=>j≤t.n∧∀ i y,i<j→t.l[i]?=some y→big22 y=false) (fun j=>t.n - j) 0 ⟨Nat.zero_le _,fun i y h=>by omega⟩ ?_
  rintro j ⟨hj,hall⟩
  repeat' (first|refine d1 ?_|fail)
  refine T_if rfl (fun h4=>?_) (fun h4=>?_)
  ·simp only [decide_eq_true_eq] at h4
   have hjn:j<t.n:=by omega
   obtain⟨b2,o2,eA⟩:=hts.base (by omega)
   obtain⟨y,hy⟩:∃ y,t.l[j]?=some y:=⟨_,List.getElem?_eq_getElem (by omega)⟩
   have hr2:RdC w b2 (o2+(j:Int).toNat * 6) y.cells:=by have:=hts.getT hjn hy;rw [eA] at this;exact this
   rw [eA] at hr
   repeat' (first|refine d1 ?_|(show ∀ _:Nat,T _ _ _ _ _;intro _))
   refine T_if rfl (fun h5=>?_) (fun h5=>?_)
   ·have hbig:big22 y=true:=by
     simp only [Bool.or_eq_true,decide_eq_true_eq] at h5
     simp only [big22,Bool.or_eq_true,decide_eq_true_eq]
     omega
    rw [List.any_eq_true.2 ⟨y,List.mem_of_getElem? hy,hbig⟩,Bool.true_or] at hE
    repeat' (first|refine d1 ?_|(show T _ (.code .ret::_) _ _ _;refine T_retV [] rfl (Hle.none _) ⟨congrArg Value.bool (by unfold grT22;rw [hE];rfl),rfl⟩))
   have hbig:big22 y=false:=by
    simp only [Bool.or_eq_false_iff,decide_eq_false_iff_not] at h5
    simp only [big22,Bool.or_eq_false_iff,decide_eq_false_iff_not]
    omega
   repeat' (first|refine d1 ?_|fail)
   refine T_backX (j+1) ⟨by omega,fun i z hi hz=>?_⟩ (by omega)
   rcases Nat.lt_or_ge i j with h9|h9
   ·exact hall i z h9 hz
   ·rw [show i=j by omega,hy] at hz
    cases hz
    exact hbig
  simp only [decide_eq_false_iff_not] at h4
  have hgood:t.l.any big22=false:=List.any_eq_false.2 fun y hy=>by
   obtain⟨i,hi,e⟩:=List.getElem_of_mem hy
   rw [hall i y (by omega) (by rw [List.getElem?_eq_getElem hi,e])]
   simp
  rw [hgood,Bool.false_or] at hE
  repeat' (first|refine d1 ?_|fail)
  refine T_backX (k+1,if k<4 then n * (t.l.length+1) else n) ⟨by dsimp only;omega,hE,?_⟩ (by dsimp only;omega)
  show (if k<4 then n * (t.l.length+1) else n) * 7 ^ (4 - (k+1))≤2401
  by_cases h7:k<4
  ·rw [if_pos h7]
   rw [show 4 - k=(4 - (k+1))+1 by omega,Nat.pow_succ] at hN
   have h8:n * (t.l.length+1) * 7 ^ (4 - (k+1))≤n * 7 * 7 ^ (4 - (k+1)):=Nat.mul_le_mul_right _ (Nat.mul_le_mul_left _ (by omega))
   have e9:n * 7 * 7 ^ (4 - (k+1))=n * (7 ^ (4 - (k+1)) * 7):=by rw [Nat.mul_assoc,Nat.mul_comm 7]
   rw [e9] at h8
   exact Nat.le_trans h8 hN
  ·rw [if_neg h7,show 4 - (k+1)=4 - k by omega]
   exact hN
 simp only [decide_eq_false_iff_not] at h
 rw [List.drop_eq_nil_of_le (by rw [List.length_map];omega)] at hE
 have hE2:grL22 0 1 (l.map TS.l)=decide (400<n):=hE
 repeat' (first|refine d1 ?_|(show T _ (.code .ret::_) _ _ _;refine T_retV [] rfl (Hle.none _) ⟨congrArg Value.bool ?_,rfl⟩))
 unfold grT22
 rw [hE2,List.length_map,Bool.eq_iff_iff]
 simp only [Bool.or_eq_true,Bool.and_eq_true,decide_eq_true_eq]
 omega
theorem great22_spec (x:Co) (A1:Option Addr) (c1:Nat) (l:List TS) (A2:Option Addr) (c2:Nat) (y3:Value) (w:World) (hs1:Src w 1 A1 x.sg.length (x.sg.map Value.string)) (hb1:x.sg.length≤9223372036854775807)
  (hs2:Src w 1 A2 l.length (l.map TS.val)) (hl:TsOk w l) (hb2:l.length≤9223372036854775807) (hm:l.map TS.l=x.m) (hc:Rd (wr w) [y3] [rowsD x.cols]) :
  Spec Tryz.prog 20 [.agg (coL x.sec (.slice A1 x.sg.length c1) (.slice A2 l.length c2) y3).toArray] w (fun v R=>v = .bool (great22 x)∧R=[]):=by
 obtain⟨Ak,ck,csk,rfl,hck1,hck2,hcs,hrows⟩:=hc.tabS
 refine spec_of sg Tryz.func20 rfl rfl rfl ?_
 refine T_op (OpT.box (cs:=coL x.sec (.slice A1 x.sg.length c1) (.slice A2 l.length c2) (.slice Ak x.cols.length ck)) rfl rfl rfl rfl rfl rfl rfl (fun pc=>?_))
 repeat' (first|refine d1 ?_|fail)
 refine T_loopX (fun k:Nat=>[(3, .int .i64 k)]) (fun _=>[blk pc (coL x.sec (.slice A1 x.sg.length c1) (.slice A2 l.length c2) (.slice Ak x.cols.length ck)) 26]) (fun k=>k≤x.cols.length∧∀ j c,j<k→x.cols[j]?=some c→c.length≤36) (fun k=>x.cols.length - k) 0 ⟨Nat.zero_le _,fun j s h=>by omega⟩ ?_
 rintro k ⟨hk,hall⟩
 repeat' (first|refine d1 ?_|fail)
 refine T_if rfl (fun h=>?_) (fun h=>?_)
 ·simp only [decide_eq_true_eq] at h
  have hkn:k<x.cols.length:=by omega
  obtain⟨b,o,rfl⟩:=hcs.base (by omega)
  obtain⟨r,hr⟩:∃ r,x.cols[k]?=some r:=⟨_,List.getElem?_eq_getElem hkn⟩
  obtain⟨Au,capu,hu,-,-,hA⟩:=hrows.tabRow hr
  have hr0:=rowHd hcs hkn hu
  repeat' (first|refine d1 ?_|fail)
  refine T_if rfl (fun h2=>?_) (fun h2=>?_)
  ·simp only [decide_eq_true_eq] at h2
   have:x.cols.any (fun c=>decide (36<c.length))=true:=List.any_eq_true.2 ⟨r,List.mem_of_getElem? hr,by simp;omega⟩
   repeat' (first|refine d1 ?_|(show T _ (.code .ret::_) _ _ _;refine T_retV [] rfl (Hle.none _) ⟨congrArg Value.bool (by unfold great22;rw [this];rfl),rfl⟩))
  simp only [decide_eq_false_iff_not] at h2
  repeat' (first|refine d1 ?_|fail)
  refine T_backX (k+1) ⟨by omega,fun j z hj hz=>?_⟩ (by omega)
  rcases Nat.lt_or_ge j k with h9|h9
  ·exact hall j z h9 hz
  ·rw [show j=k by omega,hr] at hz
   cases hz
   omega
 simp only [decide_eq_false_iff_not] at h
 have:x.cols.any (fun s=>decide (36<s.length))=false:=List.any_eq_false.2 fun y hy=>by
  obtain⟨i,hi,e⟩:=List.getElem_of_mem hy
  have:=hall i y (by omega) (by rw [List.getElem?_eq_getElem hi,e])
  simp;omega
 repeat' (first|refine d1 ?_|(show T _ (.ops _ (_::_)::_) _ _ _;first|refine T_call rfl rfl rfl rfl rfl (fun w hw=>greatTokens_spec A2 c2 l w (rdSrc hs2 w hw) ⟨fun t ht=>src_below (hl.src t ht) hw.below,hl.len,hl.bd⟩ hb2) ?_|refine T_callC rfl rfl rfl rfl rfl rfl rfl (fun hg w hw=>greatNames_spec x.sec x.sg A1 c1 w (rdSrc hs1 w hw) hb1) ?_)|(show T _ (.code .ret::_) _ _ _;refine T_retV [] rfl (Hle.none _) ⟨congrArg Value.bool ?_,rfl⟩))
 rw [hm]
 unfold great22
 rw [this,show decide ((24:Int)<(x.cols.length:Nat))=decide (24<x.cols.length) from decide_eq_decide.2 (by omega),show decide ((36:Int)<(x.sg.length:Nat))=decide (36<x.sg.length) from decide_eq_decide.2 (by omega),Bool.false_or,Bool.or_assoc,Bool.or_assoc]
end Go.Proofs.YtefieebkankfoaaGreatDoor
namespace Go.Proofs.YtefieebkankfoaaGreatDoor
open Go.RowKit Go.Shelf Go.Proofs
set_option maxRecDepth 100000
set_option maxHeartbeats 1000000

theorem find1_22_spec (A:Option Addr) (n ca p4 p5:Nat) (r:List Int) (s:Nat) (k:Int) (w:World) (hs:Src w 1 A n (r.map (Value.int .i64))) (hn:r.length=n) (hsn:s<n) (h4:RdC w p4 0 [.int .i64 (s:Nat)]) (h5:RdC w p5 0 [.int .i64 k]) :
  Spec Tryz.prog 51 [.slice A n ca, .pointer (some ⟨p4,0,none⟩), .pointer (some ⟨p5,0,none⟩)] w (fun v R=>v = .bool (decide (r.getD s (-1)=k))∧R=[]):=by
 obtain⟨b,o,rfl⟩:=hs.base (by omega)
 obtain⟨z,hz⟩:∃ z,r[s]?=some z:=⟨_,List.getElem?_eq_getElem (by omega)⟩
 have hr:=src_int hs hsn hz
 refine spec_of sg Tryz.func51 rfl rfl rfl ?_
 repeat' (first|refine d1 ?_|refine dd ?_|(show T _ (.code .ret::_) _ _ _;refine T_retV [] rfl (Hle.none _) ⟨congrArg Value.bool (by rw [List.getD_eq_getElem?_getD,hz];rfl),rfl⟩))
theorem findI_range22 {α:Type} (f:α→Bool) (d:α):∀ l:List α,findI (fun i=>f (l.getD i d)) (List.range l.length)=findI f l:=by
 intro l
 by_cases h:∃ i,i<l.length∧f (l.getD i d)=true∧∀ j,j<i→f (l.getD j d)=false
 ·obtain⟨i,hi,h1,h2⟩:=h
  have e:l[i]?=some (l.getD i d):=by rw [List.getD_eq_getElem?_getD,List.getElem?_eq_getElem hi];rfl
  rw [findI_some e h1 fun j y hj hy=>by have:=h2 j hj;rw [List.getD_eq_getElem?_getD,hy] at this;exact this]
  refine findI_some (List.getElem?_range hi) h1 fun j y hj hy=>?_
  have hjl:j<l.length:=by omega
  rw [List.getElem?_range hjl] at hy
  cases hy
  exact h2 j hj
 ·have key:∀ n j,j<n→j<l.length→f (l.getD j d)=false:=by
   intro n
   induction n with
   | zero=>intro j hj;omega
   | succ n ih =>
    intro j hj hl
    cases hf:f (l.getD j d) with
    | false=>rfl
    | true=>exact absurd ⟨j,hl,hf,fun i hi=>ih i (by omega) (by omega)⟩ h
  rw [findI_none fun i y hy=>?_,findI_none fun i y hy=>?_]
  ·have hi:=(List.getElem?_eq_some_iff.1 hy).1
   have:=key (i+1) i (by omega) hi
   rw [List.getD_eq_getElem?_getD,hy] at this
   exact this
  ·have hi:=(List.getElem?_eq_some_iff.1 hy).1
   rw [List.length_range] at hi
   rw [List.getElem?_range hi] at hy
   cases hy
   exact key (i+1) i (by omega) hi
theorem findP22_spec (x:Co) (A1:Option Addr) (c1:Nat) (l:List TS) (A2:Option Addr) (c2:Nat) (y3:Value) (s k:Int) (w:World) (hx:CoAt w x A1 c1 l A2 c2 y3) :
  Spec Tryz.prog 24 [.agg (coL x.sec (.slice A1 x.sg.length c1) (.slice A2 l.length c2) y3).toArray, .int .i64 s, .int .i64 k] w (fun v R=>v = .tuple #[.int .i64 (findV22 x s k).1, .int .i64 (findV22 x s k).2]∧R=[]):=by
 obtain⟨Ak,ck,csk,rfl,hck1,hck2,hcs,hrows⟩:=hx.cols.tabS
 refine spec_of sg Tryz.func24 rfl rfl rfl ?_
 refine T_op (OpT.box (cs:=coL x.sec (.slice A1 x.sg.length c1) (.slice A2 l.length c2) (.slice Ak x.cols.length ck)) rfl rfl rfl rfl rfl rfl rfl (fun pc=>?_))
 refine T_op (OpT.box (cs:=[.int .i64 s]) rfl rfl rfl rfl rfl rfl rfl (fun p4=>?_))
 refine T_op (OpT.box (cs:=[.int .i64 k]) rfl rfl rfl rfl rfl rfl rfl (fun p5=>?_))
 repeat' (first|refine d1 ?_|(show T _ (.ops _ (_::_)::_) _ _ _;refine T_call rfl rfl rfl rfl rfl (fun w hw=>checkP22_spec x A1 c1 l A2 c2 _ w (hx.cls hw)) ?_)|fail)
 refine T_if rfl (fun h=>?_) (fun h=>?_)
 ·simp only [Bool.not_eq_true',decide_eq_false_iff_not] at h
  have e:findV22 x s k=(0,1):=if_pos h
  rw [e]
  repeat' (first|refine d1 ?_|(show T _ (.code .ret::_) _ _ _;refine T_retV [] rfl (Hle.none _) ⟨rfl,rfl⟩))
 simp only [Bool.not_eq_false',decide_eq_true_eq] at h
 have hok:=chk22_iff.1 h
 obtain⟨h1,h2,h3⟩:=hx.row hok
 obtain⟨b2,o2,rfl⟩:=hx.hd.s2.base (by omega)
 have hT:∃ t:TS,(0≤s∧s<(l.length:Int)→l[s.toNat]?=some t∧RdC w b2 (o2+s.toNat * 1) [.slice t.A t.n t.cap]∧(x.m.getD s.toNat []).length=t.n):=by
  by_cases hs:0≤s∧s<(l.length:Int)
  ·obtain⟨p,rfl⟩:=Int.eq_ofNat_of_zero_le hs.1
   obtain⟨t,ht⟩:∃ t,l[p]?=some t:=⟨_,List.getElem?_eq_getElem (by omega)⟩
   refine ⟨t,fun _=>⟨by rw [Int.toNat_natCast];exact ht,hx.hd.hdr ht,?_⟩⟩
   rw [Int.toNat_natCast, ← hx.m,List.getD_eq_getElem?_getD,List.getElem?_map,ht]
   exact hx.hd.ok.len t (List.mem_of_getElem? ht)
  ·exact⟨⟨none,0,0,[]⟩,fun h9=>absurd h9 hs⟩
 obtain⟨t,hT⟩:=hT
 repeat' (first|refine dd ?_|(show T _ (.run _ _ (_::_) _ _::_) _ _ _;refine rg rfl rfl rfl (Val.load rfl (fun hg=>rdOld (hT (by ((simp only [List.cons_append,List.nil_append,GP,dstL,lookE,Nat.beq,cond,List.getElem?_cons_zero,List.getElem?_cons_succ,Option.bind_some,and_true,Bool.and_eq_true,Bool.or_eq_true,Bool.and_eq_false_iff,Bool.or_eq_false_iff,Bool.not_eq_true',Bool.not_eq_false',decide_eq_true_eq,decide_eq_false_iff_not] at hg);omega))).2.1)) rfl rfl rfl rfl rfl ?_)|fail)
 have hcond:(s<0∨(x.sg.length:Int)≤s)∨(k<0∨((x.m.getD s.toNat []).length:Int)≤k)↔(((s<0∨(x.sg.length:Int)≤s)∨k<0)∨(t.n:Int)≤k):=by
  by_cases hs:0≤s∧s<(l.length:Int)
  ·rw [(hT hs).2.2];omega
  ·omega
 refine T_if rfl (fun h4=>?_) (fun h4=>?_)
 ·simp only [Bool.or_eq_true,decide_eq_true_eq] at h4
  have e:findV22 x s k=(0,2):=by unfold findV22;rw [if_neg (by rw [h];simp),if_pos (hcond.2 h4)]
  rw [e]
  repeat' (first|refine d1 ?_|(show T _ (.code .ret::_) _ _ _;refine T_retV [] rfl (Hle.none _) ⟨rfl,rfl⟩))
 have h4:¬ (((s<0∨(x.sg.length:Int)≤s)∨k<0)∨(t.n:Int)≤k):=by
  simp only [Bool.or_eq_false_iff,decide_eq_false_iff_not] at h4
  omega
 have e:findV22 x s k=(at22 x s.toNat k,0):=by unfold findV22;rw [if_neg (by rw [h];simp),if_neg (fun hh=>h4 (hcond.1 hh))]
 rw [e]
 obtain⟨p,rfl⟩:=Int.eq_ofNat_of_zero_le (by omega:0≤s)
 rw [Int.toNat_natCast]
 have hf:∀ w1:World,RdC w1 p4 0 [.int .i64 (p:Nat)]→RdC w1 p5 0 [.int .i64 k]→(∀ A n xs,Src w 1 A n xs→Src w1 1 A n xs)→∀ (i:Nat) u,csk[i]?=some u→∀ w',Below w1.heap.size w1 w' →
   Spec Tryz.prog 51 ([]++(u::[.pointer (some ⟨p4,0,none⟩), .pointer (some ⟨p5,0,none⟩)])) w' (fun v R=>v = .bool (decide ((x.cols.getD i []).getD p (-1)=k))∧R=[]):=by
  intro w1 g4 g5 gs i u hu w' hb'
  obtain⟨r,hr⟩:∃ r,x.cols[i]?=some r:=⟨_,List.getElem?_eq_getElem (by have:=(List.getElem?_eq_some_iff.1 hu).1;have:=hcs.1;omega)⟩
  obtain⟨Au,capu,hu2,-,-,hA⟩:=hrows.tabRow hr
  rw [hu2] at hu
  cases hu
  have hrl:=(hx.entry hok hr (k:=0) (by omega)).1
  have hg:x.cols.getD i []=r:=by rw [List.getD_eq_getElem?_getD,hr];rfl
  rw [hg]
  exact find1_22_spec Au r.length capu p4 p5 r p k w' (src_below (gs _ _ _ (rowSrc hA)) hb') rfl (by omega) (g4.below hb') (g5.below hb')
 repeat' (first|refine d1 ?_|(show T _ (.ops _ (_::_)::_) _ _ _;refine T_call rfl rfl rfl rfl rfl (fun w hw=>indexFuncR_spec Ak x.cols.length ck csk _ [] [.pointer (some ⟨p4,0,none⟩), .pointer (some ⟨p5,0,none⟩)] (fun i=>decide ((x.cols.getD i []).getD p (-1)=k)) w (rdSrc hcs w hw) (by omega) (hf w (rdAll w hw) (rdAll w hw) (fun _ _ _ hs=>rdSrc hs w hw))) ?_)|(show T _ (.code .ret::_) _ _ _;refine T_retV [] rfl (Hle.none _) ⟨?_,rfl⟩))
 rw [findI_range22 (fun c:List Int=>decide (c.getD p (-1)=k)) []]
 rfl
end Go.Proofs.YtefieebkankfoaaGreatDoor
namespace Go.Proofs.YtefieebkankfoaaGreatDoor
open Go.RowKit Go.Shelf
set_option maxRecDepth 100000
set_option maxHeartbeats 1000000

def YieldsO (P:Program) (w0:World) (l:Nat) (GP:Nat→List HA→Prop) (X:List HA→Prop) (Q:Nat→List Value→List HA→Prop) (n:Nat):Prop :=
 ∀ (j:Nat) (x:List Value) (B Hj K:List HA) (w:World),j<n→Q j x B→GP j Hj→Cls w0 w (Hj++(B++K)) →
  ∃ f tmps assign body,(Instr.yield l x.toArray).run P w = .ok (.round l f tmps assign body) w∧RoundIn (Fr none) 0 P l f tmps assign body w fun e w' =>
   (e = .returned (.bool true)∧∃ H',GP (j+1) H'∧Cls w0 w' (H'++K))∨(e = .returned (.bool false)∧∃ Y,X Y∧Cls w0 w' (Y++K))
def IterO (P:Program) (w0:World) (f:FuncId) (fs cs:List Value) (cap:List HA) (Q:Nat→List Value→List HA→Prop) (n:Nat):Prop :=
 Enters P f∧∀ l GP X w Hj,YieldsO P w0 l GP X Q n→GP 0 Hj→Cls w0 w (cap++Hj) →
  CallsIn (Fr none) 0 P f (fs++(yv l::cs)).toArray w (RIt w0 cap GP X n)
theorem iterO_of (S : Sig) {w0 : World} {f : FuncId} {fn : Func} {c : Code} {fs cs : List Value} {cap : List HA} {Q : Nat → List Value → List HA → Prop} {n : Nat} (hf : S.P.funcs[f]? = some fn) (hn : (fn.name == "runtime.NumGoroutine") = false) (hb : fn.body = some c)
  (hlen:Nat.ble (fs.length+(1+cs.length)) fn.ntmps=true)
  (h:∀ l GP X Hj,YieldsO S.P w0 l GP X Q n→GP 0 Hj→T (IC S fn.ntmps w0 fn (RIt w0 cap GP X n)) (nf 60 [.code c]) (zipE 0 (fs++(yv l::cs))) [] (cap++Hj)):IterO S.P w0 f fs cs cap Q n:=by
 refine ⟨enters_of hf hn hb,fun l GP X w Hj hY h0 hw=>callsIn_of_wp_marks (n:=0) hf hb trivial ?_⟩
 generalize hargs:fs++(yv l::cs)=args
 have hlen':args.length≤fn.ntmps:=by
  have:=Nat.le_of_ble_eq_true hlen
  rw [← hargs];simp;omega
 have ha:Agrees ⟨fn.ntmps,[]⟩ (allOf (nf 60 [.code c])) (zipE 0 args) [] { tmps:=args.toArray++Array.replicate (fn.ntmps - args.toArray.size) undef,defers:=[] }:=by
  refine ⟨rfl,by simp;omega,fun s v hv=>?_,fun _ _ _ h=>(by cases h),fun _ _ _ h=>(by cases h)⟩
  obtain⟨_,h2⟩:=zipE_spec args 0 s v hv
  simp only [Nat.sub_zero] at h2
  have hs:s<args.length:=(List.getElem?_eq_some_iff.1 h2).1
  simp [Array.getD_eq_getD_getElem?,Array.getElem?_append,hs]
  rw [List.getElem?_eq_getElem hs] at h2
  simpa using h2
 have h1:=h l GP X Hj hY h0
 rw [hargs] at h1
 have:=nf_spec (h1 _ _ ha hw)
 simp only [sem] at this
 refine wpIn_mono this fun e a w' q=>?_
 cases e <;> first|exact q|exact q.elim
theorem T_rangeO {S:Sig} {m:Nat} {ds:List Deferred} {w0:World} {fn:Func} {Φ:Value→List HA→Prop} {g:Operand} {ps:Array Tmp} {assign body:Code} {k:List It} {env:Env} {ec:EnvC} {H:List HA}
  {f:FuncId} {fs cs:List Value} {cap:List HA} {Q:Nat→List Value→List HA→Prop} {n:Nat} (hit:IterO S.P w0 f fs cs cap Q n)
  (hg:evX env [] [] g=some (.func (.func f) fs.toArray cs.toArray)) (hps:∀ (j:Nat) (x:List Value) (B:List HA),j<n→Q j x B→x.length=ps.size∧inP m (ps.toList.zip x)=true)
  (GP:Nat→List HA→Prop) (XR:List HA→Prop) (XE:Nat→List HA→Prop) (H0:List HA) (h0:GP 0 H0) (hH:Hle H (cap++H0))
  (hround:∀ (L:Nat) (r:Loop) (j:Nat) (x:List Value) (B Hj K:List HA),r.state = .ready→j<n→Q j x B→GP j Hj→T (RA (RC S m w0 L (busy r) GP XR XE j K) L body) (nf 60 [.code assign]) (envP (ps.toList.zip x) env) [] (lrec L r::(Hj++(B++K))))
  (hn:∀ D Hn,GP n Hn→T (FC S m (mkD D::ds) w0 fn Φ) (nf 60 k) env [] (dfr D::(cap++Hn)))
  (hret:∀ D Hx,XR Hx→T (FC S m (mkD D::ds) w0 fn Φ) (.code .ret::k) env [] (dfr D::(cap++Hx)))
  (hex:∀ D id Hx,XE id Hx→T (FC S m (mkD D::ds) w0 fn Φ) (nf 60 (.code (.exit id)::k)) env [] (dfr D::(cap++Hx))) :
  T (FC S m ds w0 fn Φ) (.code (.rangeFunc g ps assign body)::k) env ec H:=by
 refine T.mk fun a w ha hw=>?_
 have ha0:Agrees ⟨m,ds⟩ #[] env [] a:=ha.plain
 replace hw:=Cls.le hw hH
 refine wpIn_rangeFunc fun fn' _=>?_
 -- the two blocks
 have hw1:=(hw.alloc (.deferred (some [])) (A:=dfr w.heap.size) rfl)
 have hsz:(w.alloc (.deferred (some []))).heap.size=w.heap.size+1:=World.size_alloc _ _
 generalize hD:w.heap.size=D at hw1 hsz
 generalize hr0:({ state := .ready,pending:=none,fn:=fn',tmps:=a.tmps,params:=ps,assign,body,defers:=D }:Loop)=r
 have hrdy:r.state = .ready:=by rw [← hr0]
 have hpd:r.pending=none:=by rw [← hr0]
 have hw2:=(hw1.alloc (.loop r) (A:=lrec (D+1) r) (by rw [hsz];rfl))
 have hen:=run_enterLoop_outer (P:=S.P) (w:=w) fn' a.tmps ps assign body
 rw [hD,hr0] at hen
 have hgv:=evX_spec (all := #[]) ha0 (Holds.nil _ _) hg
 have hargs:(fs.toArray ++ #[yv (D+1)]++cs.toArray)=(fs++(yv (D+1)::cs)).toArray:=Array.ext' (by simp)
 refine ⟨D+1,[mkD D],_,⟨.fn (.func f) cs.toArray,fs.toArray ++ #[yv (D+1)]⟩,(w.alloc (.deferred (some []))).alloc (.loop r),f,(fs++(yv (D+1)::cs)).toArray,(w.alloc (.deferred (some []))).alloc (.loop r),hen,?_,fun _ _=>trivial,?_,fun h=>(by cases h),?_⟩
 ·simp [resolve,hgv,Deferred.ofValue,yv]
  rfl
 ·have:=hit.1 (fs++(yv (D+1)::cs)).toArray ((w.alloc (.deferred (some []))).alloc (.loop r))
  rw [← hargs] at this ⊢
  simpa [invoke] using this
 · -- the rounds
  have hYd:YieldsO S.P w0 (D+1) (fun j H'=>∃ Hj,H'=lrec (D+1) r::dfr D::Hj∧GP j Hj) (fun Y=>∃ Hx jump,Y=lrec (D+1) { r with state := .done,pending:=some jump }::dfr D::Hx∧((jump = .ret∧XR Hx)∨∃ id,jump = .exit id∧XE id Hx)) Q n:=by
   rintro j x B _ K w1 hj hQ ⟨Hj,rfl,hGj⟩ hc
   have hL:=(hc.obj (i:=0) rfl).1
   obtain⟨hxl,hin⟩:=hps j x B hj hQ
   have hy:=run_yield (P:=S.P) (args:=x.toArray) hL (by rw [← hr0];simp [hxl])
   refine ⟨_,_,_,_,hy,roundIn_of_wpIn trivial ?_⟩
   have hc':Cls w0 w1 (lrec (D+1) r::(Hj++(B++(dfr D::K)))):=hc.le (Hle.perm (.cons _ (by
    have h1:=(List.perm_middle (a:=dfr D) (l₁:=Hj++B) (l₂:=K)).symm
    rw [List.append_assoc,List.append_assoc] at h1
    exact h1)))
   have hT:=hround (D+1) r j x B Hj (dfr D::K) hrdy hj hQ hGj
   have hag:Agrees ⟨m,[]⟩ #[] env [] { tmps:=r.tmps,defers:=[] }:=by
    rw [← hr0]
    exact⟨rfl,ha0.size,ha0.at_,fun _ _ _ h=>(by cases h),fun _ _ _ h=>(by cases h)⟩
   have hag2:=Agrees.putAll (N:=⟨m,[]⟩) (l:=ps.toList.zip x) hin hag
   have htm:(r.params.zip x.toArray).foldl (fun tmps (p:Tmp × Value)=>tmps.setIfInBounds p.1 p.2) r.tmps=(ps.toList.zip x).foldl (fun tmps (p:Nat × Value)=>tmps.setIfInBounds p.1 p.2) r.tmps:=by
    rw [← hr0, ← Array.foldl_toList,Array.toList_zip]
   rw [htm]
   have h1:=nf_spec (hT _ w1 ⟨hag2.defers,hag2.size,hag2.at_,fun _ _ _ h=>(by cases h),fun _ _ _ h=>(by cases h)⟩ hc')
   simp only [sem] at h1
   have hra:r.assign=assign:=by rw [← hr0]
   have hrb:r.body=body:=by rw [← hr0]
   rw [← hra, ← hrb] at h1
   refine wpIn_mono (F:=Fr (some (D+1))) h1 fun e a1 w2 q=>?_
   cases e <;> first|exact q.elim|skip
   obtain⟨w3,hb,hbody⟩:=q
   refine ⟨w3,hb,wpIn_mono hbody fun e a2 w4 q=>?_⟩
   have fin:∀ H':List HA,Cls w0 w4 (lrec (D+1) (busy r)::(H'++(dfr D::K)))→∀ jump,∃ w',(Instr.endRound (D+1) jump).run S.P w4 = .ok (.bool jump.isNone) w'∧Cls w0 w' (lrec (D+1) { r with state:=if jump.isNone then .ready else .done,pending:=jump }::dfr D::(H'++K)):=by
    intro H' hcl jump
    have hL4:=(hcl.obj (i:=0) rfl).1
    refine ⟨_,run_endRound jump hL4,?_⟩
    have:=hcl.putObj (i:=0) rfl (.loop { r with state:=if jump.isNone then .ready else .done,pending:=jump })
    exact this.le (Hle.perm ((List.perm_middle (a:=dfr D) (l₁:=H') (l₂:=K)).cons _))
   cases e with
   | normal =>
    obtain⟨H',g1,g2⟩:=q
    obtain⟨w',e1,e2⟩:=fin H' g2 none
    refine ⟨_,w',e1, .inl ⟨rfl,_,⟨H',rfl,g1⟩,?_⟩⟩
    have er:({ r with state := .ready,pending:=none }:Loop)=r:=by rw [← hr0]
    simp only [Option.isNone_none,if_true] at e2
    rw [er] at e2
    exact e2
   | ret =>
    obtain⟨H',g1,g2⟩:=q
    obtain⟨w',e1,e2⟩:=fin H' g2 (some .ret)
    exact⟨_,w',e1, .inr ⟨rfl,_,⟨H', .ret,rfl, .inl ⟨rfl,g1⟩⟩,e2⟩⟩
   | exit id =>
    obtain⟨H',g1,g2⟩:=q
    obtain⟨w',e1,e2⟩:=fin H' g2 (some (.exit id))
    exact⟨_,w',e1, .inr ⟨rfl,_,⟨H', .exit id,rfl, .inr ⟨id,rfl,g1⟩⟩,e2⟩⟩
   | goto t=>exact q.elim
   | panic c=>exact q.elim
   | outgrown=>exact q.elim
  have hstart:Cls w0 ((w.alloc (.deferred (some []))).alloc (.loop r)) (cap++(lrec (D+1) r::dfr D::H0)):=by
   have h1:Cls w0 ((w.alloc (.deferred (some []))).alloc (.loop r)) (lrec (D+1) r::dfr D::(cap++H0)):=hw2
   exact h1.le (Hle.rot2 _ _ cap H0)
  have hcall:=hit.2 (D+1) _ _ _ _ hYd ⟨H0,rfl,h0⟩ hstart
  have hcall':CallsIn (Fr none) 0 S.P f (fs++(yv (D+1)::cs)).toArray ((w.alloc (.deferred (some []))).alloc (.loop r)) _:=hcall
  refine CallsIn.mono hcall' ?_
  rintro e w3 ⟨⟨v,rfl⟩,hend⟩
  have hsem:=sem_N (FC S m ds w0 fn Φ) ⟨m,mkD D::ds⟩ k
  have hag:∀ all,Agrees ⟨m,mkD D::ds⟩ all env [] { a with defers:=[mkD D]++a.defers }:=fun all =>
   ⟨by simp [ha0.defers],ha0.size,ha0.at_,fun _ _ _ h=>(by cases h),fun _ _ _ h=>(by cases h)⟩
  rcases hend with⟨_,⟨Hn,rfl,hGn⟩,hc⟩|⟨_,⟨Hx,jump,rfl,hj⟩,hc⟩
  ·have hc:=hc.le (Hle.unrot2 _ _ cap Hn)
   have hL:=(hc.obj (i:=0) rfl).1
   refine ⟨none,w3.putObj (D+1) (.loop { r with state := .exhausted }),(run_endLoop hL (by rw [hrdy];intro h;cases h)).trans (by rw [hpd]),?_⟩
   have hc2:=(hc.putObj (i:=0) rfl (.loop { r with state := .exhausted })).le (Hle.tail _ _)
   have:=nf_spec (hn D Hn hGn _ _ (hag _) hc2)
   show (sem (FC S m ds w0 fn Φ) k).1 _ _
   rw [← hsem]
   exact this
  ·have hc:=hc.le (Hle.unrot2 _ _ cap Hx)
   have hL:=(hc.obj (i:=0) rfl).1
   refine ⟨_,_,run_endLoop hL (by intro h;cases h),?_⟩
   have hc2:=(hc.putObj (i:=0) rfl (.loop { ({ r with state := .done,pending:=some jump }:Loop) with state := .exhausted })).le (Hle.tail _ _)
   rcases hj with⟨rfl,hX⟩|⟨id,rfl,hX⟩
   ·have:=hret D Hx hX _ _ (hag _) hc2
    have h9:(sem (FC S m (mkD D::ds) w0 fn Φ) (.code .ret::k)).1 _ _:=this
    simp only [sem] at h9
    have h10:sem (FC S m (mkD D::ds) w0 fn Φ) k=sem (FC S m ds w0 fn Φ) k:=hsem
    rw [h10] at h9
    exact h9
   ·have:=nf_spec (hex D id Hx hX _ _ (hag _) hc2)
    simp only [sem] at this
    have h10:sem (FC S m (mkD D::ds) w0 fn Φ) k=sem (FC S m ds w0 fn Φ) k:=hsem
    rw [h10] at this
    exact this

theorem OpT.yieldO {S:Sig} {m:Nat} {w0:World} {fn:Func} {R:Ending→World→Prop} {all:Array Oper} {o:Oper} {env:Env} {ec:EnvC} {H:List HA} {d l j:Nat} {x:List Value} {G:GId} {Φ:Env→EnvC→List HA→Prop}
  {GP:Nat→List HA→Prop} {X:List HA→Prop} {Q:Nat→List Value→List HA→Prop} {n:Nat} {Hj:List HA} (B K:List HA)
  (hY:YieldsO S.P w0 l GP X Q n) (hg:gOf all env ec o=some G) (he:evYG env ec G o=some (l,x)) (hT:∀ a,Agrees ⟨m,[]⟩ all env ec a→Holds all a G) (hd:o.dst=some d) (hN:Nat.blt d m=true) (hs:safeC all d ec=true) (hj:j<n) (hQ:Q j x B) (hGP:GP j Hj) (hl:Hle H (Hj++(B++K)))
  (ht:∀ H',GP (j+1) H'→Φ ((d, .bool true)::env) ec (K++H'))
  (hf:∀ Y,X Y→Φ ((d, .bool false)::env) ec (K++Y)):OpT (IC S m w0 fn R) all o env ec H Φ:=by
 intro a w ha hw K' Q' hK
 have hH:=hT a ha
 have hwn:=(wanted_iff ha hg).2 hH
 refine ⟨fun _=>?_,fun hn=>(by rw [hwn] at hn;cases hn)⟩
 obtain⟨f,tmps,assign,body,hy,hr⟩:=hY j x B Hj K w hj hQ hGP (hw.le hl)
 have hdef:=gOf_def hg
 have hex:=evYG_spec ha hH he hy
 unfold Oper.wpIn
 refine ⟨about_Fr o _ w _,?_⟩
 rw [Oper.semAt_eq _ _ _ hdef,hex]
 refine ⟨fun h=>(by cases h),RoundIn.mono hr ?_⟩
 rintro e w' (⟨rfl,H',h1,h2⟩|⟨rfl,Y,h1,h2⟩)
 ·exact hK _ _ _ _ _ (ht H' h1) (by rw [hd];exact ha.put hN hs) (h2.le (Hle.comm _ _))
 ·exact hK _ _ _ _ _ (hf Y h1) (by rw [hd];exact ha.put hN hs) (h2.le (Hle.comm _ _))
end Go.Proofs.YtefieebkankfoaaGreatDoor
namespace Go.Proofs.YtefieebkankfoaaGreatDoor
open Go.RowKit Go.Shelf Go.Sort Go.Lib
set_option maxRecDepth 100000
set_option maxHeartbeats 1000000
variable {α:Type} [Inhabited α]

theorem heap_sortWorld {enc:α→Value} {w:World} {g m:Nat} {d':Array α} {os:Array Obj} {b:Nat} (hb:b<w.heap.size):(sortWorld enc w g 0 m d' os).heap[b]?=(w.heap[b]?).map (fun o=>if b=g then onCells (putCells enc 0 d') o else o):=by
 unfold sortWorld putRow mapBlock grow Sort.ahead
 simp only [Array.getElem?_append,Array.size_modify,hb,if_true,Array.getElem?_modify]
 by_cases h:g=b
 ·subst h
  simp
 ·rw [if_neg h]
  have:¬ b=g:=fun e=>h e.symm
  simp [this]
theorem putCells_at {enc:α→Value} {d':Array α} {cur:Array Value} (j:Nat) (hj:j<d'.size) (hc:j<cur.size):(putCells enc 0 d' cur)[j]?=some (enc d'[j]!):=by
 unfold putCells
 rw [Array.getElem?_mapIdx,Array.getElem?_eq_getElem hc]
 simp [hj]
theorem putCells_size {enc:α→Value} {d':Array α} {cur:Array Value}:(putCells enc 0 d' cur).size=cur.size:=by unfold putCells;simp
theorem below_sortWorld {enc:α→Value} {w:World} {B g m:Nat} {d':Array α} {os:Array Obj} (hB:B≤w.heap.size) (hg:B≤g):Below B w (sortWorld enc w g 0 m d' os):=by
 refine ⟨rfl,rfl,rfl,?_,fun k hk=>?_⟩
 ·show w.heap.size≤(grow (putRow enc (Sort.ahead w m) g 0 d') os).heap.size
  rw [size_grow,size_putRow]
  show w.heap.size≤w.heap.size+os.size
  omega
 ·rw [heap_sortWorld (b:=k) (by omega)]
  have:¬ k=g:=by omega
  cases w.heap[k]? <;> simp [this]
theorem sort_cls {w0 w:World} {e cap n g:Nat} {H:List HA} {enc:α→Value} {d d':Array α} {m:Nat} {os:Array Obj} (hw:Cls w0 w (row e 1 (some ⟨g,0,none⟩) cap n (d.toList.map enc)::H)) (hd:d.size=n) (hs:d'.size=d.size) :
  Cls w0 (sortWorld enc w g 0 m d' os) (row e 1 (some ⟨g,0,none⟩) cap n (d'.toList.map enc)::H):=by
 obtain⟨F,h1,h2,h3⟩:=hw.sep
 obtain⟨hxl,hrow⟩:=h1 0 _ rfl
 rcases hrow with⟨h9,-⟩|⟨g',cur,hA,hf,hn,hc,hcs,ht⟩
 ·cases h9
 cases hA
 have hg:=h2 0 g (.cells cur e (0,0)) (by simp) (by rw [hf];simp [one])
 have hgl:=lt_of_heap hg.2
 have hlt:w0.heap.size≤w.heap.size:=hw.below.size
 refine ⟨hw.below.trans (below_sortWorld hlt hg.1),?_⟩
 refine hw.sep.turn (k:=0) (b:=g) (o := .cells (putCells enc 0 d' cur) e (0,0)) rfl (fun f hf=>?_) (fun c hc hcl=>?_) ?_ ?_
 ·rcases hf.2 with⟨h9,-⟩|⟨g',cur',hA',hf',-⟩
  ·cases h9
  ·cases hA';exact⟨_,hf'⟩
 ·rw [heap_sortWorld hcl]
  cases w.heap[c]? with
  | none=>rfl
  | some o=>simp [hc]
 ·rw [heap_sortWorld hgl,hg.2]
  simp [onCells]
 ·refine ⟨by rw [List.length_map,Array.length_toList];omega, .inr ⟨g,_,rfl,rfl,hn,hc,by rw [putCells_size];exact hcs,?_⟩⟩
  refine List.ext_getElem? fun j=>?_
  by_cases hj:j<n * 1
  ·rw [List.getElem?_take_of_lt hj,Array.getElem?_toList,putCells_at j (by omega) (by omega),List.getElem?_map,Array.getElem?_toList,Array.getElem?_eq_getElem (by omega)]
   simp [show j<d'.size by omega]
  ·rw [List.getElem?_eq_none (by rw [List.length_take,Array.length_toList,putCells_size];omega),List.getElem?_eq_none (by rw [List.length_map,Array.length_toList];omega)]
theorem sort_holds {w0 w:World} {e cap n g:Nat} {H:List HA} {enc:α→Value} {d:Array α} (hw:Cls w0 w (row e 1 (some ⟨g,0,none⟩) cap n (d.toList.map enc)::H)) (hd:d.size=n):Go.Sort.Holds enc w g 0 d∧g<w.heap.size:=by
 obtain⟨F,h1,h2,h3⟩:=hw.sep
 obtain⟨hxl,hrow⟩:=h1 0 _ rfl
 rcases hrow with⟨h9,-⟩|⟨g',cur,hA,hf,hn,hc,hcs,ht⟩
 ·cases h9
 cases hA
 have hg:=h2 0 g (.cells cur e (0,0)) (by simp) (by rw [hf];simp [one])
 refine ⟨fun j hj=>⟨?_,?_⟩,lt_of_heap hg.2⟩
 ·have h5:(d.toList.map enc)[j]?=some (enc d[j]!):=by
   rw [List.getElem?_map,Array.getElem?_toList,Array.getElem?_eq_getElem hj];simp [hj]
  rw [← ht,List.getElem?_take_of_lt (by omega),Array.getElem?_toList] at h5
  simp [World.cell?,hg.2,h5]
 ·simp [World.frozen?,hg.2]
theorem permIn_all {d d':Array α} (h:PermIn 0 d.size d d'):d'.size=d.size∧d'.toList.Perm d.toList:=by
 obtain⟨h1,-,h3⟩:=h
 refine ⟨h1,?_⟩
 have e1:d.extract 0 d.size=d:=by simp
 have e2:d'.extract 0 d.size=d':=by rw [← h1];simp
 rw [e1,e2] at h3
 exact h3
theorem sortedIn_all {lt:α→α→Bool} {d:Array α} {n:Nat} (hn:d.size=n) (h:SortedIn lt 0 n d):d.toList.Pairwise fun a b=>lt b a=false:=by
 rw [List.pairwise_iff_getElem]
 intro i j hi hj hij
 rw [Array.length_toList] at hi hj
 have:=h i j (Nat.zero_le _) hij (by omega)
 simpa [hi,hj] using this
end Go.Proofs.YtefieebkankfoaaGreatDoor
namespace Go.Proofs.YtefieebkankfoaaGreatDoor
open Go.RowKit Go.Shelf Go.Proofs
set_option maxRecDepth 100000
set_option maxHeartbeats 1000000

def ownJ (l:List TS) (col:List Int) (k:Nat):List Tok:=(List.range l.length).map fun s=>if s<k∧0≤col.getD s (-1) then tkA (tsA l s).l (col.getD s (-1)).toNat else noTok
def thJ (l:List TS) (col:List Int) (k:Nat):List Bool:=(List.range l.length).map fun s=>decide (s<k∧0≤col.getD s (-1))
theorem ownJ_len (l:List TS) (col:List Int) (k:Nat):(ownJ l col k).length=l.length:=by simp [ownJ]
theorem thJ_len (l:List TS) (col:List Int) (k:Nat):(thJ l col k).length=l.length:=by simp [thJ]
theorem ownJ_zero (l:List TS) (col:List Int):ownJ l col 0=List.replicate l.length noTok:=by
 refine List.ext_getElem? fun s=>?_
 unfold ownJ
 rw [List.getElem?_map,List.getElem?_replicate]
 rcases Nat.lt_or_ge s l.length with h|h
 ·rw [List.getElem?_range h,if_pos h];simp
 ·rw [if_neg (by omega),List.getElem?_eq_none (by simp;omega)];rfl
theorem thJ_zero (l:List TS) (col:List Int):thJ l col 0=List.replicate l.length false:=by
 refine List.ext_getElem? fun s=>?_
 unfold thJ
 rw [List.getElem?_map,List.getElem?_replicate]
 rcases Nat.lt_or_ge s l.length with h|h
 ·rw [List.getElem?_range h,if_pos h];simp
 ·rw [if_neg (by omega),List.getElem?_eq_none (by simp;omega)];rfl
theorem ownJ_gap {l:List TS} {col:List Int} {k:Nat} (h:¬ 0≤col.getD k (-1)):ownJ l col (k+1)=ownJ l col k:=by
 unfold ownJ
 refine List.map_congr_left fun s _=>?_
 by_cases e:s=k
 ·subst e;rw [if_neg (fun h9=>h h9.2),if_neg (fun h9=>h h9.2)]
 ·by_cases h2:s<k∧0≤col.getD s (-1)
  ·rw [if_pos h2,if_pos ⟨by omega,h2.2⟩]
  ·rw [if_neg h2,if_neg (fun h9=>h2 ⟨by omega,h9.2⟩)]
theorem thJ_gap {l:List TS} {col:List Int} {k:Nat} (h:¬ 0≤col.getD k (-1)):thJ l col (k+1)=thJ l col k:=by
 unfold thJ
 refine List.map_congr_left fun s _=>?_
 by_cases e:s=k
 ·subst e;rw [decide_eq_false (fun h9=>h h9.2),decide_eq_false (fun h9=>h h9.2)]
 ·by_cases h2:s<k∧0≤col.getD s (-1)
  ·rw [decide_eq_true h2,decide_eq_true (⟨by omega,h2.2⟩:s<k+1∧_)]
  ·rw [decide_eq_false h2,decide_eq_false (fun h9=>h2 ⟨by omega,h9.2⟩)]
theorem ownJ_tok {l:List TS} {col:List Int} {k:Nat} (hk:k<l.length) (h:0≤col.getD k (-1)):(ownJ l col k).set k (tkA (tsA l k).l (col.getD k (-1)).toNat)=ownJ l col (k+1):=by
 refine List.ext_getElem? fun s=>?_
 unfold ownJ
 rw [List.getElem?_set,List.getElem?_map,List.getElem?_map,List.length_map,List.length_range]
 by_cases e:k=s
 ·subst e
  rw [List.getD_eq_getElem?_getD] at h
  rw [if_pos rfl,if_pos hk,List.getElem?_range hk];simp;intro h9;omega
 ·rw [if_neg e]
  rcases Nat.lt_or_ge s l.length with h2|h2
  ·rw [List.getElem?_range h2]
   simp only [Option.map_some]
   by_cases h3:s<k∧0≤col.getD s (-1)
   ·rw [if_pos h3,if_pos ⟨by omega,h3.2⟩]
   ·rw [if_neg h3,if_neg (fun h9=>h3 ⟨by omega,h9.2⟩)]
  ·rw [List.getElem?_eq_none (by simp;omega)];rfl
theorem thJ_tok {l:List TS} {col:List Int} {k:Nat} (hk:k<l.length) (h:0≤col.getD k (-1)):(thJ l col k).set k true=thJ l col (k+1):=by
 refine List.ext_getElem? fun s=>?_
 unfold thJ
 rw [List.getElem?_set,List.getElem?_map,List.getElem?_map,List.length_map,List.length_range]
 by_cases e:k=s
 ·subst e
  rw [List.getD_eq_getElem?_getD] at h
  rw [if_pos rfl,if_pos hk,List.getElem?_range hk];simp [h]
 ·rw [if_neg e]
  rcases Nat.lt_or_ge s l.length with h2|h2
  ·rw [List.getElem?_range h2]
   simp only [Option.map_some]
   by_cases h3:s<k∧0≤col.getD s (-1)
   ·rw [decide_eq_true h3,decide_eq_true (⟨by omega,h3.2⟩:s<k+1∧_)]
   ·rw [decide_eq_false h3,decide_eq_false (fun h9=>h3 ⟨by omega,h9.2⟩)]
  ·rw [List.getElem?_eq_none (by simp;omega)];rfl
theorem ownJ_small {w:World} {A:Option Addr} {n:Nat} {l:List TS} (hg:Grp w A n l) {col:List Int} (hco:ColOk l col) (k:Nat):∀ t∈ownJ l col k,t.small:=by
 intro t ht
 unfold ownJ at ht
 obtain⟨s,hs,rfl⟩:=List.mem_map.1 ht
 rw [List.mem_range] at hs
 split
 ·rename_i h
  have hci:col[s]?=some (col.getD s (-1)):=by rw [List.getD_eq_getElem?_getD,List.getElem?_eq_getElem (by rw [hco.1];exact hs)];rfl
  have hli:l[s]?=some (tsA l s):=by rw [tsA_eq (List.getElem?_eq_getElem hs)];exact List.getElem?_eq_getElem hs
  exact hg.sm _ (tsA_mem hs) _ (tkA_mem2 h.2 (by rw [hg.ok.len _ (tsA_mem hs)];exact (hco.2 s _ _ hci hli).2))
 ·exact noTok_small
theorem own_colV {w:World} {A:Option Addr} {n:Nat} {l:List TS} (hg:Grp w A n l) {c:Costs} (hc:costE c=0) (hbs:badS l=false) {col:List Int} (hco:ColOk l col):columnV c (ownJ l col l.length) (thJ l col l.length)=(colZ c l col,0):=by
 have hb:=hg.hb
 have hn:=hg.hn
 refine columnV_Z hc hbs hg.ok.len (by omega) hco (ownJ_len _ _ _) (thJ_len _ _ _) (fun i hi=>?_) (fun i hi h0=>?_)
 ·unfold thA thJ
  rw [List.getD_eq_getElem?_getD,List.getElem?_map,List.getElem?_range hi]
  show decide (i<l.length∧0≤col.getD i (-1))=_
  by_cases h:0≤col.getD i (-1)
  ·rw [decide_eq_true h,decide_eq_true ⟨hi,h⟩]
  ·rw [decide_eq_false h,decide_eq_false (fun h9=>h h9.2)]
 ·show tkA (ownJ l col l.length) i=_
  have e:(ownJ l col l.length)[i]?=some (tkA (tsA l i).l (col.getD i (-1)).toNat):=by
   unfold ownJ
   rw [List.getElem?_map,List.getElem?_range hi]
   simp only [Option.map_some]
   rw [if_pos ⟨hi,h0⟩]
  unfold tkA at e ⊢
  rw [List.getD_eq_getElem?_getD (l:=ownJ l col l.length),e]
  rfl
theorem made_toks (n:Nat):(madeCells (noTok.val).cells (n * (noTok.val).cells.size)).toList=(List.replicate n noTok).flatMap Tok.cells:=by
 refine (made_flat (noTok.val).cells n).trans ?_
 induction n with
 | zero=>rfl
 | succ n ih=>rw [List.replicate_succ,List.replicate_succ,List.flatMap_cons,List.flatten_cons,ih];rfl
theorem cost19_spec (c:Costs) (A Ac:Option Addr) (n ca cc:Nat) (l:List TS) (col:List Int) (w:World) (hg:Grp w A n l) (hc:costE c=0) (hbs:badS l=false) (hcs:Src w 1 Ac n (col.map (Value.int .i64))) (hco:ColOk l col) :
  Spec Tryz.prog 81 [c.val, .slice A n ca, .slice Ac n cc] w (fun v R=>v = .int .i64 (colZ c l col)∧R=[]):=by
 have hn:=hg.hn
 subst hn
 have hb:=hg.hb
 refine spec_of sg Tryz.func81 rfl rfl rfl ?_
 refine T_op (OpT.box (cs:=c.cells) rfl rfl rfl rfl rfl rfl rfl (fun pc=>?_))
 repeat' (first|refine d1 ?_|fail)
 refine T_cutX 1 [7,8] (fun s:Nat × Nat=>[(7, .slice (some ⟨s.1,0,none⟩) l.length l.length),(8, .slice (some ⟨s.2,0,none⟩) l.length l.length)]) (fun s=>[blk s.1 (madeCells (noTok.val).cells (l.length * (noTok.val).cells.size)).toList 79,blk s.2 (List.replicate l.length (.bool false)) 4,blk pc c.cells 51]) (fun _=>True) ?_ ?_
 ·refine dw0 1000 [blk pc c.cells 51] ?_
  repeat' (first|(show T _ (.draw _ _ _ _ _::_) _ _ _;first|refine dw1 ?_|refine dwb rfl (by decide +kernel) ?_)|(show AllL _ [];exact True.intro)|(show AllL _ (_::_);refine ⟨?_,?_⟩)|(show OpT _ _ _ _ _ _ _;first|refine dwx ?_|refine OpT.makeC rfl rfl rfl rfl rfl rfl (by dsimp only;omega) (fun b2=>⟨fun _=>(by first|exact Hle.none _|exact Hle.sub|exact absurd ‹_› (by decide +kernel)),?_⟩))|(show ∀ _:Nat,T _ _ _ _ _;intro _)|(show T _ (.mark _::_) _ _ _;exact T_meetX (_,_) trivial (hG:=by exact Hle.srt)))
 rintro⟨b2,b3⟩ _
 dsimp only
 refine T_le (H':=[blk b2 ((ownJ l col 0).flatMap Tok.cells) 79,blk b3 ((thJ l col 0).map Value.bool) 4,blk pc c.cells 51]) (by rw [ownJ_zero,thJ_zero,made_toks,List.map_replicate];exact Hle.refl _) ?_
 repeat' (first|refine d1 ?_|fail)
 refine T_loopX (fun k:Nat=>[(21, .int .i64 k)]) (fun k=>[blk b2 ((ownJ l col k).flatMap Tok.cells) 79,blk b3 ((thJ l col k).map Value.bool) 4,blk pc c.cells 51]) (fun k=>k≤l.length) (fun k=>l.length - k) 0 (Nat.zero_le _) ?_
 intro k hk
 repeat' (first|refine d1 ?_|fail)
 refine T_if rfl (fun h=>?_) (fun h=>?_)
 ·simp only [decide_eq_true_eq] at h
  have hkn:k<l.length:=by omega
  obtain⟨b1,o1,rfl⟩:=hcs.base (by omega)
  obtain⟨b,o,rfl⟩:=hg.hs.base (by omega)
  obtain⟨s,hs,hsmem,hr⟩:=hg.get hkn
  obtain⟨z,hz⟩:∃ z,col[k]?=some z:=⟨_,List.getElem?_eq_getElem (by have:=hco.1;omega)⟩
  have hr1:=src_int hcs hkn hz
  obtain⟨hz1,hz2⟩:=hco.2 k z s hz hs
  have hsl:=hg.ok.len s hsmem
  have hsn:=hg.nb s hsmem
  have hzd:col.getD k (-1)=z:=by rw [List.getD_eq_getElem?_getD,hz];rfl
  repeat' (first|refine d1 ?_|fail)
  refine T_if rfl (fun h1=>?_) (fun h1=>?_)
  ·simp only [decide_eq_true_eq] at h1
   obtain⟨b4,o4,hsA⟩:=(hg.ok.src s hsmem).base (by omega)
   have hsr:RdC w b4 (o4+z.toNat * 6) (tkA s.l z.toNat).cells:=(hsA ▸ hg.ok.src s hsmem:Src w 6 (some ⟨b4,o4,none⟩) s.n (s.l.flatMap Tok.cells)).getT (k:=z.toNat) (by omega) (tkA_get (by omega))
   rw [hsA] at hr
   repeat' (first|refine d1 ?_|(show T _ (.ops _ (_::_)::_) _ _ _;first|refine T_op (OpT.storeA (us:=(tkA s.l z.toNat).cells) rfl rfl rfl rfl rfl rfl (by rw [flatT_length,ownJ_len,show (tkA s.l z.toNat).cells.length=6 from rfl];omega) ?_)|refine T_op (OpT.store rfl rfl rfl rfl (by rw [List.length_map,thJ_len];omega) ?_))|fail)
   refine T_backX (k+1) (by omega) (by omega) (hG:=?_)
   have e1:=ownJ_tok (l:=l) (col:=col) hkn (by rw [hzd];exact h1)
   have e2:=thJ_tok (l:=l) (col:=col) hkn (by rw [hzd];exact h1)
   rw [hzd,tsA_eq hs] at e1
   rw [← e1, ← e2, ← flatTok_set _ _ _ (by rw [ownJ_len];exact hkn),List.map_set,show 0+(k:Int).toNat * 6=k * 6 by omega,show 0+(k:Int).toNat * 1=k by omega]
   exact Hle.refl _
  ·simp only [decide_eq_false_iff_not] at h1
   repeat' (first|refine d1 ?_|fail)
   exact T_backX (k+1) (by omega) (by omega) (hG:=by rw [ownJ_gap (by rw [hzd];exact h1),thJ_gap (by rw [hzd];exact h1)];exact Hle.refl _)
 ·simp only [decide_eq_false_iff_not] at h
  obtain rfl:k=l.length:=by omega
  repeat' (first|refine d1 ?_|(show T _ (.ops _ (_::_)::_) _ _ _;refine T_call rfl rfl rfl rfl rfl (fun w hw=>columnPrg_spec c (some ⟨b2,0,none⟩) (some ⟨b3,0,none⟩) l.length l.length l.length l.length (ownJ l col l.length) (thJ l col l.length) w (hg.hst.cls hw) (Src.own hw (by rw [flatT_length,ownJ_len])) (ownJ_len _ _ _) (by omega) (Src.own hw (by rw [List.length_map,thJ_len,Nat.mul_one])) (thJ_len _ _ _) (by omega) (ownJ_small hg hco _)) ?_)|fail)
  rw [own_colV hg hc hbs hco]
  repeat' (first|(show T _ (.code .ret::_) _ _ _;refine T_retV [] rfl (Hle.none _) ⟨rfl,rfl⟩))
end Go.Proofs.YtefieebkankfoaaGreatDoor
namespace Go.Proofs.YtefieebkankfoaaGreatDoor
open Go.RowKit Go.Shelf Go.Proofs
set_option maxRecDepth 100000
set_option maxHeartbeats 1000000

end Go.Proofs.YtefieebkankfoaaGreatDoor
namespace Go.Proofs.YtefieebkankfoaaGreatDoor
open Go.RowKit Go.Shelf Go.Lib Go.Sort Go.Proofs
set_option maxRecDepth 100000
set_option maxHeartbeats 2000000
def cmpI (a b:Int):Int:=if a<b then -1 else if b<a then 1 else 0
def cmpLI:List Int→List Int→Int
 | [],[]=>0
 | [],_::_ => -1
 | _::_,[]=>1
 | a::p,b::q=>if cmpI a b≠0 then cmpI a b else cmpLI p q
theorem isNaN_calls (x:Int) (W:World):Calls Tryz.prog 181 #[.int .i64 x] W fun e w'=>e = .returned (.bool false)∧w'=W:=by
 go_enter Tryz.func181,Tryz.ntmps181
 go_wp2
 go_ret
 exact⟨rfl,rfl⟩
theorem cmpI_calls (x y:Int) (W:World):Calls Tryz.prog 147 #[.int .i64 x, .int .i64 y] W fun e w'=>e = .returned (.int .i64 (cmpI x y))∧w'=W:=by
 have h1:=isNaN_calls x
 have h2:=isNaN_calls y
 go_enter Tryz.func147,Tryz.ntmps147
 go_wp2_with (first|(go_at_call 181;refine (h1 _).mono ?_;rintro e w' ⟨rfl,rfl⟩)|(go_at_call 181;refine (h2 _).mono ?_;rintro e w' ⟨rfl,rfl⟩))
 ·rename_i h;go_ret;exact⟨by unfold cmpI;rw [if_pos h];rfl,rfl⟩
 ·rename_i h9 _ _ h;go_ret;exact⟨by unfold cmpI;rw [if_neg (by omega),if_pos h];rfl,rfl⟩
 ·rename_i h;go_ret;exact⟨by unfold cmpI;rw [if_neg (by omega),if_neg (by omega)];rfl,rfl⟩
theorem cmpLI_drop {a b:List Int} {k:Nat} (ha:k<a.length) (hb:k<b.length):cmpLI (a.drop k) (b.drop k)=if cmpI (a.getD k 0) (b.getD k 0)≠0 then cmpI (a.getD k 0) (b.getD k 0) else cmpLI (a.drop (k+1)) (b.drop (k+1)):=by
 rw [List.drop_eq_getElem_cons ha,List.drop_eq_getElem_cons hb,cmpLI,List.getD_eq_getElem?_getD,List.getElem?_eq_getElem ha,List.getD_eq_getElem?_getD,List.getElem?_eq_getElem hb];rfl
theorem cmpLI_end1 {a b:List Int} {k:Nat} (ha:k<a.length) (hb:b.length≤k):cmpLI (a.drop k) (b.drop k)=1:=by
 rw [List.drop_eq_getElem_cons ha,List.drop_of_length_le hb];rfl
theorem cmpLI_end2 {a b:List Int} {k:Nat} (ha:a.length≤k) (hb:k<b.length):cmpLI (a.drop k) (b.drop k) = -1:=by
 rw [List.drop_eq_getElem_cons hb,List.drop_of_length_le ha];rfl
theorem cmpLI_end {a b:List Int} {k:Nat} (ha:a.length≤k) (hb:b.length≤k):cmpLI (a.drop k) (b.drop k)=0:=by
 rw [List.drop_of_length_le ha,List.drop_of_length_le hb];rfl
theorem compare_calls (ba oa ca bb ob cb:Nat) (a b:List Int) (W:World) (hla:a.length≤1000) (hlb:b.length≤1000) (ha:∀ j,j<a.length→W.cell? ⟨ba,oa+j,none⟩=some (.int .i64 (a.getD j 0))) (hb:∀ j,j<b.length→W.cell? ⟨bb,ob+j,none⟩=some (.int .i64 (b.getD j 0))) :
  Calls Tryz.prog 117 #[.slice (some ⟨ba,oa,none⟩) a.length ca, .slice (some ⟨bb,ob,none⟩) b.length cb] W fun e w'=>e = .returned (.int .i64 (cmpLI a b))∧w'=W:=by
 generalize hna:a.length=na at *
 generalize hnb:b.length=nb at *
 go_enter Tryz.func117,Tryz.ntmps117
 go_wp2
 go_loop [5,6,7,8,11] (fun _ _ _ _ i=>∃ k:Nat,k≤na∧k≤nb∧i = .int .i64 k∧cmpLI a b=cmpLI (a.drop k) (b.drop k)) (fun _ _ _ _ i=>match i with | .int _ m=>na - m.toNat|_=>0)
 case atStart=>exact⟨0,Nat.zero_le _,Nat.zero_le _,rfl,rfl⟩
 case round =>
  obtain⟨k,hk,hkb,rfl,he⟩:=hrel
  by_cases hka:k<na
  ·have hkz:(k:Int)<(na:Int):=by omega
   have hca:=ha k hka
   have hwr:IntKind.i64.wrap ((k:Int)+1)=(k:Int)+1:=by rw [IntKind.wrap_i64];omega
   by_cases hkb2:k<nb
   ·have hkz2:¬ (nb:Int)≤(k:Int):=by omega
    have hkz3:(k:Int)<(nb:Int):=by omega
    have hcb:=hb k hkb2
    have hc:=cmpI_calls (a.getD k 0) (b.getD k 0) W
    rw [cmpLI_drop (by omega) (by omega)] at he
    clear ha hb
    generalize a.getD k 0=x at *
    generalize b.getD k 0=y at *
    generalize cmpI x y=z at *
    by_cases hz:z=0
    ·subst hz
     rw [if_neg (by simp)] at he
     go_wp2_with (go_at_call 147;refine hc.mono ?_;rintro e w' ⟨rfl,rfl⟩)
     refine ⟨⟨k+1,by omega,by omega,rfl,he⟩,?_⟩
     show na - ((k:Int)+1).toNat<na - (k:Int).toNat
     omega
    ·have hzd:decide (z=0)=false:=decide_eq_false hz
     rw [if_pos hz] at he
     go_wp2_with (go_at_call 147;refine hc.mono ?_;rintro e w' ⟨rfl,rfl⟩)
     go_ret
     exact⟨by first|rfl|(rw [he];rfl),rfl⟩
   ·have hkz2:(nb:Int)≤(k:Int):=by omega
    rw [cmpLI_end1 (by omega) (by omega)] at he
    clear ha hb
    go_wp2
    go_ret
    exact⟨by first|rfl|(rw [he];rfl),rfl⟩
  ·have hkz:¬ (k:Int)<(na:Int):=by omega
   clear ha hb
   by_cases hab:na<nb
   ·have habz:(na:Int)<(nb:Int):=by omega
    rw [cmpLI_end2 (by omega) (by omega)] at he
    go_wp2
    go_ret
    exact⟨by first|rfl|(rw [he];rfl),rfl⟩
   ·have habz:¬ (na:Int)<(nb:Int):=by omega
    rw [cmpLI_end (by omega) (by omega)] at he
    go_wp2
    go_ret
    exact⟨by first|rfl|(rw [he];rfl),rfl⟩
theorem moves1_calls (cf:Int) (ba oa ca bb ob cb:Nat) (a b:List Int) (W:World) (hla:a.length≤1000) (hlb:b.length≤1000) (ha:∀ j,j<a.length→W.cell? ⟨ba,oa+j,none⟩=some (.int .i64 (a.getD j 0))) (hb:∀ j,j<b.length→W.cell? ⟨bb,ob+j,none⟩=some (.int .i64 (b.getD j 0)))
  (hcf:cf=if a.length≠b.length then (b.length:Int) - a.length else cmpLI a b) :
  Calls Tryz.prog 116 #[.slice (some ⟨ba,oa,none⟩) a.length ca, .slice (some ⟨bb,ob,none⟩) b.length cb] W fun e w'=>e = .returned (.int .i64 cf)∧w'=W:=by
 have hc:=compare_calls ba oa ca bb ob cb a b W hla hlb ha hb
 clear ha hb
 generalize cmpLI a b=r at *
 generalize a.length=na at *
 generalize b.length=nb at *
 by_cases hab:na=nb
 ·rw [if_neg (by simpa using hab)] at hcf
  subst hcf
  subst hab
  go_enter Tryz.func116,Tryz.ntmps116
  go_wp2_with (go_at_call 117;refine hc.mono ?_;rintro e w' ⟨rfl,rfl⟩)
  go_ret
  exact⟨rfl,rfl⟩
 ·rw [if_pos hab] at hcf
  have hd:¬ (na:Int)=(nb:Int):=by omega
  have hw:IntKind.i64.wrap ((nb:Int) - (na:Int))=(nb:Int) - (na:Int):=by rw [IntKind.wrap_i64];omega
  go_enter Tryz.func116,Tryz.ntmps116
  go_wp2
  go_ret
  exact⟨by rw [hcf];rfl,rfl⟩
end Go.Proofs.YtefieebkankfoaaGreatDoor
namespace Go.Proofs.YtefieebkankfoaaGreatDoor
open Go.RowKit Go.Shelf Go.Proofs
set_option maxRecDepth 100000
set_option maxHeartbeats 1000000

theorem cmpI_nat (a b:Nat):cmpI (a:Int) (b:Int)=if a<b then -1 else if b<a then 1 else 0:=by
 unfold cmpI
 by_cases h1:a<b
 ·rw [if_pos (by omega),if_pos h1]
 ·rw [if_neg (by omega),if_neg h1]
  by_cases h2:b<a
  ·rw [if_pos (by omega),if_pos h2]
  ·rw [if_neg (by omega),if_neg h2]
theorem cmpLI_nat:∀ a b:List Nat,cmpLI (intN a) (intN b)=cmpL a b
 | [],[]=>rfl
 | [],_::_=>rfl
 | _::_,[]=>rfl
 | a::p,b::q=>by
  have ih:=cmpLI_nat p q
  show (if cmpI (a:Int) (b:Int)≠0 then cmpI (a:Int) (b:Int) else cmpLI (intN p) (intN q))=_
  rw [cmpI_nat,ih,cmpL]
  by_cases h1:a<b
  ·rw [if_pos h1,if_pos h1,if_pos (by omega)]
  ·by_cases h2:b<a
   ·rw [if_neg h1,if_pos h2,if_neg h1,if_pos h2,if_pos (by omega)]
   ·rw [if_neg h1,if_neg h2,if_neg h1,if_neg h2,if_neg (by omega)]
end Go.Proofs.YtefieebkankfoaaGreatDoor
namespace Go.Proofs.YtefieebkankfoaaGreatDoor
open Go.RowKit Go.Shelf Go.Proofs
set_option maxRecDepth 100000
set_option maxHeartbeats 1000000

theorem volL_app:∀ a b:List Nat,volL (a++b)=volL a * volL b
 | [],b=>by show volL b=1 * volL b;omega
 | n::a,b=>by
  show (n+1) * volL (a++b)=(n+1) * volL a * volL b
  rw [volL_app a b,Nat.mul_assoc]
theorem volL_snoc {ls:List Nat} {k n:Nat} (h:ls[k]?=some n):volL (ls.take (k+1))=volL (ls.take k) * (n+1):=by
 rw [take_snoc _ _ _ h,volL_app]
 show _ * ((n+1) * 1)=_
 rw [Nat.mul_one]
theorem volL_take (ls:List Nat) (k:Nat):volL (ls.take k)≤volL ls:=by
 have h:=volL_app (ls.take k) (ls.drop k)
 rw [List.take_append_drop] at h
 rw [h]
 exact Nat.le_mul_of_pos_right _ (volL_pos _)
theorem volL_drop {ls:List Nat} {k n:Nat} (h:ls[k]?=some n):volL (ls.drop k)=volL (ls.drop (k+1)) * (n+1):=by
 obtain⟨h1,e⟩:=List.getElem?_eq_some_iff.1 h
 rw [List.drop_eq_getElem_cons h1,e]
 show (n+1) * _=_
 rw [Nat.mul_comm]
theorem volL_dropLe (ls:List Nat) (k:Nat):volL (ls.drop k)≤volL ls:=by
 have h:=volL_app (ls.take k) (ls.drop k)
 rw [List.take_append_drop] at h
 rw [h]
 exact Nat.le_mul_of_pos_left _ (volL_pos _)
theorem stpL_drop:∀ {ls:List Nat} {s:Nat},s<ls.length→stpL ls s=volL (ls.drop (s+1))
 | _::ls,0,_=>rfl
 | _::ls,s+1,h=>by
  have:=stpL_drop (ls:=ls) (s:=s) (by simpa using h)
  simpa [stpL] using this
theorem stpL_pos {ls:List Nat} {s:Nat} (h:s<ls.length):0<stpL ls s:=by rw [stpL_drop h];exact volL_pos _
theorem stpL_le {ls:List Nat} {s:Nat} (h:s<ls.length):stpL ls s≤volL ls:=by rw [stpL_drop h];exact volL_dropLe _ _
def capV (v lim:Nat):Nat:=if v≤lim then v else lim+1
theorem size19_spec (A:Option Addr) (n ca:Nat) (l:List TS) (lim:Nat) (w:World) (hg:Grp w A n l) (hlim:1≤lim∧lim≤1000000000000):Spec Tryz.prog 76 [.slice A n ca, .int .i64 (lim:Nat)] w (fun v R=>v = .int .i64 (capV (volL (lens l)) lim:Nat)∧R=[]):=by
 have hn:=hg.hn
 have hb:=hg.hb
 have hll:=lens_len l
 refine spec_of sg Tryz.func76 rfl rfl rfl ?_
 repeat' (first|refine d1 ?_|fail)
 refine T_loopX (fun k:Nat=>[(10, .int .i64 k),(5, .int .i64 (volL ((lens l).take k):Nat))]) (fun _=>[]) (fun k=>k≤n∧volL ((lens l).take k)≤lim) (fun k=>n - k) 0 ⟨Nat.zero_le _,hlim.1⟩ ?_
 rintro k ⟨hk,hv⟩
 repeat' (first|refine d1 ?_|fail)
 refine T_if rfl (fun h=>?_) (fun h=>?_)
 ·simp only [decide_eq_true_eq] at h
  have hkn:k<n:=by omega
  obtain⟨b,o,rfl⟩:=hg.hs.base (by omega)
  obtain⟨t,ht,htm,hr⟩:=hg.get hkn
  have htn:=hg.nb t htm
  have hs:=volL_snoc (lens_get ht)
  have hle:=volL_take (lens l) (k+1)
  have e:((volL ((lens l).take k):Nat):Int) * ((t.n:Int)+1)=(volL ((lens l).take (k+1)):Nat):=by rw [hs];simp
  have hbd:volL ((lens l).take (k+1))≤1000000000000 * 1001:=by rw [hs];exact Nat.mul_le_mul (by omega) (by omega)
  repeat' (first|refine d1 ?_|fail)
  rw [e]
  refine T_if rfl (fun h1=>?_) (fun h1=>?_)
  ·simp only [decide_eq_true_eq] at h1
   repeat' (first|refine d1 ?_|(show T _ (.code .ret::_) _ _ _;refine T_retV [] rfl (Hle.none _) ⟨by unfold capV;rw [if_neg (by omega)];rfl,rfl⟩))
  ·simp only [decide_eq_false_iff_not] at h1
   repeat' (first|refine d1 ?_|fail)
   exact T_backX (k+1) ⟨by omega,by omega⟩ (by omega)
 ·simp only [decide_eq_false_iff_not] at h
  obtain rfl:k=n:=by omega
  rw [List.take_of_length_le (by omega)] at hv ⊢
  repeat' (first|refine d1 ?_|(show T _ (.code .ret::_) _ _ _;refine T_retV [] rfl (Hle.none _) ⟨by unfold capV;rw [if_pos hv];rfl,rfl⟩))
def gridL (A:Option Addr) (n ca:Nat) (ls:List Nat) (j:Nat):List Value :=
 [.slice A n ca, .int .i64 (if j≤0 then stpL ls 0 else 0:Nat), .int .i64 (if j≤1 then stpL ls 1 else 0:Nat), .int .i64 (if j≤2 then stpL ls 2 else 0:Nat), .int .i64 (if j≤3 then stpL ls 3 else 0:Nat), .int .i64 (volL (ls.drop j):Nat)]
def gridM (A:Option Addr) (n ca:Nat) (ls:List Nat) (j v:Nat):List Value :=
 [.slice A n ca, .int .i64 (if j≤0 then stpL ls 0 else 0:Nat), .int .i64 (if j≤1 then stpL ls 1 else 0:Nat), .int .i64 (if j≤2 then stpL ls 2 else 0:Nat), .int .i64 (if j≤3 then stpL ls 3 else 0:Nat), .int .i64 (v:Nat)]
theorem newGrid_spec (A:Option Addr) (n ca:Nat) (l:List TS) (w:World) (hg:Grp w A n l) (h4:n≤4) (hv:volL (lens l)≤65536) :
  Spec Tryz.prog 78 [.slice A n ca] w (fun v R=>∃ g:Nat,True∧v = .pointer (some ⟨g,0,none⟩)∧R=[blk g (gridL A n ca (lens l) 0) 123]):=by
 have hn:=hg.hn
 have hll:=lens_len l
 have hz:∀ s,n≤s→stpL (lens l) s=0:=fun s hs=>by
  have:∀ (ls:List Nat) (s:Nat),ls.length≤s→stpL ls s=0:=by
   intro ls
   induction ls with
   | nil=>intro s _;rfl
   | cons a ls ih=>intro s h;cases s with
    | zero=>simp at h
    | succ s=>exact ih s (by simpa using h)
  exact this _ _ (by omega)
 refine spec_of sg Tryz.func78 rfl rfl rfl ?_
 repeat' (first|refine d1 ?_|(show ∀ _:Nat,T _ _ _ _ _;intro _))
 rename_i g
 refine T_loopX (fun j:Nat=>[(4, .int .i64 ((j:Int) - 1))]) (fun j=>[blk g (gridL A n ca (lens l) j) 123]) (fun j=>j≤n) (fun j=>j) n (Nat.le_refl _) ?_ (hG:=?_)
 ·rintro j hj
  repeat' (first|refine d1 ?_|fail)
  refine T_if rfl (fun h=>?_) (fun h=>?_)
  ·simp only [decide_eq_true_eq] at h
   obtain⟨s,rfl⟩:∃ s,j=s+1:=⟨j - 1,by omega⟩
   obtain⟨b,o,rfl⟩:=hg.hs.base (by omega)
   obtain⟨t,ht,htm,hr⟩:=hg.get (k:=s) (by omega)
   have htn:=hg.nb t htm
   rw [show ((s+1:Nat):Int) - 1=(s:Nat) by omega]
   have e1:volL ((lens l).drop s)=volL ((lens l).drop (s+1)) * (t.n+1):=volL_drop (lens_get ht)
   have e2:=stpL_drop (ls:=lens l) (s:=s) (by omega)
   have b1:=volL_dropLe (lens l) s
   have b2:=volL_dropLe (lens l) (s+1)
   have e3:((volL ((lens l).drop (s+1)):Nat):Int) * ((t.n:Int)+1)=(volL ((lens l).drop s):Nat):=by rw [e1];simp
   have hgl:∀ j,(gridL (some ⟨b,o,none⟩) n ca (lens l) j).length=6:=fun _=>rfl
   refine T_cutX 1 [] (fun _:Unit=>[]) (fun _=>[blk g ((gridL (some ⟨b,o,none⟩) n ca (lens l) (s+1)).set (0+1+(s:Int).toNat * 1) (.int .i64 (volL ((lens l).drop (s+1)):Nat))) 123]) (fun _=>True) ?_ ?_
   ·refine dw0 1000 [] ?_
    repeat' (first|(show T _ (.draw _ _ _ _ _::_) _ _ _;first|refine dw1 ?_|refine dwv rfl (by decide +kernel) rfl rfl (Val.nilc rfl) rfl rfl rfl ?_|refine dwb rfl (by decide +kernel) ?_)|(show AllL _ [];exact True.intro)|(show AllL _ (_::_);refine ⟨?_,?_⟩)|(show OpT _ _ _ _ _ _ _;first|refine dwx ?_|refine OpT.ofVal rfl (Val.nilc rfl) rfl rfl rfl ⟨fun _=>(by first|exact Hle.none _|exact Hle.sub|exact absurd ‹_› (by decide +kernel)),?_⟩|refine OpT.ofVal rfl (Val.load rfl (fun hg=>rdOwn1 rfl)) rfl rfl rfl ⟨fun _=>(by first|exact Hle.none _|exact Hle.sub|exact absurd ‹_› (by decide +kernel)),?_⟩|refine OpT.store rfl rfl rfl rfl (by rw [hgl];omega) ⟨fun _=>Hle.none _,?_⟩)|(show T _ (.mark _::_) _ _ _;exact T_meetX () trivial))
   rintro⟨⟩ _
   refine T_le (H':=[blk g (gridM (some ⟨b,o,none⟩) n ca (lens l) s (volL ((lens l).drop (s+1)))) 123]) ?_ ?_
   ·have e:(gridL (some ⟨b,o,none⟩) n ca (lens l) (s+1)).set (0+1+(s:Int).toNat * 1) (.int .i64 (volL ((lens l).drop (s+1)):Nat))=gridM (some ⟨b,o,none⟩) n ca (lens l) s (volL ((lens l).drop (s+1))):=by
     obtain rfl|rfl|rfl|rfl:s=0∨s=1∨s=2∨s=3:=by omega
     all_goals (simp [gridL,gridM];rw [e2];try simp)
    rw [e]
    exact Hle.refl _
   refine T_cutX 1 [] (fun _:Unit=>[]) (fun _=>[blk g (gridL (some ⟨b,o,none⟩) n ca (lens l) s) 123]) (fun _=>True) ?_ ?_
   ·refine dw0 1000 [] ?_
    repeat' (first|(show T _ (.draw _ _ _ _ _::_) _ _ _;first|refine dw1 ?_|refine dwv rfl (by decide +kernel) rfl rfl (Val.nilc rfl) rfl rfl rfl ?_|refine dwb rfl (by decide +kernel) ?_)|(show AllL _ [];exact True.intro)|(show AllL _ (_::_);refine ⟨?_,?_⟩)|(show OpT _ _ _ _ _ _ _;first|refine dwx ?_|refine OpT.ofVal rfl (Val.load rfl (fun hg=>rdOwn1 rfl)) rfl rfl rfl ⟨fun _=>(by first|exact Hle.none _|exact Hle.sub|exact absurd ‹_› (by decide +kernel)),?_⟩|refine OpT.ofVal rfl (Val.load rfl (fun hg=>rdOld hr)) rfl rfl rfl ⟨fun _=>(by first|exact Hle.none _|exact Hle.sub|exact absurd ‹_› (by decide +kernel)),?_⟩)|(show T _ (.mark _::_) _ _ _;exact T_meetX () trivial (hG:=by rw [e3];exact Hle.refl _)))
   rintro⟨⟩ _
   repeat' (first|refine d1 ?_|fail)
   exact T_backX s (by omega) (by omega)
  ·simp only [decide_eq_false_iff_not] at h
   obtain rfl:j=0:=by omega
   repeat' (first|refine d1 ?_|(show T _ (.code .ret::_) _ _ _;refine T_retV _ rfl (Hle.refl _) ⟨g,trivial,rfl,rfl⟩))
 ·have e:gridL A n ca (lens l) n=[.slice A n ca, .int .i64 0, .int .i64 0, .int .i64 0, .int .i64 0, .int .i64 1]:=by
   have h0:∀ s,(if n≤s then stpL (lens l) s else 0)=0:=fun s=>by split;exact hz s ‹_›;rfl
   unfold gridL
   rw [h0,h0,h0,h0,List.drop_of_length_le (by omega)];rfl
  rw [e]
  exact Hle.refl _
end Go.Proofs.YtefieebkankfoaaGreatDoor
namespace Go.Proofs.YtefieebkankfoaaGreatDoor
open Go.RowKit Go.Shelf Go.Proofs
set_option maxRecDepth 100000
set_option maxHeartbeats 1000000

theorem stpL_none:∀ {ls:List Nat} {s:Nat},ls.length≤s→stpL ls s=0
 | [],_,_=>rfl
 | _::_,0,h=>by simp at h
 | _::ls,s+1,h=>stpL_none (ls:=ls) (by simpa using h)
def atJ (v:List Nat) (s:Nat):List Value:=[.int .i64 (if 0<s then v.getD 0 0 else 0:Nat), .int .i64 (if 1<s then v.getD 1 0 else 0:Nat), .int .i64 (if 2<s then v.getD 2 0 else 0:Nat), .int .i64 (if 3<s then v.getD 3 0 else 0:Nat)]
def atV (v:List Nat):List Value:=[.int .i64 (v.getD 0 0:Nat), .int .i64 (v.getD 1 0:Nat), .int .i64 (v.getD 2 0:Nat), .int .i64 (v.getD 3 0:Nat)]
theorem atJ_all {v:List Nat} {n:Nat} (hv:v.length=n) (h4:n≤4):atJ v n=atV v:=by
 have h:∀ s,(if s<n then v.getD s 0 else 0)=v.getD s 0:=fun s=>by
  by_cases hs:s<n
  ·rw [if_pos hs]
  ·rw [if_neg hs,List.getD_eq_getElem?_getD,List.getElem?_eq_none (by omega)];rfl
 unfold atJ atV
 rw [h,h,h,h]
theorem gridL_stp (A:Option Addr) (n ca:Nat) (ls:List Nat) {s:Nat} (hs:s<4):(gridL A n ca ls 0)[1+s]?=some (.int .i64 (stpL ls s:Nat)):=by
 obtain rfl|rfl|rfl|rfl:s=0∨s=1∨s=2∨s=3:=by omega
 all_goals rfl
theorem at19_spec (A:Option Addr) (n ca:Nat) (l:List TS) (pg p:Nat) (w:World) (hg:Grp w A n l) (h4:n≤4) (hv:volL (lens l)≤65536) (hp:p<volL (lens l)) (hpg:RdC w pg 0 (gridL A n ca (lens l) 0)) :
  Spec Tryz.prog 119 [.pointer (some ⟨pg,0,none⟩), .int .i64 (p:Nat)] w (fun v R=>v = .agg (atV (atL (lens l) p)).toArray∧R=[]):=by
 have hn:=hg.hn
 have hll:=lens_len l
 have hal:=atL_len (lens l) p
 have hl0:RdC w pg 0 [.slice A n ca]:=fun j u hu=>by
  cases j with
  | zero=>simp at hu;subst hu;exact hpg 0 _ rfl
  | succ j=>simp at hu
 refine spec_of sg Tryz.func119 rfl rfl rfl ?_
 repeat' (first|refine d1 ?_|(show T _ (.ops _ (_::_)::_) _ _ _;refine T_val rfl (Val.nilc rfl) rfl rfl rfl ?_)|(show ∀ _:Nat,T _ _ _ _ _;intro _))
 rename_i p4 p5
 refine T_loopX (fun s:Nat=>[(12, .int .i64 (s:Nat))]) (fun s=>[blk p5 (atJ (atL (lens l) p) s) 121,blk p4 (atJ [] 0) 121]) (fun s=>s≤n) (fun s=>n - s) 0 (Nat.zero_le _) ?_
 rintro s hs
 repeat' (first|refine d1 ?_|fail)
 refine T_if rfl (fun h=>?_) (fun h=>?_)
 ·simp only [decide_eq_true_eq] at h
  have hsn:s<n:=by omega
  obtain⟨b,o,rfl⟩:=hg.hs.base (by omega)
  obtain⟨t,ht,htm,hr⟩:=hg.get (k:=s) hsn
  have htn:=hg.nb t htm
  have hsp:=stpL_pos (ls:=lens l) (s:=s) (by omega)
  have hsl:=stpL_le (ls:=lens l) (s:=s) (by omega)
  have hst:RdC w pg (0+1+(s:Int).toNat * 1) [.int .i64 (stpL (lens l) s:Nat)]:=fun j u hu=>by
   cases j with
   | zero=>simp at hu;subst hu;have:=hpg (1+s) _ (gridL_stp _ _ _ _ (by omega));rw [show 0+1+(s:Int).toNat * 1+0=0+(1+s) by omega];exact this
   | succ j=>simp at hu
  obtain⟨q,hq⟩:∃ q,q=p / stpL (lens l) s:=⟨_,rfl⟩
  have hdv:((p:Int) / (stpL (lens l) s:Nat))=(q:Int):=by rw [hq];simp
  have hat:=atL_get p (lens_get ht)
  have hdl:q≤p:=by rw [hq];exact Nat.div_le_self _ _
  rw [← hq] at hat
  have hrm:(q:Int) % ((t.n:Int)+1)=((atL (lens l) p).getD s 0:Nat):=by
   rw [List.getD_eq_getElem?_getD,hat];simp
  have hset:(atJ (atL (lens l) p) s).set (0+(s:Int).toNat * 1) (.int .i64 ((atL (lens l) p).getD s 0:Nat))=atJ (atL (lens l) p) (s+1):=by
   obtain rfl|rfl|rfl|rfl:s=0∨s=1∨s=2∨s=3:=by omega
   all_goals simp [atJ]
  have hjl:(atJ (atL (lens l) p) s).length=4:=rfl
  repeat' (first|refine d1 ?_|refine dd ?_|(show T _ (.run _ _ (_::_) _ _::_) _ _ _;refine rv rfl rfl rfl (Val.nilc rfl) rfl rfl rfl ?_)|fail)
  refine T_backX (s+1) (by omega) (by omega) (hG:=?_)
  rw [← hset, ← hrm, ← hdv]
  exact Hle.refl _
 ·simp only [decide_eq_false_iff_not] at h
  obtain rfl:s=n:=by omega
  rw [atJ_all (by omega) h4]
  repeat' (first|refine d1 ?_|fail)
  refine T_le (H':=[blk p4 (atV (atL (lens l) p)) 121]) (Hle.tail _ _) ?_
  exact T_retM (vs:=[.agg (atV (atL (lens l) p)).toArray]) [] ⟨⟨p4,_,atV (atL (lens l) p),rfl,rfl,rfl,rfl,(fun h=>by cases h),rfl,rdAll⟩,trivial⟩ (Hle.none _) ⟨rfl,rfl⟩
end Go.Proofs.YtefieebkankfoaaGreatDoor
namespace Go.Proofs.YtefieebkankfoaaGreatDoor
open Go.RowKit Go.Shelf Go.Proofs Go.Sort Go.Lib
set_option maxRecDepth 100000
set_option maxHeartbeats 1000000

structure MvAt (p:Frag) where
 v:Value
 m:List Nat
 rd:Rd (fr p) [v] [intsD (intN m)]
 ne:m≠[]
 le:m.length≤1000
theorem mvAt_list {p:Frag}:∀ {ms:List (List Nat)} {hs:List Value},Rd (fr p) hs (ms.map fun m=>intsD (intN m))→(∀ m∈ms,m≠[]∧m.length≤1000)→∃ L:List (MvAt p),L.map MvAt.v=hs∧L.map MvAt.m=ms
 | [],hs,h,_=>by cases h;exact⟨[],rfl,rfl⟩
 | m::ms,[],h,_=>by have:=h.length;simp at this
 | m::ms,x::hs,h,hm=>by
  obtain⟨h1,h2⟩:=h.cons_inv
  obtain⟨L,e1,e2⟩:=mvAt_list h2 fun k hk=>hm k (.tail _ hk)
  have hmm:=hm m (.head _)
  exact⟨⟨x,m,h1,hmm.1,hmm.2⟩::L,by rw [List.map_cons,e1],by rw [List.map_cons,e2]⟩
theorem mvAt_rd {p:Frag}:∀ L:List (MvAt p),Rd (fr p) (L.map MvAt.v) ((L.map MvAt.m).map fun m=>intsD (intN m))
 | [] => .nil
 | x::L=>x.rd.append (mvAt_rd L)
def cfM {p:Frag} (x y:MvAt p):Int:=cmpM x.m y.m
theorem cmpM_le {a b c:List Nat} (h1:¬ cmpM a b<0) (h2:¬ cmpM b c<0):¬ cmpM a c<0:=fun h=>by
 have a1:=cmpM_neg a b
 have a2:=cmpM_neg b c
 by_cases e1:cmpM a b=0
 ·rw [cmpM_zero e1] at h;exact h2 h
 ·by_cases e2:cmpM b c=0
  ·rw [← cmpM_zero e2] at h;exact h1 h
  ·have h3:=cmpM_trans (a:=b) (b:=a) (c:=c) (by omega) h
   exact h2 h3
theorem swoM (p:Frag):SWO (ltOf (cfM (p:=p))):=by
 refine ⟨fun x=>?_,fun x y z h1 h2=>?_,fun x y z h1 h2=>?_⟩
 ·unfold ltOf cfM
  rw [cmpM_self];rfl
 ·unfold ltOf cfM at *
  exact decide_eq_true (cmpM_trans (of_decide_eq_true h1) (of_decide_eq_true h2))
 ·unfold ltOf cfM at *
  exact decide_eq_false (cmpM_le (of_decide_eq_false h1) (of_decide_eq_false h2))
theorem sortM_spec {w0:World} {cap g n:Nat} {hs:List Value} {ms:List (List Nat)} {p:Frag} (hp:Rd (fr p) hs (ms.map fun m=>intsD (intN m))) (hn:ms.length=n) (h0:0<n) (hn2:n≤1000) (hms:∀ m∈ms,m≠[]∧m.length≤1000) :
  SpecB Tryz.prog 115 [.slice (some ⟨g,0,none⟩) n cap, .func (.func 116) #[] #[]] w0 [row 29 1 (some ⟨g,0,none⟩) cap n hs,fz p]
   (fun v R=>v = .tuple #[]∧∃ (hs':List Value) (ms':List (List Nat)),Rd (fr p) hs' (ms'.map fun m=>intsD (intN m))∧ms'.Perm ms∧(ms'.Pairwise fun a b=>¬ cmpM b a<0)∧R=[row 29 1 (some ⟨g,0,none⟩) cap n hs',fz p]):=by
 refine ⟨enters_of rfl rfl rfl,fun w hw=>?_⟩
 obtain⟨L,e1,e2⟩:=mvAt_list hp hms
 have hL:L.length=n:=by rw [← hn, ← e2,List.length_map]
 have:Inhabited (MvAt p):=⟨L[0]'(by omega)⟩
 have hw2:Cls w0 w [row 29 1 (some ⟨g,0,none⟩) cap n (L.toArray.toList.map MvAt.v),fz p]:=by rw [List.toList_toArray,e1];exact hw
 obtain⟨hH,hblk⟩:=sort_holds hw2 (by simpa using hL)
 have hcmp:CmpLays1 Tryz.prog 116 #[] (MvAt.v (p:=p)) cfM g 0 L.toArray.size w:=by
  intro k os dk hdk x y
  have hW:=sort_cls (d':=dk) (m:=k) (os:=os) hw2 (by simpa using hL) hdk
  obtain⟨A,ca,hxv,hx1,hx2,hx3⟩:=(x.rd.own hW).row1
  obtain⟨B,cb,hyv,hy1,hy2,hy3⟩:=(y.rd.own hW).row1
  have l1:(intN x.m).length=x.m.length:=by simp [intN]
  have l2:(intN y.m).length=y.m.length:=by simp [intN]
  have p1:=List.length_pos_iff.2 x.ne
  have p2:=List.length_pos_iff.2 y.ne
  have q1:=x.le
  have q2:=y.le
  obtain⟨ba,oa,rfl,hca⟩:=hx3 (by omega)
  obtain⟨bb,ob,rfl,hcb⟩:=hy3 (by omega)
  have hc:=moves1_calls (cmpM x.m y.m) ba oa ca bb ob cb (intN x.m) (intN y.m) (sortWorld (MvAt.v (p:=p)) w g 0 k dk os) (by omega) (by omega)
   (fun j hj=>hca j _ (by rw [List.getElem?_eq_getElem hj,List.getD_eq_getElem?_getD,List.getElem?_eq_getElem hj];rfl)) (fun j hj=>hcb j _ (by rw [List.getElem?_eq_getElem hj,List.getD_eq_getElem?_getD,List.getElem?_eq_getElem hj];rfl))
   (by rw [cmpLI_nat,l1,l2];rfl)
  rw [← hxv, ← hyv] at hc
  exact hc.mono fun e w' ⟨h1,h2⟩=>⟨h1,0, #[],by rw [h2,grow_empty];rfl⟩
 have hS:=Tryz.slices_SortFunc (MvAt.v (p:=p)) (fun x=>by obtain⟨A,ca,h,-⟩:=x.rd.row1;rw [h];rfl) cfM (swoM p) 116 #[] g 0 cap L.toArray w (enters_of rfl rfl rfl) hcmp hH hblk (by simp;omega)
 rw [show L.toArray.size=n by simpa using hL] at hS
 refine hS.mono fun e w' hh=>?_
 obtain⟨rfl,d',k,os,hpm,hso,rfl⟩:=hh
 obtain⟨hsz,hpe⟩:=permIn_all (d:=L.toArray) (by rw [show L.toArray.size=n by simpa using hL];exact hpm)
 have hso2:=sortedIn_all (d:=d') (by rw [hsz];simpa using hL) hso
 have hfin:=sort_cls (d':=d') (m:=k) (os:=os) hw2 (by simpa using hL) hsz
 refine ⟨.tuple #[],_,rfl,⟨rfl,d'.toList.map MvAt.v,d'.toList.map MvAt.m,mvAt_rd _,?_,?_,rfl⟩,hfin.below,hfin.sep⟩
 ·have:=hpe.map MvAt.m
  rw [List.toList_toArray,e2] at this
  exact this
 ·refine List.pairwise_map.2 (hso2.imp fun {a b} h=>?_)
  exact of_decide_eq_false h
end Go.Proofs.YtefieebkankfoaaGreatDoor
namespace Go.Proofs.YtefieebkankfoaaGreatDoor
open Go.RowKit Go.Shelf Go.Proofs
set_option maxRecDepth 100000
set_option maxHeartbeats 1000000

def allP (n c:Nat):List (List Nat):=((List.range c).map (bitsL n)).filter fun m => !m.isEmpty
theorem allP_all (n:Nat):allP n (2 ^ n)=allL n:=rfl
theorem allP_yes {n c:Nat} (h:0<(bitsL n c).length):allP n (c+1)=allP n c++[bitsL n c]:=by
 unfold allP
 rw [List.range_succ,List.map_append,List.filter_append]
 have:(bitsL n c).isEmpty=false:=by cases hb:bitsL n c with
  | nil=>rw [hb] at h;simp at h
  | cons a l=>rfl
 show _++List.filter _ [bitsL n c]=_
 rw [List.filter_cons,this];rfl
theorem allP_no {n c:Nat} (h:¬ 0<(bitsL n c).length):allP n (c+1)=allP n c:=by
 unfold allP
 rw [List.range_succ,List.map_append,List.filter_append]
 have:bitsL n c=[]:=List.eq_nil_of_length_eq_zero (by omega)
 show _++List.filter _ [bitsL n c]=_
 rw [this]
 exact List.append_nil _
def bitsP (c s:Nat):List Nat:=(List.range s).filter fun k=>c.testBit k
theorem bitsP_succ (c s:Nat):bitsP c (s+1)=bitsP c s++if c.testBit s=true then [s] else []:=by
 unfold bitsP
 rw [List.range_succ,List.filter_append,List.filter_cons]
 rfl
theorem bitsP_len (c s:Nat):(bitsP c s).length≤s:=by
 unfold bitsP
 have:=List.length_filter_le (fun k=>c.testBit k) (List.range s)
 rwa [List.length_range] at this
theorem allP_len (n c:Nat):(allP n c).length≤c:=by
 unfold allP
 have:=List.length_filter_le (fun m:List Nat => !m.isEmpty) ((List.range c).map (bitsL n))
 rwa [List.length_map,List.length_range] at this
theorem bit_law:∀ c:Nat,c<16→∀ s:Nat,s<4→decide (andV .i64 (shrV .i64 (c:Int) (s:Int)) 1=1)=Nat.testBit c s:=by decide +kernel
theorem shl_law {n:Nat} (h4:n≤4):shlV .i64 1 (n:Int)=((2 ^ n:Nat):Int):=by
 obtain rfl|rfl|rfl|rfl|rfl:n=0∨n=1∨n=2∨n=3∨n=4:=by omega
 all_goals decide +kernel
theorem mvL_none {n:Nat} (h:n<1∨4<n):mvL n=[]:=by
 match n,h with
 | 0,_=>rfl
 | 1,h=>omega
 | 2,h=>omega
 | 3,h=>omega
 | 4,h=>omega
 | n+5,_=>rfl
theorem intN_snoc (a:List Nat) (s:Nat):(intN (a++[s])).map (Value.int .i64)=(intN a).map (Value.int .i64)++flatP [(0, .int .i64 (s:Nat))]:=by unfold intN;rw [List.map_append,List.map_append];rfl
theorem moves19_spec (z:Int) (w:World):Spec Tryz.prog 79 [.int .i64 z] w (fun v R=>∃ x:Value,True∧v=x∧R=[dat [x] [rowsD ((mvL z.toNat).map intN)]]):=by
 refine spec_of sg Tryz.func79 rfl rfl rfl ?_
 repeat' (first|refine d1 ?_|fail)
 refine T_if rfl (fun h=>?_) (fun h=>?_)
 ·simp only [Bool.or_eq_true,decide_eq_true_eq] at h
  rw [mvL_none (by omega)]
  repeat' (first|refine d1 ?_|(show T _ (.code .ret::_) _ _ _;refine T_retV _ rfl (nilC _ |>.trans (Hle.nth 0 rfl)) ⟨_,trivial,rfl,rfl⟩))
 simp only [Bool.or_eq_false_iff,decide_eq_false_iff_not] at h
 obtain⟨n,rfl⟩:∃ n:Nat,z=n:=⟨z.toNat,by omega⟩
 have h1:1≤n:=by omega
 have h4:n≤4:=by omega
 rw [Int.toNat_natCast]
 have hpw:2 ^ n≤16:=by
  obtain rfl|rfl|rfl|rfl:n=1∨n=2∨n=3∨n=4:=by omega
  all_goals decide
 repeat' (first|refine d1 ?_|(show T _ (.ops _ (_::_)::_) _ _ _;refine T_val rfl (Val.bits rfl (fun _=>by omega)) rfl rfl rfl ?_)|fail)
 rw [shl_law h4]
 refine T_le (dat_nil _) ?_
 refine T_nilrow 29 1 ?_
 refine T_loopX (fun s:Nat × (Option Addr × Nat) × List Value=>[(15, .int .i64 (s.1:Nat)),(3, .slice s.2.1.1 (allP n s.1).length s.2.1.2)]) (fun s=>[row 29 1 s.2.1.1 s.2.1.2 (allP n s.1).length s.2.2,dat s.2.2 (((allP n s.1).map intN).map intsD)]) (fun s=>s.1≤2 ^ n∧(0<(allP n s.1).length→∃ g,s.2.1.1=some ⟨g,0,none⟩)) (fun s=>2 ^ n - s.1) (0,(none,0),[]) ⟨Nat.zero_le _,fun h=>absurd h (Nat.lt_irrefl 0)⟩ ?_
 rintro⟨c,⟨A,cap⟩,hs⟩ ⟨hc,hA⟩
 dsimp only at hc hA ⊢
 have hal:=allP_len n c
 repeat' (first|refine d1 ?_|fail)
 refine T_if rfl (fun h2=>?_) (fun h2=>?_)
 ·simp only [decide_eq_true_eq] at h2
  have hcn:c<2 ^ n:=by omega
  repeat' (first|refine d1 ?_|fail)
  refine T_nilrow 3 1 ?_
  refine T_loopX (fun s:Nat × (Option Addr × Nat)=>[(19, .int .i64 (s.1:Nat)),(5, .slice s.2.1 (bitsP c s.1).length s.2.2)]) (fun s=>[row 3 1 s.2.1 s.2.2 (bitsP c s.1).length ((intN (bitsP c s.1)).map (Value.int .i64)),row 29 1 A cap (allP n c).length hs,dat hs (((allP n c).map intN).map intsD)]) (fun s=>s.1≤n) (fun s=>n - s.1) (0,(none,0)) (Nat.zero_le _) ?_
  rintro⟨s,⟨A5,cap5⟩⟩ hsn
  dsimp only at hsn ⊢
  have hbl:=bitsP_len c s
  repeat' (first|refine d1 ?_|fail)
  refine T_if rfl (fun h3=>?_) (fun h3=>?_)
  ·simp only [decide_eq_true_eq] at h3
   have hbit:=bit_law c (by omega) s (by omega)
   have hsu:=bitsP_succ c s
   repeat' (first|refine d1 ?_|(show T _ (.ops _ (_::_)::_) _ _ _;first|refine T_val rfl (Val.bits rfl (fun _=>by omega)) rfl rfl rfl ?_|refine T_val rfl (Val.bits rfl (fun _=>trivial)) rfl rfl rfl ?_)|fail)
   rw [hbit]
   refine T_if rfl (fun h5=>?_) (fun h5=>?_)
   ·rw [if_pos h5] at hsu
    repeat' (first|refine d1 ?_|(show T _ (.ops _ (_::_)::_) _ _ _;refine T_op (OpT.append (A:=A5) rfl rfl rfl rfl rfl rfl rfl rfl rfl rfl (fun w hw=>Src.own hw rfl) rfl (by dsimp only;omega) (by omega) (fun A' cap' hA'=>?_)))|(show ∀ _:Nat,T _ _ _ _ _;intro _))
    refine T_backX (s+1,(A',cap')) (by dsimp only;omega) (by dsimp only;omega) (hE:=⟨rfl,by dsimp only;rw [hsu,List.length_append];rfl,trivial⟩) (hG:=?_)
    dsimp only
    rw [hsu,List.length_append,intN_snoc,show [s].length=1 from rfl]
    exact Hle.srt
   ·rw [if_neg (by rw [h5];simp),List.append_nil] at hsu
    repeat' (first|refine d1 ?_|fail)
    exact T_backX (s+1,(A5,cap5)) (by dsimp only;omega) (by dsimp only;omega) (hE:=⟨rfl,by dsimp only;rw [hsu];rfl,trivial⟩) (hG:=by dsimp only;rw [hsu];exact Hle.refl _)
  ·simp only [decide_eq_false_iff_not] at h3
   obtain rfl:s=n:=by omega
   have hbe:bitsP c s=bitsL s c:=rfl
   rw [hbe] at hbl ⊢
   repeat' (first|refine d1 ?_|fail)
   refine T_if rfl (fun h5=>?_) (fun h5=>?_)
   ·simp only [decide_eq_true_eq] at h5
    have hsu:=allP_yes (n:=s) (c:=c) (by omega)
    repeat' (first|refine d1 ?_|(show T _ (.ops _ (_::_)::_) _ _ _;refine T_op (OpT.append (A:=A) rfl rfl rfl rfl rfl rfl rfl rfl rfl rfl (fun w hw=>Src.own hw rfl) rfl (by dsimp only;omega) (by omega) (fun A' cap' hA'=>?_)))|(show ∀ _:Nat,T _ _ _ _ _;intro _))
    refine T_backX (c+1,(A',cap'),hs++[.slice A5 (bitsL s c).length cap5]) ⟨by dsimp only;omega,fun _=>hA' (by omega)⟩ (by dsimp only;omega) (hE:=⟨rfl,by dsimp only;rw [hsu,List.length_append];rfl,trivial⟩) (hG:=?_)
    dsimp only
    rw [hsu,List.length_append,List.map_append,show [bitsL s c].length=1 from rfl,show [bitsL s c].map intN=[intN (bitsL s c)] from rfl]
    exact (Hle.srt (K:=[row 3 1 A5 cap5 (bitsL s c).length ((intN (bitsL s c)).map (Value.int .i64)),dat hs (((allP s c).map intN).map intsD),row 29 1 A' cap' ((allP s c).length+1) (hs++flatP [(0, .slice A5 (bitsL s c).length cap5)])])).trans (out_hle (cl:=intN (bitsL s c)) rfl)
   ·simp only [decide_eq_false_iff_not] at h5
    have hsu:=allP_no (n:=s) (c:=c) (by omega)
    repeat' (first|refine d1 ?_|fail)
    exact T_backX (c+1,(A,cap),hs) ⟨by dsimp only;omega,by dsimp only;rw [hsu];exact hA⟩ (by dsimp only;omega) (hE:=⟨rfl,by dsimp only;rw [hsu];rfl,trivial⟩) (hG:=by dsimp only;rw [hsu];exact Hle.tail _ _)
 ·simp only [decide_eq_false_iff_not] at h2
  obtain rfl:c=2 ^ n:=by omega
  rw [allP_all] at hal hA ⊢
  have hpos:0<(allL n).length:=by
   rw [(allL_perm h1 h4).length_eq]
   obtain rfl|rfl|rfl|rfl:n=1∨n=2∨n=3∨n=4:=by omega
   all_goals decide
  obtain⟨g,rfl⟩:=hA hpos
  have hms:∀ m∈allL n,m≠[]∧m.length≤1000:=fun m hm=>by
   have h9:=(allL_perm h1 h4).mem_iff.1 hm
   refine ⟨(mvL_ok h1 h4).ne m h9,?_⟩
   have h8:=pigeon2 n m ((mvL_ok h1 h4).nd m h9) ((mvL_ok h1 h4).lt m h9)
   omega
  refine T_le (Hle.perm (List.Perm.swap _ _ _)) ?_
  refine T_open fun p hp=>?_
  refine T_le (Hle.perm (List.Perm.swap _ _ _)) ?_
  have hp2:Rd (fr p) hs ((allL n).map fun m=>intsD (intN m)):=by rw [List.map_map] at hp;exact hp
  repeat' (first|refine d1 ?_|(show T _ (.ops _ (_::_)::_) _ _ _;refine T_op (OpT.callB rfl rfl rfl rfl rfl (sortM_spec hp2 rfl hpos (by omega) hms) (fun u R hR=>?_)))|fail)
  obtain⟨rfl,hs',ms',hp3,hpe,hso,rfl⟩:=hR
  obtain rfl:=mvL_sorted h1 h4 hpe hso
  have hl:(allL n).length=(mvL n).length:=(allL_perm h1 h4).length_eq
  rw [hl]
  have hp4:Rd (fr p) hs' (((mvL n).map intN).map intsD):=by rw [List.map_map];exact hp3
  refine T_le (Hle.weaken (i:=1) rfl (fz_dat hp4) rfl) ?_
  repeat' (first|(show T _ (.code .ret::_) _ _ _;refine T_retV _ rfl dat_row ⟨_,trivial,rfl,by rfl⟩))
end Go.Proofs.YtefieebkankfoaaGreatDoor
namespace Go.Proofs.YtefieebkankfoaaGreatDoor
open Go.RowKit Go.Shelf Go.Proofs
set_option maxRecDepth 100000
set_option maxHeartbeats 1000000

theorem moves19_fn (pg p:Nat) (Am:Option Addr) (nm cm:Nat) (w:World):Spec Tryz.prog 80 [.pointer (some ⟨pg,0,none⟩), .slice Am nm cm, .int .i64 (p:Nat)] w
  (fun v R=>∃ g:Nat × Nat × Nat,True∧v = .func (.func 118) #[] #[.pointer (some ⟨g.1,0,none⟩), .pointer (some ⟨g.2.1,0,none⟩), .pointer (some ⟨g.2.2,0,none⟩)]∧R=[blk g.2.1 [.int .i64 (p:Nat)] 3,blk g.2.2 [.slice Am nm cm] 24,blk g.1 [.pointer (some ⟨pg,0,none⟩)] 117]):=by
 refine spec_of sg Tryz.func80 rfl rfl rfl ?_
 refine T_op (OpT.box (cs:=[.pointer (some ⟨pg,0,none⟩)]) rfl rfl rfl rfl rfl rfl rfl (fun g1=>?_))
 refine T_op (OpT.box (cs:=[.slice Am nm cm]) rfl rfl rfl rfl rfl rfl rfl (fun g3=>?_))
 refine T_op (OpT.box (cs:=[.int .i64 (p:Nat)]) rfl rfl rfl rfl rfl rfl rfl (fun g2=>?_))
 repeat' (first|refine d1 ?_|(show T _ (.code .ret::_) _ _ _;refine T_retV _ rfl (Hle.refl _) ⟨(g1,g2,g3),trivial,rfl,rfl⟩))
def posL (ls v:List Nat) (Ms:List (List Nat)):List (List Nat):=Ms.filter (possM ls v)
theorem posL_yes {ls v m:List Nat} {Ms:List (List Nat)} {i:Nat} (h:Ms[i]?=some m) (hp:possM ls v m=true):posL ls v (Ms.take (i+1))=posL ls v (Ms.take i)++[m]:=by
 unfold posL
 rw [take_snoc _ _ _ h,List.filter_append,List.filter_cons,hp];rfl
theorem posL_no {ls v m:List Nat} {Ms:List (List Nat)} {i:Nat} (h:Ms[i]?=some m) (hp:possM ls v m=false):posL ls v (Ms.take (i+1))=posL ls v (Ms.take i):=by
 unfold posL
 rw [take_snoc _ _ _ h,List.filter_append,List.filter_cons,hp]
 exact List.append_nil _
theorem posL_get {ls v m:List Nat} {Ms:List (List Nat)} {i:Nat} (h:Ms[i]?=some m) (hp:possM ls v m=true):(posL ls v Ms)[(posL ls v (Ms.take i)).length]?=some m:=by
 have h1:posL ls v Ms=posL ls v (Ms.take (i+1))++posL ls v (Ms.drop (i+1)):=by
  unfold posL
  rw [← List.filter_append,List.take_append_drop]
 rw [h1,posL_yes h hp,List.append_assoc,List.getElem?_append_right (Nat.le_refl _),Nat.sub_self];rfl
def QM (n:Nat) (ls v:List Nat) (j:Nat) (x:List Value) (B:List HA):Prop :=
 ∃ m b,(posL ls v (mvL n))[j]?=some m∧x=[.slice (some ⟨b,0,none⟩) n n, .int .i64 (numL ls (toM v m):Nat)]∧B=[row 3 1 (some ⟨b,0,none⟩) n n ((colT v m).map (Value.int .i64))]
theorem colMv_snoc (v:List Nat):∀ (m:List Nat) (s:Nat) (c:List Int),colMv v (m++[s]) c=(colMv v m c).set s (v.getD s 0:Nat)
 | [],s,c=>rfl
 | u::m,s,c=>by
  show colMv v (m++[s]) _=_
  rw [colMv_snoc v m s];rfl
theorem possM_snoc (ls v m:List Nat) (s:Nat):possM ls v (m++[s])=(possM ls v m && decide (v.getD s 0<ls.getD s 0)):=by
 unfold possM
 rw [List.all_append];simp
theorem sum_stp {ls:List Nat}:∀ m:List Nat,(m.map (stpL ls)).sum≤m.length * volL ls
 | []=>Nat.zero_le _
 | s::m=>by
  have h:=sum_stp (ls:=ls) m
  have h2:stpL ls s≤volL ls:=by
   by_cases hs:s<ls.length
   ·exact stpL_le hs
   ·rw [stpL_none (by omega)];exact Nat.zero_le _
  rw [List.map_cons,List.sum_cons,List.length_cons,Nat.add_mul];omega
theorem atV_get (v:List Nat) {s:Nat} (hs:s<4):(atV v)[s]?=some (.int .i64 (v.getD s 0:Nat)):=by
 obtain rfl|rfl|rfl|rfl:s=0∨s=1∨s=2∨s=3:=by omega
 all_goals rfl
theorem moves_iter {w0:World} {A:Option Addr} {n ca:Nat} {l:List TS} (hg:Grp w0 A n l) (h1:1≤n) (h4:n≤4) (hv:volL (lens l)≤65536) {p:Nat} (hp:p<volL (lens l)) (pg p1 p2 p3:Nat) {M:Value} {pm:Frag} (hM:Rd (fr pm) [M] [rowsD ((mvL n).map intN)]) :
  IterO Tryz.prog w0 118 [] [.pointer (some ⟨p1,0,none⟩), .pointer (some ⟨p2,0,none⟩), .pointer (some ⟨p3,0,none⟩)]
   [blk p2 [.int .i64 (p:Nat)] 3,blk p3 [M] 24,blk p1 [.pointer (some ⟨pg,0,none⟩)] 117,blk pg (gridL A n ca (lens l) 0) 123,fz pm]
   (QM n (lens l) (atL (lens l) p)) (posL (lens l) (atL (lens l) p) (mvL n)).length:=by
 have hn:=hg.hn
 have hll:=lens_len l
 have hvl:=atL_len (lens l) p
 have hmo:=mvL_ok h1 h4
 obtain⟨Am,cm,csm,rfl,hm1,hm2,hml,hmr,hrows⟩:=hM.tab
 rw [List.length_map] at hm1 hml hmr
 have hm15:(mvL n).length≤15:=by
  obtain rfl|rfl|rfl|rfl:n=1∨n=2∨n=3∨n=4:=by omega
  all_goals decide
 refine iterO_of sg Tryz.func118 rfl rfl rfl ?_
 intro l' GQ X Hj hY h0
 rw [List.length_map]
 show T _ _ _ _ (blk p2 [.int .i64 (p:Nat)] 3::blk p3 [.slice Am (mvL n).length cm] 24::blk p1 [.pointer (some ⟨pg,0,none⟩)] 117::blk pg (gridL A n ca (lens l) 0) 123::fz pm::Hj)
 repeat' (first|refine d1 ?_|(show T _ (.ops _ (_::_)::_) _ _ _;refine T_call rfl rfl rfl rfl rfl (fun w hw=>at19_spec A n ca l pg p w (hg.cls hw) h4 hv hp (rdAll w hw)) ?_)|(show ∀ _:Nat,T _ _ _ _ _;intro _))
 rename_i p5
 refine T_loopX (fun s:Nat × List HA=>[(18, .int .i64 (s.1:Nat))]) (fun s=>blk p5 (atV (atL (lens l) p)) 121::blk p2 [.int .i64 (p:Nat)] 3::blk p3 [.slice Am (mvL n).length cm] 24::blk p1 [.pointer (some ⟨pg,0,none⟩)] 117::blk pg (gridL A n ca (lens l) 0) 123::fz pm::s.2) (fun s=>s.1≤(mvL n).length∧GQ (posL (lens l) (atL (lens l) p) ((mvL n).take s.1)).length s.2) (fun s=>(mvL n).length - s.1) (0,Hj) ⟨Nat.zero_le _,h0⟩ ?_
 rintro⟨i,H1⟩ ⟨hi,hG⟩
 dsimp only at hi hG ⊢
 repeat' (first|refine d1 ?_|fail)
 refine T_if rfl (fun h=>?_) (fun h=>?_)
 ·simp only [decide_eq_true_eq] at h
  obtain⟨m,hm⟩:∃ m,(mvL n)[i]?=some m:=⟨_,List.getElem?_eq_getElem (by omega)⟩
  have hmm:=List.mem_of_getElem? hm
  have hml4:=pigeon2 n m (hmo.nd m hmm) (hmo.lt m hmm)
  obtain⟨b,o,rfl,hrd⟩:=hmr (by omega)
  obtain⟨Ar,capr,hcs,hr1,hr2,hAr⟩:=hrows.tabRow (i:=i) (r:=intN m) (by rw [List.getElem?_map,hm];rfl)
  rw [show (intN m).length=m.length by unfold intN;rw [List.length_map]] at hcs hr1 hAr
  have hmpos:0<m.length:=List.length_pos_iff.2 (hmo.ne m hmm)
  obtain⟨br,orr,rfl,hAr9⟩:=hAr hmpos
  repeat' (first|refine d1 ?_|(show T _ (.ops _ (_::_)::_) _ _ _;refine T_val rfl (Val.load rfl (fun hg=>rdFz (p:=pm) (u := .slice (some ⟨br,orr,none⟩) m.length capr) (b:=b) (by rw [off1];exact hrd i _ hcs))) rfl rfl rfl ?_)|fail)
  refine rsH [blk p5 (atV (atL (lens l) p)) 121,blk p2 [.int .i64 (p:Nat)] 3,blk p3 [.slice (some ⟨b,o,none⟩) (mvL n).length cm] 24,blk p1 [.pointer (some ⟨pg,0,none⟩)] 117,blk pg (gridL A n ca (lens l) 0) 123,fz pm] 1000 [1,2,3,4,5,7,0,6,8,9,10] ?_
  repeat' (first|refine dd ?_|(show T _ (.run _ _ (_::_) _ _::_) _ _ _;first|refine rv rfl rfl rfl (Val.nilc rfl) rfl rfl rfl ?_|refine ro rfl rfl (OpT.litW rfl rfl rfl rfl rfl rfl rfl rfl rfl rfl rfl (fun b3=>⟨fun _=>Hle.sub,?_⟩))|refine ro rfl rfl (OpT.call rfl rfl rfl rfl rfl (fun w hw=>repeatI_spec (-1) (some ⟨_,0,none⟩) 1 n w (Src.own hw rfl) (by omega)) (fun u R hR=>?_)))|fail)
  obtain⟨bz,-,rfl,rfl⟩:=hR
  refine ⟨fun _=>(Hle.tail _ _).trans ((Hle.tail _ _).trans (Hle.append_left (A:=[blk p5 (atV (atL (lens l) p)) 121,blk p2 [.int .i64 (p:Nat)] 3,blk p3 [.slice (some ⟨b,o,none⟩) (mvL n).length cm] 24,blk p1 [.pointer (some ⟨pg,0,none⟩)] 117,blk pg (gridL A n ca (lens l) 0) 123,fz pm]) H1)),?_⟩
  show T _ _ _ _ (row 3 1 (some ⟨bz,0,none⟩) n n (List.replicate n (.int .i64 (-1)))::blk _ _ _::blk p5 (atV (atL (lens l) p)) 121::blk p2 [.int .i64 (p:Nat)] 3::blk p3 [.slice (some ⟨b,o,none⟩) (mvL n).length cm] 24::blk p1 [.pointer (some ⟨pg,0,none⟩)] 117::blk pg (gridL A n ca (lens l) 0) 123::fz pm::H1)
  repeat' (first|refine d1 ?_|refine dd ?_|fail)
  have hz0:List.replicate n (Value.int .i64 (-1))=(colMv (atL (lens l) p) (m.take 0) (List.replicate n (-1))).map (Value.int .i64):=by rw [List.take_zero];unfold colMv;rw [List.map_replicate]
  rw [hz0]
  refine T_loopX (fun s:Nat=>[(32, .int .i64 (s:Nat)),(9, .int .i64 ((p+((m.take s).map (stpL (lens l))).sum:Nat):Int)),(10, .bool (possM (lens l) (atL (lens l) p) (m.take s)))]) (fun s=>row 3 1 (some ⟨bz,0,none⟩) n n ((colMv (atL (lens l) p) (m.take s) (List.replicate n (-1))).map (Value.int .i64))::blk p5 (atV (atL (lens l) p)) 121::blk p2 [.int .i64 (p:Nat)] 3::blk p3 [.slice (some ⟨b,o,none⟩) (mvL n).length cm] 24::blk p1 [.pointer (some ⟨pg,0,none⟩)] 117::blk pg (gridL A n ca (lens l) 0) 123::fz pm::H1) (fun s=>s≤m.length) (fun s=>m.length - s) 0 (Nat.zero_le _) ?_ (hG:=Hle.drop2 _ _ _)
  rintro s hs
  repeat' (first|refine d1 ?_|fail)
  refine T_if rfl (fun h5=>?_) (fun h5=>?_)
  ·simp only [decide_eq_true_eq] at h5
   obtain⟨u,hu⟩:∃ u,m[s]?=some u:=⟨_,List.getElem?_eq_getElem (by omega)⟩
   have hun:=hmo.lt m hmm u (List.mem_of_getElem? hu)
   have htk:=take_snoc _ _ _ hu
   obtain⟨ba,oa,rfl⟩:=hg.hs.base (by omega)
   obtain⟨t,ht,htm,htr⟩:=hg.get (k:=u) hun
   have htn:=hg.nb t htm
   have hsl:=stpL_le (ls:=lens l) (s:=u) (by omega)
   have hsum:=sum_stp (ls:=lens l) (m.take s)
   have hlt4:(m.take s).length≤4:=by rw [List.length_take];omega
   have hms:=Nat.mul_le_mul hlt4 hv
   have hst:∀ w,RdC w pg 0 (gridL (some ⟨ba,oa,none⟩) n ca (lens l) 0)→RdC w pg (0+1+(u:Int).toNat * 1) [.int .i64 (stpL (lens l) u:Nat)]:=fun w hpg=>RdC.one (by have:=hpg (1+u) _ (gridL_stp _ _ _ _ (by omega));rw [show 0+1+(u:Int).toNat * 1=0+(1+u) by omega];exact this)
   have hat:∀ w,RdC w p5 0 (atV (atL (lens l) p))→RdC w p5 (0+(u:Int).toNat * 1) [.int .i64 ((atL (lens l) p).getD u 0:Nat)]:=fun w hp5=>RdC.one (by have:=hp5 u _ (atV_get _ (by omega));rw [show 0+(u:Int).toNat * 1=0+u by omega];exact this)
   have hmu:fr pm br (orr+(s:Int).toNat * 1)=some (.int .i64 (u:Nat)):=by rw [off1];exact hAr9 s _ (by unfold intN;rw [List.getElem?_map,hu];rfl)
   repeat' (first|refine d1 ?_|refine dd ?_|(show T _ (.ops _ (_::_)::_) _ _ _;first|refine T_val rfl (Val.nilc rfl) rfl rfl rfl ?_|refine T_val rfl (Val.load rfl (fun hg=>rdFz (p:=pm) hmu)) rfl rfl rfl ?_|refine T_val rfl (Val.load rfl (fun hg=>(fun w hw=>hat w (rdAll w hw)))) rfl rfl rfl ?_|refine T_val rfl (Val.load rfl (fun hg=>(fun w hw=>hst w (rdAll w hw)))) rfl rfl rfl ?_|refine T_op (OpT.storeR (us:=[.int .i64 ((atL (lens l) p).getD u 0:Nat)]) rfl rfl rfl rfl rfl rfl (by show 0+(u:Int).toNat * 1+1≤n * 1;omega) ?_))|(show T _ (.run _ _ (_::_) _ _::_) _ _ _;first|refine rg rfl rfl rfl (Val.nilc rfl) rfl rfl rfl rfl rfl ?_|refine rg rfl rfl rfl (Val.load rfl (fun hg=>(fun w hw=>hat w (rdAll w hw)))) rfl rfl rfl rfl rfl ?_)|fail)
   have h9:((p+((m.take (s+1)).map (stpL (lens l))).sum:Nat):Int)=((p+((m.take s).map (stpL (lens l))).sum:Nat):Int)+(stpL (lens l) u:Nat):=by rw [htk,List.map_append,List.sum_append];simp;omega
   have hgl:(lens l).getD u 0=t.n:=by rw [List.getD_eq_getElem?_getD,lens_get ht];rfl
   have h10:possM (lens l) (atL (lens l) p) (m.take (s+1))=(possM (lens l) (atL (lens l) p) (m.take s) && decide ((((atL (lens l) p).getD u 0:Nat):Int)<(t.n:Nat))):=by
    rw [htk,possM_snoc,hgl,decide_eq_decide.2 (show (atL (lens l) p).getD u 0<t.n↔(((atL (lens l) p).getD u 0:Nat):Int)<(t.n:Nat) by omega)]
   refine T_backX (s+1) (by omega) (by omega) (hE:=⟨rfl,by rw [h9];rfl,by rw [h10];rfl,trivial⟩) (hG:=?_)
   rw [htk,colMv_snoc,List.map_set,show 0+(u:Int).toNat * 1=u by omega]
   exact Hle.refl _
  ·simp only [decide_eq_false_iff_not] at h5
   obtain rfl:s=m.length:=by omega
   rw [List.take_length]
   have hnm:p+(m.map (stpL (lens l))).sum=numL (lens l) (toM (atL (lens l) p) m):=by rw [toM_num _ _ _ hvl (fun s hs=>by rw [hvl,hll,hn];exact hmo.lt m hmm s hs),num_at _ _ hp]
   have hct:colMv (atL (lens l) p) m (List.replicate n (-1))=colT (atL (lens l) p) m:=by unfold colT;rw [hvl,hll,hn]
   rw [hnm,hct]
   cases hpo:possM (lens l) (atL (lens l) p) m with
   | true =>
    have hpg:=posL_get hm hpo
    have hy:=posL_yes hm hpo
    repeat' (first|refine d1 ?_|(show T _ (.ops _ (_::_)::_) _ _ _;refine T_op (OpT.yieldO [row 3 1 (some ⟨bz,0,none⟩) n n ((colT (atL (lens l) p) m).map (Value.int .i64))] [blk p5 (atV (atL (lens l) p)) 121,blk p2 [.int .i64 (p:Nat)] 3,blk p3 [.slice (some ⟨b,o,none⟩) (mvL n).length cm] 24,blk p1 [.pointer (some ⟨pg,0,none⟩)] 117,blk pg (gridL A n ca (lens l) 0) 123,fz pm] hY rfl rfl (Holds.of1 rfl rfl rfl) rfl rfl rfl (List.getElem?_eq_some_iff.1 hpg).1 ⟨m,bz,hpg,rfl,rfl⟩ hG (Hle.comm [_,_,_,_,_,_,_] H1) (fun H2 hG2=>?_) (fun Y hX=>?_)))|fail)
    ·show T _ _ _ _ (blk p5 (atV (atL (lens l) p)) 121::blk p2 [.int .i64 (p:Nat)] 3::blk p3 [.slice (some ⟨b,o,none⟩) (mvL n).length cm] 24::blk p1 [.pointer (some ⟨pg,0,none⟩)] 117::blk pg (gridL A n ca (lens l) 0) 123::fz pm::H2)
     skip
     refine T_if rfl (fun h3=>by exfalso;simp at h3) (fun _=>?_)
     repeat' (first|refine d1 ?_|fail)
     exact T_backX (i+1,H2) ⟨by dsimp only;omega,by dsimp only;rw [hy,List.length_append];exact hG2⟩ (by dsimp only;omega)
    ·show T _ _ _ _ (blk p5 (atV (atL (lens l) p)) 121::blk p2 [.int .i64 (p:Nat)] 3::blk p3 [.slice (some ⟨b,o,none⟩) (mvL n).length cm] 24::blk p1 [.pointer (some ⟨pg,0,none⟩)] 117::blk pg (gridL A n ca (lens l) 0) 123::fz pm::Y)
     skip
     refine T_if rfl (fun _=>?_) (fun h3=>by exfalso;simp at h3)
     repeat' (first|(show T _ (.code .ret::_) _ _ _;refine T_istop rfl Y hX (Hle.tail _ _)))
   | false =>
    have hy:=posL_no hm hpo
    repeat' (first|refine d1 ?_|(show T _ (.ops _ (_::_)::_) _ _ _;refine T_op (OpT.never (.bool false) rfl (fun hg9=>by have h10:(false:Bool)=true:=hg9.1;cases h10) rfl rfl rfl rfl rfl ?_))|fail)
    refine T_if rfl (fun h3=>by exfalso;simp at h3) (fun _=>?_)
    repeat' (first|refine d1 ?_|fail)
    exact T_backX (i+1,H1) ⟨by dsimp only;omega,by dsimp only;rw [hy];exact hG⟩ (by dsimp only;omega) (hG:=Hle.tail _ _)
 ·simp only [decide_eq_false_iff_not] at h
  obtain rfl:i=(mvL n).length:=by omega
  rw [List.take_length] at hG
  skip
  exact T_ifall rfl H1 hG (Hle.tail _ _)
end Go.Proofs.YtefieebkankfoaaGreatDoor
namespace Go.Proofs.YtefieebkankfoaaGreatDoor
open Go.RowKit Go.Shelf Go.Proofs
set_option maxRecDepth 100000
set_option maxHeartbeats 1000000

theorem colT_ok {l:List TS} {v m:List Nat} (hv:v.length=l.length) (hm:∀ s∈m,s<l.length) (hp:possM (lens l) v m=true):ColOk l (colT v m):=by
 refine ⟨by rw [colT_len,hv],fun j z s hz hs=>?_⟩
 have hj:j<v.length:=by rw [hv];exact (List.getElem?_eq_some_iff.1 hs).1
 have h1:=colT_get (v:=v) (m:=m) hj
 rw [List.getD_eq_getElem?_getD,hz] at h1
 have h1':z=if j∈m then ((v.getD j 0:Nat):Int) else -1:=h1
 by_cases hjm:j∈m
 ·rw [if_pos hjm] at h1'
  have h2:=possM_iff.1 hp j hjm
  rw [show (lens l).getD j 0=s.n by rw [List.getD_eq_getElem?_getD,lens_get hs];rfl] at h2
  omega
 ·rw [if_neg hjm] at h1'
  omega
theorem foldB_ub {p:List Nat→Bool} {f:List Nat→Int} {B:Int} (hf:∀ m,f m≤B):∀ (ms:List (List Nat)) (a:Int),a≤B→foldB p f ms a≤B
 | [],a,h=>h
 | m::ms,a,h=>by
  show foldB p f ms (cond (p m) (bst a (f m)) a)≤B
  refine foldB_ub hf ms _ ?_
  have h1:=hf m
  have h2:=(bst_le (a:=a) (x:=f m)).2
  cases p m with
  | false=>exact h
  | true=>show bst a (f m)≤B;omega
theorem rsM_ub {K:List Int→Int} {B:Int} (h0:0≤B) (hK:∀ x,K x≤B) (ls:List Nat) (Ms:List (List Nat)):∀ f v,rsM K ls Ms f v≤B * f
 | 0,v=>by unfold rsM;simp
 | f+1,v=>by
  have h1:0≤B * (f+1:Nat):=Int.mul_nonneg h0 (by omega)
  have h2:=foldB_ub (p:=possM ls v) (f:=fun m=>K (colT v m)+rsM K ls Ms f (toM v m)) (B:=B * (f+1:Nat)) (fun m=>by
   have h3:=hK (colT v m)
   have h4:=rsM_ub h0 hK ls Ms f (toM v m)
   have h5:B * ((f+1:Nat):Int)=B * f+B:=by rw [show ((f+1:Nat):Int)=(f:Int)+1 by omega,Int.mul_add,Int.mul_one]
   omega) Ms (-1) (by omega)
  unfold rsM
  omega
theorem sumL_lens {l:List TS} (h:∀ t∈l,t.n≤1000):sumL (lens l)≤1000 * l.length:=by
 induction l with
 | nil=>exact Nat.zero_le _
 | cons t l ih =>
  have h1:=h t (.head _)
  have h2:=ih fun x hx=>h x (.tail _ hx)
  show t.n+sumL (lens l)≤_
  rw [List.length_cons]
  omega
theorem rsV_ub {c:Costs} (hc:costE c=0) {l:List TS} (h4:l.length≤4) (hb:∀ t∈l,t.n≤1000) (v:List Nat) (Ms:List (List Nat)):0≤rsV (colZ c l) (lens l) Ms v∧rsV (colZ c l) (lens l) Ms v≤4096000000:=by
 refine ⟨rsV_nn _ _ _ _,?_⟩
 unfold rsV
 have h1:=rsM_ub (K:=colZ c l) (B:=1024000) (by omega) (fun x=>(colZ_bd hc (by omega) x).2) (lens l) Ms (sumL (lens l) - sumL v) v
 have h2:=sumL_lens hb
 omega
theorem foldB_posL {ls v:List Nat} {f:List Nat→Int}:∀ (Ms:List (List Nat)) (a:Int),foldB (possM ls v) f (posL ls v Ms) a=foldB (possM ls v) f Ms a
 | [],a=>rfl
 | m::Ms,a=>by
  unfold posL
  rw [List.filter_cons]
  cases hp:possM ls v m with
  | true =>
   show foldB _ _ (posL ls v Ms) (cond (possM ls v m) _ _)=foldB _ _ Ms (cond (possM ls v m) _ _)
   exact foldB_posL Ms _
  | false =>
   show foldB _ _ (posL ls v Ms) a=foldB _ _ Ms (cond (possM ls v m) _ _)
   rw [hp]
   exact foldB_posL Ms _
theorem posL_mem {ls v m:List Nat} {Ms:List (List Nat)} (h:m∈posL ls v Ms):m∈Ms∧possM ls v m=true:=List.mem_filter.1 h
theorem find_posL {K:List Int→Int} {ls v:List Nat}:∀ Ms Ns:List (List Nat),(posL ls v Ms).find? (fitM K ls Ns v)=Ms.find? (fitM K ls Ns v)
 | [],Ns=>rfl
 | m::Ms,Ns=>by
  unfold posL
  rw [List.filter_cons,List.find?_cons (a:=m)]
  cases hp:possM ls v m with
  | true =>
   show List.find? _ (m::posL ls v Ms)=_
   rw [List.find?_cons,find_posL Ms Ns]
  | false =>
   have hf:fitM K ls Ns v m=false:=by unfold fitM;rw [hp];rfl
   show List.find? _ (posL ls v Ms)=_
   rw [hf,find_posL Ms Ns]
end Go.Proofs.YtefieebkankfoaaGreatDoor
namespace Go.Proofs.YtefieebkankfoaaGreatDoor
open Go.RowKit Go.Shelf Go.Proofs
set_option maxRecDepth 100000
set_option maxHeartbeats 1000000

def aln19 (c:Costs) (l:List TS):List (List Int) × Int × Int :=
 if usV c l≠0 then ([],0,usV c l) else if 4<l.length∨65536<volL (lens l) then ([],0,4) else (alnW c l,lstV c l,0)
theorem usV_ok {c:Costs} {l:List TS} (h:usV c l=0):1≤l.length∧costE c=0∧badS l=false:=by
 unfold usV at h
 by_cases h1:l.length=0
 ·rw [if_pos h1] at h;omega
 ·rw [if_neg h1] at h
  unfold ck21 at h
  by_cases h2:costE c=0∧badS l=false
  ·exact⟨by omega,h2⟩
  ·rw [if_neg h2] at h;omega
theorem rdAt {w:World} {b:Nat} {L:List Int} (h:RdC w b 0 (L.map (Value.int .i64))) {q off:Nat} {z:Int} (ho:off=q) (hz:L[q]?=some z):RdC w b off [.int .i64 z]:=by
 subst ho
 refine RdC.one ?_
 have:=h off _ (by rw [List.getElem?_map,hz];rfl)
 rw [Nat.zero_add] at this
 exact this
theorem stp_pos {ls m:List Nat} (h:m≠[]) (hm:∀ s∈m,s<ls.length):0<(m.map (stpL ls)).sum:=by
 cases m with
 | nil=>exact absurd rfl h
 | cons s m =>
  have:=stpL_pos (hm s (.head _))
  rw [List.map_cons,List.sum_cons];omega
theorem numL_zero:∀ (ls:List Nat) (n:Nat),numL ls (List.replicate n 0)=0
 | [],n=>by cases n <;> rfl
 | _::ls,0=>rfl
 | _::ls,n+1=>by
  show 0 * _+numL ls (List.replicate n 0)=0
  rw [numL_zero ls n];simp
theorem align19_spec (c:Costs) (A:Option Addr) (n ca:Nat) (l:List TS) (w:World) (hg:Grp w A n l) :
  Spec Tryz.prog 48 [c.val, .slice A n ca] w (fun v R=>∃ x:Value,True∧v = .tuple #[x, .int .i64 (aln19 c l).2.1, .int .i64 (aln19 c l).2.2]∧R=[dat [x] [rowsD (aln19 c l).1]]):=by
 have hn:=hg.hn
 have hll:=lens_len l
 have hb:=hg.hb
 refine spec_of sg Tryz.func48 rfl rfl rfl ?_
 refine T_op (OpT.box (cs:=c.cells) rfl rfl rfl rfl rfl rfl rfl (fun pc=>?_))
 refine T_op (OpT.box (cs:=[.slice A n ca]) rfl rfl rfl rfl rfl rfl rfl (fun pl=>?_))
 repeat' (first|refine d1 ?_|(show T _ (.ops _ (_::_)::_) _ _ _;refine T_call rfl rfl rfl rfl rfl (fun w hw=>usable19_spec c A n ca l w (hg.cls hw)) ?_)|fail)
 refine T_if rfl (fun h=>?_) (fun h=>?_)
 ·have h0:usV c l≠0:=by simpa using h
  unfold aln19
  rw [if_pos h0]
  repeat' (first|refine d1 ?_|(show T _ (.code .ret::_) _ _ _;refine T_retV _ rfl (nilC _ |>.trans (Hle.nth 0 rfl)) ⟨_,trivial,rfl,rfl⟩))
 have h0:usV c l=0:=by simpa using h
 obtain⟨h1,hc,hbs⟩:=usV_ok h0
 repeat' (first|refine d1 ?_|fail)
 refine T_callC rfl rfl rfl rfl rfl rfl rfl (fun _ w hw=>size19_spec A n ca l 65536 w (hg.cls hw) ⟨by omega,by omega⟩) ?_
 repeat' (first|refine d1 ?_|fail)
 refine T_if rfl (fun h2=>?_) (fun h2=>?_)
 ·have hbig:4<l.length∨65536<volL (lens l):=by
   unfold capV at h2
   simp only [Bool.or_eq_true,decide_eq_true_eq] at h2
   split at h2 <;> omega
  unfold aln19
  rw [if_neg (by simpa using h0),if_pos hbig]
  repeat' (first|refine d1 ?_|(show T _ (.code .ret::_) _ _ _;refine T_retV _ rfl (nilC _ |>.trans (Hle.nth 0 rfl)) ⟨_,trivial,rfl,rfl⟩))
 have hsm:l.length≤4∧volL (lens l)≤65536:=by
  unfold capV at h2
  simp only [Bool.or_eq_false_iff,decide_eq_false_iff_not] at h2
  split at h2 <;> omega
 have h4:n≤4:=by omega
 have hv:=hsm.2
 have hv0:volL ((lens l).drop 0)≤65536:=hv
 have ha:aln19 c l=(alnW c l,lstV c l,0):=by
  unfold aln19
  rw [if_neg (by simpa using h0),if_neg (by omega)]
 rw [ha]
 refine rsH [blk pl [.slice A n ca] 23,blk pc c.cells 51] 1000 [0,2,3,1,4,5,6] ?_
 repeat' (first|refine dd ?_|(show T _ (.run _ _ (_::_) _ _::_) _ _ _;refine ro rfl rfl (OpT.call rfl rfl rfl rfl rfl (fun w hw=>newGrid_spec A n ca l w (hg.cls hw) h4 hv) (fun u R hR=>?_)))|fail)
 obtain⟨pg,-,rfl,rfl⟩:=hR
 refine ⟨fun _=>Hle.tail _ _,?_⟩
 show T _ _ _ _ (blk pg (gridL A n ca (lens l) 0) 123::blk pl [.slice A n ca] 23::blk pc c.cells 51::[])
 repeat' (first|(show T _ (.run _ _ (_::_) _ _::_) _ _ _;refine ro rfl rfl (OpT.call rfl rfl rfl rfl rfl (fun w hw=>moves19_spec (n:Int) w) (fun xm R hR=>?_)))|fail)
 obtain⟨_,-,rfl,rfl⟩:=hR
 refine ⟨fun _=>(Hle.tail _ _).trans (Hle.tail _ _),?_⟩
 show T _ _ _ _ (dat [xm] [rowsD ((mvL n).map intN)]::blk pg (gridL A n ca (lens l) 0) 123::blk pl [.slice A n ca] 23::blk pc c.cells 51::[])
 refine T_open fun pm hM=>?_
 obtain⟨Am,cm,csm,rfl,-⟩:=hM.tab
 rw [List.length_map] at hM ⊢
 repeat' (first|refine d1 ?_|refine dd ?_|(show T _ (.ops _ (_::_)::_) _ _ _;first|refine T_val rfl (Val.nilc rfl) rfl rfl rfl ?_|refine T_op (OpT.make rfl rfl rfl rfl rfl rfl rfl rfl rfl (by dsimp only;omega) (fun b1=>?_)))|(show ∀ _:Nat,T _ _ _ _ _;intro _))
 rename_i p10 p11
 obtain⟨V,hV⟩:∃ V,V=volL (lens l):=⟨_,rfl⟩
 have hVd:volL ((lens l).drop 0)=V:=hV.symm
 have hVp:0<V:=by rw [hV];exact volL_pos _
 rw [hVd]
 have hall:=num_all (lens l)
 rw [← hV] at hall hv
 have hself:=at_num (InB.self (lens l))
 have hno:=mvL_ok (show 1≤n by omega) h4
 have hn4:l.length≤4:=by omega
 have hlsn:(lens l).length=n:=by omega
 obtain⟨F,hF⟩:∃ F:Nat→Int,F=fun q=>rsV (colZ c l) (lens l) (mvL n) (atL (lens l) q):=⟨_,rfl⟩
 have hFb:∀ q,0≤F q∧F q≤4096000000:=fun q=>by rw [hF];exact rsV_ub hc hn4 hg.nb _ _
 refine T_keep [(2, .pointer (some ⟨pc,0,none⟩)),(3, .pointer (some ⟨pl,0,none⟩)),(8, .pointer (some ⟨pg,0,none⟩)),(9, .slice Am (mvL n).length cm),(10, .pointer (some ⟨p10,0,none⟩)),(11, .pointer (some ⟨p11,0,none⟩))] ⟨rfl,rfl,rfl,rfl,rfl,rfl,trivial⟩ ?_
 refine T_le (H':=blk p11 [.int .i64 (((V - 1:Nat):Int) - 1)] 3::blk p10 [.slice (some ⟨b1,0,none⟩) V V] 29::blk b1 ((List.replicate V 0).map (Value.int .i64)) 3::fz pm::blk pg (gridL A n ca (lens l) 0) 123::blk pl [.slice A n ca] 23::blk pc c.cells 51::[]) ?_ ?_
 ·rw [show ((V - 1:Nat):Int) - 1=(V:Int) - 2 by omega,List.map_replicate]
  exact Hle.refl _
 show T (FC _ _ (([]:List Nat).map mkD) _ _ _) _ _ _ _
 refine T_loopDX (fun s:Nat × Nat × List Int × List Nat=>[(11, .pointer (some ⟨s.2.1,0,none⟩))]) (fun s=>blk s.2.1 [.int .i64 ((s.1:Int) - 1)] 3::blk p10 [.slice (some ⟨b1,0,none⟩) V V] 29::blk b1 ((s.2.2.1).map (Value.int .i64)) 3::fz pm::blk pg (gridL A n ca (lens l) 0) 123::blk pl [.slice A n ca] 23::blk pc c.cells 51::[]) (fun s=>s.2.2.2) (fun s=>s.1≤V - 1∧s.2.2.1.length=V∧∀ q,s.1≤q→q<V→s.2.2.1[q]?=some (F q)) (fun s=>s.1) (V - 1,p11,List.replicate V 0,[]) ⟨Nat.le_refl _,by simp,fun q h5 h6=>?_⟩ rfl ?_
 ·dsimp only at h5
  rw [show q=V - 1 by omega,hF]
  dsimp only
  rw [show V - 1=numL (lens l) (lens l) by omega,hself,rsV_end,List.getElem?_replicate,if_pos (by omega)]
 rintro⟨r,q11,L,Dl⟩ ⟨hr,hL,hLF⟩
 dsimp only at hr hL hLF ⊢
 refine T_le (H':=blk q11 [.int .i64 ((r:Int) - 1)] 3::blk p10 [.slice (some ⟨b1,0,none⟩) V V] 29::blk b1 ((L).map (Value.int .i64)) 3::fz pm::blk pg (gridL A n ca (lens l) 0) 123::blk pl [.slice A n ca] 23::blk pc c.cells 51::dfrs Dl) (Hle.refl _) ?_
 have hLm:(L.map (Value.int .i64)).length=V:=by rw [List.length_map,hL]
 rcases r with _|p
 ·repeat' (first|refine d1 ?_|fail)
  refine T_if rfl (fun h5=>by exfalso;simp at h5) (fun _=>?_)
  repeat' (first|refine d1 ?_|(show ∀ _:Nat,T _ _ _ _ _;intro _))
  rename_i p15 p16
  have hz0:numL (lens l) (List.replicate n 0)=0:=numL_zero _ _
  refine T_keep [(2, .pointer (some ⟨pc,0,none⟩)),(3, .pointer (some ⟨pl,0,none⟩)),(8, .pointer (some ⟨pg,0,none⟩)),(9, .slice Am (mvL n).length cm),(10, .pointer (some ⟨p10,0,none⟩)),(15, .pointer (some ⟨p15,0,none⟩)),(16, .pointer (some ⟨p16,0,none⟩))] ⟨rfl,rfl,rfl,rfl,rfl,rfl,rfl,trivial⟩ ?_
  refine T_le (H':=blk p16 [.int .i64 ((0:Nat):Int)] 3::blk p15 [.slice none 0 0] 24::blk p10 [.slice (some ⟨b1,0,none⟩) V V] 29::blk b1 (L.map (Value.int .i64)) 3::fz pm::blk pg (gridL A n ca (lens l) 0) 123::blk pl [.slice A n ca] 23::blk pc c.cells 51::dfrs Dl) (Hle.drop3 _ _ _ _) ?_
  refine T_le (dat_nil _) ?_
  refine T_nilrow 29 1 ?_
  refine T_loopDX (fun s:List Nat × Nat × (Option Addr × Nat) × List Value × List (List Int) × List Nat=>[(16, .pointer (some ⟨s.2.1,0,none⟩))]) (fun s=>blk s.2.1 [.int .i64 (numL (lens l) s.1:Nat)] 3::blk p15 [.slice s.2.2.1.1 s.2.2.2.2.1.length s.2.2.1.2] 24::row 29 1 s.2.2.1.1 s.2.2.1.2 s.2.2.2.2.1.length s.2.2.2.1::dat s.2.2.2.1 (s.2.2.2.2.1.map intsD)::blk p10 [.slice (some ⟨b1,0,none⟩) V V] 29::blk b1 (L.map (Value.int .i64)) 3::fz pm::blk pg (gridL A n ca (lens l) 0) 123::blk pl [.slice A n ca] 23::blk pc c.cells 51::[]) (fun s=>s.2.2.2.2.2) (fun s=>InB (lens l) s.1∧s.2.2.2.2.1.length≤sumL s.1∧alnW c l=s.2.2.2.2.1++(alV19 (colZ c l) (lens l) (mvL n) s.1)) (fun s=>sumL (lens l) - sumL s.1) (List.replicate n 0,p16,(none,0),[],[],Dl) ⟨by rw [← hlsn];exact InB.zero _,Nat.zero_le _,by dsimp only;rw [List.nil_append, ← hn];rfl⟩ rfl ?_ (hG:=by dsimp only;rw [hz0];exact Hle.srtT (A:=[row 29 1 none 0 0 [],dat [] [],blk p16 [.int .i64 ((0:Nat):Int)] 3,blk p15 [.slice none 0 0] 24,blk p10 [.slice (some ⟨b1,0,none⟩) V V] 29,blk b1 (L.map (Value.int .i64)) 3,fz pm,blk pg (gridL A n ca (lens l) 0) 123,blk pl [.slice A n ca] 23,blk pc c.cells 51]) (K:=[blk p16 [.int .i64 ((0:Nat):Int)] 3,blk p15 [.slice none 0 0] 24,row 29 1 none 0 0 [],dat [] [],blk p10 [.slice (some ⟨b1,0,none⟩) V V] 29,blk b1 (L.map (Value.int .i64)) 3,fz pm,blk pg (gridL A n ca (lens l) 0) 123,blk pl [.slice A n ca] 23,blk pc c.cells 51]) (dfrs Dl))
  rintro⟨v,q16,⟨Ao,capo⟩,hs,out,Dl⟩ ⟨hvi,hol,hout⟩
  dsimp only at hvi hol hout ⊢
  obtain⟨p,hp⟩:∃ p,p=numL (lens l) v:=⟨_,rfl⟩
  have hat:=at_num hvi
  have hpl:=numL_lt hvi
  rw [← hp] at hat hpl ⊢
  rw [← hV] at hpl
  refine T_le (H':=blk q16 [.int .i64 (p:Nat)] 3::blk p15 [.slice Ao out.length capo] 24::row 29 1 Ao capo out.length hs::dat hs (out.map intsD)::blk p10 [.slice (some ⟨b1,0,none⟩) V V] 29::blk b1 (L.map (Value.int .i64)) 3::fz pm::blk pg (gridL A n ca (lens l) 0) 123::blk pl [.slice A n ca] 23::blk pc c.cells 51::dfrs Dl) (Hle.refl _) ?_
  have hg5:∀ w,RdC w pg 0 (gridL A n ca (lens l) 0)→RdC w pg (0+5) [.int .i64 (V:Nat)]:=fun w h9=>RdC.one (by have:=h9 5 _ (show (gridL A n ca (lens l) 0)[5]?=some (.int .i64 (V:Nat)) by rw [hV];rfl);exact this)
  repeat' (first|refine dd ?_|(show T _ (.run _ _ (_::_) _ _::_) _ _ _;refine rv rfl rfl rfl (Val.nilc rfl) rfl rfl rfl ?_)|fail)
  refine T_if rfl (fun h5=>?_) (fun h5=>?_)
  ·have hpV:p+1<V:=by simp at h5;omega
   obtain rfl:v=atL (lens l) p:=hat.symm
   repeat' (first|refine d1 ?_|(show T _ (.ops _ (_::_)::_) _ _ _;refine T_op (OpT.call rfl rfl rfl rfl rfl (fun w hw=>moves19_fn pg p Am (mvL n).length cm w) (fun u R hR=>?_)))|fail)
   obtain⟨⟨g1,g2,g3⟩,-,rfl,rfl⟩:=hR
   have hvl:(atL (lens l) p).length=l.length:=by rw [atL_len,hll]
   have hne:(atL (lens l) p)≠lens l:=fun e=>by rw [e] at hp;omega
   have hsub:=sumL_le hvi
   have hlen4:=sumL_lens hg.nb
   refine T_rangeO (moves_iter hg (by omega) h4 (by omega) (p:=p) (by omega) pg g1 g2 g3 hM) rfl (fun j x B hj hQ=>by obtain⟨m,b,_,rfl,_⟩:=hQ;exact⟨rfl,rfl⟩)
    (fun jj H=>H=blk q16 [.int .i64 (p:Nat)] 3::blk p15 [.slice Ao out.length capo] 24::row 29 1 Ao capo out.length hs::dat hs (out.map intsD)::blk p10 [.slice (some ⟨b1,0,none⟩) V V] 29::blk b1 (L.map (Value.int .i64)) 3::blk pl [.slice A n ca] 23::blk pc c.cells 51::dfrs Dl∧∀ j' y,j'<jj→(posL (lens l) (atL (lens l) p) (mvL n))[j']?=some y→fitM (colZ c l) (lens l) (mvL n) (atL (lens l) p) y=false) (fun _=>False)
    (fun id H=>id=6∧∃ (m:List Nat) (x:Option Addr × Nat × Value),(mvL n).find? (fitM (colZ c l) (lens l) (mvL n) (atL (lens l) p))=some m∧H=blk q16 [.int .i64 ((numL (lens l) (toM (atL (lens l) p) m)):Nat)] 3::blk p15 [.slice x.1 (out.length+1) x.2.1] 24::row 29 1 x.1 x.2.1 (out.length+1) (hs++[x.2.2])::dat (hs++[x.2.2]) ((out++[colT (atL (lens l) p) m]).map intsD)::blk p10 [.slice (some ⟨b1,0,none⟩) V V] 29::blk b1 (L.map (Value.int .i64)) 3::blk pl [.slice A n ca] 23::blk pc c.cells 51::dfrs Dl) (blk q16 [.int .i64 (p:Nat)] 3::blk p15 [.slice Ao out.length capo] 24::row 29 1 Ao capo out.length hs::dat hs (out.map intsD)::blk p10 [.slice (some ⟨b1,0,none⟩) V V] 29::blk b1 (L.map (Value.int .i64)) 3::blk pl [.slice A n ca] 23::blk pc c.cells 51::dfrs Dl) ⟨rfl,fun _ _ h=>by omega⟩
    (Hle.srtT (A:=[blk g2 [.int .i64 (p:Nat)] 3,blk g3 [.slice Am (mvL n).length cm] 24,blk g1 [.pointer (some ⟨pg,0,none⟩)] 117,blk q16 [.int .i64 (p:Nat)] 3,blk p15 [.slice Ao out.length capo] 24,row 29 1 Ao capo out.length hs,dat hs (out.map intsD),blk p10 [.slice (some ⟨b1,0,none⟩) V V] 29,blk b1 (L.map (Value.int .i64)) 3,fz pm,blk pg (gridL A n ca (lens l) 0) 123,blk pl [.slice A n ca] 23,blk pc c.cells 51]) (K:=[blk g2 [.int .i64 (p:Nat)] 3,blk g3 [.slice Am (mvL n).length cm] 24,blk g1 [.pointer (some ⟨pg,0,none⟩)] 117,blk pg (gridL A n ca (lens l) 0) 123,fz pm,blk q16 [.int .i64 (p:Nat)] 3,blk p15 [.slice Ao out.length capo] 24,row 29 1 Ao capo out.length hs,dat hs (out.map intsD),blk p10 [.slice (some ⟨b1,0,none⟩) V V] 29,blk b1 (L.map (Value.int .i64)) 3,blk pl [.slice A n ca] 23,blk pc c.cells 51]) (dfrs Dl)) ?_ ?_ (fun _ _ h=>h.elim) ?_
   ·rintro Lp r5 jj x B Hj K2 hr5 hj hQ ⟨rfl,hnf⟩
    obtain⟨m,b,hm,rfl,rfl⟩:=hQ
    obtain⟨hmm,hpo⟩:=posL_mem (List.mem_of_getElem? hm)
    have hti:=(toM_rem hno hlsn hvi hmm hpo).1
    have hqV:=numL_lt hti
    rw [← hV] at hqV
    have hFq:F (numL (lens l) (toM (atL (lens l) p) m))=rsV (colZ c l) (lens l) (mvL n) (toM (atL (lens l) p) m):=by rw [hF];dsimp only;rw [at_num hti]
    have hFp:F p=rsV (colZ c l) (lens l) (mvL n) (atL (lens l) p):=by rw [hF]
    have hfit:fitM (colZ c l) (lens l) (mvL n) (atL (lens l) p) m=decide (colZ c l (colT (atL (lens l) p) m)+F (numL (lens l) (toM (atL (lens l) p) m))=F p):=by
     rw [hFq,hFp]
     unfold fitM
     rw [hpo,Bool.true_and];rfl
    obtain⟨q,hq⟩:∃ q,q=(numL (lens l) (toM (atL (lens l) p) m)):=⟨_,rfl⟩
    rw [← hq] at hqV hfit
    show T _ _ ((100, .int .i64 ((numL (lens l) (toM (atL (lens l) p) m)):Nat))::(99, .slice (some ⟨b,0,none⟩) n n)::_) _ (lrec Lp r5::blk q16 [.int .i64 (p:Nat)] 3::blk p15 [.slice Ao out.length capo] 24::row 29 1 Ao capo out.length hs::dat hs (out.map intsD)::blk p10 [.slice (some ⟨b1,0,none⟩) V V] 29::blk b1 (L.map (Value.int .i64)) 3::blk pl [.slice A n ca] 23::blk pc c.cells 51::(dfrs Dl++(row 3 1 (some ⟨b,0,none⟩) n n ((colT (atL (lens l) p) m).map (Value.int .i64))::K2)))
    rw [← hq]
    repeat' (first|refine d1 ?_|(show T _ _ _ _ _;refine T_begin hr5 rfl ?_))
    refine T_le (H':=row 3 1 (some ⟨b,0,none⟩) n n ((colT (atL (lens l) p) m).map (Value.int .i64))::lrec Lp (busy r5)::blk q16 [.int .i64 (p:Nat)] 3::blk p15 [.slice Ao out.length capo] 24::row 29 1 Ao capo out.length hs::dat hs (out.map intsD)::blk p10 [.slice (some ⟨b1,0,none⟩) V V] 29::blk b1 (L.map (Value.int .i64)) 3::blk pl [.slice A n ca] 23::blk pc c.cells 51::(dfrs Dl++K2)) (Hle.perm (List.perm_middle (l₁:=lrec Lp (busy r5)::blk q16 [.int .i64 (p:Nat)] 3::blk p15 [.slice Ao out.length capo] 24::row 29 1 Ao capo out.length hs::dat hs (out.map intsD)::blk p10 [.slice (some ⟨b1,0,none⟩) V V] 29::blk b1 (L.map (Value.int .i64)) 3::blk pl [.slice A n ca] 23::blk pc c.cells 51::dfrs Dl) (l₂:=K2))) ?_
    have hcq:∀ w,RdC w b1 0 (L.map (Value.int .i64))→RdC w b1 (0+(q:Int).toNat * 1) [.int .i64 (F q)]:=fun w h9=>rdAt h9 (by omega) (hLF q (by omega) (by omega))
    have hcp:∀ w,RdC w b1 0 (L.map (Value.int .i64))→RdC w b1 (0+(p:Int).toNat * 1) [.int .i64 (F p)]:=fun w h9=>rdAt h9 (by omega) (hLF p (by omega) (by omega))
    have hKb:=colZ_bd hc (show l.length≤32 by omega) (colT (atL (lens l) p) m)
    have hFq2:=hFb q
    refine rsH [row 3 1 (some ⟨b,0,none⟩) n n ((colT (atL (lens l) p) m).map (Value.int .i64)),lrec Lp (busy r5),blk q16 [.int .i64 (p:Nat)] 3,blk p15 [.slice Ao out.length capo] 24,row 29 1 Ao capo out.length hs,dat hs (out.map intsD),blk p10 [.slice (some ⟨b1,0,none⟩) V V] 29,blk b1 (L.map (Value.int .i64)) 3,blk pl [.slice A n ca] 23,blk pc c.cells 51] 1000 [0,1,2,4,5,6,7,9,10,11,12,3,8,13] ?_
    repeat' (first|refine dd ?_|(show T _ (.run _ _ (_::_) _ _::_) _ _ _;first|refine rc rfl rfl rfl rfl rfl rfl rfl (fun w hw=>cost19_spec c A (some ⟨b,0,none⟩) n ca n l (colT (atL (lens l) p) m) w (hg.cls hw) hc hbs (srcRw w hw) (colT_ok hvl (fun s hs=>by rw [hn];exact hno.lt m hmm s hs) hpo)) ?_|refine rv rfl rfl rfl (Val.load rfl (fun hg=>(fun w hw=>hcq w (rdAll w hw)))) rfl rfl rfl ?_|refine rv rfl rfl rfl (Val.load rfl (fun hg=>(fun w hw=>hcp w (rdAll w hw)))) rfl rfl rfl ?_)|fail)
    refine T_if rfl (fun h6=>?_) (fun h6=>?_)
    ·rw [h6] at hfit
     have hf:(mvL n).find? (fitM (colZ c l) (lens l) (mvL n) (atL (lens l) p))=some m:=by rw [← find_posL];exact find_at hm hfit hnf
     have hov:out.length≤200000:=by omega
     repeat' (first|refine d1 ?_|(show T _ (.ops _ (_::_)::_) _ _ _;refine T_op (OpT.append rfl rfl rfl rfl rfl rfl rfl rfl rfl rfl (fun w hw=>Src.own hw rfl) rfl (by dsimp only;omega) (by omega) (fun A' cap' hA'=>?_)))|(show ∀ _:Nat,T _ _ _ _ _;intro _))
     rename_i blit2
     show T _ (.code (.exit 6)::_) _ _ _
     refine T_rexit (id:=6) (blk q16 [.int .i64 ((numL (lens l) (toM (atL (lens l) p) m)):Nat)] 3::blk p15 [.slice A' (out.length+1) cap'] 24::row 29 1 A' cap' (out.length+1) (hs++[(.slice (some ⟨b,0,none⟩) n n)])::dat (hs++[(.slice (some ⟨b,0,none⟩) n n)]) ((out++[colT (atL (lens l) p) m]).map intsD)::blk p10 [.slice (some ⟨b1,0,none⟩) V V] 29::blk b1 (L.map (Value.int .i64)) 3::blk pl [.slice A n ca] 23::blk pc c.cells 51::dfrs Dl) (fun _=>rfl) ⟨rfl,m,(A',cap',(.slice (some ⟨b,0,none⟩) n n)),hf,rfl⟩ ?_
     rw [← hq]
     refine (Hle.srtT (A:=[blk blit2 _ _,row 3 1 (some ⟨b,0,none⟩) n n ((colT (atL (lens l) p) m).map (Value.int .i64)),lrec Lp (busy r5),blk q16 [.int .i64 (q:Nat)] 3,blk p15 [.slice A' (out.length+1) cap'] 24,row 29 1 A' cap' (out.length+1) (hs++[(.slice (some ⟨b,0,none⟩) n n)]),dat hs (out.map intsD),blk p10 [.slice (some ⟨b1,0,none⟩) V V] 29,blk b1 (L.map (Value.int .i64)) 3,blk pl [.slice A n ca] 23,blk pc c.cells 51]) (K:=[row 3 1 (some ⟨b,0,none⟩) n n ((colT (atL (lens l) p) m).map (Value.int .i64)),dat hs (out.map intsD),lrec Lp (busy r5),blk q16 [.int .i64 (q:Nat)] 3,blk p15 [.slice A' (out.length+1) cap'] 24,row 29 1 A' cap' (out.length+1) (hs++[(.slice (some ⟨b,0,none⟩) n n)]),blk p10 [.slice (some ⟨b1,0,none⟩) V V] 29,blk b1 (L.map (Value.int .i64)) 3,blk pl [.slice A n ca] 23,blk pc c.cells 51]) (dfrs Dl++K2)).trans ?_
     refine dat_rowV.trans (dat_join.trans ?_)
     have ej:out.map intsD++[D.s 1 (((colT (atL (lens l) p) m).map (Value.int .i64)).map .v)]=(out++[colT (atL (lens l) p) m]).map intsD:=by
      rw [List.map_append,List.map_map];rfl
     rw [ej]
     exact Hle.perm ((List.perm_append_comm (l₁:=[_]) (l₂:=[_,_,_,_])).append_right (blk p10 [.slice (some ⟨b1,0,none⟩) V V] 29::blk b1 (L.map (Value.int .i64)) 3::blk pl [.slice A n ca] 23::blk pc c.cells 51::(dfrs Dl++K2)))
    ·rw [h6] at hfit
     refine T_next (blk q16 [.int .i64 (p:Nat)] 3::blk p15 [.slice Ao out.length capo] 24::row 29 1 Ao capo out.length hs::dat hs (out.map intsD)::blk p10 [.slice (some ⟨b1,0,none⟩) V V] 29::blk b1 (L.map (Value.int .i64)) 3::blk pl [.slice A n ca] 23::blk pc c.cells 51::dfrs Dl) ⟨rfl,fun j' y hj hy=>?_⟩ (Hle.tail _ _)
     rcases Nat.lt_or_ge j' jj with h7|h7
     ·exact hnf j' y h7 hy
     ·rw [show j'=jj by omega,hm] at hy
      cases hy
      exact hfit
   ·rintro D Hn ⟨rfl,hnf⟩
    exfalso
    obtain⟨m,hf,-⟩:=fit_some (K:=colZ c l) (colZ_nn hc hn4) hno hlsn hvi hne
    rw [← find_posL] at hf
    have h7:=List.find?_some hf
    obtain⟨j',hj',e9⟩:=List.getElem_of_mem (List.mem_of_find?_eq_some hf)
    have h8:=hnf j' m hj' (by rw [List.getElem?_eq_getElem hj',e9])
    rw [h8] at h7;cases h7
   ·rintro D id Hx ⟨rfl,m,⟨A',cap',hv9⟩,hf,rfl⟩
    dsimp only
    have h7:=List.find?_some hf
    unfold fitM at h7
    rw [Bool.and_eq_true] at h7
    obtain⟨hti,hs1,hs2,hs3⟩:=toM_rem hno hlsn hvi (List.mem_of_find?_eq_some hf) h7.1
    have hstep:=alV_step hno hlsn hvi hf
    show T (FC _ _ ((D::Dl).map mkD) _ _ _) _ _ _ (dfr D::blk g2 [.int .i64 (p:Nat)] 3::blk g3 [.slice Am (mvL n).length cm] 24::blk g1 [.pointer (some ⟨pg,0,none⟩)] 117::blk pg (gridL A n ca (lens l) 0) 123::fz pm::blk q16 [.int .i64 ((numL (lens l) (toM (atL (lens l) p) m)):Nat)] 3::blk p15 [.slice A' (out.length+1) cap'] 24::row 29 1 A' cap' (out.length+1) (hs++[hv9])::dat (hs++[hv9]) ((out++[colT (atL (lens l) p) m]).map intsD)::blk p10 [.slice (some ⟨b1,0,none⟩) V V] 29::blk b1 (L.map (Value.int .i64)) 3::blk pl [.slice A n ca] 23::blk pc c.cells 51::dfrs Dl)
    repeat' (first|refine d1 ?_|(show ∀ _:Nat,T _ _ _ _ _;intro _))
    rename_i n16
    show T _ (.mark _::_) _ _ _
    refine T_backD (toM (atL (lens l) p) m,n16,(A',cap'),hs++[hv9],out++[colT (atL (lens l) p) m],D::Dl) ⟨hti,by dsimp only;rw [List.length_append];simp;omega,by dsimp only;rw [hout,hstep,List.append_assoc];rfl⟩ (by dsimp only;omega) rfl (hG:=?_)
    dsimp only
    rw [List.length_append]
    exact Hle.srtT (A:=[blk n16 [.int .i64 ((numL (lens l) (toM (atL (lens l) p) m)):Nat)] 3,dfr D,blk g2 [.int .i64 (p:Nat)] 3,blk g3 [.slice Am (mvL n).length cm] 24,blk g1 [.pointer (some ⟨pg,0,none⟩)] 117,blk pg (gridL A n ca (lens l) 0) 123,fz pm,blk q16 [.int .i64 ((numL (lens l) (toM (atL (lens l) p) m)):Nat)] 3,blk p15 [.slice A' (out.length+1) cap'] 24,row 29 1 A' cap' (out.length+1) (hs++[hv9]),dat (hs++[hv9]) ((out++[colT (atL (lens l) p) m]).map intsD),blk p10 [.slice (some ⟨b1,0,none⟩) V V] 29,blk b1 (L.map (Value.int .i64)) 3,blk pl [.slice A n ca] 23,blk pc c.cells 51]) (K:=[blk n16 [.int .i64 ((numL (lens l) (toM (atL (lens l) p) m)):Nat)] 3,blk p15 [.slice A' (out.length+1) cap'] 24,row 29 1 A' cap' (out.length+1) (hs++[hv9]),dat (hs++[hv9]) ((out++[colT (atL (lens l) p) m]).map intsD),blk p10 [.slice (some ⟨b1,0,none⟩) V V] 29,blk b1 (L.map (Value.int .i64)) 3,fz pm,blk pg (gridL A n ca (lens l) 0) 123,blk pl [.slice A n ca] 23,blk pc c.cells 51,dfr D]) (dfrs Dl)
  ·have hpV:p+1=V:=by simp at h5;omega
   obtain rfl:v=lens l:=by rw [← hat, ← hself];congr 1;omega
   rw [alV_end,List.append_nil] at hout
   subst hout
   have hF0:F 0=lstV c l:=by
    rw [hF]
    dsimp only
    rw [show (0:Nat)=numL (lens l) (List.replicate (lens l).length 0) from (numL_zero _ _).symm,at_num (InB.zero _),hll, ← hn]
    rfl
   have hc0:∀ w,RdC w b1 0 (L.map (Value.int .i64))→RdC w b1 (0+(0:Int).toNat * 1) [.int .i64 (lstV c l)]:=fun w h9=>rdAt (q:=0) h9 (by omega) (by rw [← hF0];exact hLF 0 (Nat.zero_le _) hVp)
   repeat' (first|refine dd ?_|(show T _ (.run _ _ (_::_) _ _::_) _ _ _;refine rv rfl rfl rfl (Val.load rfl (fun hg=>(fun w hw=>hc0 w (rdAll w hw)))) rfl rfl rfl ?_)|fail)
   refine T_retDs [dat [.slice Ao (alnW c l).length capo] [rowsD (alnW c l)]] ?_ (rf_V (vs:=[.slice Ao (alnW c l).length capo, .int .i64 (lstV c l), .int .i64 0]) _ rfl (Hle.refl _) ⟨_,trivial,rfl,rfl⟩)
   refine (Hle.tail _ _).trans ((Hle.tail _ _).trans (dat_row.trans ?_))
   exact Hle.srtT (A:=[dat [.slice Ao (alnW c l).length capo] [.s 1 ((alnW c l).map intsD)],_,_,_,_,_,_]) (K:=[dat [.slice Ao (alnW c l).length capo] [.s 1 ((alnW c l).map intsD)]]) (dfrs Dl)
 ·rw [show ((p+1:Nat):Int) - 1=(p:Nat) by omega]
  repeat' (first|refine d1 ?_|fail)
  refine T_if rfl (fun _=>?_) (fun h5=>by exfalso;simp at h5)
  repeat' (first|refine d1 ?_|(show T _ (.ops _ (_::_)::_) _ _ _;refine T_op (OpT.call rfl rfl rfl rfl rfl (fun w hw=>moves19_fn pg p Am (mvL n).length cm w) (fun u R hR=>?_)))|fail)
  obtain⟨⟨g1,g2,g3⟩,-,rfl,rfl⟩:=hR
  have hpV:p+1<V:=by omega
  have hvi:=atL_in (lens l) p
  have hvl:(atL (lens l) p).length=l.length:=by rw [atL_len,hll]
  have hvn:=num_at (lens l) p (by omega)
  have hne:(atL (lens l) p)≠lens l:=fun e=>by rw [e] at hvn;omega
  have hstep:=rsV_step (K:=colZ c l) (colZ_nn hc hn4) hno hlsn hvi hne
  have hset:(L.map (Value.int .i64)).set (0+(p:Int).toNat * 1) (.int .i64 (-1))=(L.set p (foldB (possM (lens l) (atL (lens l) p)) (mcV (colZ c l) (lens l) (mvL n) (atL (lens l) p)) ((posL (lens l) (atL (lens l) p) (mvL n)).take 0) (-1))).map (Value.int .i64):=by
   rw [List.take_zero,List.map_set,show 0+(p:Int).toNat * 1=p by omega];rfl
  rw [hset]
  refine T_rangeO (moves_iter hg (by omega) h4 (by omega) (p:=p) (by omega) pg g1 g2 g3 hM) rfl (fun j x B hj hQ=>by obtain⟨m,b,_,rfl,_⟩:=hQ;exact⟨rfl,rfl⟩)
   (fun jj H=>H=blk q11 [.int .i64 ((p:Nat))] 3::blk p10 [.slice (some ⟨b1,0,none⟩) V V] 29::blk b1 ((L.set p (foldB (possM (lens l) (atL (lens l) p)) (mcV (colZ c l) (lens l) (mvL n) (atL (lens l) p)) ((posL (lens l) (atL (lens l) p) (mvL n)).take jj) (-1))).map (Value.int .i64)) 3::blk pl [.slice A n ca] 23::blk pc c.cells 51::dfrs Dl) (fun _=>False) (fun _ _=>False) (blk q11 [.int .i64 ((p:Nat))] 3::blk p10 [.slice (some ⟨b1,0,none⟩) V V] 29::blk b1 ((L.set p (foldB (possM (lens l) (atL (lens l) p)) (mcV (colZ c l) (lens l) (mvL n) (atL (lens l) p)) ((posL (lens l) (atL (lens l) p) (mvL n)).take 0) (-1))).map (Value.int .i64)) 3::blk pl [.slice A n ca] 23::blk pc c.cells 51::dfrs Dl) rfl
   (Hle.srtT (A:=[blk g2 [.int .i64 (p:Nat)] 3,blk g3 [.slice Am (mvL n).length cm] 24,blk g1 [.pointer (some ⟨pg,0,none⟩)] 117,blk q11 [.int .i64 ((p:Nat))] 3,blk p10 [.slice (some ⟨b1,0,none⟩) V V] 29,blk b1 ((L.set p (foldB (possM (lens l) (atL (lens l) p)) (mcV (colZ c l) (lens l) (mvL n) (atL (lens l) p)) ((posL (lens l) (atL (lens l) p) (mvL n)).take 0) (-1))).map (Value.int .i64)) 3,fz pm,blk pg (gridL A n ca (lens l) 0) 123,blk pl [.slice A n ca] 23,blk pc c.cells 51]) (K:=[blk g2 [.int .i64 (p:Nat)] 3,blk g3 [.slice Am (mvL n).length cm] 24,blk g1 [.pointer (some ⟨pg,0,none⟩)] 117,blk pg (gridL A n ca (lens l) 0) 123,fz pm,blk q11 [.int .i64 ((p:Nat))] 3,blk p10 [.slice (some ⟨b1,0,none⟩) V V] 29,blk b1 ((L.set p (foldB (possM (lens l) (atL (lens l) p)) (mcV (colZ c l) (lens l) (mvL n) (atL (lens l) p)) ((posL (lens l) (atL (lens l) p) (mvL n)).take 0) (-1))).map (Value.int .i64)) 3,blk pl [.slice A n ca] 23,blk pc c.cells 51]) (dfrs Dl)) ?_ ?_ (fun _ _ h=>h.elim) (fun _ _ _ h=>h.elim)
  ·rintro Lp r5 jj x B Hj K2 hr5 hj hQ rfl
   obtain⟨m,b,hm,rfl,rfl⟩:=hQ
   obtain⟨hmm,hpo⟩:=posL_mem (List.mem_of_getElem? hm)
   have hti:=(toM_rem hno hlsn hvi hmm hpo).1
   have hqV:=numL_lt hti
   rw [← hV] at hqV
   have hqn:=toM_num (lens l) m (atL (lens l) p) (by omega) (fun s hs=>by rw [hvl,hn];exact hno.lt m hmm s hs)
   have hqs:=stp_pos (ls:=lens l) (hno.ne m hmm) (fun s hs=>by rw [hlsn];exact hno.lt m hmm s hs)
   have hFq:F (numL (lens l) (toM (atL (lens l) p) m))=rsV (colZ c l) (lens l) (mvL n) (toM (atL (lens l) p) m):=by rw [hF];dsimp only;rw [at_num hti]
   obtain⟨q,hq⟩:∃ q,q=(numL (lens l) (toM (atL (lens l) p) m)):=⟨_,rfl⟩
   obtain⟨X,hX⟩:∃ X,X=foldB (possM (lens l) (atL (lens l) p)) (mcV (colZ c l) (lens l) (mvL n) (atL (lens l) p)) ((posL (lens l) (atL (lens l) p) (mvL n)).take jj) (-1):=⟨_,rfl⟩
   have hXs:foldB (possM (lens l) (atL (lens l) p)) (mcV (colZ c l) (lens l) (mvL n) (atL (lens l) p)) ((posL (lens l) (atL (lens l) p) (mvL n)).take (jj+1)) (-1)=bst X (colZ c l (colT (atL (lens l) p) m)+F q):=by
    rw [take_snoc _ _ _ hm,foldB_app, ← hX,hq,hFq]
    show cond (possM (lens l) (atL (lens l) p) m) _ _=_
    rw [hpo];rfl
   rw [← hq] at hqV hqn hFq
   show T _ _ ((60, .int .i64 ((numL (lens l) (toM (atL (lens l) p) m)):Nat))::(59, .slice (some ⟨b,0,none⟩) n n)::_) _ (lrec Lp r5::blk q11 [.int .i64 ((p:Nat))] 3::blk p10 [.slice (some ⟨b1,0,none⟩) V V] 29::blk b1 ((L.set p (foldB (possM (lens l) (atL (lens l) p)) (mcV (colZ c l) (lens l) (mvL n) (atL (lens l) p)) ((posL (lens l) (atL (lens l) p) (mvL n)).take jj) (-1))).map (Value.int .i64)) 3::blk pl [.slice A n ca] 23::blk pc c.cells 51::(dfrs Dl++(row 3 1 (some ⟨b,0,none⟩) n n ((colT (atL (lens l) p) m).map (Value.int .i64))::K2)))
   rw [← hX, ← hq]
   repeat' (first|refine d1 ?_|(show T _ _ _ _ _;refine T_begin hr5 rfl ?_))
   refine T_le (H':=row 3 1 (some ⟨b,0,none⟩) n n ((colT (atL (lens l) p) m).map (Value.int .i64))::lrec Lp (busy r5)::blk q11 [.int .i64 ((p:Nat))] 3::blk p10 [.slice (some ⟨b1,0,none⟩) V V] 29::blk b1 ((L.set p X).map (Value.int .i64)) 3::blk pl [.slice A n ca] 23::blk pc c.cells 51::(dfrs Dl++K2)) (Hle.perm (List.perm_middle (l₁:=lrec Lp (busy r5)::blk q11 [.int .i64 ((p:Nat))] 3::blk p10 [.slice (some ⟨b1,0,none⟩) V V] 29::blk b1 ((L.set p X).map (Value.int .i64)) 3::blk pl [.slice A n ca] 23::blk pc c.cells 51::dfrs Dl) (l₂:=K2))) ?_
   have hLq:(L.set p X)[q]?=some (F q):=by rw [List.getElem?_set_ne (by omega)];exact hLF q (by omega) (by omega)
   have hLp:(L.set p X)[p]?=some X:=by rw [List.getElem?_set_self (by omega)]
   have hLl:((L.set p X).map (Value.int .i64)).length=V:=by rw [List.length_map,List.length_set,hL]
   have hcq:∀ w,RdC w b1 0 ((L.set p X).map (Value.int .i64))→RdC w b1 (0+(q:Int).toNat * 1) [.int .i64 (F q)]:=fun w h9=>rdAt h9 (by omega) hLq
   have hcp:∀ w,RdC w b1 0 ((L.set p X).map (Value.int .i64))→RdC w b1 (0+(p:Int).toNat * 1) [.int .i64 X]:=fun w h9=>rdAt h9 (by omega) hLp
   have hKb:=colZ_bd hc (show l.length≤32 by omega) (colT (atL (lens l) p) m)
   have hFq2:=hFb q
   refine rsH [row 3 1 (some ⟨b,0,none⟩) n n ((colT (atL (lens l) p) m).map (Value.int .i64)),lrec Lp (busy r5),blk q11 [.int .i64 ((p:Nat))] 3,blk p10 [.slice (some ⟨b1,0,none⟩) V V] 29,blk b1 ((L.set p X).map (Value.int .i64)) 3,blk pl [.slice A n ca] 23,blk pc c.cells 51] 1000 [0,1,2,4,5,6,7,3,8,9] ?_
   repeat' (first|refine d1 ?_|refine dd ?_|(show T _ (.ops _ (_::_)::_) _ _ _;first|refine T_val rfl (Val.load rfl (fun hg=>(fun w hw=>hcp w (rdAll w hw)))) rfl rfl rfl ?_|refine T_valC rfl (Val.load rfl (fun hg=>(fun w hw=>hcp w (rdAll w hw)))) rfl rfl rfl rfl rfl ?_)|(show T _ (.run _ _ (_::_) _ _::_) _ _ _;first|refine rc rfl rfl rfl rfl rfl rfl rfl (fun w hw=>cost19_spec c A (some ⟨b,0,none⟩) n ca n l (colT (atL (lens l) p) m) w (hg.cls hw) hc hbs (srcRw w hw) (colT_ok hvl (fun s hs=>by rw [hn];exact hno.lt m hmm s hs) hpo)) ?_|refine rv rfl rfl rfl (Val.load rfl (fun hg=>(fun w hw=>hcq w (rdAll w hw)))) rfl rfl rfl ?_)|fail)
   refine T_if rfl (fun h5=>?_) (fun h5=>?_)
   ·have hbs9:bst X (colZ c l (colT (atL (lens l) p) m)+F q)=colZ c l (colT (atL (lens l) p) m)+F q:=by unfold bst;rw [if_pos (by simpa using h5)]
    repeat' (first|refine d1 ?_|fail)
    have e9:((L.set p X).map (Value.int .i64)).set (0+(p:Int).toNat * 1) (.int .i64 (colZ c l (colT (atL (lens l) p) m)+F q))=(L.set p (colZ c l (colT (atL (lens l) p) m)+F q)).map (Value.int .i64):=by
     rw [show 0+(p:Int).toNat * 1=p by omega, ← List.map_set,List.set_set]
    rw [e9]
    refine T_next (blk q11 [.int .i64 ((p:Nat))] 3::blk p10 [.slice (some ⟨b1,0,none⟩) V V] 29::blk b1 ((L.set p (foldB (possM (lens l) (atL (lens l) p)) (mcV (colZ c l) (lens l) (mvL n) (atL (lens l) p)) ((posL (lens l) (atL (lens l) p) (mvL n)).take (jj+1)) (-1))).map (Value.int .i64)) 3::blk pl [.slice A n ca] 23::blk pc c.cells 51::dfrs Dl) rfl ?_
    rw [hXs,hbs9]
    exact Hle.tail _ _
   ·have hbs9:bst X (colZ c l (colT (atL (lens l) p) m)+F q)=X:=by unfold bst;rw [if_neg (by simpa using h5)]
    refine T_next (blk q11 [.int .i64 ((p:Nat))] 3::blk p10 [.slice (some ⟨b1,0,none⟩) V V] 29::blk b1 ((L.set p (foldB (possM (lens l) (atL (lens l) p)) (mcV (colZ c l) (lens l) (mvL n) (atL (lens l) p)) ((posL (lens l) (atL (lens l) p) (mvL n)).take (jj+1)) (-1))).map (Value.int .i64)) 3::blk pl [.slice A n ca] 23::blk pc c.cells 51::dfrs Dl) rfl ?_
    rw [hXs,hbs9]
    exact Hle.tail _ _
  ·rintro D Hn rfl
   have hFp:foldB (possM (lens l) (atL (lens l) p)) (mcV (colZ c l) (lens l) (mvL n) (atL (lens l) p)) ((posL (lens l) (atL (lens l) p) (mvL n)).take (posL (lens l) (atL (lens l) p) (mvL n)).length) (-1)=F p:=by rw [List.take_length,foldB_posL, ← hstep,hF]
   rw [hFp]
   show T (FC _ _ ((D::Dl).map mkD) _ _ _) _ _ _ (dfr D::blk g2 [.int .i64 (p:Nat)] 3::blk g3 [.slice Am (mvL n).length cm] 24::blk g1 [.pointer (some ⟨pg,0,none⟩)] 117::blk pg (gridL A n ca (lens l) 0) 123::fz pm::blk q11 [.int .i64 ((p:Nat))] 3::blk p10 [.slice (some ⟨b1,0,none⟩) V V] 29::blk b1 ((L.set p (F p)).map (Value.int .i64)) 3::blk pl [.slice A n ca] 23::blk pc c.cells 51::dfrs Dl)
   repeat' (first|refine d1 ?_|(show ∀ _:Nat,T _ _ _ _ _;intro _))
   rename_i n11
   show T _ (.mark _::_) _ _ _
   refine T_backD (p,n11,L.set p (F p),D::Dl) ⟨by dsimp only;omega,by dsimp only;rw [List.length_set,hL],fun q h5 h6=>?_⟩ (by dsimp only;omega) rfl (hG:=?_)
   ·dsimp only at h5 ⊢
    by_cases hqp:q=p
    ·rw [hqp,List.getElem?_set_self (by omega)]
    ·rw [List.getElem?_set_ne (by omega)];exact hLF q (by omega) h6
   ·dsimp only
    exact Hle.srtT (A:=[blk n11 [.int .i64 ((p:Int) - 1)] 3,dfr D,blk g2 [.int .i64 (p:Nat)] 3,blk g3 [.slice Am (mvL n).length cm] 24,blk g1 [.pointer (some ⟨pg,0,none⟩)] 117,blk pg (gridL A n ca (lens l) 0) 123,fz pm,blk q11 [.int .i64 ((p:Nat))] 3,blk p10 [.slice (some ⟨b1,0,none⟩) V V] 29,blk b1 ((L.set p (F p)).map (Value.int .i64)) 3,blk pl [.slice A n ca] 23,blk pc c.cells 51]) (K:=[blk n11 [.int .i64 ((p:Int) - 1)] 3,blk p10 [.slice (some ⟨b1,0,none⟩) V V] 29,blk b1 ((L.set p (F p)).map (Value.int .i64)) 3,fz pm,blk pg (gridL A n ca (lens l) 0) 123,blk pl [.slice A n ca] 23,blk pc c.cells 51,dfr D]) (dfrs Dl)
end Go.Proofs.YtefieebkankfoaaGreatDoor
namespace Go.Proofs.YtefieebkankfoaaGreatDoor
open Go.RowKit Go.Shelf

end Go.Proofs.YtefieebkankfoaaGreatDoor
namespace Go.Proofs.YtefieebkankfoaaGreatDoor
open Go.RowKit Go.Shelf Go.Proofs
set_option maxRecDepth 100000
set_option linter.unusedSectionVars false
set_option maxHeartbeats 1000000

def pg (p:List Int) (q:Nat):Int:=p.getD q 0
section
variable {K:List Int→Int} (hK:∀ x,0≤K x) {ls:List Nat} {n:Nat} {Ms:List (List Nat)} (hM:MvsOk n Ms) (hn:ls.length=n)
include hK hM hn
end
section
variable {K:List Int→Int} {ls:List Nat} {n:Nat} {Ms:List (List Nat)} (hM:MvsOk n Ms) (hn:ls.length=n) {p:List Int}
include hM hn
end
section
variable {K:List Int→Int} (hK:∀ x,0≤K x) {ls:List Nat} {n:Nat} {Ms:List (List Nat)} (hM:MvsOk n Ms) (hn:ls.length=n)
include hK hM hn
end
end Go.Proofs.YtefieebkankfoaaGreatDoor
namespace Go.Proofs.YtefieebkankfoaaGreatDoor
open Go.RowKit Go.Shelf Go.Proofs

end Go.Proofs.YtefieebkankfoaaGreatDoor
namespace Go.Proofs.YtefieebkankfoaaGreatDoor
open Go.RowKit Go.Shelf Go.Proofs

end Go.Proofs.YtefieebkankfoaaGreatDoor
namespace Go.Proofs.YtefieebkankfoaaGreatDoor
open Go.RowKit Go.Shelf Go.Proofs

end Go.Proofs.YtefieebkankfoaaGreatDoor
namespace Go.Proofs.YtefieebkankfoaaGreatDoor
open Go.RowKit Go.Shelf Go.Proofs
set_option maxRecDepth 100000

end Go.Proofs.YtefieebkankfoaaGreatDoor
namespace Go.Proofs.YtefieebkankfoaaGreatDoor
open Go.RowKit Go.Shelf Go.Proofs
set_option maxRecDepth 100000
set_option maxHeartbeats 1000000

end Go.Proofs.YtefieebkankfoaaGreatDoor
namespace Go.Proofs.YtefieebkankfoaaGreatDoor
open Go.RowKit Go.Shelf Go.Proofs
set_option maxRecDepth 100000
set_option maxHeartbeats 1000000

end Go.Proofs.YtefieebkankfoaaGreatDoor
namespace Go.Proofs.YtefieebkankfoaaGreatDoor
open Go.RowKit Go.Shelf Go.Proofs
set_option maxRecDepth 100000
set_option maxHeartbeats 1000000

end Go.Proofs.YtefieebkankfoaaGreatDoor
namespace Go.Proofs.YtefieebkankfoaaGreatDoor
open Go.RowKit Go.Shelf Go.Proofs
set_option maxRecDepth 100000
set_option maxHeartbeats 1000000

end Go.Proofs.YtefieebkankfoaaGreatDoor
namespace Go.Proofs.YtefieebkankfoaaGreatDoor
open Go.RowKit Go.Shelf Go.Proofs
set_option maxRecDepth 100000
set_option maxHeartbeats 1000000

end Go.Proofs.YtefieebkankfoaaGreatDoor
namespace Go.Proofs.YtefieebkankfoaaGreatDoor
open Go.RowKit Go.Shelf Go.Proofs
set_option maxRecDepth 100000
set_option maxHeartbeats 1000000

end Go.Proofs.YtefieebkankfoaaGreatDoor
namespace Go.Proofs.YtefieebkankfoaaGreatDoor
open Go.RowKit Go.Shelf

instance (priority:=low) SubP.same (H:List HA):SubP H H:=⟨id,fun i B h=>h,fun i j _ _ h=>h⟩
inductive Pq:List HA→List HA→Prop where
 | nil (H:List HA):Pq H []
 | same (H:List HA):Pq H H
 | cons {A:HA} {H H' K:List HA} (h:Rm A H H') (k:Pq H' K):Pq H (A::K)
 | drop {A:HA} {H K:List HA} (k:Pq H K):Pq (A::H) K
theorem Pq.spec {H K:List HA} (h:Pq H K):PickP H K:=by
 induction h with
 | nil H=>exact PickP.nil H
 | same H=>exact⟨id,fun i B h=>h,fun i j _ _ h=>h⟩
 | cons h _ ih=>exact PickP.cons _ _ _ _ (h:=h.spec) (k:=ih)
 | drop _ ih =>
  obtain⟨p,h1,h2⟩:=ih.at_
  exact⟨fun i=>p i+1,fun i B hi=>by simpa using h1 i B hi,fun i j hi hj hne=>by have:=h2 i j hi hj hne;dsimp only;omega⟩
end Go.Proofs.YtefieebkankfoaaGreatDoor
namespace Go.Proofs.YtefieebkankfoaaGreatDoor
open Go.RowKit Go.Shelf Go.Proofs
set_option maxRecDepth 100000
set_option maxHeartbeats 1000000

end Go.Proofs.YtefieebkankfoaaGreatDoor
namespace Go.Proofs.YtefieebkankfoaaGreatDoor
open Go.RowKit Go.Shelf Go.Proofs
set_option maxRecDepth 100000
set_option maxHeartbeats 1000000

theorem InB.take:∀ {ls v:List Nat},InB ls v→∀ k,InB (ls.take k) (v.take k)
 | [],[],_,k=>by simp [InB]
 | n::ls,a::v,h,0=>trivial
 | n::ls,a::v,h,k+1=>⟨h.1,InB.take h.2 k⟩
 | [],a::v,h,_=>h.elim
 | n::ls,[],h,_=>h.elim
end Go.Proofs.YtefieebkankfoaaGreatDoor
namespace Go.Proofs.YtefieebkankfoaaGreatDoor
open Go.RowKit Go.Shelf Go.Proofs
set_option maxRecDepth 100000
set_option maxHeartbeats 1000000

def goodK (F:Nat→Int) (V:Nat) (L:List Int):Prop:=L.length=V∧∀ (q:Nat) (z:Int),L[q]?=some z→z = -1∨z=F q
theorem goodK.put {F:Nat→Int} {V:Nat} {L:List Int} (h:goodK F V L) (p:Nat):goodK F V (L.set p (F p)):=by
 refine ⟨by rw [List.length_set];exact h.1,fun q z hz=>?_⟩
 by_cases e:p=q
 ·subst e
  rw [List.getElem?_set] at hz
  simp only [if_true] at hz
  split at hz
  ·injection hz with hz;exact .inr hz.symm
  ·cases hz
 ·rw [List.getElem?_set_ne e] at hz
  exact h.2 q z hz
end Go.Proofs.YtefieebkankfoaaGreatDoor
namespace Go.Proofs.YtefieebkankfoaaGreatDoor
open Go.RowKit Go.Shelf Go.Proofs
set_option maxRecDepth 100000
set_option maxHeartbeats 1000000

end Go.Proofs.YtefieebkankfoaaGreatDoor
namespace Go.Proofs.YtefieebkankfoaaGreatDoor
open Go.RowKit Go.Shelf Go.Proofs
set_option maxRecDepth 100000
set_option maxHeartbeats 1000000

theorem sameStr22_spec (x y:Value) (p q:List ByteArray) (w:World) (hx:Rd (wr w) [x] [strsD p]) (hy:Rd (wr w) [y] [strsD q]) :
  Spec Tryz.prog 28 [x,y] w (fun v R=>v = .bool (decide (p=q))∧R=[]):=by
 obtain⟨A,ca,rfl,hnc,hnb,hl⟩:=hx.strs
 obtain⟨B,cb,rfl,hmc,hmb,hb⟩:=hy.strs
 refine spec_of sg Tryz.func28 rfl rfl rfl ?_
 repeat' (first|refine d1 ?_|fail)
 refine T_if rfl (fun h=>?_) (fun h=>?_)
 ·simp only [Bool.not_eq_true',decide_eq_false_iff_not] at h
  repeat' (first|refine d1 ?_|(show T _ (.code .ret::_) _ _ _;refine T_retV [] rfl (Hle.none _) ⟨?_,rfl⟩))
  rw [decide_eq_false (fun e=>h (by rw [e]))];rfl
 simp only [Bool.not_eq_false',decide_eq_true_eq] at h
 repeat' (first|refine d1 ?_|fail)
 refine T_loopX (fun k:Nat=>[(5, .int .i64 k)]) (fun _=>[]) (fun k=>k≤p.length∧∀ j,j<k→p[j]?=q[j]?) (fun k=>p.length - k) 0 ⟨by omega,fun j h=>by omega⟩ ?_
 rintro k ⟨hk,hok⟩
 repeat' (first|refine d1 ?_|fail)
 refine T_if rfl (fun h3=>?_) (fun h3=>?_)
 ·simp only [decide_eq_true_eq] at h3
  have hkn:k<p.length:=by omega
  have hkq:k<q.length:=by omega
  obtain⟨ba,oa,rfl⟩:=hl.base (by omega)
  obtain⟨bb,ob,rfl⟩:=hb.base (by omega)
  obtain⟨u,hu⟩:∃ u,p[k]?=some u:=⟨_,List.getElem?_eq_getElem hkn⟩
  obtain⟨v,hv⟩:∃ v,q[k]?=some v:=⟨_,List.getElem?_eq_getElem hkq⟩
  have hr1:RdC w ba (oa+(k:Int).toNat * 1) [.string u]:=(hl.get1 (by omega) (by rw [Int.toNat_natCast,List.getElem?_map,hu];rfl)).2
  have hr2:RdC w bb (ob+(k:Int).toNat * 1) [.string v]:=(hb.get1 (by omega) (by rw [Int.toNat_natCast,List.getElem?_map,hv];rfl)).2
  repeat' (first|refine dd ?_|fail)
  refine T_if rfl (fun h4=>?_) (fun h4=>?_)
  ·simp only [Bool.not_eq_true',decide_eq_false_iff_not] at h4
   repeat' (first|refine d1 ?_|(show T _ (.code .ret::_) _ _ _;refine T_retV [] rfl (Hle.none _) ⟨?_,rfl⟩))
   rw [decide_eq_false (fun e=>h4 (by rw [e,hv] at hu;exact (Option.some.inj hu).symm))];rfl
  ·simp only [Bool.not_eq_false',decide_eq_true_eq] at h4
   repeat' (first|refine d1 ?_|fail)
   refine T_backX (k+1) ⟨by omega,fun j hj=>?_⟩ (by omega)
   rcases Nat.lt_or_ge j k with h5|h5
   ·exact hok j h5
   ·rw [show j=k by omega,hu,hv,h4]
 ·simp only [decide_eq_false_iff_not] at h3
  repeat' (first|refine d1 ?_|(show T _ (.code .ret::_) _ _ _;refine T_retV [] rfl (Hle.none _) ⟨?_,rfl⟩))
  rw [decide_eq_true (list_eq_of (by omega) fun j hj=>hok j (by omega))];rfl
theorem sameCols22_spec (x y:Value) (a b:List (List Int)) (w:World) (hx:Rd (wr w) [x] [rowsD a]) (hy:Rd (wr w) [y] [rowsD b]) :
  Spec Tryz.prog 30 [x,y] w (fun v R=>v = .bool (decide (a=b))∧R=[]):=by
 obtain⟨A,ca,cs,rfl,ha1,ha2,hcs,hA,hrA⟩:=hx.tab
 obtain⟨B,cb,ds,rfl,hb1,hb2,hds,hB,hrB⟩:=hy.tab
 refine spec_of sg Tryz.func30 rfl rfl rfl ?_
 repeat' (first|refine d1 ?_|fail)
 refine T_if rfl (fun h=>?_) (fun h=>?_)
 ·simp only [Bool.not_eq_true',decide_eq_false_iff_not] at h
  repeat' (first|refine d1 ?_|(show T _ (.code .ret::_) _ _ _;refine T_retV [] rfl (Hle.none _) ⟨?_,rfl⟩))
  rw [decide_eq_false (fun e=>h (by rw [e]))];rfl
 simp only [Bool.not_eq_false',decide_eq_true_eq] at h
 repeat' (first|refine d1 ?_|fail)
 refine T_loopX (fun k:Nat=>[(5, .int .i64 k)]) (fun _=>[]) (fun k=>k≤a.length∧∀ j,j<k→a[j]?=b[j]?) (fun k=>a.length - k) 0 ⟨by omega,fun j h=>by omega⟩ ?_
 rintro k ⟨hk,hok⟩
 repeat' (first|refine d1 ?_|fail)
 refine T_if rfl (fun h3=>?_) (fun h3=>?_)
 ·simp only [decide_eq_true_eq] at h3
  obtain⟨b1,o1,rfl,hA2⟩:=hA (by omega)
  obtain⟨b2,o2,rfl,hB2⟩:=hB (by omega)
  obtain⟨p,hp⟩:∃ u,a[k]?=some u:=⟨_,List.getElem?_eq_getElem (by omega)⟩
  obtain⟨q,hq⟩:∃ v,b[k]?=some v:=⟨_,List.getElem?_eq_getElem (by omega)⟩
  obtain⟨A',capA,hcA,hlA,hmA,hA3⟩:=hrA.tabRow hp
  obtain⟨B',capB,hcB,hlB,hmB,hB3⟩:=hrB.tabRow hq
  have hr1:RdC w b1 (o1+(k:Int).toNat * 1) [.slice A' p.length capA]:=RdC.one (by rw [off1];exact hA2 k _ hcA)
  have hr2:RdC w b2 (o2+(k:Int).toNat * 1) [.slice B' q.length capB]:=RdC.one (by rw [off1];exact hB2 k _ hcB)
  repeat' (first|refine dd ?_|fail)
  refine T_if rfl (fun h4=>?_) (fun h4=>?_)
  ·simp only [Bool.not_eq_true',decide_eq_false_iff_not] at h4
   repeat' (first|refine d1 ?_|(show T _ (.code .ret::_) _ _ _;refine T_retV [] rfl (Hle.none _) ⟨?_,rfl⟩))
   rw [decide_eq_false (fun e=>h4 (by rw [e,hq] at hp;rw [Option.some.inj hp]))];rfl
  simp only [Bool.not_eq_false',decide_eq_true_eq] at h4
  repeat' (first|refine d1 ?_|fail)
  refine T_loopX (fun i:Nat=>[(6, .int .i64 i)]) (fun _=>[]) (fun i=>i≤p.length∧∀ j,j<i→p[j]?=q[j]?) (fun i=>p.length - i) 0 ⟨by omega,fun j h=>by omega⟩ ?_
  rintro i ⟨hi,hoki⟩
  repeat' (first|refine d1 ?_|fail)
  refine T_if rfl (fun h5=>?_) (fun h5=>?_)
  ·simp only [decide_eq_true_eq] at h5
   obtain⟨b3,o3,rfl,hA4⟩:=hA3 (by omega)
   obtain⟨b4,o4,rfl,hB4⟩:=hB3 (by omega)
   obtain⟨u,hu⟩:∃ u,p[i]?=some u:=⟨_,List.getElem?_eq_getElem (by omega)⟩
   obtain⟨v,hv⟩:∃ v,q[i]?=some v:=⟨_,List.getElem?_eq_getElem (by omega)⟩
   have hr3:RdC w b3 (o3+(i:Int).toNat * 1) [.int .i64 u]:=RdC.one (by rw [off1];exact hA4 i _ hu)
   have hr4:RdC w b4 (o4+(i:Int).toNat * 1) [.int .i64 v]:=RdC.one (by rw [off1];exact hB4 i _ hv)
   repeat' (first|refine dd ?_|fail)
   refine T_if rfl (fun h6=>?_) (fun h6=>?_)
   ·simp only [Bool.not_eq_true',decide_eq_false_iff_not] at h6
    repeat' (first|refine d1 ?_|(show T _ (.code .ret::_) _ _ _;refine T_retV [] rfl (Hle.none _) ⟨?_,rfl⟩))
    rw [decide_eq_false (fun e=>h6 (by rw [e,hq] at hp;rw [Option.some.inj hp,hu] at hv;exact Option.some.inj hv))];rfl
   ·simp only [Bool.not_eq_false',decide_eq_true_eq] at h6
    repeat' (first|refine d1 ?_|fail)
    refine T_backX (i+1) ⟨by omega,fun j hj=>?_⟩ (by omega)
    rcases Nat.lt_or_ge j i with h7|h7
    ·exact hoki j h7
    ·rw [show j=i by omega,hu,hv,h6]
  ·simp only [decide_eq_false_iff_not] at h5
   repeat' (first|refine d1 ?_|fail)
   refine T_backX (k+1) ⟨by omega,fun j hj=>?_⟩ (by omega)
   rcases Nat.lt_or_ge j k with h7|h7
   ·exact hok j h7
   ·rw [show j=k by omega,hp,hq,list_eq_of (by omega) fun j hj=>hoki j (by omega)]
 ·simp only [decide_eq_false_iff_not] at h3
  repeat' (first|refine d1 ?_|(show T _ (.code .ret::_) _ _ _;refine T_retV [] rfl (Hle.none _) ⟨?_,rfl⟩))
  rw [decide_eq_true (list_eq_of (by omega) fun j hj=>hok j (by omega))];rfl
theorem sameToks22_spec (A B:Option Addr) (ca cb:Nat) (a b:List TS) (w:World) (ha:Src w 1 A a.length (a.map TS.val)) (hal:TsOk w a) (han:a.length≤9223372036854775807) (hb:Src w 1 B b.length (b.map TS.val)) (hbl:TsOk w b) (hbn:b.length≤9223372036854775807) :
  Spec Tryz.prog 29 [.slice A a.length ca, .slice B b.length cb] w (fun v R=>v = .bool (decide (a.map TS.l=b.map TS.l))∧R=[]):=by
 refine spec_of sg Tryz.func29 rfl rfl rfl ?_
 repeat' (first|refine d1 ?_|fail)
 refine T_if rfl (fun h=>?_) (fun h=>?_)
 ·simp only [Bool.not_eq_true',decide_eq_false_iff_not] at h
  repeat' (first|refine d1 ?_|(show T _ (.code .ret::_) _ _ _;refine T_retV [] rfl (Hle.none _) ⟨?_,rfl⟩))
  rw [decide_eq_false (fun e=>h (by have:=congrArg List.length e;rw [List.length_map,List.length_map] at this;omega))];rfl
 simp only [Bool.not_eq_false',decide_eq_true_eq] at h
 repeat' (first|refine d1 ?_|fail)
 refine T_loopX (fun k:Nat=>[(5, .int .i64 k)]) (fun _=>[]) (fun k=>k≤a.length∧∀ j,j<k→(a.map TS.l)[j]?=(b.map TS.l)[j]?) (fun k=>a.length - k) 0 ⟨by omega,fun j h=>by omega⟩ ?_
 rintro k ⟨hk,hok⟩
 repeat' (first|refine d1 ?_|fail)
 refine T_if rfl (fun h3=>?_) (fun h3=>?_)
 ·simp only [decide_eq_true_eq] at h3
  obtain⟨b1,o1,rfl⟩:=ha.base (by omega)
  obtain⟨b2,o2,rfl⟩:=hb.base (by omega)
  obtain⟨p,hp⟩:∃ u,a[k]?=some u:=⟨_,List.getElem?_eq_getElem (by omega)⟩
  obtain⟨q,hq⟩:∃ v,b[k]?=some v:=⟨_,List.getElem?_eq_getElem (by omega)⟩
  have hp2:(a.map TS.l)[k]?=some p.l:=by rw [List.getElem?_map,hp];rfl
  have hq2:(b.map TS.l)[k]?=some q.l:=by rw [List.getElem?_map,hq];rfl
  have hpm:=List.mem_of_getElem? hp
  have hqm:=List.mem_of_getElem? hq
  have hpl:=hal.len p hpm
  have hql:=hbl.len q hqm
  have hpb:=hal.bd p hpm
  have hqb:=hbl.bd q hqm
  have hps:=hal.src p hpm
  have hqs:=hbl.src q hqm
  have hr1:RdC w b1 (o1+(k:Int).toNat * 1) [.slice p.A p.n p.cap]:=by
   have h9:=(ha.get1 (i:=k) (by omega) (by rw [List.getElem?_map,hp];rfl)).2
   rw [Nat.mul_one] at h9
   rw [off1]
   exact h9
  have hr2:RdC w b2 (o2+(k:Int).toNat * 1) [.slice q.A q.n q.cap]:=by
   have h9:=(hb.get1 (i:=k) (by omega) (by rw [List.getElem?_map,hq];rfl)).2
   rw [Nat.mul_one] at h9
   rw [off1]
   exact h9
  repeat' (first|refine dd ?_|fail)
  refine T_if rfl (fun h4=>?_) (fun h4=>?_)
  ·simp only [Bool.not_eq_true',decide_eq_false_iff_not] at h4
   repeat' (first|refine d1 ?_|(show T _ (.code .ret::_) _ _ _;refine T_retV [] rfl (Hle.none _) ⟨?_,rfl⟩))
   rw [decide_eq_false (fun e=>h4 (by rw [e,hq2] at hp2;rw [← hpl, ← hql,Option.some.inj hp2]))];rfl
  simp only [Bool.not_eq_false',decide_eq_true_eq] at h4
  repeat' (first|refine d1 ?_|fail)
  refine T_loopX (fun i:Nat=>[(6, .int .i64 i)]) (fun _=>[]) (fun i=>i≤p.n∧∀ j,j<i→p.l[j]?=q.l[j]?) (fun i=>p.n - i) 0 ⟨by omega,fun j h=>by omega⟩ ?_
  rintro i ⟨hi,hoki⟩
  repeat' (first|refine d1 ?_|fail)
  refine T_if rfl (fun h5=>?_) (fun h5=>?_)
  ·simp only [decide_eq_true_eq] at h5
   obtain⟨b3,o3,eA⟩:=hps.base (by omega)
   obtain⟨b4,o4,eB⟩:=hqs.base (by omega)
   obtain⟨u,hu⟩:∃ u,p.l[i]?=some u:=⟨_,List.getElem?_eq_getElem (by omega)⟩
   obtain⟨v,hv⟩:∃ v,q.l[i]?=some v:=⟨_,List.getElem?_eq_getElem (by omega)⟩
   have hr3:RdC w b3 (o3+(i:Int).toNat * 6) u.cells:=by have:=hps.getT (k:=i) (by omega) hu;rw [eA] at this;exact this
   have hr4:RdC w b4 (o4+(i:Int).toNat * 6) v.cells:=by have:=hqs.getT (k:=i) (by omega) hv;rw [eB] at this;exact this
   rw [eA] at hr1
   rw [eB] at hr2
   repeat' (first|refine dd ?_|(show T _ (.run _ _ (_::_) _ _::_) _ _ _;refine rv rfl rfl rfl (Val.eqS (r:=decide (u=v)) rfl (fun w=>eqTok u v w) Tryz.eqGuardType79) rfl rfl rfl ?_)|fail)
   refine T_if rfl (fun h6=>?_) (fun h6=>?_)
   ·have h6:decide (u=v)=false:=by simpa using h6
    rw [decide_eq_false_iff_not] at h6
    repeat' (first|refine d1 ?_|(show T _ (.code .ret::_) _ _ _;refine T_retV [] rfl (Hle.none _) ⟨?_,rfl⟩))
    rw [decide_eq_false (fun e=>h6 (by rw [e,hq2] at hp2;rw [← Option.some.inj hp2,hv] at hu;exact (Option.some.inj hu).symm))];rfl
   ·have h6:decide (u=v)=true:=by simpa using h6
    rw [decide_eq_true_eq] at h6
    repeat' (first|refine d1 ?_|fail)
    refine T_backX (i+1) ⟨by omega,fun j hj=>?_⟩ (by omega)
    rcases Nat.lt_or_ge j i with h7|h7
    ·exact hoki j h7
    ·rw [show j=i by omega,hu,hv,h6]
  ·simp only [decide_eq_false_iff_not] at h5
   repeat' (first|refine d1 ?_|fail)
   refine T_backX (k+1) ⟨by omega,fun j hj=>?_⟩ (by omega)
   rcases Nat.lt_or_ge j k with h7|h7
   ·exact hok j h7
   ·rw [show j=k by omega,hp2,hq2,list_eq_of (by omega) fun j hj=>hoki j (by omega)]
 ·simp only [decide_eq_false_iff_not] at h3
  repeat' (first|refine d1 ?_|(show T _ (.code .ret::_) _ _ _;refine T_retV [] rfl (Hle.none _) ⟨?_,rfl⟩))
  rw [decide_eq_true (list_eq_of (by rw [List.length_map,List.length_map];omega) fun j hj=>hok j (by rw [List.length_map] at hj;omega))];rfl
structure CoSm (w:World) (x:Co) (A1:Option Addr) (c1:Nat) (l:List TS) (A2:Option Addr) (c2:Nat) (y3:Value):Prop where
 s1:Rd (wr w) [.slice A1 x.sg.length c1] [strsD x.sg]
 s2:Src w 1 A2 l.length (l.map TS.val)
 b2:l.length≤9223372036854775807
 ok:TsOk w l
 m:l.map TS.l=x.m
 cols:Rd (wr w) [y3] [rowsD x.cols]
theorem CoSm.cls {w0 w:World} {H:List HA} {x:Co} {A1 A2:Option Addr} {c1 c2:Nat} {l:List TS} {y3:Value} (h:CoSm w0 x A1 c1 l A2 c2 y3) (hw:Cls w0 w H):CoSm w x A1 c1 l A2 c2 y3:=⟨h.s1.old hw,h.s2.old hw,h.b2,⟨fun t ht=>src_below (h.ok.src t ht) hw.below,h.ok.len,h.ok.bd⟩,h.m,h.cols.old hw⟩
theorem sameR22_spec (x y:Co) (A1 B1:Option Addr) (c1 d1':Nat) (l k:List TS) (A2 B2:Option Addr) (c2 d2:Nat) (y3 z3:Value) (w:World) (hx:CoSm w x A1 c1 l A2 c2 y3) (hy:CoSm w y B1 d1' k B2 d2 z3) :
  Spec Tryz.prog 10 [.agg (coL x.sec (.slice A1 x.sg.length c1) (.slice A2 l.length c2) y3).toArray, .agg (coL y.sec (.slice B1 y.sg.length d1') (.slice B2 k.length d2) z3).toArray] w (fun v R=>v = .bool (same22 x y)∧R=[]):=by
 refine spec_of sg Tryz.func10 rfl rfl rfl ?_
 refine T_op (OpT.box (cs:=coL x.sec (.slice A1 x.sg.length c1) (.slice A2 l.length c2) y3) rfl rfl rfl rfl rfl rfl rfl (fun pc=>?_))
 refine T_op (OpT.box (cs:=coL y.sec (.slice B1 y.sg.length d1') (.slice B2 k.length d2) z3) rfl rfl rfl rfl rfl rfl rfl (fun pd=>?_))
 have hmx:=hx.m
 have hmy:=hy.m
 repeat' (first|refine d1 ?_|(show T _ (.ops _ (_::_)::_) _ _ _;first|refine T_callC rfl rfl rfl rfl rfl rfl rfl (fun hg w hw=>sameStr22_spec _ _ x.sg y.sg w ((hx.cls hw).s1) ((hy.cls hw).s1)) ?_|refine T_callC rfl rfl rfl rfl rfl rfl rfl (fun hg w hw=>sameToks22_spec A2 B2 c2 d2 l k w ((hx.cls hw).s2) ((hx.cls hw).ok) hx.b2 ((hy.cls hw).s2) ((hy.cls hw).ok) hy.b2) ?_|refine T_callC rfl rfl rfl rfl rfl rfl rfl (fun hg w hw=>sameCols22_spec _ _ x.cols y.cols w ((hx.cls hw).cols) ((hy.cls hw).cols)) ?_)|(show T _ (.code .ret::_) _ _ _;refine T_retV [] rfl (Hle.none _) ⟨congrArg Value.bool ?_,rfl⟩))
 rw [hmx,hmy]
 unfold same22
 cases decide (x.sec=y.sec) <;> cases decide (x.sg=y.sg) <;> cases decide (x.m=y.m) <;> rfl
end Go.Proofs.YtefieebkankfoaaGreatDoor
namespace Go.Proofs.YtefieebkankfoaaGreatDoor
open Go.RowKit Go.Shelf Go.Proofs
set_option maxRecDepth 100000
set_option maxHeartbeats 1000000

theorem eqFuncT_spec (A B:Option Addr) (ca cb:Nat) (a b:List TS) (w:World) (ha:Src w 1 A a.length (a.map TS.val)) (hal:TsOk w a) (han:a.length≤9223372036854775807) (hb:Src w 1 B b.length (b.map TS.val)) (hbl:TsOk w b) (hbn:b.length≤9223372036854775807) :
  Spec Tryz.prog 52 [.slice A a.length ca, .slice B b.length cb, .func (.func 53) #[] #[]] w (fun v R=>v = .bool (decide (a.map TS.l=b.map TS.l))∧R=[]):=by
 refine spec_of sg Tryz.func52 rfl rfl rfl ?_
 repeat' (first|refine d1 ?_|fail)
 refine T_if rfl (fun h=>?_) (fun h=>?_)
 ·simp only [Bool.not_eq_true',decide_eq_false_iff_not] at h
  repeat' (first|refine d1 ?_|(show T _ (.code .ret::_) _ _ _;refine T_retV [] rfl (Hle.none _) ⟨?_,rfl⟩))
  rw [decide_eq_false (fun e=>h (by have:=congrArg List.length e;rw [List.length_map,List.length_map] at this;omega))];rfl
 simp only [Bool.not_eq_false',decide_eq_true_eq] at h
 repeat' (first|refine d1 ?_|fail)
 refine T_loopX (fun k:Nat=>[(17, .int .i64 k)]) (fun _=>[]) (fun k=>k≤a.length∧∀ j,j<k→(a.map TS.l)[j]?=(b.map TS.l)[j]?) (fun k=>a.length - k) 0 ⟨by omega,fun j h=>by omega⟩ ?_
 rintro k ⟨hk,hok⟩
 repeat' (first|refine d1 ?_|fail)
 refine T_if rfl (fun h3=>?_) (fun h3=>?_)
 ·simp only [decide_eq_true_eq] at h3
  obtain⟨b1,o1,rfl⟩:=ha.base (by omega)
  obtain⟨b2,o2,rfl⟩:=hb.base (by omega)
  obtain⟨p,hp⟩:∃ u,a[k]?=some u:=⟨_,List.getElem?_eq_getElem (by omega)⟩
  obtain⟨q,hq⟩:∃ v,b[k]?=some v:=⟨_,List.getElem?_eq_getElem (by omega)⟩
  have hp2:(a.map TS.l)[k]?=some p.l:=by rw [List.getElem?_map,hp];rfl
  have hq2:(b.map TS.l)[k]?=some q.l:=by rw [List.getElem?_map,hq];rfl
  have hpm:=List.mem_of_getElem? hp
  have hqm:=List.mem_of_getElem? hq
  have hpl:=hal.len p hpm
  have hql:=hbl.len q hqm
  have hpb:=hal.bd p hpm
  have hqb:=hbl.bd q hqm
  have hps:=hal.src p hpm
  have hqs:=hbl.src q hqm
  have hr1:RdC w b1 (o1+(k:Int).toNat * 1) [.slice p.A p.n p.cap]:=by
   have h9:=(ha.get1 (i:=k) (by omega) (by rw [List.getElem?_map,hp];rfl)).2
   rw [Nat.mul_one] at h9
   rw [off1]
   exact h9
  have hr2:RdC w b2 (o2+(k:Int).toNat * 1) [.slice q.A q.n q.cap]:=by
   have h9:=(hb.get1 (i:=k) (by omega) (by rw [List.getElem?_map,hq];rfl)).2
   rw [Nat.mul_one] at h9
   rw [off1]
   exact h9
  repeat' (first|refine d1 ?_|(show T _ (.ops _ (_::_)::_) _ _ _;refine T_call rfl rfl rfl rfl rfl (fun w hw=>equalTok_spec p.A q.A p.n q.n p.cap q.cap p.l q.l w (rdSrc hps w hw) hpl hpb (rdSrc hqs w hw) hql hqb) ?_)|fail)
  refine T_if rfl (fun h4=>?_) (fun h4=>?_)
  ·simp only [Bool.not_eq_true',decide_eq_false_iff_not] at h4
   repeat' (first|refine d1 ?_|(show T _ (.code .ret::_) _ _ _;refine T_retV [] rfl (Hle.none _) ⟨?_,rfl⟩))
   rw [decide_eq_false (fun e=>h4 (by rw [e,hq2] at hp2;rw [Option.some.inj hp2]))];rfl
  simp only [Bool.not_eq_false',decide_eq_true_eq] at h4
  repeat' (first|refine d1 ?_|fail)
  refine T_backX (k+1) ⟨by omega,fun j hj=>?_⟩ (by omega)
  rcases Nat.lt_or_ge j k with h7|h7
  ·exact hok j h7
  ·rw [show j=k by omega,hp2,hq2,h4]
 ·simp only [decide_eq_false_iff_not] at h3
  repeat' (first|refine d1 ?_|(show T _ (.code .ret::_) _ _ _;refine T_retV [] rfl (Hle.none _) ⟨?_,rfl⟩))
  rw [decide_eq_true (list_eq_of (by rw [List.length_map,List.length_map];omega) fun j hj=>hok j (by rw [List.length_map] at hj;omega))];rfl
theorem eqFuncC_spec (x y:Value) (a b:List (List Int)) (w:World) (hx:Rd (wr w) [x] [rowsD a]) (hy:Rd (wr w) [y] [rowsD b]) :
  Spec Tryz.prog 54 [x,y, .func (.func 55) #[] #[]] w (fun v R=>v = .bool (decide (a=b))∧R=[]):=by
 obtain⟨A,ca,cs,rfl,ha1,ha2,hcs,hA,hrA⟩:=hx.tab
 obtain⟨B,cb,ds,rfl,hb1,hb2,hds,hB,hrB⟩:=hy.tab
 refine spec_of sg Tryz.func54 rfl rfl rfl ?_
 repeat' (first|refine d1 ?_|fail)
 refine T_if rfl (fun h=>?_) (fun h=>?_)
 ·simp only [Bool.not_eq_true',decide_eq_false_iff_not] at h
  repeat' (first|refine d1 ?_|(show T _ (.code .ret::_) _ _ _;refine T_retV [] rfl (Hle.none _) ⟨?_,rfl⟩))
  rw [decide_eq_false (fun e=>h (by rw [e]))];rfl
 simp only [Bool.not_eq_false',decide_eq_true_eq] at h
 repeat' (first|refine d1 ?_|fail)
 refine T_loopX (fun k:Nat=>[(17, .int .i64 k)]) (fun _=>[]) (fun k=>k≤a.length∧∀ j,j<k→a[j]?=b[j]?) (fun k=>a.length - k) 0 ⟨by omega,fun j h=>by omega⟩ ?_
 rintro k ⟨hk,hok⟩
 repeat' (first|refine d1 ?_|fail)
 refine T_if rfl (fun h3=>?_) (fun h3=>?_)
 ·simp only [decide_eq_true_eq] at h3
  obtain⟨b1,o1,rfl,hA2⟩:=hA (by omega)
  obtain⟨b2,o2,rfl,hB2⟩:=hB (by omega)
  obtain⟨p,hp⟩:∃ u,a[k]?=some u:=⟨_,List.getElem?_eq_getElem (by omega)⟩
  obtain⟨q,hq⟩:∃ v,b[k]?=some v:=⟨_,List.getElem?_eq_getElem (by omega)⟩
  obtain⟨A',capA,hcA,hlA,hmA,hA3⟩:=hrA.tabRow hp
  obtain⟨B',capB,hcB,hlB,hmB,hB3⟩:=hrB.tabRow hq
  have hr1:RdC w b1 (o1+(k:Int).toNat * 1) [.slice A' p.length capA]:=RdC.one (by rw [off1];exact hA2 k _ hcA)
  have hr2:RdC w b2 (o2+(k:Int).toNat * 1) [.slice B' q.length capB]:=RdC.one (by rw [off1];exact hB2 k _ hcB)
  have hq1:Rd (wr w) [.slice A' p.length capA] [intsD p]:=by
   obtain⟨u,hu,hru⟩:=hrA.get (i:=k) (d:=intsD p) (by rw [List.getElem?_map,hp];rfl)
   rw [hcA] at hu
   cases hu
   exact hru
  have hq2:Rd (wr w) [.slice B' q.length capB] [intsD q]:=by
   obtain⟨u,hu,hru⟩:=hrB.get (i:=k) (d:=intsD q) (by rw [List.getElem?_map,hq];rfl)
   rw [hcB] at hu
   cases hu
   exact hru
  repeat' (first|refine d1 ?_|(show T _ (.ops _ (_::_)::_) _ _ _;refine T_call rfl rfl rfl rfl rfl (fun w hw=>equalI_spec _ _ p q w (hq1.old hw) (hq2.old hw)) ?_)|fail)
  refine T_if rfl (fun h4=>?_) (fun h4=>?_)
  ·simp only [Bool.not_eq_true',decide_eq_false_iff_not] at h4
   repeat' (first|refine d1 ?_|(show T _ (.code .ret::_) _ _ _;refine T_retV [] rfl (Hle.none _) ⟨?_,rfl⟩))
   rw [decide_eq_false (fun e=>h4 (by rw [e,hq] at hp;exact (Option.some.inj hp).symm))];rfl
  simp only [Bool.not_eq_false',decide_eq_true_eq] at h4
  repeat' (first|refine d1 ?_|fail)
  refine T_backX (k+1) ⟨by omega,fun j hj=>?_⟩ (by omega)
  rcases Nat.lt_or_ge j k with h7|h7
  ·exact hok j h7
  ·rw [show j=k by omega,hp,hq,h4]
 ·simp only [decide_eq_false_iff_not] at h3
  repeat' (first|refine d1 ?_|(show T _ (.code .ret::_) _ _ _;refine T_retV [] rfl (Hle.none _) ⟨?_,rfl⟩))
  rw [decide_eq_true (list_eq_of (by omega) fun j hj=>hok j (by omega))];rfl
theorem sameP22_spec (x y:Co) (A1 B1:Option Addr) (c1 d1':Nat) (l k:List TS) (A2 B2:Option Addr) (c2 d2:Nat) (y3 z3:Value) (w:World) (hx:CoSm w x A1 c1 l A2 c2 y3) (hy:CoSm w y B1 d1' k B2 d2 z3) :
  Spec Tryz.prog 25 [.agg (coL x.sec (.slice A1 x.sg.length c1) (.slice A2 l.length c2) y3).toArray, .agg (coL y.sec (.slice B1 y.sg.length d1') (.slice B2 k.length d2) z3).toArray] w (fun v R=>v = .bool (same22 x y)∧R=[]):=by
 refine spec_of sg Tryz.func25 rfl rfl rfl ?_
 refine T_op (OpT.box (cs:=coL x.sec (.slice A1 x.sg.length c1) (.slice A2 l.length c2) y3) rfl rfl rfl rfl rfl rfl rfl (fun pc=>?_))
 refine T_op (OpT.box (cs:=coL y.sec (.slice B1 y.sg.length d1') (.slice B2 k.length d2) z3) rfl rfl rfl rfl rfl rfl rfl (fun pd=>?_))
 have hmx:=hx.m
 have hmy:=hy.m
 repeat' (first|refine d1 ?_|(show T _ (.ops _ (_::_)::_) _ _ _;first|refine T_callC rfl rfl rfl rfl rfl rfl rfl (fun hg w hw=>equalStr_spec _ _ x.sg y.sg w ((hx.cls hw).s1) ((hy.cls hw).s1)) ?_|refine T_callC rfl rfl rfl rfl rfl rfl rfl (fun hg w hw=>eqFuncT_spec A2 B2 c2 d2 l k w ((hx.cls hw).s2) ((hx.cls hw).ok) hx.b2 ((hy.cls hw).s2) ((hy.cls hw).ok) hy.b2) ?_|refine T_callC rfl rfl rfl rfl rfl rfl rfl (fun hg w hw=>eqFuncC_spec _ _ x.cols y.cols w ((hx.cls hw).cols) ((hy.cls hw).cols)) ?_)|(show T _ (.code .ret::_) _ _ _;refine T_retV [] rfl (Hle.none _) ⟨congrArg Value.bool ?_,rfl⟩))
 rw [hmx,hmy]
 unfold same22
 cases decide (x.sec=y.sec) <;> cases decide (x.sg=y.sg) <;> cases decide (x.m=y.m) <;> rfl
end Go.Proofs.YtefieebkankfoaaGreatDoor
namespace Go.Proofs.YtefieebkankfoaaGreatDoor
open Go.RowKit Go.Shelf Go.Proofs
set_option maxRecDepth 100000
set_option maxHeartbeats 1000000

theorem co_join {p:Frag} {y3:Value} {cols:List (List Int)} {A1 A2:Option Addr} {c1 c2 n m:Nat} {sg':List ByteArray} {cs:List Value} {H:List HA} (hp:Rd (fr p) [y3] [rowsD cols]) :
  Hle (fz p::row 47 1 A2 c2 m cs::row 9 1 A1 c1 n (sg'.map Value.string)::H) (dat [.slice A1 n c1, .slice A2 m c2,y3] [strsD sg', .s 1 (cs.map .v),rowsD cols]::H):=by
 refine (hle_map (fz_dat hp)).trans ?_
 refine (Hle.perm (List.Perm.swap _ _ _)).trans ?_
 refine dat_rowV.trans ?_
 refine (Hle.perm (List.Perm.swap _ _ _)).trans ?_
 refine dat_join.trans ?_
 refine (Hle.perm (List.Perm.swap _ _ _)).trans ?_
 refine dat_rowV.trans ?_
 refine (Hle.perm (List.Perm.swap _ _ _)).trans ?_
 exact dat_join
theorem co_nil (H:List HA):Hle H (dat [.slice none 0 0, .slice none 0 0, .slice none 0 0] [strsD [], .s 1 (([]:List Value).map .v),rowsD []]::H) :=
 hle_unit (Rd.s none 0 0 1 [] rfl (Nat.le_refl _) (by omega) (fun h=>absurd h (by omega)) .nil (Rd.s none 0 0 1 [] rfl (Nat.le_refl _) (by omega) (fun h=>absurd h (by omega)) .nil (Rd.s none 0 0 1 [] rfl (Nat.le_refl _) (by omega) (fun h=>absurd h (by omega)) .nil .nil)))
theorem co_nil1 (H:List HA):Hle H [dat [.slice none 0 0, .slice none 0 0, .slice none 0 0] [strsD [], .s 1 (([]:List Value).map .v),rowsD []]]:=(co_nil H).trans (Hle.nth 0 rfl)
def resP22 (x:Co) (l:List TS) (e:Int) (v:Value) (R:List HA):Prop :=
 ∃ y:(Option Addr × Nat) × (Option Addr × Nat) × Value,True∧v = .tuple #[.agg (coL x.sec (.slice y.1.1 x.sg.length y.1.2) (.slice y.2.1.1 l.length y.2.1.2) y.2.2).toArray, .int .i64 e]∧R=[dat [.slice y.1.1 x.sg.length y.1.2, .slice y.2.1.1 l.length y.2.1.2,y.2.2] [strsD x.sg, .s 1 ((l.map TS.val).map .v),rowsD x.cols]]
theorem ofP22 {p:Frag} {x:Co} {l:List TS} {A1 A2:Option Addr} {c1 c2:Nat} {y3:Value} (hp:Rd (fr p) [.slice A1 x.sg.length c1, .slice A2 l.length c2,y3] [strsD x.sg, .s 1 ((l.map TS.val).map .v),rowsD x.cols]) (hm:l.map TS.l=x.m)
  {w0 w:World} {H:List HA} [FocusZ H p] (hw:Cls w0 w H) (hl:TsOk w l):CoSm w x A1 c1 l A2 c2 y3:=by
 obtain⟨k1,k2⟩:=hp.cons_inv
 obtain⟨k2,k3⟩:=k2.cons_inv
 obtain⟨A,n,cap,e,g1,g2,g3,g4⟩:=(k2.own hw).srcV
 cases e
 exact⟨k1.own hw,g4,by omega,hl,hm,k3.own hw⟩
theorem vol_7:∀ {l:List TS},(∀ t∈l,t.n≤6)→volL (lens l)≤7 ^ l.length
 | [],_=>Nat.le_refl _
 | t::l,h=>by
  have h1:=vol_7 (l:=l) fun x hx=>h x (List.mem_cons_of_mem _ hx)
  have h2:=h t (List.mem_cons_self ..)
  show (t.n+1) * volL (lens l)≤7 ^ (l.length+1)
  rw [Nat.pow_succ,Nat.mul_comm]
  exact Nat.mul_le_mul h1 (by omega)
theorem size22_spec (A:Option Addr) (n ca:Nat) (l:List TS) (w:World) (hg:Grp w A n l) (h1:1≤n) (h6:n≤6) (ht:∀ t∈l,t.n≤6) :
  Spec Tryz.prog 47 [.slice A n ca] w (fun v R=>v = .tuple #[.int .i64 (volL (lens l):Nat), .int .i64 0]∧R=[]):=by
 have hn:=hg.hn
 have hv:=vol_7 ht
 have hv2:7 ^ l.length≤7 ^ 6:=Nat.pow_le_pow_right (by omega) (by omega)
 have ec:capV (volL (lens l)) 1073741824=volL (lens l):=if_pos (by omega)
 refine spec_of sg Tryz.func47 rfl rfl rfl ?_
 repeat' (first|refine d1 ?_|(show T _ (.ops _ (_::_)::_) _ _ _;refine T_call rfl rfl rfl rfl rfl (fun w hw=>srcs19_spec A n ca l w (hg.cls hw)) ?_)|fail)
 rw [if_neg (by omega)]
 refine T_if rfl (fun h=>by exfalso;simp at h) (fun _=>?_)
 repeat' (first|refine d1 ?_|(show T _ (.ops _ (_::_)::_) _ _ _;refine T_call rfl rfl rfl rfl rfl (fun w hw=>size19_spec A n ca l 1073741824 w (hg.cls hw) ⟨by omega,by omega⟩) ?_)|fail)
 rw [ec]
 refine T_if rfl (fun h=>by exfalso;simp at h;omega) (fun _=>?_)
 repeat' (first|refine d1 ?_|(show T _ (.code .ret::_) _ _ _;refine T_retV [] rfl (Hle.none _) ⟨rfl,rfl⟩))
noncomputable def colsC22 (c:Costs) (l:List TS):List (List Int):=if l.length≤4 then alnW c l else alnP c l
noncomputable def made22 (c:Costs) (sec:ByteArray) (sg':List ByteArray) (l:List TS):Co × Int :=
 if costE c≠0 then (co0,1) else if head22 sec sg' (l.map TS.l)≠0 then (co0,head22 sec sg' (l.map TS.l)) else (⟨sec,sg',l.map TS.l,colsC22 c l⟩,0)
noncomputable def toks22 (c:Costs) (sec:ByteArray) (sg':List ByteArray) (l:List TS):List TS:=if costE c≠0 then [] else if head22 sec sg' (l.map TS.l)≠0 then [] else l
theorem made22_facts {c:Costs} {sec:ByteArray} {sg':List ByteArray} {l:List TS} (hc:costE c=0) (hh:head22 sec sg' (l.map TS.l)=0) (hln:∀ t∈l,t.l.length=t.n) (h6:∀ t∈l,t.n≤6) :
  1≤l.length∧l.length=sg'.length∧ck21 c l=0∧(l.length≤4→aln19 c l=(alnW c l,lstV c l,0))∧alnA c l=(alnP c l,0)∧ColsOk (lens l) (colsC22 c l)∧made22 c sec sg' l=(⟨sec,sg',l.map TS.l,colsC22 c l⟩,0)∧toks22 c sec sg' l=l:=by
 obtain⟨g1,g2,g3,g4,g5,g6,g7⟩:=head22_iff.1 hh
 have hl:l.length=sg'.length:=by rw [← g6,List.length_map]
 have hbs:badS l=false:=List.any_eq_false.2 fun t ht=>by rw [(g7 t.l (List.mem_map.2 ⟨t,ht,rfl⟩)).2];simp
 have hck:ck21 c l=0:=if_pos ⟨hc,hbs⟩
 have hus:usV c l=0:=by unfold usV;rw [if_neg (by omega),hck]
 have hv:=vol_7 h6
 refine ⟨by omega,hl,hck,fun h4=>?_,if_pos hck,?_,?_,?_⟩
 ·have hv2:7 ^ l.length≤7 ^ 4:=Nat.pow_le_pow_right (by omega) h4
  unfold aln19
  rw [if_neg (by rw [hus];simp),if_neg (by omega)]
 ·unfold colsC22
  split
  ·exact (alnW_ok hc (by omega) (by omega)).1
  ·exact alnP_ok hck hln fun t ht=>by have:=h6 t ht;have:=hln t ht;omega
 ·unfold made22
  rw [if_neg (by rw [hc];simp),if_neg (by rw [hh];simp)]
 ·unfold toks22
  rw [if_neg (by rw [hc];simp),if_neg (by rw [hh];simp)]
theorem collateP22_spec (c:Costs) (sec:ByteArray) (sg':List ByteArray) (A1:Option Addr) (c1:Nat) (l:List TS) (A2:Option Addr) (c2:Nat) (w:World) (hh:HdAt w sec sg' A1 c1 l A2 c2) (hl6:l.length≤6∨32<l.length) :
  Spec Tryz.prog 23 [c.val, .string sec, .slice A1 sg'.length c1, .slice A2 l.length c2] w (resP22 (made22 c sec sg' l).1 (toks22 c sec sg' l) (made22 c sec sg' l).2):=by
 refine spec_of sg Tryz.func23 rfl rfl rfl ?_
 refine T_op (OpT.box (cs:=c.cells) rfl rfl rfl rfl rfl rfl rfl (fun pc=>?_))
 repeat' (first|refine d1 ?_|(show T _ (.ops _ (_::_)::_) _ _ _;refine T_call rfl rfl rfl rfl rfl (fun w hw=>costPrg_spec c w) ?_)|(show ∀ _:Nat,T _ _ _ _ _;intro _))
 rename_i pr
 refine T_if rfl (fun h=>?_) (fun h=>?_)
 ·have hc:costE c≠0:=by simpa using h
  have e1:made22 c sec sg' l=(co0,1):=if_pos hc
  have e2:toks22 c sec sg' l=[]:=if_pos hc
  rw [e1,e2]
  repeat' (first|refine d1 ?_|fail)
  exact T_retM (vs:=[.agg (coL ByteArray.empty (.slice none 0 0) (.slice none 0 0) (.slice none 0 0)).toArray, .int .i64 1]) _ ⟨⟨pr,_,coL ByteArray.empty (.slice none 0 0) (.slice none 0 0) (.slice none 0 0),rfl,rfl,rfl,rfl,(fun h=>by cases h),rfl,rdAll⟩,rfl,trivial⟩ (co_nil1 _) ⟨((none,0),(none,0), .slice none 0 0),trivial,rfl,rfl⟩
 have hc:costE c=0:=by simpa using h
 repeat' (first|refine d1 ?_|(show T _ (.ops _ (_::_)::_) _ _ _;refine T_call rfl rfl rfl rfl rfl (fun w hw=>sources22_spec sec sg' A1 c1 l A2 c2 w (hh.cls hw)) ?_)|fail)
 refine T_if rfl (fun h2=>?_) (fun h2=>?_)
 ·have hd:head22 sec sg' (l.map TS.l)≠0:=by simpa using h2
  have e1:made22 c sec sg' l=(co0,head22 sec sg' (l.map TS.l)):=by unfold made22;rw [if_neg (by rw [hc];simp),if_pos hd]
  have e2:toks22 c sec sg' l=[]:=by unfold toks22;rw [if_neg (by rw [hc];simp),if_pos hd]
  rw [e1,e2]
  repeat' (first|refine d1 ?_|fail)
  exact T_retM (vs:=[.agg (coL ByteArray.empty (.slice none 0 0) (.slice none 0 0) (.slice none 0 0)).toArray, .int .i64 (head22 sec sg' (l.map TS.l))]) _ ⟨⟨pr,_,coL ByteArray.empty (.slice none 0 0) (.slice none 0 0) (.slice none 0 0),rfl,rfl,rfl,rfl,(fun h=>by cases h),rfl,rdAll⟩,rfl,trivial⟩ (co_nil1 _) ⟨((none,0),(none,0), .slice none 0 0),trivial,rfl,rfl⟩
 have hd:head22 sec sg' (l.map TS.l)=0:=by simpa using h2
 obtain⟨f1,f2,f3,f4,f5,f6,f7,f8⟩:=made22_facts hc hd hh.ok.len (fun t ht=>(hh.tok t ht).1)
 have hle:=(head22_iff.1 hd).le
 have hg:Grp w A2 l.length l:=hh.grp (by omega)
 have h6:l.length≤6:=by omega
 have ht6:∀ t∈l,t.n≤6:=fun t ht=>(hh.tok t ht).1
 have hv:=vol_7 ht6
 rw [f7,f8]
 repeat' (first|refine d1 ?_|(show T _ (.ops _ (_::_)::_) _ _ _;first|refine T_callE rfl rfl rfl rfl rfl (fun w hw=>cloneStr_spec A1 sg'.length c1 sg' w (rdSrc hh.s1 w hw) (by omega)) (fun x1 _=>?_)|refine T_callE rfl rfl rfl rfl rfl (fun w hw=>cloneS_spec A2 l.length c2 l w (rdSrc hh.s2 w hw) (by omega)) (fun x2 _=>?_)|refine T_call rfl rfl rfl rfl rfl (fun w hw=>size22_spec A2 l.length c2 l w (hg.cls hw) f1 h6 ht6) ?_)|(show ∀ _:Nat,T _ _ _ _ _;intro _))
 rename_i pt
 refine T_if rfl (fun h4=>?_) (fun h4=>?_)
 ·have hb:l.length≤4:=by simp only [Bool.and_eq_true,decide_eq_true_eq] at h4;omega
  have eC:colsC22 c l=alnW c l:=if_pos hb
  rw [eC]
  repeat' (first|refine d1 ?_|(show T _ (.ops _ (_::_)::_) _ _ _;refine T_op (OpT.call rfl rfl rfl rfl rfl (fun w hw=>align19_spec c A2 l.length c2 l w (hg.cls hw)) ?_))|fail)
  rintro v R ⟨y,-,rfl,rfl⟩
  rw [f4 hb]
  refine T_le (H':=[dat [y] [rowsD (alnW c l)],blk pt (coL sec (.slice x1.1 sg'.length x1.2) (.slice x2.1 l.length x2.2) (.slice none 0 0)) 26,row 47 1 x2.1 x2.2 l.length (l.map TS.val),row 9 1 x1.1 x1.2 sg'.length (sg'.map Value.string),blk pr (coL ByteArray.empty (.slice none 0 0) (.slice none 0 0) (.slice none 0 0)) 26,blk pc c.cells 51]) (Hle.refl _) ?_
  refine T_open fun p hp=>?_
  obtain⟨Ay,cy,csy,rfl,-⟩:=hp.tab
  refine T_le (H':=[blk pt (coL sec (.slice x1.1 sg'.length x1.2) (.slice x2.1 l.length x2.2) (.slice none 0 0)) 26,blk pr (coL ByteArray.empty (.slice none 0 0) (.slice none 0 0) (.slice none 0 0)) 26,fz p,row 47 1 x2.1 x2.2 l.length (l.map TS.val),row 9 1 x1.1 x1.2 sg'.length (sg'.map Value.string)]) Hle.srt ?_
  repeat' (first|refine d1 ?_|fail)
  refine T_if rfl (fun h5=>by exfalso;simp at h5) (fun _=>?_)
  repeat' (first|refine d1 ?_|fail)
  exact T_retM (vs:=[.agg (coL sec (.slice x1.1 sg'.length x1.2) (.slice x2.1 l.length x2.2) (.slice Ay (alnW c l).length cy)).toArray, .int .i64 0]) _ ⟨⟨pr,_,coL sec (.slice x1.1 sg'.length x1.2) (.slice x2.1 l.length x2.2) (.slice Ay (alnW c l).length cy),rfl,rfl,rfl,rfl,(fun h=>by cases h),rfl,rdAll⟩,rfl,trivial⟩ (((Hle.tail _ _).trans (Hle.tail _ _)).trans ((co_join hp).trans (Hle.nth 0 rfl))) ⟨(x1,x2, .slice Ay (alnW c l).length cy),trivial,rfl,rfl⟩
 ·have hb:¬ l.length≤4:=by intro h9;have hv2:7 ^ l.length≤7 ^ 4:=Nat.pow_le_pow_right (by omega) h9;exact absurd h4 (by simp;omega)
  have eC:colsC22 c l=alnP c l:=if_neg hb
  rw [eC]
  repeat' (first|refine d1 ?_|(show T _ (.ops _ (_::_)::_) _ _ _;refine T_op (OpT.call rfl rfl rfl rfl rfl (fun w hw=>alignPrg21_spec c A2 l.length c2 l w (hg.cls hw) (fun t ht=>by have:=ht6 t ht;omega)) ?_))|fail)
  rintro v R ⟨y,-,rfl,rfl⟩
  rw [f5]
  refine T_le (H':=[dat [y] [rowsD (alnP c l)],blk pt (coL sec (.slice x1.1 sg'.length x1.2) (.slice x2.1 l.length x2.2) (.slice none 0 0)) 26,row 47 1 x2.1 x2.2 l.length (l.map TS.val),row 9 1 x1.1 x1.2 sg'.length (sg'.map Value.string),blk pr (coL ByteArray.empty (.slice none 0 0) (.slice none 0 0) (.slice none 0 0)) 26,blk pc c.cells 51]) (Hle.refl _) ?_
  refine T_open fun p hp=>?_
  obtain⟨Ay,cy,csy,rfl,-⟩:=hp.tab
  refine T_le (H':=[blk pt (coL sec (.slice x1.1 sg'.length x1.2) (.slice x2.1 l.length x2.2) (.slice none 0 0)) 26,blk pr (coL ByteArray.empty (.slice none 0 0) (.slice none 0 0) (.slice none 0 0)) 26,fz p,row 47 1 x2.1 x2.2 l.length (l.map TS.val),row 9 1 x1.1 x1.2 sg'.length (sg'.map Value.string)]) Hle.srt ?_
  repeat' (first|refine d1 ?_|fail)
  refine T_if rfl (fun h5=>by exfalso;simp at h5) (fun _=>?_)
  repeat' (first|refine d1 ?_|fail)
  exact T_retM (vs:=[.agg (coL sec (.slice x1.1 sg'.length x1.2) (.slice x2.1 l.length x2.2) (.slice Ay (alnP c l).length cy)).toArray, .int .i64 0]) _ ⟨⟨pr,_,coL sec (.slice x1.1 sg'.length x1.2) (.slice x2.1 l.length x2.2) (.slice Ay (alnP c l).length cy),rfl,rfl,rfl,rfl,(fun h=>by cases h),rfl,rdAll⟩,rfl,trivial⟩ (((Hle.tail _ _).trans (Hle.tail _ _)).trans ((co_join hp).trans (Hle.nth 0 rfl))) ⟨(x1,x2, .slice Ay (alnP c l).length cy),trivial,rfl,rfl⟩
end Go.Proofs.YtefieebkankfoaaGreatDoor
namespace Go.Proofs.YtefieebkankfoaaGreatDoor
open Go.RowKit Go.Shelf Go.Proofs
set_option maxRecDepth 100000
set_option maxHeartbeats 1000000

end Go.Proofs.YtefieebkankfoaaGreatDoor
namespace Go.Proofs.YtefieebkankfoaaGreatDoor
open Go.RowKit Go.Shelf Go.Proofs
set_option maxRecDepth 100000
set_option maxHeartbeats 1000000

theorem words22_spec (A:Option Addr) (n ca:Nat) (l:List ByteArray) (w:World) (hs:Src w 1 A n (l.map Value.string)) (hn:l.length=n) (hnb:n≤1000) :
  Spec Tryz.prog 22 [.slice A n ca] w (fun v R=>∃ x:Option Addr × Nat,True∧v = .slice x.1 n x.2∧R=[row 79 6 x.1 x.2 n ((l.map tokS).flatMap Tok.cells)]):=by
 refine spec_of sg Tryz.func22 rfl rfl rfl ?_
 repeat' (first|refine d1 ?_|fail)
 refine T_nilrow 79 6 ?_
 refine T_loopX (fun s:Nat × (Option Addr × Nat)=>[(8, .int .i64 (s.1:Nat)),(3, .slice s.2.1 s.1 s.2.2)]) (fun s=>[row 79 6 s.2.1 s.2.2 s.1 (((l.take s.1).map tokS).flatMap Tok.cells)]) (fun s=>s.1≤n) (fun s=>n - s.1) (0,(none,0)) (Nat.zero_le _) ?_
 rintro⟨k,⟨A3,c3⟩⟩ hk
 dsimp only at hk ⊢
 repeat' (first|refine d1 ?_|fail)
 refine T_if rfl (fun h=>?_) (fun h=>?_)
 ·simp only [decide_eq_true_eq] at h
  obtain⟨b,o,rfl⟩:=hs.base (by omega)
  obtain⟨s,hsk⟩:∃ s,l[k]?=some s:=⟨_,List.getElem?_eq_getElem (by omega)⟩
  have hr:RdC w b (o+(k:Int).toNat * 1) [.string s]:=by
   have h9:=(hs.get1 (i:=k) (by omega) (by rw [List.getElem?_map,hsk];rfl)).2
   rw [Nat.mul_one] at h9
   rw [off1];exact h9
  repeat' (first|refine d1 ?_|(show T _ (.ops _ (_::_)::_) _ _ _;refine T_op (OpT.append (A:=A3) rfl rfl rfl rfl rfl rfl rfl rfl rfl rfl (fun w hw=>Src.own hw rfl) rfl (by dsimp only;omega) (by omega) (fun A' cap' hA'=>?_)))|(show ∀ _:Nat,T _ _ _ _ _;intro _))
  refine T_backX (k+1,(A',cap')) (by dsimp only;omega) (by dsimp only;omega) (hG:=?_)
  dsimp only
  rw [take_snoc _ _ _ hsk,List.map_append,List.flatMap_append]
  exact Hle.tail _ _
 ·simp only [decide_eq_false_iff_not] at h
  obtain rfl:k=n:=by omega
  rw [← hn,List.take_length]
  repeat' (first|refine d1 ?_|(show T _ (.code .ret::_) _ _ _;refine T_retV _ rfl (Hle.refl _) ⟨(A3,c3),trivial,rfl,rfl⟩))
def s22d:ByteArray:=⟨#[100,101,117,115]⟩
def s22e:ByteArray:=⟨#[101,115,116]⟩
def s22n:ByteArray:=⟨#[110,111,110]⟩
def s22A:ByteArray:=⟨#[65]⟩
def s22B:ByteArray:=⟨#[66]⟩
def s22P:ByteArray:=⟨#[65,124,100,101,117,115,124,124,101,115,116,10,66,124,100,101,117,115,124,110,111,110,124,101,115,116,10]⟩
def aw22C:Costs:=⟨40,5,20,50⟩
def aw22a:List Tok:=[s22d,s22e].map tokS
def aw22b:List Tok:=[s22d,s22n,s22e].map tokS
def aw22l (x1 x2:Option Addr × Nat):List TS:=[⟨x1.1,2,x1.2,aw22a⟩,⟨x2.1,3,x2.2,aw22b⟩]
def aw22c:List (List Int):=[[0,0],[-1,1],[1,2]]
def aw22x:Co:=⟨sA,[s22A,s22B],[aw22a,aw22b],aw22c⟩
theorem aw22K:costE aw22C=0:=by decide +kernel
theorem aw22H:head22 sA [s22A,s22B] [aw22a,aw22b]=0:=by decide +kernel
theorem aw22W:alnW aw22C (aw22l (none,0) (none,0))=aw22c:=by decide +kernel
theorem aw22s:(∀ x∈aw22a,x.small)∧(∀ x∈aw22b,x.small):=by decide +kernel
theorem aw22t:(∀ x∈aw22a,x.text.size≤12)∧(∀ x∈aw22b,x.text.size≤12):=by decide +kernel
theorem aw22M (x1 x2:Option Addr × Nat):made22 aw22C sA [s22A,s22B] (aw22l x1 x2)=(aw22x,0)∧toks22 aw22C sA [s22A,s22B] (aw22l x1 x2)=aw22l x1 x2∧Ok22 aw22x:=by
 have hh:head22 sA [s22A,s22B] ((aw22l x1 x2).map TS.l)=0:=aw22H
 obtain⟨f1,f2,f3,f4,f5,f6,f7,f8⟩:=made22_facts (l:=aw22l x1 x2) aw22K hh (List.forall_mem_cons.2 ⟨rfl,List.forall_mem_cons.2 ⟨rfl,fun t h=>by cases h⟩⟩) (List.forall_mem_cons.2 ⟨Nat.le_of_ble_eq_true rfl,List.forall_mem_cons.2 ⟨Nat.le_of_ble_eq_true rfl,fun t h=>by cases h⟩⟩)
 have eC:colsC22 aw22C (aw22l x1 x2)=aw22c:=by
  unfold colsC22
  rw [if_pos (by show 2≤4;omega)]
  exact aw22W
 rw [eC] at f6 f7
 exact⟨f7,f8,⟨head22_iff.1 aw22H,f6⟩⟩
theorem aw22S:Small22 aw22x :=
 ⟨List.forall_mem_cons.2 ⟨⟨Nat.le_of_ble_eq_true rfl,aw22s.1⟩,List.forall_mem_cons.2 ⟨⟨Nat.le_of_ble_eq_true rfl,aw22s.2⟩,fun t h=>by cases h⟩⟩, .inl (Nat.le_of_ble_eq_true rfl),by decide,by decide,by decide,by decide,by decide,
  List.forall_mem_cons.2 ⟨aw22t.1,List.forall_mem_cons.2 ⟨aw22t.2,fun t h=>by cases h⟩⟩⟩
theorem aw22P:printV22 aw22x=(s22P,0):=by
 rw [printV22_ok aw22S (aw22M (none,0) (none,0)).2.2]
 have e:print22 aw22x=s22P.data.toList:=by decide +kernel
 rw [e]
theorem aw22F:findV22 aw22x 0 1=(2,0):=by
 have h1:=chk22_iff.2 (aw22M (none,0) (none,0)).2.2
 have h2:at22 aw22x 0 1=2:=by decide +kernel
 unfold findV22
 rw [if_neg (by rw [h1];simp),if_neg (by decide)]
 exact congrArg (fun z=>(z,(0:Int))) h2
theorem aw22N:chk22 ⟨sA,[],[],[]⟩=5:=by
 have e:head22 sA [] []=5:=by decide +kernel
 unfold chk22
 show (if head22 sA [] []≠0 then head22 sA [] [] else _)=_
 rw [e]
 rfl
theorem srcRow22 {w0 w:World} {H:List HA} {A:Option Addr} {e sz cap n:Nat} {xs:List Value} {rb:HA→List HA} [FocusR H A e sz cap n xs rb] (hw:Cls w0 w H):Src w sz A n xs :=
 srcRw (C:=⟨sg,⟨0,[]⟩,w0,none,fun _ _=>True,fun _ _=>True,fun _ _ _=>True⟩) (e:=e) (cap:=cap) (rb:=rb) w hw
theorem aw22_hd {w w':World} (hst:Std w) {b4 bS:Nat} {x1 x2:Option Addr × Nat} {H:List HA}
  (hw:Cls w w' (blk b4 ((aw22l x1 x2).map TS.val) 47::blk bS ([s22A,s22B].map Value.string) 9::row 79 6 x1.1 x1.2 2 (aw22a.flatMap Tok.cells)::row 79 6 x2.1 x2.2 3 (aw22b.flatMap Tok.cells)::H)) :
  HdAt w' sA [s22A,s22B] (some ⟨bS,0,none⟩) 2 (aw22l x1 x2) (some ⟨b4,0,none⟩) 2 :=
 ⟨hst.cls hw,Src.own (b:=bS) hw rfl,Nat.le_refl _,Src.own (b:=b4) hw rfl,
  ⟨List.forall_mem_cons.2 ⟨srcRow22 hw,List.forall_mem_cons.2 ⟨srcRow22 hw,fun t h=>by cases h⟩⟩,List.forall_mem_cons.2 ⟨rfl,List.forall_mem_cons.2 ⟨rfl,fun t h=>by cases h⟩⟩,List.forall_mem_cons.2 ⟨Nat.le_of_ble_eq_true rfl,List.forall_mem_cons.2 ⟨Nat.le_of_ble_eq_true rfl,fun t h=>by cases h⟩⟩⟩,
  by decide,by decide,by decide,Nat.le_of_ble_eq_true rfl,
  List.forall_mem_cons.2 ⟨⟨Nat.le_of_ble_eq_true rfl,aw22s.1⟩,List.forall_mem_cons.2 ⟨⟨Nat.le_of_ble_eq_true rfl,aw22s.2⟩,fun t h=>by cases h⟩⟩,
  List.forall_mem_cons.2 ⟨aw22t.1,List.forall_mem_cons.2 ⟨aw22t.2,fun t h=>by cases h⟩⟩⟩
theorem coNone {w:World} (hst:Std w):CoAt w ⟨sA,[],[],[]⟩ none 0 [] none 0 (.slice none 0 0) :=
 ⟨⟨hst,⟨rfl,fun h=>absurd h (Nat.not_lt_zero _)⟩,Nat.le_refl _,⟨rfl,fun h=>absurd h (Nat.not_lt_zero _)⟩,⟨fun t h=>(by cases h),fun t h=>(by cases h),fun t h=>(by cases h)⟩,by decide,fun t h=>(by cases h),Nat.zero_le _,Nat.zero_le _,fun t h=>(by cases h),fun t h=>(by cases h)⟩,rfl,
  Rd.s none 0 0 1 [] rfl (Nat.le_refl _) (by omega) (fun h=>absurd h (by omega)) .nil .nil⟩
theorem awake22_spec (w:World) (hst:Std w):Spec Tryz.prog 7 [] w (fun v R=>v = .bool true∧R=[]):=by
 refine spec_of sg Tryz.func7 rfl rfl rfl ?_
 repeat' (first|refine d1 ?_|(show T _ (.ops _ (_::_)::_) _ _ _;first|refine T_callE rfl rfl rfl rfl rfl (fun w hw=>words22_spec (some ⟨_,0,none⟩) 2 2 [s22d,s22e] w (Src.own hw rfl) rfl (by omega)) (fun x1 _=>?_)|refine T_callE rfl rfl rfl rfl rfl (fun w hw=>words22_spec (some ⟨_,0,none⟩) 3 3 [s22d,s22n,s22e] w (Src.own hw rfl) rfl (by omega)) (fun x2 _=>?_))|(show ∀ _:Nat,T _ _ _ _ _;intro _))
 rename_i b1 _ b2 _ b4 bS
 refine T_le (H':=[blk bS ([s22A,s22B].map Value.string) 9,blk b4 ((aw22l x1 x2).map TS.val) 47,row 79 6 x2.1 x2.2 3 (aw22b.flatMap Tok.cells),blk b2 ([s22d,s22n,s22e].map Value.string) 9,row 79 6 x1.1 x1.2 2 (aw22a.flatMap Tok.cells),blk b1 ([s22d,s22e].map Value.string) 9]) (Hle.refl _) ?_
 refine T_le (H':=[blk b4 ((aw22l x1 x2).map TS.val) 47,blk bS ([s22A,s22B].map Value.string) 9,row 79 6 x1.1 x1.2 2 (aw22a.flatMap Tok.cells),row 79 6 x2.1 x2.2 3 (aw22b.flatMap Tok.cells)]) Hle.srt2 ?_
 refine T_op (OpT.call rfl rfl rfl rfl rfl (fun w hw=>collateP22_spec aw22C sA [s22A,s22B] (some ⟨bS,0,none⟩) 2 (aw22l x1 x2) (some ⟨b4,0,none⟩) 2 w (aw22_hd hst hw) (.inl (Nat.le_of_ble_eq_true rfl))) ?_)
 rintro v R ⟨⟨y1,y2,y3⟩,-,rfl,rfl⟩
 rw [(aw22M x1 x2).1,(aw22M x1 x2).2.1]
 dsimp only
 refine T_open fun p hp=>?_
 obtain⟨Ak,ck,csk,rfl,-⟩:=hp.cons_inv.2.cons_inv.2.tab
 repeat' (first|refine d1 ?_|(show ∀ _:Nat,T _ _ _ _ _;intro _))
 rename_i c0 sS r0 r1 r2 tb pw
 refine T_le (H':=[blk pw (coL sA (.slice (some ⟨sS,0,none⟩) 2 2) (.slice (some ⟨b4,0,none⟩) 2 2) (.slice (some ⟨tb,0,none⟩) 3 3)) 26,blk tb [.slice (some ⟨r0,0,none⟩) 2 2, .slice (some ⟨r1,0,none⟩) 2 2, .slice (some ⟨r2,0,none⟩) 2 2] 29,blk r2 [.int .i64 1, .int .i64 2] 3,blk r1 [.int .i64 (-1), .int .i64 1] 3,blk r0 [.int .i64 0, .int .i64 0] 3,blk sS ([s22A,s22B].map Value.string) 9,blk c0 (coL aw22x.sec (.slice y1.1 aw22x.sg.length y1.2) (.slice y2.1 (aw22l x1 x2).length y2.2) (.slice Ak aw22x.cols.length ck)) 26,fz p,blk b4 ((aw22l x1 x2).map TS.val) 47,blk bS ([s22A,s22B].map Value.string) 9,row 79 6 x1.1 x1.2 2 (aw22a.flatMap Tok.cells),row 79 6 x2.1 x2.2 3 (aw22b.flatMap Tok.cells)]) (Hle.refl _) ?_
 refine T_le (H':=[blk b4 ((aw22l x1 x2).map TS.val) 47,blk sS ([s22A,s22B].map Value.string) 9,row 79 6 x1.1 x1.2 2 (aw22a.flatMap Tok.cells),row 79 6 x2.1 x2.2 3 (aw22b.flatMap Tok.cells),blk tb [.slice (some ⟨r0,0,none⟩) 2 2, .slice (some ⟨r1,0,none⟩) 2 2, .slice (some ⟨r2,0,none⟩) 2 2] 29,blk r0 [.int .i64 0, .int .i64 0] 3,blk r1 [.int .i64 (-1), .int .i64 1] 3,blk r2 [.int .i64 1, .int .i64 2] 3,blk pw (coL sA (.slice (some ⟨sS,0,none⟩) 2 2) (.slice (some ⟨b4,0,none⟩) 2 2) (.slice (some ⟨tb,0,none⟩) 3 3)) 26,blk c0 (coL aw22x.sec (.slice y1.1 aw22x.sg.length y1.2) (.slice y2.1 (aw22l x1 x2).length y2.2) (.slice Ak aw22x.cols.length ck)) 26,fz p]) Hle.srt2 ?_
 have hX:∀ {w':World} {H:List HA},Cls w w' (blk b4 ((aw22l x1 x2).map TS.val) 47::blk sS ([s22A,s22B].map Value.string) 9::row 79 6 x1.1 x1.2 2 (aw22a.flatMap Tok.cells)::row 79 6 x2.1 x2.2 3 (aw22b.flatMap Tok.cells)::blk tb [.slice (some ⟨r0,0,none⟩) 2 2, .slice (some ⟨r1,0,none⟩) 2 2, .slice (some ⟨r2,0,none⟩) 2 2] 29::blk r0 [.int .i64 0, .int .i64 0] 3::blk r1 [.int .i64 (-1), .int .i64 1] 3::blk r2 [.int .i64 1, .int .i64 2] 3::H)→CoAt w' aw22x (some ⟨sS,0,none⟩) 2 (aw22l x1 x2) (some ⟨b4,0,none⟩) 2 (.slice (some ⟨tb,0,none⟩) 3 3):=fun hw =>
  ⟨aw22_hd hst hw,rfl,rd_lit (n:=3) (Src.own (b:=tb) hw rfl) (by omega) ((rd_ints (b:=r0) (n:=2) (r:=[0,0]) (Src.own (b:=r0) hw rfl) (by omega)).append ((rd_ints (b:=r1) (n:=2) (r:=[-1,1]) (Src.own (b:=r1) hw rfl) (by omega)).append (rd_ints (b:=r2) (n:=2) (r:=[1,2]) (Src.own (b:=r2) hw rfl) (by omega))))⟩
 repeat' (first|refine d1 ?_|(show T _ (.ops _ (_::_)::_) _ _ _;first|refine T_call rfl rfl rfl rfl rfl (fun w hw=>printP22_spec aw22x (some ⟨sS,0,none⟩) 2 (aw22l x1 x2) (some ⟨b4,0,none⟩) 2 (.slice (some ⟨tb,0,none⟩) 3 3) w (hX hw) aw22S) ?_|refine T_call rfl rfl rfl rfl rfl (fun w hw=>findP22_spec aw22x (some ⟨sS,0,none⟩) 2 (aw22l x1 x2) (some ⟨b4,0,none⟩) 2 (.slice (some ⟨tb,0,none⟩) 3 3) 0 1 w (hX hw)) ?_)|fail)
 rw [aw22P,aw22F]
 have hY:∀ {w':World} {H:List HA},Cls w w' (blk b4 ((aw22l x1 x2).map TS.val) 47::blk sS ([s22A,s22B].map Value.string) 9::row 79 6 x1.1 x1.2 2 (aw22a.flatMap Tok.cells)::row 79 6 x2.1 x2.2 3 (aw22b.flatMap Tok.cells)::blk tb [.slice (some ⟨r0,0,none⟩) 2 2, .slice (some ⟨r1,0,none⟩) 2 2, .slice (some ⟨r2,0,none⟩) 2 2] 29::blk r0 [.int .i64 0, .int .i64 0] 3::blk r1 [.int .i64 (-1), .int .i64 1] 3::blk r2 [.int .i64 1, .int .i64 2] 3::H)→CoSm w' aw22x (some ⟨sS,0,none⟩) 2 (aw22l x1 x2) (some ⟨b4,0,none⟩) 2 (.slice (some ⟨tb,0,none⟩) 3 3):=fun hw =>
  ⟨rd_lit (n:=2) (hX hw).hd.s1 (by omega) (Rd.vals _),(hX hw).hd.s2,Nat.le_of_ble_eq_true rfl,(hX hw).hd.ok,rfl,(hX hw).cols⟩
 repeat' (first|refine d1 ?_|(show T _ (.ops _ (_::_)::_) _ _ _;first|refine T_callC rfl rfl rfl rfl rfl rfl rfl (fun _ w hw=>sameR22_spec aw22x aw22x y1.1 (some ⟨sS,0,none⟩) y1.2 2 (aw22l x1 x2) (aw22l x1 x2) y2.1 (some ⟨b4,0,none⟩) y2.2 2 _ _ w (ofP22 hp rfl hw (hX hw).hd.ok) (hY hw)) ?_|refine T_callC rfl rfl rfl rfl rfl rfl rfl (fun _ w hw=>sameP22_spec aw22x aw22x y1.1 (some ⟨sS,0,none⟩) y1.2 2 (aw22l x1 x2) (aw22l x1 x2) y2.1 (some ⟨b4,0,none⟩) y2.2 2 _ _ w (ofP22 hp rfl hw (hX hw).hd.ok) (hY hw)) ?_|refine T_callC rfl rfl rfl rfl rfl rfl rfl (fun _ w hw=>checkP22_spec ⟨sA,[],[],[]⟩ none 0 [] none 0 (.slice none 0 0) w (coNone (hst.cls hw))) ?_)|fail)
 rw [same22_refl,aw22N,show decide ((s22P,(0:Int)).1=(⟨#[65,124,100,101,117,115,124,124,101,115,116,10,66,124,100,101,117,115,124,110,111,110,124,101,115,116,10]⟩:ByteArray))=true from decide_eq_true rfl]
 exact T_retM (vs:=[.bool true]) [] ⟨rfl,trivial⟩ (Hle.none _) ⟨rfl,rfl⟩
end Go.Proofs.YtefieebkankfoaaGreatDoor
namespace Go.Proofs.YtefieebkankfoaaGreatDoor
open Go.RowKit Go.Shelf Go.Proofs
set_option maxRecDepth 100000
set_option maxHeartbeats 1000000

structure CoAr (w:World) (x:Co) (A1:Option Addr) (c1:Nat) (l:List TS) (A2:Option Addr) (c2:Nat) (y3:Value):Prop where
 r1:Rd (wr w) [.slice A1 x.sg.length c1] [strsD x.sg]
 s1:Src w 1 A1 x.sg.length (x.sg.map Value.string)
 b1:x.sg.length≤c1
 b1':x.sg.length≤9223372036854775807
 s2:Src w 1 A2 l.length (l.map TS.val)
 b2:l.length≤9223372036854775807
 ok:TsOk w l
 m:l.map TS.l=x.m
 cols:Rd (wr w) [y3] [rowsD x.cols]
theorem co_arg {w:World} {x:Co} {y1 y2 y3:Value} (h:CoRd w y1 y2 y3 x):∃ (A1:Option Addr) (c1:Nat) (l:List TS) (A2:Option Addr) (c2:Nat),y1 = .slice A1 x.sg.length c1∧y2 = .slice A2 l.length c2∧CoAr w x A1 c1 l A2 c2 y3:=by
 obtain⟨h1,h2,h3⟩:=h
 obtain⟨A1,c1,rfl,g1,g2,g3⟩:=h1.strs
 obtain⟨A2,c2,l,rfl,g4,g5,g6,g7⟩:=h2.toksL
 exact⟨A1,c1,l,A2,c2,rfl,rfl,⟨h1,g3,g1,by omega,g5,g4,g6,g7,h3⟩⟩
theorem CoAr.cls {w0 w:World} {H:List HA} {x:Co} {A1 A2:Option Addr} {c1 c2:Nat} {l:List TS} {y3:Value} (h:CoAr w0 x A1 c1 l A2 c2 y3) (hw:Cls w0 w H):CoAr w x A1 c1 l A2 c2 y3 :=
 ⟨h.r1.old hw,h.s1.old hw,h.b1,h.b1',h.s2.old hw,h.b2,⟨fun t ht=>src_below (h.ok.src t ht) hw.below,h.ok.len,h.ok.bd⟩,h.m,h.cols.old hw⟩
theorem CoAr.sm {w:World} {x:Co} {A1 A2:Option Addr} {c1 c2:Nat} {l:List TS} {y3:Value} (h:CoAr w x A1 c1 l A2 c2 y3):CoSm w x A1 c1 l A2 c2 y3:=⟨h.r1,h.s2,h.b2,h.ok,h.m,h.cols⟩
theorem CoAr.at {w:World} {x:Co} {A1 A2:Option Addr} {c1 c2:Nat} {l:List TS} {y3:Value} (h:CoAr w x A1 c1 l A2 c2 y3) (hst:Std w) (hs:Small22 x):CoAt w x A1 c1 l A2 c2 y3 :=
 have hl:x.m.length=l.length:=by rw [← h.m,List.length_map]
 have hm:∀ t∈l,t.l∈x.m:=fun t ht=>by rw [← h.m];exact List.mem_map_of_mem ht
 ⟨⟨hst,h.s1,h.b1,h.s2,h.ok,hs.sec,hs.sig,hs.sg,by have:=hs.len;omega,fun t ht=>⟨by have:=(hs.tok _ (hm t ht)).1;rw [h.ok.len t ht] at this;exact this,(hs.tok _ (hm t ht)).2⟩,fun t ht=>hs.txt _ (hm t ht)⟩,h.m,h.cols⟩
theorem CoAr.great {w:World} {x:Co} {A1 A2:Option Addr} {c1 c2:Nat} {l:List TS} {y3:Value} (h:CoAr w x A1 c1 l A2 c2 y3) :
  Spec Tryz.prog 20 [.agg (coL x.sec (.slice A1 x.sg.length c1) (.slice A2 l.length c2) y3).toArray] w (fun v R=>v = .bool (great22 x)∧R=[]) :=
 great22_spec x A1 c1 l A2 c2 y3 w h.s1 h.b1' h.s2 h.ok h.b2 h.m h.cols
noncomputable def fine22 (x:Co):Bool := !great22 x && decide (chk22 x=0)
theorem fine22_iff {x:Co}:fine22 x=true↔Small22 x∧Ok22 x∧great22 x=false:=by
 unfold fine22
 rw [Bool.and_eq_true,Bool.not_eq_true',decide_eq_true_eq]
 exact⟨fun h=>⟨great22_no h.1,chk22_iff.1 h.2,h.1⟩,fun h=>⟨h.2.2,chk22_iff.2 h.2.1⟩⟩
theorem fine22_spec (x:Co) (A1:Option Addr) (c1:Nat) (l:List TS) (A2:Option Addr) (c2:Nat) (y3:Value) (w:World) (hst:Std w) (h:CoAr w x A1 c1 l A2 c2 y3) :
  Spec Tryz.prog 6 [.agg (coL x.sec (.slice A1 x.sg.length c1) (.slice A2 l.length c2) y3).toArray] w (fun v R=>v = .bool (fine22 x)∧R=[]):=by
 obtain⟨Ak,ck,csk,rfl,-⟩:=h.cols.tabS
 refine spec_of sg Tryz.func6 rfl rfl rfl ?_
 repeat' (first|(show T _ (.ops _ (⟨_, .box _ _,_,_,_,_⟩::_)::_) _ _ _;refine T_op (OpT.box (cs:=coL x.sec (.slice A1 x.sg.length c1) (.slice A2 l.length c2) (.slice Ak x.cols.length ck)) rfl rfl rfl rfl rfl rfl rfl (fun _=>?_)))|refine d1 ?_|(show T _ (.ops _ (_::_)::_) _ _ _;first|refine T_call rfl rfl rfl rfl rfl (fun w hw=>(h.cls hw).great) ?_|refine T_callC rfl rfl rfl rfl rfl rfl rfl (fun hG w hw=>checkR22_spec x A1 c1 l A2 c2 (.slice Ak x.cols.length ck) w ((h.cls hw).at (hst.cls hw) (great22_no (by have h1:(!great22 x)=true:=hG.1;simpa using h1)))) ?_)|fail)
 repeat' (first|(show T _ (.code .ret::_) _ _ _;refine T_retV [] rfl (Hle.none _) ⟨rfl,rfl⟩))
end Go.Proofs.YtefieebkankfoaaGreatDoor
namespace Go.Proofs.YtefieebkankfoaaGreatDoor
open Go.RowKit Go.Shelf Go.Proofs
set_option maxRecDepth 100000
set_option maxHeartbeats 1000000

theorem textV22_val {x:Co} (h:Ok22 x) {i:Nat} (hi:i<x.sg.length):textV22 x (i:Int)=(words22 x i,0):=by
 unfold textV22
 rw [if_neg (by rw [chk22_iff.2 h];simp),if_neg (by omega),Int.toNat_natCast]
end Go.Proofs.YtefieebkankfoaaGreatDoor
namespace Go.Proofs.YtefieebkankfoaaGreatDoor
open Go.RowKit Go.Shelf
set_option maxRecDepth 100000
set_option maxHeartbeats 1000000

section
variable {C:Cx} {all:Array Oper} {o:Oper} {env:Env} {ec:EnvC} {H:List HA} {Φ:Env→EnvC→List HA→Prop}
theorem OpT.effN (hg:gOf all env ec o=some []) (hd:o.dst=none)
  (hrun:∀ a w,Agrees C.N all env ec a→Cls C.w0 w H→∃ v w' H',(execOp a.eval o).run C.S.P w = .ok (.value v) w'∧Cls C.w0 w' H'∧Φ env ec H'):OpT C all o env ec H Φ:=by
 intro a w ha hw K Q hK
 have hwn:=(wanted_iff ha hg).2 (Holds.nil _ _)
 refine ⟨fun _=>?_,fun hn=>(by rw [hwn] at hn;cases hn)⟩
 obtain⟨v,w',H',h1,h2,h3⟩:=hrun a w ha hw
 unfold Oper.wpIn
 refine ⟨about_Fr o _ w _,?_⟩
 rw [Oper.semAt_eq _ _ _ (gOf_def hg)]
 rw [h1]
 exact hK _ _ _ _ _ h3 (by rw [hd];exact ha) h2
def evCl (S:Sig) (env:Env) (ec:EnvC) (o:Oper):Option (Option Addr × Nat × TypeId) :=
 match o.op with
 | .call { callee := .builtin .clear,args:=xs,argTypes:=ts }=>match evL env ec [] xs.toList,ts.toList with
  | some [.slice A n _],[t]=>match S.ty t with
   | some ⟨.slice e,_,_,_⟩=>some (A,n,e)
   | _=>none
  | _,_=>none
 | _=>none
theorem zeroC_list {z:Value} (hz:z.cells = #[z]) (n:Nat):(Builtin.zeroCells z.cells n).toList=List.replicate n z:=by
 rw [hz]
 simp [Builtin.zeroCells]
 apply List.ext_getElem
 ·simp
 ·intro i h1 h2
  simp [Nat.mod_one]
theorem oneC_rep {z:Value} (h:z.oneCell'=true):∀ n,oneCells (List.replicate n z)=true
 | 0=>rfl
 | n+1=>by rw [List.replicate_succ,oneCells,h,oneC_rep h n];rfl
theorem OpT.clearR {g off k:Nat} {A':Option Addr} {e:TypeId} {ty:TyI} {cap n:Nat} {xs:List Value} {z:Value} {rb:HA→List HA} (hg:gOf all env ec o=some []) (he:evCl C.S env ec o=some (A',k,e)) (hd:o.dst=none)
  (ht:C.S.ty e=some ty) (hz0:ty.zero=z) (hz:z.cells = #[z]) (h1:z.oneCell'=true) [hf:FocusR H (some ⟨g,0,none⟩) e 1 cap n xs rb] (hA':0<k→A'=some ⟨g,off,none⟩) (hl:off+k≤n)
  (h:Φ env ec (rb (row e 1 (some ⟨g,0,none⟩) cap n (setL xs off (List.replicate k z))))):OpT C all o env ec H Φ:=by
 obtain⟨i,hi,hrb⟩:=hf.at_
 refine OpT.effN hg hd fun a w ha hw=>?_
 obtain⟨F,f1,f2,f3⟩:=hw.sep
 have hil:i<H.length:=(List.getElem?_eq_some_iff.1 hi).1
 obtain⟨hxl,hrow⟩:=f1 i _ hi
 rcases hrow with⟨h9,_⟩|⟨g',cur,hA,hF,g1,g2,g3,g4⟩
 ·cases h9
 cases hA
 obtain⟨hbn,hb⟩:=f2 i g (.cells cur e (0,0)) hil (by rw [hF];simp [one])
 have hcl:cur.toList.length=cap:=by simpa using g3
 have hzv:=(Sig.tyOk ht).zeroValue w
 rw [hz0] at hzv
 obtain⟨w',k1,k2,k3,k4,k5,k6,k7⟩:=run_storeL C.S.P g e (List.replicate k z) 0 off cur.toList w (by simpa using hb) (by rw [hcl,List.length_replicate];omega) (oneC_rep h1 k)
 obtain⟨dst,op,ty0,pos,aft,gd⟩:=o
 unfold evCl at he
 dsimp only at he
 split at he
 ·rename_i ps ts
  split at he
  ·rename_i A1 n1 c1 t hps hts
   split at he
   ·rename_i e1 q1 q2 q3 hty
    cases he
    have hut:=(Sig.tyOk hty).fits
    simp only [Ty.fits] at hut
    have hargs:ps.map a.eval = #[.slice A' k c1]:=Array.ext' (by rw [Array.toList_map];exact evL_spec ha (Holds.nil _ _) hps)
    have hts':ts = #[t]:=Array.ext' hts
    have hcl2:(Builtin.clear_ #[t] ty0 #[.slice A' k c1]).run C.S.P w = .ok (.tuple #[]) w':=by
     rcases k with _|m
     ·have e9:w'=w:=by
       have h9:=k1
       simp only [List.replicate_zero,storeCells] at h9
       have h10:(pure ():Sem Unit).run C.S.P w = .ok () w:=rfl
       rw [h10] at h9
       injection h9 with _ h9
       exact h9.symm
      rw [e9]
      rcases A' with _|ad <;> simp [Builtin.clear_,run_underlying hut]
     ·have e9:=hA' (Nat.succ_pos _)
      subst e9
      simp [Builtin.clear_,run_underlying hut,hzv,zeroC_list hz,k1]
    refine ⟨.tuple #[],w',rb (row e (1) (some ⟨g,0,none⟩) cap n (setL xs off (List.replicate k z))),?_,⟨?_,?_⟩,h⟩
    ·simp [execOp,resolve,invoke,builtin,hargs,hts',hcl2]
    ·exact hw.below.trans ⟨k4,k5,k6,by omega,fun c hc=>k3 c (by omega)⟩
    ·rw [hrb]
     refine hw.sep.turn hi (fun f hf=>?_) (fun c hc _=>k3 c hc) k2 ?_
     ·obtain⟨_,hr⟩:=hf
      rcases hr with⟨h9,_⟩|⟨g',cur',hA',hF',_⟩
      ·cases h9
      ·cases hA';exact⟨_,hF'⟩
     ·refine ⟨by rw [setL_length];exact hxl, .inr ⟨g,_,rfl,rfl,g1,g2,by rw [List.size_toArray,setL_length,hcl,Nat.mul_one],?_⟩⟩
      rw [Nat.add_zero]
      show (setL cur.toList off (List.replicate k z)).take (n * 1)=_
      rw [setL_take _ _ _ (by rw [List.length_replicate];omega),g4]
   ·cases he
  ·cases he
 ·cases he
end
end Go.Proofs.YtefieebkankfoaaGreatDoor
namespace Go.Proofs.YtefieebkankfoaaGreatDoor
open Go.RowKit Go.Shelf
set_option maxRecDepth 100000
set_option maxHeartbeats 1000000

end Go.Proofs.YtefieebkankfoaaGreatDoor
namespace Go.Proofs.YtefieebkankfoaaGreatDoor
open Go.RowKit Go.Shelf Go.Proofs
set_option maxRecDepth 100000
set_option maxHeartbeats 1000000

end Go.Proofs.YtefieebkankfoaaGreatDoor
namespace Go.Proofs.YtefieebkankfoaaGreatDoor
open Go.RowKit Go.Shelf Go.Proofs
set_option maxRecDepth 100000
set_option maxHeartbeats 1000000

end Go.Proofs.YtefieebkankfoaaGreatDoor
namespace Go.Proofs.YtefieebkankfoaaGreatDoor
open Go.RowKit Go.Shelf Go.Proofs
set_option maxRecDepth 100000
set_option maxHeartbeats 1000000

end Go.Proofs.YtefieebkankfoaaGreatDoor
namespace Go.Proofs.YtefieebkankfoaaGreatDoor
open Go.RowKit Go.Shelf Go.Proofs
set_option maxRecDepth 100000
set_option maxHeartbeats 1000000

theorem count1_spec (s:ByteArray) (c:UInt8) (w:World):Spec Tryz.prog 62 [.string s, .string ⟨#[c]⟩] w (fun v A=>v = .int .i64 (s.data.toList.count c:Nat)∧A=[]) :=
 Calls.spec (enters_of rfl rfl rfl) (Tryz.strings_Count_one s c w)
theorem index1_spec (s:ByteArray) (c:UInt8) (w:World):Spec Tryz.prog 63 [.string s, .string ⟨#[c]⟩] w (fun v A=>v = .int .i64 (Lib.indexByte s.data.toList c)∧A=[]) :=
 Calls.spec (enters_of rfl rfl rfl) (Tryz.strings_Index_one s c w)

def ofB (l:List UInt8):ByteArray:=⟨l.toArray⟩
theorem ofB_data (s:ByteArray):ofB s.data.toList=s:=rfl
def pcs22 (c:UInt8) (s:ByteArray):List ByteArray:=(part22 c s.data.toList).map ofB
theorem part22_len (c:UInt8):∀ l:List UInt8,(part22 c l).length=l.count c+1
 | []=>rfl
 | x::r=>by
  have ih:=part22_len c r
  rw [part22_c]
  by_cases h:x=c
  ·rw [if_pos h,List.length_cons,ih,h,List.count_cons_self]
  ·rw [if_neg h,List.count_cons_of_ne h, ← ih]
   cases hp:part22 c r with
   | nil=>exact absurd hp (part22_ne c r)
   | cons a t=>rfl
theorem pcs22_len (c:UInt8) (s:ByteArray):(pcs22 c s).length=s.data.toList.count c+1:=by unfold pcs22;rw [List.length_map,part22_len]
theorem ext_list (s:ByteArray) (i j:Nat):(s.extract i j).data.toList=(s.data.toList.take j).drop i:=by
 rw [ByteArray.data_extract,Array.toList_extract,List.extract_eq_take_drop,List.drop_take]
theorem pcs22_step {c:UInt8} {s:ByteArray} {m:Nat} (h:Lib.indexByte s.data.toList c=(m:Int)):m<s.size∧pcs22 c s=s.extract 0 m::pcs22 c (s.extract (m+1) s.size):=by
 obtain⟨h1,h2⟩:=Lib.indexByte_some h
 have hm:m<s.data.toList.length:=(List.getElem?_eq_some_iff.1 h1).1
 have hsz:s.data.toList.length=s.size:=by simp
 refine ⟨by omega,?_⟩
 have e:s.data.toList=s.data.toList.take m++c::s.data.toList.drop (m+1):=by
  conv=>lhs;rw [← List.take_append_drop m s.data.toList]
  rw [List.drop_eq_getElem_cons hm]
  rw [List.getElem?_eq_getElem hm] at h1
  rw [Option.some.inj h1]
 have hn:c ∉ s.data.toList.take m:=fun hc=>by
  obtain⟨k,hk,e2⟩:=List.getElem_of_mem hc
  rw [List.length_take] at hk
  refine h2 k (by omega) ?_
  rw [List.getElem_take] at e2
  rw [List.getElem?_eq_getElem (by omega),e2]
 unfold pcs22
 conv=>lhs;rw [e]
 rw [part22_cons _ hn,List.map_cons]
 have e1:ofB (s.data.toList.take m)=s.extract 0 m:=by
  rw [← ofB_data (s.extract 0 m),ext_list,List.drop_zero]
 have e2:(s.extract (m+1) s.size).data.toList=s.data.toList.drop (m+1):=by rw [ext_list,List.take_of_length_le (by omega)]
 rw [e1,e2]
theorem pcs22_one {c:UInt8} {s:ByteArray} (h:(pcs22 c s).length=1):pcs22 c s=[s]:=by
 rw [pcs22_len] at h
 have hn:c ∉ s.data.toList:=List.count_eq_zero.1 (by omega)
 unfold pcs22
 rw [part22_none hn];rfl
theorem setStr {done:List ByteArray} {p:ByteArray} {i k off:Nat} (hd:done.length=i) (h:off=i) (hk:0<k):setL (done.map Value.string++List.replicate k (Value.string ByteArray.empty)) off [.string p]=(done++[p]).map Value.string++List.replicate (k - 1) (Value.string ByteArray.empty):=by
 subst h
 show (done.map Value.string++List.replicate k (Value.string ByteArray.empty)).set off (.string p)=_
 obtain⟨m,rfl⟩:∃ m,k=m+1:=⟨k - 1,by omega⟩
 rw [List.set_append_right _ _ (by rw [List.length_map];omega),List.length_map,hd,Nat.sub_self,List.replicate_succ,List.set_cons_zero,List.map_append,List.append_assoc]
 rfl
theorem genSplit_spec (s:ByteArray) (c:UInt8) (w:World) (hs:s.size≤1000000) :
  Spec Tryz.prog 38 [.string s, .string ⟨#[c]⟩, .int .i64 0, .int .i64 (-1)] w (fun v R=>∃ g:Nat,True∧v = .slice (some ⟨g,0,none⟩) (pcs22 c s).length (pcs22 c s).length∧R=[row 9 1 (some ⟨g,0,none⟩) (pcs22 c s).length (pcs22 c s).length ((pcs22 c s).map Value.string)]):=by
 have hlen:=pcs22_len c s
 have hcl:s.data.toList.count c≤s.size:=by
  have:=List.count_le_length (a:=c) (l:=s.data.toList)
  simpa using this
 refine spec_of sg Tryz.func38 rfl rfl rfl ?_
 repeat' (first|refine d1 ?_|refine dd ?_|(show ∀ _:Nat,T _ _ _ _ _;intro _))
 refine T_if rfl (fun h=>by exfalso;simp at h) (fun _=>?_)
 repeat' (first|refine d1 ?_|refine dd ?_|(show ∀ _:Nat,T _ _ _ _ _;intro _))
 refine T_if rfl (fun h=>by exfalso;revert h;simp) (fun _=>?_)
 repeat' (first|refine d1 ?_|refine dd ?_|(show ∀ _:Nat,T _ _ _ _ _;intro _))
 refine T_if rfl (fun _=>?_) (fun h=>by exfalso;simp at h)
 repeat' (first|refine d1 ?_|refine dd ?_|(show T _ (.ops _ (_::_)::_) _ _ _;first|refine T_call rfl rfl rfl rfl rfl (fun w hw=>count1_spec s c w) ?_|refine T_callC rfl rfl rfl rfl rfl rfl rfl (fun hg w hw=>count1_spec s c w) ?_)|(show T _ (.run _ _ (_::_) _ _::_) _ _ _;first|refine rc rfl rfl rfl rfl rfl rfl rfl (fun w hw=>count1_spec s c w) ?_|refine rcG rfl rfl rfl rfl rfl rfl rfl rfl rfl (fun hg w hw=>count1_spec s c w) ?_)|(show ∀ _:Nat,T _ _ _ _ _;intro _))
 rw [show min (((s.data.toList.count c:Nat):Int)+1) ((s.size:Int)+1)=(((pcs22 c s).length:Nat):Int) by rw [hlen];omega]
 repeat' (first|refine d1 ?_|refine dd ?_|(show T _ (.ops _ (_::_)::_) _ _ _;refine T_op (OpT.make rfl rfl rfl rfl rfl rfl rfl rfl rfl (by refine ⟨?_,?_,?_⟩ <;> (try show _∧_) <;> (try refine ⟨?_,?_⟩) <;> (try dsimp only) <;> omega) (fun g=>?_)))|(show ∀ _:Nat,T _ _ _ _ _;intro _))
 rw [Int.toNat_natCast]
 refine T_le (Hle.weaken (i:=0) rfl (blk_row (sz:=1) (n:=(pcs22 c s).length) (by rw [List.length_replicate];omega) (by simp only [maxLen];omega)) rfl) ?_
 refine T_loopX (fun z:Nat × ByteArray=>[(10, .int .i64 (z.1:Nat)),(0, .string z.2)]) (fun z=>[row 9 1 (some ⟨g,0,none⟩) (pcs22 c s).length (pcs22 c s).length (((pcs22 c s).take z.1).map Value.string++List.replicate ((pcs22 c s).length - z.1) (Value.string ByteArray.empty))]) (fun z=>z.1<(pcs22 c s).length∧(pcs22 c s).drop z.1=pcs22 c z.2∧z.2.size≤1000000) (fun z=>(pcs22 c s).length - z.1) (0,s) ⟨by omega,rfl,hs⟩ ?_
 rintro⟨i,u⟩ ⟨hi,hd,hu⟩
 dsimp only at hi hd hu ⊢
 have hul:(pcs22 c u).length=(pcs22 c s).length - i:=by rw [← hd,List.length_drop]
 repeat' (first|refine d1 ?_|refine dd ?_|(show ∀ _:Nat,T _ _ _ _ _;intro _))
 refine T_if rfl (fun h=>?_) (fun h=>?_)
 ·simp only [decide_eq_true_eq] at h
  have hge:=Lib.indexByte_ge u.data.toList c
  have hne:Lib.indexByte u.data.toList c ≠ -1:=fun e=>by
   have h9:=Lib.indexByte_none e
   have:u.data.toList.count c=0:=List.count_eq_zero.2 (fun hm=>by obtain⟨k,hk,e2⟩:=List.getElem_of_mem hm;exact h9 k (by rw [List.getElem?_eq_getElem hk,e2]))
   have:=pcs22_len c u
   omega
  obtain⟨m,hm⟩:∃ m:Nat,Lib.indexByte u.data.toList c=(m:Int):=⟨(Lib.indexByte u.data.toList c).toNat,by omega⟩
  obtain⟨hmu,hst⟩:=pcs22_step hm
  repeat' (first|refine d1 ?_|refine dd ?_|(show T _ (.ops _ (_::_)::_) _ _ _;first|refine T_call rfl rfl rfl rfl rfl (fun w hw=>index1_spec u c w) ?_|refine T_callC rfl rfl rfl rfl rfl rfl rfl (fun hg w hw=>index1_spec u c w) ?_)|(show T _ (.run _ _ (_::_) _ _::_) _ _ _;first|refine rc rfl rfl rfl rfl rfl rfl rfl (fun w hw=>index1_spec u c w) ?_|refine rcG rfl rfl rfl rfl rfl rfl rfl rfl rfl (fun hg w hw=>index1_spec u c w) ?_)|(show ∀ _:Nat,T _ _ _ _ _;intro _))
  rw [hm]
  refine T_if rfl (fun h2=>by exfalso;simp at h2;omega) (fun _=>?_)
  have hc1:(⟨#[c]⟩:ByteArray).size=1:=rfl
  have hus:u.size≤1000000:=hu
  repeat' (first|refine d1 ?_|refine dd ?_|(show T _ (.ops _ (_::_)::_) _ _ _;refine T_op (OpT.storeR rfl rfl rfl rfl rfl rfl (by show 0+(i:Int).toNat * 1+1≤(pcs22 c s).length * 1;omega) ?_))|(show ∀ _:Nat,T _ _ _ _ _;intro _))
  have e3:=setStr (done:=(pcs22 c s).take i) (p:=u.extract 0 m) (i:=i) (k:=(pcs22 c s).length - i) (off:=0+(i:Int).toNat * 1) (by rw [List.length_take];omega) (by omega) (by omega)
  have hp:(pcs22 c s).take (i+1)=(pcs22 c s).take i++[u.extract 0 m]:=take_snoc _ _ _ (by
   have h9:((pcs22 c s).drop i)[0]?=some (u.extract 0 m):=by rw [hd,hst];rfl
   rw [List.getElem?_drop] at h9
   exact h9)
  rw [← hp,show (pcs22 c s).length - i - 1=(pcs22 c s).length - (i+1) by omega] at e3
  refine T_backX (i+1,u.extract (m+1) u.size) ⟨by dsimp only;omega,?_,?_⟩ (by dsimp only;omega) (hG:=?_)
  ·dsimp only
   rw [← List.drop_drop,hd,hst];rfl
  ·dsimp only
   rw [ByteArray.size_extract];omega
  ·dsimp only
   show Hle [row _ _ _ _ _ (setL _ _ [Value.string (u.extract 0 m)])] _
   rw [e3]
   exact Hle.refl _
 ·simp only [decide_eq_false_iff_not] at h
  have e1:=pcs22_one (c:=c) (s:=u) (by omega)
  have e2:(pcs22 c s).take i++[u]=pcs22 c s:=by rw [← e1, ← hd,List.take_append_drop]
  have e3:=setStr (done:=(pcs22 c s).take i) (p:=u) (i:=i) (k:=(pcs22 c s).length - i) (off:=0+(i:Int).toNat * 1) (by rw [List.length_take];omega) (by omega) (by omega)
  rw [e2,show (pcs22 c s).length - i - 1=0 by omega,List.replicate_zero,List.append_nil] at e3
  have hi2:((i:Int)+1).toNat=(pcs22 c s).length:=by omega
  repeat' (first|refine d1 ?_|refine dd ?_|(show T _ (.ops _ (_::_)::_) _ _ _;refine T_op (OpT.storeR rfl rfl rfl rfl rfl rfl (by show 0+(i:Int).toNat * 1+1≤(pcs22 c s).length * 1;omega) ?_))|(show ∀ _:Nat,T _ _ _ _ _;intro _))
  rw [hi2]
  repeat' (first|refine d1 ?_|refine dd ?_|(show ∀ _:Nat,T _ _ _ _ _;intro _)|(show T _ (.code .ret::_) _ _ _;refine T_retV _ rfl (by show Hle [row _ _ _ _ _ (setL _ _ [Value.string u])] _;rw [e3];exact Hle.refl _) ⟨g,trivial,rfl,rfl⟩))
theorem split_spec (s:ByteArray) (c:UInt8) (w:World) (hs:s.size≤1000000) :
  Spec Tryz.prog 17 [.string s, .string ⟨#[c]⟩] w (fun v R=>∃ g:Nat,True∧v = .slice (some ⟨g,0,none⟩) (pcs22 c s).length (pcs22 c s).length∧R=[row 9 1 (some ⟨g,0,none⟩) (pcs22 c s).length (pcs22 c s).length ((pcs22 c s).map Value.string)]):=by
 refine spec_of sg Tryz.func17 rfl rfl rfl ?_
 repeat' (first|refine d1 ?_|refine dd ?_|(show T _ (.ops _ (_::_)::_) _ _ _;refine T_callE rfl rfl rfl rfl rfl (fun w hw=>genSplit_spec s c w hs) (fun g _=>?_))|(show ∀ _:Nat,T _ _ _ _ _;intro _)|(show T _ (.code .ret::_) _ _ _;refine T_retV _ rfl (Hle.refl _) ⟨_,trivial,rfl,rfl⟩))

theorem indexFuncStr_spec (A:Option Addr) (n c:Nat) (l:List ByteArray) (f:FuncId) (fs cs:List Value) (p:ByteArray→Bool) (w:World) (hs:Src w 1 A n (l.map Value.string)) (hn:l.length=n) (hb:n≤9223372036854775807)
  (hf:∀ x∈l,∀ w',Below w.heap.size w w'→Spec Tryz.prog f (fs++(.string x::cs)) w' (fun v A=>v = .bool (p x)∧A=[])) :
  Spec Tryz.prog 39 [.slice A n c, .func (.func f) fs.toArray cs.toArray] w (fun v A=>v = .int .i64 (findI p l)∧A=[]):=by
 refine spec_of sg Tryz.func39 rfl rfl rfl ?_
 repeat' (first|refine d1 ?_|refine dd ?_|(show ∀ _:Nat,T _ _ _ _ _;intro _))
 refine T_loop (fun k:Nat=>[(0, .slice A n c),(1, .func (.func f) fs.toArray cs.toArray),(7, .int .i64 n),(8, .int .i64 k)]) (fun _=>[]) (fun k=>k≤n∧∀ i x,i<k→l[i]?=some x→p x=false) (fun k=>n - k) 0 ⟨Nat.zero_le _,fun i x h=>by omega⟩ ⟨rfl,rfl,rfl,rfl,trivial⟩ (Hle.refl _) ?_
 rintro k ⟨hk,hok⟩
 repeat' (first|refine d1 ?_|refine dd ?_|(show ∀ _:Nat,T _ _ _ _ _;intro _))
 refine T_if rfl (fun h=>?_) (fun h=>?_)
 ·simp only [decide_eq_true_eq] at h
  have hkn:k<n:=by omega
  obtain⟨b,o,rfl⟩:=hs.base (by omega)
  obtain⟨x,hx⟩:∃ x,l[k]?=some x:=⟨_,List.getElem?_eq_getElem (by omega)⟩
  repeat' (first|refine d1 ?_|refine dd ?_|(show ∀ _:Nat,T _ _ _ _ _;intro _))
  refine T_load (v := .string x) rfl rfl rfl rfl rfl (rdOld ?_) ?_
  ·exact (hs.get1 hkn (by rw [List.getElem?_map,hx];rfl)).2
  repeat' (first|refine d1 ?_|refine dd ?_|(show T _ (.ops _ (_::_)::_) _ _ _;first|refine T_call rfl rfl rfl rfl rfl (fun w hw=>hf x (List.mem_of_getElem? hx) w hw.below) ?_|refine T_callC rfl rfl rfl rfl rfl rfl rfl (fun hg w hw=>hf x (List.mem_of_getElem? hx) w hw.below) ?_)|(show T _ (.run _ _ (_::_) _ _::_) _ _ _;first|refine rc rfl rfl rfl rfl rfl rfl rfl (fun w hw=>hf x (List.mem_of_getElem? hx) w hw.below) ?_|refine rcG rfl rfl rfl rfl rfl rfl rfl rfl rfl (fun hg w hw=>hf x (List.mem_of_getElem? hx) w hw.below) ?_)|(show ∀ _:Nat,T _ _ _ _ _;intro _))
  refine T_if rfl (fun h1=>?_) (fun h1=>?_)
  ·repeat' (first|refine d1 ?_|refine dd ?_|(show ∀ _:Nat,T _ _ _ _ _;intro _)|(show T _ (.code .ret::_) _ _ _;refine T_retV [] rfl (Hle.refl _) ⟨congrArg (Value.int .i64) ?_,rfl⟩))
   exact (findI_some hx h1 hok).symm
  ·repeat' (first|refine d1 ?_|refine dd ?_|(show ∀ _:Nat,T _ _ _ _ _;intro _))
   refine T_back (k+1) ⟨by omega,fun i y hi hy=>?_⟩ (by omega) ⟨rfl,rfl,rfl,rfl,trivial⟩ (Hle.refl _)
   rcases Nat.lt_or_ge i k with h2|h2
   ·exact hok i y h2 hy
   ·rw [show i=k by omega,hx] at hy
    cases hy
    exact h1
 ·simp only [decide_eq_false_iff_not] at h
  repeat' (first|refine d1 ?_|refine dd ?_|(show ∀ _:Nat,T _ _ _ _ _;intro _)|(show T _ (.code .ret::_) _ _ _;refine T_retV [] rfl (Hle.refl _) ⟨congrArg (Value.int .i64) ?_,rfl⟩))
  exact (findI_none (fun i x hi=>hok i x (by have:=(List.getElem?_eq_some_iff.1 hi).1;omega) hi)).symm
theorem setL_end:∀ (us cs:List Value) (off:Nat),off+us.length=cs.length→setL cs off us=cs.take off++us
 | [],cs,off,h=>by
  show cs=_
  rw [List.length_nil,Nat.add_zero] at h
  rw [List.append_nil,h,List.take_length]
 | u::us,cs,off,h=>by
  rw [List.length_cons] at h
  show setL (cs.set off u) (off+1) us=_
  rw [setL_end us (cs.set off u) (off+1) (by rw [List.length_set];omega),take_snoc _ _ u (by rw [List.getElem?_set_self (by omega)]),List.take_set_of_le (Nat.le_refl _),List.append_assoc]
  rfl
def full22 (xs:List ByteArray):List ByteArray:=xs.filter fun x => !decide (x=ByteArray.empty)
theorem full22_len (xs:List ByteArray):(full22 xs).length≤xs.length:=List.length_filter_le _ _
theorem full22_snoc (xs:List ByteArray) (x:ByteArray):full22 (xs++[x])=full22 xs++if x=ByteArray.empty then [] else [x]:=by
 unfold full22
 rw [List.filter_append]
 by_cases h:x=ByteArray.empty <;> simp [h]
theorem linesC_spec (x:ByteArray) (w:World):Spec Tryz.prog 19 [.string x] w (fun v A=>v = .bool (decide (x=ByteArray.empty))∧A=[]):=by
 refine spec_of sg Tryz.func19 rfl rfl rfl ?_
 repeat' (first|refine d1 ?_|refine dd ?_|(show ∀ _:Nat,T _ _ _ _ _;intro _)|(show T _ (.code .ret::_) _ _ _;refine T_retV [] rfl (Hle.refl _) ⟨rfl,rfl⟩))
theorem add_none22 (g o k:Nat):(⟨g,o,none⟩:Addr).add k=⟨g,o+k,none⟩:=by
 unfold Addr.add
 split
 ·rename_i e;rw [e,Nat.add_zero]
 ·rfl
theorem cut1_22 {g cap n:Nat} (hc:n+1≤cap) (hn:0<n):cutA (some ⟨g,0,none⟩) cap 1 1=some ⟨g,1,none⟩:=by
 unfold cutA
 rw [if_neg (by omega)]
 rfl
theorem findI_inv {α:Type} {p:α→Bool}:∀ {l:List α} {k:Nat},findI p l=(k:Int)→∃ x,l[k]?=some x∧p x=true∧∀ (i:Nat) y,i<k→l[i]?=some y→p y=false
 | [],k,h=>by unfold findI at h;omega
 | z::l,k,h=>by
  unfold findI at h
  by_cases hp:p z=true
  ·rw [if_pos hp] at h
   obtain rfl:k=0:=by omega
   exact⟨z,rfl,hp,fun i y hi=>by omega⟩
  ·rw [if_neg hp] at h
   split at h
   ·omega
   ·have hg:=findI_ge p l
    obtain⟨m,rfl⟩:∃ m,k=m+1:=⟨k - 1,by omega⟩
    obtain⟨x,h1,h2,h3⟩:=findI_inv (p:=p) (k:=m) (l:=l) (by omega)
    exact⟨x,by simpa using h1,h2,fun i y hi hy=>by
     cases i with
     | zero=>simp at hy;subst hy;simpa using hp
     | succ i=>exact h3 i y (by omega) (by simpa using hy)⟩
theorem getS22 {x0:ByteArray} {ys:List ByteArray} {j off:Nat} {v:ByteArray} (h:off=j+1) (hv:ys[j]?=some v):∀ (q:Nat) u,[Value.string v][q]?=some u→((x0::ys).map Value.string)[off+q]?=some u:=fun q u hu=>by
 subst h
 rcases q with _|q
 ·cases hu
  rw [Nat.add_zero,List.getElem?_map,List.getElem?_cons_succ,hv];rfl
 ·simp at hu
theorem setS22 {x0:ByteArray} {ys:List ByteArray} {i off:Nat} {v:ByteArray} (h:off=i+1):setL ((x0::ys).map Value.string) off [Value.string v]=(x0::ys.set i v).map Value.string:=by
 subst h
 show ((x0::ys).map Value.string).set (i+1) (Value.string v)=_
 rw [List.map_cons,List.set_cons_succ,List.map_cons,List.map_set]
theorem delStr_spec (g cap n:Nat) (x0:ByteArray) (xs:List ByteArray) (w0:World) (K:List HA) (hl:xs.length=n) (hc:n+1≤cap) (hn:n≤100000) :
  SpecB Tryz.prog 18 [.slice (cutA (some ⟨g,0,none⟩) cap 1 1) n (cap - 1), .func (.func 19) #[] #[]] w0 (row 9 1 (some ⟨g,0,none⟩) cap (n+1) ((x0::xs).map Value.string)::K)
   (fun v R=>v = .slice (cutA (some ⟨g,0,none⟩) cap 1 1) (full22 xs).length (cap - 1)∧R=row 9 1 (some ⟨g,0,none⟩) cap (n+1) ((x0::(full22 xs++List.replicate (n - (full22 xs).length) ByteArray.empty)).map Value.string)::K):=by
 have hsrc:∀ {w:World} {H:List HA} {rb:HA→List HA} [FocusR H (some ⟨g,0,none⟩) 9 1 cap (n+1) ((x0::xs).map Value.string) rb],Cls w0 w H→Src w 1 (cutA (some ⟨g,0,none⟩) cap 1 1) n (xs.map Value.string):=fun hw=>by
  have h9:=src_drop1 (ca:=cap) (srcRow22 (A:=some ⟨g,0,none⟩) (e:=9) (cap:=cap) (xs:=(x0::xs).map Value.string) hw) 1 (by omega) hc
  rw [Nat.add_sub_cancel] at h9
  exact h9
 refine specB_of sg Tryz.func18 rfl rfl rfl ?_
 repeat' (first|refine d1 ?_|refine dd ?_|(show T _ (.ops _ (_::_)::_) _ _ _;first|refine T_call rfl rfl rfl rfl rfl (fun w hw=>indexFuncStr_spec (cutA (some ⟨g,0,none⟩) cap 1 1) n (cap - 1) xs 19 [] [] (fun x=>decide (x=ByteArray.empty)) w (hsrc hw) hl (by omega) (fun x _ w' _=>linesC_spec x w')) ?_|refine T_callC rfl rfl rfl rfl rfl rfl rfl (fun hg w hw=>indexFuncStr_spec (cutA (some ⟨g,0,none⟩) cap 1 1) n (cap - 1) xs 19 [] [] (fun x=>decide (x=ByteArray.empty)) w (hsrc hw) hl (by omega) (fun x _ w' _=>linesC_spec x w')) ?_)|(show T _ (.run _ _ (_::_) _ _::_) _ _ _;first|refine rc rfl rfl rfl rfl rfl rfl rfl (fun w hw=>indexFuncStr_spec (cutA (some ⟨g,0,none⟩) cap 1 1) n (cap - 1) xs 19 [] [] (fun x=>decide (x=ByteArray.empty)) w (hsrc hw) hl (by omega) (fun x _ w' _=>linesC_spec x w')) ?_|refine rcG rfl rfl rfl rfl rfl rfl rfl rfl rfl (fun hg w hw=>indexFuncStr_spec (cutA (some ⟨g,0,none⟩) cap 1 1) n (cap - 1) xs 19 [] [] (fun x=>decide (x=ByteArray.empty)) w (hsrc hw) hl (by omega) (fun x _ w' _=>linesC_spec x w')) ?_)|(show ∀ _:Nat,T _ _ _ _ _;intro _))
 refine T_if rfl (fun h=>?_) (fun h=>?_)
 ·simp only [decide_eq_true_eq] at h
  have hall:full22 xs=xs:=by
   unfold full22
   rw [List.filter_eq_self]
   intro x hx
   have h9:=findI_any (fun x=>decide (x=ByteArray.empty)) xs
   rw [h] at h9
   have h10:xs.any (fun x=>decide (x=ByteArray.empty))=false:=by rw [← h9];rfl
   rw [List.any_eq_false] at h10
   simpa using h10 x hx
  rw [hall,hl,Nat.sub_self,List.replicate_zero,List.append_nil]
  repeat' (first|refine d1 ?_|refine dd ?_|(show ∀ _:Nat,T _ _ _ _ _;intro _)|(show T _ (.code .ret::_) _ _ _;refine T_retV _ rfl (Hle.refl _) ⟨rfl,rfl⟩))
 ·simp only [decide_eq_false_iff_not] at h
  have hge:=findI_ge (fun x=>decide (x=ByteArray.empty)) xs
  obtain⟨i0,hi0⟩:∃ i0:Nat,findI (fun x=>decide (x=ByteArray.empty)) xs=(i0:Int):=⟨(findI (fun x=>decide (x=ByteArray.empty)) xs).toNat,by omega⟩
  obtain⟨x1,hx1,hx2,hx3⟩:=findI_inv hi0
  have hi0n:i0<n:=by rw [← hl];exact (List.getElem?_eq_some_iff.1 hx1).1
  have hcut:=cut1_22 (g:=g) hc (by omega:0<n)
  simp only [decide_eq_true_eq] at hx2
  rw [hi0,hcut]
  repeat' (first|refine d1 ?_|refine dd ?_|(show ∀ _:Nat,T _ _ _ _ _;intro _))
  refine T_loopX (fun z:Nat × Nat × List ByteArray=>[(5, .int .i64 (z.1:Nat)),(6, .int .i64 (z.2.1:Nat))]) (fun z=>row 9 1 (some ⟨g,0,none⟩) cap (n+1) ((x0::z.2.2).map Value.string)::K) (fun z=>z.2.2.length=n∧z.1<z.2.1∧z.2.1≤n∧z.2.2.take z.1=full22 (xs.take z.2.1)∧z.2.2.drop z.2.1=xs.drop z.2.1) (fun z=>n - z.2.1) (i0,i0+1,xs) ⟨hl,by dsimp only;omega,by dsimp only;omega,?_,rfl⟩ ?_
  ·dsimp only
   rw [take_snoc _ _ _ hx1,full22_snoc,if_pos hx2,List.append_nil]
   unfold full22
   rw [eq_comm,List.filter_eq_self]
   intro y hy
   obtain⟨q,hq,e⟩:=List.getElem_of_mem hy
   rw [List.length_take] at hq
   rw [List.getElem_take] at e
   have h9:=hx3 q y (by omega) (by rw [List.getElem?_eq_getElem (by omega),e])
   simpa using h9
  rintro⟨i,j,ys⟩ ⟨hy,hij,hjn,ht,hd⟩
  dsimp only at hy hij hjn ht hd ⊢
  repeat' (first|refine d1 ?_|refine dd ?_|(show ∀ _:Nat,T _ _ _ _ _;intro _))
  refine T_if rfl (fun h5=>?_) (fun h5=>?_)
  ·simp only [decide_eq_true_eq] at h5
   obtain⟨v,hv⟩:∃ v,ys[j]?=some v:=⟨_,List.getElem?_eq_getElem (by omega)⟩
   have hv2:xs[j]?=some v:=by
    have h9:(ys.drop j)[0]?=(xs.drop j)[0]?:=by rw [hd]
    rw [List.getElem?_drop,List.getElem?_drop] at h9
    rw [← hv];exact h9.symm
   have hd2:ys.drop (j+1)=xs.drop (j+1):=by rw [← List.drop_drop, ← List.drop_drop,hd]
   repeat' (first|refine d1 ?_|refine dd ?_|(show T _ (.ops _ (_::_)::_) _ _ _;first|refine T_val rfl (Val.load rfl (fun hg=>rdRow (A:=some ⟨g,0,none⟩) (vs:=[.string v]) (by omega) (getS22 (by omega) hv))) rfl rfl rfl ?_|refine T_valC rfl (Val.load rfl (fun hg=>rdRow (A:=some ⟨g,0,none⟩) (vs:=[.string v]) (by omega) (getS22 (by omega) hv))) rfl rfl rfl rfl rfl ?_|refine T_call rfl rfl rfl rfl rfl (fun w hw=>linesC_spec v w) ?_|refine T_callC rfl rfl rfl rfl rfl rfl rfl (fun hg w hw=>linesC_spec v w) ?_)|(show T _ (.run _ _ (_::_) _ _::_) _ _ _;first|refine rv rfl rfl rfl (Val.load rfl (fun hg=>rdRow (A:=some ⟨g,0,none⟩) (vs:=[.string v]) (by omega) (getS22 (by omega) hv))) rfl rfl rfl ?_|refine rg rfl rfl rfl (Val.load rfl (fun hg=>rdRow (A:=some ⟨g,0,none⟩) (vs:=[.string v]) (by omega) (getS22 (by omega) hv))) rfl rfl rfl rfl rfl ?_|refine rc rfl rfl rfl rfl rfl rfl rfl (fun w hw=>linesC_spec v w) ?_|refine rcG rfl rfl rfl rfl rfl rfl rfl rfl rfl (fun hg w hw=>linesC_spec v w) ?_)|(show ∀ _:Nat,T _ _ _ _ _;intro _))
   refine T_if rfl (fun h6=>?_) (fun h6=>?_)
   ·have hne:v≠ByteArray.empty:=by simpa using h6
    repeat' (first|refine d1 ?_|refine dd ?_|(show T _ (.ops _ (_::_)::_) _ _ _;refine T_op (OpT.storeR rfl rfl rfl rfl rfl rfl (by show 1+(i:Int).toNat * 1+1≤(n+1) * 1;omega) ?_))|(show ∀ _:Nat,T _ _ _ _ _;intro _))
    refine T_backX (i+1,j+1,ys.set i v) ⟨by dsimp only;rw [List.length_set];exact hy,by dsimp only;omega,by dsimp only;omega,?_,?_⟩ (by dsimp only;omega) (hG:=?_)
    ·dsimp only
     rw [take_snoc _ _ v (by rw [List.getElem?_set_self (by omega)]),List.take_set_of_le (Nat.le_refl _),ht,take_snoc _ _ _ hv2,full22_snoc,if_neg hne]
    ·dsimp only
     rw [List.drop_set_of_lt (by omega)];exact hd2
    ·dsimp only
     show Hle (row _ _ _ _ _ (setL _ _ [Value.string v])::K) _
     rw [setS22 (i:=i) (by omega)]
     exact Hle.refl _
   ·have he:v=ByteArray.empty:=by simpa using h6
    repeat' (first|refine d1 ?_|refine dd ?_|(show ∀ _:Nat,T _ _ _ _ _;intro _))
    refine T_backX (i,j+1,ys) ⟨hy,by dsimp only;omega,by dsimp only;omega,?_,hd2⟩ (by dsimp only;omega)
    dsimp only
    rw [ht,take_snoc _ _ _ hv2,full22_snoc,if_pos he,List.append_nil]
  simp only [decide_eq_false_iff_not] at h5
  obtain rfl:j=n:=by omega
  rw [show xs.take j=xs from List.take_of_length_le (by omega)] at ht
  have hfl:(full22 xs).length=i:=by rw [← ht,List.length_take];omega
  have hcl:=setL_end (List.replicate ((j:Int).toNat - (i:Int).toNat) (Value.string ByteArray.empty)) ((x0::ys).map Value.string) (1+(i:Int).toNat * 1) (by rw [List.length_replicate,List.length_map,List.length_cons];omega)
  have hce:((x0::ys).map Value.string).take (1+(i:Int).toNat * 1)++List.replicate ((j:Int).toNat - (i:Int).toNat) (Value.string ByteArray.empty)=(x0::(full22 xs++List.replicate (j - (full22 xs).length) ByteArray.empty)).map Value.string:=by
   rw [show 1+(i:Int).toNat * 1=i+1 by omega,show (j:Int).toNat - (i:Int).toNat=j - i by omega,hfl,List.map_cons,List.take_succ_cons, ← List.map_take,ht,List.map_cons,List.map_append,List.map_replicate]
   rfl
  repeat' (first|refine d1 ?_|(show ∀ _:Nat,T _ _ _ _ _;intro _))
  refine T_op (OpT.clearR (g:=g) (z := .string ByteArray.empty) (off:=1+(i:Int).toNat * 1) rfl rfl rfl rfl rfl rfl rfl (fun _=>by unfold cutA;rw [if_neg (by omega)];exact congrArg some (add_none22 _ _ _)) (by omega) ?_)
  rw [hcl,hce]
  repeat' (first|refine d1 ?_|(show ∀ _:Nat,T _ _ _ _ _;intro _))
  rw [hfl]
  repeat' (first|refine d1 ?_|refine dd ?_|(show ∀ _:Nat,T _ _ _ _ _;intro _)|(show T _ (.code .ret::_) _ _ _;refine T_retV _ rfl (Hle.refl _) ⟨rfl,rfl⟩))
end Go.Proofs.YtefieebkankfoaaGreatDoor
