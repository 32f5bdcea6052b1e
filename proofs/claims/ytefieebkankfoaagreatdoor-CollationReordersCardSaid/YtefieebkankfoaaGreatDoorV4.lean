/- Joined texts of this claim, part 4. -/
import Derived.Test.YtefieebkankfoaaGreatDoorV3
import Derived.Lib.Builder
import Derived.Lib.UnsafeStr
import Derived.Laws.Externs
set_option linter.unusedSectionVars false
set_option linter.unusedVariables false
set_option linter.unusedSimpArgs false
namespace Go.Proofs.YtefieebkankfoaaGreatDoor
open Go.RowKit Go.Shelf Go.Proofs
set_option maxRecDepth 100000
set_option maxHeartbeats 1000000

structure CoAt (w:World) (x:Co) (A1:Option Addr) (c1:Nat) (l:List TS) (A2:Option Addr) (c2:Nat) (y3:Value):Prop where
 hd:HdAt w x.sec x.sg A1 c1 l A2 c2
 m:l.map TS.l=x.m
 cols:Rd (wr w) [y3] [rowsD x.cols]
theorem CoAt.cls {w0 w:World} {H:List HA} {x:Co} {A1 A2:Option Addr} {c1 c2:Nat} {l:List TS} {y3:Value} (h:CoAt w0 x A1 c1 l A2 c2 y3) (hw:Cls w0 w H):CoAt w x A1 c1 l A2 c2 y3:=⟨h.hd.cls hw,h.m,h.cols.old hw⟩
theorem headR22_spec (sec:ByteArray) (sg':List ByteArray) (A1:Option Addr) (c1:Nat) (l:List TS) (A2:Option Addr) (c2:Nat) (w:World) (hh:HdAt w sec sg' A1 c1 l A2 c2) :
  Spec Tryz.prog 42 [.string sec, .slice A1 sg'.length c1, .slice A2 l.length c2] w (fun v R=>v = .int .i64 (head22 sec sg' (l.map TS.l))∧R=[]):=by
 obtain⟨hst,hs1,hb1,hs2,hok,hsec,hsig,hn1,hn2,htok,htxt⟩:=hh
 have hh:HdAt w sec sg' A1 c1 l A2 c2:=⟨hst,hs1,hb1,hs2,hok,hsec,hsig,hn1,hn2,htok,htxt⟩
 refine spec_of sg Tryz.func42 rfl rfl rfl ?_
 repeat' (first|refine d1 ?_|(show T _ (.ops _ (_::_)::_) _ _ _;refine T_call rfl rfl rfl rfl rfl (fun w hw=>isNameRef_spec sec w) ?_)|fail)
 refine T_if rfl (fun h=>?_) (fun h=>?_)
 ·simp only [Bool.not_eq_true'] at h
  repeat' (first|refine d1 ?_|(show T _ (.code .ret::_) _ _ _;refine T_retV [] rfl (Hle.none _) ⟨congrArg (Value.int .i64) (head22_a h).symm,rfl⟩))
 simp only [Bool.not_eq_false'] at h
 repeat' (first|refine d1 ?_|fail)
 refine T_if rfl (fun h2=>?_) (fun h2=>?_)
 ·simp only [decide_eq_true_eq] at h2
  repeat' (first|refine d1 ?_|(show T _ (.code .ret::_) _ _ _;refine T_retV [] rfl (Hle.none _) ⟨congrArg (Value.int .i64) (head22_b h (by omega)).symm,rfl⟩))
 simp only [decide_eq_false_iff_not] at h2
 have h2':sg'.length≠0:=by omega
 repeat' (first|refine d1 ?_|fail)
 refine T_if rfl (fun h3=>?_) (fun h3=>?_)
 ·simp only [decide_eq_true_eq] at h3
  repeat' (first|refine d1 ?_|(show T _ (.code .ret::_) _ _ _;refine T_retV [] rfl (Hle.none _) ⟨congrArg (Value.int .i64) (head22_c h h2' (by omega)).symm,rfl⟩))
 simp only [decide_eq_false_iff_not] at h3
 have h3':¬ 32<sg'.length:=by omega
 repeat' (first|refine d1 ?_|fail)
 refine T_loopX (fun k:Nat=>[(7, .int .i64 k)]) (fun _=>[]) (fun k=>k≤sg'.length∧sgE22 [] sg'=sgE22 (sg'.take k) (sg'.drop k)) (fun k=>sg'.length - k) 0 ⟨Nat.zero_le _,by simp⟩ ?_
 rintro k ⟨hk,hE⟩
 repeat' (first|refine d1 ?_|fail)
 refine T_if rfl (fun h4=>?_) (fun h4=>?_)
 ·simp only [decide_eq_true_eq] at h4
  have hkn:k<sg'.length:=by omega
  obtain⟨b,o,rfl⟩:=hs1.base (by omega)
  obtain⟨s,hs⟩:∃ s,sg'[k]?=some s:=⟨_,List.getElem?_eq_getElem hkn⟩
  have hr:=src_str hs1 hkn hs
  have hs20:=hsig s (List.mem_of_getElem? hs)
  rw [sgE22_step hs] at hE
  repeat' (first|refine d1 ?_|(show T _ (.ops _ (_::_)::_) _ _ _;refine T_call rfl rfl rfl rfl rfl (fun w hw=>siglumR_spec s hs20 w) ?_)|fail)
  refine T_if rfl (fun h5=>?_) (fun h5=>?_)
  ·simp only [Bool.not_eq_true'] at h5
   rw [if_pos h5] at hE
   repeat' (first|refine d1 ?_|(show T _ (.code .ret::_) _ _ _;refine T_retV [] rfl (Hle.none _) ⟨congrArg (Value.int .i64) (by rw [head22_d h h2' h3' (by omega),hE]),rfl⟩))
  simp only [Bool.not_eq_false'] at h5
  rw [if_neg (by rw [h5];simp)] at hE
  repeat' (first|refine d1 ?_|fail)
  refine T_loopX (fun j:Nat=>[(8, .int .i64 j)]) (fun _=>[]) (fun j=>j≤k∧s ∉ sg'.take j) (fun j=>k - j) 0 ⟨Nat.zero_le _,by simp⟩ ?_
  rintro j ⟨hj,hnot⟩
  repeat' (first|refine d1 ?_|fail)
  refine T_if rfl (fun h6=>?_) (fun h6=>?_)
  ·simp only [decide_eq_true_eq] at h6
   have hjk:j<k:=by omega
   obtain⟨y,hy⟩:∃ y,sg'[j]?=some y:=⟨_,List.getElem?_eq_getElem (by omega)⟩
   have hr2:=src_str hs1 (k:=j) (by omega) hy
   have htk:=take_snoc _ _ _ hy
   repeat' (first|refine dd ?_|fail)
   refine T_if rfl (fun h7=>?_) (fun h7=>?_)
   ·simp only [decide_eq_true_eq] at h7
    have hmem:s∈sg'.take k:=by
     rw [← h7]
     exact List.mem_iff_getElem?.2 ⟨j,by rw [List.getElem?_take_of_lt hjk];exact hy⟩
    rw [if_pos (has22_iff.2 hmem)] at hE
    repeat' (first|refine d1 ?_|(show T _ (.code .ret::_) _ _ _;refine T_retV [] rfl (Hle.none _) ⟨congrArg (Value.int .i64) (by rw [head22_d h h2' h3' (by omega),hE]),rfl⟩))
   simp only [decide_eq_false_iff_not] at h7
   repeat' (first|refine d1 ?_|fail)
   refine T_backX (j+1) ⟨by omega,?_⟩ (by omega)
   rw [htk,List.mem_append,List.mem_singleton]
   rintro (hm|rfl)
   ·exact hnot hm
   ·exact h7 rfl
  simp only [decide_eq_false_iff_not] at h6
  obtain rfl:j=k:=by omega
  rw [if_neg (fun hh=>hnot (has22_iff.1 hh))] at hE
  repeat' (first|refine d1 ?_|fail)
  exact T_backX (j+1) ⟨by omega,hE⟩ (by omega)
 simp only [decide_eq_false_iff_not] at h4
 rw [sgE22_end (by omega)] at hE
 repeat' (first|refine d1 ?_|fail)
 refine T_if rfl (fun h5=>?_) (fun h5=>?_)
 ·simp only [Bool.not_eq_true',decide_eq_false_iff_not] at h5
  repeat' (first|refine d1 ?_|(show T _ (.code .ret::_) _ _ _;refine T_retV [] rfl (Hle.none _) ⟨congrArg (Value.int .i64) (by rw [head22_e h h2' h3' hE (by rw [List.length_map];omega)]),rfl⟩))
 simp only [Bool.not_eq_false',decide_eq_true_eq] at h5
 have hF:=head22_f (m:=l.map TS.l) h h2' h3' hE (by rw [List.length_map];omega)
 repeat' (first|refine d1 ?_|fail)
 refine T_loopX (fun k:Nat=>[(9, .int .i64 k)]) (fun _=>[]) (fun k=>k≤l.length∧tkE22 (l.map TS.l)=tkE22 ((l.map TS.l).drop k)) (fun k=>l.length - k) 0 ⟨Nat.zero_le _,by simp⟩ ?_
 rintro k ⟨hk,hE2⟩
 repeat' (first|refine d1 ?_|fail)
 refine T_if rfl (fun h6=>?_) (fun h6=>?_)
 ·simp only [decide_eq_true_eq] at h6
  have hkn:k<l.length:=by omega
  obtain⟨b,o,rfl⟩:=hs2.base (by omega)
  obtain⟨t,ht⟩:∃ t,l[k]?=some t:=⟨_,List.getElem?_eq_getElem hkn⟩
  have hr:=hh.hdr ht
  have htm:=List.mem_of_getElem? ht
  obtain⟨e1,e2,e3⟩:=hh.len k ht
  rw [tkE22_step e1] at hE2
  repeat' (first|refine d1 ?_|fail)
  refine T_if rfl (fun h7=>by exfalso;simp at h7;omega) (fun _=>?_)
  rw [if_neg (by omega)] at hE2
  have hst2:=hok.src t htm
  repeat' (first|refine d1 ?_|fail)
  refine T_loopX (fun j:Nat=>[(10, .int .i64 j)]) (fun _=>[]) (fun j=>j≤t.n∧∀ i y,i<j→t.l[i]?=some y→tokE y=0) (fun j=>t.n - j) 0 ⟨Nat.zero_le _,fun i y h=>by omega⟩ ?_
  rintro j ⟨hj,hall⟩
  repeat' (first|refine d1 ?_|fail)
  refine T_if rfl (fun h7=>?_) (fun h7=>?_)
  ·simp only [decide_eq_true_eq] at h7
   have hjn:j<t.n:=by omega
   obtain⟨b2,o2,eA⟩:=hst2.base (by omega)
   obtain⟨y,hy⟩:∃ y,t.l[j]?=some y:=⟨_,List.getElem?_eq_getElem (by omega)⟩
   have hr2:RdC w b2 (o2+(j:Int).toNat * 6) y.cells:=by have:=hst2.getT hjn hy;rw [eA] at this;exact this
   rw [eA] at hr
   repeat' (first|refine d1 ?_|(show T _ (.ops _ (_::_)::_) _ _ _;refine T_call rfl rfl rfl rfl rfl (fun w hw=>tokRef_spec y w) ?_)|fail)
   refine T_if rfl (fun h8=>?_) (fun h8=>?_)
   ·simp only [Bool.not_eq_true',decide_eq_false_iff_not] at h8
    have hbad:badL t.l=true:=List.any_eq_true.2 ⟨y,List.mem_of_getElem? hy,by simpa using h8⟩
    rw [if_pos hbad] at hE2
    repeat' (first|refine d1 ?_|(show T _ (.code .ret::_) _ _ _;refine T_retV [] rfl (Hle.none _) ⟨congrArg (Value.int .i64) (by rw [hF,hE2]),rfl⟩))
   simp only [Bool.not_eq_false',decide_eq_true_eq] at h8
   repeat' (first|refine d1 ?_|fail)
   refine T_backX (j+1) ⟨by omega,fun i z hi hz=>?_⟩ (by omega)
   rcases Nat.lt_or_ge i j with h9|h9
   ·exact hall i z h9 hz
   ·rw [show i=j by omega,hy] at hz
    cases hz
    exact h8
  simp only [decide_eq_false_iff_not] at h7
  have hgood:badL t.l=false:=List.any_eq_false.2 fun y hy=>by
   obtain⟨i,hi,e⟩:=List.getElem_of_mem hy
   rw [hall i y (by omega) (by rw [List.getElem?_eq_getElem hi,e])]
   simp
  rw [if_neg (by rw [hgood];simp)] at hE2
  repeat' (first|refine d1 ?_|fail)
  exact T_backX (k+1) ⟨by omega,hE2⟩ (by omega)
 simp only [decide_eq_false_iff_not] at h6
 rw [List.drop_eq_nil_of_le (by rw [List.length_map];omega)] at hE2
 repeat' (first|refine d1 ?_|(show T _ (.code .ret::_) _ _ _;refine T_retV [] rfl (Hle.none _) ⟨congrArg (Value.int .i64) (by rw [hF,hE2];rfl),rfl⟩))
theorem chk22_19 {x:Co} {l:List TS} (hl:∀ t∈l,t.l.length=t.n) (hm:l.map TS.l=x.m) (h:head22 x.sec x.sg x.m=0) (hc:¬ ColsOk (lens l) x.cols):chk22 x=19:=by
 unfold chk22
 rw [if_neg (by rw [h];simp),if_neg (by rw [← hm, ← lens22_of hl];exact hc)]
theorem chk22_0 {x:Co} {l:List TS} (hl:∀ t∈l,t.l.length=t.n) (hm:l.map TS.l=x.m) (h:head22 x.sec x.sg x.m=0) (hc:ColsOk (lens l) x.cols):chk22 x=0:=by
 unfold chk22
 rw [if_neg (by rw [h];simp),if_pos (by rw [← hm, ← lens22_of hl];exact hc)]
theorem chk22_h {x:Co} (h:head22 x.sec x.sg x.m≠0):chk22 x=head22 x.sec x.sg x.m:=if_pos h
theorem HdAt.grp {w:World} {sec:ByteArray} {sg':List ByteArray} {A1 A2:Option Addr} {c1 c2:Nat} {l:List TS} (h:HdAt w sec sg' A1 c1 l A2 c2) (hn:l.length≤32):Grp w A2 l.length l :=
 ⟨h.hst,h.s2,rfl,hn,h.ok,fun t ht=>by have:=(h.tok t ht).1;omega,fun t ht=>(h.tok t ht).2⟩
theorem checkP22_spec (x:Co) (A1:Option Addr) (c1:Nat) (l:List TS) (A2:Option Addr) (c2:Nat) (y3:Value) (w:World) (hx:CoAt w x A1 c1 l A2 c2 y3) :
  Spec Tryz.prog 26 [.agg (coL x.sec (.slice A1 x.sg.length c1) (.slice A2 l.length c2) y3).toArray] w (fun v R=>v = .int .i64 (chk22 x)∧R=[]):=by
 refine spec_of sg Tryz.func26 rfl rfl rfl ?_
 have hm:=hx.m
 repeat' (first|(show T _ (.ops _ (⟨_, .box _ _,_,_,_,_⟩::_)::_) _ _ _;refine T_op (OpT.box (cs:=coL x.sec (.slice A1 x.sg.length c1) (.slice A2 l.length c2) y3) rfl rfl rfl rfl rfl rfl rfl (fun _=>?_)))|refine d1 ?_|(show T _ (.ops _ (_::_)::_) _ _ _;refine T_call rfl rfl rfl rfl rfl (fun w hw=>sources22_spec x.sec x.sg A1 c1 l A2 c2 w (hx.hd.cls hw)) ?_)|fail)
 rw [hm]
 refine T_if rfl (fun h=>?_) (fun h=>?_)
 ·simp only [Bool.not_eq_true',decide_eq_false_iff_not] at h
  repeat' (first|refine d1 ?_|(show T _ (.code .ret::_) _ _ _;refine T_retV [] rfl (Hle.none _) ⟨congrArg (Value.int .i64) (chk22_h h).symm,rfl⟩))
 simp only [Bool.not_eq_false',decide_eq_true_eq] at h
 have hh:=head22_iff.1 h
 have hll:l.length=x.sg.length:=by rw [← hh.len, ← hm,List.length_map]
 have h32:=hh.le
 have hpos:=hh.pos
 repeat' (first|refine d1 ?_|(show T _ (.ops _ (_::_)::_) _ _ _;refine T_call rfl rfl rfl rfl rfl (fun w hw=>check19_spec A2 l.length c2 l y3 x.cols w ((hx.hd.cls hw).grp (by omega)) (hx.cols.old hw)) ?_)|fail)
 refine T_if rfl (fun h2=>?_) (fun h2=>?_)
 ·simp only [Bool.not_eq_true',decide_eq_false_iff_not] at h2
  repeat' (first|refine d1 ?_|(show T _ (.code .ret::_) _ _ _;refine T_retV [] rfl (Hle.none _) ⟨congrArg (Value.int .i64) (chk22_19 hx.hd.ok.len hm h fun hc=>h2 (chkC_ok (by omega) hc)).symm,rfl⟩))
 simp only [Bool.not_eq_false',decide_eq_true_eq] at h2
 repeat' (first|refine d1 ?_|(show T _ (.code .ret::_) _ _ _;refine T_retV [] rfl (Hle.none _) ⟨congrArg (Value.int .i64) (chk22_0 hx.hd.ok.len hm h (Classical.byContradiction fun hc=>by rw [chkC_bad (by omega) hc] at h2;omega)).symm,rfl⟩))
theorem checkR22_spec (x:Co) (A1:Option Addr) (c1:Nat) (l:List TS) (A2:Option Addr) (c2:Nat) (y3:Value) (w:World) (hx:CoAt w x A1 c1 l A2 c2 y3) :
  Spec Tryz.prog 21 [.agg (coL x.sec (.slice A1 x.sg.length c1) (.slice A2 l.length c2) y3).toArray] w (fun v R=>v = .int .i64 (chk22 x)∧R=[]):=by
 have hm:=hx.m
 obtain⟨Ak,ck,csk,rfl,hck1,hck2,hcs,hrows⟩:=hx.cols.tabS
 obtain⟨n1,hn1⟩:∃ n1,x.sg.length=n1:=⟨_,rfl⟩
 obtain⟨n2,hn2⟩:∃ n2,l.length=n2:=⟨_,rfl⟩
 have hsp:∀ w',HdAt w' x.sec x.sg A1 c1 l A2 c2→Spec Tryz.prog 42 [.string x.sec, .slice A1 n1 c1, .slice A2 n2 c2] w' (fun v R=>v = .int .i64 (head22 x.sec x.sg x.m)∧R=[]):=fun w' h'=>by
  have:=headR22_spec x.sec x.sg A1 c1 l A2 c2 w' h'
  rw [hn1,hn2,hm] at this
  exact this
 rw [hn1,hn2]
 refine spec_of sg Tryz.func21 rfl rfl rfl ?_
 refine T_op (OpT.box (cs:=coL x.sec (.slice A1 n1 c1) (.slice A2 n2 c2) (.slice Ak x.cols.length ck)) rfl rfl rfl rfl rfl rfl rfl (fun pc=>?_))
 repeat' (first|refine d1 ?_|(show T _ (.ops _ (_::_)::_) _ _ _;refine T_call rfl rfl rfl rfl rfl (fun w hw=>hsp w (hx.hd.cls hw)) ?_)|fail)
 refine T_if rfl (fun h=>?_) (fun h=>?_)
 ·simp only [Bool.not_eq_true',decide_eq_false_iff_not] at h
  repeat' (first|refine d1 ?_|(show T _ (.code .ret::_) _ _ _;refine T_retV [] rfl (Hle.none _) ⟨congrArg (Value.int .i64) (chk22_h h).symm,rfl⟩))
 simp only [Bool.not_eq_false',decide_eq_true_eq] at h
 have hh:=head22_iff.1 h
 have h12:n2=n1:=by rw [← hn2, ← hn1, ← hh.len, ← hm,List.length_map]
 subst h12
 have hb:=hh.le
 have h0:=hh.pos
 rw [hn1] at hb h0
 have hg:Grp w A2 n2 l:=by have:=hx.hd.grp (by omega);rw [hn2] at this;exact this
 have hbad:∀ (H:¬ ColsOk (lens l) x.cols),chk22 x=19:=fun H=>chk22_19 hx.hd.ok.len hm h H
 have hgood:ColsOk (lens l) x.cols→chk22 x=0:=fun H=>chk22_0 hx.hd.ok.len hm h H
 have hn:l.length=n2:=hn2
 repeat' (first|refine d1 ?_|(show T _ (.ops _ (_::_)::_) _ _ _;refine T_op (OpT.make rfl rfl rfl rfl rfl rfl rfl rfl rfl (by dsimp only;omega) (fun b1=>?_)))|fail)
 have hz:List.replicate n2 (Value.int .i64 0)=valV (fun s=>(atC x.cols 0 0 s:Nat)) n2:=by
  rw [valV_replicate];exact valV_ext fun q _=>by rw [atC_zero];rfl
 refine T_loopX (fun i:Nat=>[(5, .int .i64 i)]) (fun i=>[blk b1 (valV (fun s=>(atC x.cols i 0 s:Nat)) n2) 3,blk pc (coL x.sec (.slice A1 n2 c1) (.slice A2 n2 c2) (.slice Ak x.cols.length ck)) 26]) (fun i=>i≤x.cols.length∧PreOk (lens l) x.cols i 0∧(∀ y∈x.cols.take i,y.length=n2)∧∀ y∈x.cols.take i,∃ z∈y,z ≠ -1) (fun i=>x.cols.length - i) 0 ⟨Nat.zero_le _,PreOk.start _ _,fun y h=>by simp at h,fun y h=>by simp at h⟩ ?_ (hG:=by rw [← hz];exact Hle.refl _)
 rintro i ⟨hi,hpre,hlen,hsome⟩
 repeat' (first|refine d1 ?_|fail)
 refine T_if rfl (fun h1=>?_) (fun h1=>?_)
 ·simp only [decide_eq_true_eq] at h1
  have hin:i<x.cols.length:=by omega
  obtain⟨b,o,rfl⟩:=hcs.base (by omega)
  obtain⟨r,hr⟩:∃ r,x.cols[i]?=some r:=⟨_,List.getElem?_eq_getElem hin⟩
  have hrm:=List.mem_of_getElem? hr
  obtain⟨Au,capu,hu,-,-,hA⟩:=hrows.tabRow hr
  have hr0:=rowHd hcs hin hu
  have hsr:=rowSrc hA
  repeat' (first|refine d1 ?_|fail)
  refine T_if rfl (fun h2=>?_) (fun h2=>?_)
  ·simp only [Bool.not_eq_true',decide_eq_false_iff_not] at h2
   repeat' (first|refine d1 ?_|(show T _ (.code .ret::_) _ _ _;refine T_retV [] rfl (Hle.none _) ⟨by rw [hbad fun hc=>h2 (by have:=hc.len r hrm;rw [lens_len] at this;omega)];rfl,rfl⟩))
  simp only [Bool.not_eq_false',decide_eq_true_eq] at h2
  have hrl:r.length=n2:=by omega
  repeat' (first|refine d1 ?_|fail)
  refine T_loopX (fun k:Nat=>[(8, .int .i64 k),(7, .bool ((r.take k).any fun z=>decide (z ≠ -1)))]) (fun k=>[blk b1 (valV (fun s=>(atC x.cols i k s:Nat)) n2) 3,blk pc (coL x.sec (.slice A1 n2 c1) (.slice A2 n2 c2) (.slice (some ⟨b,o,none⟩) x.cols.length ck)) 26]) (fun k=>k≤n2∧PreOk (lens l) x.cols i k) (fun k=>n2 - k) 0 ⟨Nat.zero_le _,hpre⟩ ?_
  rintro k ⟨hk,hp⟩
  repeat' (first|refine d1 ?_|fail)
  refine T_if rfl (fun h3=>?_) (fun h3=>?_)
  ·simp only [decide_eq_true_eq] at h3
   have hkn:k<n2:=by omega
   obtain⟨bu,ou,rfl⟩:=hsr.base (by omega)
   obtain⟨z,hzk⟩:∃ z,r[k]?=some z:=⟨_,List.getElem?_eq_getElem (by omega)⟩
   have hr1:=src_int hsr (by omega) hzk
   have htk:=take_snoc _ _ _ hzk
   repeat' (first|refine d1 ?_|fail)
   refine T_if rfl (fun h4=>?_) (fun h4=>?_)
   ·simp only [decide_eq_true_eq] at h4
    subst h4
    repeat' (first|refine d1 ?_|fail)
    refine T_backX (k+1) ⟨hkn,hp.gap hr hzk⟩ (by omega) (hE:=⟨rfl,by rw [show ((r.take (k+1)).any fun z=>decide (z ≠ -1))=(r.take k).any fun z=>decide (z ≠ -1) by rw [htk,List.any_append];simp];rfl,trivial⟩) (hG:=?_)
    have e:valV (fun s=>(atC x.cols i (k+1) s:Nat)) n2=valV (fun s=>(atC x.cols i k s:Nat)) n2:=valV_ext fun q _=>by
     by_cases e:q=k
     ·rw [e,atC_gap hr hzk]
     ·rw [atC_other e]
    rw [e]
    exact Hle.refl _
   simp only [decide_eq_false_iff_not] at h4
   obtain⟨bs,os,rfl⟩:=hg.hs.base (by omega)
   obtain⟨t,ht,htm,hrt⟩:=hg.get hkn
   have htb:=hg.nb t htm
   repeat' (first|refine dd ?_|(show T _ (.run _ _ (_::_) _ _::_) _ _ _;refine rv rfl rfl rfl (Val.load rfl (fun hg=>rdOwn1 (b:=b1) (u := .int .i64 (atC x.cols i k k:Nat)) (by rw [show 0+(k:Int).toNat * 1=k by omega];exact valV_get hkn))) rfl rfl rfl ?_)|fail)
   refine T_if rfl (fun h5=>?_) (fun h5=>?_)
   ·simp only [Bool.or_eq_true,Bool.not_eq_true',decide_eq_false_iff_not,decide_eq_true_eq] at h5
    repeat' (first|refine d1 ?_|(show T _ (.code .ret::_) _ _ _;refine T_retV [] rfl (Hle.none _) ⟨by rw [hbad fun hc=>by have:=hp.bad hr hzk h4 (lens_get ht) hc;omega];rfl,rfl⟩))
   simp only [Bool.or_eq_false_iff,Bool.not_eq_false',decide_eq_true_eq,decide_eq_false_iff_not] at h5
   repeat' (first|refine d1 ?_|(show T _ (.ops _ (_::_)::_) _ _ _;first|refine T_val rfl (Val.load rfl (fun hg=>rdOwn1 (b:=b1) (u := .int .i64 (atC x.cols i k k:Nat)) (by rw [show 0+(k:Int).toNat * 1=k by omega];exact valV_get hkn))) rfl rfl rfl ?_|refine T_op (OpT.store rfl rfl rfl rfl (by rw [valV_length];omega) ?_))|fail)
   refine T_backX (k+1) ⟨hkn,hp.tok hr hzk h4 h5.1 (fun m hm=>by rw [lens_get ht] at hm;cases hm;omega)⟩ (by omega) (hE:=⟨rfl,by rw [show ((r.take (k+1)).any fun z=>decide (z ≠ -1))=true by rw [htk,List.any_append];simp [h4]];rfl,trivial⟩) (hG:=?_)
   rw [show 0+(k:Int).toNat * 1=k by omega,valV_put]
   have e:valV (fun s=>(atC x.cols i (k+1) s:Nat)) n2=valV (fun q=>if q=k then (atC x.cols i k k:Int)+1 else (atC x.cols i k q:Nat)) n2:=valV_ext fun q _=>by
    by_cases e:q=k
    ·subst e;rw [if_pos rfl,atC_tok hr hzk h4];rfl
    ·rw [if_neg e,atC_other e]
   rw [e]
   exact Hle.refl _
  ·simp only [decide_eq_false_iff_not] at h3
   obtain rfl:k=n2:=by omega
   rw [List.take_of_length_le (by omega)]
   repeat' (first|refine d1 ?_|fail)
   refine T_if rfl (fun h4=>?_) (fun h4=>?_)
   ·simp only [Bool.not_eq_true'] at h4
    repeat' (first|refine d1 ?_|(show T _ (.code .ret::_) _ _ _;refine T_retV [] rfl (Hle.none _) ⟨by rw [hbad fun hc=>by obtain⟨z,hz1,hz2⟩:=hc.some_ r hrm;rw [List.any_eq_false] at h4;exact h4 z hz1 (by simpa using hz2)];rfl,rfl⟩))
   simp only [Bool.not_eq_false'] at h4
   rw [List.any_eq_true] at h4
   obtain⟨z,hz1,hz2⟩:=h4
   repeat' (first|refine d1 ?_|fail)
   have htk:=take_snoc _ _ _ hr
   refine T_backX (i+1) ⟨hin,PreOk.row (by rw [lens_len,hn];exact hp),fun y hy=>?_,fun y hy=>?_⟩ (by omega) (hG:=?_)
   ·rw [htk,List.mem_append,List.mem_singleton] at hy
    rcases hy with hy|rfl
    ·exact hlen y hy
    ·exact hrl
   ·rw [htk,List.mem_append,List.mem_singleton] at hy
    rcases hy with hy|rfl
    ·exact hsome y hy
    ·exact⟨z,hz1,by simpa using hz2⟩
   ·have e:valV (fun s=>(atC x.cols i k s:Nat)) k=valV (fun s=>(atC x.cols (i+1) 0 s:Nat)) k:=valV_ext fun q hq=>by rw [atC_row hq]
    rw [e]
    exact Hle.refl _
 simp only [decide_eq_false_iff_not] at h1
 obtain rfl:i=x.cols.length:=by omega
 rw [List.take_of_length_le (Nat.le_refl _)] at hlen hsome
 repeat' (first|refine d1 ?_|fail)
 refine T_loopX (fun k:Nat=>[(9, .int .i64 k)]) (fun _=>[blk b1 (valV (fun s=>(atC x.cols x.cols.length 0 s:Nat)) n2) 3,blk pc (coL x.sec (.slice A1 n2 c1) (.slice A2 n2 c2) (.slice Ak x.cols.length ck)) 26]) (fun k=>k≤n2∧∀ s m,s<k→(lens l)[s]?=some m→atC x.cols x.cols.length 0 s=m) (fun k=>n2 - k) 0 ⟨Nat.zero_le _,fun s m h=>by omega⟩ ?_
 rintro k ⟨hk,hall⟩
 repeat' (first|refine d1 ?_|fail)
 refine T_if rfl (fun h3=>?_) (fun h3=>?_)
 ·simp only [decide_eq_true_eq] at h3
  have hkn:k<n2:=by omega
  obtain⟨bs,os,rfl⟩:=hg.hs.base (by omega)
  obtain⟨t,ht,htm,hrt⟩:=hg.get hkn
  repeat' (first|refine dd ?_|(show T _ (.run _ _ (_::_) _ _::_) _ _ _;refine rv rfl rfl rfl (Val.load rfl (fun hg=>rdOwn1 (b:=b1) (u := .int .i64 (atC x.cols x.cols.length 0 k:Nat)) (by rw [show 0+(k:Int).toNat * 1=k by omega];exact valV_get hkn))) rfl rfl rfl ?_)|fail)
  refine T_if rfl (fun h4=>?_) (fun h4=>?_)
  ·simp only [Bool.not_eq_true',decide_eq_false_iff_not] at h4
   repeat' (first|refine d1 ?_|(show T _ (.code .ret::_) _ _ _;refine T_retV [] rfl (Hle.none _) ⟨by rw [hbad fun hc=>h4 (by have h5:=hc.src k t.n (lens_get ht);have h6:=(hpre k t.n (lens_get ht)).1;rw [if_neg (by omega),List.take_of_length_le (Nat.le_refl _),h5] at h6;have:=congrArg List.length h6;rw [upto_len,upto_len] at this;omega)];rfl,rfl⟩))
  simp only [Bool.not_eq_false',decide_eq_true_eq] at h4
  repeat' (first|refine d1 ?_|fail)
  refine T_backX (k+1) ⟨hkn,fun s m hs hm=>?_⟩ (by omega)
  rcases Nat.lt_or_ge s k with h5|h5
  ·exact hall s m h5 hm
  ·rw [show s=k by omega] at hm ⊢
   rw [lens_get ht] at hm
   cases hm
   omega
 ·simp only [decide_eq_false_iff_not] at h3
  have hok:ColsOk (lens l) x.cols:=hpre.all (fun y hy=>by rw [lens_len,hn];exact hlen y hy) hsome fun s m hm=>hall s m (by have:=(List.getElem?_eq_some_iff.1 hm).1;rw [lens_len] at this;omega) hm
  repeat' (first|refine d1 ?_|(show T _ (.code .ret::_) _ _ _;refine T_retV [] rfl (Hle.none _) ⟨by rw [hgood hok];rfl,rfl⟩))
end Go.Proofs.YtefieebkankfoaaGreatDoor
namespace Go.Proofs.YtefieebkankfoaaGreatDoor
open Go.RowKit Go.Shelf Go.Proofs
set_option maxRecDepth 100000
set_option maxHeartbeats 1000000

theorem greatNames_spec (sec:ByteArray) (sg':List ByteArray) (A1:Option Addr) (c1:Nat) (w:World) (hs:Src w 1 A1 sg'.length (sg'.map Value.string)) (hb:sg'.length≤9223372036854775807) :
  Spec Tryz.prog 41 [.string sec, .slice A1 sg'.length c1] w (fun v R=>v = .bool (grN22 sec sg')∧R=[]):=by
 refine spec_of sg Tryz.func41 rfl rfl rfl ?_
 repeat' (first|refine d1 ?_|fail)
 refine T_loopX (fun k:Nat=>[(5, .int .i64 k)]) (fun _=>[]) (fun k=>k≤sg'.length∧∀ j s,j<k→sg'[j]?=some s→s.size≤20) (fun k=>sg'.length - k) 0 ⟨Nat.zero_le _,fun j s h=>by omega⟩ ?_
 rintro k ⟨hk,hall⟩
 repeat' (first|refine d1 ?_|fail)
 refine T_if rfl (fun h=>?_) (fun h=>?_)
 ·simp only [decide_eq_true_eq] at h
  have hkn:k<sg'.length:=by omega
  obtain⟨b,o,rfl⟩:=hs.base (by omega)
  obtain⟨s,hs9⟩:∃ s,sg'[k]?=some s:=⟨_,List.getElem?_eq_getElem hkn⟩
  have hr:=src_str hs hkn hs9
  repeat' (first|refine d1 ?_|fail)
  refine T_if rfl (fun h2=>?_) (fun h2=>?_)
  ·simp only [decide_eq_true_eq] at h2
   have:sg'.any (fun s=>decide (20<s.size))=true:=List.any_eq_true.2 ⟨s,List.mem_of_getElem? hs9,by simp;omega⟩
   repeat' (first|refine d1 ?_|(show T _ (.code .ret::_) _ _ _;refine T_retV [] rfl (Hle.none _) ⟨congrArg Value.bool (by unfold grN22;rw [this];rfl),rfl⟩))
  simp only [decide_eq_false_iff_not] at h2
  repeat' (first|refine d1 ?_|fail)
  refine T_backX (k+1) ⟨by omega,fun j z hj hz=>?_⟩ (by omega)
  rcases Nat.lt_or_ge j k with h9|h9
  ·exact hall j z h9 hz
  ·rw [show j=k by omega,hs9] at hz
   cases hz
   omega
 simp only [decide_eq_false_iff_not] at h
 have:sg'.any (fun s=>decide (20<s.size))=false:=List.any_eq_false.2 fun y hy=>by
  obtain⟨i,hi,e⟩:=List.getElem_of_mem hy
  have:=hall i y (by omega) (by rw [List.getElem?_eq_getElem hi,e])
  simp;omega
 repeat' (first|refine d1 ?_|(show T _ (.code .ret::_) _ _ _;refine T_retV [] rfl (Hle.none _) ⟨congrArg Value.bool (by unfold grN22;rw [this,Bool.false_or];exact decide_eq_decide.2 (by omega)),rfl⟩))
theorem grL22_step {m:List (List Tok)} {k n:Nat} {l:List Tok} (h:m[k]?=some l):grL22 k n (m.drop k)=((decide (6<l.length) || (decide (4≤k) && decide (1<l.length)) || l.any big22) || grL22 (k+1) (if k<4 then n * (l.length+1) else n) (m.drop (k+1))):=by
 obtain⟨hl,e⟩:=List.getElem?_eq_some_iff.1 h
 rw [List.drop_eq_getElem_cons hl,e]
 rfl
theorem greatTokens_spec (A2:Option Addr) (c2:Nat) (l:List TS) (w:World) (hs:Src w 1 A2 l.length (l.map TS.val)) (hl:TsOk w l) (hb:l.length≤9223372036854775807) :
  Spec Tryz.prog 40 [.slice A2 l.length c2] w (fun v R=>v = .bool (grT22 (l.map TS.l))∧R=[]):=by
 refine spec_of sg Tryz.func40 rfl rfl rfl ?_
 repeat' (first|refine d1 ?_|fail)
 refine T_loopX (fun s:Nat × Nat=>[(4, .int .i64 (s.1:Nat)),(3, .int .i64 (s.2:Nat))]) (fun _=>[]) (fun s=>s.1≤l.length∧grL22 0 1 (l.map TS.l)=grL22 s.1 s.2 ((l.map TS.l).drop s.1)∧s.2 * 7 ^ (4 - s.1)≤2401) (fun s=>l.length - s.1) (0,1) ⟨Nat.zero_le _,by simp,by decide⟩ ?_
 rintro⟨k,n⟩ ⟨hk,hE,hN⟩
 dsimp only at hk hE hN ⊢
 have hn:n≤2401:=Nat.le_trans (Nat.le_mul_of_pos_right n (Nat.pow_pos (by omega))) hN
 repeat' (first|refine d1 ?_|fail)
 refine T_if rfl (fun h=>?_) (fun h=>?_)
 ·simp only [decide_eq_true_eq] at h
  have hkn:k<l.length:=by omega
  obtain⟨b,o,rfl⟩:=hs.base (by omega)
  obtain⟨t,ht⟩:∃ t,l[k]?=some t:=⟨_,List.getElem?_eq_getElem hkn⟩
  have htm:=List.mem_of_getElem? ht
  have htl:=hl.len t htm
  have htb:=hl.bd t htm
  have hts:=hl.src t htm
  have hr:RdC w b (o+(k:Int).toNat * 1) [.slice t.A t.n t.cap]:=by
   have h9:=(hs.get1 (i:=k) hkn (by rw [List.getElem?_map,ht];rfl)).2
   rw [Nat.mul_one] at h9
   rw [off1]
   exact h9
  rw [grL22_step (by rw [List.getElem?_map,ht];rfl)] at hE
  repeat' (first|refine d1 ?_|fail)
  refine T_if rfl (fun h2=>?_) (fun h2=>?_)
  ·have h3:(decide (6<t.l.length) || (decide (4≤k) && decide (1<t.l.length)))=true:=by
    simp only [Bool.or_eq_true,Bool.and_eq_true,decide_eq_true_eq] at h2 ⊢
    omega
   rw [h3,Bool.true_or,Bool.true_or] at hE
   repeat' (first|refine d1 ?_|(show T _ (.code .ret::_) _ _ _;refine T_retV [] rfl (Hle.none _) ⟨congrArg Value.bool (by unfold grT22;rw [hE];rfl),rfl⟩))
  have h3:(decide (6<t.l.length) || (decide (4≤k) && decide (1<t.l.length)))=false:=by
   simp only [Bool.or_eq_false_iff,Bool.and_eq_false_iff,decide_eq_false_iff_not] at h2 ⊢
   omega
  have h6:t.n≤6:=by
   simp only [Bool.or_eq_false_iff,decide_eq_false_iff_not] at h3
   omega
  rw [h3,Bool.false_or] at hE
  repeat' (first|refine d1 ?_|fail)
  refine T_cutX 1 [3] (fun _:Unit=>[(3, .int .i64 ((if k<4 then n * (t.l.length+1) else n:Nat):Nat))]) (fun _=>[]) (fun _=>True) ?_ ?_
  ·refine T_if rfl (fun h4=>?_) (fun h4=>?_)
   ·simp only [decide_eq_true_eq] at h4
    have h5:n * (t.n+1)≤2401 * 7:=Nat.mul_le_mul hn (by omega)
    have h7:(n:Int) * ((t.n:Int)+1)=((n * (t.n+1):Nat):Int):=by push_cast;rfl
    repeat' (first|refine d1 ?_|fail)
    refine T_meetX () trivial (hE:=⟨by rw [if_pos (by omega),htl, ← h7];rfl,trivial⟩)
   ·simp only [decide_eq_false_iff_not] at h4
    skip
    exact T_meetX () trivial (hE:=⟨by rw [if_neg (by omega)];rfl,trivial⟩)
  rintro⟨⟩ -
  repeat' (first|refine d1 ?_|fail)
  refine T_loopX (fun j:Nat=>[(5, .int .i64 j)]) (fun _=>[]) (fun j=>j≤t.n∧∀ i y,i<j→t.l[i]?=some y→big22 y=false) (fun j=>t.n - j) 0 ⟨Nat.zero_le _,fun i y h=>by omega⟩ ?_
  rintro j ⟨hj,hall⟩
  repeat' (first|refine d1 ?_|fail)
  refine T_if rfl (fun h4=>?_) (fun h4=>?_)
  ·simp only [decide_eq_true_eq] at h4
   have hjn:j<t.n:=by omega
   obtain⟨b2,o2,eA⟩:=hts.base (by omega)
   obtain⟨y,hy⟩:∃ y,t.l[j]?=some y:=⟨_,List.getElem?_eq_getElem (by omega)⟩
   have hr2:RdC w b2 (o2+(j:Int).toNat * 6) y.cells:=by have:=hts.getT hjn hy;rw [eA] at this;exact this
   rw [eA] at hr
   repeat' (first|refine d1 ?_|(show ∀ _:Nat,T _ _ _ _ _;intro _))
   refine T_if rfl (fun h5=>?_) (fun h5=>?_)
   ·have hbig:big22 y=true:=by
     simp only [Bool.or_eq_true,decide_eq_true_eq] at h5
     simp only [big22,Bool.or_eq_true,decide_eq_true_eq]
     omega
    rw [List.any_eq_true.2 ⟨y,List.mem_of_getElem? hy,hbig⟩,Bool.true_or] at hE
    repeat' (first|refine d1 ?_|(show T _ (.code .ret::_) _ _ _;refine T_retV [] rfl (Hle.none _) ⟨congrArg Value.bool (by unfold grT22;rw [hE];rfl),rfl⟩))
   have hbig:big22 y=false:=by
    simp only [Bool.or_eq_false_iff,decide_eq_false_iff_not] at h5
    simp only [big22,Bool.or_eq_false_iff,decide_eq_false_iff_not]
    omega
   repeat' (first|refine d1 ?_|fail)
   refine T_backX (j+1) ⟨by omega,fun i z hi hz=>?_⟩ (by omega)
   rcases Nat.lt_or_ge i j with h9|h9
   ·exact hall i z h9 hz
   ·rw [show i=j by omega,hy] at hz
    cases hz
    exact hbig
  simp only [decide_eq_false_iff_not] at h4
  have hgood:t.l.any big22=false:=List.any_eq_false.2 fun y hy=>by
   obtain⟨i,hi,e⟩:=List.getElem_of_mem hy
   rw [hall i y (by omega) (by rw [List.getElem?_eq_getElem hi,e])]
   simp
  rw [hgood,Bool.false_or] at hE
  repeat' (first|refine d1 ?_|fail)
  refine T_backX (k+1,if k<4 then n * (t.l.length+1) else n) ⟨by dsimp only;omega,hE,?_⟩ (by dsimp only;omega)
  show (if k<4 then n * (t.l.length+1) else n) * 7 ^ (4 - (k+1))≤2401
  by_cases h7:k<4
  ·rw [if_pos h7]
   rw [show 4 - k=(4 - (k+1))+1 by omega,Nat.pow_succ] at hN
   have h8:n * (t.l.length+1) * 7 ^ (4 - (k+1))≤n * 7 * 7 ^ (4 - (k+1)):=Nat.mul_le_mul_right _ (Nat.mul_le_mul_left _ (by omega))
   have e9:n * 7 * 7 ^ (4 - (k+1))=n * (7 ^ (4 - (k+1)) * 7):=by rw [Nat.mul_assoc,Nat.mul_comm 7]
   rw [e9] at h8
   exact Nat.le_trans h8 hN
  ·rw [if_neg h7,show 4 - (k+1)=4 - k by omega]
   exact hN
 simp only [decide_eq_false_iff_not] at h
 rw [List.drop_eq_nil_of_le (by rw [List.length_map];omega)] at hE
 have hE2:grL22 0 1 (l.map TS.l)=decide (400<n):=hE
 repeat' (first|refine d1 ?_|(show T _ (.code .ret::_) _ _ _;refine T_retV [] rfl (Hle.none _) ⟨congrArg Value.bool ?_,rfl⟩))
 unfold grT22
 rw [hE2,List.length_map,Bool.eq_iff_iff]
 simp only [Bool.or_eq_true,Bool.and_eq_true,decide_eq_true_eq]
 omega
theorem great22_spec (x:Co) (A1:Option Addr) (c1:Nat) (l:List TS) (A2:Option Addr) (c2:Nat) (y3:Value) (w:World) (hs1:Src w 1 A1 x.sg.length (x.sg.map Value.string)) (hb1:x.sg.length≤9223372036854775807)
  (hs2:Src w 1 A2 l.length (l.map TS.val)) (hl:TsOk w l) (hb2:l.length≤9223372036854775807) (hm:l.map TS.l=x.m) (hc:Rd (wr w) [y3] [rowsD x.cols]) :
  Spec Tryz.prog 20 [.agg (coL x.sec (.slice A1 x.sg.length c1) (.slice A2 l.length c2) y3).toArray] w (fun v R=>v = .bool (great22 x)∧R=[]):=by
 obtain⟨Ak,ck,csk,rfl,hck1,hck2,hcs,hrows⟩:=hc.tabS
 refine spec_of sg Tryz.func20 rfl rfl rfl ?_
 refine T_op (OpT.box (cs:=coL x.sec (.slice A1 x.sg.length c1) (.slice A2 l.length c2) (.slice Ak x.cols.length ck)) rfl rfl rfl rfl rfl rfl rfl (fun pc=>?_))
 repeat' (first|refine d1 ?_|fail)
 refine T_loopX (fun k:Nat=>[(3, .int .i64 k)]) (fun _=>[blk pc (coL x.sec (.slice A1 x.sg.length c1) (.slice A2 l.length c2) (.slice Ak x.cols.length ck)) 26]) (fun k=>k≤x.cols.length∧∀ j c,j<k→x.cols[j]?=some c→c.length≤36) (fun k=>x.cols.length - k) 0 ⟨Nat.zero_le _,fun j s h=>by omega⟩ ?_
 rintro k ⟨hk,hall⟩
 repeat' (first|refine d1 ?_|fail)
 refine T_if rfl (fun h=>?_) (fun h=>?_)
 ·simp only [decide_eq_true_eq] at h
  have hkn:k<x.cols.length:=by omega
  obtain⟨b,o,rfl⟩:=hcs.base (by omega)
  obtain⟨r,hr⟩:∃ r,x.cols[k]?=some r:=⟨_,List.getElem?_eq_getElem hkn⟩
  obtain⟨Au,capu,hu,-,-,hA⟩:=hrows.tabRow hr
  have hr0:=rowHd hcs hkn hu
  repeat' (first|refine d1 ?_|fail)
  refine T_if rfl (fun h2=>?_) (fun h2=>?_)
  ·simp only [decide_eq_true_eq] at h2
   have:x.cols.any (fun c=>decide (36<c.length))=true:=List.any_eq_true.2 ⟨r,List.mem_of_getElem? hr,by simp;omega⟩
   repeat' (first|refine d1 ?_|(show T _ (.code .ret::_) _ _ _;refine T_retV [] rfl (Hle.none _) ⟨congrArg Value.bool (by unfold great22;rw [this];rfl),rfl⟩))
  simp only [decide_eq_false_iff_not] at h2
  repeat' (first|refine d1 ?_|fail)
  refine T_backX (k+1) ⟨by omega,fun j z hj hz=>?_⟩ (by omega)
  rcases Nat.lt_or_ge j k with h9|h9
  ·exact hall j z h9 hz
  ·rw [show j=k by omega,hr] at hz
   cases hz
   omega
 simp only [decide_eq_false_iff_not] at h
 have:x.cols.any (fun s=>decide (36<s.length))=false:=List.any_eq_false.2 fun y hy=>by
  obtain⟨i,hi,e⟩:=List.getElem_of_mem hy
  have:=hall i y (by omega) (by rw [List.getElem?_eq_getElem hi,e])
  simp;omega
 repeat' (first|refine d1 ?_|(show T _ (.ops _ (_::_)::_) _ _ _;first|refine T_call rfl rfl rfl rfl rfl (fun w hw=>greatTokens_spec A2 c2 l w (rdSrc hs2 w hw) ⟨fun t ht=>src_below (hl.src t ht) hw.below,hl.len,hl.bd⟩ hb2) ?_|refine T_callC rfl rfl rfl rfl rfl rfl rfl (fun hg w hw=>greatNames_spec x.sec x.sg A1 c1 w (rdSrc hs1 w hw) hb1) ?_)|(show T _ (.code .ret::_) _ _ _;refine T_retV [] rfl (Hle.none _) ⟨congrArg Value.bool ?_,rfl⟩))
 rw [hm]
 unfold great22
 rw [this,show decide ((24:Int)<(x.cols.length:Nat))=decide (24<x.cols.length) from decide_eq_decide.2 (by omega),show decide ((36:Int)<(x.sg.length:Nat))=decide (36<x.sg.length) from decide_eq_decide.2 (by omega),Bool.false_or,Bool.or_assoc,Bool.or_assoc]
end Go.Proofs.YtefieebkankfoaaGreatDoor
namespace Go.Proofs.YtefieebkankfoaaGreatDoor
open Go.RowKit Go.Shelf Go.Proofs

theorem lens22_get (m:List (List Tok)) (k:Nat):(lens22 m).getD k 0=(m.getD k []).length:=by
 unfold lens22
 rw [List.getD_eq_getElem?_getD,List.getElem?_map,List.getD_eq_getElem?_getD]
 cases m[k]? <;> rfl
theorem lens22_pick (x:Co) (ks:List Nat):lens22 (pick22 x ks).m=ks.map fun k=>(lens22 x.m).getD k 0:=by
 show lens22 (ks.map fun k=>x.m.getD k [])=_
 unfold lens22
 rw [List.map_map]
 exact List.map_congr_left fun k _=>(lens22_get x.m k).symm
theorem getD_mem22 {α:Type} {l:List α} {k:Nat} (d:α) (h:k<l.length):l.getD k d∈l:=by
 rw [List.getD_eq_getElem?_getD,List.getElem?_eq_getElem h]
 exact List.getElem_mem h
theorem map_getD22 {α:Type} {ks:List Nat} (f:Nat→α) (d:α) {j:Nat} (h:j<ks.length):(ks.map f).getD j d=f (ks.getD j 0):=by
 rw [List.getD_eq_getElem?_getD,List.getElem?_map,List.getElem?_eq_getElem h,List.getD_eq_getElem?_getD,List.getElem?_eq_getElem h];rfl
theorem pick22_ok {x:Co} (h:Ok22 x) {ks:List Nat} (h1:1≤ks.length) (hn:ks.Nodup) (hlt:∀ k∈ks,k<x.sg.length):Ok22 (pick22 x ks):=by
 obtain⟨⟨g1,g2,g3,g4,g5,g6,g7⟩,g8⟩:=h
 have hlm:∀ k∈ks,k<x.m.length:=fun k hk=>by have:=hlt k hk;omega
 refine ⟨⟨g1,by show 1≤(ks.map _).length;rw [List.length_map];exact h1,?_,?_,?_,?_,?_⟩,?_⟩
 ·show (ks.map _).length≤32
  rw [List.length_map]
  have:=pigeon2 _ ks hn hlt
  omega
 ·intro s hs
  obtain⟨k,hk,rfl⟩:=List.mem_map.1 hs
  exact g4 _ (getD_mem22 _ (hlt k hk))
 ·show (ks.map _).Nodup
  rw [List.Nodup,List.pairwise_map]
  refine List.Pairwise.imp_of_mem (fun {a b} ha hb hne e=>hne ?_) hn
  have ha':=hlt a ha
  have hb':=hlt b hb
  rw [List.getD_eq_getElem?_getD,List.getElem?_eq_getElem ha',List.getD_eq_getElem?_getD,List.getElem?_eq_getElem hb'] at e
  exact (List.getElem_inj (h₀:=ha') (h₁:=hb') g5).1 e
 ·show (ks.map _).length=(ks.map _).length
  rw [List.length_map,List.length_map]
 ·intro l hl
  obtain⟨k,hk,rfl⟩:=List.mem_map.1 hl
  exact g7 _ (getD_mem22 _ (hlm k hk))
 ·rw [lens22_pick]
  exact prjC_ok g8 fun s hs=>by unfold lens22;rw [List.length_map];exact hlm s hs
theorem pick22_pick {x:Co} {ks ms:List Nat} (h:∀ j∈ms,j<ks.length):pick22 (pick22 x ks) ms=pick22 x (ms.map fun j=>ks.getD j 0):=by
 have e1:(ms.map fun j=>(ks.map fun k=>x.sg.getD k ByteArray.empty).getD j ByteArray.empty)=(ms.map fun j=>ks.getD j 0).map fun k=>x.sg.getD k ByteArray.empty:=by
  rw [List.map_map]
  exact List.map_congr_left fun j hj=>map_getD22 _ _ (h j hj)
 have e2:(ms.map fun j=>(ks.map fun k=>x.m.getD k []).getD j [])=(ms.map fun j=>ks.getD j 0).map fun k=>x.m.getD k []:=by
  rw [List.map_map]
  exact List.map_congr_left fun j hj=>map_getD22 _ _ (h j hj)
 show Co.mk x.sec (ms.map fun j=>(ks.map fun k=>x.sg.getD k ByteArray.empty).getD j ByteArray.empty) (ms.map fun j=>(ks.map fun k=>x.m.getD k []).getD j []) (prjC ms (prjC ks x.cols))=Co.mk x.sec _ _ _
 rw [e1,e2,prjC_prjC h]
theorem range_getD22 {α:Type} (l:List α) (d:α) {n:Nat} (h:n=l.length):((List.range n).map fun k=>l.getD k d)=l:=by
 subst h
 refine List.ext_getElem? fun s=>?_
 rw [List.getElem?_map]
 by_cases hs:s<l.length
 ·rw [List.getElem?_range hs,Option.map_some,List.getD_eq_getElem?_getD,List.getElem?_eq_getElem hs];rfl
 ·rw [List.getElem?_eq_none (by rw [List.length_range];omega),List.getElem?_eq_none (by omega)];rfl
theorem pick22_all {x:Co} (h:Ok22 x):pick22 x (List.range x.sg.length)=x:=by
 obtain⟨sec,sg,m,cols⟩:=x
 have hl:m.length=sg.length:=h.head.len
 have e3:prjC (List.range sg.length) cols=cols:=by
  have hls:(lens22 m).length=sg.length:=by unfold lens22;rw [List.length_map];exact hl
  rw [← hls]
  exact prjC_all (fun x hx=>h.cols.len x hx) (fun x hx=>h.cols.some_ x hx) (fun x hx s=>h.cols.ge hx s)
 show Co.mk sec _ _ _=Co.mk sec _ _ _
 rw [range_getD22 sg _ rfl,range_getD22 m _ hl.symm,e3]
theorem small22_pick {x:Co} (h:Small22 x) (hk:Ok22 x) {ks:List Nat} (hn:ks.Nodup) (hlt:∀ k∈ks,k<x.sg.length):Small22 (pick22 x ks):=by
 obtain⟨g1,g2,g3,g4,g5,g6,g7,g8⟩:=h
 have hl:=hk.head.len
 have h32:=hk.head.le
 have hp:=pigeon2 _ ks hn hlt
 refine ⟨?_, .inl ?_,?_,?_,?_,?_,g7,?_⟩
 ·intro l hm
  obtain⟨k,hk,rfl⟩:=List.mem_map.1 hm
  exact g1 _ (getD_mem22 _ (by have:=hlt k hk;omega))
 ·show (ks.map _).length≤6
  rw [List.length_map];omega
 ·intro c hc
  obtain⟨y,-,rfl⟩:=List.mem_map.1 (List.mem_filter.1 hc).1
  rw [prjR_len];omega
 ·show (prjC ks x.cols).length≤24
  have:=List.length_filter_le anyP (x.cols.map (prjR ks))
  rw [List.length_map] at this
  show ((x.cols.map (prjR ks)).filter anyP).length≤24
  omega
 ·show (ks.map _).length≤36
  rw [List.length_map];omega
 ·intro s hs
  obtain⟨k,hk,rfl⟩:=List.mem_map.1 hs
  exact g6 _ (getD_mem22 _ (hlt k hk))
 ·intro l hm
  obtain⟨k,hk,rfl⟩:=List.mem_map.1 hm
  exact g8 _ (getD_mem22 _ (by have:=hlt k hk;omega))
def some22 (z:Int) (n:Nat):List Nat:=(List.range n).filter fun i=>z.toNat.testBit (i % 8)
def chs22 (z:Int) (n:Nat):List Nat:=if (some22 z n).length=0 then List.range n else some22 z n
theorem some22_succ (z:Int) (n:Nat):some22 z (n+1)=some22 z n++if z.toNat.testBit (n % 8)=true then [n] else []:=by
 unfold some22
 rw [List.range_succ,List.filter_append,List.filter_cons]
 rfl
theorem chs22_asc (z:Int) (n:Nat):(chs22 z n).Pairwise (· < ·):=by
 unfold chs22
 split
 ·exact List.pairwise_lt_range
 ·exact List.pairwise_lt_range.filter _
theorem chs22_lt {z:Int} {n:Nat}:∀ k∈chs22 z n,k<n:=by
 intro k hk
 unfold chs22 at hk
 split at hk
 ·exact List.mem_range.1 hk
 ·exact List.mem_range.1 (List.mem_filter.1 hk).1
theorem chs22_pos {z:Int} {n:Nat} (h:1≤n):1≤(chs22 z n).length:=by
 unfold chs22
 split
 ·rw [List.length_range];exact h
 ·omega
theorem chs22_le (z:Int) (n:Nat):(chs22 z n).length≤n:=by
 unfold chs22
 split
 ·rw [List.length_range];exact Nat.le_refl _
 ·have:=List.length_filter_le (fun i=>z.toNat.testBit (i % 8)) (List.range n)
  rw [List.length_range] at this
  exact this
theorem bits255:∀ i:Nat,i<8→Nat.testBit 255 i=true:=by decide
theorem chs22_all (n:Nat):chs22 255 n=List.range n:=by
 have e:some22 255 n=List.range n:=by
  unfold some22
  rw [List.filter_eq_self]
  intro i _
  exact bits255 _ (Nat.mod_lt _ (by omega))
 unfold chs22
 rw [e]
 split <;> rfl
theorem asc_nodup22 {ks:List Nat} (h:ks.Pairwise (· < ·)):ks.Nodup:=h.imp fun {a b} hab e=>by omega
def both22 (one two:Int) (n:Nat):List Nat:=(chs22 two (chs22 one n).length).map fun j=>(chs22 one n).getD j 0
theorem both22_asc (one two:Int) (n:Nat):(both22 one two n).Pairwise (· < ·):=by
 unfold both22
 rw [List.pairwise_map]
 refine List.Pairwise.imp_of_mem (fun {a b} ha hb hab=>?_) (chs22_asc two _)
 have ha':=chs22_lt a ha
 have hb':=chs22_lt b hb
 rw [List.getD_eq_getElem?_getD,List.getElem?_eq_getElem ha',List.getD_eq_getElem?_getD,List.getElem?_eq_getElem hb']
 exact List.pairwise_iff_getElem.1 (chs22_asc one n) a b ha' hb' hab
theorem both22_lt {one two:Int} {n:Nat}:∀ k∈both22 one two n,k<n:=by
 intro k hk
 obtain⟨j,hj,rfl⟩:=List.mem_map.1 hk
 exact chs22_lt _ (getD_mem22 _ (chs22_lt j hj))
theorem both22_pos {one two:Int} {n:Nat} (h:1≤n):1≤(both22 one two n).length:=by
 unfold both22
 rw [List.length_map]
 exact chs22_pos (chs22_pos h)
theorem toNat_intN22 (ks:List Nat):(intN ks).map Int.toNat=ks:=by
 unfold intN
 rw [List.map_map]
 have:(Int.toNat ∘ fun x:Nat=>(x:Int))=id:=by funext k;simp
 rw [this,List.map_id]
theorem keepV22_of {x:Co} (h:Ok22 x) {ks:List Nat} (h1:1≤ks.length) (ha:ks.Pairwise (· < ·)) (hlt:∀ k∈ks,k<x.sg.length):keepV22 x (intN ks)=(pick22 x ks,0):=by
 unfold keepV22
 rw [if_neg (by rw [chk22_iff.2 h];simp),if_neg (by unfold intN;rw [List.length_map];omega),kpE22_asc ha hlt (by intro q hq;cases hq),if_neg (by simp),toNat_intN22]
theorem keeps22 {x:Co} (h:Ok22 x) (one two:Int) :
  keepV22 x (intN (chs22 one x.sg.length))=(pick22 x (chs22 one x.sg.length),0) ∧
  keepV22 (pick22 x (chs22 one x.sg.length)) (intN (chs22 two (chs22 one x.sg.length).length))=(pick22 x (both22 one two x.sg.length),0) ∧
  keepV22 x (intN (both22 one two x.sg.length))=(pick22 x (both22 one two x.sg.length),0) ∧
  keepV22 x (intN (chs22 255 x.sg.length))=(x,0):=by
 have h1:=h.head.pos
 have hy:=pick22_ok h (chs22_pos h1) (asc_nodup22 (chs22_asc one _)) chs22_lt
 have hyl:(pick22 x (chs22 one x.sg.length)).sg.length=(chs22 one x.sg.length).length:=List.length_map _
 refine ⟨keepV22_of h (chs22_pos h1) (chs22_asc _ _) chs22_lt,?_,keepV22_of h (both22_pos h1) (both22_asc _ _ _) both22_lt,?_⟩
 ·rw [keepV22_of hy (chs22_pos (chs22_pos h1)) (chs22_asc _ _) (by rw [hyl];exact chs22_lt),pick22_pick chs22_lt]
  rfl
 ·rw [keepV22_of h (chs22_pos h1) (chs22_asc _ _) chs22_lt,chs22_all,pick22_all h]
end Go.Proofs.YtefieebkankfoaaGreatDoor
namespace Go.Proofs.YtefieebkankfoaaGreatDoor
open Go.RowKit Go.Shelf Go.Proofs

def ord22 (n k:Nat):List Nat:=(List.range n).map fun i=>(i+k) % n
def bck22 (n k:Nat):List Nat:=(List.range n).map fun i=>(i+n - k) % n
theorem ord22_len (n k:Nat):(ord22 n k).length=n:=by simp [ord22]
theorem bck22_len (n k:Nat):(bck22 n k).length=n:=by simp [bck22]
theorem ord22_get {n k i:Nat} (h:i<n):(ord22 n k).getD i 0=(i+k) % n:=by
 unfold ord22
 rw [map_getD22 _ _ (by rw [List.length_range];exact h),List.getD_eq_getElem?_getD,List.getElem?_range h];rfl
theorem ord22_lt {n k:Nat}:∀ x∈ord22 n k,x<n:=by
 intro x hx
 obtain⟨i,hi,rfl⟩:=List.mem_map.1 hx
 have:=List.mem_range.1 hi
 exact Nat.mod_lt _ (by omega)
theorem bck22_lt {n k:Nat}:∀ x∈bck22 n k,x<n:=by
 intro x hx
 obtain⟨i,hi,rfl⟩:=List.mem_map.1 hx
 have:=List.mem_range.1 hi
 exact Nat.mod_lt _ (by omega)
theorem mod_twice {n a b:Nat} (ha:a<n) (hb:b<n):(a+b) % n=if a+b<n then a+b else a+b - n:=by
 split
 ·rename_i h;exact Nat.mod_eq_of_lt h
 ·rename_i h
  rw [Nat.mod_eq_sub_mod (by omega),Nat.mod_eq_of_lt (by omega)]
theorem ord22_nodup {n k:Nat} (hk:k<n):(ord22 n k).Nodup:=by
 unfold ord22
 rw [List.Nodup,List.pairwise_map]
 refine List.Pairwise.imp_of_mem (fun {a b} ha hb hab e=>?_) (List.pairwise_lt_range (n:=n))
 have ha':=List.mem_range.1 ha
 have hb':=List.mem_range.1 hb
 rw [mod_twice ha' hk,mod_twice hb' hk] at e
 split at e <;> split at e <;> omega
theorem bck22_nodup {n k:Nat} (hk:k<n):(bck22 n k).Nodup:=by
 unfold bck22
 rw [List.Nodup,List.pairwise_map]
 refine List.Pairwise.imp_of_mem (fun {a b} ha hb hab e=>?_) (List.pairwise_lt_range (n:=n))
 have ha':=List.mem_range.1 ha
 have hb':=List.mem_range.1 hb
 by_cases h0:k=0
 ·subst h0
  rw [show a+n - 0=a+n by omega,show b+n - 0=b+n by omega,Nat.add_mod_right,Nat.add_mod_right,Nat.mod_eq_of_lt ha',Nat.mod_eq_of_lt hb'] at e
  omega
 ·rw [show a+n - k=a+(n - k) by omega,show b+n - k=b+(n - k) by omega,mod_twice ha' (by omega),mod_twice hb' (by omega)] at e
  split at e <;> split at e <;> omega
theorem ord_bck22 {n k:Nat} (hk:k<n):((bck22 n k).map fun j=>(ord22 n k).getD j 0)=List.range n:=by
 unfold bck22
 rw [List.map_map]
 have:∀ i∈List.range n,((fun j=>(ord22 n k).getD j 0) ∘ fun i=>(i+n - k) % n) i=id i:=by
  intro i hi
  have hi':=List.mem_range.1 hi
  show (ord22 n k).getD ((i+n - k) % n) 0=i
  rw [ord22_get (Nat.mod_lt _ (by omega)),Nat.mod_add_mod,show i+n - k+k=i+n by omega,Nat.add_mod_right,Nat.mod_eq_of_lt hi']
 rw [List.map_congr_left this,List.map_id]
theorem turnV22_of {x:Co} (h:Ok22 x) {ks:List Nat} (h1:ks.length=x.sg.length) (hn:ks.Nodup) (hlt:∀ k∈ks,k<x.sg.length):turnV22 x (intN ks)=(pick22 x ks,0):=by
 unfold turnV22
 rw [if_neg (by rw [chk22_iff.2 h];simp),if_neg (by unfold intN;rw [List.length_map];omega),show ([]:List Int)=intN [] from rfl,roE22_of (pre:=[]) (by simpa using hn) hlt,if_neg (by simp),toNat_intN22]
theorem turns22 {x:Co} (h:Ok22 x) {k:Nat} (hk:k<x.sg.length) :
  turnV22 x (intN (ord22 x.sg.length k))=(pick22 x (ord22 x.sg.length k),0)∧turnV22 (pick22 x (ord22 x.sg.length k)) (intN (bck22 x.sg.length k))=(x,0):=by
 have hy:=pick22_ok h (ks:=ord22 x.sg.length k) (by rw [ord22_len];omega) (ord22_nodup hk) ord22_lt
 have hyl:(pick22 x (ord22 x.sg.length k)).sg.length=x.sg.length:=(List.length_map _).trans (ord22_len _ _)
 refine ⟨turnV22_of h (ord22_len _ _) (ord22_nodup hk) ord22_lt,?_⟩
 rw [turnV22_of hy (by rw [bck22_len,hyl]) (bck22_nodup hk) (by rw [hyl];exact bck22_lt),pick22_pick (by rw [ord22_len];exact bck22_lt),ord_bck22 hk,pick22_all h]
theorem prjC_ord {x:Co} (h:Ok22 x) {k:Nat} (hk:k<x.sg.length):prjC (ord22 x.sg.length k) x.cols=x.cols.map (prjR (ord22 x.sg.length k)):=by
 unfold prjC
 rw [List.filter_eq_self]
 intro c hc
 obtain⟨y,hy,rfl⟩:=List.mem_map.1 hc
 obtain⟨z,hz,hne⟩:=h.cols.some_ y hy
 obtain⟨s,hs,rfl⟩:=List.getElem_of_mem hz
 have hls:(lens22 x.m).length=x.sg.length:=by unfold lens22;rw [List.length_map];exact h.head.len
 have hsn:s<x.sg.length:=by rw [← hls, ← h.cols.len y hy];exact hs
 obtain⟨j,hj,e⟩:=ord_surj (ord22_nodup hk) ord22_lt (ord22_len _ _) hsn
 have h9:=h.cols.ge hy s
 rw [List.getD_eq_getElem?_getD,List.getElem?_eq_getElem hs] at h9
 have h10 : -1≤y[s]:=h9
 refine anyP_iff.2 ⟨y[s],List.mem_map.2 ⟨s,?_,?_⟩,by omega⟩
 ·rw [← e];exact getD_mem22 _ (by rw [ord22_len];exact hj)
 ·rw [List.getD_eq_getElem?_getD,List.getElem?_eq_getElem hs];rfl
theorem cols22_turn {x:Co} (h:Ok22 x) {k:Nat} (hk:k<x.sg.length):(pick22 x (ord22 x.sg.length k)).cols.length=x.cols.length:=by
 show (prjC _ x.cols).length=_
 rw [prjC_ord h hk,List.length_map]
theorem cell22_turn {x:Co} (h:Ok22 x) {k:Nat} (hk:k<x.sg.length) {i j:Nat} (hi:i<x.cols.length) (hj:j<x.sg.length) :
  cell22 (pick22 x (ord22 x.sg.length k)) j i=cell22 x ((j+k) % x.sg.length) i:=by
 unfold cell22
 show txt22 ((List.map _ (ord22 x.sg.length k)).getD j []) (((prjC (ord22 x.sg.length k) x.cols).getD i []).getD j (-1))=_
 rw [map_getD22 _ _ (by rw [ord22_len];exact hj),prjC_ord h hk,List.getD_eq_getElem?_getD (l:=x.cols.map _),List.getElem?_map,List.getElem?_eq_getElem hi,Option.map_some,Option.getD_some,prjR_getD (by rw [ord22_len];exact hj),ord22_get hj,List.getD_eq_getElem?_getD (l:=x.cols),List.getElem?_eq_getElem hi,Option.getD_some]
theorem col22_turn {x:Co} (h:Ok22 x) {k:Nat} (hk:k<x.sg.length) {i:Nat} (hi:i<x.cols.length) :
  col22 (pick22 x (ord22 x.sg.length k)) i=(col22 x i).drop k++(col22 x i).take k:=by
 have hyl:(pick22 x (ord22 x.sg.length k)).sg.length=x.sg.length:=(List.length_map _).trans (ord22_len _ _)
 refine List.ext_getElem? fun j=>?_
 by_cases hj:j<x.sg.length
 ·rw [col22_get (by rw [hyl];exact hj),cell22_turn h hk hi hj,mod_twice hj hk]
  by_cases h2:j+k<x.sg.length
  ·rw [if_pos h2,List.getElem?_append_left (by rw [List.length_drop,col22_len];omega),List.getElem?_drop,col22_get (by omega),Nat.add_comm k j]
  ·rw [if_neg h2,List.getElem?_append_right (by rw [List.length_drop,col22_len];omega),List.length_drop,col22_len,List.getElem?_take_of_lt (by omega),show j - (x.sg.length - k)=j+k - x.sg.length by omega,col22_get (by omega)]
 ·rw [List.getElem?_eq_none (by rw [col22_len,hyl];omega),List.getElem?_eq_none (by rw [List.length_append,List.length_drop,List.length_take,col22_len];omega)]
theorem txt22_neg22 (l:List Tok) {z:Int} (h:z<0):txt22 l z=ByteArray.empty:=if_pos h
theorem txt22_get {l:List Tok} {k:Nat} {t:Tok} (h:l[k]?=some t):txt22 l (k:Int)=t.text:=by
 unfold txt22
 rw [if_neg (by omega),Int.toNat_natCast,h]
end Go.Proofs.YtefieebkankfoaaGreatDoor
namespace Go.Proofs.YtefieebkankfoaaGreatDoor
open Go.RowKit Go.Shelf Go.Proofs
set_option maxRecDepth 100000
set_option maxHeartbeats 1000000

theorem nilStr (H:List HA):Hle H (dat [.slice none 0 0] [strsD []]::H):=hle_unit (Rd.s none 0 0 1 [] rfl (Nat.le_refl _) (by omega) (fun h=>absurd h (by omega)) .nil .nil)
theorem CoAt.row {w:World} {x:Co} {A1 A2:Option Addr} {c1 c2:Nat} {l:List TS} {y3:Value} (hx:CoAt w x A1 c1 l A2 c2 y3) (hok:Ok22 x):l.length=x.sg.length∧x.sg.length≤32∧1≤x.sg.length:=⟨by rw [← hok.head.len, ← hx.m,List.length_map],hok.head.le,hok.head.pos⟩
theorem CoAt.entry {w:World} {x:Co} {A1 A2:Option Addr} {c1 c2:Nat} {l:List TS} {y3:Value} (hx:CoAt w x A1 c1 l A2 c2 y3) (hok:Ok22 x) {i k:Nat} {r:List Int} (hr:x.cols[i]?=some r) (hk:k<x.sg.length) :
  r.length=x.sg.length∧∃ t z,l[k]?=some t∧r[k]?=some z ∧ -1≤z∧z<(t.n:Int)∧cell22 x k i=txt22 t.l z∧t.l.length=t.n:=by
 obtain⟨h1,h2,h3⟩:=hx.row hok
 have hm:=hx.m
 obtain⟨t,ht⟩:∃ t,l[k]?=some t:=⟨_,List.getElem?_eq_getElem (by omega)⟩
 have htl:=hx.hd.ok.len t (List.mem_of_getElem? ht)
 have hmk:x.m[k]?=some t.l:=by rw [← hm,List.getElem?_map,ht];rfl
 have hls:(lens22 x.m)[k]?=some t.n:=by unfold lens22;rw [List.getElem?_map,hmk, ← htl];rfl
 have hrl:r.length=x.sg.length:=by rw [hok.cols.len r (List.mem_of_getElem? hr)];unfold lens22;rw [List.length_map];exact hok.head.len
 obtain⟨z,hz⟩:∃ z,r[k]?=some z:=⟨_,List.getElem?_eq_getElem (by omega)⟩
 obtain⟨e1,e2⟩:=hok.cols.entry (List.mem_of_getElem? hr) hls hz
 refine ⟨hrl,t,z,ht,hz,e1,e2,?_,htl⟩
 unfold cell22
 rw [List.getD_eq_getElem?_getD,hmk,List.getD_eq_getElem?_getD,List.getD_eq_getElem?_getD,hr,Option.getD_some,Option.getD_some,hz,Option.getD_some]
def pre22 (l:List ByteArray) (n k:Nat):List Value:=(List.range n).map fun q => .string (if q<k then l.getD q ByteArray.empty else ByteArray.empty)
theorem pre22_len (l:List ByteArray) (n k:Nat):(pre22 l n k).length=n:=by simp [pre22]
theorem pre22_zero (l:List ByteArray) (n:Nat):List.replicate n (Value.string ByteArray.empty)=pre22 l n 0:=by
 unfold pre22
 refine List.ext_getElem? fun j=>?_
 rw [List.getElem?_map,List.getElem?_replicate]
 by_cases hj:j<n
 ·rw [List.getElem?_range hj,if_pos hj,Option.map_some,if_neg (by omega)]
 ·rw [List.getElem?_eq_none (by rw [List.length_range];omega),if_neg hj];rfl
theorem pre22_set {l:List ByteArray} {n k:Nat} (h:k<n):(pre22 l n k).set k (.string (l.getD k ByteArray.empty))=pre22 l n (k+1):=by
 refine List.ext_getElem? fun j=>?_
 unfold pre22
 rw [List.getElem?_set,List.getElem?_map,List.getElem?_map,List.length_map,List.length_range]
 by_cases hj:j<n
 ·rw [List.getElem?_range hj,Option.map_some,Option.map_some]
  by_cases e:k=j
  ·subst e
   rw [if_pos rfl,if_pos h,if_pos (by omega)]
  ·rw [if_neg e]
   by_cases h2:j<k
   ·rw [if_pos h2,if_pos (by omega)]
   ·rw [if_neg h2,if_neg (by omega)]
 ·rw [if_neg (by omega),List.getElem?_eq_none (by rw [List.length_range];omega)]
  rfl
theorem pre22_gap {l:List ByteArray} {n k:Nat} (h:l.getD k ByteArray.empty=ByteArray.empty):pre22 l n k=pre22 l n (k+1):=by
 unfold pre22
 refine List.map_congr_left fun q _=>?_
 by_cases h1:q<k
 ·rw [if_pos h1,if_pos (by omega)]
 ·by_cases h2:q=k
  ·subst h2;rw [if_neg h1,if_pos (by omega),h]
  ·rw [if_neg h1,if_neg (by omega)]
theorem pre22_all (l:List ByteArray):pre22 l l.length l.length=l.map Value.string:=by
 unfold pre22
 refine List.ext_getElem? fun j=>?_
 rw [List.getElem?_map,List.getElem?_map]
 by_cases hj:j<l.length
 ·rw [List.getElem?_range hj,Option.map_some,if_pos hj,List.getD_eq_getElem?_getD,List.getElem?_eq_getElem hj];rfl
 ·rw [List.getElem?_eq_none (by rw [List.length_range];omega),List.getElem?_eq_none (by omega)];rfl
theorem column22_spec (x:Co) (A1:Option Addr) (c1:Nat) (l:List TS) (A2:Option Addr) (c2:Nat) (y3:Value) (i:Nat) (w:World) (hx:CoAt w x A1 c1 l A2 c2 y3) (hok:Ok22 x) (hi:i<x.cols.length) :
  Spec Tryz.prog 33 [.agg (coL x.sec (.slice A1 x.sg.length c1) (.slice A2 l.length c2) y3).toArray, .int .i64 (i:Nat)] w (fun v R=>∃ b:Nat,True∧v = .slice (some ⟨b,0,none⟩) x.sg.length x.sg.length∧R=[blk b ((col22 x i).map Value.string) 9]):=by
 obtain⟨Ak,ck,csk,rfl,hck1,hck2,hcs,hrows⟩:=hx.cols.tabS
 obtain⟨h1,h2,h3⟩:=hx.row hok
 obtain⟨bk3,ok3,rfl⟩:=hcs.base (by omega)
 obtain⟨r,hr⟩:∃ r,x.cols[i]?=some r:=⟨_,List.getElem?_eq_getElem hi⟩
 obtain⟨Au,capu,hu,-,-,hA⟩:=hrows.tabRow hr
 have hr0:=rowHd hcs hi hu
 have hsr:=rowSrc hA
 have hrl:=(hx.entry hok hr (k:=0) (by omega)).1
 obtain⟨n,hn⟩:∃ n,x.sg.length=n:=⟨_,rfl⟩
 have hcl:(col22 x i).length=n:=by rw [col22_len];exact hn
 have hS:Spec Tryz.prog 33 [.agg (coL x.sec (.slice A1 n c1) (.slice A2 l.length c2) (.slice (some ⟨bk3,ok3,none⟩) x.cols.length ck)).toArray, .int .i64 (i:Nat)] w (fun v R=>∃ b:Nat,True∧v = .slice (some ⟨b,0,none⟩) n n∧R=[blk b ((col22 x i).map Value.string) 9]):=by
  refine spec_of sg Tryz.func33 rfl rfl rfl ?_
  refine T_op (OpT.box (cs:=coL x.sec (.slice A1 n c1) (.slice A2 l.length c2) (.slice (some ⟨bk3,ok3,none⟩) x.cols.length ck)) rfl rfl rfl rfl rfl rfl rfl (fun pc=>?_))
  repeat' (first|refine d1 ?_|(show T _ (.ops _ (_::_)::_) _ _ _;refine T_op (OpT.make rfl rfl rfl rfl rfl rfl rfl rfl rfl (by dsimp only;omega) (fun b1=>?_)))|fail)
  have hz:List.replicate n (Value.string ByteArray.empty)=pre22 (col22 x i) n 0:=pre22_zero _ _
  refine T_loopX (fun k:Nat=>[(18, .int .i64 k)]) (fun k=>[blk b1 (pre22 (col22 x i) n k) 9,blk pc (coL x.sec (.slice A1 n c1) (.slice A2 l.length c2) (.slice (some ⟨bk3,ok3,none⟩) x.cols.length ck)) 26]) (fun k=>k≤n) (fun k=>n - k) 0 (Nat.zero_le _) ?_ (hG:=by rw [← hz];exact Hle.refl _)
  intro k hk
  repeat' (first|refine d1 ?_|fail)
  refine T_if rfl (fun h=>?_) (fun h=>?_)
  ·simp only [decide_eq_true_eq] at h
   have hkn:k<n:=by omega
   obtain⟨-,t,z,ht,hz,g1,g2,g3,g4⟩:=hx.entry hok hr (k:=k) (by omega)
   obtain⟨bu,ou,rfl⟩:=hsr.base (by omega)
   have hr1:=src_int hsr (by omega) hz
   have hcg:(col22 x i).getD k ByteArray.empty=txt22 t.l z:=by rw [List.getD_eq_getElem?_getD,col22_get (by omega),Option.getD_some,g3]
   repeat' (first|refine d1 ?_|fail)
   refine T_if rfl (fun h4=>?_) (fun h4=>?_)
   ·simp only [decide_eq_true_eq] at h4
    obtain⟨p,rfl⟩:=Int.eq_ofNat_of_zero_le h4
    obtain⟨y,hy⟩:∃ y,t.l[p]?=some y:=⟨_,List.getElem?_eq_getElem (by omega)⟩
    obtain⟨b2,o2,rfl⟩:=hx.hd.s2.base (by omega)
    have hrt:=hx.hd.hdr ht
    have hts:=hx.hd.ok.src t (List.mem_of_getElem? ht)
    obtain⟨b4,o4,eA⟩:=hts.base (by omega)
    rw [eA] at hrt
    have hr2:RdC w b4 (o4+(p:Int).toNat * 6) y.cells:=by have:=hts.getT (k:=p) (by omega) hy;rw [eA] at this;exact this
    rw [txt22_get hy] at hcg
    repeat' (first|refine d1 ?_|(show T _ (.ops _ (_::_)::_) _ _ _;refine T_op (OpT.store rfl rfl rfl rfl (by rw [pre22_len];omega) ?_))|fail)
    refine T_backX (k+1) hkn (by omega) (hG:=?_)
    rw [show 0+(k:Int).toNat * 1=k by omega, ← hcg,pre22_set hkn]
    exact Hle.refl _
   ·simp only [decide_eq_false_iff_not] at h4
    repeat' (first|refine d1 ?_|fail)
    refine T_backX (k+1) hkn (by omega) (hG:=?_)
    rw [← pre22_gap (by rw [hcg,txt22_neg22 _ (by omega)])]
    exact Hle.refl _
  ·simp only [decide_eq_false_iff_not] at h
   obtain rfl:k=n:=by omega
   have e:pre22 (col22 x i) k k=(col22 x i).map Value.string:=by rw [← hcl];exact pre22_all _
   rw [e]
   repeat' (first|refine d1 ?_|(show T _ (.code .ret::_) _ _ _;refine T_retV _ rfl Hle.sub ⟨b1,trivial,rfl,rfl⟩))
 rw [hn]
 exact hS
end Go.Proofs.YtefieebkankfoaaGreatDoor
namespace Go.Proofs.YtefieebkankfoaaGreatDoor
open Go.RowKit Go.Shelf Go.Proofs
set_option maxRecDepth 100000
set_option maxHeartbeats 1000000

theorem nilStr1 (H:List HA):Hle H [dat [.slice none 0 0] [strsD []]]:=(nilStr H).trans Hle.sub
theorem rowStr {A:Option Addr} {cap n:Nat} {l:List ByteArray} {H:List HA}:Hle (row 9 1 A cap n (l.map Value.string)::H) [dat [.slice A n cap] [strsD l]]:=dat_rowV.trans (Hle.nth 0 rfl)
theorem textP22_spec (x:Co) (A1:Option Addr) (c1:Nat) (l:List TS) (A2:Option Addr) (c2:Nat) (y3:Value) (i:Int) (w:World) (hx:CoAt w x A1 c1 l A2 c2 y3) :
  Spec Tryz.prog 11 [.agg (coL x.sec (.slice A1 x.sg.length c1) (.slice A2 l.length c2) y3).toArray, .int .i64 i] w (fun v R=>∃ y:Value,True∧v = .tuple #[y, .int .i64 (textV22 x i).2]∧R=[dat [y] [strsD (textV22 x i).1]]):=by
 refine spec_of sg Tryz.func11 rfl rfl rfl ?_
 refine T_op (OpT.box (cs:=coL x.sec (.slice A1 x.sg.length c1) (.slice A2 l.length c2) y3) rfl rfl rfl rfl rfl rfl rfl (fun pc=>?_))
 repeat' (first|refine d1 ?_|(show T _ (.ops _ (_::_)::_) _ _ _;refine T_call rfl rfl rfl rfl rfl (fun w hw=>checkP22_spec x A1 c1 l A2 c2 y3 w (hx.cls hw)) ?_)|fail)
 refine T_if rfl (fun h=>?_) (fun h=>?_)
 ·simp only [Bool.not_eq_true',decide_eq_false_iff_not] at h
  have e:textV22 x i=([],1):=if_pos h
  rw [e]
  repeat' (first|refine d1 ?_|(show T _ (.code .ret::_) _ _ _;refine T_retV _ rfl (nilStr1 _) ⟨_,trivial,rfl,rfl⟩))
 simp only [Bool.not_eq_false',decide_eq_true_eq] at h
 have hok:=chk22_iff.1 h
 obtain⟨h1,h2,h3⟩:=hx.row hok
 repeat' (first|refine d1 ?_|fail)
 refine T_if rfl (fun h4=>?_) (fun h4=>?_)
 ·simp only [Bool.or_eq_true,decide_eq_true_eq] at h4
  have e:textV22 x i=([],2):=by unfold textV22;rw [if_neg (by rw [h];simp),if_pos h4]
  rw [e]
  repeat' (first|refine d1 ?_|(show T _ (.code .ret::_) _ _ _;refine T_retV _ rfl (nilStr1 _) ⟨_,trivial,rfl,rfl⟩))
 simp only [Bool.or_eq_false_iff,decide_eq_false_iff_not] at h4
 have e:textV22 x i=(words22 x i.toNat,0):=by unfold textV22;rw [if_neg (by rw [h];simp),if_neg (by omega)]
 obtain⟨p,rfl⟩:=Int.eq_ofNat_of_zero_le (by omega:0≤i)
 rw [Int.toNat_natCast] at e
 rw [e]
 obtain⟨t,ht⟩:∃ t,l[p]?=some t:=⟨_,List.getElem?_eq_getElem (by omega)⟩
 have htm:=List.mem_of_getElem? ht
 have htl:=hx.hd.ok.len t htm
 have ht6:=(hx.hd.tok t htm).1
 have hw22:words22 x p=t.l.map Tok.text:=by unfold words22;rw [← hx.m,List.getD_eq_getElem?_getD,List.getElem?_map,ht];rfl
 rw [hw22]
 obtain⟨b2,o2,rfl⟩:=hx.hd.s2.base (by omega)
 have hrt:=hx.hd.hdr ht
 repeat' (first|refine d1 ?_|(show T _ (.ops _ (_::_)::_) _ _ _;refine T_callE rfl rfl rfl rfl rfl (fun w hw=>words_spec t.A t.n t.cap t.l w (rdSrc (hx.hd.ok.src t htm) w hw) htl (by omega)) (fun x1 _=>?_))|fail)
 repeat' (first|(show T _ (.code .ret::_) _ _ _;refine T_retV _ rfl rowStr ⟨_,trivial,rfl,rfl⟩))
theorem columnP22_spec (x:Co) (A1:Option Addr) (c1:Nat) (l:List TS) (A2:Option Addr) (c2:Nat) (y3:Value) (i:Int) (w:World) (hx:CoAt w x A1 c1 l A2 c2 y3) :
  Spec Tryz.prog 14 [.agg (coL x.sec (.slice A1 x.sg.length c1) (.slice A2 l.length c2) y3).toArray, .int .i64 i] w (fun v R=>∃ y:Value,True∧v = .tuple #[y, .int .i64 (colV22 x i).2]∧R=[dat [y] [strsD (colV22 x i).1]]):=by
 obtain⟨Ak,ck,csk,rfl,hck1,hck2,hcs,hrows⟩:=hx.cols.tabS
 refine spec_of sg Tryz.func14 rfl rfl rfl ?_
 refine T_op (OpT.box (cs:=coL x.sec (.slice A1 x.sg.length c1) (.slice A2 l.length c2) (.slice Ak x.cols.length ck)) rfl rfl rfl rfl rfl rfl rfl (fun pc=>?_))
 repeat' (first|refine d1 ?_|(show T _ (.ops _ (_::_)::_) _ _ _;refine T_call rfl rfl rfl rfl rfl (fun w hw=>checkP22_spec x A1 c1 l A2 c2 _ w (hx.cls hw)) ?_)|fail)
 refine T_if rfl (fun h=>?_) (fun h=>?_)
 ·simp only [Bool.not_eq_true',decide_eq_false_iff_not] at h
  have e:colV22 x i=([],1):=if_pos h
  rw [e]
  repeat' (first|refine d1 ?_|(show T _ (.code .ret::_) _ _ _;refine T_retV _ rfl (nilStr1 _) ⟨_,trivial,rfl,rfl⟩))
 simp only [Bool.not_eq_false',decide_eq_true_eq] at h
 have hok:=chk22_iff.1 h
 obtain⟨h1,h2,h3⟩:=hx.row hok
 repeat' (first|refine d1 ?_|fail)
 refine T_if rfl (fun h4=>?_) (fun h4=>?_)
 ·simp only [Bool.or_eq_true,decide_eq_true_eq] at h4
  have e:colV22 x i=([],2):=by unfold colV22;rw [if_neg (by rw [h];simp),if_pos h4]
  rw [e]
  repeat' (first|refine d1 ?_|(show T _ (.code .ret::_) _ _ _;refine T_retV _ rfl (nilStr1 _) ⟨_,trivial,rfl,rfl⟩))
 simp only [Bool.or_eq_false_iff,decide_eq_false_iff_not] at h4
 have e:colV22 x i=(col22 x i.toNat,0):=by unfold colV22;rw [if_neg (by rw [h];simp),if_neg (by omega)]
 obtain⟨p,rfl⟩:=Int.eq_ofNat_of_zero_le (by omega:0≤i)
 rw [Int.toNat_natCast] at e
 rw [e]
 repeat' (first|refine d1 ?_|(show T _ (.ops _ (_::_)::_) _ _ _;refine T_callE rfl rfl rfl rfl rfl (fun w hw=>column22_spec x A1 c1 l A2 c2 _ p w (hx.cls hw) hok (by omega)) (fun b1 _=>?_))|fail)
 repeat' (first|(show T _ (.code .ret::_) _ _ _;refine T_retV _ rfl ((dat_blkV (sz:=1) (n:=x.sg.length) (by rw [List.length_map,col22_len];omega) (by omega)).trans (Hle.nth 0 rfl)) ⟨_,trivial,rfl,rfl⟩))
end Go.Proofs.YtefieebkankfoaaGreatDoor
namespace Go.Proofs.YtefieebkankfoaaGreatDoor
open Go.RowKit Go.Shelf Go.Proofs
set_option maxRecDepth 100000
set_option maxHeartbeats 1000000

theorem find1_22_spec (A:Option Addr) (n ca p4 p5:Nat) (r:List Int) (s:Nat) (k:Int) (w:World) (hs:Src w 1 A n (r.map (Value.int .i64))) (hn:r.length=n) (hsn:s<n) (h4:RdC w p4 0 [.int .i64 (s:Nat)]) (h5:RdC w p5 0 [.int .i64 k]) :
  Spec Tryz.prog 51 [.slice A n ca, .pointer (some ⟨p4,0,none⟩), .pointer (some ⟨p5,0,none⟩)] w (fun v R=>v = .bool (decide (r.getD s (-1)=k))∧R=[]):=by
 obtain⟨b,o,rfl⟩:=hs.base (by omega)
 obtain⟨z,hz⟩:∃ z,r[s]?=some z:=⟨_,List.getElem?_eq_getElem (by omega)⟩
 have hr:=src_int hs hsn hz
 refine spec_of sg Tryz.func51 rfl rfl rfl ?_
 repeat' (first|refine d1 ?_|refine dd ?_|(show T _ (.code .ret::_) _ _ _;refine T_retV [] rfl (Hle.none _) ⟨congrArg Value.bool (by rw [List.getD_eq_getElem?_getD,hz];rfl),rfl⟩))
theorem findI_range22 {α:Type} (f:α→Bool) (d:α):∀ l:List α,findI (fun i=>f (l.getD i d)) (List.range l.length)=findI f l:=by
 intro l
 by_cases h:∃ i,i<l.length∧f (l.getD i d)=true∧∀ j,j<i→f (l.getD j d)=false
 ·obtain⟨i,hi,h1,h2⟩:=h
  have e:l[i]?=some (l.getD i d):=by rw [List.getD_eq_getElem?_getD,List.getElem?_eq_getElem hi];rfl
  rw [findI_some e h1 fun j y hj hy=>by have:=h2 j hj;rw [List.getD_eq_getElem?_getD,hy] at this;exact this]
  refine findI_some (List.getElem?_range hi) h1 fun j y hj hy=>?_
  have hjl:j<l.length:=by omega
  rw [List.getElem?_range hjl] at hy
  cases hy
  exact h2 j hj
 ·have key:∀ n j,j<n→j<l.length→f (l.getD j d)=false:=by
   intro n
   induction n with
   | zero=>intro j hj;omega
   | succ n ih =>
    intro j hj hl
    cases hf:f (l.getD j d) with
    | false=>rfl
    | true=>exact absurd ⟨j,hl,hf,fun i hi=>ih i (by omega) (by omega)⟩ h
  rw [findI_none fun i y hy=>?_,findI_none fun i y hy=>?_]
  ·have hi:=(List.getElem?_eq_some_iff.1 hy).1
   have:=key (i+1) i (by omega) hi
   rw [List.getD_eq_getElem?_getD,hy] at this
   exact this
  ·have hi:=(List.getElem?_eq_some_iff.1 hy).1
   rw [List.length_range] at hi
   rw [List.getElem?_range hi] at hy
   cases hy
   exact key (i+1) i (by omega) hi
theorem findP22_spec (x:Co) (A1:Option Addr) (c1:Nat) (l:List TS) (A2:Option Addr) (c2:Nat) (y3:Value) (s k:Int) (w:World) (hx:CoAt w x A1 c1 l A2 c2 y3) :
  Spec Tryz.prog 24 [.agg (coL x.sec (.slice A1 x.sg.length c1) (.slice A2 l.length c2) y3).toArray, .int .i64 s, .int .i64 k] w (fun v R=>v = .tuple #[.int .i64 (findV22 x s k).1, .int .i64 (findV22 x s k).2]∧R=[]):=by
 obtain⟨Ak,ck,csk,rfl,hck1,hck2,hcs,hrows⟩:=hx.cols.tabS
 refine spec_of sg Tryz.func24 rfl rfl rfl ?_
 refine T_op (OpT.box (cs:=coL x.sec (.slice A1 x.sg.length c1) (.slice A2 l.length c2) (.slice Ak x.cols.length ck)) rfl rfl rfl rfl rfl rfl rfl (fun pc=>?_))
 refine T_op (OpT.box (cs:=[.int .i64 s]) rfl rfl rfl rfl rfl rfl rfl (fun p4=>?_))
 refine T_op (OpT.box (cs:=[.int .i64 k]) rfl rfl rfl rfl rfl rfl rfl (fun p5=>?_))
 repeat' (first|refine d1 ?_|(show T _ (.ops _ (_::_)::_) _ _ _;refine T_call rfl rfl rfl rfl rfl (fun w hw=>checkP22_spec x A1 c1 l A2 c2 _ w (hx.cls hw)) ?_)|fail)
 refine T_if rfl (fun h=>?_) (fun h=>?_)
 ·simp only [Bool.not_eq_true',decide_eq_false_iff_not] at h
  have e:findV22 x s k=(0,1):=if_pos h
  rw [e]
  repeat' (first|refine d1 ?_|(show T _ (.code .ret::_) _ _ _;refine T_retV [] rfl (Hle.none _) ⟨rfl,rfl⟩))
 simp only [Bool.not_eq_false',decide_eq_true_eq] at h
 have hok:=chk22_iff.1 h
 obtain⟨h1,h2,h3⟩:=hx.row hok
 obtain⟨b2,o2,rfl⟩:=hx.hd.s2.base (by omega)
 have hT:∃ t:TS,(0≤s∧s<(l.length:Int)→l[s.toNat]?=some t∧RdC w b2 (o2+s.toNat * 1) [.slice t.A t.n t.cap]∧(x.m.getD s.toNat []).length=t.n):=by
  by_cases hs:0≤s∧s<(l.length:Int)
  ·obtain⟨p,rfl⟩:=Int.eq_ofNat_of_zero_le hs.1
   obtain⟨t,ht⟩:∃ t,l[p]?=some t:=⟨_,List.getElem?_eq_getElem (by omega)⟩
   refine ⟨t,fun _=>⟨by rw [Int.toNat_natCast];exact ht,hx.hd.hdr ht,?_⟩⟩
   rw [Int.toNat_natCast, ← hx.m,List.getD_eq_getElem?_getD,List.getElem?_map,ht]
   exact hx.hd.ok.len t (List.mem_of_getElem? ht)
  ·exact⟨⟨none,0,0,[]⟩,fun h9=>absurd h9 hs⟩
 obtain⟨t,hT⟩:=hT
 repeat' (first|refine dd ?_|(show T _ (.run _ _ (_::_) _ _::_) _ _ _;refine rg rfl rfl rfl (Val.load rfl (fun hg=>rdOld (hT (by ((simp only [List.cons_append,List.nil_append,GP,dstL,lookE,Nat.beq,cond,List.getElem?_cons_zero,List.getElem?_cons_succ,Option.bind_some,and_true,Bool.and_eq_true,Bool.or_eq_true,Bool.and_eq_false_iff,Bool.or_eq_false_iff,Bool.not_eq_true',Bool.not_eq_false',decide_eq_true_eq,decide_eq_false_iff_not] at hg);omega))).2.1)) rfl rfl rfl rfl rfl ?_)|fail)
 have hcond:(s<0∨(x.sg.length:Int)≤s)∨(k<0∨((x.m.getD s.toNat []).length:Int)≤k)↔(((s<0∨(x.sg.length:Int)≤s)∨k<0)∨(t.n:Int)≤k):=by
  by_cases hs:0≤s∧s<(l.length:Int)
  ·rw [(hT hs).2.2];omega
  ·omega
 refine T_if rfl (fun h4=>?_) (fun h4=>?_)
 ·simp only [Bool.or_eq_true,decide_eq_true_eq] at h4
  have e:findV22 x s k=(0,2):=by unfold findV22;rw [if_neg (by rw [h];simp),if_pos (hcond.2 h4)]
  rw [e]
  repeat' (first|refine d1 ?_|(show T _ (.code .ret::_) _ _ _;refine T_retV [] rfl (Hle.none _) ⟨rfl,rfl⟩))
 have h4:¬ (((s<0∨(x.sg.length:Int)≤s)∨k<0)∨(t.n:Int)≤k):=by
  simp only [Bool.or_eq_false_iff,decide_eq_false_iff_not] at h4
  omega
 have e:findV22 x s k=(at22 x s.toNat k,0):=by unfold findV22;rw [if_neg (by rw [h];simp),if_neg (fun hh=>h4 (hcond.1 hh))]
 rw [e]
 obtain⟨p,rfl⟩:=Int.eq_ofNat_of_zero_le (by omega:0≤s)
 rw [Int.toNat_natCast]
 have hf:∀ w1:World,RdC w1 p4 0 [.int .i64 (p:Nat)]→RdC w1 p5 0 [.int .i64 k]→(∀ A n xs,Src w 1 A n xs→Src w1 1 A n xs)→∀ (i:Nat) u,csk[i]?=some u→∀ w',Below w1.heap.size w1 w' →
   Spec Tryz.prog 51 ([]++(u::[.pointer (some ⟨p4,0,none⟩), .pointer (some ⟨p5,0,none⟩)])) w' (fun v R=>v = .bool (decide ((x.cols.getD i []).getD p (-1)=k))∧R=[]):=by
  intro w1 g4 g5 gs i u hu w' hb'
  obtain⟨r,hr⟩:∃ r,x.cols[i]?=some r:=⟨_,List.getElem?_eq_getElem (by have:=(List.getElem?_eq_some_iff.1 hu).1;have:=hcs.1;omega)⟩
  obtain⟨Au,capu,hu2,-,-,hA⟩:=hrows.tabRow hr
  rw [hu2] at hu
  cases hu
  have hrl:=(hx.entry hok hr (k:=0) (by omega)).1
  have hg:x.cols.getD i []=r:=by rw [List.getD_eq_getElem?_getD,hr];rfl
  rw [hg]
  exact find1_22_spec Au r.length capu p4 p5 r p k w' (src_below (gs _ _ _ (rowSrc hA)) hb') rfl (by omega) (g4.below hb') (g5.below hb')
 repeat' (first|refine d1 ?_|(show T _ (.ops _ (_::_)::_) _ _ _;refine T_call rfl rfl rfl rfl rfl (fun w hw=>indexFuncR_spec Ak x.cols.length ck csk _ [] [.pointer (some ⟨p4,0,none⟩), .pointer (some ⟨p5,0,none⟩)] (fun i=>decide ((x.cols.getD i []).getD p (-1)=k)) w (rdSrc hcs w hw) (by omega) (hf w (rdAll w hw) (rdAll w hw) (fun _ _ _ hs=>rdSrc hs w hw))) ?_)|(show T _ (.code .ret::_) _ _ _;refine T_retV [] rfl (Hle.none _) ⟨?_,rfl⟩))
 rw [findI_range22 (fun c:List Int=>decide (c.getD p (-1)=k)) []]
 rfl
end Go.Proofs.YtefieebkankfoaaGreatDoor
namespace Go.Proofs.YtefieebkankfoaaGreatDoor
open Go.RowKit Go.Shelf
set_option linter.unusedSectionVars false

def evCvP (env:Env) (ec:EnvC) (G:GId) (o:Oper):Option (TypeId × TypeId × Nat) :=
 match o.op with
 | .convert s d x=>match evX env ec G x with
  | some (.pointer (some ⟨b,0,none⟩))=>some (s,d,b)
  | _=>none
 | _=>none
section
variable {C:Cx} {all:Array Oper} {o:Oper} {env:Env} {ec:EnvC} {H Hs:List HA} {G:GId} {d:Nat} {Φ:Env→EnvC→List HA→Prop}
theorem evCvP_spec {N:FK} {a:Act} (ha:Agrees N all env ec a) (hG:Holds all a G) {s d':TypeId} {b:Nat} (h:evCvP env ec G o=some (s,d',b)):∃ x,o.op = .convert s d' x∧a.eval x = .pointer (some ⟨b,0,none⟩):=by
 unfold evCvP at h
 split at h
 ·rename_i s' d'' x ho
  split at h
  ·rename_i b' hx
   cases h
   exact⟨x,ho,evX_spec ha hG hx⟩
  ·cases h
 ·cases h
theorem Val.toUnsafe {s d' t e:TypeId} {j:TypeInfo} {b:Nat} {cs:List Value} {rb:HA→List HA} (hv:evCvP env ec G o=some (s,d',b)) [hf:Focus Hs b cs e rb] (hs:C.S.P.underlying s=some (.pointer t)) (hd:C.S.P.underlying d'=some .unsafePointer)
  (ht:C.S.P.info? t=some j) (hj:j.size≠0) (hl:0<cs.length):Val C all o env ec Hs G (.pointer (some ⟨b,0,none⟩)):=by
 intro a w ha hw hH
 obtain⟨i,hi,_⟩:=hf.at_
 have hb:=(hw.heap hi).1
 have hsh:w.shape? b=some (e,cs.length):=by simp [World.shape?,hb]
 obtain⟨x,ho,hx⟩:=evCvP_spec ha hH hv
 have hr:=Lib.run_to_unsafe (P:=C.S.P) w ⟨b,0,none⟩ hs hd ht hj hsh hl
 unfold execOp
 rw [ho]
 simp only [hx]
 simp [hr]
theorem Val.fromUnsafe {s d' u e:TypeId} {j:TypeInfo} {b:Nat} {cs:List Value} {rb:HA→List HA} (hv:evCvP env ec G o=some (s,d',b)) [hf:Focus Hs b cs e rb] (hs:C.S.P.underlying s=some .unsafePointer) (hd:C.S.P.underlying d'=some (.pointer u))
  (hu:C.S.P.info? u=some j) (hlies:liesAt C.S.P C.S.P.depth e (cs.length / C.S.P.cellsOf e) 0 u 1=true):Val C all o env ec Hs G (.pointer (some ⟨b,0,none⟩)):=by
 intro a w ha hw hH
 obtain⟨i,hi,_⟩:=hf.at_
 have hb:=(hw.heap hi).1
 have hsh:w.shape? b=some (e,cs.length):=by simp [World.shape?,hb]
 obtain⟨x,ho,hx⟩:=evCvP_spec ha hH hv
 have hr:=Lib.run_from_unsafe (P:=C.S.P) w ⟨b,0,none⟩ hs hd hu hsh hlies
 unfold execOp
 rw [ho]
 simp only [hx]
 simp [hr]
def evPP (env:Env) (ec:EnvC) (G:GId) (o:Oper):Option (TypeId × Nat × Nat) :=
 match o.op with
 | .binOp .neq t x y _=>match evX env ec G x,evX env ec G y with
  | some (.pointer (some ⟨b,0,none⟩)),some (.pointer (some ⟨c,0,none⟩))=>some (t,b,c)
  | _,_=>none
 | _=>none
theorem Val.ptrSame {t te:TypeId} {j:TypeInfo} {b c:Nat} (hv:evPP env ec G o=some (t,b,c)) (hbc:b=c) (hp:C.S.P.underlying t=some (.pointer te)) (hte:C.S.P.info? te=some j):Val C all o env ec Hs G (.bool false):=by
 subst hbc
 intro a w ha hw hH
 obtain⟨dst,op,ty,pos,aft,gd⟩:=o
 unfold evPP at hv
 dsimp only at hv
 split at hv
 ·rename_i t' x y t2
  split at hv
  ·rename_i b' c' hx hy
   cases hv
   have hr:=Lib.run_neq_ptr_same (P:=C.S.P) w ⟨b,0,none⟩ hp hte
   simp only [execOp,evX_spec ha hH hx,evX_spec ha hH hy]
   simp [eqGuard,hr]
  ·cases hv
 ·cases hv
def evSD (env:Env) (ec:EnvC) (G:GId) (o:Oper):Option (Addr × Nat) :=
 match o.op with
 | .call { callee := .builtin .unsafeSliceData,args:=xs,argTypes:=_ }=>match evL env ec G xs.toList with
  | some [.slice (some a) _ c]=>some (a,c)
  | _=>none
 | _=>none
theorem Val.sliceData {A:Addr} {c:Nat} (hv:evSD env ec G o=some (A,c)) (hc:c≠0):Val C all o env ec Hs G (.pointer (some A)):=by
 intro a w ha hw hH
 obtain⟨dst,op,ty,pos,aft,gd⟩:=o
 unfold evSD at hv
 dsimp only at hv
 split at hv
 ·rename_i xs ts
  split at hv
  ·rename_i a' n' c' hxs
   cases hv
   have hargs:xs.map a.eval = #[.slice (some A) n' c]:=Array.ext' (by rw [Array.toList_map];exact evL_spec ha hH hxs)
   have hr:=Lib.run_unsafeSliceData_row (P:=C.S.P) w ts ty A n' c hc
   simp [execOp,resolve,invoke,builtin,hargs,hr]
  ·cases hv
 ·cases hv
def evUS (S:Sig) (env:Env) (ec:EnvC) (o:Oper):Option (Nat × Nat × TypeId) :=
 match o.op with
 | .call { callee := .builtin .unsafeString,args:=xs,argTypes:=ts }=>match evL env ec [] xs.toList,ts.toList with
  | some [.pointer (some ⟨g,0,none⟩), .int .i64 n],[pt,_]=>match S.ty pt with
   | some ⟨.ptr e,_,_,_⟩=>some (g,n.toNat,e)
   | _=>none
  | _,_=>none
 | _=>none
def u8s (l:List UInt8):List Value:=l.map fun c=>Value.int .u8 ((c.toNat:Nat):Int)
theorem u8s_len (l:List UInt8):(u8s l).length=l.length:=by simp [u8s]
theorem u8s_app (a b:List UInt8):u8s (a++b)=u8s a++u8s b:=by simp [u8s]
theorem OpT.unsafeStr {g n:Nat} {e:TypeId} {cap:Nat} {bs:List UInt8} {rb:HA→List HA} (hg:gOf all env ec o=some []) (he:evUS C.S env ec o=some (g,n,e)) (hd:o.dst=some d) (hN:Nat.blt d C.N.n=true) (hs:safeC all d ec=true)
  [hf:FocusR H (some ⟨g,0,none⟩) e 1 cap n (u8s bs) rb] (hc1:C.S.P.cellsOf e=1) (h0:bs≠[]) (h:Φ ((d, .string ⟨bs.toArray⟩)::env) ec (rb (fz fun _=>none))):OpT C all o env ec H Φ:=by
 obtain⟨i,hi,hrb⟩:=hf.at_
 refine OpT.eff hg fun a w ha hw=>?_
 obtain⟨F,f1,f2,f3⟩:=hw.sep
 have hil:i<H.length:=(List.getElem?_eq_some_iff.1 hi).1
 obtain⟨hln,hrow⟩:=f1 i _ hi
 have hn:bs.length=n:=by rw [u8s_len,Nat.mul_one] at hln;exact hln
 have hn0:bs.length≠0:=by simpa using h0
 rcases hrow with⟨e1,_⟩|⟨g',cur,e1,hF,g3,g4,g5,g6⟩
 ·cases e1
 cases e1
 have hob:=f2 i g (.cells cur e (0,0)) hil (by rw [hF];simp [one])
 have hsh:w.shape? g=some (e,cur.size):=by simp [World.shape?,hob.2]
 have hcell:∀ j x,bs[j]?=some x→w.cell? ((⟨g,0,none⟩:Addr).add j)=some (.int .u8 x.toNat):=by
  intro j x hx
  have hj:=(List.getElem?_eq_some_iff.1 hx).1
  have h9:(u8s bs)[j]?=some (.int .u8 ((x.toNat:Nat):Int)):=by unfold u8s;rw [List.getElem?_map,hx];rfl
  rw [← g6,List.getElem?_take_of_lt (by omega)] at h9
  have h8:w.cell? ⟨g,j,none⟩=cur[j]?:=cell_of_row w g j cur e (0,0) hob.2
  have h7:(⟨g,0,none⟩:Addr).add j=⟨g,j,none⟩:=by unfold Addr.add;split <;> simp_all
  rw [h7,h8]
  simpa using h9
 have hmax:maxLen=9223372036854775807:=rfl
 obtain⟨dst,op,ty,pos,aft,gd⟩:=o
 unfold evUS at he
 dsimp only at he
 split at he
 ·rename_i xs ts
  split at he
  ·rename_i g1 n1 pt it hxs hts
   split at he
   ·rename_i e' q1 q2 q3 hpt
    cases he
    have hp:=(Sig.tyOk hpt).fits
    simp only [Ty.fits] at hp
    have hn1:n1=(bs.length:Int):=by omega
    subst hn1
    have hargs:xs.map a.eval = #[.pointer (some ⟨g,0,none⟩), .int _ (bs.length:Int)]:=Array.ext' (by rw [Array.toList_map];exact evL_spec ha (Holds.nil _ _) hxs)
    have hts':ts = #[pt,it]:=Array.ext' hts
    have hr:=Lib.run_unsafeString_row (P:=C.S.P) w pt it ty e hp hc1 g cur.size hsh bs h0 (by omega) (by omega) hcell
    refine ⟨.string ⟨bs.toArray⟩,w.freeze ⟨g,0,none⟩ bs.length,_,?_,⟨Lib.below_freeze hw.below (p:=⟨g,0,none⟩) hob.1 _,?_⟩,d,hd,hN,hs,h⟩
    ·simp [execOp,resolve,invoke,builtin,hargs,hts',hr]
    ·rw [hrb]
     refine Sep.swap ⟨F,f1,f2,f3⟩ hi fun f hrow hf=>⟨fun _=>none,rfl,(fun b o h=>by cases h),fun c hc hfc=>?_⟩
     have hne:c≠g:=by
      rintro rfl
      obtain⟨_,hrow⟩:=hrow
      rcases hrow with⟨e1,_⟩|⟨g',cur',e1,hF',_⟩
      ·cases e1
      ·cases e1
       rw [hF'] at hfc
       simp [one] at hfc
     unfold World.freeze
     split
     ·rfl
     ·simp only [Array.getElem?_modify]
      rw [if_neg (Ne.symm hne)]
   ·cases he
  ·cases he
 ·cases he
end
end Go.Proofs.YtefieebkankfoaaGreatDoor
namespace Go.Proofs.YtefieebkankfoaaGreatDoor
open Go.RowKit Go.Shelf Go.Proofs

theorem row22_len (x:Co) (k:Nat):(row22 x k).length=x.cols.length:=by simp [row22]
end Go.Proofs.YtefieebkankfoaaGreatDoor
namespace Go.Proofs.YtefieebkankfoaaGreatDoor
open Go.RowKit Go.Shelf Go.Proofs
set_option maxRecDepth 100000
set_option maxHeartbeats 1000000

abbrev bld22 (pb:Nat) (q A:Option Addr) (c:Nat) (bs:List UInt8) (K:List HA):List HA:=blk pb [.pointer q, .slice A bs.length c] 67::row 5 1 A c bs.length (u8s bs)::K
theorem info_builder:∃ j,Tryz.prog.info? 65=some j∧j.size=2:=by
 obtain⟨x,hx,h1,_⟩:=(Sig.tyOk (S:=sg) (t:=65) rfl).info'
 exact⟨x,hx,h1⟩
theorem lies_builder:liesAt Tryz.prog Tryz.prog.depth 67 (2 / Tryz.prog.cellsOf 67) 0 65 1=true:=by kernel_rfl
theorem noEscape_run (x:Value) (w:World):(callFunc 129 #[x]).run Tryz.prog w = .ok (.value x) w:=by
 rw [run_callFunc_extern Tryz.func129 (by kernel_rfl) (by kernel_rfl) (by kernel_rfl) (e:=Extern.AbiNoEscape.same) (by kernel_rfl),Lib.run_noEscape]
 rfl
theorem copyCheck_spec (w0:World) (pb:Nat) (q:Option Addr) (hq:q=none∨q=some ⟨pb,0,none⟩) (A:Option Addr) (n c:Nat) (K:List HA) :
  SpecB Tryz.prog 88 [.pointer (some ⟨pb,0,none⟩)] w0 (blk pb [.pointer q, .slice A n c] 67::K) (fun u R=>u = .tuple #[]∧R=blk pb [.pointer (some ⟨pb,0,none⟩), .slice A n c] 67::K):=by
 obtain⟨j,hj,hj2⟩:=info_builder
 refine specB_of sg Tryz.func88 rfl rfl rfl ?_
 rcases hq with rfl|rfl
 ·repeat' (first|refine d1 ?_|(show T _ (.ops _ (_::_)::_) _ _ _;first|refine T_val rfl (Val.nilc rfl) rfl rfl rfl ?_|refine T_val rfl (Val.nilS rfl) rfl rfl rfl ?_)|fail)
  refine T_if rfl (fun h=>?_) (fun h=>by cases h)
  repeat' (first|refine d1 ?_|(show T _ (.ops _ (_::_)::_) _ _ _;first|refine T_val rfl (Val.nilc rfl) rfl rfl rfl ?_|refine T_val rfl (Val.toUnsafe rfl Tryz.underlying62 Tryz.underlying166 hj (by omega) (by simp)) rfl rfl rfl ?_|refine T_val rfl (Val.fromUnsafe rfl Tryz.underlying166 Tryz.underlying62 hj (by exact lies_builder)) rfl rfl rfl ?_|refine T_op (OpT.callX (v := .pointer (some ⟨pb,0,none⟩)) rfl rfl rfl rfl rfl (fun w hw=>noEscape_run _ w) ?_))|fail)
  exact T_fallV _ rfl (Hle.refl _) ⟨rfl,rfl⟩
 ·repeat' (first|refine d1 ?_|(show T _ (.ops _ (_::_)::_) _ _ _;first|refine T_val rfl (Val.nilc rfl) rfl rfl rfl ?_|refine T_val rfl (Val.nilS rfl) rfl rfl rfl ?_)|fail)
  refine T_if rfl (fun h=>by cases h) (fun h=>?_)
  repeat' (first|refine d1 ?_|(show T _ (.ops _ (_::_)::_) _ _ _;first|refine T_val rfl (Val.nilc rfl) rfl rfl rfl ?_|refine T_val rfl (Val.ptrSame rfl rfl Tryz.underlying62 hj) rfl rfl rfl ?_)|fail)
  refine T_if rfl (fun h=>by cases h) (fun h=>?_)
  skip
  exact T_fallV _ rfl (Hle.refl _) ⟨rfl,rfl⟩
theorem writeString_spec (w0:World) (pb:Nat) (q:Option Addr) (hq:q=none∨q=some ⟨pb,0,none⟩) (A:Option Addr) (c:Nat) (bs:List UInt8) (s:ByteArray) (hb:bs.length+s.size≤1000000) (K:List HA) :
  SpecB Tryz.prog 59 [.pointer (some ⟨pb,0,none⟩), .string s] w0 (bld22 pb q A c bs K) (fun u R=>∃ x:Option Addr × Nat,u = .tuple #[.int .i64 (s.size:Nat), .nilIface]∧R=bld22 pb (some ⟨pb,0,none⟩) x.1 x.2 (bs++s.data.toList) K):=by
 refine specB_of sg Tryz.func59 rfl rfl rfl ?_
 repeat' (first|refine d1 ?_|(show T _ (.ops _ (_::_)::_) _ _ _;refine T_op (OpT.callB rfl rfl rfl rfl rfl (copyCheck_spec _ pb q hq A bs.length c _) (fun u R hR=>?_)))|fail)
 obtain⟨rfl,rfl⟩:=hR
 have e:(bs++s.data.toList).length=bs.length+s.size:=by rw [List.length_append];simp
 repeat' (first|refine d1 ?_|(show T _ (.ops _ (_::_)::_) _ _ _;first|refine T_val rfl (Val.nilc rfl) rfl rfl rfl ?_|refine T_op (OpT.appendS rfl rfl rfl rfl rfl rfl rfl rfl rfl rfl (by omega) (fun A' cap' hA'=>?_)))|fail)
 exact T_retV (bld22 pb (some ⟨pb,0,none⟩) A' cap' (bs++s.data.toList) K) rfl (by unfold bld22;rw [e,u8s_app];exact Hle.refl _) ⟨(A',cap'),rfl,rfl⟩
theorem writeByte_spec (w0:World) (pb:Nat) (q:Option Addr) (hq:q=none∨q=some ⟨pb,0,none⟩) (A:Option Addr) (c:Nat) (bs:List UInt8) (b:UInt8) (hb:bs.length+1≤1000000) (K:List HA) :
  SpecB Tryz.prog 60 [.pointer (some ⟨pb,0,none⟩), .int .u8 ((b.toNat:Nat):Int)] w0 (bld22 pb q A c bs K) (fun u R=>∃ x:Option Addr × Nat,u = .nilIface∧R=bld22 pb (some ⟨pb,0,none⟩) x.1 x.2 (bs++[b]) K):=by
 refine specB_of sg Tryz.func60 rfl rfl rfl ?_
 repeat' (first|refine d1 ?_|(show T _ (.ops _ (_::_)::_) _ _ _;refine T_op (OpT.callB rfl rfl rfl rfl rfl (copyCheck_spec _ pb q hq A bs.length c _) (fun u R hR=>?_)))|fail)
 obtain⟨rfl,rfl⟩:=hR
 have e:(bs++[b]).length=bs.length+1:=by rw [List.length_append];rfl
 repeat' (first|refine d1 ?_|(show T _ (.ops _ (_::_)::_) _ _ _;first|refine T_val rfl (Val.nilc rfl) rfl rfl rfl ?_|refine T_op (OpT.append (A:=A) rfl rfl rfl rfl rfl rfl rfl rfl rfl rfl (fun w hw=>Src.own hw rfl) rfl (by dsimp only;omega) (by omega) (fun A' cap' hA'=>?_)))|(show ∀ _:Nat,T _ _ _ _ _;intro _))
 exact T_retV (bld22 pb (some ⟨pb,0,none⟩) A' cap' (bs++[b]) K) rfl (by unfold bld22;rw [e,u8s_app];exact Hle.tail _ _) ⟨(A',cap'),rfl,rfl⟩
theorem line22_spec (w0:World) (pb:Nat) (q:Option Addr) (hq:q=none∨q=some ⟨pb,0,none⟩) (A:Option Addr) (c:Nat) (bs:List UInt8) (s:ByteArray) (y:Value) (l:List ByteArray) (p:Frag) (K:List HA) [FocusZ K p] (hy:Rd (fr p) [y] [strsD l]) (hs:s.size≤100) (hl:l.length≤100) (ht:∀ t∈l,t.size≤100) (hb:bs.length≤900000) :
  SpecB Tryz.prog 35 [.pointer (some ⟨pb,0,none⟩), .string s,y] w0 (bld22 pb q A c bs K) (fun u R=>∃ x:Option Addr × Nat,u = .tuple #[]∧R=bld22 pb (some ⟨pb,0,none⟩) x.1 x.2 (bs++line22 s l) K):=by
 obtain⟨Ay,cy,rfl,hyc,hym,hyr⟩:∃ Ay cy,y = .slice Ay l.length cy∧l.length≤cy∧cy≤9223372036854775807∧(0<l.length→∃ b o,Ay=some ⟨b,o,none⟩∧∀ (k:Nat) t,l[k]?=some t→fr p b (o+k)=some (.string t)):=by
  obtain⟨A,n,cap,rfl,h1,h2,h3,h4⟩:=hy.vals_one
  have e:n=l.length:=by simpa using h1.symm
  subst e
  exact⟨A,cap,rfl,h2,h3,fun h0=>⟨bk A,ofs A,(h4 h0).1,fun k t ht=>(h4 h0).2 k _ (by rw [List.getElem?_map,ht];rfl)⟩⟩
 refine specB_of sg Tryz.func35 rfl rfl rfl ?_
 repeat' (first|refine d1 ?_|(show T _ (.ops _ (_::_)::_) _ _ _;first|refine T_val rfl (Val.nilc rfl) rfl rfl rfl ?_|refine T_op (OpT.callB rfl rfl rfl rfl rfl (writeString_spec _ pb q hq A c bs s (by omega) _) (fun u R hR=>?_)))|fail)
 obtain⟨⟨A0,c0⟩,rfl,rfl⟩:=hR
 have hsl:s.data.toList.length=s.size:=by simp
 have hcl:∀ k,k≤l.length→(cells22 (l.take k)).length≤101 * k:=by
  intro k
  induction k with
  | zero=>intro _;exact Nat.le_refl _
  | succ k ih =>
   intro hk
   obtain⟨t,hg⟩:∃ t,l[k]?=some t:=⟨_,List.getElem?_eq_getElem (by omega)⟩
   have h1:=ih (by omega)
   have h2:=ht t (List.mem_of_getElem? hg)
   have h3:t.data.toList.length=t.size:=by simp
   rw [take_snoc _ _ _ hg]
   unfold cells22 at h1 ⊢
   rw [List.flatMap_append,List.length_append]
   simp only [List.flatMap_cons,List.flatMap_nil,List.append_nil,List.length_cons]
   omega
 skip
 refine T_loopX (fun z:Nat × Option Addr × Nat=>[(15, .int .i64 (z.1:Nat))]) (fun z=>bld22 pb (some ⟨pb,0,none⟩) z.2.1 z.2.2 (bs++s.data.toList++cells22 (l.take z.1)) K) (fun z=>z.1≤l.length) (fun z=>l.length - z.1) (0,A0,c0) (Nat.zero_le _) ?_ (hG:=by show Hle (bld22 pb _ A0 c0 (bs++s.data.toList) K) (bld22 pb _ A0 c0 (bs++s.data.toList++[]) K);rw [List.append_nil];exact Hle.refl _)
 rintro⟨k,A1,c1⟩ hk
 dsimp only at hk ⊢
 have h101:=hcl k hk
 have hlen:(bs++s.data.toList++cells22 (l.take k)).length=bs.length+s.size+(cells22 (l.take k)).length:=by rw [List.length_append,List.length_append,hsl]
 repeat' (first|refine d1 ?_|fail)
 refine T_if rfl (fun h=>?_) (fun h=>?_)
 ·simp only [decide_eq_true_eq] at h
  have hkn:k<l.length:=by omega
  obtain⟨b,o,rfl,hyk⟩:=hyr (by omega)
  obtain⟨t,hg⟩:∃ t,l[k]?=some t:=⟨_,List.getElem?_eq_getElem hkn⟩
  have hts:=ht t (List.mem_of_getElem? hg)
  have hr:fr p b (o+(k:Int).toNat * 1)=some (.string t):=by rw [off1];exact hyk k t hg
  have hz1:(ByteArray.mk #[124]).size=1:=rfl
  have hz:((ByteArray.mk #[124])++t).size=1+t.size:=by rw [ByteArray.size_append];rfl
  repeat' (first|refine d1 ?_|(show T _ (.ops _ (_::_)::_) _ _ _;first|refine T_val rfl (Val.load rfl (fun hg=>rdFz (p:=p) hr)) rfl rfl rfl ?_|refine T_val rfl (Val.nilc rfl) rfl rfl rfl ?_|refine T_op (OpT.callB rfl rfl rfl rfl rfl (writeString_spec _ pb _ (.inr rfl) A1 c1 _ ((ByteArray.mk #[124])++t) (by rw [hlen,hz];omega) _) (fun u R hR=>?_)))|fail)
  obtain⟨⟨A2,c2⟩,rfl,rfl⟩:=hR
  skip
  refine T_backX (k+1,A2,c2) (by dsimp only;omega) (by dsimp only;omega) (hG:=?_)
  have e:bs++s.data.toList++cells22 (l.take k)++((ByteArray.mk #[124])++t).data.toList=bs++s.data.toList++cells22 (l.take (k+1)):=by
   have hd:((ByteArray.mk #[124])++t).data.toList=124::t.data.toList:=by rw [ByteArray.data_append,Array.toList_append];rfl
   rw [take_snoc _ _ _ hg,hd]
   unfold cells22
   rw [List.flatMap_append,List.append_assoc,List.append_assoc,List.append_assoc,List.flatMap_cons,List.flatMap_nil,List.append_nil]
  rw [e]
  exact Hle.refl _
 ·simp only [decide_eq_false_iff_not] at h
  obtain rfl:k=l.length:=by omega
  rw [List.take_length] at hlen h101 ⊢
  repeat' (first|refine d1 ?_|(show T _ (.ops _ (_::_)::_) _ _ _;first|refine T_val rfl (Val.nilc rfl) rfl rfl rfl ?_|refine T_op (OpT.callB rfl rfl rfl rfl rfl (writeByte_spec _ pb _ (.inr rfl) A1 c1 _ 10 (by rw [hlen];omega) _) (fun u R hR=>?_)))|fail)
  obtain⟨⟨A2,c2⟩,rfl,rfl⟩:=hR
  skip
  refine T_fallV _ rfl (Hle.refl _) ⟨(A2,c2),rfl,?_⟩
  unfold line22
  rw [List.append_assoc,List.append_assoc,List.append_assoc]
theorem len22_spec (pb:Nat) (q A:Option Addr) (n c:Nat) (w:World) (h:RdC w pb 0 [.pointer q, .slice A n c]):Spec Tryz.prog 36 [.pointer (some ⟨pb,0,none⟩)] w (fun v R=>v = .int .i64 (n:Nat)∧R=[]):=by
 have h1:RdC w pb (0+1) [.slice A n c]:=RdC.at h rfl
 refine spec_of sg Tryz.func36 rfl rfl rfl ?_
 repeat' (first|refine d1 ?_|(show T _ (.ops _ (_::_)::_) _ _ _;refine T_val rfl (Val.nilc rfl) rfl rfl rfl ?_)|(show T _ (.code .ret::_) _ _ _;refine T_retV [] rfl (Hle.none _) ⟨rfl,rfl⟩))
end Go.Proofs.YtefieebkankfoaaGreatDoor
namespace Go.Proofs.YtefieebkankfoaaGreatDoor
open Go.RowKit Go.Shelf Go.Proofs
set_option maxRecDepth 100000
set_option maxHeartbeats 1000000

theorem rows_out {n k:Nat} (pre:List HA) (f:Nat→HA) (hk:k<n):Hle (pre++(List.range n).map f) (f k::(pre++((List.range n).erase k).map f)):=by
 refine Hle.perm ?_
 have h1:(List.range n).Perm (k::(List.range n).erase k):=List.perm_cons_erase (List.mem_range.2 hk)
 have h2:=(h1.map f).append_left pre
 exact h2.trans (List.perm_middle (a:=f k))
theorem rows_in {n k:Nat} (pre:List HA) (f g:Nat→HA) (hk:k<n) (hg:∀ j,j≠k→f j=g j):Hle (g k::(pre++((List.range n).erase k).map f)) (pre++(List.range n).map g):=by
 refine Hle.perm ?_
 have h1:(List.range n).Perm (k::(List.range n).erase k):=List.perm_cons_erase (List.mem_range.2 hk)
 have e:((List.range n).erase k).map f=((List.range n).erase k).map g:=List.map_congr_left fun j hj=>hg j fun e=>by
  subst e
  exact absurd hj (List.Nodup.not_mem_erase List.nodup_range)
 rw [e]
 have h2:=(h1.map g).append_left pre
 exact (h2.trans (List.perm_middle (a:=g k))).symm
theorem rows_nil {e sz:Nat} (H:List HA):∀ n:Nat,Hle H ((List.range n).map (fun _=>row e sz none 0 0 [])++H)
 | 0=>Hle.refl _
 | n+1=>by
  have e1:(List.range (n+1)).map (fun _=>row e sz none 0 0 [])=row e sz none 0 0 []::(List.range n).map (fun _=>row e sz none 0 0 []):=by
   rw [List.range_succ_eq_map,List.map_cons,List.map_map];rfl
  rw [e1]
  exact (rows_nil H n).trans (hle_unit (B:=row e sz none 0 0 []) ⟨by simp, .inl ⟨rfl,rfl,rfl,rfl⟩⟩)
theorem rows_acc {e:TypeId} (ρ:Nat→Option Addr × Nat) (m:Nat) (cs:Nat→List Value) (H:List HA):∀ (L:List Nat) (vs:List Value) (ds:List D),
  Hle (dat vs ds::(L.map (fun j=>row e 1 (ρ j).1 (ρ j).2 m (cs j))++H)) (dat (vs++L.map fun j => .slice (ρ j).1 m (ρ j).2) (ds++L.map fun j => .s 1 ((cs j).map .v))::H)
 | [],vs,ds=>by simp only [List.map_nil,List.append_nil,List.nil_append];exact Hle.refl _
 | j::L,vs,ds=>by
  have h1:Hle (dat vs ds::row e 1 (ρ j).1 (ρ j).2 m (cs j)::(L.map (fun j=>row e 1 (ρ j).1 (ρ j).2 m (cs j))++H)) (dat (vs++[.slice (ρ j).1 m (ρ j).2]) (ds++[.s 1 ((cs j).map .v)])::(L.map (fun j=>row e 1 (ρ j).1 (ρ j).2 m (cs j))++H)) :=
   (Hle.perm (List.Perm.swap _ _ _)).trans (dat_rowV.trans dat_join)
  have h2:=rows_acc (e:=e) ρ m cs H L (vs++[.slice (ρ j).1 m (ρ j).2]) (ds++[.s 1 ((cs j).map .v)])
  rw [List.append_assoc,List.append_assoc] at h2
  exact h1.trans h2
def cn22 (i k j:Nat):Nat:=if j<k then i+1 else i
def hd22 (ρ:Nat→Option Addr × Nat) (cnt:Nat→Nat) (n:Nat):List Value:=(List.range n).map fun j => .slice (ρ j).1 (cnt j) (ρ j).2
def rw22 (x:Co) (ρ:Nat→Option Addr × Nat) (cnt:Nat→Nat) (j:Nat):HA:=row 9 1 (ρ j).1 (ρ j).2 (cnt j) (((row22 x j).take (cnt j)).map Value.string)
theorem hd22_len (ρ:Nat→Option Addr × Nat) (cnt:Nat→Nat) (n:Nat):(hd22 ρ cnt n).length=n:=by simp [hd22]
theorem hd22_get {ρ:Nat→Option Addr × Nat} {cnt:Nat→Nat} {n k:Nat} (h:k<n):(hd22 ρ cnt n)[k]?=some (.slice (ρ k).1 (cnt k) (ρ k).2):=by simp [hd22,h]
def up22 (ρ:Nat→Option Addr × Nat) (k:Nat) (a:Option Addr × Nat) (j:Nat):Option Addr × Nat:=if j=k then a else ρ j
theorem hd22_set {ρ:Nat→Option Addr × Nat} {i n k:Nat} (a:Option Addr × Nat) (h:k<n):(hd22 ρ (cn22 i k) n).set k (.slice a.1 (i+1) a.2)=hd22 (up22 ρ k a) (cn22 i (k+1)) n:=by
 refine List.ext_getElem? fun j=>?_
 rw [List.getElem?_set,hd22_len]
 by_cases hj:j<n
 ·rw [hd22_get hj,hd22_get hj]
  by_cases e:k=j
  ·subst e
   rw [if_pos rfl,if_pos h]
   unfold up22 cn22
   rw [if_pos rfl,if_pos (by omega)]
  ·rw [if_neg e]
   unfold up22 cn22
   rw [if_neg (Ne.symm e)]
   by_cases h2:j<k
   ·rw [if_pos h2,if_pos (by omega)]
   ·rw [if_neg h2,if_neg (by omega)]
 ·rw [if_neg (by omega),List.getElem?_eq_none (by rw [hd22_len];omega),List.getElem?_eq_none (by rw [hd22_len];omega)]
theorem cn22_full {i n j:Nat} (h:j<n):cn22 i n j=cn22 (i+1) 0 j:=by unfold cn22;rw [if_pos h,if_neg (by omega)]
theorem hd22_full (ρ:Nat→Option Addr × Nat) (i n:Nat):hd22 ρ (cn22 i n) n=hd22 ρ (cn22 (i+1) 0) n:=List.map_congr_left fun j hj=>by rw [cn22_full (List.mem_range.1 hj)]
theorem rw22_full (x:Co) (ρ:Nat→Option Addr × Nat) (i n:Nat):(List.range n).map (rw22 x ρ (cn22 i n))=(List.range n).map (rw22 x ρ (cn22 (i+1) 0)):=List.map_congr_left fun j hj=>by unfold rw22;rw [cn22_full (List.mem_range.1 hj)]
theorem T_rowcap {C:Cx} {k:List It} {env:Env} {ec:EnvC} {H:List HA} {A:Option Addr} {e sz cap n:Nat} {xs:List Value} {rb:HA→List HA} [hf:FocusR H A e sz cap n xs rb] (h:n≤cap→T C k env ec H):T C k env ec H:=by
 refine T.mk fun a w ha hw=>?_
 obtain⟨i,hi,_⟩:=hf.at_
 obtain⟨F,h1,h2,h3⟩:=hw.sep
 obtain⟨_,hr⟩:=h1 i _ hi
 refine h ?_ a w ha hw
 rcases hr with⟨_,rfl,rfl,_⟩|⟨g,cur,_,_,h5,_⟩
 ·exact Nat.le_refl _
 ·exact h5
theorem string22_spec (w0:World) (pb:Nat) (q A:Option Addr) (c:Nat) (bs:List UInt8) (h0:bs≠[]) (K:List HA) :
  SpecB Tryz.prog 37 [.pointer (some ⟨pb,0,none⟩)] w0 (bld22 pb q A c bs K) (fun u R=>u = .string ⟨bs.toArray⟩∧R=[]):=by
 refine specB_of sg Tryz.func37 rfl rfl rfl ?_
 have hl:0<bs.length:=List.length_pos_iff.2 h0
 refine T_rowcap (e:=5) (sz:=1) (A:=A) (cap:=c) (n:=bs.length) (xs:=u8s bs) fun hc=>?_
 refine T_rowpos (e:=5) (sz:=1) (A:=A) (cap:=c) (n:=bs.length) (xs:=u8s bs) hl fun g hA=>?_
 subst hA
 repeat' (first|refine d1 ?_|fail)
 refine rsH [blk pb [.pointer q, .slice (some ⟨g,0,none⟩) bs.length c] 67] 1000 [0,1,2,3,5,6,7,8,9,4,10,11] ?_
 repeat' (first|refine dd ?_|(show T _ (.run _ _ (_::_) _ _::_) _ _ _;first|refine rv rfl rfl rfl (Val.nilc rfl) rfl rfl rfl ?_|refine ro rfl rfl (OpT.ofVal rfl (Val.sliceData rfl (by omega)) rfl rfl rfl ⟨fun _=>Hle.sub,?_⟩)|refine ro rfl rfl (OpT.unsafeStr rfl rfl rfl rfl rfl (by kernel_rfl) h0 ⟨fun _=>Hle.sub,?_⟩))|(show T _ (.code .ret::_) _ _ _;refine T_retV _ rfl (Hle.none _) ⟨rfl,rfl⟩))
theorem cells22_le {l:List ByteArray} {b:Nat} (h:∀ t∈l,t.size≤b):(cells22 l).length≤(b+1) * l.length:=by
 induction l with
 | nil=>exact Nat.le_refl _
 | cons t l ih =>
  have h1:=h t (.head _)
  have h2:=ih fun y hy=>h y (.tail _ hy)
  have h3:t.data.toList.length=t.size:=by simp
  unfold cells22 at h2 ⊢
  rw [List.flatMap_cons,List.length_append,List.length_cons,List.length_cons,Nat.mul_succ]
  omega
def part22N (x:Co) (k:Nat):List UInt8:=(List.range k).flatMap fun k=>line22 (x.sg.getD k ByteArray.empty) (row22 x k)
theorem part22N_succ (x:Co) (k:Nat):part22N x (k+1)=part22N x k++line22 (x.sg.getD k ByteArray.empty) (row22 x k):=by unfold part22N;rw [List.range_succ,List.flatMap_append];simp
theorem part22N_all (x:Co):part22N x x.sg.length=print22 x:=rfl
theorem cell22_le {x:Co} (hs:Small22 x) (k i:Nat):(cell22 x k i).size≤12:=by
 unfold cell22 txt22
 split
 ·exact Nat.zero_le _
 ·split
  ·rename_i t ht
   have hm:=List.mem_of_getElem? ht
   rw [List.getD_eq_getElem?_getD] at hm
   cases hq:x.m[k]? with
   | none=>rw [hq] at hm;cases hm
   | some l=>rw [hq] at hm;exact hs.txt l (List.mem_of_getElem? hq) t hm
  ·exact Nat.zero_le _
theorem line22_le {x:Co} (hs:Small22 x) {k:Nat} (hk:k<x.sg.length):(line22 (x.sg.getD k ByteArray.empty) (row22 x k)).length≤333:=by
 have h1:=hs.sig _ (getD_mem22 ByteArray.empty hk)
 have h2:=cells22_le (l:=row22 x k) (b:=12) fun t ht=>by
  obtain⟨i,-,rfl⟩:=List.mem_map.1 ht
  exact cell22_le hs k i
 have h3:=hs.cols
 rw [row22_len] at h2
 have h4:(x.sg.getD k ByteArray.empty).data.toList.length=(x.sg.getD k ByteArray.empty).size:=by simp
 unfold line22
 rw [List.length_append,List.length_append,h4,List.length_singleton]
 omega
theorem part22N_le {x:Co} (hs:Small22 x):∀ k,k≤x.sg.length→(part22N x k).length≤333 * k
 | 0,_=>Nat.le_refl _
 | k+1,hk=>by
  have h1:=part22N_le hs k (by omega)
  have h2:=line22_le hs (k:=k) (by omega)
  rw [part22N_succ,List.length_append]
  omega
theorem printV22_ok {x:Co} (hs:Small22 x) (h:Ok22 x):printV22 x=(⟨(print22 x).toArray⟩,0):=by
 have h1:=part22N_le hs x.sg.length (Nat.le_refl _)
 have h2:=hs.sg
 rw [part22N_all] at h1
 unfold printV22
 rw [if_neg (by rw [chk22_iff.2 h];simp),if_neg (by omega)]
theorem row22_get {x:Co} {k i:Nat} (h:i<x.cols.length):(row22 x k)[i]?=some (cell22 x k i):=by unfold row22;rw [List.getElem?_map,List.getElem?_range h];rfl
theorem printP22_spec (x:Co) (A1:Option Addr) (c1:Nat) (l:List TS) (A2:Option Addr) (c2:Nat) (y3:Value) (w:World) (hx:CoAt w x A1 c1 l A2 c2 y3) (hs:Small22 x) :
  Spec Tryz.prog 16 [.agg (coL x.sec (.slice A1 x.sg.length c1) (.slice A2 l.length c2) y3).toArray] w (fun v R=>v = .tuple #[.string (printV22 x).1, .int .i64 (printV22 x).2]∧R=[]):=by
 obtain⟨Ak,ck,csk,rfl,hck1,hck2,hcs,hrows⟩:=hx.cols.tabS
 obtain⟨n,hn⟩:∃ n,x.sg.length=n:=⟨_,rfl⟩
 have hchk:∀ w',CoAt w' x A1 c1 l A2 c2 (.slice Ak x.cols.length ck)→Spec Tryz.prog 26 [.agg (coL x.sec (.slice A1 n c1) (.slice A2 l.length c2) (.slice Ak x.cols.length ck)).toArray] w' (fun v R=>v = .int .i64 (chk22 x)∧R=[]):=fun w' h'=>by
  have:=checkP22_spec x A1 c1 l A2 c2 _ w' h'
  rw [hn] at this
  exact this
 have hcolS:∀ (i:Nat) w',CoAt w' x A1 c1 l A2 c2 (.slice Ak x.cols.length ck)→Ok22 x→i<x.cols.length→Spec Tryz.prog 33 [.agg (coL x.sec (.slice A1 n c1) (.slice A2 l.length c2) (.slice Ak x.cols.length ck)).toArray, .int .i64 (i:Nat)] w' (fun v R=>∃ b:Nat,True∧v = .slice (some ⟨b,0,none⟩) n n∧R=[blk b ((col22 x i).map Value.string) 9]):=fun i w' h' h2 h3=>by
  have:=column22_spec x A1 c1 l A2 c2 _ i w' h' h2 h3
  rw [hn] at this
  exact this
 rw [hn]
 refine spec_of sg Tryz.func16 rfl rfl rfl ?_
 refine T_op (OpT.box (cs:=coL x.sec (.slice A1 n c1) (.slice A2 l.length c2) (.slice Ak x.cols.length ck)) rfl rfl rfl rfl rfl rfl rfl (fun pc=>?_))
 repeat' (first|refine d1 ?_|(show T _ (.ops _ (_::_)::_) _ _ _;refine T_call rfl rfl rfl rfl rfl (fun w hw=>hchk w (hx.cls hw)) ?_)|fail)
 refine T_if rfl (fun h=>?_) (fun h=>?_)
 ·simp only [Bool.not_eq_true',decide_eq_false_iff_not] at h
  have e:printV22 x=(ByteArray.empty,1):=if_pos h
  rw [e]
  repeat' (first|refine d1 ?_|(show T _ (.code .ret::_) _ _ _;refine T_retV [] rfl (Hle.none _) ⟨rfl,rfl⟩))
 simp only [Bool.not_eq_false',decide_eq_true_eq] at h
 have hok:=chk22_iff.1 h
 obtain⟨h1,h2,h3⟩:=hx.row hok
 have hs1:=hx.hd.s1
 have hcols:=hs.cols
 rw [hn] at h1 h2 h3 hs1
 rw [printV22_ok hs hok]
 obtain⟨bs1,os1,rfl⟩:=hs1.base (by omega)
 repeat' (first|refine d1 ?_|(show T _ (.ops _ (_::_)::_) _ _ _;refine T_op (OpT.make rfl rfl rfl rfl rfl rfl rfl rfl rfl (by dsimp only;omega) (fun b1=>?_)))|fail)
 have hz:List.replicate n (Value.slice none 0 0)=hd22 (fun _=>(none,0)) (cn22 0 0) n:=by
  refine List.ext_getElem? fun j=>?_
  rw [List.getElem?_replicate]
  by_cases hj:j<n
  ·rw [if_pos hj,hd22_get hj];rfl
  ·rw [if_neg hj,List.getElem?_eq_none (by rw [hd22_len];omega)]
 refine T_loopX (fun s:Nat × (Nat→Option Addr × Nat)=>[(21, .int .i64 (s.1:Nat))]) (fun s=>blk b1 (hd22 s.2 (cn22 s.1 0) n) 22::blk pc (coL x.sec (.slice (some ⟨bs1,os1,none⟩) n c1) (.slice A2 l.length c2) (.slice Ak x.cols.length ck)) 26::(List.range n).map (rw22 x s.2 (cn22 s.1 0))) (fun s=>s.1≤x.cols.length) (fun s=>x.cols.length - s.1) (0,fun _=>(none,0)) (Nat.zero_le _) ?_ (hG:=?_)
 rotate_left
 ·dsimp only
  refine Hle.trans (rows_nil (e:=9) (sz:=1) _ n) ?_
  rw [← hz]
  exact Hle.perm List.perm_append_comm
 rintro⟨i,ρ⟩ hi
 dsimp only at hi ⊢
 repeat' (first|refine d1 ?_|fail)
 refine T_if rfl (fun h5=>?_) (fun h5=>?_)
 ·simp only [decide_eq_true_eq] at h5
  have hin:i<x.cols.length:=by omega
  repeat' (first|refine d1 ?_|(show T _ (.ops _ (_::_)::_) _ _ _;refine T_callE rfl rfl rfl rfl rfl (fun w hw=>hcolS i w (hx.cls hw) hok hin) (fun b2 _=>?_))|fail)
  refine T_loopX (fun s:Nat × (Nat→Option Addr × Nat)=>[(28, .int .i64 (s.1:Nat))]) (fun s=>blk b1 (hd22 s.2 (cn22 i s.1) n) 22::blk b2 ((col22 x i).map Value.string) 9::blk pc (coL x.sec (.slice (some ⟨bs1,os1,none⟩) n c1) (.slice A2 l.length c2) (.slice Ak x.cols.length ck)) 26::(List.range n).map (rw22 x s.2 (cn22 i s.1))) (fun s=>s.1≤n) (fun s=>n - s.1) (0,ρ) (Nat.zero_le _) ?_ (hG:=Hle.perm (List.Perm.swap _ _ _))
  rintro⟨k,ρ⟩ hk
  dsimp only at hk ⊢
  repeat' (first|refine d1 ?_|fail)
  refine T_if rfl (fun h6=>?_) (fun h6=>?_)
  ·simp only [decide_eq_true_eq] at h6
   have hkn:k<n:=by omega
   refine T_le (H':=rw22 x ρ (cn22 i k) k::blk b1 (hd22 ρ (cn22 i k) n) 22::blk b2 ((col22 x i).map Value.string) 9::blk pc (coL x.sec (.slice (some ⟨bs1,os1,none⟩) n c1) (.slice A2 l.length c2) (.slice Ak x.cols.length ck)) 26::((List.range n).erase k).map (rw22 x ρ (cn22 i k))) (rows_out [_,_,_] _ hkn) ?_
   have hci:cn22 i k k=i:=by unfold cn22;rw [if_neg (by omega)]
   have hrk:rw22 x ρ (cn22 i k) k=row 9 1 (ρ k).1 (ρ k).2 i (((row22 x k).take i).map Value.string):=by unfold rw22;rw [hci]
   have hcg:((col22 x i).map Value.string)[k]?=some (.string (cell22 x k i)):=by rw [List.getElem?_map,col22_get (by omega)];rfl
   have hhg:(hd22 ρ (cn22 i k) n)[k]?=some (.slice (ρ k).1 i (ρ k).2):=by rw [hd22_get hkn,hci]
   rw [hrk]
   repeat' (first|refine d1 ?_|(show T _ (.ops _ (_::_)::_) _ _ _;first|refine T_val rfl (Val.load rfl (fun hg=>rdOwn1 (b:=b2) (u := .string (cell22 x k i)) (by rw [show 0+(k:Int).toNat * 1=k by omega];exact hcg))) rfl rfl rfl ?_|refine T_val rfl (Val.load rfl (fun hg=>rdOwn1 (b:=b1) (u := .slice (ρ k).1 i (ρ k).2) (by rw [show 0+(k:Int).toNat * 1=k by omega];exact hhg))) rfl rfl rfl ?_|refine T_op (OpT.append (A:=(ρ k).1) rfl rfl rfl rfl rfl rfl rfl rfl rfl rfl (fun w hw=>Src.own hw rfl) rfl (by dsimp only;omega) (by omega) (fun A5 c5 hA5=>?_))|refine T_op (OpT.store rfl rfl rfl rfl (by rw [hd22_len];omega) ?_))|(show ∀ _:Nat,T _ _ _ _ _;intro _))
   refine T_backX (k+1,up22 ρ k (A5,c5)) (by dsimp only;omega) (by dsimp only;omega) (hG:=?_)
   dsimp only
   rw [show 0+(k:Int).toNat * 1=k by omega,hd22_set (A5,c5) hkn]
   have htk:=take_snoc _ _ _ (row22_get (k:=k) hin)
   have e1:row 9 1 A5 c5 (i+1) (((row22 x k).take i).map Value.string++flatP [(0, .string (cell22 x k i))])=rw22 x (up22 ρ k (A5,c5)) (cn22 i (k+1)) k:=by
    unfold rw22 up22 cn22
    rw [if_pos rfl,if_pos (by omega),htk,List.map_append]
    rfl
   rw [e1]
   refine (Hle.tail _ _).trans ?_
   exact rows_in [_,_,_] _ _ hkn fun j hj=>by
    unfold rw22 up22 cn22
    rw [if_neg hj]
    by_cases h9:j<k
    ·rw [if_pos h9,if_pos (by omega)]
    ·rw [if_neg h9,if_neg (by omega)]
  ·simp only [decide_eq_false_iff_not] at h6
   obtain rfl:k=n:=by omega
   repeat' (first|refine d1 ?_|fail)
   refine T_backX (i+1,ρ) (by dsimp only;omega) (by dsimp only;omega) (hG:=?_)
   dsimp only
   rw [← hd22_full, ← rw22_full]
   exact Hle.perm (List.Perm.cons _ (List.Perm.refl _)) |>.trans (Hle.drop2 _ _ _)
 simp only [decide_eq_false_iff_not] at h5
 obtain rfl:i=x.cols.length:=by omega
 have hcn:∀ j,cn22 x.cols.length 0 j=x.cols.length:=fun j=>by unfold cn22;rw [if_neg (by omega)]
 refine T_le (H':=dat (hd22 ρ (cn22 x.cols.length 0) n) ((List.range n).map fun j=>strsD (row22 x j))::blk b1 (hd22 ρ (cn22 x.cols.length 0) n) 22::blk pc (coL x.sec (.slice (some ⟨bs1,os1,none⟩) n c1) (.slice A2 l.length c2) (.slice Ak x.cols.length ck)) 26::[]) ?_ ?_
 ·have e1:(List.range n).map (rw22 x ρ (cn22 x.cols.length 0))=(List.range n).map (fun j=>row 9 1 (ρ j).1 (ρ j).2 x.cols.length ((row22 x j).map Value.string)):=List.map_congr_left fun j _=>by
   unfold rw22
   rw [hcn,List.take_of_length_le (by rw [row22_len];omega)]
  have e2:hd22 ρ (cn22 x.cols.length 0) n=(List.range n).map fun j => .slice (ρ j).1 x.cols.length (ρ j).2:=List.map_congr_left fun j _=>by rw [hcn]
  rw [e1,e2]
  refine (Hle.perm (List.perm_append_comm (l₁:=[_,_]))).trans ((dat_nil _).trans ?_)
  have h9:=rows_acc (e:=9) ρ x.cols.length (fun j=>(row22 x j).map Value.string) [blk b1 ((List.range n).map fun j => .slice (ρ j).1 x.cols.length (ρ j).2) 22,blk pc (coL x.sec (.slice (some ⟨bs1,os1,none⟩) n c1) (.slice A2 l.length c2) (.slice Ak x.cols.length ck)) 26] (List.range n) [] []
  exact h9
 refine T_open fun p hp=>?_
 refine T_le (H':=blk b1 (hd22 ρ (cn22 x.cols.length 0) n) 22::fz p::blk pc (coL x.sec (.slice (some ⟨bs1,os1,none⟩) n c1) (.slice A2 l.length c2) (.slice Ak x.cols.length ck)) 26::[]) (Hle.perm (List.Perm.swap _ _ _)) ?_
 repeat' (first|refine d1 ?_|(show ∀ _:Nat,T _ _ _ _ _;intro _))
 rename_i pb
 refine T_nilrow 5 1 ?_
 refine T_loopX (fun s:Nat × Option Addr × Option Addr × Nat=>[(48, .int .i64 (s.1:Nat))]) (fun s=>bld22 pb s.2.1 s.2.2.1 s.2.2.2 (part22N x s.1) [blk b1 (hd22 ρ (cn22 x.cols.length 0) n) 22,fz p,blk pc (coL x.sec (.slice (some ⟨bs1,os1,none⟩) n c1) (.slice A2 l.length c2) (.slice Ak x.cols.length ck)) 26]) (fun s=>s.1≤n∧(s.2.1=none∨s.2.1=some ⟨pb,0,none⟩)) (fun s=>n - s.1) (0,none,none,0) ⟨Nat.zero_le _, .inl rfl⟩ ?_ (hG:=Hle.perm (List.Perm.swap _ _ _))
 rintro⟨k,q,A5,c5⟩ ⟨hk,hq⟩
 dsimp only at hk hq ⊢
 have hpl:=part22N_le hs k (by omega)
 have hsg36:=hs.sg
 repeat' (first|refine d1 ?_|fail)
 refine T_if rfl (fun h6=>?_) (fun h6=>?_)
 ·simp only [decide_eq_true_eq] at h6
  have hkn:k<n:=by omega
  obtain⟨s,hsk⟩:∃ s,x.sg[k]?=some s:=⟨_,List.getElem?_eq_getElem (by omega)⟩
  have hr:=src_str hs1 hkn hsk
  have hs20:=hs.sig s (List.mem_of_getElem? hsk)
  have hsd:x.sg.getD k ByteArray.empty=s:=by rw [List.getD_eq_getElem?_getD,hsk];rfl
  have hhg:(hd22 ρ (cn22 x.cols.length 0) n)[k]?=some (.slice (ρ k).1 x.cols.length (ρ k).2):=by rw [hd22_get hkn,hcn]
  have hyk:Rd (fr p) [.slice (ρ k).1 x.cols.length (ρ k).2] [strsD (row22 x k)]:=by
   obtain⟨u,hu,hru⟩:=hp.get (i:=k) (d:=strsD (row22 x k)) (by rw [List.getElem?_map,List.getElem?_range hkn];rfl)
   rw [hhg] at hu
   cases hu
   exact hru
  repeat' (first|refine d1 ?_|(show T _ (.ops _ (_::_)::_) _ _ _;first|refine T_val rfl (Val.load rfl (fun hg=>rdOwn1 (b:=b1) (u := .slice (ρ k).1 x.cols.length (ρ k).2) (by rw [show 0+(k:Int).toNat * 1=k by omega];exact hhg))) rfl rfl rfl ?_|refine T_op (OpT.callB rfl rfl rfl rfl rfl (line22_spec _ pb q hq A5 c5 (part22N x k) s _ (row22 x k) p _ hyk (by omega) (by rw [row22_len];omega) (fun t ht=>by obtain⟨j,-,rfl⟩:=List.mem_map.1 ht;have:=cell22_le hs k j;omega) (by omega)) (fun u R hR=>?_)))|fail)
  obtain⟨⟨A6,c6⟩,rfl,rfl⟩:=hR
  have hpl2:=part22N_le hs (k+1) (by omega)
  have e9:part22N x k++line22 s (row22 x k)=part22N x (k+1):=by rw [part22N_succ,hsd]
  rw [e9]
  dsimp only
  repeat' (first|refine d1 ?_|(show T _ (.ops _ (_::_)::_) _ _ _;refine T_call rfl rfl rfl rfl rfl (fun w hw=>len22_spec pb (some ⟨pb,0,none⟩) A6 (part22N x (k+1)).length c6 w (rdAll w hw)) ?_)|fail)
  refine T_if rfl (fun h7=>?_) (fun _=>?_)
  ·exfalso
   have h8:=of_decide_eq_true h7
   omega
  repeat' (first|refine d1 ?_|fail)
  exact T_backX (k+1,_,A6,c6) ⟨by dsimp only;omega, .inr rfl⟩ (by dsimp only;omega)
 ·simp only [decide_eq_false_iff_not] at h6
  obtain rfl:k=n:=by omega
  have hne:part22N x k≠[]:=by
   obtain⟨m,rfl⟩:∃ m,k=m+1:=⟨k - 1,by omega⟩
   rw [part22N_succ]
   unfold line22
   simp
  repeat' (first|refine d1 ?_|(show T _ (.ops _ (_::_)::_) _ _ _;refine T_op (OpT.callB rfl rfl rfl rfl rfl (string22_spec _ pb q A5 c5 (part22N x k) hne _) (fun u R hR=>?_)))|fail)
  obtain⟨rfl,rfl⟩:=hR
  have e9:print22 x=part22N x k:=by rw [← hn];rfl
  rw [e9]
  repeat' (first|(show T _ (.code .ret::_) _ _ _;refine T_retV [] rfl (Hle.none _) ⟨rfl,rfl⟩))
end Go.Proofs.YtefieebkankfoaaGreatDoor
namespace Go.Proofs.YtefieebkankfoaaGreatDoor
open Go.RowKit Go.Shelf Go.Proofs
set_option maxRecDepth 100000
set_option maxHeartbeats 1000000

theorem moves19_fn (pg p:Nat) (Am:Option Addr) (nm cm:Nat) (w:World):Spec Tryz.prog 80 [.pointer (some ⟨pg,0,none⟩), .slice Am nm cm, .int .i64 (p:Nat)] w
  (fun v R=>∃ g:Nat × Nat × Nat,True∧v = .func (.func 118) #[] #[.pointer (some ⟨g.1,0,none⟩), .pointer (some ⟨g.2.1,0,none⟩), .pointer (some ⟨g.2.2,0,none⟩)]∧R=[blk g.2.1 [.int .i64 (p:Nat)] 3,blk g.2.2 [.slice Am nm cm] 24,blk g.1 [.pointer (some ⟨pg,0,none⟩)] 117]):=by
 refine spec_of sg Tryz.func80 rfl rfl rfl ?_
 refine T_op (OpT.box (cs:=[.pointer (some ⟨pg,0,none⟩)]) rfl rfl rfl rfl rfl rfl rfl (fun g1=>?_))
 refine T_op (OpT.box (cs:=[.slice Am nm cm]) rfl rfl rfl rfl rfl rfl rfl (fun g3=>?_))
 refine T_op (OpT.box (cs:=[.int .i64 (p:Nat)]) rfl rfl rfl rfl rfl rfl rfl (fun g2=>?_))
 repeat' (first|refine d1 ?_|(show T _ (.code .ret::_) _ _ _;refine T_retV _ rfl (Hle.refl _) ⟨(g1,g2,g3),trivial,rfl,rfl⟩))
def posL (ls v:List Nat) (Ms:List (List Nat)):List (List Nat):=Ms.filter (possM ls v)
theorem posL_yes {ls v m:List Nat} {Ms:List (List Nat)} {i:Nat} (h:Ms[i]?=some m) (hp:possM ls v m=true):posL ls v (Ms.take (i+1))=posL ls v (Ms.take i)++[m]:=by
 unfold posL
 rw [take_snoc _ _ _ h,List.filter_append,List.filter_cons,hp];rfl
theorem posL_no {ls v m:List Nat} {Ms:List (List Nat)} {i:Nat} (h:Ms[i]?=some m) (hp:possM ls v m=false):posL ls v (Ms.take (i+1))=posL ls v (Ms.take i):=by
 unfold posL
 rw [take_snoc _ _ _ h,List.filter_append,List.filter_cons,hp]
 exact List.append_nil _
theorem posL_get {ls v m:List Nat} {Ms:List (List Nat)} {i:Nat} (h:Ms[i]?=some m) (hp:possM ls v m=true):(posL ls v Ms)[(posL ls v (Ms.take i)).length]?=some m:=by
 have h1:posL ls v Ms=posL ls v (Ms.take (i+1))++posL ls v (Ms.drop (i+1)):=by
  unfold posL
  rw [← List.filter_append,List.take_append_drop]
 rw [h1,posL_yes h hp,List.append_assoc,List.getElem?_append_right (Nat.le_refl _),Nat.sub_self];rfl
def QM (n:Nat) (ls v:List Nat) (j:Nat) (x:List Value) (B:List HA):Prop :=
 ∃ m b,(posL ls v (mvL n))[j]?=some m∧x=[.slice (some ⟨b,0,none⟩) n n, .int .i64 (numL ls (toM v m):Nat)]∧B=[row 3 1 (some ⟨b,0,none⟩) n n ((colT v m).map (Value.int .i64))]
theorem colMv_snoc (v:List Nat):∀ (m:List Nat) (s:Nat) (c:List Int),colMv v (m++[s]) c=(colMv v m c).set s (v.getD s 0:Nat)
 | [],s,c=>rfl
 | u::m,s,c=>by
  show colMv v (m++[s]) _=_
  rw [colMv_snoc v m s];rfl
theorem possM_snoc (ls v m:List Nat) (s:Nat):possM ls v (m++[s])=(possM ls v m && decide (v.getD s 0<ls.getD s 0)):=by
 unfold possM
 rw [List.all_append];simp
theorem sum_stp {ls:List Nat}:∀ m:List Nat,(m.map (stpL ls)).sum≤m.length * volL ls
 | []=>Nat.zero_le _
 | s::m=>by
  have h:=sum_stp (ls:=ls) m
  have h2:stpL ls s≤volL ls:=by
   by_cases hs:s<ls.length
   ·exact stpL_le hs
   ·rw [stpL_none (by omega)];exact Nat.zero_le _
  rw [List.map_cons,List.sum_cons,List.length_cons,Nat.add_mul];omega
theorem atV_get (v:List Nat) {s:Nat} (hs:s<4):(atV v)[s]?=some (.int .i64 (v.getD s 0:Nat)):=by
 obtain rfl|rfl|rfl|rfl:s=0∨s=1∨s=2∨s=3:=by omega
 all_goals rfl
theorem moves_iter {w0:World} {A:Option Addr} {n ca:Nat} {l:List TS} (hg:Grp w0 A n l) (h1:1≤n) (h4:n≤4) (hv:volL (lens l)≤65536) {p:Nat} (hp:p<volL (lens l)) (pg p1 p2 p3:Nat) {M:Value} {pm:Frag} (hM:Rd (fr pm) [M] [rowsD ((mvL n).map intN)]) :
  IterO Tryz.prog w0 118 [] [.pointer (some ⟨p1,0,none⟩), .pointer (some ⟨p2,0,none⟩), .pointer (some ⟨p3,0,none⟩)]
   [blk p2 [.int .i64 (p:Nat)] 3,blk p3 [M] 24,blk p1 [.pointer (some ⟨pg,0,none⟩)] 117,blk pg (gridL A n ca (lens l) 0) 123,fz pm]
   (QM n (lens l) (atL (lens l) p)) (posL (lens l) (atL (lens l) p) (mvL n)).length:=by
 have hn:=hg.hn
 have hll:=lens_len l
 have hvl:=atL_len (lens l) p
 have hmo:=mvL_ok h1 h4
 obtain⟨Am,cm,csm,rfl,hm1,hm2,hml,hmr,hrows⟩:=hM.tab
 rw [List.length_map] at hm1 hml hmr
 have hm15:(mvL n).length≤15:=by
  obtain rfl|rfl|rfl|rfl:n=1∨n=2∨n=3∨n=4:=by omega
  all_goals decide
 refine iterO_of sg Tryz.func118 rfl rfl rfl ?_
 intro l' GQ X Hj hY h0
 rw [List.length_map]
 show T _ _ _ _ (blk p2 [.int .i64 (p:Nat)] 3::blk p3 [.slice Am (mvL n).length cm] 24::blk p1 [.pointer (some ⟨pg,0,none⟩)] 117::blk pg (gridL A n ca (lens l) 0) 123::fz pm::Hj)
 repeat' (first|refine d1 ?_|(show T _ (.ops _ (_::_)::_) _ _ _;refine T_call rfl rfl rfl rfl rfl (fun w hw=>at19_spec A n ca l pg p w (hg.cls hw) h4 hv hp (rdAll w hw)) ?_)|(show ∀ _:Nat,T _ _ _ _ _;intro _))
 rename_i p5
 refine T_loopX (fun s:Nat × List HA=>[(18, .int .i64 (s.1:Nat))]) (fun s=>blk p5 (atV (atL (lens l) p)) 121::blk p2 [.int .i64 (p:Nat)] 3::blk p3 [.slice Am (mvL n).length cm] 24::blk p1 [.pointer (some ⟨pg,0,none⟩)] 117::blk pg (gridL A n ca (lens l) 0) 123::fz pm::s.2) (fun s=>s.1≤(mvL n).length∧GQ (posL (lens l) (atL (lens l) p) ((mvL n).take s.1)).length s.2) (fun s=>(mvL n).length - s.1) (0,Hj) ⟨Nat.zero_le _,h0⟩ ?_
 rintro⟨i,H1⟩ ⟨hi,hG⟩
 dsimp only at hi hG ⊢
 repeat' (first|refine d1 ?_|fail)
 refine T_if rfl (fun h=>?_) (fun h=>?_)
 ·simp only [decide_eq_true_eq] at h
  obtain⟨m,hm⟩:∃ m,(mvL n)[i]?=some m:=⟨_,List.getElem?_eq_getElem (by omega)⟩
  have hmm:=List.mem_of_getElem? hm
  have hml4:=pigeon2 n m (hmo.nd m hmm) (hmo.lt m hmm)
  obtain⟨b,o,rfl,hrd⟩:=hmr (by omega)
  obtain⟨Ar,capr,hcs,hr1,hr2,hAr⟩:=hrows.tabRow (i:=i) (r:=intN m) (by rw [List.getElem?_map,hm];rfl)
  rw [show (intN m).length=m.length by unfold intN;rw [List.length_map]] at hcs hr1 hAr
  have hmpos:0<m.length:=List.length_pos_iff.2 (hmo.ne m hmm)
  obtain⟨br,orr,rfl,hAr9⟩:=hAr hmpos
  repeat' (first|refine d1 ?_|(show T _ (.ops _ (_::_)::_) _ _ _;refine T_val rfl (Val.load rfl (fun hg=>rdFz (p:=pm) (u := .slice (some ⟨br,orr,none⟩) m.length capr) (b:=b) (by rw [off1];exact hrd i _ hcs))) rfl rfl rfl ?_)|fail)
  refine rsH [blk p5 (atV (atL (lens l) p)) 121,blk p2 [.int .i64 (p:Nat)] 3,blk p3 [.slice (some ⟨b,o,none⟩) (mvL n).length cm] 24,blk p1 [.pointer (some ⟨pg,0,none⟩)] 117,blk pg (gridL A n ca (lens l) 0) 123,fz pm] 1000 [1,2,3,4,5,7,0,6,8,9,10] ?_
  repeat' (first|refine dd ?_|(show T _ (.run _ _ (_::_) _ _::_) _ _ _;first|refine rv rfl rfl rfl (Val.nilc rfl) rfl rfl rfl ?_|refine ro rfl rfl (OpT.litW rfl rfl rfl rfl rfl rfl rfl rfl rfl rfl rfl (fun b3=>⟨fun _=>Hle.sub,?_⟩))|refine ro rfl rfl (OpT.call rfl rfl rfl rfl rfl (fun w hw=>repeatI_spec (-1) (some ⟨_,0,none⟩) 1 n w (Src.own hw rfl) (by omega)) (fun u R hR=>?_)))|fail)
  obtain⟨bz,-,rfl,rfl⟩:=hR
  refine ⟨fun _=>(Hle.tail _ _).trans ((Hle.tail _ _).trans (Hle.append_left (A:=[blk p5 (atV (atL (lens l) p)) 121,blk p2 [.int .i64 (p:Nat)] 3,blk p3 [.slice (some ⟨b,o,none⟩) (mvL n).length cm] 24,blk p1 [.pointer (some ⟨pg,0,none⟩)] 117,blk pg (gridL A n ca (lens l) 0) 123,fz pm]) H1)),?_⟩
  show T _ _ _ _ (row 3 1 (some ⟨bz,0,none⟩) n n (List.replicate n (.int .i64 (-1)))::blk _ _ _::blk p5 (atV (atL (lens l) p)) 121::blk p2 [.int .i64 (p:Nat)] 3::blk p3 [.slice (some ⟨b,o,none⟩) (mvL n).length cm] 24::blk p1 [.pointer (some ⟨pg,0,none⟩)] 117::blk pg (gridL A n ca (lens l) 0) 123::fz pm::H1)
  repeat' (first|refine d1 ?_|refine dd ?_|fail)
  have hz0:List.replicate n (Value.int .i64 (-1))=(colMv (atL (lens l) p) (m.take 0) (List.replicate n (-1))).map (Value.int .i64):=by rw [List.take_zero];unfold colMv;rw [List.map_replicate]
  rw [hz0]
  refine T_loopX (fun s:Nat=>[(32, .int .i64 (s:Nat)),(9, .int .i64 ((p+((m.take s).map (stpL (lens l))).sum:Nat):Int)),(10, .bool (possM (lens l) (atL (lens l) p) (m.take s)))]) (fun s=>row 3 1 (some ⟨bz,0,none⟩) n n ((colMv (atL (lens l) p) (m.take s) (List.replicate n (-1))).map (Value.int .i64))::blk p5 (atV (atL (lens l) p)) 121::blk p2 [.int .i64 (p:Nat)] 3::blk p3 [.slice (some ⟨b,o,none⟩) (mvL n).length cm] 24::blk p1 [.pointer (some ⟨pg,0,none⟩)] 117::blk pg (gridL A n ca (lens l) 0) 123::fz pm::H1) (fun s=>s≤m.length) (fun s=>m.length - s) 0 (Nat.zero_le _) ?_ (hG:=Hle.drop2 _ _ _)
  rintro s hs
  repeat' (first|refine d1 ?_|fail)
  refine T_if rfl (fun h5=>?_) (fun h5=>?_)
  ·simp only [decide_eq_true_eq] at h5
   obtain⟨u,hu⟩:∃ u,m[s]?=some u:=⟨_,List.getElem?_eq_getElem (by omega)⟩
   have hun:=hmo.lt m hmm u (List.mem_of_getElem? hu)
   have htk:=take_snoc _ _ _ hu
   obtain⟨ba,oa,rfl⟩:=hg.hs.base (by omega)
   obtain⟨t,ht,htm,htr⟩:=hg.get (k:=u) hun
   have htn:=hg.nb t htm
   have hsl:=stpL_le (ls:=lens l) (s:=u) (by omega)
   have hsum:=sum_stp (ls:=lens l) (m.take s)
   have hlt4:(m.take s).length≤4:=by rw [List.length_take];omega
   have hms:=Nat.mul_le_mul hlt4 hv
   have hst:∀ w,RdC w pg 0 (gridL (some ⟨ba,oa,none⟩) n ca (lens l) 0)→RdC w pg (0+1+(u:Int).toNat * 1) [.int .i64 (stpL (lens l) u:Nat)]:=fun w hpg=>RdC.one (by have:=hpg (1+u) _ (gridL_stp _ _ _ _ (by omega));rw [show 0+1+(u:Int).toNat * 1=0+(1+u) by omega];exact this)
   have hat:∀ w,RdC w p5 0 (atV (atL (lens l) p))→RdC w p5 (0+(u:Int).toNat * 1) [.int .i64 ((atL (lens l) p).getD u 0:Nat)]:=fun w hp5=>RdC.one (by have:=hp5 u _ (atV_get _ (by omega));rw [show 0+(u:Int).toNat * 1=0+u by omega];exact this)
   have hmu:fr pm br (orr+(s:Int).toNat * 1)=some (.int .i64 (u:Nat)):=by rw [off1];exact hAr9 s _ (by unfold intN;rw [List.getElem?_map,hu];rfl)
   repeat' (first|refine d1 ?_|refine dd ?_|(show T _ (.ops _ (_::_)::_) _ _ _;first|refine T_val rfl (Val.nilc rfl) rfl rfl rfl ?_|refine T_val rfl (Val.load rfl (fun hg=>rdFz (p:=pm) hmu)) rfl rfl rfl ?_|refine T_val rfl (Val.load rfl (fun hg=>(fun w hw=>hat w (rdAll w hw)))) rfl rfl rfl ?_|refine T_val rfl (Val.load rfl (fun hg=>(fun w hw=>hst w (rdAll w hw)))) rfl rfl rfl ?_|refine T_op (OpT.storeR (us:=[.int .i64 ((atL (lens l) p).getD u 0:Nat)]) rfl rfl rfl rfl rfl rfl (by show 0+(u:Int).toNat * 1+1≤n * 1;omega) ?_))|(show T _ (.run _ _ (_::_) _ _::_) _ _ _;first|refine rg rfl rfl rfl (Val.nilc rfl) rfl rfl rfl rfl rfl ?_|refine rg rfl rfl rfl (Val.load rfl (fun hg=>(fun w hw=>hat w (rdAll w hw)))) rfl rfl rfl rfl rfl ?_)|fail)
   have h9:((p+((m.take (s+1)).map (stpL (lens l))).sum:Nat):Int)=((p+((m.take s).map (stpL (lens l))).sum:Nat):Int)+(stpL (lens l) u:Nat):=by rw [htk,List.map_append,List.sum_append];simp;omega
   have hgl:(lens l).getD u 0=t.n:=by rw [List.getD_eq_getElem?_getD,lens_get ht];rfl
   have h10:possM (lens l) (atL (lens l) p) (m.take (s+1))=(possM (lens l) (atL (lens l) p) (m.take s) && decide ((((atL (lens l) p).getD u 0:Nat):Int)<(t.n:Nat))):=by
    rw [htk,possM_snoc,hgl,decide_eq_decide.2 (show (atL (lens l) p).getD u 0<t.n↔(((atL (lens l) p).getD u 0:Nat):Int)<(t.n:Nat) by omega)]
   refine T_backX (s+1) (by omega) (by omega) (hE:=⟨rfl,by rw [h9];rfl,by rw [h10];rfl,trivial⟩) (hG:=?_)
   rw [htk,colMv_snoc,List.map_set,show 0+(u:Int).toNat * 1=u by omega]
   exact Hle.refl _
  ·simp only [decide_eq_false_iff_not] at h5
   obtain rfl:s=m.length:=by omega
   rw [List.take_length]
   have hnm:p+(m.map (stpL (lens l))).sum=numL (lens l) (toM (atL (lens l) p) m):=by rw [toM_num _ _ _ hvl (fun s hs=>by rw [hvl,hll,hn];exact hmo.lt m hmm s hs),num_at _ _ hp]
   have hct:colMv (atL (lens l) p) m (List.replicate n (-1))=colT (atL (lens l) p) m:=by unfold colT;rw [hvl,hll,hn]
   rw [hnm,hct]
   cases hpo:possM (lens l) (atL (lens l) p) m with
   | true =>
    have hpg:=posL_get hm hpo
    have hy:=posL_yes hm hpo
    repeat' (first|refine d1 ?_|(show T _ (.ops _ (_::_)::_) _ _ _;refine T_op (OpT.yieldO [row 3 1 (some ⟨bz,0,none⟩) n n ((colT (atL (lens l) p) m).map (Value.int .i64))] [blk p5 (atV (atL (lens l) p)) 121,blk p2 [.int .i64 (p:Nat)] 3,blk p3 [.slice (some ⟨b,o,none⟩) (mvL n).length cm] 24,blk p1 [.pointer (some ⟨pg,0,none⟩)] 117,blk pg (gridL A n ca (lens l) 0) 123,fz pm] hY rfl rfl (Holds.of1 rfl rfl rfl) rfl rfl rfl (List.getElem?_eq_some_iff.1 hpg).1 ⟨m,bz,hpg,rfl,rfl⟩ hG (Hle.comm [_,_,_,_,_,_,_] H1) (fun H2 hG2=>?_) (fun Y hX=>?_)))|fail)
    ·show T _ _ _ _ (blk p5 (atV (atL (lens l) p)) 121::blk p2 [.int .i64 (p:Nat)] 3::blk p3 [.slice (some ⟨b,o,none⟩) (mvL n).length cm] 24::blk p1 [.pointer (some ⟨pg,0,none⟩)] 117::blk pg (gridL A n ca (lens l) 0) 123::fz pm::H2)
     skip
     refine T_if rfl (fun h3=>by exfalso;simp at h3) (fun _=>?_)
     repeat' (first|refine d1 ?_|fail)
     exact T_backX (i+1,H2) ⟨by dsimp only;omega,by dsimp only;rw [hy,List.length_append];exact hG2⟩ (by dsimp only;omega)
    ·show T _ _ _ _ (blk p5 (atV (atL (lens l) p)) 121::blk p2 [.int .i64 (p:Nat)] 3::blk p3 [.slice (some ⟨b,o,none⟩) (mvL n).length cm] 24::blk p1 [.pointer (some ⟨pg,0,none⟩)] 117::blk pg (gridL A n ca (lens l) 0) 123::fz pm::Y)
     skip
     refine T_if rfl (fun _=>?_) (fun h3=>by exfalso;simp at h3)
     repeat' (first|(show T _ (.code .ret::_) _ _ _;refine T_istop rfl Y hX (Hle.tail _ _)))
   | false =>
    have hy:=posL_no hm hpo
    repeat' (first|refine d1 ?_|(show T _ (.ops _ (_::_)::_) _ _ _;refine T_op (OpT.never (.bool false) rfl (fun hg9=>by have h10:(false:Bool)=true:=hg9.1;cases h10) rfl rfl rfl rfl rfl ?_))|fail)
    refine T_if rfl (fun h3=>by exfalso;simp at h3) (fun _=>?_)
    repeat' (first|refine d1 ?_|fail)
    exact T_backX (i+1,H1) ⟨by dsimp only;omega,by dsimp only;rw [hy];exact hG⟩ (by dsimp only;omega) (hG:=Hle.tail _ _)
 ·simp only [decide_eq_false_iff_not] at h
  obtain rfl:i=(mvL n).length:=by omega
  rw [List.take_length] at hG
  skip
  exact T_ifall rfl H1 hG (Hle.tail _ _)
end Go.Proofs.YtefieebkankfoaaGreatDoor
namespace Go.Proofs.YtefieebkankfoaaGreatDoor
open Go.RowKit Go.Shelf Go.Proofs
set_option maxRecDepth 100000
set_option maxHeartbeats 1000000

theorem colT_ok {l:List TS} {v m:List Nat} (hv:v.length=l.length) (hm:∀ s∈m,s<l.length) (hp:possM (lens l) v m=true):ColOk l (colT v m):=by
 refine ⟨by rw [colT_len,hv],fun j z s hz hs=>?_⟩
 have hj:j<v.length:=by rw [hv];exact (List.getElem?_eq_some_iff.1 hs).1
 have h1:=colT_get (v:=v) (m:=m) hj
 rw [List.getD_eq_getElem?_getD,hz] at h1
 have h1':z=if j∈m then ((v.getD j 0:Nat):Int) else -1:=h1
 by_cases hjm:j∈m
 ·rw [if_pos hjm] at h1'
  have h2:=possM_iff.1 hp j hjm
  rw [show (lens l).getD j 0=s.n by rw [List.getD_eq_getElem?_getD,lens_get hs];rfl] at h2
  omega
 ·rw [if_neg hjm] at h1'
  omega
theorem foldB_ub {p:List Nat→Bool} {f:List Nat→Int} {B:Int} (hf:∀ m,f m≤B):∀ (ms:List (List Nat)) (a:Int),a≤B→foldB p f ms a≤B
 | [],a,h=>h
 | m::ms,a,h=>by
  show foldB p f ms (cond (p m) (bst a (f m)) a)≤B
  refine foldB_ub hf ms _ ?_
  have h1:=hf m
  have h2:=(bst_le (a:=a) (x:=f m)).2
  cases p m with
  | false=>exact h
  | true=>show bst a (f m)≤B;omega
theorem rsM_ub {K:List Int→Int} {B:Int} (h0:0≤B) (hK:∀ x,K x≤B) (ls:List Nat) (Ms:List (List Nat)):∀ f v,rsM K ls Ms f v≤B * f
 | 0,v=>by unfold rsM;simp
 | f+1,v=>by
  have h1:0≤B * (f+1:Nat):=Int.mul_nonneg h0 (by omega)
  have h2:=foldB_ub (p:=possM ls v) (f:=fun m=>K (colT v m)+rsM K ls Ms f (toM v m)) (B:=B * (f+1:Nat)) (fun m=>by
   have h3:=hK (colT v m)
   have h4:=rsM_ub h0 hK ls Ms f (toM v m)
   have h5:B * ((f+1:Nat):Int)=B * f+B:=by rw [show ((f+1:Nat):Int)=(f:Int)+1 by omega,Int.mul_add,Int.mul_one]
   omega) Ms (-1) (by omega)
  unfold rsM
  omega
theorem sumL_lens {l:List TS} (h:∀ t∈l,t.n≤1000):sumL (lens l)≤1000 * l.length:=by
 induction l with
 | nil=>exact Nat.zero_le _
 | cons t l ih =>
  have h1:=h t (.head _)
  have h2:=ih fun x hx=>h x (.tail _ hx)
  show t.n+sumL (lens l)≤_
  rw [List.length_cons]
  omega
theorem rsV_ub {c:Costs} (hc:costE c=0) {l:List TS} (h4:l.length≤4) (hb:∀ t∈l,t.n≤1000) (v:List Nat) (Ms:List (List Nat)):0≤rsV (colZ c l) (lens l) Ms v∧rsV (colZ c l) (lens l) Ms v≤4096000000:=by
 refine ⟨rsV_nn _ _ _ _,?_⟩
 unfold rsV
 have h1:=rsM_ub (K:=colZ c l) (B:=1024000) (by omega) (fun x=>(colZ_bd hc (by omega) x).2) (lens l) Ms (sumL (lens l) - sumL v) v
 have h2:=sumL_lens hb
 omega
theorem foldB_posL {ls v:List Nat} {f:List Nat→Int}:∀ (Ms:List (List Nat)) (a:Int),foldB (possM ls v) f (posL ls v Ms) a=foldB (possM ls v) f Ms a
 | [],a=>rfl
 | m::Ms,a=>by
  unfold posL
  rw [List.filter_cons]
  cases hp:possM ls v m with
  | true =>
   show foldB _ _ (posL ls v Ms) (cond (possM ls v m) _ _)=foldB _ _ Ms (cond (possM ls v m) _ _)
   exact foldB_posL Ms _
  | false =>
   show foldB _ _ (posL ls v Ms) a=foldB _ _ Ms (cond (possM ls v m) _ _)
   rw [hp]
   exact foldB_posL Ms _
theorem posL_mem {ls v m:List Nat} {Ms:List (List Nat)} (h:m∈posL ls v Ms):m∈Ms∧possM ls v m=true:=List.mem_filter.1 h
theorem find_posL {K:List Int→Int} {ls v:List Nat}:∀ Ms Ns:List (List Nat),(posL ls v Ms).find? (fitM K ls Ns v)=Ms.find? (fitM K ls Ns v)
 | [],Ns=>rfl
 | m::Ms,Ns=>by
  unfold posL
  rw [List.filter_cons,List.find?_cons (a:=m)]
  cases hp:possM ls v m with
  | true =>
   show List.find? _ (m::posL ls v Ms)=_
   rw [List.find?_cons,find_posL Ms Ns]
  | false =>
   have hf:fitM K ls Ns v m=false:=by unfold fitM;rw [hp];rfl
   show List.find? _ (posL ls v Ms)=_
   rw [hf,find_posL Ms Ns]
end Go.Proofs.YtefieebkankfoaaGreatDoor
namespace Go.Proofs.YtefieebkankfoaaGreatDoor
open Go.RowKit Go.Shelf Go.Proofs
set_option maxRecDepth 100000
set_option maxHeartbeats 1000000

def aln19 (c:Costs) (l:List TS):List (List Int) × Int × Int :=
 if usV c l≠0 then ([],0,usV c l) else if 4<l.length∨65536<volL (lens l) then ([],0,4) else (alnW c l,lstV c l,0)
theorem usV_ok {c:Costs} {l:List TS} (h:usV c l=0):1≤l.length∧costE c=0∧badS l=false:=by
 unfold usV at h
 by_cases h1:l.length=0
 ·rw [if_pos h1] at h;omega
 ·rw [if_neg h1] at h
  unfold ck21 at h
  by_cases h2:costE c=0∧badS l=false
  ·exact⟨by omega,h2⟩
  ·rw [if_neg h2] at h;omega
theorem rdAt {w:World} {b:Nat} {L:List Int} (h:RdC w b 0 (L.map (Value.int .i64))) {q off:Nat} {z:Int} (ho:off=q) (hz:L[q]?=some z):RdC w b off [.int .i64 z]:=by
 subst ho
 refine RdC.one ?_
 have:=h off _ (by rw [List.getElem?_map,hz];rfl)
 rw [Nat.zero_add] at this
 exact this
theorem stp_pos {ls m:List Nat} (h:m≠[]) (hm:∀ s∈m,s<ls.length):0<(m.map (stpL ls)).sum:=by
 cases m with
 | nil=>exact absurd rfl h
 | cons s m =>
  have:=stpL_pos (hm s (.head _))
  rw [List.map_cons,List.sum_cons];omega
theorem numL_zero:∀ (ls:List Nat) (n:Nat),numL ls (List.replicate n 0)=0
 | [],n=>by cases n <;> rfl
 | _::ls,0=>rfl
 | _::ls,n+1=>by
  show 0 * _+numL ls (List.replicate n 0)=0
  rw [numL_zero ls n];simp
theorem align19_spec (c:Costs) (A:Option Addr) (n ca:Nat) (l:List TS) (w:World) (hg:Grp w A n l) :
  Spec Tryz.prog 48 [c.val, .slice A n ca] w (fun v R=>∃ x:Value,True∧v = .tuple #[x, .int .i64 (aln19 c l).2.1, .int .i64 (aln19 c l).2.2]∧R=[dat [x] [rowsD (aln19 c l).1]]):=by
 have hn:=hg.hn
 have hll:=lens_len l
 have hb:=hg.hb
 refine spec_of sg Tryz.func48 rfl rfl rfl ?_
 refine T_op (OpT.box (cs:=c.cells) rfl rfl rfl rfl rfl rfl rfl (fun pc=>?_))
 refine T_op (OpT.box (cs:=[.slice A n ca]) rfl rfl rfl rfl rfl rfl rfl (fun pl=>?_))
 repeat' (first|refine d1 ?_|(show T _ (.ops _ (_::_)::_) _ _ _;refine T_call rfl rfl rfl rfl rfl (fun w hw=>usable19_spec c A n ca l w (hg.cls hw)) ?_)|fail)
 refine T_if rfl (fun h=>?_) (fun h=>?_)
 ·have h0:usV c l≠0:=by simpa using h
  unfold aln19
  rw [if_pos h0]
  repeat' (first|refine d1 ?_|(show T _ (.code .ret::_) _ _ _;refine T_retV _ rfl (nilC _ |>.trans (Hle.nth 0 rfl)) ⟨_,trivial,rfl,rfl⟩))
 have h0:usV c l=0:=by simpa using h
 obtain⟨h1,hc,hbs⟩:=usV_ok h0
 repeat' (first|refine d1 ?_|fail)
 refine T_callC rfl rfl rfl rfl rfl rfl rfl (fun _ w hw=>size19_spec A n ca l 65536 w (hg.cls hw) ⟨by omega,by omega⟩) ?_
 repeat' (first|refine d1 ?_|fail)
 refine T_if rfl (fun h2=>?_) (fun h2=>?_)
 ·have hbig:4<l.length∨65536<volL (lens l):=by
   unfold capV at h2
   simp only [Bool.or_eq_true,decide_eq_true_eq] at h2
   split at h2 <;> omega
  unfold aln19
  rw [if_neg (by simpa using h0),if_pos hbig]
  repeat' (first|refine d1 ?_|(show T _ (.code .ret::_) _ _ _;refine T_retV _ rfl (nilC _ |>.trans (Hle.nth 0 rfl)) ⟨_,trivial,rfl,rfl⟩))
 have hsm:l.length≤4∧volL (lens l)≤65536:=by
  unfold capV at h2
  simp only [Bool.or_eq_false_iff,decide_eq_false_iff_not] at h2
  split at h2 <;> omega
 have h4:n≤4:=by omega
 have hv:=hsm.2
 have hv0:volL ((lens l).drop 0)≤65536:=hv
 have ha:aln19 c l=(alnW c l,lstV c l,0):=by
  unfold aln19
  rw [if_neg (by simpa using h0),if_neg (by omega)]
 rw [ha]
 refine rsH [blk pl [.slice A n ca] 23,blk pc c.cells 51] 1000 [0,2,3,1,4,5,6] ?_
 repeat' (first|refine dd ?_|(show T _ (.run _ _ (_::_) _ _::_) _ _ _;refine ro rfl rfl (OpT.call rfl rfl rfl rfl rfl (fun w hw=>newGrid_spec A n ca l w (hg.cls hw) h4 hv) (fun u R hR=>?_)))|fail)
 obtain⟨pg,-,rfl,rfl⟩:=hR
 refine ⟨fun _=>Hle.tail _ _,?_⟩
 show T _ _ _ _ (blk pg (gridL A n ca (lens l) 0) 123::blk pl [.slice A n ca] 23::blk pc c.cells 51::[])
 repeat' (first|(show T _ (.run _ _ (_::_) _ _::_) _ _ _;refine ro rfl rfl (OpT.call rfl rfl rfl rfl rfl (fun w hw=>moves19_spec (n:Int) w) (fun xm R hR=>?_)))|fail)
 obtain⟨_,-,rfl,rfl⟩:=hR
 refine ⟨fun _=>(Hle.tail _ _).trans (Hle.tail _ _),?_⟩
 show T _ _ _ _ (dat [xm] [rowsD ((mvL n).map intN)]::blk pg (gridL A n ca (lens l) 0) 123::blk pl [.slice A n ca] 23::blk pc c.cells 51::[])
 refine T_open fun pm hM=>?_
 obtain⟨Am,cm,csm,rfl,-⟩:=hM.tab
 rw [List.length_map] at hM ⊢
 repeat' (first|refine d1 ?_|refine dd ?_|(show T _ (.ops _ (_::_)::_) _ _ _;first|refine T_val rfl (Val.nilc rfl) rfl rfl rfl ?_|refine T_op (OpT.make rfl rfl rfl rfl rfl rfl rfl rfl rfl (by dsimp only;omega) (fun b1=>?_)))|(show ∀ _:Nat,T _ _ _ _ _;intro _))
 rename_i p10 p11
 obtain⟨V,hV⟩:∃ V,V=volL (lens l):=⟨_,rfl⟩
 have hVd:volL ((lens l).drop 0)=V:=hV.symm
 have hVp:0<V:=by rw [hV];exact volL_pos _
 rw [hVd]
 have hall:=num_all (lens l)
 rw [← hV] at hall hv
 have hself:=at_num (InB.self (lens l))
 have hno:=mvL_ok (show 1≤n by omega) h4
 have hn4:l.length≤4:=by omega
 have hlsn:(lens l).length=n:=by omega
 obtain⟨F,hF⟩:∃ F:Nat→Int,F=fun q=>rsV (colZ c l) (lens l) (mvL n) (atL (lens l) q):=⟨_,rfl⟩
 have hFb:∀ q,0≤F q∧F q≤4096000000:=fun q=>by rw [hF];exact rsV_ub hc hn4 hg.nb _ _
 refine T_keep [(2, .pointer (some ⟨pc,0,none⟩)),(3, .pointer (some ⟨pl,0,none⟩)),(8, .pointer (some ⟨pg,0,none⟩)),(9, .slice Am (mvL n).length cm),(10, .pointer (some ⟨p10,0,none⟩)),(11, .pointer (some ⟨p11,0,none⟩))] ⟨rfl,rfl,rfl,rfl,rfl,rfl,trivial⟩ ?_
 refine T_le (H':=blk p11 [.int .i64 (((V - 1:Nat):Int) - 1)] 3::blk p10 [.slice (some ⟨b1,0,none⟩) V V] 29::blk b1 ((List.replicate V 0).map (Value.int .i64)) 3::fz pm::blk pg (gridL A n ca (lens l) 0) 123::blk pl [.slice A n ca] 23::blk pc c.cells 51::[]) ?_ ?_
 ·rw [show ((V - 1:Nat):Int) - 1=(V:Int) - 2 by omega,List.map_replicate]
  exact Hle.refl _
 show T (FC _ _ (([]:List Nat).map mkD) _ _ _) _ _ _ _
 refine T_loopDX (fun s:Nat × Nat × List Int × List Nat=>[(11, .pointer (some ⟨s.2.1,0,none⟩))]) (fun s=>blk s.2.1 [.int .i64 ((s.1:Int) - 1)] 3::blk p10 [.slice (some ⟨b1,0,none⟩) V V] 29::blk b1 ((s.2.2.1).map (Value.int .i64)) 3::fz pm::blk pg (gridL A n ca (lens l) 0) 123::blk pl [.slice A n ca] 23::blk pc c.cells 51::[]) (fun s=>s.2.2.2) (fun s=>s.1≤V - 1∧s.2.2.1.length=V∧∀ q,s.1≤q→q<V→s.2.2.1[q]?=some (F q)) (fun s=>s.1) (V - 1,p11,List.replicate V 0,[]) ⟨Nat.le_refl _,by simp,fun q h5 h6=>?_⟩ rfl ?_
 ·dsimp only at h5
  rw [show q=V - 1 by omega,hF]
  dsimp only
  rw [show V - 1=numL (lens l) (lens l) by omega,hself,rsV_end,List.getElem?_replicate,if_pos (by omega)]
 rintro⟨r,q11,L,Dl⟩ ⟨hr,hL,hLF⟩
 dsimp only at hr hL hLF ⊢
 refine T_le (H':=blk q11 [.int .i64 ((r:Int) - 1)] 3::blk p10 [.slice (some ⟨b1,0,none⟩) V V] 29::blk b1 ((L).map (Value.int .i64)) 3::fz pm::blk pg (gridL A n ca (lens l) 0) 123::blk pl [.slice A n ca] 23::blk pc c.cells 51::dfrs Dl) (Hle.refl _) ?_
 have hLm:(L.map (Value.int .i64)).length=V:=by rw [List.length_map,hL]
 rcases r with _|p
 ·repeat' (first|refine d1 ?_|fail)
  refine T_if rfl (fun h5=>by exfalso;simp at h5) (fun _=>?_)
  repeat' (first|refine d1 ?_|(show ∀ _:Nat,T _ _ _ _ _;intro _))
  rename_i p15 p16
  have hz0:numL (lens l) (List.replicate n 0)=0:=numL_zero _ _
  refine T_keep [(2, .pointer (some ⟨pc,0,none⟩)),(3, .pointer (some ⟨pl,0,none⟩)),(8, .pointer (some ⟨pg,0,none⟩)),(9, .slice Am (mvL n).length cm),(10, .pointer (some ⟨p10,0,none⟩)),(15, .pointer (some ⟨p15,0,none⟩)),(16, .pointer (some ⟨p16,0,none⟩))] ⟨rfl,rfl,rfl,rfl,rfl,rfl,rfl,trivial⟩ ?_
  refine T_le (H':=blk p16 [.int .i64 ((0:Nat):Int)] 3::blk p15 [.slice none 0 0] 24::blk p10 [.slice (some ⟨b1,0,none⟩) V V] 29::blk b1 (L.map (Value.int .i64)) 3::fz pm::blk pg (gridL A n ca (lens l) 0) 123::blk pl [.slice A n ca] 23::blk pc c.cells 51::dfrs Dl) (Hle.drop3 _ _ _ _) ?_
  refine T_le (dat_nil _) ?_
  refine T_nilrow 29 1 ?_
  refine T_loopDX (fun s:List Nat × Nat × (Option Addr × Nat) × List Value × List (List Int) × List Nat=>[(16, .pointer (some ⟨s.2.1,0,none⟩))]) (fun s=>blk s.2.1 [.int .i64 (numL (lens l) s.1:Nat)] 3::blk p15 [.slice s.2.2.1.1 s.2.2.2.2.1.length s.2.2.1.2] 24::row 29 1 s.2.2.1.1 s.2.2.1.2 s.2.2.2.2.1.length s.2.2.2.1::dat s.2.2.2.1 (s.2.2.2.2.1.map intsD)::blk p10 [.slice (some ⟨b1,0,none⟩) V V] 29::blk b1 (L.map (Value.int .i64)) 3::fz pm::blk pg (gridL A n ca (lens l) 0) 123::blk pl [.slice A n ca] 23::blk pc c.cells 51::[]) (fun s=>s.2.2.2.2.2) (fun s=>InB (lens l) s.1∧s.2.2.2.2.1.length≤sumL s.1∧alnW c l=s.2.2.2.2.1++(alV19 (colZ c l) (lens l) (mvL n) s.1)) (fun s=>sumL (lens l) - sumL s.1) (List.replicate n 0,p16,(none,0),[],[],Dl) ⟨by rw [← hlsn];exact InB.zero _,Nat.zero_le _,by dsimp only;rw [List.nil_append, ← hn];rfl⟩ rfl ?_ (hG:=by dsimp only;rw [hz0];exact Hle.srtT (A:=[row 29 1 none 0 0 [],dat [] [],blk p16 [.int .i64 ((0:Nat):Int)] 3,blk p15 [.slice none 0 0] 24,blk p10 [.slice (some ⟨b1,0,none⟩) V V] 29,blk b1 (L.map (Value.int .i64)) 3,fz pm,blk pg (gridL A n ca (lens l) 0) 123,blk pl [.slice A n ca] 23,blk pc c.cells 51]) (K:=[blk p16 [.int .i64 ((0:Nat):Int)] 3,blk p15 [.slice none 0 0] 24,row 29 1 none 0 0 [],dat [] [],blk p10 [.slice (some ⟨b1,0,none⟩) V V] 29,blk b1 (L.map (Value.int .i64)) 3,fz pm,blk pg (gridL A n ca (lens l) 0) 123,blk pl [.slice A n ca] 23,blk pc c.cells 51]) (dfrs Dl))
  rintro⟨v,q16,⟨Ao,capo⟩,hs,out,Dl⟩ ⟨hvi,hol,hout⟩
  dsimp only at hvi hol hout ⊢
  obtain⟨p,hp⟩:∃ p,p=numL (lens l) v:=⟨_,rfl⟩
  have hat:=at_num hvi
  have hpl:=numL_lt hvi
  rw [← hp] at hat hpl ⊢
  rw [← hV] at hpl
  refine T_le (H':=blk q16 [.int .i64 (p:Nat)] 3::blk p15 [.slice Ao out.length capo] 24::row 29 1 Ao capo out.length hs::dat hs (out.map intsD)::blk p10 [.slice (some ⟨b1,0,none⟩) V V] 29::blk b1 (L.map (Value.int .i64)) 3::fz pm::blk pg (gridL A n ca (lens l) 0) 123::blk pl [.slice A n ca] 23::blk pc c.cells 51::dfrs Dl) (Hle.refl _) ?_
  have hg5:∀ w,RdC w pg 0 (gridL A n ca (lens l) 0)→RdC w pg (0+5) [.int .i64 (V:Nat)]:=fun w h9=>RdC.one (by have:=h9 5 _ (show (gridL A n ca (lens l) 0)[5]?=some (.int .i64 (V:Nat)) by rw [hV];rfl);exact this)
  repeat' (first|refine dd ?_|(show T _ (.run _ _ (_::_) _ _::_) _ _ _;refine rv rfl rfl rfl (Val.nilc rfl) rfl rfl rfl ?_)|fail)
  refine T_if rfl (fun h5=>?_) (fun h5=>?_)
  ·have hpV:p+1<V:=by simp at h5;omega
   obtain rfl:v=atL (lens l) p:=hat.symm
   repeat' (first|refine d1 ?_|(show T _ (.ops _ (_::_)::_) _ _ _;refine T_op (OpT.call rfl rfl rfl rfl rfl (fun w hw=>moves19_fn pg p Am (mvL n).length cm w) (fun u R hR=>?_)))|fail)
   obtain⟨⟨g1,g2,g3⟩,-,rfl,rfl⟩:=hR
   have hvl:(atL (lens l) p).length=l.length:=by rw [atL_len,hll]
   have hne:(atL (lens l) p)≠lens l:=fun e=>by rw [e] at hp;omega
   have hsub:=sumL_le hvi
   have hlen4:=sumL_lens hg.nb
   refine T_rangeO (moves_iter hg (by omega) h4 (by omega) (p:=p) (by omega) pg g1 g2 g3 hM) rfl (fun j x B hj hQ=>by obtain⟨m,b,_,rfl,_⟩:=hQ;exact⟨rfl,rfl⟩)
    (fun jj H=>H=blk q16 [.int .i64 (p:Nat)] 3::blk p15 [.slice Ao out.length capo] 24::row 29 1 Ao capo out.length hs::dat hs (out.map intsD)::blk p10 [.slice (some ⟨b1,0,none⟩) V V] 29::blk b1 (L.map (Value.int .i64)) 3::blk pl [.slice A n ca] 23::blk pc c.cells 51::dfrs Dl∧∀ j' y,j'<jj→(posL (lens l) (atL (lens l) p) (mvL n))[j']?=some y→fitM (colZ c l) (lens l) (mvL n) (atL (lens l) p) y=false) (fun _=>False)
    (fun id H=>id=6∧∃ (m:List Nat) (x:Option Addr × Nat × Value),(mvL n).find? (fitM (colZ c l) (lens l) (mvL n) (atL (lens l) p))=some m∧H=blk q16 [.int .i64 ((numL (lens l) (toM (atL (lens l) p) m)):Nat)] 3::blk p15 [.slice x.1 (out.length+1) x.2.1] 24::row 29 1 x.1 x.2.1 (out.length+1) (hs++[x.2.2])::dat (hs++[x.2.2]) ((out++[colT (atL (lens l) p) m]).map intsD)::blk p10 [.slice (some ⟨b1,0,none⟩) V V] 29::blk b1 (L.map (Value.int .i64)) 3::blk pl [.slice A n ca] 23::blk pc c.cells 51::dfrs Dl) (blk q16 [.int .i64 (p:Nat)] 3::blk p15 [.slice Ao out.length capo] 24::row 29 1 Ao capo out.length hs::dat hs (out.map intsD)::blk p10 [.slice (some ⟨b1,0,none⟩) V V] 29::blk b1 (L.map (Value.int .i64)) 3::blk pl [.slice A n ca] 23::blk pc c.cells 51::dfrs Dl) ⟨rfl,fun _ _ h=>by omega⟩
    (Hle.srtT (A:=[blk g2 [.int .i64 (p:Nat)] 3,blk g3 [.slice Am (mvL n).length cm] 24,blk g1 [.pointer (some ⟨pg,0,none⟩)] 117,blk q16 [.int .i64 (p:Nat)] 3,blk p15 [.slice Ao out.length capo] 24,row 29 1 Ao capo out.length hs,dat hs (out.map intsD),blk p10 [.slice (some ⟨b1,0,none⟩) V V] 29,blk b1 (L.map (Value.int .i64)) 3,fz pm,blk pg (gridL A n ca (lens l) 0) 123,blk pl [.slice A n ca] 23,blk pc c.cells 51]) (K:=[blk g2 [.int .i64 (p:Nat)] 3,blk g3 [.slice Am (mvL n).length cm] 24,blk g1 [.pointer (some ⟨pg,0,none⟩)] 117,blk pg (gridL A n ca (lens l) 0) 123,fz pm,blk q16 [.int .i64 (p:Nat)] 3,blk p15 [.slice Ao out.length capo] 24,row 29 1 Ao capo out.length hs,dat hs (out.map intsD),blk p10 [.slice (some ⟨b1,0,none⟩) V V] 29,blk b1 (L.map (Value.int .i64)) 3,blk pl [.slice A n ca] 23,blk pc c.cells 51]) (dfrs Dl)) ?_ ?_ (fun _ _ h=>h.elim) ?_
   ·rintro Lp r5 jj x B Hj K2 hr5 hj hQ ⟨rfl,hnf⟩
    obtain⟨m,b,hm,rfl,rfl⟩:=hQ
    obtain⟨hmm,hpo⟩:=posL_mem (List.mem_of_getElem? hm)
    have hti:=(toM_rem hno hlsn hvi hmm hpo).1
    have hqV:=numL_lt hti
    rw [← hV] at hqV
    have hFq:F (numL (lens l) (toM (atL (lens l) p) m))=rsV (colZ c l) (lens l) (mvL n) (toM (atL (lens l) p) m):=by rw [hF];dsimp only;rw [at_num hti]
    have hFp:F p=rsV (colZ c l) (lens l) (mvL n) (atL (lens l) p):=by rw [hF]
    have hfit:fitM (colZ c l) (lens l) (mvL n) (atL (lens l) p) m=decide (colZ c l (colT (atL (lens l) p) m)+F (numL (lens l) (toM (atL (lens l) p) m))=F p):=by
     rw [hFq,hFp]
     unfold fitM
     rw [hpo,Bool.true_and];rfl
    obtain⟨q,hq⟩:∃ q,q=(numL (lens l) (toM (atL (lens l) p) m)):=⟨_,rfl⟩
    rw [← hq] at hqV hfit
    show T _ _ ((100, .int .i64 ((numL (lens l) (toM (atL (lens l) p) m)):Nat))::(99, .slice (some ⟨b,0,none⟩) n n)::_) _ (lrec Lp r5::blk q16 [.int .i64 (p:Nat)] 3::blk p15 [.slice Ao out.length capo] 24::row 29 1 Ao capo out.length hs::dat hs (out.map intsD)::blk p10 [.slice (some ⟨b1,0,none⟩) V V] 29::blk b1 (L.map (Value.int .i64)) 3::blk pl [.slice A n ca] 23::blk pc c.cells 51::(dfrs Dl++(row 3 1 (some ⟨b,0,none⟩) n n ((colT (atL (lens l) p) m).map (Value.int .i64))::K2)))
    rw [← hq]
    repeat' (first|refine d1 ?_|(show T _ _ _ _ _;refine T_begin hr5 rfl ?_))
    refine T_le (H':=row 3 1 (some ⟨b,0,none⟩) n n ((colT (atL (lens l) p) m).map (Value.int .i64))::lrec Lp (busy r5)::blk q16 [.int .i64 (p:Nat)] 3::blk p15 [.slice Ao out.length capo] 24::row 29 1 Ao capo out.length hs::dat hs (out.map intsD)::blk p10 [.slice (some ⟨b1,0,none⟩) V V] 29::blk b1 (L.map (Value.int .i64)) 3::blk pl [.slice A n ca] 23::blk pc c.cells 51::(dfrs Dl++K2)) (Hle.perm (List.perm_middle (l₁:=lrec Lp (busy r5)::blk q16 [.int .i64 (p:Nat)] 3::blk p15 [.slice Ao out.length capo] 24::row 29 1 Ao capo out.length hs::dat hs (out.map intsD)::blk p10 [.slice (some ⟨b1,0,none⟩) V V] 29::blk b1 (L.map (Value.int .i64)) 3::blk pl [.slice A n ca] 23::blk pc c.cells 51::dfrs Dl) (l₂:=K2))) ?_
    have hcq:∀ w,RdC w b1 0 (L.map (Value.int .i64))→RdC w b1 (0+(q:Int).toNat * 1) [.int .i64 (F q)]:=fun w h9=>rdAt h9 (by omega) (hLF q (by omega) (by omega))
    have hcp:∀ w,RdC w b1 0 (L.map (Value.int .i64))→RdC w b1 (0+(p:Int).toNat * 1) [.int .i64 (F p)]:=fun w h9=>rdAt h9 (by omega) (hLF p (by omega) (by omega))
    have hKb:=colZ_bd hc (show l.length≤32 by omega) (colT (atL (lens l) p) m)
    have hFq2:=hFb q
    refine rsH [row 3 1 (some ⟨b,0,none⟩) n n ((colT (atL (lens l) p) m).map (Value.int .i64)),lrec Lp (busy r5),blk q16 [.int .i64 (p:Nat)] 3,blk p15 [.slice Ao out.length capo] 24,row 29 1 Ao capo out.length hs,dat hs (out.map intsD),blk p10 [.slice (some ⟨b1,0,none⟩) V V] 29,blk b1 (L.map (Value.int .i64)) 3,blk pl [.slice A n ca] 23,blk pc c.cells 51] 1000 [0,1,2,4,5,6,7,9,10,11,12,3,8,13] ?_
    repeat' (first|refine dd ?_|(show T _ (.run _ _ (_::_) _ _::_) _ _ _;first|refine rc rfl rfl rfl rfl rfl rfl rfl (fun w hw=>cost19_spec c A (some ⟨b,0,none⟩) n ca n l (colT (atL (lens l) p) m) w (hg.cls hw) hc hbs (srcRw w hw) (colT_ok hvl (fun s hs=>by rw [hn];exact hno.lt m hmm s hs) hpo)) ?_|refine rv rfl rfl rfl (Val.load rfl (fun hg=>(fun w hw=>hcq w (rdAll w hw)))) rfl rfl rfl ?_|refine rv rfl rfl rfl (Val.load rfl (fun hg=>(fun w hw=>hcp w (rdAll w hw)))) rfl rfl rfl ?_)|fail)
    refine T_if rfl (fun h6=>?_) (fun h6=>?_)
    ·rw [h6] at hfit
     have hf:(mvL n).find? (fitM (colZ c l) (lens l) (mvL n) (atL (lens l) p))=some m:=by rw [← find_posL];exact find_at hm hfit hnf
     have hov:out.length≤200000:=by omega
     repeat' (first|refine d1 ?_|(show T _ (.ops _ (_::_)::_) _ _ _;refine T_op (OpT.append rfl rfl rfl rfl rfl rfl rfl rfl rfl rfl (fun w hw=>Src.own hw rfl) rfl (by dsimp only;omega) (by omega) (fun A' cap' hA'=>?_)))|(show ∀ _:Nat,T _ _ _ _ _;intro _))
     rename_i blit2
     show T _ (.code (.exit 6)::_) _ _ _
     refine T_rexit (id:=6) (blk q16 [.int .i64 ((numL (lens l) (toM (atL (lens l) p) m)):Nat)] 3::blk p15 [.slice A' (out.length+1) cap'] 24::row 29 1 A' cap' (out.length+1) (hs++[(.slice (some ⟨b,0,none⟩) n n)])::dat (hs++[(.slice (some ⟨b,0,none⟩) n n)]) ((out++[colT (atL (lens l) p) m]).map intsD)::blk p10 [.slice (some ⟨b1,0,none⟩) V V] 29::blk b1 (L.map (Value.int .i64)) 3::blk pl [.slice A n ca] 23::blk pc c.cells 51::dfrs Dl) (fun _=>rfl) ⟨rfl,m,(A',cap',(.slice (some ⟨b,0,none⟩) n n)),hf,rfl⟩ ?_
     rw [← hq]
     refine (Hle.srtT (A:=[blk blit2 _ _,row 3 1 (some ⟨b,0,none⟩) n n ((colT (atL (lens l) p) m).map (Value.int .i64)),lrec Lp (busy r5),blk q16 [.int .i64 (q:Nat)] 3,blk p15 [.slice A' (out.length+1) cap'] 24,row 29 1 A' cap' (out.length+1) (hs++[(.slice (some ⟨b,0,none⟩) n n)]),dat hs (out.map intsD),blk p10 [.slice (some ⟨b1,0,none⟩) V V] 29,blk b1 (L.map (Value.int .i64)) 3,blk pl [.slice A n ca] 23,blk pc c.cells 51]) (K:=[row 3 1 (some ⟨b,0,none⟩) n n ((colT (atL (lens l) p) m).map (Value.int .i64)),dat hs (out.map intsD),lrec Lp (busy r5),blk q16 [.int .i64 (q:Nat)] 3,blk p15 [.slice A' (out.length+1) cap'] 24,row 29 1 A' cap' (out.length+1) (hs++[(.slice (some ⟨b,0,none⟩) n n)]),blk p10 [.slice (some ⟨b1,0,none⟩) V V] 29,blk b1 (L.map (Value.int .i64)) 3,blk pl [.slice A n ca] 23,blk pc c.cells 51]) (dfrs Dl++K2)).trans ?_
     refine dat_rowV.trans (dat_join.trans ?_)
     have ej:out.map intsD++[D.s 1 (((colT (atL (lens l) p) m).map (Value.int .i64)).map .v)]=(out++[colT (atL (lens l) p) m]).map intsD:=by
      rw [List.map_append,List.map_map];rfl
     rw [ej]
     exact Hle.perm ((List.perm_append_comm (l₁:=[_]) (l₂:=[_,_,_,_])).append_right (blk p10 [.slice (some ⟨b1,0,none⟩) V V] 29::blk b1 (L.map (Value.int .i64)) 3::blk pl [.slice A n ca] 23::blk pc c.cells 51::(dfrs Dl++K2)))
    ·rw [h6] at hfit
     refine T_next (blk q16 [.int .i64 (p:Nat)] 3::blk p15 [.slice Ao out.length capo] 24::row 29 1 Ao capo out.length hs::dat hs (out.map intsD)::blk p10 [.slice (some ⟨b1,0,none⟩) V V] 29::blk b1 (L.map (Value.int .i64)) 3::blk pl [.slice A n ca] 23::blk pc c.cells 51::dfrs Dl) ⟨rfl,fun j' y hj hy=>?_⟩ (Hle.tail _ _)
     rcases Nat.lt_or_ge j' jj with h7|h7
     ·exact hnf j' y h7 hy
     ·rw [show j'=jj by omega,hm] at hy
      cases hy
      exact hfit
   ·rintro D Hn ⟨rfl,hnf⟩
    exfalso
    obtain⟨m,hf,-⟩:=fit_some (K:=colZ c l) (colZ_nn hc hn4) hno hlsn hvi hne
    rw [← find_posL] at hf
    have h7:=List.find?_some hf
    obtain⟨j',hj',e9⟩:=List.getElem_of_mem (List.mem_of_find?_eq_some hf)
    have h8:=hnf j' m hj' (by rw [List.getElem?_eq_getElem hj',e9])
    rw [h8] at h7;cases h7
   ·rintro D id Hx ⟨rfl,m,⟨A',cap',hv9⟩,hf,rfl⟩
    dsimp only
    have h7:=List.find?_some hf
    unfold fitM at h7
    rw [Bool.and_eq_true] at h7
    obtain⟨hti,hs1,hs2,hs3⟩:=toM_rem hno hlsn hvi (List.mem_of_find?_eq_some hf) h7.1
    have hstep:=alV_step hno hlsn hvi hf
    show T (FC _ _ ((D::Dl).map mkD) _ _ _) _ _ _ (dfr D::blk g2 [.int .i64 (p:Nat)] 3::blk g3 [.slice Am (mvL n).length cm] 24::blk g1 [.pointer (some ⟨pg,0,none⟩)] 117::blk pg (gridL A n ca (lens l) 0) 123::fz pm::blk q16 [.int .i64 ((numL (lens l) (toM (atL (lens l) p) m)):Nat)] 3::blk p15 [.slice A' (out.length+1) cap'] 24::row 29 1 A' cap' (out.length+1) (hs++[hv9])::dat (hs++[hv9]) ((out++[colT (atL (lens l) p) m]).map intsD)::blk p10 [.slice (some ⟨b1,0,none⟩) V V] 29::blk b1 (L.map (Value.int .i64)) 3::blk pl [.slice A n ca] 23::blk pc c.cells 51::dfrs Dl)
    repeat' (first|refine d1 ?_|(show ∀ _:Nat,T _ _ _ _ _;intro _))
    rename_i n16
    show T _ (.mark _::_) _ _ _
    refine T_backD (toM (atL (lens l) p) m,n16,(A',cap'),hs++[hv9],out++[colT (atL (lens l) p) m],D::Dl) ⟨hti,by dsimp only;rw [List.length_append];simp;omega,by dsimp only;rw [hout,hstep,List.append_assoc];rfl⟩ (by dsimp only;omega) rfl (hG:=?_)
    dsimp only
    rw [List.length_append]
    exact Hle.srtT (A:=[blk n16 [.int .i64 ((numL (lens l) (toM (atL (lens l) p) m)):Nat)] 3,dfr D,blk g2 [.int .i64 (p:Nat)] 3,blk g3 [.slice Am (mvL n).length cm] 24,blk g1 [.pointer (some ⟨pg,0,none⟩)] 117,blk pg (gridL A n ca (lens l) 0) 123,fz pm,blk q16 [.int .i64 ((numL (lens l) (toM (atL (lens l) p) m)):Nat)] 3,blk p15 [.slice A' (out.length+1) cap'] 24,row 29 1 A' cap' (out.length+1) (hs++[hv9]),dat (hs++[hv9]) ((out++[colT (atL (lens l) p) m]).map intsD),blk p10 [.slice (some ⟨b1,0,none⟩) V V] 29,blk b1 (L.map (Value.int .i64)) 3,blk pl [.slice A n ca] 23,blk pc c.cells 51]) (K:=[blk n16 [.int .i64 ((numL (lens l) (toM (atL (lens l) p) m)):Nat)] 3,blk p15 [.slice A' (out.length+1) cap'] 24,row 29 1 A' cap' (out.length+1) (hs++[hv9]),dat (hs++[hv9]) ((out++[colT (atL (lens l) p) m]).map intsD),blk p10 [.slice (some ⟨b1,0,none⟩) V V] 29,blk b1 (L.map (Value.int .i64)) 3,fz pm,blk pg (gridL A n ca (lens l) 0) 123,blk pl [.slice A n ca] 23,blk pc c.cells 51,dfr D]) (dfrs Dl)
  ·have hpV:p+1=V:=by simp at h5;omega
   obtain rfl:v=lens l:=by rw [← hat, ← hself];congr 1;omega
   rw [alV_end,List.append_nil] at hout
   subst hout
   have hF0:F 0=lstV c l:=by
    rw [hF]
    dsimp only
    rw [show (0:Nat)=numL (lens l) (List.replicate (lens l).length 0) from (numL_zero _ _).symm,at_num (InB.zero _),hll, ← hn]
    rfl
   have hc0:∀ w,RdC w b1 0 (L.map (Value.int .i64))→RdC w b1 (0+(0:Int).toNat * 1) [.int .i64 (lstV c l)]:=fun w h9=>rdAt (q:=0) h9 (by omega) (by rw [← hF0];exact hLF 0 (Nat.zero_le _) hVp)
   repeat' (first|refine dd ?_|(show T _ (.run _ _ (_::_) _ _::_) _ _ _;refine rv rfl rfl rfl (Val.load rfl (fun hg=>(fun w hw=>hc0 w (rdAll w hw)))) rfl rfl rfl ?_)|fail)
   refine T_retDs [dat [.slice Ao (alnW c l).length capo] [rowsD (alnW c l)]] ?_ (rf_V (vs:=[.slice Ao (alnW c l).length capo, .int .i64 (lstV c l), .int .i64 0]) _ rfl (Hle.refl _) ⟨_,trivial,rfl,rfl⟩)
   refine (Hle.tail _ _).trans ((Hle.tail _ _).trans (dat_row.trans ?_))
   exact Hle.srtT (A:=[dat [.slice Ao (alnW c l).length capo] [.s 1 ((alnW c l).map intsD)],_,_,_,_,_,_]) (K:=[dat [.slice Ao (alnW c l).length capo] [.s 1 ((alnW c l).map intsD)]]) (dfrs Dl)
 ·rw [show ((p+1:Nat):Int) - 1=(p:Nat) by omega]
  repeat' (first|refine d1 ?_|fail)
  refine T_if rfl (fun _=>?_) (fun h5=>by exfalso;simp at h5)
  repeat' (first|refine d1 ?_|(show T _ (.ops _ (_::_)::_) _ _ _;refine T_op (OpT.call rfl rfl rfl rfl rfl (fun w hw=>moves19_fn pg p Am (mvL n).length cm w) (fun u R hR=>?_)))|fail)
  obtain⟨⟨g1,g2,g3⟩,-,rfl,rfl⟩:=hR
  have hpV:p+1<V:=by omega
  have hvi:=atL_in (lens l) p
  have hvl:(atL (lens l) p).length=l.length:=by rw [atL_len,hll]
  have hvn:=num_at (lens l) p (by omega)
  have hne:(atL (lens l) p)≠lens l:=fun e=>by rw [e] at hvn;omega
  have hstep:=rsV_step (K:=colZ c l) (colZ_nn hc hn4) hno hlsn hvi hne
  have hset:(L.map (Value.int .i64)).set (0+(p:Int).toNat * 1) (.int .i64 (-1))=(L.set p (foldB (possM (lens l) (atL (lens l) p)) (mcV (colZ c l) (lens l) (mvL n) (atL (lens l) p)) ((posL (lens l) (atL (lens l) p) (mvL n)).take 0) (-1))).map (Value.int .i64):=by
   rw [List.take_zero,List.map_set,show 0+(p:Int).toNat * 1=p by omega];rfl
  rw [hset]
  refine T_rangeO (moves_iter hg (by omega) h4 (by omega) (p:=p) (by omega) pg g1 g2 g3 hM) rfl (fun j x B hj hQ=>by obtain⟨m,b,_,rfl,_⟩:=hQ;exact⟨rfl,rfl⟩)
   (fun jj H=>H=blk q11 [.int .i64 ((p:Nat))] 3::blk p10 [.slice (some ⟨b1,0,none⟩) V V] 29::blk b1 ((L.set p (foldB (possM (lens l) (atL (lens l) p)) (mcV (colZ c l) (lens l) (mvL n) (atL (lens l) p)) ((posL (lens l) (atL (lens l) p) (mvL n)).take jj) (-1))).map (Value.int .i64)) 3::blk pl [.slice A n ca] 23::blk pc c.cells 51::dfrs Dl) (fun _=>False) (fun _ _=>False) (blk q11 [.int .i64 ((p:Nat))] 3::blk p10 [.slice (some ⟨b1,0,none⟩) V V] 29::blk b1 ((L.set p (foldB (possM (lens l) (atL (lens l) p)) (mcV (colZ c l) (lens l) (mvL n) (atL (lens l) p)) ((posL (lens l) (atL (lens l) p) (mvL n)).take 0) (-1))).map (Value.int .i64)) 3::blk pl [.slice A n ca] 23::blk pc c.cells 51::dfrs Dl) rfl
   (Hle.srtT (A:=[blk g2 [.int .i64 (p:Nat)] 3,blk g3 [.slice Am (mvL n).length cm] 24,blk g1 [.pointer (some ⟨pg,0,none⟩)] 117,blk q11 [.int .i64 ((p:Nat))] 3,blk p10 [.slice (some ⟨b1,0,none⟩) V V] 29,blk b1 ((L.set p (foldB (possM (lens l) (atL (lens l) p)) (mcV (colZ c l) (lens l) (mvL n) (atL (lens l) p)) ((posL (lens l) (atL (lens l) p) (mvL n)).take 0) (-1))).map (Value.int .i64)) 3,fz pm,blk pg (gridL A n ca (lens l) 0) 123,blk pl [.slice A n ca] 23,blk pc c.cells 51]) (K:=[blk g2 [.int .i64 (p:Nat)] 3,blk g3 [.slice Am (mvL n).length cm] 24,blk g1 [.pointer (some ⟨pg,0,none⟩)] 117,blk pg (gridL A n ca (lens l) 0) 123,fz pm,blk q11 [.int .i64 ((p:Nat))] 3,blk p10 [.slice (some ⟨b1,0,none⟩) V V] 29,blk b1 ((L.set p (foldB (possM (lens l) (atL (lens l) p)) (mcV (colZ c l) (lens l) (mvL n) (atL (lens l) p)) ((posL (lens l) (atL (lens l) p) (mvL n)).take 0) (-1))).map (Value.int .i64)) 3,blk pl [.slice A n ca] 23,blk pc c.cells 51]) (dfrs Dl)) ?_ ?_ (fun _ _ h=>h.elim) (fun _ _ _ h=>h.elim)
  ·rintro Lp r5 jj x B Hj K2 hr5 hj hQ rfl
   obtain⟨m,b,hm,rfl,rfl⟩:=hQ
   obtain⟨hmm,hpo⟩:=posL_mem (List.mem_of_getElem? hm)
   have hti:=(toM_rem hno hlsn hvi hmm hpo).1
   have hqV:=numL_lt hti
   rw [← hV] at hqV
   have hqn:=toM_num (lens l) m (atL (lens l) p) (by omega) (fun s hs=>by rw [hvl,hn];exact hno.lt m hmm s hs)
   have hqs:=stp_pos (ls:=lens l) (hno.ne m hmm) (fun s hs=>by rw [hlsn];exact hno.lt m hmm s hs)
   have hFq:F (numL (lens l) (toM (atL (lens l) p) m))=rsV (colZ c l) (lens l) (mvL n) (toM (atL (lens l) p) m):=by rw [hF];dsimp only;rw [at_num hti]
   obtain⟨q,hq⟩:∃ q,q=(numL (lens l) (toM (atL (lens l) p) m)):=⟨_,rfl⟩
   obtain⟨X,hX⟩:∃ X,X=foldB (possM (lens l) (atL (lens l) p)) (mcV (colZ c l) (lens l) (mvL n) (atL (lens l) p)) ((posL (lens l) (atL (lens l) p) (mvL n)).take jj) (-1):=⟨_,rfl⟩
   have hXs:foldB (possM (lens l) (atL (lens l) p)) (mcV (colZ c l) (lens l) (mvL n) (atL (lens l) p)) ((posL (lens l) (atL (lens l) p) (mvL n)).take (jj+1)) (-1)=bst X (colZ c l (colT (atL (lens l) p) m)+F q):=by
    rw [take_snoc _ _ _ hm,foldB_app, ← hX,hq,hFq]
    show cond (possM (lens l) (atL (lens l) p) m) _ _=_
    rw [hpo];rfl
   rw [← hq] at hqV hqn hFq
   show T _ _ ((60, .int .i64 ((numL (lens l) (toM (atL (lens l) p) m)):Nat))::(59, .slice (some ⟨b,0,none⟩) n n)::_) _ (lrec Lp r5::blk q11 [.int .i64 ((p:Nat))] 3::blk p10 [.slice (some ⟨b1,0,none⟩) V V] 29::blk b1 ((L.set p (foldB (possM (lens l) (atL (lens l) p)) (mcV (colZ c l) (lens l) (mvL n) (atL (lens l) p)) ((posL (lens l) (atL (lens l) p) (mvL n)).take jj) (-1))).map (Value.int .i64)) 3::blk pl [.slice A n ca] 23::blk pc c.cells 51::(dfrs Dl++(row 3 1 (some ⟨b,0,none⟩) n n ((colT (atL (lens l) p) m).map (Value.int .i64))::K2)))
   rw [← hX, ← hq]
   repeat' (first|refine d1 ?_|(show T _ _ _ _ _;refine T_begin hr5 rfl ?_))
   refine T_le (H':=row 3 1 (some ⟨b,0,none⟩) n n ((colT (atL (lens l) p) m).map (Value.int .i64))::lrec Lp (busy r5)::blk q11 [.int .i64 ((p:Nat))] 3::blk p10 [.slice (some ⟨b1,0,none⟩) V V] 29::blk b1 ((L.set p X).map (Value.int .i64)) 3::blk pl [.slice A n ca] 23::blk pc c.cells 51::(dfrs Dl++K2)) (Hle.perm (List.perm_middle (l₁:=lrec Lp (busy r5)::blk q11 [.int .i64 ((p:Nat))] 3::blk p10 [.slice (some ⟨b1,0,none⟩) V V] 29::blk b1 ((L.set p X).map (Value.int .i64)) 3::blk pl [.slice A n ca] 23::blk pc c.cells 51::dfrs Dl) (l₂:=K2))) ?_
   have hLq:(L.set p X)[q]?=some (F q):=by rw [List.getElem?_set_ne (by omega)];exact hLF q (by omega) (by omega)
   have hLp:(L.set p X)[p]?=some X:=by rw [List.getElem?_set_self (by omega)]
   have hLl:((L.set p X).map (Value.int .i64)).length=V:=by rw [List.length_map,List.length_set,hL]
   have hcq:∀ w,RdC w b1 0 ((L.set p X).map (Value.int .i64))→RdC w b1 (0+(q:Int).toNat * 1) [.int .i64 (F q)]:=fun w h9=>rdAt h9 (by omega) hLq
   have hcp:∀ w,RdC w b1 0 ((L.set p X).map (Value.int .i64))→RdC w b1 (0+(p:Int).toNat * 1) [.int .i64 X]:=fun w h9=>rdAt h9 (by omega) hLp
   have hKb:=colZ_bd hc (show l.length≤32 by omega) (colT (atL (lens l) p) m)
   have hFq2:=hFb q
   refine rsH [row 3 1 (some ⟨b,0,none⟩) n n ((colT (atL (lens l) p) m).map (Value.int .i64)),lrec Lp (busy r5),blk q11 [.int .i64 ((p:Nat))] 3,blk p10 [.slice (some ⟨b1,0,none⟩) V V] 29,blk b1 ((L.set p X).map (Value.int .i64)) 3,blk pl [.slice A n ca] 23,blk pc c.cells 51] 1000 [0,1,2,4,5,6,7,3,8,9] ?_
   repeat' (first|refine d1 ?_|refine dd ?_|(show T _ (.ops _ (_::_)::_) _ _ _;first|refine T_val rfl (Val.load rfl (fun hg=>(fun w hw=>hcp w (rdAll w hw)))) rfl rfl rfl ?_|refine T_valC rfl (Val.load rfl (fun hg=>(fun w hw=>hcp w (rdAll w hw)))) rfl rfl rfl rfl rfl ?_)|(show T _ (.run _ _ (_::_) _ _::_) _ _ _;first|refine rc rfl rfl rfl rfl rfl rfl rfl (fun w hw=>cost19_spec c A (some ⟨b,0,none⟩) n ca n l (colT (atL (lens l) p) m) w (hg.cls hw) hc hbs (srcRw w hw) (colT_ok hvl (fun s hs=>by rw [hn];exact hno.lt m hmm s hs) hpo)) ?_|refine rv rfl rfl rfl (Val.load rfl (fun hg=>(fun w hw=>hcq w (rdAll w hw)))) rfl rfl rfl ?_)|fail)
   refine T_if rfl (fun h5=>?_) (fun h5=>?_)
   ·have hbs9:bst X (colZ c l (colT (atL (lens l) p) m)+F q)=colZ c l (colT (atL (lens l) p) m)+F q:=by unfold bst;rw [if_pos (by simpa using h5)]
    repeat' (first|refine d1 ?_|fail)
    have e9:((L.set p X).map (Value.int .i64)).set (0+(p:Int).toNat * 1) (.int .i64 (colZ c l (colT (atL (lens l) p) m)+F q))=(L.set p (colZ c l (colT (atL (lens l) p) m)+F q)).map (Value.int .i64):=by
     rw [show 0+(p:Int).toNat * 1=p by omega, ← List.map_set,List.set_set]
    rw [e9]
    refine T_next (blk q11 [.int .i64 ((p:Nat))] 3::blk p10 [.slice (some ⟨b1,0,none⟩) V V] 29::blk b1 ((L.set p (foldB (possM (lens l) (atL (lens l) p)) (mcV (colZ c l) (lens l) (mvL n) (atL (lens l) p)) ((posL (lens l) (atL (lens l) p) (mvL n)).take (jj+1)) (-1))).map (Value.int .i64)) 3::blk pl [.slice A n ca] 23::blk pc c.cells 51::dfrs Dl) rfl ?_
    rw [hXs,hbs9]
    exact Hle.tail _ _
   ·have hbs9:bst X (colZ c l (colT (atL (lens l) p) m)+F q)=X:=by unfold bst;rw [if_neg (by simpa using h5)]
    refine T_next (blk q11 [.int .i64 ((p:Nat))] 3::blk p10 [.slice (some ⟨b1,0,none⟩) V V] 29::blk b1 ((L.set p (foldB (possM (lens l) (atL (lens l) p)) (mcV (colZ c l) (lens l) (mvL n) (atL (lens l) p)) ((posL (lens l) (atL (lens l) p) (mvL n)).take (jj+1)) (-1))).map (Value.int .i64)) 3::blk pl [.slice A n ca] 23::blk pc c.cells 51::dfrs Dl) rfl ?_
    rw [hXs,hbs9]
    exact Hle.tail _ _
  ·rintro D Hn rfl
   have hFp:foldB (possM (lens l) (atL (lens l) p)) (mcV (colZ c l) (lens l) (mvL n) (atL (lens l) p)) ((posL (lens l) (atL (lens l) p) (mvL n)).take (posL (lens l) (atL (lens l) p) (mvL n)).length) (-1)=F p:=by rw [List.take_length,foldB_posL, ← hstep,hF]
   rw [hFp]
   show T (FC _ _ ((D::Dl).map mkD) _ _ _) _ _ _ (dfr D::blk g2 [.int .i64 (p:Nat)] 3::blk g3 [.slice Am (mvL n).length cm] 24::blk g1 [.pointer (some ⟨pg,0,none⟩)] 117::blk pg (gridL A n ca (lens l) 0) 123::fz pm::blk q11 [.int .i64 ((p:Nat))] 3::blk p10 [.slice (some ⟨b1,0,none⟩) V V] 29::blk b1 ((L.set p (F p)).map (Value.int .i64)) 3::blk pl [.slice A n ca] 23::blk pc c.cells 51::dfrs Dl)
   repeat' (first|refine d1 ?_|(show ∀ _:Nat,T _ _ _ _ _;intro _))
   rename_i n11
   show T _ (.mark _::_) _ _ _
   refine T_backD (p,n11,L.set p (F p),D::Dl) ⟨by dsimp only;omega,by dsimp only;rw [List.length_set,hL],fun q h5 h6=>?_⟩ (by dsimp only;omega) rfl (hG:=?_)
   ·dsimp only at h5 ⊢
    by_cases hqp:q=p
    ·rw [hqp,List.getElem?_set_self (by omega)]
    ·rw [List.getElem?_set_ne (by omega)];exact hLF q (by omega) h6
   ·dsimp only
    exact Hle.srtT (A:=[blk n11 [.int .i64 ((p:Int) - 1)] 3,dfr D,blk g2 [.int .i64 (p:Nat)] 3,blk g3 [.slice Am (mvL n).length cm] 24,blk g1 [.pointer (some ⟨pg,0,none⟩)] 117,blk pg (gridL A n ca (lens l) 0) 123,fz pm,blk q11 [.int .i64 ((p:Nat))] 3,blk p10 [.slice (some ⟨b1,0,none⟩) V V] 29,blk b1 ((L.set p (F p)).map (Value.int .i64)) 3,blk pl [.slice A n ca] 23,blk pc c.cells 51]) (K:=[blk n11 [.int .i64 ((p:Int) - 1)] 3,blk p10 [.slice (some ⟨b1,0,none⟩) V V] 29,blk b1 ((L.set p (F p)).map (Value.int .i64)) 3,fz pm,blk pg (gridL A n ca (lens l) 0) 123,blk pl [.slice A n ca] 23,blk pc c.cells 51,dfr D]) (dfrs Dl)
end Go.Proofs.YtefieebkankfoaaGreatDoor
namespace Go.Proofs.YtefieebkankfoaaGreatDoor
open Go.RowKit Go.Shelf

def sureG (all:Array Oper) (env:Env):GId→Bool
  | []=>true
  | (i,p)::G=>(match dstL all i with
    | some s=>(match lookE env s with
      | some (.bool q)=>(match q,p with
        | true,true=>true
        | false,false=>true
        | _,_=>false)
      | _=>false)
    | none=>false) && sureG all env G
theorem sureG_holds {N:FK} {all:Array Oper} {env:Env} {ec:EnvC} {a:Act} (ha:Agrees N all env ec a):∀ {G:GId},sureG all env G=true→Holds all a G
  | [],_=>Holds.nil _ _
  | (i,p)::G,h=>by
    unfold sureG at h
    rw [Bool.and_eq_true] at h
    obtain⟨h1,h2⟩:=h
    intro x hx
    rcases List.mem_cons.1 hx with rfl|hx
    · split at h1
      · rename_i s hs
        split at h1
        · rename_i q hv
          have hqp:q=p:=by cases q <;> cases p <;> first|rfl|cases h1
          subst hqp
          have ht:=ha.at_ s _ hv
          show yielded all a.tmps i=some q
          unfold yielded
          rw [← dstL_eq,hs]
          simp only [Option.bind_some]
          rw [Array.getD_eq_getD_getElem?] at ht
          cases hq:a.tmps[s]? with
          | none=>rw [hq] at ht;simp [undef] at ht
          | some u=>rw [hq] at ht;simp only [Option.getD_some] at ht;subst ht;rfl
        · cases h1
      · cases h1
    · exact sureG_holds ha h2 x hx
theorem T_known {C:Cx} {k:List It} {env:Env} {ec:EnvC} {H:List HA} (d:Nat) {G:GId} {v:Value} (hl:lookE ec d=some (G,v)) (hg:sureG (allOf k) env G=true) (h:T C k ((d,v)::env) ec H):T C k env ec H :=
 T.mk fun a w ha hw=>h.go a w ⟨ha.defers,ha.size,fun s u hs=>by
  rcases lookE_cons hs with⟨rfl,rfl⟩|⟨_,hs⟩
  ·exact ha.yes _ _ _ hl (sureG_holds ha hg)
  ·exact ha.at_ s u hs,ha.yes,ha.no⟩ hw
end Go.Proofs.YtefieebkankfoaaGreatDoor
namespace Go.Proofs.YtefieebkankfoaaGreatDoor
open Go.RowKit Go.Shelf Go.Proofs
set_option maxRecDepth 100000
set_option linter.unusedSectionVars false
set_option maxHeartbeats 1000000

def pg (p:List Int) (q:Nat):Int:=p.getD q 0
section
variable {K:List Int→Int} (hK:∀ x,0≤K x) {ls:List Nat} {n:Nat} {Ms:List (List Nat)} (hM:MvsOk n Ms) (hn:ls.length=n)
include hK hM hn
end
section
variable {K:List Int→Int} {ls:List Nat} {n:Nat} {Ms:List (List Nat)} (hM:MvsOk n Ms) (hn:ls.length=n) {p:List Int}
include hM hn
end
section
variable {K:List Int→Int} (hK:∀ x,0≤K x) {ls:List Nat} {n:Nat} {Ms:List (List Nat)} (hM:MvsOk n Ms) (hn:ls.length=n)
include hK hM hn
end
end Go.Proofs.YtefieebkankfoaaGreatDoor
namespace Go.Proofs.YtefieebkankfoaaGreatDoor
open Go.RowKit Go.Shelf Go.Proofs

end Go.Proofs.YtefieebkankfoaaGreatDoor
namespace Go.Proofs.YtefieebkankfoaaGreatDoor
open Go.RowKit Go.Shelf Go.Proofs

end Go.Proofs.YtefieebkankfoaaGreatDoor
namespace Go.Proofs.YtefieebkankfoaaGreatDoor
open Go.RowKit Go.Shelf Go.Proofs

end Go.Proofs.YtefieebkankfoaaGreatDoor
namespace Go.Proofs.YtefieebkankfoaaGreatDoor
open Go.RowKit Go.Shelf Go.Proofs
set_option maxRecDepth 100000

end Go.Proofs.YtefieebkankfoaaGreatDoor
namespace Go.Proofs.YtefieebkankfoaaGreatDoor
open Go.RowKit Go.Shelf Go.Proofs
set_option maxRecDepth 100000
set_option maxHeartbeats 1000000

end Go.Proofs.YtefieebkankfoaaGreatDoor
namespace Go.Proofs.YtefieebkankfoaaGreatDoor
open Go.RowKit Go.Shelf Go.Proofs
set_option maxRecDepth 100000
set_option maxHeartbeats 1000000

end Go.Proofs.YtefieebkankfoaaGreatDoor
namespace Go.Proofs.YtefieebkankfoaaGreatDoor
open Go.RowKit Go.Shelf Go.Proofs
set_option maxRecDepth 100000
set_option maxHeartbeats 1000000

end Go.Proofs.YtefieebkankfoaaGreatDoor
namespace Go.Proofs.YtefieebkankfoaaGreatDoor
open Go.RowKit Go.Shelf Go.Proofs
set_option maxRecDepth 100000
set_option maxHeartbeats 1000000

end Go.Proofs.YtefieebkankfoaaGreatDoor
namespace Go.Proofs.YtefieebkankfoaaGreatDoor
open Go.RowKit Go.Shelf Go.Proofs
set_option maxRecDepth 100000
set_option maxHeartbeats 1000000

end Go.Proofs.YtefieebkankfoaaGreatDoor
namespace Go.Proofs.YtefieebkankfoaaGreatDoor
open Go.RowKit Go.Shelf Go.Proofs
set_option maxRecDepth 100000
set_option maxHeartbeats 1000000

end Go.Proofs.YtefieebkankfoaaGreatDoor
namespace Go.Proofs.YtefieebkankfoaaGreatDoor
open Go.RowKit Go.Shelf

instance (priority:=low) SubP.same (H:List HA):SubP H H:=⟨id,fun i B h=>h,fun i j _ _ h=>h⟩
inductive Pq:List HA→List HA→Prop where
 | nil (H:List HA):Pq H []
 | same (H:List HA):Pq H H
 | cons {A:HA} {H H' K:List HA} (h:Rm A H H') (k:Pq H' K):Pq H (A::K)
 | drop {A:HA} {H K:List HA} (k:Pq H K):Pq (A::H) K
theorem Pq.spec {H K:List HA} (h:Pq H K):PickP H K:=by
 induction h with
 | nil H=>exact PickP.nil H
 | same H=>exact⟨id,fun i B h=>h,fun i j _ _ h=>h⟩
 | cons h _ ih=>exact PickP.cons _ _ _ _ (h:=h.spec) (k:=ih)
 | drop _ ih =>
  obtain⟨p,h1,h2⟩:=ih.at_
  exact⟨fun i=>p i+1,fun i B hi=>by simpa using h1 i B hi,fun i j hi hj hne=>by have:=h2 i j hi hj hne;dsimp only;omega⟩
theorem Hle.srtV {H K:List HA} (h:Pq H K:=by repeat' (first|exact Pq.nil _|with_reducible exact Pq.same _|apply Pq.cons|with_reducible exact Rm.here|((with_reducible apply Rm.b);rfl)|((with_reducible apply Rm.r) <;> rfl)|apply Rm.there|apply Pq.drop)):Hle H K:=Hle.any (h:=h.spec)
end Go.Proofs.YtefieebkankfoaaGreatDoor
namespace Go.Proofs.YtefieebkankfoaaGreatDoor
open Go.RowKit Go.Shelf Go.Proofs
set_option maxRecDepth 100000
set_option maxHeartbeats 1000000

end Go.Proofs.YtefieebkankfoaaGreatDoor
namespace Go.Proofs.YtefieebkankfoaaGreatDoor
open Go.RowKit Go.Shelf Go.Proofs
set_option maxRecDepth 100000
set_option maxHeartbeats 1000000

theorem InB.take:∀ {ls v:List Nat},InB ls v→∀ k,InB (ls.take k) (v.take k)
 | [],[],_,k=>by simp [InB]
 | n::ls,a::v,h,0=>trivial
 | n::ls,a::v,h,k+1=>⟨h.1,InB.take h.2 k⟩
 | [],a::v,h,_=>h.elim
 | n::ls,[],h,_=>h.elim
end Go.Proofs.YtefieebkankfoaaGreatDoor
namespace Go.Proofs.YtefieebkankfoaaGreatDoor
open Go.RowKit Go.Shelf Go.Proofs
set_option maxRecDepth 100000
set_option maxHeartbeats 1000000

def goodK (F:Nat→Int) (V:Nat) (L:List Int):Prop:=L.length=V∧∀ (q:Nat) (z:Int),L[q]?=some z→z = -1∨z=F q
theorem goodK.put {F:Nat→Int} {V:Nat} {L:List Int} (h:goodK F V L) (p:Nat):goodK F V (L.set p (F p)):=by
 refine ⟨by rw [List.length_set];exact h.1,fun q z hz=>?_⟩
 by_cases e:p=q
 ·subst e
  rw [List.getElem?_set] at hz
  simp only [if_true] at hz
  split at hz
  ·injection hz with hz;exact .inr hz.symm
  ·cases hz
 ·rw [List.getElem?_set_ne e] at hz
  exact h.2 q z hz
end Go.Proofs.YtefieebkankfoaaGreatDoor
namespace Go.Proofs.YtefieebkankfoaaGreatDoor
open Go.RowKit Go.Shelf Go.Proofs
set_option maxRecDepth 100000
set_option maxHeartbeats 1000000

end Go.Proofs.YtefieebkankfoaaGreatDoor
namespace Go.Proofs.YtefieebkankfoaaGreatDoor
open Go.RowKit Go.Shelf Go.Proofs
set_option maxRecDepth 100000
set_option maxHeartbeats 1000000

theorem sameStr22_spec (x y:Value) (p q:List ByteArray) (w:World) (hx:Rd (wr w) [x] [strsD p]) (hy:Rd (wr w) [y] [strsD q]) :
  Spec Tryz.prog 28 [x,y] w (fun v R=>v = .bool (decide (p=q))∧R=[]):=by
 obtain⟨A,ca,rfl,hnc,hnb,hl⟩:=hx.strs
 obtain⟨B,cb,rfl,hmc,hmb,hb⟩:=hy.strs
 refine spec_of sg Tryz.func28 rfl rfl rfl ?_
 repeat' (first|refine d1 ?_|fail)
 refine T_if rfl (fun h=>?_) (fun h=>?_)
 ·simp only [Bool.not_eq_true',decide_eq_false_iff_not] at h
  repeat' (first|refine d1 ?_|(show T _ (.code .ret::_) _ _ _;refine T_retV [] rfl (Hle.none _) ⟨?_,rfl⟩))
  rw [decide_eq_false (fun e=>h (by rw [e]))];rfl
 simp only [Bool.not_eq_false',decide_eq_true_eq] at h
 repeat' (first|refine d1 ?_|fail)
 refine T_loopX (fun k:Nat=>[(5, .int .i64 k)]) (fun _=>[]) (fun k=>k≤p.length∧∀ j,j<k→p[j]?=q[j]?) (fun k=>p.length - k) 0 ⟨by omega,fun j h=>by omega⟩ ?_
 rintro k ⟨hk,hok⟩
 repeat' (first|refine d1 ?_|fail)
 refine T_if rfl (fun h3=>?_) (fun h3=>?_)
 ·simp only [decide_eq_true_eq] at h3
  have hkn:k<p.length:=by omega
  have hkq:k<q.length:=by omega
  obtain⟨ba,oa,rfl⟩:=hl.base (by omega)
  obtain⟨bb,ob,rfl⟩:=hb.base (by omega)
  obtain⟨u,hu⟩:∃ u,p[k]?=some u:=⟨_,List.getElem?_eq_getElem hkn⟩
  obtain⟨v,hv⟩:∃ v,q[k]?=some v:=⟨_,List.getElem?_eq_getElem hkq⟩
  have hr1:RdC w ba (oa+(k:Int).toNat * 1) [.string u]:=(hl.get1 (by omega) (by rw [Int.toNat_natCast,List.getElem?_map,hu];rfl)).2
  have hr2:RdC w bb (ob+(k:Int).toNat * 1) [.string v]:=(hb.get1 (by omega) (by rw [Int.toNat_natCast,List.getElem?_map,hv];rfl)).2
  repeat' (first|refine dd ?_|fail)
  refine T_if rfl (fun h4=>?_) (fun h4=>?_)
  ·simp only [Bool.not_eq_true',decide_eq_false_iff_not] at h4
   repeat' (first|refine d1 ?_|(show T _ (.code .ret::_) _ _ _;refine T_retV [] rfl (Hle.none _) ⟨?_,rfl⟩))
   rw [decide_eq_false (fun e=>h4 (by rw [e,hv] at hu;exact (Option.some.inj hu).symm))];rfl
  ·simp only [Bool.not_eq_false',decide_eq_true_eq] at h4
   repeat' (first|refine d1 ?_|fail)
   refine T_backX (k+1) ⟨by omega,fun j hj=>?_⟩ (by omega)
   rcases Nat.lt_or_ge j k with h5|h5
   ·exact hok j h5
   ·rw [show j=k by omega,hu,hv,h4]
 ·simp only [decide_eq_false_iff_not] at h3
  repeat' (first|refine d1 ?_|(show T _ (.code .ret::_) _ _ _;refine T_retV [] rfl (Hle.none _) ⟨?_,rfl⟩))
  rw [decide_eq_true (list_eq_of (by omega) fun j hj=>hok j (by omega))];rfl
theorem sameCols22_spec (x y:Value) (a b:List (List Int)) (w:World) (hx:Rd (wr w) [x] [rowsD a]) (hy:Rd (wr w) [y] [rowsD b]) :
  Spec Tryz.prog 30 [x,y] w (fun v R=>v = .bool (decide (a=b))∧R=[]):=by
 obtain⟨A,ca,cs,rfl,ha1,ha2,hcs,hA,hrA⟩:=hx.tab
 obtain⟨B,cb,ds,rfl,hb1,hb2,hds,hB,hrB⟩:=hy.tab
 refine spec_of sg Tryz.func30 rfl rfl rfl ?_
 repeat' (first|refine d1 ?_|fail)
 refine T_if rfl (fun h=>?_) (fun h=>?_)
 ·simp only [Bool.not_eq_true',decide_eq_false_iff_not] at h
  repeat' (first|refine d1 ?_|(show T _ (.code .ret::_) _ _ _;refine T_retV [] rfl (Hle.none _) ⟨?_,rfl⟩))
  rw [decide_eq_false (fun e=>h (by rw [e]))];rfl
 simp only [Bool.not_eq_false',decide_eq_true_eq] at h
 repeat' (first|refine d1 ?_|fail)
 refine T_loopX (fun k:Nat=>[(5, .int .i64 k)]) (fun _=>[]) (fun k=>k≤a.length∧∀ j,j<k→a[j]?=b[j]?) (fun k=>a.length - k) 0 ⟨by omega,fun j h=>by omega⟩ ?_
 rintro k ⟨hk,hok⟩
 repeat' (first|refine d1 ?_|fail)
 refine T_if rfl (fun h3=>?_) (fun h3=>?_)
 ·simp only [decide_eq_true_eq] at h3
  obtain⟨b1,o1,rfl,hA2⟩:=hA (by omega)
  obtain⟨b2,o2,rfl,hB2⟩:=hB (by omega)
  obtain⟨p,hp⟩:∃ u,a[k]?=some u:=⟨_,List.getElem?_eq_getElem (by omega)⟩
  obtain⟨q,hq⟩:∃ v,b[k]?=some v:=⟨_,List.getElem?_eq_getElem (by omega)⟩
  obtain⟨A',capA,hcA,hlA,hmA,hA3⟩:=hrA.tabRow hp
  obtain⟨B',capB,hcB,hlB,hmB,hB3⟩:=hrB.tabRow hq
  have hr1:RdC w b1 (o1+(k:Int).toNat * 1) [.slice A' p.length capA]:=RdC.one (by rw [off1];exact hA2 k _ hcA)
  have hr2:RdC w b2 (o2+(k:Int).toNat * 1) [.slice B' q.length capB]:=RdC.one (by rw [off1];exact hB2 k _ hcB)
  repeat' (first|refine dd ?_|fail)
  refine T_if rfl (fun h4=>?_) (fun h4=>?_)
  ·simp only [Bool.not_eq_true',decide_eq_false_iff_not] at h4
   repeat' (first|refine d1 ?_|(show T _ (.code .ret::_) _ _ _;refine T_retV [] rfl (Hle.none _) ⟨?_,rfl⟩))
   rw [decide_eq_false (fun e=>h4 (by rw [e,hq] at hp;rw [Option.some.inj hp]))];rfl
  simp only [Bool.not_eq_false',decide_eq_true_eq] at h4
  repeat' (first|refine d1 ?_|fail)
  refine T_loopX (fun i:Nat=>[(6, .int .i64 i)]) (fun _=>[]) (fun i=>i≤p.length∧∀ j,j<i→p[j]?=q[j]?) (fun i=>p.length - i) 0 ⟨by omega,fun j h=>by omega⟩ ?_
  rintro i ⟨hi,hoki⟩
  repeat' (first|refine d1 ?_|fail)
  refine T_if rfl (fun h5=>?_) (fun h5=>?_)
  ·simp only [decide_eq_true_eq] at h5
   obtain⟨b3,o3,rfl,hA4⟩:=hA3 (by omega)
   obtain⟨b4,o4,rfl,hB4⟩:=hB3 (by omega)
   obtain⟨u,hu⟩:∃ u,p[i]?=some u:=⟨_,List.getElem?_eq_getElem (by omega)⟩
   obtain⟨v,hv⟩:∃ v,q[i]?=some v:=⟨_,List.getElem?_eq_getElem (by omega)⟩
   have hr3:RdC w b3 (o3+(i:Int).toNat * 1) [.int .i64 u]:=RdC.one (by rw [off1];exact hA4 i _ hu)
   have hr4:RdC w b4 (o4+(i:Int).toNat * 1) [.int .i64 v]:=RdC.one (by rw [off1];exact hB4 i _ hv)
   repeat' (first|refine dd ?_|fail)
   refine T_if rfl (fun h6=>?_) (fun h6=>?_)
   ·simp only [Bool.not_eq_true',decide_eq_false_iff_not] at h6
    repeat' (first|refine d1 ?_|(show T _ (.code .ret::_) _ _ _;refine T_retV [] rfl (Hle.none _) ⟨?_,rfl⟩))
    rw [decide_eq_false (fun e=>h6 (by rw [e,hq] at hp;rw [Option.some.inj hp,hu] at hv;exact Option.some.inj hv))];rfl
   ·simp only [Bool.not_eq_false',decide_eq_true_eq] at h6
    repeat' (first|refine d1 ?_|fail)
    refine T_backX (i+1) ⟨by omega,fun j hj=>?_⟩ (by omega)
    rcases Nat.lt_or_ge j i with h7|h7
    ·exact hoki j h7
    ·rw [show j=i by omega,hu,hv,h6]
  ·simp only [decide_eq_false_iff_not] at h5
   repeat' (first|refine d1 ?_|fail)
   refine T_backX (k+1) ⟨by omega,fun j hj=>?_⟩ (by omega)
   rcases Nat.lt_or_ge j k with h7|h7
   ·exact hok j h7
   ·rw [show j=k by omega,hp,hq,list_eq_of (by omega) fun j hj=>hoki j (by omega)]
 ·simp only [decide_eq_false_iff_not] at h3
  repeat' (first|refine d1 ?_|(show T _ (.code .ret::_) _ _ _;refine T_retV [] rfl (Hle.none _) ⟨?_,rfl⟩))
  rw [decide_eq_true (list_eq_of (by omega) fun j hj=>hok j (by omega))];rfl
theorem sameToks22_spec (A B:Option Addr) (ca cb:Nat) (a b:List TS) (w:World) (ha:Src w 1 A a.length (a.map TS.val)) (hal:TsOk w a) (han:a.length≤9223372036854775807) (hb:Src w 1 B b.length (b.map TS.val)) (hbl:TsOk w b) (hbn:b.length≤9223372036854775807) :
  Spec Tryz.prog 29 [.slice A a.length ca, .slice B b.length cb] w (fun v R=>v = .bool (decide (a.map TS.l=b.map TS.l))∧R=[]):=by
 refine spec_of sg Tryz.func29 rfl rfl rfl ?_
 repeat' (first|refine d1 ?_|fail)
 refine T_if rfl (fun h=>?_) (fun h=>?_)
 ·simp only [Bool.not_eq_true',decide_eq_false_iff_not] at h
  repeat' (first|refine d1 ?_|(show T _ (.code .ret::_) _ _ _;refine T_retV [] rfl (Hle.none _) ⟨?_,rfl⟩))
  rw [decide_eq_false (fun e=>h (by have:=congrArg List.length e;rw [List.length_map,List.length_map] at this;omega))];rfl
 simp only [Bool.not_eq_false',decide_eq_true_eq] at h
 repeat' (first|refine d1 ?_|fail)
 refine T_loopX (fun k:Nat=>[(5, .int .i64 k)]) (fun _=>[]) (fun k=>k≤a.length∧∀ j,j<k→(a.map TS.l)[j]?=(b.map TS.l)[j]?) (fun k=>a.length - k) 0 ⟨by omega,fun j h=>by omega⟩ ?_
 rintro k ⟨hk,hok⟩
 repeat' (first|refine d1 ?_|fail)
 refine T_if rfl (fun h3=>?_) (fun h3=>?_)
 ·simp only [decide_eq_true_eq] at h3
  obtain⟨b1,o1,rfl⟩:=ha.base (by omega)
  obtain⟨b2,o2,rfl⟩:=hb.base (by omega)
  obtain⟨p,hp⟩:∃ u,a[k]?=some u:=⟨_,List.getElem?_eq_getElem (by omega)⟩
  obtain⟨q,hq⟩:∃ v,b[k]?=some v:=⟨_,List.getElem?_eq_getElem (by omega)⟩
  have hp2:(a.map TS.l)[k]?=some p.l:=by rw [List.getElem?_map,hp];rfl
  have hq2:(b.map TS.l)[k]?=some q.l:=by rw [List.getElem?_map,hq];rfl
  have hpm:=List.mem_of_getElem? hp
  have hqm:=List.mem_of_getElem? hq
  have hpl:=hal.len p hpm
  have hql:=hbl.len q hqm
  have hpb:=hal.bd p hpm
  have hqb:=hbl.bd q hqm
  have hps:=hal.src p hpm
  have hqs:=hbl.src q hqm
  have hr1:RdC w b1 (o1+(k:Int).toNat * 1) [.slice p.A p.n p.cap]:=by
   have h9:=(ha.get1 (i:=k) (by omega) (by rw [List.getElem?_map,hp];rfl)).2
   rw [Nat.mul_one] at h9
   rw [off1]
   exact h9
  have hr2:RdC w b2 (o2+(k:Int).toNat * 1) [.slice q.A q.n q.cap]:=by
   have h9:=(hb.get1 (i:=k) (by omega) (by rw [List.getElem?_map,hq];rfl)).2
   rw [Nat.mul_one] at h9
   rw [off1]
   exact h9
  repeat' (first|refine dd ?_|fail)
  refine T_if rfl (fun h4=>?_) (fun h4=>?_)
  ·simp only [Bool.not_eq_true',decide_eq_false_iff_not] at h4
   repeat' (first|refine d1 ?_|(show T _ (.code .ret::_) _ _ _;refine T_retV [] rfl (Hle.none _) ⟨?_,rfl⟩))
   rw [decide_eq_false (fun e=>h4 (by rw [e,hq2] at hp2;rw [← hpl, ← hql,Option.some.inj hp2]))];rfl
  simp only [Bool.not_eq_false',decide_eq_true_eq] at h4
  repeat' (first|refine d1 ?_|fail)
  refine T_loopX (fun i:Nat=>[(6, .int .i64 i)]) (fun _=>[]) (fun i=>i≤p.n∧∀ j,j<i→p.l[j]?=q.l[j]?) (fun i=>p.n - i) 0 ⟨by omega,fun j h=>by omega⟩ ?_
  rintro i ⟨hi,hoki⟩
  repeat' (first|refine d1 ?_|fail)
  refine T_if rfl (fun h5=>?_) (fun h5=>?_)
  ·simp only [decide_eq_true_eq] at h5
   obtain⟨b3,o3,eA⟩:=hps.base (by omega)
   obtain⟨b4,o4,eB⟩:=hqs.base (by omega)
   obtain⟨u,hu⟩:∃ u,p.l[i]?=some u:=⟨_,List.getElem?_eq_getElem (by omega)⟩
   obtain⟨v,hv⟩:∃ v,q.l[i]?=some v:=⟨_,List.getElem?_eq_getElem (by omega)⟩
   have hr3:RdC w b3 (o3+(i:Int).toNat * 6) u.cells:=by have:=hps.getT (k:=i) (by omega) hu;rw [eA] at this;exact this
   have hr4:RdC w b4 (o4+(i:Int).toNat * 6) v.cells:=by have:=hqs.getT (k:=i) (by omega) hv;rw [eB] at this;exact this
   rw [eA] at hr1
   rw [eB] at hr2
   repeat' (first|refine dd ?_|(show T _ (.run _ _ (_::_) _ _::_) _ _ _;refine rv rfl rfl rfl (Val.eqS (r:=decide (u=v)) rfl (fun w=>eqTok u v w) Tryz.eqGuardType79) rfl rfl rfl ?_)|fail)
   refine T_if rfl (fun h6=>?_) (fun h6=>?_)
   ·have h6:decide (u=v)=false:=by simpa using h6
    rw [decide_eq_false_iff_not] at h6
    repeat' (first|refine d1 ?_|(show T _ (.code .ret::_) _ _ _;refine T_retV [] rfl (Hle.none _) ⟨?_,rfl⟩))
    rw [decide_eq_false (fun e=>h6 (by rw [e,hq2] at hp2;rw [← Option.some.inj hp2,hv] at hu;exact (Option.some.inj hu).symm))];rfl
   ·have h6:decide (u=v)=true:=by simpa using h6
    rw [decide_eq_true_eq] at h6
    repeat' (first|refine d1 ?_|fail)
    refine T_backX (i+1) ⟨by omega,fun j hj=>?_⟩ (by omega)
    rcases Nat.lt_or_ge j i with h7|h7
    ·exact hoki j h7
    ·rw [show j=i by omega,hu,hv,h6]
  ·simp only [decide_eq_false_iff_not] at h5
   repeat' (first|refine d1 ?_|fail)
   refine T_backX (k+1) ⟨by omega,fun j hj=>?_⟩ (by omega)
   rcases Nat.lt_or_ge j k with h7|h7
   ·exact hok j h7
   ·rw [show j=k by omega,hp2,hq2,list_eq_of (by omega) fun j hj=>hoki j (by omega)]
 ·simp only [decide_eq_false_iff_not] at h3
  repeat' (first|refine d1 ?_|(show T _ (.code .ret::_) _ _ _;refine T_retV [] rfl (Hle.none _) ⟨?_,rfl⟩))
  rw [decide_eq_true (list_eq_of (by rw [List.length_map,List.length_map];omega) fun j hj=>hok j (by rw [List.length_map] at hj;omega))];rfl
structure CoSm (w:World) (x:Co) (A1:Option Addr) (c1:Nat) (l:List TS) (A2:Option Addr) (c2:Nat) (y3:Value):Prop where
 s1:Rd (wr w) [.slice A1 x.sg.length c1] [strsD x.sg]
 s2:Src w 1 A2 l.length (l.map TS.val)
 b2:l.length≤9223372036854775807
 ok:TsOk w l
 m:l.map TS.l=x.m
 cols:Rd (wr w) [y3] [rowsD x.cols]
theorem CoSm.cls {w0 w:World} {H:List HA} {x:Co} {A1 A2:Option Addr} {c1 c2:Nat} {l:List TS} {y3:Value} (h:CoSm w0 x A1 c1 l A2 c2 y3) (hw:Cls w0 w H):CoSm w x A1 c1 l A2 c2 y3:=⟨h.s1.old hw,h.s2.old hw,h.b2,⟨fun t ht=>src_below (h.ok.src t ht) hw.below,h.ok.len,h.ok.bd⟩,h.m,h.cols.old hw⟩
theorem sameR22_spec (x y:Co) (A1 B1:Option Addr) (c1 d1':Nat) (l k:List TS) (A2 B2:Option Addr) (c2 d2:Nat) (y3 z3:Value) (w:World) (hx:CoSm w x A1 c1 l A2 c2 y3) (hy:CoSm w y B1 d1' k B2 d2 z3) :
  Spec Tryz.prog 10 [.agg (coL x.sec (.slice A1 x.sg.length c1) (.slice A2 l.length c2) y3).toArray, .agg (coL y.sec (.slice B1 y.sg.length d1') (.slice B2 k.length d2) z3).toArray] w (fun v R=>v = .bool (same22 x y)∧R=[]):=by
 refine spec_of sg Tryz.func10 rfl rfl rfl ?_
 refine T_op (OpT.box (cs:=coL x.sec (.slice A1 x.sg.length c1) (.slice A2 l.length c2) y3) rfl rfl rfl rfl rfl rfl rfl (fun pc=>?_))
 refine T_op (OpT.box (cs:=coL y.sec (.slice B1 y.sg.length d1') (.slice B2 k.length d2) z3) rfl rfl rfl rfl rfl rfl rfl (fun pd=>?_))
 have hmx:=hx.m
 have hmy:=hy.m
 repeat' (first|refine d1 ?_|(show T _ (.ops _ (_::_)::_) _ _ _;first|refine T_callC rfl rfl rfl rfl rfl rfl rfl (fun hg w hw=>sameStr22_spec _ _ x.sg y.sg w ((hx.cls hw).s1) ((hy.cls hw).s1)) ?_|refine T_callC rfl rfl rfl rfl rfl rfl rfl (fun hg w hw=>sameToks22_spec A2 B2 c2 d2 l k w ((hx.cls hw).s2) ((hx.cls hw).ok) hx.b2 ((hy.cls hw).s2) ((hy.cls hw).ok) hy.b2) ?_|refine T_callC rfl rfl rfl rfl rfl rfl rfl (fun hg w hw=>sameCols22_spec _ _ x.cols y.cols w ((hx.cls hw).cols) ((hy.cls hw).cols)) ?_)|(show T _ (.code .ret::_) _ _ _;refine T_retV [] rfl (Hle.none _) ⟨congrArg Value.bool ?_,rfl⟩))
 rw [hmx,hmy]
 unfold same22
 cases decide (x.sec=y.sec) <;> cases decide (x.sg=y.sg) <;> cases decide (x.m=y.m) <;> rfl
end Go.Proofs.YtefieebkankfoaaGreatDoor
namespace Go.Proofs.YtefieebkankfoaaGreatDoor
open Go.RowKit Go.Shelf Go.Proofs
set_option maxRecDepth 100000
set_option maxHeartbeats 1000000

theorem eqFuncT_spec (A B:Option Addr) (ca cb:Nat) (a b:List TS) (w:World) (ha:Src w 1 A a.length (a.map TS.val)) (hal:TsOk w a) (han:a.length≤9223372036854775807) (hb:Src w 1 B b.length (b.map TS.val)) (hbl:TsOk w b) (hbn:b.length≤9223372036854775807) :
  Spec Tryz.prog 52 [.slice A a.length ca, .slice B b.length cb, .func (.func 53) #[] #[]] w (fun v R=>v = .bool (decide (a.map TS.l=b.map TS.l))∧R=[]):=by
 refine spec_of sg Tryz.func52 rfl rfl rfl ?_
 repeat' (first|refine d1 ?_|fail)
 refine T_if rfl (fun h=>?_) (fun h=>?_)
 ·simp only [Bool.not_eq_true',decide_eq_false_iff_not] at h
  repeat' (first|refine d1 ?_|(show T _ (.code .ret::_) _ _ _;refine T_retV [] rfl (Hle.none _) ⟨?_,rfl⟩))
  rw [decide_eq_false (fun e=>h (by have:=congrArg List.length e;rw [List.length_map,List.length_map] at this;omega))];rfl
 simp only [Bool.not_eq_false',decide_eq_true_eq] at h
 repeat' (first|refine d1 ?_|fail)
 refine T_loopX (fun k:Nat=>[(17, .int .i64 k)]) (fun _=>[]) (fun k=>k≤a.length∧∀ j,j<k→(a.map TS.l)[j]?=(b.map TS.l)[j]?) (fun k=>a.length - k) 0 ⟨by omega,fun j h=>by omega⟩ ?_
 rintro k ⟨hk,hok⟩
 repeat' (first|refine d1 ?_|fail)
 refine T_if rfl (fun h3=>?_) (fun h3=>?_)
 ·simp only [decide_eq_true_eq] at h3
  obtain⟨b1,o1,rfl⟩:=ha.base (by omega)
  obtain⟨b2,o2,rfl⟩:=hb.base (by omega)
  obtain⟨p,hp⟩:∃ u,a[k]?=some u:=⟨_,List.getElem?_eq_getElem (by omega)⟩
  obtain⟨q,hq⟩:∃ v,b[k]?=some v:=⟨_,List.getElem?_eq_getElem (by omega)⟩
  have hp2:(a.map TS.l)[k]?=some p.l:=by rw [List.getElem?_map,hp];rfl
  have hq2:(b.map TS.l)[k]?=some q.l:=by rw [List.getElem?_map,hq];rfl
  have hpm:=List.mem_of_getElem? hp
  have hqm:=List.mem_of_getElem? hq
  have hpl:=hal.len p hpm
  have hql:=hbl.len q hqm
  have hpb:=hal.bd p hpm
  have hqb:=hbl.bd q hqm
  have hps:=hal.src p hpm
  have hqs:=hbl.src q hqm
  have hr1:RdC w b1 (o1+(k:Int).toNat * 1) [.slice p.A p.n p.cap]:=by
   have h9:=(ha.get1 (i:=k) (by omega) (by rw [List.getElem?_map,hp];rfl)).2
   rw [Nat.mul_one] at h9
   rw [off1]
   exact h9
  have hr2:RdC w b2 (o2+(k:Int).toNat * 1) [.slice q.A q.n q.cap]:=by
   have h9:=(hb.get1 (i:=k) (by omega) (by rw [List.getElem?_map,hq];rfl)).2
   rw [Nat.mul_one] at h9
   rw [off1]
   exact h9
  repeat' (first|refine d1 ?_|(show T _ (.ops _ (_::_)::_) _ _ _;refine T_call rfl rfl rfl rfl rfl (fun w hw=>equalTok_spec p.A q.A p.n q.n p.cap q.cap p.l q.l w (rdSrc hps w hw) hpl hpb (rdSrc hqs w hw) hql hqb) ?_)|fail)
  refine T_if rfl (fun h4=>?_) (fun h4=>?_)
  ·simp only [Bool.not_eq_true',decide_eq_false_iff_not] at h4
   repeat' (first|refine d1 ?_|(show T _ (.code .ret::_) _ _ _;refine T_retV [] rfl (Hle.none _) ⟨?_,rfl⟩))
   rw [decide_eq_false (fun e=>h4 (by rw [e,hq2] at hp2;rw [Option.some.inj hp2]))];rfl
  simp only [Bool.not_eq_false',decide_eq_true_eq] at h4
  repeat' (first|refine d1 ?_|fail)
  refine T_backX (k+1) ⟨by omega,fun j hj=>?_⟩ (by omega)
  rcases Nat.lt_or_ge j k with h7|h7
  ·exact hok j h7
  ·rw [show j=k by omega,hp2,hq2,h4]
 ·simp only [decide_eq_false_iff_not] at h3
  repeat' (first|refine d1 ?_|(show T _ (.code .ret::_) _ _ _;refine T_retV [] rfl (Hle.none _) ⟨?_,rfl⟩))
  rw [decide_eq_true (list_eq_of (by rw [List.length_map,List.length_map];omega) fun j hj=>hok j (by rw [List.length_map] at hj;omega))];rfl
theorem eqFuncC_spec (x y:Value) (a b:List (List Int)) (w:World) (hx:Rd (wr w) [x] [rowsD a]) (hy:Rd (wr w) [y] [rowsD b]) :
  Spec Tryz.prog 54 [x,y, .func (.func 55) #[] #[]] w (fun v R=>v = .bool (decide (a=b))∧R=[]):=by
 obtain⟨A,ca,cs,rfl,ha1,ha2,hcs,hA,hrA⟩:=hx.tab
 obtain⟨B,cb,ds,rfl,hb1,hb2,hds,hB,hrB⟩:=hy.tab
 refine spec_of sg Tryz.func54 rfl rfl rfl ?_
 repeat' (first|refine d1 ?_|fail)
 refine T_if rfl (fun h=>?_) (fun h=>?_)
 ·simp only [Bool.not_eq_true',decide_eq_false_iff_not] at h
  repeat' (first|refine d1 ?_|(show T _ (.code .ret::_) _ _ _;refine T_retV [] rfl (Hle.none _) ⟨?_,rfl⟩))
  rw [decide_eq_false (fun e=>h (by rw [e]))];rfl
 simp only [Bool.not_eq_false',decide_eq_true_eq] at h
 repeat' (first|refine d1 ?_|fail)
 refine T_loopX (fun k:Nat=>[(17, .int .i64 k)]) (fun _=>[]) (fun k=>k≤a.length∧∀ j,j<k→a[j]?=b[j]?) (fun k=>a.length - k) 0 ⟨by omega,fun j h=>by omega⟩ ?_
 rintro k ⟨hk,hok⟩
 repeat' (first|refine d1 ?_|fail)
 refine T_if rfl (fun h3=>?_) (fun h3=>?_)
 ·simp only [decide_eq_true_eq] at h3
  obtain⟨b1,o1,rfl,hA2⟩:=hA (by omega)
  obtain⟨b2,o2,rfl,hB2⟩:=hB (by omega)
  obtain⟨p,hp⟩:∃ u,a[k]?=some u:=⟨_,List.getElem?_eq_getElem (by omega)⟩
  obtain⟨q,hq⟩:∃ v,b[k]?=some v:=⟨_,List.getElem?_eq_getElem (by omega)⟩
  obtain⟨A',capA,hcA,hlA,hmA,hA3⟩:=hrA.tabRow hp
  obtain⟨B',capB,hcB,hlB,hmB,hB3⟩:=hrB.tabRow hq
  have hr1:RdC w b1 (o1+(k:Int).toNat * 1) [.slice A' p.length capA]:=RdC.one (by rw [off1];exact hA2 k _ hcA)
  have hr2:RdC w b2 (o2+(k:Int).toNat * 1) [.slice B' q.length capB]:=RdC.one (by rw [off1];exact hB2 k _ hcB)
  have hq1:Rd (wr w) [.slice A' p.length capA] [intsD p]:=by
   obtain⟨u,hu,hru⟩:=hrA.get (i:=k) (d:=intsD p) (by rw [List.getElem?_map,hp];rfl)
   rw [hcA] at hu
   cases hu
   exact hru
  have hq2:Rd (wr w) [.slice B' q.length capB] [intsD q]:=by
   obtain⟨u,hu,hru⟩:=hrB.get (i:=k) (d:=intsD q) (by rw [List.getElem?_map,hq];rfl)
   rw [hcB] at hu
   cases hu
   exact hru
  repeat' (first|refine d1 ?_|(show T _ (.ops _ (_::_)::_) _ _ _;refine T_call rfl rfl rfl rfl rfl (fun w hw=>equalI_spec _ _ p q w (hq1.old hw) (hq2.old hw)) ?_)|fail)
  refine T_if rfl (fun h4=>?_) (fun h4=>?_)
  ·simp only [Bool.not_eq_true',decide_eq_false_iff_not] at h4
   repeat' (first|refine d1 ?_|(show T _ (.code .ret::_) _ _ _;refine T_retV [] rfl (Hle.none _) ⟨?_,rfl⟩))
   rw [decide_eq_false (fun e=>h4 (by rw [e,hq] at hp;exact (Option.some.inj hp).symm))];rfl
  simp only [Bool.not_eq_false',decide_eq_true_eq] at h4
  repeat' (first|refine d1 ?_|fail)
  refine T_backX (k+1) ⟨by omega,fun j hj=>?_⟩ (by omega)
  rcases Nat.lt_or_ge j k with h7|h7
  ·exact hok j h7
  ·rw [show j=k by omega,hp,hq,h4]
 ·simp only [decide_eq_false_iff_not] at h3
  repeat' (first|refine d1 ?_|(show T _ (.code .ret::_) _ _ _;refine T_retV [] rfl (Hle.none _) ⟨?_,rfl⟩))
  rw [decide_eq_true (list_eq_of (by omega) fun j hj=>hok j (by omega))];rfl
theorem sameP22_spec (x y:Co) (A1 B1:Option Addr) (c1 d1':Nat) (l k:List TS) (A2 B2:Option Addr) (c2 d2:Nat) (y3 z3:Value) (w:World) (hx:CoSm w x A1 c1 l A2 c2 y3) (hy:CoSm w y B1 d1' k B2 d2 z3) :
  Spec Tryz.prog 25 [.agg (coL x.sec (.slice A1 x.sg.length c1) (.slice A2 l.length c2) y3).toArray, .agg (coL y.sec (.slice B1 y.sg.length d1') (.slice B2 k.length d2) z3).toArray] w (fun v R=>v = .bool (same22 x y)∧R=[]):=by
 refine spec_of sg Tryz.func25 rfl rfl rfl ?_
 refine T_op (OpT.box (cs:=coL x.sec (.slice A1 x.sg.length c1) (.slice A2 l.length c2) y3) rfl rfl rfl rfl rfl rfl rfl (fun pc=>?_))
 refine T_op (OpT.box (cs:=coL y.sec (.slice B1 y.sg.length d1') (.slice B2 k.length d2) z3) rfl rfl rfl rfl rfl rfl rfl (fun pd=>?_))
 have hmx:=hx.m
 have hmy:=hy.m
 repeat' (first|refine d1 ?_|(show T _ (.ops _ (_::_)::_) _ _ _;first|refine T_callC rfl rfl rfl rfl rfl rfl rfl (fun hg w hw=>equalStr_spec _ _ x.sg y.sg w ((hx.cls hw).s1) ((hy.cls hw).s1)) ?_|refine T_callC rfl rfl rfl rfl rfl rfl rfl (fun hg w hw=>eqFuncT_spec A2 B2 c2 d2 l k w ((hx.cls hw).s2) ((hx.cls hw).ok) hx.b2 ((hy.cls hw).s2) ((hy.cls hw).ok) hy.b2) ?_|refine T_callC rfl rfl rfl rfl rfl rfl rfl (fun hg w hw=>eqFuncC_spec _ _ x.cols y.cols w ((hx.cls hw).cols) ((hy.cls hw).cols)) ?_)|(show T _ (.code .ret::_) _ _ _;refine T_retV [] rfl (Hle.none _) ⟨congrArg Value.bool ?_,rfl⟩))
 rw [hmx,hmy]
 unfold same22
 cases decide (x.sec=y.sec) <;> cases decide (x.sg=y.sg) <;> cases decide (x.m=y.m) <;> rfl
end Go.Proofs.YtefieebkankfoaaGreatDoor
namespace Go.Proofs.YtefieebkankfoaaGreatDoor
open Go.RowKit Go.Shelf Go.Proofs
set_option maxRecDepth 100000
set_option maxHeartbeats 1000000

theorem co_join {p:Frag} {y3:Value} {cols:List (List Int)} {A1 A2:Option Addr} {c1 c2 n m:Nat} {sg':List ByteArray} {cs:List Value} {H:List HA} (hp:Rd (fr p) [y3] [rowsD cols]) :
  Hle (fz p::row 47 1 A2 c2 m cs::row 9 1 A1 c1 n (sg'.map Value.string)::H) (dat [.slice A1 n c1, .slice A2 m c2,y3] [strsD sg', .s 1 (cs.map .v),rowsD cols]::H):=by
 refine (hle_map (fz_dat hp)).trans ?_
 refine (Hle.perm (List.Perm.swap _ _ _)).trans ?_
 refine dat_rowV.trans ?_
 refine (Hle.perm (List.Perm.swap _ _ _)).trans ?_
 refine dat_join.trans ?_
 refine (Hle.perm (List.Perm.swap _ _ _)).trans ?_
 refine dat_rowV.trans ?_
 refine (Hle.perm (List.Perm.swap _ _ _)).trans ?_
 exact dat_join
theorem co_nil (H:List HA):Hle H (dat [.slice none 0 0, .slice none 0 0, .slice none 0 0] [strsD [], .s 1 (([]:List Value).map .v),rowsD []]::H) :=
 hle_unit (Rd.s none 0 0 1 [] rfl (Nat.le_refl _) (by omega) (fun h=>absurd h (by omega)) .nil (Rd.s none 0 0 1 [] rfl (Nat.le_refl _) (by omega) (fun h=>absurd h (by omega)) .nil (Rd.s none 0 0 1 [] rfl (Nat.le_refl _) (by omega) (fun h=>absurd h (by omega)) .nil .nil)))
theorem co_nil1 (H:List HA):Hle H [dat [.slice none 0 0, .slice none 0 0, .slice none 0 0] [strsD [], .s 1 (([]:List Value).map .v),rowsD []]]:=(co_nil H).trans (Hle.nth 0 rfl)
def resP22 (x:Co) (l:List TS) (e:Int) (v:Value) (R:List HA):Prop :=
 ∃ y:(Option Addr × Nat) × (Option Addr × Nat) × Value,True∧v = .tuple #[.agg (coL x.sec (.slice y.1.1 x.sg.length y.1.2) (.slice y.2.1.1 l.length y.2.1.2) y.2.2).toArray, .int .i64 e]∧R=[dat [.slice y.1.1 x.sg.length y.1.2, .slice y.2.1.1 l.length y.2.1.2,y.2.2] [strsD x.sg, .s 1 ((l.map TS.val).map .v),rowsD x.cols]]
theorem ofP22 {p:Frag} {x:Co} {l:List TS} {A1 A2:Option Addr} {c1 c2:Nat} {y3:Value} (hp:Rd (fr p) [.slice A1 x.sg.length c1, .slice A2 l.length c2,y3] [strsD x.sg, .s 1 ((l.map TS.val).map .v),rowsD x.cols]) (hm:l.map TS.l=x.m)
  {w0 w:World} {H:List HA} [FocusZ H p] (hw:Cls w0 w H) (hl:TsOk w l):CoSm w x A1 c1 l A2 c2 y3:=by
 obtain⟨k1,k2⟩:=hp.cons_inv
 obtain⟨k2,k3⟩:=k2.cons_inv
 obtain⟨A,n,cap,e,g1,g2,g3,g4⟩:=(k2.own hw).srcV
 cases e
 exact⟨k1.own hw,g4,by omega,hl,hm,k3.own hw⟩
theorem vol_7:∀ {l:List TS},(∀ t∈l,t.n≤6)→volL (lens l)≤7 ^ l.length
 | [],_=>Nat.le_refl _
 | t::l,h=>by
  have h1:=vol_7 (l:=l) fun x hx=>h x (List.mem_cons_of_mem _ hx)
  have h2:=h t (List.mem_cons_self ..)
  show (t.n+1) * volL (lens l)≤7 ^ (l.length+1)
  rw [Nat.pow_succ,Nat.mul_comm]
  exact Nat.mul_le_mul h1 (by omega)
theorem size22_spec (A:Option Addr) (n ca:Nat) (l:List TS) (w:World) (hg:Grp w A n l) (h1:1≤n) (h6:n≤6) (ht:∀ t∈l,t.n≤6) :
  Spec Tryz.prog 47 [.slice A n ca] w (fun v R=>v = .tuple #[.int .i64 (volL (lens l):Nat), .int .i64 0]∧R=[]):=by
 have hn:=hg.hn
 have hv:=vol_7 ht
 have hv2:7 ^ l.length≤7 ^ 6:=Nat.pow_le_pow_right (by omega) (by omega)
 have ec:capV (volL (lens l)) 1073741824=volL (lens l):=if_pos (by omega)
 refine spec_of sg Tryz.func47 rfl rfl rfl ?_
 repeat' (first|refine d1 ?_|(show T _ (.ops _ (_::_)::_) _ _ _;refine T_call rfl rfl rfl rfl rfl (fun w hw=>srcs19_spec A n ca l w (hg.cls hw)) ?_)|fail)
 rw [if_neg (by omega)]
 refine T_if rfl (fun h=>by exfalso;simp at h) (fun _=>?_)
 repeat' (first|refine d1 ?_|(show T _ (.ops _ (_::_)::_) _ _ _;refine T_call rfl rfl rfl rfl rfl (fun w hw=>size19_spec A n ca l 1073741824 w (hg.cls hw) ⟨by omega,by omega⟩) ?_)|fail)
 rw [ec]
 refine T_if rfl (fun h=>by exfalso;simp at h;omega) (fun _=>?_)
 repeat' (first|refine d1 ?_|(show T _ (.code .ret::_) _ _ _;refine T_retV [] rfl (Hle.none _) ⟨rfl,rfl⟩))
noncomputable def colsC22 (c:Costs) (l:List TS):List (List Int):=if l.length≤4 then alnW c l else alnP c l
noncomputable def made22 (c:Costs) (sec:ByteArray) (sg':List ByteArray) (l:List TS):Co × Int :=
 if costE c≠0 then (co0,1) else if head22 sec sg' (l.map TS.l)≠0 then (co0,head22 sec sg' (l.map TS.l)) else (⟨sec,sg',l.map TS.l,colsC22 c l⟩,0)
noncomputable def toks22 (c:Costs) (sec:ByteArray) (sg':List ByteArray) (l:List TS):List TS:=if costE c≠0 then [] else if head22 sec sg' (l.map TS.l)≠0 then [] else l
theorem made22_facts {c:Costs} {sec:ByteArray} {sg':List ByteArray} {l:List TS} (hc:costE c=0) (hh:head22 sec sg' (l.map TS.l)=0) (hln:∀ t∈l,t.l.length=t.n) (h6:∀ t∈l,t.n≤6) :
  1≤l.length∧l.length=sg'.length∧ck21 c l=0∧(l.length≤4→aln19 c l=(alnW c l,lstV c l,0))∧alnA c l=(alnP c l,0)∧ColsOk (lens l) (colsC22 c l)∧made22 c sec sg' l=(⟨sec,sg',l.map TS.l,colsC22 c l⟩,0)∧toks22 c sec sg' l=l:=by
 obtain⟨g1,g2,g3,g4,g5,g6,g7⟩:=head22_iff.1 hh
 have hl:l.length=sg'.length:=by rw [← g6,List.length_map]
 have hbs:badS l=false:=List.any_eq_false.2 fun t ht=>by rw [(g7 t.l (List.mem_map.2 ⟨t,ht,rfl⟩)).2];simp
 have hck:ck21 c l=0:=if_pos ⟨hc,hbs⟩
 have hus:usV c l=0:=by unfold usV;rw [if_neg (by omega),hck]
 have hv:=vol_7 h6
 refine ⟨by omega,hl,hck,fun h4=>?_,if_pos hck,?_,?_,?_⟩
 ·have hv2:7 ^ l.length≤7 ^ 4:=Nat.pow_le_pow_right (by omega) h4
  unfold aln19
  rw [if_neg (by rw [hus];simp),if_neg (by omega)]
 ·unfold colsC22
  split
  ·exact (alnW_ok hc (by omega) (by omega)).1
  ·exact alnP_ok hck hln fun t ht=>by have:=h6 t ht;have:=hln t ht;omega
 ·unfold made22
  rw [if_neg (by rw [hc];simp),if_neg (by rw [hh];simp)]
 ·unfold toks22
  rw [if_neg (by rw [hc];simp),if_neg (by rw [hh];simp)]
theorem collateP22_spec (c:Costs) (sec:ByteArray) (sg':List ByteArray) (A1:Option Addr) (c1:Nat) (l:List TS) (A2:Option Addr) (c2:Nat) (w:World) (hh:HdAt w sec sg' A1 c1 l A2 c2) (hl6:l.length≤6∨32<l.length) :
  Spec Tryz.prog 23 [c.val, .string sec, .slice A1 sg'.length c1, .slice A2 l.length c2] w (resP22 (made22 c sec sg' l).1 (toks22 c sec sg' l) (made22 c sec sg' l).2):=by
 refine spec_of sg Tryz.func23 rfl rfl rfl ?_
 refine T_op (OpT.box (cs:=c.cells) rfl rfl rfl rfl rfl rfl rfl (fun pc=>?_))
 repeat' (first|refine d1 ?_|(show T _ (.ops _ (_::_)::_) _ _ _;refine T_call rfl rfl rfl rfl rfl (fun w hw=>costPrg_spec c w) ?_)|(show ∀ _:Nat,T _ _ _ _ _;intro _))
 rename_i pr
 refine T_if rfl (fun h=>?_) (fun h=>?_)
 ·have hc:costE c≠0:=by simpa using h
  have e1:made22 c sec sg' l=(co0,1):=if_pos hc
  have e2:toks22 c sec sg' l=[]:=if_pos hc
  rw [e1,e2]
  repeat' (first|refine d1 ?_|fail)
  exact T_retM (vs:=[.agg (coL ByteArray.empty (.slice none 0 0) (.slice none 0 0) (.slice none 0 0)).toArray, .int .i64 1]) _ ⟨⟨pr,_,coL ByteArray.empty (.slice none 0 0) (.slice none 0 0) (.slice none 0 0),rfl,rfl,rfl,rfl,(fun h=>by cases h),rfl,rdAll⟩,rfl,trivial⟩ (co_nil1 _) ⟨((none,0),(none,0), .slice none 0 0),trivial,rfl,rfl⟩
 have hc:costE c=0:=by simpa using h
 repeat' (first|refine d1 ?_|(show T _ (.ops _ (_::_)::_) _ _ _;refine T_call rfl rfl rfl rfl rfl (fun w hw=>sources22_spec sec sg' A1 c1 l A2 c2 w (hh.cls hw)) ?_)|fail)
 refine T_if rfl (fun h2=>?_) (fun h2=>?_)
 ·have hd:head22 sec sg' (l.map TS.l)≠0:=by simpa using h2
  have e1:made22 c sec sg' l=(co0,head22 sec sg' (l.map TS.l)):=by unfold made22;rw [if_neg (by rw [hc];simp),if_pos hd]
  have e2:toks22 c sec sg' l=[]:=by unfold toks22;rw [if_neg (by rw [hc];simp),if_pos hd]
  rw [e1,e2]
  repeat' (first|refine d1 ?_|fail)
  exact T_retM (vs:=[.agg (coL ByteArray.empty (.slice none 0 0) (.slice none 0 0) (.slice none 0 0)).toArray, .int .i64 (head22 sec sg' (l.map TS.l))]) _ ⟨⟨pr,_,coL ByteArray.empty (.slice none 0 0) (.slice none 0 0) (.slice none 0 0),rfl,rfl,rfl,rfl,(fun h=>by cases h),rfl,rdAll⟩,rfl,trivial⟩ (co_nil1 _) ⟨((none,0),(none,0), .slice none 0 0),trivial,rfl,rfl⟩
 have hd:head22 sec sg' (l.map TS.l)=0:=by simpa using h2
 obtain⟨f1,f2,f3,f4,f5,f6,f7,f8⟩:=made22_facts hc hd hh.ok.len (fun t ht=>(hh.tok t ht).1)
 have hle:=(head22_iff.1 hd).le
 have hg:Grp w A2 l.length l:=hh.grp (by omega)
 have h6:l.length≤6:=by omega
 have ht6:∀ t∈l,t.n≤6:=fun t ht=>(hh.tok t ht).1
 have hv:=vol_7 ht6
 rw [f7,f8]
 repeat' (first|refine d1 ?_|(show T _ (.ops _ (_::_)::_) _ _ _;first|refine T_callE rfl rfl rfl rfl rfl (fun w hw=>cloneStr_spec A1 sg'.length c1 sg' w (rdSrc hh.s1 w hw) (by omega)) (fun x1 _=>?_)|refine T_callE rfl rfl rfl rfl rfl (fun w hw=>cloneS_spec A2 l.length c2 l w (rdSrc hh.s2 w hw) (by omega)) (fun x2 _=>?_)|refine T_call rfl rfl rfl rfl rfl (fun w hw=>size22_spec A2 l.length c2 l w (hg.cls hw) f1 h6 ht6) ?_)|(show ∀ _:Nat,T _ _ _ _ _;intro _))
 rename_i pt
 refine T_if rfl (fun h4=>?_) (fun h4=>?_)
 ·have hb:l.length≤4:=by simp only [Bool.and_eq_true,decide_eq_true_eq] at h4;omega
  have eC:colsC22 c l=alnW c l:=if_pos hb
  rw [eC]
  repeat' (first|refine d1 ?_|(show T _ (.ops _ (_::_)::_) _ _ _;refine T_op (OpT.call rfl rfl rfl rfl rfl (fun w hw=>align19_spec c A2 l.length c2 l w (hg.cls hw)) ?_))|fail)
  rintro v R ⟨y,-,rfl,rfl⟩
  rw [f4 hb]
  refine T_le (H':=[dat [y] [rowsD (alnW c l)],blk pt (coL sec (.slice x1.1 sg'.length x1.2) (.slice x2.1 l.length x2.2) (.slice none 0 0)) 26,row 47 1 x2.1 x2.2 l.length (l.map TS.val),row 9 1 x1.1 x1.2 sg'.length (sg'.map Value.string),blk pr (coL ByteArray.empty (.slice none 0 0) (.slice none 0 0) (.slice none 0 0)) 26,blk pc c.cells 51]) (Hle.refl _) ?_
  refine T_open fun p hp=>?_
  obtain⟨Ay,cy,csy,rfl,-⟩:=hp.tab
  refine T_le (H':=[blk pt (coL sec (.slice x1.1 sg'.length x1.2) (.slice x2.1 l.length x2.2) (.slice none 0 0)) 26,blk pr (coL ByteArray.empty (.slice none 0 0) (.slice none 0 0) (.slice none 0 0)) 26,fz p,row 47 1 x2.1 x2.2 l.length (l.map TS.val),row 9 1 x1.1 x1.2 sg'.length (sg'.map Value.string)]) Hle.srt ?_
  repeat' (first|refine d1 ?_|fail)
  refine T_if rfl (fun h5=>by exfalso;simp at h5) (fun _=>?_)
  repeat' (first|refine d1 ?_|fail)
  exact T_retM (vs:=[.agg (coL sec (.slice x1.1 sg'.length x1.2) (.slice x2.1 l.length x2.2) (.slice Ay (alnW c l).length cy)).toArray, .int .i64 0]) _ ⟨⟨pr,_,coL sec (.slice x1.1 sg'.length x1.2) (.slice x2.1 l.length x2.2) (.slice Ay (alnW c l).length cy),rfl,rfl,rfl,rfl,(fun h=>by cases h),rfl,rdAll⟩,rfl,trivial⟩ (((Hle.tail _ _).trans (Hle.tail _ _)).trans ((co_join hp).trans (Hle.nth 0 rfl))) ⟨(x1,x2, .slice Ay (alnW c l).length cy),trivial,rfl,rfl⟩
 ·have hb:¬ l.length≤4:=by intro h9;have hv2:7 ^ l.length≤7 ^ 4:=Nat.pow_le_pow_right (by omega) h9;exact absurd h4 (by simp;omega)
  have eC:colsC22 c l=alnP c l:=if_neg hb
  rw [eC]
  repeat' (first|refine d1 ?_|(show T _ (.ops _ (_::_)::_) _ _ _;refine T_op (OpT.call rfl rfl rfl rfl rfl (fun w hw=>alignPrg21_spec c A2 l.length c2 l w (hg.cls hw) (fun t ht=>by have:=ht6 t ht;omega)) ?_))|fail)
  rintro v R ⟨y,-,rfl,rfl⟩
  rw [f5]
  refine T_le (H':=[dat [y] [rowsD (alnP c l)],blk pt (coL sec (.slice x1.1 sg'.length x1.2) (.slice x2.1 l.length x2.2) (.slice none 0 0)) 26,row 47 1 x2.1 x2.2 l.length (l.map TS.val),row 9 1 x1.1 x1.2 sg'.length (sg'.map Value.string),blk pr (coL ByteArray.empty (.slice none 0 0) (.slice none 0 0) (.slice none 0 0)) 26,blk pc c.cells 51]) (Hle.refl _) ?_
  refine T_open fun p hp=>?_
  obtain⟨Ay,cy,csy,rfl,-⟩:=hp.tab
  refine T_le (H':=[blk pt (coL sec (.slice x1.1 sg'.length x1.2) (.slice x2.1 l.length x2.2) (.slice none 0 0)) 26,blk pr (coL ByteArray.empty (.slice none 0 0) (.slice none 0 0) (.slice none 0 0)) 26,fz p,row 47 1 x2.1 x2.2 l.length (l.map TS.val),row 9 1 x1.1 x1.2 sg'.length (sg'.map Value.string)]) Hle.srt ?_
  repeat' (first|refine d1 ?_|fail)
  refine T_if rfl (fun h5=>by exfalso;simp at h5) (fun _=>?_)
  repeat' (first|refine d1 ?_|fail)
  exact T_retM (vs:=[.agg (coL sec (.slice x1.1 sg'.length x1.2) (.slice x2.1 l.length x2.2) (.slice Ay (alnP c l).length cy)).toArray, .int .i64 0]) _ ⟨⟨pr,_,coL sec (.slice x1.1 sg'.length x1.2) (.slice x2.1 l.length x2.2) (.slice Ay (alnP c l).length cy),rfl,rfl,rfl,rfl,(fun h=>by cases h),rfl,rdAll⟩,rfl,trivial⟩ (((Hle.tail _ _).trans (Hle.tail _ _)).trans ((co_join hp).trans (Hle.nth 0 rfl))) ⟨(x1,x2, .slice Ay (alnP c l).length cy),trivial,rfl,rfl⟩
end Go.Proofs.YtefieebkankfoaaGreatDoor
namespace Go.Proofs.YtefieebkankfoaaGreatDoor
open Go.RowKit Go.Shelf Go.Proofs
set_option maxRecDepth 100000
set_option maxHeartbeats 1000000

end Go.Proofs.YtefieebkankfoaaGreatDoor
namespace Go.Proofs.YtefieebkankfoaaGreatDoor
open Go.RowKit Go.Shelf Go.Proofs
set_option maxRecDepth 100000
set_option maxHeartbeats 1000000

theorem words22_spec (A:Option Addr) (n ca:Nat) (l:List ByteArray) (w:World) (hs:Src w 1 A n (l.map Value.string)) (hn:l.length=n) (hnb:n≤1000) :
  Spec Tryz.prog 22 [.slice A n ca] w (fun v R=>∃ x:Option Addr × Nat,True∧v = .slice x.1 n x.2∧R=[row 79 6 x.1 x.2 n ((l.map tokS).flatMap Tok.cells)]):=by
 refine spec_of sg Tryz.func22 rfl rfl rfl ?_
 repeat' (first|refine d1 ?_|fail)
 refine T_nilrow 79 6 ?_
 refine T_loopX (fun s:Nat × (Option Addr × Nat)=>[(8, .int .i64 (s.1:Nat)),(3, .slice s.2.1 s.1 s.2.2)]) (fun s=>[row 79 6 s.2.1 s.2.2 s.1 (((l.take s.1).map tokS).flatMap Tok.cells)]) (fun s=>s.1≤n) (fun s=>n - s.1) (0,(none,0)) (Nat.zero_le _) ?_
 rintro⟨k,⟨A3,c3⟩⟩ hk
 dsimp only at hk ⊢
 repeat' (first|refine d1 ?_|fail)
 refine T_if rfl (fun h=>?_) (fun h=>?_)
 ·simp only [decide_eq_true_eq] at h
  obtain⟨b,o,rfl⟩:=hs.base (by omega)
  obtain⟨s,hsk⟩:∃ s,l[k]?=some s:=⟨_,List.getElem?_eq_getElem (by omega)⟩
  have hr:RdC w b (o+(k:Int).toNat * 1) [.string s]:=by
   have h9:=(hs.get1 (i:=k) (by omega) (by rw [List.getElem?_map,hsk];rfl)).2
   rw [Nat.mul_one] at h9
   rw [off1];exact h9
  repeat' (first|refine d1 ?_|(show T _ (.ops _ (_::_)::_) _ _ _;refine T_op (OpT.append (A:=A3) rfl rfl rfl rfl rfl rfl rfl rfl rfl rfl (fun w hw=>Src.own hw rfl) rfl (by dsimp only;omega) (by omega) (fun A' cap' hA'=>?_)))|(show ∀ _:Nat,T _ _ _ _ _;intro _))
  refine T_backX (k+1,(A',cap')) (by dsimp only;omega) (by dsimp only;omega) (hG:=?_)
  dsimp only
  rw [take_snoc _ _ _ hsk,List.map_append,List.flatMap_append]
  exact Hle.tail _ _
 ·simp only [decide_eq_false_iff_not] at h
  obtain rfl:k=n:=by omega
  rw [← hn,List.take_length]
  repeat' (first|refine d1 ?_|(show T _ (.code .ret::_) _ _ _;refine T_retV _ rfl (Hle.refl _) ⟨(A3,c3),trivial,rfl,rfl⟩))
def s22d:ByteArray:=⟨#[100,101,117,115]⟩
def s22e:ByteArray:=⟨#[101,115,116]⟩
def s22n:ByteArray:=⟨#[110,111,110]⟩
def s22A:ByteArray:=⟨#[65]⟩
def s22B:ByteArray:=⟨#[66]⟩
def s22P:ByteArray:=⟨#[65,124,100,101,117,115,124,124,101,115,116,10,66,124,100,101,117,115,124,110,111,110,124,101,115,116,10]⟩
def aw22C:Costs:=⟨40,5,20,50⟩
def aw22a:List Tok:=[s22d,s22e].map tokS
def aw22b:List Tok:=[s22d,s22n,s22e].map tokS
def aw22l (x1 x2:Option Addr × Nat):List TS:=[⟨x1.1,2,x1.2,aw22a⟩,⟨x2.1,3,x2.2,aw22b⟩]
def aw22c:List (List Int):=[[0,0],[-1,1],[1,2]]
def aw22x:Co:=⟨sA,[s22A,s22B],[aw22a,aw22b],aw22c⟩
theorem aw22K:costE aw22C=0:=by decide +kernel
theorem aw22H:head22 sA [s22A,s22B] [aw22a,aw22b]=0:=by decide +kernel
theorem aw22W:alnW aw22C (aw22l (none,0) (none,0))=aw22c:=by decide +kernel
theorem aw22s:(∀ x∈aw22a,x.small)∧(∀ x∈aw22b,x.small):=by decide +kernel
theorem aw22t:(∀ x∈aw22a,x.text.size≤12)∧(∀ x∈aw22b,x.text.size≤12):=by decide +kernel
theorem aw22M (x1 x2:Option Addr × Nat):made22 aw22C sA [s22A,s22B] (aw22l x1 x2)=(aw22x,0)∧toks22 aw22C sA [s22A,s22B] (aw22l x1 x2)=aw22l x1 x2∧Ok22 aw22x:=by
 have hh:head22 sA [s22A,s22B] ((aw22l x1 x2).map TS.l)=0:=aw22H
 obtain⟨f1,f2,f3,f4,f5,f6,f7,f8⟩:=made22_facts (l:=aw22l x1 x2) aw22K hh (List.forall_mem_cons.2 ⟨rfl,List.forall_mem_cons.2 ⟨rfl,fun t h=>by cases h⟩⟩) (List.forall_mem_cons.2 ⟨Nat.le_of_ble_eq_true rfl,List.forall_mem_cons.2 ⟨Nat.le_of_ble_eq_true rfl,fun t h=>by cases h⟩⟩)
 have eC:colsC22 aw22C (aw22l x1 x2)=aw22c:=by
  unfold colsC22
  rw [if_pos (by show 2≤4;omega)]
  exact aw22W
 rw [eC] at f6 f7
 exact⟨f7,f8,⟨head22_iff.1 aw22H,f6⟩⟩
theorem aw22S:Small22 aw22x :=
 ⟨List.forall_mem_cons.2 ⟨⟨Nat.le_of_ble_eq_true rfl,aw22s.1⟩,List.forall_mem_cons.2 ⟨⟨Nat.le_of_ble_eq_true rfl,aw22s.2⟩,fun t h=>by cases h⟩⟩, .inl (Nat.le_of_ble_eq_true rfl),by decide,by decide,by decide,by decide,by decide,
  List.forall_mem_cons.2 ⟨aw22t.1,List.forall_mem_cons.2 ⟨aw22t.2,fun t h=>by cases h⟩⟩⟩
theorem aw22P:printV22 aw22x=(s22P,0):=by
 rw [printV22_ok aw22S (aw22M (none,0) (none,0)).2.2]
 have e:print22 aw22x=s22P.data.toList:=by decide +kernel
 rw [e]
theorem aw22F:findV22 aw22x 0 1=(2,0):=by
 have h1:=chk22_iff.2 (aw22M (none,0) (none,0)).2.2
 have h2:at22 aw22x 0 1=2:=by decide +kernel
 unfold findV22
 rw [if_neg (by rw [h1];simp),if_neg (by decide)]
 exact congrArg (fun z=>(z,(0:Int))) h2
theorem aw22N:chk22 ⟨sA,[],[],[]⟩=5:=by
 have e:head22 sA [] []=5:=by decide +kernel
 unfold chk22
 show (if head22 sA [] []≠0 then head22 sA [] [] else _)=_
 rw [e]
 rfl
theorem srcRow22 {w0 w:World} {H:List HA} {A:Option Addr} {e sz cap n:Nat} {xs:List Value} {rb:HA→List HA} [FocusR H A e sz cap n xs rb] (hw:Cls w0 w H):Src w sz A n xs :=
 srcRw (C:=⟨sg,⟨0,[]⟩,w0,none,fun _ _=>True,fun _ _=>True,fun _ _ _=>True⟩) (e:=e) (cap:=cap) (rb:=rb) w hw
theorem aw22_hd {w w':World} (hst:Std w) {b4 bS:Nat} {x1 x2:Option Addr × Nat} {H:List HA}
  (hw:Cls w w' (blk b4 ((aw22l x1 x2).map TS.val) 47::blk bS ([s22A,s22B].map Value.string) 9::row 79 6 x1.1 x1.2 2 (aw22a.flatMap Tok.cells)::row 79 6 x2.1 x2.2 3 (aw22b.flatMap Tok.cells)::H)) :
  HdAt w' sA [s22A,s22B] (some ⟨bS,0,none⟩) 2 (aw22l x1 x2) (some ⟨b4,0,none⟩) 2 :=
 ⟨hst.cls hw,Src.own (b:=bS) hw rfl,Nat.le_refl _,Src.own (b:=b4) hw rfl,
  ⟨List.forall_mem_cons.2 ⟨srcRow22 hw,List.forall_mem_cons.2 ⟨srcRow22 hw,fun t h=>by cases h⟩⟩,List.forall_mem_cons.2 ⟨rfl,List.forall_mem_cons.2 ⟨rfl,fun t h=>by cases h⟩⟩,List.forall_mem_cons.2 ⟨Nat.le_of_ble_eq_true rfl,List.forall_mem_cons.2 ⟨Nat.le_of_ble_eq_true rfl,fun t h=>by cases h⟩⟩⟩,
  by decide,by decide,by decide,Nat.le_of_ble_eq_true rfl,
  List.forall_mem_cons.2 ⟨⟨Nat.le_of_ble_eq_true rfl,aw22s.1⟩,List.forall_mem_cons.2 ⟨⟨Nat.le_of_ble_eq_true rfl,aw22s.2⟩,fun t h=>by cases h⟩⟩,
  List.forall_mem_cons.2 ⟨aw22t.1,List.forall_mem_cons.2 ⟨aw22t.2,fun t h=>by cases h⟩⟩⟩
theorem coNone {w:World} (hst:Std w):CoAt w ⟨sA,[],[],[]⟩ none 0 [] none 0 (.slice none 0 0) :=
 ⟨⟨hst,⟨rfl,fun h=>absurd h (Nat.not_lt_zero _)⟩,Nat.le_refl _,⟨rfl,fun h=>absurd h (Nat.not_lt_zero _)⟩,⟨fun t h=>(by cases h),fun t h=>(by cases h),fun t h=>(by cases h)⟩,by decide,fun t h=>(by cases h),Nat.zero_le _,Nat.zero_le _,fun t h=>(by cases h),fun t h=>(by cases h)⟩,rfl,
  Rd.s none 0 0 1 [] rfl (Nat.le_refl _) (by omega) (fun h=>absurd h (by omega)) .nil .nil⟩
theorem awake22_spec (w:World) (hst:Std w):Spec Tryz.prog 7 [] w (fun v R=>v = .bool true∧R=[]):=by
 refine spec_of sg Tryz.func7 rfl rfl rfl ?_
 repeat' (first|refine d1 ?_|(show T _ (.ops _ (_::_)::_) _ _ _;first|refine T_callE rfl rfl rfl rfl rfl (fun w hw=>words22_spec (some ⟨_,0,none⟩) 2 2 [s22d,s22e] w (Src.own hw rfl) rfl (by omega)) (fun x1 _=>?_)|refine T_callE rfl rfl rfl rfl rfl (fun w hw=>words22_spec (some ⟨_,0,none⟩) 3 3 [s22d,s22n,s22e] w (Src.own hw rfl) rfl (by omega)) (fun x2 _=>?_))|(show ∀ _:Nat,T _ _ _ _ _;intro _))
 rename_i b1 _ b2 _ b4 bS
 refine T_le (H':=[blk bS ([s22A,s22B].map Value.string) 9,blk b4 ((aw22l x1 x2).map TS.val) 47,row 79 6 x2.1 x2.2 3 (aw22b.flatMap Tok.cells),blk b2 ([s22d,s22n,s22e].map Value.string) 9,row 79 6 x1.1 x1.2 2 (aw22a.flatMap Tok.cells),blk b1 ([s22d,s22e].map Value.string) 9]) (Hle.refl _) ?_
 refine T_le (H':=[blk b4 ((aw22l x1 x2).map TS.val) 47,blk bS ([s22A,s22B].map Value.string) 9,row 79 6 x1.1 x1.2 2 (aw22a.flatMap Tok.cells),row 79 6 x2.1 x2.2 3 (aw22b.flatMap Tok.cells)]) Hle.srt2 ?_
 refine T_op (OpT.call rfl rfl rfl rfl rfl (fun w hw=>collateP22_spec aw22C sA [s22A,s22B] (some ⟨bS,0,none⟩) 2 (aw22l x1 x2) (some ⟨b4,0,none⟩) 2 w (aw22_hd hst hw) (.inl (Nat.le_of_ble_eq_true rfl))) ?_)
 rintro v R ⟨⟨y1,y2,y3⟩,-,rfl,rfl⟩
 rw [(aw22M x1 x2).1,(aw22M x1 x2).2.1]
 dsimp only
 refine T_open fun p hp=>?_
 obtain⟨Ak,ck,csk,rfl,-⟩:=hp.cons_inv.2.cons_inv.2.tab
 repeat' (first|refine d1 ?_|(show ∀ _:Nat,T _ _ _ _ _;intro _))
 rename_i c0 sS r0 r1 r2 tb pw
 refine T_le (H':=[blk pw (coL sA (.slice (some ⟨sS,0,none⟩) 2 2) (.slice (some ⟨b4,0,none⟩) 2 2) (.slice (some ⟨tb,0,none⟩) 3 3)) 26,blk tb [.slice (some ⟨r0,0,none⟩) 2 2, .slice (some ⟨r1,0,none⟩) 2 2, .slice (some ⟨r2,0,none⟩) 2 2] 29,blk r2 [.int .i64 1, .int .i64 2] 3,blk r1 [.int .i64 (-1), .int .i64 1] 3,blk r0 [.int .i64 0, .int .i64 0] 3,blk sS ([s22A,s22B].map Value.string) 9,blk c0 (coL aw22x.sec (.slice y1.1 aw22x.sg.length y1.2) (.slice y2.1 (aw22l x1 x2).length y2.2) (.slice Ak aw22x.cols.length ck)) 26,fz p,blk b4 ((aw22l x1 x2).map TS.val) 47,blk bS ([s22A,s22B].map Value.string) 9,row 79 6 x1.1 x1.2 2 (aw22a.flatMap Tok.cells),row 79 6 x2.1 x2.2 3 (aw22b.flatMap Tok.cells)]) (Hle.refl _) ?_
 refine T_le (H':=[blk b4 ((aw22l x1 x2).map TS.val) 47,blk sS ([s22A,s22B].map Value.string) 9,row 79 6 x1.1 x1.2 2 (aw22a.flatMap Tok.cells),row 79 6 x2.1 x2.2 3 (aw22b.flatMap Tok.cells),blk tb [.slice (some ⟨r0,0,none⟩) 2 2, .slice (some ⟨r1,0,none⟩) 2 2, .slice (some ⟨r2,0,none⟩) 2 2] 29,blk r0 [.int .i64 0, .int .i64 0] 3,blk r1 [.int .i64 (-1), .int .i64 1] 3,blk r2 [.int .i64 1, .int .i64 2] 3,blk pw (coL sA (.slice (some ⟨sS,0,none⟩) 2 2) (.slice (some ⟨b4,0,none⟩) 2 2) (.slice (some ⟨tb,0,none⟩) 3 3)) 26,blk c0 (coL aw22x.sec (.slice y1.1 aw22x.sg.length y1.2) (.slice y2.1 (aw22l x1 x2).length y2.2) (.slice Ak aw22x.cols.length ck)) 26,fz p]) Hle.srt2 ?_
 have hX:∀ {w':World} {H:List HA},Cls w w' (blk b4 ((aw22l x1 x2).map TS.val) 47::blk sS ([s22A,s22B].map Value.string) 9::row 79 6 x1.1 x1.2 2 (aw22a.flatMap Tok.cells)::row 79 6 x2.1 x2.2 3 (aw22b.flatMap Tok.cells)::blk tb [.slice (some ⟨r0,0,none⟩) 2 2, .slice (some ⟨r1,0,none⟩) 2 2, .slice (some ⟨r2,0,none⟩) 2 2] 29::blk r0 [.int .i64 0, .int .i64 0] 3::blk r1 [.int .i64 (-1), .int .i64 1] 3::blk r2 [.int .i64 1, .int .i64 2] 3::H)→CoAt w' aw22x (some ⟨sS,0,none⟩) 2 (aw22l x1 x2) (some ⟨b4,0,none⟩) 2 (.slice (some ⟨tb,0,none⟩) 3 3):=fun hw =>
  ⟨aw22_hd hst hw,rfl,rd_lit (n:=3) (Src.own (b:=tb) hw rfl) (by omega) ((rd_ints (b:=r0) (n:=2) (r:=[0,0]) (Src.own (b:=r0) hw rfl) (by omega)).append ((rd_ints (b:=r1) (n:=2) (r:=[-1,1]) (Src.own (b:=r1) hw rfl) (by omega)).append (rd_ints (b:=r2) (n:=2) (r:=[1,2]) (Src.own (b:=r2) hw rfl) (by omega))))⟩
 repeat' (first|refine d1 ?_|(show T _ (.ops _ (_::_)::_) _ _ _;first|refine T_call rfl rfl rfl rfl rfl (fun w hw=>printP22_spec aw22x (some ⟨sS,0,none⟩) 2 (aw22l x1 x2) (some ⟨b4,0,none⟩) 2 (.slice (some ⟨tb,0,none⟩) 3 3) w (hX hw) aw22S) ?_|refine T_call rfl rfl rfl rfl rfl (fun w hw=>findP22_spec aw22x (some ⟨sS,0,none⟩) 2 (aw22l x1 x2) (some ⟨b4,0,none⟩) 2 (.slice (some ⟨tb,0,none⟩) 3 3) 0 1 w (hX hw)) ?_)|fail)
 rw [aw22P,aw22F]
 have hY:∀ {w':World} {H:List HA},Cls w w' (blk b4 ((aw22l x1 x2).map TS.val) 47::blk sS ([s22A,s22B].map Value.string) 9::row 79 6 x1.1 x1.2 2 (aw22a.flatMap Tok.cells)::row 79 6 x2.1 x2.2 3 (aw22b.flatMap Tok.cells)::blk tb [.slice (some ⟨r0,0,none⟩) 2 2, .slice (some ⟨r1,0,none⟩) 2 2, .slice (some ⟨r2,0,none⟩) 2 2] 29::blk r0 [.int .i64 0, .int .i64 0] 3::blk r1 [.int .i64 (-1), .int .i64 1] 3::blk r2 [.int .i64 1, .int .i64 2] 3::H)→CoSm w' aw22x (some ⟨sS,0,none⟩) 2 (aw22l x1 x2) (some ⟨b4,0,none⟩) 2 (.slice (some ⟨tb,0,none⟩) 3 3):=fun hw =>
  ⟨rd_lit (n:=2) (hX hw).hd.s1 (by omega) (Rd.vals _),(hX hw).hd.s2,Nat.le_of_ble_eq_true rfl,(hX hw).hd.ok,rfl,(hX hw).cols⟩
 repeat' (first|refine d1 ?_|(show T _ (.ops _ (_::_)::_) _ _ _;first|refine T_callC rfl rfl rfl rfl rfl rfl rfl (fun _ w hw=>sameR22_spec aw22x aw22x y1.1 (some ⟨sS,0,none⟩) y1.2 2 (aw22l x1 x2) (aw22l x1 x2) y2.1 (some ⟨b4,0,none⟩) y2.2 2 _ _ w (ofP22 hp rfl hw (hX hw).hd.ok) (hY hw)) ?_|refine T_callC rfl rfl rfl rfl rfl rfl rfl (fun _ w hw=>sameP22_spec aw22x aw22x y1.1 (some ⟨sS,0,none⟩) y1.2 2 (aw22l x1 x2) (aw22l x1 x2) y2.1 (some ⟨b4,0,none⟩) y2.2 2 _ _ w (ofP22 hp rfl hw (hX hw).hd.ok) (hY hw)) ?_|refine T_callC rfl rfl rfl rfl rfl rfl rfl (fun _ w hw=>checkP22_spec ⟨sA,[],[],[]⟩ none 0 [] none 0 (.slice none 0 0) w (coNone (hst.cls hw))) ?_)|fail)
 rw [same22_refl,aw22N,show decide ((s22P,(0:Int)).1=(⟨#[65,124,100,101,117,115,124,124,101,115,116,10,66,124,100,101,117,115,124,110,111,110,124,101,115,116,10]⟩:ByteArray))=true from decide_eq_true rfl]
 exact T_retM (vs:=[.bool true]) [] ⟨rfl,trivial⟩ (Hle.none _) ⟨rfl,rfl⟩
end Go.Proofs.YtefieebkankfoaaGreatDoor
namespace Go.Proofs.YtefieebkankfoaaGreatDoor
open Go.RowKit Go.Shelf Go.Proofs
set_option maxRecDepth 100000
set_option maxHeartbeats 1000000

theorem Rd.rowS {R:Rdr} {x:Value} {r:List ByteArray} (h:Rd R [x] [strsD r]):∃ A cap,x = .slice A r.length cap∧r.length≤cap∧cap≤9223372036854775807∧(0<r.length→∃ b o,A=some ⟨b,o,none⟩∧∀ (k:Nat) s,r[k]?=some s→R b (o+k)=some (.string s)):=by
 obtain⟨A,n,cap,rfl,h1,h2,h3,h4⟩:=h.vals_one
 have e:n=r.length:=by simpa using h1.symm
 subst e
 exact⟨A,cap,rfl,h2,h3,fun h0=>⟨bk A,ofs A,(h4 h0).1,fun k z hz=>(h4 h0).2 k _ (by rw [List.getElem?_map,hz];rfl)⟩⟩
structure CoAr (w:World) (x:Co) (A1:Option Addr) (c1:Nat) (l:List TS) (A2:Option Addr) (c2:Nat) (y3:Value):Prop where
 r1:Rd (wr w) [.slice A1 x.sg.length c1] [strsD x.sg]
 s1:Src w 1 A1 x.sg.length (x.sg.map Value.string)
 b1:x.sg.length≤c1
 b1':x.sg.length≤9223372036854775807
 s2:Src w 1 A2 l.length (l.map TS.val)
 b2:l.length≤9223372036854775807
 ok:TsOk w l
 m:l.map TS.l=x.m
 cols:Rd (wr w) [y3] [rowsD x.cols]
theorem co_arg {w:World} {x:Co} {y1 y2 y3:Value} (h:CoRd w y1 y2 y3 x):∃ (A1:Option Addr) (c1:Nat) (l:List TS) (A2:Option Addr) (c2:Nat),y1 = .slice A1 x.sg.length c1∧y2 = .slice A2 l.length c2∧CoAr w x A1 c1 l A2 c2 y3:=by
 obtain⟨h1,h2,h3⟩:=h
 obtain⟨A1,c1,rfl,g1,g2,g3⟩:=h1.strs
 obtain⟨A2,c2,l,rfl,g4,g5,g6,g7⟩:=h2.toksL
 exact⟨A1,c1,l,A2,c2,rfl,rfl,⟨h1,g3,g1,by omega,g5,g4,g6,g7,h3⟩⟩
theorem CoAr.cls {w0 w:World} {H:List HA} {x:Co} {A1 A2:Option Addr} {c1 c2:Nat} {l:List TS} {y3:Value} (h:CoAr w0 x A1 c1 l A2 c2 y3) (hw:Cls w0 w H):CoAr w x A1 c1 l A2 c2 y3 :=
 ⟨h.r1.old hw,h.s1.old hw,h.b1,h.b1',h.s2.old hw,h.b2,⟨fun t ht=>src_below (h.ok.src t ht) hw.below,h.ok.len,h.ok.bd⟩,h.m,h.cols.old hw⟩
theorem CoAr.sm {w:World} {x:Co} {A1 A2:Option Addr} {c1 c2:Nat} {l:List TS} {y3:Value} (h:CoAr w x A1 c1 l A2 c2 y3):CoSm w x A1 c1 l A2 c2 y3:=⟨h.r1,h.s2,h.b2,h.ok,h.m,h.cols⟩
theorem CoAr.at {w:World} {x:Co} {A1 A2:Option Addr} {c1 c2:Nat} {l:List TS} {y3:Value} (h:CoAr w x A1 c1 l A2 c2 y3) (hst:Std w) (hs:Small22 x):CoAt w x A1 c1 l A2 c2 y3 :=
 have hl:x.m.length=l.length:=by rw [← h.m,List.length_map]
 have hm:∀ t∈l,t.l∈x.m:=fun t ht=>by rw [← h.m];exact List.mem_map_of_mem ht
 ⟨⟨hst,h.s1,h.b1,h.s2,h.ok,hs.sec,hs.sig,hs.sg,by have:=hs.len;omega,fun t ht=>⟨by have:=(hs.tok _ (hm t ht)).1;rw [h.ok.len t ht] at this;exact this,(hs.tok _ (hm t ht)).2⟩,fun t ht=>hs.txt _ (hm t ht)⟩,h.m,h.cols⟩
theorem CoAr.great {w:World} {x:Co} {A1 A2:Option Addr} {c1 c2:Nat} {l:List TS} {y3:Value} (h:CoAr w x A1 c1 l A2 c2 y3) :
  Spec Tryz.prog 20 [.agg (coL x.sec (.slice A1 x.sg.length c1) (.slice A2 l.length c2) y3).toArray] w (fun v R=>v = .bool (great22 x)∧R=[]) :=
 great22_spec x A1 c1 l A2 c2 y3 w h.s1 h.b1' h.s2 h.ok h.b2 h.m h.cols
noncomputable def fine22 (x:Co):Bool := !great22 x && decide (chk22 x=0)
theorem fine22_iff {x:Co}:fine22 x=true↔Small22 x∧Ok22 x∧great22 x=false:=by
 unfold fine22
 rw [Bool.and_eq_true,Bool.not_eq_true',decide_eq_true_eq]
 exact⟨fun h=>⟨great22_no h.1,chk22_iff.1 h.2,h.1⟩,fun h=>⟨h.2.2,chk22_iff.2 h.2.1⟩⟩
theorem fine22_spec (x:Co) (A1:Option Addr) (c1:Nat) (l:List TS) (A2:Option Addr) (c2:Nat) (y3:Value) (w:World) (hst:Std w) (h:CoAr w x A1 c1 l A2 c2 y3) :
  Spec Tryz.prog 6 [.agg (coL x.sec (.slice A1 x.sg.length c1) (.slice A2 l.length c2) y3).toArray] w (fun v R=>v = .bool (fine22 x)∧R=[]):=by
 obtain⟨Ak,ck,csk,rfl,-⟩:=h.cols.tabS
 refine spec_of sg Tryz.func6 rfl rfl rfl ?_
 repeat' (first|(show T _ (.ops _ (⟨_, .box _ _,_,_,_,_⟩::_)::_) _ _ _;refine T_op (OpT.box (cs:=coL x.sec (.slice A1 x.sg.length c1) (.slice A2 l.length c2) (.slice Ak x.cols.length ck)) rfl rfl rfl rfl rfl rfl rfl (fun _=>?_)))|refine d1 ?_|(show T _ (.ops _ (_::_)::_) _ _ _;first|refine T_call rfl rfl rfl rfl rfl (fun w hw=>(h.cls hw).great) ?_|refine T_callC rfl rfl rfl rfl rfl rfl rfl (fun hG w hw=>checkR22_spec x A1 c1 l A2 c2 (.slice Ak x.cols.length ck) w ((h.cls hw).at (hst.cls hw) (great22_no (by have h1:(!great22 x)=true:=hG.1;simpa using h1)))) ?_)|fail)
 repeat' (first|(show T _ (.code .ret::_) _ _ _;refine T_retV [] rfl (Hle.none _) ⟨rfl,rfl⟩))
end Go.Proofs.YtefieebkankfoaaGreatDoor
namespace Go.Proofs.YtefieebkankfoaaGreatDoor
open Go.RowKit Go.Shelf Go.Proofs
set_option maxRecDepth 100000
set_option maxHeartbeats 1000000

theorem colV22_val {x:Co} (h:Ok22 x) {i:Nat} (hi:i<x.cols.length):colV22 x (i:Int)=(col22 x i,0):=by
 unfold colV22
 rw [if_neg (by rw [chk22_iff.2 h];simp),if_neg (by omega),Int.toNat_natCast]
theorem textV22_val {x:Co} (h:Ok22 x) {i:Nat} (hi:i<x.sg.length):textV22 x (i:Int)=(words22 x i,0):=by
 unfold textV22
 rw [if_neg (by rw [chk22_iff.2 h];simp),if_neg (by omega),Int.toNat_natCast]
end Go.Proofs.YtefieebkankfoaaGreatDoor
namespace Go.Proofs.YtefieebkankfoaaGreatDoor
open Go.RowKit Go.Shelf Go.Proofs
set_option maxRecDepth 100000
set_option maxHeartbeats 1000000

theorem columns22_fn (sec:ByteArray) (y1 y2:Value) (n:Nat) (Ak Al:Option Addr) (ck nl cl:Nat) (A1 A2:Option Addr) (c1 c2 n1 n2:Nat) (w:World) (e1:y1 = .slice A1 n1 c1) (e2:y2 = .slice A2 n2 c2):Spec Tryz.prog 57 [.agg (coL sec y1 y2 (.slice Ak n ck)).toArray, .slice Al nl cl] w
  (fun v R=>∃ g:Nat × Nat,True∧v = .func (.func 87) #[] #[.pointer (some ⟨g.1,0,none⟩), .pointer (some ⟨g.2,0,none⟩)]∧R=[blk g.2 [.slice Al nl cl] 29,blk g.1 (coL sec y1 y2 (.slice Ak n ck)) 26]):=by
 subst e1 e2
 refine spec_of sg Tryz.func57 rfl rfl rfl ?_
 refine T_op (OpT.box (cs:=coL sec (.slice A1 n1 c1) (.slice A2 n2 c2) (.slice Ak n ck)) rfl rfl rfl rfl rfl rfl rfl (fun g1=>?_))
 refine T_op (OpT.box (cs:=[.slice Al nl cl]) rfl rfl rfl rfl rfl rfl rfl (fun g2=>?_))
 repeat' (first|refine d1 ?_|(show T _ (.code .ret::_) _ _ _;refine T_retV _ rfl (Hle.refl _) ⟨(g1,g2),trivial,rfl,rfl⟩))
theorem prjC_yes {ks:List Nat} {r:List Int} {cols:List (List Int)} {i:Nat} (h:cols[i]?=some r) (hp:anyP (prjR ks r)=true):prjC ks (cols.take (i+1))=prjC ks (cols.take i)++[prjR ks r]:=by
 unfold prjC
 rw [take_snoc _ _ _ h,List.map_append,List.filter_append]
 congr 1
 show List.filter anyP [prjR ks r]=_
 rw [List.filter_cons,if_pos hp,List.filter_nil]
theorem prjC_no {ks:List Nat} {r:List Int} {cols:List (List Int)} {i:Nat} (h:cols[i]?=some r) (hp:anyP (prjR ks r)=false):prjC ks (cols.take (i+1))=prjC ks (cols.take i):=by
 unfold prjC
 rw [take_snoc _ _ _ h,List.map_append,List.filter_append]
 show _++List.filter anyP [prjR ks r]=_
 rw [List.filter_cons,if_neg (by rw [hp];simp),List.filter_nil,List.append_nil]
theorem prjC_get {ks:List Nat} {r:List Int} {cols:List (List Int)} {i:Nat} (h:cols[i]?=some r) (hp:anyP (prjR ks r)=true):(prjC ks cols)[(prjC ks (cols.take i)).length]?=some (prjR ks r):=by
 have h1:prjC ks cols=prjC ks (cols.take (i+1))++prjC ks (cols.drop (i+1)):=by
  unfold prjC
  rw [← List.filter_append, ← List.map_append,List.take_append_drop]
 rw [h1,prjC_yes h hp,List.append_assoc,List.getElem?_append_right (Nat.le_refl _),Nat.sub_self];rfl
def Q22 (ks:List Nat) (cols:List (List Int)) (j:Nat) (x:List Value) (B:List HA):Prop :=
 ∃ (i:Int) (r:List Int) (A:Option Addr) (c:Nat),(prjC ks cols)[j]?=some r∧x=[.int .i64 i, .slice A r.length c]∧B=[row 3 1 A c r.length (r.map (Value.int .i64))]
theorem columns22_iter {w0:World} {x:Co} {A1 A2 Ak Al:Option Addr} {c1 c2 ck cl:Nat} {l:List TS} (hx:CoAt w0 x A1 c1 l A2 c2 (.slice Ak x.cols.length ck)) (hok:Ok22 x) {ks:List Nat} (hks:Src w0 1 Al ks.length ((intN ks).map (Value.int .i64))) (hlt:∀ k∈ks,k<x.sg.length) (hkn:ks.length≤1000) (p1 p2:Nat) :
  IterO Tryz.prog w0 87 [] [.pointer (some ⟨p1,0,none⟩), .pointer (some ⟨p2,0,none⟩)]
   [blk p2 [.slice Al ks.length cl] 29,blk p1 (coL x.sec (.slice A1 x.sg.length c1) (.slice A2 l.length c2) (.slice Ak x.cols.length ck)) 26]
   (Q22 ks x.cols) (prjC ks x.cols).length:=by
 obtain⟨Ak',ck',csk,e,hck1,hck2,hcs,hrows⟩:=hx.cols.tabS
 cases e
 obtain⟨h1,h2,h3⟩:=hx.row hok
 refine iterO_of sg Tryz.func87 rfl rfl rfl ?_
 intro l' GQ X Hj hY h0
 show T _ _ _ _ (blk p2 [.slice Al ks.length cl] 29::blk p1 (coL x.sec (.slice A1 x.sg.length c1) (.slice A2 l.length c2) (.slice Ak x.cols.length ck)) 26::Hj)
 repeat' (first|refine d1 ?_|fail)
 refine T_loopX (fun s:Nat × List HA=>[(13, .int .i64 (s.1:Nat))]) (fun s=>blk p2 [.slice Al ks.length cl] 29::blk p1 (coL x.sec (.slice A1 x.sg.length c1) (.slice A2 l.length c2) (.slice Ak x.cols.length ck)) 26::s.2) (fun s=>s.1≤x.cols.length∧GQ (prjC ks (x.cols.take s.1)).length s.2) (fun s=>x.cols.length - s.1) (0,Hj) ⟨Nat.zero_le _,h0⟩ ?_
 rintro⟨i,H1⟩ ⟨hi,hG⟩
 dsimp only at hi hG ⊢
 repeat' (first|refine d1 ?_|fail)
 refine T_if rfl (fun h=>?_) (fun h=>?_)
 ·simp only [decide_eq_true_eq] at h
  obtain⟨r,hr⟩:∃ r,x.cols[i]?=some r:=⟨_,List.getElem?_eq_getElem (by omega)⟩
  obtain⟨b6,o6,rfl⟩:=hcs.base (by omega)
  obtain⟨Au,capu,hu2,-,-,hA8⟩:=hrows.tabRow hr
  have hrl:=(hx.entry hok hr (k:=0) (by omega)).1
  obtain⟨b7,o7,rfl,hA9⟩:=hA8 (by omega)
  have hxr:RdC w0 b6 (o6+(i:Int).toNat * 1) [.slice (some ⟨b7,o7,none⟩) r.length capu]:=by
   have h9:=(hcs.get1 (i:=i) (by omega) hu2).2
   rw [Nat.mul_one] at h9
   rw [off1];exact h9
  repeat' (first|refine d1 ?_|fail)
  refine T_nilrow 3 1 ?_
  refine T_loopX (fun s:Nat × Option Addr × Nat=>[(20, .int .i64 (s.1:Nat)),(6, .slice s.2.1 s.1 s.2.2),(7, .bool (anyP (prjR (ks.take s.1) r)))]) (fun s=>row 3 1 s.2.1 s.2.2 s.1 ((prjR (ks.take s.1) r).map (Value.int .i64))::blk p2 [.slice Al ks.length cl] 29::blk p1 (coL x.sec (.slice A1 x.sg.length c1) (.slice A2 l.length c2) (.slice (some ⟨b6,o6,none⟩) x.cols.length ck)) 26::H1) (fun s=>s.1≤ks.length) (fun s=>ks.length - s.1) (0,none,0) (Nat.zero_le _) ?_
  rintro⟨k,A',c'⟩ hk
  dsimp only at hk ⊢
  repeat' (first|refine d1 ?_|fail)
  refine T_if rfl (fun h5=>?_) (fun h5=>?_)
  ·simp only [decide_eq_true_eq] at h5
   obtain⟨s,hs⟩:∃ s,ks[k]?=some s:=⟨_,List.getElem?_eq_getElem (by omega)⟩
   have hsn:=hlt s (List.mem_of_getElem? hs)
   obtain⟨bl,ol,rfl⟩:=hks.base (by omega)
   have hls:RdC w0 bl (ol+(k:Int).toNat * 1) [.int .i64 (s:Int)]:=by
    have h9:=(hks.get1 (i:=k) (by omega) (by unfold intN;rw [List.getElem?_map,List.getElem?_map,hs];rfl)).2
    rw [Nat.mul_one] at h9
    rw [off1];exact h9
   obtain⟨z,hz⟩:∃ z,r[s]?=some z:=⟨_,List.getElem?_eq_getElem (by omega)⟩
   have hrz:RdC w0 b7 (o7+(s:Int).toNat * 1) [.int .i64 z]:=by rw [off1];exact RdC.one (hA9 s _ hz)
   have hp:prjR (ks.take (k+1)) r=prjR (ks.take k) r++[z]:=by
    unfold prjR
    rw [take_snoc _ _ _ hs,List.map_append]
    show _++[r.getD s (-1)]=_
    rw [List.getD_eq_getElem?_getD,hz];rfl
   repeat' (first|refine d1 ?_|(show T _ (.ops _ (_::_)::_) _ _ _;refine T_op (OpT.append (A:=A') rfl rfl rfl rfl rfl rfl rfl rfl rfl rfl (fun w hw=>Src.own hw rfl) rfl (by dsimp only;omega) (by omega) (fun A9 c9 hA=>?_)))|(show ∀ _:Nat,T _ _ _ _ _;intro _))
   have ha:anyP (prjR (ks.take (k+1)) r)=(anyP (prjR (ks.take k) r) || decide (0≤z)):=by
    rw [hp];unfold anyP;rw [List.any_append,List.any_cons,List.any_nil,Bool.or_false]
   refine T_backX (k+1,A9,c9) (by dsimp only;omega) (by dsimp only;omega) (hE:=⟨rfl,rfl,by dsimp only;rw [ha];rfl,trivial⟩) (hG:=?_)
   dsimp only
   rw [hp,List.map_append]
   exact Hle.tail _ _
  ·simp only [decide_eq_false_iff_not] at h5
   obtain rfl:k=ks.length:=by omega
   rw [List.take_length]
   cases hpo:anyP (prjR ks r) with
   | true =>
    have hpg:=prjC_get hr hpo
    have hy:=prjC_yes hr hpo
    repeat' (first|refine d1 ?_|(show T _ (.ops _ (_::_)::_) _ _ _;refine T_op (OpT.yieldO [row 3 1 A' c' ks.length ((prjR ks r).map (Value.int .i64))] [blk p2 [.slice Al ks.length cl] 29,blk p1 (coL x.sec (.slice A1 x.sg.length c1) (.slice A2 l.length c2) (.slice (some ⟨b6,o6,none⟩) x.cols.length ck)) 26] hY rfl rfl (Holds.of1 rfl rfl rfl) rfl rfl rfl (List.getElem?_eq_some_iff.1 hpg).1 ⟨(i:Int),prjR ks r,A',c',hpg,by rw [prjR_len],by rw [prjR_len]⟩ hG (Hle.comm [_,_,_] H1) (fun H2 hG2=>?_) (fun Y hX=>?_)))|fail)
    ·show T _ _ _ _ (blk p2 [.slice Al ks.length cl] 29::blk p1 (coL x.sec (.slice A1 x.sg.length c1) (.slice A2 l.length c2) (.slice (some ⟨b6,o6,none⟩) x.cols.length ck)) 26::H2)
     skip
     refine T_if rfl (fun h3=>by exfalso;simp at h3) (fun _=>?_)
     repeat' (first|refine d1 ?_|fail)
     exact T_backX (i+1,H2) ⟨by dsimp only;omega,by dsimp only;rw [hy,List.length_append];exact hG2⟩ (by dsimp only;omega)
    ·show T _ _ _ _ (blk p2 [.slice Al ks.length cl] 29::blk p1 (coL x.sec (.slice A1 x.sg.length c1) (.slice A2 l.length c2) (.slice (some ⟨b6,o6,none⟩) x.cols.length ck)) 26::Y)
     skip
     refine T_if rfl (fun _=>?_) (fun h3=>by exfalso;simp at h3)
     repeat' (first|(show T _ (.code .ret::_) _ _ _;refine T_istop rfl Y hX (Hle.refl _)))
   | false =>
    have hy:=prjC_no hr hpo
    repeat' (first|refine d1 ?_|(show T _ (.ops _ (_::_)::_) _ _ _;refine T_op (OpT.never (.bool false) rfl (fun hg9=>by have h10:(false:Bool)=true:=hg9.1;cases h10) rfl rfl rfl rfl rfl ?_))|fail)
    refine T_if rfl (fun h3=>by exfalso;simp at h3) (fun _=>?_)
    repeat' (first|refine d1 ?_|fail)
    exact T_backX (i+1,H1) ⟨by dsimp only;omega,by dsimp only;rw [hy];exact hG⟩ (by dsimp only;omega) (hG:=Hle.tail _ _)
 ·simp only [decide_eq_false_iff_not] at h
  obtain rfl:i=x.cols.length:=by omega
  rw [List.take_length] at hG
  skip
  exact T_ifall rfl H1 hG (Hle.refl _)
end Go.Proofs.YtefieebkankfoaaGreatDoor
namespace Go.Proofs.YtefieebkankfoaaGreatDoor
open Go.RowKit Go.Shelf Go.Proofs
set_option maxRecDepth 100000
set_option maxHeartbeats 2000000

def TS0:TS:=⟨none,0,0,[]⟩
def resC22 (x:Co) (l:List TS) (v:Value) (R:List HA):Prop :=
 ∃ y:(Option Addr × Nat) × (Option Addr × Nat) × Value,True∧v = .agg (coL x.sec (.slice y.1.1 x.sg.length y.1.2) (.slice y.2.1.1 l.length y.2.1.2) y.2.2).toArray∧R=[dat [.slice y.1.1 x.sg.length y.1.2, .slice y.2.1.1 l.length y.2.1.2,y.2.2] [strsD x.sg, .s 1 ((l.map TS.val).map .v),rowsD x.cols]]
def tks22 (l:List TS) (ks:List Nat):List TS:=ks.map fun k=>l.getD k TS0
theorem tks22_len (l:List TS) (ks:List Nat):(tks22 l ks).length=ks.length:=List.length_map ..
theorem pick22_len (x:Co) (ks:List Nat):(pick22 x ks).sg.length=ks.length:=List.length_map ..
theorem co_join2 {Ac:Option Addr} {cc q:Nat} {hs:List Value} {cols:List (List Int)} {A1 A2:Option Addr} {c1 c2 n m:Nat} {sg':List ByteArray} {cs:List Value} {H:List HA} :
  Hle (row 29 1 Ac cc q hs::dat hs (cols.map intsD)::row 47 1 A2 c2 m cs::row 9 1 A1 c1 n (sg'.map Value.string)::H) (dat [.slice A1 n c1, .slice A2 m c2, .slice Ac q cc] [strsD sg', .s 1 (cs.map .v),rowsD cols]::H):=by
 refine dat_row.trans ?_
 refine (Hle.perm (List.Perm.swap _ _ _)).trans ?_
 refine dat_rowV.trans ?_
 refine (Hle.perm (List.Perm.swap _ _ _)).trans ?_
 refine dat_join.trans ?_
 refine (Hle.perm (List.Perm.swap _ _ _)).trans ?_
 refine dat_rowV.trans ?_
 refine (Hle.perm (List.Perm.swap _ _ _)).trans ?_
 exact dat_join
theorem choose22_spec (x:Co) (A1:Option Addr) (c1:Nat) (l:List TS) (A2:Option Addr) (c2:Nat) (Ak:Option Addr) (ck:Nat) (ks:List Nat) (Al:Option Addr) (cl:Nat) (w:World) (hx:CoAt w x A1 c1 l A2 c2 (.slice Ak x.cols.length ck)) (hok:Ok22 x)
  (hks:Src w 1 Al ks.length ((intN ks).map (Value.int .i64))) (hlt:∀ k∈ks,k<x.sg.length) (hkn:ks.length≤1000) (hcn:x.cols.length≤1000) :
  Spec Tryz.prog 27 [.agg (coL x.sec (.slice A1 x.sg.length c1) (.slice A2 l.length c2) (.slice Ak x.cols.length ck)).toArray, .slice Al ks.length cl] w (resC22 (pick22 x ks) (tks22 l ks)):=by
 obtain⟨h1,h2,h3⟩:=hx.row hok
 refine spec_of sg Tryz.func27 rfl rfl rfl ?_
 refine T_op (OpT.box (cs:=coL x.sec (.slice A1 x.sg.length c1) (.slice A2 l.length c2) (.slice Ak x.cols.length ck)) rfl rfl rfl rfl rfl rfl rfl (fun p2=>?_))
 repeat' (first|refine d1 ?_|(show ∀ _:Nat,T _ _ _ _ _;intro _))
 rename_i pr p5
 refine T_nilrow 9 1 ?_
 refine T_nilrow 47 1 ?_
 refine T_loopX (fun s:Nat × (Option Addr × Nat) × (Option Addr × Nat)=>[(15, .int .i64 (s.1:Nat))]) (fun s=>[blk p5 (coL x.sec (.slice s.2.1.1 s.1 s.2.1.2) (.slice s.2.2.1 s.1 s.2.2.2) (.slice none 0 0)) 26,row 9 1 s.2.1.1 s.2.1.2 s.1 (((ks.take s.1).map fun k=>x.sg.getD k ByteArray.empty).map Value.string),row 47 1 s.2.2.1 s.2.2.2 s.1 (((ks.take s.1).map fun k=>l.getD k TS0).map TS.val),blk pr (coL ByteArray.empty (.slice none 0 0) (.slice none 0 0) (.slice none 0 0)) 26,blk p2 (coL x.sec (.slice A1 x.sg.length c1) (.slice A2 l.length c2) (.slice Ak x.cols.length ck)) 26]) (fun s=>s.1≤ks.length) (fun s=>ks.length - s.1) (0,(none,0),(none,0)) (Nat.zero_le _) ?_ (hG:=by exact Hle.srt2)
 rintro⟨k,⟨Aa,ca⟩,⟨Ab,cb⟩⟩ hk
 dsimp only at hk ⊢
 repeat' (first|refine d1 ?_|fail)
 refine T_if rfl (fun h=>?_) (fun h=>?_)
 ·simp only [decide_eq_true_eq] at h
  obtain⟨s,hs⟩:∃ s,ks[k]?=some s:=⟨_,List.getElem?_eq_getElem (by omega)⟩
  have hsn:=hlt s (List.mem_of_getElem? hs)
  obtain⟨bl,ol,rfl⟩:=hks.base (by omega)
  have hls:RdC w bl (ol+(k:Int).toNat * 1) [.int .i64 (s:Int)]:=by
   have h9:=(hks.get1 (i:=k) (by omega) (by unfold intN;rw [List.getElem?_map,List.getElem?_map,hs];rfl)).2
   rw [Nat.mul_one] at h9
   rw [off1];exact h9
  obtain⟨t,ht⟩:∃ t,l[s]?=some t:=⟨_,List.getElem?_eq_getElem (by omega)⟩
  obtain⟨g,hg⟩:∃ g,x.sg[s]?=some g:=⟨_,List.getElem?_eq_getElem (by omega)⟩
  obtain⟨b2,o2,rfl⟩:=hx.hd.s2.base (by omega)
  obtain⟨b1,o1,rfl⟩:=hx.hd.s1.base (by omega)
  have hrt:=hx.hd.hdr ht
  have hrg:=src_str hx.hd.s1 hsn hg
  repeat' (first|refine d1 ?_|fail)
  refine T_cutX 1 [] (fun _:(Option Addr × Nat) × (Option Addr × Nat)=>[]) (fun s=>[blk p5 (coL x.sec (.slice s.1.1 (k+1) s.1.2) (.slice s.2.1 (k+1) s.2.2) (.slice none 0 0)) 26,row 9 1 s.1.1 s.1.2 (k+1) (((ks.take k).map fun k=>x.sg.getD k ByteArray.empty).map Value.string++flatP [(0, .string g)]),row 47 1 s.2.1 s.2.2 (k+1) (((ks.take k).map fun k=>l.getD k TS0).map TS.val++flatP [(0, .slice t.A t.n t.cap)]),blk pr (coL ByteArray.empty (.slice none 0 0) (.slice none 0 0) (.slice none 0 0)) 26,blk p2 (coL x.sec (.slice (some ⟨b1,o1,none⟩) x.sg.length c1) (.slice (some ⟨b2,o2,none⟩) l.length c2) (.slice Ak x.cols.length ck)) 26]) (fun _=>True) ?_ ?_
  ·refine dw0 19 [blk p5 (coL x.sec (.slice Aa k ca) (.slice Ab k cb) (.slice none 0 0)) 26,blk p2 (coL x.sec (.slice (some ⟨b1,o1,none⟩) x.sg.length c1) (.slice (some ⟨b2,o2,none⟩) l.length c2) (.slice Ak x.cols.length ck)) 26] ?_
   repeat' (first|(show T _ (.draw _ _ _ _ _::_) _ _ _;first|refine dw1 ?_|refine dwb rfl (by decide +kernel) ?_)|(show AllL _ [];exact True.intro)|(show AllL _ (_::_);refine ⟨?_,?_⟩)|(show OpT _ _ _ _ _ _ _;first|refine dwx ?_|refine OpT.ofVal rfl (Val.load rfl (fun hg=>rdOwn1 rfl)) rfl rfl rfl ⟨fun _=>(by first|exact Hle.none _|exact Hle.sub|exact absurd ‹_› (by decide +kernel)),?_⟩|refine OpT.ofVal rfl (Val.load rfl (fun hg=>rdOld hrt)) rfl rfl rfl ⟨fun _=>(by first|exact Hle.none _|exact Hle.sub|exact absurd ‹_› (by decide +kernel)),?_⟩|refine OpT.append (A:=Aa) rfl rfl rfl rfl rfl rfl rfl rfl rfl rfl (fun w hw=>Src.own hw rfl) rfl (by dsimp only;omega) (by omega) (fun _ _ _=>⟨fun _=>(by first|exact Hle.none _|exact Hle.sub|exact absurd ‹_› (by decide +kernel)),?_⟩)|refine OpT.append (A:=Ab) rfl rfl rfl rfl rfl rfl rfl rfl rfl rfl (fun w hw=>Src.own hw rfl) rfl (by dsimp only;omega) (by omega) (fun _ _ _=>⟨fun _=>(by first|exact Hle.none _|exact Hle.sub|exact absurd ‹_› (by decide +kernel)),?_⟩))|(show ∀ _:Nat,T _ _ _ _ _;intro _)|(show T _ (.mark _::_) _ _ _;exact T_meetX ((_,_),(_,_)) trivial (hG:=by exact Hle.srt2)))
  rintro⟨⟨Aa',ca'⟩,⟨Ab',cb'⟩⟩ -
  dsimp only
  repeat' (first|refine d1 ?_|fail)
  refine T_backX (k+1,(Aa',ca'),(Ab',cb')) (by dsimp only;omega) (by dsimp only;omega) (hG:=?_)
  dsimp only
  rw [take_snoc _ _ _ hs,List.map_append,List.map_append,List.map_append,List.map_append]
  have e1:x.sg.getD s ByteArray.empty=g:=by rw [List.getD_eq_getElem?_getD,hg];rfl
  have e2:l.getD s TS0=t:=by rw [List.getD_eq_getElem?_getD,ht];rfl
  show Hle _ [_,row _ _ _ _ _ (_++[.string (x.sg.getD s ByteArray.empty)]),row _ _ _ _ _ (_++[(l.getD s TS0).val]),_,_]
  rw [e1,e2]
  exact Hle.refl _
 ·simp only [decide_eq_false_iff_not] at h
  obtain rfl:k=ks.length:=by omega
  rw [List.take_length]
  repeat' (first|refine d1 ?_|(show T _ (.ops _ (_::_)::_) _ _ _;refine T_op (OpT.call rfl rfl rfl rfl rfl (fun w hw=>columns22_fn x.sec _ _ x.cols.length Ak Al ck ks.length cl A1 A2 c1 c2 x.sg.length l.length w rfl rfl) (fun u R hR=>?_)))|fail)
  obtain⟨⟨g1,g2⟩,-,rfl,rfl⟩:=hR
  refine T_le (H':=[blk g2 [.slice Al ks.length cl] 29,blk g1 (coL x.sec (.slice A1 x.sg.length c1) (.slice A2 l.length c2) (.slice Ak x.cols.length ck)) 26,blk p5 (coL x.sec (.slice Aa ks.length ca) (.slice Ab ks.length cb) (.slice none 0 0)) 26,row 9 1 Aa ca ks.length ((ks.map fun k=>x.sg.getD k ByteArray.empty).map Value.string),row 47 1 Ab cb ks.length ((ks.map fun k=>l.getD k TS0).map TS.val),blk pr (coL ByteArray.empty (.slice none 0 0) (.slice none 0 0) (.slice none 0 0)) 26,blk p2 (coL x.sec (.slice A1 x.sg.length c1) (.slice A2 l.length c2) (.slice Ak x.cols.length ck)) 26]) (Hle.refl _) ?_
  refine T_le (H':=[blk g2 [.slice Al ks.length cl] 29,blk g1 (coL x.sec (.slice A1 x.sg.length c1) (.slice A2 l.length c2) (.slice Ak x.cols.length ck)) 26,blk p5 (coL x.sec (.slice Aa ks.length ca) (.slice Ab ks.length cb) (.slice none 0 0)) 26,row 9 1 Aa ca ks.length ((ks.map fun k=>x.sg.getD k ByteArray.empty).map Value.string),row 47 1 Ab cb ks.length ((ks.map fun k=>l.getD k TS0).map TS.val),blk pr (coL ByteArray.empty (.slice none 0 0) (.slice none 0 0) (.slice none 0 0)) 26]) Hle.srt2 ?_
  refine T_nilrow 29 1 ?_
  refine T_le (H':=dat [] []::[row 29 1 none 0 0 [],blk g2 [.slice Al ks.length cl] 29,blk g1 (coL x.sec (.slice A1 x.sg.length c1) (.slice A2 l.length c2) (.slice Ak x.cols.length ck)) 26,blk p5 (coL x.sec (.slice Aa ks.length ca) (.slice Ab ks.length cb) (.slice none 0 0)) 26,row 9 1 Aa ca ks.length ((ks.map fun k=>x.sg.getD k ByteArray.empty).map Value.string),row 47 1 Ab cb ks.length ((ks.map fun k=>l.getD k TS0).map TS.val),blk pr (coL ByteArray.empty (.slice none 0 0) (.slice none 0 0) (.slice none 0 0)) 26]) (hle_unit Rd.nil) ?_
  have hpl:(prjC ks x.cols).length≤x.cols.length:=by
   unfold prjC
   exact Nat.le_trans (List.length_filter_le _ _) (by rw [List.length_map];exact Nat.le_refl _)
  refine T_rangeO (columns22_iter hx hok hks hlt hkn g1 g2) rfl (fun j y B hj hQ=>by obtain⟨i,r,A,c,_,rfl,_⟩:=hQ;exact⟨rfl,rfl⟩)
   (fun jj H=>∃ (Ac:Option Addr) (cc:Nat) (hs:List Value),hs.length=jj∧H=[blk p5 (coL x.sec (.slice Aa ks.length ca) (.slice Ab ks.length cb) (.slice Ac jj cc)) 26,row 29 1 Ac cc jj hs,dat hs (((prjC ks x.cols).take jj).map intsD),row 9 1 Aa ca ks.length ((ks.map fun k=>x.sg.getD k ByteArray.empty).map Value.string),row 47 1 Ab cb ks.length ((ks.map fun k=>l.getD k TS0).map TS.val),blk pr (coL ByteArray.empty (.slice none 0 0) (.slice none 0 0) (.slice none 0 0)) 26]) (fun _=>False) (fun _ _=>False) [blk p5 (coL x.sec (.slice Aa ks.length ca) (.slice Ab ks.length cb) (.slice none 0 0)) 26,row 29 1 none 0 0 [],dat [] [],row 9 1 Aa ca ks.length ((ks.map fun k=>x.sg.getD k ByteArray.empty).map Value.string),row 47 1 Ab cb ks.length ((ks.map fun k=>l.getD k TS0).map TS.val),blk pr (coL ByteArray.empty (.slice none 0 0) (.slice none 0 0) (.slice none 0 0)) 26] ⟨none,0,[],rfl,rfl⟩
   (by show Hle _ [blk g2 [.slice Al ks.length cl] 29,blk g1 (coL x.sec (.slice A1 x.sg.length c1) (.slice A2 l.length c2) (.slice Ak x.cols.length ck)) 26,blk p5 (coL x.sec (.slice Aa ks.length ca) (.slice Ab ks.length cb) (.slice none 0 0)) 26,row 29 1 none 0 0 [],dat [] [],row 9 1 Aa ca ks.length ((ks.map fun k=>x.sg.getD k ByteArray.empty).map Value.string),row 47 1 Ab cb ks.length ((ks.map fun k=>l.getD k TS0).map TS.val),blk pr (coL ByteArray.empty (.slice none 0 0) (.slice none 0 0) (.slice none 0 0)) 26];exact Hle.srt2) ?_ ?_ (fun _ _ h=>h.elim) (fun _ _ _ h=>h.elim)
  ·rintro Lp r5 jj y B Hj K2 hr5 hj hQ ⟨Ac,cc,hs,hl,rfl⟩
   obtain⟨i,r,Ar,cr,hr,rfl,rfl⟩:=hQ
   show T _ _ ((44, .slice Ar r.length cr)::(43, .int .i64 i)::_) _ (lrec Lp r5::([blk p5 (coL x.sec (.slice Aa ks.length ca) (.slice Ab ks.length cb) (.slice Ac jj cc)) 26,row 29 1 Ac cc jj hs,dat hs (((prjC ks x.cols).take jj).map intsD),row 9 1 Aa ca ks.length ((ks.map fun k=>x.sg.getD k ByteArray.empty).map Value.string),row 47 1 Ab cb ks.length ((ks.map fun k=>l.getD k TS0).map TS.val),blk pr (coL ByteArray.empty (.slice none 0 0) (.slice none 0 0) (.slice none 0 0)) 26]++([row 3 1 Ar cr r.length (r.map (Value.int .i64))]++K2)))
   repeat' (first|refine d1 ?_|fail)
   refine T_begin hr5 rfl ?_
   have hjc:jj<x.cols.length:=by omega
   refine T_le (H':=lrec Lp (busy r5)::blk p5 (coL x.sec (.slice Aa ks.length ca) (.slice Ab ks.length cb) (.slice Ac jj cc)) 26::row 29 1 Ac cc jj hs::dat hs (((prjC ks x.cols).take jj).map intsD)::row 9 1 Aa ca ks.length ((ks.map fun k=>x.sg.getD k ByteArray.empty).map Value.string)::row 47 1 Ab cb ks.length ((ks.map fun k=>l.getD k TS0).map TS.val)::blk pr (coL ByteArray.empty (.slice none 0 0) (.slice none 0 0) (.slice none 0 0)) 26::row 3 1 Ar cr r.length (r.map (Value.int .i64))::K2) (Hle.refl _) ?_
   repeat' (first|refine d1 ?_|(show T _ (.ops _ (_::_)::_) _ _ _;refine T_op (OpT.append (A:=Ac) rfl rfl rfl rfl rfl rfl rfl rfl rfl rfl (fun w hw=>Src.own hw rfl) rfl (by dsimp only;omega) (by omega) (fun A9 c9 hA9=>?_)))|(show ∀ _:Nat,T _ _ _ _ _;intro _))
   rename_i bl
   refine T_next [blk p5 (coL x.sec (.slice Aa ks.length ca) (.slice Ab ks.length cb) (.slice A9 (jj+1) c9)) 26,row 29 1 A9 c9 (jj+1) (hs++[.slice Ar r.length cr]),dat (hs++[.slice Ar r.length cr]) (((prjC ks x.cols).take (jj+1)).map intsD),row 9 1 Aa ca ks.length ((ks.map fun k=>x.sg.getD k ByteArray.empty).map Value.string),row 47 1 Ab cb ks.length ((ks.map fun k=>l.getD k TS0).map TS.val),blk pr (coL ByteArray.empty (.slice none 0 0) (.slice none 0 0) (.slice none 0 0)) 26] ⟨A9,c9,hs++[.slice Ar r.length cr],by rw [List.length_append,hl];rfl,rfl⟩ ?_
   have hdn:∀ H:List HA,Hle (row 3 1 Ar cr r.length (r.map (Value.int .i64))::dat hs (((prjC ks x.cols).take jj).map intsD)::H) (dat (hs++[.slice Ar r.length cr]) (((prjC ks x.cols).take (jj+1)).map intsD)::H):=fun H=>by
    refine dat_rowV.trans (dat_join.trans ?_)
    rw [take_snoc _ _ _ hr,List.map_append]
    show Hle (dat _ (_++[.s 1 ((r.map (Value.int .i64)).map .v)])::H) _
    rw [List.map_map]
    exact Hle.refl _
   exact (show Hle ([blk bl (flatP [(0, .slice Ar r.length cr)]) 29,lrec Lp (busy r5),blk p5 (coL x.sec (.slice Aa ks.length ca) (.slice Ab ks.length cb) (.slice A9 (jj+1) c9)) 26,row 29 1 A9 c9 (jj+1) (hs++[.slice Ar r.length cr]),dat hs (((prjC ks x.cols).take jj).map intsD),row 9 1 Aa ca ks.length ((ks.map fun k=>x.sg.getD k ByteArray.empty).map Value.string),row 47 1 Ab cb ks.length ((ks.map fun k=>l.getD k TS0).map TS.val),blk pr (coL ByteArray.empty (.slice none 0 0) (.slice none 0 0) (.slice none 0 0)) 26,row 3 1 Ar cr r.length (r.map (Value.int .i64))]++K2) ([row 3 1 Ar cr r.length (r.map (Value.int .i64)),dat hs (((prjC ks x.cols).take jj).map intsD),lrec Lp (busy r5),blk p5 (coL x.sec (.slice Aa ks.length ca) (.slice Ab ks.length cb) (.slice A9 (jj+1) c9)) 26,row 29 1 A9 c9 (jj+1) (hs++[.slice Ar r.length cr]),row 9 1 Aa ca ks.length ((ks.map fun k=>x.sg.getD k ByteArray.empty).map Value.string),row 47 1 Ab cb ks.length ((ks.map fun k=>l.getD k TS0).map TS.val),blk pr (coL ByteArray.empty (.slice none 0 0) (.slice none 0 0) (.slice none 0 0)) 26]++K2) from Hle.srtT K2).trans ((hdn _).trans (show Hle ([dat (hs++[.slice Ar r.length cr]) (((prjC ks x.cols).take (jj+1)).map intsD),lrec Lp (busy r5),blk p5 (coL x.sec (.slice Aa ks.length ca) (.slice Ab ks.length cb) (.slice A9 (jj+1) c9)) 26,row 29 1 A9 c9 (jj+1) (hs++[.slice Ar r.length cr]),row 9 1 Aa ca ks.length ((ks.map fun k=>x.sg.getD k ByteArray.empty).map Value.string),row 47 1 Ab cb ks.length ((ks.map fun k=>l.getD k TS0).map TS.val),blk pr (coL ByteArray.empty (.slice none 0 0) (.slice none 0 0) (.slice none 0 0)) 26]++K2) ([lrec Lp (busy r5),blk p5 (coL x.sec (.slice Aa ks.length ca) (.slice Ab ks.length cb) (.slice A9 (jj+1) c9)) 26,row 29 1 A9 c9 (jj+1) (hs++[.slice Ar r.length cr]),dat (hs++[.slice Ar r.length cr]) (((prjC ks x.cols).take (jj+1)).map intsD),row 9 1 Aa ca ks.length ((ks.map fun k=>x.sg.getD k ByteArray.empty).map Value.string),row 47 1 Ab cb ks.length ((ks.map fun k=>l.getD k TS0).map TS.val),blk pr (coL ByteArray.empty (.slice none 0 0) (.slice none 0 0) (.slice none 0 0)) 26]++K2) from Hle.srtT K2))
  ·rintro D Hn ⟨Ac,cc,hs,hl,rfl⟩
   rw [List.take_length]
   show T _ _ _ _ (dfr D::blk g2 [.slice Al ks.length cl] 29::blk g1 (coL x.sec (.slice A1 x.sg.length c1) (.slice A2 l.length c2) (.slice Ak x.cols.length ck)) 26::[blk p5 (coL x.sec (.slice Aa ks.length ca) (.slice Ab ks.length cb) (.slice Ac (prjC ks x.cols).length cc)) 26,row 29 1 Ac cc (prjC ks x.cols).length hs,dat hs ((prjC ks x.cols).map intsD),row 9 1 Aa ca ks.length ((ks.map fun k=>x.sg.getD k ByteArray.empty).map Value.string),row 47 1 Ab cb ks.length ((tks22 l ks).map TS.val),blk pr (coL ByteArray.empty (.slice none 0 0) (.slice none 0 0) (.slice none 0 0)) 26])
   repeat' (first|refine d1 ?_|fail)
   refine T_le (H':=dfr D::[blk pr (coL x.sec (.slice Aa ks.length ca) (.slice Ab ks.length cb) (.slice Ac (prjC ks x.cols).length cc)) 26,row 29 1 Ac cc (prjC ks x.cols).length hs,dat hs ((prjC ks x.cols).map intsD),row 47 1 Ab cb ks.length ((tks22 l ks).map TS.val),row 9 1 Aa ca ks.length ((ks.map fun k=>x.sg.getD k ByteArray.empty).map Value.string)]) Hle.srtV ?_
   exact T_retD (H':=[blk pr (coL x.sec (.slice Aa ks.length ca) (.slice Ab ks.length cb) (.slice Ac (prjC ks x.cols).length cc)) 26,row 29 1 Ac cc (prjC ks x.cols).length hs,dat hs ((prjC ks x.cols).map intsD),row 47 1 Ab cb ks.length ((tks22 l ks).map TS.val),row 9 1 Aa ca ks.length ((ks.map fun k=>x.sg.getD k ByteArray.empty).map Value.string)]) (Hle.refl _) (rf_M (ds:=[]) (vs:=[.agg (coL x.sec (.slice Aa ks.length ca) (.slice Ab ks.length cb) (.slice Ac (prjC ks x.cols).length cc)).toArray]) _ ⟨⟨pr,_,coL x.sec (.slice Aa ks.length ca) (.slice Ab ks.length cb) (.slice Ac (prjC ks x.cols).length cc),rfl,rfl,rfl,rfl,(fun h=>by cases h),rfl,rdAll⟩,trivial⟩ ((Hle.tail _ _).trans (co_join2.trans (Hle.nth 0 rfl))) ⟨((Aa,ca),(Ab,cb), .slice Ac (prjC ks x.cols).length cc),trivial,by rw [pick22_len,tks22_len];rfl,by rw [pick22_len,tks22_len];rfl⟩)
end Go.Proofs.YtefieebkankfoaaGreatDoor
namespace Go.Proofs.YtefieebkankfoaaGreatDoor
open Go.RowKit Go.Shelf Go.Proofs
set_option maxRecDepth 100000
set_option maxHeartbeats 2000000

noncomputable def keepT22 (x:Co) (l:List TS) (z:List Int):List TS:=if (keepV22 x z).2≠0 then [] else tks22 l (z.map Int.toNat)
noncomputable def turnT22 (x:Co) (l:List TS) (z:List Int):List TS:=if (turnV22 x z).2≠0 then [] else tks22 l (z.map Int.toNat)
theorem intN_of {z:List Int} (h:∀ k∈z,0≤k):intN (z.map Int.toNat)=z:=by
 unfold intN
 rw [List.map_map]
 refine (List.map_congr_left fun k hk=>?_).trans (List.map_id _)
 have:=h k hk
 show ((k.toNat:Nat):Int)=k
 omega
theorem lt_of22 {z:List Int} {n:Nat} (h:∀ k∈z,0≤k∧k<(n:Int)):∀ k∈z.map Int.toNat,k<n:=by
 intro k hk
 obtain⟨y,hy,rfl⟩:=List.mem_map.1 hk
 have:=h y hy
 omega
theorem src_int1 {w:World} {b o n:Nat} {z:List Int} (hs:Src w 1 (some ⟨b,o,none⟩) n (z.map (Value.int .i64))) {k:Nat} {i:Int} (hk:k<n) (h:z[k]?=some i):RdC w b (o+(k:Int).toNat * 1) [.int .i64 i]:=by
 have h9:=(hs.get1 (i:=k) hk (by rw [List.getElem?_map,h];rfl)).2
 rw [Nat.mul_one] at h9
 rw [off1];exact h9
theorem keepP22_spec (x:Co) (A1:Option Addr) (c1:Nat) (l:List TS) (A2:Option Addr) (c2:Nat) (Ak:Option Addr) (ck:Nat) (z:List Int) (Al:Option Addr) (n cl:Nat) (w:World) (hx:CoAt w x A1 c1 l A2 c2 (.slice Ak x.cols.length ck))
  (hz:Src w 1 Al n (z.map (Value.int .i64))) (hn:z.length=n) (hkn:n≤1000) (hcn:x.cols.length≤1000) :
  Spec Tryz.prog 9 [.agg (coL x.sec (.slice A1 x.sg.length c1) (.slice A2 l.length c2) (.slice Ak x.cols.length ck)).toArray, .slice Al n cl] w (resP22 (keepV22 x z).1 (keepT22 x l z) (keepV22 x z).2):=by
 refine spec_of sg Tryz.func9 rfl rfl rfl ?_
 refine T_op (OpT.box (cs:=coL x.sec (.slice A1 x.sg.length c1) (.slice A2 l.length c2) (.slice Ak x.cols.length ck)) rfl rfl rfl rfl rfl rfl rfl (fun p2=>?_))
 repeat' (first|refine d1 ?_|(show T _ (.ops _ (_::_)::_) _ _ _;refine T_call rfl rfl rfl rfl rfl (fun w hw=>checkP22_spec x A1 c1 l A2 c2 _ w (hx.cls hw)) ?_)|(show ∀ _:Nat,T _ _ _ _ _;intro _))
 rename_i pr
 have herr:∀ e:Int,e≠0→keepV22 x z=(co0,e)→keepT22 x l z=[]:=fun e he h=>by unfold keepT22;rw [h];exact if_pos he
 refine T_if rfl (fun h=>?_) (fun h=>?_)
 ·have hc:chk22 x≠0:=by simpa using h
  have e1:keepV22 x z=(co0,1):=if_pos hc
  rw [herr 1 (by decide) e1,e1]
  repeat' (first|refine d1 ?_|fail)
  exact T_retM (vs:=[.agg (coL ByteArray.empty (.slice none 0 0) (.slice none 0 0) (.slice none 0 0)).toArray, .int .i64 1]) _ ⟨⟨pr,_,coL ByteArray.empty (.slice none 0 0) (.slice none 0 0) (.slice none 0 0),rfl,rfl,rfl,rfl,(fun h=>by cases h),rfl,rdAll⟩,rfl,trivial⟩ (co_nil1 _) ⟨((none,0),(none,0), .slice none 0 0),trivial,rfl,rfl⟩
 have hc:chk22 x=0:=by simpa using h
 have hok:=chk22_iff.1 hc
 obtain⟨h1,h2,h3⟩:=hx.row hok
 repeat' (first|refine d1 ?_|fail)
 refine T_if rfl (fun h4=>?_) (fun h4=>?_)
 ·have h5:z.length=0:=by simp at h4;omega
  have e1:keepV22 x z=(co0,5):=by unfold keepV22;rw [if_neg (by rw [hc];simp),if_pos h5]
  rw [herr 5 (by decide) e1,e1]
  repeat' (first|refine d1 ?_|fail)
  exact T_retM (vs:=[.agg (coL ByteArray.empty (.slice none 0 0) (.slice none 0 0) (.slice none 0 0)).toArray, .int .i64 5]) _ ⟨⟨pr,_,coL ByteArray.empty (.slice none 0 0) (.slice none 0 0) (.slice none 0 0),rfl,rfl,rfl,rfl,(fun h=>by cases h),rfl,rdAll⟩,rfl,trivial⟩ (co_nil1 _) ⟨((none,0),(none,0), .slice none 0 0),trivial,rfl,rfl⟩
 have h5:z.length≠0:=by simp at h4;omega
 obtain⟨bl,ol,rfl⟩:=hz.base (by omega)
 have hE:∀ e:Int,e≠0→kpE22 x.sg.length none z=e→keepV22 x z=(co0,e):=fun e he h=>by unfold keepV22;rw [if_neg (by rw [hc];simp),if_neg h5,if_pos (by rw [h];exact he),h]
 repeat' (first|refine d1 ?_|fail)
 refine T_loopX (fun s:Nat=>[(18, .int .i64 (s:Nat))]) (fun _=>[blk pr (coL ByteArray.empty (.slice none 0 0) (.slice none 0 0) (.slice none 0 0)) 26,blk p2 (coL x.sec (.slice A1 x.sg.length c1) (.slice A2 l.length c2) (.slice Ak x.cols.length ck)) 26]) (fun s=>s≤n∧kpE22 x.sg.length none z=kpE22 x.sg.length (prev22 z s) (z.drop s)) (fun s=>n - s) 0 ⟨Nat.zero_le _,rfl⟩ ?_
 rintro k ⟨hk,hke⟩
 try dsimp only at hk hke
 repeat' (first|refine d1 ?_|fail)
 refine T_if rfl (fun h=>?_) (fun h=>?_)
 ·simp only [decide_eq_true_eq] at h
  obtain⟨i,hi⟩:∃ i,z[k]?=some i:=⟨_,List.getElem?_eq_getElem (by omega)⟩
  have hri:=src_int1 hz (k:=k) (by omega) hi
  rw [kpE22_step hi] at hke
  repeat' (first|refine d1 ?_|fail)
  refine T_if rfl (fun h6=>?_) (fun h6=>?_)
  ·have h7:i<0∨(x.sg.length:Int)≤i:=by simpa using h6
   have e1:=hE 2 (by decide) (hke.trans (if_pos h7))
   rw [herr 2 (by decide) e1,e1]
   repeat' (first|refine d1 ?_|fail)
   exact T_retM (vs:=[.agg (coL ByteArray.empty (.slice none 0 0) (.slice none 0 0) (.slice none 0 0)).toArray, .int .i64 2]) _ ⟨⟨pr,_,coL ByteArray.empty (.slice none 0 0) (.slice none 0 0) (.slice none 0 0),rfl,rfl,rfl,rfl,(fun h=>by cases h),rfl,rdAll⟩,rfl,trivial⟩ (co_nil1 _) ⟨((none,0),(none,0), .slice none 0 0),trivial,rfl,rfl⟩
  have h7:¬ (i<0∨(x.sg.length:Int)≤i):=by simp only [Bool.or_eq_false_iff,decide_eq_false_iff_not] at h6;omega
  rw [if_neg h7] at hke
  obtain⟨q,hq⟩:∃ q:Int,0<(k:Int)→RdC w bl (ol+((k:Int) - 1).toNat * 1) [.int .i64 q]∧prev22 z k=some q:=by
   cases k with
   | zero=>exact⟨0,fun h=>absurd h (by decide)⟩
   | succ k =>
    obtain⟨q,hq⟩:∃ q,z[k]?=some q:=⟨_,List.getElem?_eq_getElem (by omega)⟩
    exact⟨q,fun _=>⟨by rw [show ((k+1:Nat):Int) - 1=(k:Int) by omega];exact src_int1 hz (by omega) hq,hq⟩⟩
  have hle:leP22 (prev22 z k) i=(decide (0<(k:Int)) && decide (i≤q)):=by
   cases k with
   | zero=>rfl
   | succ k =>
    have h8:(0:Int)<((k+1:Nat):Int):=by omega
    rw [(hq h8).2,decide_eq_true h8];rfl
  repeat' (first|refine d1 ?_|(show T _ (.ops _ (_::_)::_) _ _ _;refine T_valC rfl (Val.load rfl (fun hg=>rdOld (hq (by ((simp only [List.cons_append,List.nil_append,GP,dstL,lookE,Nat.beq,cond,List.getElem?_cons_zero,List.getElem?_cons_succ,Option.bind_some,and_true,Bool.and_eq_true,Bool.or_eq_true,Bool.and_eq_false_iff,Bool.or_eq_false_iff,Bool.not_eq_true',Bool.not_eq_false',decide_eq_true_eq,decide_eq_false_iff_not] at hg);omega))).1)) rfl rfl rfl rfl rfl ?_)|fail)
  refine T_if rfl (fun h8=>?_) (fun h8=>?_)
  ·rw [if_pos (by rw [hle];exact h8)] at hke
   have e1:=hE 10 (by decide) hke
   rw [herr 10 (by decide) e1,e1]
   repeat' (first|refine d1 ?_|fail)
   exact T_retM (vs:=[.agg (coL ByteArray.empty (.slice none 0 0) (.slice none 0 0) (.slice none 0 0)).toArray, .int .i64 10]) _ ⟨⟨pr,_,coL ByteArray.empty (.slice none 0 0) (.slice none 0 0) (.slice none 0 0),rfl,rfl,rfl,rfl,(fun h=>by cases h),rfl,rdAll⟩,rfl,trivial⟩ (co_nil1 _) ⟨((none,0),(none,0), .slice none 0 0),trivial,rfl,rfl⟩
  rw [if_neg (by rw [hle,h8];decide)] at hke
  repeat' (first|refine d1 ?_|fail)
  exact T_backX (k+1) (by exact⟨by omega,hke⟩) (by omega) (hG:=by exact Hle.refl _)
 ·simp only [decide_eq_false_iff_not] at h
  obtain rfl:k=n:=by omega
  rw [kpE22_end (by omega)] at hke
  have hz2:=kpE22_zero hke
  have e1:keepV22 x z=(pick22 x (z.map Int.toNat),0):=by unfold keepV22;rw [if_neg (by rw [hc];simp),if_neg h5,if_neg (by rw [hke];simp)]
  have e2:keepT22 x l z=tks22 l (z.map Int.toNat):=by unfold keepT22;rw [e1];exact if_neg (fun h=>h rfl)
  rw [e1,e2]
  have hni:=intN_of fun k hk=>(hz2 k hk).1
  have hlt:=lt_of22 hz2
  have hln:(z.map Int.toNat).length=k:=by rw [List.length_map];exact hn
  generalize z.map Int.toNat=ks at hni hlt hln ⊢
  subst hni hln
  repeat' (first|refine d1 ?_|(show T _ (.ops _ (_::_)::_) _ _ _;refine T_op (OpT.call rfl rfl rfl rfl rfl (fun w hw=>choose22_spec x A1 c1 l A2 c2 Ak ck ks (some ⟨bl,ol,none⟩) cl w (hx.cls hw) hok (hz.old hw) hlt hkn hcn) ?_))|fail)
  rintro v R ⟨⟨y1,y2,y3⟩,-,rfl,rfl⟩
  dsimp only
  refine T_open fun p hp=>?_
  obtain⟨Ay,cy,csy,rfl,-⟩:=hp.cons_inv.2.cons_inv.2.tab
  refine T_le (H':=[fz p,blk pr (coL ByteArray.empty (.slice none 0 0) (.slice none 0 0) (.slice none 0 0)) 26,blk p2 (coL x.sec (.slice A1 x.sg.length c1) (.slice A2 l.length c2) (.slice Ak x.cols.length ck)) 26]) (Hle.refl _) ?_
  repeat' (first|refine d1 ?_|fail)
  exact T_retM (vs:=[.agg (coL (pick22 x ks).sec (.slice y1.1 (pick22 x ks).sg.length y1.2) (.slice y2.1 (tks22 l ks).length y2.2) (.slice Ay (pick22 x ks).cols.length cy)).toArray, .int .i64 0]) _ ⟨⟨pr,_,coL (pick22 x ks).sec (.slice y1.1 (pick22 x ks).sg.length y1.2) (.slice y2.1 (tks22 l ks).length y2.2) (.slice Ay (pick22 x ks).cols.length cy),rfl,rfl,rfl,rfl,(fun h=>by cases h),rfl,rdAll⟩,rfl,trivial⟩ ((Hle.nth 0 rfl).trans (hle_map (fz_dat hp))) ⟨(y1,y2, .slice Ay (pick22 x ks).cols.length cy),trivial,rfl,rfl⟩
theorem turnP22_spec (x:Co) (A1:Option Addr) (c1:Nat) (l:List TS) (A2:Option Addr) (c2:Nat) (Ak:Option Addr) (ck:Nat) (z:List Int) (Al:Option Addr) (n cl:Nat) (w:World) (hx:CoAt w x A1 c1 l A2 c2 (.slice Ak x.cols.length ck))
  (hz:Src w 1 Al n (z.map (Value.int .i64))) (hn:z.length=n) (hkn:n≤1000) (hcl:n≤cl) (hcn:x.cols.length≤1000) :
  Spec Tryz.prog 13 [.agg (coL x.sec (.slice A1 x.sg.length c1) (.slice A2 l.length c2) (.slice Ak x.cols.length ck)).toArray, .slice Al n cl] w (resP22 (turnV22 x z).1 (turnT22 x l z) (turnV22 x z).2):=by
 refine spec_of sg Tryz.func13 rfl rfl rfl ?_
 refine T_op (OpT.box (cs:=coL x.sec (.slice A1 x.sg.length c1) (.slice A2 l.length c2) (.slice Ak x.cols.length ck)) rfl rfl rfl rfl rfl rfl rfl (fun p2=>?_))
 repeat' (first|refine d1 ?_|(show T _ (.ops _ (_::_)::_) _ _ _;refine T_call rfl rfl rfl rfl rfl (fun w hw=>checkP22_spec x A1 c1 l A2 c2 _ w (hx.cls hw)) ?_)|(show ∀ _:Nat,T _ _ _ _ _;intro _))
 rename_i pr
 have herr:∀ e:Int,e≠0→turnV22 x z=(co0,e)→turnT22 x l z=[]:=fun e he h=>by unfold turnT22;rw [h];exact if_pos he
 refine T_if rfl (fun h=>?_) (fun h=>?_)
 ·have hc:chk22 x≠0:=by simpa using h
  have e1:turnV22 x z=(co0,1):=if_pos hc
  rw [herr 1 (by decide) e1,e1]
  repeat' (first|refine d1 ?_|fail)
  exact T_retM (vs:=[.agg (coL ByteArray.empty (.slice none 0 0) (.slice none 0 0) (.slice none 0 0)).toArray, .int .i64 1]) _ ⟨⟨pr,_,coL ByteArray.empty (.slice none 0 0) (.slice none 0 0) (.slice none 0 0),rfl,rfl,rfl,rfl,(fun h=>by cases h),rfl,rdAll⟩,rfl,trivial⟩ (co_nil1 _) ⟨((none,0),(none,0), .slice none 0 0),trivial,rfl,rfl⟩
 have hc:chk22 x=0:=by simpa using h
 have hok:=chk22_iff.1 hc
 obtain⟨h1,h2,h3⟩:=hx.row hok
 repeat' (first|refine d1 ?_|fail)
 refine T_if rfl (fun h4=>?_) (fun h4=>?_)
 ·have h5:z.length≠x.sg.length:=by have:=h4;simp at this;omega
  have e1:turnV22 x z=(co0,9):=by unfold turnV22;rw [if_neg (by rw [hc];simp),if_pos h5]
  rw [herr 9 (by decide) e1,e1]
  repeat' (first|refine d1 ?_|fail)
  exact T_retM (vs:=[.agg (coL ByteArray.empty (.slice none 0 0) (.slice none 0 0) (.slice none 0 0)).toArray, .int .i64 9]) _ ⟨⟨pr,_,coL ByteArray.empty (.slice none 0 0) (.slice none 0 0) (.slice none 0 0),rfl,rfl,rfl,rfl,(fun h=>by cases h),rfl,rdAll⟩,rfl,trivial⟩ (co_nil1 _) ⟨((none,0),(none,0), .slice none 0 0),trivial,rfl,rfl⟩
 have h5:¬ z.length≠x.sg.length:=by have:=h4;simp at this;omega
 obtain⟨bl,ol,rfl⟩:=hz.base (by omega)
 have hE:∀ e:Int,e≠0→roE22 x.sg.length [] z=e→turnV22 x z=(co0,e):=fun e he h=>by unfold turnV22;rw [if_neg (by rw [hc];simp),if_neg h5,if_pos (by rw [h];exact he),h]
 repeat' (first|refine d1 ?_|fail)
 refine T_loopX (fun s:Nat=>[(21, .int .i64 (s:Nat))]) (fun _=>[blk pr (coL ByteArray.empty (.slice none 0 0) (.slice none 0 0) (.slice none 0 0)) 26,blk p2 (coL x.sec (.slice A1 x.sg.length c1) (.slice A2 l.length c2) (.slice Ak x.cols.length ck)) 26]) (fun s=>s≤n∧roE22 x.sg.length [] z=roE22 x.sg.length (z.take s) (z.drop s)) (fun s=>n - s) 0 ⟨Nat.zero_le _,rfl⟩ ?_
 rintro k ⟨hk,hke⟩
 try dsimp only at hk hke
 repeat' (first|refine d1 ?_|fail)
 refine T_if rfl (fun h=>?_) (fun h=>?_)
 ·simp only [decide_eq_true_eq] at h
  obtain⟨i,hi⟩:∃ i,z[k]?=some i:=⟨_,List.getElem?_eq_getElem (by omega)⟩
  have hri:=src_int1 hz (k:=k) (by omega) hi
  rw [roE22_step hi] at hke
  repeat' (first|refine d1 ?_|fail)
  refine T_if rfl (fun h6=>?_) (fun h6=>?_)
  ·have h7:i<0∨(x.sg.length:Int)≤i:=by simpa using h6
   have e1:=hE 2 (by decide) (hke.trans (if_pos h7))
   rw [herr 2 (by decide) e1,e1]
   repeat' (first|refine d1 ?_|fail)
   exact T_retM (vs:=[.agg (coL ByteArray.empty (.slice none 0 0) (.slice none 0 0) (.slice none 0 0)).toArray, .int .i64 2]) _ ⟨⟨pr,_,coL ByteArray.empty (.slice none 0 0) (.slice none 0 0) (.slice none 0 0),rfl,rfl,rfl,rfl,(fun h=>by cases h),rfl,rdAll⟩,rfl,trivial⟩ (co_nil1 _) ⟨((none,0),(none,0), .slice none 0 0),trivial,rfl,rfl⟩
  have h7:¬ (i<0∨(x.sg.length:Int)≤i):=by simp only [Bool.or_eq_false_iff,decide_eq_false_iff_not] at h6;omega
  rw [if_neg h7] at hke
  have hle:((z.take k).any fun x=>decide (i=x))=decide (i∈z.take k):=by
   rw [Bool.eq_iff_iff,List.any_eq_true,decide_eq_true_eq]
   exact⟨fun⟨y,hy,e⟩=>by rw [of_decide_eq_true e];exact hy,fun h=>⟨i,h,decide_eq_true rfl⟩⟩
  repeat' (first|refine d1 ?_|(show T _ (.ops _ (_::_)::_) _ _ _;refine T_call rfl rfl rfl rfl rfl (fun w hw=>containsI_spec (some ⟨bl,ol,none⟩) k cl (z.take k) i w (by have h9:=src_take1 (hz.old hw) k (by omega);rw [← List.map_take] at h9;exact h9) (by rw [List.length_take];omega) (by omega)) ?_)|fail)
  rw [hle]
  refine T_if rfl (fun h8=>?_) (fun h8=>?_)
  ·rw [if_pos (of_decide_eq_true h8)] at hke
   have e1:=hE 7 (by decide) hke
   rw [herr 7 (by decide) e1,e1]
   repeat' (first|refine d1 ?_|fail)
   exact T_retM (vs:=[.agg (coL ByteArray.empty (.slice none 0 0) (.slice none 0 0) (.slice none 0 0)).toArray, .int .i64 7]) _ ⟨⟨pr,_,coL ByteArray.empty (.slice none 0 0) (.slice none 0 0) (.slice none 0 0),rfl,rfl,rfl,rfl,(fun h=>by cases h),rfl,rdAll⟩,rfl,trivial⟩ (co_nil1 _) ⟨((none,0),(none,0), .slice none 0 0),trivial,rfl,rfl⟩
  rw [if_neg (of_decide_eq_false h8)] at hke
  repeat' (first|refine d1 ?_|fail)
  exact T_backX (k+1) (by exact⟨by omega,hke⟩) (by omega) (hG:=by exact Hle.refl _)
 ·simp only [decide_eq_false_iff_not] at h
  obtain rfl:k=n:=by omega
  rw [roE22_end (by omega)] at hke
  have hz2:=roE22_zero hke
  have e1:turnV22 x z=(pick22 x (z.map Int.toNat),0):=by unfold turnV22;rw [if_neg (by rw [hc];simp),if_neg h5,if_neg (by rw [hke];simp)]
  have e2:turnT22 x l z=tks22 l (z.map Int.toNat):=by unfold turnT22;rw [e1];exact if_neg (fun h=>h rfl)
  rw [e1,e2]
  have hni:=intN_of fun k hk=>(hz2 k hk).1
  have hlt:=lt_of22 hz2
  have hln:(z.map Int.toNat).length=k:=by rw [List.length_map];exact hn
  generalize z.map Int.toNat=ks at hni hlt hln ⊢
  subst hni hln
  repeat' (first|refine d1 ?_|(show T _ (.ops _ (_::_)::_) _ _ _;refine T_op (OpT.call rfl rfl rfl rfl rfl (fun w hw=>choose22_spec x A1 c1 l A2 c2 Ak ck ks (some ⟨bl,ol,none⟩) cl w (hx.cls hw) hok (hz.old hw) hlt hkn hcn) ?_))|fail)
  rintro v R ⟨⟨y1,y2,y3⟩,-,rfl,rfl⟩
  dsimp only
  refine T_open fun p hp=>?_
  obtain⟨Ay,cy,csy,rfl,-⟩:=hp.cons_inv.2.cons_inv.2.tab
  refine T_le (H':=[fz p,blk pr (coL ByteArray.empty (.slice none 0 0) (.slice none 0 0) (.slice none 0 0)) 26,blk p2 (coL x.sec (.slice A1 x.sg.length c1) (.slice A2 l.length c2) (.slice Ak x.cols.length ck)) 26]) (Hle.refl _) ?_
  repeat' (first|refine d1 ?_|fail)
  exact T_retM (vs:=[.agg (coL (pick22 x ks).sec (.slice y1.1 (pick22 x ks).sg.length y1.2) (.slice y2.1 (tks22 l ks).length y2.2) (.slice Ay (pick22 x ks).cols.length cy)).toArray, .int .i64 0]) _ ⟨⟨pr,_,coL (pick22 x ks).sec (.slice y1.1 (pick22 x ks).sg.length y1.2) (.slice y2.1 (tks22 l ks).length y2.2) (.slice Ay (pick22 x ks).cols.length cy),rfl,rfl,rfl,rfl,(fun h=>by cases h),rfl,rdAll⟩,rfl,trivial⟩ ((Hle.nth 0 rfl).trans (hle_map (fz_dat hp))) ⟨(y1,y2, .slice Ay (pick22 x ks).cols.length cy),trivial,rfl,rfl⟩
end Go.Proofs.YtefieebkankfoaaGreatDoor
