/- The law CollationTexts holds for whatever case: the tied card of its row. No condition beyond the row's own. -/
import Derived.Test.YtblnhdnogjijiaaGreatDoorU5
import Derived.Test.YtblnhdnogjijiaaGreatDoorCards
import Derived.Test.YtblnhdnogjijiaaGreatDoorTie
set_option linter.unusedSectionVars false
set_option linter.unusedVariables false
set_option linter.unusedSimpArgs false
namespace Go.Proofs.YtblnhdnogjijiaaGreatDoor
open Go.RowKit Go.Shelf Go.Proofs
set_option maxRecDepth 100000
set_option maxHeartbeats 1000000

theorem costRef_spec (c:Costs) (w:World):Spec Tryz.prog 30 [c.val] w (fun v A=>v = .int .i64 (costE c)∧A=[]):=by
 refine spec_of sg Tryz.func30 rfl rfl rfl ?_
 repeat' (first|(show T _ (.ops _ (⟨_, .box _ _,_,_,_,_⟩::_)::_) _ _ _;refine T_op (OpT.box (cs:=c.cells) rfl rfl rfl rfl rfl rfl rfl (fun _=>?_)))|refine d1 ?_|(show ∀ _:Nat,T _ _ _ _ _;intro _))
 rename_i p b
 refine T_loop (fun k:Nat=>[(1, .pointer (some ⟨p,0,none⟩)),(3, .slice (some ⟨b,0,none⟩) 4 4),(4, .int .i64 k)]) (fun _=>[blk b c.cells 3,blk p c.cells 23]) (fun k=>k≤4∧∀ j x,j<k→c.ints[j]?=some x→badN x=false) (fun k=>4 - k) 0 ⟨by omega,fun j x h=>by omega⟩ ⟨rfl,rfl,rfl,trivial⟩ (Hle.refl _) ?_
 rintro k ⟨hk,hok⟩
 repeat' (first|refine d1 ?_|fail)
 refine T_if rfl (fun h=>?_) (fun h=>?_)
 ·simp only [decide_eq_true_eq] at h
  obtain⟨x,hx⟩:∃ x,c.ints[k]?=some x:=⟨_,List.getElem?_eq_getElem (by show k<4;omega)⟩
  have hx':c.cells[k]?=some (.int .i64 x):=by
   have:c.cells=c.ints.map (Value.int .i64):=rfl
   rw [this,List.getElem?_map,hx];rfl
  repeat' (first|refine d1 ?_|(show T _ (.ops _ (_::_)::_) _ _ _;first|refine T_load (v := .int .i64 x) rfl rfl rfl rfl rfl (rdOwn1 (b:=b) (by rw [show 0+(k:Int).toNat * 1=k by omega];exact hx')) ?_|refine T_loadC (v := .int .i64 x) rfl rfl rfl rfl rfl rfl rfl (fun _=>rdOwn1 (b:=b) (by rw [show 0+(k:Int).toNat * 1=k by omega];exact hx')) ?_)|fail)
  refine T_if rfl (fun h2=>?_) (fun h2=>?_)
  ·repeat' (first|refine d1 ?_|(show T _ (.code .ret::_) _ _ _;refine T_retV [] rfl (Hle.none _) ⟨congrArg (Value.int .i64) ?_,rfl⟩))
   have:c.ints.any badN=true:=List.any_eq_true.2 ⟨x,List.mem_of_getElem? hx,h2⟩
   unfold costE;rw [if_pos this]
  ·repeat' (first|refine d1 ?_|fail)
   refine T_back (k+1) ⟨by omega,fun j y hj hy=>?_⟩ (by omega) ⟨rfl,rfl,rfl,trivial⟩ (Hle.refl _)
   rcases Nat.lt_or_ge j k with h3|h3
   ·exact hok j y h3 hy
   ·rw [show j=k by omega,hx] at hy
    cases hy
    exact h2
 ·simp only [decide_eq_false_iff_not] at h
  have hany:c.ints.any badN=false:=by
   rw [List.any_eq_false]
   intro x hx
   obtain⟨j,hj,e⟩:=List.getElem_of_mem hx
   have hj4:j<4:=hj
   rw [hok j x (by omega) (by rw [List.getElem?_eq_getElem hj,e])]
   simp
  repeat' (first|refine d1 ?_|fail)
  refine T_if rfl (fun h2=>?_) (fun h2=>?_)
  ·simp only [decide_eq_true_eq] at h2
   repeat' (first|refine d1 ?_|(show T _ (.code .ret::_) _ _ _;refine T_retV [] rfl (Hle.none _) ⟨congrArg (Value.int .i64) ?_,rfl⟩))
   unfold costE;rw [if_neg (by rw [hany];simp),if_pos h2]
  ·simp only [decide_eq_false_iff_not] at h2
   repeat' (first|refine d1 ?_|(show T _ (.code .ret::_) _ _ _;refine T_retV [] rfl (Hle.none _) ⟨congrArg (Value.int .i64) ?_,rfl⟩))
   unfold costE;rw [if_neg (by rw [hany];simp),if_neg h2]

end Go.Proofs.YtblnhdnogjijiaaGreatDoor
namespace Go.Proofs.YtblnhdnogjijiaaGreatDoor
open Go.RowKit Go.Shelf Go.Proofs

def clean22 (l:List UInt8):Prop:=(124:UInt8) ∉ l∧(10:UInt8) ∉ l
theorem clean22_of {s:ByteArray} (h:∀ j,j<s.size→kAt s j≠0):clean22 s.data.toList:=by
 have key:∀ c:UInt8,kindI ((c.toNat:Nat):Int)=0→c ∉ s.data.toList:=by
  intro c hc hm
  obtain⟨j,hj,e⟩:=List.getElem_of_mem hm
  have hjs:j<s.size:=by simpa using hj
  have h1:=byteAt_nat s j hjs
  rw [List.getElem?_eq_getElem hj,e] at h1
  refine h j hjs ?_
  unfold kAt
  rw [← Option.some.inj h1]
  exact hc
 exact⟨key 124 (by decide),key 10 (by decide)⟩
theorem okAll_at {s:ByteArray} (h:okAll s=true):∀ j,j<s.size→kAt s j≠0:=by
 intro j hj
 unfold okAll at h
 rw [decide_eq_true_eq] at h
 have:=h j hj
 unfold okAt at this
 simp only [Bool.and_eq_true,decide_eq_true_eq] at this
 exact this.1
theorem isWordB_at {s:ByteArray} (h:isWordB s=true):∀ j,j<s.size→kAt s j≠0:=by
 simp only [isWordB,Bool.and_eq_true] at h
 exact okAll_at h.1.1.2
theorem gapStr_clean:∀ n:Nat,n<65→((gapStr n).data.toList.all fun c=>decide (c≠124) && decide (c≠10))=true∧1≤(gapStr n).size:=by decide +kernel
theorem tok22_clean {t:Tok} (h:tokE t=0):clean22 t.text.data.toList∧1≤t.text.size:=by
 unfold tokE at h
 split at h
 ·omega
 split at h
 ·omega
 split at h
 ·omega
 rename_i hf
 clear h
 unfold formBad at hf
 split at hf
 ·simp only [Bool.or_eq_true,Bool.not_eq_true',not_or,Bool.not_eq_false] at hf
  have hg:=hf.1
  unfold gappedB at hg
  rw [List.any_eq_true] at hg
  obtain⟨n,hn,hh⟩:=hg
  simp only [Bool.and_eq_true,decide_eq_true_eq] at hh
  obtain⟨h1,h2⟩:=gapStr_clean n (List.mem_range.1 hn)
  rw [← hh.2] at h1 h2
  rw [List.all_eq_true] at h1
  refine ⟨⟨fun hm=>?_,fun hm=>?_⟩,h2⟩
  ·have:=h1 _ hm;simp at this
  ·have:=h1 _ hm;simp at this
 ·split at hf
  ·rw [Bool.not_eq_true] at hf
   simp only [Bool.or_eq_false_iff,Bool.and_eq_false_iff,Bool.not_eq_false',decide_eq_true_eq] at hf
   obtain⟨⟨h1,h2⟩,-⟩:=hf
   have hs:t.text.size=1:=by omega
   refine ⟨clean22_of fun j hj=>?_,by omega⟩
   rw [show j=0 by omega]
   rcases h2 with h2|h2 <;> omega
  ·simp only [Bool.or_eq_true,Bool.not_eq_true',not_or,Bool.not_eq_false] at hf
   have hw:=hf.1.1.1
   exact⟨clean22_of (isWordB_at hw),(isWordB_size hw).1⟩
theorem badL_at {l:List Tok} (h:badL l=false):∀ t∈l,tokE t=0:=by
 intro t ht
 unfold badL at h
 rw [List.any_eq_false] at h
 have:=h t ht
 simpa using this
theorem cols22_src {l:List Tok} (hl:∀ t∈l,1≤t.text.size) (s:Nat):∀ {cols:List (List Int)},(∀ z∈srcC cols s,0≤z∧z<(l.length:Int)) →
  ((cols.map fun c=>txt22 l (c.getD s (-1))).filter fun w => !decide (w=ByteArray.empty))=(srcC cols s).map (txt22 l)
 | [],_=>rfl
 | c::cols,h=>by
  rw [srcC_cons] at h ⊢
  rw [List.map_cons,List.filter_cons]
  by_cases hz:c.getD s (-1) = -1
  ·rw [if_pos hz] at h ⊢
   rw [hz,txt22_neg22 l (by omega),if_neg (by simp),List.nil_append]
   exact cols22_src hl s (by simpa using h)
  ·rw [if_neg hz] at h ⊢
   obtain⟨h1,h2⟩:=h (c.getD s (-1)) (List.mem_append_left _ (List.mem_singleton_self _))
   have hlt:(c.getD s (-1)).toNat<l.length:=by omega
   have ht:l[(c.getD s (-1)).toNat]?=some l[(c.getD s (-1)).toNat]:=List.getElem?_eq_getElem hlt
   have e:txt22 l (c.getD s (-1))=l[(c.getD s (-1)).toNat].text:=by
    unfold txt22
    rw [if_neg (by omega),ht]
   have hne:l[(c.getD s (-1)).toNat].text≠ByteArray.empty:=fun he=>by
    have:=hl _ (List.mem_of_getElem? ht)
    rw [he] at this
    exact absurd this (by decide)
   rw [if_pos (by rw [e];simpa using hne),List.map_append,List.map_singleton,List.singleton_append]
   congr 1
   exact cols22_src hl s fun z hz'=>h z (List.mem_append_right _ hz')
theorem upto_txt (l:List Tok):(upto l.length).map (txt22 l)=l.map Tok.text:=by
 unfold upto
 rw [List.map_map]
 refine List.ext_getElem? fun j=>?_
 rw [List.getElem?_map,List.getElem?_map]
 by_cases hj:j<l.length
 ·rw [List.getElem?_range hj,List.getElem?_eq_getElem hj,Option.map_some,Option.map_some]
  exact congrArg some (txt22_get (List.getElem?_eq_getElem hj))
 ·rw [List.getElem?_eq_none (by rw [List.length_range];omega),List.getElem?_eq_none (by omega)];rfl
theorem row22_eq (x:Co) (k:Nat):row22 x k=x.cols.map fun c=>txt22 (x.m.getD k []) (c.getD k (-1)):=by
 unfold row22
 refine List.ext_getElem? fun j=>?_
 rw [List.getElem?_map,List.getElem?_map]
 by_cases hj:j<x.cols.length
 ·rw [List.getElem?_range hj,List.getElem?_eq_getElem hj,Option.map_some,Option.map_some]
  unfold cell22
  rw [List.getD_eq_getElem?_getD (l:=x.cols),List.getElem?_eq_getElem hj,Option.getD_some]
 ·rw [List.getElem?_eq_none (by rw [List.length_range];omega),List.getElem?_eq_none (by omega)];rfl
theorem row22_words {x:Co} (h:Ok22 x) {k:Nat} (hk:k<x.sg.length):((row22 x k).filter fun w => !decide (w=ByteArray.empty))=words22 x k:=by
 have hl:=h.head.len
 have hkm:k<x.m.length:=by omega
 have hls:(lens22 x.m)[k]?=some (x.m.getD k []).length:=by
  unfold lens22
  rw [List.getElem?_map,List.getD_eq_getElem?_getD,List.getElem?_eq_getElem hkm];rfl
 have hs:=h.cols.src k _ hls
 rw [row22_eq,cols22_src (fun t ht=>(tok22_clean (badL_at (h.head.tok _ (getD_mem22 _ hkm)).2 t ht)).2) k (by rw [hs];intro z hz;exact upto_mem.1 hz),hs,upto_txt]
 rfl
end Go.Proofs.YtblnhdnogjijiaaGreatDoor
namespace Go.Proofs.YtblnhdnogjijiaaGreatDoor
open Go.RowKit Go.Shelf Go.Proofs
set_option maxRecDepth 100000
set_option maxHeartbeats 1000000

theorem great22C_spec (c:Costs) (sec:ByteArray) (sg':List ByteArray) (A1:Option Addr) (c1:Nat) (l:List TS) (A2:Option Addr) (c2:Nat) (w:World) (hs1:Src w 1 A1 sg'.length (sg'.map Value.string)) (hb1:sg'.length≤9223372036854775807)
  (hs2:Src w 1 A2 l.length (l.map TS.val)) (hl:TsOk w l) (hb2:l.length≤9223372036854775807) :
  Spec Tryz.prog 12 [.agg (case22L c sec (.slice A1 sg'.length c1) (.slice A2 l.length c2)).toArray] w (fun v R=>v = .bool (grT22 (l.map TS.l) || decide (36<sg'.length) || grN22 sec sg')∧R=[]):=by
 refine spec_of sg Tryz.func12 rfl rfl rfl ?_
 repeat' (first|(show T _ (.ops _ (⟨_, .box _ _,_,_,_,_⟩::_)::_) _ _ _;refine T_op (OpT.box (cs:=case22L c sec (.slice A1 sg'.length c1) (.slice A2 l.length c2)) rfl rfl rfl rfl rfl rfl rfl (fun _=>?_)))|refine d1 ?_|(show T _ (.ops _ (_::_)::_) _ _ _;first|refine T_call rfl rfl rfl rfl rfl (fun w hw=>greatTokens_spec A2 c2 l w (hs2.old hw) ⟨fun t ht=>src_below (hl.src t ht) hw.below,hl.len,hl.bd⟩ hb2) ?_|refine T_callC rfl rfl rfl rfl rfl rfl rfl (fun hG w hw=>greatNames_spec sec sg' A1 c1 w (hs1.old hw) hb1) ?_)|fail)
 rw [show decide ((36:Int)<(sg'.length:Int))=decide (36<sg'.length) from decide_eq_decide.2 (by omega)]
 repeat' (first|(show T _ (.code .ret::_) _ _ _;refine T_retV [] rfl (Hle.none _) ⟨rfl,rfl⟩))
end Go.Proofs.YtblnhdnogjijiaaGreatDoor
namespace Go.Proofs.YtblnhdnogjijiaaGreatDoor
open Go.RowKit Go.Shelf Go.Proofs
set_option maxRecDepth 100000
set_option maxHeartbeats 1000000

theorem hd22C {w:World} {sec:ByteArray} {sg':List ByteArray} {A1 A2:Option Addr} {c1 c2:Nat} {l:List TS} (hst:Std w) (hs1:Src w 1 A1 sg'.length (sg'.map Value.string)) (hb1:sg'.length≤c1) (hs2:Src w 1 A2 l.length (l.map TS.val)) (hl:TsOk w l)
  (h:(grT22 (l.map TS.l) || decide (36<sg'.length) || grN22 sec sg')=false):HdAt w sec sg' A1 c1 l A2 c2∧(l.length≤6∨32<l.length):=by
 unfold grN22 at h
 simp only [Bool.or_eq_false_iff,decide_eq_false_iff_not,List.any_eq_false,decide_eq_true_eq] at h
 obtain⟨⟨h1,h2⟩,h3,h4⟩:=h
 obtain⟨g1,g2⟩:=grT22_no h1
 have g3:=grT22_txt h1
 rw [List.length_map] at g2
 have hm:∀ t∈l,t.l∈l.map TS.l:=fun t ht=>List.mem_map_of_mem ht
 exact⟨⟨hst,hs1,hb1,hs2,hl,by omega,fun s hs=>by have:=h3 s hs;omega,by omega,by omega,fun t ht=>⟨by have:=(g1 _ (hm t ht)).1;rw [hl.len t ht] at this;exact this,(g1 _ (hm t ht)).2⟩,fun t ht=>g3 _ (hm t ht)⟩,by omega⟩
theorem coSm0 {w:World}:CoSm w co0 none 0 [] none 0 (.slice none 0 0) :=
 ⟨Rd.s none 0 0 1 [] rfl (Nat.le_refl _) (by omega) (fun h=>absurd h (by omega)) .nil .nil,⟨rfl,fun h=>absurd h (Nat.not_lt_zero _)⟩,Nat.zero_le _,⟨fun t h=>(by cases h),fun t h=>(by cases h),fun t h=>(by cases h)⟩,rfl,
  Rd.s none 0 0 1 [] rfl (Nat.le_refl _) (by omega) (fun h=>absurd h (by omega)) .nil .nil⟩
theorem coAt22 {p:Frag} {x:Co} {l:List TS} {A0 A0' A1 A2:Option Addr} {c0 c0' c1 c2:Nat} {y3:Value} (hp:Rd (fr p) [.slice A1 x.sg.length c1, .slice A2 l.length c2,y3] [strsD x.sg, .s 1 ((l.map TS.val).map .v),rowsD x.cols]) (hm:l.map TS.l=x.m)
  {w0 w:World} {H:List HA} [FocusZ H p] (hw:Cls w0 w H) (hd:HdAt w x.sec x.sg A0 c0 l A0' c0'):CoAt w x A1 c1 l A2 c2 y3:=by
 have hs:=ofP22 hp hm hw hd.ok
 obtain⟨A,cap,e,g1,g2,g3⟩:=hs.s1.strs
 cases e
 exact⟨⟨hd.hst,g3,g1,hs.s2,hd.ok,hd.sec,hd.sig,hd.n1,hd.n2,hd.tok,hd.txt⟩,hm,hs.cols⟩
theorem colV22_val {x:Co} (h:Ok22 x) {i:Nat} (hi:i<x.cols.length):colV22 x (i:Int)=(col22 x i,0):=by
 unfold colV22
 rw [if_neg (by rw [chk22_iff.2 h];simp),if_neg (by omega),Int.toNat_natCast]
theorem textV22_val {x:Co} (h:Ok22 x) {i:Nat} (hi:i<x.sg.length):textV22 x (i:Int)=(words22 x i,0):=by
 unfold textV22
 rw [if_neg (by rw [chk22_iff.2 h];simp),if_neg (by omega),Int.toNat_natCast]
end Go.Proofs.YtblnhdnogjijiaaGreatDoor
namespace Go.Proofs.YtblnhdnogjijiaaGreatDoor
open Go.RowKit Go.Shelf Go.ChangeShapes Go.WideShapes Go.Proofs
set_option maxRecDepth 100000
set_option maxHeartbeats 1000000

theorem filt22_snoc (f:Nat→ByteArray) (k:Nat):(((List.range (k+1)).map f).filter fun w => !decide (w=ByteArray.empty))=(((List.range k).map f).filter fun w => !decide (w=ByteArray.empty))++(if (!decide (f k=ByteArray.empty))=true then [f k] else []):=by
 rw [List.range_succ,List.map_append,List.filter_append]
 congr 1
 show List.filter _ [f k]=_
 rw [List.filter_cons,List.filter_nil]
theorem filt22_le (f:Nat→ByteArray) {k n:Nat} (h:k≤n):(((List.range k).map f).filter fun w => !decide (w=ByteArray.empty)).length≤(((List.range n).map f).filter fun w => !decide (w=ByteArray.empty)).length :=
 ((List.range_sublist.2 h).map f |>.filter _).length_le
theorem texts22Law_spec (c:Costs) (sec:ByteArray) (sg':List ByteArray) (m:List (List Tok)) (y1 y2:Value) (w:World) (hst:Std w) (hr1:Rd (wr w) [y1] [strsD sg']) (hr2:Rd (wr w) [y2] [.s 1 (m.map toksD)]) :
  Spec Tryz.prog 6 [.agg (case22L c sec y1 y2).toArray] w (fun v R=>v = .bool true∧R=[]):=by
 obtain⟨A1,c1,rfl,g1,g2,g3⟩:=hr1.strs
 obtain⟨A2,c2,l,rfl,g4,g5,g6,rfl⟩:=hr2.toksL
 refine spec_of sg Tryz.func6 rfl rfl rfl ?_
 refine T_op (OpT.box (cs:=case22L c sec (.slice A1 sg'.length c1) (.slice A2 l.length c2)) rfl rfl rfl rfl rfl rfl rfl (fun pc=>?_))
 repeat' (first|refine d1 ?_|(show T _ (.ops _ (_::_)::_) _ _ _;first|refine T_valC rfl (Val.loadA (vs:=c.cells) rfl (fun _=>rdOwn (b:=pc) (fun j u hu=>by rcases j with _|_|_|_|j <;> first|exact hu|(simp at hu))) rfl) rfl rfl rfl rfl rfl ?_|refine T_call rfl rfl rfl rfl rfl (fun w hw=>great22C_spec c sec sg' A1 c1 l A2 c2 w (g3.old hw) (by omega) (g5.old hw) ⟨fun t ht=>src_below (g6.src t ht) hw.below,g6.len,g6.bd⟩ g4) ?_|refine T_callC rfl rfl rfl rfl rfl rfl rfl (fun hg w hw=>costRef_spec c w) ?_)|fail)
 refine T_if rfl (fun hg=>?_) (fun hg=>?_)
 ·repeat' (first|refine d1 ?_|(show T _ (.ops _ (_::_)::_) _ _ _;refine T_call rfl rfl rfl rfl rfl (fun w hw=>awake22_spec w (hst.cls hw)) ?_)|(show T _ (.code .ret::_) _ _ _;refine T_retV [] rfl (Hle.none _) ⟨rfl,rfl⟩))
 rw [Bool.or_eq_false_iff] at hg
 obtain⟨hd,hl6⟩:=hd22C hst g3 g1 g5 g6 hg.1
 have hc:costE c=0:=by simpa using hg.2
 repeat' (first|refine d1 ?_|(show T _ (.ops _ (_::_)::_) _ _ _;first|refine T_val rfl (Val.loadA (vs:=c.cells) rfl (fun _=>rdOwn (b:=pc) (fun j u hu=>by rcases j with _|_|_|_|j <;> first|exact hu|(simp at hu))) rfl) rfl rfl rfl ?_|refine T_op (OpT.call rfl rfl rfl rfl rfl (fun w hw=>collateP22_spec c sec sg' A1 c1 l A2 c2 w (hd.cls hw) hl6) ?_))|fail)
 rintro v R ⟨⟨y1,y2,y3⟩,-,rfl,rfl⟩
 by_cases hh:head22 sec sg' (l.map TS.l)=0
 ·obtain⟨f1,f2,f3,f4,f5,f6,f7,f8⟩:=made22_facts hc hh g6.len (fun t ht=>(hd.tok t ht).1)
  rw [f7,f8]
  dsimp only
  refine T_open fun p hp=>?_
  rw [lens22_of g6.len] at f6
  generalize colsC22 c l=cols at hp f6 ⊢
  obtain⟨Ak,ck,csk,rfl,hck1,hck2,-⟩:=hp.cons_inv.2.cons_inv.2.tab
  have hok:Ok22 ⟨sec,sg',l.map TS.l,cols⟩:=⟨head22_iff.1 hh,f6⟩
  refine T_le (H':=[fz p,blk pc (case22L c sec (.slice A1 sg'.length c1) (.slice A2 l.length c2)) 27]) (Hle.refl _) ?_
  repeat' (first|refine d1 ?_|(show ∀ _:Nat,T _ _ _ _ _;intro _))
  rename_i bx
  refine T_if rfl (fun h=>by exfalso;simp at h) (fun _=>?_)
  refine T_le (H':=[blk bx (coL sec (.slice y1.1 sg'.length y1.2) (.slice y2.1 l.length y2.2) (.slice Ak cols.length ck)) 32,fz p,blk pc (case22L c sec (.slice A1 sg'.length c1) (.slice A2 l.length c2)) 27]) (Hle.refl _) ?_
  have hat:∀ {w':World} {H:List HA} [FocusZ H p],Cls w w' H→CoAt w' ⟨sec,sg',l.map TS.l,cols⟩ y1.1 y1.2 l y2.1 y2.2 (.slice Ak cols.length ck):=fun hw=>coAt22 hp rfl hw (hd.cls hw)
  repeat' (first|refine d1 ?_|(show T _ (.ops _ (_::_)::_) _ _ _;first|refine T_call rfl rfl rfl rfl rfl (fun w hw=>checkP22_spec ⟨sec,sg',l.map TS.l,cols⟩ y1.1 y1.2 l y2.1 y2.2 (.slice Ak cols.length ck) w (hat hw)) ?_|refine T_callC rfl rfl rfl rfl rfl rfl rfl (fun hg w hw=>equalStr_spec (.slice y1.1 sg'.length y1.2) (.slice A1 sg'.length c1) sg' sg' w (ofP22 (x:=⟨sec,sg',l.map TS.l,cols⟩) hp rfl hw ⟨fun t ht=>src_below (g6.src t ht) hw.below,g6.len,g6.bd⟩).s1 (hr1.old hw)) ?_|refine T_callC rfl rfl rfl rfl rfl rfl rfl (fun hg w hw=>sameToks22_spec y2.1 A2 y2.2 c2 l l w (hat hw).hd.s2 (hat hw).hd.ok g4 (g5.old hw) (hat hw).hd.ok g4) ?_)|fail)
  rw [chk22_iff.2 hok]
  refine T_if rfl (fun h=>by exfalso;simp at h) (fun _=>?_)
  obtain⟨hr1',hr2',hr3'⟩:l.length=sg'.length∧sg'.length≤32∧1≤sg'.length:=⟨by rw [← hok.head.len];exact (List.length_map ..).symm,hok.head.le,hok.head.pos⟩
  obtain⟨b2,o2,rfl⟩:=g5.base (by omega)
  repeat' (first|refine d1 ?_|fail)
  refine T_loopX (fun k:Nat=>[(74, .int .i64 (k:Nat))]) (fun _=>[blk bx (coL sec (.slice y1.1 sg'.length y1.2) (.slice y2.1 l.length y2.2) (.slice Ak cols.length ck)) 32,fz p,blk pc (case22L c sec (.slice A1 sg'.length c1) (.slice (some ⟨b2,o2,none⟩) l.length c2)) 27]) (fun k=>k≤l.length) (fun k=>l.length - k) 0 (Nat.zero_le _) ?_
  rintro s hsl
  repeat' (first|refine d1 ?_|fail)
  refine T_if rfl (fun h3=>?_) (fun h3=>?_)
  ·simp only [decide_eq_true_eq] at h3
   obtain⟨t,ht⟩:∃ t,l[s]?=some t:=⟨_,List.getElem?_eq_getElem (by omega)⟩
   have htm:=List.mem_of_getElem? ht
   have hrt:=hd.hdr ht
   have htn:=(hd.tok t htm).1
   have htl:t.l.length=t.n:=g6.len t htm
   have hww:words22 ⟨sec,sg',l.map TS.l,cols⟩ s=t.l.map Tok.text:=by unfold words22;rw [List.getD_eq_getElem?_getD];show ((l.map TS.l)[s]?.getD []).map Tok.text=_;rw [List.getElem?_map,ht];rfl
   repeat' (first|refine d1 ?_|fail)
   refine T_nilrow 9 1 ?_
   refine T_loopX (fun s:Nat × Option Addr × Nat=>[(81, .int .i64 (s.1:Nat)),(7, .slice s.2.1 s.1 s.2.2)]) (fun s=>[row 9 1 s.2.1 s.2.2 s.1 (((t.l.take s.1).map Tok.text).map Value.string),blk bx (coL sec (.slice y1.1 sg'.length y1.2) (.slice y2.1 l.length y2.2) (.slice Ak cols.length ck)) 32,fz p,blk pc (case22L c sec (.slice A1 sg'.length c1) (.slice (some ⟨b2,o2,none⟩) l.length c2)) 27]) (fun s=>s.1≤t.n) (fun s=>t.n - s.1) (0,none,0) (Nat.zero_le _) ?_
   rintro⟨k,A',c'⟩ hk
   dsimp only at hk ⊢
   repeat' (first|refine d1 ?_|fail)
   refine T_if rfl (fun h5=>?_) (fun h5=>?_)
   ·simp only [decide_eq_true_eq] at h5
    have hkn:k<t.n:=by omega
    obtain⟨b4,o4,eA⟩:=(g6.src t htm).base (by omega)
    obtain⟨y,hy⟩:∃ y,t.l[k]?=some y:=⟨_,List.getElem?_eq_getElem (by omega)⟩
    have hr2:RdC w b4 (o4+(k:Int).toNat * 6) y.cells:=by have:=(g6.src t htm).getT (k:=k) (by omega) hy;rw [eA] at this;exact this
    rw [eA]
    have htk:=take_snoc _ _ _ hy
    repeat' (first|refine d1 ?_|(show T _ (.ops _ (_::_)::_) _ _ _;refine T_op (OpT.append (A:=A') rfl rfl rfl rfl rfl rfl rfl rfl rfl rfl (fun w hw=>Src.own hw rfl) rfl (by dsimp only;omega) (by omega) (fun A2 c2 hA2=>?_)))|(show ∀ _:Nat,T _ _ _ _ _;intro _))
    refine T_backX (k+1,A2,c2) (by dsimp only;omega) (by dsimp only;omega) (hG:=?_)
    rw [htk,List.map_append,List.map_append]
    exact Hle.srt2
   ·simp only [decide_eq_false_iff_not] at h5
    obtain rfl:k=t.n:=by omega
    rw [List.take_of_length_le (by omega)]
    refine T_le (H':=[dat [.slice A' t.n c'] [strsD (t.l.map Tok.text)],blk bx (coL sec (.slice y1.1 sg'.length y1.2) (.slice y2.1 l.length y2.2) (.slice Ak cols.length ck)) 32,fz p,blk pc (case22L c sec (.slice A1 sg'.length c1) (.slice (some ⟨b2,o2,none⟩) l.length c2)) 27]) dat_rowV ?_
    refine T_open fun q hq=>?_
    refine T_le (H':=[fz q,blk bx (coL sec (.slice y1.1 sg'.length y1.2) (.slice y2.1 l.length y2.2) (.slice Ak cols.length ck)) 32,fz p,blk pc (case22L c sec (.slice A1 sg'.length c1) (.slice (some ⟨b2,o2,none⟩) l.length c2)) 27]) (Hle.refl _) ?_
    repeat' (first|refine d1 ?_|fail)
    refine T_nilrow 9 1 ?_
    refine T_loopX (fun s:Nat × Option Addr × Nat × Nat=>[(94, .int .i64 (s.1:Nat)),(8, .slice s.2.1 s.2.2.2 s.2.2.1)]) (fun z=>[row 9 1 z.2.1 z.2.2.1 z.2.2.2 (((((List.range z.1).map fun i=>cell22 ⟨sec,sg',l.map TS.l,cols⟩ s i).filter fun w => !decide (w=ByteArray.empty))).map Value.string),fz q,blk bx (coL sec (.slice y1.1 sg'.length y1.2) (.slice y2.1 l.length y2.2) (.slice Ak cols.length ck)) 32,fz p,blk pc (case22L c sec (.slice A1 sg'.length c1) (.slice (some ⟨b2,o2,none⟩) l.length c2)) 27]) (fun z=>z.1≤cols.length∧z.2.2.2=(((List.range z.1).map fun i=>cell22 ⟨sec,sg',l.map TS.l,cols⟩ s i).filter fun w => !decide (w=ByteArray.empty)).length) (fun z=>cols.length - z.1) (0,none,0,0) ⟨Nat.zero_le _,rfl⟩ ?_
    have hrw:(((List.range cols.length).map fun i=>cell22 ⟨sec,sg',l.map TS.l,cols⟩ s i).filter fun w => !decide (w=ByteArray.empty))=t.l.map Tok.text:=(row22_words hok (by show s<sg'.length;omega)).trans hww
    rintro⟨k,A3,c3,n3⟩ ⟨hk9,hn3⟩
    dsimp only at hk9 hn3 ⊢
    repeat' (first|refine d1 ?_|fail)
    refine T_if rfl (fun h6=>?_) (fun h6=>?_)
    ·simp only [decide_eq_true_eq] at h6
     have hkc:k<cols.length:=by omega
     repeat' (first|refine d1 ?_|(show T _ (.ops _ (_::_)::_) _ _ _;refine T_op (OpT.call rfl rfl rfl rfl rfl (fun w hw=>columnP22_spec ⟨sec,sg',l.map TS.l,cols⟩ y1.1 y1.2 l y2.1 y2.2 (.slice Ak cols.length ck) (k:Int) w (hat hw)) ?_))|fail)
     rintro v R ⟨y,-,rfl,rfl⟩
     rw [colV22_val hok hkc]
     refine T_open fun r hr=>?_
     refine T_le (H':=[fz r,row 9 1 A3 c3 n3 ((((List.range k).map fun i=>cell22 ⟨sec,sg',l.map TS.l,cols⟩ s i).filter fun w => !decide (w=ByteArray.empty)).map Value.string),fz q,blk bx (coL sec (.slice y1.1 sg'.length y1.2) (.slice y2.1 l.length y2.2) (.slice Ak cols.length ck)) 32,fz p,blk pc (case22L c sec (.slice A1 sg'.length c1) (.slice (some ⟨b2,o2,none⟩) l.length c2)) 27]) (Hle.refl _) ?_
     obtain⟨Ay,cy,rfl,-,-,hy8⟩:=hr.rowS
     rw [col22_len] at hy8 ⊢
     obtain⟨by9,oy,rfl,hyr⟩:=hy8 hr3'
     have hys:=hyr s _ (col22_get (by show s<sg'.length;omega))
     repeat' (first|refine d1 ?_|fail)
     refine T_if rfl (fun h=>by exfalso;simp at h) (fun _=>?_)
     repeat' (first|refine d1 ?_|(show T _ (.ops _ (_::_)::_) _ _ _;refine T_val rfl (Val.load rfl (fun hg=>rdFz (p:=r) (u := .string (cell22 ⟨sec,sg',l.map TS.l,cols⟩ s k)) (b:=by9) (by rw [off1];exact hys))) rfl rfl rfl ?_)|fail)
     have hf:=filt22_snoc (fun i=>cell22 ⟨sec,sg',l.map TS.l,cols⟩ s i) k
     have hfl:=filt22_le (fun i=>cell22 ⟨sec,sg',l.map TS.l,cols⟩ s i) hk9
     rw [hrw,List.length_map,htl, ← hn3] at hfl
     refine T_if rfl (fun h7=>?_) (fun h7=>?_)
     ·rw [if_pos (show (!decide (cell22 ⟨sec,sg',l.map TS.l,cols⟩ s k=ByteArray.empty))=true from h7)] at hf
      repeat' (first|refine d1 ?_|(show T _ (.ops _ (_::_)::_) _ _ _;first|refine T_val rfl (Val.load rfl (fun hg=>rdFz (p:=r) (u := .string (cell22 ⟨sec,sg',l.map TS.l,cols⟩ s k)) (b:=by9) (by rw [off1];exact hys))) rfl rfl rfl ?_|refine T_op (OpT.append (A:=A3) rfl rfl rfl rfl rfl rfl rfl rfl rfl rfl (fun w hw=>Src.own hw rfl) rfl (by dsimp only;omega) (by omega) (fun A4 c4 hA4=>?_)))|(show ∀ _:Nat,T _ _ _ _ _;intro _))
      refine T_backX (k+1,A4,c4,n3+1) (by dsimp only;exact⟨by omega,by rw [hf,List.length_append, ← hn3];rfl⟩) (by dsimp only;omega) (hG:=?_)
      dsimp only
      rw [hf,List.map_append]
      exact Hle.srt2
     ·rw [if_neg (fun h9=>absurd (h9.symm.trans (show (!decide (cell22 ⟨sec,sg',l.map TS.l,cols⟩ s k=ByteArray.empty))=false from h7)) (by decide)),List.append_nil] at hf
      repeat' (first|refine d1 ?_|fail)
      refine T_backX (k+1,A3,c3,n3) (by dsimp only;exact⟨by omega,by rw [hf];exact hn3⟩) (by dsimp only;omega) (hG:=?_)
      dsimp only
      rw [hf]
      exact Hle.tail _ _
    ·simp only [decide_eq_false_iff_not] at h6
     obtain rfl:k=cols.length:=by omega
     rw [hrw]
     rw [hrw,List.length_map,htl] at hn3
     subst hn3
     refine T_le (H':=[dat [.slice A3 t.n c3] [strsD (t.l.map Tok.text)],fz q,blk bx (coL sec (.slice y1.1 sg'.length y1.2) (.slice y2.1 l.length y2.2) (.slice Ak cols.length ck)) 32,fz p,blk pc (case22L c sec (.slice A1 sg'.length c1) (.slice (some ⟨b2,o2,none⟩) l.length c2)) 27]) dat_rowV ?_
     refine T_open fun r hr=>?_
     refine T_le (H':=[fz r,fz q,blk bx (coL sec (.slice y1.1 sg'.length y1.2) (.slice y2.1 l.length y2.2) (.slice Ak cols.length ck)) 32,fz p,blk pc (case22L c sec (.slice A1 sg'.length c1) (.slice (some ⟨b2,o2,none⟩) l.length c2)) 27]) (Hle.refl _) ?_
     repeat' (first|refine d1 ?_|(show T _ (.ops _ (_::_)::_) _ _ _;refine T_op (OpT.call rfl rfl rfl rfl rfl (fun w hw=>textP22_spec ⟨sec,sg',l.map TS.l,cols⟩ y1.1 y1.2 l y2.1 y2.2 (.slice Ak cols.length ck) (s:Int) w (hat hw)) ?_))|fail)
     rintro v R ⟨y,-,rfl,rfl⟩
     rw [textV22_val hok (by show s<sg'.length;omega),hww]
     refine T_open fun r2 hr2=>?_
     refine T_le (H':=[fz r2,fz r,fz q,blk bx (coL sec (.slice y1.1 sg'.length y1.2) (.slice y2.1 l.length y2.2) (.slice Ak cols.length ck)) 32,fz p,blk pc (case22L c sec (.slice A1 sg'.length c1) (.slice (some ⟨b2,o2,none⟩) l.length c2)) 27]) (Hle.refl _) ?_
     repeat' (first|refine d1 ?_|(show T _ (.ops _ (_::_)::_) _ _ _;first|refine T_callC rfl rfl rfl rfl rfl rfl rfl (fun hg w hw=>equalStr_spec _ _ (t.l.map Tok.text) (t.l.map Tok.text) w (hr2.own hw) (hq.own hw)) ?_|refine T_callC rfl rfl rfl rfl rfl rfl rfl (fun hg w hw=>equalStr_spec _ _ (t.l.map Tok.text) (t.l.map Tok.text) w (hr.own hw) (hq.own hw)) ?_)|fail)
     refine T_if rfl (fun h=>by exfalso;simp at h) (fun _=>?_)
     repeat' (first|refine d1 ?_|fail)
     exact T_backX (s+1) (by omega) (by omega) (hG:=Hle.srt)
  ·repeat' (first|refine d1 ?_|(show T _ (.ops _ (_::_)::_) _ _ _;refine T_call rfl rfl rfl rfl rfl (fun w hw=>awake22_spec w (hst.cls hw)) ?_)|(show T _ (.code .ret::_) _ _ _;refine T_retV [] rfl (Hle.none _) ⟨rfl,rfl⟩))
 ·have f7:made22 c sec sg' l=(co0,head22 sec sg' (l.map TS.l)):=by unfold made22;rw [if_neg (by rw [hc];simp),if_pos hh]
  have f8:toks22 c sec sg' l=[]:=by unfold toks22;rw [if_neg (by rw [hc];simp),if_pos hh]
  rw [f7,f8]
  dsimp only
  refine T_open fun p hp=>?_
  obtain⟨Ak,ck,csk,rfl,-⟩:=hp.cons_inv.2.cons_inv.2.tab
  repeat' (first|refine d1 ?_|(show ∀ _:Nat,T _ _ _ _ _;intro _))
  refine T_if rfl (fun _=>?_) (fun h=>by exfalso;simp at h;exact hh h)
  repeat' (first|refine d1 ?_|(show T _ (.ops _ (_::_)::_) _ _ _;first|refine T_call rfl rfl rfl rfl rfl (fun w hw=>sameR22_spec co0 co0 y1.1 none y1.2 0 [] [] y2.1 none y2.2 0 (.slice Ak 0 ck) (.slice none 0 0) w (ofP22 (x:=co0) (l:=[]) hp rfl hw coSm0.ok) coSm0) ?_|refine T_callC rfl rfl rfl rfl rfl rfl rfl (fun _ w hw=>awake22_spec w (hst.cls hw)) ?_)|fail)
  rw [same22_refl]
  repeat' (first|(show T _ (.code .ret::_) _ _ _;refine T_retV [] rfl (Hle.none _) ⟨rfl,rfl⟩))
theorem texts22_met (os:Os) (args:Array Value):laidMetH Tryz.prog Rows.collationTextsRow.laid ((World.doorLaid Tryz.prog 400 os).forCall (fun _ _=>0) ⟨#[],args,[]⟩).memory :=
 io_met os args
theorem texts22_lifted (os:Os) (started:os.Started) (H:Type) (enc:TypeId × Value→H) :
  ReturnsInHanded {} Tryz.checked os 6 .any (fun w args=>(Rows.collationTextsSpec.pre enc Tryz.prog Tryz.f6 [] false w args∧laidMetH Tryz.prog Rows.collationTextsRow.laid w)∧sizedMet enc Tryz.prog Tryz.f6 (OpenSpec.ofChange Rows.collationTextsSpec) false w args)
   (Rows.collationTextsSpec.post enc Tryz.prog Tryz.f6 false true false false):=by
 refine returnsInHanded_of_change_and (C:=Tryz.checked) (X:=fun w _=>laidMetH Tryz.prog Rows.collationTextsRow.laid w) (fun _ _ _ hh h=>h.of_heap hh) knob started (by as_aux_lemma=>kernel_rfl) Tryz.func6
  (ChangeSpec.witness_shaped (enc:=enc) (C:=Tryz.checked) (os:=os) (X:=fun w _=>laidMetH Tryz.prog Rows.collationTextsRow.laid w) false (World.doorLaid Tryz.prog 400 os) #[(.agg #[.int .i64 0, .int .i64 0, .int .i64 0, .int .i64 0, .string .empty, .slice none 0 0, .slice none 0 0])] 8 rfl (World.shaped_of_RefB (by as_aux_lemma=>kernel_rfl) (by as_aux_lemma=>kernel_rfl)) (by as_aux_lemma=>kernel_rfl) (by as_aux_lemma=>kernel_rfl) (by as_aux_lemma=>kernel_rfl) (texts22_met os _)) ?_
 intro W base args ds gs before hval0 hW _ _ hL _
 have hval:∀ (j:Nat) t v,Tryz.f6.params[j]?=some t→args[j]?=some v→Value.okWide Tryz.prog W .any base t v:=hval0
 have hstd:=std_of (show laidMetH Tryz.prog laids W from hL)
 have hW':=hW
 obtain⟨p,q,hA0,hV,rfl,hfz,hnd⟩:=hW
 have hA:DataW.TrodAll enc Tryz.prog W 0 (fun _=>true) true Tryz.f6.params.toList args.toList ds p:=hA0
 obtain⟨v0,vs0,d0,ds0,p0,q0,e0,rfl,rfl,h0,hA⟩:=trodAll_cons hA
 obtain⟨rfl,rfl,rfl⟩:=trodAll_nil hA
 have ea:args = #[v0]:=Array.ext' e0
 subst ea
 obtain⟨c_x,sec_x,l_x,m_x,y1_x,y2_x,rfl,hr1_x,hr2_x⟩:=arg_case22 (hval 0 _ v0 rfl rfl) h0
 refine (texts22Law_spec c_x sec_x l_x m_x y1_x y2_x W hstd hr1_x hr2_x).calls.mono ?_
 rintro e W' ⟨v,A,rfl,⟨rfl,_⟩,hb,_⟩
 exact⟨_,rfl,law_post hW' rfl rfl laidOk (by intro t ht;simp only [show Tryz.f6.params.toList=[27] from rfl,List.mem_cons,List.mem_nil_iff,or_false] at ht;rcases ht with rfl <;> exact⟨by as_aux_lemma=>kernel_rfl,of_decide_eq_true (by as_aux_lemma=>kernel_rfl)⟩) rfl Tryz.underlying4 hb⟩
theorem texts22_j0:Tryz.prog.inPlace 6=Rows.collationTextsRow.inPlace:=by as_aux_lemma=>kernel_rfl
theorem texts22_j1:Tryz.prog.unfollowed 6=Rows.collationTextsRow.unfollowed:=by as_aux_lemma=>kernel_rfl
theorem texts22_j2:Tryz.prog.recurses 6=Rows.collationTextsRow.recurses:=by as_aux_lemma=>kernel_rfl
theorem texts22_j3:Tryz.prog.varsNamed 6=Rows.collationTextsRow.named:=by as_aux_lemma=>kernel_rfl
theorem texts22_joined:joinedFacts Tryz.prog 6 Tryz.f6 Rows.collationTextsSpec Rows.collationTextsRow=true:=by
 unfold joinedFacts
 rw [texts22_j0,texts22_j1,texts22_j2,texts22_j3,io_enter,io_lifts,io_make]
 kernel_rfl
theorem texts22_holds:Rows.CollationTextsSaid :=
 OpenClaim.holds_of_wide 6 Tryz.f6 rfl rfl rfl rfl rfl rfl rfl ⟨rfl,rfl,rfl,rfl,rfl⟩ rfl rfl rfl rfl rfl (by as_aux_lemma=>kernel_rfl) Tryz.func6 texts22_joined
  (of_decide_eq_true (by as_aux_lemma=>kernel_rfl)) (by unfold Func.isWrapper;first|(rw [if_pos (by decide +kernel)];kernel_rfl)|(rw [if_neg (by decide +kernel)];exact⟨rfl,rfl⟩))
  (fun os started H enc _=>texts22_lifted os started H enc)
theorem texts22_card:Rows.CollationTextsCardSaid :=
 Claim7.holds_tied_plain_at .later [] [.data, .data, .data, .sentinel, .sentinel] true (true, "a33e9cbe7952f7f382826246a114ee55385dea5ab4652de37f5d8544d92e8eb8") true
  texts22_holds (fun _ h=>by cases h) (by as_aux_lemma=>kernel_rfl) (fun _ h=>by cases h) collationTexts_row_tie rfl ⟨rfl,rfl⟩ io_main rfl
  (fun f fn hf hfn=>by
   obtain rfl : f = 6 := Option.some.inj ((show Tryz.prog.funcNamed "apograph/apographlaw22.CollationTexts" = some 6 by as_aux_lemma => kernel_rfl).symm.trans hf) |>.symm
   obtain rfl:fn=Tryz.f6:=(Option.some.inj (Tryz.func6.symm.trans hfn)).symm
   exact⟨by as_aux_lemma=>kernel_rfl,fun j t ht=>by
    have ht':[27][j]?=some t:=by rw [Tryz.params6] at ht;simpa using ht
    have hm:=List.mem_of_getElem? ht'
    simp only [List.mem_cons,List.mem_nil_iff,or_false] at hm
    rcases hm with rfl <;> exact (show Tryz.prog.wantsStandIn _=false by as_aux_lemma=>kernel_rfl)⟩)
  (by as_aux_lemma=>kernel_rfl)
#print axioms texts22_card
end Go.Proofs.YtblnhdnogjijiaaGreatDoor
