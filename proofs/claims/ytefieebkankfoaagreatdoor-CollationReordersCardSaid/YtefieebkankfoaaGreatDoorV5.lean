/- Joined texts of this claim, part 5. -/
import Derived.Test.YtefieebkankfoaaGreatDoorV4
set_option linter.unusedSectionVars false
set_option linter.unusedVariables false
set_option linter.unusedSimpArgs false
namespace Go.Proofs.YtefieebkankfoaaGreatDoor
open Go.RowKit Go.Shelf Go.Proofs
set_option maxRecDepth 100000
set_option maxHeartbeats 2000000

theorem bit8_22:∀ c:Nat,c<256→∀ s:Nat,s<8→decide (andV .u8 (shrV .u8 (c:Int) (s:Int)) 1=1)=Nat.testBit c s:=by decide +kernel
theorem some22_le (z:Int) (n:Nat):(some22 z n).length≤n:=by
 unfold some22
 exact Nat.le_trans (List.length_filter_le _ _) (by rw [List.length_range];exact Nat.le_refl _)
theorem chosen22_spec (n:Nat) (z:Int) (hz:0≤z∧z≤255) (hn:n≤100) (w:World) :
  Spec Tryz.prog 8 [.int .i64 (n:Nat), .int .u8 z] w (fun v R=>∃ x:Option Addr × Nat,True∧v = .slice x.1 (chs22 z n).length x.2∧R=[row 3 1 x.1 x.2 (chs22 z n).length ((intN (chs22 z n)).map (Value.int .i64))]):=by
 refine spec_of sg Tryz.func8 rfl rfl rfl ?_
 repeat' (first|refine d1 ?_|fail)
 refine T_nilrow 3 1 ?_
 refine T_nilrow 3 1 ?_
 refine T_loopX (fun s:Nat × (Option Addr × Nat) × (Option Addr × Nat)=>[(9, .int .i64 (s.1:Nat)),(6, .slice s.2.1.1 s.1 s.2.1.2),(5, .slice s.2.2.1 (some22 z s.1).length s.2.2.2)]) (fun s=>[row 3 1 s.2.1.1 s.2.1.2 s.1 ((intN (List.range s.1)).map (Value.int .i64)),row 3 1 s.2.2.1 s.2.2.2 (some22 z s.1).length ((intN (some22 z s.1)).map (Value.int .i64))]) (fun s=>s.1≤n) (fun s=>n - s.1) (0,(none,0),(none,0)) (Nat.zero_le _) ?_
 rintro⟨i,⟨A6,c6⟩,⟨A5,c5⟩⟩ hi
 dsimp only at hi ⊢
 repeat' (first|refine d1 ?_|fail)
 refine T_if rfl (fun h=>?_) (fun h=>?_)
 ·simp only [decide_eq_true_eq] at h
  have hbit:=bit8_22 z.toNat (by omega) (i % 8) (by omega)
  rw [show ((z.toNat:Nat):Int)=z by omega,show ((i % 8:Nat):Int)=(i:Int) % 8 by omega] at hbit
  have hs:=some22_succ z i
  have hsl:=some22_le z i
  have hrs:(intN (List.range (i+1))).map (Value.int .i64)=(intN (List.range i)).map (Value.int .i64)++flatP [(0, .int .i64 (i:Nat))]:=by rw [List.range_succ,intN_snoc]
  repeat' (first|refine d1 ?_|(show T _ (.ops _ (_::_)::_) _ _ _;first|refine T_op (OpT.append (A:=A6) rfl rfl rfl rfl rfl rfl rfl rfl rfl rfl (fun w hw=>Src.own hw rfl) rfl (by dsimp only;omega) (by omega) (fun A6' c6' hA6=>?_))|refine T_val rfl (Val.bits rfl (fun _=>by omega)) rfl rfl rfl ?_|refine T_val rfl (Val.bits rfl (fun _=>trivial)) rfl rfl rfl ?_)|(show ∀ _:Nat,T _ _ _ _ _;intro _))
  rw [hbit]
  refine T_if rfl (fun h6=>?_) (fun h6=>?_)
  ·rw [if_pos h6] at hs
   repeat' (first|refine d1 ?_|(show T _ (.ops _ (_::_)::_) _ _ _;refine T_op (OpT.append (A:=A5) rfl rfl rfl rfl rfl rfl rfl rfl rfl rfl (fun w hw=>Src.own hw rfl) rfl (by dsimp only;omega) (by omega) (fun A5' c5' hA5=>?_)))|(show ∀ _:Nat,T _ _ _ _ _;intro _))
   refine T_backX (i+1,(A6',c6'),(A5',c5')) (by dsimp only;omega) (by dsimp only;omega) (hE:=⟨rfl,rfl,by dsimp only;rw [hs,List.length_append];rfl,trivial⟩) (hG:=?_)
   dsimp only
   rw [hs,List.length_append,show [i].length=1 from rfl,hrs,intN_snoc]
   exact Hle.srt2
  ·rw [if_neg (by rw [h6];decide),List.append_nil] at hs
   repeat' (first|refine d1 ?_|fail)
   refine T_backX (i+1,(A6',c6'),(A5,c5)) (by dsimp only;omega) (by dsimp only;omega) (hE:=⟨rfl,rfl,by dsimp only;rw [hs];rfl,trivial⟩) (hG:=?_)
   dsimp only
   rw [hs,hrs]
   exact Hle.srt2
 ·simp only [decide_eq_false_iff_not] at h
  obtain rfl:i=n:=by omega
  repeat' (first|refine d1 ?_|fail)
  refine T_if rfl (fun h6=>?_) (fun h6=>?_)
  ·have h7:(some22 z i).length=0:=by simp only [decide_eq_true_eq] at h6;omega
   have e:chs22 z i=List.range i:=if_pos h7
   rw [e,List.length_range]
   repeat' (first|refine d1 ?_|(show T _ (.code .ret::_) _ _ _;refine T_retV _ rfl (Hle.nth 0 rfl) ⟨(A6,c6),trivial,rfl,rfl⟩))
  ·have h7:¬ (some22 z i).length=0:=by simp only [decide_eq_false_iff_not] at h6;omega
   have e:chs22 z i=some22 z i:=if_neg h7
   rw [e]
   repeat' (first|refine d1 ?_|(show T _ (.code .ret::_) _ _ _;refine T_retV _ rfl (Hle.nth 1 rfl) ⟨(A5,c5),trivial,rfl,rfl⟩))
end Go.Proofs.YtefieebkankfoaaGreatDoor
namespace Go.Proofs.YtefieebkankfoaaGreatDoor
open Go.RowKit Go.Shelf Go.Proofs
set_option maxRecDepth 100000
set_option maxHeartbeats 1000000

theorem tks22_m {x:Co} {l:List TS} (hm:l.map TS.l=x.m) (ks:List Nat):(tks22 l ks).map TS.l=(pick22 x ks).m:=by
 unfold tks22 pick22
 rw [List.map_map, ← hm]
 refine List.map_congr_left fun k _=>?_
 show (l.getD k TS0).l=(l.map TS.l).getD k []
 rw [List.getD_eq_getElem?_getD,List.getD_eq_getElem?_getD,List.getElem?_map]
 cases l[k]? <;> rfl
theorem tks22_ok {w:World} {l:List TS} (h:TsOk w l) (ks:List Nat):TsOk w (tks22 l ks):=by
 have hm:∀ t∈tks22 l ks,t=TS0∨t∈l:=fun t ht=>by
  obtain⟨k,_,rfl⟩:=List.mem_map.1 ht
  rw [List.getD_eq_getElem?_getD]
  cases e:l[k]? with
  | none=>exact .inl rfl
  | some t=>exact .inr (List.mem_of_getElem? e)
 refine ⟨fun t ht=>?_,fun t ht=>?_,fun t ht=>?_⟩
 ·rcases hm t ht with rfl|h9
  ·exact⟨rfl,fun h=>absurd h (Nat.not_lt_zero _)⟩
  ·exact h.src t h9
 ·rcases hm t ht with rfl|h9
  ·rfl
  ·exact h.len t h9
 ·rcases hm t ht with rfl|h9
  ·exact Nat.zero_le _
  ·exact h.bd t h9
theorem CoSm.ar {w:World} {x:Co} {A1 A2:Option Addr} {c1 c2:Nat} {l:List TS} {y3:Value} (h:CoSm w x A1 c1 l A2 c2 y3):CoAr w x A1 c1 l A2 c2 y3:=by
 obtain⟨A,cap,e,g1,g2,g3⟩:=h.s1.strs
 cases e
 exact⟨h.s1,g3,g1,by omega,h.s2,h.b2,h.ok,h.m,h.cols⟩
theorem keptAt22 {p:Frag} {y:Co} {l:List TS} {ks:List Nat} {A1 A2:Option Addr} {c1 c2:Nat} {y3:Value} (hp:Rd (fr p) [.slice A1 y.sg.length c1, .slice A2 (tks22 l ks).length c2,y3] [strsD y.sg, .s 1 (((tks22 l ks).map TS.val).map .v),rowsD y.cols]) (hm:(tks22 l ks).map TS.l=y.m) (hs:Small22 y)
  {w0 w:World} {H:List HA} [FocusZ H p] (hw:Cls w0 w H) (hst:Std w0) (hl:TsOk w l):CoAt w y A1 c1 (tks22 l ks) A2 c2 y3:=(ofP22 hp hm hw (tks22_ok hl ks)).ar.at (hst.cls hw) hs
theorem rowInt22 {A:Option Addr} {c n:Nat} {r:List Int} {H:List HA}:Hle (row 3 1 A c n (r.map (Value.int .i64))::H) (dat [.slice A n c] [intsD r]::H):=by
 refine dat_rowV.trans ?_
 rw [List.map_map]
 exact Hle.refl _
theorem keepOk22_spec (x y:Co) (A1:Option Addr) (c1:Nat) (l:List TS) (A2:Option Addr) (c2:Nat) (Ak:Option Addr) (ck:Nat) (ks:List Nat) (Al:Option Addr) (n cl:Nat) (w:World) (hx:CoAt w x A1 c1 l A2 c2 (.slice Ak x.cols.length ck))
  (hz:Src w 1 Al n ((intN ks).map (Value.int .i64))) (hn:ks.length=n) (hkn:n≤1000) (hcn:x.cols.length≤1000) (hy:keepV22 x (intN ks)=(y,0)) :
  Spec Tryz.prog 9 [.agg (coL x.sec (.slice A1 x.sg.length c1) (.slice A2 l.length c2) (.slice Ak x.cols.length ck)).toArray, .slice Al n cl] w (resP22 y (tks22 l ks) 0):=by
 have h:=keepP22_spec x A1 c1 l A2 c2 Ak ck (intN ks) Al n cl w hx hz (by unfold intN;rw [List.length_map];exact hn) hkn hcn
 have e:keepT22 x l (intN ks)=tks22 l ks:=by unfold keepT22;rw [hy,toNat_intN22];exact if_neg (fun h=>h rfl)
 rw [e,hy] at h
 exact h
theorem turnOk22_spec (x y:Co) (A1:Option Addr) (c1:Nat) (l:List TS) (A2:Option Addr) (c2:Nat) (Ak:Option Addr) (ck:Nat) (ks:List Nat) (Al:Option Addr) (n cl:Nat) (w:World) (hx:CoAt w x A1 c1 l A2 c2 (.slice Ak x.cols.length ck))
  (hz:Src w 1 Al n ((intN ks).map (Value.int .i64))) (hn:ks.length=n) (hkn:n≤1000) (hcl:n≤cl) (hcn:x.cols.length≤1000) (hy:turnV22 x (intN ks)=(y,0)) :
  Spec Tryz.prog 13 [.agg (coL x.sec (.slice A1 x.sg.length c1) (.slice A2 l.length c2) (.slice Ak x.cols.length ck)).toArray, .slice Al n cl] w (resP22 y (tks22 l ks) 0):=by
 have h:=turnP22_spec x A1 c1 l A2 c2 Ak ck (intN ks) Al n cl w hx hz (by unfold intN;rw [List.length_map];exact hn) hkn hcl hcn
 have e:turnT22 x l (intN ks)=tks22 l ks:=by unfold turnT22;rw [hy,toNat_intN22];exact if_neg (fun h=>h rfl)
 rw [e,hy] at h
 exact h
end Go.Proofs.YtefieebkankfoaaGreatDoor
namespace Go.Proofs.YtefieebkankfoaaGreatDoor
open Go.RowKit Go.Shelf Go.Proofs
set_option maxRecDepth 100000
set_option maxHeartbeats 1000000

theorem growStr_spec (n:Nat) (w:World) (hb:n≤1000000) :
  Spec Tryz.prog 34 [.slice none 0 0, .int .i64 (n:Nat)] w (fun v R=>∃ x:Option Addr × Nat,True∧v = .slice x.1 0 x.2∧R=[row 9 1 x.1 x.2 0 []]):=by
 refine spec_of sg Tryz.func34 rfl rfl rfl ?_
 repeat' (first|refine d1 ?_|fail)
 refine T_if rfl (fun h=>by exfalso;simp at h;omega) (fun h=>?_)
 repeat' (first|refine d1 ?_|fail)
 refine T_if rfl (fun h=>?_) (fun h=>?_)
 ·simp only [decide_eq_true_eq] at h
  rw [show (n:Int) - ((0:Nat) - (0:Nat):Int)=((n:Nat):Int) by omega]
  repeat' (first|refine d1 ?_|(show T _ (.ops _ (_::_)::_) _ _ _;refine T_op (OpT.appendN (k:=n) (sz:=1) rfl rfl rfl rfl rfl rfl rfl rfl rfl (by omega) (by dsimp only;omega) (by omega) (fun b cap' hc'=>?_)))|(show T _ (.code .ret::_) _ _ _;refine T_retV _ rfl (Hle.refl _) ⟨(some ⟨_,0,none⟩,_),trivial,rfl,rfl⟩))
 ·simp only [decide_eq_false_iff_not] at h
  refine T_nilrow 9 1 ?_
  repeat' (first|refine d1 ?_|(show T _ (.code .ret::_) _ _ _;refine T_retV _ rfl (Hle.refl _) ⟨(none,0),trivial,rfl,rfl⟩))
theorem concatStr_spec (A:Option Addr) (n c:Nat) (l:List PS) (w:World) (hs:Src w 1 A n (l.map PS.val)) (hn:l.length=n) (hb:n≤1000) (hl:∀ p∈l,Src w 1 p.A p.n p.vs∧oneCells p.vs=true) (hsum:sumP l≤1000000) :
  Spec Tryz.prog 15 [.slice A n c] w (fun v R=>∃ x:Option Addr × Nat,True∧v = .slice x.1 (sumP l) x.2∧R=[row 9 1 x.1 x.2 (sumP l) (catP l)]):=by
 refine spec_of sg Tryz.func15 rfl rfl rfl ?_
 repeat' (first|refine d1 ?_|fail)
 refine T_loopX (fun j:Nat=>[(11, .int .i64 (j:Nat)),(3, .int .i64 (sumP (l.take j):Nat))]) (fun _=>[]) (fun j=>j≤n) (fun j=>n - j) 0 (Nat.zero_le _) ?_
 intro j hj
 have hsj:=sumP_le l j
 repeat' (first|refine d1 ?_|fail)
 refine T_if rfl (fun h=>?_) (fun h=>?_)
 ·simp only [decide_eq_true_eq] at h
  obtain⟨b,o,rfl⟩:=hs.base (by omega)
  obtain⟨t,ht⟩:∃ t,l[j]?=some t:=⟨_,List.getElem?_eq_getElem (by omega)⟩
  have hr:RdC w b (o+(j:Int).toNat * 1) [.slice t.A t.n t.cap]:=by
   have h9:=(hs.get1 (i:=j) (by omega) (by rw [List.getElem?_map,ht];rfl)).2
   rw [Nat.mul_one] at h9
   rw [off1]
   exact h9
  have hsn:=sumP_snoc ht
  have hsn2:=sumP_le l (j+1)
  repeat' (first|refine d1 ?_|fail)
  refine T_if rfl (fun h2=>by exfalso;simp at h2;omega) (fun h2=>?_)
  repeat' (first|refine d1 ?_|fail)
  exact T_backX (j+1) (by omega) (by omega) (hE:=⟨rfl,by rw [hsn];rfl,trivial⟩)
 simp only [decide_eq_false_iff_not] at h
 obtain rfl:j=n:=by omega
 rw [show l.take j=l from List.take_of_length_le (by omega)]
 repeat' (first|refine d1 ?_|(show T _ (.ops _ (_::_)::_) _ _ _;refine T_callE rfl rfl rfl rfl rfl (fun w hw=>growStr_spec (sumP l) w hsum) (fun x _=>?_))|fail)
 obtain⟨Ag,cg⟩:=x
 refine T_loopX (fun s:Nat × Option Addr × Nat=>[(27, .int .i64 (s.1:Nat)),(6, .slice s.2.1 (sumP (l.take s.1)) s.2.2)]) (fun s=>[row 9 1 s.2.1 s.2.2 (sumP (l.take s.1)) (catP (l.take s.1))]) (fun s=>s.1≤j) (fun s=>j - s.1) (0,Ag,cg) (Nat.zero_le _) ?_
 rintro⟨k,A1,cap1⟩ hk
 dsimp only at hk ⊢
 have hsk:=sumP_le l k
 repeat' (first|refine d1 ?_|fail)
 refine T_if rfl (fun h3=>?_) (fun h3=>?_)
 ·simp only [decide_eq_true_eq] at h3
  obtain⟨b,o,rfl⟩:=hs.base (by omega)
  obtain⟨t,ht⟩:∃ t,l[k]?=some t:=⟨_,List.getElem?_eq_getElem (by omega)⟩
  have hr:RdC w b (o+(k:Int).toNat * 1) [.slice t.A t.n t.cap]:=by
   have h9:=(hs.get1 (i:=k) (by omega) (by rw [List.getElem?_map,ht];rfl)).2
   rw [Nat.mul_one] at h9
   rw [off1]
   exact h9
  have hsn:=sumP_snoc ht
  have hsn2:=sumP_le l (k+1)
  obtain⟨hp1,hp2⟩:=hl t (List.mem_of_getElem? ht)
  repeat' (first|refine d1 ?_|(show T _ (.ops _ (_::_)::_) _ _ _;refine T_op (OpT.append rfl rfl rfl rfl rfl rfl rfl rfl rfl rfl (rdSrc hp1) hp2 (by dsimp only;omega) (by omega) (fun A' cap' hA'=>?_)))|fail)
  exact T_backX (k+1,A',cap') (by dsimp only;omega) (by dsimp only;omega) (hE:=⟨rfl,by dsimp only;rw [hsn];rfl,trivial⟩) (hG:=by dsimp only;rw [hsn,catP_snoc ht];exact Hle.refl _)
 ·simp only [decide_eq_false_iff_not] at h3
  obtain rfl:k=j:=by omega
  rw [show l.take k=l from List.take_of_length_le (by omega)]
  repeat' (first|refine d1 ?_|(show T _ (.code .ret::_) _ _ _;refine T_retV _ rfl (Hle.refl _) ⟨(A1,cap1),trivial,rfl,rfl⟩))
end Go.Proofs.YtefieebkankfoaaGreatDoor
