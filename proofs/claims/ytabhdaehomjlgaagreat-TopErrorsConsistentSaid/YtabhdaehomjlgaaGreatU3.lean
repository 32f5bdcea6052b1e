/- Joined texts of this claim, part 3. -/
import Derived.Test.YtabhdaehomjlgaaGreatU2
set_option linter.unusedSectionVars false
set_option linter.unusedVariables false
set_option linter.unusedSimpArgs false
namespace Go.Proofs.YtabhdaehomjlgaaGreat
open Go.RowKit Go.Shelf Go.Proofs
set_option maxRecDepth 100000
set_option maxHeartbeats 2000000

theorem rd_oneC {R:Rdr}:∀ {l:List RwI},Rd R (l.map RwI.val) (l.map fun x=>intsD x.l)→∀ x∈l,Rd R [RwI.val x] [intsD x.l]
 | [],_,x,hx=>by cases hx
 | a::l,h,x,hx=>by
  rw [List.map_cons,List.map_cons] at h
  obtain⟨h1,h2⟩:=h.cons_inv
  rcases List.mem_cons.1 hx with e|e
  ·subst e;exact h1
  ·exact rd_oneC h2 x e
theorem rd_allR {R:Rdr}:∀ {l:List RwI},(∀ x∈l,Rd R [RwI.val x] [intsD x.l])→Rd R (l.map RwI.val) (l.map fun x=>intsD x.l)
 | [],_ => .nil
 | a::l,h=>by
  have h1:=h a (.head _)
  have h2:=rd_allR (R:=R) (l:=l) fun x hx=>h x (.tail _ hx)
  exact h1.append h2
theorem hle_ug0 {q:Frag} {hs hs2:List RwI} {L B R E P:HA} {K:List HA} (hrd:Rd (fr q) (hs2.map RwI.val) (hs2.map fun x=>intsD x.l)) :
  Hle (L::fz q::dat (hs.map RwI.val) (hs.map fun x=>intsD x.l)::B::R::E::P::K) (dat ((hs++hs2).map RwI.val) ((hs++hs2).map fun x=>intsD x.l)::B::R::E::P::L::K):=by
 refine (hle_pm [1,2,3,4,5,6,0] [L,fz q,dat (hs.map RwI.val) (hs.map fun x=>intsD x.l),B,R,E,P] K).trans ?_
 show Hle (fz q::dat (hs.map RwI.val) (hs.map fun x=>intsD x.l)::B::R::E::P::L::K) _
 rw [List.map_append,List.map_append]
 exact (hle_map (fun f hf=>by rw [show f=q from hf];exact hrd)).trans dat_join
theorem hle_ug1 {r:Frag} {hA:List RwI} {x:RwI} {L B S E P:HA} {e:TypeId} {A:Option Addr} {c n:Nat} {xs:List Value} {K:List HA} (hrd:Rd (fr r) [RwI.val x] [intsD x.l]) (hxs:xs=(hA++[x]).map RwI.val) :
  Hle (S::fz r::dat (hA.map RwI.val) (hA.map fun x=>intsD x.l)::B::row e 1 A c n xs::E::P::L::K) (L::P::dat ((hA++[x]).map RwI.val) ((hA++[x]).map fun x=>intsD x.l)::B::row e 1 A c n ((hA++[x]).map RwI.val)::E::K):=by
 subst hxs
 refine (hle_pm [1,2,3,4,5,6,7] [S,fz r,dat (hA.map RwI.val) (hA.map fun x=>intsD x.l),B,_,E,P,L] K).trans ?_
 show Hle (fz r::dat (hA.map RwI.val) (hA.map fun x=>intsD x.l)::B::row e 1 A c n ((hA++[x]).map RwI.val)::E::P::L::K) _
 generalize row e 1 A c n ((hA++[x]).map RwI.val)=RR
 refine Hle.trans ?_ (hle_pm [5,4,0,1,2,3] [dat ((hA++[x]).map RwI.val) ((hA++[x]).map fun x=>intsD x.l),B,RR,E,P,L] K)
 show Hle _ (dat ((hA++[x]).map RwI.val) ((hA++[x]).map fun x=>intsD x.l)::B::RR::E::P::L::K)
 rw [List.map_append,List.map_append]
 exact (hle_map (fun f hf=>by rw [show f=r from hf];exact hrd)).trans dat_join
theorem hle_ug2 {P:Frag} {l:List RwI} {e:TypeId} {A:Option Addr} {c n:Nat} {B D:HA} (h:Rd (fr P) (l.map RwI.val) (l.map fun x=>intsD x.l)) :
  Hle [row e 1 A c n (l.map RwI.val),fz P,B,D] (D::[dat [.slice A n c] [rowsD (l.map RwI.l)]]):=by
 refine (hle_pm [1,0,3] [row e 1 A c n (l.map RwI.val),fz P,B,D] []).trans ?_
 show Hle (fz P::row e 1 A c n (l.map RwI.val)::D::[]) _
 refine (hle_map (B:=dat (l.map RwI.val) (l.map fun x=>intsD x.l)) (fun f hf=>by rw [show f=P from hf];exact h)).trans (hle_swap.trans ?_)
 unfold rowsD
 rw [List.map_map]
 exact dat_row.trans hle_swap
theorem mapAt_below {α:Type} {w w':World} {inj:α→Value} {b:Nat} {l:List (α × Value)} (h:mapAt w inj b l) (hb:Below w.heap.size w w'):mapAt w' inj b l:=by
 obtain⟨es,clock,h1,h2⟩:=h
 exact⟨es,clock,(hb.block b (Array.getElem?_eq_some_iff.1 h1).1).trans h1,h2⟩
theorem splitOf_spec (A1 A2 An:Option Addr) (n1 c1 n2 c2 nn cn:Nat) (ps:List Int) (ns names:List ByteArray) (w:World) (ht:TrA w A1 n1 c1 A2 n2 c2 ps ns) (hok:tOk ps ns) (hsn:Src w 1 An nn (names.map Value.string)) (hnn:names.length=nn) (h12:nn≤12) (hnd:names.Nodup) (hlen:(lfI ns).length=nn) (hin:∀ k∈lfI ns,ns.getD k ByteArray.empty∈names) (hinn:ps.length≤nn+13) :
  Spec Tryz.prog 14 [.agg #[.slice A1 n1 c1, .slice A2 n2 c2], .slice An nn cn] w (fun v R=>∃ (x:Value) (L:List (List Int)),ofOk ps ns names L∧v = .tuple #[x, .int .i64 0]∧R=[dat [x] [rowsD L]]):=by
 have hl1:=ht.l1
 have hl2:=ht.l2
 have hlen9:=hok.len
 obtain rfl:n1=n2:=by omega
 have hin2:∀ i,i<ps.length→kdsI ps i ps.length=[]→ns.getD i ByteArray.empty∈names:=fun i hi h0=>hin i ((hok.leaf hi).1 h0)
 have hbnd:=ffI_bound hok.up hok.pos hnd hin2 (by rw [lfB_lfI hok,hlen,hnn]) (by omega)
 refine spec_of sg Tryz.func14 rfl rfl rfl ?_
 repeat' (first|(show T _ (.ops _ (⟨_, .box _ _,_,_,_,_⟩::_)::_) _ _ _;refine T_op (OpT.box (cs:=[.slice A1 n1 c1, .slice A2 n1 c2]) rfl rfl rfl rfl rfl rfl rfl (fun _=>?_)))|refine d1 ?_|(show ∀ _:Nat,T _ _ _ _ _;intro _))
 rename_i t2
 refine T_op (OpT.call rfl rfl rfl rfl rfl (fun w hw=>leavesTree_spec A1 A2 n1 c1 n1 c2 ps ns w (ht.cls hw)) ?_)
 rintro u R (⟨h9,rfl,rfl⟩|⟨-,⟨Al,cl⟩,rfl,rfl⟩)
 ·exact absurd hok h9
 dsimp only
 rw [lfZ_nums,hlen]
 refine T_le (H':=[row 3 1 Al cl nn ((lfZ ns).map (Value.int .i64)),blk t2 [.slice A1 n1 c1, .slice A2 n1 c2] 30]) (Hle.refl _) ?_
 repeat' (first|refine d1 ?_|(show ∀ _:Nat,T _ _ _ _ _;intro _))
 refine T_if rfl (fun h=>by exfalso;simp at h) (fun _=>?_)
 repeat' (first|refine d1 ?_|(show ∀ _:Nat,T _ _ _ _ _;intro _))
 refine T_if rfl (fun h=>by exfalso;simp at h;omega) (fun _=>?_)
 repeat' (first|refine d1 ?_|(show T _ (.ops _ (_::_)::_) _ _ _;refine T_op (OpT.makeMap (inj:=Value.string) rfl rfl rfl rfl rfl (fun mb=>?_)))|(show ∀ _:Nat,T _ _ _ _ _;intro _))
 rename_i t8
 refine T_le (H':=[blk t8 [.map (some mb)] 78,mph Value.string mb (snM []),row 3 1 Al cl nn ((lfZ ns).map (Value.int .i64)),blk t2 [.slice A1 n1 c1, .slice A2 n1 c2] 30]) (Hle.refl _) ?_
 refine T_loopX (fun k:Nat=>[(29, .int .i64 (k:Nat))]) (fun k=>[blk t8 [.map (some mb)] 78,mph Value.string mb (snM (names.take k)),row 3 1 Al cl nn ((lfZ ns).map (Value.int .i64)),blk t2 [.slice A1 n1 c1, .slice A2 n1 c2] 30]) (fun k=>k≤nn) (fun k=>nn - k) 0 (Nat.zero_le _) ?_
 rintro k hk
 repeat' (first|refine d1 ?_|(show ∀ _:Nat,T _ _ _ _ _;intro _))
 refine T_if rfl (fun h=>?_) (fun h=>?_)
 ·simp only [decide_eq_true_eq] at h
  obtain⟨gn,on,rfl⟩:=hsn.base (by omega)
  obtain⟨a,ha⟩:∃ a,names[k]?=some a:=⟨_,List.getElem?_eq_getElem (by omega)⟩
  have hra:=src_str hsn (k:=k) (by omega) ha
  have hna:a ∉ names.take k:=fun hm=>by
   obtain⟨i,hi⟩:=List.mem_iff_getElem?.1 hm
   rw [List.getElem?_take] at hi
   split at hi
   ·have:=nodup_at hnd hi ha;omega
   ·cases hi
  have hv:has22 (names.take k) a=false:=by
   cases h9:has22 (names.take k) a with
   | false=>rfl
   | true=>exact absurd (has22_iff.1 h9) hna
  repeat' (first|refine d1 ?_|(show T _ (.ops _ (_::_)::_) _ _ _;first|refine T_val rfl (Val.load rfl (fun hg=>rdOld hra)) rfl rfl rfl ?_|refine T_valC rfl (Val.load rfl (fun hg=>rdOld hra)) rfl rfl rfl rfl rfl ?_|refine T_val rfl (Val.to (Val.lookup (a:=a) (inj:=Value.string) rfl Tryz.underlying78 keyS rfl rfl (fun w hw=>⟨trivial,fun _ _=>trivial⟩)) (show cond false _ _=_ from (snM_val (names.take k) a).trans (congrArg Value.bool hv))) rfl rfl rfl ?_|refine T_valC rfl (Val.to (Val.lookup (a:=a) (inj:=Value.string) rfl Tryz.underlying78 keyS rfl rfl (fun w hw=>⟨trivial,fun _ _=>trivial⟩)) (show cond false _ _=_ from (snM_val (names.take k) a).trans (congrArg Value.bool hv))) rfl rfl rfl rfl rfl ?_)|(show T _ (.run _ _ (_::_) _ _::_) _ _ _;first|refine rv rfl rfl rfl (Val.load rfl (fun hg=>rdOld hra)) rfl rfl rfl ?_|refine rg rfl rfl rfl (Val.load rfl (fun hg=>rdOld hra)) rfl rfl rfl rfl rfl ?_|refine rv rfl rfl rfl (Val.to (Val.lookup (a:=a) (inj:=Value.string) rfl Tryz.underlying78 keyS rfl rfl (fun w hw=>⟨trivial,fun _ _=>trivial⟩)) (show cond false _ _=_ from (snM_val (names.take k) a).trans (congrArg Value.bool hv))) rfl rfl rfl ?_|refine rg rfl rfl rfl (Val.to (Val.lookup (a:=a) (inj:=Value.string) rfl Tryz.underlying78 keyS rfl rfl (fun w hw=>⟨trivial,fun _ _=>trivial⟩)) (show cond false _ _=_ from (snM_val (names.take k) a).trans (congrArg Value.bool hv))) rfl rfl rfl rfl rfl ?_)|(show ∀ _:Nat,T _ _ _ _ _;intro _))
  refine T_if rfl (fun h=>by cases h) (fun _=>?_)
  repeat' (first|refine d1 ?_|(show ∀ _:Nat,T _ _ _ _ _;intro _))
  refine T_op (OpT.mapUp (inj:=Value.string) (a:=a) (v := .bool true) rfl rfl rfl Tryz.underlying78 keyS (fun w hw=>⟨trivial,fun _ _=>trivial⟩) ?_)
  rw [snM_put hna, ← take_snoc _ _ _ ha]
  repeat' (first|refine d1 ?_|(show ∀ _:Nat,T _ _ _ _ _;intro _))
  exact T_backX (k+1) (by omega) (by omega)
 simp only [decide_eq_false_iff_not] at h
 obtain rfl:k=nn:=by omega
 rw [List.take_of_length_le (by omega)]
 have hll:(lfZ ns).length=k:=by rw [lfZ_len];exact hlen
 have hany:(lfZ ns).any (fun z => !has22 names (ns.getD z.toNat ByteArray.empty))=false:=by
  rw [List.any_eq_false]
  intro z hz
  unfold lfZ at hz
  obtain⟨i,hi,rfl⟩:=List.mem_map.1 hz
  rw [Int.toNat_natCast,has22_iff.2 (hin i hi)];decide
 repeat' (first|refine d1 ?_|(show T _ (.ops _ (_::_)::_) _ _ _;first|refine T_call rfl rfl rfl rfl rfl (fun w hw=>containsFuncI_spec Al k cl (lfZ ns) 52 [] [.pointer (some ⟨t8,0,none⟩), .pointer (some ⟨t2,0,none⟩)] (fun z => !has22 names (ns.getD z.toNat ByteArray.empty)) w (srcRw w hw) hll (by omega) (fun x hx w' hb'=>by obtain⟨i,hi,rfl⟩:=List.mem_map.1 (show x∈(lfI ns).map (fun (i:Nat)=>(i:Int)) from hx);exact ofC_spec t8 t2 mb A1 A2 n1 c1 n1 c2 names ns i w' ((rdBlk8 hw).below hb') (mapAt_below hw.mapOf hb') ((rdBlk8 hw).below hb') (src_below (src_below ht.s2 hw.below) hb') hl2 (by have:=lfI_mem.1 hi;omega))) ?_|refine T_callC rfl rfl rfl rfl rfl rfl rfl (fun hg w hw=>containsFuncI_spec Al k cl (lfZ ns) 52 [] [.pointer (some ⟨t8,0,none⟩), .pointer (some ⟨t2,0,none⟩)] (fun z => !has22 names (ns.getD z.toNat ByteArray.empty)) w (srcRw w hw) hll (by omega) (fun x hx w' hb'=>by obtain⟨i,hi,rfl⟩:=List.mem_map.1 (show x∈(lfI ns).map (fun (i:Nat)=>(i:Int)) from hx);exact ofC_spec t8 t2 mb A1 A2 n1 c1 n1 c2 names ns i w' ((rdBlk8 hw).below hb') (mapAt_below hw.mapOf hb') ((rdBlk8 hw).below hb') (src_below (src_below ht.s2 hw.below) hb') hl2 (by have:=lfI_mem.1 hi;omega))) ?_)|(show T _ (.run _ _ (_::_) _ _::_) _ _ _;first|refine rc rfl rfl rfl rfl rfl rfl rfl (fun w hw=>containsFuncI_spec Al k cl (lfZ ns) 52 [] [.pointer (some ⟨t8,0,none⟩), .pointer (some ⟨t2,0,none⟩)] (fun z => !has22 names (ns.getD z.toNat ByteArray.empty)) w (srcRw w hw) hll (by omega) (fun x hx w' hb'=>by obtain⟨i,hi,rfl⟩:=List.mem_map.1 (show x∈(lfI ns).map (fun (i:Nat)=>(i:Int)) from hx);exact ofC_spec t8 t2 mb A1 A2 n1 c1 n1 c2 names ns i w' ((rdBlk8 hw).below hb') (mapAt_below hw.mapOf hb') ((rdBlk8 hw).below hb') (src_below (src_below ht.s2 hw.below) hb') hl2 (by have:=lfI_mem.1 hi;omega))) ?_|refine rcG rfl rfl rfl rfl rfl rfl rfl rfl rfl (fun hg w hw=>containsFuncI_spec Al k cl (lfZ ns) 52 [] [.pointer (some ⟨t8,0,none⟩), .pointer (some ⟨t2,0,none⟩)] (fun z => !has22 names (ns.getD z.toNat ByteArray.empty)) w (srcRw w hw) hll (by omega) (fun x hx w' hb'=>by obtain⟨i,hi,rfl⟩:=List.mem_map.1 (show x∈(lfI ns).map (fun (i:Nat)=>(i:Int)) from hx);exact ofC_spec t8 t2 mb A1 A2 n1 c1 n1 c2 names ns i w' ((rdBlk8 hw).below hb') (mapAt_below hw.mapOf hb') ((rdBlk8 hw).below hb') (src_below (src_below ht.s2 hw.below) hb') hl2 (by have:=lfI_mem.1 hi;omega))) ?_)|(show ∀ _:Nat,T _ _ _ _ _;intro _))
 refine T_if rfl (fun h=>by exfalso;rw [hany] at h;simp at h) (fun _=>?_)
 repeat' (first|refine d1 ?_|(show ∀ _:Nat,T _ _ _ _ _;intro _))
 rename_i t11 t12
 refine T_op (OpT.call rfl rfl rfl rfl rfl (fun w hw=>belowS_spec A1 A2 An n1 c1 n1 c2 k cn w) ?_)
 rintro u R ⟨⟨b1,b2⟩,-,rfl,rfl⟩
 dsimp only
 repeat' (first|refine d1 ?_|(show ∀ _:Nat,T _ _ _ _ _;intro _))
 refine T_le (H':=[blk b2 [.slice An k cn] 22,blk b1 [.slice A1 n1 c1, .slice A2 n1 c2] 30,blk t12 [.slice none 0 0] 23,blk t11 [.int .i64 (k:Nat)] 3]) (Hle.append_left (A:=[_,_,_,_]) _) ?_
 refine T_nilrow 24 1 ?_
 have hit:=belowS_iter ht hok hsn hnn h12 hnd hin2 b1 b2 (cn:=cn)
 refine T_rangeK hit rfl (fun j x p hj hQ=>by obtain⟨i,y,_,rfl,_⟩:=hQ;exact⟨rfl,rfl⟩)
  (fun j p H=>∃ (hs hs2:List RwI) (A:Option Addr) (c:Nat),(Rd (fr p) (hs2.map RwI.val) (hs2.map fun x=>intsD x.l)∧(hs++hs2).map RwI.l=((belT ps).take j).flatMap (ffI ps ns names))∧H=[fz p,dat (hs.map RwI.val) (hs.map fun x=>intsD x.l),blk t12 [.slice A (hs++hs2).length c] 23,row 24 1 A c (hs++hs2).length ((hs++hs2).map RwI.val),blk t11 [.int .i64 (k:Nat)] 3])
  (fun _=>False) (fun _ _=>False) [fz (fun _=>none),dat [] [],blk t12 [.slice none 0 0] 23,row 24 1 none 0 0 [],blk t11 [.int .i64 (k:Nat)] 3] (fun _=>none)
  (by rintro j p H ⟨hs,hs2,A,c,-,rfl⟩;exact Hle.nth 0 rfl) ⟨[],[],none,0,⟨.nil,rfl⟩,rfl⟩ ?_ ?_ ?_ (fun _ _ h=>h.elim) (fun _ _ _ h=>h.elim)
 ·exact (dat_nil _).trans ((hle_unit (B:=fz (fun _=>none)) rfl).trans (hle_pm [3,4,0,1,5,2,6] [_,_,_,_,_,_,_] []))
 ·rintro Lp r5 j x p q Hj K2 hr5 hj hQ ⟨hs,hs2,A,c,⟨hrd,hL⟩,rfl⟩
  obtain⟨i,y,hi,rfl,hy⟩:=hQ
  generalize hsd:plS names (ndT ps ns i)=s at hy
  have hslo:∀ z∈s,0≤z∧z<k:=fun z hz=>by
   rw [← hsd] at hz
   have:=setI_lo hz
   rw [hnn] at this;exact this
  have hsok:setOk s:=by rw [← hsd];exact setI_ok (by omega)
  have hsl:s.length≤k:=by rw [← hsd, ← hnn];exact setI_len_le _ _
  obtain⟨B,cb,rfl,hyl⟩:=hy.row1
  show T _ _ ((54, .slice B s.length cb)::_) _ (lrec Lp r5::fz q::dat (hs.map RwI.val) (hs.map fun x=>intsD x.l)::blk t12 [.slice A (hs++hs2).length c] 23::row 24 1 A c (hs++hs2).length ((hs++hs2).map RwI.val)::blk t11 [.int .i64 (k:Nat)] 3::fz p::K2)
  repeat' (first|refine d1 ?_|refine dd ?_|(show ∀ _:Nat,T _ _ _ _ _;intro _))
  refine T_begin hr5 rfl ?_
  refine T_le (H':=dat ((hs++hs2).map RwI.val) ((hs++hs2).map fun x=>intsD x.l)::blk t12 [.slice A (hs++hs2).length c] 23::row 24 1 A c (hs++hs2).length ((hs++hs2).map RwI.val)::blk t11 [.int .i64 (k:Nat)] 3::fz p::lrec Lp (busy r5)::K2) (hle_ug0 hrd) ?_
  generalize hs++hs2=hA at hL ⊢
  have htk:(belT ps).take (j+1)=(belT ps).take j++[i]:=take_snoc _ _ _ hi
  have hAl:hA.length≤12:=by
   have h1:=congrArg List.length hL
   rw [List.length_map] at h1
   rw [← List.take_append_drop j (belT ps),List.flatMap_append,List.length_append] at hbnd
   omega
  have hffi:ffI ps ns names i=if splOk k (nrmI k s) then [nrmI k s] else []:=by unfold ffI;rw [hsd,hnn]
  repeat' (first|refine d1 ?_|(show T _ (.ops _ (_::_)::_) _ _ _;first|refine T_call rfl rfl rfl rfl rfl (fun w hw=>containsI_spec B s.length cb s 0 w ((hy.own hw).intsAt) rfl (by omega)) ?_|refine T_callC rfl rfl rfl rfl rfl rfl rfl (fun hg w hw=>containsI_spec B s.length cb s 0 w ((hy.own hw).intsAt) rfl (by omega)) ?_)|(show T _ (.run _ _ (_::_) _ _::_) _ _ _;first|refine rc rfl rfl rfl rfl rfl rfl rfl (fun w hw=>containsI_spec B s.length cb s 0 w ((hy.own hw).intsAt) rfl (by omega)) ?_|refine rcG rfl rfl rfl rfl rfl rfl rfl rfl rfl (fun hg w hw=>containsI_spec B s.length cb s 0 w ((hy.own hw).intsAt) rfl (by omega)) ?_)|(show ∀ _:Nat,T _ _ _ _ _;intro _))
  refine T_cutX 1 [13] (fun u:RwI × Frag=>[(13,RwI.val u.1)]) (fun u=>[fz u.2,dat (hA.map RwI.val) (hA.map fun x=>intsD x.l),blk t12 [.slice A hA.length c] 23,row 24 1 A c hA.length (hA.map RwI.val),blk t11 [.int .i64 (k:Nat)] 3,fz p,lrec Lp (busy r5)]++K2)
   (fun u=>u.1.l=nrmI k s∧(Rd (fr p) [RwI.val u.1] [intsD u.1.l]∨Rd (fr u.2) [RwI.val u.1] [intsD u.1.l])) ?_ ?_
  ·refine T_if rfl (fun h2=>?_) (fun h2=>?_)
   ·have h0:(0:Int)∈s:=by
     obtain⟨z,hz,h3⟩:=List.any_eq_true.1 h2
     rw [show (0:Int)=z from of_decide_eq_true h3];exact hz
    have hs0:0<s.length:=List.length_pos_of_mem h0
    have hnr:nrmI k s=cplI k s:=by
     unfold nrmI cplI
     rw [if_pos h0]
     exact setI_congr fun i _=>decide_not
    repeat' (first|refine d1 ?_|(show ∀ _:Nat,T _ _ _ _ _;intro _))
    refine T_op (OpT.call rfl rfl rfl rfl rfl (fun w hw=>complement_spec B k s.length cb s w ((hy.own hw).intsAt) rfl hsok hs0 (by omega) (by omega) (fun z hz=>(hslo z hz).2)) ?_)
    rintro u R ⟨⟨A',c'⟩,-,rfl,rfl⟩
    dsimp only
    refine T_le dat_rowV ?_
    refine T_open fun r hr=>?_
    have hr':Rd (fr r) [.slice A' (cplI k s).length c'] [intsD (cplI k s)]:=by
     rw [List.map_map] at hr;exact hr
    repeat' (first|refine d1 ?_|(show ∀ _:Nat,T _ _ _ _ _;intro _))
    exact T_meetX (⟨A',(cplI k s).length,c',cplI k s⟩,r) ⟨hnr.symm, .inr hr'⟩
   ·have h0:(0:Int) ∉ s:=fun h3=>by
     have:s.any (fun x=>decide (0=x))=true:=List.any_eq_true.2 ⟨0,h3,decide_eq_true rfl⟩
     rw [h2] at this;cases this
    refine T_le (hle_unit (B:=fz (fun _=>none)) rfl) ?_
    repeat' (first|refine d1 ?_|(show ∀ _:Nat,T _ _ _ _ _;intro _))
    exact T_meetX (⟨B,s.length,cb,s⟩,fun _=>none) ⟨by unfold nrmI;rw [if_neg h0], .inl hy⟩
  ·rintro⟨x,r⟩ ⟨hxl,hxr⟩
   dsimp only at hxl hxr ⊢
   rw [hxl] at hxr
   obtain⟨xA,xn,xcap,xl⟩:=x
   dsimp only at hxl
   subst hxl
   have hxn:xn=(nrmI k s).length∧(nrmI k s).length≤xcap:=by
    rcases hxr with h|h
    ·obtain⟨_,_,e,h9,_⟩:=h.row1
     simp only [RwI.val,Value.slice.injEq] at e
     exact⟨e.2.1,by rw [e.2.2];exact h9⟩
    ·obtain⟨_,_,e,h9,_⟩:=h.row1
     simp only [RwI.val,Value.slice.injEq] at e
     exact⟨e.2.1,by rw [e.2.2];exact h9⟩
   obtain⟨rfl,hxc⟩:=hxn
   have hnl:(nrmI k s).length≤12:=by
    unfold nrmI
    split
    ·exact Nat.le_trans (setI_len_le _ _) h12
    ·omega
   refine T_le (H':=fz r::dat (hA.map RwI.val) (hA.map fun x=>intsD x.l)::blk t12 [.slice A hA.length c] 23::row 24 1 A c hA.length (hA.map RwI.val)::blk t11 [.int .i64 (k:Nat)] 3::fz p::lrec Lp (busy r5)::K2) (Hle.refl _) ?_
   rw [show RwI.val ⟨xA,(nrmI k s).length,xcap,nrmI k s⟩ = .slice xA (nrmI k s).length xcap from rfl] at hxr ⊢
   repeat' (first|refine d1 ?_|(show ∀ _:Nat,T _ _ _ _ _;intro _))
   refine T_op (OpT.call rfl rfl rfl rfl rfl (fun w hw=>checkSplit_spec xA k (nrmI k s).length xcap (nrmI k s) w (hxr.elim (fun h=>(h.own hw).intsAt) (fun h=>(h.own hw).intsAt)) rfl (by omega) (by omega)) ?_)
   rintro u R ⟨e,he,rfl,rfl⟩
   rw [List.nil_append]
   repeat' (first|refine d1 ?_|(show ∀ _:Nat,T _ _ _ _ _;intro _))
   refine T_if rfl (fun h2=>?_) (fun h2=>?_)
   ·simp only [decide_eq_true_eq] at h2
    have hso:=he.1 h2
    rw [if_pos hso] at hffi
    have hLn:(hA++[(⟨xA,(nrmI k s).length,xcap,nrmI k s⟩:RwI)]).map RwI.l=((belT ps).take (j+1)).flatMap (ffI ps ns names):=by
     rw [List.map_append,hL,htk,List.flatMap_append,List.flatMap_singleton,hffi];rfl
    have hAl2:(hA++[(⟨xA,(nrmI k s).length,xcap,nrmI k s⟩:RwI)]).length=hA.length+1:=by simp
    repeat' (first|refine d1 ?_|(show ∀ _:Nat,T _ _ _ _ _;intro _))
    rename_i b9
    repeat' (first|refine d1 ?_|(show T _ (.ops _ (_::_)::_) _ _ _;refine T_op (OpT.append (A:=A) rfl rfl rfl rfl rfl rfl rfl rfl rfl rfl (fun w hw=>Src.own hw rfl) rfl (by dsimp only;omega) (by omega) (fun A9 c9 hA9=>?_)))|(show ∀ _:Nat,T _ _ _ _ _;intro _))
    rcases hxr with h|h
    ·refine T_next _ ⟨hA,[⟨xA,(nrmI k s).length,xcap,nrmI k s⟩],A9,c9,⟨h,hLn⟩,rfl⟩ ?_
     rw [hAl2,List.map_append]
     exact hle_pm [7,6,2,3,4,5] [_,_,_,_,_,_,_,_] K2
    ·refine T_next _ ⟨hA++[⟨xA,(nrmI k s).length,xcap,nrmI k s⟩],[],A9,c9,⟨.nil,by rw [List.append_nil];exact hLn⟩,rfl⟩ ?_
     rw [List.append_nil,hAl2]
     exact hle_ug1 (x:=⟨xA,(nrmI k s).length,xcap,nrmI k s⟩) h (by rw [List.map_append];rfl)
   ·simp only [decide_eq_false_iff_not] at h2
    rw [if_neg (fun h=>h2 (he.2 h))] at hffi
    have hLn:(hA++[]).map RwI.l=((belT ps).take (j+1)).flatMap (ffI ps ns names):=by
     rw [List.append_nil,hL,htk,List.flatMap_append,List.flatMap_singleton,hffi,List.append_nil]
    repeat' (first|refine d1 ?_|(show ∀ _:Nat,T _ _ _ _ _;intro _))
    refine T_next _ ⟨hA,[],A,c,⟨.nil,hLn⟩,rfl⟩ ?_
    rw [List.append_nil]
    exact hle_pm [6,5,1,2,3,4] [_,_,_,_,_,_,_] K2
 ·rintro D p Hn ⟨hs,hs2,A,c,⟨hrd,hL⟩,rfl⟩
  rw [List.take_length] at hL
  show T _ _ _ _ (dfr D::blk b2 [.slice An k cn] 22::blk b1 [.slice A1 n1 c1, .slice A2 n1 c2] 30::fz p::dat (hs.map RwI.val) (hs.map fun x=>intsD x.l)::blk t12 [.slice A (hs++hs2).length c] 23::row 24 1 A c (hs++hs2).length ((hs++hs2).map RwI.val)::blk t11 [.int .i64 (k:Nat)] 3::[])
  refine T_le ((hle_pm [0,3,4,5,6,7,1] [_,_,_,_,_,_,_,_] []).trans (hle_ug0 hrd)) ?_
  generalize hs++hs2=hA at hL ⊢
  have hAl:hA.length≤12:=by
   have h1:=congrArg List.length hL
   rw [List.length_map] at h1
   omega
  refine T_open fun P hP=>?_
  refine T_le (H':=row 24 1 A c hA.length (hA.map RwI.val)::fz P::blk t12 [.slice A hA.length c] 23::dfr D::[]) (hle_pm [2,0,1,5] [_,_,_,_,_,_] []) ?_
  repeat' (first|refine d1 ?_|(show ∀ _:Nat,T _ _ _ _ _;intro _))
  refine T_op (OpT.callB rfl rfl rfl rfl rfl (sortRn_spec A c hA.length hA 45 [] (fun x y=>cmpLs x.l y.l) (fun x y=>cmpLs x.l y.l≤0) w _ rfl hAl (fun w ⟨H,hw⟩ x hx y hy=>?_) (fun _ _ _=>cmpLs_trans) (fun _ _ h=>by omega) (fun a b h=>by have:=cmpLs_swap a.l b.l;omega)) ?_)
  ·have hw':=hw.le (Hle.append_right (K:=[]) H)
   exact compareL_spec _ _ _ _ w ((rd_oneC hP x hx).own hw') ((rd_oneC hP y hy).own hw')
  rintro u R ⟨ys,⟨hyp,hys⟩,rfl⟩
  have hyl:=hyp.length_eq
  have hPy:∀ x∈ys,Rd (fr P) [RwI.val x] [intsD x.l]:=fun x hx=>rd_oneC hP x (hyp.mem_iff.1 hx)
  repeat' (first|refine d1 ?_|(show ∀ _:Nat,T _ _ _ _ _;intro _))
  refine T_op (OpT.callB rfl rfl rfl rfl rfl (compactR_spec A hA.length c ys 17 [] w _ hyl (by omega) (fun w ⟨H,hw⟩ x hx y hy=>?_)) ?_)
  ·have hw':=hw.le (Hle.append_right (K:=[]) H)
   exact equalI_spec _ _ _ _ w ((hPy x hx).own hw') ((hPy y hy).own hw')
  rintro u R ⟨rfl,rfl⟩
  have hpw:ys.Pairwise (fun a b=>cmpLs a.l b.l≤0):=by
   rw [List.pairwise_iff_getElem]
   intro i j hi hj hij
   have h9:=hys i j hij (by omega)
   rw [List.getD_eq_getElem?_getD,List.getD_eq_getElem?_getD,List.getElem?_eq_getElem hi,List.getElem?_eq_getElem hj] at h9
   exact h9
  obtain⟨hasc,hmem⟩:=cpR_asc hpw
  have hof:ofOk ps ns names ((cpR ys).map RwI.l):=by
   refine ⟨hasc,fun s=>?_⟩
   rw [hmem,(hyp.map RwI.l).mem_iff,hL,List.mem_flatMap]
   constructor
   ·rintro⟨i,hi,hs⟩
    obtain⟨h1,h2⟩:=ffI_mem.1 hs
    obtain⟨h3,h4⟩:=(belT_mem hok.up hok.pos).1 hi
    exact⟨h1,i,h3,h4,h2⟩
   ·rintro⟨h1,i,h3,h4,h2⟩
    exact⟨i,(belT_mem hok.up hok.pos).2 ⟨h3,h4⟩,ffI_mem.2 ⟨h1,h2⟩⟩
  have hPc:Rd (fr P) ((cpR ys).map RwI.val) ((cpR ys).map fun x=>intsD x.l):=rd_allR fun x hx=>hPy x (cpR_sub hx)
  repeat' (first|refine d1 ?_|(show ∀ _:Nat,T _ _ _ _ _;intro _))
  exact T_retD (H':=[dat [.slice A (cpR ys).length c] [rowsD ((cpR ys).map RwI.l)]]) (hle_ug2 hPc) (rf_V (vs:=[.slice A (cpR ys).length c, .int .i64 0]) _ rfl (Hle.refl _) ⟨_,_,hof,rfl,rfl⟩)
end Go.Proofs.YtabhdaehomjlgaaGreat
namespace Go.Proofs.YtabhdaehomjlgaaGreat
open Go.RowKit Go.Shelf Go.Proofs
set_option maxRecDepth 100000
set_option maxHeartbeats 2000000

def nm33:List ByteArray:=[⟨#[65]⟩,⟨#[66]⟩,⟨#[67]⟩,⟨#[68]⟩]
theorem rd_intsU {w:World} {A:Option Addr} {n c:Nat} {r:List Int} (h:Src w 1 A n (r.map (Value.int .i64))) (hn:n≤c) (hc:c≤9223372036854775807):Rd (wr w) [.slice A n c] [intsD r]:=by
 have:=h.rdD hn hc (Rd.vals _)
 rw [List.map_map] at this
 exact this
end Go.Proofs.YtabhdaehomjlgaaGreat
namespace Go.Proofs.YtabhdaehomjlgaaGreat
open Go.RowKit Go.Shelf Go.Proofs
set_option maxRecDepth 100000
set_option maxHeartbeats 1000000

theorem siglum_size {s:ByteArray} (h:siglum22 s=true):s.size≤1000:=by
 unfold siglum22 at h
 split at h
 ·simp only [Bool.and_eq_true,decide_eq_true_eq] at h;omega
 ·unfold isNameB at h
  simp only [Bool.and_eq_true,decide_eq_true_eq] at h;omega
theorem tOk.sizes {ps:List Int} {ns:List ByteArray} (h:tOk ps ns):∀ s∈ns,s.size≤1000000:=fun s hs=>by
 obtain⟨i,hi⟩:=List.mem_iff_getElem?.1 hs
 have hil:=(List.getElem?_eq_some_iff.1 hi).1
 have hd:ns.getD i ByteArray.empty=s:=by rw [List.getD_eq_getElem?_getD,hi];rfl
 by_cases h0:kdsI ps i ps.length=[]
 ·have:=siglum_size (h.lf i (by rw [← h.len];exact hil) h0).1
  rw [hd] at this;omega
 ·have:=h.inn i (by rw [← h.len];exact hil) h0
  rw [hd] at this
  rw [this]
  exact Nat.zero_le _
theorem SpecB.le {P:Program} {f:FuncId} {args:List Value} {w0:World} {H H':List HA} {Φ:Value→List HA→Prop} (hl:Hle H H') (h:SpecB P f args w0 H' Φ):SpecB P f args w0 H Φ:=⟨h.enters,fun w hw=>h.calls w (hw.le hl)⟩
end Go.Proofs.YtabhdaehomjlgaaGreat
namespace Go.Proofs.YtabhdaehomjlgaaGreat
open Go.RowKit Go.Shelf Go.Proofs
set_option maxRecDepth 100000
set_option maxHeartbeats 2000000

def cnT (ps:List Int) (ns:List ByteArray):Nd:=srtN (ndOf ps ns)
def cps (ps:List Int) (ns:List ByteArray):List Int:=prsN (-1) 0 (cnT ps ns)
def cns (ps:List Int) (ns:List ByteArray):List ByteArray:=nmP (cnT ps ns)
theorem cnT_len {ps:List Int} {ns:List ByteArray} (h:tOk ps ns):cntN (cnT ps ns)=ps.length:=by
 unfold cnT;rw [cntN_srt,cntN_ndOf h.up h.pos]
theorem cps_len {ps:List Int} {ns:List ByteArray} (h:tOk ps ns):(cps ps ns).length=ps.length:=by unfold cps;rw [prsN_len,cnT_len h]
theorem cns_len {ps:List Int} {ns:List ByteArray} (h:tOk ps ns):(cns ps ns).length=ps.length:=by unfold cns;rw [nmP_len,cnT_len h]
theorem cnT_ok {ps:List Int} {ns:List ByteArray} (h:tOk ps ns):tOk (cps ps ns) (cns ps ns):=by
 have hp:(nmsN (cnT ps ns)).Perm (nmsN (ndOf ps ns)):=srtN_nms _
 refine tOk_back (by rw [cnT_len h];exact h.n64) (innE_srt _ (innE_ndF h.up h.inn _ 0 h.pos)) (fun a ha=>?_) (hp.nodup_iff.2 (nms_nodup h))
 obtain⟨i,hi,rfl⟩:=List.mem_map.1 ((nms_ndOf h).mem_iff.1 (hp.mem_iff.1 ha))
 have hil:=(lfI_mem.1 hi).1
 rw [h.len] at hil
 exact (h.lf i hil ((h.leaf hil).2 hi)).1
theorem canonical_spec (A1 A2:Option Addr) (n1 c1 n2 c2:Nat) (ps:List Int) (ns:List ByteArray) (w:World) (ht:TrA w A1 n1 c1 A2 n2 c2 ps ns) (hok:tOk ps ns) (h12:(lfI ns).length≤12) :
  Spec Tryz.prog 58 [.agg #[.slice A1 n1 c1, .slice A2 n2 c2]] w (fun v R=>∃ s:(Option Addr × Nat) × (Option Addr × Nat),(ps.length≤s.1.2∧ps.length≤s.2.2) ∧
   v = .agg #[.slice s.1.1 ps.length s.1.2, .slice s.2.1 ps.length s.2.2] ∧
   R=[row 3 1 s.1.1 s.1.2 ps.length ((cps ps ns).map (Value.int .i64)),row 9 1 s.2.1 s.2.2 ps.length ((cns ps ns).map Value.string)]):=by
 have hl1:=ht.l1
 have hl2:=ht.l2
 have hlen:=hok.len
 have hpos:=hok.pos
 have h64:=hok.n64
 obtain rfl:n1=n2:=by omega
 refine spec_of sg Tryz.func58 rfl rfl rfl ?_
 repeat' (first|(show T _ (.ops _ (⟨_, .box _ _,_,_,_,_⟩::_)::_) _ _ _;refine T_op (OpT.box (cs:=[.slice A1 n1 c1, .slice A2 n1 c2]) rfl rfl rfl rfl rfl rfl rfl (fun _=>?_)))|refine d1 ?_|(show ∀ _:Nat,T _ _ _ _ _;intro _))
 rename_i t1 t2
 refine T_op (OpT.call rfl rfl rfl rfl rfl (fun w hw=>nodes_spec A1 A2 n1 c1 c2 ps ns w (src_below ht.s1 hw.below) (src_below ht.s2 hw.below) hl1 hl2 (by omega) (by omega) hok.up) ?_)
 rintro u R ⟨⟨b3,bs,x⟩,⟨hbl,hb0,hxe⟩,rfl,rfl⟩
 dsimp only at hbl hb0 hxe ⊢
 rw [List.cons_append,List.cons_append,List.nil_append]
 have hc0:(bs.map ptrV)[0+((0:Nat):Int).toNat * 1]?=some (lnV x):=by
  show (bs.map ptrV)[0]?=_
  rw [List.getElem?_map,hb0];rfl
 repeat' (first|refine d1 ?_|(show T _ (.ops _ (_::_)::_) _ _ _;first|refine T_val rfl (Val.load rfl (fun hg=>rdOwn1 (b:=b3) hc0)) rfl rfl rfl ?_|refine T_valC rfl (Val.load rfl (fun hg=>rdOwn1 (b:=b3) hc0)) rfl rfl rfl rfl rfl ?_)|(show T _ (.run _ _ (_::_) _ _::_) _ _ _;first|refine rv rfl rfl rfl (Val.load rfl (fun hg=>rdOwn1 (b:=b3) hc0)) rfl rfl rfl ?_|refine rg rfl rfl rfl (Val.load rfl (fun hg=>rdOwn1 (b:=b3) hc0)) rfl rfl rfl rfl rfl ?_)|(show ∀ _:Nat,T _ _ _ _ _;intro _))
 have hsx:=szN_er x
 have hcx:=cntN_ndOf (ns:=ns) hok.up hpos
 rw [hxe,hcx] at hsx
 have hnx:=nms_ndOf hok
 have hxl:=hnx.length_eq
 rw [List.length_map] at hxl
 refine T_le hle_swap ?_
 refine T_op (OpT.callB rfl rfl rfl rfl rfl (sorted_spec 100000 x w _ (by omega) (Nat.le_refl _) (by rw [hxe];exact nms_nodup hok) (by rw [hxe];omega)) ?_)
 rintro u R ⟨z,hz,hzb,rfl,rfl⟩
 rw [show lnV x=lnV z by unfold lnV;rw [hzb]]
 have hez:er z=cnT ps ns:=by rw [hz,hxe];rfl
 have hcz:=cnT_len hok
 have hsz2:=szN_er z
 rw [hez,hcz] at hsz2
 repeat' (first|refine d1 ?_|(show ∀ _:Nat,T _ _ _ _ _;intro _))
 refine T_op (OpT.callB rfl rfl rfl rfl rfl (tree_spec z w _ (by omega) (by rw [hez,hcz];omega)) ?_)
 rintro u R ⟨⟨⟨B1,d1'⟩,⟨B2,d2'⟩⟩,-,rfl,rfl⟩
 dsimp only
 rw [hez,hcz]
 refine T_le (H':=[row 3 1 B1 d1' ps.length ((cps ps ns).map (Value.int .i64)),row 9 1 B2 d2' ps.length ((cns ps ns).map Value.string),blk t2 [.slice none 0 0, .slice none 0 0] 30]) (hle_pm [1,2,4] [_,_,_,_,_,_] []) ?_
 refine T_rowCap fun hcap1=>?_
 refine T_le (H':=[row 9 1 B2 d2' ps.length ((cns ps ns).map Value.string),row 3 1 B1 d1' ps.length ((cps ps ns).map (Value.int .i64)),blk t2 [.slice none 0 0, .slice none 0 0] 30]) (hle_pm [1,0,2] [_,_,_] []) ?_
 refine T_rowCap fun hcap2=>?_
 repeat' (first|refine d1 ?_|(show ∀ _:Nat,T _ _ _ _ _;intro _))
 refine T_le (H':=[blk t2 [.slice B1 ps.length d1', .slice B2 ps.length d2'] 30,row 3 1 B1 d1' ps.length ((cps ps ns).map (Value.int .i64)),row 9 1 B2 d2' ps.length ((cns ps ns).map Value.string)]) (hle_pm [2,1,0] [_,_,_] []) ?_
 exact T_retM (vs:=[.agg #[.slice B1 ps.length d1', .slice B2 ps.length d2']]) _ ⟨⟨t2,_,[.slice B1 ps.length d1', .slice B2 ps.length d2'],rfl,rfl,rfl,rfl,(fun h=>by cases h),rfl,rdAll⟩,trivial⟩ (Hle.tail _ _) ⟨((B1,d1'),(B2,d2')),⟨hcap1.1,hcap2.1⟩,rfl,rfl⟩
theorem canonicalE_spec (A1 A2:Option Addr) (n1 c1 n2 c2:Nat) (ps:List Int) (ns:List ByteArray) (w:World) (ht:TrA w A1 n1 c1 A2 n2 c2 ps ns) (hok:tOk ps ns) (h12:(lfI ns).length≤12) :
  Spec Tryz.prog 40 [.agg #[.slice A1 n1 c1, .slice A2 n2 c2]] w (fun v R=>∃ s:(Option Addr × Nat) × (Option Addr × Nat),(ps.length≤s.1.2∧ps.length≤s.2.2) ∧
   v = .tuple #[.agg #[.slice s.1.1 ps.length s.1.2, .slice s.2.1 ps.length s.2.2], .int .i64 0] ∧
   R=[row 3 1 s.1.1 s.1.2 ps.length ((cps ps ns).map (Value.int .i64)),row 9 1 s.2.1 s.2.2 ps.length ((cns ps ns).map Value.string)]):=by
 refine spec_of sg Tryz.func40 rfl rfl rfl ?_
 repeat' (first|(show T _ (.ops _ (⟨_, .box _ _,_,_,_,_⟩::_)::_) _ _ _;refine T_op (OpT.box (cs:=[.slice A1 n1 c1, .slice A2 n2 c2]) rfl rfl rfl rfl rfl rfl rfl (fun _=>?_)))|refine d1 ?_|(show ∀ _:Nat,T _ _ _ _ _;intro _))
 rename_i t1 t2
 refine T_op (OpT.call rfl rfl rfl rfl rfl (fun w hw=>checkTree_spec A1 A2 n1 c1 n2 c2 ps ns w (ht.cls hw)) ?_)
 rintro u R ⟨e,he,rfl,rfl⟩
 rw [List.nil_append]
 obtain rfl:e=0:=he.2 hok
 repeat' (first|refine d1 ?_|(show ∀ _:Nat,T _ _ _ _ _;intro _))
 refine T_if rfl (fun h=>by exfalso;simp at h) (fun _=>?_)
 repeat' (first|refine d1 ?_|(show ∀ _:Nat,T _ _ _ _ _;intro _))
 refine T_op (OpT.call rfl rfl rfl rfl rfl (fun w hw=>canonical_spec A1 A2 n1 c1 n2 c2 ps ns w (ht.cls hw) hok h12) ?_)
 rintro u R ⟨⟨⟨B1,d1'⟩,⟨B2,d2'⟩⟩,⟨hc1,hc2⟩,rfl,rfl⟩
 dsimp only at hc1 hc2 ⊢
 refine T_le (H':=[row 3 1 B1 d1' ps.length ((cps ps ns).map (Value.int .i64)),row 9 1 B2 d2' ps.length ((cns ps ns).map Value.string),blk t2 [.slice none 0 0, .slice none 0 0] 30]) (hle_pm [0,1,2] [_,_,_,_] []) ?_
 repeat' (first|refine d1 ?_|(show ∀ _:Nat,T _ _ _ _ _;intro _))
 refine T_le (H':=[blk t2 [.slice B1 ps.length d1', .slice B2 ps.length d2'] 30,row 3 1 B1 d1' ps.length ((cps ps ns).map (Value.int .i64)),row 9 1 B2 d2' ps.length ((cns ps ns).map Value.string)]) (hle_pm [2,0,1] [_,_,_] []) ?_
 exact T_retM (vs:=[.agg #[.slice B1 ps.length d1', .slice B2 ps.length d2'], .int .i64 0]) _ ⟨⟨t2,_,[.slice B1 ps.length d1', .slice B2 ps.length d2'],rfl,rfl,rfl,rfl,(fun h=>by cases h),rfl,rdAll⟩,rfl,trivial⟩ (Hle.tail _ _) ⟨((B1,d1'),(B2,d2')),⟨hc1,hc2⟩,rfl,rfl⟩
end Go.Proofs.YtabhdaehomjlgaaGreat
namespace Go.Proofs.YtabhdaehomjlgaaGreat
open Go.RowKit Go.Shelf
set_option maxRecDepth 100000

mutual
def sbt:Nd→List Nd
 | .mk a o ks => .mk a o ks::sbtL ks
def sbtL:List Nd→List Nd
 | []=>[]
 | k::r=>sbt k++sbtL r
end
theorem sbtL_flat:∀ ks,sbtL ks=ks.flatMap sbt
 | []=>rfl
 | k::r=>by rw [sbtL,sbtL_flat r];rfl
theorem sbt_mk (a:ByteArray) (o:Int) (ks:List Nd):sbt (.mk a o ks) = .mk a o ks::ks.flatMap sbt:=by rw [sbt,sbtL_flat]
def psb (x:Nd):List Nd:=(ndKs x).flatMap sbt
theorem sbt_psb (x:Nd):sbt x=x::psb x:=by obtain⟨a,o,ks⟩:=x;exact sbt_mk a o ks
theorem sbt_ndT {ps:List Int} {ns:List ByteArray} (h:upT ps):∀ (m i:Nat),ps.length≤m+i→∀ z,(z∈sbt (ndT ps ns i)↔∃ j∈pstT ps i,z=ndT ps ns j)
 | 0,i,hm,z=>by
  have h0:=kdsI_end h (i:=i) (by omega)
  rw [ndT_eq h,h0,sbt_mk,pstT_eq h,h0]
  simp only [List.map_nil,List.flatMap_nil,List.mem_singleton,List.nil_append]
  constructor
  ·intro e;exact⟨i,rfl,by rw [e,ndT_eq h,h0];rfl⟩
  ·rintro⟨j,rfl,e⟩;rw [e,ndT_eq h,h0];rfl
 | m+1,i,hm,z=>by
  have ih:=sbt_ndT (ns:=ns) h m
  rw [pstT_eq h]
  conv=>lhs;rw [ndT_eq h,sbt_mk,List.mem_cons, ← ndT_eq h]
  rw [List.flatMap_map,List.mem_flatMap]
  constructor
  ·rintro (e|⟨k,hk,hz⟩)
   ·exact⟨i,List.mem_append_right _ (.head _),e⟩
   ·have hk2:=h.gt (Nat.le_refl _) hk
    obtain⟨j,hj,e⟩:=(ih k (by omega) z).1 hz
    exact⟨j,List.mem_append_left _ (List.mem_flatMap.2 ⟨k,hk,hj⟩),e⟩
  ·rintro⟨j,hj,e⟩
   rcases List.mem_append.1 hj with hj|hj
   ·obtain⟨k,hk,hj⟩:=List.mem_flatMap.1 hj
    have hk2:=h.gt (Nat.le_refl _) hk
    exact .inr ⟨k,hk,(ih k (by omega) z).2 ⟨j,hj,e⟩⟩
   ·rw [List.mem_singleton] at hj
    subst hj
    exact .inl e
theorem psb_ndOf {ps:List Int} {ns:List ByteArray} (h:upT ps) (h0:0<ps.length) {z:Nd}:z∈psb (ndOf ps ns)↔∃ i,0<i∧i<ps.length∧z=ndT ps ns i:=by
 rw [show ndOf ps ns=ndT ps ns 0 from rfl,ndT_eq h]
 unfold psb ndKs
 rw [List.flatMap_map,List.mem_flatMap]
 constructor
 ·rintro⟨k,hk,hz⟩
  obtain⟨j,hj,e⟩:=(sbt_ndT h ps.length k (by omega) z).1 hz
  have:=(belT_mem h h0).1 (List.mem_flatMap.2 ⟨k,hk,hj⟩)
  exact⟨j,this.1,this.2,e⟩
 ·rintro⟨j,h1,h2,e⟩
  obtain⟨k,hk,hj⟩:=List.mem_flatMap.1 ((belT_mem h h0).2 ⟨h1,h2⟩)
  exact⟨k,hk,(sbt_ndT h ps.length k (by omega) z).2 ⟨j,hj,e⟩⟩
theorem sbt_noO (x:Nd):sbt (noO x)=(sbt x).map noO:=by
 refine nd_ind (p:=fun x=>sbt (noO x)=(sbt x).map noO) (fun a o ks ih=>?_) x
 rw [noO_mk,sbt_mk,sbt_mk,List.map_cons,noO_mk,List.flatMap_map,List.map_flatMap]
 congr 1
 exact flatMap_congr' ih
theorem psb_noO (x:Nd):psb (noO x)=(psb x).map noO:=by
 have h:=sbt_noO x
 rw [sbt_psb,sbt_psb,List.map_cons] at h
 exact (List.cons.inj h).2
theorem sbt_srt (x:Nd):∀ z,(z∈sbt (srtN x)↔∃ y∈sbt x,z=srtN y):=by
 refine nd_ind (p:=fun x=>∀ z,(z∈sbt (srtN x)↔∃ y∈sbt x,z=srtN y)) (fun a o ks ih=>?_) x
 intro z
 rw [srtN_mk,sbt_mk,sbt_mk,List.mem_cons, ← srtN_mk,List.mem_flatMap]
 constructor
 ·rintro (e|⟨k,hk,hz⟩)
  ·exact⟨_, .head _,e⟩
  ·obtain⟨y,hy,rfl⟩:=List.mem_map.1 ((sortK_perm _).mem_iff.1 hk)
   obtain⟨u,hu,e⟩:=(ih y hy z).1 hz
   exact⟨u, .tail _ (List.mem_flatMap.2 ⟨y,hy,hu⟩),e⟩
 ·rintro⟨y,hy,e⟩
  rcases List.mem_cons.1 hy with h|h
  ·exact .inl (by rw [e,h])
  ·obtain⟨k,hk,hy⟩:=List.mem_flatMap.1 h
   exact .inr ⟨srtN k,(sortK_perm _).mem_iff.2 (List.mem_map_of_mem hk),(ih k hk z).2 ⟨y,hy,e⟩⟩
theorem psb_srt (x:Nd) (z:Nd):z∈psb (srtN x)↔∃ y∈psb x,z=srtN y:=by
 obtain⟨a,o,ks⟩:=x
 rw [srtN_mk]
 unfold psb ndKs
 rw [List.mem_flatMap]
 constructor
 ·rintro⟨k,hk,hz⟩
  obtain⟨y,hy,rfl⟩:=List.mem_map.1 ((sortK_perm _).mem_iff.1 hk)
  obtain⟨u,hu,e⟩:=(sbt_srt y z).1 hz
  exact⟨u,List.mem_flatMap.2 ⟨y,hy,hu⟩,e⟩
 ·rintro⟨y,hy,e⟩
  obtain⟨k,hk,hy⟩:=List.mem_flatMap.1 hy
  exact⟨srtN k,(sortK_perm _).mem_iff.2 (List.mem_map_of_mem hk),(sbt_srt k z).2 ⟨y,hy,e⟩⟩
def setsN (names:List ByteArray) (x:Nd):List (List Int):=(psb x).map (plS names)
theorem plS_noO (names:List ByteArray) (x:Nd):plS names (noO x)=plS names x:=by unfold plS;rw [noO_nms]
theorem plS_srt (names:List ByteArray) (x:Nd):plS names (srtN x)=plS names x:=plS_perm (srtN_nms x)
theorem setsN_noO (names:List ByteArray) (x:Nd):setsN names (noO x)=setsN names x:=by
 unfold setsN
 rw [psb_noO,List.map_map]
 exact List.map_congr_left fun y _=>plS_noO names y
theorem setsN_srt (names:List ByteArray) (x:Nd) (s:List Int):s∈setsN names (srtN x)↔s∈setsN names x:=by
 unfold setsN
 rw [List.mem_map,List.mem_map]
 constructor
 ·rintro⟨z,hz,rfl⟩
  obtain⟨y,hy,rfl⟩:=(psb_srt x z).1 hz
  exact⟨y,hy,(plS_srt names y).symm⟩
 ·rintro⟨y,hy,rfl⟩
  exact⟨srtN y,(psb_srt x _).2 ⟨y,hy,rfl⟩,plS_srt names y⟩
theorem setsN_ndOf {ps:List Int} {ns:List ByteArray} (h:upT ps) (h0:0<ps.length) (names:List ByteArray) (s:List Int):s∈setsN names (ndOf ps ns)↔∃ i,0<i∧i<ps.length∧s=plS names (ndT ps ns i):=by
 unfold setsN
 rw [List.mem_map]
 constructor
 ·rintro⟨z,hz,rfl⟩
  obtain⟨i,h1,h2,rfl⟩:=(psb_ndOf h h0).1 hz
  exact⟨i,h1,h2,rfl⟩
 ·rintro⟨i,h1,h2,rfl⟩
  exact⟨_,(psb_ndOf h h0).2 ⟨i,h1,h2,rfl⟩,rfl⟩
theorem setsN_back (names:List ByteArray) (x:Nd):setsN names (ndOf (prsN (-1) 0 x) (nmP x))=setsN names x:=by
 rw [← setsN_noO,ndOf_back,setsN_noO]
theorem setsN_cn (names:List ByteArray) (ps:List Int) (ns:List ByteArray) (s:List Int):s∈setsN names (ndOf (cps ps ns) (cns ps ns))↔s∈setsN names (ndOf ps ns):=by
 unfold cps cns
 rw [setsN_back]
 exact setsN_srt names _ s
theorem ofOk_sets {ps:List Int} {ns names:List ByteArray} {L:List (List Int)} (h:ofOk ps ns names L) (hup:upT ps) (h0:0<ps.length) (s:List Int):s∈L↔splOk names.length s∧∃ t∈setsN names (ndOf ps ns),s=nrmI names.length t:=by
 rw [h.mem]
 refine and_congr Iff.rfl ?_
 constructor
 ·rintro⟨i,h1,h2,e⟩
  exact⟨_,(setsN_ndOf hup h0 names _).2 ⟨i,h1,h2,rfl⟩,e⟩
 ·rintro⟨t,ht,e⟩
  obtain⟨i,h1,h2,rfl⟩:=(setsN_ndOf hup h0 names _).1 ht
  exact⟨i,h1,h2,e⟩
end Go.Proofs.YtabhdaehomjlgaaGreat
namespace Go.Proofs.YtabhdaehomjlgaaGreat
open Go.RowKit Go.Shelf
set_option maxRecDepth 100000

def mskL (l:List Int):Nat:=l.foldl (fun m s=>m ||| 1 <<< s.toNat) 0
theorem mskL_snoc (l:List Int) (s:Int):mskL (l++[s])=mskL l ||| 1 <<< s.toNat:=by unfold mskL;rw [List.foldl_append];rfl
theorem shl_bit (s i:Nat):(1 <<< s).testBit i=decide (i=s):=by
 rw [Nat.one_shiftLeft,Nat.testBit_two_pow]
 rw [decide_eq_decide];exact eq_comm
theorem foldl_bit (l:List Int) (m i:Nat):(l.foldl (fun m s=>m ||| 1 <<< s.toNat) m).testBit i=(m.testBit i || l.any fun s=>decide (s.toNat=i)):=by
 induction l generalizing m with
 | nil=>simp
 | cons s l ih =>
  rw [List.foldl_cons,ih,Nat.testBit_or,shl_bit,List.any_cons,Bool.or_assoc]
  congr 2
  rw [decide_eq_decide];exact eq_comm
theorem mskL_bit (l:List Int) (i:Nat):(mskL l).testBit i=l.any fun s=>decide (s.toNat=i):=by
 unfold mskL
 rw [foldl_bit,Nat.zero_testBit,Bool.false_or]
theorem mskL_has {l:List Int} (h:∀ z∈l,0≤z) (i:Nat):(mskL l).testBit i=decide ((i:Int)∈l):=by
 rw [mskL_bit,Bool.eq_iff_iff,List.any_eq_true,decide_eq_true_eq]
 constructor
 ·rintro⟨s,hs,he⟩
  have h1:=h s hs
  have h2:s.toNat=i:=of_decide_eq_true he
  rw [show (i:Int)=s by omega];exact hs
 ·intro hi
  exact⟨(i:Int),hi,decide_eq_true (Int.toNat_natCast i)⟩
theorem lt_pow_bit {a n:Nat} (h:∀ i,a.testBit i=true→i<n):a<2 ^ n:=by
 refine Nat.lt_pow_two_of_testBit a fun i hi=>?_
 cases hb:a.testBit i with
 | false=>rfl
 | true=>have:=h i hb;omega
theorem mskL_lt {l:List Int} {n:Nat} (h:∀ z∈l,0≤z∧z<n):mskL l<2 ^ n:=by
 refine lt_pow_bit fun i hi=>?_
 rw [mskL_has fun z hz=>(h z hz).1,decide_eq_true_eq] at hi
 have:=h _ hi
 omega
theorem mskL_inj {l m:List Int} (hl:l.Pairwise (· < ·)) (hm:m.Pairwise (· < ·)) (h1:∀ z∈l,0≤z) (h2:∀ z∈m,0≤z) (h:mskL l=mskL m):l=m:=by
 refine asc_uniq hl hm fun z=>?_
 constructor
 ·intro hz
  have h3:=mskL_has h1 z.toNat
  rw [h,mskL_has h2,Int.toNat_of_nonneg (h1 z hz)] at h3
  rw [decide_eq_decide] at h3
  exact h3.2 hz
 ·intro hz
  have h3:=mskL_has h1 z.toNat
  rw [h,mskL_has h2,Int.toNat_of_nonneg (h2 z hz)] at h3
  rw [decide_eq_decide] at h3
  exact h3.1 hz
def bitsI (n a:Nat):List Int:=setI n a.testBit
theorem bits_mskL {n:Nat} {l:List Int} (hl:l.Pairwise (· < ·)) (h:∀ z∈l,0≤z∧z<n):bitsI n (mskL l)=l:=by
 refine asc_uniq (setI_asc _ _) hl fun z=>?_
 unfold bitsI
 rw [setI_mem]
 constructor
 ·rintro⟨i,-,h2,rfl⟩
  rw [mskL_has fun z hz=>(h z hz).1,decide_eq_true_eq] at h2
  exact h2
 ·intro hz
  have:=h z hz
  refine ⟨z.toNat,by omega,?_,by omega⟩
  rw [mskL_has fun z hz=>(h z hz).1,decide_eq_true_eq,Int.toNat_of_nonneg this.1];exact hz
def inB (a b:Nat):Bool:=decide (ndN a b=0)
theorem inB_iff {a b:Nat}:inB a b=true↔∀ i,a.testBit i=true→b.testBit i=true:=by
 unfold inB
 rw [decide_eq_true_eq]
 constructor
 ·intro h i hi
  have h1:=ndN_bit a b i
  rw [h,Nat.zero_testBit,hi,Bool.true_and] at h1
  simpa using h1.symm
 ·intro h
  refine Nat.eq_of_testBit_eq fun i=>?_
  rw [ndN_bit,Nat.zero_testBit]
  cases ha:a.testBit i with
  | false=>rfl
  | true=>rw [h i ha];rfl
theorem inB_le {a b:Nat} (h:inB a b=true):a≤b:=Nat.le_of_testBit (inB_iff.1 h)
theorem inB_refl (a:Nat):inB a a=true:=inB_iff.2 fun _ h=>h
theorem inB_anti {a b:Nat} (h1:inB a b=true) (h2:inB b a=true):a=b:=Nat.le_antisymm (inB_le h1) (inB_le h2)
def cflB (a b:Nat):Bool:=decide (a &&& b≠0) && (!inB a b && !inB b a)
theorem and_zero {a b:Nat}:a &&& b=0↔∀ i,¬ (a.testBit i=true∧b.testBit i=true):=by
 constructor
 ·rintro h i ⟨h1,h2⟩
  have h3:=Nat.testBit_and a b i
  rw [h,Nat.zero_testBit,h1,h2] at h3;cases h3
 ·intro h
  refine Nat.eq_of_testBit_eq fun i=>?_
  rw [Nat.testBit_and,Nat.zero_testBit]
  have:=h i
  cases h1:a.testBit i <;> cases h2:b.testBit i <;> simp_all
theorem cflB_false {a b:Nat}:cflB a b=false↔(a &&& b=0∨inB a b=true∨inB b a=true):=by
 unfold cflB
 cases h1:inB a b <;> cases h2:inB b a <;> simp
end Go.Proofs.YtabhdaehomjlgaaGreat
namespace Go.Proofs.YtabhdaehomjlgaaGreat
open Go.RowKit Go.Shelf
set_option maxRecDepth 100000

def bitsN (n a:Nat):List Nat:=(List.range n).filter a.testBit
theorem bitsN_mem {n a i:Nat}:i∈bitsN n a↔i<n∧a.testBit i=true:=by unfold bitsN;rw [List.mem_filter,List.mem_range]
theorem bitsN_nodup (n a:Nat):(bitsN n a).Nodup:=List.nodup_range.filter _
theorem bitsI_N (n a:Nat):bitsI n a=(bitsN n a).map fun (i:Nat)=>(i:Int):=rfl
def kidB (inner:List Nat) (x y:Nat):Bool := !(decide (y=x) || !inB y x || inner.any fun z=>decide (z≠x) && (decide (z≠y) && (inB z x && inB y z)))
def kidsG (inner:List Nat) (x:Nat):List Nat:=inner.filter (kidB inner x)
def leftG (inner:List Nat) (x:Nat):Nat:=(kidsG inner x).foldl ndN x
def grT (names:List ByteArray) (inner:List Nat):Nat→Nat→Nd
 | 0,_ => .mk ByteArray.empty 0 []
 | f+1,x => .mk ByteArray.empty 0 ((kidsG inner x).map (grT names inner f)++(bitsN names.length (leftG inner x)).map fun s => .mk (names.getD s ByteArray.empty) 0 [])
theorem kidB_iff {inner:List Nat} {x y:Nat}:kidB inner x y=true↔y≠x∧inB y x=true∧∀ z∈inner,z≠x→z≠y→inB z x=true→inB y z=true→False:=by
 unfold kidB
 rw [Bool.not_eq_true',Bool.or_eq_false_iff,Bool.or_eq_false_iff,decide_eq_false_iff_not,Bool.not_eq_false',List.any_eq_false,and_assoc]
 refine and_congr Iff.rfl (and_congr Iff.rfl ?_)
 constructor
 ·intro h z hz h1 h2 h3 h4
  exact h z hz (by simp [h1,h2,h3,h4])
 ·intro h z hz h1
  simp only [Bool.and_eq_true,decide_eq_true_eq] at h1
  exact h z hz h1.1 h1.2.1 h1.2.2.1 h1.2.2.2
theorem kidsG_mem {inner:List Nat} {x y:Nat}:y∈kidsG inner x↔y∈inner∧kidB inner x y=true:=List.mem_filter
theorem kidsG_lt {inner:List Nat} {x y:Nat} (h:y∈kidsG inner x):y<x:=by
 obtain⟨h1,h2,-⟩:=kidB_iff.1 (kidsG_mem.1 h).2
 have:=inB_le h2
 omega
theorem foldl_nd (l:List Nat) (x i:Nat):(l.foldl ndN x).testBit i=(x.testBit i && !l.any fun y=>y.testBit i):=by
 induction l generalizing x with
 | nil=>simp
 | cons y l ih =>
  rw [List.foldl_cons,ih,ndN_bit,List.any_cons]
  cases x.testBit i <;> cases y.testBit i <;> simp
theorem leftG_bit {inner:List Nat} {x i:Nat}:(leftG inner x).testBit i=true↔x.testBit i=true∧∀ y∈kidsG inner x,y.testBit i=false:=by
 unfold leftG
 rw [foldl_nd,Bool.and_eq_true,Bool.not_eq_true',List.any_eq_false]
 refine and_congr Iff.rfl ?_
 exact⟨fun h y hy=>by have:=h y hy;simpa using this,fun h y hy=>by rw [h y hy];decide⟩
structure lamB (inner:List Nat):Prop where
 nd:inner.Nodup
 lam:∀ y∈inner,∀ z∈inner,cflB y z=false
theorem kids_disj {inner:List Nat} (h:lamB inner) {x y z:Nat} (hy:y∈kidsG inner x) (hz:z∈kidsG inner x) (hne:y≠z):y &&& z=0:=by
 obtain⟨h1,h2⟩:=kidsG_mem.1 hy
 obtain⟨h3,h4⟩:=kidsG_mem.1 hz
 obtain⟨k1,k2,k3⟩:=kidB_iff.1 h2
 obtain⟨g1,g2,g3⟩:=kidB_iff.1 h4
 rcases cflB_false.1 (h.lam y h1 z h3) with e|e|e
 ·exact e
 ·exact absurd (k3 z h3 g1 (Ne.symm hne) g2 e) id
 ·exact absurd (g3 y h1 k1 hne k2 e) id
theorem bits_split {inner:List Nat} (h:lamB inner) (n x:Nat):((kidsG inner x).flatMap (bitsN n)++bitsN n (leftG inner x)).Perm (bitsN n x):=by
 have hkn:(kidsG inner x).Nodup:=h.nd.filter _
 refine (List.perm_ext_iff_of_nodup ?_ (bitsN_nodup n x)).2 fun i=>?_
 ·rw [List.nodup_append]
  refine ⟨?_,bitsN_nodup _ _,fun i hi j hj e=>?_⟩
  ·refine List.pairwise_flatMap.2 ⟨fun y _=>bitsN_nodup n y,?_⟩
   refine hkn.imp_of_mem fun {y z} hy hz hne=>?_
   intro i hi j hj e
   subst e
   have h1:=kids_disj h hy hz hne
   exact and_zero.1 h1 i ⟨(bitsN_mem.1 hi).2,(bitsN_mem.1 hj).2⟩
  ·subst e
   obtain⟨y,hy,hi⟩:=List.mem_flatMap.1 hi
   have h1:=(leftG_bit.1 (bitsN_mem.1 hj).2).2 y hy
   rw [(bitsN_mem.1 hi).2] at h1;cases h1
 ·rw [List.mem_append,List.mem_flatMap,bitsN_mem,bitsN_mem]
  constructor
  ·rintro (⟨y,hy,hi⟩|⟨h1,h2⟩)
   ·obtain⟨h1,h2⟩:=bitsN_mem.1 hi
    exact⟨h1,inB_iff.1 (kidB_iff.1 (kidsG_mem.1 hy).2).2.1 i h2⟩
   ·exact⟨h1,(leftG_bit.1 h2).1⟩
  ·rintro⟨h1,h2⟩
   by_cases hk:∃ y∈kidsG inner x,y.testBit i=true
   ·obtain⟨y,hy,hi⟩:=hk
    exact .inl ⟨y,hy,bitsN_mem.2 ⟨h1,hi⟩⟩
   ·refine .inr ⟨h1,leftG_bit.2 ⟨h2,fun y hy=>?_⟩⟩
    cases hb:y.testBit i with
    | false=>rfl
    | true=>exact absurd ⟨y,hy,hb⟩ hk
theorem bitsN_ne {n x:Nat} (h:x<2 ^ n) (h0:x≠0):bitsN n x≠[]:=by
 intro e
 refine h0 (Nat.eq_of_testBit_eq fun i=>?_)
 rw [Nat.zero_testBit]
 cases hb:x.testBit i with
 | false=>rfl
 | true =>
  have hi:i<n:=by
   rcases Nat.lt_or_ge i n with h1|h1
   ·exact h1
   ·rw [Nat.testBit_lt_two_pow (Nat.lt_of_lt_of_le h (Nat.pow_le_pow_right (show 0<2 by decide) h1))] at hb;cases hb
  have:=bitsN_mem.2 ⟨hi,hb⟩
  rw [e] at this;cases this
section
variable {names:List ByteArray} {inner:List Nat}
theorem grT_nms (h:lamB inner) (h0:∀ y∈inner,y≠0):∀ f x,x<f→x≠0→x<2 ^ names.length→(nmsN (grT names inner f x)).Perm ((bitsN names.length x).map fun i=>names.getD i ByteArray.empty)
 | 0,_,h1,_,_=>by omega
 | f+1,x,h1,h2,h3=>by
  have hsp:=bits_split h names.length x
  have hne:(kidsG inner x).map (grT names inner f)++(bitsN names.length (leftG inner x)).map (fun s=>Nd.mk (names.getD s ByteArray.empty) 0 [])≠[]:=by
   intro e
   obtain⟨e1,e2⟩:=List.append_eq_nil_iff.1 e
   rw [List.map_eq_nil_iff.1 e1,List.map_eq_nil_iff.1 e2] at hsp
   exact bitsN_ne h3 h2 hsp.nil_eq.symm
  rw [grT,nmsN_node hne,List.flatMap_append,List.flatMap_map,List.flatMap_map]
  refine List.Perm.trans ?_ (hsp.map _)
  rw [List.map_append,List.map_flatMap]
  refine List.Perm.append (flatMap_perm2 fun y hy=>?_) ?_
  ·have hl:=kidsG_lt hy
   exact grT_nms h h0 f y (by omega) (h0 y (kidsG_mem.1 hy).1) (by omega)
  ·have e:∀ l:List Nat,(l.flatMap fun s=>nmsN (Nd.mk (names.getD s ByteArray.empty) 0 []))=l.map fun i=>names.getD i ByteArray.empty:=fun l=>by
    induction l with
    | nil=>rfl
    | cons s l ih=>rw [List.flatMap_cons,ih,nmsN_leaf];rfl
   rw [e]
theorem grT_plS (h:lamB inner) (h0:∀ y∈inner,y≠0) (hnd:names.Nodup) {f x:Nat} (h1:x<f) (h2:x≠0) (h3:x<2 ^ names.length):plS names (grT names inner f x)=bitsI names.length x:=by
 have hp:=grT_nms (names:=names) h h0 f x h1 h2 h3
 refine asc_uniq (setI_asc _ _) (setI_asc _ _) fun z=>?_
 rw [bitsI_N,List.mem_map]
 refine plS_mem.trans ?_
 constructor
 ·rintro⟨k,a,h4,h5,rfl⟩
  obtain⟨i,hi,e⟩:=List.mem_map.1 (hp.mem_iff.1 h5)
  have hil:=(bitsN_mem.1 hi).1
  have hia:names[i]?=some a:=by
   rw [List.getElem?_eq_getElem hil]
   rw [List.getD_eq_getElem?_getD,List.getElem?_eq_getElem hil] at e
   exact congrArg some e
  rw [nodup_at hnd h4 hia]
  exact⟨i,hi,rfl⟩
 ·rintro⟨i,hi,rfl⟩
  have hil:=(bitsN_mem.1 hi).1
  exact⟨i,_,List.getElem?_eq_getElem hil,hp.mem_iff.2 (List.mem_map.2 ⟨i,hi,by rw [List.getD_eq_getElem?_getD,List.getElem?_eq_getElem hil];rfl⟩),rfl⟩
theorem grT_sets (h:lamB inner) (h0:∀ y∈inner,y≠0) (hnd:names.Nodup):∀ f x,x<f→x<2 ^ names.length→∀ s∈setsN names (grT names inner f x),(∃ y∈inner,s=bitsI names.length y)∨∃ k:Nat,s=[(k:Int)]
 | 0,_,h1,_=>by omega
 | f+1,x,h1,h3=>by
  intro s hs
  unfold setsN at hs
  obtain⟨z,hz,rfl⟩:=List.mem_map.1 hs
  rw [grT] at hz
  unfold psb ndKs at hz
  rw [List.flatMap_append,List.flatMap_map,List.flatMap_map] at hz
  rcases List.mem_append.1 hz with hz|hz
  ·obtain⟨y,hy,hz⟩:=List.mem_flatMap.1 hz
   have hl:=kidsG_lt hy
   rw [sbt_psb] at hz
   rcases List.mem_cons.1 hz with e|hz
   ·subst e
    exact .inl ⟨y,(kidsG_mem.1 hy).1,grT_plS h h0 hnd (by omega) (h0 y (kidsG_mem.1 hy).1) (by omega)⟩
   ·exact grT_sets h h0 hnd f y (by omega) (by omega) _ (List.mem_map_of_mem hz)
  ·obtain⟨k,hk,hz⟩:=List.mem_flatMap.1 hz
   rw [sbt_psb] at hz
   rcases List.mem_cons.1 hz with e|hz
   ·subst e
    have hkl:=(bitsN_mem.1 hk).1
    exact .inr ⟨k,plS_leaf hnd (by rw [List.getElem?_eq_getElem hkl,List.getD_eq_getElem?_getD,List.getElem?_eq_getElem hkl];rfl)⟩
   ·cases hz
theorem grT_inn:∀ f x,innE (grT names inner f x)
 | 0,_=>by rw [grT,innE_mk];exact⟨fun h=>absurd rfl h,fun k hk=>by cases hk⟩
 | f+1,x=>by
  rw [grT,innE_mk]
  refine ⟨fun _=>rfl,fun k hk=>?_⟩
  rcases List.mem_append.1 hk with hk|hk
  ·obtain⟨y,_,rfl⟩:=List.mem_map.1 hk
   exact grT_inn f y
  ·obtain⟨s,_,rfl⟩:=List.mem_map.1 hk
   rw [innE_mk]
   exact⟨fun h=>absurd rfl h,fun k hk=>by cases hk⟩
theorem sum_two {α:Type} {f g:α→Nat}:∀ {l:List α},(∀ x∈l,f x+1≤2 * g x)→(l.map f).sum+l.length≤2 * (l.map g).sum
 | [],_=>Nat.le_refl _
 | x::l,h=>by
  have h1:=h x (.head _)
  have h2:=sum_two (f:=f) (g:=g) (l:=l) fun y hy=>h y (.tail _ hy)
  simp only [List.map_cons,List.sum_cons,List.length_cons]
  omega
theorem sum_one (l:List Nat):(l.map fun _=>1).sum=l.length:=by
 induction l with
 | nil=>rfl
 | cons x l ih=>rw [List.map_cons,List.sum_cons,ih,List.length_cons];omega
theorem grT_cnt (h:lamB inner) (h2:∀ y∈inner,2≤(bitsN names.length y).length):∀ f x,x<f→x<2 ^ names.length→2≤(bitsN names.length x).length→cntN (grT names inner f x)+1≤2 * (bitsN names.length x).length
 | 0,_,h1,_,_=>by omega
 | f+1,x,h1,h3,h4=>by
  have hsp:=bits_split h names.length x
  have hlen:=hsp.length_eq
  rw [List.length_append,List.length_flatMap] at hlen
  rw [grT,cntN_mk,List.map_append,List.sum_append,List.map_map,List.map_map]
  have e1:((bitsN names.length (leftG inner x)).map (cntN ∘ fun s=>Nd.mk (names.getD s ByteArray.empty) 0 [])).sum=(bitsN names.length (leftG inner x)).length:=by
   rw [← sum_one];rfl
  rw [e1]
  have e2:=sum_two (f:=cntN ∘ grT names inner f) (g:=fun y=>(bitsN names.length y).length) (l:=kidsG inner x) fun y hy=>by
   have hl:=kidsG_lt hy
   exact grT_cnt h h2 f y (by omega) (by omega) (h2 y (kidsG_mem.1 hy).1)
  -- two children at least
  have e3:2≤(kidsG inner x).length+(bitsN names.length (leftG inner x)).length:=by
   match hk:kidsG inner x with
   | [] =>
    rw [hk] at hlen
    simp only [List.map_nil,List.sum_nil] at hlen
    rw [List.length_nil];omega
   | [y] =>
    rw [List.length_singleton]
    rcases Nat.eq_zero_or_pos (bitsN names.length (leftG inner x)).length with h5|h5
    ·exfalso
     have hy:y∈kidsG inner x:=by rw [hk];exact .head _
     obtain⟨g1,g2,-⟩:=kidB_iff.1 (kidsG_mem.1 hy).2
     refine g1 (inB_anti g2 (inB_iff.2 fun i hi=>?_))
     have hin:i<names.length:=by
      rcases Nat.lt_or_ge i names.length with h6|h6
      ·exact h6
      ·rw [Nat.testBit_lt_two_pow (Nat.lt_of_lt_of_le h3 (Nat.pow_le_pow_right (show 0<2 by decide) h6))] at hi;cases hi
     have h7:=hsp.mem_iff.2 (bitsN_mem.2 ⟨hin,hi⟩)
     rw [hk,List.eq_nil_of_length_eq_zero h5,List.append_nil,List.flatMap_singleton] at h7
     exact (bitsN_mem.1 h7).2
    ·omega
   | y::z::r=>rw [List.length_cons,List.length_cons];omega
  omega
end
end Go.Proofs.YtabhdaehomjlgaaGreat
namespace Go.Proofs.YtabhdaehomjlgaaGreat
open Go.RowKit Go.Shelf
set_option maxRecDepth 100000

theorem prsNL_app:∀ (a b:List Nd) (p:Int) (n:Nat),prsNL p n (a++b)=prsNL p n a++prsNL p (n+cntNL a) b
 | [],b,p,n=>rfl
 | x::a,b,p,n=>by rw [List.cons_append,prsNL,prsNL,prsNL_app a b,cntNL,List.append_assoc,Nat.add_assoc]
theorem nmPL_app:∀ (a b:List Nd),nmPL (a++b)=nmPL a++nmPL b
 | [],b=>rfl
 | x::a,b=>by rw [List.cons_append,nmPL,nmPL,nmPL_app a b,List.append_assoc]
theorem cntNL_app2 (a b:List Nd):cntNL (a++b)=cntNL a+cntNL b:=by rw [cntNL_sum,cntNL_sum,cntNL_sum,List.map_append,List.sum_append]
theorem prsNL_one (x:Nd) (p:Int) (n:Nat):prsNL p n [x]=prsN p n x:=by rw [prsNL,prsNL,List.append_nil]
theorem nmPL_one (x:Nd):nmPL [x]=nmP x:=by rw [nmPL,nmPL,List.append_nil]
theorem cntNL_one (x:Nd):cntNL [x]=cntN x:=rfl
def lfN (names:List ByteArray) (s:Nat):Nd := .mk (names.getD s ByteArray.empty) 0 []
theorem cntNL_lf (names:List ByteArray):∀ l:List Nat,cntNL (l.map (lfN names))=l.length
 | []=>rfl
 | s::l=>by rw [List.map_cons,cntNL,cntNL_lf names l,List.length_cons,Nat.add_comm];rfl
theorem prsNL_len2 (ks:List Nd) (p:Int) (n:Nat):(prsNL p n ks).length=cntNL ks:=prsNL_len ks (fun k _ p n=>prsN_len k p n) p n
theorem nmPL_len2 (ks:List Nd):(nmPL ks).length=cntNL ks:=nmPL_len ks fun k _=>nmP_len k
theorem grT_succ (names:List ByteArray) (inner:List Nat) (f x:Nat):grT names inner (f+1) x = .mk ByteArray.empty 0 ((kidsG inner x).map (grT names inner f)++(bitsN names.length (leftG inner x)).map (lfN names)):=rfl
def kdP (inner:List Nat) (x j:Nat):List Nat:=(inner.take j).filter (kidB inner x)
theorem kdP_succ {inner:List Nat} {x j y:Nat} (h:inner[j]?=some y):kdP inner x (j+1)=if kidB inner x y then kdP inner x j++[y] else kdP inner x j:=by
 unfold kdP
 rw [take_snoc _ _ _ h,List.filter_append]
 split
 ·rename_i h1
  rw [List.filter_cons_of_pos h1,List.filter_nil]
 ·rename_i h1
  rw [List.filter_cons_of_neg h1,List.filter_nil,List.append_nil]
theorem kdP_all {inner:List Nat} {x j:Nat} (h:inner.length≤j):kdP inner x j=kidsG inner x:=by unfold kdP kidsG;rw [List.take_of_length_le h]
theorem kdP_split (inner:List Nat) (x j:Nat):∃ r,kidsG inner x=kdP inner x j++r:=⟨(inner.drop j).filter (kidB inner x),by unfold kdP kidsG;rw [← List.filter_append,List.take_append_drop]⟩
theorem bitsN_zero (a:Nat):bitsN 0 a=[]:=rfl
theorem bitsN_succ (j a:Nat):bitsN (j+1) a=if a.testBit j then bitsN j a++[j] else bitsN j a:=by
 unfold bitsN
 rw [List.range_succ,List.filter_append]
 split
 ·rename_i h1
  rw [List.filter_cons_of_pos h1,List.filter_nil]
 ·rename_i h1
  rw [List.filter_cons_of_neg h1,List.filter_nil,List.append_nil]
theorem bitsN_len (j a:Nat):(bitsN j a).length≤j:=Nat.le_trans (List.length_filter_le _ _) (by rw [List.length_range];exact Nat.le_refl _)
theorem shr_bit (a s:Nat):decide (((a >>> s &&& 1:Nat):Int)=1)=a.testBit s:=by
 rw [Nat.and_one_is_mod,Nat.shiftRight_eq_div_pow,Nat.testBit_eq_decide_div_mod_eq,decide_eq_decide]
 omega
theorem foldl_nd_le (l:List Nat) (x:Nat):l.foldl ndN x≤x:=by
 induction l generalizing x with
 | nil=>exact Nat.le_refl _
 | cons y l ih=>exact Nat.le_trans (ih _) (ndN_le _ _)
end Go.Proofs.YtabhdaehomjlgaaGreat
namespace Go.Proofs.YtabhdaehomjlgaaGreat
open Go.RowKit Go.Shelf
set_option maxRecDepth 100000

theorem snoc_ind {α:Type} {p:List α→Prop} (h0:p []) (h1:∀ l x,p l→p (l++[x])) (l:List α):p l:=by
 rw [← List.reverse_reverse l]
 induction l.reverse with
 | nil=>exact h0
 | cons x r ih=>rw [List.reverse_cons];exact h1 _ _ ih
def innB (all:Nat) (acc:List Nat) (l:List Int):Bool:=decide (1<l.length) && (decide (mskL l≠all) && !decide (mskL l∈acc))
def innS (all:Nat) (acc:List Nat) (l:List Int):List Nat:=if innB all acc l then acc++[mskL l] else acc
def innL (all:Nat) (ls:List (List Int)):List Nat:=ls.foldl (innS all) []
theorem innL_snoc (all:Nat) (ls:List (List Int)) (l:List Int):innL all (ls++[l])=innS all (innL all ls) l:=by unfold innL;rw [List.foldl_append];rfl
theorem innL_mem {all:Nat} {y:Nat}:∀ ls:List (List Int),y∈innL all ls↔∃ l∈ls,y=mskL l∧1<l.length∧y≠all:=by
 intro ls
 induction ls using snoc_ind with
 | h0=>exact⟨fun h=>(by cases h),fun⟨l,h,_⟩=>(by cases h)⟩
 | h1 ls l ih =>
  rw [innL_snoc]
  unfold innS innB
  constructor
  ·intro h
   split at h
   ·rename_i h1
    simp only [Bool.and_eq_true,decide_eq_true_eq] at h1
    rcases List.mem_append.1 h with h|h
    ·obtain⟨l',h2,h3⟩:=ih.1 h
     exact⟨l',List.mem_append_left _ h2,h3⟩
    ·rw [List.mem_singleton] at h
     exact⟨l,List.mem_append_right _ (List.mem_singleton.2 rfl),h,h1.1,h ▸ h1.2.1⟩
   ·obtain⟨l',h2,h3⟩:=ih.1 h
    exact⟨l',List.mem_append_left _ h2,h3⟩
  ·rintro⟨l',h1,h2,h3,h4⟩
   rcases List.mem_append.1 h1 with h1|h1
   ·have:=ih.2 ⟨l',h1,h2,h3,h4⟩
    split
    ·exact List.mem_append_left _ this
    ·exact this
   ·rw [List.mem_singleton] at h1
    subst h1
    split
    ·exact List.mem_append_right _ (by rw [h2];exact List.mem_singleton.2 rfl)
    ·rename_i h5
     rw [h2] at h4 ⊢
     simp only [Bool.and_eq_true,decide_eq_true_eq,Bool.not_eq_true',decide_eq_false_iff_not] at h5
     exact Classical.byContradiction fun h6=>h5 ⟨h3,h4,h6⟩
theorem innL_len (all:Nat):∀ ls:List (List Int),(innL all ls).length≤ls.length:=by
 intro ls
 induction ls using snoc_ind with
 | h0=>exact Nat.le_refl _
 | h1 ls l ih =>
  rw [innL_snoc,List.length_append,List.length_singleton]
  unfold innS
  split
  ·rw [List.length_append,List.length_singleton];omega
  ·omega
theorem innL_nodup (all:Nat):∀ ls:List (List Int),(innL all ls).Nodup:=by
 intro ls
 induction ls using snoc_ind with
 | h0=>exact List.nodup_nil
 | h1 ls l ih =>
  rw [innL_snoc]
  unfold innS innB
  split
  ·rename_i h1
   simp only [Bool.and_eq_true,decide_eq_true_eq,Bool.not_eq_true',decide_eq_false_iff_not] at h1
   rw [List.nodup_append]
   exact⟨ih,by simp,fun a ha b hb e=>by rw [List.mem_singleton] at hb;subst hb;subst e;exact h1.2.2 ha⟩
  ·exact ih
theorem cflB_comm (a b:Nat):cflB a b=cflB b a:=by
 unfold cflB
 rw [Nat.and_comm,Bool.and_comm (!inB a b)]
theorem cflB_self (a:Nat):cflB a a=false:=cflB_false.2 (.inr (.inl (inB_refl a)))
def nocL (ls:List (List Int)):Prop:=∀ l∈ls,∀ m∈ls,cflB (mskL l) (mskL m)=false
theorem innL_lam {all:Nat} {ls:List (List Int)} (h:nocL ls):lamB (innL all ls):=by
 refine ⟨innL_nodup all ls,fun y hy z hz=>?_⟩
 obtain⟨l,hl,rfl,-⟩:=(innL_mem ls).1 hy
 obtain⟨m,hm,rfl,-⟩:=(innL_mem ls).1 hz
 exact h l hl m hm
theorem msk_bits_len {l:List Int} {N:Nat} (hasc:l.Pairwise (· < ·)) (hb:∀ z∈l,0≤z∧z<(N:Int)):(bitsN N (mskL l)).length=l.length:=by
 have:=congrArg List.length (bits_mskL hasc hb)
 rw [bitsI_N,List.length_map] at this
 exact this
end Go.Proofs.YtabhdaehomjlgaaGreat
namespace Go.Proofs.YtabhdaehomjlgaaGreat
open Go.RowKit Go.Shelf
set_option maxRecDepth 100000

section
variable {ps:List Int} {ns names:List ByteArray}
def FB (ps:List Int) (ns names:List ByteArray) (q b:Nat):Bool:=decide (b<names.length) && has22 (nmsN (ndT ps ns q)) (names.getD b ByteArray.empty)
def ownI (ps:List Int) (ns names:List ByteArray) (i:Nat) (M:List Nat):Prop :=
 M.length=ps.length∧∀ q,q<ps.length→∀ b,(M.getD q 0).testBit b=if i≤q then FB ps ns names q b else (kdsI ps q ps.length).any fun j=>decide (i≤j) && FB ps ns names j b
theorem FB_lt {q b:Nat} (h:FB ps ns names q b=true):b<names.length:=by
 unfold FB at h
 rw [Bool.and_eq_true] at h
 exact of_decide_eq_true h.1
theorem ownI_start:ownI ps ns names ps.length (List.replicate ps.length 0):=by
 refine ⟨List.length_replicate,fun q hq b=>?_⟩
 rw [if_neg (by omega),List.getD_eq_getElem?_getD,List.getElem?_replicate,if_pos hq]
 show Nat.testBit 0 b=_
 rw [Nat.zero_testBit]
 symm
 rw [List.any_eq_false]
 intro j hj
 have:=(kdsI_mem.1 hj).1
 simp only [Bool.and_eq_true,decide_eq_true_eq]
 omega
theorem ownI_lt {i:Nat} {M:List Nat} (h:ownI ps ns names i M) {q:Nat} (hq:q<ps.length):M.getD q 0<2 ^ names.length:=by
 refine lt_pow_bit fun b hb=>?_
 rw [h.2 q hq] at hb
 split at hb
 ·exact FB_lt hb
 ·obtain⟨j,_,hj⟩:=List.any_eq_true.1 hb
  rw [Bool.and_eq_true] at hj
  exact FB_lt hj.2
theorem own_leaf (hok:tOk ps ns) (hnd:names.Nodup) {i k:Nat} {M:List Nat} (h:ownI ps ns names (i+1) M) (hi:i<ps.length) (hne:ns.getD i ByteArray.empty≠ByteArray.empty) (hk:names[k]?=some (ns.getD i ByteArray.empty)) (b:Nat) :
  (M.getD i 0 ||| 1 <<< k).testBit b=FB ps ns names i b:=by
 have hkl:=(List.getElem?_eq_some_iff.1 hk).1
 have h0:kdsI ps i ps.length=[]:=(hok.leaf hi).2 (lfI_mem.2 ⟨by have:=hok.len;omega,hne⟩)
 rw [Nat.testBit_or,shl_bit,h.2 i hi,if_neg (by omega),h0,List.any_nil,Bool.false_or]
 unfold FB
 rw [ndT_eq hok.up,h0,List.map_nil,nmsN_leaf,Bool.eq_iff_iff,Bool.and_eq_true,decide_eq_true_eq,decide_eq_true_eq,has22_iff,List.mem_singleton]
 constructor
 ·rintro rfl
  exact⟨hkl,by rw [List.getD_eq_getElem?_getD,hk];rfl⟩
 ·rintro⟨h1,h2⟩
  refine nodup_at hnd (a:=ns.getD i ByteArray.empty) ?_ hk
  rw [← h2,List.getD_eq_getElem?_getD,List.getElem?_eq_getElem h1];rfl
theorem own_inner (hok:tOk ps ns) {i:Nat} {M:List Nat} (h:ownI ps ns names (i+1) M) (hi:i<ps.length) (he:ns.getD i ByteArray.empty=ByteArray.empty) (b:Nat):(M.getD i 0).testBit b=FB ps ns names i b:=by
 have h0:kdsI ps i ps.length≠[]:=fun e=>(lfI_mem.1 ((hok.leaf hi).1 e)).2 he
 rw [h.2 i hi,if_neg (by omega)]
 unfold FB
 rw [ndT_eq hok.up i,nmsN_node (by simpa using h0),Bool.eq_iff_iff,List.any_eq_true,Bool.and_eq_true,decide_eq_true_eq,has22_iff,List.mem_flatMap]
 constructor
 ·rintro⟨j,hj,h1⟩
  simp only [Bool.and_eq_true,decide_eq_true_eq,has22_iff] at h1
  exact⟨h1.2.1,_,List.mem_map_of_mem hj,h1.2.2⟩
 ·rintro⟨h1,x,hx,h2⟩
  obtain⟨j,hj,rfl⟩:=List.mem_map.1 hx
  refine ⟨j,hj,?_⟩
  have:=hok.up.gt (Nat.le_refl _) hj
  simp only [Bool.and_eq_true,decide_eq_true_eq,has22_iff]
  exact⟨by omega,h1,h2⟩
theorem getD_set {M:List Nat} {i q v:Nat} (hi:i<M.length):(M.set i v).getD q 0=if q=i then v else M.getD q 0:=by
 rw [List.getD_eq_getElem?_getD,List.getElem?_set]
 by_cases h:i=q
 ·subst h
  rw [if_pos rfl,if_pos hi,if_pos rfl];rfl
 ·rw [if_neg h,if_neg (fun e=>h e.symm),List.getD_eq_getElem?_getD]
theorem own_root (hok:tOk ps ns) {i v:Nat} {M:List Nat} (h:ownI ps ns names (i+1) M) (hi:i<ps.length) (hv:∀ b,v.testBit b=FB ps ns names i b) (hp:ps.getD i (-1)<0):ownI ps ns names i (M.set i v):=by
 refine ⟨by rw [List.length_set];exact h.1,fun q hq b=>?_⟩
 rw [getD_set (by rw [h.1];exact hi)]
 by_cases e:q=i
 ·subst e
  rw [if_pos rfl,if_pos (Nat.le_refl _)];exact hv b
 ·rw [if_neg e,h.2 q hq]
  by_cases h1:i+1≤q
  ·rw [if_pos h1,if_pos (by omega)]
  ·rw [if_neg h1,if_neg (by omega)]
   refine Bool.eq_iff_iff.2 ?_
   rw [List.any_eq_true,List.any_eq_true]
   constructor
   ·rintro⟨j,hj,h2⟩
    simp only [Bool.and_eq_true,decide_eq_true_eq] at h2 ⊢
    exact⟨j,hj,by omega,h2.2⟩
   ·rintro⟨j,hj,h2⟩
    simp only [Bool.and_eq_true,decide_eq_true_eq] at h2 ⊢
    have h3:=(kdsI_mem.1 hj).2
    have h4:j≠i:=fun e2=>by rw [e2] at h3;omega
    exact⟨j,hj,by omega,h2.2⟩
theorem own_up (hok:tOk ps ns) {i p v:Nat} {M:List Nat} (h:ownI ps ns names (i+1) M) (hi:i<ps.length) (hv:∀ b,v.testBit b=FB ps ns names i b) (hp:ps.getD i (-1)=(p:Nat)) (hpi:p<i):ownI ps ns names i ((M.set i v).set p ((M.set i v).getD p 0 ||| v)):=by
 have hl:=h.1
 refine ⟨by rw [List.length_set,List.length_set];exact h.1,fun q hq b=>?_⟩
 rw [getD_set (by rw [List.length_set];omega),getD_set (by omega),getD_set (by omega),if_neg (by omega:¬ p=i)]
 have hkid:∀ q,q<i→((kdsI ps q ps.length).any fun j=>decide (i≤j) && FB ps ns names j b)=(((kdsI ps q ps.length).any fun j=>decide (i+1≤j) && FB ps ns names j b) || (decide (q=p) && FB ps ns names i b)):=by
  intro q hqi
  rw [Bool.eq_iff_iff,Bool.or_eq_true,List.any_eq_true,List.any_eq_true]
  simp only [Bool.and_eq_true,decide_eq_true_eq]
  constructor
  ·rintro⟨j,hj,h2,h3⟩
   by_cases e:j=i
   ·subst e
    have h4:=(kdsI_mem.1 hj).2
    exact .inr ⟨by omega,h3⟩
   ·exact .inl ⟨j,hj,by omega,h3⟩
  ·rintro (⟨j,hj,h2,h3⟩|⟨rfl,h3⟩)
   ·exact⟨j,hj,by omega,h3⟩
   ·exact⟨i,kdsI_mem.2 ⟨hi,hp⟩,Nat.le_refl _,h3⟩
 by_cases e1:q=p
 ·subst e1
  rw [if_pos rfl,if_neg (by omega),hkid q hpi,Nat.testBit_or,hv,h.2 q hq,if_neg (by omega),decide_eq_true rfl,Bool.true_and]
 ·rw [if_neg e1]
  by_cases e2:q=i
  ·subst e2
   rw [if_pos rfl,if_pos (Nat.le_refl _)];exact hv b
  ·rw [if_neg e2,h.2 q hq]
   by_cases h1:i+1≤q
   ·rw [if_pos h1,if_pos (by omega)]
   ·rw [if_neg h1,if_neg (by omega),hkid q (by omega),decide_eq_false e1,Bool.false_and,Bool.or_false]
theorem own_done {M:List Nat} (h:ownI ps ns names 0 M) {q:Nat} (hq:q<ps.length):M.getD q 0=mskL (plS names (ndT ps ns q)):=by
 refine Nat.eq_of_testBit_eq fun b=>?_
 rw [h.2 q hq,if_pos (Nat.zero_le _),mskL_has (l:=plS names (ndT ps ns q)) (fun z hz=>(setI_lo (n:=names.length) (p:=fun k=>has22 (nmsN (ndT ps ns q)) (names.getD k ByteArray.empty)) hz).1)]
 unfold FB plS
 rw [Bool.eq_iff_iff,decide_eq_true_eq,setI_has,Bool.and_eq_true,decide_eq_true_eq]
end
def numOk (names:List ByteArray) (l:List (ByteArray × Value)) (k:Nat):Prop:=l.length=k∧(∀ i b,i<k→names[i]?=some b→mget l b=some (.int .i64 (i:Nat)))∧∀ b,b ∉ names.take k→mget l b=none
theorem numOk_zero (names:List ByteArray):numOk names [] 0:=⟨rfl,fun i b h=>absurd h (Nat.not_lt_zero _),fun _ _=>rfl⟩
theorem numOk_step {names:List ByteArray} (hnd:names.Nodup) {l:List (ByteArray × Value)} {k:Nat} {a:ByteArray} (h:numOk names l k) (ha:names[k]?=some a):numOk names (mput l a (.int .i64 (k:Nat))) (k+1):=by
 have hnot:a ∉ names.take k:=fun hm=>by
  obtain⟨i,hi⟩:=List.mem_iff_getElem?.1 hm
  rw [List.getElem?_take] at hi
  split at hi
  ·rename_i h1
   have:=nodup_at hnd hi ha
   omega
  ·cases hi
 refine ⟨?_,fun i b hi hb=>?_,fun b hb=>?_⟩
 ·have h1:=h.2.2 a hnot
  have h2:fndL a l 0=none:=by
   unfold mget at h1
   cases hq:fndL a l 0 with
   | none=>rfl
   | some r=>rw [hq] at h1;cases h1
  rw [mput_new h2,List.length_append,h.1];rfl
 ·rw [mget_put]
  split
  ·rename_i e
   subst e
   rw [nodup_at hnd hb ha]
  ·rename_i e
   refine h.2.1 i b ?_ hb
   rcases Nat.lt_or_ge i k with h1|h1
   ·exact h1
   ·have h2:i=k:=by omega
    rw [h2,ha] at hb
    exact absurd (Option.some.inj hb).symm e
 ·rw [take_snoc _ _ _ ha] at hb
  rw [mget_put,if_neg (fun e=>hb (by rw [e];exact List.mem_append_right _ (List.mem_singleton.2 rfl)))]
  exact h.2.2 b fun hm=>hb (List.mem_append_left _ hm)
end Go.Proofs.YtabhdaehomjlgaaGreat
namespace Go.Proofs.YtabhdaehomjlgaaGreat
open Go.RowKit Go.Shelf Go.Proofs
set_option maxRecDepth 100000
set_option maxHeartbeats 2000000

structure GrE where
 u:Int
 st:Int
 x:RwI
abbrev GrE.cells (g:GrE):List Value:=[.int .i64 g.u, .int .i64 g.st, .slice g.x.A g.x.n g.x.cap]
abbrev GrE.val (g:GrE):Value := .agg #[.int .i64 g.u, .int .i64 g.st, .slice g.x.A g.x.n g.x.cap]
structure GrR (w:World) (A:Option Addr) (n:Nat) (gs:List GrE):Prop where
 s:Src w 3 A n (gs.flatMap GrE.cells)
 len:gs.length=n
 n12:n≤300
 rd:∀ g∈gs,Src w 1 g.x.A g.x.n (g.x.l.map (Value.int .i64))∧g.x.l.length=g.x.n∧g.x.n≤1000
theorem GrR.cls {w0 w:World} {H:List HA} {A:Option Addr} {n:Nat} {gs:List GrE} (h:GrR w0 A n gs) (hw:Cls w0 w H):GrR w A n gs :=
 ⟨src_below h.s hw.below,h.len,h.n12,fun g hg=>⟨src_below (h.rd g hg).1 hw.below,(h.rd g hg).2⟩⟩
theorem flatG_get {α:Type} {cells:α→List Value} {sz:Nat} (h:∀ t,(cells t).length=sz):∀ {l:List α} {k:Nat} {x:α},l[k]?=some x→∀ (j:Nat) u,(cells x)[j]?=some u→(l.flatMap cells)[k * sz+j]?=some u
 | [],_,_,hx,_,_,_=>by simp at hx
 | y::l,0,x,hx,j,u,hu=>by
  simp at hx
  subst hx
  rw [List.flatMap_cons,Nat.zero_mul,Nat.zero_add,List.getElem?_append_left (List.getElem?_eq_some_iff.1 hu).1]
  exact hu
 | y::l,k+1,x,hx,j,u,hu=>by
  rw [List.flatMap_cons,List.getElem?_append_right (by rw [h y,Nat.add_mul];omega),h y,show (k+1) * sz+j - sz=k * sz+j by rw [Nat.add_mul];omega]
  exact flatG_get h (by simpa using hx) j u hu
theorem GrR.at {w:World} {b o n:Nat} {gs:List GrE} (h:GrR w (some ⟨b,o,none⟩) n gs) {k:Nat} {g:GrE} (hk:gs[k]?=some g):RdC w b (o+(k:Int).toNat * 3) g.cells:=by
 have hkl:=(List.getElem?_eq_some_iff.1 hk).1
 have hl:=h.len
 obtain⟨-,h2⟩:=h.s.2 (by omega)
 intro j u hu
 have h3:=h2 (k * 3+j) u (flatG_get (cells:=GrE.cells) (sz:=3) (fun _=>rfl) hk j u hu)
 rw [Int.toNat_natCast,Nat.add_assoc]
 exact h3
theorem ofG_spec (A:Option Addr) (n c:Nat) (xs:List Int) (w:World) (hs:Src w 1 A n (xs.map (Value.int .i64))) (hn:xs.length=n) (hb:n≤1000) (hx:∀ z∈xs,0≤z∧z<64) :
  Spec Tryz.prog 75 [.slice A n c] w (fun v R=>v = .int .u64 (mskL xs:Nat)∧R=[]):=by
 refine spec_of sg Tryz.func75 rfl rfl rfl ?_
 repeat' (first|refine d1 ?_|(show ∀ _:Nat,T _ _ _ _ _;intro _))
 refine T_loopX (fun k:Nat=>[(8, .int .i64 (k:Nat)),(3, .int .u64 (mskL (xs.take k):Nat))]) (fun _=>[]) (fun k=>k≤n) (fun k=>n - k) 0 (Nat.zero_le _) ?_
 rintro k hk
 repeat' (first|refine d1 ?_|(show ∀ _:Nat,T _ _ _ _ _;intro _))
 refine T_if rfl (fun h=>?_) (fun h=>?_)
 ·simp only [decide_eq_true_eq] at h
  obtain⟨b,o,rfl⟩:=hs.base (by omega)
  obtain⟨z,hz⟩:∃ z,xs[k]?=some z:=⟨_,List.getElem?_eq_getElem (by omega)⟩
  have hr:=src_int hs (k:=k) (by omega) hz
  have hzb:=hx z (List.mem_of_getElem? hz)
  obtain⟨s,rfl⟩:=Int.eq_ofNat_of_zero_le hzb.1
  have hm:mskL (xs.take k)<18446744073709551616:=mskL_lt (n:=64) fun z hz=>hx z (List.mem_of_mem_take hz)
  repeat' (first|refine d1 ?_|(show T _ (.ops _ (_::_)::_) _ _ _;first|refine T_val rfl (Val.load rfl (fun hg=>rdOld hr)) rfl rfl rfl ?_|refine T_valC rfl (Val.load rfl (fun hg=>rdOld hr)) rfl rfl rfl rfl rfl ?_|refine T_val rfl (Val.bits rfl (fun _=>by omega)) rfl rfl rfl ?_|refine T_valC rfl (Val.bits rfl (fun _=>by omega)) rfl rfl rfl rfl rfl ?_|refine T_val rfl (Val.bitsB rfl) rfl rfl rfl ?_|refine T_valC rfl (Val.bitsB rfl) rfl rfl rfl rfl rfl ?_)|(show T _ (.run _ _ (_::_) _ _::_) _ _ _;first|refine rv rfl rfl rfl (Val.load rfl (fun hg=>rdOld hr)) rfl rfl rfl ?_|refine rg rfl rfl rfl (Val.load rfl (fun hg=>rdOld hr)) rfl rfl rfl rfl rfl ?_|refine rv rfl rfl rfl (Val.bits rfl (fun _=>by omega)) rfl rfl rfl ?_|refine rg rfl rfl rfl (Val.bits rfl (fun _=>by omega)) rfl rfl rfl rfl rfl ?_|refine rv rfl rfl rfl (Val.bitsB rfl) rfl rfl rfl ?_|refine rg rfl rfl rfl (Val.bitsB rfl) rfl rfl rfl rfl rfl ?_)|(show ∀ _:Nat,T _ _ _ _ _;intro _))
  have hs1:1 <<< s<18446744073709551616:=by
   rw [Nat.one_shiftLeft];exact Nat.lt_of_lt_of_le (Nat.pow_lt_pow_right (by decide) (show s<64 by omega)) (by decide)
  rw [shl1_u (by omega),orV_u hm hs1]
  refine T_backX (k+1) (by omega) (by omega) (hE:=⟨rfl,?_,trivial⟩)
  rw [take_snoc _ _ _ hz,mskL_snoc,Int.toNat_natCast];rfl
 ·simp only [decide_eq_false_iff_not] at h
  rw [List.take_of_length_le (by omega)]
  repeat' (first|refine d1 ?_|refine dd ?_|(show ∀ _:Nat,T _ _ _ _ _;intro _)|(show T _ (.code .ret::_) _ _ _;refine T_retV [] rfl (Hle.none _) ⟨rfl,rfl⟩))
theorem inB_spec (a b:Nat) (ha:a<18446744073709551616) (hb:b<18446744073709551616) (w:World):Spec Tryz.prog 78 [.int .u64 (a:Nat), .int .u64 (b:Nat)] w (fun v R=>v = .bool (inB a b)∧R=[]):=by
 refine spec_of sg Tryz.func78 rfl rfl rfl ?_
 repeat' (first|refine d1 ?_|(show T _ (.ops _ (_::_)::_) _ _ _;first|refine T_val rfl (Val.bitsB rfl) rfl rfl rfl ?_|refine T_valC rfl (Val.bitsB rfl) rfl rfl rfl rfl rfl ?_)|(show T _ (.run _ _ (_::_) _ _::_) _ _ _;first|refine rv rfl rfl rfl (Val.bitsB rfl) rfl rfl rfl ?_|refine rg rfl rfl rfl (Val.bitsB rfl) rfl rfl rfl rfl rfl ?_)|(show ∀ _:Nat,T _ _ _ _ _;intro _))
 rw [ndV_u ha hb]
 repeat' (first|refine d1 ?_|refine dd ?_|(show ∀ _:Nat,T _ _ _ _ _;intro _)|(show T _ (.code .ret::_) _ _ _;refine T_retV [] rfl (Hle.none _) ⟨congrArg Value.bool ?_,rfl⟩))
 unfold inB
 rw [decide_eq_decide]
 omega
theorem cflB_spec (a b:Nat) (ha:a<18446744073709551616) (hb:b<18446744073709551616) (w:World):Spec Tryz.prog 115 [.int .u64 (a:Nat), .int .u64 (b:Nat)] w (fun v R=>v = .bool (cflB a b)∧R=[]):=by
 refine spec_of sg Tryz.func115 rfl rfl rfl ?_
 repeat' (first|refine d1 ?_|(show T _ (.ops _ (_::_)::_) _ _ _;first|refine T_val rfl (Val.bitsB rfl) rfl rfl rfl ?_|refine T_valC rfl (Val.bitsB rfl) rfl rfl rfl rfl rfl ?_|refine T_call rfl rfl rfl rfl rfl (fun w hw=>inB_spec a b ha hb w) ?_|refine T_callC rfl rfl rfl rfl rfl rfl rfl (fun hg w hw=>inB_spec a b ha hb w) ?_|refine T_call rfl rfl rfl rfl rfl (fun w hw=>inB_spec b a hb ha w) ?_|refine T_callC rfl rfl rfl rfl rfl rfl rfl (fun hg w hw=>inB_spec b a hb ha w) ?_)|(show T _ (.run _ _ (_::_) _ _::_) _ _ _;first|refine rv rfl rfl rfl (Val.bitsB rfl) rfl rfl rfl ?_|refine rg rfl rfl rfl (Val.bitsB rfl) rfl rfl rfl rfl rfl ?_|refine rc rfl rfl rfl rfl rfl rfl rfl (fun w hw=>inB_spec a b ha hb w) ?_|refine rcG rfl rfl rfl rfl rfl rfl rfl rfl rfl (fun hg w hw=>inB_spec a b ha hb w) ?_|refine rc rfl rfl rfl rfl rfl rfl rfl (fun w hw=>inB_spec b a hb ha w) ?_|refine rcG rfl rfl rfl rfl rfl rfl rfl rfl rfl (fun hg w hw=>inB_spec b a hb ha w) ?_)|(show ∀ _:Nat,T _ _ _ _ _;intro _))
 rw [andV_u ha hb]
 repeat' (first|refine d1 ?_|refine dd ?_|(show ∀ _:Nat,T _ _ _ _ _;intro _)|(show T _ (.code .ret::_) _ _ _;refine T_retV [] rfl (Hle.none _) ⟨congrArg Value.bool ?_,rfl⟩))
 unfold cflB
 have e:decide ((a &&& b)≠0) = !decide (((a &&& b:Nat):Int)=0):=by
  rw [decide_not]
  congr 1
  rw [decide_eq_decide];omega
 rw [e,Bool.and_assoc]
structure srcOk (l:List Int):Prop where
 asc:l.Pairwise (· < ·)
 bd:∀ z∈l,0≤z∧z<32
 pos:0<l.length
instance (l:List Int):Decidable (srcOk l):=decidable_of_iff (l.Pairwise (· < ·)∧(∀ z∈l,0≤z∧z<32)∧0<l.length) ⟨fun⟨a,b,c⟩=>⟨a,b,c⟩,fun⟨a,b,c⟩=>⟨a,b,c⟩⟩
theorem sources_spec (A:Option Addr) (n c:Nat) (xs:List Int) (w:World) (hs:Src w 1 A n (xs.map (Value.int .i64))) (hn:xs.length=n) (hb:n≤1000) :
  Spec Tryz.prog 121 [.slice A n c] w (fun v R=>v = .bool (decide (srcOk xs))∧R=[]):=by
 refine spec_of sg Tryz.func121 rfl rfl rfl ?_
 repeat' (first|refine d1 ?_|refine dd ?_|(show ∀ _:Nat,T _ _ _ _ _;intro _))
 refine T_loopX (fun k:Nat=>[(7, .int .i64 (k:Nat))]) (fun _=>[]) (fun k=>k≤n∧(xs.take k).Pairwise (· < ·)∧∀ z∈xs.take k,0≤z∧z<32) (fun k=>n - k) 0 ⟨Nat.zero_le _,List.Pairwise.nil,fun z hz=>by cases hz⟩ ?_
 rintro k ⟨hk,hasc,hbd⟩
 repeat' (first|refine d1 ?_|refine dd ?_|(show ∀ _:Nat,T _ _ _ _ _;intro _))
 refine T_if rfl (fun h=>?_) (fun h=>?_)
 ·simp only [decide_eq_true_eq] at h
  obtain⟨b,o,rfl⟩:=hs.base (by omega)
  obtain⟨x,hx⟩:∃ x,xs[k]?=some x:=⟨_,List.getElem?_eq_getElem (by omega)⟩
  have hr:=src_int hs (k:=k) (by omega) hx
  obtain⟨y,hy⟩:∃ y,0<k→xs[k - 1]?=some y:=by
   by_cases h0:0<k
   ·exact⟨_,fun _=>List.getElem?_eq_getElem (show k - 1<xs.length by omega)⟩
   ·exact⟨0,fun h=>absurd h h0⟩
  have hry:0<k→RdC w b (o+((k:Int) - 1).toNat * 1) [.int .i64 y]:=fun h0=>by
   have:=src_int hs (k:=k - 1) (by omega) (hy h0)
   rwa [show ((k - 1:Nat):Int)=(k:Int) - 1 by omega] at this
  repeat' (first|refine d1 ?_|refine dd ?_|(show T _ (.ops _ (_::_)::_) _ _ _;first|refine T_val rfl (Val.load rfl (fun hg=>rdOld hr)) rfl rfl rfl ?_|refine T_valC rfl (Val.load rfl (fun hg=>rdOld hr)) rfl rfl rfl rfl rfl ?_|refine T_val rfl (Val.load (v := .int .i64 y) rfl (fun hg=>rdOld (hry (by ((simp only [List.cons_append,List.nil_append,GP,dstL,lookE,Nat.beq,cond,List.getElem?_cons_zero,List.getElem?_cons_succ,Option.bind_some,and_true,Bool.and_eq_true,Bool.or_eq_true,Bool.and_eq_false_iff,Bool.or_eq_false_iff,Bool.not_eq_true',Bool.not_eq_false',decide_eq_true_eq,decide_eq_false_iff_not] at hg);omega))))) rfl rfl rfl ?_|refine T_valC rfl (Val.load (v := .int .i64 y) rfl (fun hg=>rdOld (hry (by ((simp only [List.cons_append,List.nil_append,GP,dstL,lookE,Nat.beq,cond,List.getElem?_cons_zero,List.getElem?_cons_succ,Option.bind_some,and_true,Bool.and_eq_true,Bool.or_eq_true,Bool.and_eq_false_iff,Bool.or_eq_false_iff,Bool.not_eq_true',Bool.not_eq_false',decide_eq_true_eq,decide_eq_false_iff_not] at hg);omega))))) rfl rfl rfl rfl rfl ?_)|(show T _ (.run _ _ (_::_) _ _::_) _ _ _;first|refine rv rfl rfl rfl (Val.load rfl (fun hg=>rdOld hr)) rfl rfl rfl ?_|refine rg rfl rfl rfl (Val.load rfl (fun hg=>rdOld hr)) rfl rfl rfl rfl rfl ?_|refine rv rfl rfl rfl (Val.load (v := .int .i64 y) rfl (fun hg=>rdOld (hry (by ((simp only [List.cons_append,List.nil_append,GP,dstL,lookE,Nat.beq,cond,List.getElem?_cons_zero,List.getElem?_cons_succ,Option.bind_some,and_true,Bool.and_eq_true,Bool.or_eq_true,Bool.and_eq_false_iff,Bool.or_eq_false_iff,Bool.not_eq_true',Bool.not_eq_false',decide_eq_true_eq,decide_eq_false_iff_not] at hg);omega))))) rfl rfl rfl ?_|refine rg rfl rfl rfl (Val.load (v := .int .i64 y) rfl (fun hg=>rdOld (hry (by ((simp only [List.cons_append,List.nil_append,GP,dstL,lookE,Nat.beq,cond,List.getElem?_cons_zero,List.getElem?_cons_succ,Option.bind_some,and_true,Bool.and_eq_true,Bool.or_eq_true,Bool.and_eq_false_iff,Bool.or_eq_false_iff,Bool.not_eq_true',Bool.not_eq_false',decide_eq_true_eq,decide_eq_false_iff_not] at hg);omega))))) rfl rfl rfl rfl rfl ?_)|(show ∀ _:Nat,T _ _ _ _ _;intro _))
  refine T_if rfl (fun h2=>?_) (fun h2=>?_)
  ·simp only [Bool.or_eq_true,Bool.and_eq_true,decide_eq_true_eq] at h2
   repeat' (first|refine d1 ?_|refine dd ?_|(show ∀ _:Nat,T _ _ _ _ _;intro _)|(show T _ (.code .ret::_) _ _ _;refine T_retV [] rfl (Hle.none _) ⟨congrArg Value.bool (decide_eq_false fun h9=>?_).symm,rfl⟩))
   have h3:=h9.bd x (List.mem_of_getElem? hx)
   rcases h2 with h2|⟨h4,h5⟩
   ·omega
   ·have h6:=hy (by omega)
    obtain⟨g1,g2⟩:=List.getElem?_eq_some_iff.1 h6
    obtain⟨g3,g4⟩:=List.getElem?_eq_some_iff.1 hx
    have:=List.pairwise_iff_getElem.1 h9.asc (k - 1) k g1 g3 (by omega)
    omega
  ·simp only [Bool.or_eq_false_iff,Bool.and_eq_false_iff,decide_eq_false_iff_not] at h2
   repeat' (first|refine d1 ?_|refine dd ?_|(show ∀ _:Nat,T _ _ _ _ _;intro _))
   refine T_backX (k+1) ⟨by omega,?_,fun z hz=>?_⟩ (by omega)
   ·rw [take_snoc _ _ _ hx,List.pairwise_append]
    refine ⟨hasc,List.pairwise_singleton _ _,fun a ha b hb=>?_⟩
    rw [List.mem_singleton] at hb
    subst hb
    obtain⟨i,hi⟩:=List.mem_iff_getElem?.1 ha
    have hil:=(List.getElem?_eq_some_iff.1 hi).1
    rw [List.length_take] at hil
    have h0:0<k:=by omega
    have h8:(xs.take k)[k - 1]?=some y:=by rw [List.getElem?_take,if_pos (by omega)];exact hy h0
    have:=asc_le hasc hi h8 (by omega)
    rcases h2.2 with h2|h2 <;> omega
   ·rw [take_snoc _ _ _ hx] at hz
    rcases List.mem_append.1 hz with hz|hz
    ·exact hbd z hz
    ·rw [List.mem_singleton] at hz;subst hz;omega
 ·simp only [decide_eq_false_iff_not] at h
  rw [List.take_of_length_le (by omega)] at hasc hbd
  repeat' (first|refine d1 ?_|refine dd ?_|(show ∀ _:Nat,T _ _ _ _ _;intro _)|(show T _ (.code .ret::_) _ _ _;refine T_retV [] rfl (Hle.none _) ⟨congrArg Value.bool ?_,rfl⟩))
  rw [decide_eq_decide]
  exact⟨fun h9=>⟨hasc,hbd,by omega⟩,fun h9=>by have:=h9.pos;omega⟩
structure grOk (g:GrE):Prop where
 u:0≤g.u
 st:0≤g.st∧g.st<16
 src:srcOk g.x.l
theorem checkG_spec (A:Option Addr) (n c:Nat) (gs:List GrE) (w:World) (hg:GrR w A n gs) :
  Spec Tryz.prog 82 [.slice A n c] w (fun v R=>∃ e:Int,(e=0↔n≤256∧∀ g∈gs,grOk g)∧v = .int .i64 e∧R=[]):=by
 have hl:=hg.len
 have hb:=hg.n12
 refine spec_of sg Tryz.func82 rfl rfl rfl ?_
 repeat' (first|refine d1 ?_|(show ∀ _:Nat,T _ _ _ _ _;intro _))
 refine T_if rfl (fun h=>?_) (fun h=>?_)
 ·simp only [decide_eq_true_eq] at h
  repeat' (first|refine d1 ?_|refine dd ?_|(show ∀ _:Nat,T _ _ _ _ _;intro _)|(show T _ (.code .ret::_) _ _ _;refine T_retV [] rfl (Hle.none _) ⟨4,⟨fun h=>by omega,fun h=>by omega⟩,rfl,rfl⟩))
 simp only [decide_eq_false_iff_not] at h
 repeat' (first|refine d1 ?_|(show ∀ _:Nat,T _ _ _ _ _;intro _))
 refine T_loopX (fun k:Nat=>[(10, .int .i64 (k:Nat))]) (fun _=>[]) (fun k=>k≤n∧∀ g∈gs.take k,grOk g) (fun k=>n - k) 0 ⟨Nat.zero_le _,fun g hg=>by cases hg⟩ ?_
 rintro k ⟨hk,hok⟩
 repeat' (first|refine d1 ?_|(show ∀ _:Nat,T _ _ _ _ _;intro _))
 refine T_if rfl (fun h1=>?_) (fun h1=>?_)
 ·simp only [decide_eq_true_eq] at h1
  obtain⟨b,o,rfl⟩:=hg.s.base (by omega)
  obtain⟨g,hgk⟩:∃ g,gs[k]?=some g:=⟨_,List.getElem?_eq_getElem (by omega)⟩
  have hat:=hg.at hgk
  have hgm:=List.mem_of_getElem? hgk
  obtain⟨hr1,hr2,hr3⟩:=hg.rd g hgm
  repeat' (first|refine d1 ?_|(show T _ (.ops _ (_::_)::_) _ _ _;first|refine T_val rfl (Val.loadA (vs:=g.cells) rfl (fun _=>rdOld hat) rfl) rfl rfl rfl ?_|refine T_valC rfl (Val.loadA (vs:=g.cells) rfl (fun _=>rdOld hat) rfl) rfl rfl rfl rfl rfl ?_)|(show T _ (.run _ _ (_::_) _ _::_) _ _ _;first|refine rv rfl rfl rfl (Val.loadA (vs:=g.cells) rfl (fun _=>rdOld hat) rfl) rfl rfl rfl ?_|refine rg rfl rfl rfl (Val.loadA (vs:=g.cells) rfl (fun _=>rdOld hat) rfl) rfl rfl rfl rfl rfl ?_)|(show ∀ _:Nat,T _ _ _ _ _;intro _))
  rename_i t4
  refine T_le (H':=[blk t4 [.int .i64 g.u, .int .i64 g.st, .slice g.x.A g.x.n g.x.cap] 105]) (Hle.refl _) ?_
  repeat' (first|refine d1 ?_|(show T _ (.ops _ (_::_)::_) _ _ _;first|refine T_call rfl rfl rfl rfl rfl (fun w hw=>sources_spec g.x.A g.x.n g.x.cap g.x.l w (src_below hr1 hw.below) hr2 hr3) ?_|refine T_callC rfl rfl rfl rfl rfl rfl rfl (fun hg w hw=>sources_spec g.x.A g.x.n g.x.cap g.x.l w (src_below hr1 hw.below) hr2 hr3) ?_)|(show T _ (.run _ _ (_::_) _ _::_) _ _ _;first|refine rc rfl rfl rfl rfl rfl rfl rfl (fun w hw=>sources_spec g.x.A g.x.n g.x.cap g.x.l w (src_below hr1 hw.below) hr2 hr3) ?_|refine rcG rfl rfl rfl rfl rfl rfl rfl rfl rfl (fun hg w hw=>sources_spec g.x.A g.x.n g.x.cap g.x.l w (src_below hr1 hw.below) hr2 hr3) ?_)|(show ∀ _:Nat,T _ _ _ _ _;intro _))
  refine T_if rfl (fun h2=>?_) (fun h2=>?_)
  ·simp only [Bool.or_eq_true,Bool.not_eq_true',decide_eq_true_eq,decide_eq_false_iff_not] at h2
   repeat' (first|refine d1 ?_|refine dd ?_|(show ∀ _:Nat,T _ _ _ _ _;intro _)|(show T _ (.code .ret::_) _ _ _;refine T_retV [] rfl (Hle.none _) ⟨1,⟨fun h=>by omega,fun h9=>?_⟩,rfl,rfl⟩))
   have h3:=h9.2 g hgm
   have:=h3.u;have:=h3.st
   rcases h2 with h2|h2
   ·omega
   ·exact absurd h3.src h2
  ·simp only [Bool.or_eq_false_iff,Bool.not_eq_false',decide_eq_true_eq,decide_eq_false_iff_not] at h2
   repeat' (first|refine d1 ?_|(show ∀ _:Nat,T _ _ _ _ _;intro _))
   refine T_backX (k+1) ⟨by omega,fun y hy=>?_⟩ (by omega) (hG:=Hle.none _)
   rw [take_snoc _ _ _ hgk] at hy
   rcases List.mem_append.1 hy with hy|hy
   ·exact hok y hy
   ·rw [List.mem_singleton] at hy
    subst hy
    exact⟨by omega,by omega,h2.2⟩
 ·simp only [decide_eq_false_iff_not] at h1
  rw [List.take_of_length_le (by omega)] at hok
  repeat' (first|refine d1 ?_|refine dd ?_|(show ∀ _:Nat,T _ _ _ _ _;intro _)|(show T _ (.code .ret::_) _ _ _;refine T_retV [] rfl (Hle.none _) ⟨0,⟨fun _=>⟨by omega,hok⟩,fun _=>rfl⟩,rfl,rfl⟩))
theorem maxI_spec (A:Option Addr) (n c:Nat) (xs:List Int) (w:World) (hs:Src w 1 A n (xs.map (Value.int .i64))) (hn:xs.length=n) (hb:n≤1000) (h0:0<n) (hi:∀ z∈xs,-1000000≤z∧z≤1000000) :
  Spec Tryz.prog 118 [.slice A n c] w (fun v R=>∃ m:Int,(m∈xs∧∀ z∈xs,z≤m)∧v = .int .i64 m∧R=[]):=by
 obtain⟨b,o,rfl⟩:=hs.base (by omega)
 refine spec_of sg Tryz.func118 rfl rfl rfl ?_
 obtain⟨x,hx⟩:∃ x,xs[0]?=some x:=⟨_,List.getElem?_eq_getElem (by omega)⟩
 have hr0:RdC w b (o+(0:Int).toNat * 1) [.int .i64 x]:=src_int hs (k:=0) (by omega) hx
 repeat' (first|refine d1 ?_|(show ∀ _:Nat,T _ _ _ _ _;intro _))
 refine T_if rfl (fun h=>by exfalso;simp at h;omega) (fun _=>?_)
 repeat' (first|refine d1 ?_|(show T _ (.ops _ (_::_)::_) _ _ _;first|refine T_val rfl (Val.load rfl (fun hg=>rdOld hr0)) rfl rfl rfl ?_|refine T_valC rfl (Val.load rfl (fun hg=>rdOld hr0)) rfl rfl rfl rfl rfl ?_)|(show T _ (.run _ _ (_::_) _ _::_) _ _ _;first|refine rv rfl rfl rfl (Val.load rfl (fun hg=>rdOld hr0)) rfl rfl rfl ?_|refine rg rfl rfl rfl (Val.load rfl (fun hg=>rdOld hr0)) rfl rfl rfl rfl rfl ?_)|(show ∀ _:Nat,T _ _ _ _ _;intro _))
 refine T_loopX (fun s:Nat × Int=>[(4, .int .i64 (s.1:Nat)),(3, .int .i64 s.2)]) (fun _=>[]) (fun s=>(1≤s.1∧s.1≤n)∧s.2∈xs∧∀ z∈xs.take s.1,z≤s.2) (fun s=>n - s.1) (1,x) ⟨⟨Nat.le_refl _,h0⟩,List.mem_of_getElem? hx,fun z hz=>?_⟩ ?_
 ·obtain⟨i,hi⟩:=List.mem_iff_getElem?.1 hz
  rw [List.getElem?_take] at hi
  split at hi
  ·obtain rfl:i=0:=by dsimp only at *;omega
   rw [hx] at hi
   rw [Option.some.inj hi];exact Int.le_refl _
  ·cases hi
 rintro⟨k,m⟩ ⟨⟨hk1,hk2⟩,hm,hmax⟩
 dsimp only at hk1 hk2 hm hmax ⊢
 repeat' (first|refine d1 ?_|(show ∀ _:Nat,T _ _ _ _ _;intro _))
 refine T_if rfl (fun h=>?_) (fun h=>?_)
 ·simp only [decide_eq_true_eq] at h
  obtain⟨y,hy⟩:∃ y,xs[k]?=some y:=⟨_,List.getElem?_eq_getElem (by omega)⟩
  have hr:=src_int hs (k:=k) (by omega) hy
  repeat' (first|refine d1 ?_|(show T _ (.ops _ (_::_)::_) _ _ _;first|refine T_val rfl (Val.load rfl (fun hg=>rdOld hr)) rfl rfl rfl ?_|refine T_valC rfl (Val.load rfl (fun hg=>rdOld hr)) rfl rfl rfl rfl rfl ?_)|(show T _ (.run _ _ (_::_) _ _::_) _ _ _;first|refine rv rfl rfl rfl (Val.load rfl (fun hg=>rdOld hr)) rfl rfl rfl ?_|refine rg rfl rfl rfl (Val.load rfl (fun hg=>rdOld hr)) rfl rfl rfl rfl rfl ?_)|(show ∀ _:Nat,T _ _ _ _ _;intro _))
  refine T_backX (k+1,max m y) ⟨⟨by dsimp only;omega,by dsimp only;omega⟩,?_,fun z hz=>?_⟩ (by dsimp only;omega)
  ·dsimp only
   rcases Int.le_total m y with h9|h9
   ·rw [Int.max_eq_right h9];exact List.mem_of_getElem? hy
   ·rw [Int.max_eq_left h9];exact hm
  ·dsimp only at hz ⊢
   rw [take_snoc _ _ _ hy] at hz
   rcases List.mem_append.1 hz with hz|hz
   ·have:=hmax z hz;omega
   ·rw [List.mem_singleton] at hz;subst hz;omega
 ·simp only [decide_eq_false_iff_not] at h
  rw [List.take_of_length_le (by omega)] at hmax
  repeat' (first|refine d1 ?_|refine dd ?_|(show ∀ _:Nat,T _ _ _ _ _;intro _)|(show T _ (.code .ret::_) _ _ _;refine T_retV [] rfl (Hle.none _) ⟨m,⟨hm,hmax⟩,rfl,rfl⟩))
theorem indexFuncG_spec (A:Option Addr) (n c:Nat) (gs:List GrE) (f:FuncId) (fs cs:List Value) (p:GrE→Bool) (w:World) (hg:GrR w A n gs)
  (hf:∀ x∈gs,∀ w',Below w.heap.size w w'→Spec Tryz.prog f (fs++(x.val::cs)) w' (fun v A=>v = .bool (p x)∧A=[])) :
  Spec Tryz.prog 151 [.slice A n c, .func (.func f) fs.toArray cs.toArray] w (fun v A=>v = .int .i64 (findI p gs)∧A=[]):=by
 have hl:=hg.len
 have hb:=hg.n12
 refine spec_of sg Tryz.func151 rfl rfl rfl ?_
 repeat' (first|refine d1 ?_|(show ∀ _:Nat,T _ _ _ _ _;intro _))
 refine T_loopX (fun k:Nat=>[(8, .int .i64 (k:Nat))]) (fun _=>[]) (fun k=>k≤n∧∀ i x,i<k→gs[i]?=some x→p x=false) (fun k=>n - k) 0 ⟨Nat.zero_le _,fun i x h=>by omega⟩ ?_
 rintro k ⟨hk,hok⟩
 repeat' (first|refine d1 ?_|(show ∀ _:Nat,T _ _ _ _ _;intro _))
 refine T_if rfl (fun h=>?_) (fun h=>?_)
 ·simp only [decide_eq_true_eq] at h
  obtain⟨b,o,rfl⟩:=hg.s.base (by omega)
  obtain⟨x,hx⟩:∃ x,gs[k]?=some x:=⟨_,List.getElem?_eq_getElem (by omega)⟩
  have hat:=hg.at hx
  repeat' (first|refine d1 ?_|(show T _ (.ops _ (_::_)::_) _ _ _;first|refine T_val rfl (Val.loadA (vs:=x.cells) rfl (fun _=>rdOld hat) rfl) rfl rfl rfl ?_|refine T_valC rfl (Val.loadA (vs:=x.cells) rfl (fun _=>rdOld hat) rfl) rfl rfl rfl rfl rfl ?_)|(show T _ (.run _ _ (_::_) _ _::_) _ _ _;first|refine rv rfl rfl rfl (Val.loadA (vs:=x.cells) rfl (fun _=>rdOld hat) rfl) rfl rfl rfl ?_|refine rg rfl rfl rfl (Val.loadA (vs:=x.cells) rfl (fun _=>rdOld hat) rfl) rfl rfl rfl rfl rfl ?_)|(show ∀ _:Nat,T _ _ _ _ _;intro _))
  refine T_op (OpT.call rfl rfl rfl rfl rfl (fun w hw=>hf x (List.mem_of_getElem? hx) w hw.below) ?_)
  rintro u R ⟨rfl,rfl⟩
  rw [List.nil_append]
  repeat' (first|refine d1 ?_|(show ∀ _:Nat,T _ _ _ _ _;intro _))
  refine T_if rfl (fun h1=>?_) (fun h1=>?_)
  ·repeat' (first|refine d1 ?_|refine dd ?_|(show ∀ _:Nat,T _ _ _ _ _;intro _)|(show T _ (.code .ret::_) _ _ _;refine T_retV [] rfl (Hle.refl _) ⟨congrArg (Value.int .i64) ?_,rfl⟩))
   exact (findI_some hx h1 hok).symm
  ·repeat' (first|refine d1 ?_|(show ∀ _:Nat,T _ _ _ _ _;intro _))
   refine T_backX (k+1) ⟨by omega,fun i y hi hy=>?_⟩ (by omega)
   rcases Nat.lt_or_ge i k with h2|h2
   ·exact hok i y h2 hy
   ·rw [show i=k by omega,hx] at hy
    cases hy
    exact h1
 ·simp only [decide_eq_false_iff_not] at h
  repeat' (first|refine d1 ?_|refine dd ?_|(show ∀ _:Nat,T _ _ _ _ _;intro _)|(show T _ (.code .ret::_) _ _ _;refine T_retV [] rfl (Hle.refl _) ⟨congrArg (Value.int .i64) ?_,rfl⟩))
  exact (findI_none (fun i x hi=>hok i x (by have:=(List.getElem?_eq_some_iff.1 hi).1;omega) hi)).symm
theorem containsFuncG_spec (A:Option Addr) (n c:Nat) (gs:List GrE) (f:FuncId) (fs cs:List Value) (p:GrE→Bool) (w:World) (hg:GrR w A n gs)
  (hf:∀ x∈gs,∀ w',Below w.heap.size w w'→Spec Tryz.prog f (fs++(x.val::cs)) w' (fun v A=>v = .bool (p x)∧A=[])) :
  Spec Tryz.prog 116 [.slice A n c, .func (.func f) fs.toArray cs.toArray] w (fun v A=>v = .bool (gs.any p)∧A=[]):=by
 refine spec_of sg Tryz.func116 rfl rfl rfl ?_
 repeat' (first|refine d1 ?_|refine dd ?_|(show T _ (.ops _ (_::_)::_) _ _ _;first|refine T_call rfl rfl rfl rfl rfl (fun w hw=>indexFuncG_spec A n c gs f fs cs p w (hg.cls hw) (fun x hx w' hb'=>hf x hx w' (hw.below.trans (hb'.mono hw.below.size)))) ?_|refine T_callC rfl rfl rfl rfl rfl rfl rfl (fun hg w hw=>indexFuncG_spec A n c gs f fs cs p w (hg.cls hw) (fun x hx w' hb'=>hf x hx w' (hw.below.trans (hb'.mono hw.below.size)))) ?_)|(show T _ (.run _ _ (_::_) _ _::_) _ _ _;first|refine rc rfl rfl rfl rfl rfl rfl rfl (fun w hw=>indexFuncG_spec A n c gs f fs cs p w (hg.cls hw) (fun x hx w' hb'=>hf x hx w' (hw.below.trans (hb'.mono hw.below.size)))) ?_|refine rcG rfl rfl rfl rfl rfl rfl rfl rfl rfl (fun hg w hw=>indexFuncG_spec A n c gs f fs cs p w (hg.cls hw) (fun x hx w' hb'=>hf x hx w' (hw.below.trans (hb'.mono hw.below.size)))) ?_)|(show ∀ _:Nat,T _ _ _ _ _;intro _)|(show T _ (.code .ret::_) _ _ _;refine T_retV [] rfl (Hle.refl _) ⟨congrArg Value.bool ?_,rfl⟩))
 exact findI_any p gs
theorem farC_spec (g:GrE) (p1 N:Nat) (w:World) (h1:RdC w p1 0 [.int .i64 (N:Nat)]) (hs:Src w 1 g.x.A g.x.n (g.x.l.map (Value.int .i64))) (hn:g.x.l.length=g.x.n) (hb:g.x.n≤1000) (hg:srcOk g.x.l) :
  Spec Tryz.prog 117 [g.val, .pointer (some ⟨p1,0,none⟩)] w (fun v R=>v = .bool (g.x.l.any fun z=>decide ((N:Int)≤z))∧R=[]):=by
 have hp:=hg.pos
 refine spec_of sg Tryz.func117 rfl rfl rfl ?_
 repeat' (first|(show T _ (.ops _ (⟨_, .box _ _,_,_,_,_⟩::_)::_) _ _ _;refine T_op (OpT.box (cs:=[.int .i64 g.u, .int .i64 g.st, .slice g.x.A g.x.n g.x.cap]) rfl rfl rfl rfl rfl rfl rfl (fun _=>?_)))|refine d1 ?_|(show ∀ _:Nat,T _ _ _ _ _;intro _))
 rename_i t2
 refine rsH [blk t2 [.int .i64 g.u, .int .i64 g.st, .slice g.x.A g.x.n g.x.cap] 105] 1000 [0,1,3,2,4,5] ?_
 repeat' (first|refine d1 ?_|refine dd ?_|(show T _ (.ops _ (_::_)::_) _ _ _;first|refine T_val rfl (Val.load rfl (fun hg=>rdOld h1)) rfl rfl rfl ?_|refine T_valC rfl (Val.load rfl (fun hg=>rdOld h1)) rfl rfl rfl rfl rfl ?_)|(show T _ (.run _ _ (_::_) _ _::_) _ _ _;first|refine rv rfl rfl rfl (Val.load rfl (fun hg=>rdOld h1)) rfl rfl rfl ?_|refine rg rfl rfl rfl (Val.load rfl (fun hg=>rdOld h1)) rfl rfl rfl rfl rfl ?_)|(show ∀ _:Nat,T _ _ _ _ _;intro _))
 refine ro rfl rfl (OpT.call rfl rfl rfl rfl rfl (fun w hw=>maxI_spec g.x.A g.x.n g.x.cap g.x.l w (src_below hs hw.below) hn hb (by omega) (fun z hz=>by have:=hg.bd z hz;omega)) ?_)
 rintro u R ⟨m,⟨hm,hmax⟩,rfl,rfl⟩
 refine ⟨fun _=>Hle.refl _,?_⟩
 rw [List.nil_append]
 repeat' (first|refine d1 ?_|refine dd ?_|(show ∀ _:Nat,T _ _ _ _ _;intro _)|(show T _ (.code .ret::_) _ _ _;refine T_retV [] rfl (Hle.none _) ⟨congrArg Value.bool ?_,rfl⟩))
 rw [Bool.eq_iff_iff,List.any_eq_true]
 simp only [decide_eq_true_eq]
 exact⟨fun h=>⟨m,hm,h⟩,fun⟨z,hz,h⟩=>by have:=hmax z hz;omega⟩
theorem farG_spec (A:Option Addr) (n c:Nat) (gs:List GrE) (N:Nat) (w:World) (hg:GrR w A n gs) (hok:∀ g∈gs,grOk g) :
  Spec Tryz.prog 74 [.slice A n c, .int .i64 (N:Nat)] w (fun v R=>v = .bool (gs.any fun g=>g.x.l.any fun z=>decide ((N:Int)≤z))∧R=[]):=by
 refine spec_of sg Tryz.func74 rfl rfl rfl ?_
 repeat' (first|(show T _ (.ops _ (⟨_, .box _ _,_,_,_,_⟩::_)::_) _ _ _;refine T_op (OpT.box (cs:=[.int .i64 (N:Nat)]) rfl rfl rfl rfl rfl rfl rfl (fun _=>?_)))|refine d1 ?_|(show ∀ _:Nat,T _ _ _ _ _;intro _))
 rename_i t3
 repeat' (first|refine d1 ?_|refine dd ?_|(show T _ (.ops _ (_::_)::_) _ _ _;first|refine T_call rfl rfl rfl rfl rfl (fun w hw=>containsFuncG_spec A n c gs _ [] [_] (fun g=>g.x.l.any fun z=>decide ((N:Int)≤z)) w (hg.cls hw) (fun g hgm w' hb'=>farC_spec g t3 N w' ((RdC.own hw (i:=0) (cs:=[.int .i64 (N:Nat)]) rfl (fun j u h=>by rwa [Nat.zero_add])).below hb') (src_below (hg.rd g hgm).1 (hw.below.trans (hb'.mono hw.below.size))) (hg.rd g hgm).2.1 (hg.rd g hgm).2.2 (hok g hgm).src)) ?_|refine T_callC rfl rfl rfl rfl rfl rfl rfl (fun hg w hw=>containsFuncG_spec A n c gs _ [] [_] (fun g=>g.x.l.any fun z=>decide ((N:Int)≤z)) w (hg.cls hw) (fun g hgm w' hb'=>farC_spec g t3 N w' ((RdC.own hw (i:=0) (cs:=[.int .i64 (N:Nat)]) rfl (fun j u h=>by rwa [Nat.zero_add])).below hb') (src_below (hg.rd g hgm).1 (hw.below.trans (hb'.mono hw.below.size))) (hg.rd g hgm).2.1 (hg.rd g hgm).2.2 (hok g hgm).src)) ?_)|(show T _ (.run _ _ (_::_) _ _::_) _ _ _;first|refine rc rfl rfl rfl rfl rfl rfl rfl (fun w hw=>containsFuncG_spec A n c gs _ [] [_] (fun g=>g.x.l.any fun z=>decide ((N:Int)≤z)) w (hg.cls hw) (fun g hgm w' hb'=>farC_spec g t3 N w' ((RdC.own hw (i:=0) (cs:=[.int .i64 (N:Nat)]) rfl (fun j u h=>by rwa [Nat.zero_add])).below hb') (src_below (hg.rd g hgm).1 (hw.below.trans (hb'.mono hw.below.size))) (hg.rd g hgm).2.1 (hg.rd g hgm).2.2 (hok g hgm).src)) ?_|refine rcG rfl rfl rfl rfl rfl rfl rfl rfl rfl (fun hg w hw=>containsFuncG_spec A n c gs _ [] [_] (fun g=>g.x.l.any fun z=>decide ((N:Int)≤z)) w (hg.cls hw) (fun g hgm w' hb'=>farC_spec g t3 N w' ((RdC.own hw (i:=0) (cs:=[.int .i64 (N:Nat)]) rfl (fun j u h=>by rwa [Nat.zero_add])).below hb') (src_below (hg.rd g hgm).1 (hw.below.trans (hb'.mono hw.below.size))) (hg.rd g hgm).2.1 (hg.rd g hgm).2.2 (hok g hgm).src)) ?_)|(show ∀ _:Nat,T _ _ _ _ _;intro _)|(show T _ (.code .ret::_) _ _ _;refine T_retV [] rfl (Hle.none _) ⟨rfl,rfl⟩))
end Go.Proofs.YtabhdaehomjlgaaGreat
namespace Go.Proofs.YtabhdaehomjlgaaGreat
open Go.RowKit Go.Shelf Go.Proofs
set_option maxRecDepth 100000
set_option maxHeartbeats 2000000

def mskG (gs:List GrE) (k:Nat):Nat:=(gs[k]?.map fun g=>mskL g.x.l).getD 0
theorem mskG_at {gs:List GrE} {k:Nat} {g:GrE} (h:gs[k]?=some g):mskG gs k=mskL g.x.l:=by unfold mskG;rw [h];rfl
theorem grOk.lt {g:GrE} (h:grOk g):mskL g.x.l<4294967296:=mskL_lt (n:=32) h.src.bd
theorem grOk.ltu {g:GrE} (h:grOk g):mskL g.x.l<18446744073709551616:=Nat.lt_trans h.lt (by decide)
theorem GrR.at2 {w:World} {b o n:Nat} {gs:List GrE} (h:GrR w (some ⟨b,o,none⟩) n gs) {k:Nat} {g:GrE} (hk:gs[k]?=some g):RdC w b (o+(k:Int).toNat * 3+2) [.slice g.x.A g.x.n g.x.cap]:=(h.at hk).at (i:=2) rfl
theorem conflicts_spec (A:Option Addr) (n c:Nat) (gs:List GrE) (w:World) (hg:GrR w A n gs) :
  Spec Tryz.prog 73 [.slice A n c] w (fun v R=>∃ (e:Int) (B:Option Addr) (m d:Nat),(e=0↔n≤256∧∀ g∈gs,grOk g)∧(e=0→(m=0↔∀ i k,i<k→k<n→cflB (mskG gs i) (mskG gs k)=false))∧v = .tuple #[.slice B m d, .int .i64 e]∧R=[]):=by
 have hl:=hg.len
 have hb:=hg.n12
 refine spec_of sg Tryz.func73 rfl rfl rfl ?_
 repeat' (first|refine d1 ?_|(show ∀ _:Nat,T _ _ _ _ _;intro _))
 refine T_op (OpT.call rfl rfl rfl rfl rfl (fun w hw=>checkG_spec A n c gs w (hg.cls hw)) ?_)
 rintro u R ⟨e,he,rfl,rfl⟩
 rw [List.nil_append]
 repeat' (first|refine d1 ?_|(show ∀ _:Nat,T _ _ _ _ _;intro _))
 refine T_if rfl (fun h=>?_) (fun h=>?_)
 ·simp only [Bool.not_eq_true',decide_eq_false_iff_not] at h
  repeat' (first|refine d1 ?_|refine dd ?_|(show ∀ _:Nat,T _ _ _ _ _;intro _)|(show T _ (.code .ret::_) _ _ _;refine T_retV [] rfl (Hle.none _) ⟨e,none,0,0,he,fun h9=>absurd h9 h,rfl,rfl⟩))
 simp only [Bool.not_eq_false',decide_eq_true_eq] at h
 subst h
 have hok:=(he.1 rfl).2
 repeat' (first|refine d1 ?_|(show ∀ _:Nat,T _ _ _ _ _;intro _))
 refine T_nilrow 24 1 ?_
 refine T_loopX (fun s:Nat × List Value × Option Addr × Nat=>[(15, .int .i64 (s.1:Nat)),(5, .slice s.2.2.1 s.2.1.length s.2.2.2)]) (fun s=>[row 24 1 s.2.2.1 s.2.2.2 s.2.1.length s.2.1]) (fun s=>s.1≤n∧(s.2.1.length=0↔∀ i k,i<s.1→i<k→k<n→cflB (mskG gs i) (mskG gs k)=false)∧s.2.1.length≤300 * s.1) (fun s=>n - s.1) (0,[],none,0) ⟨Nat.zero_le _,⟨fun _ i k h=>by dsimp only at h;omega,fun _=>rfl⟩,Nat.le_refl _⟩ ?_
 rintro⟨i,xs,B,d⟩ ⟨hi,hx,hxl⟩
 dsimp only at hi hx hxl ⊢
 repeat' (first|refine d1 ?_|(show ∀ _:Nat,T _ _ _ _ _;intro _))
 refine T_if rfl (fun h=>?_) (fun h=>?_)
 ·simp only [decide_eq_true_eq] at h
  obtain⟨b,o,rfl⟩:=hg.s.base (by omega)
  obtain⟨g,hgi⟩:∃ g,gs[i]?=some g:=⟨_,List.getElem?_eq_getElem (by omega)⟩
  have hat:=hg.at2 hgi
  have hgm:=List.mem_of_getElem? hgi
  obtain⟨hr1,hr2,hr3⟩:=hg.rd g hgm
  repeat' (first|refine d1 ?_|(show ∀ _:Nat,T _ _ _ _ _;intro _))
  refine T_loopX (fun s:Nat × List Value × Option Addr × Nat=>[(7, .int .i64 (s.1:Nat)),(5, .slice s.2.2.1 s.2.1.length s.2.2.2)]) (fun s=>[row 24 1 s.2.2.1 s.2.2.2 s.2.1.length s.2.1]) (fun s=>(i<s.1∧s.1≤n)∧(s.2.1.length=0↔(∀ i' k,i'<i→i'<k→k<n→cflB (mskG gs i') (mskG gs k)=false)∧∀ k,i<k→k<s.1→cflB (mskG gs i) (mskG gs k)=false)∧s.2.1.length≤300 * i+s.1) (fun s=>n - s.1) (i+1,xs,B,d) ⟨⟨Nat.lt_succ_self _,by dsimp only;omega⟩,⟨fun h=>⟨hx.1 h,fun k h1 h2=>by dsimp only at h2;omega⟩,fun h=>hx.2 h.1⟩,by dsimp only;omega⟩ ?_
  rintro⟨k,ys,D,d2⟩ ⟨⟨hk1,hk2⟩,hy,hyl⟩
  dsimp only at hk1 hk2 hy hyl ⊢
  repeat' (first|refine d1 ?_|(show ∀ _:Nat,T _ _ _ _ _;intro _))
  refine T_if rfl (fun h1=>?_) (fun h1=>?_)
  ·simp only [decide_eq_true_eq] at h1
   obtain⟨g',hgk⟩:∃ g,gs[k]?=some g:=⟨_,List.getElem?_eq_getElem (by omega)⟩
   have hat':=hg.at2 hgk
   have hgm':=List.mem_of_getElem? hgk
   obtain⟨hr1',hr2',hr3'⟩:=hg.rd g' hgm'
   repeat' (first|refine d1 ?_|(show ∀ _:Nat,T _ _ _ _ _;intro _))
   refine rsH [row 24 1 D d2 ys.length ys] 1000 [0,1,2,3,4,6,7,8,9,10,5,11,12] ?_
   repeat' (first|refine d1 ?_|refine dd ?_|(show T _ (.ops _ (_::_)::_) _ _ _;first|refine T_val rfl (Val.load rfl (fun hg=>rdOld hat)) rfl rfl rfl ?_|refine T_valC rfl (Val.load rfl (fun hg=>rdOld hat)) rfl rfl rfl rfl rfl ?_|refine T_val rfl (Val.load rfl (fun hg=>rdOld hat')) rfl rfl rfl ?_|refine T_valC rfl (Val.load rfl (fun hg=>rdOld hat')) rfl rfl rfl rfl rfl ?_)|(show T _ (.run _ _ (_::_) _ _::_) _ _ _;first|refine rv rfl rfl rfl (Val.load rfl (fun hg=>rdOld hat)) rfl rfl rfl ?_|refine rg rfl rfl rfl (Val.load rfl (fun hg=>rdOld hat)) rfl rfl rfl rfl rfl ?_|refine rv rfl rfl rfl (Val.load rfl (fun hg=>rdOld hat')) rfl rfl rfl ?_|refine rg rfl rfl rfl (Val.load rfl (fun hg=>rdOld hat')) rfl rfl rfl rfl rfl ?_)|(show ∀ _:Nat,T _ _ _ _ _;intro _))
   refine ro rfl rfl (OpT.call rfl rfl rfl rfl rfl (fun w hw=>ofG_spec g.x.A g.x.n g.x.cap g.x.l w (src_below hr1 hw.below) hr2 hr3 (fun z hz=>by have:=(hok g hgm).src.bd z hz;omega)) ?_)
   rintro u R ⟨rfl,rfl⟩
   refine ⟨fun _=>Hle.refl _,?_⟩
   rw [List.nil_append]
   refine ro rfl rfl (OpT.call rfl rfl rfl rfl rfl (fun w hw=>ofG_spec g'.x.A g'.x.n g'.x.cap g'.x.l w (src_below hr1' hw.below) hr2' hr3' (fun z hz=>by have:=(hok g' hgm').src.bd z hz;omega)) ?_)
   rintro u R ⟨rfl,rfl⟩
   refine ⟨fun _=>Hle.refl _,?_⟩
   rw [List.nil_append]
   refine ro rfl rfl (OpT.call rfl rfl rfl rfl rfl (fun w hw=>cflB_spec (mskL g.x.l) (mskL g'.x.l) (hok g hgm).ltu (hok g' hgm').ltu w) ?_)
   rintro u R ⟨rfl,rfl⟩
   refine ⟨fun _=>Hle.refl _,?_⟩
   rw [List.nil_append]
   repeat' (first|refine d1 ?_|refine dd ?_|(show ∀ _:Nat,T _ _ _ _ _;intro _))
   have hcf:cflB (mskG gs i) (mskG gs k)=cflB (mskL g.x.l) (mskL g'.x.l):=by rw [mskG_at hgi,mskG_at hgk]
   refine T_if rfl (fun h2=>?_) (fun h2=>?_)
   ·repeat' (first|refine d1 ?_|(show T _ (.ops _ (_::_)::_) _ _ _;refine T_op (OpT.append (A:=D) rfl rfl rfl rfl rfl rfl rfl rfl rfl rfl (fun w hw=>Src.own hw rfl) rfl (by dsimp only;omega) (by omega) (fun A9 c9 hA9=>?_)))|(show ∀ _:Nat,T _ _ _ _ _;intro _))
    rename_i z1 z2
    have hlen:(ys++[Value.slice (some ⟨z1,0,none⟩) 2 2]).length=ys.length+1:=by simp
    refine T_backX (k+1,ys++[Value.slice (some ⟨z1,0,none⟩) 2 2],A9,c9) ⟨⟨by dsimp only;omega,by dsimp only;omega⟩,?_,by dsimp only;rw [hlen];omega⟩ (by dsimp only;omega) (hE:=⟨rfl,by dsimp only;rw [hlen];rfl,trivial⟩) (hG:=by dsimp only;rw [hlen];exact (Hle.tail _ _).trans (Hle.tail _ _))
    dsimp only
    rw [hlen]
    refine ⟨fun h=>by omega,fun h=>?_⟩
    have:=h.2 k hk1 (Nat.lt_succ_self _)
    rw [hcf,h2] at this
    cases this
   ·repeat' (first|refine d1 ?_|(show ∀ _:Nat,T _ _ _ _ _;intro _))
    refine T_backX (k+1,ys,D,d2) ⟨⟨by dsimp only;omega,by dsimp only;omega⟩,?_,by dsimp only;omega⟩ (by dsimp only;omega)
    dsimp only
    rw [hy]
    refine ⟨fun h3=>⟨h3.1,fun k' h4 h5=>?_⟩,fun h3=>⟨h3.1,fun k' h4 h5=>h3.2 k' h4 (by omega)⟩⟩
    rcases Nat.lt_or_ge k' k with h6|h6
    ·exact h3.2 k' h4 h6
    ·rw [show k'=k by omega,hcf];exact h2
  ·simp only [decide_eq_false_iff_not] at h1
   obtain rfl:k=n:=by omega
   repeat' (first|refine d1 ?_|(show ∀ _:Nat,T _ _ _ _ _;intro _))
   refine T_backX (i+1,ys,D,d2) ⟨by dsimp only;omega,?_,by dsimp only;omega⟩ (by dsimp only;omega)
   dsimp only
   rw [hy]
   refine ⟨fun h i' k' h1 h2 h3=>?_,fun h=>⟨fun i' k' h1=>h i' k' (by omega),fun k' h2 h3=>h i k' (Nat.lt_succ_self _) h2 h3⟩⟩
   rcases Nat.lt_or_ge i' i with h4|h4
   ·exact h.1 i' k' h4 h2 h3
   ·rw [show i'=i by omega] at h2 ⊢;exact h.2 k' h2 h3
 ·simp only [decide_eq_false_iff_not] at h
  obtain rfl:i=n:=by omega
  repeat' (first|refine d1 ?_|refine dd ?_|(show ∀ _:Nat,T _ _ _ _ _;intro _)|(show T _ (.code .ret::_) _ _ _;refine T_retV [] rfl (Hle.none _) ⟨0,B,xs.length,d,he,fun _=>hx.trans ⟨fun h i' k' h1 h2=>h i' k' (by omega) h1 h2,fun h i' k' _ h1 h2=>h i' k' h1 h2⟩,rfl,rfl⟩))
end Go.Proofs.YtabhdaehomjlgaaGreat
namespace Go.Proofs.YtabhdaehomjlgaaGreat
open Go.RowKit Go.Shelf Go.Proofs
set_option maxRecDepth 100000
set_option maxHeartbeats 2000000

abbrev u64V (m:Nat):Value := .int .u64 (m:Int)
theorem src_u64 {w:World} {b o n:Nat} {xs:List Nat} (hs:Src w 1 (some ⟨b,o,none⟩) n (xs.map u64V)) {k:Nat} (hk:k<n) {x:Nat} (hx:xs[k]?=some x):RdC w b (o+(k:Int).toNat * 1) [.int .u64 (x:Nat)]:=by
 have h9:=(hs.get1 (i:=k) hk (by rw [List.getElem?_map,hx];rfl)).2
 rw [Nat.mul_one] at h9
 rw [off1]
 exact h9
theorem indexU_spec (A:Option Addr) (n c:Nat) (xs:List Nat) (z:Nat) (w:World) (hs:Src w 1 A n (xs.map u64V)) (hn:xs.length=n) (hb:n≤1000000) :
  Spec Tryz.prog 119 [.slice A n c, .int .u64 (z:Nat)] w (fun v R=>v = .int .i64 (findI (fun x=>decide (z=x)) xs)∧R=[]):=by
 refine spec_of sg Tryz.func119 rfl rfl rfl ?_
 repeat' (first|refine d1 ?_|refine dd ?_|(show ∀ _:Nat,T _ _ _ _ _;intro _))
 refine T_loopX (fun k:Nat=>[(8, .int .i64 k)]) (fun _=>[]) (fun k=>k≤n∧∀ i x,i<k→xs[i]?=some x→decide (z=x)=false) (fun k=>n - k) 0 ⟨Nat.zero_le _,fun i x h=>by omega⟩ ?_
 rintro k ⟨hk,hok⟩
 repeat' (first|refine d1 ?_|refine dd ?_|(show ∀ _:Nat,T _ _ _ _ _;intro _))
 refine T_if rfl (fun h=>?_) (fun h=>?_)
 ·simp only [decide_eq_true_eq] at h
  have hkn:k<n:=by omega
  obtain⟨b,o,rfl⟩:=hs.base (by omega)
  obtain⟨x,hx⟩:∃ x,xs[k]?=some x:=⟨_,List.getElem?_eq_getElem (by omega)⟩
  have hr:=src_u64 hs hkn hx
  repeat' (first|refine d1 ?_|refine dd ?_|(show ∀ _:Nat,T _ _ _ _ _;intro _))
  refine T_if rfl (fun h1=>?_) (fun h1=>?_)
  ·repeat' (first|refine d1 ?_|refine dd ?_|(show ∀ _:Nat,T _ _ _ _ _;intro _)|(show T _ (.code .ret::_) _ _ _;refine T_retV [] rfl (Hle.refl _) ⟨congrArg (Value.int .i64) ?_,rfl⟩))
   exact (findI_some hx (by simp only [decide_eq_true_eq] at h1 ⊢;omega) hok).symm
  ·repeat' (first|refine d1 ?_|refine dd ?_|(show ∀ _:Nat,T _ _ _ _ _;intro _))
   refine T_backX (k+1) ⟨by omega,fun i y hi hy=>?_⟩ (by omega)
   rcases Nat.lt_or_ge i k with h2|h2
   ·exact hok i y h2 hy
   ·rw [show i=k by omega,hx] at hy
    cases hy
    simp only [decide_eq_false_iff_not] at h1 ⊢
    omega
 ·simp only [decide_eq_false_iff_not] at h
  repeat' (first|refine d1 ?_|refine dd ?_|(show ∀ _:Nat,T _ _ _ _ _;intro _)|(show T _ (.code .ret::_) _ _ _;refine T_retV [] rfl (Hle.refl _) ⟨congrArg (Value.int .i64) ?_,rfl⟩))
  exact (findI_none (fun i x hi=>hok i x (by have:=(List.getElem?_eq_some_iff.1 hi).1;omega) hi)).symm
theorem containsU_spec (A:Option Addr) (n c:Nat) (xs:List Nat) (z:Nat) (w:World) (hs:Src w 1 A n (xs.map u64V)) (hn:xs.length=n) (hb:n≤1000000) :
  Spec Tryz.prog 76 [.slice A n c, .int .u64 (z:Nat)] w (fun v R=>v = .bool (decide (z∈xs))∧R=[]):=by
 refine spec_of sg Tryz.func76 rfl rfl rfl ?_
 repeat' (first|refine d1 ?_|refine dd ?_|(show T _ (.ops _ (_::_)::_) _ _ _;first|refine T_call rfl rfl rfl rfl rfl (fun w hw=>indexU_spec A n c xs z w (rdSrc hs w hw) hn hb) ?_|refine T_callC rfl rfl rfl rfl rfl rfl rfl (fun hg w hw=>indexU_spec A n c xs z w (rdSrc hs w hw) hn hb) ?_)|(show T _ (.run _ _ (_::_) _ _::_) _ _ _;first|refine rc rfl rfl rfl rfl rfl rfl rfl (fun w hw=>indexU_spec A n c xs z w (rdSrc hs w hw) hn hb) ?_|refine rcG rfl rfl rfl rfl rfl rfl rfl rfl rfl (fun hg w hw=>indexU_spec A n c xs z w (rdSrc hs w hw) hn hb) ?_)|(show ∀ _:Nat,T _ _ _ _ _;intro _)|(show T _ (.code .ret::_) _ _ _;refine T_retV [] rfl (Hle.refl _) ⟨congrArg Value.bool ?_,rfl⟩))
 refine (findI_any _ xs).trans ?_
 rw [Bool.eq_iff_iff,List.any_eq_true,decide_eq_true_eq]
 exact⟨fun⟨x,hx,h⟩=>by rw [of_decide_eq_true h];exact hx,fun h=>⟨z,h,decide_eq_true rfl⟩⟩
theorem indexFuncU_spec (A:Option Addr) (n c:Nat) (xs:List Nat) (f:FuncId) (fs cs:List Value) (p:Nat→Bool) (w:World) (hs:Src w 1 A n (xs.map u64V)) (hn:xs.length=n) (hb:n≤1000000)
  (hf:∀ x∈xs,∀ w',Below w.heap.size w w'→Spec Tryz.prog f (fs++(.int .u64 (x:Nat)::cs)) w' (fun v A=>v = .bool (p x)∧A=[])) :
  Spec Tryz.prog 120 [.slice A n c, .func (.func f) fs.toArray cs.toArray] w (fun v A=>v = .int .i64 (findI p xs)∧A=[]):=by
 refine spec_of sg Tryz.func120 rfl rfl rfl ?_
 repeat' (first|refine d1 ?_|(show ∀ _:Nat,T _ _ _ _ _;intro _))
 refine T_loopX (fun k:Nat=>[(8, .int .i64 (k:Nat))]) (fun _=>[]) (fun k=>k≤n∧∀ i x,i<k→xs[i]?=some x→p x=false) (fun k=>n - k) 0 ⟨Nat.zero_le _,fun i x h=>by omega⟩ ?_
 rintro k ⟨hk,hok⟩
 repeat' (first|refine d1 ?_|(show ∀ _:Nat,T _ _ _ _ _;intro _))
 refine T_if rfl (fun h=>?_) (fun h=>?_)
 ·simp only [decide_eq_true_eq] at h
  obtain⟨b,o,rfl⟩:=hs.base (by omega)
  obtain⟨x,hx⟩:∃ x,xs[k]?=some x:=⟨_,List.getElem?_eq_getElem (by omega)⟩
  have hat:=src_u64 hs (by omega) hx
  repeat' (first|refine d1 ?_|(show ∀ _:Nat,T _ _ _ _ _;intro _))
  refine T_op (OpT.call rfl rfl rfl rfl rfl (fun w hw=>hf x (List.mem_of_getElem? hx) w hw.below) ?_)
  rintro u R ⟨rfl,rfl⟩
  rw [List.nil_append]
  repeat' (first|refine d1 ?_|(show ∀ _:Nat,T _ _ _ _ _;intro _))
  refine T_if rfl (fun h1=>?_) (fun h1=>?_)
  ·repeat' (first|refine d1 ?_|refine dd ?_|(show ∀ _:Nat,T _ _ _ _ _;intro _)|(show T _ (.code .ret::_) _ _ _;refine T_retV [] rfl (Hle.refl _) ⟨congrArg (Value.int .i64) ?_,rfl⟩))
   exact (findI_some hx h1 hok).symm
  ·repeat' (first|refine d1 ?_|(show ∀ _:Nat,T _ _ _ _ _;intro _))
   refine T_backX (k+1) ⟨by omega,fun i y hi hy=>?_⟩ (by omega)
   rcases Nat.lt_or_ge i k with h2|h2
   ·exact hok i y h2 hy
   ·rw [show i=k by omega,hx] at hy
    cases hy
    exact h1
 ·simp only [decide_eq_false_iff_not] at h
  repeat' (first|refine d1 ?_|refine dd ?_|(show ∀ _:Nat,T _ _ _ _ _;intro _)|(show T _ (.code .ret::_) _ _ _;refine T_retV [] rfl (Hle.refl _) ⟨congrArg (Value.int .i64) ?_,rfl⟩))
  exact (findI_none (fun i x hi=>hok i x (by have:=(List.getElem?_eq_some_iff.1 hi).1;omega) hi)).symm
theorem containsFuncU_spec (A:Option Addr) (n c:Nat) (xs:List Nat) (f:FuncId) (fs cs:List Value) (p:Nat→Bool) (w:World) (hs:Src w 1 A n (xs.map u64V)) (hn:xs.length=n) (hb:n≤1000000)
  (hf:∀ x∈xs,∀ w',Below w.heap.size w w'→Spec Tryz.prog f (fs++(.int .u64 (x:Nat)::cs)) w' (fun v A=>v = .bool (p x)∧A=[])) :
  Spec Tryz.prog 79 [.slice A n c, .func (.func f) fs.toArray cs.toArray] w (fun v A=>v = .bool (xs.any p)∧A=[]):=by
 refine spec_of sg Tryz.func79 rfl rfl rfl ?_
 repeat' (first|refine d1 ?_|refine dd ?_|(show T _ (.ops _ (_::_)::_) _ _ _;first|refine T_call rfl rfl rfl rfl rfl (fun w hw=>indexFuncU_spec A n c xs f fs cs p w (rdSrc hs w hw) hn hb (fun x hx w' hb'=>hf x hx w' (hw.below.trans (hb'.mono hw.below.size)))) ?_|refine T_callC rfl rfl rfl rfl rfl rfl rfl (fun hg w hw=>indexFuncU_spec A n c xs f fs cs p w (rdSrc hs w hw) hn hb (fun x hx w' hb'=>hf x hx w' (hw.below.trans (hb'.mono hw.below.size)))) ?_)|(show T _ (.run _ _ (_::_) _ _::_) _ _ _;first|refine rc rfl rfl rfl rfl rfl rfl rfl (fun w hw=>indexFuncU_spec A n c xs f fs cs p w (rdSrc hs w hw) hn hb (fun x hx w' hb'=>hf x hx w' (hw.below.trans (hb'.mono hw.below.size)))) ?_|refine rcG rfl rfl rfl rfl rfl rfl rfl rfl rfl (fun hg w hw=>indexFuncU_spec A n c xs f fs cs p w (rdSrc hs w hw) hn hb (fun x hx w' hb'=>hf x hx w' (hw.below.trans (hb'.mono hw.below.size)))) ?_)|(show ∀ _:Nat,T _ _ _ _ _;intro _)|(show T _ (.code .ret::_) _ _ _;refine T_retV [] rfl (Hle.refl _) ⟨congrArg Value.bool ?_,rfl⟩))
 exact findI_any p xs
theorem ne_int (a b:Nat):(!decide ((a:Int)=(b:Int)))=decide (a≠b):=by
 rw [decide_not]
 congr 1
 rw [decide_eq_decide]
 omega
theorem treeCC_spec (z x y p1 p2:Nat) (w:World) (h1:RdC w p1 0 [.int .u64 (x:Nat)]) (h2:RdC w p2 0 [.int .u64 (y:Nat)]) (hz:z<18446744073709551616) (hx:x<18446744073709551616) (hy:y<18446744073709551616) :
  Spec Tryz.prog 80 [.int .u64 (z:Nat), .pointer (some ⟨p1,0,none⟩), .pointer (some ⟨p2,0,none⟩)] w (fun v R=>v = .bool (decide (z≠x) && (decide (z≠y) && (inB z x && inB y z)))∧R=[]):=by
 refine spec_of sg Tryz.func80 rfl rfl rfl ?_
 repeat' (first|refine d1 ?_|(show T _ (.ops _ (_::_)::_) _ _ _;first|refine T_val rfl (Val.load rfl (fun hg=>rdOld h1)) rfl rfl rfl ?_|refine T_valC rfl (Val.load rfl (fun hg=>rdOld h1)) rfl rfl rfl rfl rfl ?_|refine T_val rfl (Val.load rfl (fun hg=>rdOld h2)) rfl rfl rfl ?_|refine T_valC rfl (Val.load rfl (fun hg=>rdOld h2)) rfl rfl rfl rfl rfl ?_|refine T_call rfl rfl rfl rfl rfl (fun w hw=>inB_spec z x hz hx w) ?_|refine T_callC rfl rfl rfl rfl rfl rfl rfl (fun hg w hw=>inB_spec z x hz hx w) ?_|refine T_call rfl rfl rfl rfl rfl (fun w hw=>inB_spec y z hy hz w) ?_|refine T_callC rfl rfl rfl rfl rfl rfl rfl (fun hg w hw=>inB_spec y z hy hz w) ?_)|(show T _ (.run _ _ (_::_) _ _::_) _ _ _;first|refine rv rfl rfl rfl (Val.load rfl (fun hg=>rdOld h1)) rfl rfl rfl ?_|refine rg rfl rfl rfl (Val.load rfl (fun hg=>rdOld h1)) rfl rfl rfl rfl rfl ?_|refine rv rfl rfl rfl (Val.load rfl (fun hg=>rdOld h2)) rfl rfl rfl ?_|refine rg rfl rfl rfl (Val.load rfl (fun hg=>rdOld h2)) rfl rfl rfl rfl rfl ?_|refine rc rfl rfl rfl rfl rfl rfl rfl (fun w hw=>inB_spec z x hz hx w) ?_|refine rcG rfl rfl rfl rfl rfl rfl rfl rfl rfl (fun hg w hw=>inB_spec z x hz hx w) ?_|refine rc rfl rfl rfl rfl rfl rfl rfl (fun w hw=>inB_spec y z hy hz w) ?_|refine rcG rfl rfl rfl rfl rfl rfl rfl rfl rfl (fun hg w hw=>inB_spec y z hy hz w) ?_)|(show ∀ _:Nat,T _ _ _ _ _;intro _))
 rw [ne_int,ne_int,Bool.and_assoc,Bool.and_assoc]
 repeat' (first|refine d1 ?_|refine dd ?_|(show ∀ _:Nat,T _ _ _ _ _;intro _)|(show T _ (.code .ret::_) _ _ _;refine T_retV [] rfl (Hle.none _) ⟨rfl,rfl⟩))
end Go.Proofs.YtabhdaehomjlgaaGreat
namespace Go.Proofs.YtabhdaehomjlgaaGreat
open Go.RowKit Go.Shelf Go.Proofs
set_option maxRecDepth 100000
set_option maxHeartbeats 4000000

def grH (b2 b3 b4 b5:Nat) (A1 A2:Option Addr) (c1 c2 m:Nat) (VS WS:List Value) (Ai:Option Addr) (ci:Nat) (inner:List Nat) (An:Option Addr) (k cn:Nat) (K:List HA):List HA :=
 blk b2 [.slice A1 m c1, .slice A2 m c2] 30::row 3 1 A1 c1 m VS::row 9 1 A2 c2 m WS::blk b3 [.slice Ai inner.length ci] 113::row 112 1 Ai ci inner.length (inner.map u64V) ::
  blk b4 [.func (.func 77) #[] #[.pointer (some ⟨b2,0,none⟩), .pointer (some ⟨b3,0,none⟩), .pointer (some ⟨b4,0,none⟩), .pointer (some ⟨b5,0,none⟩)]] 116::blk b5 [.slice An k cn] 22::K
theorem hle_un0 {A B C D E F G I:HA} {K:List HA}:Hle (A::B::C::D::E::F::G::I::K) (B::C::D::E::F::G::I::A::K):=hle_pm [1,2,3,4,5,6,7,0] [A,B,C,D,E,F,G,I] K
theorem hle_un1 {A B C D E F G I J:HA} {K:List HA}:Hle (J::A::B::C::D::E::F::G::I::K) (A::B::C::D::E::F::G::J::I::K):=hle_pm [1,2,3,4,5,6,7,0,8] [J,A,B,C,D,E,F,G,I] K
theorem hle_un2 {A B C D E F G I J:HA} {K:List HA}:Hle (A::B::C::D::E::F::G::J::I::K) (A::B::C::D::E::F::G::I::K):=hle_pm [0,1,2,3,4,5,6,8] [A,B,C,D,E,F,G,J,I] K
theorem hle_un3 {A B C D E F G I:HA} {K:List HA}:Hle (A::B::C::D::E::F::G::I::K) (A::B::C::D::E::F::G::K):=hle_pm [0,1,2,3,4,5,6] [A,B,C,D,E,F,G,I] K
theorem row1f {xs:List Value} {j:Nat} {v:Value} (h:xs[j]?=some v):∀ i u,[v][i]?=some u→xs[0+(j:Int).toNat * 1+i]?=some u:=by
 intro i u hu
 cases i with
 | zero=>simp at hu;subst hu;rw [show 0+(j:Int).toNat * 1+0=j by omega];exact h
 | succ i=>simp at hu
theorem grow_spec (names:List ByteArray) (An:Option Addr) (k cn:Nat) (hk:names.length=k) (hk32:k≤32) (inner:List Nat) (hin:∀ y∈inner,y<4294967296) (hil:inner.length≤300) (w0:World) (hs:Src w0 1 An k (names.map Value.string)) (b2 b3 b4 b5:Nat) (Ai:Option Addr) (ci:Nat) :
  ∀ f x,x<f→x<4294967296→∀ (A1 A2:Option Addr) (c1 c2 m:Nat) (PS:List Int) (NS:List ByteArray) (p:Int) (K:List HA),PS.length=m→NS.length=m→m+cntN (grT names inner f x)≤100000 →
   SpecB Tryz.prog 77 [.int .u64 (x:Nat), .int .i64 p, .pointer (some ⟨b2,0,none⟩), .pointer (some ⟨b3,0,none⟩), .pointer (some ⟨b4,0,none⟩), .pointer (some ⟨b5,0,none⟩)] w0
    (grH b2 b3 b4 b5 A1 A2 c1 c2 m (PS.map (Value.int .i64)) (NS.map Value.string) Ai ci inner An k cn K)
    (fun v R=>∃ s:(Option Addr × Nat) × (Option Addr × Nat),True∧v = .tuple #[]∧R=grH b2 b3 b4 b5 s.1.1 s.2.1 s.1.2 s.2.2 (m+cntN (grT names inner f x)) ((PS++prsN p m (grT names inner f x)).map (Value.int .i64)) ((NS++nmP (grT names inner f x)).map Value.string) Ai ci inner An k cn K):=by
 intro f
 induction f with
 | zero=>intro x h;omega
 | succ f ih =>
 intro x hxf hx A1 A2 c1 c2 m PS NS p K hP hN hcn
 refine specB_of sg Tryz.func77 rfl rfl rfl ?_
 rw [grT_succ] at hcn
 rw [cntN,cntNL_app2,cntNL_lf] at hcn
 simp only [grH]
 refine T_op (OpT.box (cs:=[.int .u64 (x:Nat)]) rfl rfl rfl rfl rfl rfl rfl (fun b6=>?_))
 refine T_le hle_un0 ?_
 repeat' (first|refine d1 ?_|(show ∀ _:Nat,T _ _ _ _ _;intro _))
 refine T_cutX 1 [] (fun _:(Option Addr × Nat) × (Option Addr × Nat)=>[]) (fun s=>grH b2 b3 b4 b5 s.1.1 s.2.1 s.1.2 s.2.2 (m+1) (PS.map (Value.int .i64)++flatP [(0, .int .i64 p)]) (NS.map Value.string++flatP [(0, .string ByteArray.empty)]) Ai ci inner An k cn (blk b6 [.int .u64 (x:Nat)] 112::K)) (fun _=>True) ?_ ?_
 ·refine dw0 10 [blk b2 [.slice A1 m c1, .slice A2 m c2] 30] ?_
  repeat' (first|(show T _ (.draw _ _ _ _ _::_) _ _ _;first|refine dw1 ?_|refine dwv rfl (by decide +kernel) rfl rfl (Val.load rfl (fun hg=>rdOwn1 rfl)) rfl rfl rfl ?_|refine dwg rfl (by decide +kernel) rfl rfl (Val.load rfl (fun hg=>rdOwn1 rfl)) rfl rfl rfl rfl rfl ?_|refine dwb rfl (by decide +kernel) ?_)|(show AllL _ [];exact True.intro)|(show AllL _ (_::_);refine ⟨?_,?_⟩)|(show OpT _ _ _ _ _ _ _;first|refine dwx ?_|refine OpT.ofVal rfl (Val.load rfl (fun hg=>rdOwn1 rfl)) rfl rfl rfl ⟨fun _=>(by first|exact Hle.none _|exact Hle.sub|exact absurd ‹_› (by decide +kernel)),?_⟩|refine OpT.litW rfl rfl rfl rfl rfl rfl rfl rfl rfl rfl rfl (fun _=>⟨fun _=>(by first|exact Hle.none _|exact Hle.sub|exact absurd ‹_› (by decide +kernel)),?_⟩)|refine OpT.append (A:=A1) rfl rfl rfl rfl rfl rfl rfl rfl rfl rfl (fun w hw=>Src.own hw rfl) rfl (by dsimp only;omega) (by omega) (fun _ _ _=>⟨fun _=>(by first|exact Hle.none _|exact Hle.sub|exact absurd ‹_› (by decide +kernel)),?_⟩)|refine OpT.append (A:=A2) rfl rfl rfl rfl rfl rfl rfl rfl rfl rfl (fun w hw=>Src.own hw rfl) rfl (by dsimp only;omega) (by omega) (fun _ _ _=>⟨fun _=>(by first|exact Hle.none _|exact Hle.sub|exact absurd ‹_› (by decide +kernel)),?_⟩)|refine OpT.storeA rfl rfl rfl rfl rfl rfl (Nat.le_of_ble_eq_true rfl) ⟨fun _=>(by first|exact Hle.none _|exact Hle.sub|exact absurd ‹_› (by decide +kernel)),?_⟩)|(show ∀ _:Nat,T _ _ _ _ _;intro _)|(show T _ (.mark _::_) _ _ _;exact T_meetX ((_,_),(_,_)) trivial (hG:=by exact (Hle.tail _ _).trans (Hle.tail _ _))))
 rintro⟨⟨A3,c3⟩,⟨A4,c4⟩⟩ -
 dsimp only
 rw [show PS.map (Value.int .i64)++flatP [(0, .int .i64 p)]=(PS++p::prsNL (m:Nat) (m+1) (([]:List Nat).map (grT names inner f))).map (Value.int .i64) by rw [List.map_append];rfl,show NS.map Value.string++flatP [(0, .string ByteArray.empty)]=(NS++ByteArray.empty::nmPL (([]:List Nat).map (grT names inner f))).map Value.string by rw [List.map_append];rfl]
 simp only [grH]
 repeat' (first|refine d1 ?_|(show ∀ _:Nat,T _ _ _ _ _;intro _))
 refine T_loopX (fun s:Nat × (Option Addr × Nat) × (Option Addr × Nat)=>[(31, .int .i64 (s.1:Nat)),(9, .int .u64 ((kdP inner x s.1).foldl ndN x:Nat))]) (fun s=>grH b2 b3 b4 b5 s.2.1.1 s.2.2.1 s.2.1.2 s.2.2.2 (m+1+cntNL ((kdP inner x s.1).map (grT names inner f))) ((PS++p::prsNL (m:Nat) (m+1) ((kdP inner x s.1).map (grT names inner f))).map (Value.int .i64)) ((NS++ByteArray.empty::nmPL ((kdP inner x s.1).map (grT names inner f))).map Value.string) Ai ci inner An k cn (blk b6 [.int .u64 (x:Nat)] 112::K))
  (fun s=>s.1≤inner.length) (fun s=>inner.length - s.1) (0,(A3,c3),(A4,c4)) (Nat.zero_le _) ?_
 rintro⟨j,⟨A5,c5⟩,⟨A6,c6⟩⟩ hj
 dsimp only at hj ⊢
 obtain⟨rest,hrest⟩:=kdP_split inner x j
 have hcj:=hcn
 rw [hrest,List.map_append,cntNL_app2] at hcj
 have hlu:(kdP inner x j).foldl ndN x≤x:=foldl_nd_le _ _
 simp only [grH]
 repeat' (first|refine d1 ?_|(show ∀ _:Nat,T _ _ _ _ _;intro _))
 refine T_if rfl (fun h=>?_) (fun h=>?_)
 ·simp only [decide_eq_true_eq] at h
  obtain⟨y,hy⟩:∃ y,inner[j]?=some y:=⟨_,List.getElem?_eq_getElem (by omega)⟩
  have hym:=List.mem_of_getElem? hy
  have hyu:=hin y hym
  have hcell:(inner.map u64V)[j]?=some (.int .u64 (y:Nat)):=by rw [List.getElem?_map,hy];rfl
  refine T_rowpos (A:=Ai) (by omega) (fun gi e=>?_)
  subst e
  repeat' (first|refine d1 ?_|(show T _ (.ops _ (_::_)::_) _ _ _;first|refine T_val rfl (Val.load rfl (fun hg=>rdRow (A:=some ⟨gi,0,none⟩) (vs:=[.int .u64 (y:Nat)]) (by omega) (row1f hcell))) rfl rfl rfl ?_|refine T_valC rfl (Val.load rfl (fun hg=>rdRow (A:=some ⟨gi,0,none⟩) (vs:=[.int .u64 (y:Nat)]) (by omega) (row1f hcell))) rfl rfl rfl rfl rfl ?_)|(show T _ (.run _ _ (_::_) _ _::_) _ _ _;first|refine rv rfl rfl rfl (Val.load rfl (fun hg=>rdRow (A:=some ⟨gi,0,none⟩) (vs:=[.int .u64 (y:Nat)]) (by omega) (row1f hcell))) rfl rfl rfl ?_|refine rg rfl rfl rfl (Val.load rfl (fun hg=>rdRow (A:=some ⟨gi,0,none⟩) (vs:=[.int .u64 (y:Nat)]) (by omega) (row1f hcell))) rfl rfl rfl rfl rfl ?_)|(show ∀ _:Nat,T _ _ _ _ _;intro _))
  rename_i b11
  repeat' (first|refine d1 ?_|(show T _ (.ops _ (_::_)::_) _ _ _;first|refine T_call rfl rfl rfl rfl rfl (fun w hw=>inB_spec y x (by omega) (by omega) w) ?_|refine T_callC rfl rfl rfl rfl rfl rfl rfl (fun hg w hw=>inB_spec y x (by omega) (by omega) w) ?_|refine T_call rfl rfl rfl rfl rfl (fun w hw=>containsFuncU_spec (some ⟨gi,0,none⟩) inner.length ci inner _ [] [_,_] (fun z=>decide (z≠x) && (decide (z≠y) && (inB z x && inB y z))) w (srcRw w hw) rfl (by omega) (fun z hz w' hb'=>treeCC_spec z x y b6 b11 w' (RdC.below (rdBlk8 hw) hb') (RdC.below (rdBlk8 hw) hb') (by have:=hin z hz;omega) (by omega) (by omega))) ?_|refine T_callC rfl rfl rfl rfl rfl rfl rfl (fun hg w hw=>containsFuncU_spec (some ⟨gi,0,none⟩) inner.length ci inner _ [] [_,_] (fun z=>decide (z≠x) && (decide (z≠y) && (inB z x && inB y z))) w (srcRw w hw) rfl (by omega) (fun z hz w' hb'=>treeCC_spec z x y b6 b11 w' (RdC.below (rdBlk8 hw) hb') (RdC.below (rdBlk8 hw) hb') (by have:=hin z hz;omega) (by omega) (by omega))) ?_)|(show T _ (.run _ _ (_::_) _ _::_) _ _ _;first|refine rc rfl rfl rfl rfl rfl rfl rfl (fun w hw=>inB_spec y x (by omega) (by omega) w) ?_|refine rcG rfl rfl rfl rfl rfl rfl rfl rfl rfl (fun hg w hw=>inB_spec y x (by omega) (by omega) w) ?_|refine rc rfl rfl rfl rfl rfl rfl rfl (fun w hw=>containsFuncU_spec (some ⟨gi,0,none⟩) inner.length ci inner _ [] [_,_] (fun z=>decide (z≠x) && (decide (z≠y) && (inB z x && inB y z))) w (srcRw w hw) rfl (by omega) (fun z hz w' hb'=>treeCC_spec z x y b6 b11 w' (RdC.below (rdBlk8 hw) hb') (RdC.below (rdBlk8 hw) hb') (by have:=hin z hz;omega) (by omega) (by omega))) ?_|refine rcG rfl rfl rfl rfl rfl rfl rfl rfl rfl (fun hg w hw=>containsFuncU_spec (some ⟨gi,0,none⟩) inner.length ci inner _ [] [_,_] (fun z=>decide (z≠x) && (decide (z≠y) && (inB z x && inB y z))) w (srcRw w hw) rfl (by omega) (fun z hz w' hb'=>treeCC_spec z x y b6 b11 w' (RdC.below (rdBlk8 hw) hb') (RdC.below (rdBlk8 hw) hb') (by have:=hin z hz;omega) (by omega) (by omega))) ?_)|(show ∀ _:Nat,T _ _ _ _ _;intro _))
  have hkB:kidB inner x y = !(decide ((y:Int)=(x:Int)) || !inB y x || inner.any fun z=>decide (z≠x) && (decide (z≠y) && (inB z x && inB y z))):=by
   unfold kidB
   rw [show decide ((y:Int)=(x:Int))=decide (y=x) by rw [decide_eq_decide];omega]
  have hsucc:=kdP_succ (x:=x) hy
  refine T_if rfl (fun h2=>?_) (fun h2=>?_)
  ·rw [h2] at hkB
   rw [hkB,if_neg (by simp)] at hsucc
   repeat' (first|refine d1 ?_|(show ∀ _:Nat,T _ _ _ _ _;intro _))
   refine T_backX (j+1,(A5,c5),(A6,c6)) (by dsimp only;omega) (by dsimp only;omega) (hE:=⟨rfl,by dsimp only;rw [hsucc];rfl,trivial⟩) (hG:=?_)
   dsimp only
   rw [hsucc]
   exact Hle.tail _ _
  ·rw [h2] at hkB
   have hyx:=kidsG_lt (kidsG_mem.2 ⟨hym,hkB⟩)
   rw [hkB,if_pos (by rfl)] at hsucc
   obtain⟨rest2,hrest2⟩:=kdP_split inner x (j+1)
   have hcj2:=hcn
   rw [hrest2,hsucc,List.map_append,List.map_append,cntNL_app2,cntNL_app2,List.map_singleton,cntNL_one] at hcj2
   repeat' (first|refine d1 ?_|(show ∀ _:Nat,T _ _ _ _ _;intro _))
   refine T_le (H':=grH b2 b3 b4 b5 A5 A6 c5 c6 (m+1+cntNL ((kdP inner x j).map (grT names inner f))) ((PS++p::prsNL (m:Nat) (m+1) ((kdP inner x j).map (grT names inner f))).map (Value.int .i64)) ((NS++ByteArray.empty::nmPL ((kdP inner x j).map (grT names inner f))).map Value.string) (some ⟨gi,0,none⟩) ci inner An k cn (blk b11 [.int .u64 (y:Nat)] 112::blk b6 [.int .u64 (x:Nat)] 112::K)) hle_un1 ?_
   refine T_op (OpT.callB rfl rfl rfl rfl rfl (ih y (by omega) hyu A5 A6 c5 c6 (m+1+cntNL ((kdP inner x j).map (grT names inner f))) _ _ (m:Nat) _ (by rw [List.length_append,List.length_cons,prsNL_len2];omega) (by rw [List.length_append,List.length_cons,nmPL_len2];omega) (by omega)) ?_)
   rintro u R ⟨⟨⟨A7,c7⟩,⟨A8,c8⟩⟩,-,rfl,rfl⟩
   dsimp only
   simp only [grH]
   repeat' (first|refine d1 ?_|(show T _ (.ops _ (_::_)::_) _ _ _;first|refine T_val rfl (Val.bitsB rfl) rfl rfl rfl ?_|refine T_valC rfl (Val.bitsB rfl) rfl rfl rfl rfl rfl ?_)|(show T _ (.run _ _ (_::_) _ _::_) _ _ _;first|refine rv rfl rfl rfl (Val.bitsB rfl) rfl rfl rfl ?_|refine rg rfl rfl rfl (Val.bitsB rfl) rfl rfl rfl rfl rfl ?_)|(show ∀ _:Nat,T _ _ _ _ _;intro _))
   have e3:m+1+cntNL ((kdP inner x (j+1)).map (grT names inner f))=m+1+cntNL ((kdP inner x j).map (grT names inner f))+cntN (grT names inner f y):=by
    rw [hsucc,List.map_append,List.map_singleton,cntNL_app2,cntNL_one];omega
   have e1:PS++p::prsNL (m:Nat) (m+1) ((kdP inner x (j+1)).map (grT names inner f))=PS++p::prsNL (m:Nat) (m+1) ((kdP inner x j).map (grT names inner f))++prsN (m:Nat) (m+1+cntNL ((kdP inner x j).map (grT names inner f))) (grT names inner f y):=by
    rw [hsucc,List.map_append,List.map_singleton,prsNL_app,prsNL_one,List.append_assoc,List.cons_append]
   have e2:NS++ByteArray.empty::nmPL ((kdP inner x (j+1)).map (grT names inner f))=NS++ByteArray.empty::nmPL ((kdP inner x j).map (grT names inner f))++nmP (grT names inner f y):=by
    rw [hsucc,List.map_append,List.map_singleton,nmPL_app,nmPL_one,List.append_assoc,List.cons_append]
   have e4:((kdP inner x (j+1)).foldl ndN x:Nat)=ndN ((kdP inner x j).foldl ndN x) y:=by rw [hsucc,List.foldl_append];rfl
   rw [ndV_u (by omega) (by omega)]
   refine T_backX (j+1,(A7,c7),(A8,c8)) (by dsimp only;omega) (by dsimp only;omega) (hE:=⟨rfl,by dsimp only;rw [e4];rfl,trivial⟩) (hG:=?_)
   dsimp only
   rw [e1,e2,e3]
   exact hle_un2
 ·simp only [decide_eq_false_iff_not] at h
  rw [kdP_all (by omega)] at hlu hcj ⊢
  rw [show (kidsG inner x).foldl ndN x=leftG inner x from rfl] at hlu ⊢
  rw [grT_succ]
  generalize hKS:(kidsG inner x).map (grT names inner f)=KS at hcn ⊢
  generalize hL:leftG inner x=L at hcn hlu ⊢
  have hlt:∀ i,(bitsN i L).length≤i:=fun i=>bitsN_len i L
  repeat' (first|refine d1 ?_|(show ∀ _:Nat,T _ _ _ _ _;intro _))
  refine T_loopX (fun s:Nat × (Option Addr × Nat) × (Option Addr × Nat)=>[(59, .int .i64 (s.1:Nat))]) (fun s=>grH b2 b3 b4 b5 s.2.1.1 s.2.2.1 s.2.1.2 s.2.2.2 (m+1+cntNL (KS++(bitsN s.1 L).map (lfN names))) ((PS++p::prsNL (m:Nat) (m+1) (KS++(bitsN s.1 L).map (lfN names))).map (Value.int .i64)) ((NS++ByteArray.empty::nmPL (KS++(bitsN s.1 L).map (lfN names))).map Value.string) Ai ci inner An k cn (blk b6 [.int .u64 (x:Nat)] 112::K))
   (fun s=>s.1≤k) (fun s=>k - s.1) (0,(A5,c5),(A6,c6)) (Nat.zero_le _) ?_ (hG:=by dsimp only;rw [bitsN_zero,List.map_nil,List.append_nil];exact Hle.refl _)
  rintro⟨i,⟨A7,c7⟩,⟨A8,c8⟩⟩ hi
  dsimp only at hi ⊢
  have hcl:cntNL (KS++(bitsN i L).map (lfN names))≤cntNL KS+i:=by rw [cntNL_app2,cntNL_lf];have:=hlt i;omega
  have hcu:cntNL KS≤100000:=by omega
  simp only [grH]
  repeat' (first|refine d1 ?_|(show ∀ _:Nat,T _ _ _ _ _;intro _))
  refine T_if rfl (fun h1=>?_) (fun h1=>?_)
  ·simp only [decide_eq_true_eq] at h1
   obtain⟨bn,on,rfl⟩:=hs.base (by omega)
   obtain⟨a,ha⟩:∃ a,names[i]?=some a:=⟨_,List.getElem?_eq_getElem (by omega)⟩
   have hra:=src_str hs (by omega) ha
   have hga:names.getD i ByteArray.empty=a:=by rw [List.getD_eq_getElem?_getD,ha];rfl
   have hbs:=bitsN_succ i L
   repeat' (first|refine d1 ?_|(show T _ (.ops _ (_::_)::_) _ _ _;first|refine T_val rfl (Val.load rfl (fun hg=>rdOld hra)) rfl rfl rfl ?_|refine T_valC rfl (Val.load rfl (fun hg=>rdOld hra)) rfl rfl rfl rfl rfl ?_|refine T_val rfl (Val.bits rfl (fun _=>by omega)) rfl rfl rfl ?_|refine T_valC rfl (Val.bits rfl (fun _=>by omega)) rfl rfl rfl rfl rfl ?_|refine T_val rfl (Val.bitsB rfl) rfl rfl rfl ?_|refine T_valC rfl (Val.bitsB rfl) rfl rfl rfl rfl rfl ?_)|(show T _ (.run _ _ (_::_) _ _::_) _ _ _;first|refine rv rfl rfl rfl (Val.load rfl (fun hg=>rdOld hra)) rfl rfl rfl ?_|refine rg rfl rfl rfl (Val.load rfl (fun hg=>rdOld hra)) rfl rfl rfl rfl rfl ?_|refine rv rfl rfl rfl (Val.bits rfl (fun _=>by omega)) rfl rfl rfl ?_|refine rg rfl rfl rfl (Val.bits rfl (fun _=>by omega)) rfl rfl rfl rfl rfl ?_|refine rv rfl rfl rfl (Val.bitsB rfl) rfl rfl rfl ?_|refine rg rfl rfl rfl (Val.bitsB rfl) rfl rfl rfl rfl rfl ?_)|(show ∀ _:Nat,T _ _ _ _ _;intro _))
   have e:decide (andV .u64 (shrV .u64 (L:Int) (i:Int)) 1=1)=L.testBit i:=by
    rw [shr_u (by omega),show andV .u64 ((L >>> i:Nat):Int) 1=((L >>> i &&& 1:Nat):Int) from andV_u (b:=1) (Nat.lt_of_le_of_lt (by rw [Nat.shiftRight_eq_div_pow];exact Nat.div_le_self _ _) (by omega:L<18446744073709551616)) (by decide)]
    exact shr_bit L i
   refine T_if rfl (fun h2=>?_) (fun h2=>?_)
   ·rw [e] at h2
    rw [h2,if_pos rfl] at hbs
    have q1:cntNL (KS++(bitsN (i+1) L).map (lfN names))=cntNL (KS++(bitsN i L).map (lfN names))+1:=by
     rw [hbs,List.map_append, ← List.append_assoc,cntNL_app2];rfl
    have q2:PS++p::prsNL (m:Nat) (m+1) (KS++(bitsN (i+1) L).map (lfN names))=PS++p::prsNL (m:Nat) (m+1) (KS++(bitsN i L).map (lfN names))++[((m:Nat):Int)]:=by
     rw [hbs,List.map_append, ← List.append_assoc,prsNL_app,List.map_singleton,prsNL_one,List.append_assoc,List.cons_append];rfl
    have q3:NS++ByteArray.empty::nmPL (KS++(bitsN (i+1) L).map (lfN names))=NS++ByteArray.empty::nmPL (KS++(bitsN i L).map (lfN names))++[a]:=by
     rw [hbs,List.map_append, ← List.append_assoc,nmPL_app,List.map_singleton,nmPL_one,List.append_assoc,List.cons_append, ← hga];rfl
    generalize cntNL (KS++(bitsN i L).map (lfN names))=M at q1 hcl ⊢
    generalize PS++p::prsNL (m:Nat) (m+1) (KS++(bitsN i L).map (lfN names))=PI at q2 ⊢
    generalize NS++ByteArray.empty::nmPL (KS++(bitsN i L).map (lfN names))=NI at q3 ⊢
    refine T_cutX 1 [] (fun _:(Option Addr × Nat) × (Option Addr × Nat)=>[]) (fun s=>grH b2 b3 b4 b5 s.1.1 s.2.1 s.1.2 s.2.2 (m+1+M+1) (PI.map (Value.int .i64)++flatP [(0, .int .i64 (m:Nat))]) (NI.map Value.string++flatP [(0, .string a)]) Ai ci inner (some ⟨bn,on,none⟩) k cn (blk b6 [.int .u64 (x:Nat)] 112::K)) (fun _=>True) ?_ ?_
    ·refine dw0 11 [blk b2 [.slice A7 (m+1+M) c7, .slice A8 (m+1+M) c8] 30] ?_
     repeat' (first|(show T _ (.draw _ _ _ _ _::_) _ _ _;first|refine dw1 ?_|refine dwv rfl (by decide +kernel) rfl rfl (Val.load rfl (fun hg=>rdOwn1 rfl)) rfl rfl rfl ?_|refine dwg rfl (by decide +kernel) rfl rfl (Val.load rfl (fun hg=>rdOwn1 rfl)) rfl rfl rfl rfl rfl ?_|refine dwb rfl (by decide +kernel) ?_)|(show AllL _ [];exact True.intro)|(show AllL _ (_::_);refine ⟨?_,?_⟩)|(show OpT _ _ _ _ _ _ _;first|refine dwx ?_|refine OpT.ofVal rfl (Val.load rfl (fun hg=>rdOwn1 rfl)) rfl rfl rfl ⟨fun _=>(by first|exact Hle.none _|exact Hle.sub|exact absurd ‹_› (by decide +kernel)),?_⟩|refine OpT.litW rfl rfl rfl rfl rfl rfl rfl rfl rfl rfl rfl (fun _=>⟨fun _=>(by first|exact Hle.none _|exact Hle.sub|exact absurd ‹_› (by decide +kernel)),?_⟩)|refine OpT.append (A:=A7) rfl rfl rfl rfl rfl rfl rfl rfl rfl rfl (fun w hw=>Src.own hw rfl) rfl (by dsimp only;omega) (by omega) (fun _ _ _=>⟨fun _=>(by first|exact Hle.none _|exact Hle.sub|exact absurd ‹_› (by decide +kernel)),?_⟩)|refine OpT.append (A:=A8) rfl rfl rfl rfl rfl rfl rfl rfl rfl rfl (fun w hw=>Src.own hw rfl) rfl (by dsimp only;omega) (by omega) (fun _ _ _=>⟨fun _=>(by first|exact Hle.none _|exact Hle.sub|exact absurd ‹_› (by decide +kernel)),?_⟩)|refine OpT.storeA rfl rfl rfl rfl rfl rfl (Nat.le_of_ble_eq_true rfl) ⟨fun _=>(by first|exact Hle.none _|exact Hle.sub|exact absurd ‹_› (by decide +kernel)),?_⟩)|(show ∀ _:Nat,T _ _ _ _ _;intro _)|(show T _ (.mark _::_) _ _ _;exact T_meetX ((_,_),(_,_)) trivial (hG:=by exact (Hle.tail _ _).trans (Hle.tail _ _))))
    rintro⟨⟨A9,c9⟩,⟨B9,d9⟩⟩ -
    dsimp only
    repeat' (first|refine d1 ?_|(show ∀ _:Nat,T _ _ _ _ _;intro _))
    refine T_backX (i+1,(A9,c9),(B9,d9)) (by dsimp only;omega) (by dsimp only;omega) (hG:=?_)
    dsimp only
    rw [q1,q2,q3,List.map_append,List.map_append]
    exact Hle.refl _
   ·rw [e] at h2
    rw [h2,if_neg (by simp)] at hbs
    repeat' (first|refine d1 ?_|(show ∀ _:Nat,T _ _ _ _ _;intro _))
    refine T_backX (i+1,(A7,c7),(A8,c8)) (by dsimp only;omega) (by dsimp only;omega) (hG:=?_)
    dsimp only
    rw [hbs]
    exact Hle.refl _
  ·simp only [decide_eq_false_iff_not] at h1
   obtain rfl:i=k:=by omega
   subst hk
   rw [show m+1+cntNL (KS++(bitsN names.length L).map (lfN names))=m+cntN (.mk ByteArray.empty 0 (KS++(bitsN names.length L).map (lfN names))) by rw [cntN];omega]
   rw [show PS++p::prsNL (m:Nat) (m+1) (KS++(bitsN names.length L).map (lfN names))=PS++prsN p m (.mk ByteArray.empty 0 (KS++(bitsN names.length L).map (lfN names))) by rw [prsN]]
   rw [show NS++ByteArray.empty::nmPL (KS++(bitsN names.length L).map (lfN names))=NS++nmP (.mk ByteArray.empty 0 (KS++(bitsN names.length L).map (lfN names))) by rw [nmP]]
   exact T_fallV _ rfl hle_un3 ⟨((A7,c7),(A8,c8)),trivial,rfl,rfl⟩
end Go.Proofs.YtabhdaehomjlgaaGreat
namespace Go.Proofs.YtabhdaehomjlgaaGreat
open Go.RowKit Go.Shelf Go.Proofs
set_option maxRecDepth 100000
set_option maxHeartbeats 4000000

theorem namedSE_spec (s:ByteArray) (hs:s.size≤1000000) (w:World):Spec Tryz.prog 72 [.string s] w (fun v R=>v = .bool (siglum22 s)∧R=[]):=by
 have hb:(bare1_22 s).size≤9223372036854775807:=by
  unfold bare1_22
  split
  ·rw [ByteArray.size_extract];omega
  ·omega
 refine spec_of sg Tryz.func72 rfl rfl rfl ?_
 repeat' (first|refine d1 ?_|refine dd ?_|(show T _ (.ops _ (_::_)::_) _ _ _;first|refine T_call rfl rfl rfl rfl rfl (fun w hw=>cutStar_spec s (by omega) w) ?_|refine T_callC rfl rfl rfl rfl rfl rfl rfl (fun hg w hw=>cutStar_spec s (by omega) w) ?_)|(show T _ (.run _ _ (_::_) _ _::_) _ _ _;first|refine rc rfl rfl rfl rfl rfl rfl rfl (fun w hw=>cutStar_spec s (by omega) w) ?_|refine rcG rfl rfl rfl rfl rfl rfl rfl rfl rfl (fun hg w hw=>cutStar_spec s (by omega) w) ?_)|(show ∀ _:Nat,T _ _ _ _ _;intro _))
 refine T_if rfl (fun h=>?_) (fun h=>?_)
 ·repeat' (first|refine d1 ?_|refine dd ?_|(show T _ (.ops _ (_::_)::_) _ _ _;first|refine T_call rfl rfl rfl rfl rfl (fun w hw=>isNamePrg_spec (bare1_22 s) hb w) ?_|refine T_callC rfl rfl rfl rfl rfl rfl rfl (fun hg w hw=>isNamePrg_spec (bare1_22 s) hb w) ?_)|(show T _ (.run _ _ (_::_) _ _::_) _ _ _;first|refine rc rfl rfl rfl rfl rfl rfl rfl (fun w hw=>isNamePrg_spec (bare1_22 s) hb w) ?_|refine rcG rfl rfl rfl rfl rfl rfl rfl rfl rfl (fun hg w hw=>isNamePrg_spec (bare1_22 s) hb w) ?_)|(show ∀ _:Nat,T _ _ _ _ _;intro _)|(show T _ (.code .ret::_) _ _ _;refine T_retV [] rfl (Hle.none _) ⟨congrArg Value.bool (by rw [← siglum22_eq s,h,Bool.and_comm];simp),rfl⟩))
 ·repeat' (first|refine d1 ?_|refine dd ?_|(show T _ (.ops _ (_::_)::_) _ _ _;first|refine T_call rfl rfl rfl rfl rfl (fun w hw=>isNamePrg_spec s (by omega) w) ?_|refine T_callC rfl rfl rfl rfl rfl rfl rfl (fun hg w hw=>isNamePrg_spec s (by omega) w) ?_)|(show T _ (.run _ _ (_::_) _ _::_) _ _ _;first|refine rc rfl rfl rfl rfl rfl rfl rfl (fun w hw=>isNamePrg_spec s (by omega) w) ?_|refine rcG rfl rfl rfl rfl rfl rfl rfl rfl rfl (fun hg w hw=>isNamePrg_spec s (by omega) w) ?_)|(show ∀ _:Nat,T _ _ _ _ _;intro _)|(show T _ (.code .ret::_) _ _ _;refine T_retV [] rfl (Hle.none _) ⟨congrArg Value.bool (by rw [← siglum22_eq s,h];unfold bare1_22;rw [h];simp),rfl⟩))
def farG (gs:List GrE) (N:Nat):Bool:=gs.any fun g=>g.x.l.any fun z=>decide ((N:Int)≤z)
def lsG (gs:List GrE):List (List Int):=gs.map fun g=>g.x.l
def grsOk (gs:List GrE) (n:Nat):Prop:=n≤256∧∀ g∈gs,grOk g
theorem nocG {gs:List GrE} {n:Nat} (hl:gs.length=n):(∀ i k,i<k→k<n→cflB (mskG gs i) (mskG gs k)=false)↔nocL (lsG gs):=by
 unfold nocL lsG
 constructor
 ·intro h l hl1 m hm1
  obtain⟨g,hg,rfl⟩:=List.mem_map.1 hl1
  obtain⟨g',hg',rfl⟩:=List.mem_map.1 hm1
  obtain⟨i,hi⟩:=List.mem_iff_getElem?.1 hg
  obtain⟨k,hk⟩:=List.mem_iff_getElem?.1 hg'
  have hil:=(List.getElem?_eq_some_iff.1 hi).1
  have hkl:=(List.getElem?_eq_some_iff.1 hk).1
  rw [← mskG_at hi, ← mskG_at hk]
  rcases Nat.lt_trichotomy i k with h1|h1|h1
  ·exact h i k h1 (by omega)
  ·rw [h1];exact cflB_self _
  ·rw [cflB_comm];exact h k i h1 (by omega)
 ·intro h i k h1 h2
  obtain⟨g,hg⟩:∃ g,gs[i]?=some g:=⟨_,List.getElem?_eq_getElem (by omega)⟩
  obtain⟨g',hg'⟩:∃ g,gs[k]?=some g:=⟨_,List.getElem?_eq_getElem (by omega)⟩
  rw [mskG_at hg,mskG_at hg']
  exact h _ (List.mem_map_of_mem (List.mem_of_getElem? hg)) _ (List.mem_map_of_mem (List.mem_of_getElem? hg'))
theorem map_range_getD (l:List ByteArray):((List.range l.length).map fun i=>l.getD i ByteArray.empty)=l:=by
 refine List.ext_getElem (by simp) fun i h1 h2=>?_
 simp [List.getD_eq_getElem?_getD,List.getElem?_eq_getElem h2]
def ownT (names:List ByteArray) (gs:List GrE):Nd:=grT names (innL (2 ^ names.length - 1) (lsG gs)) (2 ^ names.length) (2 ^ names.length - 1)
abbrev ownP (names:List ByteArray) (gs:List GrE):List Int:=prsN (-1) 0 (ownT names gs)
abbrev ownN (names:List ByteArray) (gs:List GrE):List ByteArray:=nmP (ownT names gs)
theorem treeSE_spec (An A:Option Addr) (N cn n c:Nat) (names:List ByteArray) (gs:List GrE) (w:World) (hs:Src w 1 An N (names.map Value.string)) (hN:names.length=N) (h2:2≤N) (h12:N≤12) (hcn:N≤cn) (hsg:∀ a∈names,siglum22 a=true) (hnd:names.Nodup) (hsz:∀ a∈names,a.size≤1000000) (hg:GrR w A n gs) :
  Spec Tryz.prog 31 [.slice An N cn, .slice A n c] w (fun v R =>
   (∃ e:Int,e≠0∧(grsOk gs n→farG gs N=false→e=17∧¬ nocL (lsG gs))∧v = .tuple #[.agg #[.slice none 0 0, .slice none 0 0], .int .i64 e]∧R=[]) ∨
   (grsOk gs n∧farG gs N=false∧nocL (lsG gs)∧∃ s:(Option Addr × Nat) × (Option Addr × Nat),((ownP names gs).length≤s.1.2∧(ownP names gs).length≤s.2.2) ∧
    v = .tuple #[.agg #[.slice s.1.1 (ownP names gs).length s.1.2, .slice s.2.1 (ownP names gs).length s.2.2], .int .i64 0] ∧
    R=[row 3 1 s.1.1 s.1.2 (ownP names gs).length ((cps (ownP names gs) (ownN names gs)).map (Value.int .i64)),row 9 1 s.2.1 s.2.2 (ownP names gs).length ((cns (ownP names gs) (ownN names gs)).map Value.string)])):=by
 have hl:=hg.len
 have hn3:=hg.n12
 refine spec_of sg Tryz.func31 rfl rfl rfl ?_
 refine T_op (OpT.box (cs:=[.slice An N cn]) rfl rfl rfl rfl rfl rfl rfl (fun b2=>?_))
 repeat' (first|refine d1 ?_|(show ∀ _:Nat,T _ _ _ _ _;intro _))
 rename_i b4
 refine T_if rfl (fun h=>by exfalso;simp at h;omega) (fun _=>?_)
 repeat' (first|refine d1 ?_|(show ∀ _:Nat,T _ _ _ _ _;intro _))
 refine T_if rfl (fun h=>by exfalso;simp at h;omega) (fun _=>?_)
 repeat' (first|refine d1 ?_|(show ∀ _:Nat,T _ _ _ _ _;intro _))
 refine T_loopX (fun k:Nat=>[(27, .int .i64 (k:Nat))]) (fun _=>[blk b4 [.slice none 0 0, .slice none 0 0] 30,blk b2 [.slice An N cn] 22]) (fun k=>k≤N) (fun k=>N - k) 0 (Nat.zero_le _) ?_
 rintro k hk
 repeat' (first|refine d1 ?_|(show ∀ _:Nat,T _ _ _ _ _;intro _))
 refine T_if rfl (fun h=>?_) (fun h=>?_)
 ·simp only [decide_eq_true_eq] at h
  obtain⟨bn,on,rfl⟩:=hs.base (by omega)
  obtain⟨a,ha⟩:∃ a,names[k]?=some a:=⟨_,List.getElem?_eq_getElem (by omega)⟩
  have hra:=src_str hs (by omega) ha
  have ham:=List.mem_of_getElem? ha
  repeat' (first|refine d1 ?_|(show T _ (.ops _ (_::_)::_) _ _ _;first|refine T_val rfl (Val.load rfl (fun hg=>rdOld hra)) rfl rfl rfl ?_|refine T_valC rfl (Val.load rfl (fun hg=>rdOld hra)) rfl rfl rfl rfl rfl ?_|refine T_call rfl rfl rfl rfl rfl (fun w hw=>namedSE_spec a (hsz a ham) w) ?_|refine T_callC rfl rfl rfl rfl rfl rfl rfl (fun hg w hw=>namedSE_spec a (hsz a ham) w) ?_)|(show T _ (.run _ _ (_::_) _ _::_) _ _ _;first|refine rv rfl rfl rfl (Val.load rfl (fun hg=>rdOld hra)) rfl rfl rfl ?_|refine rg rfl rfl rfl (Val.load rfl (fun hg=>rdOld hra)) rfl rfl rfl rfl rfl ?_|refine rc rfl rfl rfl rfl rfl rfl rfl (fun w hw=>namedSE_spec a (hsz a ham) w) ?_|refine rcG rfl rfl rfl rfl rfl rfl rfl rfl rfl (fun hg w hw=>namedSE_spec a (hsz a ham) w) ?_)|(show ∀ _:Nat,T _ _ _ _ _;intro _))
  rw [hsg a ham]
  refine T_if rfl (fun h=>by cases h) (fun _=>?_)
  repeat' (first|refine d1 ?_|(show T _ (.ops _ (_::_)::_) _ _ _;first|refine T_call rfl rfl rfl rfl rfl (fun w hw=>containsStr_spec (some ⟨bn,on,none⟩) k cn (names.take k) a w (by rw [List.map_take];exact src_takeT (src_below hs hw.below) k (by omega)) (by rw [List.length_take];omega) (by omega)) ?_|refine T_callC rfl rfl rfl rfl rfl rfl rfl (fun hg w hw=>containsStr_spec (some ⟨bn,on,none⟩) k cn (names.take k) a w (by rw [List.map_take];exact src_takeT (src_below hs hw.below) k (by omega)) (by rw [List.length_take];omega) (by omega)) ?_)|(show T _ (.run _ _ (_::_) _ _::_) _ _ _;first|refine rc rfl rfl rfl rfl rfl rfl rfl (fun w hw=>containsStr_spec (some ⟨bn,on,none⟩) k cn (names.take k) a w (by rw [List.map_take];exact src_takeT (src_below hs hw.below) k (by omega)) (by rw [List.length_take];omega) (by omega)) ?_|refine rcG rfl rfl rfl rfl rfl rfl rfl rfl rfl (fun hg w hw=>containsStr_spec (some ⟨bn,on,none⟩) k cn (names.take k) a w (by rw [List.map_take];exact src_takeT (src_below hs hw.below) k (by omega)) (by rw [List.length_take];omega) (by omega)) ?_)|(show ∀ _:Nat,T _ _ _ _ _;intro _))
  have hnot:has22 (names.take k) a=false:=by
   rw [Bool.eq_false_iff]
   intro h9
   obtain⟨i,hi⟩:=List.mem_iff_getElem?.1 (has22_iff.1 h9)
   rw [List.getElem?_take] at hi
   split at hi
   ·rename_i hik
    have:=nodup_at hnd hi ha
    omega
   ·cases hi
  rw [hnot]
  refine T_if rfl (fun h=>by cases h) (fun _=>?_)
  repeat' (first|refine d1 ?_|(show ∀ _:Nat,T _ _ _ _ _;intro _))
  exact T_backX (k+1) (by omega) (by omega)
 simp only [decide_eq_false_iff_not] at h
 obtain rfl:k=N:=by omega
 repeat' (first|refine d1 ?_|(show ∀ _:Nat,T _ _ _ _ _;intro _))
 refine T_op (OpT.call rfl rfl rfl rfl rfl (fun w hw=>conflicts_spec A n c gs w (hg.cls hw)) ?_)
 rintro u R ⟨e,Bc,m,d,he,hm,rfl,rfl⟩
 rw [List.nil_append]
 rw [nocG hl] at hm
 repeat' (first|refine d1 ?_|(show ∀ _:Nat,T _ _ _ _ _;intro _))
 refine T_if rfl (fun h3=>?_) (fun h3=>?_)
 ·simp only [Bool.not_eq_true',decide_eq_false_iff_not] at h3
  repeat' (first|refine d1 ?_|(show ∀ _:Nat,T _ _ _ _ _;intro _))
  refine T_le (H':=[blk b4 [.slice none 0 0, .slice none 0 0] 30,blk b2 [.slice An k cn] 22]) (Hle.refl _) ?_
  exact T_retM (vs:=[.agg #[.slice none 0 0, .slice none 0 0], .int .i64 e]) _ ⟨⟨b4,_,[.slice none 0 0, .slice none 0 0],rfl,rfl,rfl,rfl,(fun h=>by cases h),rfl,rdAll⟩,rfl,trivial⟩ (Hle.none _) (.inl ⟨e,h3,fun h9=>absurd (he.2 h9) h3,rfl,rfl⟩)
 simp only [Bool.not_eq_false',decide_eq_true_eq] at h3
 subst h3
 have hgo:grsOk gs n:=he.1 rfl
 have hm:=hm rfl
 repeat' (first|refine d1 ?_|(show T _ (.ops _ (_::_)::_) _ _ _;first|refine T_call rfl rfl rfl rfl rfl (fun w hw=>farG_spec A n c gs k w (hg.cls hw) hgo.2) ?_|refine T_callC rfl rfl rfl rfl rfl rfl rfl (fun hg w hw=>farG_spec A n c gs k w (hg.cls hw) hgo.2) ?_)|(show T _ (.run _ _ (_::_) _ _::_) _ _ _;first|refine rc rfl rfl rfl rfl rfl rfl rfl (fun w hw=>farG_spec A n c gs k w (hg.cls hw) hgo.2) ?_|refine rcG rfl rfl rfl rfl rfl rfl rfl rfl rfl (fun hg w hw=>farG_spec A n c gs k w (hg.cls hw) hgo.2) ?_)|(show ∀ _:Nat,T _ _ _ _ _;intro _))
 refine T_if rfl (fun h4=>?_) (fun h4=>?_)
 ·repeat' (first|refine d1 ?_|(show ∀ _:Nat,T _ _ _ _ _;intro _))
  refine T_le (H':=[blk b4 [.slice none 0 0, .slice none 0 0] 30,blk b2 [.slice An k cn] 22]) (Hle.refl _) ?_
  exact T_retM (vs:=[.agg #[.slice none 0 0, .slice none 0 0], .int .i64 2]) _ ⟨⟨b4,_,[.slice none 0 0, .slice none 0 0],rfl,rfl,rfl,rfl,(fun h=>by cases h),rfl,rdAll⟩,rfl,trivial⟩ (Hle.none _) (.inl ⟨2,by decide,fun _ h9=>(by unfold farG at h9;rw [h4] at h9;cases h9),rfl,rfl⟩)
 repeat' (first|refine d1 ?_|(show ∀ _:Nat,T _ _ _ _ _;intro _))
 refine T_if rfl (fun h5=>?_) (fun h5=>?_)
 ·simp only [decide_eq_true_eq] at h5
  repeat' (first|refine d1 ?_|(show ∀ _:Nat,T _ _ _ _ _;intro _))
  refine T_le (H':=[blk b4 [.slice none 0 0, .slice none 0 0] 30,blk b2 [.slice An k cn] 22]) (Hle.refl _) ?_
  exact T_retM (vs:=[.agg #[.slice none 0 0, .slice none 0 0], .int .i64 17]) _ ⟨⟨b4,_,[.slice none 0 0, .slice none 0 0],rfl,rfl,rfl,rfl,(fun h=>by cases h),rfl,rdAll⟩,rfl,trivial⟩ (Hle.none _) (.inl ⟨17,by decide,fun _ _=>⟨rfl,fun h9=>(by have:=hm.2 h9;omega)⟩,rfl,rfl⟩)
 simp only [decide_eq_false_iff_not] at h5
 have hno:nocL (lsG gs):=hm.1 (by omega)
 repeat' (first|refine d1 ?_|(show T _ (.ops _ (_::_)::_) _ _ _;first|refine T_val rfl (Val.bits rfl (fun _=>by omega)) rfl rfl rfl ?_|refine T_valC rfl (Val.bits rfl (fun _=>by omega)) rfl rfl rfl rfl rfl ?_|refine T_val rfl (Val.bitsB rfl) rfl rfl rfl ?_|refine T_valC rfl (Val.bitsB rfl) rfl rfl rfl rfl rfl ?_)|(show T _ (.run _ _ (_::_) _ _::_) _ _ _;first|refine rv rfl rfl rfl (Val.bits rfl (fun _=>by omega)) rfl rfl rfl ?_|refine rg rfl rfl rfl (Val.bits rfl (fun _=>by omega)) rfl rfl rfl rfl rfl ?_|refine rv rfl rfl rfl (Val.bitsB rfl) rfl rfl rfl ?_|refine rg rfl rfl rfl (Val.bitsB rfl) rfl rfl rfl rfl rfl ?_)|(show ∀ _:Nat,T _ _ _ _ _;intro _))
 have hP:2 ^ k≤2 ^ 12:=Nat.pow_le_pow_right (by decide) h12
 have hP4:2 ^ 2≤2 ^ k:=Nat.pow_le_pow_right (by decide) h2
 rw [shl1_u (by omega),Nat.one_shiftLeft]
 have hfar:farG gs k=false:=h4
 have hinn:∀ j,(innL (2 ^ k - 1) (lsG (gs.take j))).length≤300:=fun j=>Nat.le_trans (innL_len _ _) (by unfold lsG;rw [List.length_map,List.length_take];omega)
 unfold ownP ownN ownT
 rw [hN]
 generalize hpk:2 ^ k=P at hP hP4 hinn ⊢
 repeat' (first|refine d1 ?_|(show ∀ _:Nat,T _ _ _ _ _;intro _))
 rw [show (P:Int) - 1=((P - 1:Nat):Int) by omega]
 repeat' (first|refine d1 ?_|(show ∀ _:Nat,T _ _ _ _ _;intro _))
 rename_i b11
 refine T_nilrow 112 1 ?_
 refine T_le (H':=[blk b11 [.slice none 0 0] 113,row 112 1 none 0 0 [],blk b4 [.slice none 0 0, .slice none 0 0] 30,blk b2 [.slice An k cn] 22]) (hle_pm [1,0,2,3] [_,_,_,_] []) ?_
 refine T_loopX (fun s:Nat × Option Addr × Nat=>[(70, .int .i64 (s.1:Nat))]) (fun s=>[blk b11 [.slice s.2.1 (innL (P - 1) (lsG (gs.take s.1))).length s.2.2] 113,row 112 1 s.2.1 s.2.2 (innL (P - 1) (lsG (gs.take s.1))).length ((innL (P - 1) (lsG (gs.take s.1))).map u64V),blk b4 [.slice none 0 0, .slice none 0 0] 30,blk b2 [.slice An k cn] 22]) (fun s=>s.1≤n) (fun s=>n - s.1) (0,none,0) (Nat.zero_le _) ?_
 rintro⟨j,Ai,ci⟩ hj
 dsimp only at hj ⊢
 have hinj:=hinn j
 generalize hI:innL (P - 1) (lsG (gs.take j))=I at hinj ⊢
 repeat' (first|refine d1 ?_|(show ∀ _:Nat,T _ _ _ _ _;intro _))
 refine T_if rfl (fun h6=>?_) (fun h6=>?_)
 ·simp only [decide_eq_true_eq] at h6
  obtain⟨b,o,rfl⟩:=hg.s.base (by omega)
  obtain⟨g,hgj⟩:∃ g,gs[j]?=some g:=⟨_,List.getElem?_eq_getElem (by omega)⟩
  have hat:=hg.at hgj
  have hgm:=List.mem_of_getElem? hgj
  obtain⟨hr1,hr2,hr3⟩:=hg.rd g hgm
  have hstep:innL (P - 1) (lsG (gs.take (j+1)))=innS (P - 1) I g.x.l:=by
   unfold lsG at hI ⊢
   rw [take_snoc _ _ _ hgj,List.map_append,List.map_singleton,innL_snoc,hI]
  repeat' (first|refine d1 ?_|(show T _ (.ops _ (_::_)::_) _ _ _;first|refine T_val rfl (Val.loadA (vs:=g.cells) rfl (fun _=>rdOld hat) rfl) rfl rfl rfl ?_|refine T_valC rfl (Val.loadA (vs:=g.cells) rfl (fun _=>rdOld hat) rfl) rfl rfl rfl rfl rfl ?_)|(show T _ (.run _ _ (_::_) _ _::_) _ _ _;first|refine rv rfl rfl rfl (Val.loadA (vs:=g.cells) rfl (fun _=>rdOld hat) rfl) rfl rfl rfl ?_|refine rg rfl rfl rfl (Val.loadA (vs:=g.cells) rfl (fun _=>rdOld hat) rfl) rfl rfl rfl rfl rfl ?_)|(show ∀ _:Nat,T _ _ _ _ _;intro _))
  rename_i b13
  refine T_le (H':=[blk b13 [.int .i64 g.u, .int .i64 g.st, .slice g.x.A g.x.n g.x.cap] 105,blk b11 [.slice Ai I.length ci] 113,row 112 1 Ai ci I.length (I.map u64V),blk b4 [.slice none 0 0, .slice none 0 0] 30,blk b2 [.slice An k cn] 22]) (Hle.refl _) ?_
  repeat' (first|refine d1 ?_|(show T _ (.ops _ (_::_)::_) _ _ _;first|refine T_call rfl rfl rfl rfl rfl (fun w hw=>ofG_spec g.x.A g.x.n g.x.cap g.x.l w (src_below hr1 hw.below) hr2 hr3 (fun z hz=>by have:=(hgo.2 g hgm).src.bd z hz;omega)) ?_|refine T_callC rfl rfl rfl rfl rfl rfl rfl (fun hg w hw=>ofG_spec g.x.A g.x.n g.x.cap g.x.l w (src_below hr1 hw.below) hr2 hr3 (fun z hz=>by have:=(hgo.2 g hgm).src.bd z hz;omega)) ?_|refine T_call rfl rfl rfl rfl rfl (fun w hw=>containsU_spec Ai I.length ci I (mskL g.x.l) w (srcRw w hw) rfl (by omega)) ?_|refine T_callC rfl rfl rfl rfl rfl rfl rfl (fun hg w hw=>containsU_spec Ai I.length ci I (mskL g.x.l) w (srcRw w hw) rfl (by omega)) ?_)|(show T _ (.run _ _ (_::_) _ _::_) _ _ _;first|refine rc rfl rfl rfl rfl rfl rfl rfl (fun w hw=>ofG_spec g.x.A g.x.n g.x.cap g.x.l w (src_below hr1 hw.below) hr2 hr3 (fun z hz=>by have:=(hgo.2 g hgm).src.bd z hz;omega)) ?_|refine rcG rfl rfl rfl rfl rfl rfl rfl rfl rfl (fun hg w hw=>ofG_spec g.x.A g.x.n g.x.cap g.x.l w (src_below hr1 hw.below) hr2 hr3 (fun z hz=>by have:=(hgo.2 g hgm).src.bd z hz;omega)) ?_|refine rc rfl rfl rfl rfl rfl rfl rfl (fun w hw=>containsU_spec Ai I.length ci I (mskL g.x.l) w (srcRw w hw) rfl (by omega)) ?_|refine rcG rfl rfl rfl rfl rfl rfl rfl rfl rfl (fun hg w hw=>containsU_spec Ai I.length ci I (mskL g.x.l) w (srcRw w hw) rfl (by omega)) ?_)|(show ∀ _:Nat,T _ _ _ _ _;intro _))
  have hcond:(decide ((1:Int)<(g.x.n:Int)) && !decide ((mskL g.x.l:Int)=((P - 1:Nat):Int)) && !decide (mskL g.x.l∈I))=innB (P - 1) I g.x.l:=by
   unfold innB
   rw [ne_int,Bool.and_assoc,hr2]
   congr 1
   rw [decide_eq_decide];omega
  refine T_if rfl (fun h7=>?_) (fun h7=>?_)
  ·rw [hcond] at h7
   unfold innS at hstep
   rw [if_pos h7] at hstep
   repeat' (first|refine d1 ?_|(show T _ (.ops _ (_::_)::_) _ _ _;refine T_op (OpT.append (A:=Ai) rfl rfl rfl rfl rfl rfl rfl rfl rfl rfl (fun w hw=>Src.own hw rfl) rfl (by dsimp only;omega) (by omega) (fun A9 c9 hA9=>?_)))|(show ∀ _:Nat,T _ _ _ _ _;intro _))
   refine T_backX (j+1,A9,c9) (by dsimp only;omega) (by dsimp only;omega) (hG:=?_)
   dsimp only
   rw [hstep,List.length_append,List.map_append]
   exact (Hle.tail _ _).trans (Hle.tail _ _)
  ·rw [hcond] at h7
   unfold innS at hstep
   rw [if_neg (by rw [h7];decide)] at hstep
   repeat' (first|refine d1 ?_|(show ∀ _:Nat,T _ _ _ _ _;intro _))
   refine T_backX (j+1,Ai,ci) (by dsimp only;omega) (by dsimp only;omega) (hG:=?_)
   dsimp only
   rw [hstep]
   exact Hle.tail _ _
 simp only [decide_eq_false_iff_not] at h6
 rw [List.take_of_length_le (by omega)] at hI
 repeat' (first|refine d1 ?_|(show ∀ _:Nat,T _ _ _ _ _;intro _))
 rename_i b15 b16
 refine T_if rfl (fun h=>by exfalso;simp at h;omega) (fun _=>?_)
 refine T_nilrow 9 1 ?_
 refine T_nilrow 3 1 ?_
 refine T_le (H':=[blk b15 [.slice none 0 0, .slice none 0 0] 30,row 3 1 none 0 0 [],row 9 1 none 0 0 [],blk b11 [.slice Ai I.length ci] 113,row 112 1 Ai ci I.length (I.map u64V),
  blk b16 [.func (.func 77) #[] #[.pointer (some ⟨b15,0,none⟩), .pointer (some ⟨b11,0,none⟩), .pointer (some ⟨b16,0,none⟩), .pointer (some ⟨b2,0,none⟩)]] 116,blk b2 [.slice An k cn] 22,blk b4 [.slice none 0 0, .slice none 0 0] 30]) (hle_pm [3,0,1,4,5,2,7,6] [_,_,_,_,_,_,_,_] []) ?_
 have hIm:∀ y∈I,∃ g∈gs,y=mskL g.x.l∧1<g.x.l.length∧y≠P - 1:=fun y hy=>by
  rw [← hI] at hy
  obtain⟨l,hl1,hl2⟩:=(innL_mem _).1 hy
  obtain⟨g,hg1,rfl⟩:=List.mem_map.1 hl1
  exact⟨g,hg1,hl2⟩
 have hgN:∀ g∈gs,∀ z∈g.x.l,0≤z∧z<(k:Int):=fun g hgm z hz=>by
  have h8:=(hgo.2 g hgm).src.bd z hz
  have h9:=hfar
  unfold farG at h9
  rw [List.any_eq_false] at h9
  have h10:=h9 g hgm
  rw [Bool.not_eq_true,List.any_eq_false] at h10
  have:=h10 z hz
  simp only [decide_eq_true_eq] at this
  omega
 have hlam:lamB I:=by rw [← hI];exact innL_lam hno
 have hI2:∀ y∈I,2≤(bitsN names.length y).length:=fun y hy=>by
  obtain⟨g,hgm,rfl,h8,-⟩:=hIm y hy
  rw [← (List.length_map (fun (i:Nat)=>(i:Int))), ← bitsI_N,hN,bitsI_N,List.length_map,msk_bits_len (hgo.2 g hgm).src.asc (hgN g hgm)]
  omega
 have hI0:∀ y∈I,y≠0:=fun y hy e=>by
  have:=hI2 y hy
  rw [e] at this
  have e0:bitsN names.length 0=[]:=List.filter_eq_nil_iff.2 fun i _=>by simp
  rw [e0] at this
  exact absurd this (by decide)
 have hall:bitsN names.length (P - 1)=List.range names.length:=by
  unfold bitsN
  rw [List.filter_eq_self]
  intro i hi
  rw [← hpk,Nat.testBit_two_pow_sub_one]
  rw [List.mem_range,hN] at hi
  exact decide_eq_true hi
 have hPN:P - 1<2 ^ names.length:=by rw [hN,hpk];omega
 have hcnt:=grT_cnt (names:=names) hlam hI2 P (P - 1) (by omega) hPN (by rw [hall,List.length_range,hN];exact h2)
 rw [hall,List.length_range,hN] at hcnt
 repeat' (first|refine d1 ?_|(show ∀ _:Nat,T _ _ _ _ _;intro _))
 refine T_op (OpT.callB rfl rfl rfl rfl rfl (grow_spec names An k cn hN (by omega) I (fun y hy=>?_) hinj w hs b15 b11 b16 b2 Ai ci P (P - 1) (by omega) (by omega) none none 0 0 0 [] [] (-1) _ rfl rfl (by omega)) ?_)
 ·obtain⟨g,hgm,rfl,-⟩:=hIm y hy
  exact (hgo.2 g hgm).lt
 rintro u R ⟨⟨⟨A7,c7⟩,⟨A8,c8⟩⟩,-,rfl,rfl⟩
 dsimp only
 have hT:grT names (innL (P - 1) (lsG gs)) P (P - 1)=grT names I P (P - 1):=by rw [hI]
 rw [hT]
 have hnp:=grT_nms (names:=names) hlam hI0 P (P - 1) (by omega) (by omega) hPN
 rw [hall,map_range_getD] at hnp
 have hinn9:=grT_inn (names:=names) (inner:=I) P (P - 1)
 generalize grT names I P (P - 1)=TT at hcnt hnp hinn9 ⊢
 have htok:tOk (prsN (-1) 0 TT) (nmP TT):=tOk_back (by omega) hinn9 (fun a ha=>hsg a (hnp.mem_iff.1 ha)) (hnp.nodup_iff.2 hnd)
 rw [Nat.zero_add (cntN TT),List.nil_append (prsN (-1) 0 TT),List.nil_append (nmP TT)]
 simp only [grH]
 have hpl:(prsN (-1) 0 TT).length=cntN TT:=prsN_len TT (-1) 0
 have hnl:(nmP TT).length=cntN TT:=nmP_len TT
 have hlf:(lfI (nmP TT)).length≤12:=by
  have h8:=(nms_ndOf htok).length_eq
  rw [← noO_nms,ndOf_back,noO_nms,List.length_map,hnp.length_eq] at h8
  omega
 refine T_le (H':=[row 3 1 A7 c7 (cntN TT) ((prsN (-1) 0 TT).map (Value.int .i64)),row 9 1 A8 c8 (cntN TT) ((nmP TT).map Value.string),blk b15 [.slice A7 (cntN TT) c7, .slice A8 (cntN TT) c8] 30,blk b4 [.slice none 0 0, .slice none 0 0] 30]) (hle_pm [1,2,0,7] [_,_,_,_,_,_,_,_] []) ?_
 refine T_rowCap fun hcap1=>?_
 refine T_le (H':=[row 9 1 A8 c8 (cntN TT) ((nmP TT).map Value.string),row 3 1 A7 c7 (cntN TT) ((prsN (-1) 0 TT).map (Value.int .i64)),blk b15 [.slice A7 (cntN TT) c7, .slice A8 (cntN TT) c8] 30,blk b4 [.slice none 0 0, .slice none 0 0] 30]) (hle_pm [1,0,2,3] [_,_,_,_] []) ?_
 refine T_rowCap fun hcap2=>?_
 repeat' (first|refine d1 ?_|(show ∀ _:Nat,T _ _ _ _ _;intro _))
 refine T_op (OpT.call rfl rfl rfl rfl rfl (fun w hw=>canonicalE_spec A7 A8 (cntN TT) c7 (cntN TT) c8 (prsN (-1) 0 TT) (nmP TT) w ⟨srcRw w hw,srcRw w hw,hpl,hnl,hcap1.1,hcap2.1,by omega,by omega,htok.sizes⟩ htok hlf) ?_)
 rintro u R ⟨⟨⟨B1,d1'⟩,⟨B2,d2'⟩⟩,⟨hc1,hc2⟩,rfl,rfl⟩
 dsimp only at hc1 hc2 ⊢
 refine T_le (H':=[row 3 1 B1 d1' (prsN (-1) 0 TT).length ((cps (prsN (-1) 0 TT) (nmP TT)).map (Value.int .i64)),row 9 1 B2 d2' (prsN (-1) 0 TT).length ((cns (prsN (-1) 0 TT) (nmP TT)).map Value.string),blk b4 [.slice none 0 0, .slice none 0 0] 30]) (hle_pm [0,1,5] [_,_,_,_,_,_] []) ?_
 repeat' (first|refine d1 ?_|(show ∀ _:Nat,T _ _ _ _ _;intro _))
 refine T_le (H':=[blk b4 [.slice B1 (prsN (-1) 0 TT).length d1', .slice B2 (prsN (-1) 0 TT).length d2'] 30,row 3 1 B1 d1' (prsN (-1) 0 TT).length ((cps (prsN (-1) 0 TT) (nmP TT)).map (Value.int .i64)),row 9 1 B2 d2' (prsN (-1) 0 TT).length ((cns (prsN (-1) 0 TT) (nmP TT)).map Value.string)]) (hle_pm [2,0,1] [_,_,_] []) ?_
 exact T_retM (vs:=[.agg #[.slice B1 (prsN (-1) 0 TT).length d1', .slice B2 (prsN (-1) 0 TT).length d2'], .int .i64 0]) _ ⟨⟨b4,_,[.slice B1 (prsN (-1) 0 TT).length d1', .slice B2 (prsN (-1) 0 TT).length d2'],rfl,rfl,rfl,rfl,(fun h=>by cases h),rfl,rdAll⟩,rfl,trivial⟩ (Hle.tail _ _) (.inr ⟨hgo,hfar,hno,((B1,d1'),(B2,d2')),⟨hc1,hc2⟩,rfl,rfl⟩)
end Go.Proofs.YtabhdaehomjlgaaGreat
namespace Go.Proofs.YtabhdaehomjlgaaGreat
open Go.RowKit Go.Shelf Go.Proofs
set_option maxRecDepth 100000
set_option maxHeartbeats 4000000

theorem set_selfM {M:List Nat} {i:Nat} (h:i<M.length):M.set i (M.getD i 0)=M:=by
 rw [List.getD_eq_getElem?_getD,List.getElem?_eq_getElem h]
 exact List.set_getElem_self h
theorem consistent_spec (A1 A2 An A:Option Addr) (n1 c1 n2 c2 N cn n c:Nat) (ps:List Int) (ns names:List ByteArray) (gs:List GrE) (w:World) (ht:TrA w A1 n1 c1 A2 n2 c2 ps ns) (hok:tOk ps ns) (hs:Src w 1 An N (names.map Value.string)) (hN:names.length=N) (h12:N≤12) (hnd:names.Nodup)
  (hlv:((lfI ns).map fun i=>ns.getD i ByteArray.empty).Perm names) (hg:GrR w A n gs) :
  Spec Tryz.prog 32 [.agg #[.slice A1 n1 c1, .slice A2 n2 c2], .slice An N cn, .slice A n c] w (fun v R=>∃ (e:Int) (B:Option Addr) (m d:Nat),
   (e=0→(grsOk gs n∧farG gs N=false)∧(m=0→∀ g∈gs,∃ i,i<ps.length∧plS names (ndT ps ns i)=g.x.l))∧v = .tuple #[.slice B m d, .int .i64 e]∧R=[]):=by
 have hl:=hg.len
 have hn3:=hg.n12
 have hl1:=ht.l1
 have hl2:=ht.l2
 have hlen:=hok.len
 have hpos:=hok.pos
 have h64:=hok.n64
 obtain rfl:n1=n2:=by omega
 have hll:(lfI ns).length=N:=by have:=hlv.length_eq;rw [List.length_map] at this;omega
 refine spec_of sg Tryz.func32 rfl rfl rfl ?_
 refine T_op (OpT.box (cs:=[.slice A1 n1 c1, .slice A2 n1 c2]) rfl rfl rfl rfl rfl rfl rfl (fun b3=>?_))
 repeat' (first|refine d1 ?_|(show ∀ _:Nat,T _ _ _ _ _;intro _))
 refine T_op (OpT.call rfl rfl rfl rfl rfl (fun w hw=>leavesTree_spec A1 A2 n1 c1 n1 c2 ps ns w (ht.cls hw)) ?_)
 rintro u R (⟨hno,-,-⟩|⟨-,⟨Al,cl⟩,rfl,rfl⟩)
 ·exact absurd hok hno
 dsimp only
 rw [hll]
 refine T_le (H':=[row 3 1 Al cl N (numsV (lfI ns)),blk b3 [.slice A1 n1 c1, .slice A2 n1 c2] 30]) (Hle.refl _) ?_
 repeat' (first|refine d1 ?_|(show ∀ _:Nat,T _ _ _ _ _;intro _))
 refine T_if rfl (fun h=>by exfalso;simp at h) (fun _=>?_)
 repeat' (first|refine d1 ?_|(show ∀ _:Nat,T _ _ _ _ _;intro _))
 refine T_if rfl (fun h=>by exfalso;simp at h) (fun _=>?_)
 repeat' (first|refine d1 ?_|(show T _ (.ops _ (_::_)::_) _ _ _;refine T_op (OpT.makeMap (inj:=Value.string) rfl rfl rfl rfl rfl (fun mb=>?_)))|(show ∀ _:Nat,T _ _ _ _ _;intro _))
 refine T_loopX (fun s:Nat × List (ByteArray × Value)=>[(39, .int .i64 (s.1:Nat))]) (fun s=>[mph Value.string mb s.2,row 3 1 Al cl N (numsV (lfI ns)),blk b3 [.slice A1 n1 c1, .slice A2 n1 c2] 30]) (fun s=>s.1≤N∧numOk names s.2 s.1) (fun s=>N - s.1) (0,[]) ⟨Nat.zero_le _,numOk_zero names⟩ ?_
 rintro⟨k,mp⟩ ⟨hk,hmp⟩
 dsimp only at hk hmp ⊢
 repeat' (first|refine d1 ?_|(show ∀ _:Nat,T _ _ _ _ _;intro _))
 refine T_if rfl (fun h=>?_) (fun h=>?_)
 ·simp only [decide_eq_true_eq] at h
  obtain⟨bn,on,rfl⟩:=hs.base (by omega)
  obtain⟨a,ha⟩:∃ a,names[k]?=some a:=⟨_,List.getElem?_eq_getElem (by omega)⟩
  have hra:=src_str hs (by omega) ha
  repeat' (first|refine d1 ?_|(show T _ (.ops _ (_::_)::_) _ _ _;first|refine T_val rfl (Val.load rfl (fun hg=>rdOld hra)) rfl rfl rfl ?_|refine T_valC rfl (Val.load rfl (fun hg=>rdOld hra)) rfl rfl rfl rfl rfl ?_)|(show T _ (.run _ _ (_::_) _ _::_) _ _ _;first|refine rv rfl rfl rfl (Val.load rfl (fun hg=>rdOld hra)) rfl rfl rfl ?_|refine rg rfl rfl rfl (Val.load rfl (fun hg=>rdOld hra)) rfl rfl rfl rfl rfl ?_)|(show ∀ _:Nat,T _ _ _ _ _;intro _))
  refine T_op (OpT.mapUp (inj:=Value.string) (a:=a) (v := .int .i64 (k:Nat)) rfl rfl rfl Tryz.underlying120 keyS (fun w hw=>⟨trivial,fun _ _=>trivial⟩) ?_)
  repeat' (first|refine d1 ?_|(show ∀ _:Nat,T _ _ _ _ _;intro _))
  exact T_backX (k+1,mput mp a (.int .i64 (k:Nat))) ⟨by dsimp only;omega,numOk_step hnd hmp ha⟩ (by dsimp only;omega)
 simp only [decide_eq_false_iff_not] at h
 obtain rfl:k=N:=by omega
 repeat' (first|refine d1 ?_|(show ∀ _:Nat,T _ _ _ _ _;intro _))
 refine T_loopX (fun j:Nat=>[(50, .int .i64 (j:Nat))]) (fun _=>[mph Value.string mb mp,row 3 1 Al cl k (numsV (lfI ns)),blk b3 [.slice A1 n1 c1, .slice A2 n1 c2] 30]) (fun j=>j≤k) (fun j=>k - j) 0 (Nat.zero_le _) ?_
 rintro j hj
 repeat' (first|refine d1 ?_|(show ∀ _:Nat,T _ _ _ _ _;intro _))
 refine T_if rfl (fun h2=>?_) (fun h2=>?_)
 ·simp only [decide_eq_true_eq] at h2
  refine T_rowpos (A:=Al) (by omega) (fun gl e=>?_)
  subst e
  obtain⟨i,hi⟩:∃ i,(lfI ns)[j]?=some i:=⟨_,List.getElem?_eq_getElem (by omega)⟩
  have him:=(lfI_mem.1 (List.mem_of_getElem? hi)).1
  have hcl:(numsV (lfI ns))[j]?=some (.int .i64 (i:Nat)):=by unfold numsV;rw [List.getElem?_map,hi];rfl
  obtain⟨bt,ot,rfl⟩:=ht.s2.base (by omega)
  obtain⟨a,ha⟩:∃ a,ns[i]?=some a:=⟨_,List.getElem?_eq_getElem him⟩
  have hra:=src_str ht.s2 (k:=i) (by omega) ha
  have han:a∈names:=hlv.mem_iff.1 (List.mem_map.2 ⟨i,List.mem_of_getElem? hi,by rw [List.getD_eq_getElem?_getD,ha];rfl⟩)
  obtain⟨q,hq⟩:=List.mem_iff_getElem?.1 han
  have hql:=(List.getElem?_eq_some_iff.1 hq).1
  have hget:=hmp.2.1 q a (by omega) hq
  have hlk:Value.tuple #[(mget mp a).getD (.int .i64 0), .bool (mget mp a).isSome] = .tuple #[.int .i64 (q:Nat), .bool true]:=by rw [hget];rfl
  repeat' (first|refine d1 ?_|(show T _ (.ops _ (_::_)::_) _ _ _;first|refine T_val rfl (Val.load rfl (fun hg=>rdRow (A:=some ⟨gl,0,none⟩) (vs:=[.int .i64 (i:Nat)]) (by omega) (row1f hcl))) rfl rfl rfl ?_|refine T_valC rfl (Val.load rfl (fun hg=>rdRow (A:=some ⟨gl,0,none⟩) (vs:=[.int .i64 (i:Nat)]) (by omega) (row1f hcl))) rfl rfl rfl rfl rfl ?_|refine T_val rfl (Val.load rfl (fun hg=>rdOld hra)) rfl rfl rfl ?_|refine T_valC rfl (Val.load rfl (fun hg=>rdOld hra)) rfl rfl rfl rfl rfl ?_|refine T_val rfl (Val.to (Val.lookup (a:=a) (inj:=Value.string) rfl Tryz.underlying120 keyS rfl rfl (fun w hw=>⟨trivial,fun _ _=>trivial⟩)) (show cond true _ _=_ from hlk)) rfl rfl rfl ?_|refine T_valC rfl (Val.to (Val.lookup (a:=a) (inj:=Value.string) rfl Tryz.underlying120 keyS rfl rfl (fun w hw=>⟨trivial,fun _ _=>trivial⟩)) (show cond true _ _=_ from hlk)) rfl rfl rfl rfl rfl ?_|refine T_val rfl (Val.lenMap rfl Tryz.underlying120) rfl rfl rfl ?_|refine T_valC rfl (Val.lenMap rfl Tryz.underlying120) rfl rfl rfl rfl rfl ?_)|(show T _ (.run _ _ (_::_) _ _::_) _ _ _;first|refine rv rfl rfl rfl (Val.load rfl (fun hg=>rdRow (A:=some ⟨gl,0,none⟩) (vs:=[.int .i64 (i:Nat)]) (by omega) (row1f hcl))) rfl rfl rfl ?_|refine rg rfl rfl rfl (Val.load rfl (fun hg=>rdRow (A:=some ⟨gl,0,none⟩) (vs:=[.int .i64 (i:Nat)]) (by omega) (row1f hcl))) rfl rfl rfl rfl rfl ?_|refine rv rfl rfl rfl (Val.load rfl (fun hg=>rdOld hra)) rfl rfl rfl ?_|refine rg rfl rfl rfl (Val.load rfl (fun hg=>rdOld hra)) rfl rfl rfl rfl rfl ?_|refine rv rfl rfl rfl (Val.to (Val.lookup (a:=a) (inj:=Value.string) rfl Tryz.underlying120 keyS rfl rfl (fun w hw=>⟨trivial,fun _ _=>trivial⟩)) (show cond true _ _=_ from hlk)) rfl rfl rfl ?_|refine rg rfl rfl rfl (Val.to (Val.lookup (a:=a) (inj:=Value.string) rfl Tryz.underlying120 keyS rfl rfl (fun w hw=>⟨trivial,fun _ _=>trivial⟩)) (show cond true _ _=_ from hlk)) rfl rfl rfl rfl rfl ?_|refine rv rfl rfl rfl (Val.lenMap rfl Tryz.underlying120) rfl rfl rfl ?_|refine rg rfl rfl rfl (Val.lenMap rfl Tryz.underlying120) rfl rfl rfl rfl rfl ?_)|(show ∀ _:Nat,T _ _ _ _ _;intro _))
  refine T_if rfl (fun h3=>by exfalso;have:=hmp.1;simp at h3;omega) (fun _=>?_)
  repeat' (first|refine d1 ?_|(show ∀ _:Nat,T _ _ _ _ _;intro _))
  exact T_backX (j+1) (by omega) (by omega)
 simp only [decide_eq_false_iff_not] at h2
 repeat' (first|refine d1 ?_|(show ∀ _:Nat,T _ _ _ _ _;intro _))
 refine T_op (OpT.call rfl rfl rfl rfl rfl (fun w hw=>checkG_spec A n c gs w (hg.cls hw)) ?_)
 rintro u R ⟨e,he,rfl,rfl⟩
 rw [List.nil_append]
 repeat' (first|refine d1 ?_|(show ∀ _:Nat,T _ _ _ _ _;intro _))
 refine T_if rfl (fun h3=>?_) (fun h3=>?_)
 ·simp only [Bool.not_eq_true',decide_eq_false_iff_not] at h3
  repeat' (first|refine d1 ?_|(show ∀ _:Nat,T _ _ _ _ _;intro _)|(show T _ (.code .ret::_) _ _ _;refine T_retV [] rfl (Hle.none _) ⟨e,none,0,0,fun h9=>absurd h9 h3,rfl,rfl⟩))
 simp only [Bool.not_eq_false',decide_eq_true_eq] at h3
 subst h3
 have hgo:grsOk gs n:=he.1 rfl
 repeat' (first|refine d1 ?_|(show T _ (.ops _ (_::_)::_) _ _ _;first|refine T_call rfl rfl rfl rfl rfl (fun w hw=>farG_spec A n c gs k w (hg.cls hw) hgo.2) ?_|refine T_callC rfl rfl rfl rfl rfl rfl rfl (fun hg w hw=>farG_spec A n c gs k w (hg.cls hw) hgo.2) ?_)|(show T _ (.run _ _ (_::_) _ _::_) _ _ _;first|refine rc rfl rfl rfl rfl rfl rfl rfl (fun w hw=>farG_spec A n c gs k w (hg.cls hw) hgo.2) ?_|refine rcG rfl rfl rfl rfl rfl rfl rfl rfl rfl (fun hg w hw=>farG_spec A n c gs k w (hg.cls hw) hgo.2) ?_)|(show ∀ _:Nat,T _ _ _ _ _;intro _))
 refine T_if rfl (fun h4=>?_) (fun h4=>?_)
 ·repeat' (first|refine d1 ?_|(show ∀ _:Nat,T _ _ _ _ _;intro _)|(show T _ (.code .ret::_) _ _ _;refine T_retV [] rfl (Hle.none _) ⟨2,none,0,0,fun h9=>absurd h9 (by decide),rfl,rfl⟩))
 have hfar:farG gs k=false:=h4
 repeat' (first|refine d1 ?_|(show T _ (.ops _ (_::_)::_) _ _ _;refine T_op (OpT.make rfl rfl rfl rfl rfl rfl rfl rfl rfl (by dsimp only;omega) (fun b18=>?_)))|(show ∀ _:Nat,T _ _ _ _ _;intro _))
 refine T_le (H':=[blk b18 ((List.replicate n1 0).map u64V) 112,mph Value.string mb mp,row 3 1 Al cl k (numsV (lfI ns)),blk b3 [.slice A1 n1 c1, .slice A2 n1 c2] 30]) (by rw [List.map_replicate];exact Hle.refl _) ?_
 have hst0:ownI ps ns names n1 (List.replicate n1 0):=by have:=ownI_start (ps:=ps) (ns:=ns) (names:=names);rwa [hl1] at this
 refine T_loopX (fun s:Nat × List Nat=>[(19, .int .i64 ((s.1:Nat) - 1:Int)),(18, .slice (some ⟨b18,0,none⟩) n1 n1)]) (fun s=>[blk b18 (s.2.map u64V) 112,mph Value.string mb mp,row 3 1 Al cl k (numsV (lfI ns)),blk b3 [.slice A1 n1 c1, .slice A2 n1 c2] 30]) (fun s=>s.1≤n1∧ownI ps ns names s.1 s.2) (fun s=>s.1) (n1,List.replicate n1 0) ⟨Nat.le_refl _,hst0⟩ ?_
 rintro⟨t,M⟩ ⟨ht1,hM⟩
 dsimp only at ht1 hM ⊢
 rcases t with _|i
 ·repeat' (first|refine d1 ?_|(show ∀ _:Nat,T _ _ _ _ _;intro _))
  refine T_if rfl (fun h=>by exfalso;simp at h) (fun _=>?_)
  repeat' (first|refine d1 ?_|(show ∀ _:Nat,T _ _ _ _ _;intro _))
  have hown:=fun q hq=>own_done hM (q:=q) hq
  have hMl:=hM.1
  refine T_nilrow 3 1 ?_
  refine T_le (H':=[row 3 1 none 0 0 [],blk b18 (M.map u64V) 112]) (hle_pm [0,1] [_,_,_,_,_] []) ?_
  refine T_loopX (fun s:Nat × List Value × Option Addr × Nat=>[(134, .int .i64 (s.1:Nat)),(21, .slice s.2.2.1 s.2.1.length s.2.2.2)]) (fun s=>[row 3 1 s.2.2.1 s.2.2.2 s.2.1.length s.2.1,blk b18 (M.map u64V) 112]) (fun s=>s.1≤n∧s.2.1.length≤s.1∧(s.2.1.length=0→∀ g∈gs.take s.1,mskL g.x.l∈M)) (fun s=>n - s.1) (0,[],none,0) ⟨Nat.zero_le _,Nat.le_refl _,fun _ g hg=>by cases hg⟩ ?_
  rintro⟨j,xs,B,d⟩ ⟨hj,hxl,hxm⟩
  dsimp only at hj hxl hxm ⊢
  repeat' (first|refine d1 ?_|(show ∀ _:Nat,T _ _ _ _ _;intro _))
  refine T_if rfl (fun h6=>?_) (fun h6=>?_)
  ·simp only [decide_eq_true_eq] at h6
   obtain⟨b,o,rfl⟩:=hg.s.base (by omega)
   obtain⟨g,hgj⟩:∃ g,gs[j]?=some g:=⟨_,List.getElem?_eq_getElem (by omega)⟩
   have hat:=hg.at hgj
   have hgm:=List.mem_of_getElem? hgj
   obtain⟨hr1,hr2,hr3⟩:=hg.rd g hgm
   repeat' (first|refine d1 ?_|(show T _ (.ops _ (_::_)::_) _ _ _;first|refine T_val rfl (Val.loadA (vs:=g.cells) rfl (fun _=>rdOld hat) rfl) rfl rfl rfl ?_|refine T_valC rfl (Val.loadA (vs:=g.cells) rfl (fun _=>rdOld hat) rfl) rfl rfl rfl rfl rfl ?_)|(show T _ (.run _ _ (_::_) _ _::_) _ _ _;first|refine rv rfl rfl rfl (Val.loadA (vs:=g.cells) rfl (fun _=>rdOld hat) rfl) rfl rfl rfl ?_|refine rg rfl rfl rfl (Val.loadA (vs:=g.cells) rfl (fun _=>rdOld hat) rfl) rfl rfl rfl rfl rfl ?_)|(show ∀ _:Nat,T _ _ _ _ _;intro _))
   rename_i b23
   refine T_le (H':=[blk b23 [.int .i64 g.u, .int .i64 g.st, .slice g.x.A g.x.n g.x.cap] 105,row 3 1 B d xs.length xs,blk b18 (M.map u64V) 112]) (Hle.refl _) ?_
   repeat' (first|refine d1 ?_|(show T _ (.ops _ (_::_)::_) _ _ _;first|refine T_call rfl rfl rfl rfl rfl (fun w hw=>ofG_spec g.x.A g.x.n g.x.cap g.x.l w (src_below hr1 hw.below) hr2 hr3 (fun z hz=>by have:=(hgo.2 g hgm).src.bd z hz;omega)) ?_|refine T_callC rfl rfl rfl rfl rfl rfl rfl (fun hg w hw=>ofG_spec g.x.A g.x.n g.x.cap g.x.l w (src_below hr1 hw.below) hr2 hr3 (fun z hz=>by have:=(hgo.2 g hgm).src.bd z hz;omega)) ?_|refine T_call rfl rfl rfl rfl rfl (fun w hw=>containsU_spec (some ⟨b18,0,none⟩) n1 n1 M (mskL g.x.l) w (Src.own (b:=b18) hw (by rw [List.length_map];omega)) (by omega) (by omega)) ?_|refine T_callC rfl rfl rfl rfl rfl rfl rfl (fun hg w hw=>containsU_spec (some ⟨b18,0,none⟩) n1 n1 M (mskL g.x.l) w (Src.own (b:=b18) hw (by rw [List.length_map];omega)) (by omega) (by omega)) ?_)|(show T _ (.run _ _ (_::_) _ _::_) _ _ _;first|refine rc rfl rfl rfl rfl rfl rfl rfl (fun w hw=>ofG_spec g.x.A g.x.n g.x.cap g.x.l w (src_below hr1 hw.below) hr2 hr3 (fun z hz=>by have:=(hgo.2 g hgm).src.bd z hz;omega)) ?_|refine rcG rfl rfl rfl rfl rfl rfl rfl rfl rfl (fun hg w hw=>ofG_spec g.x.A g.x.n g.x.cap g.x.l w (src_below hr1 hw.below) hr2 hr3 (fun z hz=>by have:=(hgo.2 g hgm).src.bd z hz;omega)) ?_|refine rc rfl rfl rfl rfl rfl rfl rfl (fun w hw=>containsU_spec (some ⟨b18,0,none⟩) n1 n1 M (mskL g.x.l) w (Src.own (b:=b18) hw (by rw [List.length_map];omega)) (by omega) (by omega)) ?_|refine rcG rfl rfl rfl rfl rfl rfl rfl rfl rfl (fun hg w hw=>containsU_spec (some ⟨b18,0,none⟩) n1 n1 M (mskL g.x.l) w (Src.own (b:=b18) hw (by rw [List.length_map];omega)) (by omega) (by omega)) ?_)|(show ∀ _:Nat,T _ _ _ _ _;intro _))
   refine T_if rfl (fun h7=>?_) (fun h7=>?_)
   ·repeat' (first|refine d1 ?_|(show T _ (.ops _ (_::_)::_) _ _ _;refine T_op (OpT.append (A:=B) rfl rfl rfl rfl rfl rfl rfl rfl rfl rfl (fun w hw=>Src.own hw rfl) rfl (by dsimp only;omega) (by omega) (fun A9 c9 hA9=>?_)))|(show ∀ _:Nat,T _ _ _ _ _;intro _))
    have hlen:(xs++[Value.int .i64 (j:Nat)]).length=xs.length+1:=by simp
    refine T_backX (j+1,xs++[Value.int .i64 (j:Nat)],A9,c9) ⟨by dsimp only;omega,by dsimp only;rw [hlen];omega,fun h9=>by dsimp only at h9;rw [hlen] at h9;omega⟩ (by dsimp only;omega) (hE:=⟨rfl,by dsimp only;rw [hlen];rfl,trivial⟩) (hG:=by dsimp only;rw [hlen];exact (Hle.tail _ _).trans (Hle.tail _ _))
   ·simp only [Bool.not_eq_false',decide_eq_true_eq] at h7
    repeat' (first|refine d1 ?_|(show ∀ _:Nat,T _ _ _ _ _;intro _))
    refine T_backX (j+1,xs,B,d) ⟨by dsimp only;omega,by dsimp only;omega,fun h9 y hy=>?_⟩ (by dsimp only;omega) (hG:=Hle.tail _ _)
    dsimp only at h9 hy
    rw [take_snoc _ _ _ hgj] at hy
    rcases List.mem_append.1 hy with hy|hy
    ·exact hxm h9 y hy
    ·rw [List.mem_singleton] at hy
     subst hy
     exact h7
  simp only [decide_eq_false_iff_not] at h6
  rw [List.take_of_length_le (by omega)] at hxm
  repeat' (first|refine d1 ?_|(show ∀ _:Nat,T _ _ _ _ _;intro _)|(show T _ (.code .ret::_) _ _ _;refine T_retV [] rfl (Hle.none _) ⟨0,B,xs.length,d,fun _=>⟨⟨hgo,hfar⟩,fun h9 g hgm=>?_⟩,rfl,rfl⟩))
  obtain⟨i,hi⟩:=List.mem_iff_getElem?.1 (hxm h9 g hgm)
  have hil:=(List.getElem?_eq_some_iff.1 hi).1
  refine ⟨i,by omega,?_⟩
  have h8:=hown i (by omega)
  rw [List.getD_eq_getElem?_getD,hi] at h8
  have h7:=(hgo.2 g hgm).src
  exact (mskL_inj h7.asc (setI_asc _ _) (fun z hz=>(h7.bd z hz).1) (fun z hz=>(setI_lo (n:=names.length) (p:=fun k=>has22 (nmsN (ndT ps ns i)) (names.getD k ByteArray.empty)) hz).1) h8).symm
 ·rw [show ((i+1:Nat):Int) - 1=(i:Int) by omega]
  have hMl:=hM.1
  have hMi:=ownI_lt hM (q:=i) (by omega)
  have h2N:2 ^ names.length≤2 ^ 12:=Nat.pow_le_pow_right (by decide) (by omega)
  obtain⟨bt,ot,rfl⟩:=ht.s2.base (by omega)
  obtain⟨bp,op,rfl⟩:=ht.s1.base (by omega)
  obtain⟨a,ha⟩:∃ a,ns[i]?=some a:=⟨_,List.getElem?_eq_getElem (by omega)⟩
  obtain⟨r,hr⟩:∃ r,ps[i]?=some r:=⟨_,List.getElem?_eq_getElem (by omega)⟩
  have hrd:ps.getD i (-1)=r:=by rw [List.getD_eq_getElem?_getD,hr];rfl
  have had:ns.getD i ByteArray.empty=a:=by rw [List.getD_eq_getElem?_getD,ha];rfl
  have hra:=src_str ht.s2 (k:=i) (by omega) ha
  have hrp:=src_int ht.s1 (k:=i) (by omega) hr
  have hci:∀ (M:List Nat) (i:Nat),i<M.length→(M.map u64V)[0+(i:Int).toNat * 1]?=some (.int .u64 ((M.getD i 0:Nat):Int)):=fun M i hi=>by
   rw [show 0+(i:Int).toNat * 1=i by omega,List.getElem?_map,List.getD_eq_getElem?_getD,List.getElem?_eq_getElem hi];rfl
  repeat' (first|refine d1 ?_|(show ∀ _:Nat,T _ _ _ _ _;intro _))
  refine T_if rfl (fun _=>?_) (fun h=>by exfalso;simp at h)
  repeat' (first|refine d1 ?_|(show T _ (.ops _ (_::_)::_) _ _ _;first|refine T_val rfl (Val.load rfl (fun hg=>rdOld hra)) rfl rfl rfl ?_|refine T_valC rfl (Val.load rfl (fun hg=>rdOld hra)) rfl rfl rfl rfl rfl ?_)|(show T _ (.run _ _ (_::_) _ _::_) _ _ _;first|refine rv rfl rfl rfl (Val.load rfl (fun hg=>rdOld hra)) rfl rfl rfl ?_|refine rg rfl rfl rfl (Val.load rfl (fun hg=>rdOld hra)) rfl rfl rfl rfl rfl ?_)|(show ∀ _:Nat,T _ _ _ _ _;intro _))
  refine T_cutX 1 [] (fun _:Nat=>[]) (fun v=>[blk b18 ((M.set i v).map u64V) 112,mph Value.string mb mp,row 3 1 Al cl k (numsV (lfI ns)),blk b3 [.slice (some ⟨bp,op,none⟩) n1 c1, .slice (some ⟨bt,ot,none⟩) n1 c2] 30]) (fun v=>∀ b,v.testBit b=FB ps ns names i b) ?_ ?_
  ·refine T_if rfl (fun h5=>?_) (fun h5=>?_)
   ·simp only [Bool.not_eq_true',decide_eq_false_iff_not] at h5
    have hne:ns.getD i ByteArray.empty≠ByteArray.empty:=by rw [had];exact h5
    have han:a∈names:=hlv.mem_iff.1 (List.mem_map.2 ⟨i,lfI_mem.2 ⟨by omega,hne⟩,had⟩)
    obtain⟨q,hq⟩:=List.mem_iff_getElem?.1 han
    have hql:=(List.getElem?_eq_some_iff.1 hq).1
    have hget:=hmp.2.1 q a (by omega) hq
    have hlk:(mget mp a).getD (.int .i64 0) = .int .i64 (q:Nat):=by rw [hget];rfl
    have hbits:=own_leaf hok hnd hM (by omega) hne (by rw [had];exact hq)
    refine rsH [blk b18 (M.map u64V) 112,mph Value.string mb mp,row 3 1 Al cl k (numsV (lfI ns)),blk b3 [.slice (some ⟨bp,op,none⟩) n1 c1, .slice (some ⟨bt,ot,none⟩) n1 c2] 30] 14 [0,1,2,3,4,5,6,7,8,9,10,11,12,13,14] ?_
    repeat' (first|refine d1 ?_|refine dd ?_|(show T _ (.ops _ (_::_)::_) _ _ _;first|refine T_val rfl (Val.load rfl (fun hg=>rdOwn1 (b:=b18) (hci M i (by omega)))) rfl rfl rfl ?_|refine T_valC rfl (Val.load rfl (fun hg=>rdOwn1 (b:=b18) (hci M i (by omega)))) rfl rfl rfl rfl rfl ?_|refine T_val rfl (Val.load rfl (fun hg=>rdOld hra)) rfl rfl rfl ?_|refine T_valC rfl (Val.load rfl (fun hg=>rdOld hra)) rfl rfl rfl rfl rfl ?_|refine T_val rfl (Val.to (Val.lookup (a:=a) (inj:=Value.string) rfl Tryz.underlying120 keyS rfl rfl (fun w hw=>⟨trivial,fun _ _=>trivial⟩)) (show cond false _ _=_ from hlk)) rfl rfl rfl ?_|refine T_valC rfl (Val.to (Val.lookup (a:=a) (inj:=Value.string) rfl Tryz.underlying120 keyS rfl rfl (fun w hw=>⟨trivial,fun _ _=>trivial⟩)) (show cond false _ _=_ from hlk)) rfl rfl rfl rfl rfl ?_|refine T_val rfl (Val.bits rfl (fun _=>by omega)) rfl rfl rfl ?_|refine T_valC rfl (Val.bits rfl (fun _=>by omega)) rfl rfl rfl rfl rfl ?_|refine T_val rfl (Val.bitsB rfl) rfl rfl rfl ?_|refine T_valC rfl (Val.bitsB rfl) rfl rfl rfl rfl rfl ?_)|(show T _ (.run _ _ (_::_) _ _::_) _ _ _;first|refine rv rfl rfl rfl (Val.load rfl (fun hg=>rdOwn1 (b:=b18) (hci M i (by omega)))) rfl rfl rfl ?_|refine rg rfl rfl rfl (Val.load rfl (fun hg=>rdOwn1 (b:=b18) (hci M i (by omega)))) rfl rfl rfl rfl rfl ?_|refine rv rfl rfl rfl (Val.load rfl (fun hg=>rdOld hra)) rfl rfl rfl ?_|refine rg rfl rfl rfl (Val.load rfl (fun hg=>rdOld hra)) rfl rfl rfl rfl rfl ?_|refine rv rfl rfl rfl (Val.to (Val.lookup (a:=a) (inj:=Value.string) rfl Tryz.underlying120 keyS rfl rfl (fun w hw=>⟨trivial,fun _ _=>trivial⟩)) (show cond false _ _=_ from hlk)) rfl rfl rfl ?_|refine rg rfl rfl rfl (Val.to (Val.lookup (a:=a) (inj:=Value.string) rfl Tryz.underlying120 keyS rfl rfl (fun w hw=>⟨trivial,fun _ _=>trivial⟩)) (show cond false _ _=_ from hlk)) rfl rfl rfl rfl rfl ?_|refine rv rfl rfl rfl (Val.bits rfl (fun _=>by omega)) rfl rfl rfl ?_|refine rg rfl rfl rfl (Val.bits rfl (fun _=>by omega)) rfl rfl rfl rfl rfl ?_|refine rv rfl rfl rfl (Val.bitsB rfl) rfl rfl rfl ?_|refine rg rfl rfl rfl (Val.bitsB rfl) rfl rfl rfl rfl rfl ?_)|(show ∀ _:Nat,T _ _ _ _ _;intro _))
    have hq1:1 <<< q<18446744073709551616:=by
     rw [Nat.one_shiftLeft];exact Nat.lt_of_lt_of_le (Nat.pow_lt_pow_right (by decide) (show q<64 by omega)) (by decide)
    rw [shl1_u (by omega),orV_u (by omega) hq1]
    refine T_meetX (M.getD i 0 ||| 1 <<< q) hbits (hG:=?_)
    rw [List.map_set,show 0+(i:Int).toNat * 1=i by omega]
    exact Hle.refl _
   ·simp only [Bool.not_eq_false',decide_eq_true_eq] at h5
    refine T_meetX (M.getD i 0) (own_inner hok hM (by omega) (by rw [had];exact h5)) (hG:=?_)
    rw [set_selfM (by omega)]
    exact Hle.refl _
  ·rintro v hv
   have hMi':∀ q,q<n1→(M.set i v).getD q 0<18446744073709551616:=fun q hq=>by
    rw [getD_set (by omega)]
    split
    ·exact Nat.lt_of_lt_of_le (lt_pow_bit (n:=names.length) fun b hb=>FB_lt (by rw [← hv b];exact hb)) (Nat.le_trans h2N (by decide))
    ·exact Nat.lt_of_lt_of_le (ownI_lt hM (by omega)) (Nat.le_trans h2N (by decide))
   repeat' (first|refine d1 ?_|(show T _ (.ops _ (_::_)::_) _ _ _;first|refine T_val rfl (Val.load rfl (fun hg=>rdOld hrp)) rfl rfl rfl ?_|refine T_valC rfl (Val.load rfl (fun hg=>rdOld hrp)) rfl rfl rfl rfl rfl ?_)|(show T _ (.run _ _ (_::_) _ _::_) _ _ _;first|refine rv rfl rfl rfl (Val.load rfl (fun hg=>rdOld hrp)) rfl rfl rfl ?_|refine rg rfl rfl rfl (Val.load rfl (fun hg=>rdOld hrp)) rfl rfl rfl rfl rfl ?_)|(show ∀ _:Nat,T _ _ _ _ _;intro _))
   refine T_if rfl (fun h6=>?_) (fun h6=>?_)
   ·simp only [decide_eq_true_eq] at h6
    obtain⟨p,rfl⟩:=Int.eq_ofNat_of_zero_le h6
    have hpi:p<i:=by
     rcases Nat.eq_zero_or_pos i with e|e
     ·subst e;have:=hok.up.z;rw [hrd] at this;omega
     ·have:=(hok.up.up i e (by omega)).2;rw [hrd] at this;omega
    have hup:=own_up hok hM (by omega) hv hrd hpi
    have hsl:(M.set i v).length=n1:=by rw [List.length_set];omega
    refine rsH [blk b18 ((M.set i v).map u64V) 112,mph Value.string mb mp,row 3 1 Al cl k (numsV (lfI ns)),blk b3 [.slice (some ⟨bp,op,none⟩) n1 c1, .slice (some ⟨bt,ot,none⟩) n1 c2] 30] 10 [0,1,2,3,4,5,6,7,8,9,10] ?_
    repeat' (first|refine d1 ?_|refine dd ?_|(show T _ (.ops _ (_::_)::_) _ _ _;first|refine T_val rfl (Val.load rfl (fun hg=>rdOwn1 (b:=b18) (hci (M.set i v) i (by omega)))) rfl rfl rfl ?_|refine T_valC rfl (Val.load rfl (fun hg=>rdOwn1 (b:=b18) (hci (M.set i v) i (by omega)))) rfl rfl rfl rfl rfl ?_|refine T_val rfl (Val.load rfl (fun hg=>rdOwn1 (b:=b18) (hci (M.set i v) p (by omega)))) rfl rfl rfl ?_|refine T_valC rfl (Val.load rfl (fun hg=>rdOwn1 (b:=b18) (hci (M.set i v) p (by omega)))) rfl rfl rfl rfl rfl ?_|refine T_val rfl (Val.bitsB rfl) rfl rfl rfl ?_|refine T_valC rfl (Val.bitsB rfl) rfl rfl rfl rfl rfl ?_)|(show T _ (.run _ _ (_::_) _ _::_) _ _ _;first|refine rv rfl rfl rfl (Val.load rfl (fun hg=>rdOwn1 (b:=b18) (hci (M.set i v) i (by omega)))) rfl rfl rfl ?_|refine rg rfl rfl rfl (Val.load rfl (fun hg=>rdOwn1 (b:=b18) (hci (M.set i v) i (by omega)))) rfl rfl rfl rfl rfl ?_|refine rv rfl rfl rfl (Val.load rfl (fun hg=>rdOwn1 (b:=b18) (hci (M.set i v) p (by omega)))) rfl rfl rfl ?_|refine rg rfl rfl rfl (Val.load rfl (fun hg=>rdOwn1 (b:=b18) (hci (M.set i v) p (by omega)))) rfl rfl rfl rfl rfl ?_|refine rv rfl rfl rfl (Val.bitsB rfl) rfl rfl rfl ?_|refine rg rfl rfl rfl (Val.bitsB rfl) rfl rfl rfl rfl rfl ?_)|(show ∀ _:Nat,T _ _ _ _ _;intro _))
    have hvi:(M.set i v).getD i 0=v:=by rw [getD_set (by omega),if_pos rfl]
    have hv64:=hMi' i (by omega)
    rw [hvi] at hv64 ⊢
    rw [orV_u (hMi' p (by omega)) hv64]
    refine T_backX (i,(M.set i v).set p ((M.set i v).getD p 0 ||| v)) ⟨by dsimp only;omega,hup⟩ (by dsimp only;omega) (hG:=?_)
    dsimp only
    have e9:((M.set i v).set p ((M.set i v).getD p 0 ||| v)).map u64V=((M.set i v).map u64V).set p (u64V ((M.set i v).getD p 0 ||| v)):=List.map_set ..
    rw [e9,show 0+(p:Int).toNat * 1=p by omega]
    exact Hle.refl _
   ·simp only [decide_eq_false_iff_not] at h6
    repeat' (first|refine d1 ?_|(show ∀ _:Nat,T _ _ _ _ _;intro _))
    exact T_backX (i,M.set i v) ⟨by dsimp only;omega,own_root hok hM (by omega) hv (by rw [hrd];omega)⟩ (by dsimp only;omega)
end Go.Proofs.YtabhdaehomjlgaaGreat
namespace Go.Proofs.YtabhdaehomjlgaaGreat
open Go.RowKit Go.Shelf Go.Proofs
set_option maxRecDepth 100000
set_option maxHeartbeats 4000000

structure GrS (w:World) (A:Option Addr) (n:Nat) (gs:List GrE):Prop where
 s:Src w 3 A n (gs.flatMap GrE.cells)
 len:gs.length=n
 nb:n≤9223372036854775807
 rd:∀ g∈gs,Src w 1 g.x.A g.x.n (g.x.l.map (Value.int .i64))∧g.x.l.length=g.x.n∧g.x.n≤9223372036854775807
theorem GrS.gr {w:World} {A:Option Addr} {n:Nat} {gs:List GrE} (h:GrS w A n gs) (hn:n≤300) (hx:∀ g∈gs,g.x.n≤1000):GrR w A n gs:=⟨h.s,h.len,hn,fun g hg=>⟨(h.rd g hg).1,(h.rd g hg).2.1,hx g hg⟩⟩
theorem GrS.cls {w0 w:World} {H:List HA} {A:Option Addr} {n:Nat} {gs:List GrE} (h:GrS w0 A n gs) (hw:Cls w0 w H):GrS w A n gs :=
 ⟨src_below h.s hw.below,h.len,h.nb,fun g hg=>⟨src_below (h.rd g hg).1 hw.below,(h.rd g hg).2⟩⟩
theorem GrS.at2 {w:World} {b o n:Nat} {gs:List GrE} (h:GrS w (some ⟨b,o,none⟩) n gs) {k:Nat} {g:GrE} (hk:gs[k]?=some g):RdC w b (o+(k:Int).toNat * 3+2) [.slice g.x.A g.x.n g.x.cap]:=by
 have hkl:=(List.getElem?_eq_some_iff.1 hk).1
 have hl:=h.len
 obtain⟨-,h2⟩:=h.s.2 (by omega)
 have hat:RdC w b (o+(k:Int).toNat * 3) g.cells:=by
  intro j u hu
  have h3:=h2 (k * 3+j) u (flatG_get (cells:=GrE.cells) (sz:=3) (fun _=>rfl) hk j u hu)
  rw [Int.toNat_natCast,Nat.add_assoc]
  exact h3
 exact hat.at (i:=2) rfl
def gr35 (n:Nat) (gs:List GrE):Bool:=(decide ((12:Int)<(n:Int)) && decide ((n:Int)≤256) || decide ((258:Int)<(n:Int))) || gs.any fun g=>decide (36<g.x.n)
theorem gr35_no {n:Nat} {gs:List GrE} (h:gr35 n gs=false):∀ g∈gs,g.x.n≤36:=fun g hg=>by
 unfold gr35 at h
 rw [Bool.or_eq_false_iff,List.any_eq_false] at h
 have:=h.2 g hg
 simp only [decide_eq_true_eq] at this
 omega
theorem great35_spec (A:Option Addr) (n c:Nat) (gs:List GrE) (w:World) (hg:GrS w A n gs) :
  Spec Tryz.prog 28 [.slice A n c] w (fun v R=>v = .bool (gr35 n gs)∧R=[]):=by
 have hl:=hg.len
 have hnb:=hg.nb
 refine spec_of sg Tryz.func28 rfl rfl rfl ?_
 repeat' (first|refine d1 ?_|(show ∀ _:Nat,T _ _ _ _ _;intro _))
 refine T_if rfl (fun h=>?_) (fun h=>?_)
 ·repeat' (first|refine d1 ?_|(show ∀ _:Nat,T _ _ _ _ _;intro _)|(show T _ (.code .ret::_) _ _ _;refine T_retV [] rfl (Hle.none _) ⟨congrArg Value.bool (by unfold gr35;rw [h,Bool.true_or]),rfl⟩))
 repeat' (first|refine d1 ?_|(show ∀ _:Nat,T _ _ _ _ _;intro _))
 refine T_loopX (fun k:Nat=>[(3, .int .i64 (k:Nat))]) (fun _=>[]) (fun k=>k≤n∧∀ g∈gs.take k,g.x.n≤36) (fun k=>n - k) 0 ⟨Nat.zero_le _,fun g hg=>by cases hg⟩ ?_
 rintro k ⟨hk,hok⟩
 repeat' (first|refine d1 ?_|(show ∀ _:Nat,T _ _ _ _ _;intro _))
 refine T_if rfl (fun h1=>?_) (fun h1=>?_)
 ·simp only [decide_eq_true_eq] at h1
  obtain⟨b,o,rfl⟩:=hg.s.base (by omega)
  obtain⟨g,hgk⟩:∃ g,gs[k]?=some g:=⟨_,List.getElem?_eq_getElem (by omega)⟩
  have hat:=hg.at2 hgk
  have hgn:=(hg.rd g (List.mem_of_getElem? hgk)).2.2
  repeat' (first|refine d1 ?_|(show T _ (.ops _ (_::_)::_) _ _ _;first|refine T_val rfl (Val.load rfl (fun hg=>rdOld hat)) rfl rfl rfl ?_|refine T_valC rfl (Val.load rfl (fun hg=>rdOld hat)) rfl rfl rfl rfl rfl ?_)|(show T _ (.run _ _ (_::_) _ _::_) _ _ _;first|refine rv rfl rfl rfl (Val.load rfl (fun hg=>rdOld hat)) rfl rfl rfl ?_|refine rg rfl rfl rfl (Val.load rfl (fun hg=>rdOld hat)) rfl rfl rfl rfl rfl ?_)|(show ∀ _:Nat,T _ _ _ _ _;intro _))
  refine T_if rfl (fun h2=>?_) (fun h2=>?_)
  ·simp only [decide_eq_true_eq] at h2
   repeat' (first|refine d1 ?_|(show ∀ _:Nat,T _ _ _ _ _;intro _)|(show T _ (.code .ret::_) _ _ _;refine T_retV [] rfl (Hle.none _) ⟨congrArg Value.bool ?_,rfl⟩))
   symm
   unfold gr35
   rw [Bool.or_eq_true,List.any_eq_true]
   exact .inr ⟨g,List.mem_of_getElem? hgk,decide_eq_true (by omega)⟩
  ·simp only [decide_eq_false_iff_not] at h2
   repeat' (first|refine d1 ?_|(show ∀ _:Nat,T _ _ _ _ _;intro _))
   refine T_backX (k+1) ⟨by omega,fun y hy=>?_⟩ (by omega)
   rw [take_snoc _ _ _ hgk] at hy
   rcases List.mem_append.1 hy with hy|hy
   ·exact hok y hy
   ·rw [List.mem_singleton] at hy
    subst hy
    omega
 ·simp only [decide_eq_false_iff_not] at h1
  rw [List.take_of_length_le (by omega)] at hok
  repeat' (first|refine d1 ?_|(show ∀ _:Nat,T _ _ _ _ _;intro _)|(show T _ (.code .ret::_) _ _ _;refine T_retV [] rfl (Hle.none _) ⟨congrArg Value.bool ?_,rfl⟩))
  symm
  unfold gr35
  rw [h,Bool.false_or,List.any_eq_false]
  intro g hgm
  have:=hok g hgm
  simp only [decide_eq_true_eq]
  omega
def grpD (g:Int × Int × List Int):List D:=[.v (.int .i64 g.1), .v (.int .i64 g.2.1),intsD g.2.2]
def grpsD (m:List (Int × Int × List Int)):D := .s 3 (m.flatMap grpD)
theorem flat_lenT {α:Type} (f:α→List Value) (k:Nat) (h:∀ x,(f x).length=k) (l:List α):(l.flatMap f).length=l.length * k:=by
 induction l with
 | nil=>simp
 | cons x l ih=>rw [List.flatMap_cons,List.length_append,h,ih,List.length_cons,Nat.succ_mul,Nat.add_comm]
theorem Rd.grpL {w:World}:∀ {m:List (Int × Int × List Int)} {cs:List Value},Rd (wr w) cs (m.flatMap grpD)→∃ gs:List GrE,gs.map (fun g=>(g.u,g.st,g.x.l))=m∧cs=gs.flatMap GrE.cells∧∀ g∈gs,Src w 1 g.x.A g.x.n (g.x.l.map (Value.int .i64))∧g.x.l.length=g.x.n∧g.x.n≤9223372036854775807
 | [],cs,h=>by
  have:=h.length
  obtain rfl:cs=[]:=List.eq_nil_of_length_eq_zero this
  exact⟨[],rfl,rfl,fun g hg=>by cases hg⟩
 | g::m,cs,h=>by
  obtain⟨ws,us,rfl,h1,h2⟩:=Rd.split (ds:=grpD g) (es:=m.flatMap grpD) h
  obtain⟨gs,e1,rfl,e3⟩:=Rd.grpL h2
  obtain⟨z0,z1,z2,e⟩:∃ z0 z1 z2,ws=[z0,z1,z2]:=by
   have hl:=h1.length
   match ws,hl with
   | [a,b,c],_=>exact⟨a,b,c,rfl⟩
  subst e
  obtain⟨k0,h3⟩:=Rd.cons_inv (d := .v (.int .i64 g.1)) h1
  obtain⟨k1,k2⟩:=Rd.cons_inv (d := .v (.int .i64 g.2.1)) h3
  have q0:=k0.val
  have q1:=k1.val
  obtain⟨A,c,q2,g1,g2,-⟩:=Rd.row1 (r:=g.2.2) k2
  subst q0 q1 q2
  refine ⟨⟨g.1,g.2.1,⟨A,g.2.2.length,c,g.2.2⟩⟩::gs,by rw [List.map_cons,e1],rfl,fun y hy=>?_⟩
  rcases List.mem_cons.1 hy with rfl|hy
  ·exact⟨Rd.intsAt (p:=g.2.2) k2,rfl,by dsimp only;omega⟩
  ·exact e3 y hy
theorem Rd.grps {w:World} {v:Value} {m:List (Int × Int × List Int)} (h:Rd (wr w) [v] [grpsD m]):∃ (A:Option Addr) (c:Nat) (gs:List GrE),gs.map (fun g=>(g.u,g.st,g.x.l))=m∧v = .slice A gs.length c∧gs.length≤c∧GrS w A gs.length gs:=by
 obtain⟨A,n,c,cs,rfl,h1,h2,h3,h4,h5⟩:=h.src
 obtain⟨gs,e1,rfl,e3⟩:=Rd.grpL h5
 have hl:gs.length=n:=by
  have h6:=h4.1
  rw [flat_lenT (fun g:GrE=>g.cells) 3 (fun _=>rfl)] at h6
  omega
 subst hl
 exact⟨A,c,gs,e1,rfl,h2,h4,rfl,by omega,e3⟩
def nm35:List ByteArray:=[⟨#[65]⟩,⟨#[66]⟩,⟨#[67]⟩,⟨#[68]⟩,⟨#[69]⟩,⟨#[70]⟩,⟨#[71]⟩,⟨#[72]⟩]
theorem names35_spec (w:World):Spec Tryz.prog 30 [.int .i64 8] w (fun v R=>∃ x:Option Addr × Nat,True∧v = .slice x.1 8 x.2∧R=[row 9 1 x.1 x.2 8 (nm35.map Value.string)]):=by
 refine spec_of sg Tryz.func30 rfl rfl rfl ?_
 repeat' (first|refine d1 ?_|(show ∀ _:Nat,T _ _ _ _ _;intro _))
 refine T_nilrow 9 1 ?_
 refine T_loopX (fun s:Nat × Option Addr × Nat=>[(6, .int .i64 (s.1:Nat)),(3, .slice s.2.1 s.1 s.2.2)]) (fun s=>[row 9 1 s.2.1 s.2.2 s.1 ((nm35.take s.1).map Value.string)]) (fun s=>s.1≤8) (fun s=>8 - s.1) (0,none,0) (Nat.zero_le _) ?_
 rintro⟨k,A,c⟩ hk
 dsimp only at hk ⊢
 repeat' (first|refine d1 ?_|(show ∀ _:Nat,T _ _ _ _ _;intro _))
 refine T_if rfl (fun h=>?_) (fun h=>?_)
 ·simp only [decide_eq_true_eq] at h
  repeat' (first|refine d1 ?_|(show ∀ _:Nat,T _ _ _ _ _;intro _))
  rename_i z1
  have hk8:nm35[k]?=some ⟨([UInt8.ofNat (65+k)]:List UInt8).toArray⟩:=(show ∀ k:Fin 8,nm35[k.val]?=some ⟨([UInt8.ofNat (65+k.val)]:List UInt8).toArray⟩ by decide +kernel) ⟨k,by omega⟩
  have hu8:(UInt8.ofNat (65+k)).toNat=65+k:=by
   rw [UInt8.toNat_ofNat']
   exact Nat.mod_eq_of_lt (by omega)
  refine T_le (H':=[blk z1 (([UInt8.ofNat (65+k)]:List UInt8).map fun c=>Value.int .u8 ((c.toNat:Nat):Int)) 5,row 9 1 A c k ((nm35.take k).map Value.string)]) (by rw [List.map_singleton,hu8];exact Hle.refl _) ?_
  have hnl:(nm35.take k).length=k:=by rw [List.length_take];show min k 8=k;omega
  repeat' (first|refine d1 ?_|(show T _ (.ops _ (_::_)::_) _ _ _;first|refine T_val rfl (Val.str (bs:=[UInt8.ofNat (65+k)]) rfl (fun w hw=>Src.own hw rfl)) rfl rfl rfl ?_|refine T_valC rfl (Val.str (bs:=[UInt8.ofNat (65+k)]) rfl (fun w hw=>Src.own hw rfl)) rfl rfl rfl rfl rfl ?_|refine T_op (OpT.append (A:=A) rfl rfl rfl rfl rfl rfl rfl rfl rfl rfl (fun w hw=>Src.own hw rfl) rfl (by dsimp only;omega) (by omega) (fun A9 c9 hA9=>?_)))|(show T _ (.run _ _ (_::_) _ _::_) _ _ _;first|refine rv rfl rfl rfl (Val.str (bs:=[UInt8.ofNat (65+k)]) rfl (fun w hw=>Src.own hw rfl)) rfl rfl rfl ?_|refine rg rfl rfl rfl (Val.str (bs:=[UInt8.ofNat (65+k)]) rfl (fun w hw=>Src.own hw rfl)) rfl rfl rfl rfl rfl ?_)|(show ∀ _:Nat,T _ _ _ _ _;intro _))
  refine T_backX (k+1,A9,c9) (by dsimp only;omega) (by dsimp only;omega) (hG:=?_)
  dsimp only
  rw [take_snoc _ _ _ hk8,List.map_append]
  exact (Hle.tail _ _).trans (Hle.tail _ _)
 ·simp only [decide_eq_false_iff_not] at h
  obtain rfl:k=8:=by omega
  repeat' (first|refine d1 ?_|(show ∀ _:Nat,T _ _ _ _ _;intro _)|(show T _ (.code .ret::_) _ _ _;refine T_retV _ rfl (Hle.refl _) ⟨(A,c),trivial,rfl,rfl⟩))
end Go.Proofs.YtabhdaehomjlgaaGreat
namespace Go.Proofs.YtabhdaehomjlgaaGreat
open Go.RowKit Go.Shelf Go.ChangeShapes Go.WideShapes Go.Proofs
set_option maxRecDepth 100000

theorem group_wtT {f:Nat} {ds:List D} (h:wt sg (f+3) 105 ds):∃ g:Int × Int × List Int,ds=grpD g:=by
 obtain⟨a0,b0,rfl,h0,a1,b1,rfl,h1,a2,b2,rfl,h2,rfl⟩:=(show wtL (wt sg (f+2)) [(3,0),(3,1),(24,2)] ds from h)
 obtain⟨u,rfl,_⟩:=(show ∃ z,a0=[D.v (.int .i64 z)]∧(Lit.int .i64 z).wf=true from h0)
 obtain⟨st,rfl,_⟩:=(show ∃ z,a1=[D.v (.int .i64 z)]∧(Lit.int .i64 z).wf=true from h1)
 obtain⟨l,rfl⟩:=ints_wtT h2
 exact⟨(u,st,l),rfl⟩
theorem groups_wtT {f:Nat} {ds:List D} (h:wt sg (f+4) 56 ds):∃ m:List (Int × Int × List Int),ds=[grpsD m]:=by
 obtain⟨l,n,rfl,hl,_,hi⟩:=(show ∃ l n,ds=[.s 3 l]∧l.length=n * 3∧n≤maxLen∧∀ i,i<n→wt sg (f+3) 105 ((l.drop (i * 3)).take 3) from h)
 obtain⟨ts,e1,e2⟩:=chunksDT grpD 3 n l hl fun i hin=>group_wtT (hi i hin)
 subst e2
 exact⟨ts,rfl⟩
section
variable {H:Type} {enc:TypeId × Value→H} {W:World} {base b0:Nat} {sp:Nat→Bool} {held:Bool} {r:Reach} {v:Value} {d:DataW H} {ps:List MemPlace}
theorem arg_groupsT (hv:Value.okWide Tryz.prog W r b0 56 v) (h:DataW.Trod enc Tryz.prog W base sp held 56 v d ps):∃ m:List (Int × Int × List Int),Rd (wr W) [v] [grpsD m]:=by
 obtain⟨fuel,hf⟩:=h
 obtain⟨ds,h1,h2⟩:=trod_wt (S:=sg) 9 rfl hf
 obtain⟨m,rfl⟩:=groups_wtT h2
 have hc:v.cells.toList=[v]:=by
  cases v <;> first|rfl|(exfalso;unfold Value.okWide at hv;simp [Tryz.underlying56] at hv;unfold Cell.okWide at hv;simp [Tryz.underlying56] at hv;unfold Cell.ok at hv;simp [Tryz.underlying56] at hv)
 rw [hc] at h1
 exact⟨m,h1⟩
end
end Go.Proofs.YtabhdaehomjlgaaGreat
namespace Go.Proofs.YtabhdaehomjlgaaGreat
open Go.RowKit Go.Shelf
set_option maxRecDepth 100000

theorem sing_no (N k:Nat):¬ splOk N (nrmI N [(k:Int)]):=by
 intro hs
 unfold nrmI at hs
 split at hs
 ·rename_i h9
  rw [List.mem_singleton] at h9
  have hk0:k=0:=by omega
  subst hk0
  have hr:=hs.room
  have hN:0<N:=by omega
  have h2:(0:Int)::setI N (fun i=>decide ((i:Int) ∉ [((0:Nat):Int)]))=setI N fun _=>true:=by
   refine asc_uniq (List.pairwise_cons.2 ⟨fun z hz=>?_,setI_asc _ _⟩) (setI_asc _ _) fun z=>?_
   ·obtain⟨j,h3,h4,rfl⟩:=setI_mem.1 hz
    rw [decide_eq_true_eq,List.mem_singleton] at h4
    omega
   ·rw [List.mem_cons,setI_mem,setI_mem]
    constructor
    ·rintro (rfl|⟨j,h3,-,rfl⟩)
     ·exact⟨0,hN,rfl,rfl⟩
     ·exact⟨j,h3,rfl,rfl⟩
    ·rintro⟨j,h3,-,rfl⟩
     by_cases e:j=0
     ·left;omega
     ·right
      exact⟨j,h3,by rw [decide_eq_true_eq,List.mem_singleton];omega,rfl⟩
  have h3:=congrArg List.length h2
  rw [setI_all,List.length_cons] at h3
  omega
 ·have:=hs.two
  exact absurd this (by simp)
theorem flat_nodup_in {α β:Type} {f:α→List β}:∀ {l:List α},(l.flatMap f).Nodup→∀ k∈l,(f k).Nodup
 | x::l,h,k,hk=>by
  rw [List.flatMap_cons,List.nodup_append] at h
  rcases List.mem_cons.1 hk with rfl|hk
  ·exact h.1
  ·exact flat_nodup_in h.2.1 k hk
theorem flat_nodup_ne {α β:Type} {f:α→List β}:∀ {l:List α},(l.flatMap f).Nodup→∀ {k1 k2:α},k1∈l→k2∈l→k1≠k2→∀ {b:β},b∈f k1→b ∉ f k2
 | x::l,h,k1,k2,h1,h2,hne,b,hb=>by
  rw [List.flatMap_cons,List.nodup_append] at h
  intro hb2
  rcases List.mem_cons.1 h1 with e1|h1
  ·rcases List.mem_cons.1 h2 with e2|h2
   ·exact hne (e1.trans e2.symm)
   ·exact h.2.2 b (e1 ▸ hb) b (List.mem_flatMap.2 ⟨k2,h2,hb2⟩) rfl
  ·rcases List.mem_cons.1 h2 with e2|h2
   ·exact h.2.2 b (e2 ▸ hb2) b (List.mem_flatMap.2 ⟨k1,h1,hb⟩) rfl
   ·exact flat_nodup_ne h.2.1 h1 h2 hne hb hb2
theorem sbt_nms:∀ (x y:Nd),y∈sbt x→∀ b∈nmsN y,b∈nmsN x:=by
 intro x
 induction x using nd_ind2 with
 | h a o ks ih =>
 intro y hy b hb
 rw [sbt_mk] at hy
 rcases List.mem_cons.1 hy with rfl|hy
 ·exact hb
 obtain⟨k,hk,hy1⟩:=List.mem_flatMap.1 hy
 have hne:ks≠[]:=fun e=>by rw [e] at hk;cases hk
 rw [nmsN_node hne]
 exact List.mem_flatMap.2 ⟨k,hk,ih k hk y hy1 b hb⟩
theorem sbt_lam:∀ x:Nd,(nmsN x).Nodup→∀ y∈sbt x,∀ z∈sbt x,(∀ a∈nmsN y,a∈nmsN z)∨(∀ a∈nmsN z,a∈nmsN y)∨∀ a∈nmsN y,a ∉ nmsN z:=by
 intro x
 induction x using nd_ind2 with
 | h a o ks ih =>
 intro hnd y hy z hz
 have hsub:∀ y∈sbt (.mk a o ks),∀ b∈nmsN y,b∈nmsN (.mk a o ks):=fun y hy=>sbt_nms _ y hy
 rw [sbt_mk] at hy hz
 rcases List.mem_cons.1 hy with rfl|hy
 ·exact .inr (.inl fun b hb=>hsub z (by rw [sbt_mk];exact hz) b hb)
 rcases List.mem_cons.1 hz with rfl|hz
 ·exact .inl fun b hb=>hsub y (by rw [sbt_mk];exact List.mem_cons_of_mem _ hy) b hb
 obtain⟨k1,hk1,hy1⟩:=List.mem_flatMap.1 hy
 obtain⟨k2,hk2,hz1⟩:=List.mem_flatMap.1 hz
 have hne:ks≠[]:=fun e=>by rw [e] at hk1;cases hk1
 rw [nmsN_node hne] at hnd
 have hin:∀ k∈ks,(nmsN k).Nodup:=fun k hk=>flat_nodup_in hnd k hk
 by_cases e:k1=k2
 ·subst e
  exact ih k1 hk1 (hin k1 hk1) y hy1 z hz1
 ·right;right
  intro b hb hb2
  exact flat_nodup_ne hnd hk1 hk2 e (sbt_nms k1 y hy1 b hb) (sbt_nms k2 z hz1 b hb2)
theorem ndT_in {ps:List Int} {ns:List ByteArray} (h:tOk ps ns) {i:Nat} (hi:i<ps.length):ndT ps ns i∈sbt (ndOf ps ns):=by
 refine (sbt_ndT h.up ps.length 0 (Nat.le_refl _) _).2 ⟨i,?_,rfl⟩
 rw [pstT_eq h.up]
 exact (belT_perm h.up h.pos).mem_iff.2 (List.mem_range.2 hi)
theorem plS_has {names:List ByteArray} {x:Nd} {b:Nat}:(mskL (plS names x)).testBit b=true↔b<names.length∧names.getD b ByteArray.empty∈nmsN x:=by
 rw [mskL_has (l:=plS names x) (fun z hz=>(setI_lo (n:=names.length) (p:=fun k=>has22 (nmsN x) (names.getD k ByteArray.empty)) hz).1),decide_eq_true_eq]
 unfold plS
 rw [setI_has,has22_iff]
theorem node_noc {ps:List Int} {ns:List ByteArray} (h:tOk ps ns) (names:List ByteArray) {i j:Nat} (hi:i<ps.length) (hj:j<ps.length):cflB (mskL (plS names (ndT ps ns i))) (mskL (plS names (ndT ps ns j)))=false:=by
 rw [cflB_false]
 rcases sbt_lam _ (nms_nodup h) _ (ndT_in h hi) _ (ndT_in h hj) with h1|h1|h1
 ·right;left
  exact inB_iff.2 fun b hb=>plS_has.2 ⟨(plS_has.1 hb).1,h1 _ (plS_has.1 hb).2⟩
 ·right;right
  exact inB_iff.2 fun b hb=>plS_has.2 ⟨(plS_has.1 hb).1,h1 _ (plS_has.1 hb).2⟩
 ·left
  exact and_zero.2 fun b ⟨h2,h3⟩=>h1 _ (plS_has.1 h2).2 (plS_has.1 h3).2
theorem cons_noc {ps:List Int} {ns:List ByteArray} (h:tOk ps ns) {names:List ByteArray} {gs:List GrE} (hc:∀ g∈gs,∃ i,i<ps.length∧plS names (ndT ps ns i)=g.x.l):nocL (lsG gs):=by
 unfold nocL lsG
 intro l hl m hm
 obtain⟨g,hg,rfl⟩:=List.mem_map.1 hl
 obtain⟨g',hg',rfl⟩:=List.mem_map.1 hm
 obtain⟨i,hi,e1⟩:=hc g hg
 obtain⟨j,hj,e2⟩:=hc g' hg'
 rw [← e1, ← e2]
 exact node_noc h names hi hj
theorem far_lt {gs:List GrE} {n N:Nat} (hgo:grsOk gs n) (hfar:farG gs N=false):∀ g∈gs,∀ z∈g.x.l,0≤z∧z<(N:Int):=fun g hgm z hz=>by
 have h8:=(hgo.2 g hgm).src.bd z hz
 have h9:=hfar
 unfold farG at h9
 rw [List.any_eq_false] at h9
 have h10:=h9 g hgm
 rw [Bool.not_eq_true,List.any_eq_false] at h10
 have:=h10 z hz
 simp only [decide_eq_true_eq] at this
 omega
structure ownF (names:List ByteArray) (gs:List GrE):Prop where
 lam:lamB (innL (2 ^ names.length - 1) (lsG gs))
 ne:∀ y∈innL (2 ^ names.length - 1) (lsG gs),y≠0
 nms:(nmsN (ownT names gs)).Perm names
 cnt:cntN (ownT names gs)+1≤2 * names.length
 ok:tOk (ownP names gs) (ownN names gs)
theorem own_facts {names:List ByteArray} {gs:List GrE} {n:Nat} (h2:2≤names.length) (h12:names.length≤12) (hsg:∀ a∈names,siglum22 a=true) (hnd:names.Nodup) (hgo:grsOk gs n) (hfar:farG gs names.length=false) (hno:nocL (lsG gs)):ownF names gs:=by
 have hP4:2 ^ 2≤2 ^ names.length:=Nat.pow_le_pow_right (by decide) h2
 have hIm:∀ y∈innL (2 ^ names.length - 1) (lsG gs),∃ g∈gs,y=mskL g.x.l∧1<g.x.l.length∧y≠2 ^ names.length - 1:=fun y hy=>by
  obtain⟨l,hl1,hl2⟩:=(innL_mem _).1 hy
  obtain⟨g,hg1,rfl⟩:=List.mem_map.1 hl1
  exact⟨g,hg1,hl2⟩
 have hgN:=far_lt hgo hfar
 have hlam:=innL_lam (all:=2 ^ names.length - 1) hno
 have hI2:∀ y∈innL (2 ^ names.length - 1) (lsG gs),2≤(bitsN names.length y).length:=fun y hy=>by
  obtain⟨g,hgm,rfl,h8,-⟩:=hIm y hy
  rw [← (List.length_map (fun (i:Nat)=>(i:Int))), ← bitsI_N,bitsI_N,List.length_map,msk_bits_len (hgo.2 g hgm).src.asc (hgN g hgm)]
  omega
 have hI0:∀ y∈innL (2 ^ names.length - 1) (lsG gs),y≠0:=fun y hy e=>by
  have:=hI2 y hy
  rw [e] at this
  have e0:bitsN names.length 0=[]:=List.filter_eq_nil_iff.2 fun i _=>by simp
  rw [e0] at this
  exact absurd this (by decide)
 have hall:bitsN names.length (2 ^ names.length - 1)=List.range names.length:=by
  unfold bitsN
  rw [List.filter_eq_self]
  intro i hi
  rw [Nat.testBit_two_pow_sub_one]
  rw [List.mem_range] at hi
  exact decide_eq_true hi
 have hcnt:=grT_cnt (names:=names) hlam hI2 (2 ^ names.length) (2 ^ names.length - 1) (by omega) (by omega) (by rw [hall,List.length_range];exact h2)
 rw [hall,List.length_range] at hcnt
 have hnp:=grT_nms (names:=names) hlam hI0 (2 ^ names.length) (2 ^ names.length - 1) (by omega) (by omega) (by omega)
 rw [hall,map_range_getD] at hnp
 have hinn9:=grT_inn (names:=names) (inner:=innL (2 ^ names.length - 1) (lsG gs)) (2 ^ names.length) (2 ^ names.length - 1)
 exact⟨hlam,hI0,hnp,hcnt,tOk_back (by unfold ownT at *;omega) hinn9 (fun a ha=>hsg a (hnp.mem_iff.1 ha)) (hnp.nodup_iff.2 hnd)⟩
theorem plS_root {ps:List Int} {ns names:List ByteArray} (h:tOk ps ns) (hnm:(nmsN (ndOf ps ns)).Perm names):mskL (plS names (ndT ps ns 0))=2 ^ names.length - 1:=by
 refine Nat.eq_of_testBit_eq fun b=>?_
 rw [Nat.testBit_two_pow_sub_one,Bool.eq_iff_iff,plS_has,decide_eq_true_eq]
 constructor
 ·exact fun h=>h.1
 ·intro hb
  refine ⟨hb,?_⟩
  refine hnm.mem_iff.2 ?_
  rw [List.getD_eq_getElem?_getD,List.getElem?_eq_getElem hb]
  exact List.getElem_mem hb
theorem nms_cn {ps:List Int} {ns:List ByteArray}:(nmsN (ndOf (cps ps ns) (cns ps ns))).Perm (nmsN (ndOf ps ns)):=by
 unfold cps cns
 rw [← noO_nms,ndOf_back,noO_nms]
 exact srtN_nms _
theorem nms_own {names:List ByteArray} {gs:List GrE} (h:ownF names gs):(nmsN (ndOf (cps (ownP names gs) (ownN names gs)) (cns (ownP names gs) (ownN names gs)))).Perm names:=by
 refine nms_cn.trans ?_
 unfold ownP ownN
 rw [← noO_nms,ndOf_back,noO_nms]
 exact h.nms
theorem leaf_own {names:List ByteArray} {gs:List GrE} (h:ownF names gs):((lfI (cns (ownP names gs) (ownN names gs))).map fun i=>(cns (ownP names gs) (ownN names gs)).getD i ByteArray.empty).Perm names :=
 (nms_ndOf (cnT_ok h.ok)).symm.trans (nms_own h)
theorem cons_splits {names:List ByteArray} {gs:List GrE} {n:Nat} (hnd:names.Nodup) (hgo:grsOk gs n) (hfar:farG gs names.length=false) (ho:ownF names gs) {P1:List Int} {N1:List ByteArray} (h1:tOk P1 N1) (hnm:(nmsN (ndOf P1 N1)).Perm names)
  (hc:∀ g∈gs,∃ i,i<P1.length∧plS names (ndT P1 N1 i)=g.x.l) {L0 L1:List (List Int)} (hL0:ofOk (cps (ownP names gs) (ownN names gs)) (cns (ownP names gs) (ownN names gs)) names L0) (hL1:ofOk P1 N1 names L1):∀ s∈L0,s∈L1:=by
 intro s hs
 have hck:=cnT_ok ho.ok
 obtain⟨hsp,t,ht,rfl⟩:=(ofOk_sets hL0 hck.up hck.pos s).1 hs
 rw [setsN_cn,setsN_back] at ht
 rcases grT_sets ho.lam ho.ne hnd _ _ (by have:=Nat.two_pow_pos names.length;omega) (by have:=Nat.two_pow_pos names.length;omega) t ht with⟨y,hy,rfl⟩|⟨k,rfl⟩
 ·obtain⟨l,hl,rfl,h3,h4⟩:=(innL_mem _).1 hy
  obtain⟨g,hg,rfl⟩:=List.mem_map.1 hl
  have hsrc:=(hgo.2 g hg).src
  rw [bits_mskL hsrc.asc (far_lt hgo hfar g hg)] at hsp ⊢
  obtain⟨i,hi,e⟩:=hc g hg
  refine (hL1.mem _).2 ⟨hsp,i,?_,hi,by rw [e]⟩
  rcases Nat.eq_zero_or_pos i with h0|h0
  ·subst h0
   exact absurd (by rw [← e];exact plS_root h1 hnm) h4
  ·exact h0
 ·exact absurd hsp (sing_no _ _)
end Go.Proofs.YtabhdaehomjlgaaGreat
namespace Go.Proofs.YtabhdaehomjlgaaGreat
open Go.RowKit Go.Shelf Go.Proofs
set_option maxRecDepth 100000
set_option maxHeartbeats 4000000

theorem nd35:nm35.Nodup:=by decide +kernel
theorem sg35:∀ a∈nm35,siglum22 a=true:=by
 have:nm35.all siglum22=true:=by decide +kernel
 exact List.all_eq_true.1 this
theorem sz35:∀ a∈nm35,a.size≤1000000:=fun a ha=>by have:=siglum_size (sg35 a ha);omega
theorem errC_spec (b17:Nat) (x y:Value) (p q:List Int) (w:World) (h:RdC w b17 0 [y]) (hx:Rd (wr w) [x] [intsD p]) (hy:Rd (wr w) [y] [intsD q]) :
  Spec Tryz.prog 33 [x, .pointer (some ⟨b17,0,none⟩)] w (fun v R=>v = .bool (decide (p=q))∧R=[]):=by
 refine spec_of sg Tryz.func33 rfl rfl rfl ?_
 repeat' (first|refine d1 ?_|(show T _ (.ops _ (_::_)::_) _ _ _;first|refine T_val rfl (Val.load rfl (fun hg=>rdOld h)) rfl rfl rfl ?_|refine T_valC rfl (Val.load rfl (fun hg=>rdOld h)) rfl rfl rfl rfl rfl ?_|refine T_call rfl rfl rfl rfl rfl (fun w hw=>equalI_spec x y p q w (hx.old hw) (hy.old hw)) ?_|refine T_callC rfl rfl rfl rfl rfl rfl rfl (fun hg w hw=>equalI_spec x y p q w (hx.old hw) (hy.old hw)) ?_)|(show T _ (.run _ _ (_::_) _ _::_) _ _ _;first|refine rv rfl rfl rfl (Val.load rfl (fun hg=>rdOld h)) rfl rfl rfl ?_|refine rg rfl rfl rfl (Val.load rfl (fun hg=>rdOld h)) rfl rfl rfl rfl rfl ?_|refine rc rfl rfl rfl rfl rfl rfl rfl (fun w hw=>equalI_spec x y p q w (hx.old hw) (hy.old hw)) ?_|refine rcG rfl rfl rfl rfl rfl rfl rfl rfl rfl (fun hg w hw=>equalI_spec x y p q w (hx.old hw) (hy.old hw)) ?_)|(show ∀ _:Nat,T _ _ _ _ _;intro _)|(show T _ (.code .ret::_) _ _ _;refine T_retV [] rfl (Hle.none _) ⟨rfl,rfl⟩))
theorem rdAtM {R:Rdr} {cs:List Value} {m:List (List Int)} (h:Rd R cs (m.map intsD)) {i:Nat} {x:Value} (hx:cs[i]?=some x):Rd R [x] [intsD (m.getD i [])]:=by
 have hl:=h.length
 rw [List.length_map] at hl
 have hi:=(List.getElem?_eq_some_iff.1 hx).1
 obtain⟨y,hy,hr⟩:=h.get (i:=i) (d:=intsD (m.getD i [])) (by rw [List.getElem?_map,List.getD_eq_getElem?_getD,List.getElem?_eq_getElem (by omega)];rfl)
 rw [hx] at hy
 cases hy
 exact hr
theorem topErrors_walk (A0 A1:Option Addr) (n0 c0 n1 c1:Nat) (gs0 gs1:List GrE) (w:World) (h0:GrS w A0 n0 gs0) (h1:GrS w A1 n1 gs1)
  (haw:∀ w',Spec Tryz.prog 29 [] w' (fun v R=>v = .bool true∧R=[])) :
  Spec Tryz.prog 5 [.slice A0 n0 c0, .slice A1 n1 c1] w (fun v R=>v = .bool true∧R=[]):=by
 have hl0:=h0.len
 have hl1:=h1.len
 have hb0:=h0.nb
 have hb1:=h1.nb
 refine spec_of sg Tryz.func5 rfl rfl rfl ?_
 repeat' (first|refine d1 ?_|(show T _ (.ops _ (_::_)::_) _ _ _;first|refine T_call rfl rfl rfl rfl rfl (fun w hw=>great35_spec A0 n0 c0 gs0 w (h0.cls hw)) ?_|refine T_callC rfl rfl rfl rfl rfl rfl rfl (fun hg w hw=>great35_spec A0 n0 c0 gs0 w (h0.cls hw)) ?_|refine T_call rfl rfl rfl rfl rfl (fun w hw=>great35_spec A1 n1 c1 gs1 w (h1.cls hw)) ?_|refine T_callC rfl rfl rfl rfl rfl rfl rfl (fun hg w hw=>great35_spec A1 n1 c1 gs1 w (h1.cls hw)) ?_)|(show T _ (.run _ _ (_::_) _ _::_) _ _ _;first|refine rc rfl rfl rfl rfl rfl rfl rfl (fun w hw=>great35_spec A0 n0 c0 gs0 w (h0.cls hw)) ?_|refine rcG rfl rfl rfl rfl rfl rfl rfl rfl rfl (fun hg w hw=>great35_spec A0 n0 c0 gs0 w (h0.cls hw)) ?_|refine rc rfl rfl rfl rfl rfl rfl rfl (fun w hw=>great35_spec A1 n1 c1 gs1 w (h1.cls hw)) ?_|refine rcG rfl rfl rfl rfl rfl rfl rfl rfl rfl (fun hg w hw=>great35_spec A1 n1 c1 gs1 w (h1.cls hw)) ?_)|(show ∀ _:Nat,T _ _ _ _ _;intro _))
 refine T_if rfl (fun h=>?_) (fun h=>?_)
 ·repeat' (first|refine d1 ?_|(show T _ (.ops _ (_::_)::_) _ _ _;first|refine T_call rfl rfl rfl rfl rfl (fun w hw=>haw w) ?_|refine T_callC rfl rfl rfl rfl rfl rfl rfl (fun hg w hw=>haw w) ?_)|(show T _ (.run _ _ (_::_) _ _::_) _ _ _;first|refine rc rfl rfl rfl rfl rfl rfl rfl (fun w hw=>haw w) ?_|refine rcG rfl rfl rfl rfl rfl rfl rfl rfl rfl (fun hg w hw=>haw w) ?_)|(show ∀ _:Nat,T _ _ _ _ _;intro _)|(show T _ (.code .ret::_) _ _ _;refine T_retV [] rfl (Hle.none _) ⟨rfl,rfl⟩))
 simp only [Bool.or_eq_false_iff,decide_eq_false_iff_not] at h
 have hg0:=h0.gr (by omega) (fun g hg=>by have:=gr35_no h.1.2 g hg;omega)
 have hg1:=h1.gr (by omega) (fun g hg=>by have:=gr35_no h.2 g hg;omega)
 repeat' (first|refine d1 ?_|(show ∀ _:Nat,T _ _ _ _ _;intro _))
 refine T_op (OpT.call rfl rfl rfl rfl rfl (fun w hw=>names35_spec w) ?_)
 rintro u R ⟨⟨An,cn⟩,-,rfl,rfl⟩
 dsimp only
 rw [List.cons_append,List.nil_append]
 refine T_rowCap fun hcap=>?_
 repeat' (first|refine d1 ?_|(show ∀ _:Nat,T _ _ _ _ _;intro _))
 refine T_op (OpT.call rfl rfl rfl rfl rfl (fun w hw=>treeSE_spec An A1 8 cn n1 c1 nm35 gs1 w (srcRw w hw) rfl (by decide) (by decide) hcap.1 sg35 nd35 sz35 (hg1.cls hw)) ?_)
 rintro u R (⟨e,he,-,rfl,rfl⟩|⟨hgo1,hfar1,hno1,⟨⟨B1,d1'⟩,⟨B2,d2'⟩⟩,⟨hc1,hc2⟩,rfl,rfl⟩)
 ·repeat' (first|refine d1 ?_|(show ∀ _:Nat,T _ _ _ _ _;intro _))
  refine T_if rfl (fun _=>?_) (fun h3=>by exfalso;simp at h3;omega)
  repeat' (first|refine d1 ?_|(show T _ (.ops _ (_::_)::_) _ _ _;first|refine T_call rfl rfl rfl rfl rfl (fun w hw=>haw w) ?_|refine T_callC rfl rfl rfl rfl rfl rfl rfl (fun hg w hw=>haw w) ?_)|(show T _ (.run _ _ (_::_) _ _::_) _ _ _;first|refine rc rfl rfl rfl rfl rfl rfl rfl (fun w hw=>haw w) ?_|refine rcG rfl rfl rfl rfl rfl rfl rfl rfl rfl (fun hg w hw=>haw w) ?_)|(show ∀ _:Nat,T _ _ _ _ _;intro _)|(show T _ (.code .ret::_) _ _ _;refine T_retV [] rfl (Hle.none _) ⟨rfl,rfl⟩))
 dsimp only at hc1 hc2 ⊢
 have ho1:=own_facts (names:=nm35) (by decide) (by decide) sg35 nd35 hgo1 hfar1 hno1
 have hk1:=cnT_ok ho1.ok
 have lf1:=leaf_own ho1
 have nm1:=nms_own ho1
 have hpl1:=cps_len ho1.ok
 have hnl1:=cns_len ho1.ok
 have hcn1:=ho1.cnt
 rw [← prsN_len (ownT nm35 gs1) (-1) 0] at hcn1
 rw [show nm35.length=8 from rfl] at hcn1
 rw [show prsN (-1) 0 (ownT nm35 gs1)=ownP nm35 gs1 from rfl] at hcn1
 generalize (ownP nm35 gs1).length=m1 at hpl1 hnl1 hcn1 hc1 hc2 ⊢
 generalize cps (ownP nm35 gs1) (ownN nm35 gs1)=P1 at hpl1 hnl1 lf1 nm1 hk1 ⊢
 generalize cns (ownP nm35 gs1) (ownN nm35 gs1)=N1 at hpl1 hnl1 lf1 nm1 hk1 ⊢
 refine T_le (H':=[row 3 1 B1 d1' m1 (P1.map (Value.int .i64)),row 9 1 B2 d2' m1 (N1.map Value.string),row 9 1 An cn 8 (nm35.map Value.string)]) (Hle.refl _) ?_
 repeat' (first|refine d1 ?_|(show ∀ _:Nat,T _ _ _ _ _;intro _))
 refine T_if rfl (fun h=>by exfalso;simp at h) (fun hz5=>?_)
 rename_i t6
 repeat' (first|refine d1 ?_|(show ∀ _:Nat,T _ _ _ _ _;intro _))
 refine T_op (OpT.call rfl rfl rfl rfl rfl (fun w hw=>consistent_spec B1 B2 An A0 m1 d1' m1 d2' 8 cn n0 c0 P1 N1 nm35 gs0 w ⟨srcRw w hw,srcRw w hw,hpl1,hnl1,hc1,hc2,by omega,by omega,hk1.sizes⟩ hk1 (srcRw w hw) rfl (by decide) nd35 lf1 (hg0.cls hw)) ?_)
 rintro u R ⟨e,Bc,m,d,hcons,rfl,rfl⟩
 rw [List.nil_append]
 repeat' (first|refine d1 ?_|(show ∀ _:Nat,T _ _ _ _ _;intro _))
 refine T_if rfl (fun _=>?_) (fun h3=>?_)
 ·repeat' (first|refine d1 ?_|(show T _ (.ops _ (_::_)::_) _ _ _;first|refine T_call rfl rfl rfl rfl rfl (fun w hw=>haw w) ?_|refine T_callC rfl rfl rfl rfl rfl rfl rfl (fun hg w hw=>haw w) ?_)|(show T _ (.run _ _ (_::_) _ _::_) _ _ _;first|refine rc rfl rfl rfl rfl rfl rfl rfl (fun w hw=>haw w) ?_|refine rcG rfl rfl rfl rfl rfl rfl rfl rfl rfl (fun hg w hw=>haw w) ?_)|(show ∀ _:Nat,T _ _ _ _ _;intro _)|(show T _ (.code .ret::_) _ _ _;refine T_retV [] rfl (Hle.none _) ⟨rfl,rfl⟩))
 simp only [Bool.not_eq_false',decide_eq_true_eq] at h3
 subst h3
 obtain⟨⟨hgo0,hfar0⟩,hall⟩:=hcons rfl
 repeat' (first|refine d1 ?_|(show ∀ _:Nat,T _ _ _ _ _;intro _))
 refine T_op (OpT.call rfl rfl rfl rfl rfl (fun w hw=>treeSE_spec An A0 8 cn n0 c0 nm35 gs0 w (srcRw w hw) rfl (by decide) (by decide) hcap.1 sg35 nd35 sz35 (hg0.cls hw)) ?_)
 rintro u R (⟨e2,he2,hx2,rfl,rfl⟩|⟨-,-,hno0,⟨⟨C1,f1'⟩,⟨C2,f2'⟩⟩,⟨hc3,hc4⟩,rfl,rfl⟩)
 ·obtain⟨rfl,hx3⟩:=hx2 hgo0 hfar0
  rw [List.nil_append]
  repeat' (first|refine d1 ?_|(show ∀ _:Nat,T _ _ _ _ _;intro _))
  refine T_if rfl (fun _=>?_) (fun h4=>?_)
  ·repeat' (first|refine d1 ?_|(show T _ (.ops _ (_::_)::_) _ _ _;first|refine T_call rfl rfl rfl rfl rfl (fun w hw=>haw w) ?_|refine T_callC rfl rfl rfl rfl rfl rfl rfl (fun hg w hw=>haw w) ?_)|(show T _ (.run _ _ (_::_) _ _::_) _ _ _;first|refine rc rfl rfl rfl rfl rfl rfl rfl (fun w hw=>haw w) ?_|refine rcG rfl rfl rfl rfl rfl rfl rfl rfl rfl (fun hg w hw=>haw w) ?_)|(show ∀ _:Nat,T _ _ _ _ _;intro _)|(show T _ (.code .ret::_) _ _ _;refine T_retV [] rfl (Hle.none _) ⟨rfl,rfl⟩))
  simp only [decide_eq_false_iff_not] at h4
  exact absurd (cons_noc hk1 (hall (by omega))) hx3
 dsimp only at hc3 hc4 ⊢
 have ho0:=own_facts (names:=nm35) (by decide) (by decide) sg35 nd35 hgo0 hfar0 hno0
 have hk0:=cnT_ok ho0.ok
 have lf0:=leaf_own ho0
 have hpl0:=cps_len ho0.ok
 have hnl0:=cns_len ho0.ok
 have hcn0:=ho0.cnt
 rw [← prsN_len (ownT nm35 gs0) (-1) 0] at hcn0
 rw [show nm35.length=8 from rfl] at hcn0
 rw [show prsN (-1) 0 (ownT nm35 gs0)=ownP nm35 gs0 from rfl] at hcn0
 have hsub:=fun L0 L1=>cons_splits nd35 hgo0 hfar0 ho0 hk1 nm1 (L0:=L0) (L1:=L1)
 generalize (ownP nm35 gs0).length=m0 at hpl0 hnl0 hcn0 hc3 hc4 ⊢
 generalize cps (ownP nm35 gs0) (ownN nm35 gs0)=P0 at hpl0 hnl0 lf0 hk0 hsub ⊢
 generalize cns (ownP nm35 gs0) (ownN nm35 gs0)=N0 at hpl0 hnl0 lf0 hk0 hsub ⊢
 repeat' (first|refine d1 ?_|(show ∀ _:Nat,T _ _ _ _ _;intro _))
 refine T_if rfl (fun _=>?_) (fun h4=>?_)
 ·repeat' (first|refine d1 ?_|(show T _ (.ops _ (_::_)::_) _ _ _;first|refine T_call rfl rfl rfl rfl rfl (fun w hw=>haw w) ?_|refine T_callC rfl rfl rfl rfl rfl rfl rfl (fun hg w hw=>haw w) ?_)|(show T _ (.run _ _ (_::_) _ _::_) _ _ _;first|refine rc rfl rfl rfl rfl rfl rfl rfl (fun w hw=>haw w) ?_|refine rcG rfl rfl rfl rfl rfl rfl rfl rfl rfl (fun hg w hw=>haw w) ?_)|(show ∀ _:Nat,T _ _ _ _ _;intro _)|(show T _ (.code .ret::_) _ _ _;refine T_retV [] rfl (Hle.none _) ⟨rfl,rfl⟩))
 simp only [decide_eq_false_iff_not] at h4
 have hcl:=hall (by omega)
 rename_i t10
 repeat' (first|refine d1 ?_|(show ∀ _:Nat,T _ _ _ _ _;intro _))
 refine T_le (H':=[blk t10 [.slice C1 m0 f1', .slice C2 m0 f2'] 30,row 3 1 C1 f1' m0 (P0.map (Value.int .i64)),row 9 1 C2 f2' m0 (N0.map Value.string),blk t6 [.slice B1 m1 d1', .slice B2 m1 d2'] 30,row 3 1 B1 d1' m1 (P1.map (Value.int .i64)),row 9 1 B2 d2' m1 (N1.map Value.string),row 9 1 An cn 8 (nm35.map Value.string)]) (Hle.refl _) ?_
 refine T_op (OpT.call rfl rfl rfl rfl rfl (fun w hw=>splitOf_spec C1 C2 An m0 f1' m0 f2' 8 cn P0 N0 nm35 w ⟨srcRw w hw,srcRw w hw,hpl0,hnl0,hc3,hc4,by omega,by omega,hk0.sizes⟩ hk0 (srcRw w hw) rfl (by decide) nd35 (by have:=lf0.length_eq;rw [List.length_map] at this;exact this) (fun k hk=>lf0.mem_iff.1 (List.mem_map_of_mem hk)) (by omega)) ?_)
 rintro u R ⟨x0,L0,hL0,rfl,rfl⟩
 rw [List.cons_append,List.nil_append]
 repeat' (first|refine d1 ?_|(show ∀ _:Nat,T _ _ _ _ _;intro _))
 refine T_op (OpT.call rfl rfl rfl rfl rfl (fun w hw=>splitOf_spec B1 B2 An m1 d1' m1 d2' 8 cn P1 N1 nm35 w ⟨srcRw w hw,srcRw w hw,hpl1,hnl1,hc1,hc2,by omega,by omega,hk1.sizes⟩ hk1 (srcRw w hw) rfl (by decide) nd35 (by have:=lf1.length_eq;rw [List.length_map] at this;exact this) (fun k hk=>lf1.mem_iff.1 (List.mem_map_of_mem hk)) (by omega)) ?_)
 rintro u R ⟨x1,L1,hL1,rfl,rfl⟩
 rw [List.cons_append,List.nil_append]
 have hin:=hsub L0 L1 hcl hL0 hL1
 refine T_le (H':=dat [x1] [rowsD L1]::dat [x0] [rowsD L0]::[]) (hle_pm [0,1] [_,_,_,_,_,_,_,_,_] []) ?_
 refine T_open fun q1 hq1=>?_
 refine T_le (H':=dat [x0] [rowsD L0]::fz q1::[]) (hle_pm [1,0] [_,_] []) ?_
 refine T_open fun q0 hq0=>?_
 repeat' (first|refine d1 ?_|(show ∀ _:Nat,T _ _ _ _ _;intro _))
 refine T_if rfl (fun h=>by exfalso;revert h;decide) (fun _=>?_)
 obtain⟨A5,n5,c5,cs5,rfl,hm5,hl5,hnc5,hcap5,hat5,hrd5⟩:=hq0.slice
 obtain⟨A7,n7,c7,cs7,rfl,hm7,hl7,hnc7,hcap7,hat7,hrd7⟩:=hq1.slice
 rw [List.length_map,Nat.mul_one] at hm5 hm7
 repeat' (first|refine d1 ?_|(show ∀ _:Nat,T _ _ _ _ _;intro _))
 refine T_loopX (fun k:Nat=>[(92, .int .i64 (k:Nat))]) (fun _=>[fz q0,fz q1]) (fun k=>k≤n5) (fun k=>n5 - k) 0 (Nat.zero_le _) ?_
 rintro k hk
 repeat' (first|refine d1 ?_|(show ∀ _:Nat,T _ _ _ _ _;intro _))
 refine T_if rfl (fun h5=>?_) (fun _=>?_)
 ·simp only [decide_eq_true_eq] at h5
  obtain⟨s,hs⟩:∃ s,L0[k]?=some s:=⟨_,List.getElem?_eq_getElem (by omega)⟩
  obtain⟨u,hu,hru⟩:=hrd5.get (i:=k) (d:=intsD s) (by rw [List.getElem?_map,hs];rfl)
  obtain⟨hi5,hc5⟩:=hat5 (by omega)
  have hcu:=hc5 k u hu
  obtain⟨b5,o5,e5⟩:∃ b o,A5=some ⟨b,o,none⟩:=⟨_,_,hi5⟩
  subst e5
  obtain⟨A6,c6,rfl,-,-,-⟩:=hru.row1
  repeat' (first|refine d1 ?_|(show T _ (.ops _ (_::_)::_) _ _ _;first|refine T_val rfl (Val.load rfl (fun hg=>rdFz (p:=q0) (u := .slice A6 s.length c6) (b:=b5) (by rw [off1];exact hcu))) rfl rfl rfl ?_|refine T_valC rfl (Val.load rfl (fun hg=>rdFz (p:=q0) (u := .slice A6 s.length c6) (b:=b5) (by rw [off1];exact hcu))) rfl rfl rfl rfl rfl ?_)|(show T _ (.run _ _ (_::_) _ _::_) _ _ _;first|refine rv rfl rfl rfl (Val.load rfl (fun hg=>rdFz (p:=q0) (u := .slice A6 s.length c6) (b:=b5) (by rw [off1];exact hcu))) rfl rfl rfl ?_|refine rg rfl rfl rfl (Val.load rfl (fun hg=>rdFz (p:=q0) (u := .slice A6 s.length c6) (b:=b5) (by rw [off1];exact hcu))) rfl rfl rfl rfl rfl ?_)|(show ∀ _:Nat,T _ _ _ _ _;intro _))
  rename_i t17
  refine T_le (H':=[blk t17 [.slice A6 s.length c6] 24,fz q0,fz q1]) (Hle.refl _) ?_
  repeat' (first|refine d1 ?_|(show T _ (.ops _ (_::_)::_) _ _ _;first|refine T_call rfl rfl rfl rfl rfl (fun w hw=>containsFuncR_spec A7 n7 c7 cs7 _ [] [_] (fun i=>decide (L1.getD i []=s)) w ⟨hl7,fun h0=>⟨(hat7 h0).1,fun j u hu=>hw.fz (p:=q1) _ _ _ ((hat7 h0).2 j u hu)⟩⟩ (by omega) (fun i x hx w' hb'=>errC_spec t17 x _ (L1.getD i []) s w' (RdC.below (rdBlk8 hw) hb') ((rdAtM hrd7 hx).own hw |>.mono (wr_below hb')) ((hru.own hw).mono (wr_below hb')))) ?_|refine T_callC rfl rfl rfl rfl rfl rfl rfl (fun hg w hw=>containsFuncR_spec A7 n7 c7 cs7 _ [] [_] (fun i=>decide (L1.getD i []=s)) w ⟨hl7,fun h0=>⟨(hat7 h0).1,fun j u hu=>hw.fz (p:=q1) _ _ _ ((hat7 h0).2 j u hu)⟩⟩ (by omega) (fun i x hx w' hb'=>errC_spec t17 x _ (L1.getD i []) s w' (RdC.below (rdBlk8 hw) hb') ((rdAtM hrd7 hx).own hw |>.mono (wr_below hb')) ((hru.own hw).mono (wr_below hb')))) ?_)|(show T _ (.run _ _ (_::_) _ _::_) _ _ _;first|refine rc rfl rfl rfl rfl rfl rfl rfl (fun w hw=>containsFuncR_spec A7 n7 c7 cs7 _ [] [_] (fun i=>decide (L1.getD i []=s)) w ⟨hl7,fun h0=>⟨(hat7 h0).1,fun j u hu=>hw.fz (p:=q1) _ _ _ ((hat7 h0).2 j u hu)⟩⟩ (by omega) (fun i x hx w' hb'=>errC_spec t17 x _ (L1.getD i []) s w' (RdC.below (rdBlk8 hw) hb') ((rdAtM hrd7 hx).own hw |>.mono (wr_below hb')) ((hru.own hw).mono (wr_below hb')))) ?_|refine rcG rfl rfl rfl rfl rfl rfl rfl rfl rfl (fun hg w hw=>containsFuncR_spec A7 n7 c7 cs7 _ [] [_] (fun i=>decide (L1.getD i []=s)) w ⟨hl7,fun h0=>⟨(hat7 h0).1,fun j u hu=>hw.fz (p:=q1) _ _ _ ((hat7 h0).2 j u hu)⟩⟩ (by omega) (fun i x hx w' hb'=>errC_spec t17 x _ (L1.getD i []) s w' (RdC.below (rdBlk8 hw) hb') ((rdAtM hrd7 hx).own hw |>.mono (wr_below hb')) ((hru.own hw).mono (wr_below hb')))) ?_)|(show ∀ _:Nat,T _ _ _ _ _;intro _))
  refine T_if rfl (fun h6=>?_) (fun _=>?_)
  ·exfalso
   simp only [Bool.not_eq_true'] at h6
   obtain⟨j,hj⟩:=List.mem_iff_getElem?.1 (hin s (List.mem_of_getElem? hs))
   have hjl:=(List.getElem?_eq_some_iff.1 hj).1
   rw [List.any_eq_false] at h6
   have:=h6 j (List.mem_range.2 (by omega))
   rw [List.getD_eq_getElem?_getD,hj] at this
   exact this (decide_eq_true rfl)
  repeat' (first|refine d1 ?_|(show ∀ _:Nat,T _ _ _ _ _;intro _))
  exact T_backX (k+1) (by omega) (by omega) (hG:=Hle.tail _ _)
 ·repeat' (first|refine d1 ?_|(show T _ (.ops _ (_::_)::_) _ _ _;first|refine T_call rfl rfl rfl rfl rfl (fun w hw=>haw w) ?_|refine T_callC rfl rfl rfl rfl rfl rfl rfl (fun hg w hw=>haw w) ?_)|(show T _ (.run _ _ (_::_) _ _::_) _ _ _;first|refine rc rfl rfl rfl rfl rfl rfl rfl (fun w hw=>haw w) ?_|refine rcG rfl rfl rfl rfl rfl rfl rfl rfl rfl (fun hg w hw=>haw w) ?_)|(show ∀ _:Nat,T _ _ _ _ _;intro _)|(show T _ (.code .ret::_) _ _ _;refine T_retV [] rfl (Hle.none _) ⟨rfl,rfl⟩))
end Go.Proofs.YtabhdaehomjlgaaGreat
namespace Go.Proofs.YtabhdaehomjlgaaGreat
open Go.RowKit Go.Shelf Go.Proofs
set_option maxRecDepth 100000
set_option maxHeartbeats 4000000

structure MatR (w:World) (A:Option Addr) (n:Nat) (hs:List RwI) (W:Nat):Prop where
 s:Src w 1 A n (hs.map fun x=>Value.slice x.A x.n x.cap)
 len:hs.length=n
 n32:n≤32
 pos:0<n
 rd:∀ x∈hs,Src w 1 x.A x.n (x.l.map (Value.int .i64))∧x.l.length=x.n∧x.n=W∧∀ z∈x.l,-1≤z∧z<16
 W4:W≤4096
theorem MatR.cls {w0 w:World} {H:List HA} {A:Option Addr} {n W:Nat} {hs:List RwI} (h:MatR w0 A n hs W) (hw:Cls w0 w H):MatR w A n hs W :=
 ⟨src_below h.s hw.below,h.len,h.n32,h.pos,fun x hx=>⟨src_below (h.rd x hx).1 hw.below,(h.rd x hx).2⟩,h.W4⟩
theorem MatR.at {w:World} {b o n W:Nat} {hs:List RwI} (h:MatR w (some ⟨b,o,none⟩) n hs W) {k:Nat} {x:RwI} (hk:hs[k]?=some x):RdC w b (o+(k:Int).toNat * 1) [.slice x.A x.n x.cap]:=by
 have hkl:=(List.getElem?_eq_some_iff.1 hk).1
 have hl:=h.len
 have h9:=(h.s.get1 (i:=k) (by omega) (by rw [List.getElem?_map,hk];rfl)).2
 rw [Nat.mul_one] at h9
 rw [off1]
 exact h9
theorem okA_spec (z:Int) (w:World):Spec Tryz.prog 149 [.int .i64 z] w (fun v R=>v = .bool (decide (z < -1) || decide (16≤z))∧R=[]):=by
 refine spec_of sg Tryz.func149 rfl rfl rfl ?_
 repeat' (first|refine d1 ?_|refine dd ?_|(show ∀ _:Nat,T _ _ _ _ _;intro _)|(show T _ (.code .ret::_) _ _ _;refine T_retV [] rfl (Hle.none _) ⟨rfl,rfl⟩))
theorem okG_spec (z:Int) (w:World):Spec Tryz.prog 113 [.int .i64 z] w (fun v R=>v = .bool (decide (z < -1) || decide (16≤z))∧R=[]):=by
 refine spec_of sg Tryz.func113 rfl rfl rfl ?_
 repeat' (first|refine d1 ?_|refine dd ?_|(show ∀ _:Nat,T _ _ _ _ _;intro _)|(show T _ (.code .ret::_) _ _ _;refine T_retV [] rfl (Hle.none _) ⟨rfl,rfl⟩))
theorem ok_any {l:List Int} (h:∀ z∈l,-1≤z∧z<16):(l.any fun z=>decide (z < -1) || decide (16≤z))=false:=by
 rw [List.any_eq_false]
 intro z hz
 have:=h z hz
 simp only [Bool.or_eq_true,decide_eq_true_eq]
 omega
theorem checkA_spec (A:Option Addr) (n c W:Nat) (hs:List RwI) (w:World) (h:MatR w A n hs W) :
  Spec Tryz.prog 112 [.slice A n c] w (fun v R=>v = .int .i64 0∧R=[]):=by
 have hl:=h.len
 have hn:=h.n32
 have hp:=h.pos
 have hW:=h.W4
 obtain⟨b,o,rfl⟩:=h.s.base hp
 obtain⟨x0,hx0⟩:∃ x,hs[0]?=some x:=⟨_,List.getElem?_eq_getElem (by omega)⟩
 have hat0:RdC w b (o+(0:Int).toNat * 1) [.slice x0.A x0.n x0.cap]:=h.at (k:=0) hx0
 obtain⟨-,-,hw0,-⟩:=h.rd x0 (List.mem_of_getElem? hx0)
 refine spec_of sg Tryz.func112 rfl rfl rfl ?_
 repeat' (first|refine d1 ?_|(show ∀ _:Nat,T _ _ _ _ _;intro _))
 refine T_if rfl (fun h=>by exfalso;simp at h;omega) (fun _=>?_)
 repeat' (first|refine d1 ?_|(show T _ (.ops _ (_::_)::_) _ _ _;first|refine T_val rfl (Val.load rfl (fun hg=>rdOld hat0)) rfl rfl rfl ?_|refine T_valC rfl (Val.load rfl (fun hg=>rdOld hat0)) rfl rfl rfl rfl rfl ?_)|(show T _ (.run _ _ (_::_) _ _::_) _ _ _;first|refine rv rfl rfl rfl (Val.load rfl (fun hg=>rdOld hat0)) rfl rfl rfl ?_|refine rg rfl rfl rfl (Val.load rfl (fun hg=>rdOld hat0)) rfl rfl rfl rfl rfl ?_)|(show ∀ _:Nat,T _ _ _ _ _;intro _))
 refine T_if rfl (fun h=>by exfalso;simp at h;omega) (fun _=>?_)
 repeat' (first|refine d1 ?_|(show ∀ _:Nat,T _ _ _ _ _;intro _))
 refine T_loopX (fun k:Nat=>[(22, .int .i64 (k:Nat))]) (fun _=>[]) (fun k=>k≤n) (fun k=>n - k) 0 (Nat.zero_le _) ?_
 rintro k hk
 repeat' (first|refine d1 ?_|(show ∀ _:Nat,T _ _ _ _ _;intro _))
 refine T_if rfl (fun h1=>?_) (fun _=>?_)
 ·simp only [decide_eq_true_eq] at h1
  obtain⟨x,hx⟩:∃ x,hs[k]?=some x:=⟨_,List.getElem?_eq_getElem (by omega)⟩
  have hat:=h.at hx
  obtain⟨r1,r2,r3,r4⟩:=h.rd x (List.mem_of_getElem? hx)
  repeat' (first|refine d1 ?_|(show T _ (.ops _ (_::_)::_) _ _ _;first|refine T_val rfl (Val.load rfl (fun hg=>rdOld hat)) rfl rfl rfl ?_|refine T_valC rfl (Val.load rfl (fun hg=>rdOld hat)) rfl rfl rfl rfl rfl ?_|refine T_val rfl (Val.load rfl (fun hg=>rdOld hat0)) rfl rfl rfl ?_|refine T_valC rfl (Val.load rfl (fun hg=>rdOld hat0)) rfl rfl rfl rfl rfl ?_)|(show T _ (.run _ _ (_::_) _ _::_) _ _ _;first|refine rv rfl rfl rfl (Val.load rfl (fun hg=>rdOld hat)) rfl rfl rfl ?_|refine rg rfl rfl rfl (Val.load rfl (fun hg=>rdOld hat)) rfl rfl rfl rfl rfl ?_|refine rv rfl rfl rfl (Val.load rfl (fun hg=>rdOld hat0)) rfl rfl rfl ?_|refine rg rfl rfl rfl (Val.load rfl (fun hg=>rdOld hat0)) rfl rfl rfl rfl rfl ?_)|(show ∀ _:Nat,T _ _ _ _ _;intro _))
  refine T_if rfl (fun h=>by exfalso;simp at h;omega) (fun _=>?_)
  repeat' (first|refine d1 ?_|(show T _ (.ops _ (_::_)::_) _ _ _;first|refine T_call rfl rfl rfl rfl rfl (fun w hw=>containsFuncI_spec x.A x.n x.cap x.l _ [] [] (fun z=>decide (z < -1) || decide (16≤z)) w (src_below r1 hw.below) r2 (by omega) (fun z hz w' hb'=>okA_spec z w')) ?_|refine T_callC rfl rfl rfl rfl rfl rfl rfl (fun hg w hw=>containsFuncI_spec x.A x.n x.cap x.l _ [] [] (fun z=>decide (z < -1) || decide (16≤z)) w (src_below r1 hw.below) r2 (by omega) (fun z hz w' hb'=>okA_spec z w')) ?_)|(show T _ (.run _ _ (_::_) _ _::_) _ _ _;first|refine rc rfl rfl rfl rfl rfl rfl rfl (fun w hw=>containsFuncI_spec x.A x.n x.cap x.l _ [] [] (fun z=>decide (z < -1) || decide (16≤z)) w (src_below r1 hw.below) r2 (by omega) (fun z hz w' hb'=>okA_spec z w')) ?_|refine rcG rfl rfl rfl rfl rfl rfl rfl rfl rfl (fun hg w hw=>containsFuncI_spec x.A x.n x.cap x.l _ [] [] (fun z=>decide (z < -1) || decide (16≤z)) w (src_below r1 hw.below) r2 (by omega) (fun z hz w' hb'=>okA_spec z w')) ?_)|(show ∀ _:Nat,T _ _ _ _ _;intro _))
  rw [ok_any r4]
  refine T_if rfl (fun h=>by cases h) (fun _=>?_)
  repeat' (first|refine d1 ?_|(show ∀ _:Nat,T _ _ _ _ _;intro _))
  exact T_backX (k+1) (by omega) (by omega)
 ·repeat' (first|refine d1 ?_|(show ∀ _:Nat,T _ _ _ _ _;intro _)|(show T _ (.code .ret::_) _ _ _;refine T_retV [] rfl (Hle.none _) ⟨rfl,rfl⟩))
theorem filt1 {p:Nat→Bool} {j:Nat}:[j].filter p=if p j=true then [j] else []:=by cases h:p j <;> simp [h]
theorem srcG_lenX (l:List Nat) (p:Nat→Bool):((l.filter p).map fun (i:Nat)=>(i:Int)).length≤l.length:=by rw [List.length_map];exact List.length_filter_le _ _
def srcG (m:List (List Int)) (u:Nat) (s:Int) (j:Nat):List Int:=((List.range j).filter fun i=>decide ((m.getD i []).getD u 0=s)).map fun (i:Nat)=>(i:Int)
theorem srcG_succ (m:List (List Int)) (u:Nat) (s:Int) (j:Nat):srcG m u s (j+1)=srcG m u s j++(if (m.getD j []).getD u 0=s then [(j:Int)] else []):=by
 unfold srcG
 rw [List.range_succ,List.filter_append,List.map_append]
 rw [filt1]
 by_cases h:(m.getD j []).getD u 0=s
 ·rw [if_pos (decide_eq_true h),if_pos h];rfl
 ·rw [if_neg (by simpa using h),if_neg h];rfl
def gS (m:List (List Int)) (u:Nat) (a:Int) (acc:List (Int × Int × List Int)):Nat→List (Int × Int × List Int)
 | 0=>acc
 | s+1=>if decide ((s:Int)≠a) && decide (0<(srcG m u s m.length).length) then gS m u a acc s++[((u:Int),(s:Int),srcG m u s m.length)] else gS m u a acc s
def gU (m:List (List Int)) (anc:List Int):Nat→List (Int × Int × List Int)
 | 0=>[]
 | u+1=>if anc.getD u 0<0 then gU m anc u else gS m u (anc.getD u 0) (gU m anc u) 16
theorem gS_len (m:List (List Int)) (u:Nat) (a:Int) (acc:List (Int × Int × List Int)):∀ s,(gS m u a acc s).length≤acc.length+s
 | 0=>Nat.le_refl _
 | s+1=>by
  have:=gS_len m u a acc s
  rw [gS]
  split
  ·rw [List.length_append,List.length_singleton];omega
  ·omega
theorem gU_len (m:List (List Int)) (anc:List Int):∀ u,(gU m anc u).length≤16 * u
 | 0=>Nat.le_refl _
 | u+1=>by
  have:=gU_len m anc u
  have h2:=gS_len m u (anc.getD u 0) (gU m anc u) 16
  rw [gU]
  split
  ·omega
  ·omega
def grp35:List (List Int):=[[0,0],[1,0],[1,1],[1,1]]
theorem gU35:gU grp35 [0,0] 2=[(0,1,[1,2,3]),(1,1,[2,3])]:=by decide +kernel
theorem hle_us {C:Option Addr} {f u s:Nat} {S:List Int} {X:HA} {cs:List Value} {ds:List D} {n:Nat} :
  Hle [row 3 1 C f n (S.map (Value.int .i64)),X,dat cs ds] [X,dat (cs++[.int .i64 (u:Nat), .int .i64 (s:Nat), .slice C n f]) (ds++grpD ((u:Int),(s:Int),S))]:=by
 refine dat_rowV.trans ?_
 refine (hle_map (B:=dat [.int .i64 (u:Nat), .int .i64 (s:Nat), .slice C n f] (grpD ((u:Int),(s:Int),S))) fun F h=>?_).trans ?_
 ·rw [List.map_map] at h
  exact .v _ (.v _ h)
 ·refine (hle_pm [0,2,1] [_,_,_] []).trans ?_
  exact dat_join.trans hle_swap
theorem groups_spec (A A2:Option Addr) (n c c2 W:Nat) (hs:List RwI) (anc:List Int) (w:World) (h:MatR w A n hs W) (ha:Src w 1 A2 W (anc.map (Value.int .i64))) (hal:anc.length=W) (hab:∀ z∈anc,-1≤z∧z<16) (hW:W≤100) :
  Spec Tryz.prog 71 [.slice A n c, .slice A2 W c2] w (fun v R=>∃ (x:Value),v = .tuple #[x, .int .i64 0]∧R=[dat [x] [grpsD (gU (hs.map RwI.l) anc W)]]):=by
 have hl:=h.len
 have hn:=h.n32
 have hp:=h.pos
 have hml:(hs.map RwI.l).length=n:=by rw [List.length_map];exact hl
 obtain⟨b,o,rfl⟩:=h.s.base hp
 obtain⟨x0,hx0⟩:∃ x,hs[0]?=some x:=⟨_,List.getElem?_eq_getElem (by omega)⟩
 have hat0:RdC w b (o+(0:Int).toNat * 1) [.slice x0.A x0.n x0.cap]:=h.at (k:=0) hx0
 obtain⟨-,-,hw0,-⟩:=h.rd x0 (List.mem_of_getElem? hx0)
 refine spec_of sg Tryz.func71 rfl rfl rfl ?_
 repeat' (first|refine d1 ?_|(show T _ (.ops _ (_::_)::_) _ _ _;first|refine T_call rfl rfl rfl rfl rfl (fun w hw=>checkA_spec (some ⟨b,o,none⟩) n c W hs w (h.cls hw)) ?_|refine T_callC rfl rfl rfl rfl rfl rfl rfl (fun hg w hw=>checkA_spec (some ⟨b,o,none⟩) n c W hs w (h.cls hw)) ?_)|(show T _ (.run _ _ (_::_) _ _::_) _ _ _;first|refine rc rfl rfl rfl rfl rfl rfl rfl (fun w hw=>checkA_spec (some ⟨b,o,none⟩) n c W hs w (h.cls hw)) ?_|refine rcG rfl rfl rfl rfl rfl rfl rfl rfl rfl (fun hg w hw=>checkA_spec (some ⟨b,o,none⟩) n c W hs w (h.cls hw)) ?_)|(show ∀ _:Nat,T _ _ _ _ _;intro _))
 refine T_if rfl (fun h=>by exfalso;simp at h) (fun _=>?_)
 repeat' (first|refine d1 ?_|(show ∀ _:Nat,T _ _ _ _ _;intro _))
 refine T_if rfl (fun _=>?_) (fun h=>by exfalso;simp at h;omega)
 repeat' (first|refine d1 ?_|(show T _ (.ops _ (_::_)::_) _ _ _;first|refine T_val rfl (Val.load rfl (fun hg=>rdOld hat0)) rfl rfl rfl ?_|refine T_valC rfl (Val.load rfl (fun hg=>rdOld hat0)) rfl rfl rfl rfl rfl ?_)|(show T _ (.run _ _ (_::_) _ _::_) _ _ _;first|refine rv rfl rfl rfl (Val.load rfl (fun hg=>rdOld hat0)) rfl rfl rfl ?_|refine rg rfl rfl rfl (Val.load rfl (fun hg=>rdOld hat0)) rfl rfl rfl rfl rfl ?_)|(show ∀ _:Nat,T _ _ _ _ _;intro _))
 refine T_if rfl (fun h=>by exfalso;simp at h;omega) (fun _=>?_)
 repeat' (first|refine d1 ?_|(show T _ (.ops _ (_::_)::_) _ _ _;first|refine T_call rfl rfl rfl rfl rfl (fun w hw=>containsFuncI_spec A2 W c2 anc _ [] [] (fun z=>decide (z < -1) || decide (16≤z)) w (src_below ha hw.below) hal (by omega) (fun z hz w' hb'=>okG_spec z w')) ?_|refine T_callC rfl rfl rfl rfl rfl rfl rfl (fun hg w hw=>containsFuncI_spec A2 W c2 anc _ [] [] (fun z=>decide (z < -1) || decide (16≤z)) w (src_below ha hw.below) hal (by omega) (fun z hz w' hb'=>okG_spec z w')) ?_)|(show T _ (.run _ _ (_::_) _ _::_) _ _ _;first|refine rc rfl rfl rfl rfl rfl rfl rfl (fun w hw=>containsFuncI_spec A2 W c2 anc _ [] [] (fun z=>decide (z < -1) || decide (16≤z)) w (src_below ha hw.below) hal (by omega) (fun z hz w' hb'=>okG_spec z w')) ?_|refine rcG rfl rfl rfl rfl rfl rfl rfl rfl rfl (fun hg w hw=>containsFuncI_spec A2 W c2 anc _ [] [] (fun z=>decide (z < -1) || decide (16≤z)) w (src_below ha hw.below) hal (by omega) (fun z hz w' hb'=>okG_spec z w')) ?_)|(show ∀ _:Nat,T _ _ _ _ _;intro _))
 rw [ok_any hab]
 refine T_if rfl (fun h=>by cases h) (fun _=>?_)
 repeat' (first|refine d1 ?_|(show ∀ _:Nat,T _ _ _ _ _;intro _))
 refine T_nilrow 105 3 ?_
 refine T_le ((dat_nil _).trans hle_swap) ?_
 refine T_loopX (fun s:Nat × List Value × Option Addr × Nat=>[(35, .int .i64 (s.1:Nat)),(8, .slice s.2.2.1 (gU (hs.map RwI.l) anc s.1).length s.2.2.2)]) (fun s=>[row 105 3 s.2.2.1 s.2.2.2 (gU (hs.map RwI.l) anc s.1).length s.2.1,dat s.2.1 ((gU (hs.map RwI.l) anc s.1).flatMap grpD)]) (fun s=>s.1≤W) (fun s=>W - s.1) (0,[],none,0) (Nat.zero_le _) ?_
 rintro⟨u,cs,B,d⟩ hu
 dsimp only at hu ⊢
 have hgl:=gU_len (hs.map RwI.l) anc u
 repeat' (first|refine d1 ?_|(show ∀ _:Nat,T _ _ _ _ _;intro _))
 refine T_if rfl (fun h1=>?_) (fun h1=>?_)
 ·simp only [decide_eq_true_eq] at h1
  obtain⟨b2,o2,rfl⟩:=ha.base (by omega)
  obtain⟨a,hau⟩:∃ a,anc[u]?=some a:=⟨_,List.getElem?_eq_getElem (by omega)⟩
  have hra:=src_int ha (k:=u) (by omega) hau
  have hgd:anc.getD u 0=a:=by rw [List.getD_eq_getElem?_getD,hau];rfl
  have hgu:gU (hs.map RwI.l) anc (u+1)=if a<0 then gU (hs.map RwI.l) anc u else gS (hs.map RwI.l) u a (gU (hs.map RwI.l) anc u) 16:=by rw [gU,hgd]
  repeat' (first|refine d1 ?_|(show T _ (.ops _ (_::_)::_) _ _ _;first|refine T_val rfl (Val.load rfl (fun hg=>rdOld hra)) rfl rfl rfl ?_|refine T_valC rfl (Val.load rfl (fun hg=>rdOld hra)) rfl rfl rfl rfl rfl ?_)|(show T _ (.run _ _ (_::_) _ _::_) _ _ _;first|refine rv rfl rfl rfl (Val.load rfl (fun hg=>rdOld hra)) rfl rfl rfl ?_|refine rg rfl rfl rfl (Val.load rfl (fun hg=>rdOld hra)) rfl rfl rfl rfl rfl ?_)|(show ∀ _:Nat,T _ _ _ _ _;intro _))
  refine T_if rfl (fun h2=>?_) (fun h2=>?_)
  ·simp only [decide_eq_true_eq] at h2
   rw [if_pos h2] at hgu
   repeat' (first|refine d1 ?_|(show ∀ _:Nat,T _ _ _ _ _;intro _))
   refine T_backX (u+1,cs,B,d) (by dsimp only;omega) (by dsimp only;omega) (hE:=⟨rfl,by dsimp only;rw [hgu];rfl,trivial⟩) (hG:=by dsimp only;rw [hgu];exact Hle.refl _)
  ·simp only [decide_eq_false_iff_not] at h2
   rw [if_neg h2] at hgu
   generalize hacc:gU (hs.map RwI.l) anc u=acc at hgl hgu ⊢
   repeat' (first|refine d1 ?_|(show ∀ _:Nat,T _ _ _ _ _;intro _))
   refine T_loopX (fun s:Nat × List Value × Option Addr × Nat=>[(42, .int .i64 (s.1:Nat)),(8, .slice s.2.2.1 (gS (hs.map RwI.l) u a acc s.1).length s.2.2.2)]) (fun s=>[row 105 3 s.2.2.1 s.2.2.2 (gS (hs.map RwI.l) u a acc s.1).length s.2.1,dat s.2.1 ((gS (hs.map RwI.l) u a acc s.1).flatMap grpD)]) (fun s=>s.1≤16) (fun s=>16 - s.1) (0,cs,B,d) (Nat.zero_le _) ?_
   rintro⟨s,cs2,B2,d2⟩ hsl
   dsimp only at hsl ⊢
   have hsl2:=gS_len (hs.map RwI.l) u a acc s
   have hgs:gS (hs.map RwI.l) u a acc (s+1)=if decide ((s:Int)≠a) && decide (0<(srcG (hs.map RwI.l) u s n).length) then gS (hs.map RwI.l) u a acc s++[((u:Int),(s:Int),srcG (hs.map RwI.l) u s n)] else gS (hs.map RwI.l) u a acc s:=by rw [gS,hml]
   generalize hLs:gS (hs.map RwI.l) u a acc s=L at hsl2 hgs ⊢
   repeat' (first|refine d1 ?_|(show ∀ _:Nat,T _ _ _ _ _;intro _))
   refine T_if rfl (fun h3=>?_) (fun h3=>?_)
   ·simp only [decide_eq_true_eq] at h3
    repeat' (first|refine d1 ?_|(show ∀ _:Nat,T _ _ _ _ _;intro _))
    rename_i t12
    refine T_nilrow 3 1 ?_
    refine T_le (H':=[blk t12 [.int .i64 (u:Nat), .int .i64 (s:Nat), .slice none 0 0] 105,row 3 1 none 0 0 [],row 105 3 B2 d2 L.length cs2,dat cs2 (L.flatMap grpD)]) (hle_pm [1,0,2,3] [_,_,_,_] []) ?_
    refine T_loopX (fun s9:Nat × Option Addr × Nat=>[(50, .int .i64 (s9.1:Nat))]) (fun s9=>[blk t12 [.int .i64 (u:Nat), .int .i64 (s:Nat), .slice s9.2.1 (srcG (hs.map RwI.l) u s s9.1).length s9.2.2] 105,row 3 1 s9.2.1 s9.2.2 (srcG (hs.map RwI.l) u s s9.1).length ((srcG (hs.map RwI.l) u s s9.1).map (Value.int .i64)),row 105 3 B2 d2 L.length cs2,dat cs2 (L.flatMap grpD)]) (fun s9=>s9.1≤n) (fun s9=>n - s9.1) (0,none,0) (Nat.zero_le _) ?_
    rintro⟨i,C,f⟩ hi
    dsimp only at hi ⊢
    have hsg:(srcG (hs.map RwI.l) u s i).length≤i:=by unfold srcG;exact Nat.le_trans (srcG_lenX _ _) (by rw [List.length_range];exact Nat.le_refl _)
    repeat' (first|refine d1 ?_|(show ∀ _:Nat,T _ _ _ _ _;intro _))
    refine T_if rfl (fun h4=>?_) (fun h4=>?_)
    ·simp only [decide_eq_true_eq] at h4
     obtain⟨x,hx⟩:∃ x,hs[i]?=some x:=⟨_,List.getElem?_eq_getElem (by omega)⟩
     have hat:=h.at hx
     obtain⟨r1,r2,r3,-⟩:=h.rd x (List.mem_of_getElem? hx)
     obtain⟨b6,o6,e6⟩:=r1.base (by omega)
     obtain⟨z,hz⟩:∃ z,x.l[u]?=some z:=⟨_,List.getElem?_eq_getElem (by omega)⟩
     rw [e6] at r1 hat
     have hrz:=src_int r1 (k:=u) (by omega) hz
     have hgz:((hs.map RwI.l).getD i []).getD u 0=z:=by
      rw [List.getD_eq_getElem?_getD,List.getD_eq_getElem?_getD,List.getElem?_map,hx]
      show (x.l[u]?).getD 0=z
      rw [hz];rfl
     have hsu:=srcG_succ (hs.map RwI.l) u s i
     rw [hgz] at hsu
     repeat' (first|refine d1 ?_|(show T _ (.ops _ (_::_)::_) _ _ _;first|refine T_val rfl (Val.load rfl (fun hg=>rdOld hat)) rfl rfl rfl ?_|refine T_valC rfl (Val.load rfl (fun hg=>rdOld hat)) rfl rfl rfl rfl rfl ?_|refine T_val rfl (Val.load rfl (fun hg=>rdOld hrz)) rfl rfl rfl ?_|refine T_valC rfl (Val.load rfl (fun hg=>rdOld hrz)) rfl rfl rfl rfl rfl ?_)|(show T _ (.run _ _ (_::_) _ _::_) _ _ _;first|refine rv rfl rfl rfl (Val.load rfl (fun hg=>rdOld hat)) rfl rfl rfl ?_|refine rg rfl rfl rfl (Val.load rfl (fun hg=>rdOld hat)) rfl rfl rfl rfl rfl ?_|refine rv rfl rfl rfl (Val.load rfl (fun hg=>rdOld hrz)) rfl rfl rfl ?_|refine rg rfl rfl rfl (Val.load rfl (fun hg=>rdOld hrz)) rfl rfl rfl rfl rfl ?_)|(show ∀ _:Nat,T _ _ _ _ _;intro _))
     refine T_if rfl (fun h5=>?_) (fun h5=>?_)
     ·simp only [decide_eq_true_eq] at h5
      rw [if_pos h5] at hsu
      repeat' (first|refine d1 ?_|(show T _ (.ops _ (_::_)::_) _ _ _;refine T_op (OpT.append (A:=C) rfl rfl rfl rfl rfl rfl rfl rfl rfl rfl (fun w hw=>Src.own hw rfl) rfl (by dsimp only;omega) (by omega) (fun A9 c9 hA9=>?_)))|(show ∀ _:Nat,T _ _ _ _ _;intro _))
      refine T_backX (i+1,A9,c9) (by dsimp only;omega) (by dsimp only;omega) (hG:=?_)
      dsimp only
      rw [hsu,List.length_append,List.map_append]
      exact Hle.tail _ _
     ·simp only [decide_eq_false_iff_not] at h5
      rw [if_neg h5,List.append_nil] at hsu
      repeat' (first|refine d1 ?_|(show ∀ _:Nat,T _ _ _ _ _;intro _))
      refine T_backX (i+1,C,f) (by dsimp only;omega) (by dsimp only;omega) (hG:=?_)
      dsimp only
      rw [hsu]
      exact Hle.refl _
    ·simp only [decide_eq_false_iff_not] at h4
     obtain rfl:i=n:=by omega
     generalize srcG (hs.map RwI.l) u s i=S at hsg hgs ⊢
     repeat' (first|refine d1 ?_|(show ∀ _:Nat,T _ _ _ _ _;intro _))
     have hcond:(!decide ((s:Int)=a) && decide ((0:Int)<(S.length:Int)))=(decide ((s:Int)≠a) && decide (0<S.length)):=by
      rw [decide_not]
      congr 1
      rw [decide_eq_decide];omega
     refine T_if rfl (fun h5=>?_) (fun h5=>?_)
     ·rw [hcond] at h5
      rw [if_pos h5] at hgs
      repeat' (first|refine d1 ?_|(show T _ (.ops _ (_::_)::_) _ _ _;refine T_op (OpT.append (A:=B2) rfl rfl rfl rfl rfl rfl rfl rfl rfl rfl (fun w hw=>Src.own hw rfl) rfl (by dsimp only;omega) (by omega) (fun A9 c9 hA9=>?_)))|(show ∀ _:Nat,T _ _ _ _ _;intro _))
      refine T_backX (s+1,cs2++[.int .i64 (u:Nat), .int .i64 (s:Nat), .slice C S.length f],A9,c9) (by dsimp only;omega) (by dsimp only;omega) (hE:=⟨rfl,by dsimp only;rw [hgs,List.length_append];rfl,trivial⟩) (hG:=?_)
      dsimp only
      rw [hgs,List.length_append,List.flatMap_append,List.flatMap_singleton]
      exact (Hle.tail _ _).trans ((Hle.tail _ _).trans hle_us)
     ·rw [hcond] at h5
      rw [if_neg (by rw [h5];decide)] at hgs
      repeat' (first|refine d1 ?_|(show ∀ _:Nat,T _ _ _ _ _;intro _))
      refine T_backX (s+1,cs2,B2,d2) (by dsimp only;omega) (by dsimp only;omega) (hE:=⟨rfl,by dsimp only;rw [hgs];rfl,trivial⟩) (hG:=?_)
      dsimp only
      rw [hgs]
      exact (Hle.tail _ _).trans (Hle.tail _ _)
   ·simp only [decide_eq_false_iff_not] at h3
    obtain rfl:s=16:=by omega
    rw [hLs] at hgu
    repeat' (first|refine d1 ?_|(show ∀ _:Nat,T _ _ _ _ _;intro _))
    refine T_backX (u+1,cs2,B2,d2) (by dsimp only;omega) (by dsimp only;omega) (hE:=⟨rfl,by dsimp only;rw [hgu];rfl,trivial⟩) (hG:=?_)
    dsimp only
    rw [hgu]
    exact Hle.refl _
 ·simp only [decide_eq_false_iff_not] at h1
  obtain rfl:u=W:=by omega
  repeat' (first|refine d1 ?_|(show ∀ _:Nat,T _ _ _ _ _;intro _)|(show T _ (.code .ret::_) _ _ _;refine T_retV _ rfl dat_row ⟨_,rfl,rfl⟩))
end Go.Proofs.YtabhdaehomjlgaaGreat
namespace Go.Proofs.YtabhdaehomjlgaaGreat
open Go.RowKit Go.Shelf Go.Proofs
set_option maxRecDepth 100000
set_option maxHeartbeats 4000000

theorem Rd.grpLR {R:Rdr}:∀ {m:List (Int × Int × List Int)} {cs:List Value},Rd R cs (m.flatMap grpD)→∃ gs:List GrE,gs.map (fun g=>(g.u,g.st,g.x.l))=m∧cs=gs.flatMap GrE.cells∧∀ g∈gs,Rd R [.slice g.x.A g.x.n g.x.cap] [intsD g.x.l]∧g.x.l.length=g.x.n∧g.x.n≤9223372036854775807
 | [],cs,h=>by
  have:=h.length
  obtain rfl:cs=[]:=List.eq_nil_of_length_eq_zero this
  exact⟨[],rfl,rfl,fun g hg=>by cases hg⟩
 | g::m,cs,h=>by
  obtain⟨ws,us,rfl,h1,h2⟩:=Rd.split (ds:=grpD g) (es:=m.flatMap grpD) h
  obtain⟨gs,e1,rfl,e3⟩:=Rd.grpLR h2
  obtain⟨z0,z1,z2,e⟩:∃ z0 z1 z2,ws=[z0,z1,z2]:=by
   have hl:=h1.length
   match ws,hl with
   | [a,b,c],_=>exact⟨a,b,c,rfl⟩
  subst e
  obtain⟨k0,h3⟩:=Rd.cons_inv (d := .v (.int .i64 g.1)) h1
  obtain⟨k1,k2⟩:=Rd.cons_inv (d := .v (.int .i64 g.2.1)) h3
  have q0:=k0.val
  have q1:=k1.val
  obtain⟨A,c,q2,g1,g2,-⟩:=Rd.row1 (r:=g.2.2) k2
  subst q0 q1 q2
  refine ⟨⟨g.1,g.2.1,⟨A,g.2.2.length,c,g.2.2⟩⟩::gs,by rw [List.map_cons,e1],rfl,fun y hy=>?_⟩
  rcases List.mem_cons.1 hy with rfl|hy
  ·exact⟨k2,rfl,by dsimp only;omega⟩
  ·exact e3 y hy
theorem Rd.grpsR {R:Rdr} {v:Value} {m:List (Int × Int × List Int)} (h:Rd R [v] [grpsD m]):∃ (A:Option Addr) (c:Nat) (gs:List GrE),gs.map (fun g=>(g.u,g.st,g.x.l))=m∧v = .slice A gs.length c∧∀ w,R.le (wr w)→GrS w A gs.length gs:=by
 obtain⟨A,n,c,cs,rfl,h1,h2,h3,h4,h5,h6⟩:=h.slice
 obtain⟨gs,e1,rfl,e3⟩:=Rd.grpLR h6
 have hl:gs.length=n:=by
  have h7:=h2
  rw [flat_lenT (fun g:GrE=>g.cells) 3 (fun _=>rfl)] at h7
  omega
 subst hl
 refine ⟨A,c,gs,e1,rfl,fun w hw=>⟨⟨h2,fun h0=>⟨(h5 h0).1,fun j u hu=>hw _ _ _ ((h5 h0).2 j u hu)⟩⟩,rfl,by omega,fun g hg=>?_⟩⟩
 obtain⟨k1,k2,k3⟩:=e3 g hg
 exact⟨(k1.mono hw).intsAt,k2,k3⟩
def m35:List (Int × Int × List Int):=[(0,1,[1,2,3]),(1,1,[2,3])]
def T35:Nd:=grT nm33 (innL 15 [[1,2,3],[2,3]]) 16 15
def P35:List Int:=[-1,0,0,2,2,4,4]
def N35:List ByteArray:=[⟨#[]⟩,⟨#[65]⟩,⟨#[]⟩,⟨#[66]⟩,⟨#[]⟩,⟨#[67]⟩,⟨#[68]⟩]
theorem P35_eq:cps (prsN (-1) 0 T35) (nmP T35)=P35:=by decide +kernel
theorem N35_eq:cns (prsN (-1) 0 T35) (nmP T35)=N35:=by decide +kernel
theorem nd33:nm33.Nodup:=by decide +kernel
theorem sg33:∀ a∈nm33,siglum22 a=true:=by
 have:nm33.all siglum22=true:=by decide +kernel
 exact List.all_eq_true.1 this
theorem of35 {L:List (List Int)} (h:ofOk P35 N35 nm33 L):L=[[2,3]]:=by
 refine ltLs_uniq (R:=ltLs) (fun a h=>by unfold ltLs at h;rw [cmpLs_self] at h;omega) (fun a b h1 h2=>by unfold ltLs at h1 h2;have:=cmpLs_swap a b;omega) h.asc (List.pairwise_singleton _ _) fun s=>?_
 rw [h.mem,List.mem_singleton]
 have h1:∀ i:Nat,i<7→0<i→splOk 4 (nrmI 4 (plS nm33 (ndT P35 N35 i)))→nrmI 4 (plS nm33 (ndT P35 N35 i))=[2,3]:=by decide +kernel
 constructor
 ·rintro⟨h2,i,h3,h4,rfl⟩
  exact h1 i h4 h3 h2
 ·rintro rfl
  refine ⟨?_,4,by decide,by decide,?_⟩
  ·show splOk 4 [2,3];decide +kernel
  ·show [2,3]=nrmI 4 (plS nm33 (ndT P35 N35 4));decide +kernel
theorem gs35 {gs:List GrE} (h:gs.map (fun g=>(g.u,g.st,g.x.l))=m35):gs.length=2∧lsG gs=[[1,2,3],[2,3]]∧grsOk gs 2∧farG gs 4=false∧nocL (lsG gs):=by
 have hl:gs.length=2:=by have:=congrArg List.length h;rw [List.length_map] at this;exact this
 have hls:lsG gs=[[1,2,3],[2,3]]:=by
  have:=congrArg (List.map fun g:Int × Int × List Int=>g.2.2) h
  rw [List.map_map] at this
  exact this
 have hok:grsOk gs 2:=by
  refine ⟨by decide,fun g hg=>?_⟩
  have hm:(g.u,g.st,g.x.l)∈m35:=by rw [← h];exact List.mem_map_of_mem (f:=fun g:GrE=>(g.u,g.st,g.x.l)) hg
  have h3:∀ q∈m35,0≤q.1∧(0≤q.2.1∧q.2.1<16)∧srcOk q.2.2:=by decide +kernel
  obtain⟨a,b,c⟩:=h3 _ hm
  exact⟨a,b,c⟩
 refine ⟨hl,hls,hok,?_,?_⟩
 ·unfold farG
  rw [List.any_eq_false]
  intro g hg
  have hm:(g.u,g.st,g.x.l)∈m35:=by rw [← h];exact List.mem_map_of_mem (f:=fun g:GrE=>(g.u,g.st,g.x.l)) hg
  have h3:∀ q∈m35,(q.2.2.any fun z=>decide ((4:Int)≤z))=false:=by decide +kernel
  have:=h3 _ hm
  rw [Bool.not_eq_true]
  exact this
 ·rw [hls]
  unfold nocL
  decide +kernel
theorem top35Awake_spec (w:World):Spec Tryz.prog 29 [] w (fun v R=>v = .bool true∧R=[]):=by
 refine spec_of sg Tryz.func29 rfl rfl rfl ?_
 repeat' (first|refine d1 ?_|(show ∀ _:Nat,T _ _ _ _ _;intro _))
 rename_i b8 b9 b10 b11 b12 b13
 refine T_le (H':=[blk b13 (([0,0]:List Int).map (Value.int .i64)) 3,blk b12 [.slice (some ⟨b8,0,none⟩) 2 2, .slice (some ⟨b9,0,none⟩) 2 2, .slice (some ⟨b10,0,none⟩) 2 2, .slice (some ⟨b11,0,none⟩) 2 2] 24,blk b11 (([1,1]:List Int).map (Value.int .i64)) 3,blk b10 (([1,1]:List Int).map (Value.int .i64)) 3,blk b9 (([1,0]:List Int).map (Value.int .i64)) 3,blk b8 (([0,0]:List Int).map (Value.int .i64)) 3]) (Hle.refl _) ?_
 refine T_op (OpT.call rfl rfl rfl rfl rfl (fun w hw=>groups_spec (some ⟨b12,0,none⟩) (some ⟨b13,0,none⟩) 4 4 2 2 [⟨some ⟨b8,0,none⟩,2,2,[0,0]⟩,⟨some ⟨b9,0,none⟩,2,2,[1,0]⟩,⟨some ⟨b10,0,none⟩,2,2,[1,1]⟩,⟨some ⟨b11,0,none⟩,2,2,[1,1]⟩] [0,0] w ⟨Src.own (b:=b12) hw rfl,rfl,by decide,by decide,fun x hx=>?_,by decide⟩ (Src.own (b:=b13) hw rfl) rfl (by decide) (by decide)) ?_)
 ·simp only [List.mem_cons,List.not_mem_nil,or_false] at hx
  rcases hx with rfl|rfl|rfl|rfl
  ·exact⟨Src.own (b:=b8) hw rfl,rfl,rfl,(show ∀ z∈([0,0]:List Int),-1≤z∧z<16 by decide)⟩
  ·exact⟨Src.own (b:=b9) hw rfl,rfl,rfl,(show ∀ z∈([1,0]:List Int),-1≤z∧z<16 by decide)⟩
  ·exact⟨Src.own (b:=b10) hw rfl,rfl,rfl,(show ∀ z∈([1,1]:List Int),-1≤z∧z<16 by decide)⟩
  ·exact⟨Src.own (b:=b11) hw rfl,rfl,rfl,(show ∀ z∈([1,1]:List Int),-1≤z∧z<16 by decide)⟩
 rintro u R ⟨x,rfl,rfl⟩
 rw [show gU (List.map RwI.l [⟨some ⟨b8,0,none⟩,2,2,[0,0]⟩,⟨some ⟨b9,0,none⟩,2,2,[1,0]⟩,⟨some ⟨b10,0,none⟩,2,2,[1,1]⟩,⟨some ⟨b11,0,none⟩,2,2,[1,1]⟩]) [0,0] 2=m35 from gU35]
 refine T_le (H':=dat [x] [grpsD m35]::[]) (Hle.append_left (A:=[_]) _) ?_
 refine T_open fun q hq=>?_
 obtain⟨A,c,gs,hm,rfl,hgr⟩:=hq.grpsR
 obtain⟨hgl,hls,hgo,hfar,hno⟩:=gs35 hm
 rw [hgl] at hgr ⊢
 repeat' (first|refine d1 ?_|(show ∀ _:Nat,T _ _ _ _ _;intro _))
 rename_i b18
 refine T_le (H':=[blk b18 (nm33.map Value.string) 9,fz q]) (Hle.refl _) ?_
 refine T_op (OpT.call rfl rfl rfl rfl rfl (fun w hw=>treeSE_spec (some ⟨b18,0,none⟩) A 4 4 2 c nm33 gs w (Src.own (b:=b18) hw rfl) rfl (by decide) (by decide) (by decide) sg33 nd33 (fun a ha=>by have:=siglum_size (sg33 a ha);omega) ((hgr w (hw.fz (p:=q))).gr (by decide) (fun g hg=>?_))) ?_)
 ·have h8:(g.u,g.st,g.x.l)∈m35:=by rw [← hm];exact List.mem_map_of_mem (f:=fun g:GrE=>(g.u,g.st,g.x.l)) hg
  have h9:∀ q∈m35,q.2.2.length≤1000:=by decide +kernel
  have h7:=h9 _ h8
  rw [← ((hgr w (hw.fz (p:=q))).rd g hg).2.1]
  exact h7
 rintro u R (⟨e,he,hx,-,-⟩|⟨-,-,-,⟨⟨B1,d1'⟩,⟨B2,d2'⟩⟩,⟨hc1,hc2⟩,rfl,rfl⟩)
 ·exact absurd hno (hx hgo hfar).2
 dsimp only at hc1 hc2 ⊢
 have hT:ownT nm33 gs=T35:=by unfold ownT T35;rw [hls];rfl
 have ho:=own_facts (names:=nm33) (by decide) (by decide) sg33 nd33 hgo hfar hno
 have hk:=cnT_ok ho.ok
 have lf:=leaf_own ho
 have h7:(ownP nm33 gs).length=7:=by
  unfold ownP
  rw [hT]
  decide +kernel
 have hcp:cps (ownP nm33 gs) (ownN nm33 gs)=P35:=by
  unfold ownP ownN
  rw [hT]
  exact P35_eq
 have hcn:cns (ownP nm33 gs) (ownN nm33 gs)=N35:=by
  unfold ownP ownN
  rw [hT]
  exact N35_eq
 rw [h7] at hc1 hc2 ⊢
 rw [hcn] at lf
 rw [hcp,hcn] at hk ⊢
 refine T_le (H':=[row 3 1 B1 d1' 7 (P35.map (Value.int .i64)),row 9 1 B2 d2' 7 (N35.map Value.string)]) (hle_pm [0,1] [_,_,_,_] []) ?_
 repeat' (first|refine d1 ?_|(show ∀ _:Nat,T _ _ _ _ _;intro _))
 rename_i b3 b25
 refine T_le (H':=[blk b25 (nm33.map Value.string) 9,blk b3 [.slice B1 7 d1', .slice B2 7 d2'] 30,row 3 1 B1 d1' 7 (P35.map (Value.int .i64)),row 9 1 B2 d2' 7 (N35.map Value.string)]) (Hle.refl _) ?_
 refine T_op (OpT.call rfl rfl rfl rfl rfl (fun w hw=>splitOf_spec B1 B2 (some ⟨b25,0,none⟩) 7 d1' 7 d2' 4 4 P35 N35 nm33 w ⟨srcRw w hw,srcRw w hw,rfl,rfl,hc1,hc2,by omega,by omega,hk.sizes⟩ hk (Src.own (b:=b25) hw rfl) rfl (by omega) nd33 (by have:=lf.length_eq;rw [List.length_map] at this;exact this) (fun k hk=>lf.mem_iff.1 (List.mem_map_of_mem hk)) (by decide)) ?_)
 rintro u R ⟨x,L,hL,rfl,rfl⟩
 obtain rfl:=of35 hL
 rw [List.cons_append,List.nil_append]
 refine T_open fun p hp=>?_
 obtain⟨A5,n5,c5,cs5,rfl,hm5,hl5,hnc5,hcap5,hat5,hrd5⟩:=hp.slice
 have h9:(1:Nat)=n5 * 1:=hm5
 obtain rfl:n5=1:=by omega
 repeat' (first|refine d1 ?_|(show ∀ _:Nat,T _ _ _ _ _;intro _))
 refine T_known 46 rfl rfl ?_
 refine T_op (OpT.sure (p:=true) rfl rfl rfl (OpT.litW rfl rfl rfl rfl rfl rfl rfl rfl rfl rfl rfl (fun b47=>?_)))
 refine T_le (H':=[row 3 1 B1 d1' 7 (P35.map (Value.int .i64)),blk b47 (P35.map (Value.int .i64)) 3]) (hle_pm [4,0] [_,_,_,_,_,_] []) ?_
 refine T_rowCap fun hcap=>?_
 refine T_op (OpT.sure (p:=true) rfl rfl rfl (OpT.call rfl rfl rfl rfl rfl (fun w hw=>equalI_spec (.slice B1 7 d1') (.slice (some ⟨b47,0,none⟩) 7 7) P35 P35 w (rd_intsU (srcRw w hw) (by omega) (by omega)) (rd_intsU (Src.own (b:=b47) hw rfl) (by omega) (by omega))) ?_))
 rintro u R ⟨rfl,rfl⟩
 repeat' (first|refine d1 ?_|refine dd ?_|(show ∀ _:Nat,T _ _ _ _ _;intro _)|(show T _ (.code .ret::_) _ _ _;refine T_retV [] rfl (Hle.none _) ⟨rfl,rfl⟩))
end Go.Proofs.YtabhdaehomjlgaaGreat
