/- Joined texts of this claim, part 4. -/
import Derived.Test.YtabhdaehomjlgaaGreatT3
set_option linter.unusedSectionVars false
set_option linter.unusedVariables false
set_option linter.unusedSimpArgs false
namespace Go.Proofs.YtabhdaehomjlgaaGreat
open Go.RowKit Go.Shelf Go.Proofs
set_option maxRecDepth 100000
set_option maxHeartbeats 1000000

theorem siglum_size {s:ByteArray} (h:siglum22 s=true):s.size≤1000:=by
 unfold siglum22 at h
 split at h
 ·simp only [Bool.and_eq_true,decide_eq_true_eq] at h;omega
 ·unfold isNameB at h
  simp only [Bool.and_eq_true,decide_eq_true_eq] at h;omega
theorem tOk.sizes {ps:List Int} {ns:List ByteArray} (h:tOk ps ns):∀ s∈ns,s.size≤1000000:=fun s hs=>by
 obtain⟨i,hi⟩:=List.mem_iff_getElem?.1 hs
 have hil:=(List.getElem?_eq_some_iff.1 hi).1
 have hd:ns.getD i ByteArray.empty=s:=by rw [List.getD_eq_getElem?_getD,hi];rfl
 by_cases h0:kdsI ps i ps.length=[]
 ·have:=siglum_size (h.lf i (by rw [← h.len];exact hil) h0).1
  rw [hd] at this;omega
 ·have:=h.inn i (by rw [← h.len];exact hil) h0
  rw [hd] at this
  rw [this]
  exact Nat.zero_le _
theorem OpT.callE2 {C:Cx} {all:Array Oper} {o:Oper} {env:Env} {ec:EnvC} {H:List HA} {d:Nat} {f:FuncId} {args:List Value} {Φ:Env→EnvC→List HA→Prop} {α:Type} {p:α→Prop} {val:α→Value} {o1 o2:α→HA} (hg:gOf all env ec o=some []) (he:evCall env ec [] o=some (f,args)) (hd:o.dst=some d) (hN:Nat.blt d C.N.n=true) (hs:safeC all d ec=true)
  (hc:∀ w,Cls C.w0 w H→Spec C.S.P f args w (fun u A=>∃ x,p x∧u=val x∧A=[o1 x,o2 x])) (h:∀ x,p x→Φ ((d,val x)::env) ec (o1 x::o2 x::H)):OpT C all o env ec H Φ :=
 OpT.call hg he hd hN hs hc (by rintro u A ⟨x,hp,rfl,rfl⟩;exact h x hp)
theorem SpecB.le {P:Program} {f:FuncId} {args:List Value} {w0:World} {H H':List HA} {Φ:Value→List HA→Prop} (hl:Hle H H') (h:SpecB P f args w0 H' Φ):SpecB P f args w0 H Φ:=⟨h.enters,fun w hw=>h.calls w (hw.le hl)⟩
theorem topRestricted_walk (A1 A2 As:Option Addr) (n1 c1 n2 c2 m cs:Nat) (ps:List Int) (ns:List ByteArray) (st:List Int) (wh:Nat) (w:World) (ht:TrR w A1 n1 c1 A2 n2 c2 ps ns) (hst:Src w 1 As m (st.map (Value.int .i64))) (hm:st.length=m) (hmb:m≤9223372036854775807) (hwh:wh<256) :
  Spec Tryz.prog 4 [.agg #[.slice A1 n1 c1, .slice A2 n2 c2], .slice As m cs, .int .u8 (wh:Nat)] w (fun v R=>v = .bool true∧R=[]):=by
 refine spec_of sg Tryz.func4 rfl rfl rfl ?_
 repeat' (first|(show T _ (.ops _ (⟨_, .box _ _,_,_,_,_⟩::_)::_) _ _ _;refine T_op (OpT.box (cs:=[.slice A1 n1 c1, .slice A2 n2 c2]) rfl rfl rfl rfl rfl rfl rfl (fun _=>?_)))|refine d1 ?_|(show ∀ _:Nat,T _ _ _ _ _;intro _))
 rename_i t3
 refine T_op (OpT.call rfl rfl rfl rfl rfl (fun w hw=>top33Leaves_spec A1 A2 As n1 c1 n2 c2 m cs ps ns st w (ht.cls hw) (src_below hst hw.below) hm hmb) ?_)
 rintro u R (⟨rfl,rfl⟩|⟨hf,⟨⟨Al,cl⟩,⟨An,cn⟩⟩,rfl,rfl⟩)
 ·rw [List.nil_append]
  repeat' (first|refine d1 ?_|(show ∀ _:Nat,T _ _ _ _ _;intro _))
  refine T_if rfl (fun _=>?_) (fun h=>by exfalso;simp at h)
  repeat' (first|refine d1 ?_|refine dd ?_|(show T _ (.ops _ (_::_)::_) _ _ _;first|refine T_call rfl rfl rfl rfl rfl (fun w hw=>top33Awake_spec w) ?_|refine T_callC rfl rfl rfl rfl rfl rfl rfl (fun hg w hw=>top33Awake_spec w) ?_)|(show T _ (.run _ _ (_::_) _ _::_) _ _ _;first|refine rc rfl rfl rfl rfl rfl rfl rfl (fun w hw=>top33Awake_spec w) ?_|refine rcG rfl rfl rfl rfl rfl rfl rfl rfl rfl (fun hg w hw=>top33Awake_spec w) ?_)|(show ∀ _:Nat,T _ _ _ _ _;intro _)|(show T _ (.code .ret::_) _ _ _;refine T_retV [] rfl (Hle.none _) ⟨rfl,rfl⟩))
 dsimp only
 refine T_le (H':=[row 3 1 Al cl (lfI ns).length ((lfZ ns).map (Value.int .i64)),blk t3 [.slice A1 n1 c1, .slice A2 n2 c2] 30]) (Hle.refl _) ?_
 repeat' (first|refine d1 ?_|(show ∀ _:Nat,T _ _ _ _ _;intro _))
 refine T_if rfl (fun h=>?_) (fun h=>?_)
 ·repeat' (first|refine d1 ?_|refine dd ?_|(show T _ (.ops _ (_::_)::_) _ _ _;first|refine T_call rfl rfl rfl rfl rfl (fun w hw=>top33Awake_spec w) ?_|refine T_callC rfl rfl rfl rfl rfl rfl rfl (fun hg w hw=>top33Awake_spec w) ?_)|(show T _ (.run _ _ (_::_) _ _::_) _ _ _;first|refine rc rfl rfl rfl rfl rfl rfl rfl (fun w hw=>top33Awake_spec w) ?_|refine rcG rfl rfl rfl rfl rfl rfl rfl rfl rfl (fun hg w hw=>top33Awake_spec w) ?_)|(show ∀ _:Nat,T _ _ _ _ _;intro _)|(show T _ (.code .ret::_) _ _ _;refine T_retV [] rfl (Hle.none _) ⟨rfl,rfl⟩))
 have h2:2≤(lfI ns).length:=by
  simp at h
  omega
 repeat' (first|refine d1 ?_|(show ∀ _:Nat,T _ _ _ _ _;intro _))
 have hok:=hf.ok
 have h12:(lfI ns).length≤12:=by rw [hf.len];exact hf.m12
 have hl1:=ht.l1
 have hn12:=hf.n12
 have hl9:=hok.len
 have hl2:=ht.l2
 have hta:TrA w A1 n1 c1 A2 n2 c2 ps ns:=ht.tra (by omega) (by omega) (fun s hs=>by have:=hf.sz s hs;omega)
 obtain⟨k,hkv,hkl⟩:∃ k:Nat,((wh:Nat):Int) % ((lfI ns).length:Int)=(k:Int)∧k<(lfI ns).length:=by
  refine ⟨wh % (lfI ns).length,by omega,Nat.mod_lt _ (by omega)⟩
 rw [hkv]
 obtain⟨c,hc⟩:∃ c,(lfI ns)[k]?=some c:=⟨_,List.getElem?_eq_getElem hkl⟩
 obtain⟨y,hy,hyi,hyc,hyp⟩:=kept_some hok hc h2
 have hkeep:=allBut_keep hc h2
 have hnp:=nms_ndOf hok
 have hnn:=nms_nodup hok
 have hal:(allBut ns k).length=(lfI ns).length - 1:=by
  unfold allBut
  rw [List.length_append,List.length_take,List.length_drop,lfZ_len]
  omega
 have hcut:∀ (w':World) (g9:Nat),Src w' 1 (some ⟨g9,0,none⟩) (lfI ns).length (((lfZ ns).take k++(lfZ ns).drop (k+1)++[0]).map (Value.int .i64))→Src w' 1 (some ⟨g9,0,none⟩) ((lfI ns).length - 1) ((allBut ns k).map (Value.int .i64)):=fun w' g9 hs9=>by
  have h9:=src_takeT hs9 ((lfI ns).length - 1) (by omega)
  rw [← List.map_take,show (lfZ ns).take k++(lfZ ns).drop (k+1)=allBut ns k from rfl,List.take_append_of_le_length (by omega),List.take_of_length_le (by omega)] at h9
  exact h9
 have hyn:(nmsN y).Nodup:=by
  refine hyp.nodup_iff.2 ?_
  have h9:=hnp.nodup_iff.1 hnn
  refine h9.sublist ?_
  refine List.Sublist.map _ ?_
  have h1:((lfI ns).take k++(lfI ns).drop (k+1)).Sublist ((lfI ns).take k++(lfI ns).drop k):=(List.Sublist.refl _).append (List.drop_sublist_drop_left _ (Nat.le_succ k))
  rwa [List.take_append_drop] at h1
 have hyl:(nmsN y).length≤12:=by
  rw [hyp.length_eq,List.length_map,List.length_append,List.length_take,List.length_drop];omega
 refine T_cutX 1 [] (fun s:Nat × (Option Addr × Nat) × (Option Addr × Nat)=>[(11, .pointer (some ⟨s.1,0,none⟩)),(12, .int .i64 0)]) (fun s=>[blk s.1 [.slice s.2.1.1 (cntN (canN y)) s.2.1.2, .slice s.2.2.1 (cntN (canN y)) s.2.2.2] 30,row 3 1 s.2.1.1 s.2.1.2 (cntN (canN y)) ((prsN (-1) 0 (canN y)).map (Value.int .i64)),row 9 1 s.2.2.1 s.2.2.2 (cntN (canN y)) ((nmP (canN y)).map Value.string),row 3 1 Al cl (lfI ns).length ((lfZ ns).map (Value.int .i64)),blk t3 [.slice A1 n1 c1, .slice A2 n2 c2] 30]) (fun _=>True) ?_ ?_
 ·refine dw0 1000 [blk t3 [.slice A1 n1 c1, .slice A2 n2 c2] 30] ?_
  repeat' (first|(show T _ (.draw _ _ _ _ _::_) _ _ _;first|refine dw1 ?_|refine dwb rfl (by decide +kernel) ?_)|(show AllL _ [];exact True.intro)|(show AllL _ (_::_);refine ⟨?_,?_⟩)|(show OpT _ _ _ _ _ _ _;first|refine dwx ?_|(refine OpT.callE1 rfl rfl rfl rfl rfl (fun w' hw=>cloneI_spec Al (lfI ns).length cl (lfZ ns) w' (srcRowT hw (by omega)) (by omega)) (fun y4 _=>?_);obtain⟨f1,f2⟩:=y4;dsimp only;refine ⟨fun _=>(by first|exact Hle.none _|exact Hle.sub|exact absurd ‹_› (by decide +kernel)),?_⟩;refine T_rowCap (fun hcap9=>?_);refine T_rowAt (by omega) ?_;rintro g9 rfl)|(refine OpT.callB rfl rfl rfl rfl rfl (deleteI_spec _ (lfI ns).length _ _ k (lfZ ns) w _ (lfZ_len ns) hkl hcap9.1 hcap9.2 (by omega)) ?_;rintro u9 R9 ⟨rfl,rfl⟩;refine ⟨fun _=>(by first|exact Hle.none _|exact Hle.sub|exact absurd ‹_› (by decide +kernel)),?_⟩)|(refine OpT.callB rfl rfl rfl rfl rfl (SpecB.le hle_swap (deleteI_spec _ (lfI ns).length _ _ k (lfZ ns) w _ (lfZ_len ns) hkl hcap9.1 hcap9.2 (by omega))) ?_;rintro u9 R9 ⟨rfl,rfl⟩;refine ⟨fun _=>(by first|exact Hle.none _|exact Hle.sub|exact absurd ‹_› (by decide +kernel)),?_⟩)|(refine OpT.callE2 rfl rfl rfl rfl rfl (fun w' hw=>restrict_spec A1 A2 (some ⟨g9,0,none⟩) n1 c1 n2 c2 ((lfI ns).length - 1) _ ps ns (allBut ns k) y w' (hta.cls hw) (hcut w' _ (srcRowT hw (by omega))) hal (by omega) hok hkeep hy hyn hyl) (fun y9 _=>?_);obtain⟨⟨r1,r2⟩,⟨r3,r4⟩⟩:=y9;dsimp only;refine ⟨fun _=>(by first|exact Hle.none _|exact Hle.sub|exact absurd ‹_› (by decide +kernel)),?_⟩))|(show ∀ _:Nat,T _ _ _ _ _;intro _)|(show T _ (.mark _::_) _ _ _;exact T_meetX (_,(_,_),(_,_)) trivial (hG:=by exact Hle.srt)))
 rintro⟨b11,⟨B1,d1'⟩,⟨B2,d2'⟩⟩ -
 dsimp only
 -- the tree that is left
 generalize hq:canN y=q at hyi hyc
 have hqn:(nmsN q).Perm (((lfI ns).take k++(lfI ns).drop (k+1)).map fun i=>ns.getD i ByteArray.empty):=by rw [← hq];exact (canN_nms y).trans hyp
 have hqd:(nmsN q).Nodup:=by rw [← hq];exact (canN_nms y).nodup_iff.2 hyn
 have hsub:∀ i∈(lfI ns).take k++(lfI ns).drop (k+1),i∈lfI ns:=fun i hi=>by
  rcases List.mem_append.1 hi with h|h
  ·exact List.mem_of_mem_take h
  ·exact List.mem_of_mem_drop h
 have hqs:∀ a∈nmsN q,siglum22 a=true:=fun a ha=>by
  obtain⟨i,hi,rfl⟩:=List.mem_map.1 (hqn.mem_iff.1 ha)
  have h1:=hsub i hi
  have h3:=(lfI_mem.1 h1).1
  exact (hok.lf i (by omega) ((hok.leaf (by omega)).2 h1)).1
 have hok':tOk (prsN (-1) 0 q) (nmP q):=tOk_back (by omega) hyi hqs hqd
 have hl':(nmP q).length=cntN q:=nmP_len q
 have hp':(prsN (-1) 0 q).length=cntN q:=prsN_len q _ _
 have hnq:(nmsN q).Perm ((lfI (nmP q)).map fun m=>(nmP q).getD m ByteArray.empty):=by
  have h1:=nms_ndOf hok'
  rw [← noO_nms,ndOf_back,noO_nms] at h1
  exact h1
 have hlen':(lfI (nmP q)).length=(lfI ns).length - 1:=by
  have h1:=hnq.length_eq
  rw [hqn.length_eq,List.length_map,List.length_map,List.length_append,List.length_take,List.length_drop] at h1
  omega
 refine T_le (hle_pm [1,2,0,3,4] [_,_,_,_,_] []) ?_
 refine T_rowCap fun hcap1=>?_
 refine T_le (hle_pm [1,0,2,3,4] [_,_,_,_,_] []) ?_
 refine T_rowCap fun hcap2=>?_
 refine T_le (H':=[blk b11 [.slice B1 (cntN q) d1', .slice B2 (cntN q) d2'] 30,row 3 1 B1 d1' (cntN q) ((prsN (-1) 0 q).map (Value.int .i64)),row 9 1 B2 d2' (cntN q) ((nmP q).map Value.string),row 3 1 Al cl (lfI ns).length ((lfZ ns).map (Value.int .i64)),blk t3 [.slice A1 n1 c1, .slice A2 n2 c2] 30]) (hle_pm [2,1,0,3,4] [_,_,_,_,_] []) ?_
 repeat' (first|refine d1 ?_|(show ∀ _:Nat,T _ _ _ _ _;intro _))
 refine T_op (OpT.call rfl rfl rfl rfl rfl (fun w' hw=>leavesTree_spec B1 B2 (cntN q) d1' (cntN q) d2' (prsN (-1) 0 q) (nmP q) w' ⟨srcRw w' hw,srcRw w' hw,hp',hl',hcap1.1,hcap2.1,by omega,by omega,hok'.sizes⟩) ?_)
 rintro u R (⟨h9,rfl,rfl⟩|⟨-,⟨Bl,dl⟩,rfl,rfl⟩)
 ·exact absurd hok' h9
 dsimp only
 rw [lfZ_nums]
 refine T_le (H':=[row 3 1 Bl dl (lfI (nmP q)).length ((lfZ (nmP q)).map (Value.int .i64)),blk b11 [.slice B1 (cntN q) d1', .slice B2 (cntN q) d2'] 30,row 3 1 B1 d1' (cntN q) ((prsN (-1) 0 q).map (Value.int .i64)),row 9 1 B2 d2' (cntN q) ((nmP q).map Value.string),row 3 1 Al cl (lfI ns).length ((lfZ ns).map (Value.int .i64)),blk t3 [.slice A1 n1 c1, .slice A2 n2 c2] 30]) (Hle.refl _) ?_
 repeat' (first|refine d1 ?_|(show ∀ _:Nat,T _ _ _ _ _;intro _))
 refine T_if rfl (fun h=>by exfalso;simp at h;omega) (fun _=>?_)
 refine T_rowAt (by omega) ?_
 rintro gl rfl
 have hrl:(restN ns (nmP q) st).length=(lfI (nmP q)).length:=by unfold restN;rw [List.length_map]
 have hlst:=hf.len
 obtain⟨gs,os,rfl⟩:=hst.base (by omega)
 repeat' (first|refine d1 ?_|(show ∀ _:Nat,T _ _ _ _ _;intro _))
 refine T_nilrow 3 1 ?_
 refine T_loopX (fun s:List Int × Option Addr × Nat=>[(75, .int .i64 (s.1.length:Nat)),(15, .slice s.2.1 s.1.length s.2.2)]) (fun s=>[row 3 1 s.2.1 s.2.2 s.1.length (s.1.map (Value.int .i64)),row 3 1 (some ⟨gl,0,none⟩) dl (lfI (nmP q)).length ((lfZ (nmP q)).map (Value.int .i64)),blk b11 [.slice B1 (cntN q) d1', .slice B2 (cntN q) d2'] 30,row 3 1 B1 d1' (cntN q) ((prsN (-1) 0 q).map (Value.int .i64)),row 9 1 B2 d2' (cntN q) ((nmP q).map Value.string),row 3 1 Al cl (lfI ns).length ((lfZ ns).map (Value.int .i64)),blk t3 [.slice A1 n1 c1, .slice A2 n2 c2] 30]) (fun s=>s.1.length≤(lfI (nmP q)).length∧s.1=(restN ns (nmP q) st).take s.1.length) (fun s=>(lfI (nmP q)).length - s.1.length) ([],none,0) ⟨Nat.zero_le _,rfl⟩ ?_
 rintro⟨rl,A',c'⟩ ⟨hrn,hrt⟩
 dsimp only at hrn hrt ⊢
 repeat' (first|refine d1 ?_|(show ∀ _:Nat,T _ _ _ _ _;intro _))
 refine T_if rfl (fun h4=>?_) (fun h4=>?_)
 ·simp only [decide_eq_true_eq] at h4
  obtain⟨mm,hmm⟩:∃ mm,(lfI (nmP q))[rl.length]?=some mm:=⟨_,List.getElem?_eq_getElem (by omega)⟩
  have hmi:=List.mem_of_getElem? hmm
  have hmq:=(lfI_mem.1 hmi).1
  have hkc:((lfZ (nmP q)).map (Value.int .i64))[rl.length]?=some (.int .i64 (mm:Nat)):=by
   unfold lfZ;rw [List.getElem?_map,List.getElem?_map,hmm];rfl
  have hnm:(nmP q).getD mm ByteArray.empty∈nmsN q:=hnq.mem_iff.2 (List.mem_map_of_mem hmi)
  obtain⟨i,hi,hie⟩:=List.mem_map.1 (hqn.mem_iff.1 hnm)
  have hiL:=hsub i hi
  have hic:i≠c:=fun e=>by
   subst e
   have hnd:=lfI_nodup ns
   have hd:lfI ns=(lfI ns).take k++i::(lfI ns).drop (k+1):=by
    have hk9:=List.getElem?_eq_some_iff.1 hc
    conv=>lhs;rw [← List.take_append_drop k (lfI ns)]
    rw [List.drop_eq_getElem_cons hk9.1,hk9.2]
   rw [hd,List.nodup_append] at hnd
   rcases List.mem_append.1 hi with h|h
   ·exact hnd.2.2 i h i (.head _) rfl
   ·exact (List.nodup_cons.1 hnd.2.1).1 h
  obtain⟨jj,z,hf1,hf2,hf3,hf4⟩:=rest_at hok st hf.len hiL
  have hjk:jj≠k:=fun e=>by
   subst e
   rw [hc] at hf2
   exact hic (Option.some.inj hf2).symm
  have hjl:=(List.getElem?_eq_some_iff.1 hf3).1
  have hrz:=src_int hst (k:=jj) (by omega) hf3
  have hrest:(restN ns (nmP q) st)[rl.length]?=some z:=by
   unfold restN
   rw [List.getElem?_map,hmm, ← hf4,hie];rfl
  repeat' (first|refine d1 ?_|(show T _ (.ops _ (_::_)::_) _ _ _;first|refine T_val rfl (Val.load rfl (fun hg=>rdRow (A:=some ⟨gl,0,none⟩) (vs:=[.int .i64 (mm:Nat)]) (by omega) (fun j u hu=>by cases j with|zero=>simp at hu;subst hu;rw [show 0+((rl.length:Nat):Int).toNat * 1+0=rl.length by omega];exact hkc|succ j=>simp at hu))) rfl rfl rfl ?_|refine T_valC rfl (Val.load rfl (fun hg=>rdRow (A:=some ⟨gl,0,none⟩) (vs:=[.int .i64 (mm:Nat)]) (by omega) (fun j u hu=>by cases j with|zero=>simp at hu;subst hu;rw [show 0+((rl.length:Nat):Int).toNat * 1+0=rl.length by omega];exact hkc|succ j=>simp at hu))) rfl rfl rfl rfl rfl ?_)|(show T _ (.run _ _ (_::_) _ _::_) _ _ _;first|refine rv rfl rfl rfl (Val.load rfl (fun hg=>rdRow (A:=some ⟨gl,0,none⟩) (vs:=[.int .i64 (mm:Nat)]) (by omega) (fun j u hu=>by cases j with|zero=>simp at hu;subst hu;rw [show 0+((rl.length:Nat):Int).toNat * 1+0=rl.length by omega];exact hkc|succ j=>simp at hu))) rfl rfl rfl ?_|refine rg rfl rfl rfl (Val.load rfl (fun hg=>rdRow (A:=some ⟨gl,0,none⟩) (vs:=[.int .i64 (mm:Nat)]) (by omega) (fun j u hu=>by cases j with|zero=>simp at hu;subst hu;rw [show 0+((rl.length:Nat):Int).toNat * 1+0=rl.length by omega];exact hkc|succ j=>simp at hu))) rfl rfl rfl rfl rfl ?_)|(show ∀ _:Nat,T _ _ _ _ _;intro _))
  rename_i b17
  refine T_if rfl (fun h5=>?_) (fun _=>?_)
  ·exfalso;simp at h5;omega
  repeat' (first|refine d1 ?_|(show ∀ _:Nat,T _ _ _ _ _;intro _))
  refine T_op (OpT.call rfl rfl rfl rfl rfl (fun w' hw=>indexFuncI_spec Al (lfI ns).length cl (lfZ ns) 26 [] [.pointer (some ⟨t3,0,none⟩), .pointer (some ⟨b11,0,none⟩), .pointer (some ⟨b17,0,none⟩)] (fun x=>decide (ns.getD x.toNat ByteArray.empty=(nmP q).getD mm ByteArray.empty)) w' (srcRw w' hw) (lfZ_len ns) (by omega) (fun x hx w'' hb=>?_)) ?_)
  ·obtain⟨x,hxm,rfl⟩:=List.mem_map.1 (show x∈(lfI ns).map (fun (i:Nat)=>(i:Int)) from hx)
   have hxl:=(lfI_mem.1 hxm).1
   exact sameName_spec A1 A2 B1 B2 n1 c1 n2 c2 (cntN q) d1' (cntN q) d2' ns (nmP q) x mm t3 b11 b17 w'' ((rdBlk8 hw).below hb) ((rdBlk8 hw).below hb) ((rdBlk8 hw).below hb) (src_below (src_below ht.s2 hw.below) hb) (src_below (srcRw w' hw) hb) hl2 hl' (by omega) (by omega)
  rintro u R ⟨rfl,rfl⟩
  rw [List.nil_append, ← hie,hf1]
  repeat' (first|refine d1 ?_|(show ∀ _:Nat,T _ _ _ _ _;intro _))
  refine T_if rfl (fun h5=>?_) (fun _=>?_)
  ·exfalso;simp at h5;omega
  repeat' (first|refine d1 ?_|(show T _ (.ops _ (_::_)::_) _ _ _;first|refine T_val rfl (Val.load rfl (fun hg=>rdOld hrz)) rfl rfl rfl ?_|refine T_valC rfl (Val.load rfl (fun hg=>rdOld hrz)) rfl rfl rfl rfl rfl ?_|refine T_op (OpT.append (A:=A') rfl rfl rfl rfl rfl rfl rfl rfl rfl rfl (fun w hw=>Src.own hw rfl) rfl (by dsimp only;omega) (by omega) (fun A9 c9 hA9=>?_)))|(show T _ (.run _ _ (_::_) _ _::_) _ _ _;first|refine rv rfl rfl rfl (Val.load rfl (fun hg=>rdOld hrz)) rfl rfl rfl ?_|refine rg rfl rfl rfl (Val.load rfl (fun hg=>rdOld hrz)) rfl rfl rfl rfl rfl ?_)|(show ∀ _:Nat,T _ _ _ _ _;intro _))
  have hlen:(rl++[z]).length=rl.length+1:=by simp
  refine T_backX (rl++[z],A9,c9) ⟨by dsimp only;omega,?_⟩ (by dsimp only;omega) (hE:=⟨by dsimp only;rw [hlen];rfl,by dsimp only;rw [hlen];rfl,trivial⟩) (hG:=?_)
  ·dsimp only
   rw [hlen,take_snoc _ _ _ hrest, ← hrt]
  ·dsimp only
   rw [hlen,List.map_append]
   exact (Hle.tail _ _).trans (Hle.tail _ _)
 ·simp only [decide_eq_false_iff_not] at h4
  have hrr:rl=restN ns (nmP q) st:=by
   rw [hrt,List.take_of_length_le (by omega)]
  have hbd:∀ a,-1≤sgN ns st a∧sgN ns st a<16:=fun a=>by
   unfold sgN
   split
   ·omega
   ·rw [List.getD_eq_getElem?_getD]
    cases h9:st[(findI (fun k=>decide (ns.getD k ByteArray.empty=a)) (lfI ns)).toNat]? with
    | none=>exact⟨Int.le_refl _,by decide⟩
    | some z =>
     have:=hf.st4 z (List.mem_of_getElem? h9)
     show -1≤z∧z<16
     omega
  have hlaw:=restricted_law (rest:=rl) hok hc (fun a=>(hbd a).2) hy (by rw [hq];omega) (by rw [hq];exact hqs) (by rw [hq];exact hqd) (by rw [hq];exact hyi) (by
   rw [hq,hrr]
   exact fun a ha=>sgN_rest (hnq.mem_iff.1 ha))
  rw [hq] at hlaw
  subst hm
  repeat' (first|refine d1 ?_|(show ∀ _:Nat,T _ _ _ _ _;intro _))
  refine T_op (OpT.call rfl rfl rfl rfl rfl (fun w' hw=>fitch_spec A1 A2 (some ⟨gs,os,none⟩) n1 c1 n2 c2 cs ps ns st w' (hta.cls hw) hok (src_below hst hw.below) hf.len (by omega) (by omega) (fun x hx=>by have:=hf.st4 x hx;omega)) ?_)
  rintro u R ⟨rfl,rfl⟩
  rw [List.nil_append]
  repeat' (first|refine d1 ?_|(show ∀ _:Nat,T _ _ _ _ _;intro _))
  refine T_op (OpT.call rfl rfl rfl rfl rfl (fun w' hw=>fitch_spec B1 B2 A' (cntN q) d1' (cntN q) d2' c' (prsN (-1) 0 q) (nmP q) rl w' ⟨srcRw w' hw,srcRw w' hw,hp',hl',hcap1.1,hcap2.1,by omega,by omega,hok'.sizes⟩ hok' (srcRw w' hw) (by rw [hrr,hrl]) (by rw [hrr];omega) (by rw [hrr];omega) (fun x hx=>by
   rw [hrr] at hx
   obtain⟨m9,-,rfl⟩:=List.mem_map.1 (show x∈(lfI (nmP q)).map _ from hx)
   exact hbd _)) ?_)
  rintro u R ⟨rfl,rfl⟩
  rw [List.nil_append]
  have hN2 : -1≤lstK (rvT (prsN (-1) 0 q) (bsS (lfZ (nmP q)) rl) 0) 16∧lstK (rvT (prsN (-1) 0 q) (bsS (lfZ (nmP q)) rl) 0) 16≤64:=by
   rcases lstK_spec (rvT (prsN (-1) 0 q) (bsS (lfZ (nmP q)) rl) 0) 16 with⟨-,h9⟩|⟨⟨t,ht,h8,h9⟩,-⟩
   ·rw [h9];omega
   ·have:=rvT_le hok'.up (bs:=bsS (lfZ (nmP q)) rl) (fun i s=>(bsS_bd _ _ i s).2) hok'.pos t
    rw [h9];omega
  generalize lstK (rvT (prsN (-1) 0 q) (bsS (lfZ (nmP q)) rl) 0) 16=N2 at hlaw hN2 ⊢
  generalize lstK (rvT ps (bsS (lfZ ns) st) 0) 16=N1 at hlaw ⊢
  repeat' (first|refine d1 ?_|refine dd ?_|(show T _ (.ops _ (_::_)::_) _ _ _;first|refine T_call rfl rfl rfl rfl rfl (fun w hw=>top33Awake_spec w) ?_|refine T_callC rfl rfl rfl rfl rfl rfl rfl (fun hg w hw=>top33Awake_spec w) ?_)|(show T _ (.run _ _ (_::_) _ _::_) _ _ _;first|refine rc rfl rfl rfl rfl rfl rfl rfl (fun w hw=>top33Awake_spec w) ?_|refine rcG rfl rfl rfl rfl rfl rfl rfl rfl rfl (fun hg w hw=>top33Awake_spec w) ?_)|(show ∀ _:Nat,T _ _ _ _ _;intro _)|(show T _ (.code .ret::_) _ _ _;refine T_retV [] rfl (Hle.none _) ⟨congrArg Value.bool ?_,rfl⟩))
  simp [hlaw.1,hlaw.2]
end Go.Proofs.YtabhdaehomjlgaaGreat
