/- The law AlignproofPlaces holds for whatever sources and numbers: the tied card of its row. No condition beyond the row's own. -/
import Derived.Test.YtmenjpmikhajfaaGreatDoorJ5
import Derived.Test.YtmenjpmikhajfaaGreatDoorCards
import Derived.Test.YtmenjpmikhajfaaGreatDoorTie
set_option linter.unusedVariables false
set_option linter.unusedSimpArgs false
namespace Go.Proofs.YtmenjpmikhajfaaGreatDoor
open Go.RowKit Go.Shelf Go.ChangeShapes Go.WideShapes Go.Proofs
set_option maxRecDepth 100000
set_option maxHeartbeats 1000000

theorem placesOver_spec (t:TS) (w:World):Spec Tryz.prog 49 [t.val] w (fun v R=>v = .bool (decide ((1024:Int)<t.n))∧R=[]):=by
 refine spec_of sg Tryz.func49 rfl rfl rfl ?_
 repeat' (first|refine d1 ?_|refine dd ?_|(show ∀ _:Nat,T _ _ _ _ _;intro _)|(show T _ (.code .ret::_) _ _ _;refine T_retV [] rfl (Hle.refl _) ⟨rfl,rfl⟩))
theorem cmpLI_at (A B:Option Addr) (n ca cb:Nat) (a b:List Int) (w:World) (ha:Src w 1 A n (a.map (Value.int .i64))) (hb:Src w 1 B n (b.map (Value.int .i64))) (hla:a.length=n) (hlb:b.length=n) (hn:n≤1000) :
  Spec Tryz.prog 50 [.slice A n ca, .slice B n cb] w (fun v R=>v = .int .i64 (cmpLI a b)∧R=[]):=by
 subst hla
 have h:=cmpLI_spec A B ca cb a b w ha (by rw [hlb];exact hb) hn (by omega)
 rw [hlb] at h
 exact h
def modX (ls:List Nat) (xs:List Int) (k:Nat):List Nat:=(List.range k).map fun i=>(xs.getD i 0).toNat % (ls.getD i 0+1)
theorem modX_succ (ls:List Nat) (xs:List Int) (k:Nat):modX ls xs (k+1)=modX ls xs k++[(xs.getD k 0).toNat % (ls.getD k 0+1)]:=by
 unfold modX;rw [List.range_succ,List.map_append];rfl
theorem modX_len (ls:List Nat) (xs:List Int) (k:Nat):(modX ls xs k).length=k:=by unfold modX;simp
theorem modX_in (ls:List Nat) (xs:List Int):InB ls (modX ls xs ls.length):=by
 refine InB.of (modX_len _ _ _) fun s=>?_
 by_cases hs:s<ls.length
 ·unfold modX
  rw [List.getD_eq_getElem?_getD,List.getElem?_map,List.getElem?_range hs]
  show (xs.getD s 0).toNat % (ls.getD s 0+1)≤_
  have:=Nat.mod_lt (xs.getD s 0).toNat (show 0<ls.getD s 0+1 by omega)
  omega
 ·rw [List.getD_eq_getElem?_getD,List.getElem?_eq_none (by rw [modX_len];omega)]
  exact Nat.zero_le _
theorem intN_getD (u:List Nat) (i:Nat):(intN u).getD i 0=(u.getD i 0:Nat):=by
 unfold intN
 rw [List.getD_eq_getElem?_getD,List.getD_eq_getElem?_getD,List.getElem?_map]
 cases u[i]? <;> rfl
theorem intN_toNat (u:List Nat):(intN u).map Int.toNat=u:=by
 unfold intN
 rw [List.map_map]
 conv=>rhs;rw [← List.map_id u]
 exact List.map_congr_left fun x _=>by simp
theorem plc_in {l:List TS} {u:List Nat} (hp:plE l=0) (h:InB (lens l) u):plcV l (intN u)=(((numL (lens l) u:Nat):Int),0):=by
 have hl:u.length=l.length:=by rw [h.len,lens_len]
 unfold plcV
 rw [if_neg (fun h9=>h9 hp),if_neg (by rw [intN_len,hl];exact fun h9=>h9 rfl),if_neg,intN_toNat]
 rw [Bool.not_eq_true,List.any_eq_false]
 intro i _
 unfold rngB
 have h1:=h.get i
 rw [intN_getD]
 simp only [Bool.or_eq_true,decide_eq_true_eq]
 omega
theorem plc_bad {l:List TS} (v:List Int) (hp:plE l≠0):plcV l v=(0,plE l):=if_pos hp
theorem row_ints {A:Option Addr} {cap n:Nat} {r:List Int} {H:List HA}:Hle (row 3 1 A cap n (r.map (Value.int .i64))::H) (dat [.slice A n cap] [intsD r]::H):=by
 have e:intsD r = .s 1 ((r.map (Value.int .i64)).map .v):=by unfold intsD;rw [List.map_map];rfl
 rw [e];exact dat_rowV
theorem numL_rep0:∀ ls:List Nat,numL ls (List.replicate ls.length 0)=0
 | []=>rfl
 | _::ls=>by
  show 0 * volL ls+numL ls (List.replicate ls.length 0)=0
  rw [numL_rep0 ls];omega
theorem vol_1027:∀ {ls:List Nat},(∀ x∈ls,x≤1026)→volL ls≤1027 ^ ls.length
 | [],_=>Nat.le_refl _
 | n::ls,h=>by
  have h1:=vol_1027 (ls:=ls) fun x hx=>h x (List.mem_cons_of_mem _ hx)
  have h2:=h n (List.mem_cons_self ..)
  show (n+1) * volL ls≤1027 ^ (ls.length+1)
  rw [Nat.pow_succ,Nat.mul_comm]
  exact Nat.mul_le_mul h1 (by omega)
set_option maxHeartbeats 8000000 in
theorem placesL20_spec (x:Value) (m:List (List Tok)) (B D:Option Addr) (cb cd:Nat) (p q:List Int) (w:World) (hst:Std w) (hx:Rd (wr w) [x] [.s 1 (m.map toksD)]) (hp:Src w 1 B p.length (p.map (Value.int .u8))) (hpb:∀ z∈p,0≤z∧z≤255) (hpn:p.length≤9223372036854775807)
  (hq:Src w 1 D q.length (q.map (Value.int .u8))) (hqb:∀ z∈q,0≤z∧z≤255) (hqn:q.length≤9223372036854775807) :
  Spec Tryz.prog 7 [x, .slice B p.length cb, .slice D q.length cd] w (fun v R=>v = .bool true∧R=[]):=by
 obtain⟨A,ca,l,rfl,hnb,hs,hl,-⟩:=hx.toksL
 refine spec_of sg Tryz.func7 rfl rfl rfl ?_
 have hT:∀ {w':World} {H:List HA},Cls w w' H→TsOk w' l:=fun hw=>⟨fun t ht=>src_below (hl.src t ht) hw.below,hl.len,hl.bd⟩
 repeat' (first|refine d1 ?_|refine dd ?_|(show T _ (.ops _ (_::_)::_) _ _ _;first|refine T_call rfl rfl rfl rfl rfl (fun w hw=>great20_spec A l.length ca l w (rdSrc hs w hw) rfl hnb (hT hw)) ?_|refine T_callC rfl rfl rfl rfl rfl rfl rfl (fun hg w hw=>great20_spec A l.length ca l w (rdSrc hs w hw) rfl hnb (hT hw)) ?_)|(show T _ (.run _ _ (_::_) _ _::_) _ _ _;first|refine rc rfl rfl rfl rfl rfl rfl rfl (fun w hw=>great20_spec A l.length ca l w (rdSrc hs w hw) rfl hnb (hT hw)) ?_|refine rcG rfl rfl rfl rfl rfl rfl rfl rfl rfl (fun hg w hw=>great20_spec A l.length ca l w (rdSrc hs w hw) rfl hnb (hT hw)) ?_)|(show ∀ _:Nat,T _ _ _ _ _;intro _))
 refine T_if rfl (fun _=>?_) (fun h=>?_)
 ·repeat' (first|refine d1 ?_|refine dd ?_|(show T _ (.ops _ (_::_)::_) _ _ _;first|refine T_call rfl rfl rfl rfl rfl (fun w hw=>awake20_spec w (hst.cls hw)) ?_|refine T_callC rfl rfl rfl rfl rfl rfl rfl (fun hg w hw=>awake20_spec w (hst.cls hw)) ?_)|(show T _ (.run _ _ (_::_) _ _::_) _ _ _;first|refine rc rfl rfl rfl rfl rfl rfl rfl (fun w hw=>awake20_spec w (hst.cls hw)) ?_|refine rcG rfl rfl rfl rfl rfl rfl rfl rfl rfl (fun hg w hw=>awake20_spec w (hst.cls hw)) ?_)|(show ∀ _:Nat,T _ _ _ _ _;intro _)|(show T _ (.code .ret::_) _ _ _;refine T_retV [] rfl (Hle.none _) ⟨rfl,rfl⟩))
 have hh:great20B l=false∧l.length≤4∧1≤l.length∧p.length=l.length∧q.length=l.length:=by
  simp only [Bool.or_eq_false_iff,decide_eq_false_iff_not,Bool.not_eq_false',decide_eq_true_eq,bne_eq_false_iff_eq] at h
  exact⟨h.1.1.1.1,by omega,by omega,by omega,by omega⟩
 clear h
 obtain⟨hgr,h4,h1,hpl,hql⟩:=hh
 have hf:=fit_of hst hs rfl hl hgr
 obtain⟨n,hn⟩:∃ n,n=l.length:=⟨_,rfl⟩
 obtain⟨b,o,rfl⟩:=hs.base (by omega)
 obtain⟨bb,ob,rfl⟩:=hp.base (by omega)
 obtain⟨bd,od,rfl⟩:=hq.base (by omega)
 have hln:=lens_len l
 have hx26:∀ x∈lens l,x≤1026:=fun x hx=>by
  unfold lens at hx
  obtain⟨t,ht,rfl⟩:=List.mem_map.1 hx
  have:=hf.q t ht
  omega
 have hvk:∀ k,k≤4→volL ((lens l).take k)≤1112453263441:=fun k hk=>by
  have h9:=vol_1027 (ls:=(lens l).take k) fun x hx=>hx26 x (List.mem_of_mem_take hx)
  have h8:((lens l).take k).length≤4:=by rw [List.length_take];omega
  have h7:1027 ^ ((lens l).take k).length≤1027 ^ 4:=Nat.pow_le_pow_right (by omega) h8
  omega
 repeat' (first|refine d1 ?_|refine dd ?_|(show ∀ _:Nat,T _ _ _ _ _;intro _))
 refine T_nilrow 3 1 ?_
 refine T_nilrow 3 1 ?_
 refine T_nilrow 3 1 ?_
 refine T_loopX (fun s:Nat × (Option Addr × Nat) × (Option Addr × Nat) × (Option Addr × Nat)=>[(49, .int .i64 (s.1:Nat)),(7, .int .i64 (volL ((lens l).take s.1):Nat)),(8, .slice s.2.1.1 s.1 s.2.1.2),(9, .slice s.2.2.1.1 s.1 s.2.2.1.2),(10, .slice s.2.2.2.1 s.1 s.2.2.2.2)])
  (fun s=>[row 3 1 s.2.1.1 s.2.1.2 s.1 ((intN (modX (lens l) p s.1)).map (Value.int .i64)),row 3 1 s.2.2.1.1 s.2.2.1.2 s.1 ((intN (modX (lens l) q s.1)).map (Value.int .i64)),row 3 1 s.2.2.2.1 s.2.2.2.2 s.1 ((intN ((lens l).take s.1)).map (Value.int .i64))]) (fun s=>s.1≤n) (fun s=>n - s.1) (0,(none,0),(none,0),(none,0)) (Nat.zero_le _) ?_
 rintro⟨k,⟨A1,c1⟩,⟨A2,c2⟩,⟨A3,c3⟩⟩ hk
 dsimp only at hk ⊢
 repeat' (first|refine d1 ?_|refine dd ?_|(show ∀ _:Nat,T _ _ _ _ _;intro _))
 refine T_if rfl (fun h3=>?_) (fun h3=>?_)
 ·simp only [decide_eq_true_eq] at h3
  have hkn:k<l.length:=by omega
  obtain⟨t,ht⟩:∃ t,l[k]?=some t:=⟨_,List.getElem?_eq_getElem hkn⟩
  have hrt:RdC w b (o+(k:Int).toNat * 1) [.slice t.A t.n t.cap]:=by
   have h9:=(hs.get1 (i:=k) hkn (by rw [List.getElem?_map,ht];rfl)).2
   rw [Nat.mul_one] at h9
   rw [off1]
   exact h9
  have htl:(lens l)[k]?=some t.n:=lens_get ht
  have htg:(lens l).getD k 0=t.n:=by rw [List.getD_eq_getElem?_getD,htl];rfl
  have ht26:=hx26 t.n (List.mem_of_getElem? htl)
  obtain⟨z,hz⟩:∃ z,p[k]?=some z:=⟨_,List.getElem?_eq_getElem (by omega)⟩
  obtain⟨y,hy⟩:∃ y,q[k]?=some y:=⟨_,List.getElem?_eq_getElem (by omega)⟩
  have hrz:RdC w bb (ob+(k:Int).toNat * 1) [.int .u8 z]:=by
   have h9:=(hp.get1 (i:=k) (by omega) (by rw [List.getElem?_map,hz];rfl)).2
   rw [Nat.mul_one] at h9
   rw [off1]
   exact h9
  have hry:RdC w bd (od+(k:Int).toNat * 1) [.int .u8 y]:=by
   have h9:=(hq.get1 (i:=k) (by omega) (by rw [List.getElem?_map,hy];rfl)).2
   rw [Nat.mul_one] at h9
   rw [off1]
   exact h9
  have hzb:=hpb z (List.mem_of_getElem? hz)
  have hyb:=hqb y (List.mem_of_getElem? hy)
  have hv:=volL_snoc htl
  have hvb:=hvk k (by omega)
  have hvb1:=hvk (k+1) (by omega)
  have hvm:(volL ((lens l).take k):Int) * ((t.n:Int)+1)=(volL ((lens l).take (k+1)):Nat):=by rw [hv];push_cast;rfl
  have e1:modX (lens l) p (k+1)=modX (lens l) p k++[z.toNat % (t.n+1)]:=by rw [modX_succ,htg,List.getD_eq_getElem?_getD,hz];rfl
  have e2:modX (lens l) q (k+1)=modX (lens l) q k++[y.toNat % (t.n+1)]:=by rw [modX_succ,htg,List.getD_eq_getElem?_getD,hy];rfl
  have e3:(lens l).take (k+1)=(lens l).take k++[t.n]:=take_snoc _ _ _ htl
  have m1:z % ((t.n:Int)+1)=((z.toNat % (t.n+1):Nat):Int):=by
   obtain⟨z',rfl⟩:=Int.eq_ofNat_of_zero_le hzb.1
   push_cast;rfl
  have m2:y % ((t.n:Int)+1)=((y.toNat % (t.n+1):Nat):Int):=by
   obtain⟨y',rfl⟩:=Int.eq_ofNat_of_zero_le hyb.1
   push_cast;rfl
  repeat' (first|refine d1 ?_|refine dd ?_|(show T _ (.ops _ (_::_)::_) _ _ _;first|refine T_val rfl (Val.load rfl (fun hg=>rdOld hrt)) rfl rfl rfl ?_|refine T_valC rfl (Val.load rfl (fun hg=>rdOld hrt)) rfl rfl rfl rfl rfl ?_)|(show T _ (.run _ _ (_::_) _ _::_) _ _ _;first|refine rv rfl rfl rfl (Val.load rfl (fun hg=>rdOld hrt)) rfl rfl rfl ?_|refine rg rfl rfl rfl (Val.load rfl (fun hg=>rdOld hrt)) rfl rfl rfl rfl rfl ?_)|(show ∀ _:Nat,T _ _ _ _ _;intro _))
  repeat' (first|refine d1 ?_|(show ∀ _:Nat,T _ _ _ _ _;intro _))
  refine T_cutX 1 [8,9,10] (fun s:(Option Addr × Nat) × (Option Addr × Nat) × (Option Addr × Nat)=>[(8, .slice s.1.1 (k+1) s.1.2),(9, .slice s.2.1.1 (k+1) s.2.1.2),(10, .slice s.2.2.1 (k+1) s.2.2.2)]) (fun s=>[row 3 1 s.1.1 s.1.2 (k+1) ((intN (modX (lens l) p k)).map (Value.int .i64)++flatP [(0, .int .i64 (z % ((t.n:Int)+1)))]),row 3 1 s.2.1.1 s.2.1.2 (k+1) ((intN (modX (lens l) q k)).map (Value.int .i64)++flatP [(0, .int .i64 (y % ((t.n:Int)+1)))]),row 3 1 s.2.2.1 s.2.2.2 (k+1) ((intN ((lens l).take k)).map (Value.int .i64)++flatP [(0, .int .i64 (t.n:Nat))])]) (fun _=>True) ?_ ?_
  ·refine dw0 1000 [] ?_
   repeat' (first|(show T _ (.draw _ _ _ _ _::_) _ _ _;first|refine dw1 ?_|refine dwv rfl (by decide +kernel) rfl rfl (Val.load rfl (fun hg=>rdOld hrz)) rfl rfl rfl ?_|refine dwg rfl (by decide +kernel) rfl rfl (Val.load rfl (fun hg=>rdOld hrz)) rfl rfl rfl rfl rfl ?_|refine dwv rfl (by decide +kernel) rfl rfl (Val.load rfl (fun hg=>rdOld hry)) rfl rfl rfl ?_|refine dwg rfl (by decide +kernel) rfl rfl (Val.load rfl (fun hg=>rdOld hry)) rfl rfl rfl rfl rfl ?_|refine dwv rfl (by decide +kernel) rfl rfl (Val.load rfl (fun hg=>rdOld hrt)) rfl rfl rfl ?_|refine dwg rfl (by decide +kernel) rfl rfl (Val.load rfl (fun hg=>rdOld hrt)) rfl rfl rfl rfl rfl ?_|refine dwb rfl (by decide +kernel) ?_)|(show AllL _ [];exact True.intro)|(show AllL _ (_::_);refine ⟨?_,?_⟩)|(show OpT _ _ _ _ _ _ _;first|refine dwx ?_|refine OpT.ofVal rfl (Val.load rfl (fun hg=>rdOld hrz)) rfl rfl rfl ⟨fun _=>(by first|exact Hle.none _|exact Hle.sub|exact absurd ‹_› (by decide +kernel)),?_⟩|refine OpT.ofVal rfl (Val.load rfl (fun hg=>rdOld hry)) rfl rfl rfl ⟨fun _=>(by first|exact Hle.none _|exact Hle.sub|exact absurd ‹_› (by decide +kernel)),?_⟩|refine OpT.ofVal rfl (Val.load rfl (fun hg=>rdOld hrt)) rfl rfl rfl ⟨fun _=>(by first|exact Hle.none _|exact Hle.sub|exact absurd ‹_› (by decide +kernel)),?_⟩|refine OpT.append (A:=A1) rfl rfl rfl rfl rfl rfl rfl rfl rfl rfl (fun w hw=>Src.own hw rfl) rfl (by dsimp only;omega) (by omega) (fun _ _ _=>⟨fun _=>(by first|exact Hle.none _|exact Hle.sub|exact absurd ‹_› (by decide +kernel)),?_⟩)|refine OpT.append (A:=A2) rfl rfl rfl rfl rfl rfl rfl rfl rfl rfl (fun w hw=>Src.own hw rfl) rfl (by dsimp only;omega) (by omega) (fun _ _ _=>⟨fun _=>(by first|exact Hle.none _|exact Hle.sub|exact absurd ‹_› (by decide +kernel)),?_⟩)|refine OpT.append (A:=A3) rfl rfl rfl rfl rfl rfl rfl rfl rfl rfl (fun w hw=>Src.own hw rfl) rfl (by dsimp only;omega) (by omega) (fun _ _ _=>⟨fun _=>(by first|exact Hle.none _|exact Hle.sub|exact absurd ‹_› (by decide +kernel)),?_⟩))|(show ∀ _:Nat,T _ _ _ _ _;intro _)|(show T _ (.mark _::_) _ _ _;exact T_meetX ((_,_),(_,_),(_,_)) trivial (hG:=by exact Hle.srt)))
  rintro⟨⟨A1',c1'⟩,⟨A2',c2'⟩,⟨A3',c3'⟩⟩ -
  dsimp only
  repeat' (first|refine d1 ?_|refine dd ?_|(show ∀ _:Nat,T _ _ _ _ _;intro _))
  refine T_backX (k+1,(A1',c1'),(A2',c2'),(A3',c3')) (by dsimp only;omega) (by dsimp only;omega) (hE:=⟨rfl,by (try dsimp only);rw [← hvm];rfl,rfl,rfl,rfl,trivial⟩) (hG:=?_)
  dsimp only
  rw [e1,e2,e3,intN_snoc,intN_snoc,intN_snoc, ← m1, ← m2]
  exact Hle.srt
 simp only [decide_eq_false_iff_not] at h3
 obtain rfl:k=l.length:=by omega
 have htk:(lens l).take l.length=lens l:=by rw [← hln,List.take_length]
 obtain⟨u,hu⟩:∃ u,u=modX (lens l) p l.length:=⟨_,rfl⟩
 obtain⟨v,hv⟩:∃ v,v=modX (lens l) q l.length:=⟨_,rfl⟩
 have hui:InB (lens l) u:=by rw [hu, ← hln];exact modX_in _ _
 have hvi:InB (lens l) v:=by rw [hv, ← hln];exact modX_in _ _
 rw [← hu, ← hv,htk]
 clear hu hv
 have hul:(intN u).length=l.length:=by rw [intN_len,hui.len,hln]
 have hvl:(intN v).length=l.length:=by rw [intN_len,hvi.len,hln]
 have hll:(intN (lens l)).length=l.length:=by rw [intN_len,hln]
 refine T_le (H':=dat [.slice A1 l.length c1] [intsD (intN u)]::[row 3 1 A2 c2 l.length ((intN v).map (Value.int .i64)),row 3 1 A3 c3 l.length ((intN (lens l)).map (Value.int .i64))]) row_ints ?_
 refine T_open fun p1 hp1=>?_
 refine T_le (H':=dat [.slice A2 l.length c2] [intsD (intN v)]::[fz p1,row 3 1 A3 c3 l.length ((intN (lens l)).map (Value.int .i64))]) ((Hle.srt (K:=row 3 1 A2 c2 l.length ((intN v).map (Value.int .i64))::[fz p1,row 3 1 A3 c3 l.length ((intN (lens l)).map (Value.int .i64))])).trans row_ints) ?_
 refine T_open fun p2 hp2=>?_
 refine T_le (H':=dat [.slice A3 l.length c3] [intsD (intN (lens l))]::[fz p2,fz p1]) ((Hle.srt (K:=row 3 1 A3 c3 l.length ((intN (lens l)).map (Value.int .i64))::[fz p2,fz p1])).trans row_ints) ?_
 refine T_open fun p3 hp3=>?_
 have hz0:((List.replicate l.length (0:Int)).map (Value.int .i64))=List.replicate l.length (.int .i64 0):=List.map_replicate
 repeat' (first|refine d1 ?_|refine dd ?_|(show T _ (.ops _ (_::_)::_) _ _ _;refine T_op (OpT.make rfl rfl rfl rfl rfl rfl rfl rfl rfl (by dsimp only;omega) (fun b0=>?_)))|(show ∀ _:Nat,T _ _ _ _ _;intro _))
 refine T_le (H':=[blk b0 ((List.replicate l.length (0:Int)).map (Value.int .i64)) 3,fz p3,fz p2,fz p1]) (by rw [hz0];exact Hle.refl _) ?_
 repeat' (first|refine d1 ?_|refine dd ?_|(show T _ (.ops _ (_::_)::_) _ _ _;first|refine T_call rfl rfl rfl rfl rfl (fun w hw=>place20_spec (some ⟨b,o,none⟩) l.length ca l (some ⟨b0,0,none⟩) l.length _ (List.replicate l.length 0) w (hf.cls hw) (Src.own hw (by rw [List.length_map,List.length_replicate,Nat.mul_one])) List.length_replicate (by omega)) ?_|refine T_callC rfl rfl rfl rfl rfl rfl rfl (fun hg w hw=>place20_spec (some ⟨b,o,none⟩) l.length ca l (some ⟨b0,0,none⟩) l.length _ (List.replicate l.length 0) w (hf.cls hw) (Src.own hw (by rw [List.length_map,List.length_replicate,Nat.mul_one])) List.length_replicate (by omega)) ?_|refine T_call rfl rfl rfl rfl rfl (fun w hw=>place20_spec (some ⟨b,o,none⟩) l.length ca l A3 l.length c3 (intN (lens l)) w (hf.cls hw) ((hp3.own hw).intsAt) hll (by omega)) ?_|refine T_callC rfl rfl rfl rfl rfl rfl rfl (fun hg w hw=>place20_spec (some ⟨b,o,none⟩) l.length ca l A3 l.length c3 (intN (lens l)) w (hf.cls hw) ((hp3.own hw).intsAt) hll (by omega)) ?_|refine T_call rfl rfl rfl rfl rfl (fun w hw=>place20_spec (some ⟨b,o,none⟩) l.length ca l A1 l.length c1 (intN u) w (hf.cls hw) ((hp1.own hw).intsAt) hul (by omega)) ?_|refine T_callC rfl rfl rfl rfl rfl rfl rfl (fun hg w hw=>place20_spec (some ⟨b,o,none⟩) l.length ca l A1 l.length c1 (intN u) w (hf.cls hw) ((hp1.own hw).intsAt) hul (by omega)) ?_|refine T_call rfl rfl rfl rfl rfl (fun w hw=>place20_spec (some ⟨b,o,none⟩) l.length ca l A2 l.length c2 (intN v) w (hf.cls hw) ((hp2.own hw).intsAt) hvl (by omega)) ?_|refine T_callC rfl rfl rfl rfl rfl rfl rfl (fun hg w hw=>place20_spec (some ⟨b,o,none⟩) l.length ca l A2 l.length c2 (intN v) w (hf.cls hw) ((hp2.own hw).intsAt) hvl (by omega)) ?_)|(show T _ (.run _ _ (_::_) _ _::_) _ _ _;first|refine rc rfl rfl rfl rfl rfl rfl rfl (fun w hw=>place20_spec (some ⟨b,o,none⟩) l.length ca l (some ⟨b0,0,none⟩) l.length _ (List.replicate l.length 0) w (hf.cls hw) (Src.own hw (by rw [List.length_map,List.length_replicate,Nat.mul_one])) List.length_replicate (by omega)) ?_|refine rcG rfl rfl rfl rfl rfl rfl rfl rfl rfl (fun hg w hw=>place20_spec (some ⟨b,o,none⟩) l.length ca l (some ⟨b0,0,none⟩) l.length _ (List.replicate l.length 0) w (hf.cls hw) (Src.own hw (by rw [List.length_map,List.length_replicate,Nat.mul_one])) List.length_replicate (by omega)) ?_|refine rc rfl rfl rfl rfl rfl rfl rfl (fun w hw=>place20_spec (some ⟨b,o,none⟩) l.length ca l A3 l.length c3 (intN (lens l)) w (hf.cls hw) ((hp3.own hw).intsAt) hll (by omega)) ?_|refine rcG rfl rfl rfl rfl rfl rfl rfl rfl rfl (fun hg w hw=>place20_spec (some ⟨b,o,none⟩) l.length ca l A3 l.length c3 (intN (lens l)) w (hf.cls hw) ((hp3.own hw).intsAt) hll (by omega)) ?_|refine rc rfl rfl rfl rfl rfl rfl rfl (fun w hw=>place20_spec (some ⟨b,o,none⟩) l.length ca l A1 l.length c1 (intN u) w (hf.cls hw) ((hp1.own hw).intsAt) hul (by omega)) ?_|refine rcG rfl rfl rfl rfl rfl rfl rfl rfl rfl (fun hg w hw=>place20_spec (some ⟨b,o,none⟩) l.length ca l A1 l.length c1 (intN u) w (hf.cls hw) ((hp1.own hw).intsAt) hul (by omega)) ?_|refine rc rfl rfl rfl rfl rfl rfl rfl (fun w hw=>place20_spec (some ⟨b,o,none⟩) l.length ca l A2 l.length c2 (intN v) w (hf.cls hw) ((hp2.own hw).intsAt) hvl (by omega)) ?_|refine rcG rfl rfl rfl rfl rfl rfl rfl rfl rfl (fun hg w hw=>place20_spec (some ⟨b,o,none⟩) l.length ca l A2 l.length c2 (intN v) w (hf.cls hw) ((hp2.own hw).intsAt) hvl (by omega)) ?_)|(show ∀ _:Nat,T _ _ _ _ _;intro _))
 by_cases hpl:plE l≠0
 ·rw [plc_bad (List.replicate l.length 0) hpl,plc_bad (intN (lens l)) hpl,plc_bad (intN u) hpl,plc_bad (intN v) hpl]
  have hbig:(decide ((65536:Int)<(volL (lens l):Nat)) || l.any (fun t=>decide ((1024:Int)<t.n)))=true:=by
   unfold plE at hpl
   rw [if_neg (by omega)] at hpl
   by_cases hb9:bigS l
   ·obtain⟨-,hb9|⟨t,ht,hb9⟩⟩:=hb9
    ·omega
    ·rw [Bool.or_eq_true]
     exact .inr (List.any_eq_true.2 ⟨t,ht,decide_eq_true (by omega)⟩)
   ·rw [if_neg hb9] at hpl
    by_cases hv9:4<l.length∨65536<volL (lens l)
    ·rw [decide_eq_true (by omega)];rfl
    ·rw [if_neg hv9] at hpl
     exact absurd rfl hpl
  refine T_if rfl (fun _=>?_) (fun h=>by exfalso;simp [hpl] at h)
  repeat' (first|refine d1 ?_|refine dd ?_|(show T _ (.ops _ (_::_)::_) _ _ _;first|refine T_call rfl rfl rfl rfl rfl (fun w hw=>containsFuncS_spec (some ⟨b,o,none⟩) l.length ca l _ [] [] (fun t=>decide ((1024:Int)<t.n)) w (rdSrc hs w hw) rfl (by omega) (fun x hx w' hb'=>placesOver_spec x w')) ?_|refine T_callC rfl rfl rfl rfl rfl rfl rfl (fun hg w hw=>containsFuncS_spec (some ⟨b,o,none⟩) l.length ca l _ [] [] (fun t=>decide ((1024:Int)<t.n)) w (rdSrc hs w hw) rfl (by omega) (fun x hx w' hb'=>placesOver_spec x w')) ?_|refine T_call rfl rfl rfl rfl rfl (fun w hw=>awake20_spec w (hst.cls hw)) ?_|refine T_callC rfl rfl rfl rfl rfl rfl rfl (fun hg w hw=>awake20_spec w (hst.cls hw)) ?_)|(show T _ (.run _ _ (_::_) _ _::_) _ _ _;first|refine rc rfl rfl rfl rfl rfl rfl rfl (fun w hw=>containsFuncS_spec (some ⟨b,o,none⟩) l.length ca l _ [] [] (fun t=>decide ((1024:Int)<t.n)) w (rdSrc hs w hw) rfl (by omega) (fun x hx w' hb'=>placesOver_spec x w')) ?_|refine rcG rfl rfl rfl rfl rfl rfl rfl rfl rfl (fun hg w hw=>containsFuncS_spec (some ⟨b,o,none⟩) l.length ca l _ [] [] (fun t=>decide ((1024:Int)<t.n)) w (rdSrc hs w hw) rfl (by omega) (fun x hx w' hb'=>placesOver_spec x w')) ?_|refine rc rfl rfl rfl rfl rfl rfl rfl (fun w hw=>awake20_spec w (hst.cls hw)) ?_|refine rcG rfl rfl rfl rfl rfl rfl rfl rfl rfl (fun hg w hw=>awake20_spec w (hst.cls hw)) ?_)|(show ∀ _:Nat,T _ _ _ _ _;intro _)|(show T _ (.code .ret::_) _ _ _;refine T_retV [] rfl (Hle.none _) ⟨congrArg Value.bool ?_,rfl⟩))
  simp only [hbig]
  rfl
 have hpl:plE l=0:=by simpa using hpl
 have z0:plcV l (List.replicate l.length 0)=(0,0):=by
  have h9:=plc_in hpl (InB.zero (lens l))
  rw [numL_rep0,hln] at h9
  unfold intN at h9
  rw [List.map_replicate] at h9
  exact h9
 rw [z0,plc_in hpl (InB.self (lens l)),plc_in hpl hui,plc_in hpl hvi]
 -- num_max
 have hVb:volL (lens l)≤65536:=(plE_ok hpl).2.2.2
 have hVp:=volL_pos (lens l)
 refine T_if rfl (fun h=>by exfalso;simp at h) (fun _=>?_)
 repeat' (first|refine d1 ?_|refine dd ?_|(show T _ (.ops _ (_::_)::_) _ _ _;first|refine T_call rfl rfl rfl rfl rfl (fun w hw=>cmpLI_at A1 A2 l.length c1 c2 (intN u) (intN v) w (hp1.own hw).intsAt (hp2.own hw).intsAt hul hvl (by omega)) ?_|refine T_callC rfl rfl rfl rfl rfl rfl rfl (fun hg w hw=>cmpLI_at A1 A2 l.length c1 c2 (intN u) (intN v) w (hp1.own hw).intsAt (hp2.own hw).intsAt hul hvl (by omega)) ?_|refine T_call rfl rfl rfl rfl rfl (fun w hw=>equalI_spec _ _ (intN u) (intN v) w (hp1.own hw) (hp2.own hw)) ?_|refine T_callC rfl rfl rfl rfl rfl rfl rfl (fun hg w hw=>equalI_spec _ _ (intN u) (intN v) w (hp1.own hw) (hp2.own hw)) ?_|refine T_val rfl (Val.eqB rfl) rfl rfl rfl ?_|refine T_valC rfl (Val.eqB rfl) rfl rfl rfl rfl rfl ?_|refine T_call rfl rfl rfl rfl rfl (fun w hw=>awake20_spec w (hst.cls hw)) ?_|refine T_callC rfl rfl rfl rfl rfl rfl rfl (fun hg w hw=>awake20_spec w (hst.cls hw)) ?_)|(show T _ (.run _ _ (_::_) _ _::_) _ _ _;first|refine rc rfl rfl rfl rfl rfl rfl rfl (fun w hw=>cmpLI_at A1 A2 l.length c1 c2 (intN u) (intN v) w (hp1.own hw).intsAt (hp2.own hw).intsAt hul hvl (by omega)) ?_|refine rcG rfl rfl rfl rfl rfl rfl rfl rfl rfl (fun hg w hw=>cmpLI_at A1 A2 l.length c1 c2 (intN u) (intN v) w (hp1.own hw).intsAt (hp2.own hw).intsAt hul hvl (by omega)) ?_|refine rc rfl rfl rfl rfl rfl rfl rfl (fun w hw=>equalI_spec _ _ (intN u) (intN v) w (hp1.own hw) (hp2.own hw)) ?_|refine rcG rfl rfl rfl rfl rfl rfl rfl rfl rfl (fun hg w hw=>equalI_spec _ _ (intN u) (intN v) w (hp1.own hw) (hp2.own hw)) ?_|refine rv rfl rfl rfl (Val.eqB rfl) rfl rfl rfl ?_|refine rg rfl rfl rfl (Val.eqB rfl) rfl rfl rfl rfl rfl ?_|refine rc rfl rfl rfl rfl rfl rfl rfl (fun w hw=>awake20_spec w (hst.cls hw)) ?_|refine rcG rfl rfl rfl rfl rfl rfl rfl rfl rfl (fun hg w hw=>awake20_spec w (hst.cls hw)) ?_)|(show ∀ _:Nat,T _ _ _ _ _;intro _)|(show T _ (.code .ret::_) _ _ _;refine T_retV [] rfl (Hle.none _) ⟨congrArg Value.bool ?_,rfl⟩))
 have hV1:=num_all (lens l)
 have n1:=numL_lt hui
 have q1:decide (((numL (lens l) u:Nat):Int)<((numL (lens l) v:Nat):Int))=decide (cmpLI (intN u) (intN v)<0):=decide_eq_decide.2 (by rw [cmpLI_nat];have h9:=(numL_cmp hui hvi).1;omega)
 have q2:decide (((numL (lens l) u:Nat):Int)=((numL (lens l) v:Nat):Int))=decide (intN u=intN v):=decide_eq_decide.2 ⟨fun h=>by rw [(numL_cmp hui hvi).2.1 (by omega)],fun h=>by
  have h9:u=v:=by rw [← intN_toNat u,h,intN_toNat]
  rw [h9]⟩
 have q3:decide (((numL (lens l) (lens l):Nat):Int)=((volL (lens l):Nat):Int) - 1)=true:=decide_eq_true (by omega)
 have q4:decide ((0:Int)≤((numL (lens l) u:Nat):Int))=true:=decide_eq_true (by omega)
 have q5:decide (((numL (lens l) u:Nat):Int)<((volL (lens l):Nat):Int))=true:=decide_eq_true (by omega)
 simp only [q1,q2,q3,q4,q5]
 simp
theorem places20_met (os:Os) (args:Array Value):laidMetH Tryz.prog Rows.alignproofPlacesRow.laid ((World.doorLaid Tryz.prog 400 os).forCall (fun _ _=>0) ⟨#[],args,[]⟩).memory :=
 io_met os args
theorem places20_lifted (os:Os) (started:os.Started) (H:Type) (enc:TypeId × Value→H) :
  ReturnsInHanded {} Tryz.checked os 7 .any (fun w args=>(Rows.alignproofPlacesSpec.pre enc Tryz.prog Tryz.f7 [] false w args∧laidMetH Tryz.prog Rows.alignproofPlacesRow.laid w)∧sizedMet enc Tryz.prog Tryz.f7 (OpenSpec.ofChange Rows.alignproofPlacesSpec) false w args)
   (Rows.alignproofPlacesSpec.post enc Tryz.prog Tryz.f7 false true false false):=by
 refine returnsInHanded_of_change_and (C:=Tryz.checked) (X:=fun w _=>laidMetH Tryz.prog Rows.alignproofPlacesRow.laid w) (fun _ _ _ hh h=>h.of_heap hh) knob started (by as_aux_lemma=>kernel_rfl) Tryz.func7
  (ChangeSpec.witness_shaped (enc:=enc) (C:=Tryz.checked) (os:=os) (X:=fun w _=>laidMetH Tryz.prog Rows.alignproofPlacesRow.laid w) false (World.doorLaid Tryz.prog 400 os) #[.slice none 0 0, .slice none 0 0, .slice none 0 0] 8 rfl (World.shaped_of_RefB (by as_aux_lemma=>kernel_rfl) (by as_aux_lemma=>kernel_rfl)) (by as_aux_lemma=>kernel_rfl) (by as_aux_lemma=>kernel_rfl) (by as_aux_lemma=>kernel_rfl) (places20_met os _)) ?_
 intro W base args ds gs before hval0 hW _ _ hL _
 have hval:∀ (j:Nat) t v,Tryz.f7.params[j]?=some t→args[j]?=some v→Value.okWide Tryz.prog W .any base t v:=hval0
 have hstd:=std_of (show laidMetH Tryz.prog laids W from hL)
 have hW':=hW
 obtain⟨p,q,hA0,hV,rfl,hfz,hnd⟩:=hW
 have hA:DataW.TrodAll enc Tryz.prog W 0 (fun _=>true) true Tryz.f7.params.toList args.toList ds p:=hA0
 obtain⟨v0,vs0,d0,ds0,p0,q0,e0,rfl,rfl,h0,hA⟩:=trodAll_cons hA
 obtain⟨v1,vs1,d1,ds1,p1,q1,rfl,rfl,rfl,h1,hA⟩:=trodAll_cons hA
 obtain⟨v2,vs2,d2,ds2,p2,q2,rfl,rfl,rfl,h2,hA⟩:=trodAll_cons hA
 obtain⟨rfl,rfl,rfl⟩:=trodAll_nil hA
 have ea:args = #[v0,v1,v2]:=Array.ext' e0
 subst ea
 obtain⟨l,hr_l⟩:=arg_toksL (hval 0 _ v0 rfl rfl) h0
 obtain⟨A_a,cap_a,a,rfl,hb_a,hs_a,hz_a⟩:=arg_u8s (hval 1 _ v1 rfl rfl) h1
 obtain⟨A_b,cap_b,b,rfl,hb_b,hs_b,hz_b⟩:=arg_u8s (hval 2 _ v2 rfl rfl) h2
 refine (placesL20_spec v0 l A_a A_b cap_a cap_b a b W hstd hr_l hs_a hz_a hb_a hs_b hz_b hb_b).calls.mono ?_
 rintro e W' ⟨v,A,rfl,⟨rfl,_⟩,hb,_⟩
 exact⟨_,rfl,law_post hW' rfl rfl laidOk (by intro t ht;simp only [show Tryz.f7.params.toList=[24,60,60] from rfl,List.mem_cons,List.mem_nil_iff,or_false] at ht;rcases ht with rfl|rfl|rfl <;> exact⟨by as_aux_lemma=>kernel_rfl,of_decide_eq_true (by as_aux_lemma=>kernel_rfl)⟩) rfl Tryz.underlying4 hb⟩
theorem places20_j0:Tryz.prog.inPlace 7=Rows.alignproofPlacesRow.inPlace:=by as_aux_lemma=>kernel_rfl
theorem places20_j1:Tryz.prog.unfollowed 7=Rows.alignproofPlacesRow.unfollowed:=by as_aux_lemma=>kernel_rfl
theorem places20_j2:Tryz.prog.recurses 7=Rows.alignproofPlacesRow.recurses:=by as_aux_lemma=>kernel_rfl
theorem places20_j3:Tryz.prog.varsNamed 7=Rows.alignproofPlacesRow.named:=by as_aux_lemma=>kernel_rfl
theorem places20_joined:joinedFacts Tryz.prog 7 Tryz.f7 Rows.alignproofPlacesSpec Rows.alignproofPlacesRow=true:=by
 unfold joinedFacts
 rw [places20_j0,places20_j1,places20_j2,places20_j3,io_enter,io_lifts,io_make]
 kernel_rfl
theorem places20_holds:Rows.AlignproofPlacesSaid :=
 OpenClaim.holds_of_wide 7 Tryz.f7 rfl rfl rfl rfl rfl rfl rfl ⟨rfl,rfl,rfl,rfl,rfl⟩ rfl rfl rfl rfl rfl (by as_aux_lemma=>kernel_rfl) Tryz.func7 places20_joined
  (of_decide_eq_true (by as_aux_lemma=>kernel_rfl)) (by unfold Func.isWrapper;first|(rw [if_pos (by decide +kernel)];kernel_rfl)|(rw [if_neg (by decide +kernel)];exact⟨rfl,rfl⟩))
  (fun os started H enc _=>places20_lifted os started H enc)
theorem places20_card:Rows.AlignproofPlacesCardSaid :=
 Claim7.holds_tied_plain_at .later [] [.data, .data, .data, .sentinel, .sentinel] true (true, "a99cdf59d6efa606f87a5bb4c7fcc05d64041f068a1803fa1d9ac2571df2b43a") true
  places20_holds (fun _ h=>by cases h) (by as_aux_lemma=>kernel_rfl) (fun _ h=>by cases h) alignproofPlaces_row_tie rfl ⟨rfl,rfl⟩ io_main rfl
  (fun f fn hf hfn=>by
   obtain rfl : f = 7 := Option.some.inj ((show Tryz.prog.funcNamed "apograph/apographlaw20.AlignproofPlaces" = some 7 by as_aux_lemma => kernel_rfl).symm.trans hf) |>.symm
   obtain rfl:fn=Tryz.f7:=(Option.some.inj (Tryz.func7.symm.trans hfn)).symm
   exact⟨by as_aux_lemma=>kernel_rfl,fun j t ht=>by
    have ht':[24,60,60][j]?=some t:=by rw [Tryz.params7] at ht;simpa using ht
    have hm:=List.mem_of_getElem? ht'
    simp only [List.mem_cons,List.mem_nil_iff,or_false] at hm
    rcases hm with rfl|rfl|rfl <;> exact (show Tryz.prog.wantsStandIn _=false by as_aux_lemma=>kernel_rfl)⟩)
  (by as_aux_lemma=>kernel_rfl)
#print axioms places20_card
end Go.Proofs.YtmenjpmikhajfaaGreatDoor
