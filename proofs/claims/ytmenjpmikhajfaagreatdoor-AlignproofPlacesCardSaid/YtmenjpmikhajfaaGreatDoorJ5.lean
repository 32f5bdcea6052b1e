/- Joined texts of this claim, part 5. -/
import Derived.Test.YtmenjpmikhajfaaGreatDoorJ4
set_option linter.unusedVariables false
set_option linter.unusedSimpArgs false
namespace Go.Proofs.YtmenjpmikhajfaaGreatDoor
open Go.RowKit Go.Shelf Go.Proofs
set_option maxRecDepth 100000
set_option maxHeartbeats 1000000

def mnOf:Int→List Int→Int
 | a,[]=>a
 | a,x::l=>mnOf (min a x) l
theorem mnOf_lt:∀ (l:List Int) (a:Int),mnOf a l<0↔∃ z∈a::l,z<0
 | [],a=>by show a<0↔_;simp
 | x::l,a=>by
  show mnOf (min a x) l<0↔_
  rw [mnOf_lt l]
  simp only [List.mem_cons]
  constructor
  ·rintro⟨z,rfl|hz,h⟩
   ·by_cases h1:a<0
    ·exact⟨a, .inl rfl,h1⟩
    ·exact⟨x, .inr (.inl rfl),by omega⟩
   ·exact⟨z, .inr (.inr hz),h⟩
  ·rintro⟨z,rfl|rfl|hz,h⟩
   ·exact⟨_, .inl rfl,by omega⟩
   ·exact⟨_, .inl rfl,by omega⟩
   ·exact⟨z, .inr hz,h⟩
theorem mxOf_gt (B:Int):∀ (l:List Int) (a:Int),B<mxOf a l↔∃ z∈a::l,B<z
 | [],a=>by show B<a↔_;simp
 | x::l,a=>by
  show B<mxOf (max a x) l↔_
  rw [mxOf_gt B l]
  simp only [List.mem_cons]
  constructor
  ·rintro⟨z,rfl|hz,h⟩
   ·by_cases h1:B<a
    ·exact⟨a, .inl rfl,h1⟩
    ·exact⟨x, .inr (.inl rfl),by omega⟩
   ·exact⟨z, .inr (.inr hz),h⟩
  ·rintro⟨z,rfl|rfl|hz,h⟩
   ·exact⟨_, .inl rfl,by omega⟩
   ·exact⟨_, .inl rfl,by omega⟩
   ·exact⟨z, .inr hz,h⟩
theorem outP_any (a:Int) (r:List Int):(decide (mnOf a r<0) || decide (1073741824<mxOf a r))=(a::r).any outP:=by
 rw [Bool.eq_iff_iff,Bool.or_eq_true,decide_eq_true_eq,decide_eq_true_eq,mnOf_lt,mxOf_gt,List.any_eq_true]
 unfold outP
 simp only [Bool.or_eq_true,decide_eq_true_eq]
 constructor
 ·rintro (⟨z,h1,h2⟩|⟨z,h1,h2⟩)
  ·exact⟨z,h1, .inl h2⟩
  ·exact⟨z,h1, .inr h2⟩
 ·rintro⟨z,h1,h2|h2⟩
  ·exact .inl ⟨z,h1,h2⟩
  ·exact .inr ⟨z,h1,h2⟩
theorem mnOfnt_spec (A:Option Addr) (n ca:Nat) (a:Int) (r:List Int) (w:World) (hs:Src w 1 A n ((a::r).map (Value.int .i64))) (hn:(a::r).length=n) (hb:n≤1000) :
  Spec Tryz.prog 190 [.slice A n ca] w (fun v R=>v = .int .i64 (mnOf a r)∧R=[]):=by
 have hn2:r.length+1=n:=hn
 obtain⟨b,o,rfl⟩:=hs.base (by omega)
 have hr0:=src_int hs (k:=0) (x:=a) (by omega) rfl
 refine spec_of sg Tryz.func190 rfl rfl rfl ?_
 repeat' (first|refine d1 ?_|refine dd ?_|(show ∀ _:Nat,T _ _ _ _ _;intro _))
 refine T_if rfl (fun h=>by exfalso;simp at h;omega) (fun _=>?_)
 repeat' (first|refine d1 ?_|refine dd ?_|(show T _ (.ops _ (_::_)::_) _ _ _;first|refine T_val rfl (Val.load rfl (fun hg=>rdOld hr0)) rfl rfl rfl ?_|refine T_valC rfl (Val.load rfl (fun hg=>rdOld hr0)) rfl rfl rfl rfl rfl ?_)|(show T _ (.run _ _ (_::_) _ _::_) _ _ _;first|refine rv rfl rfl rfl (Val.load rfl (fun hg=>rdOld hr0)) rfl rfl rfl ?_|refine rg rfl rfl rfl (Val.load rfl (fun hg=>rdOld hr0)) rfl rfl rfl rfl rfl ?_)|(show ∀ _:Nat,T _ _ _ _ _;intro _))
 refine T_loopX (fun s:Nat × Int=>[(4, .int .i64 (s.1:Nat)),(3, .int .i64 s.2)]) (fun _=>[]) (fun s=>1≤s.1∧s.1≤n∧mnOf s.2 (r.drop (s.1 - 1))=mnOf a r) (fun s=>n - s.1) (1,a) ⟨Nat.le_refl _,by dsimp only;omega,rfl⟩ ?_
 rintro⟨k,m⟩ ⟨hk1,hk,hm⟩
 dsimp only at hk1 hk hm ⊢
 repeat' (first|refine d1 ?_|refine dd ?_|(show ∀ _:Nat,T _ _ _ _ _;intro _))
 refine T_if rfl (fun h=>?_) (fun h=>?_)
 ·simp only [decide_eq_true_eq] at h
  have hkn:k<n:=by omega
  obtain⟨z,hz⟩:∃ z,r[k - 1]?=some z:=⟨_,List.getElem?_eq_getElem (by omega)⟩
  have hz2:(a::r)[k]?=some z:=by
   obtain⟨j,rfl⟩:∃ j,k=j+1:=⟨k - 1,by omega⟩
   exact hz
  have hr1:=src_int hs hkn hz2
  have hd:r.drop (k - 1)=z::r.drop (k - 1+1):=by
   obtain⟨h1,e⟩:=List.getElem?_eq_some_iff.1 hz
   rw [List.drop_eq_getElem_cons h1,e]
  rw [hd] at hm
  repeat' (first|refine d1 ?_|refine dd ?_|(show ∀ _:Nat,T _ _ _ _ _;intro _))
  refine T_backX (k+1,min m z) ⟨by dsimp only;omega,by dsimp only;omega,?_⟩ (by dsimp only;omega)
  dsimp only
  rw [show k+1 - 1=k - 1+1 by omega]
  exact hm
 ·simp only [decide_eq_false_iff_not] at h
  rw [List.drop_of_length_le (by omega)] at hm
  have hm2:m=mnOf a r:=hm
  repeat' (first|refine d1 ?_|refine dd ?_|(show ∀ _:Nat,T _ _ _ _ _;intro _)|(show T _ (.code .ret::_) _ _ _;refine T_retV [] rfl (Hle.none _) ⟨by rw [hm2];rfl,rfl⟩))
theorem check20_spec (c:Costs) (A:Option Addr) (n ca:Nat) (M:Value) (V:Nat) (l:List TS) (Ap:Option Addr) (np cp:Nat) (p:List Int) (w:World) (hg:Grp w A n l) (hc:costE c=0) (hbs:badS l=false) (h1:1≤n) (h4:n≤4) (hv:volL (lens l)≤65536) (hV:V=volL (lens l)) (hM:Rd (wr w) [M] [rowsD ((mvL n).map intN)]) (hp:Src w 1 Ap np (p.map (Value.int .i64))) (hnp:p.length=np) (hpb:np≤1000) :
  Spec Tryz.prog 130 [.agg (spcL c A n ca M V).toArray, .slice Ap np cp] w (fun v R=>v = .int .i64 (feaE (colZ c l) (lens l) (mvL n) p)∧R=[]):=by
 have hn:=hg.hn
 have hll:=lens_len l
 have hlsn:(lens l).length=n:=by omega
 have hno:=mvL_ok h1 h4
 have hVp:0<V:=by rw [hV];exact volL_pos _
 obtain⟨Am,cm,csm,rfl,-⟩:=hM.tab
 rw [List.length_map] at hM ⊢
 refine spec_of sg Tryz.func130 rfl rfl rfl ?_
 refine T_op (OpT.box (cs:=spcL c A n ca (.slice Am (mvL n).length cm) V) rfl rfl rfl rfl rfl rfl rfl (fun p2=>?_))
 refine T_op (OpT.box (cs:=[.slice Ap np cp]) rfl rfl rfl rfl rfl rfl rfl (fun p3=>?_))
 repeat' (first|refine d1 ?_|refine dd ?_|(show T _ (.ops _ (_::_)::_) _ _ _;first|refine T_val rfl (Val.nilc rfl) rfl rfl rfl ?_|refine T_valC rfl (Val.nilc rfl) rfl rfl rfl rfl rfl ?_)|(show T _ (.run _ _ (_::_) _ _::_) _ _ _;first|refine rv rfl rfl rfl (Val.nilc rfl) rfl rfl rfl ?_|refine rg rfl rfl rfl (Val.nilc rfl) rfl rfl rfl rfl rfl ?_)|(show ∀ _:Nat,T _ _ _ _ _;intro _))
 rename_i p4
 refine T_if rfl (fun h=>?_) (fun h=>?_)
 ·have e:feaE (colZ c l) (lens l) (mvL n) p=9:=if_pos (by simp at h;omega)
  rw [e]
  repeat' (first|refine d1 ?_|refine dd ?_|(show ∀ _:Nat,T _ _ _ _ _;intro _)|(show T _ (.code .ret::_) _ _ _;refine T_retM (vs:=[.int .i64 9]) [] ⟨⟨p4,_,[.int .i64 9],rfl,rfl,rfl,rfl,(fun _=>rfl),rfl,rdOwn1 rfl⟩,trivial⟩ (Hle.none _) ⟨rfl,rfl⟩))
 have hl0:p.length=volL (lens l):=by simp at h;omega
 clear h
 obtain rfl:np=V:=by omega
 obtain⟨b,o,rfl⟩:=hp.base (by omega)
 have hpg:∀ q,q<np→RdC w b (o+(q:Int).toNat * 1) [.int .i64 (pg p q)]:=fun q hq=>src_int hp hq (by unfold pg;rw [List.getD_eq_getElem?_getD,List.getElem?_eq_getElem (by omega)];rfl)
 have hlast:RdC w b (o+((np:Int) - 1).toNat * 1) [.int .i64 (pg p (np - 1))]:=by
  have h9:=hpg (np - 1) (by omega)
  rw [show ((np:Int) - 1)=((np - 1:Nat):Int) by omega]
  exact h9
 obtain⟨a,r,har⟩:∃ a r,p=a::r:=by
  cases p with
  | nil=>simp at hnp;omega
  | cons a r=>exact⟨a,r,rfl⟩
 have hp2:Src w 1 (some ⟨b,o,none⟩) np ((a::r).map (Value.int .i64)):=by rw [← har];exact hp
 have hnp2:(a::r).length=np:=by rw [← har];exact hnp
 repeat' (first|refine d1 ?_|refine dd ?_|(show T _ (.ops _ (_::_)::_) _ _ _;first|refine T_val rfl (Val.nilc rfl) rfl rfl rfl ?_|refine T_valC rfl (Val.nilc rfl) rfl rfl rfl rfl rfl ?_|refine T_val rfl (Val.load rfl (fun hg=>rdOld hlast)) rfl rfl rfl ?_|refine T_valC rfl (Val.load rfl (fun hg=>rdOld hlast)) rfl rfl rfl rfl rfl ?_|refine T_call rfl rfl rfl rfl rfl (fun w hw=>mnOfnt_spec (some ⟨b,o,none⟩) np cp a r w (rdSrc hp2 w hw) hnp2 hpb) ?_|refine T_callC rfl rfl rfl rfl rfl rfl rfl (fun hg w hw=>mnOfnt_spec (some ⟨b,o,none⟩) np cp a r w (rdSrc hp2 w hw) hnp2 hpb) ?_|refine T_call rfl rfl rfl rfl rfl (fun w hw=>mxOfnt_spec (some ⟨b,o,none⟩) np cp a r w (rdSrc hp2 w hw) hnp2 hpb) ?_|refine T_callC rfl rfl rfl rfl rfl rfl rfl (fun hg w hw=>mxOfnt_spec (some ⟨b,o,none⟩) np cp a r w (rdSrc hp2 w hw) hnp2 hpb) ?_)|(show T _ (.run _ _ (_::_) _ _::_) _ _ _;first|refine rv rfl rfl rfl (Val.nilc rfl) rfl rfl rfl ?_|refine rg rfl rfl rfl (Val.nilc rfl) rfl rfl rfl rfl rfl ?_|refine rv rfl rfl rfl (Val.load rfl (fun hg=>rdOld hlast)) rfl rfl rfl ?_|refine rg rfl rfl rfl (Val.load rfl (fun hg=>rdOld hlast)) rfl rfl rfl rfl rfl ?_|refine rc rfl rfl rfl rfl rfl rfl rfl (fun w hw=>mnOfnt_spec (some ⟨b,o,none⟩) np cp a r w (rdSrc hp2 w hw) hnp2 hpb) ?_|refine rcG rfl rfl rfl rfl rfl rfl rfl rfl rfl (fun hg w hw=>mnOfnt_spec (some ⟨b,o,none⟩) np cp a r w (rdSrc hp2 w hw) hnp2 hpb) ?_|refine rc rfl rfl rfl rfl rfl rfl rfl (fun w hw=>mxOfnt_spec (some ⟨b,o,none⟩) np cp a r w (rdSrc hp2 w hw) hnp2 hpb) ?_|refine rcG rfl rfl rfl rfl rfl rfl rfl rfl rfl (fun hg w hw=>mxOfnt_spec (some ⟨b,o,none⟩) np cp a r w (rdSrc hp2 w hw) hnp2 hpb) ?_)|(show ∀ _:Nat,T _ _ _ _ _;intro _))
 have hout:=outP_any a r
 rw [← har] at hout
 refine T_if rfl (fun h=>?_) (fun h=>?_)
 ·have e:feaE (colZ c l) (lens l) (mvL n) p=18:=by
   unfold feaE
   rw [if_neg (by simpa using hl0),if_pos]
   rw [Bool.or_assoc,hout,Bool.or_eq_true,Bool.not_eq_true',decide_eq_false_iff_not] at h
   rw [← hV]
   rcases h with h|h
   ·exact .inl h
   ·exact .inr (.inl h)
  rw [e]
  repeat' (first|refine d1 ?_|refine dd ?_|(show ∀ _:Nat,T _ _ _ _ _;intro _)|(show T _ (.code .ret::_) _ _ _;refine T_retM (vs:=[.int .i64 18]) [] ⟨⟨p4,_,[.int .i64 18],rfl,rfl,rfl,rfl,(fun _=>rfl),rfl,rdOwn1 rfl⟩,trivial⟩ (Hle.none _) ⟨rfl,rfl⟩))
 have hgood:pg p (np - 1)=0∧p.any outP=false:=by
  rw [Bool.or_assoc,hout,Bool.or_eq_false_iff,Bool.not_eq_false',decide_eq_true_eq] at h
  exact h
 clear h
 obtain⟨hl1,hl2⟩:=hgood
 have hpb2:∀ q,0≤pg p q∧pg p q≤1073741824:=fun q=>by
  unfold pg
  rw [List.getD_eq_getElem?_getD]
  cases hq:p[q]? with
  | none=>simp
  | some z =>
   rw [List.any_eq_false] at hl2
   have:=hl2 z (List.mem_of_getElem? hq)
   unfold outP at this
   simp only [Bool.or_eq_true,decide_eq_true_eq] at this
   simp only [Option.getD_some]
   omega
 have hfe:∀ x:Bool,(List.range (volL (lens l))).any (badQ (colZ c l) (lens l) (mvL n) p)=x→feaE (colZ c l) (lens l) (mvL n) p=if x=true then 18 else 0:=fun x hx=>by
  unfold feaE
  rw [if_neg (by simpa using hl0), ← hV,hl1,hl2]
  rw [← hV] at hx
  rw [hx]
  simp
 refine T_keep [(2, .pointer (some ⟨p2,0,none⟩)),(3, .pointer (some ⟨p3,0,none⟩)),(4, .pointer (some ⟨p4,0,none⟩))] ⟨rfl,rfl,rfl,trivial⟩ ?_
 refine T_le (H':=blk p4 [.int .i64 0] 30::blk p3 [.slice (some ⟨b,o,none⟩) np cp] 40::blk p2 (spcL c A n ca (.slice Am (mvL n).length cm) np) 132::[]) (Hle.refl _) ?_
 repeat' (first|refine d1 ?_|refine dd ?_|(show ∀ _:Nat,T _ _ _ _ _;intro _))
 show T (FC _ _ (([]:List Nat).map mkD) _ _ _) _ _ _ _
 refine T_loopDX (fun s:Nat × List Nat=>[(31, .int .i64 (s.1:Nat))]) (fun s=>blk p4 [.int .i64 0] 30::blk p3 [.slice (some ⟨b,o,none⟩) np cp] 40::blk p2 (spcL c A n ca (.slice Am (mvL n).length cm) np) 132::[]) (fun s=>s.2) (fun s=>s.1≤np∧∀ q,q<s.1→badQ (colZ c l) (lens l) (mvL n) p q=false) (fun s=>np - s.1) (0,[]) ⟨Nat.zero_le _,fun q h=>absurd h (Nat.not_lt_zero q)⟩ rfl ?_
 rintro⟨q,Dl⟩ ⟨hq,hno2⟩
 dsimp only at hq hno2 ⊢
 refine T_le (H':=blk p4 [.int .i64 0] 30::blk p3 [.slice (some ⟨b,o,none⟩) np cp] 40::blk p2 (spcL c A n ca (.slice Am (mvL n).length cm) np) 132::dfrs Dl) (Hle.refl _) ?_
 repeat' (first|refine d1 ?_|refine dd ?_|(show ∀ _:Nat,T _ _ _ _ _;intro _))
 refine T_if rfl (fun h5=>?_) (fun h5=>?_)
 ·simp only [decide_eq_true_eq] at h5
  have hqn:q<np:=by omega
  have hin:=atL_in (lens l) q
  repeat' (first|refine d1 ?_|refine dd ?_|(show T _ (.ops _ (_::_)::_) _ _ _;first|refine T_val rfl (Val.loadA rfl (fun _=>rdAll) rfl) rfl rfl rfl ?_|refine T_valC rfl (Val.loadA rfl (fun _=>rdAll) rfl) rfl rfl rfl rfl rfl ?_|refine T_op (OpT.call rfl rfl rfl rfl rfl (fun w hw=>steps20_fn c A n ca (.slice Am (mvL n).length cm) np q w) (fun u R hR=>?_)))|(show T _ (.run _ _ (_::_) _ _::_) _ _ _;first|refine rv rfl rfl rfl (Val.loadA rfl (fun _=>rdAll) rfl) rfl rfl rfl ?_|refine rg rfl rfl rfl (Val.loadA rfl (fun _=>rdAll) rfl) rfl rfl rfl rfl rfl ?_)|(show ∀ _:Nat,T _ _ _ _ _;intro _))
  obtain⟨⟨g1,g2⟩,-,rfl,rfl⟩:=hR
  rename_i p5
  refine T_le (H':=blk g2 [.int .i64 (q:Nat)] 3::blk g1 (spcL c A n ca (.slice Am (mvL n).length cm) np) 132::blk p5 [.int .i64 (q:Nat)] 3::blk p4 [.int .i64 0] 30::blk p3 [.slice (some ⟨b,o,none⟩) np cp] 40::blk p2 (spcL c A n ca (.slice Am (mvL n).length cm) np) 132::dfrs Dl) (Hle.refl _) ?_
  refine T_rangeZ (steps20_iter (ca:=ca) (V:=np) hg hc hbs h1 h4 hv (p:=q) (by omega) g1 g2 (pz:=fun _=>none) (fun w' hb _=>wr_below hb) hM) rfl (fun j x B hj hQ=>by obtain⟨m,_,_,_,_,rfl,_⟩:=hQ;exact⟨rfl,rfl⟩)
   (fun jj H=>H=blk p5 [.int .i64 (q:Nat)] 3::blk p4 [.int .i64 0] 30::blk p3 [.slice (some ⟨b,o,none⟩) np cp] 40::blk p2 (spcL c A n ca (.slice Am (mvL n).length cm) np) 132::dfrs Dl∧∀ j' y,j'<jj→(posL (lens l) (atL (lens l) q) (mvL n))[j']?=some y→¬ viaP (colZ c l) (lens l) p (atL (lens l) q) y<pg p q)
   (fun H=>H=blk p5 [.int .i64 (q:Nat)] 3::blk p4 [.int .i64 18] 30::blk p3 [.slice (some ⟨b,o,none⟩) np cp] 40::blk p2 (spcL c A n ca (.slice Am (mvL n).length cm) np) 132::dfrs Dl∧badQ (colZ c l) (lens l) (mvL n) p q=true) (fun _ _=>False) (blk p5 [.int .i64 (q:Nat)] 3::blk p4 [.int .i64 0] 30::blk p3 [.slice (some ⟨b,o,none⟩) np cp] 40::blk p2 (spcL c A n ca (.slice Am (mvL n).length cm) np) 132::dfrs Dl) (fun _ _ _=>(hle_unit (B:=fz (fun _=>none)) rfl).trans (Hle.nth 0 rfl)) ⟨rfl,fun _ _ h=>absurd h (Nat.not_lt_zero _)⟩ Hle.srtV ?_ ?_ ?_ (fun _ _ _ h=>h.elim)
  ·rintro Lp r5 jj x B Hj K2 hr5 hj hQ ⟨rfl,hdone⟩
   obtain⟨m,A9,c9,hm,hmr,rfl,rfl⟩:=hQ
   obtain⟨hmm,hpo⟩:=posL_mem (List.mem_of_getElem? hm)
   obtain⟨hti,hs1,hs2,hs3⟩:=toM_rem hno hlsn hin hmm hpo
   have hqV:=numL_lt hti
   have hvia:viaP (colZ c l) (lens l) p (atL (lens l) q) m=colZ c l (colT (atL (lens l) q) m)+pg p (numL (lens l) (toM (atL (lens l) q) m)):=rfl
   obtain⟨u,hu⟩:∃ u,u=numL (lens l) (toM (atL (lens l) q) m):=⟨_,rfl⟩
   rw [← hu] at hqV hvia
   have hKb:=colZ_bd hc (show l.length≤32 by omega) (colT (atL (lens l) q) m)
   have hb1:=hpb2 q
   have hb2:=hpb2 u
   have hcq:=hpg q hqn
   have hcu:=hpg u (by omega)
   show T _ _ ((37, .agg #[.slice A9 m.length c9, .int .i64 (colZ c l (colT (atL (lens l) q) m)), .int .i64 (numL (lens l) (toM (atL (lens l) q) m):Nat)])::_) _ (lrec Lp r5::blk p5 [.int .i64 (q:Nat)] 3::blk p4 [.int .i64 0] 30::blk p3 [.slice (some ⟨b,o,none⟩) np cp] 40::blk p2 (spcL c A n ca (.slice Am (mvL n).length cm) np) 132::(dfrs Dl++K2))
   rw [← hu]
   repeat' (first|refine d1 ?_|refine dd ?_|(show ∀ _:Nat,T _ _ _ _ _;intro _))
   rename_i p6
   refine T_le (H':=lrec Lp r5::blk p6 [.slice A9 m.length c9, .int .i64 (colZ c l (colT (atL (lens l) q) m)), .int .i64 (u:Nat)] 139::blk p5 [.int .i64 (q:Nat)] 3::blk p4 [.int .i64 0] 30::blk p3 [.slice (some ⟨b,o,none⟩) np cp] 40::blk p2 (spcL c A n ca (.slice Am (mvL n).length cm) np) 132::(dfrs Dl++K2)) (Hle.perm (List.Perm.swap _ _ _)) ?_
   refine T_begin hr5 rfl ?_
   repeat' (first|refine d1 ?_|refine dd ?_|(show T _ (.ops _ (_::_)::_) _ _ _;first|refine T_val rfl (Val.nilc rfl) rfl rfl rfl ?_|refine T_valC rfl (Val.nilc rfl) rfl rfl rfl rfl rfl ?_|refine T_val rfl (Val.load rfl (fun hg=>rdOld hcq)) rfl rfl rfl ?_|refine T_valC rfl (Val.load rfl (fun hg=>rdOld hcq)) rfl rfl rfl rfl rfl ?_|refine T_val rfl (Val.load rfl (fun hg=>rdOld hcu)) rfl rfl rfl ?_|refine T_valC rfl (Val.load rfl (fun hg=>rdOld hcu)) rfl rfl rfl rfl rfl ?_)|(show T _ (.run _ _ (_::_) _ _::_) _ _ _;first|refine rv rfl rfl rfl (Val.nilc rfl) rfl rfl rfl ?_|refine rg rfl rfl rfl (Val.nilc rfl) rfl rfl rfl rfl rfl ?_|refine rv rfl rfl rfl (Val.load rfl (fun hg=>rdOld hcq)) rfl rfl rfl ?_|refine rg rfl rfl rfl (Val.load rfl (fun hg=>rdOld hcq)) rfl rfl rfl rfl rfl ?_|refine rv rfl rfl rfl (Val.load rfl (fun hg=>rdOld hcu)) rfl rfl rfl ?_|refine rg rfl rfl rfl (Val.load rfl (fun hg=>rdOld hcu)) rfl rfl rfl rfl rfl ?_)|(show ∀ _:Nat,T _ _ _ _ _;intro _))
   refine T_if rfl (fun h6=>?_) (fun h6=>?_)
   ·simp only [decide_eq_true_eq] at h6
    have hbad:badQ (colZ c l) (lens l) (mvL n) p q=true:=by
     unfold badQ
     rw [List.any_eq_true]
     exact⟨m,List.mem_of_getElem? hm,by rw [hvia];exact decide_eq_true h6⟩
    repeat' (first|refine d1 ?_|refine dd ?_|(show ∀ _:Nat,T _ _ _ _ _;intro _)|(show T _ (.code .ret::_) _ _ _;refine T_rret _ ⟨rfl,hbad⟩ (Hle.drop2 _ _ _)))
   ·simp only [decide_eq_false_iff_not] at h6
    repeat' (first|refine d1 ?_|refine dd ?_|(show ∀ _:Nat,T _ _ _ _ _;intro _))
    refine T_next _ ⟨rfl,fun j' y hj' hy=>?_⟩ (Hle.drop2 _ _ _)
    by_cases e:j'=jj
    ·subst e;rw [hm] at hy;cases hy;rw [hvia];exact h6
    ·exact hdone j' y (by omega) hy
  ·rintro D Hn ⟨rfl,hdone⟩
   have hbad:badQ (colZ c l) (lens l) (mvL n) p q=false:=by
    unfold badQ
    rw [List.any_eq_false]
    intro y hy
    obtain⟨j,hj,rfl⟩:=List.getElem_of_mem hy
    have:=hdone j _ hj (List.getElem?_eq_getElem hj)
    simpa using this
   show T (FC _ _ ((D::Dl).map mkD) _ _ _) _ _ _ (dfr D::blk g2 [.int .i64 (q:Nat)] 3::blk g1 (spcL c A n ca (.slice Am (mvL n).length cm) np) 132::blk p5 [.int .i64 (q:Nat)] 3::blk p4 [.int .i64 0] 30::blk p3 [.slice (some ⟨b,o,none⟩) np cp] 40::blk p2 (spcL c A n ca (.slice Am (mvL n).length cm) np) 132::dfrs Dl)
   repeat' (first|refine d1 ?_|refine dd ?_|(show ∀ _:Nat,T _ _ _ _ _;intro _))
   show T _ (.mark _::_) _ _ _
   refine T_backD (q+1,D::Dl) ⟨by dsimp only;omega,fun j hj=>?_⟩ (by dsimp only;omega) rfl (hG:=?_)
   ·dsimp only at hj
    by_cases e:j=q
    ·rw [e];exact hbad
    ·exact hno2 j (by omega)
   ·dsimp only
    exact Hle.srtV (K:=blk p4 [.int .i64 0] 30::blk p3 [.slice (some ⟨b,o,none⟩) np cp] 40::blk p2 (spcL c A n ca (.slice Am (mvL n).length cm) np) 132::dfr D::dfrs Dl)
  ·rintro D Hx ⟨rfl,hbad⟩
   have e:=hfe true (List.any_eq_true.2 ⟨q,List.mem_range.2 (by omega),hbad⟩)
   rw [e]
   show T (FC _ _ ((D::Dl).map mkD) _ _ _) _ _ _ (dfr D::blk g2 [.int .i64 (q:Nat)] 3::blk g1 (spcL c A n ca (.slice Am (mvL n).length cm) np) 132::blk p5 [.int .i64 (q:Nat)] 3::blk p4 [.int .i64 18] 30::blk p3 [.slice (some ⟨b,o,none⟩) np cp] 40::blk p2 (spcL c A n ca (.slice Am (mvL n).length cm) np) 132::dfrs Dl)
   exact T_retDs [blk p4 [.int .i64 18] 30] (Hle.srtV (K:=blk p4 [.int .i64 18] 30::dfr D::dfrs Dl)) (rf_M (ds:=[]) (vs:=[.int .i64 18]) [] ⟨⟨p4,_,[.int .i64 18],rfl,rfl,rfl,rfl,(fun _=>rfl),rfl,rdOwn1 rfl⟩,trivial⟩ (Hle.none _) ⟨rfl,rfl⟩)
 ·simp only [decide_eq_false_iff_not] at h5
  have e:=hfe false (List.any_eq_false.2 fun q hq9=>by rw [hno2 q (by have:=List.mem_range.1 hq9;omega)];simp)
  rw [e]
  repeat' (first|refine d1 ?_|refine dd ?_|(show ∀ _:Nat,T _ _ _ _ _;intro _))
  exact T_retDs [blk p4 [.int .i64 0] 30] (Hle.srtV (K:=blk p4 [.int .i64 0] 30::dfrs Dl)) (rf_M (ds:=[]) (vs:=[.int .i64 0]) [] ⟨⟨p4,_,[.int .i64 0],rfl,rfl,rfl,rfl,(fun _=>rfl),rfl,rdOwn1 rfl⟩,trivial⟩ (Hle.none _) ⟨rfl,rfl⟩)
noncomputable def chkV20 (c:Costs) (l:List TS) (p:List Int):Int:=if opE c l≠0 then opE c l else feaE (colZ c l) (lens l) (mvL l.length) p
theorem checkP20_spec (c:Costs) (A:Option Addr) (n ca:Nat) (l:List TS) (Ap:Option Addr) (np cp:Nat) (p:List Int) (w:World) (hf:Fit w A n l) (hp:Src w 1 Ap np (p.map (Value.int .i64))) (hnp:p.length=np) (hpb:np≤1000) :
  Spec Tryz.prog 51 [c.val, .slice A n ca, .slice Ap np cp] w (fun v R=>v = .int .i64 (chkV20 c l p)∧R=[]):=by
 have hn:=hf.hn
 refine spec_of sg Tryz.func51 rfl rfl rfl ?_
 refine T_op (OpT.box (cs:=c.cells) rfl rfl rfl rfl rfl rfl rfl (fun pc=>?_))
 by_cases hop:opE c l≠0
 ·have e:chkV20 c l p=opE c l:=if_pos hop
  rw [e]
  repeat' (first|refine d1 ?_|refine dd ?_|(show T _ (.ops _ (_::_)::_) _ _ _;refine T_op (OpT.call rfl rfl rfl rfl rfl (fun w hw=>openBad_spec c A n ca l w (hf.cls hw) hop) ?_))|(show ∀ _:Nat,T _ _ _ _ _;intro _))
  rintro v R ⟨c',-,rfl,rfl⟩
  repeat' (first|refine d1 ?_|refine dd ?_|(show ∀ _:Nat,T _ _ _ _ _;intro _))
  refine T_if rfl (fun _=>?_) (fun h=>by exfalso;simp at h;exact hop h)
  repeat' (first|refine d1 ?_|refine dd ?_|(show ∀ _:Nat,T _ _ _ _ _;intro _)|(show T _ (.code .ret::_) _ _ _;refine T_retV [] rfl (Hle.none _) ⟨rfl,rfl⟩))
 have hop:opE c l=0:=by simpa using hop
 have e:chkV20 c l p=feaE (colZ c l) (lens l) (mvL l.length) p:=if_neg (by simpa using hop)
 rw [e]
 obtain⟨hpl,hck⟩:=opE_ok hop
 obtain⟨h1,hb,h4,hv⟩:=plE_ok hpl
 obtain⟨hc,hbs⟩:=ck21_ok hck
 have hg:=hf.grp hb
 repeat' (first|refine d1 ?_|refine dd ?_|(show T _ (.ops _ (_::_)::_) _ _ _;refine T_op (OpT.call rfl rfl rfl rfl rfl (fun w hw=>openOk_spec c A n ca l w (hf.cls hw) hop) ?_))|(show ∀ _:Nat,T _ _ _ _ _;intro _))
 rintro v R ⟨M,-,rfl,rfl⟩
 refine T_le (H':=dat [M] [rowsD ((mvL n).map intN)]::blk pc c.cells 23::[]) (Hle.refl _) ?_
 refine T_open fun pm hM=>?_
 have hM0:=hM
 obtain⟨Am,cm,csm,rfl,-⟩:=hM.tab
 rw [List.length_map] at hM0 ⊢
 repeat' (first|refine d1 ?_|refine dd ?_|(show ∀ _:Nat,T _ _ _ _ _;intro _))
 refine T_if rfl (fun h=>by exfalso;simp at h) (fun _=>?_)
 rw [hn]
 repeat' (first|refine d1 ?_|refine dd ?_|(show T _ (.ops _ (_::_)::_) _ _ _;first|refine T_val rfl (Val.loadA rfl (fun _=>rdAll) rfl) rfl rfl rfl ?_|refine T_valC rfl (Val.loadA rfl (fun _=>rdAll) rfl) rfl rfl rfl rfl rfl ?_|refine T_call rfl rfl rfl rfl rfl (fun w hw=>check20_spec c A n ca (.slice Am (mvL n).length cm) (volL (lens l)) l Ap np cp p w (hg.cls hw) hc hbs (by omega) (by omega) hv rfl (hM0.own hw) (rdSrc hp w hw) hnp hpb) ?_|refine T_callC rfl rfl rfl rfl rfl rfl rfl (fun hg w hw=>check20_spec c A n ca (.slice Am (mvL n).length cm) (volL (lens l)) l Ap np cp p w (hg.cls hw) hc hbs (by omega) (by omega) hv rfl (hM0.own hw) (rdSrc hp w hw) hnp hpb) ?_)|(show T _ (.run _ _ (_::_) _ _::_) _ _ _;first|refine rv rfl rfl rfl (Val.loadA rfl (fun _=>rdAll) rfl) rfl rfl rfl ?_|refine rg rfl rfl rfl (Val.loadA rfl (fun _=>rdAll) rfl) rfl rfl rfl rfl rfl ?_|refine rc rfl rfl rfl rfl rfl rfl rfl (fun w hw=>check20_spec c A n ca (.slice Am (mvL n).length cm) (volL (lens l)) l Ap np cp p w (hg.cls hw) hc hbs (by omega) (by omega) hv rfl (hM0.own hw) (rdSrc hp w hw) hnp hpb) ?_|refine rcG rfl rfl rfl rfl rfl rfl rfl rfl rfl (fun hg w hw=>check20_spec c A n ca (.slice Am (mvL n).length cm) (volL (lens l)) l Ap np cp p w (hg.cls hw) hc hbs (by omega) (by omega) hv rfl (hM0.own hw) (rdSrc hp w hw) hnp hpb) ?_)|(show ∀ _:Nat,T _ _ _ _ _;intro _)|(show T _ (.code .ret::_) _ _ _;refine T_retV [] rfl (Hle.none _) ⟨rfl,rfl⟩))
noncomputable def slkV (c:Costs) (l:List TS) (cols:List (List Int)) (p:List Int):Int × Int :=
 if opE c l≠0 then (0,opE c l) else if chkC l cols≠0 then (0,19) else if feaE (colZ c l) (lens l) (mvL l.length) p≠0 then (0,feaE (colZ c l) (lens l) (mvL l.length) p) else (totZ c l cols - pg p 0,0)
theorem slack20_spec (c:Costs) (A:Option Addr) (n ca:Nat) (l:List TS) (x:Value) (cols:List (List Int)) (Ap:Option Addr) (np cp:Nat) (p:List Int) (w:World) (hf:Fit w A n l) (hx:Rd (wr w) [x] [rowsD cols]) (hcl:cols.length≤1000) (hp:Src w 1 Ap np (p.map (Value.int .i64))) (hnp:p.length=np) (hpb:np≤1000) :
  Spec Tryz.prog 55 [c.val, .slice A n ca,x, .slice Ap np cp] w (fun v R=>v = .tuple #[.int .i64 (slkV c l cols p).1, .int .i64 (slkV c l cols p).2]∧R=[]):=by
 have hn:=hf.hn
 refine spec_of sg Tryz.func55 rfl rfl rfl ?_
 refine T_op (OpT.box (cs:=c.cells) rfl rfl rfl rfl rfl rfl rfl (fun pc=>?_))
 by_cases hop:opE c l≠0
 ·have e:slkV c l cols p=(0,opE c l):=if_pos hop
  rw [e]
  repeat' (first|refine d1 ?_|refine dd ?_|(show T _ (.ops _ (_::_)::_) _ _ _;refine T_op (OpT.call rfl rfl rfl rfl rfl (fun w hw=>openBad_spec c A n ca l w (hf.cls hw) hop) ?_))|(show ∀ _:Nat,T _ _ _ _ _;intro _))
  rintro v R ⟨c',-,rfl,rfl⟩
  repeat' (first|refine d1 ?_|refine dd ?_|(show ∀ _:Nat,T _ _ _ _ _;intro _))
  refine T_if rfl (fun _=>?_) (fun h=>by exfalso;simp at h;exact hop h)
  repeat' (first|refine d1 ?_|refine dd ?_|(show ∀ _:Nat,T _ _ _ _ _;intro _)|(show T _ (.code .ret::_) _ _ _;refine T_retV [] rfl (Hle.none _) ⟨rfl,rfl⟩))
 have hop:opE c l=0:=by simpa using hop
 obtain⟨hpl,hck⟩:=opE_ok hop
 obtain⟨h1,hb,h4,hv⟩:=plE_ok hpl
 obtain⟨hc,hbs⟩:=ck21_ok hck
 have hg:=hf.grp hb
 repeat' (first|refine d1 ?_|refine dd ?_|(show T _ (.ops _ (_::_)::_) _ _ _;refine T_op (OpT.call rfl rfl rfl rfl rfl (fun w hw=>openOk_spec c A n ca l w (hf.cls hw) hop) ?_))|(show ∀ _:Nat,T _ _ _ _ _;intro _))
 rintro v R ⟨M,-,rfl,rfl⟩
 refine T_le (H':=dat [M] [rowsD ((mvL n).map intN)]::blk pc c.cells 23::[]) (Hle.refl _) ?_
 refine T_open fun pm hM=>?_
 have hM0:=hM
 obtain⟨Am,cm,csm,rfl,-⟩:=hM.tab
 rw [List.length_map] at hM0 ⊢
 repeat' (first|refine d1 ?_|refine dd ?_|(show ∀ _:Nat,T _ _ _ _ _;intro _))
 refine T_if rfl (fun h=>by exfalso;simp at h) (fun _=>?_)
 repeat' (first|refine d1 ?_|refine dd ?_|(show T _ (.ops _ (_::_)::_) _ _ _;first|refine T_call rfl rfl rfl rfl rfl (fun w hw=>check19_spec A n ca l x cols w (hg.cls hw) (hx.old hw)) ?_|refine T_callC rfl rfl rfl rfl rfl rfl rfl (fun hg w hw=>check19_spec A n ca l x cols w (hg.cls hw) (hx.old hw)) ?_)|(show T _ (.run _ _ (_::_) _ _::_) _ _ _;first|refine rc rfl rfl rfl rfl rfl rfl rfl (fun w hw=>check19_spec A n ca l x cols w (hg.cls hw) (hx.old hw)) ?_|refine rcG rfl rfl rfl rfl rfl rfl rfl rfl rfl (fun hg w hw=>check19_spec A n ca l x cols w (hg.cls hw) (hx.old hw)) ?_)|(show ∀ _:Nat,T _ _ _ _ _;intro _))
 refine T_if rfl (fun h=>?_) (fun h=>?_)
 ·have e:slkV c l cols p=(0,19):=by unfold slkV;rw [if_neg (by simpa using hop),if_pos (by simpa using h)]
  rw [e]
  repeat' (first|refine d1 ?_|refine dd ?_|(show ∀ _:Nat,T _ _ _ _ _;intro _)|(show T _ (.code .ret::_) _ _ _;refine T_retV [] rfl (Hle.none _) ⟨rfl,rfl⟩))
 have hal:chkC l cols=0:=by simpa using h
 clear h
 repeat' (first|refine d1 ?_|refine dd ?_|(show T _ (.ops _ (_::_)::_) _ _ _;first|refine T_val rfl (Val.loadA rfl (fun _=>rdAll) rfl) rfl rfl rfl ?_|refine T_valC rfl (Val.loadA rfl (fun _=>rdAll) rfl) rfl rfl rfl rfl rfl ?_|refine T_call rfl rfl rfl rfl rfl (fun w hw=>check20_spec c A n ca (.slice Am (mvL n).length cm) (volL (lens l)) l Ap np cp p w (hg.cls hw) hc hbs (by omega) (by omega) hv rfl (hM0.own hw) (rdSrc hp w hw) hnp hpb) ?_|refine T_callC rfl rfl rfl rfl rfl rfl rfl (fun hg w hw=>check20_spec c A n ca (.slice Am (mvL n).length cm) (volL (lens l)) l Ap np cp p w (hg.cls hw) hc hbs (by omega) (by omega) hv rfl (hM0.own hw) (rdSrc hp w hw) hnp hpb) ?_)|(show T _ (.run _ _ (_::_) _ _::_) _ _ _;first|refine rv rfl rfl rfl (Val.loadA rfl (fun _=>rdAll) rfl) rfl rfl rfl ?_|refine rg rfl rfl rfl (Val.loadA rfl (fun _=>rdAll) rfl) rfl rfl rfl rfl rfl ?_|refine rc rfl rfl rfl rfl rfl rfl rfl (fun w hw=>check20_spec c A n ca (.slice Am (mvL n).length cm) (volL (lens l)) l Ap np cp p w (hg.cls hw) hc hbs (by omega) (by omega) hv rfl (hM0.own hw) (rdSrc hp w hw) hnp hpb) ?_|refine rcG rfl rfl rfl rfl rfl rfl rfl rfl rfl (fun hg w hw=>check20_spec c A n ca (.slice Am (mvL n).length cm) (volL (lens l)) l Ap np cp p w (hg.cls hw) hc hbs (by omega) (by omega) hv rfl (hM0.own hw) (rdSrc hp w hw) hnp hpb) ?_)|(show ∀ _:Nat,T _ _ _ _ _;intro _))
 refine T_if rfl (fun h=>?_) (fun h=>?_)
 ·have e:slkV c l cols p=(0,feaE (colZ c l) (lens l) (mvL n) p):=by unfold slkV;rw [if_neg (by simpa using hop),if_neg (by simpa using hal),hn,if_pos (by simpa using h)]
  rw [e]
  repeat' (first|refine d1 ?_|refine dd ?_|(show ∀ _:Nat,T _ _ _ _ _;intro _)|(show T _ (.code .ret::_) _ _ _;refine T_retV [] rfl (Hle.none _) ⟨rfl,rfl⟩))
 have hfe:feaE (colZ c l) (lens l) (mvL n) p=0:=by simpa using h
 clear h
 have e:slkV c l cols p=(totZ c l cols - pg p 0,0):=by unfold slkV;rw [if_neg (by simpa using hop),if_neg (by simpa using hal),hn,if_neg (by simpa using hfe)]
 rw [e]
 have hus:usV c l=0:=by unfold usV;rw [if_neg (by omega),hck]
 have hok:okC l cols=true:=by
  refine Classical.byContradiction fun h9=>?_
  rw [chkC_okC (by omega),if_neg h9] at hal
  omega
 have hcw:costW c l cols=(totZ c l cols,0):=by unfold costW;rw [if_neg (by simpa using hus),if_pos hok]
 obtain⟨f1,f2,f3,f4⟩:=feaE_ok.1 hfe
 have hVp:=volL_pos (lens l)
 obtain⟨b,o,rfl⟩:=hp.base (by omega)
 have hp0:RdC w b (o+(0:Int).toNat * 1) [.int .i64 (pg p 0)]:=src_int hp (k:=0) (by omega) (by unfold pg;rw [List.getD_eq_getElem?_getD,List.getElem?_eq_getElem (by omega)];rfl)
 have hpz:=f3 (pg p 0) (by unfold pg;rw [List.getD_eq_getElem?_getD,List.getElem?_eq_getElem (by omega)];exact List.getElem_mem _)
 have htz:=totZ_bd hc (l:=l) (by omega) cols
 repeat' (first|refine d1 ?_|refine dd ?_|(show T _ (.ops _ (_::_)::_) _ _ _;first|refine T_call rfl rfl rfl rfl rfl (fun w hw=>costSum19_spec c A n ca l x cols w (hg.cls hw) (hx.old hw) hcl) ?_|refine T_callC rfl rfl rfl rfl rfl rfl rfl (fun hg w hw=>costSum19_spec c A n ca l x cols w (hg.cls hw) (hx.old hw) hcl) ?_)|(show T _ (.run _ _ (_::_) _ _::_) _ _ _;first|refine rc rfl rfl rfl rfl rfl rfl rfl (fun w hw=>costSum19_spec c A n ca l x cols w (hg.cls hw) (hx.old hw) hcl) ?_|refine rcG rfl rfl rfl rfl rfl rfl rfl rfl rfl (fun hg w hw=>costSum19_spec c A n ca l x cols w (hg.cls hw) (hx.old hw) hcl) ?_)|(show ∀ _:Nat,T _ _ _ _ _;intro _))
 rw [hcw]
 repeat' (first|refine d1 ?_|refine dd ?_|(show ∀ _:Nat,T _ _ _ _ _;intro _))
 refine T_if rfl (fun h=>by exfalso;simp at h) (fun _=>?_)
 repeat' (first|refine d1 ?_|refine dd ?_|(show T _ (.ops _ (_::_)::_) _ _ _;first|refine T_val rfl (Val.load rfl (fun hg=>rdOld hp0)) rfl rfl rfl ?_|refine T_valC rfl (Val.load rfl (fun hg=>rdOld hp0)) rfl rfl rfl rfl rfl ?_)|(show T _ (.run _ _ (_::_) _ _::_) _ _ _;first|refine rv rfl rfl rfl (Val.load rfl (fun hg=>rdOld hp0)) rfl rfl rfl ?_|refine rg rfl rfl rfl (Val.load rfl (fun hg=>rdOld hp0)) rfl rfl rfl rfl rfl ?_)|(show ∀ _:Nat,T _ _ _ _ _;intro _)|(show T _ (.code .ret::_) _ _ _;refine T_retV [] rfl (Hle.none _) ⟨rfl,rfl⟩))
noncomputable def verV20 (c:Costs) (l:List TS) (cols:List (List Int)) (p:List Int):Int:=if (slkV c l cols p).2≠0 then (slkV c l cols p).2 else if (slkV c l cols p).1≠0 then 18 else 0
theorem verify20_spec (c:Costs) (A:Option Addr) (n ca:Nat) (l:List TS) (x:Value) (cols:List (List Int)) (Ap:Option Addr) (np cp:Nat) (p:List Int) (w:World) (hf:Fit w A n l) (hx:Rd (wr w) [x] [rowsD cols]) (hcl:cols.length≤1000) (hp:Src w 1 Ap np (p.map (Value.int .i64))) (hnp:p.length=np) (hpb:np≤1000) :
  Spec Tryz.prog 56 [c.val, .slice A n ca,x, .slice Ap np cp] w (fun v R=>v = .int .i64 (verV20 c l cols p)∧R=[]):=by
 refine spec_of sg Tryz.func56 rfl rfl rfl ?_
 refine T_op (OpT.box (cs:=c.cells) rfl rfl rfl rfl rfl rfl rfl (fun pc=>?_))
 repeat' (first|refine d1 ?_|refine dd ?_|(show T _ (.ops _ (_::_)::_) _ _ _;first|refine T_call rfl rfl rfl rfl rfl (fun w hw=>slack20_spec c A n ca l x cols Ap np cp p w (hf.cls hw) (hx.old hw) hcl (rdSrc hp w hw) hnp hpb) ?_|refine T_callC rfl rfl rfl rfl rfl rfl rfl (fun hg w hw=>slack20_spec c A n ca l x cols Ap np cp p w (hf.cls hw) (hx.old hw) hcl (rdSrc hp w hw) hnp hpb) ?_)|(show T _ (.run _ _ (_::_) _ _::_) _ _ _;first|refine rc rfl rfl rfl rfl rfl rfl rfl (fun w hw=>slack20_spec c A n ca l x cols Ap np cp p w (hf.cls hw) (hx.old hw) hcl (rdSrc hp w hw) hnp hpb) ?_|refine rcG rfl rfl rfl rfl rfl rfl rfl rfl rfl (fun hg w hw=>slack20_spec c A n ca l x cols Ap np cp p w (hf.cls hw) (hx.old hw) hcl (rdSrc hp w hw) hnp hpb) ?_)|(show ∀ _:Nat,T _ _ _ _ _;intro _))
 refine T_if rfl (fun h=>?_) (fun h=>?_)
 ·have e:verV20 c l cols p=(slkV c l cols p).2:=if_pos (by simpa using h)
  rw [e]
  repeat' (first|refine d1 ?_|refine dd ?_|(show ∀ _:Nat,T _ _ _ _ _;intro _)|(show T _ (.code .ret::_) _ _ _;refine T_retV [] rfl (Hle.none _) ⟨rfl,rfl⟩))
 ·have h0:(slkV c l cols p).2=0:=by simpa using h
  repeat' (first|refine d1 ?_|refine dd ?_|(show ∀ _:Nat,T _ _ _ _ _;intro _))
  refine T_if rfl (fun h=>?_) (fun h=>?_)
  ·have e:verV20 c l cols p=18:=by unfold verV20;rw [if_neg (by simpa using h0),if_pos (by simpa using h)]
   rw [e]
   repeat' (first|refine d1 ?_|refine dd ?_|(show ∀ _:Nat,T _ _ _ _ _;intro _)|(show T _ (.code .ret::_) _ _ _;refine T_retV [] rfl (Hle.none _) ⟨rfl,rfl⟩))
  ·have e:verV20 c l cols p=0:=by unfold verV20;rw [if_neg (by simpa using h0),if_neg (by simpa using h)]
   rw [e]
   repeat' (first|refine d1 ?_|refine dd ?_|(show ∀ _:Nat,T _ _ _ _ _;intro _)|(show T _ (.code .ret::_) _ _ _;refine T_retV [] rfl (Hle.none _) ⟨rfl,rfl⟩))
def rngB (l:List TS) (v:List Int) (i:Nat):Bool:=decide (v.getD i 0<0) || decide (((lens l).getD i 0:Nat)<v.getD i 0)
noncomputable def plcV (l:List TS) (v:List Int):Int × Int:=if plE l≠0 then (0,plE l) else if v.length≠l.length then (0,9) else if (List.range l.length).any (rngB l v)=true then (0,2) else ((numL (lens l) (v.map Int.toNat):Nat),0)
theorem rng_in {l:List TS} {v:List Int} (hl:v.length=l.length) (h:∀ i,i<l.length→rngB l v i=false):InB (lens l) (v.map Int.toNat)∧∀ i,i<l.length→v.getD i 0=(((v.map Int.toNat).getD i 0:Nat):Int):=by
 have hg:∀ i,i<l.length→(v.map Int.toNat).getD i 0=(v.getD i 0).toNat:=fun i hi=>by
  rw [List.getD_eq_getElem?_getD,List.getElem?_map,List.getElem?_eq_getElem (by omega),List.getD_eq_getElem?_getD,List.getElem?_eq_getElem (by omega)];rfl
 have hb:∀ i,i<l.length→0≤v.getD i 0∧v.getD i 0≤((lens l).getD i 0:Nat):=fun i hi=>by
  have:=h i hi
  unfold rngB at this
  rw [Bool.or_eq_false_iff,decide_eq_false_iff_not,decide_eq_false_iff_not] at this
  omega
 refine ⟨InB.of (by rw [List.length_map,hl,lens_len]) fun s=>?_,fun i hi=>?_⟩
 ·by_cases hs:s<l.length
  ·rw [hg s hs]
   have:=hb s hs
   omega
  ·rw [List.getD_eq_getElem?_getD,List.getElem?_eq_none (by rw [List.length_map];omega)]
   simp
 ·rw [hg i hi]
  have:=hb i hi
  omega
theorem place20_spec (A:Option Addr) (n ca:Nat) (l:List TS) (At:Option Addr) (nt ct:Nat) (v:List Int) (w:World) (hf:Fit w A n l) (hs:Src w 1 At nt (v.map (Value.int .i64))) (hnt:v.length=nt) (hb9:nt≤1000) :
  Spec Tryz.prog 45 [.slice A n ca, .slice At nt ct] w (fun u R=>u = .tuple #[.int .i64 (plcV l v).1, .int .i64 (plcV l v).2]∧R=[]):=by
 have hn:=hf.hn
 refine spec_of sg Tryz.func45 rfl rfl rfl ?_
 by_cases hop:plE l≠0
 ·have e:plcV l v=(0,plE l):=if_pos hop
  rw [e]
  repeat' (first|refine d1 ?_|refine dd ?_|(show T _ (.ops _ (_::_)::_) _ _ _;first|refine T_call rfl rfl rfl rfl rfl (fun w hw=>placesBad_spec A n ca l w (hf.cls hw) hop) ?_|refine T_callC rfl rfl rfl rfl rfl rfl rfl (fun hg w hw=>placesBad_spec A n ca l w (hf.cls hw) hop) ?_)|(show T _ (.run _ _ (_::_) _ _::_) _ _ _;first|refine rc rfl rfl rfl rfl rfl rfl rfl (fun w hw=>placesBad_spec A n ca l w (hf.cls hw) hop) ?_|refine rcG rfl rfl rfl rfl rfl rfl rfl rfl rfl (fun hg w hw=>placesBad_spec A n ca l w (hf.cls hw) hop) ?_)|(show ∀ _:Nat,T _ _ _ _ _;intro _))
  refine T_if rfl (fun _=>?_) (fun h=>by exfalso;simp at h;exact hop h)
  repeat' (first|refine d1 ?_|refine dd ?_|(show ∀ _:Nat,T _ _ _ _ _;intro _)|(show T _ (.code .ret::_) _ _ _;refine T_retV [] rfl (Hle.none _) ⟨rfl,rfl⟩))
 have hpl:plE l=0:=by simpa using hop
 obtain⟨h1,hb,h4,hv⟩:=plE_ok hpl
 have hg:=hf.grp hb
 have hll:=lens_len l
 repeat' (first|refine d1 ?_|refine dd ?_|(show T _ (.ops _ (_::_)::_) _ _ _;refine T_op (OpT.call rfl rfl rfl rfl rfl (fun w hw=>placesOk_spec A n ca l w (hf.cls hw) hpl) ?_))|(show ∀ _:Nat,T _ _ _ _ _;intro _))
 rintro u R ⟨M,-,rfl,rfl⟩
 refine T_le (H':=dat [M] [rowsD ((mvL n).map intN)]::[]) (Hle.refl _) ?_
 refine T_open fun pm hM=>?_
 obtain⟨Am,cm,csm,rfl,-⟩:=hM.tab
 rw [List.length_map]
 repeat' (first|refine d1 ?_|refine dd ?_|(show ∀ _:Nat,T _ _ _ _ _;intro _))
 rename_i p6
 refine T_if rfl (fun h=>by exfalso;simp at h) (fun _=>?_)
 repeat' (first|refine d1 ?_|refine dd ?_|(show ∀ _:Nat,T _ _ _ _ _;intro _))
 refine T_if rfl (fun h=>?_) (fun h=>?_)
 ·have e:plcV l v=(0,9):=by unfold plcV;rw [if_neg (by simpa using hpl),if_pos (by simp at h;omega)]
  rw [e]
  repeat' (first|refine d1 ?_|refine dd ?_|(show ∀ _:Nat,T _ _ _ _ _;intro _)|(show T _ (.code .ret::_) _ _ _;refine T_retV [] rfl (Hle.none _) ⟨rfl,rfl⟩))
 have hlen:v.length=l.length:=by simp at h;omega
 clear h
 obtain rfl:nt=n:=by omega
 repeat' (first|refine d1 ?_|refine dd ?_|(show ∀ _:Nat,T _ _ _ _ _;intro _))
 rename_i p8
 refine T_loopX (fun k:Nat=>[(28, .int .i64 (k:Nat))]) (fun k=>[blk p8 (atJ (v.map Int.toNat) k) 145,blk p6 (spcL c0 A nt ca (.slice Am (mvL nt).length cm) (volL (lens l))) 132]) (fun k=>k≤nt∧∀ i,i<k→rngB l v i=false) (fun k=>nt - k) 0 ⟨Nat.zero_le _,fun i h=>absurd h (Nat.not_lt_zero i)⟩ ?_ (hG:=Hle.srt)
 rintro k ⟨hk,hok⟩
 repeat' (first|refine d1 ?_|refine dd ?_|(show ∀ _:Nat,T _ _ _ _ _;intro _))
 refine T_if rfl (fun h=>?_) (fun h=>?_)
 ·simp only [decide_eq_true_eq] at h
  have hkn:k<nt:=by omega
  obtain⟨b,o,rfl⟩:=hg.hs.base (by omega)
  obtain⟨ba,oa,rfl⟩:=hs.base (by omega)
  obtain⟨t,ht,htm,hrt⟩:=hg.get (k:=k) hkn
  obtain⟨z,hz⟩:∃ z,v[k]?=some z:=⟨_,List.getElem?_eq_getElem (by omega)⟩
  have hra:=src_int hs hkn hz
  have hgz:v.getD k 0=z:=by rw [List.getD_eq_getElem?_getD,hz];rfl
  have hgl:(lens l).getD k 0=t.n:=by rw [List.getD_eq_getElem?_getD,lens_get ht];rfl
  have hrb:rngB l v k=(decide (z<0) || decide ((t.n:Int)<z)):=by unfold rngB;rw [hgz,hgl]
  repeat' (first|refine d1 ?_|refine dd ?_|(show ∀ _:Nat,T _ _ _ _ _;intro _))
  refine T_if rfl (fun h2=>?_) (fun h2=>?_)
  ·have e:plcV l v=(0,2):=by
    unfold plcV
    rw [if_neg (by simpa using hpl),if_neg (by simpa using hlen),if_pos (List.any_eq_true.2 ⟨k,List.mem_range.2 (by omega),by rw [hrb];exact h2⟩)]
   rw [e]
   repeat' (first|refine d1 ?_|refine dd ?_|(show ∀ _:Nat,T _ _ _ _ _;intro _)|(show T _ (.code .ret::_) _ _ _;refine T_retV [] rfl (Hle.none _) ⟨rfl,rfl⟩))
  ·have hjl:(atJ (v.map Int.toNat) k).length=4:=rfl
   have hzn:0≤z:=by simp at h2;omega
   have hset:(atJ (v.map Int.toNat) k).set (0+(k:Int).toNat * 1) (.int .i64 z)=atJ (v.map Int.toNat) (k+1):=by
    have hgv:((v.map Int.toNat).getD k 0:Nat)=z.toNat:=by rw [List.getD_eq_getElem?_getD,List.getElem?_map,hz];rfl
    have hzz:z=(((v.map Int.toNat).getD k 0:Nat):Int):=by rw [hgv];omega
    rw [hzz,show 0+(k:Int).toNat * 1=k by omega]
    obtain rfl|rfl|rfl|rfl:k=0∨k=1∨k=2∨k=3:=by omega
    all_goals simp [atJ]
   repeat' (first|refine d1 ?_|refine dd ?_|(show T _ (.ops _ (_::_)::_) _ _ _;first|refine T_val rfl (Val.nilc rfl) rfl rfl rfl ?_|refine T_valC rfl (Val.nilc rfl) rfl rfl rfl rfl rfl ?_|refine T_op (OpT.store rfl rfl rfl rfl (by rw [hjl];omega) ?_))|(show T _ (.run _ _ (_::_) _ _::_) _ _ _;first|refine rv rfl rfl rfl (Val.nilc rfl) rfl rfl rfl ?_|refine rg rfl rfl rfl (Val.nilc rfl) rfl rfl rfl rfl rfl ?_)|(show ∀ _:Nat,T _ _ _ _ _;intro _))
   refine T_backX (k+1) ⟨by omega,fun i hi=>?_⟩ (by omega) (hG:=by rw [hset];exact Hle.refl _)
   by_cases e:i=k
   ·rw [e,hrb];exact h2
   ·exact hok i (by omega)
 ·simp only [decide_eq_false_iff_not] at h
  obtain rfl:k=nt:=by omega
  obtain⟨hin,-⟩:=rng_in hlen (fun i hi=>hok i (by omega))
  rw [atJ_all (by rw [List.length_map];omega) (by omega)]
  have e:plcV l v=(((numL (lens l) (v.map Int.toNat):Nat):Int),0):=by
   unfold plcV
   rw [if_neg (by simpa using hpl),if_neg (by simpa using hlen),if_neg]
   rw [Bool.not_eq_true,List.any_eq_false]
   intro i hi
   rw [hok i (by have:=List.mem_range.1 hi;omega)]
   simp
  rw [e]
  repeat' (first|refine d1 ?_|refine dd ?_|(show T _ (.ops _ (_::_)::_) _ _ _;first|refine T_val rfl (Val.loadA rfl (fun _=>rdAll) rfl) rfl rfl rfl ?_|refine T_valC rfl (Val.loadA rfl (fun _=>rdAll) rfl) rfl rfl rfl rfl rfl ?_|refine T_call rfl rfl rfl rfl rfl (fun w hw=>number20_spec c0 A k ca (.slice Am (mvL k).length cm) (volL (lens l)) l (v.map Int.toNat) w (hg.cls hw) (by omega) hin (by omega)) ?_|refine T_callC rfl rfl rfl rfl rfl rfl rfl (fun hg w hw=>number20_spec c0 A k ca (.slice Am (mvL k).length cm) (volL (lens l)) l (v.map Int.toNat) w (hg.cls hw) (by omega) hin (by omega)) ?_)|(show T _ (.run _ _ (_::_) _ _::_) _ _ _;first|refine rv rfl rfl rfl (Val.loadA rfl (fun _=>rdAll) rfl) rfl rfl rfl ?_|refine rg rfl rfl rfl (Val.loadA rfl (fun _=>rdAll) rfl) rfl rfl rfl rfl rfl ?_|refine rc rfl rfl rfl rfl rfl rfl rfl (fun w hw=>number20_spec c0 A k ca (.slice Am (mvL k).length cm) (volL (lens l)) l (v.map Int.toNat) w (hg.cls hw) (by omega) hin (by omega)) ?_|refine rcG rfl rfl rfl rfl rfl rfl rfl rfl rfl (fun hg w hw=>number20_spec c0 A k ca (.slice Am (mvL k).length cm) (volL (lens l)) l (v.map Int.toNat) w (hg.cls hw) (by omega) hin (by omega)) ?_)|(show ∀ _:Nat,T _ _ _ _ _;intro _)|(show T _ (.code .ret::_) _ _ _;refine T_retV [] rfl (Hle.none _) ⟨rfl,rfl⟩))
end Go.Proofs.YtmenjpmikhajfaaGreatDoor
namespace Go.Proofs.YtmenjpmikhajfaaGreatDoor
open Go.RowKit Go.Shelf Go.Proofs
set_option maxRecDepth 100000
set_option maxHeartbeats 1000000

noncomputable def prsW (c:Costs) (l:List TS):List Int × Int:=if opE c l≠0 then ([],opE c l) else (prsL c l,0)
def prsP (c:Costs) (l:List TS) (k i q:Nat):Int:=psum (prV c l (atL (lens l) q)) (pairsL k)+psum (prV c l (atL (lens l) q)) (rowP i k)
theorem prsP_zero (c:Costs) (l:List TS) (k q:Nat):prsP c l k 0 q=psum (prV c l (atL (lens l) q)) (pairsL k):=by
 unfold prsP
 rw [show rowP 0 k=[] from rfl,show psum (prV c l (atL (lens l) q)) []=0 from rfl,Int.add_zero]
theorem prsP_succ (c:Costs) (l:List TS) (k i q:Nat):prsP c l k (i+1) q=prsP c l k i q+prV c l (atL (lens l) q) i k:=by
 unfold prsP
 rw [rowP_succ,psum_snoc]
 dsimp only
 omega
theorem prsP_row (c:Costs) (l:List TS) (k q:Nat):prsP c l (k+1) 0 q=prsP c l k k q:=by
 rw [prsP_zero,pairsL_succ,psum_append];rfl
theorem prsP_all (c:Costs) (l:List TS) (q:Nat):prsP c l l.length 0 q=prsV c l (atL (lens l) q):=prsP_zero c l l.length q
theorem prsP_bd {c:Costs} (hc:costE c=0) {l:List TS} (hb:∀ t∈l,t.l.length≤1000) (q:Nat):∀ (k i:Nat),k≤4→i≤k→0≤prsP c l k i q∧prsP c l k i q≤40000000:=by
 have h:=prV_bd hc hb (atL (lens l) q)
 intro k i hk hi
 have h1:=psum_bd (f:=prV c l (atL (lens l) q)) (M:=2000000) (by omega) (pairsL k) (fun p _=>h p.1 p.2)
 have h2:=psum_bd (f:=prV c l (atL (lens l) q)) (M:=2000000) (by omega) (rowP i k) (fun p _=>h p.1 p.2)
 rw [rowP_length] at h2
 have h3:(pairsL k).length≤6:=by
  obtain rfl|rfl|rfl|rfl|rfl:k=0∨k=1∨k=2∨k=3∨k=4:=by omega
  all_goals decide
 unfold prsP
 omega
theorem prsL_val {c:Costs} {l:List TS}:valV (prsP c l l.length 0) (volL (lens l))=(prsL c l).map (Value.int .i64):=by
 unfold valV prsL
 rw [List.map_map]
 exact List.map_congr_left fun q _=>by rw [prsP_all];rfl
theorem ck18 {c:Costs} {l:List TS} (hc:costE c=0) (hbs:badS l=false) {s t:TS} (hs:s∈l) (ht:t∈l):ckV c s.l t.l=0:=by
 unfold badS at hbs
 rw [List.any_eq_false] at hbs
 have h1:=hbs s hs
 have h2:=hbs t ht
 rw [Bool.not_eq_true] at h1 h2
 unfold ckV
 simp [hc,h1,h2]
theorem pairs20_spec (c:Costs) (A:Option Addr) (n ca:Nat) (l:List TS) (w:World) (hf:Fit w A n l) :
  Spec Tryz.prog 43 [c.val, .slice A n ca] w (fun v R=>∃ x:Value,True∧v = .tuple #[x, .int .i64 (prsW c l).2]∧R=[dat [x] [intsD (prsW c l).1]]):=by
 have hn:=hf.hn
 refine spec_of sg Tryz.func43 rfl rfl rfl ?_
 refine T_op (OpT.box (cs:=c.cells) rfl rfl rfl rfl rfl rfl rfl (fun pc=>?_))
 by_cases hop:opE c l≠0
 ·have e:prsW c l=([],opE c l):=if_pos hop
  rw [e]
  repeat' (first|refine d1 ?_|refine dd ?_|(show T _ (.ops _ (_::_)::_) _ _ _;refine T_op (OpT.call rfl rfl rfl rfl rfl (fun w hw=>openBad_spec c A n ca l w (hf.cls hw) hop) ?_))|(show ∀ _:Nat,T _ _ _ _ _;intro _))
  rintro v R ⟨c',-,rfl,rfl⟩
  repeat' (first|refine d1 ?_|refine dd ?_|(show ∀ _:Nat,T _ _ _ _ _;intro _))
  refine T_if rfl (fun _=>?_) (fun h=>by exfalso;simp at h;exact hop h)
  repeat' (first|refine d1 ?_|refine dd ?_|(show ∀ _:Nat,T _ _ _ _ _;intro _)|(show T _ (.code .ret::_) _ _ _;refine T_retV _ rfl ((hle_unit (B:=dat [.slice none 0 0] [intsD []]) (.s none 0 0 1 [] rfl (Nat.le_refl _) (by omega) (fun h=>absurd h (by omega)) .nil .nil)).trans (Hle.nth 0 rfl)) ⟨_,trivial,rfl,rfl⟩))
 have hop:opE c l=0:=by simpa using hop
 have e:prsW c l=(prsL c l,0):=if_neg (by simpa using hop)
 rw [e]
 obtain⟨hpl,hck⟩:=opE_ok hop
 obtain⟨h1,hb,h4,hv⟩:=plE_ok hpl
 obtain⟨hc,hbs⟩:=ck21_ok hck
 have hg:=hf.grp hb
 have hll:=lens_len l
 repeat' (first|refine d1 ?_|refine dd ?_|(show T _ (.ops _ (_::_)::_) _ _ _;refine T_op (OpT.call rfl rfl rfl rfl rfl (fun w hw=>openOk_spec c A n ca l w (hf.cls hw) hop) ?_))|(show ∀ _:Nat,T _ _ _ _ _;intro _))
 rintro v R ⟨M,-,rfl,rfl⟩
 refine T_le (H':=dat [M] [rowsD ((mvL n).map intN)]::blk pc c.cells 23::[]) (Hle.refl _) ?_
 refine T_open fun pm hM=>?_
 obtain⟨Am,cm,csm,rfl,-⟩:=hM.tab
 rw [List.length_map]
 obtain⟨V,hV⟩:∃ V,V=volL (lens l):=⟨_,rfl⟩
 have hVp:0<V:=by rw [hV];exact volL_pos _
 have hval:=prsL_val (c:=c) (l:=l)
 rw [← hV] at hv hval ⊢
 repeat' (first|refine d1 ?_|refine dd ?_|(show ∀ _:Nat,T _ _ _ _ _;intro _))
 rename_i p6
 refine T_if rfl (fun h=>by exfalso;simp at h) (fun _=>?_)
 repeat' (first|refine d1 ?_|refine dd ?_|(show T _ (.ops _ (_::_)::_) _ _ _;refine T_op (OpT.make rfl rfl rfl rfl rfl rfl rfl rfl rfl (by dsimp only;omega) (fun b1=>?_)))|(show ∀ _:Nat,T _ _ _ _ _;intro _))
 have hz0:List.replicate V (Value.int .i64 0)=valV (prsP c l 0 0) V:=by
  rw [valV_replicate];exact valV_ext fun q _=>by rw [prsP_zero];rfl
 refine T_keep [(1, .slice A n ca),(2, .pointer (some ⟨pc,0,none⟩)),(6, .pointer (some ⟨p6,0,none⟩)),(8, .slice (some ⟨b1,0,none⟩) V V),(28, .int .i64 (n:Nat)),(29, .int .i64 ((0:Nat):Int))] ⟨rfl,rfl,rfl,rfl,rfl,rfl,trivial⟩ ?_
 have hnb:∀ t∈l,t.l.length≤1000:=hg.len
 refine T_loopX (fun k:Nat=>[(29, .int .i64 (k:Nat))]) (fun k=>[blk b1 (valV (prsP c l k 0) V) 3,blk p6 (spcL c A n ca (.slice Am (mvL n).length cm) V) 132,blk pc c.cells 23]) (fun k=>k≤n) (fun k=>n - k) 0 (Nat.zero_le _) ?_ (hG:=by rw [← hz0];exact Hle.srt)
 intro k hk
 repeat' (first|refine d1 ?_|refine dd ?_|(show ∀ _:Nat,T _ _ _ _ _;intro _))
 refine T_if rfl (fun h=>?_) (fun h=>?_)
 ·simp only [decide_eq_true_eq] at h
  have hkn:k<n:=by omega
  repeat' (first|refine d1 ?_|refine dd ?_|(show ∀ _:Nat,T _ _ _ _ _;intro _))
  refine T_loopX (fun i:Nat=>[(33, .int .i64 (i:Nat))]) (fun i=>[blk b1 (valV (prsP c l k i) V) 3,blk p6 (spcL c A n ca (.slice Am (mvL n).length cm) V) 132,blk pc c.cells 23]) (fun i=>i≤k) (fun i=>k - i) 0 (Nat.zero_le _) ?_
  intro i hi
  repeat' (first|refine d1 ?_|refine dd ?_|(show ∀ _:Nat,T _ _ _ _ _;intro _))
  refine T_if rfl (fun h2=>?_) (fun h2=>?_)
  ·simp only [decide_eq_true_eq] at h2
   have hik:i<k:=by omega
   obtain⟨b,o,rfl⟩:=hg.hs.base (by omega)
   obtain⟨s,hs,hsm,hrs⟩:=hg.get (k:=i) (by omega)
   obtain⟨t,ht,htm,hrt⟩:=hg.get (k:=k) hkn
   have hsl:=hg.ok.len s hsm
   have htl:=hg.ok.len t htm
   have hsn:=hg.nb s hsm
   have htn:=hg.nb t htm
   have hgs:(lens l).getD i 0=s.n:=by rw [List.getD_eq_getElem?_getD,lens_get hs];rfl
   have hgt:(lens l).getD k 0=t.n:=by rw [List.getD_eq_getElem?_getD,lens_get ht];rfl
   have htv:tableV c s.l t.l=(tabR s.n t.n (rst (grdOf c s.l t.l)),0):=by
    unfold tableV
    rw [if_pos (ck18 hc hbs hsm htm),hsl,htl]
   repeat' (first|refine d1 ?_|(show ∀ _:Nat,T _ _ _ _ _;intro _))
   refine rsH [blk b1 (valV (prsP c l k i) V) 3,blk p6 (spcL c (some ⟨b,o,none⟩) n ca (.slice Am (mvL n).length cm) V) 132,blk pc c.cells 23] 1000 [0,1,2,3,4,5,6,7,8,9,10,11,12,13,14] ?_
   repeat' (first|refine d1 ?_|refine dd ?_|(show T _ (.ops _ (_::_)::_) _ _ _;first|refine T_val rfl (Val.load rfl (fun hg=>rdOld hrs)) rfl rfl rfl ?_|refine T_valC rfl (Val.load rfl (fun hg=>rdOld hrs)) rfl rfl rfl rfl rfl ?_|refine T_val rfl (Val.load rfl (fun hg=>rdOld hrt)) rfl rfl rfl ?_|refine T_valC rfl (Val.load rfl (fun hg=>rdOld hrt)) rfl rfl rfl rfl rfl ?_)|(show T _ (.run _ _ (_::_) _ _::_) _ _ _;first|refine rv rfl rfl rfl (Val.load rfl (fun hg=>rdOld hrs)) rfl rfl rfl ?_|refine rg rfl rfl rfl (Val.load rfl (fun hg=>rdOld hrs)) rfl rfl rfl rfl rfl ?_|refine rv rfl rfl rfl (Val.load rfl (fun hg=>rdOld hrt)) rfl rfl rfl ?_|refine rg rfl rfl rfl (Val.load rfl (fun hg=>rdOld hrt)) rfl rfl rfl rfl rfl ?_|refine ro rfl rfl (OpT.call rfl rfl rfl rfl rfl (fun w hw=>tablePrg_spec c s.A t.A s.n t.n s.cap t.cap s.l t.l w ((hg.cls hw).two hsm htm)) (fun u R hR=>?_)))|(show ∀ _:Nat,T _ _ _ _ _;intro _))
   rw [htv] at hR
   obtain⟨x,-,rfl,rfl⟩:=hR
   refine ⟨fun _=>Hle.tail _ _,?_⟩
   refine T_le (H':=dat [x] [rowsD (tabR s.n t.n (rst (grdOf c s.l t.l)))]::blk b1 (valV (prsP c l k i) V) 3::blk p6 (spcL c (some ⟨b,o,none⟩) n ca (.slice Am (mvL n).length cm) V) 132::blk pc c.cells 23::[]) (Hle.refl _) ?_
   refine T_open fun pt hT=>?_
   obtain⟨At,ct,cst,rfl,ht1,ht2,htc,htr,htrows⟩:=hT.tab
   rw [tabR_length] at ht1 htc htr ⊢
   repeat' (first|refine d1 ?_|refine dd ?_|(show ∀ _:Nat,T _ _ _ _ _;intro _))
   refine T_if rfl (fun h=>by exfalso;simp at h) (fun _=>?_)
   obtain⟨bt,ot,rfl,hrd⟩:=htr (by omega)
   repeat' (first|refine d1 ?_|refine dd ?_|(show ∀ _:Nat,T _ _ _ _ _;intro _))
   refine T_loopX (fun q:Nat=>[(54, .int .i64 (q:Nat))]) (fun q=>[blk b1 (valV (fun q'=>if q'<q then prsP c l k (i+1) q' else prsP c l k i q') V) 3,fz pt,blk p6 (spcL c (some ⟨b,o,none⟩) n ca (.slice Am (mvL n).length cm) V) 132,blk pc c.cells 23]) (fun q=>q≤V) (fun q=>V - q) 0 (Nat.zero_le _) ?_ (hG:=by
    have e9:valV (fun q'=>if q'<0 then prsP c l k (i+1) q' else prsP c l k i q') V=valV (prsP c l k i) V:=valV_ext fun q _=>if_neg (by omega)
    rw [e9];exact Hle.srt)
   intro q hq
   repeat' (first|refine d1 ?_|refine dd ?_|(show ∀ _:Nat,T _ _ _ _ _;intro _))
   refine T_if rfl (fun h3=>?_) (fun h3=>?_)
   ·simp only [decide_eq_true_eq] at h3
    have hqV:q<V:=by omega
    have hin:=atL_in (lens l) q
    have hai:=hin.get i
    have hak:=hin.get k
    rw [hgs] at hai
    rw [hgt] at hak
    obtain⟨u,hu⟩:∃ u,u=(atL (lens l) q).getD i 0:=⟨_,rfl⟩
    obtain⟨v,hve⟩:∃ v,v=(atL (lens l) q).getD k 0:=⟨_,rfl⟩
    have hprv:prV c l (atL (lens l) q) i k=rst (grdOf c s.l t.l) u v:=by unfold prV;rw [tsA_eq hs,tsA_eq ht, ← hu, ← hve]
    have havi:(atV (atL (lens l) q))[0+(i:Int).toNat * 1]?=some (.int .i64 (u:Nat)):=by rw [show 0+(i:Int).toNat * 1=i by omega,atV_get _ (by omega),hu]
    have havk:(atV (atL (lens l) q))[0+(k:Int).toNat * 1]?=some (.int .i64 (v:Nat)):=by rw [show 0+(k:Int).toNat * 1=k by omega,atV_get _ (by omega),hve]
    rw [← hu] at hai
    rw [← hve] at hak
    obtain⟨Ar,capr,hcs,hr1,hr2,hAr⟩:=htrows.tabRow (i:=u) (tabR_get (n:=s.n) (m:=t.n) (f:=rst (grdOf c s.l t.l)) hai)
    rw [List.length_map,List.length_range] at hcs hr1 hAr
    obtain⟨br,orr,rfl,hb'⟩:=hAr (by omega)
    have hb1v:(valV (fun q'=>if q'<q then prsP c l k (i+1) q' else prsP c l k i q') V)[0+(q:Int).toNat * 1]?=some (.int .i64 (prsP c l k i q)):=by
     rw [show 0+(q:Int).toNat * 1=q by omega,valV_get hqV,if_neg (Nat.lt_irrefl q)]
    have hpb:=prsP_bd hc hnb q k i (by omega) (by omega)
    have hpb2:=prV_bd hc hnb (atL (lens l) q) i k
    rw [hprv] at hpb2
    have hvl:(valV (fun q'=>if q'<q then prsP c l k (i+1) q' else prsP c l k i q') V).length=V:=valV_length _ _
    repeat' (first|refine d1 ?_|(show T _ (.ops _ (_::_)::_) _ _ _;first|refine T_val rfl (Val.loadA rfl (fun _=>rdAll) rfl) rfl rfl rfl ?_|refine T_valC rfl (Val.loadA rfl (fun _=>rdAll) rfl) rfl rfl rfl rfl rfl ?_|refine T_call rfl rfl rfl rfl rfl (fun w hw=>at20_spec c (some ⟨b,o,none⟩) n ca (.slice Am (mvL n).length cm) V l q w (hg.cls hw) (by omega) (by omega) (by omega)) ?_|refine T_callC rfl rfl rfl rfl rfl rfl rfl (fun hg w hw=>at20_spec c (some ⟨b,o,none⟩) n ca (.slice Am (mvL n).length cm) V l q w (hg.cls hw) (by omega) (by omega) (by omega)) ?_)|(show T _ (.run _ _ (_::_) _ _::_) _ _ _;first|refine rv rfl rfl rfl (Val.loadA rfl (fun _=>rdAll) rfl) rfl rfl rfl ?_|refine rg rfl rfl rfl (Val.loadA rfl (fun _=>rdAll) rfl) rfl rfl rfl rfl rfl ?_|refine rc rfl rfl rfl rfl rfl rfl rfl (fun w hw=>at20_spec c (some ⟨b,o,none⟩) n ca (.slice Am (mvL n).length cm) V l q w (hg.cls hw) (by omega) (by omega) (by omega)) ?_|refine rcG rfl rfl rfl rfl rfl rfl rfl rfl rfl (fun hg w hw=>at20_spec c (some ⟨b,o,none⟩) n ca (.slice Am (mvL n).length cm) V l q w (hg.cls hw) (by omega) (by omega) (by omega)) ?_)|(show ∀ _:Nat,T _ _ _ _ _;intro _))
    rename_i p14
    refine T_le (H':=[blk p14 (atV (atL (lens l) q)) 145,blk b1 (valV (fun q'=>if q'<q then prsP c l k (i+1) q' else prsP c l k i q') V) 3,fz pt,blk p6 (spcL c (some ⟨b,o,none⟩) n ca (.slice Am (mvL n).length cm) V) 132,blk pc c.cells 23]) (Hle.refl _) ?_
    refine rsH [blk p14 (atV (atL (lens l) q)) 145,blk b1 (valV (fun q'=>if q'<q then prsP c l k (i+1) q' else prsP c l k i q') V) 3,fz pt] 17 [0,1,2,3,4,5,6,7,8,9,10,11,12,13,14,15,16,17] ?_
    repeat' (first|refine d1 ?_|refine dd ?_|(show T _ (.ops _ (_::_)::_) _ _ _;first|refine T_val rfl (Val.nilc rfl) rfl rfl rfl ?_|refine T_valC rfl (Val.nilc rfl) rfl rfl rfl rfl rfl ?_|refine T_val rfl (Val.load rfl (fun hg=>rdOwn1 (b:=p14) havi)) rfl rfl rfl ?_|refine T_valC rfl (Val.load rfl (fun hg=>rdOwn1 (b:=p14) havi)) rfl rfl rfl rfl rfl ?_|refine T_val rfl (Val.load rfl (fun hg=>rdOwn1 (b:=p14) havk)) rfl rfl rfl ?_|refine T_valC rfl (Val.load rfl (fun hg=>rdOwn1 (b:=p14) havk)) rfl rfl rfl rfl rfl ?_|refine T_val rfl (Val.load rfl (fun hg=>rdOwn1 (b:=b1) hb1v)) rfl rfl rfl ?_|refine T_valC rfl (Val.load rfl (fun hg=>rdOwn1 (b:=b1) hb1v)) rfl rfl rfl rfl rfl ?_|refine T_val rfl (Val.load rfl (fun hg=>rdFz (p:=pt) (u := .slice (some ⟨br,orr,none⟩) (t.n+1) capr) (b:=bt) (by rw [off1];exact hrd u _ hcs))) rfl rfl rfl ?_|refine T_valC rfl (Val.load rfl (fun hg=>rdFz (p:=pt) (u := .slice (some ⟨br,orr,none⟩) (t.n+1) capr) (b:=bt) (by rw [off1];exact hrd u _ hcs))) rfl rfl rfl rfl rfl ?_|refine T_val rfl (Val.load rfl (fun hg=>rdFz (p:=pt) (u := .int .i64 (rst (grdOf c s.l t.l) u v)) (b:=br) (by rw [off1];exact hb' v _ (tabR_cell hak)))) rfl rfl rfl ?_|refine T_valC rfl (Val.load rfl (fun hg=>rdFz (p:=pt) (u := .int .i64 (rst (grdOf c s.l t.l) u v)) (b:=br) (by rw [off1];exact hb' v _ (tabR_cell hak)))) rfl rfl rfl rfl rfl ?_)|(show T _ (.run _ _ (_::_) _ _::_) _ _ _;first|refine rv rfl rfl rfl (Val.nilc rfl) rfl rfl rfl ?_|refine rg rfl rfl rfl (Val.nilc rfl) rfl rfl rfl rfl rfl ?_|refine rv rfl rfl rfl (Val.load rfl (fun hg=>rdOwn1 (b:=p14) havi)) rfl rfl rfl ?_|refine rg rfl rfl rfl (Val.load rfl (fun hg=>rdOwn1 (b:=p14) havi)) rfl rfl rfl rfl rfl ?_|refine rv rfl rfl rfl (Val.load rfl (fun hg=>rdOwn1 (b:=p14) havk)) rfl rfl rfl ?_|refine rg rfl rfl rfl (Val.load rfl (fun hg=>rdOwn1 (b:=p14) havk)) rfl rfl rfl rfl rfl ?_|refine rv rfl rfl rfl (Val.load rfl (fun hg=>rdOwn1 (b:=b1) hb1v)) rfl rfl rfl ?_|refine rg rfl rfl rfl (Val.load rfl (fun hg=>rdOwn1 (b:=b1) hb1v)) rfl rfl rfl rfl rfl ?_|refine rv rfl rfl rfl (Val.load rfl (fun hg=>rdFz (p:=pt) (u := .slice (some ⟨br,orr,none⟩) (t.n+1) capr) (b:=bt) (by rw [off1];exact hrd u _ hcs))) rfl rfl rfl ?_|refine rg rfl rfl rfl (Val.load rfl (fun hg=>rdFz (p:=pt) (u := .slice (some ⟨br,orr,none⟩) (t.n+1) capr) (b:=bt) (by rw [off1];exact hrd u _ hcs))) rfl rfl rfl rfl rfl ?_|refine rv rfl rfl rfl (Val.load rfl (fun hg=>rdFz (p:=pt) (u := .int .i64 (rst (grdOf c s.l t.l) u v)) (b:=br) (by rw [off1];exact hb' v _ (tabR_cell hak)))) rfl rfl rfl ?_|refine rg rfl rfl rfl (Val.load rfl (fun hg=>rdFz (p:=pt) (u := .int .i64 (rst (grdOf c s.l t.l) u v)) (b:=br) (by rw [off1];exact hb' v _ (tabR_cell hak)))) rfl rfl rfl rfl rfl ?_|refine ro rfl rfl (OpT.store rfl rfl rfl rfl (by rw [hvl];omega) ⟨fun hlv=>absurd hlv (by decide +kernel),?_⟩))|(show ∀ _:Nat,T _ _ _ _ _;intro _))
    refine T_backX (q+1) (by omega) (by omega) (hG:=?_)
    rw [show 0+(q:Int).toNat * 1=q by omega,valV_put]
    have e9:valV (fun q'=>if q'=q then prsP c l k i q+rst (grdOf c s.l t.l) u v else if q'<q then prsP c l k (i+1) q' else prsP c l k i q') V=valV (fun q'=>if q'<q+1 then prsP c l k (i+1) q' else prsP c l k i q') V:=valV_ext fun q' _=>by
     by_cases e:q'=q
     ·subst e;rw [if_pos rfl,if_pos (by omega),prsP_succ,hprv]
     ·rw [if_neg e]
      by_cases e2:q'<q
      ·rw [if_pos e2,if_pos (by omega)]
      ·rw [if_neg e2,if_neg (by omega)]
    rw [e9]
    exact Hle.srt
   ·simp only [decide_eq_false_iff_not] at h3
    obtain rfl:q=V:=by omega
    have e9:valV (fun q'=>if q'<q then prsP c l k (i+1) q' else prsP c l k i q') q=valV (prsP c l k (i+1)) q:=valV_ext fun q' h9=>if_pos h9
    rw [e9]
    repeat' (first|refine d1 ?_|refine dd ?_|(show ∀ _:Nat,T _ _ _ _ _;intro _))
    exact T_backX (i+1) (by omega) (by omega) (hG:=Hle.srt)
  ·simp only [decide_eq_false_iff_not] at h2
   obtain rfl:i=k:=by omega
   have e9:valV (prsP c l i i) V=valV (prsP c l (i+1) 0) V:=valV_ext fun q' _=>(prsP_row c l i q').symm
   rw [e9]
   repeat' (first|refine d1 ?_|refine dd ?_|(show ∀ _:Nat,T _ _ _ _ _;intro _))
   exact T_backX (i+1) (by omega) (by omega)
 ·simp only [decide_eq_false_iff_not] at h
  obtain rfl:k=n:=by omega
  rw [← hn,hval]
  have hlm:((prsL c l).map (Value.int .i64)).length=V:=by rw [List.length_map,prsL_len,hV]
  have hd:=dat_blkV (e:=3) (sz:=1) (n:=V) (b:=b1) (cs:=(prsL c l).map (Value.int .i64)) (H:=[]) (by rw [hlm,Nat.mul_one]) (by omega)
  rw [List.map_map] at hd
  repeat' (first|refine d1 ?_|refine dd ?_|(show ∀ _:Nat,T _ _ _ _ _;intro _)|(show T _ (.code .ret::_) _ _ _;refine T_retV _ rfl ((Hle.nth 0 rfl).trans hd) ⟨_,trivial,rfl,rfl⟩))
end Go.Proofs.YtmenjpmikhajfaaGreatDoor
namespace Go.Proofs.YtmenjpmikhajfaaGreatDoor
open Go.RowKit Go.Shelf Go.Proofs
set_option maxRecDepth 100000
set_option maxHeartbeats 1000000

noncomputable def tgtV (c:Costs) (l:List TS) (p:List Int):List (List Int) × Int :=
 if opE c l≠0 then ([],opE c l) else if feaE (colZ c l) (lens l) (mvL l.length) p≠0 then ([],feaE (colZ c l) (lens l) (mvL l.length) p)
 else if ldV (colZ c l) (lens l) (mvL l.length) p (List.replicate l.length 0)=true then (tgV (colZ c l) (lens l) (mvL l.length) p (List.replicate l.length 0),0) else ([],6)
theorem tight1_spec (p:List Int) (Lb:List Bool) (b o np cp g5 g11 b11 V q u:Nat) (k:Int) (A9:Option Addr) (m9 c9:Nat) (w:World) (h5:RdC w g5 0 [.slice (some ⟨b,o,none⟩) np cp]) (h11:RdC w g11 0 [.slice (some ⟨b11,0,none⟩) V V]) (hp:Src w 1 (some ⟨b,o,none⟩) np (p.map (Value.int .i64))) (hnp:p.length=np) (hL:RdC w b11 0 (Lb.map Value.bool)) (hLl:Lb.length=V) (hq:q<np) (hu:u<np) (huV:u<V) (hk:0≤k∧k≤1024000) (hb:0≤pg p u∧pg p u≤1073741824) :
  Spec Tryz.prog 136 [.int .i64 (q:Nat), .agg #[.slice A9 m9 c9, .int .i64 k, .int .i64 (u:Nat)], .pointer (some ⟨g5,0,none⟩), .pointer (some ⟨g11,0,none⟩)] w (fun x R=>x = .bool (decide (pg p q=k+pg p u) && Lb.getD u false)∧R=[]):=by
 have hpg:∀ q,q<np→RdC w b (o+(q:Int).toNat * 1) [.int .i64 (pg p q)]:=fun q hq=>src_int hp hq (by unfold pg;rw [List.getD_eq_getElem?_getD,List.getElem?_eq_getElem (by omega)];rfl)
 have h1:=hpg q hq
 have h2:=hpg u hu
 have h3:RdC w b11 (0+(u:Int).toNat * 1) [.bool (Lb.getD u false)]:=RdC.one (by have:=hL u (.bool (Lb.getD u false)) (by rw [List.getElem?_map,List.getD_eq_getElem?_getD,List.getElem?_eq_getElem (by omega)];rfl);rw [show 0+(u:Int).toNat * 1=0+u by omega];exact this)
 refine spec_of sg Tryz.func136 rfl rfl rfl ?_
 refine T_op (OpT.box (cs:=[.slice A9 m9 c9, .int .i64 k, .int .i64 (u:Nat)]) rfl rfl rfl rfl rfl rfl rfl (fun p5=>?_))
 repeat' (first|refine d1 ?_|refine dd ?_|(show T _ (.ops _ (_::_)::_) _ _ _;first|refine T_val rfl (Val.nilc rfl) rfl rfl rfl ?_|refine T_valC rfl (Val.nilc rfl) rfl rfl rfl rfl rfl ?_|refine T_val rfl (Val.load rfl (fun hg=>rdOld h5)) rfl rfl rfl ?_|refine T_valC rfl (Val.load rfl (fun hg=>rdOld h5)) rfl rfl rfl rfl rfl ?_|refine T_val rfl (Val.load rfl (fun hg=>rdOld h11)) rfl rfl rfl ?_|refine T_valC rfl (Val.load rfl (fun hg=>rdOld h11)) rfl rfl rfl rfl rfl ?_|refine T_val rfl (Val.load rfl (fun hg=>rdOld h1)) rfl rfl rfl ?_|refine T_valC rfl (Val.load rfl (fun hg=>rdOld h1)) rfl rfl rfl rfl rfl ?_|refine T_val rfl (Val.load rfl (fun hg=>rdOld h2)) rfl rfl rfl ?_|refine T_valC rfl (Val.load rfl (fun hg=>rdOld h2)) rfl rfl rfl rfl rfl ?_|refine T_val rfl (Val.load rfl (fun hg=>rdOld h3)) rfl rfl rfl ?_|refine T_valC rfl (Val.load rfl (fun hg=>rdOld h3)) rfl rfl rfl rfl rfl ?_)|(show T _ (.run _ _ (_::_) _ _::_) _ _ _;first|refine rv rfl rfl rfl (Val.nilc rfl) rfl rfl rfl ?_|refine rg rfl rfl rfl (Val.nilc rfl) rfl rfl rfl rfl rfl ?_|refine rv rfl rfl rfl (Val.load rfl (fun hg=>rdOld h5)) rfl rfl rfl ?_|refine rg rfl rfl rfl (Val.load rfl (fun hg=>rdOld h5)) rfl rfl rfl rfl rfl ?_|refine rv rfl rfl rfl (Val.load rfl (fun hg=>rdOld h11)) rfl rfl rfl ?_|refine rg rfl rfl rfl (Val.load rfl (fun hg=>rdOld h11)) rfl rfl rfl rfl rfl ?_|refine rv rfl rfl rfl (Val.load rfl (fun hg=>rdOld h1)) rfl rfl rfl ?_|refine rg rfl rfl rfl (Val.load rfl (fun hg=>rdOld h1)) rfl rfl rfl rfl rfl ?_|refine rv rfl rfl rfl (Val.load rfl (fun hg=>rdOld h2)) rfl rfl rfl ?_|refine rg rfl rfl rfl (Val.load rfl (fun hg=>rdOld h2)) rfl rfl rfl rfl rfl ?_|refine rv rfl rfl rfl (Val.load rfl (fun hg=>rdOld h3)) rfl rfl rfl ?_|refine rg rfl rfl rfl (Val.load rfl (fun hg=>rdOld h3)) rfl rfl rfl rfl rfl ?_)|(show ∀ _:Nat,T _ _ _ _ _;intro _)|(show T _ (.code .ret::_) _ _ _;refine T_retV [] rfl (Hle.none _) ⟨rfl,rfl⟩))
def fTv (g5 g11:Nat):Value := .func (.func 136) #[] #[.pointer (some ⟨g5,0,none⟩), .pointer (some ⟨g11,0,none⟩)]
theorem lead_get {L:List Bool} {V q:Nat} (hL:L.length=V) (h:q<V):∀ w b,RdC w b 0 (L.map Value.bool)→RdC w b (0+(q:Int).toNat * 1) [.bool (L.getD q false)]:=fun w b h9=>RdC.one (by have:=h9 q (.bool (L.getD q false)) (by rw [List.getElem?_map,List.getD_eq_getElem?_getD,List.getElem?_eq_getElem (by omega)];rfl);rw [show 0+(q:Int).toNat * 1=0+q by omega];exact this)
theorem set_getB {L:List Bool} {i s:Nat} {z:Bool} (hi:i<L.length):(L.set i z).getD s false=if i=s then z else L.getD s false:=by
 rw [List.getD_eq_getElem?_getD,List.getElem?_set]
 by_cases e:i=s
 ·subst e;rw [if_pos rfl,if_pos rfl,if_pos hi];rfl
 ·rw [if_neg e,if_neg e, ← List.getD_eq_getElem?_getD]
theorem posL_any {ls v:List Nat} {Ms:List (List Nat)} {f:List Nat→Bool}:(posL ls v Ms).any f=Ms.any fun m=>possM ls v m && f m:=by
 unfold posL
 rw [List.any_filter]
theorem find_posT {K:List Int→Int} {ls v:List Nat} {p:List Int}:∀ Ms Ns:List (List Nat),(posL ls v Ms).find? (fitT K ls Ns p v)=Ms.find? (fitT K ls Ns p v)
 | [],Ns=>rfl
 | m::Ms,Ns=>by
  unfold posL
  rw [List.filter_cons,List.find?_cons (a:=m)]
  cases hp:possM ls v m with
  | true =>
   show List.find? _ (m::posL ls v Ms)=_
   rw [List.find?_cons,find_posT Ms Ns]
  | false =>
   have hf:fitT K ls Ns p v m=false:=by unfold fitT;rw [hp];rfl
   show List.find? _ (posL ls v Ms)=_
   rw [hf,find_posT Ms Ns]
theorem any_fit {K:List Int→Int} {ls v:List Nat} {Ns:List (List Nat)} {p:List Int} (Ms:List (List Nat)):(posL ls v Ms).any (fitT K ls Ns p v)=Ms.any (fitT K ls Ns p v):=by
 rw [posL_any]
 congr 1
 funext m
 unfold fitT
 cases possM ls v m <;> rfl
theorem set_sameB {L:List Bool} {q:Nat} (h:L.getD q false=false) (hq:q<L.length):L.set q false=L:=by
 refine List.ext_getElem? fun i=>?_
 rw [List.getElem?_set]
 by_cases e:q=i
 ·subst e
  rw [if_pos rfl,if_pos hq,List.getElem?_eq_getElem hq]
  rw [List.getD_eq_getElem?_getD,List.getElem?_eq_getElem hq] at h
  exact congrArg some h.symm
 ·rw [if_neg e]
theorem tight20_spec (c:Costs) (A:Option Addr) (n ca:Nat) (l:List TS) (Ap:Option Addr) (np cp:Nat) (p:List Int) (w:World) (hf:Fit w A n l) (hp:Src w 1 Ap np (p.map (Value.int .i64))) (hnp:p.length=np) (hpb:np≤1000) :
  Spec Tryz.prog 59 [c.val, .slice A n ca, .slice Ap np cp] w (fun v R=>∃ x:Value,True∧v = .tuple #[x, .int .i64 (tgtV c l p).2]∧R=[dat [x] [rowsD (tgtV c l p).1]]):=by
 have hn:=hf.hn
 refine spec_of sg Tryz.func59 rfl rfl rfl ?_
 refine T_op (OpT.box (cs:=c.cells) rfl rfl rfl rfl rfl rfl rfl (fun p3=>?_))
 refine T_op (OpT.box (cs:=[.slice A n ca]) rfl rfl rfl rfl rfl rfl rfl (fun p4=>?_))
 refine T_op (OpT.box (cs:=[.slice Ap np cp]) rfl rfl rfl rfl rfl rfl rfl (fun p5=>?_))
 by_cases hop:opE c l≠0
 ·have e:tgtV c l p=([],opE c l):=if_pos hop
  rw [e]
  repeat' (first|refine d1 ?_|refine dd ?_|(show T _ (.ops _ (_::_)::_) _ _ _;refine T_op (OpT.call rfl rfl rfl rfl rfl (fun w hw=>openBad_spec c A n ca l w (hf.cls hw) hop) ?_))|(show ∀ _:Nat,T _ _ _ _ _;intro _))
  rintro v R ⟨c',-,rfl,rfl⟩
  repeat' (first|refine d1 ?_|refine dd ?_|(show ∀ _:Nat,T _ _ _ _ _;intro _))
  refine T_if rfl (fun _=>?_) (fun h=>by exfalso;simp at h;exact hop h)
  repeat' (first|refine d1 ?_|refine dd ?_|(show ∀ _:Nat,T _ _ _ _ _;intro _)|(show T _ (.code .ret::_) _ _ _;refine T_retV _ rfl (nilC _ |>.trans (Hle.nth 0 rfl)) ⟨_,trivial,rfl,rfl⟩))
 have hop:opE c l=0:=by simpa using hop
 obtain⟨hpl,hck⟩:=opE_ok hop
 obtain⟨h1,hb,h4,hv⟩:=plE_ok hpl
 obtain⟨hc,hbs⟩:=ck21_ok hck
 have hg:=hf.grp hb
 have hll:=lens_len l
 have hlsn:(lens l).length=n:=by omega
 have h1n:1≤n:=by omega
 have h4n:n≤4:=by omega
 have hno:=mvL_ok h1n h4n
 repeat' (first|refine d1 ?_|refine dd ?_|(show T _ (.ops _ (_::_)::_) _ _ _;refine T_op (OpT.call rfl rfl rfl rfl rfl (fun w hw=>openOk_spec c A n ca l w (hf.cls hw) hop) ?_))|(show ∀ _:Nat,T _ _ _ _ _;intro _))
 rintro v R ⟨M,-,rfl,rfl⟩
 refine T_le (H':=dat [M] [rowsD ((mvL n).map intN)]::blk p5 [.slice Ap np cp] 40::blk p4 [.slice A n ca] 24::blk p3 c.cells 23::[]) (Hle.refl _) ?_
 refine T_open fun pm hM=>?_
 have hM0:=hM
 obtain⟨Am,cm,csm,rfl,-⟩:=hM.tab
 rw [List.length_map] at hM0 ⊢
 obtain⟨V,hV⟩:∃ V,V=volL (lens l):=⟨_,rfl⟩
 have hVp:0<V:=by rw [hV];exact volL_pos _
 rw [← hV] at hv ⊢
 repeat' (first|refine d1 ?_|refine dd ?_|(show ∀ _:Nat,T _ _ _ _ _;intro _))
 rename_i p8
 refine T_if rfl (fun h=>by exfalso;simp at h) (fun _=>?_)
 repeat' (first|refine d1 ?_|refine dd ?_|(show T _ (.ops _ (_::_)::_) _ _ _;first|refine T_val rfl (Val.loadA rfl (fun _=>rdAll) rfl) rfl rfl rfl ?_|refine T_valC rfl (Val.loadA rfl (fun _=>rdAll) rfl) rfl rfl rfl rfl rfl ?_|refine T_call rfl rfl rfl rfl rfl (fun w hw=>check20_spec c A n ca (.slice Am (mvL n).length cm) V l Ap np cp p w (hg.cls hw) hc hbs h1n h4n (by omega) hV (hM0.own hw) (rdSrc hp w hw) hnp hpb) ?_|refine T_callC rfl rfl rfl rfl rfl rfl rfl (fun hg w hw=>check20_spec c A n ca (.slice Am (mvL n).length cm) V l Ap np cp p w (hg.cls hw) hc hbs h1n h4n (by omega) hV (hM0.own hw) (rdSrc hp w hw) hnp hpb) ?_)|(show T _ (.run _ _ (_::_) _ _::_) _ _ _;first|refine rv rfl rfl rfl (Val.loadA rfl (fun _=>rdAll) rfl) rfl rfl rfl ?_|refine rg rfl rfl rfl (Val.loadA rfl (fun _=>rdAll) rfl) rfl rfl rfl rfl rfl ?_|refine rc rfl rfl rfl rfl rfl rfl rfl (fun w hw=>check20_spec c A n ca (.slice Am (mvL n).length cm) V l Ap np cp p w (hg.cls hw) hc hbs h1n h4n (by omega) hV (hM0.own hw) (rdSrc hp w hw) hnp hpb) ?_|refine rcG rfl rfl rfl rfl rfl rfl rfl rfl rfl (fun hg w hw=>check20_spec c A n ca (.slice Am (mvL n).length cm) V l Ap np cp p w (hg.cls hw) hc hbs h1n h4n (by omega) hV (hM0.own hw) (rdSrc hp w hw) hnp hpb) ?_)|(show ∀ _:Nat,T _ _ _ _ _;intro _))
 refine T_if rfl (fun h=>?_) (fun h=>?_)
 ·have e:tgtV c l p=([],feaE (colZ c l) (lens l) (mvL n) p):=by unfold tgtV;rw [if_neg (by simpa using hop),hn,if_pos (by simpa using h)]
  rw [e]
  repeat' (first|refine d1 ?_|refine dd ?_|(show ∀ _:Nat,T _ _ _ _ _;intro _)|(show T _ (.code .ret::_) _ _ _;refine T_retV _ rfl (nilC _ |>.trans (Hle.nth 0 rfl)) ⟨_,trivial,rfl,rfl⟩))
 have hfe:feaE (colZ c l) (lens l) (mvL n) p=0:=by simpa using h
 clear h
 obtain⟨f1,f2,f3,f4⟩:=feaE_ok.1 hfe
 have hnpV:np=V:=by omega
 have hpb2:∀ q,0≤pg p q∧pg p q≤1073741824:=fun q=>by
  unfold pg
  rw [List.getD_eq_getElem?_getD]
  cases hq:p[q]? with
  | none=>simp
  | some z=>exact f3 z (List.mem_of_getElem? hq)
 obtain⟨b,o,rfl⟩:=hp.base (by omega)
 have et:tgtV c l p=if ldV (colZ c l) (lens l) (mvL n) p (List.replicate n 0)=true then (tgV (colZ c l) (lens l) (mvL n) p (List.replicate n 0),0) else ([],6):=by
  unfold tgtV
  rw [if_neg (by simpa using hop),hn,if_neg (by simpa using hfe)]
 rw [et]
 obtain⟨F,hF⟩:∃ F:Nat→Bool,F=fun q=>ldV (colZ c l) (lens l) (mvL n) p (atL (lens l) q):=⟨_,rfl⟩
 repeat' (first|refine d1 ?_|refine dd ?_|(show T _ (.ops _ (_::_)::_) _ _ _;refine T_op (OpT.make rfl rfl rfl rfl rfl rfl rfl rfl rfl (by dsimp only;omega) (fun b11=>?_)))|(show ∀ _:Nat,T _ _ _ _ _;intro _))
 rename_i p11 p12 p13
 have hset:(List.replicate V (Value.bool false)).set (0+((V:Int) - 1).toNat * 1) (.bool true)=((List.replicate V false).set (V - 1) true).map Value.bool:=by
  rw [show 0+((V:Int) - 1).toNat * 1=V - 1 by omega,List.map_set,List.map_replicate]
 refine T_le (H':=[blk p13 [.int .i64 ((V:Int) - 2)] 3,blk p12 [fTv p5 p11] 154,blk p11 [.slice (some ⟨b11,0,none⟩) V V] 153,blk b11 ((List.replicate V (Value.bool false)).set (0+((V:Int) - 1).toNat * 1) (.bool true)) 4,blk p8 (spcL c A n ca (.slice Am (mvL n).length cm) V) 132,fz pm,blk p5 [.slice (some ⟨b,o,none⟩) np cp] 40,blk p4 [.slice A n ca] 24,blk p3 c.cells 23]) (Hle.refl _) ?_
 rw [hset]
 refine T_keep [(3, .pointer (some ⟨p3,0,none⟩)),(4, .pointer (some ⟨p4,0,none⟩)),(5, .pointer (some ⟨p5,0,none⟩)),(8, .pointer (some ⟨p8,0,none⟩)),(11, .pointer (some ⟨p11,0,none⟩)),(12, .pointer (some ⟨p12,0,none⟩)),(13, .pointer (some ⟨p13,0,none⟩))] ⟨rfl,rfl,rfl,rfl,rfl,rfl,rfl,trivial⟩ ?_
 refine T_le (H':=blk p13 [.int .i64 (((V - 1:Nat):Int) - 1)] 3::blk b11 (((List.replicate V false).set (V - 1) true).map Value.bool) 4::blk p12 [fTv p5 p11] 154::blk p11 [.slice (some ⟨b11,0,none⟩) V V] 153::blk p8 (spcL c A n ca (.slice Am (mvL n).length cm) V) 132::fz pm::blk p5 [.slice (some ⟨b,o,none⟩) np cp] 40::blk p4 [.slice A n ca] 24::[]) (by rw [show ((V - 1:Nat):Int) - 1=(V:Int) - 2 by omega];exact Hle.srt) ?_
 show T (FC _ _ (([]:List Nat).map mkD) _ _ _) _ _ _ _
 have hlastF:F (V - 1)=true:=by rw [hF];dsimp only;rw [hV,at_last];exact ldV_end hno hlsn
 refine T_loopDX (fun s:Nat × Nat × List Bool × List Nat=>[(13, .pointer (some ⟨s.2.1,0,none⟩))]) (fun s=>blk s.2.1 [.int .i64 ((s.1:Int) - 1)] 3::blk b11 (s.2.2.1.map Value.bool) 4::blk p12 [fTv p5 p11] 154::blk p11 [.slice (some ⟨b11,0,none⟩) V V] 153::blk p8 (spcL c A n ca (.slice Am (mvL n).length cm) V) 132::fz pm::blk p5 [.slice (some ⟨b,o,none⟩) np cp] 40::blk p4 [.slice A n ca] 24::[]) (fun s=>s.2.2.2) (fun s=>s.1≤V - 1∧s.2.2.1.length=V∧∀ q,q<V→s.2.2.1.getD q false=if s.1≤q then F q else false) (fun s=>s.1) (V - 1,p13,(List.replicate V false).set (V - 1) true,[]) ⟨Nat.le_refl _,by simp,fun q h5=>?_⟩ rfl ?_
 ·dsimp only
  rw [set_getB (by rw [List.length_replicate];omega)]
  by_cases e:V - 1=q
  ·rw [if_pos e,if_pos (by omega), ← e,hlastF]
  ·rw [if_neg e,if_neg (by omega),List.getD_eq_getElem?_getD,List.getElem?_replicate,if_pos h5];rfl
 rintro⟨r,q13,L,Dl⟩ ⟨hr,hL,hLF⟩
 dsimp only at hr hL hLF ⊢
 refine T_le (H':=blk q13 [.int .i64 ((r:Int) - 1)] 3::blk b11 (L.map Value.bool) 4::blk p12 [fTv p5 p11] 154::blk p11 [.slice (some ⟨b11,0,none⟩) V V] 153::blk p8 (spcL c A n ca (.slice Am (mvL n).length cm) V) 132::fz pm::blk p5 [.slice (some ⟨b,o,none⟩) np cp] 40::blk p4 [.slice A n ca] 24::dfrs Dl) (Hle.refl _) ?_
 have hLm:(L.map Value.bool).length=V:=by rw [List.length_map,hL]
 repeat' (first|refine d1 ?_|refine dd ?_|(show ∀ _:Nat,T _ _ _ _ _;intro _))
 rcases r with _|q
 ·refine T_if rfl (fun h5=>by exfalso;simp at h5) (fun _=>?_)
  have hLall:∀ q,q<V→L.getD q false=F q:=fun q hq=>by rw [hLF q hq,if_pos (Nat.zero_le _)]
  have hl0:=lead_get hL hVp
  have hF0:F 0=ldV (colZ c l) (lens l) (mvL n) p (List.replicate n 0):=by
   rw [hF]
   dsimp only
   have h9:=at_num (InB.zero (lens l))
   rw [numL_zero,hlsn] at h9
   rw [h9]
  rw [hLall 0 hVp,hF0] at hl0
  repeat' (first|refine d1 ?_|refine dd ?_|(show T _ (.ops _ (_::_)::_) _ _ _;first|refine T_val rfl (Val.load rfl (fun hg=>(fun w hw=>hl0 w b11 (rdAll w hw)))) rfl rfl rfl ?_|refine T_valC rfl (Val.load rfl (fun hg=>(fun w hw=>hl0 w b11 (rdAll w hw)))) rfl rfl rfl rfl rfl ?_)|(show T _ (.run _ _ (_::_) _ _::_) _ _ _;first|refine rv rfl rfl rfl (Val.load rfl (fun hg=>(fun w hw=>hl0 w b11 (rdAll w hw)))) rfl rfl rfl ?_|refine rg rfl rfl rfl (Val.load rfl (fun hg=>(fun w hw=>hl0 w b11 (rdAll w hw)))) rfl rfl rfl rfl rfl ?_)|(show ∀ _:Nat,T _ _ _ _ _;intro _))
  refine T_if rfl (fun h5=>?_) (fun h5=>?_)
  ·rw [if_neg (by simpa using h5)]
   repeat' (first|refine d1 ?_|refine dd ?_|(show ∀ _:Nat,T _ _ _ _ _;intro _))
   refine T_retDs [dat [.slice none 0 0] [rowsD []]] ?_ (rf_V (vs:=[.slice none 0 0, .int .i64 6]) _ rfl (Hle.refl _) ⟨_,trivial,rfl,rfl⟩)
   exact (nilC _).trans (Hle.srtV (K:=dat [.slice none 0 0] [rowsD []]::dfrs Dl))
  have hld:ldV (colZ c l) (lens l) (mvL n) p (List.replicate n 0)=true:=by simpa using h5
  rw [if_pos hld]
  repeat' (first|refine d1 ?_|refine dd ?_|(show ∀ _:Nat,T _ _ _ _ _;intro _))
  rename_i p15 p16
  have hz0:numL (lens l) (List.replicate n 0)=0:=numL_zero _ _
  have hin0:InB (lens l) (List.replicate n 0):=by rw [← hlsn];exact InB.zero _
  refine T_keep [(4, .pointer (some ⟨p4,0,none⟩)),(8, .pointer (some ⟨p8,0,none⟩)),(12, .pointer (some ⟨p12,0,none⟩)),(15, .pointer (some ⟨p15,0,none⟩)),(16, .pointer (some ⟨p16,0,none⟩))] ⟨rfl,rfl,rfl,rfl,rfl,trivial⟩ ?_
  refine T_le (dat_nil _) ?_
  refine T_nilrow 40 1 ?_
  refine T_loopDX (fun s:List Nat × Nat × (Option Addr × Nat) × List Value × List (List Int) × List Nat=>[(16, .pointer (some ⟨s.2.1,0,none⟩))]) (fun s=>blk s.2.1 [.int .i64 (numL (lens l) s.1:Nat)] 3::blk p15 [.slice s.2.2.1.1 s.2.2.2.2.1.length s.2.2.1.2] 25::row 40 1 s.2.2.1.1 s.2.2.1.2 s.2.2.2.2.1.length s.2.2.2.1::dat s.2.2.2.1 (s.2.2.2.2.1.map intsD)::blk b11 (L.map Value.bool) 4::blk p12 [fTv p5 p11] 154::blk p11 [.slice (some ⟨b11,0,none⟩) V V] 153::blk p8 (spcL c A n ca (.slice Am (mvL n).length cm) V) 132::fz pm::blk p5 [.slice (some ⟨b,o,none⟩) np cp] 40::blk p4 [.slice A n ca] 24::[]) (fun s=>s.2.2.2.2.2) (fun s=>InB (lens l) s.1∧ldV (colZ c l) (lens l) (mvL n) p s.1=true∧s.2.2.2.2.1.length≤sumL s.1∧tgV (colZ c l) (lens l) (mvL n) p (List.replicate n 0)=s.2.2.2.2.1++tgV (colZ c l) (lens l) (mvL n) p s.1) (fun s=>sumL (lens l) - sumL s.1) (List.replicate n 0,p16,(none,0),[],[],Dl) ⟨hin0,hld,Nat.zero_le _,rfl⟩ rfl ?_ (hG:=by dsimp only;rw [hz0];show Hle _ (blk p16 [.int .i64 (0:Nat)] 3::blk p15 [.slice none 0 0] 25::row 40 1 none 0 0 []::dat [] []::blk b11 (L.map Value.bool) 4::blk p12 [fTv p5 p11] 154::blk p11 [.slice (some ⟨b11,0,none⟩) V V] 153::blk p8 (spcL c A n ca (.slice Am (mvL n).length cm) V) 132::fz pm::blk p5 [.slice (some ⟨b,o,none⟩) np cp] 40::blk p4 [.slice A n ca] 24::dfrs Dl);exact Hle.srtV)
  rintro⟨v,q16,⟨Ao,capo⟩,hs,out,Dl⟩ ⟨hvi,hvl2,hol,hout⟩
  dsimp only at hvi hvl2 hol hout ⊢
  obtain⟨q,hq⟩:∃ q,q=numL (lens l) v:=⟨_,rfl⟩
  have hat:=at_num hvi
  have hqV:=numL_lt hvi
  rw [← hq] at hat hqV ⊢
  rw [← hV] at hqV
  refine T_le (H':=blk q16 [.int .i64 (q:Nat)] 3::blk p15 [.slice Ao out.length capo] 25::row 40 1 Ao capo out.length hs::dat hs (out.map intsD)::blk b11 (L.map Value.bool) 4::blk p12 [fTv p5 p11] 154::blk p11 [.slice (some ⟨b11,0,none⟩) V V] 153::blk p8 (spcL c A n ca (.slice Am (mvL n).length cm) V) 132::fz pm::blk p5 [.slice (some ⟨b,o,none⟩) np cp] 40::blk p4 [.slice A n ca] 24::dfrs Dl) (Hle.refl _) ?_
  repeat' (first|refine d1 ?_|refine dd ?_|(show ∀ _:Nat,T _ _ _ _ _;intro _))
  refine T_if rfl (fun h6=>?_) (fun h6=>?_)
  ·simp only [decide_eq_true_eq] at h6
   have hne:v≠lens l:=fun e=>by
    have h9:=num_all (lens l)
    rw [e] at hq
    omega
   obtain rfl:v=atL (lens l) q:=hat.symm
   obtain⟨mf,hfind,-,-,-,-⟩:=fitT_some hno hlsn hvi hne hvl2
   have hsub:=sumL_le hvi
   have hlen4:=sumL_lens hg.nb
   repeat' (first|refine d1 ?_|refine dd ?_|(show T _ (.ops _ (_::_)::_) _ _ _;first|refine T_val rfl (Val.loadA rfl (fun _=>rdAll) rfl) rfl rfl rfl ?_|refine T_valC rfl (Val.loadA rfl (fun _=>rdAll) rfl) rfl rfl rfl rfl rfl ?_|refine T_op (OpT.call rfl rfl rfl rfl rfl (fun w hw=>steps20_fn c A n ca (.slice Am (mvL n).length cm) V q w) (fun u R hR=>?_)))|(show T _ (.run _ _ (_::_) _ _::_) _ _ _;first|refine rv rfl rfl rfl (Val.loadA rfl (fun _=>rdAll) rfl) rfl rfl rfl ?_|refine rg rfl rfl rfl (Val.loadA rfl (fun _=>rdAll) rfl) rfl rfl rfl rfl rfl ?_)|(show ∀ _:Nat,T _ _ _ _ _;intro _))
   obtain⟨⟨g1,g2⟩,-,rfl,rfl⟩:=hR
   refine T_le (H':=blk g2 [.int .i64 (q:Nat)] 3::blk g1 (spcL c A n ca (.slice Am (mvL n).length cm) V) 132::blk q16 [.int .i64 (q:Nat)] 3::blk p15 [.slice Ao out.length capo] 25::row 40 1 Ao capo out.length hs::dat hs (out.map intsD)::blk b11 (L.map Value.bool) 4::blk p12 [fTv p5 p11] 154::blk p11 [.slice (some ⟨b11,0,none⟩) V V] 153::blk p8 (spcL c A n ca (.slice Am (mvL n).length cm) V) 132::fz pm::blk p5 [.slice (some ⟨b,o,none⟩) np cp] 40::blk p4 [.slice A n ca] 24::dfrs Dl) (Hle.refl _) ?_
   refine T_rangeZ (steps20_iter (ca:=ca) (V:=V) hg hc hbs h1n h4n (by omega) (p:=q) (by omega) g1 g2 (fun w _ h9=>h9) hM0) rfl (fun j x B hj hQ=>by obtain⟨m,_,_,_,_,rfl,_⟩:=hQ;exact⟨rfl,rfl⟩)
    (fun jj H=>H=fz pm::blk q16 [.int .i64 (q:Nat)] 3::blk p15 [.slice Ao out.length capo] 25::row 40 1 Ao capo out.length hs::dat hs (out.map intsD)::blk b11 (L.map Value.bool) 4::blk p12 [fTv p5 p11] 154::blk p11 [.slice (some ⟨b11,0,none⟩) V V] 153::blk p8 (spcL c A n ca (.slice Am (mvL n).length cm) V) 132::blk p5 [.slice (some ⟨b,o,none⟩) np cp] 40::blk p4 [.slice A n ca] 24::dfrs Dl∧∀ j' y,j'<jj→(posL (lens l) (atL (lens l) q) (mvL n))[j']?=some y→fitT (colZ c l) (lens l) (mvL n) p (atL (lens l) q) y=false) (fun _=>False)
    (fun id H=>id=6∧∃ (m:List Nat) (x:Option Addr × Nat × Value),(mvL n).find? (fitT (colZ c l) (lens l) (mvL n) p (atL (lens l) q))=some m∧H=fz pm::blk q16 [.int .i64 ((numL (lens l) (toM (atL (lens l) q) m)):Nat)] 3::blk p15 [.slice x.1 (out.length+1) x.2.1] 25::row 40 1 x.1 x.2.1 (out.length+1) (hs++[x.2.2])::dat (hs++[x.2.2]) ((out++[colT (atL (lens l) q) m]).map intsD)::blk b11 (L.map Value.bool) 4::blk p12 [fTv p5 p11] 154::blk p11 [.slice (some ⟨b11,0,none⟩) V V] 153::blk p8 (spcL c A n ca (.slice Am (mvL n).length cm) V) 132::blk p5 [.slice (some ⟨b,o,none⟩) np cp] 40::blk p4 [.slice A n ca] 24::dfrs Dl)
    (fz pm::blk q16 [.int .i64 (q:Nat)] 3::blk p15 [.slice Ao out.length capo] 25::row 40 1 Ao capo out.length hs::dat hs (out.map intsD)::blk b11 (L.map Value.bool) 4::blk p12 [fTv p5 p11] 154::blk p11 [.slice (some ⟨b11,0,none⟩) V V] 153::blk p8 (spcL c A n ca (.slice Am (mvL n).length cm) V) 132::blk p5 [.slice (some ⟨b,o,none⟩) np cp] 40::blk p4 [.slice A n ca] 24::dfrs Dl) (fun j H h=>by obtain⟨rfl,-⟩:=h;exact Hle.nth 0 rfl) ⟨rfl,fun _ _ h=>absurd h (Nat.not_lt_zero _)⟩ Hle.srtV ?_ ?_ (fun _ _ h=>h.elim) ?_
   ·rintro Lp r5 jj x B Hj K2 hr5 hj hQ ⟨rfl,hnf⟩
    obtain⟨m,A9,c9,hm,hmr,rfl,rfl⟩:=hQ
    obtain⟨hmm,hpo⟩:=posL_mem (List.mem_of_getElem? hm)
    have hin:=atL_in (lens l) q
    have hvl:=atL_len (lens l) q
    obtain⟨hti,hs1,hs2,hs3⟩:=toM_rem hno hlsn hin hmm hpo
    have huV:=numL_lt hti
    have hml4:=pigeon2 n m (hno.nd m hmm) (hno.lt m hmm)
    have hnq:=num_at (lens l) q (by omega)
    have hfit:fitT (colZ c l) (lens l) (mvL n) p (atL (lens l) q) m=(decide (pg p q=colZ c l (colT (atL (lens l) q) m)+pg p (numL (lens l) (toM (atL (lens l) q) m))) && L.getD (numL (lens l) (toM (atL (lens l) q) m)) false):=by
     rw [hLall _ (by omega),hF]
     dsimp only
     unfold fitT viaP
     rw [hpo,Bool.true_and,hnq,at_num hti]
    obtain⟨u,hu⟩:∃ u,u=numL (lens l) (toM (atL (lens l) q) m):=⟨_,rfl⟩
    rw [← hu, ← hV] at huV
    rw [← hu] at hfit
    have hKb:=colZ_bd hc (show l.length≤32 by omega) (colT (atL (lens l) q) m)
    obtain⟨A9',c9',e9,hmc,hmc2,hmA⟩:=hmr.row1
    rw [intN_len] at e9 hmc hmA
    cases e9
    have hmpos:0<m.length:=List.length_pos_iff.2 (hno.ne m hmm)
    obtain⟨bm,om,rfl,hmB⟩:=hmA hmpos
    show T _ _ ((83, .agg #[.slice (some ⟨bm,om,none⟩) m.length c9, .int .i64 (colZ c l (colT (atL (lens l) q) m)), .int .i64 (numL (lens l) (toM (atL (lens l) q) m):Nat)])::_) _ (lrec Lp r5::fz pm::blk q16 [.int .i64 (q:Nat)] 3::blk p15 [.slice Ao out.length capo] 25::row 40 1 Ao capo out.length hs::dat hs (out.map intsD)::blk b11 (L.map Value.bool) 4::blk p12 [fTv p5 p11] 154::blk p11 [.slice (some ⟨b11,0,none⟩) V V] 153::blk p8 (spcL c A n ca (.slice Am (mvL n).length cm) V) 132::blk p5 [.slice (some ⟨b,o,none⟩) np cp] 40::blk p4 [.slice A n ca] 24::(dfrs Dl++K2))
    rw [← hu]
    repeat' (first|refine d1 ?_|refine dd ?_|(show ∀ _:Nat,T _ _ _ _ _;intro _))
    rename_i p17
    refine T_le (H':=lrec Lp r5::blk p17 [.slice (some ⟨bm,om,none⟩) m.length c9, .int .i64 (colZ c l (colT (atL (lens l) q) m)), .int .i64 (u:Nat)] 139::fz pm::blk q16 [.int .i64 (q:Nat)] 3::blk p15 [.slice Ao out.length capo] 25::row 40 1 Ao capo out.length hs::dat hs (out.map intsD)::blk b11 (L.map Value.bool) 4::blk p12 [fTv p5 p11] 154::blk p11 [.slice (some ⟨b11,0,none⟩) V V] 153::blk p8 (spcL c A n ca (.slice Am (mvL n).length cm) V) 132::blk p5 [.slice (some ⟨b,o,none⟩) np cp] 40::blk p4 [.slice A n ca] 24::(dfrs Dl++K2)) (Hle.perm (List.Perm.swap _ _ _)) ?_
    refine T_begin hr5 rfl ?_
    repeat' (first|refine d1 ?_|refine dd ?_|(show T _ (.ops _ (_::_)::_) _ _ _;first|refine T_call rfl rfl rfl rfl rfl (fun w hw=>tight1_spec p L b o np cp p5 p11 b11 V q u (colZ c l (colT (atL (lens l) q) m)) _ m.length c9 w (rdAll w hw) (rdAll w hw) (rdSrc hp w hw) hnp (rdAll w hw) hL (by omega) (by omega) huV hKb (hpb2 u)) ?_|refine T_callC rfl rfl rfl rfl rfl rfl rfl (fun hg w hw=>tight1_spec p L b o np cp p5 p11 b11 V q u (colZ c l (colT (atL (lens l) q) m)) _ m.length c9 w (rdAll w hw) (rdAll w hw) (rdSrc hp w hw) hnp (rdAll w hw) hL (by omega) (by omega) huV hKb (hpb2 u)) ?_)|(show T _ (.run _ _ (_::_) _ _::_) _ _ _;first|refine rc rfl rfl rfl rfl rfl rfl rfl (fun w hw=>tight1_spec p L b o np cp p5 p11 b11 V q u (colZ c l (colT (atL (lens l) q) m)) _ m.length c9 w (rdAll w hw) (rdAll w hw) (rdSrc hp w hw) hnp (rdAll w hw) hL (by omega) (by omega) huV hKb (hpb2 u)) ?_|refine rcG rfl rfl rfl rfl rfl rfl rfl rfl rfl (fun hg w hw=>tight1_spec p L b o np cp p5 p11 b11 V q u (colZ c l (colT (atL (lens l) q) m)) _ m.length c9 w (rdAll w hw) (rdAll w hw) (rdSrc hp w hw) hnp (rdAll w hw) hL (by omega) (by omega) huV hKb (hpb2 u)) ?_)|(show ∀ _:Nat,T _ _ _ _ _;intro _))
    rw [← hfit]
    have hnx:fitT (colZ c l) (lens l) (mvL n) p (atL (lens l) q) m=false→∀ j' y,j'<jj+1→(posL (lens l) (atL (lens l) q) (mvL n))[j']?=some y→fitT (colZ c l) (lens l) (mvL n) p (atL (lens l) q) y=false:=fun h9 j' y hj' hy=>by
     by_cases e:j'=jj
     ·subst e;rw [hm] at hy;cases hy;exact h9
     ·exact hnf j' y (by omega) hy
    refine T_if rfl (fun h7=>?_) (fun h7=>?_)
    ·repeat' (first|refine d1 ?_|refine dd ?_|(show ∀ _:Nat,T _ _ _ _ _;intro _))
     exact T_next _ ⟨rfl,hnx (by simpa using h7)⟩ (Hle.drop2 _ _ _)
    have hft:fitT (colZ c l) (lens l) (mvL n) p (atL (lens l) q) m=true:=by simpa using h7
    have hfnd:(mvL n).find? (fitT (colZ c l) (lens l) (mvL n) p (atL (lens l) q))=some m:=by rw [← find_posT];exact find_at hm hft hnf
    repeat' (first|refine d1 ?_|refine dd ?_|(show T _ (.ops _ (_::_)::_) _ _ _;first|refine T_val rfl (Val.loadA rfl (fun _=>rdAll) rfl) rfl rfl rfl ?_|refine T_valC rfl (Val.loadA rfl (fun _=>rdAll) rfl) rfl rfl rfl rfl rfl ?_|refine T_call rfl rfl rfl rfl rfl (fun w hw=>at20_spec c A n ca (.slice Am (mvL n).length cm) V l q w (hg.cls hw) h4n (by omega) (by omega)) ?_|refine T_callC rfl rfl rfl rfl rfl rfl rfl (fun hg w hw=>at20_spec c A n ca (.slice Am (mvL n).length cm) V l q w (hg.cls hw) h4n (by omega) (by omega)) ?_)|(show T _ (.run _ _ (_::_) _ _::_) _ _ _;first|refine rv rfl rfl rfl (Val.loadA rfl (fun _=>rdAll) rfl) rfl rfl rfl ?_|refine rg rfl rfl rfl (Val.loadA rfl (fun _=>rdAll) rfl) rfl rfl rfl rfl rfl ?_|refine rc rfl rfl rfl rfl rfl rfl rfl (fun w hw=>at20_spec c A n ca (.slice Am (mvL n).length cm) V l q w (hg.cls hw) h4n (by omega) (by omega)) ?_|refine rcG rfl rfl rfl rfl rfl rfl rfl rfl rfl (fun hg w hw=>at20_spec c A n ca (.slice Am (mvL n).length cm) V l q w (hg.cls hw) h4n (by omega) (by omega)) ?_)|(show ∀ _:Nat,T _ _ _ _ _;intro _))
    rename_i p18 bl
    repeat' (first|refine d1 ?_|refine dd ?_|(show T _ (.ops _ (_::_)::_) _ _ _;first|refine T_op (OpT.litW rfl rfl rfl rfl rfl rfl rfl rfl rfl rfl rfl (fun bl=>?_))|refine T_op (OpT.call rfl rfl rfl rfl rfl (fun w hw=>repeatI_spec (-1) (some ⟨_,0,none⟩) 1 n w (Src.own hw rfl) (by omega)) (fun x R hR=>?_)))|(show ∀ _:Nat,T _ _ _ _ _;intro _))
    obtain⟨bz,-,rfl,rfl⟩:=hR
    have hz0:List.replicate n (Value.int .i64 (-1))=(colMv (atL (lens l) q) (m.take 0) (List.replicate n (-1))).map (Value.int .i64):=by rw [List.take_zero];unfold colMv;rw [List.map_replicate]
    refine T_le (H':=row 3 1 (some ⟨bz,0,none⟩) n n (List.replicate n (.int .i64 (-1)))::blk bl _ _::blk p18 (atV (atL (lens l) q)) 145::lrec Lp (busy r5)::blk p17 [.slice (some ⟨bm,om,none⟩) m.length c9, .int .i64 (colZ c l (colT (atL (lens l) q) m)), .int .i64 (u:Nat)] 139::fz pm::blk q16 [.int .i64 (q:Nat)] 3::blk p15 [.slice Ao out.length capo] 25::row 40 1 Ao capo out.length hs::dat hs (out.map intsD)::blk b11 (L.map Value.bool) 4::blk p12 [fTv p5 p11] 154::blk p11 [.slice (some ⟨b11,0,none⟩) V V] 153::blk p8 (spcL c A n ca (.slice Am (mvL n).length cm) V) 132::blk p5 [.slice (some ⟨b,o,none⟩) np cp] 40::blk p4 [.slice A n ca] 24::(dfrs Dl++K2)) (Hle.refl _) ?_
    refine T_le (H':=row 3 1 (some ⟨bz,0,none⟩) n n ((colMv (atL (lens l) q) (m.take 0) (List.replicate n (-1))).map (Value.int .i64))::blk p18 (atV (atL (lens l) q)) 145::lrec Lp (busy r5)::blk p17 [.slice (some ⟨bm,om,none⟩) m.length c9, .int .i64 (colZ c l (colT (atL (lens l) q) m)), .int .i64 (u:Nat)] 139::fz pm::blk q16 [.int .i64 (q:Nat)] 3::blk p15 [.slice Ao out.length capo] 25::row 40 1 Ao capo out.length hs::dat hs (out.map intsD)::blk b11 (L.map Value.bool) 4::blk p12 [fTv p5 p11] 154::blk p11 [.slice (some ⟨b11,0,none⟩) V V] 153::blk p8 (spcL c A n ca (.slice Am (mvL n).length cm) V) 132::blk p5 [.slice (some ⟨b,o,none⟩) np cp] 40::blk p4 [.slice A n ca] 24::(dfrs Dl++K2)) (by rw [← hz0];exact Hle.sub) ?_
    obtain⟨K9,hK9⟩:∃ K9:List HA,K9=blk q16 [.int .i64 (q:Nat)] 3::blk p15 [.slice Ao out.length capo] 25::row 40 1 Ao capo out.length hs::dat hs (out.map intsD)::blk b11 (L.map Value.bool) 4::blk p12 [fTv p5 p11] 154::blk p11 [.slice (some ⟨b11,0,none⟩) V V] 153::blk p8 (spcL c A n ca (.slice Am (mvL n).length cm) V) 132::blk p5 [.slice (some ⟨b,o,none⟩) np cp] 40::blk p4 [.slice A n ca] 24::(dfrs Dl++K2):=⟨_,rfl⟩
    rw [← hK9]
    repeat' (first|refine d1 ?_|refine dd ?_|(show ∀ _:Nat,T _ _ _ _ _;intro _))
    refine T_loopX (fun s:Nat=>[(99, .int .i64 (s:Nat))]) (fun s=>row 3 1 (some ⟨bz,0,none⟩) n n ((colMv (atL (lens l) q) (m.take s) (List.replicate n (-1))).map (Value.int .i64))::blk p18 (atV (atL (lens l) q)) 145::lrec Lp (busy r5)::blk p17 [.slice (some ⟨bm,om,none⟩) m.length c9, .int .i64 (colZ c l (colT (atL (lens l) q) m)), .int .i64 (u:Nat)] 139::fz pm::K9) (fun s=>s≤m.length) (fun s=>m.length - s) 0 (Nat.zero_le _) ?_
    intro s hs9
    repeat' (first|refine d1 ?_|refine dd ?_|(show ∀ _:Nat,T _ _ _ _ _;intro _))
    refine T_if rfl (fun h8=>?_) (fun h8=>?_)
    ·simp only [decide_eq_true_eq] at h8
     have hsm:s<m.length:=by omega
     obtain⟨x,hx⟩:∃ x,m[s]?=some x:=⟨_,List.getElem?_eq_getElem hsm⟩
     have hxn:=hno.lt m hmm x (List.mem_of_getElem? hx)
     have htk:=take_snoc _ _ _ hx
     have hmx:fr pm bm (om+(s:Int).toNat * 1)=some (.int .i64 (x:Nat)):=by rw [off1];exact hmB s _ (intN_get hx)
     have hav:(atV (atL (lens l) q))[0+(x:Int).toNat * 1]?=some (.int .i64 ((atL (lens l) q).getD x 0:Nat)):=by rw [show 0+(x:Int).toNat * 1=x by omega,atV_get _ (by omega)]
     have hsetc:∀ off,off=x→setL ((colMv (atL (lens l) q) (m.take s) (List.replicate n (-1))).map (Value.int .i64)) off [.int .i64 ((atL (lens l) q).getD x 0:Nat)]=((colMv (atL (lens l) q) (m.take (s+1)) (List.replicate n (-1))).map (Value.int .i64)):=fun off ho=>by
      subst ho
      rw [htk,colMv_snoc,List.map_set];rfl
     repeat' (first|refine d1 ?_|refine dd ?_|(show T _ (.ops _ (_::_)::_) _ _ _;first|refine T_val rfl (Val.nilc rfl) rfl rfl rfl ?_|refine T_valC rfl (Val.nilc rfl) rfl rfl rfl rfl rfl ?_|refine T_val rfl (Val.load rfl (fun hg=>rdFz (p:=pm) hmx)) rfl rfl rfl ?_|refine T_valC rfl (Val.load rfl (fun hg=>rdFz (p:=pm) hmx)) rfl rfl rfl rfl rfl ?_|refine T_val rfl (Val.load rfl (fun hg=>rdOwn1 (b:=p18) hav)) rfl rfl rfl ?_|refine T_valC rfl (Val.load rfl (fun hg=>rdOwn1 (b:=p18) hav)) rfl rfl rfl rfl rfl ?_|refine T_op (OpT.storeR (us:=[.int .i64 ((atL (lens l) q).getD x 0:Nat)]) rfl rfl rfl rfl rfl rfl (by show 0+(x:Int).toNat * 1+1≤n * 1;omega) ?_))|(show T _ (.run _ _ (_::_) _ _::_) _ _ _;first|refine rv rfl rfl rfl (Val.nilc rfl) rfl rfl rfl ?_|refine rg rfl rfl rfl (Val.nilc rfl) rfl rfl rfl rfl rfl ?_|refine rv rfl rfl rfl (Val.load rfl (fun hg=>rdFz (p:=pm) hmx)) rfl rfl rfl ?_|refine rg rfl rfl rfl (Val.load rfl (fun hg=>rdFz (p:=pm) hmx)) rfl rfl rfl rfl rfl ?_|refine rv rfl rfl rfl (Val.load rfl (fun hg=>rdOwn1 (b:=p18) hav)) rfl rfl rfl ?_|refine rg rfl rfl rfl (Val.load rfl (fun hg=>rdOwn1 (b:=p18) hav)) rfl rfl rfl rfl rfl ?_)|(show ∀ _:Nat,T _ _ _ _ _;intro _))
     rw [hsetc _ (show 0+(x:Int).toNat * 1=x by omega)]
     exact T_backX (s+1) (by omega) (by omega)
    simp only [decide_eq_false_iff_not] at h8
    obtain rfl:s=m.length:=by omega
    have hcT:colMv (atL (lens l) q) m (List.replicate n (-1))=colT (atL (lens l) q) m:=by unfold colT;rw [hvl,hlsn]
    rw [List.take_of_length_le (Nat.le_refl _),hcT]
    subst hK9
    have hov:out.length≤200000:=by omega
    repeat' (first|refine d1 ?_|refine dd ?_|(show T _ (.ops _ (_::_)::_) _ _ _;refine T_op (OpT.append rfl rfl rfl rfl rfl rfl rfl rfl rfl rfl (fun w hw=>Src.own hw rfl) rfl (by dsimp only;omega) (by omega) (fun A' cap' hA'=>?_)))|(show ∀ _:Nat,T _ _ _ _ _;intro _))
    rename_i blit2
    show T _ (.code (.exit 6)::_) _ _ _
    refine T_rexit (id:=6) (fz pm::blk q16 [.int .i64 ((numL (lens l) (toM (atL (lens l) q) m)):Nat)] 3::blk p15 [.slice A' (out.length+1) cap'] 25::row 40 1 A' cap' (out.length+1) (hs++[(.slice (some ⟨bz,0,none⟩) n n)])::dat (hs++[(.slice (some ⟨bz,0,none⟩) n n)]) ((out++[(colT (atL (lens l) q) m)]).map intsD)::blk b11 (L.map Value.bool) 4::blk p12 [fTv p5 p11] 154::blk p11 [.slice (some ⟨b11,0,none⟩) V V] 153::blk p8 (spcL c A n ca (.slice Am (mvL n).length cm) V) 132::blk p5 [.slice (some ⟨b,o,none⟩) np cp] 40::blk p4 [.slice A n ca] 24::dfrs Dl) (fun _=>rfl) ⟨rfl,m,(A',cap',(.slice (some ⟨bz,0,none⟩) n n)),hfnd,rfl⟩ ?_
    rw [← hu]
    refine (Hle.srtT (A:=[blk blit2 _ _,row 3 1 (some ⟨bz,0,none⟩) n n ((colT (atL (lens l) q) m).map (Value.int .i64)),blk p18 (atV (atL (lens l) q)) 145,lrec Lp (busy r5),blk p17 [.slice (some ⟨bm,om,none⟩) m.length c9, .int .i64 (colZ c l (colT (atL (lens l) q) m)), .int .i64 (u:Nat)] 139,fz pm,blk q16 [.int .i64 (u:Nat)] 3,blk p15 [.slice A' (out.length+1) cap'] 25,row 40 1 A' cap' (out.length+1) (hs++[(.slice (some ⟨bz,0,none⟩) n n)]),dat hs (out.map intsD),blk b11 (L.map Value.bool) 4,blk p12 [fTv p5 p11] 154,blk p11 [.slice (some ⟨b11,0,none⟩) V V] 153,blk p8 (spcL c A n ca (.slice Am (mvL n).length cm) V) 132,blk p5 [.slice (some ⟨b,o,none⟩) np cp] 40,blk p4 [.slice A n ca] 24]) (K:=[row 3 1 (some ⟨bz,0,none⟩) n n ((colT (atL (lens l) q) m).map (Value.int .i64)),dat hs (out.map intsD),lrec Lp (busy r5),fz pm,blk q16 [.int .i64 (u:Nat)] 3,blk p15 [.slice A' (out.length+1) cap'] 25,row 40 1 A' cap' (out.length+1) (hs++[(.slice (some ⟨bz,0,none⟩) n n)]),blk b11 (L.map Value.bool) 4,blk p12 [fTv p5 p11] 154,blk p11 [.slice (some ⟨b11,0,none⟩) V V] 153,blk p8 (spcL c A n ca (.slice Am (mvL n).length cm) V) 132,blk p5 [.slice (some ⟨b,o,none⟩) np cp] 40,blk p4 [.slice A n ca] 24]) (dfrs Dl++K2)).trans ?_
    refine dat_rowV.trans (dat_join.trans ?_)
    have ej:out.map intsD++[D.s 1 (((colT (atL (lens l) q) m).map (Value.int .i64)).map .v)]=(out++[(colT (atL (lens l) q) m)]).map intsD:=by
     rw [List.map_append,List.map_map];rfl
    rw [ej]
    exact Hle.perm ((List.perm_append_comm (l₁:=[_]) (l₂:=[_,_,_,_,_])).append_right (blk b11 (L.map Value.bool) 4::blk p12 [fTv p5 p11] 154::blk p11 [.slice (some ⟨b11,0,none⟩) V V] 153::blk p8 (spcL c A n ca (.slice Am (mvL n).length cm) V) 132::blk p5 [.slice (some ⟨b,o,none⟩) np cp] 40::blk p4 [.slice A n ca] 24::(dfrs Dl++K2)))
   ·rintro D Hn ⟨rfl,hnf⟩
    exfalso
    rw [← find_posT] at hfind
    obtain⟨j,hj,hje⟩:=List.getElem_of_mem (List.mem_of_find?_eq_some hfind)
    have h9:=hnf j mf hj (by rw [List.getElem?_eq_getElem hj,hje])
    have h8:=List.find?_some hfind
    rw [h9] at h8
    cases h8
   ·rintro D id Hx ⟨rfl,m,⟨A',cap',hv9⟩,hfd,rfl⟩
    dsimp only
    have h7:=List.find?_some hfd
    have h7':=h7
    unfold fitT at h7'
    rw [Bool.and_eq_true,Bool.and_eq_true] at h7'
    obtain⟨hti,hs1,hs2,hs3⟩:=toM_rem hno hlsn hvi (List.mem_of_find?_eq_some hfd) h7'.1
    have hstep:=tgV_step hno hlsn hvi hfd
    show T (FC _ _ ((D::Dl).map mkD) _ _ _) _ _ _ (dfr D::blk g2 [.int .i64 (q:Nat)] 3::blk g1 (spcL c A n ca (.slice Am (mvL n).length cm) V) 132::fz pm::blk q16 [.int .i64 ((numL (lens l) (toM (atL (lens l) q) m)):Nat)] 3::blk p15 [.slice A' (out.length+1) cap'] 25::row 40 1 A' cap' (out.length+1) (hs++[hv9])::dat (hs++[hv9]) ((out++[colT (atL (lens l) q) m]).map intsD)::blk b11 (L.map Value.bool) 4::blk p12 [fTv p5 p11] 154::blk p11 [.slice (some ⟨b11,0,none⟩) V V] 153::blk p8 (spcL c A n ca (.slice Am (mvL n).length cm) V) 132::blk p5 [.slice (some ⟨b,o,none⟩) np cp] 40::blk p4 [.slice A n ca] 24::dfrs Dl)
    repeat' (first|refine d1 ?_|refine dd ?_|(show ∀ _:Nat,T _ _ _ _ _;intro _))
    rename_i n16
    show T _ (.mark _::_) _ _ _
    refine T_backD (toM (atL (lens l) q) m,n16,(A',cap'),hs++[hv9],out++[colT (atL (lens l) q) m],D::Dl) ⟨hti,h7'.2.2,by dsimp only;rw [List.length_append];simp;omega,by dsimp only;rw [hout,hstep,List.append_assoc];rfl⟩ (by dsimp only;omega) rfl (hG:=?_)
    dsimp only
    rw [List.length_append]
    exact Hle.srtV (K:=blk n16 [.int .i64 ((numL (lens l) (toM (atL (lens l) q) m)):Nat)] 3::blk p15 [.slice A' (out.length+1) cap'] 25::row 40 1 A' cap' (out.length+1) (hs++[hv9])::dat (hs++[hv9]) ((out++[colT (atL (lens l) q) m]).map intsD)::blk b11 (L.map Value.bool) 4::blk p12 [fTv p5 p11] 154::blk p11 [.slice (some ⟨b11,0,none⟩) V V] 153::blk p8 (spcL c A n ca (.slice Am (mvL n).length cm) V) 132::fz pm::blk p5 [.slice (some ⟨b,o,none⟩) np cp] 40::blk p4 [.slice A n ca] 24::dfr D::dfrs Dl)
  ·have he:v=lens l:=by
    rw [← hat]
    simp at h6
    rw [show q=volL (lens l) - 1 by omega,at_last]
   rw [he,tgV_end hno hlsn,List.append_nil] at hout
   rw [hout]
   repeat' (first|refine d1 ?_|refine dd ?_|(show ∀ _:Nat,T _ _ _ _ _;intro _))
   refine T_retDs [dat [.slice Ao out.length capo] [rowsD out]] ?_ (rf_V (vs:=[.slice Ao out.length capo, .int .i64 0]) _ rfl (Hle.refl _) ⟨_,trivial,rfl,rfl⟩)
   exact Hle.trans (Hle.srtV (K:=row 40 1 Ao capo out.length hs::dat hs (out.map intsD)::dfrs Dl)) dat_row
 ·have hqV:q+1<V:=by omega
  refine T_if rfl (fun _=>?_) (fun h5=>by have h9:=of_decide_eq_false h5;omega)
  rw [show (((q+1:Nat):Int) - 1)=(q:Int) by omega]
  have hin:=atL_in (lens l) q
  have hne:=at_ne_last (ls:=lens l) (q:=q) (by omega) (by omega)
  have hnq:=num_at (lens l) q (by omega)
  have hLq:L.getD q false=false:=by rw [hLF q (by omega),if_neg (by omega)]
  have hL0:L.set q (((posL (lens l) (atL (lens l) q) (mvL n)).take 0).any (fitT (colZ c l) (lens l) (mvL n) p (atL (lens l) q)))=L:=by rw [List.take_zero];exact set_sameB hLq (by omega)
  have hFq:F q=(posL (lens l) (atL (lens l) q) (mvL n)).any (fitT (colZ c l) (lens l) (mvL n) p (atL (lens l) q)):=by
   rw [any_fit,hF]
   dsimp only
   rw [ldV_step hno hlsn hin]
   simp [hne]
  repeat' (first|refine d1 ?_|refine dd ?_|(show T _ (.ops _ (_::_)::_) _ _ _;first|refine T_val rfl (Val.loadA rfl (fun _=>rdAll) rfl) rfl rfl rfl ?_|refine T_valC rfl (Val.loadA rfl (fun _=>rdAll) rfl) rfl rfl rfl rfl rfl ?_|refine T_op (OpT.call rfl rfl rfl rfl rfl (fun w hw=>steps20_fn c A n ca (.slice Am (mvL n).length cm) V q w) (fun u R hR=>?_)))|(show T _ (.run _ _ (_::_) _ _::_) _ _ _;first|refine rv rfl rfl rfl (Val.loadA rfl (fun _=>rdAll) rfl) rfl rfl rfl ?_|refine rg rfl rfl rfl (Val.loadA rfl (fun _=>rdAll) rfl) rfl rfl rfl rfl rfl ?_)|(show ∀ _:Nat,T _ _ _ _ _;intro _))
  obtain⟨⟨g1,g2⟩,-,rfl,rfl⟩:=hR
  refine T_le (H':=blk g2 [.int .i64 (q:Nat)] 3::blk g1 (spcL c A n ca (.slice Am (mvL n).length cm) V) 132::blk q13 [.int .i64 (q:Nat)] 3::blk b11 (L.map Value.bool) 4::blk p12 [fTv p5 p11] 154::blk p11 [.slice (some ⟨b11,0,none⟩) V V] 153::blk p8 (spcL c A n ca (.slice Am (mvL n).length cm) V) 132::fz pm::blk p5 [.slice (some ⟨b,o,none⟩) np cp] 40::blk p4 [.slice A n ca] 24::dfrs Dl) (Hle.refl _) ?_
  refine T_rangeZ (steps20_iter (ca:=ca) (V:=V) hg hc hbs h1n h4n (by omega) (p:=q) (by omega) g1 g2 (fun w _ h9=>h9) hM0) rfl (fun j x B hj hQ=>by obtain⟨m,_,_,_,_,rfl,_⟩:=hQ;exact⟨rfl,rfl⟩)
   (fun jj H=>H=fz pm::blk q13 [.int .i64 (q:Nat)] 3::blk b11 ((L.set q (((posL (lens l) (atL (lens l) q) (mvL n)).take jj).any (fitT (colZ c l) (lens l) (mvL n) p (atL (lens l) q)))).map Value.bool) 4::blk p12 [fTv p5 p11] 154::blk p11 [.slice (some ⟨b11,0,none⟩) V V] 153::blk p8 (spcL c A n ca (.slice Am (mvL n).length cm) V) 132::blk p5 [.slice (some ⟨b,o,none⟩) np cp] 40::blk p4 [.slice A n ca] 24::dfrs Dl) (fun _=>False) (fun _ _=>False)
   (fz pm::blk q13 [.int .i64 (q:Nat)] 3::blk b11 ((L.set q (((posL (lens l) (atL (lens l) q) (mvL n)).take 0).any (fitT (colZ c l) (lens l) (mvL n) p (atL (lens l) q)))).map Value.bool) 4::blk p12 [fTv p5 p11] 154::blk p11 [.slice (some ⟨b11,0,none⟩) V V] 153::blk p8 (spcL c A n ca (.slice Am (mvL n).length cm) V) 132::blk p5 [.slice (some ⟨b,o,none⟩) np cp] 40::blk p4 [.slice A n ca] 24::dfrs Dl) (fun j H h=>by subst h;exact Hle.nth 0 rfl) rfl (by rw [hL0];exact Hle.srtV) ?_ ?_ (fun _ _ h=>h.elim) (fun _ _ _ h=>h.elim)
  ·rintro Lp r5 jj x B Hj K2 hr5 hj hQ rfl
   obtain⟨m,A9,c9,hm,hmr,rfl,rfl⟩:=hQ
   obtain⟨hmm,hpo⟩:=posL_mem (List.mem_of_getElem? hm)
   obtain⟨hti,hs1,hs2,hs3⟩:=toM_rem hno hlsn hin hmm hpo
   have huV:=numL_lt hti
   have hqn:q<numL (lens l) (toM (atL (lens l) q) m):=by
    rw [toM_num _ _ _ (by rw [atL_len]) (fun s hs=>by rw [atL_len,hlsn];exact hno.lt m hmm s hs),hnq]
    have:=stp_pos (ls:=lens l) (hno.ne m hmm) (fun s hs=>by rw [hlsn];exact hno.lt m hmm s hs)
    omega
   obtain⟨X,hX⟩:∃ X,X=((posL (lens l) (atL (lens l) q) (mvL n)).take jj).any (fitT (colZ c l) (lens l) (mvL n) p (atL (lens l) q)):=⟨_,rfl⟩
   have hXs:((posL (lens l) (atL (lens l) q) (mvL n)).take (jj+1)).any (fitT (colZ c l) (lens l) (mvL n) p (atL (lens l) q))=(X || fitT (colZ c l) (lens l) (mvL n) p (atL (lens l) q) m):=by
    rw [take_snoc _ _ _ hm,List.any_append, ← hX];simp
   have hfit:fitT (colZ c l) (lens l) (mvL n) p (atL (lens l) q) m=(decide (pg p q=colZ c l (colT (atL (lens l) q) m)+pg p (numL (lens l) (toM (atL (lens l) q) m))) && (L.set q X).getD (numL (lens l) (toM (atL (lens l) q) m)) false):=by
    rw [set_getB (by omega),if_neg (by omega),hLF _ (by omega),if_pos (by omega),hF]
    dsimp only
    unfold fitT viaP
    rw [hpo,Bool.true_and,hnq,at_num hti]
   obtain⟨u,hu⟩:∃ u,u=numL (lens l) (toM (atL (lens l) q) m):=⟨_,rfl⟩
   rw [← hu, ← hV] at huV
   rw [← hu] at hfit hqn
   have hKb:=colZ_bd hc (show l.length≤32 by omega) (colT (atL (lens l) q) m)
   have hLs:(L.set q X).length=V:=by rw [List.length_set,hL]
   have hLsm:((L.set q X).map Value.bool).length=V:=by rw [List.length_map,hLs]
   have hlq:=lead_get hLs (show q<V by omega)
   rw [set_getB (by omega),if_pos rfl] at hlq
   show T _ _ ((56, .agg #[.slice A9 m.length c9, .int .i64 (colZ c l (colT (atL (lens l) q) m)), .int .i64 (numL (lens l) (toM (atL (lens l) q) m):Nat)])::_) _ (lrec Lp r5::fz pm::blk q13 [.int .i64 (q:Nat)] 3::blk b11 ((L.set q (((posL (lens l) (atL (lens l) q) (mvL n)).take jj).any (fitT (colZ c l) (lens l) (mvL n) p (atL (lens l) q)))).map Value.bool) 4::blk p12 [fTv p5 p11] 154::blk p11 [.slice (some ⟨b11,0,none⟩) V V] 153::blk p8 (spcL c A n ca (.slice Am (mvL n).length cm) V) 132::blk p5 [.slice (some ⟨b,o,none⟩) np cp] 40::blk p4 [.slice A n ca] 24::(dfrs Dl++K2))
   rw [← hX, ← hu]
   repeat' (first|refine d1 ?_|refine dd ?_|(show ∀ _:Nat,T _ _ _ _ _;intro _))
   rename_i p14
   refine T_le (H':=lrec Lp r5::blk p14 [.slice A9 m.length c9, .int .i64 (colZ c l (colT (atL (lens l) q) m)), .int .i64 (u:Nat)] 139::fz pm::blk q13 [.int .i64 (q:Nat)] 3::blk b11 ((L.set q X).map Value.bool) 4::blk p12 [fTv p5 p11] 154::blk p11 [.slice (some ⟨b11,0,none⟩) V V] 153::blk p8 (spcL c A n ca (.slice Am (mvL n).length cm) V) 132::blk p5 [.slice (some ⟨b,o,none⟩) np cp] 40::blk p4 [.slice A n ca] 24::(dfrs Dl++K2)) (Hle.perm (List.Perm.swap _ _ _)) ?_
   refine T_begin hr5 rfl ?_
   repeat' (first|refine d1 ?_|(show ∀ _:Nat,T _ _ _ _ _;intro _))
   refine rsH [blk p14 [.slice A9 m.length c9, .int .i64 (colZ c l (colT (atL (lens l) q) m)), .int .i64 (u:Nat)] 139,blk q13 [.int .i64 (q:Nat)] 3,blk b11 ((L.set q X).map Value.bool) 4,blk p12 [fTv p5 p11] 154,blk p11 [.slice (some ⟨b11,0,none⟩) V V] 153,blk p5 [.slice (some ⟨b,o,none⟩) np cp] 40] 13 [0,1,2,3,4,5,6,7,8,9,10,11,12,13] ?_
   repeat' (first|refine d1 ?_|refine dd ?_|(show T _ (.ops _ (_::_)::_) _ _ _;first|refine T_val rfl (Val.nilc rfl) rfl rfl rfl ?_|refine T_valC rfl (Val.nilc rfl) rfl rfl rfl rfl rfl ?_|refine T_val rfl (Val.load rfl (fun hg=>(fun w hw=>hlq w b11 (rdAll w hw)))) rfl rfl rfl ?_|refine T_valC rfl (Val.load rfl (fun hg=>(fun w hw=>hlq w b11 (rdAll w hw)))) rfl rfl rfl rfl rfl ?_|refine T_val rfl (Val.loadA rfl (fun _=>rdAll) rfl) rfl rfl rfl ?_|refine T_valC rfl (Val.loadA rfl (fun _=>rdAll) rfl) rfl rfl rfl rfl rfl ?_|refine T_call rfl rfl rfl rfl rfl (fun w hw=>tight1_spec p (L.set q X) b o np cp p5 p11 b11 V q u (colZ c l (colT (atL (lens l) q) m)) _ m.length c9 w (rdAll w hw) (rdAll w hw) (rdSrc hp w hw) hnp (rdAll w hw) hLs (by omega) (by omega) huV hKb (hpb2 u)) ?_|refine T_callC rfl rfl rfl rfl rfl rfl rfl (fun hg w hw=>tight1_spec p (L.set q X) b o np cp p5 p11 b11 V q u (colZ c l (colT (atL (lens l) q) m)) _ m.length c9 w (rdAll w hw) (rdAll w hw) (rdSrc hp w hw) hnp (rdAll w hw) hLs (by omega) (by omega) huV hKb (hpb2 u)) ?_)|(show T _ (.run _ _ (_::_) _ _::_) _ _ _;first|refine rv rfl rfl rfl (Val.nilc rfl) rfl rfl rfl ?_|refine rg rfl rfl rfl (Val.nilc rfl) rfl rfl rfl rfl rfl ?_|refine rv rfl rfl rfl (Val.load rfl (fun hg=>(fun w hw=>hlq w b11 (rdAll w hw)))) rfl rfl rfl ?_|refine rg rfl rfl rfl (Val.load rfl (fun hg=>(fun w hw=>hlq w b11 (rdAll w hw)))) rfl rfl rfl rfl rfl ?_|refine rv rfl rfl rfl (Val.loadA rfl (fun _=>rdAll) rfl) rfl rfl rfl ?_|refine rg rfl rfl rfl (Val.loadA rfl (fun _=>rdAll) rfl) rfl rfl rfl rfl rfl ?_|refine rc rfl rfl rfl rfl rfl rfl rfl (fun w hw=>tight1_spec p (L.set q X) b o np cp p5 p11 b11 V q u (colZ c l (colT (atL (lens l) q) m)) _ m.length c9 w (rdAll w hw) (rdAll w hw) (rdSrc hp w hw) hnp (rdAll w hw) hLs (by omega) (by omega) huV hKb (hpb2 u)) ?_|refine rcG rfl rfl rfl rfl rfl rfl rfl rfl rfl (fun hg w hw=>tight1_spec p (L.set q X) b o np cp p5 p11 b11 V q u (colZ c l (colT (atL (lens l) q) m)) _ m.length c9 w (rdAll w hw) (rdAll w hw) (rdSrc hp w hw) hnp (rdAll w hw) hLs (by omega) (by omega) huV hKb (hpb2 u)) ?_|refine ro rfl rfl (OpT.store rfl rfl rfl rfl (by rw [hLsm];omega) ⟨fun hlv=>absurd hlv (by decide +kernel),?_⟩))|(show ∀ _:Nat,T _ _ _ _ _;intro _))
   refine T_next _ rfl ?_
   rw [hXs,hfit]
   have e9:((L.set q X).map Value.bool).set (0+(q:Int).toNat * 1) (.bool (X || (decide (pg p q=colZ c l (colT (atL (lens l) q) m)+pg p u) && (L.set q X).getD u false)))=(L.set q (X || (decide (pg p q=colZ c l (colT (atL (lens l) q) m)+pg p u) && (L.set q X).getD u false))).map Value.bool:=by
    rw [show 0+(q:Int).toNat * 1=q by omega, ← List.map_set,List.set_set]
   rw [← e9]
   exact Hle.drop2 _ _ _
  ·rintro D Hn rfl
   rw [List.take_length, ← hFq]
   show T (FC _ _ ((D::Dl).map mkD) _ _ _) _ _ _ (dfr D::blk g2 [.int .i64 (q:Nat)] 3::blk g1 (spcL c A n ca (.slice Am (mvL n).length cm) V) 132::fz pm::blk q13 [.int .i64 (q:Nat)] 3::blk b11 ((L.set q (F q)).map Value.bool) 4::blk p12 [fTv p5 p11] 154::blk p11 [.slice (some ⟨b11,0,none⟩) V V] 153::blk p8 (spcL c A n ca (.slice Am (mvL n).length cm) V) 132::blk p5 [.slice (some ⟨b,o,none⟩) np cp] 40::blk p4 [.slice A n ca] 24::dfrs Dl)
   repeat' (first|refine d1 ?_|refine dd ?_|(show ∀ _:Nat,T _ _ _ _ _;intro _))
   rename_i n13
   show T _ (.mark _::_) _ _ _
   refine T_backD (q,n13,L.set q (F q),D::Dl) ⟨by dsimp only;omega,by dsimp only;rw [List.length_set,hL],fun q' h5=>?_⟩ (by dsimp only;omega) rfl (hG:=?_)
   ·dsimp only
    rw [set_getB (by omega)]
    by_cases e:q=q'
    ·rw [if_pos e,if_pos (by omega),e]
    ·rw [if_neg e,hLF q' h5]
     by_cases e2:q+1≤q'
     ·rw [if_pos e2,if_pos (by omega)]
     ·rw [if_neg e2,if_neg (by omega)]
   ·dsimp only
    exact Hle.srtV (K:=blk n13 [.int .i64 ((q:Int) - 1)] 3::blk b11 ((L.set q (F q)).map Value.bool) 4::blk p12 [fTv p5 p11] 154::blk p11 [.slice (some ⟨b11,0,none⟩) V V] 153::blk p8 (spcL c A n ca (.slice Am (mvL n).length cm) V) 132::fz pm::blk p5 [.slice (some ⟨b,o,none⟩) np cp] 40::blk p4 [.slice A n ca] 24::dfr D::dfrs Dl)
end Go.Proofs.YtmenjpmikhajfaaGreatDoor
namespace Go.Proofs.YtmenjpmikhajfaaGreatDoor
open Go.RowKit Go.Shelf Go.Proofs
set_option maxRecDepth 100000
set_option maxHeartbeats 1000000

noncomputable def potV (c:Costs) (l:List TS):List Int × Int:=if opE c l≠0 then ([],opE c l) else (potL (colZ c l) (lens l) (mvL l.length),0)
theorem potentials20_spec (c:Costs) (A:Option Addr) (n ca:Nat) (l:List TS) (w:World) (hf:Fit w A n l) :
  Spec Tryz.prog 41 [c.val, .slice A n ca] w (fun v R=>∃ x:Value,True∧v = .tuple #[x, .int .i64 (potV c l).2]∧R=[dat [x] [intsD (potV c l).1]]):=by
 have hn:=hf.hn
 refine spec_of sg Tryz.func41 rfl rfl rfl ?_
 refine T_op (OpT.box (cs:=c.cells) rfl rfl rfl rfl rfl rfl rfl (fun pc=>?_))
 by_cases hp:opE c l≠0
 ·have e:potV c l=([],opE c l):=if_pos hp
  rw [e]
  repeat' (first|refine d1 ?_|refine dd ?_|(show T _ (.ops _ (_::_)::_) _ _ _;refine T_op (OpT.call rfl rfl rfl rfl rfl (fun w hw=>openBad_spec c A n ca l w (hf.cls hw) hp) ?_))|(show ∀ _:Nat,T _ _ _ _ _;intro _))
  rintro v R ⟨c',-,rfl,rfl⟩
  repeat' (first|refine d1 ?_|refine dd ?_|(show ∀ _:Nat,T _ _ _ _ _;intro _))
  refine T_if rfl (fun _=>?_) (fun h=>by exfalso;simp at h;exact hp h)
  repeat' (first|refine d1 ?_|refine dd ?_|(show ∀ _:Nat,T _ _ _ _ _;intro _)|(show T _ (.code .ret::_) _ _ _;refine T_retV _ rfl ((hle_unit (B:=dat [.slice none 0 0] [intsD []]) (.s none 0 0 1 [] rfl (Nat.le_refl _) (by omega) (fun h=>absurd h (by omega)) .nil .nil)).trans (Hle.nth 0 rfl)) ⟨_,trivial,rfl,rfl⟩))
 have hp:opE c l=0:=by simpa using hp
 have e:potV c l=(potL (colZ c l) (lens l) (mvL l.length),0):=if_neg (by simpa using hp)
 rw [e]
 obtain⟨hpl,hck⟩:=opE_ok hp
 obtain⟨h1,hb,h4,hv⟩:=plE_ok hpl
 obtain⟨hc,hbs⟩:=ck21_ok hck
 have hg:=hf.grp hb
 have hll:=lens_len l
 have hlsn:(lens l).length=n:=by omega
 have h1n:1≤n:=by omega
 have h4n:n≤4:=by omega
 have hno:=mvL_ok h1n h4n
 repeat' (first|refine d1 ?_|refine dd ?_|(show T _ (.ops _ (_::_)::_) _ _ _;refine T_op (OpT.call rfl rfl rfl rfl rfl (fun w hw=>openOk_spec c A n ca l w (hf.cls hw) hp) ?_))|(show ∀ _:Nat,T _ _ _ _ _;intro _))
 rintro v R ⟨M,-,rfl,rfl⟩
 refine T_le (H':=dat [M] [rowsD ((mvL n).map intN)]::blk pc c.cells 23::[]) (Hle.refl _) ?_
 refine T_open fun pm hM=>?_
 have hM0:=hM
 obtain⟨Am,cm,csm,rfl,-⟩:=hM.tab
 rw [List.length_map] at hM0 ⊢
 obtain⟨V,hV⟩:∃ V,V=volL (lens l):=⟨_,rfl⟩
 have hVp:0<V:=by rw [hV];exact volL_pos _
 rw [← hV] at hv ⊢
 repeat' (first|refine d1 ?_|refine dd ?_|(show ∀ _:Nat,T _ _ _ _ _;intro _))
 rename_i p6
 refine T_if rfl (fun h=>by exfalso;simp at h) (fun _=>?_)
 repeat' (first|refine d1 ?_|refine dd ?_|(show T _ (.ops _ (_::_)::_) _ _ _;refine T_op (OpT.make rfl rfl rfl rfl rfl rfl rfl rfl rfl (by dsimp only;omega) (fun b1=>?_)))|(show ∀ _:Nat,T _ _ _ _ _;intro _))
 rename_i p8
 have hKn:=colZ_nn hc h4
 have hfub:∀ v,0≤rsV (colZ c l) (lens l) (mvL n) v∧rsV (colZ c l) (lens l) (mvL n) v≤4096000000:=fun v=>rsV_ub hc h4 hg.nb v _
 obtain⟨F,hF⟩:∃ F:Nat→Int,F=fun q=>rsV (colZ c l) (lens l) (mvL n) (atL (lens l) q):=⟨_,rfl⟩
 have hFb:∀ q,0≤F q∧F q≤4096000000:=fun q=>by rw [hF];exact hfub _
 have hSp:∀ {w':World} {b:Nat},RdC w' b 0 (spcL c A n ca (.slice Am (mvL n).length cm) V)→RdC w' b (0+6) [.int .i64 (V:Nat)]:=fun h9=>h9.at rfl
 refine T_keep [(6, .pointer (some ⟨p6,0,none⟩)),(8, .pointer (some ⟨p8,0,none⟩)),(9, .int .i64 ((V:Int) - 2))] ⟨rfl,rfl,rfl,trivial⟩ ?_
 refine T_le (H':=blk p8 [.slice (some ⟨b1,0,none⟩) V V] 40::blk b1 ((List.replicate V (0:Int)).map (Value.int .i64)) 3::blk p6 (spcL c A n ca (.slice Am (mvL n).length cm) V) 132::fz pm::[]) (by rw [List.map_replicate];exact Hle.srt) ?_
 show T (FC _ _ (([]:List Nat).map mkD) _ _ _) _ _ _ _
 refine T_loopDX (fun s:Nat × List Int × List Nat=>[(9, .int .i64 ((s.1:Int) - 1))]) (fun s=>blk p8 [.slice (some ⟨b1,0,none⟩) V V] 40::blk b1 (s.2.1.map (Value.int .i64)) 3::blk p6 (spcL c A n ca (.slice Am (mvL n).length cm) V) 132::fz pm::[]) (fun s=>s.2.2) (fun s=>s.1≤V - 1∧s.2.1.length=V∧∀ q,s.1≤q→q<V→s.2.1[q]?=some (F q)) (fun s=>s.1) (V - 1,List.replicate V 0,[]) ⟨Nat.le_refl _,by simp,fun q h5 h6=>?_⟩ rfl ?_ (hE:=⟨by dsimp only;rw [show ((V - 1:Nat):Int) - 1=(V:Int) - 2 by omega];rfl,trivial⟩)
 ·dsimp only at h5 ⊢
  rw [show q=V - 1 by omega,hF]
  dsimp only
  rw [hV,at_last,rsV_end,List.getElem?_replicate,if_pos (by rw [← hV];omega)]
 rintro⟨r,L,Dl⟩ ⟨hr,hL,hLF⟩
 dsimp only at hr hL hLF ⊢
 refine T_le (H':=blk p8 [.slice (some ⟨b1,0,none⟩) V V] 40::blk b1 (L.map (Value.int .i64)) 3::blk p6 (spcL c A n ca (.slice Am (mvL n).length cm) V) 132::fz pm::dfrs Dl) (Hle.refl _) ?_
 have hLm:(L.map (Value.int .i64)).length=V:=by rw [List.length_map,hL]
 repeat' (first|refine d1 ?_|refine dd ?_|(show ∀ _:Nat,T _ _ _ _ _;intro _))
 rcases r with _|p
 ·refine T_if rfl (fun h5=>by exfalso;simp at h5) (fun _=>?_)
  have hLe:L=potL (colZ c l) (lens l) (mvL l.length):=by
   refine List.ext_getElem? fun q=>?_
   by_cases hq:q<V
   ·rw [hLF q (by omega) hq,hn,potL_get _ _ _ (by rw [← hV];exact hq),hF]
   ·rw [List.getElem?_eq_none (by omega),List.getElem?_eq_none (by rw [potL_len, ← hV];omega)]
  rw [hLe] at hLm ⊢
  repeat' (first|refine d1 ?_|refine dd ?_|(show ∀ _:Nat,T _ _ _ _ _;intro _))
  refine T_retDs [dat [.slice (some ⟨b1,0,none⟩) V V] [intsD (potL (colZ c l) (lens l) (mvL l.length))]] ?_ (rf_V (vs:=[.slice (some ⟨b1,0,none⟩) V V, .int .i64 0]) _ rfl (Hle.refl _) ⟨_,trivial,rfl,rfl⟩)
  have hd:=dat_blkV (e:=3) (sz:=1) (n:=V) (b:=b1) (cs:=(potL (colZ c l) (lens l) (mvL l.length)).map (Value.int .i64)) (H:=dfrs Dl) (by rw [hLm,Nat.mul_one]) (by omega)
  rw [List.map_map] at hd
  exact Hle.trans (Hle.srtV (K:=blk b1 ((potL (colZ c l) (lens l) (mvL l.length)).map (Value.int .i64)) 3::dfrs Dl)) hd
 have hpV:p+1<V:=by omega
 refine T_if rfl (fun _=>?_) (fun h5=>by have h9:=of_decide_eq_false h5;omega)
 rw [show (((p+1:Nat):Int) - 1)=(p:Int) by omega]
 repeat' (first|refine d1 ?_|refine dd ?_|(show T _ (.ops _ (_::_)::_) _ _ _;first|refine T_val rfl (Val.loadA rfl (fun _=>rdAll) rfl) rfl rfl rfl ?_|refine T_valC rfl (Val.loadA rfl (fun _=>rdAll) rfl) rfl rfl rfl rfl rfl ?_|refine T_op (OpT.call rfl rfl rfl rfl rfl (fun w hw=>steps20_fn c A n ca (.slice Am (mvL n).length cm) V p w) (fun u R hR=>?_)))|(show T _ (.run _ _ (_::_) _ _::_) _ _ _;first|refine rv rfl rfl rfl (Val.loadA rfl (fun _=>rdAll) rfl) rfl rfl rfl ?_|refine rg rfl rfl rfl (Val.loadA rfl (fun _=>rdAll) rfl) rfl rfl rfl rfl rfl ?_)|(show ∀ _:Nat,T _ _ _ _ _;intro _))
 obtain⟨⟨g1,g2⟩,-,rfl,rfl⟩:=hR
 rename_i p10
 have hin:=atL_in (lens l) p
 have hne:=at_ne_last (ls:=lens l) (q:=p) (by omega) (by omega)
 have hstep:=rsV_step hKn hno hlsn hin hne
 have hnum:=num_at (lens l) p (by omega)
 refine T_le (H':=blk g2 [.int .i64 (p:Nat)] 3::blk g1 (spcL c A n ca (.slice Am (mvL n).length cm) V) 132::blk p10 [.int .i64 (-1)] 3::blk p8 [.slice (some ⟨b1,0,none⟩) V V] 40::blk b1 (L.map (Value.int .i64)) 3::blk p6 (spcL c A n ca (.slice Am (mvL n).length cm) V) 132::fz pm::dfrs Dl) (Hle.refl _) ?_
 refine T_rangeZ (steps20_iter (ca:=ca) (V:=V) hg hc hbs h1n h4n (by omega) (p:=p) (by omega) g1 g2 (fun w _ h9=>h9) hM0) rfl (fun j x B hj hQ=>by obtain⟨m,_,_,_,_,rfl,_⟩:=hQ;exact⟨rfl,rfl⟩)
  (fun jj H=>H=fz pm::blk p10 [.int .i64 (foldB (possM (lens l) (atL (lens l) p)) (mcV (colZ c l) (lens l) (mvL n) (atL (lens l) p)) ((posL (lens l) (atL (lens l) p) (mvL n)).take jj) (-1))] 3::blk p8 [.slice (some ⟨b1,0,none⟩) V V] 40::blk b1 (L.map (Value.int .i64)) 3::blk p6 (spcL c A n ca (.slice Am (mvL n).length cm) V) 132::dfrs Dl) (fun _=>False) (fun _ _=>False) (fz pm::blk p10 [.int .i64 (-1)] 3::blk p8 [.slice (some ⟨b1,0,none⟩) V V] 40::blk b1 (L.map (Value.int .i64)) 3::blk p6 (spcL c A n ca (.slice Am (mvL n).length cm) V) 132::dfrs Dl) (fun j H h=>by subst h;exact Hle.nth 0 rfl) rfl Hle.srtV ?_ ?_ (fun _ _ h=>h.elim) (fun _ _ _ h=>h.elim)
 ·rintro Lp r5 jj x B Hj K2 hr5 hj hQ rfl
  obtain⟨m,A9,c9,hm,hmr,rfl,rfl⟩:=hQ
  obtain⟨hmm,hpo⟩:=posL_mem (List.mem_of_getElem? hm)
  obtain⟨hti,hs1,hs2,hs3⟩:=toM_rem hno hlsn hin hmm hpo
  have hqV:=numL_lt hti
  have hmp:0<m.length:=hs2
  have hqn:p<numL (lens l) (toM (atL (lens l) p) m):=by
   rw [toM_num _ _ _ (by rw [atL_len]) (fun s hs=>by rw [atL_len,hlsn];exact hno.lt m hmm s hs),hnum]
   have:=stp_pos (ls:=lens l) (hno.ne m hmm) (fun s hs=>by rw [hlsn];exact hno.lt m hmm s hs)
   omega
  have hFq:F (numL (lens l) (toM (atL (lens l) p) m))=rsV (colZ c l) (lens l) (mvL n) (toM (atL (lens l) p) m):=by rw [hF];dsimp only;rw [at_num hti]
  obtain⟨q,hq⟩:∃ q,q=numL (lens l) (toM (atL (lens l) p) m):=⟨_,rfl⟩
  rw [← hq, ← hV] at hqV
  rw [← hq] at hqn hFq
  have hXb:=foldB_spec (p:=possM (lens l) (atL (lens l) p)) (mcV_nn hKn (lens l) (mvL n) (atL (lens l) p)) ((posL (lens l) (atL (lens l) p) (mvL n)).take jj) (-1) (by omega)
  have hXu:foldB (possM (lens l) (atL (lens l) p)) (mcV (colZ c l) (lens l) (mvL n) (atL (lens l) p)) ((posL (lens l) (atL (lens l) p) (mvL n)).take jj) (-1)≤4097024000:=foldB_ub (fun m=>by
   have h8:=colZ_bd hc (show l.length≤32 by omega) (colT (atL (lens l) p) m)
   have h9:=hfub (toM (atL (lens l) p) m)
   unfold mcV
   omega) _ _ (by omega)
  obtain⟨X,hX⟩:∃ X,X=foldB (possM (lens l) (atL (lens l) p)) (mcV (colZ c l) (lens l) (mvL n) (atL (lens l) p)) ((posL (lens l) (atL (lens l) p) (mvL n)).take jj) (-1):=⟨_,rfl⟩
  have hXs:foldB (possM (lens l) (atL (lens l) p)) (mcV (colZ c l) (lens l) (mvL n) (atL (lens l) p)) ((posL (lens l) (atL (lens l) p) (mvL n)).take (jj+1)) (-1)=bst X (colZ c l (colT (atL (lens l) p) m)+F q):=by
   rw [take_snoc _ _ _ hm,foldB_app, ← hX,hFq]
   show cond (possM (lens l) (atL (lens l) p) m) _ _=_
   rw [hpo];rfl
  rw [← hX] at hXb hXu
  have hX1:=hXb.1
  clear hXb
  have hKb:=colZ_bd hc (show l.length≤32 by omega) (colT (atL (lens l) p) m)
  have hFq2:=hFb q
  have hcq:∀ w,RdC w b1 0 (L.map (Value.int .i64))→RdC w b1 (0+(q:Int).toNat * 1) [.int .i64 (F q)]:=fun w h9=>rdAt h9 (by omega) (hLF q (by omega) (by omega))
  show T _ _ ((35, .agg #[.slice A9 m.length c9, .int .i64 (colZ c l (colT (atL (lens l) p) m)), .int .i64 (numL (lens l) (toM (atL (lens l) p) m):Nat)])::_) _ (lrec Lp r5::fz pm::blk p10 [.int .i64 (foldB (possM (lens l) (atL (lens l) p)) (mcV (colZ c l) (lens l) (mvL n) (atL (lens l) p)) ((posL (lens l) (atL (lens l) p) (mvL n)).take jj) (-1))] 3::blk p8 [.slice (some ⟨b1,0,none⟩) V V] 40::blk b1 (L.map (Value.int .i64)) 3::blk p6 (spcL c A n ca (.slice Am (mvL n).length cm) V) 132::(dfrs Dl++K2))
  rw [← hX, ← hq]
  repeat' (first|refine d1 ?_|refine dd ?_|(show ∀ _:Nat,T _ _ _ _ _;intro _))
  rename_i p11
  refine T_le (H':=lrec Lp r5::blk p11 [.slice A9 m.length c9, .int .i64 (colZ c l (colT (atL (lens l) p) m)), .int .i64 (q:Nat)] 139::fz pm::blk p10 [.int .i64 X] 3::blk p8 [.slice (some ⟨b1,0,none⟩) V V] 40::blk b1 (L.map (Value.int .i64)) 3::blk p6 (spcL c A n ca (.slice Am (mvL n).length cm) V) 132::(dfrs Dl++K2)) (Hle.perm (List.Perm.swap _ _ _)) ?_
  refine T_begin hr5 rfl ?_
  repeat' (first|refine d1 ?_|refine dd ?_|(show T _ (.ops _ (_::_)::_) _ _ _;first|refine T_val rfl (Val.nilc rfl) rfl rfl rfl ?_|refine T_valC rfl (Val.nilc rfl) rfl rfl rfl rfl rfl ?_|refine T_val rfl (Val.load rfl (fun hg=>(fun w hw=>hcq w (rdAll w hw)))) rfl rfl rfl ?_|refine T_valC rfl (Val.load rfl (fun hg=>(fun w hw=>hcq w (rdAll w hw)))) rfl rfl rfl rfl rfl ?_)|(show T _ (.run _ _ (_::_) _ _::_) _ _ _;first|refine rv rfl rfl rfl (Val.nilc rfl) rfl rfl rfl ?_|refine rg rfl rfl rfl (Val.nilc rfl) rfl rfl rfl rfl rfl ?_|refine rv rfl rfl rfl (Val.load rfl (fun hg=>(fun w hw=>hcq w (rdAll w hw)))) rfl rfl rfl ?_|refine rg rfl rfl rfl (Val.load rfl (fun hg=>(fun w hw=>hcq w (rdAll w hw)))) rfl rfl rfl rfl rfl ?_)|(show ∀ _:Nat,T _ _ _ _ _;intro _))
  refine T_if rfl (fun h5=>?_) (fun h5=>?_)
  ·have hbs9:bst X (colZ c l (colT (atL (lens l) p) m)+F q)=colZ c l (colT (atL (lens l) p) m)+F q:=by unfold bst;rw [if_pos (by simpa using h5)]
   repeat' (first|refine d1 ?_|refine dd ?_|(show ∀ _:Nat,T _ _ _ _ _;intro _))
   refine T_next (fz pm::blk p10 [.int .i64 (foldB (possM (lens l) (atL (lens l) p)) (mcV (colZ c l) (lens l) (mvL n) (atL (lens l) p)) ((posL (lens l) (atL (lens l) p) (mvL n)).take (jj+1)) (-1))] 3::blk p8 [.slice (some ⟨b1,0,none⟩) V V] 40::blk b1 (L.map (Value.int .i64)) 3::blk p6 (spcL c A n ca (.slice Am (mvL n).length cm) V) 132::dfrs Dl) rfl ?_
   rw [hXs,hbs9]
   exact Hle.drop2 _ _ _
  ·have hbs9:bst X (colZ c l (colT (atL (lens l) p) m)+F q)=X:=by unfold bst;rw [if_neg (by simpa using h5)]
   repeat' (first|refine d1 ?_|refine dd ?_|(show ∀ _:Nat,T _ _ _ _ _;intro _))
   refine T_next (fz pm::blk p10 [.int .i64 (foldB (possM (lens l) (atL (lens l) p)) (mcV (colZ c l) (lens l) (mvL n) (atL (lens l) p)) ((posL (lens l) (atL (lens l) p) (mvL n)).take (jj+1)) (-1))] 3::blk p8 [.slice (some ⟨b1,0,none⟩) V V] 40::blk b1 (L.map (Value.int .i64)) 3::blk p6 (spcL c A n ca (.slice Am (mvL n).length cm) V) 132::dfrs Dl) rfl ?_
   rw [hXs,hbs9]
   exact Hle.drop2 _ _ _
 ·rintro D Hn rfl
  have hFp:foldB (possM (lens l) (atL (lens l) p)) (mcV (colZ c l) (lens l) (mvL n) (atL (lens l) p)) ((posL (lens l) (atL (lens l) p) (mvL n)).take (posL (lens l) (atL (lens l) p) (mvL n)).length) (-1)=F p:=by rw [List.take_length,foldB_posL, ← hstep,hF]
  rw [hFp]
  show T (FC _ _ ((D::Dl).map mkD) _ _ _) _ _ _ (dfr D::blk g2 [.int .i64 (p:Nat)] 3::blk g1 (spcL c A n ca (.slice Am (mvL n).length cm) V) 132::fz pm::blk p10 [.int .i64 (F p)] 3::blk p8 [.slice (some ⟨b1,0,none⟩) V V] 40::blk b1 (L.map (Value.int .i64)) 3::blk p6 (spcL c A n ca (.slice Am (mvL n).length cm) V) 132::dfrs Dl)
  repeat' (first|refine d1 ?_|refine dd ?_|(show T _ (.ops _ (_::_)::_) _ _ _;refine T_op (OpT.store rfl rfl rfl rfl (by rw [hLm];omega) ?_))|(show ∀ _:Nat,T _ _ _ _ _;intro _))
  have e9:(L.map (Value.int .i64)).set (0+(p:Int).toNat * 1) (.int .i64 (F p))=(L.set p (F p)).map (Value.int .i64):=by
   rw [show 0+(p:Int).toNat * 1=p by omega, ← List.map_set]
  rw [e9]
  show T _ (.mark _::_) _ _ _
  refine T_backD (p,L.set p (F p),D::Dl) ⟨by dsimp only;omega,by dsimp only;rw [List.length_set,hL],fun q h5 h6=>?_⟩ (by dsimp only;omega) rfl (hG:=?_)
  ·dsimp only at h5 ⊢
   by_cases hqp:q=p
   ·rw [hqp,List.getElem?_set_self (by omega)]
   ·rw [List.getElem?_set_ne (by omega)];exact hLF q (by omega) h6
  ·dsimp only
   exact Hle.srtV (K:=blk p8 [.slice (some ⟨b1,0,none⟩) V V] 40::blk b1 ((L.set p (F p)).map (Value.int .i64)) 3::blk p6 (spcL c A n ca (.slice Am (mvL n).length cm) V) 132::fz pm::dfr D::dfrs Dl)
end Go.Proofs.YtmenjpmikhajfaaGreatDoor
namespace Go.Proofs.YtmenjpmikhajfaaGreatDoor
open Go.RowKit Go.Shelf Go.Proofs
set_option maxRecDepth 100000
set_option linter.unusedSectionVars false
set_option maxHeartbeats 1000000

theorem pg_some {p:List Int} {q:Nat} (h:q<p.length):p[q]?=some (pg p q):=by unfold pg;rw [List.getD_eq_getElem?_getD,List.getElem?_eq_getElem h];rfl
structure Use20 (c:Costs) (l:List TS):Prop where
 op:opE c l=0
 h1:1≤l.length
 h4:l.length≤4
 hv:volL (lens l)≤65536
 hc:costE c=0
 hbs:badS l=false
 hq:∀ t∈l,t.n≤6
 hln:∀ t∈l,t.l.length=t.n
theorem Fit.use {w:World} {A:Option Addr} {n:Nat} {l:List TS} (hf:Fit w A n l) {c:Costs} (h:opE c l=0):Use20 c l:=by
 obtain⟨hpl,hck⟩:=opE_ok h
 obtain⟨h1,hb,h4,hv⟩:=plE_ok hpl
 obtain⟨hc,hbs⟩:=ck21_ok hck
 exact⟨h,h1,h4,hv,hc,hbs,(hf.six hb).2,hf.ok.len⟩
section
variable {c:Costs} {l:List TS} (h:Use20 c l)
include h
theorem Use20.ub (v:List Nat):rsV (colZ c l) (lens l) (mvL l.length) v≤24576000:=by
 unfold rsV
 have h9:=h.h4
 have h1:=rsM_ub (K:=colZ c l) (B:=1024000) (by omega) (fun x=>(colZ_bd h.hc (by omega) x).2) (lens l) (mvL l.length) (sumL (lens l) - sumL v) v
 have h2:=sumL_lensQ h.hq
 omega
theorem Use20.pot:potV c l=(potL (colZ c l) (lens l) (mvL l.length),0):=if_neg fun h9=>h9 h.op
theorem Use20.prs:prsW c l=(prsL c l,0):=if_neg fun h9=>h9 h.op
theorem Use20.fea:feaE (colZ c l) (lens l) (mvL l.length) (potL (colZ c l) (lens l) (mvL l.length))=0 :=
 potL_fea (K:=colZ c l) (colZ_nn h.hc h.h4) (mvL_ok h.h1 h.h4) (lens_len l) fun v=>by have:=h.ub v;omega
theorem Use20.chk (p:List Int):chkV20 c l p=feaE (colZ c l) (lens l) (mvL l.length) p:=if_neg fun h9=>h9 h.op
theorem Use20.chkPot:chkV20 c l (potL (colZ c l) (lens l) (mvL l.length))=0:=by rw [h.chk,h.fea]
theorem Use20.zero:pg (potL (colZ c l) (lens l) (mvL l.length)) 0=lstV c l:=by
 rw [potL_pg _ _ _ (volL_pos _)]
 have h9:=at_num (InB.zero (lens l))
 rw [numL_zero,lens_len] at h9
 rw [h9];rfl
theorem Use20.last:pg (potL (colZ c l) (lens l) (mvL l.length)) (volL (lens l) - 1)=0:=(feaE_ok.1 h.fea).2.1
theorem Use20.us:usV c l=0:=by
 unfold usV ck21
 rw [if_neg (by have:=h.h1;omega),if_pos ⟨h.hc,h.hbs⟩]
theorem Use20.aln:aln19 c l=(alnW c l,lstV c l,0):=by
 unfold aln19
 rw [if_neg fun h9=>h9 h.us,if_neg (by have:=h.h4;have:=h.hv;omega)]
theorem Use20.okA:ColsOk (lens l) (alnW c l)∧totZ c l (alnW c l)=lstV c l:=alnW_ok h.hc h.h1 h.h4
theorem Use20.slk {cols:List (List Int)} {p:List Int} (hk:ColsOk (lens l) cols) (hf:feaE (colZ c l) (lens l) (mvL l.length) p=0):slkV c l cols p=(totZ c l cols - pg p 0,0):=by
 unfold slkV
 rw [if_neg fun h9=>h9 h.op,if_neg fun h9=>h9 (chkC_ok (by have:=h.h1;omega) hk),if_neg fun h9=>h9 hf]
theorem Use20.verAln:verV20 c l (alnW c l) (potL (colZ c l) (lens l) (mvL l.length))=0:=by
 have hz:totZ c l (alnW c l) - pg (potL (colZ c l) (lens l) (mvL l.length)) 0=0:=by rw [h.okA.2,h.zero];omega
 unfold verV20
 rw [h.slk h.okA.1 h.fea,hz]
 rfl
theorem Use20.tgt (p:List Int):tgtV c l p=if feaE (colZ c l) (lens l) (mvL l.length) p≠0 then ([],feaE (colZ c l) (lens l) (mvL l.length) p)
  else if ldV (colZ c l) (lens l) (mvL l.length) p (List.replicate l.length 0)=true then (tgV (colZ c l) (lens l) (mvL l.length) p (List.replicate l.length 0),0) else ([],6):=if_neg fun h9=>h9 h.op
theorem Use20.in0:InB (lens l) (List.replicate l.length 0):=by have h9:=InB.zero (lens l);rw [lens_len] at h9;exact h9
theorem Use20.tgtPot:tgtV c l (potL (colZ c l) (lens l) (mvL l.length))=(alnW c l,0):=by
 have hK:=colZ_nn h.hc h.h4
 have hM:=mvL_ok h.h1 h.h4
 rw [h.tgt,if_neg fun h9=>h9 h.fea,if_pos (potL_ld (K:=colZ c l) hK hM (lens_len l) _ _ h.in0 rfl)]
 show (tgF _ _ _ _ _ _,(0:Int))=(alM _ _ _ _ _,0)
 rw [potL_tg (K:=colZ c l) hK hM (lens_len l) _ _ h.in0]
theorem Use20.tgtVer {p:List Int} (h2:(tgtV c l p).2=0):verV20 c l (tgtV c l p).1 p=0∧(tgtV c l p).1.length≤24:=by
 have hM:=mvL_ok h.h1 h.h4
 rw [h.tgt] at h2 ⊢
 by_cases hf:feaE (colZ c l) (lens l) (mvL l.length) p≠0
 ·rw [if_pos hf] at h2
  exact absurd h2 hf
 ·rw [if_neg hf] at h2 ⊢
  have hf:feaE (colZ c l) (lens l) (mvL l.length) p=0:=by simpa using hf
  by_cases hl:ldV (colZ c l) (lens l) (mvL l.length) p (List.replicate l.length 0)=true
  ·rw [if_pos hl]
   obtain⟨g1,g2,g3⟩:=tgV_rest (K:=colZ c l) hM (lens_len l) (feaE_ok.1 hf).2.1 _ _ h.in0 rfl hl
   have hok:ColsOk (lens l) (tgV (colZ c l) (lens l) (mvL l.length) p (List.replicate l.length 0)):=RestOk.colsOk.1 (by rw [lens_len];exact g1)
   rw [numL_zero] at g2
   have g9:=sumL_lensQ h.hq
   have g8:=h.h4
   refine ⟨?_,by dsimp only;omega⟩
   have hz:totZ c l (tgV (colZ c l) (lens l) (mvL l.length) p (List.replicate l.length 0)) - pg p 0=0:=by unfold totZ;rw [g2];omega
   unfold verV20
   dsimp only
   rw [h.slk hok hf,hz]
   rfl
  ·rw [if_neg hl] at h2
   exact absurd h2 (by decide)
theorem Use20.slkNn {cols:List (List Int)} {p:List Int} (hk:ColsOk (lens l) cols) (hf:feaE (colZ c l) (lens l) (mvL l.length) p=0):pg p 0≤totZ c l cols:=by
 have h1:=fea_le (K:=colZ c l) (colZ_nn h.hc h.h4) (mvL_ok h.h1 h.h4) (lens_len l) hf _ _ h.in0 rfl
 rw [numL_zero] at h1
 exact Int.le_trans h1 (lstV_le h.hc h.h1 h.h4 hk)
theorem Use20.raise {k:Nat} (hk:k<volL (lens l)):chkV20 c l ((potL (colZ c l) (lens l) (mvL l.length)).set k (pg (potL (colZ c l) (lens l) (mvL l.length)) k+1))=18:=by
 rw [h.chk,potL_pg _ _ _ hk]
 exact potL_raise (K:=colZ c l) (colZ_nn h.hc h.h4) (mvL_ok h.h1 h.h4) (lens_len l) hk
theorem Use20.below {p:List Int} (hf:chkV20 c l p=0):p.length=volL (lens l)∧∀ q,q<volL (lens l)→pg p q≤pg (potL (colZ c l) (lens l) (mvL l.length)) q:=by
 rw [h.chk] at hf
 exact⟨(feaE_ok.1 hf).1,fun q hq=>fea_pot (K:=colZ c l) (colZ_nn h.hc h.h4) (mvL_ok h.h1 h.h4) (lens_len l) hf hq⟩
theorem Use20.hb:∀ t∈l,t.l.length≤1000:=fun t ht=>by rw [h.hln t ht];have:=h.hq t ht;omega
theorem Use20.feaPrs:feaE (colZ c l) (lens l) (mvL l.length) (prsL c l)=0:=prsL_fea h.hc h.h1 h.h4 h.hln h.hb
theorem Use20.two (h2:l.length=2):prsL c l=potL (colZ c l) (lens l) (mvL l.length):=prsL_two h.hc h2 h.hln h.hb
end
theorem slk_err {c:Costs} {l:List TS} {cols:List (List Int)} {p:List Int} (h:(slkV c l cols p).2≠0):(slkV c l cols p).1=0∧verV20 c l cols p=(slkV c l cols p).2:=by
 refine ⟨?_,by unfold verV20;rw [if_pos h]⟩
 unfold slkV at h ⊢
 by_cases h1:opE c l≠0
 ·rw [if_pos h1]
 ·rw [if_neg h1] at h ⊢
  by_cases h2:chkC l cols≠0
  ·rw [if_pos h2]
  ·rw [if_neg h2] at h ⊢
   by_cases h3:feaE (colZ c l) (lens l) (mvL l.length) p≠0
   ·rw [if_pos h3]
   ·rw [if_neg h3] at h
    exact absurd rfl h
theorem slk_good {c:Costs} {l:List TS} {cols:List (List Int)} {p:List Int} (h:(slkV c l cols p).2=0):opE c l=0∧chkC l cols=0∧feaE (colZ c l) (lens l) (mvL l.length) p=0∧slkV c l cols p=(totZ c l cols - pg p 0,0)∧verV20 c l cols p=if totZ c l cols - pg p 0≠0 then 18 else 0:=by
 have h0:=h
 unfold slkV at h
 by_cases h1:opE c l≠0
 ·rw [if_pos h1] at h;exact absurd h h1
 ·rw [if_neg h1] at h
  by_cases h2:chkC l cols≠0
  ·rw [if_pos h2] at h;exact absurd h (by decide)
  ·rw [if_neg h2] at h
   by_cases h3:feaE (colZ c l) (lens l) (mvL l.length) p≠0
   ·rw [if_pos h3] at h;exact absurd h h3
   ·have e:slkV c l cols p=(totZ c l cols - pg p 0,0):=by unfold slkV;rw [if_neg h1,if_neg h2,if_neg h3]
    refine ⟨by simpa using h1,by simpa using h2,by simpa using h3,e,?_⟩
    unfold verV20
    rw [if_neg (by rw [h0];simp),e]
theorem chkC_cols {l:List TS} {cols:List (List Int)} (h:chkC l cols=0):ColsOk (lens l) cols:=by
 unfold chkC at h
 by_cases h1:l.length=0
 ·rw [if_pos h1] at h;omega
 ·rw [if_neg h1] at h
  by_cases h2:ColsOk (lens l) cols
  ·exact h2
  ·rw [if_neg h2] at h;omega
theorem aln_err {c:Costs} {l:List TS} (hb:¬ bigS l) (h:opE c l≠0):aln19 c l=([],0,opE c l):=by
 unfold opE at h ⊢
 unfold aln19 usV
 by_cases h1:l.length=0
 ·rw [if_pos h1,if_pos h1,if_pos (by decide)]
 ·rw [if_neg h1] at h
  rw [if_neg h1,if_neg h1]
  rw [if_neg hb] at h ⊢
  by_cases h2:ck21 c l≠0
  ·have:ck21 c l=1:=by
    unfold ck21 at h2 ⊢
    split at h2
    ·exact absurd rfl h2
    ·rw [if_neg ‹_›]
   rw [if_pos h2,if_pos h2,this]
  ·rw [if_neg h2] at h
   rw [if_neg h2,if_neg h2]
   by_cases h3:4<l.length∨65536<volL (lens l)
   ·rw [if_pos h3,if_pos h3]
   ·rw [if_neg h3] at h
    exact absurd rfl h
theorem big_err {c:Costs} {l:List TS} (hb:bigS l):opE c l=4:=by
 unfold opE
 rw [if_neg hb.1,if_pos hb]
theorem numL_cmp:∀ {ls u v:List Nat},InB ls u→InB ls v→(numL ls u<numL ls v↔cmpL u v<0)∧(numL ls u=numL ls v↔u=v)
 | [],[],[],_,_=>by simp [numL,cmpL]
 | n::ls,a::u,b::v,h,k=>by
  obtain⟨i1,i2⟩:=numL_cmp h.2 k.2
  have h1:=numL_lt h.2
  have h2:=numL_lt k.2
  have e1:numL (n::ls) (a::u)=a * volL ls+numL ls u:=rfl
  have e2:numL (n::ls) (b::v)=b * volL ls+numL ls v:=rfl
  rcases Nat.lt_trichotomy a b with hab|rfl|hab
  ·have h3:(a+1) * volL ls≤b * volL ls:=Nat.mul_le_mul_right _ hab
   rw [Nat.add_mul,Nat.one_mul] at h3
   have e:cmpL (a::u) (b::v) = -1:=by unfold cmpL;rw [if_pos hab]
   refine ⟨by rw [e];constructor <;> intro _ <;> omega,?_⟩
   constructor
   ·intro h9;omega
   ·intro h9;cases h9;omega
  ·have e:cmpL (a::u) (a::v)=cmpL u v:=by
    rw [show cmpL (a::u) (a::v)=if a<a then -1 else if a<a then 1 else cmpL u v from rfl,if_neg (Nat.lt_irrefl _),if_neg (Nat.lt_irrefl _)]
   rw [e,e1,e2]
   constructor
   ·rw [← i1];omega
   ·constructor
    ·intro h9;rw [i2.1 (by omega)]
    ·intro h9;cases h9;rfl
  ·have h3:(b+1) * volL ls≤a * volL ls:=Nat.mul_le_mul_right _ hab
   rw [Nat.add_mul,Nat.one_mul] at h3
   have e:cmpL (a::u) (b::v)=1:=by
    rw [show cmpL (a::u) (b::v)=if a<b then -1 else if b<a then 1 else cmpL u v from rfl,if_neg (by omega),if_pos hab]
   refine ⟨by rw [e];constructor <;> intro _ <;> omega,?_⟩
   constructor
   ·intro h9;omega
   ·intro h9;cases h9;omega
 | [],[],_::_,_,k=>k.elim
 | [],_::_,_,h,_=>h.elim
 | _::_,[],_,h,_=>h.elim
 | _::_,_::_,[],_,k=>k.elim
theorem num_max {ls:List Nat}:numL ls ls=volL ls - 1:=by have:=num_all ls;omega
end Go.Proofs.YtmenjpmikhajfaaGreatDoor
namespace Go.Proofs.YtmenjpmikhajfaaGreatDoor
open Go.RowKit Go.Shelf Go.Proofs
set_option maxRecDepth 100000
set_option maxHeartbeats 1000000

def great20B (l:List TS):Bool:=great19B l 5 6 || wideB l 300
theorem great20_spec (A:Option Addr) (n ca:Nat) (l:List TS) (w:World) (hs:Src w 1 A n (l.map TS.val)) (hn:l.length=n) (hb:n≤9223372036854775807) (hl:TsOk w l) :
  Spec Tryz.prog 39 [.slice A n ca] w (fun v R=>v = .bool (great20B l)∧R=[]):=by
 refine spec_of sg Tryz.func39 rfl rfl rfl ?_
 unfold great20B
 cases hgr:great19B l 5 6 with
 | true =>
  repeat' (first|refine d1 ?_|refine dd ?_|(show T _ (.ops _ (_::_)::_) _ _ _;first|refine T_call rfl rfl rfl rfl rfl (fun w hw=>great19_spec A n ca l 5 6 w (rdSrc hs w hw) hn hb ⟨fun t ht=>src_below (hl.src t ht) hw.below,hl.len,hl.bd⟩ (by omega) (by omega)) ?_|refine T_callC rfl rfl rfl rfl rfl rfl rfl (fun hg w hw=>great19_spec A n ca l 5 6 w (rdSrc hs w hw) hn hb ⟨fun t ht=>src_below (hl.src t ht) hw.below,hl.len,hl.bd⟩ (by omega) (by omega)) ?_)|(show T _ (.run _ _ (_::_) _ _::_) _ _ _;first|refine rc rfl rfl rfl rfl rfl rfl rfl (fun w hw=>great19_spec A n ca l 5 6 w (rdSrc hs w hw) hn hb ⟨fun t ht=>src_below (hl.src t ht) hw.below,hl.len,hl.bd⟩ (by omega) (by omega)) ?_|refine rcG rfl rfl rfl rfl rfl rfl rfl rfl rfl (fun hg w hw=>great19_spec A n ca l 5 6 w (rdSrc hs w hw) hn hb ⟨fun t ht=>src_below (hl.src t ht) hw.below,hl.len,hl.bd⟩ (by omega) (by omega)) ?_)|(show ∀ _:Nat,T _ _ _ _ _;intro _))
  rw [hgr]
  repeat' (first|refine d1 ?_|refine dd ?_|(show T _ (.ops _ (_::_)::_) _ _ _;refine T_op (OpT.never (.bool false) rfl (fun hg9=>by have h10:(true:Bool)=false:=hg9.1;cases h10) rfl rfl rfl rfl rfl ?_))|(show ∀ _:Nat,T _ _ _ _ _;intro _))
  repeat' (first|refine d1 ?_|refine dd ?_|(show ∀ _:Nat,T _ _ _ _ _;intro _)|(show T _ (.code .ret::_) _ _ _;refine T_retV [] rfl (Hle.none _) ⟨rfl,rfl⟩))
 | false =>
  obtain⟨g1,g2,g3⟩:=great19_no hl hgr
  repeat' (first|refine d1 ?_|refine dd ?_|(show T _ (.ops _ (_::_)::_) _ _ _;first|refine T_call rfl rfl rfl rfl rfl (fun w hw=>great19_spec A n ca l 5 6 w (rdSrc hs w hw) hn hb ⟨fun t ht=>src_below (hl.src t ht) hw.below,hl.len,hl.bd⟩ (by omega) (by omega)) ?_|refine T_callC rfl rfl rfl rfl rfl rfl rfl (fun hg w hw=>great19_spec A n ca l 5 6 w (rdSrc hs w hw) hn hb ⟨fun t ht=>src_below (hl.src t ht) hw.below,hl.len,hl.bd⟩ (by omega) (by omega)) ?_)|(show T _ (.run _ _ (_::_) _ _::_) _ _ _;first|refine rc rfl rfl rfl rfl rfl rfl rfl (fun w hw=>great19_spec A n ca l 5 6 w (rdSrc hs w hw) hn hb ⟨fun t ht=>src_below (hl.src t ht) hw.below,hl.len,hl.bd⟩ (by omega) (by omega)) ?_|refine rcG rfl rfl rfl rfl rfl rfl rfl rfl rfl (fun hg w hw=>great19_spec A n ca l 5 6 w (rdSrc hs w hw) hn hb ⟨fun t ht=>src_below (hl.src t ht) hw.below,hl.len,hl.bd⟩ (by omega) (by omega)) ?_)|(show ∀ _:Nat,T _ _ _ _ _;intro _))
  rw [hgr]
  repeat' (first|refine d1 ?_|refine dd ?_|(show T _ (.ops _ (_::_)::_) _ _ _;first|refine T_call rfl rfl rfl rfl rfl (fun w hw=>wide19_spec A n ca l 300 w (rdSrc hs w hw) hn (by omega) (fun t ht=>by have:=g2 t ht;omega) (by omega)) ?_|refine T_callC rfl rfl rfl rfl rfl rfl rfl (fun hg w hw=>wide19_spec A n ca l 300 w (rdSrc hs w hw) hn (by omega) (fun t ht=>by have:=g2 t ht;omega) (by omega)) ?_)|(show T _ (.run _ _ (_::_) _ _::_) _ _ _;first|refine rc rfl rfl rfl rfl rfl rfl rfl (fun w hw=>wide19_spec A n ca l 300 w (rdSrc hs w hw) hn (by omega) (fun t ht=>by have:=g2 t ht;omega) (by omega)) ?_|refine rcG rfl rfl rfl rfl rfl rfl rfl rfl rfl (fun hg w hw=>wide19_spec A n ca l 300 w (rdSrc hs w hw) hn (by omega) (fun t ht=>by have:=g2 t ht;omega) (by omega)) ?_)|(show ∀ _:Nat,T _ _ _ _ _;intro _)|(show T _ (.code .ret::_) _ _ _;refine T_retV [] rfl (Hle.none _) ⟨rfl,rfl⟩))
theorem fit_of {w:World} {A:Option Addr} {n:Nat} {l:List TS} (hst:Std w) (hs:Src w 1 A n (l.map TS.val)) (hn:l.length=n) (hl:TsOk w l) (h:great20B l=false):Fit w A n l :=
 ⟨hst,hs,hn,hl,(Bool.or_eq_false_iff.1 h).1⟩
theorem vol_of {c:Costs} {l:List TS} (h:great20B l=false) (hu:Use20 c l):volL (lens l)≤300:=by
 have h1:=(Bool.or_eq_false_iff.1 h).2
 unfold wideB at h1
 rw [decide_eq_false_iff_not] at h1
 have:=hu.h4
 have:=hu.hv
 omega
def sD20:ByteArray:=⟨#[100,101,117,115]⟩
def sE20:ByteArray:=⟨#[101,115,116]⟩
def awC20:Costs:=⟨4,1,2,6⟩
def awS20 (x1 x2:Option Addr × Nat):List TS:=[⟨x1.1,2,x1.2,[tokS sD20,tokS sE20]⟩,⟨x2.1,1,x2.2,[tokS sD20]⟩]
def aw20:List TS:=awS20 (none,2) (none,1)
theorem aw20U0:ck21 awC20 aw20=0:=by decide +kernel
theorem aw20P0:potL (colZ awC20 aw20) (lens aw20) (mvL 2)=[4,8,6,4,4,0]:=by decide +kernel
theorem aw20A0:alnW awC20 aw20=[[0,0],[1,-1]]:=by decide +kernel
theorem aw20G0:great20B aw20=false:=by decide +kernel
section
variable (x1 x2:Option Addr × Nat)
theorem aw20Pl:plE (awS20 x1 x2)=0:=by
 unfold plE
 rw [if_neg (by show ¬ (2=0);omega),if_neg ?_,if_neg (by show ¬ (4<2∨65536<6);omega)]
 rintro⟨-,h|⟨t,ht,h⟩⟩
 ·have h':32<2:=h
  omega
 ·rcases List.mem_cons.1 ht with rfl|ht
  ·have h':1024<2:=h
   omega
  ·rcases List.mem_cons.1 ht with rfl|ht
   ·have h':1024<1:=h
    omega
   ·cases ht
theorem aw20U:Use20 awC20 (awS20 x1 x2):=by
 have hck:ck21 awC20 (awS20 x1 x2)=0:=aw20U0
 obtain⟨hc,hbs⟩:=ck21_ok hck
 obtain⟨h1,hb,h4,hv⟩:=plE_ok (aw20Pl x1 x2)
 exact⟨by rw [opE_pl hck,aw20Pl],h1,h4,hv,hc,hbs,List.forall_mem_cons.2 ⟨Nat.le_of_ble_eq_true rfl,List.forall_mem_cons.2 ⟨Nat.le_of_ble_eq_true rfl,fun t h=>by cases h⟩⟩,List.forall_mem_cons.2 ⟨rfl,List.forall_mem_cons.2 ⟨rfl,fun t h=>by cases h⟩⟩⟩
theorem aw20P:potL (colZ awC20 (awS20 x1 x2)) (lens (awS20 x1 x2)) (mvL (awS20 x1 x2).length)=[4,8,6,4,4,0]:=aw20P0
theorem aw20A:alnW awC20 (awS20 x1 x2)=[[0,0],[1,-1]]:=aw20A0
theorem fit20_aw {w:World} (hst:Std w) {b:Nat} (h0:Src w 1 (some ⟨b,0,none⟩) 2 ((awS20 x1 x2).map TS.val)) (h1:Src w 6 x1.1 2 ([tokS sD20,tokS sE20].flatMap Tok.cells)) (h2:Src w 6 x2.1 1 ([tokS sD20].flatMap Tok.cells)):Fit w (some ⟨b,0,none⟩) 2 (awS20 x1 x2) :=
 fit_of hst h0 rfl ⟨List.forall_mem_cons.2 ⟨h1,List.forall_mem_cons.2 ⟨h2,fun t h=>by cases h⟩⟩,List.forall_mem_cons.2 ⟨rfl,List.forall_mem_cons.2 ⟨rfl,fun t h=>by cases h⟩⟩,List.forall_mem_cons.2 ⟨Nat.le_of_ble_eq_true rfl,List.forall_mem_cons.2 ⟨Nat.le_of_ble_eq_true rfl,fun t h=>by cases h⟩⟩⟩ aw20G0
variable (b ca:Nat) (w:World) (hf:Fit w (some ⟨b,0,none⟩) 2 (awS20 x1 x2))
include hf
theorem pot20_aw:Spec Tryz.prog 41 [awC20.val, .slice (some ⟨b,0,none⟩) 2 ca] w (fun v R=>∃ x:Value,True∧v = .tuple #[x, .int .i64 0]∧R=[dat [x] [intsD [4,8,6,4,4,0]]]):=by
 have h:=potentials20_spec awC20 _ 2 ca (awS20 x1 x2) w hf
 rw [(aw20U x1 x2).pot,aw20P x1 x2] at h
 exact h
theorem prs20_aw:Spec Tryz.prog 43 [awC20.val, .slice (some ⟨b,0,none⟩) 2 ca] w (fun v R=>∃ x:Value,True∧v = .tuple #[x, .int .i64 0]∧R=[dat [x] [intsD [4,8,6,4,4,0]]]):=by
 have h:=pairs20_spec awC20 _ 2 ca (awS20 x1 x2) w hf
 rw [(aw20U x1 x2).prs,(aw20U x1 x2).two rfl,aw20P x1 x2] at h
 exact h
theorem tgt20_aw (Ap:Option Addr) (cp:Nat) (hp:Src w 1 Ap 6 (([4,8,6,4,4,0]:List Int).map (Value.int .i64))):Spec Tryz.prog 59 [awC20.val, .slice (some ⟨b,0,none⟩) 2 ca, .slice Ap 6 cp] w (fun v R=>∃ x:Value,True∧v = .tuple #[x, .int .i64 0]∧R=[dat [x] [rowsD [[0,0],[1,-1]]]]):=by
 have h:=tight20_spec awC20 _ 2 ca (awS20 x1 x2) Ap 6 cp [4,8,6,4,4,0] w hf hp rfl (by omega)
 have e:tgtV awC20 (awS20 x1 x2) [4,8,6,4,4,0]=([[0,0],[1,-1]],0):=by
  have h9:=(aw20U x1 x2).tgtPot
  rw [aw20P x1 x2,aw20A x1 x2] at h9
  exact h9
 rw [e] at h
 exact h
theorem plc20_aw (At:Option Addr) (ct:Nat) (hs:Src w 1 At 2 (([1,0]:List Int).map (Value.int .i64))):Spec Tryz.prog 45 [.slice (some ⟨b,0,none⟩) 2 ca, .slice At 2 ct] w (fun v R=>v = .tuple #[.int .i64 2, .int .i64 0]∧R=[]):=by
 have h:=place20_spec (some ⟨b,0,none⟩) 2 ca (awS20 x1 x2) At 2 ct [1,0] w hf hs rfl (by omega)
 have e:plcV (awS20 x1 x2) [1,0]=(2,0):=by
  unfold plcV
  rw [if_neg fun h9=>h9 (aw20Pl x1 x2),if_neg fun h9=>h9 rfl,if_neg (show ¬ ((List.range (awS20 x1 x2).length).any (rngB (awS20 x1 x2) [1,0])=true) from (by decide +kernel:¬ ((List.range 2).any (rngB aw20 [1,0])=true)))]
  rfl
 rw [e] at h
 exact h
end
theorem costs20_spec (w:World):Spec Tryz.prog 112 [] w (fun v R=>v=awC20.val∧R=[]):=by
 refine spec_of sg Tryz.func112 rfl rfl rfl ?_
 repeat' (first|refine d1 ?_|refine dd ?_|(show ∀ _:Nat,T _ _ _ _ _;intro _))
 rename_i b
 exact T_retM (vs:=[awC20.val]) [] ⟨⟨b,_,awC20.cells,rfl,rfl,rfl,rfl,(fun h=>by cases h),rfl,rdAll⟩,trivial⟩ (Hle.none _) ⟨rfl,rfl⟩
theorem two20_spec (w:World):Spec Tryz.prog 113 [] w (fun v R=>∃ g:Nat × Nat × Nat,True∧v = .slice (some ⟨g.1,0,none⟩) 2 2∧R=[blk g.1 ((awS20 (some ⟨g.2.1,0,none⟩,2) (some ⟨g.2.2,0,none⟩,1)).map TS.val) 26,blk g.2.1 ([tokS sD20,tokS sE20].flatMap Tok.cells) 79,blk g.2.2 ([tokS sD20].flatMap Tok.cells) 79]):=by
 refine spec_of sg Tryz.func113 rfl rfl rfl ?_
 repeat' (first|refine d1 ?_|refine dd ?_|(show ∀ _:Nat,T _ _ _ _ _;intro _))
 rename_i b1 b2 b7 b9 b10
 refine T_le (H':=[blk b10 ((awS20 (some ⟨b7,0,none⟩,2) (some ⟨b9,0,none⟩,1)).map TS.val) 26,blk b9 ([tokS sD20].flatMap Tok.cells) 79,blk b7 ([tokS sD20,tokS sE20].flatMap Tok.cells) 79,blk b2 (tokS sE20).cells 79,blk b1 (tokS sD20).cells 79]) (Hle.refl _) ?_
 exact T_retV [blk b10 ((awS20 (some ⟨b7,0,none⟩,2) (some ⟨b9,0,none⟩,1)).map TS.val) 26,blk b7 ([tokS sD20,tokS sE20].flatMap Tok.cells) 79,blk b9 ([tokS sD20].flatMap Tok.cells) 79] rfl Hle.srt ⟨(b10,b7,b9),trivial,rfl,rfl⟩
theorem awake20_spec (w:World) (hst:Std w):Spec Tryz.prog 40 [] w (fun v R=>v = .bool true∧R=[]):=by
 refine spec_of sg Tryz.func40 rfl rfl rfl ?_
 repeat' (first|refine d1 ?_|refine dd ?_|(show T _ (.ops _ (_::_)::_) _ _ _;first|refine T_call rfl rfl rfl rfl rfl (fun w hw=>costs20_spec w) ?_|refine T_callC rfl rfl rfl rfl rfl rfl rfl (fun hg w hw=>costs20_spec w) ?_|refine T_op (OpT.call rfl rfl rfl rfl rfl (fun w hw=>two20_spec w) ?_))|(show T _ (.run _ _ (_::_) _ _::_) _ _ _;first|refine rc rfl rfl rfl rfl rfl rfl rfl (fun w hw=>costs20_spec w) ?_|refine rcG rfl rfl rfl rfl rfl rfl rfl rfl rfl (fun hg w hw=>costs20_spec w) ?_)|(show ∀ _:Nat,T _ _ _ _ _;intro _))
 rintro v R ⟨⟨g,g1,g2⟩,-,rfl,rfl⟩
 dsimp only
 refine T_le (H':=[blk g ((awS20 (some ⟨g1,0,none⟩,2) (some ⟨g2,0,none⟩,1)).map TS.val) 26,blk g1 ([tokS sD20,tokS sE20].flatMap Tok.cells) 79,blk g2 ([tokS sD20].flatMap Tok.cells) 79]) (Hle.refl _) ?_
 refine T_op (OpT.call rfl rfl rfl rfl rfl (fun w hw=>pot20_aw (some ⟨g1,0,none⟩,2) (some ⟨g2,0,none⟩,1) g 2 w (fit20_aw _ _ (hst.cls hw) (Src.own hw rfl) (Src.own hw rfl) (Src.own hw rfl))) ?_)
 rintro v R ⟨xp,-,rfl,rfl⟩
 refine T_le (H':=[dat [xp] [intsD [4,8,6,4,4,0]]]) (Hle.nth 0 rfl) ?_
 refine T_open fun pp hpp=>?_
 repeat' (first|refine d1 ?_|refine dd ?_|(show T _ (.ops _ (_::_)::_) _ _ _;first|refine T_call rfl rfl rfl rfl rfl (fun w hw=>costs20_spec w) ?_|refine T_callC rfl rfl rfl rfl rfl rfl rfl (fun hg w hw=>costs20_spec w) ?_|refine T_op (OpT.call rfl rfl rfl rfl rfl (fun w hw=>two20_spec w) ?_))|(show T _ (.run _ _ (_::_) _ _::_) _ _ _;first|refine rc rfl rfl rfl rfl rfl rfl rfl (fun w hw=>costs20_spec w) ?_|refine rcG rfl rfl rfl rfl rfl rfl rfl rfl rfl (fun hg w hw=>costs20_spec w) ?_)|(show ∀ _:Nat,T _ _ _ _ _;intro _))
 rintro v R ⟨⟨g,g1,g2⟩,-,rfl,rfl⟩
 dsimp only
 refine T_le (H':=[blk g ((awS20 (some ⟨g1,0,none⟩,2) (some ⟨g2,0,none⟩,1)).map TS.val) 26,blk g1 ([tokS sD20,tokS sE20].flatMap Tok.cells) 79,blk g2 ([tokS sD20].flatMap Tok.cells) 79,fz pp]) (Hle.refl _) ?_
 refine T_op (OpT.call rfl rfl rfl rfl rfl (fun w hw=>prs20_aw (some ⟨g1,0,none⟩,2) (some ⟨g2,0,none⟩,1) g 2 w (fit20_aw _ _ (hst.cls hw) (Src.own hw rfl) (Src.own hw rfl) (Src.own hw rfl))) ?_)
 rintro v R ⟨xq,-,rfl,rfl⟩
 refine T_le (H':=[dat [xq] [intsD [4,8,6,4,4,0]],blk g ((awS20 (some ⟨g1,0,none⟩,2) (some ⟨g2,0,none⟩,1)).map TS.val) 26,blk g1 ([tokS sD20,tokS sE20].flatMap Tok.cells) 79,blk g2 ([tokS sD20].flatMap Tok.cells) 79,fz pp]) (Hle.refl _) ?_
 refine T_le (H':=[dat [xq] [intsD [4,8,6,4,4,0]],fz pp]) Hle.srt ?_
 refine T_open fun pq hqq=>?_
 repeat' (first|refine d1 ?_|refine dd ?_|(show T _ (.ops _ (_::_)::_) _ _ _;first|refine T_call rfl rfl rfl rfl rfl (fun w hw=>costs20_spec w) ?_|refine T_callC rfl rfl rfl rfl rfl rfl rfl (fun hg w hw=>costs20_spec w) ?_|refine T_op (OpT.call rfl rfl rfl rfl rfl (fun w hw=>two20_spec w) ?_))|(show T _ (.run _ _ (_::_) _ _::_) _ _ _;first|refine rc rfl rfl rfl rfl rfl rfl rfl (fun w hw=>costs20_spec w) ?_|refine rcG rfl rfl rfl rfl rfl rfl rfl rfl rfl (fun hg w hw=>costs20_spec w) ?_)|(show ∀ _:Nat,T _ _ _ _ _;intro _))
 rintro v R ⟨⟨g,g1,g2⟩,-,rfl,rfl⟩
 dsimp only
 refine T_le (H':=[blk g ((awS20 (some ⟨g1,0,none⟩,2) (some ⟨g2,0,none⟩,1)).map TS.val) 26,blk g1 ([tokS sD20,tokS sE20].flatMap Tok.cells) 79,blk g2 ([tokS sD20].flatMap Tok.cells) 79,fz pq,fz pp]) (Hle.refl _) ?_
 repeat' (first|refine d1 ?_|refine dd ?_|(show T _ (.ops _ (_::_)::_) _ _ _;first|refine T_op (OpT.litW rfl rfl rfl rfl rfl rfl rfl rfl rfl rfl rfl (fun b4=>?_))|refine T_op (OpT.call rfl rfl rfl rfl rfl (fun w hw=>tgt20_aw (some ⟨g1,0,none⟩,2) (some ⟨g2,0,none⟩,1) g 2 w (fit20_aw _ _ (hst.cls hw) (Src.own hw rfl) (Src.own hw rfl) (Src.own hw rfl)) (some ⟨_,0,none⟩) 6 (Src.own hw rfl)) ?_))|(show ∀ _:Nat,T _ _ _ _ _;intro _))
 rintro v R ⟨xc,-,rfl,rfl⟩
 rename_i b4
 refine T_le (H':=[dat [xc] [rowsD [[0,0],[1,-1]]],blk b4 (([4,8,6,4,4,0]:List Int).map (Value.int .i64)) 3,blk g ((awS20 (some ⟨g1,0,none⟩,2) (some ⟨g2,0,none⟩,1)).map TS.val) 26,blk g1 ([tokS sD20,tokS sE20].flatMap Tok.cells) 79,blk g2 ([tokS sD20].flatMap Tok.cells) 79,fz pq,fz pp]) (Hle.refl _) ?_
 refine T_le (H':=[dat [xc] [rowsD [[0,0],[1,-1]]],fz pq,fz pp]) Hle.srt ?_
 refine T_open fun pk hkk=>?_
 repeat' (first|refine d1 ?_|refine dd ?_|(show T _ (.ops _ (_::_)::_) _ _ _;refine T_op (OpT.call rfl rfl rfl rfl rfl (fun w hw=>two20_spec w) ?_))|(show ∀ _:Nat,T _ _ _ _ _;intro _))
 rintro v R ⟨⟨g,g1,g2⟩,-,rfl,rfl⟩
 dsimp only
 refine T_le (H':=[blk g ((awS20 (some ⟨g1,0,none⟩,2) (some ⟨g2,0,none⟩,1)).map TS.val) 26,blk g1 ([tokS sD20,tokS sE20].flatMap Tok.cells) 79,blk g2 ([tokS sD20].flatMap Tok.cells) 79,fz pk,fz pq,fz pp]) (Hle.refl _) ?_
 repeat' (first|refine d1 ?_|refine dd ?_|(show T _ (.ops _ (_::_)::_) _ _ _;first|refine T_op (OpT.litW rfl rfl rfl rfl rfl rfl rfl rfl rfl rfl rfl (fun b5=>?_))|refine T_call rfl rfl rfl rfl rfl (fun w hw=>plc20_aw (some ⟨g1,0,none⟩,2) (some ⟨g2,0,none⟩,1) g 2 w (fit20_aw _ _ (hst.cls hw) (Src.own hw rfl) (Src.own hw rfl) (Src.own hw rfl)) (some ⟨_,0,none⟩) 2 (Src.own hw rfl)) ?_|refine T_callC rfl rfl rfl rfl rfl rfl rfl (fun hg w hw=>plc20_aw (some ⟨g1,0,none⟩,2) (some ⟨g2,0,none⟩,1) g 2 w (fit20_aw _ _ (hst.cls hw) (Src.own hw rfl) (Src.own hw rfl) (Src.own hw rfl)) (some ⟨_,0,none⟩) 2 (Src.own hw rfl)) ?_|refine T_op (OpT.sure (p:=true) rfl rfl rfl (OpT.litW rfl rfl rfl rfl rfl rfl rfl rfl rfl rfl rfl (fun _=>?_)))|refine T_call rfl rfl rfl rfl rfl (fun w hw=>equalI_spec xp _ [4,8,6,4,4,0] [4,8,6,4,4,0] w (hpp.own hw) (rd_ints (n:=6) (r:=[4,8,6,4,4,0]) (Src.own hw rfl) (by omega))) ?_|refine T_callC rfl rfl rfl rfl rfl rfl rfl (fun hg w hw=>equalI_spec xp _ [4,8,6,4,4,0] [4,8,6,4,4,0] w (hpp.own hw) (rd_ints (n:=6) (r:=[4,8,6,4,4,0]) (Src.own hw rfl) (by omega))) ?_|refine T_call rfl rfl rfl rfl rfl (fun w hw=>equalI_spec xq xp [4,8,6,4,4,0] [4,8,6,4,4,0] w (hqq.own hw) (hpp.own hw)) ?_|refine T_callC rfl rfl rfl rfl rfl rfl rfl (fun hg w hw=>equalI_spec xq xp [4,8,6,4,4,0] [4,8,6,4,4,0] w (hqq.own hw) (hpp.own hw)) ?_)|(show T _ (.run _ _ (_::_) _ _::_) _ _ _;first|refine rc rfl rfl rfl rfl rfl rfl rfl (fun w hw=>plc20_aw (some ⟨g1,0,none⟩,2) (some ⟨g2,0,none⟩,1) g 2 w (fit20_aw _ _ (hst.cls hw) (Src.own hw rfl) (Src.own hw rfl) (Src.own hw rfl)) (some ⟨_,0,none⟩) 2 (Src.own hw rfl)) ?_|refine rcG rfl rfl rfl rfl rfl rfl rfl rfl rfl (fun hg w hw=>plc20_aw (some ⟨g1,0,none⟩,2) (some ⟨g2,0,none⟩,1) g 2 w (fit20_aw _ _ (hst.cls hw) (Src.own hw rfl) (Src.own hw rfl) (Src.own hw rfl)) (some ⟨_,0,none⟩) 2 (Src.own hw rfl)) ?_|refine rc rfl rfl rfl rfl rfl rfl rfl (fun w hw=>equalI_spec xp _ [4,8,6,4,4,0] [4,8,6,4,4,0] w (hpp.own hw) (rd_ints (n:=6) (r:=[4,8,6,4,4,0]) (Src.own hw rfl) (by omega))) ?_|refine rcG rfl rfl rfl rfl rfl rfl rfl rfl rfl (fun hg w hw=>equalI_spec xp _ [4,8,6,4,4,0] [4,8,6,4,4,0] w (hpp.own hw) (rd_ints (n:=6) (r:=[4,8,6,4,4,0]) (Src.own hw rfl) (by omega))) ?_|refine rc rfl rfl rfl rfl rfl rfl rfl (fun w hw=>equalI_spec xq xp [4,8,6,4,4,0] [4,8,6,4,4,0] w (hqq.own hw) (hpp.own hw)) ?_|refine rcG rfl rfl rfl rfl rfl rfl rfl rfl rfl (fun hg w hw=>equalI_spec xq xp [4,8,6,4,4,0] [4,8,6,4,4,0] w (hqq.own hw) (hpp.own hw)) ?_)|(show ∀ _:Nat,T _ _ _ _ _;intro _))
 rename_i c1 c2 c3
 refine T_le (H':=[blk c3 [.slice (some ⟨c1,0,none⟩) 2 2, .slice (some ⟨c2,0,none⟩) 2 2] 40,blk c2 [.int .i64 1, .int .i64 (-1)] 3,blk c1 [.int .i64 0, .int .i64 0] 3,fz pk]) Hle.srtV ?_
 refine T_callC rfl rfl rfl rfl rfl rfl rfl (fun _ w hw=>sameCols19_spec xc _ [[0,0],[1,-1]] [[0,0],[1,-1]] w (hkk.own hw) (rd_lit (n:=2) (Src.own (b:=c3) hw rfl) (by omega) ((rd_ints (b:=c1) (n:=2) (r:=[0,0]) (Src.own hw rfl) (by omega)).append (rd_ints (b:=c2) (n:=2) (r:=[1,-1]) (Src.own hw rfl) (by omega))))) ?_
 repeat' (first|refine d1 ?_|refine dd ?_|(show ∀ _:Nat,T _ _ _ _ _;intro _)|(show T _ (.code .ret::_) _ _ _;refine T_retV [] rfl (Hle.none _) ⟨rfl,rfl⟩))
end Go.Proofs.YtmenjpmikhajfaaGreatDoor
namespace Go.Proofs.YtmenjpmikhajfaaGreatDoor
open Go.RowKit Go.Shelf

theorem run_eqBool {P:Program} {t:TypeId} (hf:P.underlying t=some .bool) (a b:Bool) (w:World):(Op.equal t (.bool a) (.bool b)).run P w = .ok (a == b) w:=by
 show (Op.equalIn (9999+1) t (.bool a) (.bool b)).run P w=_
 rw [Op.equalIn]
 simp only [Sem.run_bind,run_underlying hf,Result.andThen_ok]
 rfl
theorem run_eqOpB {P:Program} {t:TypeId} (hf:P.underlying t=some .bool) (x y:Operand) (a b:Bool) (w:World):((do eqGuard .eql t x y (.bool a) (.bool b);binOp .eql t (.bool a) (.bool b):Sem Value)).run P w = .ok (.bool (a == b)) w:=by
 show ((do pure PUnit.unit;pure (.bool (← Op.equal t (.bool a) (.bool b))):Sem Value)).run P w=_
 show ((do pure (.bool (← Op.equal t (.bool a) (.bool b))):Sem Value)).run P w=_
 rw [Sem.run_bind,run_eqBool hf];rfl
def evEqB (S:Sig) (env:Env) (ec:EnvC) (G:GId) (o:Oper):Option (Bool × Bool) :=
 match o.op with
 | .binOp op t x y _=>match S.ty t,evX env ec G x,evX env ec G y,op with
  | some ⟨.bool,_,_,_⟩,some (.bool a),some (.bool b), .eql=>some (a,b)
  | _,_,_,_=>none
 | _=>none
theorem Val.eqB {C:Cx} {all:Array Oper} {o:Oper} {env:Env} {ec:EnvC} {Hs:List HA} {G:GId} {p r:Bool} (hv:evEqB C.S env ec G o=some (p,r)):Val C all o env ec Hs G (.bool (p == r)):=by
 intro a w ha _ hH
 obtain⟨dst,op,ty,pos,aft,gd⟩:=o
 unfold evEqB at hv
 dsimp only at hv
 split at hv
 ·rename_i op t x y t2
  split at hv
  ·rename_i ht hx hy
   cases hv
   have hf:=(Sig.tyOk ht).fits
   simp only [Ty.fits] at hf
   simp only [execOp,evX_spec ha hH hx,evX_spec ha hH hy]
   rw [Sem.run_bind,run_eqOpB hf];rfl
  ·cases hv
 ·cases hv
end Go.Proofs.YtmenjpmikhajfaaGreatDoor
