/- Joined texts of this claim, part 5. -/
import Derived.Test.YtblnhdnogjijiaaGreatDoorU4
set_option linter.unusedSectionVars false
set_option linter.unusedVariables false
set_option linter.unusedSimpArgs false
namespace Go.Proofs.YtblnhdnogjijiaaGreatDoor
open Go.RowKit Go.Shelf Go.Proofs
set_option maxRecDepth 100000
set_option maxHeartbeats 1000000

theorem moves19_fn (pg p:Nat) (Am:Option Addr) (nm cm:Nat) (w:World):Spec Tryz.prog 103 [.pointer (some ⟨pg,0,none⟩), .slice Am nm cm, .int .i64 (p:Nat)] w
  (fun v R=>∃ g:Nat × Nat × Nat,True∧v = .func (.func 161) #[] #[.pointer (some ⟨g.1,0,none⟩), .pointer (some ⟨g.2.1,0,none⟩), .pointer (some ⟨g.2.2,0,none⟩)]∧R=[blk g.2.1 [.int .i64 (p:Nat)] 3,blk g.2.2 [.slice Am nm cm] 30,blk g.1 [.pointer (some ⟨pg,0,none⟩)] 123]):=by
 refine spec_of sg Tryz.func103 rfl rfl rfl ?_
 refine T_op (OpT.box (cs:=[.pointer (some ⟨pg,0,none⟩)]) rfl rfl rfl rfl rfl rfl rfl (fun g1=>?_))
 refine T_op (OpT.box (cs:=[.slice Am nm cm]) rfl rfl rfl rfl rfl rfl rfl (fun g3=>?_))
 refine T_op (OpT.box (cs:=[.int .i64 (p:Nat)]) rfl rfl rfl rfl rfl rfl rfl (fun g2=>?_))
 repeat' (first|refine d1 ?_|refine dd ?_|(show ∀ _:Nat,T _ _ _ _ _;intro _)|(show T _ (.code .ret::_) _ _ _;refine T_retV _ rfl (Hle.refl _) ⟨(g1,g2,g3),trivial,rfl,rfl⟩))
def posL (ls v:List Nat) (Ms:List (List Nat)):List (List Nat):=Ms.filter (possM ls v)
theorem posL_yes {ls v m:List Nat} {Ms:List (List Nat)} {i:Nat} (h:Ms[i]?=some m) (hp:possM ls v m=true):posL ls v (Ms.take (i+1))=posL ls v (Ms.take i)++[m]:=by
 unfold posL
 rw [take_snoc _ _ _ h,List.filter_append,List.filter_cons,hp];rfl
theorem posL_no {ls v m:List Nat} {Ms:List (List Nat)} {i:Nat} (h:Ms[i]?=some m) (hp:possM ls v m=false):posL ls v (Ms.take (i+1))=posL ls v (Ms.take i):=by
 unfold posL
 rw [take_snoc _ _ _ h,List.filter_append,List.filter_cons,hp]
 exact List.append_nil _
theorem posL_get {ls v m:List Nat} {Ms:List (List Nat)} {i:Nat} (h:Ms[i]?=some m) (hp:possM ls v m=true):(posL ls v Ms)[(posL ls v (Ms.take i)).length]?=some m:=by
 have h1:posL ls v Ms=posL ls v (Ms.take (i+1))++posL ls v (Ms.drop (i+1)):=by
  unfold posL
  rw [← List.filter_append,List.take_append_drop]
 rw [h1,posL_yes h hp,List.append_assoc,List.getElem?_append_right (Nat.le_refl _),Nat.sub_self];rfl
def QM (n:Nat) (ls v:List Nat) (j:Nat) (x:List Value) (B:List HA):Prop :=
 ∃ m b,(posL ls v (mvL n))[j]?=some m∧x=[.slice (some ⟨b,0,none⟩) n n, .int .i64 (numL ls (toM v m):Nat)]∧B=[row 3 1 (some ⟨b,0,none⟩) n n ((colT v m).map (Value.int .i64))]
theorem colMv_snoc (v:List Nat):∀ (m:List Nat) (s:Nat) (c:List Int),colMv v (m++[s]) c=(colMv v m c).set s (v.getD s 0:Nat)
 | [],s,c=>rfl
 | u::m,s,c=>by
  show colMv v (m++[s]) _=_
  rw [colMv_snoc v m s];rfl
theorem possM_snoc (ls v m:List Nat) (s:Nat):possM ls v (m++[s])=(possM ls v m && decide (v.getD s 0<ls.getD s 0)):=by
 unfold possM
 rw [List.all_append];simp
theorem sum_stp {ls:List Nat}:∀ m:List Nat,(m.map (stpL ls)).sum≤m.length * volL ls
 | []=>Nat.zero_le _
 | s::m=>by
  have h:=sum_stp (ls:=ls) m
  have h2:stpL ls s≤volL ls:=by
   by_cases hs:s<ls.length
   ·exact stpL_le hs
   ·rw [stpL_none (by omega)];exact Nat.zero_le _
  rw [List.map_cons,List.sum_cons,List.length_cons,Nat.add_mul];omega
theorem atV_get (v:List Nat) {s:Nat} (hs:s<4):(atV v)[s]?=some (.int .i64 (v.getD s 0:Nat)):=by
 obtain rfl|rfl|rfl|rfl:s=0∨s=1∨s=2∨s=3:=by omega
 all_goals rfl
theorem moves_iter {w0:World} {A:Option Addr} {n ca:Nat} {l:List TS} (hg:Grp w0 A n l) (h1:1≤n) (h4:n≤4) (hv:volL (lens l)≤65536) {p:Nat} (hp:p<volL (lens l)) (pg p1 p2 p3:Nat) {M:Value} {pm:Frag} (hM:Rd (fr pm) [M] [rowsD ((mvL n).map intN)]) :
  IterO Tryz.prog w0 161 [] [.pointer (some ⟨p1,0,none⟩), .pointer (some ⟨p2,0,none⟩), .pointer (some ⟨p3,0,none⟩)]
   [blk p2 [.int .i64 (p:Nat)] 3,blk p3 [M] 30,blk p1 [.pointer (some ⟨pg,0,none⟩)] 123,blk pg (gridL A n ca (lens l) 0) 129,fz pm]
   (QM n (lens l) (atL (lens l) p)) (posL (lens l) (atL (lens l) p) (mvL n)).length:=by
 have hn:=hg.hn
 have hll:=lens_len l
 have hvl:=atL_len (lens l) p
 have hmo:=mvL_ok h1 h4
 obtain⟨Am,cm,csm,rfl,hm1,hm2,hml,hmr,hrows⟩:=hM.tab
 rw [List.length_map] at hm1 hml hmr
 have hm15:(mvL n).length≤15:=by
  obtain rfl|rfl|rfl|rfl:n=1∨n=2∨n=3∨n=4:=by omega
  all_goals decide
 refine iterO_of sg Tryz.func161 rfl rfl rfl ?_
 intro l' GQ X Hj hY h0
 rw [List.length_map]
 show T _ _ _ _ (blk p2 [.int .i64 (p:Nat)] 3::blk p3 [.slice Am (mvL n).length cm] 30::blk p1 [.pointer (some ⟨pg,0,none⟩)] 123::blk pg (gridL A n ca (lens l) 0) 129::fz pm::Hj)
 repeat' (first|refine d1 ?_|refine dd ?_|(show T _ (.ops _ (_::_)::_) _ _ _;first|refine T_call rfl rfl rfl rfl rfl (fun w hw=>at19_spec A n ca l pg p w (hg.cls hw) h4 hv hp (rdAll w hw)) ?_|refine T_callC rfl rfl rfl rfl rfl rfl rfl (fun hg w hw=>at19_spec A n ca l pg p w (hg.cls hw) h4 hv hp (rdAll w hw)) ?_)|(show T _ (.run _ _ (_::_) _ _::_) _ _ _;first|refine rc rfl rfl rfl rfl rfl rfl rfl (fun w hw=>at19_spec A n ca l pg p w (hg.cls hw) h4 hv hp (rdAll w hw)) ?_|refine rcG rfl rfl rfl rfl rfl rfl rfl rfl rfl (fun hg w hw=>at19_spec A n ca l pg p w (hg.cls hw) h4 hv hp (rdAll w hw)) ?_)|(show ∀ _:Nat,T _ _ _ _ _;intro _))
 rename_i p5
 refine T_loopX (fun s:Nat × List HA=>[(18, .int .i64 (s.1:Nat))]) (fun s=>blk p5 (atV (atL (lens l) p)) 127::blk p2 [.int .i64 (p:Nat)] 3::blk p3 [.slice Am (mvL n).length cm] 30::blk p1 [.pointer (some ⟨pg,0,none⟩)] 123::blk pg (gridL A n ca (lens l) 0) 129::fz pm::s.2) (fun s=>s.1≤(mvL n).length∧GQ (posL (lens l) (atL (lens l) p) ((mvL n).take s.1)).length s.2) (fun s=>(mvL n).length - s.1) (0,Hj) ⟨Nat.zero_le _,h0⟩ ?_
 rintro⟨i,H1⟩ ⟨hi,hG⟩
 dsimp only at hi hG ⊢
 repeat' (first|refine d1 ?_|refine dd ?_|(show ∀ _:Nat,T _ _ _ _ _;intro _))
 refine T_if rfl (fun h=>?_) (fun h=>?_)
 ·simp only [decide_eq_true_eq] at h
  obtain⟨m,hm⟩:∃ m,(mvL n)[i]?=some m:=⟨_,List.getElem?_eq_getElem (by omega)⟩
  have hmm:=List.mem_of_getElem? hm
  have hml4:=pigeon2 n m (hmo.nd m hmm) (hmo.lt m hmm)
  obtain⟨b,o,rfl,hrd⟩:=hmr (by omega)
  obtain⟨Ar,capr,hcs,hr1,hr2,hAr⟩:=hrows.tabRow (i:=i) (r:=intN m) (by rw [List.getElem?_map,hm];rfl)
  rw [show (intN m).length=m.length by unfold intN;rw [List.length_map]] at hcs hr1 hAr
  have hmpos:0<m.length:=List.length_pos_iff.2 (hmo.ne m hmm)
  obtain⟨br,orr,rfl,hAr9⟩:=hAr hmpos
  repeat' (first|refine d1 ?_|(show T _ (.ops _ (_::_)::_) _ _ _;first|refine T_val rfl (Val.load rfl (fun hg=>rdFz (p:=pm) (u := .slice (some ⟨br,orr,none⟩) m.length capr) (b:=b) (by rw [off1];exact hrd i _ hcs))) rfl rfl rfl ?_|refine T_valC rfl (Val.load rfl (fun hg=>rdFz (p:=pm) (u := .slice (some ⟨br,orr,none⟩) m.length capr) (b:=b) (by rw [off1];exact hrd i _ hcs))) rfl rfl rfl rfl rfl ?_)|(show T _ (.run _ _ (_::_) _ _::_) _ _ _;first|refine rv rfl rfl rfl (Val.load rfl (fun hg=>rdFz (p:=pm) (u := .slice (some ⟨br,orr,none⟩) m.length capr) (b:=b) (by rw [off1];exact hrd i _ hcs))) rfl rfl rfl ?_|refine rg rfl rfl rfl (Val.load rfl (fun hg=>rdFz (p:=pm) (u := .slice (some ⟨br,orr,none⟩) m.length capr) (b:=b) (by rw [off1];exact hrd i _ hcs))) rfl rfl rfl rfl rfl ?_)|(show ∀ _:Nat,T _ _ _ _ _;intro _))
  refine rsH [blk p5 (atV (atL (lens l) p)) 127,blk p2 [.int .i64 (p:Nat)] 3,blk p3 [.slice (some ⟨b,o,none⟩) (mvL n).length cm] 30,blk p1 [.pointer (some ⟨pg,0,none⟩)] 123,blk pg (gridL A n ca (lens l) 0) 129,fz pm] 1000 [1,2,3,4,5,7,0,6,8,9,10] ?_
  repeat' (first|refine d1 ?_|refine dd ?_|(show T _ (.ops _ (_::_)::_) _ _ _;first|refine T_val rfl (Val.nilc rfl) rfl rfl rfl ?_|refine T_valC rfl (Val.nilc rfl) rfl rfl rfl rfl rfl ?_)|(show T _ (.run _ _ (_::_) _ _::_) _ _ _;first|refine rv rfl rfl rfl (Val.nilc rfl) rfl rfl rfl ?_|refine rg rfl rfl rfl (Val.nilc rfl) rfl rfl rfl rfl rfl ?_|refine ro rfl rfl (OpT.litW rfl rfl rfl rfl rfl rfl rfl rfl rfl rfl rfl (fun b3=>⟨fun _=>Hle.sub,?_⟩))|refine ro rfl rfl (OpT.call rfl rfl rfl rfl rfl (fun w hw=>repeatI_spec (-1) (some ⟨_,0,none⟩) 1 n w (Src.own hw rfl) (by omega)) (fun u R hR=>?_)))|(show ∀ _:Nat,T _ _ _ _ _;intro _))
  obtain⟨bz,-,rfl,rfl⟩:=hR
  refine ⟨fun _=>(Hle.tail _ _).trans ((Hle.tail _ _).trans (Hle.append_left (A:=[blk p5 (atV (atL (lens l) p)) 127,blk p2 [.int .i64 (p:Nat)] 3,blk p3 [.slice (some ⟨b,o,none⟩) (mvL n).length cm] 30,blk p1 [.pointer (some ⟨pg,0,none⟩)] 123,blk pg (gridL A n ca (lens l) 0) 129,fz pm]) H1)),?_⟩
  show T _ _ _ _ (row 3 1 (some ⟨bz,0,none⟩) n n (List.replicate n (.int .i64 (-1)))::blk _ _ _::blk p5 (atV (atL (lens l) p)) 127::blk p2 [.int .i64 (p:Nat)] 3::blk p3 [.slice (some ⟨b,o,none⟩) (mvL n).length cm] 30::blk p1 [.pointer (some ⟨pg,0,none⟩)] 123::blk pg (gridL A n ca (lens l) 0) 129::fz pm::H1)
  repeat' (first|refine d1 ?_|refine dd ?_|(show ∀ _:Nat,T _ _ _ _ _;intro _))
  have hz0:List.replicate n (Value.int .i64 (-1))=(colMv (atL (lens l) p) (m.take 0) (List.replicate n (-1))).map (Value.int .i64):=by rw [List.take_zero];unfold colMv;rw [List.map_replicate]
  rw [hz0]
  refine T_loopX (fun s:Nat=>[(32, .int .i64 (s:Nat)),(9, .int .i64 ((p+((m.take s).map (stpL (lens l))).sum:Nat):Int)),(10, .bool (possM (lens l) (atL (lens l) p) (m.take s)))]) (fun s=>row 3 1 (some ⟨bz,0,none⟩) n n ((colMv (atL (lens l) p) (m.take s) (List.replicate n (-1))).map (Value.int .i64))::blk p5 (atV (atL (lens l) p)) 127::blk p2 [.int .i64 (p:Nat)] 3::blk p3 [.slice (some ⟨b,o,none⟩) (mvL n).length cm] 30::blk p1 [.pointer (some ⟨pg,0,none⟩)] 123::blk pg (gridL A n ca (lens l) 0) 129::fz pm::H1) (fun s=>s≤m.length) (fun s=>m.length - s) 0 (Nat.zero_le _) ?_ (hG:=Hle.drop2 _ _ _)
  rintro s hs
  repeat' (first|refine d1 ?_|refine dd ?_|(show ∀ _:Nat,T _ _ _ _ _;intro _))
  refine T_if rfl (fun h5=>?_) (fun h5=>?_)
  ·simp only [decide_eq_true_eq] at h5
   obtain⟨u,hu⟩:∃ u,m[s]?=some u:=⟨_,List.getElem?_eq_getElem (by omega)⟩
   have hun:=hmo.lt m hmm u (List.mem_of_getElem? hu)
   have htk:=take_snoc _ _ _ hu
   obtain⟨ba,oa,rfl⟩:=hg.hs.base (by omega)
   obtain⟨t,ht,htm,htr⟩:=hg.get (k:=u) hun
   have htn:=hg.nb t htm
   have hsl:=stpL_le (ls:=lens l) (s:=u) (by omega)
   have hsum:=sum_stp (ls:=lens l) (m.take s)
   have hlt4:(m.take s).length≤4:=by rw [List.length_take];omega
   have hms:=Nat.mul_le_mul hlt4 hv
   have hst:∀ w,RdC w pg 0 (gridL (some ⟨ba,oa,none⟩) n ca (lens l) 0)→RdC w pg (0+1+(u:Int).toNat * 1) [.int .i64 (stpL (lens l) u:Nat)]:=fun w hpg=>RdC.one (by have:=hpg (1+u) _ (gridL_stp _ _ _ _ (by omega));rw [show 0+1+(u:Int).toNat * 1=0+(1+u) by omega];exact this)
   have hat:∀ w,RdC w p5 0 (atV (atL (lens l) p))→RdC w p5 (0+(u:Int).toNat * 1) [.int .i64 ((atL (lens l) p).getD u 0:Nat)]:=fun w hp5=>RdC.one (by have:=hp5 u _ (atV_get _ (by omega));rw [show 0+(u:Int).toNat * 1=0+u by omega];exact this)
   have hmu:fr pm br (orr+(s:Int).toNat * 1)=some (.int .i64 (u:Nat)):=by rw [off1];exact hAr9 s _ (by unfold intN;rw [List.getElem?_map,hu];rfl)
   repeat' (first|refine d1 ?_|refine dd ?_|(show T _ (.ops _ (_::_)::_) _ _ _;first|refine T_val rfl (Val.nilc rfl) rfl rfl rfl ?_|refine T_valC rfl (Val.nilc rfl) rfl rfl rfl rfl rfl ?_|refine T_val rfl (Val.load rfl (fun hg=>rdFz (p:=pm) hmu)) rfl rfl rfl ?_|refine T_valC rfl (Val.load rfl (fun hg=>rdFz (p:=pm) hmu)) rfl rfl rfl rfl rfl ?_|refine T_val rfl (Val.load rfl (fun hg=>(fun w hw=>hat w (rdAll w hw)))) rfl rfl rfl ?_|refine T_valC rfl (Val.load rfl (fun hg=>(fun w hw=>hat w (rdAll w hw)))) rfl rfl rfl rfl rfl ?_|refine T_val rfl (Val.load rfl (fun hg=>(fun w hw=>hst w (rdAll w hw)))) rfl rfl rfl ?_|refine T_valC rfl (Val.load rfl (fun hg=>(fun w hw=>hst w (rdAll w hw)))) rfl rfl rfl rfl rfl ?_|refine T_op (OpT.storeR (us:=[.int .i64 ((atL (lens l) p).getD u 0:Nat)]) rfl rfl rfl rfl rfl rfl (by show 0+(u:Int).toNat * 1+1≤n * 1;omega) ?_))|(show T _ (.run _ _ (_::_) _ _::_) _ _ _;first|refine rv rfl rfl rfl (Val.nilc rfl) rfl rfl rfl ?_|refine rg rfl rfl rfl (Val.nilc rfl) rfl rfl rfl rfl rfl ?_|refine rv rfl rfl rfl (Val.load rfl (fun hg=>rdFz (p:=pm) hmu)) rfl rfl rfl ?_|refine rg rfl rfl rfl (Val.load rfl (fun hg=>rdFz (p:=pm) hmu)) rfl rfl rfl rfl rfl ?_|refine rv rfl rfl rfl (Val.load rfl (fun hg=>(fun w hw=>hat w (rdAll w hw)))) rfl rfl rfl ?_|refine rg rfl rfl rfl (Val.load rfl (fun hg=>(fun w hw=>hat w (rdAll w hw)))) rfl rfl rfl rfl rfl ?_|refine rv rfl rfl rfl (Val.load rfl (fun hg=>(fun w hw=>hst w (rdAll w hw)))) rfl rfl rfl ?_|refine rg rfl rfl rfl (Val.load rfl (fun hg=>(fun w hw=>hst w (rdAll w hw)))) rfl rfl rfl rfl rfl ?_)|(show ∀ _:Nat,T _ _ _ _ _;intro _))
   have h9:((p+((m.take (s+1)).map (stpL (lens l))).sum:Nat):Int)=((p+((m.take s).map (stpL (lens l))).sum:Nat):Int)+(stpL (lens l) u:Nat):=by rw [htk,List.map_append,List.sum_append];simp;omega
   have hgl:(lens l).getD u 0=t.n:=by rw [List.getD_eq_getElem?_getD,lens_get ht];rfl
   have h10:possM (lens l) (atL (lens l) p) (m.take (s+1))=(possM (lens l) (atL (lens l) p) (m.take s) && decide ((((atL (lens l) p).getD u 0:Nat):Int)<(t.n:Nat))):=by
    rw [htk,possM_snoc,hgl,decide_eq_decide.2 (show (atL (lens l) p).getD u 0<t.n↔(((atL (lens l) p).getD u 0:Nat):Int)<(t.n:Nat) by omega)]
   refine T_backX (s+1) (by omega) (by omega) (hE:=⟨rfl,by rw [h9];rfl,by rw [h10];rfl,trivial⟩) (hG:=?_)
   rw [htk,colMv_snoc,List.map_set,show 0+(u:Int).toNat * 1=u by omega]
   exact Hle.refl _
  ·simp only [decide_eq_false_iff_not] at h5
   obtain rfl:s=m.length:=by omega
   rw [List.take_length]
   have hnm:p+(m.map (stpL (lens l))).sum=numL (lens l) (toM (atL (lens l) p) m):=by rw [toM_num _ _ _ hvl (fun s hs=>by rw [hvl,hll,hn];exact hmo.lt m hmm s hs),num_at _ _ hp]
   have hct:colMv (atL (lens l) p) m (List.replicate n (-1))=colT (atL (lens l) p) m:=by unfold colT;rw [hvl,hll,hn]
   rw [hnm,hct]
   cases hpo:possM (lens l) (atL (lens l) p) m with
   | true =>
    have hpg:=posL_get hm hpo
    have hy:=posL_yes hm hpo
    repeat' (first|refine d1 ?_|refine dd ?_|(show T _ (.ops _ (_::_)::_) _ _ _;refine T_op (OpT.yieldO [row 3 1 (some ⟨bz,0,none⟩) n n ((colT (atL (lens l) p) m).map (Value.int .i64))] [blk p5 (atV (atL (lens l) p)) 127,blk p2 [.int .i64 (p:Nat)] 3,blk p3 [.slice (some ⟨b,o,none⟩) (mvL n).length cm] 30,blk p1 [.pointer (some ⟨pg,0,none⟩)] 123,blk pg (gridL A n ca (lens l) 0) 129,fz pm] hY rfl rfl (Holds.of1 rfl rfl rfl) rfl rfl rfl (List.getElem?_eq_some_iff.1 hpg).1 ⟨m,bz,hpg,rfl,rfl⟩ hG (Hle.comm [_,_,_,_,_,_,_] H1) (fun H2 hG2=>?_) (fun Y hX=>?_)))|(show ∀ _:Nat,T _ _ _ _ _;intro _))
    ·show T _ _ _ _ (blk p5 (atV (atL (lens l) p)) 127::blk p2 [.int .i64 (p:Nat)] 3::blk p3 [.slice (some ⟨b,o,none⟩) (mvL n).length cm] 30::blk p1 [.pointer (some ⟨pg,0,none⟩)] 123::blk pg (gridL A n ca (lens l) 0) 129::fz pm::H2)
     repeat' (first|refine d1 ?_|refine dd ?_|(show ∀ _:Nat,T _ _ _ _ _;intro _))
     refine T_if rfl (fun h3=>by exfalso;simp at h3) (fun _=>?_)
     repeat' (first|refine d1 ?_|refine dd ?_|(show ∀ _:Nat,T _ _ _ _ _;intro _))
     exact T_backX (i+1,H2) ⟨by dsimp only;omega,by dsimp only;rw [hy,List.length_append];exact hG2⟩ (by dsimp only;omega)
    ·show T _ _ _ _ (blk p5 (atV (atL (lens l) p)) 127::blk p2 [.int .i64 (p:Nat)] 3::blk p3 [.slice (some ⟨b,o,none⟩) (mvL n).length cm] 30::blk p1 [.pointer (some ⟨pg,0,none⟩)] 123::blk pg (gridL A n ca (lens l) 0) 129::fz pm::Y)
     repeat' (first|refine d1 ?_|refine dd ?_|(show ∀ _:Nat,T _ _ _ _ _;intro _))
     refine T_if rfl (fun _=>?_) (fun h3=>by exfalso;simp at h3)
     repeat' (first|refine d1 ?_|refine dd ?_|(show ∀ _:Nat,T _ _ _ _ _;intro _)|(show T _ (.code .ret::_) _ _ _;refine T_istop rfl Y hX (Hle.tail _ _)))
   | false =>
    have hy:=posL_no hm hpo
    repeat' (first|refine d1 ?_|refine dd ?_|(show T _ (.ops _ (_::_)::_) _ _ _;refine T_op (OpT.never (.bool false) rfl (fun hg9=>by have h10:(false:Bool)=true:=hg9.1;cases h10) rfl rfl rfl rfl rfl ?_))|(show ∀ _:Nat,T _ _ _ _ _;intro _))
    refine T_if rfl (fun h3=>by exfalso;simp at h3) (fun _=>?_)
    repeat' (first|refine d1 ?_|refine dd ?_|(show ∀ _:Nat,T _ _ _ _ _;intro _))
    exact T_backX (i+1,H1) ⟨by dsimp only;omega,by dsimp only;rw [hy];exact hG⟩ (by dsimp only;omega) (hG:=Hle.tail _ _)
 ·simp only [decide_eq_false_iff_not] at h
  obtain rfl:i=(mvL n).length:=by omega
  rw [List.take_length] at hG
  repeat' (first|refine d1 ?_|refine dd ?_|(show ∀ _:Nat,T _ _ _ _ _;intro _))
  exact T_ifall rfl H1 hG (Hle.tail _ _)
end Go.Proofs.YtblnhdnogjijiaaGreatDoor
namespace Go.Proofs.YtblnhdnogjijiaaGreatDoor
open Go.RowKit Go.Shelf Go.Proofs
set_option maxRecDepth 100000
set_option maxHeartbeats 1000000

theorem colT_ok {l:List TS} {v m:List Nat} (hv:v.length=l.length) (hm:∀ s∈m,s<l.length) (hp:possM (lens l) v m=true):ColOk l (colT v m):=by
 refine ⟨by rw [colT_len,hv],fun j z s hz hs=>?_⟩
 have hj:j<v.length:=by rw [hv];exact (List.getElem?_eq_some_iff.1 hs).1
 have h1:=colT_get (v:=v) (m:=m) hj
 rw [List.getD_eq_getElem?_getD,hz] at h1
 have h1':z=if j∈m then ((v.getD j 0:Nat):Int) else -1:=h1
 by_cases hjm:j∈m
 ·rw [if_pos hjm] at h1'
  have h2:=possM_iff.1 hp j hjm
  rw [show (lens l).getD j 0=s.n by rw [List.getD_eq_getElem?_getD,lens_get hs];rfl] at h2
  omega
 ·rw [if_neg hjm] at h1'
  omega
theorem foldB_ub {p:List Nat→Bool} {f:List Nat→Int} {B:Int} (hf:∀ m,f m≤B):∀ (ms:List (List Nat)) (a:Int),a≤B→foldB p f ms a≤B
 | [],a,h=>h
 | m::ms,a,h=>by
  show foldB p f ms (cond (p m) (bst a (f m)) a)≤B
  refine foldB_ub hf ms _ ?_
  have h1:=hf m
  have h2:=(bst_le (a:=a) (x:=f m)).2
  cases p m with
  | false=>exact h
  | true=>show bst a (f m)≤B;omega
theorem rsM_ub {K:List Int→Int} {B:Int} (h0:0≤B) (hK:∀ x,K x≤B) (ls:List Nat) (Ms:List (List Nat)):∀ f v,rsM K ls Ms f v≤B * f
 | 0,v=>by unfold rsM;simp
 | f+1,v=>by
  have h1:0≤B * (f+1:Nat):=Int.mul_nonneg h0 (by omega)
  have h2:=foldB_ub (p:=possM ls v) (f:=fun m=>K (colT v m)+rsM K ls Ms f (toM v m)) (B:=B * (f+1:Nat)) (fun m=>by
   have h3:=hK (colT v m)
   have h4:=rsM_ub h0 hK ls Ms f (toM v m)
   have h5:B * ((f+1:Nat):Int)=B * f+B:=by rw [show ((f+1:Nat):Int)=(f:Int)+1 by omega,Int.mul_add,Int.mul_one]
   omega) Ms (-1) (by omega)
  unfold rsM
  omega
theorem sumL_lens {l:List TS} (h:∀ t∈l,t.n≤1000):sumL (lens l)≤1000 * l.length:=by
 induction l with
 | nil=>exact Nat.zero_le _
 | cons t l ih =>
  have h1:=h t (.head _)
  have h2:=ih fun x hx=>h x (.tail _ hx)
  show t.n+sumL (lens l)≤_
  rw [List.length_cons]
  omega
theorem rsV_ub {c:Costs} (hc:costE c=0) {l:List TS} (h4:l.length≤4) (hb:∀ t∈l,t.n≤1000) (v:List Nat) (Ms:List (List Nat)):0≤rsV (colZ c l) (lens l) Ms v∧rsV (colZ c l) (lens l) Ms v≤4096000000:=by
 refine ⟨rsV_nn _ _ _ _,?_⟩
 unfold rsV
 have h1:=rsM_ub (K:=colZ c l) (B:=1024000) (by omega) (fun x=>(colZ_bd hc (by omega) x).2) (lens l) Ms (sumL (lens l) - sumL v) v
 have h2:=sumL_lens hb
 omega
theorem foldB_posL {ls v:List Nat} {f:List Nat→Int}:∀ (Ms:List (List Nat)) (a:Int),foldB (possM ls v) f (posL ls v Ms) a=foldB (possM ls v) f Ms a
 | [],a=>rfl
 | m::Ms,a=>by
  unfold posL
  rw [List.filter_cons]
  cases hp:possM ls v m with
  | true =>
   show foldB _ _ (posL ls v Ms) (cond (possM ls v m) _ _)=foldB _ _ Ms (cond (possM ls v m) _ _)
   exact foldB_posL Ms _
  | false =>
   show foldB _ _ (posL ls v Ms) a=foldB _ _ Ms (cond (possM ls v m) _ _)
   rw [hp]
   exact foldB_posL Ms _
theorem posL_mem {ls v m:List Nat} {Ms:List (List Nat)} (h:m∈posL ls v Ms):m∈Ms∧possM ls v m=true:=List.mem_filter.1 h
theorem find_posL {K:List Int→Int} {ls v:List Nat}:∀ Ms Ns:List (List Nat),(posL ls v Ms).find? (fitM K ls Ns v)=Ms.find? (fitM K ls Ns v)
 | [],Ns=>rfl
 | m::Ms,Ns=>by
  unfold posL
  rw [List.filter_cons,List.find?_cons (a:=m)]
  cases hp:possM ls v m with
  | true =>
   show List.find? _ (m::posL ls v Ms)=_
   rw [List.find?_cons,find_posL Ms Ns]
  | false =>
   have hf:fitM K ls Ns v m=false:=by unfold fitM;rw [hp];rfl
   show List.find? _ (posL ls v Ms)=_
   rw [hf,find_posL Ms Ns]
end Go.Proofs.YtblnhdnogjijiaaGreatDoor
namespace Go.Proofs.YtblnhdnogjijiaaGreatDoor
open Go.RowKit Go.Shelf Go.Proofs
set_option maxRecDepth 100000
set_option maxHeartbeats 1000000

def aln19 (c:Costs) (l:List TS):List (List Int) × Int × Int :=
 if usV c l≠0 then ([],0,usV c l) else if 4<l.length∨65536<volL (lens l) then ([],0,4) else (alnW c l,lstV c l,0)
theorem usV_ok {c:Costs} {l:List TS} (h:usV c l=0):1≤l.length∧costE c=0∧badS l=false:=by
 unfold usV at h
 by_cases h1:l.length=0
 ·rw [if_pos h1] at h;omega
 ·rw [if_neg h1] at h
  unfold ck21 at h
  by_cases h2:costE c=0∧badS l=false
  ·exact⟨by omega,h2⟩
  ·rw [if_neg h2] at h;omega
theorem rdAt {w:World} {b:Nat} {L:List Int} (h:RdC w b 0 (L.map (Value.int .i64))) {q off:Nat} {z:Int} (ho:off=q) (hz:L[q]?=some z):RdC w b off [.int .i64 z]:=by
 subst ho
 refine RdC.one ?_
 have:=h off _ (by rw [List.getElem?_map,hz];rfl)
 rw [Nat.zero_add] at this
 exact this
theorem stp_pos {ls m:List Nat} (h:m≠[]) (hm:∀ s∈m,s<ls.length):0<(m.map (stpL ls)).sum:=by
 cases m with
 | nil=>exact absurd rfl h
 | cons s m =>
  have:=stpL_pos (hm s (.head _))
  rw [List.map_cons,List.sum_cons];omega
theorem numL_zero:∀ (ls:List Nat) (n:Nat),numL ls (List.replicate n 0)=0
 | [],n=>by cases n <;> rfl
 | _::ls,0=>rfl
 | _::ls,n+1=>by
  show 0 * _+numL ls (List.replicate n 0)=0
  rw [numL_zero ls n];simp
theorem align19_spec (c:Costs) (A:Option Addr) (n ca:Nat) (l:List TS) (w:World) (hg:Grp w A n l) :
  Spec Tryz.prog 46 [c.val, .slice A n ca] w (fun v R=>∃ x:Value,True∧v = .tuple #[x, .int .i64 (aln19 c l).2.1, .int .i64 (aln19 c l).2.2]∧R=[dat [x] [rowsD (aln19 c l).1]]):=by
 have hn:=hg.hn
 have hll:=lens_len l
 have hb:=hg.hb
 refine spec_of sg Tryz.func46 rfl rfl rfl ?_
 refine T_op (OpT.box (cs:=c.cells) rfl rfl rfl rfl rfl rfl rfl (fun pc=>?_))
 refine T_op (OpT.box (cs:=[.slice A n ca]) rfl rfl rfl rfl rfl rfl rfl (fun pl=>?_))
 repeat' (first|refine d1 ?_|refine dd ?_|(show T _ (.ops _ (_::_)::_) _ _ _;first|refine T_call rfl rfl rfl rfl rfl (fun w hw=>usable19_spec c A n ca l w (hg.cls hw)) ?_|refine T_callC rfl rfl rfl rfl rfl rfl rfl (fun hg w hw=>usable19_spec c A n ca l w (hg.cls hw)) ?_)|(show T _ (.run _ _ (_::_) _ _::_) _ _ _;first|refine rc rfl rfl rfl rfl rfl rfl rfl (fun w hw=>usable19_spec c A n ca l w (hg.cls hw)) ?_|refine rcG rfl rfl rfl rfl rfl rfl rfl rfl rfl (fun hg w hw=>usable19_spec c A n ca l w (hg.cls hw)) ?_)|(show ∀ _:Nat,T _ _ _ _ _;intro _))
 refine T_if rfl (fun h=>?_) (fun h=>?_)
 ·have h0:usV c l≠0:=by simpa using h
  unfold aln19
  rw [if_pos h0]
  repeat' (first|refine d1 ?_|refine dd ?_|(show ∀ _:Nat,T _ _ _ _ _;intro _)|(show T _ (.code .ret::_) _ _ _;refine T_retV _ rfl (nilC _ |>.trans (Hle.nth 0 rfl)) ⟨_,trivial,rfl,rfl⟩))
 have h0:usV c l=0:=by simpa using h
 obtain⟨h1,hc,hbs⟩:=usV_ok h0
 repeat' (first|refine d1 ?_|refine dd ?_|(show ∀ _:Nat,T _ _ _ _ _;intro _))
 refine T_callC rfl rfl rfl rfl rfl rfl rfl (fun _ w hw=>size19_spec A n ca l 65536 w (hg.cls hw) ⟨by omega,by omega⟩) ?_
 repeat' (first|refine d1 ?_|refine dd ?_|(show ∀ _:Nat,T _ _ _ _ _;intro _))
 refine T_if rfl (fun h2=>?_) (fun h2=>?_)
 ·have hbig:4<l.length∨65536<volL (lens l):=by
   unfold capV at h2
   simp only [Bool.or_eq_true,decide_eq_true_eq] at h2
   split at h2 <;> omega
  unfold aln19
  rw [if_neg (by simpa using h0),if_pos hbig]
  repeat' (first|refine d1 ?_|refine dd ?_|(show ∀ _:Nat,T _ _ _ _ _;intro _)|(show T _ (.code .ret::_) _ _ _;refine T_retV _ rfl (nilC _ |>.trans (Hle.nth 0 rfl)) ⟨_,trivial,rfl,rfl⟩))
 have hsm:l.length≤4∧volL (lens l)≤65536:=by
  unfold capV at h2
  simp only [Bool.or_eq_false_iff,decide_eq_false_iff_not] at h2
  split at h2 <;> omega
 have h4:n≤4:=by omega
 have hv:=hsm.2
 have hv0:volL ((lens l).drop 0)≤65536:=hv
 have ha:aln19 c l=(alnW c l,lstV c l,0):=by
  unfold aln19
  rw [if_neg (by simpa using h0),if_neg (by omega)]
 rw [ha]
 refine rsH [blk pl [.slice A n ca] 25,blk pc c.cells 23] 1000 [0,2,3,1,4,5,6] ?_
 repeat' (first|refine d1 ?_|refine dd ?_|(show T _ (.run _ _ (_::_) _ _::_) _ _ _;refine ro rfl rfl (OpT.call rfl rfl rfl rfl rfl (fun w hw=>newGrid_spec A n ca l w (hg.cls hw) h4 hv) (fun u R hR=>?_)))|(show ∀ _:Nat,T _ _ _ _ _;intro _))
 obtain⟨pg,-,rfl,rfl⟩:=hR
 refine ⟨fun _=>Hle.tail _ _,?_⟩
 show T _ _ _ _ (blk pg (gridL A n ca (lens l) 0) 129::blk pl [.slice A n ca] 25::blk pc c.cells 23::[])
 repeat' (first|refine d1 ?_|refine dd ?_|(show T _ (.run _ _ (_::_) _ _::_) _ _ _;refine ro rfl rfl (OpT.call rfl rfl rfl rfl rfl (fun w hw=>moves19_spec (n:Int) w) (fun xm R hR=>?_)))|(show ∀ _:Nat,T _ _ _ _ _;intro _))
 obtain⟨_,-,rfl,rfl⟩:=hR
 refine ⟨fun _=>(Hle.tail _ _).trans (Hle.tail _ _),?_⟩
 show T _ _ _ _ (dat [xm] [rowsD ((mvL n).map intN)]::blk pg (gridL A n ca (lens l) 0) 129::blk pl [.slice A n ca] 25::blk pc c.cells 23::[])
 refine T_open fun pm hM=>?_
 obtain⟨Am,cm,csm,rfl,-⟩:=hM.tab
 rw [List.length_map] at hM ⊢
 repeat' (first|refine d1 ?_|refine dd ?_|(show T _ (.ops _ (_::_)::_) _ _ _;first|refine T_val rfl (Val.nilc rfl) rfl rfl rfl ?_|refine T_valC rfl (Val.nilc rfl) rfl rfl rfl rfl rfl ?_|refine T_op (OpT.make rfl rfl rfl rfl rfl rfl rfl rfl rfl (by dsimp only;omega) (fun b1=>?_)))|(show T _ (.run _ _ (_::_) _ _::_) _ _ _;first|refine rv rfl rfl rfl (Val.nilc rfl) rfl rfl rfl ?_|refine rg rfl rfl rfl (Val.nilc rfl) rfl rfl rfl rfl rfl ?_)|(show ∀ _:Nat,T _ _ _ _ _;intro _))
 rename_i p10 p11
 obtain⟨V,hV⟩:∃ V,V=volL (lens l):=⟨_,rfl⟩
 have hVd:volL ((lens l).drop 0)=V:=hV.symm
 have hVp:0<V:=by rw [hV];exact volL_pos _
 rw [hVd]
 have hall:=num_all (lens l)
 rw [← hV] at hall hv
 have hself:=at_num (InB.self (lens l))
 have hno:=mvL_ok (show 1≤n by omega) h4
 have hn4:l.length≤4:=by omega
 have hlsn:(lens l).length=n:=by omega
 obtain⟨F,hF⟩:∃ F:Nat→Int,F=fun q=>rsV (colZ c l) (lens l) (mvL n) (atL (lens l) q):=⟨_,rfl⟩
 have hFb:∀ q,0≤F q∧F q≤4096000000:=fun q=>by rw [hF];exact rsV_ub hc hn4 hg.nb _ _
 refine T_keep [(2, .pointer (some ⟨pc,0,none⟩)),(3, .pointer (some ⟨pl,0,none⟩)),(8, .pointer (some ⟨pg,0,none⟩)),(9, .slice Am (mvL n).length cm),(10, .pointer (some ⟨p10,0,none⟩)),(11, .pointer (some ⟨p11,0,none⟩))] ⟨rfl,rfl,rfl,rfl,rfl,rfl,trivial⟩ ?_
 refine T_le (H':=blk p11 [.int .i64 (((V - 1:Nat):Int) - 1)] 3::blk p10 [.slice (some ⟨b1,0,none⟩) V V] 47::blk b1 ((List.replicate V 0).map (Value.int .i64)) 3::fz pm::blk pg (gridL A n ca (lens l) 0) 129::blk pl [.slice A n ca] 25::blk pc c.cells 23::[]) ?_ ?_
 ·rw [show ((V - 1:Nat):Int) - 1=(V:Int) - 2 by omega,List.map_replicate]
  exact Hle.refl _
 show T (FC _ _ (([]:List Nat).map mkD) _ _ _) _ _ _ _
 refine T_loopDX (fun s:Nat × Nat × List Int × List Nat=>[(11, .pointer (some ⟨s.2.1,0,none⟩))]) (fun s=>blk s.2.1 [.int .i64 ((s.1:Int) - 1)] 3::blk p10 [.slice (some ⟨b1,0,none⟩) V V] 47::blk b1 ((s.2.2.1).map (Value.int .i64)) 3::fz pm::blk pg (gridL A n ca (lens l) 0) 129::blk pl [.slice A n ca] 25::blk pc c.cells 23::[]) (fun s=>s.2.2.2) (fun s=>s.1≤V - 1∧s.2.2.1.length=V∧∀ q,s.1≤q→q<V→s.2.2.1[q]?=some (F q)) (fun s=>s.1) (V - 1,p11,List.replicate V 0,[]) ⟨Nat.le_refl _,by simp,fun q h5 h6=>?_⟩ rfl ?_
 ·dsimp only at h5
  rw [show q=V - 1 by omega,hF]
  dsimp only
  rw [show V - 1=numL (lens l) (lens l) by omega,hself,rsV_end,List.getElem?_replicate,if_pos (by omega)]
 rintro⟨r,q11,L,Dl⟩ ⟨hr,hL,hLF⟩
 dsimp only at hr hL hLF ⊢
 refine T_le (H':=blk q11 [.int .i64 ((r:Int) - 1)] 3::blk p10 [.slice (some ⟨b1,0,none⟩) V V] 47::blk b1 ((L).map (Value.int .i64)) 3::fz pm::blk pg (gridL A n ca (lens l) 0) 129::blk pl [.slice A n ca] 25::blk pc c.cells 23::dfrs Dl) (Hle.refl _) ?_
 have hLm:(L.map (Value.int .i64)).length=V:=by rw [List.length_map,hL]
 rcases r with _|p
 ·repeat' (first|refine d1 ?_|refine dd ?_|(show ∀ _:Nat,T _ _ _ _ _;intro _))
  refine T_if rfl (fun h5=>by exfalso;simp at h5) (fun _=>?_)
  repeat' (first|refine d1 ?_|refine dd ?_|(show ∀ _:Nat,T _ _ _ _ _;intro _))
  rename_i p15 p16
  have hz0:numL (lens l) (List.replicate n 0)=0:=numL_zero _ _
  refine T_keep [(2, .pointer (some ⟨pc,0,none⟩)),(3, .pointer (some ⟨pl,0,none⟩)),(8, .pointer (some ⟨pg,0,none⟩)),(9, .slice Am (mvL n).length cm),(10, .pointer (some ⟨p10,0,none⟩)),(15, .pointer (some ⟨p15,0,none⟩)),(16, .pointer (some ⟨p16,0,none⟩))] ⟨rfl,rfl,rfl,rfl,rfl,rfl,rfl,trivial⟩ ?_
  refine T_le (H':=blk p16 [.int .i64 ((0:Nat):Int)] 3::blk p15 [.slice none 0 0] 30::blk p10 [.slice (some ⟨b1,0,none⟩) V V] 47::blk b1 (L.map (Value.int .i64)) 3::fz pm::blk pg (gridL A n ca (lens l) 0) 129::blk pl [.slice A n ca] 25::blk pc c.cells 23::dfrs Dl) (Hle.drop3 _ _ _ _) ?_
  refine T_le (dat_nil _) ?_
  refine T_nilrow 47 1 ?_
  refine T_loopDX (fun s:List Nat × Nat × (Option Addr × Nat) × List Value × List (List Int) × List Nat=>[(16, .pointer (some ⟨s.2.1,0,none⟩))]) (fun s=>blk s.2.1 [.int .i64 (numL (lens l) s.1:Nat)] 3::blk p15 [.slice s.2.2.1.1 s.2.2.2.2.1.length s.2.2.1.2] 30::row 47 1 s.2.2.1.1 s.2.2.1.2 s.2.2.2.2.1.length s.2.2.2.1::dat s.2.2.2.1 (s.2.2.2.2.1.map intsD)::blk p10 [.slice (some ⟨b1,0,none⟩) V V] 47::blk b1 (L.map (Value.int .i64)) 3::fz pm::blk pg (gridL A n ca (lens l) 0) 129::blk pl [.slice A n ca] 25::blk pc c.cells 23::[]) (fun s=>s.2.2.2.2.2) (fun s=>InB (lens l) s.1∧s.2.2.2.2.1.length≤sumL s.1∧alnW c l=s.2.2.2.2.1++(alV19 (colZ c l) (lens l) (mvL n) s.1)) (fun s=>sumL (lens l) - sumL s.1) (List.replicate n 0,p16,(none,0),[],[],Dl) ⟨by rw [← hlsn];exact InB.zero _,Nat.zero_le _,by dsimp only;rw [List.nil_append, ← hn];rfl⟩ rfl ?_ (hG:=by dsimp only;rw [hz0];exact Hle.srtT (A:=[row 47 1 none 0 0 [],dat [] [],blk p16 [.int .i64 ((0:Nat):Int)] 3,blk p15 [.slice none 0 0] 30,blk p10 [.slice (some ⟨b1,0,none⟩) V V] 47,blk b1 (L.map (Value.int .i64)) 3,fz pm,blk pg (gridL A n ca (lens l) 0) 129,blk pl [.slice A n ca] 25,blk pc c.cells 23]) (K:=[blk p16 [.int .i64 ((0:Nat):Int)] 3,blk p15 [.slice none 0 0] 30,row 47 1 none 0 0 [],dat [] [],blk p10 [.slice (some ⟨b1,0,none⟩) V V] 47,blk b1 (L.map (Value.int .i64)) 3,fz pm,blk pg (gridL A n ca (lens l) 0) 129,blk pl [.slice A n ca] 25,blk pc c.cells 23]) (dfrs Dl))
  rintro⟨v,q16,⟨Ao,capo⟩,hs,out,Dl⟩ ⟨hvi,hol,hout⟩
  dsimp only at hvi hol hout ⊢
  obtain⟨p,hp⟩:∃ p,p=numL (lens l) v:=⟨_,rfl⟩
  have hat:=at_num hvi
  have hpl:=numL_lt hvi
  rw [← hp] at hat hpl ⊢
  rw [← hV] at hpl
  refine T_le (H':=blk q16 [.int .i64 (p:Nat)] 3::blk p15 [.slice Ao out.length capo] 30::row 47 1 Ao capo out.length hs::dat hs (out.map intsD)::blk p10 [.slice (some ⟨b1,0,none⟩) V V] 47::blk b1 (L.map (Value.int .i64)) 3::fz pm::blk pg (gridL A n ca (lens l) 0) 129::blk pl [.slice A n ca] 25::blk pc c.cells 23::dfrs Dl) (Hle.refl _) ?_
  have hg5:∀ w,RdC w pg 0 (gridL A n ca (lens l) 0)→RdC w pg (0+5) [.int .i64 (V:Nat)]:=fun w h9=>RdC.one (by have:=h9 5 _ (show (gridL A n ca (lens l) 0)[5]?=some (.int .i64 (V:Nat)) by rw [hV];rfl);exact this)
  repeat' (first|refine d1 ?_|refine dd ?_|(show T _ (.ops _ (_::_)::_) _ _ _;first|refine T_val rfl (Val.nilc rfl) rfl rfl rfl ?_|refine T_valC rfl (Val.nilc rfl) rfl rfl rfl rfl rfl ?_|refine T_val rfl (Val.load rfl (fun hg=>(fun w hw=>hg5 w (rdAll w hw)))) rfl rfl rfl ?_|refine T_valC rfl (Val.load rfl (fun hg=>(fun w hw=>hg5 w (rdAll w hw)))) rfl rfl rfl rfl rfl ?_)|(show T _ (.run _ _ (_::_) _ _::_) _ _ _;first|refine rv rfl rfl rfl (Val.nilc rfl) rfl rfl rfl ?_|refine rg rfl rfl rfl (Val.nilc rfl) rfl rfl rfl rfl rfl ?_|refine rv rfl rfl rfl (Val.load rfl (fun hg=>(fun w hw=>hg5 w (rdAll w hw)))) rfl rfl rfl ?_|refine rg rfl rfl rfl (Val.load rfl (fun hg=>(fun w hw=>hg5 w (rdAll w hw)))) rfl rfl rfl rfl rfl ?_)|(show ∀ _:Nat,T _ _ _ _ _;intro _))
  refine T_if rfl (fun h5=>?_) (fun h5=>?_)
  ·have hpV:p+1<V:=by simp at h5;omega
   obtain rfl:v=atL (lens l) p:=hat.symm
   repeat' (first|refine d1 ?_|refine dd ?_|(show T _ (.ops _ (_::_)::_) _ _ _;first|refine T_val rfl (Val.nilc rfl) rfl rfl rfl ?_|refine T_valC rfl (Val.nilc rfl) rfl rfl rfl rfl rfl ?_|refine T_op (OpT.call rfl rfl rfl rfl rfl (fun w hw=>moves19_fn pg p Am (mvL n).length cm w) (fun u R hR=>?_)))|(show T _ (.run _ _ (_::_) _ _::_) _ _ _;first|refine rv rfl rfl rfl (Val.nilc rfl) rfl rfl rfl ?_|refine rg rfl rfl rfl (Val.nilc rfl) rfl rfl rfl rfl rfl ?_)|(show ∀ _:Nat,T _ _ _ _ _;intro _))
   obtain⟨⟨g1,g2,g3⟩,-,rfl,rfl⟩:=hR
   have hvl:(atL (lens l) p).length=l.length:=by rw [atL_len,hll]
   have hne:(atL (lens l) p)≠lens l:=fun e=>by rw [e] at hp;omega
   have hsub:=sumL_le hvi
   have hlen4:=sumL_lens hg.nb
   refine T_rangeO (moves_iter hg (by omega) h4 (by omega) (p:=p) (by omega) pg g1 g2 g3 hM) rfl (fun j x B hj hQ=>by obtain⟨m,b,_,rfl,_⟩:=hQ;exact⟨rfl,rfl⟩)
    (fun jj H=>H=blk q16 [.int .i64 (p:Nat)] 3::blk p15 [.slice Ao out.length capo] 30::row 47 1 Ao capo out.length hs::dat hs (out.map intsD)::blk p10 [.slice (some ⟨b1,0,none⟩) V V] 47::blk b1 (L.map (Value.int .i64)) 3::blk pl [.slice A n ca] 25::blk pc c.cells 23::dfrs Dl∧∀ j' y,j'<jj→(posL (lens l) (atL (lens l) p) (mvL n))[j']?=some y→fitM (colZ c l) (lens l) (mvL n) (atL (lens l) p) y=false) (fun _=>False)
    (fun id H=>id=6∧∃ (m:List Nat) (x:Option Addr × Nat × Value),(mvL n).find? (fitM (colZ c l) (lens l) (mvL n) (atL (lens l) p))=some m∧H=blk q16 [.int .i64 ((numL (lens l) (toM (atL (lens l) p) m)):Nat)] 3::blk p15 [.slice x.1 (out.length+1) x.2.1] 30::row 47 1 x.1 x.2.1 (out.length+1) (hs++[x.2.2])::dat (hs++[x.2.2]) ((out++[colT (atL (lens l) p) m]).map intsD)::blk p10 [.slice (some ⟨b1,0,none⟩) V V] 47::blk b1 (L.map (Value.int .i64)) 3::blk pl [.slice A n ca] 25::blk pc c.cells 23::dfrs Dl) (blk q16 [.int .i64 (p:Nat)] 3::blk p15 [.slice Ao out.length capo] 30::row 47 1 Ao capo out.length hs::dat hs (out.map intsD)::blk p10 [.slice (some ⟨b1,0,none⟩) V V] 47::blk b1 (L.map (Value.int .i64)) 3::blk pl [.slice A n ca] 25::blk pc c.cells 23::dfrs Dl) ⟨rfl,fun _ _ h=>by omega⟩
    (Hle.srtT (A:=[blk g2 [.int .i64 (p:Nat)] 3,blk g3 [.slice Am (mvL n).length cm] 30,blk g1 [.pointer (some ⟨pg,0,none⟩)] 123,blk q16 [.int .i64 (p:Nat)] 3,blk p15 [.slice Ao out.length capo] 30,row 47 1 Ao capo out.length hs,dat hs (out.map intsD),blk p10 [.slice (some ⟨b1,0,none⟩) V V] 47,blk b1 (L.map (Value.int .i64)) 3,fz pm,blk pg (gridL A n ca (lens l) 0) 129,blk pl [.slice A n ca] 25,blk pc c.cells 23]) (K:=[blk g2 [.int .i64 (p:Nat)] 3,blk g3 [.slice Am (mvL n).length cm] 30,blk g1 [.pointer (some ⟨pg,0,none⟩)] 123,blk pg (gridL A n ca (lens l) 0) 129,fz pm,blk q16 [.int .i64 (p:Nat)] 3,blk p15 [.slice Ao out.length capo] 30,row 47 1 Ao capo out.length hs,dat hs (out.map intsD),blk p10 [.slice (some ⟨b1,0,none⟩) V V] 47,blk b1 (L.map (Value.int .i64)) 3,blk pl [.slice A n ca] 25,blk pc c.cells 23]) (dfrs Dl)) ?_ ?_ (fun _ _ h=>h.elim) ?_
   ·rintro Lp r5 jj x B Hj K2 hr5 hj hQ ⟨rfl,hnf⟩
    obtain⟨m,b,hm,rfl,rfl⟩:=hQ
    obtain⟨hmm,hpo⟩:=posL_mem (List.mem_of_getElem? hm)
    have hti:=(toM_rem hno hlsn hvi hmm hpo).1
    have hqV:=numL_lt hti
    rw [← hV] at hqV
    have hFq:F (numL (lens l) (toM (atL (lens l) p) m))=rsV (colZ c l) (lens l) (mvL n) (toM (atL (lens l) p) m):=by rw [hF];dsimp only;rw [at_num hti]
    have hFp:F p=rsV (colZ c l) (lens l) (mvL n) (atL (lens l) p):=by rw [hF]
    have hfit:fitM (colZ c l) (lens l) (mvL n) (atL (lens l) p) m=decide (colZ c l (colT (atL (lens l) p) m)+F (numL (lens l) (toM (atL (lens l) p) m))=F p):=by
     rw [hFq,hFp]
     unfold fitM
     rw [hpo,Bool.true_and];rfl
    obtain⟨q,hq⟩:∃ q,q=(numL (lens l) (toM (atL (lens l) p) m)):=⟨_,rfl⟩
    rw [← hq] at hqV hfit
    show T _ _ ((100, .int .i64 ((numL (lens l) (toM (atL (lens l) p) m)):Nat))::(99, .slice (some ⟨b,0,none⟩) n n)::_) _ (lrec Lp r5::blk q16 [.int .i64 (p:Nat)] 3::blk p15 [.slice Ao out.length capo] 30::row 47 1 Ao capo out.length hs::dat hs (out.map intsD)::blk p10 [.slice (some ⟨b1,0,none⟩) V V] 47::blk b1 (L.map (Value.int .i64)) 3::blk pl [.slice A n ca] 25::blk pc c.cells 23::(dfrs Dl++(row 3 1 (some ⟨b,0,none⟩) n n ((colT (atL (lens l) p) m).map (Value.int .i64))::K2)))
    rw [← hq]
    repeat' (first|refine d1 ?_|(show ∀ _:Nat,T _ _ _ _ _;intro _)|(show T _ _ _ _ _;refine T_begin hr5 rfl ?_))
    refine T_le (H':=row 3 1 (some ⟨b,0,none⟩) n n ((colT (atL (lens l) p) m).map (Value.int .i64))::lrec Lp (busy r5)::blk q16 [.int .i64 (p:Nat)] 3::blk p15 [.slice Ao out.length capo] 30::row 47 1 Ao capo out.length hs::dat hs (out.map intsD)::blk p10 [.slice (some ⟨b1,0,none⟩) V V] 47::blk b1 (L.map (Value.int .i64)) 3::blk pl [.slice A n ca] 25::blk pc c.cells 23::(dfrs Dl++K2)) (Hle.perm (List.perm_middle (l₁:=lrec Lp (busy r5)::blk q16 [.int .i64 (p:Nat)] 3::blk p15 [.slice Ao out.length capo] 30::row 47 1 Ao capo out.length hs::dat hs (out.map intsD)::blk p10 [.slice (some ⟨b1,0,none⟩) V V] 47::blk b1 (L.map (Value.int .i64)) 3::blk pl [.slice A n ca] 25::blk pc c.cells 23::dfrs Dl) (l₂:=K2))) ?_
    have hcq:∀ w,RdC w b1 0 (L.map (Value.int .i64))→RdC w b1 (0+(q:Int).toNat * 1) [.int .i64 (F q)]:=fun w h9=>rdAt h9 (by omega) (hLF q (by omega) (by omega))
    have hcp:∀ w,RdC w b1 0 (L.map (Value.int .i64))→RdC w b1 (0+(p:Int).toNat * 1) [.int .i64 (F p)]:=fun w h9=>rdAt h9 (by omega) (hLF p (by omega) (by omega))
    have hKb:=colZ_bd hc (show l.length≤32 by omega) (colT (atL (lens l) p) m)
    have hFq2:=hFb q
    refine rsH [row 3 1 (some ⟨b,0,none⟩) n n ((colT (atL (lens l) p) m).map (Value.int .i64)),lrec Lp (busy r5),blk q16 [.int .i64 (p:Nat)] 3,blk p15 [.slice Ao out.length capo] 30,row 47 1 Ao capo out.length hs,dat hs (out.map intsD),blk p10 [.slice (some ⟨b1,0,none⟩) V V] 47,blk b1 (L.map (Value.int .i64)) 3,blk pl [.slice A n ca] 25,blk pc c.cells 23] 1000 [0,1,2,4,5,6,7,9,10,11,12,3,8,13] ?_
    repeat' (first|refine d1 ?_|refine dd ?_|(show T _ (.ops _ (_::_)::_) _ _ _;first|refine T_call rfl rfl rfl rfl rfl (fun w hw=>cost19_spec c A (some ⟨b,0,none⟩) n ca n l (colT (atL (lens l) p) m) w (hg.cls hw) hc hbs (srcRw w hw) (colT_ok hvl (fun s hs=>by rw [hn];exact hno.lt m hmm s hs) hpo)) ?_|refine T_callC rfl rfl rfl rfl rfl rfl rfl (fun hg w hw=>cost19_spec c A (some ⟨b,0,none⟩) n ca n l (colT (atL (lens l) p) m) w (hg.cls hw) hc hbs (srcRw w hw) (colT_ok hvl (fun s hs=>by rw [hn];exact hno.lt m hmm s hs) hpo)) ?_|refine T_val rfl (Val.load rfl (fun hg=>(fun w hw=>hcq w (rdAll w hw)))) rfl rfl rfl ?_|refine T_valC rfl (Val.load rfl (fun hg=>(fun w hw=>hcq w (rdAll w hw)))) rfl rfl rfl rfl rfl ?_|refine T_val rfl (Val.load rfl (fun hg=>(fun w hw=>hcp w (rdAll w hw)))) rfl rfl rfl ?_|refine T_valC rfl (Val.load rfl (fun hg=>(fun w hw=>hcp w (rdAll w hw)))) rfl rfl rfl rfl rfl ?_)|(show T _ (.run _ _ (_::_) _ _::_) _ _ _;first|refine rc rfl rfl rfl rfl rfl rfl rfl (fun w hw=>cost19_spec c A (some ⟨b,0,none⟩) n ca n l (colT (atL (lens l) p) m) w (hg.cls hw) hc hbs (srcRw w hw) (colT_ok hvl (fun s hs=>by rw [hn];exact hno.lt m hmm s hs) hpo)) ?_|refine rcG rfl rfl rfl rfl rfl rfl rfl rfl rfl (fun hg w hw=>cost19_spec c A (some ⟨b,0,none⟩) n ca n l (colT (atL (lens l) p) m) w (hg.cls hw) hc hbs (srcRw w hw) (colT_ok hvl (fun s hs=>by rw [hn];exact hno.lt m hmm s hs) hpo)) ?_|refine rv rfl rfl rfl (Val.load rfl (fun hg=>(fun w hw=>hcq w (rdAll w hw)))) rfl rfl rfl ?_|refine rg rfl rfl rfl (Val.load rfl (fun hg=>(fun w hw=>hcq w (rdAll w hw)))) rfl rfl rfl rfl rfl ?_|refine rv rfl rfl rfl (Val.load rfl (fun hg=>(fun w hw=>hcp w (rdAll w hw)))) rfl rfl rfl ?_|refine rg rfl rfl rfl (Val.load rfl (fun hg=>(fun w hw=>hcp w (rdAll w hw)))) rfl rfl rfl rfl rfl ?_)|(show ∀ _:Nat,T _ _ _ _ _;intro _))
    refine T_if rfl (fun h6=>?_) (fun h6=>?_)
    ·rw [h6] at hfit
     have hf:(mvL n).find? (fitM (colZ c l) (lens l) (mvL n) (atL (lens l) p))=some m:=by rw [← find_posL];exact find_at hm hfit hnf
     have hov:out.length≤200000:=by omega
     repeat' (first|refine d1 ?_|refine dd ?_|(show T _ (.ops _ (_::_)::_) _ _ _;refine T_op (OpT.append rfl rfl rfl rfl rfl rfl rfl rfl rfl rfl (fun w hw=>Src.own hw rfl) rfl (by dsimp only;omega) (by omega) (fun A' cap' hA'=>?_)))|(show ∀ _:Nat,T _ _ _ _ _;intro _))
     rename_i blit2
     show T _ (.code (.exit 6)::_) _ _ _
     refine T_rexit (id:=6) (blk q16 [.int .i64 ((numL (lens l) (toM (atL (lens l) p) m)):Nat)] 3::blk p15 [.slice A' (out.length+1) cap'] 30::row 47 1 A' cap' (out.length+1) (hs++[(.slice (some ⟨b,0,none⟩) n n)])::dat (hs++[(.slice (some ⟨b,0,none⟩) n n)]) ((out++[colT (atL (lens l) p) m]).map intsD)::blk p10 [.slice (some ⟨b1,0,none⟩) V V] 47::blk b1 (L.map (Value.int .i64)) 3::blk pl [.slice A n ca] 25::blk pc c.cells 23::dfrs Dl) (fun _=>rfl) ⟨rfl,m,(A',cap',(.slice (some ⟨b,0,none⟩) n n)),hf,rfl⟩ ?_
     rw [← hq]
     refine (Hle.srtT (A:=[blk blit2 _ _,row 3 1 (some ⟨b,0,none⟩) n n ((colT (atL (lens l) p) m).map (Value.int .i64)),lrec Lp (busy r5),blk q16 [.int .i64 (q:Nat)] 3,blk p15 [.slice A' (out.length+1) cap'] 30,row 47 1 A' cap' (out.length+1) (hs++[(.slice (some ⟨b,0,none⟩) n n)]),dat hs (out.map intsD),blk p10 [.slice (some ⟨b1,0,none⟩) V V] 47,blk b1 (L.map (Value.int .i64)) 3,blk pl [.slice A n ca] 25,blk pc c.cells 23]) (K:=[row 3 1 (some ⟨b,0,none⟩) n n ((colT (atL (lens l) p) m).map (Value.int .i64)),dat hs (out.map intsD),lrec Lp (busy r5),blk q16 [.int .i64 (q:Nat)] 3,blk p15 [.slice A' (out.length+1) cap'] 30,row 47 1 A' cap' (out.length+1) (hs++[(.slice (some ⟨b,0,none⟩) n n)]),blk p10 [.slice (some ⟨b1,0,none⟩) V V] 47,blk b1 (L.map (Value.int .i64)) 3,blk pl [.slice A n ca] 25,blk pc c.cells 23]) (dfrs Dl++K2)).trans ?_
     refine dat_rowV.trans (dat_join.trans ?_)
     have ej:out.map intsD++[D.s 1 (((colT (atL (lens l) p) m).map (Value.int .i64)).map .v)]=(out++[colT (atL (lens l) p) m]).map intsD:=by
      rw [List.map_append,List.map_map];rfl
     rw [ej]
     exact Hle.perm ((List.perm_append_comm (l₁:=[_]) (l₂:=[_,_,_,_])).append_right (blk p10 [.slice (some ⟨b1,0,none⟩) V V] 47::blk b1 (L.map (Value.int .i64)) 3::blk pl [.slice A n ca] 25::blk pc c.cells 23::(dfrs Dl++K2)))
    ·rw [h6] at hfit
     refine T_next (blk q16 [.int .i64 (p:Nat)] 3::blk p15 [.slice Ao out.length capo] 30::row 47 1 Ao capo out.length hs::dat hs (out.map intsD)::blk p10 [.slice (some ⟨b1,0,none⟩) V V] 47::blk b1 (L.map (Value.int .i64)) 3::blk pl [.slice A n ca] 25::blk pc c.cells 23::dfrs Dl) ⟨rfl,fun j' y hj hy=>?_⟩ (Hle.tail _ _)
     rcases Nat.lt_or_ge j' jj with h7|h7
     ·exact hnf j' y h7 hy
     ·rw [show j'=jj by omega,hm] at hy
      cases hy
      exact hfit
   ·rintro D Hn ⟨rfl,hnf⟩
    exfalso
    obtain⟨m,hf,-⟩:=fit_some (K:=colZ c l) (colZ_nn hc hn4) hno hlsn hvi hne
    rw [← find_posL] at hf
    have h7:=List.find?_some hf
    obtain⟨j',hj',e9⟩:=List.getElem_of_mem (List.mem_of_find?_eq_some hf)
    have h8:=hnf j' m hj' (by rw [List.getElem?_eq_getElem hj',e9])
    rw [h8] at h7;cases h7
   ·rintro D id Hx ⟨rfl,m,⟨A',cap',hv9⟩,hf,rfl⟩
    dsimp only
    have h7:=List.find?_some hf
    unfold fitM at h7
    rw [Bool.and_eq_true] at h7
    obtain⟨hti,hs1,hs2,hs3⟩:=toM_rem hno hlsn hvi (List.mem_of_find?_eq_some hf) h7.1
    have hstep:=alV_step hno hlsn hvi hf
    show T (FC _ _ ((D::Dl).map mkD) _ _ _) _ _ _ (dfr D::blk g2 [.int .i64 (p:Nat)] 3::blk g3 [.slice Am (mvL n).length cm] 30::blk g1 [.pointer (some ⟨pg,0,none⟩)] 123::blk pg (gridL A n ca (lens l) 0) 129::fz pm::blk q16 [.int .i64 ((numL (lens l) (toM (atL (lens l) p) m)):Nat)] 3::blk p15 [.slice A' (out.length+1) cap'] 30::row 47 1 A' cap' (out.length+1) (hs++[hv9])::dat (hs++[hv9]) ((out++[colT (atL (lens l) p) m]).map intsD)::blk p10 [.slice (some ⟨b1,0,none⟩) V V] 47::blk b1 (L.map (Value.int .i64)) 3::blk pl [.slice A n ca] 25::blk pc c.cells 23::dfrs Dl)
    repeat' (first|refine d1 ?_|refine dd ?_|(show ∀ _:Nat,T _ _ _ _ _;intro _))
    rename_i n16
    show T _ (.mark _::_) _ _ _
    refine T_backD (toM (atL (lens l) p) m,n16,(A',cap'),hs++[hv9],out++[colT (atL (lens l) p) m],D::Dl) ⟨hti,by dsimp only;rw [List.length_append];simp;omega,by dsimp only;rw [hout,hstep,List.append_assoc];rfl⟩ (by dsimp only;omega) rfl (hG:=?_)
    dsimp only
    rw [List.length_append]
    exact Hle.srtT (A:=[blk n16 [.int .i64 ((numL (lens l) (toM (atL (lens l) p) m)):Nat)] 3,dfr D,blk g2 [.int .i64 (p:Nat)] 3,blk g3 [.slice Am (mvL n).length cm] 30,blk g1 [.pointer (some ⟨pg,0,none⟩)] 123,blk pg (gridL A n ca (lens l) 0) 129,fz pm,blk q16 [.int .i64 ((numL (lens l) (toM (atL (lens l) p) m)):Nat)] 3,blk p15 [.slice A' (out.length+1) cap'] 30,row 47 1 A' cap' (out.length+1) (hs++[hv9]),dat (hs++[hv9]) ((out++[colT (atL (lens l) p) m]).map intsD),blk p10 [.slice (some ⟨b1,0,none⟩) V V] 47,blk b1 (L.map (Value.int .i64)) 3,blk pl [.slice A n ca] 25,blk pc c.cells 23]) (K:=[blk n16 [.int .i64 ((numL (lens l) (toM (atL (lens l) p) m)):Nat)] 3,blk p15 [.slice A' (out.length+1) cap'] 30,row 47 1 A' cap' (out.length+1) (hs++[hv9]),dat (hs++[hv9]) ((out++[colT (atL (lens l) p) m]).map intsD),blk p10 [.slice (some ⟨b1,0,none⟩) V V] 47,blk b1 (L.map (Value.int .i64)) 3,fz pm,blk pg (gridL A n ca (lens l) 0) 129,blk pl [.slice A n ca] 25,blk pc c.cells 23,dfr D]) (dfrs Dl)
  ·have hpV:p+1=V:=by simp at h5;omega
   obtain rfl:v=lens l:=by rw [← hat, ← hself];congr 1;omega
   rw [alV_end,List.append_nil] at hout
   subst hout
   have hF0:F 0=lstV c l:=by
    rw [hF]
    dsimp only
    rw [show (0:Nat)=numL (lens l) (List.replicate (lens l).length 0) from (numL_zero _ _).symm,at_num (InB.zero _),hll, ← hn]
    rfl
   have hc0:∀ w,RdC w b1 0 (L.map (Value.int .i64))→RdC w b1 (0+(0:Int).toNat * 1) [.int .i64 (lstV c l)]:=fun w h9=>rdAt (q:=0) h9 (by omega) (by rw [← hF0];exact hLF 0 (Nat.zero_le _) hVp)
   repeat' (first|refine d1 ?_|refine dd ?_|(show T _ (.ops _ (_::_)::_) _ _ _;first|refine T_val rfl (Val.load rfl (fun hg=>(fun w hw=>hc0 w (rdAll w hw)))) rfl rfl rfl ?_|refine T_valC rfl (Val.load rfl (fun hg=>(fun w hw=>hc0 w (rdAll w hw)))) rfl rfl rfl rfl rfl ?_)|(show T _ (.run _ _ (_::_) _ _::_) _ _ _;first|refine rv rfl rfl rfl (Val.load rfl (fun hg=>(fun w hw=>hc0 w (rdAll w hw)))) rfl rfl rfl ?_|refine rg rfl rfl rfl (Val.load rfl (fun hg=>(fun w hw=>hc0 w (rdAll w hw)))) rfl rfl rfl rfl rfl ?_)|(show ∀ _:Nat,T _ _ _ _ _;intro _))
   refine T_retDs [dat [.slice Ao (alnW c l).length capo] [rowsD (alnW c l)]] ?_ (rf_V (vs:=[.slice Ao (alnW c l).length capo, .int .i64 (lstV c l), .int .i64 0]) _ rfl (Hle.refl _) ⟨_,trivial,rfl,rfl⟩)
   refine (Hle.tail _ _).trans ((Hle.tail _ _).trans (dat_row.trans ?_))
   exact Hle.srtT (A:=[dat [.slice Ao (alnW c l).length capo] [.s 1 ((alnW c l).map intsD)],_,_,_,_,_,_]) (K:=[dat [.slice Ao (alnW c l).length capo] [.s 1 ((alnW c l).map intsD)]]) (dfrs Dl)
 ·rw [show ((p+1:Nat):Int) - 1=(p:Nat) by omega]
  repeat' (first|refine d1 ?_|refine dd ?_|(show ∀ _:Nat,T _ _ _ _ _;intro _))
  refine T_if rfl (fun _=>?_) (fun h5=>by exfalso;simp at h5)
  repeat' (first|refine d1 ?_|refine dd ?_|(show T _ (.ops _ (_::_)::_) _ _ _;first|refine T_val rfl (Val.nilc rfl) rfl rfl rfl ?_|refine T_valC rfl (Val.nilc rfl) rfl rfl rfl rfl rfl ?_|refine T_op (OpT.store rfl rfl rfl rfl (by rw [hLm];omega) ?_)|refine T_op (OpT.call rfl rfl rfl rfl rfl (fun w hw=>moves19_fn pg p Am (mvL n).length cm w) (fun u R hR=>?_)))|(show T _ (.run _ _ (_::_) _ _::_) _ _ _;first|refine rv rfl rfl rfl (Val.nilc rfl) rfl rfl rfl ?_|refine rg rfl rfl rfl (Val.nilc rfl) rfl rfl rfl rfl rfl ?_)|(show ∀ _:Nat,T _ _ _ _ _;intro _))
  obtain⟨⟨g1,g2,g3⟩,-,rfl,rfl⟩:=hR
  have hpV:p+1<V:=by omega
  have hvi:=atL_in (lens l) p
  have hvl:(atL (lens l) p).length=l.length:=by rw [atL_len,hll]
  have hvn:=num_at (lens l) p (by omega)
  have hne:(atL (lens l) p)≠lens l:=fun e=>by rw [e] at hvn;omega
  have hstep:=rsV_step (K:=colZ c l) (colZ_nn hc hn4) hno hlsn hvi hne
  have hset:(L.map (Value.int .i64)).set (0+(p:Int).toNat * 1) (.int .i64 (-1))=(L.set p (foldB (possM (lens l) (atL (lens l) p)) (mcV (colZ c l) (lens l) (mvL n) (atL (lens l) p)) ((posL (lens l) (atL (lens l) p) (mvL n)).take 0) (-1))).map (Value.int .i64):=by
   rw [List.take_zero,List.map_set,show 0+(p:Int).toNat * 1=p by omega];rfl
  rw [hset]
  refine T_rangeO (moves_iter hg (by omega) h4 (by omega) (p:=p) (by omega) pg g1 g2 g3 hM) rfl (fun j x B hj hQ=>by obtain⟨m,b,_,rfl,_⟩:=hQ;exact⟨rfl,rfl⟩)
   (fun jj H=>H=blk q11 [.int .i64 ((p:Nat))] 3::blk p10 [.slice (some ⟨b1,0,none⟩) V V] 47::blk b1 ((L.set p (foldB (possM (lens l) (atL (lens l) p)) (mcV (colZ c l) (lens l) (mvL n) (atL (lens l) p)) ((posL (lens l) (atL (lens l) p) (mvL n)).take jj) (-1))).map (Value.int .i64)) 3::blk pl [.slice A n ca] 25::blk pc c.cells 23::dfrs Dl) (fun _=>False) (fun _ _=>False) (blk q11 [.int .i64 ((p:Nat))] 3::blk p10 [.slice (some ⟨b1,0,none⟩) V V] 47::blk b1 ((L.set p (foldB (possM (lens l) (atL (lens l) p)) (mcV (colZ c l) (lens l) (mvL n) (atL (lens l) p)) ((posL (lens l) (atL (lens l) p) (mvL n)).take 0) (-1))).map (Value.int .i64)) 3::blk pl [.slice A n ca] 25::blk pc c.cells 23::dfrs Dl) rfl
   (Hle.srtT (A:=[blk g2 [.int .i64 (p:Nat)] 3,blk g3 [.slice Am (mvL n).length cm] 30,blk g1 [.pointer (some ⟨pg,0,none⟩)] 123,blk q11 [.int .i64 ((p:Nat))] 3,blk p10 [.slice (some ⟨b1,0,none⟩) V V] 47,blk b1 ((L.set p (foldB (possM (lens l) (atL (lens l) p)) (mcV (colZ c l) (lens l) (mvL n) (atL (lens l) p)) ((posL (lens l) (atL (lens l) p) (mvL n)).take 0) (-1))).map (Value.int .i64)) 3,fz pm,blk pg (gridL A n ca (lens l) 0) 129,blk pl [.slice A n ca] 25,blk pc c.cells 23]) (K:=[blk g2 [.int .i64 (p:Nat)] 3,blk g3 [.slice Am (mvL n).length cm] 30,blk g1 [.pointer (some ⟨pg,0,none⟩)] 123,blk pg (gridL A n ca (lens l) 0) 129,fz pm,blk q11 [.int .i64 ((p:Nat))] 3,blk p10 [.slice (some ⟨b1,0,none⟩) V V] 47,blk b1 ((L.set p (foldB (possM (lens l) (atL (lens l) p)) (mcV (colZ c l) (lens l) (mvL n) (atL (lens l) p)) ((posL (lens l) (atL (lens l) p) (mvL n)).take 0) (-1))).map (Value.int .i64)) 3,blk pl [.slice A n ca] 25,blk pc c.cells 23]) (dfrs Dl)) ?_ ?_ (fun _ _ h=>h.elim) (fun _ _ _ h=>h.elim)
  ·rintro Lp r5 jj x B Hj K2 hr5 hj hQ rfl
   obtain⟨m,b,hm,rfl,rfl⟩:=hQ
   obtain⟨hmm,hpo⟩:=posL_mem (List.mem_of_getElem? hm)
   have hti:=(toM_rem hno hlsn hvi hmm hpo).1
   have hqV:=numL_lt hti
   rw [← hV] at hqV
   have hqn:=toM_num (lens l) m (atL (lens l) p) (by omega) (fun s hs=>by rw [hvl,hn];exact hno.lt m hmm s hs)
   have hqs:=stp_pos (ls:=lens l) (hno.ne m hmm) (fun s hs=>by rw [hlsn];exact hno.lt m hmm s hs)
   have hFq:F (numL (lens l) (toM (atL (lens l) p) m))=rsV (colZ c l) (lens l) (mvL n) (toM (atL (lens l) p) m):=by rw [hF];dsimp only;rw [at_num hti]
   obtain⟨q,hq⟩:∃ q,q=(numL (lens l) (toM (atL (lens l) p) m)):=⟨_,rfl⟩
   obtain⟨X,hX⟩:∃ X,X=foldB (possM (lens l) (atL (lens l) p)) (mcV (colZ c l) (lens l) (mvL n) (atL (lens l) p)) ((posL (lens l) (atL (lens l) p) (mvL n)).take jj) (-1):=⟨_,rfl⟩
   have hXs:foldB (possM (lens l) (atL (lens l) p)) (mcV (colZ c l) (lens l) (mvL n) (atL (lens l) p)) ((posL (lens l) (atL (lens l) p) (mvL n)).take (jj+1)) (-1)=bst X (colZ c l (colT (atL (lens l) p) m)+F q):=by
    rw [take_snoc _ _ _ hm,foldB_app, ← hX,hq,hFq]
    show cond (possM (lens l) (atL (lens l) p) m) _ _=_
    rw [hpo];rfl
   rw [← hq] at hqV hqn hFq
   show T _ _ ((60, .int .i64 ((numL (lens l) (toM (atL (lens l) p) m)):Nat))::(59, .slice (some ⟨b,0,none⟩) n n)::_) _ (lrec Lp r5::blk q11 [.int .i64 ((p:Nat))] 3::blk p10 [.slice (some ⟨b1,0,none⟩) V V] 47::blk b1 ((L.set p (foldB (possM (lens l) (atL (lens l) p)) (mcV (colZ c l) (lens l) (mvL n) (atL (lens l) p)) ((posL (lens l) (atL (lens l) p) (mvL n)).take jj) (-1))).map (Value.int .i64)) 3::blk pl [.slice A n ca] 25::blk pc c.cells 23::(dfrs Dl++(row 3 1 (some ⟨b,0,none⟩) n n ((colT (atL (lens l) p) m).map (Value.int .i64))::K2)))
   rw [← hX, ← hq]
   repeat' (first|refine d1 ?_|(show ∀ _:Nat,T _ _ _ _ _;intro _)|(show T _ _ _ _ _;refine T_begin hr5 rfl ?_))
   refine T_le (H':=row 3 1 (some ⟨b,0,none⟩) n n ((colT (atL (lens l) p) m).map (Value.int .i64))::lrec Lp (busy r5)::blk q11 [.int .i64 ((p:Nat))] 3::blk p10 [.slice (some ⟨b1,0,none⟩) V V] 47::blk b1 ((L.set p X).map (Value.int .i64)) 3::blk pl [.slice A n ca] 25::blk pc c.cells 23::(dfrs Dl++K2)) (Hle.perm (List.perm_middle (l₁:=lrec Lp (busy r5)::blk q11 [.int .i64 ((p:Nat))] 3::blk p10 [.slice (some ⟨b1,0,none⟩) V V] 47::blk b1 ((L.set p X).map (Value.int .i64)) 3::blk pl [.slice A n ca] 25::blk pc c.cells 23::dfrs Dl) (l₂:=K2))) ?_
   have hLq:(L.set p X)[q]?=some (F q):=by rw [List.getElem?_set_ne (by omega)];exact hLF q (by omega) (by omega)
   have hLp:(L.set p X)[p]?=some X:=by rw [List.getElem?_set_self (by omega)]
   have hLl:((L.set p X).map (Value.int .i64)).length=V:=by rw [List.length_map,List.length_set,hL]
   have hcq:∀ w,RdC w b1 0 ((L.set p X).map (Value.int .i64))→RdC w b1 (0+(q:Int).toNat * 1) [.int .i64 (F q)]:=fun w h9=>rdAt h9 (by omega) hLq
   have hcp:∀ w,RdC w b1 0 ((L.set p X).map (Value.int .i64))→RdC w b1 (0+(p:Int).toNat * 1) [.int .i64 X]:=fun w h9=>rdAt h9 (by omega) hLp
   have hKb:=colZ_bd hc (show l.length≤32 by omega) (colT (atL (lens l) p) m)
   have hFq2:=hFb q
   refine rsH [row 3 1 (some ⟨b,0,none⟩) n n ((colT (atL (lens l) p) m).map (Value.int .i64)),lrec Lp (busy r5),blk q11 [.int .i64 ((p:Nat))] 3,blk p10 [.slice (some ⟨b1,0,none⟩) V V] 47,blk b1 ((L.set p X).map (Value.int .i64)) 3,blk pl [.slice A n ca] 25,blk pc c.cells 23] 1000 [0,1,2,4,5,6,7,3,8,9] ?_
   repeat' (first|refine d1 ?_|refine dd ?_|(show T _ (.ops _ (_::_)::_) _ _ _;first|refine T_call rfl rfl rfl rfl rfl (fun w hw=>cost19_spec c A (some ⟨b,0,none⟩) n ca n l (colT (atL (lens l) p) m) w (hg.cls hw) hc hbs (srcRw w hw) (colT_ok hvl (fun s hs=>by rw [hn];exact hno.lt m hmm s hs) hpo)) ?_|refine T_callC rfl rfl rfl rfl rfl rfl rfl (fun hg w hw=>cost19_spec c A (some ⟨b,0,none⟩) n ca n l (colT (atL (lens l) p) m) w (hg.cls hw) hc hbs (srcRw w hw) (colT_ok hvl (fun s hs=>by rw [hn];exact hno.lt m hmm s hs) hpo)) ?_|refine T_val rfl (Val.load rfl (fun hg=>(fun w hw=>hcq w (rdAll w hw)))) rfl rfl rfl ?_|refine T_valC rfl (Val.load rfl (fun hg=>(fun w hw=>hcq w (rdAll w hw)))) rfl rfl rfl rfl rfl ?_|refine T_val rfl (Val.load rfl (fun hg=>(fun w hw=>hcp w (rdAll w hw)))) rfl rfl rfl ?_|refine T_valC rfl (Val.load rfl (fun hg=>(fun w hw=>hcp w (rdAll w hw)))) rfl rfl rfl rfl rfl ?_)|(show T _ (.run _ _ (_::_) _ _::_) _ _ _;first|refine rc rfl rfl rfl rfl rfl rfl rfl (fun w hw=>cost19_spec c A (some ⟨b,0,none⟩) n ca n l (colT (atL (lens l) p) m) w (hg.cls hw) hc hbs (srcRw w hw) (colT_ok hvl (fun s hs=>by rw [hn];exact hno.lt m hmm s hs) hpo)) ?_|refine rcG rfl rfl rfl rfl rfl rfl rfl rfl rfl (fun hg w hw=>cost19_spec c A (some ⟨b,0,none⟩) n ca n l (colT (atL (lens l) p) m) w (hg.cls hw) hc hbs (srcRw w hw) (colT_ok hvl (fun s hs=>by rw [hn];exact hno.lt m hmm s hs) hpo)) ?_|refine rv rfl rfl rfl (Val.load rfl (fun hg=>(fun w hw=>hcq w (rdAll w hw)))) rfl rfl rfl ?_|refine rg rfl rfl rfl (Val.load rfl (fun hg=>(fun w hw=>hcq w (rdAll w hw)))) rfl rfl rfl rfl rfl ?_|refine rv rfl rfl rfl (Val.load rfl (fun hg=>(fun w hw=>hcp w (rdAll w hw)))) rfl rfl rfl ?_|refine rg rfl rfl rfl (Val.load rfl (fun hg=>(fun w hw=>hcp w (rdAll w hw)))) rfl rfl rfl rfl rfl ?_)|(show ∀ _:Nat,T _ _ _ _ _;intro _))
   refine T_if rfl (fun h5=>?_) (fun h5=>?_)
   ·have hbs9:bst X (colZ c l (colT (atL (lens l) p) m)+F q)=colZ c l (colT (atL (lens l) p) m)+F q:=by unfold bst;rw [if_pos (by simpa using h5)]
    repeat' (first|refine d1 ?_|refine dd ?_|(show T _ (.ops _ (_::_)::_) _ _ _;refine T_op (OpT.store rfl rfl rfl rfl (by rw [hLl];omega) ?_))|(show ∀ _:Nat,T _ _ _ _ _;intro _))
    have e9:((L.set p X).map (Value.int .i64)).set (0+(p:Int).toNat * 1) (.int .i64 (colZ c l (colT (atL (lens l) p) m)+F q))=(L.set p (colZ c l (colT (atL (lens l) p) m)+F q)).map (Value.int .i64):=by
     rw [show 0+(p:Int).toNat * 1=p by omega, ← List.map_set,List.set_set]
    rw [e9]
    refine T_next (blk q11 [.int .i64 ((p:Nat))] 3::blk p10 [.slice (some ⟨b1,0,none⟩) V V] 47::blk b1 ((L.set p (foldB (possM (lens l) (atL (lens l) p)) (mcV (colZ c l) (lens l) (mvL n) (atL (lens l) p)) ((posL (lens l) (atL (lens l) p) (mvL n)).take (jj+1)) (-1))).map (Value.int .i64)) 3::blk pl [.slice A n ca] 25::blk pc c.cells 23::dfrs Dl) rfl ?_
    rw [hXs,hbs9]
    exact Hle.tail _ _
   ·have hbs9:bst X (colZ c l (colT (atL (lens l) p) m)+F q)=X:=by unfold bst;rw [if_neg (by simpa using h5)]
    refine T_next (blk q11 [.int .i64 ((p:Nat))] 3::blk p10 [.slice (some ⟨b1,0,none⟩) V V] 47::blk b1 ((L.set p (foldB (possM (lens l) (atL (lens l) p)) (mcV (colZ c l) (lens l) (mvL n) (atL (lens l) p)) ((posL (lens l) (atL (lens l) p) (mvL n)).take (jj+1)) (-1))).map (Value.int .i64)) 3::blk pl [.slice A n ca] 25::blk pc c.cells 23::dfrs Dl) rfl ?_
    rw [hXs,hbs9]
    exact Hle.tail _ _
  ·rintro D Hn rfl
   have hFp:foldB (possM (lens l) (atL (lens l) p)) (mcV (colZ c l) (lens l) (mvL n) (atL (lens l) p)) ((posL (lens l) (atL (lens l) p) (mvL n)).take (posL (lens l) (atL (lens l) p) (mvL n)).length) (-1)=F p:=by rw [List.take_length,foldB_posL, ← hstep,hF]
   rw [hFp]
   show T (FC _ _ ((D::Dl).map mkD) _ _ _) _ _ _ (dfr D::blk g2 [.int .i64 (p:Nat)] 3::blk g3 [.slice Am (mvL n).length cm] 30::blk g1 [.pointer (some ⟨pg,0,none⟩)] 123::blk pg (gridL A n ca (lens l) 0) 129::fz pm::blk q11 [.int .i64 ((p:Nat))] 3::blk p10 [.slice (some ⟨b1,0,none⟩) V V] 47::blk b1 ((L.set p (F p)).map (Value.int .i64)) 3::blk pl [.slice A n ca] 25::blk pc c.cells 23::dfrs Dl)
   repeat' (first|refine d1 ?_|refine dd ?_|(show ∀ _:Nat,T _ _ _ _ _;intro _))
   rename_i n11
   show T _ (.mark _::_) _ _ _
   refine T_backD (p,n11,L.set p (F p),D::Dl) ⟨by dsimp only;omega,by dsimp only;rw [List.length_set,hL],fun q h5 h6=>?_⟩ (by dsimp only;omega) rfl (hG:=?_)
   ·dsimp only at h5 ⊢
    by_cases hqp:q=p
    ·rw [hqp,List.getElem?_set_self (by omega)]
    ·rw [List.getElem?_set_ne (by omega)];exact hLF q (by omega) h6
   ·dsimp only
    exact Hle.srtT (A:=[blk n11 [.int .i64 ((p:Int) - 1)] 3,dfr D,blk g2 [.int .i64 (p:Nat)] 3,blk g3 [.slice Am (mvL n).length cm] 30,blk g1 [.pointer (some ⟨pg,0,none⟩)] 123,blk pg (gridL A n ca (lens l) 0) 129,fz pm,blk q11 [.int .i64 ((p:Nat))] 3,blk p10 [.slice (some ⟨b1,0,none⟩) V V] 47,blk b1 ((L.set p (F p)).map (Value.int .i64)) 3,blk pl [.slice A n ca] 25,blk pc c.cells 23]) (K:=[blk n11 [.int .i64 ((p:Int) - 1)] 3,blk p10 [.slice (some ⟨b1,0,none⟩) V V] 47,blk b1 ((L.set p (F p)).map (Value.int .i64)) 3,fz pm,blk pg (gridL A n ca (lens l) 0) 129,blk pl [.slice A n ca] 25,blk pc c.cells 23,dfr D]) (dfrs Dl)
end Go.Proofs.YtblnhdnogjijiaaGreatDoor
namespace Go.Proofs.YtblnhdnogjijiaaGreatDoor
open Go.RowKit Go.Shelf

end Go.Proofs.YtblnhdnogjijiaaGreatDoor
namespace Go.Proofs.YtblnhdnogjijiaaGreatDoor
open Go.RowKit Go.Shelf Go.Proofs
set_option maxRecDepth 100000
set_option linter.unusedSectionVars false
set_option maxHeartbeats 1000000

def pg (p:List Int) (q:Nat):Int:=p.getD q 0
section
variable {K:List Int→Int} (hK:∀ x,0≤K x) {ls:List Nat} {n:Nat} {Ms:List (List Nat)} (hM:MvsOk n Ms) (hn:ls.length=n)
include hK hM hn
end
section
variable {K:List Int→Int} {ls:List Nat} {n:Nat} {Ms:List (List Nat)} (hM:MvsOk n Ms) (hn:ls.length=n) {p:List Int}
include hM hn
end
section
variable {K:List Int→Int} (hK:∀ x,0≤K x) {ls:List Nat} {n:Nat} {Ms:List (List Nat)} (hM:MvsOk n Ms) (hn:ls.length=n)
include hK hM hn
end
end Go.Proofs.YtblnhdnogjijiaaGreatDoor
namespace Go.Proofs.YtblnhdnogjijiaaGreatDoor
open Go.RowKit Go.Shelf Go.Proofs

end Go.Proofs.YtblnhdnogjijiaaGreatDoor
namespace Go.Proofs.YtblnhdnogjijiaaGreatDoor
open Go.RowKit Go.Shelf Go.Proofs

end Go.Proofs.YtblnhdnogjijiaaGreatDoor
namespace Go.Proofs.YtblnhdnogjijiaaGreatDoor
open Go.RowKit Go.Shelf Go.Proofs

end Go.Proofs.YtblnhdnogjijiaaGreatDoor
namespace Go.Proofs.YtblnhdnogjijiaaGreatDoor
open Go.RowKit Go.Shelf Go.Proofs
set_option maxRecDepth 100000

end Go.Proofs.YtblnhdnogjijiaaGreatDoor
namespace Go.Proofs.YtblnhdnogjijiaaGreatDoor
open Go.RowKit Go.Shelf Go.Proofs
set_option maxRecDepth 100000
set_option maxHeartbeats 1000000

end Go.Proofs.YtblnhdnogjijiaaGreatDoor
namespace Go.Proofs.YtblnhdnogjijiaaGreatDoor
open Go.RowKit Go.Shelf Go.Proofs
set_option maxRecDepth 100000
set_option maxHeartbeats 1000000

end Go.Proofs.YtblnhdnogjijiaaGreatDoor
namespace Go.Proofs.YtblnhdnogjijiaaGreatDoor
open Go.RowKit Go.Shelf Go.Proofs
set_option maxRecDepth 100000
set_option maxHeartbeats 1000000

end Go.Proofs.YtblnhdnogjijiaaGreatDoor
namespace Go.Proofs.YtblnhdnogjijiaaGreatDoor
open Go.RowKit Go.Shelf Go.Proofs
set_option maxRecDepth 100000
set_option maxHeartbeats 1000000

end Go.Proofs.YtblnhdnogjijiaaGreatDoor
namespace Go.Proofs.YtblnhdnogjijiaaGreatDoor
open Go.RowKit Go.Shelf Go.Proofs
set_option maxRecDepth 100000
set_option maxHeartbeats 1000000

end Go.Proofs.YtblnhdnogjijiaaGreatDoor
namespace Go.Proofs.YtblnhdnogjijiaaGreatDoor
open Go.RowKit Go.Shelf Go.Proofs
set_option maxRecDepth 100000
set_option maxHeartbeats 1000000

end Go.Proofs.YtblnhdnogjijiaaGreatDoor
namespace Go.Proofs.YtblnhdnogjijiaaGreatDoor
open Go.RowKit Go.Shelf

instance (priority:=low) SubP.same (H:List HA):SubP H H:=⟨id,fun i B h=>h,fun i j _ _ h=>h⟩
inductive Pq:List HA→List HA→Prop where
 | nil (H:List HA):Pq H []
 | same (H:List HA):Pq H H
 | cons {A:HA} {H H' K:List HA} (h:Rm A H H') (k:Pq H' K):Pq H (A::K)
 | drop {A:HA} {H K:List HA} (k:Pq H K):Pq (A::H) K
theorem Pq.spec {H K:List HA} (h:Pq H K):PickP H K:=by
 induction h with
 | nil H=>exact PickP.nil H
 | same H=>exact⟨id,fun i B h=>h,fun i j _ _ h=>h⟩
 | cons h _ ih=>exact PickP.cons _ _ _ _ (h:=h.spec) (k:=ih)
 | drop _ ih =>
  obtain⟨p,h1,h2⟩:=ih.at_
  exact⟨fun i=>p i+1,fun i B hi=>by simpa using h1 i B hi,fun i j hi hj hne=>by have:=h2 i j hi hj hne;dsimp only;omega⟩
end Go.Proofs.YtblnhdnogjijiaaGreatDoor
namespace Go.Proofs.YtblnhdnogjijiaaGreatDoor
open Go.RowKit Go.Shelf Go.Proofs
set_option maxRecDepth 100000
set_option maxHeartbeats 1000000

end Go.Proofs.YtblnhdnogjijiaaGreatDoor
namespace Go.Proofs.YtblnhdnogjijiaaGreatDoor
open Go.RowKit Go.Shelf Go.Proofs
set_option maxRecDepth 100000
set_option maxHeartbeats 1000000

theorem InB.take:∀ {ls v:List Nat},InB ls v→∀ k,InB (ls.take k) (v.take k)
 | [],[],_,k=>by simp [InB]
 | n::ls,a::v,h,0=>trivial
 | n::ls,a::v,h,k+1=>⟨h.1,InB.take h.2 k⟩
 | [],a::v,h,_=>h.elim
 | n::ls,[],h,_=>h.elim
end Go.Proofs.YtblnhdnogjijiaaGreatDoor
namespace Go.Proofs.YtblnhdnogjijiaaGreatDoor
open Go.RowKit Go.Shelf Go.Proofs
set_option maxRecDepth 100000
set_option maxHeartbeats 1000000

def goodK (F:Nat→Int) (V:Nat) (L:List Int):Prop:=L.length=V∧∀ (q:Nat) (z:Int),L[q]?=some z→z = -1∨z=F q
theorem goodK.put {F:Nat→Int} {V:Nat} {L:List Int} (h:goodK F V L) (p:Nat):goodK F V (L.set p (F p)):=by
 refine ⟨by rw [List.length_set];exact h.1,fun q z hz=>?_⟩
 by_cases e:p=q
 ·subst e
  rw [List.getElem?_set] at hz
  simp only [if_true] at hz
  split at hz
  ·injection hz with hz;exact .inr hz.symm
  ·cases hz
 ·rw [List.getElem?_set_ne e] at hz
  exact h.2 q z hz
end Go.Proofs.YtblnhdnogjijiaaGreatDoor
namespace Go.Proofs.YtblnhdnogjijiaaGreatDoor
open Go.RowKit Go.Shelf Go.Proofs
set_option maxRecDepth 100000
set_option maxHeartbeats 1000000

end Go.Proofs.YtblnhdnogjijiaaGreatDoor
namespace Go.Proofs.YtblnhdnogjijiaaGreatDoor
open Go.RowKit Go.Shelf Go.Proofs
set_option maxRecDepth 100000
set_option maxHeartbeats 1000000

theorem sameStr22_spec (x y:Value) (p q:List ByteArray) (w:World) (hx:Rd (wr w) [x] [strsD p]) (hy:Rd (wr w) [y] [strsD q]) :
  Spec Tryz.prog 60 [x,y] w (fun v R=>v = .bool (decide (p=q))∧R=[]):=by
 obtain⟨A,ca,rfl,hnc,hnb,hl⟩:=hx.strs
 obtain⟨B,cb,rfl,hmc,hmb,hb⟩:=hy.strs
 refine spec_of sg Tryz.func60 rfl rfl rfl ?_
 repeat' (first|refine d1 ?_|refine dd ?_|(show ∀ _:Nat,T _ _ _ _ _;intro _))
 refine T_if rfl (fun h=>?_) (fun h=>?_)
 ·simp only [Bool.not_eq_true',decide_eq_false_iff_not] at h
  repeat' (first|refine d1 ?_|refine dd ?_|(show ∀ _:Nat,T _ _ _ _ _;intro _)|(show T _ (.code .ret::_) _ _ _;refine T_retV [] rfl (Hle.none _) ⟨?_,rfl⟩))
  rw [decide_eq_false (fun e=>h (by rw [e]))];rfl
 simp only [Bool.not_eq_false',decide_eq_true_eq] at h
 repeat' (first|refine d1 ?_|refine dd ?_|(show ∀ _:Nat,T _ _ _ _ _;intro _))
 refine T_loopX (fun k:Nat=>[(5, .int .i64 k)]) (fun _=>[]) (fun k=>k≤p.length∧∀ j,j<k→p[j]?=q[j]?) (fun k=>p.length - k) 0 ⟨by omega,fun j h=>by omega⟩ ?_
 rintro k ⟨hk,hok⟩
 repeat' (first|refine d1 ?_|refine dd ?_|(show ∀ _:Nat,T _ _ _ _ _;intro _))
 refine T_if rfl (fun h3=>?_) (fun h3=>?_)
 ·simp only [decide_eq_true_eq] at h3
  have hkn:k<p.length:=by omega
  have hkq:k<q.length:=by omega
  obtain⟨ba,oa,rfl⟩:=hl.base (by omega)
  obtain⟨bb,ob,rfl⟩:=hb.base (by omega)
  obtain⟨u,hu⟩:∃ u,p[k]?=some u:=⟨_,List.getElem?_eq_getElem hkn⟩
  obtain⟨v,hv⟩:∃ v,q[k]?=some v:=⟨_,List.getElem?_eq_getElem hkq⟩
  have hr1:RdC w ba (oa+(k:Int).toNat * 1) [.string u]:=(hl.get1 (by omega) (by rw [Int.toNat_natCast,List.getElem?_map,hu];rfl)).2
  have hr2:RdC w bb (ob+(k:Int).toNat * 1) [.string v]:=(hb.get1 (by omega) (by rw [Int.toNat_natCast,List.getElem?_map,hv];rfl)).2
  repeat' (first|refine d1 ?_|refine dd ?_|(show ∀ _:Nat,T _ _ _ _ _;intro _))
  refine T_if rfl (fun h4=>?_) (fun h4=>?_)
  ·simp only [Bool.not_eq_true',decide_eq_false_iff_not] at h4
   repeat' (first|refine d1 ?_|refine dd ?_|(show ∀ _:Nat,T _ _ _ _ _;intro _)|(show T _ (.code .ret::_) _ _ _;refine T_retV [] rfl (Hle.none _) ⟨?_,rfl⟩))
   rw [decide_eq_false (fun e=>h4 (by rw [e,hv] at hu;exact (Option.some.inj hu).symm))];rfl
  ·simp only [Bool.not_eq_false',decide_eq_true_eq] at h4
   repeat' (first|refine d1 ?_|refine dd ?_|(show ∀ _:Nat,T _ _ _ _ _;intro _))
   refine T_backX (k+1) ⟨by omega,fun j hj=>?_⟩ (by omega)
   rcases Nat.lt_or_ge j k with h5|h5
   ·exact hok j h5
   ·rw [show j=k by omega,hu,hv,h4]
 ·simp only [decide_eq_false_iff_not] at h3
  repeat' (first|refine d1 ?_|refine dd ?_|(show ∀ _:Nat,T _ _ _ _ _;intro _)|(show T _ (.code .ret::_) _ _ _;refine T_retV [] rfl (Hle.none _) ⟨?_,rfl⟩))
  rw [decide_eq_true (list_eq_of (by omega) fun j hj=>hok j (by omega))];rfl
theorem sameCols22_spec (x y:Value) (a b:List (List Int)) (w:World) (hx:Rd (wr w) [x] [rowsD a]) (hy:Rd (wr w) [y] [rowsD b]) :
  Spec Tryz.prog 61 [x,y] w (fun v R=>v = .bool (decide (a=b))∧R=[]):=by
 obtain⟨A,ca,cs,rfl,ha1,ha2,hcs,hA,hrA⟩:=hx.tab
 obtain⟨B,cb,ds,rfl,hb1,hb2,hds,hB,hrB⟩:=hy.tab
 refine spec_of sg Tryz.func61 rfl rfl rfl ?_
 repeat' (first|refine d1 ?_|refine dd ?_|(show ∀ _:Nat,T _ _ _ _ _;intro _))
 refine T_if rfl (fun h=>?_) (fun h=>?_)
 ·simp only [Bool.not_eq_true',decide_eq_false_iff_not] at h
  repeat' (first|refine d1 ?_|refine dd ?_|(show ∀ _:Nat,T _ _ _ _ _;intro _)|(show T _ (.code .ret::_) _ _ _;refine T_retV [] rfl (Hle.none _) ⟨?_,rfl⟩))
  rw [decide_eq_false (fun e=>h (by rw [e]))];rfl
 simp only [Bool.not_eq_false',decide_eq_true_eq] at h
 repeat' (first|refine d1 ?_|refine dd ?_|(show ∀ _:Nat,T _ _ _ _ _;intro _))
 refine T_loopX (fun k:Nat=>[(5, .int .i64 k)]) (fun _=>[]) (fun k=>k≤a.length∧∀ j,j<k→a[j]?=b[j]?) (fun k=>a.length - k) 0 ⟨by omega,fun j h=>by omega⟩ ?_
 rintro k ⟨hk,hok⟩
 repeat' (first|refine d1 ?_|refine dd ?_|(show ∀ _:Nat,T _ _ _ _ _;intro _))
 refine T_if rfl (fun h3=>?_) (fun h3=>?_)
 ·simp only [decide_eq_true_eq] at h3
  obtain⟨b1,o1,rfl,hA2⟩:=hA (by omega)
  obtain⟨b2,o2,rfl,hB2⟩:=hB (by omega)
  obtain⟨p,hp⟩:∃ u,a[k]?=some u:=⟨_,List.getElem?_eq_getElem (by omega)⟩
  obtain⟨q,hq⟩:∃ v,b[k]?=some v:=⟨_,List.getElem?_eq_getElem (by omega)⟩
  obtain⟨A',capA,hcA,hlA,hmA,hA3⟩:=hrA.tabRow hp
  obtain⟨B',capB,hcB,hlB,hmB,hB3⟩:=hrB.tabRow hq
  have hr1:RdC w b1 (o1+(k:Int).toNat * 1) [.slice A' p.length capA]:=RdC.one (by rw [off1];exact hA2 k _ hcA)
  have hr2:RdC w b2 (o2+(k:Int).toNat * 1) [.slice B' q.length capB]:=RdC.one (by rw [off1];exact hB2 k _ hcB)
  repeat' (first|refine d1 ?_|refine dd ?_|(show ∀ _:Nat,T _ _ _ _ _;intro _))
  refine T_if rfl (fun h4=>?_) (fun h4=>?_)
  ·simp only [Bool.not_eq_true',decide_eq_false_iff_not] at h4
   repeat' (first|refine d1 ?_|refine dd ?_|(show ∀ _:Nat,T _ _ _ _ _;intro _)|(show T _ (.code .ret::_) _ _ _;refine T_retV [] rfl (Hle.none _) ⟨?_,rfl⟩))
   rw [decide_eq_false (fun e=>h4 (by rw [e,hq] at hp;rw [Option.some.inj hp]))];rfl
  simp only [Bool.not_eq_false',decide_eq_true_eq] at h4
  repeat' (first|refine d1 ?_|refine dd ?_|(show ∀ _:Nat,T _ _ _ _ _;intro _))
  refine T_loopX (fun i:Nat=>[(6, .int .i64 i)]) (fun _=>[]) (fun i=>i≤p.length∧∀ j,j<i→p[j]?=q[j]?) (fun i=>p.length - i) 0 ⟨by omega,fun j h=>by omega⟩ ?_
  rintro i ⟨hi,hoki⟩
  repeat' (first|refine d1 ?_|refine dd ?_|(show ∀ _:Nat,T _ _ _ _ _;intro _))
  refine T_if rfl (fun h5=>?_) (fun h5=>?_)
  ·simp only [decide_eq_true_eq] at h5
   obtain⟨b3,o3,rfl,hA4⟩:=hA3 (by omega)
   obtain⟨b4,o4,rfl,hB4⟩:=hB3 (by omega)
   obtain⟨u,hu⟩:∃ u,p[i]?=some u:=⟨_,List.getElem?_eq_getElem (by omega)⟩
   obtain⟨v,hv⟩:∃ v,q[i]?=some v:=⟨_,List.getElem?_eq_getElem (by omega)⟩
   have hr3:RdC w b3 (o3+(i:Int).toNat * 1) [.int .i64 u]:=RdC.one (by rw [off1];exact hA4 i _ hu)
   have hr4:RdC w b4 (o4+(i:Int).toNat * 1) [.int .i64 v]:=RdC.one (by rw [off1];exact hB4 i _ hv)
   repeat' (first|refine d1 ?_|refine dd ?_|(show ∀ _:Nat,T _ _ _ _ _;intro _))
   refine T_if rfl (fun h6=>?_) (fun h6=>?_)
   ·simp only [Bool.not_eq_true',decide_eq_false_iff_not] at h6
    repeat' (first|refine d1 ?_|refine dd ?_|(show ∀ _:Nat,T _ _ _ _ _;intro _)|(show T _ (.code .ret::_) _ _ _;refine T_retV [] rfl (Hle.none _) ⟨?_,rfl⟩))
    rw [decide_eq_false (fun e=>h6 (by rw [e,hq] at hp;rw [Option.some.inj hp,hu] at hv;exact Option.some.inj hv))];rfl
   ·simp only [Bool.not_eq_false',decide_eq_true_eq] at h6
    repeat' (first|refine d1 ?_|refine dd ?_|(show ∀ _:Nat,T _ _ _ _ _;intro _))
    refine T_backX (i+1) ⟨by omega,fun j hj=>?_⟩ (by omega)
    rcases Nat.lt_or_ge j i with h7|h7
    ·exact hoki j h7
    ·rw [show j=i by omega,hu,hv,h6]
  ·simp only [decide_eq_false_iff_not] at h5
   repeat' (first|refine d1 ?_|refine dd ?_|(show ∀ _:Nat,T _ _ _ _ _;intro _))
   refine T_backX (k+1) ⟨by omega,fun j hj=>?_⟩ (by omega)
   rcases Nat.lt_or_ge j k with h7|h7
   ·exact hok j h7
   ·rw [show j=k by omega,hp,hq,list_eq_of (by omega) fun j hj=>hoki j (by omega)]
 ·simp only [decide_eq_false_iff_not] at h3
  repeat' (first|refine d1 ?_|refine dd ?_|(show ∀ _:Nat,T _ _ _ _ _;intro _)|(show T _ (.code .ret::_) _ _ _;refine T_retV [] rfl (Hle.none _) ⟨?_,rfl⟩))
  rw [decide_eq_true (list_eq_of (by omega) fun j hj=>hok j (by omega))];rfl
theorem sameToks22_spec (A B:Option Addr) (ca cb:Nat) (a b:List TS) (w:World) (ha:Src w 1 A a.length (a.map TS.val)) (hal:TsOk w a) (han:a.length≤9223372036854775807) (hb:Src w 1 B b.length (b.map TS.val)) (hbl:TsOk w b) (hbn:b.length≤9223372036854775807) :
  Spec Tryz.prog 31 [.slice A a.length ca, .slice B b.length cb] w (fun v R=>v = .bool (decide (a.map TS.l=b.map TS.l))∧R=[]):=by
 refine spec_of sg Tryz.func31 rfl rfl rfl ?_
 repeat' (first|refine d1 ?_|refine dd ?_|(show ∀ _:Nat,T _ _ _ _ _;intro _))
 refine T_if rfl (fun h=>?_) (fun h=>?_)
 ·simp only [Bool.not_eq_true',decide_eq_false_iff_not] at h
  repeat' (first|refine d1 ?_|refine dd ?_|(show ∀ _:Nat,T _ _ _ _ _;intro _)|(show T _ (.code .ret::_) _ _ _;refine T_retV [] rfl (Hle.none _) ⟨?_,rfl⟩))
  rw [decide_eq_false (fun e=>h (by have:=congrArg List.length e;rw [List.length_map,List.length_map] at this;omega))];rfl
 simp only [Bool.not_eq_false',decide_eq_true_eq] at h
 repeat' (first|refine d1 ?_|refine dd ?_|(show ∀ _:Nat,T _ _ _ _ _;intro _))
 refine T_loopX (fun k:Nat=>[(5, .int .i64 k)]) (fun _=>[]) (fun k=>k≤a.length∧∀ j,j<k→(a.map TS.l)[j]?=(b.map TS.l)[j]?) (fun k=>a.length - k) 0 ⟨by omega,fun j h=>by omega⟩ ?_
 rintro k ⟨hk,hok⟩
 repeat' (first|refine d1 ?_|refine dd ?_|(show ∀ _:Nat,T _ _ _ _ _;intro _))
 refine T_if rfl (fun h3=>?_) (fun h3=>?_)
 ·simp only [decide_eq_true_eq] at h3
  obtain⟨b1,o1,rfl⟩:=ha.base (by omega)
  obtain⟨b2,o2,rfl⟩:=hb.base (by omega)
  obtain⟨p,hp⟩:∃ u,a[k]?=some u:=⟨_,List.getElem?_eq_getElem (by omega)⟩
  obtain⟨q,hq⟩:∃ v,b[k]?=some v:=⟨_,List.getElem?_eq_getElem (by omega)⟩
  have hp2:(a.map TS.l)[k]?=some p.l:=by rw [List.getElem?_map,hp];rfl
  have hq2:(b.map TS.l)[k]?=some q.l:=by rw [List.getElem?_map,hq];rfl
  have hpm:=List.mem_of_getElem? hp
  have hqm:=List.mem_of_getElem? hq
  have hpl:=hal.len p hpm
  have hql:=hbl.len q hqm
  have hpb:=hal.bd p hpm
  have hqb:=hbl.bd q hqm
  have hps:=hal.src p hpm
  have hqs:=hbl.src q hqm
  have hr1:RdC w b1 (o1+(k:Int).toNat * 1) [.slice p.A p.n p.cap]:=by
   have h9:=(ha.get1 (i:=k) (by omega) (by rw [List.getElem?_map,hp];rfl)).2
   rw [Nat.mul_one] at h9
   rw [off1]
   exact h9
  have hr2:RdC w b2 (o2+(k:Int).toNat * 1) [.slice q.A q.n q.cap]:=by
   have h9:=(hb.get1 (i:=k) (by omega) (by rw [List.getElem?_map,hq];rfl)).2
   rw [Nat.mul_one] at h9
   rw [off1]
   exact h9
  repeat' (first|refine d1 ?_|refine dd ?_|(show ∀ _:Nat,T _ _ _ _ _;intro _))
  refine T_if rfl (fun h4=>?_) (fun h4=>?_)
  ·simp only [Bool.not_eq_true',decide_eq_false_iff_not] at h4
   repeat' (first|refine d1 ?_|refine dd ?_|(show ∀ _:Nat,T _ _ _ _ _;intro _)|(show T _ (.code .ret::_) _ _ _;refine T_retV [] rfl (Hle.none _) ⟨?_,rfl⟩))
   rw [decide_eq_false (fun e=>h4 (by rw [e,hq2] at hp2;rw [← hpl, ← hql,Option.some.inj hp2]))];rfl
  simp only [Bool.not_eq_false',decide_eq_true_eq] at h4
  repeat' (first|refine d1 ?_|refine dd ?_|(show ∀ _:Nat,T _ _ _ _ _;intro _))
  refine T_loopX (fun i:Nat=>[(6, .int .i64 i)]) (fun _=>[]) (fun i=>i≤p.n∧∀ j,j<i→p.l[j]?=q.l[j]?) (fun i=>p.n - i) 0 ⟨by omega,fun j h=>by omega⟩ ?_
  rintro i ⟨hi,hoki⟩
  repeat' (first|refine d1 ?_|refine dd ?_|(show ∀ _:Nat,T _ _ _ _ _;intro _))
  refine T_if rfl (fun h5=>?_) (fun h5=>?_)
  ·simp only [decide_eq_true_eq] at h5
   obtain⟨b3,o3,eA⟩:=hps.base (by omega)
   obtain⟨b4,o4,eB⟩:=hqs.base (by omega)
   obtain⟨u,hu⟩:∃ u,p.l[i]?=some u:=⟨_,List.getElem?_eq_getElem (by omega)⟩
   obtain⟨v,hv⟩:∃ v,q.l[i]?=some v:=⟨_,List.getElem?_eq_getElem (by omega)⟩
   have hr3:RdC w b3 (o3+(i:Int).toNat * 6) u.cells:=by have:=hps.getT (k:=i) (by omega) hu;rw [eA] at this;exact this
   have hr4:RdC w b4 (o4+(i:Int).toNat * 6) v.cells:=by have:=hqs.getT (k:=i) (by omega) hv;rw [eB] at this;exact this
   rw [eA] at hr1
   rw [eB] at hr2
   repeat' (first|refine d1 ?_|refine dd ?_|(show T _ (.ops _ (_::_)::_) _ _ _;first|refine T_val rfl (Val.loadA (vs:=u.cells) rfl (fun hg=>rdOld hr3) rfl) rfl rfl rfl ?_|refine T_valC rfl (Val.loadA (vs:=u.cells) rfl (fun hg=>rdOld hr3) rfl) rfl rfl rfl rfl rfl ?_|refine T_val rfl (Val.loadA (vs:=v.cells) rfl (fun hg=>rdOld hr4) rfl) rfl rfl rfl ?_|refine T_valC rfl (Val.loadA (vs:=v.cells) rfl (fun hg=>rdOld hr4) rfl) rfl rfl rfl rfl rfl ?_|refine T_val rfl (Val.eqS (r:=decide (u=v)) rfl (fun w=>eqTok u v w) Tryz.eqGuardType42) rfl rfl rfl ?_|refine T_valC rfl (Val.eqS (r:=decide (u=v)) rfl (fun w=>eqTok u v w) Tryz.eqGuardType42) rfl rfl rfl rfl rfl ?_)|(show T _ (.run _ _ (_::_) _ _::_) _ _ _;first|refine rv rfl rfl rfl (Val.loadA (vs:=u.cells) rfl (fun hg=>rdOld hr3) rfl) rfl rfl rfl ?_|refine rg rfl rfl rfl (Val.loadA (vs:=u.cells) rfl (fun hg=>rdOld hr3) rfl) rfl rfl rfl rfl rfl ?_|refine rv rfl rfl rfl (Val.loadA (vs:=v.cells) rfl (fun hg=>rdOld hr4) rfl) rfl rfl rfl ?_|refine rg rfl rfl rfl (Val.loadA (vs:=v.cells) rfl (fun hg=>rdOld hr4) rfl) rfl rfl rfl rfl rfl ?_|refine rv rfl rfl rfl (Val.eqS (r:=decide (u=v)) rfl (fun w=>eqTok u v w) Tryz.eqGuardType42) rfl rfl rfl ?_|refine rg rfl rfl rfl (Val.eqS (r:=decide (u=v)) rfl (fun w=>eqTok u v w) Tryz.eqGuardType42) rfl rfl rfl rfl rfl ?_)|(show ∀ _:Nat,T _ _ _ _ _;intro _))
   refine T_if rfl (fun h6=>?_) (fun h6=>?_)
   ·have h6:decide (u=v)=false:=by simpa using h6
    rw [decide_eq_false_iff_not] at h6
    repeat' (first|refine d1 ?_|refine dd ?_|(show ∀ _:Nat,T _ _ _ _ _;intro _)|(show T _ (.code .ret::_) _ _ _;refine T_retV [] rfl (Hle.none _) ⟨?_,rfl⟩))
    rw [decide_eq_false (fun e=>h6 (by rw [e,hq2] at hp2;rw [← Option.some.inj hp2,hv] at hu;exact (Option.some.inj hu).symm))];rfl
   ·have h6:decide (u=v)=true:=by simpa using h6
    rw [decide_eq_true_eq] at h6
    repeat' (first|refine d1 ?_|refine dd ?_|(show ∀ _:Nat,T _ _ _ _ _;intro _))
    refine T_backX (i+1) ⟨by omega,fun j hj=>?_⟩ (by omega)
    rcases Nat.lt_or_ge j i with h7|h7
    ·exact hoki j h7
    ·rw [show j=i by omega,hu,hv,h6]
  ·simp only [decide_eq_false_iff_not] at h5
   repeat' (first|refine d1 ?_|refine dd ?_|(show ∀ _:Nat,T _ _ _ _ _;intro _))
   refine T_backX (k+1) ⟨by omega,fun j hj=>?_⟩ (by omega)
   rcases Nat.lt_or_ge j k with h7|h7
   ·exact hok j h7
   ·rw [show j=k by omega,hp2,hq2,list_eq_of (by omega) fun j hj=>hoki j (by omega)]
 ·simp only [decide_eq_false_iff_not] at h3
  repeat' (first|refine d1 ?_|refine dd ?_|(show ∀ _:Nat,T _ _ _ _ _;intro _)|(show T _ (.code .ret::_) _ _ _;refine T_retV [] rfl (Hle.none _) ⟨?_,rfl⟩))
  rw [decide_eq_true (list_eq_of (by rw [List.length_map,List.length_map];omega) fun j hj=>hok j (by rw [List.length_map] at hj;omega))];rfl
structure CoSm (w:World) (x:Co) (A1:Option Addr) (c1:Nat) (l:List TS) (A2:Option Addr) (c2:Nat) (y3:Value):Prop where
 s1:Rd (wr w) [.slice A1 x.sg.length c1] [strsD x.sg]
 s2:Src w 1 A2 l.length (l.map TS.val)
 b2:l.length≤9223372036854775807
 ok:TsOk w l
 m:l.map TS.l=x.m
 cols:Rd (wr w) [y3] [rowsD x.cols]
theorem CoSm.cls {w0 w:World} {H:List HA} {x:Co} {A1 A2:Option Addr} {c1 c2:Nat} {l:List TS} {y3:Value} (h:CoSm w0 x A1 c1 l A2 c2 y3) (hw:Cls w0 w H):CoSm w x A1 c1 l A2 c2 y3:=⟨h.s1.old hw,h.s2.old hw,h.b2,⟨fun t ht=>src_below (h.ok.src t ht) hw.below,h.ok.len,h.ok.bd⟩,h.m,h.cols.old hw⟩
theorem sameR22_spec (x y:Co) (A1 B1:Option Addr) (c1 d1':Nat) (l k:List TS) (A2 B2:Option Addr) (c2 d2:Nat) (y3 z3:Value) (w:World) (hx:CoSm w x A1 c1 l A2 c2 y3) (hy:CoSm w y B1 d1' k B2 d2 z3) :
  Spec Tryz.prog 16 [.agg (coL x.sec (.slice A1 x.sg.length c1) (.slice A2 l.length c2) y3).toArray, .agg (coL y.sec (.slice B1 y.sg.length d1') (.slice B2 k.length d2) z3).toArray] w (fun v R=>v = .bool (same22 x y)∧R=[]):=by
 refine spec_of sg Tryz.func16 rfl rfl rfl ?_
 refine T_op (OpT.box (cs:=coL x.sec (.slice A1 x.sg.length c1) (.slice A2 l.length c2) y3) rfl rfl rfl rfl rfl rfl rfl (fun pc=>?_))
 refine T_op (OpT.box (cs:=coL y.sec (.slice B1 y.sg.length d1') (.slice B2 k.length d2) z3) rfl rfl rfl rfl rfl rfl rfl (fun pd=>?_))
 have hmx:=hx.m
 have hmy:=hy.m
 repeat' (first|refine d1 ?_|refine dd ?_|(show T _ (.ops _ (_::_)::_) _ _ _;first|refine T_call rfl rfl rfl rfl rfl (fun w hw=>sameStr22_spec _ _ x.sg y.sg w ((hx.cls hw).s1) ((hy.cls hw).s1)) ?_|refine T_callC rfl rfl rfl rfl rfl rfl rfl (fun hg w hw=>sameStr22_spec _ _ x.sg y.sg w ((hx.cls hw).s1) ((hy.cls hw).s1)) ?_|refine T_call rfl rfl rfl rfl rfl (fun w hw=>sameToks22_spec A2 B2 c2 d2 l k w ((hx.cls hw).s2) ((hx.cls hw).ok) hx.b2 ((hy.cls hw).s2) ((hy.cls hw).ok) hy.b2) ?_|refine T_callC rfl rfl rfl rfl rfl rfl rfl (fun hg w hw=>sameToks22_spec A2 B2 c2 d2 l k w ((hx.cls hw).s2) ((hx.cls hw).ok) hx.b2 ((hy.cls hw).s2) ((hy.cls hw).ok) hy.b2) ?_|refine T_call rfl rfl rfl rfl rfl (fun w hw=>sameCols22_spec _ _ x.cols y.cols w ((hx.cls hw).cols) ((hy.cls hw).cols)) ?_|refine T_callC rfl rfl rfl rfl rfl rfl rfl (fun hg w hw=>sameCols22_spec _ _ x.cols y.cols w ((hx.cls hw).cols) ((hy.cls hw).cols)) ?_)|(show T _ (.run _ _ (_::_) _ _::_) _ _ _;first|refine rc rfl rfl rfl rfl rfl rfl rfl (fun w hw=>sameStr22_spec _ _ x.sg y.sg w ((hx.cls hw).s1) ((hy.cls hw).s1)) ?_|refine rcG rfl rfl rfl rfl rfl rfl rfl rfl rfl (fun hg w hw=>sameStr22_spec _ _ x.sg y.sg w ((hx.cls hw).s1) ((hy.cls hw).s1)) ?_|refine rc rfl rfl rfl rfl rfl rfl rfl (fun w hw=>sameToks22_spec A2 B2 c2 d2 l k w ((hx.cls hw).s2) ((hx.cls hw).ok) hx.b2 ((hy.cls hw).s2) ((hy.cls hw).ok) hy.b2) ?_|refine rcG rfl rfl rfl rfl rfl rfl rfl rfl rfl (fun hg w hw=>sameToks22_spec A2 B2 c2 d2 l k w ((hx.cls hw).s2) ((hx.cls hw).ok) hx.b2 ((hy.cls hw).s2) ((hy.cls hw).ok) hy.b2) ?_|refine rc rfl rfl rfl rfl rfl rfl rfl (fun w hw=>sameCols22_spec _ _ x.cols y.cols w ((hx.cls hw).cols) ((hy.cls hw).cols)) ?_|refine rcG rfl rfl rfl rfl rfl rfl rfl rfl rfl (fun hg w hw=>sameCols22_spec _ _ x.cols y.cols w ((hx.cls hw).cols) ((hy.cls hw).cols)) ?_)|(show ∀ _:Nat,T _ _ _ _ _;intro _)|(show T _ (.code .ret::_) _ _ _;refine T_retV [] rfl (Hle.none _) ⟨congrArg Value.bool ?_,rfl⟩))
 rw [hmx,hmy]
 unfold same22
 cases decide (x.sec=y.sec) <;> cases decide (x.sg=y.sg) <;> cases decide (x.m=y.m) <;> rfl
end Go.Proofs.YtblnhdnogjijiaaGreatDoor
namespace Go.Proofs.YtblnhdnogjijiaaGreatDoor
open Go.RowKit Go.Shelf Go.Proofs
set_option maxRecDepth 100000
set_option maxHeartbeats 1000000

theorem eqFuncT_spec (A B:Option Addr) (ca cb:Nat) (a b:List TS) (w:World) (ha:Src w 1 A a.length (a.map TS.val)) (hal:TsOk w a) (han:a.length≤9223372036854775807) (hb:Src w 1 B b.length (b.map TS.val)) (hbl:TsOk w b) (hbn:b.length≤9223372036854775807) :
  Spec Tryz.prog 74 [.slice A a.length ca, .slice B b.length cb, .func (.func 75) #[] #[]] w (fun v R=>v = .bool (decide (a.map TS.l=b.map TS.l))∧R=[]):=by
 refine spec_of sg Tryz.func74 rfl rfl rfl ?_
 repeat' (first|refine d1 ?_|refine dd ?_|(show ∀ _:Nat,T _ _ _ _ _;intro _))
 refine T_if rfl (fun h=>?_) (fun h=>?_)
 ·simp only [Bool.not_eq_true',decide_eq_false_iff_not] at h
  repeat' (first|refine d1 ?_|refine dd ?_|(show ∀ _:Nat,T _ _ _ _ _;intro _)|(show T _ (.code .ret::_) _ _ _;refine T_retV [] rfl (Hle.none _) ⟨?_,rfl⟩))
  rw [decide_eq_false (fun e=>h (by have:=congrArg List.length e;rw [List.length_map,List.length_map] at this;omega))];rfl
 simp only [Bool.not_eq_false',decide_eq_true_eq] at h
 repeat' (first|refine d1 ?_|refine dd ?_|(show ∀ _:Nat,T _ _ _ _ _;intro _))
 refine T_loopX (fun k:Nat=>[(17, .int .i64 k)]) (fun _=>[]) (fun k=>k≤a.length∧∀ j,j<k→(a.map TS.l)[j]?=(b.map TS.l)[j]?) (fun k=>a.length - k) 0 ⟨by omega,fun j h=>by omega⟩ ?_
 rintro k ⟨hk,hok⟩
 repeat' (first|refine d1 ?_|refine dd ?_|(show ∀ _:Nat,T _ _ _ _ _;intro _))
 refine T_if rfl (fun h3=>?_) (fun h3=>?_)
 ·simp only [decide_eq_true_eq] at h3
  obtain⟨b1,o1,rfl⟩:=ha.base (by omega)
  obtain⟨b2,o2,rfl⟩:=hb.base (by omega)
  obtain⟨p,hp⟩:∃ u,a[k]?=some u:=⟨_,List.getElem?_eq_getElem (by omega)⟩
  obtain⟨q,hq⟩:∃ v,b[k]?=some v:=⟨_,List.getElem?_eq_getElem (by omega)⟩
  have hp2:(a.map TS.l)[k]?=some p.l:=by rw [List.getElem?_map,hp];rfl
  have hq2:(b.map TS.l)[k]?=some q.l:=by rw [List.getElem?_map,hq];rfl
  have hpm:=List.mem_of_getElem? hp
  have hqm:=List.mem_of_getElem? hq
  have hpl:=hal.len p hpm
  have hql:=hbl.len q hqm
  have hpb:=hal.bd p hpm
  have hqb:=hbl.bd q hqm
  have hps:=hal.src p hpm
  have hqs:=hbl.src q hqm
  have hr1:RdC w b1 (o1+(k:Int).toNat * 1) [.slice p.A p.n p.cap]:=by
   have h9:=(ha.get1 (i:=k) (by omega) (by rw [List.getElem?_map,hp];rfl)).2
   rw [Nat.mul_one] at h9
   rw [off1]
   exact h9
  have hr2:RdC w b2 (o2+(k:Int).toNat * 1) [.slice q.A q.n q.cap]:=by
   have h9:=(hb.get1 (i:=k) (by omega) (by rw [List.getElem?_map,hq];rfl)).2
   rw [Nat.mul_one] at h9
   rw [off1]
   exact h9
  repeat' (first|refine d1 ?_|refine dd ?_|(show T _ (.ops _ (_::_)::_) _ _ _;first|refine T_call rfl rfl rfl rfl rfl (fun w hw=>equalTok_spec p.A q.A p.n q.n p.cap q.cap p.l q.l w (rdSrc hps w hw) hpl hpb (rdSrc hqs w hw) hql hqb) ?_|refine T_callC rfl rfl rfl rfl rfl rfl rfl (fun hg w hw=>equalTok_spec p.A q.A p.n q.n p.cap q.cap p.l q.l w (rdSrc hps w hw) hpl hpb (rdSrc hqs w hw) hql hqb) ?_)|(show T _ (.run _ _ (_::_) _ _::_) _ _ _;first|refine rc rfl rfl rfl rfl rfl rfl rfl (fun w hw=>equalTok_spec p.A q.A p.n q.n p.cap q.cap p.l q.l w (rdSrc hps w hw) hpl hpb (rdSrc hqs w hw) hql hqb) ?_|refine rcG rfl rfl rfl rfl rfl rfl rfl rfl rfl (fun hg w hw=>equalTok_spec p.A q.A p.n q.n p.cap q.cap p.l q.l w (rdSrc hps w hw) hpl hpb (rdSrc hqs w hw) hql hqb) ?_)|(show ∀ _:Nat,T _ _ _ _ _;intro _))
  refine T_if rfl (fun h4=>?_) (fun h4=>?_)
  ·simp only [Bool.not_eq_true',decide_eq_false_iff_not] at h4
   repeat' (first|refine d1 ?_|refine dd ?_|(show ∀ _:Nat,T _ _ _ _ _;intro _)|(show T _ (.code .ret::_) _ _ _;refine T_retV [] rfl (Hle.none _) ⟨?_,rfl⟩))
   rw [decide_eq_false (fun e=>h4 (by rw [e,hq2] at hp2;rw [Option.some.inj hp2]))];rfl
  simp only [Bool.not_eq_false',decide_eq_true_eq] at h4
  repeat' (first|refine d1 ?_|refine dd ?_|(show ∀ _:Nat,T _ _ _ _ _;intro _))
  refine T_backX (k+1) ⟨by omega,fun j hj=>?_⟩ (by omega)
  rcases Nat.lt_or_ge j k with h7|h7
  ·exact hok j h7
  ·rw [show j=k by omega,hp2,hq2,h4]
 ·simp only [decide_eq_false_iff_not] at h3
  repeat' (first|refine d1 ?_|refine dd ?_|(show ∀ _:Nat,T _ _ _ _ _;intro _)|(show T _ (.code .ret::_) _ _ _;refine T_retV [] rfl (Hle.none _) ⟨?_,rfl⟩))
  rw [decide_eq_true (list_eq_of (by rw [List.length_map,List.length_map];omega) fun j hj=>hok j (by rw [List.length_map] at hj;omega))];rfl
theorem eqFuncC_spec (x y:Value) (a b:List (List Int)) (w:World) (hx:Rd (wr w) [x] [rowsD a]) (hy:Rd (wr w) [y] [rowsD b]) :
  Spec Tryz.prog 76 [x,y, .func (.func 77) #[] #[]] w (fun v R=>v = .bool (decide (a=b))∧R=[]):=by
 obtain⟨A,ca,cs,rfl,ha1,ha2,hcs,hA,hrA⟩:=hx.tab
 obtain⟨B,cb,ds,rfl,hb1,hb2,hds,hB,hrB⟩:=hy.tab
 refine spec_of sg Tryz.func76 rfl rfl rfl ?_
 repeat' (first|refine d1 ?_|refine dd ?_|(show ∀ _:Nat,T _ _ _ _ _;intro _))
 refine T_if rfl (fun h=>?_) (fun h=>?_)
 ·simp only [Bool.not_eq_true',decide_eq_false_iff_not] at h
  repeat' (first|refine d1 ?_|refine dd ?_|(show ∀ _:Nat,T _ _ _ _ _;intro _)|(show T _ (.code .ret::_) _ _ _;refine T_retV [] rfl (Hle.none _) ⟨?_,rfl⟩))
  rw [decide_eq_false (fun e=>h (by rw [e]))];rfl
 simp only [Bool.not_eq_false',decide_eq_true_eq] at h
 repeat' (first|refine d1 ?_|refine dd ?_|(show ∀ _:Nat,T _ _ _ _ _;intro _))
 refine T_loopX (fun k:Nat=>[(17, .int .i64 k)]) (fun _=>[]) (fun k=>k≤a.length∧∀ j,j<k→a[j]?=b[j]?) (fun k=>a.length - k) 0 ⟨by omega,fun j h=>by omega⟩ ?_
 rintro k ⟨hk,hok⟩
 repeat' (first|refine d1 ?_|refine dd ?_|(show ∀ _:Nat,T _ _ _ _ _;intro _))
 refine T_if rfl (fun h3=>?_) (fun h3=>?_)
 ·simp only [decide_eq_true_eq] at h3
  obtain⟨b1,o1,rfl,hA2⟩:=hA (by omega)
  obtain⟨b2,o2,rfl,hB2⟩:=hB (by omega)
  obtain⟨p,hp⟩:∃ u,a[k]?=some u:=⟨_,List.getElem?_eq_getElem (by omega)⟩
  obtain⟨q,hq⟩:∃ v,b[k]?=some v:=⟨_,List.getElem?_eq_getElem (by omega)⟩
  obtain⟨A',capA,hcA,hlA,hmA,hA3⟩:=hrA.tabRow hp
  obtain⟨B',capB,hcB,hlB,hmB,hB3⟩:=hrB.tabRow hq
  have hr1:RdC w b1 (o1+(k:Int).toNat * 1) [.slice A' p.length capA]:=RdC.one (by rw [off1];exact hA2 k _ hcA)
  have hr2:RdC w b2 (o2+(k:Int).toNat * 1) [.slice B' q.length capB]:=RdC.one (by rw [off1];exact hB2 k _ hcB)
  have hq1:Rd (wr w) [.slice A' p.length capA] [intsD p]:=by
   obtain⟨u,hu,hru⟩:=hrA.get (i:=k) (d:=intsD p) (by rw [List.getElem?_map,hp];rfl)
   rw [hcA] at hu
   cases hu
   exact hru
  have hq2:Rd (wr w) [.slice B' q.length capB] [intsD q]:=by
   obtain⟨u,hu,hru⟩:=hrB.get (i:=k) (d:=intsD q) (by rw [List.getElem?_map,hq];rfl)
   rw [hcB] at hu
   cases hu
   exact hru
  repeat' (first|refine d1 ?_|refine dd ?_|(show T _ (.ops _ (_::_)::_) _ _ _;first|refine T_call rfl rfl rfl rfl rfl (fun w hw=>equalI_spec _ _ p q w (hq1.old hw) (hq2.old hw)) ?_|refine T_callC rfl rfl rfl rfl rfl rfl rfl (fun hg w hw=>equalI_spec _ _ p q w (hq1.old hw) (hq2.old hw)) ?_)|(show T _ (.run _ _ (_::_) _ _::_) _ _ _;first|refine rc rfl rfl rfl rfl rfl rfl rfl (fun w hw=>equalI_spec _ _ p q w (hq1.old hw) (hq2.old hw)) ?_|refine rcG rfl rfl rfl rfl rfl rfl rfl rfl rfl (fun hg w hw=>equalI_spec _ _ p q w (hq1.old hw) (hq2.old hw)) ?_)|(show ∀ _:Nat,T _ _ _ _ _;intro _))
  refine T_if rfl (fun h4=>?_) (fun h4=>?_)
  ·simp only [Bool.not_eq_true',decide_eq_false_iff_not] at h4
   repeat' (first|refine d1 ?_|refine dd ?_|(show ∀ _:Nat,T _ _ _ _ _;intro _)|(show T _ (.code .ret::_) _ _ _;refine T_retV [] rfl (Hle.none _) ⟨?_,rfl⟩))
   rw [decide_eq_false (fun e=>h4 (by rw [e,hq] at hp;exact (Option.some.inj hp).symm))];rfl
  simp only [Bool.not_eq_false',decide_eq_true_eq] at h4
  repeat' (first|refine d1 ?_|refine dd ?_|(show ∀ _:Nat,T _ _ _ _ _;intro _))
  refine T_backX (k+1) ⟨by omega,fun j hj=>?_⟩ (by omega)
  rcases Nat.lt_or_ge j k with h7|h7
  ·exact hok j h7
  ·rw [show j=k by omega,hp,hq,h4]
 ·simp only [decide_eq_false_iff_not] at h3
  repeat' (first|refine d1 ?_|refine dd ?_|(show ∀ _:Nat,T _ _ _ _ _;intro _)|(show T _ (.code .ret::_) _ _ _;refine T_retV [] rfl (Hle.none _) ⟨?_,rfl⟩))
  rw [decide_eq_true (list_eq_of (by omega) fun j hj=>hok j (by omega))];rfl
theorem sameP22_spec (x y:Co) (A1 B1:Option Addr) (c1 d1':Nat) (l k:List TS) (A2 B2:Option Addr) (c2 d2:Nat) (y3 z3:Value) (w:World) (hx:CoSm w x A1 c1 l A2 c2 y3) (hy:CoSm w y B1 d1' k B2 d2 z3) :
  Spec Tryz.prog 37 [.agg (coL x.sec (.slice A1 x.sg.length c1) (.slice A2 l.length c2) y3).toArray, .agg (coL y.sec (.slice B1 y.sg.length d1') (.slice B2 k.length d2) z3).toArray] w (fun v R=>v = .bool (same22 x y)∧R=[]):=by
 refine spec_of sg Tryz.func37 rfl rfl rfl ?_
 refine T_op (OpT.box (cs:=coL x.sec (.slice A1 x.sg.length c1) (.slice A2 l.length c2) y3) rfl rfl rfl rfl rfl rfl rfl (fun pc=>?_))
 refine T_op (OpT.box (cs:=coL y.sec (.slice B1 y.sg.length d1') (.slice B2 k.length d2) z3) rfl rfl rfl rfl rfl rfl rfl (fun pd=>?_))
 have hmx:=hx.m
 have hmy:=hy.m
 repeat' (first|refine d1 ?_|refine dd ?_|(show T _ (.ops _ (_::_)::_) _ _ _;first|refine T_call rfl rfl rfl rfl rfl (fun w hw=>equalStr_spec _ _ x.sg y.sg w ((hx.cls hw).s1) ((hy.cls hw).s1)) ?_|refine T_callC rfl rfl rfl rfl rfl rfl rfl (fun hg w hw=>equalStr_spec _ _ x.sg y.sg w ((hx.cls hw).s1) ((hy.cls hw).s1)) ?_|refine T_call rfl rfl rfl rfl rfl (fun w hw=>eqFuncT_spec A2 B2 c2 d2 l k w ((hx.cls hw).s2) ((hx.cls hw).ok) hx.b2 ((hy.cls hw).s2) ((hy.cls hw).ok) hy.b2) ?_|refine T_callC rfl rfl rfl rfl rfl rfl rfl (fun hg w hw=>eqFuncT_spec A2 B2 c2 d2 l k w ((hx.cls hw).s2) ((hx.cls hw).ok) hx.b2 ((hy.cls hw).s2) ((hy.cls hw).ok) hy.b2) ?_|refine T_call rfl rfl rfl rfl rfl (fun w hw=>eqFuncC_spec _ _ x.cols y.cols w ((hx.cls hw).cols) ((hy.cls hw).cols)) ?_|refine T_callC rfl rfl rfl rfl rfl rfl rfl (fun hg w hw=>eqFuncC_spec _ _ x.cols y.cols w ((hx.cls hw).cols) ((hy.cls hw).cols)) ?_)|(show T _ (.run _ _ (_::_) _ _::_) _ _ _;first|refine rc rfl rfl rfl rfl rfl rfl rfl (fun w hw=>equalStr_spec _ _ x.sg y.sg w ((hx.cls hw).s1) ((hy.cls hw).s1)) ?_|refine rcG rfl rfl rfl rfl rfl rfl rfl rfl rfl (fun hg w hw=>equalStr_spec _ _ x.sg y.sg w ((hx.cls hw).s1) ((hy.cls hw).s1)) ?_|refine rc rfl rfl rfl rfl rfl rfl rfl (fun w hw=>eqFuncT_spec A2 B2 c2 d2 l k w ((hx.cls hw).s2) ((hx.cls hw).ok) hx.b2 ((hy.cls hw).s2) ((hy.cls hw).ok) hy.b2) ?_|refine rcG rfl rfl rfl rfl rfl rfl rfl rfl rfl (fun hg w hw=>eqFuncT_spec A2 B2 c2 d2 l k w ((hx.cls hw).s2) ((hx.cls hw).ok) hx.b2 ((hy.cls hw).s2) ((hy.cls hw).ok) hy.b2) ?_|refine rc rfl rfl rfl rfl rfl rfl rfl (fun w hw=>eqFuncC_spec _ _ x.cols y.cols w ((hx.cls hw).cols) ((hy.cls hw).cols)) ?_|refine rcG rfl rfl rfl rfl rfl rfl rfl rfl rfl (fun hg w hw=>eqFuncC_spec _ _ x.cols y.cols w ((hx.cls hw).cols) ((hy.cls hw).cols)) ?_)|(show ∀ _:Nat,T _ _ _ _ _;intro _)|(show T _ (.code .ret::_) _ _ _;refine T_retV [] rfl (Hle.none _) ⟨congrArg Value.bool ?_,rfl⟩))
 rw [hmx,hmy]
 unfold same22
 cases decide (x.sec=y.sec) <;> cases decide (x.sg=y.sg) <;> cases decide (x.m=y.m) <;> rfl
end Go.Proofs.YtblnhdnogjijiaaGreatDoor
namespace Go.Proofs.YtblnhdnogjijiaaGreatDoor
open Go.RowKit Go.Shelf Go.Proofs
set_option maxRecDepth 100000
set_option maxHeartbeats 1000000

theorem co_join {p:Frag} {y3:Value} {cols:List (List Int)} {A1 A2:Option Addr} {c1 c2 n m:Nat} {sg':List ByteArray} {cs:List Value} {H:List HA} (hp:Rd (fr p) [y3] [rowsD cols]) :
  Hle (fz p::row 38 1 A2 c2 m cs::row 9 1 A1 c1 n (sg'.map Value.string)::H) (dat [.slice A1 n c1, .slice A2 m c2,y3] [strsD sg', .s 1 (cs.map .v),rowsD cols]::H):=by
 refine (hle_map (fz_dat hp)).trans ?_
 refine (Hle.perm (List.Perm.swap _ _ _)).trans ?_
 refine dat_rowV.trans ?_
 refine (Hle.perm (List.Perm.swap _ _ _)).trans ?_
 refine dat_join.trans ?_
 refine (Hle.perm (List.Perm.swap _ _ _)).trans ?_
 refine dat_rowV.trans ?_
 refine (Hle.perm (List.Perm.swap _ _ _)).trans ?_
 exact dat_join
theorem co_nil (H:List HA):Hle H (dat [.slice none 0 0, .slice none 0 0, .slice none 0 0] [strsD [], .s 1 (([]:List Value).map .v),rowsD []]::H) :=
 hle_unit (Rd.s none 0 0 1 [] rfl (Nat.le_refl _) (by omega) (fun h=>absurd h (by omega)) .nil (Rd.s none 0 0 1 [] rfl (Nat.le_refl _) (by omega) (fun h=>absurd h (by omega)) .nil (Rd.s none 0 0 1 [] rfl (Nat.le_refl _) (by omega) (fun h=>absurd h (by omega)) .nil .nil)))
theorem co_nil1 (H:List HA):Hle H [dat [.slice none 0 0, .slice none 0 0, .slice none 0 0] [strsD [], .s 1 (([]:List Value).map .v),rowsD []]]:=(co_nil H).trans (Hle.nth 0 rfl)
def resP22 (x:Co) (l:List TS) (e:Int) (v:Value) (R:List HA):Prop :=
 ∃ y:(Option Addr × Nat) × (Option Addr × Nat) × Value,True∧v = .tuple #[.agg (coL x.sec (.slice y.1.1 x.sg.length y.1.2) (.slice y.2.1.1 l.length y.2.1.2) y.2.2).toArray, .int .i64 e]∧R=[dat [.slice y.1.1 x.sg.length y.1.2, .slice y.2.1.1 l.length y.2.1.2,y.2.2] [strsD x.sg, .s 1 ((l.map TS.val).map .v),rowsD x.cols]]
theorem ofP22 {p:Frag} {x:Co} {l:List TS} {A1 A2:Option Addr} {c1 c2:Nat} {y3:Value} (hp:Rd (fr p) [.slice A1 x.sg.length c1, .slice A2 l.length c2,y3] [strsD x.sg, .s 1 ((l.map TS.val).map .v),rowsD x.cols]) (hm:l.map TS.l=x.m)
  {w0 w:World} {H:List HA} [FocusZ H p] (hw:Cls w0 w H) (hl:TsOk w l):CoSm w x A1 c1 l A2 c2 y3:=by
 obtain⟨k1,k2⟩:=hp.cons_inv
 obtain⟨k2,k3⟩:=k2.cons_inv
 obtain⟨A,n,cap,e,g1,g2,g3,g4⟩:=(k2.own hw).srcV
 cases e
 exact⟨k1.own hw,g4,by omega,hl,hm,k3.own hw⟩
theorem vol_7:∀ {l:List TS},(∀ t∈l,t.n≤6)→volL (lens l)≤7 ^ l.length
 | [],_=>Nat.le_refl _
 | t::l,h=>by
  have h1:=vol_7 (l:=l) fun x hx=>h x (List.mem_cons_of_mem _ hx)
  have h2:=h t (List.mem_cons_self ..)
  show (t.n+1) * volL (lens l)≤7 ^ (l.length+1)
  rw [Nat.pow_succ,Nat.mul_comm]
  exact Nat.mul_le_mul h1 (by omega)
theorem size22_spec (A:Option Addr) (n ca:Nat) (l:List TS) (w:World) (hg:Grp w A n l) (h1:1≤n) (h6:n≤6) (ht:∀ t∈l,t.n≤6) :
  Spec Tryz.prog 55 [.slice A n ca] w (fun v R=>v = .tuple #[.int .i64 (volL (lens l):Nat), .int .i64 0]∧R=[]):=by
 have hn:=hg.hn
 have hv:=vol_7 ht
 have hv2:7 ^ l.length≤7 ^ 6:=Nat.pow_le_pow_right (by omega) (by omega)
 have ec:capV (volL (lens l)) 1073741824=volL (lens l):=if_pos (by omega)
 refine spec_of sg Tryz.func55 rfl rfl rfl ?_
 repeat' (first|refine d1 ?_|refine dd ?_|(show T _ (.ops _ (_::_)::_) _ _ _;first|refine T_call rfl rfl rfl rfl rfl (fun w hw=>srcs19_spec A n ca l w (hg.cls hw)) ?_|refine T_callC rfl rfl rfl rfl rfl rfl rfl (fun hg w hw=>srcs19_spec A n ca l w (hg.cls hw)) ?_)|(show T _ (.run _ _ (_::_) _ _::_) _ _ _;first|refine rc rfl rfl rfl rfl rfl rfl rfl (fun w hw=>srcs19_spec A n ca l w (hg.cls hw)) ?_|refine rcG rfl rfl rfl rfl rfl rfl rfl rfl rfl (fun hg w hw=>srcs19_spec A n ca l w (hg.cls hw)) ?_)|(show ∀ _:Nat,T _ _ _ _ _;intro _))
 rw [if_neg (by omega)]
 refine T_if rfl (fun h=>by exfalso;simp at h) (fun _=>?_)
 repeat' (first|refine d1 ?_|refine dd ?_|(show T _ (.ops _ (_::_)::_) _ _ _;first|refine T_call rfl rfl rfl rfl rfl (fun w hw=>size19_spec A n ca l 1073741824 w (hg.cls hw) ⟨by omega,by omega⟩) ?_|refine T_callC rfl rfl rfl rfl rfl rfl rfl (fun hg w hw=>size19_spec A n ca l 1073741824 w (hg.cls hw) ⟨by omega,by omega⟩) ?_)|(show T _ (.run _ _ (_::_) _ _::_) _ _ _;first|refine rc rfl rfl rfl rfl rfl rfl rfl (fun w hw=>size19_spec A n ca l 1073741824 w (hg.cls hw) ⟨by omega,by omega⟩) ?_|refine rcG rfl rfl rfl rfl rfl rfl rfl rfl rfl (fun hg w hw=>size19_spec A n ca l 1073741824 w (hg.cls hw) ⟨by omega,by omega⟩) ?_)|(show ∀ _:Nat,T _ _ _ _ _;intro _))
 rw [ec]
 refine T_if rfl (fun h=>by exfalso;simp at h;omega) (fun _=>?_)
 repeat' (first|refine d1 ?_|refine dd ?_|(show ∀ _:Nat,T _ _ _ _ _;intro _)|(show T _ (.code .ret::_) _ _ _;refine T_retV [] rfl (Hle.none _) ⟨rfl,rfl⟩))
noncomputable def colsC22 (c:Costs) (l:List TS):List (List Int):=if l.length≤4 then alnW c l else alnP c l
noncomputable def made22 (c:Costs) (sec:ByteArray) (sg':List ByteArray) (l:List TS):Co × Int :=
 if costE c≠0 then (co0,1) else if head22 sec sg' (l.map TS.l)≠0 then (co0,head22 sec sg' (l.map TS.l)) else (⟨sec,sg',l.map TS.l,colsC22 c l⟩,0)
noncomputable def toks22 (c:Costs) (sec:ByteArray) (sg':List ByteArray) (l:List TS):List TS:=if costE c≠0 then [] else if head22 sec sg' (l.map TS.l)≠0 then [] else l
theorem made22_facts {c:Costs} {sec:ByteArray} {sg':List ByteArray} {l:List TS} (hc:costE c=0) (hh:head22 sec sg' (l.map TS.l)=0) (hln:∀ t∈l,t.l.length=t.n) (h6:∀ t∈l,t.n≤6) :
  1≤l.length∧l.length=sg'.length∧ck21 c l=0∧(l.length≤4→aln19 c l=(alnW c l,lstV c l,0))∧alnA c l=(alnP c l,0)∧ColsOk (lens l) (colsC22 c l)∧made22 c sec sg' l=(⟨sec,sg',l.map TS.l,colsC22 c l⟩,0)∧toks22 c sec sg' l=l:=by
 obtain⟨g1,g2,g3,g4,g5,g6,g7⟩:=head22_iff.1 hh
 have hl:l.length=sg'.length:=by rw [← g6,List.length_map]
 have hbs:badS l=false:=List.any_eq_false.2 fun t ht=>by rw [(g7 t.l (List.mem_map.2 ⟨t,ht,rfl⟩)).2];simp
 have hck:ck21 c l=0:=if_pos ⟨hc,hbs⟩
 have hus:usV c l=0:=by unfold usV;rw [if_neg (by omega),hck]
 have hv:=vol_7 h6
 refine ⟨by omega,hl,hck,fun h4=>?_,if_pos hck,?_,?_,?_⟩
 ·have hv2:7 ^ l.length≤7 ^ 4:=Nat.pow_le_pow_right (by omega) h4
  unfold aln19
  rw [if_neg (by rw [hus];simp),if_neg (by omega)]
 ·unfold colsC22
  split
  ·exact (alnW_ok hc (by omega) (by omega)).1
  ·exact alnP_ok hck hln fun t ht=>by have:=h6 t ht;have:=hln t ht;omega
 ·unfold made22
  rw [if_neg (by rw [hc];simp),if_neg (by rw [hh];simp)]
 ·unfold toks22
  rw [if_neg (by rw [hc];simp),if_neg (by rw [hh];simp)]
theorem collateP22_spec (c:Costs) (sec:ByteArray) (sg':List ByteArray) (A1:Option Addr) (c1:Nat) (l:List TS) (A2:Option Addr) (c2:Nat) (w:World) (hh:HdAt w sec sg' A1 c1 l A2 c2) (hl6:l.length≤6∨32<l.length) :
  Spec Tryz.prog 14 [c.val, .string sec, .slice A1 sg'.length c1, .slice A2 l.length c2] w (resP22 (made22 c sec sg' l).1 (toks22 c sec sg' l) (made22 c sec sg' l).2):=by
 refine spec_of sg Tryz.func14 rfl rfl rfl ?_
 refine T_op (OpT.box (cs:=c.cells) rfl rfl rfl rfl rfl rfl rfl (fun pc=>?_))
 repeat' (first|refine d1 ?_|refine dd ?_|(show T _ (.ops _ (_::_)::_) _ _ _;first|refine T_call rfl rfl rfl rfl rfl (fun w hw=>costPrg_spec c w) ?_|refine T_callC rfl rfl rfl rfl rfl rfl rfl (fun hg w hw=>costPrg_spec c w) ?_)|(show T _ (.run _ _ (_::_) _ _::_) _ _ _;first|refine rc rfl rfl rfl rfl rfl rfl rfl (fun w hw=>costPrg_spec c w) ?_|refine rcG rfl rfl rfl rfl rfl rfl rfl rfl rfl (fun hg w hw=>costPrg_spec c w) ?_)|(show ∀ _:Nat,T _ _ _ _ _;intro _))
 rename_i pr
 refine T_if rfl (fun h=>?_) (fun h=>?_)
 ·have hc:costE c≠0:=by simpa using h
  have e1:made22 c sec sg' l=(co0,1):=if_pos hc
  have e2:toks22 c sec sg' l=[]:=if_pos hc
  rw [e1,e2]
  repeat' (first|refine d1 ?_|refine dd ?_|(show T _ (.ops _ (_::_)::_) _ _ _;refine T_op (OpT.storeA rfl rfl rfl rfl rfl rfl (by decide) ?_))|(show ∀ _:Nat,T _ _ _ _ _;intro _))
  exact T_retM (vs:=[.agg (coL ByteArray.empty (.slice none 0 0) (.slice none 0 0) (.slice none 0 0)).toArray, .int .i64 1]) _ ⟨⟨pr,_,coL ByteArray.empty (.slice none 0 0) (.slice none 0 0) (.slice none 0 0),rfl,rfl,rfl,rfl,(fun h=>by cases h),rfl,rdAll⟩,rfl,trivial⟩ (co_nil1 _) ⟨((none,0),(none,0), .slice none 0 0),trivial,rfl,rfl⟩
 have hc:costE c=0:=by simpa using h
 repeat' (first|refine d1 ?_|refine dd ?_|(show T _ (.ops _ (_::_)::_) _ _ _;first|refine T_call rfl rfl rfl rfl rfl (fun w hw=>sources22_spec sec sg' A1 c1 l A2 c2 w (hh.cls hw)) ?_|refine T_callC rfl rfl rfl rfl rfl rfl rfl (fun hg w hw=>sources22_spec sec sg' A1 c1 l A2 c2 w (hh.cls hw)) ?_)|(show T _ (.run _ _ (_::_) _ _::_) _ _ _;first|refine rc rfl rfl rfl rfl rfl rfl rfl (fun w hw=>sources22_spec sec sg' A1 c1 l A2 c2 w (hh.cls hw)) ?_|refine rcG rfl rfl rfl rfl rfl rfl rfl rfl rfl (fun hg w hw=>sources22_spec sec sg' A1 c1 l A2 c2 w (hh.cls hw)) ?_)|(show ∀ _:Nat,T _ _ _ _ _;intro _))
 refine T_if rfl (fun h2=>?_) (fun h2=>?_)
 ·have hd:head22 sec sg' (l.map TS.l)≠0:=by simpa using h2
  have e1:made22 c sec sg' l=(co0,head22 sec sg' (l.map TS.l)):=by unfold made22;rw [if_neg (by rw [hc];simp),if_pos hd]
  have e2:toks22 c sec sg' l=[]:=by unfold toks22;rw [if_neg (by rw [hc];simp),if_pos hd]
  rw [e1,e2]
  repeat' (first|refine d1 ?_|refine dd ?_|(show T _ (.ops _ (_::_)::_) _ _ _;refine T_op (OpT.storeA rfl rfl rfl rfl rfl rfl (by decide) ?_))|(show ∀ _:Nat,T _ _ _ _ _;intro _))
  exact T_retM (vs:=[.agg (coL ByteArray.empty (.slice none 0 0) (.slice none 0 0) (.slice none 0 0)).toArray, .int .i64 (head22 sec sg' (l.map TS.l))]) _ ⟨⟨pr,_,coL ByteArray.empty (.slice none 0 0) (.slice none 0 0) (.slice none 0 0),rfl,rfl,rfl,rfl,(fun h=>by cases h),rfl,rdAll⟩,rfl,trivial⟩ (co_nil1 _) ⟨((none,0),(none,0), .slice none 0 0),trivial,rfl,rfl⟩
 have hd:head22 sec sg' (l.map TS.l)=0:=by simpa using h2
 obtain⟨f1,f2,f3,f4,f5,f6,f7,f8⟩:=made22_facts hc hd hh.ok.len (fun t ht=>(hh.tok t ht).1)
 have hle:=(head22_iff.1 hd).le
 have hg:Grp w A2 l.length l:=hh.grp (by omega)
 have h6:l.length≤6:=by omega
 have ht6:∀ t∈l,t.n≤6:=fun t ht=>(hh.tok t ht).1
 have hv:=vol_7 ht6
 rw [f7,f8]
 repeat' (first|refine d1 ?_|refine dd ?_|(show T _ (.ops _ (_::_)::_) _ _ _;first|refine T_callE rfl rfl rfl rfl rfl (fun w hw=>cloneStr_spec A1 sg'.length c1 sg' w (rdSrc hh.s1 w hw) (by omega)) (fun x1 _=>?_)|refine T_callE rfl rfl rfl rfl rfl (fun w hw=>cloneS_spec A2 l.length c2 l w (rdSrc hh.s2 w hw) (by omega)) (fun x2 _=>?_)|refine T_op (OpT.storeA rfl rfl rfl rfl rfl rfl (by decide) ?_)|refine T_call rfl rfl rfl rfl rfl (fun w hw=>size22_spec A2 l.length c2 l w (hg.cls hw) f1 h6 ht6) ?_|refine T_callC rfl rfl rfl rfl rfl rfl rfl (fun hg w hw=>size22_spec A2 l.length c2 l w (hg.cls hw) f1 h6 ht6) ?_)|(show T _ (.run _ _ (_::_) _ _::_) _ _ _;first|refine rc rfl rfl rfl rfl rfl rfl rfl (fun w hw=>size22_spec A2 l.length c2 l w (hg.cls hw) f1 h6 ht6) ?_|refine rcG rfl rfl rfl rfl rfl rfl rfl rfl rfl (fun hg w hw=>size22_spec A2 l.length c2 l w (hg.cls hw) f1 h6 ht6) ?_)|(show ∀ _:Nat,T _ _ _ _ _;intro _))
 rename_i pt
 refine T_if rfl (fun h4=>?_) (fun h4=>?_)
 ·have hb:l.length≤4:=by simp only [Bool.and_eq_true,decide_eq_true_eq] at h4;omega
  have eC:colsC22 c l=alnW c l:=if_pos hb
  rw [eC]
  repeat' (first|refine d1 ?_|refine dd ?_|(show T _ (.ops _ (_::_)::_) _ _ _;refine T_op (OpT.call rfl rfl rfl rfl rfl (fun w hw=>align19_spec c A2 l.length c2 l w (hg.cls hw)) ?_))|(show ∀ _:Nat,T _ _ _ _ _;intro _))
  rintro v R ⟨y,-,rfl,rfl⟩
  rw [f4 hb]
  refine T_le (H':=[dat [y] [rowsD (alnW c l)],blk pt (coL sec (.slice x1.1 sg'.length x1.2) (.slice x2.1 l.length x2.2) (.slice none 0 0)) 32,row 38 1 x2.1 x2.2 l.length (l.map TS.val),row 9 1 x1.1 x1.2 sg'.length (sg'.map Value.string),blk pr (coL ByteArray.empty (.slice none 0 0) (.slice none 0 0) (.slice none 0 0)) 32,blk pc c.cells 23]) (Hle.refl _) ?_
  refine T_open fun p hp=>?_
  obtain⟨Ay,cy,csy,rfl,-⟩:=hp.tab
  refine T_le (H':=[blk pt (coL sec (.slice x1.1 sg'.length x1.2) (.slice x2.1 l.length x2.2) (.slice none 0 0)) 32,blk pr (coL ByteArray.empty (.slice none 0 0) (.slice none 0 0) (.slice none 0 0)) 32,fz p,row 38 1 x2.1 x2.2 l.length (l.map TS.val),row 9 1 x1.1 x1.2 sg'.length (sg'.map Value.string)]) Hle.srt ?_
  repeat' (first|refine d1 ?_|refine dd ?_|(show ∀ _:Nat,T _ _ _ _ _;intro _))
  refine T_if rfl (fun h5=>by exfalso;simp at h5) (fun _=>?_)
  repeat' (first|refine d1 ?_|refine dd ?_|(show T _ (.ops _ (_::_)::_) _ _ _;refine T_op (OpT.storeA rfl rfl rfl rfl rfl rfl (by decide) ?_))|(show ∀ _:Nat,T _ _ _ _ _;intro _))
  exact T_retM (vs:=[.agg (coL sec (.slice x1.1 sg'.length x1.2) (.slice x2.1 l.length x2.2) (.slice Ay (alnW c l).length cy)).toArray, .int .i64 0]) _ ⟨⟨pr,_,coL sec (.slice x1.1 sg'.length x1.2) (.slice x2.1 l.length x2.2) (.slice Ay (alnW c l).length cy),rfl,rfl,rfl,rfl,(fun h=>by cases h),rfl,rdAll⟩,rfl,trivial⟩ (((Hle.tail _ _).trans (Hle.tail _ _)).trans ((co_join hp).trans (Hle.nth 0 rfl))) ⟨(x1,x2, .slice Ay (alnW c l).length cy),trivial,rfl,rfl⟩
 ·have hb:¬ l.length≤4:=by intro h9;have hv2:7 ^ l.length≤7 ^ 4:=Nat.pow_le_pow_right (by omega) h9;exact absurd h4 (by simp;omega)
  have eC:colsC22 c l=alnP c l:=if_neg hb
  rw [eC]
  repeat' (first|refine d1 ?_|refine dd ?_|(show T _ (.ops _ (_::_)::_) _ _ _;refine T_op (OpT.call rfl rfl rfl rfl rfl (fun w hw=>alignPrg21_spec c A2 l.length c2 l w (hg.cls hw) (fun t ht=>by have:=ht6 t ht;omega)) ?_))|(show ∀ _:Nat,T _ _ _ _ _;intro _))
  rintro v R ⟨y,-,rfl,rfl⟩
  rw [f5]
  refine T_le (H':=[dat [y] [rowsD (alnP c l)],blk pt (coL sec (.slice x1.1 sg'.length x1.2) (.slice x2.1 l.length x2.2) (.slice none 0 0)) 32,row 38 1 x2.1 x2.2 l.length (l.map TS.val),row 9 1 x1.1 x1.2 sg'.length (sg'.map Value.string),blk pr (coL ByteArray.empty (.slice none 0 0) (.slice none 0 0) (.slice none 0 0)) 32,blk pc c.cells 23]) (Hle.refl _) ?_
  refine T_open fun p hp=>?_
  obtain⟨Ay,cy,csy,rfl,-⟩:=hp.tab
  refine T_le (H':=[blk pt (coL sec (.slice x1.1 sg'.length x1.2) (.slice x2.1 l.length x2.2) (.slice none 0 0)) 32,blk pr (coL ByteArray.empty (.slice none 0 0) (.slice none 0 0) (.slice none 0 0)) 32,fz p,row 38 1 x2.1 x2.2 l.length (l.map TS.val),row 9 1 x1.1 x1.2 sg'.length (sg'.map Value.string)]) Hle.srt ?_
  repeat' (first|refine d1 ?_|refine dd ?_|(show ∀ _:Nat,T _ _ _ _ _;intro _))
  refine T_if rfl (fun h5=>by exfalso;simp at h5) (fun _=>?_)
  repeat' (first|refine d1 ?_|refine dd ?_|(show T _ (.ops _ (_::_)::_) _ _ _;refine T_op (OpT.storeA rfl rfl rfl rfl rfl rfl (by decide) ?_))|(show ∀ _:Nat,T _ _ _ _ _;intro _))
  exact T_retM (vs:=[.agg (coL sec (.slice x1.1 sg'.length x1.2) (.slice x2.1 l.length x2.2) (.slice Ay (alnP c l).length cy)).toArray, .int .i64 0]) _ ⟨⟨pr,_,coL sec (.slice x1.1 sg'.length x1.2) (.slice x2.1 l.length x2.2) (.slice Ay (alnP c l).length cy),rfl,rfl,rfl,rfl,(fun h=>by cases h),rfl,rdAll⟩,rfl,trivial⟩ (((Hle.tail _ _).trans (Hle.tail _ _)).trans ((co_join hp).trans (Hle.nth 0 rfl))) ⟨(x1,x2, .slice Ay (alnP c l).length cy),trivial,rfl,rfl⟩
end Go.Proofs.YtblnhdnogjijiaaGreatDoor
namespace Go.Proofs.YtblnhdnogjijiaaGreatDoor
open Go.RowKit Go.Shelf Go.Proofs
set_option maxRecDepth 100000
set_option maxHeartbeats 1000000

end Go.Proofs.YtblnhdnogjijiaaGreatDoor
namespace Go.Proofs.YtblnhdnogjijiaaGreatDoor
open Go.RowKit Go.Shelf Go.Proofs
set_option maxRecDepth 100000
set_option maxHeartbeats 1000000

theorem words22_spec (A:Option Addr) (n ca:Nat) (l:List ByteArray) (w:World) (hs:Src w 1 A n (l.map Value.string)) (hn:l.length=n) (hnb:n≤1000) :
  Spec Tryz.prog 50 [.slice A n ca] w (fun v R=>∃ x:Option Addr × Nat,True∧v = .slice x.1 n x.2∧R=[row 42 6 x.1 x.2 n ((l.map tokS).flatMap Tok.cells)]):=by
 refine spec_of sg Tryz.func50 rfl rfl rfl ?_
 repeat' (first|refine d1 ?_|refine dd ?_|(show ∀ _:Nat,T _ _ _ _ _;intro _))
 refine T_nilrow 42 6 ?_
 refine T_loopX (fun s:Nat × (Option Addr × Nat)=>[(8, .int .i64 (s.1:Nat)),(3, .slice s.2.1 s.1 s.2.2)]) (fun s=>[row 42 6 s.2.1 s.2.2 s.1 (((l.take s.1).map tokS).flatMap Tok.cells)]) (fun s=>s.1≤n) (fun s=>n - s.1) (0,(none,0)) (Nat.zero_le _) ?_
 rintro⟨k,⟨A3,c3⟩⟩ hk
 dsimp only at hk ⊢
 repeat' (first|refine d1 ?_|refine dd ?_|(show ∀ _:Nat,T _ _ _ _ _;intro _))
 refine T_if rfl (fun h=>?_) (fun h=>?_)
 ·simp only [decide_eq_true_eq] at h
  obtain⟨b,o,rfl⟩:=hs.base (by omega)
  obtain⟨s,hsk⟩:∃ s,l[k]?=some s:=⟨_,List.getElem?_eq_getElem (by omega)⟩
  have hr:RdC w b (o+(k:Int).toNat * 1) [.string s]:=by
   have h9:=(hs.get1 (i:=k) (by omega) (by rw [List.getElem?_map,hsk];rfl)).2
   rw [Nat.mul_one] at h9
   rw [off1];exact h9
  repeat' (first|refine d1 ?_|refine dd ?_|(show T _ (.ops _ (_::_)::_) _ _ _;refine T_op (OpT.append (A:=A3) rfl rfl rfl rfl rfl rfl rfl rfl rfl rfl (fun w hw=>Src.own hw rfl) rfl (by dsimp only;omega) (by omega) (fun A' cap' hA'=>?_)))|(show ∀ _:Nat,T _ _ _ _ _;intro _))
  refine T_backX (k+1,(A',cap')) (by dsimp only;omega) (by dsimp only;omega) (hG:=?_)
  dsimp only
  rw [take_snoc _ _ _ hsk,List.map_append,List.flatMap_append]
  exact Hle.tail _ _
 ·simp only [decide_eq_false_iff_not] at h
  obtain rfl:k=n:=by omega
  rw [← hn,List.take_length]
  repeat' (first|refine d1 ?_|refine dd ?_|(show ∀ _:Nat,T _ _ _ _ _;intro _)|(show T _ (.code .ret::_) _ _ _;refine T_retV _ rfl (Hle.refl _) ⟨(A3,c3),trivial,rfl,rfl⟩))
def s22d:ByteArray:=⟨#[100,101,117,115]⟩
def s22e:ByteArray:=⟨#[101,115,116]⟩
def s22n:ByteArray:=⟨#[110,111,110]⟩
def s22A:ByteArray:=⟨#[65]⟩
def s22B:ByteArray:=⟨#[66]⟩
def s22P:ByteArray:=⟨#[65,124,100,101,117,115,124,124,101,115,116,10,66,124,100,101,117,115,124,110,111,110,124,101,115,116,10]⟩
def aw22C:Costs:=⟨40,5,20,50⟩
def aw22a:List Tok:=[s22d,s22e].map tokS
def aw22b:List Tok:=[s22d,s22n,s22e].map tokS
def aw22l (x1 x2:Option Addr × Nat):List TS:=[⟨x1.1,2,x1.2,aw22a⟩,⟨x2.1,3,x2.2,aw22b⟩]
def aw22c:List (List Int):=[[0,0],[-1,1],[1,2]]
def aw22x:Co:=⟨sA,[s22A,s22B],[aw22a,aw22b],aw22c⟩
theorem aw22K:costE aw22C=0:=by decide +kernel
theorem aw22H:head22 sA [s22A,s22B] [aw22a,aw22b]=0:=by decide +kernel
theorem aw22W:alnW aw22C (aw22l (none,0) (none,0))=aw22c:=by decide +kernel
theorem aw22s:(∀ x∈aw22a,x.small)∧(∀ x∈aw22b,x.small):=by decide +kernel
theorem aw22t:(∀ x∈aw22a,x.text.size≤12)∧(∀ x∈aw22b,x.text.size≤12):=by decide +kernel
theorem aw22M (x1 x2:Option Addr × Nat):made22 aw22C sA [s22A,s22B] (aw22l x1 x2)=(aw22x,0)∧toks22 aw22C sA [s22A,s22B] (aw22l x1 x2)=aw22l x1 x2∧Ok22 aw22x:=by
 have hh:head22 sA [s22A,s22B] ((aw22l x1 x2).map TS.l)=0:=aw22H
 obtain⟨f1,f2,f3,f4,f5,f6,f7,f8⟩:=made22_facts (l:=aw22l x1 x2) aw22K hh (List.forall_mem_cons.2 ⟨rfl,List.forall_mem_cons.2 ⟨rfl,fun t h=>by cases h⟩⟩) (List.forall_mem_cons.2 ⟨Nat.le_of_ble_eq_true rfl,List.forall_mem_cons.2 ⟨Nat.le_of_ble_eq_true rfl,fun t h=>by cases h⟩⟩)
 have eC:colsC22 aw22C (aw22l x1 x2)=aw22c:=by
  unfold colsC22
  rw [if_pos (by show 2≤4;omega)]
  exact aw22W
 rw [eC] at f6 f7
 exact⟨f7,f8,⟨head22_iff.1 aw22H,f6⟩⟩
theorem aw22S:Small22 aw22x :=
 ⟨List.forall_mem_cons.2 ⟨⟨Nat.le_of_ble_eq_true rfl,aw22s.1⟩,List.forall_mem_cons.2 ⟨⟨Nat.le_of_ble_eq_true rfl,aw22s.2⟩,fun t h=>by cases h⟩⟩, .inl (Nat.le_of_ble_eq_true rfl),by decide,by decide,by decide,by decide,by decide,
  List.forall_mem_cons.2 ⟨aw22t.1,List.forall_mem_cons.2 ⟨aw22t.2,fun t h=>by cases h⟩⟩⟩
theorem aw22P:printV22 aw22x=(s22P,0):=by
 rw [printV22_ok aw22S (aw22M (none,0) (none,0)).2.2]
 have e:print22 aw22x=s22P.data.toList:=by decide +kernel
 rw [e]
theorem aw22F:findV22 aw22x 0 1=(2,0):=by
 have h1:=chk22_iff.2 (aw22M (none,0) (none,0)).2.2
 have h2:at22 aw22x 0 1=2:=by decide +kernel
 unfold findV22
 rw [if_neg (by rw [h1];simp),if_neg (by decide)]
 exact congrArg (fun z=>(z,(0:Int))) h2
theorem aw22N:chk22 ⟨sA,[],[],[]⟩=5:=by
 have e:head22 sA [] []=5:=by decide +kernel
 unfold chk22
 show (if head22 sA [] []≠0 then head22 sA [] [] else _)=_
 rw [e]
 rfl
theorem srcRow22 {w0 w:World} {H:List HA} {A:Option Addr} {e sz cap n:Nat} {xs:List Value} {rb:HA→List HA} [FocusR H A e sz cap n xs rb] (hw:Cls w0 w H):Src w sz A n xs :=
 srcRw (C:=⟨sg,⟨0,[]⟩,w0,none,fun _ _=>True,fun _ _=>True,fun _ _ _=>True⟩) (e:=e) (cap:=cap) (rb:=rb) w hw
theorem aw22_hd {w w':World} (hst:Std w) {b4 bS:Nat} {x1 x2:Option Addr × Nat} {H:List HA}
  (hw:Cls w w' (blk b4 ((aw22l x1 x2).map TS.val) 38::blk bS ([s22A,s22B].map Value.string) 9::row 42 6 x1.1 x1.2 2 (aw22a.flatMap Tok.cells)::row 42 6 x2.1 x2.2 3 (aw22b.flatMap Tok.cells)::H)) :
  HdAt w' sA [s22A,s22B] (some ⟨bS,0,none⟩) 2 (aw22l x1 x2) (some ⟨b4,0,none⟩) 2 :=
 ⟨hst.cls hw,Src.own (b:=bS) hw rfl,Nat.le_refl _,Src.own (b:=b4) hw rfl,
  ⟨List.forall_mem_cons.2 ⟨srcRow22 hw,List.forall_mem_cons.2 ⟨srcRow22 hw,fun t h=>by cases h⟩⟩,List.forall_mem_cons.2 ⟨rfl,List.forall_mem_cons.2 ⟨rfl,fun t h=>by cases h⟩⟩,List.forall_mem_cons.2 ⟨Nat.le_of_ble_eq_true rfl,List.forall_mem_cons.2 ⟨Nat.le_of_ble_eq_true rfl,fun t h=>by cases h⟩⟩⟩,
  by decide,by decide,by decide,Nat.le_of_ble_eq_true rfl,
  List.forall_mem_cons.2 ⟨⟨Nat.le_of_ble_eq_true rfl,aw22s.1⟩,List.forall_mem_cons.2 ⟨⟨Nat.le_of_ble_eq_true rfl,aw22s.2⟩,fun t h=>by cases h⟩⟩,
  List.forall_mem_cons.2 ⟨aw22t.1,List.forall_mem_cons.2 ⟨aw22t.2,fun t h=>by cases h⟩⟩⟩
theorem coNone {w:World} (hst:Std w):CoAt w ⟨sA,[],[],[]⟩ none 0 [] none 0 (.slice none 0 0) :=
 ⟨⟨hst,⟨rfl,fun h=>absurd h (Nat.not_lt_zero _)⟩,Nat.le_refl _,⟨rfl,fun h=>absurd h (Nat.not_lt_zero _)⟩,⟨fun t h=>(by cases h),fun t h=>(by cases h),fun t h=>(by cases h)⟩,by decide,fun t h=>(by cases h),Nat.zero_le _,Nat.zero_le _,fun t h=>(by cases h),fun t h=>(by cases h)⟩,rfl,
  Rd.s none 0 0 1 [] rfl (Nat.le_refl _) (by omega) (fun h=>absurd h (by omega)) .nil .nil⟩
theorem awake22_spec (w:World) (hst:Std w):Spec Tryz.prog 13 [] w (fun v R=>v = .bool true∧R=[]):=by
 refine spec_of sg Tryz.func13 rfl rfl rfl ?_
 repeat' (first|refine d1 ?_|refine dd ?_|(show T _ (.ops _ (_::_)::_) _ _ _;first|refine T_callE rfl rfl rfl rfl rfl (fun w hw=>words22_spec (some ⟨_,0,none⟩) 2 2 [s22d,s22e] w (Src.own hw rfl) rfl (by omega)) (fun x1 _=>?_)|refine T_callE rfl rfl rfl rfl rfl (fun w hw=>words22_spec (some ⟨_,0,none⟩) 3 3 [s22d,s22n,s22e] w (Src.own hw rfl) rfl (by omega)) (fun x2 _=>?_))|(show ∀ _:Nat,T _ _ _ _ _;intro _))
 rename_i b1 _ b2 _ b4 bS
 refine T_le (H':=[blk bS ([s22A,s22B].map Value.string) 9,blk b4 ((aw22l x1 x2).map TS.val) 38,row 42 6 x2.1 x2.2 3 (aw22b.flatMap Tok.cells),blk b2 ([s22d,s22n,s22e].map Value.string) 9,row 42 6 x1.1 x1.2 2 (aw22a.flatMap Tok.cells),blk b1 ([s22d,s22e].map Value.string) 9]) (Hle.refl _) ?_
 refine T_le (H':=[blk b4 ((aw22l x1 x2).map TS.val) 38,blk bS ([s22A,s22B].map Value.string) 9,row 42 6 x1.1 x1.2 2 (aw22a.flatMap Tok.cells),row 42 6 x2.1 x2.2 3 (aw22b.flatMap Tok.cells)]) Hle.srt2 ?_
 refine T_op (OpT.call rfl rfl rfl rfl rfl (fun w hw=>collateP22_spec aw22C sA [s22A,s22B] (some ⟨bS,0,none⟩) 2 (aw22l x1 x2) (some ⟨b4,0,none⟩) 2 w (aw22_hd hst hw) (.inl (Nat.le_of_ble_eq_true rfl))) ?_)
 rintro v R ⟨⟨y1,y2,y3⟩,-,rfl,rfl⟩
 rw [(aw22M x1 x2).1,(aw22M x1 x2).2.1]
 dsimp only
 refine T_open fun p hp=>?_
 obtain⟨Ak,ck,csk,rfl,-⟩:=hp.cons_inv.2.cons_inv.2.tab
 repeat' (first|refine d1 ?_|refine dd ?_|(show T _ (.ops _ (_::_)::_) _ _ _;refine T_op (OpT.storeA rfl rfl rfl rfl rfl rfl (by decide) ?_))|(show ∀ _:Nat,T _ _ _ _ _;intro _))
 rename_i c0 sS r0 r1 r2 tb pw
 refine T_le (H':=[blk pw (coL sA (.slice (some ⟨sS,0,none⟩) 2 2) (.slice (some ⟨b4,0,none⟩) 2 2) (.slice (some ⟨tb,0,none⟩) 3 3)) 32,blk tb [.slice (some ⟨r0,0,none⟩) 2 2, .slice (some ⟨r1,0,none⟩) 2 2, .slice (some ⟨r2,0,none⟩) 2 2] 47,blk r2 [.int .i64 1, .int .i64 2] 3,blk r1 [.int .i64 (-1), .int .i64 1] 3,blk r0 [.int .i64 0, .int .i64 0] 3,blk sS ([s22A,s22B].map Value.string) 9,blk c0 (coL aw22x.sec (.slice y1.1 aw22x.sg.length y1.2) (.slice y2.1 (aw22l x1 x2).length y2.2) (.slice Ak aw22x.cols.length ck)) 32,fz p,blk b4 ((aw22l x1 x2).map TS.val) 38,blk bS ([s22A,s22B].map Value.string) 9,row 42 6 x1.1 x1.2 2 (aw22a.flatMap Tok.cells),row 42 6 x2.1 x2.2 3 (aw22b.flatMap Tok.cells)]) (Hle.refl _) ?_
 refine T_le (H':=[blk b4 ((aw22l x1 x2).map TS.val) 38,blk sS ([s22A,s22B].map Value.string) 9,row 42 6 x1.1 x1.2 2 (aw22a.flatMap Tok.cells),row 42 6 x2.1 x2.2 3 (aw22b.flatMap Tok.cells),blk tb [.slice (some ⟨r0,0,none⟩) 2 2, .slice (some ⟨r1,0,none⟩) 2 2, .slice (some ⟨r2,0,none⟩) 2 2] 47,blk r0 [.int .i64 0, .int .i64 0] 3,blk r1 [.int .i64 (-1), .int .i64 1] 3,blk r2 [.int .i64 1, .int .i64 2] 3,blk pw (coL sA (.slice (some ⟨sS,0,none⟩) 2 2) (.slice (some ⟨b4,0,none⟩) 2 2) (.slice (some ⟨tb,0,none⟩) 3 3)) 32,blk c0 (coL aw22x.sec (.slice y1.1 aw22x.sg.length y1.2) (.slice y2.1 (aw22l x1 x2).length y2.2) (.slice Ak aw22x.cols.length ck)) 32,fz p]) Hle.srt2 ?_
 have hX:∀ {w':World} {H:List HA},Cls w w' (blk b4 ((aw22l x1 x2).map TS.val) 38::blk sS ([s22A,s22B].map Value.string) 9::row 42 6 x1.1 x1.2 2 (aw22a.flatMap Tok.cells)::row 42 6 x2.1 x2.2 3 (aw22b.flatMap Tok.cells)::blk tb [.slice (some ⟨r0,0,none⟩) 2 2, .slice (some ⟨r1,0,none⟩) 2 2, .slice (some ⟨r2,0,none⟩) 2 2] 47::blk r0 [.int .i64 0, .int .i64 0] 3::blk r1 [.int .i64 (-1), .int .i64 1] 3::blk r2 [.int .i64 1, .int .i64 2] 3::H)→CoAt w' aw22x (some ⟨sS,0,none⟩) 2 (aw22l x1 x2) (some ⟨b4,0,none⟩) 2 (.slice (some ⟨tb,0,none⟩) 3 3):=fun hw =>
  ⟨aw22_hd hst hw,rfl,rd_lit (n:=3) (Src.own (b:=tb) hw rfl) (by omega) ((rd_ints (b:=r0) (n:=2) (r:=[0,0]) (Src.own (b:=r0) hw rfl) (by omega)).append ((rd_ints (b:=r1) (n:=2) (r:=[-1,1]) (Src.own (b:=r1) hw rfl) (by omega)).append (rd_ints (b:=r2) (n:=2) (r:=[1,2]) (Src.own (b:=r2) hw rfl) (by omega))))⟩
 repeat' (first|refine d1 ?_|refine dd ?_|(show T _ (.ops _ (_::_)::_) _ _ _;first|refine T_call rfl rfl rfl rfl rfl (fun w hw=>printP22_spec aw22x (some ⟨sS,0,none⟩) 2 (aw22l x1 x2) (some ⟨b4,0,none⟩) 2 (.slice (some ⟨tb,0,none⟩) 3 3) w (hX hw) aw22S) ?_|refine T_callC rfl rfl rfl rfl rfl rfl rfl (fun hg w hw=>printP22_spec aw22x (some ⟨sS,0,none⟩) 2 (aw22l x1 x2) (some ⟨b4,0,none⟩) 2 (.slice (some ⟨tb,0,none⟩) 3 3) w (hX hw) aw22S) ?_|refine T_call rfl rfl rfl rfl rfl (fun w hw=>findP22_spec aw22x (some ⟨sS,0,none⟩) 2 (aw22l x1 x2) (some ⟨b4,0,none⟩) 2 (.slice (some ⟨tb,0,none⟩) 3 3) 0 1 w (hX hw)) ?_|refine T_callC rfl rfl rfl rfl rfl rfl rfl (fun hg w hw=>findP22_spec aw22x (some ⟨sS,0,none⟩) 2 (aw22l x1 x2) (some ⟨b4,0,none⟩) 2 (.slice (some ⟨tb,0,none⟩) 3 3) 0 1 w (hX hw)) ?_)|(show T _ (.run _ _ (_::_) _ _::_) _ _ _;first|refine rc rfl rfl rfl rfl rfl rfl rfl (fun w hw=>printP22_spec aw22x (some ⟨sS,0,none⟩) 2 (aw22l x1 x2) (some ⟨b4,0,none⟩) 2 (.slice (some ⟨tb,0,none⟩) 3 3) w (hX hw) aw22S) ?_|refine rcG rfl rfl rfl rfl rfl rfl rfl rfl rfl (fun hg w hw=>printP22_spec aw22x (some ⟨sS,0,none⟩) 2 (aw22l x1 x2) (some ⟨b4,0,none⟩) 2 (.slice (some ⟨tb,0,none⟩) 3 3) w (hX hw) aw22S) ?_|refine rc rfl rfl rfl rfl rfl rfl rfl (fun w hw=>findP22_spec aw22x (some ⟨sS,0,none⟩) 2 (aw22l x1 x2) (some ⟨b4,0,none⟩) 2 (.slice (some ⟨tb,0,none⟩) 3 3) 0 1 w (hX hw)) ?_|refine rcG rfl rfl rfl rfl rfl rfl rfl rfl rfl (fun hg w hw=>findP22_spec aw22x (some ⟨sS,0,none⟩) 2 (aw22l x1 x2) (some ⟨b4,0,none⟩) 2 (.slice (some ⟨tb,0,none⟩) 3 3) 0 1 w (hX hw)) ?_)|(show ∀ _:Nat,T _ _ _ _ _;intro _))
 rw [aw22P,aw22F]
 have hY:∀ {w':World} {H:List HA},Cls w w' (blk b4 ((aw22l x1 x2).map TS.val) 38::blk sS ([s22A,s22B].map Value.string) 9::row 42 6 x1.1 x1.2 2 (aw22a.flatMap Tok.cells)::row 42 6 x2.1 x2.2 3 (aw22b.flatMap Tok.cells)::blk tb [.slice (some ⟨r0,0,none⟩) 2 2, .slice (some ⟨r1,0,none⟩) 2 2, .slice (some ⟨r2,0,none⟩) 2 2] 47::blk r0 [.int .i64 0, .int .i64 0] 3::blk r1 [.int .i64 (-1), .int .i64 1] 3::blk r2 [.int .i64 1, .int .i64 2] 3::H)→CoSm w' aw22x (some ⟨sS,0,none⟩) 2 (aw22l x1 x2) (some ⟨b4,0,none⟩) 2 (.slice (some ⟨tb,0,none⟩) 3 3):=fun hw =>
  ⟨rd_lit (n:=2) (hX hw).hd.s1 (by omega) (Rd.vals _),(hX hw).hd.s2,Nat.le_of_ble_eq_true rfl,(hX hw).hd.ok,rfl,(hX hw).cols⟩
 repeat' (first|refine d1 ?_|refine dd ?_|(show T _ (.ops _ (_::_)::_) _ _ _;first|refine T_callC rfl rfl rfl rfl rfl rfl rfl (fun _ w hw=>sameR22_spec aw22x aw22x y1.1 (some ⟨sS,0,none⟩) y1.2 2 (aw22l x1 x2) (aw22l x1 x2) y2.1 (some ⟨b4,0,none⟩) y2.2 2 _ _ w (ofP22 hp rfl hw (hX hw).hd.ok) (hY hw)) ?_|refine T_callC rfl rfl rfl rfl rfl rfl rfl (fun _ w hw=>sameP22_spec aw22x aw22x y1.1 (some ⟨sS,0,none⟩) y1.2 2 (aw22l x1 x2) (aw22l x1 x2) y2.1 (some ⟨b4,0,none⟩) y2.2 2 _ _ w (ofP22 hp rfl hw (hX hw).hd.ok) (hY hw)) ?_|refine T_callC rfl rfl rfl rfl rfl rfl rfl (fun _ w hw=>checkP22_spec ⟨sA,[],[],[]⟩ none 0 [] none 0 (.slice none 0 0) w (coNone (hst.cls hw))) ?_)|(show ∀ _:Nat,T _ _ _ _ _;intro _))
 rw [same22_refl,aw22N,show decide ((s22P,(0:Int)).1=(⟨#[65,124,100,101,117,115,124,124,101,115,116,10,66,124,100,101,117,115,124,110,111,110,124,101,115,116,10]⟩:ByteArray))=true from decide_eq_true rfl]
 exact T_retM (vs:=[.bool true]) [] ⟨rfl,trivial⟩ (Hle.none _) ⟨rfl,rfl⟩
end Go.Proofs.YtblnhdnogjijiaaGreatDoor
namespace Go.Proofs.YtblnhdnogjijiaaGreatDoor
open Go.RowKit Go.Shelf Go.Proofs
set_option maxRecDepth 100000
set_option maxHeartbeats 1000000

theorem Rd.rowS {R:Rdr} {x:Value} {r:List ByteArray} (h:Rd R [x] [strsD r]):∃ A cap,x = .slice A r.length cap∧r.length≤cap∧cap≤9223372036854775807∧(0<r.length→∃ b o,A=some ⟨b,o,none⟩∧∀ (k:Nat) s,r[k]?=some s→R b (o+k)=some (.string s)):=by
 obtain⟨A,n,cap,rfl,h1,h2,h3,h4⟩:=h.vals_one
 have e:n=r.length:=by simpa using h1.symm
 subst e
 exact⟨A,cap,rfl,h2,h3,fun h0=>⟨bk A,ofs A,(h4 h0).1,fun k z hz=>(h4 h0).2 k _ (by rw [List.getElem?_map,hz];rfl)⟩⟩
structure CoAr (w:World) (x:Co) (A1:Option Addr) (c1:Nat) (l:List TS) (A2:Option Addr) (c2:Nat) (y3:Value):Prop where
 r1:Rd (wr w) [.slice A1 x.sg.length c1] [strsD x.sg]
 s1:Src w 1 A1 x.sg.length (x.sg.map Value.string)
 b1:x.sg.length≤c1
 b1':x.sg.length≤9223372036854775807
 s2:Src w 1 A2 l.length (l.map TS.val)
 b2:l.length≤9223372036854775807
 ok:TsOk w l
 m:l.map TS.l=x.m
 cols:Rd (wr w) [y3] [rowsD x.cols]
theorem co_arg {w:World} {x:Co} {y1 y2 y3:Value} (h:CoRd w y1 y2 y3 x):∃ (A1:Option Addr) (c1:Nat) (l:List TS) (A2:Option Addr) (c2:Nat),y1 = .slice A1 x.sg.length c1∧y2 = .slice A2 l.length c2∧CoAr w x A1 c1 l A2 c2 y3:=by
 obtain⟨h1,h2,h3⟩:=h
 obtain⟨A1,c1,rfl,g1,g2,g3⟩:=h1.strs
 obtain⟨A2,c2,l,rfl,g4,g5,g6,g7⟩:=h2.toksL
 exact⟨A1,c1,l,A2,c2,rfl,rfl,⟨h1,g3,g1,by omega,g5,g4,g6,g7,h3⟩⟩
theorem CoAr.cls {w0 w:World} {H:List HA} {x:Co} {A1 A2:Option Addr} {c1 c2:Nat} {l:List TS} {y3:Value} (h:CoAr w0 x A1 c1 l A2 c2 y3) (hw:Cls w0 w H):CoAr w x A1 c1 l A2 c2 y3 :=
 ⟨h.r1.old hw,h.s1.old hw,h.b1,h.b1',h.s2.old hw,h.b2,⟨fun t ht=>src_below (h.ok.src t ht) hw.below,h.ok.len,h.ok.bd⟩,h.m,h.cols.old hw⟩
theorem CoAr.sm {w:World} {x:Co} {A1 A2:Option Addr} {c1 c2:Nat} {l:List TS} {y3:Value} (h:CoAr w x A1 c1 l A2 c2 y3):CoSm w x A1 c1 l A2 c2 y3:=⟨h.r1,h.s2,h.b2,h.ok,h.m,h.cols⟩
theorem CoAr.at {w:World} {x:Co} {A1 A2:Option Addr} {c1 c2:Nat} {l:List TS} {y3:Value} (h:CoAr w x A1 c1 l A2 c2 y3) (hst:Std w) (hs:Small22 x):CoAt w x A1 c1 l A2 c2 y3 :=
 have hl:x.m.length=l.length:=by rw [← h.m,List.length_map]
 have hm:∀ t∈l,t.l∈x.m:=fun t ht=>by rw [← h.m];exact List.mem_map_of_mem ht
 ⟨⟨hst,h.s1,h.b1,h.s2,h.ok,hs.sec,hs.sig,hs.sg,by have:=hs.len;omega,fun t ht=>⟨by have:=(hs.tok _ (hm t ht)).1;rw [h.ok.len t ht] at this;exact this,(hs.tok _ (hm t ht)).2⟩,fun t ht=>hs.txt _ (hm t ht)⟩,h.m,h.cols⟩
theorem CoAr.great {w:World} {x:Co} {A1 A2:Option Addr} {c1 c2:Nat} {l:List TS} {y3:Value} (h:CoAr w x A1 c1 l A2 c2 y3) :
  Spec Tryz.prog 20 [.agg (coL x.sec (.slice A1 x.sg.length c1) (.slice A2 l.length c2) y3).toArray] w (fun v R=>v = .bool (great22 x)∧R=[]) :=
 great22_spec x A1 c1 l A2 c2 y3 w h.s1 h.b1' h.s2 h.ok h.b2 h.m h.cols
noncomputable def fine22 (x:Co):Bool := !great22 x && decide (chk22 x=0)
theorem fine22_iff {x:Co}:fine22 x=true↔Small22 x∧Ok22 x∧great22 x=false:=by
 unfold fine22
 rw [Bool.and_eq_true,Bool.not_eq_true',decide_eq_true_eq]
 exact⟨fun h=>⟨great22_no h.1,chk22_iff.1 h.2,h.1⟩,fun h=>⟨h.2.2,chk22_iff.2 h.2.1⟩⟩
theorem fine22_spec (x:Co) (A1:Option Addr) (c1:Nat) (l:List TS) (A2:Option Addr) (c2:Nat) (y3:Value) (w:World) (hst:Std w) (h:CoAr w x A1 c1 l A2 c2 y3) :
  Spec Tryz.prog 17 [.agg (coL x.sec (.slice A1 x.sg.length c1) (.slice A2 l.length c2) y3).toArray] w (fun v R=>v = .bool (fine22 x)∧R=[]):=by
 obtain⟨Ak,ck,csk,rfl,-⟩:=h.cols.tabS
 refine spec_of sg Tryz.func17 rfl rfl rfl ?_
 repeat' (first|(show T _ (.ops _ (⟨_, .box _ _,_,_,_,_⟩::_)::_) _ _ _;refine T_op (OpT.box (cs:=coL x.sec (.slice A1 x.sg.length c1) (.slice A2 l.length c2) (.slice Ak x.cols.length ck)) rfl rfl rfl rfl rfl rfl rfl (fun _=>?_)))|refine d1 ?_|refine dd ?_|(show T _ (.ops _ (_::_)::_) _ _ _;first|refine T_call rfl rfl rfl rfl rfl (fun w hw=>(h.cls hw).great) ?_|refine T_callC rfl rfl rfl rfl rfl rfl rfl (fun hg w hw=>(h.cls hw).great) ?_|refine T_callC rfl rfl rfl rfl rfl rfl rfl (fun hG w hw=>checkR22_spec x A1 c1 l A2 c2 (.slice Ak x.cols.length ck) w ((h.cls hw).at (hst.cls hw) (great22_no (by have h1:(!great22 x)=true:=hG.1;simpa using h1)))) ?_)|(show T _ (.run _ _ (_::_) _ _::_) _ _ _;first|refine rc rfl rfl rfl rfl rfl rfl rfl (fun w hw=>(h.cls hw).great) ?_|refine rcG rfl rfl rfl rfl rfl rfl rfl rfl rfl (fun hg w hw=>(h.cls hw).great) ?_)|(show ∀ _:Nat,T _ _ _ _ _;intro _))
 repeat' (first|refine d1 ?_|refine dd ?_|(show ∀ _:Nat,T _ _ _ _ _;intro _)|(show T _ (.code .ret::_) _ _ _;refine T_retV [] rfl (Hle.none _) ⟨rfl,rfl⟩))
end Go.Proofs.YtblnhdnogjijiaaGreatDoor
