/- The law ProgressiveOrder holds for whatever costs and sources: the tied card of its row. No condition beyond the row's own. -/
import Derived.Test.YthadgaboakipoaaGreatDoorS3
import Derived.Test.YthadgaboakipoaaGreatDoorCards
import Derived.Test.YthadgaboakipoaaGreatDoorTie
set_option linter.unusedSectionVars false
set_option linter.unusedVariables false
set_option linter.unusedSimpArgs false
namespace Go.Proofs.YthadgaboakipoaaGreatDoor
open Go.RowKit Go.Shelf Go.ChangeShapes Go.WideShapes Go.Proofs
set_option maxRecDepth 100000
set_option maxHeartbeats 1000000

theorem sort_range {ys:List Int} {n:Nat} (hl:ys.length=n) (hd:ys.Nodup) (hb:∀ x∈ys,0≤x∧x<(n:Int)) (hs:∀ p q,p<q→q<n→ys.getD p 0≤ys.getD q 0):∀ i,i<n→ys.getD i 0=(i:Int):=by
 have hg:∀ i,i<n→∃ h:i<ys.length,ys.getD i 0=ys[i]:=fun i hi=>⟨by omega,by rw [List.getD_eq_getElem?_getD,List.getElem?_eq_getElem (by omega)];rfl⟩
 have hst:∀ p q,p<q→q<n→ys.getD p 0+1≤ys.getD q 0:=fun p q hpq hq=>by
  have h1:=hs p q hpq hq
  obtain⟨hp1,e1⟩:=hg p (by omega)
  obtain⟨hq1,e2⟩:=hg q hq
  have h2:ys[p]≠ys[q]:=fun e=>by have:=(List.getElem_inj hd).1 e;omega
  rw [e1,e2] at h1 ⊢
  omega
 have hlo:∀ i,i<n→(i:Int)≤ys.getD i 0:=fun i=>by
  induction i with
  | zero=>intro hi;obtain⟨h1,e⟩:=hg 0 hi;rw [e];have:=(hb _ (List.getElem_mem h1)).1;omega
  | succ i ih=>intro hi;have h1:=ih (by omega);have h2:=hst i (i+1) (by omega) hi;omega
 have hup:∀ j i,i+j+1=n→ys.getD i 0+(j:Int)≤(n:Int) - 1:=fun j=>by
  induction j with
  | zero=>intro i hi;obtain⟨h1,e⟩:=hg i (by omega);rw [e];have:=(hb _ (List.getElem_mem h1)).2;omega
  | succ j ih=>intro i hi;have h1:=ih (i+1) (by omega);have h2:=hst i (i+1) (by omega) (by omega);omega
 intro i hi
 have h1:=hlo i hi
 have h2:=hup (n - 1 - i) i (by omega)
 omega
theorem intN_at {l:List Nat} {k x:Nat} (h:l[k]?=some x):(intN l)[k]?=some (x:Int):=by unfold intN;rw [List.getElem?_map,h];rfl
theorem intN_nodup {l:List Nat} (h:l.Nodup):(intN l).Nodup:=by
 unfold intN
 exact List.pairwise_map.2 (h.imp fun hne e=>hne (by omega))
def nrW (D:Nat→Nat→Int) (i:Nat) (out:List Nat):Int:=out.foldl (fun b k=>if b<0∨D i k<b then D i k else b) (-1)
theorem nrW_snoc (D:Nat→Nat→Int) (i:Nat) (out:List Nat) (k:Nat):nrW D i (out++[k])=if nrW D i out<0∨D i k<nrW D i out then D i k else nrW D i out:=by
 unfold nrW;rw [List.foldl_append];rfl
theorem nrW_min {D:Nat→Nat→Int} (hD:∀ i k,0≤D i k) (i:Nat):∀ m (out:List Nat),m≤out.length→(m=0∧nrW D i (out.take m) = -1)∨((∃ k∈out.take m,D i k=nrW D i (out.take m))∧∀ k∈out.take m,nrW D i (out.take m)≤D i k):=by
 intro m out
 induction m with
 | zero=>intro _;exact .inl ⟨rfl,rfl⟩
 | succ m ih =>
  intro hm
  obtain⟨x,hx⟩:∃ x,out[m]?=some x:=⟨_,List.getElem?_eq_getElem (by omega)⟩
  have htk:=take_snoc _ _ _ hx
  rw [htk,nrW_snoc]
  refine .inr ?_
  have hxm:x∈out.take m++[x]:=by simp
  rcases ih (by omega) with⟨-,h1⟩|⟨⟨k,hk,h1⟩,h2⟩
  ·rw [if_pos (.inl (by omega))]
   refine ⟨⟨x,hxm,rfl⟩,fun k hk=>?_⟩
   have h0:out.take m=[]:=by
    rcases ih (by omega) with⟨h9,-⟩|⟨⟨k9,hk9,h9⟩,-⟩
    ·rw [h9];rfl
    ·have:=hD i k9;omega
   rw [h0] at hk
   have:k=x:=by simpa using hk
   rw [this];exact Int.le_refl _
  ·by_cases hlt:nrW D i (out.take m)<0∨D i x<nrW D i (out.take m)
   ·rw [if_pos hlt]
    have hlt:D i x<nrW D i (out.take m):=by have:=hD i k;omega
    refine ⟨⟨x,hxm,rfl⟩,fun j hj=>?_⟩
    rcases List.mem_append.1 hj with hj|hj
    ·have:=h2 j hj;omega
    ·have:j=x:=by simpa using hj
     rw [this];exact Int.le_refl _
   ·rw [if_neg hlt]
    refine ⟨⟨k,List.mem_append.2 (.inl hk),h1⟩,fun j hj=>?_⟩
    rcases List.mem_append.1 hj with hj|hj
    ·exact h2 j hj
    ·have:j=x:=by simpa using hj
     rw [this];omega
theorem nrW_near {D:Nat→Nat→Int} (hD:∀ i k,0≤D i k) (i:Nat) {out:List Nat} {n:Nat} (h:out≠[]) (hn:∀ x∈out,x<n):nrW D i out=nearV D out i:=by
 rcases nrW_min hD i out.length out (Nat.le_refl _) with⟨h1,-⟩|⟨⟨k,hk,h1⟩,h2⟩
 ·exact absurd (List.eq_nil_of_length_eq_zero h1) h
 ·rw [List.take_length] at hk h1 h2
  have h3:IsMin (D i) (fun j=>j<n∧tkOf out j=true) (nrW D i out):=⟨⟨k,⟨hn k hk,tkOf_iff.2 hk⟩,h1⟩,fun j hj=>h2 j (tkOf_iff.1 hj.2)⟩
  exact h3.uniq (nearV_min D h i hn)
theorem order_laws {D:Nat→Nat→Int} (hD:∀ i k,0≤D i k) (hS:Sym D) {n m:Nat} (hm1:1≤m) (hmn:m<n) :
  0≤nrW D ((orderV D n).getD m 0) ((orderV D n).take m)∧(∀ q,m≤q→q<n→nrW D ((orderV D n).getD m 0) ((orderV D n).take m)≤nrW D ((orderV D n).getD q 0) ((orderV D n).take m)) ∧
   (m=1→∀ i k,k<i→i<n→nrW D ((orderV D n).getD m 0) ((orderV D n).take m)≤D i k):=by
 obtain⟨hnd,hlt⟩:=orderV_ok hD n
 have hol:=orderV_len D n
 have ho:orderV D n=ordJ D n (n - 2):=by unfold orderV;rw [if_neg (by omega),if_neg (by omega)]
 by_cases h1:m=1
 ·subst h1
  have e2:(orderV D n).take 2=[(selI D n n).1,(selI D n n).2]:=by
   have:=ordJ_take D n 0 (n - 2)
   simp only [Nat.zero_add] at this
   rw [← ho] at this
   exact this
  have g0:(orderV D n)[0]?=some (selI D n n).1:=by
   have:((orderV D n).take 2)[0]?=some (selI D n n).1:=by rw [e2];rfl
   rwa [List.getElem?_take,if_pos (by omega)] at this
  have g1:(orderV D n)[1]?=some (selI D n n).2:=by
   have:((orderV D n).take 2)[1]?=some (selI D n n).2:=by rw [e2];rfl
   rwa [List.getElem?_take,if_pos (by omega)] at this
  have t1:(orderV D n).take 1=[(selI D n n).1]:=by rw [take_snoc _ 0 _ g0];rfl
  have d1:(orderV D n).getD 1 0=(selI D n n).2:=by rw [List.getD_eq_getElem?_getD,g1];rfl
  have hone:∀ i,nrW D i [(selI D n n).1]=D i (selI D n n).1:=fun i=>by
   unfold nrW
   rw [List.foldl_cons,List.foldl_nil,if_pos (.inl (by omega))]
  rw [t1,d1,hone,hS.s]
  have hle:∀ i k,i≠k→i<n→k<n→D (selI D n n).1 (selI D n n).2≤D i k:=fun i k hne hi hk=>by
   rcases Nat.lt_or_ge i k with h|h
   ·exact selI_le n i k hi h hk
   ·rw [hS.s i k];exact selI_le n k i hk (by omega) hi
  refine ⟨hD _ _,fun q hq hqn=>?_,fun _ i k hki hi=>hle i k (by omega) hi (by omega)⟩
  rw [hone]
  have hq0:(orderV D n)[q]?=some ((orderV D n).getD q 0):=ord_get (by omega)
  refine hle _ _ (fun e=>?_) (hlt _ (List.mem_of_getElem? hq0)) (hlt _ (List.mem_of_getElem? g0))
  have e0:(orderV D n).getD q 0=(orderV D n).getD 0 0:=by rw [e,List.getD_eq_getElem?_getD,g0];rfl
  have:=ord_inj hnd (by omega) (by omega) e0
  omega
 ·obtain⟨j,rfl⟩:∃ j,m=j+2:=⟨m - 2,by omega⟩
  have tk:(orderV D n).take (j+2)=ordJ D n j:=by
   have:=ordJ_take D n j (n - 2 - j)
   rwa [show j+(n - 2 - j)=n - 2 by omega, ← ho] at this
  have tk3:(orderV D n).take (j+3)=ordJ D n (j+1):=by
   have:=ordJ_take D n (j+1) (n - 3 - j)
   rwa [show j+1+(n - 3 - j)=n - 2 by omega, ← ho] at this
  have gm:(orderV D n)[j+2]?=some (nxtO D n (ordJ D n j)):=by
   have:((orderV D n).take (j+3))[j+2]?=some (nxtO D n (ordJ D n j)):=by
    rw [tk3]
    show (ordJ D n j++[nxtO D n (ordJ D n j)])[j+2]?=_
    rw [List.getElem?_append_right (by rw [ordJ_len];exact Nat.le_refl _),ordJ_len,Nat.sub_self];rfl
   rwa [List.getElem?_take,if_pos (by omega)] at this
  have dm:(orderV D n).getD (j+2) 0=nxtO D n (ordJ D n j):=by rw [List.getD_eq_getElem?_getD,gm];rfl
  obtain⟨g1,g2⟩:=ordJ_ok hD (show 2≤n by omega) j (by omega)
  have hne:ordJ D n j≠[]:=fun h=>by have:=ordJ_len D n j;rw [h] at this;simp at this
  obtain⟨q1,q2,-,-,q3,q4⟩:=nxtO_law hD hne g2 (by rw [ordJ_len];omega)
  rw [tk,dm,nrW_near hD _ hne g2]
  refine ⟨q3,fun q hq hqn=>?_,fun h=>by omega⟩
  rw [nrW_near hD _ hne g2]
  have hq0:(orderV D n)[q]?=some ((orderV D n).getD q 0):=ord_get (by omega)
  refine q4 _ (hlt _ (List.mem_of_getElem? hq0)) fun hin=>?_
  rw [← tk] at hin
  obtain⟨r,hr,e⟩:=List.getElem_of_mem hin
  rw [List.length_take] at hr
  rw [List.getElem_take] at e
  have e0:(orderV D n).getD q 0=(orderV D n).getD r 0:=by rw [← e,List.getD_eq_getElem?_getD (l:=orderV D n) (i:=r),List.getElem?_eq_getElem (by omega)];rfl
  have:=ord_inj hnd (by omega) (by omega) e0
  omega
theorem grd_xch21 (c:Costs) (a b:List Tok):Xch (grdOf c a b) (grdOf c b a) :=
 ⟨rfl,rfl,fun i k _ _=>pairC_swap c (tkA b k) (tkA a i),fun _ _=>rfl,fun _ _=>rfl⟩
theorem dst_any {c:Costs} {l:List TS} (hc:costE c=0) (hbs:badS l=false) {i k:Nat} {s t:TS} (hs:l[i]?=some s) (ht:l[k]?=some t) (h:i≠k):distV c s.l t.l=(dstT c l i k,0):=by
 rcases Nat.lt_or_ge i k with h1|h1
 ·exact dst_V hc hbs hs ht h1
 ·have h2:=dst_V hc hbs ht hs (show k<i by omega)
  rw [(dstT_sym c l).s, ← h2]
  have h3:ckV c s.l t.l=0∧ckV c t.l s.l=0:=by
   have h4:=badL_false.2 (badS_ok hbs s (List.mem_of_getElem? hs))
   have h5:=badL_false.2 (badS_ok hbs t (List.mem_of_getElem? ht))
   constructor <;> (unfold ckV;rw [if_neg];rw [h4,h5];simp [hc])
  unfold distV
  rw [if_pos h3.1,if_pos h3.2,rst_xch (grd_xch21 c s.l t.l) 0 0]
def fD21 (p2 p3:Nat):Value := .func (.func 11) #[] #[.pointer (some ⟨p2,0,none⟩), .pointer (some ⟨p3,0,none⟩)]
def fN21 (p10:Nat):Value := .func (.func 13) #[] #[.pointer (some ⟨p10,0,none⟩)]
theorem rdBlk {w0:World} {H:List HA} {b:Nat} {cs:List Value} {t:TypeId} {rb:HA→List HA} [Focus H b cs t rb] {w:World} (hw:Cls w0 w H):RdC w b 0 cs :=
 rdAll (C:=⟨sg,⟨0,[]⟩,w0,none,fun _ _=>True,fun _ _=>True,fun _ _ _=>True⟩) (t:=t) (rb:=rb) w hw
theorem dist21_spec (c:Costs) (A:Option Addr) (n ca:Nat) (l:List TS) (p2 p3 i k:Nat) (w:World) (hg:Grp w A n l) (hc:costE c=0) (hbs:badS l=false) (h2:RdC w p2 0 c.cells) (h3:RdC w p3 0 [.slice A n ca]) (hi:i<n) (hk:k<n) (hik:i≠k) :
  Spec Tryz.prog 11 [.int .i64 (i:Nat), .int .i64 (k:Nat), .pointer (some ⟨p2,0,none⟩), .pointer (some ⟨p3,0,none⟩)] w (fun v R=>v = .int .i64 (dstT c l i k)∧R=[]):=by
 obtain⟨b,o,rfl⟩:=hg.hs.base (by omega)
 obtain⟨s,hs,hsm,hrs⟩:=hg.get hi
 obtain⟨t,ht,htm,hrt⟩:=hg.get hk
 refine spec_of sg Tryz.func11 rfl rfl rfl ?_
 repeat' (first|refine d1 ?_|refine dd ?_|(show T _ (.ops _ (_::_)::_) _ _ _;first|refine T_val rfl (Val.loadA (vs:=c.cells) rfl (fun _=>rdOld h2) rfl) rfl rfl rfl ?_|refine T_valC rfl (Val.loadA (vs:=c.cells) rfl (fun _=>rdOld h2) rfl) rfl rfl rfl rfl rfl ?_|refine T_val rfl (Val.load rfl (fun hg=>rdOld h3)) rfl rfl rfl ?_|refine T_valC rfl (Val.load rfl (fun hg=>rdOld h3)) rfl rfl rfl rfl rfl ?_|refine T_val rfl (Val.load rfl (fun hg=>rdOld hrs)) rfl rfl rfl ?_|refine T_valC rfl (Val.load rfl (fun hg=>rdOld hrs)) rfl rfl rfl rfl rfl ?_|refine T_val rfl (Val.load rfl (fun hg=>rdOld hrt)) rfl rfl rfl ?_|refine T_valC rfl (Val.load rfl (fun hg=>rdOld hrt)) rfl rfl rfl rfl rfl ?_|refine T_call rfl rfl rfl rfl rfl (fun w hw=>distancePrg_spec c s.A t.A s.n t.n s.cap t.cap s.l t.l w ((hg.two hsm htm).cls hw)) ?_|refine T_callC rfl rfl rfl rfl rfl rfl rfl (fun hg w hw=>distancePrg_spec c s.A t.A s.n t.n s.cap t.cap s.l t.l w ((hg.two hsm htm).cls hw)) ?_)|(show T _ (.run _ _ (_::_) _ _::_) _ _ _;first|refine rv rfl rfl rfl (Val.loadA (vs:=c.cells) rfl (fun _=>rdOld h2) rfl) rfl rfl rfl ?_|refine rg rfl rfl rfl (Val.loadA (vs:=c.cells) rfl (fun _=>rdOld h2) rfl) rfl rfl rfl rfl rfl ?_|refine rv rfl rfl rfl (Val.load rfl (fun hg=>rdOld h3)) rfl rfl rfl ?_|refine rg rfl rfl rfl (Val.load rfl (fun hg=>rdOld h3)) rfl rfl rfl rfl rfl ?_|refine rv rfl rfl rfl (Val.load rfl (fun hg=>rdOld hrs)) rfl rfl rfl ?_|refine rg rfl rfl rfl (Val.load rfl (fun hg=>rdOld hrs)) rfl rfl rfl rfl rfl ?_|refine rv rfl rfl rfl (Val.load rfl (fun hg=>rdOld hrt)) rfl rfl rfl ?_|refine rg rfl rfl rfl (Val.load rfl (fun hg=>rdOld hrt)) rfl rfl rfl rfl rfl ?_|refine rc rfl rfl rfl rfl rfl rfl rfl (fun w hw=>distancePrg_spec c s.A t.A s.n t.n s.cap t.cap s.l t.l w ((hg.two hsm htm).cls hw)) ?_|refine rcG rfl rfl rfl rfl rfl rfl rfl rfl rfl (fun hg w hw=>distancePrg_spec c s.A t.A s.n t.n s.cap t.cap s.l t.l w ((hg.two hsm htm).cls hw)) ?_)|(show ∀ _:Nat,T _ _ _ _ _;intro _))
 rw [dst_any hc hbs hs ht hik]
 refine T_if rfl (fun h=>by exfalso;simp at h) (fun _=>?_)
 repeat' (first|refine d1 ?_|refine dd ?_|(show ∀ _:Nat,T _ _ _ _ _;intro _)|(show T _ (.code .ret::_) _ _ _;refine T_retV [] rfl (Hle.none _) ⟨rfl,rfl⟩))
theorem near21_spec (c:Costs) (A:Option Addr) (n ca:Nat) (l:List TS) (p2 p3 p10 i:Nat) (At:Option Addr) (m ct:Nat) (out:List Nat) (w:World) (hg:Grp w A n l) (hc:costE c=0) (hbs:badS l=false) (h2:RdC w p2 0 c.cells) (h3:RdC w p3 0 [.slice A n ca]) (h10:RdC w p10 0 [fD21 p2 p3])
  (hi:i<n) (hm:out.length=m) (hmb:m≤1000) (hs:Src w 1 At m ((intN out).map (Value.int .i64))) (hout:∀ k∈out,k<n∧i≠k) :
  Spec Tryz.prog 13 [.int .i64 (i:Nat), .slice At m ct, .pointer (some ⟨p10,0,none⟩)] w (fun v R=>v = .int .i64 (nrW (dstT c l) i out)∧R=[]):=by
 refine spec_of sg Tryz.func13 rfl rfl rfl ?_
 have hD:∀ i k,0≤dstT c l i k∧dstT c l i k≤2000000:=dstT_bd hc hg.len
 repeat' (first|refine d1 ?_|refine dd ?_|(show ∀ _:Nat,T _ _ _ _ _;intro _))
 refine T_loopX (fun k:Nat=>[(12, .int .i64 (k:Nat)),(6, .int .i64 (nrW (dstT c l) i (out.take k)))]) (fun _=>[]) (fun k=>k≤m) (fun k=>m - k) 0 (Nat.zero_le _) ?_
 intro k hk
 repeat' (first|refine d1 ?_|refine dd ?_|(show ∀ _:Nat,T _ _ _ _ _;intro _))
 refine T_if rfl (fun h=>?_) (fun h=>?_)
 ·simp only [decide_eq_true_eq] at h
  obtain⟨x,hx⟩:∃ x,out[k]?=some x:=⟨_,List.getElem?_eq_getElem (by omega)⟩
  obtain⟨hxn,hix⟩:=hout x (List.mem_of_getElem? hx)
  obtain⟨b,o,rfl⟩:=hs.base (by omega)
  have hr:=src_int hs (k:=k) (by omega) (intN_at hx)
  have e:=nrW_snoc (dstT c l) i (out.take k) x
  rw [← take_snoc _ _ _ hx] at e
  repeat' (first|refine d1 ?_|refine dd ?_|(show T _ (.ops _ (_::_)::_) _ _ _;first|refine T_val rfl (Val.load rfl (fun hg=>rdOld hr)) rfl rfl rfl ?_|refine T_valC rfl (Val.load rfl (fun hg=>rdOld hr)) rfl rfl rfl rfl rfl ?_|refine T_val rfl (Val.load rfl (fun hg=>rdOld h10)) rfl rfl rfl ?_|refine T_valC rfl (Val.load rfl (fun hg=>rdOld h10)) rfl rfl rfl rfl rfl ?_|refine T_call rfl rfl rfl rfl rfl (fun w hw=>dist21_spec c A n ca l p2 p3 i x w (hg.cls hw) hc hbs (rdOld h2 w hw) (rdOld h3 w hw) hi hxn hix) ?_|refine T_callC rfl rfl rfl rfl rfl rfl rfl (fun hg w hw=>dist21_spec c A n ca l p2 p3 i x w (hg.cls hw) hc hbs (rdOld h2 w hw) (rdOld h3 w hw) hi hxn hix) ?_)|(show T _ (.run _ _ (_::_) _ _::_) _ _ _;first|refine rv rfl rfl rfl (Val.load rfl (fun hg=>rdOld hr)) rfl rfl rfl ?_|refine rg rfl rfl rfl (Val.load rfl (fun hg=>rdOld hr)) rfl rfl rfl rfl rfl ?_|refine rv rfl rfl rfl (Val.load rfl (fun hg=>rdOld h10)) rfl rfl rfl ?_|refine rg rfl rfl rfl (Val.load rfl (fun hg=>rdOld h10)) rfl rfl rfl rfl rfl ?_|refine rc rfl rfl rfl rfl rfl rfl rfl (fun w hw=>dist21_spec c A n ca l p2 p3 i x w (hg.cls hw) hc hbs (rdOld h2 w hw) (rdOld h3 w hw) hi hxn hix) ?_|refine rcG rfl rfl rfl rfl rfl rfl rfl rfl rfl (fun hg w hw=>dist21_spec c A n ca l p2 p3 i x w (hg.cls hw) hc hbs (rdOld h2 w hw) (rdOld h3 w hw) hi hxn hix) ?_)|(show ∀ _:Nat,T _ _ _ _ _;intro _))
  refine T_if rfl (fun h6=>?_) (fun h6=>?_)
  ·have h7:nrW (dstT c l) i (out.take k)<0∨dstT c l i x<nrW (dstT c l) i (out.take k):=by simpa using h6
   rw [if_pos h7] at e
   repeat' (first|refine d1 ?_|refine dd ?_|(show ∀ _:Nat,T _ _ _ _ _;intro _))
   exact T_backX (k+1) (by omega) (by omega) (hE:=⟨rfl,by (try dsimp only);rw [e];rfl,trivial⟩)
  ·have h7:¬ (nrW (dstT c l) i (out.take k)<0∨dstT c l i x<nrW (dstT c l) i (out.take k)):=fun h9=>by
    have:(decide (nrW (dstT c l) i (out.take k)<0) || decide (dstT c l i x<nrW (dstT c l) i (out.take k)))=true:=by simpa using h9
    rw [this] at h6;cases h6
   rw [if_neg h7] at e
   repeat' (first|refine d1 ?_|refine dd ?_|(show ∀ _:Nat,T _ _ _ _ _;intro _))
   exact T_backX (k+1) (by omega) (by omega) (hE:=⟨rfl,by (try dsimp only);rw [e];rfl,trivial⟩)
 ·simp only [decide_eq_false_iff_not] at h
  obtain rfl:k=m:=by omega
  rw [List.take_of_length_le (by omega)]
  repeat' (first|refine d1 ?_|refine dd ?_|(show ∀ _:Nat,T _ _ _ _ _;intro _)|(show T _ (.code .ret::_) _ _ _;refine T_retV [] rfl (Hle.none _) ⟨rfl,rfl⟩))
theorem orderL21_spec (c:Costs) (x:Value) (m:List (List Tok)) (w:World) (hst:Std w) (hx:Rd (wr w) [x] [.s 1 (m.map toksD)]) :
  Spec Tryz.prog 3 [c.val,x] w (fun v R=>v = .bool true∧R=[]):=by
 obtain⟨A,ca,l,rfl,hnb,hs,hl,-⟩:=hx.toksL
 refine spec_of sg Tryz.func3 rfl rfl rfl ?_
 refine T_op (OpT.box (cs:=c.cells) rfl rfl rfl rfl rfl rfl rfl (fun p2=>?_))
 refine T_op (OpT.box (cs:=[.slice A l.length ca]) rfl rfl rfl rfl rfl rfl rfl (fun p3=>?_))
 repeat' (first|refine d1 ?_|refine dd ?_|(show T _ (.ops _ (_::_)::_) _ _ _;first|refine T_call rfl rfl rfl rfl rfl (fun w hw=>fine21_spec c A l.length ca l w (rdSrc hs w hw) rfl hnb ⟨fun t ht=>src_below (hl.src t ht) hw.below,hl.len,hl.bd⟩) ?_|refine T_callC rfl rfl rfl rfl rfl rfl rfl (fun hg w hw=>fine21_spec c A l.length ca l w (rdSrc hs w hw) rfl hnb ⟨fun t ht=>src_below (hl.src t ht) hw.below,hl.len,hl.bd⟩) ?_)|(show T _ (.run _ _ (_::_) _ _::_) _ _ _;first|refine rc rfl rfl rfl rfl rfl rfl rfl (fun w hw=>fine21_spec c A l.length ca l w (rdSrc hs w hw) rfl hnb ⟨fun t ht=>src_below (hl.src t ht) hw.below,hl.len,hl.bd⟩) ?_|refine rcG rfl rfl rfl rfl rfl rfl rfl rfl rfl (fun hg w hw=>fine21_spec c A l.length ca l w (rdSrc hs w hw) rfl hnb ⟨fun t ht=>src_below (hl.src t ht) hw.below,hl.len,hl.bd⟩) ?_)|(show ∀ _:Nat,T _ _ _ _ _;intro _))
 refine T_if rfl (fun h=>?_) (fun h=>?_)
 ·repeat' (first|refine d1 ?_|refine dd ?_|(show T _ (.ops _ (_::_)::_) _ _ _;first|refine T_call rfl rfl rfl rfl rfl (fun w hw=>awake21_spec w (hst.cls hw)) ?_|refine T_callC rfl rfl rfl rfl rfl rfl rfl (fun hg w hw=>awake21_spec w (hst.cls hw)) ?_)|(show T _ (.run _ _ (_::_) _ _::_) _ _ _;first|refine rc rfl rfl rfl rfl rfl rfl rfl (fun w hw=>awake21_spec w (hst.cls hw)) ?_|refine rcG rfl rfl rfl rfl rfl rfl rfl rfl rfl (fun hg w hw=>awake21_spec w (hst.cls hw)) ?_)|(show ∀ _:Nat,T _ _ _ _ _;intro _)|(show T _ (.code .ret::_) _ _ _;refine T_retV [] rfl (Hle.none _) ⟨rfl,rfl⟩))
 obtain⟨hc,hgr,hbs,hck⟩:=fineV_ok (by simpa using h)
 clear h
 obtain⟨hgp,hn4,hq⟩:=Grp.of hst hs rfl hl hgr
 have hD:∀ i k,0≤dstT c l i k∧dstT c l i k≤2000000:=dstT_bd hc hgp.len
 repeat' (first|refine d1 ?_|refine dd ?_|(show T _ (.ops _ (_::_)::_) _ _ _;refine T_op (OpT.call rfl rfl rfl rfl rfl (fun w hw=>orderPrg21_spec c A l.length ca l w (hgp.cls hw)) ?_))|(show ∀ _:Nat,T _ _ _ _ _;intro _))
 rintro v R ⟨a,-,rfl,rfl⟩
 have eo:ordV c l=(orderV (dstT c l) l.length,0):=if_pos hck
 rw [eo]
 obtain⟨hnd,hlt⟩:=orderV_ok (fun i k=>(hD i k).1) l.length
 have hol:=orderV_len (dstT c l) l.length
 have hlaws:=fun m h1 h2=>order_laws (fun i k=>(hD i k).1) (dstT_sym c l) (n:=l.length) (m:=m) h1 h2
 generalize orderV (dstT c l) l.length=ord at *
 refine T_le (H':=[dat [a] [intsD (intN ord)],blk p3 [.slice A l.length ca] 24,blk p2 c.cells 23]) (Hle.refl _) ?_
 refine T_open fun p hp=>?_
 have hp0:=hp
 obtain⟨Ao,co,rfl,ho1,ho2,hoA⟩:=hp.row1
 have hil:(intN ord).length=l.length:=by unfold intN;rw [List.length_map,hol]
 rw [hil] at ho1 hoA hp0 ⊢
 repeat' (first|refine d1 ?_|refine dd ?_|(show T _ (.ops _ (_::_)::_) _ _ _;refine T_op (OpT.call rfl rfl rfl rfl rfl (fun w hw=>valuesI_spec Ao l.length co w) ?_))|(show ∀ _:Nat,T _ _ _ _ _;intro _))
 rintro v R ⟨b1,-,rfl,rfl⟩
 refine T_le (H':=[blk b1 [.slice Ao l.length co] 27,fz p,blk p3 [.slice A l.length ca] 24,blk p2 c.cells 23]) (Hle.refl _) ?_
 by_cases hn0:l.length=0
 ·rw [hn0] at hp0 ⊢
  have ho0:ord=[]:=List.eq_nil_of_length_eq_zero (by omega)
  subst ho0
  repeat' (first|refine d1 ?_|refine dd ?_|(show T _ (.ops _ (_::_)::_) _ _ _;refine T_op (OpT.call rfl rfl rfl rfl rfl (fun w hw=>sorted0_spec Ao co b1 w (rdAll w hw) ((hp0.own hw).intsAt)) ?_))|(show ∀ _:Nat,T _ _ _ _ _;intro _))
  rintro v R ⟨⟨A9,c9⟩,-,rfl,rfl⟩
  refine T_le (H':=[fz p,blk p3 [.slice A 0 ca] 24,blk p2 c.cells 23]) Hle.srt ?_
  repeat' (first|refine d1 ?_|refine dd ?_|(show ∀ _:Nat,T _ _ _ _ _;intro _))
  refine T_if rfl (fun h=>by exfalso;simp at h) (fun _=>?_)
  repeat' (first|refine d1 ?_|refine dd ?_|(show ∀ _:Nat,T _ _ _ _ _;intro _))
  refine T_loopX (fun _:Unit=>[]) (fun _=>[fz p,blk p3 [.slice A 0 ca] 24,blk p2 c.cells 23]) (fun _=>True) (fun _=>0) () trivial ?_
  rintro - -
  repeat' (first|refine d1 ?_|refine dd ?_|(show ∀ _:Nat,T _ _ _ _ _;intro _))
  refine T_if rfl (fun h=>by exfalso;simp at h) (fun _=>?_)
  repeat' (first|refine d1 ?_|refine dd ?_|(show ∀ _:Nat,T _ _ _ _ _;intro _))
  refine T_loopX (fun _:Unit=>[]) (fun _=>[]) (fun _=>True) (fun _=>0) () trivial ?_ (hG:=Hle.none _)
  rintro - -
  repeat' (first|refine d1 ?_|refine dd ?_|(show ∀ _:Nat,T _ _ _ _ _;intro _))
  refine T_if rfl (fun h=>by exfalso;simp at h) (fun _=>?_)
  repeat' (first|refine d1 ?_|refine dd ?_|(show T _ (.ops _ (_::_)::_) _ _ _;first|refine T_call rfl rfl rfl rfl rfl (fun w hw=>awake21_spec w (hst.cls hw)) ?_|refine T_callC rfl rfl rfl rfl rfl rfl rfl (fun hg w hw=>awake21_spec w (hst.cls hw)) ?_)|(show T _ (.run _ _ (_::_) _ _::_) _ _ _;first|refine rc rfl rfl rfl rfl rfl rfl rfl (fun w hw=>awake21_spec w (hst.cls hw)) ?_|refine rcG rfl rfl rfl rfl rfl rfl rfl rfl rfl (fun hg w hw=>awake21_spec w (hst.cls hw)) ?_)|(show ∀ _:Nat,T _ _ _ _ _;intro _)|(show T _ (.code .ret::_) _ _ _;refine T_retV [] rfl (Hle.none _) ⟨rfl,rfl⟩))
 have h1:1≤l.length:=by omega
 repeat' (first|refine d1 ?_|refine dd ?_|(show T _ (.ops _ (_::_)::_) _ _ _;refine T_op (OpT.call rfl rfl rfl rfl rfl (fun w hw=>sortedI_spec Ao l.length co b1 (intN ord) w (rdAll w hw) ((hp0.own hw).intsAt) hil h1 hn4) ?_))|(show ∀ _:Nat,T _ _ _ _ _;intro _))
 rintro v R ⟨⟨g,c',ys⟩,⟨hperm,hsrt⟩,rfl,rfl⟩
 have hyl:ys.length=l.length:=by rw [hperm.length_eq,hil]
 have hys:=sort_range hyl (hperm.nodup_iff.2 (intN_nodup hnd)) (fun z hz=>by
  have h9:=hperm.mem_iff.1 hz
  unfold intN at h9
  obtain⟨k,hk,rfl⟩:=List.mem_map.1 h9
  have:=hlt k hk
  omega) hsrt
 dsimp only
 refine T_le (H':=[row 3 1 (some ⟨g,0,none⟩) c' l.length (ys.map (Value.int .i64)),blk b1 [.slice Ao l.length co] 27,fz p,blk p3 [.slice A l.length ca] 24,blk p2 c.cells 23]) (Hle.refl _) ?_
 refine T_le (H':=[row 3 1 (some ⟨g,0,none⟩) c' l.length (ys.map (Value.int .i64)),fz p,blk p3 [.slice A l.length ca] 24,blk p2 c.cells 23]) Hle.srt ?_
 repeat' (first|refine d1 ?_|refine dd ?_|(show ∀ _:Nat,T _ _ _ _ _;intro _))
 refine T_if rfl (fun h=>by exfalso;simp at h) (fun _=>?_)
 repeat' (first|refine d1 ?_|refine dd ?_|(show ∀ _:Nat,T _ _ _ _ _;intro _))
 refine T_loopX (fun k:Nat=>[(43, .int .i64 (k:Nat))]) (fun _=>[row 3 1 (some ⟨g,0,none⟩) c' l.length (ys.map (Value.int .i64)),fz p,blk p3 [.slice A l.length ca] 24,blk p2 c.cells 23]) (fun k=>k≤l.length) (fun k=>l.length - k) 0 (Nat.zero_le _) ?_
 intro k hk
 repeat' (first|refine d1 ?_|refine dd ?_|(show ∀ _:Nat,T _ _ _ _ _;intro _))
 refine T_if rfl (fun h=>?_) (fun h=>?_)
 ·simp only [decide_eq_true_eq] at h
  have hk2:k<l.length:=by omega
  have e:=hys k hk2
  repeat' (first|refine d1 ?_|refine dd ?_|(show T _ (.ops _ (_::_)::_) _ _ _;first|refine T_val rfl (Val.load rfl (fun hg=>rdRow (A:=some ⟨g,0,none⟩) (vs:=[.int .i64 (ys.getD k 0)]) (by omega) (getI_row (by omega) (by omega)))) rfl rfl rfl ?_|refine T_valC rfl (Val.load rfl (fun hg=>rdRow (A:=some ⟨g,0,none⟩) (vs:=[.int .i64 (ys.getD k 0)]) (by omega) (getI_row (by omega) (by omega)))) rfl rfl rfl rfl rfl ?_)|(show T _ (.run _ _ (_::_) _ _::_) _ _ _;first|refine rv rfl rfl rfl (Val.load rfl (fun hg=>rdRow (A:=some ⟨g,0,none⟩) (vs:=[.int .i64 (ys.getD k 0)]) (by omega) (getI_row (by omega) (by omega)))) rfl rfl rfl ?_|refine rg rfl rfl rfl (Val.load rfl (fun hg=>rdRow (A:=some ⟨g,0,none⟩) (vs:=[.int .i64 (ys.getD k 0)]) (by omega) (getI_row (by omega) (by omega)))) rfl rfl rfl rfl rfl ?_)|(show ∀ _:Nat,T _ _ _ _ _;intro _))
  refine T_if rfl (fun h9=>by exfalso;rw [e] at h9;simp at h9) (fun _=>?_)
  repeat' (first|refine d1 ?_|refine dd ?_|(show ∀ _:Nat,T _ _ _ _ _;intro _))
  exact T_backX (k+1) (by omega) (by omega)
 simp only [decide_eq_false_iff_not] at h
 clear h hsrt hys hyl hperm
 obtain⟨bo,oo,rfl,hoB⟩:=hoA h1
 repeat' (first|refine d1 ?_|refine dd ?_|(show ∀ _:Nat,T _ _ _ _ _;intro _))
 rename_i p10
 refine T_le (H':=[blk p10 [fD21 p2 p3] 38,fz p,blk p3 [.slice A l.length ca] 24,blk p2 c.cells 23]) Hle.srt ?_
 have hcut:∀ m:Nat,m<l.length→cutA (some ⟨bo,oo,none⟩) co ((m:Nat):Int).toNat 1=some ⟨bo,oo+m * 1,none⟩:=fun m hm=>by
  have h9:cutA (some ⟨bo,oo,none⟩) co ((m:Nat):Int).toNat 1=some ⟨bo,oo+m * 1,none⟩:=by
   unfold cutA
   rw [if_neg (by omega)]
   simp only [Option.map_some,Addr.add,Int.toNat_natCast]
   congr 1
   split
   ·rename_i e;rw [e];rfl
   ·rfl
  exact h9
 refine T_loopX (fun m:Nat=>[(12, .int .i64 (m:Nat))]) (fun _=>[blk p10 [fD21 p2 p3] 38,fz p,blk p3 [.slice A l.length ca] 24,blk p2 c.cells 23]) (fun m=>1≤m∧m≤l.length) (fun m=>l.length - m) 1 ⟨Nat.le_refl _,h1⟩ ?_
 rintro m ⟨hm1,hmn⟩
 repeat' (first|refine d1 ?_|refine dd ?_|(show ∀ _:Nat,T _ _ _ _ _;intro _))
 refine T_if rfl (fun h=>?_) (fun h=>?_)
 ·simp only [decide_eq_true_eq] at h
  have hm2:m<l.length:=by omega
  obtain⟨q1,q2,q3⟩:=hlaws m hm1 hm2
  have hom:=hoB m _ (intN_at (ord_get (ord:=ord) (j:=m) (by omega)))
  have hnr:∀ (j:Nat),m≤j→j<l.length→∀ {w':World},Cls w w' [blk p10 [fD21 p2 p3] 38,fz p,blk p3 [.slice A l.length ca] 24,blk p2 c.cells 23]→Spec Tryz.prog 13 [.int .i64 ((ord.getD j 0:Nat):Int), .slice (some ⟨bo,oo,none⟩) m co, .pointer (some ⟨p10,0,none⟩)] w' (fun v R=>v = .int .i64 (nrW (dstT c l) (ord.getD j 0) (ord.take m))∧R=[]):=fun j hj1 hj2 {w'} hw =>
   near21_spec c A l.length ca l p2 p3 p10 (ord.getD j 0) (some ⟨bo,oo,none⟩) m co (ord.take m) w' (hgp.cls hw) hc hbs (rdBlk hw) (rdBlk hw) (rdBlk hw) (hlt _ (List.mem_of_getElem? (ord_get (ord:=ord) (j:=j) (by omega)))) (by rw [List.length_take];omega) (by omega)
    (by rw [show (intN (ord.take m)).map (Value.int .i64)=((intN ord).map (Value.int .i64)).take m by (unfold intN;rw [List.map_take,List.map_take])];exact src_take1 ((hp0.own hw).intsAt) m (by omega))
    (fun k hk=>⟨hlt k (List.mem_of_mem_take hk),fun e=>by
     obtain⟨r,hr,e1⟩:=List.getElem_of_mem hk
     rw [List.length_take] at hr
     rw [List.getElem_take] at e1
     have e0:ord.getD j 0=ord.getD r 0:=by rw [e, ← e1,List.getD_eq_getElem?_getD,List.getElem?_eq_getElem (by omega)];rfl
     have:=ord_inj hnd (by omega) (by omega) e0
     omega⟩)
  repeat' (first|refine d1 ?_|refine dd ?_|(show T _ (.ops _ (_::_)::_) _ _ _;first|refine T_val rfl (Val.load rfl (fun hg=>rdFz (p:=p) (u := .int .i64 ((ord.getD m 0:Nat):Int)) (b:=bo) (by rw [off1];exact hom))) rfl rfl rfl ?_|refine T_valC rfl (Val.load rfl (fun hg=>rdFz (p:=p) (u := .int .i64 ((ord.getD m 0:Nat):Int)) (b:=bo) (by rw [off1];exact hom))) rfl rfl rfl rfl rfl ?_|refine T_call rfl rfl rfl rfl rfl (fun w hw=>hnr m (Nat.le_refl _) hm2 hw) ?_|refine T_callC rfl rfl rfl rfl rfl rfl rfl (fun hg w hw=>hnr m (Nat.le_refl _) hm2 hw) ?_)|(show T _ (.run _ _ (_::_) _ _::_) _ _ _;first|refine rv rfl rfl rfl (Val.load rfl (fun hg=>rdFz (p:=p) (u := .int .i64 ((ord.getD m 0:Nat):Int)) (b:=bo) (by rw [off1];exact hom))) rfl rfl rfl ?_|refine rg rfl rfl rfl (Val.load rfl (fun hg=>rdFz (p:=p) (u := .int .i64 ((ord.getD m 0:Nat):Int)) (b:=bo) (by rw [off1];exact hom))) rfl rfl rfl rfl rfl ?_|refine rc rfl rfl rfl rfl rfl rfl rfl (fun w hw=>hnr m (Nat.le_refl _) hm2 hw) ?_|refine rcG rfl rfl rfl rfl rfl rfl rfl rfl rfl (fun hg w hw=>hnr m (Nat.le_refl _) hm2 hw) ?_)|(show ∀ _:Nat,T _ _ _ _ _;intro _))
  refine T_if rfl (fun h9=>by exfalso;have h8:=of_decide_eq_true h9;omega) (fun _=>?_)
  repeat' (first|refine d1 ?_|refine dd ?_|(show ∀ _:Nat,T _ _ _ _ _;intro _))
  rw [hcut m hm2]
  refine T_loopX (fun q:Nat=>[(75, .int .i64 (q:Nat))]) (fun _=>[blk p10 [fD21 p2 p3] 38,fz p,blk p3 [.slice A l.length ca] 24,blk p2 c.cells 23]) (fun q=>q≤l.length - m) (fun q=>l.length - m - q) 0 (Nat.zero_le _) ?_
  intro q hq
  repeat' (first|refine d1 ?_|refine dd ?_|(show ∀ _:Nat,T _ _ _ _ _;intro _))
  refine T_if rfl (fun h5=>?_) (fun h5=>?_)
  ·simp only [decide_eq_true_eq] at h5
   have hqn:m+q<l.length:=by omega
   have hoq:=hoB (m+q) _ (intN_at (ord_get (ord:=ord) (j:=m+q) (by omega)))
   have hle:=q2 (m+q) (by omega) hqn
   repeat' (first|refine d1 ?_|refine dd ?_|(show T _ (.ops _ (_::_)::_) _ _ _;first|refine T_val rfl (Val.load rfl (fun hg=>rdFz (p:=p) (u := .int .i64 ((ord.getD (m+q) 0:Nat):Int)) (b:=bo) (by rw [show oo+m * 1+(q:Int).toNat * 1=oo+(m+q) by omega];exact hoq))) rfl rfl rfl ?_|refine T_valC rfl (Val.load rfl (fun hg=>rdFz (p:=p) (u := .int .i64 ((ord.getD (m+q) 0:Nat):Int)) (b:=bo) (by rw [show oo+m * 1+(q:Int).toNat * 1=oo+(m+q) by omega];exact hoq))) rfl rfl rfl rfl rfl ?_|refine T_call rfl rfl rfl rfl rfl (fun w hw=>hnr (m+q) (by omega) hqn hw) ?_|refine T_callC rfl rfl rfl rfl rfl rfl rfl (fun hg w hw=>hnr (m+q) (by omega) hqn hw) ?_)|(show T _ (.run _ _ (_::_) _ _::_) _ _ _;first|refine rv rfl rfl rfl (Val.load rfl (fun hg=>rdFz (p:=p) (u := .int .i64 ((ord.getD (m+q) 0:Nat):Int)) (b:=bo) (by rw [show oo+m * 1+(q:Int).toNat * 1=oo+(m+q) by omega];exact hoq))) rfl rfl rfl ?_|refine rg rfl rfl rfl (Val.load rfl (fun hg=>rdFz (p:=p) (u := .int .i64 ((ord.getD (m+q) 0:Nat):Int)) (b:=bo) (by rw [show oo+m * 1+(q:Int).toNat * 1=oo+(m+q) by omega];exact hoq))) rfl rfl rfl rfl rfl ?_|refine rc rfl rfl rfl rfl rfl rfl rfl (fun w hw=>hnr (m+q) (by omega) hqn hw) ?_|refine rcG rfl rfl rfl rfl rfl rfl rfl rfl rfl (fun hg w hw=>hnr (m+q) (by omega) hqn hw) ?_)|(show ∀ _:Nat,T _ _ _ _ _;intro _))
   refine T_if rfl (fun h9=>by exfalso;have h8:=of_decide_eq_true h9;omega) (fun _=>?_)
   repeat' (first|refine d1 ?_|refine dd ?_|(show ∀ _:Nat,T _ _ _ _ _;intro _))
   exact T_backX (q+1) (by omega) (by omega)
  repeat' (first|refine d1 ?_|refine dd ?_|(show ∀ _:Nat,T _ _ _ _ _;intro _))
  refine T_if rfl (fun h6=>?_) (fun h6=>?_)
  ·repeat' (first|refine d1 ?_|refine dd ?_|(show ∀ _:Nat,T _ _ _ _ _;intro _))
   exact T_backX (m+1) ⟨by omega,by omega⟩ (by omega)
  have hme:m=1:=by have h9:=of_decide_eq_false h6;omega
  repeat' (first|refine d1 ?_|refine dd ?_|(show ∀ _:Nat,T _ _ _ _ _;intro _))
  refine T_loopX (fun i:Nat=>[(92, .int .i64 (i:Nat))]) (fun _=>[blk p10 [fD21 p2 p3] 38,fz p,blk p3 [.slice A l.length ca] 24,blk p2 c.cells 23]) (fun i=>i≤l.length) (fun i=>l.length - i) 0 (Nat.zero_le _) ?_
  intro i hi
  repeat' (first|refine d1 ?_|refine dd ?_|(show ∀ _:Nat,T _ _ _ _ _;intro _))
  refine T_if rfl (fun h7=>?_) (fun h7=>?_)
  ·simp only [decide_eq_true_eq] at h7
   have hin:i<l.length:=by omega
   repeat' (first|refine d1 ?_|refine dd ?_|(show ∀ _:Nat,T _ _ _ _ _;intro _))
   refine T_loopX (fun k:Nat=>[(96, .int .i64 (k:Nat))]) (fun _=>[blk p10 [fD21 p2 p3] 38,fz p,blk p3 [.slice A l.length ca] 24,blk p2 c.cells 23]) (fun k=>k≤i) (fun k=>i - k) 0 (Nat.zero_le _) ?_
   intro k hk
   repeat' (first|refine d1 ?_|refine dd ?_|(show ∀ _:Nat,T _ _ _ _ _;intro _))
   refine T_if rfl (fun h8=>?_) (fun h8=>?_)
   ·simp only [decide_eq_true_eq] at h8
    have hki:k<i:=by omega
    have hle:=q3 hme i k hki hin
    repeat' (first|refine d1 ?_|refine dd ?_|(show T _ (.ops _ (_::_)::_) _ _ _;first|refine T_call rfl rfl rfl rfl rfl (fun w hw=>dist21_spec c A l.length ca l p2 p3 i k w (hgp.cls hw) hc hbs (rdAll w hw) (rdAll w hw) hin (by omega) (by omega)) ?_|refine T_callC rfl rfl rfl rfl rfl rfl rfl (fun hg w hw=>dist21_spec c A l.length ca l p2 p3 i k w (hgp.cls hw) hc hbs (rdAll w hw) (rdAll w hw) hin (by omega) (by omega)) ?_)|(show T _ (.run _ _ (_::_) _ _::_) _ _ _;first|refine rc rfl rfl rfl rfl rfl rfl rfl (fun w hw=>dist21_spec c A l.length ca l p2 p3 i k w (hgp.cls hw) hc hbs (rdAll w hw) (rdAll w hw) hin (by omega) (by omega)) ?_|refine rcG rfl rfl rfl rfl rfl rfl rfl rfl rfl (fun hg w hw=>dist21_spec c A l.length ca l p2 p3 i k w (hgp.cls hw) hc hbs (rdAll w hw) (rdAll w hw) hin (by omega) (by omega)) ?_)|(show ∀ _:Nat,T _ _ _ _ _;intro _))
    refine T_if rfl (fun h9=>by exfalso;have h8:=of_decide_eq_true h9;omega) (fun _=>?_)
    repeat' (first|refine d1 ?_|refine dd ?_|(show ∀ _:Nat,T _ _ _ _ _;intro _))
    exact T_backX (k+1) (by omega) (by omega)
   ·repeat' (first|refine d1 ?_|refine dd ?_|(show ∀ _:Nat,T _ _ _ _ _;intro _))
    exact T_backX (i+1) (by omega) (by omega)
  ·repeat' (first|refine d1 ?_|refine dd ?_|(show ∀ _:Nat,T _ _ _ _ _;intro _))
   exact T_backX (m+1) ⟨by omega,by omega⟩ (by omega)
 ·repeat' (first|refine d1 ?_|refine dd ?_|(show T _ (.ops _ (_::_)::_) _ _ _;first|refine T_call rfl rfl rfl rfl rfl (fun w hw=>awake21_spec w (hst.cls hw)) ?_|refine T_callC rfl rfl rfl rfl rfl rfl rfl (fun hg w hw=>awake21_spec w (hst.cls hw)) ?_)|(show T _ (.run _ _ (_::_) _ _::_) _ _ _;first|refine rc rfl rfl rfl rfl rfl rfl rfl (fun w hw=>awake21_spec w (hst.cls hw)) ?_|refine rcG rfl rfl rfl rfl rfl rfl rfl rfl rfl (fun hg w hw=>awake21_spec w (hst.cls hw)) ?_)|(show ∀ _:Nat,T _ _ _ _ _;intro _)|(show T _ (.code .ret::_) _ _ _;refine T_retV [] rfl (Hle.none _) ⟨rfl,rfl⟩))
theorem order21_met (os:Os) (args:Array Value):laidMetH Tryz.prog Rows.progressiveOrderRow.laid ((World.doorLaid Tryz.prog 400 os).forCall (fun _ _=>0) ⟨#[],args,[]⟩).memory :=
 io_met os args
theorem order21_lifted (os:Os) (started:os.Started) (H:Type) (enc:TypeId × Value→H) :
  ReturnsInHanded {} Tryz.checked os 3 .any (fun w args=>(Rows.progressiveOrderSpec.pre enc Tryz.prog Tryz.f3 [] false w args∧laidMetH Tryz.prog Rows.progressiveOrderRow.laid w)∧sizedMet enc Tryz.prog Tryz.f3 (OpenSpec.ofChange Rows.progressiveOrderSpec) false w args)
   (Rows.progressiveOrderSpec.post enc Tryz.prog Tryz.f3 false true false false):=by
 refine returnsInHanded_of_change_and (C:=Tryz.checked) (X:=fun w _=>laidMetH Tryz.prog Rows.progressiveOrderRow.laid w) (fun _ _ _ hh h=>h.of_heap hh) knob started (by as_aux_lemma=>kernel_rfl) Tryz.func3
  (ChangeSpec.witness_shaped (enc:=enc) (C:=Tryz.checked) (os:=os) (X:=fun w _=>laidMetH Tryz.prog Rows.progressiveOrderRow.laid w) false (World.doorLaid Tryz.prog 400 os) #[(⟨0,0,0,0⟩:Costs).val, .slice none 0 0] 8 rfl (World.shaped_of_RefB (by as_aux_lemma=>kernel_rfl) (by as_aux_lemma=>kernel_rfl)) (by as_aux_lemma=>kernel_rfl) (by as_aux_lemma=>kernel_rfl) (by as_aux_lemma=>kernel_rfl) (order21_met os _)) ?_
 intro W base args ds gs before hval0 hW _ _ hL _
 have hval:∀ (j:Nat) t v,Tryz.f3.params[j]?=some t→args[j]?=some v→Value.okWide Tryz.prog W .any base t v:=hval0
 have hstd:=std_of (show laidMetH Tryz.prog laids W from hL)
 have hW':=hW
 obtain⟨p,q,hA0,hV,rfl,hfz,hnd⟩:=hW
 have hA:DataW.TrodAll enc Tryz.prog W 0 (fun _=>true) true Tryz.f3.params.toList args.toList ds p:=hA0
 obtain⟨v0,vs0,d0,ds0,p0,q0,e0,rfl,rfl,h0,hA⟩:=trodAll_cons hA
 obtain⟨v1,vs1,d1,ds1,p1,q1,rfl,rfl,rfl,h1,hA⟩:=trodAll_cons hA
 obtain⟨rfl,rfl,rfl⟩:=trodAll_nil hA
 have ea:args = #[v0,v1]:=Array.ext' e0
 subst ea
 obtain⟨c,rfl⟩:=arg_costs (hval 0 _ v0 rfl rfl) h0
 obtain⟨l,hr_l⟩:=arg_toksL (hval 1 _ v1 rfl rfl) h1
 refine (orderL21_spec c v1 l W hstd hr_l).calls.mono ?_
 rintro e W' ⟨v,A,rfl,⟨rfl,_⟩,hb,_⟩
 exact⟨_,rfl,law_post hW' rfl rfl laidOk (by intro t ht;simp only [show Tryz.f3.params.toList=[23,24] from rfl,List.mem_cons,List.mem_nil_iff,or_false] at ht;rcases ht with rfl|rfl <;> exact⟨by as_aux_lemma=>kernel_rfl,of_decide_eq_true (by as_aux_lemma=>kernel_rfl)⟩) rfl Tryz.underlying4 hb⟩
theorem order21_j0:Tryz.prog.inPlace 3=Rows.progressiveOrderRow.inPlace:=by as_aux_lemma=>kernel_rfl
theorem order21_j1:Tryz.prog.unfollowed 3=Rows.progressiveOrderRow.unfollowed:=by as_aux_lemma=>kernel_rfl
theorem order21_j2:Tryz.prog.recurses 3=Rows.progressiveOrderRow.recurses:=by as_aux_lemma=>kernel_rfl
theorem order21_j3:Tryz.prog.varsNamed 3=Rows.progressiveOrderRow.named:=by as_aux_lemma=>kernel_rfl
theorem order21_joined:joinedFacts Tryz.prog 3 Tryz.f3 Rows.progressiveOrderSpec Rows.progressiveOrderRow=true:=by
 unfold joinedFacts
 rw [order21_j0,order21_j1,order21_j2,order21_j3,io_enter,io_lifts,io_make]
 kernel_rfl
theorem order21_holds:Rows.ProgressiveOrderSaid :=
 OpenClaim.holds_of_wide 3 Tryz.f3 rfl rfl rfl rfl rfl rfl rfl ⟨rfl,rfl,rfl,rfl,rfl⟩ rfl rfl rfl rfl rfl (by as_aux_lemma=>kernel_rfl) Tryz.func3 order21_joined
  (of_decide_eq_true (by as_aux_lemma=>kernel_rfl)) (by unfold Func.isWrapper;first|(rw [if_pos (by decide +kernel)];kernel_rfl)|(rw [if_neg (by decide +kernel)];exact⟨rfl,rfl⟩))
  (fun os started H enc _=>order21_lifted os started H enc)
theorem order21_card:Rows.ProgressiveOrderCardSaid :=
 Claim7.holds_tied_plain_at .later [] [.data, .data, .data, .sentinel, .sentinel] true (true, "7080c7f546c29ed8c1cc3509f869e7472f8993486f61c317fc165cbc41be9449") true
  order21_holds (fun _ h=>by cases h) (by as_aux_lemma=>kernel_rfl) (fun _ h=>by cases h) progressiveOrder_row_tie rfl ⟨rfl,rfl⟩ io_main rfl
  (fun f fn hf hfn=>by
   obtain rfl : f = 3 := Option.some.inj ((show Tryz.prog.funcNamed "apograph/apographlaw21.ProgressiveOrder" = some 3 by as_aux_lemma => kernel_rfl).symm.trans hf) |>.symm
   obtain rfl:fn=Tryz.f3:=(Option.some.inj (Tryz.func3.symm.trans hfn)).symm
   exact⟨by as_aux_lemma=>kernel_rfl,fun j t ht=>by
    have ht':[23,24][j]?=some t:=by rw [Tryz.params3] at ht;simpa using ht
    have hm:=List.mem_of_getElem? ht'
    simp only [List.mem_cons,List.mem_nil_iff,or_false] at hm
    rcases hm with rfl|rfl <;> exact (show Tryz.prog.wantsStandIn _=false by as_aux_lemma=>kernel_rfl)⟩)
  (by as_aux_lemma=>kernel_rfl)
#print axioms order21_card
end Go.Proofs.YthadgaboakipoaaGreatDoor
