/- Joined texts of this claim, part 3. -/
import Derived.Test.YtabhdaehomjlgaaGreatV2
import Derived.Lib.Builder
import Derived.Lib.UnsafeStr
set_option linter.unusedSectionVars false
set_option linter.unusedVariables false
set_option linter.unusedSimpArgs false
namespace Go.Proofs.YtabhdaehomjlgaaGreat
open Go.RowKit Go.Shelf Go.Proofs
set_option maxRecDepth 100000
set_option maxHeartbeats 1000000

theorem belowS_spec (A1 A2 An:Option Addr) (n1 c1 n2 c2 nn cn:Nat) (w:World):Spec Tryz.prog 53 [.agg #[.slice A1 n1 c1, .slice A2 n2 c2], .slice An nn cn] w
  (fun v R=>∃ y:Nat × Nat,True∧v = .func (.func 94) #[] #[.pointer (some ⟨y.1,0,none⟩), .pointer (some ⟨y.2,0,none⟩)]∧R=[blk y.2 [.slice An nn cn] 22,blk y.1 [.slice A1 n1 c1, .slice A2 n2 c2] 30]):=by
 refine spec_of sg Tryz.func53 rfl rfl rfl ?_
 repeat' (first|(show T _ (.ops _ (⟨_, .box _ _,_,_,_,_⟩::_)::_) _ _ _;first|refine T_op (OpT.box (cs:=[.slice A1 n1 c1, .slice A2 n2 c2]) rfl rfl rfl rfl rfl rfl rfl (fun _=>?_))|refine T_op (OpT.box (cs:=[.slice An nn cn]) rfl rfl rfl rfl rfl rfl rfl (fun _=>?_)))|refine d1 ?_|refine dd ?_|(show ∀ _:Nat,T _ _ _ _ _;intro _)|(show T _ (.code .ret::_) _ _ _;refine T_retV _ rfl (Hle.refl _) ⟨(_,_),trivial,rfl,rfl⟩))
theorem belowS_iter {w0:World} {A1 A2 An:Option Addr} {n1 c1 c2 nn cn:Nat} {ps:List Int} {ns names:List ByteArray} (ht:TrA w0 A1 n1 c1 A2 n1 c2 ps ns) (hok:tOk ps ns) (hsn:Src w0 1 An nn (names.map Value.string)) (hnn:names.length=nn) (h12:nn≤12) (hnd:names.Nodup)
  (hin:∀ i,i<ps.length→kdsI ps i ps.length=[]→ns.getD i ByteArray.empty∈names) (b1 b2:Nat) :
  IterK Tryz.prog w0 94 [] [.pointer (some ⟨b1,0,none⟩), .pointer (some ⟨b2,0,none⟩)] [blk b2 [.slice An nn cn] 22,blk b1 [.slice A1 n1 c1, .slice A2 n1 c2] 30] (QS ps ns names (belT ps)) (belT ps).length:=by
 refine iterK_of sg Tryz.func94 rfl rfl rfl ?_
 intro l' GQ X q Hj hz hY h0
 show T _ _ _ _ (blk b2 [.slice An nn cn] 22::blk b1 [.slice A1 n1 c1, .slice A2 n1 c2] 30::Hj)
 repeat' (first|(show T _ (.ops _ (⟨_, .box _ _,_,_,_,_⟩::_)::_) _ _ _;refine T_op (OpT.box (cs:=[yv l']) rfl rfl rfl rfl rfl rfl rfl (fun _=>?_)))|refine d1 ?_|refine dd ?_|(show ∀ _:Nat,T _ _ _ _ _;intro _))
 rename_i t2 t3
 refine T_le (H':=blk b1 [.slice A1 n1 c1, .slice A2 n1 c2] 30::blk t3 [.func (.func 95) #[] #[.pointer (some ⟨b1,0,none⟩), .pointer (some ⟨t3,0,none⟩), .pointer (some ⟨b2,0,none⟩), .pointer (some ⟨t2,0,none⟩)]] 139::blk b2 [.slice An nn cn] 22::blk t2 [yv l'] 27::Hj) (hle_pm [3,0,2,1] [_,_,_,_] Hj) ?_
 refine T_op (OpT.callB rfl rfl rfl rfl rfl (walkS_spec ht hok.up rfl hsn hnn h12 hnd hin (belT ps) b1 t3 b2 t2 ps.length GQ X hz hY 0 0 q Hj hok.pos (by omega) (nms_nodup hok) (by rw [ylT_zero];exact subAt.refl _) h0) ?_)
 rintro u R (⟨p,x,H',⟨hG,-⟩,rfl,rfl⟩|⟨x,Y,hX,rfl,rfl⟩)
 ·rw [Nat.zero_add,ylT_zero] at hG
  repeat' (first|refine d1 ?_|refine dd ?_|(show ∀ _:Nat,T _ _ _ _ _;intro _)|(show T _ _ _ _ _;refine T_ifall rfl H' ⟨p,hG⟩ (hle_pm [2,0] [_,_,_,_] H')))
 ·repeat' (first|refine d1 ?_|refine dd ?_|(show ∀ _:Nat,T _ _ _ _ _;intro _)|(show T _ _ _ _ _;refine T_istopf rfl Y hX (hle_pm [2,0] [_,_,_,_] Y)))
theorem T_rowCap {C:Cx} {k:List It} {env:Env} {ec:EnvC} {H:List HA} {A:Option Addr} {e:TypeId} {sz cap n:Nat} {xs:List Value} (h:n≤cap∧cap≤9223372036854775807→T C k env ec (row e sz A cap n xs::H)):T C k env ec (row e sz A cap n xs::H):=by
 refine T.mk fun a w ha hw=>?_
 obtain⟨F,h1,h2,h3⟩:=hw.sep
 obtain⟨hl,hr⟩:=h1 0 _ rfl
 rcases hr with⟨e1,e2,e3,e4⟩|⟨b,cur,e1,e2,e3,e4,e5⟩
 ·exact (h ⟨by omega,by omega⟩).go a w ha hw
 ·exact (h ⟨e3,by simp only [maxLen] at e4;exact e4⟩).go a w ha hw

theorem compareL_spec (x y:Value) (p q:List Int) (w:World) (hx:Rd (wr w) [x] [intsD p]) (hy:Rd (wr w) [y] [intsD q]) :
  Spec Tryz.prog 45 [x,y] w (fun v R=>v = .int .i64 (cmpLs p q)∧R=[]):=by
 obtain⟨A,ca,rfl,hnb,hl⟩:=hx.ints
 obtain⟨B,cb,rfl,hmb,hb⟩:=hy.ints
 refine spec_of sg Tryz.func45 rfl rfl rfl ?_
 repeat' (first|refine d1 ?_|refine dd ?_|(show ∀ _:Nat,T _ _ _ _ _;intro _))
 refine T_loopX (fun k:Nat=>[(11, .int .i64 (k:Nat))]) (fun _=>[]) (fun k=>(k≤p.length∧k≤q.length)∧cmpLs p q=cmpLs (p.drop k) (q.drop k)) (fun k=>p.length - k) 0 ⟨⟨Nat.zero_le _,Nat.zero_le _⟩,rfl⟩ ?_
 rintro k ⟨⟨hk1,hk2⟩,hc⟩
 repeat' (first|refine d1 ?_|refine dd ?_|(show ∀ _:Nat,T _ _ _ _ _;intro _))
 refine T_if rfl (fun h3=>?_) (fun h3=>?_)
 ·simp only [decide_eq_true_eq] at h3
  have hkn:k<p.length:=by omega
  obtain⟨ba,oa,rfl⟩:=hl.base (by omega)
  obtain⟨u,hu⟩:∃ u,p[k]?=some u:=⟨_,List.getElem?_eq_getElem hkn⟩
  have hr1:=src_int hl (k:=k) hkn hu
  have hpd:p.drop k=u::p.drop (k+1):=by
   obtain⟨h5,h6⟩:=List.getElem?_eq_some_iff.1 hu
   rw [← h6];exact List.drop_eq_getElem_cons h5
  rw [hpd] at hc
  repeat' (first|refine d1 ?_|refine dd ?_|(show T _ (.ops _ (_::_)::_) _ _ _;first|refine T_val rfl (Val.load rfl (fun hg=>rdOld hr1)) rfl rfl rfl ?_|refine T_valC rfl (Val.load rfl (fun hg=>rdOld hr1)) rfl rfl rfl rfl rfl ?_)|(show T _ (.run _ _ (_::_) _ _::_) _ _ _;first|refine rv rfl rfl rfl (Val.load rfl (fun hg=>rdOld hr1)) rfl rfl rfl ?_|refine rg rfl rfl rfl (Val.load rfl (fun hg=>rdOld hr1)) rfl rfl rfl rfl rfl ?_)|(show ∀ _:Nat,T _ _ _ _ _;intro _))
  refine T_if rfl (fun h4=>?_) (fun h4=>?_)
  ·simp only [decide_eq_true_eq] at h4
   have hqd:q.drop k=[]:=List.drop_eq_nil_of_le (by omega)
   rw [hqd] at hc
   repeat' (first|refine d1 ?_|refine dd ?_|(show ∀ _:Nat,T _ _ _ _ _;intro _)|(show T _ (.code .ret::_) _ _ _;refine T_retV [] rfl (Hle.none _) ⟨by rw [hc];rfl,rfl⟩))
  simp only [decide_eq_false_iff_not] at h4
  obtain⟨bb,ob,rfl⟩:=hb.base (by omega)
  obtain⟨v,hv⟩:∃ v,q[k]?=some v:=⟨_,List.getElem?_eq_getElem (by omega)⟩
  have hr2:=src_int hb (k:=k) (by omega) hv
  have hqd:q.drop k=v::q.drop (k+1):=by
   obtain⟨h5,h6⟩:=List.getElem?_eq_some_iff.1 hv
   rw [← h6];exact List.drop_eq_getElem_cons h5
  rw [hqd] at hc
  have hc9:cmpLs (u::p.drop (k+1)) (v::q.drop (k+1))=if cmpI u v≠0 then cmpI u v else cmpLs (p.drop (k+1)) (q.drop (k+1)):=rfl
  rw [hc9] at hc
  repeat' (first|refine d1 ?_|refine dd ?_|(show T _ (.ops _ (_::_)::_) _ _ _;first|refine T_val rfl (Val.load rfl (fun hg=>rdOld hr2)) rfl rfl rfl ?_|refine T_valC rfl (Val.load rfl (fun hg=>rdOld hr2)) rfl rfl rfl rfl rfl ?_|refine T_call rfl rfl rfl rfl rfl (fun w hw=>cmpI_spec u v w) ?_|refine T_callC rfl rfl rfl rfl rfl rfl rfl (fun hg w hw=>cmpI_spec u v w) ?_)|(show T _ (.run _ _ (_::_) _ _::_) _ _ _;first|refine rv rfl rfl rfl (Val.load rfl (fun hg=>rdOld hr2)) rfl rfl rfl ?_|refine rg rfl rfl rfl (Val.load rfl (fun hg=>rdOld hr2)) rfl rfl rfl rfl rfl ?_|refine rc rfl rfl rfl rfl rfl rfl rfl (fun w hw=>cmpI_spec u v w) ?_|refine rcG rfl rfl rfl rfl rfl rfl rfl rfl rfl (fun hg w hw=>cmpI_spec u v w) ?_)|(show ∀ _:Nat,T _ _ _ _ _;intro _))
  refine T_if rfl (fun h5=>?_) (fun h5=>?_)
  ·simp only [Bool.not_eq_true',decide_eq_false_iff_not] at h5
   rw [if_pos h5] at hc
   repeat' (first|refine d1 ?_|refine dd ?_|(show ∀ _:Nat,T _ _ _ _ _;intro _)|(show T _ (.code .ret::_) _ _ _;refine T_retV [] rfl (Hle.none _) ⟨by rw [hc];rfl,rfl⟩))
  ·simp only [Bool.not_eq_false',decide_eq_true_eq] at h5
   rw [if_neg (fun h=>h h5)] at hc
   repeat' (first|refine d1 ?_|refine dd ?_|(show ∀ _:Nat,T _ _ _ _ _;intro _))
   exact T_backX (k+1) ⟨⟨by omega,by omega⟩,hc⟩ (by omega)
 ·simp only [decide_eq_false_iff_not] at h3
  have hpd:p.drop k=[]:=List.drop_eq_nil_of_le (by omega)
  rw [hpd] at hc
  repeat' (first|refine d1 ?_|refine dd ?_|(show ∀ _:Nat,T _ _ _ _ _;intro _))
  refine T_if rfl (fun h4=>?_) (fun h4=>?_)
  ·simp only [decide_eq_true_eq] at h4
   obtain⟨v,hv⟩:∃ v,q[k]?=some v:=⟨_,List.getElem?_eq_getElem (by omega)⟩
   have hqd:q.drop k=v::q.drop (k+1):=by
    obtain⟨h5,h6⟩:=List.getElem?_eq_some_iff.1 hv
    rw [← h6];exact List.drop_eq_getElem_cons h5
   rw [hqd] at hc
   repeat' (first|refine d1 ?_|refine dd ?_|(show ∀ _:Nat,T _ _ _ _ _;intro _)|(show T _ (.code .ret::_) _ _ _;refine T_retV [] rfl (Hle.none _) ⟨by rw [hc];rfl,rfl⟩))
  ·simp only [decide_eq_false_iff_not] at h4
   have hqd:q.drop k=[]:=List.drop_eq_nil_of_le (by omega)
   rw [hqd] at hc
   repeat' (first|refine d1 ?_|refine dd ?_|(show ∀ _:Nat,T _ _ _ _ _;intro _)|(show T _ (.code .ret::_) _ _ _;refine T_retV [] rfl (Hle.none _) ⟨by rw [hc];rfl,rfl⟩))

def cpG (x:RwI):List RwI→List RwI
 | []=>[]
 | z::r=>if x.l=z.l then cpG z r else z::cpG z r
def cpR:List RwI→List RwI
 | []=>[]
 | x::r=>x::cpG x r
theorem cpG_snoc:∀ (l:List RwI) (x y z:RwI),(x::l).getLast?=some y→cpG x (l++[z])=cpG x l++if y.l=z.l then [] else [z]
 | [],x,y,z,h=>by
  simp at h
  subst h
  rw [List.nil_append]
  unfold cpG
  split
  ·rfl
  ·rfl
 | a::l,x,y,z,h=>by
  have h2:(a::l).getLast?=some y:=by rw [List.getLast?_cons_cons] at h;exact h
  have ih:=cpG_snoc l a y z h2
  rw [List.cons_append,cpG,cpG,ih]
  split
  ·rfl
  ·rfl
theorem cpR_snoc {l:List RwI} {y z:RwI} (h:l.getLast?=some y):cpR (l++[z])=cpR l++if y.l=z.l then [] else [z]:=by
 cases l with
 | nil=>simp at h
 | cons x l=>rw [List.cons_append,cpR,cpR,cpG_snoc l x y z h];rfl
theorem cpR_take {ys:List RwI} {k:Nat} {y z:RwI} (hy:ys[k]?=some y) (hz:ys[k+1]?=some z):cpR (ys.take (k+1+1))=cpR (ys.take (k+1))++if y.l=z.l then [] else [z]:=by
 rw [take_snoc _ _ _ hz]
 refine cpR_snoc ?_
 rw [take_snoc _ _ _ hy];simp
theorem cpG_sub:∀ (l:List RwI) (x y:RwI),y∈cpG x l→y∈l
 | [],_,_,h=>by cases h
 | a::l,x,y,h=>by
  unfold cpG at h
  split at h
  ·exact .tail _ (cpG_sub l a y h)
  ·rcases List.mem_cons.1 h with e|e
   ·subst e;exact .head _
   ·exact .tail _ (cpG_sub l a y e)
theorem cpR_sub {l:List RwI} {y:RwI} (h:y∈cpR l):y∈l:=by
 cases l with
 | nil=>cases h
 | cons x l =>
  rcases List.mem_cons.1 h with e|e
  ·subst e;exact .head _
  ·exact .tail _ (cpG_sub l x y e)
theorem cpG_len:∀ (l:List RwI) (x:RwI),(cpG x l).length≤l.length
 | [],_=>Nat.le_refl _
 | a::l,x=>by
  unfold cpG
  have:=cpG_len l a
  split
  ·rw [List.length_cons];omega
  ·rw [List.length_cons,List.length_cons];omega
theorem cpR_len (l:List RwI):(cpR l).length≤l.length:=by
 cases l with
 | nil=>exact Nat.le_refl _
 | cons x l=>have:=cpG_len l x;rw [cpR,List.length_cons,List.length_cons];omega
theorem cpG_asc:∀ (l:List RwI) (x:RwI),(x::l).Pairwise (fun a b=>cmpLs a.l b.l≤0)→((x::cpG x l).map RwI.l).Pairwise ltLs∧∀ s,(s∈(x::cpG x l).map RwI.l↔s∈(x::l).map RwI.l)
 | [],x,_=>⟨List.pairwise_singleton _ _,fun _=>Iff.rfl⟩
 | a::l,x,h=>by
  rw [List.pairwise_cons] at h
  obtain⟨h1,h2⟩:=cpG_asc l a h.2
  unfold cpG
  by_cases he:x.l=a.l
  ·rw [if_pos he]
   rw [List.map_cons] at h1 h2 ⊢
   rw [he]
   refine ⟨h1,fun s=>?_⟩
   rw [h2,List.map_cons,List.map_cons,List.map_cons,List.mem_cons,List.mem_cons,List.mem_cons,he]
   constructor
   ·exact fun h => .inr h
   ·rintro (h|h)
    ·exact .inl h
    ·exact h
  ·rw [if_neg he]
   refine ⟨?_,fun s=>?_⟩
   ·rw [List.map_cons,List.pairwise_cons]
    refine ⟨fun s hs=>?_,h1⟩
    rw [h2] at hs
    obtain⟨b,hb,rfl⟩:=List.mem_map.1 hs
    have hxb:=h.1 b hb
    show cmpLs x.l b.l<0
    rcases Int.lt_or_eq_of_le hxb with h3|h3
    ·exact h3
    ·exfalso
     have h4:=cmpLs_zero h3
     have h5:cmpLs a.l b.l≤0:=by
      rcases List.mem_cons.1 hb with e|e
      ·subst e;rw [cmpLs_self];exact Int.le_refl _
      ·exact (List.pairwise_cons.1 h.2).1 b e
     have h6:=h.1 a (.head _)
     rw [← h4] at h5
     have h7:=cmpLs_swap x.l a.l
     exact he (cmpLs_zero (by omega))
   ·rw [List.map_cons,List.mem_cons,h2,List.map_cons (a:=x),List.mem_cons]
theorem cpR_asc {l:List RwI} (h:l.Pairwise (fun a b=>cmpLs a.l b.l≤0)):((cpR l).map RwI.l).Pairwise ltLs∧∀ s,(s∈(cpR l).map RwI.l↔s∈l.map RwI.l):=by
 cases l with
 | nil=>exact⟨List.Pairwise.nil,fun _=>Iff.rfl⟩
 | cons x l=>exact cpG_asc l x h
end Go.Proofs.YtabhdaehomjlgaaGreat
namespace Go.Proofs.YtabhdaehomjlgaaGreat
open Go.RowKit Go.Shelf Go.Proofs
set_option maxRecDepth 100000
set_option maxHeartbeats 2000000

theorem getG_at {β:Type} {v:β→Value} {l:List β} {off k:Nat} {z:β} (h:off=k) (hz:l[k]?=some z):∀ (j:Nat) u,[v z][j]?=some u→(l.map v)[off+j]?=some u:=fun j u hu=>by
 subst h
 rcases j with _|j
 ·cases hu
  rw [Nat.add_zero,List.getElem?_map,hz];rfl
 ·simp at hu
theorem setL_takeC {l us:List Value} {off:Nat} (h:off+us.length≤l.length):(setL l off us).take off=l.take off:=by
 rw [setL_eq _ _ _ h,List.take_append_of_le_length (by rw [List.length_take];omega),List.take_take,Nat.min_self]
theorem compactR_spec (A:Option Addr) (n c:Nat) (ys:List RwI) (f:FuncId) (cs:List Value) (w0:World) (K:List HA) (hl:ys.length=n) (hn:n≤1000)
  (heq:∀ w,(∃ H,Cls w0 w (H++K))→∀ x∈ys,∀ y∈ys,Spec Tryz.prog f (RwI.val x::RwI.val y::cs) w (fun v R=>v = .bool (decide (x.l=y.l))∧R=[])) :
  SpecB Tryz.prog 46 [.slice A n c, .func (.func f) #[] cs.toArray] w0 (row 24 1 A c n (ys.map RwI.val)::K)
   (fun v R=>v = .slice A (cpR ys).length c∧R=row 24 1 A c (cpR ys).length ((cpR ys).map RwI.val)::K):=by
 refine specB_of sg Tryz.func46 rfl rfl rfl ?_
 refine T_rowCap fun hcap=>?_
 repeat' (first|refine d1 ?_|(show ∀ _:Nat,T _ _ _ _ _;intro _))
 refine T_if rfl (fun h=>?_) (fun h=>?_)
 ·simp only [decide_eq_true_eq] at h
  have e:cpR ys=ys:=by
   match ys,hl with
   | [],_=>rfl
   | [x],_=>rfl
   | x::y::r,hl=>simp at hl;omega
  rw [e,hl]
  repeat' (first|refine d1 ?_|refine dd ?_|(show ∀ _:Nat,T _ _ _ _ _;intro _)|(show T _ (.code .ret::_) _ _ _;refine T_retV _ rfl (Hle.refl _) ⟨rfl,rfl⟩))
 simp only [decide_eq_false_iff_not] at h
 refine T_rowAt (by omega) ?_
 rintro g rfl
 repeat' (first|refine d1 ?_|(show ∀ _:Nat,T _ _ _ _ _;intro _))
 refine T_loopX (fun k:Nat=>[(5, .int .i64 (k:Nat))]) (fun _=>row 24 1 (some ⟨g,0,none⟩) c n (ys.map RwI.val)::K) (fun k=>(1≤k∧k≤n)∧cpR (ys.take k)=ys.take k) (fun k=>n - k) 1 ⟨⟨Nat.le_refl _,by omega⟩,?_⟩ ?_
 ·cases ys with
  | nil=>rfl
  | cons x r=>rfl
 rintro k ⟨⟨hk1,hk2⟩,hcp⟩
 repeat' (first|refine d1 ?_|(show ∀ _:Nat,T _ _ _ _ _;intro _))
 refine T_if rfl (fun h2=>?_) (fun h2=>?_)
 ·simp only [decide_eq_true_eq] at h2
  obtain⟨k,rfl⟩:∃ k',k=k'+1:=⟨k - 1,by omega⟩
  obtain⟨y,hy⟩:∃ y,ys[k]?=some y:=⟨_,List.getElem?_eq_getElem (by omega)⟩
  obtain⟨z,hz⟩:∃ z,ys[k+1]?=some z:=⟨_,List.getElem?_eq_getElem (by omega)⟩
  have hstep:=cpR_take hy hz
  rw [hcp] at hstep
  repeat' (first|refine d1 ?_|refine dd ?_|(show T _ (.ops _ (_::_)::_) _ _ _;first|refine T_val rfl (Val.load rfl (fun hg=>rdRow (A:=some ⟨g,0,none⟩) (vs:=[RwI.val z]) (by omega) (getG_at (k:=k+1) (by omega) hz))) rfl rfl rfl ?_|refine T_valC rfl (Val.load rfl (fun hg=>rdRow (A:=some ⟨g,0,none⟩) (vs:=[RwI.val z]) (by omega) (getG_at (k:=k+1) (by omega) hz))) rfl rfl rfl rfl rfl ?_|refine T_val rfl (Val.load rfl (fun hg=>rdRow (A:=some ⟨g,0,none⟩) (vs:=[RwI.val y]) (by omega) (getG_at (k:=k) (by omega) hy))) rfl rfl rfl ?_|refine T_valC rfl (Val.load rfl (fun hg=>rdRow (A:=some ⟨g,0,none⟩) (vs:=[RwI.val y]) (by omega) (getG_at (k:=k) (by omega) hy))) rfl rfl rfl rfl rfl ?_|refine T_call rfl rfl rfl rfl rfl (fun w hw=>heq w ⟨[_],hw⟩ z (List.mem_of_getElem? hz) y (List.mem_of_getElem? hy)) ?_|refine T_callC rfl rfl rfl rfl rfl rfl rfl (fun hg w hw=>heq w ⟨[_],hw⟩ z (List.mem_of_getElem? hz) y (List.mem_of_getElem? hy)) ?_)|(show T _ (.run _ _ (_::_) _ _::_) _ _ _;first|refine rv rfl rfl rfl (Val.load rfl (fun hg=>rdRow (A:=some ⟨g,0,none⟩) (vs:=[RwI.val z]) (by omega) (getG_at (k:=k+1) (by omega) hz))) rfl rfl rfl ?_|refine rg rfl rfl rfl (Val.load rfl (fun hg=>rdRow (A:=some ⟨g,0,none⟩) (vs:=[RwI.val z]) (by omega) (getG_at (k:=k+1) (by omega) hz))) rfl rfl rfl rfl rfl ?_|refine rv rfl rfl rfl (Val.load rfl (fun hg=>rdRow (A:=some ⟨g,0,none⟩) (vs:=[RwI.val y]) (by omega) (getG_at (k:=k) (by omega) hy))) rfl rfl rfl ?_|refine rg rfl rfl rfl (Val.load rfl (fun hg=>rdRow (A:=some ⟨g,0,none⟩) (vs:=[RwI.val y]) (by omega) (getG_at (k:=k) (by omega) hy))) rfl rfl rfl rfl rfl ?_|refine rc rfl rfl rfl rfl rfl rfl rfl (fun w hw=>heq w ⟨[_],hw⟩ z (List.mem_of_getElem? hz) y (List.mem_of_getElem? hy)) ?_|refine rcG rfl rfl rfl rfl rfl rfl rfl rfl rfl (fun hg w hw=>heq w ⟨[_],hw⟩ z (List.mem_of_getElem? hz) y (List.mem_of_getElem? hy)) ?_)|(show ∀ _:Nat,T _ _ _ _ _;intro _))
  refine T_if rfl (fun h3=>?_) (fun h3=>?_)
  ·simp only [decide_eq_true_eq] at h3
   rw [if_pos h3.symm,List.append_nil] at hstep
   repeat' (first|refine d1 ?_|(show ∀ _:Nat,T _ _ _ _ _;intro _))
   have hcut:cutA (some ⟨g,0,none⟩) c ((k+1:Nat):Int).toNat 1=some ⟨g,((k+1:Nat):Int).toNat * 1,none⟩:=cutA_at (by omega)
   rw [hcut]
   refine T_loopX (fun s:Nat × Nat × List RwI=>[(5, .int .i64 (s.1:Nat)),(7, .int .i64 (s.2.1:Nat))]) (fun s=>row 24 1 (some ⟨g,0,none⟩) c n (s.2.2.map RwI.val)::K)
    (fun s=>(s.2.2.length=n∧k+1+s.2.1≤n∧1≤s.2.1)∧(s.1=(cpR (ys.take (k+1+s.2.1))).length∧s.1+1≤k+1+s.2.1)∧s.2.2.take s.1=cpR (ys.take (k+1+s.2.1))∧∀ p,k+s.2.1≤p→s.2.2[p]?=ys[p]?)
    (fun s=>n - s.2.1) (k+1,1,ys) ⟨⟨hl,by dsimp only;omega,Nat.le_refl _⟩,⟨by dsimp only;rw [hstep,List.length_take];omega,by dsimp only;omega⟩,by dsimp only;exact hstep.symm,fun p _=>rfl⟩ ?_
   rintro⟨kw,k2,zs⟩ ⟨⟨hzl,hkn,h21⟩,⟨hkw,hkw2⟩,htk,hrest⟩
   dsimp only at hzl hkn h21 hkw hkw2 htk hrest ⊢
   repeat' (first|refine d1 ?_|(show ∀ _:Nat,T _ _ _ _ _;intro _))
   refine T_if rfl (fun h4=>?_) (fun h4=>?_)
   ·simp only [decide_eq_true_eq] at h4
    obtain⟨j,rfl⟩:∃ j,k2=j+1:=⟨k2 - 1,by omega⟩
    obtain⟨y2,hy2⟩:∃ y,ys[k+(j+1)]?=some y:=⟨_,List.getElem?_eq_getElem (by omega)⟩
    obtain⟨z2,hz2⟩:∃ z,ys[k+(j+1)+1]?=some z:=⟨_,List.getElem?_eq_getElem (by omega)⟩
    have hstep2:=cpR_take hy2 hz2
    rw [show k+(j+1)+1=k+1+(j+1) by omega] at hstep2
    have hy3:=(hrest (k+(j+1)) (Nat.le_refl _)).trans hy2
    have hz3:=(hrest (k+(j+1)+1) (by omega)).trans hz2
    repeat' (first|refine d1 ?_|refine dd ?_|(show T _ (.ops _ (_::_)::_) _ _ _;first|refine T_val rfl (Val.load rfl (fun hg=>rdRow (A:=some ⟨g,0,none⟩) (vs:=[RwI.val z2]) (by omega) (getG_at (k:=k+(j+1)+1) (by omega) hz3))) rfl rfl rfl ?_|refine T_valC rfl (Val.load rfl (fun hg=>rdRow (A:=some ⟨g,0,none⟩) (vs:=[RwI.val z2]) (by omega) (getG_at (k:=k+(j+1)+1) (by omega) hz3))) rfl rfl rfl rfl rfl ?_|refine T_val rfl (Val.load rfl (fun hg=>rdRow (A:=some ⟨g,0,none⟩) (vs:=[RwI.val y2]) (by omega) (getG_at (k:=k+(j+1)) (by omega) hy3))) rfl rfl rfl ?_|refine T_valC rfl (Val.load rfl (fun hg=>rdRow (A:=some ⟨g,0,none⟩) (vs:=[RwI.val y2]) (by omega) (getG_at (k:=k+(j+1)) (by omega) hy3))) rfl rfl rfl rfl rfl ?_|refine T_call rfl rfl rfl rfl rfl (fun w hw=>heq w ⟨[_],hw⟩ z2 (List.mem_of_getElem? hz2) y2 (List.mem_of_getElem? hy2)) ?_|refine T_callC rfl rfl rfl rfl rfl rfl rfl (fun hg w hw=>heq w ⟨[_],hw⟩ z2 (List.mem_of_getElem? hz2) y2 (List.mem_of_getElem? hy2)) ?_)|(show T _ (.run _ _ (_::_) _ _::_) _ _ _;first|refine rv rfl rfl rfl (Val.load rfl (fun hg=>rdRow (A:=some ⟨g,0,none⟩) (vs:=[RwI.val z2]) (by omega) (getG_at (k:=k+(j+1)+1) (by omega) hz3))) rfl rfl rfl ?_|refine rg rfl rfl rfl (Val.load rfl (fun hg=>rdRow (A:=some ⟨g,0,none⟩) (vs:=[RwI.val z2]) (by omega) (getG_at (k:=k+(j+1)+1) (by omega) hz3))) rfl rfl rfl rfl rfl ?_|refine rv rfl rfl rfl (Val.load rfl (fun hg=>rdRow (A:=some ⟨g,0,none⟩) (vs:=[RwI.val y2]) (by omega) (getG_at (k:=k+(j+1)) (by omega) hy3))) rfl rfl rfl ?_|refine rg rfl rfl rfl (Val.load rfl (fun hg=>rdRow (A:=some ⟨g,0,none⟩) (vs:=[RwI.val y2]) (by omega) (getG_at (k:=k+(j+1)) (by omega) hy3))) rfl rfl rfl rfl rfl ?_|refine rc rfl rfl rfl rfl rfl rfl rfl (fun w hw=>heq w ⟨[_],hw⟩ z2 (List.mem_of_getElem? hz2) y2 (List.mem_of_getElem? hy2)) ?_|refine rcG rfl rfl rfl rfl rfl rfl rfl rfl rfl (fun hg w hw=>heq w ⟨[_],hw⟩ z2 (List.mem_of_getElem? hz2) y2 (List.mem_of_getElem? hy2)) ?_)|(show ∀ _:Nat,T _ _ _ _ _;intro _))
    refine T_if rfl (fun h5=>?_) (fun h5=>?_)
    ·simp only [Bool.not_eq_true',decide_eq_false_iff_not] at h5
     rw [if_neg (fun e=>h5 e.symm)] at hstep2
     repeat' (first|refine d1 ?_|(show T _ (.ops _ (_::_)::_) _ _ _;first|refine T_val rfl (Val.load rfl (fun hg=>rdRow (A:=some ⟨g,0,none⟩) (vs:=[RwI.val z2]) (by omega) (getG_at (k:=k+(j+1)+1) (by omega) hz3))) rfl rfl rfl ?_|refine T_valC rfl (Val.load rfl (fun hg=>rdRow (A:=some ⟨g,0,none⟩) (vs:=[RwI.val z2]) (by omega) (getG_at (k:=k+(j+1)+1) (by omega) hz3))) rfl rfl rfl rfl rfl ?_|refine T_op (OpT.storeR rfl rfl rfl rfl rfl rfl (by show 0+(kw:Int).toNat * 1+1≤n * 1;omega) ?_))|(show T _ (.run _ _ (_::_) _ _::_) _ _ _;first|refine rv rfl rfl rfl (Val.load rfl (fun hg=>rdRow (A:=some ⟨g,0,none⟩) (vs:=[RwI.val z2]) (by omega) (getG_at (k:=k+(j+1)+1) (by omega) hz3))) rfl rfl rfl ?_|refine rg rfl rfl rfl (Val.load rfl (fun hg=>rdRow (A:=some ⟨g,0,none⟩) (vs:=[RwI.val z2]) (by omega) (getG_at (k:=k+(j+1)+1) (by omega) hz3))) rfl rfl rfl rfl rfl ?_)|(show ∀ _:Nat,T _ _ _ _ _;intro _))
     have hset:setL (zs.map RwI.val) (0+(kw:Int).toNat * 1) [RwI.val z2]=(zs.set kw z2).map RwI.val:=setG_row (by omega)
     refine T_backX (kw+1,j+1+1,zs.set kw z2) ⟨⟨by dsimp only;rw [List.length_set];exact hzl,by dsimp only;omega,by dsimp only;omega⟩,⟨?_,by dsimp only;omega⟩,?_,fun p hp=>?_⟩ (by dsimp only;omega) (hG:=?_)
     ·dsimp only
      rw [show k+1+(j+1+1)=k+1+(j+1)+1 by omega,hstep2,List.length_append, ← hkw];rfl
     ·dsimp only
      rw [show k+1+(j+1+1)=k+1+(j+1)+1 by omega,hstep2, ← htk,take_snoc _ _ z2 (by rw [List.getElem?_set_self (by omega)])]
      congr 1
      rw [List.take_set_of_le (Nat.le_refl _)]
     ·dsimp only at hp ⊢
      rw [List.getElem?_set_ne (by omega)]
      exact hrest p (by omega)
     ·dsimp only
      rw [← hset]
      exact Hle.refl _
    ·simp only [Bool.not_eq_false',decide_eq_true_eq] at h5
     rw [if_pos h5.symm,List.append_nil] at hstep2
     repeat' (first|refine d1 ?_|(show ∀ _:Nat,T _ _ _ _ _;intro _))
     refine T_backX (kw,j+1+1,zs) ⟨⟨hzl,by dsimp only;omega,by dsimp only;omega⟩,⟨by dsimp only;rw [← Nat.add_assoc,hstep2];exact hkw,by dsimp only;omega⟩,by dsimp only;rw [← Nat.add_assoc,hstep2];exact htk,fun p hp=>hrest p (by dsimp only at hp;omega)⟩ (by dsimp only;omega)
   ·simp only [decide_eq_false_iff_not] at h4
    have hk2n:k+1+k2=n:=by omega
    rw [hk2n,List.take_of_length_le (show ys.length≤n by omega)] at hkw htk
    repeat' (first|refine d1 ?_|(show ∀ _:Nat,T _ _ _ _ _;intro _))
    have hcut2:cutA (some ⟨g,0,none⟩) c ((kw:Nat):Int).toNat 1=some ⟨g,((kw:Nat):Int).toNat * 1,none⟩:=cutA_at (by omega)
    refine T_op (OpT.clearR (g:=g) (z := .slice none 0 0) (off:=((kw:Nat):Int).toNat * 1) (n:=n) (k:=((n:Nat):Int).toNat - ((kw:Nat):Int).toNat) (A':=cutA (some ⟨g,0,none⟩) c ((kw:Nat):Int).toNat 1) (e:=24) (by rfl) (by rfl) (by rfl) (by rfl) (by rfl) (by rfl) (by rfl) (fun _=>hcut2) (by omega) ?_)
    refine T_le (Hle.rowCut (k:=(cpR ys).length) (ys:=(cpR ys).map RwI.val) (by omega) ?_) ?_
    ·rw [show (cpR ys).length * 1=((kw:Nat):Int).toNat * 1 by omega,setL_takeC (by rw [List.length_replicate,List.length_map];omega), ← List.map_take,show ((kw:Nat):Int).toNat * 1=kw by omega,htk]
    rw [hkw]
    repeat' (first|refine d1 ?_|refine dd ?_|(show ∀ _:Nat,T _ _ _ _ _;intro _)|(show T _ (.code .ret::_) _ _ _;refine T_retV _ rfl (Hle.refl _) ⟨rfl,rfl⟩))
  ·simp only [decide_eq_false_iff_not] at h3
   rw [if_neg (fun e=>h3 e.symm), ← take_snoc _ _ _ hz] at hstep
   repeat' (first|refine d1 ?_|refine dd ?_|(show ∀ _:Nat,T _ _ _ _ _;intro _))
   exact T_backX (k+1+1) ⟨⟨by omega,by omega⟩,hstep⟩ (by omega)
 ·simp only [decide_eq_false_iff_not] at h2
  rw [List.take_of_length_le (by omega)] at hcp
  rw [hcp,hl]
  repeat' (first|refine d1 ?_|refine dd ?_|(show ∀ _:Nat,T _ _ _ _ _;intro _)|(show T _ (.code .ret::_) _ _ _;refine T_retV _ rfl (Hle.refl _) ⟨rfl,rfl⟩))
end Go.Proofs.YtabhdaehomjlgaaGreat
namespace Go.Proofs.YtabhdaehomjlgaaGreat
open Go.RowKit Go.Shelf Go.Proofs
set_option maxRecDepth 100000
set_option maxHeartbeats 2000000

theorem isortR0_spec (A:Option Addr) (c:Nat) (f:FuncId) (cs:List Value) (w0:World) (K:List HA) :
  SpecB Tryz.prog 124 [.slice A 0 c, .int .i64 0, .int .i64 0, .func (.func f) #[] cs.toArray] w0 K (fun _ R=>R=K):=by
 refine specB_of sg Tryz.func124 rfl rfl rfl ?_
 repeat' (first|refine d1 ?_|refine dd ?_|(show ∀ _:Nat,T _ _ _ _ _;intro _))
 refine T_loopX (fun _:Unit=>[(8, .int .i64 1)]) (fun _=>K) (fun _=>True) (fun _=>0) () trivial ?_
 rintro - -
 repeat' (first|refine d1 ?_|refine dd ?_|(show ∀ _:Nat,T _ _ _ _ _;intro _))
 refine T_if rfl (fun h=>by exfalso;simp at h) (fun _=>?_)
 repeat' (first|refine d1 ?_|refine dd ?_|(show ∀ _:Nat,T _ _ _ _ _;intro _))
 exact T_fallV (vs:=[]) _ rfl (Hle.refl _) rfl
theorem pdqR0_spec (A:Option Addr) (c:Nat) (z:Int) (f:FuncId) (cs:List Value) (w0:World) (K:List HA) :
  SpecB Tryz.prog 89 [.slice A 0 c, .int .i64 0, .int .i64 0, .int .i64 z, .func (.func f) #[] cs.toArray] w0 K (fun _ R=>R=K):=by
 refine specB_of sg Tryz.func89 rfl rfl rfl ?_
 repeat' (first|refine d1 ?_|refine dd ?_|(show ∀ _:Nat,T _ _ _ _ _;intro _))
 refine T_loopX (fun _:Unit=>[]) (fun _=>K) (fun _=>True) (fun _=>0) () trivial ?_
 rintro - -
 repeat' (first|refine d1 ?_|refine dd ?_|(show ∀ _:Nat,T _ _ _ _ _;intro _))
 refine T_if rfl (fun _=>?_) (fun h=>by exfalso;simp at h)
 repeat' (first|refine d1 ?_|refine dd ?_|(show T _ (.ops _ (_::_)::_) _ _ _;refine T_op (OpT.callB rfl rfl rfl rfl rfl (isortR0_spec A c f cs w0 K) ?_))|(show ∀ _:Nat,T _ _ _ _ _;intro _))
 rintro u R rfl
 repeat' (first|refine d1 ?_|refine dd ?_|(show ∀ _:Nat,T _ _ _ _ _;intro _))
 exact T_retV (vs:=[]) _ rfl (Hle.refl _) rfl
theorem sortRn_spec (A:Option Addr) (c n:Nat) (xs:List RwI) (f:FuncId) (cs:List Value) (cmp:RwI→RwI→Int) (le:RwI→RwI→Prop) (w0:World) (K:List HA) (hl:xs.length=n) (h12:n≤12)
  (hcmp:∀ w,(∃ H,Cls w0 w (H++K))→∀ x∈xs,∀ y∈xs,Spec Tryz.prog f (RwI.val x::RwI.val y::cs) w (fun v R=>v = .int .i64 (cmp x y)∧R=[]))
  (htr:∀ a b c,le a b→le b c→le a c) (hlt9:∀ a b,cmp a b<0→le a b) (hge9:∀ a b,¬ cmp a b<0→le b a) :
  SpecB Tryz.prog 41 [.slice A n c, .func (.func f) #[] cs.toArray] w0 (row 24 1 A c n (xs.map RwI.val)::K)
   (fun _ R=>∃ ys:List RwI,(ys.Perm xs∧∀ p q,p<q→q<n→le (ys.getD p rw0) (ys.getD q rw0))∧R=row 24 1 A c n (ys.map RwI.val)::K):=by
 refine specB_of sg Tryz.func41 rfl rfl rfl ?_
 repeat' (first|refine d1 ?_|refine dd ?_|(show T _ (.ops _ (_::_)::_) _ _ _;refine T_op (OpT.call rfl rfl rfl rfl rfl (fun w hw=>lenT_spec n h12 w) ?_))|(show ∀ _:Nat,T _ _ _ _ _;intro _))
 rintro v R ⟨z,hz,rfl,rfl⟩
 refine T_le (H':=row 24 1 A c n (xs.map RwI.val)::K) (Hle.refl _) ?_
 rcases Nat.eq_zero_or_pos n with h0|h0
 ·subst h0
  obtain rfl:xs=[]:=List.eq_nil_of_length_eq_zero hl
  repeat' (first|refine d1 ?_|refine dd ?_|(show T _ (.ops _ (_::_)::_) _ _ _;refine T_op (OpT.callB rfl rfl rfl rfl rfl (pdqR0_spec A c z f cs w0 _) ?_))|(show ∀ _:Nat,T _ _ _ _ _;intro _))
  rintro u R rfl
  repeat' (first|refine d1 ?_|refine dd ?_|(show ∀ _:Nat,T _ _ _ _ _;intro _))
  exact T_fallV (vs:=[]) _ rfl (Hle.refl _) ⟨[],⟨List.Perm.refl _,fun p q _ h=>absurd h (Nat.not_lt_zero _)⟩,rfl⟩
 ·refine T_rowAt h0 ?_
  rintro g rfl
  repeat' (first|refine d1 ?_|refine dd ?_|(show T _ (.ops _ (_::_)::_) _ _ _;refine T_op (OpT.callB rfl rfl rfl rfl rfl (pdqR_spec g c n z xs f cs cmp le w0 K hl h0 h12 hcmp htr hlt9 hge9) ?_))|(show ∀ _:Nat,T _ _ _ _ _;intro _))
  rintro u R ⟨ys,hys,rfl⟩
  repeat' (first|refine d1 ?_|refine dd ?_|(show ∀ _:Nat,T _ _ _ _ _;intro _))
  exact T_fallV (vs:=[]) _ rfl (Hle.refl _) ⟨ys,hys,rfl⟩

def snM (l:List ByteArray):List (ByteArray × Value):=l.map fun a=>(a, .bool true)
theorem snM_get (l:List ByteArray) (a:ByteArray):mget (snM l) a=if has22 l a=true then some (.bool true) else none:=by
 induction l with
 | nil=>rfl
 | cons b l ih =>
  unfold snM at ih ⊢
  rw [List.map_cons,mget_cons,ih]
  by_cases h:a=b
  ·subst h
   rw [if_pos rfl,if_pos (has22_iff.2 (.head _))]
  ·rw [if_neg h]
   have e:has22 (b::l) a=has22 l a:=by
    rw [Bool.eq_iff_iff,has22_iff,has22_iff,List.mem_cons]
    exact⟨fun h2=>h2.resolve_left h, .inr⟩
   rw [e]
theorem snM_val (l:List ByteArray) (a:ByteArray):(mget (snM l) a).getD (.bool false) = .bool (has22 l a):=by
 rw [snM_get]
 cases has22 l a <;> rfl
theorem snM_put {l:List ByteArray} {a:ByteArray} (h:a ∉ l):mput (snM l) a (.bool true)=snM (l++[a]):=by
 have h1:mget (snM l) a=none:=by rw [snM_get,if_neg (fun e=>h (has22_iff.1 e))]
 have h2:fndL a (snM l) 0=none:=by
  unfold mget at h1
  cases hq:fndL a (snM l) 0 with
  | none=>rfl
  | some r=>rw [hq] at h1;cases h1
 rw [mput_new h2]
 unfold snM
 rw [List.map_append];rfl
theorem keyS:MKey Tryz.prog 9 Value.string (fun _ _=>True):=key_str Tryz.underlying9
theorem ofC_spec (p8 p2 mb:Nat) (A1 A2:Option Addr) (n1 c1 n2 c2:Nat) (names ns:List ByteArray) (i:Nat) (w:World) (h8:RdC w p8 0 [.map (some mb)]) (hm:mapAt w Value.string mb (snM names)) (h2:RdC w p2 0 [.slice A1 n1 c1, .slice A2 n2 c2]) (hs:Src w 1 A2 n2 (ns.map Value.string)) (hl:ns.length=n2) (hi:i<n2) :
  Spec Tryz.prog 52 [.int .i64 (i:Nat), .pointer (some ⟨p8,0,none⟩), .pointer (some ⟨p2,0,none⟩)] w (fun v R=>v = .bool (!has22 names (ns.getD i ByteArray.empty))∧R=[]):=by
 refine spec_of sg Tryz.func52 rfl rfl rfl ?_
 obtain⟨g2,o2,rfl⟩:=hs.base (by omega)
 obtain⟨a,ha⟩:∃ a,ns[i]?=some a:=⟨_,List.getElem?_eq_getElem (by omega)⟩
 have ha1:=src_str hs hi ha
 have hc2:RdC w p2 (0+1) [.slice (some ⟨g2,o2,none⟩) n2 c2]:=h2.at rfl
 rw [List.getD_eq_getElem?_getD,ha]
 repeat' (first|refine d1 ?_|refine dd ?_|(show T _ (.ops _ (_::_)::_) _ _ _;first|refine T_val rfl (Val.load rfl (fun hg=>rdOld h8)) rfl rfl rfl ?_|refine T_valC rfl (Val.load rfl (fun hg=>rdOld h8)) rfl rfl rfl rfl rfl ?_|refine T_val rfl (Val.load rfl (fun hg=>rdOld hc2)) rfl rfl rfl ?_|refine T_valC rfl (Val.load rfl (fun hg=>rdOld hc2)) rfl rfl rfl rfl rfl ?_|refine T_val rfl (Val.load rfl (fun hg=>rdOld ha1)) rfl rfl rfl ?_|refine T_valC rfl (Val.load rfl (fun hg=>rdOld ha1)) rfl rfl rfl rfl rfl ?_|refine T_val rfl (Val.to (Val.lookupO (a:=a) (inj:=Value.string) rfl Tryz.underlying78 keyS rfl rfl (fun w hw=>hm.old hw) (fun w hw=>⟨trivial,fun _ _=>trivial⟩)) (show cond false _ _=_ from snM_val names a)) rfl rfl rfl ?_|refine T_valC rfl (Val.to (Val.lookupO (a:=a) (inj:=Value.string) rfl Tryz.underlying78 keyS rfl rfl (fun w hw=>hm.old hw) (fun w hw=>⟨trivial,fun _ _=>trivial⟩)) (show cond false _ _=_ from snM_val names a)) rfl rfl rfl rfl rfl ?_)|(show T _ (.run _ _ (_::_) _ _::_) _ _ _;first|refine rv rfl rfl rfl (Val.load rfl (fun hg=>rdOld h8)) rfl rfl rfl ?_|refine rg rfl rfl rfl (Val.load rfl (fun hg=>rdOld h8)) rfl rfl rfl rfl rfl ?_|refine rv rfl rfl rfl (Val.load rfl (fun hg=>rdOld hc2)) rfl rfl rfl ?_|refine rg rfl rfl rfl (Val.load rfl (fun hg=>rdOld hc2)) rfl rfl rfl rfl rfl ?_|refine rv rfl rfl rfl (Val.load rfl (fun hg=>rdOld ha1)) rfl rfl rfl ?_|refine rg rfl rfl rfl (Val.load rfl (fun hg=>rdOld ha1)) rfl rfl rfl rfl rfl ?_|refine rv rfl rfl rfl (Val.to (Val.lookupO (a:=a) (inj:=Value.string) rfl Tryz.underlying78 keyS rfl rfl (fun w hw=>hm.old hw) (fun w hw=>⟨trivial,fun _ _=>trivial⟩)) (show cond false _ _=_ from snM_val names a)) rfl rfl rfl ?_|refine rg rfl rfl rfl (Val.to (Val.lookupO (a:=a) (inj:=Value.string) rfl Tryz.underlying78 keyS rfl rfl (fun w hw=>hm.old hw) (fun w hw=>⟨trivial,fun _ _=>trivial⟩)) (show cond false _ _=_ from snM_val names a)) rfl rfl rfl rfl rfl ?_)|(show ∀ _:Nat,T _ _ _ _ _;intro _)|(show T _ (.code .ret::_) _ _ _;refine T_retV [] rfl (Hle.none _) ⟨rfl,rfl⟩))
end Go.Proofs.YtabhdaehomjlgaaGreat
namespace Go.Proofs.YtabhdaehomjlgaaGreat
open Go.RowKit Go.Shelf Go.Proofs
set_option maxRecDepth 100000
set_option maxHeartbeats 2000000

theorem rd_oneC {R:Rdr}:∀ {l:List RwI},Rd R (l.map RwI.val) (l.map fun x=>intsD x.l)→∀ x∈l,Rd R [RwI.val x] [intsD x.l]
 | [],_,x,hx=>by cases hx
 | a::l,h,x,hx=>by
  rw [List.map_cons,List.map_cons] at h
  obtain⟨h1,h2⟩:=h.cons_inv
  rcases List.mem_cons.1 hx with e|e
  ·subst e;exact h1
  ·exact rd_oneC h2 x e
theorem rd_allR {R:Rdr}:∀ {l:List RwI},(∀ x∈l,Rd R [RwI.val x] [intsD x.l])→Rd R (l.map RwI.val) (l.map fun x=>intsD x.l)
 | [],_ => .nil
 | a::l,h=>by
  have h1:=h a (.head _)
  have h2:=rd_allR (R:=R) (l:=l) fun x hx=>h x (.tail _ hx)
  exact h1.append h2
theorem hle_ug0 {q:Frag} {hs hs2:List RwI} {L B R E P:HA} {K:List HA} (hrd:Rd (fr q) (hs2.map RwI.val) (hs2.map fun x=>intsD x.l)) :
  Hle (L::fz q::dat (hs.map RwI.val) (hs.map fun x=>intsD x.l)::B::R::E::P::K) (dat ((hs++hs2).map RwI.val) ((hs++hs2).map fun x=>intsD x.l)::B::R::E::P::L::K):=by
 refine (hle_pm [1,2,3,4,5,6,0] [L,fz q,dat (hs.map RwI.val) (hs.map fun x=>intsD x.l),B,R,E,P] K).trans ?_
 show Hle (fz q::dat (hs.map RwI.val) (hs.map fun x=>intsD x.l)::B::R::E::P::L::K) _
 rw [List.map_append,List.map_append]
 exact (hle_map (fun f hf=>by rw [show f=q from hf];exact hrd)).trans dat_join
theorem hle_ug1 {r:Frag} {hA:List RwI} {x:RwI} {L B S E P:HA} {e:TypeId} {A:Option Addr} {c n:Nat} {xs:List Value} {K:List HA} (hrd:Rd (fr r) [RwI.val x] [intsD x.l]) (hxs:xs=(hA++[x]).map RwI.val) :
  Hle (S::fz r::dat (hA.map RwI.val) (hA.map fun x=>intsD x.l)::B::row e 1 A c n xs::E::P::L::K) (L::P::dat ((hA++[x]).map RwI.val) ((hA++[x]).map fun x=>intsD x.l)::B::row e 1 A c n ((hA++[x]).map RwI.val)::E::K):=by
 subst hxs
 refine (hle_pm [1,2,3,4,5,6,7] [S,fz r,dat (hA.map RwI.val) (hA.map fun x=>intsD x.l),B,_,E,P,L] K).trans ?_
 show Hle (fz r::dat (hA.map RwI.val) (hA.map fun x=>intsD x.l)::B::row e 1 A c n ((hA++[x]).map RwI.val)::E::P::L::K) _
 generalize row e 1 A c n ((hA++[x]).map RwI.val)=RR
 refine Hle.trans ?_ (hle_pm [5,4,0,1,2,3] [dat ((hA++[x]).map RwI.val) ((hA++[x]).map fun x=>intsD x.l),B,RR,E,P,L] K)
 show Hle _ (dat ((hA++[x]).map RwI.val) ((hA++[x]).map fun x=>intsD x.l)::B::RR::E::P::L::K)
 rw [List.map_append,List.map_append]
 exact (hle_map (fun f hf=>by rw [show f=r from hf];exact hrd)).trans dat_join
theorem hle_ug2 {P:Frag} {l:List RwI} {e:TypeId} {A:Option Addr} {c n:Nat} {B D:HA} (h:Rd (fr P) (l.map RwI.val) (l.map fun x=>intsD x.l)) :
  Hle [row e 1 A c n (l.map RwI.val),fz P,B,D] (D::[dat [.slice A n c] [rowsD (l.map RwI.l)]]):=by
 refine (hle_pm [1,0,3] [row e 1 A c n (l.map RwI.val),fz P,B,D] []).trans ?_
 show Hle (fz P::row e 1 A c n (l.map RwI.val)::D::[]) _
 refine (hle_map (B:=dat (l.map RwI.val) (l.map fun x=>intsD x.l)) (fun f hf=>by rw [show f=P from hf];exact h)).trans (hle_swap.trans ?_)
 unfold rowsD
 rw [List.map_map]
 exact dat_row.trans hle_swap
theorem mapAt_below {α:Type} {w w':World} {inj:α→Value} {b:Nat} {l:List (α × Value)} (h:mapAt w inj b l) (hb:Below w.heap.size w w'):mapAt w' inj b l:=by
 obtain⟨es,clock,h1,h2⟩:=h
 exact⟨es,clock,(hb.block b (Array.getElem?_eq_some_iff.1 h1).1).trans h1,h2⟩
theorem splitOf_spec (A1 A2 An:Option Addr) (n1 c1 n2 c2 nn cn:Nat) (ps:List Int) (ns names:List ByteArray) (w:World) (ht:TrA w A1 n1 c1 A2 n2 c2 ps ns) (hok:tOk ps ns) (hsn:Src w 1 An nn (names.map Value.string)) (hnn:names.length=nn) (h12:nn≤12) (hnd:names.Nodup) (hlen:(lfI ns).length=nn) (hin:∀ k∈lfI ns,ns.getD k ByteArray.empty∈names) (hinn:ps.length≤nn+13) :
  Spec Tryz.prog 14 [.agg #[.slice A1 n1 c1, .slice A2 n2 c2], .slice An nn cn] w (fun v R=>∃ (x:Value) (L:List (List Int)),ofOk ps ns names L∧v = .tuple #[x, .int .i64 0]∧R=[dat [x] [rowsD L]]):=by
 have hl1:=ht.l1
 have hl2:=ht.l2
 have hlen9:=hok.len
 obtain rfl:n1=n2:=by omega
 have hin2:∀ i,i<ps.length→kdsI ps i ps.length=[]→ns.getD i ByteArray.empty∈names:=fun i hi h0=>hin i ((hok.leaf hi).1 h0)
 have hbnd:=ffI_bound hok.up hok.pos hnd hin2 (by rw [lfB_lfI hok,hlen,hnn]) (by omega)
 refine spec_of sg Tryz.func14 rfl rfl rfl ?_
 repeat' (first|(show T _ (.ops _ (⟨_, .box _ _,_,_,_,_⟩::_)::_) _ _ _;refine T_op (OpT.box (cs:=[.slice A1 n1 c1, .slice A2 n1 c2]) rfl rfl rfl rfl rfl rfl rfl (fun _=>?_)))|refine d1 ?_|(show ∀ _:Nat,T _ _ _ _ _;intro _))
 rename_i t2
 refine T_op (OpT.call rfl rfl rfl rfl rfl (fun w hw=>leavesTree_spec A1 A2 n1 c1 n1 c2 ps ns w (ht.cls hw)) ?_)
 rintro u R (⟨h9,rfl,rfl⟩|⟨-,⟨Al,cl⟩,rfl,rfl⟩)
 ·exact absurd hok h9
 dsimp only
 rw [lfZ_nums,hlen]
 refine T_le (H':=[row 3 1 Al cl nn ((lfZ ns).map (Value.int .i64)),blk t2 [.slice A1 n1 c1, .slice A2 n1 c2] 30]) (Hle.refl _) ?_
 repeat' (first|refine d1 ?_|(show ∀ _:Nat,T _ _ _ _ _;intro _))
 refine T_if rfl (fun h=>by exfalso;simp at h) (fun _=>?_)
 repeat' (first|refine d1 ?_|(show ∀ _:Nat,T _ _ _ _ _;intro _))
 refine T_if rfl (fun h=>by exfalso;simp at h;omega) (fun _=>?_)
 repeat' (first|refine d1 ?_|(show T _ (.ops _ (_::_)::_) _ _ _;refine T_op (OpT.makeMap (inj:=Value.string) rfl rfl rfl rfl rfl (fun mb=>?_)))|(show ∀ _:Nat,T _ _ _ _ _;intro _))
 rename_i t8
 refine T_le (H':=[blk t8 [.map (some mb)] 78,mph Value.string mb (snM []),row 3 1 Al cl nn ((lfZ ns).map (Value.int .i64)),blk t2 [.slice A1 n1 c1, .slice A2 n1 c2] 30]) (Hle.refl _) ?_
 refine T_loopX (fun k:Nat=>[(29, .int .i64 (k:Nat))]) (fun k=>[blk t8 [.map (some mb)] 78,mph Value.string mb (snM (names.take k)),row 3 1 Al cl nn ((lfZ ns).map (Value.int .i64)),blk t2 [.slice A1 n1 c1, .slice A2 n1 c2] 30]) (fun k=>k≤nn) (fun k=>nn - k) 0 (Nat.zero_le _) ?_
 rintro k hk
 repeat' (first|refine d1 ?_|(show ∀ _:Nat,T _ _ _ _ _;intro _))
 refine T_if rfl (fun h=>?_) (fun h=>?_)
 ·simp only [decide_eq_true_eq] at h
  obtain⟨gn,on,rfl⟩:=hsn.base (by omega)
  obtain⟨a,ha⟩:∃ a,names[k]?=some a:=⟨_,List.getElem?_eq_getElem (by omega)⟩
  have hra:=src_str hsn (k:=k) (by omega) ha
  have hna:a ∉ names.take k:=fun hm=>by
   obtain⟨i,hi⟩:=List.mem_iff_getElem?.1 hm
   rw [List.getElem?_take] at hi
   split at hi
   ·have:=nodup_at hnd hi ha;omega
   ·cases hi
  have hv:has22 (names.take k) a=false:=by
   cases h9:has22 (names.take k) a with
   | false=>rfl
   | true=>exact absurd (has22_iff.1 h9) hna
  repeat' (first|refine d1 ?_|(show T _ (.ops _ (_::_)::_) _ _ _;first|refine T_val rfl (Val.load rfl (fun hg=>rdOld hra)) rfl rfl rfl ?_|refine T_valC rfl (Val.load rfl (fun hg=>rdOld hra)) rfl rfl rfl rfl rfl ?_|refine T_val rfl (Val.to (Val.lookup (a:=a) (inj:=Value.string) rfl Tryz.underlying78 keyS rfl rfl (fun w hw=>⟨trivial,fun _ _=>trivial⟩)) (show cond false _ _=_ from (snM_val (names.take k) a).trans (congrArg Value.bool hv))) rfl rfl rfl ?_|refine T_valC rfl (Val.to (Val.lookup (a:=a) (inj:=Value.string) rfl Tryz.underlying78 keyS rfl rfl (fun w hw=>⟨trivial,fun _ _=>trivial⟩)) (show cond false _ _=_ from (snM_val (names.take k) a).trans (congrArg Value.bool hv))) rfl rfl rfl rfl rfl ?_)|(show T _ (.run _ _ (_::_) _ _::_) _ _ _;first|refine rv rfl rfl rfl (Val.load rfl (fun hg=>rdOld hra)) rfl rfl rfl ?_|refine rg rfl rfl rfl (Val.load rfl (fun hg=>rdOld hra)) rfl rfl rfl rfl rfl ?_|refine rv rfl rfl rfl (Val.to (Val.lookup (a:=a) (inj:=Value.string) rfl Tryz.underlying78 keyS rfl rfl (fun w hw=>⟨trivial,fun _ _=>trivial⟩)) (show cond false _ _=_ from (snM_val (names.take k) a).trans (congrArg Value.bool hv))) rfl rfl rfl ?_|refine rg rfl rfl rfl (Val.to (Val.lookup (a:=a) (inj:=Value.string) rfl Tryz.underlying78 keyS rfl rfl (fun w hw=>⟨trivial,fun _ _=>trivial⟩)) (show cond false _ _=_ from (snM_val (names.take k) a).trans (congrArg Value.bool hv))) rfl rfl rfl rfl rfl ?_)|(show ∀ _:Nat,T _ _ _ _ _;intro _))
  refine T_if rfl (fun h=>by cases h) (fun _=>?_)
  repeat' (first|refine d1 ?_|(show ∀ _:Nat,T _ _ _ _ _;intro _))
  refine T_op (OpT.mapUp (inj:=Value.string) (a:=a) (v := .bool true) rfl rfl rfl Tryz.underlying78 keyS (fun w hw=>⟨trivial,fun _ _=>trivial⟩) ?_)
  rw [snM_put hna, ← take_snoc _ _ _ ha]
  repeat' (first|refine d1 ?_|(show ∀ _:Nat,T _ _ _ _ _;intro _))
  exact T_backX (k+1) (by omega) (by omega)
 simp only [decide_eq_false_iff_not] at h
 obtain rfl:k=nn:=by omega
 rw [List.take_of_length_le (by omega)]
 have hll:(lfZ ns).length=k:=by rw [lfZ_len];exact hlen
 have hany:(lfZ ns).any (fun z => !has22 names (ns.getD z.toNat ByteArray.empty))=false:=by
  rw [List.any_eq_false]
  intro z hz
  unfold lfZ at hz
  obtain⟨i,hi,rfl⟩:=List.mem_map.1 hz
  rw [Int.toNat_natCast,has22_iff.2 (hin i hi)];decide
 repeat' (first|refine d1 ?_|(show T _ (.ops _ (_::_)::_) _ _ _;first|refine T_call rfl rfl rfl rfl rfl (fun w hw=>containsFuncI_spec Al k cl (lfZ ns) 52 [] [.pointer (some ⟨t8,0,none⟩), .pointer (some ⟨t2,0,none⟩)] (fun z => !has22 names (ns.getD z.toNat ByteArray.empty)) w (srcRw w hw) hll (by omega) (fun x hx w' hb'=>by obtain⟨i,hi,rfl⟩:=List.mem_map.1 (show x∈(lfI ns).map (fun (i:Nat)=>(i:Int)) from hx);exact ofC_spec t8 t2 mb A1 A2 n1 c1 n1 c2 names ns i w' ((rdBlk8 hw).below hb') (mapAt_below hw.mapOf hb') ((rdBlk8 hw).below hb') (src_below (src_below ht.s2 hw.below) hb') hl2 (by have:=lfI_mem.1 hi;omega))) ?_|refine T_callC rfl rfl rfl rfl rfl rfl rfl (fun hg w hw=>containsFuncI_spec Al k cl (lfZ ns) 52 [] [.pointer (some ⟨t8,0,none⟩), .pointer (some ⟨t2,0,none⟩)] (fun z => !has22 names (ns.getD z.toNat ByteArray.empty)) w (srcRw w hw) hll (by omega) (fun x hx w' hb'=>by obtain⟨i,hi,rfl⟩:=List.mem_map.1 (show x∈(lfI ns).map (fun (i:Nat)=>(i:Int)) from hx);exact ofC_spec t8 t2 mb A1 A2 n1 c1 n1 c2 names ns i w' ((rdBlk8 hw).below hb') (mapAt_below hw.mapOf hb') ((rdBlk8 hw).below hb') (src_below (src_below ht.s2 hw.below) hb') hl2 (by have:=lfI_mem.1 hi;omega))) ?_)|(show T _ (.run _ _ (_::_) _ _::_) _ _ _;first|refine rc rfl rfl rfl rfl rfl rfl rfl (fun w hw=>containsFuncI_spec Al k cl (lfZ ns) 52 [] [.pointer (some ⟨t8,0,none⟩), .pointer (some ⟨t2,0,none⟩)] (fun z => !has22 names (ns.getD z.toNat ByteArray.empty)) w (srcRw w hw) hll (by omega) (fun x hx w' hb'=>by obtain⟨i,hi,rfl⟩:=List.mem_map.1 (show x∈(lfI ns).map (fun (i:Nat)=>(i:Int)) from hx);exact ofC_spec t8 t2 mb A1 A2 n1 c1 n1 c2 names ns i w' ((rdBlk8 hw).below hb') (mapAt_below hw.mapOf hb') ((rdBlk8 hw).below hb') (src_below (src_below ht.s2 hw.below) hb') hl2 (by have:=lfI_mem.1 hi;omega))) ?_|refine rcG rfl rfl rfl rfl rfl rfl rfl rfl rfl (fun hg w hw=>containsFuncI_spec Al k cl (lfZ ns) 52 [] [.pointer (some ⟨t8,0,none⟩), .pointer (some ⟨t2,0,none⟩)] (fun z => !has22 names (ns.getD z.toNat ByteArray.empty)) w (srcRw w hw) hll (by omega) (fun x hx w' hb'=>by obtain⟨i,hi,rfl⟩:=List.mem_map.1 (show x∈(lfI ns).map (fun (i:Nat)=>(i:Int)) from hx);exact ofC_spec t8 t2 mb A1 A2 n1 c1 n1 c2 names ns i w' ((rdBlk8 hw).below hb') (mapAt_below hw.mapOf hb') ((rdBlk8 hw).below hb') (src_below (src_below ht.s2 hw.below) hb') hl2 (by have:=lfI_mem.1 hi;omega))) ?_)|(show ∀ _:Nat,T _ _ _ _ _;intro _))
 refine T_if rfl (fun h=>by exfalso;rw [hany] at h;simp at h) (fun _=>?_)
 repeat' (first|refine d1 ?_|(show ∀ _:Nat,T _ _ _ _ _;intro _))
 rename_i t11 t12
 refine T_op (OpT.call rfl rfl rfl rfl rfl (fun w hw=>belowS_spec A1 A2 An n1 c1 n1 c2 k cn w) ?_)
 rintro u R ⟨⟨b1,b2⟩,-,rfl,rfl⟩
 dsimp only
 repeat' (first|refine d1 ?_|(show ∀ _:Nat,T _ _ _ _ _;intro _))
 refine T_le (H':=[blk b2 [.slice An k cn] 22,blk b1 [.slice A1 n1 c1, .slice A2 n1 c2] 30,blk t12 [.slice none 0 0] 23,blk t11 [.int .i64 (k:Nat)] 3]) (Hle.append_left (A:=[_,_,_,_]) _) ?_
 refine T_nilrow 24 1 ?_
 have hit:=belowS_iter ht hok hsn hnn h12 hnd hin2 b1 b2 (cn:=cn)
 refine T_rangeK hit rfl (fun j x p hj hQ=>by obtain⟨i,y,_,rfl,_⟩:=hQ;exact⟨rfl,rfl⟩)
  (fun j p H=>∃ (hs hs2:List RwI) (A:Option Addr) (c:Nat),(Rd (fr p) (hs2.map RwI.val) (hs2.map fun x=>intsD x.l)∧(hs++hs2).map RwI.l=((belT ps).take j).flatMap (ffI ps ns names))∧H=[fz p,dat (hs.map RwI.val) (hs.map fun x=>intsD x.l),blk t12 [.slice A (hs++hs2).length c] 23,row 24 1 A c (hs++hs2).length ((hs++hs2).map RwI.val),blk t11 [.int .i64 (k:Nat)] 3])
  (fun _=>False) (fun _ _=>False) [fz (fun _=>none),dat [] [],blk t12 [.slice none 0 0] 23,row 24 1 none 0 0 [],blk t11 [.int .i64 (k:Nat)] 3] (fun _=>none)
  (by rintro j p H ⟨hs,hs2,A,c,-,rfl⟩;exact Hle.nth 0 rfl) ⟨[],[],none,0,⟨.nil,rfl⟩,rfl⟩ ?_ ?_ ?_ (fun _ _ h=>h.elim) (fun _ _ _ h=>h.elim)
 ·exact (dat_nil _).trans ((hle_unit (B:=fz (fun _=>none)) rfl).trans (hle_pm [3,4,0,1,5,2,6] [_,_,_,_,_,_,_] []))
 ·rintro Lp r5 j x p q Hj K2 hr5 hj hQ ⟨hs,hs2,A,c,⟨hrd,hL⟩,rfl⟩
  obtain⟨i,y,hi,rfl,hy⟩:=hQ
  generalize hsd:plS names (ndT ps ns i)=s at hy
  have hslo:∀ z∈s,0≤z∧z<k:=fun z hz=>by
   rw [← hsd] at hz
   have:=setI_lo hz
   rw [hnn] at this;exact this
  have hsok:setOk s:=by rw [← hsd];exact setI_ok (by omega)
  have hsl:s.length≤k:=by rw [← hsd, ← hnn];exact setI_len_le _ _
  obtain⟨B,cb,rfl,hyl⟩:=hy.row1
  show T _ _ ((54, .slice B s.length cb)::_) _ (lrec Lp r5::fz q::dat (hs.map RwI.val) (hs.map fun x=>intsD x.l)::blk t12 [.slice A (hs++hs2).length c] 23::row 24 1 A c (hs++hs2).length ((hs++hs2).map RwI.val)::blk t11 [.int .i64 (k:Nat)] 3::fz p::K2)
  repeat' (first|refine d1 ?_|refine dd ?_|(show ∀ _:Nat,T _ _ _ _ _;intro _))
  refine T_begin hr5 rfl ?_
  refine T_le (H':=dat ((hs++hs2).map RwI.val) ((hs++hs2).map fun x=>intsD x.l)::blk t12 [.slice A (hs++hs2).length c] 23::row 24 1 A c (hs++hs2).length ((hs++hs2).map RwI.val)::blk t11 [.int .i64 (k:Nat)] 3::fz p::lrec Lp (busy r5)::K2) (hle_ug0 hrd) ?_
  generalize hs++hs2=hA at hL ⊢
  have htk:(belT ps).take (j+1)=(belT ps).take j++[i]:=take_snoc _ _ _ hi
  have hAl:hA.length≤12:=by
   have h1:=congrArg List.length hL
   rw [List.length_map] at h1
   rw [← List.take_append_drop j (belT ps),List.flatMap_append,List.length_append] at hbnd
   omega
  have hffi:ffI ps ns names i=if splOk k (nrmI k s) then [nrmI k s] else []:=by unfold ffI;rw [hsd,hnn]
  repeat' (first|refine d1 ?_|(show T _ (.ops _ (_::_)::_) _ _ _;first|refine T_call rfl rfl rfl rfl rfl (fun w hw=>containsI_spec B s.length cb s 0 w ((hy.own hw).intsAt) rfl (by omega)) ?_|refine T_callC rfl rfl rfl rfl rfl rfl rfl (fun hg w hw=>containsI_spec B s.length cb s 0 w ((hy.own hw).intsAt) rfl (by omega)) ?_)|(show T _ (.run _ _ (_::_) _ _::_) _ _ _;first|refine rc rfl rfl rfl rfl rfl rfl rfl (fun w hw=>containsI_spec B s.length cb s 0 w ((hy.own hw).intsAt) rfl (by omega)) ?_|refine rcG rfl rfl rfl rfl rfl rfl rfl rfl rfl (fun hg w hw=>containsI_spec B s.length cb s 0 w ((hy.own hw).intsAt) rfl (by omega)) ?_)|(show ∀ _:Nat,T _ _ _ _ _;intro _))
  refine T_cutX 1 [13] (fun u:RwI × Frag=>[(13,RwI.val u.1)]) (fun u=>[fz u.2,dat (hA.map RwI.val) (hA.map fun x=>intsD x.l),blk t12 [.slice A hA.length c] 23,row 24 1 A c hA.length (hA.map RwI.val),blk t11 [.int .i64 (k:Nat)] 3,fz p,lrec Lp (busy r5)]++K2)
   (fun u=>u.1.l=nrmI k s∧(Rd (fr p) [RwI.val u.1] [intsD u.1.l]∨Rd (fr u.2) [RwI.val u.1] [intsD u.1.l])) ?_ ?_
  ·refine T_if rfl (fun h2=>?_) (fun h2=>?_)
   ·have h0:(0:Int)∈s:=by
     obtain⟨z,hz,h3⟩:=List.any_eq_true.1 h2
     rw [show (0:Int)=z from of_decide_eq_true h3];exact hz
    have hs0:0<s.length:=List.length_pos_of_mem h0
    have hnr:nrmI k s=cplI k s:=by
     unfold nrmI cplI
     rw [if_pos h0]
     exact setI_congr fun i _=>decide_not
    repeat' (first|refine d1 ?_|(show ∀ _:Nat,T _ _ _ _ _;intro _))
    refine T_op (OpT.call rfl rfl rfl rfl rfl (fun w hw=>complement_spec B k s.length cb s w ((hy.own hw).intsAt) rfl hsok hs0 (by omega) (by omega) (fun z hz=>(hslo z hz).2)) ?_)
    rintro u R ⟨⟨A',c'⟩,-,rfl,rfl⟩
    dsimp only
    refine T_le dat_rowV ?_
    refine T_open fun r hr=>?_
    have hr':Rd (fr r) [.slice A' (cplI k s).length c'] [intsD (cplI k s)]:=by
     rw [List.map_map] at hr;exact hr
    repeat' (first|refine d1 ?_|(show ∀ _:Nat,T _ _ _ _ _;intro _))
    exact T_meetX (⟨A',(cplI k s).length,c',cplI k s⟩,r) ⟨hnr.symm, .inr hr'⟩
   ·have h0:(0:Int) ∉ s:=fun h3=>by
     have:s.any (fun x=>decide (0=x))=true:=List.any_eq_true.2 ⟨0,h3,decide_eq_true rfl⟩
     rw [h2] at this;cases this
    refine T_le (hle_unit (B:=fz (fun _=>none)) rfl) ?_
    repeat' (first|refine d1 ?_|(show ∀ _:Nat,T _ _ _ _ _;intro _))
    exact T_meetX (⟨B,s.length,cb,s⟩,fun _=>none) ⟨by unfold nrmI;rw [if_neg h0], .inl hy⟩
  ·rintro⟨x,r⟩ ⟨hxl,hxr⟩
   dsimp only at hxl hxr ⊢
   rw [hxl] at hxr
   obtain⟨xA,xn,xcap,xl⟩:=x
   dsimp only at hxl
   subst hxl
   have hxn:xn=(nrmI k s).length∧(nrmI k s).length≤xcap:=by
    rcases hxr with h|h
    ·obtain⟨_,_,e,h9,_⟩:=h.row1
     simp only [RwI.val,Value.slice.injEq] at e
     exact⟨e.2.1,by rw [e.2.2];exact h9⟩
    ·obtain⟨_,_,e,h9,_⟩:=h.row1
     simp only [RwI.val,Value.slice.injEq] at e
     exact⟨e.2.1,by rw [e.2.2];exact h9⟩
   obtain⟨rfl,hxc⟩:=hxn
   have hnl:(nrmI k s).length≤12:=by
    unfold nrmI
    split
    ·exact Nat.le_trans (setI_len_le _ _) h12
    ·omega
   refine T_le (H':=fz r::dat (hA.map RwI.val) (hA.map fun x=>intsD x.l)::blk t12 [.slice A hA.length c] 23::row 24 1 A c hA.length (hA.map RwI.val)::blk t11 [.int .i64 (k:Nat)] 3::fz p::lrec Lp (busy r5)::K2) (Hle.refl _) ?_
   rw [show RwI.val ⟨xA,(nrmI k s).length,xcap,nrmI k s⟩ = .slice xA (nrmI k s).length xcap from rfl] at hxr ⊢
   repeat' (first|refine d1 ?_|(show ∀ _:Nat,T _ _ _ _ _;intro _))
   refine T_op (OpT.call rfl rfl rfl rfl rfl (fun w hw=>checkSplit_spec xA k (nrmI k s).length xcap (nrmI k s) w (hxr.elim (fun h=>(h.own hw).intsAt) (fun h=>(h.own hw).intsAt)) rfl (by omega) (by omega)) ?_)
   rintro u R ⟨e,he,rfl,rfl⟩
   rw [List.nil_append]
   repeat' (first|refine d1 ?_|(show ∀ _:Nat,T _ _ _ _ _;intro _))
   refine T_if rfl (fun h2=>?_) (fun h2=>?_)
   ·simp only [decide_eq_true_eq] at h2
    have hso:=he.1 h2
    rw [if_pos hso] at hffi
    have hLn:(hA++[(⟨xA,(nrmI k s).length,xcap,nrmI k s⟩:RwI)]).map RwI.l=((belT ps).take (j+1)).flatMap (ffI ps ns names):=by
     rw [List.map_append,hL,htk,List.flatMap_append,List.flatMap_singleton,hffi];rfl
    have hAl2:(hA++[(⟨xA,(nrmI k s).length,xcap,nrmI k s⟩:RwI)]).length=hA.length+1:=by simp
    repeat' (first|refine d1 ?_|(show ∀ _:Nat,T _ _ _ _ _;intro _))
    rename_i b9
    repeat' (first|refine d1 ?_|(show T _ (.ops _ (_::_)::_) _ _ _;refine T_op (OpT.append (A:=A) rfl rfl rfl rfl rfl rfl rfl rfl rfl rfl (fun w hw=>Src.own hw rfl) rfl (by dsimp only;omega) (by omega) (fun A9 c9 hA9=>?_)))|(show ∀ _:Nat,T _ _ _ _ _;intro _))
    rcases hxr with h|h
    ·refine T_next _ ⟨hA,[⟨xA,(nrmI k s).length,xcap,nrmI k s⟩],A9,c9,⟨h,hLn⟩,rfl⟩ ?_
     rw [hAl2,List.map_append]
     exact hle_pm [7,6,2,3,4,5] [_,_,_,_,_,_,_,_] K2
    ·refine T_next _ ⟨hA++[⟨xA,(nrmI k s).length,xcap,nrmI k s⟩],[],A9,c9,⟨.nil,by rw [List.append_nil];exact hLn⟩,rfl⟩ ?_
     rw [List.append_nil,hAl2]
     exact hle_ug1 (x:=⟨xA,(nrmI k s).length,xcap,nrmI k s⟩) h (by rw [List.map_append];rfl)
   ·simp only [decide_eq_false_iff_not] at h2
    rw [if_neg (fun h=>h2 (he.2 h))] at hffi
    have hLn:(hA++[]).map RwI.l=((belT ps).take (j+1)).flatMap (ffI ps ns names):=by
     rw [List.append_nil,hL,htk,List.flatMap_append,List.flatMap_singleton,hffi,List.append_nil]
    repeat' (first|refine d1 ?_|(show ∀ _:Nat,T _ _ _ _ _;intro _))
    refine T_next _ ⟨hA,[],A,c,⟨.nil,hLn⟩,rfl⟩ ?_
    rw [List.append_nil]
    exact hle_pm [6,5,1,2,3,4] [_,_,_,_,_,_,_] K2
 ·rintro D p Hn ⟨hs,hs2,A,c,⟨hrd,hL⟩,rfl⟩
  rw [List.take_length] at hL
  show T _ _ _ _ (dfr D::blk b2 [.slice An k cn] 22::blk b1 [.slice A1 n1 c1, .slice A2 n1 c2] 30::fz p::dat (hs.map RwI.val) (hs.map fun x=>intsD x.l)::blk t12 [.slice A (hs++hs2).length c] 23::row 24 1 A c (hs++hs2).length ((hs++hs2).map RwI.val)::blk t11 [.int .i64 (k:Nat)] 3::[])
  refine T_le ((hle_pm [0,3,4,5,6,7,1] [_,_,_,_,_,_,_,_] []).trans (hle_ug0 hrd)) ?_
  generalize hs++hs2=hA at hL ⊢
  have hAl:hA.length≤12:=by
   have h1:=congrArg List.length hL
   rw [List.length_map] at h1
   omega
  refine T_open fun P hP=>?_
  refine T_le (H':=row 24 1 A c hA.length (hA.map RwI.val)::fz P::blk t12 [.slice A hA.length c] 23::dfr D::[]) (hle_pm [2,0,1,5] [_,_,_,_,_,_] []) ?_
  repeat' (first|refine d1 ?_|(show ∀ _:Nat,T _ _ _ _ _;intro _))
  refine T_op (OpT.callB rfl rfl rfl rfl rfl (sortRn_spec A c hA.length hA 45 [] (fun x y=>cmpLs x.l y.l) (fun x y=>cmpLs x.l y.l≤0) w _ rfl hAl (fun w ⟨H,hw⟩ x hx y hy=>?_) (fun _ _ _=>cmpLs_trans) (fun _ _ h=>by omega) (fun a b h=>by have:=cmpLs_swap a.l b.l;omega)) ?_)
  ·have hw':=hw.le (Hle.append_right (K:=[]) H)
   exact compareL_spec _ _ _ _ w ((rd_oneC hP x hx).own hw') ((rd_oneC hP y hy).own hw')
  rintro u R ⟨ys,⟨hyp,hys⟩,rfl⟩
  have hyl:=hyp.length_eq
  have hPy:∀ x∈ys,Rd (fr P) [RwI.val x] [intsD x.l]:=fun x hx=>rd_oneC hP x (hyp.mem_iff.1 hx)
  repeat' (first|refine d1 ?_|(show ∀ _:Nat,T _ _ _ _ _;intro _))
  refine T_op (OpT.callB rfl rfl rfl rfl rfl (compactR_spec A hA.length c ys 17 [] w _ hyl (by omega) (fun w ⟨H,hw⟩ x hx y hy=>?_)) ?_)
  ·have hw':=hw.le (Hle.append_right (K:=[]) H)
   exact equalI_spec _ _ _ _ w ((hPy x hx).own hw') ((hPy y hy).own hw')
  rintro u R ⟨rfl,rfl⟩
  have hpw:ys.Pairwise (fun a b=>cmpLs a.l b.l≤0):=by
   rw [List.pairwise_iff_getElem]
   intro i j hi hj hij
   have h9:=hys i j hij (by omega)
   rw [List.getD_eq_getElem?_getD,List.getD_eq_getElem?_getD,List.getElem?_eq_getElem hi,List.getElem?_eq_getElem hj] at h9
   exact h9
  obtain⟨hasc,hmem⟩:=cpR_asc hpw
  have hof:ofOk ps ns names ((cpR ys).map RwI.l):=by
   refine ⟨hasc,fun s=>?_⟩
   rw [hmem,(hyp.map RwI.l).mem_iff,hL,List.mem_flatMap]
   constructor
   ·rintro⟨i,hi,hs⟩
    obtain⟨h1,h2⟩:=ffI_mem.1 hs
    obtain⟨h3,h4⟩:=(belT_mem hok.up hok.pos).1 hi
    exact⟨h1,i,h3,h4,h2⟩
   ·rintro⟨h1,i,h3,h4,h2⟩
    exact⟨i,(belT_mem hok.up hok.pos).2 ⟨h3,h4⟩,ffI_mem.2 ⟨h1,h2⟩⟩
  have hPc:Rd (fr P) ((cpR ys).map RwI.val) ((cpR ys).map fun x=>intsD x.l):=rd_allR fun x hx=>hPy x (cpR_sub hx)
  repeat' (first|refine d1 ?_|(show ∀ _:Nat,T _ _ _ _ _;intro _))
  exact T_retD (H':=[dat [.slice A (cpR ys).length c] [rowsD ((cpR ys).map RwI.l)]]) (hle_ug2 hPc) (rf_V (vs:=[.slice A (cpR ys).length c, .int .i64 0]) _ rfl (Hle.refl _) ⟨_,_,hof,rfl,rfl⟩)
end Go.Proofs.YtabhdaehomjlgaaGreat
namespace Go.Proofs.YtabhdaehomjlgaaGreat
open Go.RowKit Go.Shelf Go.Proofs
set_option maxRecDepth 100000
set_option maxHeartbeats 2000000

theorem rd_intsU {w:World} {A:Option Addr} {n c:Nat} {r:List Int} (h:Src w 1 A n (r.map (Value.int .i64))) (hn:n≤c) (hc:c≤9223372036854775807):Rd (wr w) [.slice A n c] [intsD r]:=by
 have:=h.rdD hn hc (Rd.vals _)
 rw [List.map_map] at this
 exact this
end Go.Proofs.YtabhdaehomjlgaaGreat
namespace Go.Proofs.YtabhdaehomjlgaaGreat
open Go.RowKit Go.Shelf Go.Proofs
set_option maxRecDepth 100000
set_option maxHeartbeats 1000000

theorem siglum_size {s:ByteArray} (h:siglum22 s=true):s.size≤1000:=by
 unfold siglum22 at h
 split at h
 ·simp only [Bool.and_eq_true,decide_eq_true_eq] at h;omega
 ·unfold isNameB at h
  simp only [Bool.and_eq_true,decide_eq_true_eq] at h;omega
theorem tOk.sizes {ps:List Int} {ns:List ByteArray} (h:tOk ps ns):∀ s∈ns,s.size≤1000000:=fun s hs=>by
 obtain⟨i,hi⟩:=List.mem_iff_getElem?.1 hs
 have hil:=(List.getElem?_eq_some_iff.1 hi).1
 have hd:ns.getD i ByteArray.empty=s:=by rw [List.getD_eq_getElem?_getD,hi];rfl
 by_cases h0:kdsI ps i ps.length=[]
 ·have:=siglum_size (h.lf i (by rw [← h.len];exact hil) h0).1
  rw [hd] at this;omega
 ·have:=h.inn i (by rw [← h.len];exact hil) h0
  rw [hd] at this
  rw [this]
  exact Nat.zero_le _
theorem OpT.callE2 {C:Cx} {all:Array Oper} {o:Oper} {env:Env} {ec:EnvC} {H:List HA} {d:Nat} {f:FuncId} {args:List Value} {Φ:Env→EnvC→List HA→Prop} {α:Type} {p:α→Prop} {val:α→Value} {o1 o2:α→HA} (hg:gOf all env ec o=some []) (he:evCall env ec [] o=some (f,args)) (hd:o.dst=some d) (hN:Nat.blt d C.N.n=true) (hs:safeC all d ec=true)
  (hc:∀ w,Cls C.w0 w H→Spec C.S.P f args w (fun u A=>∃ x,p x∧u=val x∧A=[o1 x,o2 x])) (h:∀ x,p x→Φ ((d,val x)::env) ec (o1 x::o2 x::H)):OpT C all o env ec H Φ :=
 OpT.call hg he hd hN hs hc (by rintro u A ⟨x,hp,rfl,rfl⟩;exact h x hp)
theorem SpecB.le {P:Program} {f:FuncId} {args:List Value} {w0:World} {H H':List HA} {Φ:Value→List HA→Prop} (hl:Hle H H') (h:SpecB P f args w0 H' Φ):SpecB P f args w0 H Φ:=⟨h.enters,fun w hw=>h.calls w (hw.le hl)⟩
end Go.Proofs.YtabhdaehomjlgaaGreat
namespace Go.Proofs.YtabhdaehomjlgaaGreat
open Go.RowKit Go.Shelf Go.Proofs
set_option maxRecDepth 100000
set_option maxHeartbeats 2000000

def cnT (ps:List Int) (ns:List ByteArray):Nd:=srtN (ndOf ps ns)
def cps (ps:List Int) (ns:List ByteArray):List Int:=prsN (-1) 0 (cnT ps ns)
def cns (ps:List Int) (ns:List ByteArray):List ByteArray:=nmP (cnT ps ns)
theorem cnT_len {ps:List Int} {ns:List ByteArray} (h:tOk ps ns):cntN (cnT ps ns)=ps.length:=by
 unfold cnT;rw [cntN_srt,cntN_ndOf h.up h.pos]
theorem cps_len {ps:List Int} {ns:List ByteArray} (h:tOk ps ns):(cps ps ns).length=ps.length:=by unfold cps;rw [prsN_len,cnT_len h]
theorem cns_len {ps:List Int} {ns:List ByteArray} (h:tOk ps ns):(cns ps ns).length=ps.length:=by unfold cns;rw [nmP_len,cnT_len h]
theorem cnT_ok {ps:List Int} {ns:List ByteArray} (h:tOk ps ns):tOk (cps ps ns) (cns ps ns):=by
 have hp:(nmsN (cnT ps ns)).Perm (nmsN (ndOf ps ns)):=srtN_nms _
 refine tOk_back (by rw [cnT_len h];exact h.n64) (innE_srt _ (innE_ndF h.up h.inn _ 0 h.pos)) (fun a ha=>?_) (hp.nodup_iff.2 (nms_nodup h))
 obtain⟨i,hi,rfl⟩:=List.mem_map.1 ((nms_ndOf h).mem_iff.1 (hp.mem_iff.1 ha))
 have hil:=(lfI_mem.1 hi).1
 rw [h.len] at hil
 exact (h.lf i hil ((h.leaf hil).2 hi)).1
theorem canonical_spec (A1 A2:Option Addr) (n1 c1 n2 c2:Nat) (ps:List Int) (ns:List ByteArray) (w:World) (ht:TrA w A1 n1 c1 A2 n2 c2 ps ns) (hok:tOk ps ns) (h12:(lfI ns).length≤12) :
  Spec Tryz.prog 58 [.agg #[.slice A1 n1 c1, .slice A2 n2 c2]] w (fun v R=>∃ s:(Option Addr × Nat) × (Option Addr × Nat),(ps.length≤s.1.2∧ps.length≤s.2.2) ∧
   v = .agg #[.slice s.1.1 ps.length s.1.2, .slice s.2.1 ps.length s.2.2] ∧
   R=[row 3 1 s.1.1 s.1.2 ps.length ((cps ps ns).map (Value.int .i64)),row 9 1 s.2.1 s.2.2 ps.length ((cns ps ns).map Value.string)]):=by
 have hl1:=ht.l1
 have hl2:=ht.l2
 have hlen:=hok.len
 have hpos:=hok.pos
 have h64:=hok.n64
 obtain rfl:n1=n2:=by omega
 refine spec_of sg Tryz.func58 rfl rfl rfl ?_
 repeat' (first|(show T _ (.ops _ (⟨_, .box _ _,_,_,_,_⟩::_)::_) _ _ _;refine T_op (OpT.box (cs:=[.slice A1 n1 c1, .slice A2 n1 c2]) rfl rfl rfl rfl rfl rfl rfl (fun _=>?_)))|refine d1 ?_|(show ∀ _:Nat,T _ _ _ _ _;intro _))
 rename_i t1 t2
 refine T_op (OpT.call rfl rfl rfl rfl rfl (fun w hw=>nodes_spec A1 A2 n1 c1 c2 ps ns w (src_below ht.s1 hw.below) (src_below ht.s2 hw.below) hl1 hl2 (by omega) (by omega) hok.up) ?_)
 rintro u R ⟨⟨b3,bs,x⟩,⟨hbl,hb0,hxe⟩,rfl,rfl⟩
 dsimp only at hbl hb0 hxe ⊢
 rw [List.cons_append,List.cons_append,List.nil_append]
 have hc0:(bs.map ptrV)[0+((0:Nat):Int).toNat * 1]?=some (lnV x):=by
  show (bs.map ptrV)[0]?=_
  rw [List.getElem?_map,hb0];rfl
 repeat' (first|refine d1 ?_|(show T _ (.ops _ (_::_)::_) _ _ _;first|refine T_val rfl (Val.load rfl (fun hg=>rdOwn1 (b:=b3) hc0)) rfl rfl rfl ?_|refine T_valC rfl (Val.load rfl (fun hg=>rdOwn1 (b:=b3) hc0)) rfl rfl rfl rfl rfl ?_)|(show T _ (.run _ _ (_::_) _ _::_) _ _ _;first|refine rv rfl rfl rfl (Val.load rfl (fun hg=>rdOwn1 (b:=b3) hc0)) rfl rfl rfl ?_|refine rg rfl rfl rfl (Val.load rfl (fun hg=>rdOwn1 (b:=b3) hc0)) rfl rfl rfl rfl rfl ?_)|(show ∀ _:Nat,T _ _ _ _ _;intro _))
 have hsx:=szN_er x
 have hcx:=cntN_ndOf (ns:=ns) hok.up hpos
 rw [hxe,hcx] at hsx
 have hnx:=nms_ndOf hok
 have hxl:=hnx.length_eq
 rw [List.length_map] at hxl
 refine T_le hle_swap ?_
 refine T_op (OpT.callB rfl rfl rfl rfl rfl (sorted_spec 100000 x w _ (by omega) (Nat.le_refl _) (by rw [hxe];exact nms_nodup hok) (by rw [hxe];omega)) ?_)
 rintro u R ⟨z,hz,hzb,rfl,rfl⟩
 rw [show lnV x=lnV z by unfold lnV;rw [hzb]]
 have hez:er z=cnT ps ns:=by rw [hz,hxe];rfl
 have hcz:=cnT_len hok
 have hsz2:=szN_er z
 rw [hez,hcz] at hsz2
 repeat' (first|refine d1 ?_|(show ∀ _:Nat,T _ _ _ _ _;intro _))
 refine T_op (OpT.callB rfl rfl rfl rfl rfl (tree_spec z w _ (by omega) (by rw [hez,hcz];omega)) ?_)
 rintro u R ⟨⟨⟨B1,d1'⟩,⟨B2,d2'⟩⟩,-,rfl,rfl⟩
 dsimp only
 rw [hez,hcz]
 refine T_le (H':=[row 3 1 B1 d1' ps.length ((cps ps ns).map (Value.int .i64)),row 9 1 B2 d2' ps.length ((cns ps ns).map Value.string),blk t2 [.slice none 0 0, .slice none 0 0] 30]) (hle_pm [1,2,4] [_,_,_,_,_,_] []) ?_
 refine T_rowCap fun hcap1=>?_
 refine T_le (H':=[row 9 1 B2 d2' ps.length ((cns ps ns).map Value.string),row 3 1 B1 d1' ps.length ((cps ps ns).map (Value.int .i64)),blk t2 [.slice none 0 0, .slice none 0 0] 30]) (hle_pm [1,0,2] [_,_,_] []) ?_
 refine T_rowCap fun hcap2=>?_
 repeat' (first|refine d1 ?_|(show ∀ _:Nat,T _ _ _ _ _;intro _))
 refine T_le (H':=[blk t2 [.slice B1 ps.length d1', .slice B2 ps.length d2'] 30,row 3 1 B1 d1' ps.length ((cps ps ns).map (Value.int .i64)),row 9 1 B2 d2' ps.length ((cns ps ns).map Value.string)]) (hle_pm [2,1,0] [_,_,_] []) ?_
 exact T_retM (vs:=[.agg #[.slice B1 ps.length d1', .slice B2 ps.length d2']]) _ ⟨⟨t2,_,[.slice B1 ps.length d1', .slice B2 ps.length d2'],rfl,rfl,rfl,rfl,(fun h=>by cases h),rfl,rdAll⟩,trivial⟩ (Hle.tail _ _) ⟨((B1,d1'),(B2,d2')),⟨hcap1.1,hcap2.1⟩,rfl,rfl⟩
theorem canonicalE_spec (A1 A2:Option Addr) (n1 c1 n2 c2:Nat) (ps:List Int) (ns:List ByteArray) (w:World) (ht:TrA w A1 n1 c1 A2 n2 c2 ps ns) (hok:tOk ps ns) (h12:(lfI ns).length≤12) :
  Spec Tryz.prog 40 [.agg #[.slice A1 n1 c1, .slice A2 n2 c2]] w (fun v R=>∃ s:(Option Addr × Nat) × (Option Addr × Nat),(ps.length≤s.1.2∧ps.length≤s.2.2) ∧
   v = .tuple #[.agg #[.slice s.1.1 ps.length s.1.2, .slice s.2.1 ps.length s.2.2], .int .i64 0] ∧
   R=[row 3 1 s.1.1 s.1.2 ps.length ((cps ps ns).map (Value.int .i64)),row 9 1 s.2.1 s.2.2 ps.length ((cns ps ns).map Value.string)]):=by
 refine spec_of sg Tryz.func40 rfl rfl rfl ?_
 repeat' (first|(show T _ (.ops _ (⟨_, .box _ _,_,_,_,_⟩::_)::_) _ _ _;refine T_op (OpT.box (cs:=[.slice A1 n1 c1, .slice A2 n2 c2]) rfl rfl rfl rfl rfl rfl rfl (fun _=>?_)))|refine d1 ?_|(show ∀ _:Nat,T _ _ _ _ _;intro _))
 rename_i t1 t2
 refine T_op (OpT.call rfl rfl rfl rfl rfl (fun w hw=>checkTree_spec A1 A2 n1 c1 n2 c2 ps ns w (ht.cls hw)) ?_)
 rintro u R ⟨e,he,rfl,rfl⟩
 rw [List.nil_append]
 obtain rfl:e=0:=he.2 hok
 repeat' (first|refine d1 ?_|(show ∀ _:Nat,T _ _ _ _ _;intro _))
 refine T_if rfl (fun h=>by exfalso;simp at h) (fun _=>?_)
 repeat' (first|refine d1 ?_|(show ∀ _:Nat,T _ _ _ _ _;intro _))
 refine T_op (OpT.call rfl rfl rfl rfl rfl (fun w hw=>canonical_spec A1 A2 n1 c1 n2 c2 ps ns w (ht.cls hw) hok h12) ?_)
 rintro u R ⟨⟨⟨B1,d1'⟩,⟨B2,d2'⟩⟩,⟨hc1,hc2⟩,rfl,rfl⟩
 dsimp only at hc1 hc2 ⊢
 refine T_le (H':=[row 3 1 B1 d1' ps.length ((cps ps ns).map (Value.int .i64)),row 9 1 B2 d2' ps.length ((cns ps ns).map Value.string),blk t2 [.slice none 0 0, .slice none 0 0] 30]) (hle_pm [0,1,2] [_,_,_,_] []) ?_
 repeat' (first|refine d1 ?_|(show ∀ _:Nat,T _ _ _ _ _;intro _))
 refine T_le (H':=[blk t2 [.slice B1 ps.length d1', .slice B2 ps.length d2'] 30,row 3 1 B1 d1' ps.length ((cps ps ns).map (Value.int .i64)),row 9 1 B2 d2' ps.length ((cns ps ns).map Value.string)]) (hle_pm [2,0,1] [_,_,_] []) ?_
 exact T_retM (vs:=[.agg #[.slice B1 ps.length d1', .slice B2 ps.length d2'], .int .i64 0]) _ ⟨⟨t2,_,[.slice B1 ps.length d1', .slice B2 ps.length d2'],rfl,rfl,rfl,rfl,(fun h=>by cases h),rfl,rdAll⟩,rfl,trivial⟩ (Hle.tail _ _) ⟨((B1,d1'),(B2,d2')),⟨hc1,hc2⟩,rfl,rfl⟩
end Go.Proofs.YtabhdaehomjlgaaGreat
namespace Go.Proofs.YtabhdaehomjlgaaGreat
open Go.RowKit Go.Shelf
set_option maxRecDepth 100000

mutual
def sbt:Nd→List Nd
 | .mk a o ks => .mk a o ks::sbtL ks
def sbtL:List Nd→List Nd
 | []=>[]
 | k::r=>sbt k++sbtL r
end
theorem sbtL_flat:∀ ks,sbtL ks=ks.flatMap sbt
 | []=>rfl
 | k::r=>by rw [sbtL,sbtL_flat r];rfl
theorem sbt_mk (a:ByteArray) (o:Int) (ks:List Nd):sbt (.mk a o ks) = .mk a o ks::ks.flatMap sbt:=by rw [sbt,sbtL_flat]
def psb (x:Nd):List Nd:=(ndKs x).flatMap sbt
theorem sbt_psb (x:Nd):sbt x=x::psb x:=by obtain⟨a,o,ks⟩:=x;exact sbt_mk a o ks
theorem sbt_ndT {ps:List Int} {ns:List ByteArray} (h:upT ps):∀ (m i:Nat),ps.length≤m+i→∀ z,(z∈sbt (ndT ps ns i)↔∃ j∈pstT ps i,z=ndT ps ns j)
 | 0,i,hm,z=>by
  have h0:=kdsI_end h (i:=i) (by omega)
  rw [ndT_eq h,h0,sbt_mk,pstT_eq h,h0]
  simp only [List.map_nil,List.flatMap_nil,List.mem_singleton,List.nil_append]
  constructor
  ·intro e;exact⟨i,rfl,by rw [e,ndT_eq h,h0];rfl⟩
  ·rintro⟨j,rfl,e⟩;rw [e,ndT_eq h,h0];rfl
 | m+1,i,hm,z=>by
  have ih:=sbt_ndT (ns:=ns) h m
  rw [pstT_eq h]
  conv=>lhs;rw [ndT_eq h,sbt_mk,List.mem_cons, ← ndT_eq h]
  rw [List.flatMap_map,List.mem_flatMap]
  constructor
  ·rintro (e|⟨k,hk,hz⟩)
   ·exact⟨i,List.mem_append_right _ (.head _),e⟩
   ·have hk2:=h.gt (Nat.le_refl _) hk
    obtain⟨j,hj,e⟩:=(ih k (by omega) z).1 hz
    exact⟨j,List.mem_append_left _ (List.mem_flatMap.2 ⟨k,hk,hj⟩),e⟩
  ·rintro⟨j,hj,e⟩
   rcases List.mem_append.1 hj with hj|hj
   ·obtain⟨k,hk,hj⟩:=List.mem_flatMap.1 hj
    have hk2:=h.gt (Nat.le_refl _) hk
    exact .inr ⟨k,hk,(ih k (by omega) z).2 ⟨j,hj,e⟩⟩
   ·rw [List.mem_singleton] at hj
    subst hj
    exact .inl e
theorem psb_ndOf {ps:List Int} {ns:List ByteArray} (h:upT ps) (h0:0<ps.length) {z:Nd}:z∈psb (ndOf ps ns)↔∃ i,0<i∧i<ps.length∧z=ndT ps ns i:=by
 rw [show ndOf ps ns=ndT ps ns 0 from rfl,ndT_eq h]
 unfold psb ndKs
 rw [List.flatMap_map,List.mem_flatMap]
 constructor
 ·rintro⟨k,hk,hz⟩
  obtain⟨j,hj,e⟩:=(sbt_ndT h ps.length k (by omega) z).1 hz
  have:=(belT_mem h h0).1 (List.mem_flatMap.2 ⟨k,hk,hj⟩)
  exact⟨j,this.1,this.2,e⟩
 ·rintro⟨j,h1,h2,e⟩
  obtain⟨k,hk,hj⟩:=List.mem_flatMap.1 ((belT_mem h h0).2 ⟨h1,h2⟩)
  exact⟨k,hk,(sbt_ndT h ps.length k (by omega) z).2 ⟨j,hj,e⟩⟩
theorem sbt_noO (x:Nd):sbt (noO x)=(sbt x).map noO:=by
 refine nd_ind (p:=fun x=>sbt (noO x)=(sbt x).map noO) (fun a o ks ih=>?_) x
 rw [noO_mk,sbt_mk,sbt_mk,List.map_cons,noO_mk,List.flatMap_map,List.map_flatMap]
 congr 1
 exact flatMap_congr' ih
theorem psb_noO (x:Nd):psb (noO x)=(psb x).map noO:=by
 have h:=sbt_noO x
 rw [sbt_psb,sbt_psb,List.map_cons] at h
 exact (List.cons.inj h).2
theorem sbt_srt (x:Nd):∀ z,(z∈sbt (srtN x)↔∃ y∈sbt x,z=srtN y):=by
 refine nd_ind (p:=fun x=>∀ z,(z∈sbt (srtN x)↔∃ y∈sbt x,z=srtN y)) (fun a o ks ih=>?_) x
 intro z
 rw [srtN_mk,sbt_mk,sbt_mk,List.mem_cons, ← srtN_mk,List.mem_flatMap]
 constructor
 ·rintro (e|⟨k,hk,hz⟩)
  ·exact⟨_, .head _,e⟩
  ·obtain⟨y,hy,rfl⟩:=List.mem_map.1 ((sortK_perm _).mem_iff.1 hk)
   obtain⟨u,hu,e⟩:=(ih y hy z).1 hz
   exact⟨u, .tail _ (List.mem_flatMap.2 ⟨y,hy,hu⟩),e⟩
 ·rintro⟨y,hy,e⟩
  rcases List.mem_cons.1 hy with h|h
  ·exact .inl (by rw [e,h])
  ·obtain⟨k,hk,hy⟩:=List.mem_flatMap.1 h
   exact .inr ⟨srtN k,(sortK_perm _).mem_iff.2 (List.mem_map_of_mem hk),(ih k hk z).2 ⟨y,hy,e⟩⟩
theorem psb_srt (x:Nd) (z:Nd):z∈psb (srtN x)↔∃ y∈psb x,z=srtN y:=by
 obtain⟨a,o,ks⟩:=x
 rw [srtN_mk]
 unfold psb ndKs
 rw [List.mem_flatMap]
 constructor
 ·rintro⟨k,hk,hz⟩
  obtain⟨y,hy,rfl⟩:=List.mem_map.1 ((sortK_perm _).mem_iff.1 hk)
  obtain⟨u,hu,e⟩:=(sbt_srt y z).1 hz
  exact⟨u,List.mem_flatMap.2 ⟨y,hy,hu⟩,e⟩
 ·rintro⟨y,hy,e⟩
  obtain⟨k,hk,hy⟩:=List.mem_flatMap.1 hy
  exact⟨srtN k,(sortK_perm _).mem_iff.2 (List.mem_map_of_mem hk),(sbt_srt k z).2 ⟨y,hy,e⟩⟩
def setsN (names:List ByteArray) (x:Nd):List (List Int):=(psb x).map (plS names)
theorem plS_noO (names:List ByteArray) (x:Nd):plS names (noO x)=plS names x:=by unfold plS;rw [noO_nms]
theorem plS_srt (names:List ByteArray) (x:Nd):plS names (srtN x)=plS names x:=plS_perm (srtN_nms x)
theorem setsN_noO (names:List ByteArray) (x:Nd):setsN names (noO x)=setsN names x:=by
 unfold setsN
 rw [psb_noO,List.map_map]
 exact List.map_congr_left fun y _=>plS_noO names y
theorem setsN_srt (names:List ByteArray) (x:Nd) (s:List Int):s∈setsN names (srtN x)↔s∈setsN names x:=by
 unfold setsN
 rw [List.mem_map,List.mem_map]
 constructor
 ·rintro⟨z,hz,rfl⟩
  obtain⟨y,hy,rfl⟩:=(psb_srt x z).1 hz
  exact⟨y,hy,(plS_srt names y).symm⟩
 ·rintro⟨y,hy,rfl⟩
  exact⟨srtN y,(psb_srt x _).2 ⟨y,hy,rfl⟩,plS_srt names y⟩
theorem setsN_ndOf {ps:List Int} {ns:List ByteArray} (h:upT ps) (h0:0<ps.length) (names:List ByteArray) (s:List Int):s∈setsN names (ndOf ps ns)↔∃ i,0<i∧i<ps.length∧s=plS names (ndT ps ns i):=by
 unfold setsN
 rw [List.mem_map]
 constructor
 ·rintro⟨z,hz,rfl⟩
  obtain⟨i,h1,h2,rfl⟩:=(psb_ndOf h h0).1 hz
  exact⟨i,h1,h2,rfl⟩
 ·rintro⟨i,h1,h2,rfl⟩
  exact⟨_,(psb_ndOf h h0).2 ⟨i,h1,h2,rfl⟩,rfl⟩
theorem setsN_back (names:List ByteArray) (x:Nd):setsN names (ndOf (prsN (-1) 0 x) (nmP x))=setsN names x:=by
 rw [← setsN_noO,ndOf_back,setsN_noO]
theorem setsN_cn (names:List ByteArray) (ps:List Int) (ns:List ByteArray) (s:List Int):s∈setsN names (ndOf (cps ps ns) (cns ps ns))↔s∈setsN names (ndOf ps ns):=by
 unfold cps cns
 rw [setsN_back]
 exact setsN_srt names _ s
theorem ofOk_sets {ps:List Int} {ns names:List ByteArray} {L:List (List Int)} (h:ofOk ps ns names L) (hup:upT ps) (h0:0<ps.length) (s:List Int):s∈L↔splOk names.length s∧∃ t∈setsN names (ndOf ps ns),s=nrmI names.length t:=by
 rw [h.mem]
 refine and_congr Iff.rfl ?_
 constructor
 ·rintro⟨i,h1,h2,e⟩
  exact⟨_,(setsN_ndOf hup h0 names _).2 ⟨i,h1,h2,rfl⟩,e⟩
 ·rintro⟨t,ht,e⟩
  obtain⟨i,h1,h2,rfl⟩:=(setsN_ndOf hup h0 names _).1 ht
  exact⟨i,h1,h2,e⟩
end Go.Proofs.YtabhdaehomjlgaaGreat
namespace Go.Proofs.YtabhdaehomjlgaaGreat
open Go.RowKit Go.Shelf
set_option maxRecDepth 100000

def mskL (l:List Int):Nat:=l.foldl (fun m s=>m ||| 1 <<< s.toNat) 0
theorem shl_bit (s i:Nat):(1 <<< s).testBit i=decide (i=s):=by
 rw [Nat.one_shiftLeft,Nat.testBit_two_pow]
 rw [decide_eq_decide];exact eq_comm
theorem foldl_bit (l:List Int) (m i:Nat):(l.foldl (fun m s=>m ||| 1 <<< s.toNat) m).testBit i=(m.testBit i || l.any fun s=>decide (s.toNat=i)):=by
 induction l generalizing m with
 | nil=>simp
 | cons s l ih =>
  rw [List.foldl_cons,ih,Nat.testBit_or,shl_bit,List.any_cons,Bool.or_assoc]
  congr 2
  rw [decide_eq_decide];exact eq_comm
theorem mskL_bit (l:List Int) (i:Nat):(mskL l).testBit i=l.any fun s=>decide (s.toNat=i):=by
 unfold mskL
 rw [foldl_bit,Nat.zero_testBit,Bool.false_or]
theorem mskL_has {l:List Int} (h:∀ z∈l,0≤z) (i:Nat):(mskL l).testBit i=decide ((i:Int)∈l):=by
 rw [mskL_bit,Bool.eq_iff_iff,List.any_eq_true,decide_eq_true_eq]
 constructor
 ·rintro⟨s,hs,he⟩
  have h1:=h s hs
  have h2:s.toNat=i:=of_decide_eq_true he
  rw [show (i:Int)=s by omega];exact hs
 ·intro hi
  exact⟨(i:Int),hi,decide_eq_true (Int.toNat_natCast i)⟩
theorem lt_pow_bit {a n:Nat} (h:∀ i,a.testBit i=true→i<n):a<2 ^ n:=by
 refine Nat.lt_pow_two_of_testBit a fun i hi=>?_
 cases hb:a.testBit i with
 | false=>rfl
 | true=>have:=h i hb;omega
theorem mskL_lt {l:List Int} {n:Nat} (h:∀ z∈l,0≤z∧z<n):mskL l<2 ^ n:=by
 refine lt_pow_bit fun i hi=>?_
 rw [mskL_has fun z hz=>(h z hz).1,decide_eq_true_eq] at hi
 have:=h _ hi
 omega
def inB (a b:Nat):Bool:=decide (ndN a b=0)
def cflB (a b:Nat):Bool:=decide (a &&& b≠0) && (!inB a b && !inB b a)
end Go.Proofs.YtabhdaehomjlgaaGreat
namespace Go.Proofs.YtabhdaehomjlgaaGreat
open Go.RowKit Go.Shelf
set_option maxRecDepth 100000

def bitsN (n a:Nat):List Nat:=(List.range n).filter a.testBit
def kidB (inner:List Nat) (x y:Nat):Bool := !(decide (y=x) || !inB y x || inner.any fun z=>decide (z≠x) && (decide (z≠y) && (inB z x && inB y z)))
def kidsG (inner:List Nat) (x:Nat):List Nat:=inner.filter (kidB inner x)
def leftG (inner:List Nat) (x:Nat):Nat:=(kidsG inner x).foldl ndN x
def grT (names:List ByteArray) (inner:List Nat):Nat→Nat→Nd
 | 0,_ => .mk ByteArray.empty 0 []
 | f+1,x => .mk ByteArray.empty 0 ((kidsG inner x).map (grT names inner f)++(bitsN names.length (leftG inner x)).map fun s => .mk (names.getD s ByteArray.empty) 0 [])
structure lamB (inner:List Nat):Prop where
 nd:inner.Nodup
 lam:∀ y∈inner,∀ z∈inner,cflB y z=false
section
variable {names:List ByteArray} {inner:List Nat}
end
end Go.Proofs.YtabhdaehomjlgaaGreat
namespace Go.Proofs.YtabhdaehomjlgaaGreat
open Go.RowKit Go.Shelf
set_option maxRecDepth 100000

end Go.Proofs.YtabhdaehomjlgaaGreat
namespace Go.Proofs.YtabhdaehomjlgaaGreat
open Go.RowKit Go.Shelf
set_option maxRecDepth 100000

def innB (all:Nat) (acc:List Nat) (l:List Int):Bool:=decide (1<l.length) && (decide (mskL l≠all) && !decide (mskL l∈acc))
def innS (all:Nat) (acc:List Nat) (l:List Int):List Nat:=if innB all acc l then acc++[mskL l] else acc
def innL (all:Nat) (ls:List (List Int)):List Nat:=ls.foldl (innS all) []
end Go.Proofs.YtabhdaehomjlgaaGreat
namespace Go.Proofs.YtabhdaehomjlgaaGreat
open Go.RowKit Go.Shelf
set_option maxRecDepth 100000

section
variable {ps:List Int} {ns names:List ByteArray}
end
end Go.Proofs.YtabhdaehomjlgaaGreat
namespace Go.Proofs.YtabhdaehomjlgaaGreat
open Go.RowKit Go.Shelf Go.Proofs
set_option maxRecDepth 100000
set_option maxHeartbeats 2000000

structure GrE where
 u:Int
 st:Int
 x:RwI
abbrev GrE.cells (g:GrE):List Value:=[.int .i64 g.u, .int .i64 g.st, .slice g.x.A g.x.n g.x.cap]
abbrev GrE.val (g:GrE):Value := .agg #[.int .i64 g.u, .int .i64 g.st, .slice g.x.A g.x.n g.x.cap]
structure GrR (w:World) (A:Option Addr) (n:Nat) (gs:List GrE):Prop where
 s:Src w 3 A n (gs.flatMap GrE.cells)
 len:gs.length=n
 n12:n≤300
 rd:∀ g∈gs,Src w 1 g.x.A g.x.n (g.x.l.map (Value.int .i64))∧g.x.l.length=g.x.n∧g.x.n≤1000
theorem GrR.cls {w0 w:World} {H:List HA} {A:Option Addr} {n:Nat} {gs:List GrE} (h:GrR w0 A n gs) (hw:Cls w0 w H):GrR w A n gs :=
 ⟨src_below h.s hw.below,h.len,h.n12,fun g hg=>⟨src_below (h.rd g hg).1 hw.below,(h.rd g hg).2⟩⟩
theorem flatG_get {α:Type} {cells:α→List Value} {sz:Nat} (h:∀ t,(cells t).length=sz):∀ {l:List α} {k:Nat} {x:α},l[k]?=some x→∀ (j:Nat) u,(cells x)[j]?=some u→(l.flatMap cells)[k * sz+j]?=some u
 | [],_,_,hx,_,_,_=>by simp at hx
 | y::l,0,x,hx,j,u,hu=>by
  simp at hx
  subst hx
  rw [List.flatMap_cons,Nat.zero_mul,Nat.zero_add,List.getElem?_append_left (List.getElem?_eq_some_iff.1 hu).1]
  exact hu
 | y::l,k+1,x,hx,j,u,hu=>by
  rw [List.flatMap_cons,List.getElem?_append_right (by rw [h y,Nat.add_mul];omega),h y,show (k+1) * sz+j - sz=k * sz+j by rw [Nat.add_mul];omega]
  exact flatG_get h (by simpa using hx) j u hu
theorem GrR.at {w:World} {b o n:Nat} {gs:List GrE} (h:GrR w (some ⟨b,o,none⟩) n gs) {k:Nat} {g:GrE} (hk:gs[k]?=some g):RdC w b (o+(k:Int).toNat * 3) g.cells:=by
 have hkl:=(List.getElem?_eq_some_iff.1 hk).1
 have hl:=h.len
 obtain⟨-,h2⟩:=h.s.2 (by omega)
 intro j u hu
 have h3:=h2 (k * 3+j) u (flatG_get (cells:=GrE.cells) (sz:=3) (fun _=>rfl) hk j u hu)
 rw [Int.toNat_natCast,Nat.add_assoc]
 exact h3
structure srcOk (l:List Int):Prop where
 asc:l.Pairwise (· < ·)
 bd:∀ z∈l,0≤z∧z<32
 pos:0<l.length
instance (l:List Int):Decidable (srcOk l):=decidable_of_iff (l.Pairwise (· < ·)∧(∀ z∈l,0≤z∧z<32)∧0<l.length) ⟨fun⟨a,b,c⟩=>⟨a,b,c⟩,fun⟨a,b,c⟩=>⟨a,b,c⟩⟩
structure grOk (g:GrE):Prop where
 u:0≤g.u
 st:0≤g.st∧g.st<16
 src:srcOk g.x.l
end Go.Proofs.YtabhdaehomjlgaaGreat
namespace Go.Proofs.YtabhdaehomjlgaaGreat
open Go.RowKit Go.Shelf Go.Proofs
set_option maxRecDepth 100000
set_option maxHeartbeats 2000000

theorem grOk.lt {g:GrE} (h:grOk g):mskL g.x.l<4294967296:=mskL_lt (n:=32) h.src.bd
theorem GrR.at2 {w:World} {b o n:Nat} {gs:List GrE} (h:GrR w (some ⟨b,o,none⟩) n gs) {k:Nat} {g:GrE} (hk:gs[k]?=some g):RdC w b (o+(k:Int).toNat * 3+2) [.slice g.x.A g.x.n g.x.cap]:=(h.at hk).at (i:=2) rfl
end Go.Proofs.YtabhdaehomjlgaaGreat
namespace Go.Proofs.YtabhdaehomjlgaaGreat
open Go.RowKit Go.Shelf Go.Proofs
set_option maxRecDepth 100000
set_option maxHeartbeats 2000000

end Go.Proofs.YtabhdaehomjlgaaGreat
namespace Go.Proofs.YtabhdaehomjlgaaGreat
open Go.RowKit Go.Shelf Go.Proofs
set_option maxRecDepth 100000
set_option maxHeartbeats 4000000

theorem row1f {xs:List Value} {j:Nat} {v:Value} (h:xs[j]?=some v):∀ i u,[v][i]?=some u→xs[0+(j:Int).toNat * 1+i]?=some u:=by
 intro i u hu
 cases i with
 | zero=>simp at hu;subst hu;rw [show 0+(j:Int).toNat * 1+0=j by omega];exact h
 | succ i=>simp at hu
end Go.Proofs.YtabhdaehomjlgaaGreat
namespace Go.Proofs.YtabhdaehomjlgaaGreat
open Go.RowKit Go.Shelf Go.Proofs
set_option maxRecDepth 100000
set_option maxHeartbeats 4000000

def lsG (gs:List GrE):List (List Int):=gs.map fun g=>g.x.l
def ownT (names:List ByteArray) (gs:List GrE):Nd:=grT names (innL (2 ^ names.length - 1) (lsG gs)) (2 ^ names.length) (2 ^ names.length - 1)
abbrev ownP (names:List ByteArray) (gs:List GrE):List Int:=prsN (-1) 0 (ownT names gs)
abbrev ownN (names:List ByteArray) (gs:List GrE):List ByteArray:=nmP (ownT names gs)
end Go.Proofs.YtabhdaehomjlgaaGreat
namespace Go.Proofs.YtabhdaehomjlgaaGreat
open Go.RowKit Go.Shelf Go.Proofs
set_option maxRecDepth 100000
set_option maxHeartbeats 4000000

end Go.Proofs.YtabhdaehomjlgaaGreat
namespace Go.Proofs.YtabhdaehomjlgaaGreat
open Go.RowKit Go.Shelf Go.Proofs
set_option maxRecDepth 100000
set_option maxHeartbeats 4000000

structure GrS (w:World) (A:Option Addr) (n:Nat) (gs:List GrE):Prop where
 s:Src w 3 A n (gs.flatMap GrE.cells)
 len:gs.length=n
 nb:n≤9223372036854775807
 rd:∀ g∈gs,Src w 1 g.x.A g.x.n (g.x.l.map (Value.int .i64))∧g.x.l.length=g.x.n∧g.x.n≤9223372036854775807
theorem GrS.cls {w0 w:World} {H:List HA} {A:Option Addr} {n:Nat} {gs:List GrE} (h:GrS w0 A n gs) (hw:Cls w0 w H):GrS w A n gs :=
 ⟨src_below h.s hw.below,h.len,h.nb,fun g hg=>⟨src_below (h.rd g hg).1 hw.below,(h.rd g hg).2⟩⟩
theorem GrS.at2 {w:World} {b o n:Nat} {gs:List GrE} (h:GrS w (some ⟨b,o,none⟩) n gs) {k:Nat} {g:GrE} (hk:gs[k]?=some g):RdC w b (o+(k:Int).toNat * 3+2) [.slice g.x.A g.x.n g.x.cap]:=by
 have hkl:=(List.getElem?_eq_some_iff.1 hk).1
 have hl:=h.len
 obtain⟨-,h2⟩:=h.s.2 (by omega)
 have hat:RdC w b (o+(k:Int).toNat * 3) g.cells:=by
  intro j u hu
  have h3:=h2 (k * 3+j) u (flatG_get (cells:=GrE.cells) (sz:=3) (fun _=>rfl) hk j u hu)
  rw [Int.toNat_natCast,Nat.add_assoc]
  exact h3
 exact hat.at (i:=2) rfl
end Go.Proofs.YtabhdaehomjlgaaGreat
namespace Go.Proofs.YtabhdaehomjlgaaGreat
open Go.RowKit Go.Shelf Go.ChangeShapes Go.WideShapes Go.Proofs
set_option maxRecDepth 100000

section
variable {H:Type} {enc:TypeId × Value→H} {W:World} {base b0:Nat} {sp:Nat→Bool} {held:Bool} {r:Reach} {v:Value} {d:DataW H} {ps:List MemPlace}
end
end Go.Proofs.YtabhdaehomjlgaaGreat
namespace Go.Proofs.YtabhdaehomjlgaaGreat
open Go.RowKit Go.Shelf
set_option maxRecDepth 100000

theorem sing_no (N k:Nat):¬ splOk N (nrmI N [(k:Int)]):=by
 intro hs
 unfold nrmI at hs
 split at hs
 ·rename_i h9
  rw [List.mem_singleton] at h9
  have hk0:k=0:=by omega
  subst hk0
  have hr:=hs.room
  have hN:0<N:=by omega
  have h2:(0:Int)::setI N (fun i=>decide ((i:Int) ∉ [((0:Nat):Int)]))=setI N fun _=>true:=by
   refine asc_uniq (List.pairwise_cons.2 ⟨fun z hz=>?_,setI_asc _ _⟩) (setI_asc _ _) fun z=>?_
   ·obtain⟨j,h3,h4,rfl⟩:=setI_mem.1 hz
    rw [decide_eq_true_eq,List.mem_singleton] at h4
    omega
   ·rw [List.mem_cons,setI_mem,setI_mem]
    constructor
    ·rintro (rfl|⟨j,h3,-,rfl⟩)
     ·exact⟨0,hN,rfl,rfl⟩
     ·exact⟨j,h3,rfl,rfl⟩
    ·rintro⟨j,h3,-,rfl⟩
     by_cases e:j=0
     ·left;omega
     ·right
      exact⟨j,h3,by rw [decide_eq_true_eq,List.mem_singleton];omega,rfl⟩
  have h3:=congrArg List.length h2
  rw [setI_all,List.length_cons] at h3
  omega
 ·have:=hs.two
  exact absurd this (by simp)
structure ownF (names:List ByteArray) (gs:List GrE):Prop where
 lam:lamB (innL (2 ^ names.length - 1) (lsG gs))
 ne:∀ y∈innL (2 ^ names.length - 1) (lsG gs),y≠0
 nms:(nmsN (ownT names gs)).Perm names
 cnt:cntN (ownT names gs)+1≤2 * names.length
 ok:tOk (ownP names gs) (ownN names gs)
theorem nms_cn {ps:List Int} {ns:List ByteArray}:(nmsN (ndOf (cps ps ns) (cns ps ns))).Perm (nmsN (ndOf ps ns)):=by
 unfold cps cns
 rw [← noO_nms,ndOf_back,noO_nms]
 exact srtN_nms _
end Go.Proofs.YtabhdaehomjlgaaGreat
namespace Go.Proofs.YtabhdaehomjlgaaGreat
open Go.RowKit Go.Shelf Go.Proofs
set_option maxRecDepth 100000
set_option maxHeartbeats 4000000

theorem rdAtM {R:Rdr} {cs:List Value} {m:List (List Int)} (h:Rd R cs (m.map intsD)) {i:Nat} {x:Value} (hx:cs[i]?=some x):Rd R [x] [intsD (m.getD i [])]:=by
 have hl:=h.length
 rw [List.length_map] at hl
 have hi:=(List.getElem?_eq_some_iff.1 hx).1
 obtain⟨y,hy,hr⟩:=h.get (i:=i) (d:=intsD (m.getD i [])) (by rw [List.getElem?_map,List.getD_eq_getElem?_getD,List.getElem?_eq_getElem (by omega)];rfl)
 rw [hx] at hy
 cases hy
 exact hr
end Go.Proofs.YtabhdaehomjlgaaGreat
namespace Go.Proofs.YtabhdaehomjlgaaGreat
open Go.RowKit Go.Shelf Go.Proofs
set_option maxRecDepth 100000
set_option maxHeartbeats 4000000

theorem great04_spec (A:Option Addr) (n c:Nat) (w:World):Spec Tryz.prog 8 [.slice A n c] w (fun v R=>v = .bool (decide ((12:Int)<(n:Int)))∧R=[]):=by
 refine spec_of sg Tryz.func8 rfl rfl rfl ?_
 repeat' (first|refine d1 ?_|(show ∀ _:Nat,T _ _ _ _ _;intro _)|(show T _ (.code .ret::_) _ _ _;refine T_retV [] rfl (Hle.none _) ⟨rfl,rfl⟩))
theorem greatNames32_spec (A:Option Addr) (n c:Nat) (ns:List ByteArray) (w:World) (hs:Src w 1 A n (ns.map Value.string)) (hl:ns.length=n) (hn:n≤9223372036854775807) :
  Spec Tryz.prog 6 [.slice A n c] w (fun v R=>∃ b:Bool,(b=false→∀ s∈ns,s.size≤20)∧v = .bool b∧R=[]):=by
 refine spec_of sg Tryz.func6 rfl rfl rfl ?_
 repeat' (first|refine d1 ?_|(show ∀ _:Nat,T _ _ _ _ _;intro _))
 refine T_loopX (fun k:Nat=>[(3, .int .i64 (k:Nat))]) (fun _=>[]) (fun k=>k≤n∧∀ s∈ns.take k,s.size≤20) (fun k=>n - k) 0 ⟨Nat.zero_le _,fun g hg=>by cases hg⟩ ?_
 rintro k ⟨hk,hok⟩
 repeat' (first|refine d1 ?_|(show ∀ _:Nat,T _ _ _ _ _;intro _))
 refine T_if rfl (fun h1=>?_) (fun h1=>?_)
 ·simp only [decide_eq_true_eq] at h1
  obtain⟨b,o,rfl⟩:=hs.base (by omega)
  obtain⟨a,ha⟩:∃ a,ns[k]?=some a:=⟨_,List.getElem?_eq_getElem (by omega)⟩
  have hra:=src_str hs (k:=k) (by omega) ha
  repeat' (first|refine d1 ?_|(show T _ (.ops _ (_::_)::_) _ _ _;first|refine T_val rfl (Val.load rfl (fun hg=>rdOld hra)) rfl rfl rfl ?_|refine T_valC rfl (Val.load rfl (fun hg=>rdOld hra)) rfl rfl rfl rfl rfl ?_)|(show T _ (.run _ _ (_::_) _ _::_) _ _ _;first|refine rv rfl rfl rfl (Val.load rfl (fun hg=>rdOld hra)) rfl rfl rfl ?_|refine rg rfl rfl rfl (Val.load rfl (fun hg=>rdOld hra)) rfl rfl rfl rfl rfl ?_)|(show ∀ _:Nat,T _ _ _ _ _;intro _))
  refine T_if rfl (fun h2=>?_) (fun h2=>?_)
  ·repeat' (first|refine d1 ?_|(show ∀ _:Nat,T _ _ _ _ _;intro _)|(show T _ (.code .ret::_) _ _ _;refine T_retV [] rfl (Hle.none _) ⟨true,(fun h=>by cases h),rfl,rfl⟩))
  ·rw [Bool.or_eq_false_iff] at h2
   have h3:=h2.1
   simp only [decide_eq_false_iff_not] at h3
   repeat' (first|refine d1 ?_|(show ∀ _:Nat,T _ _ _ _ _;intro _))
   refine T_backX (k+1) ⟨by omega,fun y hy=>?_⟩ (by omega)
   rw [take_snoc _ _ _ ha] at hy
   rcases List.mem_append.1 hy with hy|hy
   ·exact hok y hy
   ·rw [List.mem_singleton] at hy
    subst hy
    omega
 ·simp only [decide_eq_false_iff_not] at h1
  rw [List.take_of_length_le (by omega)] at hok
  repeat' (first|refine d1 ?_|(show ∀ _:Nat,T _ _ _ _ _;intro _)|(show T _ (.code .ret::_) _ _ _;refine T_retV [] rfl (Hle.none _) ⟨_,fun _=>hok,rfl,rfl⟩))
theorem orI_spec (A:Option Addr) (a b:Int) (w:World) (hs:Src w 1 A 2 ([a,b].map (Value.int .i64))) :
  Spec Tryz.prog 43 [.slice A 2 2] w (fun v R=>v = .int .i64 (if a=0 then b else a)∧R=[]):=by
 obtain⟨g,o,rfl⟩:=hs.base (by decide)
 refine spec_of sg Tryz.func43 rfl rfl rfl ?_
 repeat' (first|refine d1 ?_|(show ∀ _:Nat,T _ _ _ _ _;intro _))
 refine T_loopX (fun k:Nat=>[(8, .int .i64 (k:Nat))]) (fun _=>[]) (fun k=>k≤2∧(0<k→a=0)∧(1<k→b=0)) (fun k=>2 - k) 0 ⟨Nat.zero_le _,fun h=>absurd h (by decide),fun h=>absurd h (by decide)⟩ ?_
 rintro k ⟨hk,h1,h2⟩
 repeat' (first|refine d1 ?_|(show ∀ _:Nat,T _ _ _ _ _;intro _))
 refine T_if rfl (fun h3=>?_) (fun h3=>?_)
 ·simp only [decide_eq_true_eq] at h3
  obtain⟨z,hz⟩:∃ z,([a,b]:List Int)[k]?=some z:=⟨_,List.getElem?_eq_getElem (by simp;omega)⟩
  have hr:=src_int hs (k:=k) (by omega) hz
  repeat' (first|refine d1 ?_|(show T _ (.ops _ (_::_)::_) _ _ _;first|refine T_val rfl (Val.load rfl (fun hg=>rdOld hr)) rfl rfl rfl ?_|refine T_valC rfl (Val.load rfl (fun hg=>rdOld hr)) rfl rfl rfl rfl rfl ?_)|(show T _ (.run _ _ (_::_) _ _::_) _ _ _;first|refine rv rfl rfl rfl (Val.load rfl (fun hg=>rdOld hr)) rfl rfl rfl ?_|refine rg rfl rfl rfl (Val.load rfl (fun hg=>rdOld hr)) rfl rfl rfl rfl rfl ?_)|(show ∀ _:Nat,T _ _ _ _ _;intro _))
  have hzz:(k=0→z=a)∧(k=1→z=b):=⟨fun e=>by subst e;simpa using hz.symm,fun e=>by subst e;simpa using hz.symm⟩
  refine T_if rfl (fun h4=>?_) (fun h4=>?_)
  ·simp only [Bool.not_eq_true',decide_eq_false_iff_not] at h4
   repeat' (first|refine d1 ?_|(show ∀ _:Nat,T _ _ _ _ _;intro _)|(show T _ (.code .ret::_) _ _ _;refine T_retV [] rfl (Hle.none _) ⟨congrArg (Value.int .i64) ?_,rfl⟩))
   rcases Nat.eq_zero_or_pos k with e|e
   ·have:=hzz.1 e;rw [if_neg (by omega)];exact this
   ·have:=hzz.2 (by omega);rw [if_pos (h1 e)];exact this
  ·simp only [Bool.not_eq_false',decide_eq_true_eq] at h4
   repeat' (first|refine d1 ?_|(show ∀ _:Nat,T _ _ _ _ _;intro _))
   refine T_backX (k+1) ⟨by omega,fun _=>?_,fun _=>?_⟩ (by omega)
   ·rcases Nat.eq_zero_or_pos k with e|e
    ·rw [← hzz.1 e];exact h4
    ·exact h1 e
   ·have:=hzz.2 (by omega);rw [← this];exact h4
 ·simp only [decide_eq_false_iff_not] at h3
  repeat' (first|refine d1 ?_|(show ∀ _:Nat,T _ _ _ _ _;intro _)|(show T _ (.code .ret::_) _ _ _;refine T_retV [] rfl (Hle.none _) ⟨congrArg (Value.int .i64) ?_,rfl⟩))
  rw [if_pos (h1 (by omega))]
  exact (h2 (by omega)).symm
end Go.Proofs.YtabhdaehomjlgaaGreat
namespace Go.Proofs.YtabhdaehomjlgaaGreat
open Go.RowKit Go.Shelf Go.Proofs
set_option maxRecDepth 100000
set_option maxHeartbeats 4000000

theorem compatible_spec (A B:Option Addr) (n m ca cb N:Nat) (xs ys:List Int) (w:World) (hA:Src w 1 A n (xs.map (Value.int .i64))) (hB:Src w 1 B m (ys.map (Value.int .i64))) (hn:xs.length=n) (hm:ys.length=m) (hx:splOk N xs) (hy:splOk N ys) (hnc:n≤ca∧ca≤9223372036854775807) (hmc:m≤cb∧cb≤9223372036854775807) :
  Spec Tryz.prog 12 [.int .i64 (N:Nat), .slice A n ca, .slice B m cb] w (fun v R=>v = .tuple #[.bool (cmpS xs ys), .int .i64 0]∧R=[]):=by
 have h1:=hx.room
 have h2:=hy.room
 have h3:=hx.n32
 refine spec_of sg Tryz.func12 rfl rfl rfl ?_
 repeat' (first|refine d1 ?_|(show ∀ _:Nat,T _ _ _ _ _;intro _))
 rename_i b13
 refine T_le (H':=[blk b13 [.slice A n ca, .slice B m cb] 24]) (Hle.refl _) ?_
 refine T_loopX (fun k:Nat=>[(15, .int .i64 (k:Nat))]) (fun _=>[blk b13 [.slice A n ca, .slice B m cb] 24]) (fun k=>k≤2) (fun k=>2 - k) 0 (Nat.zero_le _) ?_
 rintro k hk
 repeat' (first|refine d1 ?_|(show ∀ _:Nat,T _ _ _ _ _;intro _))
 refine T_if rfl (fun h=>?_) (fun _=>?_)
 ·simp only [decide_eq_true_eq] at h
  obtain⟨C,p,cc,zs,hcell,hC,hp,hz,hpb⟩:∃ (C:Option Addr) (p cc:Nat) (zs:List Int),([.slice A n ca, .slice B m cb]:List Value)[0+(k:Int).toNat * 1]?=some (.slice C p cc)∧Src w 1 C p (zs.map (Value.int .i64))∧zs.length=p∧splOk N zs∧p≤32:=by
   rcases Nat.eq_zero_or_pos k with e|e
   ·subst e;exact⟨A,n,ca,xs,rfl,hA,hn,hx,by omega⟩
   ·obtain rfl:k=1:=by omega
    exact⟨B,m,cb,ys,rfl,hB,hm,hy,by omega⟩
  repeat' (first|refine d1 ?_|(show T _ (.ops _ (_::_)::_) _ _ _;first|refine T_val rfl (Val.load rfl (fun hg=>rdOwn1 (b:=b13) hcell)) rfl rfl rfl ?_|refine T_valC rfl (Val.load rfl (fun hg=>rdOwn1 (b:=b13) hcell)) rfl rfl rfl rfl rfl ?_)|(show T _ (.run _ _ (_::_) _ _::_) _ _ _;first|refine rv rfl rfl rfl (Val.load rfl (fun hg=>rdOwn1 (b:=b13) hcell)) rfl rfl rfl ?_|refine rg rfl rfl rfl (Val.load rfl (fun hg=>rdOwn1 (b:=b13) hcell)) rfl rfl rfl rfl rfl ?_)|(show ∀ _:Nat,T _ _ _ _ _;intro _))
  refine T_op (OpT.call rfl rfl rfl rfl rfl (fun w hw=>checkSplit_spec C N p cc zs w (src_below hC hw.below) hp (by omega) (by omega)) ?_)
  rintro u R ⟨e,he,rfl,rfl⟩
  rw [List.nil_append]
  obtain rfl:e=0:=he.2 hz
  repeat' (first|refine d1 ?_|(show ∀ _:Nat,T _ _ _ _ _;intro _))
  refine T_if rfl (fun h=>by exfalso;simp at h) (fun _=>?_)
  repeat' (first|refine d1 ?_|(show ∀ _:Nat,T _ _ _ _ _;intro _))
  exact T_backX (k+1) (by omega) (by omega)
 ·repeat' (first|refine d1 ?_|(show T _ (.ops _ (_::_)::_) _ _ _;first|refine T_call rfl rfl rfl rfl rfl (fun w hw=>compatS_spec A B n m ca cb xs ys w (src_below hA hw.below) (src_below hB hw.below) hn hm hx.set hy.set (by omega) (by omega)) ?_|refine T_callC rfl rfl rfl rfl rfl rfl rfl (fun hg w hw=>compatS_spec A B n m ca cb xs ys w (src_below hA hw.below) (src_below hB hw.below) hn hm hx.set hy.set (by omega) (by omega)) ?_)|(show T _ (.run _ _ (_::_) _ _::_) _ _ _;first|refine rc rfl rfl rfl rfl rfl rfl rfl (fun w hw=>compatS_spec A B n m ca cb xs ys w (src_below hA hw.below) (src_below hB hw.below) hn hm hx.set hy.set (by omega) (by omega)) ?_|refine rcG rfl rfl rfl rfl rfl rfl rfl rfl rfl (fun hg w hw=>compatS_spec A B n m ca cb xs ys w (src_below hA hw.below) (src_below hB hw.below) hn hm hx.set hy.set (by omega) (by omega)) ?_)|(show ∀ _:Nat,T _ _ _ _ _;intro _))
  repeat' (first|refine d1 ?_|(show ∀ _:Nat,T _ _ _ _ _;intro _)|(show T _ (.code .ret::_) _ _ _;refine T_retV [] rfl (Hle.none _) ⟨rfl,rfl⟩))
structure SplR (w:World) (A:Option Addr) (n:Nat) (hs:List RwI) (N:Nat):Prop where
 s:Src w 1 A n (hs.map fun x=>Value.slice x.A x.n x.cap)
 len:hs.length=n
 n64:n≤64
 rd:∀ x∈hs,Src w 1 x.A x.n (x.l.map (Value.int .i64))∧x.l.length=x.n∧(x.n≤x.cap∧x.cap≤9223372036854775807)∧splOk N x.l
theorem SplR.cls {w0 w:World} {H:List HA} {A:Option Addr} {n N:Nat} {hs:List RwI} (h:SplR w0 A n hs N) (hw:Cls w0 w H):SplR w A n hs N :=
 ⟨src_below h.s hw.below,h.len,h.n64,fun x hx=>⟨src_below (h.rd x hx).1 hw.below,(h.rd x hx).2⟩⟩
theorem SplR.at {w:World} {b o n N:Nat} {hs:List RwI} (h:SplR w (some ⟨b,o,none⟩) n hs N) {k:Nat} {x:RwI} (hk:hs[k]?=some x):RdC w b (o+(k:Int).toNat * 1) [.slice x.A x.n x.cap]:=by
 have hkl:=(List.getElem?_eq_some_iff.1 hk).1
 have hl:=h.len
 have h9:=(h.s.get1 (i:=k) (by omega) (by rw [List.getElem?_map,hk];rfl)).2
 rw [Nat.mul_one] at h9
 rw [off1]
 exact h9
def cmpAt (hs:List RwI) (i k:Nat):Bool:=cmpS ((hs.map RwI.l).getD i []) ((hs.map RwI.l).getD k [])
theorem getL_at {hs:List RwI} {k:Nat} {x:RwI} (h:hs[k]?=some x):(hs.map RwI.l).getD k []=x.l:=by rw [List.getD_eq_getElem?_getD,List.getElem?_map,h];rfl
theorem pair_spec (A:Option Addr) (n c N:Nat) (hs:List RwI) (w:World) (h:SplR w A n hs N) :
  Spec Tryz.prog 38 [.slice A n c] w (fun v R=>∃ (a b:Int) (q:Bool),(q=true↔∀ i k,i<k→k<n→cmpAt hs i k=true)∧v = .tuple #[.int .i64 a, .int .i64 b, .bool q]∧R=[]):=by
 have hl:=h.len
 have hn:=h.n64
 refine spec_of sg Tryz.func38 rfl rfl rfl ?_
 repeat' (first|refine d1 ?_|(show ∀ _:Nat,T _ _ _ _ _;intro _))
 refine T_loopX (fun i:Nat=>[(9, .int .i64 (i:Nat))]) (fun _=>[]) (fun i=>i≤n∧∀ a k,a<i→a<k→k<n→cmpAt hs a k=true) (fun i=>n - i) 0 ⟨Nat.zero_le _,fun a k h=>absurd h (Nat.not_lt_zero _)⟩ ?_
 rintro i ⟨hi,hok⟩
 repeat' (first|refine d1 ?_|(show ∀ _:Nat,T _ _ _ _ _;intro _))
 refine T_if rfl (fun h1=>?_) (fun h1=>?_)
 ·simp only [decide_eq_true_eq] at h1
  obtain⟨b,o,rfl⟩:=h.s.base (by omega)
  obtain⟨x,hx⟩:∃ x,hs[i]?=some x:=⟨_,List.getElem?_eq_getElem (by omega)⟩
  have hat:=h.at hx
  obtain⟨r1,r2,-,r4⟩:=h.rd x (List.mem_of_getElem? hx)
  have:=r4.room;have:=r4.n32
  repeat' (first|refine d1 ?_|(show ∀ _:Nat,T _ _ _ _ _;intro _))
  refine T_loopX (fun k:Nat=>[(6, .int .i64 (k:Nat))]) (fun _=>[]) (fun k=>(i<k∧k≤n)∧∀ a,i<a→a<k→cmpAt hs i a=true) (fun k=>n - k) (i+1) ⟨⟨Nat.lt_succ_self _,by omega⟩,fun a h2 h3=>by omega⟩ ?_
  rintro k ⟨⟨hk1,hk2⟩,hk3⟩
  repeat' (first|refine d1 ?_|(show ∀ _:Nat,T _ _ _ _ _;intro _))
  refine T_if rfl (fun h2=>?_) (fun h2=>?_)
  ·simp only [decide_eq_true_eq] at h2
   obtain⟨y,hy⟩:∃ y,hs[k]?=some y:=⟨_,List.getElem?_eq_getElem (by omega)⟩
   have hat2:=h.at hy
   obtain⟨q1,q2,-,q4⟩:=h.rd y (List.mem_of_getElem? hy)
   have:=q4.room;have:=q4.n32
   have hce:cmpAt hs i k=cmpS x.l y.l:=by unfold cmpAt;rw [getL_at hx,getL_at hy]
   repeat' (first|refine d1 ?_|(show ∀ _:Nat,T _ _ _ _ _;intro _))
   refine rsH [] 1000 [0,1,2,3,4,5,6,7,8,9] ?_
   repeat' (first|refine d1 ?_|refine dd ?_|(show T _ (.ops _ (_::_)::_) _ _ _;first|refine T_val rfl (Val.load rfl (fun hg=>rdOld hat)) rfl rfl rfl ?_|refine T_valC rfl (Val.load rfl (fun hg=>rdOld hat)) rfl rfl rfl rfl rfl ?_|refine T_val rfl (Val.load rfl (fun hg=>rdOld hat2)) rfl rfl rfl ?_|refine T_valC rfl (Val.load rfl (fun hg=>rdOld hat2)) rfl rfl rfl rfl rfl ?_|refine T_call rfl rfl rfl rfl rfl (fun w hw=>compatS_spec x.A y.A x.n y.n x.cap y.cap x.l y.l w (src_below r1 hw.below) (src_below q1 hw.below) r2 q2 r4.set q4.set (by omega) (by omega)) ?_|refine T_callC rfl rfl rfl rfl rfl rfl rfl (fun hg w hw=>compatS_spec x.A y.A x.n y.n x.cap y.cap x.l y.l w (src_below r1 hw.below) (src_below q1 hw.below) r2 q2 r4.set q4.set (by omega) (by omega)) ?_)|(show T _ (.run _ _ (_::_) _ _::_) _ _ _;first|refine rv rfl rfl rfl (Val.load rfl (fun hg=>rdOld hat)) rfl rfl rfl ?_|refine rg rfl rfl rfl (Val.load rfl (fun hg=>rdOld hat)) rfl rfl rfl rfl rfl ?_|refine rv rfl rfl rfl (Val.load rfl (fun hg=>rdOld hat2)) rfl rfl rfl ?_|refine rg rfl rfl rfl (Val.load rfl (fun hg=>rdOld hat2)) rfl rfl rfl rfl rfl ?_|refine rc rfl rfl rfl rfl rfl rfl rfl (fun w hw=>compatS_spec x.A y.A x.n y.n x.cap y.cap x.l y.l w (src_below r1 hw.below) (src_below q1 hw.below) r2 q2 r4.set q4.set (by omega) (by omega)) ?_|refine rcG rfl rfl rfl rfl rfl rfl rfl rfl rfl (fun hg w hw=>compatS_spec x.A y.A x.n y.n x.cap y.cap x.l y.l w (src_below r1 hw.below) (src_below q1 hw.below) r2 q2 r4.set q4.set (by omega) (by omega)) ?_)|(show ∀ _:Nat,T _ _ _ _ _;intro _))
   refine T_if rfl (fun h3=>?_) (fun h3=>?_)
   ·simp only [Bool.not_eq_true'] at h3
    repeat' (first|refine d1 ?_|(show ∀ _:Nat,T _ _ _ _ _;intro _)|(show T _ (.code .ret::_) _ _ _;refine T_retV [] rfl (Hle.none _) ⟨_,_,false,⟨(fun h=>by cases h),fun h9=>?_⟩,rfl,rfl⟩))
    have:=h9 i k hk1 (by omega)
    rw [hce,h3] at this;cases this
   ·simp only [Bool.not_eq_false'] at h3
    repeat' (first|refine d1 ?_|(show ∀ _:Nat,T _ _ _ _ _;intro _))
    refine T_backX (k+1) ⟨⟨by omega,by omega⟩,fun a h4 h5=>?_⟩ (by omega)
    rcases Nat.lt_or_ge a k with h6|h6
    ·exact hk3 a h4 h6
    ·rw [show a=k by omega,hce];exact h3
  ·simp only [decide_eq_false_iff_not] at h2
   repeat' (first|refine d1 ?_|(show ∀ _:Nat,T _ _ _ _ _;intro _))
   refine T_backX (i+1) ⟨by omega,fun a k' h3 h4 h5=>?_⟩ (by omega)
   rcases Nat.lt_or_ge a i with h6|h6
   ·exact hok a k' h6 h4 h5
   ·rw [show a=i by omega] at h4 ⊢;exact hk3 k' h4 (by omega)
 ·simp only [decide_eq_false_iff_not] at h1
  repeat' (first|refine d1 ?_|(show ∀ _:Nat,T _ _ _ _ _;intro _)|(show T _ (.code .ret::_) _ _ _;refine T_retV [] rfl (Hle.none _) ⟨_,_,true,⟨fun _ a k h3 h4=>hok a k (by omega) h3 h4,fun _=>rfl⟩,rfl,rfl⟩))
def ordB (p q:List Int):Int:=if cmpI q.length p.length=0 then cmpLs p q else cmpI q.length p.length
theorem buildC_spec (x y:Value) (p q:List Int) (w:World) (hx:Rd (wr w) [x] [intsD p]) (hy:Rd (wr w) [y] [intsD q]) :
  Spec Tryz.prog 42 [x,y] w (fun v R=>v = .int .i64 (ordB p q)∧R=[]):=by
 obtain⟨A,ca,rfl,-,-⟩:=hx.ints
 obtain⟨B,cb,rfl,-,-⟩:=hy.ints
 refine spec_of sg Tryz.func42 rfl rfl rfl ?_
 repeat' (first|refine d1 ?_|(show T _ (.ops _ (_::_)::_) _ _ _;first|refine T_call rfl rfl rfl rfl rfl (fun w hw=>cmpI_spec q.length p.length w) ?_|refine T_callC rfl rfl rfl rfl rfl rfl rfl (fun hg w hw=>cmpI_spec q.length p.length w) ?_|refine T_call rfl rfl rfl rfl rfl (fun w hw=>compareL_spec _ _ p q w (hx.old hw) (hy.old hw)) ?_|refine T_callC rfl rfl rfl rfl rfl rfl rfl (fun hg w hw=>compareL_spec _ _ p q w (hx.old hw) (hy.old hw)) ?_)|(show T _ (.run _ _ (_::_) _ _::_) _ _ _;first|refine rc rfl rfl rfl rfl rfl rfl rfl (fun w hw=>cmpI_spec q.length p.length w) ?_|refine rcG rfl rfl rfl rfl rfl rfl rfl rfl rfl (fun hg w hw=>cmpI_spec q.length p.length w) ?_|refine rc rfl rfl rfl rfl rfl rfl rfl (fun w hw=>compareL_spec _ _ p q w (hx.old hw) (hy.old hw)) ?_|refine rcG rfl rfl rfl rfl rfl rfl rfl rfl rfl (fun hg w hw=>compareL_spec _ _ p q w (hx.old hw) (hy.old hw)) ?_)|(show ∀ _:Nat,T _ _ _ _ _;intro _))
 rename_i b13
 refine T_le (H':=[blk b13 (([cmpI q.length p.length,cmpLs p q]:List Int).map (Value.int .i64)) 3]) (Hle.refl _) ?_
 repeat' (first|refine d1 ?_|(show T _ (.ops _ (_::_)::_) _ _ _;first|refine T_call rfl rfl rfl rfl rfl (fun w hw=>orI_spec (some ⟨b13,0,none⟩) _ _ w (Src.own hw rfl)) ?_|refine T_callC rfl rfl rfl rfl rfl rfl rfl (fun hg w hw=>orI_spec (some ⟨b13,0,none⟩) _ _ w (Src.own hw rfl)) ?_)|(show T _ (.run _ _ (_::_) _ _::_) _ _ _;first|refine rc rfl rfl rfl rfl rfl rfl rfl (fun w hw=>orI_spec (some ⟨b13,0,none⟩) _ _ w (Src.own hw rfl)) ?_|refine rcG rfl rfl rfl rfl rfl rfl rfl rfl rfl (fun hg w hw=>orI_spec (some ⟨b13,0,none⟩) _ _ w (Src.own hw rfl)) ?_)|(show ∀ _:Nat,T _ _ _ _ _;intro _)|(show T _ (.code .ret::_) _ _ _;refine T_retV [] rfl (Hle.none _) ⟨rfl,rfl⟩))
end Go.Proofs.YtabhdaehomjlgaaGreat
namespace Go.Proofs.YtabhdaehomjlgaaGreat
open Go.RowKit Go.Shelf Go.Proofs
set_option maxRecDepth 100000
set_option maxHeartbeats 4000000

def adH (b2:Nat) (A1 A2:Option Addr) (c1 c2 m:Nat) (PS:List Int) (NS:List ByteArray) (K:List HA):List HA :=
 blk b2 [.slice A1 m c1, .slice A2 m c2] 30::row 3 1 A1 c1 m (PS.map (Value.int .i64))::row 9 1 A2 c2 m (NS.map Value.string)::K
theorem addB_spec (b2:Nat) (A1 A2:Option Addr) (c1 c2 m:Nat) (PS:List Int) (NS:List ByteArray) (p:Int) (a:ByteArray) (K:List HA) (w0:World) (hm:m≤100000) :
  SpecB Tryz.prog 39 [.int .i64 p, .string a, .pointer (some ⟨b2,0,none⟩)] w0 (adH b2 A1 A2 c1 c2 m PS NS K)
   (fun v R=>∃ s:(Option Addr × Nat) × (Option Addr × Nat),True∧v = .int .i64 (m:Nat)∧R=adH b2 s.1.1 s.2.1 s.1.2 s.2.2 (m+1) (PS++[p]) (NS++[a]) K):=by
 refine specB_of sg Tryz.func39 rfl rfl rfl ?_
 simp only [adH]
 repeat' (first|refine d1 ?_|(show ∀ _:Nat,T _ _ _ _ _;intro _))
 refine T_cutX 1 [] (fun _:(Option Addr × Nat) × (Option Addr × Nat)=>[]) (fun s=>blk b2 [.slice s.1.1 (m+1) s.1.2, .slice s.2.1 (m+1) s.2.2] 30::row 3 1 s.1.1 s.1.2 (m+1) (PS.map (Value.int .i64)++flatP [(0, .int .i64 p)])::row 9 1 s.2.1 s.2.2 (m+1) (NS.map Value.string++flatP [(0, .string a)])::K) (fun _=>True) ?_ ?_
 ·refine dw0 11 [blk b2 [.slice A1 m c1, .slice A2 m c2] 30] ?_
  repeat' (first|(show T _ (.draw _ _ _ _ _::_) _ _ _;first|refine dw1 ?_|refine dwv rfl (by decide +kernel) rfl rfl (Val.load rfl (fun hg=>rdOwn1 rfl)) rfl rfl rfl ?_|refine dwg rfl (by decide +kernel) rfl rfl (Val.load rfl (fun hg=>rdOwn1 rfl)) rfl rfl rfl rfl rfl ?_|refine dwb rfl (by decide +kernel) ?_)|(show AllL _ [];exact True.intro)|(show AllL _ (_::_);refine ⟨?_,?_⟩)|(show OpT _ _ _ _ _ _ _;first|refine dwx ?_|refine OpT.ofVal rfl (Val.load rfl (fun hg=>rdOwn1 rfl)) rfl rfl rfl ⟨fun _=>(by first|exact Hle.none _|exact Hle.sub|exact absurd ‹_› (by decide +kernel)),?_⟩|refine OpT.litW rfl rfl rfl rfl rfl rfl rfl rfl rfl rfl rfl (fun _=>⟨fun _=>(by first|exact Hle.none _|exact Hle.sub|exact absurd ‹_› (by decide +kernel)),?_⟩)|refine OpT.append (A:=A1) rfl rfl rfl rfl rfl rfl rfl rfl rfl rfl (fun w hw=>Src.own hw rfl) rfl (by dsimp only;omega) (by omega) (fun _ _ _=>⟨fun _=>(by first|exact Hle.none _|exact Hle.sub|exact absurd ‹_› (by decide +kernel)),?_⟩)|refine OpT.append (A:=A2) rfl rfl rfl rfl rfl rfl rfl rfl rfl rfl (fun w hw=>Src.own hw rfl) rfl (by dsimp only;omega) (by omega) (fun _ _ _=>⟨fun _=>(by first|exact Hle.none _|exact Hle.sub|exact absurd ‹_› (by decide +kernel)),?_⟩)|refine OpT.storeA rfl rfl rfl rfl rfl rfl (Nat.le_of_ble_eq_true rfl) ⟨fun _=>(by first|exact Hle.none _|exact Hle.sub|exact absurd ‹_› (by decide +kernel)),?_⟩)|(show ∀ _:Nat,T _ _ _ _ _;intro _)|(show T _ (.mark _::_) _ _ _;exact T_meetX ((_,_),(_,_)) trivial (hG:=by exact (Hle.tail _ _).trans (Hle.tail _ _))))
 rintro⟨⟨A3,c3⟩,⟨A4,c4⟩⟩ -
 dsimp only
 repeat' (first|refine d1 ?_|(show ∀ _:Nat,T _ _ _ _ _;intro _))
 rw [show ((m+1:Nat):Int) - 1=(m:Int) by omega]
 repeat' (first|refine d1 ?_|(show ∀ _:Nat,T _ _ _ _ _;intro _)|(show T _ (.code .ret::_) _ _ _;refine T_retV _ rfl (by rw [List.map_append,List.map_append];exact Hle.refl _) ⟨((A3,c3),(A4,c4)),trivial,rfl,rfl⟩))
def leastB (own:List (List Int)) (at_:List Int) (crown leaf:Int):Nat→Int
 | 0=>crown
 | j+1=>if leaf∈own.getD j [] then at_.getD j 0 else leastB own at_ crown leaf j
theorem leastC_spec (b19 b20 b18:Nat) (Ao Aa:Option Addr) (n co m ca N:Nat) (hs:List RwI) (at_:List Int) (crown leaf:Int) (k:Nat) (w:World) (h1:RdC w b19 0 [.slice Ao n co]) (h2:RdC w b20 0 [.slice Aa m ca]) (h3:RdC w b18 0 [.int .i64 crown]) (h:SplR w Ao n hs N) (ha:Src w 1 Aa m (at_.map (Value.int .i64))) (hal:at_.length=m) (hk:k≤n) (hkm:k≤m) :
  Spec Tryz.prog 47 [.int .i64 leaf, .int .i64 (k:Nat), .pointer (some ⟨b19,0,none⟩), .pointer (some ⟨b20,0,none⟩), .pointer (some ⟨b18,0,none⟩)] w (fun v R=>v = .int .i64 (leastB (hs.map RwI.l) at_ crown leaf k)∧R=[]):=by
 have hl:=h.len
 have hn:=h.n64
 refine spec_of sg Tryz.func47 rfl rfl rfl ?_
 repeat' (first|refine d1 ?_|(show ∀ _:Nat,T _ _ _ _ _;intro _))
 refine T_loopX (fun t:Nat=>[(8, .int .i64 ((t:Nat) - 1:Int))]) (fun _=>[]) (fun t=>t≤k∧leastB (hs.map RwI.l) at_ crown leaf k=leastB (hs.map RwI.l) at_ crown leaf t) (fun t=>t) k ⟨Nat.le_refl _,rfl⟩ ?_
 rintro t ⟨ht,he⟩
 rcases t with _|i
 ·repeat' (first|refine d1 ?_|(show ∀ _:Nat,T _ _ _ _ _;intro _))
  refine T_if rfl (fun h=>by exfalso;simp at h) (fun _=>?_)
  repeat' (first|refine d1 ?_|(show T _ (.ops _ (_::_)::_) _ _ _;first|refine T_val rfl (Val.load rfl (fun hg=>rdOld h3)) rfl rfl rfl ?_|refine T_valC rfl (Val.load rfl (fun hg=>rdOld h3)) rfl rfl rfl rfl rfl ?_)|(show T _ (.run _ _ (_::_) _ _::_) _ _ _;first|refine rv rfl rfl rfl (Val.load rfl (fun hg=>rdOld h3)) rfl rfl rfl ?_|refine rg rfl rfl rfl (Val.load rfl (fun hg=>rdOld h3)) rfl rfl rfl rfl rfl ?_)|(show ∀ _:Nat,T _ _ _ _ _;intro _)|(show T _ (.code .ret::_) _ _ _;refine T_retV [] rfl (Hle.none _) ⟨by rw [he];rfl,rfl⟩))
 ·rw [show ((i+1:Nat):Int) - 1=(i:Int) by omega]
  obtain⟨b,o,rfl⟩:=h.s.base (by omega)
  obtain⟨ba,oa,rfl⟩:=ha.base (by omega)
  obtain⟨x,hx⟩:∃ x,hs[i]?=some x:=⟨_,List.getElem?_eq_getElem (by omega)⟩
  obtain⟨z,hz⟩:∃ z,at_[i]?=some z:=⟨_,List.getElem?_eq_getElem (by omega)⟩
  have hat:=h.at hx
  have hza:=src_int ha (k:=i) (by omega) hz
  obtain⟨r1,r2,r3,-⟩:=h.rd x (List.mem_of_getElem? hx)
  have hgl:leastB (hs.map RwI.l) at_ crown leaf (i+1)=if leaf∈x.l then z else leastB (hs.map RwI.l) at_ crown leaf i:=by
   rw [leastB,getL_at hx,List.getD_eq_getElem?_getD,hz];rfl
  repeat' (first|refine d1 ?_|(show ∀ _:Nat,T _ _ _ _ _;intro _))
  refine T_if rfl (fun _=>?_) (fun h=>by exfalso;simp at h)
  repeat' (first|refine d1 ?_|(show T _ (.ops _ (_::_)::_) _ _ _;first|refine T_val rfl (Val.load rfl (fun hg=>rdOld h1)) rfl rfl rfl ?_|refine T_valC rfl (Val.load rfl (fun hg=>rdOld h1)) rfl rfl rfl rfl rfl ?_|refine T_val rfl (Val.load rfl (fun hg=>rdOld hat)) rfl rfl rfl ?_|refine T_valC rfl (Val.load rfl (fun hg=>rdOld hat)) rfl rfl rfl rfl rfl ?_|refine T_call rfl rfl rfl rfl rfl (fun w hw=>containsI_spec x.A x.n x.cap x.l leaf w (src_below r1 hw.below) r2 (by omega)) ?_|refine T_callC rfl rfl rfl rfl rfl rfl rfl (fun hg w hw=>containsI_spec x.A x.n x.cap x.l leaf w (src_below r1 hw.below) r2 (by omega)) ?_)|(show T _ (.run _ _ (_::_) _ _::_) _ _ _;first|refine rv rfl rfl rfl (Val.load rfl (fun hg=>rdOld h1)) rfl rfl rfl ?_|refine rg rfl rfl rfl (Val.load rfl (fun hg=>rdOld h1)) rfl rfl rfl rfl rfl ?_|refine rv rfl rfl rfl (Val.load rfl (fun hg=>rdOld hat)) rfl rfl rfl ?_|refine rg rfl rfl rfl (Val.load rfl (fun hg=>rdOld hat)) rfl rfl rfl rfl rfl ?_|refine rc rfl rfl rfl rfl rfl rfl rfl (fun w hw=>containsI_spec x.A x.n x.cap x.l leaf w (src_below r1 hw.below) r2 (by omega)) ?_|refine rcG rfl rfl rfl rfl rfl rfl rfl rfl rfl (fun hg w hw=>containsI_spec x.A x.n x.cap x.l leaf w (src_below r1 hw.below) r2 (by omega)) ?_)|(show ∀ _:Nat,T _ _ _ _ _;intro _))
  have hany:(x.l.any fun y=>decide (leaf=y))=decide (leaf∈x.l):=by
   rw [Bool.eq_iff_iff,List.any_eq_true,decide_eq_true_eq]
   exact⟨fun⟨y,hy,e⟩=>by rw [of_decide_eq_true e];exact hy,fun h=>⟨leaf,h,decide_eq_true rfl⟩⟩
  refine T_if rfl (fun h5=>?_) (fun h5=>?_)
  ·rw [hany,decide_eq_true_eq] at h5
   rw [if_pos h5] at hgl
   repeat' (first|refine d1 ?_|(show T _ (.ops _ (_::_)::_) _ _ _;first|refine T_val rfl (Val.load rfl (fun hg=>rdOld h2)) rfl rfl rfl ?_|refine T_valC rfl (Val.load rfl (fun hg=>rdOld h2)) rfl rfl rfl rfl rfl ?_|refine T_val rfl (Val.load rfl (fun hg=>rdOld hza)) rfl rfl rfl ?_|refine T_valC rfl (Val.load rfl (fun hg=>rdOld hza)) rfl rfl rfl rfl rfl ?_)|(show T _ (.run _ _ (_::_) _ _::_) _ _ _;first|refine rv rfl rfl rfl (Val.load rfl (fun hg=>rdOld h2)) rfl rfl rfl ?_|refine rg rfl rfl rfl (Val.load rfl (fun hg=>rdOld h2)) rfl rfl rfl rfl rfl ?_|refine rv rfl rfl rfl (Val.load rfl (fun hg=>rdOld hza)) rfl rfl rfl ?_|refine rg rfl rfl rfl (Val.load rfl (fun hg=>rdOld hza)) rfl rfl rfl rfl rfl ?_)|(show ∀ _:Nat,T _ _ _ _ _;intro _)|(show T _ (.code .ret::_) _ _ _;refine T_retV [] rfl (Hle.none _) ⟨by rw [he,hgl];rfl,rfl⟩))
  ·rw [hany,decide_eq_false_iff_not] at h5
   rw [if_neg h5] at hgl
   repeat' (first|refine d1 ?_|(show ∀ _:Nat,T _ _ _ _ _;intro _))
   exact T_backX i ⟨by omega,he.trans hgl⟩ (by omega)
end Go.Proofs.YtabhdaehomjlgaaGreat
namespace Go.Proofs.YtabhdaehomjlgaaGreat
open Go.RowKit Go.Shelf Go.Proofs
set_option maxRecDepth 100000
set_option maxHeartbeats 4000000

theorem leafName_spec (s:ByteArray) (hs:s.size≤1000) (w:World):Spec Tryz.prog 36 [.string s] w (fun v R=>v = .bool (siglum22 s)∧R=[]):=by
 refine spec_of sg Tryz.func36 rfl rfl rfl ?_
 repeat' (first|refine d1 ?_|refine dd ?_|(show ∀ _:Nat,T _ _ _ _ _;intro _))
 refine T_if rfl (fun h=>?_) (fun h=>?_)
 ·have h2:0<s.size∧byteAt s ((s.size:Int) - 1)=42:=by
   simp only [Bool.and_eq_true,decide_eq_true_eq] at h
   exact⟨by omega,UInt8.toNat_inj.1 (by rw [show (42:UInt8).toNat=42 from rfl];have:=h.2;omega)⟩
  repeat' (first|refine d1 ?_|refine dd ?_|(show T _ (.ops _ (_::_)::_) _ _ _;first|refine T_call rfl rfl rfl rfl rfl (fun w hw=>isNamePrg_spec _ (by rw [ByteArray.size_extract];omega) w) ?_|refine T_callC rfl rfl rfl rfl rfl rfl rfl (fun hg w hw=>isNamePrg_spec _ (by rw [ByteArray.size_extract];omega) w) ?_)|(show T _ (.run _ _ (_::_) _ _::_) _ _ _;first|refine rc rfl rfl rfl rfl rfl rfl rfl (fun w hw=>isNamePrg_spec _ (by rw [ByteArray.size_extract];omega) w) ?_|refine rcG rfl rfl rfl rfl rfl rfl rfl rfl rfl (fun hg w hw=>isNamePrg_spec _ (by rw [ByteArray.size_extract];omega) w) ?_)|(show ∀ _:Nat,T _ _ _ _ _;intro _)|(show T _ (.code .ret::_) _ _ _;refine T_retV [] rfl (Hle.none _) ⟨congrArg Value.bool ?_,rfl⟩))
  unfold siglum22
  rw [if_pos h2,Bool.and_comm,show ((s.size:Int) - 1).toNat=s.size - 1 by omega,show decide ((s.size:Int)≤16)=decide (s.size≤16) from decide_eq_decide.2 (by omega)]
  rfl
 ·have h2:¬ (0<s.size∧byteAt s ((s.size:Int) - 1)=42):=by
   rintro⟨h3,h4⟩
   rw [h4] at h
   simp only [Bool.and_eq_false_iff,decide_eq_false_iff_not] at h
   rcases h with h|h
   ·omega
   ·exact h rfl
  repeat' (first|refine d1 ?_|refine dd ?_|(show T _ (.ops _ (_::_)::_) _ _ _;first|refine T_call rfl rfl rfl rfl rfl (fun w hw=>isNamePrg_spec s (by omega) w) ?_|refine T_callC rfl rfl rfl rfl rfl rfl rfl (fun hg w hw=>isNamePrg_spec s (by omega) w) ?_)|(show T _ (.run _ _ (_::_) _ _::_) _ _ _;first|refine rc rfl rfl rfl rfl rfl rfl rfl (fun w hw=>isNamePrg_spec s (by omega) w) ?_|refine rcG rfl rfl rfl rfl rfl rfl rfl rfl rfl (fun hg w hw=>isNamePrg_spec s (by omega) w) ?_)|(show ∀ _:Nat,T _ _ _ _ _;intro _)|(show T _ (.code .ret::_) _ _ _;refine T_retV [] rfl (Hle.none _) ⟨congrArg Value.bool (by unfold siglum22;rw [if_neg h2]),rfl⟩))
def halfN (L M:List (List Int)):Nat:=(L.filter fun s => !decide (s∈M)).length
theorem halfN_snoc (L M:List (List Int)) (s:List Int):halfN (L++[s]) M=halfN L M+(if s∈M then 0 else 1):=by
 unfold halfN
 rw [List.filter_append,List.length_append]
 congr 1
 by_cases h:s∈M <;> simp [h]
theorem halfN_len (L M:List (List Int)):halfN L M≤L.length:=List.length_filter_le _ _
theorem distC_spec (b7:Nat) (x y:Value) (p q:List Int) (w:World) (h:RdC w b7 0 [y]) (hx:Rd (wr w) [x] [intsD p]) (hy:Rd (wr w) [y] [intsD q]) :
  Spec Tryz.prog 56 [x, .pointer (some ⟨b7,0,none⟩)] w (fun v R=>v = .bool (decide (q=p))∧R=[]):=by
 refine spec_of sg Tryz.func56 rfl rfl rfl ?_
 repeat' (first|refine d1 ?_|(show T _ (.ops _ (_::_)::_) _ _ _;first|refine T_val rfl (Val.load rfl (fun hg=>rdOld h)) rfl rfl rfl ?_|refine T_valC rfl (Val.load rfl (fun hg=>rdOld h)) rfl rfl rfl rfl rfl ?_|refine T_call rfl rfl rfl rfl rfl (fun w hw=>equalI_spec y x q p w (hy.old hw) (hx.old hw)) ?_|refine T_callC rfl rfl rfl rfl rfl rfl rfl (fun hg w hw=>equalI_spec y x q p w (hy.old hw) (hx.old hw)) ?_)|(show T _ (.run _ _ (_::_) _ _::_) _ _ _;first|refine rv rfl rfl rfl (Val.load rfl (fun hg=>rdOld h)) rfl rfl rfl ?_|refine rg rfl rfl rfl (Val.load rfl (fun hg=>rdOld h)) rfl rfl rfl rfl rfl ?_|refine rc rfl rfl rfl rfl rfl rfl rfl (fun w hw=>equalI_spec y x q p w (hy.old hw) (hx.old hw)) ?_|refine rcG rfl rfl rfl rfl rfl rfl rfl rfl rfl (fun hg w hw=>equalI_spec y x q p w (hy.old hw) (hx.old hw)) ?_)|(show ∀ _:Nat,T _ _ _ _ _;intro _)|(show T _ (.code .ret::_) _ _ _;refine T_retV [] rfl (Hle.none _) ⟨rfl,rfl⟩))
theorem half_spec (x y:Value) (L M:List (List Int)) (w:World) (hx:Rd (wr w) [x] [rowsD L]) (hy:Rd (wr w) [y] [rowsD M]) :
  Spec Tryz.prog 55 [x,y] w (fun v R=>v = .int .i64 (halfN L M:Nat)∧R=[]):=by
 obtain⟨A5,n5,c5,cs5,rfl,hm5,hl5,hnc5,hcap5,hat5,hrd5⟩:=hx.slice
 obtain⟨A7,n7,c7,cs7,rfl,hm7,hl7,hnc7,hcap7,hat7,hrd7⟩:=hy.slice
 rw [List.length_map,Nat.mul_one] at hm5 hm7
 refine spec_of sg Tryz.func55 rfl rfl rfl ?_
 repeat' (first|refine d1 ?_|(show ∀ _:Nat,T _ _ _ _ _;intro _))
 refine T_loopX (fun k:Nat=>[(10, .int .i64 (k:Nat)),(5, .int .i64 (halfN (L.take k) M:Nat))]) (fun _=>[]) (fun k=>k≤n5) (fun k=>n5 - k) 0 (Nat.zero_le _) ?_
 rintro k hk
 have hkl:halfN (L.take k) M≤k:=Nat.le_trans (halfN_len _ _) (by rw [List.length_take];omega)
 repeat' (first|refine d1 ?_|(show ∀ _:Nat,T _ _ _ _ _;intro _))
 refine T_if rfl (fun h5=>?_) (fun h5=>?_)
 ·simp only [decide_eq_true_eq] at h5
  obtain⟨s,hs⟩:∃ s,L[k]?=some s:=⟨_,List.getElem?_eq_getElem (by omega)⟩
  obtain⟨u,hu,hru⟩:=hrd5.get (i:=k) (d:=intsD s) (by rw [List.getElem?_map,hs];rfl)
  obtain⟨hi5,hc5⟩:=hat5 (by omega)
  have hcu:=hc5 k u hu
  obtain⟨b5,o5,e5⟩:∃ b o,A5=some ⟨b,o,none⟩:=⟨_,_,hi5⟩
  subst e5
  obtain⟨A6,c6,rfl,-,-,-⟩:=hru.row1
  have hsn:halfN (L.take (k+1)) M=halfN (L.take k) M+(if s∈M then 0 else 1):=by rw [take_snoc _ _ _ hs,halfN_snoc]
  have hrk:RdC w b5 (o5+(k:Int).toNat * 1) [.slice A6 s.length c6]:=RdC.one (by rw [off1];exact hcu)
  repeat' (first|refine d1 ?_|(show T _ (.ops _ (_::_)::_) _ _ _;first|refine T_val rfl (Val.load rfl (fun hg=>rdOld hrk)) rfl rfl rfl ?_|refine T_valC rfl (Val.load rfl (fun hg=>rdOld hrk)) rfl rfl rfl rfl rfl ?_)|(show T _ (.run _ _ (_::_) _ _::_) _ _ _;first|refine rv rfl rfl rfl (Val.load rfl (fun hg=>rdOld hrk)) rfl rfl rfl ?_|refine rg rfl rfl rfl (Val.load rfl (fun hg=>rdOld hrk)) rfl rfl rfl rfl rfl ?_)|(show ∀ _:Nat,T _ _ _ _ _;intro _))
  rename_i t7
  refine T_le (H':=[blk t7 [.slice A6 s.length c6] 24]) (Hle.refl _) ?_
  repeat' (first|refine d1 ?_|(show T _ (.ops _ (_::_)::_) _ _ _;first|refine T_call rfl rfl rfl rfl rfl (fun w hw=>containsFuncR_spec A7 n7 c7 cs7 _ [] [_] (fun i=>decide (s=M.getD i [])) w (src_below ⟨hl7,fun h0=>⟨(hat7 h0).1,(hat7 h0).2⟩⟩ hw.below) (by omega) (fun i x hx w' hb'=>distC_spec t7 x _ (M.getD i []) s w' (RdC.below (rdBlk8 hw) hb') (((rdAtM hrd7 hx).old hw).mono (wr_below hb')) ((hru.old hw).mono (wr_below hb')))) ?_|refine T_callC rfl rfl rfl rfl rfl rfl rfl (fun hg w hw=>containsFuncR_spec A7 n7 c7 cs7 _ [] [_] (fun i=>decide (s=M.getD i [])) w (src_below ⟨hl7,fun h0=>⟨(hat7 h0).1,(hat7 h0).2⟩⟩ hw.below) (by omega) (fun i x hx w' hb'=>distC_spec t7 x _ (M.getD i []) s w' (RdC.below (rdBlk8 hw) hb') (((rdAtM hrd7 hx).old hw).mono (wr_below hb')) ((hru.old hw).mono (wr_below hb')))) ?_)|(show T _ (.run _ _ (_::_) _ _::_) _ _ _;first|refine rc rfl rfl rfl rfl rfl rfl rfl (fun w hw=>containsFuncR_spec A7 n7 c7 cs7 _ [] [_] (fun i=>decide (s=M.getD i [])) w (src_below ⟨hl7,fun h0=>⟨(hat7 h0).1,(hat7 h0).2⟩⟩ hw.below) (by omega) (fun i x hx w' hb'=>distC_spec t7 x _ (M.getD i []) s w' (RdC.below (rdBlk8 hw) hb') (((rdAtM hrd7 hx).old hw).mono (wr_below hb')) ((hru.old hw).mono (wr_below hb')))) ?_|refine rcG rfl rfl rfl rfl rfl rfl rfl rfl rfl (fun hg w hw=>containsFuncR_spec A7 n7 c7 cs7 _ [] [_] (fun i=>decide (s=M.getD i [])) w (src_below ⟨hl7,fun h0=>⟨(hat7 h0).1,(hat7 h0).2⟩⟩ hw.below) (by omega) (fun i x hx w' hb'=>distC_spec t7 x _ (M.getD i []) s w' (RdC.below (rdBlk8 hw) hb') (((rdAtM hrd7 hx).old hw).mono (wr_below hb')) ((hru.old hw).mono (wr_below hb')))) ?_)|(show ∀ _:Nat,T _ _ _ _ _;intro _))
  have hany:((List.range n7).any fun i=>decide (s=M.getD i []))=decide (s∈M):=by
   rw [Bool.eq_iff_iff,List.any_eq_true,decide_eq_true_eq]
   constructor
   ·rintro⟨i,hi,e⟩
    have hil:=List.mem_range.1 hi
    rw [of_decide_eq_true e,List.getD_eq_getElem?_getD,List.getElem?_eq_getElem (by omega)]
    exact List.getElem_mem _
   ·intro hm
    obtain⟨j,hj⟩:=List.mem_iff_getElem?.1 hm
    have hjl:=(List.getElem?_eq_some_iff.1 hj).1
    exact⟨j,List.mem_range.2 (by omega),by rw [List.getD_eq_getElem?_getD,hj];exact decide_eq_true rfl⟩
  refine T_if rfl (fun h6=>?_) (fun h6=>?_)
  ·rw [hany] at h6
   simp only [Bool.not_eq_true',decide_eq_false_iff_not] at h6
   rw [if_neg h6] at hsn
   repeat' (first|refine d1 ?_|(show ∀ _:Nat,T _ _ _ _ _;intro _))
   exact T_backX (k+1) (by omega) (by omega) (hE:=⟨rfl,by rw [hsn];rfl,trivial⟩) (hG:=Hle.none _)
  ·rw [hany] at h6
   simp only [Bool.not_eq_false',decide_eq_true_eq] at h6
   rw [if_pos h6] at hsn
   repeat' (first|refine d1 ?_|(show ∀ _:Nat,T _ _ _ _ _;intro _))
   exact T_backX (k+1) (by omega) (by omega) (hE:=⟨rfl,by rw [hsn];rfl,trivial⟩) (hG:=Hle.none _)
 ·simp only [decide_eq_false_iff_not] at h5
  rw [List.take_of_length_le (by omega)]
  repeat' (first|refine d1 ?_|(show ∀ _:Nat,T _ _ _ _ _;intro _)|(show T _ (.code .ret::_) _ _ _;refine T_retV [] rfl (Hle.none _) ⟨rfl,rfl⟩))
end Go.Proofs.YtabhdaehomjlgaaGreat
namespace Go.Proofs.YtabhdaehomjlgaaGreat
open Go.RowKit Go.Shelf Go.Proofs
set_option maxRecDepth 100000
set_option maxHeartbeats 4000000

structure OfR (w:World) (A1:Option Addr) (c1:Nat) (A2:Option Addr) (c2 m:Nat) (ps:List Int) (ns names:List ByteArray):Prop where
 t:TrA w A1 m c1 A2 m c2 ps ns
 ok:tOk ps ns
 lf:(lfI ns).length=names.length
 mem:∀ k∈lfI ns,ns.getD k ByteArray.empty∈names
 inn:ps.length≤names.length+13
theorem OfR.cls {w0 w:World} {H:List HA} {A1 A2:Option Addr} {c1 c2 m:Nat} {ps:List Int} {ns names:List ByteArray} (h:OfR w0 A1 c1 A2 c2 m ps ns names) (hw:Cls w0 w H):OfR w A1 c1 A2 c2 m ps ns names:=⟨h.t.cls hw,h.ok,h.lf,h.mem,h.inn⟩
theorem OfR.of {w:World} {A1 A2 An:Option Addr} {c1 c2 m nn cn:Nat} {ps:List Int} {ns names:List ByteArray} (h:OfR w A1 c1 A2 c2 m ps ns names) (hs:Src w 1 An nn (names.map Value.string)) (hnn:names.length=nn) (h12:nn≤12) (hnd:names.Nodup) :
  Spec Tryz.prog 14 [.agg #[.slice A1 m c1, .slice A2 m c2], .slice An nn cn] w (fun v R=>∃ (x:Value) (L:List (List Int)),ofOk ps ns names L∧v = .tuple #[x, .int .i64 0]∧R=[dat [x] [rowsD L]]) :=
 splitOf_spec A1 A2 An m c1 m c2 nn cn ps ns names w h.t h.ok hs hnn h12 hnd (by rw [h.lf];exact hnn) h.mem (by have:=h.inn;omega)
theorem ofOk_len {ps:List Int} {ns names:List ByteArray} {L:List (List Int)} (h:ofOk ps ns names L):L.Nodup:=h.asc.imp fun {a b} hab e=>by subst e;unfold ltLs at hab;rw [cmpLs_self] at hab;omega
theorem nodup_sub_len {α:Type} [DecidableEq α]:∀ {l m:List α},l.Nodup→(∀ x∈l,x∈m)→l.length≤m.length
 | [],_,_,_=>Nat.zero_le _
 | x::l,m,h,hs=>by
  rw [List.nodup_cons] at h
  have hx:=hs x (.head _)
  have h1:=nodup_sub_len (l:=l) (m:=m.erase x) h.2 fun y hy=>(List.mem_erase_of_ne (fun e=>h.1 (by rw [← e];exact hy))).2 (hs y (.tail _ hy))
  rw [List.length_erase_of_mem hx] at h1
  have:=List.length_pos_of_mem hx
  rw [List.length_cons]
  omega
theorem ofOk_bnd {ps:List Int} {ns names:List ByteArray} {L:List (List Int)} (h:ofOk ps ns names L):L.length≤ps.length:=by
 have:=nodup_sub_len (m:=(List.range ps.length).map fun i=>nrmI names.length (plS names (ndT ps ns i))) (ofOk_len h) fun s hs=>by
  obtain⟨-,i,-,hi,e⟩:=(h.mem s).1 hs
  exact List.mem_map.2 ⟨i,List.mem_range.2 hi,e.symm⟩
 rw [List.length_map,List.length_range] at this
 exact this
theorem distance_spec (A1 A2 B1 B2 An:Option Addr) (c1 c2 m d1' d2' m' nn cn:Nat) (ps qs:List Int) (ns ms names:List ByteArray) (w:World) (h1:OfR w A1 c1 A2 c2 m ps ns names) (h2:OfR w B1 d1' B2 d2' m' qs ms names) (hs:Src w 1 An nn (names.map Value.string)) (hnn:names.length=nn) (h12:nn≤12) (hnd:names.Nodup) :
  Spec Tryz.prog 15 [.agg #[.slice A1 m c1, .slice A2 m c2], .agg #[.slice B1 m' d1', .slice B2 m' d2'], .slice An nn cn] w (fun v R=>∃ L M:List (List Int),ofOk ps ns names L∧ofOk qs ms names M∧v = .tuple #[.int .i64 ((halfN L M+halfN M L:Nat):Int), .int .i64 0]∧R=[]):=by
 refine spec_of sg Tryz.func15 rfl rfl rfl ?_
 refine T_op (OpT.box (cs:=[.slice A1 m c1, .slice A2 m c2]) rfl rfl rfl rfl rfl rfl rfl (fun b3=>?_))
 refine T_op (OpT.box (cs:=[.slice B1 m' d1', .slice B2 m' d2']) rfl rfl rfl rfl rfl rfl rfl (fun b4=>?_))
 repeat' (first|refine d1 ?_|(show ∀ _:Nat,T _ _ _ _ _;intro _))
 refine T_op (OpT.call rfl rfl rfl rfl rfl (fun w hw=>(h1.cls hw).of (src_below hs hw.below) hnn h12 hnd) ?_)
 rintro u R ⟨x,L,hL,rfl,rfl⟩
 refine T_le (H':=[dat [x] [rowsD L],blk b4 [.slice B1 m' d1', .slice B2 m' d2'] 30]) (hle_pm [0,1] [_,_,_] []) ?_
 refine T_open fun p hp=>?_
 repeat' (first|refine d1 ?_|(show ∀ _:Nat,T _ _ _ _ _;intro _))
 refine T_if rfl (fun h=>by exfalso;simp at h) (fun _=>?_)
 repeat' (first|refine d1 ?_|(show ∀ _:Nat,T _ _ _ _ _;intro _))
 refine T_op (OpT.call rfl rfl rfl rfl rfl (fun w hw=>(h2.cls hw).of (src_below hs hw.below) hnn h12 hnd) ?_)
 rintro u R ⟨y,M,hM,rfl,rfl⟩
 refine T_le (H':=[dat [y] [rowsD M],fz p]) (hle_pm [0,1] [_,_,_] []) ?_
 refine T_open fun q hq=>?_
 have hx:=hp.slice
 obtain⟨A5,n5,c5,cs5,rfl,hm5,hl5,hnc5,hcap5,-,-⟩:=hp.slice
 obtain⟨A7,n7,c7,cs7,rfl,hm7,hl7,hnc7,hcap7,-,-⟩:=hq.slice
 rw [List.length_map,Nat.mul_one] at hm5 hm7
 have hb1:=ofOk_bnd hL
 have hb2:=ofOk_bnd hM
 have hi1:=h1.inn
 have hi2:=h2.inn
 have hh1:=halfN_len L M
 have hh2:=halfN_len M L
 repeat' (first|refine d1 ?_|(show ∀ _:Nat,T _ _ _ _ _;intro _))
 refine T_if rfl (fun h=>by exfalso;simp at h) (fun _=>?_)
 repeat' (first|refine d1 ?_|(show T _ (.ops _ (_::_)::_) _ _ _;first|refine T_call rfl rfl rfl rfl rfl (fun w hw=>half_spec _ _ L M w (hp.own hw) (hq.own hw)) ?_|refine T_callC rfl rfl rfl rfl rfl rfl rfl (fun hg w hw=>half_spec _ _ L M w (hp.own hw) (hq.own hw)) ?_|refine T_call rfl rfl rfl rfl rfl (fun w hw=>half_spec _ _ M L w (hq.own hw) (hp.own hw)) ?_|refine T_callC rfl rfl rfl rfl rfl rfl rfl (fun hg w hw=>half_spec _ _ M L w (hq.own hw) (hp.own hw)) ?_)|(show T _ (.run _ _ (_::_) _ _::_) _ _ _;first|refine rc rfl rfl rfl rfl rfl rfl rfl (fun w hw=>half_spec _ _ L M w (hp.own hw) (hq.own hw)) ?_|refine rcG rfl rfl rfl rfl rfl rfl rfl rfl rfl (fun hg w hw=>half_spec _ _ L M w (hp.own hw) (hq.own hw)) ?_|refine rc rfl rfl rfl rfl rfl rfl rfl (fun w hw=>half_spec _ _ M L w (hq.own hw) (hp.own hw)) ?_|refine rcG rfl rfl rfl rfl rfl rfl rfl rfl rfl (fun hg w hw=>half_spec _ _ M L w (hq.own hw) (hp.own hw)) ?_)|(show ∀ _:Nat,T _ _ _ _ _;intro _))
 repeat' (first|refine d1 ?_|(show ∀ _:Nat,T _ _ _ _ _;intro _)|(show T _ (.code .ret::_) _ _ _;refine T_retV [] rfl (Hle.none _) ⟨L,M,hL,hM,by rw [Int.natCast_add];rfl,rfl⟩))
end Go.Proofs.YtabhdaehomjlgaaGreat
namespace Go.Proofs.YtabhdaehomjlgaaGreat
open Go.RowKit Go.Shelf Go.Proofs
set_option maxRecDepth 100000
set_option maxHeartbeats 8000000

theorem checkOk_spec (A1 A2:Option Addr) (m c1 c2:Nat) (ps:List Int) (ns:List ByteArray) (w:World) (ht:TrA w A1 m c1 A2 m c2 ps ns) (hok:tOk ps ns) :
  Spec Tryz.prog 57 [.agg #[.slice A1 m c1, .slice A2 m c2]] w (fun v R=>v = .int .i64 0∧R=[]) :=
 (checkTree_spec A1 A2 m c1 m c2 ps ns w ht).mono fun v R ⟨e,he,h1,h2⟩=>⟨by rw [h1,he.2 hok],h2⟩
theorem rd_strsU {w:World} {A:Option Addr} {n c:Nat} {r:List ByteArray} (h:Src w 1 A n (r.map Value.string)) (hn:n≤c) (hc:c≤9223372036854775807):Rd (wr w) [.slice A n c] [strsD r]:=by
 have:=h.rdD hn hc (Rd.vals _)
 exact this
theorem same_spec (A1 A2 B1 B2:Option Addr) (c1 c2 m e1 e2 m':Nat) (ps qs:List Int) (ns ms:List ByteArray) (w:World) (h1:TrA w A1 m c1 A2 m c2 ps ns) (k1:tOk ps ns) (l1:(lfI ns).length≤12) (h2:TrA w B1 m' e1 B2 m' e2 qs ms) (k2:tOk qs ms) (l2:(lfI ms).length≤12) :
  Spec Tryz.prog 18 [.agg #[.slice A1 m c1, .slice A2 m c2], .agg #[.slice B1 m' e1, .slice B2 m' e2]] w (fun v R=>v = .tuple #[.bool (decide (cps ps ns=cps qs ms) && decide (cns ps ns=cns qs ms)), .int .i64 0]∧R=[]):=by
 refine spec_of sg Tryz.func18 rfl rfl rfl ?_
 refine T_op (OpT.box (cs:=[.slice A1 m c1, .slice A2 m c2]) rfl rfl rfl rfl rfl rfl rfl (fun b2=>?_))
 refine T_op (OpT.box (cs:=[.slice B1 m' e1, .slice B2 m' e2]) rfl rfl rfl rfl rfl rfl rfl (fun b3=>?_))
 repeat' (first|refine d1 ?_|(show T _ (.ops _ (_::_)::_) _ _ _;first|refine T_call rfl rfl rfl rfl rfl (fun w hw=>checkOk_spec A1 A2 m c1 c2 ps ns w (h1.cls hw) k1) ?_|refine T_callC rfl rfl rfl rfl rfl rfl rfl (fun hg w hw=>checkOk_spec A1 A2 m c1 c2 ps ns w (h1.cls hw) k1) ?_|refine T_call rfl rfl rfl rfl rfl (fun w hw=>checkOk_spec B1 B2 m' e1 e2 qs ms w (h2.cls hw) k2) ?_|refine T_callC rfl rfl rfl rfl rfl rfl rfl (fun hg w hw=>checkOk_spec B1 B2 m' e1 e2 qs ms w (h2.cls hw) k2) ?_)|(show T _ (.run _ _ (_::_) _ _::_) _ _ _;first|refine rc rfl rfl rfl rfl rfl rfl rfl (fun w hw=>checkOk_spec A1 A2 m c1 c2 ps ns w (h1.cls hw) k1) ?_|refine rcG rfl rfl rfl rfl rfl rfl rfl rfl rfl (fun hg w hw=>checkOk_spec A1 A2 m c1 c2 ps ns w (h1.cls hw) k1) ?_|refine rc rfl rfl rfl rfl rfl rfl rfl (fun w hw=>checkOk_spec B1 B2 m' e1 e2 qs ms w (h2.cls hw) k2) ?_|refine rcG rfl rfl rfl rfl rfl rfl rfl rfl rfl (fun hg w hw=>checkOk_spec B1 B2 m' e1 e2 qs ms w (h2.cls hw) k2) ?_)|(show ∀ _:Nat,T _ _ _ _ _;intro _))
 refine T_if rfl (fun h=>by exfalso;simp at h) (fun _=>?_)
 refine T_cutX 1 [6,7] (fun s:(Nat × Nat) × ((Option Addr × Nat) × (Option Addr × Nat)) × ((Option Addr × Nat) × (Option Addr × Nat))=>[(6, .pointer (some ⟨s.1.1,0,none⟩)),(7, .pointer (some ⟨s.1.2,0,none⟩))]) (fun s=>[blk s.1.1 [.slice s.2.1.1.1 ps.length s.2.1.1.2, .slice s.2.1.2.1 ps.length s.2.1.2.2] 30,blk s.1.2 [.slice s.2.2.1.1 qs.length s.2.2.1.2, .slice s.2.2.2.1 qs.length s.2.2.2.2] 30,row 3 1 s.2.1.1.1 s.2.1.1.2 ps.length ((cps ps ns).map (Value.int .i64)),row 9 1 s.2.1.2.1 s.2.1.2.2 ps.length ((cns ps ns).map Value.string),row 3 1 s.2.2.1.1 s.2.2.1.2 qs.length ((cps qs ms).map (Value.int .i64)),row 9 1 s.2.2.2.1 s.2.2.2.2 qs.length ((cns qs ms).map Value.string)]) (fun s=>(ps.length≤s.2.1.1.2∧ps.length≤s.2.1.2.2)∧(qs.length≤s.2.2.1.2∧qs.length≤s.2.2.2.2)) ?_ ?_
 ·refine dw0 7 [blk b3 [.slice B1 m' e1, .slice B2 m' e2] 30,blk b2 [.slice A1 m c1, .slice A2 m c2] 30] ?_
  repeat' (first|(show T _ (.draw _ _ _ _ _::_) _ _ _;first|refine dw1 ?_|refine dwb rfl (by decide +kernel) ?_)|(show AllL _ [];exact True.intro)|(show AllL _ (_::_);refine ⟨?_,?_⟩)|(show OpT _ _ _ _ _ _ _;first|refine dwx ?_|(refine OpT.callE2 rfl rfl rfl rfl rfl (fun w hw=>canonical_spec A1 A2 m c1 m c2 ps ns w (h1.cls hw) k1 l1) (fun y hy1=>?_);obtain⟨⟨r1,r2⟩,⟨r3,r4⟩⟩:=y;dsimp only at hy1 ⊢;refine ⟨fun _=>(by first|exact Hle.none _|exact Hle.sub|exact absurd ‹_› (by decide +kernel)),?_⟩)|(refine OpT.callE2 rfl rfl rfl rfl rfl (fun w hw=>canonical_spec B1 B2 m' e1 m' e2 qs ms w (h2.cls hw) k2 l2) (fun y hy2=>?_);obtain⟨⟨q1,q2⟩,⟨q3,q4⟩⟩:=y;dsimp only at hy2 ⊢;refine ⟨fun _=>(by first|exact Hle.none _|exact Hle.sub|exact absurd ‹_› (by decide +kernel)),?_⟩)|refine OpT.storeA rfl rfl rfl rfl rfl rfl (Nat.le_of_ble_eq_true rfl) ⟨fun _=>(by first|exact Hle.none _|exact Hle.sub|exact absurd ‹_› (by decide +kernel)),?_⟩)|(show ∀ _:Nat,T _ _ _ _ _;intro _)|(show T _ (.mark _::_) _ _ _;exact T_meetX ((_,_),((r1,r2),(r3,r4)),((q1,q2),(q3,q4))) ⟨hy1,hy2⟩ (hG:=by exact Hle.srt)))
 rintro⟨⟨b6,b7⟩,⟨⟨A3,c3⟩,⟨A4,c4⟩⟩,⟨⟨A5,c5⟩,⟨A6,c6⟩⟩⟩ ⟨⟨g1,g2⟩,⟨g3,g4⟩⟩
 dsimp only at g1 g2 g3 g4 ⊢
 refine T_le (hle_pm [2,0,1,3,4,5] [_,_,_,_,_,_] []) ?_
 refine T_rowCap fun q1=>?_
 refine T_le (hle_pm [3,0,1,2,4,5] [_,_,_,_,_,_] []) ?_
 refine T_rowCap fun q2=>?_
 refine T_le (hle_pm [4,0,1,2,3,5] [_,_,_,_,_,_] []) ?_
 refine T_rowCap fun q3=>?_
 refine T_le (hle_pm [5,0,1,2,3,4] [_,_,_,_,_,_] []) ?_
 refine T_rowCap fun q4=>?_
 refine T_le (H':=[row 9 1 A6 c6 qs.length ((cns qs ms).map Value.string),row 3 1 A5 c5 qs.length ((cps qs ms).map (Value.int .i64)),row 9 1 A4 c4 ps.length ((cns ps ns).map Value.string),row 3 1 A3 c3 ps.length ((cps ps ns).map (Value.int .i64)),blk b6 [.slice A3 ps.length c3, .slice A4 ps.length c4] 30,blk b7 [.slice A5 qs.length c5, .slice A6 qs.length c6] 30]) (Hle.refl _) ?_
 repeat' (first|refine d1 ?_|(show T _ (.ops _ (_::_)::_) _ _ _;first|refine T_call rfl rfl rfl rfl rfl (fun w hw=>equalI_spec (.slice A3 ps.length c3) (.slice A5 qs.length c5) (cps ps ns) (cps qs ms) w (rd_intsU (srcRw w hw) (by omega) (by omega)) (rd_intsU (srcRw w hw) (by omega) (by omega))) ?_|refine T_callC rfl rfl rfl rfl rfl rfl rfl (fun hg w hw=>equalI_spec (.slice A3 ps.length c3) (.slice A5 qs.length c5) (cps ps ns) (cps qs ms) w (rd_intsU (srcRw w hw) (by omega) (by omega)) (rd_intsU (srcRw w hw) (by omega) (by omega))) ?_|refine T_call rfl rfl rfl rfl rfl (fun w hw=>equalStr_spec (.slice A4 ps.length c4) (.slice A6 qs.length c6) (cns ps ns) (cns qs ms) w (rd_strsU (srcRw w hw) (by omega) (by omega)) (rd_strsU (srcRw w hw) (by omega) (by omega))) ?_|refine T_callC rfl rfl rfl rfl rfl rfl rfl (fun hg w hw=>equalStr_spec (.slice A4 ps.length c4) (.slice A6 qs.length c6) (cns ps ns) (cns qs ms) w (rd_strsU (srcRw w hw) (by omega) (by omega)) (rd_strsU (srcRw w hw) (by omega) (by omega))) ?_)|(show T _ (.run _ _ (_::_) _ _::_) _ _ _;first|refine rc rfl rfl rfl rfl rfl rfl rfl (fun w hw=>equalI_spec (.slice A3 ps.length c3) (.slice A5 qs.length c5) (cps ps ns) (cps qs ms) w (rd_intsU (srcRw w hw) (by omega) (by omega)) (rd_intsU (srcRw w hw) (by omega) (by omega))) ?_|refine rcG rfl rfl rfl rfl rfl rfl rfl rfl rfl (fun hg w hw=>equalI_spec (.slice A3 ps.length c3) (.slice A5 qs.length c5) (cps ps ns) (cps qs ms) w (rd_intsU (srcRw w hw) (by omega) (by omega)) (rd_intsU (srcRw w hw) (by omega) (by omega))) ?_|refine rc rfl rfl rfl rfl rfl rfl rfl (fun w hw=>equalStr_spec (.slice A4 ps.length c4) (.slice A6 qs.length c6) (cns ps ns) (cns qs ms) w (rd_strsU (srcRw w hw) (by omega) (by omega)) (rd_strsU (srcRw w hw) (by omega) (by omega))) ?_|refine rcG rfl rfl rfl rfl rfl rfl rfl rfl rfl (fun hg w hw=>equalStr_spec (.slice A4 ps.length c4) (.slice A6 qs.length c6) (cns ps ns) (cns qs ms) w (rd_strsU (srcRw w hw) (by omega) (by omega)) (rd_strsU (srcRw w hw) (by omega) (by omega))) ?_)|(show ∀ _:Nat,T _ _ _ _ _;intro _))
 repeat' (first|refine d1 ?_|(show ∀ _:Nat,T _ _ _ _ _;intro _)|(show T _ (.code .ret::_) _ _ _;refine T_retV [] rfl (Hle.none _) ⟨rfl,rfl⟩))
end Go.Proofs.YtabhdaehomjlgaaGreat
namespace Go.Proofs.YtabhdaehomjlgaaGreat
open Go.RowKit Go.Shelf Go.Proofs
set_option maxRecDepth 100000
set_option maxHeartbeats 4000000

structure SplQ (w:World) (A:Option Addr) (n:Nat) (hs:List RwI):Prop where
 s:Src w 1 A n (hs.map fun x=>Value.slice x.A x.n x.cap)
 len:hs.length=n
 n12:n≤12
 rd:∀ x∈hs,Src w 1 x.A x.n (x.l.map (Value.int .i64))∧x.l.length=x.n∧(x.n≤x.cap∧x.cap≤9223372036854775807)∧x.n≤64
theorem SplQ.cls {w0 w:World} {H:List HA} {A:Option Addr} {n:Nat} {hs:List RwI} (h:SplQ w0 A n hs) (hw:Cls w0 w H):SplQ w A n hs :=
 ⟨src_below h.s hw.below,h.len,h.n12,fun x hx=>⟨src_below (h.rd x hx).1 hw.below,(h.rd x hx).2⟩⟩
theorem SplQ.at {w:World} {b o n:Nat} {hs:List RwI} (h:SplQ w (some ⟨b,o,none⟩) n hs) {k:Nat} {x:RwI} (hk:hs[k]?=some x):RdC w b (o+(k:Int).toNat * 1) [.slice x.A x.n x.cap]:=by
 have hkl:=(List.getElem?_eq_some_iff.1 hk).1
 have hl:=h.len
 have h9:=(h.s.get1 (i:=k) (by omega) (by rw [List.getElem?_map,hk];rfl)).2
 rw [Nat.mul_one] at h9
 rw [off1]
 exact h9
def gdNm (names:List ByteArray):Prop:=(∀ a∈names,siglum22 a=true)∧names.Nodup
def gdSp (N:Nat) (hs:List RwI):Prop:=∀ x∈hs,splOk N x.l
def gdPr (hs:List RwI) (n:Nat):Prop:=∀ i k,i<k→k<n→cmpAt hs i k=true
theorem SplQ.spl {w:World} {A:Option Addr} {n N:Nat} {hs:List RwI} (h:SplQ w A n hs) (hg:gdSp N hs):SplR w A n hs N:=⟨h.s,h.len,by have:=h.n12;omega,fun x hx=>⟨(h.rd x hx).1,(h.rd x hx).2.1,(h.rd x hx).2.2.1,hg x hx⟩⟩
def bldR (names:List ByteArray) (N:Nat) (hs:List RwI) (n:Nat) (tree:Value→Value→List HA→Prop) (v:Value) (R:List HA):Prop :=
 ∃ (P Q:Option Addr) (p pc q qc:Nat) (e:Int),v = .tuple #[.agg #[.slice P p pc, .slice Q q qc], .int .i64 e]∧(e=0→gdNm names∧gdSp N hs∧gdPr hs n)∧(gdNm names→gdSp N hs→¬ gdPr hs n→e=17)∧(gdNm names→gdSp N hs→gdPr hs n→4≤N→e=0∧tree (.slice P p pc) (.slice Q q qc) R)
theorem bldR.no {names:List ByteArray} {N:Nat} {hs:List RwI} {n:Nat} {tree:Value→Value→List HA→Prop} {e:Int} (he:e≠0) (h:¬ (gdNm names∧gdSp N hs)):bldR names N hs n tree (.tuple #[.agg #[.slice none 0 0, .slice none 0 0], .int .i64 e]) [] :=
 ⟨_,_,_,_,_,_,e,rfl,fun h9=>absurd h9 he,fun h1 h2=>absurd ⟨h1,h2⟩ h,fun h1 h2=>absurd ⟨h1,h2⟩ h⟩
theorem bld2_ok {a b:ByteArray} (ha:siglum22 a=true) (hb:siglum22 b=true) (hne:a≠b):tOk [-1,0,0] [ByteArray.empty,a,b]:=by
 have h0:siglum22 ByteArray.empty=false:=by decide +kernel
 refine ⟨by decide,by decide,rfl,⟨rfl,fun i h1 h2=>?_⟩,fun i h1 h2=>?_,fun i h1 h2=>?_⟩
 ·have h3:∀ i:Nat,i<3→0<i→0≤([-1,0,0]:List Int).getD i (-1)∧([-1,0,0]:List Int).getD i (-1)<(i:Int):=by decide +kernel
  exact h3 i h2 h1
 ·have h3:∀ i:Nat,i<3→kdsI [-1,0,0] i 3≠[]→i=0:=by decide +kernel
  rw [h3 i h1 h2];rfl
 ·have h3:∀ i:Nat,i<3→kdsI [-1,0,0] i 3=[]→i=1∨i=2:=by decide +kernel
  rcases h3 i h1 h2 with rfl|rfl
  ·refine ⟨ha,fun hm=>?_⟩
   rw [show [ByteArray.empty,a,b].take 1=[ByteArray.empty] from rfl,List.mem_singleton] at hm
   rw [show [ByteArray.empty,a,b].getD 1 ByteArray.empty=a from rfl] at hm
   rw [hm,h0] at ha;cases ha
  ·refine ⟨hb,fun hm=>?_⟩
   rw [show [ByteArray.empty,a,b].take 2=[ByteArray.empty,a] from rfl,show [ByteArray.empty,a,b].getD 2 ByteArray.empty=b from rfl] at hm
   simp only [List.mem_cons,List.not_mem_nil,or_false] at hm
   rcases hm with hm|hm
   ·rw [hm,h0] at hb;cases hb
   ·exact hne hm.symm
theorem oneRw:∀ hs:List RwI,oneCells (hs.map RwI.val)=true
 | []=>rfl
 | x::l=>by show (true && oneCells (l.map RwI.val))=true;rw [oneRw l];rfl
theorem ordB_le {p q:List Int}:ordB p q≤0↔q.length<p.length∨(q.length=p.length∧cmpLs p q≤0):=by
 unfold ordB
 have h1:=cmpI_lt (x:=((q.length:Nat):Int)) (y:=((p.length:Nat):Int))
 have h2:=cmpI_zero (x:=((q.length:Nat):Int)) (y:=((p.length:Nat):Int))
 split
 ·rename_i h
  rw [h2] at h
  omega
 ·rename_i h
  rw [h2] at h
  omega
theorem ordB_trans {p q r:List Int} (h1:ordB p q≤0) (h2:ordB q r≤0):ordB p r≤0:=by
 rw [ordB_le] at *
 rcases h1 with h1|⟨h1,h3⟩
 ·rcases h2 with h2|⟨h2,-⟩ <;> omega
 ·rcases h2 with h2|⟨h2,h4⟩
  ·omega
  ·exact .inr ⟨by omega,cmpLs_trans h3 h4⟩
theorem ordB_swap (p q:List Int):ordB q p = - ordB p q:=by
 unfold ordB
 have h1:=cmpI_swap ((q.length:Nat):Int) ((p.length:Nat):Int)
 have h2:=cmpLs_swap p q
 split <;> split <;> omega
def atB (m:Nat):List Int:=(List.range m).map fun i=>((3+i:Nat):Int)
theorem atB_succ (m:Nat):atB (m+1)=atB m++[((3+m:Nat):Int)]:=by unfold atB;rw [List.range_succ,List.map_append];rfl
theorem atB_len (m:Nat):(atB m).length=m:=by unfold atB;simp
def opB (own:List (List Int)) (m:Nat):List Int:=(List.range m).map fun i=>leastB own (atB i) ((2:Nat):Int) ((own.getD i []).getD 0 0) i
theorem opB_succ (own:List (List Int)) (m:Nat):opB own (m+1)=opB own m++[leastB own (atB m) ((2:Nat):Int) ((own.getD m []).getD 0 0) m]:=by unfold opB;rw [List.range_succ,List.map_append];rfl
theorem opB_len (own:List (List Int)) (m:Nat):(opB own m).length=m:=by unfold opB;simp
def lpB (own:List (List Int)) (m:Nat):List Int:=(List.range m).map fun j=>leastB own (atB own.length) ((2:Nat):Int) ((j+1:Nat):Int) own.length
theorem lpB_succ (own:List (List Int)) (m:Nat):lpB own (m+1)=lpB own m++[leastB own (atB own.length) ((2:Nat):Int) ((m+1:Nat):Int) own.length]:=by unfold lpB;rw [List.range_succ,List.map_append];rfl
theorem lpB_len (own:List (List Int)) (m:Nat):(lpB own m).length=m:=by unfold lpB;simp
def bldP (own:List (List Int)) (N:Nat):List Int:=[-1,0,0]++opB own own.length++lpB own (N - 1)
def bldNm (names:List ByteArray) (L:Nat):List ByteArray:=[ByteArray.empty,names.getD 0 ByteArray.empty,ByteArray.empty]++List.replicate L ByteArray.empty++names.drop 1
def bldT (names:List ByteArray) (N:Nat) (hs:List RwI) (n:Nat) (x y:Value) (R:List HA):Prop :=
 ∃ ys:List RwI,ys.Perm hs∧(∀ p q,p<q→q<n→ordB (ys.getD p rw0).l (ys.getD q rw0).l≤0)∧∃ (m:Nat) (s:(Option Addr × Nat) × (Option Addr × Nat)),m=(bldP ((cpR ys).map RwI.l) N).length∧(m≤s.1.2∧m≤s.2.2)∧x = .slice s.1.1 m s.1.2∧y = .slice s.2.1 m s.2.2 ∧
  R=[row 3 1 s.1.1 s.1.2 m ((cps (bldP ((cpR ys).map RwI.l) N) (bldNm names (cpR ys).length)).map (Value.int .i64)),row 9 1 s.2.1 s.2.2 m ((cns (bldP ((cpR ys).map RwI.l) N) (bldNm names (cpR ys).length)).map Value.string)]
theorem lfM_cnt (ns:List ByteArray):∀ m,m≤ns.length→(lfM ns m).length=((ns.take m).filter fun a=>decide (a≠ByteArray.empty)).length
 | 0,_=>rfl
 | m+1,h=>by
  obtain⟨a,ha⟩:∃ a,ns[m]?=some a:=⟨_,List.getElem?_eq_getElem (by omega)⟩
  have hg:ns.getD m ByteArray.empty=a:=by rw [List.getD_eq_getElem?_getD,ha];rfl
  rw [lfM_succ,take_snoc _ _ _ ha,List.filter_append,List.length_append,List.length_append,lfM_cnt ns m (by omega),hg]
  congr 1
  by_cases e:a=ByteArray.empty
  ·rw [if_pos e,List.filter_cons_of_neg (by simp [e])];rfl
  ·rw [if_neg e,List.filter_cons_of_pos (by simp [e])];rfl
theorem lfI_cnt (ns:List ByteArray):(lfI ns).length=(ns.filter fun a=>decide (a≠ByteArray.empty)).length:=by
 have:=lfM_cnt ns ns.length (Nat.le_refl _)
 rwa [List.take_length] at this
theorem build_spec (An A:Option Addr) (N cn n c:Nat) (names:List ByteArray) (hs:List RwI) (w:World) (hsn:Src w 1 An N (names.map Value.string)) (hN:names.length=N) (h9:N≤9) (hcn:N≤cn) (hsz:∀ a∈names,a.size≤20) (hq:SplQ w A n hs)
  (hpl:∀ ys:List RwI,ys.Perm hs→(∀ p q,p<q→q<n→ordB (ys.getD p rw0).l (ys.getD q rw0).l≤0)→gdNm names→gdSp N hs→gdPr hs n→3≤N→tOk (bldP ((cpR ys).map RwI.l) N) (bldNm names (cpR ys).length)) :
  Spec Tryz.prog 10 [.slice An N cn, .slice A n c] w (bldR names N hs n (bldT names N hs n)):=by
 have hl:=hq.len
 have hn:=hq.n12
 refine spec_of sg Tryz.func10 rfl rfl rfl ?_
 repeat' (first|refine d1 ?_|(show ∀ _:Nat,T _ _ _ _ _;intro _))
 rename_i b4
 refine T_le (H':=[blk b4 [.slice none 0 0, .slice none 0 0] 30]) (Hle.refl _) ?_
 refine T_if rfl (fun h=>?_) (fun h=>?_)
 ·simp only [decide_eq_true_eq] at h
  repeat' (first|refine d1 ?_|(show ∀ _:Nat,T _ _ _ _ _;intro _))
  refine T_le (H':=[blk b4 [.slice none 0 0, .slice none 0 0] 30]) (Hle.refl _) ?_
  refine T_retM (vs:=[.agg #[.slice none 0 0, .slice none 0 0], .int .i64 5]) _ ⟨⟨b4,_,[.slice none 0 0, .slice none 0 0],rfl,rfl,rfl,rfl,(fun h=>by cases h),rfl,rdAll⟩,rfl,trivial⟩ (Hle.none _) ⟨_,_,_,_,_,_,5,rfl,fun h=>absurd h (by decide),fun _ h2 h3=>absurd ?_ h3,fun _ _ _ h4=>by omega⟩
  intro i k hik hk
  obtain⟨x,hx⟩:∃ x,hs[k]?=some x:=⟨_,List.getElem?_eq_getElem (by omega)⟩
  have:=(h2 x (List.mem_of_getElem? hx)).room
  omega
 simp only [decide_eq_false_iff_not] at h
 repeat' (first|refine d1 ?_|(show ∀ _:Nat,T _ _ _ _ _;intro _))
 refine T_if rfl (fun h=>by exfalso;simp at h;omega) (fun _=>?_)
 repeat' (first|refine d1 ?_|(show ∀ _:Nat,T _ _ _ _ _;intro _))
 refine T_loopX (fun k:Nat=>[(42, .int .i64 (k:Nat))]) (fun _=>[blk b4 [.slice none 0 0, .slice none 0 0] 30]) (fun k=>k≤N∧(∀ a∈names.take k,siglum22 a=true)∧(names.take k).Nodup) (fun k=>N - k) 0 ⟨Nat.zero_le _,fun a ha=>(by cases ha),List.nodup_nil⟩ ?_
 rintro k ⟨hk,hk1,hk2⟩
 repeat' (first|refine d1 ?_|(show ∀ _:Nat,T _ _ _ _ _;intro _))
 refine T_if rfl (fun h1=>?_) (fun h1=>?_)
 ·simp only [decide_eq_true_eq] at h1
  obtain⟨bn,on,rfl⟩:=hsn.base (by omega)
  obtain⟨a,ha⟩:∃ a,names[k]?=some a:=⟨_,List.getElem?_eq_getElem (by omega)⟩
  have hra:=src_str hsn (by omega) ha
  have ham:=List.mem_of_getElem? ha
  repeat' (first|refine d1 ?_|(show T _ (.ops _ (_::_)::_) _ _ _;first|refine T_val rfl (Val.load rfl (fun hg=>rdOld hra)) rfl rfl rfl ?_|refine T_valC rfl (Val.load rfl (fun hg=>rdOld hra)) rfl rfl rfl rfl rfl ?_|refine T_call rfl rfl rfl rfl rfl (fun w hw=>leafName_spec a (by have:=hsz a ham;omega) w) ?_|refine T_callC rfl rfl rfl rfl rfl rfl rfl (fun hg w hw=>leafName_spec a (by have:=hsz a ham;omega) w) ?_)|(show T _ (.run _ _ (_::_) _ _::_) _ _ _;first|refine rv rfl rfl rfl (Val.load rfl (fun hg=>rdOld hra)) rfl rfl rfl ?_|refine rg rfl rfl rfl (Val.load rfl (fun hg=>rdOld hra)) rfl rfl rfl rfl rfl ?_|refine rc rfl rfl rfl rfl rfl rfl rfl (fun w hw=>leafName_spec a (by have:=hsz a ham;omega) w) ?_|refine rcG rfl rfl rfl rfl rfl rfl rfl rfl rfl (fun hg w hw=>leafName_spec a (by have:=hsz a ham;omega) w) ?_)|(show ∀ _:Nat,T _ _ _ _ _;intro _))
  refine T_if rfl (fun h2=>?_) (fun h2=>?_)
  ·simp only [Bool.not_eq_true'] at h2
   repeat' (first|refine d1 ?_|(show ∀ _:Nat,T _ _ _ _ _;intro _))
   refine T_le (H':=[blk b4 [.slice none 0 0, .slice none 0 0] 30]) (Hle.refl _) ?_
   exact T_retM (vs:=[.agg #[.slice none 0 0, .slice none 0 0], .int .i64 14]) _ ⟨⟨b4,_,[.slice none 0 0, .slice none 0 0],rfl,rfl,rfl,rfl,(fun h=>by cases h),rfl,rdAll⟩,rfl,trivial⟩ (Hle.none _) (bldR.no (by decide) fun h8=>(by have:=h8.1.1 a ham;rw [h2] at this;cases this))
  simp only [Bool.not_eq_false'] at h2
  repeat' (first|refine d1 ?_|(show T _ (.ops _ (_::_)::_) _ _ _;first|refine T_call rfl rfl rfl rfl rfl (fun w hw=>containsStr_spec (some ⟨bn,on,none⟩) k cn (names.take k) a w (by rw [List.map_take];exact src_takeT (src_below hsn hw.below) k (by omega)) (by rw [List.length_take];omega) (by omega)) ?_|refine T_callC rfl rfl rfl rfl rfl rfl rfl (fun hg w hw=>containsStr_spec (some ⟨bn,on,none⟩) k cn (names.take k) a w (by rw [List.map_take];exact src_takeT (src_below hsn hw.below) k (by omega)) (by rw [List.length_take];omega) (by omega)) ?_)|(show T _ (.run _ _ (_::_) _ _::_) _ _ _;first|refine rc rfl rfl rfl rfl rfl rfl rfl (fun w hw=>containsStr_spec (some ⟨bn,on,none⟩) k cn (names.take k) a w (by rw [List.map_take];exact src_takeT (src_below hsn hw.below) k (by omega)) (by rw [List.length_take];omega) (by omega)) ?_|refine rcG rfl rfl rfl rfl rfl rfl rfl rfl rfl (fun hg w hw=>containsStr_spec (some ⟨bn,on,none⟩) k cn (names.take k) a w (by rw [List.map_take];exact src_takeT (src_below hsn hw.below) k (by omega)) (by rw [List.length_take];omega) (by omega)) ?_)|(show ∀ _:Nat,T _ _ _ _ _;intro _))
  refine T_if rfl (fun h3=>?_) (fun h3=>?_)
  ·repeat' (first|refine d1 ?_|(show ∀ _:Nat,T _ _ _ _ _;intro _))
   refine T_le (H':=[blk b4 [.slice none 0 0, .slice none 0 0] 30]) (Hle.refl _) ?_
   refine T_retM (vs:=[.agg #[.slice none 0 0, .slice none 0 0], .int .i64 7]) _ ⟨⟨b4,_,[.slice none 0 0, .slice none 0 0],rfl,rfl,rfl,rfl,(fun h=>by cases h),rfl,rdAll⟩,rfl,trivial⟩ (Hle.none _) (bldR.no (by decide) fun h8=>?_)
   obtain⟨i,hi⟩:=List.mem_iff_getElem?.1 (has22_iff.1 h3)
   rw [List.getElem?_take] at hi
   split at hi
   ·have:=nodup_at h8.1.2 hi ha
    omega
   ·cases hi
  have hnot:a ∉ names.take k:=fun hm=>by rw [has22_iff.2 hm] at h3;cases h3
  repeat' (first|refine d1 ?_|(show ∀ _:Nat,T _ _ _ _ _;intro _))
  refine T_backX (k+1) ⟨by omega,fun z hz=>?_,?_⟩ (by omega)
  ·rw [take_snoc _ _ _ ha] at hz
   rcases List.mem_append.1 hz with hz|hz
   ·exact hk1 z hz
   ·rw [List.mem_singleton] at hz;rw [hz];exact h2
  ·rw [take_snoc _ _ _ ha,List.nodup_append]
   exact⟨hk2,by simp,fun x hx y hy e=>by rw [List.mem_singleton] at hy;subst hy;subst e;exact hnot hx⟩
 simp only [decide_eq_false_iff_not] at h1
 obtain rfl:k=N:=by omega
 rw [List.take_of_length_le (by omega)] at hk1 hk2
 have hgN:gdNm names:=⟨hk1,hk2⟩
 repeat' (first|refine d1 ?_|(show ∀ _:Nat,T _ _ _ _ _;intro _))
 refine T_loopX (fun j:Nat=>[(62, .int .i64 (j:Nat))]) (fun _=>[blk b4 [.slice none 0 0, .slice none 0 0] 30]) (fun j=>j≤n∧∀ x∈hs.take j,splOk k x.l) (fun j=>n - j) 0 ⟨Nat.zero_le _,fun a ha=>(by cases ha)⟩ ?_
 rintro j ⟨hj,hj1⟩
 repeat' (first|refine d1 ?_|(show ∀ _:Nat,T _ _ _ _ _;intro _))
 refine T_if rfl (fun h2=>?_) (fun h2=>?_)
 ·simp only [decide_eq_true_eq] at h2
  obtain⟨b,o,rfl⟩:=hq.s.base (by omega)
  obtain⟨x,hx⟩:∃ x,hs[j]?=some x:=⟨_,List.getElem?_eq_getElem (by omega)⟩
  have hat:=hq.at hx
  have hxm:=List.mem_of_getElem? hx
  obtain⟨r1,r2,r3,r4⟩:=hq.rd x hxm
  repeat' (first|refine d1 ?_|(show T _ (.ops _ (_::_)::_) _ _ _;first|refine T_val rfl (Val.load rfl (fun hg=>rdOld hat)) rfl rfl rfl ?_|refine T_valC rfl (Val.load rfl (fun hg=>rdOld hat)) rfl rfl rfl rfl rfl ?_)|(show T _ (.run _ _ (_::_) _ _::_) _ _ _;first|refine rv rfl rfl rfl (Val.load rfl (fun hg=>rdOld hat)) rfl rfl rfl ?_|refine rg rfl rfl rfl (Val.load rfl (fun hg=>rdOld hat)) rfl rfl rfl rfl rfl ?_)|(show ∀ _:Nat,T _ _ _ _ _;intro _))
  refine T_op (OpT.call rfl rfl rfl rfl rfl (fun w hw=>checkSplit_spec x.A k x.n x.cap x.l w (src_below r1 hw.below) r2 (by omega) (by omega)) ?_)
  rintro u R ⟨e,he,rfl,rfl⟩
  rw [List.nil_append]
  repeat' (first|refine d1 ?_|(show ∀ _:Nat,T _ _ _ _ _;intro _))
  refine T_if rfl (fun h3=>?_) (fun h3=>?_)
  ·simp only [Bool.not_eq_true',decide_eq_false_iff_not] at h3
   repeat' (first|refine d1 ?_|(show ∀ _:Nat,T _ _ _ _ _;intro _))
   refine T_le (H':=[blk b4 [.slice none 0 0, .slice none 0 0] 30]) (Hle.refl _) ?_
   exact T_retM (vs:=[.agg #[.slice none 0 0, .slice none 0 0], .int .i64 e]) _ ⟨⟨b4,_,[.slice none 0 0, .slice none 0 0],rfl,rfl,rfl,rfl,(fun h=>by cases h),rfl,rdAll⟩,rfl,trivial⟩ (Hle.none _) (bldR.no h3 fun h8=>h3 (he.2 (h8.2 x hxm)))
  simp only [Bool.not_eq_false',decide_eq_true_eq] at h3
  repeat' (first|refine d1 ?_|(show ∀ _:Nat,T _ _ _ _ _;intro _))
  refine T_backX (j+1) ⟨by omega,fun z hz=>?_⟩ (by omega)
  rw [take_snoc _ _ _ hx] at hz
  rcases List.mem_append.1 hz with hz|hz
  ·exact hj1 z hz
  ·rw [List.mem_singleton] at hz;rw [hz];exact he.1 h3
 simp only [decide_eq_false_iff_not] at h2
 rw [List.take_of_length_le (by omega)] at hj1
 have hgS:gdSp k hs:=hj1
 have hsp:=hq.spl hgS
 repeat' (first|refine d1 ?_|(show ∀ _:Nat,T _ _ _ _ _;intro _))
 refine T_op (OpT.call rfl rfl rfl rfl rfl (fun w hw=>pair_spec A n c k hs w (hsp.cls hw)) ?_)
 rintro u R ⟨pa,pb,q,hqp,rfl,rfl⟩
 rw [List.nil_append]
 repeat' (first|refine d1 ?_|(show ∀ _:Nat,T _ _ _ _ _;intro _))
 refine T_if rfl (fun h3=>?_) (fun h3=>?_)
 ·simp only [Bool.not_eq_true'] at h3
  subst h3
  have hnp:¬ gdPr hs n:=fun h=>by have:=hqp.2 h;cases this
  repeat' (first|refine d1 ?_|(show ∀ _:Nat,T _ _ _ _ _;intro _))
  refine T_le (H':=[blk b4 [.slice none 0 0, .slice none 0 0] 30]) (Hle.refl _) ?_
  exact T_retM (vs:=[.agg #[.slice none 0 0, .slice none 0 0], .int .i64 17]) _ ⟨⟨b4,_,[.slice none 0 0, .slice none 0 0],rfl,rfl,rfl,rfl,(fun h=>by cases h),rfl,rdAll⟩,rfl,trivial⟩ (Hle.none _) ⟨_,_,_,_,_,_,17,rfl,fun h=>absurd h (by decide),fun _ _ _=>rfl,fun _ _ h=>absurd h hnp⟩
 simp only [Bool.not_eq_false'] at h3
 subst h3
 have hgP:gdPr hs n:=hqp.1 rfl
 repeat' (first|refine d1 ?_|(show ∀ _:Nat,T _ _ _ _ _;intro _))
 refine T_if rfl (fun h4=>?_) (fun h4=>?_)
 ·simp only [decide_eq_true_eq] at h4
  obtain⟨bn,on,rfl⟩:=hsn.base (by omega)
  obtain⟨a,ha⟩:∃ a,names[0]?=some a:=⟨_,List.getElem?_eq_getElem (by omega)⟩
  have hra:RdC w bn (on+(0:Int).toNat * 1) [.string a]:=src_str hsn (k:=0) (by omega) ha
  repeat' (first|refine d1 ?_|(show T _ (.ops _ (_::_)::_) _ _ _;first|refine T_val rfl (Val.load rfl (fun hg=>rdOld hra)) rfl rfl rfl ?_|refine T_valC rfl (Val.load rfl (fun hg=>rdOld hra)) rfl rfl rfl rfl rfl ?_)|(show T _ (.run _ _ (_::_) _ _::_) _ _ _;first|refine rv rfl rfl rfl (Val.load rfl (fun hg=>rdOld hra)) rfl rfl rfl ?_|refine rg rfl rfl rfl (Val.load rfl (fun hg=>rdOld hra)) rfl rfl rfl rfl rfl ?_)|(show ∀ _:Nat,T _ _ _ _ _;intro _))
  rename_i b85 b89
  refine T_le (H':=[blk b4 [.slice (some ⟨b85,0,none⟩) 1 1, .slice (some ⟨b89,0,none⟩) 1 1] 30]) (hle_pm [2] [_,_,_] []) ?_
  exact T_retM (vs:=[.agg #[.slice (some ⟨b85,0,none⟩) 1 1, .slice (some ⟨b89,0,none⟩) 1 1], .int .i64 0]) _ ⟨⟨b4,_,[.slice (some ⟨b85,0,none⟩) 1 1, .slice (some ⟨b89,0,none⟩) 1 1],rfl,rfl,rfl,rfl,(fun h=>by cases h),rfl,rdAll⟩,rfl,trivial⟩ (Hle.none _) ⟨_,_,_,_,_,_,0,rfl,fun _=>⟨hgN,hgS,hgP⟩,fun _ _ h=>absurd hgP h,fun _ _ _ h=>by omega⟩
 simp only [decide_eq_false_iff_not] at h4
 obtain⟨bn,on,rfl⟩:=hsn.base (by omega)
 obtain⟨a0,ha0⟩:∃ a,names[0]?=some a:=⟨_,List.getElem?_eq_getElem (by omega)⟩
 obtain⟨a1,ha1⟩:∃ a,names[1]?=some a:=⟨_,List.getElem?_eq_getElem (by omega)⟩
 have hr0:RdC w bn (on+(0:Int).toNat * 1) [.string a0]:=src_str hsn (k:=0) (by omega) ha0
 have hr1:RdC w bn (on+(1:Int).toNat * 1) [.string a1]:=src_str hsn (k:=1) (by omega) ha1
 repeat' (first|refine d1 ?_|(show ∀ _:Nat,T _ _ _ _ _;intro _))
 rename_i b15
 refine T_nilrow 9 1 ?_
 refine T_nilrow 3 1 ?_
 refine T_le (H':=adH b15 none none 0 0 0 [] [] [blk b4 [.slice none 0 0, .slice none 0 0] 30]) (hle_pm [2,0,1,3] [_,_,_,_] []) ?_
 refine T_op (OpT.callB rfl rfl rfl rfl rfl (addB_spec b15 none none 0 0 0 [] [] (-1) ByteArray.empty _ w (by omega)) ?_)
 rintro u R ⟨⟨⟨A3,c3⟩,⟨A4,c4⟩⟩,-,rfl,rfl⟩
 dsimp only
 simp only [adH]
 repeat' (first|refine d1 ?_|(show T _ (.ops _ (_::_)::_) _ _ _;first|refine T_val rfl (Val.load rfl (fun hg=>rdOld hr0)) rfl rfl rfl ?_|refine T_valC rfl (Val.load rfl (fun hg=>rdOld hr0)) rfl rfl rfl rfl rfl ?_)|(show T _ (.run _ _ (_::_) _ _::_) _ _ _;first|refine rv rfl rfl rfl (Val.load rfl (fun hg=>rdOld hr0)) rfl rfl rfl ?_|refine rg rfl rfl rfl (Val.load rfl (fun hg=>rdOld hr0)) rfl rfl rfl rfl rfl ?_)|(show ∀ _:Nat,T _ _ _ _ _;intro _))
 refine T_op (OpT.callB rfl rfl rfl rfl rfl (addB_spec b15 A3 A4 c3 c4 1 [-1] [ByteArray.empty] ((0:Nat):Int) a0 [blk b4 [.slice none 0 0, .slice none 0 0] 30] w (by omega)) ?_)
 rintro u R ⟨⟨⟨A5,c5⟩,⟨A6,c6⟩⟩,-,rfl,rfl⟩
 dsimp only
 simp only [adH]
 repeat' (first|refine d1 ?_|(show ∀ _:Nat,T _ _ _ _ _;intro _))
 refine T_if rfl (fun h5=>?_) (fun h5=>?_)
 ·simp only [decide_eq_true_eq] at h5
  repeat' (first|refine d1 ?_|(show T _ (.ops _ (_::_)::_) _ _ _;first|refine T_val rfl (Val.load rfl (fun hg=>rdOld hr1)) rfl rfl rfl ?_|refine T_valC rfl (Val.load rfl (fun hg=>rdOld hr1)) rfl rfl rfl rfl rfl ?_)|(show T _ (.run _ _ (_::_) _ _::_) _ _ _;first|refine rv rfl rfl rfl (Val.load rfl (fun hg=>rdOld hr1)) rfl rfl rfl ?_|refine rg rfl rfl rfl (Val.load rfl (fun hg=>rdOld hr1)) rfl rfl rfl rfl rfl ?_)|(show ∀ _:Nat,T _ _ _ _ _;intro _))
  refine T_op (OpT.callB rfl rfl rfl rfl rfl (addB_spec b15 A5 A6 c5 c6 2 [-1,0] [ByteArray.empty,a0] ((0:Nat):Int) a1 [blk b4 [.slice none 0 0, .slice none 0 0] 30] w (by omega)) ?_)
  rintro u R ⟨⟨⟨A7,c7⟩,⟨A8,c8⟩⟩,-,rfl,rfl⟩
  dsimp only
  simp only [adH]
  refine T_le (H':=[row 3 1 A7 c7 3 (([-1,0,0]:List Int).map (Value.int .i64)),row 9 1 A8 c8 3 ([ByteArray.empty,a0,a1].map Value.string),blk b15 [.slice A7 3 c7, .slice A8 3 c8] 30,blk b4 [.slice none 0 0, .slice none 0 0] 30]) (hle_pm [1,2,0,3] [_,_,_,_] []) ?_
  refine T_rowCap fun hcap1=>?_
  refine T_le (H':=[row 9 1 A8 c8 3 ([ByteArray.empty,a0,a1].map Value.string),row 3 1 A7 c7 3 (([-1,0,0]:List Int).map (Value.int .i64)),blk b15 [.slice A7 3 c7, .slice A8 3 c8] 30,blk b4 [.slice none 0 0, .slice none 0 0] 30]) (hle_pm [1,0,2,3] [_,_,_,_] []) ?_
  refine T_rowCap fun hcap2=>?_
  have hok2:tOk [-1,0,0] [ByteArray.empty,a0,a1]:=bld2_ok (hgN.1 _ (List.mem_of_getElem? ha0)) (hgN.1 _ (List.mem_of_getElem? ha1)) (fun e=>by subst e;have:=nodup_at hgN.2 ha0 ha1;omega)
  repeat' (first|refine d1 ?_|(show ∀ _:Nat,T _ _ _ _ _;intro _))
  refine T_op (OpT.call rfl rfl rfl rfl rfl (fun w hw=>canonicalE_spec A7 A8 3 c7 3 c8 [-1,0,0] [ByteArray.empty,a0,a1] w ⟨srcRw w hw,srcRw w hw,rfl,rfl,hcap1.1,hcap2.1,by omega,by omega,hok2.sizes⟩ hok2 (Nat.le_trans (List.length_filter_le _ _) (by rw [List.length_range];show 3≤12;decide))) ?_)
  rintro u R ⟨⟨⟨B1,d1'⟩,⟨B2,d2'⟩⟩,-,rfl,rfl⟩
  dsimp only
  refine T_le (H':=[blk b4 [.slice none 0 0, .slice none 0 0] 30]) (hle_pm [5] [_,_,_,_,_,_] []) ?_
  repeat' (first|refine d1 ?_|(show ∀ _:Nat,T _ _ _ _ _;intro _))
  refine T_le (H':=[blk b4 [.slice B1 3 d1', .slice B2 3 d2'] 30]) (Hle.refl _) ?_
  exact T_retM (vs:=[.agg #[.slice B1 3 d1', .slice B2 3 d2'], .int .i64 0]) _ ⟨⟨b4,_,[.slice B1 3 d1', .slice B2 3 d2'],rfl,rfl,rfl,rfl,(fun h=>by cases h),rfl,rdAll⟩,rfl,trivial⟩ (Hle.none _) ⟨_,_,_,_,_,_,0,rfl,fun _=>⟨hgN,hgS,hgP⟩,fun _ _ h=>absurd hgP h,fun _ _ _ h=>by omega⟩
 simp only [decide_eq_false_iff_not] at h5
 repeat' (first|refine d1 ?_|(show ∀ _:Nat,T _ _ _ _ _;intro _))
 refine T_op (OpT.callB rfl rfl rfl rfl rfl (addB_spec b15 A5 A6 c5 c6 2 [-1,0] [ByteArray.empty,a0] ((0:Nat):Int) ByteArray.empty [blk b4 [.slice none 0 0, .slice none 0 0] 30] w (by omega)) ?_)
 rintro u R ⟨⟨⟨A7,c7⟩,⟨A8,c8⟩⟩,-,rfl,rfl⟩
 dsimp only
 simp only [adH]
 repeat' (first|refine d1 ?_|(show ∀ _:Nat,T _ _ _ _ _;intro _))
 rename_i b18
 refine T_op (OpT.call rfl rfl rfl rfl rfl (fun w hw=>cloneR_spec A n c (hs.map RwI.val) (oneRw hs) w (src_below hq.s hw.below) (by omega)) ?_)
 rintro u R ⟨⟨Ac,cc⟩,-,rfl,rfl⟩
 dsimp only
 rw [List.cons_append,List.nil_append]
 repeat' (first|refine d1 ?_|(show ∀ _:Nat,T _ _ _ _ _;intro _))
 rename_i b19
 have hPS:([-1,0]++[((0:Nat):Int)]:List Int)=[-1,0,0]:=rfl
 have hNS:([ByteArray.empty,a0]++[ByteArray.empty])=[ByteArray.empty,a0,ByteArray.empty]:=rfl
 rw [hPS,hNS]
 refine T_le (H':=row 24 1 Ac cc n (hs.map RwI.val)::blk b19 [.slice Ac n cc] 23::blk b18 [.int .i64 ((2:Nat):Int)] 3::adH b15 A7 A8 c7 c8 3 [-1,0,0] [ByteArray.empty,a0,ByteArray.empty] [blk b4 [.slice none 0 0, .slice none 0 0] 30]) (hle_pm [1,0,2,3,4,5,6] [_,_,_,_,_,_,_] []) ?_
 have hrdv:∀ x∈hs,∀ w',Below w.heap.size w w'→Rd (wr w') [RwI.val x] [intsD x.l]:=fun x hx w' hb=>by
  obtain⟨r1,r2,r3,-⟩:=hq.rd x hx
  exact rd_intsU (src_below r1 hb) r3.1 r3.2
 refine T_op (OpT.callB rfl rfl rfl rfl rfl (sortRn_spec Ac cc n hs 42 [] (fun x y=>ordB x.l y.l) (fun x y=>ordB x.l y.l≤0) w _ hl hn (fun w' ⟨H,hw⟩ x hx y hy=>buildC_spec _ _ x.l y.l w' (hrdv x hx w' hw.below) (hrdv y hy w' hw.below)) (fun _ _ _=>ordB_trans) (fun _ _ h=>by omega) (fun a b h=>by have:=ordB_swap a.l b.l;omega)) ?_)
 rintro u R ⟨ys,⟨hyp,hys⟩,rfl⟩
 have hyl:=hyp.length_eq
 simp only [adH]
 repeat' (first|refine d1 ?_|(show ∀ _:Nat,T _ _ _ _ _;intro _))
 refine T_op (OpT.callB rfl rfl rfl rfl rfl (compactR_spec Ac n cc ys 17 [] w _ (by omega) (by omega) (fun w' ⟨H,hw⟩ x hx y hy=>equalI_spec _ _ x.l y.l w' (hrdv x (hyp.mem_iff.1 hx) w' hw.below) (hrdv y (hyp.mem_iff.1 hy) w' hw.below))) ?_)
 rintro u R ⟨rfl,rfl⟩
 repeat' (first|refine d1 ?_|(show ∀ _:Nat,T _ _ _ _ _;intro _))
 rename_i b20
 have hown:∀ x∈cpR ys,x∈hs:=fun x hx=>hyp.mem_iff.1 (cpR_sub hx)
 have hoL:(cpR ys).length≤12:=by have:=cpR_len ys;omega
 have hoR:∀ w',Below w.heap.size w w'→∀ x∈cpR ys,Src w' 1 x.A x.n (x.l.map (Value.int .i64))∧x.l.length=x.n∧(x.n≤x.cap∧x.cap≤9223372036854775807)∧splOk k x.l:=fun w' hb x hx=>by
  obtain⟨r1,r2,r3,-⟩:=hq.rd x (hown x hx)
  exact⟨src_below r1 hb,r2,r3,hgS x (hown x hx)⟩
 have htok:=hpl ys hyp hys hgN hgS hgP (by omega)
 have hbT:=fun x y R (h:∃ (m:Nat) (s:(Option Addr × Nat) × (Option Addr × Nat)),m=(bldP ((cpR ys).map RwI.l) k).length∧(m≤s.1.2∧m≤s.2.2)∧x = .slice s.1.1 m s.1.2∧y = .slice s.2.1 m s.2.2∧R=[row 3 1 s.1.1 s.1.2 m ((cps (bldP ((cpR ys).map RwI.l) k) (bldNm names (cpR ys).length)).map (Value.int .i64)),row 9 1 s.2.1 s.2.2 m ((cns (bldP ((cpR ys).map RwI.l) k) (bldNm names (cpR ys).length)).map Value.string)])=>(show bldT names k hs n x y R from ⟨ys,hyp,hys,h⟩)
 generalize hO:cpR ys=own at hown hoL hoR htok hbT ⊢
 refine T_nilrow 3 1 ?_
 refine T_le (hle_pm [5,6,7,1,0,2,3,4,8] [_,_,_,_,_,_,_,_,_] []) ?_
 refine T_le (H':=adH b15 A7 A8 c7 c8 (3+0) ([-1,0,0]++opB (own.map RwI.l) 0) ([ByteArray.empty,a0,ByteArray.empty]++List.replicate 0 ByteArray.empty) [blk b20 [.slice none 0 0] 24,row 3 1 none 0 0 [],row 24 1 Ac cc own.length (own.map RwI.val),blk b19 [.slice Ac own.length cc] 23,blk b18 [.int .i64 ((2:Nat):Int)] 3,blk b4 [.slice none 0 0, .slice none 0 0] 30]) (Hle.refl _) ?_
 refine T_loopX (fun s:Nat × (Option Addr × Nat) × (Option Addr × Nat) × (Option Addr × Nat)=>[(124, .int .i64 (s.1:Nat))]) (fun s=>adH b15 s.2.1.1 s.2.2.1.1 s.2.1.2 s.2.2.1.2 (3+s.1) ([-1,0,0]++opB (own.map RwI.l) s.1) ([ByteArray.empty,a0,ByteArray.empty]++List.replicate s.1 ByteArray.empty) [blk b20 [.slice s.2.2.2.1 s.1 s.2.2.2.2] 24,row 3 1 s.2.2.2.1 s.2.2.2.2 s.1 ((atB s.1).map (Value.int .i64)),row 24 1 Ac cc own.length (own.map RwI.val),blk b19 [.slice Ac own.length cc] 23,blk b18 [.int .i64 ((2:Nat):Int)] 3,blk b4 [.slice none 0 0, .slice none 0 0] 30]) (fun s=>s.1≤own.length) (fun s=>own.length - s.1) (0,(A7,c7),(A8,c8),(none,0)) (Nat.zero_le _) ?_
 rintro⟨i,⟨E1,f1'⟩,⟨E2,f2'⟩,⟨Aa,ca⟩⟩ hi
 dsimp only at hi ⊢
 simp only [adH]
 repeat' (first|refine d1 ?_|(show ∀ _:Nat,T _ _ _ _ _;intro _))
 refine T_if rfl (fun h6=>?_) (fun h6=>?_)
 ·simp only [decide_eq_true_eq] at h6
  refine T_rowpos (A:=Ac) (by omega) (fun gc e=>?_)
  subst e
  obtain⟨x,hx⟩:∃ x,own[i]?=some x:=⟨_,List.getElem?_eq_getElem (by omega)⟩
  have hxm:=List.mem_of_getElem? hx
  obtain⟨q1,q2,q3,q4⟩:=hoR w (Below.refl _ _) x hxm
  have hx2:=q4.two
  have hcell:(own.map RwI.val)[i]?=some (.slice x.A x.n x.cap):=by rw [List.getElem?_map,hx];rfl
  obtain⟨b6,o6,e6⟩:=q1.base (by omega)
  obtain⟨z,hz⟩:∃ z,x.l[0]?=some z:=⟨_,List.getElem?_eq_getElem (by omega)⟩
  rw [e6] at q1 hcell
  have hrz:RdC w b6 (o6+(0:Int).toNat * 1) [.int .i64 z]:=src_int q1 (k:=0) (by omega) hz
  repeat' (first|refine d1 ?_|(show T _ (.ops _ (_::_)::_) _ _ _;first|refine T_val rfl (Val.load rfl (fun hg=>rdRow (A:=some ⟨gc,0,none⟩) (vs:=[.slice (some ⟨b6,o6,none⟩) x.n x.cap]) (by omega) (row1f hcell))) rfl rfl rfl ?_|refine T_valC rfl (Val.load rfl (fun hg=>rdRow (A:=some ⟨gc,0,none⟩) (vs:=[.slice (some ⟨b6,o6,none⟩) x.n x.cap]) (by omega) (row1f hcell))) rfl rfl rfl rfl rfl ?_)|(show T _ (.run _ _ (_::_) _ _::_) _ _ _;first|refine rv rfl rfl rfl (Val.load rfl (fun hg=>rdRow (A:=some ⟨gc,0,none⟩) (vs:=[.slice (some ⟨b6,o6,none⟩) x.n x.cap]) (by omega) (row1f hcell))) rfl rfl rfl ?_|refine rg rfl rfl rfl (Val.load rfl (fun hg=>rdRow (A:=some ⟨gc,0,none⟩) (vs:=[.slice (some ⟨b6,o6,none⟩) x.n x.cap]) (by omega) (row1f hcell))) rfl rfl rfl rfl rfl ?_)|(show ∀ _:Nat,T _ _ _ _ _;intro _))
  refine rsH [blk b20 [.slice Aa i ca] 24] 11 [0,1,2,3,4,5,6,7,8,9,10,11] ?_
  repeat' (first|refine d1 ?_|refine dd ?_|(show T _ (.ops _ (_::_)::_) _ _ _;first|refine T_val rfl (Val.load rfl (fun hg=>rdOld hrz)) rfl rfl rfl ?_|refine T_valC rfl (Val.load rfl (fun hg=>rdOld hrz)) rfl rfl rfl rfl rfl ?_)|(show T _ (.run _ _ (_::_) _ _::_) _ _ _;first|refine rv rfl rfl rfl (Val.load rfl (fun hg=>rdOld hrz)) rfl rfl rfl ?_|refine rg rfl rfl rfl (Val.load rfl (fun hg=>rdOld hrz)) rfl rfl rfl rfl rfl ?_)|(show ∀ _:Nat,T _ _ _ _ _;intro _))
  refine ro rfl rfl (OpT.call rfl rfl rfl rfl rfl (fun w' hw=>leastC_spec b19 b20 b18 (some ⟨gc,0,none⟩) Aa own.length cc i ca k own (atB i) ((2:Nat):Int) z i w' (rdBlk8 hw) (rdBlk8 hw) (rdBlk8 hw) ⟨srcRw w' hw,rfl,by omega,hoR w' hw.below⟩ (srcRw w' hw) (atB_len i) (by omega) (Nat.le_refl _)) ?_)
  rintro u R ⟨rfl,rfl⟩
  refine ⟨fun _=>Hle.nth 3 rfl,?_⟩
  rw [List.nil_append]
  refine ro rfl rfl (OpT.callB rfl rfl rfl rfl rfl (addB_spec b15 E1 E2 f1' f2' (3+i) ([-1,0,0]++opB (own.map RwI.l) i) ([ByteArray.empty,a0,ByteArray.empty]++List.replicate i ByteArray.empty) (leastB (own.map RwI.l) (atB i) ((2:Nat):Int) z i) ByteArray.empty _ w (by omega)) ?_)
  rintro u R ⟨⟨⟨E3,f3'⟩,⟨E4,f4'⟩⟩,-,rfl,rfl⟩
  refine ⟨fun _=>Hle.nth 3 rfl,?_⟩
  dsimp only
  simp only [adH]
  refine ro rfl rfl (OpT.litW rfl rfl rfl rfl rfl rfl rfl rfl rfl rfl rfl (fun b138=>⟨fun _=>Hle.nth 4 rfl,?_⟩))
  refine ro rfl rfl (OpT.append (A:=Aa) rfl rfl rfl rfl rfl rfl rfl rfl rfl rfl (fun w hw=>Src.own hw rfl) rfl (by dsimp only;omega) (by omega) (fun A9 c9 hA9=>⟨fun _=>Hle.nth 4 rfl,?_⟩))
  repeat' (first|refine d1 ?_|refine dd ?_|(show ∀ _:Nat,T _ _ _ _ _;intro _))
  have hzz:((own.map RwI.l).getD i []).getD 0 0=z:=by rw [getL_at hx,List.getD_eq_getElem?_getD,hz];rfl
  have hos:=opB_succ (own.map RwI.l) i
  rw [hzz] at hos
  refine T_backX (i+1,(E3,f3'),(E4,f4'),(A9,c9)) (by dsimp only;omega) (by dsimp only;omega) (hG:=?_)
  dsimp only
  have e1:([-1,0,0]:List Int)++opB (own.map RwI.l) (i+1)=([-1,0,0]:List Int)++opB (own.map RwI.l) i++[leastB (own.map RwI.l) (atB i) ((2:Nat):Int) z i]:=by rw [hos,List.append_assoc]
  have e2:[ByteArray.empty,a0,ByteArray.empty]++List.replicate (i+1) ByteArray.empty=[ByteArray.empty,a0,ByteArray.empty]++List.replicate i ByteArray.empty++[ByteArray.empty]:=by rw [List.replicate_succ',List.append_assoc]
  have e3:(atB (i+1)).map (Value.int .i64)=(atB i).map (Value.int .i64)++[Value.int .i64 ((3+i:Nat):Int)]:=by rw [atB_succ,List.map_append];rfl
  rw [e1,e2,e3]
  exact Hle.tail _ _
 simp only [decide_eq_false_iff_not] at h6
 obtain rfl:i=own.length:=by omega
 repeat' (first|refine d1 ?_|(show ∀ _:Nat,T _ _ _ _ _;intro _))
 refine T_loopX (fun s:Nat × (Option Addr × Nat) × (Option Addr × Nat)=>[(24, .int .i64 (s.1:Nat))]) (fun s=>adH b15 s.2.1.1 s.2.2.1 s.2.1.2 s.2.2.2 (2+own.length+s.1) ([-1,0,0]++opB (own.map RwI.l) own.length++lpB (own.map RwI.l) (s.1 - 1)) ([ByteArray.empty,a0,ByteArray.empty]++List.replicate own.length ByteArray.empty++(names.drop 1).take (s.1 - 1)) [blk b20 [.slice Aa own.length ca] 24,row 3 1 Aa ca own.length ((atB own.length).map (Value.int .i64)),row 24 1 Ac cc own.length (own.map RwI.val),blk b19 [.slice Ac own.length cc] 23,blk b18 [.int .i64 ((2:Nat):Int)] 3,blk b4 [.slice none 0 0, .slice none 0 0] 30]) (fun s=>1≤s.1∧s.1≤k) (fun s=>k - s.1) (1,(E1,f1'),(E2,f2')) ⟨Nat.le_refl _,by dsimp only;omega⟩ ?_ (hG:=by dsimp only;rw [show 2+own.length+1=3+own.length by omega,show lpB (own.map RwI.l) (1 - 1)=[] from rfl,show (names.drop 1).take (1 - 1)=[] from rfl,List.append_nil,List.append_nil];exact Hle.refl _)
 rintro⟨j9,⟨E5,f5'⟩,⟨E6,f6'⟩⟩ ⟨hj91,hj92⟩
 dsimp only at hj91 hj92 ⊢
 simp only [adH]
 repeat' (first|refine d1 ?_|(show ∀ _:Nat,T _ _ _ _ _;intro _))
 refine T_if rfl (fun h7=>?_) (fun h7=>?_)
 ·simp only [decide_eq_true_eq] at h7
  obtain⟨a,ha⟩:∃ a,names[j9]?=some a:=⟨_,List.getElem?_eq_getElem (by omega)⟩
  have hra:RdC w bn (on+(j9:Int).toNat * 1) [.string a]:=src_str hsn (k:=j9) (by omega) ha
  repeat' (first|refine d1 ?_|(show ∀ _:Nat,T _ _ _ _ _;intro _))
  refine rsH [blk b19 [.slice Ac own.length cc] 23] 1000 [0,1,2,3,4,6,7,8,9,5,10] ?_
  repeat' (first|refine d1 ?_|refine dd ?_|(show T _ (.ops _ (_::_)::_) _ _ _;first|refine T_val rfl (Val.load rfl (fun hg=>rdOld hra)) rfl rfl rfl ?_|refine T_valC rfl (Val.load rfl (fun hg=>rdOld hra)) rfl rfl rfl rfl rfl ?_)|(show T _ (.run _ _ (_::_) _ _::_) _ _ _;first|refine rv rfl rfl rfl (Val.load rfl (fun hg=>rdOld hra)) rfl rfl rfl ?_|refine rg rfl rfl rfl (Val.load rfl (fun hg=>rdOld hra)) rfl rfl rfl rfl rfl ?_)|(show ∀ _:Nat,T _ _ _ _ _;intro _))
  refine ro rfl rfl (OpT.call rfl rfl rfl rfl rfl (fun w' hw=>leastC_spec b19 b20 b18 Ac Aa own.length cc own.length ca k own (atB own.length) ((2:Nat):Int) (j9:Int) own.length w' (rdBlk8 hw) (rdBlk8 hw) (rdBlk8 hw) ⟨srcRw w' hw,rfl,by omega,hoR w' hw.below⟩ (srcRw w' hw) (atB_len _) (Nat.le_refl _) (Nat.le_refl _)) ?_)
  rintro u R ⟨rfl,rfl⟩
  refine ⟨fun _=>Hle.nth 6 rfl,?_⟩
  rw [List.nil_append]
  refine ro rfl rfl (OpT.callB rfl rfl rfl rfl rfl (addB_spec b15 E5 E6 f5' f6' (2+own.length+j9) ([-1,0,0]++opB (own.map RwI.l) own.length++lpB (own.map RwI.l) (j9 - 1)) ([ByteArray.empty,a0,ByteArray.empty]++List.replicate own.length ByteArray.empty++(names.drop 1).take (j9 - 1)) (leastB (own.map RwI.l) (atB own.length) ((2:Nat):Int) (j9:Int) own.length) a _ w (by omega)) ?_)
  rintro u R ⟨⟨⟨E7,f7'⟩,⟨E8,f8'⟩⟩,-,rfl,rfl⟩
  refine ⟨fun _=>Hle.nth 6 rfl,?_⟩
  dsimp only
  simp only [adH]
  repeat' (first|refine d1 ?_|refine dd ?_|(show ∀ _:Nat,T _ _ _ _ _;intro _))
  obtain⟨t,rfl⟩:∃ t,j9=t+1:=⟨j9 - 1,by omega⟩
  have hls:=lpB_succ (own.map RwI.l) t
  rw [List.length_map] at hls
  have e1:([-1,0,0]:List Int)++opB (own.map RwI.l) own.length++lpB (own.map RwI.l) (t+1)=([-1,0,0]:List Int)++opB (own.map RwI.l) own.length++lpB (own.map RwI.l) t++[leastB (own.map RwI.l) (atB own.length) ((2:Nat):Int) ((t+1:Nat):Int) own.length]:=by rw [hls, ← List.append_assoc]
  have hdr:(names.drop 1)[t]?=some a:=by rw [List.getElem?_drop,Nat.add_comm];exact ha
  have e2:[ByteArray.empty,a0,ByteArray.empty]++List.replicate own.length ByteArray.empty++(names.drop 1).take (t+1)=[ByteArray.empty,a0,ByteArray.empty]++List.replicate own.length ByteArray.empty++(names.drop 1).take t++[a]:=by rw [take_snoc _ _ _ hdr, ← List.append_assoc]
  refine T_backX (t+2,(E7,f7'),(E8,f8')) ⟨by dsimp only;omega,by dsimp only;omega⟩ (by dsimp only;omega) (hG:=?_)
  dsimp only
  rw [show t+2 - 1=t+1 from rfl,e1,e2]
  exact Hle.refl _
 simp only [decide_eq_false_iff_not] at h7
 obtain rfl:j9=k:=by omega
 have hnd1:(names.drop 1).take (j9 - 1)=names.drop 1:=List.take_of_length_le (by rw [List.length_drop];omega)
 rw [hnd1]
 have hml:(bldP (own.map RwI.l) j9).length=2+own.length+j9:=by unfold bldP;simp [opB_len,lpB_len];omega
 have hnl:(bldNm names own.length).length=2+own.length+j9:=by unfold bldNm;simp;omega
 have hg0:names.getD 0 ByteArray.empty=a0:=by rw [List.getD_eq_getElem?_getD,ha0];rfl
 rw [show ([-1,0,0]:List Int)++opB (own.map RwI.l) own.length++lpB (own.map RwI.l) (j9 - 1)=bldP (own.map RwI.l) j9 by unfold bldP;rw [List.length_map],show [ByteArray.empty,a0,ByteArray.empty]++List.replicate own.length ByteArray.empty++names.drop 1=bldNm names own.length by unfold bldNm;rw [hg0]]
 have hlf:(lfI (bldNm names own.length)).length≤12:=by
  rw [lfI_cnt]
  unfold bldNm
  have hr:(List.replicate own.length ByteArray.empty).filter (fun a=>decide (a≠ByteArray.empty))=[]:=List.filter_eq_nil_iff.2 fun a ha=>by rw [(List.mem_replicate.1 ha).2];simp
  have hd:=List.length_filter_le (fun a=>decide (a≠ByteArray.empty)) (names.drop 1)
  rw [List.length_drop] at hd
  rw [List.filter_append,List.filter_append,hr,List.length_append,List.length_append,List.length_nil]
  have h3:([ByteArray.empty,names.getD 0 ByteArray.empty,ByteArray.empty].filter fun a=>decide (a≠ByteArray.empty)).length≤3:=List.length_filter_le _ _
  omega
 generalize hM:2+own.length+j9=M at hml hnl ⊢
 refine T_le (H':=[row 3 1 E5 f5' M ((bldP (own.map RwI.l) j9).map (Value.int .i64)),row 9 1 E6 f6' M ((bldNm names own.length).map Value.string),blk b15 [.slice E5 M f5', .slice E6 M f6'] 30,blk b4 [.slice none 0 0, .slice none 0 0] 30]) (hle_pm [1,2,0,8] [_,_,_,_,_,_,_,_,_] []) ?_
 refine T_rowCap fun hcap1=>?_
 refine T_le (H':=[row 9 1 E6 f6' M ((bldNm names own.length).map Value.string),row 3 1 E5 f5' M ((bldP (own.map RwI.l) j9).map (Value.int .i64)),blk b15 [.slice E5 M f5', .slice E6 M f6'] 30,blk b4 [.slice none 0 0, .slice none 0 0] 30]) (hle_pm [1,0,2,3] [_,_,_,_] []) ?_
 refine T_rowCap fun hcap2=>?_
 repeat' (first|refine d1 ?_|(show ∀ _:Nat,T _ _ _ _ _;intro _))
 refine T_op (OpT.call rfl rfl rfl rfl rfl (fun w hw=>canonicalE_spec E5 E6 M f5' M f6' (bldP (own.map RwI.l) j9) (bldNm names own.length) w ⟨srcRw w hw,srcRw w hw,hml,hnl,hcap1.1,hcap2.1,by omega,by omega,htok.sizes⟩ htok hlf) ?_)
 rintro u R ⟨⟨⟨B1,d1'⟩,⟨B2,d2'⟩⟩,⟨hc1,hc2⟩,rfl,rfl⟩
 dsimp only at hc1 hc2 ⊢
 generalize hM2:(bldP (own.map RwI.l) j9).length=M2 at hc1 hc2 hbT ⊢
 refine T_le (H':=[row 3 1 B1 d1' M2 ((cps (bldP (own.map RwI.l) j9) (bldNm names own.length)).map (Value.int .i64)),row 9 1 B2 d2' M2 ((cns (bldP (own.map RwI.l) j9) (bldNm names own.length)).map Value.string),blk b4 [.slice none 0 0, .slice none 0 0] 30]) (hle_pm [0,1,5] [_,_,_,_,_,_] []) ?_
 repeat' (first|refine d1 ?_|(show ∀ _:Nat,T _ _ _ _ _;intro _))
 refine T_le (H':=[blk b4 [.slice B1 M2 d1', .slice B2 M2 d2'] 30,row 3 1 B1 d1' M2 ((cps (bldP (own.map RwI.l) j9) (bldNm names own.length)).map (Value.int .i64)),row 9 1 B2 d2' M2 ((cns (bldP (own.map RwI.l) j9) (bldNm names own.length)).map Value.string)]) (hle_pm [2,0,1] [_,_,_] []) ?_
 exact T_retM (vs:=[.agg #[.slice B1 M2 d1', .slice B2 M2 d2'], .int .i64 0]) _ ⟨⟨b4,_,[.slice B1 M2 d1', .slice B2 M2 d2'],rfl,rfl,rfl,rfl,(fun h=>by cases h),rfl,rdAll⟩,rfl,trivial⟩ (Hle.tail _ _) ⟨_,_,_,_,_,_,0,rfl,fun _=>⟨hgN,hgS,hgP⟩,fun _ _ h=>absurd hgP h,fun _ _ _ _=>⟨rfl,hbT _ _ _ ⟨M2,((B1,d1'),(B2,d2')),rfl,⟨hc1,hc2⟩,rfl,rfl,rfl⟩⟩⟩
end Go.Proofs.YtabhdaehomjlgaaGreat
namespace Go.Proofs.YtabhdaehomjlgaaGreat
open Go.RowKit Go.Shelf
set_option maxRecDepth 100000

theorem ordB_self (p:List Int):ordB p p=0:=by have:=ordB_swap p p;omega
theorem ordB_zero {p q:List Int} (h:ordB p q=0):p=q:=by
 unfold ordB at h
 split at h
 ·exact cmpLs_zero h
 ·rename_i h1
  exact absurd h h1
theorem cpG_ord:∀ (l:List RwI) (x:RwI),(x::l).Pairwise (fun a b=>ordB a.l b.l≤0)→((x::cpG x l).map RwI.l).Pairwise (fun a b=>ordB a b<0)∧∀ s,(s∈(x::cpG x l).map RwI.l↔s∈(x::l).map RwI.l)
 | [],x,_=>⟨List.pairwise_singleton _ _,fun _=>Iff.rfl⟩
 | a::l,x,h=>by
  rw [List.pairwise_cons] at h
  obtain⟨h1,h2⟩:=cpG_ord l a h.2
  unfold cpG
  by_cases he:x.l=a.l
  ·rw [if_pos he]
   rw [List.map_cons] at h1 h2 ⊢
   rw [he]
   refine ⟨h1,fun s=>?_⟩
   rw [h2,List.map_cons,List.map_cons,List.map_cons,List.mem_cons,List.mem_cons,List.mem_cons,he]
   constructor
   ·exact fun h => .inr h
   ·rintro (h|h)
    ·exact .inl h
    ·exact h
  ·rw [if_neg he]
   refine ⟨?_,fun s=>?_⟩
   ·rw [List.map_cons,List.pairwise_cons]
    refine ⟨fun s hs=>?_,h1⟩
    rw [h2] at hs
    obtain⟨b,hb,rfl⟩:=List.mem_map.1 hs
    have hxb:=h.1 b hb
    show ordB x.l b.l<0
    rcases Int.lt_or_eq_of_le hxb with h3|h3
    ·exact h3
    ·exfalso
     have h4:=ordB_zero h3
     have h5:ordB a.l b.l≤0:=by
      rcases List.mem_cons.1 hb with e|e
      ·subst e;rw [ordB_self];exact Int.le_refl _
      ·exact (List.pairwise_cons.1 h.2).1 b e
     have h6:=h.1 a (.head _)
     rw [← h4] at h5
     have h7:=ordB_swap x.l a.l
     exact he (ordB_zero (by omega))
   ·rw [List.map_cons,List.mem_cons,h2,List.map_cons (a:=x),List.mem_cons]
theorem cpR_ord {l:List RwI} (h:l.Pairwise (fun a b=>ordB a.l b.l≤0)):((cpR l).map RwI.l).Pairwise (fun a b=>ordB a b<0)∧∀ s,(s∈(cpR l).map RwI.l↔s∈l.map RwI.l):=by
 cases l with
 | nil=>exact⟨List.Pairwise.nil,fun _=>Iff.rfl⟩
 | cons x l=>exact cpG_ord l x h
theorem intI_mem {xs ys:List Int} (hx:setOk xs) {z:Int}:z∈intI xs ys↔z∈xs∧z∈ys:=by
 unfold intI
 rw [setI_mem]
 constructor
 ·rintro⟨i,-,h,rfl⟩
  simp only [Bool.and_eq_true,decide_eq_true_eq] at h
  exact h
 ·rintro⟨h1,h2⟩
  have:=hx.bd z h1
  refine ⟨z.toNat,by omega,?_,by omega⟩
  simp only [Bool.and_eq_true,decide_eq_true_eq]
  rw [Int.toNat_of_nonneg this.1]
  exact⟨h1,h2⟩
theorem sub_full {l m:List Int} (hl:l.Nodup) (hs:∀ z∈l,z∈m) (he:l.length=m.length):∀ z∈m,z∈l:=fun z hz=>Classical.byContradiction fun h=>by
 have:=nodup_sub_len (l:=z::l) (m:=m) (List.nodup_cons.2 ⟨h,hl⟩) fun y hy=>by
  rcases List.mem_cons.1 hy with rfl|hy
  ·exact hz
  ·exact hs y hy
 rw [List.length_cons] at this
 omega
theorem cmpS_iff {xs ys:List Int} (hx:setOk xs) (hy:setOk ys):cmpS xs ys=true↔(∀ z∈xs,z ∉ ys)∨(∀ z∈xs,z∈ys)∨∀ z∈ys,z∈xs:=by
 have hnd:(intI xs ys).Nodup:=asc_nd (setI_asc _ _)
 have hl:=fun z (hz:z∈intI xs ys)=>(intI_mem (ys:=ys) hx).1 hz
 unfold cmpS
 rw [Bool.or_eq_true,Bool.or_eq_true,decide_eq_true_eq,decide_eq_true_eq,decide_eq_true_eq]
 refine or_congr ?_ (or_congr ?_ ?_)
 ·rw [List.length_eq_zero_iff,List.eq_nil_iff_forall_not_mem]
  exact⟨fun h z h1 h2=>h z ((intI_mem hx).2 ⟨h1,h2⟩),fun h z hz=>h z (hl z hz).1 (hl z hz).2⟩
 ·constructor
  ·intro he z hz
   exact (hl z (sub_full hnd (fun z hz=>(hl z hz).1) he z hz)).2
  ·intro h
   exact Nat.le_antisymm (nodup_sub_len hnd fun z hz=>(hl z hz).1) (nodup_sub_len (asc_nd hx.asc) fun z hz=>(intI_mem hx).2 ⟨hz,h z hz⟩)
 ·constructor
  ·intro he z hz
   exact (hl z (sub_full hnd (fun z hz=>(hl z hz).2) he z hz)).1
  ·intro h
   exact Nat.le_antisymm (nodup_sub_len hnd fun z hz=>(hl z hz).2) (nodup_sub_len (asc_nd hy.asc) fun z hz=>(intI_mem hx).2 ⟨h z hz,hz⟩)
structure ownG (own:List (List Int)) (N:Nat):Prop where
 sp:∀ s∈own,splOk N s
 srt:own.Pairwise fun a b=>ordB a b<0
 lam:∀ s∈own,∀ t∈own,(∀ z∈s,z ∉ t)∨(∀ z∈s,z∈t)∨∀ z∈t,z∈s
theorem own_g {n N:Nat} {hs ys:List RwI} (hl:hs.length=n) (hp:ys.Perm hs) (hso:∀ p q,p<q→q<n→ordB (ys.getD p rw0).l (ys.getD q rw0).l≤0) (hS:gdSp N hs) (hP:gdPr hs n):ownG ((cpR ys).map RwI.l) N∧∀ s,(s∈(cpR ys).map RwI.l↔s∈hs.map RwI.l):=by
 have hyl:=hp.length_eq
 have hpw:ys.Pairwise (fun a b=>ordB a.l b.l≤0):=by
  rw [List.pairwise_iff_getElem]
  intro i j hi hj hij
  have h9:=hso i j hij (by omega)
  rw [List.getD_eq_getElem?_getD,List.getD_eq_getElem?_getD,List.getElem?_eq_getElem hi,List.getElem?_eq_getElem hj] at h9
  exact h9
 obtain⟨h1,h2⟩:=cpR_ord hpw
 have hmem:∀ s,(s∈(cpR ys).map RwI.l↔s∈hs.map RwI.l):=fun s=>(h2 s).trans (hp.map RwI.l).mem_iff
 have hsp:∀ s∈(cpR ys).map RwI.l,splOk N s:=fun s hs1=>by
  obtain⟨x,hx,rfl⟩:=List.mem_map.1 ((hmem s).1 hs1)
  exact hS x hx
 refine ⟨⟨hsp,h1,fun s hs1 t ht1=>?_⟩,hmem⟩
 obtain⟨x,hx,rfl⟩:=List.mem_map.1 ((hmem s).1 hs1)
 obtain⟨y,hy,rfl⟩:=List.mem_map.1 ((hmem t).1 ht1)
 obtain⟨i,hi⟩:=List.mem_iff_getElem?.1 hx
 obtain⟨k,hk⟩:=List.mem_iff_getElem?.1 hy
 have hil:=(List.getElem?_eq_some_iff.1 hi).1
 have hkl:=(List.getElem?_eq_some_iff.1 hk).1
 have hxs:=(hS x hx).set
 have hys:=(hS y hy).set
 rcases Nat.lt_trichotomy i k with h|h|h
 ·have:=hP i k h (by omega)
  unfold cmpAt at this
  rw [getL_at hi,getL_at hk] at this
  exact (cmpS_iff hxs hys).1 this
 ·subst h
  rw [hi] at hk
  rw [Option.some.inj hk]
  exact .inr (.inl fun z hz=>hz)
 ·have:=hP k i h (by omega)
  unfold cmpAt at this
  rw [getL_at hi,getL_at hk] at this
  rcases (cmpS_iff hys hxs).1 this with h9|h9|h9
  ·exact .inl fun z hz hz2=>h9 z hz2 hz
  ·exact .inr (.inr h9)
  ·exact .inr (.inl h9)
end Go.Proofs.YtabhdaehomjlgaaGreat
namespace Go.Proofs.YtabhdaehomjlgaaGreat
open Go.RowKit Go.Shelf
set_option maxRecDepth 100000

theorem atB_get {m i:Nat} (h:i<m):(atB m).getD i 0=((3+i:Nat):Int):=by
 unfold atB
 rw [List.getD_eq_getElem?_getD,List.getElem?_map,List.getElem?_range h];rfl
theorem least_spec (own:List (List Int)) (m:Nat) (z:Int):∀ k,k≤m→∃ r:Nat,leastB own (atB m) ((2:Nat):Int) z k=(r:Int)∧((r=2∧∀ i,i<k→z ∉ own.getD i [])∨∃ i,i<k∧r=3+i∧z∈own.getD i []∧∀ j,i<j→j<k→z ∉ own.getD j [])
 | 0,_=>⟨2,rfl, .inl ⟨rfl,fun i h=>absurd h (Nat.not_lt_zero _)⟩⟩
 | k+1,h=>by
  rw [leastB]
  by_cases hz:z∈own.getD k []
  ·rw [if_pos hz,atB_get (by omega)]
   exact⟨3+k,rfl, .inr ⟨k,Nat.lt_succ_self _,rfl,hz,fun j h1 h2=>by omega⟩⟩
  ·rw [if_neg hz]
   obtain⟨r,h1,h2⟩:=least_spec own m z k (by omega)
   refine ⟨r,h1,?_⟩
   rcases h2 with⟨h2,h3⟩|⟨i,h2,h3,h4,h5⟩
   ·refine .inl ⟨h2,fun i hi=>?_⟩
    rcases Nat.lt_or_ge i k with h6|h6
    ·exact h3 i h6
    ·rw [show i=k by omega];exact hz
   ·refine .inr ⟨i,by omega,h3,h4,fun j h6 h7=>?_⟩
    rcases Nat.lt_or_ge j k with h8|h8
    ·exact h5 j h6 h8
    ·rw [show j=k by omega];exact hz
theorem bldP_len (own:List (List Int)) (N:Nat):(bldP own N).length=3+own.length+(N - 1):=by
 unfold bldP
 rw [List.length_append,List.length_append,opB_len,lpB_len];rfl
theorem bldP_0 (own:List (List Int)) (N:Nat):(bldP own N).getD 0 (-1) = -1∧(bldP own N).getD 1 (-1)=0∧(bldP own N).getD 2 (-1)=0:=by
 unfold bldP
 refine ⟨rfl,rfl,rfl⟩
theorem bldP_own {own:List (List Int)} {N k:Nat} (h:k<own.length):(bldP own N).getD (3+k) (-1)=leastB own (atB k) ((2:Nat):Int) ((own.getD k []).getD 0 0) k:=by
 unfold bldP
 rw [List.getD_eq_getElem?_getD,List.getElem?_append_left (by rw [List.length_append,opB_len];show 3+k<3+own.length;omega),List.getElem?_append_right (by show 3≤3+k;omega),show 3+k - ([-1,0,0]:List Int).length=k by show 3+k - 3=k;omega]
 unfold opB
 rw [List.getElem?_map,List.getElem?_range h];rfl
theorem bldP_leaf {own:List (List Int)} {N j:Nat} (h:j+1<N):(bldP own N).getD (3+own.length+j) (-1)=leastB own (atB own.length) ((2:Nat):Int) ((j+1:Nat):Int) own.length:=by
 unfold bldP
 rw [List.getD_eq_getElem?_getD,List.getElem?_append_right (by rw [List.length_append,opB_len];show 3+own.length≤3+own.length+j;omega),show 3+own.length+j - (([-1,0,0]:List Int)++opB own own.length).length=j by rw [List.length_append,opB_len];show 3+own.length+j - (3+own.length)=j;omega]
 unfold lpB
 rw [List.getElem?_map,List.getElem?_range (by omega)];rfl
theorem bldP_up {own:List (List Int)} {N:Nat}:upT (bldP own N):=by
 refine ⟨(bldP_0 own N).1,fun i h0 hi=>?_⟩
 rw [bldP_len] at hi
 rcases Nat.lt_or_ge i 3 with h1|h1
 ·have h2:=bldP_0 own N
  rcases (show i=1∨i=2 by omega) with rfl|rfl
  ·rw [h2.2.1];omega
  ·rw [h2.2.2];omega
 ·rcases Nat.lt_or_ge i (3+own.length) with h2|h2
  ·obtain⟨k,rfl⟩:∃ k,i=3+k:=⟨i - 3,by omega⟩
   rw [bldP_own (by omega)]
   obtain⟨r,e,h3⟩:=least_spec own k ((own.getD k []).getD 0 0) k (Nat.le_refl _)
   rw [e]
   rcases h3 with⟨h3,-⟩|⟨q,h3,h4,-⟩ <;> omega
  ·obtain⟨j,rfl⟩:∃ j,i=3+own.length+j:=⟨i - (3+own.length),by omega⟩
   rw [bldP_leaf (by omega)]
   obtain⟨r,e,h3⟩:=least_spec own own.length ((j+1:Nat):Int) own.length (Nat.le_refl _)
   rw [e]
   rcases h3 with⟨h3,-⟩|⟨q,h3,h4,-⟩ <;> omega
end Go.Proofs.YtabhdaehomjlgaaGreat
namespace Go.Proofs.YtabhdaehomjlgaaGreat
open Go.RowKit Go.Shelf
set_option maxRecDepth 100000

section
variable {own:List (List Int)} {N:Nat} {names:List ByteArray}
theorem own_at {k:Nat} (h:k<own.length):own.getD k []∈own:=by
 rw [List.getD_eq_getElem?_getD,List.getElem?_eq_getElem h];exact List.getElem_mem h
theorem own_head (hg:ownG own N) {k:Nat} (h:k<own.length):(own.getD k []).getD 0 0∈own.getD k []:=by
 have h2:=(hg.sp _ (own_at h)).two
 generalize own.getD k []=s at h2 ⊢
 rw [List.getD_eq_getElem?_getD,List.getElem?_eq_getElem (by omega)]
 exact List.getElem_mem _
theorem own_in (hg:ownG own N) {i k:Nat} (hki:k<i) (hi:i<own.length) {z:Int} (h1:z∈own.getD i []) (h2:z∈own.getD k []):∀ y∈own.getD i [],y∈own.getD k []:=by
 have hlt:ordB (own.getD k []) (own.getD i [])<0:=by
  have:=List.pairwise_iff_getElem.1 hg.srt k i (by omega) hi hki
  rw [List.getD_eq_getElem?_getD,List.getD_eq_getElem?_getD,List.getElem?_eq_getElem (by omega),List.getElem?_eq_getElem hi]
  exact this
 have hlen:(own.getD i []).length≤(own.getD k []).length:=by
  rcases ordB_le.1 (Int.le_of_lt hlt) with h|⟨h,-⟩ <;> omega
 rcases hg.lam _ (own_at hi) _ (own_at (show k<own.length by omega)) with h|h|h
 ·exact absurd h2 (h z h1)
 ·exact h
 ·have hk:=hg.sp _ (own_at (show k<own.length by omega))
  have he:=Nat.le_antisymm hlen (nodup_sub_len (asc_nd hk.asc) h)
  exact sub_full (asc_nd hk.asc) h he.symm
theorem least_min (p:Nat→Prop) [DecidablePred p] (L:Nat):∀ k,(∃ i,k<i∧i<L∧p i∧∀ q,k<q→q<i→¬ p q)∨∀ i,k<i→i<L→¬ p i:=by
 intro k
 by_cases h:∃ i,k<i∧i<L∧p i
 ·left
  obtain⟨i,h1,h2,h3⟩:=h
  induction i using Nat.strongRecOn with
  | ind i ih =>
   by_cases h4:∃ q,k<q∧q<i∧p q
   ·obtain⟨q,h5,h6,h7⟩:=h4
    exact ih q h6 h5 (by omega) h7
   ·exact⟨i,h1,h2,h3,fun q h5 h6 h7=>h4 ⟨q,h5,h6,h7⟩⟩
 ·exact .inr fun i h1 h2 h3=>h ⟨i,h1,h2,h3⟩
theorem own_kid (hg:ownG own N) {k:Nat} (hk:k<own.length):kdsI (bldP own N) (3+k) (bldP own N).length≠[]:=by
 have hin:∀ c,c<(bldP own N).length→(bldP own N).getD c (-1)=((3+k:Nat):Int)→kdsI (bldP own N) (3+k) (bldP own N).length≠[]:=fun c h1 h2 e=>by
  have:=kdsI_mem.2 ⟨h1,h2⟩
  rw [e] at this;cases this
 have hpl:=bldP_len own N
 rcases @least_min (fun i=>∃ z∈own.getD i [],z∈own.getD k []) (fun _=>Classical.propDecidable _) own.length k with⟨i,h1,h2,⟨z,h3,h4⟩,h5⟩|h
 ·have hh:=own_in hg h1 h2 h3 h4 _ (own_head hg h2)
  refine hin (3+i) (by omega) ?_
  rw [bldP_own h2]
  obtain⟨r,e,h6⟩:=least_spec own i ((own.getD i []).getD 0 0) i (Nat.le_refl _)
  rw [e]
  rcases h6 with⟨-,h6⟩|⟨q,h6,h7,h8,h9⟩
  ·exact absurd hh (h6 k h1)
  ·rcases Nat.lt_trichotomy q k with h|h|h
   ·exact absurd hh (h9 k h h1)
   ·rw [h7,h]
   ·exact absurd ⟨_,h8,hh⟩ (h5 q h h6)
 ·have hz:=own_head hg hk
  have hb:=(hg.sp _ (own_at hk)).bd _ hz
  generalize (own.getD k []).getD 0 0=z at hz hb
  obtain⟨j,rfl⟩:∃ j:Nat,z=((j+1:Nat):Int):=⟨(z - 1).toNat,by omega⟩
  refine hin (3+own.length+j) (by omega) ?_
  rw [bldP_leaf (by omega)]
  obtain⟨r,e,h6⟩:=least_spec own own.length ((j+1:Nat):Int) own.length (Nat.le_refl _)
  rw [e]
  rcases h6 with⟨-,h6⟩|⟨q,h6,h7,h8,h9⟩
  ·exact absurd hz (h6 k hk)
  ·rcases Nat.lt_trichotomy q k with h3|h3|h3
   ·exact absurd hz (h9 k h3 hk)
   ·rw [h7,h3]
   ·exact absurd ⟨_,h8,hz⟩ (h q h3 h6)
theorem bldNm_len (L:Nat):(bldNm names L).length=3+L+(names.length - 1):=by
 unfold bldNm
 rw [List.length_append,List.length_append,List.length_replicate,List.length_drop];rfl
theorem bldNm_1 (L:Nat):(bldNm names L).getD 1 ByteArray.empty=names.getD 0 ByteArray.empty:=by unfold bldNm;rfl
theorem bldNm_in {L i:Nat} (h:i=0∨i=2∨(3≤i∧i<3+L)):(bldNm names L).getD i ByteArray.empty=ByteArray.empty:=by
 unfold bldNm
 rcases h with rfl|rfl|⟨h1,h2⟩
 ·rfl
 ·rfl
 ·rw [List.getD_eq_getElem?_getD,List.getElem?_append_left (by rw [List.length_append,List.length_replicate];show i<3+L;omega),List.getElem?_append_right (by show 3≤i;omega),List.getElem?_replicate]
  split <;> rfl
theorem bldNm_leaf (L j:Nat):(bldNm names L).getD (3+L+j) ByteArray.empty=names.getD (j+1) ByteArray.empty:=by
 unfold bldNm
 rw [List.getD_eq_getElem?_getD,List.getElem?_append_right (by rw [List.length_append,List.length_replicate];show 3+L≤3+L+j;omega),show 3+L+j - ([ByteArray.empty,names.getD 0 ByteArray.empty,ByteArray.empty]++List.replicate L ByteArray.empty).length=j by rw [List.length_append,List.length_replicate];show 3+L+j - (3+L)=j;omega,List.getElem?_drop,List.getD_eq_getElem?_getD,Nat.add_comm 1 j]
theorem bldNm_case (L i:Nat):(bldNm names L).getD i ByteArray.empty=ByteArray.empty∨∃ j,(bldNm names L).getD i ByteArray.empty=names.getD j ByteArray.empty∧((i=1∧j=0)∨(i=2+L+j∧1≤j)):=by
 rcases Nat.lt_or_ge i 3 with h|h
 ·rcases (show i=0∨i=1∨i=2 by omega) with rfl|rfl|rfl
  ·exact .inl (bldNm_in (.inl rfl))
  ·exact .inr ⟨0,bldNm_1 L, .inl ⟨rfl,rfl⟩⟩
  ·exact .inl (bldNm_in (.inr (.inl rfl)))
 ·rcases Nat.lt_or_ge i (3+L) with h2|h2
  ·exact .inl (bldNm_in (.inr (.inr ⟨h,h2⟩)))
  ·obtain⟨j,rfl⟩:∃ j,i=3+L+j:=⟨i - (3+L),by omega⟩
   exact .inr ⟨j+1,bldNm_leaf L j, .inr ⟨by omega,by omega⟩⟩
theorem bld_ok (hg:ownG own N) (hN:names.length=N) (h3:3≤N) (h12:N≤12) (hL:own.length≤12) (hn:gdNm names):tOk (bldP own N) (bldNm names own.length):=by
 have hpl:=bldP_len own N
 have hnl:=bldNm_len (names:=names) own.length
 have hsg0:siglum22 ByteArray.empty=false:=by decide +kernel
 have hup:=bldP_up (own:=own) (N:=N)
 have hkid:∀ c i,c<(bldP own N).length→(bldP own N).getD c (-1)=((i:Nat):Int)→kdsI (bldP own N) i (bldP own N).length≠[]:=fun c i h1 h2 e=>by
  have:=kdsI_mem.2 ⟨h1,h2⟩
  rw [e] at this;cases this
 have hk2:kdsI (bldP own N) 2 (bldP own N).length≠[]:=by
  rcases Nat.eq_zero_or_pos own.length with h0|h0
  ·refine hkid (3+own.length+0) 2 (by omega) ?_
   rw [bldP_leaf (by omega)]
   obtain⟨r,e,h6⟩:=least_spec own own.length ((0+1:Nat):Int) own.length (Nat.le_refl _)
   rw [e]
   rcases h6 with⟨h6,-⟩|⟨q,h6,-⟩
   ·rw [h6]
   ·omega
  ·refine hkid (3+0) 2 (by omega) ?_
   rw [bldP_own h0];rfl
 refine ⟨by omega,by omega,by omega,hup,fun i hi hk=>?_,fun i hi hk=>?_⟩
 · -- a node with children has no name
  obtain⟨c,hc⟩:=List.exists_mem_of_ne_nil _ hk
  obtain⟨hc1,hc2⟩:=kdsI_mem.1 hc
  rcases Nat.lt_or_ge c 3 with h|h
  ·have hb:=bldP_0 own N
   rcases (show c=0∨c=1∨c=2 by omega) with rfl|rfl|rfl
   ·omega
   ·exact bldNm_in (.inl (by omega))
   ·exact bldNm_in (.inl (by omega))
  ·have hr:∃ r:Nat,(bldP own N).getD c (-1)=(r:Int)∧(r=2∨∃ q,q<own.length∧r=3+q):=by
    rcases Nat.lt_or_ge c (3+own.length) with h4|h4
    ·obtain⟨k,rfl⟩:∃ k,c=3+k:=⟨c - 3,by omega⟩
     rw [bldP_own (by omega)]
     obtain⟨r,e,h6⟩:=least_spec own k ((own.getD k []).getD 0 0) k (Nat.le_refl _)
     exact⟨r,e,h6.imp (fun h=>h.1) fun⟨q,h7,h8,_⟩=>⟨q,by omega,h8⟩⟩
    ·obtain⟨j,rfl⟩:∃ j,c=3+own.length+j:=⟨c - (3+own.length),by omega⟩
     rw [bldP_leaf (by omega)]
     obtain⟨r,e,h6⟩:=least_spec own own.length ((j+1:Nat):Int) own.length (Nat.le_refl _)
     exact⟨r,e,h6.imp (fun h=>h.1) fun⟨q,h7,h8,_⟩=>⟨q,h7,h8⟩⟩
   obtain⟨r,hr1,hr2⟩:=hr
   rcases hr2 with hr2|⟨q,hq,hr2⟩
   ·exact bldNm_in (.inr (.inl (by omega)))
   ·exact bldNm_in (.inr (.inr (by omega)))
 · -- a node without children has a name of its own
  have hcase:∃ j,j<N∧(bldNm names own.length).getD i ByteArray.empty=names.getD j ByteArray.empty∧((i=1∧j=0)∨(i=2+own.length+j∧1≤j)):=by
   rcases Nat.lt_or_ge i 3 with h|h
   ·rcases (show i=0∨i=1∨i=2 by omega) with rfl|rfl|rfl
    ·exact absurd hk (hkid 1 0 (by omega) (bldP_0 own N).2.1)
    ·exact⟨0,by omega,bldNm_1 _, .inl ⟨rfl,rfl⟩⟩
    ·exact absurd hk hk2
   ·rcases Nat.lt_or_ge i (3+own.length) with h4|h4
    ·obtain⟨k,rfl⟩:∃ k,i=3+k:=⟨i - 3,by omega⟩
     exact absurd hk (own_kid hg (by omega))
    ·obtain⟨j,rfl⟩:∃ j,i=3+own.length+j:=⟨i - (3+own.length),by omega⟩
     exact⟨j+1,by omega,bldNm_leaf _ j, .inr ⟨by omega,by omega⟩⟩
  obtain⟨j,hj,he,hij⟩:=hcase
  have hnj:names[j]?=some (names.getD j ByteArray.empty):=by rw [List.getD_eq_getElem?_getD,List.getElem?_eq_getElem (by omega)];rfl
  have hsj:=hn.1 _ (List.mem_of_getElem? hnj)
  rw [he]
  refine ⟨hsj,fun hm=>?_⟩
  obtain⟨q,hq⟩:=List.mem_iff_getElem?.1 hm
  rw [List.getElem?_take] at hq
  split at hq
  ·rename_i hqi
   have hqd:(bldNm names own.length).getD q ByteArray.empty=names.getD j ByteArray.empty:=by rw [List.getD_eq_getElem?_getD,hq];rfl
   rcases bldNm_case (names:=names) own.length q with h|⟨j',h,h'⟩
   ·rw [h] at hqd
    rw [← hqd,hsg0] at hsj;cases hsj
   ·have hj':j'<names.length:=by omega
    have hnj':names[j']?=some (names.getD j' ByteArray.empty):=by rw [List.getD_eq_getElem?_getD,List.getElem?_eq_getElem hj'];rfl
    rw [← h,hqd] at hnj'
    have:=nodup_at hn.2 hnj' hnj
    omega
  ·cases hq
end
end Go.Proofs.YtabhdaehomjlgaaGreat
namespace Go.Proofs.YtabhdaehomjlgaaGreat
open Go.RowKit Go.Shelf
set_option maxRecDepth 100000

section
variable {own:List (List Int)} {N:Nat}
def lab (own:List (List Int)) (N:Nat) (v:Nat) (z:Int):Prop :=
 if v=0 then 0≤z∧z<N else if v=1 then z=0 else if v=2 then 1≤z∧z<N else if v<3+own.length then z∈own.getD (v - 3) [] else z=((v - (2+own.length):Nat):Int)
theorem lab_own {k:Nat} (h:k<own.length) (z:Int):lab own N (3+k) z↔z∈own.getD k []:=by
 unfold lab
 rw [if_neg (by omega),if_neg (by omega),if_neg (by omega),if_pos (by omega),show 3+k - 3=k by omega]
theorem lab_leaf {j:Nat} (z:Int):lab own N (3+own.length+j) z↔z=((j+1:Nat):Int):=by
 unfold lab
 rw [if_neg (by omega),if_neg (by omega),if_neg (by omega),if_neg (by omega),show 3+own.length+j - (2+own.length)=j+1 by omega]
theorem lab_0 (z:Int):lab own N 0 z↔0≤z∧z<N:=by unfold lab;rw [if_pos rfl]
theorem lab_1 (z:Int):lab own N 1 z↔z=0:=by unfold lab;rw [if_neg (by decide),if_pos rfl]
theorem lab_2 (z:Int):lab own N 2 z↔1≤z∧z<N:=by unfold lab;rw [if_neg (by decide),if_neg (by decide),if_pos rfl]
theorem lab_up (hg:ownG own N) (h3:3≤N) {v p:Nat} (hv:v<(bldP own N).length) (hp:(bldP own N).getD v (-1)=((p:Nat):Int)) {z:Int} (hz:lab own N v z):lab own N p z:=by
 rw [bldP_len] at hv
 have hb:=bldP_0 own N
 rcases Nat.lt_or_ge v 3 with h|h
 ·rcases (show v=0∨v=1∨v=2 by omega) with rfl|rfl|rfl
  ·omega
  ·obtain rfl:p=0:=by omega
   rw [lab_1] at hz
   rw [lab_0];omega
  ·obtain rfl:p=0:=by omega
   rw [lab_2] at hz
   rw [lab_0];omega
 ·rcases Nat.lt_or_ge v (3+own.length) with h4|h4
  ·obtain⟨k,rfl⟩:∃ k,v=3+k:=⟨v - 3,by omega⟩
   have hk:k<own.length:=by omega
   rw [bldP_own hk] at hp
   rw [lab_own hk] at hz
   obtain⟨r,e,h6⟩:=least_spec own k ((own.getD k []).getD 0 0) k (Nat.le_refl _)
   obtain rfl:r=p:=by omega
   rcases h6 with⟨rfl,-⟩|⟨q,h7,rfl,h8,-⟩
   ·rw [lab_2]
    exact (hg.sp _ (own_at hk)).bd z hz
   ·rw [lab_own (by omega)]
    exact own_in hg h7 hk (own_head hg hk) h8 z hz
  ·obtain⟨j,rfl⟩:∃ j,v=3+own.length+j:=⟨v - (3+own.length),by omega⟩
   rw [bldP_leaf (by omega)] at hp
   rw [lab_leaf] at hz
   obtain⟨r,e,h6⟩:=least_spec own own.length ((j+1:Nat):Int) own.length (Nat.le_refl _)
   obtain rfl:r=p:=by omega
   subst hz
   rcases h6 with⟨rfl,-⟩|⟨q,h7,rfl,h8,-⟩
   ·rw [lab_2];omega
   ·rw [lab_own h7];exact h8
theorem least_min0 (p:Nat→Prop) [DecidablePred p] (L t:Nat):(∃ i,t≤i∧i<L∧p i∧∀ q,t≤q→q<i→¬ p q)∨∀ i,t≤i→i<L→¬ p i:=by
 by_cases h:∃ i,t≤i∧i<L∧p i
 ·left
  obtain⟨i,h1,h2,h3⟩:=h
  induction i using Nat.strongRecOn with
  | ind i ih =>
   by_cases h4:∃ q,t≤q∧q<i∧p q
   ·obtain⟨q,h5,h6,h7⟩:=h4
    exact ih q h6 h5 (by omega) h7
   ·exact⟨i,h1,h2,h3,fun q h5 h6 h7=>h4 ⟨q,h5,h6,h7⟩⟩
 ·exact .inr fun i h1 h2 h3=>h ⟨i,h1,h2,h3⟩
theorem lab_down (hg:ownG own N) (h3:3≤N) {v:Nat} (hv:v<(bldP own N).length) (hin:v=0∨v=2∨(3≤v∧v<3+own.length)) {z:Int} (hz:lab own N v z):∃ c,c<(bldP own N).length∧(bldP own N).getD c (-1)=((v:Nat):Int)∧lab own N c z:=by
 have hb:=bldP_0 own N
 have hpl:=bldP_len own N
 rcases hin with rfl|hin
 ·rw [lab_0] at hz
  rcases Int.lt_or_le z 1 with h|h
  ·exact⟨1,by omega,hb.2.1,by rw [lab_1];omega⟩
  ·exact⟨2,by omega,hb.2.2,by rw [lab_2];omega⟩
 ·have hz1:1≤z∧z<(N:Int):=by
   rcases hin with rfl|hin
   ·exact lab_2 z |>.1 hz
   ·obtain⟨k,rfl⟩:∃ k,v=3+k:=⟨v - 3,by omega⟩
    exact (hg.sp _ (own_at (by omega))).bd z ((lab_own (by omega) z).1 hz)
  obtain⟨j,rfl⟩:∃ j:Nat,z=((j+1:Nat):Int):=⟨(z - 1).toNat,by omega⟩
  -- t: the first set that may lie below v
  obtain⟨t,⟨ht1,ht2⟩|ht⟩:∃ t,(v=2∧t=0)∨(∃ k,k<own.length∧v=3+k∧t=k+1∧((j+1:Nat):Int)∈own.getD k [])∧True:=by
   rcases hin with rfl|hin
   ·exact⟨0, .inl ⟨rfl,rfl⟩⟩
   ·obtain⟨k,rfl⟩:∃ k,v=3+k:=⟨v - 3,by omega⟩
    exact⟨k+1, .inr ⟨⟨k,by omega,rfl,rfl,(lab_own (by omega) _).1 hz⟩,trivial⟩⟩
  · -- v=2
   subst ht1 ht2
   rcases @least_min0 (fun i=>((j+1:Nat):Int)∈own.getD i []) (fun _=>Classical.propDecidable _) own.length 0 with⟨i,-,h2,h5,h6⟩|h
   ·refine ⟨3+i,by omega,?_,(lab_own h2 _).2 h5⟩
    rw [bldP_own h2]
    obtain⟨r,e,h7⟩:=least_spec own i ((own.getD i []).getD 0 0) i (Nat.le_refl _)
    rw [e]
    rcases h7 with⟨h7,-⟩|⟨q,h7,-,h8,-⟩
    ·rw [h7]
    ·exact absurd (own_in hg h7 h2 (own_head hg h2) h8 _ h5) (h6 q (Nat.zero_le _) h7)
   ·refine ⟨3+own.length+j,by omega,?_,(lab_leaf _).2 rfl⟩
    rw [bldP_leaf (by omega)]
    obtain⟨r,e,h7⟩:=least_spec own own.length ((j+1:Nat):Int) own.length (Nat.le_refl _)
    rw [e]
    rcases h7 with⟨h7,-⟩|⟨q,h7,-,h8,-⟩
    ·rw [h7]
    ·exact absurd h8 (h q (Nat.zero_le _) h7)
  · -- v=3+k
   obtain⟨⟨k,hk,rfl,rfl,hzk⟩,-⟩:=ht
   rcases @least_min0 (fun i=>((j+1:Nat):Int)∈own.getD i []) (fun _=>Classical.propDecidable _) own.length (k+1) with⟨i,h1,h2,h5,h6⟩|h
   ·refine ⟨3+i,by omega,?_,(lab_own h2 _).2 h5⟩
    have hh:=own_in hg (show k<i by omega) h2 h5 hzk _ (own_head hg h2)
    rw [bldP_own h2]
    obtain⟨r,e,h7⟩:=least_spec own i ((own.getD i []).getD 0 0) i (Nat.le_refl _)
    rw [e]
    rcases h7 with⟨-,h7⟩|⟨q,h7,h9,h8,h10⟩
    ·exact absurd hh (h7 k (by omega))
    ·rcases Nat.lt_trichotomy q k with h11|h11|h11
     ·exact absurd hh (h10 k h11 (by omega))
     ·rw [h9,h11]
     ·exact absurd (own_in hg h7 h2 (own_head hg h2) h8 _ h5) (h6 q (by omega) h7)
   ·refine ⟨3+own.length+j,by omega,?_,(lab_leaf _).2 rfl⟩
    rw [bldP_leaf (by omega)]
    obtain⟨r,e,h7⟩:=least_spec own own.length ((j+1:Nat):Int) own.length (Nat.le_refl _)
    rw [e]
    rcases h7 with⟨-,h7⟩|⟨q,h7,h9,h8,h10⟩
    ·exact absurd hzk (h7 k hk)
    ·rcases Nat.lt_trichotomy q k with h11|h11|h11
     ·exact absurd hzk (h10 k h11 hk)
     ·rw [h9,h11]
     ·exact absurd h8 (h q (by omega) h7)
theorem bld_plS {names:List ByteArray} (hg:ownG own N) (hN:names.length=N) (h3:3≤N) (h12:N≤12) (hL:own.length≤12) (hn:gdNm names) :
  ∀ m v,(bldP own N).length≤m+v→v<(bldP own N).length→∀ z,(z∈plS names (ndT (bldP own N) (bldNm names own.length) v)↔lab own N v z):=by
 have hok:=bld_ok hg hN h3 h12 hL hn
 have hpl:=bldP_len own N
 have hsg0:siglum22 ByteArray.empty=false:=by decide +kernel
 intro m
 induction m with
 | zero=>intro v h1 h2;omega
 | succ m ih =>
 intro v h1 h2 z
 have hleaf:∀ j,j<N→(bldNm names own.length).getD v ByteArray.empty=names.getD j ByteArray.empty→(z∈plS names (ndT (bldP own N) (bldNm names own.length) v)↔z=(j:Int)):=fun j hj he=>by
  have hnj:names[j]?=some (names.getD j ByteArray.empty):=by rw [List.getD_eq_getElem?_getD,List.getElem?_eq_getElem (by omega)];rfl
  have hsj:=hn.1 _ (List.mem_of_getElem? hnj)
  have hk:kdsI (bldP own N) v (bldP own N).length=[]:=Classical.byContradiction fun hk=>by
   have:=hok.inn v h2 hk
   rw [he] at this
   rw [this,hsg0] at hsj;cases hsj
  rw [ndT_eq hok.up,hk,he,List.map_nil,plS_leaf hn.2 hnj,List.mem_singleton]
 have hinner:(v=0∨v=2∨(3≤v∧v<3+own.length))→∀ z0,lab own N v z0→(z∈plS names (ndT (bldP own N) (bldNm names own.length) v)↔lab own N v z):=fun hin z0 hz0=>by
  obtain⟨c0,hc0,hc1,-⟩:=lab_down hg h3 h2 hin hz0
  have hne:(kdsI (bldP own N) v (bldP own N).length).map (ndT (bldP own N) (bldNm names own.length))≠[]:=fun e=>by
   have:=kdsI_mem.2 ⟨hc0,hc1⟩
   rw [List.map_eq_nil_iff.1 e] at this;cases this
  rw [ndT_eq hok.up,plS_kids hne,List.mem_flatMap]
  constructor
  ·rintro⟨x,hx,hzx⟩
   obtain⟨c,hc,rfl⟩:=List.mem_map.1 hx
   obtain⟨hc2,hc3⟩:=kdsI_mem.1 hc
   have hgt:=hok.up.gt (Nat.le_refl _) hc
   exact lab_up hg h3 hc2 hc3 ((ih c (by omega) hc2 z).1 hzx)
  ·intro hz
   obtain⟨c,hc2,hc3,hc4⟩:=lab_down hg h3 h2 hin hz
   have hc:=kdsI_mem.2 ⟨hc2,hc3⟩
   have hgt:=hok.up.gt (Nat.le_refl _) hc
   exact⟨_,List.mem_map_of_mem hc,(ih c (by omega) hc2 z).2 hc4⟩
 rcases Nat.lt_or_ge v 3 with h|h
 ·rcases (show v=0∨v=1∨v=2 by omega) with rfl|rfl|rfl
  ·exact hinner (.inl rfl) 0 ((lab_0 _).2 (by omega))
  ·rw [hleaf 0 (by omega) (bldNm_1 _),lab_1];exact Iff.rfl
  ·exact hinner (.inr (.inl rfl)) 1 ((lab_2 _).2 (by omega))
 ·rcases Nat.lt_or_ge v (3+own.length) with h4|h4
  ·obtain⟨k,rfl⟩:∃ k,v=3+k:=⟨v - 3,by omega⟩
   exact hinner (.inr (.inr ⟨h,h4⟩)) _ ((lab_own (by omega) _).2 (own_head hg (by omega)))
  ·obtain⟨j,rfl⟩:∃ j,v=3+own.length+j:=⟨v - (3+own.length),by omega⟩
   rw [hleaf (j+1) (by omega) (bldNm_leaf _ j),lab_leaf]
end
end Go.Proofs.YtabhdaehomjlgaaGreat
namespace Go.Proofs.YtabhdaehomjlgaaGreat
open Go.RowKit Go.Shelf
set_option maxRecDepth 100000

theorem plS_asc (names:List ByteArray) (x:Nd):(plS names x).Pairwise (· < ·):=by unfold plS;exact setI_asc _ _
theorem bld_of {own:List (List Int)} {N:Nat} {names:List ByteArray} (hg:ownG own N) (hN:names.length=N) (h3:3≤N) (h12:N≤12) (hL:own.length≤12) (hn:gdNm names) {L:List (List Int)}
  (hof:ofOk (cps (bldP own N) (bldNm names own.length)) (cns (bldP own N) (bldNm names own.length)) names L) (s:List Int):s∈L↔s∈own:=by
 have hok:=bld_ok hg hN h3 h12 hL hn
 have hck:=cnT_ok hok
 have hpl:=bldP_len own N
 have hlab:=fun v (hv:v<(bldP own N).length) z=>bld_plS hg hN h3 h12 hL hn (bldP own N).length v (by omega) hv z
 have hownk:∀ k,k<own.length→plS names (ndT (bldP own N) (bldNm names own.length) (3+k))=own.getD k []:=fun k hk =>
  asc_uniq (plS_asc _ _) (hg.sp _ (own_at hk)).asc fun z=>(hlab (3+k) (by omega) z).trans (lab_own hk z)
 have hnrm:∀ t∈own,nrmI N t=t:=fun t ht=>by
  unfold nrmI
  rw [if_neg]
  intro h0
  have:=(hg.sp t ht).bd 0 h0
  omega
 rw [ofOk_sets hof hck.up hck.pos,hN]
 constructor
 ·rintro⟨hs,t,ht,rfl⟩
  rw [setsN_cn,setsN_ndOf hok.up hok.pos] at ht
  obtain⟨i,hi0,hi,rfl⟩:=ht
  rcases Nat.lt_or_ge i 3 with h|h
  ·exfalso
   rcases (show i=1∨i=2 by omega) with rfl|rfl
   ·have e:plS names (ndT (bldP own N) (bldNm names own.length) 1)=[((0:Nat):Int)]:=asc_uniq (plS_asc _ _) (List.pairwise_singleton _ _) fun z=>(hlab 1 hi z).trans ((lab_1 z).trans List.mem_singleton.symm)
    rw [e] at hs
    exact sing_no _ _ hs
   ·have h0:(0:Int) ∉ plS names (ndT (bldP own N) (bldNm names own.length) 2):=fun hm=>by
     have:=(lab_2 _).1 ((hlab 2 hi 0).1 hm)
     omega
    unfold nrmI at hs
    rw [if_neg h0] at hs
    have hr:=hs.room
    have hsub:=nodup_sub_len (l:=(List.range (N - 1)).map fun (j:Nat)=>((j+1:Nat):Int)) (m:=plS names (ndT (bldP own N) (bldNm names own.length) 2)) (nodup_map9 List.nodup_range fun a _ b _ e=>by omega) fun z hz=>by
     obtain⟨j,hj,rfl⟩:=List.mem_map.1 hz
     have:=List.mem_range.1 hj
     exact (hlab 2 hi _).2 ((lab_2 _).2 (by omega))
    rw [List.length_map,List.length_range] at hsub
    omega
  ·rcases Nat.lt_or_ge i (3+own.length) with h4|h4
   ·obtain⟨k,rfl⟩:∃ k,i=3+k:=⟨i - 3,by omega⟩
    rw [hownk k (by omega),hnrm _ (own_at (by omega))]
    exact own_at (by omega)
   ·exfalso
    obtain⟨j,rfl⟩:∃ j,i=3+own.length+j:=⟨i - (3+own.length),by omega⟩
    have e:plS names (ndT (bldP own N) (bldNm names own.length) (3+own.length+j))=[((j+1:Nat):Int)]:=asc_uniq (plS_asc _ _) (List.pairwise_singleton _ _) fun z=>(hlab _ hi z).trans ((lab_leaf z).trans List.mem_singleton.symm)
    rw [e] at hs
    exact sing_no _ _ hs
 ·intro hs
  refine ⟨hg.sp s hs,s,?_,(hnrm s hs).symm⟩
  obtain⟨k,hk⟩:=List.mem_iff_getElem?.1 hs
  have hkl:=(List.getElem?_eq_some_iff.1 hk).1
  rw [setsN_cn,setsN_ndOf hok.up hok.pos]
  exact⟨3+k,by omega,by omega,by rw [hownk k hkl,List.getD_eq_getElem?_getD,hk];rfl⟩
end Go.Proofs.YtabhdaehomjlgaaGreat
namespace Go.Proofs.YtabhdaehomjlgaaGreat
open Go.RowKit Go.Shelf Go.Proofs
set_option maxRecDepth 100000

theorem buildT_spec (An A:Option Addr) (N cn n c:Nat) (names:List ByteArray) (hs:List RwI) (w:World) (hsn:Src w 1 An N (names.map Value.string)) (hN:names.length=N) (h9:N≤9) (hcn:N≤cn) (hsz:∀ a∈names,a.size≤20) (hq:SplQ w A n hs) :
  Spec Tryz.prog 10 [.slice An N cn, .slice A n c] w (bldR names N hs n (bldT names N hs n)):=by
 refine build_spec An A N cn n c names hs w hsn hN h9 hcn hsz hq fun ys hp hso hn hS hP h3=>?_
 have hg:=(own_g hq.len hp hso hS hP).1
 have hl1:=cpR_len ys
 have hl2:=hp.length_eq
 have hl3:=hq.len
 have hl4:=hq.n12
 have:=bld_ok hg hN h3 (by omega) (by rw [List.length_map];omega) hn
 rwa [List.length_map] at this
end Go.Proofs.YtabhdaehomjlgaaGreat
namespace Go.Proofs.YtabhdaehomjlgaaGreat
open Go.RowKit Go.Shelf Go.Proofs
set_option maxRecDepth 100000

theorem own_uniq {a b:List (List Int)} {N:Nat} (h1:ownG a N) (h2:ownG b N) (hm:∀ s,s∈a↔s∈b):a=b :=
 ltLs_uniq (R:=fun a b=>ordB a b<0) (fun a h=>by have:=ordB_self a;omega) (fun a b h1 h2=>by have:=ordB_swap a b;omega) h1.srt h2.srt hm
theorem Rd.rowL {R:Rdr}:∀ {m:List (List Int)} {cs:List Value},Rd R cs (m.map intsD)→∃ hs:List RwI,hs.map RwI.l=m∧cs=hs.map (fun x=>Value.slice x.A x.n x.cap)∧∀ x∈hs,Rd R [.slice x.A x.n x.cap] [intsD x.l]∧x.l.length=x.n∧x.n≤x.cap∧x.cap≤9223372036854775807
 | [],cs,h=>by
  have:=h.length
  obtain rfl:cs=[]:=List.eq_nil_of_length_eq_zero this
  exact⟨[],rfl,rfl,fun g hg=>by cases hg⟩
 | r::m,cs,h=>by
  obtain⟨c,cs',rfl⟩:∃ c cs',cs=c::cs':=by
   have hl:=h.length
   match cs,hl with
   | a::b,_=>exact⟨a,b,rfl⟩
  obtain⟨k1,k2⟩:=Rd.cons_inv (d:=intsD r) h
  obtain⟨hs,e1,rfl,e3⟩:=Rd.rowL k2
  obtain⟨A,cap,rfl,g1,g2,-⟩:=Rd.row1 (r:=r) k1
  refine ⟨⟨A,r.length,cap,r⟩::hs,by rw [List.map_cons,e1],rfl,fun y hy=>?_⟩
  rcases List.mem_cons.1 hy with rfl|hy
  ·exact⟨k1,rfl,g1,g2⟩
  ·exact e3 y hy
theorem Rd.rowsR {R:Rdr} {v:Value} {m:List (List Int)} (h:Rd R [v] [rowsD m]):∃ (A:Option Addr) (c:Nat) (hs:List RwI),hs.map RwI.l=m∧v = .slice A hs.length c∧(hs.length≤c∧c≤9223372036854775807)∧(∀ x∈hs,x.l.length=x.n∧x.n≤x.cap∧x.cap≤9223372036854775807) ∧
  ∀ w,R.le (wr w)→Src w 1 A hs.length (hs.map fun x=>Value.slice x.A x.n x.cap)∧∀ x∈hs,Src w 1 x.A x.n (x.l.map (Value.int .i64)):=by
 obtain⟨A,n,c,cs,rfl,h1,h2,h3,h4,h5,h6⟩:=h.slice
 obtain⟨hs,e1,rfl,e3⟩:=Rd.rowL h6
 have hl:hs.length=n:=by rw [List.length_map,Nat.mul_one] at h2;exact h2
 subst hl
 refine ⟨A,c,hs,e1,rfl,⟨h3,h4⟩,fun x hx=>(e3 x hx).2,fun w hw=>⟨⟨h2,fun h0=>⟨(h5 h0).1,fun j u hu=>hw _ _ _ ((h5 h0).2 j u hu)⟩⟩,fun x hx=>((e3 x hx).1.mono hw).intsAt⟩⟩
theorem splQ_of {A:Option Addr} {hs:List RwI} {w:World} (h1:∀ x∈hs,x.l.length=x.n∧x.n≤x.cap∧x.cap≤9223372036854775807) (h2:Src w 1 A hs.length (hs.map fun x=>Value.slice x.A x.n x.cap)∧∀ x∈hs,Src w 1 x.A x.n (x.l.map (Value.int .i64))) (hn:hs.length≤12) (hx:∀ x∈hs,x.n≤64):SplQ w A hs.length hs :=
 ⟨h2.1,rfl,hn,fun x hxm=>⟨h2.2 x hxm,(h1 x hxm).1,(h1 x hxm).2,hx x hxm⟩⟩
end Go.Proofs.YtabhdaehomjlgaaGreat
namespace Go.Proofs.YtabhdaehomjlgaaGreat
open Go.RowKit Go.Shelf Go.Proofs
set_option maxRecDepth 100000

theorem half_law {L M:List (List Int)} {s:List Int} (hL:L.Nodup) (hM:M.Nodup) (h:∀ x,x∈M↔x∈L∨x=s) :
  halfN L M=0∧halfN M L=(if s∈L then 0 else 1)∧M.length=L.length+(if s∈L then 0 else 1):=by
 refine ⟨?_,?_⟩
 ·unfold halfN
  rw [List.length_eq_zero_iff,List.filter_eq_nil_iff]
  intro x hx
  have:=(h x).2 (.inl hx)
  simp [this]
 by_cases hs:s∈L
 ·rw [if_pos hs]
  have hm:∀ x,x∈M↔x∈L:=fun x=>(h x).trans ⟨fun h1=>h1.elim id (fun e=>e ▸ hs), .inl⟩
  refine ⟨?_,Nat.le_antisymm (nodup_sub_len hM fun x hx=>(hm x).1 hx) (nodup_sub_len hL fun x hx=>(hm x).2 hx)⟩
  unfold halfN
  rw [List.length_eq_zero_iff,List.filter_eq_nil_iff]
  intro x hx
  have:=(hm x).1 hx
  simp [this]
 ·rw [if_neg hs]
  have hn:(s::L).Nodup:=List.nodup_cons.2 ⟨hs,hL⟩
  have hm:∀ x,x∈M↔x∈s::L:=fun x=>by rw [h x,List.mem_cons,or_comm]
  have hl:M.length=(s::L).length:=Nat.le_antisymm (nodup_sub_len hM fun x hx=>(hm x).1 hx) (nodup_sub_len hn fun x hx=>(hm x).2 hx)
  refine ⟨?_,by rw [hl,List.length_cons]⟩
  have hf:∀ x,x∈(M.filter fun x => !decide (x∈L))↔x∈[s]:=fun x=>by
   rw [List.mem_filter,List.mem_singleton,h x]
   constructor
   ·rintro⟨h1,h2⟩
    simp only [Bool.not_eq_true',decide_eq_false_iff_not] at h2
    exact h1.resolve_left h2
   ·rintro rfl
    exact⟨.inr rfl,by simp [hs]⟩
  exact Nat.le_antisymm (nodup_sub_len (hM.filter _) fun x hx=>(hf x).1 hx) (nodup_sub_len (List.nodup_cons.2 ⟨by simp,List.nodup_nil⟩) fun x hx=>(hf x).2 hx)
theorem own_again {own:List (List Int)} {N:Nat} {hs:List RwI} (hg:ownG own N) (hm:∀ x∈hs,x.l∈own):gdSp N hs∧gdPr hs hs.length:=by
 refine ⟨fun x hx=>hg.sp _ (hm x hx),fun i k hik hk=>?_⟩
 obtain⟨x,hx⟩:∃ x,hs[i]?=some x:=⟨_,List.getElem?_eq_getElem (by omega)⟩
 obtain⟨y,hy⟩:∃ y,hs[k]?=some y:=⟨_,List.getElem?_eq_getElem hk⟩
 have h1:=hm x (List.mem_of_getElem? hx)
 have h2:=hm y (List.mem_of_getElem? hy)
 unfold cmpAt
 rw [getL_at hx,getL_at hy]
 exact (cmpS_iff (hg.sp _ h1).set (hg.sp _ h2).set).2 (hg.lam _ h1 _ h2)
theorem gdPr_snoc {hs:List RwI} {x:RwI}:gdPr (hs++[x]) (hs.length+1)↔gdPr hs hs.length∧∀ y∈hs,cmpS y.l x.l=true:=by
 have e1:∀ k,k<hs.length→((hs++[x]).map RwI.l).getD k []=(hs.map RwI.l).getD k []:=fun k hk=>by
  rw [List.map_append,List.getD_eq_getElem?_getD,List.getD_eq_getElem?_getD,List.getElem?_append_left (by rw [List.length_map];exact hk)]
 have e2:((hs++[x]).map RwI.l).getD hs.length []=x.l:=getL_at (by rw [List.getElem?_append_right (Nat.le_refl _),Nat.sub_self];rfl)
 constructor
 ·intro h
  refine ⟨fun i k hik hk=>?_,fun y hy=>?_⟩
  ·have:=h i k hik (by omega)
   unfold cmpAt at this ⊢
   rwa [e1 i (by omega),e1 k hk] at this
  ·obtain⟨i,hi⟩:=List.mem_iff_getElem?.1 hy
   have hil:=(List.getElem?_eq_some_iff.1 hi).1
   have:=h i hs.length hil (by omega)
   unfold cmpAt at this
   rwa [e2,e1 i hil,getL_at hi] at this
 ·rintro⟨h1,h2⟩ i k hik hk
  unfold cmpAt
  rcases Nat.lt_or_ge k hs.length with h|h
  ·rw [e1 i (by omega),e1 k h]
   exact h1 i k hik h
  ·obtain rfl:k=hs.length:=by omega
   obtain⟨y,hy⟩:∃ y,hs[i]?=some y:=⟨_,List.getElem?_eq_getElem hik⟩
   rw [e2,e1 i hik,getL_at hy]
   exact h2 y (List.mem_of_getElem? hy)
structure BldG (names:List ByteArray) (N:Nat) (ls:List (List Int)) (own:List (List Int)):Prop where
 g:ownG own N
 m:∀ s,s∈own↔s∈ls
 len:own.length≤12
theorem bldT_own {names:List ByteArray} {N n:Nat} {hs:List RwI} {x y:Value} {R:List HA} (hl:hs.length=n) (h12:n≤12) (hS:gdSp N hs) (hP:gdPr hs n) (h:bldT names N hs n x y R) :
  ∃ own,BldG names N (hs.map RwI.l) own∧∃ (m:Nat) (s:(Option Addr × Nat) × (Option Addr × Nat)),m=(bldP own N).length∧(m≤s.1.2∧m≤s.2.2)∧x = .slice s.1.1 m s.1.2∧y = .slice s.2.1 m s.2.2 ∧
   R=[row 3 1 s.1.1 s.1.2 m ((cps (bldP own N) (bldNm names own.length)).map (Value.int .i64)),row 9 1 s.2.1 s.2.2 m ((cns (bldP own N) (bldNm names own.length)).map Value.string)]:=by
 obtain⟨ys,hp,hso,m,s,h1,h2,h3,h4,h5⟩:=h
 obtain⟨g1,g2⟩:=own_g hl hp hso hS hP
 have l1:=cpR_len ys
 have l2:=hp.length_eq
 have hll:((cpR ys).map RwI.l).length=(cpR ys).length:=List.length_map _
 exact⟨(cpR ys).map RwI.l,⟨g1,g2,by omega⟩,m,s,h1,h2,h3,h4,by rw [hll];exact h5⟩
theorem BldG.uniq {names:List ByteArray} {N:Nat} {ls ms o1 o2:List (List Int)} (h1:BldG names N ls o1) (h2:BldG names N ms o2) (h:∀ s,s∈ls↔s∈ms):o1=o2 :=
 own_uniq h1.g h2.g fun s=>(h1.m s).trans ((h s).trans (h2.m s).symm)
end Go.Proofs.YtabhdaehomjlgaaGreat
namespace Go.Proofs.YtabhdaehomjlgaaGreat
open Go.RowKit Go.Shelf Go.Proofs
set_option maxRecDepth 100000

theorem bldNm_cnt {names:List ByteArray} (hn:gdNm names) (h0:0<names.length) (L:Nat):(lfI (bldNm names L)).length=names.length:=by
 have hne:∀ a∈names,a≠ByteArray.empty:=fun a ha=>siglum_ne (hn.1 a ha)
 rw [lfI_cnt]
 unfold bldNm
 have hr:(List.replicate L ByteArray.empty).filter (fun a=>decide (a≠ByteArray.empty))=[]:=List.filter_eq_nil_iff.2 fun a ha=>by rw [(List.mem_replicate.1 ha).2];simp
 obtain⟨a,r,rfl⟩:∃ a r,names=a::r:=by
  cases names with
  | nil=>exact absurd h0 (Nat.lt_irrefl _)
  | cons a r=>exact⟨a,r,rfl⟩
 have ha:=hne a (.head _)
 have hd:((a::r).drop 1).filter (fun a=>decide (a≠ByteArray.empty))=r:=List.filter_eq_self.2 fun x hx=>decide_eq_true (hne x (.tail _ hx))
 rw [List.filter_append,List.filter_append,hr,hd,List.append_nil,List.length_append]
 rw [List.filter_cons_of_neg (by simp),List.filter_cons_of_pos (by show decide (a≠ByteArray.empty)=true;exact decide_eq_true ha),List.filter_cons_of_neg (by simp),List.filter_nil]
 rw [List.length_cons,List.length_cons,List.length_nil]
 omega
theorem bld_lf {own:List (List Int)} {N:Nat} {names:List ByteArray} (hg:ownG own N) (hN:names.length=N) (h3:3≤N) (h12:N≤12) (hL:own.length≤12) (hn:gdNm names) :
  (lfI (cns (bldP own N) (bldNm names own.length))).length=names.length∧∀ k∈lfI (cns (bldP own N) (bldNm names own.length)),(cns (bldP own N) (bldNm names own.length)).getD k ByteArray.empty∈names:=by
 have hok:=bld_ok hg hN h3 h12 hL hn
 have hck:=cnT_ok hok
 have hp:=((nms_ndOf hck).symm.trans nms_cn).trans (nms_ndOf hok)
 constructor
 ·have:=hp.length_eq
  rw [List.length_map,List.length_map,bldNm_cnt hn (by omega)] at this
  exact this
 ·intro k hk
  obtain⟨i,hi,e⟩:=List.mem_map.1 (hp.mem_iff.1 (List.mem_map_of_mem hk))
  rw [← e]
  have hne:=(lfI_mem.1 hi).2
  rcases bldNm_case (names:=names) own.length i with h|⟨j,h,-⟩
  ·exact absurd h hne
  ·rw [h] at hne ⊢
   rw [List.getD_eq_getElem?_getD] at hne ⊢
   cases hj:names[j]? with
   | none=>rw [hj] at hne;exact absurd rfl hne
   | some a=>exact List.mem_of_getElem? hj
theorem bld_ofR {own:List (List Int)} {N:Nat} {names:List ByteArray} {ls:List (List Int)} (hB:BldG names N ls own) (hN:names.length=N) (h3:3≤N) (h9:N≤9) (hL:own.length≤8) (hn:gdNm names) {w:World} {A1 A2:Option Addr} {c1 c2 m:Nat} (hm:m=(bldP own N).length) (k1:m≤c1) (k2:m≤c2)
  (s1:Src w 1 A1 m ((cps (bldP own N) (bldNm names own.length)).map (Value.int .i64))) (s2:Src w 1 A2 m ((cns (bldP own N) (bldNm names own.length)).map Value.string)) :
  OfR w A1 c1 A2 c2 m (cps (bldP own N) (bldNm names own.length)) (cns (bldP own N) (bldNm names own.length)) names:=by
 have hok:=bld_ok hB.g hN h3 (by omega) hB.len hn
 have hck:=cnT_ok hok
 obtain⟨l1,l2⟩:=bld_lf hB.g hN h3 (by omega) hB.len hn
 have hpl:=bldP_len own N
 have hcl:=cps_len hok
 have hcn:=cns_len hok
 exact⟨⟨s1,s2,by omega,by omega,k1,k2,by omega,by omega,hck.sizes⟩,hck,l1,l2,by omega⟩
theorem own_bnd {own:List (List Int)} {N:Nat} {names:List ByteArray} {ls:List (List Int)} (hB:BldG names N ls own):own.length≤ls.length :=
 nodup_sub_len (hB.g.srt.imp fun {a b} hab e=>by subst e;have:=ordB_self a;omega) fun s hs=>(hB.m s).1 hs
end Go.Proofs.YtabhdaehomjlgaaGreat
namespace Go.Proofs.YtabhdaehomjlgaaGreat
open Go.RowKit Go.Shelf Go.Proofs
set_option maxRecDepth 100000
set_option maxHeartbeats 4000000

theorem great04_at (hs:List RwI) (i:Nat) (x:Value) (hx:(hs.map fun x=>Value.slice x.A x.n x.cap)[i]?=some x) (w:World):Spec Tryz.prog 8 ([]++(x::[])) w (fun v R=>v = .bool (decide ((12:Int)<(((hs.map RwI.n).getD i 0:Nat):Int)))∧R=[]):=by
 rw [List.getElem?_map] at hx
 cases h:hs[i]? with
 | none=>rw [h] at hx;cases hx
 | some y =>
  rw [h] at hx
  cases hx
  have e:(hs.map RwI.n).getD i 0=y.n:=by rw [List.getD_eq_getElem?_getD,List.getElem?_map,h];rfl
  rw [e]
  exact great04_spec y.A y.n y.cap w
theorem buildU_spec (An A:Option Addr) (N cn n c:Nat) (names:List ByteArray) (hs:List RwI) (w:World) (hsn:Src w 1 An N (names.map Value.string)) (hN:names.length=N) (h9:N≤9) (hcn:N≤cn) (hsz:∀ a∈names,a.size≤20) (hq:SplQ w A n hs) (hgn:gdNm names) (hgs:gdSp N hs) (hgp:gdPr hs n) (h4:4≤N) :
  Spec Tryz.prog 10 [.slice An N cn, .slice A n c] w (fun v R=>∃ s:List (List Int) × ((Option Addr × Nat) × (Option Addr × Nat)),(BldG names N (hs.map RwI.l) s.1∧(bldP s.1 N).length≤s.2.1.2∧(bldP s.1 N).length≤s.2.2.2) ∧
   v = .tuple #[.agg #[.slice s.2.1.1 (bldP s.1 N).length s.2.1.2, .slice s.2.2.1 (bldP s.1 N).length s.2.2.2], .int .i64 0] ∧
   R=[row 3 1 s.2.1.1 s.2.1.2 (bldP s.1 N).length ((cps (bldP s.1 N) (bldNm names s.1.length)).map (Value.int .i64)),row 9 1 s.2.2.1 s.2.2.2 (bldP s.1 N).length ((cns (bldP s.1 N) (bldNm names s.1.length)).map Value.string)]):=by
 refine (buildT_spec An A N cn n c names hs w hsn hN h9 hcn hsz hq).mono ?_
 rintro v R ⟨P,Q,p,pc,q,qc,e0,rfl,-,-,h3⟩
 obtain⟨rfl,htree⟩:=h3 hgn hgs hgp h4
 obtain⟨own,hB,m,s,rfl,hk,ePx,eQy,rfl⟩:=bldT_own hq.len hq.n12 hgs hgp htree
 cases ePx
 cases eQy
 exact⟨(own,s),⟨hB,hk⟩,rfl,rfl⟩
theorem rdL_at {w:World} {A:Option Addr} {n:Nat} {hs:List RwI} (h:SplQ w A n hs) {i:Nat} {x:Value} (hx:(hs.map fun x=>Value.slice x.A x.n x.cap)[i]?=some x):Rd (wr w) [x] [intsD ((hs.map RwI.l).getD i [])]:=by
 rw [List.getElem?_map] at hx
 cases e:hs[i]? with
 | none=>rw [e] at hx;cases hx
 | some y =>
  rw [e] at hx
  cases hx
  rw [getL_at e]
  obtain⟨r1,-,r3,-⟩:=h.rd y (List.mem_of_getElem? e)
  exact rd_intsU r1 r3.1 r3.2
theorem splC_spec (b5:Nat) (x y:Value) (p q:List Int) (w:World) (h:RdC w b5 0 [y]) (hx:Rd (wr w) [x] [intsD p]) (hy:Rd (wr w) [y] [intsD q]) :
  Spec Tryz.prog 16 [x, .pointer (some ⟨b5,0,none⟩)] w (fun v R=>v = .bool (decide (p=q))∧R=[]):=by
 refine spec_of sg Tryz.func16 rfl rfl rfl ?_
 repeat' (first|refine d1 ?_|(show T _ (.ops _ (_::_)::_) _ _ _;first|refine T_val rfl (Val.load rfl (fun hg=>rdOld h)) rfl rfl rfl ?_|refine T_valC rfl (Val.load rfl (fun hg=>rdOld h)) rfl rfl rfl rfl rfl ?_|refine T_call rfl rfl rfl rfl rfl (fun w hw=>equalI_spec x y p q w (hx.old hw) (hy.old hw)) ?_|refine T_callC rfl rfl rfl rfl rfl rfl rfl (fun hg w hw=>equalI_spec x y p q w (hx.old hw) (hy.old hw)) ?_)|(show T _ (.run _ _ (_::_) _ _::_) _ _ _;first|refine rv rfl rfl rfl (Val.load rfl (fun hg=>rdOld h)) rfl rfl rfl ?_|refine rg rfl rfl rfl (Val.load rfl (fun hg=>rdOld h)) rfl rfl rfl rfl rfl ?_|refine rc rfl rfl rfl rfl rfl rfl rfl (fun w hw=>equalI_spec x y p q w (hx.old hw) (hy.old hw)) ?_|refine rcG rfl rfl rfl rfl rfl rfl rfl rfl rfl (fun hg w hw=>equalI_spec x y p q w (hx.old hw) (hy.old hw)) ?_)|(show ∀ _:Nat,T _ _ _ _ _;intro _)|(show T _ (.code .ret::_) _ _ _;refine T_retV [] rfl (Hle.none _) ⟨rfl,rfl⟩))
theorem topSplit_walk (An A As:Option Addr) (N cn c m cs:Nat) (names:List ByteArray) (hs:List RwI) (st:List Int) (w:World) (hsn:Src w 1 An N (names.map Value.string)) (hN:names.length=N) (hcn:N≤cn) (hcb:cn≤9223372036854775807)
  (hr1:∀ x∈hs,x.l.length=x.n∧x.n≤x.cap∧x.cap≤9223372036854775807) (hr2:Src w 1 A hs.length (hs.map fun x=>Value.slice x.A x.n x.cap)∧∀ x∈hs,Src w 1 x.A x.n (x.l.map (Value.int .i64))) (hrc:hs.length≤c∧c≤9223372036854775807)
  (hss:Src w 1 As m (st.map (Value.int .i64))) (hsl:st.length=m) (hsc:m≤cs∧cs≤9223372036854775807)
  (haw:∀ w',Spec Tryz.prog 9 [] w' (fun v R=>v = .bool true∧R=[])) :
  Spec Tryz.prog 3 [.slice An N cn, .slice A hs.length c, .slice As m cs] w (fun v R=>v = .bool true∧R=[]):=by
 refine spec_of sg Tryz.func3 rfl rfl rfl ?_
 refine T_op (OpT.box (cs:=[.slice As m cs]) rfl rfl rfl rfl rfl rfl rfl (fun b5=>?_))
 repeat' (first|refine d1 ?_|(show ∀ _:Nat,T _ _ _ _ _;intro _))
 refine T_op (OpT.call rfl rfl rfl rfl rfl (fun w hw=>greatNames32_spec An N cn names w (src_below hsn hw.below) hN (by omega)) ?_)
 rintro u R ⟨q0,hq0,rfl,rfl⟩
 rw [List.nil_append]
 repeat' (first|refine d1 ?_|(show T _ (.ops _ (_::_)::_) _ _ _;first|refine T_call rfl rfl rfl rfl rfl (fun w hw=>containsFuncR_spec A hs.length c (hs.map fun x=>Value.slice x.A x.n x.cap) _ [] [] (fun i=>decide ((12:Int)<(((hs.map RwI.n).getD i 0:Nat):Int))) w (src_below hr2.1 hw.below) (by omega) (fun i x hx w' hb'=>great04_at hs i x hx w')) ?_|refine T_callC rfl rfl rfl rfl rfl rfl rfl (fun hg w hw=>containsFuncR_spec A hs.length c (hs.map fun x=>Value.slice x.A x.n x.cap) _ [] [] (fun i=>decide ((12:Int)<(((hs.map RwI.n).getD i 0:Nat):Int))) w (src_below hr2.1 hw.below) (by omega) (fun i x hx w' hb'=>great04_at hs i x hx w')) ?_|refine T_call rfl rfl rfl rfl rfl (fun w hw=>great04_spec As m cs w) ?_|refine T_callC rfl rfl rfl rfl rfl rfl rfl (fun hg w hw=>great04_spec As m cs w) ?_)|(show T _ (.run _ _ (_::_) _ _::_) _ _ _;first|refine rc rfl rfl rfl rfl rfl rfl rfl (fun w hw=>containsFuncR_spec A hs.length c (hs.map fun x=>Value.slice x.A x.n x.cap) _ [] [] (fun i=>decide ((12:Int)<(((hs.map RwI.n).getD i 0:Nat):Int))) w (src_below hr2.1 hw.below) (by omega) (fun i x hx w' hb'=>great04_at hs i x hx w')) ?_|refine rcG rfl rfl rfl rfl rfl rfl rfl rfl rfl (fun hg w hw=>containsFuncR_spec A hs.length c (hs.map fun x=>Value.slice x.A x.n x.cap) _ [] [] (fun i=>decide ((12:Int)<(((hs.map RwI.n).getD i 0:Nat):Int))) w (src_below hr2.1 hw.below) (by omega) (fun i x hx w' hb'=>great04_at hs i x hx w')) ?_|refine rc rfl rfl rfl rfl rfl rfl rfl (fun w hw=>great04_spec As m cs w) ?_|refine rcG rfl rfl rfl rfl rfl rfl rfl rfl rfl (fun hg w hw=>great04_spec As m cs w) ?_)|(show ∀ _:Nat,T _ _ _ _ _;intro _))
 refine T_if rfl (fun h=>?_) (fun h=>?_)
 ·repeat' (first|refine d1 ?_|(show T _ (.ops _ (_::_)::_) _ _ _;first|refine T_call rfl rfl rfl rfl rfl (fun w hw=>haw w) ?_|refine T_callC rfl rfl rfl rfl rfl rfl rfl (fun hg w hw=>haw w) ?_)|(show T _ (.run _ _ (_::_) _ _::_) _ _ _;first|refine rc rfl rfl rfl rfl rfl rfl rfl (fun w hw=>haw w) ?_|refine rcG rfl rfl rfl rfl rfl rfl rfl rfl rfl (fun hg w hw=>haw w) ?_)|(show ∀ _:Nat,T _ _ _ _ _;intro _)|(show T _ (.code .ret::_) _ _ _;refine T_retV [] rfl (Hle.none _) ⟨rfl,rfl⟩))
 simp only [Bool.or_eq_false_iff,decide_eq_false_iff_not] at h
 obtain⟨⟨⟨⟨hq,hN9⟩,hn7⟩,hany⟩,hm12⟩:=h
 subst hq
 have hsz:=hq0 rfl
 have hx12:∀ x∈hs,x.n≤64:=fun x hx=>by
  obtain⟨i,hi⟩:=List.mem_iff_getElem?.1 hx
  have hil:=(List.getElem?_eq_some_iff.1 hi).1
  rw [List.any_eq_false] at hany
  have:=hany i (List.mem_range.2 hil)
  rw [show (hs.map RwI.n).getD i 0=x.n by rw [List.getD_eq_getElem?_getD,List.getElem?_map,hi];rfl] at this
  simp only [decide_eq_true_eq] at this
  omega
 have hsq:=splQ_of hr1 hr2 (by omega) hx12
 repeat' (first|refine d1 ?_|(show ∀ _:Nat,T _ _ _ _ _;intro _))
 refine T_op (OpT.call rfl rfl rfl rfl rfl (fun w hw=>buildT_spec An A N cn hs.length c names hs w (src_below hsn hw.below) hN (by omega) hcn hsz (hsq.cls hw)) ?_)
 rintro u R ⟨P,Q,p,pc,q,qc,e0,rfl,hb1,hb2,hb3⟩
 refine T_le (H':=blk b5 [.slice As m cs] 24::R) (Hle.perm List.perm_append_comm) ?_
 repeat' (first|refine d1 ?_|(show ∀ _:Nat,T _ _ _ _ _;intro _))
 rename_i b7
 by_cases he0:e0=0
 ·subst he0
  refine T_known 59 rfl rfl ?_
  refine T_known 60 rfl rfl ?_
  refine T_op (OpT.sure (p:=false) rfl rfl rfl (OpT.call rfl rfl rfl rfl rfl (fun w' hw=>checkSplit_spec As N m cs st w' (src_below hss hw.below) hsl (by omega) (by omega)) ?_))
  rintro u R' ⟨e1,he1,rfl,rfl⟩
  rw [List.nil_append]
  repeat' (first|refine d1 ?_|(show ∀ _:Nat,T _ _ _ _ _;intro _))
  refine T_if rfl (fun h=>?_) (fun h=>?_)
  ·repeat' (first|refine d1 ?_|(show T _ (.ops _ (_::_)::_) _ _ _;first|refine T_call rfl rfl rfl rfl rfl (fun w hw=>haw w) ?_|refine T_callC rfl rfl rfl rfl rfl rfl rfl (fun hg w hw=>haw w) ?_)|(show T _ (.run _ _ (_::_) _ _::_) _ _ _;first|refine rc rfl rfl rfl rfl rfl rfl rfl (fun w hw=>haw w) ?_|refine rcG rfl rfl rfl rfl rfl rfl rfl rfl rfl (fun hg w hw=>haw w) ?_)|(show ∀ _:Nat,T _ _ _ _ _;intro _)|(show T _ (.code .ret::_) _ _ _;refine T_retV [] rfl (Hle.none _) ⟨rfl,rfl⟩))
  have he1z:e1=0:=by simpa using h
  have hSt:=he1.1 he1z
  subst he1z
  have h4:=hSt.room
  have h4':=hSt.two
  obtain⟨hgn,hgs,hgp⟩:=hb1 rfl
  obtain⟨-,htree⟩:=hb3 hgn hgs hgp (by omega)
  obtain⟨own0,hO0,m0,⟨⟨P0,pc0⟩,⟨Q0,qc0⟩⟩,hm0,⟨hk1,hk2⟩,ePx,eQy,rfl⟩:=bldT_own rfl (by omega) hgs hgp htree
  cases ePx
  cases eQy
  dsimp only at hk1 hk2 ⊢
  refine T_le (H':=[blk b7 [.slice P0 p pc0, .slice Q0 p qc0] 30,blk b5 [.slice As m cs] 24,row 3 1 P0 pc0 p ((cps (bldP own0 N) (bldNm names own0.length)).map (Value.int .i64)),row 9 1 Q0 qc0 p ((cns (bldP own0 N) (bldNm names own0.length)).map Value.string)]) (Hle.refl _) ?_
  repeat' (first|refine d1 ?_|(show ∀ _:Nat,T _ _ _ _ _;intro _))
  refine T_loopX (fun k:Nat=>[(67, .int .i64 (k:Nat)),(9, .bool ((hs.take k).all fun x=>cmpS x.l st))]) (fun _=>[blk b7 [.slice P0 p pc0, .slice Q0 p qc0] 30,blk b5 [.slice As m cs] 24,row 3 1 P0 pc0 p ((cps (bldP own0 N) (bldNm names own0.length)).map (Value.int .i64)),row 9 1 Q0 qc0 p ((cns (bldP own0 N) (bldNm names own0.length)).map Value.string)]) (fun k=>k≤hs.length) (fun k=>hs.length - k) 0 (Nat.zero_le _) ?_
  rintro k hk
  repeat' (first|refine d1 ?_|(show ∀ _:Nat,T _ _ _ _ _;intro _))
  refine T_if rfl (fun h5=>?_) (fun h5=>?_)
  ·simp only [decide_eq_true_eq] at h5
   obtain⟨bA,oA,rfl⟩:=hr2.1.base (by omega)
   obtain⟨x,hx⟩:∃ x,hs[k]?=some x:=⟨_,List.getElem?_eq_getElem (by omega)⟩
   have hat:=hsq.at hx
   have hxm:=List.mem_of_getElem? hx
   obtain⟨r1,r2,r3,-⟩:=hsq.rd x hxm
   repeat' (first|refine d1 ?_|(show T _ (.ops _ (_::_)::_) _ _ _;first|refine T_val rfl (Val.load rfl (fun hg=>rdOld hat)) rfl rfl rfl ?_|refine T_valC rfl (Val.load rfl (fun hg=>rdOld hat)) rfl rfl rfl rfl rfl ?_|refine T_call rfl rfl rfl rfl rfl (fun w hw=>compatible_spec x.A As x.n m x.cap cs N x.l st w (src_below r1 hw.below) (src_below hss hw.below) r2 hsl (hgs x hxm) hSt r3 hsc) ?_|refine T_callC rfl rfl rfl rfl rfl rfl rfl (fun hg w hw=>compatible_spec x.A As x.n m x.cap cs N x.l st w (src_below r1 hw.below) (src_below hss hw.below) r2 hsl (hgs x hxm) hSt r3 hsc) ?_)|(show T _ (.run _ _ (_::_) _ _::_) _ _ _;first|refine rv rfl rfl rfl (Val.load rfl (fun hg=>rdOld hat)) rfl rfl rfl ?_|refine rg rfl rfl rfl (Val.load rfl (fun hg=>rdOld hat)) rfl rfl rfl rfl rfl ?_|refine rc rfl rfl rfl rfl rfl rfl rfl (fun w hw=>compatible_spec x.A As x.n m x.cap cs N x.l st w (src_below r1 hw.below) (src_below hss hw.below) r2 hsl (hgs x hxm) hSt r3 hsc) ?_|refine rcG rfl rfl rfl rfl rfl rfl rfl rfl rfl (fun hg w hw=>compatible_spec x.A As x.n m x.cap cs N x.l st w (src_below r1 hw.below) (src_below hss hw.below) r2 hsl (hgs x hxm) hSt r3 hsc) ?_)|(show ∀ _:Nat,T _ _ _ _ _;intro _))
   refine T_if rfl (fun h=>by exfalso;simp at h) (fun _=>?_)
   repeat' (first|refine d1 ?_|(show ∀ _:Nat,T _ _ _ _ _;intro _))
   have htk:((hs.take (k+1)).all fun x=>cmpS x.l st)=(((hs.take k).all fun x=>cmpS x.l st) && cmpS x.l st):=by rw [take_snoc _ _ _ hx,List.all_append];simp
   exact T_backX (k+1) (by omega) (by omega) (hE:=⟨rfl,by rw [htk];rfl,trivial⟩) (hG:=Hle.refl _)
  simp only [decide_eq_false_iff_not] at h5
  obtain rfl:k=hs.length:=by omega
  rw [List.take_length]
  have hls:(hs++[(⟨As,m,cs,st⟩:RwI)]).map RwI.l=hs.map RwI.l++[st]:=by rw [List.map_append];rfl
  have hgs':gdSp N (hs++[(⟨As,m,cs,st⟩:RwI)]):=fun x hx=>by
   rcases List.mem_append.1 hx with hx|hx
   ·exact hgs x hx
   ·rw [List.mem_singleton] at hx;subst hx;exact hSt
  have hrd':∀ w',Below w.heap.size w w'→∀ x∈hs++[(⟨As,m,cs,st⟩:RwI)],Src w' 1 x.A x.n (x.l.map (Value.int .i64))∧x.l.length=x.n∧(x.n≤x.cap∧x.cap≤9223372036854775807)∧x.n≤64:=fun w' hb x hx=>by
   rcases List.mem_append.1 hx with hx|hx
   ·exact⟨src_below (hsq.rd x hx).1 hb,(hsq.rd x hx).2⟩
   ·rw [List.mem_singleton] at hx;subst hx
    exact⟨src_below hss hb,hsl,hsc,by dsimp only;omega⟩
  have hgp':=gdPr_snoc (hs:=hs) (x:=(⟨As,m,cs,st⟩:RwI))
  refine T_keep [(0, .slice An N cn),(1, .slice A hs.length c),(5, .pointer (some ⟨b5,0,none⟩)),(6, .bool false),(7, .pointer (some ⟨b7,0,none⟩)),(9, .bool (hs.all fun x=>cmpS x.l st))] ⟨rfl,rfl,rfl,rfl,rfl,rfl,trivial⟩ ?_
  by_cases hfit:(hs.all fun x=>cmpS x.l st)=true
  ·have hP1:=hgp'.2 ⟨hgp,fun y hy=>List.all_eq_true.1 hfit y hy⟩
   rw [hfit]
   refine T_cutX 1 [] (fun s:List (List Int) × Nat × (Option Addr × Nat) × (Option Addr × Nat)=>[(14, .pointer (some ⟨s.2.1,0,none⟩)),(15, .int .i64 0)]) (fun s=>[blk s.2.1 [.slice s.2.2.1.1 (bldP s.1 N).length s.2.2.1.2, .slice s.2.2.2.1 (bldP s.1 N).length s.2.2.2.2] 30,row 3 1 s.2.2.1.1 s.2.2.1.2 (bldP s.1 N).length ((cps (bldP s.1 N) (bldNm names s.1.length)).map (Value.int .i64)),row 9 1 s.2.2.2.1 s.2.2.2.2 (bldP s.1 N).length ((cns (bldP s.1 N) (bldNm names s.1.length)).map Value.string),blk b7 [.slice P0 p pc0, .slice Q0 p qc0] 30,blk b5 [.slice As m cs] 24,row 3 1 P0 pc0 p ((cps (bldP own0 N) (bldNm names own0.length)).map (Value.int .i64)),row 9 1 Q0 qc0 p ((cns (bldP own0 N) (bldNm names own0.length)).map Value.string)]) (fun s=>BldG names N (hs.map RwI.l++[st]) s.1∧(bldP s.1 N).length≤s.2.2.1.2∧(bldP s.1 N).length≤s.2.2.2.2) ?_ ?_
   ·refine dw0 1000 [blk b7 [.slice P0 p pc0, .slice Q0 p qc0] 30,blk b5 [.slice As m cs] 24,row 3 1 P0 pc0 p ((cps (bldP own0 N) (bldNm names own0.length)).map (Value.int .i64)),row 9 1 Q0 qc0 p ((cns (bldP own0 N) (bldNm names own0.length)).map Value.string)] ?_
    repeat' (first|(show T _ (.draw _ _ _ _ _::_) _ _ _;first|refine dw1 ?_|refine dwb rfl (by decide +kernel) ?_)|(show AllL _ [];exact True.intro)|(show AllL _ (_::_);refine ⟨?_,?_⟩)|(show OpT _ _ _ _ _ _ _;first|refine dwx ?_|(refine OpT.callE1 rfl rfl rfl rfl rfl (fun w' hw=>cloneR_spec A hs.length c (hs.map RwI.val) (oneRw hs) w' (src_below hr2.1 hw.below) (by omega)) (fun y4 _=>?_);obtain⟨f1,f2⟩:=y4;dsimp only;refine ⟨fun _=>(by first|exact Hle.none _|exact Hle.sub|exact absurd ‹_› (by decide +kernel)),?_⟩;refine T_rowCap (fun hcap9=>?_))|refine OpT.append (A:=f1) rfl rfl rfl rfl rfl rfl rfl rfl rfl rfl (fun w hw=>Src.own hw rfl) rfl (by dsimp only;omega) (by omega) (fun A9 c9 hA9=>⟨fun _=>(by first|exact Hle.none _|exact Hle.sub|exact absurd ‹_› (by decide +kernel)),?_⟩)|(refine OpT.callE2 rfl rfl rfl rfl rfl (fun w' hw=>buildU_spec An A9 N cn (hs.length+1) c9 names (hs++[(⟨As,m,cs,st⟩:RwI)]) w' (src_below hsn hw.below) hN (by omega) hcn hsz ⟨by rw [List.map_append];exact srcRw w' hw,by simp,by omega,hrd' w' hw.below⟩ hgn hgs' hP1 (by omega)) (fun y5 hy5=>?_);obtain⟨own1,⟨⟨P1,pc1⟩,⟨Q1,qc1⟩⟩⟩:=y5;dsimp only at hy5 ⊢;refine ⟨fun _=>(by first|exact Hle.none _|exact Hle.sub|exact absurd ‹_› (by decide +kernel)),?_⟩))|(show ∀ _:Nat,T _ _ _ _ _;intro _)|(show T _ (.mark _::_) _ _ _;exact T_meetX (own1,_,(P1,pc1),(Q1,qc1)) ⟨by rw [← hls];exact hy5.1,hy5.2⟩ (hG:=by exact Hle.srt)))
   rintro⟨own1,b14,⟨P1,pc1⟩,⟨Q1,qc1⟩⟩ ⟨hO1,hj1,hj2⟩
   dsimp only at hO1 hj1 hj2 ⊢
   have b0:=own_bnd hO0
   have b1:=own_bnd hO1
   rw [List.length_map] at b0
   rw [List.length_append,List.length_map,List.length_singleton] at b1
   have bo0:=fun L h s=>bld_of (L:=L) hO0.g hN (by omega) (by omega) hO0.len hgn h s
   have bo1:=fun L h s=>bld_of (L:=L) hO1.g hN (by omega) (by omega) hO1.len hgn h s
   have of0:=fun w s1 s2=>bld_ofR (w:=w) (A1:=P0) (A2:=Q0) hO0 hN (by omega) (by omega) (by omega) hgn hm0 hk1 hk2 s1 s2
   obtain⟨M1,hM1⟩:∃ M1,M1=(bldP own1 N).length:=⟨_,rfl⟩
   rw [← hM1] at hj1 hj2 ⊢
   have of1:=fun w s1 s2=>bld_ofR (w:=w) (A1:=P1) (A2:=Q1) hO1 hN (by omega) (by omega) (by omega) hgn hM1 hj1 hj2 s1 s2
   have hmm:∀ L M,ofOk (cps (bldP own0 N) (bldNm names own0.length)) (cns (bldP own0 N) (bldNm names own0.length)) names L→ofOk (cps (bldP own1 N) (bldNm names own1.length)) (cns (bldP own1 N) (bldNm names own1.length)) names M→halfN L M=0∧halfN M L=(if st∈hs.map RwI.l then 0 else 1)∧M.length=L.length+(if st∈hs.map RwI.l then 0 else 1):=fun L M hL hM=>by
    have h9:=half_law (s:=st) (ofOk_len hL) (ofOk_len hM) fun x=>by rw [bo1 M hM x,bo0 L hL x,hO1.m,hO0.m,List.mem_append,List.mem_singleton]
    have hif:(if st∈L then 0 else 1:Nat)=if st∈hs.map RwI.l then 0 else 1:=by
     have hi:=(bo0 L hL st).trans (hO0.m st)
     by_cases h8:st∈L
     ·rw [if_pos h8,if_pos (hi.1 h8)]
     ·rw [if_neg h8,if_neg (fun h7=>h8 (hi.2 h7))]
    rwa [hif] at h9
   generalize hW:(if st∈hs.map RwI.l then 0 else 1)=W at hmm
   repeat' (first|refine d1 ?_|(show ∀ _:Nat,T _ _ _ _ _;intro _))
   refine T_if rfl (fun h=>by exfalso;simp at h) (fun _=>?_)
   repeat' (first|refine d1 ?_|(show ∀ _:Nat,T _ _ _ _ _;intro _))
   refine T_op (OpT.call rfl rfl rfl rfl rfl (fun w hw=>(of0 w (srcRw w hw) (srcRw w hw)).of (src_below hsn hw.below) hN (by omega) hgn.2) ?_)
   rintro u R ⟨x0,L0,hL0,rfl,rfl⟩
   refine T_le (Hle.refl [dat [x0] [rowsD L0],blk b14 [.slice P1 M1 pc1, .slice Q1 M1 qc1] 30,row 3 1 P1 pc1 M1 ((cps (bldP own1 N) (bldNm names own1.length)).map (Value.int .i64)),row 9 1 Q1 qc1 M1 ((cns (bldP own1 N) (bldNm names own1.length)).map Value.string),blk b7 [.slice P0 p pc0, .slice Q0 p qc0] 30,blk b5 [.slice As m cs] 24,row 3 1 P0 pc0 p ((cps (bldP own0 N) (bldNm names own0.length)).map (Value.int .i64)),row 9 1 Q0 qc0 p ((cns (bldP own0 N) (bldNm names own0.length)).map Value.string)]) ?_
   refine T_open fun p0 hp0=>?_
   obtain⟨Ax,cx,hx0,eL0,rfl,⟨kx1,kx2⟩,-,-⟩:=hp0.rowsR
   repeat' (first|refine d1 ?_|(show ∀ _:Nat,T _ _ _ _ _;intro _))
   refine T_op (OpT.call rfl rfl rfl rfl rfl (fun w hw=>(of1 w (srcRw w hw) (srcRw w hw)).of (src_below hsn hw.below) hN (by omega) hgn.2) ?_)
   rintro u R ⟨x1,L1,hL1,rfl,rfl⟩
   refine T_le (Hle.refl [dat [x1] [rowsD L1],fz p0,blk b14 [.slice P1 M1 pc1, .slice Q1 M1 qc1] 30,row 3 1 P1 pc1 M1 ((cps (bldP own1 N) (bldNm names own1.length)).map (Value.int .i64)),row 9 1 Q1 qc1 M1 ((cns (bldP own1 N) (bldNm names own1.length)).map Value.string),blk b7 [.slice P0 p pc0, .slice Q0 p qc0] 30,blk b5 [.slice As m cs] 24,row 3 1 P0 pc0 p ((cps (bldP own0 N) (bldNm names own0.length)).map (Value.int .i64)),row 9 1 Q0 qc0 p ((cns (bldP own0 N) (bldNm names own0.length)).map Value.string)]) ?_
   refine T_open fun p1 hp1=>?_
   obtain⟨Ay,cy,hy1,eL1,rfl,⟨ky1,ky2⟩,ky3,ky4⟩:=hp1.rowsR
   repeat' (first|refine d1 ?_|(show ∀ _:Nat,T _ _ _ _ _;intro _))
   refine T_op (OpT.call rfl rfl rfl rfl rfl (fun w hw=>distance_spec P0 Q0 P1 Q1 An pc0 qc0 p pc1 qc1 M1 N cn _ _ _ _ names w (of0 w (srcRw w hw) (srcRw w hw)) (of1 w (srcRw w hw) (srcRw w hw)) (src_below hsn hw.below) hN (by omega) hgn.2) ?_)
   rintro u R ⟨L2,M2,h2,h3,rfl,rfl⟩
   obtain⟨e1,e2,-⟩:=hmm _ _ h2 h3
   rw [e1,e2,Nat.zero_add]
   refine T_le (Hle.refl [fz p1,fz p0,blk b14 [.slice P1 M1 pc1, .slice Q1 M1 qc1] 30,row 3 1 P1 pc1 M1 ((cps (bldP own1 N) (bldNm names own1.length)).map (Value.int .i64)),row 9 1 Q1 qc1 M1 ((cns (bldP own1 N) (bldNm names own1.length)).map Value.string),blk b7 [.slice P0 p pc0, .slice Q0 p qc0] 30,blk b5 [.slice As m cs] 24,row 3 1 P0 pc0 p ((cps (bldP own0 N) (bldNm names own0.length)).map (Value.int .i64)),row 9 1 Q0 qc0 p ((cns (bldP own0 N) (bldNm names own0.length)).map Value.string)]) ?_
   repeat' (first|refine d1 ?_|(show ∀ _:Nat,T _ _ _ _ _;intro _))
   refine T_if rfl (fun h=>by exfalso;simp at h) (fun _=>?_)
   repeat' (first|refine d1 ?_|(show T _ (.ops _ (_::_)::_) _ _ _;first|refine T_call rfl rfl rfl rfl rfl (fun w hw=>containsFuncR_spec A hs.length c (hs.map fun x=>Value.slice x.A x.n x.cap) _ [] [_] (fun i=>decide ((hs.map RwI.l).getD i []=st)) w (src_below hr2.1 hw.below) (by omega) (fun i x hx w' hb'=>splC_spec b5 x (.slice As m cs) _ st w' (RdC.below (rdBlk8 hw) hb') ((rdL_at (hsq.cls hw) hx).mono (wr_below hb')) ((rd_intsU (src_below hss hw.below) hsc.1 hsc.2).mono (wr_below hb')))) ?_|refine T_callC rfl rfl rfl rfl rfl rfl rfl (fun hg w hw=>containsFuncR_spec A hs.length c (hs.map fun x=>Value.slice x.A x.n x.cap) _ [] [_] (fun i=>decide ((hs.map RwI.l).getD i []=st)) w (src_below hr2.1 hw.below) (by omega) (fun i x hx w' hb'=>splC_spec b5 x (.slice As m cs) _ st w' (RdC.below (rdBlk8 hw) hb') ((rdL_at (hsq.cls hw) hx).mono (wr_below hb')) ((rd_intsU (src_below hss hw.below) hsc.1 hsc.2).mono (wr_below hb')))) ?_)|(show T _ (.run _ _ (_::_) _ _::_) _ _ _;first|refine rc rfl rfl rfl rfl rfl rfl rfl (fun w hw=>containsFuncR_spec A hs.length c (hs.map fun x=>Value.slice x.A x.n x.cap) _ [] [_] (fun i=>decide ((hs.map RwI.l).getD i []=st)) w (src_below hr2.1 hw.below) (by omega) (fun i x hx w' hb'=>splC_spec b5 x (.slice As m cs) _ st w' (RdC.below (rdBlk8 hw) hb') ((rdL_at (hsq.cls hw) hx).mono (wr_below hb')) ((rd_intsU (src_below hss hw.below) hsc.1 hsc.2).mono (wr_below hb')))) ?_|refine rcG rfl rfl rfl rfl rfl rfl rfl rfl rfl (fun hg w hw=>containsFuncR_spec A hs.length c (hs.map fun x=>Value.slice x.A x.n x.cap) _ [] [_] (fun i=>decide ((hs.map RwI.l).getD i []=st)) w (src_below hr2.1 hw.below) (by omega) (fun i x hx w' hb'=>splC_spec b5 x (.slice As m cs) _ st w' (RdC.below (rdBlk8 hw) hb') ((rdL_at (hsq.cls hw) hx).mono (wr_below hb')) ((rd_intsU (src_below hss hw.below) hsc.1 hsc.2).mono (wr_below hb')))) ?_)|(show ∀ _:Nat,T _ _ _ _ _;intro _))
   have hany:((List.range hs.length).any fun i=>decide ((hs.map RwI.l).getD i []=st))=decide (st∈hs.map RwI.l):=by
    rw [Bool.eq_iff_iff,List.any_eq_true,decide_eq_true_eq]
    constructor
    ·rintro⟨i,hi,e⟩
     have hil:=List.mem_range.1 hi
     rw [← of_decide_eq_true e,List.getD_eq_getElem?_getD,List.getElem?_eq_getElem (by rw [List.length_map];omega)]
     exact List.getElem_mem _
    ·intro hm
     obtain⟨j,hj⟩:=List.mem_iff_getElem?.1 hm
     have hjl:=(List.getElem?_eq_some_iff.1 hj).1
     rw [List.length_map] at hjl
     exact⟨j,List.mem_range.2 (by omega),by rw [List.getD_eq_getElem?_getD,hj];exact decide_eq_true rfl⟩
   rw [hany]
   refine T_cutX 1 [23] (fun _:Unit=>[(23, .int .i64 (W:Nat))]) (fun _=>[fz p1,fz p0,blk b14 [.slice P1 M1 pc1, .slice Q1 M1 qc1] 30,row 3 1 P1 pc1 M1 ((cps (bldP own1 N) (bldNm names own1.length)).map (Value.int .i64)),row 9 1 Q1 qc1 M1 ((cns (bldP own1 N) (bldNm names own1.length)).map Value.string)]) (fun _=>True) ?_ ?_
   ·refine T_if rfl (fun h=>?_) (fun h=>?_)
    ·obtain rfl:W=0:=by rw [← hW,if_pos (of_decide_eq_true h)]
     repeat' (first|refine d1 ?_|(show ∀ _:Nat,T _ _ _ _ _;intro _))
     exact T_meetX () trivial (hG:=by exact hle_pm [0,1,2,3,4] [_,_,_,_,_,_,_,_,_] [])
    ·obtain rfl:W=1:=by rw [← hW,if_neg (of_decide_eq_false h)]
     repeat' (first|refine d1 ?_|(show ∀ _:Nat,T _ _ _ _ _;intro _))
     exact T_meetX () trivial (hG:=by exact hle_pm [0,1,2,3,4] [_,_,_,_,_,_,_,_,_] [])
   rintro - -
   have hmem1:∀ s,s∈hy1.map RwI.l↔s∈own1:=fun s=>by rw [eL1,bo1 L1 hL1 s]
   obtain⟨gs2,gp2⟩:=own_again (hs:=hy1) hO1.g fun x hx=>(hmem1 _).1 (List.mem_map_of_mem hx)
   obtain⟨-,-,eL⟩:=hmm _ _ hL0 hL1
   have hW1:W≤1:=by rw [← hW];split <;> omega
   have hl1:hy1.length=hx0.length+W:=by
    rw [← eL0, ← eL1,List.length_map,List.length_map] at eL
    exact eL
   have hl8:hy1.length≤8:=by
    have h9:=nodup_sub_len (ofOk_len hL1) fun s hs=>(bo1 L1 hL1 s).1 hs
    rw [← eL1,List.length_map] at h9
    omega
   have hy64:∀ x∈hy1,x.n≤64:=fun x hx=>by
    have h9:=(gs2 x hx).room
    have h8:=(ky3 x hx).1
    omega
   repeat' (first|refine d1 ?_|(show ∀ _:Nat,T _ _ _ _ _;intro _))
   refine T_op (OpT.callE2 rfl rfl rfl rfl rfl (fun w' hw=>buildU_spec An Ay N cn hy1.length cy names hy1 w' (src_below hsn hw.below) hN (by omega) hcn hsz (splQ_of ky3 (ky4 w' (hw.fz (p:=p1))) (by omega) hy64) hgn gs2 gp2 (by omega)) (fun y5 hy5=>?_))
   obtain⟨own2,⟨⟨P2,pc2⟩,⟨Q2,qc2⟩⟩⟩:=y5
   dsimp only at hy5 ⊢
   obtain⟨hO2,hi1,hi2⟩:=hy5
   have e12:own2=own1:=hO2.uniq hO1 fun s=>(hmem1 s).trans (hO1.m s)
   rw [e12, ← hM1] at hi1 hi2
   rw [e12, ← hM1]
   have of2:=fun w s1 s2=>bld_ofR (w:=w) (A1:=P2) (A2:=Q2) hO1 hN (by omega) (by omega) (by omega) hgn hM1 hi1 hi2 s1 s2
   repeat' (first|refine d1 ?_|(show ∀ _:Nat,T _ _ _ _ _;intro _))
   refine T_if rfl (fun h=>by exfalso;simp at h) (fun _=>?_)
   repeat' (first|refine d1 ?_|(show T _ (.ops _ (_::_)::_) _ _ _;first|refine T_call rfl rfl rfl rfl rfl (fun w hw=>same_spec P2 Q2 P1 Q1 pc2 qc2 M1 pc1 qc1 M1 _ _ _ _ w (of2 w (srcRw w hw) (srcRw w hw)).t (of2 w (srcRw w hw) (srcRw w hw)).ok (by rw [(of2 w (srcRw w hw) (srcRw w hw)).lf];omega) (of1 w (srcRw w hw) (srcRw w hw)).t (of1 w (srcRw w hw) (srcRw w hw)).ok (by rw [(of1 w (srcRw w hw) (srcRw w hw)).lf];omega)) ?_|refine T_callC rfl rfl rfl rfl rfl rfl rfl (fun hg w hw=>same_spec P2 Q2 P1 Q1 pc2 qc2 M1 pc1 qc1 M1 _ _ _ _ w (of2 w (srcRw w hw) (srcRw w hw)).t (of2 w (srcRw w hw) (srcRw w hw)).ok (by rw [(of2 w (srcRw w hw) (srcRw w hw)).lf];omega) (of1 w (srcRw w hw) (srcRw w hw)).t (of1 w (srcRw w hw) (srcRw w hw)).ok (by rw [(of1 w (srcRw w hw) (srcRw w hw)).lf];omega)) ?_)|(show T _ (.run _ _ (_::_) _ _::_) _ _ _;first|refine rc rfl rfl rfl rfl rfl rfl rfl (fun w hw=>same_spec P2 Q2 P1 Q1 pc2 qc2 M1 pc1 qc1 M1 _ _ _ _ w (of2 w (srcRw w hw) (srcRw w hw)).t (of2 w (srcRw w hw) (srcRw w hw)).ok (by rw [(of2 w (srcRw w hw) (srcRw w hw)).lf];omega) (of1 w (srcRw w hw) (srcRw w hw)).t (of1 w (srcRw w hw) (srcRw w hw)).ok (by rw [(of1 w (srcRw w hw) (srcRw w hw)).lf];omega)) ?_|refine rcG rfl rfl rfl rfl rfl rfl rfl rfl rfl (fun hg w hw=>same_spec P2 Q2 P1 Q1 pc2 qc2 M1 pc1 qc1 M1 _ _ _ _ w (of2 w (srcRw w hw) (srcRw w hw)).t (of2 w (srcRw w hw) (srcRw w hw)).ok (by rw [(of2 w (srcRw w hw) (srcRw w hw)).lf];omega) (of1 w (srcRw w hw) (srcRw w hw)).t (of1 w (srcRw w hw) (srcRw w hw)).ok (by rw [(of1 w (srcRw w hw) (srcRw w hw)).lf];omega)) ?_)|(show ∀ _:Nat,T _ _ _ _ _;intro _))
   repeat' (first|refine d1 ?_|(show T _ (.ops _ (_::_)::_) _ _ _;first|refine T_call rfl rfl rfl rfl rfl (fun w hw=>haw w) ?_|refine T_callC rfl rfl rfl rfl rfl rfl rfl (fun hg w hw=>haw w) ?_)|(show T _ (.run _ _ (_::_) _ _::_) _ _ _;first|refine rc rfl rfl rfl rfl rfl rfl rfl (fun w hw=>haw w) ?_|refine rcG rfl rfl rfl rfl rfl rfl rfl rfl rfl (fun hg w hw=>haw w) ?_)|(show ∀ _:Nat,T _ _ _ _ _;intro _)|(show T _ (.code .ret::_) _ _ _;refine T_retV [] rfl (Hle.none _) ⟨congrArg Value.bool ?_,rfl⟩))
   rw [hl1]
   simp
  ·rw [Bool.not_eq_true] at hfit
   have hnp:¬ gdPr (hs++[(⟨As,m,cs,st⟩:RwI)]) (hs.length+1):=fun hP=>by
    have h9:=(hgp'.1 hP).2
    rw [List.all_eq_true.2 h9] at hfit
    cases hfit
   rw [hfit]
   refine T_cutX 1 [] (fun _:Unit=>[(15, .int .i64 17)]) (fun _=>[]) (fun _=>True) ?_ ?_
   ·refine dw0 1000 [blk b5 [.slice As m cs] 24] ?_
    repeat' (first|(show T _ (.draw _ _ _ _ _::_) _ _ _;first|refine dw1 ?_|refine dwb rfl (by decide +kernel) ?_)|(show AllL _ [];exact True.intro)|(show AllL _ (_::_);refine ⟨?_,?_⟩)|(show OpT _ _ _ _ _ _ _;first|refine dwx ?_|(refine OpT.callE1 rfl rfl rfl rfl rfl (fun w' hw=>cloneR_spec A hs.length c (hs.map RwI.val) (oneRw hs) w' (src_below hr2.1 hw.below) (by omega)) (fun y4 _=>?_);obtain⟨f1,f2⟩:=y4;dsimp only;refine ⟨fun _=>(by first|exact Hle.none _|exact Hle.sub|exact absurd ‹_› (by decide +kernel)),?_⟩;refine T_rowCap (fun hcap9=>?_))|refine OpT.append (A:=f1) rfl rfl rfl rfl rfl rfl rfl rfl rfl rfl (fun w hw=>Src.own hw rfl) rfl (by dsimp only;omega) (by omega) (fun A9 c9 hA9=>⟨fun _=>(by first|exact Hle.none _|exact Hle.sub|exact absurd ‹_› (by decide +kernel)),?_⟩)|(refine OpT.call rfl rfl rfl rfl rfl (fun w' hw=>buildT_spec An A9 N cn (hs.length+1) c9 names (hs++[(⟨As,m,cs,st⟩:RwI)]) w' (src_below hsn hw.below) hN (by omega) hcn hsz ⟨by rw [List.map_append];exact srcRw w' hw,by simp,by omega,hrd' w' hw.below⟩) ?_;rintro u R ⟨P1,Q1,p1,pc1,q1,qc1,e9,rfl,-,g2,-⟩;obtain rfl:=g2 hgn hgs' hnp;refine ⟨fun _=>(Hle.append_right (K:=[]) R).trans (by first|exact Hle.none _|exact Hle.sub),?_⟩;refine T_le (Hle.append_right (K:=[]) R) ?_))|(show ∀ _:Nat,T _ _ _ _ _;intro _)|(show T _ (.mark _::_) _ _ _;exact T_meetX () trivial))
   ·rintro - -
    repeat' (first|refine d1 ?_|(show ∀ _:Nat,T _ _ _ _ _;intro _))
    refine T_if rfl (fun _=>?_) (fun h=>by exfalso;simp at h)
    repeat' (first|refine d1 ?_|(show T _ (.ops _ (_::_)::_) _ _ _;first|refine T_call rfl rfl rfl rfl rfl (fun w hw=>haw w) ?_|refine T_callC rfl rfl rfl rfl rfl rfl rfl (fun hg w hw=>haw w) ?_)|(show T _ (.run _ _ (_::_) _ _::_) _ _ _;first|refine rc rfl rfl rfl rfl rfl rfl rfl (fun w hw=>haw w) ?_|refine rcG rfl rfl rfl rfl rfl rfl rfl rfl rfl (fun hg w hw=>haw w) ?_)|(show ∀ _:Nat,T _ _ _ _ _;intro _)|(show T _ (.code .ret::_) _ _ _;refine T_retV [] rfl (Hle.none _) ⟨rfl,rfl⟩))
 ·refine T_callC (v := .int .i64 0) rfl rfl rfl rfl rfl rfl rfl (fun hG w hw=>absurd (by have h9:(!decide (e0=0))=false:=hG.1;simpa using h9) he0) ?_
  repeat' (first|refine d1 ?_|(show ∀ _:Nat,T _ _ _ _ _;intro _))
  refine T_if rfl (fun h=>?_) (fun h=>?_)
  ·repeat' (first|refine d1 ?_|(show T _ (.ops _ (_::_)::_) _ _ _;first|refine T_call rfl rfl rfl rfl rfl (fun w hw=>haw w) ?_|refine T_callC rfl rfl rfl rfl rfl rfl rfl (fun hg w hw=>haw w) ?_)|(show T _ (.run _ _ (_::_) _ _::_) _ _ _;first|refine rc rfl rfl rfl rfl rfl rfl rfl (fun w hw=>haw w) ?_|refine rcG rfl rfl rfl rfl rfl rfl rfl rfl rfl (fun hg w hw=>haw w) ?_)|(show ∀ _:Nat,T _ _ _ _ _;intro _)|(show T _ (.code .ret::_) _ _ _;refine T_retV [] rfl (Hle.none _) ⟨rfl,rfl⟩))
  ·exfalso
   simp [he0] at h
end Go.Proofs.YtabhdaehomjlgaaGreat
namespace Go.Proofs.YtabhdaehomjlgaaGreat
open Go.RowKit Go.Shelf
set_option linter.unusedSectionVars false

def evCvP (env:Env) (ec:EnvC) (G:GId) (o:Oper):Option (TypeId × TypeId × Nat) :=
 match o.op with
 | .convert s d x=>match evX env ec G x with
  | some (.pointer (some ⟨b,0,none⟩))=>some (s,d,b)
  | _=>none
 | _=>none
section
variable {C:Cx} {all:Array Oper} {o:Oper} {env:Env} {ec:EnvC} {H Hs:List HA} {G:GId} {d:Nat} {Φ:Env→EnvC→List HA→Prop}
theorem evCvP_spec {N:FK} {a:Act} (ha:Agrees N all env ec a) (hG:Holds all a G) {s d':TypeId} {b:Nat} (h:evCvP env ec G o=some (s,d',b)):∃ x,o.op = .convert s d' x∧a.eval x = .pointer (some ⟨b,0,none⟩):=by
 unfold evCvP at h
 split at h
 ·rename_i s' d'' x ho
  split at h
  ·rename_i b' hx
   cases h
   exact⟨x,ho,evX_spec ha hG hx⟩
  ·cases h
 ·cases h
theorem Val.toUnsafe {s d' t e:TypeId} {j:TypeInfo} {b:Nat} {cs:List Value} {rb:HA→List HA} (hv:evCvP env ec G o=some (s,d',b)) [hf:Focus Hs b cs e rb] (hs:C.S.P.underlying s=some (.pointer t)) (hd:C.S.P.underlying d'=some .unsafePointer)
  (ht:C.S.P.info? t=some j) (hj:j.size≠0) (hl:0<cs.length):Val C all o env ec Hs G (.pointer (some ⟨b,0,none⟩)):=by
 intro a w ha hw hH
 obtain⟨i,hi,_⟩:=hf.at_
 have hb:=(hw.heap hi).1
 have hsh:w.shape? b=some (e,cs.length):=by simp [World.shape?,hb]
 obtain⟨x,ho,hx⟩:=evCvP_spec ha hH hv
 have hr:=Lib.run_to_unsafe (P:=C.S.P) w ⟨b,0,none⟩ hs hd ht hj hsh hl
 unfold execOp
 rw [ho]
 simp only [hx]
 simp [hr]
theorem Val.fromUnsafe {s d' u e:TypeId} {j:TypeInfo} {b:Nat} {cs:List Value} {rb:HA→List HA} (hv:evCvP env ec G o=some (s,d',b)) [hf:Focus Hs b cs e rb] (hs:C.S.P.underlying s=some .unsafePointer) (hd:C.S.P.underlying d'=some (.pointer u))
  (hu:C.S.P.info? u=some j) (hlies:liesAt C.S.P C.S.P.depth e (cs.length / C.S.P.cellsOf e) 0 u 1=true):Val C all o env ec Hs G (.pointer (some ⟨b,0,none⟩)):=by
 intro a w ha hw hH
 obtain⟨i,hi,_⟩:=hf.at_
 have hb:=(hw.heap hi).1
 have hsh:w.shape? b=some (e,cs.length):=by simp [World.shape?,hb]
 obtain⟨x,ho,hx⟩:=evCvP_spec ha hH hv
 have hr:=Lib.run_from_unsafe (P:=C.S.P) w ⟨b,0,none⟩ hs hd hu hsh hlies
 unfold execOp
 rw [ho]
 simp only [hx]
 simp [hr]
def evPP (env:Env) (ec:EnvC) (G:GId) (o:Oper):Option (TypeId × Nat × Nat) :=
 match o.op with
 | .binOp .neq t x y _=>match evX env ec G x,evX env ec G y with
  | some (.pointer (some ⟨b,0,none⟩)),some (.pointer (some ⟨c,0,none⟩))=>some (t,b,c)
  | _,_=>none
 | _=>none
theorem Val.ptrSame {t te:TypeId} {j:TypeInfo} {b c:Nat} (hv:evPP env ec G o=some (t,b,c)) (hbc:b=c) (hp:C.S.P.underlying t=some (.pointer te)) (hte:C.S.P.info? te=some j):Val C all o env ec Hs G (.bool false):=by
 subst hbc
 intro a w ha hw hH
 obtain⟨dst,op,ty,pos,aft,gd⟩:=o
 unfold evPP at hv
 dsimp only at hv
 split at hv
 ·rename_i t' x y t2
  split at hv
  ·rename_i b' c' hx hy
   cases hv
   have hr:=Lib.run_neq_ptr_same (P:=C.S.P) w ⟨b,0,none⟩ hp hte
   simp only [execOp,evX_spec ha hH hx,evX_spec ha hH hy]
   simp [eqGuard,hr]
  ·cases hv
 ·cases hv
def evSD (env:Env) (ec:EnvC) (G:GId) (o:Oper):Option (Addr × Nat) :=
 match o.op with
 | .call { callee := .builtin .unsafeSliceData,args:=xs,argTypes:=_ }=>match evL env ec G xs.toList with
  | some [.slice (some a) _ c]=>some (a,c)
  | _=>none
 | _=>none
theorem Val.sliceData {A:Addr} {c:Nat} (hv:evSD env ec G o=some (A,c)) (hc:c≠0):Val C all o env ec Hs G (.pointer (some A)):=by
 intro a w ha hw hH
 obtain⟨dst,op,ty,pos,aft,gd⟩:=o
 unfold evSD at hv
 dsimp only at hv
 split at hv
 ·rename_i xs ts
  split at hv
  ·rename_i a' n' c' hxs
   cases hv
   have hargs:xs.map a.eval = #[.slice (some A) n' c]:=Array.ext' (by rw [Array.toList_map];exact evL_spec ha hH hxs)
   have hr:=Lib.run_unsafeSliceData_row (P:=C.S.P) w ts ty A n' c hc
   simp [execOp,resolve,invoke,builtin,hargs,hr]
  ·cases hv
 ·cases hv
def evUS (S:Sig) (env:Env) (ec:EnvC) (o:Oper):Option (Nat × Nat × TypeId) :=
 match o.op with
 | .call { callee := .builtin .unsafeString,args:=xs,argTypes:=ts }=>match evL env ec [] xs.toList,ts.toList with
  | some [.pointer (some ⟨g,0,none⟩), .int .i64 n],[pt,_]=>match S.ty pt with
   | some ⟨.ptr e,_,_,_⟩=>some (g,n.toNat,e)
   | _=>none
  | _,_=>none
 | _=>none
def u8s (l:List UInt8):List Value:=l.map fun c=>Value.int .u8 ((c.toNat:Nat):Int)
theorem u8s_len (l:List UInt8):(u8s l).length=l.length:=by simp [u8s]
theorem u8s_app (a b:List UInt8):u8s (a++b)=u8s a++u8s b:=by simp [u8s]
theorem OpT.unsafeStr {g n:Nat} {e:TypeId} {cap:Nat} {bs:List UInt8} {rb:HA→List HA} (hg:gOf all env ec o=some []) (he:evUS C.S env ec o=some (g,n,e)) (hd:o.dst=some d) (hN:Nat.blt d C.N.n=true) (hs:safeC all d ec=true)
  [hf:FocusR H (some ⟨g,0,none⟩) e 1 cap n (u8s bs) rb] (hc1:C.S.P.cellsOf e=1) (h0:bs≠[]) (h:Φ ((d, .string ⟨bs.toArray⟩)::env) ec (rb (fz fun _=>none))):OpT C all o env ec H Φ:=by
 obtain⟨i,hi,hrb⟩:=hf.at_
 refine OpT.eff hg fun a w ha hw=>?_
 obtain⟨F,f1,f2,f3⟩:=hw.sep
 have hil:i<H.length:=(List.getElem?_eq_some_iff.1 hi).1
 obtain⟨hln,hrow⟩:=f1 i _ hi
 have hn:bs.length=n:=by rw [u8s_len,Nat.mul_one] at hln;exact hln
 have hn0:bs.length≠0:=by simpa using h0
 rcases hrow with⟨e1,_⟩|⟨g',cur,e1,hF,g3,g4,g5,g6⟩
 ·cases e1
 cases e1
 have hob:=f2 i g (.cells cur e (0,0)) hil (by rw [hF];simp [one])
 have hsh:w.shape? g=some (e,cur.size):=by simp [World.shape?,hob.2]
 have hcell:∀ j x,bs[j]?=some x→w.cell? ((⟨g,0,none⟩:Addr).add j)=some (.int .u8 x.toNat):=by
  intro j x hx
  have hj:=(List.getElem?_eq_some_iff.1 hx).1
  have h9:(u8s bs)[j]?=some (.int .u8 ((x.toNat:Nat):Int)):=by unfold u8s;rw [List.getElem?_map,hx];rfl
  rw [← g6,List.getElem?_take_of_lt (by omega)] at h9
  have h8:w.cell? ⟨g,j,none⟩=cur[j]?:=cell_of_row w g j cur e (0,0) hob.2
  have h7:(⟨g,0,none⟩:Addr).add j=⟨g,j,none⟩:=by unfold Addr.add;split <;> simp_all
  rw [h7,h8]
  simpa using h9
 have hmax:maxLen=9223372036854775807:=rfl
 obtain⟨dst,op,ty,pos,aft,gd⟩:=o
 unfold evUS at he
 dsimp only at he
 split at he
 ·rename_i xs ts
  split at he
  ·rename_i g1 n1 pt it hxs hts
   split at he
   ·rename_i e' q1 q2 q3 hpt
    cases he
    have hp:=(Sig.tyOk hpt).fits
    simp only [Ty.fits] at hp
    have hn1:n1=(bs.length:Int):=by omega
    subst hn1
    have hargs:xs.map a.eval = #[.pointer (some ⟨g,0,none⟩), .int _ (bs.length:Int)]:=Array.ext' (by rw [Array.toList_map];exact evL_spec ha (Holds.nil _ _) hxs)
    have hts':ts = #[pt,it]:=Array.ext' hts
    have hr:=Lib.run_unsafeString_row (P:=C.S.P) w pt it ty e hp hc1 g cur.size hsh bs h0 (by omega) (by omega) hcell
    refine ⟨.string ⟨bs.toArray⟩,w.freeze ⟨g,0,none⟩ bs.length,_,?_,⟨Lib.below_freeze hw.below (p:=⟨g,0,none⟩) hob.1 _,?_⟩,d,hd,hN,hs,h⟩
    ·simp [execOp,resolve,invoke,builtin,hargs,hts',hr]
    ·rw [hrb]
     refine Sep.swap ⟨F,f1,f2,f3⟩ hi fun f hrow hf=>⟨fun _=>none,rfl,(fun b o h=>by cases h),fun c hc hfc=>?_⟩
     have hne:c≠g:=by
      rintro rfl
      obtain⟨_,hrow⟩:=hrow
      rcases hrow with⟨e1,_⟩|⟨g',cur',e1,hF',_⟩
      ·cases e1
      ·cases e1
       rw [hF'] at hfc
       simp [one] at hfc
     unfold World.freeze
     split
     ·rfl
     ·simp only [Array.getElem?_modify]
      rw [if_neg (Ne.symm hne)]
   ·cases he
  ·cases he
 ·cases he
end
end Go.Proofs.YtabhdaehomjlgaaGreat
