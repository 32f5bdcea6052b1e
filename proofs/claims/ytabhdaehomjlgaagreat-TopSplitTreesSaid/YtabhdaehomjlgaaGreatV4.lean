/- Joined texts of this claim, part 4. -/
import Derived.Test.YtabhdaehomjlgaaGreatV3
import Derived.Laws.Externs
set_option linter.unusedSectionVars false
set_option linter.unusedVariables false
set_option linter.unusedSimpArgs false
namespace Go.Proofs.YtabhdaehomjlgaaGreat
open Go.RowKit Go.Shelf Go.Proofs
set_option maxRecDepth 100000
set_option maxHeartbeats 1000000

abbrev bldS (pb:Nat) (q A:Option Addr) (c:Nat) (bs:List UInt8) (K:List HA):List HA:=blk pb [.pointer q, .slice A bs.length c] 125::row 5 1 A c bs.length (u8s bs)::K
theorem info_bldS:∃ j,Tryz.prog.info? 125=some j∧j.size=2:=by
 obtain⟨x,hx,h1,_⟩:=(Sig.tyOk (S:=sg) (t:=125) rfl).info'
 exact⟨x,hx,h1⟩
theorem lies_bldS:liesAt Tryz.prog Tryz.prog.depth 125 (2 / Tryz.prog.cellsOf 125) 0 125 1=true:=by kernel_rfl
theorem noEscapeS_run (x:Value) (w:World):(callFunc 152 #[x]).run Tryz.prog w = .ok (.value x) w:=by
 rw [run_callFunc_extern Tryz.func152 (by kernel_rfl) (by kernel_rfl) (by kernel_rfl) (e:=Extern.AbiNoEscape.same) (by kernel_rfl),Lib.run_noEscape]
 rfl
theorem copyCheckS_spec (w0:World) (pb:Nat) (q:Option Addr) (hq:q=none∨q=some ⟨pb,0,none⟩) (A:Option Addr) (n c:Nat) (K:List HA) :
  SpecB Tryz.prog 122 [.pointer (some ⟨pb,0,none⟩)] w0 (blk pb [.pointer q, .slice A n c] 125::K) (fun u R=>u = .tuple #[]∧R=blk pb [.pointer (some ⟨pb,0,none⟩), .slice A n c] 125::K):=by
 obtain⟨j,hj,hj2⟩:=info_bldS
 refine specB_of sg Tryz.func122 rfl rfl rfl ?_
 rcases hq with rfl|rfl
 ·repeat' (first|refine d1 ?_|refine dd ?_|(show T _ (.ops _ (_::_)::_) _ _ _;first|refine T_val rfl (Val.nilc rfl) rfl rfl rfl ?_|refine T_valC rfl (Val.nilc rfl) rfl rfl rfl rfl rfl ?_|refine T_val rfl (Val.nilS rfl) rfl rfl rfl ?_|refine T_valC rfl (Val.nilS rfl) rfl rfl rfl rfl rfl ?_)|(show T _ (.run _ _ (_::_) _ _::_) _ _ _;first|refine rv rfl rfl rfl (Val.nilc rfl) rfl rfl rfl ?_|refine rg rfl rfl rfl (Val.nilc rfl) rfl rfl rfl rfl rfl ?_|refine rv rfl rfl rfl (Val.nilS rfl) rfl rfl rfl ?_|refine rg rfl rfl rfl (Val.nilS rfl) rfl rfl rfl rfl rfl ?_)|(show ∀ _:Nat,T _ _ _ _ _;intro _))
  refine T_if rfl (fun h=>?_) (fun h=>by cases h)
  repeat' (first|refine d1 ?_|refine dd ?_|(show T _ (.ops _ (_::_)::_) _ _ _;first|refine T_val rfl (Val.nilc rfl) rfl rfl rfl ?_|refine T_valC rfl (Val.nilc rfl) rfl rfl rfl rfl rfl ?_|refine T_val rfl (Val.toUnsafe rfl Tryz.underlying123 Tryz.underlying193 hj (by omega) (by simp)) rfl rfl rfl ?_|refine T_valC rfl (Val.toUnsafe rfl Tryz.underlying123 Tryz.underlying193 hj (by omega) (by simp)) rfl rfl rfl rfl rfl ?_|refine T_val rfl (Val.fromUnsafe rfl Tryz.underlying193 Tryz.underlying123 hj (by exact lies_bldS)) rfl rfl rfl ?_|refine T_valC rfl (Val.fromUnsafe rfl Tryz.underlying193 Tryz.underlying123 hj (by exact lies_bldS)) rfl rfl rfl rfl rfl ?_|refine T_op (OpT.callX (v := .pointer (some ⟨pb,0,none⟩)) rfl rfl rfl rfl rfl (fun w hw=>noEscapeS_run _ w) ?_))|(show T _ (.run _ _ (_::_) _ _::_) _ _ _;first|refine rv rfl rfl rfl (Val.nilc rfl) rfl rfl rfl ?_|refine rg rfl rfl rfl (Val.nilc rfl) rfl rfl rfl rfl rfl ?_|refine rv rfl rfl rfl (Val.toUnsafe rfl Tryz.underlying123 Tryz.underlying193 hj (by omega) (by simp)) rfl rfl rfl ?_|refine rg rfl rfl rfl (Val.toUnsafe rfl Tryz.underlying123 Tryz.underlying193 hj (by omega) (by simp)) rfl rfl rfl rfl rfl ?_|refine rv rfl rfl rfl (Val.fromUnsafe rfl Tryz.underlying193 Tryz.underlying123 hj (by exact lies_bldS)) rfl rfl rfl ?_|refine rg rfl rfl rfl (Val.fromUnsafe rfl Tryz.underlying193 Tryz.underlying123 hj (by exact lies_bldS)) rfl rfl rfl rfl rfl ?_)|(show ∀ _:Nat,T _ _ _ _ _;intro _))
  exact T_fallV _ rfl (Hle.refl _) ⟨rfl,rfl⟩
 ·repeat' (first|refine d1 ?_|refine dd ?_|(show T _ (.ops _ (_::_)::_) _ _ _;first|refine T_val rfl (Val.nilc rfl) rfl rfl rfl ?_|refine T_valC rfl (Val.nilc rfl) rfl rfl rfl rfl rfl ?_|refine T_val rfl (Val.nilS rfl) rfl rfl rfl ?_|refine T_valC rfl (Val.nilS rfl) rfl rfl rfl rfl rfl ?_)|(show T _ (.run _ _ (_::_) _ _::_) _ _ _;first|refine rv rfl rfl rfl (Val.nilc rfl) rfl rfl rfl ?_|refine rg rfl rfl rfl (Val.nilc rfl) rfl rfl rfl rfl rfl ?_|refine rv rfl rfl rfl (Val.nilS rfl) rfl rfl rfl ?_|refine rg rfl rfl rfl (Val.nilS rfl) rfl rfl rfl rfl rfl ?_)|(show ∀ _:Nat,T _ _ _ _ _;intro _))
  refine T_if rfl (fun h=>by cases h) (fun h=>?_)
  repeat' (first|refine d1 ?_|refine dd ?_|(show T _ (.ops _ (_::_)::_) _ _ _;first|refine T_val rfl (Val.nilc rfl) rfl rfl rfl ?_|refine T_valC rfl (Val.nilc rfl) rfl rfl rfl rfl rfl ?_|refine T_val rfl (Val.ptrSame rfl rfl Tryz.underlying123 hj) rfl rfl rfl ?_|refine T_valC rfl (Val.ptrSame rfl rfl Tryz.underlying123 hj) rfl rfl rfl rfl rfl ?_)|(show T _ (.run _ _ (_::_) _ _::_) _ _ _;first|refine rv rfl rfl rfl (Val.nilc rfl) rfl rfl rfl ?_|refine rg rfl rfl rfl (Val.nilc rfl) rfl rfl rfl rfl rfl ?_|refine rv rfl rfl rfl (Val.ptrSame rfl rfl Tryz.underlying123 hj) rfl rfl rfl ?_|refine rg rfl rfl rfl (Val.ptrSame rfl rfl Tryz.underlying123 hj) rfl rfl rfl rfl rfl ?_)|(show ∀ _:Nat,T _ _ _ _ _;intro _))
  refine T_if rfl (fun h=>by cases h) (fun h=>?_)
  repeat' (first|refine d1 ?_|refine dd ?_|(show ∀ _:Nat,T _ _ _ _ _;intro _))
  exact T_fallV _ rfl (Hle.refl _) ⟨rfl,rfl⟩
theorem writeStringS_spec (w0:World) (pb:Nat) (q:Option Addr) (hq:q=none∨q=some ⟨pb,0,none⟩) (A:Option Addr) (c:Nat) (bs:List UInt8) (s:ByteArray) (hb:bs.length+s.size≤1000000) (K:List HA) :
  SpecB Tryz.prog 84 [.pointer (some ⟨pb,0,none⟩), .string s] w0 (bldS pb q A c bs K) (fun u R=>∃ x:Option Addr × Nat,u = .tuple #[.int .i64 (s.size:Nat), .nilIface]∧R=bldS pb (some ⟨pb,0,none⟩) x.1 x.2 (bs++s.data.toList) K):=by
 refine specB_of sg Tryz.func84 rfl rfl rfl ?_
 repeat' (first|refine d1 ?_|refine dd ?_|(show T _ (.ops _ (_::_)::_) _ _ _;refine T_op (OpT.callB rfl rfl rfl rfl rfl (copyCheckS_spec _ pb q hq A bs.length c _) (fun u R hR=>?_)))|(show ∀ _:Nat,T _ _ _ _ _;intro _))
 obtain⟨rfl,rfl⟩:=hR
 have e:(bs++s.data.toList).length=bs.length+s.size:=by rw [List.length_append];simp
 repeat' (first|refine d1 ?_|refine dd ?_|(show T _ (.ops _ (_::_)::_) _ _ _;first|refine T_val rfl (Val.nilc rfl) rfl rfl rfl ?_|refine T_valC rfl (Val.nilc rfl) rfl rfl rfl rfl rfl ?_|refine T_op (OpT.appendS rfl rfl rfl rfl rfl rfl rfl rfl rfl rfl (by omega) (fun A' cap' hA'=>?_)))|(show T _ (.run _ _ (_::_) _ _::_) _ _ _;first|refine rv rfl rfl rfl (Val.nilc rfl) rfl rfl rfl ?_|refine rg rfl rfl rfl (Val.nilc rfl) rfl rfl rfl rfl rfl ?_)|(show ∀ _:Nat,T _ _ _ _ _;intro _))
 exact T_retV (bldS pb (some ⟨pb,0,none⟩) A' cap' (bs++s.data.toList) K) rfl (by unfold bldS;rw [e,u8s_app];exact Hle.refl _) ⟨(A',cap'),rfl,rfl⟩
theorem writeByteS_spec (w0:World) (pb:Nat) (q:Option Addr) (hq:q=none∨q=some ⟨pb,0,none⟩) (A:Option Addr) (c:Nat) (bs:List UInt8) (b:UInt8) (hb:bs.length+1≤1000000) (K:List HA) :
  SpecB Tryz.prog 85 [.pointer (some ⟨pb,0,none⟩), .int .u8 ((b.toNat:Nat):Int)] w0 (bldS pb q A c bs K) (fun u R=>∃ x:Option Addr × Nat,u = .nilIface∧R=bldS pb (some ⟨pb,0,none⟩) x.1 x.2 (bs++[b]) K):=by
 refine specB_of sg Tryz.func85 rfl rfl rfl ?_
 repeat' (first|refine d1 ?_|refine dd ?_|(show T _ (.ops _ (_::_)::_) _ _ _;refine T_op (OpT.callB rfl rfl rfl rfl rfl (copyCheckS_spec _ pb q hq A bs.length c _) (fun u R hR=>?_)))|(show ∀ _:Nat,T _ _ _ _ _;intro _))
 obtain⟨rfl,rfl⟩:=hR
 have e:(bs++[b]).length=bs.length+1:=by rw [List.length_append];rfl
 repeat' (first|refine d1 ?_|refine dd ?_|(show T _ (.ops _ (_::_)::_) _ _ _;first|refine T_val rfl (Val.nilc rfl) rfl rfl rfl ?_|refine T_valC rfl (Val.nilc rfl) rfl rfl rfl rfl rfl ?_|refine T_op (OpT.append (A:=A) rfl rfl rfl rfl rfl rfl rfl rfl rfl rfl (fun w hw=>Src.own hw rfl) rfl (by dsimp only;omega) (by omega) (fun A' cap' hA'=>?_)))|(show T _ (.run _ _ (_::_) _ _::_) _ _ _;first|refine rv rfl rfl rfl (Val.nilc rfl) rfl rfl rfl ?_|refine rg rfl rfl rfl (Val.nilc rfl) rfl rfl rfl rfl rfl ?_)|(show ∀ _:Nat,T _ _ _ _ _;intro _))
 exact T_retV (bldS pb (some ⟨pb,0,none⟩) A' cap' (bs++[b]) K) rfl (by unfold bldS;rw [e,u8s_app];exact Hle.tail _ _) ⟨(A',cap'),rfl,rfl⟩
theorem T_rowcapS {C:Cx} {k:List It} {env:Env} {ec:EnvC} {H:List HA} {A:Option Addr} {e sz cap n:Nat} {xs:List Value} {rb:HA→List HA} [hf:FocusR H A e sz cap n xs rb] (h:n≤cap→T C k env ec H):T C k env ec H:=by
 refine T.mk fun a w ha hw=>?_
 obtain⟨i,hi,_⟩:=hf.at_
 obtain⟨F,h1,h2,h3⟩:=hw.sep
 obtain⟨_,hr⟩:=h1 i _ hi
 refine h ?_ a w ha hw
 rcases hr with⟨_,rfl,rfl,_⟩|⟨g,cur,_,_,h5,_⟩
 ·exact Nat.le_refl _
 ·exact h5
theorem stringS_spec (w0:World) (pb:Nat) (q A:Option Addr) (c:Nat) (bs:List UInt8) (h0:bs≠[]) (K:List HA) :
  SpecB Tryz.prog 86 [.pointer (some ⟨pb,0,none⟩)] w0 (bldS pb q A c bs K) (fun u R=>u = .string ⟨bs.toArray⟩∧R=[]):=by
 refine specB_of sg Tryz.func86 rfl rfl rfl ?_
 have hl:0<bs.length:=List.length_pos_iff.2 h0
 refine T_rowcapS (e:=5) (sz:=1) (A:=A) (cap:=c) (n:=bs.length) (xs:=u8s bs) fun hc=>?_
 refine T_rowpos (e:=5) (sz:=1) (A:=A) (cap:=c) (n:=bs.length) (xs:=u8s bs) hl fun g hA=>?_
 subst hA
 repeat' (first|refine d1 ?_|(show ∀ _:Nat,T _ _ _ _ _;intro _))
 refine rsH [blk pb [.pointer q, .slice (some ⟨g,0,none⟩) bs.length c] 125] 1000 [0,1,2,3,5,6,7,8,9,4,10,11] ?_
 repeat' (first|refine d1 ?_|refine dd ?_|(show T _ (.ops _ (_::_)::_) _ _ _;first|refine T_val rfl (Val.nilc rfl) rfl rfl rfl ?_|refine T_valC rfl (Val.nilc rfl) rfl rfl rfl rfl rfl ?_)|(show T _ (.run _ _ (_::_) _ _::_) _ _ _;first|refine rv rfl rfl rfl (Val.nilc rfl) rfl rfl rfl ?_|refine rg rfl rfl rfl (Val.nilc rfl) rfl rfl rfl rfl rfl ?_|refine ro rfl rfl (OpT.ofVal rfl (Val.sliceData rfl (by omega)) rfl rfl rfl ⟨fun _=>Hle.sub,?_⟩)|refine ro rfl rfl (OpT.unsafeStr rfl rfl rfl rfl rfl (by kernel_rfl) h0 ⟨fun _=>Hle.sub,?_⟩))|(show ∀ _:Nat,T _ _ _ _ _;intro _)|(show T _ (.code .ret::_) _ _ _;refine T_retV _ rfl (Hle.none _) ⟨rfl,rfl⟩))
mutual
def prB:Nd→List UInt8
 | .mk a _ []=>a.data.toList
 | .mk _ _ (k::r)=>(40::prB k++prT r)++[41]
def prT:List Nd→List UInt8
 | []=>[]
 | k::r=>(44::prB k)++prT r
end
def prK:List Nd→List UInt8
 | []=>[]
 | k::r=>40::prB k++prT r
theorem prT_app:∀ l r:List Nd,prT (l++r)=prT l++prT r
 | [],r=>by rw [List.nil_append,prT,List.nil_append]
 | k::l,r=>by rw [List.cons_append,prT,prT,prT_app l r,List.append_assoc]
theorem prK_snoc (l:List Nd) (k:Nd):prK (l++[k])=prK l++[(if l.length=0 then 40 else 44)]++prB k:=by
 cases l with
 | nil=>show 40::prB k++prT []=[]++[40]++prB k;rw [prT,List.append_nil];rfl
 | cons x r =>
  rw [List.cons_append,if_neg (by simp)]
  show 40::prB x++prT (r++[k])=(40::prB x++prT r)++[44]++prB k
  rw [prT_app,prT,prT]
  simp
theorem prB_mk (a:ByteArray) (o:Int) (ks:List Nd):prB (.mk a o ks)=if ks.length=0 then a.data.toList else prK ks++[41]:=by
 cases ks with
 | nil=>rw [prB];rfl
 | cons k r=>rw [prB,if_neg (by simp)];rfl
end Go.Proofs.YtabhdaehomjlgaaGreat
namespace Go.Proofs.YtabhdaehomjlgaaGreat
open Go.RowKit Go.Shelf Go.Proofs
set_option maxRecDepth 100000
set_option maxHeartbeats 2000000

theorem prK_len (l:List Nd):(prK l).length=(prT l).length:=by
 cases l with
 | nil=>rfl
 | cons x r=>show (40::prB x++prT r).length=_;rw [prT,List.length_append,List.length_append,List.length_cons,List.length_cons]
theorem prT_le (l r:List Nd):(prT l).length≤(prT (l++r)).length:=by rw [prT_app,List.length_append];omega
theorem printC_spec {w0:World} (t4 t5:Nat) (pz:Frag) (K:List HA):∀ (m:Nat) (x:Ln) (q A:Option Addr) (c:Nat) (bs:List UInt8),szN x≤m→m≤100000→tR (fr pz) x→(q=none∨q=some ⟨t4,0,none⟩)→bs.length+(prB (er x)).length≤1000000 →
  SpecB Tryz.prog 83 [lnV x, .pointer (some ⟨t4,0,none⟩), .pointer (some ⟨t5,0,none⟩)] w0
   (bldS t4 q A c bs (blk t5 [.func (.func 83) #[] #[.pointer (some ⟨t4,0,none⟩), .pointer (some ⟨t5,0,none⟩)]] 126::fz pz::K))
   (fun v R=>∃ y:Option Addr × Nat,v = .tuple #[]∧R=bldS t4 (some ⟨t4,0,none⟩) y.1 y.2 (bs++prB (er x)) (blk t5 [.func (.func 83) #[] #[.pointer (some ⟨t4,0,none⟩), .pointer (some ⟨t5,0,none⟩)]] 126::fz pz::K))
 | 0,x,_,_,_,_,h,_,_,_,_=>by have:=szN_pos x;omega
 | m+1, .mk b Ax cx a o ks,q,A,c,bs,hm,hmb,ht,hq,hb=>by
  have hkl:=szN_len ks
  rw [szN_mk] at hm
  obtain⟨⟨h10,h11,-⟩,h4,h5,h6⟩:=ht
  rw [er_mk,prB_mk] at hb ⊢
  refine specB_of sg Tryz.func83 rfl rfl rfl ?_
  rw [show lnV (Ln.mk b Ax cx a o ks) = .pointer (some ⟨b,0,none⟩) from rfl]
  generalize hcl:(Value.func (.func 83) #[] #[.pointer (some ⟨t4,0,none⟩), .pointer (some ⟨t5,0,none⟩)])=cl
  repeat' (first|refine d1 ?_|(show T _ (.ops _ (_::_)::_) _ _ _;first|refine T_val rfl (Val.nilc rfl) rfl rfl rfl ?_|refine T_valC rfl (Val.nilc rfl) rfl rfl rfl rfl rfl ?_|refine T_val rfl (Val.load rfl (fun hg=>rdFz (p:=pz) h11)) rfl rfl rfl ?_|refine T_valC rfl (Val.load rfl (fun hg=>rdFz (p:=pz) h11)) rfl rfl rfl rfl rfl ?_)|(show T _ (.run _ _ (_::_) _ _::_) _ _ _;first|refine rv rfl rfl rfl (Val.nilc rfl) rfl rfl rfl ?_|refine rg rfl rfl rfl (Val.nilc rfl) rfl rfl rfl rfl rfl ?_|refine rv rfl rfl rfl (Val.load rfl (fun hg=>rdFz (p:=pz) h11)) rfl rfl rfl ?_|refine rg rfl rfl rfl (Val.load rfl (fun hg=>rdFz (p:=pz) h11)) rfl rfl rfl rfl rfl ?_)|(show ∀ _:Nat,T _ _ _ _ _;intro _))
  refine T_if rfl (fun h=>?_) (fun h=>?_)
  ·simp only [decide_eq_true_eq] at h
   have hk0:ks.length=0:=by omega
   rw [if_pos (by rw [List.length_map];exact hk0)] at hb ⊢
   have hsz:a.data.toList.length=a.size:=by simp
   repeat' (first|refine d1 ?_|(show T _ (.ops _ (_::_)::_) _ _ _;first|refine T_val rfl (Val.nilc rfl) rfl rfl rfl ?_|refine T_valC rfl (Val.nilc rfl) rfl rfl rfl rfl rfl ?_|refine T_val rfl (Val.load rfl (fun hg=>rdFz (p:=pz) h10)) rfl rfl rfl ?_|refine T_valC rfl (Val.load rfl (fun hg=>rdFz (p:=pz) h10)) rfl rfl rfl rfl rfl ?_|refine T_op (OpT.callB rfl rfl rfl rfl rfl (writeStringS_spec _ t4 q hq A c bs a (by omega) _) (fun u R hR=>?_)))|(show T _ (.run _ _ (_::_) _ _::_) _ _ _;first|refine rv rfl rfl rfl (Val.nilc rfl) rfl rfl rfl ?_|refine rg rfl rfl rfl (Val.nilc rfl) rfl rfl rfl rfl rfl ?_|refine rv rfl rfl rfl (Val.load rfl (fun hg=>rdFz (p:=pz) h10)) rfl rfl rfl ?_|refine rg rfl rfl rfl (Val.load rfl (fun hg=>rdFz (p:=pz) h10)) rfl rfl rfl rfl rfl ?_)|(show ∀ _:Nat,T _ _ _ _ _;intro _))
   obtain⟨⟨A0,c0⟩,rfl,rfl⟩:=hR
   exact T_retV (bldS t4 (some ⟨t4,0,none⟩) A0 c0 (bs++a.data.toList) (blk t5 [cl] 126::fz pz::K)) rfl (Hle.refl _) ⟨(A0,c0),rfl,rfl⟩
  simp only [decide_eq_false_iff_not] at h
  have hk0:¬ ks.length=0:=by omega
  rw [if_neg (by rw [List.length_map];exact hk0)] at hb ⊢
  rw [List.length_append,prK_len,List.length_singleton] at hb
  obtain⟨g,rfl,hg⟩:=h5 (by omega)
  repeat' (first|refine d1 ?_|(show T _ (.ops _ (_::_)::_) _ _ _;first|refine T_val rfl (Val.nilc rfl) rfl rfl rfl ?_|refine T_valC rfl (Val.nilc rfl) rfl rfl rfl rfl rfl ?_|refine T_val rfl (Val.load rfl (fun hg=>rdFz (p:=pz) h11)) rfl rfl rfl ?_|refine T_valC rfl (Val.load rfl (fun hg=>rdFz (p:=pz) h11)) rfl rfl rfl rfl rfl ?_)|(show T _ (.run _ _ (_::_) _ _::_) _ _ _;first|refine rv rfl rfl rfl (Val.nilc rfl) rfl rfl rfl ?_|refine rg rfl rfl rfl (Val.nilc rfl) rfl rfl rfl rfl rfl ?_|refine rv rfl rfl rfl (Val.load rfl (fun hg=>rdFz (p:=pz) h11)) rfl rfl rfl ?_|refine rg rfl rfl rfl (Val.load rfl (fun hg=>rdFz (p:=pz) h11)) rfl rfl rfl rfl rfl ?_)|(show ∀ _:Nat,T _ _ _ _ _;intro _))
  refine T_loopX (fun s:(List Ln × List Ln) × (Option Addr × (Option Addr × Nat))=>[(22, .int .i64 (s.1.1.length:Nat))]) (fun s=>bldS t4 s.2.1 s.2.2.1 s.2.2.2 (bs++prK (s.1.1.map er)) (blk t5 [cl] 126::fz pz::K))
   (fun s=>ks=s.1.1++s.1.2∧(s.2.1=none∨s.2.1=some ⟨t4,0,none⟩)∧(0<s.1.1.length→s.2.1=some ⟨t4,0,none⟩)) (fun s=>s.1.2.length) (([],ks),q,A,c) ⟨rfl,hq,fun h=>absurd h (Nat.lt_irrefl _)⟩ ?_ (hG:=by show Hle (bldS t4 q A c bs _) (bldS t4 q A c (bs++[]) _);rw [List.append_nil];exact Hle.refl _)
  rintro⟨⟨ls,rs⟩,q1,A1,c1⟩ ⟨hks,hq1,hq2⟩
  dsimp only at hks hq1 hq2 ⊢
  have hn:ks.length=ls.length+rs.length:=by rw [hks,List.length_append]
  have hln:(bs++prK (ls.map er)).length=bs.length+(prT (ls.map er)).length:=by rw [List.length_append,prK_len]
  have hle:(prT (ls.map er)).length≤(prT (ks.map er)).length:=by rw [hks,List.map_append];exact prT_le _ _
  repeat' (first|refine d1 ?_|(show ∀ _:Nat,T _ _ _ _ _;intro _))
  refine T_if rfl (fun h7=>?_) (fun h7=>?_)
  ·simp only [decide_eq_true_eq] at h7
   obtain⟨k,r,rfl⟩:∃ k r,rs=k::r:=by
    cases rs with
    | nil=>simp at hn;omega
    | cons k r=>exact⟨k,r,rfl⟩
   have hkm:=szN_kid (ks:=ks) (k:=k) (by rw [hks];exact List.mem_append_right _ (.head _))
   have hkt:tR (fr pz) k:=tRL_get h6 (by rw [hks];exact List.mem_append_right _ (.head _))
   have hgk:=hg ls.length k (by rw [hks,List.getElem?_append_right (Nat.le_refl _),Nat.sub_self];rfl)
   have hlk:(prT ((ls++[k]).map er)).length≤(prT (ks.map er)).length:=by rw [hks,show ls++k::r=(ls++[k])++r by simp,List.map_append (l₁:=ls++[k])];exact prT_le _ _
   have hsn:=prK_snoc (ls.map er) (er k)
   rw [List.length_map] at hsn
   have hsl:(prT ((ls++[k]).map er)).length=(prT (ls.map er)).length+1+(prB (er k)).length:=by rw [← prK_len,List.map_append,List.map_singleton,hsn,List.length_append,List.length_append,prK_len,List.length_singleton]
   repeat' (first|refine d1 ?_|(show T _ (.ops _ (_::_)::_) _ _ _;first|refine T_val rfl (Val.load rfl (fun hg=>rdFz (p:=pz) (b:=g) (o:=0+(ls.length:Int).toNat * 1) (by rw [show 0+(ls.length:Int).toNat * 1=ls.length by omega];exact hgk))) rfl rfl rfl ?_|refine T_valC rfl (Val.load rfl (fun hg=>rdFz (p:=pz) (b:=g) (o:=0+(ls.length:Int).toNat * 1) (by rw [show 0+(ls.length:Int).toNat * 1=ls.length by omega];exact hgk))) rfl rfl rfl rfl rfl ?_)|(show T _ (.run _ _ (_::_) _ _::_) _ _ _;first|refine rv rfl rfl rfl (Val.load rfl (fun hg=>rdFz (p:=pz) (b:=g) (o:=0+(ls.length:Int).toNat * 1) (by rw [show 0+(ls.length:Int).toNat * 1=ls.length by omega];exact hgk))) rfl rfl rfl ?_|refine rg rfl rfl rfl (Val.load rfl (fun hg=>rdFz (p:=pz) (b:=g) (o:=0+(ls.length:Int).toNat * 1) (by rw [show 0+(ls.length:Int).toNat * 1=ls.length by omega];exact hgk))) rfl rfl rfl rfl rfl ?_)|(show ∀ _:Nat,T _ _ _ _ _;intro _))
   have hz2:(ByteArray.mk #[40,44]).size=2:=rfl
   have hby:byteAt (ByteArray.mk #[40,44]) (min ((ls.length:Nat):Int) 1)=if ls.length=0 then 40 else 44:=by
    by_cases h0:ls.length=0
    ·rw [if_pos h0,h0];rfl
    ·rw [if_neg h0,show min ((ls.length:Nat):Int) 1=1 by omega];rfl
   have hl1:(bs++prK (ls.map er)++[byteAt (ByteArray.mk #[40,44]) (min ((ls.length:Nat):Int) 1)]).length=bs.length+(prT (ls.map er)).length+1:=by rw [List.length_append,hln,List.length_singleton]
   repeat' (first|refine d1 ?_|(show T _ (.ops _ (_::_)::_) _ _ _;refine T_op (OpT.callB rfl rfl rfl rfl rfl (writeByteS_spec _ t4 q1 hq1 A1 c1 _ (byteAt (ByteArray.mk #[40,44]) (min ((ls.length:Nat):Int) 1)) (by omega) _) (fun u R hR=>?_)))|(show ∀ _:Nat,T _ _ _ _ _;intro _))
   obtain⟨⟨A2,c2⟩,rfl,rfl⟩:=hR
   subst hcl
   repeat' (first|refine d1 ?_|(show T _ (.ops _ (_::_)::_) _ _ _;refine T_op (OpT.callB rfl rfl rfl rfl rfl (printC_spec t4 t5 pz K m k _ A2 c2 _ (by omega) (by omega) hkt (.inr rfl) (by omega)) (fun u R hR=>?_)))|(show ∀ _:Nat,T _ _ _ _ _;intro _))
   obtain⟨⟨A3,c3⟩,rfl,rfl⟩:=hR
   repeat' (first|refine d1 ?_|(show ∀ _:Nat,T _ _ _ _ _;intro _))
   have hall:bs++prK (ls.map er)++[byteAt (ByteArray.mk #[40,44]) (min ((ls.length:Nat):Int) 1)]++prB (er k)=bs++prK ((ls++[k]).map er):=by
    rw [hby,List.map_append,List.map_singleton,hsn]
    simp
   refine T_backX ((ls++[k],r),some ⟨t4,0,none⟩,A3,c3) ⟨?_, .inr rfl,fun _=>rfl⟩ ?_ (hE:=⟨?_,trivial⟩) (hG:=?_)
   ·dsimp only;rw [hks,List.append_assoc];rfl
   ·dsimp only;rw [List.length_cons];omega
   ·dsimp only;rw [List.length_append];rfl
   ·dsimp only;rw [hall];exact Hle.refl _
  ·simp only [decide_eq_false_iff_not] at h7
   have hrs:rs=[]:=List.eq_nil_of_length_eq_zero (by omega)
   subst hrs
   rw [List.append_nil] at hks
   subst hks
   repeat' (first|refine d1 ?_|(show T _ (.ops _ (_::_)::_) _ _ _;refine T_op (OpT.callB rfl rfl rfl rfl rfl (writeByteS_spec _ t4 q1 hq1 A1 c1 _ 41 (by omega) _) (fun u R hR=>?_)))|(show ∀ _:Nat,T _ _ _ _ _;intro _))
   obtain⟨⟨A0,c0⟩,rfl,rfl⟩:=hR
   subst hcl
   exact T_fallV (bldS t4 (some ⟨t4,0,none⟩) A0 c0 (bs++prK (ks.map er)++[41]) (blk t5 [_] 126::fz pz::K)) rfl (Hle.refl _) ⟨(A0,c0),rfl,by rw [List.append_assoc]⟩
end Go.Proofs.YtabhdaehomjlgaaGreat
namespace Go.Proofs.YtabhdaehomjlgaaGreat
open Go.RowKit Go.Shelf Go.Proofs
set_option maxRecDepth 100000
set_option maxHeartbeats 2000000

theorem printTree_spec (A1 A2:Option Addr) (m c1 c2:Nat) (ps:List Int) (ns:List ByteArray) (w:World) (ht:TrA w A1 m c1 A2 m c2 ps ns) (hok:tOk ps ns) (hlen:(prB (ndOf ps ns)).length≤900000) :
  Spec Tryz.prog 35 [.agg #[.slice A1 m c1, .slice A2 m c2]] w (fun v R=>v = .tuple #[.string ⟨(prB (ndOf ps ns)++[59]).toArray⟩, .int .i64 0]∧R=[]):=by
 have hl1:=ht.l1
 have hl2:=ht.l2
 have h64:=hok.n64
 have hpos:=hok.pos
 refine spec_of sg Tryz.func35 rfl rfl rfl ?_
 refine T_op (OpT.box (cs:=[.slice A1 m c1, .slice A2 m c2]) rfl rfl rfl rfl rfl rfl rfl (fun b1=>?_))
 repeat' (first|refine d1 ?_|(show ∀ _:Nat,T _ _ _ _ _;intro _))
 refine T_op (OpT.call rfl rfl rfl rfl rfl (fun w hw=>checkTree_spec A1 A2 m c1 m c2 ps ns w (ht.cls hw)) ?_)
 rintro u R ⟨e,he,rfl,rfl⟩
 obtain rfl:=he.2 hok
 rw [List.nil_append]
 repeat' (first|refine d1 ?_|(show ∀ _:Nat,T _ _ _ _ _;intro _))
 refine T_if rfl (fun h=>by exfalso;simp at h) (fun _=>?_)
 repeat' (first|refine d1 ?_|(show ∀ _:Nat,T _ _ _ _ _;intro _))
 rename_i b4 b5
 refine T_nilrow 5 1 ?_
 refine T_le (H':=bldS b4 none none 0 [] [blk b5 [.func (.func 83) #[] #[.pointer (some ⟨b4,0,none⟩), .pointer (some ⟨b5,0,none⟩)]] 126,blk b1 [.slice A1 m c1, .slice A2 m c2] 30]) (hle_pm [2,0,1,3] [_,_,_,_] []) ?_
 refine rsH [blk b5 [.func (.func 83) #[] #[.pointer (some ⟨b4,0,none⟩), .pointer (some ⟨b5,0,none⟩)]] 126,blk b1 [.slice A1 m c1, .slice A2 m c2] 30] 1000 [0,1,2,3,4,5] ?_
 repeat' (first|refine d1 ?_|refine dd ?_|(show ∀ _:Nat,T _ _ _ _ _;intro _))
 refine ro rfl rfl (OpT.call rfl rfl rfl rfl rfl (fun w hw=>nodes_spec A1 A2 m c1 c2 ps ns w (src_below ht.s1 hw.below) (src_below ht.s2 hw.below) hl1 hl2 (by omega) (by omega) hok.up) ?_)
 rintro u R ⟨⟨b3,bs,x⟩,⟨hbl,hb0,hxe⟩,rfl,rfl⟩
 dsimp only at hbl hb0 hxe ⊢
 refine ⟨fun _=>by exact hle_pm [4,5] [_,_,_,_,_,_] [],?_⟩
 refine T_le (H':=tre 97 92 x::blk b3 (bs.map ptrV) 92::bldS b4 none none 0 [] [blk b5 [.func (.func 83) #[] #[.pointer (some ⟨b4,0,none⟩), .pointer (some ⟨b5,0,none⟩)]] 126,blk b1 [.slice A1 m c1, .slice A2 m c2] 30]) hle_swap ?_
 refine T_fzA fun pz hpz=>?_
 have htr:=tre_tR x pz hpz
 have hc0:(bs.map ptrV)[0+((0:Nat):Int).toNat * 1]?=some (lnV x):=by
  show (bs.map ptrV)[0]?=_
  rw [List.getElem?_map,hb0];rfl
 repeat' (first|refine d1 ?_|refine dd ?_|(show ∀ _:Nat,T _ _ _ _ _;intro _))
 refine roM rfl (by decide +kernel) (OpT.ofVal rfl (Val.load rfl (fun _ w hw=>rdOwn1 (b:=b3) hc0 w hw)) rfl rfl rfl ⟨fun _=>by exact hle_pm [4,5] [_,_,_,_,_,_] [],?_⟩)
 have hsx:=szN_er x
 have hcx:=cntN_ndOf (ns:=ns) hok.up hpos
 rw [hxe,hcx] at hsx
 rw [← hxe] at hlen ⊢
 refine T_le (H':=bldS b4 none none 0 [] (blk b5 [.func (.func 83) #[] #[.pointer (some ⟨b4,0,none⟩), .pointer (some ⟨b5,0,none⟩)]] 126::fz pz::[blk b1 [.slice A1 m c1, .slice A2 m c2] 30])) (hle_pm [2,3,4,0,5] [_,_,_,_,_,_] []) ?_
 refine ro rfl rfl (OpT.callB rfl rfl rfl rfl rfl (printC_spec b4 b5 pz [_] 100000 x none none 0 [] (by omega) (Nat.le_refl _) htr (.inl rfl) (by rw [List.length_nil];omega)) ?_)
 rintro u R ⟨⟨A3,c3⟩,rfl,rfl⟩
 dsimp only
 rw [List.nil_append]
 refine ⟨fun _=>by exact hle_pm [2,4] [_,_,_,_,_] [],?_⟩
 have hne:prB (er x)++[59]≠[]:=by simp
 repeat' (first|refine d1 ?_|refine dd ?_|(show T _ (.ops _ (_::_)::_) _ _ _;refine T_op (OpT.callB rfl rfl rfl rfl rfl (writeByteS_spec _ b4 _ (.inr rfl) A3 c3 _ 59 (by omega) _) (fun u R hR=>?_)))|(show ∀ _:Nat,T _ _ _ _ _;intro _))
 obtain⟨⟨A4,c4⟩,rfl,rfl⟩:=hR
 repeat' (first|refine d1 ?_|(show T _ (.ops _ (_::_)::_) _ _ _;refine T_op (OpT.callB rfl rfl rfl rfl rfl (stringS_spec _ b4 _ A4 c4 _ hne _) (fun u R hR=>?_)))|(show ∀ _:Nat,T _ _ _ _ _;intro _))
 obtain⟨rfl,rfl⟩:=hR
 repeat' (first|refine d1 ?_|(show ∀ _:Nat,T _ _ _ _ _;intro _)|(show T _ (.code .ret::_) _ _ _;refine T_retV [] rfl (Hle.none _) ⟨rfl,rfl⟩))
end Go.Proofs.YtabhdaehomjlgaaGreat
namespace Go.Proofs.YtabhdaehomjlgaaGreat
open Go.RowKit Go.Shelf Go.Proofs
set_option maxRecDepth 100000
set_option maxHeartbeats 4000000

def nm32:List ByteArray:=[⟨#[65]⟩,⟨#[66]⟩,⟨#[67]⟩,⟨#[68]⟩,⟨#[69]⟩]
def ow32:List (List Int):=[[2,3,4],[3,4]]
def hs32 (a b:Nat):List RwI:=[⟨some ⟨a,0,none⟩,2,2,[3,4]⟩,⟨some ⟨b,0,none⟩,3,3,[2,3,4]⟩]
def hs32c (a b c:Nat):List RwI:=[⟨some ⟨a,0,none⟩,2,2,[3,4]⟩,⟨some ⟨b,0,none⟩,3,3,[2,3,4]⟩,⟨some ⟨c,0,none⟩,2,2,[1,2]⟩]
theorem gn32:gdNm nm32:=by
 have:nm32.all siglum22=true:=by decide +kernel
 exact⟨List.all_eq_true.1 this,by decide +kernel⟩
theorem sp34:splOk 5 [3,4]:=by decide +kernel
theorem sp234:splOk 5 [2,3,4]:=by decide +kernel
theorem sp12:splOk 5 [1,2]:=by decide +kernel
theorem gs32 (a b:Nat):gdSp 5 (hs32 a b):=fun x hx=>by
 simp only [hs32,List.mem_cons,List.not_mem_nil,or_false] at hx
 rcases hx with rfl|rfl
 ·exact sp34
 ·exact sp234
theorem gs32c (a b c:Nat):gdSp 5 (hs32c a b c):=fun x hx=>by
 simp only [hs32c,List.mem_cons,List.not_mem_nil,or_false] at hx
 rcases hx with rfl|rfl|rfl
 ·exact sp34
 ·exact sp234
 ·exact sp12
theorem gp32 (a b:Nat):gdPr (hs32 a b) 2:=fun i k h1 h2=>by
 obtain rfl:i=0:=by omega
 obtain rfl:k=1:=by omega
 show cmpS [3,4] [2,3,4]=true
 decide +kernel
theorem gp32c (a b c:Nat):¬ gdPr (hs32c a b c) 3:=fun h=>by
 have h1:cmpS [2,3,4] [1,2]=true:=h 1 2 (by omega) (by omega)
 exact absurd h1 (by decide +kernel)
theorem ow32G:ownG ow32 5:=⟨fun s hs=>by
 simp only [ow32,List.mem_cons,List.not_mem_nil,or_false] at hs
 rcases hs with rfl|rfl
 ·exact sp234
 ·exact sp34,by decide +kernel,by decide +kernel⟩
theorem ow32B:BldG nm32 5 [[3,4],[2,3,4]] ow32:=⟨ow32G,fun s=>by simp only [ow32,List.mem_cons,List.not_mem_nil,or_false];exact or_comm,by decide⟩
theorem tx32:(⟨(prB (ndOf (cps (bldP ow32 5) (bldNm nm32 ow32.length)) (cns (bldP ow32 5) (bldNm nm32 ow32.length)))++[59]).toArray⟩:ByteArray)=⟨#[40,65,44,40,66,44,40,67,44,40,68,44,69,41,41,41,41,59]⟩:=by decide +kernel
theorem tl32:(prB (ndOf (cps (bldP ow32 5) (bldNm nm32 ow32.length)) (cns (bldP ow32 5) (bldNm nm32 ow32.length)))).length≤900000:=by decide +kernel
theorem top32Awake_spec (w:World):Spec Tryz.prog 9 [] w (fun v R=>v = .bool true∧R=[]):=by
 refine spec_of sg Tryz.func9 rfl rfl rfl ?_
 repeat' (first|refine d1 ?_|(show ∀ _:Nat,T _ _ _ _ _;intro _))
 rename_i b8 b11 b12 b13
 refine T_op (OpT.call rfl rfl rfl rfl rfl (fun w hw=>buildT_spec (some ⟨b8,0,none⟩) (some ⟨b13,0,none⟩) 5 5 2 2 nm32 (hs32 b11 b12) w (Src.own hw rfl) rfl (by omega) (by omega) (by decide) ⟨Src.own hw rfl,rfl,by omega,fun x hx=>by
  simp only [hs32,List.mem_cons,List.not_mem_nil,or_false] at hx
  rcases hx with rfl|rfl
  ·exact⟨Src.own hw rfl,rfl,⟨(show (2:Nat)≤2 by decide),(show (2:Nat)≤9223372036854775807 by decide)⟩,(show (2:Nat)≤64 by decide)⟩
  ·exact⟨Src.own hw rfl,rfl,⟨(show (3:Nat)≤3 by decide),(show (3:Nat)≤9223372036854775807 by decide)⟩,(show (3:Nat)≤64 by decide)⟩⟩) ?_)
 rintro u R ⟨P,Q,p,pc,q,qc,e0,rfl,hb1,hb2,hb3⟩
 obtain⟨rfl,htree⟩:=hb3 gn32 (gs32 _ _) (gp32 _ _) (by omega)
 obtain⟨own,hB,m,⟨⟨P0,pc0⟩,⟨Q0,qc0⟩⟩,hm,⟨hk1,hk2⟩,ePx,eQy,rfl⟩:=bldT_own (n:=2) rfl (by omega) (gs32 _ _) (gp32 _ _) htree
 cases ePx
 cases eQy
 dsimp only at hk1 hk2 ⊢
 obtain rfl:own=ow32:=hB.uniq ow32B fun s=>Iff.rfl
 refine T_le (H':=[row 3 1 P0 pc0 p ((cps (bldP ow32 5) (bldNm nm32 2)).map (Value.int .i64)),row 9 1 Q0 qc0 p ((cns (bldP ow32 5) (bldNm nm32 2)).map Value.string),blk b8 (nm32.map Value.string) 9]) (hle_pm [0,1,5] [_,_,_,_,_,_] []) ?_
 repeat' (first|refine d1 ?_|(show ∀ _:Nat,T _ _ _ _ _;intro _))
 rename_i t2
 have hof:=fun w (s1:Src w 1 P0 p ((cps (bldP ow32 5) (bldNm nm32 ow32.length)).map (Value.int .i64))) (s2:Src w 1 Q0 p ((cns (bldP ow32 5) (bldNm nm32 ow32.length)).map Value.string))=>bld_ofR ow32B rfl (by omega) (by omega) (by decide) gn32 hm hk1 hk2 s1 s2
 refine T_op (OpT.call rfl rfl rfl rfl rfl (fun w hw=>printTree_spec P0 Q0 p pc0 qc0 _ _ w (hof w (srcRw w hw) (srcRw w hw)).t (hof w (srcRw w hw) (srcRw w hw)).ok tl32) ?_)
 rintro u R ⟨rfl,rfl⟩
 rw [tx32,List.nil_append]
 refine T_le (H':=[blk b8 (nm32.map Value.string) 9]) (hle_pm [3] [_,_,_,_] []) ?_
 repeat' (first|refine d1 ?_|(show ∀ _:Nat,T _ _ _ _ _;intro _))
 rename_i b24 b25 b26 b27
 refine T_op (OpT.call rfl rfl rfl rfl rfl (fun w hw=>buildT_spec (some ⟨b8,0,none⟩) (some ⟨b27,0,none⟩) 5 5 3 3 nm32 (hs32c b24 b25 b26) w (Src.own hw rfl) rfl (by omega) (by omega) (by decide) ⟨Src.own hw rfl,rfl,by omega,fun x hx=>by
  simp only [hs32c,List.mem_cons,List.not_mem_nil,or_false] at hx
  rcases hx with rfl|rfl|rfl
  ·exact⟨Src.own hw rfl,rfl,⟨(show (2:Nat)≤2 by decide),(show (2:Nat)≤9223372036854775807 by decide)⟩,(show (2:Nat)≤64 by decide)⟩
  ·exact⟨Src.own hw rfl,rfl,⟨(show (3:Nat)≤3 by decide),(show (3:Nat)≤9223372036854775807 by decide)⟩,(show (3:Nat)≤64 by decide)⟩
  ·exact⟨Src.own hw rfl,rfl,⟨(show (2:Nat)≤2 by decide),(show (2:Nat)≤9223372036854775807 by decide)⟩,(show (2:Nat)≤64 by decide)⟩⟩) ?_)
 rintro u R ⟨P1,Q1,p1,pc1,q1,qc1,e1,rfl,-,hc2,-⟩
 obtain rfl:=hc2 gn32 (gs32c _ _ _) (gp32c _ _ _)
 refine T_le (H':=[]) (Hle.none _) ?_
 repeat' (first|refine d1 ?_|(show ∀ _:Nat,T _ _ _ _ _;intro _)|(show T _ (.code .ret::_) _ _ _;refine T_retV [] rfl (Hle.none _) ⟨rfl,rfl⟩))
end Go.Proofs.YtabhdaehomjlgaaGreat
