/- Joined texts of this claim, part 4. -/
import Derived.Test.YtbfcfpmholkmeaaGreatDoorN3
set_option linter.unusedSectionVars false
set_option linter.unusedVariables false
set_option linter.unusedSimpArgs false
namespace Go.Proofs.YtbfcfpmholkmeaaGreatDoor
open Go.RowKit Go.Shelf Go.Proofs
set_option maxRecDepth 100000
set_option maxHeartbeats 4000000

def nodT (s:ByteArray):List Value:=[.int .i64 1, .string s, .int .i64 0, .slice none 0 0]
def plcT (s:ByteArray):List Value:=[.int .i64 1, .string s, .int .i64 0, .slice none 0 0, .int .i64 0, .bool false]
def NodR (w:World) (b:Nat) (s:ByteArray):Prop:=RdC w b 0 (nodT s)
theorem NodR.cls {w w':World} {H:List HA} {b:Nat} {s:ByteArray} (h:NodR w b s) (hw:Cls w w' H):NodR w' b s:=RdC.below h hw.below
theorem NodR.below {w w':World} {b:Nat} {s:ByteArray} (h:NodR w b s) (hb:Below w.heap.size w w'):NodR w' b s:=RdC.below h hb
def QP (s:ByteArray) (_:Nat) (x:List Value) (B:List HA):Prop:=x=[.agg (plcT s).toArray]∧B=[]
theorem nodesPN_spec (d:Int) (p2 p3:Value) (w:World):Spec Tryz.prog 114 [.slice none 0 0, .int .i64 d,p2,p3] w (fun v R=>v = .bool true∧R=[]):=by
 refine spec_of sg Tryz.func114 rfl rfl rfl ?_
 repeat' (first|refine d1 ?_|(show ∀ _:Nat,T _ _ _ _ _;intro _))
 refine T_loopX (fun _:Unit=>[(12, .int .i64 0)]) (fun _=>[]) (fun _=>True) (fun _=>0) () trivial ?_
 rintro - -
 repeat' (first|refine d1 ?_|(show ∀ _:Nat,T _ _ _ _ _;intro _))
 refine T_if rfl (fun h=>by exfalso;simp at h) (fun _=>?_)
 repeat' (first|refine d1 ?_|(show ∀ _:Nat,T _ _ _ _ _;intro _)|(show T _ (.code .ret::_) _ _ _;refine T_retV [] rfl (Hle.none _) ⟨rfl,rfl⟩))
theorem nodesPW_spec {w0:World} {l b0:Nat} {s:ByteArray} {GQ:Nat→List HA→Prop} {X:List HA→Prop} (hb:NodR w0 b0 s) (hY:YieldsO Tryz.prog w0 l GQ X (QP s) 1) (t2 t3:Nat) (Hj:List HA) (hG:GQ 0 Hj) :
  SpecB Tryz.prog 114 [.slice (some ⟨b0,0,none⟩) 1 1, .int .i64 0, .pointer (some ⟨t2,0,none⟩), .pointer (some ⟨t3,0,none⟩)] w0
   (blk t2 [yv l] 173::blk t3 [.func (.func 114) #[] #[.pointer (some ⟨t2,0,none⟩), .pointer (some ⟨t3,0,none⟩)]] 174::Hj)
   (fun v R=>(∃ H',GQ 1 H'∧v = .bool true∧R=blk t2 [yv l] 173::blk t3 [.func (.func 114) #[] #[.pointer (some ⟨t2,0,none⟩), .pointer (some ⟨t3,0,none⟩)]] 174::H') ∨
    ∃ Y,X Y∧v = .bool false∧R=blk t2 [yv l] 173::blk t3 [.func (.func 114) #[] #[.pointer (some ⟨t2,0,none⟩), .pointer (some ⟨t3,0,none⟩)]] 174::Y):=by
 refine specB_of sg Tryz.func114 rfl rfl rfl ?_
 generalize hcl:(Value.func (.func 114) #[] #[.pointer (some ⟨t2,0,none⟩), .pointer (some ⟨t3,0,none⟩)])=cl
 repeat' (first|refine d1 ?_|(show ∀ _:Nat,T _ _ _ _ _;intro _))
 refine T_loopX (fun z:Nat × List HA=>[(12, .int .i64 (z.1:Nat)),(7, .bool (decide (z.1=1)))]) (fun z=>blk t2 [yv l] 173::blk t3 [cl] 174::z.2) (fun z=>z.1≤1∧GQ z.1 z.2) (fun z=>1 - z.1) (0,Hj) ⟨Nat.zero_le _,hG⟩ ?_
 rintro⟨k,H1⟩ ⟨hk,hG1⟩
 dsimp only at hk hG1 ⊢
 repeat' (first|refine d1 ?_|(show ∀ _:Nat,T _ _ _ _ _;intro _))
 refine T_if rfl (fun h=>?_) (fun h=>?_)
 ·have hk0:k=0:=by simp at h;omega
  subst hk0
  repeat' (first|refine d1 ?_|(show T _ (.ops _ (_::_)::_) _ _ _;first|refine T_val rfl (Val.loadA (vs:=nodT s) rfl (fun w hw=>(hb.cls hw:RdC _ b0 0 (nodT s))) rfl) rfl rfl rfl ?_|refine T_valC rfl (Val.loadA (vs:=nodT s) rfl (fun w hw=>(hb.cls hw:RdC _ b0 0 (nodT s))) rfl) rfl rfl rfl rfl rfl ?_)|(show T _ (.run _ _ (_::_) _ _::_) _ _ _;first|refine rv rfl rfl rfl (Val.loadA (vs:=nodT s) rfl (fun w hw=>(hb.cls hw:RdC _ b0 0 (nodT s))) rfl) rfl rfl rfl ?_|refine rg rfl rfl rfl (Val.loadA (vs:=nodT s) rfl (fun w hw=>(hb.cls hw:RdC _ b0 0 (nodT s))) rfl) rfl rfl rfl rfl rfl ?_)|(show ∀ _:Nat,T _ _ _ _ _;intro _))
  rename_i b9
  refine T_le (H':=blk b9 (nodT s) 56::blk t2 [yv l] 173::blk t3 [cl] 174::H1) (Hle.refl _) ?_
  repeat' (first|refine d1 ?_|(show T _ (.ops _ (_::_)::_) _ _ _;first|refine T_val rfl (Val.loadA (vs:=nodT s) rfl (rdOwn (vs:=nodT s) (fun j u hu=>by rw [Nat.zero_add];exact hu)) rfl) rfl rfl rfl ?_|refine T_valC rfl (Val.loadA (vs:=nodT s) rfl (rdOwn (vs:=nodT s) (fun j u hu=>by rw [Nat.zero_add];exact hu)) rfl) rfl rfl rfl rfl rfl ?_|refine T_op (OpT.yieldF [] [blk b9 (nodT s) 56,blk t2 [yv l] 173,blk t3 [cl] 174] hY rfl rfl (fun _ _=>Holds.nil _ _) rfl rfl rfl (Nat.lt_succ_self 0) ⟨rfl,rfl⟩ hG1 (Hle.comm [_,_,_] H1) (fun H2 hG2=>?_) (fun Y hX=>?_)))|(show T _ (.run _ _ (_::_) _ _::_) _ _ _;first|refine rv rfl rfl rfl (Val.loadA (vs:=nodT s) rfl (rdOwn (vs:=nodT s) (fun j u hu=>by rw [Nat.zero_add];exact hu)) rfl) rfl rfl rfl ?_|refine rg rfl rfl rfl (Val.loadA (vs:=nodT s) rfl (rdOwn (vs:=nodT s) (fun j u hu=>by rw [Nat.zero_add];exact hu)) rfl) rfl rfl rfl rfl rfl ?_)|(show ∀ _:Nat,T _ _ _ _ _;intro _))
  ·show T _ _ _ _ (blk b9 (nodT s) 56::blk t2 [yv l] 173::blk t3 [cl] 174::H2)
   repeat' (first|refine d1 ?_|(show ∀ _:Nat,T _ _ _ _ _;intro _))
   subst hcl
   repeat' (first|refine d1 ?_|(show T _ (.ops _ (_::_)::_) _ _ _;refine T_callC rfl rfl rfl rfl rfl rfl rfl (fun _ w hw=>nodesPN_spec _ _ _ w) ?_)|(show ∀ _:Nat,T _ _ _ _ _;intro _))
   refine T_if rfl (fun h3=>by first|cases h3|(exfalso;simp at h3)) (fun _=>?_)
   repeat' (first|refine d1 ?_|(show ∀ _:Nat,T _ _ _ _ _;intro _))
   refine T_backX (1,H2) ⟨Nat.le_refl _,hG2⟩ (by dsimp only;omega) (hG:=by exact Hle.tail _ _)
  ·show T _ _ _ _ (blk b9 (nodT s) 56::blk t2 [yv l] 173::blk t3 [cl] 174::Y)
   subst hcl
   repeat' (first|refine d1 ?_|(show T _ (.ops _ (_::_)::_) _ _ _;refine T_callC rfl rfl rfl rfl rfl rfl rfl (fun _ w hw=>nodesPN_spec _ _ _ w) ?_)|(show ∀ _:Nat,T _ _ _ _ _;intro _))
   refine T_if rfl (fun _=>?_) (fun h3=>by first|cases h3|(exfalso;simp at h3))
   repeat' (first|refine d1 ?_|(show ∀ _:Nat,T _ _ _ _ _;intro _)|(show T _ (.code .ret::_) _ _ _;refine T_retV _ rfl (Hle.tail _ _) (.inr ⟨Y,hX,rfl,rfl⟩)))
 ·have hk1:k=1:=by simp at h;omega
  subst hk1
  subst hcl
  repeat' (first|refine d1 ?_|(show ∀ _:Nat,T _ _ _ _ _;intro _)|(show T _ (.code .ret::_) _ _ _;refine T_retV _ rfl (Hle.refl _) (.inl ⟨H1,hG1,rfl,rfl⟩)))
theorem nodesP_spec (b0:Nat) (w:World):Spec Tryz.prog 72 [.slice (some ⟨b0,0,none⟩) 1 1] w (fun v R=>∃ b:Nat,True∧v = .func (.func 113) #[] #[.pointer (some ⟨b,0,none⟩)]∧R=[blk b [.slice (some ⟨b0,0,none⟩) 1 1] 54]):=by
 refine spec_of sg Tryz.func72 rfl rfl rfl ?_
 repeat' (first|(show T _ (.ops _ (⟨_, .box _ _,_,_,_,_⟩::_)::_) _ _ _;refine T_op (OpT.box (cs:=[.slice (some ⟨b0,0,none⟩) 1 1]) rfl rfl rfl rfl rfl rfl rfl (fun _=>?_)))|refine d1 ?_|refine dd ?_|(show ∀ _:Nat,T _ _ _ _ _;intro _)|(show T _ (.code .ret::_) _ _ _;refine T_retV _ rfl (Hle.refl _) ⟨_,trivial,rfl,rfl⟩))
theorem nodesP_iter {w0:World} {b0:Nat} {s:ByteArray} (hb:NodR w0 b0 s) (b1:Nat) :
  IterO Tryz.prog w0 113 [] [.pointer (some ⟨b1,0,none⟩)] [blk b1 [.slice (some ⟨b0,0,none⟩) 1 1] 54] (QP s) 1:=by
 refine iterO_of sg Tryz.func113 rfl rfl rfl ?_
 intro l' GQ X Hj hY h0
 show T _ _ _ _ (blk b1 [.slice (some ⟨b0,0,none⟩) 1 1] 54::Hj)
 repeat' (first|(show T _ (.ops _ (⟨_, .box _ _,_,_,_,_⟩::_)::_) _ _ _;refine T_op (OpT.box (cs:=[yv l']) rfl rfl rfl rfl rfl rfl rfl (fun _=>?_)))|refine d1 ?_|refine dd ?_|(show ∀ _:Nat,T _ _ _ _ _;intro _))
 rename_i t2 t3
 have hle:∀ (a b c:HA) (H:List HA),Hle (a::b::c::H) (b::a::c::H):=fun a b c H=>Hle.perm (List.Perm.swap _ _ _)
 refine T_le (hle _ _ _ _) ?_
 refine T_op (OpT.callB rfl rfl rfl rfl rfl (nodesPW_spec hb (hY.frame [blk b1 [.slice (some ⟨b0,0,none⟩) 1 1] 54]) t2 t3 _ ⟨Hj,rfl,h0⟩) ?_)
 rintro u R (⟨_,⟨H4,rfl,hG4⟩,rfl,rfl⟩|⟨_,⟨Y,rfl,hX⟩,rfl,rfl⟩)
 ·repeat' (first|refine d1 ?_|refine dd ?_|(show ∀ _:Nat,T _ _ _ _ _;intro _)|(show T _ _ _ _ _;refine T_ifall rfl H4 hG4 ((Hle.tail _ _).trans (Hle.tail _ _))))
 ·repeat' (first|refine d1 ?_|refine dd ?_|(show ∀ _:Nat,T _ _ _ _ _;intro _)|(show T _ _ _ _ _;refine T_istopf rfl Y hX ((Hle.tail _ _).trans (Hle.tail _ _))))
end Go.Proofs.YtbfcfpmholkmeaaGreatDoor
namespace Go.Proofs.YtbfcfpmholkmeaaGreatDoor
open Go.RowKit Go.Shelf Go.Proofs
set_option maxRecDepth 100000
set_option maxHeartbeats 4000000

theorem T_no {C:Cx} {k:List It} {env:Env} {ec:EnvC} {H:List HA} {c:Operand} {x y:Code} (hc:evX env [] [] c=some (.bool false)) (hf:T C (nf 60 (.code y::k)) env [] H):T C (.code (.cond c x y)::k) env ec H:=T_if hc (fun h=>by cases h) (fun _=>hf)
theorem T_yes {C:Cx} {k:List It} {env:Env} {ec:EnvC} {H:List HA} {c:Operand} {x y:Code} (hc:evX env [] [] c=some (.bool true)) (ht:T C (nf 60 (.code x::k)) env [] H):T C (.code (.cond c x y)::k) env ec H:=T_if hc (fun _=>ht) (fun h=>by cases h)
def evIG (env:Env) (ec:EnvC) (G:GId) (o:Oper):Option (TypeId × Nat × Nat × Int) :=
 match o.op with
 | .indexAddr t x i=>match evX env ec G x,evX env ec G i with
  | some (.pointer (some ⟨b,k,none⟩)),some (.int .i64 j)=>some (t,b,k,j)
  | _,_=>none
 | _=>none
theorem Val.indexArr {C:Cx} {all:Array Oper} {o:Oper} {env:Env} {ec:EnvC} {Hs:List HA} {G:GId} {t e:TypeId} {n sz b k:Nat} {j:Int} {m1:Ty} {m2:Nat} {m3:Value} (hv:evIG env ec G o=some (t,b,k,j)) (hu:C.S.P.underlying t=some (.array n e)) (he:C.S.ty e=some ⟨m1,sz,m2,m3⟩) (hp:0≤j∧j<(n:Int)) :
  Val C all o env ec Hs G (.pointer (some ⟨b,k+j.toNat * sz,none⟩)):=by
 intro a w ha hw hH
 obtain⟨dst,op,ty,pos,aft,gd⟩:=o
 unfold evIG at hv
 dsimp only at hv
 split at hv
 ·rename_i t' x i
  split at hv
  ·rename_i b' k' j' hx hi
   cases hv
   have hsz:=(Sig.tyOk he).sizeOf w
   dsimp only at hsz
   simp only [execOp,evX_spec ha hH hx,evX_spec ha hH hi,Instr.indexAt]
   simp [asIntOf,run_underlying hu,hsz,hp.1,hp.2,Addr.add,Instr.sureAddr]
   try (split <;> simp_all)
  ·cases hv
 ·cases hv
theorem plc_nod (s:ByteArray) (j:Nat) (u:Value) (h:(nodT s)[j]?=some u):(plcT s)[0+0+j]?=some u:=by
 rcases j with _|_|_|_|j
 ·exact h
 ·exact h
 ·exact h
 ·exact h
 ·simp [nodT] at h
theorem rightT_spec (s:ByteArray) (w:World) (hfs:FormS w) (hs0:s.size≠0) (hc:checkS s=0):Spec Tryz.prog 73 [.agg (plcT s).toArray] w (fun v R=>v = .int .i64 0∧R=[]):=by
 have hsd:decide (s=(⟨#[]⟩:ByteArray))=false:=decide_eq_false fun h=>hs0 (by rw [h];rfl)
 have hck:∀ w,Spec Tryz.prog 63 [.string s] w (fun v A=>v = .int .i64 0∧A=[]):=fun w=>by
  have h9:=checkPrg_spec s w
  rw [hc] at h9
  exact h9
 refine spec_of sg Tryz.func73 rfl rfl rfl ?_
 repeat' (first|(show T _ (.ops _ (⟨_, .box _ _,_,_,_,_⟩::_)::_) _ _ _;refine T_op (OpT.box (cs:=plcT s) rfl rfl rfl rfl rfl rfl rfl (fun _=>?_)))|refine d1 ?_|(show T _ (.ops _ (_::_)::_) _ _ _;first|refine T_val rfl (Val.loadA (vs:=nodT s) rfl (fun _=>rdOwn (vs:=nodT s) (plc_nod s)) rfl) rfl rfl rfl ?_|refine T_valC rfl (Val.loadA (vs:=nodT s) rfl (fun _=>rdOwn (vs:=nodT s) (plc_nod s)) rfl) rfl rfl rfl rfl rfl ?_)|(show T _ (.run _ _ (_::_) _ _::_) _ _ _;first|refine rv rfl rfl rfl (Val.loadA (vs:=nodT s) rfl (fun _=>rdOwn (vs:=nodT s) (plc_nod s)) rfl) rfl rfl rfl ?_|refine rg rfl rfl rfl (Val.loadA (vs:=nodT s) rfl (fun _=>rdOwn (vs:=nodT s) (plc_nod s)) rfl) rfl rfl rfl rfl rfl ?_)|(show ∀ _:Nat,T _ _ _ _ _;intro _))
 refine T_no rfl ?_
 repeat' (first|refine d1 ?_|(show T _ (.ops _ (_::_)::_) _ _ _;first|refine T_val rfl (Val.indexArr rfl Tryz.underlying177 rfl (by omega)) rfl rfl rfl ?_|refine T_valC rfl (Val.indexArr rfl Tryz.underlying177 rfl (by omega)) rfl rfl rfl rfl rfl ?_|refine T_val rfl (Val.loadA (vs:=[.string ByteArray.empty, .bool true, .bool false, .bool false]) rfl (fun _ w hw=>(hfs.cls hw:RdC _ _ 4 _)) rfl) rfl rfl rfl ?_|refine T_valC rfl (Val.loadA (vs:=[.string ByteArray.empty, .bool true, .bool false, .bool false]) rfl (fun _ w hw=>(hfs.cls hw:RdC _ _ 4 _)) rfl) rfl rfl rfl rfl rfl ?_)|(show T _ (.run _ _ (_::_) _ _::_) _ _ _;first|refine rv rfl rfl rfl (Val.indexArr rfl Tryz.underlying177 rfl (by omega)) rfl rfl rfl ?_|refine rg rfl rfl rfl (Val.indexArr rfl Tryz.underlying177 rfl (by omega)) rfl rfl rfl rfl rfl ?_|refine rv rfl rfl rfl (Val.loadA (vs:=[.string ByteArray.empty, .bool true, .bool false, .bool false]) rfl (fun _ w hw=>(hfs.cls hw:RdC _ _ 4 _)) rfl) rfl rfl rfl ?_|refine rg rfl rfl rfl (Val.loadA (vs:=[.string ByteArray.empty, .bool true, .bool false, .bool false]) rfl (fun _ w hw=>(hfs.cls hw:RdC _ _ 4 _)) rfl) rfl rfl rfl rfl rfl ?_)|(show ∀ _:Nat,T _ _ _ _ _;intro _))
 refine T_no rfl ?_
 repeat' (first|refine d1 ?_|(show ∀ _:Nat,T _ _ _ _ _;intro _))
 refine T_no (congrArg (fun b:Bool=>some (Value.bool (b || false))) hsd) ?_
 repeat' (first|refine d1 ?_|(show T _ (.ops _ (_::_)::_) _ _ _;refine T_callC rfl rfl rfl rfl rfl rfl rfl (fun _ w hw=>hck w) ?_)|(show ∀ _:Nat,T _ _ _ _ _;intro _))
 refine T_no rfl ?_
 repeat' (first|refine d1 ?_|(show T _ (.ops _ (_::_)::_) _ _ _;refine T_op (OpT.never (.bool false) rfl (fun hg9=>by first|exact Bool.noConfusion (show (false:Bool)=true from hg9.1)|exact Bool.noConfusion (show (false:Bool)=true from hg9.2.1)) rfl rfl rfl rfl rfl ?_))|(show ∀ _:Nat,T _ _ _ _ _;intro _))
 refine T_no rfl ?_
 repeat' (first|refine d1 ?_|(show T _ (.ops _ (_::_)::_) _ _ _;refine T_op (OpT.never (.bool false) rfl (fun hg9=>by first|exact Bool.noConfusion (show (false:Bool)=true from hg9.1)|exact Bool.noConfusion (show (false:Bool)=true from hg9.2.1)) rfl rfl rfl rfl rfl ?_))|(show ∀ _:Nat,T _ _ _ _ _;intro _))
 refine T_no rfl ?_
 repeat' (first|refine d1 ?_|(show ∀ _:Nat,T _ _ _ _ _;intro _))
 refine T_no rfl ?_
 repeat' (first|refine d1 ?_|(show ∀ _:Nat,T _ _ _ _ _;intro _))
 refine T_no rfl ?_
 repeat' (first|refine d1 ?_|(show ∀ _:Nat,T _ _ _ _ _;intro _))
 refine T_no rfl ?_
 repeat' (first|refine d1 ?_|(show ∀ _:Nat,T _ _ _ _ _;intro _))
 refine T_no rfl ?_
 repeat' (first|refine d1 ?_|(show ∀ _:Nat,T _ _ _ _ _;intro _))
 refine T_no rfl ?_
 repeat' (first|refine d1 ?_|(show ∀ _:Nat,T _ _ _ _ _;intro _)|(show T _ (.code .ret::_) _ _ _;refine T_retV [] rfl (Hle.none _) ⟨rfl,rfl⟩))
def mrkB (k:Nat) (s:ByteArray):List UInt8:=if k=0 then [] else s.data.toList
theorem markedW_spec {w0:World} (b0 pb t4:Nat) (s:ByteArray) (hb:NodR w0 b0 s) (hfs:FormS w0) (hss:s.size≤1000) (K:List HA) :
  SpecB Tryz.prog 115 [.slice (some ⟨b0,0,none⟩) 1 1, .pointer (some ⟨pb,0,none⟩), .pointer (some ⟨t4,0,none⟩)] w0 (bldM pb none none 0 [] K) (fun v R=>∃ x:Option Addr × Nat,v = .tuple #[]∧R=bldM pb (some ⟨pb,0,none⟩) x.1 x.2 s.data.toList K):=by
 refine specB_of sg Tryz.func115 rfl rfl rfl ?_
 repeat' (first|refine d1 ?_|(show ∀ _:Nat,T _ _ _ _ _;intro _))
 refine T_loopX (fun z:Nat × (Option Addr × Option Addr × Nat)=>[(9, .int .i64 (z.1:Nat))]) (fun z=>bldM pb z.2.1 z.2.2.1 z.2.2.2 (mrkB z.1 s) K) (fun z=>z.1≤1∧(z.1=0→z.2.1=none)∧(z.1=1→z.2.1=some ⟨pb,0,none⟩)) (fun z=>1 - z.1) (0,none,none,0) ⟨Nat.zero_le _,fun _=>rfl,fun h=>by cases h⟩ ?_
 rintro⟨k,q,A,c⟩ ⟨hk,hq0,hq1⟩
 dsimp only at hk hq0 hq1 ⊢
 repeat' (first|refine d1 ?_|(show ∀ _:Nat,T _ _ _ _ _;intro _))
 refine T_if rfl (fun h=>?_) (fun h=>?_)
 ·have hk0:k=0:=by simp at h;omega
  subst hk0
  obtain rfl:=hq0 rfl
  have h9:RdC w0 b0 (0+(((0:Nat):Int)).toNat * 4) (nodT s):=hb
  repeat' (first|refine d1 ?_|(show ∀ _:Nat,T _ _ _ _ _;intro _))
  rename_i b5
  refine T_le (H':=blk b5 (nodT s) 56::bldM pb none A c (mrkB 0 s) K) (Hle.refl _) ?_
  repeat' (first|refine d1 ?_|(show T _ (.ops _ (_::_)::_) _ _ _;first|refine T_val rfl (Val.indexArr rfl Tryz.underlying177 rfl (by omega)) rfl rfl rfl ?_|refine T_valC rfl (Val.indexArr rfl Tryz.underlying177 rfl (by omega)) rfl rfl rfl rfl rfl ?_|refine T_val rfl (Val.loadA (vs:=[.string ByteArray.empty, .bool true, .bool false, .bool false]) rfl (fun _ w hw=>(hfs.cls hw:RdC _ _ 4 _)) rfl) rfl rfl rfl ?_|refine T_valC rfl (Val.loadA (vs:=[.string ByteArray.empty, .bool true, .bool false, .bool false]) rfl (fun _ w hw=>(hfs.cls hw:RdC _ _ 4 _)) rfl) rfl rfl rfl rfl rfl ?_)|(show T _ (.run _ _ (_::_) _ _::_) _ _ _;first|refine rv rfl rfl rfl (Val.indexArr rfl Tryz.underlying177 rfl (by omega)) rfl rfl rfl ?_|refine rg rfl rfl rfl (Val.indexArr rfl Tryz.underlying177 rfl (by omega)) rfl rfl rfl rfl rfl ?_|refine rv rfl rfl rfl (Val.loadA (vs:=[.string ByteArray.empty, .bool true, .bool false, .bool false]) rfl (fun _ w hw=>(hfs.cls hw:RdC _ _ 4 _)) rfl) rfl rfl rfl ?_|refine rg rfl rfl rfl (Val.loadA (vs:=[.string ByteArray.empty, .bool true, .bool false, .bool false]) rfl (fun _ w hw=>(hfs.cls hw:RdC _ _ 4 _)) rfl) rfl rfl rfl rfl rfl ?_)|(show ∀ _:Nat,T _ _ _ _ _;intro _))
  refine T_yes rfl ?_
  repeat' (first|refine d1 ?_|(show ∀ _:Nat,T _ _ _ _ _;intro _))
  refine T_le ((Hle.tail _ _).trans (Hle.tail _ _)) ?_
  refine T_op (OpT.callB rfl rfl rfl rfl rfl (writeStringM_spec _ pb none (.inl rfl) A c [] s (by show 0+s.size≤1000000;omega) K) ?_)
  rintro u R ⟨⟨A1,c1⟩,rfl,rfl⟩
  repeat' (first|refine d1 ?_|(show ∀ _:Nat,T _ _ _ _ _;intro _))
  refine T_backX (1,some ⟨pb,0,none⟩,A1,c1) ⟨Nat.le_refl _,fun h=>(by cases h),fun _=>rfl⟩ (by dsimp only;omega) (hG:=by exact Hle.refl _)
 ·have hk1:k=1:=by simp at h;omega
  subst hk1
  obtain rfl:=hq1 rfl
  repeat' (first|refine d1 ?_|(show ∀ _:Nat,T _ _ _ _ _;intro _))
  exact T_fallV _ rfl (Hle.refl _) ⟨(A,c),rfl,rfl⟩
theorem marked_spec (b0:Nat) (s:ByteArray) (w:World) (hb:NodR w b0 s) (hfs:FormS w) (hss:s.size≤1000) (hs0:s.size≠0) :
  Spec Tryz.prog 74 [.slice (some ⟨b0,0,none⟩) 1 1] w (fun v R=>v = .string s∧R=[]):=by
 refine spec_of sg Tryz.func74 rfl rfl rfl ?_
 repeat' (first|refine d1 ?_|(show ∀ _:Nat,T _ _ _ _ _;intro _))
 rename_i b3 b4
 refine T_nilrow 5 1 ?_
 refine T_le (H':=bldM b3 none none 0 [] [blk b4 [.func (.func 115) #[] #[.pointer (some ⟨b3,0,none⟩), .pointer (some ⟨b4,0,none⟩)]] 178]) (hle_pm [2,0,1] [_,_,_] []) ?_
 refine T_op (OpT.callB rfl rfl rfl rfl rfl (markedW_spec b0 b3 b4 s hb hfs hss _) ?_)
 rintro u R ⟨⟨A1,c1⟩,rfl,rfl⟩
 repeat' (first|refine d1 ?_|(show ∀ _:Nat,T _ _ _ _ _;intro _))
 refine T_op (OpT.callB rfl rfl rfl rfl rfl (stringM_spec _ b3 _ A1 c1 s.data.toList (fun h=>hs0 (by rw [← size_list,h];rfl)) _) ?_)
 rintro u R ⟨rfl,rfl⟩
 repeat' (first|refine d1 ?_|(show ∀ _:Nat,T _ _ _ _ _;intro _)|(show T _ (.code .ret::_) _ _ _;refine T_retV [] rfl (Hle.none _) ⟨rfl,rfl⟩))
end Go.Proofs.YtbfcfpmholkmeaaGreatDoor
namespace Go.Proofs.YtbfcfpmholkmeaaGreatDoor
open Go.RowKit Go.Shelf Go.Proofs
set_option maxRecDepth 100000
set_option maxHeartbeats 4000000

theorem spend_spec (w0:World) (p:Nat) (n:Int) (hn:0≤n∧n≤100000) (K:List HA) :
  SpecB Tryz.prog 71 [.pointer (some ⟨p,0,none⟩)] w0 (blk p [.int .i64 n] 3::K) (fun v R=>v = .bool (decide (0≤n - 1))∧R=blk p [.int .i64 (n - 1)] 3::K):=by
 refine specB_of sg Tryz.func71 rfl rfl rfl ?_
 repeat' (first|refine d1 ?_|(show ∀ _:Nat,T _ _ _ _ _;intro _)|(show T _ (.code .ret::_) _ _ _;refine T_retV _ rfl (Hle.refl _) ⟨rfl,rfl⟩))
theorem checkT_spec (b0:Nat) (s:ByteArray) (w:World) (hb:NodR w b0 s) (hfs:FormS w) (hss:s.size≤1000) (hs0:s.size≠0) (hc:checkS s=0) :
  Spec Tryz.prog 43 [.slice (some ⟨b0,0,none⟩) 1 1] w (fun v R=>v = .int .i64 0∧R=[]):=by
 refine spec_of sg Tryz.func43 rfl rfl rfl ?_
 repeat' (first|refine d1 ?_|(show ∀ _:Nat,T _ _ _ _ _;intro _))
 rename_i b2 b3 b4
 refine T_op (OpT.call rfl rfl rfl rfl rfl (fun w hw=>nodesP_spec b0 w) ?_)
 rintro u R ⟨y1,-,rfl,rfl⟩
 repeat' (first|refine d1 ?_|(show ∀ _:Nat,T _ _ _ _ _;intro _))
 refine T_le (H':=[blk y1 [.slice (some ⟨b0,0,none⟩) 1 1] 54,blk b4 [.func (.func 71) #[] #[.pointer (some ⟨b3,0,none⟩)]] 25,blk b3 [.int .i64 4096] 3,blk b2 [.int .i64 0] 31]) (Hle.refl _) ?_
 refine T_rangeO (nodesP_iter hb y1) rfl (fun j x B hj hQ=>by obtain⟨rfl,rfl⟩:=hQ;exact⟨rfl,rfl⟩)
  (fun j H=>H=[blk b4 [.func (.func 71) #[] #[.pointer (some ⟨b3,0,none⟩)]] 25,blk b3 [.int .i64 (4096 - (j:Int))] 3,blk b2 [.int .i64 0] 31]) (fun H=>False) (fun _ _=>False)
  [blk b4 [.func (.func 71) #[] #[.pointer (some ⟨b3,0,none⟩)]] 25,blk b3 [.int .i64 4096] 3,blk b2 [.int .i64 0] 31] rfl (Hle.refl _) ?_ ?_ (fun _ _ h=>h.elim) (fun _ _ _ h=>h.elim)
 ·rintro Lp r5 j x B Hj K2 hr5 hj ⟨rfl,rfl⟩ rfl
  obtain rfl:j=0:=by omega
  show T _ _ ((11, .agg (plcT s).toArray)::_) _ (lrec Lp r5::blk b4 [.func (.func 71) #[] #[.pointer (some ⟨b3,0,none⟩)]] 25::blk b3 [.int .i64 4096] 3::blk b2 [.int .i64 0] 31::K2)
  repeat' (first|refine d1 ?_|(show ∀ _:Nat,T _ _ _ _ _;intro _))
  rename_i b5
  refine T_le (H':=lrec Lp r5::blk b3 [.int .i64 4096] 3::blk b5 (plcT s) 131::blk b4 [.func (.func 71) #[] #[.pointer (some ⟨b3,0,none⟩)]] 25::blk b2 [.int .i64 0] 31::K2) (hle_pm [1,3,0,2,4] [_,_,_,_,_] K2) ?_
  refine T_begin hr5 rfl ?_
  repeat' (first|refine d1 ?_|(show ∀ _:Nat,T _ _ _ _ _;intro _))
  refine T_le (H':=blk b3 [.int .i64 4096] 3::lrec Lp (busy r5)::blk b5 (plcT s) 131::blk b4 [.func (.func 71) #[] #[.pointer (some ⟨b3,0,none⟩)]] 25::blk b2 [.int .i64 0] 31::K2) (hle_pm [1,0,2,3,4] [_,_,_,_,_] K2) ?_
  refine T_op (OpT.callB rfl rfl rfl rfl rfl (spend_spec _ b3 4096 (by omega) _) ?_)
  rintro u R ⟨rfl,rfl⟩
  repeat' (first|refine d1 ?_|(show ∀ _:Nat,T _ _ _ _ _;intro _))
  refine T_no rfl ?_
  repeat' (first|refine d1 ?_|(show ∀ _:Nat,T _ _ _ _ _;intro _))
  exact T_next _ rfl (hle_pm [1,3,0,4] [_,_,_,_,_] K2)
 ·rintro D Hn rfl
  show T _ _ _ _ (dfr D::blk y1 [.slice (some ⟨b0,0,none⟩) 1 1] 54::blk b4 [.func (.func 71) #[] #[.pointer (some ⟨b3,0,none⟩)]] 25::blk b3 [.int .i64 4095] 3::blk b2 [.int .i64 0] 31::[])
  refine T_le (H':=[dfr D,blk b2 [.int .i64 0] 31]) (hle_pm [0,4] [_,_,_,_,_] []) ?_
  repeat' (first|refine d1 ?_|(show ∀ _:Nat,T _ _ _ _ _;intro _))
  refine T_op (OpT.call rfl rfl rfl rfl rfl (fun w hw=>nodesP_spec b0 w) ?_)
  rintro u R ⟨y2,-,rfl,rfl⟩
  repeat' (first|refine d1 ?_|(show ∀ _:Nat,T _ _ _ _ _;intro _))
  refine T_le (H':=[blk y2 [.slice (some ⟨b0,0,none⟩) 1 1] 54,dfr D,blk b2 [.int .i64 0] 31]) (Hle.refl _) ?_
  refine T_rangeO (nodesP_iter hb y2) rfl (fun j x B hj hQ=>by obtain⟨rfl,rfl⟩:=hQ;exact⟨rfl,rfl⟩)
   (fun j H=>H=[dfr D,blk b2 [.int .i64 0] 31]) (fun H=>False) (fun _ _=>False)
   [dfr D,blk b2 [.int .i64 0] 31] rfl (Hle.refl _) ?_ ?_ (fun _ _ h=>h.elim) (fun _ _ _ h=>h.elim)
  ·rintro Lp r5 j x B Hj K2 hr5 hj ⟨rfl,rfl⟩ rfl
   show T _ _ ((29, .agg (plcT s).toArray)::_) _ (lrec Lp r5::dfr D::blk b2 [.int .i64 0] 31::K2)
   repeat' (first|refine d1 ?_|(show ∀ _:Nat,T _ _ _ _ _;intro _))
   rename_i b5
   refine T_le (H':=lrec Lp r5::blk b5 (plcT s) 131::dfr D::blk b2 [.int .i64 0] 31::K2) (hle_pm [1,0,2,3] [_,_,_,_] K2) ?_
   refine T_begin hr5 rfl ?_
   repeat' (first|refine d1 ?_|(show T _ (.ops _ (_::_)::_) _ _ _;first|refine T_call rfl rfl rfl rfl rfl (fun w hw=>rightT_spec s w (hfs.cls ‹_›) hs0 hc) ?_|refine T_callC rfl rfl rfl rfl rfl rfl rfl (fun hg w hw=>rightT_spec s w (hfs.cls ‹_›) hs0 hc) ?_)|(show T _ (.run _ _ (_::_) _ _::_) _ _ _;first|refine rc rfl rfl rfl rfl rfl rfl rfl (fun w hw=>rightT_spec s w (hfs.cls ‹_›) hs0 hc) ?_|refine rcG rfl rfl rfl rfl rfl rfl rfl rfl rfl (fun hg w hw=>rightT_spec s w (hfs.cls ‹_›) hs0 hc) ?_)|(show ∀ _:Nat,T _ _ _ _ _;intro _))
   refine T_no rfl ?_
   repeat' (first|refine d1 ?_|(show ∀ _:Nat,T _ _ _ _ _;intro _))
   exact T_next _ rfl (hle_pm [0,2,3] [_,_,_,_] K2)
  ·rintro D2 Hn rfl
   show T _ _ _ _ (dfr D2::blk y2 [.slice (some ⟨b0,0,none⟩) 1 1] 54::dfr D::blk b2 [.int .i64 0] 31::[])
   repeat' (first|refine d1 ?_|(show T _ (.ops _ (_::_)::_) _ _ _;first|refine T_call rfl rfl rfl rfl rfl (fun w hw=>marked_spec b0 s w (hb.cls ‹_›) (hfs.cls ‹_›) hss hs0) ?_|refine T_callC rfl rfl rfl rfl rfl rfl rfl (fun hg w hw=>marked_spec b0 s w (hb.cls ‹_›) (hfs.cls ‹_›) hss hs0) ?_)|(show T _ (.run _ _ (_::_) _ _::_) _ _ _;first|refine rc rfl rfl rfl rfl rfl rfl rfl (fun w hw=>marked_spec b0 s w (hb.cls ‹_›) (hfs.cls ‹_›) hss hs0) ?_|refine rcG rfl rfl rfl rfl rfl rfl rfl rfl rfl (fun hg w hw=>marked_spec b0 s w (hb.cls ‹_›) (hfs.cls ‹_›) hss hs0) ?_)|(show ∀ _:Nat,T _ _ _ _ _;intro _))
   refine T_if rfl (fun h9=>by exfalso;simp only [decide_eq_true_eq] at h9;omega) (fun _=>?_)
   repeat' (first|refine d1 ?_|(show ∀ _:Nat,T _ _ _ _ _;intro _))
   exact T_retDs (Dl:=[D2,D]) [blk b2 [.int .i64 0] 31] (hle_pm [3,0,2] [_,_,_,_] []) (rf_M (ds:=[]) (vs:=[.int .i64 0]) [] ⟨⟨b2,_,[.int .i64 0],rfl,rfl,rfl,rfl,fun _=>rfl,rfl,rdOwn1 rfl⟩,trivial⟩ (Hle.none _) ⟨rfl,rfl⟩)
theorem countT_spec (b0:Nat) (s:ByteArray) (k:Int) (hk:2≤k∧k≤11) (w:World) (hb:NodR w b0 s) (hfs:FormS w) (hss:s.size≤1000) (hs0:s.size≠0) (hc:checkS s=0) :
  Spec Tryz.prog 44 [.slice (some ⟨b0,0,none⟩) 1 1, .int .i64 k] w (fun v R=>v = .tuple #[.int .i64 0, .int .i64 0]∧R=[]):=by
 refine spec_of sg Tryz.func44 rfl rfl rfl ?_
 repeat' (first|(show T _ (.ops _ (⟨_, .box _ _,_,_,_,_⟩::_)::_) _ _ _;refine T_op (OpT.box (cs:=[.int .i64 k]) rfl rfl rfl rfl rfl rfl rfl (fun _=>?_)))|refine d1 ?_|(show T _ (.ops _ (_::_)::_) _ _ _;first|refine T_call rfl rfl rfl rfl rfl (fun w hw=>checkT_spec b0 s w (hb.cls ‹_›) (hfs.cls ‹_›) hss hs0 hc) ?_|refine T_callC rfl rfl rfl rfl rfl rfl rfl (fun hg w hw=>checkT_spec b0 s w (hb.cls ‹_›) (hfs.cls ‹_›) hss hs0 hc) ?_)|(show T _ (.run _ _ (_::_) _ _::_) _ _ _;first|refine rc rfl rfl rfl rfl rfl rfl rfl (fun w hw=>checkT_spec b0 s w (hb.cls ‹_›) (hfs.cls ‹_›) hss hs0 hc) ?_|refine rcG rfl rfl rfl rfl rfl rfl rfl rfl rfl (fun hg w hw=>checkT_spec b0 s w (hb.cls ‹_›) (hfs.cls ‹_›) hss hs0 hc) ?_)|(show ∀ _:Nat,T _ _ _ _ _;intro _))
 rename_i b3
 refine T_no rfl ?_
 repeat' (first|refine d1 ?_|(show ∀ _:Nat,T _ _ _ _ _;intro _))
 refine T_if rfl (fun h9=>by exfalso;simp only [Bool.or_eq_true,decide_eq_true_eq] at h9;omega) (fun _=>?_)
 repeat' (first|refine d1 ?_|(show ∀ _:Nat,T _ _ _ _ _;intro _))
 rename_i b6
 refine T_op (OpT.call rfl rfl rfl rfl rfl (fun w hw=>nodesP_spec b0 w) ?_)
 rintro u R ⟨y1,-,rfl,rfl⟩
 repeat' (first|refine d1 ?_|(show ∀ _:Nat,T _ _ _ _ _;intro _))
 refine T_le (H':=[blk y1 [.slice (some ⟨b0,0,none⟩) 1 1] 54,blk b6 [.int .i64 0] 3,blk b3 [.int .i64 k] 3]) (Hle.refl _) ?_
 refine T_rangeO (nodesP_iter hb y1) rfl (fun j x B hj hQ=>by obtain⟨rfl,rfl⟩:=hQ;exact⟨rfl,rfl⟩)
  (fun j H=>H=[blk b6 [.int .i64 0] 3,blk b3 [.int .i64 k] 3]) (fun H=>False) (fun _ _=>False)
  [blk b6 [.int .i64 0] 3,blk b3 [.int .i64 k] 3] rfl (Hle.refl _) ?_ ?_ (fun _ _ h=>h.elim) (fun _ _ _ h=>h.elim)
 ·rintro Lp r5 j x B Hj K2 hr5 hj ⟨rfl,rfl⟩ rfl
  show T _ _ ((19, .agg (plcT s).toArray)::_) _ (lrec Lp r5::blk b6 [.int .i64 0] 3::blk b3 [.int .i64 k] 3::K2)
  repeat' (first|refine d1 ?_|(show ∀ _:Nat,T _ _ _ _ _;intro _))
  rename_i b5
  refine T_le (H':=lrec Lp r5::blk b5 (plcT s) 131::blk b6 [.int .i64 0] 3::blk b3 [.int .i64 k] 3::K2) (hle_pm [1,0,2,3] [_,_,_,_] K2) ?_
  refine T_begin hr5 rfl ?_
  repeat' (first|refine d1 ?_|(show ∀ _:Nat,T _ _ _ _ _;intro _))
  refine T_if rfl (fun h9=>by exfalso;simp only [decide_eq_true_eq] at h9;omega) (fun _=>?_)
  repeat' (first|refine d1 ?_|(show ∀ _:Nat,T _ _ _ _ _;intro _))
  exact T_next _ rfl (hle_pm [0,2,3] [_,_,_,_] K2)
 ·rintro D Hn rfl
  show T _ _ _ _ (dfr D::blk y1 [.slice (some ⟨b0,0,none⟩) 1 1] 54::blk b6 [.int .i64 0] 3::blk b3 [.int .i64 k] 3::[])
  repeat' (first|refine d1 ?_|(show ∀ _:Nat,T _ _ _ _ _;intro _))
  exact T_retDs (Dl:=[D]) [] (hle_pm [0] [_,_,_,_] []) (rf_V (vs:=[.int .i64 0, .int .i64 0]) [] rfl (Hle.none _) ⟨rfl,rfl⟩)
end Go.Proofs.YtbfcfpmholkmeaaGreatDoor
namespace Go.Proofs.YtbfcfpmholkmeaaGreatDoor
open Go.RowKit Go.Shelf Go.Proofs
set_option maxRecDepth 100000
set_option maxHeartbeats 4000000

def atmT (c:UInt8):List Value:=[.int .i64 1, .int .u8 ((c.toNat:Nat):Int), .int .i64 0, .string ByteArray.empty, .int .i64 0, .bool false, .string ByteArray.empty]
abbrev stH (b:Nat) (A:Option Addr) (n cap:Nat) (q Ab:Option Addr) (cb:Nat) (bs:List UInt8) (op f3 f4:Bool) (ts:List Tok) (K:List HA):List HA :=
 bldE b (.slice A n cap) (.bool op) (.bool f3) (.bool f4) q Ab cb bs (row 38 6 A cap n (ts.flatMap Tok.cells)::K)
theorem lastT_spec (b g n cap:Nat) (w:World) (hn:0<n) (hb:n≤1000000) (h:RdC w b 0 [.slice (some ⟨g,0,none⟩) n cap]):Spec Tryz.prog 79 [.pointer (some ⟨b,0,none⟩)] w (fun v R=>v = .pointer (some ⟨g,0+(((n:Nat):Int) - 1).toNat * 6,none⟩)∧R=[]):=by
 refine spec_of sg Tryz.func79 rfl rfl rfl ?_
 repeat' (first|refine d1 ?_|refine dd ?_|(show T _ (.ops _ (_::_)::_) _ _ _;first|refine T_val rfl (Val.nilc rfl) rfl rfl rfl ?_|refine T_valC rfl (Val.nilc rfl) rfl rfl rfl rfl rfl ?_|refine T_val rfl (Val.load rfl (fun hg=>rdOld h)) rfl rfl rfl ?_|refine T_valC rfl (Val.load rfl (fun hg=>rdOld h)) rfl rfl rfl rfl rfl ?_)|(show T _ (.run _ _ (_::_) _ _::_) _ _ _;first|refine rv rfl rfl rfl (Val.nilc rfl) rfl rfl rfl ?_|refine rg rfl rfl rfl (Val.nilc rfl) rfl rfl rfl rfl rfl ?_|refine rv rfl rfl rfl (Val.load rfl (fun hg=>rdOld h)) rfl rfl rfl ?_|refine rg rfl rfl rfl (Val.load rfl (fun hg=>rdOld h)) rfl rfl rfl rfl rfl ?_)|(show ∀ _:Nat,T _ _ _ _ _;intro _)|(show T _ (.code .ret::_) _ _ _;refine T_retV [] rfl (Hle.none _) ⟨rfl,rfl⟩))
theorem startT_spec (w0:World) (b:Nat) (A:Option Addr) (n cap:Nat) (q Ab:Option Addr) (cb:Nat) (bs:List UInt8) (op:Bool) (ts:List Tok) (c:UInt8) (K:List HA) (hl:ts.length=n) (hb:n≤1000) :
  SpecB Tryz.prog 78 [.pointer (some ⟨b,0,none⟩), .agg (atmT c).toArray, .int .i64 0] w0 (stH b A n cap q Ab cb bs op false false ts K)
   (fun v R=>∃ x:Option Addr × Nat,v = .tuple #[]∧R=stH b x.1 (n+1) x.2 q Ab cb bs op true false (ts++[noTok]) K):=by
 refine specB_of sg Tryz.func78 rfl rfl rfl ?_
 repeat' (first|(show T _ (.ops _ (⟨_, .box _ _,_,_,_,_⟩::_)::_) _ _ _;refine T_op (OpT.box (cs:=atmT c) rfl rfl rfl rfl rfl rfl rfl (fun _=>?_)))|refine d1 ?_|(show T _ (.ops _ (_::_)::_) _ _ _;first|refine T_val rfl (Val.nilc rfl) rfl rfl rfl ?_|refine T_valC rfl (Val.nilc rfl) rfl rfl rfl rfl rfl ?_)|(show T _ (.run _ _ (_::_) _ _::_) _ _ _;first|refine rv rfl rfl rfl (Val.nilc rfl) rfl rfl rfl ?_|refine rg rfl rfl rfl (Val.nilc rfl) rfl rfl rfl rfl rfl ?_)|(show ∀ _:Nat,T _ _ _ _ _;intro _))
 rename_i b4
 refine T_no rfl ?_
 repeat' (first|refine d1 ?_|(show T _ (.ops _ (_::_)::_) _ _ _;first|refine T_val rfl (Val.nilc rfl) rfl rfl rfl ?_|refine T_valC rfl (Val.nilc rfl) rfl rfl rfl rfl rfl ?_)|(show T _ (.run _ _ (_::_) _ _::_) _ _ _;first|refine rv rfl rfl rfl (Val.nilc rfl) rfl rfl rfl ?_|refine rg rfl rfl rfl (Val.nilc rfl) rfl rfl rfl rfl rfl ?_)|(show ∀ _:Nat,T _ _ _ _ _;intro _))
 refine T_no rfl ?_
 refine T_le (H':=blk b4 (atmT c) 97::stH b A n cap q Ab cb bs op false false ts K) (Hle.refl _) ?_
 have hfl:(ts++[noTok]).flatMap Tok.cells=ts.flatMap Tok.cells++noTok.cells:=by rw [List.flatMap_append];rfl
 refine T_cutX 1 [] (fun x:Option Addr × Nat=>[]) (fun x=>stH b x.1 (n+1) x.2 q Ab cb bs op false false (ts++[noTok]) K) (fun _=>True) ?_ ?_
 ·refine dw0 15 [blk b4 (atmT c) 97,blk b [.slice A n cap, .pointer q, .slice Ab bs.length cb, .bool op, .bool false, .bool false] 92] ?_
  repeat' (first|(show T _ (.draw _ _ _ _ _::_) _ _ _;first|refine dw1 ?_|refine dwv rfl (by decide +kernel) rfl rfl (Val.nilc rfl) rfl rfl rfl ?_|refine dwg rfl (by decide +kernel) rfl rfl (Val.nilc rfl) rfl rfl rfl rfl rfl ?_|refine dwv rfl (by decide +kernel) rfl rfl (Val.loadA (vs:=[.string ByteArray.empty, .int .i64 0]) rfl (fun _=>rdOwn (vs:=[.string ByteArray.empty, .int .i64 0]) (fun j u hu=>by rcases j with _|_|j <;> first|exact hu|(simp at hu))) rfl) rfl rfl rfl ?_|refine dwg rfl (by decide +kernel) rfl rfl (Val.loadA (vs:=[.string ByteArray.empty, .int .i64 0]) rfl (fun _=>rdOwn (vs:=[.string ByteArray.empty, .int .i64 0]) (fun j u hu=>by rcases j with _|_|j <;> first|exact hu|(simp at hu))) rfl) rfl rfl rfl rfl rfl ?_|refine dwb rfl (by decide +kernel) ?_)|(show AllL _ [];exact True.intro)|(show AllL _ (_::_);refine ⟨?_,?_⟩)|(show OpT _ _ _ _ _ _ _;first|refine dwx ?_|refine OpT.ofVal rfl (Val.nilc rfl) rfl rfl rfl ⟨fun _=>(by first|exact Hle.none _|exact Hle.sub|exact absurd ‹_› (by decide +kernel)),?_⟩|refine OpT.ofVal rfl (Val.loadA (vs:=[.string ByteArray.empty, .int .i64 0]) rfl (fun _=>rdOwn (vs:=[.string ByteArray.empty, .int .i64 0]) (fun j u hu=>by rcases j with _|_|j <;> first|exact hu|(simp at hu))) rfl) rfl rfl rfl ⟨fun _=>(by first|exact Hle.none _|exact Hle.sub|exact absurd ‹_› (by decide +kernel)),?_⟩|refine OpT.litW rfl rfl rfl rfl rfl rfl rfl rfl rfl rfl rfl (fun b3=>⟨fun _=>(by first|exact Hle.none _|exact Hle.sub|exact absurd ‹_› (by decide +kernel)),?_⟩)|refine OpT.append (A:=A) rfl rfl rfl rfl rfl rfl rfl rfl rfl rfl (fun w hw=>Src.own hw rfl) rfl (by dsimp only;omega) (by omega) (fun A' cap' hA'=>⟨fun _=>(by first|exact Hle.none _|exact Hle.sub|exact absurd ‹_› (by decide +kernel)),?_⟩)|refine OpT.store rfl rfl rfl rfl (Nat.le_of_ble_eq_true rfl) ⟨fun _=>(by first|exact Hle.none _|exact Hle.sub|exact absurd ‹_› (by decide +kernel)),?_⟩)|(show ∀ _:Nat,T _ _ _ _ _;intro _)|(show T _ (.mark _::_) _ _ _;exact T_meetX (A',cap') trivial (hG:=(Hle.tail _ _).trans ((Hle.tail _ _).trans (by show Hle _ (stH b A' (n+1) cap' q Ab cb bs op false false (ts++[noTok]) K);unfold stH;rw [hfl];exact Hle.refl _)))))
 rintro⟨A1,c1⟩ -
 repeat' (first|refine d1 ?_|(show T _ (.ops _ (_::_)::_) _ _ _;first|refine T_val rfl (Val.nilc rfl) rfl rfl rfl ?_|refine T_valC rfl (Val.nilc rfl) rfl rfl rfl rfl rfl ?_)|(show T _ (.run _ _ (_::_) _ _::_) _ _ _;first|refine rv rfl rfl rfl (Val.nilc rfl) rfl rfl rfl ?_|refine rg rfl rfl rfl (Val.nilc rfl) rfl rfl rfl rfl rfl ?_)|(show ∀ _:Nat,T _ _ _ _ _;intro _))
 exact T_fallV _ rfl (Hle.refl _) ⟨(A1,c1),rfl,rfl⟩
theorem setL_cen {P X R T:List Value} {p:Nat} (hp:P.length=p) (hx:X.length=T.length):setL (P++(X++R)) p T=P++(T++R):=by
 subst hp
 rw [setL_eq _ _ _ (by simp [hx]),List.take_left]
 congr 2
 rw [← List.drop_drop,List.drop_left, ← hx,List.drop_left]
theorem flatL_len (d:List Tok):(d.flatMap Tok.cells).length=d.length * 6:=flat_len Tok.cells 6 (fun _=>rfl) d
theorem setL_text (d:List Tok) (z:ByteArray) (o:Nat) (ho:o=d.length * 6):setL ((d++[noTok]).flatMap Tok.cells) o [.string z]=(d++[{ noTok with text:=z }]).flatMap Tok.cells:=by
 rw [List.flatMap_append,List.flatMap_append]
 exact setL_cen (P:=d.flatMap Tok.cells) (X:=[.string ByteArray.empty]) (R:=[.string ByteArray.empty, .string ByteArray.empty, .int .i64 0, .int .i64 0, .string ByteArray.empty]) ((flatL_len d).trans ho.symm) rfl
theorem setL_flag (d:List Tok) (o:Nat) (ho:o=d.length * 6+4):setL ((d++[noTok]).flatMap Tok.cells) o [.int .i64 0]=(d++[noTok]).flatMap Tok.cells:=by
 rw [List.flatMap_append]
 have h9:=setL_cen (P:=d.flatMap Tok.cells++[.string ByteArray.empty, .string ByteArray.empty, .string ByteArray.empty, .int .i64 0]) (X:=[.int .i64 0]) (T:=[.int .i64 0]) (R:=[.string ByteArray.empty]) (p:=o) (by rw [List.length_append,flatL_len,ho];rfl) rfl
 rw [List.append_assoc] at h9
 exact h9
theorem endT_spec (w0:World) (b:Nat) (A:Option Addr) (n cap:Nat) (q Ab:Option Addr) (cb:Nat) (bs:List UInt8) (op:Bool) (d:List Tok) (K:List HA) (hb:n≤1000) (h1:op=true→bs≠[]∧n=d.length+1) :
  SpecB Tryz.prog 47 [.pointer (some ⟨b,0,none⟩)] w0 (stH b A n cap q Ab cb bs op op false (if op then d++[noTok] else d) K)
   (fun v R=>v = .tuple #[]∧R=stH b A n cap none none 0 [] false op false (if op then d++[{ noTok with text:=⟨bs.toArray⟩ }] else d) K):=by
 refine specB_of sg Tryz.func47 rfl rfl rfl ?_
 cases op with
 | false =>
  rw [if_neg (by simp),if_neg (by simp)]
  repeat' (first|refine d1 ?_|(show T _ (.ops _ (_::_)::_) _ _ _;first|refine T_val rfl (Val.nilc rfl) rfl rfl rfl ?_|refine T_valC rfl (Val.nilc rfl) rfl rfl rfl rfl rfl ?_)|(show T _ (.run _ _ (_::_) _ _::_) _ _ _;first|refine rv rfl rfl rfl (Val.nilc rfl) rfl rfl rfl ?_|refine rg rfl rfl rfl (Val.nilc rfl) rfl rfl rfl rfl rfl ?_)|(show ∀ _:Nat,T _ _ _ _ _;intro _))
  refine T_no rfl ?_
  repeat' (first|refine d1 ?_|(show T _ (.ops _ (_::_)::_) _ _ _;first|refine T_val rfl (Val.nilc rfl) rfl rfl rfl ?_|refine T_valC rfl (Val.nilc rfl) rfl rfl rfl rfl rfl ?_)|(show T _ (.run _ _ (_::_) _ _::_) _ _ _;first|refine rv rfl rfl rfl (Val.nilc rfl) rfl rfl rfl ?_|refine rg rfl rfl rfl (Val.nilc rfl) rfl rfl rfl rfl rfl ?_)|(show ∀ _:Nat,T _ _ _ _ _;intro _))
  refine T_op (OpT.callB rfl rfl rfl rfl rfl (resetE_spec _ b (.slice A n cap) (.bool false) (.bool false) (.bool false) q Ab bs.length cb _) ?_)
  rintro u R ⟨rfl,rfl⟩
  refine T_nilrow 5 1 ?_
  repeat' (first|refine d1 ?_|(show ∀ _:Nat,T _ _ _ _ _;intro _))
  exact T_fallV _ rfl (hle_pm [1,0,3] [_,_,_,_] K) ⟨rfl,rfl⟩
 | true =>
  obtain⟨hbs,hn⟩:=h1 rfl
  rw [if_pos rfl,if_pos rfl]
  refine T_rowpos (A:=A) (by omega) fun g e=>?_
  subst e
  repeat' (first|refine d1 ?_|(show T _ (.ops _ (_::_)::_) _ _ _;first|refine T_val rfl (Val.nilc rfl) rfl rfl rfl ?_|refine T_valC rfl (Val.nilc rfl) rfl rfl rfl rfl rfl ?_)|(show T _ (.run _ _ (_::_) _ _::_) _ _ _;first|refine rv rfl rfl rfl (Val.nilc rfl) rfl rfl rfl ?_|refine rg rfl rfl rfl (Val.nilc rfl) rfl rfl rfl rfl rfl ?_)|(show ∀ _:Nat,T _ _ _ _ _;intro _))
  refine T_yes rfl ?_
  refine T_cutX 1 [] (fun _:Unit=>[]) (fun _=>blk b [.slice (some ⟨g,0,none⟩) n cap, .pointer q, .slice Ab bs.length cb, .bool true, .bool true, .bool false] 92::row 38 6 (some ⟨g,0,none⟩) cap n ((d++[{ noTok with text:=⟨bs.toArray⟩ }]).flatMap Tok.cells)::K) (fun _=>True) ?_ ?_
  ·have hfin:setL ((d++[noTok]).flatMap Tok.cells) (0+(((n:Nat):Int) - 1).toNat * 6+0) [.string ⟨bs.toArray⟩]=(d++[{ noTok with text:=⟨bs.toArray⟩ }]).flatMap Tok.cells:=setL_text d _ _ (by omega)
   refine dw0 1000 [] ?_
   repeat' (first|(show T _ (.draw _ _ _ _ _::_) _ _ _;first|refine dw1 ?_|refine dwv rfl (by decide +kernel) rfl rfl (Val.nilc rfl) rfl rfl rfl ?_|refine dwg rfl (by decide +kernel) rfl rfl (Val.nilc rfl) rfl rfl rfl rfl rfl ?_|refine dwb rfl (by decide +kernel) ?_)|(show AllL _ [];exact True.intro)|(show AllL _ (_::_);refine ⟨?_,?_⟩)|(show OpT _ _ _ _ _ _ _;first|refine dwx ?_|refine OpT.ofVal rfl (Val.nilc rfl) rfl rfl rfl ⟨fun _=>(by first|exact Hle.none _|exact Hle.sub|exact absurd ‹_› (by decide +kernel)),?_⟩|refine OpT.callV rfl rfl rfl rfl rfl (fun w hw=>lastT_spec b g n cap w (by omega) (by omega) (RdC.own (i:=0) ‹_› rfl (fun j u hu=>by cases j with|zero=>exact hu|succ j=>simp at hu))) ⟨fun _=>(by first|exact Hle.none _|exact Hle.sub|exact absurd ‹_› (by decide +kernel)),?_⟩|refine OpT.callC rfl rfl rfl rfl rfl rfl rfl (fun hg w hw=>lastT_spec b g n cap w (by omega) (by omega) (RdC.own (i:=0) ‹_› rfl (fun j u hu=>by cases j with|zero=>exact hu|succ j=>simp at hu))) ⟨fun _=>(by first|exact Hle.none _|exact Hle.sub|exact absurd ‹_› (by decide +kernel)),?_⟩|(refine OpT.callB rfl rfl rfl rfl rfl (stringE_spec _ b (.slice (some ⟨g,0,none⟩) n cap) (.bool true) (.bool true) (.bool false) q Ab cb bs hbs _) ?_;rintro u R ⟨rfl,rfl⟩;refine ⟨fun _=>Hle.none _,?_⟩)|refine OpT.storeR (us:=[.string ⟨bs.toArray⟩]) rfl rfl rfl rfl rfl rfl (by show 0+(((n:Nat):Int) - 1).toNat * 6+0+1≤n * 6;omega) ⟨fun _=>Hle.none _,?_⟩)|(show ∀ _:Nat,T _ _ _ _ _;intro _)|(show T _ (.mark _::_) _ _ _;exact T_meetX () trivial (hG:=by rw [← hfin];exact Hle.refl _)))
  rintro - -
  repeat' (first|refine d1 ?_|(show T _ (.ops _ (_::_)::_) _ _ _;first|refine T_val rfl (Val.nilc rfl) rfl rfl rfl ?_|refine T_valC rfl (Val.nilc rfl) rfl rfl rfl rfl rfl ?_)|(show T _ (.run _ _ (_::_) _ _::_) _ _ _;first|refine rv rfl rfl rfl (Val.nilc rfl) rfl rfl rfl ?_|refine rg rfl rfl rfl (Val.nilc rfl) rfl rfl rfl rfl rfl ?_)|(show ∀ _:Nat,T _ _ _ _ _;intro _))
  refine T_op (OpT.callB rfl rfl rfl rfl rfl (resetE_spec _ b (.slice (some ⟨g,0,none⟩) n cap) (.bool false) (.bool true) (.bool false) q Ab bs.length cb _) ?_)
  rintro u R ⟨rfl,rfl⟩
  refine T_nilrow 5 1 ?_
  repeat' (first|refine d1 ?_|(show ∀ _:Nat,T _ _ _ _ _;intro _))
  exact T_fallV _ rfl (hle_pm [1,0,2] [_,_,_] K) ⟨rfl,rfl⟩
end Go.Proofs.YtbfcfpmholkmeaaGreatDoor
namespace Go.Proofs.YtbfcfpmholkmeaaGreatDoor
open Go.RowKit Go.Shelf Go.Proofs
set_option maxRecDepth 100000
set_option maxHeartbeats 4000000

theorem SpecB.mono {P:Program} {f:FuncId} {args:List Value} {w0:World} {H:List HA} {Φ Ψ:Value→List HA→Prop} (h:SpecB P f args w0 H Φ) (hm:∀ v A,Φ v A→Ψ v A):SpecB P f args w0 H Ψ :=
 ⟨h.enters,fun w hw=>Calls.mono (h.calls w hw) fun e w' ⟨v,A,h1,h2,h3⟩=>⟨v,A,h1,hm v A h2,h3⟩⟩
theorem u8_bd (c:UInt8):0≤((c.toNat:Nat):Int)∧((c.toNat:Nat):Int)≤255:=by have:=c.toNat_lt;omega
theorem innerT_spec {c:UInt8} {k:Int} (h:kindB c=k) (w:World):Spec Tryz.prog 69 [.int .u8 ((c.toNat:Nat):Int)] w (fun v A=>v = .bool (wordlyK k)∧A=[]):=by
 have h9:=innerPrg_spec ((c.toNat:Nat):Int) (u8_bd c) w
 rw [show kindI ((c.toNat:Nat):Int)=k from h] at h9
 exact h9
theorem beginsT_spec {c:UInt8} {k:Int} (h:kindB c=k) (w:World):Spec Tryz.prog 111 [.int .u8 ((c.toNat:Nat):Int)] w (fun v A=>v = .bool (beginsK k)∧A=[]):=by
 have h9:=beginsPrg_spec ((c.toNat:Nat):Int) (u8_bd c) w
 rw [show kindI ((c.toNat:Nat):Int)=k from h] at h9
 exact h9
theorem kindT_spec {c:UInt8} {k:Int} (h:kindB c=k) (w:World):Spec Tryz.prog 64 [.int .u8 ((c.toNat:Nat):Int)] w (fun v A=>v = .int .i64 k∧A=[]):=by
 have h9:=kindPrg_spec ((c.toNat:Nat):Int) (u8_bd c) w
 rw [show kindI ((c.toNat:Nat):Int)=k from h] at h9
 exact h9
theorem partIn_spec (w0:World) (b:Nat) (A:Option Addr) (n cap:Nat) (q Ab:Option Addr) (cb:Nat) (bs:List UInt8) (d:List Tok) (c:UInt8) (K:List HA) (hq:q=none∨q=some ⟨b,1,none⟩) (hb:n≤1000) (hn:n=d.length+1) (hbl:bs.length≤1000) (hc:kindB c=1) :
  SpecB Tryz.prog 77 [.pointer (some ⟨b,0,none⟩), .agg (atmT c).toArray] w0 (stH b A n cap q Ab cb bs true true false (d++[noTok]) K)
   (fun v R=>∃ x:Option Addr × Nat,v = .tuple #[]∧R=stH b A n cap (some ⟨b,1,none⟩) x.1 x.2 (bs++[c]) true true false (d++[noTok]) K):=by
 refine specB_of sg Tryz.func77 rfl rfl rfl ?_
 refine T_rowpos (A:=A) (by omega) fun g e=>?_
 subst e
 repeat' (first|(show T _ (.ops _ (⟨_, .box _ _,_,_,_,_⟩::_)::_) _ _ _;refine T_op (OpT.box (cs:=atmT c) rfl rfl rfl rfl rfl rfl rfl (fun _=>?_)))|refine d1 ?_|(show ∀ _:Nat,T _ _ _ _ _;intro _))
 rename_i b3
 refine T_le (H':=stH b (some ⟨g,0,none⟩) n cap q Ab cb bs true true false (d++[noTok]) (blk b3 (atmT c) 97::K)) (hle_pm [1,2,3,0] [_,_,_,_] K) ?_
 refine T_no rfl ?_
 repeat' (first|refine d1 ?_|(show T _ (.ops _ (_::_)::_) _ _ _;first|refine T_val rfl (Val.nilc rfl) rfl rfl rfl ?_|refine T_valC rfl (Val.nilc rfl) rfl rfl rfl rfl rfl ?_|refine T_callC rfl rfl rfl rfl rfl rfl rfl (fun _ w hw=>innerT_spec hc w) ?_)|(show T _ (.run _ _ (_::_) _ _::_) _ _ _;first|refine rv rfl rfl rfl (Val.nilc rfl) rfl rfl rfl ?_|refine rg rfl rfl rfl (Val.nilc rfl) rfl rfl rfl rfl rfl ?_)|(show ∀ _:Nat,T _ _ _ _ _;intro _))
 refine T_yes rfl ?_
 have hfin:setL ((d++[noTok]).flatMap Tok.cells) (0+(((n:Nat):Int) - 1).toNat * 6+4) [.int .i64 0]=(d++[noTok]).flatMap Tok.cells:=setL_flag d _ (by omega)
 have hget:∀ (j:Nat) u,([.int .i64 0]:List Value)[j]?=some u→((d++[noTok]).flatMap Tok.cells)[0+(((n:Nat):Int) - 1).toNat * 6+4+j]?=some u:=fun j u hu=>by
  cases j with
  | succ j=>simp at hu
  | zero =>
   have h9:=flat_getW Tok.cells 6 (fun _=>rfl) (l:=d++[noTok]) (k:=d.length) (x:=noTok) (by rw [List.getElem?_append_right (Nat.le_refl _),Nat.sub_self];rfl) 4 u hu
   rw [show 0+(((n:Nat):Int) - 1).toNat * 6+4+0=d.length * 6+4 by omega]
   exact h9
 repeat' (first|refine d1 ?_|(show T _ (.ops _ (_::_)::_) _ _ _;first|refine T_val rfl (Val.nilc rfl) rfl rfl rfl ?_|refine T_valC rfl (Val.nilc rfl) rfl rfl rfl rfl rfl ?_|refine T_call rfl rfl rfl rfl rfl (fun w hw=>lastT_spec b g n cap w (by omega) (by omega) (RdC.own (i:=0) ‹_› rfl (fun j u hu=>by cases j with|zero=>exact hu|succ j=>simp at hu))) ?_|refine T_callC rfl rfl rfl rfl rfl rfl rfl (fun hg w hw=>lastT_spec b g n cap w (by omega) (by omega) (RdC.own (i:=0) ‹_› rfl (fun j u hu=>by cases j with|zero=>exact hu|succ j=>simp at hu))) ?_|refine T_val rfl (Val.load rfl (fun hg=>rdRow (A:=some ⟨g,0,none⟩) (vs:=[.int .i64 0]) (by omega) hget)) rfl rfl rfl ?_|refine T_valC rfl (Val.load rfl (fun hg=>rdRow (A:=some ⟨g,0,none⟩) (vs:=[.int .i64 0]) (by omega) hget)) rfl rfl rfl rfl rfl ?_)|(show T _ (.run _ _ (_::_) _ _::_) _ _ _;first|refine rv rfl rfl rfl (Val.nilc rfl) rfl rfl rfl ?_|refine rg rfl rfl rfl (Val.nilc rfl) rfl rfl rfl rfl rfl ?_|refine rc rfl rfl rfl rfl rfl rfl rfl (fun w hw=>lastT_spec b g n cap w (by omega) (by omega) (RdC.own (i:=0) ‹_› rfl (fun j u hu=>by cases j with|zero=>exact hu|succ j=>simp at hu))) ?_|refine rcG rfl rfl rfl rfl rfl rfl rfl rfl rfl (fun hg w hw=>lastT_spec b g n cap w (by omega) (by omega) (RdC.own (i:=0) ‹_› rfl (fun j u hu=>by cases j with|zero=>exact hu|succ j=>simp at hu))) ?_|refine rv rfl rfl rfl (Val.load rfl (fun hg=>rdRow (A:=some ⟨g,0,none⟩) (vs:=[.int .i64 0]) (by omega) hget)) rfl rfl rfl ?_|refine rg rfl rfl rfl (Val.load rfl (fun hg=>rdRow (A:=some ⟨g,0,none⟩) (vs:=[.int .i64 0]) (by omega) hget)) rfl rfl rfl rfl rfl ?_)|(show ∀ _:Nat,T _ _ _ _ _;intro _))
 refine T_op (OpT.storeR (us:=[.int .i64 0]) rfl rfl rfl rfl rfl rfl (by show 0+(((n:Nat):Int) - 1).toNat * 6+4+1≤n * 6;omega) ?_)
 rw [hfin]
 repeat' (first|refine d1 ?_|(show ∀ _:Nat,T _ _ _ _ _;intro _))
 refine T_keep [(0, .pointer (some ⟨b,0,none⟩)),(3, .pointer (some ⟨b3,0,none⟩))] ⟨rfl,rfl,trivial⟩ ?_
 refine T_cutX 1 [] (fun x:Option Addr × Nat=>[]) (fun x=>stH b (some ⟨g,0,none⟩) n cap (some ⟨b,1,none⟩) x.1 x.2 (bs++[c]) true true false (d++[noTok]) (blk b3 (atmT c) 97::K)) (fun _=>True) ?_ ?_
 ·refine dw0 1000 [blk b3 (atmT c) 97] ?_
  repeat' (first|(show T _ (.draw _ _ _ _ _::_) _ _ _;first|refine dw1 ?_|refine dwv rfl (by decide +kernel) rfl rfl (Val.nilc rfl) rfl rfl rfl ?_|refine dwg rfl (by decide +kernel) rfl rfl (Val.nilc rfl) rfl rfl rfl rfl rfl ?_|refine dwb rfl (by decide +kernel) ?_)|(show AllL _ [];exact True.intro)|(show AllL _ (_::_);refine ⟨?_,?_⟩)|(show OpT _ _ _ _ _ _ _;first|refine dwx ?_|refine OpT.ofVal rfl (Val.nilc rfl) rfl rfl rfl ⟨fun _=>(by first|exact Hle.none _|exact Hle.sub|exact absurd ‹_› (by decide +kernel)),?_⟩|(refine OpT.callB rfl rfl rfl rfl rfl (writeByteE_spec _ b (.slice (some ⟨g,0,none⟩) n cap) (.bool true) (.bool true) (.bool false) q hq Ab cb bs c (by omega) _) ?_;rintro u R ⟨x9,rfl,rfl⟩;refine ⟨fun _=>(by first|exact Hle.none _|exact Hle.sub|exact absurd ‹_› (by decide +kernel)),?_⟩))|(show ∀ _:Nat,T _ _ _ _ _;intro _)|(show T _ (.mark _::_) _ _ _;exact T_meetX x9 trivial (hG:=Hle.refl _)))
 rintro⟨A9,c9⟩ -
 repeat' (first|refine d1 ?_|(show ∀ _:Nat,T _ _ _ _ _;intro _))
 exact T_fallV _ rfl (hle_pm [0,1,2] [_,_,_,_] K) ⟨(A9,c9),rfl,rfl⟩
theorem partNew_spec (w0:World) (b:Nat) (A:Option Addr) (n cap:Nat) (q Ab:Option Addr) (cb:Nat) (d:List Tok) (c:UInt8) (K:List HA) (hq:q=none∨q=some ⟨b,1,none⟩) (hb:n≤999) (hn:d.length=n) (hc:kindB c=1) :
  SpecB Tryz.prog 77 [.pointer (some ⟨b,0,none⟩), .agg (atmT c).toArray] w0 (stH b A n cap q Ab cb [] false false false d K)
   (fun v R=>∃ (y x:Option Addr × Nat),v = .tuple #[]∧R=stH b y.1 (n+1) y.2 (some ⟨b,1,none⟩) x.1 x.2 [c] true true false (d++[noTok]) K):=by
 refine specB_of sg Tryz.func77 rfl rfl rfl ?_
 repeat' (first|(show T _ (.ops _ (⟨_, .box _ _,_,_,_,_⟩::_)::_) _ _ _;refine T_op (OpT.box (cs:=atmT c) rfl rfl rfl rfl rfl rfl rfl (fun _=>?_)))|refine d1 ?_|(show ∀ _:Nat,T _ _ _ _ _;intro _))
 rename_i b3
 refine T_le (H':=stH b A n cap q Ab cb [] false false false d (blk b3 (atmT c) 97::K)) (hle_pm [1,2,3,0] [_,_,_,_] K) ?_
 refine T_no rfl ?_
 repeat' (first|refine d1 ?_|(show T _ (.ops _ (_::_)::_) _ _ _;first|refine T_val rfl (Val.nilc rfl) rfl rfl rfl ?_|refine T_valC rfl (Val.nilc rfl) rfl rfl rfl rfl rfl ?_|refine T_callC rfl rfl rfl rfl rfl rfl rfl (fun _ w hw=>innerT_spec hc w) ?_)|(show T _ (.run _ _ (_::_) _ _::_) _ _ _;first|refine rv rfl rfl rfl (Val.nilc rfl) rfl rfl rfl ?_|refine rg rfl rfl rfl (Val.nilc rfl) rfl rfl rfl rfl rfl ?_)|(show ∀ _:Nat,T _ _ _ _ _;intro _))
 refine T_no rfl ?_
 repeat' (first|refine d1 ?_|(show T _ (.ops _ (_::_)::_) _ _ _;first|refine T_call rfl rfl rfl rfl rfl (fun w hw=>beginsT_spec hc w) ?_|refine T_callC rfl rfl rfl rfl rfl rfl rfl (fun hg w hw=>beginsT_spec hc w) ?_)|(show T _ (.run _ _ (_::_) _ _::_) _ _ _;first|refine rc rfl rfl rfl rfl rfl rfl rfl (fun w hw=>beginsT_spec hc w) ?_|refine rcG rfl rfl rfl rfl rfl rfl rfl rfl rfl (fun hg w hw=>beginsT_spec hc w) ?_)|(show ∀ _:Nat,T _ _ _ _ _;intro _))
 refine T_yes rfl ?_
 repeat' (first|refine d1 ?_|(show ∀ _:Nat,T _ _ _ _ _;intro _))
 refine T_op (OpT.callB rfl rfl rfl rfl rfl (startT_spec _ b A n cap q Ab cb [] false d c _ hn (by omega)) ?_)
 rintro u R ⟨⟨A2,cap2⟩,rfl,rfl⟩
 repeat' (first|refine d1 ?_|(show T _ (.ops _ (_::_)::_) _ _ _;first|refine T_val rfl (Val.nilc rfl) rfl rfl rfl ?_|refine T_valC rfl (Val.nilc rfl) rfl rfl rfl rfl rfl ?_)|(show T _ (.run _ _ (_::_) _ _::_) _ _ _;first|refine rv rfl rfl rfl (Val.nilc rfl) rfl rfl rfl ?_|refine rg rfl rfl rfl (Val.nilc rfl) rfl rfl rfl rfl rfl ?_)|(show ∀ _:Nat,T _ _ _ _ _;intro _))
 refine T_le (H':=stH b A2 (n+1) cap2 q Ab cb [] true true false (d++[noTok]) (blk b3 (atmT c) 97::K)) (Hle.refl _) ?_
 refine T_keep [(0, .pointer (some ⟨b,0,none⟩)),(3, .pointer (some ⟨b3,0,none⟩))] ⟨rfl,rfl,trivial⟩ ?_
 refine T_cutX 1 [] (fun x:Option Addr × Nat=>[]) (fun x=>stH b A2 (n+1) cap2 (some ⟨b,1,none⟩) x.1 x.2 [c] true true false (d++[noTok]) (blk b3 (atmT c) 97::K)) (fun _=>True) ?_ ?_
 ·refine dw0 1000 [blk b3 (atmT c) 97] ?_
  repeat' (first|(show T _ (.draw _ _ _ _ _::_) _ _ _;first|refine dw1 ?_|refine dwv rfl (by decide +kernel) rfl rfl (Val.nilc rfl) rfl rfl rfl ?_|refine dwg rfl (by decide +kernel) rfl rfl (Val.nilc rfl) rfl rfl rfl rfl rfl ?_|refine dwb rfl (by decide +kernel) ?_)|(show AllL _ [];exact True.intro)|(show AllL _ (_::_);refine ⟨?_,?_⟩)|(show OpT _ _ _ _ _ _ _;first|refine dwx ?_|refine OpT.ofVal rfl (Val.nilc rfl) rfl rfl rfl ⟨fun _=>(by first|exact Hle.none _|exact Hle.sub|exact absurd ‹_› (by decide +kernel)),?_⟩|(refine OpT.callB rfl rfl rfl rfl rfl (writeByteE_spec _ b (.slice A2 (n+1) cap2) (.bool true) (.bool true) (.bool false) q hq Ab cb [] c (by show 0+1≤1000000;omega) _) ?_;rintro u R ⟨x9,rfl,rfl⟩;refine ⟨fun _=>(by first|exact Hle.none _|exact Hle.sub|exact absurd ‹_› (by decide +kernel)),?_⟩))|(show ∀ _:Nat,T _ _ _ _ _;intro _)|(show T _ (.mark _::_) _ _ _;exact T_meetX x9 trivial (hG:=Hle.refl _)))
 rintro⟨A9,c9⟩ -
 repeat' (first|refine d1 ?_|(show ∀ _:Nat,T _ _ _ _ _;intro _))
 exact T_fallV _ rfl (hle_pm [0,1,2] [_,_,_,_] K) ⟨(A2,cap2),(A9,c9),rfl,rfl⟩
theorem partSp_spec (w0:World) (b:Nat) (A:Option Addr) (n cap:Nat) (q Ab:Option Addr) (cb:Nat) (bs:List UInt8) (op:Bool) (d:List Tok) (c:UInt8) (K:List HA) (hb:n≤1000) (h1:op=true→bs≠[]∧n=d.length+1) (hc:kindB c=6) :
  SpecB Tryz.prog 77 [.pointer (some ⟨b,0,none⟩), .agg (atmT c).toArray] w0 (stH b A n cap q Ab cb bs op op false (if op then d++[noTok] else d) K)
   (fun v R=>v = .tuple #[]∧R=stH b A n cap none none 0 [] false false false (if op then d++[{ noTok with text:=⟨bs.toArray⟩ }] else d) K):=by
 refine specB_of sg Tryz.func77 rfl rfl rfl ?_
 repeat' (first|(show T _ (.ops _ (⟨_, .box _ _,_,_,_,_⟩::_)::_) _ _ _;refine T_op (OpT.box (cs:=atmT c) rfl rfl rfl rfl rfl rfl rfl (fun _=>?_)))|refine d1 ?_|(show ∀ _:Nat,T _ _ _ _ _;intro _))
 rename_i b3
 refine T_le (H':=stH b A n cap q Ab cb bs op op false (if op then d++[noTok] else d) (blk b3 (atmT c) 97::K)) (hle_pm [1,2,3,0] [_,_,_,_] K) ?_
 refine T_no rfl ?_
 repeat' (first|refine d1 ?_|(show T _ (.ops _ (_::_)::_) _ _ _;first|refine T_val rfl (Val.nilc rfl) rfl rfl rfl ?_|refine T_valC rfl (Val.nilc rfl) rfl rfl rfl rfl rfl ?_|refine T_callC rfl rfl rfl rfl rfl rfl rfl (fun _ w hw=>innerT_spec hc w) ?_)|(show T _ (.run _ _ (_::_) _ _::_) _ _ _;first|refine rv rfl rfl rfl (Val.nilc rfl) rfl rfl rfl ?_|refine rg rfl rfl rfl (Val.nilc rfl) rfl rfl rfl rfl rfl ?_)|(show ∀ _:Nat,T _ _ _ _ _;intro _))
 refine T_no (congrArg (fun x=>some (Value.bool x)) (show (op && wordlyK 6)=false from Bool.and_false op)) ?_
 repeat' (first|refine d1 ?_|(show T _ (.ops _ (_::_)::_) _ _ _;first|refine T_call rfl rfl rfl rfl rfl (fun w hw=>beginsT_spec hc w) ?_|refine T_callC rfl rfl rfl rfl rfl rfl rfl (fun hg w hw=>beginsT_spec hc w) ?_)|(show T _ (.run _ _ (_::_) _ _::_) _ _ _;first|refine rc rfl rfl rfl rfl rfl rfl rfl (fun w hw=>beginsT_spec hc w) ?_|refine rcG rfl rfl rfl rfl rfl rfl rfl rfl rfl (fun hg w hw=>beginsT_spec hc w) ?_)|(show ∀ _:Nat,T _ _ _ _ _;intro _))
 refine T_no rfl ?_
 repeat' (first|refine d1 ?_|(show T _ (.ops _ (_::_)::_) _ _ _;first|refine T_call rfl rfl rfl rfl rfl (fun w hw=>kindT_spec hc w) ?_|refine T_callC rfl rfl rfl rfl rfl rfl rfl (fun hg w hw=>kindT_spec hc w) ?_)|(show T _ (.run _ _ (_::_) _ _::_) _ _ _;first|refine rc rfl rfl rfl rfl rfl rfl rfl (fun w hw=>kindT_spec hc w) ?_|refine rcG rfl rfl rfl rfl rfl rfl rfl rfl rfl (fun hg w hw=>kindT_spec hc w) ?_)|(show ∀ _:Nat,T _ _ _ _ _;intro _))
 refine T_yes rfl ?_
 repeat' (first|refine d1 ?_|(show ∀ _:Nat,T _ _ _ _ _;intro _))
 refine T_op (OpT.callB rfl rfl rfl rfl rfl (endT_spec _ b A n cap q Ab cb bs op d _ hb h1) ?_)
 rintro u R ⟨rfl,rfl⟩
 repeat' (first|refine d1 ?_|(show T _ (.ops _ (_::_)::_) _ _ _;first|refine T_val rfl (Val.nilc rfl) rfl rfl rfl ?_|refine T_valC rfl (Val.nilc rfl) rfl rfl rfl rfl rfl ?_)|(show T _ (.run _ _ (_::_) _ _::_) _ _ _;first|refine rv rfl rfl rfl (Val.nilc rfl) rfl rfl rfl ?_|refine rg rfl rfl rfl (Val.nilc rfl) rfl rfl rfl rfl rfl ?_)|(show ∀ _:Nat,T _ _ _ _ _;intro _))
 exact T_fallV _ rfl (hle_pm [0,1,2] [_,_,_,_] K) ⟨rfl,rfl⟩
abbrev BSt:=List Tok × Bool × List UInt8
def stepT (s:BSt) (c:UInt8):BSt:=if kindB c=6 then (if s.2.1 then (s.1++[{ noTok with text:=⟨s.2.2.toArray⟩ }],false,[]) else (s.1,false,[])) else (s.1,true,s.2.2++[c])
def okBS (s:BSt):Prop:=s.1.length≤500∧s.2.2.length≤500∧(s.2.1=true→s.2.2≠[])∧(s.2.1=false→s.2.2=[])
def BH (b:Nat) (K:List HA) (s:BSt) (R:List HA):Prop:=∃ (A:Option Addr) (n cap:Nat) (q Ab:Option Addr) (cb:Nat),(q=none∨q=some ⟨b,1,none⟩)∧n=s.1.length+(if s.2.1 then 1 else 0)∧R=stH b A n cap q Ab cb s.2.2 s.2.1 s.2.1 false (if s.2.1 then s.1++[noTok] else s.1) K
theorem partT_spec (w0:World) (b:Nat) (s:BSt) (hs:okBS s) (c:UInt8) (K R0:List HA) (hR:BH b K s R0) (hc:kindB c=1∨kindB c=6) :
  SpecB Tryz.prog 77 [.pointer (some ⟨b,0,none⟩), .agg (atmT c).toArray] w0 R0 (fun v R=>v = .tuple #[]∧BH b K (stepT s c) R):=by
 obtain⟨d,op,bs⟩:=s
 obtain⟨A,n,cap,q,Ab,cb,hq,hn,rfl⟩:=hR
 obtain⟨h1,h2,h3,h4⟩:=hs
 dsimp only at hn h1 h2 h3 h4 ⊢
 rcases hc with hc|hc
 ·have e:stepT (d,op,bs) c=(d,true,bs++[c]):=by unfold stepT;rw [if_neg (by rw [hc];decide)]
  rw [e]
  cases op with
  | true =>
   refine (partIn_spec w0 b A n cap q Ab cb bs d c K hq (by simp at hn;omega) (by simpa using hn) (by omega) hc).mono ?_
   rintro v R ⟨x,rfl,rfl⟩
   exact⟨rfl,A,n,cap,_,x.1,x.2, .inr rfl,hn,rfl⟩
  | false =>
   obtain rfl:=h4 rfl
   have hn0:d.length=n:=by simp at hn;omega
   refine (partNew_spec w0 b A n cap q Ab cb d c K hq (by omega) hn0 hc).mono ?_
   rintro v R ⟨y,x,rfl,rfl⟩
   exact⟨rfl,y.1,n+1,y.2,_,x.1,x.2, .inr rfl,by simp;omega,rfl⟩
 ·have e:stepT (d,op,bs) c=(if op then (d++[{ noTok with text:=⟨bs.toArray⟩ }],false,[]) else (d,false,[])):=by unfold stepT;rw [if_pos hc]
  rw [e]
  refine (partSp_spec w0 b A n cap q Ab cb bs op d c K (by cases op <;> simp at hn <;> omega) (fun h=>⟨h3 h,by subst h;simpa using hn⟩) hc).mono ?_
  rintro v R ⟨rfl,rfl⟩
  cases op with
  | true=>exact⟨rfl,A,n,cap,none,none,0, .inl rfl,by simp at hn ⊢;omega,rfl⟩
  | false=>exact⟨rfl,A,n,cap,none,none,0, .inl rfl,by simpa using hn,rfl⟩
end Go.Proofs.YtbfcfpmholkmeaaGreatDoor
namespace Go.Proofs.YtbfcfpmholkmeaaGreatDoor
open Go.RowKit Go.Shelf Go.Proofs
set_option maxRecDepth 100000
set_option maxHeartbeats 4000000

theorem addT_spec (w0:World) (b:Nat) (s:BSt) (hs:okBS s) (c:UInt8) (K R0:List HA) (hR:BH b K s R0) (hc:kindB c=1∨kindB c=6) :
  SpecB Tryz.prog 46 [.pointer (some ⟨b,0,none⟩), .agg (atmT c).toArray] w0 R0 (fun v R=>v = .tuple #[]∧BH b K (stepT s c) R):=by
 refine specB_of sg Tryz.func46 rfl rfl rfl ?_
 repeat' (first|(show T _ (.ops _ (⟨_, .box _ _,_,_,_,_⟩::_)::_) _ _ _;refine T_op (OpT.box (cs:=atmT c) rfl rfl rfl rfl rfl rfl rfl (fun _=>?_)))|refine d1 ?_|(show ∀ _:Nat,T _ _ _ _ _;intro _))
 refine T_yes rfl ?_
 repeat' (first|refine d1 ?_|(show ∀ _:Nat,T _ _ _ _ _;intro _))
 refine T_le (Hle.tail _ _) ?_
 refine T_op (OpT.callB rfl rfl rfl rfl rfl (partT_spec _ b s hs c K R0 hR hc) ?_)
 rintro u R ⟨rfl,hR2⟩
 repeat' (first|refine d1 ?_|(show ∀ _:Nat,T _ _ _ _ _;intro _))
 exact T_fallV _ rfl (Hle.refl _) ⟨rfl,hR2⟩
def QA (s:ByteArray) (j:Nat) (x:List Value) (B:List HA):Prop:=∃ c,s.data.toList[j]?=some c∧x=[.agg (atmT c).toArray]∧B=[]
def atmX (k:Int) (c:Nat):List Value:=[.int .i64 k, .int .u8 (c:Int), .int .i64 0, .string ByteArray.empty, .int .i64 0, .bool false, .string ByteArray.empty]
theorem atomsW_spec {w0:World} {l b0:Nat} {s:ByteArray} {GQ:Nat→List HA→Prop} {X:List HA→Prop} (hb:NodR w0 b0 s) (hss:s.size≤1000) (hY:YieldsO Tryz.prog w0 l GQ X (QA s) s.size) (t4 t3 t5:Nat) (Hj:List HA) (hG:GQ 0 Hj) :
  SpecB Tryz.prog 76 [.slice (some ⟨b0,0,none⟩) 1 1, .pointer (some ⟨t4,0,none⟩), .pointer (some ⟨t3,0,none⟩), .pointer (some ⟨t5,0,none⟩)] w0
   (blk t4 (atmX 0 0) 97::blk t3 [yv l] 134::Hj)
   (fun v R=>∃ K9,(∃ H',GQ s.size H'∧v = .bool true∧R=K9++H')∨∃ Y,X Y∧v = .bool false∧R=K9++Y):=by
 refine specB_of sg Tryz.func76 rfl rfl rfl ?_
 repeat' (first|refine d1 ?_|(show ∀ _:Nat,T _ _ _ _ _;intro _))
 refine T_loopX (fun z:Nat × Nat × List HA=>[(13, .int .i64 (z.1:Nat))]) (fun z=>blk t4 (atmX z.1 z.2.1) 97::blk t3 [yv l] 134::z.2.2) (fun z=>z.1≤1∧(z.1=0→GQ 0 z.2.2)∧(z.1=1→GQ s.size z.2.2)) (fun z=>1 - z.1) (0,0,Hj) ⟨Nat.zero_le _,fun _=>hG,fun h=>(by cases h)⟩ ?_
 rintro⟨k,c0,H1⟩ ⟨hk,hG0,hG1⟩
 dsimp only at hk hG0 hG1 ⊢
 repeat' (first|refine d1 ?_|(show ∀ _:Nat,T _ _ _ _ _;intro _))
 refine T_if rfl (fun h=>?_) (fun h=>?_)
 ·have hk0:k=0:=by simp at h;omega
  subst hk0
  have h9:RdC w0 b0 (0+(((0:Nat):Int)).toNat * 4) (nodT s):=hb
  repeat' (first|refine d1 ?_|(show ∀ _:Nat,T _ _ _ _ _;intro _))
  rename_i b7
  refine T_le (H':=blk b7 (nodT s) 56::blk t4 (atmX 0 c0) 97::blk t3 [yv l] 134::H1) (Hle.refl _) ?_
  refine T_cutX 1 [] (fun _:Unit=>[]) (fun _=>blk b7 (nodT s) 56::blk t4 (atmX 1 c0) 97::blk t3 [yv l] 134::H1) (fun _=>True) ?_ ?_
  ·refine dw0 1000 [blk b7 (nodT s) 56] ?_
   repeat' (first|(show T _ (.draw _ _ _ _ _::_) _ _ _;first|refine dw1 ?_|refine dwb rfl (by decide +kernel) ?_)|(show AllL _ [];exact True.intro)|(show AllL _ (_::_);refine ⟨?_,?_⟩)|(show OpT _ _ _ _ _ _ _;first|refine dwx ?_|refine OpT.store rfl rfl rfl rfl (Nat.le_of_ble_eq_true rfl) ⟨fun _=>(by first|exact Hle.none _|exact Hle.sub|exact absurd ‹_› (by decide +kernel)),?_⟩)|(show ∀ _:Nat,T _ _ _ _ _;intro _)|(show T _ (.mark _::_) _ _ _;exact T_meetX () trivial (hG:=Hle.refl _)))
  rintro - -
  repeat' (first|refine d1 ?_|(show ∀ _:Nat,T _ _ _ _ _;intro _))
  refine T_no rfl ?_
  repeat' (first|refine d1 ?_|(show ∀ _:Nat,T _ _ _ _ _;intro _))
  refine T_no rfl ?_
  repeat' (first|refine d1 ?_|(show ∀ _:Nat,T _ _ _ _ _;intro _))
  refine T_yes rfl ?_
  repeat' (first|refine d1 ?_|(show ∀ _:Nat,T _ _ _ _ _;intro _))
  refine T_loopX (fun z:Nat × Nat × List HA=>[(71, .int .i64 (z.1:Nat))]) (fun z=>blk b7 (nodT s) 56::blk t4 (atmX 1 z.2.1) 97::blk t3 [yv l] 134::z.2.2) (fun z=>z.1≤s.size∧GQ z.1 z.2.2) (fun z=>s.size - z.1) (0,c0,H1) ⟨Nat.zero_le _,hG0 rfl⟩ ?_
  rintro⟨i,c1,H2⟩ ⟨hi,hG2⟩
  dsimp only at hi hG2 ⊢
  repeat' (first|refine d1 ?_|(show ∀ _:Nat,T _ _ _ _ _;intro _))
  refine T_if rfl (fun h2=>?_) (fun h2=>?_)
  ·simp only [decide_eq_true_eq] at h2
   have his:i<s.size:=by omega
   have hat:=byteAt_nat s i his
   have hne:(1:Nat)≤1:=Nat.le_refl _
   repeat' (first|refine d1 ?_|(show ∀ _:Nat,T _ _ _ _ _;intro _))
   refine T_le (H':=blk b7 (nodT s) 56::blk t4 (atmX 1 (byteAt s (i:Int)).toNat) 97::blk t3 [yv l] 134::H2) (Hle.refl _) ?_
   refine T_op (OpT.yieldF [] [blk b7 (nodT s) 56,blk t4 (atmX 1 (byteAt s (i:Int)).toNat) 97,blk t3 [yv l] 134] hY rfl rfl (fun _ _=>Holds.nil _ _) rfl rfl rfl his ⟨_,hat,rfl,rfl⟩ hG2 (Hle.comm [_,_,_] H2) (fun H3 hG3=>?_) (fun Y hX=>?_))
   ·show T _ _ _ _ (blk b7 (nodT s) 56::blk t4 (atmX 1 (byteAt s (i:Int)).toNat) 97::blk t3 [yv l] 134::H3)
    repeat' (first|refine d1 ?_|(show ∀ _:Nat,T _ _ _ _ _;intro _))
    refine T_no rfl ?_
    repeat' (first|refine d1 ?_|(show ∀ _:Nat,T _ _ _ _ _;intro _))
    exact T_backX (i+1,(byteAt s (i:Int)).toNat,H3) ⟨by dsimp only;omega,hG3⟩ (by dsimp only;omega)
   ·show T _ _ _ _ (blk b7 (nodT s) 56::blk t4 (atmX 1 (byteAt s (i:Int)).toNat) 97::blk t3 [yv l] 134::Y)
    repeat' (first|refine d1 ?_|(show ∀ _:Nat,T _ _ _ _ _;intro _))
    refine T_yes rfl ?_
    repeat' (first|refine d1 ?_|(show ∀ _:Nat,T _ _ _ _ _;intro _))
    exact T_retV _ rfl (Hle.refl _) ⟨[_,_,_], .inr ⟨Y,hX,rfl,rfl⟩⟩
  ·simp only [decide_eq_false_iff_not] at h2
   obtain rfl:i=s.size:=by omega
   repeat' (first|refine d1 ?_|(show ∀ _:Nat,T _ _ _ _ _;intro _))
   exact T_backX (1,c1,H2) ⟨Nat.le_refl _,fun h=>(by cases h),fun _=>hG2⟩ (by dsimp only;omega) (hG:=Hle.tail _ _)
 ·have hk1:k=1:=by simp at h;omega
  subst hk1
  repeat' (first|refine d1 ?_|(show ∀ _:Nat,T _ _ _ _ _;intro _))
  exact T_retV _ rfl (Hle.refl _) ⟨[_,_], .inl ⟨H1,hG1 rfl,rfl,rfl⟩⟩
theorem atoms_spec (b0:Nat) (w:World):Spec Tryz.prog 45 [.agg #[.string ByteArray.empty, .int .i64 0], .slice (some ⟨b0,0,none⟩) 1 1] w (fun v R=>∃ y:Nat × Nat,True∧v = .func (.func 75) #[] #[.pointer (some ⟨y.1,0,none⟩), .pointer (some ⟨y.2,0,none⟩)]∧R=[blk y.2 [.slice (some ⟨b0,0,none⟩) 1 1] 54,blk y.1 [.string ByteArray.empty, .int .i64 0] 36]):=by
 refine spec_of sg Tryz.func45 rfl rfl rfl ?_
 repeat' (first|(show T _ (.ops _ (⟨_, .box _ _,_,_,_,_⟩::_)::_) _ _ _;first|refine T_op (OpT.box (cs:=[.string ByteArray.empty, .int .i64 0]) rfl rfl rfl rfl rfl rfl rfl (fun _=>?_))|refine T_op (OpT.box (cs:=[.slice (some ⟨b0,0,none⟩) 1 1]) rfl rfl rfl rfl rfl rfl rfl (fun _=>?_)))|refine d1 ?_|refine dd ?_|(show ∀ _:Nat,T _ _ _ _ _;intro _)|(show T _ (.code .ret::_) _ _ _;refine T_retV _ rfl (Hle.refl _) ⟨(_,_),trivial,rfl,rfl⟩))
theorem atoms_iter {w0:World} {b0:Nat} {s:ByteArray} (hb:NodR w0 b0 s) (hss:s.size≤1000) (y1 y2:Nat) :
  IterO Tryz.prog w0 75 [] [.pointer (some ⟨y1,0,none⟩), .pointer (some ⟨y2,0,none⟩)] [blk y2 [.slice (some ⟨b0,0,none⟩) 1 1] 54,blk y1 [.string ByteArray.empty, .int .i64 0] 36] (QA s) s.size:=by
 refine iterO_of sg Tryz.func75 rfl rfl rfl ?_
 intro l' GQ X Hj hY h0
 show T _ _ _ _ (blk y2 [.slice (some ⟨b0,0,none⟩) 1 1] 54::blk y1 [.string ByteArray.empty, .int .i64 0] 36::Hj)
 repeat' (first|(show T _ (.ops _ (⟨_, .box _ _,_,_,_,_⟩::_)::_) _ _ _;refine T_op (OpT.box (cs:=[yv l']) rfl rfl rfl rfl rfl rfl rfl (fun _=>?_)))|refine d1 ?_|(show T _ (.ops _ (_::_)::_) _ _ _;first|refine T_val rfl (Val.loadA (vs:=[.string ByteArray.empty, .int .i64 0]) rfl (fun _=>rdOwn (vs:=[.string ByteArray.empty, .int .i64 0]) (fun j u hu=>by rw [Nat.zero_add];exact hu)) rfl) rfl rfl rfl ?_|refine T_valC rfl (Val.loadA (vs:=[.string ByteArray.empty, .int .i64 0]) rfl (fun _=>rdOwn (vs:=[.string ByteArray.empty, .int .i64 0]) (fun j u hu=>by rw [Nat.zero_add];exact hu)) rfl) rfl rfl rfl rfl rfl ?_)|(show T _ (.run _ _ (_::_) _ _::_) _ _ _;first|refine rv rfl rfl rfl (Val.loadA (vs:=[.string ByteArray.empty, .int .i64 0]) rfl (fun _=>rdOwn (vs:=[.string ByteArray.empty, .int .i64 0]) (fun j u hu=>by rw [Nat.zero_add];exact hu)) rfl) rfl rfl rfl ?_|refine rg rfl rfl rfl (Val.loadA (vs:=[.string ByteArray.empty, .int .i64 0]) rfl (fun _=>rdOwn (vs:=[.string ByteArray.empty, .int .i64 0]) (fun j u hu=>by rw [Nat.zero_add];exact hu)) rfl) rfl rfl rfl rfl rfl ?_)|(show ∀ _:Nat,T _ _ _ _ _;intro _))
 rename_i t3 t4 t5
 refine T_le (H':=blk t4 (atmX 0 0) 97::blk t3 [yv l'] 134::([blk y2 [.slice (some ⟨b0,0,none⟩) 1 1] 54,blk y1 [.string ByteArray.empty, .int .i64 0] 36]++Hj)) (hle_pm [1,2,3,4] [_,_,_,_,_] Hj) ?_
 refine T_op (OpT.callB rfl rfl rfl rfl rfl (atomsW_spec hb hss (hY.frame [blk y2 [.slice (some ⟨b0,0,none⟩) 1 1] 54,blk y1 [.string ByteArray.empty, .int .i64 0] 36]) t4 t3 t5 _ ⟨Hj,rfl,h0⟩) ?_)
 rintro u R ⟨K9,⟨_,⟨H4,rfl,hG4⟩,rfl,rfl⟩|⟨_,⟨Y,rfl,hX⟩,rfl,rfl⟩⟩
 ·repeat' (first|refine d1 ?_|(show ∀ _:Nat,T _ _ _ _ _;intro _)|(show T _ _ _ _ _;refine T_ifall rfl H4 hG4 ((Hle.comm K9 _).trans (Hle.append_left _))))
 ·repeat' (first|refine d1 ?_|(show ∀ _:Nat,T _ _ _ _ _;intro _)|(show T _ _ _ _ _;refine T_istopf rfl Y hX ((Hle.comm K9 _).trans (Hle.append_left _))))
end Go.Proofs.YtbfcfpmholkmeaaGreatDoor
namespace Go.Proofs.YtbfcfpmholkmeaaGreatDoor
open Go.RowKit Go.Shelf Go.Proofs
set_option maxRecDepth 100000
set_option maxHeartbeats 4000000

theorem BH.fr {b:Nat} {K:List HA} {s:BSt} {R:List HA} (J:List HA) (h:BH b K s R):BH b (K++J) s (R++J):=by
 obtain⟨A,n,cap,q,Ab,cb,h1,h2,rfl⟩:=h
 exact⟨A,n,cap,q,Ab,cb,h1,h2,rfl⟩
theorem BH.unfr {b:Nat} {K:List HA} {s:BSt} {R J:List HA} (h:BH b (K++J) s R):∃ R',R=R'++J∧BH b K s R':=by
 obtain⟨A,n,cap,q,Ab,cb,h1,h2,rfl⟩:=h
 exact⟨stH b A n cap q Ab cb s.2.2 s.2.1 s.2.1 false (if s.2.1 then s.1++[noTok] else s.1) K,rfl,A,n,cap,q,Ab,cb,h1,h2,rfl⟩
def runT (l:List UInt8):BSt:=l.foldl stepT ([],false,[])
def tksT (s:BSt):List Tok:=if s.2.1 then s.1++[{ noTok with text:=⟨s.2.2.toArray⟩ }] else s.1
theorem stepT_ok {s:BSt} {c:UInt8} {n:Nat} (h:s.1.length+s.2.2.length≤n∧(s.2.1=true→s.2.2≠[])∧(s.2.1=false→s.2.2=[])):(stepT s c).1.length+(stepT s c).2.2.length≤n+1∧((stepT s c).2.1=true→(stepT s c).2.2≠[])∧((stepT s c).2.1=false→(stepT s c).2.2=[]):=by
 obtain⟨d,op,bs⟩:=s
 obtain⟨h1,h2,h3⟩:=h
 dsimp only at h1 h2 h3
 unfold stepT
 dsimp only
 split
 ·cases op with
  | true =>
   rw [if_pos rfl]
   refine ⟨?_,fun h=>(by cases h),fun _=>rfl⟩
   dsimp only
   rw [List.length_append,List.length_singleton,List.length_nil]
   have:=List.length_pos_iff.2 (h2 rfl)
   omega
  | false =>
   rw [if_neg (by simp)]
   exact⟨by dsimp only;rw [List.length_nil];omega,fun h=>(by cases h),fun _=>rfl⟩
 ·refine ⟨?_,fun _=>by simp,fun h=>(by cases h)⟩
  dsimp only
  rw [List.length_append,List.length_singleton];omega
theorem runT_snoc (l:List UInt8) (c:UInt8):runT (l++[c])=stepT (runT l) c:=by unfold runT;rw [List.foldl_append];rfl
theorem runT_ok (l:List UInt8):∀ j,(runT (l.take j)).1.length+(runT (l.take j)).2.2.length≤j∧((runT (l.take j)).2.1=true→(runT (l.take j)).2.2≠[])∧((runT (l.take j)).2.1=false→(runT (l.take j)).2.2=[])
 | 0=>⟨by simp [runT],fun h=>by simp [runT] at h,fun _=>rfl⟩
 | j+1=>by
  cases h:l[j]? with
  | none =>
   have hl:l.length≤j:=List.getElem?_eq_none_iff.1 h
   have h9:=runT_ok l j
   rw [List.take_of_length_le hl] at h9
   rw [List.take_of_length_le (by omega)]
   exact⟨by omega,h9.2⟩
  | some c =>
   rw [take_snoc _ _ _ h,runT_snoc]
   exact stepT_ok (runT_ok l j)
theorem longT_spec (t:Tok) (w:World) (hs:t.text.size≤1000000):Spec Tryz.prog 48 [t.val] w (fun v R=>v = .bool (decide (64<t.text.size))∧R=[]):=by
 refine spec_of sg Tryz.func48 rfl rfl rfl ?_
 repeat' (first|(show T _ (.ops _ (⟨_, .box _ _,_,_,_,_⟩::_)::_) _ _ _;refine T_op (OpT.box (cs:=t.cells) rfl rfl rfl rfl rfl rfl rfl (fun _=>?_)))|refine d1 ?_|(show ∀ _:Nat,T _ _ _ _ _;intro _)|(show T _ (.code .ret::_) _ _ _;refine T_retV [] rfl (Hle.none _) ⟨congrArg Value.bool ?_,rfl⟩))
 exact decide_eq_decide.2 (by omega)
theorem tokensT_spec (b0:Nat) (s:ByteArray) (A:Option Addr) (n c:Nat) (rs:List RuB) (w:World) (hst:Std w) (hfs:FormS w) (hb:NodR w b0 s) (hrs:RsR w A n rs) (hok:rusOk rs) (hss:s.size≤64) (hs0:s.size≠0) (hc:checkS s=0)
  (hk:∀ c∈s.data.toList,kindB c=1∨kindB c=6) (htk:∀ t∈tksT (runT s.data.toList),(0≤t.flags∧t.flags≤31)∧t.text.size≤64∧(wordT t=true→normB t.text=true∧t.text.size≤64)) (hlg:∀ t∈tksT (runT s.data.toList),¬ lngT rs t.text) :
  Spec Tryz.prog 20 [.agg #[.string ByteArray.empty, .int .i64 0], .slice (some ⟨b0,0,none⟩) 1 1, .slice A n c] w
   (fun v R=>∃ (x:Option Addr × Nat) (us:List Tok),nmList rs (tksT (runT s.data.toList)) us∧v = .tuple #[.slice x.1 us.length x.2, .int .i64 0]∧R=[row 38 6 x.1 x.2 us.length (us.flatMap Tok.cells)]):=by
 have hck:∀ w',Cls w w' []→True:=fun _ _=>trivial
 have hcr:∀ {w':World} {H:List HA},Cls w w' H→Spec Tryz.prog 25 [.slice A n c] w' (fun v R=>v = .int .i64 0∧R=[]):=fun hw =>
  (checkRules_spec A n c rs _ (hrs.cls hw)).mono fun v R ⟨e,he,h1,h2⟩=>⟨by rw [h1,he.2 hok],h2⟩
 refine spec_of sg Tryz.func20 rfl rfl rfl ?_
 repeat' (first|(show T _ (.ops _ (⟨_, .box _ _,_,_,_,_⟩::_)::_) _ _ _;refine T_op (OpT.box (cs:=[.string ByteArray.empty, .int .i64 0]) rfl rfl rfl rfl rfl rfl rfl (fun _=>?_)))|refine d1 ?_|(show T _ (.ops _ (_::_)::_) _ _ _;first|refine T_call rfl rfl rfl rfl rfl (fun w hw=>checkT_spec b0 s w (hb.cls ‹_›) (hfs.cls ‹_›) (by omega) hs0 hc) ?_|refine T_callC rfl rfl rfl rfl rfl rfl rfl (fun hg w hw=>checkT_spec b0 s w (hb.cls ‹_›) (hfs.cls ‹_›) (by omega) hs0 hc) ?_|refine T_callC rfl rfl rfl rfl rfl rfl rfl (fun _ w hw=>hcr hw) ?_)|(show T _ (.run _ _ (_::_) _ _::_) _ _ _;first|refine rc rfl rfl rfl rfl rfl rfl rfl (fun w hw=>checkT_spec b0 s w (hb.cls ‹_›) (hfs.cls ‹_›) (by omega) hs0 hc) ?_|refine rcG rfl rfl rfl rfl rfl rfl rfl rfl rfl (fun hg w hw=>checkT_spec b0 s w (hb.cls ‹_›) (hfs.cls ‹_›) (by omega) hs0 hc) ?_)|(show ∀ _:Nat,T _ _ _ _ _;intro _))
 rename_i b3
 refine T_no rfl ?_
 repeat' (first|refine d1 ?_|(show ∀ _:Nat,T _ _ _ _ _;intro _))
 refine T_no rfl ?_
 repeat' (first|refine d1 ?_|(show T _ (.ops _ (_::_)::_) _ _ _;first|refine T_call rfl rfl rfl rfl rfl (fun w hw=>namedPrg_spec ByteArray.empty (by decide) w) ?_|refine T_callC rfl rfl rfl rfl rfl rfl rfl (fun hg w hw=>namedPrg_spec ByteArray.empty (by decide) w) ?_)|(show T _ (.run _ _ (_::_) _ _::_) _ _ _;first|refine rc rfl rfl rfl rfl rfl rfl rfl (fun w hw=>namedPrg_spec ByteArray.empty (by decide) w) ?_|refine rcG rfl rfl rfl rfl rfl rfl rfl rfl rfl (fun hg w hw=>namedPrg_spec ByteArray.empty (by decide) w) ?_)|(show ∀ _:Nat,T _ _ _ _ _;intro _))
 refine T_no rfl ?_
 repeat' (first|refine d1 ?_|(show T _ (.ops _ (_::_)::_) _ _ _;first|refine T_call rfl rfl rfl rfl rfl (fun w hw=>countT_spec b0 s 8 (by omega) w (hb.cls ‹_›) (hfs.cls ‹_›) (by omega) hs0 hc) ?_|refine T_callC rfl rfl rfl rfl rfl rfl rfl (fun hg w hw=>countT_spec b0 s 8 (by omega) w (hb.cls ‹_›) (hfs.cls ‹_›) (by omega) hs0 hc) ?_|refine T_call rfl rfl rfl rfl rfl (fun w hw=>countT_spec b0 s 9 (by omega) w (hb.cls ‹_›) (hfs.cls ‹_›) (by omega) hs0 hc) ?_|refine T_callC rfl rfl rfl rfl rfl rfl rfl (fun hg w hw=>countT_spec b0 s 9 (by omega) w (hb.cls ‹_›) (hfs.cls ‹_›) (by omega) hs0 hc) ?_)|(show T _ (.run _ _ (_::_) _ _::_) _ _ _;first|refine rc rfl rfl rfl rfl rfl rfl rfl (fun w hw=>countT_spec b0 s 8 (by omega) w (hb.cls ‹_›) (hfs.cls ‹_›) (by omega) hs0 hc) ?_|refine rcG rfl rfl rfl rfl rfl rfl rfl rfl rfl (fun hg w hw=>countT_spec b0 s 8 (by omega) w (hb.cls ‹_›) (hfs.cls ‹_›) (by omega) hs0 hc) ?_|refine rc rfl rfl rfl rfl rfl rfl rfl (fun w hw=>countT_spec b0 s 9 (by omega) w (hb.cls ‹_›) (hfs.cls ‹_›) (by omega) hs0 hc) ?_|refine rcG rfl rfl rfl rfl rfl rfl rfl rfl rfl (fun hg w hw=>countT_spec b0 s 9 (by omega) w (hb.cls ‹_›) (hfs.cls ‹_›) (by omega) hs0 hc) ?_)|(show ∀ _:Nat,T _ _ _ _ _;intro _))
 refine T_no rfl ?_
 repeat' (first|refine d1 ?_|(show T _ (.ops _ (_::_)::_) _ _ _;first|refine T_val rfl (Val.loadA (vs:=[.string ByteArray.empty, .int .i64 0]) rfl (fun _=>rdOwn (vs:=[.string ByteArray.empty, .int .i64 0]) (fun j u hu=>by rw [Nat.zero_add];exact hu)) rfl) rfl rfl rfl ?_|refine T_valC rfl (Val.loadA (vs:=[.string ByteArray.empty, .int .i64 0]) rfl (fun _=>rdOwn (vs:=[.string ByteArray.empty, .int .i64 0]) (fun j u hu=>by rw [Nat.zero_add];exact hu)) rfl) rfl rfl rfl rfl rfl ?_)|(show T _ (.run _ _ (_::_) _ _::_) _ _ _;first|refine rv rfl rfl rfl (Val.loadA (vs:=[.string ByteArray.empty, .int .i64 0]) rfl (fun _=>rdOwn (vs:=[.string ByteArray.empty, .int .i64 0]) (fun j u hu=>by rw [Nat.zero_add];exact hu)) rfl) rfl rfl rfl ?_|refine rg rfl rfl rfl (Val.loadA (vs:=[.string ByteArray.empty, .int .i64 0]) rfl (fun _=>rdOwn (vs:=[.string ByteArray.empty, .int .i64 0]) (fun j u hu=>by rw [Nat.zero_add];exact hu)) rfl) rfl rfl rfl rfl rfl ?_)|(show ∀ _:Nat,T _ _ _ _ _;intro _))
 rename_i b12
 refine T_nilrow 38 6 ?_
 refine T_nilrow 5 1 ?_
 refine T_le (H':=stH b12 none 0 0 none none 0 [] false false false [] [blk b3 [.string ByteArray.empty, .int .i64 0] 36]) (hle_pm [2,0,1,3] [_,_,_,_] []) ?_
 refine T_op (OpT.call rfl rfl rfl rfl rfl (fun w hw=>atoms_spec b0 w) ?_)
 rintro u R ⟨⟨y1,y2⟩,-,rfl,rfl⟩
 repeat' (first|refine d1 ?_|(show ∀ _:Nat,T _ _ _ _ _;intro _))
 have hL:s.data.toList.length=s.size:=size_list s
 refine T_rangeO (atoms_iter hb (by omega) y1 y2) rfl (fun j x B hj hQ=>by obtain⟨c9,_,rfl,rfl⟩:=hQ;exact⟨rfl,rfl⟩)
  (fun j H=>BH b12 [blk b3 [.string ByteArray.empty, .int .i64 0] 36] (runT (s.data.toList.take j)) H) (fun H=>False) (fun _ _=>False)
  (stH b12 none 0 0 none none 0 [] false false false [] [blk b3 [.string ByteArray.empty, .int .i64 0] 36]) ⟨none,0,0,none,none,0, .inl rfl,rfl,rfl⟩ (Hle.refl _) ?_ ?_ (fun _ _ h=>h.elim) (fun _ _ _ h=>h.elim)
 ·rintro Lp r5 j x B Hj K2 hr5 hj ⟨c9,hc9,rfl,rfl⟩ hB
  show T _ _ ((51, .agg (atmT c9).toArray)::_) _ (lrec Lp r5::(Hj++K2))
  repeat' (first|refine d1 ?_|(show ∀ _:Nat,T _ _ _ _ _;intro _))
  rename_i b13
  refine T_le (H':=lrec Lp r5::blk b13 (atmT c9) 97::(Hj++K2)) (Hle.perm (List.Perm.swap _ _ _)) ?_
  refine T_begin hr5 rfl ?_
  repeat' (first|refine d1 ?_|(show ∀ _:Nat,T _ _ _ _ _;intro _))
  refine T_le (H':=Hj++(lrec Lp (busy r5)::K2)) ((hle_snd _ _ _).trans (Hle.perm (List.perm_middle.symm))) ?_
  have hok9:=runT_ok s.data.toList j
  refine T_op (OpT.callB rfl rfl rfl rfl rfl (addT_spec _ b12 (runT (s.data.toList.take j)) ⟨by omega,by omega,hok9.2⟩ c9 _ _ (hB.fr (lrec Lp (busy r5)::K2)) (hk c9 (List.mem_of_getElem? hc9))) ?_)
  rintro u R ⟨rfl,hB2⟩
  obtain⟨R',rfl,hB3⟩:=hB2.unfr
  rw [← runT_snoc, ← take_snoc _ _ _ hc9] at hB3
  repeat' (first|refine d1 ?_|(show ∀ _:Nat,T _ _ _ _ _;intro _))
  exact T_next R' hB3 (Hle.perm List.perm_middle)
 ·rintro D Hn hB
  rw [← hL,List.take_length] at hB
  have hok9:=runT_ok s.data.toList s.size
  rw [← hL,List.take_length] at hok9
  generalize runT s.data.toList=st at hB hok9 htk hlg ⊢
  obtain⟨d,op,bs⟩:=st
  obtain⟨A1,n1,cap1,q1,Ab,cb,hq1,hn1,rfl⟩:=hB
  dsimp only at hn1 hok9
  have hTl:(tksT (d,op,bs)).length=n1:=by
   unfold tksT
   dsimp only
   cases op with
   | true=>rw [if_pos rfl,List.length_append,List.length_singleton,hn1,if_pos rfl]
   | false=>rw [if_neg (by simp),hn1,if_neg (by simp),Nat.add_zero]
  have hn500:n1≤500:=by rw [hn1];split <;> omega
  refine T_le (H':=stH b12 A1 n1 cap1 q1 Ab cb bs op op false (if op then d++[noTok] else d) [dfr D]) (hle_pm [3,4,5,0] [_,_,_,_,_,_,_] []) ?_
  repeat' (first|refine d1 ?_|(show ∀ _:Nat,T _ _ _ _ _;intro _))
  refine T_op (OpT.callB rfl rfl rfl rfl rfl (endT_spec _ b12 A1 n1 cap1 q1 Ab cb bs op d _ (by omega) (fun h=>⟨hok9.2.1 h,by subst h;exact hn1⟩)) ?_)
  rintro u R ⟨rfl,rfl⟩
  rw [show (if op then d++[{ noTok with text:=⟨bs.toArray⟩ }] else d)=tksT (d,op,bs) from rfl]
  generalize tksT (d,op,bs)=ts at hTl htk hlg ⊢
  repeat' (first|refine d1 ?_|(show T _ (.ops _ (_::_)::_) _ _ _;refine T_callC rfl rfl rfl rfl rfl rfl rfl (fun _ w hw=>containsFuncT_spec A1 n1 cap1 ts 48 [] [] (fun t=>decide (64<t.text.size)) w (srcRw w hw) hTl (by omega) (fun x hx w' hb'=>longT_spec x w' (by have:=(htk x hx).2.1;omega))) ?_)|(show ∀ _:Nat,T _ _ _ _ _;intro _))
  refine T_if rfl (fun h=>?_) (fun _=>?_)
  ·exfalso
   rw [Bool.or_eq_true,decide_eq_true_eq] at h
   rcases h with h|h
   ·omega
   ·obtain⟨t,h5,h6⟩:=List.any_eq_true.1 h
    have h7:=(htk t h5).2.1
    rw [decide_eq_true_eq] at h6
    omega
  repeat' (first|refine d1 ?_|(show ∀ _:Nat,T _ _ _ _ _;intro _))
  refine T_le (H':=row 38 6 A1 cap1 n1 (ts.flatMap Tok.cells)::[dfr D]) (hle_pm [2,3] [_,_,_,_] []) ?_
  refine T_op (OpT.callB rfl rfl rfl rfl rfl (normalized_spec A A1 n c n1 cap1 rs ts [dfr D] hrs hok hTl (by omega) (fun t h=>⟨(htk t h).1,(htk t h).2.2⟩)) ?_)
  rintro u R (⟨us,hus,rfl,rfl⟩|⟨⟨t,h5,-,h6⟩,-,-⟩)
  ·have hul:us.length=n1:=by rw [hus.len,hTl]
   subst hul
   repeat' (first|refine d1 ?_|(show ∀ _:Nat,T _ _ _ _ _;intro _))
   exact T_retDs (Dl:=[D]) [row 38 6 A1 cap1 us.length (us.flatMap Tok.cells)] (Hle.refl _) (rf_V (vs:=[.slice A1 us.length cap1, .int .i64 0]) _ rfl (Hle.refl _) ⟨(A1,cap1),us,hus,rfl,rfl⟩)
  ·exact absurd h6 (hlg t h5)
end Go.Proofs.YtbfcfpmholkmeaaGreatDoor
namespace Go.Proofs.YtbfcfpmholkmeaaGreatDoor
open Go.RowKit Go.Shelf Go.Proofs
set_option maxRecDepth 100000
set_option maxHeartbeats 1000000

def ownJ (l:List TS) (col:List Int) (k:Nat):List Tok:=(List.range l.length).map fun s=>if s<k∧0≤col.getD s (-1) then tkA (tsA l s).l (col.getD s (-1)).toNat else noTok
def thJ (l:List TS) (col:List Int) (k:Nat):List Bool:=(List.range l.length).map fun s=>decide (s<k∧0≤col.getD s (-1))
theorem ownJ_len (l:List TS) (col:List Int) (k:Nat):(ownJ l col k).length=l.length:=by simp [ownJ]
theorem thJ_len (l:List TS) (col:List Int) (k:Nat):(thJ l col k).length=l.length:=by simp [thJ]
theorem ownJ_zero (l:List TS) (col:List Int):ownJ l col 0=List.replicate l.length noTok:=by
 refine List.ext_getElem? fun s=>?_
 unfold ownJ
 rw [List.getElem?_map,List.getElem?_replicate]
 rcases Nat.lt_or_ge s l.length with h|h
 ·rw [List.getElem?_range h,if_pos h];simp
 ·rw [if_neg (by omega),List.getElem?_eq_none (by simp;omega)];rfl
theorem thJ_zero (l:List TS) (col:List Int):thJ l col 0=List.replicate l.length false:=by
 refine List.ext_getElem? fun s=>?_
 unfold thJ
 rw [List.getElem?_map,List.getElem?_replicate]
 rcases Nat.lt_or_ge s l.length with h|h
 ·rw [List.getElem?_range h,if_pos h];simp
 ·rw [if_neg (by omega),List.getElem?_eq_none (by simp;omega)];rfl
theorem ownJ_gap {l:List TS} {col:List Int} {k:Nat} (h:¬ 0≤col.getD k (-1)):ownJ l col (k+1)=ownJ l col k:=by
 unfold ownJ
 refine List.map_congr_left fun s _=>?_
 by_cases e:s=k
 ·subst e;rw [if_neg (fun h9=>h h9.2),if_neg (fun h9=>h h9.2)]
 ·by_cases h2:s<k∧0≤col.getD s (-1)
  ·rw [if_pos h2,if_pos ⟨by omega,h2.2⟩]
  ·rw [if_neg h2,if_neg (fun h9=>h2 ⟨by omega,h9.2⟩)]
theorem thJ_gap {l:List TS} {col:List Int} {k:Nat} (h:¬ 0≤col.getD k (-1)):thJ l col (k+1)=thJ l col k:=by
 unfold thJ
 refine List.map_congr_left fun s _=>?_
 by_cases e:s=k
 ·subst e;rw [decide_eq_false (fun h9=>h h9.2),decide_eq_false (fun h9=>h h9.2)]
 ·by_cases h2:s<k∧0≤col.getD s (-1)
  ·rw [decide_eq_true h2,decide_eq_true (⟨by omega,h2.2⟩:s<k+1∧_)]
  ·rw [decide_eq_false h2,decide_eq_false (fun h9=>h2 ⟨by omega,h9.2⟩)]
theorem ownJ_tok {l:List TS} {col:List Int} {k:Nat} (hk:k<l.length) (h:0≤col.getD k (-1)):(ownJ l col k).set k (tkA (tsA l k).l (col.getD k (-1)).toNat)=ownJ l col (k+1):=by
 refine List.ext_getElem? fun s=>?_
 unfold ownJ
 rw [List.getElem?_set,List.getElem?_map,List.getElem?_map,List.length_map,List.length_range]
 by_cases e:k=s
 ·subst e
  rw [List.getD_eq_getElem?_getD] at h
  rw [if_pos rfl,if_pos hk,List.getElem?_range hk];simp;intro h9;omega
 ·rw [if_neg e]
  rcases Nat.lt_or_ge s l.length with h2|h2
  ·rw [List.getElem?_range h2]
   simp only [Option.map_some]
   by_cases h3:s<k∧0≤col.getD s (-1)
   ·rw [if_pos h3,if_pos ⟨by omega,h3.2⟩]
   ·rw [if_neg h3,if_neg (fun h9=>h3 ⟨by omega,h9.2⟩)]
  ·rw [List.getElem?_eq_none (by simp;omega)];rfl
theorem thJ_tok {l:List TS} {col:List Int} {k:Nat} (hk:k<l.length) (h:0≤col.getD k (-1)):(thJ l col k).set k true=thJ l col (k+1):=by
 refine List.ext_getElem? fun s=>?_
 unfold thJ
 rw [List.getElem?_set,List.getElem?_map,List.getElem?_map,List.length_map,List.length_range]
 by_cases e:k=s
 ·subst e
  rw [List.getD_eq_getElem?_getD] at h
  rw [if_pos rfl,if_pos hk,List.getElem?_range hk];simp [h]
 ·rw [if_neg e]
  rcases Nat.lt_or_ge s l.length with h2|h2
  ·rw [List.getElem?_range h2]
   simp only [Option.map_some]
   by_cases h3:s<k∧0≤col.getD s (-1)
   ·rw [decide_eq_true h3,decide_eq_true (⟨by omega,h3.2⟩:s<k+1∧_)]
   ·rw [decide_eq_false h3,decide_eq_false (fun h9=>h3 ⟨by omega,h9.2⟩)]
  ·rw [List.getElem?_eq_none (by simp;omega)];rfl
theorem ownJ_small {w:World} {A:Option Addr} {n:Nat} {l:List TS} (hg:Grp w A n l) {col:List Int} (hco:ColOk l col) (k:Nat):∀ t∈ownJ l col k,t.small:=by
 intro t ht
 unfold ownJ at ht
 obtain⟨s,hs,rfl⟩:=List.mem_map.1 ht
 rw [List.mem_range] at hs
 split
 ·rename_i h
  have hci:col[s]?=some (col.getD s (-1)):=by rw [List.getD_eq_getElem?_getD,List.getElem?_eq_getElem (by rw [hco.1];exact hs)];rfl
  have hli:l[s]?=some (tsA l s):=by rw [tsA_eq (List.getElem?_eq_getElem hs)];exact List.getElem?_eq_getElem hs
  exact hg.sm _ (tsA_mem hs) _ (tkA_mem2 h.2 (by rw [hg.ok.len _ (tsA_mem hs)];exact (hco.2 s _ _ hci hli).2))
 ·exact noTok_small
theorem own_colV {w:World} {A:Option Addr} {n:Nat} {l:List TS} (hg:Grp w A n l) {c:Costs} (hc:costE c=0) (hbs:badS l=false) {col:List Int} (hco:ColOk l col):columnV c (ownJ l col l.length) (thJ l col l.length)=(colZ c l col,0):=by
 have hb:=hg.hb
 have hn:=hg.hn
 refine columnV_Z hc hbs hg.ok.len (by omega) hco (ownJ_len _ _ _) (thJ_len _ _ _) (fun i hi=>?_) (fun i hi h0=>?_)
 ·unfold thA thJ
  rw [List.getD_eq_getElem?_getD,List.getElem?_map,List.getElem?_range hi]
  show decide (i<l.length∧0≤col.getD i (-1))=_
  by_cases h:0≤col.getD i (-1)
  ·rw [decide_eq_true h,decide_eq_true ⟨hi,h⟩]
  ·rw [decide_eq_false h,decide_eq_false (fun h9=>h h9.2)]
 ·show tkA (ownJ l col l.length) i=_
  have e:(ownJ l col l.length)[i]?=some (tkA (tsA l i).l (col.getD i (-1)).toNat):=by
   unfold ownJ
   rw [List.getElem?_map,List.getElem?_range hi]
   simp only [Option.map_some]
   rw [if_pos ⟨hi,h0⟩]
  unfold tkA at e ⊢
  rw [List.getD_eq_getElem?_getD (l:=ownJ l col l.length),e]
  rfl
theorem made_toks (n:Nat):(madeCells (noTok.val).cells (n * (noTok.val).cells.size)).toList=(List.replicate n noTok).flatMap Tok.cells:=by
 refine (made_flat (noTok.val).cells n).trans ?_
 induction n with
 | zero=>rfl
 | succ n ih=>rw [List.replicate_succ,List.replicate_succ,List.flatMap_cons,List.flatten_cons,ih];rfl
theorem cost19_spec (c:Costs) (A Ac:Option Addr) (n ca cc:Nat) (l:List TS) (col:List Int) (w:World) (hg:Grp w A n l) (hc:costE c=0) (hbs:badS l=false) (hcs:Src w 1 Ac n (col.map (Value.int .i64))) (hco:ColOk l col) :
  Spec Tryz.prog 93 [c.val, .slice A n ca, .slice Ac n cc] w (fun v R=>v = .int .i64 (colZ c l col)∧R=[]):=by
 have hn:=hg.hn
 subst hn
 have hb:=hg.hb
 refine spec_of sg Tryz.func93 rfl rfl rfl ?_
 refine T_op (OpT.box (cs:=c.cells) rfl rfl rfl rfl rfl rfl rfl (fun pc=>?_))
 repeat' (first|refine d1 ?_|(show ∀ _:Nat,T _ _ _ _ _;intro _))
 refine T_cutX 1 [7,8] (fun s:Nat × Nat=>[(7, .slice (some ⟨s.1,0,none⟩) l.length l.length),(8, .slice (some ⟨s.2,0,none⟩) l.length l.length)]) (fun s=>[blk s.1 (madeCells (noTok.val).cells (l.length * (noTok.val).cells.size)).toList 38,blk s.2 (List.replicate l.length (.bool false)) 4,blk pc c.cells 65]) (fun _=>True) ?_ ?_
 ·refine dw0 1000 [blk pc c.cells 65] ?_
  repeat' (first|(show T _ (.draw _ _ _ _ _::_) _ _ _;first|refine dw1 ?_|refine dwb rfl (by decide +kernel) ?_)|(show AllL _ [];exact True.intro)|(show AllL _ (_::_);refine ⟨?_,?_⟩)|(show OpT _ _ _ _ _ _ _;first|refine dwx ?_|refine OpT.makeC rfl rfl rfl rfl rfl rfl (by dsimp only;omega) (fun b2=>⟨fun _=>(by first|exact Hle.none _|exact Hle.sub|exact absurd ‹_› (by decide +kernel)),?_⟩)|refine OpT.make rfl rfl rfl rfl rfl rfl rfl rfl rfl (by dsimp only;omega) (fun b3=>⟨fun _=>(by first|exact Hle.none _|exact Hle.sub|exact absurd ‹_› (by decide +kernel)),?_⟩))|(show ∀ _:Nat,T _ _ _ _ _;intro _)|(show T _ (.mark _::_) _ _ _;exact T_meetX (_,_) trivial (hG:=by exact Hle.srt)))
 rintro⟨b2,b3⟩ _
 dsimp only
 refine T_le (H':=[blk b2 ((ownJ l col 0).flatMap Tok.cells) 38,blk b3 ((thJ l col 0).map Value.bool) 4,blk pc c.cells 65]) (by rw [ownJ_zero,thJ_zero,made_toks,List.map_replicate];exact Hle.refl _) ?_
 repeat' (first|refine d1 ?_|refine dd ?_|(show ∀ _:Nat,T _ _ _ _ _;intro _))
 refine T_loopX (fun k:Nat=>[(21, .int .i64 k)]) (fun k=>[blk b2 ((ownJ l col k).flatMap Tok.cells) 38,blk b3 ((thJ l col k).map Value.bool) 4,blk pc c.cells 65]) (fun k=>k≤l.length) (fun k=>l.length - k) 0 (Nat.zero_le _) ?_
 intro k hk
 repeat' (first|refine d1 ?_|refine dd ?_|(show ∀ _:Nat,T _ _ _ _ _;intro _))
 refine T_if rfl (fun h=>?_) (fun h=>?_)
 ·simp only [decide_eq_true_eq] at h
  have hkn:k<l.length:=by omega
  obtain⟨b1,o1,rfl⟩:=hcs.base (by omega)
  obtain⟨b,o,rfl⟩:=hg.hs.base (by omega)
  obtain⟨s,hs,hsmem,hr⟩:=hg.get hkn
  obtain⟨z,hz⟩:∃ z,col[k]?=some z:=⟨_,List.getElem?_eq_getElem (by have:=hco.1;omega)⟩
  have hr1:=src_int hcs hkn hz
  obtain⟨hz1,hz2⟩:=hco.2 k z s hz hs
  have hsl:=hg.ok.len s hsmem
  have hsn:=hg.nb s hsmem
  have hzd:col.getD k (-1)=z:=by rw [List.getD_eq_getElem?_getD,hz];rfl
  repeat' (first|refine d1 ?_|refine dd ?_|(show ∀ _:Nat,T _ _ _ _ _;intro _))
  refine T_if rfl (fun h1=>?_) (fun h1=>?_)
  ·simp only [decide_eq_true_eq] at h1
   obtain⟨b4,o4,hsA⟩:=(hg.ok.src s hsmem).base (by omega)
   have hsr:RdC w b4 (o4+z.toNat * 6) (tkA s.l z.toNat).cells:=(hsA ▸ hg.ok.src s hsmem:Src w 6 (some ⟨b4,o4,none⟩) s.n (s.l.flatMap Tok.cells)).getT (k:=z.toNat) (by omega) (tkA_get (by omega))
   rw [hsA] at hr
   repeat' (first|refine d1 ?_|refine dd ?_|(show T _ (.ops _ (_::_)::_) _ _ _;first|refine T_op (OpT.storeA (us:=(tkA s.l z.toNat).cells) rfl rfl rfl rfl rfl rfl (by rw [flatT_length,ownJ_len,show (tkA s.l z.toNat).cells.length=6 from rfl];omega) ?_)|refine T_op (OpT.store rfl rfl rfl rfl (by rw [List.length_map,thJ_len];omega) ?_))|(show ∀ _:Nat,T _ _ _ _ _;intro _))
   refine T_backX (k+1) (by omega) (by omega) (hG:=?_)
   have e1:=ownJ_tok (l:=l) (col:=col) hkn (by rw [hzd];exact h1)
   have e2:=thJ_tok (l:=l) (col:=col) hkn (by rw [hzd];exact h1)
   rw [hzd,tsA_eq hs] at e1
   rw [← e1, ← e2, ← flatTok_set _ _ _ (by rw [ownJ_len];exact hkn),List.map_set,show 0+(k:Int).toNat * 6=k * 6 by omega,show 0+(k:Int).toNat * 1=k by omega]
   exact Hle.refl _
  ·simp only [decide_eq_false_iff_not] at h1
   repeat' (first|refine d1 ?_|refine dd ?_|(show ∀ _:Nat,T _ _ _ _ _;intro _))
   exact T_backX (k+1) (by omega) (by omega) (hG:=by rw [ownJ_gap (by rw [hzd];exact h1),thJ_gap (by rw [hzd];exact h1)];exact Hle.refl _)
 ·simp only [decide_eq_false_iff_not] at h
  obtain rfl:k=l.length:=by omega
  repeat' (first|refine d1 ?_|refine dd ?_|(show T _ (.ops _ (_::_)::_) _ _ _;first|refine T_call rfl rfl rfl rfl rfl (fun w hw=>columnPrg_spec c (some ⟨b2,0,none⟩) (some ⟨b3,0,none⟩) l.length l.length l.length l.length (ownJ l col l.length) (thJ l col l.length) w (hg.hst.cls hw) (Src.own hw (by rw [flatT_length,ownJ_len])) (ownJ_len _ _ _) (by omega) (Src.own hw (by rw [List.length_map,thJ_len,Nat.mul_one])) (thJ_len _ _ _) (by omega) (ownJ_small hg hco _)) ?_|refine T_callC rfl rfl rfl rfl rfl rfl rfl (fun hg w hw=>columnPrg_spec c (some ⟨b2,0,none⟩) (some ⟨b3,0,none⟩) l.length l.length l.length l.length (ownJ l col l.length) (thJ l col l.length) w (hg.hst.cls hw) (Src.own hw (by rw [flatT_length,ownJ_len])) (ownJ_len _ _ _) (by omega) (Src.own hw (by rw [List.length_map,thJ_len,Nat.mul_one])) (thJ_len _ _ _) (by omega) (ownJ_small hg hco _)) ?_)|(show T _ (.run _ _ (_::_) _ _::_) _ _ _;first|refine rc rfl rfl rfl rfl rfl rfl rfl (fun w hw=>columnPrg_spec c (some ⟨b2,0,none⟩) (some ⟨b3,0,none⟩) l.length l.length l.length l.length (ownJ l col l.length) (thJ l col l.length) w (hg.hst.cls hw) (Src.own hw (by rw [flatT_length,ownJ_len])) (ownJ_len _ _ _) (by omega) (Src.own hw (by rw [List.length_map,thJ_len,Nat.mul_one])) (thJ_len _ _ _) (by omega) (ownJ_small hg hco _)) ?_|refine rcG rfl rfl rfl rfl rfl rfl rfl rfl rfl (fun hg w hw=>columnPrg_spec c (some ⟨b2,0,none⟩) (some ⟨b3,0,none⟩) l.length l.length l.length l.length (ownJ l col l.length) (thJ l col l.length) w (hg.hst.cls hw) (Src.own hw (by rw [flatT_length,ownJ_len])) (ownJ_len _ _ _) (by omega) (Src.own hw (by rw [List.length_map,thJ_len,Nat.mul_one])) (thJ_len _ _ _) (by omega) (ownJ_small hg hco _)) ?_)|(show ∀ _:Nat,T _ _ _ _ _;intro _))
  rw [own_colV hg hc hbs hco]
  repeat' (first|refine d1 ?_|refine dd ?_|(show ∀ _:Nat,T _ _ _ _ _;intro _)|(show T _ (.code .ret::_) _ _ _;refine T_retV [] rfl (Hle.none _) ⟨rfl,rfl⟩))
end Go.Proofs.YtbfcfpmholkmeaaGreatDoor
namespace Go.Proofs.YtbfcfpmholkmeaaGreatDoor
open Go.RowKit Go.Shelf Go.Proofs
set_option maxRecDepth 100000
set_option maxHeartbeats 1000000

end Go.Proofs.YtbfcfpmholkmeaaGreatDoor
namespace Go.Proofs.YtbfcfpmholkmeaaGreatDoor
open Go.RowKit Go.Shelf Go.Lib Go.Proofs
set_option maxRecDepth 100000
set_option maxHeartbeats 2000000
def cmpI (a b:Int):Int:=if a<b then -1 else if b<a then 1 else 0
def cmpLI:List Int→List Int→Int
 | [],[]=>0
 | [],_::_ => -1
 | _::_,[]=>1
 | a::p,b::q=>if cmpI a b≠0 then cmpI a b else cmpLI p q
theorem isNaN_calls (x:Int) (W:World):Calls Tryz.prog 200 #[.int .i64 x] W fun e w'=>e = .returned (.bool false)∧w'=W:=by
 go_enter Tryz.func200,Tryz.ntmps200
 go_wp2
 go_ret
 exact⟨rfl,rfl⟩
theorem cmpI_calls (x y:Int) (W:World):Calls Tryz.prog 157 #[.int .i64 x, .int .i64 y] W fun e w'=>e = .returned (.int .i64 (cmpI x y))∧w'=W:=by
 have h1:=isNaN_calls x
 have h2:=isNaN_calls y
 go_enter Tryz.func157,Tryz.ntmps157
 go_wp2_with (first|(go_at_call 200;refine (h1 _).mono ?_;rintro e w' ⟨rfl,rfl⟩)|(go_at_call 200;refine (h2 _).mono ?_;rintro e w' ⟨rfl,rfl⟩))
 ·rename_i h;go_ret;exact⟨by unfold cmpI;rw [if_pos h];rfl,rfl⟩
 ·rename_i h9 _ _ h;go_ret;exact⟨by unfold cmpI;rw [if_neg (by omega),if_pos h];rfl,rfl⟩
 ·rename_i h;go_ret;exact⟨by unfold cmpI;rw [if_neg (by omega),if_neg (by omega)];rfl,rfl⟩
theorem cmpLI_drop {a b:List Int} {k:Nat} (ha:k<a.length) (hb:k<b.length):cmpLI (a.drop k) (b.drop k)=if cmpI (a.getD k 0) (b.getD k 0)≠0 then cmpI (a.getD k 0) (b.getD k 0) else cmpLI (a.drop (k+1)) (b.drop (k+1)):=by
 rw [List.drop_eq_getElem_cons ha,List.drop_eq_getElem_cons hb,cmpLI,List.getD_eq_getElem?_getD,List.getElem?_eq_getElem ha,List.getD_eq_getElem?_getD,List.getElem?_eq_getElem hb];rfl
theorem cmpLI_end1 {a b:List Int} {k:Nat} (ha:k<a.length) (hb:b.length≤k):cmpLI (a.drop k) (b.drop k)=1:=by
 rw [List.drop_eq_getElem_cons ha,List.drop_of_length_le hb];rfl
theorem cmpLI_end2 {a b:List Int} {k:Nat} (ha:a.length≤k) (hb:k<b.length):cmpLI (a.drop k) (b.drop k) = -1:=by
 rw [List.drop_eq_getElem_cons hb,List.drop_of_length_le ha];rfl
theorem cmpLI_end {a b:List Int} {k:Nat} (ha:a.length≤k) (hb:b.length≤k):cmpLI (a.drop k) (b.drop k)=0:=by
 rw [List.drop_of_length_le ha,List.drop_of_length_le hb];rfl
theorem compare_calls (ba oa ca bb ob cb:Nat) (a b:List Int) (W:World) (hla:a.length≤1000) (hlb:b.length≤1000) (ha:∀ j,j<a.length→W.cell? ⟨ba,oa+j,none⟩=some (.int .i64 (a.getD j 0))) (hb:∀ j,j<b.length→W.cell? ⟨bb,ob+j,none⟩=some (.int .i64 (b.getD j 0))) :
  Calls Tryz.prog 127 #[.slice (some ⟨ba,oa,none⟩) a.length ca, .slice (some ⟨bb,ob,none⟩) b.length cb] W fun e w'=>e = .returned (.int .i64 (cmpLI a b))∧w'=W:=by
 generalize hna:a.length=na at *
 generalize hnb:b.length=nb at *
 go_enter Tryz.func127,Tryz.ntmps127
 go_wp2
 go_loop [5,6,7,8,11] (fun _ _ _ _ i=>∃ k:Nat,k≤na∧k≤nb∧i = .int .i64 k∧cmpLI a b=cmpLI (a.drop k) (b.drop k)) (fun _ _ _ _ i=>match i with | .int _ m=>na - m.toNat|_=>0)
 case atStart=>exact⟨0,Nat.zero_le _,Nat.zero_le _,rfl,rfl⟩
 case round =>
  obtain⟨k,hk,hkb,rfl,he⟩:=hrel
  by_cases hka:k<na
  ·have hkz:(k:Int)<(na:Int):=by omega
   have hca:=ha k hka
   have hwr:IntKind.i64.wrap ((k:Int)+1)=(k:Int)+1:=by rw [IntKind.wrap_i64];omega
   by_cases hkb2:k<nb
   ·have hkz2:¬ (nb:Int)≤(k:Int):=by omega
    have hkz3:(k:Int)<(nb:Int):=by omega
    have hcb:=hb k hkb2
    have hc:=cmpI_calls (a.getD k 0) (b.getD k 0) W
    rw [cmpLI_drop (by omega) (by omega)] at he
    clear ha hb
    generalize a.getD k 0=x at *
    generalize b.getD k 0=y at *
    generalize cmpI x y=z at *
    by_cases hz:z=0
    ·subst hz
     rw [if_neg (by simp)] at he
     go_wp2_with (go_at_call 157;refine hc.mono ?_;rintro e w' ⟨rfl,rfl⟩)
     refine ⟨⟨k+1,by omega,by omega,rfl,he⟩,?_⟩
     show na - ((k:Int)+1).toNat<na - (k:Int).toNat
     omega
    ·have hzd:decide (z=0)=false:=decide_eq_false hz
     rw [if_pos hz] at he
     go_wp2_with (go_at_call 157;refine hc.mono ?_;rintro e w' ⟨rfl,rfl⟩)
     go_ret
     exact⟨by first|rfl|(rw [he];rfl),rfl⟩
   ·have hkz2:(nb:Int)≤(k:Int):=by omega
    rw [cmpLI_end1 (by omega) (by omega)] at he
    clear ha hb
    go_wp2
    go_ret
    exact⟨by first|rfl|(rw [he];rfl),rfl⟩
  ·have hkz:¬ (k:Int)<(na:Int):=by omega
   clear ha hb
   by_cases hab:na<nb
   ·have habz:(na:Int)<(nb:Int):=by omega
    rw [cmpLI_end2 (by omega) (by omega)] at he
    go_wp2
    go_ret
    exact⟨by first|rfl|(rw [he];rfl),rfl⟩
   ·have habz:¬ (na:Int)<(nb:Int):=by omega
    rw [cmpLI_end (by omega) (by omega)] at he
    go_wp2
    go_ret
    exact⟨by first|rfl|(rw [he];rfl),rfl⟩
theorem moves1_calls (cf:Int) (ba oa ca bb ob cb:Nat) (a b:List Int) (W:World) (hla:a.length≤1000) (hlb:b.length≤1000) (ha:∀ j,j<a.length→W.cell? ⟨ba,oa+j,none⟩=some (.int .i64 (a.getD j 0))) (hb:∀ j,j<b.length→W.cell? ⟨bb,ob+j,none⟩=some (.int .i64 (b.getD j 0)))
  (hcf:cf=if a.length≠b.length then (b.length:Int) - a.length else cmpLI a b) :
  Calls Tryz.prog 126 #[.slice (some ⟨ba,oa,none⟩) a.length ca, .slice (some ⟨bb,ob,none⟩) b.length cb] W fun e w'=>e = .returned (.int .i64 cf)∧w'=W:=by
 have hc:=compare_calls ba oa ca bb ob cb a b W hla hlb ha hb
 clear ha hb
 generalize cmpLI a b=r at *
 generalize a.length=na at *
 generalize b.length=nb at *
 by_cases hab:na=nb
 ·rw [if_neg (by simpa using hab)] at hcf
  subst hcf
  subst hab
  go_enter Tryz.func126,Tryz.ntmps126
  go_wp2_with (go_at_call 127;refine hc.mono ?_;rintro e w' ⟨rfl,rfl⟩)
  go_ret
  exact⟨rfl,rfl⟩
 ·rw [if_pos hab] at hcf
  have hd:¬ (na:Int)=(nb:Int):=by omega
  have hw:IntKind.i64.wrap ((nb:Int) - (na:Int))=(nb:Int) - (na:Int):=by rw [IntKind.wrap_i64];omega
  go_enter Tryz.func126,Tryz.ntmps126
  go_wp2
  go_ret
  exact⟨by rw [hcf];rfl,rfl⟩
end Go.Proofs.YtbfcfpmholkmeaaGreatDoor
namespace Go.Proofs.YtbfcfpmholkmeaaGreatDoor
open Go.RowKit Go.Shelf Go.Proofs
set_option maxRecDepth 100000
set_option maxHeartbeats 1000000

theorem cmpI_nat (a b:Nat):cmpI (a:Int) (b:Int)=if a<b then -1 else if b<a then 1 else 0:=by
 unfold cmpI
 by_cases h1:a<b
 ·rw [if_pos (by omega),if_pos h1]
 ·rw [if_neg (by omega),if_neg h1]
  by_cases h2:b<a
  ·rw [if_pos (by omega),if_pos h2]
  ·rw [if_neg (by omega),if_neg h2]
theorem cmpLI_nat:∀ a b:List Nat,cmpLI (intN a) (intN b)=cmpL a b
 | [],[]=>rfl
 | [],_::_=>rfl
 | _::_,[]=>rfl
 | a::p,b::q=>by
  have ih:=cmpLI_nat p q
  show (if cmpI (a:Int) (b:Int)≠0 then cmpI (a:Int) (b:Int) else cmpLI (intN p) (intN q))=_
  rw [cmpI_nat,ih,cmpL]
  by_cases h1:a<b
  ·rw [if_pos h1,if_pos h1,if_pos (by omega)]
  ·by_cases h2:b<a
   ·rw [if_neg h1,if_pos h2,if_neg h1,if_pos h2,if_pos (by omega)]
   ·rw [if_neg h1,if_neg h2,if_neg h1,if_neg h2,if_neg (by omega)]
end Go.Proofs.YtbfcfpmholkmeaaGreatDoor
namespace Go.Proofs.YtbfcfpmholkmeaaGreatDoor
open Go.RowKit Go.Shelf Go.Proofs
set_option maxRecDepth 100000
set_option maxHeartbeats 1000000

theorem volL_app:∀ a b:List Nat,volL (a++b)=volL a * volL b
 | [],b=>by show volL b=1 * volL b;omega
 | n::a,b=>by
  show (n+1) * volL (a++b)=(n+1) * volL a * volL b
  rw [volL_app a b,Nat.mul_assoc]
theorem volL_snoc {ls:List Nat} {k n:Nat} (h:ls[k]?=some n):volL (ls.take (k+1))=volL (ls.take k) * (n+1):=by
 rw [take_snoc _ _ _ h,volL_app]
 show _ * ((n+1) * 1)=_
 rw [Nat.mul_one]
theorem volL_take (ls:List Nat) (k:Nat):volL (ls.take k)≤volL ls:=by
 have h:=volL_app (ls.take k) (ls.drop k)
 rw [List.take_append_drop] at h
 rw [h]
 exact Nat.le_mul_of_pos_right _ (volL_pos _)
theorem volL_drop {ls:List Nat} {k n:Nat} (h:ls[k]?=some n):volL (ls.drop k)=volL (ls.drop (k+1)) * (n+1):=by
 obtain⟨h1,e⟩:=List.getElem?_eq_some_iff.1 h
 rw [List.drop_eq_getElem_cons h1,e]
 show (n+1) * _=_
 rw [Nat.mul_comm]
theorem volL_dropLe (ls:List Nat) (k:Nat):volL (ls.drop k)≤volL ls:=by
 have h:=volL_app (ls.take k) (ls.drop k)
 rw [List.take_append_drop] at h
 rw [h]
 exact Nat.le_mul_of_pos_left _ (volL_pos _)
theorem stpL_drop:∀ {ls:List Nat} {s:Nat},s<ls.length→stpL ls s=volL (ls.drop (s+1))
 | _::ls,0,_=>rfl
 | _::ls,s+1,h=>by
  have:=stpL_drop (ls:=ls) (s:=s) (by simpa using h)
  simpa [stpL] using this
theorem stpL_pos {ls:List Nat} {s:Nat} (h:s<ls.length):0<stpL ls s:=by rw [stpL_drop h];exact volL_pos _
theorem stpL_le {ls:List Nat} {s:Nat} (h:s<ls.length):stpL ls s≤volL ls:=by rw [stpL_drop h];exact volL_dropLe _ _
def capV (v lim:Nat):Nat:=if v≤lim then v else lim+1
theorem size19_spec (A:Option Addr) (n ca:Nat) (l:List TS) (lim:Nat) (w:World) (hg:Grp w A n l) (hlim:1≤lim∧lim≤1000000000000):Spec Tryz.prog 88 [.slice A n ca, .int .i64 (lim:Nat)] w (fun v R=>v = .int .i64 (capV (volL (lens l)) lim:Nat)∧R=[]):=by
 have hn:=hg.hn
 have hb:=hg.hb
 have hll:=lens_len l
 refine spec_of sg Tryz.func88 rfl rfl rfl ?_
 repeat' (first|refine d1 ?_|refine dd ?_|(show ∀ _:Nat,T _ _ _ _ _;intro _))
 refine T_loopX (fun k:Nat=>[(10, .int .i64 k),(5, .int .i64 (volL ((lens l).take k):Nat))]) (fun _=>[]) (fun k=>k≤n∧volL ((lens l).take k)≤lim) (fun k=>n - k) 0 ⟨Nat.zero_le _,hlim.1⟩ ?_
 rintro k ⟨hk,hv⟩
 repeat' (first|refine d1 ?_|refine dd ?_|(show ∀ _:Nat,T _ _ _ _ _;intro _))
 refine T_if rfl (fun h=>?_) (fun h=>?_)
 ·simp only [decide_eq_true_eq] at h
  have hkn:k<n:=by omega
  obtain⟨b,o,rfl⟩:=hg.hs.base (by omega)
  obtain⟨t,ht,htm,hr⟩:=hg.get hkn
  have htn:=hg.nb t htm
  have hs:=volL_snoc (lens_get ht)
  have hle:=volL_take (lens l) (k+1)
  have e:((volL ((lens l).take k):Nat):Int) * ((t.n:Int)+1)=(volL ((lens l).take (k+1)):Nat):=by rw [hs];simp
  have hbd:volL ((lens l).take (k+1))≤1000000000000 * 1001:=by rw [hs];exact Nat.mul_le_mul (by omega) (by omega)
  repeat' (first|refine d1 ?_|refine dd ?_|(show ∀ _:Nat,T _ _ _ _ _;intro _))
  rw [e]
  refine T_if rfl (fun h1=>?_) (fun h1=>?_)
  ·simp only [decide_eq_true_eq] at h1
   repeat' (first|refine d1 ?_|refine dd ?_|(show ∀ _:Nat,T _ _ _ _ _;intro _)|(show T _ (.code .ret::_) _ _ _;refine T_retV [] rfl (Hle.none _) ⟨by unfold capV;rw [if_neg (by omega)];rfl,rfl⟩))
  ·simp only [decide_eq_false_iff_not] at h1
   repeat' (first|refine d1 ?_|refine dd ?_|(show ∀ _:Nat,T _ _ _ _ _;intro _))
   exact T_backX (k+1) ⟨by omega,by omega⟩ (by omega)
 ·simp only [decide_eq_false_iff_not] at h
  obtain rfl:k=n:=by omega
  rw [List.take_of_length_le (by omega)] at hv ⊢
  repeat' (first|refine d1 ?_|refine dd ?_|(show ∀ _:Nat,T _ _ _ _ _;intro _)|(show T _ (.code .ret::_) _ _ _;refine T_retV [] rfl (Hle.none _) ⟨by unfold capV;rw [if_pos hv];rfl,rfl⟩))
def gridL (A:Option Addr) (n ca:Nat) (ls:List Nat) (j:Nat):List Value :=
 [.slice A n ca, .int .i64 (if j≤0 then stpL ls 0 else 0:Nat), .int .i64 (if j≤1 then stpL ls 1 else 0:Nat), .int .i64 (if j≤2 then stpL ls 2 else 0:Nat), .int .i64 (if j≤3 then stpL ls 3 else 0:Nat), .int .i64 (volL (ls.drop j):Nat)]
def gridM (A:Option Addr) (n ca:Nat) (ls:List Nat) (j v:Nat):List Value :=
 [.slice A n ca, .int .i64 (if j≤0 then stpL ls 0 else 0:Nat), .int .i64 (if j≤1 then stpL ls 1 else 0:Nat), .int .i64 (if j≤2 then stpL ls 2 else 0:Nat), .int .i64 (if j≤3 then stpL ls 3 else 0:Nat), .int .i64 (v:Nat)]
theorem newGrid_spec (A:Option Addr) (n ca:Nat) (l:List TS) (w:World) (hg:Grp w A n l) (h4:n≤4) (hv:volL (lens l)≤65536) :
  Spec Tryz.prog 90 [.slice A n ca] w (fun v R=>∃ g:Nat,True∧v = .pointer (some ⟨g,0,none⟩)∧R=[blk g (gridL A n ca (lens l) 0) 153]):=by
 have hn:=hg.hn
 have hll:=lens_len l
 have hz:∀ s,n≤s→stpL (lens l) s=0:=fun s hs=>by
  have:∀ (ls:List Nat) (s:Nat),ls.length≤s→stpL ls s=0:=by
   intro ls
   induction ls with
   | nil=>intro s _;rfl
   | cons a ls ih=>intro s h;cases s with
    | zero=>simp at h
    | succ s=>exact ih s (by simpa using h)
  exact this _ _ (by omega)
 refine spec_of sg Tryz.func90 rfl rfl rfl ?_
 repeat' (first|refine d1 ?_|refine dd ?_|(show ∀ _:Nat,T _ _ _ _ _;intro _))
 rename_i g
 refine T_loopX (fun j:Nat=>[(4, .int .i64 ((j:Int) - 1))]) (fun j=>[blk g (gridL A n ca (lens l) j) 153]) (fun j=>j≤n) (fun j=>j) n (Nat.le_refl _) ?_ (hG:=?_)
 ·rintro j hj
  repeat' (first|refine d1 ?_|refine dd ?_|(show ∀ _:Nat,T _ _ _ _ _;intro _))
  refine T_if rfl (fun h=>?_) (fun h=>?_)
  ·simp only [decide_eq_true_eq] at h
   obtain⟨s,rfl⟩:∃ s,j=s+1:=⟨j - 1,by omega⟩
   obtain⟨b,o,rfl⟩:=hg.hs.base (by omega)
   obtain⟨t,ht,htm,hr⟩:=hg.get (k:=s) (by omega)
   have htn:=hg.nb t htm
   rw [show ((s+1:Nat):Int) - 1=(s:Nat) by omega]
   have e1:volL ((lens l).drop s)=volL ((lens l).drop (s+1)) * (t.n+1):=volL_drop (lens_get ht)
   have e2:=stpL_drop (ls:=lens l) (s:=s) (by omega)
   have b1:=volL_dropLe (lens l) s
   have b2:=volL_dropLe (lens l) (s+1)
   have e3:((volL ((lens l).drop (s+1)):Nat):Int) * ((t.n:Int)+1)=(volL ((lens l).drop s):Nat):=by rw [e1];simp
   have hgl:∀ j,(gridL (some ⟨b,o,none⟩) n ca (lens l) j).length=6:=fun _=>rfl
   refine T_cutX 1 [] (fun _:Unit=>[]) (fun _=>[blk g ((gridL (some ⟨b,o,none⟩) n ca (lens l) (s+1)).set (0+1+(s:Int).toNat * 1) (.int .i64 (volL ((lens l).drop (s+1)):Nat))) 153]) (fun _=>True) ?_ ?_
   ·refine dw0 1000 [] ?_
    repeat' (first|(show T _ (.draw _ _ _ _ _::_) _ _ _;first|refine dw1 ?_|refine dwv rfl (by decide +kernel) rfl rfl (Val.nilc rfl) rfl rfl rfl ?_|refine dwg rfl (by decide +kernel) rfl rfl (Val.nilc rfl) rfl rfl rfl rfl rfl ?_|refine dwv rfl (by decide +kernel) rfl rfl (Val.load rfl (fun hg=>rdOwn1 rfl)) rfl rfl rfl ?_|refine dwg rfl (by decide +kernel) rfl rfl (Val.load rfl (fun hg=>rdOwn1 rfl)) rfl rfl rfl rfl rfl ?_|refine dwv rfl (by decide +kernel) rfl rfl (Val.load rfl (fun hg=>rdOld hr)) rfl rfl rfl ?_|refine dwg rfl (by decide +kernel) rfl rfl (Val.load rfl (fun hg=>rdOld hr)) rfl rfl rfl rfl rfl ?_|refine dwb rfl (by decide +kernel) ?_)|(show AllL _ [];exact True.intro)|(show AllL _ (_::_);refine ⟨?_,?_⟩)|(show OpT _ _ _ _ _ _ _;first|refine dwx ?_|refine OpT.ofVal rfl (Val.nilc rfl) rfl rfl rfl ⟨fun _=>(by first|exact Hle.none _|exact Hle.sub|exact absurd ‹_› (by decide +kernel)),?_⟩|refine OpT.ofVal rfl (Val.load rfl (fun hg=>rdOwn1 rfl)) rfl rfl rfl ⟨fun _=>(by first|exact Hle.none _|exact Hle.sub|exact absurd ‹_› (by decide +kernel)),?_⟩|refine OpT.ofVal rfl (Val.load rfl (fun hg=>rdOld hr)) rfl rfl rfl ⟨fun _=>(by first|exact Hle.none _|exact Hle.sub|exact absurd ‹_› (by decide +kernel)),?_⟩|refine OpT.store rfl rfl rfl rfl (by rw [hgl];omega) ⟨fun _=>Hle.none _,?_⟩)|(show ∀ _:Nat,T _ _ _ _ _;intro _)|(show T _ (.mark _::_) _ _ _;exact T_meetX () trivial))
   rintro⟨⟩ _
   refine T_le (H':=[blk g (gridM (some ⟨b,o,none⟩) n ca (lens l) s (volL ((lens l).drop (s+1)))) 153]) ?_ ?_
   ·have e:(gridL (some ⟨b,o,none⟩) n ca (lens l) (s+1)).set (0+1+(s:Int).toNat * 1) (.int .i64 (volL ((lens l).drop (s+1)):Nat))=gridM (some ⟨b,o,none⟩) n ca (lens l) s (volL ((lens l).drop (s+1))):=by
     obtain rfl|rfl|rfl|rfl:s=0∨s=1∨s=2∨s=3:=by omega
     all_goals (simp [gridL,gridM];rw [e2];try simp)
    rw [e]
    exact Hle.refl _
   refine T_cutX 1 [] (fun _:Unit=>[]) (fun _=>[blk g (gridL (some ⟨b,o,none⟩) n ca (lens l) s) 153]) (fun _=>True) ?_ ?_
   ·refine dw0 1000 [] ?_
    repeat' (first|(show T _ (.draw _ _ _ _ _::_) _ _ _;first|refine dw1 ?_|refine dwv rfl (by decide +kernel) rfl rfl (Val.nilc rfl) rfl rfl rfl ?_|refine dwg rfl (by decide +kernel) rfl rfl (Val.nilc rfl) rfl rfl rfl rfl rfl ?_|refine dwv rfl (by decide +kernel) rfl rfl (Val.load rfl (fun hg=>rdOwn1 rfl)) rfl rfl rfl ?_|refine dwg rfl (by decide +kernel) rfl rfl (Val.load rfl (fun hg=>rdOwn1 rfl)) rfl rfl rfl rfl rfl ?_|refine dwv rfl (by decide +kernel) rfl rfl (Val.load rfl (fun hg=>rdOld hr)) rfl rfl rfl ?_|refine dwg rfl (by decide +kernel) rfl rfl (Val.load rfl (fun hg=>rdOld hr)) rfl rfl rfl rfl rfl ?_|refine dwb rfl (by decide +kernel) ?_)|(show AllL _ [];exact True.intro)|(show AllL _ (_::_);refine ⟨?_,?_⟩)|(show OpT _ _ _ _ _ _ _;first|refine dwx ?_|refine OpT.ofVal rfl (Val.nilc rfl) rfl rfl rfl ⟨fun _=>(by first|exact Hle.none _|exact Hle.sub|exact absurd ‹_› (by decide +kernel)),?_⟩|refine OpT.ofVal rfl (Val.load rfl (fun hg=>rdOwn1 rfl)) rfl rfl rfl ⟨fun _=>(by first|exact Hle.none _|exact Hle.sub|exact absurd ‹_› (by decide +kernel)),?_⟩|refine OpT.ofVal rfl (Val.load rfl (fun hg=>rdOld hr)) rfl rfl rfl ⟨fun _=>(by first|exact Hle.none _|exact Hle.sub|exact absurd ‹_› (by decide +kernel)),?_⟩|refine OpT.store rfl rfl rfl rfl (by decide) ⟨fun _=>Hle.none _,?_⟩)|(show ∀ _:Nat,T _ _ _ _ _;intro _)|(show T _ (.mark _::_) _ _ _;exact T_meetX () trivial (hG:=by rw [e3];exact Hle.refl _)))
   rintro⟨⟩ _
   repeat' (first|refine d1 ?_|refine dd ?_|(show ∀ _:Nat,T _ _ _ _ _;intro _))
   exact T_backX s (by omega) (by omega)
  ·simp only [decide_eq_false_iff_not] at h
   obtain rfl:j=0:=by omega
   repeat' (first|refine d1 ?_|refine dd ?_|(show ∀ _:Nat,T _ _ _ _ _;intro _)|(show T _ (.code .ret::_) _ _ _;refine T_retV _ rfl (Hle.refl _) ⟨g,trivial,rfl,rfl⟩))
 ·have e:gridL A n ca (lens l) n=[.slice A n ca, .int .i64 0, .int .i64 0, .int .i64 0, .int .i64 0, .int .i64 1]:=by
   have h0:∀ s,(if n≤s then stpL (lens l) s else 0)=0:=fun s=>by split;exact hz s ‹_›;rfl
   unfold gridL
   rw [h0,h0,h0,h0,List.drop_of_length_le (by omega)];rfl
  rw [e]
  exact Hle.refl _
end Go.Proofs.YtbfcfpmholkmeaaGreatDoor
namespace Go.Proofs.YtbfcfpmholkmeaaGreatDoor
open Go.RowKit Go.Shelf Go.Proofs
set_option maxRecDepth 100000
set_option maxHeartbeats 1000000

theorem stpL_none:∀ {ls:List Nat} {s:Nat},ls.length≤s→stpL ls s=0
 | [],_,_=>rfl
 | _::_,0,h=>by simp at h
 | _::ls,s+1,h=>stpL_none (ls:=ls) (by simpa using h)
def atJ (v:List Nat) (s:Nat):List Value:=[.int .i64 (if 0<s then v.getD 0 0 else 0:Nat), .int .i64 (if 1<s then v.getD 1 0 else 0:Nat), .int .i64 (if 2<s then v.getD 2 0 else 0:Nat), .int .i64 (if 3<s then v.getD 3 0 else 0:Nat)]
def atV (v:List Nat):List Value:=[.int .i64 (v.getD 0 0:Nat), .int .i64 (v.getD 1 0:Nat), .int .i64 (v.getD 2 0:Nat), .int .i64 (v.getD 3 0:Nat)]
theorem atJ_all {v:List Nat} {n:Nat} (hv:v.length=n) (h4:n≤4):atJ v n=atV v:=by
 have h:∀ s,(if s<n then v.getD s 0 else 0)=v.getD s 0:=fun s=>by
  by_cases hs:s<n
  ·rw [if_pos hs]
  ·rw [if_neg hs,List.getD_eq_getElem?_getD,List.getElem?_eq_none (by omega)];rfl
 unfold atJ atV
 rw [h,h,h,h]
theorem gridL_stp (A:Option Addr) (n ca:Nat) (ls:List Nat) {s:Nat} (hs:s<4):(gridL A n ca ls 0)[1+s]?=some (.int .i64 (stpL ls s:Nat)):=by
 obtain rfl|rfl|rfl|rfl:s=0∨s=1∨s=2∨s=3:=by omega
 all_goals rfl
theorem at19_spec (A:Option Addr) (n ca:Nat) (l:List TS) (pg p:Nat) (w:World) (hg:Grp w A n l) (h4:n≤4) (hv:volL (lens l)≤65536) (hp:p<volL (lens l)) (hpg:RdC w pg 0 (gridL A n ca (lens l) 0)) :
  Spec Tryz.prog 129 [.pointer (some ⟨pg,0,none⟩), .int .i64 (p:Nat)] w (fun v R=>v = .agg (atV (atL (lens l) p)).toArray∧R=[]):=by
 have hn:=hg.hn
 have hll:=lens_len l
 have hal:=atL_len (lens l) p
 have hl0:RdC w pg 0 [.slice A n ca]:=fun j u hu=>by
  cases j with
  | zero=>simp at hu;subst hu;exact hpg 0 _ rfl
  | succ j=>simp at hu
 refine spec_of sg Tryz.func129 rfl rfl rfl ?_
 repeat' (first|refine d1 ?_|refine dd ?_|(show T _ (.ops _ (_::_)::_) _ _ _;first|refine T_val rfl (Val.nilc rfl) rfl rfl rfl ?_|refine T_valC rfl (Val.nilc rfl) rfl rfl rfl rfl rfl ?_)|(show T _ (.run _ _ (_::_) _ _::_) _ _ _;first|refine rv rfl rfl rfl (Val.nilc rfl) rfl rfl rfl ?_|refine rg rfl rfl rfl (Val.nilc rfl) rfl rfl rfl rfl rfl ?_)|(show ∀ _:Nat,T _ _ _ _ _;intro _))
 rename_i p4 p5
 refine T_loopX (fun s:Nat=>[(12, .int .i64 (s:Nat))]) (fun s=>[blk p5 (atJ (atL (lens l) p) s) 151,blk p4 (atJ [] 0) 151]) (fun s=>s≤n) (fun s=>n - s) 0 (Nat.zero_le _) ?_
 rintro s hs
 repeat' (first|refine d1 ?_|refine dd ?_|(show ∀ _:Nat,T _ _ _ _ _;intro _))
 refine T_if rfl (fun h=>?_) (fun h=>?_)
 ·simp only [decide_eq_true_eq] at h
  have hsn:s<n:=by omega
  obtain⟨b,o,rfl⟩:=hg.hs.base (by omega)
  obtain⟨t,ht,htm,hr⟩:=hg.get (k:=s) hsn
  have htn:=hg.nb t htm
  have hsp:=stpL_pos (ls:=lens l) (s:=s) (by omega)
  have hsl:=stpL_le (ls:=lens l) (s:=s) (by omega)
  have hst:RdC w pg (0+1+(s:Int).toNat * 1) [.int .i64 (stpL (lens l) s:Nat)]:=fun j u hu=>by
   cases j with
   | zero=>simp at hu;subst hu;have:=hpg (1+s) _ (gridL_stp _ _ _ _ (by omega));rw [show 0+1+(s:Int).toNat * 1+0=0+(1+s) by omega];exact this
   | succ j=>simp at hu
  obtain⟨q,hq⟩:∃ q,q=p / stpL (lens l) s:=⟨_,rfl⟩
  have hdv:((p:Int) / (stpL (lens l) s:Nat))=(q:Int):=by rw [hq];simp
  have hat:=atL_get p (lens_get ht)
  have hdl:q≤p:=by rw [hq];exact Nat.div_le_self _ _
  rw [← hq] at hat
  have hrm:(q:Int) % ((t.n:Int)+1)=((atL (lens l) p).getD s 0:Nat):=by
   rw [List.getD_eq_getElem?_getD,hat];simp
  have hset:(atJ (atL (lens l) p) s).set (0+(s:Int).toNat * 1) (.int .i64 ((atL (lens l) p).getD s 0:Nat))=atJ (atL (lens l) p) (s+1):=by
   obtain rfl|rfl|rfl|rfl:s=0∨s=1∨s=2∨s=3:=by omega
   all_goals simp [atJ]
  have hjl:(atJ (atL (lens l) p) s).length=4:=rfl
  repeat' (first|refine d1 ?_|refine dd ?_|(show T _ (.ops _ (_::_)::_) _ _ _;first|refine T_val rfl (Val.nilc rfl) rfl rfl rfl ?_|refine T_valC rfl (Val.nilc rfl) rfl rfl rfl rfl rfl ?_|refine T_val rfl (Val.vc rfl (fun _=>⟨by omega,by omega,by rw [hdv];simp only [inK];omega⟩)) rfl rfl rfl ?_|refine T_valC rfl (Val.vc rfl (fun _=>⟨by omega,by omega,by rw [hdv];simp only [inK];omega⟩)) rfl rfl rfl rfl rfl ?_|refine T_val rfl (Val.vc rfl (fun _=>⟨by rw [hdv];omega,by omega⟩)) rfl rfl rfl ?_|refine T_valC rfl (Val.vc rfl (fun _=>⟨by rw [hdv];omega,by omega⟩)) rfl rfl rfl rfl rfl ?_)|(show T _ (.run _ _ (_::_) _ _::_) _ _ _;first|refine rv rfl rfl rfl (Val.nilc rfl) rfl rfl rfl ?_|refine rg rfl rfl rfl (Val.nilc rfl) rfl rfl rfl rfl rfl ?_|refine rv rfl rfl rfl (Val.vc rfl (fun _=>⟨by omega,by omega,by rw [hdv];simp only [inK];omega⟩)) rfl rfl rfl ?_|refine rg rfl rfl rfl (Val.vc rfl (fun _=>⟨by omega,by omega,by rw [hdv];simp only [inK];omega⟩)) rfl rfl rfl rfl rfl ?_|refine rv rfl rfl rfl (Val.vc rfl (fun _=>⟨by rw [hdv];omega,by omega⟩)) rfl rfl rfl ?_|refine rg rfl rfl rfl (Val.vc rfl (fun _=>⟨by rw [hdv];omega,by omega⟩)) rfl rfl rfl rfl rfl ?_|refine ro rfl rfl (OpT.store rfl rfl rfl rfl (by rw [hjl];omega) ⟨fun h=>absurd h (by decide +kernel),?_⟩))|(show ∀ _:Nat,T _ _ _ _ _;intro _))
  refine T_backX (s+1) (by omega) (by omega) (hG:=?_)
  rw [← hset, ← hrm, ← hdv]
  exact Hle.refl _
 ·simp only [decide_eq_false_iff_not] at h
  obtain rfl:s=n:=by omega
  rw [atJ_all (by omega) h4]
  repeat' (first|refine d1 ?_|refine dd ?_|(show ∀ _:Nat,T _ _ _ _ _;intro _))
  refine T_le (H':=[blk p4 (atV (atL (lens l) p)) 151]) (Hle.tail _ _) ?_
  exact T_retM (vs:=[.agg (atV (atL (lens l) p)).toArray]) [] ⟨⟨p4,_,atV (atL (lens l) p),rfl,rfl,rfl,rfl,(fun h=>by cases h),rfl,rdAll⟩,trivial⟩ (Hle.none _) ⟨rfl,rfl⟩
end Go.Proofs.YtbfcfpmholkmeaaGreatDoor
namespace Go.Proofs.YtbfcfpmholkmeaaGreatDoor
open Go.RowKit Go.Shelf Go.Proofs Go.Sort Go.Lib
set_option maxRecDepth 100000
set_option maxHeartbeats 1000000

structure MvAt (p:Frag) where
 v:Value
 m:List Nat
 rd:Rd (fr p) [v] [intsD (intN m)]
 ne:m≠[]
 le:m.length≤1000
theorem mvAt_list {p:Frag}:∀ {ms:List (List Nat)} {hs:List Value},Rd (fr p) hs (ms.map fun m=>intsD (intN m))→(∀ m∈ms,m≠[]∧m.length≤1000)→∃ L:List (MvAt p),L.map MvAt.v=hs∧L.map MvAt.m=ms
 | [],hs,h,_=>by cases h;exact⟨[],rfl,rfl⟩
 | m::ms,[],h,_=>by have:=h.length;simp at this
 | m::ms,x::hs,h,hm=>by
  obtain⟨h1,h2⟩:=h.cons_inv
  obtain⟨L,e1,e2⟩:=mvAt_list h2 fun k hk=>hm k (.tail _ hk)
  have hmm:=hm m (.head _)
  exact⟨⟨x,m,h1,hmm.1,hmm.2⟩::L,by rw [List.map_cons,e1],by rw [List.map_cons,e2]⟩
theorem mvAt_rd {p:Frag}:∀ L:List (MvAt p),Rd (fr p) (L.map MvAt.v) ((L.map MvAt.m).map fun m=>intsD (intN m))
 | [] => .nil
 | x::L=>x.rd.append (mvAt_rd L)
def cfM {p:Frag} (x y:MvAt p):Int:=cmpM x.m y.m
theorem cmpM_le {a b c:List Nat} (h1:¬ cmpM a b<0) (h2:¬ cmpM b c<0):¬ cmpM a c<0:=fun h=>by
 have a1:=cmpM_neg a b
 have a2:=cmpM_neg b c
 by_cases e1:cmpM a b=0
 ·rw [cmpM_zero e1] at h;exact h2 h
 ·by_cases e2:cmpM b c=0
  ·rw [← cmpM_zero e2] at h;exact h1 h
  ·have h3:=cmpM_trans (a:=b) (b:=a) (c:=c) (by omega) h
   exact h2 h3
theorem swoM (p:Frag):SWO (ltOf (cfM (p:=p))):=by
 refine ⟨fun x=>?_,fun x y z h1 h2=>?_,fun x y z h1 h2=>?_⟩
 ·unfold ltOf cfM
  rw [cmpM_self];rfl
 ·unfold ltOf cfM at *
  exact decide_eq_true (cmpM_trans (of_decide_eq_true h1) (of_decide_eq_true h2))
 ·unfold ltOf cfM at *
  exact decide_eq_false (cmpM_le (of_decide_eq_false h1) (of_decide_eq_false h2))
theorem sortM_spec {w0:World} {cap g n:Nat} {hs:List Value} {ms:List (List Nat)} {p:Frag} (hp:Rd (fr p) hs (ms.map fun m=>intsD (intN m))) (hn:ms.length=n) (h0:0<n) (hn2:n≤1000) (hms:∀ m∈ms,m≠[]∧m.length≤1000) :
  SpecB Tryz.prog 125 [.slice (some ⟨g,0,none⟩) n cap, .func (.func 126) #[] #[]] w0 [row 67 1 (some ⟨g,0,none⟩) cap n hs,fz p]
   (fun v R=>v = .tuple #[]∧∃ (hs':List Value) (ms':List (List Nat)),Rd (fr p) hs' (ms'.map fun m=>intsD (intN m))∧ms'.Perm ms∧(ms'.Pairwise fun a b=>¬ cmpM b a<0)∧R=[row 67 1 (some ⟨g,0,none⟩) cap n hs',fz p]):=by
 refine ⟨enters_of rfl rfl rfl,fun w hw=>?_⟩
 obtain⟨L,e1,e2⟩:=mvAt_list hp hms
 have hL:L.length=n:=by rw [← hn, ← e2,List.length_map]
 have:Inhabited (MvAt p):=⟨L[0]'(by omega)⟩
 have hw2:Cls w0 w [row 67 1 (some ⟨g,0,none⟩) cap n (L.toArray.toList.map MvAt.v),fz p]:=by rw [List.toList_toArray,e1];exact hw
 obtain⟨hH,hblk⟩:=sort_holds hw2 (by simpa using hL)
 have hcmp:CmpLays1 Tryz.prog 126 #[] (MvAt.v (p:=p)) cfM g 0 L.toArray.size w:=by
  intro k os dk hdk x y
  have hW:=sort_cls (d':=dk) (m:=k) (os:=os) hw2 (by simpa using hL) hdk
  obtain⟨A,ca,hxv,hx1,hx2,hx3⟩:=(x.rd.own hW).row1
  obtain⟨B,cb,hyv,hy1,hy2,hy3⟩:=(y.rd.own hW).row1
  have l1:(intN x.m).length=x.m.length:=by simp [intN]
  have l2:(intN y.m).length=y.m.length:=by simp [intN]
  have p1:=List.length_pos_iff.2 x.ne
  have p2:=List.length_pos_iff.2 y.ne
  have q1:=x.le
  have q2:=y.le
  obtain⟨ba,oa,rfl,hca⟩:=hx3 (by omega)
  obtain⟨bb,ob,rfl,hcb⟩:=hy3 (by omega)
  have hc:=moves1_calls (cmpM x.m y.m) ba oa ca bb ob cb (intN x.m) (intN y.m) (sortWorld (MvAt.v (p:=p)) w g 0 k dk os) (by omega) (by omega)
   (fun j hj=>hca j _ (by rw [List.getElem?_eq_getElem hj,List.getD_eq_getElem?_getD,List.getElem?_eq_getElem hj];rfl)) (fun j hj=>hcb j _ (by rw [List.getElem?_eq_getElem hj,List.getD_eq_getElem?_getD,List.getElem?_eq_getElem hj];rfl))
   (by rw [cmpLI_nat,l1,l2];rfl)
  rw [← hxv, ← hyv] at hc
  exact hc.mono fun e w' ⟨h1,h2⟩=>⟨h1,0, #[],by rw [h2,grow_empty];rfl⟩
 have hS:=Tryz.slices_SortFunc (MvAt.v (p:=p)) (fun x=>by obtain⟨A,ca,h,-⟩:=x.rd.row1;rw [h];rfl) cfM (swoM p) 126 #[] g 0 cap L.toArray w (enters_of rfl rfl rfl) hcmp hH hblk (by simp;omega)
 rw [show L.toArray.size=n by simpa using hL] at hS
 refine hS.mono fun e w' hh=>?_
 obtain⟨rfl,d',k,os,hpm,hso,rfl⟩:=hh
 obtain⟨hsz,hpe⟩:=permIn_all (d:=L.toArray) (by rw [show L.toArray.size=n by simpa using hL];exact hpm)
 have hso2:=sortedIn_all (d:=d') (by rw [hsz];simpa using hL) hso
 have hfin:=sort_cls (d':=d') (m:=k) (os:=os) hw2 (by simpa using hL) hsz
 refine ⟨.tuple #[],_,rfl,⟨rfl,d'.toList.map MvAt.v,d'.toList.map MvAt.m,mvAt_rd _,?_,?_,rfl⟩,hfin.below,hfin.sep⟩
 ·have:=hpe.map MvAt.m
  rw [List.toList_toArray,e2] at this
  exact this
 ·refine List.pairwise_map.2 (hso2.imp fun {a b} h=>?_)
  exact of_decide_eq_false h
end Go.Proofs.YtbfcfpmholkmeaaGreatDoor
namespace Go.Proofs.YtbfcfpmholkmeaaGreatDoor
open Go.RowKit Go.Shelf Go.Proofs
set_option maxRecDepth 100000
set_option maxHeartbeats 1000000

def allP (n c:Nat):List (List Nat):=((List.range c).map (bitsL n)).filter fun m => !m.isEmpty
theorem allP_all (n:Nat):allP n (2 ^ n)=allL n:=rfl
theorem allP_yes {n c:Nat} (h:0<(bitsL n c).length):allP n (c+1)=allP n c++[bitsL n c]:=by
 unfold allP
 rw [List.range_succ,List.map_append,List.filter_append]
 have:(bitsL n c).isEmpty=false:=by cases hb:bitsL n c with
  | nil=>rw [hb] at h;simp at h
  | cons a l=>rfl
 show _++List.filter _ [bitsL n c]=_
 rw [List.filter_cons,this];rfl
theorem allP_no {n c:Nat} (h:¬ 0<(bitsL n c).length):allP n (c+1)=allP n c:=by
 unfold allP
 rw [List.range_succ,List.map_append,List.filter_append]
 have:bitsL n c=[]:=List.eq_nil_of_length_eq_zero (by omega)
 show _++List.filter _ [bitsL n c]=_
 rw [this]
 exact List.append_nil _
def bitsP (c s:Nat):List Nat:=(List.range s).filter fun k=>c.testBit k
theorem bitsP_succ (c s:Nat):bitsP c (s+1)=bitsP c s++if c.testBit s=true then [s] else []:=by
 unfold bitsP
 rw [List.range_succ,List.filter_append,List.filter_cons]
 rfl
theorem bitsP_len (c s:Nat):(bitsP c s).length≤s:=by
 unfold bitsP
 have:=List.length_filter_le (fun k=>c.testBit k) (List.range s)
 rwa [List.length_range] at this
theorem allP_len (n c:Nat):(allP n c).length≤c:=by
 unfold allP
 have:=List.length_filter_le (fun m:List Nat => !m.isEmpty) ((List.range c).map (bitsL n))
 rwa [List.length_map,List.length_range] at this
theorem bit_law:∀ c:Nat,c<16→∀ s:Nat,s<4→decide (andV .i64 (shrV .i64 (c:Int) (s:Int)) 1=1)=Nat.testBit c s:=by decide +kernel
theorem shl_law {n:Nat} (h4:n≤4):shlV .i64 1 (n:Int)=((2 ^ n:Nat):Int):=by
 obtain rfl|rfl|rfl|rfl|rfl:n=0∨n=1∨n=2∨n=3∨n=4:=by omega
 all_goals decide +kernel
theorem mvL_none {n:Nat} (h:n<1∨4<n):mvL n=[]:=by
 match n,h with
 | 0,_=>rfl
 | 1,h=>omega
 | 2,h=>omega
 | 3,h=>omega
 | 4,h=>omega
 | n+5,_=>rfl
theorem intN_snoc (a:List Nat) (s:Nat):(intN (a++[s])).map (Value.int .i64)=(intN a).map (Value.int .i64)++flatP [(0, .int .i64 (s:Nat))]:=by unfold intN;rw [List.map_append,List.map_append];rfl
theorem moves19_spec (z:Int) (w:World):Spec Tryz.prog 91 [.int .i64 z] w (fun v R=>∃ x:Value,True∧v=x∧R=[dat [x] [rowsD ((mvL z.toNat).map intN)]]):=by
 refine spec_of sg Tryz.func91 rfl rfl rfl ?_
 repeat' (first|refine d1 ?_|refine dd ?_|(show ∀ _:Nat,T _ _ _ _ _;intro _))
 refine T_if rfl (fun h=>?_) (fun h=>?_)
 ·simp only [Bool.or_eq_true,decide_eq_true_eq] at h
  rw [mvL_none (by omega)]
  repeat' (first|refine d1 ?_|refine dd ?_|(show ∀ _:Nat,T _ _ _ _ _;intro _)|(show T _ (.code .ret::_) _ _ _;refine T_retV _ rfl (nilC _ |>.trans (Hle.nth 0 rfl)) ⟨_,trivial,rfl,rfl⟩))
 simp only [Bool.or_eq_false_iff,decide_eq_false_iff_not] at h
 obtain⟨n,rfl⟩:∃ n:Nat,z=n:=⟨z.toNat,by omega⟩
 have h1:1≤n:=by omega
 have h4:n≤4:=by omega
 rw [Int.toNat_natCast]
 have hpw:2 ^ n≤16:=by
  obtain rfl|rfl|rfl|rfl:n=1∨n=2∨n=3∨n=4:=by omega
  all_goals decide
 repeat' (first|refine d1 ?_|refine dd ?_|(show T _ (.ops _ (_::_)::_) _ _ _;first|refine T_val rfl (Val.bits rfl (fun _=>by omega)) rfl rfl rfl ?_|refine T_valC rfl (Val.bits rfl (fun _=>by omega)) rfl rfl rfl rfl rfl ?_)|(show T _ (.run _ _ (_::_) _ _::_) _ _ _;first|refine rv rfl rfl rfl (Val.bits rfl (fun _=>by omega)) rfl rfl rfl ?_|refine rg rfl rfl rfl (Val.bits rfl (fun _=>by omega)) rfl rfl rfl rfl rfl ?_)|(show ∀ _:Nat,T _ _ _ _ _;intro _))
 rw [shl_law h4]
 refine T_le (dat_nil _) ?_
 refine T_nilrow 67 1 ?_
 refine T_loopX (fun s:Nat × (Option Addr × Nat) × List Value=>[(15, .int .i64 (s.1:Nat)),(3, .slice s.2.1.1 (allP n s.1).length s.2.1.2)]) (fun s=>[row 67 1 s.2.1.1 s.2.1.2 (allP n s.1).length s.2.2,dat s.2.2 (((allP n s.1).map intN).map intsD)]) (fun s=>s.1≤2 ^ n∧(0<(allP n s.1).length→∃ g,s.2.1.1=some ⟨g,0,none⟩)) (fun s=>2 ^ n - s.1) (0,(none,0),[]) ⟨Nat.zero_le _,fun h=>absurd h (Nat.lt_irrefl 0)⟩ ?_
 rintro⟨c,⟨A,cap⟩,hs⟩ ⟨hc,hA⟩
 dsimp only at hc hA ⊢
 have hal:=allP_len n c
 repeat' (first|refine d1 ?_|refine dd ?_|(show ∀ _:Nat,T _ _ _ _ _;intro _))
 refine T_if rfl (fun h2=>?_) (fun h2=>?_)
 ·simp only [decide_eq_true_eq] at h2
  have hcn:c<2 ^ n:=by omega
  repeat' (first|refine d1 ?_|refine dd ?_|(show ∀ _:Nat,T _ _ _ _ _;intro _))
  refine T_nilrow 3 1 ?_
  refine T_loopX (fun s:Nat × (Option Addr × Nat)=>[(19, .int .i64 (s.1:Nat)),(5, .slice s.2.1 (bitsP c s.1).length s.2.2)]) (fun s=>[row 3 1 s.2.1 s.2.2 (bitsP c s.1).length ((intN (bitsP c s.1)).map (Value.int .i64)),row 67 1 A cap (allP n c).length hs,dat hs (((allP n c).map intN).map intsD)]) (fun s=>s.1≤n) (fun s=>n - s.1) (0,(none,0)) (Nat.zero_le _) ?_
  rintro⟨s,⟨A5,cap5⟩⟩ hsn
  dsimp only at hsn ⊢
  have hbl:=bitsP_len c s
  repeat' (first|refine d1 ?_|refine dd ?_|(show ∀ _:Nat,T _ _ _ _ _;intro _))
  refine T_if rfl (fun h3=>?_) (fun h3=>?_)
  ·simp only [decide_eq_true_eq] at h3
   have hbit:=bit_law c (by omega) s (by omega)
   have hsu:=bitsP_succ c s
   repeat' (first|refine d1 ?_|refine dd ?_|(show T _ (.ops _ (_::_)::_) _ _ _;first|refine T_val rfl (Val.bits rfl (fun _=>by omega)) rfl rfl rfl ?_|refine T_valC rfl (Val.bits rfl (fun _=>by omega)) rfl rfl rfl rfl rfl ?_|refine T_val rfl (Val.bits rfl (fun _=>trivial)) rfl rfl rfl ?_|refine T_valC rfl (Val.bits rfl (fun _=>trivial)) rfl rfl rfl rfl rfl ?_)|(show T _ (.run _ _ (_::_) _ _::_) _ _ _;first|refine rv rfl rfl rfl (Val.bits rfl (fun _=>by omega)) rfl rfl rfl ?_|refine rg rfl rfl rfl (Val.bits rfl (fun _=>by omega)) rfl rfl rfl rfl rfl ?_|refine rv rfl rfl rfl (Val.bits rfl (fun _=>trivial)) rfl rfl rfl ?_|refine rg rfl rfl rfl (Val.bits rfl (fun _=>trivial)) rfl rfl rfl rfl rfl ?_)|(show ∀ _:Nat,T _ _ _ _ _;intro _))
   rw [hbit]
   refine T_if rfl (fun h5=>?_) (fun h5=>?_)
   ·rw [if_pos h5] at hsu
    repeat' (first|refine d1 ?_|refine dd ?_|(show T _ (.ops _ (_::_)::_) _ _ _;refine T_op (OpT.append (A:=A5) rfl rfl rfl rfl rfl rfl rfl rfl rfl rfl (fun w hw=>Src.own hw rfl) rfl (by dsimp only;omega) (by omega) (fun A' cap' hA'=>?_)))|(show ∀ _:Nat,T _ _ _ _ _;intro _))
    refine T_backX (s+1,(A',cap')) (by dsimp only;omega) (by dsimp only;omega) (hE:=⟨rfl,by dsimp only;rw [hsu,List.length_append];rfl,trivial⟩) (hG:=?_)
    dsimp only
    rw [hsu,List.length_append,intN_snoc,show [s].length=1 from rfl]
    exact Hle.srt
   ·rw [if_neg (by rw [h5];simp),List.append_nil] at hsu
    repeat' (first|refine d1 ?_|refine dd ?_|(show ∀ _:Nat,T _ _ _ _ _;intro _))
    exact T_backX (s+1,(A5,cap5)) (by dsimp only;omega) (by dsimp only;omega) (hE:=⟨rfl,by dsimp only;rw [hsu];rfl,trivial⟩) (hG:=by dsimp only;rw [hsu];exact Hle.refl _)
  ·simp only [decide_eq_false_iff_not] at h3
   obtain rfl:s=n:=by omega
   have hbe:bitsP c s=bitsL s c:=rfl
   rw [hbe] at hbl ⊢
   repeat' (first|refine d1 ?_|refine dd ?_|(show ∀ _:Nat,T _ _ _ _ _;intro _))
   refine T_if rfl (fun h5=>?_) (fun h5=>?_)
   ·simp only [decide_eq_true_eq] at h5
    have hsu:=allP_yes (n:=s) (c:=c) (by omega)
    repeat' (first|refine d1 ?_|refine dd ?_|(show T _ (.ops _ (_::_)::_) _ _ _;refine T_op (OpT.append (A:=A) rfl rfl rfl rfl rfl rfl rfl rfl rfl rfl (fun w hw=>Src.own hw rfl) rfl (by dsimp only;omega) (by omega) (fun A' cap' hA'=>?_)))|(show ∀ _:Nat,T _ _ _ _ _;intro _))
    refine T_backX (c+1,(A',cap'),hs++[.slice A5 (bitsL s c).length cap5]) ⟨by dsimp only;omega,fun _=>hA' (by omega)⟩ (by dsimp only;omega) (hE:=⟨rfl,by dsimp only;rw [hsu,List.length_append];rfl,trivial⟩) (hG:=?_)
    dsimp only
    rw [hsu,List.length_append,List.map_append,show [bitsL s c].length=1 from rfl,show [bitsL s c].map intN=[intN (bitsL s c)] from rfl]
    exact (Hle.srt (K:=[row 3 1 A5 cap5 (bitsL s c).length ((intN (bitsL s c)).map (Value.int .i64)),dat hs (((allP s c).map intN).map intsD),row 67 1 A' cap' ((allP s c).length+1) (hs++flatP [(0, .slice A5 (bitsL s c).length cap5)])])).trans (out_hle (cl:=intN (bitsL s c)) rfl)
   ·simp only [decide_eq_false_iff_not] at h5
    have hsu:=allP_no (n:=s) (c:=c) (by omega)
    repeat' (first|refine d1 ?_|refine dd ?_|(show ∀ _:Nat,T _ _ _ _ _;intro _))
    exact T_backX (c+1,(A,cap),hs) ⟨by dsimp only;omega,by dsimp only;rw [hsu];exact hA⟩ (by dsimp only;omega) (hE:=⟨rfl,by dsimp only;rw [hsu];rfl,trivial⟩) (hG:=by dsimp only;rw [hsu];exact Hle.tail _ _)
 ·simp only [decide_eq_false_iff_not] at h2
  obtain rfl:c=2 ^ n:=by omega
  rw [allP_all] at hal hA ⊢
  have hpos:0<(allL n).length:=by
   rw [(allL_perm h1 h4).length_eq]
   obtain rfl|rfl|rfl|rfl:n=1∨n=2∨n=3∨n=4:=by omega
   all_goals decide
  obtain⟨g,rfl⟩:=hA hpos
  have hms:∀ m∈allL n,m≠[]∧m.length≤1000:=fun m hm=>by
   have h9:=(allL_perm h1 h4).mem_iff.1 hm
   refine ⟨(mvL_ok h1 h4).ne m h9,?_⟩
   have h8:=pigeon2 n m ((mvL_ok h1 h4).nd m h9) ((mvL_ok h1 h4).lt m h9)
   omega
  refine T_le (Hle.perm (List.Perm.swap _ _ _)) ?_
  refine T_open fun p hp=>?_
  refine T_le (Hle.perm (List.Perm.swap _ _ _)) ?_
  have hp2:Rd (fr p) hs ((allL n).map fun m=>intsD (intN m)):=by rw [List.map_map] at hp;exact hp
  repeat' (first|refine d1 ?_|refine dd ?_|(show T _ (.ops _ (_::_)::_) _ _ _;refine T_op (OpT.callB rfl rfl rfl rfl rfl (sortM_spec hp2 rfl hpos (by omega) hms) (fun u R hR=>?_)))|(show ∀ _:Nat,T _ _ _ _ _;intro _))
  obtain⟨rfl,hs',ms',hp3,hpe,hso,rfl⟩:=hR
  obtain rfl:=mvL_sorted h1 h4 hpe hso
  have hl:(allL n).length=(mvL n).length:=(allL_perm h1 h4).length_eq
  rw [hl]
  have hp4:Rd (fr p) hs' (((mvL n).map intN).map intsD):=by rw [List.map_map];exact hp3
  refine T_le (Hle.weaken (i:=1) rfl (fz_dat hp4) rfl) ?_
  repeat' (first|refine d1 ?_|refine dd ?_|(show ∀ _:Nat,T _ _ _ _ _;intro _)|(show T _ (.code .ret::_) _ _ _;refine T_retV _ rfl dat_row ⟨_,trivial,rfl,by rfl⟩))
end Go.Proofs.YtbfcfpmholkmeaaGreatDoor
namespace Go.Proofs.YtbfcfpmholkmeaaGreatDoor
open Go.RowKit Go.Shelf Go.Proofs
set_option maxRecDepth 100000
set_option maxHeartbeats 1000000

theorem moves19_fn (pg p:Nat) (Am:Option Addr) (nm cm:Nat) (w:World):Spec Tryz.prog 92 [.pointer (some ⟨pg,0,none⟩), .slice Am nm cm, .int .i64 (p:Nat)] w
  (fun v R=>∃ g:Nat × Nat × Nat,True∧v = .func (.func 128) #[] #[.pointer (some ⟨g.1,0,none⟩), .pointer (some ⟨g.2.1,0,none⟩), .pointer (some ⟨g.2.2,0,none⟩)]∧R=[blk g.2.1 [.int .i64 (p:Nat)] 3,blk g.2.2 [.slice Am nm cm] 59,blk g.1 [.pointer (some ⟨pg,0,none⟩)] 147]):=by
 refine spec_of sg Tryz.func92 rfl rfl rfl ?_
 refine T_op (OpT.box (cs:=[.pointer (some ⟨pg,0,none⟩)]) rfl rfl rfl rfl rfl rfl rfl (fun g1=>?_))
 refine T_op (OpT.box (cs:=[.slice Am nm cm]) rfl rfl rfl rfl rfl rfl rfl (fun g3=>?_))
 refine T_op (OpT.box (cs:=[.int .i64 (p:Nat)]) rfl rfl rfl rfl rfl rfl rfl (fun g2=>?_))
 repeat' (first|refine d1 ?_|refine dd ?_|(show ∀ _:Nat,T _ _ _ _ _;intro _)|(show T _ (.code .ret::_) _ _ _;refine T_retV _ rfl (Hle.refl _) ⟨(g1,g2,g3),trivial,rfl,rfl⟩))
def posL (ls v:List Nat) (Ms:List (List Nat)):List (List Nat):=Ms.filter (possM ls v)
theorem posL_yes {ls v m:List Nat} {Ms:List (List Nat)} {i:Nat} (h:Ms[i]?=some m) (hp:possM ls v m=true):posL ls v (Ms.take (i+1))=posL ls v (Ms.take i)++[m]:=by
 unfold posL
 rw [take_snoc _ _ _ h,List.filter_append,List.filter_cons,hp];rfl
theorem posL_no {ls v m:List Nat} {Ms:List (List Nat)} {i:Nat} (h:Ms[i]?=some m) (hp:possM ls v m=false):posL ls v (Ms.take (i+1))=posL ls v (Ms.take i):=by
 unfold posL
 rw [take_snoc _ _ _ h,List.filter_append,List.filter_cons,hp]
 exact List.append_nil _
theorem posL_get {ls v m:List Nat} {Ms:List (List Nat)} {i:Nat} (h:Ms[i]?=some m) (hp:possM ls v m=true):(posL ls v Ms)[(posL ls v (Ms.take i)).length]?=some m:=by
 have h1:posL ls v Ms=posL ls v (Ms.take (i+1))++posL ls v (Ms.drop (i+1)):=by
  unfold posL
  rw [← List.filter_append,List.take_append_drop]
 rw [h1,posL_yes h hp,List.append_assoc,List.getElem?_append_right (Nat.le_refl _),Nat.sub_self];rfl
def QM (n:Nat) (ls v:List Nat) (j:Nat) (x:List Value) (B:List HA):Prop :=
 ∃ m b,(posL ls v (mvL n))[j]?=some m∧x=[.slice (some ⟨b,0,none⟩) n n, .int .i64 (numL ls (toM v m):Nat)]∧B=[row 3 1 (some ⟨b,0,none⟩) n n ((colT v m).map (Value.int .i64))]
theorem colMv_snoc (v:List Nat):∀ (m:List Nat) (s:Nat) (c:List Int),colMv v (m++[s]) c=(colMv v m c).set s (v.getD s 0:Nat)
 | [],s,c=>rfl
 | u::m,s,c=>by
  show colMv v (m++[s]) _=_
  rw [colMv_snoc v m s];rfl
theorem possM_snoc (ls v m:List Nat) (s:Nat):possM ls v (m++[s])=(possM ls v m && decide (v.getD s 0<ls.getD s 0)):=by
 unfold possM
 rw [List.all_append];simp
theorem sum_stp {ls:List Nat}:∀ m:List Nat,(m.map (stpL ls)).sum≤m.length * volL ls
 | []=>Nat.zero_le _
 | s::m=>by
  have h:=sum_stp (ls:=ls) m
  have h2:stpL ls s≤volL ls:=by
   by_cases hs:s<ls.length
   ·exact stpL_le hs
   ·rw [stpL_none (by omega)];exact Nat.zero_le _
  rw [List.map_cons,List.sum_cons,List.length_cons,Nat.add_mul];omega
theorem atV_get (v:List Nat) {s:Nat} (hs:s<4):(atV v)[s]?=some (.int .i64 (v.getD s 0:Nat)):=by
 obtain rfl|rfl|rfl|rfl:s=0∨s=1∨s=2∨s=3:=by omega
 all_goals rfl
theorem moves_iter {w0:World} {A:Option Addr} {n ca:Nat} {l:List TS} (hg:Grp w0 A n l) (h1:1≤n) (h4:n≤4) (hv:volL (lens l)≤65536) {p:Nat} (hp:p<volL (lens l)) (pg p1 p2 p3:Nat) {M:Value} {pm:Frag} (hM:Rd (fr pm) [M] [rowsD ((mvL n).map intN)]) :
  IterO Tryz.prog w0 128 [] [.pointer (some ⟨p1,0,none⟩), .pointer (some ⟨p2,0,none⟩), .pointer (some ⟨p3,0,none⟩)]
   [blk p2 [.int .i64 (p:Nat)] 3,blk p3 [M] 59,blk p1 [.pointer (some ⟨pg,0,none⟩)] 147,blk pg (gridL A n ca (lens l) 0) 153,fz pm]
   (QM n (lens l) (atL (lens l) p)) (posL (lens l) (atL (lens l) p) (mvL n)).length:=by
 have hn:=hg.hn
 have hll:=lens_len l
 have hvl:=atL_len (lens l) p
 have hmo:=mvL_ok h1 h4
 obtain⟨Am,cm,csm,rfl,hm1,hm2,hml,hmr,hrows⟩:=hM.tab
 rw [List.length_map] at hm1 hml hmr
 have hm15:(mvL n).length≤15:=by
  obtain rfl|rfl|rfl|rfl:n=1∨n=2∨n=3∨n=4:=by omega
  all_goals decide
 refine iterO_of sg Tryz.func128 rfl rfl rfl ?_
 intro l' GQ X Hj hY h0
 rw [List.length_map]
 show T _ _ _ _ (blk p2 [.int .i64 (p:Nat)] 3::blk p3 [.slice Am (mvL n).length cm] 59::blk p1 [.pointer (some ⟨pg,0,none⟩)] 147::blk pg (gridL A n ca (lens l) 0) 153::fz pm::Hj)
 repeat' (first|refine d1 ?_|refine dd ?_|(show T _ (.ops _ (_::_)::_) _ _ _;first|refine T_call rfl rfl rfl rfl rfl (fun w hw=>at19_spec A n ca l pg p w (hg.cls hw) h4 hv hp (rdAll w hw)) ?_|refine T_callC rfl rfl rfl rfl rfl rfl rfl (fun hg w hw=>at19_spec A n ca l pg p w (hg.cls hw) h4 hv hp (rdAll w hw)) ?_)|(show T _ (.run _ _ (_::_) _ _::_) _ _ _;first|refine rc rfl rfl rfl rfl rfl rfl rfl (fun w hw=>at19_spec A n ca l pg p w (hg.cls hw) h4 hv hp (rdAll w hw)) ?_|refine rcG rfl rfl rfl rfl rfl rfl rfl rfl rfl (fun hg w hw=>at19_spec A n ca l pg p w (hg.cls hw) h4 hv hp (rdAll w hw)) ?_)|(show ∀ _:Nat,T _ _ _ _ _;intro _))
 rename_i p5
 refine T_loopX (fun s:Nat × List HA=>[(18, .int .i64 (s.1:Nat))]) (fun s=>blk p5 (atV (atL (lens l) p)) 151::blk p2 [.int .i64 (p:Nat)] 3::blk p3 [.slice Am (mvL n).length cm] 59::blk p1 [.pointer (some ⟨pg,0,none⟩)] 147::blk pg (gridL A n ca (lens l) 0) 153::fz pm::s.2) (fun s=>s.1≤(mvL n).length∧GQ (posL (lens l) (atL (lens l) p) ((mvL n).take s.1)).length s.2) (fun s=>(mvL n).length - s.1) (0,Hj) ⟨Nat.zero_le _,h0⟩ ?_
 rintro⟨i,H1⟩ ⟨hi,hG⟩
 dsimp only at hi hG ⊢
 repeat' (first|refine d1 ?_|refine dd ?_|(show ∀ _:Nat,T _ _ _ _ _;intro _))
 refine T_if rfl (fun h=>?_) (fun h=>?_)
 ·simp only [decide_eq_true_eq] at h
  obtain⟨m,hm⟩:∃ m,(mvL n)[i]?=some m:=⟨_,List.getElem?_eq_getElem (by omega)⟩
  have hmm:=List.mem_of_getElem? hm
  have hml4:=pigeon2 n m (hmo.nd m hmm) (hmo.lt m hmm)
  obtain⟨b,o,rfl,hrd⟩:=hmr (by omega)
  obtain⟨Ar,capr,hcs,hr1,hr2,hAr⟩:=hrows.tabRow (i:=i) (r:=intN m) (by rw [List.getElem?_map,hm];rfl)
  rw [show (intN m).length=m.length by unfold intN;rw [List.length_map]] at hcs hr1 hAr
  have hmpos:0<m.length:=List.length_pos_iff.2 (hmo.ne m hmm)
  obtain⟨br,orr,rfl,hAr9⟩:=hAr hmpos
  repeat' (first|refine d1 ?_|(show T _ (.ops _ (_::_)::_) _ _ _;first|refine T_val rfl (Val.load rfl (fun hg=>rdFz (p:=pm) (u := .slice (some ⟨br,orr,none⟩) m.length capr) (b:=b) (by rw [off1];exact hrd i _ hcs))) rfl rfl rfl ?_|refine T_valC rfl (Val.load rfl (fun hg=>rdFz (p:=pm) (u := .slice (some ⟨br,orr,none⟩) m.length capr) (b:=b) (by rw [off1];exact hrd i _ hcs))) rfl rfl rfl rfl rfl ?_)|(show T _ (.run _ _ (_::_) _ _::_) _ _ _;first|refine rv rfl rfl rfl (Val.load rfl (fun hg=>rdFz (p:=pm) (u := .slice (some ⟨br,orr,none⟩) m.length capr) (b:=b) (by rw [off1];exact hrd i _ hcs))) rfl rfl rfl ?_|refine rg rfl rfl rfl (Val.load rfl (fun hg=>rdFz (p:=pm) (u := .slice (some ⟨br,orr,none⟩) m.length capr) (b:=b) (by rw [off1];exact hrd i _ hcs))) rfl rfl rfl rfl rfl ?_)|(show ∀ _:Nat,T _ _ _ _ _;intro _))
  refine rsH [blk p5 (atV (atL (lens l) p)) 151,blk p2 [.int .i64 (p:Nat)] 3,blk p3 [.slice (some ⟨b,o,none⟩) (mvL n).length cm] 59,blk p1 [.pointer (some ⟨pg,0,none⟩)] 147,blk pg (gridL A n ca (lens l) 0) 153,fz pm] 1000 [1,2,3,4,5,7,0,6,8,9,10] ?_
  repeat' (first|refine d1 ?_|refine dd ?_|(show T _ (.ops _ (_::_)::_) _ _ _;first|refine T_val rfl (Val.nilc rfl) rfl rfl rfl ?_|refine T_valC rfl (Val.nilc rfl) rfl rfl rfl rfl rfl ?_)|(show T _ (.run _ _ (_::_) _ _::_) _ _ _;first|refine rv rfl rfl rfl (Val.nilc rfl) rfl rfl rfl ?_|refine rg rfl rfl rfl (Val.nilc rfl) rfl rfl rfl rfl rfl ?_|refine ro rfl rfl (OpT.litW rfl rfl rfl rfl rfl rfl rfl rfl rfl rfl rfl (fun b3=>⟨fun _=>Hle.sub,?_⟩))|refine ro rfl rfl (OpT.call rfl rfl rfl rfl rfl (fun w hw=>repeatI_spec (-1) (some ⟨_,0,none⟩) 1 n w (Src.own hw rfl) (by omega)) (fun u R hR=>?_)))|(show ∀ _:Nat,T _ _ _ _ _;intro _))
  obtain⟨bz,-,rfl,rfl⟩:=hR
  refine ⟨fun _=>(Hle.tail _ _).trans ((Hle.tail _ _).trans (Hle.append_left (A:=[blk p5 (atV (atL (lens l) p)) 151,blk p2 [.int .i64 (p:Nat)] 3,blk p3 [.slice (some ⟨b,o,none⟩) (mvL n).length cm] 59,blk p1 [.pointer (some ⟨pg,0,none⟩)] 147,blk pg (gridL A n ca (lens l) 0) 153,fz pm]) H1)),?_⟩
  show T _ _ _ _ (row 3 1 (some ⟨bz,0,none⟩) n n (List.replicate n (.int .i64 (-1)))::blk _ _ _::blk p5 (atV (atL (lens l) p)) 151::blk p2 [.int .i64 (p:Nat)] 3::blk p3 [.slice (some ⟨b,o,none⟩) (mvL n).length cm] 59::blk p1 [.pointer (some ⟨pg,0,none⟩)] 147::blk pg (gridL A n ca (lens l) 0) 153::fz pm::H1)
  repeat' (first|refine d1 ?_|refine dd ?_|(show ∀ _:Nat,T _ _ _ _ _;intro _))
  have hz0:List.replicate n (Value.int .i64 (-1))=(colMv (atL (lens l) p) (m.take 0) (List.replicate n (-1))).map (Value.int .i64):=by rw [List.take_zero];unfold colMv;rw [List.map_replicate]
  rw [hz0]
  refine T_loopX (fun s:Nat=>[(32, .int .i64 (s:Nat)),(9, .int .i64 ((p+((m.take s).map (stpL (lens l))).sum:Nat):Int)),(10, .bool (possM (lens l) (atL (lens l) p) (m.take s)))]) (fun s=>row 3 1 (some ⟨bz,0,none⟩) n n ((colMv (atL (lens l) p) (m.take s) (List.replicate n (-1))).map (Value.int .i64))::blk p5 (atV (atL (lens l) p)) 151::blk p2 [.int .i64 (p:Nat)] 3::blk p3 [.slice (some ⟨b,o,none⟩) (mvL n).length cm] 59::blk p1 [.pointer (some ⟨pg,0,none⟩)] 147::blk pg (gridL A n ca (lens l) 0) 153::fz pm::H1) (fun s=>s≤m.length) (fun s=>m.length - s) 0 (Nat.zero_le _) ?_ (hG:=Hle.drop2 _ _ _)
  rintro s hs
  repeat' (first|refine d1 ?_|refine dd ?_|(show ∀ _:Nat,T _ _ _ _ _;intro _))
  refine T_if rfl (fun h5=>?_) (fun h5=>?_)
  ·simp only [decide_eq_true_eq] at h5
   obtain⟨u,hu⟩:∃ u,m[s]?=some u:=⟨_,List.getElem?_eq_getElem (by omega)⟩
   have hun:=hmo.lt m hmm u (List.mem_of_getElem? hu)
   have htk:=take_snoc _ _ _ hu
   obtain⟨ba,oa,rfl⟩:=hg.hs.base (by omega)
   obtain⟨t,ht,htm,htr⟩:=hg.get (k:=u) hun
   have htn:=hg.nb t htm
   have hsl:=stpL_le (ls:=lens l) (s:=u) (by omega)
   have hsum:=sum_stp (ls:=lens l) (m.take s)
   have hlt4:(m.take s).length≤4:=by rw [List.length_take];omega
   have hms:=Nat.mul_le_mul hlt4 hv
   have hst:∀ w,RdC w pg 0 (gridL (some ⟨ba,oa,none⟩) n ca (lens l) 0)→RdC w pg (0+1+(u:Int).toNat * 1) [.int .i64 (stpL (lens l) u:Nat)]:=fun w hpg=>RdC.one (by have:=hpg (1+u) _ (gridL_stp _ _ _ _ (by omega));rw [show 0+1+(u:Int).toNat * 1=0+(1+u) by omega];exact this)
   have hat:∀ w,RdC w p5 0 (atV (atL (lens l) p))→RdC w p5 (0+(u:Int).toNat * 1) [.int .i64 ((atL (lens l) p).getD u 0:Nat)]:=fun w hp5=>RdC.one (by have:=hp5 u _ (atV_get _ (by omega));rw [show 0+(u:Int).toNat * 1=0+u by omega];exact this)
   have hmu:fr pm br (orr+(s:Int).toNat * 1)=some (.int .i64 (u:Nat)):=by rw [off1];exact hAr9 s _ (by unfold intN;rw [List.getElem?_map,hu];rfl)
   repeat' (first|refine d1 ?_|refine dd ?_|(show T _ (.ops _ (_::_)::_) _ _ _;first|refine T_val rfl (Val.nilc rfl) rfl rfl rfl ?_|refine T_valC rfl (Val.nilc rfl) rfl rfl rfl rfl rfl ?_|refine T_val rfl (Val.load rfl (fun hg=>rdFz (p:=pm) hmu)) rfl rfl rfl ?_|refine T_valC rfl (Val.load rfl (fun hg=>rdFz (p:=pm) hmu)) rfl rfl rfl rfl rfl ?_|refine T_val rfl (Val.load rfl (fun hg=>(fun w hw=>hat w (rdAll w hw)))) rfl rfl rfl ?_|refine T_valC rfl (Val.load rfl (fun hg=>(fun w hw=>hat w (rdAll w hw)))) rfl rfl rfl rfl rfl ?_|refine T_val rfl (Val.load rfl (fun hg=>(fun w hw=>hst w (rdAll w hw)))) rfl rfl rfl ?_|refine T_valC rfl (Val.load rfl (fun hg=>(fun w hw=>hst w (rdAll w hw)))) rfl rfl rfl rfl rfl ?_|refine T_op (OpT.storeR (us:=[.int .i64 ((atL (lens l) p).getD u 0:Nat)]) rfl rfl rfl rfl rfl rfl (by show 0+(u:Int).toNat * 1+1≤n * 1;omega) ?_))|(show T _ (.run _ _ (_::_) _ _::_) _ _ _;first|refine rv rfl rfl rfl (Val.nilc rfl) rfl rfl rfl ?_|refine rg rfl rfl rfl (Val.nilc rfl) rfl rfl rfl rfl rfl ?_|refine rv rfl rfl rfl (Val.load rfl (fun hg=>rdFz (p:=pm) hmu)) rfl rfl rfl ?_|refine rg rfl rfl rfl (Val.load rfl (fun hg=>rdFz (p:=pm) hmu)) rfl rfl rfl rfl rfl ?_|refine rv rfl rfl rfl (Val.load rfl (fun hg=>(fun w hw=>hat w (rdAll w hw)))) rfl rfl rfl ?_|refine rg rfl rfl rfl (Val.load rfl (fun hg=>(fun w hw=>hat w (rdAll w hw)))) rfl rfl rfl rfl rfl ?_|refine rv rfl rfl rfl (Val.load rfl (fun hg=>(fun w hw=>hst w (rdAll w hw)))) rfl rfl rfl ?_|refine rg rfl rfl rfl (Val.load rfl (fun hg=>(fun w hw=>hst w (rdAll w hw)))) rfl rfl rfl rfl rfl ?_)|(show ∀ _:Nat,T _ _ _ _ _;intro _))
   have h9:((p+((m.take (s+1)).map (stpL (lens l))).sum:Nat):Int)=((p+((m.take s).map (stpL (lens l))).sum:Nat):Int)+(stpL (lens l) u:Nat):=by rw [htk,List.map_append,List.sum_append];simp;omega
   have hgl:(lens l).getD u 0=t.n:=by rw [List.getD_eq_getElem?_getD,lens_get ht];rfl
   have h10:possM (lens l) (atL (lens l) p) (m.take (s+1))=(possM (lens l) (atL (lens l) p) (m.take s) && decide ((((atL (lens l) p).getD u 0:Nat):Int)<(t.n:Nat))):=by
    rw [htk,possM_snoc,hgl,decide_eq_decide.2 (show (atL (lens l) p).getD u 0<t.n↔(((atL (lens l) p).getD u 0:Nat):Int)<(t.n:Nat) by omega)]
   refine T_backX (s+1) (by omega) (by omega) (hE:=⟨rfl,by rw [h9];rfl,by rw [h10];rfl,trivial⟩) (hG:=?_)
   rw [htk,colMv_snoc,List.map_set,show 0+(u:Int).toNat * 1=u by omega]
   exact Hle.refl _
  ·simp only [decide_eq_false_iff_not] at h5
   obtain rfl:s=m.length:=by omega
   rw [List.take_length]
   have hnm:p+(m.map (stpL (lens l))).sum=numL (lens l) (toM (atL (lens l) p) m):=by rw [toM_num _ _ _ hvl (fun s hs=>by rw [hvl,hll,hn];exact hmo.lt m hmm s hs),num_at _ _ hp]
   have hct:colMv (atL (lens l) p) m (List.replicate n (-1))=colT (atL (lens l) p) m:=by unfold colT;rw [hvl,hll,hn]
   rw [hnm,hct]
   cases hpo:possM (lens l) (atL (lens l) p) m with
   | true =>
    have hpg:=posL_get hm hpo
    have hy:=posL_yes hm hpo
    repeat' (first|refine d1 ?_|refine dd ?_|(show T _ (.ops _ (_::_)::_) _ _ _;refine T_op (OpT.yieldO [row 3 1 (some ⟨bz,0,none⟩) n n ((colT (atL (lens l) p) m).map (Value.int .i64))] [blk p5 (atV (atL (lens l) p)) 151,blk p2 [.int .i64 (p:Nat)] 3,blk p3 [.slice (some ⟨b,o,none⟩) (mvL n).length cm] 59,blk p1 [.pointer (some ⟨pg,0,none⟩)] 147,blk pg (gridL A n ca (lens l) 0) 153,fz pm] hY rfl rfl (Holds.of1 rfl rfl rfl) rfl rfl rfl (List.getElem?_eq_some_iff.1 hpg).1 ⟨m,bz,hpg,rfl,rfl⟩ hG (Hle.comm [_,_,_,_,_,_,_] H1) (fun H2 hG2=>?_) (fun Y hX=>?_)))|(show ∀ _:Nat,T _ _ _ _ _;intro _))
    ·show T _ _ _ _ (blk p5 (atV (atL (lens l) p)) 151::blk p2 [.int .i64 (p:Nat)] 3::blk p3 [.slice (some ⟨b,o,none⟩) (mvL n).length cm] 59::blk p1 [.pointer (some ⟨pg,0,none⟩)] 147::blk pg (gridL A n ca (lens l) 0) 153::fz pm::H2)
     repeat' (first|refine d1 ?_|refine dd ?_|(show ∀ _:Nat,T _ _ _ _ _;intro _))
     refine T_if rfl (fun h3=>by exfalso;simp at h3) (fun _=>?_)
     repeat' (first|refine d1 ?_|refine dd ?_|(show ∀ _:Nat,T _ _ _ _ _;intro _))
     exact T_backX (i+1,H2) ⟨by dsimp only;omega,by dsimp only;rw [hy,List.length_append];exact hG2⟩ (by dsimp only;omega)
    ·show T _ _ _ _ (blk p5 (atV (atL (lens l) p)) 151::blk p2 [.int .i64 (p:Nat)] 3::blk p3 [.slice (some ⟨b,o,none⟩) (mvL n).length cm] 59::blk p1 [.pointer (some ⟨pg,0,none⟩)] 147::blk pg (gridL A n ca (lens l) 0) 153::fz pm::Y)
     repeat' (first|refine d1 ?_|refine dd ?_|(show ∀ _:Nat,T _ _ _ _ _;intro _))
     refine T_if rfl (fun _=>?_) (fun h3=>by exfalso;simp at h3)
     repeat' (first|refine d1 ?_|refine dd ?_|(show ∀ _:Nat,T _ _ _ _ _;intro _)|(show T _ (.code .ret::_) _ _ _;refine T_istop rfl Y hX (Hle.tail _ _)))
   | false =>
    have hy:=posL_no hm hpo
    repeat' (first|refine d1 ?_|refine dd ?_|(show T _ (.ops _ (_::_)::_) _ _ _;refine T_op (OpT.never (.bool false) rfl (fun hg9=>by have h10:(false:Bool)=true:=hg9.1;cases h10) rfl rfl rfl rfl rfl ?_))|(show ∀ _:Nat,T _ _ _ _ _;intro _))
    refine T_if rfl (fun h3=>by exfalso;simp at h3) (fun _=>?_)
    repeat' (first|refine d1 ?_|refine dd ?_|(show ∀ _:Nat,T _ _ _ _ _;intro _))
    exact T_backX (i+1,H1) ⟨by dsimp only;omega,by dsimp only;rw [hy];exact hG⟩ (by dsimp only;omega) (hG:=Hle.tail _ _)
 ·simp only [decide_eq_false_iff_not] at h
  obtain rfl:i=(mvL n).length:=by omega
  rw [List.take_length] at hG
  repeat' (first|refine d1 ?_|refine dd ?_|(show ∀ _:Nat,T _ _ _ _ _;intro _))
  exact T_ifall rfl H1 hG (Hle.tail _ _)
end Go.Proofs.YtbfcfpmholkmeaaGreatDoor
namespace Go.Proofs.YtbfcfpmholkmeaaGreatDoor
open Go.RowKit Go.Shelf Go.Proofs
set_option maxRecDepth 100000
set_option maxHeartbeats 1000000

theorem colT_ok {l:List TS} {v m:List Nat} (hv:v.length=l.length) (hm:∀ s∈m,s<l.length) (hp:possM (lens l) v m=true):ColOk l (colT v m):=by
 refine ⟨by rw [colT_len,hv],fun j z s hz hs=>?_⟩
 have hj:j<v.length:=by rw [hv];exact (List.getElem?_eq_some_iff.1 hs).1
 have h1:=colT_get (v:=v) (m:=m) hj
 rw [List.getD_eq_getElem?_getD,hz] at h1
 have h1':z=if j∈m then ((v.getD j 0:Nat):Int) else -1:=h1
 by_cases hjm:j∈m
 ·rw [if_pos hjm] at h1'
  have h2:=possM_iff.1 hp j hjm
  rw [show (lens l).getD j 0=s.n by rw [List.getD_eq_getElem?_getD,lens_get hs];rfl] at h2
  omega
 ·rw [if_neg hjm] at h1'
  omega
theorem foldB_ub {p:List Nat→Bool} {f:List Nat→Int} {B:Int} (hf:∀ m,f m≤B):∀ (ms:List (List Nat)) (a:Int),a≤B→foldB p f ms a≤B
 | [],a,h=>h
 | m::ms,a,h=>by
  show foldB p f ms (cond (p m) (bst a (f m)) a)≤B
  refine foldB_ub hf ms _ ?_
  have h1:=hf m
  have h2:=(bst_le (a:=a) (x:=f m)).2
  cases p m with
  | false=>exact h
  | true=>show bst a (f m)≤B;omega
theorem rsM_ub {K:List Int→Int} {B:Int} (h0:0≤B) (hK:∀ x,K x≤B) (ls:List Nat) (Ms:List (List Nat)):∀ f v,rsM K ls Ms f v≤B * f
 | 0,v=>by unfold rsM;simp
 | f+1,v=>by
  have h1:0≤B * (f+1:Nat):=Int.mul_nonneg h0 (by omega)
  have h2:=foldB_ub (p:=possM ls v) (f:=fun m=>K (colT v m)+rsM K ls Ms f (toM v m)) (B:=B * (f+1:Nat)) (fun m=>by
   have h3:=hK (colT v m)
   have h4:=rsM_ub h0 hK ls Ms f (toM v m)
   have h5:B * ((f+1:Nat):Int)=B * f+B:=by rw [show ((f+1:Nat):Int)=(f:Int)+1 by omega,Int.mul_add,Int.mul_one]
   omega) Ms (-1) (by omega)
  unfold rsM
  omega
theorem sumL_lens {l:List TS} (h:∀ t∈l,t.n≤1000):sumL (lens l)≤1000 * l.length:=by
 induction l with
 | nil=>exact Nat.zero_le _
 | cons t l ih =>
  have h1:=h t (.head _)
  have h2:=ih fun x hx=>h x (.tail _ hx)
  show t.n+sumL (lens l)≤_
  rw [List.length_cons]
  omega
theorem rsV_ub {c:Costs} (hc:costE c=0) {l:List TS} (h4:l.length≤4) (hb:∀ t∈l,t.n≤1000) (v:List Nat) (Ms:List (List Nat)):0≤rsV (colZ c l) (lens l) Ms v∧rsV (colZ c l) (lens l) Ms v≤4096000000:=by
 refine ⟨rsV_nn _ _ _ _,?_⟩
 unfold rsV
 have h1:=rsM_ub (K:=colZ c l) (B:=1024000) (by omega) (fun x=>(colZ_bd hc (by omega) x).2) (lens l) Ms (sumL (lens l) - sumL v) v
 have h2:=sumL_lens hb
 omega
theorem foldB_posL {ls v:List Nat} {f:List Nat→Int}:∀ (Ms:List (List Nat)) (a:Int),foldB (possM ls v) f (posL ls v Ms) a=foldB (possM ls v) f Ms a
 | [],a=>rfl
 | m::Ms,a=>by
  unfold posL
  rw [List.filter_cons]
  cases hp:possM ls v m with
  | true =>
   show foldB _ _ (posL ls v Ms) (cond (possM ls v m) _ _)=foldB _ _ Ms (cond (possM ls v m) _ _)
   exact foldB_posL Ms _
  | false =>
   show foldB _ _ (posL ls v Ms) a=foldB _ _ Ms (cond (possM ls v m) _ _)
   rw [hp]
   exact foldB_posL Ms _
theorem posL_mem {ls v m:List Nat} {Ms:List (List Nat)} (h:m∈posL ls v Ms):m∈Ms∧possM ls v m=true:=List.mem_filter.1 h
theorem find_posL {K:List Int→Int} {ls v:List Nat}:∀ Ms Ns:List (List Nat),(posL ls v Ms).find? (fitM K ls Ns v)=Ms.find? (fitM K ls Ns v)
 | [],Ns=>rfl
 | m::Ms,Ns=>by
  unfold posL
  rw [List.filter_cons,List.find?_cons (a:=m)]
  cases hp:possM ls v m with
  | true =>
   show List.find? _ (m::posL ls v Ms)=_
   rw [List.find?_cons,find_posL Ms Ns]
  | false =>
   have hf:fitM K ls Ns v m=false:=by unfold fitM;rw [hp];rfl
   show List.find? _ (posL ls v Ms)=_
   rw [hf,find_posL Ms Ns]
end Go.Proofs.YtbfcfpmholkmeaaGreatDoor
namespace Go.Proofs.YtbfcfpmholkmeaaGreatDoor
open Go.RowKit Go.Shelf Go.Proofs
set_option maxRecDepth 100000
set_option maxHeartbeats 1000000

def aln19 (c:Costs) (l:List TS):List (List Int) × Int × Int :=
 if usV c l≠0 then ([],0,usV c l) else if 4<l.length∨65536<volL (lens l) then ([],0,4) else (alnW c l,lstV c l,0)
theorem usV_ok {c:Costs} {l:List TS} (h:usV c l=0):1≤l.length∧costE c=0∧badS l=false:=by
 unfold usV at h
 by_cases h1:l.length=0
 ·rw [if_pos h1] at h;omega
 ·rw [if_neg h1] at h
  unfold ck21 at h
  by_cases h2:costE c=0∧badS l=false
  ·exact⟨by omega,h2⟩
  ·rw [if_neg h2] at h;omega
theorem rdAt {w:World} {b:Nat} {L:List Int} (h:RdC w b 0 (L.map (Value.int .i64))) {q off:Nat} {z:Int} (ho:off=q) (hz:L[q]?=some z):RdC w b off [.int .i64 z]:=by
 subst ho
 refine RdC.one ?_
 have:=h off _ (by rw [List.getElem?_map,hz];rfl)
 rw [Nat.zero_add] at this
 exact this
theorem stp_pos {ls m:List Nat} (h:m≠[]) (hm:∀ s∈m,s<ls.length):0<(m.map (stpL ls)).sum:=by
 cases m with
 | nil=>exact absurd rfl h
 | cons s m =>
  have:=stpL_pos (hm s (.head _))
  rw [List.map_cons,List.sum_cons];omega
theorem numL_zero:∀ (ls:List Nat) (n:Nat),numL ls (List.replicate n 0)=0
 | [],n=>by cases n <;> rfl
 | _::ls,0=>rfl
 | _::ls,n+1=>by
  show 0 * _+numL ls (List.replicate n 0)=0
  rw [numL_zero ls n];simp
theorem align19_spec (c:Costs) (A:Option Addr) (n ca:Nat) (l:List TS) (w:World) (hg:Grp w A n l) :
  Spec Tryz.prog 54 [c.val, .slice A n ca] w (fun v R=>∃ x:Value,True∧v = .tuple #[x, .int .i64 (aln19 c l).2.1, .int .i64 (aln19 c l).2.2]∧R=[dat [x] [rowsD (aln19 c l).1]]):=by
 have hn:=hg.hn
 have hll:=lens_len l
 have hb:=hg.hb
 refine spec_of sg Tryz.func54 rfl rfl rfl ?_
 refine T_op (OpT.box (cs:=c.cells) rfl rfl rfl rfl rfl rfl rfl (fun pc=>?_))
 refine T_op (OpT.box (cs:=[.slice A n ca]) rfl rfl rfl rfl rfl rfl rfl (fun pl=>?_))
 repeat' (first|refine d1 ?_|refine dd ?_|(show T _ (.ops _ (_::_)::_) _ _ _;first|refine T_call rfl rfl rfl rfl rfl (fun w hw=>usable19_spec c A n ca l w (hg.cls hw)) ?_|refine T_callC rfl rfl rfl rfl rfl rfl rfl (fun hg w hw=>usable19_spec c A n ca l w (hg.cls hw)) ?_)|(show T _ (.run _ _ (_::_) _ _::_) _ _ _;first|refine rc rfl rfl rfl rfl rfl rfl rfl (fun w hw=>usable19_spec c A n ca l w (hg.cls hw)) ?_|refine rcG rfl rfl rfl rfl rfl rfl rfl rfl rfl (fun hg w hw=>usable19_spec c A n ca l w (hg.cls hw)) ?_)|(show ∀ _:Nat,T _ _ _ _ _;intro _))
 refine T_if rfl (fun h=>?_) (fun h=>?_)
 ·have h0:usV c l≠0:=by simpa using h
  unfold aln19
  rw [if_pos h0]
  repeat' (first|refine d1 ?_|refine dd ?_|(show ∀ _:Nat,T _ _ _ _ _;intro _)|(show T _ (.code .ret::_) _ _ _;refine T_retV _ rfl (nilC _ |>.trans (Hle.nth 0 rfl)) ⟨_,trivial,rfl,rfl⟩))
 have h0:usV c l=0:=by simpa using h
 obtain⟨h1,hc,hbs⟩:=usV_ok h0
 repeat' (first|refine d1 ?_|refine dd ?_|(show ∀ _:Nat,T _ _ _ _ _;intro _))
 refine T_callC rfl rfl rfl rfl rfl rfl rfl (fun _ w hw=>size19_spec A n ca l 65536 w (hg.cls hw) ⟨by omega,by omega⟩) ?_
 repeat' (first|refine d1 ?_|refine dd ?_|(show ∀ _:Nat,T _ _ _ _ _;intro _))
 refine T_if rfl (fun h2=>?_) (fun h2=>?_)
 ·have hbig:4<l.length∨65536<volL (lens l):=by
   unfold capV at h2
   simp only [Bool.or_eq_true,decide_eq_true_eq] at h2
   split at h2 <;> omega
  unfold aln19
  rw [if_neg (by simpa using h0),if_pos hbig]
  repeat' (first|refine d1 ?_|refine dd ?_|(show ∀ _:Nat,T _ _ _ _ _;intro _)|(show T _ (.code .ret::_) _ _ _;refine T_retV _ rfl (nilC _ |>.trans (Hle.nth 0 rfl)) ⟨_,trivial,rfl,rfl⟩))
 have hsm:l.length≤4∧volL (lens l)≤65536:=by
  unfold capV at h2
  simp only [Bool.or_eq_false_iff,decide_eq_false_iff_not] at h2
  split at h2 <;> omega
 have h4:n≤4:=by omega
 have hv:=hsm.2
 have hv0:volL ((lens l).drop 0)≤65536:=hv
 have ha:aln19 c l=(alnW c l,lstV c l,0):=by
  unfold aln19
  rw [if_neg (by simpa using h0),if_neg (by omega)]
 rw [ha]
 refine rsH [blk pl [.slice A n ca] 23,blk pc c.cells 65] 1000 [0,2,3,1,4,5,6] ?_
 repeat' (first|refine d1 ?_|refine dd ?_|(show T _ (.run _ _ (_::_) _ _::_) _ _ _;refine ro rfl rfl (OpT.call rfl rfl rfl rfl rfl (fun w hw=>newGrid_spec A n ca l w (hg.cls hw) h4 hv) (fun u R hR=>?_)))|(show ∀ _:Nat,T _ _ _ _ _;intro _))
 obtain⟨pg,-,rfl,rfl⟩:=hR
 refine ⟨fun _=>Hle.tail _ _,?_⟩
 show T _ _ _ _ (blk pg (gridL A n ca (lens l) 0) 153::blk pl [.slice A n ca] 23::blk pc c.cells 65::[])
 repeat' (first|refine d1 ?_|refine dd ?_|(show T _ (.run _ _ (_::_) _ _::_) _ _ _;refine ro rfl rfl (OpT.call rfl rfl rfl rfl rfl (fun w hw=>moves19_spec (n:Int) w) (fun xm R hR=>?_)))|(show ∀ _:Nat,T _ _ _ _ _;intro _))
 obtain⟨_,-,rfl,rfl⟩:=hR
 refine ⟨fun _=>(Hle.tail _ _).trans (Hle.tail _ _),?_⟩
 show T _ _ _ _ (dat [xm] [rowsD ((mvL n).map intN)]::blk pg (gridL A n ca (lens l) 0) 153::blk pl [.slice A n ca] 23::blk pc c.cells 65::[])
 refine T_open fun pm hM=>?_
 obtain⟨Am,cm,csm,rfl,-⟩:=hM.tab
 rw [List.length_map] at hM ⊢
 repeat' (first|refine d1 ?_|refine dd ?_|(show T _ (.ops _ (_::_)::_) _ _ _;first|refine T_val rfl (Val.nilc rfl) rfl rfl rfl ?_|refine T_valC rfl (Val.nilc rfl) rfl rfl rfl rfl rfl ?_|refine T_op (OpT.make rfl rfl rfl rfl rfl rfl rfl rfl rfl (by dsimp only;omega) (fun b1=>?_)))|(show T _ (.run _ _ (_::_) _ _::_) _ _ _;first|refine rv rfl rfl rfl (Val.nilc rfl) rfl rfl rfl ?_|refine rg rfl rfl rfl (Val.nilc rfl) rfl rfl rfl rfl rfl ?_)|(show ∀ _:Nat,T _ _ _ _ _;intro _))
 rename_i p10 p11
 obtain⟨V,hV⟩:∃ V,V=volL (lens l):=⟨_,rfl⟩
 have hVd:volL ((lens l).drop 0)=V:=hV.symm
 have hVp:0<V:=by rw [hV];exact volL_pos _
 rw [hVd]
 have hall:=num_all (lens l)
 rw [← hV] at hall hv
 have hself:=at_num (InB.self (lens l))
 have hno:=mvL_ok (show 1≤n by omega) h4
 have hn4:l.length≤4:=by omega
 have hlsn:(lens l).length=n:=by omega
 obtain⟨F,hF⟩:∃ F:Nat→Int,F=fun q=>rsV (colZ c l) (lens l) (mvL n) (atL (lens l) q):=⟨_,rfl⟩
 have hFb:∀ q,0≤F q∧F q≤4096000000:=fun q=>by rw [hF];exact rsV_ub hc hn4 hg.nb _ _
 refine T_keep [(2, .pointer (some ⟨pc,0,none⟩)),(3, .pointer (some ⟨pl,0,none⟩)),(8, .pointer (some ⟨pg,0,none⟩)),(9, .slice Am (mvL n).length cm),(10, .pointer (some ⟨p10,0,none⟩)),(11, .pointer (some ⟨p11,0,none⟩))] ⟨rfl,rfl,rfl,rfl,rfl,rfl,trivial⟩ ?_
 refine T_le (H':=blk p11 [.int .i64 (((V - 1:Nat):Int) - 1)] 3::blk p10 [.slice (some ⟨b1,0,none⟩) V V] 67::blk b1 ((List.replicate V 0).map (Value.int .i64)) 3::fz pm::blk pg (gridL A n ca (lens l) 0) 153::blk pl [.slice A n ca] 23::blk pc c.cells 65::[]) ?_ ?_
 ·rw [show ((V - 1:Nat):Int) - 1=(V:Int) - 2 by omega,List.map_replicate]
  exact Hle.refl _
 show T (FC _ _ (([]:List Nat).map mkD) _ _ _) _ _ _ _
 refine T_loopDX (fun s:Nat × Nat × List Int × List Nat=>[(11, .pointer (some ⟨s.2.1,0,none⟩))]) (fun s=>blk s.2.1 [.int .i64 ((s.1:Int) - 1)] 3::blk p10 [.slice (some ⟨b1,0,none⟩) V V] 67::blk b1 ((s.2.2.1).map (Value.int .i64)) 3::fz pm::blk pg (gridL A n ca (lens l) 0) 153::blk pl [.slice A n ca] 23::blk pc c.cells 65::[]) (fun s=>s.2.2.2) (fun s=>s.1≤V - 1∧s.2.2.1.length=V∧∀ q,s.1≤q→q<V→s.2.2.1[q]?=some (F q)) (fun s=>s.1) (V - 1,p11,List.replicate V 0,[]) ⟨Nat.le_refl _,by simp,fun q h5 h6=>?_⟩ rfl ?_
 ·dsimp only at h5
  rw [show q=V - 1 by omega,hF]
  dsimp only
  rw [show V - 1=numL (lens l) (lens l) by omega,hself,rsV_end,List.getElem?_replicate,if_pos (by omega)]
 rintro⟨r,q11,L,Dl⟩ ⟨hr,hL,hLF⟩
 dsimp only at hr hL hLF ⊢
 refine T_le (H':=blk q11 [.int .i64 ((r:Int) - 1)] 3::blk p10 [.slice (some ⟨b1,0,none⟩) V V] 67::blk b1 ((L).map (Value.int .i64)) 3::fz pm::blk pg (gridL A n ca (lens l) 0) 153::blk pl [.slice A n ca] 23::blk pc c.cells 65::dfrs Dl) (Hle.refl _) ?_
 have hLm:(L.map (Value.int .i64)).length=V:=by rw [List.length_map,hL]
 rcases r with _|p
 ·repeat' (first|refine d1 ?_|refine dd ?_|(show ∀ _:Nat,T _ _ _ _ _;intro _))
  refine T_if rfl (fun h5=>by exfalso;simp at h5) (fun _=>?_)
  repeat' (first|refine d1 ?_|refine dd ?_|(show ∀ _:Nat,T _ _ _ _ _;intro _))
  rename_i p15 p16
  have hz0:numL (lens l) (List.replicate n 0)=0:=numL_zero _ _
  refine T_keep [(2, .pointer (some ⟨pc,0,none⟩)),(3, .pointer (some ⟨pl,0,none⟩)),(8, .pointer (some ⟨pg,0,none⟩)),(9, .slice Am (mvL n).length cm),(10, .pointer (some ⟨p10,0,none⟩)),(15, .pointer (some ⟨p15,0,none⟩)),(16, .pointer (some ⟨p16,0,none⟩))] ⟨rfl,rfl,rfl,rfl,rfl,rfl,rfl,trivial⟩ ?_
  refine T_le (H':=blk p16 [.int .i64 ((0:Nat):Int)] 3::blk p15 [.slice none 0 0] 59::blk p10 [.slice (some ⟨b1,0,none⟩) V V] 67::blk b1 (L.map (Value.int .i64)) 3::fz pm::blk pg (gridL A n ca (lens l) 0) 153::blk pl [.slice A n ca] 23::blk pc c.cells 65::dfrs Dl) (Hle.drop3 _ _ _ _) ?_
  refine T_le (dat_nil _) ?_
  refine T_nilrow 67 1 ?_
  refine T_loopDX (fun s:List Nat × Nat × (Option Addr × Nat) × List Value × List (List Int) × List Nat=>[(16, .pointer (some ⟨s.2.1,0,none⟩))]) (fun s=>blk s.2.1 [.int .i64 (numL (lens l) s.1:Nat)] 3::blk p15 [.slice s.2.2.1.1 s.2.2.2.2.1.length s.2.2.1.2] 59::row 67 1 s.2.2.1.1 s.2.2.1.2 s.2.2.2.2.1.length s.2.2.2.1::dat s.2.2.2.1 (s.2.2.2.2.1.map intsD)::blk p10 [.slice (some ⟨b1,0,none⟩) V V] 67::blk b1 (L.map (Value.int .i64)) 3::fz pm::blk pg (gridL A n ca (lens l) 0) 153::blk pl [.slice A n ca] 23::blk pc c.cells 65::[]) (fun s=>s.2.2.2.2.2) (fun s=>InB (lens l) s.1∧s.2.2.2.2.1.length≤sumL s.1∧alnW c l=s.2.2.2.2.1++(alV19 (colZ c l) (lens l) (mvL n) s.1)) (fun s=>sumL (lens l) - sumL s.1) (List.replicate n 0,p16,(none,0),[],[],Dl) ⟨by rw [← hlsn];exact InB.zero _,Nat.zero_le _,by dsimp only;rw [List.nil_append, ← hn];rfl⟩ rfl ?_ (hG:=by dsimp only;rw [hz0];exact Hle.srtT (A:=[row 67 1 none 0 0 [],dat [] [],blk p16 [.int .i64 ((0:Nat):Int)] 3,blk p15 [.slice none 0 0] 59,blk p10 [.slice (some ⟨b1,0,none⟩) V V] 67,blk b1 (L.map (Value.int .i64)) 3,fz pm,blk pg (gridL A n ca (lens l) 0) 153,blk pl [.slice A n ca] 23,blk pc c.cells 65]) (K:=[blk p16 [.int .i64 ((0:Nat):Int)] 3,blk p15 [.slice none 0 0] 59,row 67 1 none 0 0 [],dat [] [],blk p10 [.slice (some ⟨b1,0,none⟩) V V] 67,blk b1 (L.map (Value.int .i64)) 3,fz pm,blk pg (gridL A n ca (lens l) 0) 153,blk pl [.slice A n ca] 23,blk pc c.cells 65]) (dfrs Dl))
  rintro⟨v,q16,⟨Ao,capo⟩,hs,out,Dl⟩ ⟨hvi,hol,hout⟩
  dsimp only at hvi hol hout ⊢
  obtain⟨p,hp⟩:∃ p,p=numL (lens l) v:=⟨_,rfl⟩
  have hat:=at_num hvi
  have hpl:=numL_lt hvi
  rw [← hp] at hat hpl ⊢
  rw [← hV] at hpl
  refine T_le (H':=blk q16 [.int .i64 (p:Nat)] 3::blk p15 [.slice Ao out.length capo] 59::row 67 1 Ao capo out.length hs::dat hs (out.map intsD)::blk p10 [.slice (some ⟨b1,0,none⟩) V V] 67::blk b1 (L.map (Value.int .i64)) 3::fz pm::blk pg (gridL A n ca (lens l) 0) 153::blk pl [.slice A n ca] 23::blk pc c.cells 65::dfrs Dl) (Hle.refl _) ?_
  have hg5:∀ w,RdC w pg 0 (gridL A n ca (lens l) 0)→RdC w pg (0+5) [.int .i64 (V:Nat)]:=fun w h9=>RdC.one (by have:=h9 5 _ (show (gridL A n ca (lens l) 0)[5]?=some (.int .i64 (V:Nat)) by rw [hV];rfl);exact this)
  repeat' (first|refine d1 ?_|refine dd ?_|(show T _ (.ops _ (_::_)::_) _ _ _;first|refine T_val rfl (Val.nilc rfl) rfl rfl rfl ?_|refine T_valC rfl (Val.nilc rfl) rfl rfl rfl rfl rfl ?_|refine T_val rfl (Val.load rfl (fun hg=>(fun w hw=>hg5 w (rdAll w hw)))) rfl rfl rfl ?_|refine T_valC rfl (Val.load rfl (fun hg=>(fun w hw=>hg5 w (rdAll w hw)))) rfl rfl rfl rfl rfl ?_)|(show T _ (.run _ _ (_::_) _ _::_) _ _ _;first|refine rv rfl rfl rfl (Val.nilc rfl) rfl rfl rfl ?_|refine rg rfl rfl rfl (Val.nilc rfl) rfl rfl rfl rfl rfl ?_|refine rv rfl rfl rfl (Val.load rfl (fun hg=>(fun w hw=>hg5 w (rdAll w hw)))) rfl rfl rfl ?_|refine rg rfl rfl rfl (Val.load rfl (fun hg=>(fun w hw=>hg5 w (rdAll w hw)))) rfl rfl rfl rfl rfl ?_)|(show ∀ _:Nat,T _ _ _ _ _;intro _))
  refine T_if rfl (fun h5=>?_) (fun h5=>?_)
  ·have hpV:p+1<V:=by simp at h5;omega
   obtain rfl:v=atL (lens l) p:=hat.symm
   repeat' (first|refine d1 ?_|refine dd ?_|(show T _ (.ops _ (_::_)::_) _ _ _;first|refine T_val rfl (Val.nilc rfl) rfl rfl rfl ?_|refine T_valC rfl (Val.nilc rfl) rfl rfl rfl rfl rfl ?_|refine T_op (OpT.call rfl rfl rfl rfl rfl (fun w hw=>moves19_fn pg p Am (mvL n).length cm w) (fun u R hR=>?_)))|(show T _ (.run _ _ (_::_) _ _::_) _ _ _;first|refine rv rfl rfl rfl (Val.nilc rfl) rfl rfl rfl ?_|refine rg rfl rfl rfl (Val.nilc rfl) rfl rfl rfl rfl rfl ?_)|(show ∀ _:Nat,T _ _ _ _ _;intro _))
   obtain⟨⟨g1,g2,g3⟩,-,rfl,rfl⟩:=hR
   have hvl:(atL (lens l) p).length=l.length:=by rw [atL_len,hll]
   have hne:(atL (lens l) p)≠lens l:=fun e=>by rw [e] at hp;omega
   have hsub:=sumL_le hvi
   have hlen4:=sumL_lens hg.nb
   refine T_rangeO (moves_iter hg (by omega) h4 (by omega) (p:=p) (by omega) pg g1 g2 g3 hM) rfl (fun j x B hj hQ=>by obtain⟨m,b,_,rfl,_⟩:=hQ;exact⟨rfl,rfl⟩)
    (fun jj H=>H=blk q16 [.int .i64 (p:Nat)] 3::blk p15 [.slice Ao out.length capo] 59::row 67 1 Ao capo out.length hs::dat hs (out.map intsD)::blk p10 [.slice (some ⟨b1,0,none⟩) V V] 67::blk b1 (L.map (Value.int .i64)) 3::blk pl [.slice A n ca] 23::blk pc c.cells 65::dfrs Dl∧∀ j' y,j'<jj→(posL (lens l) (atL (lens l) p) (mvL n))[j']?=some y→fitM (colZ c l) (lens l) (mvL n) (atL (lens l) p) y=false) (fun _=>False)
    (fun id H=>id=6∧∃ (m:List Nat) (x:Option Addr × Nat × Value),(mvL n).find? (fitM (colZ c l) (lens l) (mvL n) (atL (lens l) p))=some m∧H=blk q16 [.int .i64 ((numL (lens l) (toM (atL (lens l) p) m)):Nat)] 3::blk p15 [.slice x.1 (out.length+1) x.2.1] 59::row 67 1 x.1 x.2.1 (out.length+1) (hs++[x.2.2])::dat (hs++[x.2.2]) ((out++[colT (atL (lens l) p) m]).map intsD)::blk p10 [.slice (some ⟨b1,0,none⟩) V V] 67::blk b1 (L.map (Value.int .i64)) 3::blk pl [.slice A n ca] 23::blk pc c.cells 65::dfrs Dl) (blk q16 [.int .i64 (p:Nat)] 3::blk p15 [.slice Ao out.length capo] 59::row 67 1 Ao capo out.length hs::dat hs (out.map intsD)::blk p10 [.slice (some ⟨b1,0,none⟩) V V] 67::blk b1 (L.map (Value.int .i64)) 3::blk pl [.slice A n ca] 23::blk pc c.cells 65::dfrs Dl) ⟨rfl,fun _ _ h=>by omega⟩
    (Hle.srtT (A:=[blk g2 [.int .i64 (p:Nat)] 3,blk g3 [.slice Am (mvL n).length cm] 59,blk g1 [.pointer (some ⟨pg,0,none⟩)] 147,blk q16 [.int .i64 (p:Nat)] 3,blk p15 [.slice Ao out.length capo] 59,row 67 1 Ao capo out.length hs,dat hs (out.map intsD),blk p10 [.slice (some ⟨b1,0,none⟩) V V] 67,blk b1 (L.map (Value.int .i64)) 3,fz pm,blk pg (gridL A n ca (lens l) 0) 153,blk pl [.slice A n ca] 23,blk pc c.cells 65]) (K:=[blk g2 [.int .i64 (p:Nat)] 3,blk g3 [.slice Am (mvL n).length cm] 59,blk g1 [.pointer (some ⟨pg,0,none⟩)] 147,blk pg (gridL A n ca (lens l) 0) 153,fz pm,blk q16 [.int .i64 (p:Nat)] 3,blk p15 [.slice Ao out.length capo] 59,row 67 1 Ao capo out.length hs,dat hs (out.map intsD),blk p10 [.slice (some ⟨b1,0,none⟩) V V] 67,blk b1 (L.map (Value.int .i64)) 3,blk pl [.slice A n ca] 23,blk pc c.cells 65]) (dfrs Dl)) ?_ ?_ (fun _ _ h=>h.elim) ?_
   ·rintro Lp r5 jj x B Hj K2 hr5 hj hQ ⟨rfl,hnf⟩
    obtain⟨m,b,hm,rfl,rfl⟩:=hQ
    obtain⟨hmm,hpo⟩:=posL_mem (List.mem_of_getElem? hm)
    have hti:=(toM_rem hno hlsn hvi hmm hpo).1
    have hqV:=numL_lt hti
    rw [← hV] at hqV
    have hFq:F (numL (lens l) (toM (atL (lens l) p) m))=rsV (colZ c l) (lens l) (mvL n) (toM (atL (lens l) p) m):=by rw [hF];dsimp only;rw [at_num hti]
    have hFp:F p=rsV (colZ c l) (lens l) (mvL n) (atL (lens l) p):=by rw [hF]
    have hfit:fitM (colZ c l) (lens l) (mvL n) (atL (lens l) p) m=decide (colZ c l (colT (atL (lens l) p) m)+F (numL (lens l) (toM (atL (lens l) p) m))=F p):=by
     rw [hFq,hFp]
     unfold fitM
     rw [hpo,Bool.true_and];rfl
    obtain⟨q,hq⟩:∃ q,q=(numL (lens l) (toM (atL (lens l) p) m)):=⟨_,rfl⟩
    rw [← hq] at hqV hfit
    show T _ _ ((100, .int .i64 ((numL (lens l) (toM (atL (lens l) p) m)):Nat))::(99, .slice (some ⟨b,0,none⟩) n n)::_) _ (lrec Lp r5::blk q16 [.int .i64 (p:Nat)] 3::blk p15 [.slice Ao out.length capo] 59::row 67 1 Ao capo out.length hs::dat hs (out.map intsD)::blk p10 [.slice (some ⟨b1,0,none⟩) V V] 67::blk b1 (L.map (Value.int .i64)) 3::blk pl [.slice A n ca] 23::blk pc c.cells 65::(dfrs Dl++(row 3 1 (some ⟨b,0,none⟩) n n ((colT (atL (lens l) p) m).map (Value.int .i64))::K2)))
    rw [← hq]
    repeat' (first|refine d1 ?_|(show ∀ _:Nat,T _ _ _ _ _;intro _)|(show T _ _ _ _ _;refine T_begin hr5 rfl ?_))
    refine T_le (H':=row 3 1 (some ⟨b,0,none⟩) n n ((colT (atL (lens l) p) m).map (Value.int .i64))::lrec Lp (busy r5)::blk q16 [.int .i64 (p:Nat)] 3::blk p15 [.slice Ao out.length capo] 59::row 67 1 Ao capo out.length hs::dat hs (out.map intsD)::blk p10 [.slice (some ⟨b1,0,none⟩) V V] 67::blk b1 (L.map (Value.int .i64)) 3::blk pl [.slice A n ca] 23::blk pc c.cells 65::(dfrs Dl++K2)) (Hle.perm (List.perm_middle (l₁:=lrec Lp (busy r5)::blk q16 [.int .i64 (p:Nat)] 3::blk p15 [.slice Ao out.length capo] 59::row 67 1 Ao capo out.length hs::dat hs (out.map intsD)::blk p10 [.slice (some ⟨b1,0,none⟩) V V] 67::blk b1 (L.map (Value.int .i64)) 3::blk pl [.slice A n ca] 23::blk pc c.cells 65::dfrs Dl) (l₂:=K2))) ?_
    have hcq:∀ w,RdC w b1 0 (L.map (Value.int .i64))→RdC w b1 (0+(q:Int).toNat * 1) [.int .i64 (F q)]:=fun w h9=>rdAt h9 (by omega) (hLF q (by omega) (by omega))
    have hcp:∀ w,RdC w b1 0 (L.map (Value.int .i64))→RdC w b1 (0+(p:Int).toNat * 1) [.int .i64 (F p)]:=fun w h9=>rdAt h9 (by omega) (hLF p (by omega) (by omega))
    have hKb:=colZ_bd hc (show l.length≤32 by omega) (colT (atL (lens l) p) m)
    have hFq2:=hFb q
    refine rsH [row 3 1 (some ⟨b,0,none⟩) n n ((colT (atL (lens l) p) m).map (Value.int .i64)),lrec Lp (busy r5),blk q16 [.int .i64 (p:Nat)] 3,blk p15 [.slice Ao out.length capo] 59,row 67 1 Ao capo out.length hs,dat hs (out.map intsD),blk p10 [.slice (some ⟨b1,0,none⟩) V V] 67,blk b1 (L.map (Value.int .i64)) 3,blk pl [.slice A n ca] 23,blk pc c.cells 65] 1000 [0,1,2,4,5,6,7,9,10,11,12,3,8,13] ?_
    repeat' (first|refine d1 ?_|refine dd ?_|(show T _ (.ops _ (_::_)::_) _ _ _;first|refine T_call rfl rfl rfl rfl rfl (fun w hw=>cost19_spec c A (some ⟨b,0,none⟩) n ca n l (colT (atL (lens l) p) m) w (hg.cls hw) hc hbs (srcRw w hw) (colT_ok hvl (fun s hs=>by rw [hn];exact hno.lt m hmm s hs) hpo)) ?_|refine T_callC rfl rfl rfl rfl rfl rfl rfl (fun hg w hw=>cost19_spec c A (some ⟨b,0,none⟩) n ca n l (colT (atL (lens l) p) m) w (hg.cls hw) hc hbs (srcRw w hw) (colT_ok hvl (fun s hs=>by rw [hn];exact hno.lt m hmm s hs) hpo)) ?_|refine T_val rfl (Val.load rfl (fun hg=>(fun w hw=>hcq w (rdAll w hw)))) rfl rfl rfl ?_|refine T_valC rfl (Val.load rfl (fun hg=>(fun w hw=>hcq w (rdAll w hw)))) rfl rfl rfl rfl rfl ?_|refine T_val rfl (Val.load rfl (fun hg=>(fun w hw=>hcp w (rdAll w hw)))) rfl rfl rfl ?_|refine T_valC rfl (Val.load rfl (fun hg=>(fun w hw=>hcp w (rdAll w hw)))) rfl rfl rfl rfl rfl ?_)|(show T _ (.run _ _ (_::_) _ _::_) _ _ _;first|refine rc rfl rfl rfl rfl rfl rfl rfl (fun w hw=>cost19_spec c A (some ⟨b,0,none⟩) n ca n l (colT (atL (lens l) p) m) w (hg.cls hw) hc hbs (srcRw w hw) (colT_ok hvl (fun s hs=>by rw [hn];exact hno.lt m hmm s hs) hpo)) ?_|refine rcG rfl rfl rfl rfl rfl rfl rfl rfl rfl (fun hg w hw=>cost19_spec c A (some ⟨b,0,none⟩) n ca n l (colT (atL (lens l) p) m) w (hg.cls hw) hc hbs (srcRw w hw) (colT_ok hvl (fun s hs=>by rw [hn];exact hno.lt m hmm s hs) hpo)) ?_|refine rv rfl rfl rfl (Val.load rfl (fun hg=>(fun w hw=>hcq w (rdAll w hw)))) rfl rfl rfl ?_|refine rg rfl rfl rfl (Val.load rfl (fun hg=>(fun w hw=>hcq w (rdAll w hw)))) rfl rfl rfl rfl rfl ?_|refine rv rfl rfl rfl (Val.load rfl (fun hg=>(fun w hw=>hcp w (rdAll w hw)))) rfl rfl rfl ?_|refine rg rfl rfl rfl (Val.load rfl (fun hg=>(fun w hw=>hcp w (rdAll w hw)))) rfl rfl rfl rfl rfl ?_)|(show ∀ _:Nat,T _ _ _ _ _;intro _))
    refine T_if rfl (fun h6=>?_) (fun h6=>?_)
    ·rw [h6] at hfit
     have hf:(mvL n).find? (fitM (colZ c l) (lens l) (mvL n) (atL (lens l) p))=some m:=by rw [← find_posL];exact find_at hm hfit hnf
     have hov:out.length≤200000:=by omega
     repeat' (first|refine d1 ?_|refine dd ?_|(show T _ (.ops _ (_::_)::_) _ _ _;refine T_op (OpT.append rfl rfl rfl rfl rfl rfl rfl rfl rfl rfl (fun w hw=>Src.own hw rfl) rfl (by dsimp only;omega) (by omega) (fun A' cap' hA'=>?_)))|(show ∀ _:Nat,T _ _ _ _ _;intro _))
     rename_i blit2
     show T _ (.code (.exit 6)::_) _ _ _
     refine T_rexit (id:=6) (blk q16 [.int .i64 ((numL (lens l) (toM (atL (lens l) p) m)):Nat)] 3::blk p15 [.slice A' (out.length+1) cap'] 59::row 67 1 A' cap' (out.length+1) (hs++[(.slice (some ⟨b,0,none⟩) n n)])::dat (hs++[(.slice (some ⟨b,0,none⟩) n n)]) ((out++[colT (atL (lens l) p) m]).map intsD)::blk p10 [.slice (some ⟨b1,0,none⟩) V V] 67::blk b1 (L.map (Value.int .i64)) 3::blk pl [.slice A n ca] 23::blk pc c.cells 65::dfrs Dl) (fun _=>rfl) ⟨rfl,m,(A',cap',(.slice (some ⟨b,0,none⟩) n n)),hf,rfl⟩ ?_
     rw [← hq]
     refine (Hle.srtT (A:=[blk blit2 _ _,row 3 1 (some ⟨b,0,none⟩) n n ((colT (atL (lens l) p) m).map (Value.int .i64)),lrec Lp (busy r5),blk q16 [.int .i64 (q:Nat)] 3,blk p15 [.slice A' (out.length+1) cap'] 59,row 67 1 A' cap' (out.length+1) (hs++[(.slice (some ⟨b,0,none⟩) n n)]),dat hs (out.map intsD),blk p10 [.slice (some ⟨b1,0,none⟩) V V] 67,blk b1 (L.map (Value.int .i64)) 3,blk pl [.slice A n ca] 23,blk pc c.cells 65]) (K:=[row 3 1 (some ⟨b,0,none⟩) n n ((colT (atL (lens l) p) m).map (Value.int .i64)),dat hs (out.map intsD),lrec Lp (busy r5),blk q16 [.int .i64 (q:Nat)] 3,blk p15 [.slice A' (out.length+1) cap'] 59,row 67 1 A' cap' (out.length+1) (hs++[(.slice (some ⟨b,0,none⟩) n n)]),blk p10 [.slice (some ⟨b1,0,none⟩) V V] 67,blk b1 (L.map (Value.int .i64)) 3,blk pl [.slice A n ca] 23,blk pc c.cells 65]) (dfrs Dl++K2)).trans ?_
     refine dat_rowV.trans (dat_join.trans ?_)
     have ej:out.map intsD++[D.s 1 (((colT (atL (lens l) p) m).map (Value.int .i64)).map .v)]=(out++[colT (atL (lens l) p) m]).map intsD:=by
      rw [List.map_append,List.map_map];rfl
     rw [ej]
     exact Hle.perm ((List.perm_append_comm (l₁:=[_]) (l₂:=[_,_,_,_])).append_right (blk p10 [.slice (some ⟨b1,0,none⟩) V V] 67::blk b1 (L.map (Value.int .i64)) 3::blk pl [.slice A n ca] 23::blk pc c.cells 65::(dfrs Dl++K2)))
    ·rw [h6] at hfit
     refine T_next (blk q16 [.int .i64 (p:Nat)] 3::blk p15 [.slice Ao out.length capo] 59::row 67 1 Ao capo out.length hs::dat hs (out.map intsD)::blk p10 [.slice (some ⟨b1,0,none⟩) V V] 67::blk b1 (L.map (Value.int .i64)) 3::blk pl [.slice A n ca] 23::blk pc c.cells 65::dfrs Dl) ⟨rfl,fun j' y hj hy=>?_⟩ (Hle.tail _ _)
     rcases Nat.lt_or_ge j' jj with h7|h7
     ·exact hnf j' y h7 hy
     ·rw [show j'=jj by omega,hm] at hy
      cases hy
      exact hfit
   ·rintro D Hn ⟨rfl,hnf⟩
    exfalso
    obtain⟨m,hf,-⟩:=fit_some (K:=colZ c l) (colZ_nn hc hn4) hno hlsn hvi hne
    rw [← find_posL] at hf
    have h7:=List.find?_some hf
    obtain⟨j',hj',e9⟩:=List.getElem_of_mem (List.mem_of_find?_eq_some hf)
    have h8:=hnf j' m hj' (by rw [List.getElem?_eq_getElem hj',e9])
    rw [h8] at h7;cases h7
   ·rintro D id Hx ⟨rfl,m,⟨A',cap',hv9⟩,hf,rfl⟩
    dsimp only
    have h7:=List.find?_some hf
    unfold fitM at h7
    rw [Bool.and_eq_true] at h7
    obtain⟨hti,hs1,hs2,hs3⟩:=toM_rem hno hlsn hvi (List.mem_of_find?_eq_some hf) h7.1
    have hstep:=alV_step hno hlsn hvi hf
    show T (FC _ _ ((D::Dl).map mkD) _ _ _) _ _ _ (dfr D::blk g2 [.int .i64 (p:Nat)] 3::blk g3 [.slice Am (mvL n).length cm] 59::blk g1 [.pointer (some ⟨pg,0,none⟩)] 147::blk pg (gridL A n ca (lens l) 0) 153::fz pm::blk q16 [.int .i64 ((numL (lens l) (toM (atL (lens l) p) m)):Nat)] 3::blk p15 [.slice A' (out.length+1) cap'] 59::row 67 1 A' cap' (out.length+1) (hs++[hv9])::dat (hs++[hv9]) ((out++[colT (atL (lens l) p) m]).map intsD)::blk p10 [.slice (some ⟨b1,0,none⟩) V V] 67::blk b1 (L.map (Value.int .i64)) 3::blk pl [.slice A n ca] 23::blk pc c.cells 65::dfrs Dl)
    repeat' (first|refine d1 ?_|refine dd ?_|(show ∀ _:Nat,T _ _ _ _ _;intro _))
    rename_i n16
    show T _ (.mark _::_) _ _ _
    refine T_backD (toM (atL (lens l) p) m,n16,(A',cap'),hs++[hv9],out++[colT (atL (lens l) p) m],D::Dl) ⟨hti,by dsimp only;rw [List.length_append];simp;omega,by dsimp only;rw [hout,hstep,List.append_assoc];rfl⟩ (by dsimp only;omega) rfl (hG:=?_)
    dsimp only
    rw [List.length_append]
    exact Hle.srtT (A:=[blk n16 [.int .i64 ((numL (lens l) (toM (atL (lens l) p) m)):Nat)] 3,dfr D,blk g2 [.int .i64 (p:Nat)] 3,blk g3 [.slice Am (mvL n).length cm] 59,blk g1 [.pointer (some ⟨pg,0,none⟩)] 147,blk pg (gridL A n ca (lens l) 0) 153,fz pm,blk q16 [.int .i64 ((numL (lens l) (toM (atL (lens l) p) m)):Nat)] 3,blk p15 [.slice A' (out.length+1) cap'] 59,row 67 1 A' cap' (out.length+1) (hs++[hv9]),dat (hs++[hv9]) ((out++[colT (atL (lens l) p) m]).map intsD),blk p10 [.slice (some ⟨b1,0,none⟩) V V] 67,blk b1 (L.map (Value.int .i64)) 3,blk pl [.slice A n ca] 23,blk pc c.cells 65]) (K:=[blk n16 [.int .i64 ((numL (lens l) (toM (atL (lens l) p) m)):Nat)] 3,blk p15 [.slice A' (out.length+1) cap'] 59,row 67 1 A' cap' (out.length+1) (hs++[hv9]),dat (hs++[hv9]) ((out++[colT (atL (lens l) p) m]).map intsD),blk p10 [.slice (some ⟨b1,0,none⟩) V V] 67,blk b1 (L.map (Value.int .i64)) 3,fz pm,blk pg (gridL A n ca (lens l) 0) 153,blk pl [.slice A n ca] 23,blk pc c.cells 65,dfr D]) (dfrs Dl)
  ·have hpV:p+1=V:=by simp at h5;omega
   obtain rfl:v=lens l:=by rw [← hat, ← hself];congr 1;omega
   rw [alV_end,List.append_nil] at hout
   subst hout
   have hF0:F 0=lstV c l:=by
    rw [hF]
    dsimp only
    rw [show (0:Nat)=numL (lens l) (List.replicate (lens l).length 0) from (numL_zero _ _).symm,at_num (InB.zero _),hll, ← hn]
    rfl
   have hc0:∀ w,RdC w b1 0 (L.map (Value.int .i64))→RdC w b1 (0+(0:Int).toNat * 1) [.int .i64 (lstV c l)]:=fun w h9=>rdAt (q:=0) h9 (by omega) (by rw [← hF0];exact hLF 0 (Nat.zero_le _) hVp)
   repeat' (first|refine d1 ?_|refine dd ?_|(show T _ (.ops _ (_::_)::_) _ _ _;first|refine T_val rfl (Val.load rfl (fun hg=>(fun w hw=>hc0 w (rdAll w hw)))) rfl rfl rfl ?_|refine T_valC rfl (Val.load rfl (fun hg=>(fun w hw=>hc0 w (rdAll w hw)))) rfl rfl rfl rfl rfl ?_)|(show T _ (.run _ _ (_::_) _ _::_) _ _ _;first|refine rv rfl rfl rfl (Val.load rfl (fun hg=>(fun w hw=>hc0 w (rdAll w hw)))) rfl rfl rfl ?_|refine rg rfl rfl rfl (Val.load rfl (fun hg=>(fun w hw=>hc0 w (rdAll w hw)))) rfl rfl rfl rfl rfl ?_)|(show ∀ _:Nat,T _ _ _ _ _;intro _))
   refine T_retDs [dat [.slice Ao (alnW c l).length capo] [rowsD (alnW c l)]] ?_ (rf_V (vs:=[.slice Ao (alnW c l).length capo, .int .i64 (lstV c l), .int .i64 0]) _ rfl (Hle.refl _) ⟨_,trivial,rfl,rfl⟩)
   refine (Hle.tail _ _).trans ((Hle.tail _ _).trans (dat_row.trans ?_))
   exact Hle.srtT (A:=[dat [.slice Ao (alnW c l).length capo] [.s 1 ((alnW c l).map intsD)],_,_,_,_,_,_]) (K:=[dat [.slice Ao (alnW c l).length capo] [.s 1 ((alnW c l).map intsD)]]) (dfrs Dl)
 ·rw [show ((p+1:Nat):Int) - 1=(p:Nat) by omega]
  repeat' (first|refine d1 ?_|refine dd ?_|(show ∀ _:Nat,T _ _ _ _ _;intro _))
  refine T_if rfl (fun _=>?_) (fun h5=>by exfalso;simp at h5)
  repeat' (first|refine d1 ?_|refine dd ?_|(show T _ (.ops _ (_::_)::_) _ _ _;first|refine T_val rfl (Val.nilc rfl) rfl rfl rfl ?_|refine T_valC rfl (Val.nilc rfl) rfl rfl rfl rfl rfl ?_|refine T_op (OpT.store rfl rfl rfl rfl (by rw [hLm];omega) ?_)|refine T_op (OpT.call rfl rfl rfl rfl rfl (fun w hw=>moves19_fn pg p Am (mvL n).length cm w) (fun u R hR=>?_)))|(show T _ (.run _ _ (_::_) _ _::_) _ _ _;first|refine rv rfl rfl rfl (Val.nilc rfl) rfl rfl rfl ?_|refine rg rfl rfl rfl (Val.nilc rfl) rfl rfl rfl rfl rfl ?_)|(show ∀ _:Nat,T _ _ _ _ _;intro _))
  obtain⟨⟨g1,g2,g3⟩,-,rfl,rfl⟩:=hR
  have hpV:p+1<V:=by omega
  have hvi:=atL_in (lens l) p
  have hvl:(atL (lens l) p).length=l.length:=by rw [atL_len,hll]
  have hvn:=num_at (lens l) p (by omega)
  have hne:(atL (lens l) p)≠lens l:=fun e=>by rw [e] at hvn;omega
  have hstep:=rsV_step (K:=colZ c l) (colZ_nn hc hn4) hno hlsn hvi hne
  have hset:(L.map (Value.int .i64)).set (0+(p:Int).toNat * 1) (.int .i64 (-1))=(L.set p (foldB (possM (lens l) (atL (lens l) p)) (mcV (colZ c l) (lens l) (mvL n) (atL (lens l) p)) ((posL (lens l) (atL (lens l) p) (mvL n)).take 0) (-1))).map (Value.int .i64):=by
   rw [List.take_zero,List.map_set,show 0+(p:Int).toNat * 1=p by omega];rfl
  rw [hset]
  refine T_rangeO (moves_iter hg (by omega) h4 (by omega) (p:=p) (by omega) pg g1 g2 g3 hM) rfl (fun j x B hj hQ=>by obtain⟨m,b,_,rfl,_⟩:=hQ;exact⟨rfl,rfl⟩)
   (fun jj H=>H=blk q11 [.int .i64 ((p:Nat))] 3::blk p10 [.slice (some ⟨b1,0,none⟩) V V] 67::blk b1 ((L.set p (foldB (possM (lens l) (atL (lens l) p)) (mcV (colZ c l) (lens l) (mvL n) (atL (lens l) p)) ((posL (lens l) (atL (lens l) p) (mvL n)).take jj) (-1))).map (Value.int .i64)) 3::blk pl [.slice A n ca] 23::blk pc c.cells 65::dfrs Dl) (fun _=>False) (fun _ _=>False) (blk q11 [.int .i64 ((p:Nat))] 3::blk p10 [.slice (some ⟨b1,0,none⟩) V V] 67::blk b1 ((L.set p (foldB (possM (lens l) (atL (lens l) p)) (mcV (colZ c l) (lens l) (mvL n) (atL (lens l) p)) ((posL (lens l) (atL (lens l) p) (mvL n)).take 0) (-1))).map (Value.int .i64)) 3::blk pl [.slice A n ca] 23::blk pc c.cells 65::dfrs Dl) rfl
   (Hle.srtT (A:=[blk g2 [.int .i64 (p:Nat)] 3,blk g3 [.slice Am (mvL n).length cm] 59,blk g1 [.pointer (some ⟨pg,0,none⟩)] 147,blk q11 [.int .i64 ((p:Nat))] 3,blk p10 [.slice (some ⟨b1,0,none⟩) V V] 67,blk b1 ((L.set p (foldB (possM (lens l) (atL (lens l) p)) (mcV (colZ c l) (lens l) (mvL n) (atL (lens l) p)) ((posL (lens l) (atL (lens l) p) (mvL n)).take 0) (-1))).map (Value.int .i64)) 3,fz pm,blk pg (gridL A n ca (lens l) 0) 153,blk pl [.slice A n ca] 23,blk pc c.cells 65]) (K:=[blk g2 [.int .i64 (p:Nat)] 3,blk g3 [.slice Am (mvL n).length cm] 59,blk g1 [.pointer (some ⟨pg,0,none⟩)] 147,blk pg (gridL A n ca (lens l) 0) 153,fz pm,blk q11 [.int .i64 ((p:Nat))] 3,blk p10 [.slice (some ⟨b1,0,none⟩) V V] 67,blk b1 ((L.set p (foldB (possM (lens l) (atL (lens l) p)) (mcV (colZ c l) (lens l) (mvL n) (atL (lens l) p)) ((posL (lens l) (atL (lens l) p) (mvL n)).take 0) (-1))).map (Value.int .i64)) 3,blk pl [.slice A n ca] 23,blk pc c.cells 65]) (dfrs Dl)) ?_ ?_ (fun _ _ h=>h.elim) (fun _ _ _ h=>h.elim)
  ·rintro Lp r5 jj x B Hj K2 hr5 hj hQ rfl
   obtain⟨m,b,hm,rfl,rfl⟩:=hQ
   obtain⟨hmm,hpo⟩:=posL_mem (List.mem_of_getElem? hm)
   have hti:=(toM_rem hno hlsn hvi hmm hpo).1
   have hqV:=numL_lt hti
   rw [← hV] at hqV
   have hqn:=toM_num (lens l) m (atL (lens l) p) (by omega) (fun s hs=>by rw [hvl,hn];exact hno.lt m hmm s hs)
   have hqs:=stp_pos (ls:=lens l) (hno.ne m hmm) (fun s hs=>by rw [hlsn];exact hno.lt m hmm s hs)
   have hFq:F (numL (lens l) (toM (atL (lens l) p) m))=rsV (colZ c l) (lens l) (mvL n) (toM (atL (lens l) p) m):=by rw [hF];dsimp only;rw [at_num hti]
   obtain⟨q,hq⟩:∃ q,q=(numL (lens l) (toM (atL (lens l) p) m)):=⟨_,rfl⟩
   obtain⟨X,hX⟩:∃ X,X=foldB (possM (lens l) (atL (lens l) p)) (mcV (colZ c l) (lens l) (mvL n) (atL (lens l) p)) ((posL (lens l) (atL (lens l) p) (mvL n)).take jj) (-1):=⟨_,rfl⟩
   have hXs:foldB (possM (lens l) (atL (lens l) p)) (mcV (colZ c l) (lens l) (mvL n) (atL (lens l) p)) ((posL (lens l) (atL (lens l) p) (mvL n)).take (jj+1)) (-1)=bst X (colZ c l (colT (atL (lens l) p) m)+F q):=by
    rw [take_snoc _ _ _ hm,foldB_app, ← hX,hq,hFq]
    show cond (possM (lens l) (atL (lens l) p) m) _ _=_
    rw [hpo];rfl
   rw [← hq] at hqV hqn hFq
   show T _ _ ((60, .int .i64 ((numL (lens l) (toM (atL (lens l) p) m)):Nat))::(59, .slice (some ⟨b,0,none⟩) n n)::_) _ (lrec Lp r5::blk q11 [.int .i64 ((p:Nat))] 3::blk p10 [.slice (some ⟨b1,0,none⟩) V V] 67::blk b1 ((L.set p (foldB (possM (lens l) (atL (lens l) p)) (mcV (colZ c l) (lens l) (mvL n) (atL (lens l) p)) ((posL (lens l) (atL (lens l) p) (mvL n)).take jj) (-1))).map (Value.int .i64)) 3::blk pl [.slice A n ca] 23::blk pc c.cells 65::(dfrs Dl++(row 3 1 (some ⟨b,0,none⟩) n n ((colT (atL (lens l) p) m).map (Value.int .i64))::K2)))
   rw [← hX, ← hq]
   repeat' (first|refine d1 ?_|(show ∀ _:Nat,T _ _ _ _ _;intro _)|(show T _ _ _ _ _;refine T_begin hr5 rfl ?_))
   refine T_le (H':=row 3 1 (some ⟨b,0,none⟩) n n ((colT (atL (lens l) p) m).map (Value.int .i64))::lrec Lp (busy r5)::blk q11 [.int .i64 ((p:Nat))] 3::blk p10 [.slice (some ⟨b1,0,none⟩) V V] 67::blk b1 ((L.set p X).map (Value.int .i64)) 3::blk pl [.slice A n ca] 23::blk pc c.cells 65::(dfrs Dl++K2)) (Hle.perm (List.perm_middle (l₁:=lrec Lp (busy r5)::blk q11 [.int .i64 ((p:Nat))] 3::blk p10 [.slice (some ⟨b1,0,none⟩) V V] 67::blk b1 ((L.set p X).map (Value.int .i64)) 3::blk pl [.slice A n ca] 23::blk pc c.cells 65::dfrs Dl) (l₂:=K2))) ?_
   have hLq:(L.set p X)[q]?=some (F q):=by rw [List.getElem?_set_ne (by omega)];exact hLF q (by omega) (by omega)
   have hLp:(L.set p X)[p]?=some X:=by rw [List.getElem?_set_self (by omega)]
   have hLl:((L.set p X).map (Value.int .i64)).length=V:=by rw [List.length_map,List.length_set,hL]
   have hcq:∀ w,RdC w b1 0 ((L.set p X).map (Value.int .i64))→RdC w b1 (0+(q:Int).toNat * 1) [.int .i64 (F q)]:=fun w h9=>rdAt h9 (by omega) hLq
   have hcp:∀ w,RdC w b1 0 ((L.set p X).map (Value.int .i64))→RdC w b1 (0+(p:Int).toNat * 1) [.int .i64 X]:=fun w h9=>rdAt h9 (by omega) hLp
   have hKb:=colZ_bd hc (show l.length≤32 by omega) (colT (atL (lens l) p) m)
   have hFq2:=hFb q
   refine rsH [row 3 1 (some ⟨b,0,none⟩) n n ((colT (atL (lens l) p) m).map (Value.int .i64)),lrec Lp (busy r5),blk q11 [.int .i64 ((p:Nat))] 3,blk p10 [.slice (some ⟨b1,0,none⟩) V V] 67,blk b1 ((L.set p X).map (Value.int .i64)) 3,blk pl [.slice A n ca] 23,blk pc c.cells 65] 1000 [0,1,2,4,5,6,7,3,8,9] ?_
   repeat' (first|refine d1 ?_|refine dd ?_|(show T _ (.ops _ (_::_)::_) _ _ _;first|refine T_call rfl rfl rfl rfl rfl (fun w hw=>cost19_spec c A (some ⟨b,0,none⟩) n ca n l (colT (atL (lens l) p) m) w (hg.cls hw) hc hbs (srcRw w hw) (colT_ok hvl (fun s hs=>by rw [hn];exact hno.lt m hmm s hs) hpo)) ?_|refine T_callC rfl rfl rfl rfl rfl rfl rfl (fun hg w hw=>cost19_spec c A (some ⟨b,0,none⟩) n ca n l (colT (atL (lens l) p) m) w (hg.cls hw) hc hbs (srcRw w hw) (colT_ok hvl (fun s hs=>by rw [hn];exact hno.lt m hmm s hs) hpo)) ?_|refine T_val rfl (Val.load rfl (fun hg=>(fun w hw=>hcq w (rdAll w hw)))) rfl rfl rfl ?_|refine T_valC rfl (Val.load rfl (fun hg=>(fun w hw=>hcq w (rdAll w hw)))) rfl rfl rfl rfl rfl ?_|refine T_val rfl (Val.load rfl (fun hg=>(fun w hw=>hcp w (rdAll w hw)))) rfl rfl rfl ?_|refine T_valC rfl (Val.load rfl (fun hg=>(fun w hw=>hcp w (rdAll w hw)))) rfl rfl rfl rfl rfl ?_)|(show T _ (.run _ _ (_::_) _ _::_) _ _ _;first|refine rc rfl rfl rfl rfl rfl rfl rfl (fun w hw=>cost19_spec c A (some ⟨b,0,none⟩) n ca n l (colT (atL (lens l) p) m) w (hg.cls hw) hc hbs (srcRw w hw) (colT_ok hvl (fun s hs=>by rw [hn];exact hno.lt m hmm s hs) hpo)) ?_|refine rcG rfl rfl rfl rfl rfl rfl rfl rfl rfl (fun hg w hw=>cost19_spec c A (some ⟨b,0,none⟩) n ca n l (colT (atL (lens l) p) m) w (hg.cls hw) hc hbs (srcRw w hw) (colT_ok hvl (fun s hs=>by rw [hn];exact hno.lt m hmm s hs) hpo)) ?_|refine rv rfl rfl rfl (Val.load rfl (fun hg=>(fun w hw=>hcq w (rdAll w hw)))) rfl rfl rfl ?_|refine rg rfl rfl rfl (Val.load rfl (fun hg=>(fun w hw=>hcq w (rdAll w hw)))) rfl rfl rfl rfl rfl ?_|refine rv rfl rfl rfl (Val.load rfl (fun hg=>(fun w hw=>hcp w (rdAll w hw)))) rfl rfl rfl ?_|refine rg rfl rfl rfl (Val.load rfl (fun hg=>(fun w hw=>hcp w (rdAll w hw)))) rfl rfl rfl rfl rfl ?_)|(show ∀ _:Nat,T _ _ _ _ _;intro _))
   refine T_if rfl (fun h5=>?_) (fun h5=>?_)
   ·have hbs9:bst X (colZ c l (colT (atL (lens l) p) m)+F q)=colZ c l (colT (atL (lens l) p) m)+F q:=by unfold bst;rw [if_pos (by simpa using h5)]
    repeat' (first|refine d1 ?_|refine dd ?_|(show T _ (.ops _ (_::_)::_) _ _ _;refine T_op (OpT.store rfl rfl rfl rfl (by rw [hLl];omega) ?_))|(show ∀ _:Nat,T _ _ _ _ _;intro _))
    have e9:((L.set p X).map (Value.int .i64)).set (0+(p:Int).toNat * 1) (.int .i64 (colZ c l (colT (atL (lens l) p) m)+F q))=(L.set p (colZ c l (colT (atL (lens l) p) m)+F q)).map (Value.int .i64):=by
     rw [show 0+(p:Int).toNat * 1=p by omega, ← List.map_set,List.set_set]
    rw [e9]
    refine T_next (blk q11 [.int .i64 ((p:Nat))] 3::blk p10 [.slice (some ⟨b1,0,none⟩) V V] 67::blk b1 ((L.set p (foldB (possM (lens l) (atL (lens l) p)) (mcV (colZ c l) (lens l) (mvL n) (atL (lens l) p)) ((posL (lens l) (atL (lens l) p) (mvL n)).take (jj+1)) (-1))).map (Value.int .i64)) 3::blk pl [.slice A n ca] 23::blk pc c.cells 65::dfrs Dl) rfl ?_
    rw [hXs,hbs9]
    exact Hle.tail _ _
   ·have hbs9:bst X (colZ c l (colT (atL (lens l) p) m)+F q)=X:=by unfold bst;rw [if_neg (by simpa using h5)]
    refine T_next (blk q11 [.int .i64 ((p:Nat))] 3::blk p10 [.slice (some ⟨b1,0,none⟩) V V] 67::blk b1 ((L.set p (foldB (possM (lens l) (atL (lens l) p)) (mcV (colZ c l) (lens l) (mvL n) (atL (lens l) p)) ((posL (lens l) (atL (lens l) p) (mvL n)).take (jj+1)) (-1))).map (Value.int .i64)) 3::blk pl [.slice A n ca] 23::blk pc c.cells 65::dfrs Dl) rfl ?_
    rw [hXs,hbs9]
    exact Hle.tail _ _
  ·rintro D Hn rfl
   have hFp:foldB (possM (lens l) (atL (lens l) p)) (mcV (colZ c l) (lens l) (mvL n) (atL (lens l) p)) ((posL (lens l) (atL (lens l) p) (mvL n)).take (posL (lens l) (atL (lens l) p) (mvL n)).length) (-1)=F p:=by rw [List.take_length,foldB_posL, ← hstep,hF]
   rw [hFp]
   show T (FC _ _ ((D::Dl).map mkD) _ _ _) _ _ _ (dfr D::blk g2 [.int .i64 (p:Nat)] 3::blk g3 [.slice Am (mvL n).length cm] 59::blk g1 [.pointer (some ⟨pg,0,none⟩)] 147::blk pg (gridL A n ca (lens l) 0) 153::fz pm::blk q11 [.int .i64 ((p:Nat))] 3::blk p10 [.slice (some ⟨b1,0,none⟩) V V] 67::blk b1 ((L.set p (F p)).map (Value.int .i64)) 3::blk pl [.slice A n ca] 23::blk pc c.cells 65::dfrs Dl)
   repeat' (first|refine d1 ?_|refine dd ?_|(show ∀ _:Nat,T _ _ _ _ _;intro _))
   rename_i n11
   show T _ (.mark _::_) _ _ _
   refine T_backD (p,n11,L.set p (F p),D::Dl) ⟨by dsimp only;omega,by dsimp only;rw [List.length_set,hL],fun q h5 h6=>?_⟩ (by dsimp only;omega) rfl (hG:=?_)
   ·dsimp only at h5 ⊢
    by_cases hqp:q=p
    ·rw [hqp,List.getElem?_set_self (by omega)]
    ·rw [List.getElem?_set_ne (by omega)];exact hLF q (by omega) h6
   ·dsimp only
    exact Hle.srtT (A:=[blk n11 [.int .i64 ((p:Int) - 1)] 3,dfr D,blk g2 [.int .i64 (p:Nat)] 3,blk g3 [.slice Am (mvL n).length cm] 59,blk g1 [.pointer (some ⟨pg,0,none⟩)] 147,blk pg (gridL A n ca (lens l) 0) 153,fz pm,blk q11 [.int .i64 ((p:Nat))] 3,blk p10 [.slice (some ⟨b1,0,none⟩) V V] 67,blk b1 ((L.set p (F p)).map (Value.int .i64)) 3,blk pl [.slice A n ca] 23,blk pc c.cells 65]) (K:=[blk n11 [.int .i64 ((p:Int) - 1)] 3,blk p10 [.slice (some ⟨b1,0,none⟩) V V] 67,blk b1 ((L.set p (F p)).map (Value.int .i64)) 3,fz pm,blk pg (gridL A n ca (lens l) 0) 153,blk pl [.slice A n ca] 23,blk pc c.cells 65,dfr D]) (dfrs Dl)
end Go.Proofs.YtbfcfpmholkmeaaGreatDoor
namespace Go.Proofs.YtbfcfpmholkmeaaGreatDoor
open Go.RowKit Go.Shelf Go.Proofs
set_option maxRecDepth 100000
set_option linter.unusedSectionVars false
set_option maxHeartbeats 1000000

def pg (p:List Int) (q:Nat):Int:=p.getD q 0
section
variable {K:List Int→Int} (hK:∀ x,0≤K x) {ls:List Nat} {n:Nat} {Ms:List (List Nat)} (hM:MvsOk n Ms) (hn:ls.length=n)
include hK hM hn
end
section
variable {K:List Int→Int} {ls:List Nat} {n:Nat} {Ms:List (List Nat)} (hM:MvsOk n Ms) (hn:ls.length=n) {p:List Int}
include hM hn
end
section
variable {K:List Int→Int} (hK:∀ x,0≤K x) {ls:List Nat} {n:Nat} {Ms:List (List Nat)} (hM:MvsOk n Ms) (hn:ls.length=n)
include hK hM hn
end
end Go.Proofs.YtbfcfpmholkmeaaGreatDoor
namespace Go.Proofs.YtbfcfpmholkmeaaGreatDoor
open Go.RowKit Go.Shelf Go.Proofs

end Go.Proofs.YtbfcfpmholkmeaaGreatDoor
namespace Go.Proofs.YtbfcfpmholkmeaaGreatDoor
open Go.RowKit Go.Shelf Go.Proofs

end Go.Proofs.YtbfcfpmholkmeaaGreatDoor
namespace Go.Proofs.YtbfcfpmholkmeaaGreatDoor
open Go.RowKit Go.Shelf Go.Proofs

end Go.Proofs.YtbfcfpmholkmeaaGreatDoor
namespace Go.Proofs.YtbfcfpmholkmeaaGreatDoor
open Go.RowKit Go.Shelf Go.Proofs
set_option maxRecDepth 100000

end Go.Proofs.YtbfcfpmholkmeaaGreatDoor
namespace Go.Proofs.YtbfcfpmholkmeaaGreatDoor
open Go.RowKit Go.Shelf Go.Proofs
set_option maxRecDepth 100000
set_option maxHeartbeats 1000000

end Go.Proofs.YtbfcfpmholkmeaaGreatDoor
namespace Go.Proofs.YtbfcfpmholkmeaaGreatDoor
open Go.RowKit Go.Shelf Go.Proofs
set_option maxRecDepth 100000
set_option maxHeartbeats 1000000

end Go.Proofs.YtbfcfpmholkmeaaGreatDoor
namespace Go.Proofs.YtbfcfpmholkmeaaGreatDoor
open Go.RowKit Go.Shelf Go.Proofs
set_option maxRecDepth 100000
set_option maxHeartbeats 1000000

end Go.Proofs.YtbfcfpmholkmeaaGreatDoor
namespace Go.Proofs.YtbfcfpmholkmeaaGreatDoor
open Go.RowKit Go.Shelf Go.Proofs
set_option maxRecDepth 100000
set_option maxHeartbeats 1000000

end Go.Proofs.YtbfcfpmholkmeaaGreatDoor
namespace Go.Proofs.YtbfcfpmholkmeaaGreatDoor
open Go.RowKit Go.Shelf Go.Proofs
set_option maxRecDepth 100000
set_option maxHeartbeats 1000000

end Go.Proofs.YtbfcfpmholkmeaaGreatDoor
namespace Go.Proofs.YtbfcfpmholkmeaaGreatDoor
open Go.RowKit Go.Shelf Go.Proofs
set_option maxRecDepth 100000
set_option maxHeartbeats 1000000

end Go.Proofs.YtbfcfpmholkmeaaGreatDoor
namespace Go.Proofs.YtbfcfpmholkmeaaGreatDoor
open Go.RowKit Go.Shelf Go.Proofs
set_option maxRecDepth 100000
set_option maxHeartbeats 1000000

end Go.Proofs.YtbfcfpmholkmeaaGreatDoor
namespace Go.Proofs.YtbfcfpmholkmeaaGreatDoor
open Go.RowKit Go.Shelf Go.Proofs
set_option maxRecDepth 100000
set_option maxHeartbeats 1000000

theorem InB.take:∀ {ls v:List Nat},InB ls v→∀ k,InB (ls.take k) (v.take k)
 | [],[],_,k=>by simp [InB]
 | n::ls,a::v,h,0=>trivial
 | n::ls,a::v,h,k+1=>⟨h.1,InB.take h.2 k⟩
 | [],a::v,h,_=>h.elim
 | n::ls,[],h,_=>h.elim
end Go.Proofs.YtbfcfpmholkmeaaGreatDoor
namespace Go.Proofs.YtbfcfpmholkmeaaGreatDoor
open Go.RowKit Go.Shelf Go.Proofs
set_option maxRecDepth 100000
set_option maxHeartbeats 1000000

def goodK (F:Nat→Int) (V:Nat) (L:List Int):Prop:=L.length=V∧∀ (q:Nat) (z:Int),L[q]?=some z→z = -1∨z=F q
theorem goodK.put {F:Nat→Int} {V:Nat} {L:List Int} (h:goodK F V L) (p:Nat):goodK F V (L.set p (F p)):=by
 refine ⟨by rw [List.length_set];exact h.1,fun q z hz=>?_⟩
 by_cases e:p=q
 ·subst e
  rw [List.getElem?_set] at hz
  simp only [if_true] at hz
  split at hz
  ·injection hz with hz;exact .inr hz.symm
  ·cases hz
 ·rw [List.getElem?_set_ne e] at hz
  exact h.2 q z hz
end Go.Proofs.YtbfcfpmholkmeaaGreatDoor
namespace Go.Proofs.YtbfcfpmholkmeaaGreatDoor
open Go.RowKit Go.Shelf Go.Proofs
set_option maxRecDepth 100000
set_option maxHeartbeats 1000000

end Go.Proofs.YtbfcfpmholkmeaaGreatDoor
namespace Go.Proofs.YtbfcfpmholkmeaaGreatDoor
open Go.RowKit Go.Shelf Go.Proofs
set_option maxRecDepth 100000
set_option maxHeartbeats 1000000

theorem CoAt.row {w:World} {x:Co} {A1 A2:Option Addr} {c1 c2:Nat} {l:List TS} {y3:Value} (hx:CoAt w x A1 c1 l A2 c2 y3) (hok:Ok22 x):l.length=x.sg.length∧x.sg.length≤32∧1≤x.sg.length:=⟨by rw [← hok.head.len, ← hx.m,List.length_map],hok.head.le,hok.head.pos⟩
theorem CoAt.entry {w:World} {x:Co} {A1 A2:Option Addr} {c1 c2:Nat} {l:List TS} {y3:Value} (hx:CoAt w x A1 c1 l A2 c2 y3) (hok:Ok22 x) {i k:Nat} {r:List Int} (hr:x.cols[i]?=some r) (hk:k<x.sg.length) :
  r.length=x.sg.length∧∃ t z,l[k]?=some t∧r[k]?=some z ∧ -1≤z∧z<(t.n:Int)∧cell22 x k i=txt22 t.l z∧t.l.length=t.n:=by
 obtain⟨h1,h2,h3⟩:=hx.row hok
 have hm:=hx.m
 obtain⟨t,ht⟩:∃ t,l[k]?=some t:=⟨_,List.getElem?_eq_getElem (by omega)⟩
 have htl:=hx.hd.ok.len t (List.mem_of_getElem? ht)
 have hmk:x.m[k]?=some t.l:=by rw [← hm,List.getElem?_map,ht];rfl
 have hls:(lens22 x.m)[k]?=some t.n:=by unfold lens22;rw [List.getElem?_map,hmk, ← htl];rfl
 have hrl:r.length=x.sg.length:=by rw [hok.cols.len r (List.mem_of_getElem? hr)];unfold lens22;rw [List.length_map];exact hok.head.len
 obtain⟨z,hz⟩:∃ z,r[k]?=some z:=⟨_,List.getElem?_eq_getElem (by omega)⟩
 obtain⟨e1,e2⟩:=hok.cols.entry (List.mem_of_getElem? hr) hls hz
 refine ⟨hrl,t,z,ht,hz,e1,e2,?_,htl⟩
 unfold cell22
 rw [List.getD_eq_getElem?_getD,hmk,List.getD_eq_getElem?_getD,List.getD_eq_getElem?_getD,hr,Option.getD_some,Option.getD_some,hz,Option.getD_some]
end Go.Proofs.YtbfcfpmholkmeaaGreatDoor
namespace Go.Proofs.YtbfcfpmholkmeaaGreatDoor
open Go.RowKit Go.Shelf Go.Proofs
set_option maxRecDepth 100000
set_option maxHeartbeats 1000000

end Go.Proofs.YtbfcfpmholkmeaaGreatDoor
namespace Go.Proofs.YtbfcfpmholkmeaaGreatDoor
open Go.RowKit Go.Shelf Go.Proofs
set_option maxRecDepth 100000
set_option maxHeartbeats 1000000

end Go.Proofs.YtbfcfpmholkmeaaGreatDoor
namespace Go.Proofs.YtbfcfpmholkmeaaGreatDoor
open Go.RowKit Go.Shelf Go.Proofs
set_option maxRecDepth 100000
set_option maxHeartbeats 1000000

theorem vol_7:∀ {l:List TS},(∀ t∈l,t.n≤6)→volL (lens l)≤7 ^ l.length
 | [],_=>Nat.le_refl _
 | t::l,h=>by
  have h1:=vol_7 (l:=l) fun x hx=>h x (List.mem_cons_of_mem _ hx)
  have h2:=h t (List.mem_cons_self ..)
  show (t.n+1) * volL (lens l)≤7 ^ (l.length+1)
  rw [Nat.pow_succ,Nat.mul_comm]
  exact Nat.mul_le_mul h1 (by omega)
theorem size22_spec (A:Option Addr) (n ca:Nat) (l:List TS) (w:World) (hg:Grp w A n l) (h1:1≤n) (h6:n≤6) (ht:∀ t∈l,t.n≤6) :
  Spec Tryz.prog 53 [.slice A n ca] w (fun v R=>v = .tuple #[.int .i64 (volL (lens l):Nat), .int .i64 0]∧R=[]):=by
 have hn:=hg.hn
 have hv:=vol_7 ht
 have hv2:7 ^ l.length≤7 ^ 6:=Nat.pow_le_pow_right (by omega) (by omega)
 have ec:capV (volL (lens l)) 1073741824=volL (lens l):=if_pos (by omega)
 refine spec_of sg Tryz.func53 rfl rfl rfl ?_
 repeat' (first|refine d1 ?_|refine dd ?_|(show T _ (.ops _ (_::_)::_) _ _ _;first|refine T_call rfl rfl rfl rfl rfl (fun w hw=>srcs19_spec A n ca l w (hg.cls hw)) ?_|refine T_callC rfl rfl rfl rfl rfl rfl rfl (fun hg w hw=>srcs19_spec A n ca l w (hg.cls hw)) ?_)|(show T _ (.run _ _ (_::_) _ _::_) _ _ _;first|refine rc rfl rfl rfl rfl rfl rfl rfl (fun w hw=>srcs19_spec A n ca l w (hg.cls hw)) ?_|refine rcG rfl rfl rfl rfl rfl rfl rfl rfl rfl (fun hg w hw=>srcs19_spec A n ca l w (hg.cls hw)) ?_)|(show ∀ _:Nat,T _ _ _ _ _;intro _))
 rw [if_neg (by omega)]
 refine T_if rfl (fun h=>by exfalso;simp at h) (fun _=>?_)
 repeat' (first|refine d1 ?_|refine dd ?_|(show T _ (.ops _ (_::_)::_) _ _ _;first|refine T_call rfl rfl rfl rfl rfl (fun w hw=>size19_spec A n ca l 1073741824 w (hg.cls hw) ⟨by omega,by omega⟩) ?_|refine T_callC rfl rfl rfl rfl rfl rfl rfl (fun hg w hw=>size19_spec A n ca l 1073741824 w (hg.cls hw) ⟨by omega,by omega⟩) ?_)|(show T _ (.run _ _ (_::_) _ _::_) _ _ _;first|refine rc rfl rfl rfl rfl rfl rfl rfl (fun w hw=>size19_spec A n ca l 1073741824 w (hg.cls hw) ⟨by omega,by omega⟩) ?_|refine rcG rfl rfl rfl rfl rfl rfl rfl rfl rfl (fun hg w hw=>size19_spec A n ca l 1073741824 w (hg.cls hw) ⟨by omega,by omega⟩) ?_)|(show ∀ _:Nat,T _ _ _ _ _;intro _))
 rw [ec]
 refine T_if rfl (fun h=>by exfalso;simp at h;omega) (fun _=>?_)
 repeat' (first|refine d1 ?_|refine dd ?_|(show ∀ _:Nat,T _ _ _ _ _;intro _)|(show T _ (.code .ret::_) _ _ _;refine T_retV [] rfl (Hle.none _) ⟨rfl,rfl⟩))
end Go.Proofs.YtbfcfpmholkmeaaGreatDoor
namespace Go.Proofs.YtbfcfpmholkmeaaGreatDoor
open Go.RowKit Go.Shelf Go.Proofs
set_option maxRecDepth 100000
set_option maxHeartbeats 4000000

theorem co_join4 {p:Frag} {y3:Value} {cols:List (List Int)} {A1 A2:Option Addr} {c1 c2 n m:Nat} {sg':List ByteArray} {cs:List Value} {H:List HA} (hp:Rd (fr p) [y3] [rowsD cols]) :
  Hle (fz p::row 30 1 A2 c2 m cs::row 9 1 A1 c1 n (sg'.map Value.string)::H) (dat [.slice A1 n c1, .slice A2 m c2,y3] [strsD sg', .s 1 (cs.map .v),rowsD cols]::H):=by
 refine (hle_map (fz_dat hp)).trans ?_
 refine (Hle.perm (List.Perm.swap _ _ _)).trans ?_
 refine dat_rowV.trans ?_
 refine (Hle.perm (List.Perm.swap _ _ _)).trans ?_
 refine dat_join.trans ?_
 refine (Hle.perm (List.Perm.swap _ _ _)).trans ?_
 refine dat_rowV.trans ?_
 refine (Hle.perm (List.Perm.swap _ _ _)).trans ?_
 exact dat_join
theorem collate4_spec (c:Costs) (sec:ByteArray) (sg':List ByteArray) (A1:Option Addr) (c1:Nat) (l:List TS) (A2:Option Addr) (c2:Nat) (w:World) (hh:HdAt w sec sg' A1 c1 l A2 c2) (hc:costE c=0) (hd:head22 sec sg' (l.map TS.l)=0) (hb:l.length≤4) :
  Spec Tryz.prog 22 [c.val, .string sec, .slice A1 sg'.length c1, .slice A2 l.length c2] w (fun v R=>∃ y:(Option Addr × Nat) × (Option Addr × Nat) × Value,True∧v = .tuple #[.agg (coL sec (.slice y.1.1 sg'.length y.1.2) (.slice y.2.1.1 l.length y.2.1.2) y.2.2).toArray, .int .i64 0]∧R=[dat [.slice y.1.1 sg'.length y.1.2, .slice y.2.1.1 l.length y.2.1.2,y.2.2] [strsD sg', .s 1 ((l.map TS.val).map .v),rowsD (alnW c l)]]):=by
 refine spec_of sg Tryz.func22 rfl rfl rfl ?_
 refine T_op (OpT.box (cs:=c.cells) rfl rfl rfl rfl rfl rfl rfl (fun pc=>?_))
 repeat' (first|refine d1 ?_|refine dd ?_|(show T _ (.ops _ (_::_)::_) _ _ _;first|refine T_call rfl rfl rfl rfl rfl (fun w hw=>costPrg_spec c w) ?_|refine T_callC rfl rfl rfl rfl rfl rfl rfl (fun hg w hw=>costPrg_spec c w) ?_)|(show T _ (.run _ _ (_::_) _ _::_) _ _ _;first|refine rc rfl rfl rfl rfl rfl rfl rfl (fun w hw=>costPrg_spec c w) ?_|refine rcG rfl rfl rfl rfl rfl rfl rfl rfl rfl (fun hg w hw=>costPrg_spec c w) ?_)|(show ∀ _:Nat,T _ _ _ _ _;intro _))
 rename_i pr
 refine T_if rfl (fun h=>by exfalso;simp [hc] at h) (fun _=>?_)
 repeat' (first|refine d1 ?_|refine dd ?_|(show T _ (.ops _ (_::_)::_) _ _ _;first|refine T_call rfl rfl rfl rfl rfl (fun w hw=>sources22_spec sec sg' A1 c1 l A2 c2 w (hh.cls hw)) ?_|refine T_callC rfl rfl rfl rfl rfl rfl rfl (fun hg w hw=>sources22_spec sec sg' A1 c1 l A2 c2 w (hh.cls hw)) ?_)|(show T _ (.run _ _ (_::_) _ _::_) _ _ _;first|refine rc rfl rfl rfl rfl rfl rfl rfl (fun w hw=>sources22_spec sec sg' A1 c1 l A2 c2 w (hh.cls hw)) ?_|refine rcG rfl rfl rfl rfl rfl rfl rfl rfl rfl (fun hg w hw=>sources22_spec sec sg' A1 c1 l A2 c2 w (hh.cls hw)) ?_)|(show ∀ _:Nat,T _ _ _ _ _;intro _))
 refine T_if rfl (fun h=>by exfalso;simp [hd] at h) (fun _=>?_)
 obtain⟨g1,g2,g3,g4,g5,g6,g7⟩:=head22_iff.1 hd
 have hlg:l.length=sg'.length:=by rw [← g6,List.length_map]
 have hbs:badS l=false:=List.any_eq_false.2 fun t ht=>by rw [(g7 t.l (List.mem_map.2 ⟨t,ht,rfl⟩)).2];simp
 have hck:ck21 c l=0:=if_pos ⟨hc,hbs⟩
 have hus:usV c l=0:=by unfold usV;rw [if_neg (by omega),hck]
 have f1:1≤l.length:=by omega
 have hg:Grp w A2 l.length l:=hh.grp (by omega)
 have h6:l.length≤6:=by omega
 have ht6:∀ t∈l,t.n≤6:=fun t ht=>(hh.tok t ht).1
 have hv:=vol_7 ht6
 repeat' (first|refine d1 ?_|refine dd ?_|(show T _ (.ops _ (_::_)::_) _ _ _;first|refine T_callE rfl rfl rfl rfl rfl (fun w hw=>cloneStr_spec A1 sg'.length c1 sg' w (rdSrc hh.s1 w hw) (by omega)) (fun x1 _=>?_)|refine T_callE rfl rfl rfl rfl rfl (fun w hw=>cloneS_spec A2 l.length c2 l w (rdSrc hh.s2 w hw) (by omega)) (fun x2 _=>?_)|refine T_op (OpT.storeA rfl rfl rfl rfl rfl rfl (by decide) ?_)|refine T_call rfl rfl rfl rfl rfl (fun w hw=>size22_spec A2 l.length c2 l w (hg.cls hw) f1 h6 ht6) ?_|refine T_callC rfl rfl rfl rfl rfl rfl rfl (fun hg w hw=>size22_spec A2 l.length c2 l w (hg.cls hw) f1 h6 ht6) ?_)|(show T _ (.run _ _ (_::_) _ _::_) _ _ _;first|refine rc rfl rfl rfl rfl rfl rfl rfl (fun w hw=>size22_spec A2 l.length c2 l w (hg.cls hw) f1 h6 ht6) ?_|refine rcG rfl rfl rfl rfl rfl rfl rfl rfl rfl (fun hg w hw=>size22_spec A2 l.length c2 l w (hg.cls hw) f1 h6 ht6) ?_)|(show ∀ _:Nat,T _ _ _ _ _;intro _))
 rename_i pt
 have hv2:7 ^ l.length≤7 ^ 4:=Nat.pow_le_pow_right (by omega) hb
 have f4:aln19 c l=(alnW c l,lstV c l,0):=by
  unfold aln19
  rw [if_neg (by rw [hus];simp),if_neg (by omega)]
 refine T_if rfl (fun h4=>?_) (fun h4=>by exfalso;exact absurd h4 (by simp;omega))
 ·skip
  repeat' (first|refine d1 ?_|refine dd ?_|(show T _ (.ops _ (_::_)::_) _ _ _;refine T_op (OpT.call rfl rfl rfl rfl rfl (fun w hw=>align19_spec c A2 l.length c2 l w (hg.cls hw)) ?_))|(show ∀ _:Nat,T _ _ _ _ _;intro _))
  rintro v R ⟨y,-,rfl,rfl⟩
  rw [f4]
  refine T_le (H':=[dat [y] [rowsD (alnW c l)],blk pt (coL sec (.slice x1.1 sg'.length x1.2) (.slice x2.1 l.length x2.2) (.slice none 0 0)) 61,row 30 1 x2.1 x2.2 l.length (l.map TS.val),row 9 1 x1.1 x1.2 sg'.length (sg'.map Value.string),blk pr (coL ByteArray.empty (.slice none 0 0) (.slice none 0 0) (.slice none 0 0)) 61,blk pc c.cells 65]) (Hle.refl _) ?_
  refine T_open fun p hp=>?_
  obtain⟨Ay,cy,csy,rfl,-⟩:=hp.tab
  refine T_le (H':=[blk pt (coL sec (.slice x1.1 sg'.length x1.2) (.slice x2.1 l.length x2.2) (.slice none 0 0)) 61,blk pr (coL ByteArray.empty (.slice none 0 0) (.slice none 0 0) (.slice none 0 0)) 61,fz p,row 30 1 x2.1 x2.2 l.length (l.map TS.val),row 9 1 x1.1 x1.2 sg'.length (sg'.map Value.string)]) Hle.srt ?_
  repeat' (first|refine d1 ?_|refine dd ?_|(show ∀ _:Nat,T _ _ _ _ _;intro _))
  refine T_if rfl (fun h5=>by exfalso;simp at h5) (fun _=>?_)
  repeat' (first|refine d1 ?_|refine dd ?_|(show T _ (.ops _ (_::_)::_) _ _ _;refine T_op (OpT.storeA rfl rfl rfl rfl rfl rfl (by decide) ?_))|(show ∀ _:Nat,T _ _ _ _ _;intro _))
  exact T_retM (vs:=[.agg (coL sec (.slice x1.1 sg'.length x1.2) (.slice x2.1 l.length x2.2) (.slice Ay (alnW c l).length cy)).toArray, .int .i64 0]) _ ⟨⟨pr,_,coL sec (.slice x1.1 sg'.length x1.2) (.slice x2.1 l.length x2.2) (.slice Ay (alnW c l).length cy),rfl,rfl,rfl,rfl,(fun h=>by cases h),rfl,rdAll⟩,rfl,trivial⟩ (((Hle.tail _ _).trans (Hle.tail _ _)).trans ((co_join4 hp).trans (Hle.nth 0 rfl))) ⟨(x1,x2, .slice Ay (alnW c l).length cy),trivial,rfl,rfl⟩
end Go.Proofs.YtbfcfpmholkmeaaGreatDoor
namespace Go.Proofs.YtbfcfpmholkmeaaGreatDoor
open Go.RowKit Go.Shelf Go.Proofs
set_option maxRecDepth 100000
set_option maxHeartbeats 4000000

def exR:List RuB:=[(⟨#[97,101]⟩,⟨#[101]⟩),(⟨#[111,101]⟩,⟨#[101]⟩)]
def exA:ByteArray:=⟨#[99,97,101,108,117,109]⟩
def exB:ByteArray:=⟨#[112,111,101,110,97]⟩
def exC:ByteArray:=⟨#[99,101,108,117,109]⟩
def exD:ByteArray:=⟨#[112,101,110,97]⟩
def exS1:ByteArray:=⟨#[99,97,101,108,117,109,32,112,111,101,110,97]⟩
def exS2:ByteArray:=⟨#[99,101,108,117,109,32,112,101,110,97]⟩
def tkW (t n:ByteArray):Tok:={ noTok with text:=t,norm:=n }
theorem exR_ok:rusOk exR:=⟨by decide,List.forall_mem_cons.2 ⟨⟨by decide +kernel,by decide +kernel,by decide +kernel,by decide +kernel,by decide +kernel,by decide +kernel,by decide +kernel⟩,List.forall_mem_cons.2 ⟨⟨by decide +kernel,by decide +kernel,by decide +kernel,by decide +kernel,by decide +kernel,by decide +kernel,by decide +kernel⟩,fun r h=>by cases h⟩⟩⟩
theorem exT1:tksT (runT exS1.data.toList)=[tkW exA .empty,tkW exB .empty]:=by decide +kernel
theorem exT2:tksT (runT exS2.data.toList)=[tkW exC .empty,tkW exD .empty]:=by decide +kernel
theorem exS1_c:checkS exS1=0:=by decide +kernel
theorem exS2_c:checkS exS2=0:=by decide +kernel
theorem exS1_k:∀ c∈exS1.data.toList,kindB c=1∨kindB c=6:=by decide +kernel
theorem exS2_k:∀ c∈exS2.data.toList,kindB c=1∨kindB c=6:=by decide +kernel
theorem exW {t:ByteArray} (h1:t.size≤64) (h2:normB t=true):(0≤(tkW t .empty).flags∧(tkW t .empty).flags≤31)∧(tkW t .empty).text.size≤64∧(wordT (tkW t .empty)=true→normB (tkW t .empty).text=true∧(tkW t .empty).text.size≤64) :=
 ⟨⟨Int.le_refl _,by show (0:Int)≤31;decide⟩,h1,fun _=>⟨h2,h1⟩⟩
theorem stpN_len {rs:RulW} (h:∀ x∈rs,x.2.length+1≤x.1.length):∀ n u v,stpN rs n u v→v.length+n≤u.length
 | 0,u,v,e=>by have e2:u=v:=e;subst e2;exact Nat.le_refl _
 | n+1,u,v,⟨x,h1,a,b,f,t,h2,e1,e2⟩=>by
  have h3:=stpN_len h n u x h1
  have h4:=h _ h2
  subst e1;subst e2
  simp only [List.length_append] at h3 h4 ⊢
  omega
theorem exR_lng {t:ByteArray} (h:t.size≤64):¬ lngT exR t:=fun⟨_,z,hz⟩=>by
 have h9:=stpN_len (rs:=rusL exR) (by decide +kernel) 4096 _ _ hz
 rw [size_list] at h9
 omega
theorem exN {w n:ByteArray} (R:List (List UInt8)) (h0:w.data.toList∈R) (hc:(R.all fun u=>(resW (rusL exR) u).all fun v=>R.contains v)=true) (hn:(R.all fun u => !(resW (rusL exR) u).isEmpty || u == n.data.toList)=true)
  {z:ByteArray} (h1:rchW (rusL exR) w.data.toList z.data.toList) (h2:nrmW (rusL exR) z.data.toList):z=n:=by
 have h9:=bfsW (N:=[n.data.toList]) h0 (fun u hu v hv=>by
  have h3:=List.all_eq_true.1 (List.all_eq_true.1 hc u hu) v ((resW_iff exR_ok.dwn).2 hv)
  exact List.contains_iff_mem.1 h3) (fun u hu hnu=>by
  have h3:=List.all_eq_true.1 hn u hu
  rw [(resW_nil exR_ok.dwn).2 hnu] at h3
  rw [List.mem_singleton]
  simpa using h3) _ h1 h2
 exact ba_ext.2 (List.mem_singleton.1 h9)
theorem exN1 {z:ByteArray}:rchW (rusL exR) exA.data.toList z.data.toList→nrmW (rusL exR) z.data.toList→z=exC:=exN [exA.data.toList,exC.data.toList] (.head _) (by decide +kernel) (by decide +kernel)
theorem exN2 {z:ByteArray}:rchW (rusL exR) exB.data.toList z.data.toList→nrmW (rusL exR) z.data.toList→z=exD:=exN [exB.data.toList,exD.data.toList] (.head _) (by decide +kernel) (by decide +kernel)
theorem exN3 {z:ByteArray}:rchW (rusL exR) exC.data.toList z.data.toList→nrmW (rusL exR) z.data.toList→z=exC:=exN [exC.data.toList] (.head _) (by decide +kernel) (by decide +kernel)
theorem exN4 {z:ByteArray}:rchW (rusL exR) exD.data.toList z.data.toList→nrmW (rusL exR) z.data.toList→z=exD:=exN [exD.data.toList] (.head _) (by decide +kernel) (by decide +kernel)
theorem ex_list {a b a' b':ByteArray} {us:List Tok} (h:nmList exR [tkW a .empty,tkW b .empty] us) (h1:∀ z:ByteArray,rchW (rusL exR) a.data.toList z.data.toList→nrmW (rusL exR) z.data.toList→z=a') (h2:∀ z:ByteArray,rchW (rusL exR) b.data.toList z.data.toList→nrmW (rusL exR) z.data.toList→z=b'):us=[tkW a a',tkW b b']:=by
 obtain⟨u,hu,e1⟩:=h.at_ 0 _ rfl
 obtain⟨v,hv,e2⟩:=h.at_ 1 _ rfl
 have hl:us.length=2:=h.len
 match us,hl with
 | [x,y],_ =>
  obtain rfl:x=u:=by simpa using hu
  obtain rfl:y=v:=by simpa using hv
  have g1:=e1.w rfl
  have g2:=e2.w rfl
  rw [e1.e,e2.e,h1 _ g1.1 g1.2,h2 _ g2.1 g2.2]
  rfl
def exK:Costs:=⟨40,5,20,50⟩
def exGA:ByteArray:=⟨#[65]⟩
def exGB:ByteArray:=⟨#[66]⟩
def exL1:List Tok:=[tkW exA exC,tkW exB exD]
def exL2:List Tok:=[tkW exC exC,tkW exD exD]
def exTS (x1 x2:Option Addr × Nat):List TS:=[⟨x1.1,2,x1.2,exL1⟩,⟨x2.1,2,x2.2,exL2⟩]
def exCo:List (List Int):=[[0,0],[1,1]]
theorem exKK:costE exK=0:=by decide +kernel
theorem exHH:head22 sA [exGA,exGB] [exL1,exL2]=0:=by decide +kernel
theorem exWW:alnW exK (exTS (none,0) (none,0))=exCo:=by decide +kernel
theorem exSm:(∀ x∈exL1,x.small)∧(∀ x∈exL2,x.small):=by decide +kernel
theorem exTx:(∀ x∈exL1,x.text.size≤12)∧(∀ x∈exL2,x.text.size≤12):=by decide +kernel
end Go.Proofs.YtbfcfpmholkmeaaGreatDoor
namespace Go.Proofs.YtbfcfpmholkmeaaGreatDoor
open Go.RowKit Go.Shelf Go.Proofs
set_option maxRecDepth 100000
set_option maxHeartbeats 4000000

theorem rules22_spec (w:World):Spec Tryz.prog 21 [] w (fun v R=>∃ b:Nat,True∧v = .slice (some ⟨b,0,none⟩) 2 2∧R=[blk b (exR.flatMap ruC) 28]):=by
 refine spec_of sg Tryz.func21 rfl rfl rfl ?_
 repeat' (first|refine d1 ?_|(show ∀ _:Nat,T _ _ _ _ _;intro _)|(show T _ (.code .ret::_) _ _ _;refine T_retV _ rfl (Hle.refl _) ⟨_,trivial,rfl,rfl⟩))
theorem exTokens {w w0:World} {H:List HA} {b9 br:Nat} {s:ByteArray} {a b a' b':ByteArray} (hst:Std w0) (hfs:FormS w0) (hw:Cls w0 w (blk br (exR.flatMap ruC) 28::blk b9 (nodT s) 56::H)) (hss:s.size≤64) (hs0:s.size≠0) (hc:checkS s=0) (hk:∀ c∈s.data.toList,kindB c=1∨kindB c=6)
  (ht:tksT (runT s.data.toList)=[tkW a .empty,tkW b .empty]) (ha:a.size≤64∧normB a=true) (hb:b.size≤64∧normB b=true)
  (h1:∀ z:ByteArray,rchW (rusL exR) a.data.toList z.data.toList→nrmW (rusL exR) z.data.toList→z=a') (h2:∀ z:ByteArray,rchW (rusL exR) b.data.toList z.data.toList→nrmW (rusL exR) z.data.toList→z=b') :
  Spec Tryz.prog 20 [.agg #[.string ByteArray.empty, .int .i64 0], .slice (some ⟨b9,0,none⟩) 1 1, .slice (some ⟨br,0,none⟩) 2 2] w (fun v R=>∃ x:Option Addr × Nat,True∧v = .tuple #[.slice x.1 2 x.2, .int .i64 0]∧R=[row 38 6 x.1 x.2 2 ([tkW a a',tkW b b'].flatMap Tok.cells)]):=by
 have hrs:RsR w (some ⟨br,0,none⟩) 2 exR:=⟨Src.own (b:=br) hw rfl,rfl,by omega,by decide +kernel⟩
 have hn:NodR w b9 s:=RdC.own (i:=1) hw rfl (fun j u hu=>by rw [Nat.zero_add];exact hu)
 refine (tokensT_spec b9 s (some ⟨br,0,none⟩) 2 2 exR w (hst.cls hw) (hfs.cls hw) hn hrs exR_ok hss hs0 hc hk ?_ ?_).mono ?_
 ·rw [ht]
  exact List.forall_mem_cons.2 ⟨exW ha.1 ha.2,List.forall_mem_cons.2 ⟨exW hb.1 hb.2,fun t h=>by cases h⟩⟩
 ·rw [ht]
  exact List.forall_mem_cons.2 ⟨exR_lng ha.1,List.forall_mem_cons.2 ⟨exR_lng hb.1,fun t h=>by cases h⟩⟩
 ·rintro v R ⟨x,us,hus,rfl,rfl⟩
  rw [ht] at hus
  obtain rfl:=ex_list hus h1 h2
  exact⟨x,trivial,rfl,rfl⟩
theorem srcRowE {w0 w:World} {H:List HA} {A:Option Addr} {e sz cap n:Nat} {xs:List Value} {rb:HA→List HA} [FocusR H A e sz cap n xs rb] (hw:Cls w0 w H):Src w sz A n xs :=
 srcRw (C:=⟨sg,⟨0,[]⟩,w0,none,fun _ _=>True,fun _ _=>True,fun _ _ _=>True⟩) (e:=e) (cap:=cap) (rb:=rb) w hw
theorem ex_hd {w w':World} (hst:Std w) {b4 bS:Nat} {x1 x2:Option Addr × Nat} {H:List HA}
  (hw:Cls w w' (blk b4 ((exTS x1 x2).map TS.val) 30::blk bS ([exGA,exGB].map Value.string) 9::row 38 6 x2.1 x2.2 2 (exL2.flatMap Tok.cells)::row 38 6 x1.1 x1.2 2 (exL1.flatMap Tok.cells)::H)) :
  HdAt w' sA [exGA,exGB] (some ⟨bS,0,none⟩) 2 (exTS x1 x2) (some ⟨b4,0,none⟩) 2 :=
 ⟨hst.cls hw,Src.own (b:=bS) hw rfl,Nat.le_refl _,Src.own (b:=b4) hw rfl,
  ⟨List.forall_mem_cons.2 ⟨srcRowE hw,List.forall_mem_cons.2 ⟨srcRowE hw,fun t h=>by cases h⟩⟩,List.forall_mem_cons.2 ⟨rfl,List.forall_mem_cons.2 ⟨rfl,fun t h=>by cases h⟩⟩,List.forall_mem_cons.2 ⟨Nat.le_of_ble_eq_true rfl,List.forall_mem_cons.2 ⟨Nat.le_of_ble_eq_true rfl,fun t h=>by cases h⟩⟩⟩,
  by decide,by decide,by decide,Nat.le_of_ble_eq_true rfl,
  List.forall_mem_cons.2 ⟨⟨Nat.le_of_ble_eq_true rfl,exSm.1⟩,List.forall_mem_cons.2 ⟨⟨Nat.le_of_ble_eq_true rfl,exSm.2⟩,fun t h=>by cases h⟩⟩,
  List.forall_mem_cons.2 ⟨exTx.1,List.forall_mem_cons.2 ⟨exTx.2,fun t h=>by cases h⟩⟩⟩
theorem exGet0 (j:Nat) (u:Value) (hu:([.string exC]:List Value)[j]?=some u):(exL1.flatMap Tok.cells)[0+Int.toNat 0 * 6+1+j]?=some u:=by
 cases j with
 | zero=>exact hu
 | succ j=>simp at hu
theorem exGet1 (j:Nat) (u:Value) (hu:([.string exD]:List Value)[j]?=some u):(exL1.flatMap Tok.cells)[0+Int.toNat 1 * 6+1+j]?=some u:=by
 cases j with
 | zero=>exact hu
 | succ j=>simp at hu
theorem top22Awake_spec (w:World) (hst:Std w) (hfs:FormS w):Spec Tryz.prog 5 [] w (fun v R=>v = .bool true∧R=[]):=by
 refine spec_of sg Tryz.func5 rfl rfl rfl ?_
 repeat' (first|refine d1 ?_|(show ∀ _:Nat,T _ _ _ _ _;intro _))
 rename_i b9
 refine T_op (OpT.call rfl rfl rfl rfl rfl (fun w hw=>rules22_spec w) ?_)
 rintro u R ⟨br,-,rfl,rfl⟩
 refine T_le (H':=[blk br (exR.flatMap ruC) 28,blk b9 (nodT exS1) 56]) (Hle.refl _) ?_
 repeat' (first|refine d1 ?_|(show ∀ _:Nat,T _ _ _ _ _;intro _))
 refine T_op (OpT.call rfl rfl rfl rfl rfl (fun w hw=>exTokens (s:=exS1) (a:=exA) (b:=exB) (a':=exC) (b':=exD) hst hfs hw (by decide) (by decide) exS1_c exS1_k exT1 (by decide +kernel) (by decide +kernel) (fun z=>exN1) (fun z=>exN2)) ?_)
 rintro u R ⟨x1,-,rfl,rfl⟩
 refine T_le (H':=[row 38 6 x1.1 x1.2 2 (exL1.flatMap Tok.cells)]) (Hle.append_left (A:=[_]) _) ?_
 repeat' (first|refine d1 ?_|(show ∀ _:Nat,T _ _ _ _ _;intro _))
 rename_i b9
 refine T_op (OpT.call rfl rfl rfl rfl rfl (fun w hw=>rules22_spec w) ?_)
 rintro u R ⟨br,-,rfl,rfl⟩
 refine T_le (H':=[blk br (exR.flatMap ruC) 28,blk b9 (nodT exS2) 56,row 38 6 x1.1 x1.2 2 (exL1.flatMap Tok.cells)]) (Hle.refl _) ?_
 repeat' (first|refine d1 ?_|(show ∀ _:Nat,T _ _ _ _ _;intro _))
 refine T_op (OpT.call rfl rfl rfl rfl rfl (fun w hw=>exTokens (s:=exS2) (a:=exC) (b:=exD) (a':=exC) (b':=exD) hst hfs hw (by decide) (by decide) exS2_c exS2_k exT2 (by decide +kernel) (by decide +kernel) (fun z=>exN3) (fun z=>exN4)) ?_)
 rintro u R ⟨x2,-,rfl,rfl⟩
 refine T_le (H':=[row 38 6 x2.1 x2.2 2 (exL2.flatMap Tok.cells),row 38 6 x1.1 x1.2 2 (exL1.flatMap Tok.cells)]) (hle_pm [0,3] [_,_,_,_] []) ?_
 repeat' (first|refine d1 ?_|(show ∀ _:Nat,T _ _ _ _ _;intro _))
 rename_i bS b4
 refine T_le (H':=[blk b4 ((exTS x1 x2).map TS.val) 30,blk bS ([exGA,exGB].map Value.string) 9,row 38 6 x2.1 x2.2 2 (exL2.flatMap Tok.cells),row 38 6 x1.1 x1.2 2 (exL1.flatMap Tok.cells)]) (Hle.refl _) ?_
 refine T_op (OpT.call rfl rfl rfl rfl rfl (fun w hw=>collate4_spec exK sA [exGA,exGB] (some ⟨bS,0,none⟩) 2 (exTS x1 x2) (some ⟨b4,0,none⟩) 2 w (ex_hd hst hw) exKK exHH (Nat.le_of_ble_eq_true rfl)) ?_)
 rintro v R ⟨⟨y1,y2,y3⟩,-,rfl,rfl⟩
 rw [show alnW exK (exTS x1 x2)=exCo from exWW]
 dsimp only
 refine T_open fun p hp=>?_
 refine T_le (H':=[fz p,row 38 6 x1.1 x1.2 2 (exL1.flatMap Tok.cells)]) (hle_pm [0,4] [_,_,_,_,_] []) ?_
 obtain⟨Ak,ck,csk,rfl,-⟩:=hp.cons_inv.2.cons_inv.2.tab
 obtain⟨X1,cx1⟩:=x1
 dsimp only
 refine T_rowpos (e:=38) (sz:=6) (A:=X1) (cap:=cx1) (n:=2) (xs:=exL1.flatMap Tok.cells) (by omega) fun g e=>?_
 subst e
 repeat' (first|refine d1 ?_|(show T _ (.ops _ (_::_)::_) _ _ _;first|refine T_op (OpT.storeA rfl rfl rfl rfl rfl rfl (by decide) ?_)|refine T_val rfl (Val.load rfl (fun hg=>rdRow (A:=some ⟨g,0,none⟩) (vs:=[.string exC]) (by omega) exGet0)) rfl rfl rfl ?_|refine T_valC rfl (Val.load rfl (fun hg=>rdRow (A:=some ⟨g,0,none⟩) (vs:=[.string exC]) (by omega) exGet0)) rfl rfl rfl rfl rfl ?_|refine T_val rfl (Val.load rfl (fun hg=>rdRow (A:=some ⟨g,0,none⟩) (vs:=[.string exD]) (by omega) exGet1)) rfl rfl rfl ?_|refine T_valC rfl (Val.load rfl (fun hg=>rdRow (A:=some ⟨g,0,none⟩) (vs:=[.string exD]) (by omega) exGet1)) rfl rfl rfl rfl rfl ?_)|(show T _ (.run _ _ (_::_) _ _::_) _ _ _;first|refine rv rfl rfl rfl (Val.load rfl (fun hg=>rdRow (A:=some ⟨g,0,none⟩) (vs:=[.string exC]) (by omega) exGet0)) rfl rfl rfl ?_|refine rg rfl rfl rfl (Val.load rfl (fun hg=>rdRow (A:=some ⟨g,0,none⟩) (vs:=[.string exC]) (by omega) exGet0)) rfl rfl rfl rfl rfl ?_|refine rv rfl rfl rfl (Val.load rfl (fun hg=>rdRow (A:=some ⟨g,0,none⟩) (vs:=[.string exD]) (by omega) exGet1)) rfl rfl rfl ?_|refine rg rfl rfl rfl (Val.load rfl (fun hg=>rdRow (A:=some ⟨g,0,none⟩) (vs:=[.string exD]) (by omega) exGet1)) rfl rfl rfl rfl rfl ?_)|(show ∀ _:Nat,T _ _ _ _ _;intro _))
 rw [show decide (exC=(⟨#[99,101,108,117,109]⟩:ByteArray))=true from decide_eq_true rfl,show decide (exD=(⟨#[112,101,110,97]⟩:ByteArray))=true from decide_eq_true rfl]
 repeat' (first|refine d1 ?_|refine dd ?_|(show T _ (.ops _ (_::_)::_) _ _ _;refine T_op (OpT.sure (p:=true) rfl rfl rfl (OpT.litW rfl rfl rfl rfl rfl rfl rfl rfl rfl rfl rfl (fun _=>?_))))|(show ∀ _:Nat,T _ _ _ _ _;intro _))
 rename_i c3 c4 c5
 refine T_le (H':=[blk c5 [.slice (some ⟨c3,0,none⟩) 2 2, .slice (some ⟨c4,0,none⟩) 2 2] 67,blk c4 [.int .i64 1, .int .i64 1] 3,blk c3 [.int .i64 0, .int .i64 0] 3,fz p]) (hle_pm [0,1,2,4] [_,_,_,_,_,_] []) ?_
 refine T_callC rfl rfl rfl rfl rfl rfl rfl (fun _ w hw=>sameCols22_spec (.slice Ak exCo.length ck) _ exCo [[0,0],[1,1]] w (hp.cons_inv.2.cons_inv.2.own hw) (rd_lit (n:=2) (Src.own (b:=c5) hw rfl) (by omega) ((rd_ints (b:=c3) (n:=2) (r:=[0,0]) (Src.own hw rfl) (by omega)).append (rd_ints (b:=c4) (n:=2) (r:=[1,1]) (Src.own hw rfl) (by omega))))) ?_
 repeat' (first|refine d1 ?_|(show ∀ _:Nat,T _ _ _ _ _;intro _)|(show T _ (.code .ret::_) _ _ _;refine T_retV [] rfl (Hle.none _) ⟨rfl,rfl⟩))
end Go.Proofs.YtbfcfpmholkmeaaGreatDoor
