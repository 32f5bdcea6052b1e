/- Joined texts of this claim, part 2. -/
import Derived.Test.YtblnhdnogjijiaaGreatDoorW1
import Derived.Lib.AppendZerosOnto
import Derived.Laws.IdiomCopy
import Derived.Lib.Overlaps
import Derived.Laws.Externs
set_option linter.unusedSectionVars false
set_option linter.unusedVariables false
set_option linter.unusedSimpArgs false
namespace Go.Proofs.YtblnhdnogjijiaaGreatDoor
open Go.RowKit Go.Shelf

def isNone':Option Addr→Bool
 | none=>true
 | some _=>false
def nilK:Operand→Nat
 | .const (.slice none 0 0)=>1
 | .const (.pointer none)=>2
 | _=>0
def evNilS (S:Sig) (env:Env) (ec:EnvC) (G:GId) (o:Oper):Option (Bool × Bool) :=
 match o.op with
 | .binOp op t x y _=>match S.ty t,evX env ec G x,nilK y,op with
  | some ⟨.slice _,_,_,_⟩,some (.slice A _ _),1, .eql=>some (true,isNone' A)
  | some ⟨.slice _,_,_,_⟩,some (.slice A _ _),1, .neq=>some (false,isNone' A)
  | some ⟨.ptr _,_,_,_⟩,some (.pointer A),2, .eql=>some (true,isNone' A)
  | some ⟨.ptr _,_,_,_⟩,some (.pointer A),2, .neq=>some (false,isNone' A)
  | _,_,_,_=>none
 | _=>none
theorem nilK_one {y:Operand} (h:nilK y=1):y = .const (.slice none 0 0):=by
 unfold nilK at h
 split at h
 ·rfl
 ·cases h
 ·cases h
theorem nilK_two {y:Operand} (h:nilK y=2):y = .const (.pointer none):=by
 unfold nilK at h
 split at h
 ·cases h
 ·rfl
 ·cases h
theorem run_sliceNil {P:Program} {t e:TypeId} (hf:P.underlying t=some (.slice e)) (A:Option Addr) (n c:Nat) (w:World):(Op.equal t (.slice A n c) (.slice none 0 0)).run P w = .ok (isNone' A) w:=by
 show (Op.equalIn (9999+1) t _ _).run P w=_
 rw [Op.equalIn]
 cases A <;> (simp only [Sem.run_bind,run_underlying hf,Result.andThen_ok];rfl)
theorem run_ptrNil {P:Program} {t e:TypeId} (hf:P.underlying t=some (.pointer e)) (A:Option Addr) (w:World):(Op.equal t (.pointer A) (.pointer none)).run P w = .ok (isNone' A) w:=by
 show (Op.equalIn (9999+1) t _ _).run P w=_
 rw [Op.equalIn]
 cases A <;> (simp only [Sem.run_bind,run_underlying hf,Result.andThen_ok];rfl)
theorem run_nilOpS {P:Program} {w:World} {t:TypeId} {x:Operand} {A:Option Addr} {n c:Nat} {r:Bool} (hq:(Op.equal t (.slice A n c) (.slice none 0 0)).run P w = .ok r w) :
  ((do eqGuard .eql t x (.const (.slice none 0 0)) (.slice A n c) (.slice none 0 0);binOp .eql t (.slice A n c) (.slice none 0 0):Sem Value)).run P w = .ok (.bool r) w∧((do eqGuard .neq t x (.const (.slice none 0 0)) (.slice A n c) (.slice none 0 0);binOp .neq t (.slice A n c) (.slice none 0 0):Sem Value)).run P w = .ok (.bool (!r)) w:=by
 constructor
 ·show ((do pure PUnit.unit;pure (.bool (← Op.equal t _ _)):Sem Value)).run P w=_
  rw [Sem.run_bind,hq];rfl
 ·show ((do pure PUnit.unit;pure (.bool (!(← Op.equal t _ _))):Sem Value)).run P w=_
  rw [Sem.run_bind,hq];rfl
theorem run_nilOpP {P:Program} {w:World} {t:TypeId} {x:Operand} {A:Option Addr} {r:Bool} (hq:(Op.equal t (.pointer A) (.pointer none)).run P w = .ok r w) :
  ((do eqGuard .eql t x (.const (.pointer none)) (.pointer A) (.pointer none);binOp .eql t (.pointer A) (.pointer none):Sem Value)).run P w = .ok (.bool r) w∧((do eqGuard .neq t x (.const (.pointer none)) (.pointer A) (.pointer none);binOp .neq t (.pointer A) (.pointer none):Sem Value)).run P w = .ok (.bool (!r)) w:=by
 constructor
 ·show ((do pure PUnit.unit;pure (.bool (← Op.equal t _ _)):Sem Value)).run P w=_
  rw [Sem.run_bind,hq];rfl
 ·show ((do pure PUnit.unit;pure (.bool (!(← Op.equal t _ _))):Sem Value)).run P w=_
  rw [Sem.run_bind,hq];rfl
theorem Val.nilS {C:Cx} {all:Array Oper} {o:Oper} {env:Env} {ec:EnvC} {Hs:List HA} {G:GId} {p r:Bool} (hv:evNilS C.S env ec G o=some (p,r)):Val C all o env ec Hs G (.bool (cond p r (!r))):=by
 intro a w ha _ hH
 obtain⟨dst,op,ty,pos,aft,gd⟩:=o
 unfold evNilS at hv
 dsimp only at hv
 split at hv
 ·rename_i op t x y t2
  split at hv
  ·rename_i ht hx hy
   have hy':=nilK_one hy
   subst hy'
   cases hv
   have hf:=(Sig.tyOk ht).fits
   simp only [Ty.fits] at hf
   simp only [execOp,evX_spec ha hH hx,show a.eval (.const (.slice none 0 0)) = .slice none 0 0 from rfl]
   rw [Sem.run_bind,(run_nilOpS (x:=x) (run_sliceNil hf _ _ _ w)).1];rfl
  ·rename_i ht hx hy
   have hy':=nilK_one hy
   subst hy'
   cases hv
   have hf:=(Sig.tyOk ht).fits
   simp only [Ty.fits] at hf
   simp only [execOp,evX_spec ha hH hx,show a.eval (.const (.slice none 0 0)) = .slice none 0 0 from rfl]
   rw [Sem.run_bind,(run_nilOpS (x:=x) (run_sliceNil hf _ _ _ w)).2];rfl
  ·rename_i ht hx hy
   have hy':=nilK_two hy
   subst hy'
   cases hv
   have hf:=(Sig.tyOk ht).fits
   simp only [Ty.fits] at hf
   simp only [execOp,evX_spec ha hH hx,show a.eval (.const (.pointer none)) = .pointer none from rfl]
   rw [Sem.run_bind,(run_nilOpP (x:=x) (run_ptrNil hf _ w)).1];rfl
  ·rename_i ht hx hy
   have hy':=nilK_two hy
   subst hy'
   cases hv
   have hf:=(Sig.tyOk ht).fits
   simp only [Ty.fits] at hf
   simp only [execOp,evX_spec ha hH hx,show a.eval (.const (.pointer none)) = .pointer none from rfl]
   rw [Sem.run_bind,(run_nilOpP (x:=x) (run_ptrNil hf _ w)).2];rfl
  ·cases hv
 ·cases hv

def shrV (k:IntKind) (a b:Int):Int:=a.fdiv (2 ^ (min b.toNat k.bits))
def shlV (k:IntKind) (a b:Int):Int:=k.wrap (a * 2 ^ (min b.toNat k.bits))
def andV (k:IntKind) (a b:Int):Int:=k.wrap ((BitVec.ofInt k.bits a &&& BitVec.ofInt k.bits b).toNat:Int)
def evBits (env:Env) (ec:EnvC) (G:GId) (o:Oper):Option (Value × Prop) :=
 match o.op with
 | .binOp op _ x y _=>match op,evX env ec G x,evX env ec G y with
  | .shr,some (.int k a),some (.int _ b)=>some (.int k (shrV k a b),0≤b)
  | .shl,some (.int k a),some (.int _ b)=>some (.int k (shlV k a b),0≤b)
  | .and,some (.int k a),some (.int k' b)=>cond (sameK k k') (some (.int k (andV k a b),True)) none
  | _,_,_=>none
 | _=>none
theorem Val.bits {C:Cx} {all:Array Oper} {o:Oper} {env:Env} {ec:EnvC} {Hs:List HA} {G:GId} {v:Value} {p:Prop} (hv:evBits env ec G o=some (v,p)) (hp:GP all env ec G→p):Val C all o env ec Hs G v:=by
 intro a w ha _ hH
 have hp:=hp (hH.gp ha)
 obtain⟨dst,op,ty,pos,aft,gd⟩:=o
 unfold evBits at hv
 dsimp only at hv
 split at hv
 ·rename_i op t x y t2
  split at hv
  ·rename_i k n k' m hx hy
   cases hv
   simp only [execOp,evX_spec ha hH hx,evX_spec ha hH hy]
   have:¬ m<0:=by omega
   simp [eqGuard,binOp,Op.shift,this,shrV]
  ·rename_i k n k' m hx hy
   cases hv
   simp only [execOp,evX_spec ha hH hx,evX_spec ha hH hy]
   have:¬ m<0:=by omega
   simp [eqGuard,binOp,Op.shift,this,shlV]
  ·rename_i k n k' m hx hy
   cases hk:sameK k k' with
   | false=>rw [hk] at hv;cases hv
   | true =>
    rw [hk] at hv
    have ek:k=k':=sameK_eq hk
    subst ek
    cases hv
    simp only [execOp,evX_spec ha hH hx,evX_spec ha hH hy]
    simp [eqGuard,binOp,Op.intBits,andV]
  ·cases hv
 ·cases hv

def evNC (env:Env) (ec:EnvC) (G:GId) (o:Oper):Option Value :=
 match o.op with
 | .nilCheck x=>match evX env ec G x with
  | some (.pointer (some a))=>some (.pointer (some a))
  | _=>none
 | _=>none
theorem Val.nilc {C:Cx} {all:Array Oper} {o:Oper} {env:Env} {ec:EnvC} {Hs:List HA} {G:GId} {v:Value} (hv:evNC env ec G o=some v):Val C all o env ec Hs G v:=by
 intro a w ha _ hH
 obtain⟨dst,op,ty,pos,aft,gd⟩:=o
 unfold evNC at hv
 dsimp only at hv
 split at hv
 ·rename_i x
  split at hv
  ·rename_i ad hx
   cases hv
   simp only [execOp,evX_spec ha hH hx]
   rfl
  ·cases hv
 ·cases hv

theorem srcRw {C:Cx} {H:List HA} {A:Option Addr} {e sz cap n:Nat} {xs:List Value} {rb:HA→List HA} [hf:FocusR H A e sz cap n xs rb]:∀ w,Cls C.w0 w H→Src w sz A n xs:=by
 intro w hw
 obtain⟨i,hi,_⟩:=hf.at_
 obtain⟨F,h1,h2,h3⟩:=hw.sep
 have hil:i<H.length:=(List.getElem?_eq_some_iff.1 hi).1
 obtain⟨hl,hr⟩:=h1 i _ hi
 refine ⟨hl,fun hn=>?_⟩
 rcases hr with⟨_,_,h9,_⟩|⟨g,cur,rfl,hF,g1,g2,g3,g4⟩
 ·omega
 ·refine ⟨rfl,fun j u hu=>?_⟩
  have hb:=(h2 i g (.cells cur e (0,0)) hil (by rw [hF];simp [one])).2
  rw [← g4] at hu
  show w.cell? ⟨g,0+j,none⟩=_
  rw [Nat.zero_add,cell_of_row w g j cur e (0,0) hb]
  rw [List.getElem?_take] at hu
  split at hu
  ·simpa using hu
  ·cases hu
theorem setL_take {n:Nat}:∀ (us cs:List Value) (off:Nat),off+us.length≤n→(setL cs off us).take n=setL (cs.take n) off us
 | [],cs,off,h=>rfl
 | u::us,cs,off,h=>by
  simp only [setL]
  rw [setL_take us (cs.set off u) (off+1) (by simp at h;omega)]
  congr 1
  rw [List.take_set]
section
variable {C:Cx} {all:Array Oper} {o:Oper} {env:Env} {ec:EnvC} {H:List HA} {Φ:Env→EnvC→List HA→Prop}
theorem OpT.storeR {g off m:Nat} {u:Value} {us:List Value} {e sz cap n:Nat} {xs:List Value} {rb:HA→List HA} (hg:gOf all env ec o=some []) (hd:o.dst=none) (he:evSt C.S env ec o=some (g,off,m,u)) [hf:FocusR H (some ⟨g,0,none⟩) e sz cap n xs rb]
  (hus:u.cells.toList=us) (hm:us.length=m) (h1:oneCells us=true) (hl:off+us.length≤n * sz)
  (h:Φ env ec (rb (row e sz (some ⟨g,0,none⟩) cap n (setL xs off us)))):OpT C all o env ec H Φ:=by
 obtain⟨i,hi,hrb⟩:=hf.at_
 refine OpT.skip hg hd fun a w ha hw=>?_
 obtain⟨F,f1,f2,f3⟩:=hw.sep
 have hil:i<H.length:=(List.getElem?_eq_some_iff.1 hi).1
 obtain⟨hxl,hrow⟩:=f1 i _ hi
 rcases hrow with⟨h9,_⟩|⟨g',cur,hA,hF,g1,g2,g3,g4⟩
 ·cases h9
 cases hA
 obtain⟨hbn,hb⟩:=f2 i g (.cells cur e (0,0)) hil (by rw [hF];simp [one])
 have hsz:n * sz≤cap * sz:=Nat.mul_le_mul_right _ g1
 have hcl:cur.toList.length=cap * sz:=by simpa using g3
 obtain⟨w',k1,k2,k3,k4,k5,k6,k7⟩:=run_storeL C.S.P g e us 0 off cur.toList w (by simpa using hb) (by rw [hcl];omega) h1
 refine ⟨w',_,?_,⟨?_,?_⟩,h⟩
 ·obtain⟨dst,op,ty,pos,aft,gd⟩:=o
  unfold evSt at he
  dsimp only at he
  split at he
  ·rename_i t' x y
   split at he
   ·rename_i d0 n' m' z b' off' v' ht hx hy
    cases he
    have hsz:=(Sig.tyOk ht).sizeOf w
    dsimp only at hsz
    have hsize:u.cells.size=m:=by rw [← hm, ← hus];simp
    simp only [execOp,evX_spec ha (Holds.nil _ _) hx,evX_spec ha (Holds.nil _ _) hy,Instr.storeAt,Instr.sureAddr,storeVar]
    simp [hsz,hsize,hus,k1]
   ·cases he
  ·cases he
 ·exact hw.below.trans ⟨k4,k5,k6,by omega,fun c hc=>k3 c (by omega)⟩
 ·rw [hrb]
  refine hw.sep.turn hi (fun f hf=>?_) (fun c hc _=>k3 c hc) k2 ?_
  ·obtain⟨_,hr⟩:=hf
   rcases hr with⟨h9,_⟩|⟨g',cur',hA',hF',_⟩
   ·cases h9
   ·cases hA';exact⟨_,hF'⟩
  ·refine ⟨by rw [setL_length];exact hxl, .inr ⟨g,_,rfl,rfl,g1,g2,by rw [List.size_toArray,setL_length];exact hcl,?_⟩⟩
   rw [Nat.add_zero]
   show (setL cur.toList off us).take (n * sz)=_
   rw [setL_take _ _ _ (by omega),g4]
end

def notIn (done:List Nat):List (Nat × Oper)→List (Nat × Oper)
  | []=>[]
  | (n,o)::l=>cond (isNum n done) (notIn done l) ((n,o)::notIn done l)
def remL (all:Array Oper) (done:List Nat):List (Nat × Oper):=notIn done (zipN nums all.toList)
def pickF (rem:List (Nat × Oper)):List (Nat × Oper)→Option (Nat × Oper)
  | (n,o)::l=>cond (quietO o.op && freeL rem o.after.toList) (some (n,o)) (pickF rem l)
  | []=>none
def pickQ (all:Array Oper) (done:List Nat):Option (Nat × Oper):=pickF (remL all done) (remL all done)
def readyF (rem:List (Nat × Oper)):List (Nat × Oper)→List (Nat × Oper)
  | (n,o)::l=>cond (freeL rem o.after.toList) ((n,o)::readyF rem l) (readyF rem l)
  | []=>[]
def readyL (all:Array Oper) (done:List Nat):List (Nat × Oper):=readyF (remL all done) (remL all done)
theorem readyF_mem {rem:List (Nat × Oper)} {x:Nat × Oper}:∀ {l:List (Nat × Oper)},x∈readyF rem l→x∈l
  | (n,o)::l,h=>by
    unfold readyF at h
    cases hc:freeL rem o.after.toList with
    | true =>
      rw [hc] at h
      simp only [cond_true,List.mem_cons] at h ⊢
      rcases h with h|h
      · exact .inl h
      · exact .inr (readyF_mem h)
    | false=>rw [hc] at h;simp only [cond_false] at h;exact List.mem_cons_of_mem _ (readyF_mem h)
theorem notIn_mem {done:List Nat} {x:Nat × Oper}:∀ {l:List (Nat × Oper)},x∈notIn done l→x∈l
  | (n,o)::l,h=>by
    unfold notIn at h
    cases hc:isNum n done with
    | true=>rw [hc] at h;simp only [cond_true] at h;exact List.mem_cons_of_mem _ (notIn_mem h)
    | false =>
      rw [hc] at h
      simp only [cond_false,List.mem_cons] at h ⊢
      rcases h with h|h
      · exact .inl h
      · exact .inr (notIn_mem h)
theorem zipN_mem {x:Nat × Oper}:∀ {ns:List Nat} {os:List Oper},x∈zipN ns os→∃ k:Nat,ns[k]?=some x.1∧os[k]?=some x.2
 | n::ns,o::os,h=>by
  simp only [zipN,List.mem_cons] at h
  rcases h with rfl|h
  ·exact⟨0,rfl,rfl⟩
  ·obtain⟨k,h1,h2⟩:=zipN_mem h;exact⟨k+1,by simpa using h1,by simpa using h2⟩
 | [],_,h=>by simp [zipN] at h
 | _::_,[],h=>by simp [zipN] at h
theorem nums_get:∀ k:Nat,k<nums.length→nums[k]?=some k:=by decide +kernel
theorem readyL_get {all:Array Oper} {done:List Nat} {x:Nat × Oper} (h:x∈readyL all done):all[x.1]?=some x.2:=by
 obtain⟨k,h1,h2⟩:=zipN_mem (notIn_mem (readyF_mem h))
 have h3:=nums_get k (List.getElem?_eq_some_iff.1 h1).1
 rw [h1] at h3
 cases h3
 simpa using h2
def chkQ (all:Array Oper) (z:Nat) (done:List Nat) (i:Nat):Bool :=
 noDef all && (Region.noSelect all && (Region.free .any all (lst all done) i && ((Region.ready .any all (lst all done)).contains i && (waits .any all z i && live z (lst all done)))))
def AllL (p:Nat→Oper→Prop):List (Nat × Oper)→Prop
 | []=>True
 | x::l=>p x.1 x.2∧AllL p l
theorem AllL.mem {p:Nat→Oper→Prop}:∀ {l:List (Nat × Oper)},AllL p l→∀ x∈l,p x.1 x.2
 | [],_,x,hx=>by cases hx
 | y::l,h,x,hx=>by
  rcases List.mem_cons.1 hx with e|hx
  ·subst e;exact h.1
  ·exact AllL.mem h.2 x hx
section
variable {r:Option Nat} {n:Nat} {P:Program} {ops:Array Oper} {Q:Exit→Act→World→Prop} {md:Region.Mode} {S:World→Prop} {z:Nat}
theorem wpAnyHR_pure {i:Nat} {oi:Oper} {v:Value} (hnd:noDef ops=true) (hi:ops[i]?=some oi) (hsel:∀ (j:Nat) (o:Oper) cs b,ops[j]?=some o→o.op ≠ .select cs b)
  (hQ:∀ c a w,Q (.panic c) (a.put oi.dst v) w→Q (.panic c) a w) (hiz:i≠z) :
  ∀ (fuel:Nat) (listed:Array Bool) (a:Act) (w:World),
   (∀ j oj,ops[j]?=some oj→j≠i→listed.getD j true=false→(∀ e∈oj.after,Region.binds md e=true→e.on≠i)→oi.apart ops oj=true) →
   i∈Region.ready md ops listed→YieldsS P ops (fun _=>True) oi v a→(live z listed=true→S w) →
   wpAnyHR r n P md ops Q S z fuel (listed.setIfInBounds i true) (a.put oi.dst v) w→wpAnyHR r n P md ops Q S z (fuel+1) listed a w:=by
 have hlz:∀ listed:Array Bool,live z (listed.setIfInBounds i true)=live z listed:=fun listed=>by
  unfold live
  rw [Array.getD_eq_getD_getElem?,Array.getElem?_setIfInBounds_ne hiz, ← Array.getD_eq_getD_getElem?]
 intro fuel
 induction fuel with
 | zero =>
  intro listed a w _ hr hy hS H
  refine ⟨fun h=>(by rw [h] at hr;cases hr),fun j hj=>?_⟩
  by_cases hji:j=i
  ·subst hji;exact hy.op hnd hi trivial ⟨fun h=>hS (by rw [← hlz];exact h),H⟩
  ·have:=ready_mono hj hji
   rw [H.1] at this
   cases this
 | succ fuel ih =>
  intro listed a w hfree hr hy hS H
  refine ⟨fun h=>(by rw [h] at hr;cases hr),fun j hj=>?_⟩
  by_cases hji:j=i
  ·subst hji;exact hy.op hnd hi trivial ⟨fun h=>hS (by rw [← hlz];exact h),H⟩
  ·have h1:=H.2 j (ready_mono hj hji)
   obtain⟨hjun,oj,hoj,hall⟩:=mem_ready.1 hj
   have hnot:∀ e∈oj.after,Region.binds md e=true→e.on≠i:=fun e he hb heq=>by
    have h1:=hall e he hb
    have h0:=(mem_ready.1 hr).1
    rw [heq] at h1
    rcases Nat.lt_or_ge i listed.size with h'|h'
    ·simp [h'] at h0 h1;rw [h0] at h1;cases h1
    ·simp [Array.getElem?_eq_none h'] at h1
   have h2:=wpOpIn_putS hnd hoj (hfree j oj hoj hji hjun hnot) (fun cs b=>hsel i oi cs b hi) (fun cs b=>hsel j oj cs b hoj) hQ hy h1
   have hfree':∀ k ok,ops[k]?=some ok→k≠i→(listed.setIfInBounds j true).getD k true=false →
     (∀ e∈ok.after,Region.binds md e=true→e.on≠i)→oi.apart ops ok=true:=fun k ok hk hki hun hno=>by
    refine hfree k ok hk hki ?_ hno
    by_cases hjk:j=k
    ·subst hjk;exact hjun
    ·rw [getD_set_ne true hjk] at hun;exact hun
   have hl2:live z ((listed.setIfInBounds i true).setIfInBounds j true)=live z (listed.setIfInBounds j true):=by
    rw [Array.setIfInBounds_comm _ _ (Ne.symm hji),hlz]
   refine wpOpIn_mono (fun a' w' h3=>⟨fun h=>h3.2.1 (by rw [hl2];exact h),ih (listed.setIfInBounds j true) a' w' hfree' (ready_mono hr (Ne.symm hji)) h3.1 (fun h=>h3.2.1 (by rw [hl2];exact h)) ?_⟩) h2
   rw [Array.setIfInBounds_comm _ _ hji]
   exact h3.2.2
end
def ValP (C:Cx) (all:Array Oper) (o:Oper) (env:Env) (ec:EnvC) (G:GId) (v:Value):Prop:=∀ a w,Agrees C.N all env ec a→Holds all a G→(execOp a.eval o).run C.S.P w = .ok (.value v) w
def chkP (all:Array Oper) (z:Nat) (done:List Nat) (i:Nat):Bool :=
 noDef all && (Region.noSelect all && (Region.free .any all (lst all done) i && ((Region.ready .any all (lst all done)).contains i && !(Nat.beq i z))))
section
variable {C:Cx} {all:Array Oper} {o:Oper} {env:Env} {ec:EnvC} {G:GId} {v:Value}
theorem ValP.pure (hv:evP C.S all env ec G o=some v):ValP C all o env ec G v:=fun _ w ha hH=>evP_spec ha hH hv w
theorem ValP.vc {p:Prop} (hv:evV C.S env ec G o=some (v,p)) (hp:GP all env ec G→p):ValP C all o env ec G v:=fun _ w ha hH=>evV_spec ha hH hv (hp (hH.gp ha)) w
theorem ValP.val {Hs:List HA} (h:ValP C all o env ec G v):Val C all o env ec Hs G v:=fun a w ha _ hH=>h a w ha hH
end
section
variable {C:Cx} {all:Array Oper} {o:Oper} {k:List It} {env:Env} {ec:EnvC} {H Hs:List HA} {d:Nat} {v:Value} {fuel:Nat} {done:List Nat} {G:GId} {z i:Nat}
theorem chkP_spec (h:chkP all z done i=true):noDef all=true∧Region.noSelect all=true∧Region.free .any all (lst all done) i=true∧i∈Region.ready .any all (lst all done)∧i≠z:=by
 simp only [chkP,Bool.and_eq_true,Bool.not_eq_true'] at h
 obtain⟨h1,h2,h3,h4,h5⟩:=h
 exact⟨h1,h2,h3,by simpa using h4,fun e=>by subst e;simp at h5⟩
theorem dwp (hp:pickQ all done=some (i,o)) (hk:chkP all z done i=true) (hi:all[i]?=some o) (hg:gOf all env ec o=some []) (hv:ValP C all o env ec [] v) (hd:o.dst=some d) (hN:Nat.blt d C.N.n=true) (hs:safeC all d ec=true)
  (h:T C (.draw all fuel (lst all (i::done)) Hs z::k) ((d,v)::env) ec H) (hle:live z (lst all done)=true→Hle H Hs:=by intro h;first|exact Hle.refl _|exact Hle.none _|exact Hle.sub|exact absurd h (by decide +kernel)):T C (.draw all (fuel+1) (lst all done) Hs z::k) env ec H:=by
 obtain⟨h1,h2,h3,h4,h5⟩:=chkP_spec hk
 refine T.mk fun a w ha hw=>?_
 have hwn:=(wanted_iff ha hg).2 (Holds.nil _ _)
 refine wpAnyHR_pure h1 hi (Region.noSelect_spec h2) (fun c a w q=>q) h5 fuel _ a w (Region.free_spec hi h3) h4 (.inl ⟨hwn,fun w' _=>hv a w' ha (Holds.nil _ _)⟩) (fun hl=>hw.le (hle hl)) ?_
 rw [hd]
 exact h _ w (ha.put hN hs) hw
theorem dwpg (hp:pickQ all done=some (i,o)) (hk:chkP all z done i=true) (hi:all[i]?=some o) (hg:gOf all env ec o=some G) (hv:ValP C all o env ec G v) (hd:o.dst=some d) (hN:Nat.blt d C.N.n=true) (hs:safeC all d ec=true) (hsG:safeG all d G=true) (hl:lookE env d=none)
  (h:T C (.draw all fuel (lst all (i::done)) Hs z::k) env ((d,(G,v))::ec) H) (hle:live z (lst all done)=true→Hle H Hs:=by intro h;first|exact Hle.refl _|exact Hle.none _|exact Hle.sub|exact absurd h (by decide +kernel)):T C (.draw all (fuel+1) (lst all done) Hs z::k) env ec H:=by
 obtain⟨h1,h2,h3,h4,h5⟩:=chkP_spec hk
 refine T.mk fun a w ha hw=>?_
 by_cases hH:Holds all a G
 ·have hwn:=(wanted_iff ha hg).2 hH
  refine wpAnyHR_pure h1 hi (Region.noSelect_spec h2) (fun c a w q=>q) h5 fuel _ a w (Region.free_spec hi h3) h4 (.inl ⟨hwn,fun w' _=>hv a w' ha hH⟩) (fun hl=>hw.le (hle hl)) ?_
  rw [hd]
  exact h _ w (ha.putC hN hs hsG hl (fun _=>rfl) (fun hh=>absurd hH hh)) hw
 ·have hwn:Region.wanted o (yielded all a.tmps)=false:=by
   cases hq:Region.wanted o (yielded all a.tmps) with
   | false=>rfl
   | true=>exact absurd ((wanted_iff ha hg).1 hq) hH
  refine wpAnyHR_pure h1 hi (Region.noSelect_spec h2) (fun c a w q=>q) h5 fuel _ a w (Region.free_spec hi h3) h4 (.inr ⟨hwn,rfl⟩) (fun hl=>hw.le (hle hl)) ?_
  rw [hd]
  exact h _ w (ha.putC hN hs hsG hl (fun hh=>absurd hh hH) (fun _=>rfl)) hw
theorem dw0 {id:Nat} (z:Nat) (Hs:List HA) (h:T C (.draw all all.size (lst all []) Hs z::k) env [] H):T C (.code (.region id all true)::k) env ec H:=T_draw z Hs h
theorem dwe (hr:(Region.ready .any all (lst all done)).isEmpty=true) (h:T C (nf 60 k) env [] H):T C (.draw all fuel (lst all done) Hs z::k) env ec H:=T_dend (List.isEmpty_iff.1 hr) h
theorem chkQ_spec (h:chkQ all z done i=true):noDef all=true∧Region.noSelect all=true∧Region.free .any all (lst all done) i=true∧(Region.ready .any all (lst all done)).contains i=true∧waits .any all z i=true∧live z (lst all done)=true:=by
 simpa only [chkQ,Bool.and_eq_true] using h
theorem dwv (hp:pickQ all done=some (i,o)) (hk:chkQ all z done i=true) (hi:all[i]?=some o) (hg:gOf all env ec o=some []) (hv:Val C all o env ec Hs [] v) (hd:o.dst=some d) (hN:Nat.blt d C.N.n=true) (hs:safeC all d ec=true)
  (h:T C (.draw all fuel (lst all (i::done)) Hs z::k) ((d,v)::env) ec H) (hle:Hle H Hs:=by first|exact Hle.refl _|exact Hle.none _|exact Hle.sub):T C (.draw all (fuel+1) (lst all done) Hs z::k) env ec H:=by
 obtain⟨h1,h2,h3,h4,h5,h6⟩:=chkQ_spec hk
 exact T_dval i hi h1 h2 h3 h4 h5 h6 hg hv hd hN hs hle h
theorem dwg (hp:pickQ all done=some (i,o)) (hk:chkQ all z done i=true) (hi:all[i]?=some o) (hg:gOf all env ec o=some G) (hv:Val C all o env ec Hs G v) (hd:o.dst=some d) (hN:Nat.blt d C.N.n=true) (hs:safeC all d ec=true) (hsG:safeG all d G=true) (hl:lookE env d=none)
  (h:T C (.draw all fuel (lst all (i::done)) Hs z::k) env ((d,(G,v))::ec) H) (hle:Hle H Hs:=by first|exact Hle.refl _|exact Hle.none _|exact Hle.sub):T C (.draw all (fuel+1) (lst all done) Hs z::k) env ec H:=by
 obtain⟨h1,h2,h3,h4,h5,h6⟩:=chkQ_spec hk
 exact T_dvalC i hi h1 h2 h3 h4 h5 h6 hg hv hd hN hs hsG hl hle h
theorem dwb {rs:List (Nat × Oper)} (hp:readyL all done=rs) (hk:(!rs.isEmpty && decide (Region.ready .any all (lst all done)=rs.map Prod.fst))=true)
  (h:AllL (fun i o=>OpT C all o env ec H (fun env' ec' H'=>(live z (lst all (i::done))=true→Hle H' Hs)∧T C (.draw all fuel (lst all (i::done)) Hs z::k) env' ec' H')) rs):T C (.draw all (fuel+1) (lst all done) Hs z::k) env ec H:=by
 simp only [Bool.and_eq_true,decide_eq_true_eq,Bool.not_eq_true'] at hk
 refine T_dops hk.2 ?_ fun i hi=>?_
 ·cases rs with
  | nil=>simp at hk
  | cons x l=>rfl
 ·obtain⟨x,hx,rfl⟩:=List.mem_map.1 hi
  exact⟨x.2,readyL_get (hp ▸ hx),h.mem x hx⟩
end
section
variable {C:Cx} {all:Array Oper} {o:Oper} {env:Env} {ec:EnvC} {H Hs:List HA} {d:Nat} {L:Prop} {X:Env→EnvC→List HA→Prop}
theorem dxBox {t:TypeId} {x:Operand} {u:Value} {cs:List Value} (hg:gOf all env ec o=some []) (ho:o.op = .box t x) (hx:evX env ec [] x=some u) (hcs:u.cells.toList=cs) (hd:o.dst=some d) (hN:Nat.blt d C.N.n=true) (hs:safeC all d ec=true)
  (hle:∀ b,L→Hle (blk b cs t::H) Hs) (h:∀ b,X ((d, .pointer (some ⟨b,0,none⟩))::env) ec (blk b cs t::H)):OpT C all o env ec H (fun e c H'=>(L→Hle H' Hs)∧X e c H'):=OpT.box hg ho hx hcs hd hN hs fun b=>⟨hle b,h b⟩
theorem dxAlloc {t:TypeId} {ty:TyI} {cs:List Value} (hg:gOf all env ec o=some []) (ho:o.op = .alloc t) (ht:C.S.ty t=some ty) (hcs:ty.zero.cells.toList=cs) (hd:o.dst=some d) (hN:Nat.blt d C.N.n=true) (hs:safeC all d ec=true)
  (hle:∀ b,L→Hle (blk b cs t::H) Hs) (h:∀ b,X ((d, .pointer (some ⟨b,0,none⟩))::env) ec (blk b cs t::H)):OpT C all o env ec H (fun e c H'=>(L→Hle H' Hs)∧X e c H'):=OpT.alloc hg ho ht hcs hd hN hs fun b=>⟨hle b,h b⟩
theorem dxLit {e:TypeId} {n sz:Nat} {vs:List (Nat × Value)} {ty:TyI} {cs:List Value} (hg:gOf all env ec o=some []) (he:evLit C.S env ec o=some (e,n,vs)) (ht:C.S.ty e=some ty) (hsz:ty.size=sz) (h0:Nat.blt 0 sz=true)
  (hseq:(isSeq 0 vs && (Nat.beq vs.length n && allSz sz vs))=true) (hcs:flatP vs=cs) (hln:Nat.ble (n * sz) 16777216=true) (hd:o.dst=some d) (hN:Nat.blt d C.N.n=true) (hs:safeC all d ec=true)
  (hle:∀ b,L→Hle (blk b cs e::H) Hs) (h:∀ b,X ((d, .slice (some ⟨b,0,none⟩) n n)::env) ec (blk b cs e::H)):OpT C all o env ec H (fun e c H'=>(L→Hle H' Hs)∧X e c H'):=OpT.litW hg he ht hsz h0 hseq hcs hln hd hN hs fun b=>⟨hle b,h b⟩
theorem dxMake {e:TypeId} {l c:Int} {ty:TyI} {z:Value} (hg:gOf all env ec o=some []) (he:evMk C.S env ec o=some (e,l,c)) (ht:C.S.ty e=some ty) (h1:ty.zero=z) (hz1:z.cells = #[z]) (hs1:Nat.beq ty.size 1=true) (hd:o.dst=some d) (hN:Nat.blt d C.N.n=true) (hs:safeC all d ec=true)
  (hb:(0≤l∧l≤c)∧(ty.bytes:Int) * c≤281474976710656∧c≤9223372036854775807) (hle:∀ b,L→Hle (blk b (List.replicate c.toNat z) e::H) Hs) (h:∀ b,X ((d, .slice (some ⟨b,0,none⟩) l.toNat c.toNat)::env) ec (blk b (List.replicate c.toNat z) e::H)):OpT C all o env ec H (fun e c H'=>(L→Hle H' Hs)∧X e c H') :=
 OpT.make hg he ht h1 hz1 hs1 hd hN hs hb fun b=>⟨hle b,h b⟩
end
theorem dw1 {A B:Prop} (h:B) (hab:B→A:=by
  intro hh
  first
  | exact dwp rfl (by decide +kernel) rfl rfl (by first|exact ValP.pure rfl|exact ValP.vc rfl (fun hg=>by first|(simp only [inK];omega)|omega|with_reducible exact True.intro|with_reducible assumption)) rfl rfl rfl hh
  | exact dwpg rfl (by decide +kernel) rfl rfl (by first|exact ValP.pure rfl|exact ValP.vc rfl (fun hg=>by
             (simp only [List.cons_append,List.nil_append,GP,dstL,lookE,Nat.beq,cond,List.getElem?_cons_zero,List.getElem?_cons_succ,Option.bind_some,and_true,Bool.and_eq_true,Bool.or_eq_true,Bool.and_eq_false_iff,Bool.or_eq_false_iff,Bool.not_eq_true',Bool.not_eq_false',decide_eq_true_eq,decide_eq_false_iff_not] at hg)
             first|(simp only [inK];omega)|omega|with_reducible exact True.intro|with_reducible assumption)) rfl rfl rfl rfl rfl hh
  | exact dwv rfl (by decide +kernel) rfl rfl (by
         first
         | exact Val.load rfl (fun _=>rdOwn1 rfl)
         | exact Val.loadA rfl (fun _=>rdAll) rfl
         | exact Val.build rfl
         | exact Val.load rfl (fun _=>rdOld ‹RdC _ _ _ [_]›)
         | exact Val.load rfl (fun _=>rdOld (RdC.at ‹RdC _ _ _ _› rfl))
         | exact Val.load rfl (fun _=>rdOld (RdC.at2 ‹RdC _ _ _ _› rfl))
         | exact Val.loadA rfl (fun _=>rdOld ‹RdC _ _ _ _›) rfl) rfl rfl rfl hh
  | exact dwg rfl (by decide +kernel) rfl rfl (by
         first
         | exact Val.load rfl (fun _=>rdOwn1 rfl)
         | exact Val.loadA rfl (fun _=>rdAll) rfl
         | exact Val.build rfl
         | exact Val.load rfl (fun _=>rdOld ‹RdC _ _ _ [_]›)
         | exact Val.load rfl (fun _=>rdOld (RdC.at ‹RdC _ _ _ _› rfl))
         | exact Val.load rfl (fun _=>rdOld (RdC.at2 ‹RdC _ _ _ _› rfl))
         | exact Val.loadA rfl (fun _=>rdOld ‹RdC _ _ _ _›) rfl) rfl rfl rfl rfl rfl hh
  | exact dwe (by decide +kernel) hh):A:=hab h
theorem dwx {A B:Prop} (h:B) (hab:B→A:=by
 intro hh
 first
 | exact OpT.ofVal rfl (Val.pure rfl) rfl rfl rfl ⟨fun _=>(by first|exact Hle.none _|exact Hle.sub|exact absurd ‹_› (by decide +kernel)),hh⟩
 | exact OpT.ofVal rfl (Val.vc rfl (fun hg=>by first|(simp only [inK];omega)|omega|with_reducible exact True.intro|with_reducible assumption)) rfl rfl rfl ⟨fun _=>(by first|exact Hle.none _|exact Hle.sub|exact absurd ‹_› (by decide +kernel)),hh⟩
 | exact dxBox rfl rfl rfl rfl rfl rfl rfl (fun b _=>(by first|exact Hle.none _|exact Hle.sub|exact absurd ‹_› (by decide +kernel))) hh
 | exact dxAlloc rfl rfl rfl rfl rfl rfl rfl (fun b _=>(by first|exact Hle.none _|exact Hle.sub|exact absurd ‹_› (by decide +kernel))) hh
 | exact dxLit rfl rfl rfl rfl rfl rfl rfl rfl rfl rfl rfl (fun b _=>(by first|exact Hle.none _|exact Hle.sub|exact absurd ‹_› (by decide +kernel))) hh
 | exact dxMake rfl rfl rfl rfl rfl rfl rfl rfl rfl (by first|omega|(dsimp only;omega)) (fun b _=>(by first|exact Hle.none _|exact Hle.sub|exact absurd ‹_› (by decide +kernel))) hh
 | exact OpT.store rfl rfl rfl rfl (by first|exact Nat.le_of_ble_eq_true rfl|decide|(simp;omega)) ⟨fun _=>(by first|exact Hle.none _|exact Hle.sub|exact absurd ‹_› (by decide +kernel)),hh⟩
 | exact OpT.storeA rfl rfl rfl rfl rfl rfl (by first|exact Nat.le_of_ble_eq_true rfl|decide|(simp;omega)) ⟨fun _=>(by first|exact Hle.none _|exact Hle.sub|exact absurd ‹_› (by decide +kernel)),hh⟩):A:=hab h
end Go.Proofs.YtblnhdnogjijiaaGreatDoor
namespace Go.Proofs.YtblnhdnogjijiaaGreatDoor
open Go.RowKit Go.Shelf

def fillA (sz:Nat) (cs:List Value):List (Nat × Value)→Option (List Value)
  | []=>some cs
  | (i,v)::r=>cond (Nat.beq v.cells.size sz && Nat.ble (i * sz+sz) cs.length) (fillA sz (setL cs (i * sz) v.cells.toList) r) none
theorem fillA_spec {sz:Nat}:∀ {ps:List (Nat × Value)} {cs cs':List Value},fillA sz cs ps=some cs'→Instr.fill (fun i=>some (i * sz,sz)) cs.toArray ps=some cs'.toArray
  | [],cs,cs',h=>by cases h;rfl
  | (i,v)::r,cs,cs',h=>by
    unfold fillA at h
    cases hc:(Nat.beq v.cells.size sz && Nat.ble (i * sz+sz) cs.length) with
    | false=>rw [hc] at h;cases h
    | true =>
      rw [hc] at h
      simp only [cond_true] at h
      simp only [Bool.and_eq_true] at hc
      have h1:v.cells.size=sz:=Nat.eq_of_beq_eq_true hc.1
      have h2:i * sz+sz≤cs.length:=Nat.le_of_ble_eq_true hc.2
      have ih:=fillA_spec h
      unfold Instr.fill
      dsimp only
      rw [if_neg (by simp [h1];omega)]
      have e:=foldl_setL v.cells.toList cs (i * sz) 0
      rw [← Array.foldl_toList,Array.toList_zipIdx]
      rw [e,Nat.add_zero]
      exact ih
def evBdA (S:Sig) (env:Env) (ec:EnvC) (G:GId) (o:Oper):Option (List Value) :=
 match o.op with
 | .build t ps=>match S.ty t,evPartsG env ec G ps.toList with
  | some ⟨.arr _ e,_,_,z⟩,some vs=>match S.ty e with
   | some ⟨_,sz,_,_⟩=>fillA sz z.cells.toList vs
   | none=>none
  | _,_=>none
 | _=>none
theorem Val.buildA {C:Cx} {all:Array Oper} {o:Oper} {env:Env} {ec:EnvC} {Hs:List HA} {G:GId} {cs:List Value} (hv:evBdA C.S env ec G o=some cs):Val C all o env ec Hs G (.agg cs.toArray):=by
 intro a w ha _ hG
 obtain⟨dst,op,ty,pos,aft,gd⟩:=o
 unfold evBdA at hv
 dsimp only at hv
 split at hv
 ·rename_i t ps
  split at hv
  ·rename_i n e q1 q2 z vs ht hvs
   split at hv
   ·rename_i q3 sz q4 q5 hte
    have hk:=Sig.tyOk ht
    have hfa:=hk.fits
    simp only [Ty.fits] at hfa
    have hz:=hk.zeroValue w
    dsimp only at hz
    have hsz:=(Sig.tyOk hte).sizeOf w
    dsimp only at hsz
    have hparts:(Array.map (fun x:Nat × Operand=>(x.1,a.eval x.2)) ps).toList=vs:=by rw [Array.toList_map];exact evPartsG_spec ha hG hvs
    have hf:=fillA_spec hv
    have hf':Instr.fill (fun i=>some (i * sz,sz)) z.cells vs=some cs.toArray:=hf
    simp only [execOp,Instr.build,Sem.run_bind,hz,Result.andThen_ok,run_underlying hfa,hsz]
    rw [hparts,hf']
    rfl
   ·cases hv
  ·cases hv
 ·cases hv
def evIxA (S:Sig) (env:Env) (ec:EnvC) (G:GId) (o:Oper):Option (Value × Int × Nat) :=
 match o.op with
 | .index t x i=>match S.ty t,evX env ec G x,evX env ec G i with
  | some ⟨.arr n e,_,_,_⟩,some (.agg cs),some (.int _ i)=>match S.ty e with
   | some ⟨d,sz,_,_⟩=>cond (d.plain && (!d.isAgg && Nat.beq sz 1)) (match cs.toList[i.toNat]? with
    | some v=>some (v,i,n)
    | none=>none) none
   | none=>none
  | _,_,_=>none
 | _=>none
theorem Val.indexA {C:Cx} {all:Array Oper} {o:Oper} {env:Env} {ec:EnvC} {Hs:List HA} {G:GId} {v:Value} {i:Int} {n:Nat} (hv:evIxA C.S env ec G o=some (v,i,n)) (hi:GP all env ec G→0≤i∧i<(n:Int)):Val C all o env ec Hs G v:=by
 intro a w ha _ hG
 have hi:=hi (hG.gp ha)
 obtain⟨dst,op,ty,pos,aft,gd⟩:=o
 unfold evIxA at hv
 dsimp only at hv
 split at hv
 ·rename_i t x y
  split at hv
  ·rename_i n' e q1 q2 q3 cs k i' ht hx hy
   split at hv
   ·rename_i d sz q4 q5 hte
    cases hc:(d.plain && (!d.isAgg && Nat.beq sz 1)) with
    | false=>rw [hc] at hv;cases hv
    | true =>
     rw [hc] at hv
     simp only [cond_true] at hv
     simp only [Bool.and_eq_true,Bool.not_eq_true'] at hc
     obtain⟨c1,c2,c3⟩:=hc
     have e1:sz=1:=Nat.eq_of_beq_eq_true c3
     subst e1
     split at hv
     ·rename_i u hu
      cases hv
      have hk:=(Sig.tyOk ht).fits
      simp only [Ty.fits] at hk
      have hsz:=(Sig.tyOk hte).sizeOf w
      dsimp only at hsz
      have hia:=(Sig.tyOk hte).isAgg w c1
      dsimp only at hia
      rw [c2] at hia
      have hu':cs[i.toNat]?=some v:=by simpa using hu
      simp only [execOp,evX_spec ha hG hx,evX_spec ha hG hy,Instr.index]
      simp [asIntOf,run_underlying hk,hsz,hi,part,hia,hu']
     ·cases hv
   ·cases hv
  ·cases hv
 ·cases hv

class RemP (A:HA) (H:List HA) (H':outParam (List HA)):Prop where
 at_:∃ i:Nat,H[i]?=some A∧∀ j:Nat,H'[j]?=H[if j<i then j else j+1]?
instance RemP.head (A:HA) (H:List HA):RemP A (A::H) H:=⟨0,rfl,fun j=>by rw [if_neg (by omega)];rfl⟩
instance (priority:=low) RemP.tail (A B:HA) (H H':List HA) [h:RemP A H H']:RemP A (B::H) (B::H'):=⟨by
 obtain⟨i,h1,h2⟩:=h.at_
 refine ⟨i+1,by simpa using h1,fun j=>?_⟩
 cases j with
 | zero=>simp
 | succ j =>
  rw [List.getElem?_cons_succ,h2 j]
  by_cases h3:j<i
  ·rw [if_pos h3,if_pos (by omega)];simp
  ·rw [if_neg h3,if_neg (by omega)];simp⟩
class PickP (H K:List HA):Prop where
 at_:∃ p:Nat→Nat,(∀ (i:Nat) (B:HA),K[i]?=some B→H[p i]?=some B)∧∀ i j,i<K.length→j<K.length→i≠j→p i≠p j
instance PickP.nil (H:List HA):PickP H []:=⟨id,fun i B h=>by simp at h,fun i j h=>by simp at h⟩
instance PickP.cons (A:HA) (H H' K:List HA) [h:RemP A H H'] [k:PickP H' K]:PickP H (A::K):=⟨by
 obtain⟨i,h1,h2⟩:=h.at_
 obtain⟨p,k1,k2⟩:=k.at_
 refine ⟨fun s=>match s with | 0=>i|s+1=>if p s<i then p s else p s+1,fun s B hs=>?_,fun s t hs ht hne=>?_⟩
 ·cases s with
  | zero=>simp at hs;subst hs;exact h1
  | succ s =>
   have:=k1 s B (by simpa using hs)
   rw [h2] at this
   exact this
 ·cases s <;> cases t <;> dsimp only
  ·omega
  ·split <;> omega
  ·split <;> omega
  ·rename_i s t
   have:=k2 s t (by simpa using hs) (by simpa using ht) (by omega)
   (repeat' split) <;> omega⟩
theorem Hle.any {H K:List HA} [h:PickP H K]:Hle H K:=by
 obtain⟨p,h1,h2⟩:=h.at_
 exact Hle.pick p h1 h2
theorem Hle.nth {H:List HA} {A:HA} (i:Nat) (h:H[i]?=some A):Hle H [A] :=
 Hle.pick (fun _=>i) (fun j B hj=>by
  cases j with
  | zero=>simp at hj;subst hj;exact h
  | succ j=>simp at hj) (fun i j hi hj hne=>by simp at hi hj;omega)
inductive Rm (A:HA):List HA→List HA→Prop where
 | here {H:List HA}:Rm A (A::H) H
 | there {B:HA} {H H':List HA} (h:Rm A H H'):Rm A (B::H) (B::H')
inductive Pk:List HA→List HA→Prop where
 | nil (H:List HA):Pk H []
 | cons {A:HA} {H H' K:List HA} (h:Rm A H H') (k:Pk H' K):Pk H (A::K)
theorem Rm.spec {A:HA} {H H':List HA} (h:Rm A H H'):RemP A H H':=by
 induction h with
 | here=>exact RemP.head _ _
 | there _ ih=>exact RemP.tail _ _ _ _ (h:=ih)
theorem Pk.spec {H K:List HA} (h:Pk H K):PickP H K:=by
 induction h with
 | nil H=>exact PickP.nil H
 | cons h _ ih=>exact PickP.cons _ _ _ _ (h:=h.spec) (k:=ih)
theorem Rm.b {b:Nat} {cs cs':List Value} {t:TypeId} {H:List HA} (h:cs'=cs):Rm (blk b cs t) (blk b cs' t::H) H:=by subst h;exact .here
theorem Hle.srt {H K:List HA} (h:Pk H K:=by repeat' (first|exact Pk.nil _|apply Pk.cons|with_reducible exact Rm.here|((with_reducible apply Rm.b);rfl)|apply Rm.there)):Hle H K:=Hle.any (h:=h.spec)
end Go.Proofs.YtblnhdnogjijiaaGreatDoor
namespace Go.Proofs.YtblnhdnogjijiaaGreatDoor
open Go.RowKit Go.Shelf

theorem OpT.sure {C:Cx} {all:Array Oper} {o:Oper} {env:Env} {ec:EnvC} {H:List HA} {Φ:Env→EnvC→List HA→Prop} {i s:Nat} {p:Bool} (hgd:o.guard=some (i,p)) (hs:dstL all i=some s) (hv:lookE env s=some (.bool p))
  (h:OpT C all { o with guard:=none } env ec H Φ):OpT C all o env ec H Φ:=by
 intro a w ha hw K Q hK
 have h1:=h a w ha hw K Q hK
 have hw0:Region.wanted { o with guard:=none } (yielded all a.tmps)=true:=by simp [Region.wanted]
 have ht:=ha.at_ s _ hv
 have hy:yielded all a.tmps i=some p:=by
  unfold yielded
  rw [← dstL_eq,hs]
  simp only [Option.bind_some]
  rw [Array.getD_eq_getD_getElem?] at ht
  cases hq:a.tmps[s]? with
  | none=>rw [hq] at ht;simp [undef] at ht
  | some u=>rw [hq] at ht;simp only [Option.getD_some] at ht;subst ht;rfl
 have hwn:Region.wanted o (yielded all a.tmps)=true:=by
  unfold Region.wanted
  rw [hgd]
  simp [hy]
 exact⟨fun _=>h1.1 hw0,fun hn=>by rw [hwn] at hn;cases hn⟩
def isIx:Op→Bool
 | .indexAddr _ _ _=>true
 | _=>false
def isLd:Op→Bool
 | .load _ _=>true
 | _=>false
theorem Val.neverP {C:Cx} {all:Array Oper} {o:Oper} {env:Env} {ec:EnvC} {Hs:List HA} {G:GId} (_:isIx o.op=true) (hn:GP all env ec G→False):Val C all o env ec Hs G (.pointer (some ⟨0,0,none⟩)):=fun _ _ ha _ hH=>(hn (hH.gp ha)).elim
theorem Val.neverI {C:Cx} {all:Array Oper} {o:Oper} {env:Env} {ec:EnvC} {Hs:List HA} {G:GId} (_:isLd o.op=true) (hn:GP all env ec G→False):Val C all o env ec Hs G (.int .i64 0):=fun _ _ ha _ hH=>(hn (hH.gp ha)).elim
end Go.Proofs.YtblnhdnogjijiaaGreatDoor
namespace Go.Proofs.YtblnhdnogjijiaaGreatDoor
open Go.RowKit Go.Shelf

theorem Rm.r {e:TypeId} {sz cap n cap' n':Nat} {A:Option Addr} {xs xs':List Value} {H:List HA} (h1:cap'=cap) (h2:n'=n) (h:xs'=xs):Rm (row e sz A cap n xs) (row e sz A cap' n' xs'::H) H:=by subst h;subst h1;subst h2;exact .here
theorem Hle.srt2 {H K:List HA} (h:Pk H K:=by repeat' (first|exact Pk.nil _|apply Pk.cons|with_reducible exact Rm.here|((with_reducible apply Rm.b);rfl)|((with_reducible apply Rm.r) <;> rfl)|apply Rm.there)):Hle H K:=Hle.any (h:=h.spec)
theorem flat_len {α:Type} (cells:α→List Value) (sz:Nat) (h:∀ t,(cells t).length=sz):∀ l:List α,(l.flatMap cells).length=l.length * sz
 | []=>by simp
 | t::l=>by rw [List.flatMap_cons,List.length_append,h,flat_len cells sz h l,List.length_cons,Nat.succ_mul];omega
theorem flat_sub {α:Type} (cells:α→List Value) (sz:Nat) (h:∀ t,(cells t).length=sz) (l:List α) (lo hi j:Nat) (u:Value) (hu:(((l.take hi).drop lo).flatMap cells)[j]?=some u):(l.flatMap cells)[lo * sz+j]?=some u:=by
 have hlo:lo≤(l.take hi).length:=by
  rcases Nat.lt_or_ge (l.take hi).length lo with h1|h1
  ·rw [List.drop_of_length_le (by omega)] at hu;simp at hu
  ·exact h1
 have e1:((l.take hi).flatMap cells)[lo * sz+j]?=some u:=by
  rw [← List.take_append_drop lo (l.take hi),List.flatMap_append,List.getElem?_append_right (by rw [flat_len cells sz h,List.length_take];have:=Nat.mul_le_mul_right sz (Nat.min_le_left lo (l.take hi).length);omega),flat_len cells sz h,List.length_take,Nat.min_eq_left hlo,Nat.add_sub_cancel_left]
  exact hu
 rw [← List.take_append_drop hi l,List.flatMap_append,List.getElem?_append_left (List.getElem?_eq_some_iff.1 e1).1]
 exact e1
theorem src_sub {α:Type} (cells:α→List Value) (sz:Nat) (h:∀ t,(cells t).length=sz) {w:World} {A:Option Addr} {n ca:Nat} {l:List α} (hs:Src w sz A n (l.flatMap cells)) (hl:l.length=n) (lo hi:Nat) (h1:lo≤hi) (h2:hi≤n) (h3:n≤ca) :
  Src w sz (cutA A ca lo sz) (hi - lo) (((l.take hi).drop lo).flatMap cells):=by
 refine ⟨by rw [flat_len cells sz h,List.length_drop,List.length_take];congr 1;omega,fun hn=>?_⟩
 obtain⟨hA,hr⟩:=hs.2 (by omega)
 unfold isAt at hA
 have e:cutA A ca lo sz=some ⟨bk A,ofs A+lo * sz,none⟩:=by
  unfold cutA
  rw [if_neg (by omega),hA]
  simp only [Option.map_some,Addr.add]
  congr 1
  split
  ·rename_i hz;rw [hz];rfl
  ·rfl
 rw [e]
 refine ⟨rfl,fun j u hu=>?_⟩
 have:=hr (lo * sz+j) u (flat_sub cells sz h l lo hi j u hu)
 show w.cell? ⟨bk A,ofs A+lo * sz+j,none⟩=_
 rw [Nat.add_assoc];exact this
theorem src_take {α:Type} (cells:α→List Value) (sz:Nat) (h:∀ t,(cells t).length=sz) {w:World} {A:Option Addr} {n:Nat} {l:List α} (hs:Src w sz A n (l.flatMap cells)) (hl:l.length=n) (hi:Nat) (h2:hi≤n) :
  Src w sz A hi ((l.take hi).flatMap cells):=by
 refine ⟨by rw [flat_len cells sz h,List.length_take];congr 1;omega,fun hn=>?_⟩
 obtain⟨hA,hr⟩:=hs.2 (by omega)
 refine ⟨hA,fun j u hu=>hr j u ?_⟩
 have:=flat_sub cells sz h l 0 hi j u (by rw [List.drop_zero];exact hu)
 rwa [Nat.zero_mul,Nat.zero_add] at this
end Go.Proofs.YtblnhdnogjijiaaGreatDoor
namespace Go.Proofs.YtblnhdnogjijiaaGreatDoor
open Go.RowKit Go.Shelf

structure SpecB (P:Program) (f:FuncId) (args:List Value) (w0:World) (H:List HA) (Φ:Value→List HA→Prop):Prop where
 enters:Enters P f
 calls:∀ w,Cls w0 w H→Calls P f args.toArray w (Ret w0 Φ)
theorem specB_of (S : Sig) {f : FuncId} {fn : Func} {c : Code} {args : List Value} {w0 : World} {H : List HA} {Φ : Value → List HA → Prop} (hf : S.P.funcs[f]? = some fn) (hn : (fn.name == "runtime.NumGoroutine") = false) (hb : fn.body = some c)
  (hlen:Nat.ble args.length fn.ntmps=true) (h:T (FC S fn.ntmps [] w0 fn Φ) (nf 60 [.code c]) (zipE 0 args) [] H):SpecB S.P f args w0 H Φ:=by
 refine ⟨enters_of hf hn hb,fun w hw=>callsIn_wide.1 (callsIn_of_wp_marks (n:=0) hf hb trivial ?_)⟩
 have hlen':args.length≤fn.ntmps:=Nat.le_of_ble_eq_true hlen
 have ha:Agrees ⟨fn.ntmps,[]⟩ (allOf (nf 60 [.code c])) (zipE 0 args) [] { tmps:=args.toArray++Array.replicate (fn.ntmps - args.toArray.size) undef,defers:=[] }:=by
  refine ⟨rfl,by simp;omega,fun s v hv=>?_,fun _ _ _ h=>(by cases h),fun _ _ _ h=>(by cases h)⟩
  obtain⟨_,h2⟩:=zipE_spec args 0 s v hv
  simp only [Nat.sub_zero] at h2
  have hs:s<args.length:=(List.getElem?_eq_some_iff.1 h2).1
  simp [Array.getD_eq_getD_getElem?,Array.getElem?_append,hs]
  rw [List.getElem?_eq_getElem hs] at h2
  simpa using h2
 have:=nf_spec (h _ _ ha hw)
 simp only [sem] at this
 refine wpIn_mono this fun e a w' q=>?_
 cases e <;> first|exact q|exact q.elim
section
variable {C:Cx} {all:Array Oper} {o:Oper} {env:Env} {ec:EnvC} {H:List HA} {d:Nat}
theorem OpT.callB {f:FuncId} {args:List Value} {Ψ:Value→List HA→Prop} {Φ:Env→EnvC→List HA→Prop} (hg:gOf all env ec o=some []) (he:evCall env ec [] o=some (f,args)) (hd:o.dst=some d) (hN:Nat.blt d C.N.n=true) (hs:safeC all d ec=true)
  (hc:SpecB C.S.P f args C.w0 H Ψ) (h:∀ u A,Ψ u A→Φ ((d,u)::env) ec A):OpT C all o env ec H Φ:=by
 intro a w ha hw K Q hK
 have hwn:=(wanted_iff ha hg).2 (Holds.nil _ _)
 refine ⟨fun _=>?_,fun hn=>(by rw [hwn] at hn;cases hn)⟩
 obtain⟨hen,hcall⟩:=hc
 unfold Oper.wpIn
 refine ⟨about_Fr o _ w _,?_⟩
 rw [Oper.semAt_eq _ _ _ (gOf_def hg)]
 rw [evCall_spec ha (Holds.nil _ _) he hen w]
 refine ⟨fun h=>(by cases h),callsIn_Fr (Calls.mono (hcall w hw) ?_)⟩
 rintro e w' ⟨u,A,rfl,hΨ,hb,hsep⟩
 exact hK _ _ _ _ _ (h u A hΨ) (by rw [hd];exact ha.put hN hs) ⟨hb,hsep⟩
end
end Go.Proofs.YtblnhdnogjijiaaGreatDoor
namespace Go.Proofs.YtblnhdnogjijiaaGreatDoor
open Go.RowKit Go.Shelf

section
variable {C:Cx} {all:Array Oper} {o:Oper} {env:Env} {ec:EnvC} {H:List HA} {d:Nat} {Φ:Env→EnvC→List HA→Prop}
end
end Go.Proofs.YtblnhdnogjijiaaGreatDoor
namespace Go.Proofs.YtblnhdnogjijiaaGreatDoor
open Go.RowKit Go.Shelf
set_option maxRecDepth 100000
set_option maxHeartbeats 1000000

section
variable {C:Cx} {env:Env} {ec:EnvC} {H:List HA}
theorem Hle.drop2 (A B:HA) (K:List HA):Hle (A::B::K) (A::K):=by
 refine Hle.pick (fun i=>if i=0 then 0 else i+1) (fun i X h=>?_) (fun i j _ _ h=>by show (if i=0 then 0 else i+1)≠(if j=0 then 0 else j+1);split <;> split <;> omega)
 cases i with
 | zero=>simpa using h
 | succ i=>simpa using h
end

def evCp (S:Sig) (env:Env) (ec:EnvC) (o:Oper):Option (Option Addr × Nat × Option Addr × Nat × TypeId) :=
 match o.op with
 | .call { callee := .builtin .copy,args:=xs,argTypes:=ts }=>match evL env ec [] xs.toList,ts.toList with
  | some [.slice A n _, .slice B m _],[t,_]=>match S.ty t with
   | some ⟨.slice e,_,_,_⟩=>some (A,n,B,m,e)
   | _=>none
  | _,_=>none
 | _=>none
section
variable {C:Cx} {all:Array Oper} {o:Oper} {env:Env} {ec:EnvC} {H:List HA} {d:Nat} {Φ:Env→EnvC→List HA→Prop}
theorem OpT.copyR {g off dl sl k:Nat} {A' B:Option Addr} {e:TypeId} {ty:TyI} {sz cap n:Nat} {xs us:List Value} {rb:HA→List HA} (hg:gOf all env ec o=some []) (he:evCp C.S env ec o=some (A',dl,B,sl,e)) (hd:o.dst=some d) (hN:Nat.blt d C.N.n=true) (hs:safeC all d ec=true)
  (ht:C.S.ty e=some ty) (hsz:Nat.beq ty.size sz=true) [hf:FocusR H (some ⟨g,0,none⟩) e sz cap n xs rb] (hA':A'=some ⟨g,off,none⟩) (hk:min sl dl=k) (hsrc:∀ w,Cls C.w0 w H→Src w sz B k us) (h1:oneCells us=true) (hl:off+us.length≤n * sz)
  (h:Φ ((d, .int .i64 k)::env) ec (rb (row e sz (some ⟨g,0,none⟩) cap n (setL xs off us)))):OpT C all o env ec H Φ:=by
 subst hA'
 have hsz':ty.size=sz:=Nat.eq_of_beq_eq_true hsz
 obtain⟨i,hi,hrb⟩:=hf.at_
 obtain⟨x,hx,hx1,hx2,hx3⟩:=(Sig.tyOk ht).info'
 refine OpT.eff hg fun a w ha hw=>?_
 obtain⟨F,f1,f2,f3⟩:=hw.sep
 have hil:i<H.length:=(List.getElem?_eq_some_iff.1 hi).1
 obtain⟨hxl,hrow⟩:=f1 i _ hi
 rcases hrow with⟨h9,_⟩|⟨g',cur,hA,hF,g1,g2,g3,g4⟩
 ·cases h9
 cases hA
 obtain⟨hbn,hb⟩:=f2 i g (.cells cur e (0,0)) hil (by rw [hF];simp [one])
 have hsn:n * sz≤cap * sz:=Nat.mul_le_mul_right _ g1
 have hcl:cur.toList.length=cap * sz:=by simpa using g3
 obtain⟨w',k1,k2,k3,k4,k5,k6,k7⟩:=run_storeL C.S.P g e us 0 off cur.toList w (by simpa using hb) (by rw [hcl];omega) h1
 obtain⟨hul,hat⟩:=hsrc w hw
 have hload:∀ cc,(Builtin.firstCells x.size k (.slice B sl cc)).run C.S.P w = .ok us.toArray w:=fun cc=>by
  rw [hx1,hsz']
  rcases B with _|ad
  ·have hk0:¬ 0<k:=fun h9=>by
    have:=(hat h9).1
    simp [isAt] at this
   have hu0:us=[]:=List.eq_nil_of_length_eq_zero (by rw [hul,show k=0 by omega,Nat.zero_mul])
   subst hu0
   simp [Builtin.firstCells]
  ·simp only [Builtin.firstCells]
   rw [← hul]
   refine run_loadCells_list (P:=C.S.P) w ad us fun j u hu=>?_
   have hj:j<us.length:=(List.getElem?_eq_some_iff.1 hu).1
   have hk0:0<k:=by
    rcases Nat.eq_zero_or_pos k with h9|h9
    ·rw [h9,Nat.zero_mul] at hul;omega
    ·exact h9
   obtain⟨h8,h9⟩:=hat hk0
   obtain⟨ab,ao,ap⟩:=ad
   have h7:ap=none:=by simpa [isAt,bk,ofs] using h8
   subst h7
   have:=h9 j u hu
   unfold Addr.add
   split
   ·rename_i e0;subst e0;simpa [bk,ofs] using this
   ·simpa [bk,ofs] using this
 obtain⟨dst,op,ty0,pos,aft,gd⟩:=o
 unfold evCp at he
 dsimp only at he
 split at he
 ·rename_i ps ts
  split at he
  ·rename_i A1 n1 c1 B1 m1 c2 t u hps hts
   split at he
   ·rename_i e1 q1 q2 q3 hty
    cases he
    have hut:=(Sig.tyOk hty).fits
    simp only [Ty.fits] at hut
    have hargs:ps.map a.eval = #[.slice (some ⟨g,off,none⟩) dl c1, .slice B sl c2]:=Array.ext' (by rw [Array.toList_map];exact evL_spec ha (Holds.nil _ _) hps)
    have hts':ts = #[t,u]:=Array.ext' hts
    have hcp:(Builtin.copy_ #[t,u] ty0 #[.slice (some ⟨g,off,none⟩) dl c1, .slice B sl c2]).run C.S.P w = .ok (goInt k) w':=by
     have hk':Nat.min sl dl=k:=hk
     simp [Builtin.copy_,run_underlying hut,Builtin.lenOf,sizeOf,typeInfo,hx,hk',hload,k1]
    refine ⟨.int .i64 k,w',rb (row e sz (some ⟨g,0,none⟩) cap n (setL xs off us)),?_,⟨?_,?_⟩,d,hd,hN,hs,h⟩
    ·simp [execOp,resolve,invoke,builtin,hargs,hts',hcp,goInt]
    ·exact hw.below.trans ⟨k4,k5,k6,by omega,fun c hc=>k3 c (by omega)⟩
    ·rw [hrb]
     refine hw.sep.turn hi (fun f hf=>?_) (fun c hc _=>k3 c hc) k2 ?_
     ·obtain⟨_,hr⟩:=hf
      rcases hr with⟨h9,_⟩|⟨g',cur',hA',hF',_⟩
      ·cases h9
      ·cases hA';exact⟨_,hF'⟩
     ·refine ⟨by rw [setL_length];exact hxl, .inr ⟨g,_,rfl,rfl,g1,g2,by rw [List.size_toArray,setL_length];exact hcl,?_⟩⟩
      rw [Nat.add_zero]
      show (setL cur.toList off us).take (n * sz)=_
      rw [setL_take _ _ _ (by omega),g4]
   ·cases he
  ·cases he
 ·cases he

theorem evCall_run {P:Program} {N:FK} {all:Array Oper} {env:Env} {ec:EnvC} {G:GId} {o:Oper} {a:Act} (ha:Agrees N all env ec a) (hG:Holds all a G) {f:FuncId} {args:List Value}
  (h:evCall env ec G o=some (f,args)) (w:World):(execOp a.eval o).run P w=(callFunc f args.toArray).run P w:=by
 obtain⟨dst,op,ty,pos,aft,gd⟩:=o
 unfold evCall at h
 dsimp only at h
 split at h
 ·rename_i x xs ts
  split at h
  ·rename_i g fs cs vs hx hvs
   cases h
   have e1:=evL_spec ha hG hvs
   have e2:xs.map a.eval=vs.toArray:=Array.ext' (by rw [Array.toList_map];exact e1)
   have e3:(fs.toList++(vs++cs.toList)).toArray=fs++vs.toArray++cs:=Array.ext' (by simp)
   simp only [execOp,resolve,e2,evX_spec ha hG hx,Deferred.ofValue]
   rw [e3]
   simp [invoke]
  ·cases h
 ·cases h
theorem OpT.callX {f:FuncId} {args:List Value} {v:Value} (hg:gOf all env ec o=some []) (he:evCall env ec [] o=some (f,args)) (hd:o.dst=some d) (hN:Nat.blt d C.N.n=true) (hs:safeC all d ec=true)
  (hrun:∀ w,Cls C.w0 w H→(callFunc f args.toArray).run C.S.P w = .ok (.value v) w) (h:Φ ((d,v)::env) ec H):OpT C all o env ec H Φ :=
 OpT.eff hg fun _ w ha hw=>⟨v,w,H,by rw [evCall_run ha (Holds.nil _ _) he w];exact hrun w hw,hw,d,hd,hN,hs,h⟩
end
theorem setL_eq:∀ (us cs:List Value) (off:Nat),off+us.length≤cs.length→setL cs off us=cs.take off++(us++cs.drop (off+us.length))
 | [],cs,off,h=>by simp [setL]
 | u::us,cs,off,h=>by
  simp only [List.length_cons] at h
  have e:cs.set off u=cs.take off++u::cs.drop (off+1):=by rw [List.set_eq_take_append_cons_drop,if_pos (by omega)]
  have hl:(cs.take off).length=off:=by rw [List.length_take];omega
  simp only [setL]
  rw [setL_eq us (cs.set off u) (off+1) (by simp;omega),e,List.take_append,List.drop_append,hl,show off+1 - off=1 by omega,List.take_of_length_le (l:=cs.take off) (by rw [hl];omega),show (cs.take off).drop (off+1+us.length)=[] from List.drop_eq_nil_of_le (by rw [hl];omega),
   show off+1+us.length - off=us.length+1 by omega]
  simp [Nat.add_assoc,Nat.add_comm 1]
theorem cutA_at {a ca lo sz:Nat} (h:lo<ca):cutA (some ⟨a,0,none⟩) ca lo sz=some ⟨a,lo * sz,none⟩:=by
 unfold cutA
 rw [if_neg (by omega)]
 simp only [Option.map_some,Addr.add]
 split
 ·rename_i e;rw [e]
 ·simp
end Go.Proofs.YtblnhdnogjijiaaGreatDoor
namespace Go.Proofs.YtblnhdnogjijiaaGreatDoor
open Go.RowKit Go.Shelf
set_option maxRecDepth 100000
set_option maxHeartbeats 1000000
theorem made_flat (z:Array Value):∀ n,(madeCells z (n * z.size)).toList=(List.replicate n z.toList).flatten
 | 0=>by simp [madeCells]
 | n+1=>by
  have ih:=made_flat z n
  have e:∀ m,(madeCells z m).toList=(List.range m).map fun i=>z[i % z.size]!:=fun m=>by simp [madeCells,Array.toList_range]
  rw [e] at ih
  rw [e,show (n+1) * z.size=z.size+n * z.size by rw [Nat.add_mul];omega,List.range_add,List.map_append,List.replicate_succ,List.flatten_cons, ← ih,List.map_map]
  congr 1
  ·apply List.ext_getElem?
   intro j
   by_cases hj:j<z.size
   ·rw [List.getElem?_map,List.getElem?_range hj]
    simp [Nat.mod_eq_of_lt hj,hj]
   ·rw [List.getElem?_eq_none (by simp;omega),List.getElem?_eq_none (by simp;omega)]
  ·apply List.map_congr_left
   intro i _
   simp [Nat.add_mod_left]
section
variable {C:Cx} {all:Array Oper} {o:Oper} {env:Env} {ec:EnvC} {H:List HA} {d:Nat} {Φ:Env→EnvC→List HA→Prop}
theorem OpT.makeC {e:TypeId} {l c:Int} {ty:TyI} (hg:gOf all env ec o=some []) (he:evMk C.S env ec o=some (e,l,c)) (ht:C.S.ty e=some ty) (hd:o.dst=some d) (hN:Nat.blt d C.N.n=true) (hs:safeC all d ec=true)
  (hb:(0≤l∧l≤c)∧(ty.bytes:Int) * c≤281474976710656∧c≤9223372036854775807) (h:∀ b,Φ ((d, .slice (some ⟨b,0,none⟩) l.toNat c.toNat)::env) ec (blk b (madeCells ty.zero.cells (c.toNat * ty.size)).toList e::H)):OpT C all o env ec H Φ:=by
 obtain⟨x,hx,hx1,hx2,hx3⟩:=(Sig.tyOk ht).info'
 refine OpT.eff hg fun a w ha hw=>⟨.slice (some ⟨w.heap.size,0,none⟩) l.toNat c.toNat,w.alloc (.cells (madeCells ty.zero.cells (c.toNat * x.size)) e),_,?_,hw.alloc _ ?_,d,hd,hN,hs,h w.heap.size⟩
 ·obtain⟨dst,op,ty0,pos,aft,gd⟩:=o
  unfold evMk at he
  dsimp only at he
  split at he
  ·rename_i t p q
   split at he
   ·rename_i e' q1 q2 q3 kl l' kc c' hty hl hc
    cases he
    have hut:=(Sig.tyOk hty).fits
    simp only [Ty.fits] at hut
    have hr:=run_make (P:=C.S.P) w t e x ty.zero hut hx hx3 kl kc l c hb.1.1 hb.1.2 (by rw [hx2];exact hb.2.1) hb.2.2
    simp only [execOp,evX_spec ha (Holds.nil _ _) hl,evX_spec ha (Holds.nil _ _) hc]
    simp [hr]
   ·cases he
  ·cases he
 ·unfold blk
  rw [hx1]
end
end Go.Proofs.YtblnhdnogjijiaaGreatDoor
namespace Go.Proofs.YtblnhdnogjijiaaGreatDoor
open Go.RowKit Go.Shelf
set_option maxRecDepth 100000
set_option maxHeartbeats 1000000

def IterAt (P:Program) (w0:World) (f:FuncId) (fs cs:List Value) (cap:List HA) (xs:List (List Value)):Prop :=
 Enters P f∧∀ l GP X w Hj,Yields P w0 l GP X xs→GP 0 Hj→Cls w0 w (cap++Hj) →
  CallsIn (Fr none) 0 P f (fs++(yv l::cs)).toArray w (RIt w0 cap GP X xs.length)
theorem iterAt_of (S : Sig) {w0 : World} {f : FuncId} {fn : Func} {c : Code} {fs cs : List Value} {cap : List HA} {xs : List (List Value)} (hf : S.P.funcs[f]? = some fn) (hn : (fn.name == "runtime.NumGoroutine") = false) (hb : fn.body = some c)
  (hlen:Nat.ble (fs.length+(1+cs.length)) fn.ntmps=true)
  (h:∀ l GP X Hj,Yields S.P w0 l GP X xs→GP 0 Hj→T (IC S fn.ntmps w0 fn (RIt w0 cap GP X xs.length)) (nf 60 [.code c]) (zipE 0 (fs++(yv l::cs))) [] (cap++Hj)):IterAt S.P w0 f fs cs cap xs:=by
 refine ⟨enters_of hf hn hb,fun l GP X w Hj hY h0 hw=>callsIn_of_wp_marks (n:=0) hf hb trivial ?_⟩
 generalize hargs:fs++(yv l::cs)=args
 have hlen':args.length≤fn.ntmps:=by
  have:=Nat.le_of_ble_eq_true hlen
  rw [← hargs];simp;omega
 have ha:Agrees ⟨fn.ntmps,[]⟩ (allOf (nf 60 [.code c])) (zipE 0 args) [] { tmps:=args.toArray++Array.replicate (fn.ntmps - args.toArray.size) undef,defers:=[] }:=by
  refine ⟨rfl,by simp;omega,fun s v hv=>?_,fun _ _ _ h=>(by cases h),fun _ _ _ h=>(by cases h)⟩
  obtain⟨_,h2⟩:=zipE_spec args 0 s v hv
  simp only [Nat.sub_zero] at h2
  have hs:s<args.length:=(List.getElem?_eq_some_iff.1 h2).1
  simp [Array.getD_eq_getD_getElem?,Array.getElem?_append,hs]
  rw [List.getElem?_eq_getElem hs] at h2
  simpa using h2
 have h1:=h l GP X Hj hY h0
 rw [hargs] at h1
 have:=nf_spec (h1 _ _ ha hw)
 simp only [sem] at this
 refine wpIn_mono this fun e a w' q=>?_
 cases e <;> first|exact q|exact q.elim
theorem T_rangeA {S:Sig} {m:Nat} {ds:List Deferred} {w0:World} {fn:Func} {Φ:Value→List HA→Prop} {g:Operand} {ps:Array Tmp} {assign body:Code} {k:List It} {env:Env} {ec:EnvC} {H:List HA}
  {f:FuncId} {fs cs:List Value} {cap:List HA} {xs:List (List Value)} (hit:IterAt S.P w0 f fs cs cap xs)
  (hg:evX env [] [] g=some (.func (.func f) fs.toArray cs.toArray)) (hps:∀ (j:Nat) (x:List Value),xs[j]?=some x→x.length=ps.size∧inP m (ps.toList.zip x)=true)
  (GP:Nat→List HA→Prop) (XR:List HA→Prop) (XE:Nat→List HA→Prop) (H0:List HA) (h0:GP 0 H0) (hH:Hle H (cap++H0))
  (hround:∀ (L:Nat) (r:Loop) (j:Nat) (x:List Value) (Hj K:List HA),r.state = .ready→xs[j]?=some x→GP j Hj→T (RA (RC S m w0 L (busy r) GP XR XE j K) L body) (nf 60 [.code assign]) (envP (ps.toList.zip x) env) [] (lrec L r::(Hj++K)))
  (hn:∀ D Hn,GP xs.length Hn→T (FC S m (mkD D::ds) w0 fn Φ) (nf 60 k) env [] (dfr D::(cap++Hn)))
  (hret:∀ D Hx,XR Hx→T (FC S m (mkD D::ds) w0 fn Φ) (.code .ret::k) env [] (dfr D::(cap++Hx)))
  (hex:∀ D id Hx,XE id Hx→T (FC S m (mkD D::ds) w0 fn Φ) (nf 60 (.code (.exit id)::k)) env [] (dfr D::(cap++Hx))) :
  T (FC S m ds w0 fn Φ) (.code (.rangeFunc g ps assign body)::k) env ec H:=by
 refine T.mk fun a w ha hw=>?_
 have ha0:Agrees ⟨m,ds⟩ #[] env [] a:=ha.plain
 replace hw:=Cls.le hw hH
 refine wpIn_rangeFunc fun fn' _=>?_
 -- the two blocks
 have hw1:=(hw.alloc (.deferred (some [])) (A:=dfr w.heap.size) rfl)
 have hsz:(w.alloc (.deferred (some []))).heap.size=w.heap.size+1:=World.size_alloc _ _
 generalize hD:w.heap.size=D at hw1 hsz
 generalize hr0:({ state := .ready,pending:=none,fn:=fn',tmps:=a.tmps,params:=ps,assign,body,defers:=D }:Loop)=r
 have hrdy:r.state = .ready:=by rw [← hr0]
 have hpd:r.pending=none:=by rw [← hr0]
 have hw2:=(hw1.alloc (.loop r) (A:=lrec (D+1) r) (by rw [hsz];rfl))
 have hen:=run_enterLoop_outer (P:=S.P) (w:=w) fn' a.tmps ps assign body
 rw [hD,hr0] at hen
 have hgv:=evX_spec (all := #[]) ha0 (Holds.nil _ _) hg
 have hargs:(fs.toArray ++ #[yv (D+1)]++cs.toArray)=(fs++(yv (D+1)::cs)).toArray:=Array.ext' (by simp)
 refine ⟨D+1,[mkD D],_,⟨.fn (.func f) cs.toArray,fs.toArray ++ #[yv (D+1)]⟩,(w.alloc (.deferred (some []))).alloc (.loop r),f,(fs++(yv (D+1)::cs)).toArray,(w.alloc (.deferred (some []))).alloc (.loop r),hen,?_,fun _ _=>trivial,?_,fun h=>(by cases h),?_⟩
 ·simp [resolve,hgv,Deferred.ofValue,yv]
  rfl
 ·have:=hit.1 (fs++(yv (D+1)::cs)).toArray ((w.alloc (.deferred (some []))).alloc (.loop r))
  rw [← hargs] at this ⊢
  simpa [invoke] using this
 · -- the rounds
  have hYd:Yields S.P w0 (D+1) (fun j H'=>∃ Hj,H'=lrec (D+1) r::dfr D::Hj∧GP j Hj) (fun Y=>∃ Hx jump,Y=lrec (D+1) { r with state := .done,pending:=some jump }::dfr D::Hx∧((jump = .ret∧XR Hx)∨∃ id,jump = .exit id∧XE id Hx)) xs:=by
   rintro j x _ K w1 hj ⟨Hj,rfl,hGj⟩ hc
   have hL:=(hc.obj (i:=0) rfl).1
   obtain⟨hxl,hin⟩:=hps j x hj
   have hy:=run_yield (P:=S.P) (args:=x.toArray) hL (by rw [← hr0];simp [hxl])
   refine ⟨_,_,_,_,hy,roundIn_of_wpIn trivial ?_⟩
   have hc':Cls w0 w1 (lrec (D+1) r::(Hj++(dfr D::K))):=hc.le (Hle.perm ((List.perm_middle (a:=dfr D) (l₁:=Hj) (l₂:=K)).symm.cons _))
   have hT:=hround (D+1) r j x Hj (dfr D::K) hrdy hj hGj
   have hag:Agrees ⟨m,[]⟩ #[] env [] { tmps:=r.tmps,defers:=[] }:=by
    rw [← hr0]
    exact⟨rfl,ha0.size,ha0.at_,fun _ _ _ h=>(by cases h),fun _ _ _ h=>(by cases h)⟩
   have hag2:=Agrees.putAll (N:=⟨m,[]⟩) (l:=ps.toList.zip x) hin hag
   have htm:(r.params.zip x.toArray).foldl (fun tmps (p:Tmp × Value)=>tmps.setIfInBounds p.1 p.2) r.tmps=(ps.toList.zip x).foldl (fun tmps (p:Nat × Value)=>tmps.setIfInBounds p.1 p.2) r.tmps:=by
    rw [← hr0, ← Array.foldl_toList,Array.toList_zip]
   rw [htm]
   have h1:=nf_spec (hT _ w1 ⟨hag2.defers,hag2.size,hag2.at_,fun _ _ _ h=>(by cases h),fun _ _ _ h=>(by cases h)⟩ hc')
   simp only [sem] at h1
   have hra:r.assign=assign:=by rw [← hr0]
   have hrb:r.body=body:=by rw [← hr0]
   rw [← hra, ← hrb] at h1
   refine wpIn_mono (F:=Fr (some (D+1))) h1 fun e a1 w2 q=>?_
   cases e <;> first|exact q.elim|skip
   obtain⟨w3,hb,hbody⟩:=q
   refine ⟨w3,hb,wpIn_mono hbody fun e a2 w4 q=>?_⟩
   have fin:∀ H':List HA,Cls w0 w4 (lrec (D+1) (busy r)::(H'++(dfr D::K)))→∀ jump,∃ w',(Instr.endRound (D+1) jump).run S.P w4 = .ok (.bool jump.isNone) w'∧Cls w0 w' (lrec (D+1) { r with state:=if jump.isNone then .ready else .done,pending:=jump }::dfr D::(H'++K)):=by
    intro H' hcl jump
    have hL4:=(hcl.obj (i:=0) rfl).1
    refine ⟨_,run_endRound jump hL4,?_⟩
    have:=hcl.putObj (i:=0) rfl (.loop { r with state:=if jump.isNone then .ready else .done,pending:=jump })
    exact this.le (Hle.perm ((List.perm_middle (a:=dfr D) (l₁:=H') (l₂:=K)).cons _))
   cases e with
   | normal =>
    obtain⟨H',g1,g2⟩:=q
    obtain⟨w',e1,e2⟩:=fin H' g2 none
    refine ⟨_,w',e1, .inl ⟨rfl,_,⟨H',rfl,g1⟩,?_⟩⟩
    have er:({ r with state := .ready,pending:=none }:Loop)=r:=by rw [← hr0]
    simp only [Option.isNone_none,if_true] at e2
    rw [er] at e2
    exact e2
   | ret =>
    obtain⟨H',g1,g2⟩:=q
    obtain⟨w',e1,e2⟩:=fin H' g2 (some .ret)
    exact⟨_,w',e1, .inr ⟨rfl,_,⟨H', .ret,rfl, .inl ⟨rfl,g1⟩⟩,e2⟩⟩
   | exit id =>
    obtain⟨H',g1,g2⟩:=q
    obtain⟨w',e1,e2⟩:=fin H' g2 (some (.exit id))
    exact⟨_,w',e1, .inr ⟨rfl,_,⟨H', .exit id,rfl, .inr ⟨id,rfl,g1⟩⟩,e2⟩⟩
   | goto t=>exact q.elim
   | panic c=>exact q.elim
   | outgrown=>exact q.elim
  have hstart:Cls w0 ((w.alloc (.deferred (some []))).alloc (.loop r)) (cap++(lrec (D+1) r::dfr D::H0)):=by
   have h1:Cls w0 ((w.alloc (.deferred (some []))).alloc (.loop r)) (lrec (D+1) r::dfr D::(cap++H0)):=hw2
   exact h1.le (Hle.rot2 _ _ cap H0)
  have hcall:=hit.2 (D+1) _ _ _ _ hYd ⟨H0,rfl,h0⟩ hstart
  have hcall':CallsIn (Fr none) 0 S.P f (fs++(yv (D+1)::cs)).toArray ((w.alloc (.deferred (some []))).alloc (.loop r)) _:=hcall
  refine CallsIn.mono hcall' ?_
  rintro e w3 ⟨⟨v,rfl⟩,hend⟩
  have hsem:=sem_N (FC S m ds w0 fn Φ) ⟨m,mkD D::ds⟩ k
  have hag:∀ all,Agrees ⟨m,mkD D::ds⟩ all env [] { a with defers:=[mkD D]++a.defers }:=fun all =>
   ⟨by simp [ha0.defers],ha0.size,ha0.at_,fun _ _ _ h=>(by cases h),fun _ _ _ h=>(by cases h)⟩
  rcases hend with⟨_,⟨Hn,rfl,hGn⟩,hc⟩|⟨_,⟨Hx,jump,rfl,hj⟩,hc⟩
  ·have hc:=hc.le (Hle.unrot2 _ _ cap Hn)
   have hL:=(hc.obj (i:=0) rfl).1
   refine ⟨none,w3.putObj (D+1) (.loop { r with state := .exhausted }),(run_endLoop hL (by rw [hrdy];intro h;cases h)).trans (by rw [hpd]),?_⟩
   have hc2:=(hc.putObj (i:=0) rfl (.loop { r with state := .exhausted })).le (Hle.tail _ _)
   have:=nf_spec (hn D Hn hGn _ _ (hag _) hc2)
   show (sem (FC S m ds w0 fn Φ) k).1 _ _
   rw [← hsem]
   exact this
  ·have hc:=hc.le (Hle.unrot2 _ _ cap Hx)
   have hL:=(hc.obj (i:=0) rfl).1
   refine ⟨_,_,run_endLoop hL (by intro h;cases h),?_⟩
   have hc2:=(hc.putObj (i:=0) rfl (.loop { ({ r with state := .done,pending:=some jump }:Loop) with state := .exhausted })).le (Hle.tail _ _)
   rcases hj with⟨rfl,hX⟩|⟨id,rfl,hX⟩
   ·have:=hret D Hx hX _ _ (hag _) hc2
    have h9:(sem (FC S m (mkD D::ds) w0 fn Φ) (.code .ret::k)).1 _ _:=this
    simp only [sem] at h9
    have h10:sem (FC S m (mkD D::ds) w0 fn Φ) k=sem (FC S m ds w0 fn Φ) k:=hsem
    rw [h10] at h9
    exact h9
   ·have:=nf_spec (hex D id Hx hX _ _ (hag _) hc2)
    simp only [sem] at this
    have h10:sem (FC S m (mkD D::ds) w0 fn Φ) k=sem (FC S m ds w0 fn Φ) k:=hsem
    rw [h10] at this
    exact this

def evYG (env:Env) (ec:EnvC) (G:GId) (o:Oper):Option (Nat × List Value) :=
 match o.op with
 | .call { callee := .value x,args:=xs,argTypes:=_ }=>match evX env ec G x,evL env ec G xs.toList with
  | some (.func (.yield l) fs cs),some vs=>cond (fs.isEmpty && cs.isEmpty) (some (l,vs)) none
  | _,_=>none
 | _=>none
theorem evYG_spec {P:Program} {N:FK} {all:Array Oper} {env:Env} {ec:EnvC} {G:GId} {o:Oper} {a:Act} (ha:Agrees N all env ec a) (hG:Holds all a G) {l:Nat} {x:List Value}
  (h:evYG env ec G o=some (l,x)) {w:World} {r:Next} (hy:(Instr.yield l x.toArray).run P w = .ok r w):(execOp a.eval o).run P w = .ok r w:=by
 obtain⟨dst,op,ty,pos,aft,gd⟩:=o
 unfold evYG at h
 dsimp only at h
 split at h
 ·rename_i xo xa ts
  split at h
  ·rename_i l' fs cs vs hx hvs
   cases hc:(fs.isEmpty && cs.isEmpty) with
   | false=>rw [hc] at h;cases h
   | true =>
    rw [hc] at h
    cases h
    simp only [Bool.and_eq_true,Array.isEmpty_iff] at hc
    obtain⟨rfl,rfl⟩:=hc
    have hx':=evX_spec ha hG hx
    have e1:=evL_spec ha hG hvs
    have e2:xa.map a.eval=x.toArray:=Array.ext' (by rw [Array.toList_map];exact e1)
    simp only [execOp,resolve,e2,hx',Deferred.ofValue]
    simpa [invoke] using hy
  ·cases h
 ·cases h
theorem Holds.of1 {N:FK} {all:Array Oper} {env:Env} {ec:EnvC} {i s:Nat} {b p:Bool} (hs:dstL all i=some s) (hv:lookE env s=some (.bool b)) (hb:b=p):∀ a,Agrees N all env ec a→Holds all a [(i,p)]:=by
 intro a ha x hx
 rw [List.mem_singleton] at hx
 subst hx
 subst hb
 have ht:=ha.at_ s _ hv
 unfold yielded
 rw [← dstL_eq,hs]
 simp only [Option.bind_some]
 rw [Array.getD_eq_getD_getElem?] at ht
 cases hq:a.tmps[s]? with
 | none=>rw [hq] at ht;simp [undef] at ht
 | some u=>rw [hq] at ht;simp only [Option.getD_some] at ht;subst ht;rfl
theorem OpT.yieldG {S:Sig} {m:Nat} {w0:World} {fn:Func} {R:Ending→World→Prop} {all:Array Oper} {o:Oper} {env:Env} {ec:EnvC} {H:List HA} {d l j:Nat} {x:List Value} {G:GId} {Φ:Env→EnvC→List HA→Prop}
  {GP:Nat→List HA→Prop} {X:List HA→Prop} {xs:List (List Value)} {Hj:List HA} (K:List HA)
  (hY:Yields S.P w0 l GP X xs) (hg:gOf all env ec o=some G) (he:evYG env ec G o=some (l,x)) (hT:∀ a,Agrees ⟨m,[]⟩ all env ec a→Holds all a G) (hd:o.dst=some d) (hN:Nat.blt d m=true) (hs:safeC all d ec=true) (hj:xs[j]?=some x) (hGP:GP j Hj) (hl:Hle H (Hj++K))
  (ht:∀ H',GP (j+1) H'→Φ ((d, .bool true)::env) ec (K++H'))
  (hf:∀ Y,X Y→Φ ((d, .bool false)::env) ec (K++Y)):OpT (IC S m w0 fn R) all o env ec H Φ:=by
 intro a w ha hw K' Q hK
 have hH:=hT a ha
 have hwn:=(wanted_iff ha hg).2 hH
 refine ⟨fun _=>?_,fun hn=>(by rw [hwn] at hn;cases hn)⟩
 obtain⟨f,tmps,assign,body,hy,hr⟩:=hY j x Hj K w hj hGP (hw.le hl)
 have hdef:=gOf_def hg
 have hex:=evYG_spec ha hH he hy
 unfold Oper.wpIn
 refine ⟨about_Fr o _ w _,?_⟩
 rw [Oper.semAt_eq _ _ _ hdef,hex]
 refine ⟨fun h=>(by cases h),RoundIn.mono hr ?_⟩
 rintro e w' (⟨rfl,H',h1,h2⟩|⟨rfl,Y,h1,h2⟩)
 ·exact hK _ _ _ _ _ (ht H' h1) (by rw [hd];exact ha.put hN hs) (h2.le (Hle.comm _ _))
 ·exact hK _ _ _ _ _ (hf Y h1) (by rw [hd];exact ha.put hN hs) (h2.le (Hle.comm _ _))
theorem OpT.never {C:Cx} {all:Array Oper} {o:Oper} {env:Env} {ec:EnvC} {H:List HA} {d:Nat} {G:GId} {Φ:Env→EnvC→List HA→Prop} (v:Value) (hg:gOf all env ec o=some G) (hn:GP all env ec G→False) (hd:o.dst=some d) (hN:Nat.blt d C.N.n=true) (hs:safeC all d ec=true) (hsG:safeG all d G=true) (hl:lookE env d=none)
  (h:Φ env ((d,(G,v))::ec) H):OpT C all o env ec H Φ:=by
 intro a w ha hw K Q hK
 have hH:¬ Holds all a G:=fun hh=>hn (hh.gp ha)
 refine ⟨fun hwn=>absurd ((wanted_iff ha hg).1 hwn) hH,fun _=>?_⟩
 rw [hd]
 exact hK _ _ _ _ _ h (ha.putC hN hs hsG hl (fun hh=>absurd hh hH) (fun _=>rfl)) hw
end Go.Proofs.YtblnhdnogjijiaaGreatDoor
namespace Go.Proofs.YtblnhdnogjijiaaGreatDoor
open Go.RowKit Go.Shelf
set_option maxRecDepth 100000
set_option maxHeartbeats 1000000

def dfrs (l:List Nat):List HA:=l.map dfr
section
variable {S:Sig} {m:Nat} {w0:World} {fn:Func} {Φ:Value→List HA→Prop} {k:List It} {env:Env} {ec:EnvC} {H:List HA}
theorem leaves_ds {a:Act} {H':List HA} (h:∀ w,Cls w0 w H'→LeavesInM (Fr none) 0 S.P fn a.tmps (Ret w0 Φ) [] .returning w):∀ (Dl:List Nat) (w:World),Cls w0 w (dfrs Dl++H')→LeavesInM (Fr none) 0 S.P fn a.tmps (Ret w0 Φ) (Dl.map mkD) .returning w
 | [],w,hw=>h w hw
 | D::Dl,w,hw=>by
  have hc:Cls w0 w (dfr D::(dfrs Dl++H')):=hw
  have hL:=(hc.obj (i:=0) rfl).1
  have hc2:=(hc.putObj (i:=0) rfl (.deferred none)).le (Hle.tail _ _)
  exact⟨(by intro h;cases h), .inl ⟨D,_,rfl,run_takeDeferred hL,leaves_ds h Dl _ hc2⟩⟩
theorem T_retDs {Dl:List Nat} (H':List HA) (hl:Hle H (H'++dfrs Dl)) (h:∀ a w,Agrees ⟨m,[]⟩ #[] env [] a→Cls w0 w H'→RF S.P w0 fn Φ a w):T (FC S m (Dl.map mkD) w0 fn Φ) (.code .ret::k) env ec H :=
 T_ret fun a w ha hw=>by
  show LeavesInM _ _ _ _ _ _ a.defers _ _
  rw [show a.defers=Dl.map mkD from ha.defers]
  refine leaves_ds (H':=H') (fun w' hw'=>?_) Dl w ((hw.le hl).le (Hle.comm _ _))
  exact h { a with defers:=[] } w' ⟨rfl,ha.size,ha.at_,fun _ _ _ h=>(by cases h),fun _ _ _ h=>(by cases h)⟩ hw'
def BackD (m:Nat) (w0:World) {σ:Type} (E:σ→Env) (G:σ→List HA) (Ds:σ→List Nat) (I:σ→Prop) (μ:σ→Nat) (s:σ):Act→World→Prop :=
 fun a w=>∃ s',I s'∧μ s'<μ s∧Agrees ⟨m,(Ds s').map mkD⟩ #[] (E s') [] a∧Cls w0 w (G s'++dfrs (Ds s'))
theorem T_loopD {c:Code} {σ:Type} {Dl:List Nat} (E:σ→Env) (G:σ→List HA) (Ds:σ→List Nat) (I:σ→Prop) (μ:σ→Nat) (s0:σ) (hI:I s0) (hD:Ds s0=Dl) (hE:EnvLe (E s0) env) (hG:Hle H (G s0++dfrs (Ds s0)))
  (hr:∀ s,I s→T (FC S m ((Ds s).map mkD) w0 fn Φ) (nf 60 (.code c :: .mark (BackD m w0 E G Ds I μ s)::k)) (E s) [] (G s++dfrs (Ds s))):T (FC S m (Dl.map mkD) w0 fn Φ) (.code (.loop c)::k) env ec H:=by
 subst hD
 refine T.mk fun a w ha hw=>?_
 refine wpIn_loop_ghost (fun n a w=>∃ s,μ s=n∧I s∧Agrees ⟨m,(Ds s).map mkD⟩ #[] (E s) [] a∧Cls w0 w (G s++dfrs (Ds s))) (μ s0) ⟨s0,rfl,hI,ha.le hE,hw.le hG⟩ ?_
 rintro n a w ⟨s,rfl,hs,ha,hw⟩
 have h2:=nf_spec (hr s hs a w ha.plain hw)
 have e:=sem_N (FC S m ((Ds s0).map mkD) w0 fn Φ) ⟨m,(Ds s).map mkD⟩ (.code c :: .mark (BackD m w0 E G Ds I μ s)::k)
 have h3:(sem (FC S m ((Ds s0).map mkD) w0 fn Φ) (.code c :: .mark (BackD m w0 E G Ds I μ s)::k)).1 a w:=by rw [← e];exact h2
 simp only [sem] at h3
 refine wpIn_mono h3 fun e a w q=>?_
 cases e <;> first|exact q|exact q.elim|skip
 obtain⟨s',h1,h2,h3,h4⟩:=q
 exact⟨μ s',h2,s',rfl,h1,h3,h4⟩
theorem T_loopDX {c:Code} {σ:Type} {Dl:List Nat} {ks:List Nat} {env':Env} (U:σ→Env) (G:σ→List HA) (Ds:σ→List Nat) (I:σ→Prop) (μ:σ→Nat) (s0:σ) (hI:I s0) (hD:Ds s0=Dl)
  (hr:∀ s,I s→T (FC S m ((Ds s).map mkD) w0 fn Φ) (nf 60 (.code c :: .mark (BackD m w0 (fun s=>U s++env') G Ds I μ s)::k)) (U s++env') [] (G s++dfrs (Ds s)))
  (hks:(U s0).map Prod.fst=ks:=by exact rfl)
  (hk:KeepX env ks env':=by repeat' (first|exact KeepX.nil _|apply KeepX.drop rfl|apply KeepX.keep rfl))
  (hE:EnvLe (U s0) env:=by repeat' (first|exact True.intro|refine And.intro rfl ?_)) (hG:Hle H (G s0++dfrs (Ds s0)):=by exact Hle.refl _):T (FC S m (Dl.map mkD) w0 fn Φ) (.code (.loop c)::k) env ec H :=
 T_loopD (fun s=>U s++env') G Ds I μ s0 hI hD (hE.append hk.le) hG hr
theorem T_backD {σ:Type} {U:σ→Env} {env':Env} {G:σ→List HA} {Ds:σ→List Nat} {I:σ→Prop} {μ:σ→Nat} {s:σ} {ds:List Deferred} (s':σ) (hI:I s') (hμ:μ s'<μ s) (hd:ds=(Ds s').map mkD)
  (hE:EnvLe (U s') env:=by repeat' (first|exact True.intro|refine And.intro rfl ?_)) (hE2:EnvLe env' env:=by repeat' (first|exact True.intro|refine And.intro rfl ?_)) (hG:Hle H (G s'++dfrs (Ds s')):=by exact Hle.refl _) :
  T (FC S m ds w0 fn Φ) (.mark (BackD m w0 (fun s=>U s++env') G Ds I μ s)::k) env ec H:=by
 subst hd
 exact T.mk fun _ _ ha hw=>⟨s',hI,hμ,ha.le (hE.append hE2),hw.le hG⟩
end
theorem Hle.srtT {A K:List HA} (T:List HA) (h:Pk A K:=by repeat' (first|exact Pk.nil _|apply Pk.cons|with_reducible exact Rm.here|((with_reducible apply Rm.b);rfl)|((with_reducible apply Rm.r) <;> rfl)|apply Rm.there)):Hle (A++T) (K++T):=by
 obtain⟨p,h1,h2⟩:=h.spec.at_
 have hp:∀ i,i<K.length→p i<A.length:=fun i hi=>by
  have:=h1 i K[i] (List.getElem?_eq_getElem hi)
  exact (List.getElem?_eq_some_iff.1 this).1
 refine Hle.pick (fun i=>if i<K.length then p i else i - K.length+A.length) (fun i B hB=>?_) (fun i j hi hj hne=>?_)
 ·by_cases hi:i<K.length
  ·rw [List.getElem?_append_left hi] at hB
   rw [if_pos hi,List.getElem?_append_left (hp i hi)]
   exact h1 i B hB
  ·rw [List.getElem?_append_right (by omega)] at hB
   rw [if_neg hi,List.getElem?_append_right (by omega),show i - K.length+A.length - A.length=i - K.length by omega]
   exact hB
 ·by_cases hi:i<K.length
  ·have:=hp i hi
   by_cases hj:j<K.length
   ·rw [if_pos hi,if_pos hj];exact h2 i j hi hj hne
   ·rw [if_pos hi,if_neg hj];omega
  ·by_cases hj:j<K.length
   ·have:=hp j hj
    rw [if_neg hi,if_pos hj];omega
   ·rw [if_neg hi,if_neg hj];omega
end Go.Proofs.YtblnhdnogjijiaaGreatDoor
namespace Go.Proofs.YtblnhdnogjijiaaGreatDoor

theorem distS_ge (a b:ByteArray):0≤distS a b∧distS a b≤a.size+b.size:=lv_bd _ _ _
theorem pairC_bd {c:Costs} (hc:costE c=0) (a b:Tok):0≤pairC c a b∧pairC c a b≤c.most:=by
 obtain⟨c1,c2,c3,c4,c5⟩:=costE_ok hc
 have hd:=(distS_ge a.norm b.norm).1
 have hm:0≤c.letter * distS a.norm b.norm:=Int.mul_nonneg c3.1 hd
 unfold pairC
 (repeat' split) <;> omega
theorem gapC_bd {c:Costs} (hc:costE c=0) (t:Tok):0≤gapC c t∧gapC c t≤c.gap:=by
 obtain⟨c1,c2,c3,c4,c5⟩:=costE_ok hc
 unfold gapC
 split <;> omega
end Go.Proofs.YtblnhdnogjijiaaGreatDoor
namespace Go.Proofs.YtblnhdnogjijiaaGreatDoor

def noTok:Tok:=⟨.empty, .empty, .empty,0,0, .empty⟩
def tkA (l:List Tok) (i:Nat):Tok:=l.getD i noTok
def thA (b:List Bool) (i:Nat):Bool:=b.getD i false
theorem tkA_get {l:List Tok} {i:Nat} (h:i<l.length):l[i]?=some (tkA l i):=by
 unfold tkA;rw [List.getD_eq_getElem?_getD,List.getElem?_eq_getElem h];rfl
theorem thA_get {l:List Bool} {i:Nat} (h:i<l.length):l[i]?=some (thA l i):=by
 unfold thA;rw [List.getD_eq_getElem?_getD,List.getElem?_eq_getElem h];rfl
theorem tkA_mem {l:List Tok} {i:Nat} (h:i<l.length):tkA l i∈l:=List.mem_of_getElem? (tkA_get h)
def cellC (c:Costs) (l:List Tok) (b:List Bool) (i k:Nat):Int :=
 if (thA b i && thA b k)=true then pairC c (tkA l i) (tkA l k) else if thA b i=true then gapC c (tkA l i) else if thA b k=true then gapC c (tkA l k) else 0
def pairsL (n:Nat):List (Nat × Nat):=(List.range n).flatMap fun k=>(List.range k).map fun i=>(i,k)
def rowP (i k:Nat):List (Nat × Nat):=(List.range i).map fun q=>(q,k)
theorem pairsL_succ (k:Nat):pairsL (k+1)=pairsL k++rowP k k:=by
 unfold pairsL rowP;rw [List.range_succ,List.flatMap_append];simp
theorem rowP_succ (i k:Nat):rowP (i+1) k=rowP i k++[(i,k)]:=by unfold rowP;rw [List.range_succ];simp
theorem rowP_length (i k:Nat):(rowP i k).length=i:=by simp [rowP]
theorem rowP_get {i k n:Nat} (h:i<n):(rowP n k)[i]?=some (i,k):=by unfold rowP;simp [h]
theorem pairsL_get {n k i:Nat} (hk:k<n) (hi:i<k):(pairsL n)[(pairsL k).length+i]?=some (i,k):=by
 induction n with
 | zero=>omega
 | succ n ih =>
  rw [pairsL_succ]
  rcases Nat.lt_or_ge k n with h|h
  ·have:=ih h
   rw [List.getElem?_append_left (List.getElem?_eq_some_iff.1 this).1]
   exact this
  ·have e:k=n:=by omega
   subst e
   rw [List.getElem?_append_right (by omega),Nat.add_sub_cancel_left]
   exact rowP_get hi
theorem pairsL_mem {n i k:Nat}:(i,k)∈pairsL n↔i<k∧k<n:=by
 unfold pairsL
 simp only [List.mem_flatMap,List.mem_range,List.mem_map,Prod.mk.injEq]
 constructor
 ·rintro⟨a,ha,b,hb,rfl,rfl⟩;exact⟨hb,ha⟩
 ·rintro⟨h1,h2⟩;exact⟨k,h2,i,h1,rfl,rfl⟩
theorem pairsL_len (n:Nat):(pairsL n).length≤n * n:=by
 induction n with
 | zero=>simp [pairsL]
 | succ n ih =>
  rw [pairsL_succ,List.length_append,rowP_length]
  have:(n+1) * (n+1)=n * n+2 * n+1:=by rw [Nat.add_mul,Nat.mul_add];omega
  omega
def psum (f:Nat→Nat→Int) (ps:List (Nat × Nat)):Int:=ps.foldl (fun s p=>s+f p.1 p.2) 0
theorem psum_snoc (f:Nat→Nat→Int) (ps:List (Nat × Nat)) (p:Nat × Nat):psum f (ps++[p])=psum f ps+f p.1 p.2:=by unfold psum;rw [List.foldl_append];rfl
theorem psum_bd {f:Nat→Nat→Int} {M:Int} (hM:0≤M) (ps:List (Nat × Nat)) (h:∀ p∈ps,0≤f p.1 p.2∧f p.1 p.2≤M):0≤psum f ps∧psum f ps≤M * ps.length:=by
 have key:∀ (ps:List (Nat × Nat)) (s:Int),(∀ p∈ps,0≤f p.1 p.2∧f p.1 p.2≤M)→s≤ps.foldl (fun s p=>s+f p.1 p.2) s∧ps.foldl (fun s p=>s+f p.1 p.2) s≤s+M * ps.length:=by
  intro ps
  induction ps with
  | nil=>intro s _;simp
  | cons p ps ih =>
   intro s h
   have h1:=ih (s+f p.1 p.2) (fun q hq=>h q (List.mem_cons_of_mem _ hq))
   have h2:=h p (List.mem_cons_self ..)
   simp only [List.foldl_cons,List.length_cons]
   have:M * ((ps.length:Int)+1)=M * ps.length+M:=by rw [Int.mul_add,Int.mul_one]
   push_cast
   omega
 have:=key ps 0 h
 unfold psum
 omega
def badCol (l:List Tok) (b:List Bool):Bool:=(List.range l.length).any fun j=>thA b j && !decide (tokE (tkA l j)=0)
theorem badCol_true {l:List Tok} {b:List Bool} {j:Nat} (hj:j<l.length) (h1:thA b j=true) (h2:tokE (tkA l j)≠0):badCol l b=true:=by
 unfold badCol
 rw [List.any_eq_true]
 exact⟨j,List.mem_range.2 hj,by simp [h1,h2]⟩
theorem badCol_false {l:List Tok} {b:List Bool} (h:∀ j,j<l.length→thA b j=true→tokE (tkA l j)=0):badCol l b=false:=by
 unfold badCol
 rw [List.any_eq_false]
 intro j hj hh
 simp only [Bool.and_eq_true,Bool.not_eq_true',decide_eq_false_iff_not] at hh
 exact hh.2 (h j (List.mem_range.1 hj) hh.1)
def columnV (c:Costs) (l:List Tok) (b:List Bool):Int × Int :=
 if costE c≠0 then (0,1) else if l.length≠b.length then (0,9) else if 32<l.length then (0,4) else if badCol l b=true then (0,1) else (psum (cellC c l b) (pairsL l.length),0)
theorem cellC_bd {c:Costs} (hc:costE c=0) (l:List Tok) (b:List Bool) (i k:Nat):0≤cellC c l b i k∧cellC c l b i k≤1000:=by
 obtain⟨c1,c2,c3,c4,c5⟩:=costE_ok hc
 have h1:=pairC_bd hc (tkA l i) (tkA l k)
 have h2:=gapC_bd hc (tkA l i)
 have h3:=gapC_bd hc (tkA l k)
 unfold cellC
 (repeat' split) <;> omega
theorem psum_cell {c:Costs} (hc:costE c=0) (l:List Tok) (b:List Bool) (ps:List (Nat × Nat)):0≤psum (cellC c l b) ps∧psum (cellC c l b) ps≤1000 * ps.length:=psum_bd (by omega) ps fun p _=>cellC_bd hc l b p.1 p.2

def accC (f:Nat→Nat→Int) (i:Nat):Nat→Int
 | 0=>psum f (pairsL i)
 | k+1=>accC f i k+f k i
theorem accC_eq (f:Nat→Nat→Int) (i:Nat):∀ k,accC f i k=psum f (pairsL i++rowP k i)
 | 0=>by simp [accC,rowP]
 | k+1=>by rw [rowP_succ, ← List.append_assoc,psum_snoc, ← accC_eq f i k];rfl
theorem accC_all (f:Nat→Nat→Int) (i:Nat):accC f i i=psum f (pairsL (i+1)):=by rw [accC_eq,pairsL_succ]
theorem accC_bd {c:Costs} (hc:costE c=0) (l:List Tok) (b:List Bool) (i k:Nat) (hi:i≤32) (hk:k≤32):0≤accC (cellC c l b) i k∧accC (cellC c l b) i k≤2000000:=by
 have h1:=psum_cell hc l b (pairsL i++rowP k i)
 rw [← accC_eq,List.length_append,rowP_length] at h1
 have h2:=pairsL_len i
 have h3:i * i≤32 * 32:=Nat.mul_le_mul hi hi
 omega
end Go.Proofs.YtblnhdnogjijiaaGreatDoor
namespace Go.Proofs.YtblnhdnogjijiaaGreatDoor

theorem valV_put (f:Nat→Int) (tot k:Nat) (x:Int):(valV f tot).set k (.int .i64 x)=valV (fun q=>if q=k then x else f q) tot:=by
 apply List.ext_getElem?
 intro q
 rw [List.getElem?_set]
 by_cases hq:q<tot
 ·rw [valV_get hq,valV_get hq,valV_length]
  by_cases e:k=q
  ·rw [if_pos e,if_pos (by omega),if_pos e.symm]
  ·rw [if_neg e,if_neg (Ne.symm e)]
 ·rw [List.getElem?_eq_none (by rw [valV_length];omega),List.getElem?_eq_none (by rw [valV_length];omega),valV_length]
  split
  ·rw [if_neg (by omega)]
  ·rfl
theorem valV_ext {f g:Nat→Int} {tot:Nat} (h:∀ q,q<tot→f q=g q):valV f tot=valV g tot:=by
 unfold valV
 apply List.map_congr_left
 intro q hq
 rw [h q (List.mem_range.1 hq)]
theorem set_boundary {α:Type} (A:List α) (m k:Nat) (z x:α) (hm:0<m) (hk:k=A.length):(A++List.replicate m z).set k x=(A++[x])++List.replicate (m - 1) z:=by
 subst hk
 obtain⟨m,rfl⟩:∃ m',m=m'+1:=⟨m - 1,by omega⟩
 rw [List.set_append_right _ _ (Nat.le_refl _),Nat.sub_self,List.replicate_succ,List.set_cons_zero,Nat.add_sub_cancel]
 simp
def RowsOk (f:Nat→Nat→Int) (tot:Nat) (L:List (Nat × List Value)):Prop:=∀ (i:Nat) x,L[i]?=some x→x.2=valV (f i) tot
end Go.Proofs.YtblnhdnogjijiaaGreatDoor
namespace Go.Proofs.YtblnhdnogjijiaaGreatDoor

end Go.Proofs.YtblnhdnogjijiaaGreatDoor
namespace Go.Proofs.YtblnhdnogjijiaaGreatDoor

structure Grd where
 n:Nat
 m:Nat
 p:Nat→Nat→Int
 g:Nat→Int
 h:Nat→Int
structure Mv where
 fst:Nat
 snd:Nat
 cost:Int
@[reducible] def Mv.cells (x:Mv):List Value:=[.int .i64 (x.fst:Nat), .int .i64 (x.snd:Nat), .int .i64 x.cost]
def mvs (G:Grd) (i k:Nat):List Mv :=
 (if i<G.n∧k<G.m then [⟨1,1,G.p i k⟩] else [])++((if i<G.n then [⟨1,0,G.g i⟩] else [])++(if k<G.m then [⟨0,1,G.h k⟩] else []))
theorem mvs_both {G:Grd} {i k:Nat} (hi:i<G.n) (hk:k<G.m):mvs G i k=[⟨1,1,G.p i k⟩,⟨1,0,G.g i⟩,⟨0,1,G.h k⟩]:=by unfold mvs;rw [if_pos ⟨hi,hk⟩,if_pos hi,if_pos hk];rfl
theorem mvs_fst {G:Grd} {i k:Nat} (hi:i<G.n) (hk:¬ k<G.m):mvs G i k=[⟨1,0,G.g i⟩]:=by unfold mvs;rw [if_neg (fun h=>hk h.2),if_pos hi,if_neg hk];rfl
theorem mvs_snd {G:Grd} {i k:Nat} (hi:¬ i<G.n) (hk:k<G.m):mvs G i k=[⟨0,1,G.h k⟩]:=by unfold mvs;rw [if_neg (fun h=>hi h.1),if_neg hi,if_pos hk];rfl
theorem mvs_none {G:Grd} {i k:Nat} (hi:¬ i<G.n) (hk:¬ k<G.m):mvs G i k=[]:=by unfold mvs;rw [if_neg (fun h=>hi h.1),if_neg hi,if_neg hk];rfl
theorem mvs_to {G:Grd} {i k:Nat} {x:Mv} (h:x∈mvs G i k):(x.fst=1∧x.snd=1∧i<G.n∧k<G.m∧x.cost=G.p i k)∨(x.fst=1∧x.snd=0∧i<G.n∧x.cost=G.g i)∨(x.fst=0∧x.snd=1∧k<G.m∧x.cost=G.h k):=by
 unfold mvs at h
 simp only [List.mem_append] at h
 rcases h with h|h|h
 ·split at h
  ·rename_i hh;simp at h;subst h;exact .inl ⟨rfl,rfl,hh.1,hh.2,rfl⟩
  ·simp at h
 ·split at h
  ·rename_i hh;simp at h;subst h;exact .inr (.inl ⟨rfl,rfl,hh,rfl⟩)
  ·simp at h
 ·split at h
  ·rename_i hh;simp at h;subst h;exact .inr (.inr ⟨rfl,rfl,hh,rfl⟩)
  ·simp at h
def rst (G:Grd) (i k:Nat):Int :=
 if _:i<G.n∧k<G.m then min (min (G.p i k+rst G (i+1) (k+1)) (G.g i+rst G (i+1) k)) (G.h k+rst G i (k+1))
 else if _:i<G.n then G.g i+rst G (i+1) k
 else if _:k<G.m then G.h k+rst G i (k+1)
 else 0
termination_by (G.n - i)+(G.m - k)
theorem rst_both {G:Grd} {i k:Nat} (hi:i<G.n) (hk:k<G.m):rst G i k=min (min (G.p i k+rst G (i+1) (k+1)) (G.g i+rst G (i+1) k)) (G.h k+rst G i (k+1)):=by
 rw [rst,dif_pos ⟨hi,hk⟩]
theorem rst_fst {G:Grd} {i k:Nat} (hi:i<G.n) (hk:¬ k<G.m):rst G i k=G.g i+rst G (i+1) k:=by rw [rst,dif_neg (fun h=>hk h.2),dif_pos hi]
theorem rst_snd {G:Grd} {i k:Nat} (hi:¬ i<G.n) (hk:k<G.m):rst G i k=G.h k+rst G i (k+1):=by rw [rst,dif_neg (fun h=>hi h.1),dif_neg hi,dif_pos hk]
theorem rst_none {G:Grd} {i k:Nat} (hi:¬ i<G.n) (hk:¬ k<G.m):rst G i k=0:=by rw [rst,dif_neg (fun h=>hi h.1),dif_neg hi,dif_neg hk]
def via (G:Grd) (i k:Nat) (x:Mv):Int:=x.cost+rst G (i+x.fst) (k+x.snd)
def big:Int:=1073741824
def addW (t s x w:Int):Int:=if x=t then min big (s+w) else s
def wys (G:Grd) (i k:Nat):Int :=
 if _:i<G.n∧k<G.m then
  addW (rst G i k) (addW (rst G i k) (addW (rst G i k) 0 (G.p i k+rst G (i+1) (k+1)) (wys G (i+1) (k+1))) (G.g i+rst G (i+1) k) (wys G (i+1) k)) (G.h k+rst G i (k+1)) (wys G i (k+1))
 else if _:i<G.n then addW (rst G i k) 0 (G.g i+rst G (i+1) k) (wys G (i+1) k)
 else if _:k<G.m then addW (rst G i k) 0 (G.h k+rst G i (k+1)) (wys G i (k+1))
 else 1
termination_by (G.n - i)+(G.m - k)
theorem wys_both {G:Grd} {i k:Nat} (hi:i<G.n) (hk:k<G.m):wys G i k=addW (rst G i k) (addW (rst G i k) (addW (rst G i k) 0 (G.p i k+rst G (i+1) (k+1)) (wys G (i+1) (k+1))) (G.g i+rst G (i+1) k) (wys G (i+1) k)) (G.h k+rst G i (k+1)) (wys G i (k+1)):=by
 rw [wys,dif_pos ⟨hi,hk⟩]
theorem wys_fst {G:Grd} {i k:Nat} (hi:i<G.n) (hk:¬ k<G.m):wys G i k=addW (rst G i k) 0 (G.g i+rst G (i+1) k) (wys G (i+1) k):=by rw [wys,dif_neg (fun h=>hk h.2),dif_pos hi]
theorem wys_snd {G:Grd} {i k:Nat} (hi:¬ i<G.n) (hk:k<G.m):wys G i k=addW (rst G i k) 0 (G.h k+rst G i (k+1)) (wys G i (k+1)):=by rw [wys,dif_neg (fun h=>hi h.1),dif_neg hi,dif_pos hk]
theorem wys_none {G:Grd} {i k:Nat} (hi:¬ i<G.n) (hk:¬ k<G.m):wys G i k=1:=by rw [wys,dif_neg (fun h=>hi h.1),dif_neg hi,dif_neg hk]
theorem grd_ind (G:Grd) {P:Nat→Nat→Prop} (h:∀ i k,(i<G.n→P (i+1) k)→(k<G.m→P i (k+1))→(i<G.n→k<G.m→P (i+1) (k+1))→P i k) (i k:Nat):P i k:=by
 have key:∀ d i k,(G.n - i)+(G.m - k)≤d→P i k:=by
  intro d
  induction d with
  | zero=>intro i k hd;exact h i k (fun h=>by omega) (fun h=>by omega) (fun h=>by omega)
  | succ d ih=>intro i k hd;exact h i k (fun h=>ih _ _ (by omega)) (fun h=>ih _ _ (by omega)) (fun h h2=>ih _ _ (by omega))
 exact key _ i k (Nat.le_refl _)
structure GOk (G:Grd) (M:Int):Prop where
 p:∀ i k,0≤G.p i k∧G.p i k≤M
 g:∀ i,0≤G.g i∧G.g i≤M
 h:∀ k,0≤G.h k∧G.h k≤M
theorem rst_bd {G:Grd} {M:Int} (hG:GOk G M) (i k:Nat):0≤rst G i k∧rst G i k≤M * ((G.n - i:Nat)+(G.m - k:Nat):Nat):=by
 refine grd_ind G (P:=fun i k=>0≤rst G i k∧rst G i k≤M * ((G.n - i:Nat)+(G.m - k:Nat):Nat)) (fun i k h1 h2 h3=>?_) i k
 have m0:0≤M:=by have:=hG.g 0;omega
 have q1:=hG.p i k
 have q2:=hG.g i
 have q3:=hG.h k
 by_cases hi:i<G.n
 ·have e1:M * ((G.n - i:Nat)+(G.m - k:Nat):Nat)=M * ((G.n - (i+1):Nat)+(G.m - k:Nat):Nat)+M:=by
   rw [show (G.n - i)+(G.m - k)=(G.n - (i+1))+(G.m - k)+1 by omega];push_cast;rw [Int.mul_add];omega
  have r1:=h1 hi
  by_cases hk:k<G.m
  ·rw [rst_both hi hk]
   have r2:=h2 hk
   have r3:=h3 hi hk
   omega
  ·rw [rst_fst hi hk];omega
 ·by_cases hk:k<G.m
  ·have e1:M * ((G.n - i:Nat)+(G.m - k:Nat):Nat)=M * ((G.n - i:Nat)+(G.m - (k+1):Nat):Nat)+M:=by
    rw [show (G.n - i)+(G.m - k)=(G.n - i)+(G.m - (k+1))+1 by omega];push_cast;rw [Int.mul_add];omega
   have r2:=h2 hk
   rw [rst_snd hi hk];omega
  ·rw [rst_none hi hk]
   exact⟨Int.le_refl _,Int.mul_nonneg m0 (by omega)⟩
theorem wys_bd (G:Grd) (i k:Nat):1≤wys G i k∧wys G i k≤big:=by
 refine grd_ind G (P:=fun i k=>1≤wys G i k∧wys G i k≤big) (fun i k h1 h2 h3=>?_) i k
 by_cases hi:i<G.n
 ·have r1:=h1 hi
  by_cases hk:k<G.m
  ·have r2:=h2 hk
   have r3:=h3 hi hk
   rw [wys_both hi hk,rst_both hi hk]
   generalize G.p i k+rst G (i+1) (k+1)=x
   generalize G.g i+rst G (i+1) k=y
   generalize G.h k+rst G i (k+1)=z
   unfold addW big at *
   (repeat' split) <;> omega
  ·rw [wys_fst hi hk,rst_fst hi hk];unfold addW big at *;rw [if_pos rfl];omega
 ·by_cases hk:k<G.m
  ·have r2:=h2 hk
   rw [wys_snd hi hk,rst_snd hi hk];unfold addW big at *;rw [if_pos rfl];omega
  ·rw [wys_none hi hk];unfold big;omega
def stepW (G:Grd) (i k:Nat) (s:Int × Int) (j:Nat) (x:Mv):Int × Int :=
 if j=0∨via G i k x<s.1 then (via G i k x,wys G (i+x.fst) (k+x.snd))
 else if via G i k x=s.1 then (s.1,min (s.2+wys G (i+x.fst) (k+x.snd)) big) else s
def accW (G:Grd) (i k:Nat):Nat→Int × Int
 | 0=>(0,1)
 | j+1=>match (mvs G i k)[j]? with
  | some x=>stepW G i k (accW G i k j) j x
  | none=>accW G i k j
theorem stepW_fst (G:Grd) (i k:Nat) (s:Int × Int) (j:Nat) (x:Mv):(stepW G i k s j x).1=if j=0 then via G i k x else min s.1 (via G i k x):=by
 unfold stepW
 (repeat' split) <;> first|omega|(dsimp only;omega)
theorem stepW_snd (G:Grd) (i k:Nat) (s:Int × Int) (j:Nat) (x:Mv):(stepW G i k s j x).2=if j=0∨via G i k x<s.1 then wys G (i+x.fst) (k+x.snd) else if via G i k x=s.1 then min (s.2+wys G (i+x.fst) (k+x.snd)) big else s.2:=by
 unfold stepW
 (repeat' split) <;> rfl
theorem accW_all (G:Grd) (i k:Nat):accW G i k (mvs G i k).length=(rst G i k,wys G i k):=by
 by_cases hi:i<G.n
 ·have w1:=wys_bd G (i+1) k
  by_cases hk:k<G.m
  ·have w2:=wys_bd G i (k+1)
   have w3:=wys_bd G (i+1) (k+1)
   rw [mvs_both hi hk,rst_both hi hk,wys_both hi hk,rst_both hi hk]
   show accW G i k 3=_
   simp only [accW,mvs_both hi hk,List.getElem?_cons_zero,List.getElem?_cons_succ]
   refine Prod.ext ?_ ?_
   ·simp only [stepW_fst,via,Nat.add_zero,if_true,Nat.one_ne_zero,if_false,show ¬ (2:Nat)=0 by omega]
   ·simp only [stepW_snd,stepW_fst,via,Nat.add_zero,if_true,true_or,Nat.one_ne_zero,if_false,show ¬ (2:Nat)=0 by omega,false_or]
    generalize G.p i k+rst G (i+1) (k+1)=x
    generalize G.g i+rst G (i+1) k=y
    generalize G.h k+rst G i (k+1)=z
    generalize wys G (i+1) (k+1)=a at *
    generalize wys G (i+1) k=b at *
    generalize wys G i (k+1)=c at *
    unfold addW big at *
    (repeat' split) <;> omega
  ·rw [mvs_fst hi hk,rst_fst hi hk,wys_fst hi hk,rst_fst hi hk]
   show accW G i k 1=_
   simp only [accW,mvs_fst hi hk,List.getElem?_cons_zero,stepW,via,Nat.add_zero,true_or,if_true]
   unfold addW big at *
   rw [if_pos rfl]
   refine Prod.ext rfl ?_
   dsimp only;omega
 ·by_cases hk:k<G.m
  ·have w2:=wys_bd G i (k+1)
   rw [mvs_snd hi hk,rst_snd hi hk,wys_snd hi hk,rst_snd hi hk]
   show accW G i k 1=_
   simp only [accW,mvs_snd hi hk,List.getElem?_cons_zero,stepW,via,Nat.add_zero,true_or,if_true]
   unfold addW big at *
   rw [if_pos rfl]
   refine Prod.ext rfl ?_
   dsimp only;omega
  ·rw [mvs_none hi hk,rst_none hi hk,wys_none hi hk];rfl
def placesL (n m:Nat):List (Nat × Nat):=(List.range (n+1)).flatMap fun p=>(List.range (m+1)).map fun q=>(n - p,m - q)
theorem block_get {α:Type} (f:Nat→Nat→α) (M:Nat):∀ N,((List.range N).flatMap fun p=>(List.range M).map (f p)).length=N * M∧∀ p q,p<N→q<M→((List.range N).flatMap fun p=>(List.range M).map (f p))[p * M+q]?=some (f p q)
 | 0=>⟨by simp,fun p q h=>by omega⟩
 | N+1=>by
  obtain⟨h1,h2⟩:=block_get f M N
  rw [List.range_succ,List.flatMap_append]
  refine ⟨by rw [List.length_append,h1];simp [Nat.succ_mul],fun p q hp hq=>?_⟩
  rcases Nat.lt_or_ge p N with h|h
  ·have:=Nat.mul_le_mul_right M (show p+1≤N from h)
   rw [Nat.succ_mul] at this
   rw [List.getElem?_append_left (by omega)]
   exact h2 p q h hq
  ·obtain rfl:p=N:=by omega
   rw [List.getElem?_append_right (by omega),h1,Nat.add_sub_cancel_left]
   simp [hq]
theorem placesL_len (n m:Nat):(placesL n m).length=(n+1) * (m+1):=(block_get (fun p q=>(n - p,m - q)) (m+1) (n+1)).1
theorem placesL_get {n m p q:Nat} (hp:p≤n) (hq:q≤m):(placesL n m)[p * (m+1)+q]?=some (n - p,m - q):=(block_get (fun p q=>(n - p,m - q)) (m+1) (n+1)).2 p q (by omega) (by omega)
theorem placesL_at {n m j i k:Nat} (h:(placesL n m)[j]?=some (i,k)):∃ p q,p≤n∧q≤m∧j=p * (m+1)+q∧i=n - p∧k=m - q:=by
 have hj:=(List.getElem?_eq_some_iff.1 h).1
 rw [placesL_len] at hj
 have h1:j / (m+1)≤n:=by have:=Nat.div_lt_of_lt_mul (show j<(m+1) * (n+1) by rw [Nat.mul_comm];exact hj);omega
 have h2:j % (m+1)≤m:=by have:=Nat.mod_lt j (show 0<m+1 by omega);omega
 have e:j=j / (m+1) * (m+1)+j % (m+1):=by rw [Nat.mul_comm];exact (Nat.div_add_mod j (m+1)).symm
 refine ⟨j / (m+1),j % (m+1),h1,h2,e,?_⟩
 rw [e,placesL_get h1 h2] at h
 cases h
 exact⟨rfl,rfl⟩
theorem placesL_done {n m j i k i' k':Nat} (h:(placesL n m)[j]?=some (i,k)) (hi:i'≤n) (hk:k'≤m) (hlt:i<i'∨(i=i'∧k<k')):(i',k')∈(placesL n m).take j:=by
 obtain⟨p,q,hp,hq,rfl,rfl,rfl⟩:=placesL_at h
 have hg:=placesL_get (n:=n) (m:=m) (p:=n - i') (q:=m - k') (by omega) (by omega)
 rw [show n - (n - i')=i' by omega,show m - (m - k')=k' by omega] at hg
 refine List.mem_of_getElem? (i:=(n - i') * (m+1)+(m - k')) ?_
 rw [List.getElem?_take_of_lt,hg]
 rcases hlt with h1|⟨rfl,h1⟩
 ·have:=Nat.mul_le_mul_right (m+1) (show n - i'+1≤p by omega)
  rw [Nat.succ_mul] at this
  omega
 ·rw [show n - (n - p)=p by omega];omega
def soFar (n m j:Nat) (f:Nat→Nat→Int) (i k:Nat):Int:=if (i,k)∈(placesL n m).take j then f i k else 0
theorem soFar_zero (n m:Nat) (f:Nat→Nat→Int) (i:Nat):soFar n m 0 f i=fun _=>0:=by funext k;unfold soFar;simp
theorem soFar_step {n m j i k:Nat} (h:(placesL n m)[j]?=some (i,k)) (f:Nat→Nat→Int) (i' k':Nat):soFar n m (j+1) f i' k'=if i'=i∧k'=k then f i k else soFar n m j f i' k':=by
 unfold soFar
 rw [take_snoc _ _ _ h]
 by_cases e:i'=i∧k'=k
 ·obtain⟨rfl,rfl⟩:=e
  rw [if_pos (by simp),if_pos ⟨rfl,rfl⟩]
 ·rw [if_neg e]
  congr 1
  rw [List.mem_append,List.mem_singleton,Prod.mk.injEq]
  simp [e]
theorem soFar_all {n m j i k:Nat} (hj:(placesL n m).length≤j) (f:Nat→Nat→Int) (hi:i≤n) (hk:k≤m):soFar n m j f i k=f i k:=by
 unfold soFar
 rw [List.take_of_length_le hj,if_pos]
 have:=placesL_get (n:=n) (m:=m) (p:=n - i) (q:=m - k) (by omega) (by omega)
 rw [show n - (n - i)=i by omega,show m - (m - k)=k by omega] at this
 exact List.mem_of_getElem? this
theorem soFar_get {n m j i k i' k':Nat} (h:(placesL n m)[j]?=some (i,k)) (f:Nat→Nat→Int) (hi:i'≤n) (hk:k'≤m) (hlt:i<i'∨(i=i'∧k<k')):soFar n m j f i' k'=f i' k':=if_pos (placesL_done h hi hk hlt)
theorem rows_put {f g:Nat→Nat→Int} {tot i k gi:Nat} {x:Int} {ci:List Value} {M:List (Nat × List Value)} (hR:RowsOk f tot M) (hi:M[i]?=some (gi,ci)) (hg:∀ i' k',g i' k'=if i'=i∧k'=k then x else f i' k'):RowsOk g tot (M.set i (gi,ci.set k (.int .i64 x))):=by
 intro r y hy
 rw [List.getElem?_set] at hy
 by_cases h1:i=r
 ·subst h1
  rw [if_pos rfl,if_pos (List.getElem?_eq_some_iff.1 hi).1] at hy
  cases hy
  dsimp only
  rw [show ci=_ from hR _ _ hi,valV_put]
  refine valV_ext fun q _=>?_
  rw [hg]
  by_cases e:q=k
  ·rw [if_pos e,if_pos ⟨rfl,e⟩]
  ·rw [if_neg e,if_neg (fun h=>e h.2)]
 ·rw [if_neg h1] at hy
  rw [hR _ _ hy]
  refine valV_ext fun q _=>?_
  rw [hg,if_neg (fun h=>h1 h.1.symm)]
theorem accW_step {G:Grd} {i k j:Nat} {x:Mv} (h:(mvs G i k)[j]?=some x):accW G i k (j+1)=stepW G i k (accW G i k j) j x:=by
 simp only [accW,h]
theorem accW_bd (G:Grd) (i k:Nat):∀ j,0≤(accW G i k j).2∧(accW G i k j).2≤big
 | 0=>by simp [accW,big]
 | j+1=>by
  have ih:=accW_bd G i k j
  cases h:(mvs G i k)[j]? with
  | none=>simp only [accW,h];exact ih
  | some x =>
   rw [accW_step h,stepW_snd]
   have hw:=wys_bd G (i+x.fst) (k+x.snd)
   unfold big at *
   (repeat' split) <;> omega
theorem flat_get {α:Type} (cells:α→List Value) (sz:Nat) (hsz:∀ t,(cells t).length=sz):∀ {l:List α} {k:Nat} {x:α},l[k]?=some x→∀ (j:Nat) u,(cells x)[j]?=some u→(l.flatMap cells)[k * sz+j]?=some u
 | y::l,0,x,hx,j,u,hu=>by
  simp at hx;subst hx
  rw [List.flatMap_cons,Nat.zero_mul,Nat.zero_add,List.getElem?_append_left (List.getElem?_eq_some_iff.1 hu).1]
  exact hu
 | y::l,k+1,x,hx,j,u,hu=>by
  have ih:=flat_get cells sz hsz (l:=l) (k:=k) (by simpa using hx) j u hu
  rw [List.flatMap_cons,List.getElem?_append_right (by rw [hsz,Nat.succ_mul];omega),hsz]
  rw [show (k+1) * sz+j - sz=k * sz+j by rw [Nat.succ_mul];omega]
  exact ih
def tabR (n m:Nat) (f:Nat→Nat→Int):List (List Int):=(List.range (n+1)).map fun i=>(List.range (m+1)).map fun k=>f i k
theorem tabR_get {n m i:Nat} {f:Nat→Nat→Int} (h:i≤n):(tabR n m f)[i]?=some ((List.range (m+1)).map fun k=>f i k):=by unfold tabR;rw [List.getElem?_map,List.getElem?_range (by omega)];rfl
theorem tabR_cell {m k:Nat} {g:Nat→Int} (h:k≤m):((List.range (m+1)).map g)[k]?=some (g k):=by rw [List.getElem?_map,List.getElem?_range (by omega)];rfl
theorem tabR_length (n m:Nat) (f:Nat→Nat→Int):(tabR n m f).length=n+1:=by simp [tabR]
end Go.Proofs.YtblnhdnogjijiaaGreatDoor
namespace Go.Proofs.YtblnhdnogjijiaaGreatDoor

end Go.Proofs.YtblnhdnogjijiaaGreatDoor
namespace Go.Proofs.YtblnhdnogjijiaaGreatDoor
open Go.RowKit Go.Shelf Go.Proofs
set_option maxRecDepth 100000
set_option maxHeartbeats 1000000

theorem pairs_spec (n:Nat) (w:World):Spec Tryz.prog 202 [.int .i64 n] w (fun v A=>∃ b:Nat,True∧v = .func (.func 236) #[] #[.pointer (some ⟨b,0,none⟩)]∧A=[blk b [.int .i64 n] 3]):=by
 refine spec_of sg Tryz.func202 rfl rfl rfl ?_
 repeat' (first|(show T _ (.ops _ (⟨_, .box _ _,_,_,_,_⟩::_)::_) _ _ _;refine T_op (OpT.box (cs:=[.int .i64 n]) rfl rfl rfl rfl rfl rfl rfl (fun _=>?_)))|refine d1 ?_|(show T _ (.code .ret::_) _ _ _;refine T_retV _ rfl (Hle.refl _) ⟨_,trivial,rfl,rfl⟩))
def pairVs (n:Nat):List (List Value):=(pairsL n).map fun p=>[.int .i64 p.1, .int .i64 p.2]
theorem pairs_iter (n:Nat) (b:Nat) (hn:n≤65536):Iter Tryz.prog 236 [] [.pointer (some ⟨b,0,none⟩)] [blk b [.int .i64 n] 3] (pairVs n):=by
 refine iter_of sg Tryz.func236 rfl rfl rfl ?_
 intro w0 l GQ X Hj hY h0
 show T _ _ _ _ (blk b [.int .i64 n] 3::Hj)
 repeat' (first|refine d1 ?_|fail)
 refine T_loopX (fun x:Nat × List HA=>[(6, .int .i64 x.1)]) (fun x=>blk b [.int .i64 n] 3::x.2) (fun x=>x.1≤n∧GQ (pairsL x.1).length x.2) (fun x=>n - x.1) (0,Hj) ⟨Nat.zero_le _,h0⟩ ?_
 rintro⟨k,H1⟩ ⟨hk,hG⟩
 dsimp only at hk hG ⊢
 repeat' (first|refine d1 ?_|fail)
 refine T_if rfl (fun h=>?_) (fun h=>?_)
 ·simp only [decide_eq_true_eq] at h
  repeat' (first|refine d1 ?_|fail)
  refine T_loopX (fun x:Nat × List HA=>[(10, .int .i64 x.1)]) (fun x=>blk b [.int .i64 n] 3::x.2) (fun x=>x.1≤k∧GQ ((pairsL k).length+x.1) x.2) (fun x=>k - x.1) (0,H1) ⟨Nat.zero_le _,hG⟩ ?_
  rintro⟨i,H2⟩ ⟨hi,hG2⟩
  dsimp only at hi hG2 ⊢
  repeat' (first|refine d1 ?_|fail)
  refine T_if rfl (fun h1=>?_) (fun h1=>?_)
  ·simp only [decide_eq_true_eq] at h1
   have hy:(pairVs n)[(pairsL k).length+i]?=some [.int .i64 (i:Nat), .int .i64 (k:Nat)]:=by
    unfold pairVs;rw [List.getElem?_map,pairsL_get (by omega) (by omega)];rfl
   repeat' (first|refine d1 ?_|fail)
   refine T_yield (K:=[blk b [.int .i64 n] 3]) hY rfl rfl rfl rfl hy hG2 (Hle.comm [_] H2) (fun J=>Hle.comm J [_]) (fun H3 hG3=>?_) (fun Y hX=>?_)
   ·show T _ _ _ _ (blk b [.int .i64 n] 3::H3)
    repeat' (first|refine d1 ?_|(show T _ (.code (.cond _ _ _)::_) _ _ _;refine T_if rfl (fun h=>?_) (fun h=>?_)))
    ·exact absurd h (by decide)
    ·exact T_backX (i+1,H3) ⟨by dsimp only;omega,hG3⟩ (by dsimp only;omega)
   ·show T _ _ _ _ (blk b [.int .i64 n] 3::Y)
    repeat' (first|refine d1 ?_|(show T _ (.code (.cond _ _ _)::_) _ _ _;refine T_if rfl (fun h=>?_) (fun h=>?_))|(show T _ (.code .ret::_) _ _ _;refine T_istop rfl Y hX (Hle.refl _)))
    exact absurd h (by decide)
  ·simp only [decide_eq_false_iff_not] at h1
   have hik:i=k:=by omega
   subst hik
   repeat' (first|refine d1 ?_|fail)
   refine T_backX (i+1,H2) ⟨by dsimp only;omega,?_⟩ (by dsimp only;omega)
   dsimp only
   rw [pairsL_succ,List.length_append,rowP_length]
   exact hG2
 ·simp only [decide_eq_false_iff_not] at h
  have hkn:k=n:=by omega
  subst hkn
  skip
  refine T_ifall rfl H1 ?_ (Hle.refl _)
  unfold pairVs;rw [List.length_map];exact hG

theorem columnPrg_spec (c:Costs) (A B:Option Addr) (n m ca cb:Nat) (l:List Tok) (b:List Bool) (w:World) (hst:Std w) (hl:Src w 6 A n (l.flatMap Tok.cells)) (hn:l.length=n) (hnb:n≤9223372036854775807)
  (hb:Src w 1 B m (b.map Value.bool)) (hm:b.length=m) (hmb:m≤9223372036854775807) (hsm:∀ t∈l,t.small) :
  Spec Tryz.prog 155 [c.val, .slice A n ca, .slice B m cb] w (fun v A=>v = .tuple #[.int .i64 (columnV c l b).1, .int .i64 (columnV c l b).2]∧A=[]):=by
 refine spec_of sg Tryz.func155 rfl rfl rfl ?_
 refine T_op (OpT.box (cs:=c.cells) rfl rfl rfl rfl rfl rfl rfl (fun pc=>?_))
 refine T_op (OpT.box (cs:=[.slice A n ca]) rfl rfl rfl rfl rfl rfl rfl (fun pl=>?_))
 refine T_op (OpT.box (cs:=[.slice B m cb]) rfl rfl rfl rfl rfl rfl rfl (fun pb=>?_))
 repeat' (first|refine d1 ?_|(show T _ (.ops _ (_::_)::_) _ _ _;refine T_call rfl rfl rfl rfl rfl (fun w hw=>costPrg_spec c w) ?_)|fail)
 refine T_if rfl (fun h=>?_) (fun h=>?_)
 ·simp only [Bool.not_eq_true',decide_eq_false_iff_not] at h
  repeat' (first|refine d1 ?_|(show T _ (.code .ret::_) _ _ _;refine T_retV [] rfl (Hle.none _) ⟨?_,rfl⟩))
  unfold columnV;rw [if_pos h];rfl
 simp only [Bool.not_eq_false',decide_eq_true_eq] at h
 repeat' (first|refine d1 ?_|fail)
 refine T_if rfl (fun h1=>?_) (fun h1=>?_)
 ·simp only [Bool.not_eq_true',decide_eq_false_iff_not] at h1
  repeat' (first|refine d1 ?_|(show T _ (.code .ret::_) _ _ _;refine T_retV [] rfl (Hle.none _) ⟨?_,rfl⟩))
  unfold columnV;rw [if_neg (by omega),if_pos (by omega)];rfl
 simp only [Bool.not_eq_false',decide_eq_true_eq] at h1
 repeat' (first|refine d1 ?_|fail)
 refine T_if rfl (fun h2=>?_) (fun h2=>?_)
 ·simp only [decide_eq_true_eq] at h2
  repeat' (first|refine d1 ?_|(show T _ (.code .ret::_) _ _ _;refine T_retV [] rfl (Hle.none _) ⟨?_,rfl⟩))
  unfold columnV;rw [if_neg (by omega),if_neg (by omega),if_pos (by omega)];rfl
 simp only [decide_eq_false_iff_not] at h2
 repeat' (first|refine d1 ?_|fail)
 refine T_loopX (fun k:Nat=>[(26, .int .i64 k)]) (fun _=>[blk pb [.slice B m cb] 186,blk pl [.slice A n ca] 38,blk pc c.cells 23]) (fun k=>k≤n∧∀ j,j<k→thA b j=true→tokE (tkA l j)=0) (fun k=>n - k) 0 ⟨by omega,fun j h=>by omega⟩ ?_
 rintro k ⟨hk,hok⟩
 repeat' (first|refine d1 ?_|fail)
 refine T_if rfl (fun h3=>?_) (fun h3=>?_)
 ·simp only [decide_eq_true_eq] at h3
  have hkn:k<n:=by omega
  obtain⟨ba,oa,rfl⟩:=hl.base (by omega)
  obtain⟨bb,ob,rfl⟩:=hb.base (by omega)
  have hx:=tkA_get (l:=l) (i:=k) (by omega)
  have hr1:RdC w ba (oa+(k:Int).toNat * 6) (tkA l k).cells:=hl.getT hkn hx
  have hr2:RdC w bb (ob+(k:Int).toNat * 1) [.bool (thA b k)]:=(hb.get1 (by omega) (by rw [List.getElem?_map,thA_get (by omega)];rfl)).2
  repeat' (first|refine d1 ?_|(show T _ (.ops _ (_::_)::_) _ _ _;refine T_callC rfl rfl rfl rfl rfl rfl rfl (fun hg w hw=>tokPrg_spec (tkA l k) (hsm _ (tkA_mem (by omega))) w (hst.cls hw)) ?_)|(show ∀ _:Nat,T _ _ _ _ _;intro _))
  refine T_if rfl (fun h4=>?_) (fun h4=>?_)
  ·simp only [Bool.and_eq_true,Bool.not_eq_true',decide_eq_false_iff_not] at h4
   repeat' (first|refine d1 ?_|(show T _ (.code .ret::_) _ _ _;refine T_retV [] rfl (Hle.none _) ⟨?_,rfl⟩))
   unfold columnV;rw [if_neg (by omega),if_neg (by omega),if_neg (by omega),if_pos (badCol_true (by omega) h4.1 h4.2)];rfl
  ·repeat' (first|refine d1 ?_|fail)
   refine T_backX (k+1) ⟨by omega,fun j hj ht=>?_⟩ (by omega) (hG:=Hle.tail _ _)
   rcases Nat.lt_or_ge j k with h5|h5
   ·exact hok j h5 ht
   ·rw [show j=k by omega] at ht ⊢
    rw [ht] at h4
    simpa using h4
 ·simp only [decide_eq_false_iff_not] at h3
  have hkn:k=n:=by omega
  subst hkn
  have hbad:=badCol_false (l:=l) (b:=b) (fun j hj ht=>hok j (by omega) ht)
  have hcv:columnV c l b=(psum (cellC c l b) (pairsL l.length),0):=by unfold columnV;rw [if_neg (by omega),if_neg (by omega),if_neg (by omega),if_neg (by rw [hbad];simp)]
  repeat' (first|refine d1 ?_|(show T _ (.ops _ (_::_)::_) _ _ _;refine T_callE rfl rfl rfl rfl rfl (fun w hw=>pairs_spec k w) (fun g _=>?_))|(show ∀ _:Nat,T _ _ _ _ _;intro _))
  rename_i ps _
  have hps:∀ (j:Nat) (y:List Value),(pairVs k)[j]?=some y→∃ p,(pairsL k)[j]?=some p∧y=[.int .i64 (p.1:Nat), .int .i64 (p.2:Nat)]:=by
   intro j y hy
   unfold pairVs at hy
   rw [List.getElem?_map] at hy
   cases hp:(pairsL k)[j]? with
   | none=>rw [hp] at hy;cases hy
   | some p=>rw [hp] at hy;exact⟨p,rfl,(Option.some.inj hy).symm⟩
  refine T_range (pairs_iter k g (by omega)) rfl (fun j y hy=>by obtain⟨p,_,rfl⟩:=hps j y hy;exact⟨rfl,rfl⟩)
   (fun j H=>H=[blk ps [.int .i64 (psum (cellC c l b) ((pairsL k).take j))] 3,blk pb [.slice B m cb] 186,blk pl [.slice A k ca] 38,blk pc c.cells 23]) (fun _=>False) (fun _ _=>False)
   [blk ps [.int .i64 0] 3,blk pb [.slice B m cb] 186,blk pl [.slice A k ca] 38,blk pc c.cells 23] rfl (Hle.refl _) ?_ ?_ (fun _ _ h=>h.elim) (fun _ _ _ h=>h.elim)
  ·rintro L r j y Hj K hr hy rfl
   obtain⟨⟨i,q⟩,hp,rfl⟩:=hps j y hy
   have hmem:=pairsL_mem.1 (List.mem_of_getElem? hp)
   have hlen:=pairsL_len k
   have hjl:j<(pairsL k).length:=(List.getElem?_eq_some_iff.1 hp).1
   have h9:k * k≤32 * 32:=Nat.mul_le_mul (by omega) (by omega)
   have hsum:=psum_cell h l b ((pairsL k).take j)
   have hcell:=cellC_bd h l b i q
   rw [List.length_take] at hsum
   have hnext:psum (cellC c l b) ((pairsL k).take (j+1))=psum (cellC c l b) ((pairsL k).take j)+cellC c l b i q:=by
    rw [take_snoc _ _ _ hp,psum_snoc]
   obtain⟨ba,oa,rfl⟩:=hl.base (by omega)
   obtain⟨bb,ob,rfl⟩:=hb.base (by omega)
   have hr1:RdC w ba (oa+(i:Int).toNat * 6) (tkA l i).cells:=hl.getT (by omega) (tkA_get (by omega))
   have hr2:RdC w ba (oa+(q:Int).toNat * 6) (tkA l q).cells:=hl.getT (by omega) (tkA_get (by omega))
   have hr3:RdC w bb (ob+(i:Int).toNat * 1) [.bool (thA b i)]:=(hb.get1 (by omega) (by rw [List.getElem?_map,thA_get (by omega)];rfl)).2
   have hr4:RdC w bb (ob+(q:Int).toNat * 1) [.bool (thA b q)]:=(hb.get1 (by omega) (by rw [List.getElem?_map,thA_get (by omega)];rfl)).2
   show T _ _ ((45, .int .i64 (q:Nat))::(44, .int .i64 (i:Nat))::_) _ (lrec L r::blk ps [.int .i64 (psum (cellC c l b) ((pairsL k).take j))] 3::blk pb [.slice _ m cb] 186::blk pl [.slice _ k ca] 38::blk pc c.cells 23::K)
   repeat' (first|refine d1 ?_|(show T _ _ _ _ _;refine T_begin hr rfl ?_))
   have hnorm:(tkA l i).norm.size≤65536∧(tkA l q).norm.size≤65536:=⟨(hsm _ (tkA_mem (by omega))).2.1,(hsm _ (tkA_mem (by omega))).2.1⟩
   refine T_if rfl (fun h5=>?_) (fun h5=>?_)
   ·have h6:=h5
    simp only [Bool.and_eq_true] at h6
    have k1:=tokE_ok (hok i (by omega) h6.1)
    have k2:=tokE_ok (hok q (by omega) h6.2)
    have e:cellC c l b i q=pairC c (tkA l i) (tkA l q):=by unfold cellC;rw [if_pos h5]
    rw [e] at hcell hnext
    repeat' (first|refine dd ?_|(show T _ (.run _ _ (_::_) _ _::_) _ _ _;refine rc rfl rfl rfl rfl rfl rfl rfl (fun w hw=>pairPrg_spec c (tkA l i) (tkA l q) h k1.1 k2.1 (by omega) (by omega) w) ?_)|fail)
    refine T_next _ rfl ?_
    rw [hnext]
    exact Hle.refl _
   ·repeat' (first|refine d1 ?_|fail)
    refine T_if rfl (fun h6=>?_) (fun h6=>?_)
    ·have k1:=tokE_ok (hok i (by omega) h6)
     have e:cellC c l b i q=gapC c (tkA l i):=by unfold cellC;rw [if_neg (by rw [h5];simp),if_pos h6]
     rw [e] at hcell hnext
     repeat' (first|refine dd ?_|(show T _ (.run _ _ (_::_) _ _::_) _ _ _;refine rc rfl rfl rfl rfl rfl rfl rfl (fun w hw=>gapPrgC_spec c (tkA l i) (costE_ok h).1 k1.1 w) ?_)|fail)
     refine T_next _ rfl ?_
     rw [hnext]
     exact Hle.refl _
    ·repeat' (first|refine d1 ?_|fail)
     refine T_if rfl (fun h7=>?_) (fun h7=>?_)
     ·have k2:=tokE_ok (hok q (by omega) h7)
      have e:cellC c l b i q=gapC c (tkA l q):=by unfold cellC;rw [if_neg (by rw [h5];simp),if_neg (by rw [h6];simp),if_pos h7]
      rw [e] at hcell hnext
      repeat' (first|refine dd ?_|(show T _ (.run _ _ (_::_) _ _::_) _ _ _;refine rc rfl rfl rfl rfl rfl rfl rfl (fun w hw=>gapPrgC_spec c (tkA l q) (costE_ok h).1 k2.1 w) ?_)|fail)
      refine T_next _ rfl ?_
      rw [hnext]
      exact Hle.refl _
     ·have e:cellC c l b i q=0:=by unfold cellC;rw [if_neg (by rw [h5];simp),if_neg (by rw [h6];simp),if_neg (by rw [h7];simp)]
      rw [e,Int.add_zero] at hnext
      skip
      refine T_next _ rfl ?_
      rw [hnext]
      exact Hle.refl _
  ·rintro D Hn rfl
   show T _ _ _ _ (dfr D::blk g [.int .i64 k] 3::blk ps _ 3::_)
   have e:psum (cellC c l b) ((pairsL k).take (pairVs k).length)=(columnV c l b).1:=by
    rw [hcv,show (pairVs k).length=(pairsL k).length by unfold pairVs;rw [List.length_map],List.take_length,hn]
   rw [e]
   repeat' (first|refine d1 ?_|(show T _ (.code .ret::_) _ _ _;refine T_retD (Hle.refl _) (rf_V (vs:=[.int .i64 (columnV c l b).1, .int .i64 0]) [] rfl (Hle.none _) ⟨?_,rfl⟩)))
   rw [hcv];rfl

theorem columnRef_spec (c:Costs) (A B:Option Addr) (n m ca cb:Nat) (l:List Tok) (b:List Bool) (w:World) (hl:Src w 6 A n (l.flatMap Tok.cells)) (hn:l.length=n) (hnb:n≤9223372036854775807)
  (hb:Src w 1 B m (b.map Value.bool)) (hm:b.length=m) (hmb:m≤9223372036854775807) :
  Spec Tryz.prog 177 [c.val, .slice A n ca, .slice B m cb] w (fun v A=>v = .tuple #[.int .i64 (columnV c l b).1, .int .i64 (columnV c l b).2]∧A=[]):=by
 refine spec_of sg Tryz.func177 rfl rfl rfl ?_
 refine T_op (OpT.box (cs:=c.cells) rfl rfl rfl rfl rfl rfl rfl (fun pc=>?_))
 repeat' (first|refine d1 ?_|(show T _ (.ops _ (_::_)::_) _ _ _;refine T_call rfl rfl rfl rfl rfl (fun w hw=>costRef_spec c w) ?_)|fail)
 refine T_if rfl (fun h=>?_) (fun h=>?_)
 ·simp only [Bool.not_eq_true',decide_eq_false_iff_not] at h
  repeat' (first|refine d1 ?_|(show T _ (.code .ret::_) _ _ _;refine T_retV [] rfl (Hle.none _) ⟨?_,rfl⟩))
  unfold columnV;rw [if_pos h];rfl
 simp only [Bool.not_eq_false',decide_eq_true_eq] at h
 repeat' (first|refine d1 ?_|fail)
 refine T_if rfl (fun h1=>?_) (fun h1=>?_)
 ·simp only [Bool.not_eq_true',decide_eq_false_iff_not] at h1
  repeat' (first|refine d1 ?_|(show T _ (.code .ret::_) _ _ _;refine T_retV [] rfl (Hle.none _) ⟨?_,rfl⟩))
  unfold columnV;rw [if_neg (by omega),if_pos (by omega)];rfl
 simp only [Bool.not_eq_false',decide_eq_true_eq] at h1
 repeat' (first|refine d1 ?_|fail)
 refine T_if rfl (fun h2=>?_) (fun h2=>?_)
 ·simp only [decide_eq_true_eq] at h2
  repeat' (first|refine d1 ?_|(show T _ (.code .ret::_) _ _ _;refine T_retV [] rfl (Hle.none _) ⟨?_,rfl⟩))
  unfold columnV;rw [if_neg (by omega),if_neg (by omega),if_pos (by omega)];rfl
 simp only [decide_eq_false_iff_not] at h2
 repeat' (first|refine d1 ?_|fail)
 refine T_loopX (fun k:Nat=>[(8, .int .i64 k)]) (fun _=>[blk pc c.cells 23]) (fun k=>k≤n∧∀ j,j<k→thA b j=true→tokE (tkA l j)=0) (fun k=>n - k) 0 ⟨by omega,fun j h=>by omega⟩ ?_
 rintro k ⟨hk,hok⟩
 repeat' (first|refine d1 ?_|fail)
 refine T_if rfl (fun h3=>?_) (fun h3=>?_)
 ·simp only [decide_eq_true_eq] at h3
  have hkn:k<n:=by omega
  obtain⟨ba,oa,rfl⟩:=hl.base (by omega)
  obtain⟨bb,ob,rfl⟩:=hb.base (by omega)
  have hr1:RdC w ba (oa+(k:Int).toNat * 6) (tkA l k).cells:=hl.getT hkn (tkA_get (by omega))
  have hr2:RdC w bb (ob+(k:Int).toNat * 1) [.bool (thA b k)]:=(hb.get1 (by omega) (by rw [List.getElem?_map,thA_get (by omega)];rfl)).2
  repeat' (first|refine d1 ?_|(show T _ (.ops _ (_::_)::_) _ _ _;refine T_callC rfl rfl rfl rfl rfl rfl rfl (fun hg w hw=>tokRef_spec (tkA l k) w) ?_)|fail)
  refine T_if rfl (fun h4=>?_) (fun h4=>?_)
  ·simp only [Bool.and_eq_true,Bool.not_eq_true',decide_eq_false_iff_not] at h4
   repeat' (first|refine d1 ?_|(show T _ (.code .ret::_) _ _ _;refine T_retV [] rfl (Hle.none _) ⟨?_,rfl⟩))
   unfold columnV;rw [if_neg (by omega),if_neg (by omega),if_neg (by omega),if_pos (badCol_true (by omega) h4.1 h4.2)];rfl
  ·repeat' (first|refine d1 ?_|fail)
   refine T_backX (k+1) ⟨by omega,fun j hj ht=>?_⟩ (by omega)
   rcases Nat.lt_or_ge j k with h5|h5
   ·exact hok j h5 ht
   ·rw [show j=k by omega] at ht ⊢
    rw [ht] at h4
    simpa using h4
 ·simp only [decide_eq_false_iff_not] at h3
  have hkn:k=n:=by omega
  subst hkn
  have hbad:=badCol_false (l:=l) (b:=b) (fun j hj ht=>hok j (by omega) ht)
  have hcv:columnV c l b=(psum (cellC c l b) (pairsL l.length),0):=by unfold columnV;rw [if_neg (by omega),if_neg (by omega),if_neg (by omega),if_neg (by rw [hbad];simp)]
  have ck:=costE_ok h
  repeat' (first|refine d1 ?_|fail)
  refine T_loopX (fun i:Nat=>[(10, .int .i64 i),(9, .int .i64 (psum (cellC c l b) (pairsL i)))]) (fun _=>[blk pc c.cells 23]) (fun i=>i≤k) (fun i=>k - i) 0 (Nat.zero_le _) ?_
  intro i hi
  repeat' (first|refine d1 ?_|fail)
  refine T_if rfl (fun h4=>?_) (fun h4=>?_)
  ·simp only [decide_eq_true_eq] at h4
   obtain⟨ba,oa,rfl⟩:=hl.base (by omega)
   obtain⟨bb,ob,rfl⟩:=hb.base (by omega)
   have hr1:RdC w ba (oa+(i:Int).toNat * 6) (tkA l i).cells:=hl.getT (by omega) (tkA_get (by omega))
   have hr3:RdC w bb (ob+(i:Int).toNat * 1) [.bool (thA b i)]:=(hb.get1 (by omega) (by rw [List.getElem?_map,thA_get (by omega)];rfl)).2
   have ht1:tokE (tkA l i)=0→tkA l i=tkA l i:=fun _=>rfl
   repeat' (first|refine d1 ?_|fail)
   refine T_loopX (fun q:Nat=>[(11, .int .i64 q),(9, .int .i64 (accC (cellC c l b) i q))]) (fun _=>[blk pc c.cells 23]) (fun q=>q≤i) (fun q=>i - q) 0 (Nat.zero_le _) ?_
   intro q hq
   repeat' (first|refine d1 ?_|fail)
   refine T_if rfl (fun h5=>?_) (fun h5=>?_)
   ·simp only [decide_eq_true_eq] at h5
    have hr2:RdC w ba (oa+(q:Int).toNat * 6) (tkA l q).cells:=hl.getT (by omega) (tkA_get (by omega))
    have hr4:RdC w bb (ob+(q:Int).toNat * 1) [.bool (thA b q)]:=(hb.get1 (by omega) (by rw [List.getElem?_map,thA_get (by omega)];rfl)).2
    have hcell:=cellC_bd h l b q i
    have hacc:=accC_bd h l b i q (by omega) (by omega)
    have hnext:accC (cellC c l b) i (q+1)=accC (cellC c l b) i q+cellC c l b q i:=rfl
    repeat' (first|refine d1 ?_|fail)
    refine T_if rfl (fun h6=>?_) (fun h6=>?_)
    ·have h7:=h6
     simp only [Bool.and_eq_true] at h7
     have k1:=tokE_ok (hok i (by omega) h7.1)
     have k2:=tokE_ok (hok q (by omega) h7.2)
     have e:cellC c l b q i=pairC c (tkA l q) (tkA l i):=by unfold cellC;rw [if_pos (by rw [h7.1,h7.2];rfl)]
     rw [e] at hcell hnext
     repeat' (first|refine d1 ?_|refine dd ?_|(show T _ (.run _ _ (_::_) _ _::_) _ _ _;refine rc rfl rfl rfl rfl rfl rfl rfl (fun w hw=>pairRefC_spec c (tkA l q) (tkA l i) h k2.1 k1.1 (by omega) (by omega) w) ?_)|fail)
     exact T_backX (q+1) (by omega) (by omega) (hE:=⟨rfl,by rw [hnext];rfl,trivial⟩)
    ·repeat' (first|refine d1 ?_|fail)
     refine T_if rfl (fun h7=>?_) (fun h7=>?_)
     ·have k1:=tokE_ok (hok i (by omega) h7)
      rw [h7,Bool.true_and] at h6
      have e:cellC c l b q i=gapC c (tkA l i):=by unfold cellC;rw [h6,h7];rfl
      rw [e] at hcell hnext
      repeat' (first|refine d1 ?_|refine dd ?_|(show T _ (.run _ _ (_::_) _ _::_) _ _ _;refine rc rfl rfl rfl rfl rfl rfl rfl (fun w hw=>gapRefC_spec c (tkA l i) ck.1 k1.1 w) ?_)|fail)
      exact T_backX (q+1) (by omega) (by omega) (hE:=⟨rfl,by rw [hnext];rfl,trivial⟩)
     ·repeat' (first|refine d1 ?_|fail)
      refine T_if rfl (fun h8=>?_) (fun h8=>?_)
      ·have k2:=tokE_ok (hok q (by omega) h8)
       have e:cellC c l b q i=gapC c (tkA l q):=by unfold cellC;rw [h7,h8];rfl
       rw [e] at hcell hnext
       repeat' (first|refine d1 ?_|refine dd ?_|(show T _ (.run _ _ (_::_) _ _::_) _ _ _;refine rc rfl rfl rfl rfl rfl rfl rfl (fun w hw=>gapRefC_spec c (tkA l q) ck.1 k2.1 w) ?_)|fail)
       exact T_backX (q+1) (by omega) (by omega) (hE:=⟨rfl,by rw [hnext];rfl,trivial⟩)
      ·have e:cellC c l b q i=0:=by unfold cellC;rw [h7,h8];rfl
       rw [e,Int.add_zero] at hnext
       repeat' (first|refine d1 ?_|fail)
       exact T_backX (q+1) (by omega) (by omega) (hE:=⟨rfl,by rw [hnext];rfl,trivial⟩)
   ·simp only [decide_eq_false_iff_not] at h5
    have hqi:q=i:=by omega
    subst hqi
    repeat' (first|refine d1 ?_|fail)
    exact T_backX (q+1) (by omega) (by omega) (hE:=⟨rfl,by rw [← accC_all];rfl,trivial⟩)
  ·simp only [decide_eq_false_iff_not] at h4
   have hik:i=k:=by omega
   subst hik
   repeat' (first|refine d1 ?_|(show T _ (.code .ret::_) _ _ _;refine T_retV [] rfl (Hle.none _) ⟨?_,rfl⟩))
   rw [hcv,hn];rfl
end Go.Proofs.YtblnhdnogjijiaaGreatDoor
namespace Go.Proofs.YtblnhdnogjijiaaGreatDoor
open Go.RowKit Go.Shelf Go.Proofs
set_option maxRecDepth 100000
set_option maxHeartbeats 1000000

def hdr (n:Nat) (x:Nat × List Value):Value := .slice (some ⟨x.1,0,none⟩) n (n+1)
end Go.Proofs.YtblnhdnogjijiaaGreatDoor
namespace Go.Proofs.YtblnhdnogjijiaaGreatDoor

end Go.Proofs.YtblnhdnogjijiaaGreatDoor
namespace Go.Proofs.YtblnhdnogjijiaaGreatDoor

theorem Rd.ints {w:World} {x:Value} {p:List Int} (h:Rd (wr w) [x] [intsD p]):∃ A cap,x = .slice A p.length cap∧p.length≤9223372036854775807∧Src w 1 A p.length (p.map (Value.int .i64)):=by
 have h':Rd (wr w) [x] [.s 1 ((p.map (Value.int .i64)).map .v)]:=by rw [List.map_map];exact h
 obtain⟨A,n,cap,rfl,h1,h2,h3,h4⟩:=h'.srcV
 have e:n=p.length:=by simpa using h1.symm
 subst e
 exact⟨A,cap,rfl,by omega,h4⟩
theorem list_eq_of {α:Type} {p q:List α} (hl:p.length=q.length) (h:∀ j,j<p.length→p[j]?=q[j]?):p=q :=
 List.ext_getElem? fun j=>by
  rcases Nat.lt_or_ge j p.length with h1|h1
  ·exact h j h1
  ·rw [List.getElem?_eq_none h1,List.getElem?_eq_none (by omega)]
end Go.Proofs.YtblnhdnogjijiaaGreatDoor
namespace Go.Proofs.YtblnhdnogjijiaaGreatDoor
open Go.RowKit Go.Shelf Go.Proofs
set_option maxRecDepth 100000
set_option maxHeartbeats 1000000

def grdOf (c:Costs) (a b:List Tok):Grd:=⟨a.length,b.length,fun i k=>pairC c (tkA a i) (tkA b k),fun i=>gapC c (tkA a i),fun k=>gapC c (tkA b k)⟩
theorem grdOf_ok {c:Costs} (hc:costE c=0) (a b:List Tok):GOk (grdOf c a b) 1000:=by
 obtain⟨c1,c2,c3,c4,c5⟩:=costE_ok hc
 refine ⟨fun i k=>?_,fun i=>?_,fun k=>?_⟩
 ·have:=pairC_bd hc (tkA a i) (tkA b k);show 0≤pairC _ _ _∧pairC _ _ _≤1000;omega
 ·have:=gapC_bd hc (tkA a i);show 0≤gapC _ _∧gapC _ _≤1000;omega
 ·have:=gapC_bd hc (tkA b k);show 0≤gapC _ _∧gapC _ _≤1000;omega
def gaL (c:Costs) (a:List Tok):List Int:=a.map (gapC c)
theorem gaL_get {c:Costs} {a:List Tok} {i:Nat} (h:i<a.length):(gaL c a)[i]?=some (gapC c (tkA a i)):=by unfold gaL;rw [List.getElem?_map,tkA_get h];rfl
def ckV (c:Costs) (a b:List Tok):Int:=if costE c≠0∨badL a=true∨badL b=true then 1 else 0
theorem badL_false {l:List Tok}:badL l=false↔∀ t∈l,tokE t=0:=by
 unfold badL;rw [List.any_eq_false];simp
theorem ckV_ok {c:Costs} {a b:List Tok} (h:ckV c a b=0):costE c=0∧(∀ t∈a,tokE t=0)∧∀ t∈b,tokE t=0:=by
 unfold ckV at h
 by_cases hh:costE c≠0∨badL a=true∨badL b=true
 ·rw [if_pos hh] at h;omega
 ·simp only [not_or,Bool.not_eq_true,Classical.not_not] at hh
  exact⟨hh.1,badL_false.1 hh.2.1,badL_false.1 hh.2.2⟩
theorem ckV_01 (c:Costs) (a b:List Tok):ckV c a b=0∨ckV c a b=1:=by unfold ckV;split <;> simp
def srcsL (c:Costs) (A B:Option Addr) (n m ca cb:Nat) (x y:Value):List Value:=[.int .i64 c.gap, .int .i64 c.norm, .int .i64 c.letter, .int .i64 c.most, .slice A n ca, .slice B m cb,x,y]
theorem pcheck1_spec (t:Tok) (ht:t.small) (w:World) (hst:Std w):Spec Tryz.prog 191 [t.val] w (fun v A=>v = .bool (!decide (tokE t=0))∧A=[]):=by
 refine spec_of sg Tryz.func191 rfl rfl rfl ?_
 repeat' (first|(show T _ (.ops _ (⟨_, .box _ _,_,_,_,_⟩::_)::_) _ _ _;refine T_op (OpT.box (cs:=t.cells) rfl rfl rfl rfl rfl rfl rfl (fun _=>?_)))|refine d1 ?_|(show T _ (.ops _ (_::_)::_) _ _ _;refine T_call rfl rfl rfl rfl rfl (fun w hw=>tokPrg_spec t ht w (hst.cls ‹_›)) ?_)|(show T _ (.code .ret::_) _ _ _;refine T_retV [] rfl (Hle.none _) ⟨rfl,rfl⟩))
theorem pcheck_bad (c:Costs) (A B:Option Addr) (n m ca cb:Nat) (a b:List Tok) (w:World) (hst:Std w) (ha:Src w 6 A n (a.flatMap Tok.cells)) (hn:a.length=n) (hnb:n≤1000)
  (hb:Src w 6 B m (b.flatMap Tok.cells)) (hm:b.length=m) (hmb:m≤1000) (hsa:∀ t∈a,t.small) (hsb:∀ t∈b,t.small) (hk:ckV c a b≠0) :
  Spec Tryz.prog 142 [c.val, .slice A n ca, .slice B m cb] w (fun v R=>v = .tuple #[.agg (srcsL ⟨0,0,0,0⟩ none none 0 0 0 0 (.slice none 0 0) (.slice none 0 0)).toArray, .int .i64 1]∧R=[]):=by
 refine spec_of sg Tryz.func142 rfl rfl rfl ?_
 refine T_op (OpT.box (cs:=c.cells) rfl rfl rfl rfl rfl rfl rfl (fun pc=>?_))
 repeat' (first|refine d1 ?_|(show T _ (.ops _ (_::_)::_) _ _ _;first|refine T_call rfl rfl rfl rfl rfl (fun w hw=>costPrg_spec c w) ?_|refine T_callC rfl rfl rfl rfl rfl rfl rfl (fun hg w hw=>containsFuncT_spec A n ca a _ [] [] (fun t => !decide (tokE t=0)) w (rdSrc ha w ‹_›) hn (by omega) (fun x hx w' hb'=>pcheck1_spec x (hsa x hx) w' ((hst.cls ‹_›).below hb'))) ?_|refine T_callC rfl rfl rfl rfl rfl rfl rfl (fun hg w hw=>containsFuncT_spec B m cb b _ [] [] (fun t => !decide (tokE t=0)) w (rdSrc hb w ‹_›) hm (by omega) (fun x hx w' hb'=>pcheck1_spec x (hsb x hx) w' ((hst.cls ‹_›).below hb'))) ?_)|(show ∀ _:Nat,T _ _ _ _ _;intro _))
 rename_i p6
 refine T_if rfl (fun h=>?_) (fun h=>?_)
 ·repeat' (first|refine d1 ?_|fail)
  exact T_retM (vs:=[.agg (srcsL ⟨0,0,0,0⟩ none none 0 0 0 0 (.slice none 0 0) (.slice none 0 0)).toArray, .int .i64 1]) [] ⟨⟨p6,_,srcsL ⟨0,0,0,0⟩ none none 0 0 0 0 (.slice none 0 0) (.slice none 0 0),rfl,rfl,rfl,rfl,(fun h=>by cases h),rfl,rdAll⟩,rfl,trivial⟩ (Hle.none _) ⟨rfl,rfl⟩
 ·exfalso
  apply hk
  simp only [Bool.or_eq_false_iff,Bool.not_eq_false',decide_eq_true_eq] at h
  unfold ckV badL
  rw [if_neg]
  rw [h.1.2,h.2]
  simp [h.1.1]
theorem size_law {n m:Nat} (h:n≤1000) (k:m≤1000):0≤((n:Int)+1) * ((m:Int)+1)∧((n:Int)+1) * ((m:Int)+1)≤1048576:=by
 have:=Nat.mul_le_mul (show n+1≤1001 by omega) (show m+1≤1001 by omega)
 have e:((n:Int)+1) * ((m:Int)+1)=((n+1) * (m+1):Nat):=by push_cast;rfl
 omega
theorem gaL_take {c:Costs} {a:List Tok} {k:Nat} (h:k<a.length):((gaL c a).take (k+1)).map (Value.int .i64)=((gaL c a).take k).map (Value.int .i64)++[.int .i64 (gapC c (tkA a k))]:=by
 rw [take_snoc _ _ _ (gaL_get h),List.map_append];rfl
theorem gaL_length (c:Costs) (a:List Tok):(gaL c a).length=a.length:=by simp [gaL]
theorem pcheck_ok (c:Costs) (A B:Option Addr) (n m ca cb:Nat) (a b:List Tok) (w:World) (hst:Std w) (ha:Src w 6 A n (a.flatMap Tok.cells)) (hn:a.length=n) (hnb:n≤1000)
  (hb:Src w 6 B m (b.flatMap Tok.cells)) (hm:b.length=m) (hmb:m≤1000) (hsa:∀ t∈a,t.small) (hsb:∀ t∈b,t.small) (hk:ckV c a b=0) :
  Spec Tryz.prog 142 [c.val, .slice A n ca, .slice B m cb] w (fun v R=>∃ x:Value × Value,v = .tuple #[.agg (srcsL c A B n m ca cb x.1 x.2).toArray, .int .i64 0]∧R=[dat [x.1] [intsD (gaL c a)],dat [x.2] [intsD (gaL c b)]]):=by
 obtain⟨hc,ka,kb⟩:=ckV_ok hk
 obtain⟨c1,c2,c3,c4,c5⟩:=costE_ok hc
 have hga:∀ i,i<n→gapV c (tkA a i)=(gapC c (tkA a i),0):=fun i hi=>by unfold gapV;rw [if_pos ⟨hc,ka _ (tkA_mem (by omega))⟩]
 have hgb:∀ i,i<m→gapV c (tkA b i)=(gapC c (tkA b i),0):=fun i hi=>by unfold gapV;rw [if_pos ⟨hc,kb _ (tkA_mem (by omega))⟩]
 have hsz:=size_law hnb hmb
 refine spec_of sg Tryz.func142 rfl rfl rfl ?_
 refine T_op (OpT.box (cs:=c.cells) rfl rfl rfl rfl rfl rfl rfl (fun pc=>?_))
 repeat' (first|refine d1 ?_|(show T _ (.ops _ (_::_)::_) _ _ _;first|refine T_call rfl rfl rfl rfl rfl (fun w hw=>costPrg_spec c w) ?_|refine T_callC rfl rfl rfl rfl rfl rfl rfl (fun hg w hw=>containsFuncT_spec A n ca a _ [] [] (fun t => !decide (tokE t=0)) w (rdSrc ha w ‹_›) hn (by omega) (fun x hx w' hb'=>pcheck1_spec x (hsa x hx) w' ((hst.cls ‹_›).below hb'))) ?_|refine T_callC rfl rfl rfl rfl rfl rfl rfl (fun hg w hw=>containsFuncT_spec B m cb b _ [] [] (fun t => !decide (tokE t=0)) w (rdSrc hb w ‹_›) hm (by omega) (fun x hx w' hb'=>pcheck1_spec x (hsb x hx) w' ((hst.cls ‹_›).below hb'))) ?_)|(show ∀ _:Nat,T _ _ _ _ _;intro _))
 rename_i p6
 refine T_if rfl (fun h=>?_) (fun h=>?_)
 ·exfalso
  rw [hc] at h
  have e1:=badL_false.2 ka
  have e2:=badL_false.2 kb
  unfold badL at e1 e2
  rw [e1,e2] at h
  simp at h
 repeat' (first|refine d1 ?_|fail)
 refine T_if rfl (fun h2=>?_) (fun h2=>?_)
 ·exfalso
  simp only [Bool.or_eq_true,decide_eq_true_eq] at h2
  omega
 repeat' (first|refine d1 ?_|(show T _ (.ops _ (_::_)::_) _ _ _;refine T_val rfl (Val.buildA rfl) rfl rfl rfl ?_)|(show ∀ _:Nat,T _ _ _ _ _;intro _))
 rename_i p9
 refine T_le (H':=[blk p9 (srcsL c A B n m ca cb (.slice none 0 0) (.slice none 0 0)) 165,blk p6 _ 165,blk pc c.cells 23]) (Hle.refl _) ?_
 refine T_nilrow 3 1 ?_
 refine T_nilrow 3 1 ?_
 refine T_loopX (fun x:Nat × (Option Addr × Nat) × (Option Addr × Nat)=>[(56, .int .i64 x.1)]) (fun x=>[row 3 1 x.2.1.1 x.2.1.2 (if 0<x.1 then n else 0) (if 0<x.1 then (gaL c a).map (Value.int .i64) else []),row 3 1 x.2.2.1 x.2.2.2 (if 1<x.1 then m else 0) (if 1<x.1 then (gaL c b).map (Value.int .i64) else []),blk p9 (srcsL c A B n m ca cb (.slice x.2.1.1 (if 0<x.1 then n else 0) x.2.1.2) (.slice x.2.2.1 (if 1<x.1 then m else 0) x.2.2.2)) 165,blk p6 (srcsL ⟨0,0,0,0⟩ none none 0 0 0 0 (.slice none 0 0) (.slice none 0 0)) 165,blk pc c.cells 23]) (fun x=>x.1≤2) (fun x=>2 - x.1) (0,(none,0),(none,0)) (Nat.zero_le _) ?_
 rintro⟨i,⟨A1,cap1⟩,⟨A2,cap2⟩⟩ hi
 dsimp only at hi ⊢
 repeat' (first|refine d1 ?_|fail)
 refine T_if rfl (fun h3=>?_) (fun h3=>?_)
 ·simp only [decide_eq_true_eq] at h3
  rcases (show i=0∨i=1 by omega) with rfl|rfl
  ·refine T_le (H':=[row 3 1 A1 cap1 0 [],row 3 1 A2 cap2 0 [],blk p9 (srcsL c A B n m ca cb (.slice A1 0 cap1) (.slice A2 0 cap2)) 165,blk p6 _ 165,blk pc c.cells 23]) (Hle.refl _) ?_
   repeat' (first|refine d1 ?_|(show T _ (.ops _ (_::_)::_) _ _ _;refine T_val rfl (Val.indexA rfl (fun _=>by omega)) rfl rfl rfl ?_)|fail)
   refine T_loopX (fun x:Nat × Option Addr × Nat=>[(62, .int .i64 x.1)]) (fun x=>[row 3 1 x.2.1 x.2.2 x.1 (((gaL c a).take x.1).map (Value.int .i64)),row 3 1 A2 cap2 0 [],blk p9 (srcsL c A B n m ca cb (.slice x.2.1 x.1 x.2.2) (.slice A2 0 cap2)) 165,blk p6 (srcsL ⟨0,0,0,0⟩ none none 0 0 0 0 (.slice none 0 0) (.slice none 0 0)) 165,blk pc c.cells 23]) (fun x=>x.1≤n) (fun x=>n - x.1) (0,A1,cap1) (Nat.zero_le _) ?_
   rintro⟨k,A1',cap1'⟩ hk1
   dsimp only at hk1 ⊢
   repeat' (first|refine d1 ?_|fail)
   refine T_if rfl (fun h4=>?_) (fun h4=>?_)
   ·simp only [decide_eq_true_eq] at h4
    obtain⟨bx,ox,rfl⟩:=ha.base (by omega)
    have hr1:RdC w bx (ox+(k:Int).toNat * 6) (tkA a k).cells:=ha.getT (by omega) (tkA_get (by omega))
    repeat' (first|refine d1 ?_|(show T _ (.ops _ (_::_)::_) _ _ _;refine T_call rfl rfl rfl rfl rfl (fun w hw=>gapTop_spec c (tkA a k) (hsa _ (tkA_mem (by omega))) w (hst.cls ‹_›)) ?_)|(show ∀ _:Nat,T _ _ _ _ _;intro _))
    rw [hga k (by omega)]
    refine T_if rfl (fun h5=>?_) (fun h5=>?_)
    ·cases h5
    repeat' (first|refine d1 ?_|(show T _ (.ops _ (_::_)::_) _ _ _;refine T_op (OpT.append rfl rfl rfl rfl rfl rfl rfl rfl rfl rfl (fun w hw=>Src.own hw rfl) rfl (by dsimp only;omega) (by omega) (fun A' cap' hA'=>?_)))|(show ∀ _:Nat,T _ _ _ _ _;intro _))
    refine T_backX (k+1,A',cap') (Nat.succ_le_of_lt (by omega)) (by dsimp only;omega) (hG:=?_)
    dsimp only
    rw [gaL_take (by omega)]
    exact (Hle.tail _ _).trans (Hle.tail _ _)
   ·simp only [decide_eq_false_iff_not] at h4
    obtain rfl:k=n:=by omega
    repeat' (first|refine d1 ?_|fail)
    refine T_backX (1,(A1',cap1'),(A2,cap2)) (show 1≤2 by omega) (show 2 - 1<2 - 0 by omega) (hG:=?_)
    rw [List.take_of_length_le (by rw [gaL_length];omega)]
    exact Hle.refl _
  ·refine T_le (H':=[row 3 1 A1 cap1 n ((gaL c a).map (Value.int .i64)),row 3 1 A2 cap2 0 [],blk p9 (srcsL c A B n m ca cb (.slice A1 n cap1) (.slice A2 0 cap2)) 165,blk p6 _ 165,blk pc c.cells 23]) (Hle.refl _) ?_
   repeat' (first|refine d1 ?_|(show T _ (.ops _ (_::_)::_) _ _ _;refine T_val rfl (Val.indexA rfl (fun _=>by omega)) rfl rfl rfl ?_)|fail)
   refine T_loopX (fun x:Nat × Option Addr × Nat=>[(62, .int .i64 x.1)]) (fun x=>[row 3 1 A1 cap1 n ((gaL c a).map (Value.int .i64)),row 3 1 x.2.1 x.2.2 x.1 (((gaL c b).take x.1).map (Value.int .i64)),blk p9 (srcsL c A B n m ca cb (.slice A1 n cap1) (.slice x.2.1 x.1 x.2.2)) 165,blk p6 (srcsL ⟨0,0,0,0⟩ none none 0 0 0 0 (.slice none 0 0) (.slice none 0 0)) 165,blk pc c.cells 23]) (fun x=>x.1≤m) (fun x=>m - x.1) (0,A2,cap2) (Nat.zero_le _) ?_
   rintro⟨k,A1',cap1'⟩ hk1
   dsimp only at hk1 ⊢
   repeat' (first|refine d1 ?_|fail)
   refine T_if rfl (fun h4=>?_) (fun h4=>?_)
   ·simp only [decide_eq_true_eq] at h4
    obtain⟨bx,ox,rfl⟩:=hb.base (by omega)
    have hr1:RdC w bx (ox+(k:Int).toNat * 6) (tkA b k).cells:=hb.getT (by omega) (tkA_get (by omega))
    repeat' (first|refine d1 ?_|(show T _ (.ops _ (_::_)::_) _ _ _;refine T_call rfl rfl rfl rfl rfl (fun w hw=>gapTop_spec c (tkA b k) (hsb _ (tkA_mem (by omega))) w (hst.cls ‹_›)) ?_)|(show ∀ _:Nat,T _ _ _ _ _;intro _))
    rw [hgb k (by omega)]
    refine T_if rfl (fun h5=>?_) (fun h5=>?_)
    ·cases h5
    repeat' (first|refine d1 ?_|(show T _ (.ops _ (_::_)::_) _ _ _;refine T_op (OpT.append rfl rfl rfl rfl rfl rfl rfl rfl rfl rfl (fun w hw=>Src.own hw rfl) rfl (by dsimp only;omega) (by omega) (fun A' cap' hA'=>?_)))|(show ∀ _:Nat,T _ _ _ _ _;intro _))
    refine T_backX (k+1,A',cap') (Nat.succ_le_of_lt (by omega)) (by dsimp only;omega) (hG:=?_)
    dsimp only
    rw [gaL_take (by omega)]
    exact (Hle.tail _ _).trans (Hle.tail _ _)
   ·simp only [decide_eq_false_iff_not] at h4
    obtain rfl:k=m:=by omega
    repeat' (first|refine d1 ?_|fail)
    refine T_backX (2,(A1,cap1),(A1',cap1')) (show 2≤2 by omega) (show 2 - 2<2 - 1 by omega) (hG:=?_)
    rw [List.take_of_length_le (by rw [gaL_length];omega)]
    exact Hle.refl _
 simp only [decide_eq_false_iff_not] at h3
 obtain rfl:i=2:=by omega
 refine T_le (H':=[row 3 1 A1 cap1 n ((gaL c a).map (Value.int .i64)),row 3 1 A2 cap2 m ((gaL c b).map (Value.int .i64)),blk p9 (srcsL c A B n m ca cb (.slice A1 n cap1) (.slice A2 m cap2)) 165,blk p6 (srcsL ⟨0,0,0,0⟩ none none 0 0 0 0 (.slice none 0 0) (.slice none 0 0)) 165,blk pc c.cells 23]) (Hle.refl _) ?_
 repeat' (first|refine d1 ?_|fail)
 have e:∀ (l:List Int),(l.map (Value.int .i64)).map D.v=l.map fun z=>D.v (.int .i64 z):=fun l=>by rw [List.map_map];rfl
 refine T_retM (vs:=[.agg (srcsL c A B n m ca cb (.slice A1 n cap1) (.slice A2 m cap2)).toArray, .int .i64 0]) [dat [.slice A1 n cap1] [intsD (gaL c a)],dat [.slice A2 m cap2] [intsD (gaL c b)]] ⟨⟨p6,_,srcsL c A B n m ca cb (.slice A1 n cap1) (.slice A2 m cap2),rfl,rfl,rfl,rfl,(fun h=>by cases h),rfl,rdAll⟩,rfl,trivial⟩ ?_ ⟨(.slice A1 n cap1, .slice A2 m cap2),rfl,rfl⟩
 refine (Hle.sub (K:=[row 3 1 A1 cap1 n ((gaL c a).map (Value.int .i64)),row 3 1 A2 cap2 m ((gaL c b).map (Value.int .i64))])).trans ?_
 unfold intsD
 rw [← e, ← e]
 exact (Hle.perm (List.Perm.swap _ _ _)).trans (dat_rowV.trans ((Hle.perm (List.Perm.swap _ _ _)).trans dat_rowV))
theorem ppair_spec (c:Costs) (A B:Option Addr) (n m ca cb:Nat) (a b:List Tok) (x y:Value) (i k:Nat) (w:World) (hst:Std w) (ha:Src w 6 A n (a.flatMap Tok.cells)) (hn:a.length=n)
  (hb:Src w 6 B m (b.flatMap Tok.cells)) (hm:b.length=m) (hsa:∀ t∈a,t.small) (hsb:∀ t∈b,t.small) (hk:ckV c a b=0) (hi:i<n) (hkk:k<m) :
  Spec Tryz.prog 233 [.agg (srcsL c A B n m ca cb x y).toArray, .int .i64 (i:Nat), .int .i64 (k:Nat)] w (fun v R=>v = .int .i64 ((grdOf c a b).p i k)∧R=[]):=by
 obtain⟨hc,ka,kb⟩:=ckV_ok hk
 obtain⟨ba,oa,rfl⟩:=ha.base (by omega)
 obtain⟨bb,ob,rfl⟩:=hb.base (by omega)
 have hr1:RdC w ba (oa+(i:Int).toNat * 6) (tkA a i).cells:=ha.getT (by omega) (tkA_get (by omega))
 have hr2:RdC w bb (ob+(k:Int).toNat * 6) (tkA b k).cells:=hb.getT (by omega) (tkA_get (by omega))
 have hp:pairV c (tkA a i) (tkA b k)=(pairC c (tkA a i) (tkA b k),0):=by unfold pairV;rw [if_pos ⟨hc,ka _ (tkA_mem (by omega)),kb _ (tkA_mem (by omega))⟩]
 refine spec_of sg Tryz.func233 rfl rfl rfl ?_
 refine T_op (OpT.box (cs:=srcsL c (some ⟨ba,oa,none⟩) (some ⟨bb,ob,none⟩) n m ca cb x y) rfl rfl rfl rfl rfl rfl rfl (fun pc=>?_))
 repeat' (first|refine d1 ?_|refine dd ?_|(show T _ (.run _ _ (_::_) _ _::_) _ _ _;first|refine rv rfl rfl rfl (Val.loadA (vs:=c.cells) rfl (fun _=>rdOwn (fun j u hu=>by rcases j with _|_|_|_|j <;> first|exact hu|(simp at hu))) rfl) rfl rfl rfl ?_|refine rc rfl rfl rfl rfl rfl rfl rfl (fun w hw=>pairTop_spec c (tkA a i) (tkA b k) (hsa _ (tkA_mem (by omega))) (hsb _ (tkA_mem (by omega))) w (hst.cls ‹_›)) ?_)|(show T _ (.code .ret::_) _ _ _;refine T_retV [] rfl (Hle.none _) ⟨by rw [hp];rfl,rfl⟩))
theorem pmoves_spec (c:Costs) (A B:Option Addr) (n m ca cb:Nat) (a b:List Tok) (x y:Value) (i k:Nat) (w:World) (hst:Std w) (ha:Src w 6 A n (a.flatMap Tok.cells)) (hn:a.length=n) (hnb:n≤1000)
  (hb:Src w 6 B m (b.flatMap Tok.cells)) (hm:b.length=m) (hmb:m≤1000) (hsa:∀ t∈a,t.small) (hsb:∀ t∈b,t.small) (hk:ckV c a b=0) (hx:Rd (wr w) [x] [intsD (gaL c a)]) (hy:Rd (wr w) [y] [intsD (gaL c b)]) (hi:i≤n) (hkk:k≤m) :
  Spec Tryz.prog 194 [.agg (srcsL c A B n m ca cb x y).toArray, .int .i64 (i:Nat), .int .i64 (k:Nat)] w (fun v R=>∃ z:Option Addr × Nat,True∧v = .slice z.1 (mvs (grdOf c a b) i k).length z.2∧R=[row 214 3 z.1 z.2 (mvs (grdOf c a b) i k).length ((mvs (grdOf c a b) i k).flatMap Mv.cells)]):=by
 obtain⟨A1,cap1,rfl,-,-,hA1⟩:=hx.row1
 obtain⟨A2,cap2,rfl,-,-,hA2⟩:=hy.row1
 rw [gaL_length] at hA1 hA2
 refine spec_of sg Tryz.func194 rfl rfl rfl ?_
 refine T_op (OpT.box (cs:=srcsL c A B n m ca cb (.slice A1 (gaL c a).length cap1) (.slice A2 (gaL c b).length cap2)) rfl rfl rfl rfl rfl rfl rfl (fun pc=>?_))
 rw [gaL_length,gaL_length,hn,hm]
 refine T_nilrow 214 3 ?_
 by_cases hi2:i<n
 ·by_cases hk2:k<m
  ·have em:mvs (grdOf c a b) i k=_:=mvs_both (by show i<a.length;omega) (by show k<b.length;omega)
   rw [em]
   obtain⟨g1,o1,rfl,hg1⟩:=hA1 (by omega)
   have hr1:RdC w g1 (o1+(i:Int).toNat * 1) [.int .i64 (gapC c (tkA a i))]:=RdC.one (by rw [off1];exact hg1 i _ (gaL_get (by omega)))
   obtain⟨g2,o2,rfl,hg2⟩:=hA2 (by omega)
   have hr2:RdC w g2 (o2+(k:Int).toNat * 1) [.int .i64 (gapC c (tkA b k))]:=RdC.one (by rw [off1];exact hg2 k _ (gaL_get (by omega)))
   repeat' (first|refine d1 ?_|fail)
   refine T_if rfl (fun h=>?_) (fun h=>by exfalso;simp only [Bool.and_eq_false_iff,decide_eq_false_iff_not] at h;omega)
   repeat' (first|refine d1 ?_|(show T _ (.ops _ (_::_)::_) _ _ _;first|refine T_call rfl rfl rfl rfl rfl (fun w hw=>ppair_spec c A B n m ca cb a b _ _ i k w (hst.cls ‹_›) (rdSrc ha w ‹_›) hn (rdSrc hb w ‹_›) hm hsa hsb hk (by omega) (by omega)) ?_|refine T_op (OpT.append rfl rfl rfl rfl rfl rfl rfl rfl rfl rfl (fun w hw=>Src.own hw rfl) rfl (by dsimp only;omega) (by omega) (fun A' cap' hA'=>?_)))|(show ∀ _:Nat,T _ _ _ _ _;intro _))
   refine T_if rfl (fun h=>?_) (fun h=>by exfalso;simp only [Bool.and_eq_false_iff,decide_eq_false_iff_not] at h;omega)
   repeat' (first|refine d1 ?_|(show T _ (.ops _ (_::_)::_) _ _ _;refine T_op (OpT.append rfl rfl rfl rfl rfl rfl rfl rfl rfl rfl (fun w hw=>Src.own hw rfl) rfl (by dsimp only;omega) (by omega) (fun A' cap' hA'=>?_)))|(show ∀ _:Nat,T _ _ _ _ _;intro _))
   refine T_if rfl (fun h=>?_) (fun h=>by exfalso;simp only [Bool.and_eq_false_iff,decide_eq_false_iff_not] at h;omega)
   repeat' (first|refine d1 ?_|(show T _ (.ops _ (_::_)::_) _ _ _;refine T_op (OpT.append rfl rfl rfl rfl rfl rfl rfl rfl rfl rfl (fun w hw=>Src.own hw rfl) rfl (by dsimp only;omega) (by omega) (fun A' cap' hA'=>?_)))|(show ∀ _:Nat,T _ _ _ _ _;intro _))
   exact T_retV _ rfl (Hle.nth 3 rfl) ⟨(_,_),trivial,rfl,rfl⟩
  ·have em:mvs (grdOf c a b) i k=_:=mvs_fst (by show i<a.length;omega) (by show ¬ k<b.length;omega)
   rw [em]
   obtain⟨g1,o1,rfl,hg1⟩:=hA1 (by omega)
   have hr1:RdC w g1 (o1+(i:Int).toNat * 1) [.int .i64 (gapC c (tkA a i))]:=RdC.one (by rw [off1];exact hg1 i _ (gaL_get (by omega)))
   repeat' (first|refine d1 ?_|fail)
   refine T_if rfl (fun h=>by exfalso;simp only [Bool.and_eq_true,decide_eq_true_eq] at h;omega) (fun h=>?_)
   repeat' (first|refine d1 ?_|fail)
   refine T_if rfl (fun h=>?_) (fun h=>by exfalso;simp only [Bool.and_eq_false_iff,decide_eq_false_iff_not] at h;omega)
   repeat' (first|refine d1 ?_|(show T _ (.ops _ (_::_)::_) _ _ _;refine T_op (OpT.append rfl rfl rfl rfl rfl rfl rfl rfl rfl rfl (fun w hw=>Src.own hw rfl) rfl (by dsimp only;omega) (by omega) (fun A' cap' hA'=>?_)))|(show ∀ _:Nat,T _ _ _ _ _;intro _))
   refine T_if rfl (fun h=>by exfalso;simp only [Bool.and_eq_true,decide_eq_true_eq] at h;omega) (fun h=>?_)
   repeat' (first|refine d1 ?_|fail)
   exact T_retV _ rfl (Hle.nth 1 rfl) ⟨(_,_),trivial,rfl,rfl⟩
 ·by_cases hk2:k<m
  ·have em:mvs (grdOf c a b) i k=_:=mvs_snd (by show ¬ i<a.length;omega) (by show k<b.length;omega)
   rw [em]
   obtain⟨g2,o2,rfl,hg2⟩:=hA2 (by omega)
   have hr2:RdC w g2 (o2+(k:Int).toNat * 1) [.int .i64 (gapC c (tkA b k))]:=RdC.one (by rw [off1];exact hg2 k _ (gaL_get (by omega)))
   repeat' (first|refine d1 ?_|fail)
   refine T_if rfl (fun h=>by exfalso;simp only [Bool.and_eq_true,decide_eq_true_eq] at h;omega) (fun h=>?_)
   repeat' (first|refine d1 ?_|fail)
   refine T_if rfl (fun h=>by exfalso;simp only [Bool.and_eq_true,decide_eq_true_eq] at h;omega) (fun h=>?_)
   repeat' (first|refine d1 ?_|fail)
   refine T_if rfl (fun h=>?_) (fun h=>by exfalso;simp only [Bool.and_eq_false_iff,decide_eq_false_iff_not] at h;omega)
   repeat' (first|refine d1 ?_|(show T _ (.ops _ (_::_)::_) _ _ _;refine T_op (OpT.append rfl rfl rfl rfl rfl rfl rfl rfl rfl rfl (fun w hw=>Src.own hw rfl) rfl (by dsimp only;omega) (by omega) (fun A' cap' hA'=>?_)))|(show ∀ _:Nat,T _ _ _ _ _;intro _))
   exact T_retV _ rfl (Hle.nth 1 rfl) ⟨(_,_),trivial,rfl,rfl⟩
  ·have em:mvs (grdOf c a b) i k=_:=mvs_none (by show ¬ i<a.length;omega) (by show ¬ k<b.length;omega)
   rw [em]
   repeat' (first|refine d1 ?_|fail)
   refine T_if rfl (fun h=>by exfalso;simp only [Bool.and_eq_true,decide_eq_true_eq] at h;omega) (fun h=>?_)
   repeat' (first|refine d1 ?_|fail)
   refine T_if rfl (fun h=>by exfalso;simp only [Bool.and_eq_true,decide_eq_true_eq] at h;omega) (fun h=>?_)
   repeat' (first|refine d1 ?_|fail)
   refine T_if rfl (fun h=>by exfalso;simp only [Bool.and_eq_true,decide_eq_true_eq] at h;omega) (fun h=>?_)
   repeat' (first|refine d1 ?_|fail)
   exact T_retV _ rfl (Hle.nth 0 rfl) ⟨(_,_),trivial,rfl,rfl⟩
end Go.Proofs.YtblnhdnogjijiaaGreatDoor
namespace Go.Proofs.YtblnhdnogjijiaaGreatDoor
open Go.RowKit Go.Shelf Go.Proofs
set_option maxRecDepth 100000
set_option maxHeartbeats 1000000

theorem gridAt_spec (b o n cap b' o' n' cap':Nat) (i k:Nat) (z:Int) (w:World) (h1:RdC w b (o+i) [.slice (some ⟨b',o',none⟩) n' cap']) (h2:RdC w b' (o'+k) [.int .i64 z]) (hi:i<n) (hk:k<n') :
  Spec Tryz.prog 144 [.slice (some ⟨b,o,none⟩) n cap, .int .i64 (i:Nat), .int .i64 (k:Nat)] w (fun v R=>v = .int .i64 z∧R=[]):=by
 refine spec_of sg Tryz.func144 rfl rfl rfl ?_
 rw [← off1] at h1 h2
 repeat' (first|refine d1 ?_|(show T _ (.code .ret::_) _ _ _;refine T_retV [] rfl (Hle.none _) ⟨rfl,rfl⟩))
theorem places_spec (s:List Value) (c:Costs) (A B:Option Addr) (n m ca cb:Nat) (x y:Value) (hs:s=srcsL c A B n m ca cb x y) (w:World):Spec Tryz.prog 193 [.agg (srcsL c A B n m ca cb x y).toArray] w (fun v R=>∃ g:Nat,True∧v = .func (.func 232) #[] #[.pointer (some ⟨g,0,none⟩)]∧R=[blk g s 165]):=by
 subst hs
 refine spec_of sg Tryz.func193 rfl rfl rfl ?_
 refine T_op (OpT.box (cs:=srcsL c A B n m ca cb x y) rfl rfl rfl rfl rfl rfl rfl (fun g=>?_))
 repeat' (first|refine d1 ?_|(show T _ (.code .ret::_) _ _ _;refine T_retV _ rfl (Hle.refl _) ⟨g,trivial,rfl,rfl⟩))
def placeVs (n m:Nat):List (List Value):=(placesL n m).map fun p=>[.int .i64 (p.1:Nat), .int .i64 (p.2:Nat)]
theorem placeVs_at {n m j:Nat} {y:List Value} (h:(placeVs n m)[j]?=some y):∃ i k,(placesL n m)[j]?=some (i,k)∧y=[.int .i64 (i:Nat), .int .i64 (k:Nat)]:=by
 unfold placeVs at h
 rw [List.getElem?_map] at h
 cases hp:(placesL n m)[j]? with
 | none=>rw [hp] at h;cases h
 | some p=>rw [hp] at h;exact⟨p.1,p.2,rfl,(Option.some.inj h).symm⟩
theorem places_iter (c:Costs) (A B:Option Addr) (n m ca cb:Nat) (x y:Value) (b:Nat) (hn:n≤1000) (hm:m≤1000):Iter Tryz.prog 232 [] [.pointer (some ⟨b,0,none⟩)] [blk b (srcsL c A B n m ca cb x y) 165] (placeVs n m):=by
 refine iter_of sg Tryz.func232 rfl rfl rfl ?_
 intro w0 l GQ X Hj hY h0
 show T _ _ _ _ (blk b (srcsL c A B n m ca cb x y) 165::Hj)
 repeat' (first|refine d1 ?_|fail)
 refine T_loopX (fun s:Nat × List HA=>[(3, .int .i64 ((n:Int) - s.1))]) (fun s=>blk b (srcsL c A B n m ca cb x y) 165::s.2) (fun s=>s.1≤n+1∧GQ (s.1 * (m+1)) s.2) (fun s=>n+1 - s.1) (0,Hj) ⟨Nat.zero_le _,by rw [Nat.zero_mul];exact h0⟩ ?_ (hE:=⟨by rw [show (n:Int) - ((0:Nat):Int)=n by omega];rfl,trivial⟩)
 rintro⟨p,H1⟩ ⟨hp,hG⟩
 dsimp only at hp hG ⊢
 repeat' (first|refine d1 ?_|fail)
 refine T_if rfl (fun h=>?_) (fun h=>?_)
 ·simp only [decide_eq_true_eq] at h
  repeat' (first|refine d1 ?_|fail)
  refine T_loopX (fun s:Nat × List HA=>[(4, .int .i64 ((m:Int) - s.1))]) (fun s=>blk b (srcsL c A B n m ca cb x y) 165::s.2) (fun s=>s.1≤m+1∧GQ (p * (m+1)+s.1) s.2) (fun s=>m+1 - s.1) (0,H1) ⟨Nat.zero_le _,hG⟩ ?_ (hE:=⟨by rw [show (m:Int) - ((0:Nat):Int)=m by omega];rfl,trivial⟩)
  rintro⟨q,H2⟩ ⟨hq,hG2⟩
  dsimp only at hq hG2 ⊢
  repeat' (first|refine d1 ?_|fail)
  refine T_if rfl (fun h1=>?_) (fun h1=>?_)
  ·simp only [decide_eq_true_eq] at h1
   have hy:(placeVs n m)[p * (m+1)+q]?=some [.int .i64 ((n:Int) - p), .int .i64 ((m:Int) - q)]:=by
    unfold placeVs;rw [List.getElem?_map,placesL_get (by omega) (by omega)]
    simp only [Option.map_some]
    rw [show ((n - p:Nat):Int)=(n:Int) - p by omega,show ((m - q:Nat):Int)=(m:Int) - q by omega]
   repeat' (first|refine d1 ?_|fail)
   refine T_yield (K:=[blk b (srcsL c A B n m ca cb x y) 165]) hY rfl rfl rfl rfl hy hG2 (Hle.comm [_] H2) (fun J=>Hle.comm J [_]) (fun H3 hG3=>?_) (fun Y hX=>?_)
   ·show T _ _ _ _ (blk b (srcsL c A B n m ca cb x y) 165::H3)
    repeat' (first|refine d1 ?_|(show T _ (.code (.cond _ _ _)::_) _ _ _;refine T_if rfl (fun h=>?_) (fun h=>?_)))
    ·exact absurd h (by decide)
    ·exact T_backX (q+1,H3) ⟨by dsimp only;omega,hG3⟩ (by dsimp only;omega) (hE:=⟨by dsimp only;rw [show (m:Int) - ((q+1:Nat):Int)=(m:Int) - q - 1 by omega];rfl,trivial⟩)
   ·show T _ _ _ _ (blk b (srcsL c A B n m ca cb x y) 165::Y)
    repeat' (first|refine d1 ?_|(show T _ (.code (.cond _ _ _)::_) _ _ _;refine T_if rfl (fun h=>?_) (fun h=>?_))|(show T _ (.code .ret::_) _ _ _;refine T_istop rfl Y hX (Hle.refl _)))
    exact absurd h (by decide)
  ·simp only [decide_eq_false_iff_not] at h1
   have hqm:q=m+1:=by omega
   subst hqm
   repeat' (first|refine d1 ?_|fail)
   refine T_backX (p+1,H2) ⟨by dsimp only;omega,?_⟩ (by dsimp only;omega) (hE:=⟨by dsimp only;rw [show (n:Int) - ((p+1:Nat):Int)=(n:Int) - p - 1 by omega];rfl,trivial⟩)
   dsimp only
   rw [Nat.succ_mul]
   exact hG2
 ·simp only [decide_eq_false_iff_not] at h
  have hpn:p=n+1:=by omega
  subst hpn
  skip
  refine T_ifall rfl H1 ?_ (Hle.refl _)
  unfold placeVs;rw [List.length_map,placesL_len];exact hG
theorem tab_rows {n m:Nat} {f:Nat→Nat→Int} {L:List (Nat × List Value)} (hL:L.length=n+1) (hR:RowsOk f (m+1) L):(L.map fun x=>D.s 1 ((x.2.take (m+1)).map .v))=(tabR n m f).map intsD:=by
 apply List.ext_getElem?
 intro i
 rw [List.getElem?_map,List.getElem?_map]
 by_cases hi:i<n+1
 ·obtain⟨x,hx⟩:∃ x,L[i]?=some x:=⟨_,List.getElem?_eq_getElem (by omega)⟩
  rw [hx,tabR_get (by omega)]
  simp only [Option.map_some]
  rw [hR _ _ hx]
  congr 2
  unfold valV
  rw [List.take_of_length_le (by simp),List.map_map,List.map_map]
  rfl
 ·rw [List.getElem?_eq_none (by omega),List.getElem?_eq_none (by rw [tabR_length];omega)];rfl
theorem RowsOk.ext {f g:Nat→Nat→Int} {n tot:Nat} {L:List (Nat × List Value)} (hL:L.length=n) (hR:RowsOk f tot L) (h:∀ i k,i<n→k<tot→f i k=g i k):RowsOk g tot L:=by
 intro i x hx
 rw [hR i x hx]
 exact valV_ext fun k hk=>h i k (by have:=(List.getElem?_eq_some_iff.1 hx).1;omega) hk
theorem slv_set {m k g:Nat} {cs cs':List Value} {M:List (Nat × List Value)} (h:M[k]?=some (g,cs)):(M.set k (g,cs')).map (slv m)=M.map (slv m):=by
 have e0:∀ L:List (Nat × List Value),L.map (slv m)=(L.map Prod.fst).map fun g=>Value.slice (some ⟨g,0,none⟩) (m+1) (m+1):=fun L=>by rw [List.map_map];rfl
 rw [e0,e0 M,fst_set h]
theorem mvs_len (G:Grd) (i k:Nat):(mvs G i k).length≤3:=by
 unfold mvs
 (repeat' split) <;> simp
theorem mv_to {c:Costs} {a b:List Tok} {n m i k jj:Nat} {v:Mv} (hG:GOk (grdOf c a b) 1000) (hn:a.length=n) (hm:b.length=m) (hi:i≤n) (hk:k≤m) (h:(mvs (grdOf c a b) i k)[jj]?=some v) :
  i+v.fst≤n∧k+v.snd≤m∧(i<i+v.fst∨(i=i+v.fst∧k<k+v.snd))∧(0≤v.cost∧v.cost≤1000)∧v.fst≤1∧v.snd≤1:=by
 have q1:=hG.p i k
 have q2:=hG.g i
 have q3:=hG.h k
 have e1:(grdOf c a b).n=n:=hn
 have e2:(grdOf c a b).m=m:=hm
 rcases mvs_to (List.mem_of_getElem? h) with⟨h1,h2,h3,h4,h5⟩|⟨h1,h2,h3,h5⟩|⟨h1,h2,h3,h5⟩
 ·rw [e1] at h3;rw [e2] at h4;omega
 ·rw [e1] at h3;omega
 ·rw [e2] at h3;omega
theorem rst_bd2 {c:Costs} {a b:List Tok} {n m:Nat} (hG:GOk (grdOf c a b) 1000) (hn:a.length=n) (hm:b.length=m) (hnb:n≤1000) (hmb:m≤1000) (i k:Nat):0≤rst (grdOf c a b) i k∧rst (grdOf c a b) i k≤2000000:=by
 have h:=rst_bd hG i k
 have e1:(grdOf c a b).n=n:=hn
 have e2:(grdOf c a b).m=m:=hm
 rw [e1,e2] at h
 omega
theorem tables_hle {n m b1 b2:Nat} {f g:Nat→Nat→Int} {M1 M2:List (Nat × List Value)} (hnb:n≤1000) (hmb:m≤1000) (hM1:M1.length=n+1) (hM2:M2.length=n+1) (hR1:RowsOk f (m+1) M1) (hR2:RowsOk g (m+1) M2) :
  Hle [blk b1 (M1.map (slv m)) 47,blks 3 M1,blk b2 (M2.map (slv m)) 47,blks 3 M2] [dat [.slice (some ⟨b1,0,none⟩) (n+1) (n+1)] [rowsD (tabR n m f)],dat [.slice (some ⟨b2,0,none⟩) (n+1) (n+1)] [rowsD (tabR n m g)]]:=by
 have key:∀ {b:Nat} {M:List (Nat × List Value)} {f:Nat→Nat→Int} {H:List HA},M.length=n+1→RowsOk f (m+1) M→Hle (blk b (M.map (slv m)) 47::blks 3 M::H) (dat [.slice (some ⟨b,0,none⟩) (n+1) (n+1)] [rowsD (tabR n m f)]::H):=fun {b M f H} hM hR=>by
  have q1:∀ x∈M,m+1≤x.2.length:=fun x hx=>by obtain⟨i,hi,e⟩:=List.getElem_of_mem hx;rw [hR i x (by rw [List.getElem?_eq_getElem hi,e]),valV_length];omega
  refine (Hle.perm (List.Perm.swap _ _ _)).trans ?_
  refine (dat_blks (L:=M) (m+1) (m+1) (by omega) (by omega) q1).trans ?_
  refine (Hle.perm (List.Perm.swap _ _ _)).trans ?_
  rw [tab_rows hM hR]
  exact dat_blk (sz:=1) (n:=n+1) (by rw [List.length_map,hM];omega) (by omega)
 refine (key hM1 hR1).trans ?_
 refine (Hle.perm (List.perm_append_comm (l₁:=[_]) (l₂:=[_,_]))).trans ?_
 exact (key hM2 hR2).trans (Hle.perm (List.Perm.swap _ _ _))
theorem rows_snoc0 {L:List (Nat × List Value)} {g tot:Nat} (h:RowsOk (fun _ _=>0) tot L):RowsOk (fun _ _=>0) tot (L++[(g,List.replicate tot (.int .i64 0))]):=by
 intro i x hx
 rcases Nat.lt_or_ge i L.length with h1|h1
 ·rw [List.getElem?_append_left h1] at hx;exact h i x hx
 ·rw [List.getElem?_append_right h1] at hx
  have h2:i - L.length=0:=by have:=(List.getElem?_eq_some_iff.1 hx).1;simp at this;omega
  rw [h2] at hx
  simp at hx
  subst hx
  exact valV_replicate _
theorem pgrid_spec (c:Costs) (A B:Option Addr) (n m ca cb:Nat) (a b:List Tok) (x y:Value) (w:World) (hst:Std w) (ha:Src w 6 A n (a.flatMap Tok.cells)) (hn:a.length=n) (hnb:n≤1000)
  (hb:Src w 6 B m (b.flatMap Tok.cells)) (hm:b.length=m) (hmb:m≤1000) (hsa:∀ t∈a,t.small) (hsb:∀ t∈b,t.small) (hk:ckV c a b=0) (hx:Rd (wr w) [x] [intsD (gaL c a)]) (hy:Rd (wr w) [y] [intsD (gaL c b)]) :
  Spec Tryz.prog 143 [.agg (srcsL c A B n m ca cb x y).toArray] w (fun v R=>∃ z:Value × Value,v = .tuple #[z.1,z.2]∧R=[dat [z.1] [rowsD (tabR n m (rst (grdOf c a b)))],dat [z.2] [rowsD (tabR n m (wys (grdOf c a b)))]]):=by
 obtain⟨hc,ka,kb⟩:=ckV_ok hk
 have hG:=grdOf_ok hc a b
 refine spec_of sg Tryz.func143 rfl rfl rfl ?_
 refine T_op (OpT.box (cs:=srcsL c A B n m ca cb x y) rfl rfl rfl rfl rfl rfl rfl (fun pc=>?_))
 repeat' (first|refine d1 ?_|fail)
 refine T_cutX 1 [4,5] (fun s:Nat × Nat × Nat × Nat=>[(4, .pointer (some ⟨s.1,0,none⟩)),(5, .pointer (some ⟨s.2.1,0,none⟩))]) (fun s=>[blk s.1 [.slice (some ⟨s.2.2.1,0,none⟩) (n+1) (n+1)] 168,blk s.2.1 [.slice (some ⟨s.2.2.2,0,none⟩) (n+1) (n+1)] 168,blk s.2.2.1 (List.replicate (n+1) (.slice none 0 0)) 47,blk s.2.2.2 (List.replicate (n+1) (.slice none 0 0)) 47,blk pc (srcsL c A B n m ca cb x y) 165]) (fun _=>True) ?_ ?_
 ·refine dw0 1000 [blk pc (srcsL c A B n m ca cb x y) 165] ?_
  repeat' (first|(show T _ (.draw _ _ _ _ _::_) _ _ _;first|refine dw1 ?_|refine dwb rfl (by decide +kernel) ?_)|(show AllL _ [];exact True.intro)|(show AllL _ (_::_);refine ⟨?_,?_⟩)|(show OpT _ _ _ _ _ _ _;first|refine dwx ?_)|(show ∀ _:Nat,T _ _ _ _ _;intro _)|(show T _ (.mark _::_) _ _ _;exact T_meetX (_,_,_,_) trivial (hG:=by exact Hle.srt)))
 rintro⟨p4,p5,b1,b2⟩ _
 dsimp only
 repeat' (first|refine d1 ?_|fail)
 refine T_nilblks 3 ?_
 refine T_nilblks 3 ?_
 refine T_loopX (fun L:List (Nat × List Value) × List (Nat × List Value)=>[(27, .int .i64 L.1.length)]) (fun L=>[blks 3 L.1,blks 3 L.2,blk p4 [.slice (some ⟨b1,0,none⟩) (n+1) (n+1)] 168,blk p5 [.slice (some ⟨b2,0,none⟩) (n+1) (n+1)] 168,blk b1 (L.1.map (slv m)++List.replicate (n+1 - L.1.length) (.slice none 0 0)) 47,blk b2 (L.2.map (slv m)++List.replicate (n+1 - L.1.length) (.slice none 0 0)) 47,blk pc (srcsL c A B n m ca cb x y) 165])
  (fun L=>L.1.length≤n+1∧L.2.length=L.1.length∧RowsOk (fun _ _=>0) (m+1) L.1∧RowsOk (fun _ _=>0) (m+1) L.2) (fun L=>n+1 - L.1.length) ([],[]) ⟨Nat.zero_le _,rfl,fun i x h=>by simp at h,fun i x h=>by simp at h⟩ ?_
 rintro⟨L1,L2⟩ ⟨hl1,hl2,hR1,hR2⟩
 dsimp only at hl1 hl2 hR1 hR2 ⊢
 repeat' (first|refine d1 ?_|fail)
 refine T_if rfl (fun h=>?_) (fun h=>?_)
 ·simp only [decide_eq_true_eq] at h
  have hlt:L1.length<n+1:=by omega
  repeat' (first|refine d1 ?_|fail)
  refine T_cutX 1 [] (fun _:Nat × Nat=>[]) (fun g=>[blk b1 ((L1.map (slv m)++List.replicate (n+1 - L1.length) (Value.slice none 0 0)).set (0+(L1.length:Int).toNat * 1) (Value.slice (some ⟨g.1,0,none⟩) (m+1) (m+1))) 47,blk b2 ((L2.map (slv m)++List.replicate (n+1 - L1.length) (Value.slice none 0 0)).set (0+(L1.length:Int).toNat * 1) (Value.slice (some ⟨g.2,0,none⟩) (m+1) (m+1))) 47,blk g.1 (List.replicate (m+1) (.int .i64 0)) 3,blks 3 L1,blk g.2 (List.replicate (m+1) (.int .i64 0)) 3,blks 3 L2,blk p4 [.slice (some ⟨b1,0,none⟩) (n+1) (n+1)] 168,blk p5 [.slice (some ⟨b2,0,none⟩) (n+1) (n+1)] 168,blk pc (srcsL c A B n m ca cb x y) 165]) (fun _=>True) ?_ ?_
  ·refine dw0 1000 [blk p4 [.slice (some ⟨b1,0,none⟩) (n+1) (n+1)] 168,blk p5 [.slice (some ⟨b2,0,none⟩) (n+1) (n+1)] 168,blk pc (srcsL c A B n m ca cb x y) 165] ?_
   repeat' (first|(show T _ (.draw _ _ _ _ _::_) _ _ _;first|refine dw1 ?_|refine dwb rfl (by decide +kernel) ?_)|(show AllL _ [];exact True.intro)|(show AllL _ (_::_);refine ⟨?_,?_⟩)|(show OpT _ _ _ _ _ _ _;first|refine dwx ?_)|(show ∀ _:Nat,T _ _ _ _ _;intro _)|(show T _ (.mark _::_) _ _ _;exact T_meetX (_,_) trivial (hG:=by exact Hle.srt)))
  rintro⟨g1,g2⟩ _
  dsimp only
  repeat' (first|refine d1 ?_|fail)
  refine T_backX (L1++[(g1,List.replicate (m+1) (.int .i64 0))],L2++[(g2,List.replicate (m+1) (.int .i64 0))]) ⟨by dsimp only;rw [List.length_append];exact Nat.succ_le_of_lt hlt,by simp [hl2],rows_snoc0 hR1,rows_snoc0 hR2⟩ (by dsimp only;rw [List.length_append];simp;omega) (hE:=⟨by dsimp only;rw [List.length_append];rfl,trivial⟩) (hG:=?_)
  dsimp only
  rw [show 0+(L1.length:Int).toNat * 1=L1.length by omega,set_boundary _ _ _ _ _ (by omega) (by simp),set_boundary _ _ _ _ _ (by omega) (by simp [hl2])]
  have e:∀ (L:List (Nat × List Value)) (g:Nat),L.map (slv m)++[Value.slice (some ⟨g,0,none⟩) (m+1) (m+1)]++List.replicate (n+1 - L1.length - 1) (Value.slice none 0 0)=(L++[(g,List.replicate (m+1) (Value.int .i64 0))]).map (slv m)++List.replicate (n+1 - (L1++[(g1,List.replicate (m+1) (Value.int .i64 0))]).length) (Value.slice none 0 0):=fun L g=>by
   rw [List.map_append,List.length_append,show n+1 - L1.length - 1=n+1 - (L1.length+1) by omega];rfl
  rw [e,e]
  refine (Hle.srt (K:=[blk g1 (List.replicate (m+1) (Value.int .i64 0)) 3,blks 3 L1,blk g2 (List.replicate (m+1) (Value.int .i64 0)) 3,blks 3 L2,blk p4 [.slice (some ⟨b1,0,none⟩) (n+1) (n+1)] 168,blk p5 [.slice (some ⟨b2,0,none⟩) (n+1) (n+1)] 168,blk b1 ((L1++[(g1,(List.replicate (m+1) (Value.int .i64 0)))]).map (slv m)++List.replicate (n+1 - (L1++[(g1,(List.replicate (m+1) (Value.int .i64 0)))]).length) (Value.slice none 0 0)) 47,blk b2 ((L2++[(g2,(List.replicate (m+1) (Value.int .i64 0)))]).map (slv m)++List.replicate (n+1 - (L1++[(g1,(List.replicate (m+1) (Value.int .i64 0)))]).length) (Value.slice none 0 0)) 47,blk pc (srcsL c A B n m ca cb x y) 165])).trans (blks_snoc.trans ?_)
  refine (Hle.srt (K:=[blk g2 (List.replicate (m+1) (Value.int .i64 0)) 3,blks 3 L2,blks 3 (L1++[(g1,(List.replicate (m+1) (Value.int .i64 0)))]),blk p4 [.slice (some ⟨b1,0,none⟩) (n+1) (n+1)] 168,blk p5 [.slice (some ⟨b2,0,none⟩) (n+1) (n+1)] 168,blk b1 ((L1++[(g1,(List.replicate (m+1) (Value.int .i64 0)))]).map (slv m)++List.replicate (n+1 - (L1++[(g1,(List.replicate (m+1) (Value.int .i64 0)))]).length) (Value.slice none 0 0)) 47,blk b2 ((L2++[(g2,(List.replicate (m+1) (Value.int .i64 0)))]).map (slv m)++List.replicate (n+1 - (L1++[(g1,(List.replicate (m+1) (Value.int .i64 0)))]).length) (Value.slice none 0 0)) 47,blk pc (srcsL c A B n m ca cb x y) 165])).trans (blks_snoc.trans Hle.srt)
 simp only [decide_eq_false_iff_not] at h
 have hLn:L1.length=n+1:=by omega
 have er:∀ L:List (Nat × List Value),L.map (slv m)++List.replicate (n+1 - L1.length) (Value.slice none 0 0)=L.map (slv m):=fun L=>by rw [hLn,Nat.sub_self];simp
 rw [er,er]
 have hz:∀ (f:Nat→Nat→Int) {L:List (Nat × List Value)},RowsOk (fun _ _=>0) (m+1) L→RowsOk (soFar n m 0 f) (m+1) L:=fun f L hR i x hx=>by rw [hR i x hx,soFar_zero]
 repeat' (first|refine d1 ?_|(show T _ (.ops _ (_::_)::_) _ _ _;refine T_callE rfl rfl rfl rfl rfl (fun w hw=>places_spec _ c A B n m ca cb x y rfl w) (fun g _=>?_))|(show ∀ _:Nat,T _ _ _ _ _;intro _))
 rename_i p7 _
 refine T_range (places_iter c A B n m ca cb x y g hnb hmb) rfl (fun j y hy=>by obtain⟨i,k,_,rfl⟩:=placeVs_at hy;exact⟨rfl,rfl⟩)
  (fun j H=>∃ M1 M2,M1.length=n+1∧M2.length=n+1∧RowsOk (soFar n m j (rst (grdOf c a b))) (m+1) M1∧RowsOk (soFar n m j (wys (grdOf c a b))) (m+1) M2∧H=[blks 3 M1,blks 3 M2,blk p4 [.slice (some ⟨b1,0,none⟩) (n+1) (n+1)] 168,blk p5 [.slice (some ⟨b2,0,none⟩) (n+1) (n+1)] 168,blk b1 (M1.map (slv m)) 47,blk b2 (M2.map (slv m)) 47,blk p7 [.func (.func 144) #[.slice (some ⟨b1,0,none⟩) (n+1) (n+1)] #[]] 171,blk pc (srcsL c A B n m ca cb x y) 165]) (fun _=>False) (fun _ _=>False)
  [blks 3 L1,blks 3 L2,blk p4 [.slice (some ⟨b1,0,none⟩) (n+1) (n+1)] 168,blk p5 [.slice (some ⟨b2,0,none⟩) (n+1) (n+1)] 168,blk b1 (L1.map (slv m)) 47,blk b2 (L2.map (slv m)) 47,blk p7 [.func (.func 144) #[.slice (some ⟨b1,0,none⟩) (n+1) (n+1)] #[]] 171,blk pc (srcsL c A B n m ca cb x y) 165] ⟨L1,L2,hLn,by omega,hz _ hR1,hz _ hR2,rfl⟩ Hle.srt ?_ ?_ (fun _ _ h=>h.elim) (fun _ _ _ h=>h.elim)
 ·rintro Lp r j yv Hj K hr hyv ⟨M1,M2,hM1,hM2,hS1,hS2,rfl⟩
  obtain⟨i,k,hp,rfl⟩:=placeVs_at hyv
  obtain⟨p,q,hpn,hqm,-,hip,hkq⟩:=placesL_at hp
  have hin:i≤n:=by omega
  have hkm:k≤m:=by omega
  show T _ _ ((52, .int .i64 (k:Nat))::(51, .int .i64 (i:Nat))::_) _ (lrec Lp r::blks 3 M1::blks 3 M2::blk p4 [.slice (some ⟨b1,0,none⟩) (n+1) (n+1)] 168::blk p5 [.slice (some ⟨b2,0,none⟩) (n+1) (n+1)] 168::blk b1 (M1.map (slv m)) 47::blk b2 (M2.map (slv m)) 47::blk p7 [.func (.func 144) #[.slice (some ⟨b1,0,none⟩) (n+1) (n+1)] #[]] 171::blk pc (srcsL c A B n m ca cb x y) 165::K)
  repeat' (first|refine d1 ?_|(show T _ (.ops _ (_::_)::_) _ _ _;refine T_callE rfl rfl rfl rfl rfl (fun w hw=>pmoves_spec c A B n m ca cb a b x y i k w (hst.cls ‹_›) (rdSrc ha w ‹_›) hn hnb (rdSrc hb w ‹_›) hm hmb hsa hsb hk (hx.old ‹_›) (hy.old ‹_›) hin hkm) (fun z _=>?_))|(show T _ _ _ _ _;refine T_begin hr rfl ?_))
  obtain⟨Az,capz⟩:=z
  dsimp only
  skip
  refine T_loopX (fun jj:Nat=>[(58, .int .i64 jj),(10, .int .i64 (accW (grdOf c a b) i k jj).1),(11, .int .i64 (accW (grdOf c a b) i k jj).2)]) (fun _=>row 214 3 Az capz (mvs (grdOf c a b) i k).length ((mvs (grdOf c a b) i k).flatMap Mv.cells)::lrec Lp (busy r)::blks 3 M1::blks 3 M2::blk p4 [.slice (some ⟨b1,0,none⟩) (n+1) (n+1)] 168::blk p5 [.slice (some ⟨b2,0,none⟩) (n+1) (n+1)] 168::blk b1 (M1.map (slv m)) 47::blk b2 (M2.map (slv m)) 47::blk p7 [.func (.func 144) #[.slice (some ⟨b1,0,none⟩) (n+1) (n+1)] #[]] 171::blk pc (srcsL c A B n m ca cb x y) 165::K) (fun jj=>jj≤(mvs (grdOf c a b) i k).length) (fun jj=>(mvs (grdOf c a b) i k).length - jj) 0 (Nat.zero_le _) ?_
  intro jj hjj
  have hm3:=mvs_len (grdOf c a b) i k
  repeat' (first|refine d1 ?_|fail)
  refine T_if rfl (fun h=>?_) (fun h=>?_)
  ·simp only [decide_eq_true_eq] at h
   have hjl:jj<(mvs (grdOf c a b) i k).length:=by omega
   obtain⟨v,hv⟩:∃ v,(mvs (grdOf c a b) i k)[jj]?=some v:=⟨_,List.getElem?_eq_getElem hjl⟩
   refine T_rowpos (A:=Az) (by omega) (fun gz e=>?_)
   subst e
   have hb1:=mv_to hG hn hm hin hkm hv
   obtain⟨⟨g1,c1⟩,hV1⟩:∃ x,M1[i+v.fst]?=some x:=⟨_,List.getElem?_eq_getElem (by omega)⟩
   obtain⟨⟨g2,c2⟩,hV2⟩:∃ x,M2[i+v.fst]?=some x:=⟨_,List.getElem?_eq_getElem (by omega)⟩
   have hc1:c1=valV (soFar n m j (rst (grdOf c a b)) (i+v.fst)) (m+1):=hS1 _ _ hV1
   have hc2:c2=valV (soFar n m j (wys (grdOf c a b)) (i+v.fst)) (m+1):=hS2 _ _ hV2
   have er:=soFar_get hp (rst (grdOf c a b)) (i':=i+v.fst) (k':=k+v.snd) (by omega) (by omega) (by omega)
   have ew:=soFar_get hp (wys (grdOf c a b)) (i':=i+v.fst) (k':=k+v.snd) (by omega) (by omega) (by omega)
   have hrb:=rst_bd2 hG hn hm hnb hmb (i+v.fst) (k+v.snd)
   have hwb:=wys_bd (grdOf c a b) (i+v.fst) (k+v.snd)
   have hab:=accW_bd (grdOf c a b) i k jj
   unfold big at hwb hab
   have es:accW (grdOf c a b) i k (jj+1)=stepW (grdOf c a b) i k (accW (grdOf c a b) i k jj) jj v:=accW_step hv
   repeat' (first|refine d1 ?_|refine dd ?_|(show T _ (.ops _ (_::_)::_) _ _ _;refine T_val rfl (Val.loadA (vs:=v.cells) rfl (fun _=>rdRow (A:=some ⟨gz,0,none⟩) (by omega) (fun r u hu=>by rw [show 0+(jj:Int).toNat * 3=jj * 3 by omega];exact flat_get Mv.cells 3 (fun _=>rfl) hv r u hu)) rfl) rfl rfl rfl ?_)|(show T _ (.run _ _ (_::_) _ _::_) _ _ _;refine rc rfl rfl rfl rfl rfl rfl rfl (fun w hw=>gridAt_spec b1 0 (n+1) (n+1) g1 0 (m+1) (m+1) (i+v.fst) (k+v.snd) (rst (grdOf c a b) (i+v.fst) (k+v.snd)) w (rdOwn1 (b:=b1) (by rw [Nat.zero_add,List.getElem?_map,hV1];rfl) w hw) (rdM hV1 (get1 (by rw [hc1, ← er];exact vget (k+v.snd) (by omega) (by omega))) w hw) (by omega) (by omega)) ?_)|(show ∀ _:Nat,T _ _ _ _ _;intro _))
   refine T_if rfl (fun h2=>?_) (fun h2=>?_)
   ·simp only [Bool.or_eq_true,decide_eq_true_eq] at h2
    have es2:accW (grdOf c a b) i k (jj+1)=(via (grdOf c a b) i k v,wys (grdOf c a b) (i+v.fst) (k+v.snd)):=by
     rw [es];unfold stepW;rw [if_pos]
     rcases h2 with h2|h2
     ·exact .inl (by omega)
     ·exact .inr h2
    repeat' (first|refine d1 ?_|(show T _ (.ops _ (_::_)::_) _ _ _;refine T_call rfl rfl rfl rfl rfl (fun w hw=>gridAt_spec b2 0 (n+1) (n+1) g2 0 (m+1) (m+1) (i+v.fst) (k+v.snd) (wys (grdOf c a b) (i+v.fst) (k+v.snd)) w (rdOwn1 (b:=b2) (by rw [Nat.zero_add,List.getElem?_map,hV2];rfl) w hw) (rdM hV2 (get1 (by rw [hc2, ← ew];exact vget (k+v.snd) (by omega) (by omega))) w hw) (by omega) (by omega)) ?_)|fail)
    exact T_backX (jj+1) (Nat.succ_le_of_lt hjl) (by omega) (hE:=⟨rfl,by rw [es2];rfl,by rw [es2];rfl,trivial⟩) (hG:=Hle.tail _ _)
   ·simp only [Bool.or_eq_false_iff,decide_eq_false_iff_not] at h2
    have hn2:¬ (jj=0∨via (grdOf c a b) i k v<(accW (grdOf c a b) i k jj).1):=fun hh=>hh.elim (fun h3=>h2.1 (by omega)) (fun h3=>h2.2 h3)
    repeat' (first|refine d1 ?_|fail)
    refine T_if rfl (fun h3=>?_) (fun h3=>?_)
    ·simp only [decide_eq_true_eq] at h3
     have es2:accW (grdOf c a b) i k (jj+1)=((accW (grdOf c a b) i k jj).1,min ((accW (grdOf c a b) i k jj).2+wys (grdOf c a b) (i+v.fst) (k+v.snd)) big):=by
      rw [es];unfold stepW;rw [if_neg hn2,if_pos (show via (grdOf c a b) i k v=(accW (grdOf c a b) i k jj).1 from h3)]
     repeat' (first|refine d1 ?_|(show T _ (.ops _ (_::_)::_) _ _ _;refine T_call rfl rfl rfl rfl rfl (fun w hw=>gridAt_spec b2 0 (n+1) (n+1) g2 0 (m+1) (m+1) (i+v.fst) (k+v.snd) (wys (grdOf c a b) (i+v.fst) (k+v.snd)) w (rdOwn1 (b:=b2) (by rw [Nat.zero_add,List.getElem?_map,hV2];rfl) w hw) (rdM hV2 (get1 (by rw [hc2, ← ew];exact vget (k+v.snd) (by omega) (by omega))) w hw) (by omega) (by omega)) ?_)|fail)
     exact T_backX (jj+1) (Nat.succ_le_of_lt hjl) (by omega) (hE:=⟨rfl,by rw [es2];rfl,by rw [es2];rfl,trivial⟩) (hG:=Hle.tail _ _)
    ·simp only [decide_eq_false_iff_not] at h3
     have es2:accW (grdOf c a b) i k (jj+1)=accW (grdOf c a b) i k jj:=by
      rw [es];unfold stepW;rw [if_neg hn2,if_neg (show ¬ via (grdOf c a b) i k v=(accW (grdOf c a b) i k jj).1 from h3)]
     repeat' (first|refine d1 ?_|fail)
     exact T_backX (jj+1) (Nat.succ_le_of_lt hjl) (by omega) (hE:=⟨rfl,by rw [es2];rfl,by rw [es2];rfl,trivial⟩) (hG:=Hle.tail _ _)
  ·simp only [decide_eq_false_iff_not] at h
   obtain rfl:jj=(mvs (grdOf c a b) i k).length:=by omega
   rw [accW_all]
   obtain⟨⟨g1,c1⟩,hV1⟩:∃ x,M1[i]?=some x:=⟨_,List.getElem?_eq_getElem (by omega)⟩
   obtain⟨⟨g2,c2⟩,hV2⟩:∃ x,M2[i]?=some x:=⟨_,List.getElem?_eq_getElem (by omega)⟩
   have hl1:c1.length=m+1:=by rw [show c1=_ from hS1 _ _ hV1,valV_length]
   have hl2:c2.length=m+1:=by rw [show c2=_ from hS2 _ _ hV2,valV_length]
   skip
   refine dw0 1000 [blk p4 [.slice (some ⟨b1,0,none⟩) (n+1) (n+1)] 168,blk p5 [.slice (some ⟨b2,0,none⟩) (n+1) (n+1)] 168,blk b1 (M1.map (slv m)) 47,blk b2 (M2.map (slv m)) 47] ?_
   repeat' (first|(show T _ (.draw _ _ _ _ _::_) _ _ _;first|refine dw1 ?_|refine dwv rfl (by decide +kernel) rfl rfl (Val.load rfl (fun hg=>rdOwn1 (u := .slice (some ⟨g1,0,none⟩) (m+1) (m+1)) (b:=b1) (by rw [show 0+(i:Int).toNat * 1=i by omega,List.getElem?_map,hV1];rfl))) rfl rfl rfl ?_|refine dwv rfl (by decide +kernel) rfl rfl (Val.load rfl (fun hg=>rdOwn1 (u := .slice (some ⟨g2,0,none⟩) (m+1) (m+1)) (b:=b2) (by rw [show 0+(i:Int).toNat * 1=i by omega,List.getElem?_map,hV2];rfl))) rfl rfl rfl ?_|refine dwb rfl (by decide +kernel) ?_)|(show AllL _ [];exact True.intro)|(show AllL _ (_::_);refine ⟨?_,?_⟩)|(show OpT _ _ _ _ _ _ _;first|refine OpT.storeM rfl rfl rfl hV1 rfl (by rw [hl1];omega) ⟨fun _=>(by first|exact Hle.none _|exact Hle.sub|exact absurd ‹_› (by decide +kernel)),?_⟩|refine OpT.storeM (hf:=@FocusMW.tail _ _ _ _ _ (@FocusMW.tail _ _ _ _ _ (@FocusMW.tail _ _ _ _ _ (FocusMW.head _ _ _)))) rfl rfl rfl hV2 rfl (by rw [hl2];omega) ⟨fun _=>(by first|exact Hle.none _|exact Hle.sub|exact absurd ‹_› (by decide +kernel)),?_⟩)|fail)
   rw [show 0+(k:Int).toNat * 1=k by omega]
   refine T_next [blks 3 (M1.set i (g1,c1.set k (.int .i64 (rst (grdOf c a b) i k)))),blks 3 (M2.set i (g2,c2.set k (.int .i64 (wys (grdOf c a b) i k)))),blk p4 [.slice (some ⟨b1,0,none⟩) (n+1) (n+1)] 168,blk p5 [.slice (some ⟨b2,0,none⟩) (n+1) (n+1)] 168,blk b1 ((M1.set i (g1,c1.set k (.int .i64 (rst (grdOf c a b) i k)))).map (slv m)) 47,blk b2 ((M2.set i (g2,c2.set k (.int .i64 (wys (grdOf c a b) i k)))).map (slv m)) 47,blk p7 [.func (.func 144) #[.slice (some ⟨b1,0,none⟩) (n+1) (n+1)] #[]] 171,blk pc (srcsL c A B n m ca cb x y) 165] ⟨_,_,by rw [List.length_set];exact hM1,by rw [List.length_set];exact hM2,rows_put hS1 hV1 (soFar_step hp _),rows_put hS2 hV2 (soFar_step hp _),rfl⟩ ?_
   rw [slv_set hV1,slv_set hV2]
   exact Hle.tail _ _
 ·rintro D Hn ⟨M1,M2,hM1,hM2,hS1,hS2,rfl⟩
  have hR1':RowsOk (rst (grdOf c a b)) (m+1) M1:=hS1.ext hM1 fun i k hi hk=>soFar_all (by unfold placeVs;rw [List.length_map];exact Nat.le_refl _) _ (by omega) (by omega)
  have hR2':RowsOk (wys (grdOf c a b)) (m+1) M2:=hS2.ext hM2 fun i k hi hk=>soFar_all (by unfold placeVs;rw [List.length_map];exact Nat.le_refl _) _ (by omega) (by omega)
  show T _ _ _ _ (dfr D::blk g _ 165::blks 3 M1::blks 3 M2::blk p4 [.slice (some ⟨b1,0,none⟩) (n+1) (n+1)] 168::blk p5 [.slice (some ⟨b2,0,none⟩) (n+1) (n+1)] 168::blk b1 (M1.map (slv m)) 47::blk b2 (M2.map (slv m)) 47::blk p7 [.func (.func 144) #[.slice (some ⟨b1,0,none⟩) (n+1) (n+1)] #[]] 171::blk pc (srcsL c A B n m ca cb x y) 165::[])
  have hle:Hle [blks 3 M1,blks 3 M2,blk p4 [.slice (some ⟨b1,0,none⟩) (n+1) (n+1)] 168,blk p5 [.slice (some ⟨b2,0,none⟩) (n+1) (n+1)] 168,blk b1 (M1.map (slv m)) 47,blk b2 (M2.map (slv m)) 47,blk p7 [.func (.func 144) #[.slice (some ⟨b1,0,none⟩) (n+1) (n+1)] #[]] 171,blk pc (srcsL c A B n m ca cb x y) 165] [dat [.slice (some ⟨b1,0,none⟩) (n+1) (n+1)] [rowsD (tabR n m (rst (grdOf c a b)))],dat [.slice (some ⟨b2,0,none⟩) (n+1) (n+1)] [rowsD (tabR n m (wys (grdOf c a b)))]]:=(Hle.srt (K:=[blk b1 (M1.map (slv m)) 47,blks 3 M1,blk b2 (M2.map (slv m)) 47,blks 3 M2])).trans (tables_hle hnb hmb hM1 hM2 hR1' hR2')
  repeat' (first|refine dd ?_|(show T _ (.code .ret::_) _ _ _;refine T_retD (Hle.refl _) (rf_V (vs:=[.slice (some ⟨b1,0,none⟩) (n+1) (n+1), .slice (some ⟨b2,0,none⟩) (n+1) (n+1)]) _ rfl ((Hle.tail _ _).trans hle) ⟨(_,_),rfl,rfl⟩)))
end Go.Proofs.YtblnhdnogjijiaaGreatDoor
namespace Go.Proofs.YtblnhdnogjijiaaGreatDoor
open Go.RowKit Go.Shelf Go.Proofs
set_option maxRecDepth 100000
set_option maxHeartbeats 1000000

structure Two (w:World) (A B:Option Addr) (n m:Nat) (a b:List Tok):Prop where
 hst:Std w
 ha:Src w 6 A n (a.flatMap Tok.cells)
 hn:a.length=n
 hnb:n≤1000
 hb:Src w 6 B m (b.flatMap Tok.cells)
 hm:b.length=m
 hmb:m≤1000
 hsa:∀ t∈a,t.small
 hsb:∀ t∈b,t.small
theorem Two.cls {w0 w:World} {H:List HA} {A B:Option Addr} {n m:Nat} {a b:List Tok} (h:Two w0 A B n m a b) (hw:Cls w0 w H):Two w A B n m a b :=
 ⟨h.hst.cls hw,⟨h.ha.1,fun q=>⟨(h.ha.2 q).1,(h.ha.2 q).2.old hw⟩⟩,h.hn,h.hnb,⟨h.hb.1,fun q=>⟨(h.hb.2 q).1,(h.hb.2 q).2.old hw⟩⟩,h.hm,h.hmb,h.hsa,h.hsb⟩
theorem Two.bad {w:World} {A B:Option Addr} {n m:Nat} {a b:List Tok} (h:Two w A B n m a b) (c:Costs) (ca cb:Nat) (hk:ckV c a b≠0) :
  Spec Tryz.prog 142 [c.val, .slice A n ca, .slice B m cb] w (fun v R=>v = .tuple #[.agg (srcsL ⟨0,0,0,0⟩ none none 0 0 0 0 (.slice none 0 0) (.slice none 0 0)).toArray, .int .i64 1]∧R=[]) :=
 pcheck_bad c A B n m ca cb a b w h.hst h.ha h.hn h.hnb h.hb h.hm h.hmb h.hsa h.hsb hk
theorem Two.ok {w:World} {A B:Option Addr} {n m:Nat} {a b:List Tok} (h:Two w A B n m a b) (c:Costs) (ca cb:Nat) (hk:ckV c a b=0) :
  Spec Tryz.prog 142 [c.val, .slice A n ca, .slice B m cb] w (fun v R=>∃ x:Value × Value,v = .tuple #[.agg (srcsL c A B n m ca cb x.1 x.2).toArray, .int .i64 0]∧R=[dat [x.1] [intsD (gaL c a)],dat [x.2] [intsD (gaL c b)]]) :=
 pcheck_ok c A B n m ca cb a b w h.hst h.ha h.hn h.hnb h.hb h.hm h.hmb h.hsa h.hsb hk
theorem Two.grid {w:World} {A B:Option Addr} {n m:Nat} {a b:List Tok} (h:Two w A B n m a b) (c:Costs) (ca cb:Nat) (x y:Value) (hk:ckV c a b=0) (hx:Rd (wr w) [x] [intsD (gaL c a)]) (hy:Rd (wr w) [y] [intsD (gaL c b)]) :
  Spec Tryz.prog 143 [.agg (srcsL c A B n m ca cb x y).toArray] w (fun v R=>∃ z:Value × Value,v = .tuple #[z.1,z.2]∧R=[dat [z.1] [rowsD (tabR n m (rst (grdOf c a b)))],dat [z.2] [rowsD (tabR n m (wys (grdOf c a b)))]]) :=
 pgrid_spec c A B n m ca cb a b x y w h.hst h.ha h.hn h.hnb h.hb h.hm h.hmb h.hsa h.hsb hk hx hy
def distV (c:Costs) (a b:List Tok):Int × Int:=if ckV c a b=0 then (rst (grdOf c a b) 0 0,0) else (0,1)
theorem T_open2 {C:Cx} {k:List It} {env:Env} {ec:EnvC} {H:List HA} {vs us:List Value} {ds es:List D} (h:∀ p q,Rd (fr p) vs ds→Rd (fr q) us es→T C k env ec (fz p::fz q::H)):T C k env ec (dat vs ds::dat us es::H):=by
 refine T_open fun p hp=>?_
 refine T_le (H':=dat us es::fz p::H) (Hle.perm (List.Perm.swap _ _ _)) ?_
 refine T_open fun q hq=>?_
 exact T_le (Hle.perm (List.Perm.swap _ _ _)) (h p q hp hq)
theorem gridAt_rd {w:World} {x:Value} {n m i k:Nat} {f:Nat→Nat→Int} (h:Rd (wr w) [x] [rowsD (tabR n m f)]) (hi:i≤n) (hk:k≤m) :
  Spec Tryz.prog 144 [x, .int .i64 (i:Nat), .int .i64 (k:Nat)] w (fun v R=>v = .int .i64 (f i k)∧R=[]):=by
 obtain⟨A,cap,cs,rfl,-,-,-,hA,hrows⟩:=h.tab
 rw [tabR_length] at hA ⊢
 obtain⟨b,o,rfl,hb⟩:=hA (by omega)
 obtain⟨A',cap',hcs,-,-,hA'⟩:=hrows.tabRow (tabR_get hi)
 rw [List.length_map,List.length_range] at hcs hA'
 obtain⟨b',o',rfl,hb'⟩:=hA' (by omega)
 exact gridAt_spec b o _ cap b' o' _ cap' i k _ w (RdC.one (hb i _ hcs)) (RdC.one (hb' k _ (tabR_cell hk))) (by omega) (by omega)
theorem distancePrg_spec (c:Costs) (A B:Option Addr) (n m ca cb:Nat) (a b:List Tok) (w:World) (h2:Two w A B n m a b) :
  Spec Tryz.prog 88 [c.val, .slice A n ca, .slice B m cb] w (fun v R=>v = .tuple #[.int .i64 (distV c a b).1, .int .i64 (distV c a b).2]∧R=[]):=by
 refine spec_of sg Tryz.func88 rfl rfl rfl ?_
 refine T_op (OpT.box (cs:=c.cells) rfl rfl rfl rfl rfl rfl rfl (fun pc=>?_))
 by_cases hk:ckV c a b=0
 ·have e:distV c a b=(rst (grdOf c a b) 0 0,0):=if_pos hk
  rw [e]
  repeat' (first|refine d1 ?_|(show T _ (.ops _ (_::_)::_) _ _ _;refine T_op (OpT.call rfl rfl rfl rfl rfl (fun w hw=>(h2.cls hw).ok c ca cb hk) ?_))|fail)
  rintro v R ⟨⟨x,y⟩,rfl,rfl⟩
  dsimp only
  refine T_le (H':=[dat [x] [intsD (gaL c a)],dat [y] [intsD (gaL c b)],blk pc c.cells 23]) (Hle.refl _) ?_
  refine T_open2 fun p q hp hq=>?_
  obtain⟨A1,cap1,rfl,-,-,-⟩:=hp.row1
  obtain⟨A2,cap2,rfl,-,-,-⟩:=hq.row1
  repeat' (first|refine d1 ?_|(show ∀ _:Nat,T _ _ _ _ _;intro _))
  rename_i p8
  refine T_le (H':=[blk p8 (srcsL c A B n m ca cb (.slice A1 (gaL c a).length cap1) (.slice A2 (gaL c b).length cap2)) 165,fz p,fz q,blk pc c.cells 23]) (Hle.refl _) ?_
  refine T_if rfl (fun h=>?_) (fun h=>?_)
  ·cases h
  repeat' (first|refine d1 ?_|(show T _ (.ops _ (_::_)::_) _ _ _;refine T_op (OpT.call rfl rfl rfl rfl rfl (fun w hw=>(h2.cls hw).grid c ca cb _ _ hk (hp.own hw) (hq.own hw)) ?_))|fail)
  rintro v R ⟨⟨s,t⟩,rfl,rfl⟩
  dsimp only [List.cons_append,List.nil_append]
  refine T_le (H':=[dat [s] [rowsD (tabR n m (rst (grdOf c a b)))],dat [t] [rowsD (tabR n m (wys (grdOf c a b)))]]) Hle.srt ?_
  refine T_open2 fun p' q' hp' hq'=>?_
  repeat' (first|refine d1 ?_|(show T _ (.ops _ (_::_)::_) _ _ _;refine T_call rfl rfl rfl rfl rfl (fun w hw=>gridAt_rd (i:=0) (k:=0) (hp'.own hw) (by omega) (by omega)) ?_)|(show T _ (.code .ret::_) _ _ _;refine T_retV [] rfl (Hle.none _) ⟨rfl,rfl⟩))
 ·have e:distV c a b=(0,1):=if_neg hk
  rw [e]
  repeat' (first|refine d1 ?_|(show T _ (.ops _ (_::_)::_) _ _ _;refine T_call rfl rfl rfl rfl rfl (fun w hw=>(h2.cls hw).bad c ca cb hk) ?_)|(show ∀ _:Nat,T _ _ _ _ _;intro _))
  refine T_if rfl (fun h=>?_) (fun h=>?_)
  ·repeat' (first|refine d1 ?_|(show T _ (.code .ret::_) _ _ _;refine T_retV [] rfl (Hle.none _) ⟨rfl,rfl⟩))
  ·cases h
end Go.Proofs.YtblnhdnogjijiaaGreatDoor
namespace Go.Proofs.YtblnhdnogjijiaaGreatDoor
open Go.RowKit Go.Shelf Go.Proofs
set_option maxRecDepth 100000
set_option maxHeartbeats 1000000

def fitsV (a b:List Tok):Int:=if badL a=true∨badL b=true then 1 else 0
theorem fits18_spec (A B:Option Addr) (n m ca cb:Nat) (a b:List Tok) (w:World) (h2:Two w A B n m a b) :
  Spec Tryz.prog 258 [.slice A n ca, .slice B m cb] w (fun v R=>v = .int .i64 (fitsV a b)∧R=[]):=by
 obtain⟨hst,ha,hn,hnb,hb,hm,hmb,hsa,hsb⟩:=h2
 have hsz:=size_law hnb hmb
 refine spec_of sg Tryz.func258 rfl rfl rfl ?_
 repeat' (first|refine d1 ?_|fail)
 refine T_loopX (fun k:Nat=>[(5, .int .i64 k)]) (fun _=>[]) (fun k=>k≤n∧∀ j,j<k→tokE (tkA a j)=0) (fun k=>n - k) 0 ⟨by omega,fun j h=>by omega⟩ ?_
 rintro k ⟨hk,hok⟩
 repeat' (first|refine d1 ?_|fail)
 refine T_if rfl (fun h=>?_) (fun h=>?_)
 ·simp only [decide_eq_true_eq] at h
  obtain⟨ba,oa,rfl⟩:=ha.base (by omega)
  have hr:RdC w ba (oa+(k:Int).toNat * 6) (tkA a k).cells:=ha.getT (by omega) (tkA_get (by omega))
  repeat' (first|refine d1 ?_|(show T _ (.ops _ (_::_)::_) _ _ _;refine T_call rfl rfl rfl rfl rfl (fun w hw=>tokRef_spec (tkA a k) w) ?_)|fail)
  refine T_if rfl (fun h1=>?_) (fun h1=>?_)
  ·repeat' (first|refine d1 ?_|(show T _ (.code .ret::_) _ _ _;refine T_retV [] rfl (Hle.none _) ⟨?_,rfl⟩))
   have:badL a=true:=by unfold badL;rw [List.any_eq_true];exact⟨_,tkA_mem (by omega),h1⟩
   unfold fitsV;rw [if_pos (.inl this)];rfl
  ·simp only [Bool.not_eq_false',decide_eq_true_eq] at h1
   repeat' (first|refine d1 ?_|fail)
   refine T_backX (k+1) ⟨by omega,fun j hj=>?_⟩ (by omega)
   rcases Nat.lt_or_ge j k with h3|h3
   ·exact hok j h3
   ·rw [show j=k by omega];exact h1
 simp only [decide_eq_false_iff_not] at h
 have hA:badL a=false:=badL_false.2 fun t ht=>by
  obtain⟨i,hi,e⟩:=List.getElem_of_mem ht
  have:=hok i (by omega)
  have e2:=tkA_get hi
  rw [List.getElem?_eq_getElem hi,e] at e2
  rw [Option.some.inj e2];exact this
 repeat' (first|refine d1 ?_|fail)
 refine T_loopX (fun k:Nat=>[(6, .int .i64 k)]) (fun _=>[]) (fun k=>k≤m∧∀ j,j<k→tokE (tkA b j)=0) (fun k=>m - k) 0 ⟨by omega,fun j h=>by omega⟩ ?_
 rintro k2 ⟨hk2,hok2⟩
 repeat' (first|refine d1 ?_|fail)
 refine T_if rfl (fun h=>?_) (fun h=>?_)
 ·simp only [decide_eq_true_eq] at h
  obtain⟨bb,ob,rfl⟩:=hb.base (by omega)
  have hr:RdC w bb (ob+(k2:Int).toNat * 6) (tkA b k2).cells:=hb.getT (by omega) (tkA_get (by omega))
  repeat' (first|refine d1 ?_|(show T _ (.ops _ (_::_)::_) _ _ _;refine T_call rfl rfl rfl rfl rfl (fun w hw=>tokRef_spec (tkA b k2) w) ?_)|fail)
  refine T_if rfl (fun h1=>?_) (fun h1=>?_)
  ·repeat' (first|refine d1 ?_|(show T _ (.code .ret::_) _ _ _;refine T_retV [] rfl (Hle.none _) ⟨?_,rfl⟩))
   have:badL b=true:=by unfold badL;rw [List.any_eq_true];exact⟨_,tkA_mem (by omega),h1⟩
   unfold fitsV;rw [if_pos (.inr this)];rfl
  ·simp only [Bool.not_eq_false',decide_eq_true_eq] at h1
   repeat' (first|refine d1 ?_|fail)
   refine T_backX (k2+1) ⟨by omega,fun j hj=>?_⟩ (by omega)
   rcases Nat.lt_or_ge j k2 with h3|h3
   ·exact hok2 j h3
   ·rw [show j=k2 by omega];exact h1
 simp only [decide_eq_false_iff_not] at h
 have hB:badL b=false:=badL_false.2 fun t ht=>by
  obtain⟨i,hi,e⟩:=List.getElem_of_mem ht
  have:=hok2 i (by omega)
  have e2:=tkA_get hi
  rw [List.getElem?_eq_getElem hi,e] at e2
  rw [Option.some.inj e2];exact this
 repeat' (first|refine d1 ?_|fail)
 refine T_if rfl (fun h3=>?_) (fun h3=>?_)
 ·exfalso
  simp only [Bool.or_eq_true,decide_eq_true_eq] at h3
  omega
 repeat' (first|refine d1 ?_|(show T _ (.code .ret::_) _ _ _;refine T_retV [] rfl (Hle.none _) ⟨?_,rfl⟩))
 unfold fitsV;rw [hA,hB];rfl
theorem ck18_spec (c:Costs) (A B:Option Addr) (n m ca cb:Nat) (a b:List Tok) (w:World) (h2:Two w A B n m a b) :
  Spec Tryz.prog 218 [c.val, .slice A n ca, .slice B m cb] w (fun v R=>v = .int .i64 (ckV c a b)∧R=[]):=by
 refine spec_of sg Tryz.func218 rfl rfl rfl ?_
 refine T_op (OpT.box (cs:=c.cells) rfl rfl rfl rfl rfl rfl rfl (fun pc=>?_))
 repeat' (first|refine d1 ?_|(show T _ (.ops _ (_::_)::_) _ _ _;refine T_call rfl rfl rfl rfl rfl (fun w hw=>costRef_spec c w) ?_)|fail)
 refine T_if rfl (fun h=>?_) (fun h=>?_)
 ·simp only [Bool.not_eq_true',decide_eq_false_iff_not] at h
  repeat' (first|refine d1 ?_|(show T _ (.code .ret::_) _ _ _;refine T_retV [] rfl (Hle.none _) ⟨?_,rfl⟩))
  unfold ckV;rw [if_pos (.inl h)];rfl
 ·simp only [Bool.not_eq_false',decide_eq_true_eq] at h
  repeat' (first|refine d1 ?_|(show T _ (.ops _ (_::_)::_) _ _ _;refine T_call rfl rfl rfl rfl rfl (fun w hw=>fits18_spec A B n m ca cb a b w (h2.cls hw)) ?_)|(show T _ (.code .ret::_) _ _ _;refine T_retV [] rfl (Hle.none _) ⟨?_,rfl⟩))
  unfold ckV fitsV;rw [h];simp;rfl
end Go.Proofs.YtblnhdnogjijiaaGreatDoor
namespace Go.Proofs.YtblnhdnogjijiaaGreatDoor
open Go.RowKit Go.Shelf Go.Proofs
set_option maxRecDepth 100000
set_option maxHeartbeats 1000000

def colV (G:Grd) (u v:Int):Int:=if 0≤u∧0≤v then G.p u.toNat v.toNat else if 0≤u then G.g u.toNat else G.h v.toNat
theorem column18_spec (c:Costs) (A B:Option Addr) (n m ca cb:Nat) (a b:List Tok) (u v:Int) (w:World) (h2:Two w A B n m a b) (hk:ckV c a b=0) (hu:u<n) (hv:v<m) (huv:0≤u∨0≤v) :
  Spec Tryz.prog 284 [c.val, .slice A n ca, .slice B m cb, .int .i64 u, .int .i64 v] w (fun x R=>x = .int .i64 (colV (grdOf c a b) u v)∧R=[]):=by
 obtain⟨hst,ha,hn,hnb,hb,hm,hmb,hsa,hsb⟩:=h2
 obtain⟨hc,ka,kb⟩:=ckV_ok hk
 have hga:∀ i,i<n→gapV c (tkA a i)=(gapC c (tkA a i),0):=fun i hi=>by unfold gapV;rw [if_pos ⟨hc,ka _ (tkA_mem (by omega))⟩]
 have hgb:∀ i,i<m→gapV c (tkA b i)=(gapC c (tkA b i),0):=fun i hi=>by unfold gapV;rw [if_pos ⟨hc,kb _ (tkA_mem (by omega))⟩]
 have hp:∀ i k,i<n→k<m→pairV c (tkA a i) (tkA b k)=(pairC c (tkA a i) (tkA b k),0):=fun i k hi hk=>by unfold pairV;rw [if_pos ⟨hc,ka _ (tkA_mem (by omega)),kb _ (tkA_mem (by omega))⟩]
 refine spec_of sg Tryz.func284 rfl rfl rfl ?_
 refine T_op (OpT.box (cs:=c.cells) rfl rfl rfl rfl rfl rfl rfl (fun pc=>?_))
 repeat' (first|refine d1 ?_|fail)
 refine T_if rfl (fun h=>?_) (fun h=>?_)
 ·simp only [Bool.and_eq_true,decide_eq_true_eq] at h
  obtain⟨i,rfl⟩:=Int.eq_ofNat_of_zero_le h.1
  obtain⟨k,rfl⟩:=Int.eq_ofNat_of_zero_le h.2
  obtain⟨ba,oa,rfl⟩:=ha.base (by omega)
  obtain⟨bb,ob,rfl⟩:=hb.base (by omega)
  have hr1:RdC w ba (oa+(i:Int).toNat * 6) (tkA a i).cells:=ha.getT (by omega) (tkA_get (by omega))
  have hr2:RdC w bb (ob+(k:Int).toNat * 6) (tkA b k).cells:=hb.getT (by omega) (tkA_get (by omega))
  repeat' (first|refine d1 ?_|refine dd ?_|(show T _ (.run _ _ (_::_) _ _::_) _ _ _;refine rc rfl rfl rfl rfl rfl rfl rfl (fun w hw=>pairTopRef_spec c (tkA a i) (tkA b k) w) ?_)|fail)
  rw [hp i k (by omega) (by omega)]
  repeat' (first|(show T _ (.code .ret::_) _ _ _;refine T_retV [] rfl (Hle.none _) ⟨?_,rfl⟩))
  unfold colV;rw [if_pos h];rfl
 ·have h':¬ (0≤u∧0≤v):=fun hh=>by rw [decide_eq_true hh.1,decide_eq_true hh.2] at h;cases h
  repeat' (first|refine d1 ?_|fail)
  refine T_if rfl (fun h1=>?_) (fun h1=>?_)
  ·simp only [decide_eq_true_eq] at h1
   obtain⟨i,rfl⟩:=Int.eq_ofNat_of_zero_le h1
   obtain⟨ba,oa,rfl⟩:=ha.base (by omega)
   have hr1:RdC w ba (oa+(i:Int).toNat * 6) (tkA a i).cells:=ha.getT (by omega) (tkA_get (by omega))
   repeat' (first|refine d1 ?_|refine dd ?_|(show T _ (.run _ _ (_::_) _ _::_) _ _ _;refine rc rfl rfl rfl rfl rfl rfl rfl (fun w hw=>gapTopRef_spec c (tkA a i) w) ?_)|fail)
   rw [hga i (by omega)]
   repeat' (first|(show T _ (.code .ret::_) _ _ _;refine T_retV [] rfl (Hle.none _) ⟨?_,rfl⟩))
   unfold colV;rw [if_neg h',if_pos h1];rfl
  ·simp only [decide_eq_false_iff_not] at h1
   obtain⟨k,rfl⟩:=Int.eq_ofNat_of_zero_le (show 0≤v by omega)
   obtain⟨bb,ob,rfl⟩:=hb.base (by omega)
   have hr2:RdC w bb (ob+(k:Int).toNat * 6) (tkA b k).cells:=hb.getT (by omega) (tkA_get (by omega))
   repeat' (first|refine d1 ?_|refine dd ?_|(show T _ (.run _ _ (_::_) _ _::_) _ _ _;refine rc rfl rfl rfl rfl rfl rfl rfl (fun w hw=>gapTopRef_spec c (tkA b k) w) ?_)|fail)
   rw [hgb k (by omega)]
   repeat' (first|(show T _ (.code .ret::_) _ _ _;refine T_retV [] rfl (Hle.none _) ⟨?_,rfl⟩))
   unfold colV;rw [if_neg h',if_neg h1];rfl
def mvCol (i k:Nat) (x:Mv):List Int:=[if x.fst=1 then (i:Int) else -1,if x.snd=1 then (k:Int) else -1]
def mvR (G:Grd) (i k:Nat):List (List Int):=(mvs G i k).map (mvCol i k)
theorem mv_join {o b:Nat} {oc ic hs hs':List Value} {to e:TypeId} {ti:TypeId} {sz cap n:Nat} {A:Option Addr} {ds:List D} {H:List HA} (hi:ic.length=2) :
  Hle (blk o oc to::blk b ic ti::row e sz A cap n hs'::dat hs ds::H) (row e sz A cap n hs'::dat (hs++[.slice (some ⟨b,0,none⟩) 2 2]) (ds++[.s 1 (ic.map .v)])::H):=by
 refine (Hle.tail _ _).trans ((dat_blkV (sz:=1) (n:=2) (by omega) (by omega)).trans ?_)
 refine (Hle.perm ?_).trans (dat_join.trans (Hle.perm (List.Perm.swap (row e sz A cap n hs') _ H)))
 exact (List.Perm.swap _ _ _).symm.trans (List.Perm.trans (List.Perm.swap _ _ _) (List.Perm.cons _ (List.Perm.swap _ _ _)))
theorem moves18_spec (c:Costs) (A B:Option Addr) (n m ca cb:Nat) (a b:List Tok) (i k:Nat) (w:World) (hn:a.length=n) (hnb:n≤1000) (hm:b.length=m) (hmb:m≤1000) (hi:i≤n) (hk:k≤m) :
  Spec Tryz.prog 259 [.slice A n ca, .slice B m cb, .int .i64 (i:Nat), .int .i64 (k:Nat)] w (fun v R=>∃ x:Value,True∧v=x∧R=[dat [x] [rowsD (mvR (grdOf c a b) i k)]]):=by
 refine spec_of sg Tryz.func259 rfl rfl rfl ?_
 repeat' (first|refine d1 ?_|(show ∀ _:Nat,T _ _ _ _ _;intro _))
 rename_i b0
 refine T_le (H':=[row 47 1 (some ⟨b0,0,none⟩) 0 0 [],dat [] []]) ((Hle.weaken (i:=0) rfl (blk_row (sz:=1) (n:=0) rfl (by simp only [maxLen];omega)) rfl).trans ((dat_nil _).trans (Hle.perm (List.Perm.swap _ _ _)))) ?_
 by_cases hi2:i<n
 ·by_cases hk2:k<m
  ·have em:mvs (grdOf c a b) i k=_:=mvs_both (by show i<a.length;omega) (by show k<b.length;omega)
   have em2:mvR (grdOf c a b) i k=_:=congrArg (List.map (mvCol i k)) em
   rw [em2]
   refine T_if rfl (fun h=>?_) (fun h=>by exfalso;simp only [Bool.and_eq_false_iff,decide_eq_false_iff_not] at h;omega)
   repeat' (first|refine d1 ?_|(show T _ (.ops _ (_::_)::_) _ _ _;refine T_op (OpT.append rfl rfl rfl rfl rfl rfl rfl rfl rfl rfl (fun w hw=>Src.own hw rfl) rfl (by dsimp only;omega) (by omega) (fun A' cap' hA'=>?_)))|(show ∀ _:Nat,T _ _ _ _ _;intro _))
   refine T_le (mv_join rfl) ?_
   refine T_if rfl (fun h=>?_) (fun h=>by exfalso;simp only [Bool.and_eq_false_iff,decide_eq_false_iff_not] at h;omega)
   repeat' (first|refine d1 ?_|(show T _ (.ops _ (_::_)::_) _ _ _;refine T_op (OpT.append rfl rfl rfl rfl rfl rfl rfl rfl rfl rfl (fun w hw=>Src.own hw rfl) rfl (by dsimp only;omega) (by omega) (fun A' cap' hA'=>?_)))|(show ∀ _:Nat,T _ _ _ _ _;intro _))
   refine T_le (mv_join rfl) ?_
   refine T_if rfl (fun h=>?_) (fun h=>by exfalso;simp only [Bool.and_eq_false_iff,decide_eq_false_iff_not] at h;omega)
   repeat' (first|refine d1 ?_|(show T _ (.ops _ (_::_)::_) _ _ _;refine T_op (OpT.append rfl rfl rfl rfl rfl rfl rfl rfl rfl rfl (fun w hw=>Src.own hw rfl) rfl (by dsimp only;omega) (by omega) (fun A' cap' hA'=>?_)))|(show ∀ _:Nat,T _ _ _ _ _;intro _))
   refine T_le (mv_join rfl) ?_
   exact T_retV _ rfl (dat_row) ⟨_,trivial,rfl,rfl⟩
  ·have em:mvs (grdOf c a b) i k=_:=mvs_fst (by show i<a.length;omega) (by show ¬ k<b.length;omega)
   have em2:mvR (grdOf c a b) i k=_:=congrArg (List.map (mvCol i k)) em
   rw [em2]
   refine T_if rfl (fun h=>by exfalso;simp only [Bool.and_eq_true,decide_eq_true_eq] at h;omega) (fun h=>?_)
   repeat' (first|refine d1 ?_|fail)
   refine T_if rfl (fun h=>?_) (fun h=>by exfalso;simp only [Bool.and_eq_false_iff,decide_eq_false_iff_not] at h;omega)
   repeat' (first|refine d1 ?_|(show T _ (.ops _ (_::_)::_) _ _ _;refine T_op (OpT.append rfl rfl rfl rfl rfl rfl rfl rfl rfl rfl (fun w hw=>Src.own hw rfl) rfl (by dsimp only;omega) (by omega) (fun A' cap' hA'=>?_)))|(show ∀ _:Nat,T _ _ _ _ _;intro _))
   refine T_le (mv_join rfl) ?_
   refine T_if rfl (fun h=>by exfalso;simp only [Bool.and_eq_true,decide_eq_true_eq] at h;omega) (fun h=>?_)
   repeat' (first|refine d1 ?_|fail)
   exact T_retV _ rfl (dat_row) ⟨_,trivial,rfl,rfl⟩
 ·by_cases hk2:k<m
  ·have em:mvs (grdOf c a b) i k=_:=mvs_snd (by show ¬ i<a.length;omega) (by show k<b.length;omega)
   have em2:mvR (grdOf c a b) i k=_:=congrArg (List.map (mvCol i k)) em
   rw [em2]
   refine T_if rfl (fun h=>by exfalso;simp only [Bool.and_eq_true,decide_eq_true_eq] at h;omega) (fun h=>?_)
   repeat' (first|refine d1 ?_|fail)
   refine T_if rfl (fun h=>by exfalso;simp only [Bool.and_eq_true,decide_eq_true_eq] at h;omega) (fun h=>?_)
   repeat' (first|refine d1 ?_|fail)
   refine T_if rfl (fun h=>?_) (fun h=>by exfalso;simp only [Bool.and_eq_false_iff,decide_eq_false_iff_not] at h;omega)
   repeat' (first|refine d1 ?_|(show T _ (.ops _ (_::_)::_) _ _ _;refine T_op (OpT.append rfl rfl rfl rfl rfl rfl rfl rfl rfl rfl (fun w hw=>Src.own hw rfl) rfl (by dsimp only;omega) (by omega) (fun A' cap' hA'=>?_)))|(show ∀ _:Nat,T _ _ _ _ _;intro _))
   refine T_le (mv_join rfl) ?_
   exact T_retV _ rfl (dat_row) ⟨_,trivial,rfl,rfl⟩
  ·have em:mvs (grdOf c a b) i k=_:=mvs_none (by show ¬ i<a.length;omega) (by show ¬ k<b.length;omega)
   have em2:mvR (grdOf c a b) i k=_:=congrArg (List.map (mvCol i k)) em
   rw [em2]
   refine T_if rfl (fun h=>by exfalso;simp only [Bool.and_eq_true,decide_eq_true_eq] at h;omega) (fun h=>?_)
   repeat' (first|refine d1 ?_|fail)
   refine T_if rfl (fun h=>by exfalso;simp only [Bool.and_eq_true,decide_eq_true_eq] at h;omega) (fun h=>?_)
   repeat' (first|refine d1 ?_|fail)
   refine T_if rfl (fun h=>by exfalso;simp only [Bool.and_eq_true,decide_eq_true_eq] at h;omega) (fun h=>?_)
   repeat' (first|refine d1 ?_|fail)
   exact T_retV _ rfl (dat_row) ⟨_,trivial,rfl,rfl⟩
theorem colV_mv {c:Costs} {a b:List Tok} {i k:Nat} {x:Mv} (h:x∈mvs (grdOf c a b) i k):colV (grdOf c a b) (if x.fst=1 then (i:Int) else -1) (if x.snd=1 then (k:Int) else -1)=x.cost:=by
 unfold colV
 rcases mvs_to h with⟨h1,h2,h3,h4,h5⟩|⟨h1,h2,h3,h5⟩|⟨h1,h2,h3,h5⟩
 ·rw [h1,h2,h5,if_pos rfl,if_pos rfl,if_pos ⟨by omega,by omega⟩];rfl
 ·rw [h1,h2,h5,if_pos rfl,if_neg (show ¬ (0:Nat)=1 by omega),if_neg (by omega),if_pos (by omega)];rfl
 ·rw [h1,h2,h5,if_neg (show ¬ (0:Nat)=1 by omega),if_pos rfl,if_neg (by omega),if_neg (by omega)];rfl
theorem behind18_spec (c:Costs) (A B:Option Addr) (n m ca cb:Nat) (a b:List Tok) (i k:Nat) (x:Mv) (tb to nt ct rb ro nr cr bx ox cx:Nat) (z:Int) (w:World) (h2:Two w A B n m a b) (hk:ckV c a b=0) (hi:i≤n) (hkm:k≤m)
  (hx:x∈mvs (grdOf c a b) i k) (hx0:RdC w bx ox [.int .i64 (if x.fst=1 then (i:Int) else -1)]) (hx1:RdC w bx (ox+1) [.int .i64 (if x.snd=1 then (k:Int) else -1)])
  (ht:RdC w tb (to+(i+x.fst)) [.slice (some ⟨rb,ro,none⟩) nr cr]) (hr:RdC w rb (ro+(k+x.snd)) [.int .i64 z]) (hnt:i+x.fst<nt) (hnr:k+x.snd<nr) (hz:0≤z∧z≤2000000) :
  Spec Tryz.prog 260 [c.val, .slice A n ca, .slice B m cb, .slice (some ⟨tb,to,none⟩) nt ct, .int .i64 (i:Nat), .int .i64 (k:Nat), .slice (some ⟨bx,ox,none⟩) 2 cx] w (fun v R=>v = .int .i64 (x.cost+z)∧R=[]):=by
 have hG:=grdOf_ok (ckV_ok hk).1 a b
 have hcv:=colV_mv hx
 obtain⟨j,hj,e⟩:=List.getElem_of_mem hx
 have hb:=mv_to hG h2.hn h2.hm hi hkm (show (mvs (grdOf c a b) i k)[j]?=some x by rw [List.getElem?_eq_getElem hj,e])
 have hnb:=h2.hnb
 have hmb:=h2.hmb
 have e1:(grdOf c a b).n=n:=h2.hn
 have e2:(grdOf c a b).m=m:=h2.hm
 have hx0':RdC w bx (ox+(0:Int).toNat * 1) [.int .i64 (if x.fst=1 then (i:Int) else -1)]:=hx0
 have hx1':RdC w bx (ox+(1:Int).toNat * 1) [.int .i64 (if x.snd=1 then (k:Int) else -1)]:=hx1
 refine spec_of sg Tryz.func260 rfl rfl rfl ?_
 refine T_op (OpT.box (cs:=c.cells) rfl rfl rfl rfl rfl rfl rfl (fun pc=>?_))
 rcases mvs_to hx with⟨f1,f2,f3,f4,f5⟩|⟨f1,f2,f3,f5⟩|⟨f1,f2,f3,f5⟩
 ·rw [f1] at hx0' hcv ht hnt
  rw [f2] at hx1' hcv hr hnr
  rw [if_pos rfl] at hx0'
  rw [if_pos rfl] at hx1'
  rw [if_pos rfl,if_pos rfl] at hcv
  have ht':RdC w tb (to+((i:Int)+1).toNat * 1) [.slice (some ⟨rb,ro,none⟩) nr cr]:=by rw [show to+((i:Int)+1).toNat * 1=to+(i+1) by omega];exact ht
  have hr':RdC w rb (ro+((k:Int)+1).toNat * 1) [.int .i64 z]:=by rw [show ro+((k:Int)+1).toNat * 1=ro+(k+1) by omega];exact hr
  repeat' (first|refine d1 ?_|fail)
  refine T_if rfl (fun h=>?_) (fun h=>by exfalso;simp only [decide_eq_false_iff_not] at h;omega)
  repeat' (first|refine d1 ?_|fail)
  refine T_if rfl (fun h=>?_) (fun h=>by exfalso;simp only [decide_eq_false_iff_not] at h;omega)
  have hcb:0≤colV (grdOf c a b) (i:Int) (k:Int)∧colV (grdOf c a b) (i:Int) (k:Int)≤1000:=by rw [hcv];omega
  repeat' (first|refine d1 ?_|refine dd ?_|(show T _ (.run _ _ (_::_) _ _::_) _ _ _;refine rc rfl rfl rfl rfl rfl rfl rfl (fun w hw=>column18_spec c A B n m ca cb a b (i:Int) (k:Int) w (h2.cls hw) hk (by omega) (by omega) (by omega)) ?_)|(show T _ (.code .ret::_) _ _ _;refine T_retV [] rfl (Hle.none _) ⟨by rw [← hcv];rfl,rfl⟩))
 ·rw [f1] at hx0' hcv ht hnt
  rw [f2] at hx1' hcv hr hnr
  rw [if_pos rfl] at hx0'
  rw [if_neg (show ¬ (0:Nat)=1 by omega)] at hx1'
  rw [if_pos rfl,if_neg (show ¬ (0:Nat)=1 by omega)] at hcv
  have ht':RdC w tb (to+((i:Int)+1).toNat * 1) [.slice (some ⟨rb,ro,none⟩) nr cr]:=by rw [show to+((i:Int)+1).toNat * 1=to+(i+1) by omega];exact ht
  have hr':RdC w rb (ro+((k:Int)).toNat * 1) [.int .i64 z]:=by rw [show ro+((k:Int)).toNat * 1=ro+(k+0) by omega];exact hr
  repeat' (first|refine d1 ?_|fail)
  refine T_if rfl (fun h=>?_) (fun h=>by exfalso;simp only [decide_eq_false_iff_not] at h;omega)
  repeat' (first|refine d1 ?_|fail)
  refine T_if rfl (fun h=>by exfalso;simp only [decide_eq_true_eq] at h;omega) (fun h=>?_)
  have hcb:0≤colV (grdOf c a b) (i:Int) (-1)∧colV (grdOf c a b) (i:Int) (-1)≤1000:=by rw [hcv];omega
  repeat' (first|refine dd ?_|(show T _ (.run _ _ (_::_) _ _::_) _ _ _;refine rc rfl rfl rfl rfl rfl rfl rfl (fun w hw=>column18_spec c A B n m ca cb a b (i:Int) (-1) w (h2.cls hw) hk (by omega) (by omega) (by omega)) ?_)|(show T _ (.code .ret::_) _ _ _;refine T_retV [] rfl (Hle.none _) ⟨by rw [← hcv];rfl,rfl⟩))
 ·rw [f1] at hx0' hcv ht hnt
  rw [f2] at hx1' hcv hr hnr
  rw [if_neg (show ¬ (0:Nat)=1 by omega)] at hx0'
  rw [if_pos rfl] at hx1'
  rw [if_neg (show ¬ (0:Nat)=1 by omega),if_pos rfl] at hcv
  have ht':RdC w tb (to+((i:Int)).toNat * 1) [.slice (some ⟨rb,ro,none⟩) nr cr]:=by rw [show to+((i:Int)).toNat * 1=to+(i+0) by omega];exact ht
  have hr':RdC w rb (ro+((k:Int)+1).toNat * 1) [.int .i64 z]:=by rw [show ro+((k:Int)+1).toNat * 1=ro+(k+1) by omega];exact hr
  repeat' (first|refine d1 ?_|fail)
  refine T_if rfl (fun h=>by exfalso;simp only [decide_eq_true_eq] at h;omega) (fun h=>?_)
  repeat' (first|refine d1 ?_|fail)
  refine T_if rfl (fun h=>?_) (fun h=>by exfalso;simp only [decide_eq_false_iff_not] at h;omega)
  have hcb:0≤colV (grdOf c a b) (-1) (k:Int)∧colV (grdOf c a b) (-1) (k:Int)≤1000:=by rw [hcv];omega
  repeat' (first|refine d1 ?_|refine dd ?_|(show T _ (.run _ _ (_::_) _ _::_) _ _ _;refine rc rfl rfl rfl rfl rfl rfl rfl (fun w hw=>column18_spec c A B n m ca cb a b (-1) (k:Int) w (h2.cls hw) hk (by omega) (by omega) (by omega)) ?_)|(show T _ (.code .ret::_) _ _ _;refine T_retV [] rfl (Hle.none _) ⟨by rw [← hcv];rfl,rfl⟩))
end Go.Proofs.YtblnhdnogjijiaaGreatDoor
namespace Go.Proofs.YtblnhdnogjijiaaGreatDoor
open Go.RowKit Go.Shelf Go.Proofs
set_option maxRecDepth 100000
set_option maxHeartbeats 1000000

def inWork (G:Grd) (n m j i k jj:Nat) (i' k':Nat):Int:=if i'=i∧k'=k then (accW G i k jj).1 else soFar n m j (rst G) i' k'
theorem inWork_zero {G:Grd} {n m j i k:Nat} (hp:(placesL n m)[j]?=some (i,k)) (hno:(i,k) ∉ (placesL n m).take j) (i' k':Nat):inWork G n m j i k 0 i' k'=soFar n m j (rst G) i' k':=by
 unfold inWork
 split
 ·rename_i h;obtain⟨rfl,rfl⟩:=h
  unfold soFar;rw [if_neg hno];rfl
 ·rfl
theorem inWork_all {G:Grd} {n m j i k:Nat} (hp:(placesL n m)[j]?=some (i,k)) (i' k':Nat):inWork G n m j i k (mvs G i k).length i' k'=soFar n m (j+1) (rst G) i' k':=by
 rw [soFar_step hp];unfold inWork;rw [accW_all]
theorem place_new {n m p q:Nat} (hp:p≤n) (hq:q≤m):(n - p,m - q) ∉ (placesL n m).take (p * (m+1)+q):=by
 intro h
 obtain⟨j,hj⟩:=List.mem_iff_getElem?.1 h
 have hjl:j<p * (m+1)+q:=by
  have:=(List.getElem?_eq_some_iff.1 hj).1
  rw [List.length_take] at this;omega
 rw [List.getElem?_take_of_lt hjl] at hj
 obtain⟨p',q',h1,h2,rfl,e1,e2⟩:=placesL_at hj
 obtain rfl:p'=p:=by omega
 obtain rfl:q'=q:=by omega
 omega
theorem table18_spec (c:Costs) (A B:Option Addr) (n m ca cb:Nat) (a b:List Tok) (w:World) (h2:Two w A B n m a b) (hk:ckV c a b=0) :
  Spec Tryz.prog 219 [c.val, .slice A n ca, .slice B m cb] w (fun v R=>∃ x:Value,True∧v=x∧R=[dat [x] [rowsD (tabR n m (rst (grdOf c a b)))]]):=by
 have hG:=grdOf_ok (ckV_ok hk).1 a b
 have hnb:=h2.hnb
 have hmb:=h2.hmb
 refine spec_of sg Tryz.func219 rfl rfl rfl ?_
 refine T_op (OpT.box (cs:=c.cells) rfl rfl rfl rfl rfl rfl rfl (fun pc=>?_))
 repeat' (first|refine d1 ?_|(show ∀ _:Nat,T _ _ _ _ _;intro _))
 rename_i b0
 refine T_le (H':=[row 47 1 (some ⟨b0,0,none⟩) 0 0 [],blk pc c.cells 23]) (Hle.weaken (i:=0) rfl (blk_row (sz:=1) (n:=0) rfl (by simp only [maxLen];omega)) rfl) ?_
 refine T_nilblks 3 ?_
 refine T_loopX (fun s:List (Nat × List Value) × Nat × Nat=>[(8, .int .i64 s.1.length),(7, .slice (some ⟨s.2.1,0,none⟩) s.1.length s.2.2)]) (fun s=>[blks 3 s.1,row 47 1 (some ⟨s.2.1,0,none⟩) s.2.2 s.1.length (s.1.map (slv m)),blk pc c.cells 23]) (fun s=>s.1.length≤n+1∧RowsOk (fun _ _=>0) (m+1) s.1) (fun s=>n+1 - s.1.length) ([],b0,0) ⟨Nat.zero_le _,fun i x h=>by simp at h⟩ ?_
 rintro⟨L,g,cap⟩ ⟨hL,hR⟩
 dsimp only at hL hR ⊢
 repeat' (first|refine d1 ?_|fail)
 refine T_if rfl (fun h=>?_) (fun h=>?_)
 ·simp only [decide_eq_true_eq] at h
  repeat' (first|refine d1 ?_|(show T _ (.ops _ (_::_)::_) _ _ _;first|refine T_op (OpT.make rfl rfl rfl rfl rfl rfl rfl rfl rfl (by dsimp only;omega) (fun b1=>?_))|refine T_op (OpT.append rfl rfl rfl rfl rfl rfl rfl rfl rfl rfl (fun w hw=>Src.own hw rfl) rfl (by dsimp only;omega) (by omega) (fun A' cap' hA'=>?_)))|(show ∀ _:Nat,T _ _ _ _ _;intro _))
  obtain⟨g',rfl⟩:=hA' (by omega)
  refine T_le (H':=[blk b1 (List.replicate (m+1) (.int .i64 0)) 3,blks 3 L,row 47 1 (some ⟨g',0,none⟩) cap' (L.length+1) (L.map (slv m)++[.slice (some ⟨b1,0,none⟩) (m+1) (m+1)]),blk pc c.cells 23]) (Hle.tail _ _) ?_
  refine T_backX (L++[(b1,List.replicate (m+1) (.int .i64 0))],g',cap') ⟨by dsimp only;rw [List.length_append];exact Nat.succ_le_of_lt (by omega),rows_snoc0 hR⟩ (by dsimp only;rw [List.length_append];simp;omega) (hE:=⟨by dsimp only;rw [List.length_append];rfl,by dsimp only;rw [List.length_append];rfl,trivial⟩) (hG:=?_)
  dsimp only
  rw [List.length_append,List.map_append]
  exact blks_snoc
 simp only [decide_eq_false_iff_not] at h
 have hLn:L.length=n+1:=by omega
 rw [hLn]
 have hR0:RowsOk (soFar n m 0 (rst (grdOf c a b))) (m+1) L:=fun i x hx=>by rw [hR i x hx,soFar_zero]
 repeat' (first|refine d1 ?_|fail)
 refine T_loopX (fun s:Nat × List (Nat × List Value)=>[(9, .int .i64 ((n:Int) - s.1))]) (fun s=>[blks 3 s.2,row 47 1 (some ⟨g,0,none⟩) cap (n+1) (s.2.map (slv m)),blk pc c.cells 23]) (fun s=>s.1≤n+1∧s.2.length=n+1∧RowsOk (soFar n m (s.1 * (m+1)) (rst (grdOf c a b))) (m+1) s.2) (fun s=>n+1 - s.1) (0,L) ⟨Nat.zero_le _,hLn,by rw [Nat.zero_mul];exact hR0⟩ ?_ (hE:=⟨by rw [show (n:Int) - ((0:Nat):Int)=n by omega];rfl,trivial⟩)
 rintro⟨p,M⟩ ⟨hp,hM,hS⟩
 dsimp only at hp hM hS ⊢
 repeat' (first|refine d1 ?_|fail)
 refine T_if rfl (fun h3=>?_) (fun h3=>?_)
 ·simp only [decide_eq_true_eq] at h3
  repeat' (first|refine d1 ?_|fail)
  refine T_loopX (fun s:Nat × List (Nat × List Value)=>[(10, .int .i64 ((m:Int) - s.1))]) (fun s=>[blks 3 s.2,row 47 1 (some ⟨g,0,none⟩) cap (n+1) (s.2.map (slv m)),blk pc c.cells 23]) (fun s=>s.1≤m+1∧s.2.length=n+1∧RowsOk (soFar n m (p * (m+1)+s.1) (rst (grdOf c a b))) (m+1) s.2) (fun s=>m+1 - s.1) (0,M) ⟨Nat.zero_le _,hM,hS⟩ ?_ (hE:=⟨by rw [show (m:Int) - ((0:Nat):Int)=m by omega];rfl,trivial⟩)
  rintro⟨q,M2⟩ ⟨hq,hM2,hS2⟩
  dsimp only at hq hM2 hS2 ⊢
  repeat' (first|refine d1 ?_|fail)
  refine T_if rfl (fun h4=>?_) (fun h4=>?_)
  ·simp only [decide_eq_true_eq] at h4
   have hpl:=placesL_get (n:=n) (m:=m) (p:=p) (q:=q) (by omega) (by omega)
   have hno:=place_new (n:=n) (m:=m) (p:=p) (q:=q) (by omega) (by omega)
   obtain⟨i,hi⟩:∃ i,i=n - p:=⟨_,rfl⟩
   obtain⟨k,hkk⟩:∃ k,k=m - q:=⟨_,rfl⟩
   rw [show (n:Int) - p=(i:Nat) by omega,show (m:Int) - q=(k:Nat) by omega]
   rw [← hi, ← hkk] at hpl hno
   repeat' (first|refine d1 ?_|(show T _ (.ops _ (_::_)::_) _ _ _;refine T_op (OpT.call rfl rfl rfl rfl rfl (fun w hw=>moves18_spec c A B n m ca cb a b i k w h2.hn hnb h2.hm hmb (by omega) (by omega)) ?_))|fail)
   rintro v R ⟨x,-,rfl,rfl⟩
   refine T_le (H':=[dat [v] [rowsD (mvR (grdOf c a b) i k)],blks 3 M2,row 47 1 (some ⟨g,0,none⟩) cap (n+1) (M2.map (slv m)),blk pc c.cells 23]) (Hle.refl _) ?_
   refine T_open fun pf hx=>?_
   obtain⟨Am,capm,csm,rfl,-,-,hcsm,hAm,hrm⟩:=hx.tab
   have hlen:(mvR (grdOf c a b) i k).length=(mvs (grdOf c a b) i k).length:=by unfold mvR;rw [List.length_map]
   have hm3:=mvs_len (grdOf c a b) i k
   rw [hlen] at hAm ⊢
   repeat' (first|refine d1 ?_|fail)
   refine T_loopX (fun s:Nat × List (Nat × List Value)=>[(12, .int .i64 s.1)]) (fun s=>[fz pf,blks 3 s.2,row 47 1 (some ⟨g,0,none⟩) cap (n+1) (s.2.map (slv m)),blk pc c.cells 23]) (fun s=>s.1≤(mvs (grdOf c a b) i k).length∧s.2.length=n+1∧RowsOk (inWork (grdOf c a b) n m (p * (m+1)+q) i k s.1) (m+1) s.2) (fun s=>(mvs (grdOf c a b) i k).length - s.1) (0,M2) ⟨Nat.zero_le _,hM2,hS2.ext hM2 fun i' k' _ _=>(inWork_zero hpl hno i' k').symm⟩ ?_
   rintro⟨jj,M3⟩ ⟨hjj,hM3,hS3⟩
   dsimp only at hjj hM3 hS3 ⊢
   repeat' (first|refine d1 ?_|fail)
   refine T_if rfl (fun h5=>?_) (fun h5=>?_)
   ·simp only [decide_eq_true_eq] at h5
    have hjl:jj<(mvs (grdOf c a b) i k).length:=by omega
    obtain⟨v,hv⟩:∃ v,(mvs (grdOf c a b) i k)[jj]?=some v:=⟨_,List.getElem?_eq_getElem hjl⟩
    have hb:=mv_to hG h2.hn h2.hm (by omega) (by omega) hv
    obtain⟨bm,om,rfl,hbm⟩:=hAm (by omega)
    obtain⟨Ar,capr,hcr,-,-,hAr⟩:=hrm.tabRow (i:=jj) (r:=mvCol i k v) (by unfold mvR;rw [List.getElem?_map,hv];rfl)
    obtain⟨bx,ox,rfl,hbx⟩:=hAr (show 0<2 by omega)
    obtain⟨⟨g1,c1⟩,hV1⟩:∃ x,M3[i+v.fst]?=some x:=⟨_,List.getElem?_eq_getElem (by omega)⟩
    obtain⟨⟨g0,c0⟩,hV0⟩:∃ x,M3[i]?=some x:=⟨_,List.getElem?_eq_getElem (by omega)⟩
    have hc1:c1=valV (inWork (grdOf c a b) n m (p * (m+1)+q) i k jj (i+v.fst)) (m+1):=hS3 _ _ hV1
    have hc0:c0=valV (inWork (grdOf c a b) n m (p * (m+1)+q) i k jj i) (m+1):=hS3 _ _ hV0
    have e1:inWork (grdOf c a b) n m (p * (m+1)+q) i k jj (i+v.fst) (k+v.snd)=rst (grdOf c a b) (i+v.fst) (k+v.snd):=by
     unfold inWork;rw [if_neg (by omega)];exact soFar_get hpl _ (by omega) (by omega) (by omega)
    have e0:inWork (grdOf c a b) n m (p * (m+1)+q) i k jj i k=(accW (grdOf c a b) i k jj).1:=if_pos ⟨rfl,rfl⟩
    have hrb:=rst_bd2 hG h2.hn h2.hm hnb hmb (i+v.fst) (k+v.snd)
    have es:accW (grdOf c a b) i k (jj+1)=stepW (grdOf c a b) i k (accW (grdOf c a b) i k jj) jj v:=accW_step hv
    have hd:∀ {r:Nat} {gr:Nat} {cr:List Value},M3[r]?=some (gr,cr)→r<n+1→(M3.map (slv m))[r]?=some (.slice (some ⟨gr,0,none⟩) (m+1) (m+1)):=fun h _=>by rw [List.getElem?_map,h];rfl
    have hl0:c0.length=m+1:=by rw [hc0,valV_length]
    repeat' (first|refine d1 ?_|refine dd ?_|(show T _ (.ops _ (_::_)::_) _ _ _;first|refine T_valC rfl (Val.load rfl (fun hg=>rdRow (A:=some ⟨g,0,none⟩) (vs:=[.slice (some ⟨g0,0,none⟩) (m+1) (m+1)]) (by omega) (get1 (by rw [show 0+(i:Int).toNat * 1=i by omega];exact hd hV0 (by omega))))) rfl rfl rfl rfl rfl ?_|refine T_valC rfl (Val.load rfl (fun hg=>rdM (l:=M3) (k:=i) (g:=g0) (vs:=[.int .i64 (accW (grdOf c a b) i k jj).1]) hV0 (get1 (by rw [hc0, ← e0];exact vget k (by omega) (by omega))))) rfl rfl rfl rfl rfl ?_)|(show T _ (.run _ _ (_::_) _ _::_) _ _ _;first|refine rv rfl rfl rfl (Val.load rfl (fun hg=>rdFz (p:=pf) (u := .slice (some ⟨bx,ox,none⟩) 2 capr) (b:=bm) (by rw [off1];exact hbm jj _ hcr))) rfl rfl rfl ?_|refine rc rfl rfl rfl rfl rfl rfl rfl (fun w hw=>behind18_spec c A B n m ca cb a b i k v g 0 (n+1) cap g1 0 (m+1) (m+1) bx ox capr (rst (grdOf c a b) (i+v.fst) (k+v.snd)) w (h2.cls hw) hk (by omega) (by omega) (List.mem_of_getElem? hv) (rdFz (p:=pf) (hbx 0 _ rfl) w hw) (rdFz (p:=pf) (hbx 1 _ rfl) w hw) (rdRow (A:=some ⟨g,0,none⟩) (by omega) (get1 (by rw [Nat.zero_add];exact hd hV1 (by omega))) w hw) (rdM hV1 (get1 (by rw [hc1, ← e1];exact vget (k+v.snd) (by omega) (by omega))) w hw) (by omega) (by omega) hrb) ?_)|fail)
    refine T_if rfl (fun h6=>?_) (fun h6=>?_)
    ·simp only [Bool.or_eq_true,decide_eq_true_eq] at h6
     have es2:(accW (grdOf c a b) i k (jj+1)).1=via (grdOf c a b) i k v:=by
      rw [es];unfold stepW;rw [if_pos]
      rcases h6 with h6|h6
      ·exact .inl (by omega)
      ·exact .inr h6
     repeat' (first|refine d1 ?_|(show T _ (.ops _ (_::_)::_) _ _ _;first|refine T_val rfl (Val.load rfl (fun hg=>rdRow (A:=some ⟨g,0,none⟩) (vs:=[.slice (some ⟨g0,0,none⟩) (m+1) (m+1)]) (by omega) (get1 (by rw [show 0+(i:Int).toNat * 1=i by omega];exact hd hV0 (by omega))))) rfl rfl rfl ?_|refine T_op (OpT.storeM rfl rfl rfl hV0 rfl (by rw [hl0];omega) ?_))|fail)
     refine T_backX (jj+1,M3.set i (g0,c0.set k (.int .i64 (via (grdOf c a b) i k v)))) ⟨Nat.succ_le_of_lt hjl,by dsimp only;rw [List.length_set];exact hM3,rows_put hS3 hV0 fun i' k'=>?_⟩ (by dsimp only;omega) (hG:=?_)
     ·unfold inWork
      rw [es2]
      split <;> rfl
     ·dsimp only
      rw [slv_set hV0,show 0+(k:Int).toNat * 1=k by omega]
      exact Hle.refl _
    ·simp only [Bool.or_eq_false_iff,decide_eq_false_iff_not] at h6
     have es2:(accW (grdOf c a b) i k (jj+1)).1=(accW (grdOf c a b) i k jj).1:=by
      rw [es,stepW_fst,if_neg (by omega)]
      have h7:¬ via (grdOf c a b) i k v<(accW (grdOf c a b) i k jj).1:=h6.2
      omega
     repeat' (first|refine d1 ?_|fail)
     refine T_backX (jj+1,M3) ⟨Nat.succ_le_of_lt hjl,hM3,hS3.ext hM3 fun i' k' _ _=>?_⟩ (by dsimp only;omega)
     unfold inWork;rw [es2]
   ·simp only [decide_eq_false_iff_not] at h5
    obtain rfl:jj=(mvs (grdOf c a b) i k).length:=by omega
    repeat' (first|refine d1 ?_|fail)
    refine T_backX (q+1,M3) ⟨by dsimp only;omega,hM3,hS3.ext hM3 fun i' k' _ _=>inWork_all hpl i' k'⟩ (by dsimp only;omega) (hE:=⟨by dsimp only;rw [show (m:Int) - ((q+1:Nat):Int)=(k:Int) - 1 by omega];rfl,trivial⟩) (hG:=Hle.tail _ _)
  ·simp only [decide_eq_false_iff_not] at h4
   obtain rfl:q=m+1:=by omega
   repeat' (first|refine d1 ?_|fail)
   exact T_backX (p+1,M2) ⟨by dsimp only;omega,hM2,by dsimp only;rw [Nat.succ_mul];exact hS2⟩ (by dsimp only;omega) (hE:=⟨by dsimp only;rw [show (n:Int) - ((p+1:Nat):Int)=(n:Int) - p - 1 by omega];rfl,trivial⟩)
 ·simp only [decide_eq_false_iff_not] at h3
  obtain rfl:p=n+1:=by omega
  have hR':RowsOk (rst (grdOf c a b)) (m+1) M:=hS.ext hM fun i k hi hk=>soFar_all (by rw [placesL_len];exact Nat.le_refl _) _ (by omega) (by omega)
  have q1:∀ x∈M,m+1≤x.2.length:=fun x hx=>by obtain⟨i,hi,e⟩:=List.getElem_of_mem hx;rw [hS i x (by rw [List.getElem?_eq_getElem hi,e]),valV_length];omega
  have hle:Hle [blks 3 M,row 47 1 (some ⟨g,0,none⟩) cap (n+1) (M.map (slv m)),blk pc c.cells 23] [dat [.slice (some ⟨g,0,none⟩) (n+1) cap] [rowsD (tabR n m (rst (grdOf c a b)))]]:=by
   refine (dat_blks (L:=M) (m+1) (m+1) (by omega) (by omega) q1).trans ?_
   rw [tab_rows hM hR']
   exact (Hle.perm (List.Perm.swap _ _ _)).trans (dat_row.trans (show Hle _ [dat [.slice (some ⟨g,0,none⟩) (n+1) cap] [D.s 1 ((tabR n m (rst (grdOf c a b))).map intsD)]] from Hle.sub))
  repeat' (first|refine d1 ?_|(show T _ (.code .ret::_) _ _ _;refine T_retV _ rfl hle ⟨_,trivial,rfl,rfl⟩))
end Go.Proofs.YtblnhdnogjijiaaGreatDoor
namespace Go.Proofs.YtblnhdnogjijiaaGreatDoor
open Go.RowKit Go.Shelf Go.Proofs
set_option maxRecDepth 100000
set_option maxHeartbeats 1000000

theorem distanceRef18_spec (c:Costs) (A B:Option Addr) (n m ca cb:Nat) (a b:List Tok) (w:World) (h2:Two w A B n m a b) :
  Spec Tryz.prog 179 [c.val, .slice A n ca, .slice B m cb] w (fun v R=>v = .tuple #[.int .i64 (distV c a b).1, .int .i64 (distV c a b).2]∧R=[]):=by
 refine spec_of sg Tryz.func179 rfl rfl rfl ?_
 refine T_op (OpT.box (cs:=c.cells) rfl rfl rfl rfl rfl rfl rfl (fun pc=>?_))
 repeat' (first|refine d1 ?_|(show T _ (.ops _ (_::_)::_) _ _ _;refine T_call rfl rfl rfl rfl rfl (fun w hw=>ck18_spec c A B n m ca cb a b w (h2.cls hw)) ?_)|fail)
 refine T_if rfl (fun h=>?_) (fun h=>?_)
 ·simp only [Bool.not_eq_true',decide_eq_false_iff_not] at h
  have e:distV c a b=(0,1):=if_neg h
  have e1:=(ckV_01 c a b).resolve_left h
  rw [e,e1]
  repeat' (first|refine d1 ?_|(show T _ (.code .ret::_) _ _ _;refine T_retV [] rfl (Hle.none _) ⟨rfl,rfl⟩))
 ·simp only [Bool.not_eq_false',decide_eq_true_eq] at h
  have e:distV c a b=(rst (grdOf c a b) 0 0,0):=if_pos h
  rw [e]
  repeat' (first|refine d1 ?_|(show T _ (.ops _ (_::_)::_) _ _ _;refine T_op (OpT.call rfl rfl rfl rfl rfl (fun w hw=>table18_spec c A B n m ca cb a b w (h2.cls hw) h) ?_))|fail)
  rintro v R ⟨x,-,rfl,rfl⟩
  refine T_le (H':=[dat [v] [rowsD (tabR n m (rst (grdOf c a b)))],blk pc c.cells 23]) (Hle.refl _) ?_
  refine T_open fun p hp=>?_
  obtain⟨At,capt,cs,rfl,-,-,-,hA,hrows⟩:=hp.tab
  rw [tabR_length] at hA ⊢
  obtain⟨bt,ot,rfl,hb⟩:=hA (by omega)
  obtain⟨Ar,capr,hcs,-,-,hA'⟩:=hrows.tabRow (tabR_get (Nat.zero_le n))
  rw [List.length_map,List.length_range] at hcs hA'
  obtain⟨br,orr,rfl,hb'⟩:=hA' (by omega)
  repeat' (first|refine d1 ?_|(show T _ (.ops _ (_::_)::_) _ _ _;first|refine T_val rfl (Val.load rfl (fun hg=>rdFz (p:=p) (u := .slice (some ⟨br,orr,none⟩) (m+1) capr) (b:=bt) (hb 0 _ hcs))) rfl rfl rfl ?_|refine T_val rfl (Val.load rfl (fun hg=>rdFz (p:=p) (u := .int .i64 (rst (grdOf c a b) 0 0)) (b:=br) (hb' 0 _ (tabR_cell (Nat.zero_le m))))) rfl rfl rfl ?_)|(show T _ (.code .ret::_) _ _ _;refine T_retV [] rfl (Hle.none _) ⟨rfl,rfl⟩))
structure TS where
 A:Option Addr
 n:Nat
 cap:Nat
 l:List Tok
@[reducible] def TS.val (t:TS):Value := .slice t.A t.n t.cap
theorem indexFuncS_spec (A:Option Addr) (n c:Nat) (l:List TS) (f:FuncId) (fs cs:List Value) (p:TS→Bool) (w:World) (hs:Src w 1 A n (l.map TS.val)) (hn:l.length=n) (hb:n≤9223372036854775807)
  (hf:∀ x∈l,∀ w',Below w.heap.size w w'→Spec Tryz.prog f (fs++(x.val::cs)) w' (fun v A=>v = .bool (p x)∧A=[])) :
  Spec Tryz.prog 134 [.slice A n c, .func (.func f) fs.toArray cs.toArray] w (fun v A=>v = .int .i64 (findI p l)∧A=[]):=by
 refine spec_of sg Tryz.func134 rfl rfl rfl ?_
 repeat' (first|refine d1 ?_|fail)
 refine T_loop (fun k:Nat=>[(0, .slice A n c),(1, .func (.func f) fs.toArray cs.toArray),(7, .int .i64 n),(8, .int .i64 k)]) (fun _=>[]) (fun k=>k≤n∧∀ i x,i<k→l[i]?=some x→p x=false) (fun k=>n - k) 0 ⟨Nat.zero_le _,fun i x h=>by omega⟩ ⟨rfl,rfl,rfl,rfl,trivial⟩ (Hle.refl _) ?_
 rintro k ⟨hk,hok⟩
 repeat' (first|refine d1 ?_|fail)
 refine T_if rfl (fun h=>?_) (fun h=>?_)
 ·simp only [decide_eq_true_eq] at h
  have hkn:k<n:=by omega
  obtain⟨b,o,rfl⟩:=hs.base (by omega)
  obtain⟨x,hx⟩:∃ x,l[k]?=some x:=⟨_,List.getElem?_eq_getElem (by omega)⟩
  repeat' (first|refine d1 ?_|fail)
  refine T_load (v:=x.val) rfl rfl rfl rfl rfl (rdOld ?_) ?_
  ·exact (hs.get1 hkn (by rw [List.getElem?_map,hx];rfl)).2
  repeat' (first|refine d1 ?_|(show T _ (.ops _ (_::_)::_) _ _ _;refine T_call rfl rfl rfl rfl rfl (fun w hw=>hf x (List.mem_of_getElem? hx) w hw.below) ?_)|fail)
  refine T_if rfl (fun h1=>?_) (fun h1=>?_)
  ·repeat' (first|refine d1 ?_|(show T _ (.code .ret::_) _ _ _;refine T_retV [] rfl (Hle.refl _) ⟨congrArg (Value.int .i64) ?_,rfl⟩))
   exact (findI_some hx h1 hok).symm
  ·repeat' (first|refine d1 ?_|fail)
   refine T_back (k+1) ⟨by omega,fun i y hi hy=>?_⟩ (by omega) ⟨rfl,rfl,rfl,rfl,trivial⟩ (Hle.refl _)
   rcases Nat.lt_or_ge i k with h2|h2
   ·exact hok i y h2 hy
   ·rw [show i=k by omega,hx] at hy
    cases hy
    exact h1
 ·simp only [decide_eq_false_iff_not] at h
  repeat' (first|refine d1 ?_|(show T _ (.code .ret::_) _ _ _;refine T_retV [] rfl (Hle.refl _) ⟨congrArg (Value.int .i64) ?_,rfl⟩))
  exact (findI_none (fun i x hi=>hok i x (by have:=(List.getElem?_eq_some_iff.1 hi).1;omega) hi)).symm
theorem containsFuncS_spec (A:Option Addr) (n c:Nat) (l:List TS) (f:FuncId) (fs cs:List Value) (p:TS→Bool) (w:World) (hs:Src w 1 A n (l.map TS.val)) (hn:l.length=n) (hb:n≤9223372036854775807)
  (hf:∀ x∈l,∀ w',Below w.heap.size w w'→Spec Tryz.prog f (fs++(x.val::cs)) w' (fun v A=>v = .bool (p x)∧A=[])) :
  Spec Tryz.prog 82 [.slice A n c, .func (.func f) fs.toArray cs.toArray] w (fun v A=>v = .bool (l.any p)∧A=[]):=by
 refine spec_of sg Tryz.func82 rfl rfl rfl ?_
 repeat' (first|refine d1 ?_|(show T _ (.ops _ (_::_)::_) _ _ _;refine T_call rfl rfl rfl rfl rfl (fun w hw=>indexFuncS_spec A n c l f fs cs p w (rdSrc hs w hw) hn hb (fun x hx w' hb'=>hf x hx w' (hw.below.trans (hb'.mono hw.below.size)))) ?_)|(show T _ (.code .ret::_) _ _ _;refine T_retV [] rfl (Hle.refl _) ⟨congrArg Value.bool ?_,rfl⟩))
 exact findI_any p l
structure TsOk (w:World) (l:List TS):Prop where
 src:∀ t∈l,Src w 6 t.A t.n (t.l.flatMap Tok.cells)
 len:∀ t∈l,t.l.length=t.n
 bd:∀ t∈l,t.n≤9223372036854775807
theorem src_below {w w':World} {sz n:Nat} {A:Option Addr} {xs:List Value} (h:Src w sz A n xs) (hb:Below w.heap.size w w'):Src w' sz A n xs:=⟨h.1,fun q=>⟨(h.2 q).1,(h.2 q).2.below hb⟩⟩
end Go.Proofs.YtblnhdnogjijiaaGreatDoor
namespace Go.Proofs.YtblnhdnogjijiaaGreatDoor
open Go.RowKit Go.Shelf Go.Proofs
set_option maxRecDepth 100000
set_option maxHeartbeats 1000000

end Go.Proofs.YtblnhdnogjijiaaGreatDoor
namespace Go.Proofs.YtblnhdnogjijiaaGreatDoor

def fstM (G:Grd) (i k:Nat):Option Mv:=(mvs G i k).find? fun x=>decide (via G i k x=rst G i k)
theorem fstM_ex {G:Grd} {i k:Nat} (h:i<G.n∨k<G.m):∃ x,fstM G i k=some x:=by
 have key:∃ x∈mvs G i k,via G i k x=rst G i k:=by
  by_cases hi:i<G.n
  ·by_cases hk:k<G.m
   ·rw [mvs_both hi hk,rst_both hi hk]
    have e:∀ x y z:Int,min (min x y) z=x∨min (min x y) z=y∨min (min x y) z=z:=by omega
    rcases e (G.p i k+rst G (i+1) (k+1)) (G.g i+rst G (i+1) k) (G.h k+rst G i (k+1)) with h|h|h
    ·exact⟨_,List.mem_cons_self ..,h.symm⟩
    ·exact⟨_,List.mem_cons_of_mem _ (List.mem_cons_self ..),h.symm⟩
    ·exact⟨_,List.mem_cons_of_mem _ (List.mem_cons_of_mem _ (List.mem_cons_self ..)),h.symm⟩
   ·rw [mvs_fst hi hk,rst_fst hi hk];exact⟨_,List.mem_cons_self ..,rfl⟩
  ·have hk:k<G.m:=h.resolve_left hi
   rw [mvs_snd hi hk,rst_snd hi hk];exact⟨_,List.mem_cons_self ..,rfl⟩
 obtain⟨x,hx,e⟩:=key
 unfold fstM
 cases hf:(mvs G i k).find? (fun x=>decide (via G i k x=rst G i k)) with
 | some y=>exact⟨y,rfl⟩
 | none=>exact absurd (decide_eq_true e) (by simpa using List.find?_eq_none.1 hf x hx)
theorem fstM_mem {G:Grd} {i k:Nat} {x:Mv} (h:fstM G i k=some x):x∈mvs G i k∧via G i k x=rst G i k:=by
 unfold fstM at h
 exact⟨List.mem_of_find?_eq_some h,by simpa using List.find?_some h⟩
def alnF (G:Grd):Nat→Nat→Nat→List (List Int)
 | 0,_,_=>[]
 | f+1,i,k=>match fstM G i k with
  | some x=>mvCol i k x::alnF G f (i+x.fst) (k+x.snd)
  | none=>[]
def aln (G:Grd) (i k:Nat):List (List Int):=alnF G ((G.n - i)+(G.m - k)) i k
theorem alnF_end {G:Grd} {i k:Nat} (h:¬ (i<G.n∨k<G.m)):∀ f,alnF G f i k=[]
 | 0=>rfl
 | f+1=>by
  unfold alnF
  have:fstM G i k=none:=by unfold fstM;rw [mvs_none (by omega) (by omega)];rfl
  rw [this]
theorem alnF_more {G:Grd}:∀ (f:Nat) (i k:Nat),(G.n - i)+(G.m - k)≤f→alnF G f i k=aln G i k
 | 0,i,k,h=>by unfold aln;rw [show (G.n - i)+(G.m - k)=0 by omega]
 | f+1,i,k,h=>by
  by_cases he:i<G.n∨k<G.m
  ·obtain⟨x,hx⟩:=fstM_ex he
   obtain⟨d,hd⟩:∃ d,(G.n - i)+(G.m - k)=d+1:=⟨(G.n - i)+(G.m - k) - 1,by omega⟩
   unfold aln
   rw [hd]
   unfold alnF
   rw [hx]
   have hm:=mvs_to (fstM_mem hx).1
   simp only
   rw [alnF_more f _ _ (by omega),alnF_more d _ _ (by omega)]
  ·rw [alnF_end he];unfold aln;rw [alnF_end he]
 termination_by f=>f
 decreasing_by all_goals omega
theorem aln_step {G:Grd} {i k:Nat} {x:Mv} (h:fstM G i k=some x):aln G i k=mvCol i k x::aln G (i+x.fst) (k+x.snd):=by
 have hm:=mvs_to (fstM_mem h).1
 rw [← alnF_more ((G.n - i)+(G.m - k)+1) i k (by omega)]
 unfold alnF
 rw [h]
 simp only
 rw [alnF_more _ _ _ (by omega)]
theorem aln_end {G:Grd} {i k:Nat} (h:¬ (i<G.n∨k<G.m)):aln G i k=[]:=by unfold aln;exact alnF_end h _
end Go.Proofs.YtblnhdnogjijiaaGreatDoor
namespace Go.Proofs.YtblnhdnogjijiaaGreatDoor

theorem mvs_form {G:Grd} {i k:Nat} {y:Mv} (h:y∈mvs G i k):(y=⟨1,1,G.p i k⟩∧i<G.n∧k<G.m)∨(y=⟨1,0,G.g i⟩∧i<G.n)∨(y=⟨0,1,G.h k⟩∧k<G.m):=by
 obtain⟨f,s,c⟩:=y
 rcases mvs_to h with⟨h1,h2,h3,h4,h5⟩|⟨h1,h2,h3,h5⟩|⟨h1,h2,h3,h5⟩
 ·exact .inl ⟨by rw [show f=1 from h1,show s=1 from h2,show c=_ from h5],h3,h4⟩
 ·exact .inr (.inl ⟨by rw [show f=1 from h1,show s=0 from h2,show c=_ from h5],h3⟩)
 ·exact .inr (.inr ⟨by rw [show f=0 from h1,show s=1 from h2,show c=_ from h5],h3⟩)
theorem aln_len (G:Grd) (i k:Nat):(aln G i k).length≤(G.n - i)+(G.m - k):=by
 unfold aln
 have key:∀ (f i k:Nat),(alnF G f i k).length≤f:=by
  intro f
  induction f with
  | zero=>intro i k;exact Nat.le_refl _
  | succ f ih =>
   intro i k
   unfold alnF
   split
   ·rw [List.length_cons];have:=ih (i+(by assumption:Mv).fst) (k+(by assumption:Mv).snd);omega
   ·exact Nat.zero_le _
 exact key _ i k
def shpP (n m:Nat) (t:List (List Int)):Prop:=t.length=n+1∧∀ r∈t,r.length=m+1
instance (n m:Nat) (t:List (List Int)):Decidable (shpP n m t):=by unfold shpP;infer_instance
def rngP (G:Grd) (t:Nat→Nat→Int):Prop:=∀ i,i<G.n+1→∀ k,k<G.m+1→0≤t i k∧t i k≤big
def stpP (G:Grd) (t:Nat→Nat→Int) (i k:Nat):Prop:=∀ y∈mvs G i k,t i k≤y.cost+t (i+y.fst) (k+y.snd)
def stpsP (G:Grd) (t:Nat→Nat→Int):Prop:=∀ i,i<G.n+1→∀ k,k<G.m+1→stpP G t i k
instance (G:Grd) (t:Nat→Nat→Int):Decidable (rngP G t):=by unfold rngP;infer_instance
instance (G:Grd) (t:Nat→Nat→Int) (i k:Nat):Decidable (stpP G t i k):=by unfold stpP;infer_instance
instance (G:Grd) (t:Nat→Nat→Int):Decidable (stpsP G t):=by unfold stpsP;infer_instance
def certP (G:Grd) (t:Nat→Nat→Int) (z:Int):Prop:=(t G.n G.m=0∧t 0 0=z)∧rngP G t∧stpsP G t
instance (G:Grd) (t:Nat→Nat→Int) (z:Int):Decidable (certP G t z):=by unfold certP;infer_instance
end Go.Proofs.YtblnhdnogjijiaaGreatDoor
namespace Go.Proofs.YtblnhdnogjijiaaGreatDoor

inductive Dir where
 | b
 | f
 | s
deriving DecidableEq
def Dir.x:Dir→Nat
 | .b=>1
 | .f=>1
 | .s=>0
def Dir.y:Dir→Nat
 | .b=>1
 | .f=>0
 | .s=>1
def dcost (G:Grd) (i k:Nat):Dir→Int
 | .b=>G.p i k
 | .f=>G.g i
 | .s=>G.h k
def xs:List Dir→Nat
 | []=>0
 | d::l=>d.x+xs l
def ys:List Dir→Nat
 | []=>0
 | d::l=>d.y+ys l
def wcost (G:Grd):List Dir→Nat→Nat→Int
 | [],_,_=>0
 | d::l,i,k=>dcost G i k d+wcost G l (i+d.x) (k+d.y)
def wayF:Nat→Nat→Nat→List (List Dir)
 | 0,_,_=>[[]]
 | f+1,a,b=>match a,b with
  | 0,0=>[[]]
  | 0,b+1=>(wayF f 0 b).map (.s :: ·)
  | a+1,0=>(wayF f a 0).map (.f :: ·)
  | a+1,b+1=>(wayF f a b).map (.b :: ·)++((wayF f a (b+1)).map (.f :: ·)++(wayF f (a+1) b).map (.s :: ·))
def ways (a b:Nat):List (List Dir):=wayF (a+b) a b
def cnt (G:Grd) (a b i k:Nat) (z:Int):Nat:=(ways a b).countP fun l=>decide (wcost G l i k=z)
structure Rvs (G F:Grd):Prop where
 n:F.n=G.n
 m:F.m=G.m
 p:∀ i k,i<G.n→k<G.m→F.p (G.n - 1 - i) (G.m - 1 - k)=G.p i k
 g:∀ i,i<G.n→F.g (G.n - 1 - i)=G.g i
 h:∀ k,k<G.m→F.h (G.m - 1 - k)=G.h k
theorem Rvs.symm {G F:Grd} (r:Rvs G F):Rvs F G where
 n:=r.n.symm
 m:=r.m.symm
 p:=fun i k hi hk=>by
  rw [r.n] at hi ⊢;rw [r.m] at hk ⊢
  have:=r.p (G.n - 1 - i) (G.m - 1 - k) (by omega) (by omega)
  rw [show G.n - 1 - (G.n - 1 - i)=i by omega,show G.m - 1 - (G.m - 1 - k)=k by omega] at this
  exact this.symm
 g:=fun i hi=>by
  rw [r.n] at hi ⊢
  have:=r.g (G.n - 1 - i) (by omega)
  rw [show G.n - 1 - (G.n - 1 - i)=i by omega] at this
  exact this.symm
 h:=fun k hk=>by
  rw [r.m] at hk ⊢
  have:=r.h (G.m - 1 - k) (by omega)
  rw [show G.m - 1 - (G.m - 1 - k)=k by omega] at this
  exact this.symm
structure Xch (G F:Grd):Prop where
 n:F.n=G.m
 m:F.m=G.n
 p:∀ i k,i<G.n→k<G.m→F.p k i=G.p i k
 g:∀ k,k<G.m→F.g k=G.h k
 h:∀ i,i<G.n→F.h i=G.g i
end Go.Proofs.YtblnhdnogjijiaaGreatDoor
namespace Go.Proofs.YtblnhdnogjijiaaGreatDoor

def IsMin (d:Nat→Int) (S:Nat→Prop) (m:Int):Prop:=(∃ k,S k∧d k=m)∧∀ k,S k→m≤d k
theorem IsMin.uniq {d:Nat→Int} {S:Nat→Prop} {m m':Int} (h:IsMin d S m) (h':IsMin d S m'):m=m':=by
 obtain⟨⟨k,hk,rfl⟩,h2⟩:=h
 obtain⟨⟨k',hk',rfl⟩,h2'⟩:=h'
 have:=h2 k' hk'
 have:=h2' k hk
 omega
def rowR (d:Nat→Int) (i:Nat) (tk:Nat→Bool) (st:Int × Int):Nat→Int × Int
 | 0=>st
 | k+1=>if tk k=true∧((rowR d i tk st k).1<0∨d k<(rowR d i tk st k).1) then (d k,(i:Int)) else rowR d i tk st k
theorem rowR_law {d:Nat→Int} {i:Nat} {tk:Nat→Bool} {st:Int × Int} (hd:∀ k,0≤d k):∀ k,((∀ j,j<k→tk j=false)∧rowR d i tk st k=st) ∨
  ∃ m,IsMin d (fun j=>j<k∧tk j=true) m∧rowR d i tk st k=if st.1<0∨m<st.1 then (m,(i:Int)) else st
 | 0 => .inl ⟨fun j h=>by omega,rfl⟩
 | k+1=>by
  have hk:=hd k
  cases ht:tk k with
  | false =>
   have e:rowR d i tk st (k+1)=rowR d i tk st k:=by simp [rowR,ht]
   rw [e]
   rcases rowR_law (i:=i) (tk:=tk) (st:=st) hd k with⟨h1,h2⟩|⟨m,⟨⟨k0,h1,h2⟩,h3⟩,h4⟩
   ·refine .inl ⟨fun j hj=>?_,h2⟩
    rcases Nat.lt_or_ge j k with h|h
    ·exact h1 j h
    ·rw [show j=k by omega];exact ht
   ·refine .inr ⟨m,⟨⟨k0,⟨by omega,h1.2⟩,h2⟩,fun j hj=>h3 j ⟨?_,hj.2⟩⟩,h4⟩
    rcases Nat.lt_or_ge j k with h|h
    ·exact h
    ·have:=hj.2;rw [show j=k by omega,ht] at this;cases this
  | true =>
   have e:rowR d i tk st (k+1)=if (rowR d i tk st k).1<0∨d k<(rowR d i tk st k).1 then (d k,(i:Int)) else rowR d i tk st k:=by simp [rowR,ht]
   rw [e]
   rcases rowR_law (i:=i) (tk:=tk) (st:=st) hd k with⟨h1,h2⟩|⟨m,⟨⟨k0,h1,h2⟩,h3⟩,h4⟩
   ·refine .inr ⟨d k,⟨⟨k,⟨by omega,ht⟩,rfl⟩,fun j hj=>?_⟩,by rw [h2]⟩
    rcases Nat.lt_or_ge j k with h|h
    ·have:=hj.2;rw [h1 j h] at this;cases this
    ·rw [show j=k by omega];exact Int.le_refl _
   ·have hm0:0≤m:=h2 ▸ hd k0
    rcases Int.lt_or_le (d k) m with hlt|hge
    ·refine .inr ⟨d k,⟨⟨k,⟨by omega,ht⟩,rfl⟩,fun j hj=>?_⟩,?_⟩
     ·rcases Nat.lt_or_ge j k with h|h
      ·have:=h3 j ⟨h,hj.2⟩;omega
      ·rw [show j=k by omega];exact Int.le_refl _
     ·rw [h4]
      by_cases hc:st.1<0∨m<st.1
      ·rw [if_pos hc,if_pos (.inr hlt),if_pos (by omega)]
      ·rw [if_neg hc]
    ·refine .inr ⟨m,⟨⟨k0,⟨by omega,h1.2⟩,h2⟩,fun j hj=>?_⟩,?_⟩
     ·rcases Nat.lt_or_ge j k with h|h
      ·exact h3 j ⟨h,hj.2⟩
      ·rw [show j=k by omega];exact hge
     ·rw [h4]
      by_cases hc:st.1<0∨m<st.1
      ·rw [if_pos hc,if_neg (by dsimp only;omega)]
      ·rw [if_neg hc,if_neg (by omega)]
def scanR (n:Nat) (d:Nat→Nat→Int) (tk:Nat→Bool):Nat→Int × Int
 | 0=>(-1,-1)
 | i+1=>if tk i=true then scanR n d tk i else rowR (d i) i tk (scanR n d tk i) n
def scanP (near:Nat→Int) (tk:Nat→Bool):Nat→Int × Int
 | 0=>(-1,0)
 | i+1=>if tk i=true then scanP near tk i else if (scanP near tk i).1<0∨near i<(scanP near tk i).2 then ((i:Int),near i) else scanP near tk i
theorem scan_law {n:Nat} {d:Nat→Nat→Int} {tk:Nat→Bool} {near:Nat→Int} (hd:∀ i k,0≤d i k) (hn:∀ i,i<n→tk i=false→IsMin (d i) (fun j=>j<n∧tk j=true) (near i)) :
  ∀ i,i≤n→(scanP near tk i=(-1,0)∧scanR n d tk i=(-1,-1)∧∀ j,j<i→tk j=true) ∨
   (∃ q:Nat,q<i∧tk q=false∧scanP near tk i=((q:Int),near q)∧scanR n d tk i=(near q,(q:Int))∧0≤near q∧∀ j,j<i→tk j=false→near q≤near j)
 | 0,_ => .inl ⟨rfl,rfl,fun j h=>by omega⟩
 | i+1,hi=>by
  cases ht:tk i with
  | true =>
   have e1:scanP near tk (i+1)=scanP near tk i:=by simp [scanP,ht]
   have e2:scanR n d tk (i+1)=scanR n d tk i:=by simp [scanR,ht]
   rw [e1,e2]
   rcases scan_law hd hn i (by omega) with⟨h1,h2,h3⟩|⟨q,h1,h2,h3,h4,h5,h6⟩
   ·refine .inl ⟨h1,h2,fun j hj=>?_⟩
    rcases Nat.lt_or_ge j i with h|h
    ·exact h3 j h
    ·rw [show j=i by omega];exact ht
   ·refine .inr ⟨q,by omega,h2,h3,h4,h5,fun j hj hf=>h6 j ?_ hf⟩
    rcases Nat.lt_or_ge j i with h|h
    ·exact h
    ·rw [show j=i by omega,ht] at hf;cases hf
  | false =>
   have hm:=hn i (by omega) ht
   have h0:0≤near i:=by obtain⟨⟨k,_,e⟩,_⟩:=hm;rw [← e];exact hd i k
   have e1:scanP near tk (i+1)=if (scanP near tk i).1<0∨near i<(scanP near tk i).2 then ((i:Int),near i) else scanP near tk i:=by simp [scanP,ht]
   have e2:scanR n d tk (i+1)=if (scanR n d tk i).1<0∨near i<(scanR n d tk i).1 then (near i,(i:Int)) else scanR n d tk i:=by
    simp only [scanR,ht,Bool.false_eq_true,if_false]
    rcases rowR_law (i:=i) (tk:=tk) (st:=scanR n d tk i) (hd i) n with⟨h1,_⟩|⟨m,h1,h2⟩
    ·obtain⟨⟨k,⟨hk,hk2⟩,_⟩,_⟩:=hm
     rw [h1 k hk] at hk2;cases hk2
    ·rw [h2,h1.uniq hm]
   rw [e1,e2]
   rcases scan_law hd hn i (by omega) with⟨h1,h2,h3⟩|⟨q,h1,h2,h3,h4,h5,h6⟩
   ·rw [h1,h2,if_pos (by dsimp only;omega),if_pos (by dsimp only;omega)]
    refine .inr ⟨i,by omega,ht,rfl,rfl,h0,fun j hj hf=>?_⟩
    rcases Nat.lt_or_ge j i with h|h
    ·rw [h3 j h] at hf;cases hf
    ·rw [show j=i by omega];exact Int.le_refl _
   ·rw [h3,h4]
    dsimp only
    by_cases hc:near i<near q
    ·rw [if_pos (.inr hc),if_pos (.inr hc)]
     refine .inr ⟨i,by omega,ht,rfl,rfl,h0,fun j hj hf=>?_⟩
     rcases Nat.lt_or_ge j i with h|h
     ·have:=h6 j h hf;omega
     ·rw [show j=i by omega];exact Int.le_refl _
    ·rw [if_neg (by omega),if_neg (by omega)]
     refine .inr ⟨q,by omega,h2,rfl,rfl,h5,fun j hj hf=>?_⟩
     rcases Nat.lt_or_ge j i with h|h
     ·exact h6 j h hf
     ·rw [show j=i by omega];omega
end Go.Proofs.YtblnhdnogjijiaaGreatDoor
namespace Go.Proofs.YtblnhdnogjijiaaGreatDoor
open Go.RowKit Go.Shelf Go.Proofs
set_option maxRecDepth 100000
set_option maxHeartbeats 1000000

structure Grp (w:World) (A:Option Addr) (n:Nat) (l:List TS):Prop where
 hst:Std w
 hs:Src w 1 A n (l.map TS.val)
 hn:l.length=n
 hb:n≤32
 ok:TsOk w l
 nb:∀ t∈l,t.n≤1000
 sm:∀ t∈l,∀ x∈t.l,x.small
theorem Grp.cls {w0 w:World} {H:List HA} {A:Option Addr} {n:Nat} {l:List TS} (h:Grp w0 A n l) (hw:Cls w0 w H):Grp w A n l :=
 ⟨h.hst.cls hw,⟨h.hs.1,fun q=>⟨(h.hs.2 q).1,(h.hs.2 q).2.old hw⟩⟩,h.hn,h.hb,⟨fun t ht=>src_below (h.ok.src t ht) hw.below,h.ok.len,h.ok.bd⟩,h.nb,h.sm⟩
theorem Grp.get {w:World} {b o n:Nat} {l:List TS} (h:Grp w (some ⟨b,o,none⟩) n l) {k:Nat} (hk:k<n):∃ t,l[k]?=some t∧t∈l∧RdC w b (o+(k:Int).toNat * 1) [.slice t.A t.n t.cap]:=by
 obtain⟨t,ht⟩:∃ t,l[k]?=some t:=⟨_,List.getElem?_eq_getElem (by have:=h.hn;omega)⟩
 refine ⟨t,ht,List.mem_of_getElem? ht,?_⟩
 have h9:=(h.hs.get1 (i:=k) hk (by rw [List.getElem?_map,ht];rfl)).2
 rw [Nat.mul_one] at h9
 rw [off1]
 exact h9
def badS (l:List TS):Bool:=l.any fun t=>badL t.l
def srcE (l:List TS):Int:=if badS l=true then 1 else 0
def ck21 (c:Costs) (l:List TS):Int:=if costE c=0∧badS l=false then 0 else 1
theorem srcs21_spec (A:Option Addr) (n c:Nat) (l:List TS) (w:World) (hg:Grp w A n l):Spec Tryz.prog 145 [.slice A n c] w (fun v R=>v = .int .i64 0∧R=[]):=by
 refine spec_of sg Tryz.func145 rfl rfl rfl ?_
 have hb:=hg.hb
 repeat' (first|refine d1 ?_|fail)
 refine T_if rfl (fun h=>?_) (fun h=>?_)
 ·exfalso;simp at h;omega
 repeat' (first|refine d1 ?_|fail)
 refine T_loopX (fun k:Nat=>[(10, .int .i64 k)]) (fun _=>[]) (fun k=>k≤n) (fun k=>n - k) 0 (Nat.zero_le _) ?_
 intro k hk
 repeat' (first|refine d1 ?_|fail)
 refine T_if rfl (fun h=>?_) (fun h=>?_)
 ·simp only [decide_eq_true_eq] at h
  have hkn:k<n:=by omega
  obtain⟨b,o,rfl⟩:=hg.hs.base (by omega)
  obtain⟨t,ht,htm,hr⟩:=hg.get hkn
  have htb:=hg.nb t htm
  repeat' (first|refine d1 ?_|fail)
  refine T_if rfl (fun h1=>?_) (fun h1=>?_)
  ·exfalso;simp at h1;omega
  repeat' (first|refine d1 ?_|fail)
  exact T_backX (k+1) (by omega) (by omega)
 ·repeat' (first|refine d1 ?_|(show T _ (.code .ret::_) _ _ _;refine T_retV [] rfl (Hle.refl _) ⟨rfl,rfl⟩))
theorem toks21aa_spec (t:Tok) (ht:t.small) (w:World) (hst:Std w):Spec Tryz.prog 196 [t.val] w (fun v A=>v = .bool (!decide (tokE t=0))∧A=[]):=by
 refine spec_of sg Tryz.func196 rfl rfl rfl ?_
 repeat' (first|(show T _ (.ops _ (⟨_, .box _ _,_,_,_,_⟩::_)::_) _ _ _;refine T_op (OpT.box (cs:=t.cells) rfl rfl rfl rfl rfl rfl rfl (fun _=>?_)))|refine d1 ?_|(show T _ (.ops _ (_::_)::_) _ _ _;refine T_call rfl rfl rfl rfl rfl (fun w hw=>tokPrg_spec t ht w (hst.cls hw)) ?_)|(show T _ (.code .ret::_) _ _ _;refine T_retV [] rfl (Hle.none _) ⟨rfl,rfl⟩))
theorem toks21a_spec (A:Option Addr) (n c:Nat) (l:List Tok) (w:World) (hst:Std w) (hs:Src w 6 A n (l.flatMap Tok.cells)) (hn:l.length=n) (hb:n≤9223372036854775807) (hsm:∀ x∈l,x.small) :
  Spec Tryz.prog 195 [.slice A n c] w (fun v R=>v = .bool (badL l)∧R=[]):=by
 refine spec_of sg Tryz.func195 rfl rfl rfl ?_
 repeat' (first|refine d1 ?_|(show T _ (.ops _ (_::_)::_) _ _ _;refine T_call rfl rfl rfl rfl rfl (fun w hw=>containsFuncT_spec A n c l _ [] [] (fun t => !decide (tokE t=0)) w (rdSrc hs w hw) hn hb (fun x hx w' hb'=>toks21aa_spec x (hsm x hx) w' (hst.below (hw.below.trans (hb'.mono hw.below.size))))) ?_)|(show T _ (.code .ret::_) _ _ _;refine T_retV [] rfl (Hle.none _) ⟨rfl,rfl⟩))
theorem toks21_spec (A:Option Addr) (n c:Nat) (l:List TS) (w:World) (hg:Grp w A n l):Spec Tryz.prog 146 [.slice A n c] w (fun v R=>v = .int .i64 (srcE l)∧R=[]):=by
 refine spec_of sg Tryz.func146 rfl rfl rfl ?_
 have hb:=hg.hb
 repeat' (first|refine d1 ?_|(show T _ (.ops _ (_::_)::_) _ _ _;refine T_call rfl rfl rfl rfl rfl (fun w hw=>containsFuncS_spec A n c l _ [] [] (fun t=>badL t.l) w (rdSrc hg.hs w hw) hg.hn (by omega) (fun x hx w' hb'=>toks21a_spec x.A x.n x.cap x.l w' (hg.hst.below (hw.below.trans (hb'.mono hw.below.size))) (src_below (hg.ok.src x hx) (hw.below.trans (hb'.mono hw.below.size))) (hg.ok.len x hx) (hg.ok.bd x hx) (hg.sm x hx))) ?_)|fail)
 refine T_if rfl (fun h=>?_) (fun h=>?_)
 ·repeat' (first|refine d1 ?_|(show T _ (.code .ret::_) _ _ _;refine T_retV [] rfl (Hle.none _) ⟨congrArg (Value.int .i64) (if_pos h).symm,rfl⟩))
 ·repeat' (first|refine d1 ?_|(show T _ (.code .ret::_) _ _ _;refine T_retV [] rfl (Hle.none _) ⟨congrArg (Value.int .i64) (if_neg (by unfold badS;rw [h];decide)).symm,rfl⟩))
theorem check21_spec (c:Costs) (A:Option Addr) (n ca:Nat) (l:List TS) (w:World) (hg:Grp w A n l):Spec Tryz.prog 89 [c.val, .slice A n ca] w (fun v R=>v = .int .i64 (ck21 c l)∧R=[]):=by
 refine spec_of sg Tryz.func89 rfl rfl rfl ?_
 repeat' (first|(show T _ (.ops _ (⟨_, .box _ _,_,_,_,_⟩::_)::_) _ _ _;refine T_op (OpT.box (cs:=c.cells) rfl rfl rfl rfl rfl rfl rfl (fun _=>?_)))|refine d1 ?_|(show T _ (.ops _ (_::_)::_) _ _ _;refine T_call rfl rfl rfl rfl rfl (fun w hw=>srcs21_spec A n ca l w (hg.cls hw)) ?_)|fail)
 refine T_if rfl (fun h=>by exfalso;simp at h) (fun h=>?_)
 repeat' (first|refine d1 ?_|(show T _ (.ops _ (_::_)::_) _ _ _;refine T_call rfl rfl rfl rfl rfl (fun w hw=>costPrg_spec c w) ?_)|fail)
 refine T_if rfl (fun h=>?_) (fun h=>?_)
 ·repeat' (first|refine d1 ?_|(show T _ (.code .ret::_) _ _ _;refine T_retV [] rfl (Hle.none _) ⟨congrArg (Value.int .i64) (if_neg (fun h2=>by simp [h2.1] at h)).symm,rfl⟩))
 ·repeat' (first|refine d1 ?_|(show T _ (.ops _ (_::_)::_) _ _ _;refine T_call rfl rfl rfl rfl rfl (fun w hw=>toks21_spec A n ca l w (hg.cls hw)) ?_)|(show T _ (.code .ret::_) _ _ _;refine T_retV [] rfl (Hle.none _) ⟨congrArg (Value.int .i64) ?_,rfl⟩))
  have hc:costE c=0:=by simpa using h
  unfold srcE ck21
  cases badS l <;> simp [hc]
theorem source21_spec (A:Option Addr) (n c:Nat) (l:List Tok) (w:World) (hs:Src w 6 A n (l.flatMap Tok.cells)) (hn:l.length=n) (hb:n≤1000) :
  Spec Tryz.prog 181 [.slice A n c] w (fun v R=>v = .int .i64 (if badL l=true then 1 else 0)∧R=[]):=by
 refine spec_of sg Tryz.func181 rfl rfl rfl ?_
 repeat' (first|refine d1 ?_|fail)
 refine T_if rfl (fun h=>?_) (fun h=>?_)
 ·exfalso;simp at h;omega
 repeat' (first|refine d1 ?_|fail)
 refine T_loopX (fun k:Nat=>[(3, .int .i64 k)]) (fun _=>[]) (fun k=>k≤n∧∀ i x,i<k→l[i]?=some x→tokE x=0) (fun k=>n - k) 0 ⟨Nat.zero_le _,fun i x h=>by omega⟩ ?_
 rintro k ⟨hk,hok⟩
 repeat' (first|refine d1 ?_|fail)
 refine T_if rfl (fun h=>?_) (fun h=>?_)
 ·simp only [decide_eq_true_eq] at h
  have hkn:k<n:=by omega
  obtain⟨b,o,rfl⟩:=hs.base (by omega)
  obtain⟨x,hx⟩:∃ x,l[k]?=some x:=⟨_,List.getElem?_eq_getElem (by omega)⟩
  have hr:RdC w b (o+(k:Int).toNat * 6) x.cells:=hs.getT hkn hx
  repeat' (first|refine d1 ?_|(show T _ (.ops _ (_::_)::_) _ _ _;refine T_call rfl rfl rfl rfl rfl (fun w hw=>tokRef_spec x w) ?_)|fail)
  refine T_if rfl (fun h1=>?_) (fun h1=>?_)
  ·repeat' (first|refine d1 ?_|(show T _ (.code .ret::_) _ _ _;refine T_retV [] rfl (Hle.refl _) ⟨congrArg (Value.int .i64) (if_pos ?_).symm,rfl⟩))
   exact List.any_eq_true.2 ⟨x,List.mem_of_getElem? hx,by simpa using h1⟩
  ·repeat' (first|refine d1 ?_|fail)
   refine T_backX (k+1) ⟨by omega,fun i y hi hy=>?_⟩ (by omega)
   rcases Nat.lt_or_ge i k with h2|h2
   ·exact hok i y h2 hy
   ·rw [show i=k by omega,hx] at hy
    cases hy
    simpa using h1
 ·simp only [decide_eq_false_iff_not] at h
  repeat' (first|refine d1 ?_|(show T _ (.code .ret::_) _ _ _;refine T_retV [] rfl (Hle.refl _) ⟨congrArg (Value.int .i64) (if_neg ?_).symm,rfl⟩))
  rw [Bool.not_eq_true]
  refine badL_false.2 fun t ht=>?_
  obtain⟨i,hi,e⟩:=List.getElem_of_mem ht
  exact hok i t (by omega) (by rw [List.getElem?_eq_getElem hi,e])
theorem sources21_spec (A:Option Addr) (n c:Nat) (l:List TS) (w:World) (hg:Grp w A n l):Spec Tryz.prog 217 [.slice A n c] w (fun v R=>v = .int .i64 (srcE l)∧R=[]):=by
 refine spec_of sg Tryz.func217 rfl rfl rfl ?_
 have hb:=hg.hb
 have hn:=hg.hn
 repeat' (first|refine d1 ?_|fail)
 refine T_if rfl (fun h=>?_) (fun h=>?_)
 ·exfalso;simp at h;omega
 repeat' (first|refine d1 ?_|fail)
 refine T_loopX (fun k:Nat=>[(4, .int .i64 k),(3, .int .i64 (srcE (l.take k)))]) (fun _=>[]) (fun k=>k≤n) (fun k=>n - k) 0 (Nat.zero_le _) ?_
 intro k hk
 repeat' (first|refine d1 ?_|fail)
 refine T_if rfl (fun h=>?_) (fun h=>?_)
 ·simp only [decide_eq_true_eq] at h
  have hkn:k<n:=by omega
  obtain⟨b,o,rfl⟩:=hg.hs.base (by omega)
  obtain⟨t,ht,htm,hr⟩:=hg.get hkn
  repeat' (first|refine d1 ?_|(show T _ (.ops _ (_::_)::_) _ _ _;refine T_call rfl rfl rfl rfl rfl (fun w hw=>source21_spec t.A t.n t.cap t.l w (rdSrc (hg.ok.src t htm) w hw) (hg.ok.len t htm) (hg.nb t htm)) ?_)|fail)
  have e:srcE (l.take (k+1))=if badL t.l=true then 1 else srcE (l.take k):=by
   unfold srcE badS;rw [take_snoc _ _ _ ht,List.any_append,List.any_cons,List.any_nil,Bool.or_false]
   cases badL t.l <;> simp
  cases hbad:badL t.l with
  | true =>
   rw [hbad] at e
   refine T_if rfl (fun h1=>by exfalso;simp at h1) (fun h1=>?_)
   repeat' (first|refine d1 ?_|fail)
   refine T_if rfl (fun h2=>?_) (fun h2=>by exfalso;simp at h2)
   repeat' (first|refine d1 ?_|fail)
   exact T_backX (k+1) (by omega) (by omega) (hE:=⟨rfl,by rw [e];rfl,trivial⟩)
  | false =>
   rw [hbad] at e
   refine T_if rfl (fun h1=>by exfalso;simp at h1) (fun h1=>?_)
   repeat' (first|refine d1 ?_|fail)
   refine T_if rfl (fun h2=>by exfalso;simp at h2) (fun h2=>?_)
   repeat' (first|refine d1 ?_|fail)
   exact T_backX (k+1) (by omega) (by omega) (hE:=⟨rfl,by rw [e];rfl,trivial⟩)
 ·simp only [decide_eq_false_iff_not] at h
  obtain rfl:k=n:=by omega
  rw [show l.take k=l from List.take_of_length_le (by omega)]
  repeat' (first|refine d1 ?_|(show T _ (.code .ret::_) _ _ _;refine T_retV [] rfl (Hle.refl _) ⟨rfl,rfl⟩))
theorem check21R_spec (c:Costs) (A:Option Addr) (n ca:Nat) (l:List TS) (w:World) (hg:Grp w A n l):Spec Tryz.prog 178 [c.val, .slice A n ca] w (fun v R=>v = .int .i64 (ck21 c l)∧R=[]):=by
 refine spec_of sg Tryz.func178 rfl rfl rfl ?_
 repeat' (first|(show T _ (.ops _ (⟨_, .box _ _,_,_,_,_⟩::_)::_) _ _ _;refine T_op (OpT.box (cs:=c.cells) rfl rfl rfl rfl rfl rfl rfl (fun _=>?_)))|refine d1 ?_|(show T _ (.ops _ (_::_)::_) _ _ _;first|refine T_call rfl rfl rfl rfl rfl (fun w hw=>sources21_spec A n ca l w (hg.cls hw)) ?_|refine T_callC rfl rfl rfl rfl rfl rfl rfl (fun hg w hw=>costRef_spec c w) ?_)|fail)
 refine T_if rfl (fun h=>?_) (fun h=>?_)
 ·repeat' (first|refine d1 ?_|(show T _ (.code .ret::_) _ _ _;refine T_retV [] rfl (Hle.none _) ⟨congrArg (Value.int .i64) (if_neg (fun h2=>?_)).symm,rfl⟩))
  simp [h2.1] at h
 ·repeat' (first|refine d1 ?_|(show T _ (.code .ret::_) _ _ _;refine T_retV [] rfl (Hle.none _) ⟨congrArg (Value.int .i64) ?_,rfl⟩))
  unfold srcE ck21 at *
  cases hs:badS l <;> simp [hs] at h ⊢
  exact h
noncomputable def great21B (l:List TS):Bool:=l.any (fun t=>decide (5<t.l.length) || greatB t.l) || decide (4<l.length)
theorem Grp.of {w:World} {A:Option Addr} {n:Nat} {l:List TS} (hst:Std w) (hs:Src w 1 A n (l.map TS.val)) (hn:l.length=n) (hl:TsOk w l) (h:great21B l=false):Grp w A n l∧n≤4∧∀ t∈l,t.n≤5:=by
 unfold great21B at h
 rw [Bool.or_eq_false_iff,decide_eq_false_iff_not,List.any_eq_false] at h
 have h5:∀ t∈l,t.n≤5:=fun t ht=>by
  have:=h.1 t ht
  have:=hl.len t ht
  simp at *
  omega
 refine ⟨⟨hst,hs,hn,by omega,hl,fun t ht=>by have:=h5 t ht;omega,fun t ht x hx=>?_⟩,by omega,h5⟩
 have h9:greatB t.l=false:=by
  have:=h.1 t ht
  simp at this
  exact this.2
 exact (longT_small ((greatB_false h9).1 x hx)).1
end Go.Proofs.YtblnhdnogjijiaaGreatDoor
namespace Go.Proofs.YtblnhdnogjijiaaGreatDoor
open Go.RowKit Go.Shelf Go.Proofs
set_option maxRecDepth 100000
set_option maxHeartbeats 1000000

theorem src_int {w:World} {b o n:Nat} {xs:List Int} (hs:Src w 1 (some ⟨b,o,none⟩) n (xs.map (Value.int .i64))) {k:Nat} (hk:k<n) {x:Int} (hx:xs[k]?=some x):RdC w b (o+(k:Int).toNat * 1) [.int .i64 x]:=by
 have h9:=(hs.get1 (i:=k) hk (by rw [List.getElem?_map,hx];rfl)).2
 rw [Nat.mul_one] at h9
 rw [off1]
 exact h9
theorem indexI_spec (A:Option Addr) (n c:Nat) (xs:List Int) (z:Int) (w:World) (hs:Src w 1 A n (xs.map (Value.int .i64))) (hn:xs.length=n) (hb:n≤9223372036854775807) :
  Spec Tryz.prog 129 [.slice A n c, .int .i64 z] w (fun v R=>v = .int .i64 (findI (fun x=>decide (z=x)) xs)∧R=[]):=by
 refine spec_of sg Tryz.func129 rfl rfl rfl ?_
 repeat' (first|refine d1 ?_|fail)
 refine T_loopX (fun k:Nat=>[(8, .int .i64 k)]) (fun _=>[]) (fun k=>k≤n∧∀ i x,i<k→xs[i]?=some x→decide (z=x)=false) (fun k=>n - k) 0 ⟨Nat.zero_le _,fun i x h=>by omega⟩ ?_
 rintro k ⟨hk,hok⟩
 repeat' (first|refine d1 ?_|fail)
 refine T_if rfl (fun h=>?_) (fun h=>?_)
 ·simp only [decide_eq_true_eq] at h
  have hkn:k<n:=by omega
  obtain⟨b,o,rfl⟩:=hs.base (by omega)
  obtain⟨x,hx⟩:∃ x,xs[k]?=some x:=⟨_,List.getElem?_eq_getElem (by omega)⟩
  have hr:=src_int hs hkn hx
  repeat' (first|refine d1 ?_|fail)
  refine T_if rfl (fun h1=>?_) (fun h1=>?_)
  ·repeat' (first|refine d1 ?_|(show T _ (.code .ret::_) _ _ _;refine T_retV [] rfl (Hle.refl _) ⟨congrArg (Value.int .i64) ?_,rfl⟩))
   exact (findI_some hx h1 hok).symm
  ·repeat' (first|refine d1 ?_|fail)
   refine T_backX (k+1) ⟨by omega,fun i y hi hy=>?_⟩ (by omega)
   rcases Nat.lt_or_ge i k with h2|h2
   ·exact hok i y h2 hy
   ·rw [show i=k by omega,hx] at hy
    cases hy
    exact h1
 ·simp only [decide_eq_false_iff_not] at h
  repeat' (first|refine d1 ?_|(show T _ (.code .ret::_) _ _ _;refine T_retV [] rfl (Hle.refl _) ⟨congrArg (Value.int .i64) ?_,rfl⟩))
  exact (findI_none (fun i x hi=>hok i x (by have:=(List.getElem?_eq_some_iff.1 hi).1;omega) hi)).symm
theorem containsI_spec (A:Option Addr) (n c:Nat) (xs:List Int) (z:Int) (w:World) (hs:Src w 1 A n (xs.map (Value.int .i64))) (hn:xs.length=n) (hb:n≤9223372036854775807) :
  Spec Tryz.prog 73 [.slice A n c, .int .i64 z] w (fun v R=>v = .bool (xs.any fun x=>decide (z=x))∧R=[]):=by
 refine spec_of sg Tryz.func73 rfl rfl rfl ?_
 repeat' (first|refine d1 ?_|(show T _ (.ops _ (_::_)::_) _ _ _;refine T_call rfl rfl rfl rfl rfl (fun w hw=>indexI_spec A n c xs z w (rdSrc hs w hw) hn hb) ?_)|(show T _ (.code .ret::_) _ _ _;refine T_retV [] rfl (Hle.refl _) ⟨congrArg Value.bool ?_,rfl⟩))
 exact findI_any _ xs
def minF (key:Int→Int) (x:Int) (l:List Int):Int:=l.foldl (fun m y=>if key y<key m then y else m) x
theorem minF_snoc (key:Int→Int) (x:Int) (l:List Int) (y:Int):minF key x (l++[y])=if key y<key (minF key x l) then y else minF key x l:=by
 unfold minF;rw [List.foldl_append];rfl
theorem minF_mem (key:Int→Int):∀ (x:Int) (l:List Int),minF key x l∈x::l
 | x,[]=>List.mem_cons_self ..
 | x,y::l=>by
  have e:minF key x (y::l)=minF key (if key y<key x then y else x) l:=rfl
  rw [e]
  split
  ·exact List.mem_cons_of_mem _ (minF_mem key y l)
  ·rcases List.mem_cons.1 (minF_mem key x l) with h|h
   ·rw [h];exact List.mem_cons_self ..
   ·exact List.mem_cons_of_mem _ (List.mem_cons_of_mem _ h)
theorem minFuncI_spec (A:Option Addr) (n c:Nat) (x0:Int) (xs:List Int) (f:FuncId) (fs cs:List Value) (key:Int→Int) (w:World) (hs:Src w 1 A n ((x0::xs).map (Value.int .i64))) (hn:(x0::xs).length=n) (hb:n≤1000000)
  (hf:∀ x∈x0::xs,∀ y∈x0::xs,∀ w',Below w.heap.size w w'→Spec Tryz.prog f (fs++([.int .i64 x, .int .i64 y]++cs)) w' (fun v R=>v = .int .i64 (key x - key y)∧R=[])) :
  Spec Tryz.prog 147 [.slice A n c, .func (.func f) fs.toArray cs.toArray] w (fun v R=>v = .int .i64 (minF key x0 xs)∧R=[]):=by
 refine spec_of sg Tryz.func147 rfl rfl rfl ?_
 simp only [List.length_cons] at hn
 repeat' (first|refine d1 ?_|fail)
 refine T_if rfl (fun h=>by exfalso;simp at h;omega) (fun h=>?_)
 obtain⟨b,o,rfl⟩:=hs.base (by omega)
 have hr0:=src_int (k:=0) hs (by omega) rfl
 repeat' (first|refine d1 ?_|fail)
 refine T_loopX (fun k:Nat=>[(6, .int .i64 ((k+1:Nat):Int)),(5, .int .i64 (minF key x0 (xs.take k)))]) (fun _=>[]) (fun k=>k+1≤n) (fun k=>n - k) 0 (by omega) ?_
 intro k hk
 repeat' (first|refine d1 ?_|fail)
 refine T_if rfl (fun h3=>?_) (fun h3=>?_)
 ·simp only [decide_eq_true_eq] at h3
  have hkn:k+1<n:=by omega
  obtain⟨x,hx⟩:∃ x,xs[k]?=some x:=⟨_,List.getElem?_eq_getElem (by omega)⟩
  have hr:=src_int (k:=k+1) hs hkn (by simpa using hx)
  have hxm:x∈x0::xs:=List.mem_cons_of_mem _ (List.mem_of_getElem? hx)
  have hym:minF key x0 (xs.take k)∈x0::xs:=by
   rcases List.mem_cons.1 (minF_mem key x0 (xs.take k)) with h9|h9
   ·rw [h9];exact List.mem_cons_self ..
   ·exact List.mem_cons_of_mem _ (List.mem_of_mem_take h9)
  have hst:minF key x0 (xs.take (k+1))=if key x<key (minF key x0 (xs.take k)) then x else minF key x0 (xs.take k):=by rw [take_snoc _ _ _ hx,minF_snoc]
  repeat' (first|refine d1 ?_|(show T _ (.ops _ (_::_)::_) _ _ _;refine T_call rfl rfl rfl rfl rfl (fun w hw=>hf x hxm _ hym w hw.below) ?_)|fail)
  refine T_if rfl (fun h4=>?_) (fun h4=>?_)
  ·simp only [decide_eq_true_eq] at h4
   rw [if_pos (by omega)] at hst
   repeat' (first|refine d1 ?_|fail)
   exact T_backX (k+1) (by omega) (by omega) (hE:=⟨rfl,by rw [hst];rfl,trivial⟩)
  ·simp only [decide_eq_false_iff_not] at h4
   rw [if_neg (by omega)] at hst
   repeat' (first|refine d1 ?_|fail)
   exact T_backX (k+1) (by omega) (by omega) (hE:=⟨rfl,by rw [hst];rfl,trivial⟩)
 ·simp only [decide_eq_false_iff_not] at h3
  rw [show xs.take k=xs from List.take_of_length_le (by omega)]
  repeat' (first|refine d1 ?_|(show T _ (.code .ret::_) _ _ _;refine T_retV [] rfl (Hle.refl _) ⟨rfl,rfl⟩))
end Go.Proofs.YtblnhdnogjijiaaGreatDoor
namespace Go.Proofs.YtblnhdnogjijiaaGreatDoor

def stp2 (D:Nat→Nat→Int) (fs p:Nat × Nat):Nat × Nat:=if D p.1 p.2<D fs.1 fs.2 then p else fs
def selK (D:Nat→Nat→Int) (i:Nat) (fs:Nat × Nat):Nat→Nat × Nat
 | 0=>fs
 | k+1=>if i<k then stp2 D (selK D i fs k) (i,k) else selK D i fs k
def selI (D:Nat→Nat→Int) (n:Nat):Nat→Nat × Nat
 | 0=>(0,1)
 | i+1=>selK D i (selI D n i) n
theorem selK_low (D:Nat→Nat→Int) (i:Nat) (fs:Nat × Nat):∀ k,k≤i+1→selK D i fs k=fs
 | 0,_=>rfl
 | k+1,h=>by rw [selK,if_neg (by omega)];exact selK_low D i fs k (by omega)
theorem selK_step {D:Nat→Nat→Int} {i k:Nat} {fs:Nat × Nat} (h:i<k):selK D i fs (k+1)=stp2 D (selK D i fs k) (i,k):=if_pos h
def InP (n i k:Nat) (p:Nat × Nat):Prop:=p.1<p.2∧p.2<n∧(p=(0,1)∨p.1<i∨(p.1=i∧p.2<k))
theorem selK_in {D:Nat→Nat→Int} {n i:Nat} {fs:Nat × Nat} (h:InP n i 0 fs):∀ k,k≤n→InP n i k (selK D i fs k)
 | 0,_=>h
 | k+1,hk=>by
  have ih:=selK_in (D:=D) h k (by omega)
  obtain⟨h1,h2,h3⟩:=ih
  by_cases hik:i<k
  ·rw [selK_step hik]
   unfold stp2
   split
   ·exact⟨hik,by dsimp only;omega, .inr (.inr ⟨rfl,by dsimp only;omega⟩)⟩
   ·refine ⟨h1,h2,?_⟩
    rcases h3 with h3|h3|h3
    ·exact .inl h3
    ·exact .inr (.inl h3)
    ·exact .inr (.inr ⟨h3.1,by omega⟩)
  ·rw [selK,if_neg hik]
   refine ⟨h1,h2,?_⟩
   rcases h3 with h3|h3|h3
   ·exact .inl h3
   ·exact .inr (.inl h3)
   ·exact .inr (.inr ⟨h3.1,by omega⟩)
theorem selI_in {D:Nat→Nat→Int} {n:Nat} (h2:2≤n):∀ i,i≤n→InP n i 0 (selI D n i)
 | 0,_=>⟨Nat.zero_lt_one,by show 1<n;omega, .inl rfl⟩
 | i+1,hi=>by
  obtain⟨g1,g2,g3⟩:=selK_in (D:=D) (selI_in (D:=D) h2 i (by omega)) n (Nat.le_refl _)
  show InP n (i+1) 0 (selK D i (selI D n i) n)
  refine ⟨g1,g2,?_⟩
  rcases g3 with g3|g3|g3
  ·exact .inl g3
  ·exact .inr (.inl (by omega))
  ·exact .inr (.inl (by omega))
def tbl (D:Nat→Nat→Int) (i k p q:Nat):Int:=if min p q<i∨(min p q=i∧max p q<k) then D p q else 0
structure Sym (D:Nat→Nat→Int):Prop where
 z:∀ i,D i i=0
 s:∀ i k,D i k=D k i
theorem tbl_zero (D:Nat→Nat→Int) (p q:Nat):tbl D 0 0 p q=0:=if_neg (by omega)
theorem tbl_step {D:Nat→Nat→Int} (hD:Sym D) {i k:Nat} (h:i<k) (p q:Nat):tbl D i (k+1) p q=if p=k∧q=i then D i k else if p=i∧q=k then D i k else tbl D i k p q:=by
 unfold tbl
 by_cases h1:p=k∧q=i
 ·have h4:min p q<i∨(min p q=i∧max p q<k+1):=by omega
  rw [if_pos h1,if_pos h4,h1.1,h1.2,hD.s]
 ·rw [if_neg h1]
  by_cases h2:p=i∧q=k
  ·have h4:min p q<i∨(min p q=i∧max p q<k+1):=by omega
   rw [if_pos h2,if_pos h4,h2.1,h2.2]
  ·rw [if_neg h2]
   by_cases h3:min p q<i∨(min p q=i∧max p q<k)
   ·have h4:min p q<i∨(min p q=i∧max p q<k+1):=by omega
    rw [if_pos h3,if_pos h4]
   ·have h4:¬ (min p q<i∨(min p q=i∧max p q<k+1)):=by omega
    rw [if_neg h3,if_neg h4]
theorem tbl_low {D:Nat→Nat→Int} (hD:Sym D) (i p q:Nat):tbl D i (i+1) p q=tbl D i 0 p q:=by
 unfold tbl
 by_cases h1:p=i∧q=i
 ·obtain⟨rfl,rfl⟩:=h1
  rw [hD.z];split <;> split <;> rfl
 ·by_cases h3:min p q<i
  ·rw [if_pos (.inl h3),if_pos (.inl h3)]
  ·rw [if_neg (by omega),if_neg (by omega)]
theorem tbl_next {D:Nat→Nat→Int} {n:Nat} (i p q:Nat) (hp:p<n) (hq:q<n):tbl D i n p q=tbl D (i+1) 0 p q:=by
 unfold tbl
 by_cases h3:min p q<i∨(min p q=i∧max p q<n)
 ·rw [if_pos h3,if_pos (by omega)]
 ·rw [if_neg h3,if_neg (by omega)]
theorem tbl_all {D:Nat→Nat→Int} {n:Nat} (p q:Nat) (hp:p<n) (hq:q<n):tbl D n 0 p q=D p q:=if_pos (by omega)
theorem tbl_in {D:Nat→Nat→Int} {n i k:Nat} {x:Nat × Nat} (h:i<k) (hx:InP n i (k+1) x):tbl D i (k+1) x.1 x.2=D x.1 x.2:=by
 obtain⟨h1,h2,h3⟩:=hx
 refine if_pos ?_
 rcases h3 with h3|h3|h3
 ·have e1:x.1=0:=by rw [h3]
  have e2:x.2=1:=by rw [h3]
  omega
 ·omega
 ·omega
def tkOf (out:List Nat) (i:Nat):Bool:=out.any fun x=>decide (i=x)
theorem tkOf_iff {out:List Nat} {i:Nat}:tkOf out i=true↔i∈out:=by
 unfold tkOf;rw [List.any_eq_true];simp
theorem tkOf_no {out:List Nat} {i:Nat}:tkOf out i=false↔i ∉ out:=by
 rw [← tkOf_iff,Bool.not_eq_true]
def keyD (D:Nat→Nat→Int) (i:Nat) (x:Int):Int:=D i x.toNat
def minO (D:Nat→Nat→Int) (out:List Nat) (i:Nat):Int:=minF (keyD D i) (out.headD 0:Nat) (out.tail.map fun (x:Nat)=>(x:Int))
def nearV (D:Nat→Nat→Int) (out:List Nat) (i:Nat):Int:=D i (minO D out i).toNat
theorem minF_le (key:Int→Int):∀ (l:List Int) (x:Int),∀ y∈x::l,key (minF key x l)≤key y
 | [],x,y,h=>by
  rw [List.mem_singleton] at h;subst h;exact Int.le_refl _
 | z::l,x,y,h=>by
  have e:minF key x (z::l)=minF key (if key z<key x then z else x) l:=rfl
  rw [e]
  by_cases hlt:key z<key x
  ·rw [if_pos hlt]
   have h0:=minF_le key l z _ (List.mem_cons_self ..)
   rcases List.mem_cons.1 h with h|h
   ·rw [h];omega
   ·rcases List.mem_cons.1 h with h|h
    ·rw [h];omega
    ·exact minF_le key l z y (List.mem_cons_of_mem _ h)
  ·rw [if_neg hlt]
   have h0:=minF_le key l x _ (List.mem_cons_self ..)
   rcases List.mem_cons.1 h with h|h
   ·rw [h];omega
   ·rcases List.mem_cons.1 h with h|h
    ·rw [h];omega
    ·exact minF_le key l x y (List.mem_cons_of_mem _ h)
theorem minO_mem (D:Nat→Nat→Int) {out:List Nat} (h:out≠[]) (i:Nat):∃ q:Nat,q∈out∧minO D out i=(q:Int):=by
 cases out with
 | nil=>exact absurd rfl h
 | cons x l =>
  have:=minF_mem (keyD D i) (x:Nat) (l.map fun (x:Nat)=>(x:Int))
  show ∃ q:Nat,q∈x::l∧minF (keyD D i) (x:Nat) (l.map fun (x:Nat)=>(x:Int))=(q:Int)
  rcases List.mem_cons.1 this with h9|h9
  ·exact⟨x,List.mem_cons_self ..,h9⟩
  ·obtain⟨q,hq,e⟩:=List.mem_map.1 h9
   exact⟨q,List.mem_cons_of_mem _ hq,e.symm⟩
theorem nearV_min (D:Nat→Nat→Int) {out:List Nat} (h:out≠[]) (i:Nat) {n:Nat} (hn:∀ x∈out,x<n):IsMin (D i) (fun j=>j<n∧tkOf out j=true) (nearV D out i):=by
 obtain⟨q,hq,e⟩:=minO_mem D h i
 refine ⟨⟨q,⟨hn q hq,tkOf_iff.2 hq⟩,by unfold nearV;rw [e];rfl⟩,fun k hk=>?_⟩
 have hk2:=tkOf_iff.1 hk.2
 cases out with
 | nil=>exact absurd rfl h
 | cons x l =>
  have:=minF_le (keyD D i) (l.map fun (x:Nat)=>(x:Int)) (x:Nat) (k:Nat) (by
   rcases List.mem_cons.1 hk2 with rfl|h9
   ·exact List.mem_cons_self ..
   ·exact List.mem_cons_of_mem _ (List.mem_map.2 ⟨k,h9,rfl⟩))
  exact this
def nxtO (D:Nat→Nat→Int) (n:Nat) (out:List Nat):Nat:=(scanP (nearV D out) (tkOf out) n).1.toNat
def ordJ (D:Nat→Nat→Int) (n:Nat):Nat→List Nat
 | 0=>[(selI D n n).1,(selI D n n).2]
 | j+1=>ordJ D n j++[nxtO D n (ordJ D n j)]
def orderV (D:Nat→Nat→Int) (n:Nat):List Nat:=if n=0 then [] else if n=1 then [0] else ordJ D n (n - 2)
theorem ordJ_len (D:Nat→Nat→Int) (n:Nat):∀ j,(ordJ D n j).length=j+2
 | 0=>rfl
 | j+1=>by rw [ordJ,List.length_append,ordJ_len D n j];rfl
theorem pigeon:∀ (n:Nat) (l:List Nat),(∀ i,i<n→i∈l)→n≤l.length
 | 0,l,_=>Nat.zero_le _
 | n+1,l,h=>by
  have h1:=pigeon n (l.erase n) (fun i hi=>(List.mem_erase_of_ne (by omega)).2 (h i (by omega)))
  have h2:=List.length_erase_of_mem (h n (by omega))
  have h3:=List.length_pos_of_mem (h n (by omega))
  omega
theorem nxtO_law {D:Nat→Nat→Int} (hD:∀ i k,0≤D i k) {n:Nat} {out:List Nat} (h:out≠[]) (hn:∀ x∈out,x<n) (hl:out.length<n) :
  nxtO D n out<n∧nxtO D n out ∉ out∧scanP (nearV D out) (tkOf out) n=(((nxtO D n out:Nat):Int),nearV D out (nxtO D n out))∧scanR n D (tkOf out) n=(nearV D out (nxtO D n out),((nxtO D n out:Nat):Int))∧0≤nearV D out (nxtO D n out)∧∀ j,j<n→j ∉ out→nearV D out (nxtO D n out)≤nearV D out j:=by
 rcases scan_law (near:=nearV D out) (tk:=tkOf out) hD (fun i _ _=>nearV_min D h i hn) n (Nat.le_refl _) with⟨h1,h2,h3⟩|⟨q,h1,h2,h3,h4,h5,h6⟩
 ·exfalso
  have:=pigeon n out fun i hi=>tkOf_iff.1 (h3 i hi)
  omega
 ·have e:nxtO D n out=q:=by unfold nxtO;rw [h3];rfl
  rw [e]
  exact⟨h1,tkOf_no.1 h2,h3,h4,h5,fun j hj hjo=>h6 j hj (tkOf_no.2 hjo)⟩
theorem ordJ_ok {D:Nat→Nat→Int} (hD:∀ i k,0≤D i k) {n:Nat} (h2:2≤n):∀ j,j+2≤n→(ordJ D n j).Nodup∧∀ x∈ordJ D n j,x<n
 | 0,_=>by
  obtain⟨g1,g2,_⟩:=selI_in (D:=D) h2 n (Nat.le_refl _)
  refine ⟨?_,fun x hx=>?_⟩
  ·show [(selI D n n).1,(selI D n n).2].Nodup
   simp;omega
  ·have hx:x=(selI D n n).1∨x=(selI D n n).2:=by simpa [ordJ] using hx
   omega
 | j+1,hj=>by
  obtain⟨g1,g2⟩:=ordJ_ok hD h2 j (by omega)
  have hne:ordJ D n j≠[]:=fun h=>by have:=ordJ_len D n j;rw [h] at this;simp at this
  obtain⟨q1,q2,_⟩:=nxtO_law hD hne g2 (by rw [ordJ_len];omega)
  refine ⟨?_,fun x hx=>?_⟩
  ·rw [ordJ,List.nodup_append]
   refine ⟨g1,by simp,fun a ha b hb=>?_⟩
   rw [List.mem_singleton] at hb
   subst hb
   exact fun e=>q2 (e ▸ ha)
  ·rw [ordJ,List.mem_append,List.mem_singleton] at hx
   rcases hx with hx|rfl
   ·exact g2 x hx
   ·exact q1
theorem orderV_len (D:Nat→Nat→Int) (n:Nat):(orderV D n).length=n:=by
 unfold orderV
 split
 ·rename_i h;rw [h];rfl
 ·split
  ·rename_i h;rw [h];rfl
  ·rw [ordJ_len];omega
theorem orderV_ok {D:Nat→Nat→Int} (hD:∀ i k,0≤D i k) (n:Nat):(orderV D n).Nodup∧∀ x∈orderV D n,x<n:=by
 unfold orderV
 split
 ·simp
 ·split
  ·simp;omega
  ·exact ordJ_ok hD (by omega) _ (by omega)
end Go.Proofs.YtblnhdnogjijiaaGreatDoor
namespace Go.Proofs.YtblnhdnogjijiaaGreatDoor

structure Dbl (G F:Grd):Prop where
 n:F.n=G.n
 m:F.m=G.m
 p:∀ i k,i<G.n→k<G.m→F.p i k=2 * G.p i k
 g:∀ i,i<G.n→F.g i=2 * G.g i
 h:∀ k,k<G.m→F.h k=2 * G.h k
structure One (G F:Grd) (q:Nat) (z:Int):Prop where
 hq:q≤G.n
 n:F.n=G.n+1
 m:F.m=G.m
 p:∀ i k,i<q→k<G.m→F.p i k=G.p i k
 g:∀ i,i<q→F.g i=G.g i
 z:F.g q=z
 p2:∀ i k,q≤i→i<G.n→k<G.m→F.p (i+1) k=G.p i k
 g2:∀ i,q≤i→i<G.n→F.g (i+1)=G.g i
 h:∀ k,k<G.m→F.h k=G.h k
end Go.Proofs.YtblnhdnogjijiaaGreatDoor
namespace Go.Proofs.YtblnhdnogjijiaaGreatDoor
open Go.RowKit Go.Shelf Go.Proofs
set_option maxRecDepth 100000
set_option maxHeartbeats 1000000

def entC (c:Costs) (l:List Tok) (z:Int) (t:List Tok) (k:Int):Int :=
 if 0≤z∧0≤k then pairC c (tkA l z.toNat) (tkA t k.toNat) else if 0≤z then gapC c (tkA l z.toNat) else if 0≤k then gapC c (tkA t k.toNat) else 0
theorem entC_bd {c:Costs} (hc:costE c=0) (l:List Tok) (z:Int) (t:List Tok) (k:Int):0≤entC c l z t k∧entC c l z t k≤1000:=by
 obtain⟨c1,c2,c3,c4,c5⟩:=costE_ok hc
 have h1:=pairC_bd hc (tkA l z.toNat) (tkA t k.toNat)
 have h2:=gapC_bd hc (tkA l z.toNat)
 have h3:=gapC_bd hc (tkA t k.toNat)
 unfold entC
 (repeat' split) <;> omega
def putS (c:Costs) (l:List TS) (col:List Int) (t:List Tok) (k:Int) (j:Nat):Int:=(((l.zip col).take j).map fun p=>entC c p.1.l p.2 t k).sum
def putC (c:Costs) (l:List TS) (col:List Int) (t:List Tok) (k:Int):Int:=((l.zip col).map fun p=>entC c p.1.l p.2 t k).sum
theorem putS_succ (c:Costs) {l:List TS} {col:List Int} (t:List Tok) (k:Int) {j:Nat} {s:TS} {z:Int} (h1:l[j]?=some s) (h2:col[j]?=some z):putS c l col t k (j+1)=putS c l col t k j+entC c s.l z t k:=by
 have h:(l.zip col)[j]?=some (s,z):=by rw [List.getElem?_zip_eq_some];exact⟨h1,h2⟩
 unfold putS;rw [take_snoc _ _ _ h,List.map_append,List.sum_append];simp
theorem putS_bd {c:Costs} (hc:costE c=0) (l:List TS) (col:List Int) (t:List Tok) (k:Int):∀ j,0≤putS c l col t k j∧putS c l col t k j≤1000 * (j:Int)
 | 0=>by simp [putS]
 | j+1=>by
  have ih:=putS_bd hc l col t k j
  cases h:(l.zip col)[j]? with
  | none =>
   have hl:(l.zip col).length≤j:=List.getElem?_eq_none_iff.1 h
   have e:putS c l col t k (j+1)=putS c l col t k j:=by unfold putS;rw [List.take_of_length_le hl,List.take_of_length_le (by omega)]
   rw [e];omega
  | some p =>
   obtain⟨h1,h2⟩:=List.getElem?_zip_eq_some.1 h
   have:=entC_bd hc p.1.l p.2 t k
   rw [putS_succ c t k h1 h2];omega
theorem putS_all (c:Costs) {l:List TS} {col:List Int} (t:List Tok) (k:Int) {n:Nat} (h:l.length≤n):putS c l col t k n=putC c l col t k:=by
 unfold putS putC;rw [List.take_of_length_le (by rw [List.length_zip];omega)]
def ColOk (l:List TS) (col:List Int):Prop:=col.length=l.length∧∀ (j:Nat) (z:Int) (s:TS),col[j]?=some z→l[j]?=some s → -1≤z∧z<(s.n:Int)
theorem badS_ok {l:List TS} (h:badS l=false):∀ s∈l,∀ x∈s.l,tokE x=0:=fun s hs=>badL_false.1 (by
 unfold badS at h
 rw [List.any_eq_false] at h
 simpa using h s hs)
theorem tkA_mem2 {l:List Tok} {z:Int} (h0:0≤z) (h1:z<(l.length:Nat)):tkA l z.toNat∈l:=List.mem_of_getElem? (tkA_get (l:=l) (i:=z.toNat) (by omega))
theorem put21_spec (c:Costs) (A Ac At:Option Addr) (n ca cc m ct:Nat) (l:List TS) (col:List Int) (t:List Tok) (k:Int) (w:World) (hg:Grp w A n l) (hc:costE c=0) (hbs:badS l=false)
  (hcs:Src w 1 Ac n (col.map (Value.int .i64))) (hco:ColOk l col) (hts:Src w 6 At m (t.flatMap Tok.cells)) (htl:t.length=m) (hm:m≤1000) (hte:∀ x∈t,tokE x=0) (hk : -1≤k∧k<(m:Int)) :
  Spec Tryz.prog 182 [c.val, .slice A n ca, .slice Ac n cc, .slice At m ct, .int .i64 k] w (fun v R=>v = .int .i64 (putC c l col t k)∧R=[]):=by
 refine spec_of sg Tryz.func182 rfl rfl rfl ?_
 refine T_op (OpT.box (cs:=c.cells) rfl rfl rfl rfl rfl rfl rfl (fun pc=>?_))
 have hb:=hg.hb
 have hn:=hg.hn
 repeat' (first|refine d1 ?_|fail)
 refine T_loopX (fun j:Nat=>[(12, .int .i64 j),(11, .int .i64 (putS c l col t k j))]) (fun _=>[blk pc c.cells 23]) (fun j=>j≤n) (fun j=>n - j) 0 (Nat.zero_le _) ?_
 intro j hj
 repeat' (first|refine d1 ?_|fail)
 refine T_if rfl (fun h=>?_) (fun h=>?_)
 ·simp only [decide_eq_true_eq] at h
  have hjn:j<n:=by omega
  obtain⟨b,o,rfl⟩:=hg.hs.base (by omega)
  obtain⟨b1,o1,rfl⟩:=hcs.base (by omega)
  obtain⟨s,hs,hsm,hr⟩:=hg.get hjn
  obtain⟨z,hz⟩:∃ z,col[j]?=some z:=⟨_,List.getElem?_eq_getElem (by have:=hco.1;omega)⟩
  have hr1:=src_int hcs hjn hz
  obtain⟨hz1,hz2⟩:=hco.2 j z s hz hs
  have hsl:=hg.ok.len s hsm
  have hsn:=hg.nb s hsm
  have hput:=putS_succ c t k hs hz
  have hbd:=putS_bd hc l col t k j
  have hbe:=entC_bd hc s.l z t k
  have hcls:∀ x∈s.l,tokE x=0:=badS_ok hbs s hsm
  repeat' (first|refine d1 ?_|fail)
  refine T_if rfl (fun h1=>?_) (fun h1=>?_)
  ·have h2:0≤z∧0≤k:=by simpa using h1
   obtain⟨b2,o2,hsA⟩:=(hg.ok.src s hsm).base (by omega)
   obtain⟨b3,o3,rfl⟩:=hts.base (by omega)
   have hsr:RdC w b2 (o2+z.toNat * 6) (tkA s.l z.toNat).cells:=(hsA ▸ hg.ok.src s hsm:Src w 6 (some ⟨b2,o2,none⟩) s.n (s.l.flatMap Tok.cells)).getT (k:=z.toNat) (by omega) (tkA_get (by omega))
   have htr:RdC w b3 (o3+k.toNat * 6) (tkA t k.toNat).cells:=hts.getT (k:=k.toNat) (by omega) (tkA_get (by omega))
   have e1:pairV c (tkA s.l z.toNat) (tkA t k.toNat)=(entC c s.l z t k,0):=by
    unfold entC;rw [if_pos h2];exact if_pos ⟨hc,hcls _ (tkA_mem2 h2.1 (by omega)),hte _ (tkA_mem2 h2.2 (by omega))⟩
   rw [hsA] at hr
   repeat' (first|refine d1 ?_|refine dd ?_|(show T _ (.run _ _ (_::_) _ _::_) _ _ _;refine rc rfl rfl rfl rfl rfl rfl rfl (fun w hw=>pairTopRef_spec c (tkA s.l z.toNat) (tkA t k.toNat) w) ?_)|fail)
   rw [e1]
   repeat' (first|refine d1 ?_|fail)
   exact T_backX (j+1) (by omega) (by omega) (hE:=⟨rfl,by rw [hput];rfl,trivial⟩)
  ·have h2:¬ (0≤z∧0≤k):=fun h9=>by simp [h9.1,h9.2] at h1
   repeat' (first|refine d1 ?_|fail)
   refine T_if rfl (fun h3=>?_) (fun h3=>?_)
   ·simp only [decide_eq_true_eq] at h3
    obtain⟨b2,o2,hsA⟩:=(hg.ok.src s hsm).base (by omega)
    have hsr:RdC w b2 (o2+z.toNat * 6) (tkA s.l z.toNat).cells:=(hsA ▸ hg.ok.src s hsm:Src w 6 (some ⟨b2,o2,none⟩) s.n (s.l.flatMap Tok.cells)).getT (k:=z.toNat) (by omega) (tkA_get (by omega))
    have e1:gapV c (tkA s.l z.toNat)=(entC c s.l z t k,0):=by
     unfold entC;rw [if_neg h2,if_pos h3];exact if_pos ⟨hc,hcls _ (tkA_mem2 h3 (by omega))⟩
    rw [hsA] at hr
    repeat' (first|refine d1 ?_|refine dd ?_|(show T _ (.run _ _ (_::_) _ _::_) _ _ _;refine rc rfl rfl rfl rfl rfl rfl rfl (fun w hw=>gapTopRef_spec c (tkA s.l z.toNat) w) ?_)|fail)
    rw [e1]
    repeat' (first|refine d1 ?_|fail)
    exact T_backX (j+1) (by omega) (by omega) (hE:=⟨rfl,by rw [hput];rfl,trivial⟩)
   ·simp only [decide_eq_false_iff_not] at h3
    repeat' (first|refine d1 ?_|fail)
    refine T_if rfl (fun h4=>?_) (fun h4=>?_)
    ·simp only [decide_eq_true_eq] at h4
     obtain⟨b3,o3,rfl⟩:=hts.base (by omega)
     have htr:RdC w b3 (o3+k.toNat * 6) (tkA t k.toNat).cells:=hts.getT (k:=k.toNat) (by omega) (tkA_get (by omega))
     have e1:gapV c (tkA t k.toNat)=(entC c s.l z t k,0):=by
      unfold entC;rw [if_neg h2,if_neg h3,if_pos h4];exact if_pos ⟨hc,hte _ (tkA_mem2 h4 (by omega))⟩
     repeat' (first|refine d1 ?_|refine dd ?_|(show T _ (.run _ _ (_::_) _ _::_) _ _ _;refine rc rfl rfl rfl rfl rfl rfl rfl (fun w hw=>gapTopRef_spec c (tkA t k.toNat) w) ?_)|fail)
     rw [e1]
     repeat' (first|refine d1 ?_|fail)
     exact T_backX (j+1) (by omega) (by omega) (hE:=⟨rfl,by rw [hput];rfl,trivial⟩)
    ·simp only [decide_eq_false_iff_not] at h4
     have e1:entC c s.l z t k=0:=by unfold entC;rw [if_neg h2,if_neg h3,if_neg h4]
     rw [e1] at hput
     repeat' (first|refine d1 ?_|fail)
     exact T_backX (j+1) (by omega) (by omega) (hE:=⟨rfl,by rw [hput];rfl,trivial⟩)
 ·simp only [decide_eq_false_iff_not] at h
  rw [putS_all c t k (by omega)]
  repeat' (first|refine d1 ?_|(show T _ (.code .ret::_) _ _ _;refine T_retV [] rfl (Hle.none _) ⟨rfl,rfl⟩))
end Go.Proofs.YtblnhdnogjijiaaGreatDoor
