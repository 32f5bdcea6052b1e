/- Joined texts of this claim, part 0. -/
import Derived.WalkKit
import Derived.OrdersHeld
import Derived.Shelf.Abstract
import Derived.OrdersIn
import Derived.TacticsIn
import Derived.RangeFuncLeaves
import Derived.RangeFuncRecord
import Derived.Deep.LoopGhost
import Derived.Lib.Strings
import Derived.WalkSpells
import Derived.Laws.BitsAllLaws
import Derived.Laws.BitsLemmas
import Derived.Maps.AppendAt
import Derived.Laws.OwnMore
import Derived.Laws.MakeOwn
import Derived.Great.FillDense
import Derived.Lib.ConvBytes
import Derived.Lib.AtoiErrMem
import Derived.Laws.StructEq
import Derived.Laws.Tables
import Derived.Deep.Slices
import Derived.OpenShut
import Derived.ChangeSame
import Derived.ProofKit
import Derived.Stop.LaidErr
import Derived.LaidMore
import Derived.Below
import Derived.Stop.Joined
import Derived.Shelf.Strings.Builder1
import Derived.Shelf.Small.Bits
import Derived.Shelf.Small.Strs
import Derived.Shelf.Utf8.RuneCount
import Derived.Shelf.Strconv.Atoi
import Derived.Shelf.Strconv.Itoa0
import Derived.Shelf.Strconv.Itoa1
import Derived.Shelf.LaysM
import Derived.Shelf.Strconv.Itoa2
import Derived.Shelf.Strconv.Itoa3
import Derived.Shelf.Strconv.AtoiErrFast
import Derived.Shelf.Strconv.ParseIntEmpty
import Derived.Shelf.Strconv.AtoiFail
import Derived.Shelf.Strconv.Clone
import Derived.Shelf.Strconv.SyntaxError
import Derived.Shelf.LaysC
import Derived.Shelf.Strconv.ToError
import Derived.Shelf.Strconv.AtoiErr
import Derived.Shelf.Strconv.ErrVar
import Derived.Shelf.Strconv.Lower
import Derived.Shelf.Strconv.ParseUint10
import Derived.Shelf.Strconv.ParseUint10Empty
import Derived.Shelf.Strconv.ParseUint10Any
import Derived.Shelf.Strconv.ParseInt10
import Derived.Shelf.Strconv.AtoiLong
import Derived.Shelf.Strconv.AtoiInnerAll
import Derived.Shelf.Strconv.RangeError
import Derived.Shelf.Strconv.ToErrorRange
import Derived.Shelf.Strconv.AtoiAll
import Derived.Shelf.Strconv.ErrVarAll
import Derived.Shelf.Strings.Search1
import Derived.Shelf.Strings.Search2
import Derived.Shelf.Strings.Search3
import Derived.Shelf.Strings.Count
import Derived.Shelf.Strings.Shaped
import Derived.Shelf.Strings.Split
import Derived.Shelf.Unicode.Decode
import Derived.Shelf.Strings.RuneCount
import Derived.Shelf.Strings.Explode
import Derived.Shelf.Bits.Mul64
import Derived.Shelf.Unicode.DecodeSlow
import Derived.Shelf.Unicode.DecodeAny
import Derived.Ground.Names2Prog
import Derived.Shelf.Slices.Clone
import Derived.Shelf.Slices.SearchI
import Derived.Ground.SlgnProg
import Derived.Shelf.SlicesE.Clone
import Derived.Ground.SlsfProg
import Derived.Shelf.SlSortCmp.Insertion
import Derived.Shelf.SlSortCmp.SiftDown1
import Derived.Shelf.SlSortCmp.HeapSort1
import Derived.Shelf.SlSortCmp.Insertion1
import Derived.Shelf.SlSortCmp.Median1
import Derived.Shelf.SlSortCmp.Pivot1
import Derived.Shelf.SlSortCmp.ReverseRange1
import Derived.Shelf.SlSortCmp.PartialInsertion1
import Derived.Shelf.SlSortCmp.PartitionEqual1
import Derived.Shelf.SlSortCmp.Partition1
import Derived.Shelf.SlSortCmp.Pdq1
import Derived.Shelf.SlSortCmp.Whole1
import Derived.Test.YtblnhdnogjijiaaGreatDoorProg
set_option linter.unusedSectionVars false
set_option linter.unusedVariables false
set_option linter.unusedSimpArgs false
namespace Go.Proofs.YtblnhdnogjijiaaGreatDoor
open Go.RowKit Go.Shelf

inductive Ty where
 | bool|int (k:IntKind)|str|slice (e:TypeId)|struct (fs:List (TypeId × Nat))|arr (n:Nat) (e:TypeId)|func|ptr (e:TypeId)|iface|other
structure TyI where
 d:Ty
 size:Nat
 bytes:Nat
 zero:Value

def Ty.fits (P:Program) (t:TypeId):Ty→Prop
 | .bool=>P.underlying t=some .bool
 | .int k=>P.underlying t=some (.int k)
 | .str=>P.underlying t=some .string
 | .slice e=>P.underlying t=some (.slice e)
 | .struct fs=>∃ a,P.underlying t=some (.struct a)∧a.toList.map (fun f=>(f.type,f.offset))=fs
 | .arr n e=>P.underlying t=some (.array n e)
 | .func=>∃ a b c,P.underlying t=some (.func a b c)
 | .ptr e=>P.underlying t=some (.pointer e)
 | .iface=>∃ a,P.underlying t=some (.interface a)
 | .other=>True
structure TyOk (P:Program) (t:TypeId) (i:TyI):Prop where
 fits:i.d.fits P t
 info:(P.info? t).map (fun x=>(x.size,x.bytes,x.zero))=some (i.size,i.bytes,some i.zero)

def Ty.isAgg:Ty→Bool
 | .struct _ | .arr _ _=>true
 | _=>false
def Ty.plain:Ty→Bool
 | .other=>false
 | _=>true

def lookT:List (Nat × TyI)→Nat→Option TyI
  | [],_=>none
  | (j,i)::l,t=>cond (Nat.beq j t) (some i) (lookT l t)
theorem lookT_mem:∀ {l:List (Nat × TyI)} {t:Nat} {i:TyI},lookT l t=some i→(t,i)∈l
  | (j,x)::l,t,i,h=>by
    unfold lookT at h
    cases hb:Nat.beq j t with
    | true =>
      rw [hb] at h
      have e:j=t:=Nat.eq_of_beq_eq_true hb
      simp only [cond_true,Option.some.injEq] at h
      subst e;subst h;exact .head _
    | false =>
      rw [hb] at h
      exact .tail _ (lookT_mem h)

structure Sig where
 P:Program
 tab:List (Nat × TyI)
 ok:∀ e∈tab,TyOk P e.1 e.2
 mixed:P.follows .mixedOrders=true
def Sig.ty (S:Sig) (t:Nat):Option TyI:=lookT S.tab t
theorem Sig.tyOk {S:Sig} {t:Nat} {i:TyI} (h:S.ty t=some i):TyOk S.P t i:=S.ok (t,i) (lookT_mem h)

section
variable {P:Program} {t:TypeId} {i:TyI} (h:TyOk P t i) (w:World)
include h
theorem TyOk.info':∃ x,P.info? t=some x∧x.size=i.size∧x.bytes=i.bytes∧x.zero=some i.zero:=by
 have:=h.info
 cases hx:P.info? t with
 | none=>simp [hx] at this
 | some x=>simp [hx] at this;exact⟨x,rfl,this.1,this.2.1,this.2.2⟩
theorem TyOk.sizeOf:(sizeOf t).run P w = .ok i.size w:=by
 obtain⟨x,hx,h1,_,_⟩:=h.info'
 simp [Go.sizeOf,typeInfo,hx,h1]
theorem TyOk.typeInfo:∃ x,(typeInfo t).run P w = .ok x w∧x.size=i.size∧x.bytes=i.bytes∧x.zero=some i.zero:=by
 obtain⟨x,hx,h1⟩:=h.info'
 exact⟨x,by simp [Go.typeInfo,hx],h1⟩
theorem TyOk.zeroValue:(zeroValue t).run P w = .ok i.zero w:=by
 obtain⟨x,hx,_,_,h1⟩:=h.info'
 simp [Go.zeroValue,Go.typeInfo,hx,h1]
theorem TyOk.isAgg (hp:i.d.plain=true):(isAgg t).run P w = .ok i.d.isAgg w:=by
 have hf:=h.fits
 revert hf hp
 cases i.d <;> simp only [Ty.fits,Ty.plain,Ty.isAgg] <;> intro hp hf
 case struct fs=>obtain⟨a,ha,_⟩:=hf;simp [Go.isAgg,run_underlying ha]
 case func=>obtain⟨a,b,c,ha⟩:=hf;simp [Go.isAgg,run_underlying ha]
 case iface=>obtain⟨a,ha⟩:=hf;simp [Go.isAgg,run_underlying ha]
 case other=>cases hp
 all_goals simp [Go.isAgg,run_underlying hf]
end

abbrev GId:=List (Nat × Bool)
abbrev Env:=List (Nat × Value)
abbrev EnvC:=List (Nat × (GId × Value))

def lookE {α:Type}:List (Nat × α)→Nat→Option α
  | [],_=>none
  | (j,x)::l,s=>cond (Nat.beq j s) (some x) (lookE l s)
theorem lookE_cons {α:Type} {j:Nat} {x:α} {l:List (Nat × α)} {s:Nat} {y:α} (h:lookE ((j,x)::l) s=some y):(j=s∧x=y)∨(j≠s∧lookE l s=some y):=by
 unfold lookE at h
 cases hb:Nat.beq j s with
 | true=>rw [hb] at h;exact .inl ⟨Nat.eq_of_beq_eq_true hb,by simpa using h⟩
 | false=>rw [hb] at h;exact .inr ⟨fun e=>by subst e;simp at hb,by simpa using h⟩

def memG (x:Nat × Bool):GId→Bool
 | []=>false
 | y::l=>(Nat.beq x.1 y.1 && (x.2 == y.2)) || memG x l
def subG:GId→GId→Bool
 | [],_=>true
 | x::l,G=>memG x G && subG l G

def Holds (all:Array Oper) (a:Act) (G:GId):Prop:=∀ x∈G,yielded all a.tmps x.1=some x.2
theorem Holds.nil (all:Array Oper) (a:Act):Holds all a []:=fun _ h=>by cases h
theorem memG_spec {x:Nat × Bool}:∀ {G:GId},memG x G=true→x∈G
 | y::l,h=>by
  simp only [memG,Bool.or_eq_true,Bool.and_eq_true] at h
  rcases h with⟨h1,h2⟩|h
  ·have e1:x.1=y.1:=Nat.eq_of_beq_eq_true h1
   have e2:x.2=y.2:=by simpa using h2
   have:x=y:=Prod.ext e1 e2
   subst this;exact .head _
  ·exact .tail _ (memG_spec h)
theorem subG_spec:∀ {l G:GId},subG l G=true→∀ x∈l,x∈G
 | [],_,_,_,h=>by cases h
 | y::l,G,h,x,hx=>by
  simp only [subG,Bool.and_eq_true] at h
  cases hx with
  | head=>exact memG_spec h.1
  | tail _ hx=>exact subG_spec h.2 x hx
theorem Holds.sub {all:Array Oper} {a:Act} {l G:GId} (h:Holds all a G) (hs:subG l G=true):Holds all a l:=fun x hx=>h x (subG_spec hs x hx)

structure FK where
 n:Nat
 ds:List Deferred
structure Agrees (N:FK) (all:Array Oper) (env:Env) (ec:EnvC) (a:Act):Prop where
 defers:a.defers=N.ds
 size:a.tmps.size=N.n
 at_:∀ s v,lookE env s=some v→a.tmps.getD s undef=v
 yes:∀ s G v,lookE ec s=some (G,v)→Holds all a G→a.tmps.getD s undef=v
 no:∀ s G v,lookE ec s=some (G,v)→¬ Holds all a G→a.tmps.getD s undef=undef
theorem Agrees.plain {N:FK} {all all':Array Oper} {env:Env} {ec:EnvC} {a:Act} (h:Agrees N all env ec a):Agrees N all' env [] a :=
 ⟨h.defers,h.size,h.at_,fun _ _ _ h=>(by cases h),fun _ _ _ h=>(by cases h)⟩

def evX (env:Env) (ec:EnvC) (G:GId):Operand→Option Value
 | .tmp s=>match lookE env s with
  | some v=>some v
  | none=>match lookE ec s with
   | some (g,v)=>cond (subG g G) (some v) none
   | none=>none
 | .const v=>some v
 | .global g=>some (.pointer (some ⟨g,0,none⟩))
 | .func f=>some (.func (.func f) #[] #[])
section
variable {N:FK} {all:Array Oper} {env:Env} {ec:EnvC} {a:Act} {G:GId} (ha:Agrees N all env ec a)
include ha
theorem evX_spec (hG:Holds all a G) {x:Operand} {v:Value} (h:evX env ec G x=some v):a.eval x=v:=by
 cases x <;> simp only [evX] at h
 case tmp s =>
  split at h
  ·rename_i u hl;cases h;exact ha.at_ s _ hl
  ·split at h
   ·rename_i g u hl
    cases hs:subG g G with
    | true=>rw [hs] at h;simp at h;subst h;exact ha.yes s g u hl (hG.sub hs)
    | false=>rw [hs] at h;cases h
   ·cases h
 all_goals (cases h;rfl)
end
theorem yielded_some {all:Array Oper} {a:Act} {i s:Nat} {p:Bool} (hs:(all[i]?).bind (·.dst)=some s) (hy:yielded all a.tmps i=some p):a.tmps.getD s undef = .bool p:=by
 unfold yielded at hy
 rw [hs] at hy
 simp only [Option.bind_some] at hy
 cases hq:a.tmps[s]? with
 | none=>rw [hq] at hy;simp at hy
 | some u =>
  rw [hq] at hy
  have:a.tmps.getD s undef=u:=by simp [Array.getD_eq_getD_getElem?,hq]
  rw [this]
  cases u <;> simp at hy ⊢
  exact hy

def dstL (all:Array Oper) (i:Nat):Option Nat:=(all.toList[i]?).bind (·.dst)
theorem dstL_eq {all:Array Oper} {i:Nat}:dstL all i=(all[i]?).bind (·.dst):=by simp [dstL]

def isDef:Op→Bool
 | .defer _=>true
 | _=>false
def gOf (all:Array Oper) (env:Env) (ec:EnvC) (o:Oper):Option GId :=
 cond (isDef o.op) none <| match o.guard with
 | none=>some []
 | some (i,p)=>match dstL all i with
  | some s=>match lookE env s with
   | some (.bool _)=>some [(i,p)]
   | some _=>none
   | none=>match lookE ec s with
    | some (g, .bool _)=>some (g++[(i,p)])
    | _=>none
  | none=>none
theorem wanted_iff {N:FK} {all:Array Oper} {env:Env} {ec:EnvC} {a:Act} {o:Oper} {G:GId} (ha:Agrees N all env ec a) (h:gOf all env ec o=some G) :
  Region.wanted o (yielded all a.tmps)=true↔Holds all a G:=by
 unfold gOf at h
 cases hdf:isDef o.op with
 | true=>rw [hdf] at h;cases h
 | false =>
 rw [hdf] at h
 simp only [cond_false] at h
 unfold Region.wanted
 cases hg:o.guard with
 | none=>rw [hg] at h;injection h with h;subst h;simp [Holds.nil]
 | some ip =>
  obtain⟨i,p⟩:=ip
  rw [hg] at h
  simp only at h ⊢
  split at h
  ·rename_i s hs
   split at h
   ·injection h with h;subst h
    constructor
    ·intro hw x hx
     have:x=(i,p):=by simpa using hx
     subst this
     simpa using hw
    ·intro hH
     have:=hH (i,p) (by simp)
     simp [this]
   ·cases h
   ·split at h
    ·rename_i g b hl
     injection h with h;subst h
     constructor
     ·intro hw
      have hy:yielded all a.tmps i=some p:=by simpa using hw
      by_cases hH:Holds all a g
      ·intro x hx
       rcases List.mem_append.1 hx with hx|hx
       ·exact hH x hx
       ·have:x=(i,p):=by simpa using hx
        subst this;exact hy
      ·have hu:=ha.no s g _ hl hH
       have:=yielded_some (by rw [← dstL_eq];exact hs) hy
       rw [hu] at this;cases this
     ·intro hH
      have:=hH (i,p) (by simp)
      simp [this]
    ·cases h
  ·cases h

theorem gOf_def {all:Array Oper} {env:Env} {ec:EnvC} {o:Oper} {G:GId} (h:gOf all env ec o=some G):∀ c,o.op ≠ .defer c:=by
 intro c hc
 unfold gOf at h
 rw [hc] at h
 cases h
def GP (all:Array Oper) (env:Env) (ec:EnvC):GId→Prop
  | []=>True
  | (i,p)::l=>(match dstL all i with
    | some s=>match lookE env s with
      | some (.bool b)=>b=p
      | some _=>True
      | none=>match lookE ec s with
        | some (_, .bool b)=>b=p
        | _=>True
    | none=>True)∧GP all env ec l
theorem Holds.gp {N:FK} {all:Array Oper} {env:Env} {ec:EnvC} {a:Act} (ha:Agrees N all env ec a):∀ {G:GId},Holds all a G→GP all env ec G
  | [],_=>trivial
  | (i,p)::l,h=>by
    refine ⟨?_,Holds.gp ha (fun x hx=>h x (.tail _ hx))⟩
    have hy:=h (i,p) (.head _)
    split
    · rename_i s hs
      have ht:=yielded_some (by rw [← dstL_eq];exact hs) hy
      split
      · rename_i b hl
        rw [ha.at_ s _ hl] at ht
        simpa using ht
      · trivial
      · split
        · rename_i g b hl
          by_cases hH:Holds all a g
          · rw [ha.yes s g _ hl hH] at ht
            simpa using ht
          · rw [ha.no s g _ hl hH] at ht;cases ht
        · trivial
    · trivial

def safeG (all:Array Oper) (d:Nat):GId→Bool
  | []=>true
  | (i,_)::l=>(match dstL all i with|some s => !(Nat.beq s d)|none=>true) && safeG all d l
def safeC (all:Array Oper) (d:Nat):EnvC→Bool
  | []=>true
  | (s,(G,_))::l => !(Nat.beq s d) && safeG all d G && safeC all d l
theorem beq_ne {s d:Nat} (h:(!(Nat.beq s d))=true):s≠d:=fun e=>by subst e;simp at h
theorem safeG_spec {all:Array Oper} {d:Nat}:∀ {G:GId},safeG all d G=true→∀ x∈G,(all[x.1]?).bind (·.dst)≠some d
  | [],_,_,h=>by cases h
  | (i,p)::l,h,x,hx=>by
    simp only [safeG,Bool.and_eq_true] at h
    cases hx with
    | head =>
      intro he
      rw [← dstL_eq] at he
      simp only at he
      have h1:=h.1
      rw [he] at h1
      exact beq_ne h1 rfl
    | tail _ hx=>exact safeG_spec h.2 x hx
theorem safeC_spec {all:Array Oper} {d:Nat}:∀ {ec:EnvC},safeC all d ec=true→∀ s G v,lookE ec s=some (G,v)→s≠d∧safeG all d G=true
  | [],_,_,_,_,h=>by cases h
  | (j,(G',v'))::l,h,s,G,v,hx=>by
    simp only [safeC,Bool.and_eq_true] at h
    rcases lookE_cons hx with⟨e,e2⟩|⟨_,hx⟩
    · injection e2 with e2 e3;subst e;subst e2
      exact⟨beq_ne h.1.1,h.1.2⟩
    · exact safeC_spec h.2 s G v hx
theorem yielded_put {all:Array Oper} {a:Act} {d i:Nat} {v:Value} (h:(all[i]?).bind (·.dst)≠some d):yielded all (a.put (some d) v).tmps i=yielded all a.tmps i:=by
 unfold yielded
 cases hs:(all[i]?).bind (·.dst) with
 | none=>rfl
 | some s =>
  have hne:d≠s:=fun e=>h (by rw [hs,e])
  simp [Act.put,Array.getElem?_setIfInBounds_ne hne]
theorem holds_put {all:Array Oper} {a:Act} {d:Nat} {v:Value} {G:GId} (h:safeG all d G=true):Holds all (a.put (some d) v) G↔Holds all a G:=by
 unfold Holds
 constructor <;> intro hh x hx
 ·rw [← yielded_put (safeG_spec h x hx)];exact hh x hx
 ·rw [yielded_put (safeG_spec h x hx)];exact hh x hx
theorem getD_put_same {a:Act} {d:Nat} {v:Value} (h:d<a.tmps.size):(a.put (some d) v).tmps.getD d undef=v:=by simp [Act.put,h]
theorem getD_put_ne {a:Act} {d s:Nat} {v:Value} (h:d≠s):(a.put (some d) v).tmps.getD s undef=a.tmps.getD s undef:=by
 simp [Act.put,Array.getElem?_setIfInBounds_ne h]

section
variable {N:FK} {all:Array Oper} {env:Env} {ec:EnvC} {a:Act} {d:Nat} {v:Value} (ha:Agrees N all env ec a)
include ha
theorem Agrees.put (hd:Nat.blt d N.n=true) (hs:safeC all d ec=true):Agrees N all ((d,v)::env) ec (a.put (some d) v):=by
 have hd':d<a.tmps.size:=by rw [Nat.blt_eq] at hd;rw [ha.size];exact hd
 refine ⟨by simpa [Act.put] using ha.defers,by simpa [Act.put] using ha.size,fun s u h=>?_,fun s G u h hH=>?_,fun s G u h hH=>?_⟩
 ·rcases lookE_cons h with⟨rfl,rfl⟩|⟨hne,h⟩
  ·exact getD_put_same hd'
  ·rw [getD_put_ne hne];exact ha.at_ s u h
 ·obtain⟨h1,h2⟩:=safeC_spec hs s G u h
  rw [getD_put_ne (Ne.symm h1)]
  exact ha.yes s G u h ((holds_put h2).1 hH)
 ·obtain⟨h1,h2⟩:=safeC_spec hs s G u h
  rw [getD_put_ne (Ne.symm h1)]
  exact ha.no s G u h (fun hh=>hH ((holds_put h2).2 hh))
theorem Agrees.putC {G:GId} (hd:Nat.blt d N.n=true) (hs:safeC all d ec=true) (hG:safeG all d G=true) (hl:lookE env d=none) {u:Value} (h1:Holds all a G→u=v) (h2:¬ Holds all a G→u=undef) :
  Agrees N all env ((d,(G,v))::ec) (a.put (some d) u):=by
 have hd':d<a.tmps.size:=by rw [Nat.blt_eq] at hd;rw [ha.size];exact hd
 refine ⟨by simpa [Act.put] using ha.defers,by simpa [Act.put] using ha.size,fun s x h=>?_,fun s K x h hH=>?_,fun s K x h hH=>?_⟩
 ·by_cases e:d=s
  ·subst e;rw [hl] at h;cases h
  ·rw [getD_put_ne e];exact ha.at_ s x h
 ·rcases lookE_cons h with⟨rfl,e⟩|⟨hne,h⟩
  ·injection e with e1 e2;subst e1;subst e2
   rw [getD_put_same hd'];exact h1 ((holds_put hG).1 hH)
  ·obtain⟨_,h4⟩:=safeC_spec hs s K x h
   rw [getD_put_ne hne]
   exact ha.yes s K x h ((holds_put h4).1 hH)
 ·rcases lookE_cons h with⟨rfl,e⟩|⟨hne,h⟩
  ·injection e with e1 e2;subst e1;subst e2
   rw [getD_put_same hd'];exact h2 (fun hh=>hH ((holds_put hG).2 hh))
  ·obtain⟨_,h4⟩:=safeC_spec hs s K x h
   rw [getD_put_ne hne]
   exact ha.no s K x h (fun hh=>hH ((holds_put h4).2 hh))
end
end Go.Proofs.YtblnhdnogjijiaaGreatDoor
namespace Go.Proofs.YtblnhdnogjijiaaGreatDoor
open Go.RowKit Go.Shelf

abbrev Frag:=Nat→Option Obj
abbrev HA:=Frag→Prop
def Sep (n0:Nat) (w:World) (H:List HA):Prop :=
 ∃ F:Nat→Frag,(∀ (i:Nat) (A:HA),H[i]?=some A→A (F i))∧(∀ i b o,i<H.length→F i b=some o→n0≤b∧w.heap[b]?=some o) ∧
  (∀ i j b,i<H.length→j<H.length→i≠j→F i b=none∨F j b=none)
def one (b:Nat) (o:Obj):Frag:=fun x=>if x=b then some o else none
def blk (b:Nat) (cs:List Value) (t:TypeId):HA:=fun f=>f=one b (.cells cs.toArray t (0,0))
def Hle (H H':List HA):Prop:=∀ n0 w,Sep n0 w H→Sep n0 w H'
theorem Hle.refl (H:List HA):Hle H H:=fun _ _ h=>h
theorem Hle.trans {A B C:List HA} (h:Hle A B) (k:Hle B C):Hle A C:=fun n w x=>k n w (h n w x)

theorem Sep.nil (n0:Nat) (w:World):Sep n0 w []:=⟨fun _ _=>none,fun i A h=>by simp at h,fun i b o h=>by simp at h,fun i j b h=>by simp at h⟩
theorem Sep.mono {n0 n1:Nat} {w:World} {H:List HA} (h:Sep n0 w H) (hn:n1≤n0):Sep n1 w H:=by
 obtain⟨F,h1,h2,h3⟩:=h
 exact⟨F,h1,fun i b o hi hf=>⟨Nat.le_trans hn (h2 i b o hi hf).1,(h2 i b o hi hf).2⟩,h3⟩
theorem lt_of_heap {w:World} {b:Nat} {o:Obj} (h:w.heap[b]?=some o):b<w.heap.size:=by
 rcases Nat.lt_or_ge b w.heap.size with hl|hl
 ·exact hl
 ·rw [Array.getElem?_eq_none hl] at h;cases h
theorem Sep.ext {n0:Nat} {w w':World} {H:List HA} (h:Sep n0 w H) (hb:Below w.heap.size w w'):Sep n0 w' H:=by
 obtain⟨F,h1,h2,h3⟩:=h
 exact⟨F,h1,fun i b o hi hf=>⟨(h2 i b o hi hf).1,(hb.block b (lt_of_heap (h2 i b o hi hf).2)).trans (h2 i b o hi hf).2⟩,h3⟩
theorem Sep.call {n0:Nat} {w w':World} {H K:List HA} (h:Sep n0 w H) (hn:n0≤w.heap.size) (hb:Below w.heap.size w w') (k:Sep w.heap.size w' K):Sep n0 w' (K++H):=by
 obtain⟨F,h1,h2,h3⟩:=h
 obtain⟨G,k1,k2,k3⟩:=k
 refine ⟨fun i=>if i<K.length then G i else F (i - K.length),fun i A hi=>?_,fun i b o hi hf=>?_,fun i j b hi hj hne=>?_⟩
 ·dsimp only
  by_cases hk:i<K.length
  ·rw [if_pos hk];rw [List.getElem?_append_left hk] at hi;exact k1 i A hi
  ·rw [if_neg hk];rw [List.getElem?_append_right (by omega)] at hi;exact h1 _ A hi
 ·dsimp only at hf
  rw [List.length_append] at hi
  by_cases hk:i<K.length
  ·rw [if_pos hk] at hf
   exact⟨Nat.le_trans hn (k2 i b o hk hf).1,(k2 i b o hk hf).2⟩
  ·rw [if_neg hk] at hf
   have:=h2 (i - K.length) b o (by omega) hf
   exact⟨this.1,(hb.block b (lt_of_heap this.2)).trans this.2⟩
 ·rw [List.length_append] at hi hj
  have far:∀ i j,i<K.length→¬ j<K.length→j<K.length+H.length→G i b=none∨F (j - K.length) b=none:=by
   intro i j hi hj hj2
   cases hg:G i b with
   | none=>exact .inl rfl
   | some o =>
    cases hf:F (j - K.length) b with
    | none=>exact .inr rfl
    | some o' =>
     have e1:=(k2 i b o hi hg).1
     have e2:=lt_of_heap (h2 (j - K.length) b o' (by omega) hf).2
     omega
  dsimp only
  by_cases hk:i<K.length <;> by_cases hl:j<K.length
  ·rw [if_pos hk,if_pos hl];exact k3 i j b hk hl hne
  ·rw [if_pos hk,if_neg hl];exact far i j hk hl hj
  ·rw [if_neg hk,if_pos hl];exact (far j i hl hk hi).symm
  ·rw [if_neg hk,if_neg hl];exact h3 _ _ b (by omega) (by omega) (by omega)
theorem Sep.alloc {n0:Nat} {w:World} {H:List HA} (h:Sep n0 w H) (hn:n0≤w.heap.size) (o:Obj) {A:HA} (hA:A (one w.heap.size o)):Sep n0 (w.alloc o) (A::H):=by
 obtain⟨F,h1,h2,h3⟩:=h
 have far:∀ j b,j<H.length→one w.heap.size o b=none∨F j b=none:=by
  intro j b hj
  by_cases hb:b=w.heap.size
  ·right
   cases hf:F j b with
   | none=>rfl
   | some o'=>have:=lt_of_heap (h2 j b o' hj hf).2;omega
  ·left;simp [one,hb]
 refine ⟨fun i=>match i with | 0=>one w.heap.size o|i+1=>F i,fun i A' hi=>?_,fun i b o' hi hf=>?_,fun i j b hi hj hne=>?_⟩
 ·cases i with
  | zero=>simp at hi;subst hi;exact hA
  | succ i=>exact h1 i A' (by simpa using hi)
 ·cases i with
  | zero =>
   simp only [one] at hf
   split at hf
   ·rename_i e;subst e;injection hf with hf;subst hf
    exact⟨hn,heap_alloc_new w _⟩
   ·cases hf
  | succ i =>
   have:=h2 i b o' (by simpa using hi) hf
   exact⟨this.1,(Below.heap_alloc w o b (lt_of_heap this.2)).trans this.2⟩
 ·cases i <;> cases j
  ·exact absurd rfl hne
  ·exact far _ b (by simpa using hj)
  ·exact (far _ b (by simpa using hi)).symm
  ·exact h3 _ _ b (by simpa using hi) (by simpa using hj) (by omega)
theorem Sep.turn {n0:Nat} {w w':World} {H:List HA} {k:Nat} {A':HA} {b:Nat} {o:Obj} (h:Sep n0 w H) {A:HA} (hk:H[k]?=some A) (hA:∀ f,A f→∃ o0,f=one b o0)
  (hoth:∀ c,c≠b→c<w.heap.size→w'.heap[c]?=w.heap[c]?) (hb:w'.heap[b]?=some o) (hA':A' (one b o)):Sep n0 w' (H.set k A'):=by
 obtain⟨F,h1,h2,h3⟩:=h
 obtain⟨o0,ho⟩:=hA _ (h1 k A hk)
 have hkl:k<H.length:=(List.getElem?_eq_some_iff.1 hk).1
 have own:∀ i,i<H.length→i≠k→F i b=none:=by
  intro i hi hne
  rcases h3 i k b hi hkl hne with h|h
  ·exact h
  ·rw [ho] at h;simp [one] at h
 refine ⟨fun i=>if i=k then one b o else F i,fun i B hi=>?_,fun i c o' hi hf=>?_,fun i j c hi hj hne=>?_⟩
 ·dsimp only
  by_cases e:i=k
  ·subst e;rw [if_pos rfl];rw [List.getElem?_set_self hkl] at hi;injection hi with hi;subst hi;exact hA'
  ·rw [if_neg e];rw [List.getElem?_set_ne (Ne.symm e)] at hi;exact h1 i B hi
 ·dsimp only at hf
  rw [List.length_set] at hi
  by_cases e:i=k
  ·subst e;rw [if_pos rfl] at hf
   simp only [one] at hf
   split at hf
   ·rename_i e2;subst e2;injection hf with hf;subst hf
    refine ⟨(h2 i c o0 hi (by rw [ho];simp [one])).1,hb⟩
   ·cases hf
  ·rw [if_neg e] at hf
   have hcb:c≠b:=fun e2=>by subst e2;rw [own i hi e] at hf;cases hf
   have:=h2 i c o' hi hf
   exact⟨this.1,(hoth c hcb (lt_of_heap this.2)).trans this.2⟩
 ·rw [List.length_set] at hi hj
  dsimp only
  by_cases e:i=k
  ·subst e;rw [if_pos rfl,if_neg (Ne.symm hne)]
   by_cases hc:c=b
   ·subst hc;exact .inr (own j hj (Ne.symm hne))
   ·left;simp [one,hc]
  ·rw [if_neg e]
   by_cases e2:j=k
   ·subst e2;rw [if_pos rfl]
    by_cases hc:c=b
    ·subst hc;exact .inl (own i hi e)
    ·right;simp [one,hc]
   ·rw [if_neg e2];exact h3 i j c hi hj hne
theorem Hle.pick {H H':List HA} (p:Nat→Nat) (hp:∀ (i:Nat) (A:HA),H'[i]?=some A→H[p i]?=some A) (hinj:∀ i j,i<H'.length→j<H'.length→i≠j→p i≠p j):Hle H H':=by
 rintro n0 w ⟨F,h1,h2,h3⟩
 have lt:∀ i,i<H'.length→p i<H.length:=fun i hi=>(List.getElem?_eq_some_iff.1 (hp i _ (List.getElem?_eq_getElem hi))).1
 exact⟨fun i=>F (p i),fun i A hi=>h1 _ A (hp i A hi),fun i b o hi hf=>h2 _ b o (lt i hi) hf,fun i j b hi hj hne=>h3 _ _ b (lt i hi) (lt j hj) (hinj i j hi hj hne)⟩
theorem Hle.none (H:List HA):Hle H []:=fun _ w _=>Sep.nil _ w
theorem Hle.tail (A:HA) (H:List HA):Hle (A::H) H:=Hle.pick (· + 1) (fun i A h=>by simpa using h) (fun i j _ _ h=>by omega)
theorem Hle.weaken {H K:List HA} {i:Nat} {A B:HA} (h:H[i]?=some A) (hab:∀ f,A f→B f) (hk:H.set i B=K):Hle H K:=by
 subst hk
 rintro n0 w ⟨F,h1,h2,h3⟩
 have hil:i<H.length:=(List.getElem?_eq_some_iff.1 h).1
 refine ⟨F,fun j C hj=>?_,fun j b o hj=>h2 j b o (by simpa using hj),fun j k b hj hk=>h3 j k b (by simpa using hj) (by simpa using hk)⟩
 by_cases e:j=i
 ·subst e;rw [List.getElem?_set_self hil] at hj;injection hj with hj;subst hj;exact hab _ (h1 j A h)
 ·rw [List.getElem?_set_ne (Ne.symm e)] at hj;exact h1 j C hj

theorem Hle.append_right {K J:List HA} (A:List HA):Hle (A++J) J:=Hle.pick (· + A.length) (fun i B h=>by rw [List.getElem?_append_right (by omega)];simpa using h) (fun i j _ _ h=>by omega)
theorem Hle.append_left {A:List HA} (J:List HA):Hle (A++J) A:=Hle.pick id (fun i B h=>by have:=(List.getElem?_eq_some_iff.1 h).1;rw [id,List.getElem?_append_left this];exact h) (fun i j _ _ h=>h)
theorem perm_pick {H K:List HA} (h:H.Perm K):∃ p:Nat→Nat,(∀ (i:Nat) (A:HA),K[i]?=some A→H[p i]?=some A)∧∀ i j,i<K.length→j<K.length→i≠j→p i≠p j:=by
 induction h with
 | nil=>exact⟨id,fun i A h=>by simp at h,fun i j h=>by simp at h⟩
 | cons A _ ih =>
  obtain⟨p,h1,h2⟩:=ih
  refine ⟨fun i=>match i with | 0=>0|i+1=>p i+1,fun i B h=>?_,fun i j hi hj hne=>?_⟩
  ·cases i with
   | zero=>simpa using h
   | succ i=>simpa using h1 i B (by simpa using h)
  ·cases i <;> cases j <;> dsimp only <;> try omega
   rename_i i j
   have:=h2 i j (by simpa using hi) (by simpa using hj) (by omega)
   omega
 | swap A B l =>
  refine ⟨fun i=>match i with | 0=>1 | 1=>0|i+2=>i+2,fun i C h=>?_,fun i j hi hj hne=>?_⟩
  ·match i with
   | 0=>simpa using h
   | 1=>simpa using h
   | i+2=>simpa using h
  ·match i,j with
   | 0,0=>omega
   | 0,1=>simp
   | 0,j+2=>simp
   | 1,0=>simp
   | 1,1=>omega
   | 1,j+2=>simp
   | i+2,0=>simp
   | i+2,1=>simp
   | i+2,j+2=>simpa using hne
 | trans hp1 hp2 ih1 ih2 =>
  obtain⟨p,h1,h2⟩:=ih1
  obtain⟨q,k1,k2⟩:=ih2
  refine ⟨fun i=>p (q i),fun i A h=>h1 _ A (k1 i A h),fun i j hi hj hne=>?_⟩
  have hq:∀ i,i<_→q i<_:=fun i hi=>(List.getElem?_eq_some_iff.1 (k1 i _ (List.getElem?_eq_getElem hi))).1
  exact h2 _ _ (hq i hi) (hq j hj) (k2 i j hi hj hne)
theorem Hle.perm {H K:List HA} (h:H.Perm K):Hle H K:=by
 obtain⟨p,h1,h2⟩:=perm_pick h
 exact Hle.pick p h1 h2
theorem Hle.comm (H K:List HA):Hle (H++K) (K++H):=Hle.perm List.perm_append_comm
theorem Hle.rot2 (A B:HA) (H K:List HA):Hle (A::B::(H++K)) (H++A::B::K) :=
 Hle.perm (((List.perm_middle (a:=A) (l₁:=H) (l₂:=B::K)).trans ((List.perm_middle (a:=B) (l₁:=H) (l₂:=K)).cons A)).symm)
theorem Hle.unrot2 (A B:HA) (H K:List HA):Hle (H++A::B::K) (A::B::(H++K)) :=
 Hle.perm ((List.perm_middle (a:=A) (l₁:=H) (l₂:=B::K)).trans ((List.perm_middle (a:=B) (l₁:=H) (l₂:=K)).cons A))
structure Cls (w0 w:World) (H:List HA):Prop where
 below:Below w0.heap.size w0 w
 sep:Sep w0.heap.size w H
theorem Cls.le {w0 w:World} {H H':List HA} (h:Cls w0 w H) (hl:Hle H H'):Cls w0 w H':=⟨h.below,hl _ _ h.sep⟩
theorem Cls.start (w:World):Cls w w []:=⟨Below.refl _ _,Sep.nil _ _⟩
theorem Cls.drew {w0 w:World} {H:List HA} (h:Cls w0 w H):Cls w0 { w with drawn:=w.drawn+1 } H:=⟨h.below.drew,h.sep⟩
theorem Cls.alloc {w0 w:World} {H:List HA} (h:Cls w0 w H) (o:Obj) {A:HA} (hA:A (one w.heap.size o)):Cls w0 (w.alloc o) (A::H) :=
 ⟨h.below.alloc h.below.size o,h.sep.alloc h.below.size o hA⟩
theorem Cls.call {w0 w w':World} {H K:List HA} (h:Cls w0 w H) (hb:Below w.heap.size w w') (hk:Sep w.heap.size w' K):Cls w0 w' (K++H) :=
 ⟨h.below.trans (hb.mono h.below.size),h.sep.call h.below.size hb hk⟩
end Go.Proofs.YtblnhdnogjijiaaGreatDoor
namespace Go.Proofs.YtblnhdnogjijiaaGreatDoor
open Go.RowKit Go.Shelf

def Fr (r:Option Nat):Fence:={ fn:=fun _=>True,depth:=none,alive:=false,round:=r }
theorem callsIn_Fr {r:Option Nat} {n:Nat} {P:Program} {f:FuncId} {args:Array Value} {w:World} {R:Ending→World→Prop} (h:Calls P f args w R):CallsIn (Fr r) n P f args w R :=
 show CallsIn Fence.wide n P f args w R from callsIn_wide.2 h
theorem about_Fr {r:Option Nat} (o:Oper) (P:Program) (w:World) (ρ:Operand→Value):∀ f,o.about P w ρ=some f→(Fr r).fn f:=fun _ _=>trivial

def noDef (ops:Array Oper):Bool:=ops.toList.all fun o=>match o.op with | .defer _=>false|_=>true
theorem noDef_spec {ops:Array Oper} (h:noDef ops=true) {i:Nat} {o:Oper} (hi:ops[i]?=some o):∀ c,o.op ≠ .defer c:=by
 intro c hc
 have:=List.all_eq_true.1 h o (by
  rw [Array.mem_toList_iff]
  exact Array.mem_of_getElem? hi)
 rw [hc] at this
 cases this
section
variable {r:Option Nat} {n:Nat} {P:Program} {ops:Array Oper} {Q:Exit→Act→World→Prop} {md:Region.Mode} {S:World→Prop} {z:Nat}
def YieldsS (P:Program) (ops:Array Oper) (S:World→Prop) (o:Oper) (v:Value) (a:Act):Prop :=
 (Region.wanted o (yielded ops a.tmps)=true∧∀ w,S w→(execOp a.eval o).run P w = .ok (.value v) w) ∨
 (Region.wanted o (yielded ops a.tmps)=false∧v=undef)
theorem YieldsS.of_same {o:Oper} {v:Value} {a a':Act} (hy:YieldsS P ops S o v a) (he:execOp a'.eval o=execOp a.eval o)
  (hw:Region.wanted o (yielded ops a'.tmps)=Region.wanted o (yielded ops a.tmps)):YieldsS P ops S o v a':=by
 unfold YieldsS at *
 rw [he,hw]
 exact hy
theorem YieldsS.op {i:Nat} {o:Oper} {v:Value} {a:Act} (hnd:noDef ops=true) (hi:ops[i]?=some o) (hy:YieldsS P ops S o v a)
  {K:Act→World→Prop} {w:World} (hS:S w) (h:K (a.put o.dst v) w):wpOpIn (Fr r) n P ops Q i K a w:=by
 unfold Go.wpOpIn
 simp only [hi]
 rcases hy with⟨hw,hv⟩|⟨hw,rfl⟩
 ·simp only [hw,if_true]
  refine ⟨about_Fr o P w _,?_⟩
  rw [Oper.semAt_eq _ _ _ (noDef_spec hnd hi),hv w hS]
  exact h
 ·simp only [hw,Bool.false_eq_true,if_false];exact⟨about_Fr o P w _,h⟩
theorem wpOpIn_putS {j:Nat} {oi oj:Oper} {v:Value} (hnd:noDef ops=true) (hj:ops[j]?=some oj) (hap:oi.apart ops oj=true)
  (hsi:∀ cs b,oi.op ≠ .select cs b) (hsj:∀ cs b,oj.op ≠ .select cs b)
  (hQ:∀ c a w,Q (.panic c) (a.put oi.dst v) w→Q (.panic c) a w) {K:Act→World→Prop} {a:Act} {w:World}
  (hy:YieldsS P ops S oi v a) (h:wpOpIn (Fr r) n P ops Q j K (a.put oi.dst v) w) :
  wpOpIn (Fr r) n P ops Q j (fun a' w'=>YieldsS P ops S oi v a'∧K (a'.put oi.dst v) w') a w:=by
 obtain⟨h1,h2,h3⟩:=Oper.apart_spec hap
 have keep:∀ (a:Act),YieldsS P ops S oi v a→∀ u,YieldsS P ops S oi v (a.put oj.dst u):=fun a hy u =>
  hy.of_same (execOp_put oi hsi a oj.dst u h3) (wanted_put oi a oj.dst u h3)
 have keepD:∀ d,YieldsS P ops S oi v { a with defers:=d::a.defers }:=fun d=>hy.of_same rfl rfl
 unfold wpOpIn at h ⊢
 simp only [hj] at h ⊢
 rw [wanted_put oj a oi.dst v h1] at h
 split
 ·rename_i hw
  simp only [hw,if_true] at h
  unfold Oper.wpIn at *
  refine ⟨about_Fr oj P w _,?_⟩
  have h:=h.2
  rw [Oper.semAt_eq _ _ _ (noDef_spec hnd hj),execOp_put oj hsj a oi.dst v h1] at h
  rw [Oper.semAt_eq _ _ _ (noDef_spec hnd hj)]
  generalize (execOp a.eval oj).run P w=res at *
  cases res with
  | ok x w' =>
   cases x <;> simp only [Oper.uponIn] at h ⊢
   case value u=>exact⟨keep a hy u,by rw [← Act.put_comm a v u h2];exact h⟩
   case skip=>exact⟨keep a hy _,by rw [← Act.put_comm a v undef h2];exact h⟩
   case defer d =>
    refine ⟨keep _ (keepD d) _,?_⟩
    rw [← Act.put_comm _ v undef h2, ← Act.put_defers]
    exact h
   case enter f args =>
    refine ⟨h.1,CallsIn.mono h.2 fun e w'' he=>?_⟩
    cases e with
    | returned u=>exact⟨keep a hy u,by rw [← Act.put_comm a v u h2];exact he⟩
    | panicked c=>exact hQ _ _ _ he
    | outgrown=>exact he
   case row row args=>exact⟨h.1,RowsIn.mono h.2 fun u w'' he=>⟨keep a hy u,by rw [← Act.put_comm a v u h2];exact he⟩⟩
   case round l f tmps assign body =>
    refine ⟨h.1,RoundIn.mono h.2 fun e w'' he=>?_⟩
    cases e with
    | returned u=>exact⟨keep a hy u,by rw [← Act.put_comm a v u h2];exact he⟩
    | panicked c=>exact hQ _ _ _ he
    | outgrown=>exact he
  | halt x w' =>
   cases x <;> simp only [Oper.uponIn] at h ⊢
   case panic u=>exact hQ _ _ _ h
 ·rename_i hw
  simp only [hw] at h
  exact⟨about_Fr oj P w _,keep a hy _,by rw [← Act.put_comm a v undef h2];exact h.2⟩
def live (z:Nat) (listed:Array Bool):Bool := !(listed.getD z false)
def waits (md:Region.Mode) (ops:Array Oper) (z i:Nat):Bool := !(Nat.beq i z) && (match ops[z]? with
 | none=>true
 | some o=>o.after.toList.any fun e=>Region.binds md e && Nat.beq e.on i)
def wpAnyHR (r:Option Nat) (n:Nat) (P:Program) (md:Region.Mode) (ops:Array Oper) (Q:Exit→Act→World→Prop) (S:World→Prop) (z:Nat):Nat→Array Bool→Act→World→Prop
 | 0,listed,a,w=>Region.ready md ops listed=[]∧Q .normal a w
 | fuel+1,listed,a,w =>
  (Region.ready md ops listed=[]→Q .normal a w) ∧
  ∀ i∈Region.ready md ops listed,wpOpIn (Fr r) n P ops Q i (fun a' w'=>(live z (listed.setIfInBounds i true)=true→S w')∧wpAnyHR r n P md ops Q S z fuel (listed.setIfInBounds i true) a' w') a w
theorem wpAnyIn_of_heldR:∀ (fuel:Nat) (listed:Array Bool) (a:Act) (w:World),wpAnyHR r n P md ops Q S z fuel listed a w→wpAnyIn (Fr r) n P md ops Q fuel listed a w
 | 0,_,_,_,h=>h
 | fuel+1,_,_,_,h=>⟨h.1,fun i hi=>wpOpIn_mono (fun a' w' h'=>wpAnyIn_of_heldR fuel _ a' w' h'.2) (h.2 i hi)⟩
theorem wpAnyHR_first {i:Nat} {oi:Oper} {v:Value} (hnd:noDef ops=true) (hi:ops[i]?=some oi) (hsel:∀ (j:Nat) (o:Oper) cs b,ops[j]?=some o→o.op ≠ .select cs b)
  (hQ:∀ c a w,Q (.panic c) (a.put oi.dst v) w→Q (.panic c) a w) (hz:waits md ops z i=true) :
  ∀ (fuel:Nat) (listed:Array Bool) (a:Act) (w:World),live z listed=true →
   (∀ j oj,ops[j]?=some oj→j≠i→listed.getD j true=false→(∀ e∈oj.after,Region.binds md e=true→e.on≠i)→oi.apart ops oj=true) →
   i∈Region.ready md ops listed→YieldsS P ops S oi v a→S w →
   wpAnyHR r n P md ops Q S z fuel (listed.setIfInBounds i true) (a.put oi.dst v) w→wpAnyHR r n P md ops Q S z (fuel+1) listed a w:=by
 intro fuel
 induction fuel with
 | zero =>
  intro listed a w _ _ hr hy hS H
  refine ⟨fun h=>(by rw [h] at hr;cases hr),fun j hj=>?_⟩
  by_cases hji:j=i
  ·subst hji;exact hy.op hnd hi hS ⟨fun _=>hS,H⟩
  ·have:=ready_mono hj hji
   rw [H.1] at this
   cases this
 | succ fuel ih =>
  intro listed a w hlv hfree hr hy hS H
  refine ⟨fun h=>(by rw [h] at hr;cases hr),fun j hj=>?_⟩
  by_cases hji:j=i
  ·subst hji;exact hy.op hnd hi hS ⟨fun _=>hS,H⟩
  ·have h1:=H.2 j (ready_mono hj hji)
   obtain⟨hjun,oj,hoj,hall⟩:=mem_ready.1 hj
   have hnot:∀ e∈oj.after,Region.binds md e=true→e.on≠i:=fun e he hb heq=>by
    have h1:=hall e he hb
    have h0:=(mem_ready.1 hr).1
    rw [heq] at h1
    rcases Nat.lt_or_ge i listed.size with h'|h'
    ·simp [h'] at h0 h1;rw [h0] at h1;cases h1
    ·simp [Array.getElem?_eq_none h'] at h1
   have h2:=wpOpIn_putS hnd hoj (hfree j oj hoj hji hjun hnot) (fun cs b=>hsel i oi cs b hi) (fun cs b=>hsel j oj cs b hoj) hQ hy h1
   have hfree':∀ k ok,ops[k]?=some ok→k≠i→(listed.setIfInBounds j true).getD k true=false →
     (∀ e∈ok.after,Region.binds md e=true→e.on≠i)→oi.apart ops ok=true:=fun k ok hk hki hun hno=>by
    refine hfree k ok hk hki ?_ hno
    by_cases hjk:j=k
    ·subst hjk;exact hjun
    ·rw [getD_set_ne true hjk] at hun;exact hun
   have hjz:j≠z:=by
    rintro rfl
    unfold waits at hz
    rw [hoj] at hz
    simp only [Bool.and_eq_true,List.any_eq_true] at hz
    obtain⟨_,e,he,hb,hon⟩:=hz
    exact hnot e (by simpa using he) hb (Nat.eq_of_beq_eq_true hon)
   have hiz:i≠z:=by
    rintro rfl
    unfold waits at hz
    simp at hz
   have hlv':live z (listed.setIfInBounds j true)=true:=by
    unfold live at hlv ⊢
    rw [Array.getD_eq_getD_getElem?,Array.getElem?_setIfInBounds_ne hjz, ← Array.getD_eq_getD_getElem?]
    exact hlv
   have hlv2:live z ((listed.setIfInBounds i true).setIfInBounds j true)=true:=by
    unfold live at hlv ⊢
    rw [Array.getD_eq_getD_getElem?,Array.getElem?_setIfInBounds_ne hjz,Array.getElem?_setIfInBounds_ne hiz, ← Array.getD_eq_getD_getElem?]
    exact hlv
   refine wpOpIn_mono (fun a' w' h3=>⟨fun _=>h3.2.1 hlv2,ih (listed.setIfInBounds j true) a' w' hlv' hfree' (ready_mono hr (Ne.symm hji)) h3.1 (h3.2.1 hlv2) ?_⟩) h2
   rw [Array.setIfInBounds_comm _ _ hji]
   exact h3.2.2
theorem wpAnyHR_take {i:Nat} {oi:Oper} {v:Value} {fuel:Nat} {listed:Array Bool} {a:Act} {w:World} (hnd:noDef ops=true) (hi:ops[i]?=some oi)
  (hs:Region.noSelect ops=true) (hf:Region.free md ops listed i=true) (hr:(Region.ready md ops listed).contains i=true) (hz:waits md ops z i=true) (hlv:live z listed=true)
  (hQ:∀ c a w,Q (.panic c) (a.put oi.dst v) w→Q (.panic c) a w) (hy:YieldsS P ops S oi v a) (hS:S w)
  (h:wpAnyHR r n P md ops Q S z fuel (listed.setIfInBounds i true) (a.put oi.dst v) w):wpAnyHR r n P md ops Q S z (fuel+1) listed a w :=
 wpAnyHR_first hnd hi (Region.noSelect_spec hs) hQ hz fuel listed a w hlv (Region.free_spec hi hf) (by simpa using hr) hy hS h
theorem wpAnyHR_all {rs:List Nat} {fuel:Nat} {listed:Array Bool} {a:Act} {w:World} (hr:Region.ready md ops listed=rs) (hne:rs≠[])
  (h:∀ i∈rs,wpOpIn (Fr r) n P ops Q i (fun a' w'=>(live z (listed.setIfInBounds i true)=true→S w')∧wpAnyHR r n P md ops Q S z fuel (listed.setIfInBounds i true) a' w') a w):wpAnyHR r n P md ops Q S z (fuel+1) listed a w :=
 ⟨fun h0=>absurd (hr ▸ h0) hne,hr ▸ h⟩
theorem wpAnyHR_done {listed:Array Bool} {a:Act} {w:World} (hr:Region.ready md ops listed=[]) (h:Q .normal a w):∀ fuel,wpAnyHR r n P md ops Q S z fuel listed a w
 | 0=>⟨hr,h⟩
 | _+1=>⟨fun _=>h,by rw [hr];simp⟩
theorem wpIn_region_heldR {id:Nat} {a:Act} {w:World} (hm:P.follows .mixedOrders=true)
  (h:wpAnyHR r n P .any ops Q S z ops.size (Array.replicate ops.size false) a { w with drawn:=w.drawn+1 }):(Code.region id ops true).wpIn (Fr r) n P Q a w :=
 wpIn_region_any hm (wpAnyIn_of_heldR _ _ _ _ h)
end
theorem wpIn_loop_ghost {F:Fence} {n:Nat} {P:Program} {Q:Exit→Act→World→Prop} {a:Act} {w:World} {c:Code} (I:Nat→Act→World→Prop) (n₀:Nat) (h₀:I n₀ a w)
  (round:∀ m a w,I m a w→c.wpIn F n P (Exit.then (fun a' w'=>∃ m',m'<m∧I m' a' w') Q) a w):(Code.loop c).wpIn F n P Q a w:=by
 refine wpIn_loop (fun a w=>∃ n,I n a w) (fun a w=>leastOf (fun n=>I n a w)) ⟨n₀,h₀⟩ ?_
 intro a w hI
 refine wpIn_mono (round _ a w (leastOf_spec hI).1) ?_
 intro e a' w' hq
 cases e with
 | normal =>
  obtain⟨n',hlt,hI'⟩:=hq
  exact show (∃ n,I n a' w')∧leastOf (fun n=>I n a' w')<leastOf (fun n=>I n a w) from ⟨⟨n',hI'⟩,Nat.lt_of_le_of_lt ((leastOf_spec ⟨n',hI'⟩).2 n' hI') hlt⟩
 | exit id=>exact hq
 | goto l=>exact hq
 | ret=>exact hq
 | panic ch=>exact hq
 | outgrown=>exact hq
end Go.Proofs.YtblnhdnogjijiaaGreatDoor
namespace Go.Proofs.YtblnhdnogjijiaaGreatDoor
open Go.RowKit Go.Shelf

def Ret (w:World) (Φ:Value→List HA→Prop):Ending→World→Prop :=
 fun e w'=>∃ v A,e = .returned v∧Φ v A∧Below w.heap.size w w'∧Sep w.heap.size w' A
structure Spec (P:Program) (f:FuncId) (args:List Value) (w:World) (Φ:Value→List HA→Prop):Prop where
 enters:Enters P f
 calls:Calls P f args.toArray w (Ret w Φ)
structure Cx where
 S:Sig
 N:FK
 w0:World
 rd:Option Nat
 Rn:Act→World→Prop
 Rr:Act→World→Prop
 Rx:Nat→Act→World→Prop
def quietO:Op→Bool
 | .call { callee := .builtin b,args:=_,argTypes:=_ }=>match b with
  | .len=>true
  | .cap=>true
  | .min=>true
  | .max=>true
  | _=>false
 | .call _=>false
 | .store _ _ _=>false
 | .box _ _=>false
 | .alloc _=>false
 | .buildSlice _ _ _=>false
 | .makeSlice _ _ _=>false
 | _=>true
def lst (all:Array Oper):List Nat→Array Bool
 | []=>Array.replicate all.size false
 | i::l=>(lst all l).setIfInBounds i true
def chkOrd (all:Array Oper) (z:Nat):List Nat→Array Bool→Bool
 | [],listed=>(Region.ready .any all listed).isEmpty
 | i::ord,listed=>(match all[i]? with
  | some o=>cond (quietO o.op) (Region.free .any all listed i && ((Region.ready .any all listed).contains i && (waits .any all z i && live z listed))) (decide (Region.ready .any all listed=[i]))
  | none=>false) && chkOrd all z ord (listed.setIfInBounds i true)
def chkR (all:Array Oper) (z:Nat) (done ord:List Nat):Bool:=noDef all && (Region.noSelect all && chkOrd all z ord (lst all done))
inductive It where
 | code (c:Code)
 | ops (all:Array Oper) (rest:List Oper)
 | run (all:Array Oper) (done ord:List Nat) (Hs:List HA) (z:Nat)
 | draw (all:Array Oper) (fuel:Nat) (listed:Array Bool) (Hs:List HA) (z:Nat)
 | out (id:Nat)
 | mark (M:Act→World→Prop)

def post (n:Act→World→Prop) (l:Nat→Act→World→Prop) (R:Act→World→Prop):Exit→Act→World→Prop
 | .normal,a,w=>n a w
 | .exit id,a,w=>l id a w
 | .ret,a,w=>R a w
 | _,_,_=>False
def sem (C:Cx):List It→(Act→World→Prop) × (Nat→Act→World→Prop)
 | []=>(C.Rn,C.Rx)
 | .code c::k=>(c.wpIn (Fr C.rd) 0 C.S.P (post (sem C k).1 (sem C k).2 C.Rr),(sem C k).2)
 | .ops all rest::k=>(wpListIn (Fr C.rd) 0 C.S.P all (post (sem C k).1 (sem C k).2 C.Rr) rest,(sem C k).2)
 | .draw all fuel listed Hs z::k=>(wpAnyHR C.rd 0 C.S.P .any all (post (sem C k).1 (sem C k).2 C.Rr) (fun w=>Cls C.w0 w Hs) z fuel listed,(sem C k).2)
 | .run all done ord Hs z::k=>(fun a w=>chkR all z done ord=true→wpAnyHR C.rd 0 C.S.P .any all (post (sem C k).1 (sem C k).2 C.Rr) (fun w=>Cls C.w0 w Hs) z ord.length (lst all done) a w,(sem C k).2)
 | .out id::k=>((sem C k).1,fun i=>if i=id then (sem C k).1 else (sem C k).2 i)
 | .mark M::k=>(M,(sem C k).2)
def allOf:List It→Array Oper
 | .ops all _::_=>all
 | .draw all _ _ _ _::_=>all
 | .run all _ _ _ _::_=>all
 | _ => #[]
structure T (C:Cx) (k:List It) (env:Env) (ec:EnvC) (H:List HA):Prop where
 go:∀ a w,Agrees C.N (allOf k) env ec a→Cls C.w0 w H→(sem C k).1 a w
instance (C:Cx) (k:List It) (env:Env) (ec:EnvC) (H:List HA):CoeFun (T C k env ec H) (fun _=>∀ a w,Agrees C.N (allOf k) env ec a→Cls C.w0 w H→(sem C k).1 a w):=⟨T.go⟩

def dropTo (id:Nat):List It→Option (List It)
 | []=>none
 | .out j::k=>cond (Nat.beq j id) (some k) (dropTo id k)
 | _::k=>dropTo id k
theorem dropTo_spec {C:Cx} {id:Nat} {a:Act} {w:World}:∀ {k k':List It},dropTo id k=some k'→(sem C k').1 a w→(sem C k).2 id a w
 | .out j::k,k',h,hs=>by
  unfold dropTo at h
  cases hb:Nat.beq j id with
  | true =>
   rw [hb] at h
   have e:j=id:=Nat.eq_of_beq_eq_true hb
   simp only [cond_true,Option.some.injEq] at h
   subst h;subst e
   simpa [sem] using hs
  | false =>
   rw [hb] at h
   have e:id≠j:=fun e=>by subst e;simp at hb
   simp only [cond_false] at h
   simp only [sem,if_neg e]
   exact dropTo_spec h hs
 | .code c::k,k',h,hs=>dropTo_spec (k:=k) h hs
 | .ops _ _::k,k',h,hs=>dropTo_spec (k:=k) h hs
 | .draw _ _ _ _ _::k,k',h,hs=>dropTo_spec (k:=k) h hs
 | .run _ _ _ _ _::k,k',h,hs=>dropTo_spec (k:=k) h hs
 | .mark _::k,k',h,hs=>dropTo_spec (k:=k) h hs
def nf:Nat→List It→List It
 | 0,k=>k
 | n+1, .code (.seq a b)::k=>nf n (.code a :: .code b::k)
 | n+1, .code (.block id c)::k=>nf n (.code c :: .out id::k)
 | n+1, .code .skip::k=>nf n k
 | n+1, .out _::k=>nf n k
 | n+1, .code (.exit id)::k=>match dropTo id k with
  | some k'=>nf n k'
  | none => .code (.exit id)::k
 | n+1, .code (.region _ ops false)::k=>match ops.toList with
  | []=>nf n k
  | o::l => .ops ops (o::l)::k
 | _+1,k=>k
theorem nf_spec {C:Cx} {a:Act} {w:World}:∀ {n:Nat} {k:List It},(sem C (nf n k)).1 a w→(sem C k).1 a w:=by
 intro n
 induction n with
 | zero=>intro k h;simpa [nf] using h
 | succ n ih =>
  intro k h
  unfold nf at h
  split at h
  ·rename_i he;cases he
  ·rename_i m x y k he;cases he
   have h2:=ih h
   simp only [sem] at h2 ⊢
   refine wpIn_seq (wpIn_mono h2 fun e a w q=>?_)
   cases e <;> first|exact q|exact q.elim
  ·rename_i m id c k he;cases he
   have h2:=ih h
   simp only [sem] at h2 ⊢
   refine wpIn_block (wpIn_mono h2 fun e a w q=>?_)
   cases e <;> first|exact q|exact q.elim|skip
   rename_i i
   simp only [post,Exit.inBlock] at q ⊢
   by_cases hi:i=id
   ·rw [if_pos hi] at q ⊢;exact q
   ·rw [if_neg hi] at q ⊢;exact q
  ·rename_i m k he;cases he
   have h2:=ih h
   simp only [sem]
   exact wpIn_skip h2
  ·rename_i m i k he;cases he
   have h2:=ih h
   simpa [sem] using h2
  ·rename_i m id k he;cases he
   split at h
   ·rename_i k' hk
    have h2:=ih h
    simp only [sem]
    exact wpIn_exit (dropTo_spec hk h2)
   ·exact h
  ·rename_i m id ops k he;cases he
   split at h
   ·rename_i hk
    have h2:=ih h
    simp only [sem]
    exact wpIn_region_list (by rw [hk];exact wpListIn_nil h2)
   ·rename_i o l hk
    simp only [sem] at h ⊢
    exact wpIn_region_list (by rw [hk];exact h)
  ·exact h
theorem T_end {C:Cx} {all:Array Oper} {k:List It} {env:Env} {ec:EnvC} {H:List HA} (h:T C (nf 60 k) env [] H):T C (.ops all []::k) env ec H :=
 T.mk fun a w ha hw=>by
  have:=nf_spec (n:=60) (h a w ha.plain hw)
  exact this

section
variable {C:Cx} {k:List It} {env:Env} {ec:EnvC} {H:List HA}
theorem T_le {H':List HA} (hl:Hle H H') (h:T C k env ec H'):T C k env ec H:=T.mk fun a w ha hw=>h a w ha (hw.le hl)
theorem T_if {c:Operand} {x y:Code} {t:Bool} (hc:evX env [] [] c=some (.bool t)) (ht:t=true→T C (nf 60 (.code x::k)) env [] H) (hf:t=false→T C (nf 60 (.code y::k)) env [] H):T C (.code (.cond c x y)::k) env ec H:=by
 refine T.mk fun a w ha hw=>?_
 have he:=evX_spec (all := #[]) (N:=C.N) ha.plain (Holds.nil _ _) hc
 cases t with
 | true=>exact wpIn_cond he (nf_spec (n:=60) (ht rfl a w ha.plain hw))
 | false=>exact wpIn_cond he (nf_spec (n:=60) (hf rfl a w ha.plain hw))
theorem T_ret (h:∀ a w,Agrees C.N #[] env [] a→Cls C.w0 w H→C.Rr a w):T C (.code .ret::k) env ec H :=
 T.mk fun a w ha hw=>wpIn_ret (h a w ha.plain hw)
theorem T_fall (h:∀ a w,Agrees C.N #[] env [] a→Cls C.w0 w H→C.Rn a w):T C [] env ec H :=
 T.mk fun a w ha hw=>h a w ha.plain hw

def EnvLe:Env→Env→Prop
  | [],_=>True
  | (s,v)::l,env=>lookE env s=some v∧EnvLe l env
theorem EnvLe.spec:∀ {l env:Env},EnvLe l env→∀ s v,lookE l s=some v→lookE env s=some v
  | (j,u)::l,env,h,s,v,hl=>by
    rcases lookE_cons hl with⟨rfl,rfl⟩|⟨_,hl⟩
    · exact h.1
    · exact EnvLe.spec h.2 s v hl
theorem Agrees.le {N:FK} {all all':Array Oper} {l:Env} {a:Act} (ha:Agrees N all env ec a) (h:EnvLe l env):Agrees N all' l [] a :=
 ⟨ha.defers,ha.size,fun s v hl=>ha.at_ s v (h.spec s v hl),fun _ _ _ h=>(by cases h),fun _ _ _ h=>(by cases h)⟩
theorem T_keep (l:Env) (hl:EnvLe l env) (h:T C k l [] H):T C k env ec H:=T.mk fun a w ha hw=>h a w (ha.le hl) hw

def Back (C:Cx) {σ:Type} (E:σ→Env) (G:σ→List HA) (I:σ→Prop) (μ:σ→Nat) (s:σ):Act→World→Prop :=
 fun a w=>∃ s',I s'∧μ s'<μ s∧Agrees C.N #[] (E s') [] a∧Cls C.w0 w (G s')
theorem T_loop {c:Code} {σ:Type} (E:σ→Env) (G:σ→List HA) (I:σ→Prop) (μ:σ→Nat) (s0:σ) (hI:I s0) (hE:EnvLe (E s0) env) (hG:Hle H (G s0))
  (hr:∀ s,I s→T C (nf 60 (.code c :: .mark (Back C E G I μ s)::k)) (E s) [] (G s)):T C (.code (.loop c)::k) env ec H:=by
 refine T.mk fun a w ha hw=>?_
 refine wpIn_loop_ghost (fun n a w=>∃ s,μ s=n∧I s∧Agrees C.N #[] (E s) [] a∧Cls C.w0 w (G s)) (μ s0) ⟨s0,rfl,hI,ha.le hE,hw.le hG⟩ ?_
 rintro n a w ⟨s,rfl,hs,ha,hw⟩
 have h2:=nf_spec (hr s hs a w ha.plain hw)
 simp only [sem] at h2
 refine wpIn_mono h2 fun e a w q=>?_
 cases e <;> first|exact q|exact q.elim|skip
 obtain⟨s',h1,h2,h3,h4⟩:=q
 exact⟨μ s',h2,s',rfl,h1,h3,h4⟩
theorem T_back {σ:Type} {E:σ→Env} {G:σ→List HA} {I:σ→Prop} {μ:σ→Nat} {s:σ} (s':σ) (hI:I s') (hμ:μ s'<μ s) (hE:EnvLe (E s') env) (hG:Hle H (G s')):T C (.mark (Back C E G I μ s)::k) env ec H :=
 T.mk fun _ _ ha hw=>⟨s',hI,hμ,ha.le hE,hw.le hG⟩
def Meets (C:Cx) {σ:Type} (E:σ→Env) (G:σ→List HA) (I:σ→Prop):Act→World→Prop :=
 fun a w=>∃ s',I s'∧Agrees C.N #[] (E s') [] a∧Cls C.w0 w (G s')
theorem T_meet {σ:Type} {E:σ→Env} {G:σ→List HA} {I:σ→Prop} (s':σ) (hI:I s') (hE:EnvLe (E s') env) (hG:Hle H (G s')):T C (.mark (Meets C E G I)::k) env ec H :=
 T.mk fun _ _ ha hw=>⟨s',hI,ha.le hE,hw.le hG⟩
end
theorem post_mono {n n':Act→World→Prop} {l l':Nat→Act→World→Prop} {R:Act→World→Prop} (h1:∀ a w,n a w→n' a w) (h2:∀ i a w,l i a w→l' i a w):∀ e a w,post n l R e a w→post n' l' R e a w:=by
 intro e a w q
 cases e <;> first|exact h1 _ _ q|exact h2 _ _ _ q|exact q
theorem upon_monoQ {F:Fence} {n:Nat} {P:Program} {o:Oper} {a:Act} {K K':Act→World→Prop} {Q Q':Exit→Act→World→Prop} {res:Result Next} (hK:∀ a w,K a w→K' a w) (h:∀ e a w,Q e a w→Q' e a w) (hh:o.uponIn F n P a K Q res):o.uponIn F n P a K' Q' res:=by
 have hl:LetsOut Q→LetsOut Q':=fun⟨a,w,q⟩=>⟨a,w,h _ _ _ q⟩
 cases res with
 | ok x w' =>
  cases x <;> simp only [Oper.uponIn] at hh ⊢
  all_goals first
   | exact hK _ _ hh
   | exact hh
   | exact⟨hh.1,CallsIn.mono hh.2 (fun e w'' he=>by cases e <;> first|exact hK _ _ he|exact h _ _ _ he|exact hl he)⟩
   | exact⟨hh.1,RowsIn.mono hh.2 (fun v w'' he=>hK _ _ he)⟩
   | exact⟨hh.1,RoundIn.mono hh.2 (fun e w'' he=>by cases e <;> first|exact hK _ _ he|exact h _ _ _ he|exact hl he)⟩
 | halt x w'=>cases x <;> simp only [Oper.uponIn] at hh ⊢ <;> first|exact h _ _ _ hh|exact hh
theorem wpListIn_mono' {F:Fence} {n:Nat} {P:Program} {ops:Array Oper} {Q Q':Exit→Act→World→Prop} (h:∀ e a w,Q e a w→Q' e a w):∀ {l:List Oper} {a:Act} {w:World},wpListIn F n P ops Q l a w→wpListIn F n P ops Q' l a w:=by
 intro l
 induction l with
 | nil=>intro a w q;exact h _ _ _ q
 | cons o l ih =>
  intro a w q
  unfold wpListIn at q ⊢
  split at q
  ·rename_i hw
   rw [if_pos hw]
   exact⟨q.1,upon_monoQ (fun a w=>ih) h q.2⟩
  ·rename_i hw
   rw [if_neg hw]
   exact⟨q.1,ih q.2⟩
theorem wpAnyHR_monoQ {r:Option Nat} {n:Nat} {P:Program} {md:Region.Mode} {ops:Array Oper} {Q Q':Exit→Act→World→Prop} {S:World→Prop} {z:Nat} (h:∀ e a w,Q e a w→Q' e a w):∀ {fuel:Nat} {listed:Array Bool} {a:Act} {w:World},wpAnyHR r n P md ops Q S z fuel listed a w→wpAnyHR r n P md ops Q' S z fuel listed a w:=by
 intro fuel
 induction fuel with
 | zero=>intro listed a w q;exact⟨q.1,h _ _ _ q.2⟩
 | succ fuel ih =>
  intro listed a w q
  refine ⟨fun hr=>h _ _ _ (q.1 hr),fun i hi=>?_⟩
  have q2:=q.2 i hi
  unfold wpOpIn at q2 ⊢
  split
  ·rename_i ho;rw [ho] at q2;exact⟨q2.1,ih q2.2⟩
  ·rename_i o ho
   rw [ho] at q2
   simp only at q2
   split
   ·rename_i hw;rw [if_pos hw] at q2;exact⟨q2.1,upon_monoQ (fun a w q=>⟨q.1,ih q.2⟩) h q2.2⟩
   ·rename_i hw;rw [if_neg hw] at q2;exact⟨q2.1,q2.2.1,ih q2.2.2⟩
theorem sem_mono {C:Cx} {k2 k3:List It} (h1:∀ a w,(sem C k2).1 a w→(sem C k3).1 a w) (h2:∀ i a w,(sem C k2).2 i a w→(sem C k3).2 i a w):∀ k1:List It,(∀ a w,(sem C (k1++k2)).1 a w→(sem C (k1++k3)).1 a w)∧∀ i a w,(sem C (k1++k2)).2 i a w→(sem C (k1++k3)).2 i a w
 | []=>⟨h1,h2⟩
 | .code c::k=>by
  obtain⟨i1,i2⟩:=sem_mono h1 h2 k
  exact⟨fun a w q=>wpIn_mono q (post_mono i1 i2),i2⟩
 | .ops all rest::k=>by
  obtain⟨i1,i2⟩:=sem_mono h1 h2 k
  exact⟨fun a w q=>wpListIn_mono' (post_mono i1 i2) q,i2⟩
 | .run all done ord Hs z::k=>by
  obtain⟨i1,i2⟩:=sem_mono h1 h2 k
  exact⟨fun a w q hc=>wpAnyHR_monoQ (post_mono i1 i2) (q hc),i2⟩
 | .draw all fuel listed Hs z::k=>by
  obtain⟨i1,i2⟩:=sem_mono h1 h2 k
  exact⟨fun a w q=>wpAnyHR_monoQ (post_mono i1 i2) q,i2⟩
 | .out id::k=>by
  obtain⟨i1,i2⟩:=sem_mono h1 h2 k
  refine ⟨i1,fun i a w q=>?_⟩
  simp only [List.cons_append,sem] at q ⊢
  split at q
  ·rename_i e;rw [if_pos e];exact i1 _ _ q
  ·rename_i e;rw [if_neg e];exact i2 _ _ _ q
 | .mark M::k=>by
  obtain⟨i1,i2⟩:=sem_mono h1 h2 k
  exact⟨fun a w q=>q,i2⟩
theorem T_cutAt {C:Cx} {k:List It} {env:Env} {ec:EnvC} {H:List HA} {σ:Type} (m:Nat) (E:σ→Env) (G:σ→List HA) (I:σ→Prop) (hm:allOf (k.take m ++ .mark (Meets C E G I)::k.drop m)=allOf k)
  (h1:T C (k.take m ++ .mark (Meets C E G I)::k.drop m) env ec H) (h2:∀ s,I s→T C (nf 60 (k.drop m)) (E s) [] (G s)):T C k env ec H:=by
 refine T.mk fun a w ha hw=>?_
 have hq:=h1 a w (by rw [hm];exact ha) hw
 have:=(sem_mono (C:=C) (k2 := .mark (Meets C E G I)::k.drop m) (k3:=k.drop m) (fun a w ⟨s',g1,g2,g3⟩=>nf_spec (n:=60) (h2 s' g1 a w g2.plain g3)) (fun _ _ _ q=>q) (k.take m)).1 a w hq
 rwa [List.take_append_drop] at this
end Go.Proofs.YtblnhdnogjijiaaGreatDoor
namespace Go.Proofs.YtblnhdnogjijiaaGreatDoor
open Go.RowKit Go.Shelf

def OpT (C:Cx) (all:Array Oper) (o:Oper) (env:Env) (ec:EnvC) (H:List HA) (Φ:Env→EnvC→List HA→Prop):Prop :=
 ∀ a w,Agrees C.N all env ec a→Cls C.w0 w H→∀ (K:Act→World→Prop) (Q:Exit→Act→World→Prop),
  (∀ env' ec' H' a' w',Φ env' ec' H'→Agrees C.N all env' ec' a'→Cls C.w0 w' H'→K a' w') →
  (Region.wanted o (yielded all a.tmps)=true→o.wpIn (Fr C.rd) 0 C.S.P a w K Q)∧(Region.wanted o (yielded all a.tmps)=false→K (a.put o.dst undef) w)

theorem T_op {C:Cx} {all:Array Oper} {o:Oper} {rest:List Oper} {k:List It} {env:Env} {ec:EnvC} {H:List HA}
  (h:OpT C all o env ec H (fun env' ec' H'=>T C (.ops all rest::k) env' ec' H')):T C (.ops all (o::rest)::k) env ec H:=by
 refine T.mk fun a w ha hw=>?_
 have:=h a w ha hw _ (post (sem C k).1 (sem C k).2 C.Rr) (fun env' ec' H' a' w' hT ha' hw'=>hT a' w' ha' hw')
 show wpListIn _ _ _ _ _ (o::rest) a w
 refine wpListIn_step fun K hK=>?_
 split
 ·rename_i hwn
  exact (h a w ha hw K _ (fun env' ec' H' a' w' hT ha' hw'=>hK _ _ (hT a' w' ha' hw'))).1 hwn
 ·rename_i hwn
  exact⟨about_Fr o _ w _,hK _ _ (this.2 (by simpa using hwn))⟩

section
variable {C:Cx} {all:Array Oper} {o:Oper} {env:Env} {ec:EnvC} {H:List HA} {Φ:Env→EnvC→List HA→Prop}
theorem OpT.val {d:Nat} {v:Value} (hg:gOf all env ec o=some []) (hd:o.dst=some d) (hN:Nat.blt d C.N.n=true) (hs:safeC all d ec=true)
  (hrun:∀ a w,Agrees C.N all env ec a→Cls C.w0 w H→(execOp a.eval o).run C.S.P w = .ok (.value v) w) (h:Φ ((d,v)::env) ec H):OpT C all o env ec H Φ:=by
 intro a w ha hw K Q hK
 have hwn:=(wanted_iff ha hg).2 (Holds.nil _ _)
 refine ⟨fun _=>?_,fun hn=>(by rw [hwn] at hn;cases hn)⟩
 unfold Oper.wpIn
 refine ⟨about_Fr o _ w _,?_⟩
 rw [Oper.semAt_eq _ _ _ (gOf_def hg)]
 rw [hrun a w ha hw]
 exact hK _ _ _ _ _ h (by rw [hd];exact ha.put hN hs) hw
theorem OpT.valC {d:Nat} {v:Value} {G:GId} (hg:gOf all env ec o=some G) (hd:o.dst=some d) (hN:Nat.blt d C.N.n=true) (hs:safeC all d ec=true) (hsG:safeG all d G=true) (hl:lookE env d=none)
  (hrun:∀ a w,Agrees C.N all env ec a→Cls C.w0 w H→Holds all a G→GP all env ec G→(execOp a.eval o).run C.S.P w = .ok (.value v) w) (h:Φ env ((d,(G,v))::ec) H):OpT C all o env ec H Φ:=by
 intro a w ha hw K Q hK
 refine ⟨fun hwn=>?_,fun hn=>?_⟩
 ·have hH:=(wanted_iff ha hg).1 hwn
  unfold Oper.wpIn
  refine ⟨about_Fr o _ w _,?_⟩
  rw [Oper.semAt_eq _ _ _ (gOf_def hg)]
  rw [hrun a w ha hw hH (hH.gp ha)]
  exact hK _ _ _ _ _ h (by rw [hd];exact ha.putC hN hs hsG hl (fun _=>rfl) (fun hh=>absurd hH hh)) hw
 ·have hH:¬ Holds all a G:=fun hh=>by rw [(wanted_iff ha hg).2 hh] at hn;cases hn
  rw [hd]
  exact hK _ _ _ _ _ h (ha.putC hN hs hsG hl (fun hh=>absurd hh hH) (fun _=>rfl)) hw
theorem OpT.eff (hg:gOf all env ec o=some [])
  (hrun:∀ a w,Agrees C.N all env ec a→Cls C.w0 w H→∃ v w' H',(execOp a.eval o).run C.S.P w = .ok (.value v) w'∧Cls C.w0 w' H'∧∃ d,o.dst=some d∧Nat.blt d C.N.n=true∧safeC all d ec=true∧Φ ((d,v)::env) ec H'):OpT C all o env ec H Φ:=by
 intro a w ha hw K Q hK
 have hwn:=(wanted_iff ha hg).2 (Holds.nil _ _)
 refine ⟨fun _=>?_,fun hn=>(by rw [hwn] at hn;cases hn)⟩
 obtain⟨v,w',H',h1,h2,d,hd,hN,hs,h3⟩:=hrun a w ha hw
 unfold Oper.wpIn
 refine ⟨about_Fr o _ w _,?_⟩
 rw [Oper.semAt_eq _ _ _ (gOf_def hg)]
 rw [h1]
 exact hK _ _ _ _ _ h3 (by rw [hd];exact ha.put hN hs) h2
theorem OpT.skip (hg:gOf all env ec o=some []) (hd:o.dst=none)
  (hrun:∀ a w,Agrees C.N all env ec a→Cls C.w0 w H→∃ w' H',(execOp a.eval o).run C.S.P w = .ok .skip w'∧Cls C.w0 w' H'∧Φ env ec H'):OpT C all o env ec H Φ:=by
 intro a w ha hw K Q hK
 have hwn:=(wanted_iff ha hg).2 (Holds.nil _ _)
 refine ⟨fun _=>?_,fun hn=>(by rw [hwn] at hn;cases hn)⟩
 obtain⟨w',H',h1,h2,h3⟩:=hrun a w ha hw
 unfold Oper.wpIn
 refine ⟨about_Fr o _ w _,?_⟩
 rw [Oper.semAt_eq _ _ _ (gOf_def hg)]
 rw [h1]
 exact hK _ _ _ _ _ h3 (by rw [hd];exact ha) h2
end

def inK:IntKind→Int→Prop
 | .i64,n => -9223372036854775808≤n∧n≤9223372036854775807
 | .u8,n=>0≤n∧n≤255
 | .i32,n => -2147483648≤n∧n≤2147483647
 | .u64,n=>0≤n∧n≤18446744073709551615
 | .u32,n=>0≤n∧n≤4294967295
 | _,_=>False
theorem inK.wrap {k:IntKind} {n:Int} (h:inK k n):k.wrap n=n:=by
 cases k <;> simp only [inK] at h
 case i64=>exact IntWalk.i64_in _ h
 case u8=>exact IntWalk.u8_in _ h
 case i32=>exact IntWalk.i32_in _ h
 case u64=>exact IntWalk.u64_in _ h
 case u32=>exact IntWalk.u32_in _ h
def sameK (k k':IntKind):Bool:=decide (k=k')
theorem sameK_eq {k k':IntKind} (h:sameK k k'=true):k=k':=by simpa [sameK] using h

def evBin (op:BinOp) (x y:Value):Option Value :=
 match op,x,y with
 | .lss, .int k a, .int k' b=>cond (sameK k k') (some (.bool (decide (a<b)))) none
 | .leq, .int k a, .int k' b=>cond (sameK k k') (some (.bool (decide (a≤b)))) none
 | .gtr, .int k a, .int k' b=>cond (sameK k k') (some (.bool (decide (b<a)))) none
 | .geq, .int k a, .int k' b=>cond (sameK k k') (some (.bool (decide (b≤a)))) none
 | .eql, .int k a, .int k' b=>cond (sameK k k') (some (.bool (decide (a=b)))) none
 | .neq, .int k a, .int k' b=>cond (sameK k k') (some (.bool (!decide (a=b)))) none
 | .eql, .string a, .string b=>some (.bool (decide (a=b)))
 | .neq, .string a, .string b=>some (.bool (!decide (a=b)))
 | .lss, .string a, .string b=>some (.bool (Op.bytesLess a.toList b.toList))
 | .gtr, .string a, .string b=>some (.bool (!(Op.bytesLess a.toList b.toList || decide (a=b))))
 | _,_,_=>none
theorem eq_toList (a b:ByteArray):(a.toList == b.toList)=decide (a=b):=by
 rw [Bool.eq_iff_iff]
 simp only [beq_iff_eq,decide_eq_true_eq]
 constructor
 ·intro h
  rw [Lib.toList_data,Lib.toList_data] at h
  exact ByteArray.ext (Array.ext' h)
 ·intro h;rw [h]
theorem evBin_spec {P:Program} {op:BinOp} {t:TypeId} {x y v:Value} {p q:Operand} (h:evBin op x y=some v) (w:World) :
    (do eqGuard op t p q x y;binOp op t x y:Sem Value).run P w = .ok v w:=by
  cases x <;> cases y <;> cases op <;> simp only [evBin] at h <;> try (cases h;done)
  all_goals first
    | (rename_i k a k' b
       cases hk:sameK k k' with
       | false=>rw [hk] at h;cases h
       | true =>
         rw [hk] at h
         have e:=sameK_eq hk
         subst e
         simp only [cond_true,Option.some.injEq] at h
         subst h
         simp [eqGuard,binOp,Op.intCmp,pure,Sem.run]
         try rfl)
    | (injection h with h;subst h;simp [eqGuard,binOp,Op.stringOp,eq_toList,pure,Sem.run])

def subP (all:Array Oper) (s:Nat) (p:Bool) (G:GId):GId→Bool
  | []=>true
  | (i,q)::l=>(memG (i,q) G || ((q == p) && (match dstL all i with|some d=>Nat.beq d s|none=>false))) && subP all s p G l
def evArm (all:Array Oper) (env:Env) (ec:EnvC) (G:GId) (c:Operand) (p:Bool):Operand→Option Value
 | .tmp t=>match lookE env t with
  | some v=>some v
  | none=>match lookE ec t,c with
   | some (g,v), .tmp s=>cond (subP all s p G g) (some v) none
   | _,_=>none
 | x=>evX env ec G x
theorem yielded_of {all:Array Oper} {a:Act} {i s:Nat} {p:Bool} (hs:dstL all i=some s) (h:a.tmps.getD s undef = .bool p):yielded all a.tmps i=some p:=by
 rw [dstL_eq] at hs
 unfold yielded
 rw [hs]
 simp only [Option.bind_some]
 cases hq:a.tmps[s]? with
 | none=>simp [Array.getD_eq_getD_getElem?,hq,undef] at h
 | some u=>simp [Array.getD_eq_getD_getElem?,hq] at h;subst h;rfl
theorem evArm_spec {N:FK} {all:Array Oper} {env:Env} {ec:EnvC} {a:Act} {G:GId} (ha:Agrees N all env ec a) (hG:Holds all a G) {c x:Operand} {p:Bool} {v:Value}
  (h:evArm all env ec G c p x=some v) (hc:a.eval c = .bool p):a.eval x=v:=by
 unfold evArm at h
 split at h
 ·rename_i t
  split at h
  ·rename_i u hl;cases h;exact ha.at_ t _ hl
  ·split at h
   ·rename_i g u s hl
    cases hs:subP all s p G g with
    | false=>rw [hs] at h;cases h
    | true =>
     rw [hs] at h;simp at h;subst h
     refine ha.yes t g u hl ?_
     have hc':a.tmps.getD s undef = .bool p:=hc
     clear hl
     induction g with
     | nil=>exact Holds.nil _ _
     | cons y l ih =>
      obtain⟨i,q⟩:=y
      simp only [subP,Bool.and_eq_true,Bool.or_eq_true] at hs
      intro z hz
      cases hz with
      | head =>
       rcases hs.1 with h1|⟨h1,h2⟩
       ·exact hG _ (memG_spec h1)
       ·have hq:q=p:=by simpa using h1
        subst hq
        split at h2
        ·rename_i d hd
         have e:d=s:=Nat.eq_of_beq_eq_true h2
         subst e
         exact yielded_of hd hc'
        ·cases h2
      | tail _ hz=>exact ih hs.2 z hz
   ·cases h
 ·exact evX_spec ha hG h

def minI (k:IntKind):Int→List Value→Option Value
 | a,[]=>some (.int k a)
 | a, .int k' b::l=>cond (sameK k k') (minI k (min a b) l) none
 | _,_=>none
def maxI (k:IntKind):Int→List Value→Option Value
 | a,[]=>some (.int k a)
 | a, .int k' b::l=>cond (sameK k k') (maxI k (max a b) l) none
 | _,_=>none
def evL (env:Env) (ec:EnvC) (G:GId):List Operand→Option (List Value)
 | []=>some []
 | x::l=>match evX env ec G x with
  | some v=>match evL env ec G l with
   | some vs=>some (v::vs)
   | none=>none
  | none=>none
theorem evL_spec {N:FK} {all:Array Oper} {env:Env} {ec:EnvC} {a:Act} {G:GId} (ha:Agrees N all env ec a) (hG:Holds all a G):∀ {l:List Operand} {vs:List Value},evL env ec G l=some vs→l.map a.eval=vs
 | [],vs,h=>by cases h;rfl
 | x::l,vs,h=>by
  unfold evL at h
  split at h
  ·rename_i v hv
   split at h
   ·rename_i us hus
    cases h
    rw [List.map_cons,evX_spec ha hG hv,evL_spec ha hG hus]
   ·cases h
  ·cases h

def isIface:Ty→Bool
 | .iface=>true
 | .other=>true
 | _=>false
def evP (S:Sig) (all:Array Oper) (env:Env) (ec:EnvC) (G:GId) (o:Oper):Option Value :=
 match o.op with
 | .move x=>evX env ec G x
 | .assign x=>evX env ec G x
 | .pick c x y=>match evX env ec G c with
  | some (.bool b)=>match evArm all env ec G c true x,evArm all env ec G c false y with
   | some (.bool u),some (.bool v)=>match x,y with
    | _, .const (.bool false)=>some (.bool (b && u))
    | .const (.bool true),_=>some (.bool (b || v))
    | _,_=>some (.bool (cond b u v))
   | _,_=>none
  | _=>none
 | .binOp op _ x y _=>match evX env ec G x,evX env ec G y with
  | some u,some v=>evBin op u v
  | _,_=>none
 | .unOp .not _ x=>match evX env ec G x with
  | some (.bool b)=>some (.bool (!b))
  | _=>none
 | .extract x i=>match evX env ec G x with
  | some (.tuple vs)=>vs.toList[i]?
  | _=>none
 | .fieldAddr s x f=>match S.ty s,evX env ec G x with
  | some ⟨.struct fs,_,_,_⟩,some (.pointer (some ⟨b,o,none⟩))=>match fs[f]? with
   | some (t,off)=>match S.ty t with
    | some ⟨_,_+1,_,_⟩=>some (.pointer (some ⟨b,o+off,none⟩))
    | _=>none
   | none=>none
  | _,_=>none
 | .field s x f=>match S.ty s,evX env ec G x with
  | some ⟨.struct fs,_,_,_⟩,some (.agg cs)=>match fs[f]? with
   | some (t,off)=>match S.ty t with
    | some ⟨d,n,_,_⟩=>cond d.plain (cond d.isAgg (some (.agg ((cs.toList.drop off).take n).toArray)) (cs.toList[off]?)) none
    | none=>none
   | none=>none
  | _,_=>none
 | .makeFunc fn fs cs=>match evL env ec G fs.toList,evL env ec G cs.toList with
  | some us,some vs=>some (.func fn us.toArray vs.toArray)
  | _,_=>none
 | .makeInterface t x=>match S.ty t,evX env ec G x with
  | some ⟨d,_,_,_⟩,some v=>cond (isIface d) none (some (.iface t v))
  | _,_=>none
 | .call { callee := .builtin b,args:=xs,argTypes:=ts }=>match b,evL env ec G xs.toList,ts.toList with
  | .len,some [.string s],[t]=>match S.ty t with
   | some ⟨.str,_,_,_⟩=>some (.int .i64 (s.size:Nat))
   | _=>none
  | .len,some [.slice _ n _],[t]=>match S.ty t with
   | some ⟨.slice _,_,_,_⟩=>some (.int .i64 (n:Nat))
   | _=>none
  | .cap,some [.slice _ _ n],[t]=>match S.ty t with
   | some ⟨.slice _,_,_,_⟩=>some (.int .i64 (n:Nat))
   | _=>none
  | .min,some (.int k a::l),_=>minI k a l
  | .max,some (.int k a::l),_=>maxI k a l
  | _,_,_=>none
 | _=>none
end Go.Proofs.YtblnhdnogjijiaaGreatDoor
namespace Go.Proofs.YtblnhdnogjijiaaGreatDoor
open Go.RowKit Go.Shelf

theorem run_minI (k:IntKind) (P:Program) (w:World):∀ (l:List Value) (a:Int) (v:Value),minI k a l=some v→(l.foldlM Builtin.min2 (.int k a)).run P w = .ok v w
 | [],a,v,h=>by cases h;rfl
 | x::l,a,v,h=>by
  cases x <;> simp only [minI] at h <;> try (cases h;done)
  rename_i k' b
  cases hk:sameK k k' with
  | false=>rw [hk] at h;cases h
  | true =>
   rw [hk] at h
   have e:=sameK_eq hk
   subst e
   simp only [cond_true] at h
   have hm:(if b<a then b else a)=min a b:=by rw [Int.min_def];split <;> split <;> omega
   have ih:=run_minI k P w l _ v h
   simp only [List.foldlM_cons,Builtin.min2,hm]
   simpa using ih
theorem run_maxI (k:IntKind) (P:Program) (w:World):∀ (l:List Value) (a:Int) (v:Value),maxI k a l=some v→(l.foldlM Builtin.max2 (.int k a)).run P w = .ok v w
 | [],a,v,h=>by cases h;rfl
 | x::l,a,v,h=>by
  cases x <;> simp only [maxI] at h <;> try (cases h;done)
  rename_i k' b
  cases hk:sameK k k' with
  | false=>rw [hk] at h;cases h
  | true =>
   rw [hk] at h
   have e:=sameK_eq hk
   subst e
   simp only [cond_true] at h
   have ih:=run_maxI k P w l _ v h
   simp only [List.foldlM_cons]
   have hm:(Builtin.max2 (.int k a) (.int k b))=pure (.int k (max a b)):=by
    simp only [Builtin.max2]
    congr 2
    rw [Int.max_def];split <;> split <;> omega
   rw [hm]
   simpa using ih
theorem evP_spec {S:Sig} {N:FK} {all:Array Oper} {env:Env} {ec:EnvC} {G:GId} {o:Oper} {v:Value} {a:Act} (ha:Agrees N all env ec a) (hG:Holds all a G)
    (h:evP S all env ec G o=some v) (w:World):(execOp a.eval o).run S.P w = .ok (.value v) w:=by
  obtain⟨dst,op,ty,pos,aft,gd⟩:=o
  unfold evP at h
  dsimp only at h
  split at h
  · -- move
    simp only [execOp];rw [evX_spec ha hG h];rfl
  · simp only [execOp];rw [evX_spec ha hG h];rfl
  · -- pick
    rename_i c x y
    split at h
    · rename_i b hc
      have hc':=evX_spec ha hG hc
      split at h
      · rename_i u v' hu hv
        have e1:b=true→a.eval x = .bool u:=fun e=>evArm_spec ha hG hu (by rw [hc',e])
        have e2:b=false→a.eval y = .bool v':=fun e=>evArm_spec ha hG hv (by rw [hc',e])
        have key:(execOp a.eval ⟨dst, .pick c x y,ty,pos,aft,gd⟩).run S.P w = .ok (.value (.bool (cond b u v'))) w:=by
          simp only [execOp,hc']
          cases b with
          | true=>simp [asBool,e1 rfl]
          | false=>simp [asBool,e2 rfl]
        rw [key]
        split at h
        · cases h
          have:v'=false:=by
            have h9:evArm all env ec G c false (.const (.bool false))=some (.bool false):=rfl
            rw [h9] at hv;cases hv;rfl
          subst this
          cases b <;> rfl
        · cases h
          have:u=true:=by
            have h9:evArm all env ec G c true (.const (.bool true))=some (.bool true):=rfl
            rw [h9] at hu;cases hu;rfl
          subst this
          cases b <;> rfl
        · cases h;rfl
      · cases h
    · cases h
  · -- binOp
    rename_i op t x y t2
    split at h
    · rename_i u u' hu hv
      have:=evBin_spec (P:=S.P) (t:=t) (p:=x) (q:=y) h w
      simp only [execOp,evX_spec ha hG hu,evX_spec ha hG hv]
      rw [Sem.run_bind,this];rfl
    · cases h
  · -- not
    split at h
    · rename_i b hb;cases h;simp [execOp,evX_spec ha hG hb,Op.unary]
    · cases h
  · -- extract
    split at h
    · rename_i vs hx
      simp only [execOp,evX_spec ha hG hx,Instr.extract]
      rw [Array.getElem?_toList] at h
      rw [h];rfl
    · cases h
  · -- fieldAddr
    rename_i s x f
    split at h
    · rename_i fs n1 n2 n3 b o' hs hx
      have hk:=Sig.tyOk hs
      obtain⟨fa,hfa,hfs⟩:=hk.fits
      split at h
      · rename_i t off hf
        split at h
        · rename_i d n m z ht
          cases h
          have hkt:=Sig.tyOk ht
          have hget:∃ F:Field,fa[f]?=some F∧F.type=t∧F.offset=off:=by
            rw [← hfs,List.getElem?_map,Array.getElem?_toList] at hf
            cases hq:fa[f]? with
            | none=>rw [hq] at hf;cases hf
            | some F=>rw [hq] at hf;simp at hf;exact⟨F,rfl,hf.1,hf.2⟩
          obtain⟨F,hF,e1,e2⟩:=hget
          have hsz:(sizeOf F.type).run S.P w = .ok (n+1) w:=by rw [e1];exact hkt.sizeOf w
          simp only [execOp,evX_spec ha hG hx,Instr.fieldAt]
          simp [run_underlying hfa,hF,Instr.sureAddr,fieldPlace,hsz,e2,Addr.add]
          try (split <;> simp_all)
        · cases h
      · cases h
    · cases h
  · -- field
    rename_i s x f
    split at h
    · rename_i fs n1 n2 n3 cs hs hx
      have hk:=Sig.tyOk hs
      obtain⟨fa,hfa,hfs⟩:=hk.fits
      split at h
      · rename_i t off hf
        split at h
        · rename_i d n m z ht
          have hkt:=Sig.tyOk ht
          have hget:∃ F:Field,fa[f]?=some F∧F.type=t∧F.offset=off:=by
            rw [← hfs,List.getElem?_map,Array.getElem?_toList] at hf
            cases hq:fa[f]? with
            | none=>rw [hq] at hf;cases hf
            | some F=>rw [hq] at hf;simp at hf;exact⟨F,rfl,hf.1,hf.2⟩
          obtain⟨F,hF,e1,e2⟩:=hget
          cases hp:d.plain with
          | false=>rw [hp] at h;cases h
          | true =>
            rw [hp] at h
            simp only [cond_true] at h
            have hsz:(sizeOf F.type).run S.P w = .ok n w:=by rw [e1];exact hkt.sizeOf w
            have hia:(isAgg F.type).run S.P w = .ok d.isAgg w:=by rw [e1];exact hkt.isAgg w hp
            simp only [execOp,evX_spec ha hG hx,Instr.field]
            cases hd:d.isAgg with
            | true =>
              rw [hd] at h hia
              simp only [cond_true,Option.some.injEq] at h
              subst h
              simp [run_underlying hfa,hF,asAgg,part,hia,hsz,e2]
              apply Array.ext'
              simp only [Array.toList_extract,List.extract_eq_take_drop,Nat.add_sub_cancel_left]
            | false =>
              rw [hd] at h hia
              simp only [cond_false] at h
              rw [Array.getElem?_toList] at h
              simp [run_underlying hfa,hF,asAgg,part,hia,e2,h]
        · cases h
      · cases h
    · cases h
  · -- makeFunc
    split at h
    · rename_i us vs hu hv
      cases h
      have e1:=evL_spec ha hG hu
      have e2:=evL_spec ha hG hv
      simp only [execOp,Instr.makeFunc]
      have e3:Array.map a.eval _=us.toArray:=Array.ext' (by rw [Array.toList_map];exact e1)
      have e4:Array.map a.eval _=vs.toArray:=Array.ext' (by rw [Array.toList_map];exact e2)
      rw [e3,e4]
      rfl
    · cases h
  · -- makeInterface
    rename_i t x
    split at h
    · rename_i d n1 n2 n3 u ht hx
      have hk:=(Sig.tyOk ht).fits
      cases hi:isIface d with
      | true=>rw [hi] at h;cases h
      | false =>
        rw [hi] at h
        simp only [cond_false,Option.some.injEq] at h
        subst h
        simp only [execOp,evX_spec ha hG hx,Instr.makeInterface]
        revert hk hi
        cases d <;> simp only [isIface,Ty.fits] <;> intro hk hi <;> first
          | (cases hi;done)
          | (obtain⟨_,hk,_⟩:=hk;simp [run_underlying hk];done)
          | (obtain⟨_,_,_,hk⟩:=hk;simp [run_underlying hk];done)
          | (simp [run_underlying hk];done)
    · cases h
  · -- builtins
    rename_i b xs ts
    have hargs:∀ {l},evL env ec G xs.toList=some l→(xs.map a.eval)=l.toArray:=by
      intro l hl
      have:=evL_spec ha hG hl
      apply Array.ext'
      simp [this]
    have hts:∀ {t},ts.toList=[t]→ts = #[t]:=fun e=>Array.ext' (by simpa using e)
    split at h
    · rename_i s t hl e
      split at h
      · rename_i m1 m2 m3 ht
        cases h
        have hk:=(Sig.tyOk ht).fits
        simp only [Ty.fits] at hk
        simp [execOp,resolve,invoke,builtin,hargs hl,hts e,Builtin.len_,run_underlying hk,goInt]
      · cases h
    · rename_i a0 n c t hl e
      split at h
      · rename_i m0 m1 m2 m3 ht
        cases h
        have hk:=(Sig.tyOk ht).fits
        simp only [Ty.fits] at hk
        simp [execOp,resolve,invoke,builtin,hargs hl,hts e,Builtin.len_,run_underlying hk,goInt]
      · cases h
    · rename_i a0 n c t hl e
      split at h
      · rename_i m0 m1 m2 m3 ht
        cases h
        have hk:=(Sig.tyOk ht).fits
        simp only [Ty.fits] at hk
        simp [execOp,resolve,invoke,builtin,hargs hl,hts e,Builtin.cap_,run_underlying hk,goInt]
      · cases h
    · rename_i k n l hl
      have:=run_minI k S.P w l n v h
      simp [execOp,resolve,invoke,builtin,hargs hl,Builtin.min_,this]
    · rename_i k n l hl
      have:=run_maxI k S.P w l n v h
      simp [execOp,resolve,invoke,builtin,hargs hl,Builtin.max_,this]
    · cases h
  · cases h
end Go.Proofs.YtblnhdnogjijiaaGreatDoor
namespace Go.Proofs.YtblnhdnogjijiaaGreatDoor
open Go.RowKit Go.Shelf

def bk (A:Option Addr):Nat:=match A with|some a=>a.block|none=>0
def ofs (A:Option Addr):Nat:=match A with|some a=>a.off|none=>0
def isAt (A:Option Addr):Prop:=A=some ⟨bk A,ofs A,none⟩
def byteAt (s:ByteArray) (i:Int):UInt8:=s.data.toList.getD i.toNat 0
def andI (a b:Int):Int:=((a.toNat &&& b.toNat:Nat):Int)
def orI (a b:Int):Int:=((a.toNat ||| b.toNat:Nat):Int)
def cutA (A:Option Addr) (cap l size:Nat):Option Addr:=if cap=l then A else A.map fun a=>a.add (l * size)

def evO (env:Env) (ec:EnvC) (G:GId) (dflt:Int):Option Operand→Option Int
 | none=>some dflt
 | some x=>match evX env ec G x with
  | some (.int _ n)=>some n
  | _=>none
def evV (S:Sig) (env:Env) (ec:EnvC) (G:GId) (o:Oper):Option (Value × Prop) :=
 match o.op with
 | .binOp op _ x y _=>match op,evX env ec G x,evX env ec G y with
  | .add,some (.int k a),some (.int k' b)=>cond (sameK k k') (some (.int k (a+b),inK k (a+b))) none
  | .sub,some (.int k a),some (.int k' b)=>cond (sameK k k') (some (.int k (a - b),inK k (a - b))) none
  | .mul,some (.int k a),some (.int k' b)=>cond (sameK k k') (some (.int k (a * b),inK k (a * b))) none
  | .quo,some (.int k a),some (.int k' b)=>cond (sameK k k') (some (.int k (a / b),0≤a∧0<b∧inK k (a / b))) none
  | .rem,some (.int k a),some (.int k' b)=>cond (sameK k k') (some (.int k (a % b),0≤a∧0<b)) none
  | .and,some (.int .i64 a),some (.int .i64 b)=>some (.int .i64 (andI a b),(0≤a∧a<9223372036854775808)∧(0≤b∧b<9223372036854775808))
  | .or,some (.int .i64 a),some (.int .i64 b)=>some (.int .i64 (orI a b),(0≤a∧a<9223372036854775808)∧(0≤b∧b<9223372036854775808))
  | .add,some (.string a),some (.string b)=>some (.string (a++b),(a.size+b.size:Int)≤9223372036854775807)
  | _,_,_=>none
 | .unOp .neg _ x=>match evX env ec G x with
  | some (.int k a)=>some (.int k (0 - a),inK k (0 - a))
  | _=>none
 | .indexAddr t x i=>match S.ty t,evX env ec G x,evX env ec G i with
  | some ⟨.slice e,_,_,_⟩,some (.slice A n _),some (.int _ i)=>match S.ty e with
   | some ⟨_,sz,_,_⟩=>match A with
    | some ⟨b,o,none⟩=>some (.pointer (some ⟨b,o+i.toNat * sz,none⟩),0≤i∧i<(n:Int))
    | A=>some (.pointer (some ⟨bk A,ofs A+i.toNat * sz,none⟩),(0≤i∧i<(n:Int))∧isAt A)
   | none=>none
  | some ⟨.arr n e,_,_,_⟩,some (.pointer (some ⟨b,o,none⟩)),some (.int _ i)=>match S.ty e with
   | some ⟨_,sz,_,_⟩=>some (.pointer (some ⟨b,o+i.toNat * sz,none⟩),(0≤i∧i<(n:Int)))
   | none=>none
  | _,_,_=>none
 | .index t x i=>match S.ty t,evX env ec G x,evX env ec G i with
  | some ⟨.str,_,_,_⟩,some (.string s),some (.int _ i)=>some (.int .u8 ((byteAt s i).toNat:Nat),0≤i∧i<(s.size:Int))
  | _,_,_=>none
 | .slice t x lo hi none=>match S.ty t,evX env ec G x,evO env ec G 0 lo with
  | some ⟨.str,_,_,_⟩,some (.string s),some l=>match evO env ec G (s.size:Nat) hi with
   | some h=>some (.string (s.extract l.toNat h.toNat),(0≤l∧l≤h)∧h≤(s.size:Int))
   | none=>none
  | some ⟨.slice e,_,_,_⟩,some (.slice A n c),some l=>match S.ty e,evO env ec G (n:Nat) hi with
   | some ⟨_,sz,_,_⟩,some h=>match lo with
    | none=>some (.slice A h.toNat c,(0≤h∧h≤(c:Int))∧(n:Int)≤(c:Int))
    | some _=>some (.slice (cutA A c l.toNat sz) (h.toNat - l.toNat) (c - l.toNat),(0≤l∧l≤h)∧h≤(c:Int))
   | _,_=>none
  | _,_,_=>none
 | .convert s d x=>match S.ty s,S.ty d,evX env ec G x with
  | some ⟨.int _,_,_,_⟩,some ⟨.int k,_,_,_⟩,some (.int _ n)=>some (.int k n,inK k n)
  | some ⟨.str,_,_,_⟩,some ⟨.str,_,_,_⟩,some (.string s)=>some (.string s,True)
  | _,_,_=>none
 | _=>none

theorem ofInt_i64 (a:Int) (h:0≤a∧a<9223372036854775808):(BitVec.ofInt 64 a).toNat=a.toNat:=by
 obtain⟨n,rfl⟩:=Int.eq_ofNat_of_zero_le h.1
 rw [BitVec.ofInt_natCast,BitVec.toNat_ofNat]
 simp only [Int.toNat_natCast]
 exact Nat.mod_eq_of_lt (by omega)
theorem and_i64 (a b:Int) (ha:0≤a∧a<9223372036854775808) (hb:0≤b∧b<9223372036854775808) :
  IntKind.i64.wrap ((BitVec.ofInt 64 a &&& BitVec.ofInt 64 b).toNat:Int)=andI a b:=by
 have hx:a.toNat &&& b.toNat<2 ^ 63:=Nat.and_lt_two_pow _ (by omega)
 rw [BitVec.toNat_and,ofInt_i64 a ha,ofInt_i64 b hb,IntKind.wrap_i64]
 unfold andI
 omega
theorem or_i64 (a b:Int) (ha:0≤a∧a<9223372036854775808) (hb:0≤b∧b<9223372036854775808) :
  IntKind.i64.wrap ((BitVec.ofInt 64 a ||| BitVec.ofInt 64 b).toNat:Int)=orI a b:=by
 have hx:a.toNat ||| b.toNat<2 ^ 63:=Nat.or_lt_two_pow (by omega) (by omega)
 rw [BitVec.toNat_or,ofInt_i64 a ha,ofInt_i64 b hb,IntKind.wrap_i64]
 unfold orI
 omega

theorem evO_none {env:Env} {ec:EnvC} {G:GId} {d n:Int} (h:evO env ec G d none=some n):n=d:=by cases h;rfl
theorem evO_some {N:FK} {all:Array Oper} {env:Env} {ec:EnvC} {G:GId} {a:Act} (ha:Agrees N all env ec a) (hG:Holds all a G) {d n:Int} {x:Operand} (h:evO env ec G d (some x)=some n):∃ k,a.eval x = .int k n:=by
 simp only [evO] at h
 split at h
 ·rename_i k m hx;cases h;exact⟨k,evX_spec ha hG hx⟩
 ·cases h
theorem run_sliceBound (P:Program) (w:World) (k:IntKind) (i:Int) (y:Nat) (c:BoundsCode) (h0:0≤i) (h1:i≤y):(Instr.sliceBound (.int k i) y c).run P w = .ok i.toNat w:=by
 simp [Instr.sliceBound,asIntOf,h0,h1]
theorem run_sliceBounds {S:Sig} {N:FK} {all:Array Oper} {env:Env} {ec:EnvC} {G:GId} {a:Act} (ha:Agrees N all env ec a) (hG:Holds all a G) (w:World) (isS:Bool) (len cap:Nat) {lo hi:Option Operand} {l h:Int}
  (hl:evO env ec G 0 lo=some l) (hh:evO env ec G (len:Nat) hi=some h) (h1:0≤l) (h2:l≤h) (h3:h≤(cap:Int)) :
  (Instr.sliceBounds isS len cap (lo.map a.eval) (hi.map a.eval) none).run S.P w = .ok (l.toNat,h.toNat,cap) w:=by
 have hc:h≤((cap:Nat):Int):=h3
 have hlh:l≤((h.toNat:Nat):Int):=by omega
 unfold Instr.sliceBounds
 cases hi with
 | none =>
  have e:=evO_none hh
  subst e
  have hlh':l≤((len:Nat):Int):=by omega
  cases lo with
  | none=>have e:=evO_none hl;subst e;simp
  | some x =>
   obtain⟨k,hx⟩:=evO_some ha hG hl
   simp [hx,run_sliceBound _ _ _ _ _ _ h1 hlh']
 | some y =>
  obtain⟨k,hy⟩:=evO_some ha hG hh
  have h0:0≤h:=by omega
  cases lo with
  | none=>have e:=evO_none hl;subst e;simp [hy,run_sliceBound _ _ _ _ _ _ h0 hc]
  | some x =>
   obtain⟨k2,hx⟩:=evO_some ha hG hl
   simp [hx,hy,run_sliceBound _ _ _ _ _ _ h0 hc,run_sliceBound _ _ _ _ _ _ h1 hlh]
theorem byteAt_spec (s:ByteArray) (i:Int) (h:0≤i∧i<(s.size:Int)):s[i.toNat]?=some (byteAt s i):=by
 have hi:i.toNat<s.size:=by omega
 have hi2:i.toNat<s.data.toList.length:=by simpa using hi
 unfold byteAt
 rw [List.getD_eq_getElem?_getD,List.getElem?_eq_getElem hi2]
 simp [hi]
 rfl

set_option maxHeartbeats 1000000 in
theorem evV_spec {S:Sig} {N:FK} {all:Array Oper} {env:Env} {ec:EnvC} {G:GId} {o:Oper} {v:Value} {p:Prop} {a:Act} (ha:Agrees N all env ec a) (hG:Holds all a G)
  (h:evV S env ec G o=some (v,p)) (hp:p) (w:World):(execOp a.eval o).run S.P w = .ok (.value v) w:=by
 obtain⟨dst,op,ty,pos,aft,gd⟩:=o
 unfold evV at h
 dsimp only at h
 split at h
 · -- binOp
  rename_i op t x y t2
  split at h
  all_goals try (cases h;done)
  all_goals rename_i hx hy
  all_goals have ex:=evX_spec ha hG hx
  all_goals have ey:=evX_spec ha hG hy
  case _ =>
   rename_i k a' k' b
   cases hk:sameK k k' with
   | false=>rw [hk] at h;cases h
   | true =>
    rw [hk] at h;have e:=sameK_eq hk;subst e
    simp only [cond_true,Option.some.injEq,Prod.mk.injEq] at h
    obtain⟨rfl,rfl⟩:=h
    simp [execOp,ex,ey,eqGuard,binOp,Op.intArith,hp.wrap]
  case _ =>
   rename_i k a' k' b
   cases hk:sameK k k' with
   | false=>rw [hk] at h;cases h
   | true =>
    rw [hk] at h;have e:=sameK_eq hk;subst e
    simp only [cond_true,Option.some.injEq,Prod.mk.injEq] at h
    obtain⟨rfl,rfl⟩:=h
    simp [execOp,ex,ey,eqGuard,binOp,Op.intArith,hp.wrap]
  case _ =>
   rename_i k a' k' b
   cases hk:sameK k k' with
   | false=>rw [hk] at h;cases h
   | true =>
    rw [hk] at h;have e:=sameK_eq hk;subst e
    simp only [cond_true,Option.some.injEq,Prod.mk.injEq] at h
    obtain⟨rfl,rfl⟩:=h
    simp [execOp,ex,ey,eqGuard,binOp,Op.intArith,hp.wrap]
  case _ =>
   rename_i k a' k' b
   cases hk:sameK k k' with
   | false=>rw [hk] at h;cases h
   | true =>
    rw [hk] at h;have e:=sameK_eq hk;subst e
    simp only [cond_true,Option.some.injEq,Prod.mk.injEq] at h
    obtain⟨rfl,rfl⟩:=h
    have hb:b≠0:=by omega
    have hd:a'.tdiv b=a' / b:=Int.tdiv_eq_ediv_of_nonneg hp.1
    simp [execOp,ex,ey,eqGuard,binOp,Op.intDiv,hb,hd,hp.2.2.wrap]
  case _ =>
   rename_i k a' k' b
   cases hk:sameK k k' with
   | false=>rw [hk] at h;cases h
   | true =>
    rw [hk] at h;have e:=sameK_eq hk;subst e
    simp only [cond_true,Option.some.injEq,Prod.mk.injEq] at h
    obtain⟨rfl,rfl⟩:=h
    have hb:b≠0:=by omega
    have hd:a'.tmod b=a' % b:=Int.tmod_eq_emod_of_nonneg hp.1
    simp [execOp,ex,ey,eqGuard,binOp,Op.intDiv,hb,hd]
  case _ =>
   cases h
   have:=and_i64 _ _ hp.1 hp.2
   simp only [execOp,ex,ey,eqGuard,binOp,Op.intBits]
   simp [IntKind.bits]
   exact this
  case _ =>
   cases h
   have:=or_i64 _ _ hp.1 hp.2
   simp only [execOp,ex,ey,eqGuard,binOp,Op.intBits]
   simp [IntKind.bits]
   exact this
  case _ =>
   cases h
   rename_i a' b
   simp only [execOp,ex,ey,eqGuard,binOp,Op.stringOp]
   simp
   exact hp
 · -- neg
  split at h
  ·rename_i k n hx;cases h;have hw:=hp.wrap;simp [execOp,evX_spec ha hG hx,Op.unary,Op.intArith] at hw ⊢;exact hw
  ·cases h
 · -- indexAddr
  rename_i t x i
  split at h
  ·rename_i e m1 m2 m3 A n c k j ht hx hi
   have hk:=(Sig.tyOk ht).fits
   simp only [Ty.fits] at hk
   split at h
   ·rename_i d sz b2 z he
    have hsz:=(Sig.tyOk he).sizeOf w
    dsimp only at hsz
    split at h
    ·cases h
     simp only [execOp,evX_spec ha hG hx,evX_spec ha hG hi,Instr.indexAt]
     simp [asIntOf,run_underlying hk,hsz,hp.1,hp.2,Addr.add]
     try (split <;> simp_all)
    ·cases h
     obtain⟨h1,h2⟩:=hp
     unfold isAt at h2
     simp only [execOp,evX_spec ha hG hx,evX_spec ha hG hi,Instr.indexAt]
     rw [h2]
     simp [asIntOf,run_underlying hk,hsz,h1.1,h1.2,Addr.add,bk,ofs]
     try (split <;> simp_all)
   ·cases h
  ·rename_i n e m1 m2 m3 b o' k j ht hx hi
   have hk:=(Sig.tyOk ht).fits
   simp only [Ty.fits] at hk
   split at h
   ·rename_i d sz b2 z he
    have hsz:=(Sig.tyOk he).sizeOf w
    dsimp only at hsz
    cases h
    simp only [execOp,evX_spec ha hG hx,evX_spec ha hG hi,Instr.indexAt]
    simp [asIntOf,run_underlying hk,hsz,hp.1,hp.2,Addr.add,Instr.sureAddr]
    try (split <;> simp_all)
   ·cases h
  ·cases h
 · -- index
  rename_i t x i
  split at h
  ·rename_i m1 m2 m3 s k j ht hx hi
   have hk:=(Sig.tyOk ht).fits
   simp only [Ty.fits] at hk
   cases h
   have hb:=byteAt_spec s j hp
   simp only [execOp,evX_spec ha hG hx,evX_spec ha hG hi,Instr.index]
   simp [asIntOf,run_underlying hk,hp.1,hb]
  ·cases h
 · -- slice
  rename_i t x lo hi
  split at h
  ·rename_i m1 m2 m3 s l ht hx hl
   have hk:=(Sig.tyOk ht).fits
   simp only [Ty.fits] at hk
   split at h
   ·rename_i hv hh
    cases h
    have hb:=run_sliceBounds (S:=S) ha hG w false s.size s.size hl hh hp.1.1 hp.1.2 hp.2
    simp only [execOp,evX_spec ha hG hx,Instr.sliceAt]
    simp [run_underlying hk,Instr.slice,hb]
   ·cases h
  ·rename_i e m1 m2 m3 A n c l ht hx hl
   have hk:=(Sig.tyOk ht).fits
   simp only [Ty.fits] at hk
   split at h
   ·rename_i d sz b2 z hv he hh
    have hsz:=(Sig.tyOk he).sizeOf w
    dsimp only at hsz
    split at h
    ·cases h
     have e0:=evO_none hl
     subst e0
     have hb:=run_sliceBounds (S:=S) ha hG w true n c (lo:=none) (l:=0) rfl hh (Int.le_refl 0) hp.1.1 hp.1.2
     simp only [execOp,evX_spec ha hG hx,Instr.sliceAt]
     simp only [Option.map_none] at hb ⊢
     simp [run_underlying hk,Instr.slice,hb,hsz]
     intro _
     cases A <;> simp [Addr.add]
    ·rename_i y
     cases h
     have hb:=run_sliceBounds (S:=S) ha hG w true n c hl hh hp.1.1 hp.1.2 hp.2
     simp only [execOp,evX_spec ha hG hx,Instr.sliceAt]
     simp only [Option.map_some,Option.map_none] at hb ⊢
     simp [run_underlying hk,Instr.slice,hb,hsz,cutA]
   ·cases h
  ·cases h
 · -- convert
  rename_i s d x
  split at h
  ·rename_i k1 m1 m2 m3 k n1 n2 n3 k2 n hs hd hx
   have h1:=(Sig.tyOk hs).fits
   have h2:=(Sig.tyOk hd).fits
   simp only [Ty.fits] at h1 h2
   cases h
   simp only [execOp,evX_spec ha hG hx,convert]
   simp [run_underlying h1,run_underlying h2,Conv.intToInt,hp.wrap]
  ·rename_i m1 m2 m3 n1 n2 n3 b hs hd hx
   have h1:=(Sig.tyOk hs).fits
   have h2:=(Sig.tyOk hd).fits
   simp only [Ty.fits] at h1 h2
   cases h
   simp only [execOp,evX_spec ha hG hx,convert]
   simp [run_underlying h1,run_underlying h2]
  ·cases h
 ·cases h
end Go.Proofs.YtblnhdnogjijiaaGreatDoor
namespace Go.Proofs.YtblnhdnogjijiaaGreatDoor
open Go.RowKit Go.Shelf

section
variable {C:Cx} {all:Array Oper} {o:Oper} {rest:List Oper} {k:List It} {env:Env} {ec:EnvC} {H:List HA} {d:Nat} {v:Value}
theorem T_pure (hg:gOf all env ec o=some []) (hv:evP C.S all env ec [] o=some v) (hd:o.dst=some d) (hN:Nat.blt d C.N.n=true) (hs:safeC all d ec=true)
  (h:T C (.ops all rest::k) ((d,v)::env) ec H):T C (.ops all (o::rest)::k) env ec H :=
 T_op (OpT.val hg hd hN hs (fun _ w ha _=>evP_spec ha (Holds.nil _ _) hv w) h)
theorem T_pureC {G:GId} (hg:gOf all env ec o=some G) (hv:evP C.S all env ec G o=some v) (hd:o.dst=some d) (hN:Nat.blt d C.N.n=true) (hs:safeC all d ec=true) (hsG:safeG all d G=true) (hl:lookE env d=none)
  (h:T C (.ops all rest::k) env ((d,(G,v))::ec) H):T C (.ops all (o::rest)::k) env ec H :=
 T_op (OpT.valC hg hd hN hs hsG hl (fun _ w ha _ hH _=>evP_spec ha hH hv w) h)
theorem T_vc {p:Prop} (hg:gOf all env ec o=some []) (hv:evV C.S env ec [] o=some (v,p)) (hd:o.dst=some d) (hN:Nat.blt d C.N.n=true) (hs:safeC all d ec=true) (hp:p)
  (h:T C (.ops all rest::k) ((d,v)::env) ec H):T C (.ops all (o::rest)::k) env ec H :=
 T_op (OpT.val hg hd hN hs (fun _ w ha _=>evV_spec ha (Holds.nil _ _) hv hp w) h)
theorem T_vcC {p:Prop} {G:GId} (hg:gOf all env ec o=some G) (hv:evV C.S env ec G o=some (v,p)) (hd:o.dst=some d) (hN:Nat.blt d C.N.n=true) (hs:safeC all d ec=true) (hsG:safeG all d G=true) (hl:lookE env d=none) (hp:GP all env ec G→p)
  (h:T C (.ops all rest::k) env ((d,(G,v))::ec) H):T C (.ops all (o::rest)::k) env ec H :=
 T_op (OpT.valC hg hd hN hs hsG hl (fun _ w ha _ hH hG=>evV_spec ha hH hv (hp hG) w) h)

def RdC (w:World) (b off:Nat) (vs:List Value):Prop:=∀ j u,vs[j]?=some u→w.cell? ⟨b,off+j,none⟩=some u
def mkV (agg:Bool) (vs:List Value):Value:=if agg then .agg vs.toArray else vs.headD undef
theorem RdC.one {w:World} {b off:Nat} {u:Value} (h:w.cell? ⟨b,off,none⟩=some u):RdC w b off [u]:=by
 intro j x hx
 cases j with
 | zero=>simp at hx;subst hx;exact h
 | succ j=>simp at hx
theorem lt_of_cell {w:World} {a:Addr} {u:Value} (h:w.cell? a=some u):a.block<w.heap.size:=World.block_lt_of_cell? w a h
theorem RdC.below {w w':World} {b off:Nat} {vs:List Value} (h:RdC w b off vs) (hb:Below w.heap.size w w'):RdC w' b off vs :=
 fun j u hu=>(hb.cell (lt_of_cell (h j u hu))).trans (h j u hu)
theorem RdC.old {w0 w:World} {H:List HA} {b off:Nat} {vs:List Value} (h:RdC w0 b off vs) (hw:Cls w0 w H):RdC w b off vs:=h.below hw.below
theorem Cls.heap {w0 w:World} {H:List HA} {i b:Nat} {cs:List Value} {t:TypeId} (hw:Cls w0 w H) (hk:H[i]?=some (blk b cs t)):w.heap[b]?=some (.cells cs.toArray t (0,0))∧w0.heap.size≤b:=by
 obtain⟨F,h1,h2,h3⟩:=hw.sep
 have hl:i<H.length:=(List.getElem?_eq_some_iff.1 hk).1
 have:=h1 i _ hk
 have hf:F i b=some (.cells cs.toArray t (0,0)):=by rw [show F i=_ from this];simp [one]
 exact⟨(h2 i b _ hl hf).2,(h2 i b _ hl hf).1⟩
theorem RdC.own {w0 w:World} {H:List HA} {i b off:Nat} {cs vs:List Value} {t:TypeId} (hw:Cls w0 w H) (hk:H[i]?=some (blk b cs t)) (hv:∀ j u,vs[j]?=some u→cs[off+j]?=some u):RdC w b off vs:=by
 intro j u hu
 rw [cell_of_row w b (off+j) cs.toArray t (0,0) (hw.heap hk).1]
 simpa using hv j u hu
class Focus (H:List HA) (b:Nat) (cs:outParam (List Value)) (t:outParam TypeId) (rb:outParam (HA→List HA)):Prop where
 at_:∃ i,H[i]?=some (blk b cs t)∧∀ A,rb A=H.set i A
instance Focus.head (H:List HA) (b:Nat) (cs:List Value) (t:TypeId):Focus (blk b cs t::H) b cs t (fun A=>A::H):=⟨0,rfl,fun _=>rfl⟩
instance Focus.tail (A0:HA) (H:List HA) (b:Nat) (cs:List Value) (t:TypeId) (rb:HA→List HA) [h:Focus H b cs t rb]:Focus (A0::H) b cs t (fun A=>A0::rb A) :=
 ⟨by obtain⟨i,h1,h2⟩:=h.at_;exact⟨i+1,by simpa using h1,fun A=>by simp [h2]⟩⟩

def evLd (S:Sig) (env:Env) (ec:EnvC) (G:GId) (o:Oper):Option (Nat × Nat × Bool × Nat) :=
 match o.op with
 | .load t x=>match S.ty t,evX env ec G x with
  | some ⟨d,n,_,_⟩,some (.pointer (some ⟨b,off,none⟩))=>cond d.plain (some (b,off,d.isAgg,n)) none
  | _,_=>none
 | _=>none
theorem evLd_spec {S:Sig} {N:FK} {all:Array Oper} {env:Env} {ec:EnvC} {G:GId} {o:Oper} {a:Act} (ha:Agrees N all env ec a) (hG:Holds all a G) {b off n:Nat} {agg:Bool}
  (h:evLd S env ec G o=some (b,off,agg,n)) {w:World} {vs:List Value} (hl:vs.length=n) (hc:agg=false→n=1) (hr:RdC w b off vs):(execOp a.eval o).run S.P w = .ok (.value (mkV agg vs)) w:=by
 obtain⟨dst,op,ty,pos,aft,gd⟩:=o
 unfold evLd at h
 dsimp only at h
 split at h
 ·rename_i t x
  split at h
  ·rename_i d n' m z b' off' ht hx
   have hk:=Sig.tyOk ht
   cases hp:d.plain with
   | false=>rw [hp] at h;cases h
   | true =>
    rw [hp] at h
    simp only [cond_true,Option.some.injEq,Prod.mk.injEq] at h
    obtain⟨rfl,rfl,rfl,rfl⟩:=h
    have hia:=hk.isAgg w hp
    have hsz:=hk.sizeOf w
    dsimp only at hia hsz
    simp only [execOp,evX_spec ha hG hx,Instr.loadAt,Instr.sureAddr,loadVar]
    cases hd:d.isAgg with
    | true =>
     rw [hd] at hia
     have hcells:=run_loadCells_list (P:=S.P) w ⟨b',off',none⟩ vs (fun j u hu=>by
      have:=hr j u hu
      unfold Addr.add
      split
      ·rename_i e;subst e;simpa using this
      ·exact this)
     rw [hl] at hcells
     simp [hia,hsz,hcells,mkV]
    | false =>
     rw [hd] at hia
     have h1:=hc hd
     have hv:∃ u,vs=[u]:=by
      match vs,hl with
      | [u],_=>exact⟨u,rfl⟩
      | [],e=>simp at e;omega
      | _::_::_,e=>simp at e;omega
     obtain⟨u,rfl⟩:=hv
     have:=hr 0 u rfl
     simp only [Nat.add_zero] at this
     simp [hia,mkV,this]
  ·cases h
 ·cases h
theorem T_load {b off:Nat} (hg:gOf all env ec o=some []) (hv:evLd C.S env ec [] o=some (b,off,false,1)) (hd:o.dst=some d) (hN:Nat.blt d C.N.n=true) (hs:safeC all d ec=true)
  (hr:∀ w,Cls C.w0 w H→RdC w b off [v]) (h:T C (.ops all rest::k) ((d,v)::env) ec H):T C (.ops all (o::rest)::k) env ec H :=
 T_op (OpT.val hg hd hN hs (fun _ w ha hw=>evLd_spec ha (Holds.nil _ _) hv rfl (fun _=>rfl) (hr w hw)) h)
theorem T_loadC {b off:Nat} {G:GId} (hg:gOf all env ec o=some G) (hv:evLd C.S env ec G o=some (b,off,false,1)) (hd:o.dst=some d) (hN:Nat.blt d C.N.n=true) (hs:safeC all d ec=true) (hsG:safeG all d G=true) (hl:lookE env d=none)
  (hr:GP all env ec G→∀ w,Cls C.w0 w H→RdC w b off [v]) (h:T C (.ops all rest::k) env ((d,(G,v))::ec) H):T C (.ops all (o::rest)::k) env ec H :=
 T_op (OpT.valC hg hd hN hs hsG hl (fun _ w ha hw hH hG=>evLd_spec ha hH hv rfl (fun _=>rfl) (hr hG w hw)) h)
theorem T_loadA {b off n:Nat} {vs:List Value} (hg:gOf all env ec o=some []) (hv:evLd C.S env ec [] o=some (b,off,true,n)) (hd:o.dst=some d) (hN:Nat.blt d C.N.n=true) (hs:safeC all d ec=true)
  (hr:∀ w,Cls C.w0 w H→RdC w b off vs) (hn:vs.length=n) (h:T C (.ops all rest::k) ((d, .agg vs.toArray)::env) ec H):T C (.ops all (o::rest)::k) env ec H :=
 T_op (OpT.val hg hd hN hs (fun _ w ha hw=>evLd_spec ha (Holds.nil _ _) hv hn (fun e=>(by cases e)) (hr w hw)) h)
theorem T_loadAC {b off n:Nat} {vs:List Value} {G:GId} (hg:gOf all env ec o=some G) (hv:evLd C.S env ec G o=some (b,off,true,n)) (hd:o.dst=some d) (hN:Nat.blt d C.N.n=true) (hs:safeC all d ec=true) (hsG:safeG all d G=true) (hl:lookE env d=none)
  (hr:GP all env ec G→∀ w,Cls C.w0 w H→RdC w b off vs) (hn:vs.length=n) (h:T C (.ops all rest::k) env ((d,(G, .agg vs.toArray))::ec) H):T C (.ops all (o::rest)::k) env ec H :=
 T_op (OpT.valC hg hd hN hs hsG hl (fun _ w ha hw hH hG=>evLd_spec ha hH hv hn (fun e=>(by cases e)) (hr hG w hw)) h)
theorem rdOwn {b off:Nat} {cs:List Value} {t:TypeId} {rb:HA→List HA} [hf:Focus H b cs t rb] {vs:List Value} (hv:∀ j u,vs[j]?=some u→cs[off+j]?=some u):∀ w,Cls C.w0 w H→RdC w b off vs :=
 fun _ hw=>by obtain⟨i,h1,_⟩:=hf.at_;exact RdC.own hw h1 hv
theorem rdOwn1 {b off:Nat} {cs:List Value} {t:TypeId} {rb:HA→List HA} [hf:Focus H b cs t rb] {u:Value} (hv:cs[off]?=some u):∀ w,Cls C.w0 w H→RdC w b off [u] :=
 rdOwn fun j x hx=>by
  cases j with
  | zero=>simp at hx;subst hx;exact hv
  | succ j=>simp at hx
theorem rdAll {b:Nat} {cs:List Value} {t:TypeId} {rb:HA→List HA} [hf:Focus H b cs t rb]:∀ w,Cls C.w0 w H→RdC w b 0 cs :=
 rdOwn fun j u hu=>by rw [Nat.zero_add];exact hu
theorem rdOld {b off:Nat} {vs:List Value} (h:RdC C.w0 b off vs):∀ w,Cls C.w0 w H→RdC w b off vs:=fun _ hw=>h.old hw

theorem run_newVar' (P:Program) (w:World) (t:TypeId) (u:Value):(newVar t u).run P w = .ok ⟨w.heap.size,0,none⟩ (w.alloc (.cells u.cells t)):=by
 rfl
theorem OpT.box {Φ:Env→EnvC→List HA→Prop} {t:TypeId} {x:Operand} {u:Value} {cs:List Value} (hg:gOf all env ec o=some []) (ho:o.op = .box t x) (hx:evX env ec [] x=some u) (hcs:u.cells.toList=cs) (hd:o.dst=some d) (hN:Nat.blt d C.N.n=true) (hs:safeC all d ec=true)
  (h:∀ b,Φ ((d, .pointer (some ⟨b,0,none⟩))::env) ec (blk b cs t::H)):OpT C all o env ec H Φ:=by
 refine OpT.eff hg fun a w ha hw=>⟨.pointer (some ⟨w.heap.size,0,none⟩),w.alloc (.cells u.cells t),blk w.heap.size cs t::H,?_,?_,d,hd,hN,hs,h _⟩
 ·unfold execOp
  rw [ho]
  simp only [evX_spec ha (Holds.nil _ _) hx,Instr.box]
  simp [run_newVar']
 ·exact hw.alloc _ (by unfold blk;rw [← hcs])
theorem OpT.alloc {Φ:Env→EnvC→List HA→Prop} {t:TypeId} {ty:TyI} {cs:List Value} (hg:gOf all env ec o=some []) (ho:o.op = .alloc t) (ht:C.S.ty t=some ty) (hcs:ty.zero.cells.toList=cs) (hd:o.dst=some d) (hN:Nat.blt d C.N.n=true) (hs:safeC all d ec=true)
  (h:∀ b,Φ ((d, .pointer (some ⟨b,0,none⟩))::env) ec (blk b cs t::H)):OpT C all o env ec H Φ:=by
 refine OpT.eff hg fun a w ha hw=>⟨.pointer (some ⟨w.heap.size,0,none⟩),w.alloc (.cells ty.zero.cells t),blk w.heap.size cs t::H,?_,?_,d,hd,hN,hs,h _⟩
 ·unfold execOp
  rw [ho]
  simp only [Instr.alloc]
  simp [(Sig.tyOk ht).zeroValue w,run_newVar']
 ·exact hw.alloc _ (by unfold blk;rw [← hcs])

def setL (cs:List Value) (off:Nat):List Value→List Value
 | []=>cs
 | u::us=>setL (cs.set off u) (off+1) us
theorem setL_length:∀ (us cs:List Value) (off:Nat),(setL cs off us).length=cs.length
 | [],_,_=>rfl
 | u::us,cs,off=>by simp [setL,setL_length us]
def oneCells:List Value→Bool
 | []=>true
 | u::us=>u.oneCell' && oneCells us
theorem run_storeL (P:Program) (b:Nat) (t:TypeId):∀ (us:List Value) (i off:Nat) (cs:List Value) (w:World),w.heap[b]?=some (.cells cs.toArray t (0,0))→off+i+us.length≤cs.length→oneCells us=true →
  ∃ w',(storeCells ⟨b,off,none⟩ us i).run P w = .ok () w'∧w'.heap[b]?=some (.cells (setL cs (off+i) us).toArray t (0,0))∧(∀ c,c≠b→w'.heap[c]?=w.heap[c]?)∧w'.os=w.os∧w'.tape=w.tape∧w'.output=w.output∧w'.heap.size=w.heap.size
 | [],i,off,cs,w,hb,_,_=>⟨w,rfl,by simpa [setL] using hb,fun _ _=>rfl,rfl,rfl,rfl,rfl⟩
 | u::us,i,off,cs,w,hb,hl,h1=>by
  simp only [List.length_cons] at hl
  simp only [oneCells,Bool.and_eq_true] at h1
  have hcell:w.cell? ⟨b,off+i,none⟩=some (cs[off+i]'(by omega)):=by
   rw [cell_of_row w b (off+i) cs.toArray t (0,0) hb]
   simp [show off+i<cs.length from by omega]
  have hfz:w.frozen? ⟨b,off+i,none⟩=false:=by simp [World.frozen?,hb]
  have hadd:(⟨b,off,none⟩:Addr).add i=⟨b,off+i,none⟩:=by unfold Addr.add;split <;> simp_all
  have hset:(w.setCell ⟨b,off+i,none⟩ u).heap[b]?=some (.cells (cs.set (off+i) u).toArray t (0,0)):=by
   simp [World.setCell,Array.getElem?_modify,hb]
  obtain⟨w',g1,g2,g3,g4,g5,g6,g7⟩:=run_storeL P b t us (i+1) off (cs.set (off+i) u) (w.setCell ⟨b,off+i,none⟩ u) hset (by simp;omega) h1.2
  refine ⟨w',?_,?_,fun c hc=>(g3 c hc).trans (Below.heap_setCell w _ u c hc),g4,g5,g6,by rw [g7];simp [World.setCell]⟩
  ·simp only [storeCells,hadd]
   rw [Sem.run_bind,run_store P w _ u _ h1.1]
   simp only [hcell,hfz]
   exact g1
  ·simpa [setL,Nat.add_assoc] using g2
def evSt (S:Sig) (env:Env) (ec:EnvC) (o:Oper):Option (Nat × Nat × Nat × Value) :=
 match o.op with
 | .store t x y=>match S.ty t,evX env ec [] x,evX env ec [] y with
  | some ⟨_,n,_,_⟩,some (.pointer (some ⟨b,off,none⟩)),some v=>some (b,off,n,v)
  | _,_,_=>none
 | _=>none
theorem OpT.storeA {Φ:Env→EnvC→List HA→Prop} {b off n:Nat} {u:Value} {us cs:List Value} {t:TypeId} {rb:HA→List HA} (hg:gOf all env ec o=some []) (hd:o.dst=none) (he:evSt C.S env ec o=some (b,off,n,u)) [hf:Focus H b cs t rb]
  (hus:u.cells.toList=us) (hn:us.length=n) (h1:oneCells us=true) (hl:off+us.length≤cs.length)
  (h:Φ env ec (rb (blk b (setL cs off us) t))):OpT C all o env ec H Φ:=by
 obtain⟨i,hi,hrb⟩:=hf.at_
 refine OpT.skip hg hd fun a w ha hw=>?_
 obtain⟨hb,hbn⟩:=hw.heap hi
 obtain⟨w',g1,g2,g3,g4,g5,g6,g7⟩:=run_storeL C.S.P b t us 0 off cs w hb (by omega) h1
 refine ⟨w',_,?_,⟨?_,?_⟩,h⟩
 ·obtain⟨dst,op,ty,pos,aft,gd⟩:=o
  unfold evSt at he
  dsimp only at he
  split at he
  ·rename_i t' x y
   split at he
   ·rename_i d0 n' m z b' off' v' ht hx hy
    cases he
    have hsz:=(Sig.tyOk ht).sizeOf w
    dsimp only at hsz
    have hsize:u.cells.size=n:=by rw [← hn, ← hus];simp
    simp only [execOp,evX_spec ha (Holds.nil _ _) hx,evX_spec ha (Holds.nil _ _) hy,Instr.storeAt,Instr.sureAddr,storeVar]
    simp [hsz,hsize,hus,g1]
   ·cases he
  ·cases he
 ·exact hw.below.trans ⟨g4,g5,g6,by omega,fun c hc=>g3 c (by omega)⟩
 ·rw [hrb]
  exact hw.sep.turn hi (fun f hf=>⟨_,hf⟩) (fun c hc _=>g3 c hc) g2 (by unfold blk;simp)
theorem OpT.store {Φ:Env→EnvC→List HA→Prop} {b off:Nat} {u:Value} {cs:List Value} {t:TypeId} {rb:HA→List HA} (hg:gOf all env ec o=some []) (hd:o.dst=none) (he:evSt C.S env ec o=some (b,off,1,u)) [hf:Focus H b cs t rb]
  (h1:u.oneCell'=true) (hl:off<cs.length)
  (h:Φ env ec (rb (blk b (cs.set off u) t))):OpT C all o env ec H Φ:=by
 have hc:u.cells.toList=[u]:=by cases u <;> first|rfl|(simp [Value.oneCell'] at h1)
 exact OpT.storeA (us:=[u]) hg hd he hc rfl (by simp [oneCells,h1]) (by simp;omega) h

def evCall (env:Env) (ec:EnvC) (G:GId) (o:Oper):Option (FuncId × List Value) :=
 match o.op with
 | .call { callee := .value x,args:=xs,argTypes:=_ }=>match evX env ec G x,evL env ec G xs.toList with
  | some (.func (.func f) fs cs),some vs=>some (f,fs.toList++(vs++cs.toList))
  | _,_=>none
 | _=>none
theorem evCall_spec {P:Program} {N:FK} {all:Array Oper} {env:Env} {ec:EnvC} {G:GId} {o:Oper} {a:Act} (ha:Agrees N all env ec a) (hG:Holds all a G) {f:FuncId} {args:List Value}
  (h:evCall env ec G o=some (f,args)) (he:Enters P f) (w:World):(execOp a.eval o).run P w = .ok (.enter f args.toArray) w:=by
 obtain⟨dst,op,ty,pos,aft,gd⟩:=o
 unfold evCall at h
 dsimp only at h
 split at h
 ·rename_i x xs ts
  split at h
  ·rename_i g fs cs vs hx hvs
   cases h
   have e1:=evL_spec ha hG hvs
   have e2:xs.map a.eval=vs.toArray:=Array.ext' (by rw [Array.toList_map];exact e1)
   have e3:(fs.toList++(vs++cs.toList)).toArray=fs++vs.toArray++cs:=Array.ext' (by simp)
   simp only [execOp,resolve,e2,evX_spec ha hG hx,Deferred.ofValue]
   rw [e3]
   simpa [invoke] using he (fs++vs.toArray++cs) w
  ·cases h
 ·cases h
theorem OpT.call {f:FuncId} {args:List Value} {Ψ:Value→List HA→Prop} {Φ:Env→EnvC→List HA→Prop} (hg:gOf all env ec o=some []) (he:evCall env ec [] o=some (f,args)) (hd:o.dst=some d) (hN:Nat.blt d C.N.n=true) (hs:safeC all d ec=true)
  (hc:∀ w,Cls C.w0 w H→Spec C.S.P f args w Ψ) (h:∀ u A,Ψ u A→Φ ((d,u)::env) ec (A++H)):OpT C all o env ec H Φ:=by
 intro a w ha hw K Q hK
 have hwn:=(wanted_iff ha hg).2 (Holds.nil _ _)
 refine ⟨fun _=>?_,fun hn=>(by rw [hwn] at hn;cases hn)⟩
 obtain⟨hen,hcall⟩:=hc w hw
 unfold Oper.wpIn
 refine ⟨about_Fr o _ w _,?_⟩
 rw [Oper.semAt_eq _ _ _ (gOf_def hg)]
 rw [evCall_spec ha (Holds.nil _ _) he hen w]
 refine ⟨fun h=>(by cases h),callsIn_Fr (Calls.mono hcall ?_)⟩
 rintro e w' ⟨u,A,rfl,hΨ,hb,hsep⟩
 exact hK _ _ _ _ _ (h u A hΨ) (by rw [hd];exact ha.put hN hs) (hw.call hb hsep)
theorem OpT.callC {f:FuncId} {args:List Value} {G:GId} {Φ:Env→EnvC→List HA→Prop} (hg:gOf all env ec o=some G) (he:evCall env ec G o=some (f,args)) (hd:o.dst=some d) (hN:Nat.blt d C.N.n=true) (hs:safeC all d ec=true) (hsG:safeG all d G=true) (hl:lookE env d=none)
  (hc:GP all env ec G→∀ w,Cls C.w0 w H→Spec C.S.P f args w (fun u A=>u=v∧A=[])) (h:Φ env ((d,(G,v))::ec) H):OpT C all o env ec H Φ:=by
 intro a w ha hw K Q hK
 refine ⟨fun hwn=>?_,fun hn=>?_⟩
 ·have hH:=(wanted_iff ha hg).1 hwn
  obtain⟨hen,hcall⟩:=hc (hH.gp ha) w hw
  unfold Oper.wpIn
  refine ⟨about_Fr o _ w _,?_⟩
  rw [Oper.semAt_eq _ _ _ (gOf_def hg)]
  rw [evCall_spec ha hH he hen w]
  refine ⟨fun h=>(by cases h),callsIn_Fr (Calls.mono hcall ?_)⟩
  rintro e w' ⟨u,A,rfl,⟨rfl,rfl⟩,hb,hsep⟩
  refine hK _ _ _ _ _ h (by rw [hd];exact ha.putC hN hs hsG hl (fun _=>rfl) (fun hh=>absurd hH hh)) ?_
  have:=hw.call hb hsep
  simpa using this
 ·have hH:¬ Holds all a G:=fun hh=>by rw [(wanted_iff ha hg).2 hh] at hn;cases hn
  rw [hd]
  exact hK _ _ _ _ _ h (ha.putC hN hs hsG hl (fun hh=>absurd hh hH) (fun _=>rfl)) hw
theorem T_call {f:FuncId} {args:List Value} (hg:gOf all env ec o=some []) (he:evCall env ec [] o=some (f,args)) (hd:o.dst=some d) (hN:Nat.blt d C.N.n=true) (hs:safeC all d ec=true)
  (hc:∀ w,Cls C.w0 w H→Spec C.S.P f args w (fun u A=>u=v∧A=[])) (h:T C (.ops all rest::k) ((d,v)::env) ec H):T C (.ops all (o::rest)::k) env ec H :=
 T_op (OpT.call hg he hd hN hs hc (by rintro u A ⟨rfl,rfl⟩;exact h))
theorem T_callE {f:FuncId} {args:List Value} {α:Type} {p:α→Prop} {val:α→Value} {own:α→HA} (hg:gOf all env ec o=some []) (he:evCall env ec [] o=some (f,args)) (hd:o.dst=some d) (hN:Nat.blt d C.N.n=true) (hs:safeC all d ec=true)
  (hc:∀ w,Cls C.w0 w H→Spec C.S.P f args w (fun u A=>∃ x,p x∧u=val x∧A=[own x])) (h:∀ x,p x→T C (.ops all rest::k) ((d,val x)::env) ec (own x::H)):T C (.ops all (o::rest)::k) env ec H :=
 T_op (OpT.call hg he hd hN hs hc (by rintro u A ⟨x,hp,rfl,rfl⟩;exact h x hp))
theorem T_callC {f:FuncId} {args:List Value} {G:GId} (hg:gOf all env ec o=some G) (he:evCall env ec G o=some (f,args)) (hd:o.dst=some d) (hN:Nat.blt d C.N.n=true) (hs:safeC all d ec=true) (hsG:safeG all d G=true) (hl:lookE env d=none)
  (hc:GP all env ec G→∀ w,Cls C.w0 w H→Spec C.S.P f args w (fun u A=>u=v∧A=[])) (h:T C (.ops all rest::k) env ((d,(G,v))::ec) H):T C (.ops all (o::rest)::k) env ec H :=
 T_op (OpT.callC hg he hd hN hs hsG hl hc h)

def resV:List Value→Value
 | [v]=>v
 | vs => .tuple vs.toArray
def evRes (env:Env):List ResultVar→Option (List Value)
 | []=>some []
 | .tmp t::l=>match lookE env t with
  | some v=>match evRes env l with
   | some vs=>some (v::vs)
   | none=>none
  | none=>none
 | _=>none
def resF (tmps:Array Value):ResultVar→Sem Value
 | .tmp t=>pure (tmps.getD t undef)
 | .cell a t=>do loadVar t (← asAddr (tmps.getD a undef))
theorem run_resF {P:Program} {w:World} (tmps:Array Value):∀ {rs:List ResultVar} {vs:List Value},rs.length=vs.length→(∀ (i:Nat) r v,rs[i]?=some r→vs[i]?=some v→(resF tmps r).run P w = .ok v w)→(rs.mapM (resF tmps)).run P w = .ok vs w
 | [],[],_,_=>by simp
 | r::rs,v::vs,hl,h=>by
  have h0:=h 0 r v rfl rfl
  have ih:=run_resF tmps (rs:=rs) (vs:=vs) (by simpa using hl) (fun i r v h1 h2=>h (i+1) r v (by simpa using h1) (by simpa using h2))
  simp [List.mapM_cons,h0,ih]
theorem results_eq (fn:Func) (tmps:Array Value):results fn tmps=(do let vs ← fn.results.mapM (resF tmps);pure (if h:vs.size=1 then vs[0] else .tuple vs)):=by
 unfold results
 congr 1
theorem run_results {P:Program} {fn:Func} {tmps:Array Value} {w:World} {vs:List Value} (hl:fn.results.toList.length=vs.length)
  (h:∀ (i:Nat) r v,fn.results.toList[i]?=some r→vs[i]?=some v→(resF tmps r).run P w = .ok v w) :
  (results fn tmps).run P w = .ok (resV vs) w:=by
 rw [results_eq,Array.mapM_eq_mapM_toList]
 have h2:=run_resF (P:=P) (w:=w) tmps hl h
 have h3:(List.toArray <$> List.mapM (resF tmps) fn.results.toList:Sem (Array Value))=(do let l ← List.mapM (resF tmps) fn.results.toList;pure l.toArray):=map_eq_pure_bind _ _
 rw [h3]
 simp only [Sem.run_bind,h2,Result.andThen_ok,Sem.run_pure]
 congr 1
 match vs with
 | []=>rfl
 | [v]=>rfl
 | v::u::l=>simp [resV]
theorem evRes_spec {P:Program} {N:FK} {all:Array Oper} {a:Act} {w:World} (ha:Agrees N all env ec a):∀ {rs:List ResultVar} {vs:List Value},evRes env rs=some vs→rs.length=vs.length∧∀ (i:Nat) r v,rs[i]?=some r→vs[i]?=some v→(resF a.tmps r).run P w = .ok v w
 | [],vs,h=>by cases h;exact⟨rfl,fun i r v h=>by simp at h⟩
 | r::rs,vs,h=>by
  unfold evRes at h
  split at h
  ·cases ‹_::_=[]›
  ·rename_i t l he
   cases he
   split at h
   ·rename_i v hv
    split at h
    ·rename_i us hus
     cases h
     obtain⟨h1,h2⟩:=evRes_spec ha hus
     refine ⟨by simp [h1],fun i r v' hr hv'=>?_⟩
     cases i with
     | zero =>
      simp at hr hv'
      subst hr;subst hv'
      simp only [resF]
      rw [ha.at_ t _ hv]
      rfl
     | succ i=>exact h2 i r v' (by simpa using hr) (by simpa using hv')
    ·cases h
   ·cases h
  ·cases h
def RF (P:Program) (w0:World) (fn:Func) (Φ:Value→List HA→Prop):Act→World→Prop:=fun a w=>LeavesInM (Fr none) 0 P fn a.tmps (Ret w0 Φ) a.defers .returning w
@[reducible] def FC (S:Sig) (m:Nat) (ds:List Deferred) (w0:World) (fn:Func) (Φ:Value→List HA→Prop):Cx:=⟨S,⟨m,ds⟩,w0,none,RF S.P w0 fn Φ,RF S.P w0 fn Φ,fun _ _ _=>False⟩
section
variable {S:Sig} {m:Nat} {w0:World} {fn:Func} {Ψ:Value→List HA→Prop}
theorem rf_of {a:Act} {w:World} {u:Value} (hd:a.defers=[]) (hr:(results fn a.tmps).run S.P w = .ok u w) (h:Ret w0 Ψ (.returned u) w):RF S.P w0 fn Ψ a w:=by
 unfold RF
 rw [hd]
 exact⟨u,hr,h⟩
theorem rf_V {vs:List Value} (A:List HA) (hv:evRes env fn.results.toList=some vs) (hl:Hle H A) (h:Ψ (resV vs) A):∀ a w,Agrees ⟨m,[]⟩ #[] env [] a→Cls w0 w H→RF S.P w0 fn Ψ a w:=fun _ w ha hw=>by
 obtain⟨h1,h2⟩:=evRes_spec (P:=S.P) (w:=w) ha hv
 exact rf_of ha.defers (run_results h1 h2) ⟨_,A,rfl,h,hw.below,hl _ _ hw.sep⟩
theorem T_retV {vs:List Value} (A:List HA) (hv:evRes env fn.results.toList=some vs) (hl:Hle H A) (h:Ψ (resV vs) A):T (FC S m [] w0 fn Ψ) (.code .ret::k) env ec H:=T_ret (rf_V A hv hl h)
theorem T_fallV {vs:List Value} (A:List HA) (hv:evRes env fn.results.toList=some vs) (hl:Hle H A) (h:Ψ (resV vs) A):T (FC S m [] w0 fn Ψ) [] env ec H:=T_fall (rf_V A hv hl h)
end
def ResAt (C:Cx) (env:Env) (H:List HA):List ResultVar→List Value→Prop
 | [],[]=>True
 | .tmp t::l,v::vs=>lookE env t=some v∧ResAt C env H l vs
 | .cell a t::l,v::vs=>(∃ b ty us,lookE env a=some (.pointer (some ⟨b,0,none⟩))∧C.S.ty t=some ty∧ty.d.plain=true∧us.length=ty.size∧(ty.d.isAgg=false→ty.size=1)∧v=mkV ty.d.isAgg us∧∀ w,Cls C.w0 w H→RdC w b 0 us)∧ResAt C env H l vs
 | _,_=>False
theorem ResAt.spec {a:Act} {w:World} (ha:Agrees C.N all env ec a) (hw:Cls C.w0 w H):∀ {rs:List ResultVar} {vs:List Value},ResAt C env H rs vs→rs.length=vs.length∧∀ (i:Nat) r v,rs[i]?=some r→vs[i]?=some v→(resF a.tmps r).run C.S.P w = .ok v w
 | [],[],_=>⟨rfl,fun i r v h=>by simp at h⟩
 | .tmp t::l,v::vs,h=>by
  obtain⟨h1,h2⟩:=ResAt.spec ha hw h.2
  refine ⟨by simp [h1],fun i r v' hr hv'=>?_⟩
  cases i with
  | zero =>
   simp at hr hv'
   subst hr;subst hv'
   simp only [resF]
   rw [ha.at_ t _ h.1]
   rfl
  | succ i=>exact h2 i r v' (by simpa using hr) (by simpa using hv')
 | .cell s t::l,v::vs,h=>by
  obtain⟨⟨b,ty,us,g1,g2,g3,g4,g5,g6,g7⟩,h⟩:=h
  obtain⟨h1,h2⟩:=ResAt.spec ha hw h
  refine ⟨by simp [h1],fun i r v' hr hv'=>?_⟩
  cases i with
  | zero =>
   simp at hr hv'
   subst hr;subst hv'
   have hk:=Sig.tyOk g2
   have hia:=hk.isAgg w g3
   have hsz:=hk.sizeOf w
   simp only [resF]
   rw [ha.at_ s _ g1]
   simp only [asAddr,loadVar]
   have hr':=g7 w hw
   cases hd:ty.d.isAgg with
   | true =>
    rw [hd] at hia g6
    have hcells:=run_loadCells_list (P:=C.S.P) w ⟨b,0,none⟩ us (fun j u hu=>by
     have:=hr' j u hu
     unfold Addr.add
     split
     ·rename_i e;subst e;simpa using this
     ·simpa using this)
    rw [g4] at hcells
    simp [hia,hsz,hcells,mkV,g6]
   | false =>
    rw [hd] at hia g6
    have hv:∃ u,us=[u]:=by
     have:=g5 hd
     match us,g4 with
     | [u],_=>exact⟨u,rfl⟩
     | [],e=>simp at e;omega
     | _::_::_,e=>simp at e;omega
    obtain⟨u,rfl⟩:=hv
    have:=hr' 0 u rfl
    simp only [Nat.add_zero] at this
    simp [hia,mkV,this,g6]
  | succ i=>exact h2 i r v' (by simpa using hr) (by simpa using hv')
section
variable {S:Sig} {m:Nat} {ds:List Deferred} {w0:World} {fn:Func} {Ψ:Value→List HA→Prop}
theorem rf_M {vs:List Value} (A:List HA) (hv:ResAt (FC S m ds w0 fn Ψ) env H fn.results.toList vs) (hl:Hle H A) (h:Ψ (resV vs) A):∀ a w,Agrees ⟨m,[]⟩ #[] env [] a→Cls w0 w H→RF S.P w0 fn Ψ a w:=fun a w ha hw=>by
 have ha':Agrees (FC S m ds w0 fn Ψ).N #[] env [] { a with defers:=ds }:=⟨rfl,ha.size,ha.at_,ha.yes,ha.no⟩
 obtain⟨h1,h2⟩:=ResAt.spec (all := #[]) ha' hw hv
 exact rf_of ha.defers (run_results h1 h2) ⟨_,A,rfl,h,hw.below,hl _ _ hw.sep⟩
theorem T_retM {vs:List Value} (A:List HA) (hv:ResAt (FC S m [] w0 fn Ψ) env H fn.results.toList vs) (hl:Hle H A) (h:Ψ (resV vs) A):T (FC S m [] w0 fn Ψ) (.code .ret::k) env ec H:=T_ret (rf_M A hv hl h)
end

def zipE:Nat→List Value→Env
 | _,[]=>[]
 | n,v::l=>(n,v)::zipE (n+1) l
theorem zipE_spec:∀ (l:List Value) (n s:Nat) (v:Value),lookE (zipE n l) s=some v→n≤s∧l[s - n]?=some v
 | u::l,n,s,v,h=>by
  rcases lookE_cons h with⟨rfl,rfl⟩|⟨hne,h⟩
  ·simp
  ·obtain⟨h1,h2⟩:=zipE_spec l (n+1) s v h
   refine ⟨by omega,?_⟩
   rw [show s - n=(s - (n+1))+1 by omega]
   simpa using h2
end
theorem spec_of (S : Sig) {f : FuncId} {fn : Func} {c : Code} {args : List Value} {w : World} {Φ : Value → List HA → Prop} (hf : S.P.funcs[f]? = some fn) (hn : (fn.name == "runtime.NumGoroutine") = false) (hb : fn.body = some c)
  (hlen:Nat.ble args.length fn.ntmps=true) (h:T (FC S fn.ntmps [] w fn Φ) (nf 60 [.code c]) (zipE 0 args) [] []):Spec S.P f args w Φ:=by
 refine ⟨enters_of hf hn hb,callsIn_wide.1 (callsIn_of_wp_marks (n:=0) hf hb trivial ?_)⟩
 have hlen':args.length≤fn.ntmps:=Nat.le_of_ble_eq_true hlen
 have ha:Agrees ⟨fn.ntmps,[]⟩ (allOf (nf 60 [.code c])) (zipE 0 args) [] { tmps:=args.toArray++Array.replicate (fn.ntmps - args.toArray.size) undef,defers:=[] }:=by
  refine ⟨rfl,by simp;omega,fun s v hv=>?_,fun _ _ _ h=>(by cases h),fun _ _ _ h=>(by cases h)⟩
  obtain⟨_,h2⟩:=zipE_spec args 0 s v hv
  simp only [Nat.sub_zero] at h2
  have hs:s<args.length:=(List.getElem?_eq_some_iff.1 h2).1
  simp [Array.getD_eq_getD_getElem?,Array.getElem?_append,hs]
  rw [List.getElem?_eq_getElem hs] at h2
  simpa using h2
 have:=nf_spec (h _ _ ha (Cls.start w))
 simp only [sem] at this
 refine wpIn_mono this fun e a w' q=>?_
 cases e <;> first|exact q|exact q.elim
theorem Spec.mono {P:Program} {f:FuncId} {args:List Value} {w:World} {Φ Ψ:Value→List HA→Prop} (h:Spec P f args w Φ) (hm:∀ v A,Φ v A→Ψ v A):Spec P f args w Ψ :=
 ⟨h.1,h.2.mono fun _ _ ⟨v,A,h1,h2,h3,h4⟩=>⟨v,A,h1,hm v A h2,h3,h4⟩⟩
end Go.Proofs.YtblnhdnogjijiaaGreatDoor
namespace Go.Proofs.YtblnhdnogjijiaaGreatDoor
open Go.RowKit Go.Shelf

theorem Sep.swap {n0:Nat} {w w':World} {H:List HA} {k:Nat} {A A':HA} (h:Sep n0 w H) (hk:H[k]?=some A)
  (step:∀ f,A f→(∀ b o,f b=some o→n0≤b∧w.heap[b]?=some o)→∃ f',A' f'∧(∀ b o,f' b=some o→n0≤b∧w'.heap[b]?=some o∧(f b≠none∨w.heap.size≤b)) ∧
   (∀ c,c<w.heap.size→f c=none→w'.heap[c]?=w.heap[c]?)):Sep n0 w' (H.set k A'):=by
 obtain⟨F,h1,h2,h3⟩:=h
 have hkl:k<H.length:=(List.getElem?_eq_some_iff.1 hk).1
 obtain⟨f',g1,g2,g3⟩:=step (F k) (h1 k A hk) (fun b o hf=>h2 k b o hkl hf)
 have apart:∀ j b,j<H.length→j≠k→f' b=none∨F j b=none:=by
  intro j b hj hne
  cases hf:f' b with
  | none=>exact .inl rfl
  | some o =>
   right
   rcases (g2 b o hf).2.2 with h|h
   ·exact (h3 j k b hj hkl hne).resolve_right h
   ·cases hg:F j b with
    | none=>rfl
    | some o'=>have:=lt_of_heap (h2 j b o' hj hg).2;omega
 refine ⟨fun i=>if i=k then f' else F i,fun i B hi=>?_,fun i c o' hi hf=>?_,fun i j c hi hj hne=>?_⟩
 ·dsimp only
  by_cases e:i=k
  ·subst e;rw [if_pos rfl];rw [List.getElem?_set_self hkl] at hi;injection hi with hi;subst hi;exact g1
  ·rw [if_neg e];rw [List.getElem?_set_ne (Ne.symm e)] at hi;exact h1 i B hi
 ·dsimp only at hf
  rw [List.length_set] at hi
  by_cases e:i=k
  ·subst e;rw [if_pos rfl] at hf;exact⟨(g2 c o' hf).1,(g2 c o' hf).2.1⟩
  ·rw [if_neg e] at hf
   have:=h2 i c o' hi hf
   refine ⟨this.1,(g3 c (lt_of_heap this.2) ?_).trans this.2⟩
   rcases h3 i k c hi hkl e with h|h
   ·rw [hf] at h;cases h
   ·exact h
 ·rw [List.length_set] at hi hj
  dsimp only
  by_cases e:i=k
  ·subst e;rw [if_pos rfl,if_neg (Ne.symm hne)];exact apart j c hj (Ne.symm hne)
  ·rw [if_neg e]
   by_cases e2:j=k
   ·subst e2;rw [if_pos rfl];exact (apart i c hi e).symm
   ·rw [if_neg e2];exact h3 i j c hi hj hne

def row (e:TypeId) (sz:Nat) (A:Option Addr) (cap n:Nat) (xs:List Value):HA:=fun f =>
 xs.length=n * sz∧((A=none∧cap=0∧n=0∧f=fun _=>none) ∨
  ∃ g cur,A=some ⟨g,0,none⟩∧f=one g (.cells cur e (0,0))∧n≤cap∧cap≤maxLen∧cur.size=cap * sz∧cur.toList.take (n * sz)=xs)
class FocusR (H:List HA) (A:Option Addr) (e sz cap n:outParam Nat) (xs:outParam (List Value)) (rb:outParam (HA→List HA)):Prop where
 at_:∃ i,H[i]?=some (row e sz A cap n xs)∧∀ B,rb B=H.set i B
instance FocusR.head (H:List HA) (A:Option Addr) (e sz cap n:Nat) (xs:List Value):FocusR (row e sz A cap n xs::H) A e sz cap n xs (fun B=>B::H):=⟨0,rfl,fun _=>rfl⟩
instance FocusR.tail (A0:HA) (H:List HA) (A:Option Addr) (e sz cap n:Nat) (xs:List Value) (rb:HA→List HA) [h:FocusR H A e sz cap n xs rb]:FocusR (A0::H) A e sz cap n xs (fun B=>A0::rb B) :=
 ⟨by obtain⟨i,h1,h2⟩:=h.at_;exact⟨i+1,by simpa using h1,fun B=>by simp [h2]⟩⟩
theorem row.own {n0:Nat} {w:World} {f:Frag} {e:TypeId} {sz cap n:Nat} {A:Option Addr} {xs:List Value} (h:row e sz A cap n xs f) (hf:∀ b o,f b=some o→n0≤b∧w.heap[b]?=some o) :
  w.ownsRow n0 e sz (.slice A n cap) n xs:=by
 obtain⟨h1,h2⟩:=h
 refine ⟨h1,?_⟩
 rcases h2 with⟨rfl,rfl,rfl,_⟩|⟨g,cur,rfl,rfl,h3,h4,h5,h6⟩
 ·exact .inl ⟨rfl,rfl⟩
 ·have:=hf g (.cells cur e (0,0)) (by simp [one])
  exact .inr ⟨g,cap,cur,rfl,this.1,this.2,h3,h4,h5,h6⟩
theorem row.of_own {n0:Nat} {w:World} {e:TypeId} {sz n:Nat} {v:Value} {xs:List Value} (h:w.ownsRow n0 e sz v n xs) :
  ∃ A cap,v = .slice A n cap∧∃ f,row e sz A cap n xs f∧(∀ b o,f b=some o→n0≤b∧w.heap[b]?=some o∧v.ownBlock=some b):=by
 obtain⟨h1,h2⟩:=h
 rcases h2 with⟨rfl,rfl⟩|⟨g,cap,cur,rfl,h3,h4,h5,h6,h7,h8⟩
 ·exact⟨none,0,rfl,fun _=>none,⟨h1, .inl ⟨rfl,rfl,rfl,rfl⟩⟩,fun b o h=>by cases h⟩
 ·refine ⟨some ⟨g,0,none⟩,cap,rfl,one g (.cells cur e (0,0)),⟨h1, .inr ⟨g,cur,rfl,rfl,h5,h6,h7,h8⟩⟩,fun b o h=>?_⟩
  simp only [one] at h
  split at h
  ·rename_i e;subst e;injection h with h;subst h;exact⟨h3,h4,rfl⟩
  ·cases h

def Src (w:World) (sz:Nat) (A:Option Addr) (m:Nat) (news:List Value):Prop:=news.length=m * sz∧(0<m→isAt A∧RdC w (bk A) (ofs A) news)
def evApp (S:Sig) (env:Env) (ec:EnvC) (o:Oper):Option (Option Addr × Nat × Nat × Option Addr × Nat × TypeId) :=
 match o.op with
 | .call { callee := .builtin .append,args:=xs,argTypes:=ts }=>match evL env ec [] xs.toList,ts.toList with
  | some [.slice A n c, .slice B m _],[t,u]=>match S.ty t with
   | some ⟨.slice e,_,_,_⟩=>cond (Nat.beq t u) (some (A,n,c,B,m,e)) none
   | _=>none
  | _,_=>none
 | _=>none
theorem run_append_nil (P:Program) (w:World) (base:Nat) (t ty e:TypeId) (i:TypeInfo) (size:Nat) (ht:P.underlying t=some (.slice e)) (hi:P.info? e=some i)
  (v:Value) (n:Nat) (xs:List Value) (hown:w.ownsRow base e size v n xs) (c:Nat):(Builtin.append_ #[t,t] ty #[v, .slice none 0 c]).run P w = .ok v w:=by
 rcases hown.2 with⟨rfl,rfl⟩|⟨g,cap,cur,rfl,_,_,hnc,_⟩
 ·simp [Builtin.append_,run_underlying ht,sizeOf,typeInfo,hi,Builtin.lenOf,Builtin.firstCells]
 ·simp [Builtin.append_,run_underlying ht,sizeOf,typeInfo,hi,Builtin.lenOf,Builtin.firstCells,hnc,storeCells]
section
variable {C:Cx} {all:Array Oper} {o:Oper} {env:Env} {ec:EnvC} {H:List HA} {d:Nat} {Φ:Env→EnvC→List HA→Prop}
theorem OpT.append {A B:Option Addr} {n c m:Nat} {e:TypeId} {ty:TyI} {sz cap:Nat} {xs news:List Value} {rb:HA→List HA} (hg:gOf all env ec o=some []) (he:evApp C.S env ec o=some (A,n,c,B,m,e)) (hd:o.dst=some d) (hN:Nat.blt d C.N.n=true) (hs:safeC all d ec=true)
  [hf:FocusR H A e sz cap n xs rb] (hcap:c=cap) (ht:C.S.ty e=some ty) (hsz:Nat.beq ty.size sz=true) (hzs:Nat.beq ty.zero.cells.size sz=true) (hpos:Nat.blt 0 sz=true)
  (hsrc:∀ w,Cls C.w0 w H→Src w sz B m news) (h1:oneCells news=true) (hb:(n+m) * ty.bytes≤140737488355328) (hb2:n+m≤9223372036854775807)
  (h:∀ A' cap',(0<n+m→∃ g,A'=some ⟨g,0,none⟩)→Φ ((d, .slice A' (n+m) cap')::env) ec (rb (row e sz A' cap' (n+m) (xs++news)))):OpT C all o env ec H Φ:=by
 subst hcap
 obtain⟨i,hi,hrb⟩:=hf.at_
 have hsz':ty.size=sz:=Nat.eq_of_beq_eq_true hsz
 have hzs':ty.zero.cells.size=sz:=Nat.eq_of_beq_eq_true hzs
 have hpos':0<sz:=by rw [Nat.blt_eq] at hpos;exact hpos
 obtain⟨x,hx,hx1,hx2,hx3⟩:=(Sig.tyOk ht).info'
 refine OpT.eff hg fun a w ha hw=>?_
 obtain⟨F,f1,f2,f3⟩:=hw.sep
 have hil:i<H.length:=(List.getElem?_eq_some_iff.1 hi).1
 have hown:=(f1 i _ hi).own (w:=w) (fun b o hf=>f2 i b o hil hf)
 have hone:∀ u∈news,u.oneCell'=true:=by
  clear hsrc h hf hi hrb f1 hown
  induction news with
  | nil=>intro u hu;cases hu
  | cons y l ih =>
   simp only [oneCells,Bool.and_eq_true] at h1
   intro u hu
   cases hu with
   | head=>exact h1.1
   | tail _ hu=>exact ih h1.2 u hu
 obtain⟨hl,hat⟩:=hsrc w hw
 have hrun:∀ t ty0,C.S.P.underlying t=some (.slice e)→∀ cc,∃ v' w',(Builtin.append_ #[t,t] ty0 #[.slice A n c, .slice B m cc]).run C.S.P w = .ok v' w'∧w'.ownsRow C.w0.heap.size e sz v' (n+m) (xs++news)∧w.grownBy w' (Value.slice A n c).ownBlock ∧
   (v'.ownBlock=(Value.slice A n c).ownBlock∨v'.ownBlock=some w.heap.size):=by
  intro t ty0 hut cc
  by_cases hm:0<m
  ·obtain⟨hA,hr⟩:=hat hm
   unfold isAt at hA
   rw [hA]
   obtain⟨v',w',g1,g2,g3,_,g5⟩:=run_append_own_at (P:=C.S.P) w C.w0.heap.size t ty0 e x ty.zero sz ty.bytes hut hx hx3 (hx1.trans hsz') hx2 hzs' hpos' _ n xs hown ⟨bk B,ofs B,none⟩ m cc news hl
    (fun j u hu=>by
     have:=hr j u hu
     unfold Addr.add
     split
     ·rename_i e0;subst e0;simpa using this
     ·exact this) hone (by simp only [maxLen];omega) hb hw.below.size
   exact⟨v',w',g1,g2,g3,g5⟩
  ·have hm0:m=0:=by omega
   subst hm0
   have hnews:news=[]:=List.eq_nil_of_length_eq_zero (by simpa using hl)
   subst hnews
   rcases B with _|ad
   ·exact⟨_,w,run_append_nil C.S.P w _ t ty0 e x sz hut hx _ n xs hown cc,by simpa using hown,World.grownBy.refl w _, .inl rfl⟩
   ·obtain⟨v',w',g1,g2,g3,_,g5⟩:=run_append_own_at (P:=C.S.P) w C.w0.heap.size t ty0 e x ty.zero sz ty.bytes hut hx hx3 (hx1.trans hsz') hx2 hzs' hpos' _ n xs hown ad 0 cc [] hl
     (fun j u hu=>by simp at hu) hone (by simp only [maxLen];omega) hb hw.below.size
    exact⟨v',w',g1,g2,g3,g5⟩
 obtain⟨dst,op,ty0,pos,aft,gd⟩:=o
 unfold evApp at he
 dsimp only at he
 split at he
 ·rename_i ps ts
  split at he
  ·rename_i A1 n1 c1 B1 m1 c2 t u hps hts
   split at he
   ·rename_i e1 q1 q2 q3 hty
    cases htu:Nat.beq t u with
    | false=>rw [htu] at he;cases he
    | true =>
     rw [htu] at he
     have et:t=u:=Nat.eq_of_beq_eq_true htu
     subst et
     cases he
     have hut:=(Sig.tyOk hty).fits
     simp only [Ty.fits] at hut
     obtain⟨v',w',g1,g2,g3,g5⟩:=hrun t ty0 hut c2
     obtain⟨A',cap',rfl,f',r1,r2⟩:=row.of_own g2
     have hargs:ps.map a.eval = #[.slice A n c, .slice B m c2]:=Array.ext' (by rw [Array.toList_map];exact evL_spec ha (Holds.nil _ _) hps)
     have hts':ts = #[t,t]:=Array.ext' hts
     refine ⟨.slice A' (n+m) cap',w',_,?_,⟨?_,?_⟩,d,hd,hN,hs,h A' cap' ?_⟩
     ·simp [execOp,resolve,invoke,builtin,hargs,hts',g1]
     ·refine hw.below.grown g3 hw.below.size fun b hbk=>?_
      cases hA:A with
      | none=>rw [hA] at hbk;simp [Value.ownBlock] at hbk
      | some ad =>
       rcases hown.2 with⟨h9,_⟩|⟨g,cap9,cur,h9,h10,_⟩
       ·rw [hA] at h9;cases h9
       ·rw [h9] at hbk;simp [Value.ownBlock] at hbk;subst hbk;exact h10
     ·rw [hrb]
      refine Sep.swap ⟨F,f1,f2,f3⟩ hi fun f hrow hf=>⟨f',r1,fun b o hb'=>?_,fun c' hc' hfc=>?_⟩
      ·obtain⟨s1,s2,s3⟩:=r2 b o hb'
       refine ⟨s1,s2,?_⟩
       rw [s3] at g5
       rcases g5 with g5|g5
       ·left
        obtain⟨_,hrow2⟩:=hrow
        rcases hrow2 with⟨rfl,_⟩|⟨g,cur,rfl,rfl,_⟩
        ·simp [Value.ownBlock] at g5
        ·simp [Value.ownBlock] at g5;subst g5;simp [one]
       ·right
        injection g5 with g5
        omega
      ·refine g3.block c' hc' fun e9=>?_
       obtain⟨_,hrow2⟩:=hrow
       rcases hrow2 with⟨rfl,_⟩|⟨g,cur,rfl,rfl,_⟩
       ·simp [Value.ownBlock] at e9
       ·simp [Value.ownBlock] at e9;subst e9;simp [one] at hfc
     ·intro hpos2
      obtain⟨_,hrow2⟩:=r1
      rcases hrow2 with⟨_,_,h9,_⟩|⟨g,cur,rfl,_⟩
      ·omega
      ·exact⟨g,rfl⟩
   ·cases he
  ·cases he
 ·cases he
theorem Src.own {w0 w:World} {b:Nat} {cs:List Value} {t:TypeId} {rb:HA→List HA} {sz m:Nat} (hw:Cls w0 w H) [hf:Focus H b cs t rb] (hl:cs.length=m * sz):Src w sz (some ⟨b,0,none⟩) m cs:=by
 obtain⟨i,hi,_⟩:=hf.at_
 exact⟨hl,fun _=>⟨rfl,RdC.own hw hi (fun j u hu=>by simpa [ofs] using hu)⟩⟩
theorem T_nilrow {k:List It} (e sz:Nat) (h:T C k env ec (row e sz none 0 0 []::H)):T C k env ec H:=by
 refine T.mk fun a w ha hw=>?_
 refine h a w ha ⟨hw.below,?_⟩
 obtain⟨F,h1,h2,h3⟩:=hw.sep
 refine ⟨fun i=>match i with | 0=>fun _=>none|i+1=>F i,fun i B hi=>?_,fun i b o hi hf=>?_,fun i j b hi hj hne=>?_⟩
 ·cases i with
  | zero=>simp at hi;subst hi;exact⟨by simp, .inl ⟨rfl,rfl,rfl,rfl⟩⟩
  | succ i=>exact h1 i B (by simpa using hi)
 ·cases i with
  | zero=>cases hf
  | succ i=>exact h2 i b o (by simpa using hi) hf
 ·cases i with
  | zero=>exact .inl rfl
  | succ i =>
   cases j with
   | zero=>exact .inr rfl
   | succ j=>exact h3 i j b (by simpa using hi) (by simpa using hj) (by omega)
theorem T_rowpos {k:List It} {A:Option Addr} {e sz cap n:Nat} {xs:List Value} {rb:HA→List HA} [hf:FocusR H A e sz cap n xs rb] (hn:0<n) (h:∀ g,A=some ⟨g,0,none⟩→T C k env ec H):T C k env ec H:=by
 refine T.mk fun a w ha hw=>?_
 obtain⟨i,hi,_⟩:=hf.at_
 obtain⟨F,h1,h2,h3⟩:=hw.sep
 obtain⟨_,hr⟩:=h1 i _ hi
 rcases hr with⟨_,_,h9,_⟩|⟨g,cur,hA,_⟩
 ·omega
 ·exact h g hA a w ha hw
theorem rdRow {A:Option Addr} {e sz cap n:Nat} {xs:List Value} {rb:HA→List HA} [hf:FocusR H A e sz cap n xs rb] {off:Nat} {vs:List Value} (hA:0<n) (hv:∀ j u,vs[j]?=some u→xs[off+j]?=some u):∀ w,Cls C.w0 w H→RdC w (bk A) off vs:=by
 intro w hw j u hu
 obtain⟨i,hi,_⟩:=hf.at_
 obtain⟨F,h1,h2,h3⟩:=hw.sep
 have hil:i<H.length:=(List.getElem?_eq_some_iff.1 hi).1
 obtain⟨_,hr⟩:=h1 i _ hi
 rcases hr with⟨_,_,h9,_⟩|⟨g,cur,rfl,hF,g1,g2,g3,g4⟩
 ·omega
 ·have hb:=(h2 i g (.cells cur e (0,0)) hil (by rw [hF];simp [one])).2
  have:=hv j u hu
  rw [← g4] at this
  rw [show bk (some ⟨g,0,none⟩)=g from rfl,cell_of_row w g (off+j) cur e (0,0) hb]
  have h8:=(List.getElem?_eq_some_iff.1 this).1
  rw [List.getElem?_take] at this
  split at this
  ·simpa using this
  ·cases this
theorem blk_row {b:Nat} {cs:List Value} {e sz n:Nat} (hl:cs.length=n * sz) (hn:n≤maxLen):∀ f,blk b cs e f→row e sz (some ⟨b,0,none⟩) n n cs f :=
 fun f hf=>⟨hl, .inr ⟨b,cs.toArray,rfl,hf,Nat.le_refl _,hn,by simpa using hl,by rw [← hl];simp⟩⟩
theorem T_blk_rowh {k:List It} {b:Nat} {cs:List Value} {e:TypeId} (sz n:Nat) (hl:cs.length=n * sz) (hn:n≤9223372036854775807) (h:T C k env ec (row e sz (some ⟨b,0,none⟩) n n cs::H)):T C k env ec (blk b cs e::H) :=
 T_le (Hle.weaken (i:=0) rfl (blk_row (sz:=sz) hl (by simp only [maxLen];exact hn)) rfl) h

def evMk (S:Sig) (env:Env) (ec:EnvC) (o:Oper):Option (TypeId × Int × Int) :=
 match o.op with
 | .makeSlice t x y=>match S.ty t,evX env ec [] x,evX env ec [] y with
  | some ⟨.slice e,_,_,_⟩,some (.int _ l),some (.int _ c)=>some (e,l,c)
  | _,_,_=>none
 | _=>none
theorem OpT.make {e:TypeId} {l c:Int} {ty:TyI} {z:Value} (hg:gOf all env ec o=some []) (he:evMk C.S env ec o=some (e,l,c)) (ht:C.S.ty e=some ty) (h1:ty.zero=z) (hz1:z.cells = #[z]) (hs1:Nat.beq ty.size 1=true) (hd:o.dst=some d) (hN:Nat.blt d C.N.n=true) (hs:safeC all d ec=true)
  (hb:(0≤l∧l≤c)∧(ty.bytes:Int) * c≤281474976710656∧c≤9223372036854775807) (h:∀ b,Φ ((d, .slice (some ⟨b,0,none⟩) l.toNat c.toNat)::env) ec (blk b (List.replicate c.toNat z) e::H)):OpT C all o env ec H Φ:=by
 obtain⟨x,hx,hx1,hx2,hx3⟩:=(Sig.tyOk ht).info'
 have hs1':ty.size=1:=Nat.eq_of_beq_eq_true hs1
 refine OpT.eff hg fun a w ha hw=>⟨.slice (some ⟨w.heap.size,0,none⟩) l.toNat c.toNat,w.alloc (.cells (madeCells z.cells (c.toNat * x.size)) e),_,?_,hw.alloc _ ?_,d,hd,hN,hs,h w.heap.size⟩
 ·obtain⟨dst,op,ty0,pos,aft,gd⟩:=o
  unfold evMk at he
  dsimp only at he
  split at he
  ·rename_i t p q
   split at he
   ·rename_i e' q1 q2 q3 kl l' kc c' hty hl hc
    cases he
    have hut:=(Sig.tyOk hty).fits
    simp only [Ty.fits] at hut
    have hr:=run_make (P:=C.S.P) w t e x z hut hx (by rw [hx3,h1]) kl kc l c hb.1.1 hb.1.2 (by rw [hx2];exact hb.2.1) hb.2.2
    simp only [execOp,evX_spec ha (Holds.nil _ _) hl,evX_spec ha (Holds.nil _ _) hc]
    simp [hr]
   ·cases he
  ·cases he
 ·unfold blk
  rw [hz1,hx1,hs1',Nat.mul_one]
  congr 1
  exact congrArg (fun x=>Obj.cells x e (0,0)) (Array.ext' (by rw [toList_madeCells_one]))
def evParts (env:Env) (ec:EnvC):List (Nat × Operand)→Option (List (Nat × Value))
  | []=>some []
  | (i,x)::l=>match evX env ec [] x with
    | some v=>match evParts env ec l with
      | some vs=>some ((i,v)::vs)
      | none=>none
    | none=>none
theorem evParts_spec {N:FK} {a:Act} (ha:Agrees N all env ec a):∀ {l:List (Nat × Operand)} {vs:List (Nat × Value)},evParts env ec l=some vs→l.map (fun (i,x)=>(i,a.eval x))=vs
  | [],vs,h=>by cases h;rfl
  | (i,x)::l,vs,h=>by
    unfold evParts at h
    split at h
    · rename_i v hv
      split at h
      · rename_i us hus
        cases h
        rw [List.map_cons,evParts_spec ha hus]
        simp only [evX_spec ha (Holds.nil _ _) hv]
      · cases h
    · cases h
def evLit (S:Sig) (env:Env) (ec:EnvC) (o:Oper):Option (TypeId × Nat × List (Nat × Value)) :=
 match o.op with
 | .buildSlice t n ps=>match S.ty t,evParts env ec ps.toList with
  | some ⟨.slice e,_,_,_⟩,some vs=>some (e,n,vs)
  | _,_=>none
 | _=>none
theorem OpT.lit {e:TypeId} {n:Nat} {vs:List (Nat × Value)} {ty:TyI} {cs:List Value} (hg:gOf all env ec o=some []) (he:evLit C.S env ec o=some (e,n,vs)) (ht:C.S.ty e=some ty)
  (hfill:Instr.fill (fun i=>some (i * ty.size,ty.size)) (madeCells (if n * ty.size=0 then #[] else ty.zero.cells) (n * ty.size)) vs=some cs.toArray) (hle:Nat.ble (n * ty.size) 16777216=true) (hd:o.dst=some d) (hN:Nat.blt d C.N.n=true) (hs:safeC all d ec=true)
  (h:∀ b,Φ ((d, .slice (some ⟨b,0,none⟩) n n)::env) ec (blk b cs e::H)):OpT C all o env ec H Φ:=by
 refine OpT.eff hg fun a w ha hw=>⟨.slice (some ⟨w.heap.size,0,none⟩) n n,w.alloc (.cells cs.toArray e),_,?_,hw.alloc _ (A:=blk w.heap.size cs e) rfl,d,hd,hN,hs,h w.heap.size⟩
 obtain⟨dst,op,ty0,pos,aft,gd⟩:=o
 unfold evLit at he
 dsimp only at he
 split at he
 ·rename_i t n' ps
  split at he
  ·rename_i e' q1 q2 q3 us hty hps
   cases he
   have hut:=(Sig.tyOk hty).fits
   simp only [Ty.fits] at hut
   have hsz:=(Sig.tyOk ht).sizeOf w
   have hz:=(Sig.tyOk ht).zeroValue w
   have hparts:(Array.map (fun x:Nat × Operand=>(x.1,a.eval x.2)) ps).toList=vs:=by rw [Array.toList_map];exact evParts_spec ha hps
   have hle':¬ n * ty.size > 2 ^ 24:=by have:=Nat.le_of_ble_eq_true hle;omega
   unfold madeCells at hfill
   simp only [execOp,Instr.buildSlice,Sem.run_bind,run_underlying hut,Result.andThen_ok,hsz]
   rw [if_neg hle']
   by_cases h0:n * ty.size=0
   ·rw [if_pos h0] at hfill ⊢
    simp only [Sem.run_bind,Sem.run_pure,Result.andThen_ok]
    rw [hparts,hfill]
    rfl
   ·rw [if_neg h0] at hfill ⊢
    simp only [Sem.run_bind,Sem.run_pure,Result.andThen_ok,hz]
    rw [hparts,hfill]
    rfl
  ·cases he
 ·cases he
def isSeq:Nat→List (Nat × Value)→Bool
 | _,[]=>true
 | n,(i,_)::l=>Nat.beq i n && isSeq (n+1) l
theorem isSeq_spec:∀ {n:Nat} {l:List (Nat × Value)},isSeq n l=true→l=((l.map Prod.snd).zipIdx n).map fun x=>(x.2,x.1)
 | n,[],_=>rfl
 | n,(i,v)::l,h=>by
  simp only [isSeq,Bool.and_eq_true] at h
  have e:i=n:=Nat.eq_of_beq_eq_true h.1
  subst e
  simp only [List.map_cons,List.zipIdx_cons]
  rw [← isSeq_spec h.2]
def allSz (sz:Nat):List (Nat × Value)→Bool
  | []=>true
  | (_,v)::l=>Nat.beq v.cells.size sz && allSz sz l
theorem allSz_spec {sz:Nat}:∀ {l:List (Nat × Value)},allSz sz l=true→∀ v∈l.map Prod.snd,v.cells.size=sz
  | (i,u)::l,h,v,hv=>by
    simp only [allSz,Bool.and_eq_true] at h
    simp only [List.map_cons,List.mem_cons] at hv
    rcases hv with rfl|hv
    · exact Nat.eq_of_beq_eq_true h.1
    · exact allSz_spec h.2 v hv
def flatP:List (Nat × Value)→List Value
  | []=>[]
  | (_,v)::l=>v.cells.toList++flatP l
theorem flatP_eq:∀ l:List (Nat × Value),flatP l=(l.map Prod.snd).flatMap fun v=>v.cells.toList
  | []=>rfl
  | (_,v)::l=>by simp [flatP,flatP_eq l]
theorem OpT.litW {e:TypeId} {n sz:Nat} {vs:List (Nat × Value)} {ty:TyI} {cs:List Value} (hg:gOf all env ec o=some []) (he:evLit C.S env ec o=some (e,n,vs)) (ht:C.S.ty e=some ty) (hsz:ty.size=sz) (h0:Nat.blt 0 sz=true)
  (hseq:(isSeq 0 vs && (Nat.beq vs.length n && allSz sz vs))=true) (hcs:flatP vs=cs) (hle:Nat.ble (n * sz) 16777216=true) (hd:o.dst=some d) (hN:Nat.blt d C.N.n=true) (hs:safeC all d ec=true)
  (h:∀ b,Φ ((d, .slice (some ⟨b,0,none⟩) n n)::env) ec (blk b cs e::H)):OpT C all o env ec H Φ:=by
 subst hsz;subst hcs
 simp only [Bool.and_eq_true] at hseq
 obtain⟨s1,s2,s3⟩:=hseq
 have hn:vs.length=n:=Nat.eq_of_beq_eq_true s2
 have h0':0<ty.size:=by rw [Nat.blt_eq] at h0;exact h0
 refine OpT.lit hg he ht ?_ hle hd hN hs h
 have:=Go.Great.fill_whole (s:=ty.size) h0' (vs.map Prod.snd) (madeCells (if n * ty.size=0 then #[] else ty.zero.cells) (n * ty.size)) (allSz_spec s3) (by rw [size_madeCells,List.length_map,hn])
 rw [← isSeq_spec s1] at this
 rw [this,flatP_eq]
end
end Go.Proofs.YtblnhdnogjijiaaGreatDoor
namespace Go.Proofs.YtblnhdnogjijiaaGreatDoor
open Go.RowKit Go.Shelf

def Val (C:Cx) (all:Array Oper) (o:Oper) (env:Env) (ec:EnvC) (Hs:List HA) (G:GId) (v:Value):Prop :=
 ∀ a w,Agrees C.N all env ec a→Cls C.w0 w Hs→Holds all a G→(execOp a.eval o).run C.S.P w = .ok (.value v) w
section
variable {C:Cx} {all:Array Oper} {o:Oper} {env:Env} {ec:EnvC} {Hs:List HA} {G:GId} {v:Value}
theorem Val.pure (hv:evP C.S all env ec G o=some v):Val C all o env ec Hs G v:=fun _ w ha _ hH=>evP_spec ha hH hv w
theorem Val.vc {p:Prop} (hv:evV C.S env ec G o=some (v,p)) (hp:GP all env ec G→p):Val C all o env ec Hs G v:=fun _ w ha _ hH=>evV_spec ha hH hv (hp (hH.gp ha)) w
theorem Val.load {b off:Nat} (hv:evLd C.S env ec G o=some (b,off,false,1)) (hr:GP all env ec G→∀ w,Cls C.w0 w Hs→RdC w b off [v]):Val C all o env ec Hs G v :=
 fun _ w ha hw hH=>evLd_spec ha hH hv rfl (fun _=>rfl) (hr (hH.gp ha) w hw)
theorem Val.loadA {b off n:Nat} {vs:List Value} (hv:evLd C.S env ec G o=some (b,off,true,n)) (hr:GP all env ec G→∀ w,Cls C.w0 w Hs→RdC w b off vs) (hn:vs.length=n):Val C all o env ec Hs G (.agg vs.toArray) :=
 fun _ w ha hw hH=>evLd_spec ha hH hv hn (fun e=>(by cases e)) (hr (hH.gp ha) w hw)
end
section
variable {C:Cx} {all:Array Oper} {o:Oper} {rest:List Oper} {k:List It} {env:Env} {ec:EnvC} {H Hs:List HA} {d:Nat} {v:Value} {fuel:Nat} {listed:Array Bool} {G:GId} {z:Nat}
theorem T_val (hg:gOf all env ec o=some []) (hv:Val C all o env ec H [] v) (hd:o.dst=some d) (hN:Nat.blt d C.N.n=true) (hs:safeC all d ec=true)
  (h:T C (.ops all rest::k) ((d,v)::env) ec H):T C (.ops all (o::rest)::k) env ec H :=
 T_op (OpT.val hg hd hN hs (fun a w ha hw=>hv a w ha hw (Holds.nil _ _)) h)
theorem T_valC (hg:gOf all env ec o=some G) (hv:Val C all o env ec H G v) (hd:o.dst=some d) (hN:Nat.blt d C.N.n=true) (hs:safeC all d ec=true) (hsG:safeG all d G=true) (hl:lookE env d=none)
  (h:T C (.ops all rest::k) env ((d,(G,v))::ec) H):T C (.ops all (o::rest)::k) env ec H :=
 T_op (OpT.valC hg hd hN hs hsG hl (fun a w ha hw hH _=>hv a w ha hw hH) h)

theorem T_draw {id:Nat} (z:Nat) (Hs:List HA) (h:T C (.draw all all.size (Array.replicate all.size false) Hs z::k) env [] H):T C (.code (.region id all true)::k) env ec H:=by
 refine T.mk fun a w ha hw=>?_
 have:=h a _ ha.plain hw.drew
 exact wpIn_region_heldR C.S.mixed this
theorem T_dend (hr:Region.ready .any all listed=[]) (h:T C (nf 60 k) env [] H):T C (.draw all fuel listed Hs z::k) env ec H:=by
 refine T.mk fun a w ha hw=>?_
 exact wpAnyHR_done hr (nf_spec (n:=60) (h a w ha.plain hw)) _
theorem T_dval (i:Nat) (hi:all[i]?=some o) (hnd:noDef all=true) (hns:Region.noSelect all=true) (hf:Region.free .any all listed i=true) (hr:(Region.ready .any all listed).contains i=true) (hz:waits .any all z i=true) (hlv:live z listed=true)
  (hg:gOf all env ec o=some []) (hv:Val C all o env ec Hs [] v) (hd:o.dst=some d) (hN:Nat.blt d C.N.n=true) (hs:safeC all d ec=true) (hle:Hle H Hs)
  (h:T C (.draw all fuel (listed.setIfInBounds i true) Hs z::k) ((d,v)::env) ec H):T C (.draw all (fuel+1) listed Hs z::k) env ec H:=by
 refine T.mk fun a w ha hw=>?_
 have hwn:=(wanted_iff ha hg).2 (Holds.nil _ _)
 refine wpAnyHR_take hnd hi hns hf hr hz hlv (fun c a w q=>q) (.inl ⟨hwn,fun w' hw'=>hv a w' ha hw' (Holds.nil _ _)⟩) (hw.le hle) ?_
 rw [hd]
 exact h _ w (ha.put hN hs) hw
theorem T_dvalC (i:Nat) (hi:all[i]?=some o) (hnd:noDef all=true) (hns:Region.noSelect all=true) (hf:Region.free .any all listed i=true) (hr:(Region.ready .any all listed).contains i=true) (hz:waits .any all z i=true) (hlv:live z listed=true)
  (hg:gOf all env ec o=some G) (hv:Val C all o env ec Hs G v) (hd:o.dst=some d) (hN:Nat.blt d C.N.n=true) (hs:safeC all d ec=true) (hsG:safeG all d G=true) (hl:lookE env d=none) (hle:Hle H Hs)
  (h:T C (.draw all fuel (listed.setIfInBounds i true) Hs z::k) env ((d,(G,v))::ec) H):T C (.draw all (fuel+1) listed Hs z::k) env ec H:=by
 refine T.mk fun a w ha hw=>?_
 by_cases hH:Holds all a G
 ·have hwn:=(wanted_iff ha hg).2 hH
  refine wpAnyHR_take hnd hi hns hf hr hz hlv (fun c a w q=>q) (.inl ⟨hwn,fun w' hw'=>hv a w' ha hw' hH⟩) (hw.le hle) ?_
  rw [hd]
  exact h _ w (ha.putC hN hs hsG hl (fun _=>rfl) (fun hh=>absurd hH hh)) hw
 ·have hwn:Region.wanted o (yielded all a.tmps)=false:=by
   cases hq:Region.wanted o (yielded all a.tmps) with
   | false=>rfl
   | true=>exact absurd ((wanted_iff ha hg).1 hq) hH
  refine wpAnyHR_take hnd hi hns hf hr hz hlv (fun c a w q=>q) (.inr ⟨hwn,rfl⟩) (hw.le hle) ?_
  rw [hd]
  exact h _ w (ha.putC hN hs hsG hl (fun hh=>absurd hh hH) (fun _=>rfl)) hw
theorem T_dops {rs:List Nat} (hr:Region.ready .any all listed=rs) (hne:rs.isEmpty=false)
  (h:∀ i∈rs,∃ o,all[i]?=some o∧OpT C all o env ec H (fun env' ec' H'=>(live z (listed.setIfInBounds i true)=true→Hle H' Hs)∧T C (.draw all fuel (listed.setIfInBounds i true) Hs z::k) env' ec' H')):T C (.draw all (fuel+1) listed Hs z::k) env ec H:=by
 refine T.mk fun a w ha hw=>?_
 refine wpAnyHR_all hr (by intro e;rw [e] at hne;cases hne) fun i hi=>?_
 obtain⟨o,ho,hO⟩:=h i hi
 have:=hO a w ha hw (fun a' w'=>(live z (listed.setIfInBounds i true)=true→Cls C.w0 w' Hs)∧(sem C (.draw all fuel (listed.setIfInBounds i true) Hs z::k)).1 a' w') (post (sem C k).1 (sem C k).2 C.Rr)
  (fun env' ec' H' a' w' hT ha' hw'=>⟨fun hl=>hw'.le (hT.1 hl),hT.2 a' w' ha' hw'⟩)
 unfold wpOpIn
 rw [ho]
 simp only
 split
 ·rename_i hwn;exact this.1 hwn
 ·rename_i hwn;exact⟨about_Fr o _ w _,this.2 (by simpa using hwn)⟩
theorem T_dop (i:Nat) (hr:Region.ready .any all listed=[i]) (hi:all[i]?=some o)
  (h:OpT C all o env ec H (fun env' ec' H'=>(live z (listed.setIfInBounds i true)=true→Hle H' Hs)∧T C (.draw all fuel (listed.setIfInBounds i true) Hs z::k) env' ec' H')):T C (.draw all (fuel+1) listed Hs z::k) env ec H :=
 T_dops hr rfl fun j hj=>by
  have:j=i:=by simpa using hj
  subst this;exact⟨o,hi,h⟩
theorem T_dop2 {o2:Oper} (i j:Nat) (hr:Region.ready .any all listed=[i,j]) (hi:all[i]?=some o) (hj:all[j]?=some o2)
  (h1:OpT C all o env ec H (fun env' ec' H'=>(live z (listed.setIfInBounds i true)=true→Hle H' Hs)∧T C (.draw all fuel (listed.setIfInBounds i true) Hs z::k) env' ec' H'))
  (h2:OpT C all o2 env ec H (fun env' ec' H'=>(live z (listed.setIfInBounds j true)=true→Hle H' Hs)∧T C (.draw all fuel (listed.setIfInBounds j true) Hs z::k) env' ec' H')):T C (.draw all (fuel+1) listed Hs z::k) env ec H :=
 T_dops hr rfl fun x hx=>by
  have:x=i∨x=j:=by simpa using hx
  rcases this with rfl|rfl
  ·exact⟨o,hi,h1⟩
  ·exact⟨o2,hj,h2⟩
theorem OpT.callV {f:FuncId} {args:List Value} {Φ:Env→EnvC→List HA→Prop} (hg:gOf all env ec o=some []) (he:evCall env ec [] o=some (f,args)) (hd:o.dst=some d) (hN:Nat.blt d C.N.n=true) (hs:safeC all d ec=true)
  (hc:∀ w,Cls C.w0 w H→Spec C.S.P f args w (fun u A=>u=v∧A=[])) (h:Φ ((d,v)::env) ec H):OpT C all o env ec H Φ :=
 OpT.call hg he hd hN hs hc (by rintro u A ⟨rfl,rfl⟩;exact h)
theorem OpT.ofVal {Φ:Env→EnvC→List HA→Prop} (hg:gOf all env ec o=some []) (hv:Val C all o env ec H [] v) (hd:o.dst=some d) (hN:Nat.blt d C.N.n=true) (hs:safeC all d ec=true) (h:Φ ((d,v)::env) ec H):OpT C all o env ec H Φ :=
 OpT.val hg hd hN hs (fun a w ha hw=>hv a w ha hw (Holds.nil _ _)) h
end
end Go.Proofs.YtblnhdnogjijiaaGreatDoor
namespace Go.Proofs.YtblnhdnogjijiaaGreatDoor
open Go.RowKit Go.Shelf

def mkD (D:Nat):Deferred:={ target := .collected D,args := #[] }
def dfr (D:Nat):HA:=fun f=>f=one D (.deferred (some []))
def lrec (L:Nat) (r:Loop):HA:=fun f=>f=one L (.loop r)
@[reducible] def yv (l:Nat):Value := .func (.yield l) #[] #[]

theorem Cls.obj {w0 w:World} {H:List HA} {i b:Nat} {o:Obj} (hw:Cls w0 w H) (hk:H[i]?=some (fun f=>f=one b o)):w.heap[b]?=some o∧w0.heap.size≤b:=by
 obtain⟨F,h1,h2,h3⟩:=hw.sep
 have hl:i<H.length:=(List.getElem?_eq_some_iff.1 hk).1
 have h:=h1 i _ hk
 have hf:F i b=some o:=by rw [show F i=_ from h];simp [one]
 exact⟨(h2 i b _ hl hf).2,(h2 i b _ hl hf).1⟩
theorem Cls.putObj {w0 w:World} {H:List HA} {i b:Nat} {o:Obj} (hw:Cls w0 w H) (hk:H[i]?=some (fun f=>f=one b o)) (o':Obj):Cls w0 (w.putObj b o') (H.set i (fun f=>f=one b o')):=by
 obtain⟨g1,g2⟩:=hw.obj hk
 have hb:b<w.heap.size:=lt_of_heap g1
 refine ⟨hw.below.trans ⟨rfl,rfl,rfl,by exact Nat.le_of_eq World.putObj_size.symm,fun c hc=>?_⟩,?_⟩
 ·exact World.putObj_heap_other (by omega)
 ·exact hw.sep.turn hk (fun f hf=>⟨_,hf⟩) (fun c hc _=>World.putObj_heap_other hc) (World.putObj_heap_same hb) rfl

def Yields (P:Program) (w0:World) (l:Nat) (GP:Nat→List HA→Prop) (X:List HA→Prop) (xs:List (List Value)):Prop :=
 ∀ (j:Nat) (x:List Value) (Hj K:List HA) (w:World),xs[j]?=some x→GP j Hj→Cls w0 w (Hj++K) →
  ∃ f tmps assign body,(Instr.yield l x.toArray).run P w = .ok (.round l f tmps assign body) w∧RoundIn (Fr none) 0 P l f tmps assign body w fun e w' =>
   (e = .returned (.bool true)∧∃ H',GP (j+1) H'∧Cls w0 w' (H'++K))∨(e = .returned (.bool false)∧∃ Y,X Y∧Cls w0 w' (Y++K))
def RIt (w0:World) (cap:List HA) (GP:Nat→List HA→Prop) (X:List HA→Prop) (n:Nat):Ending→World→Prop :=
 fun e w'=>(∃ v,e = .returned v)∧((∃ H',GP n H'∧Cls w0 w' (cap++H'))∨∃ Y,X Y∧Cls w0 w' (cap++Y))
def Iter (P:Program) (f:FuncId) (fs cs:List Value) (cap:List HA) (xs:List (List Value)):Prop :=
 Enters P f∧∀ w0 l GP X w Hj,Yields P w0 l GP X xs→GP 0 Hj→Cls w0 w (cap++Hj) →
  CallsIn (Fr none) 0 P f (fs++(yv l::cs)).toArray w (RIt w0 cap GP X xs.length)
@[reducible] def IC (S:Sig) (m:Nat) (w0:World) (fn:Func) (R:Ending→World→Prop):Cx :=
 ⟨S,⟨m,[]⟩,w0,none,fun a w=>LeavesInM (Fr none) 0 S.P fn a.tmps R a.defers .returning w,fun a w=>LeavesInM (Fr none) 0 S.P fn a.tmps R a.defers .returning w,fun _ _ _=>False⟩
theorem iter_of (S : Sig) {f : FuncId} {fn : Func} {c : Code} {fs cs : List Value} {cap : List HA} {xs : List (List Value)} (hf : S.P.funcs[f]? = some fn) (hn : (fn.name == "runtime.NumGoroutine") = false) (hb : fn.body = some c)
  (hlen:Nat.ble (fs.length+(1+cs.length)) fn.ntmps=true)
  (h:∀ w0 l GP X Hj,Yields S.P w0 l GP X xs→GP 0 Hj→T (IC S fn.ntmps w0 fn (RIt w0 cap GP X xs.length)) (nf 60 [.code c]) (zipE 0 (fs++(yv l::cs))) [] (cap++Hj)):Iter S.P f fs cs cap xs:=by
 refine ⟨enters_of hf hn hb,fun w0 l GP X w Hj hY h0 hw=>callsIn_of_wp_marks (n:=0) hf hb trivial ?_⟩
 generalize hargs:fs++(yv l::cs)=args
 have hlen':args.length≤fn.ntmps:=by
  have:=Nat.le_of_ble_eq_true hlen
  rw [← hargs];simp;omega
 have ha:Agrees ⟨fn.ntmps,[]⟩ (allOf (nf 60 [.code c])) (zipE 0 args) [] { tmps:=args.toArray++Array.replicate (fn.ntmps - args.toArray.size) undef,defers:=[] }:=by
  refine ⟨rfl,by simp;omega,fun s v hv=>?_,fun _ _ _ h=>(by cases h),fun _ _ _ h=>(by cases h)⟩
  obtain⟨_,h2⟩:=zipE_spec args 0 s v hv
  simp only [Nat.sub_zero] at h2
  have hs:s<args.length:=(List.getElem?_eq_some_iff.1 h2).1
  simp [Array.getD_eq_getD_getElem?,Array.getElem?_append,hs]
  rw [List.getElem?_eq_getElem hs] at h2
  simpa using h2
 have h1:=h w0 l GP X Hj hY h0
 rw [hargs] at h1
 have:=nf_spec (h1 _ _ ha hw)
 simp only [sem] at this
 refine wpIn_mono this fun e a w' q=>?_
 cases e <;> first|exact q|exact q.elim
section
variable {S:Sig} {m:Nat} {w0:World} {fn:Func} {cap:List HA} {GP:Nat→List HA→Prop} {X:List HA→Prop} {n:Nat} {k:List It} {env:Env} {ec:EnvC} {H:List HA}
theorem ri_of (hr:fn.results = #[]) (h:(∃ H',GP n H'∧Hle H (cap++H'))∨∃ Y,X Y∧Hle H (cap++Y)) {a:Act} {w:World} (hd:a.defers=[]) (hw:Cls w0 w H) :
  LeavesInM (Fr none) 0 S.P fn a.tmps (RIt w0 cap GP X n) a.defers .returning w:=by
 rw [hd]
 refine ⟨.tuple #[],?_,⟨_,rfl⟩,?_⟩
 ·have:=run_results (P:=S.P) (fn:=fn) (tmps:=a.tmps) (w:=w) (vs:=[]) (by rw [hr];rfl) (fun i r v h=>by rw [hr] at h;simp at h)
  exact this
 ·rcases h with⟨H',h1,h2⟩|⟨Y,h1,h2⟩
  ·exact .inl ⟨H',h1,hw.le h2⟩
  ·exact .inr ⟨Y,h1,hw.le h2⟩
theorem T_ifall (hr:fn.results = #[]) (H':List HA) (h1:GP n H') (h2:Hle H (cap++H')):T (IC S m w0 fn (RIt w0 cap GP X n)) [] env ec H:=T_fall fun _ _ ha hw=>ri_of hr (.inl ⟨H',h1,h2⟩) ha.defers hw
theorem T_istop (hr:fn.results = #[]) (Y:List HA) (h1:X Y) (h2:Hle H (cap++Y)):T (IC S m w0 fn (RIt w0 cap GP X n)) (.code .ret::k) env ec H:=T_ret fun _ _ ha hw=>ri_of hr (.inr ⟨Y,h1,h2⟩) ha.defers hw
theorem T_istopf (hr:fn.results = #[]) (Y:List HA) (h1:X Y) (h2:Hle H (cap++Y)):T (IC S m w0 fn (RIt w0 cap GP X n)) [] env ec H:=T_fall fun _ _ ha hw=>ri_of hr (.inr ⟨Y,h1,h2⟩) ha.defers hw
end
def evY (env:Env) (o:Oper):Option (Nat × List Value) :=
 match o.op with
 | .call { callee := .value x,args:=xs,argTypes:=_ }=>match evX env [] [] x,evL env [] [] xs.toList with
  | some (.func (.yield l) fs cs),some vs=>cond (fs.isEmpty && cs.isEmpty) (some (l,vs)) none
  | _,_=>none
 | _=>none
theorem evY_spec {P:Program} {N:FK} {all:Array Oper} {env:Env} {o:Oper} {a:Act} (ha:Agrees N all env [] a) {l:Nat} {x:List Value}
  (h:evY env o=some (l,x)) {w:World} {r:Next} (hy:(Instr.yield l x.toArray).run P w = .ok r w):(execOp a.eval o).run P w = .ok r w:=by
 obtain⟨dst,op,ty,pos,aft,gd⟩:=o
 unfold evY at h
 dsimp only at h
 split at h
 ·rename_i xo xa ts
  split at h
  ·rename_i l' fs cs vs hx hvs
   cases hc:(fs.isEmpty && cs.isEmpty) with
   | false=>rw [hc] at h;cases h
   | true =>
    rw [hc] at h
    cases h
    simp only [Bool.and_eq_true,Array.isEmpty_iff] at hc
    obtain⟨rfl,rfl⟩:=hc
    have hx':=evX_spec ha (Holds.nil _ _) hx
    have e1:=evL_spec ha (Holds.nil _ _) hvs
    have e2:xa.map a.eval=x.toArray:=Array.ext' (by rw [Array.toList_map];exact e1)
    simp only [execOp,resolve,e2,hx',Deferred.ofValue]
    simpa [invoke] using hy
  ·cases h
 ·cases h
theorem T_yield {S:Sig} {m:Nat} {w0:World} {fn:Func} {R:Ending→World→Prop} {all:Array Oper} {o:Oper} {rest:List Oper} {k:List It} {env:Env} {H:List HA} {d l j:Nat} {x:List Value}
  {GP:Nat→List HA→Prop} {X:List HA→Prop} {xs:List (List Value)} {Hj K:List HA}
  (hY:Yields S.P w0 l GP X xs) (hg:gOf all env [] o=some []) (he:evY env o=some (l,x)) (hd:o.dst=some d) (hN:Nat.blt d m=true) (hj:xs[j]?=some x) (hGP:GP j Hj) (hl:Hle H (Hj++K)) (hback:∀ J,Hle (J++K) (K++J))
  (ht:∀ H',GP (j+1) H'→T (IC S m w0 fn R) (.ops all rest::k) ((d, .bool true)::env) [] (K++H'))
  (hf:∀ Y,X Y→T (IC S m w0 fn R) (.ops all rest::k) ((d, .bool false)::env) [] (K++Y)):T (IC S m w0 fn R) (.ops all (o::rest)::k) env [] H:=by
 refine T_op (C:=IC S m w0 fn R) fun a w ha hw K' Q hK=>?_
 have hwn:=(wanted_iff ha hg).2 (Holds.nil _ _)
 refine ⟨fun _=>?_,fun hn=>(by rw [hwn] at hn;cases hn)⟩
 obtain⟨f,tmps,assign,body,hy,hr⟩:=hY j x Hj K w hj hGP (hw.le hl)
 have hdef:=gOf_def hg
 have hex:=evY_spec ha he hy
 unfold Oper.wpIn
 refine ⟨about_Fr o _ w _,?_⟩
 rw [Oper.semAt_eq _ _ _ hdef,hex]
 refine ⟨fun h=>(by cases h),RoundIn.mono hr ?_⟩
 rintro e w' (⟨rfl,H',h1,h2⟩|⟨rfl,Y,h1,h2⟩)
 ·exact hK _ _ _ _ _ (ht H' h1) (by rw [hd];exact ha.put hN rfl) (h2.le (hback _))
 ·exact hK _ _ _ _ _ (hf Y h1) (by rw [hd];exact ha.put hN rfl) (h2.le (hback _))

def envP:List (Nat × Value)→Env→Env
  | [],env=>env
  | (t,v)::l,env=>envP l ((t,v)::env)
def inP (n:Nat):List (Nat × Value)→Bool
  | []=>true
  | (t,_)::l=>Nat.blt t n && inP n l
theorem Agrees.putAll {N:FK} {all:Array Oper}:∀ {l:List (Nat × Value)} {env:Env} {a:Act},inP N.n l=true→Agrees N all env [] a →
    Agrees N all (envP l env) [] { a with tmps:=l.foldl (fun tmps (p:Nat × Value)=>tmps.setIfInBounds p.1 p.2) a.tmps }
  | [],_,_,_,ha=>ha
  | (t,v)::l,env,a,hi,ha=>by
    simp only [inP,Bool.and_eq_true] at hi
    have:=Agrees.putAll (l:=l) hi.2 (ha.put (d:=t) (v:=v) hi.1 rfl)
    exact this
@[reducible] def RC (S:Sig) (m:Nat) (w0:World) (L:Nat) (r:Loop) (GP:Nat→List HA→Prop) (XR:List HA→Prop) (XE:Nat→List HA→Prop) (j:Nat) (K:List HA):Cx :=
 ⟨S,⟨m,[]⟩,w0,some L,fun _ w=>∃ H',GP (j+1) H'∧Cls w0 w (lrec L r::(H'++K)),fun _ w=>∃ H',XR H'∧Cls w0 w (lrec L r::(H'++K)),fun id _ w=>∃ H',XE id H'∧Cls w0 w (lrec L r::(H'++K))⟩
@[reducible] def RA (C:Cx) (L:Nat) (body:Code):Cx :=
 ⟨C.S,C.N,C.w0,some L,fun a w=>∃ w2,(Instr.beginRound L).run C.S.P w = .ok () w2∧body.wpIn (Fr (some L)) 0 C.S.P (post C.Rn C.Rx C.Rr) a w2,fun _ _=>False,fun _ _ _=>False⟩
def busy (r:Loop):Loop:={ r with state := .busy }
section
variable {S:Sig} {m:Nat} {w0:World} {L:Nat} {r:Loop} {GP:Nat→List HA→Prop} {XR:List HA→Prop} {XE:Nat→List HA→Prop} {j:Nat} {K:List HA} {k:List It} {env:Env} {ec:EnvC} {H:List HA} {body:Code}
theorem T_begin {r':Loop} (hr:r'.state = .ready) (hrd:r=busy r') (h:T (RC S m w0 L r GP XR XE j K) (nf 60 [.code body]) env [] (lrec L r::H)):T (RA (RC S m w0 L r GP XR XE j K) L body) [] env ec (lrec L r'::H):=by
 refine T.mk fun a w ha hw=>?_
 have hL:=(hw.obj (i:=0) rfl).1
 subst hrd
 refine ⟨_,run_beginRound hL hr,?_⟩
 have hw':=hw.putObj (i:=0) rfl (.loop (busy r'))
 have ha':Agrees ⟨m,[]⟩ (allOf (nf 60 [.code body])) env [] a:=⟨ha.defers,ha.size,ha.at_,fun _ _ _ h=>(by cases h),fun _ _ _ h=>(by cases h)⟩
 have:=nf_spec (h a _ ha' hw')
 exact this
theorem T_next (H':List HA) (h:GP (j+1) H') (hl:Hle H (lrec L r::(H'++K))):T (RC S m w0 L r GP XR XE j K) [] env ec H:=T.mk fun _ _ _ hw=>⟨H',h,hw.le hl⟩
theorem T_rret (H':List HA) (h:XR H') (hl:Hle H (lrec L r::(H'++K))):T (RC S m w0 L r GP XR XE j K) (.code .ret::k) env ec H:=T.mk fun _ _ _ hw=>wpIn_ret ⟨H',h,hw.le hl⟩
theorem T_rexit {id:Nat} (H':List HA) (hx:∀ C:Cx,(sem C k).2 id=C.Rx id) (h:XE id H') (hl:Hle H (lrec L r::(H'++K))):T (RC S m w0 L r GP XR XE j K) (.code (.exit id)::k) env ec H :=
 T.mk fun _ _ _ hw=>by
  simp only [sem]
  refine wpIn_exit ?_
  show (sem _ k).2 id _ _
  rw [hx]
  exact⟨H',h,hw.le hl⟩
end
theorem sem_N (C:Cx) (N:FK):∀ k:List It,sem { C with N:=N } k=sem C k
 | []=>rfl
 | .code c::k=>by simp only [sem,sem_N C N k]
 | .ops _ _::k=>by simp only [sem,sem_N C N k]
 | .draw _ _ _ _ _::k=>by simp only [sem,sem_N C N k]
 | .run _ _ _ _ _::k=>by simp only [sem,sem_N C N k]
 | .out _::k=>by simp only [sem,sem_N C N k]
 | .mark _::k=>by simp only [sem,sem_N C N k]
theorem T_range {S:Sig} {m:Nat} {ds:List Deferred} {w0:World} {fn:Func} {Φ:Value→List HA→Prop} {g:Operand} {ps:Array Tmp} {assign body:Code} {k:List It} {env:Env} {ec:EnvC} {H:List HA}
  {f:FuncId} {fs cs:List Value} {cap:List HA} {xs:List (List Value)} (hit:Iter S.P f fs cs cap xs)
  (hg:evX env [] [] g=some (.func (.func f) fs.toArray cs.toArray)) (hps:∀ (j:Nat) (x:List Value),xs[j]?=some x→x.length=ps.size∧inP m (ps.toList.zip x)=true)
  (GP:Nat→List HA→Prop) (XR:List HA→Prop) (XE:Nat→List HA→Prop) (H0:List HA) (h0:GP 0 H0) (hH:Hle H (cap++H0))
  (hround:∀ (L:Nat) (r:Loop) (j:Nat) (x:List Value) (Hj K:List HA),r.state = .ready→xs[j]?=some x→GP j Hj→T (RA (RC S m w0 L (busy r) GP XR XE j K) L body) (nf 60 [.code assign]) (envP (ps.toList.zip x) env) [] (lrec L r::(Hj++K)))
  (hn:∀ D Hn,GP xs.length Hn→T (FC S m (mkD D::ds) w0 fn Φ) (nf 60 k) env [] (dfr D::(cap++Hn)))
  (hret:∀ D Hx,XR Hx→T (FC S m (mkD D::ds) w0 fn Φ) (.code .ret::k) env [] (dfr D::(cap++Hx)))
  (hex:∀ D id Hx,XE id Hx→T (FC S m (mkD D::ds) w0 fn Φ) (nf 60 (.code (.exit id)::k)) env [] (dfr D::(cap++Hx))) :
  T (FC S m ds w0 fn Φ) (.code (.rangeFunc g ps assign body)::k) env ec H:=by
 refine T.mk fun a w ha hw=>?_
 have ha0:Agrees ⟨m,ds⟩ #[] env [] a:=ha.plain
 replace hw:=Cls.le hw hH
 refine wpIn_rangeFunc fun fn' _=>?_
 -- the two blocks
 have hw1:=(hw.alloc (.deferred (some [])) (A:=dfr w.heap.size) rfl)
 have hsz:(w.alloc (.deferred (some []))).heap.size=w.heap.size+1:=World.size_alloc _ _
 generalize hD:w.heap.size=D at hw1 hsz
 generalize hr0:({ state := .ready,pending:=none,fn:=fn',tmps:=a.tmps,params:=ps,assign,body,defers:=D }:Loop)=r
 have hrdy:r.state = .ready:=by rw [← hr0]
 have hpd:r.pending=none:=by rw [← hr0]
 have hw2:=(hw1.alloc (.loop r) (A:=lrec (D+1) r) (by rw [hsz];rfl))
 have hen:=run_enterLoop_outer (P:=S.P) (w:=w) fn' a.tmps ps assign body
 rw [hD,hr0] at hen
 have hgv:=evX_spec (all := #[]) ha0 (Holds.nil _ _) hg
 have hargs:(fs.toArray ++ #[yv (D+1)]++cs.toArray)=(fs++(yv (D+1)::cs)).toArray:=Array.ext' (by simp)
 refine ⟨D+1,[mkD D],_,⟨.fn (.func f) cs.toArray,fs.toArray ++ #[yv (D+1)]⟩,(w.alloc (.deferred (some []))).alloc (.loop r),f,(fs++(yv (D+1)::cs)).toArray,(w.alloc (.deferred (some []))).alloc (.loop r),hen,?_,fun _ _=>trivial,?_,fun h=>(by cases h),?_⟩
 ·simp [resolve,hgv,Deferred.ofValue,yv]
  rfl
 ·have:=hit.1 (fs++(yv (D+1)::cs)).toArray ((w.alloc (.deferred (some []))).alloc (.loop r))
  rw [← hargs] at this ⊢
  simpa [invoke] using this
 · -- the rounds
  have hYd:Yields S.P w0 (D+1) (fun j H'=>∃ Hj,H'=lrec (D+1) r::dfr D::Hj∧GP j Hj) (fun Y=>∃ Hx jump,Y=lrec (D+1) { r with state := .done,pending:=some jump }::dfr D::Hx∧((jump = .ret∧XR Hx)∨∃ id,jump = .exit id∧XE id Hx)) xs:=by
   rintro j x _ K w1 hj ⟨Hj,rfl,hGj⟩ hc
   have hL:=(hc.obj (i:=0) rfl).1
   obtain⟨hxl,hin⟩:=hps j x hj
   have hy:=run_yield (P:=S.P) (args:=x.toArray) hL (by rw [← hr0];simp [hxl])
   refine ⟨_,_,_,_,hy,roundIn_of_wpIn trivial ?_⟩
   have hc':Cls w0 w1 (lrec (D+1) r::(Hj++(dfr D::K))):=hc.le (Hle.perm ((List.perm_middle (a:=dfr D) (l₁:=Hj) (l₂:=K)).symm.cons _))
   have hT:=hround (D+1) r j x Hj (dfr D::K) hrdy hj hGj
   have hag:Agrees ⟨m,[]⟩ #[] env [] { tmps:=r.tmps,defers:=[] }:=by
    rw [← hr0]
    exact⟨rfl,ha0.size,ha0.at_,fun _ _ _ h=>(by cases h),fun _ _ _ h=>(by cases h)⟩
   have hag2:=Agrees.putAll (N:=⟨m,[]⟩) (l:=ps.toList.zip x) hin hag
   have htm:(r.params.zip x.toArray).foldl (fun tmps (p:Tmp × Value)=>tmps.setIfInBounds p.1 p.2) r.tmps=(ps.toList.zip x).foldl (fun tmps (p:Nat × Value)=>tmps.setIfInBounds p.1 p.2) r.tmps:=by
    rw [← hr0, ← Array.foldl_toList,Array.toList_zip]
   rw [htm]
   have h1:=nf_spec (hT _ w1 ⟨hag2.defers,hag2.size,hag2.at_,fun _ _ _ h=>(by cases h),fun _ _ _ h=>(by cases h)⟩ hc')
   simp only [sem] at h1
   have hra:r.assign=assign:=by rw [← hr0]
   have hrb:r.body=body:=by rw [← hr0]
   rw [← hra, ← hrb] at h1
   refine wpIn_mono (F:=Fr (some (D+1))) h1 fun e a1 w2 q=>?_
   cases e <;> first|exact q.elim|skip
   obtain⟨w3,hb,hbody⟩:=q
   refine ⟨w3,hb,wpIn_mono hbody fun e a2 w4 q=>?_⟩
   have fin:∀ H':List HA,Cls w0 w4 (lrec (D+1) (busy r)::(H'++(dfr D::K)))→∀ jump,∃ w',(Instr.endRound (D+1) jump).run S.P w4 = .ok (.bool jump.isNone) w'∧Cls w0 w' (lrec (D+1) { r with state:=if jump.isNone then .ready else .done,pending:=jump }::dfr D::(H'++K)):=by
    intro H' hcl jump
    have hL4:=(hcl.obj (i:=0) rfl).1
    refine ⟨_,run_endRound jump hL4,?_⟩
    have:=hcl.putObj (i:=0) rfl (.loop { r with state:=if jump.isNone then .ready else .done,pending:=jump })
    exact this.le (Hle.perm ((List.perm_middle (a:=dfr D) (l₁:=H') (l₂:=K)).cons _))
   cases e with
   | normal =>
    obtain⟨H',g1,g2⟩:=q
    obtain⟨w',e1,e2⟩:=fin H' g2 none
    refine ⟨_,w',e1, .inl ⟨rfl,_,⟨H',rfl,g1⟩,?_⟩⟩
    have er:({ r with state := .ready,pending:=none }:Loop)=r:=by rw [← hr0]
    simp only [Option.isNone_none,if_true] at e2
    rw [er] at e2
    exact e2
   | ret =>
    obtain⟨H',g1,g2⟩:=q
    obtain⟨w',e1,e2⟩:=fin H' g2 (some .ret)
    exact⟨_,w',e1, .inr ⟨rfl,_,⟨H', .ret,rfl, .inl ⟨rfl,g1⟩⟩,e2⟩⟩
   | exit id =>
    obtain⟨H',g1,g2⟩:=q
    obtain⟨w',e1,e2⟩:=fin H' g2 (some (.exit id))
    exact⟨_,w',e1, .inr ⟨rfl,_,⟨H', .exit id,rfl, .inr ⟨id,rfl,g1⟩⟩,e2⟩⟩
   | goto t=>exact q.elim
   | panic c=>exact q.elim
   | outgrown=>exact q.elim
  have hstart:Cls w0 ((w.alloc (.deferred (some []))).alloc (.loop r)) (cap++(lrec (D+1) r::dfr D::H0)):=by
   have h1:Cls w0 ((w.alloc (.deferred (some []))).alloc (.loop r)) (lrec (D+1) r::dfr D::(cap++H0)):=hw2
   exact h1.le (Hle.rot2 _ _ cap H0)
  have hcall:=hit.2 w0 (D+1) _ _ _ _ hYd ⟨H0,rfl,h0⟩ hstart
  have hcall':CallsIn (Fr none) 0 S.P f (fs++(yv (D+1)::cs)).toArray ((w.alloc (.deferred (some []))).alloc (.loop r)) _:=hcall
  refine CallsIn.mono hcall' ?_
  rintro e w3 ⟨⟨v,rfl⟩,hend⟩
  have hsem:=sem_N (FC S m ds w0 fn Φ) ⟨m,mkD D::ds⟩ k
  have hag:∀ all,Agrees ⟨m,mkD D::ds⟩ all env [] { a with defers:=[mkD D]++a.defers }:=fun all =>
   ⟨by simp [ha0.defers],ha0.size,ha0.at_,fun _ _ _ h=>(by cases h),fun _ _ _ h=>(by cases h)⟩
  rcases hend with⟨_,⟨Hn,rfl,hGn⟩,hc⟩|⟨_,⟨Hx,jump,rfl,hj⟩,hc⟩
  ·have hc:=hc.le (Hle.unrot2 _ _ cap Hn)
   have hL:=(hc.obj (i:=0) rfl).1
   refine ⟨none,w3.putObj (D+1) (.loop { r with state := .exhausted }),(run_endLoop hL (by rw [hrdy];intro h;cases h)).trans (by rw [hpd]),?_⟩
   have hc2:=(hc.putObj (i:=0) rfl (.loop { r with state := .exhausted })).le (Hle.tail _ _)
   have:=nf_spec (hn D Hn hGn _ _ (hag _) hc2)
   show (sem (FC S m ds w0 fn Φ) k).1 _ _
   rw [← hsem]
   exact this
  ·have hc:=hc.le (Hle.unrot2 _ _ cap Hx)
   have hL:=(hc.obj (i:=0) rfl).1
   refine ⟨_,_,run_endLoop hL (by intro h;cases h),?_⟩
   have hc2:=(hc.putObj (i:=0) rfl (.loop { ({ r with state := .done,pending:=some jump }:Loop) with state := .exhausted })).le (Hle.tail _ _)
   rcases hj with⟨rfl,hX⟩|⟨id,rfl,hX⟩
   ·have:=hret D Hx hX _ _ (hag _) hc2
    have h9:(sem (FC S m (mkD D::ds) w0 fn Φ) (.code .ret::k)).1 _ _:=this
    simp only [sem] at h9
    have h10:sem (FC S m (mkD D::ds) w0 fn Φ) k=sem (FC S m ds w0 fn Φ) k:=hsem
    rw [h10] at h9
    exact h9
   ·have:=nf_spec (hex D id Hx hX _ _ (hag _) hc2)
    simp only [sem] at this
    have h10:sem (FC S m (mkD D::ds) w0 fn Φ) k=sem (FC S m ds w0 fn Φ) k:=hsem
    rw [h10] at this
    exact this

theorem T_retD {S:Sig} {m:Nat} {w0:World} {fn:Func} {Φ:Value→List HA→Prop} {k:List It} {env:Env} {ec:EnvC} {H H':List HA} {D:Nat} (hl:Hle H (dfr D::H'))
  (h:∀ a w,Agrees ⟨m,[]⟩ #[] env [] a→Cls w0 w H'→RF S.P w0 fn Φ a w):T (FC S m [mkD D] w0 fn Φ) (.code .ret::k) env ec H :=
 T_ret fun a w ha hw=>by
  have hc:=hw.le hl
  have hL:=(hc.obj (i:=0) rfl).1
  have hc2:=(hc.putObj (i:=0) rfl (.deferred none)).le (Hle.tail _ _)
  have h1:=h { a with defers:=[] } _ ⟨rfl,ha.size,ha.at_,fun _ _ _ h=>(by cases h),fun _ _ _ h=>(by cases h)⟩ hc2
  show LeavesInM _ _ _ _ _ _ a.defers _ _
  rw [show a.defers=[mkD D] from ha.defers]
  exact⟨(by intro h;cases h), .inl ⟨D,_,rfl,run_takeDeferred hL,h1⟩⟩
theorem T_fallD {S:Sig} {m:Nat} {w0:World} {fn:Func} {Φ:Value→List HA→Prop} {env:Env} {ec:EnvC} {H H':List HA} {D:Nat} (hl:Hle H (dfr D::H'))
  (h:∀ a w,Agrees ⟨m,[]⟩ #[] env [] a→Cls w0 w H'→RF S.P w0 fn Φ a w):T (FC S m [mkD D] w0 fn Φ) [] env ec H :=
 T_fall fun a w ha hw=>by
  have hc:=hw.le hl
  have hL:=(hc.obj (i:=0) rfl).1
  have hc2:=(hc.putObj (i:=0) rfl (.deferred none)).le (Hle.tail _ _)
  have h1:=h { a with defers:=[] } _ ⟨rfl,ha.size,ha.at_,fun _ _ _ h=>(by cases h),fun _ _ _ h=>(by cases h)⟩ hc2
  show LeavesInM _ _ _ _ _ _ a.defers _ _
  rw [show a.defers=[mkD D] from ha.defers]
  exact⟨(by intro h;cases h), .inl ⟨D,_,rfl,run_takeDeferred hL,h1⟩⟩
end Go.Proofs.YtblnhdnogjijiaaGreatDoor
namespace Go.Proofs.YtblnhdnogjijiaaGreatDoor
open Go.RowKit Go.Shelf

def byt (b:Nat) (e:TypeId) (s:ByteArray):HA:=fun f=>∃ cs m,f=one b (.cells cs e m)∧∀ j,j<s.size→cs[j]?=some (.int .u8 ((byteAt s (j:Int)).toNat:Nat))
class FocusB (H:List HA) (b:Nat) (e:outParam TypeId) (s:outParam ByteArray):Prop where
 at_:∃ i:Nat,H[i]?=some (byt b e s)
instance FocusB.head (H:List HA) (b:Nat) (e:TypeId) (s:ByteArray):FocusB (byt b e s::H) b e s:=⟨0,rfl⟩
instance FocusB.tail (A0:HA) (H:List HA) (b:Nat) (e:TypeId) (s:ByteArray) [h:FocusB H b e s]:FocusB (A0::H) b e s:=⟨by obtain⟨i,h1⟩:=h.at_;exact⟨i+1,by simpa using h1⟩⟩
def byteVals (s:ByteArray):List Value:=s.data.toList.map fun c => .int .u8 (c.toNat:Nat)
theorem byteVals_length (s:ByteArray):(byteVals s).length=s.size:=by simp [byteVals]
theorem byteAt_get (s:ByteArray) (k:Nat) (h:k<s.size):s.data.toList[k]?=some (byteAt s (k:Int)):=by
 have h2:k<s.data.toList.length:=by simpa using h
 unfold byteAt
 rw [List.getElem?_eq_getElem h2,Int.toNat_natCast,List.getD_eq_getElem?_getD,List.getElem?_eq_getElem h2]
 rfl
theorem byteVals_get {s:ByteArray} {j:Nat} (h:j<s.size):(byteVals s)[j]?=some (.int .u8 ((byteAt s (j:Int)).toNat:Nat)):=by
 unfold byteVals
 rw [List.getElem?_map,byteAt_get s j h]
 rfl
section
variable {C:Cx} {all:Array Oper} {o:Oper} {env:Env} {ec:EnvC} {H:List HA} {d:Nat} {Φ:Env→EnvC→List HA→Prop}
theorem rdByt {b:Nat} {e:TypeId} {s:ByteArray} [hf:FocusB H b e s]:∀ w,Cls C.w0 w H→RdC w b 0 (byteVals s):=by
 intro w hw j u hu
 obtain⟨i,hi⟩:=hf.at_
 obtain⟨F,h1,h2,h3⟩:=hw.sep
 have hil:i<H.length:=(List.getElem?_eq_some_iff.1 hi).1
 obtain⟨cs,m,hF,hc⟩:=h1 i _ hi
 have hb:=(h2 i b (.cells cs e m) hil (by rw [hF];simp [one])).2
 have hj:j<s.size:=by have:=(List.getElem?_eq_some_iff.1 hu).1;rwa [byteVals_length] at this
 rw [byteVals_get hj] at hu
 rw [Nat.zero_add,cell_of_row w b j cs e m hb,hc j hj]
 exact hu
theorem rdSrc {A:Option Addr} {sz n:Nat} {vs:List Value} (h:Src C.w0 sz A n vs):∀ w,Cls C.w0 w H→Src w sz A n vs:=fun w hw=>⟨h.1,fun hn=>⟨(h.2 hn).1,(h.2 hn).2.old hw⟩⟩
theorem srcByt {b:Nat} {e:TypeId} {s:ByteArray} [hf:FocusB H b e s]:∀ w,Cls C.w0 w H→Src w 1 (some ⟨b,0,none⟩) s.size (byteVals s) :=
 fun w hw=>⟨by rw [byteVals_length,Nat.mul_one],fun _=>⟨rfl,rdByt (b:=b) w hw⟩⟩
def evBy (S:Sig) (env:Env) (ec:EnvC) (o:Oper):Option (TypeId × ByteArray) :=
 match o.op with
 | .convert s d x=>match S.ty s,S.ty d,evX env ec [] x with
  | some ⟨.str,_,_,_⟩,some ⟨.slice e,_,_,_⟩,some (.string s)=>match S.ty e with
   | some ⟨.int .u8,_,_,_⟩=>some (e,s)
   | _=>none
  | _,_,_=>none
 | _=>none
theorem OpT.bytes {e:TypeId} {s:ByteArray} (hg:gOf all env ec o=some []) (he:evBy C.S env ec o=some (e,s)) (hd:o.dst=some d) (hN:Nat.blt d C.N.n=true) (hs:safeC all d ec=true)
  (h:∀ b cap,Φ ((d, .slice (some ⟨b,0,none⟩) s.size cap)::env) ec (byt b e s::H)):OpT C all o env ec H Φ:=by
 refine OpT.eff hg fun a w ha hw=>⟨.slice (some ⟨w.heap.size,0,none⟩) s.size (grownCap w s.size 0 e),Lib.bytesWorld w e s,byt w.heap.size e s::H,?_,?_,d,hd,hN,hs,h _ _⟩
 ·obtain⟨dst,op,ty,pos,aft,gd⟩:=o
  unfold evBy at he
  dsimp only at he
  split at he
  ·rename_i ts td x
   split at he
   ·rename_i q1 q2 q3 e' q4 q5 q6 s' h1 h2 hx
    split at he
    ·rename_i q7 q8 q9 h3
     cases he
     have f1:=(Sig.tyOk h1).fits
     have f2:=(Sig.tyOk h2).fits
     have f3:=(Sig.tyOk h3).fits
     simp only [Ty.fits] at f1 f2 f3
     have:=Lib.run_convert_string_bytes (P:=C.S.P) w ts td e s f1 f2 f3
     simp only [execOp,evX_spec ha (Holds.nil _ _) hx]
     simp [this]
    ·cases he
   ·cases he
  ·cases he
 ·have hb:Below w.heap.size w (Lib.bytesWorld w e s):=Lib.bytesWorld_below w e s
  have hk:Sep w.heap.size (Lib.bytesWorld w e s) [byt w.heap.size e s]:=by
   refine ⟨fun _=>one w.heap.size (.cells (Lib.bytesCells w e s) e ((Lib.bytesCells w e s).size,(Lib.bytesCells w e s).size+1)),fun i A hi=>?_,fun i b o hi hf=>?_,fun i j b hi hj hne=>?_⟩
   ·match i with
    | 0 =>
     simp at hi
     subst hi
     refine ⟨_,_,rfl,fun j hj=>?_⟩
     unfold Lib.bytesCells
     rw [Array.getElem?_append_left (by simpa using hj),Array.getElem?_map]
     have:=byteAt_get s j hj
     rw [Array.getElem?_toList] at this
     rw [this];rfl
    | i+1=>simp at hi
   ·simp only [one] at hf
    split at hf
    ·rename_i e1;subst e1;injection hf with hf;subst hf
     exact⟨Nat.le_refl _,Lib.bytesWorld_at_new w e s⟩
    ·cases hf
   ·simp at hi hj;omega
  have:=hw.call hb hk
  exact this
end
def isNilC:Operand→Bool
 | .const .nilIface=>true
 | _=>false
def evNil (S:Sig) (env:Env) (ec:EnvC) (G:GId) (o:Oper):Option Value :=
 match o.op with
 | .binOp op t x y _=>match S.ty t,evX env ec G x,isNilC y with
  | some ⟨.iface,_,_,_⟩,some .nilIface,true=>match op with
   | .eql=>some (.bool true)
   | .neq=>some (.bool false)
   | _=>none
  | some ⟨.iface,_,_,_⟩,some (.iface _ _),true=>match op with
   | .eql=>some (.bool false)
   | .neq=>some (.bool true)
   | _=>none
  | _,_,_=>none
 | _=>none
theorem isNilC_spec {y:Operand} (h:isNilC y=true):y = .const .nilIface:=by
 unfold isNilC at h
 split at h
 ·rfl
 ·cases h
theorem run_equalNil {P:Program} {t:TypeId} (hf:∃ a,P.underlying t=some (.interface a)) (w:World):(Op.equal t .nilIface .nilIface).run P w = .ok true w:=by
 obtain⟨a,hf⟩:=hf
 show (Op.equalIn (9999+1) t .nilIface .nilIface).run P w=_
 rw [Op.equalIn]
 simp only [Sem.run_bind,run_underlying hf,Result.andThen_ok]
 rfl
theorem run_equalIface {P:Program} {t tp:TypeId} {p:Value} (hf:∃ a,P.underlying t=some (.interface a)) (w:World):(Op.equal t (.iface tp p) .nilIface).run P w = .ok false w:=by
 obtain⟨a,hf⟩:=hf
 show (Op.equalIn (9999+1) t (.iface tp p) .nilIface).run P w=_
 rw [Op.equalIn]
 simp only [Sem.run_bind,run_underlying hf,Result.andThen_ok]
 rfl
theorem run_nilOp {P:Program} {w:World} {t:TypeId} {x:Operand} {u:Value} {r:Bool} (hq:(Op.equal t u .nilIface).run P w = .ok r w) (hu:u = .nilIface∨∃ tp p,u = .iface tp p) :
  ((do eqGuard .eql t x (.const .nilIface) u .nilIface;binOp .eql t u .nilIface:Sem Value)).run P w = .ok (.bool r) w∧((do eqGuard .neq t x (.const .nilIface) u .nilIface;binOp .neq t u .nilIface:Sem Value)).run P w = .ok (.bool (!r)) w:=by
 have g:∀ op,(eqGuard op t x (.const .nilIface) u .nilIface).run P w = .ok () w:=by
  intro op
  unfold eqGuard
  rcases hu with rfl|⟨tp,p,rfl⟩
  ·cases op <;> simp
  ·cases op <;> simp
 have b1:(binOp .eql t u .nilIface).run P w = .ok (.bool r) w:=by
  rcases hu with rfl|⟨tp,p,rfl⟩ <;>
  ·show ((do pure (.bool (← Op.equal t _ .nilIface)):Sem Value)).run P w=_
   rw [Sem.run_bind,hq];rfl
 have b2:(binOp .neq t u .nilIface).run P w = .ok (.bool (!r)) w:=by
  rcases hu with rfl|⟨tp,p,rfl⟩ <;>
  ·show ((do pure (.bool (!(← Op.equal t _ .nilIface))):Sem Value)).run P w=_
   rw [Sem.run_bind,hq];rfl
 constructor
 ·rw [Sem.run_bind,g,Result.andThen_ok,b1]
 ·rw [Sem.run_bind,g,Result.andThen_ok,b2]
theorem evNil_spec {S:Sig} {N:FK} {all:Array Oper} {env:Env} {ec:EnvC} {G:GId} {o:Oper} {v:Value} {a:Act} (ha:Agrees N all env ec a) (hG:Holds all a G)
  (h:evNil S env ec G o=some v) (w:World):(execOp a.eval o).run S.P w = .ok (.value v) w:=by
 obtain⟨dst,op,ty,pos,aft,gd⟩:=o
 unfold evNil at h
 dsimp only at h
 split at h
 ·rename_i op t x y t2
  split at h
  ·rename_i q1 q2 q3 ht hx hy
   have hy':=isNilC_spec hy
   subst hy'
   have hf:=(Sig.tyOk ht).fits
   simp only [Ty.fits] at hf
   have he:=evX_spec ha hG hx
   have h1:=run_nilOp (x:=x) (run_equalNil hf w) (.inl rfl)
   have e2:a.eval (.const .nilIface) = .nilIface:=rfl
   split at h <;> cases h
   ·simp only [execOp,he,e2];rw [Sem.run_bind,h1.1];rfl
   ·simp only [execOp,he,e2];rw [Sem.run_bind,h1.2];rfl
  ·rename_i q1 q2 q3 tp p ht hx hy
   have hy':=isNilC_spec hy
   subst hy'
   have hf:=(Sig.tyOk ht).fits
   simp only [Ty.fits] at hf
   have he:=evX_spec ha hG hx
   have h1:=run_nilOp (x:=x) (run_equalIface (tp:=tp) (p:=p) hf w) (.inr ⟨_,_,rfl⟩)
   have e2:a.eval (.const .nilIface) = .nilIface:=rfl
   split at h <;> cases h
   ·simp only [execOp,he,e2];rw [Sem.run_bind,h1.1];rfl
   ·simp only [execOp,he,e2];rw [Sem.run_bind,h1.2];rfl
  ·cases h
 ·cases h
theorem Val.nilq {C:Cx} {all:Array Oper} {o:Oper} {env:Env} {ec:EnvC} {Hs:List HA} {G:GId} {v:Value} (hv:evNil C.S env ec G o=some v):Val C all o env ec Hs G v:=fun _ w ha _ hH=>evNil_spec ha hH hv w

theorem Src.get1 {w:World} {A:Option Addr} {n i:Nat} {vs:List Value} {v:Value} (h:Src w 1 A n vs) (hi:i<n) (hv:vs[i]?=some v):isAt A∧RdC w (bk A) (ofs A+i * 1) [v]:=by
 obtain⟨h1,h2⟩:=h.2 (by omega)
 refine ⟨h1,fun j u hu=>?_⟩
 cases j with
 | zero=>simp at hu;subst hu;have:=h2 i v hv;simpa using this
 | succ j=>simp at hu
theorem Src.base {w:World} {sz:Nat} {A:Option Addr} {n:Nat} {vs:List Value} (h:Src w sz A n vs) (hn:0<n):∃ b o,A=some ⟨b,o,none⟩:=⟨_,_,(h.2 hn).1⟩
theorem Src.at_ {w:World} {sz:Nat} {A:Option Addr} {n:Nat} {vs:List Value} (h:Src w sz A n vs) (hn:0<n):isAt A:=(h.2 hn).1
end Go.Proofs.YtblnhdnogjijiaaGreatDoor
namespace Go.Proofs.YtblnhdnogjijiaaGreatDoor
open Go.RowKit Go.Shelf

def lookB:List (Nat × List Value)→Nat→Option (List Value)
  | [],_=>none
  | (g,cs)::l,b=>if b=g then some cs else lookB l b
theorem lookB_none {l:List (Nat × List Value)} {b:Nat}:lookB l b=none↔b ∉ l.map Prod.fst:=by
 induction l with
 | nil=>simp [lookB]
 | cons x l ih =>
  obtain⟨g,cs⟩:=x
  unfold lookB
  by_cases h:b=g
  ·simp [h]
  ·simp [h,ih]
theorem lookB_get {l:List (Nat × List Value)} (hn:(l.map Prod.fst).Nodup) {k g:Nat} {cs:List Value} (h:l[k]?=some (g,cs)):lookB l g=some cs:=by
 induction l generalizing k with
 | nil=>simp at h
 | cons x l ih =>
  obtain⟨g',cs'⟩:=x
  simp only [List.map_cons,List.nodup_cons] at hn
  cases k with
  | zero =>
   simp at h
   obtain⟨rfl,rfl⟩:=h
   simp [lookB]
  | succ k =>
   simp only [List.getElem?_cons_succ] at h
   unfold lookB
   have hne:g≠g':=fun e=>hn.1 (by rw [← e];exact List.mem_map.2 ⟨(g,cs),List.mem_of_getElem? h,rfl⟩)
   rw [if_neg hne]
   exact ih hn.2 h
theorem lookB_append {l m:List (Nat × List Value)} {b:Nat}:lookB (l++m) b=(lookB l b).or (lookB m b):=by
 induction l with
 | nil=>simp [lookB]
 | cons x l ih =>
  obtain⟨g,cs⟩:=x
  simp only [List.cons_append,lookB]
  split
  ·rfl
  ·exact ih
def blks (t:TypeId) (l:List (Nat × List Value)):HA:=fun f=>(l.map Prod.fst).Nodup∧∀ b,f b=(lookB l b).map fun cs=>Obj.cells cs.toArray t (0,0)
theorem blks_nil (t:TypeId):blks t [] (fun _=>none):=⟨List.nodup_nil,fun _=>rfl⟩
theorem blks_snoc {t:TypeId} {l:List (Nat × List Value)} {g:Nat} {cs:List Value} {H:List HA}:Hle (blk g cs t::blks t l::H) (blks t (l++[(g,cs)])::H):=by
 rintro n0 w ⟨F,h1,h2,h3⟩
 have hA:F 0=one g (.cells cs.toArray t (0,0)):=h1 0 _ rfl
 obtain⟨hB1,hB2⟩:=h1 1 _ rfl
 have hg:lookB l g=none:=by
  have:=h3 0 1 g (by simp) (by simp) (by omega)
  rw [hA] at this
  rcases this with h|h
  ·simp [one] at h
  ·rw [hB2] at h
   cases hq:lookB l g with
   | none=>rfl
   | some cs=>rw [hq] at h;cases h
 have key:∀ b,(lookB (l++[(g,cs)]) b).map (fun cs=>Obj.cells cs.toArray t (0,0))=(F 1 b).or (F 0 b):=by
  intro b
  rw [lookB_append,hB2 b,hA]
  cases hq:lookB l b with
  | some x=>simp
  | none =>
   simp only [Option.none_or,Option.map_none,lookB,one]
   split <;> simp
 refine ⟨fun i=>match i with | 0=>fun b=>(F 1 b).or (F 0 b)|i+1=>F (i+2),fun i A hi=>?_,fun i b o hi hf=>?_,fun i j b hi hj hne=>?_⟩
 ·cases i with
  | zero =>
   simp at hi;subst hi
   refine ⟨?_,fun b=>(key b).symm⟩
   rw [List.map_append,List.nodup_append]
   refine ⟨hB1,by simp,?_⟩
   intro a ha b hb
   simp at hb
   subst hb
   intro e
   subst e
   exact absurd ha (lookB_none.1 hg)
  | succ i=>exact h1 (i+2) A (by simpa using hi)
 ·cases i with
  | zero =>
   dsimp only at hf
   cases hq:F 1 b with
   | some x=>rw [hq] at hf;simp at hf;subst hf;exact h2 1 b x (by simp) hq
   | none=>rw [hq] at hf;simp at hf;exact h2 0 b o (by simp) hf
  | succ i=>exact h2 (i+2) b o (by simp at hi ⊢;omega) hf
 ·have both:∀ j,j+2<(blk g cs t::blks t l::H).length→((F 1 b).or (F 0 b)=none∨F (j+2) b=none):=by
   intro j hj
   rcases h3 0 (j+2) b (by simp) hj (by omega) with h|h
   ·rcases h3 1 (j+2) b (by simp) hj (by omega) with h'|h'
    ·left;rw [h,h'];rfl
    ·exact .inr h'
   ·exact .inr h
  cases i with
  | zero =>
   cases j with
   | zero=>omega
   | succ j=>exact both j (by simp at hj ⊢;omega)
  | succ i =>
   cases j with
   | zero=>exact (both i (by simp at hi ⊢;omega)).symm
   | succ j=>exact h3 (i+2) (j+2) b (by simp at hi ⊢;omega) (by simp at hj ⊢;omega) (by omega)
class FocusM (H:List HA) (t:outParam TypeId) (l:List (Nat × List Value)):Prop where
 at_:∃ i:Nat,H[i]?=some (blks t l)
instance FocusM.head (H:List HA) (t:TypeId) (l:List (Nat × List Value)):FocusM (blks t l::H) t l:=⟨0,rfl⟩
instance FocusM.tail (A0:HA) (H:List HA) (t:TypeId) (l:List (Nat × List Value)) [h:FocusM H t l]:FocusM (A0::H) t l:=⟨by obtain⟨i,h1⟩:=h.at_;exact⟨i+1,by simpa using h1⟩⟩
theorem Cls.blks {w0 w:World} {H:List HA} {i:Nat} {t:TypeId} {l:List (Nat × List Value)} {k g:Nat} {cs:List Value} (hw:Cls w0 w H) (hi:H[i]?=some (blks t l)) (hk:l[k]?=some (g,cs)):w.heap[g]?=some (.cells cs.toArray t (0,0)):=by
 obtain⟨F,h1,h2,h3⟩:=hw.sep
 have hil:i<H.length:=(List.getElem?_eq_some_iff.1 hi).1
 obtain⟨hn,hf⟩:=h1 i _ hi
 exact (h2 i g _ hil (by rw [hf,lookB_get hn hk];rfl)).2
theorem rdM {C:Cx} {H:List HA} {t:TypeId} {l:List (Nat × List Value)} [hf:FocusM H t l] {k g off:Nat} {cs vs:List Value} (hk:l[k]?=some (g,cs)) (hv:∀ j u,vs[j]?=some u→cs[off+j]?=some u):∀ w,Cls C.w0 w H→RdC w g off vs:=by
 intro w hw j u hu
 obtain⟨i,hi⟩:=hf.at_
 rw [cell_of_row w g (off+j) cs.toArray t (0,0) (hw.blks hi hk)]
 simpa using hv j u hu
theorem T_nilblks {C:Cx} {k:List It} {env:Env} {ec:EnvC} {H:List HA} (t:TypeId) (h:T C k env ec (blks t []::H)):T C k env ec H:=by
 refine T.mk fun a w ha hw=>?_
 refine h a w ha ⟨hw.below,?_⟩
 obtain⟨F,h1,h2,h3⟩:=hw.sep
 refine ⟨fun i=>match i with | 0=>fun _=>none|i+1=>F i,fun i B hi=>?_,fun i b o hi hf=>?_,fun i j b hi hj hne=>?_⟩
 ·cases i with
  | zero=>simp at hi;subst hi;exact blks_nil t
  | succ i=>exact h1 i B (by simpa using hi)
 ·cases i with
  | zero=>cases hf
  | succ i=>exact h2 i b o (by simpa using hi) hf
 ·cases i with
  | zero=>exact .inl rfl
  | succ i =>
   cases j with
   | zero=>exact .inr rfl
   | succ j=>exact h3 i j b (by simpa using hi) (by simpa using hj) (by omega)
end Go.Proofs.YtblnhdnogjijiaaGreatDoor
namespace Go.Proofs.YtblnhdnogjijiaaGreatDoor
open Go.RowKit Go.Shelf

def fillL (pl:List (Nat × Nat)) (cs:List Value):List (Nat × Value)→Option (List Value)
  | []=>some cs
  | (i,v)::r=>match pl[i]? with
    | none=>none
    | some (off,size)=>cond (Nat.beq v.cells.size size && Nat.ble (off+size) cs.length) (fillL pl (setL cs off v.cells.toList) r) none
theorem foldl_setL:∀ (us cs:List Value) (off n:Nat),(us.zipIdx n).foldl (fun (cs:Array Value) (x:Value × Nat)=>cs.setIfInBounds (off+x.2) x.1) cs.toArray=(setL cs (off+n) us).toArray
 | [],cs,off,n=>rfl
 | u::us,cs,off,n=>by
  simp only [List.zipIdx_cons,List.foldl_cons,List.setIfInBounds_toArray,setL]
  exact foldl_setL us (cs.set (off+n) u) off (n+1)
theorem fillL_spec {pl:List (Nat × Nat)}:∀ {ps:List (Nat × Value)} {cs cs':List Value},fillL pl cs ps=some cs'→Instr.fill (fun i=>pl.toArray[i]?) cs.toArray ps=some cs'.toArray
  | [],cs,cs',h=>by cases h;rfl
  | (i,v)::r,cs,cs',h=>by
    unfold fillL at h
    split at h
    · cases h
    · rename_i off size hi
      cases hc:(Nat.beq v.cells.size size && Nat.ble (off+size) cs.length) with
      | false=>rw [hc] at h;cases h
      | true =>
        rw [hc] at h
        simp only [cond_true] at h
        simp only [Bool.and_eq_true] at hc
        have h1:v.cells.size=size:=Nat.eq_of_beq_eq_true hc.1
        have h2:off+size≤cs.length:=Nat.le_of_ble_eq_true hc.2
        have ih:=fillL_spec h
        unfold Instr.fill
        simp only [List.getElem?_toArray,hi]
        rw [if_neg (by simp [h1];omega)]
        have e:=foldl_setL v.cells.toList cs off 0
        rw [← Array.foldl_toList,Array.toList_zipIdx]
        rw [e,Nat.add_zero]
        simpa only [List.getElem?_toArray] using ih
def placesOf (S:Sig):List (TypeId × Nat)→Option (List (Nat × Nat))
  | []=>some []
  | (t,off)::l=>match S.ty t with
    | some ⟨_,sz,_,_⟩=>match placesOf S l with
      | some r=>some ((off,sz)::r)
      | none=>none
    | none=>none
theorem placesOf_spec {S:Sig}:∀ {fs:List Field} {pl:List (Nat × Nat)},placesOf S (fs.map fun f=>(f.type,f.offset))=some pl→fs.mapM (fun f=>(S.P.info? f.type).map fun i=>(f.offset,i.size))=some pl
 | [],pl,h=>by cases h;rfl
 | f::fs,pl,h=>by
  simp only [List.map_cons,placesOf] at h
  split at h
  ·rename_i d sz b z ht
   split at h
   ·rename_i r hr
    cases h
    obtain⟨x,hx,h1,_⟩:=(Sig.tyOk ht).info'
    have ih:=placesOf_spec hr
    simp only [List.mapM_cons,hx,Option.map_some,ih]
    simp [h1]
   ·cases h
  ·cases h
def evPartsG (env:Env) (ec:EnvC) (G:GId):List (Nat × Operand)→Option (List (Nat × Value))
  | []=>some []
  | (i,x)::l=>match evX env ec G x with
    | some v=>match evPartsG env ec G l with
      | some vs=>some ((i,v)::vs)
      | none=>none
    | none=>none
theorem evPartsG_spec {N:FK} {all:Array Oper} {env:Env} {ec:EnvC} {a:Act} {G:GId} (ha:Agrees N all env ec a) (hG:Holds all a G):∀ {l:List (Nat × Operand)} {vs:List (Nat × Value)},evPartsG env ec G l=some vs→l.map (fun (i,x)=>(i,a.eval x))=vs
  | [],vs,h=>by cases h;rfl
  | (i,x)::l,vs,h=>by
    unfold evPartsG at h
    split at h
    · rename_i v hv
      split at h
      · rename_i us hus
        cases h
        rw [List.map_cons,evPartsG_spec ha hG hus]
        simp only [evX_spec ha hG hv]
      · cases h
    · cases h
def evBd (S:Sig) (env:Env) (ec:EnvC) (G:GId) (o:Oper):Option (List Value) :=
 match o.op with
 | .build t ps=>match S.ty t,evPartsG env ec G ps.toList with
  | some ⟨.struct fs,_,_,z⟩,some vs=>match placesOf S fs with
   | some pl=>fillL pl z.cells.toList vs
   | none=>none
  | _,_=>none
 | _=>none
theorem evBd_spec {S:Sig} {N:FK} {all:Array Oper} {env:Env} {ec:EnvC} {G:GId} {o:Oper} {a:Act} (ha:Agrees N all env ec a) (hG:Holds all a G) {cs:List Value}
  (h:evBd S env ec G o=some cs) (w:World):(execOp a.eval o).run S.P w = .ok (.value (.agg cs.toArray)) w:=by
 obtain⟨dst,op,ty,pos,aft,gd⟩:=o
 unfold evBd at h
 dsimp only at h
 split at h
 ·rename_i t ps
  split at h
  ·rename_i fs q1 q2 z vs ht hvs
   split at h
   ·rename_i pl hpl
    have hk:=Sig.tyOk ht
    obtain⟨fa,hfa,hfs⟩:=hk.fits
    have hz:=hk.zeroValue w
    dsimp only at hz
    rw [← hfs] at hpl
    have hpl2:=run_places (P:=S.P) w fa.toList pl (placesOf_spec hpl)
    have hpl3:(fa.mapM fun f=>do pure (f.offset, ← sizeOf f.type):Sem (Array (Nat × Nat))).run S.P w = .ok pl.toArray w:=by
     rw [Array.mapM_eq_mapM_toList]
     have h3:(List.toArray <$> List.mapM (fun f=>do pure (f.offset, ← sizeOf f.type)) fa.toList:Sem (Array (Nat × Nat)))=(do let l ← List.mapM (fun f=>do pure (f.offset, ← sizeOf f.type)) fa.toList;pure l.toArray):=map_eq_pure_bind _ _
     rw [h3]
     have h4:(fun f:Field=>Prod.mk f.offset <$> sizeOf f.type)=(fun f:Field=>(do pure (f.offset, ← sizeOf f.type):Sem (Nat × Nat))):=by
      funext f;exact map_eq_pure_bind _ _
     rw [h4] at hpl2
     simp only [Sem.run_bind,hpl2,Result.andThen_ok,Sem.run_pure]
    have hparts:(Array.map (fun x:Nat × Operand=>(x.1,a.eval x.2)) ps).toList=vs:=by rw [Array.toList_map];exact evPartsG_spec ha hG hvs
    have hf:=fillL_spec h
    have hf':Instr.fill (fun i=>pl.toArray[i]?) z.cells vs=some cs.toArray:=hf
    simp only [execOp,Instr.build,Sem.run_bind,hz,Result.andThen_ok,run_underlying hfa,hpl3]
    rw [hparts,hf']
    rfl
   ·cases h
  ·cases h
 ·cases h
theorem Val.build {C:Cx} {all:Array Oper} {o:Oper} {env:Env} {ec:EnvC} {Hs:List HA} {G:GId} {cs:List Value} (hv:evBd C.S env ec G o=some cs):Val C all o env ec Hs G (.agg cs.toArray):=fun _ w ha _ hH=>evBd_spec ha hH hv w
def evQ (env:Env) (ec:EnvC) (G:GId) (o:Oper):Option (Bool × TypeId × Array Value × Array Value) :=
 match o.op with
 | .binOp op t x y _=>match op,evX env ec G x,evX env ec G y with
  | .eql,some (.agg xs),some (.agg ys)=>some (true,t,xs,ys)
  | .neq,some (.agg xs),some (.agg ys)=>some (false,t,xs,ys)
  | _,_,_=>none
 | _=>none
theorem Val.eqS {C:Cx} {all:Array Oper} {o:Oper} {env:Env} {ec:EnvC} {Hs:List HA} {G:GId} {p:Bool} {t:TypeId} {xs ys:Array Value} {r:Bool} (hv:evQ env ec G o=some (p,t,xs,ys))
  (he:∀ w,(Op.equalIn 10000 t (.agg xs) (.agg ys)).run C.S.P w = .ok r w) (hg:C.S.P.eqGuardType C.S.P.depth t=false):Val C all o env ec Hs G (.bool (cond p r (!r))):=by
 intro a w ha _ hH
 obtain⟨dst,op,ty,pos,aft,gd⟩:=o
 unfold evQ at hv
 dsimp only at hv
 split at hv
 ·rename_i op t' x y t2
  split at hv
  ·rename_i xs' ys' hx hy
   cases hv
   have e1:=evX_spec ha hH hx
   have e2:=evX_spec ha hH hy
   simp only [execOp,e1,e2]
   rw [Sem.run_bind,Sem.run_bind,run_eqGuard_agg w _ _ _ _ _ _ hg,Result.andThen_ok,run_eql_struct,he w]
   rfl
  ·rename_i xs' ys' hx hy
   cases hv
   have e1:=evX_spec ha hH hx
   have e2:=evX_spec ha hH hy
   simp only [execOp,e1,e2]
   rw [Sem.run_bind,Sem.run_bind,run_eqGuard_agg w _ _ _ _ _ _ hg,Result.andThen_ok,run_neq_struct,he w]
   rfl
  ·cases hv
 ·cases hv

theorem RdC.at {w:World} {b off i:Nat} {vs:List Value} {u:Value} (h:RdC w b off vs) (hv:vs[i]?=some u):RdC w b (off+i) [u]:=by
 intro j x hx
 cases j with
 | zero=>simp at hx;subst hx;exact h i u hv
 | succ j=>simp at hx
theorem RdC.at2 {w:World} {b off i j:Nat} {vs:List Value} {u:Value} (h:RdC w b off vs) (hv:vs[i+j]?=some u):RdC w b (off+i+j) [u]:=by
 rw [Nat.add_assoc];exact h.at hv
theorem Hle.cons {A:HA} {H K:List HA} (h:∃ p:Nat→Nat,(∀ (i:Nat) (B:HA),K[i]?=some B→H[p i]?=some B)∧∀ i j,i<K.length→j<K.length→i≠j→p i≠p j):∃ p:Nat→Nat,(∀ (i:Nat) (B:HA),(A::K)[i]?=some B→(A::H)[p i]?=some B)∧∀ i j,i<(A::K).length→j<(A::K).length→i≠j→p i≠p j:=by
 obtain⟨p,h1,h2⟩:=h
 refine ⟨fun i=>match i with | 0=>0|i+1=>p i+1,fun i B hi=>?_,fun i j hi hj hne=>?_⟩
 ·cases i with
  | zero=>simpa using hi
  | succ i=>simpa using h1 i B (by simpa using hi)
 ·cases i <;> cases j <;> dsimp only <;> try omega
  rename_i i j
  have:=h2 i j (by simpa using hi) (by simpa using hj) (by omega)
  omega
class SubP (H K:List HA):Prop where
 at_:∃ p:Nat→Nat,(∀ (i:Nat) (B:HA),K[i]?=some B→H[p i]?=some B)∧∀ i j,i<K.length→j<K.length→i≠j→p i≠p j
instance SubP.nil (H:List HA):SubP H []:=⟨id,fun i B h=>by simp at h,fun i j h=>by simp at h⟩
instance (priority:=low) SubP.drop (A:HA) (H K:List HA) [h:SubP H K]:SubP (A::H) K:=⟨by
 obtain⟨p,h1,h2⟩:=h.at_
 exact⟨fun i=>p i+1,fun i B hi=>by simpa using h1 i B hi,fun i j hi hj hne=>by have:=h2 i j hi hj hne;dsimp only;omega⟩⟩
instance SubP.keep (A:HA) (H K:List HA) [h:SubP H K]:SubP (A::H) (A::K):=⟨Hle.cons h.at_⟩
theorem Hle.sub {H K:List HA} [h:SubP H K]:Hle H K:=by
 obtain⟨p,h1,h2⟩:=h.at_
 exact Hle.pick p h1 h2
def nums:List Nat:=0::1::2::3::4::5::6::7::8::9::10::11::12::13::14::15::16::17::18::19::20::21::22::23::24::25::26::27::28::29::30::31::32::33::34::35::36::37::38::39::40::41::42::43::44::45::46::47::48::49::50::51::52::53::54::55::56::57::58::59::60::61::62::63::64::65::66::67::68::69::70::71::72::73::74::75::76::77::78::79::80::81::82::83::84::85::86::87::88::89::90::91::92::93::94::95::96::97::98::99::100::101::102::103::104::105::106::107::108::109::110::111::112::113::114::115::116::117::118::119::120::121::122::123::124::125::126::127::128::129::[]
def isNum (x:Nat):List Nat→Bool
 | []=>false
 | y::l=>Nat.beq x y || isNum x l
def bindsA (e:Edge):Bool:=match e.ground with
 | .textOnly _=>false
 | .gcOnly _=>false
 | _=>true
def ordL:List Nat→List Oper→List Nat
 | n::ns,_::os=>n::ordL ns os
 | _,_=>[]
def freeL (rem:List (Nat × Oper)):List Edge→Bool
 | []=>true
 | e::l=>(cond (bindsA e) (!(isNum e.on (rem.map Prod.fst))) true) && freeL rem l
def zipN:List Nat→List Oper→List (Nat × Oper)
 | n::ns,o::os=>(n,o)::zipN ns os
 | _,_=>[]
def pickV (rem:List (Nat × Oper)):List (Nat × Oper)→Option Nat
  | (n,o)::l=>cond (quietO o.op && freeL rem o.after.toList) (some n) (pickV rem l)
  | []=>none
def pickC (rem:List (Nat × Oper)):List (Nat × Oper)→Option Nat
  | (n,o)::l=>cond (freeL rem o.after.toList) (some n) (pickC rem l)
  | []=>none
def dropN (i:Nat):List (Nat × Oper)→List (Nat × Oper)
  | (n,o)::l=>cond (Nat.beq n i) l ((n,o)::dropN i l)
  | []=>[]
def ordS:Nat→List (Nat × Oper)→List Nat
 | f+1,rem=>match pickV rem rem with
  | some i=>i::ordS f (dropN i rem)
  | none=>match pickC rem rem with
   | some i=>i::ordS f (dropN i rem)
   | none=>[]
 | 0,_=>[]
def effZ:List (Nat × Oper)→Nat
  | (n,o)::l=>match o.op with
    | .store _ _ _=>n
    | .call { callee := .builtin .append,args:=_,argTypes:=_ }=>n
    | _=>effZ l
  | []=>1000
section
variable {C:Cx} {all:Array Oper} {o:Oper} {rest:List Oper} {k:List It} {env:Env} {ec:EnvC} {H Hs:List HA} {d:Nat} {v:Value} {done ord:List Nat} {G:GId} {z:Nat} {i:Nat}
theorem chkR_cons {all:Array Oper} {z i:Nat} {done ord:List Nat} (h:chkR all z done (i::ord)=true):chkR all z (i::done) ord=true∧noDef all=true∧Region.noSelect all=true∧∃ o,all[i]?=some o ∧
  ((quietO o.op=true∧Region.free .any all (lst all done) i=true∧(Region.ready .any all (lst all done)).contains i=true∧waits .any all z i=true∧live z (lst all done)=true)∨(quietO o.op=false∧Region.ready .any all (lst all done)=[i])):=by
 simp only [chkR,chkOrd,Bool.and_eq_true] at h
 obtain⟨h1,h2,h3,h4⟩:=h
 refine ⟨by simp only [chkR,Bool.and_eq_true];exact⟨h1,h2,h4⟩,h1,h2,?_⟩
 cases ho:all[i]? with
 | none=>rw [ho] at h3;cases h3
 | some o =>
  rw [ho] at h3
  simp only at h3
  cases hq:quietO o.op with
  | true=>rw [hq] at h3;simp only [cond_true,Bool.and_eq_true] at h3;exact⟨o,rfl, .inl ⟨hq,h3.1,h3.2.1,h3.2.2.1,h3.2.2.2⟩⟩
  | false=>rw [hq] at h3;simp only [cond_false,decide_eq_true_eq] at h3;exact⟨o,rfl, .inr ⟨hq,h3⟩⟩
theorem rs0 {id:Nat} (z:Nat) (ord:List Nat) (hn:Nat.beq all.size ord.length=true) (hc:chkR all z [] ord=true) (h:T C (.run all [] ord H z::k) env [] H):T C (.code (.region id all true)::k) env ec H:=by
 refine T.mk fun a w ha hw=>?_
 have:=h a _ ha.plain hw.drew hc
 have e:all.size=ord.length:=Nat.eq_of_beq_eq_true hn
 rw [← e] at this
 exact wpIn_region_heldR C.S.mixed this
theorem rsH {id:Nat} (Hs:List HA) (z:Nat) (ord:List Nat) (h:T C (.run all [] ord Hs z::k) env [] H) (hn:Nat.beq all.size ord.length=true:=by exact rfl) (hc:chkR all z [] ord=true:=by decide +kernel):T C (.code (.region id all true)::k) env ec H:=by
 refine T.mk fun a w ha hw=>?_
 have:=h a _ ha.plain hw.drew hc
 have e:all.size=ord.length:=Nat.eq_of_beq_eq_true hn
 rw [← e] at this
 exact wpIn_region_heldR C.S.mixed this
theorem rsL {id:Nat} (hn:Nat.beq all.size (ordL nums all.toList).length=true) (hc:chkR all (effZ (zipN nums all.toList)) [] (ordL nums all.toList)=true) (h:T C (.run all [] (ordL nums all.toList) H (effZ (zipN nums all.toList))::k) env [] H):T C (.code (.region id all true)::k) env ec H:=rs0 _ _ hn hc h
theorem rsS {id:Nat} (hn:Nat.beq all.size (ordS 130 (zipN nums all.toList)).length=true) (hc:chkR all (effZ (zipN nums all.toList)) [] (ordS 130 (zipN nums all.toList))=true) (h:T C (.run all [] (ordS 130 (zipN nums all.toList)) H (effZ (zipN nums all.toList))::k) env [] H):T C (.code (.region id all true)::k) env ec H:=rs0 _ _ hn hc h
theorem re (hord:ord=[]) (h:T C (nf 60 k) env [] H):T C (.run all done ord Hs z::k) env ec H:=by
 refine T.mk fun a w ha hw hc=>?_
 subst hord
 simp only [chkR,chkOrd,Bool.and_eq_true,List.isEmpty_iff] at hc
 exact wpAnyHR_done hc.2.2 (nf_spec (n:=60) (h a w ha.plain hw)) _
theorem rv (hi:all[i]?=some o) (hq:quietO o.op=true) (hg:gOf all env ec o=some []) (hv:Val C all o env ec Hs [] v) (hd:o.dst=some d) (hN:Nat.blt d C.N.n=true) (hs:safeC all d ec=true)
  (h:T C (.run all (i::done) ord Hs z::k) ((d,v)::env) ec H) (hle:Hle H Hs:=by first|exact Hle.refl _|exact Hle.none _|exact Hle.append_right _|exact Hle.sub):T C (.run all done (i::ord) Hs z::k) env ec H:=by
 refine T.mk fun a w ha hw hc=>?_
 obtain⟨hc',hnd,hns,o',hi',hcase⟩:=chkR_cons hc
 rw [hi] at hi';cases hi'
 obtain⟨_,hf,hr,hz,hlv⟩:=hcase.resolve_right (fun h=>by rw [hq] at h;cases h.1)
 have hwn:=(wanted_iff ha hg).2 (Holds.nil _ _)
 refine wpAnyHR_take hnd hi hns hf hr hz hlv (fun c a w q=>q) (.inl ⟨hwn,fun w' hw'=>hv a w' ha hw' (Holds.nil _ _)⟩) (hw.le hle) ?_
 rw [hd]
 exact h _ w (ha.put hN hs) hw hc'
theorem rg (hi:all[i]?=some o) (hq:quietO o.op=true) (hg:gOf all env ec o=some G) (hv:Val C all o env ec Hs G v) (hd:o.dst=some d) (hN:Nat.blt d C.N.n=true) (hs:safeC all d ec=true) (hsG:safeG all d G=true) (hl:lookE env d=none)
  (h:T C (.run all (i::done) ord Hs z::k) env ((d,(G,v))::ec) H) (hle:Hle H Hs:=by first|exact Hle.refl _|exact Hle.none _|exact Hle.append_right _|exact Hle.sub):T C (.run all done (i::ord) Hs z::k) env ec H:=by
 refine T.mk fun a w ha hw hc=>?_
 obtain⟨hc',hnd,hns,o',hi',hcase⟩:=chkR_cons hc
 rw [hi] at hi';cases hi'
 obtain⟨_,hf,hr,hz,hlv⟩:=hcase.resolve_right (fun h=>by rw [hq] at h;cases h.1)
 by_cases hH:Holds all a G
 ·have hwn:=(wanted_iff ha hg).2 hH
  refine wpAnyHR_take hnd hi hns hf hr hz hlv (fun c a w q=>q) (.inl ⟨hwn,fun w' hw'=>hv a w' ha hw' hH⟩) (hw.le hle) ?_
  rw [hd]
  exact h _ w (ha.putC hN hs hsG hl (fun _=>rfl) (fun hh=>absurd hH hh)) hw hc'
 ·have hwn:Region.wanted o (yielded all a.tmps)=false:=by
   cases hq:Region.wanted o (yielded all a.tmps) with
   | false=>rfl
   | true=>exact absurd ((wanted_iff ha hg).1 hq) hH
  refine wpAnyHR_take hnd hi hns hf hr hz hlv (fun c a w q=>q) (.inr ⟨hwn,rfl⟩) (hw.le hle) ?_
  rw [hd]
  exact h _ w (ha.putC hN hs hsG hl (fun hh=>absurd hh hH) (fun _=>rfl)) hw hc'
theorem ro (hi:all[i]?=some o) (hq:quietO o.op=false)
  (h:OpT C all o env ec H (fun env' ec' H'=>(live z (lst all (i::done))=true→Hle H' Hs)∧T C (.run all (i::done) ord Hs z::k) env' ec' H')):T C (.run all done (i::ord) Hs z::k) env ec H:=by
 refine T.mk fun a w ha hw hc=>?_
 obtain⟨hc',hnd,hns,o',hi',hcase⟩:=chkR_cons hc
 rw [hi] at hi';cases hi'
 obtain⟨_,hr⟩:=hcase.resolve_left (fun h=>by rw [hq] at h;cases h.1)
 refine wpAnyHR_all hr (by simp) fun j hj=>?_
 have:j=i:=by simpa using hj
 subst this
 have:=h a w ha hw (fun a' w'=>(live z (lst all (j::done))=true→Cls C.w0 w' Hs)∧wpAnyHR C.rd 0 C.S.P .any all (post (sem C k).1 (sem C k).2 C.Rr) (fun w=>Cls C.w0 w Hs) z ord.length (lst all (j::done)) a' w') (post (sem C k).1 (sem C k).2 C.Rr)
  (fun env' ec' H' a' w' hT ha' hw'=>⟨fun hl=>hw'.le (hT.1 hl),hT.2 a' w' ha' hw' hc'⟩)
 unfold wpOpIn
 rw [hi]
 simp only
 split
 ·rename_i hwn;exact this.1 hwn
 ·rename_i hwn;exact⟨about_Fr o _ w _,this.2 (by simpa using hwn)⟩
theorem rc {f:FuncId} {args:List Value} (hi:all[i]?=some o) (hq:quietO o.op=false) (hg:gOf all env ec o=some []) (he:evCall env ec [] o=some (f,args)) (hd:o.dst=some d) (hN:Nat.blt d C.N.n=true) (hs:safeC all d ec=true)
  (hc:∀ w,Cls C.w0 w H→Spec C.S.P f args w (fun u A=>u=v∧A=[])) (h:T C (.run all (i::done) ord Hs z::k) ((d,v)::env) ec H)
  (hle:Hle H Hs:=by first|exact Hle.refl _|exact Hle.none _|exact Hle.append_right _|exact Hle.sub):T C (.run all done (i::ord) Hs z::k) env ec H :=
 ro hi hq (OpT.callV hg he hd hN hs hc ⟨fun _=>hle,h⟩)
theorem rcG {f:FuncId} {args:List Value} (hi:all[i]?=some o) (hq:quietO o.op=false) (hg:gOf all env ec o=some G) (he:evCall env ec G o=some (f,args)) (hd:o.dst=some d) (hN:Nat.blt d C.N.n=true) (hs:safeC all d ec=true) (hsG:safeG all d G=true) (hl:lookE env d=none)
  (hc:GP all env ec G→∀ w,Cls C.w0 w H→Spec C.S.P f args w (fun u A=>u=v∧A=[])) (h:T C (.run all (i::done) ord Hs z::k) env ((d,(G,v))::ec) H)
  (hle:Hle H Hs:=by first|exact Hle.refl _|exact Hle.none _|exact Hle.append_right _|exact Hle.sub):T C (.run all done (i::ord) Hs z::k) env ec H :=
 ro hi hq (OpT.callC hg he hd hN hs hsG hl hc ⟨fun _=>hle,h⟩)
theorem rcE {f:FuncId} {args:List Value} {α:Type} {p:α→Prop} {val:α→Value} {own:α→HA} (hi:all[i]?=some o) (hq:quietO o.op=false) (hg:gOf all env ec o=some []) (he:evCall env ec [] o=some (f,args)) (hd:o.dst=some d) (hN:Nat.blt d C.N.n=true) (hs:safeC all d ec=true)
  (hc:∀ w,Cls C.w0 w H→Spec C.S.P f args w (fun u A=>∃ x,p x∧u=val x∧A=[own x])) (h:∀ x,p x→T C (.run all (i::done) ord Hs z::k) ((d,val x)::env) ec (own x::H))
  (hle:∀ x,Hle (own x::H) Hs:=by intro x;first|exact Hle.tail _ _|exact Hle.none _|exact (Hle.tail _ _).trans (Hle.append_right _)):T C (.run all done (i::ord) Hs z::k) env ec H :=
 ro hi hq (OpT.call hg he hd hN hs hc (by rintro u A ⟨x,hp,rfl,rfl⟩;exact⟨fun _=>hle x,h x hp⟩))
end

theorem d1 {A B:Prop} (h:B) (hab:B→A:=by
  intro hh
  first
  | ((show T _ (.ops _ (⟨_, .load _ _,_,_,_,none⟩::_)::_) _ _ _)
     first
     | exact T_load rfl rfl rfl rfl rfl (rdOwn1 rfl) hh
     | exact T_loadA rfl rfl rfl rfl rfl rdAll rfl hh
     | exact T_load rfl rfl rfl rfl rfl (rdOld ‹RdC _ _ _ [_]›) hh
     | exact T_load rfl rfl rfl rfl rfl (rdOld (RdC.at ‹RdC _ _ _ _› rfl)) hh
     | exact T_load rfl rfl rfl rfl rfl (rdOld (RdC.at2 ‹RdC _ _ _ _› rfl)) hh
     | exact T_loadA rfl rfl rfl rfl rfl (rdOld ‹RdC _ _ _ _›) rfl hh)
  | ((show T _ (.ops _ (⟨_, .load _ _,_,_,_,some _⟩::_)::_) _ _ _)
     first
     | exact T_loadC rfl rfl rfl rfl rfl rfl rfl (fun _=>rdOwn1 rfl) hh
     | exact T_loadAC rfl rfl rfl rfl rfl rfl rfl (fun _=>rdAll) rfl hh
     | exact T_loadC rfl rfl rfl rfl rfl rfl rfl (fun _=>rdOld ‹RdC _ _ _ [_]›) hh
     | exact T_loadC rfl rfl rfl rfl rfl rfl rfl (fun _=>rdOld (RdC.at ‹RdC _ _ _ _› rfl)) hh
     | exact T_loadC rfl rfl rfl rfl rfl rfl rfl (fun _=>rdOld (RdC.at2 ‹RdC _ _ _ _› rfl)) hh
     | exact T_loadAC rfl rfl rfl rfl rfl rfl rfl (fun _=>rdOld ‹RdC _ _ _ _›) rfl hh)
  | ((show T _ (.ops _ (⟨_, .store _ _ _,_,_,_,_⟩::_)::_) _ _ _)
     first
     | exact T_op (OpT.store rfl rfl rfl rfl (by first|exact Nat.le_of_ble_eq_true rfl|decide|(simp;omega)) hh)
     | exact T_op (OpT.storeA rfl rfl rfl rfl rfl rfl (by first|exact Nat.le_of_ble_eq_true rfl|decide|(simp;omega)) hh))
  | ((show T _ (.ops _ (⟨_, .box _ _,_,_,_,_⟩::_)::_) _ _ _)
     exact T_op (OpT.box rfl rfl rfl rfl rfl rfl rfl hh))
  | ((show T _ (.ops _ (⟨_, .alloc _,_,_,_,_⟩::_)::_) _ _ _)
     exact T_op (OpT.alloc rfl rfl rfl rfl rfl rfl rfl hh))
  | ((show T _ (.ops _ (⟨_, .buildSlice _ _ _,_,_,_,_⟩::_)::_) _ _ _)
     exact T_op (OpT.litW rfl rfl rfl rfl rfl rfl rfl rfl rfl rfl rfl hh))
  | ((show T _ (.ops _ (⟨_, .build _ _,_,_,_,none⟩::_)::_) _ _ _)
     exact T_val rfl (Val.build rfl) rfl rfl rfl hh)
  | ((show T _ (.ops _ (⟨_, .build _ _,_,_,_,some _⟩::_)::_) _ _ _)
     exact T_valC rfl (Val.build rfl) rfl rfl rfl rfl rfl hh)
  | ((show T _ (.ops _ (⟨_,_,_,_,_,none⟩::_)::_) _ _ _)
     first
     | exact T_pure rfl rfl rfl rfl rfl hh
     | exact T_vc rfl rfl rfl rfl rfl (by first|(simp only [inK];omega)|omega|with_reducible exact True.intro|with_reducible assumption) hh)
  | ((show T _ (.ops _ (⟨_,_,_,_,_,some _⟩::_)::_) _ _ _)
     first
     | exact T_pureC rfl rfl rfl rfl rfl rfl rfl hh
     | exact T_vcC rfl rfl rfl rfl rfl rfl rfl (fun hg=>by
         (simp only [List.cons_append,List.nil_append,GP,dstL,lookE,Nat.beq,cond,List.getElem?_cons_zero,List.getElem?_cons_succ,Option.bind_some,and_true,Bool.and_eq_true,Bool.or_eq_true,Bool.and_eq_false_iff,Bool.or_eq_false_iff,Bool.not_eq_true',Bool.not_eq_false',decide_eq_true_eq,decide_eq_false_iff_not] at hg)
         first|(simp only [inK];omega)|omega|with_reducible exact True.intro|with_reducible assumption) hh)
  | ((show T _ (.ops _ []::_) _ _ _)
     exact T_end hh)):A:=hab h
theorem dd {A B:Prop} (h:B) (hab:B→A:=by
  intro hh
  first
  | ((show T _ (.code (.region _ _ true)::_) _ _ _)
     first
     | exact rsL rfl (by decide +kernel) hh
     | exact rsS rfl (by decide +kernel) hh)
  | ((show T _ (.run _ _ [] _ _::_) _ _ _)
     exact re rfl hh)
  | ((show T _ (.run _ _ (_::_) _ _::_) _ _ _)
     first
     | exact rv rfl rfl rfl (by
         first
         | exact Val.pure rfl
         | exact Val.load rfl (fun _=>rdOwn1 rfl)
         | exact Val.loadA rfl (fun _=>rdAll) rfl
         | exact Val.build rfl
         | exact Val.load rfl (fun _=>rdOld ‹RdC _ _ _ [_]›)
         | exact Val.load rfl (fun _=>rdOld (RdC.at ‹RdC _ _ _ _› rfl))
         | exact Val.load rfl (fun _=>rdOld (RdC.at2 ‹RdC _ _ _ _› rfl))
         | exact Val.loadA rfl (fun _=>rdOld ‹RdC _ _ _ _›) rfl
         | exact Val.vc rfl (fun hg=>by first|(simp only [inK];omega)|omega|with_reducible exact True.intro|with_reducible assumption)) rfl rfl rfl hh
     | exact rg rfl rfl rfl (by
         first
         | exact Val.pure rfl
         | exact Val.load rfl (fun _=>rdOwn1 rfl)
         | exact Val.loadA rfl (fun _=>rdAll) rfl
         | exact Val.build rfl
         | exact Val.load rfl (fun _=>rdOld ‹RdC _ _ _ [_]›)
         | exact Val.load rfl (fun _=>rdOld (RdC.at ‹RdC _ _ _ _› rfl))
         | exact Val.load rfl (fun _=>rdOld (RdC.at2 ‹RdC _ _ _ _› rfl))
         | exact Val.loadA rfl (fun _=>rdOld ‹RdC _ _ _ _›) rfl
         | exact Val.vc rfl (fun hg=>by
             (simp only [List.cons_append,List.nil_append,GP,dstL,lookE,Nat.beq,cond,List.getElem?_cons_zero,List.getElem?_cons_succ,Option.bind_some,and_true,Bool.and_eq_true,Bool.or_eq_true,Bool.and_eq_false_iff,Bool.or_eq_false_iff,Bool.not_eq_true',Bool.not_eq_false',decide_eq_true_eq,decide_eq_false_iff_not] at hg)
             first|(simp only [inK];omega)|omega|with_reducible exact True.intro|with_reducible assumption)) rfl rfl rfl rfl rfl hh
     | exact ro rfl rfl (OpT.store rfl rfl rfl rfl (by first|exact Nat.le_of_ble_eq_true rfl|decide|(simp;omega)) ⟨fun h=>by first|exact absurd h (by decide +kernel)|exact Hle.sub,hh⟩))):A:=hab h

def memN (s:Nat):List Nat→Bool
 | []=>false
 | x::l=>Nat.beq x s || memN s l
inductive KeepX:Env→List Nat→Env→Prop where
 | nil (ks:List Nat):KeepX [] ks []
 | drop {s:Nat} {v:Value} {env env':Env} {ks:List Nat} (h:memN s ks=true) (r:KeepX env ks env'):KeepX ((s,v)::env) ks env'
 | keep {s:Nat} {v:Value} {env env':Env} {ks:List Nat} (h:memN s ks=false) (r:KeepX env (s::ks) env'):KeepX ((s,v)::env) ks ((s,v)::env')
theorem memN_spec {s:Nat}:∀ {l:List Nat},memN s l=true↔s∈l
 | []=>by simp [memN]
 | x::l=>by
  simp only [memN,Bool.or_eq_true,List.mem_cons,memN_spec (l:=l)]
  rw [show (Nat.beq x s=true)↔s=x from ⟨fun h=>(Nat.eq_of_beq_eq_true h).symm,fun h=>by subst h;simp⟩]
theorem EnvLe.of {l env:Env} (h:∀ s v,(s,v)∈l→lookE env s=some v):EnvLe l env:=by
 induction l with
 | nil=>trivial
 | cons x l ih=>exact⟨h x.1 x.2 (.head _),ih fun s v hm=>h s v (.tail _ hm)⟩
theorem KeepX.mem {env env':Env} {ks:List Nat} (h:KeepX env ks env'):∀ s v,(s,v)∈env'→s ∉ ks∧lookE env s=some v:=by
 induction h with
 | nil ks=>intro s v h;cases h
 | drop h r ih =>
  rename_i s' v' env env' ks
  intro s v hl
  obtain⟨h1,h2⟩:=ih s v hl
  refine ⟨h1,?_⟩
  have hne:=memN_spec.1 h
  unfold lookE
  have:Nat.beq s' s=false:=by
   cases hb:Nat.beq s' s with
   | false=>rfl
   | true=>have e:=Nat.eq_of_beq_eq_true hb;subst e;exact absurd hne h1
  rw [this];exact h2
 | keep h r ih =>
  rename_i s' v' env env' ks
  intro s v hl
  rcases List.mem_cons.1 hl with e|hl
  ·cases e
   refine ⟨fun hm=>?_,?_⟩
   ·rw [memN_spec.2 hm] at h;cases h
   ·unfold lookE;simp
  ·obtain⟨h1,h2⟩:=ih s v hl
   refine ⟨fun hm=>h1 (.tail _ hm),?_⟩
   unfold lookE
   have:Nat.beq s' s=false:=by
    cases hb:Nat.beq s' s with
    | false=>rfl
    | true=>have e:=Nat.eq_of_beq_eq_true hb;subst e;exact absurd List.mem_cons_self h1
   rw [this];exact h2
theorem KeepX.le {env env':Env} {ks:List Nat} (h:KeepX env ks env'):EnvLe env' env:=EnvLe.of fun s v hm=>(h.mem s v hm).2
theorem EnvLe.append {l m env:Env} (h1:EnvLe l env) (h2:EnvLe m env):EnvLe (l++m) env:=by
 induction l with
 | nil=>exact h2
 | cons x l ih=>exact⟨h1.1,ih h1.2⟩
section
variable {C:Cx} {k:List It} {env:Env} {ec:EnvC} {H:List HA}
theorem T_loopX {c:Code} {σ:Type} {ks:List Nat} {env':Env} (U:σ→Env) (G:σ→List HA) (I:σ→Prop) (μ:σ→Nat) (s0:σ) (hI:I s0)
  (hr:∀ s,I s→T C (nf 60 (.code c :: .mark (Back C (fun s=>U s++env') G I μ s)::k)) (U s++env') [] (G s))
  (hks:(U s0).map Prod.fst=ks:=by exact rfl)
  (hk:KeepX env ks env':=by repeat' (first|exact KeepX.nil _|apply KeepX.drop rfl|apply KeepX.keep rfl))
  (hE:EnvLe (U s0) env:=by repeat' (first|exact True.intro|refine And.intro rfl ?_)) (hG:Hle H (G s0):=by first|exact Hle.refl _|exact Hle.none _):T C (.code (.loop c)::k) env ec H :=
 T_loop (fun s=>U s++env') G I μ s0 hI (hE.append hk.le) hG hr
theorem T_backX {σ:Type} {U:σ→Env} {env':Env} {G:σ→List HA} {I:σ→Prop} {μ:σ→Nat} {s:σ} (s':σ) (hI:I s') (hμ:μ s'<μ s)
  (hE:EnvLe (U s') env:=by repeat' (first|exact True.intro|refine And.intro rfl ?_)) (hE2:EnvLe env' env:=by repeat' (first|exact True.intro|refine And.intro rfl ?_)) (hG:Hle H (G s'):=by first|exact Hle.refl _|exact Hle.none _) :
  T C (.mark (Back C (fun s=>U s++env') G I μ s)::k) env ec H:=T_back s' hI hμ (hE.append hE2) hG
theorem T_cutX {σ:Type} {env':Env} (m:Nat) (ks:List Nat) (U:σ→Env) (G:σ→List HA) (I:σ→Prop)
  (h1:T C (k.take m ++ .mark (Meets C (fun s=>U s++env') G I)::k.drop m) env ec H) (h2:∀ s,I s→T C (nf 60 (k.drop m)) (U s++env') [] (G s))
  (hm:allOf (k.take m ++ .mark (Meets C (fun s=>U s++env') G I)::k.drop m)=allOf k:=by exact rfl)
  (hk:KeepX env ks env':=by repeat' (first|exact KeepX.nil _|apply KeepX.drop rfl|apply KeepX.keep rfl)):T C k env ec H :=
 T_cutAt m (fun s=>U s++env') G I hm h1 h2
theorem T_meetX {σ:Type} {U:σ→Env} {env':Env} {G:σ→List HA} {I:σ→Prop} (s':σ) (hI:I s')
  (hE:EnvLe (U s') env:=by repeat' (first|exact True.intro|refine And.intro rfl ?_)) (hE2:EnvLe env' env:=by repeat' (first|exact True.intro|refine And.intro rfl ?_)) (hG:Hle H (G s'):=by first|exact Hle.refl _|exact Hle.none _) :
  T C (.mark (Meets C (fun s=>U s++env') G I)::k) env ec H:=T_meet s' hI (hE.append hE2) hG
end
end Go.Proofs.YtblnhdnogjijiaaGreatDoor
namespace Go.Proofs.YtblnhdnogjijiaaGreatDoor
open Go.RowKit Go.Shelf

inductive D where
 | v (x:Value)
 | s (sz:Nat) (l:List D)
abbrev Rdr:=Nat→Nat→Option Value
def wr (w:World):Rdr:=fun b o=>w.cell? ⟨b,o,none⟩
def fr (f:Frag):Rdr:=fun b o=>match f b with
 | some (.cells cs _ _)=>cs[o]?
 | _=>none
def Rdr.le (R S:Rdr):Prop:=∀ b o u,R b o=some u→S b o=some u
inductive Rd (R:Rdr):List Value→List D→Prop where
 | nil:Rd R [] []
 | v (x:Value) {vs:List Value} {ds:List D} (h:Rd R vs ds):Rd R (x::vs) (.v x::ds)
 | s (A:Option Addr) (n cap sz:Nat) (cs:List Value) {l:List D} {vs:List Value} {ds:List D} (hl:l.length=n * sz) (hn:n≤cap) (hm:cap≤9223372036854775807)
   (hc:0<n→isAt A∧∀ j u,cs[j]?=some u→R (bk A) (ofs A+j)=some u) (hcs:Rd R cs l) (h:Rd R vs ds):Rd R (.slice A n cap::vs) (.s sz l::ds)
theorem Rd.mono {R S:Rdr} (hRS:R.le S) {vs:List Value} {ds:List D} (h:Rd R vs ds):Rd S vs ds:=by
 induction h with
 | nil=>exact .nil
 | v x _ ih=>exact .v x ih
 | s A n cap sz cs hl hn hm hc _ _ ih1 ih2=>exact .s A n cap sz cs hl hn hm (fun h=>⟨(hc h).1,fun j u hu=>hRS _ _ _ ((hc h).2 j u hu)⟩) ih1 ih2
theorem Rd.length {R:Rdr} {vs:List Value} {ds:List D} (h:Rd R vs ds):vs.length=ds.length:=by
 induction h with
 | nil=>rfl
 | v x _ ih=>simp [ih]
 | s _ _ _ _ _ _ _ _ _ _ _ _ ih2=>simp [ih2]
theorem Rd.append {R:Rdr} {vs ws:List Value} {ds es:List D} (h:Rd R vs ds) (k:Rd R ws es):Rd R (vs++ws) (ds++es):=by
 induction h with
 | nil=>exact k
 | v x _ ih=>exact .v x ih
 | s A n cap sz cs hl hn hm hc hcs _ _ ih2=>exact .s A n cap sz cs hl hn hm hc hcs ih2
theorem Rd.cons_inv {R:Rdr} {x:Value} {vs:List Value} {d:D} {ds:List D} (h:Rd R (x::vs) (d::ds)):Rd R [x] [d]∧Rd R vs ds:=by
 cases h with
 | v x h=>exact⟨.v x .nil,h⟩
 | s A n cap sz cs hl hn hm hc hcs h=>exact⟨.s A n cap sz cs hl hn hm hc hcs .nil,h⟩
theorem Rd.get {R:Rdr}:∀ {ds:List D} {vs:List Value},Rd R vs ds→∀ {i:Nat} {d:D},ds[i]?=some d→∃ x,vs[i]?=some x∧Rd R [x] [d]
 | [],_,_,i,d,hd=>by simp at hd
 | e::ds,vs,h,i,d,hd=>by
  match vs,h with
  | [],h=>cases h
  | x::vs,h =>
   obtain⟨h1,h2⟩:=h.cons_inv
   cases i with
   | zero=>simp at hd;subst hd;exact⟨x,rfl,h1⟩
   | succ i=>obtain⟨y,hy,hr⟩:=h2.get (i:=i) (by simpa using hd);exact⟨y,by simpa using hy,hr⟩
theorem Rd.split {R:Rdr}:∀ {ds es:List D} {vs:List Value},Rd R vs (ds++es)→∃ ws us,vs=ws++us∧Rd R ws ds∧Rd R us es
 | [],es,vs,h=>⟨[],vs,rfl, .nil,h⟩
 | d::ds,es,vs,h=>by
  match vs,h with
  | [],h=>cases h
  | x::vs,h =>
   obtain⟨h1,h2⟩:=h.cons_inv
   obtain⟨ws,us,rfl,h3,h4⟩:=h2.split
   exact⟨x::ws,us,rfl,h1.append h3,h4⟩
theorem Rd.take {R:Rdr} {ds:List D} {vs:List Value} (h:Rd R vs ds) (n:Nat):Rd R (vs.take n) (ds.take n)∧Rd R (vs.drop n) (ds.drop n):=by
 have hl:=h.length
 rw [← List.take_append_drop n ds] at h
 obtain⟨ws,us,rfl,h1,h2⟩:=h.split
 have h3:=h1.length
 have h4:=h2.length
 have hw:ws.length=min n ds.length:=by rw [h3,List.length_take]
 by_cases hn:n≤ds.length
 ·have e:n=ws.length:=by omega
  refine ⟨?_,?_⟩
  ·rw [e,List.take_left, ← e];exact h1
  ·rw [e,List.drop_left, ← e];exact h2
 ·have e1:ds.take n=ds:=List.take_of_length_le (by omega)
  have e2:ds.drop n=[]:=List.drop_eq_nil_of_le (by omega)
  rw [e2] at h2 h4 ⊢
  have e3:us=[]:=List.eq_nil_of_length_eq_zero (by simpa using h4)
  subst e3
  rw [e1] at h1 ⊢
  rw [List.append_nil,List.take_of_length_le (by rw [h1.length];omega),List.drop_eq_nil_of_le (by rw [h1.length];omega)]
  exact⟨h1, .nil⟩
theorem Rd.val {R:Rdr} {x:Value} {y:Value} (h:Rd R [x] [.v y]):x=y:=by cases h;rfl
theorem Rd.vals {R:Rdr}:∀ (vs:List Value),Rd R vs (vs.map .v)
 | [] => .nil
 | x::vs => .v x (Rd.vals vs)
theorem Rd.vals_inv {R:Rdr}:∀ {xs vs:List Value},Rd R vs (xs.map .v)→vs=xs
 | [],[],_=>rfl
 | x::xs,y::vs,h=>by
  obtain⟨h1,h2⟩:=Rd.cons_inv (d := .v x) h
  rw [h1.val,h2.vals_inv]
theorem Rd.vals_one {R:Rdr} {xs:List Value} {x:Value} {sz:Nat} (h:Rd R [x] [.s sz (xs.map .v)]):∃ A n cap,x = .slice A n cap∧xs.length=n * sz∧n≤cap∧cap≤9223372036854775807∧(0<n→isAt A∧∀ j u,xs[j]?=some u→R (bk A) (ofs A+j)=some u):=by
 cases h with
 | s A n cap sz cs hl hn hm hc hcs _ =>
  have:=hcs.vals_inv
  subst this
  exact⟨A,n,cap,rfl,by simpa using hl,hn,hm,hc⟩
theorem Rd.slice {R:Rdr} {x:Value} {sz:Nat} {l:List D} (h:Rd R [x] [.s sz l]):∃ A n cap cs,x = .slice A n cap∧l.length=n * sz∧cs.length=n * sz∧n≤cap∧cap≤9223372036854775807∧(0<n→isAt A∧∀ j u,cs[j]?=some u→R (bk A) (ofs A+j)=some u)∧Rd R cs l:=by
 cases h with
 | s A n cap sz cs hl hn hm hc hcs _=>exact⟨A,n,cap,cs,rfl,hl,by rw [hcs.length,hl],hn,hm,hc,hcs⟩
theorem Rd.src {w:World} {x:Value} {sz:Nat} {l:List D} (h:Rd (wr w) [x] [.s sz l]):∃ A n cap cs,x = .slice A n cap∧l.length=n * sz∧n≤cap∧cap≤9223372036854775807∧Src w sz A n cs∧Rd (wr w) cs l:=by
 obtain⟨A,n,cap,cs,h1,h2,h3,h4,h5,h6,h7⟩:=h.slice
 exact⟨A,n,cap,cs,h1,h2,h4,h5,⟨h3,fun hn=>⟨(h6 hn).1,(h6 hn).2⟩⟩,h7⟩
theorem Rd.srcV {w:World} {x:Value} {sz:Nat} {xs:List Value} (h:Rd (wr w) [x] [.s sz (xs.map .v)]):∃ A n cap,x = .slice A n cap∧xs.length=n * sz∧n≤cap∧cap≤9223372036854775807∧Src w sz A n xs:=by
 obtain⟨A,n,cap,h1,h2,h4,h5,h6⟩:=h.vals_one
 exact⟨A,n,cap,h1,h2,h4,h5,⟨h2,fun hn=>⟨(h6 hn).1,(h6 hn).2⟩⟩⟩
theorem Src.rd {w:World} {sz:Nat} {A:Option Addr} {n cap:Nat} {xs:List Value} (h:Src w sz A n xs) (hn:n≤cap) (hm:cap≤9223372036854775807):Rd (wr w) [.slice A n cap] [.s sz (xs.map .v)] :=
 .s A n cap sz xs (by rw [List.length_map];exact h.1) hn hm (fun h1=>⟨(h.2 h1).1,(h.2 h1).2⟩) (Rd.vals xs) .nil
theorem Src.rdD {w:World} {sz:Nat} {A:Option Addr} {n cap:Nat} {cs:List Value} {l:List D} (h:Src w sz A n cs) (hn:n≤cap) (hm:cap≤9223372036854775807) (hr:Rd (wr w) cs l):Rd (wr w) [.slice A n cap] [.s sz l] :=
 .s A n cap sz cs (by rw [← hr.length];exact h.1) hn hm (fun h1=>⟨(h.2 h1).1,(h.2 h1).2⟩) hr .nil
theorem wr_below {w w':World} (hb:Below w.heap.size w w'):(wr w).le (wr w'):=fun _ _ _ hu=>(hb.cell (lt_of_cell hu)).trans hu
theorem Rd.old {w0 w:World} {H:List HA} {vs:List Value} {ds:List D} (h:Rd (wr w0) vs ds) (hw:Cls w0 w H):Rd (wr w) vs ds:=h.mono (wr_below hw.below)

def dat (vs:List Value) (ds:List D):HA:=fun f=>Rd (fr f) vs ds
def fz (p:Frag):HA:=fun f=>f=p
class FocusZ (H:List HA) (p:Frag):Prop where
 at_:∃ i:Nat,H[i]?=some (fz p)
instance FocusZ.head (H:List HA) (p:Frag):FocusZ (fz p::H) p:=⟨0,rfl⟩
instance FocusZ.tail (A0:HA) (H:List HA) (p:Frag) [h:FocusZ H p]:FocusZ (A0::H) p:=⟨by obtain⟨i,h1⟩:=h.at_;exact⟨i+1,by simpa using h1⟩⟩
theorem fr_le {w:World} {f:Frag} (h:∀ b o,f b=some o→w.heap[b]?=some o):(fr f).le (wr w):=by
 intro b o u hu
 unfold fr at hu
 cases hf:f b with
 | none=>rw [hf] at hu;cases hu
 | some ob =>
  rw [hf] at hu
  cases ob <;> simp only at hu <;> try (cases hu;done)
  rename_i cs t m
  unfold wr
  rw [cell_of_row w b o cs t m (h b _ hf)]
  exact hu
theorem Cls.fz {w0 w:World} {H:List HA} {p:Frag} (hw:Cls w0 w H) [hz:FocusZ H p]:(fr p).le (wr w):=by
 obtain⟨i,hi⟩:=hz.at_
 obtain⟨F,h1,h2,h3⟩:=hw.sep
 have hil:i<H.length:=(List.getElem?_eq_some_iff.1 hi).1
 have hp:F i=p:=h1 i _ hi
 subst hp
 exact fr_le fun b o hf=>(h2 i b o hil hf).2
theorem Rd.own {w0 w:World} {H:List HA} {p:Frag} [FocusZ H p] {vs:List Value} {ds:List D} (h:Rd (fr p) vs ds) (hw:Cls w0 w H):Rd (wr w) vs ds:=h.mono (hw.fz (p:=p))
theorem T_open {C:Cx} {k:List It} {env:Env} {ec:EnvC} {H:List HA} {vs:List Value} {ds:List D} (h:∀ p,Rd (fr p) vs ds→T C k env ec (fz p::H)):T C k env ec (dat vs ds::H):=by
 refine T.mk fun a w ha hw=>?_
 obtain⟨F,h1,h2,h3⟩:=hw.sep
 have hd:=h1 0 _ rfl
 refine h (F 0) hd a w ha ⟨hw.below,F,fun i A hi=>?_,h2,h3⟩
 cases i with
 | zero=>simp at hi;subst hi;rfl
 | succ i=>exact h1 (i+1) A (by simpa using hi)
theorem fz_dat {p:Frag} {vs:List Value} {ds:List D} (h:Rd (fr p) vs ds):∀ f,fz p f→dat vs ds f:=fun f hf=>by subst hf;exact h

theorem hle_merge {A B E:HA} {H:List HA} (h:∀ f g:Frag,(∀ b,f b=none∨g b=none)→A f→B g→E (fun b=>(f b).or (g b))):Hle (A::B::H) (E::H):=by
 rintro n0 w ⟨F,h1,h2,h3⟩
 have hE:=h (F 0) (F 1) (fun b=>h3 0 1 b (by simp) (by simp) (by omega)) (h1 0 _ rfl) (h1 1 _ rfl)
 refine ⟨fun i=>match i with | 0=>fun b=>(F 0 b).or (F 1 b)|i+1=>F (i+2),fun i A hi=>?_,fun i b o hi hf=>?_,fun i j b hi hj hne=>?_⟩
 ·cases i with
  | zero=>simp at hi;subst hi;exact hE
  | succ i=>exact h1 (i+2) A (by simpa using hi)
 ·cases i with
  | zero =>
   dsimp only at hf
   cases hq:F 0 b with
   | some x=>rw [hq] at hf;simp at hf;subst hf;exact h2 0 b x (by simp) hq
   | none=>rw [hq] at hf;simp at hf;exact h2 1 b o (by simp) hf
  | succ i=>exact h2 (i+2) b o (by simp at hi ⊢;omega) hf
 ·have both:∀ j,j+2<(A::B::H).length→((F 0 b).or (F 1 b)=none∨F (j+2) b=none):=by
   intro j hj
   rcases h3 0 (j+2) b (by simp) hj (by omega) with h|h
   ·rcases h3 1 (j+2) b (by simp) hj (by omega) with h'|h'
    ·left;rw [h,h'];rfl
    ·exact .inr h'
   ·exact .inr h
  cases i with
  | zero =>
   cases j with
   | zero=>omega
   | succ j=>exact both j (by simp at hj ⊢;omega)
  | succ i =>
   cases j with
   | zero=>exact (both i (by simp at hi ⊢;omega)).symm
   | succ j=>exact h3 (i+2) (j+2) b (by simp at hi ⊢;omega) (by simp at hj ⊢;omega) (by omega)
theorem hle_unit {B:HA} {H:List HA} (h:B (fun _=>none)):Hle H (B::H):=by
 rintro n0 w ⟨F,h1,h2,h3⟩
 refine ⟨fun i=>match i with | 0=>fun _=>none|i+1=>F i,fun i A hi=>?_,fun i b o hi hf=>?_,fun i j b hi hj hne=>?_⟩
 ·cases i with
  | zero=>simp at hi;subst hi;exact h
  | succ i=>exact h1 i A (by simpa using hi)
 ·cases i with
  | zero=>cases hf
  | succ i=>exact h2 i b o (by simpa using hi) hf
 ·cases i with
  | zero=>exact .inl rfl
  | succ i =>
   cases j with
   | zero=>exact .inr rfl
   | succ j=>exact h3 i j b (by simpa using hi) (by simpa using hj) (by omega)
theorem hle_map {A B:HA} {H:List HA} (h:∀ f,A f→B f):Hle (A::H) (B::H):=Hle.weaken (i:=0) rfl h rfl
theorem fr_or_left {f g:Frag}:(fr f).le (fr (fun b=>(f b).or (g b))):=by
 intro b o u hu
 unfold fr at hu ⊢
 cases hf:f b with
 | none=>rw [hf] at hu;cases hu
 | some x=>rw [hf] at hu;dsimp only;rw [hf];exact hu
theorem fr_or_right {f g:Frag} (h:∀ b,f b=none∨g b=none):(fr g).le (fr (fun b=>(f b).or (g b))):=by
 intro b o u hu
 unfold fr at hu ⊢
 cases hg:g b with
 | none=>rw [hg] at hu;cases hu
 | some x =>
  rw [hg] at hu
  rcases h b with h|h
  ·dsimp only;rw [h,hg];exact hu
  ·rw [hg] at h;cases h
theorem dat_nil (H:List HA):Hle H (dat [] []::H):=hle_unit Rd.nil
theorem dat_vals (H:List HA) (vs:List Value):Hle H (dat vs (vs.map .v)::H):=hle_unit (Rd.vals vs)
theorem dat_join {vs ws:List Value} {ds es:List D} {H:List HA}:Hle (dat ws es::dat vs ds::H) (dat (vs++ws) (ds++es)::H) :=
 hle_merge fun _ _ hd h1 h2=>(Rd.mono (fr_or_right hd) h2).append (Rd.mono fr_or_left h1)
theorem fr_one {g o:Nat} {cs:Array Value} {t:TypeId} {m:Nat × Nat}:fr (one g (.cells cs t m)) g o=cs[o]?:=by unfold fr one;simp
theorem dat_row {e:TypeId} {sz cap n:Nat} {A:Option Addr} {cs:List Value} {l:List D} {H:List HA}:Hle (row e sz A cap n cs::dat cs l::H) (dat [.slice A n cap] [.s sz l]::H) :=
 hle_merge fun f g hd h1 h2=>by
  obtain⟨hl,h1⟩:=h1
  rcases h1 with⟨rfl,rfl,rfl,rfl⟩|⟨b,cur,rfl,rfl,h3,h4,h5,h6⟩
  ·have:cs=[]:=List.eq_nil_of_length_eq_zero (by simpa using hl)
   subst this
   have hl2:=Rd.length h2
   exact .s none 0 0 sz [] (by rw [← hl2];simp) (Nat.le_refl _) (by omega) (fun h=>absurd h (by omega)) (Rd.mono (fr_or_right hd) h2) .nil
  ·refine .s _ n cap sz cs (by rw [← Rd.length h2];exact hl) h3 (by simp only [maxLen] at h4;exact h4) (fun _=>⟨rfl,fun j u hu=>?_⟩) (Rd.mono (fr_or_right hd) h2) .nil
   refine fr_or_left _ _ _ ?_
   show fr _ b (0+j)=_
   rw [fr_one,Nat.zero_add]
   rw [← h6,List.getElem?_take] at hu
   split at hu
   ·simpa using hu
   ·cases hu
theorem dat_rowV {e:TypeId} {sz cap n:Nat} {A:Option Addr} {cs:List Value} {H:List HA}:Hle (row e sz A cap n cs::H) (dat [.slice A n cap] [.s sz (cs.map .v)]::H):=by
 refine Hle.trans ?_ (dat_row (e:=e) (cs:=cs))
 exact (dat_vals _ cs).trans (Hle.perm (List.Perm.swap _ _ _))
theorem dat_blk {e:TypeId} {sz n:Nat} {b:Nat} {cs:List Value} {l:List D} {H:List HA} (hl:cs.length=n * sz) (hn:n≤9223372036854775807):Hle (blk b cs e::dat cs l::H) (dat [.slice (some ⟨b,0,none⟩) n n] [.s sz l]::H) :=
 (Hle.weaken (i:=0) rfl (blk_row (sz:=sz) hl (by simp only [maxLen];exact hn)) rfl).trans dat_row
theorem dat_blkV {e:TypeId} {sz n:Nat} {b:Nat} {cs:List Value} {H:List HA} (hl:cs.length=n * sz) (hn:n≤9223372036854775807):Hle (blk b cs e::H) (dat [.slice (some ⟨b,0,none⟩) n n] [.s sz (cs.map .v)]::H) :=
 (Hle.weaken (i:=0) rfl (blk_row (sz:=sz) hl (by simp only [maxLen];exact hn)) rfl).trans dat_rowV
end Go.Proofs.YtblnhdnogjijiaaGreatDoor
namespace Go.Proofs.YtblnhdnogjijiaaGreatDoor
open Go.RowKit Go.Shelf Go.ChangeShapes Go.WideShapes Go.Deep

def wtL (p:TypeId→List D→Prop):List (TypeId × Nat)→List D→Prop
  | [],ds=>ds=[]
  | (t,_)::fs,ds=>∃ a b,ds=a++b∧p t a∧wtL p fs b
def wt (S:Sig):Nat→TypeId→List D→Prop
 | 0,_,_=>False
 | f+1,t,ds=>match S.ty t with
  | some ⟨.int k,_,_,_⟩=>∃ n,ds=[.v (.int k n)]∧(Lit.int k n).wf=true
  | some ⟨.bool,_,_,_⟩=>∃ b,ds=[.v (.bool b)]
  | some ⟨.str,_,_,_⟩=>∃ s:ByteArray,ds=[.v (.string s)]∧s.size≤maxLen
  | some ⟨.slice e,_,_,_⟩=>match S.ty e with
   | some ⟨_,sz,_,_⟩=>∃ l n,ds=[.s sz l]∧l.length=n * sz∧n≤maxLen∧∀ i,i<n→wt S f e ((l.drop (i * sz)).take sz)
   | none=>False
  | some ⟨.struct fs,_,_,_⟩=>wtL (wt S f) fs ds
  | some ⟨.arr n e,_,_,_⟩=>match S.ty e with
   | some ⟨_,sz,_,_⟩=>ds.length=n * sz∧∀ i,i<n→wt S f e ((ds.drop (i * sz)).take sz)
   | none=>False
  | _=>False
def okL (S:Sig) (ok:TypeId→Bool):Nat→List (TypeId × Nat)→Option Nat
 | acc,[]=>some acc
 | acc,(t,off)::fs=>match S.ty t with
  | some ⟨_,sz,_,_⟩=>cond (ok t && Nat.beq off acc) (okL S ok (acc+sz) fs) none
  | none=>none
def okT (S:Sig):Nat→TypeId→Bool
 | 0,_=>false
 | f+1,t=>match S.ty t with
  | some ⟨.int _,_,_,_⟩=>true
  | some ⟨.bool,_,_,_⟩=>true
  | some ⟨.str,_,_,_⟩=>true
  | some ⟨.slice e,_,_,_⟩=>okT S f e && (match S.ty e with|some ⟨_,_+1,_,_⟩=>true|_=>false)
  | some ⟨.struct fs,sz,_,_⟩=>(match okL S (okT S f) 0 fs with|some n=>Nat.beq n sz|none=>false)
  | some ⟨.arr n e,sz,_,_⟩=>okT S f e && (match S.ty e with|some ⟨_,m,_,_⟩=>Nat.beq (n * m) sz|_=>false)
  | _=>false
theorem cellsOf_ty {S:Sig} {t:TypeId} {i:TyI} (h:S.ty t=some i):S.P.cellsOf t=i.size:=by
 obtain⟨x,hx,h1,_⟩:=(Sig.tyOk h).info'
 simp [Program.cellsOf,hx,h1]
section
variable {H:Type} {enc:TypeId × Value→H} {S:Sig} {w:World} {base:Nat} {spare:Nat→Bool} {held:Bool}
theorem chunk_app {α:Type} {l m:List α} {sz k:Nat} (hl:l.length=k * sz) (hm:m.length=sz):(∀ i,i<k→((l++m).drop (i * sz)).take sz=(l.drop (i * sz)).take sz)∧((l++m).drop (k * sz)).take sz=m:=by
 refine ⟨fun i hi=>?_,?_⟩
 ·have h1:(i+1) * sz≤k * sz:=Nat.mul_le_mul_right sz hi
  rw [Nat.add_mul,Nat.one_mul] at h1
  rw [List.drop_append_of_le_length (by omega),List.take_append_of_le_length (by rw [List.length_drop];omega)]
 ·rw [← hl,List.drop_left, ← hm,List.take_length]
theorem trod_wt:∀ (f:Nat) {t:TypeId},okT S f t=true→∀ {fuel:Nat} {cs:List Value} {x:DataW H × List MemPlace},DataW.trod enc S.P w base spare held fuel t cs=some x→∃ ds,Rd (wr w) cs ds∧wt S f t ds
 | 0,_,h,_,_,_,_=>by cases h
 | f+1,t,h,fuel,cs,x,hx=>by
  unfold okT at h
  split at h
  ·rename_i k q1 q2 q3 ht
   have hf:=(Sig.tyOk ht).fits
   obtain⟨n,rfl,_,hw⟩:=DataW.trod_int hf hx
   exact⟨[.v (.int k n)], .v _ .nil,by unfold wt;rw [ht];exact⟨n,rfl,hw⟩⟩
  ·rename_i q1 q2 q3 ht
   have hf:=(Sig.tyOk ht).fits
   obtain⟨b,rfl,_⟩:=DataW.trod_bool hf hx
   exact⟨[.v (.bool b)], .v _ .nil,by unfold wt;rw [ht];exact⟨b,rfl⟩⟩
  ·rename_i q1 q2 q3 ht
   have hf:=(Sig.tyOk ht).fits
   obtain⟨s,rfl,_,hw⟩:=DataW.trod_string hf hx
   exact⟨[.v (.string s)], .v _ .nil,by unfold wt;rw [ht];exact⟨s,rfl,hw⟩⟩
  ·rename_i e q1 q2 q3 ht
   have hf:=(Sig.tyOk ht).fits
   simp only [Bool.and_eq_true] at h
   obtain⟨h1,h2⟩:=h
   split at h2
   ·rename_i d m b z he
    have hC:S.P.cellsOf e=m+1:=cellsOf_ty he
    rcases open_slice hf hx with⟨rfl,_⟩|⟨a,len,cap,mm,n,Dd,Pl,rfl,hb,hl,hm,hmm,_,hi⟩
    ·refine ⟨[.s (m+1) []], .s none 0 0 (m+1) [] (by simp) (Nat.le_refl _) (by omega) (fun h=>absurd h (by omega)) .nil .nil,?_⟩
     unfold wt;rw [ht];simp only [he]
     exact⟨[],0,rfl,by simp,by simp [maxLen],fun i hi=>by omega⟩
    ·have hlm:len≤mm:=by rw [hmm];split <;> omega
     have key:∀ k,k≤len→∃ cs l,cs.length=k * (m+1)∧(∀ j u,cs[j]?=some u→w.cell? (a.add j)=some u)∧Rd (wr w) cs l∧∀ i,i<k→wt S f e ((l.drop (i * (m+1))).take (m+1)):=by
      intro k
      induction k with
      | zero=>exact fun _=>⟨[],[],by simp,fun j u hu=>by simp at hu, .nil,fun i hi=>by omega⟩
      | succ k ih =>
       intro hk
       obtain⟨cs,l,g1,g2,g3,g4⟩:=ih (by omega)
       obtain⟨cs',hc,hd⟩:=hi k (by omega)
       rw [hC] at hc
       obtain⟨_,hcl,hat⟩:=World.cells?_some hc
       obtain⟨ds,r1,r2⟩:=trod_wt f h1 hd
       have hll:=g3.length
       have hdl:=r1.length
       obtain⟨c1,c2⟩:=chunk_app (l:=l) (m:=ds) (sz:=m+1) (k:=k) (by omega) (by omega)
       refine ⟨cs++cs',l++ds,by rw [List.length_append,g1,hcl,Nat.add_mul,Nat.one_mul],fun j u hu=>?_,g3.append r1,fun i hi=>?_⟩
       ·by_cases hj:j<cs.length
        ·rw [List.getElem?_append_left hj] at hu;exact g2 j u hu
        ·rw [List.getElem?_append_right (by omega)] at hu
         have:=hat (j - cs.length) (by have:=(List.getElem?_eq_some_iff.1 hu).1;omega)
         rw [Go.Deep.add_add,hu] at this
         rw [← this]
         congr 2
         omega
       ·rcases Nat.lt_or_ge i k with hik|hik
        ·rw [c1 i hik];exact g4 i hik
        ·rw [show i=k by omega,c2];exact r2
     obtain⟨cs,l,g1,g2,g3,g4⟩:=key len (Nat.le_refl _)
     have hll:=g3.length
     refine ⟨[.s (m+1) l], .s (some a) len cap (m+1) cs (by omega) hl (by simp only [maxLen] at hm;exact hm) (fun hpos=>?_) g3 .nil,?_⟩
     ·have h0:0<cs.length:=by rw [g1];exact Nat.mul_pos hpos (by omega)
      have hsp:a.spot=none:=by
       have:=g2 0 _ (List.getElem?_eq_getElem h0)
       have:=World.cell?_spot this
       unfold Addr.add at this
       split at this
       ·exact this
       ·rename_i hne;exact absurd rfl hne
      refine ⟨?_,fun j u hu=>?_⟩
      ·unfold isAt bk ofs
       obtain⟨b',o',s'⟩:=a
       simp only at hsp
       subst hsp
       rfl
      ·have:=g2 j u hu
       obtain⟨b',o',s'⟩:=a
       simp only at hsp
       subst hsp
       unfold Addr.add at this
       show w.cell? ⟨b',o'+j,none⟩=some u
       split at this
       ·rename_i e0;rw [e0];simpa using this
       ·exact this
     ·unfold wt;rw [ht];simp only [he]
      exact⟨l,len,rfl,by rw [← hll,g1],by omega,g4⟩
   ·cases h2
  ·rename_i fs sz q2 q3 ht
   obtain⟨fa,hfa,hfs⟩:=(Sig.tyOk ht).fits
   split at h
   ·rename_i n0 hok
    have hn0:n0=sz:=Nat.eq_of_beq_eq_true h
    obtain⟨xs,n,_,_,hlen,hxl,hfld⟩:=DataW.trod_struct hfa hx
    have hcs:cs.length=sz:=hlen.trans (cellsOf_ty ht)
    have key:∀ (l:List Field) (acc k:Nat),(∀ (i:Nat) (g:Field),l[i]?=some g→fa[k+i]?=some g)→okL S (okT S f) acc (l.map fun g=>(g.type,g.offset))=some sz→acc≤cs.length →
      ∃ ds,Rd (wr w) (cs.drop acc) ds∧wtL (wt S f) (l.map fun g=>(g.type,g.offset)) ds:=by
     intro l
     induction l with
     | nil =>
      intro acc k _ ho ha
      simp only [List.map_nil,okL,Option.some.injEq] at ho
      refine ⟨[],?_,rfl⟩
      rw [List.drop_eq_nil_of_le (by omega)]
      exact .nil
     | cons g l ih =>
      intro acc k hl ho ha
      simp only [List.map_cons,okL] at ho
      split at ho
      ·rename_i d gs b z hg
       cases hc:(okT S f g.type && Nat.beq g.offset acc) with
       | false=>rw [hc] at ho;cases ho
       | true =>
        rw [hc] at ho
        simp only [cond_true] at ho
        simp only [Bool.and_eq_true] at hc
        have hoff:g.offset=acc:=Nat.eq_of_beq_eq_true hc.2
        have h0:=hfld k g (by simpa using hl 0 g rfl)
        have hk:k<xs.length:=by
         have:=(Array.getElem?_eq_some_iff.1 (show fa[k]?=some g by simpa using hl 0 g rfl)).1
         omega
        rw [List.getElem?_eq_getElem hk,cellsOf_ty hg,hoff] at h0
        obtain⟨ds1,r1,r2⟩:=trod_wt f hc.1 h0
        have hacc:acc+gs≤cs.length:=by
         have:∀ (fs:List (TypeId × Nat)) (a b:Nat),okL S (okT S f) a fs=some b→a≤b:=by
          intro fs
          induction fs with
          | nil=>intro a b h;simp only [okL,Option.some.injEq] at h;omega
          | cons x fs ih =>
           intro a b h
           obtain⟨t',o'⟩:=x
           simp only [okL] at h
           split at h
           ·rename_i d' s' b' z' _
            cases hq:(okT S f t' && Nat.beq o' a) with
            | false=>rw [hq] at h;cases h
            | true=>rw [hq] at h;have:=ih _ _ h;omega
           ·cases h
         have:=this _ _ _ ho
         omega
        obtain⟨ds2,r3,r4⟩:=ih (acc+gs) (k+1) (fun i g' hg'=>by have:=hl (i+1) g' (by simpa using hg');rw [← this];congr 1;omega) ho hacc
        refine ⟨ds1++ds2,?_,ds1,ds2,rfl,r2,r4⟩
        have e:=List.take_append_drop gs (cs.drop acc)
        rw [List.drop_drop] at e
        rw [← e]
        exact r1.append r3
      ·cases ho
    rw [← hfs] at hok
    obtain⟨ds,r1,r2⟩:=key fa.toList 0 0 (fun i g hg=>by simpa using hg) (by rw [hok,hn0]) (Nat.zero_le _)
    refine ⟨ds,by simpa using r1,?_⟩
    unfold wt;rw [ht];simp only
    rw [← hfs]
    exact r2
   ·cases h
  ·rename_i n e sz q2 q3 ht
   have hf:=(Sig.tyOk ht).fits
   simp only [Bool.and_eq_true] at h
   obtain⟨h1,h2⟩:=h
   split at h2
   ·rename_i d m b z he
    have hC:S.P.cellsOf e=m:=cellsOf_ty he
    have hsz:n * m=sz:=Nat.eq_of_beq_eq_true h2
    obtain⟨xs,mm,_,_,hlen,hxl,hel⟩:=DataW.trod_array hf hx
    have hcs:cs.length=n * m:=by rw [hlen,cellsOf_ty ht,hsz]
    rw [hC] at hel
    have key:∀ k,k≤n→∃ l,Rd (wr w) (cs.take (k * m)) l∧∀ i,i<k→wt S f e ((l.drop (i * m)).take m):=by
     intro k
     induction k with
     | zero=>exact fun _=>⟨[],by rw [Nat.zero_mul,List.take_zero];exact .nil,fun i hi=>by omega⟩
     | succ k ih =>
      intro hk
      obtain⟨l,g3,g4⟩:=ih (by omega)
      have h0:=hel k (by omega)
      rw [List.getElem?_eq_getElem (by omega)] at h0
      obtain⟨ds,r1,r2⟩:=trod_wt f h1 h0
      have h9:(k+1) * m≤n * m:=Nat.mul_le_mul_right m hk
      rw [Nat.add_mul,Nat.one_mul] at h9
      have hll:=g3.length
      have hdl:=r1.length
      rw [List.length_take] at hll
      rw [List.length_take,List.length_drop] at hdl
      obtain⟨c1,c2⟩:=chunk_app (l:=l) (m:=ds) (sz:=m) (k:=k) (by omega) (by omega)
      refine ⟨l++ds,?_,fun i hi=>?_⟩
      ·have e:=g3.append r1
       rw [Nat.add_mul,Nat.one_mul,List.take_add]
       exact e
      ·rcases Nat.lt_or_ge i k with hik|hik
       ·rw [c1 i hik];exact g4 i hik
       ·rw [show i=k by omega,c2];exact r2
    obtain⟨l,g3,g4⟩:=key n (Nat.le_refl _)
    rw [← hcs,List.take_length] at g3
    refine ⟨l,g3,?_⟩
    unfold wt;rw [ht];simp only [he]
    exact⟨by rw [← g3.length,hcs],g4⟩
   ·cases h2
  ·cases h
end
section
variable {H:Type} {enc:TypeId × Value→H} {P:Program}
theorem post_of_below {f:Func} {s:ChangeSpec} {apart fresh handsOn again:Bool} {W W':World} {args:Array Value} {v:Value} {ds gs:List (DataW H)} {before pa pv:List MemPlace}
  (hW:DataW.Whole enc P f.params.toList s.vars apart W args.toList ds gs before)
  (hres:∀ (b:Nat) (sp:Nat→Bool) (hd:Bool),DataW.TrodAll enc P W' b sp hd f.resultTypes.toList (v.resultList f.resultTypes.size) (s.fn H (ds++gs)).results [])
  (hargs:∀ sp:Nat→Bool,(∀ p∈before,sp p.block=true)→DataW.TrodAll enc P W' 0 sp true f.params.toList args.toList (s.fn H (ds++gs)).args pa)
  (hvars:∀ sp:Nat→Bool,(∀ p∈before,sp p.block=true)→DataW.TrodVars enc P W' sp s.vars (s.fn H (ds++gs)).vars pv)
  (hps:before=pa++pv) (hb:Below W.heap.size W W')
  (hok:∀ (j:Nat) (t:TypeId) (r:Value),f.resultTypes[j]?=some t→(v.resultList f.resultTypes.size)[j]?=some r→Value.okWide P W' .any 0 t r) :
  s.post enc P f apart fresh handsOn again W args v W':=by
 have hlt:∀ p∈before,p.block<W.heap.size:=fun p hp=>hW.lt p hp
 have hold:∀ p∈before,(fun b=>decide (b<W.heap.size)) p.block=true:=fun p hp=>by simpa using hlt p hp
 refine ⟨ds,gs,before,[],pa,pv,hW,hres _ _ _,hargs _ hold,hvars _ hold,World.keptBut_mono (fun p hp=>⟨hp,?_⟩) (hb.frame (· ∈ before)),fun _=>?_⟩
 ·rw [hps,List.mem_append] at hp
  exact Or.inr hp
 ·obtain⟨_,_,_,_,_,hz,hn⟩:=hW
  refine ⟨hok,_,_,([]++pa)++pv,⟨[]++pa,pv,trodAll_append (hargs _ (fun _ _=>rfl)) (hres _ _ _),hvars _ (fun _ _=>rfl),rfl,?_,?_⟩,?_⟩
  ·intro b off hp
   have hin:MemPlace.cell b off∈before:=by rw [hps];simpa using hp
   rw [hb.frozen (hlt _ hin)]
   exact hz b off hin
  ·intro ha
   have:=hn ha
   rw [hps] at this
   simpa using this
  ·intro p hp _
   rw [hps]
   simpa using hp
theorem trodAll_stays (hl:laidOutB P=true) {W W':World} {sp':Nat→Bool}:∀ {ts:List TypeId} {vs:List Value} {ds:List (DataW H)} {ps:List MemPlace},(∀ t∈ts,P.readableRec t=true∧t<P.types.size) →
  DataW.TrodAll enc P W 0 (fun _=>true) true ts vs ds ps→(∀ p∈ps,W.sameAt W' p)→(∀ p∈ps,sp' p.block=true)→DataW.TrodAll enc P W' 0 sp' true ts vs ds ps
 | [],vs,ds,ps,_,h,_,_=>by
  obtain⟨rfl,rfl,rfl⟩:=trodAll_nil h
  exact trodAll_mk0
 | t::ts,vs,ds,ps,hr,h,hs,hp=>by
  obtain⟨v,vs',d,ds',p,q,rfl,rfl,rfl,h1,h2⟩:=trodAll_cons h
  have ht:=hr t (List.mem_cons_self ..)
  exact trodAll_cons_mk (Go.WideElems.Trod_stays hl ht.1 ht.2 h1 (fun x hx=>hs x (List.mem_append_left _ hx)) (fun x hx=>hp x (List.mem_append_left _ hx)))
   (trodAll_stays hl (fun t' ht'=>hr t' (List.mem_cons_of_mem _ ht')) h2 (fun x hx=>hs x (List.mem_append_right _ hx)) (fun x hx=>hp x (List.mem_append_right _ hx)))
theorem law_post {f:Func} {s:ChangeSpec} {apart fresh handsOn again:Bool} {W W':World} {args:Array Value} {ds gs:List (DataW H)} {before:List MemPlace} {tb:TypeId}
  (hW:DataW.Whole enc P f.params.toList s.vars apart W args.toList ds gs before) (hs:s.vars=[]) (hfn:s.fn H ds={ results:=[.lit (.bool true)],args:=ds })
  (hl:laidOutB P=true) (hr:∀ t∈f.params.toList,P.readableRec t=true∧t<P.types.size) (hres:f.resultTypes = #[tb]) (htb:P.underlying tb=some .bool) (hb:Below W.heap.size W W') :
  s.post enc P f apart fresh handsOn again W args (.bool true) W':=by
 have hW':=hW
 have hlt:∀ p∈before,p.block<W.heap.size:=fun p hp=>hW.lt p hp
 obtain⟨p,q,hA,hV,rfl,hfz,hnd⟩:=hW
 rw [hs] at hV
 obtain⟨rfl,rfl⟩:=trodVars_none hV
 refine post_of_below (pa:=p) (pv:=[]) hW' (fun b sp hd=>?_) (fun sp hsp=>?_) (fun sp _=>?_) rfl hb (ok_one hres rfl (okWide_bool_mk htb _))
 ·rw [List.append_nil,hfn,hres];exact trodAll_mk1 (shut_bool htb true)
 ·rw [List.append_nil,hfn]
  exact trodAll_stays hl hr hA (fun x hx=>hb.same (hlt x (List.mem_append_left _ hx))) (fun x hx=>hsp x (List.mem_append_left _ hx))
 ·rw [List.append_nil,hfn,hs];rfl
end
end Go.Proofs.YtblnhdnogjijiaaGreatDoor
namespace Go.Proofs
open Go.Shelf
def Tryz.lays137_ren:Go.Shelf.Ren:=⟨fun | 137=>249 | 217=>225 | 266=>261|n=>n,fun | 9=>9 | 5=>5 | 3=>3|n=>n,fun|n=>n⟩
theorem Tryz.lays137:Go.Proofs.Lays.n137 Tryz.prog Tryz.lays137_ren:={
 mixed:=by kernel_rfl
 f137:=Tryz.func249.trans (congrArg some (by kernel_rfl))
 f217:=Tryz.func225.trans (congrArg some (by kernel_rfl))
 f266:=Tryz.func261.trans (congrArg some (by kernel_rfl))
 t3:=Tryz.underlying3
 a3:=Tryz.isAgg3
 z3:=Tryz.sizeOf3
 v3:=Tryz.zeroValue3
 t5:=Tryz.underlying5
 a5:=Tryz.isAgg5
 z5:=Tryz.sizeOf5
 v5:=Tryz.zeroValue5
 t9:=Tryz.underlying9
 a9:=Tryz.isAgg9
 z9:=Tryz.sizeOf9
 v9:=Tryz.zeroValue9 }
open Go.RowKit in
theorem Tryz.strings_IndexByte (s:ByteArray) (c:Int) (w:World) :
  Calls Tryz.prog 249 #[.string s, .int .u8 c] w fun e w'=>e = .returned (.int .i64 (Lib.indexByte s.data.toList c.toNat.toUInt8))∧w'=w:=Any.strings_IndexByte Tryz.lays137 s c w
def Tryz.lays171_ren:Go.Shelf.Ren:=⟨fun | 171=>189 | 243=>229 | 246=>263 | 283=>285 | 284=>286 | 285=>287 | 286=>288 | 129=>247 | 317=>296 | 318=>297 | 319=>298 | 320=>299 | 337=>304 | 338=>305|n=>n,fun | 3=>3 | 9=>9 | 2=>2 | 4=>4 | 171=>288 | 0=>0 | 53=>238 | 37=>87 | 5=>5 | 173=>290 | 212=>303 | 51=>235 | 20=>20 | 213=>304 | 46=>217 | 232=>311 | 233=>312|n=>n,fun | 17=>5 | 18=>6 | 19=>7|n=>n⟩
theorem Tryz.lays171:Go.Proofs.Lays.n171 Tryz.prog Tryz.lays171_ren:={
 mixed:=by kernel_rfl
 f129:=Tryz.func247.trans (congrArg some (by kernel_rfl))
 f171:=Tryz.func189.trans (congrArg some (by kernel_rfl))
 f243:=Tryz.func229.trans (congrArg some (by kernel_rfl))
 f246:=Tryz.func263.trans (congrArg some (by kernel_rfl))
 f283:=Tryz.func285.trans (congrArg some (by kernel_rfl))
 f284:=Tryz.func286.trans (congrArg some (by kernel_rfl))
 f285:=Tryz.func287.trans (congrArg some (by kernel_rfl))
 f286:=Tryz.func288.trans (congrArg some (by kernel_rfl))
 f317:=Tryz.func296.trans (congrArg some (by kernel_rfl))
 f318:=Tryz.func297.trans (congrArg some (by kernel_rfl))
 f319:=Tryz.func298.trans (congrArg some (by kernel_rfl))
 f320:=Tryz.func299.trans (congrArg some (by kernel_rfl))
 f337:=Tryz.func304.trans (congrArg some (by kernel_rfl))
 f338:=Tryz.func305.trans (congrArg some (by kernel_rfl))
 t0:=Tryz.underlying0
 a0:=Tryz.isAgg0
 z0:=Tryz.sizeOf0
 v0:=Tryz.zeroValue0
 t2:=Tryz.underlying2
 a2:=Tryz.isAgg2
 z2:=Tryz.sizeOf2
 v2:=Tryz.zeroValue2
 t3:=Tryz.underlying3
 a3:=Tryz.isAgg3
 z3:=Tryz.sizeOf3
 v3:=Tryz.zeroValue3
 t4:=Tryz.underlying4
 a4:=Tryz.isAgg4
 z4:=Tryz.sizeOf4
 v4:=Tryz.zeroValue4
 t5:=Tryz.underlying5
 a5:=Tryz.isAgg5
 z5:=Tryz.sizeOf5
 v5:=Tryz.zeroValue5
 t9:=Tryz.underlying9
 a9:=Tryz.isAgg9
 z9:=Tryz.sizeOf9
 v9:=Tryz.zeroValue9
 t20:=Tryz.underlying20
 a20:=Tryz.isAgg20
 z20:=Tryz.sizeOf20
 v20:=Tryz.zeroValue20
 t37:=Tryz.underlying87
 a37:=Tryz.isAgg87
 z37:=Tryz.sizeOf87
 v37:=Tryz.zeroValue87
 t46:=Tryz.underlying217
 a46:=Tryz.isAgg217
 z46:=Tryz.sizeOf217
 v46:=Tryz.zeroValue217
 t51:=Tryz.underlying235
 a51:=Tryz.isAgg235
 z51:=Tryz.sizeOf235
 v51:=Tryz.zeroValue235
 t53:=Tryz.underlying238
 a53:=Tryz.isAgg238
 z53:=Tryz.sizeOf238
 v53:=Tryz.zeroValue238
 t171:=Tryz.underlying288
 a171:=Tryz.isAgg288
 z171:=Tryz.sizeOf288
 v171:=Tryz.zeroValue288
 t173:=Tryz.underlying290
 a173:=Tryz.isAgg290
 z173:=Tryz.sizeOf290
 v173:=Tryz.zeroValue290
 t212:=Tryz.underlying303
 a212:=Tryz.isAgg303
 z212:=Tryz.sizeOf303
 v212:=Tryz.zeroValue303
 t213:=Tryz.underlying304
 a213:=Tryz.isAgg304
 z213:=Tryz.sizeOf304
 t232:=Tryz.underlying311
 a232:=Tryz.isAgg311
 z232:=Tryz.sizeOf311
 v232:=Tryz.zeroValue311
 t233:=Tryz.underlying312
 a233:=Tryz.isAgg312
 z233:=Tryz.sizeOf312
 v233:=Tryz.zeroValue312
 g17:=by kernel_rfl
 g18:=by kernel_rfl
 g19:=by kernel_rfl }
open Go.RowKit Go.Sort Go.Lib in
theorem Tryz.strconv_Itoa_small (i:Nat) (hi:i<100) (w:World) :
  Calls Tryz.prog 189 #[.int .i64 i] w fun e w'=>e = .returned (.string ⟨(Lib.decDigits i).toArray⟩)∧w'=w:=Any.strconv_Itoa_small Tryz.lays171 i hi w
def Tryz.laysC172_ren:Go.Shelf.Ren:=⟨fun | 172=>213 | 244=>253 | 245=>254 | 247=>277 | 279=>278 | 280=>279 | 281=>280 | 282=>281 | 287=>292 | 316=>293 | 171=>189 | 205=>294 | 321=>302 | 322=>303 | 243=>229 | 246=>263 | 283=>285 | 284=>286 | 285=>287 | 286=>288 | 129=>247 | 317=>296 | 318=>297 | 319=>298 | 320=>299 | 337=>304 | 338=>305|n=>n,fun | 9=>9 | 3=>3 | 75=>147 | 76=>148 | 4=>4 | 5=>5 | 167=>279 | 37=>87 | 0=>0 | 85=>280 | 2=>2 | 168=>282 | 53=>238 | 175=>295 | 46=>217 | 210=>299 | 127=>151 | 145=>310 | 143=>308 | 21=>21 | 171=>288 | 173=>290 | 212=>303 | 51=>235 | 20=>20 | 213=>304 | 232=>311 | 233=>312 | 80=>94|n=>n,fun | 15=>3 | 16=>4 | 17=>5 | 18=>6 | 19=>7|n=>n⟩
theorem Tryz.laysC172:Go.Proofs.LaysC.n172 Tryz.prog Tryz.laysC172_ren:={
 mixed:=by kernel_rfl
 f129:=Tryz.func247.trans (congrArg some (by kernel_rfl))
 f171:=Tryz.func189.trans (congrArg some (by kernel_rfl))
 f172:=Tryz.func213.trans (congrArg some (by kernel_rfl))
 f205:=Tryz.func294.trans (congrArg some (by kernel_rfl))
 f243:=Tryz.func229.trans (congrArg some (by kernel_rfl))
 f244:=Tryz.func253.trans (congrArg some (by kernel_rfl))
 f245:=Tryz.func254.trans (congrArg some (by kernel_rfl))
 f246:=Tryz.func263.trans (congrArg some (by kernel_rfl))
 f247:=Tryz.func277.trans (congrArg some (by kernel_rfl))
 f279:=Tryz.func278.trans (congrArg some (by kernel_rfl))
 f280:=Tryz.func279.trans (congrArg some (by kernel_rfl))
 f281:=Tryz.func280.trans (congrArg some (by kernel_rfl))
 f282:=Tryz.func281.trans (congrArg some (by kernel_rfl))
 f283:=Tryz.func285.trans (congrArg some (by kernel_rfl))
 f284:=Tryz.func286.trans (congrArg some (by kernel_rfl))
 f285:=Tryz.func287.trans (congrArg some (by kernel_rfl))
 f286:=Tryz.func288.trans (congrArg some (by kernel_rfl))
 f287:=Tryz.func292.trans (congrArg some (by kernel_rfl))
 f316:=Tryz.func293.trans (congrArg some (by kernel_rfl))
 f317:=Tryz.func296.trans (congrArg some (by kernel_rfl))
 f318:=Tryz.func297.trans (congrArg some (by kernel_rfl))
 f319:=Tryz.func298.trans (congrArg some (by kernel_rfl))
 f320:=Tryz.func299.trans (congrArg some (by kernel_rfl))
 f321:=Tryz.func302.trans (congrArg some (by kernel_rfl))
 f322:=Tryz.func303.trans (congrArg some (by kernel_rfl))
 f337:=Tryz.func304.trans (congrArg some (by kernel_rfl))
 f338:=Tryz.func305.trans (congrArg some (by kernel_rfl))
 t0:=Tryz.underlying0
 a0:=Tryz.isAgg0
 z0:=Tryz.sizeOf0
 v0:=Tryz.zeroValue0
 t2:=Tryz.underlying2
 a2:=Tryz.isAgg2
 z2:=Tryz.sizeOf2
 v2:=Tryz.zeroValue2
 t3:=Tryz.underlying3
 a3:=Tryz.isAgg3
 z3:=Tryz.sizeOf3
 v3:=Tryz.zeroValue3
 t4:=Tryz.underlying4
 a4:=Tryz.isAgg4
 z4:=Tryz.sizeOf4
 v4:=Tryz.zeroValue4
 t5:=Tryz.underlying5
 a5:=Tryz.isAgg5
 z5:=Tryz.sizeOf5
 v5:=Tryz.zeroValue5
 t9:=Tryz.underlying9
 a9:=Tryz.isAgg9
 z9:=Tryz.sizeOf9
 v9:=Tryz.zeroValue9
 t20:=Tryz.underlying20
 a20:=Tryz.isAgg20
 z20:=Tryz.sizeOf20
 v20:=Tryz.zeroValue20
 t21:=Tryz.underlying21
 a21:=Tryz.isAgg21
 z21:=Tryz.sizeOf21
 v21:=Tryz.zeroValue21
 t37:=Tryz.underlying87
 a37:=Tryz.isAgg87
 z37:=Tryz.sizeOf87
 v37:=Tryz.zeroValue87
 t46:=Tryz.underlying217
 a46:=Tryz.isAgg217
 z46:=Tryz.sizeOf217
 v46:=Tryz.zeroValue217
 t51:=Tryz.underlying235
 a51:=Tryz.isAgg235
 z51:=Tryz.sizeOf235
 v51:=Tryz.zeroValue235
 t53:=Tryz.underlying238
 a53:=Tryz.isAgg238
 z53:=Tryz.sizeOf238
 v53:=Tryz.zeroValue238
 t75:=Tryz.underlying147
 a75:=Tryz.isAgg147
 z75:=Tryz.sizeOf147
 v75:=Tryz.zeroValue147
 t76:=Tryz.underlying148
 a76:=Tryz.isAgg148
 z76:=Tryz.sizeOf148
 v76:=Tryz.zeroValue148
 t85:=Tryz.underlying280
 a85:=Tryz.isAgg280
 z85:=Tryz.sizeOf280
 v85:=Tryz.zeroValue280
 t127:=Tryz.underlying151
 a127:=Tryz.isAgg151
 z127:=Tryz.sizeOf151
 v127:=Tryz.zeroValue151
 t143:=Tryz.underlying308
 a143:=Tryz.isAgg308
 z143:=Tryz.sizeOf308
 v143:=Tryz.zeroValue308
 t145:=Tryz.underlying310
 a145:=Tryz.isAgg310
 z145:=Tryz.sizeOf310
 v145:=Tryz.zeroValue310
 t167:=Tryz.underlying279
 a167:=Tryz.isAgg279
 z167:=Tryz.sizeOf279
 v167:=Tryz.zeroValue279
 t168:=Tryz.underlying282
 a168:=Tryz.isAgg282
 z168:=Tryz.sizeOf282
 v168:=Tryz.zeroValue282
 t171:=Tryz.underlying288
 a171:=Tryz.isAgg288
 z171:=Tryz.sizeOf288
 v171:=Tryz.zeroValue288
 t173:=Tryz.underlying290
 a173:=Tryz.isAgg290
 z173:=Tryz.sizeOf290
 v173:=Tryz.zeroValue290
 t175:=Tryz.underlying295
 a175:=Tryz.isAgg295
 z175:=Tryz.sizeOf295
 v175:=Tryz.zeroValue295
 t210:=Tryz.underlying299
 a210:=Tryz.isAgg299
 z210:=Tryz.sizeOf299
 v210:=Tryz.zeroValue299
 t212:=Tryz.underlying303
 a212:=Tryz.isAgg303
 z212:=Tryz.sizeOf303
 v212:=Tryz.zeroValue303
 t213:=Tryz.underlying304
 a213:=Tryz.isAgg304
 z213:=Tryz.sizeOf304
 t232:=Tryz.underlying311
 a232:=Tryz.isAgg311
 z232:=Tryz.sizeOf311
 v232:=Tryz.zeroValue311
 t233:=Tryz.underlying312
 a233:=Tryz.isAgg312
 z233:=Tryz.sizeOf312
 v233:=Tryz.zeroValue312
 g15:=by kernel_rfl
 g16:=by kernel_rfl
 g17:=by kernel_rfl
 g18:=by kernel_rfl
 g19:=by kernel_rfl
 t80:=Tryz.underlying94
 a80:=Tryz.isAgg94
 z80:=Tryz.sizeOf94
 v80:=Tryz.zeroValue94
 i0:=by kernel_rfl
 i2:=by kernel_rfl
 i3:=by kernel_rfl
 i4:=by kernel_rfl
 i5:=by kernel_rfl
 i9:=by kernel_rfl
 i20:=by kernel_rfl
 i21:=by kernel_rfl
 i37:=by kernel_rfl
 i46:=by kernel_rfl
 i51:=by kernel_rfl
 i53:=by kernel_rfl
 i75:=by kernel_rfl
 i76:=by kernel_rfl
 i80:=by kernel_rfl
 i85:=by kernel_rfl
 i127:=by kernel_rfl
 i143:=by kernel_rfl
 i145:=by kernel_rfl
 i167:=by kernel_rfl
 i168:=by kernel_rfl
 i171:=by kernel_rfl
 i173:=by kernel_rfl
 i175:=by kernel_rfl
 i210:=by kernel_rfl
 i212:=by kernel_rfl
 i232:=by kernel_rfl
 i233:=by kernel_rfl
 m15:=by kernel_rfl
 m16:=by kernel_rfl
 m17:=by kernel_rfl
 m18:=by kernel_rfl
 m19:=by kernel_rfl
 c0:=by kernel_rfl
 c2:=by kernel_rfl
 c3:=by kernel_rfl
 c4:=by kernel_rfl
 c5:=by kernel_rfl
 c9:=by kernel_rfl
 c20:=by kernel_rfl
 c21:=by kernel_rfl
 c37:=by kernel_rfl
 c46:=by kernel_rfl
 c51:=by kernel_rfl
 c53:=by kernel_rfl
 c75:=by kernel_rfl
 c76:=by kernel_rfl
 c80:=by kernel_rfl
 c85:=by kernel_rfl
 c127:=by kernel_rfl
 c143:=by kernel_rfl
 c145:=by kernel_rfl
 c167:=by kernel_rfl
 c168:=by kernel_rfl
 c171:=by kernel_rfl
 c173:=by kernel_rfl
 c175:=by kernel_rfl
 c210:=by kernel_rfl
 c212:=by kernel_rfl
 c213:=by kernel_rfl
 c232:=by kernel_rfl
 c233:=by kernel_rfl }
open Go.RowKit in
theorem Tryz.strconv_Atoi_ok (s:ByteArray) (hmax:s.size≤9223372036854775806) (v:Int) (h:Lib.atoiAll s.data.toList = .ok v) (w:World) :
  Calls Tryz.prog 213 #[.string s] w fun e w'=>e = .returned (.tuple #[.int .i64 v, .nilIface])∧(w'=w∨∃ t,w'=Lib.bytesWorld w 5 t):=Any.strconv_Atoi_ok Tryz.laysC172 s hmax v h w
open Go.RowKit in
theorem Tryz.strconv_Atoi_syntax_var (s : ByteArray) (hlim : s.size ≤ 281474976710656) (h : Lib.atoiAll s.data.toList = Lib.atoiAll []) (tp : TypeId) (p : Value) (w : World) (hvar : w.var? Tryz.prog "strconv.ErrSyntax" = some #[.iface tp p]) :
  Calls Tryz.prog 213 #[.string s] w fun e w'=>∃ N,e = .returned (.tuple #[.int .i64 0, .iface 282 (.pointer (some ⟨N,0,none⟩))])∧w.heap.size≤N∧w'.heap[N]?=some (.cells #[.string ⟨#[65,116,111,105]⟩, .string s, .iface tp p] 299 (0,0))∧Below w.heap.size w w':=Any.strconv_Atoi_syntax_var Tryz.laysC172 s hlim h tp p w hvar
open Go.RowKit in
theorem Tryz.strconv_Atoi_range_var (s : ByteArray) (hlim : s.size ≤ 281474976710656) (h : Lib.atoiAll s.data.toList = .range) (tp : TypeId) (p : Value) (w : World) (hvar : w.var? Tryz.prog "strconv.ErrRange" = some #[.iface tp p]) :
  Calls Tryz.prog 213 #[.string s] w fun e w'=>∃ N,e = .returned (.tuple #[.int .i64 (Lib.atoiSat s.data.toList), .iface 282 (.pointer (some ⟨N,0,none⟩))])∧w.heap.size≤N∧w'.heap[N]?=some (.cells #[.string ⟨#[65,116,111,105]⟩, .string s, .iface tp p] 299 (0,0))∧Below w.heap.size w w':=Any.strconv_Atoi_range_var Tryz.laysC172 s hlim h tp p w hvar
def Tryz.lays212_ren:Go.Shelf.Ren:=⟨fun | 212=>200 | 263=>234 | 264=>235|n=>n,fun | 46=>217 | 51=>235 | 146=>236 | 53=>238 | 148=>239|n=>n,fun|n=>n⟩
theorem Tryz.lays212:Go.Proofs.Lays.n212 Tryz.prog Tryz.lays212_ren:={
 mixed:=by kernel_rfl
 f212:=Tryz.func200.trans (congrArg some (by kernel_rfl))
 f263:=Tryz.func234.trans (congrArg some (by kernel_rfl))
 f264:=Tryz.func235.trans (congrArg some (by kernel_rfl))
 t46:=Tryz.underlying217
 a46:=Tryz.isAgg217
 z46:=Tryz.sizeOf217
 v46:=Tryz.zeroValue217
 t51:=Tryz.underlying235
 a51:=Tryz.isAgg235
 z51:=Tryz.sizeOf235
 v51:=Tryz.zeroValue235
 t53:=Tryz.underlying238
 a53:=Tryz.isAgg238
 z53:=Tryz.sizeOf238
 v53:=Tryz.zeroValue238
 t146:=Tryz.underlying236
 a146:=Tryz.isAgg236
 z146:=Tryz.sizeOf236
 v146:=Tryz.zeroValue236
 t148:=Tryz.underlying239
 a148:=Tryz.isAgg239
 z148:=Tryz.sizeOf239
 v148:=Tryz.zeroValue239 }
open Go.RowKit Go.Lib in
theorem Tryz.bits_Mul (x y:Nat) (hx:x<18446744073709551616) (hy:y<18446744073709551616) (w:World) :
  Calls Tryz.prog 200 #[.int .u64 x, .int .u64 y] w fun e w'=>e = .returned (.tuple #[.int .u64 ((x * y / 18446744073709551616:Nat):Int), .int .u64 ((x * y % 18446744073709551616:Nat):Int)])∧w'=w:=Any.bits_Mul Tryz.lays212 x y hx hy w
def Tryz.laysSlF6_f158_ren:Go.Shelf.Ren:=⟨fun | 6=>158 | 15=>206 | 14=>205 | 28=>246 | 29=>247 | 20=>238 | 21=>239 | 22=>240 | 23=>241 | 24=>242 | 25=>243 | 26=>244 | 27=>245 | 46=>270 | 47=>271 | 48=>272 | 49=>273 | 50=>274 | 57=>291|n=>n,fun | 22=>30 | 24=>47 | 25=>189 | 3=>3 | 39=>217 | 0=>0 | 53=>235 | 55=>238 | 4=>4 | 46=>248 | 45=>247 | 50=>245 | 5=>5 | 9=>9 | 66=>271 | 70=>275 | 76=>292 | 77=>293|n=>n,fun|n=>n⟩
theorem Tryz.laysSlF6_f158:Go.Proofs.SlLaysF.n6 Tryz.prog Tryz.laysSlF6_f158_ren:={
 mixed:=by kernel_rfl
 f6:=⟨Tryz.f158.name,by decide,Tryz.func158.trans (congrArg some (by kernel_rfl))⟩
 f14:=⟨Tryz.f205.name,by decide,Tryz.func205.trans (congrArg some (by kernel_rfl))⟩
 f15:=Tryz.func206.trans (congrArg some (by kernel_rfl))
 f20:=⟨Tryz.f238.name,by decide,Tryz.func238.trans (congrArg some (by kernel_rfl))⟩
 f21:=⟨Tryz.f239.name,by decide,Tryz.func239.trans (congrArg some (by kernel_rfl))⟩
 f22:=⟨Tryz.f240.name,by decide,Tryz.func240.trans (congrArg some (by kernel_rfl))⟩
 f23:=⟨Tryz.f241.name,by decide,Tryz.func241.trans (congrArg some (by kernel_rfl))⟩
 f24:=⟨Tryz.f242.name,by decide,Tryz.func242.trans (congrArg some (by kernel_rfl))⟩
 f25:=⟨Tryz.f243.name,by decide,Tryz.func243.trans (congrArg some (by kernel_rfl))⟩
 f26:=⟨Tryz.f244.name,by decide,Tryz.func244.trans (congrArg some (by kernel_rfl))⟩
 f27:=⟨Tryz.f245.name,by decide,Tryz.func245.trans (congrArg some (by kernel_rfl))⟩
 f28:=Tryz.func246.trans (congrArg some (by kernel_rfl))
 f29:=Tryz.func247.trans (congrArg some (by kernel_rfl))
 f46:=⟨Tryz.f270.name,by decide,Tryz.func270.trans (congrArg some (by kernel_rfl))⟩
 f47:=Tryz.func271.trans (congrArg some (by kernel_rfl))
 f48:=Tryz.func272.trans (congrArg some (by kernel_rfl))
 f49:=⟨Tryz.f273.name,by decide,Tryz.func273.trans (congrArg some (by kernel_rfl))⟩
 f50:=⟨Tryz.f274.name,by decide,Tryz.func274.trans (congrArg some (by kernel_rfl))⟩
 f57:=⟨Tryz.f291.name,by decide,Tryz.func291.trans (congrArg some (by kernel_rfl))⟩
 t0:=Tryz.underlying0
 a0:=Tryz.isAgg0
 z0:=Tryz.sizeOf0
 v0:=Tryz.zeroValue0
 t3:=Tryz.underlying3
 a3:=Tryz.isAgg3
 z3:=Tryz.sizeOf3
 v3:=Tryz.zeroValue3
 t4:=Tryz.underlying4
 a4:=Tryz.isAgg4
 z4:=Tryz.sizeOf4
 v4:=Tryz.zeroValue4
 t5:=Tryz.underlying5
 a5:=Tryz.isAgg5
 z5:=Tryz.sizeOf5
 v5:=Tryz.zeroValue5
 t9:=Tryz.underlying9
 a9:=Tryz.isAgg9
 z9:=Tryz.sizeOf9
 v9:=Tryz.zeroValue9
 t22:=Tryz.underlying30
 a22:=Tryz.isAgg30
 z22:=Tryz.sizeOf30
 v22:=Tryz.zeroValue30
 a24:=Tryz.isAgg47
 z24:=Tryz.sizeOf47
 t25:=Tryz.underlying189
 a25:=Tryz.isAgg189
 z25:=Tryz.sizeOf189
 v25:=Tryz.zeroValue189
 t39:=Tryz.underlying217
 a39:=Tryz.isAgg217
 z39:=Tryz.sizeOf217
 v39:=Tryz.zeroValue217
 t45:=Tryz.underlying247
 a45:=Tryz.isAgg247
 z45:=Tryz.sizeOf247
 v45:=Tryz.zeroValue247
 t46:=Tryz.underlying248
 a46:=Tryz.isAgg248
 z46:=Tryz.sizeOf248
 v46:=Tryz.zeroValue248
 t50:=Tryz.underlying245
 a50:=Tryz.isAgg245
 z50:=Tryz.sizeOf245
 v50:=Tryz.zeroValue245
 t53:=Tryz.underlying235
 a53:=Tryz.isAgg235
 z53:=Tryz.sizeOf235
 v53:=Tryz.zeroValue235
 t55:=Tryz.underlying238
 a55:=Tryz.isAgg238
 z55:=Tryz.sizeOf238
 v55:=Tryz.zeroValue238
 t66:=Tryz.underlying271
 a66:=Tryz.isAgg271
 z66:=Tryz.sizeOf271
 v66:=Tryz.zeroValue271
 t70:=Tryz.underlying275
 a70:=Tryz.isAgg275
 z70:=Tryz.sizeOf275
 v70:=Tryz.zeroValue275
 t76:=Tryz.underlying292
 a76:=Tryz.isAgg292
 z76:=Tryz.sizeOf292
 v76:=Tryz.zeroValue292
 t77:=Tryz.underlying293
 a77:=Tryz.isAgg293
 z77:=Tryz.sizeOf293
 v77:=Tryz.zeroValue293 }
open Go.RowKit Go.Lib Go.Sort in
theorem Tryz.slices_SortFunc {α:Type} [Inhabited α] (enc:α→Value) (h1:OneCell enc) (cf:α→α→Int) (hO:SWO (ltOf cf)) (g:Nat) (cb:Array Value) (blk off cap:Nat) (d:Array α) (w:World) (eg:∀ args w,(callFunc g args).run Tryz.prog w = .ok (.enter g args) w) (hcmp:CmpLays1 Tryz.prog g cb enc cf blk off d.size w) (hH:Holds enc w blk off d) (hblk:blk<w.heap.size) (hsz:d.size<4611686018427387904) :
  Calls Tryz.prog 158 #[.slice (some ⟨blk,off,none⟩) d.size cap, .func (.func g) #[] cb] w fun e w' =>
   e = .returned (.tuple #[])∧∃ d' n os,PermIn 0 d.size d d'∧SortedIn (ltOf cf) 0 d.size d'∧w'=sortWorld enc w blk off n d' os:=Any.slices_SortFunc Tryz.laysSlF6_f158 enc h1 cf hO g cb blk off cap d w eg hcmp hH hblk hsz
end Go.Proofs
namespace Go.Proofs.YtblnhdnogjijiaaGreatDoor

def kindI (c:Int):Int :=
 if (97≤c∧c≤122)∨(65≤c∧c≤90) then 1
 else if c=94∨c=126∨c=37 then 2
 else if 48≤c∧c≤57 then 3
 else if c=39 then 4 else if c=32 then 6
 else if c=46∨c=44∨c=59∨c=58∨c=33∨c=63∨c=40∨c=41∨c=45 then 5 else 0
def kindB (c:UInt8):Int:=kindI (c.toNat:Int)
theorem kindI_bd (c:Int):0≤kindI c∧kindI c≤6:=by unfold kindI;(repeat' split) <;> omega
def alnum (c:UInt8):Bool:=decide (kindB c=1∨kindB c=3)
def lettersN (l:List UInt8):Nat:=(l.filter alnum).length
theorem lettersN_le (l:List UInt8):lettersN l≤l.length:=List.length_filter_le _ _
theorem lettersN_snoc (l:List UInt8) (c:UInt8):lettersN (l++[c])=lettersN l+if alnum c then 1 else 0:=by
 unfold lettersN
 rw [List.filter_append]
 cases h:alnum c <;> simp [h]
theorem byteAt_nat (s:ByteArray) (k:Nat) (h:k<s.size):s.data.toList[k]?=some (byteAt s (k:Int)):=by
 have h2:k<s.data.toList.length:=by simpa using h
 unfold byteAt
 rw [List.getElem?_eq_getElem h2,Int.toNat_natCast,List.getD_eq_getElem?_getD,List.getElem?_eq_getElem h2]
 rfl
theorem take_snoc {α:Type} (l:List α) (k:Nat) (c:α) (h:l[k]?=some c):l.take (k+1)=l.take k++[c]:=by
 rw [List.take_add_one,h];rfl
def kAt (s:ByteArray) (j:Nat):Int:=kindI ((byteAt s (j:Int)).toNat:Int)
theorem kAt_bd (s:ByteArray) (j:Nat):0≤kAt s j∧kAt s j≤6:=kindI_bd _
theorem byteAt_pred (s:ByteArray) (k:Nat):byteAt s ((k:Int) - 1)=byteAt s ((k - 1:Nat):Int):=by
 unfold byteAt
 congr 1
 omega
theorem alnum_at (s:ByteArray) (k:Nat):alnum (byteAt s (k:Int))=decide (kAt s k=1∨kAt s k=3):=rfl
theorem lettersN_take (s:ByteArray) (k:Nat) (h:k<s.size):(lettersN (s.data.toList.take (k+1)):Int)=lettersN (s.data.toList.take k)+if kAt s k=1∨kAt s k=3 then 1 else 0:=by
 rw [take_snoc _ _ _ (byteAt_nat s k h),lettersN_snoc,alnum_at]
 by_cases h1:kAt s k=1∨kAt s k=3
 ·simp [h1]
 ·simp [h1]
def canAt (s:ByteArray):Nat→Bool
 | 0=>false
 | k+1=>decide (kAt s k=1) || (decide (kAt s k=2) && canAt s k)
def rtAt (s:ByteArray) (k:Nat):Bool:=decide (kAt s k=2) && canAt s k
theorem canAt_succ (s:ByteArray) (k:Nat):canAt s (k+1)=(decide (kAt s k=1) || rtAt s k):=rfl
def okAt (s:ByteArray) (k:Nat):Bool:=decide (kAt s k≠0) && (decide (kAt s k≠2) || canAt s k)
def okAll (s:ByteArray):Bool:=decide (∀ j,j<s.size→okAt s j=true)
theorem okAll_true {s:ByteArray} (h:∀ j,j<s.size→okAt s j=true):okAll s=true:=by simpa [okAll] using h
theorem okAll_false {s:ByteArray} {j:Nat} (hj:j<s.size) (h:okAt s j=false):okAll s=false:=by
 unfold okAll
 rw [decide_eq_false_iff_not]
 intro hh
 rw [hh j hj] at h
 cases h
def checkS (s:ByteArray):Int:=if (65536:Int)<s.size then 4 else if okAll s then 0 else 11
def rts (s:ByteArray) (n:Nat):List Value:=(List.range n).map fun j => .bool (rtAt s j)
theorem rts_get {s:ByteArray} {n j:Nat} (h:j<n):(rts s n)[j]?=some (.bool (rtAt s j)):=by simp [rts,h]
theorem rts_succ (s:ByteArray) (n:Nat):rts s (n+1)=rts s n++[.bool (rtAt s n)]:=by simp [rts,List.range_succ]
theorem get1 {l:List Value} {k:Nat} {v:Value} (h:l[k]?=some v):∀ j u,[v][j]?=some u→l[k+j]?=some u:=by
 intro j u hu
 cases j with
 | zero=>simp at hu;subst hu;exact h
 | succ j=>simp at hu
def isWordB (s:ByteArray):Bool:=decide (1≤s.size∧s.size≤64) && okAll s && (decide (kAt s 0=1) || decide (kAt s 0=3)) && decide (∀ j,j<s.size→kAt s j≤4)
theorem isWordB_size {s:ByteArray} (h:isWordB s=true):1≤s.size∧s.size≤64:=by
 simp only [isWordB,Bool.and_eq_true,decide_eq_true_eq] at h
 exact h.1.1.1
def isNameB (s:ByteArray):Bool:=decide (s.size≤16) && (isWordB s && decide ((lettersN s.data.toList:Int)=s.size))
def namedB (s:ByteArray):Bool:=decide (s=ByteArray.mk #[]) || isNameB s
def wordlyK (k:Int):Bool:=decide (k=1) || decide (k=2) || decide (k=3) || decide (k=4)
end Go.Proofs.YtblnhdnogjijiaaGreatDoor
namespace Go.Proofs.YtblnhdnogjijiaaGreatDoor

structure Tok where
 text:ByteArray
 norm:ByteArray
 page:ByteArray
 line:Int
 flags:Int
 name:ByteArray
@[reducible] def Tok.cells (t:Tok):List Value:=[.string t.text, .string t.norm, .string t.page, .int .i64 t.line, .int .i64 t.flags, .string t.name]
@[reducible] def Tok.val (t:Tok):Value := .agg t.cells.toArray
def hasN (f n:Int):Bool:=decide (f / n % 2=1)
def gapStr (n:Nat):ByteArray:=⟨#[91]⟩++⟨(Lib.decDigits n).toArray⟩++⟨#[93]⟩
def gappedB (s:ByteArray):Bool:=(List.range 65).any fun n=>decide (1≤n) && decide (s=gapStr n)
theorem gappedB_true {s:ByteArray} {n:Nat} (h:n<65) (h1:1≤n) (h2:s=gapStr n):gappedB s=true:=by
 unfold gappedB
 rw [List.any_eq_true]
 exact⟨n,List.mem_range.2 h,by simp [h1,h2]⟩
theorem gappedB_false {s:ByteArray} (h:∀ n,n<65→1≤n→s≠gapStr n):gappedB s=false:=by
 unfold gappedB
 rw [List.any_eq_false]
 intro n hn hh
 simp only [Bool.and_eq_true,decide_eq_true_eq] at hh
 exact h n (List.mem_range.1 hn) hh.1 hh.2
theorem decDigits_len (n:Nat) (h:n<100):(Lib.decDigits n).length≤2:=by
 by_cases h1:n<10
 ·rw [Lib.decDigits_one h1];simp
 ·rw [Lib.decDigits_two h1 h];simp
def normB (s:ByteArray):Bool:=decide (∀ j,j<s.size→wordlyK (kAt s j)=true)
def formBad (t:Tok):Bool :=
 if hasN t.flags 2 then !gappedB t.text || !decide (t.norm=t.text)
 else if hasN t.flags 8 then !decide ((t.text.size:Int)=1) || (!decide (kAt t.text 0=5) && !decide (kAt t.text 0=4)) || !decide (t.norm=t.text)
 else !isWordB t.text || decide (t.norm=ByteArray.mk #[]) || decide ((64:Int)<t.norm.size) || !normB t.norm
def tokE (t:Tok):Int :=
 if t.flags<0∨31<t.flags then 2
 else if hasN t.flags 2 && hasN t.flags 8 then 8
 else if formBad t then 11
 else if t.line<0 then 2
 else if !namedB t.page || !namedB t.name then 14
 else 0
end Go.Proofs.YtblnhdnogjijiaaGreatDoor
