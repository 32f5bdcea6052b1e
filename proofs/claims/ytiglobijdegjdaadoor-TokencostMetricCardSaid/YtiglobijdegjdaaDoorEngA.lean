/- The engine, first part: states of a walk as what is known of slots and of blocks of the call's own; one step of an operation; the sequence of statements. It speaks of any program. -/
import Derived.WalkKit
import Derived.OrdersHeld
import Derived.Shelf.Abstract
namespace Go.Proofs.YtiglobijdegjdaaDoor
open Go.RowKit Go.Shelf

/-! ## Types, as the walk needs them -/
inductive Ty where
  | bool | int (k : IntKind) | str | slice (e : TypeId) | struct (fs : List (TypeId × Nat)) | arr (n : Nat) (e : TypeId) | func | ptr (e : TypeId) | iface | other
structure TyI where
  d : Ty
  size : Nat
  bytes : Nat
  zero : Value

/-- What a row of the table says of a type of the program. -/
def Ty.fits (P : Program) (t : TypeId) : Ty → Prop
  | .bool => P.underlying t = some .bool
  | .int k => P.underlying t = some (.int k)
  | .str => P.underlying t = some .string
  | .slice e => P.underlying t = some (.slice e)
  | .struct fs => ∃ a, P.underlying t = some (.struct a) ∧ a.toList.map (fun f => (f.type, f.offset)) = fs
  | .arr n e => P.underlying t = some (.array n e)
  | .func => ∃ a b c, P.underlying t = some (.func a b c)
  | .ptr e => P.underlying t = some (.pointer e)
  | .iface => ∃ a, P.underlying t = some (.interface a)
  | .other => True
structure TyOk (P : Program) (t : TypeId) (i : TyI) : Prop where
  fits : i.d.fits P t
  info : (P.info? t).map (fun x => (x.size, x.bytes, x.zero)) = some (i.size, i.bytes, some i.zero)

def Ty.isAgg : Ty → Bool
  | .struct _ | .arr _ _ => true
  | _ => false
def Ty.plain : Ty → Bool
  | .other => false
  | _ => true

def lookT : List (Nat × TyI) → Nat → Option TyI
  | [], _ => none
  | (j, i) :: l, t => cond (Nat.beq j t) (some i) (lookT l t)
theorem lookT_mem : ∀ {l : List (Nat × TyI)} {t : Nat} {i : TyI}, lookT l t = some i → (t, i) ∈ l
  | (j, x) :: l, t, i, h => by
    unfold lookT at h
    cases hb : Nat.beq j t with
    | true =>
      rw [hb] at h
      have e : j = t := Nat.eq_of_beq_eq_true hb
      simp only [cond_true, Option.some.injEq] at h
      subst e; subst h; exact .head _
    | false =>
      rw [hb] at h
      exact .tail _ (lookT_mem h)

/-- A program, with the table of its types. -/
structure Sig where
  P : Program
  tab : List (Nat × TyI)
  ok : ∀ e ∈ tab, TyOk P e.1 e.2
  mixed : P.follows .mixedOrders = true
def Sig.ty (S : Sig) (t : Nat) : Option TyI := lookT S.tab t
theorem Sig.tyOk {S : Sig} {t : Nat} {i : TyI} (h : S.ty t = some i) : TyOk S.P t i := S.ok (t, i) (lookT_mem h)

section
variable {P : Program} {t : TypeId} {i : TyI} (h : TyOk P t i) (w : World)
include h
theorem TyOk.info' : ∃ x, P.info? t = some x ∧ x.size = i.size ∧ x.bytes = i.bytes ∧ x.zero = some i.zero := by
  have := h.info
  cases hx : P.info? t with
  | none => simp [hx] at this
  | some x => simp [hx] at this; exact ⟨x, rfl, this.1, this.2.1, this.2.2⟩
theorem TyOk.sizeOf : (sizeOf t).run P w = .ok i.size w := by
  obtain ⟨x, hx, h1, _, _⟩ := h.info'
  simp [Go.sizeOf, typeInfo, hx, h1]
theorem TyOk.typeInfo : ∃ x, (typeInfo t).run P w = .ok x w ∧ x.size = i.size ∧ x.bytes = i.bytes ∧ x.zero = some i.zero := by
  obtain ⟨x, hx, h1⟩ := h.info'
  exact ⟨x, by simp [Go.typeInfo, hx], h1⟩
theorem TyOk.zeroValue : (zeroValue t).run P w = .ok i.zero w := by
  obtain ⟨x, hx, _, _, h1⟩ := h.info'
  simp [Go.zeroValue, Go.typeInfo, hx, h1]
theorem TyOk.isAgg (hp : i.d.plain = true) : (isAgg t).run P w = .ok i.d.isAgg w := by
  have hf := h.fits
  revert hf hp
  cases i.d <;> simp only [Ty.fits, Ty.plain, Ty.isAgg] <;> intro hp hf
  case struct fs => obtain ⟨a, ha, _⟩ := hf; simp [Go.isAgg, run_underlying ha]
  case func => obtain ⟨a, b, c, ha⟩ := hf; simp [Go.isAgg, run_underlying ha]
  case iface => obtain ⟨a, ha⟩ := hf; simp [Go.isAgg, run_underlying ha]
  case other => cases hp
  all_goals simp [Go.isAgg, run_underlying hf]
end

/-! ## What is known of the slots -/
abbrev GId := List (Nat × Bool)
/-- slot, its value -/
abbrev Env := List (Nat × Value)
/-- slot, the operations of the region that it hangs on, its value: nothing is there where they don't hold -/
abbrev EnvC := List (Nat × (GId × Value))

def lookE {α : Type} : List (Nat × α) → Nat → Option α
  | [], _ => none
  | (j, x) :: l, s => cond (Nat.beq j s) (some x) (lookE l s)
theorem lookE_cons {α : Type} {j : Nat} {x : α} {l : List (Nat × α)} {s : Nat} {y : α} (h : lookE ((j, x) :: l) s = some y) : (j = s ∧ x = y) ∨ (j ≠ s ∧ lookE l s = some y) := by
  unfold lookE at h
  cases hb : Nat.beq j s with
  | true => rw [hb] at h; exact .inl ⟨Nat.eq_of_beq_eq_true hb, by simpa using h⟩
  | false => rw [hb] at h; exact .inr ⟨fun e => by subst e; simp at hb, by simpa using h⟩

def memG (x : Nat × Bool) : GId → Bool
  | [] => false
  | y :: l => (Nat.beq x.1 y.1 && (x.2 == y.2)) || memG x l
def subG : GId → GId → Bool
  | [], _ => true
  | x :: l, G => memG x G && subG l G

/-- The guards of the list hold in this frame. -/
def Holds (all : Array Oper) (a : Act) (G : GId) : Prop := ∀ x ∈ G, yielded all a.tmps x.1 = some x.2
theorem Holds.nil (all : Array Oper) (a : Act) : Holds all a [] := fun _ h => by cases h
theorem memG_spec {x : Nat × Bool} : ∀ {G : GId}, memG x G = true → x ∈ G
  | y :: l, h => by
    simp only [memG, Bool.or_eq_true, Bool.and_eq_true] at h
    rcases h with ⟨h1, h2⟩ | h
    · have e1 : x.1 = y.1 := Nat.eq_of_beq_eq_true h1
      have e2 : x.2 = y.2 := by simpa using h2
      have : x = y := Prod.ext e1 e2
      subst this; exact .head _
    · exact .tail _ (memG_spec h)
theorem subG_spec : ∀ {l G : GId}, subG l G = true → ∀ x ∈ l, x ∈ G
  | [], _, _, _, h => by cases h
  | y :: l, G, h, x, hx => by
    simp only [subG, Bool.and_eq_true] at h
    cases hx with
    | head => exact memG_spec h.1
    | tail _ hx => exact subG_spec h.2 x hx
theorem Holds.sub {all : Array Oper} {a : Act} {l G : GId} (h : Holds all a G) (hs : subG l G = true) : Holds all a l := fun x hx => h x (subG_spec hs x hx)

/-- How many slots a frame has, and what it has deferred. -/
structure FK where
  n : Nat
  ds : List Deferred
/-- The entries are so in the frame. -/
structure Agrees (N : FK) (all : Array Oper) (env : Env) (ec : EnvC) (a : Act) : Prop where
  defers : a.defers = N.ds
  size : a.tmps.size = N.n
  at_ : ∀ s v, lookE env s = some v → a.tmps.getD s undef = v
  yes : ∀ s G v, lookE ec s = some (G, v) → Holds all a G → a.tmps.getD s undef = v
  no : ∀ s G v, lookE ec s = some (G, v) → ¬ Holds all a G → a.tmps.getD s undef = undef
theorem Agrees.plain {N : FK} {all all' : Array Oper} {env : Env} {ec : EnvC} {a : Act} (h : Agrees N all env ec a) : Agrees N all' env [] a :=
  ⟨h.defers, h.size, h.at_, fun _ _ _ h => (by cases h), fun _ _ _ h => (by cases h)⟩

def evX (env : Env) (ec : EnvC) (G : GId) : Operand → Option Value
  | .tmp s => match lookE env s with
    | some v => some v
    | none => match lookE ec s with
      | some (g, v) => cond (subG g G) (some v) none
      | none => none
  | .const v => some v
  | .global g => some (.pointer (some ⟨g, 0, none⟩))
  | .func f => some (.func (.func f) #[] #[])
section
variable {N : FK} {all : Array Oper} {env : Env} {ec : EnvC} {a : Act} {G : GId} (ha : Agrees N all env ec a)
include ha
theorem evX_spec (hG : Holds all a G) {x : Operand} {v : Value} (h : evX env ec G x = some v) : a.eval x = v := by
  cases x <;> simp only [evX] at h
  case tmp s =>
    split at h
    · rename_i u hl; cases h; exact ha.at_ s _ hl
    · split at h
      · rename_i g u hl
        cases hs : subG g G with
        | true => rw [hs] at h; simp at h; subst h; exact ha.yes s g u hl (hG.sub hs)
        | false => rw [hs] at h; cases h
      · cases h
  all_goals (cases h; rfl)
end
theorem yielded_some {all : Array Oper} {a : Act} {i s : Nat} {p : Bool} (hs : (all[i]?).bind (·.dst) = some s) (hy : yielded all a.tmps i = some p) : a.tmps.getD s undef = .bool p := by
  unfold yielded at hy
  rw [hs] at hy
  simp only [Option.bind_some] at hy
  cases hq : a.tmps[s]? with
  | none => rw [hq] at hy; simp at hy
  | some u =>
    rw [hq] at hy
    have : a.tmps.getD s undef = u := by simp [Array.getD_eq_getD_getElem?, hq]
    rw [this]
    cases u <;> simp at hy ⊢
    exact hy

/-- The slot of an operation of the region. -/
def dstL (all : Array Oper) (i : Nat) : Option Nat := (all.toList[i]?).bind (·.dst)
theorem dstL_eq {all : Array Oper} {i : Nat} : dstL all i = (all[i]?).bind (·.dst) := by simp [dstL]

def isDef : Op → Bool
  | .defer _ => true
  | _ => false
/-- The guards under which an operation is carried out. -/
def gOf (all : Array Oper) (env : Env) (ec : EnvC) (o : Oper) : Option GId :=
  cond (isDef o.op) none <| match o.guard with
  | none => some []
  | some (i, p) => match dstL all i with
    | some s => match lookE env s with
      | some (.bool _) => some [(i, p)]
      | some _ => none
      | none => match lookE ec s with
        | some (g, .bool _) => some (g ++ [(i, p)])
        | _ => none
    | none => none
theorem wanted_iff {N : FK} {all : Array Oper} {env : Env} {ec : EnvC} {a : Act} {o : Oper} {G : GId} (ha : Agrees N all env ec a) (h : gOf all env ec o = some G) :
    Region.wanted o (yielded all a.tmps) = true ↔ Holds all a G := by
  unfold gOf at h
  cases hdf : isDef o.op with
  | true => rw [hdf] at h; cases h
  | false =>
  rw [hdf] at h
  simp only [cond_false] at h
  unfold Region.wanted
  cases hg : o.guard with
  | none => rw [hg] at h; injection h with h; subst h; simp [Holds.nil]
  | some ip =>
    obtain ⟨i, p⟩ := ip
    rw [hg] at h
    simp only at h ⊢
    split at h
    · rename_i s hs
      split at h
      · injection h with h; subst h
        constructor
        · intro hw x hx
          have : x = (i, p) := by simpa using hx
          subst this
          simpa using hw
        · intro hH
          have := hH (i, p) (by simp)
          simp [this]
      · cases h
      · split at h
        · rename_i g b hl
          injection h with h; subst h
          constructor
          · intro hw
            have hy : yielded all a.tmps i = some p := by simpa using hw
            by_cases hH : Holds all a g
            · intro x hx
              rcases List.mem_append.1 hx with hx | hx
              · exact hH x hx
              · have : x = (i, p) := by simpa using hx
                subst this; exact hy
            · have hu := ha.no s g _ hl hH
              have := yielded_some (by rw [← dstL_eq]; exact hs) hy
              rw [hu] at this; cases this
          · intro hH
            have := hH (i, p) (by simp)
            simp [this]
        · cases h
    · cases h

theorem gOf_def {all : Array Oper} {env : Env} {ec : EnvC} {o : Oper} {G : GId} (h : gOf all env ec o = some G) : ∀ c, o.op ≠ .defer c := by
  intro c hc
  unfold gOf at h
  rw [hc] at h
  cases h
/-- What the guards say of what is known. -/
def GP (all : Array Oper) (env : Env) (ec : EnvC) : GId → Prop
  | [] => True
  | (i, p) :: l => (match dstL all i with
    | some s => match lookE env s with
      | some (.bool b) => b = p
      | some _ => True
      | none => match lookE ec s with
        | some (_, .bool b) => b = p
        | _ => True
    | none => True) ∧ GP all env ec l
theorem Holds.gp {N : FK} {all : Array Oper} {env : Env} {ec : EnvC} {a : Act} (ha : Agrees N all env ec a) : ∀ {G : GId}, Holds all a G → GP all env ec G
  | [], _ => trivial
  | (i, p) :: l, h => by
    refine ⟨?_, Holds.gp ha (fun x hx => h x (.tail _ hx))⟩
    have hy := h (i, p) (.head _)
    split
    · rename_i s hs
      have ht := yielded_some (by rw [← dstL_eq]; exact hs) hy
      split
      · rename_i b hl
        rw [ha.at_ s _ hl] at ht
        simpa using ht
      · trivial
      · split
        · rename_i g b hl
          by_cases hH : Holds all a g
          · rw [ha.yes s g _ hl hH] at ht
            simpa using ht
          · rw [ha.no s g _ hl hH] at ht; cases ht
        · trivial
    · trivial

/-! ### Writing a slot -/
/-- No guard of a conditional entry is read from this slot. -/
def safeG (all : Array Oper) (d : Nat) : GId → Bool
  | [] => true
  | (i, _) :: l => (match dstL all i with | some s => !(Nat.beq s d) | none => true) && safeG all d l
def safeC (all : Array Oper) (d : Nat) : EnvC → Bool
  | [] => true
  | (s, (G, _)) :: l => !(Nat.beq s d) && safeG all d G && safeC all d l
theorem beq_ne {s d : Nat} (h : (!(Nat.beq s d)) = true) : s ≠ d := fun e => by subst e; simp at h
theorem safeG_spec {all : Array Oper} {d : Nat} : ∀ {G : GId}, safeG all d G = true → ∀ x ∈ G, (all[x.1]?).bind (·.dst) ≠ some d
  | [], _, _, h => by cases h
  | (i, p) :: l, h, x, hx => by
    simp only [safeG, Bool.and_eq_true] at h
    cases hx with
    | head =>
      intro he
      rw [← dstL_eq] at he
      simp only at he
      have h1 := h.1
      rw [he] at h1
      exact beq_ne h1 rfl
    | tail _ hx => exact safeG_spec h.2 x hx
theorem safeC_spec {all : Array Oper} {d : Nat} : ∀ {ec : EnvC}, safeC all d ec = true → ∀ s G v, lookE ec s = some (G, v) → s ≠ d ∧ safeG all d G = true
  | [], _, _, _, _, h => by cases h
  | (j, (G', v')) :: l, h, s, G, v, hx => by
    simp only [safeC, Bool.and_eq_true] at h
    rcases lookE_cons hx with ⟨e, e2⟩ | ⟨_, hx⟩
    · injection e2 with e2 e3; subst e; subst e2
      exact ⟨beq_ne h.1.1, h.1.2⟩
    · exact safeC_spec h.2 s G v hx
theorem yielded_put {all : Array Oper} {a : Act} {d i : Nat} {v : Value} (h : (all[i]?).bind (·.dst) ≠ some d) : yielded all (a.put (some d) v).tmps i = yielded all a.tmps i := by
  unfold yielded
  cases hs : (all[i]?).bind (·.dst) with
  | none => rfl
  | some s =>
    have hne : d ≠ s := fun e => h (by rw [hs, e])
    simp [Act.put, Array.getElem?_setIfInBounds_ne hne]
theorem holds_put {all : Array Oper} {a : Act} {d : Nat} {v : Value} {G : GId} (h : safeG all d G = true) : Holds all (a.put (some d) v) G ↔ Holds all a G := by
  unfold Holds
  constructor <;> intro hh x hx
  · rw [← yielded_put (safeG_spec h x hx)]; exact hh x hx
  · rw [yielded_put (safeG_spec h x hx)]; exact hh x hx
theorem getD_put_same {a : Act} {d : Nat} {v : Value} (h : d < a.tmps.size) : (a.put (some d) v).tmps.getD d undef = v := by simp [Act.put, h]
theorem getD_put_ne {a : Act} {d s : Nat} {v : Value} (h : d ≠ s) : (a.put (some d) v).tmps.getD s undef = a.tmps.getD s undef := by
  simp [Act.put, Array.getElem?_setIfInBounds_ne h]

section
variable {N : FK} {all : Array Oper} {env : Env} {ec : EnvC} {a : Act} {d : Nat} {v : Value} (ha : Agrees N all env ec a)
include ha
theorem Agrees.put (hd : Nat.blt d N.n = true) (hs : safeC all d ec = true) : Agrees N all ((d, v) :: env) ec (a.put (some d) v) := by
  have hd' : d < a.tmps.size := by rw [Nat.blt_eq] at hd; rw [ha.size]; exact hd
  refine ⟨by simpa [Act.put] using ha.defers, by simpa [Act.put] using ha.size, fun s u h => ?_, fun s G u h hH => ?_, fun s G u h hH => ?_⟩
  · rcases lookE_cons h with ⟨rfl, rfl⟩ | ⟨hne, h⟩
    · exact getD_put_same hd'
    · rw [getD_put_ne hne]; exact ha.at_ s u h
  · obtain ⟨h1, h2⟩ := safeC_spec hs s G u h
    rw [getD_put_ne (Ne.symm h1)]
    exact ha.yes s G u h ((holds_put h2).1 hH)
  · obtain ⟨h1, h2⟩ := safeC_spec hs s G u h
    rw [getD_put_ne (Ne.symm h1)]
    exact ha.no s G u h (fun hh => hH ((holds_put h2).2 hh))
/-- A value that is there where the guards hold. -/
theorem Agrees.putC {G : GId} (hd : Nat.blt d N.n = true) (hs : safeC all d ec = true) (hG : safeG all d G = true) (hl : lookE env d = none) {u : Value} (h1 : Holds all a G → u = v) (h2 : ¬ Holds all a G → u = undef) :
    Agrees N all env ((d, (G, v)) :: ec) (a.put (some d) u) := by
  have hd' : d < a.tmps.size := by rw [Nat.blt_eq] at hd; rw [ha.size]; exact hd
  refine ⟨by simpa [Act.put] using ha.defers, by simpa [Act.put] using ha.size, fun s x h => ?_, fun s K x h hH => ?_, fun s K x h hH => ?_⟩
  · by_cases e : d = s
    · subst e; rw [hl] at h; cases h
    · rw [getD_put_ne e]; exact ha.at_ s x h
  · rcases lookE_cons h with ⟨rfl, e⟩ | ⟨hne, h⟩
    · injection e with e1 e2; subst e1; subst e2
      rw [getD_put_same hd']; exact h1 ((holds_put hG).1 hH)
    · obtain ⟨_, h4⟩ := safeC_spec hs s K x h
      rw [getD_put_ne hne]
      exact ha.yes s K x h ((holds_put h4).1 hH)
  · rcases lookE_cons h with ⟨rfl, e⟩ | ⟨hne, h⟩
    · injection e with e1 e2; subst e1; subst e2
      rw [getD_put_same hd']; exact h2 (fun hh => hH ((holds_put hG).2 hh))
    · obtain ⟨_, h4⟩ := safeC_spec hs s K x h
      rw [getD_put_ne hne]
      exact ha.no s K x h (fun hh => hH ((holds_put h4).2 hh))
end
end Go.Proofs.YtiglobijdegjdaaDoor
