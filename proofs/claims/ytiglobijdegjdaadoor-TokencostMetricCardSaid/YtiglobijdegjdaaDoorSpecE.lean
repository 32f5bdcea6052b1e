/- Searches: plain laws. -/
import Derived.Test.YtiglobijdegjdaaDoorSpecC
import Derived.Test.YtiglobijdegjdaaDoorEngS
namespace Go.Proofs.YtiglobijdegjdaaDoor
/-- The first place of the list where p holds, or -1. -/
def findI {α : Type} (p : α → Bool) : List α → Int
  | [] => -1
  | x :: l => if p x then 0 else if findI p l = -1 then -1 else findI p l + 1
theorem findI_ge {α : Type} (p : α → Bool) : ∀ l : List α, -1 ≤ findI p l
  | [] => by simp [findI]
  | x :: l => by have := findI_ge p l; unfold findI; (repeat' split) <;> omega
theorem findI_none {α : Type} {p : α → Bool} : ∀ {l : List α}, (∀ (i : Nat) x, l[i]? = some x → p x = false) → findI p l = -1
  | [], _ => rfl
  | x :: l, h => by
    unfold findI
    rw [h 0 x rfl, findI_none (l := l) (fun i y hy => h (i + 1) y (by simpa using hy))]
    simp
theorem findI_some {α : Type} {p : α → Bool} : ∀ {l : List α} {k : Nat} {x : α}, l[k]? = some x → p x = true → (∀ (i : Nat) y, i < k → l[i]? = some y → p y = false) → findI p l = k
  | y :: l, 0, x, hx, hp, _ => by
    simp at hx; subst hx
    unfold findI; rw [if_pos hp]; rfl
  | y :: l, k + 1, x, hx, hp, h => by
    unfold findI
    have h0 := h 0 y (by omega) rfl
    have ih := findI_some (l := l) (k := k) (by simpa using hx) hp (fun i z hi hz => h (i + 1) z (by omega) (by simpa using hz))
    rw [h0, ih]
    simp only [Bool.false_eq_true, if_false]
    split <;> omega
theorem findI_any {α : Type} (p : α → Bool) : ∀ l : List α, decide ((0 : Int) ≤ findI p l) = l.any p
  | [] => by simp [findI]
  | x :: l => by
    have ih := findI_any p l
    have := findI_ge p l
    unfold findI
    rw [List.any_cons]
    cases hp : p x with
    | true => simp
    | false =>
      rw [Bool.false_or, ← ih]
      simp only [Bool.false_eq_true, if_false, decide_eq_decide]
      split <;> omega
theorem flatT_get : ∀ {l : List Tok} {k : Nat} {x : Tok}, l[k]? = some x → ∀ (j : Nat) u, x.cells[j]? = some u → (l.flatMap Tok.cells)[k * 6 + j]? = some u
  | y :: l, 0, x, hx, j, u, hu => by
    simp at hx; subst hx
    rw [List.flatMap_cons, Nat.zero_mul, Nat.zero_add, List.getElem?_append_left (List.getElem?_eq_some_iff.1 hu).1]
    exact hu
  | y :: l, k + 1, x, hx, j, u, hu => by
    have ih := flatT_get (l := l) (k := k) (by simpa using hx) j u hu
    rw [List.flatMap_cons, List.getElem?_append_right (by simp [Tok.cells]; omega)]
    have e : (k + 1) * 6 + j - y.cells.length = k * 6 + j := by simp only [Tok.cells, List.length_cons, List.length_nil]; omega
    rw [e]; exact ih
theorem Src.getT {w : World} {A : Option Addr} {n k : Nat} {l : List Tok} {x : Tok} (h : Src w 6 A n (l.flatMap Tok.cells)) (hk : k < n) (hx : l[k]? = some x) : RdC w (bk A) (ofs A + k * 6) x.cells := by
  obtain ⟨_, h2⟩ := h.2 (by omega)
  intro j u hu
  have := h2 _ u (flatT_get hx j u hu)
  rw [Nat.add_assoc]; exact this
theorem flatT_length (l : List Tok) : (l.flatMap Tok.cells).length = l.length * 6 := by
  induction l with
  | nil => rfl
  | cons x l ih => rw [List.flatMap_cons, List.length_append, ih]; simp [Tok.cells]; omega
end Go.Proofs.YtiglobijdegjdaaDoor
