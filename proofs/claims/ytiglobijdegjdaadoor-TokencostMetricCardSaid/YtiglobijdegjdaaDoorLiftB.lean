/- From the statement's own words to the walks: slices of tokens, of truths. -/
import Derived.Test.YtiglobijdegjdaaDoorLift
namespace Go.Proofs.YtiglobijdegjdaaDoor
open Go.RowKit Go.Shelf Go.ChangeShapes Go.WideShapes Go.Proofs
set_option maxRecDepth 100000

theorem chunks {α : Type} (cells : α → List Value) (sz : Nat) : ∀ (n : Nat) (l : List D), l.length = n * sz → (∀ i, i < n → ∃ t : α, (l.drop (i * sz)).take sz = (cells t).map .v) → ∃ ts : List α, ts.length = n ∧ l = (ts.flatMap cells).map .v
  | 0, l, hl, _ => ⟨[], rfl, by simpa using List.eq_nil_of_length_eq_zero (by simpa using hl)⟩
  | n + 1, l, hl, h => by
    obtain ⟨t, ht⟩ := h 0 (by omega)
    rw [Nat.zero_mul, List.drop_zero] at ht
    obtain ⟨ts, h1, h2⟩ := chunks cells sz n (l.drop sz) (by rw [List.length_drop, hl, Nat.succ_mul]; omega) fun i hi => by
      obtain ⟨t, ht⟩ := h (i + 1) (by omega)
      exact ⟨t, by rw [List.drop_drop, ← ht, Nat.succ_mul, Nat.add_comm]⟩
    exact ⟨t :: ts, by simp [h1], by rw [List.flatMap_cons, List.map_append, ← ht, ← h2, List.take_append_drop]⟩
theorem flat1 {α : Type} (f : α → Value) : ∀ l : List α, l.flatMap (fun x => [f x]) = l.map f
  | [] => rfl
  | x :: l => by rw [List.flatMap_cons, List.map_cons, flat1 f l]; rfl
section
variable {H : Type} {enc : TypeId × Value → H} {W : World} {base b0 : Nat} {sp : Nat → Bool} {held : Bool} {r : Reach} {v : Value} {d : DataW H} {ps : List MemPlace}
theorem arg_toks (hv : Value.okWide Tryd.prog W r b0 29 v) (h : DataW.Trod enc Tryd.prog W base sp held 29 v d ps) : ∃ A cap, ∃ l : List Tok, v = .slice A l.length cap ∧ l.length ≤ 9223372036854775807 ∧ Src W 6 A l.length (l.flatMap Tok.cells) := by
  obtain ⟨fuel, hf⟩ := h
  obtain ⟨ds, h1, h2⟩ := trod_wt (S := sg) 9 rfl hf
  obtain ⟨l, n, rfl, hl, _, hi⟩ := (show ∃ l n, ds = [.s 6 l] ∧ l.length = n * 6 ∧ n ≤ maxLen ∧ ∀ i, i < n → wt sg 8 27 ((l.drop (i * 6)).take 6) from h2)
  obtain ⟨ts, e1, e2⟩ := chunks Tok.cells 6 n l hl fun i hin => tok_wt (hi i hin)
  subst e2
  have hc : v.cells.toList = [v] := by
    cases v <;> first | rfl | (exfalso; unfold Value.okWide at hv; simp [Tryd.underlying29] at hv; unfold Cell.okWide at hv; simp [Tryd.underlying29] at hv; unfold Cell.ok at hv; simp [Tryd.underlying29] at hv)
  rw [hc] at h1
  obtain ⟨A, m, cap, rfl, h3, h4, h5, h6⟩ := h1.srcV
  have em : m = ts.length := by rw [List.length_map] at hl; omega
  subst em
  exact ⟨A, cap, ts, rfl, by omega, h6⟩
theorem arg_toksC (hv : Value.okWide Tryd.prog W r b0 29 v) (h : DataW.Trod enc Tryd.prog W base sp held 29 v d ps) : ∃ A cap, ∃ l : List Tok, v = .slice A l.length cap ∧ l.length ≤ 9223372036854775807 ∧ Src W 6 A l.length (l.flatMap Tok.cells) ∧ l.length ≤ cap ∧ cap ≤ 9223372036854775807 := by
  obtain ⟨fuel, hf⟩ := h
  obtain ⟨ds, h1, h2⟩ := trod_wt (S := sg) 9 rfl hf
  obtain ⟨l, n, rfl, hl, _, hi⟩ := (show ∃ l n, ds = [.s 6 l] ∧ l.length = n * 6 ∧ n ≤ maxLen ∧ ∀ i, i < n → wt sg 8 27 ((l.drop (i * 6)).take 6) from h2)
  obtain ⟨ts, e1, e2⟩ := chunks Tok.cells 6 n l hl fun i hin => tok_wt (hi i hin)
  subst e2
  have hc : v.cells.toList = [v] := by
    cases v <;> first | rfl | (exfalso; unfold Value.okWide at hv; simp [Tryd.underlying29] at hv; unfold Cell.okWide at hv; simp [Tryd.underlying29] at hv; unfold Cell.ok at hv; simp [Tryd.underlying29] at hv)
  rw [hc] at h1
  obtain ⟨A, m, cap, rfl, h3, h4, h5, h6⟩ := h1.srcV
  have em : m = ts.length := by rw [List.length_map] at hl; omega
  subst em
  exact ⟨A, cap, ts, rfl, by omega, h6, h4, h5⟩
theorem arg_bools (hv : Value.okWide Tryd.prog W r b0 44 v) (h : DataW.Trod enc Tryd.prog W base sp held 44 v d ps) : ∃ A cap, ∃ l : List Bool, v = .slice A l.length cap ∧ l.length ≤ 9223372036854775807 ∧ Src W 1 A l.length (l.map Value.bool) := by
  obtain ⟨fuel, hf⟩ := h
  obtain ⟨ds, h1, h2⟩ := trod_wt (S := sg) 9 rfl hf
  obtain ⟨l, n, rfl, hl, _, hi⟩ := (show ∃ l n, ds = [.s 1 l] ∧ l.length = n * 1 ∧ n ≤ maxLen ∧ ∀ i, i < n → wt sg 8 4 ((l.drop (i * 1)).take 1) from h2)
  obtain ⟨ts, e1, e2⟩ := chunks (fun x : Bool => [Value.bool x]) 1 n l hl fun i hin => (show ∃ b, _ = [D.v (.bool b)] from hi i hin)
  subst e2
  have hc : v.cells.toList = [v] := by
    cases v <;> first | rfl | (exfalso; unfold Value.okWide at hv; simp [Tryd.underlying44] at hv; unfold Cell.okWide at hv; simp [Tryd.underlying44] at hv; unfold Cell.ok at hv; simp [Tryd.underlying44] at hv)
  rw [hc] at h1
  obtain ⟨A, m, cap, rfl, h3, h4, h5, h6⟩ := h1.srcV
  have em : m = ts.length := by rw [List.length_map] at hl; omega
  subst em
  exact ⟨A, cap, ts, rfl, by omega, by rw [← flat1]; exact h6⟩
theorem arg_u8 (hv : Value.okWide Tryd.prog W r b0 5 v) (h : DataW.Trod enc Tryd.prog W base sp held 5 v d ps) : ∃ n : Int, v = .int .u8 n ∧ 0 ≤ n ∧ n ≤ 255 := by
  obtain ⟨fuel, hf⟩ := h
  obtain ⟨ds, h1, h2⟩ := trod_wt (S := sg) 9 rfl hf
  obtain ⟨n, rfl, hn⟩ := (show ∃ n, ds = [.v (.int .u8 n)] ∧ (Lit.int .u8 n).wf = true from h2)
  have hc : v.cells.toList = [v] := by
    cases v <;> first | rfl | (exfalso; unfold Value.okWide at hv; simp [Tryd.underlying5] at hv; unfold Cell.okWide at hv; simp [Tryd.underlying5] at hv; unfold Cell.ok at hv; simp [Tryd.underlying5] at hv)
  rw [hc] at h1
  refine ⟨n, h1.val, ?_⟩
  simp only [Lit.wf, Bool.and_eq_true, decide_eq_true_eq] at hn
  exact ⟨by have := hn.1; simpa [IntKind.min, IntKind.signed] using this, by have := hn.2; simpa [IntKind.max, IntKind.signed, IntKind.bits] using this⟩
end
end Go.Proofs.YtiglobijdegjdaaDoor
