/- From the statement's own words to the walks: costs, tokens; the library's variables. -/
import Derived.Test.YtiglobijdegjdaaDoorWalkM
import Derived.Test.YtiglobijdegjdaaDoorEngT
import Derived.Test.YtiglobijdegjdaaDoorRows
namespace Go.Proofs.YtiglobijdegjdaaDoor
open Go.RowKit Go.Shelf Go.ChangeShapes Go.WideShapes Go.Proofs
set_option maxRecDepth 100000

theorem knob : ownKnob Tryd.prog.godebug = none := by kernel_rfl
theorem laidOk : laidOutB Tryd.prog = true := by kernel_rfl
theorem costs_wt {f : Nat} {ds : List D} (h : wt sg (f + 2) 23 ds) : ∃ c : Costs, ds = c.cells.map .v := by
  obtain ⟨a0, b0, rfl, h0, a1, b1, rfl, h1, a2, b2, rfl, h2, a3, b3, rfl, h3, rfl⟩ := (show wtL (wt sg (f + 1)) [(3, 0), (3, 1), (3, 2), (3, 3)] ds from h)
  obtain ⟨n0, rfl, _⟩ := (show ∃ n, a0 = [.v (.int .i64 n)] ∧ (Lit.int .i64 n).wf = true from h0)
  obtain ⟨n1, rfl, _⟩ := (show ∃ n, a1 = [.v (.int .i64 n)] ∧ (Lit.int .i64 n).wf = true from h1)
  obtain ⟨n2, rfl, _⟩ := (show ∃ n, a2 = [.v (.int .i64 n)] ∧ (Lit.int .i64 n).wf = true from h2)
  obtain ⟨n3, rfl, _⟩ := (show ∃ n, a3 = [.v (.int .i64 n)] ∧ (Lit.int .i64 n).wf = true from h3)
  exact ⟨⟨n0, n1, n2, n3⟩, rfl⟩
theorem tok_wt {f : Nat} {ds : List D} (h : wt sg (f + 3) 27 ds) : ∃ t : Tok, ds = t.cells.map .v := by
  obtain ⟨a0, b0, rfl, h0, a1, b1, rfl, h1, a2, b2, rfl, h2, a3, b3, rfl, h3, a4, b4, rfl, h4, rfl⟩ := (show wtL (wt sg (f + 2)) [(9, 0), (9, 1), (25, 2), (3, 4), (9, 5)] ds from h)
  obtain ⟨s0, rfl, _⟩ := (show ∃ s : ByteArray, a0 = [.v (.string s)] ∧ s.size ≤ maxLen from h0)
  obtain ⟨s1, rfl, _⟩ := (show ∃ s : ByteArray, a1 = [.v (.string s)] ∧ s.size ≤ maxLen from h1)
  obtain ⟨c0, d0, rfl, g0, c1, d1, rfl, g1, rfl⟩ := (show wtL (wt sg (f + 1)) [(9, 0), (3, 1)] a2 from h2)
  obtain ⟨s2, rfl, _⟩ := (show ∃ s : ByteArray, c0 = [.v (.string s)] ∧ s.size ≤ maxLen from g0)
  obtain ⟨n0, rfl, _⟩ := (show ∃ n, c1 = [.v (.int .i64 n)] ∧ (Lit.int .i64 n).wf = true from g1)
  obtain ⟨n1, rfl, _⟩ := (show ∃ n, a3 = [.v (.int .i64 n)] ∧ (Lit.int .i64 n).wf = true from h3)
  obtain ⟨s3, rfl, _⟩ := (show ∃ s : ByteArray, a4 = [.v (.string s)] ∧ s.size ≤ maxLen from h4)
  exact ⟨⟨s0, s1, s2, n0, n1, s3⟩, rfl⟩
section
variable {H : Type} {enc : TypeId × Value → H} {W : World} {base b0 : Nat} {sp : Nat → Bool} {held : Bool} {r : Reach} {v : Value} {d : DataW H} {ps : List MemPlace}
theorem arg_costs (hv : Value.okWide Tryd.prog W r b0 23 v) (h : DataW.Trod enc Tryd.prog W base sp held 23 v d ps) : ∃ c : Costs, v = c.val := by
  obtain ⟨cs, rfl, _⟩ := okWide_struct Tryd.underlying23 hv
  obtain ⟨fuel, hf⟩ := h
  obtain ⟨ds, h1, h2⟩ := trod_wt (S := sg) 9 rfl hf
  obtain ⟨c, rfl⟩ := costs_wt h2
  exact ⟨c, congrArg Value.agg (Array.ext' h1.vals_inv)⟩
theorem arg_tok (hv : Value.okWide Tryd.prog W r b0 27 v) (h : DataW.Trod enc Tryd.prog W base sp held 27 v d ps) : ∃ t : Tok, v = t.val := by
  obtain ⟨cs, rfl, _⟩ := okWide_struct Tryd.underlying27 hv
  obtain ⟨fuel, hf⟩ := h
  obtain ⟨ds, h1, h2⟩ := trod_wt (S := sg) 9 rfl hf
  obtain ⟨c, rfl⟩ := tok_wt h2
  exact ⟨c, congrArg Value.agg (Array.ext' h1.vals_inv)⟩
end
/-- What the row says of the library's variables. -/
def laids : List (String × DataW Unit) := [("math/bits.deBruijn32tab", Rows.laid_math_bits_deBruijn32tab), ("math/bits.deBruijn64tab", Rows.laid_math_bits_deBruijn64tab), ("internal/strconv.uint64pow10", Rows.laid_internal_strconv_uint64pow10), ("strconv.ErrRange", Rows.laid_strconv_ErrRange), ("strconv.ErrSyntax", Rows.laid_strconv_ErrSyntax)]
theorem iface_var {n : String} {rest : List (String × DataW Unit)} {W : World} {g : Nat} {ti : TypeId} {ms : Array (String × TypeId)} {nm : String} {dd : DataW Unit} (h : laidMet Tryd.prog ((n, .iface nm dd) :: rest) W) (hg : Tryd.prog.globalNamed n = some g)
    (ht : (Tryd.prog.globals[g]?).map (·.type) = some ti) (hi : Tryd.prog.underlying ti = some (.interface ms)) : ∃ tp p, W.var? Tryd.prog n = some #[.iface tp p] := by
  obtain ⟨ps, ⟨g0, t0, cs0, f0, p0, q0, hg0, ht0, hv0, hd0, _, e0⟩, _, hrows⟩ := h
  obtain rfl := Option.some.inj (hg.symm.trans hg0)
  obtain rfl := Option.some.inj (ht.symm.trans ht0)
  obtain ⟨l0⟩ := cs0
  cases f0 with
  | zero => simp [DataW.trod] at hd0
  | succ f0 =>
    unfold DataW.trod at hd0
    rw [hi] at hd0
    split at hd0 <;> simp_all
theorem std_of {W : World} (h : laidMetH Tryd.prog laids W) : Std W := by
  rw [MakeChecks.laidMetH_plain _ _ _ (by kernel_rfl)] at h
  have h1 := h.tail.tail.tail
  obtain ⟨tq, q, hq⟩ := iface_var (g := 1) h1 (by kernel_rfl) (by kernel_rfl) Tryd.underlying87
  obtain ⟨tp, p, hp⟩ := iface_var (g := 0) h1.tail (by kernel_rfl) (by kernel_rfl) Tryd.underlying87
  exact ⟨tp, p, tq, q, hp, hq⟩
end Go.Proofs.YtiglobijdegjdaaDoor
