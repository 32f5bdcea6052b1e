/- The engine: tables of numbers, as they are read: their headers, their cells. It speaks of any program. -/
import Derived.Test.YtiglobijdegjdaaDoorEngM
namespace Go.Proofs.YtiglobijdegjdaaDoor
open Go.RowKit Go.Shelf

theorem rdFz {C : Cx} {H : List HA} {p : Frag} [FocusZ H p] {b o : Nat} {u : Value} (h : fr p b o = some u) : ∀ w, Cls C.w0 w H → RdC w b o [u] :=
  fun _ hw => RdC.one (hw.fz (p := p) _ _ _ h)
/-- A slice of numbers. -/
theorem Rd.row1 {R : Rdr} {x : Value} {r : List Int} (h : Rd R [x] [intsD r]) : ∃ A cap, x = .slice A r.length cap ∧ r.length ≤ cap ∧ cap ≤ 9223372036854775807 ∧ (0 < r.length → ∃ b o, A = some ⟨b, o, none⟩ ∧ ∀ (k : Nat) z, r[k]? = some z → R b (o + k) = some (.int .i64 z)) := by
  have h' : Rd R [x] [.s 1 ((r.map (Value.int .i64)).map .v)] := by rw [List.map_map]; exact h
  obtain ⟨A, n, cap, rfl, h1, h2, h3, h4⟩ := h'.vals_one
  have e : n = r.length := by simpa using h1.symm
  subst e
  exact ⟨A, cap, rfl, h2, h3, fun h0 => ⟨bk A, ofs A, (h4 h0).1, fun k z hz => (h4 h0).2 k _ (by rw [List.getElem?_map, hz]; rfl)⟩⟩
/-- A table: its header. -/
theorem Rd.tab {R : Rdr} {x : Value} {m : List (List Int)} (h : Rd R [x] [rowsD m]) : ∃ A cap cs, x = .slice A m.length cap ∧ m.length ≤ cap ∧ cap ≤ 9223372036854775807 ∧ cs.length = m.length ∧ (0 < m.length → ∃ b o, A = some ⟨b, o, none⟩ ∧ ∀ (i : Nat) u, cs[i]? = some u → R b (o + i) = some u) ∧ Rd R cs (m.map intsD) := by
  obtain ⟨A, n, cap, cs, rfl, h1, h2, h3, h4, h5, h6⟩ := h.slice
  have e : n = m.length := by simpa using h1.symm
  subst e
  exact ⟨A, cap, cs, rfl, h3, h4, by simpa using h2, fun h0 => ⟨bk A, ofs A, (h5 h0).1, (h5 h0).2⟩, h6⟩
/-- .. one of its rows. -/
theorem Rd.tabRow {R : Rdr} {cs : List Value} {m : List (List Int)} (h : Rd R cs (m.map intsD)) {i : Nat} {r : List Int} (hi : m[i]? = some r) : ∃ A cap, cs[i]? = some (.slice A r.length cap) ∧ r.length ≤ cap ∧ cap ≤ 9223372036854775807 ∧ (0 < r.length → ∃ b o, A = some ⟨b, o, none⟩ ∧ ∀ (k : Nat) z, r[k]? = some z → R b (o + k) = some (.int .i64 z)) := by
  obtain ⟨x, hx, hr⟩ := h.get (i := i) (d := intsD r) (by rw [List.getElem?_map, hi]; rfl)
  obtain ⟨A, cap, rfl, h1, h2, h3⟩ := hr.row1
  exact ⟨A, cap, hx, h1, h2, h3⟩
/-- A loop's counter, as an offset. -/
theorem off1 (o k : Nat) : o + (k : Int).toNat * 1 = o + k := by omega
end Go.Proofs.YtiglobijdegjdaaDoor
