/- The engine: many blocks as one entry. It speaks of any program. -/
import Derived.Test.YtiglobijdegjdaaDoorEngS
namespace Go.Proofs.YtiglobijdegjdaaDoor
open Go.RowKit Go.Shelf

def lookB : List (Nat × List Value) → Nat → Option (List Value)
  | [], _ => none
  | (g, cs) :: l, b => if b = g then some cs else lookB l b
theorem lookB_none {l : List (Nat × List Value)} {b : Nat} : lookB l b = none ↔ b ∉ l.map Prod.fst := by
  induction l with
  | nil => simp [lookB]
  | cons x l ih =>
    obtain ⟨g, cs⟩ := x
    unfold lookB
    by_cases h : b = g
    · simp [h]
    · simp [h, ih]
theorem lookB_get {l : List (Nat × List Value)} (hn : (l.map Prod.fst).Nodup) {k g : Nat} {cs : List Value} (h : l[k]? = some (g, cs)) : lookB l g = some cs := by
  induction l generalizing k with
  | nil => simp at h
  | cons x l ih =>
    obtain ⟨g', cs'⟩ := x
    simp only [List.map_cons, List.nodup_cons] at hn
    cases k with
    | zero =>
      simp at h
      obtain ⟨rfl, rfl⟩ := h
      simp [lookB]
    | succ k =>
      simp only [List.getElem?_cons_succ] at h
      unfold lookB
      have hne : g ≠ g' := fun e => hn.1 (by rw [← e]; exact List.mem_map.2 ⟨(g, cs), List.mem_of_getElem? h, rfl⟩)
      rw [if_neg hne]
      exact ih hn.2 h
theorem lookB_append {l m : List (Nat × List Value)} {b : Nat} : lookB (l ++ m) b = (lookB l b).or (lookB m b) := by
  induction l with
  | nil => simp [lookB]
  | cons x l ih =>
    obtain ⟨g, cs⟩ := x
    simp only [List.cons_append, lookB]
    split
    · rfl
    · exact ih
/-- Many blocks of cells of one type. -/
def blks (t : TypeId) (l : List (Nat × List Value)) : HA := fun f => (l.map Prod.fst).Nodup ∧ ∀ b, f b = (lookB l b).map fun cs => Obj.cells cs.toArray t (0, 0)
theorem blks_nil (t : TypeId) : blks t [] (fun _ => none) := ⟨List.nodup_nil, fun _ => rfl⟩
/-- One more. -/
theorem blks_snoc {t : TypeId} {l : List (Nat × List Value)} {g : Nat} {cs : List Value} {H : List HA} : Hle (blk g cs t :: blks t l :: H) (blks t (l ++ [(g, cs)]) :: H) := by
  rintro n0 w ⟨F, h1, h2, h3⟩
  have hA : F 0 = one g (.cells cs.toArray t (0, 0)) := h1 0 _ rfl
  obtain ⟨hB1, hB2⟩ := h1 1 _ rfl
  have hg : lookB l g = none := by
    have := h3 0 1 g (by simp) (by simp) (by omega)
    rw [hA] at this
    rcases this with h | h
    · simp [one] at h
    · rw [hB2] at h
      cases hq : lookB l g with
      | none => rfl
      | some cs => rw [hq] at h; cases h
  have key : ∀ b, (lookB (l ++ [(g, cs)]) b).map (fun cs => Obj.cells cs.toArray t (0, 0)) = (F 1 b).or (F 0 b) := by
    intro b
    rw [lookB_append, hB2 b, hA]
    cases hq : lookB l b with
    | some x => simp
    | none =>
      simp only [Option.none_or, Option.map_none, lookB, one]
      split <;> simp
  refine ⟨fun i => match i with | 0 => fun b => (F 1 b).or (F 0 b) | i + 1 => F (i + 2), fun i A hi => ?_, fun i b o hi hf => ?_, fun i j b hi hj hne => ?_⟩
  · cases i with
    | zero =>
      simp at hi; subst hi
      refine ⟨?_, fun b => (key b).symm⟩
      rw [List.map_append, List.nodup_append]
      refine ⟨hB1, by simp, ?_⟩
      intro a ha b hb
      simp at hb
      subst hb
      intro e
      subst e
      exact absurd ha (lookB_none.1 hg)
    | succ i => exact h1 (i + 2) A (by simpa using hi)
  · cases i with
    | zero =>
      dsimp only at hf
      cases hq : F 1 b with
      | some x => rw [hq] at hf; simp at hf; subst hf; exact h2 1 b x (by simp) hq
      | none => rw [hq] at hf; simp at hf; exact h2 0 b o (by simp) hf
    | succ i => exact h2 (i + 2) b o (by simp at hi ⊢; omega) hf
  · have both : ∀ j, j + 2 < (blk g cs t :: blks t l :: H).length → ((F 1 b).or (F 0 b) = none ∨ F (j + 2) b = none) := by
      intro j hj
      rcases h3 0 (j + 2) b (by simp) hj (by omega) with h | h
      · rcases h3 1 (j + 2) b (by simp) hj (by omega) with h' | h'
        · left; rw [h, h']; rfl
        · exact .inr h'
      · exact .inr h
    cases i with
    | zero =>
      cases j with
      | zero => omega
      | succ j => exact both j (by simp at hj ⊢; omega)
    | succ i =>
      cases j with
      | zero => exact (both i (by simp at hi ⊢; omega)).symm
      | succ j => exact h3 (i + 2) (j + 2) b (by simp at hi ⊢; omega) (by simp at hj ⊢; omega) (by omega)
class FocusM (H : List HA) (t : outParam TypeId) (l : List (Nat × List Value)) : Prop where
  at_ : ∃ i : Nat, H[i]? = some (blks t l)
instance FocusM.head (H : List HA) (t : TypeId) (l : List (Nat × List Value)) : FocusM (blks t l :: H) t l := ⟨0, rfl⟩
instance FocusM.tail (A0 : HA) (H : List HA) (t : TypeId) (l : List (Nat × List Value)) [h : FocusM H t l] : FocusM (A0 :: H) t l := ⟨by obtain ⟨i, h1⟩ := h.at_; exact ⟨i + 1, by simpa using h1⟩⟩
theorem Cls.blks {w0 w : World} {H : List HA} {i : Nat} {t : TypeId} {l : List (Nat × List Value)} {k g : Nat} {cs : List Value} (hw : Cls w0 w H) (hi : H[i]? = some (blks t l)) (hk : l[k]? = some (g, cs)) : w.heap[g]? = some (.cells cs.toArray t (0, 0)) := by
  obtain ⟨F, h1, h2, h3⟩ := hw.sep
  have hil : i < H.length := (List.getElem?_eq_some_iff.1 hi).1
  obtain ⟨hn, hf⟩ := h1 i _ hi
  exact (h2 i g _ hil (by rw [hf, lookB_get hn hk]; rfl)).2
theorem rdM {C : Cx} {H : List HA} {t : TypeId} {l : List (Nat × List Value)} [hf : FocusM H t l] {k g off : Nat} {cs vs : List Value} (hk : l[k]? = some (g, cs)) (hv : ∀ j u, vs[j]? = some u → cs[off + j]? = some u) : ∀ w, Cls C.w0 w H → RdC w g off vs := by
  intro w hw j u hu
  obtain ⟨i, hi⟩ := hf.at_
  rw [cell_of_row w g (off + j) cs.toArray t (0, 0) (hw.blks hi hk)]
  simpa using hv j u hu
theorem T_nilblks {C : Cx} {k : List It} {env : Env} {ec : EnvC} {H : List HA} (t : TypeId) (h : T C k env ec (blks t [] :: H)) : T C k env ec H := by
  refine T.mk fun a w ha hw => ?_
  refine h a w ha ⟨hw.below, ?_⟩
  obtain ⟨F, h1, h2, h3⟩ := hw.sep
  refine ⟨fun i => match i with | 0 => fun _ => none | i + 1 => F i, fun i B hi => ?_, fun i b o hi hf => ?_, fun i j b hi hj hne => ?_⟩
  · cases i with
    | zero => simp at hi; subst hi; exact blks_nil t
    | succ i => exact h1 i B (by simpa using hi)
  · cases i with
    | zero => cases hf
    | succ i => exact h2 i b o (by simpa using hi) hf
  · cases i with
    | zero => exact .inl rfl
    | succ i =>
      cases j with
      | zero => exact .inr rfl
      | succ j => exact h3 i j b (by simpa using hi) (by simpa using hj) (by omega)
end Go.Proofs.YtiglobijdegjdaaDoor
