/- The engine, second part: blocks of the call's own, kept apart; what is still to be done; loops, branches, returns. It speaks of any program. -/
import Derived.Test.YtiglobijdegjdaaDoorEngA
namespace Go.Proofs.YtiglobijdegjdaaDoor
open Go.RowKit Go.Shelf

/-! ## Blocks of the call's own -/
abbrev Frag := Nat → Option Obj
/-- A statement on some blocks, and on no other. -/
abbrev HA := Frag → Prop
def Sep (n0 : Nat) (w : World) (H : List HA) : Prop :=
  ∃ F : Nat → Frag, (∀ (i : Nat) (A : HA), H[i]? = some A → A (F i)) ∧ (∀ i b o, i < H.length → F i b = some o → n0 ≤ b ∧ w.heap[b]? = some o) ∧
    (∀ i j b, i < H.length → j < H.length → i ≠ j → F i b = none ∨ F j b = none)
def one (b : Nat) (o : Obj) : Frag := fun x => if x = b then some o else none
/-- Block b is just these cells, none frozen. -/
def blk (b : Nat) (cs : List Value) (t : TypeId) : HA := fun f => f = one b (.cells cs.toArray t (0, 0))
/-- The entry is dropped. -/
def Hle (H H' : List HA) : Prop := ∀ n0 w, Sep n0 w H → Sep n0 w H'
theorem Hle.refl (H : List HA) : Hle H H := fun _ _ h => h
theorem Hle.trans {A B C : List HA} (h : Hle A B) (k : Hle B C) : Hle A C := fun n w x => k n w (h n w x)

theorem Sep.nil (n0 : Nat) (w : World) : Sep n0 w [] := ⟨fun _ _ => none, fun i A h => by simp at h, fun i b o h => by simp at h, fun i j b h => by simp at h⟩
theorem Sep.mono {n0 n1 : Nat} {w : World} {H : List HA} (h : Sep n0 w H) (hn : n1 ≤ n0) : Sep n1 w H := by
  obtain ⟨F, h1, h2, h3⟩ := h
  exact ⟨F, h1, fun i b o hi hf => ⟨Nat.le_trans hn (h2 i b o hi hf).1, (h2 i b o hi hf).2⟩, h3⟩
theorem lt_of_heap {w : World} {b : Nat} {o : Obj} (h : w.heap[b]? = some o) : b < w.heap.size := by
  rcases Nat.lt_or_ge b w.heap.size with hl | hl
  · exact hl
  · rw [Array.getElem?_eq_none hl] at h; cases h
/-- What was there stays so. -/
theorem Sep.ext {n0 : Nat} {w w' : World} {H : List HA} (h : Sep n0 w H) (hb : Below w.heap.size w w') : Sep n0 w' H := by
  obtain ⟨F, h1, h2, h3⟩ := h
  exact ⟨F, h1, fun i b o hi hf => ⟨(h2 i b o hi hf).1, (hb.block b (lt_of_heap (h2 i b o hi hf).2)).trans (h2 i b o hi hf).2⟩, h3⟩
/-- Two lots, the one beyond the other. -/
theorem Sep.call {n0 : Nat} {w w' : World} {H K : List HA} (h : Sep n0 w H) (hn : n0 ≤ w.heap.size) (hb : Below w.heap.size w w') (k : Sep w.heap.size w' K) : Sep n0 w' (K ++ H) := by
  obtain ⟨F, h1, h2, h3⟩ := h
  obtain ⟨G, k1, k2, k3⟩ := k
  refine ⟨fun i => if i < K.length then G i else F (i - K.length), fun i A hi => ?_, fun i b o hi hf => ?_, fun i j b hi hj hne => ?_⟩
  · dsimp only
    by_cases hk : i < K.length
    · rw [if_pos hk]; rw [List.getElem?_append_left hk] at hi; exact k1 i A hi
    · rw [if_neg hk]; rw [List.getElem?_append_right (by omega)] at hi; exact h1 _ A hi
  · dsimp only at hf
    rw [List.length_append] at hi
    by_cases hk : i < K.length
    · rw [if_pos hk] at hf
      exact ⟨Nat.le_trans hn (k2 i b o hk hf).1, (k2 i b o hk hf).2⟩
    · rw [if_neg hk] at hf
      have := h2 (i - K.length) b o (by omega) hf
      exact ⟨this.1, (hb.block b (lt_of_heap this.2)).trans this.2⟩
  · rw [List.length_append] at hi hj
    have far : ∀ i j, i < K.length → ¬ j < K.length → j < K.length + H.length → G i b = none ∨ F (j - K.length) b = none := by
      intro i j hi hj hj2
      cases hg : G i b with
      | none => exact .inl rfl
      | some o =>
        cases hf : F (j - K.length) b with
        | none => exact .inr rfl
        | some o' =>
          have e1 := (k2 i b o hi hg).1
          have e2 := lt_of_heap (h2 (j - K.length) b o' (by omega) hf).2
          omega
    dsimp only
    by_cases hk : i < K.length <;> by_cases hl : j < K.length
    · rw [if_pos hk, if_pos hl]; exact k3 i j b hk hl hne
    · rw [if_pos hk, if_neg hl]; exact far i j hk hl hj
    · rw [if_neg hk, if_pos hl]; exact (far j i hl hk hi).symm
    · rw [if_neg hk, if_neg hl]; exact h3 _ _ b (by omega) (by omega) (by omega)
/-- A new block. -/
theorem Sep.alloc {n0 : Nat} {w : World} {H : List HA} (h : Sep n0 w H) (hn : n0 ≤ w.heap.size) (o : Obj) {A : HA} (hA : A (one w.heap.size o)) : Sep n0 (w.alloc o) (A :: H) := by
  obtain ⟨F, h1, h2, h3⟩ := h
  have far : ∀ j b, j < H.length → one w.heap.size o b = none ∨ F j b = none := by
    intro j b hj
    by_cases hb : b = w.heap.size
    · right
      cases hf : F j b with
      | none => rfl
      | some o' => have := lt_of_heap (h2 j b o' hj hf).2; omega
    · left; simp [one, hb]
  refine ⟨fun i => match i with | 0 => one w.heap.size o | i + 1 => F i, fun i A' hi => ?_, fun i b o' hi hf => ?_, fun i j b hi hj hne => ?_⟩
  · cases i with
    | zero => simp at hi; subst hi; exact hA
    | succ i => exact h1 i A' (by simpa using hi)
  · cases i with
    | zero =>
      simp only [one] at hf
      split at hf
      · rename_i e; subst e; injection hf with hf; subst hf
        exact ⟨hn, heap_alloc_new w _⟩
      · cases hf
    | succ i =>
      have := h2 i b o' (by simpa using hi) hf
      exact ⟨this.1, (Below.heap_alloc w o b (lt_of_heap this.2)).trans this.2⟩
  · cases i <;> cases j
    · exact absurd rfl hne
    · exact far _ b (by simpa using hj)
    · exact (far _ b (by simpa using hi)).symm
    · exact h3 _ _ b (by simpa using hi) (by simpa using hj) (by omega)
/-- One entry's blocks turn, no other's. -/
theorem Sep.turn {n0 : Nat} {w w' : World} {H : List HA} {k : Nat} {A' : HA} {b : Nat} {o : Obj} (h : Sep n0 w H) {A : HA} (hk : H[k]? = some A) (hA : ∀ f, A f → ∃ o0, f = one b o0)
    (hoth : ∀ c, c ≠ b → c < w.heap.size → w'.heap[c]? = w.heap[c]?) (hb : w'.heap[b]? = some o) (hA' : A' (one b o)) : Sep n0 w' (H.set k A') := by
  obtain ⟨F, h1, h2, h3⟩ := h
  obtain ⟨o0, ho⟩ := hA _ (h1 k A hk)
  have hkl : k < H.length := (List.getElem?_eq_some_iff.1 hk).1
  have own : ∀ i, i < H.length → i ≠ k → F i b = none := by
    intro i hi hne
    rcases h3 i k b hi hkl hne with h | h
    · exact h
    · rw [ho] at h; simp [one] at h
  refine ⟨fun i => if i = k then one b o else F i, fun i B hi => ?_, fun i c o' hi hf => ?_, fun i j c hi hj hne => ?_⟩
  · dsimp only
    by_cases e : i = k
    · subst e; rw [if_pos rfl]; rw [List.getElem?_set_self hkl] at hi; injection hi with hi; subst hi; exact hA'
    · rw [if_neg e]; rw [List.getElem?_set_ne (Ne.symm e)] at hi; exact h1 i B hi
  · dsimp only at hf
    rw [List.length_set] at hi
    by_cases e : i = k
    · subst e; rw [if_pos rfl] at hf
      simp only [one] at hf
      split at hf
      · rename_i e2; subst e2; injection hf with hf; subst hf
        refine ⟨(h2 i c o0 hi (by rw [ho]; simp [one])).1, hb⟩
      · cases hf
    · rw [if_neg e] at hf
      have hcb : c ≠ b := fun e2 => by subst e2; rw [own i hi e] at hf; cases hf
      have := h2 i c o' hi hf
      exact ⟨this.1, (hoth c hcb (lt_of_heap this.2)).trans this.2⟩
  · rw [List.length_set] at hi hj
    dsimp only
    by_cases e : i = k
    · subst e; rw [if_pos rfl, if_neg (Ne.symm hne)]
      by_cases hc : c = b
      · subst hc; exact .inr (own j hj (Ne.symm hne))
      · left; simp [one, hc]
    · rw [if_neg e]
      by_cases e2 : j = k
      · subst e2; rw [if_pos rfl]
        by_cases hc : c = b
        · subst hc; exact .inl (own i hi e)
        · right; simp [one, hc]
      · rw [if_neg e2]; exact h3 i j c hi hj hne
/-- Some of the entries, in whatever order. -/
theorem Hle.pick {H H' : List HA} (p : Nat → Nat) (hp : ∀ (i : Nat) (A : HA), H'[i]? = some A → H[p i]? = some A) (hinj : ∀ i j, i < H'.length → j < H'.length → i ≠ j → p i ≠ p j) : Hle H H' := by
  rintro n0 w ⟨F, h1, h2, h3⟩
  have lt : ∀ i, i < H'.length → p i < H.length := fun i hi => (List.getElem?_eq_some_iff.1 (hp i _ (List.getElem?_eq_getElem hi))).1
  exact ⟨fun i => F (p i), fun i A hi => h1 _ A (hp i A hi), fun i b o hi hf => h2 _ b o (lt i hi) hf, fun i j b hi hj hne => h3 _ _ b (lt i hi) (lt j hj) (hinj i j hi hj hne)⟩
theorem Hle.none (H : List HA) : Hle H [] := fun _ w _ => Sep.nil _ w
theorem Hle.tail (A : HA) (H : List HA) : Hle (A :: H) H := Hle.pick (· + 1) (fun i A h => by simpa using h) (fun i j _ _ h => by omega)
theorem Hle.weaken {H K : List HA} {i : Nat} {A B : HA} (h : H[i]? = some A) (hab : ∀ f, A f → B f) (hk : H.set i B = K) : Hle H K := by
  subst hk
  rintro n0 w ⟨F, h1, h2, h3⟩
  have hil : i < H.length := (List.getElem?_eq_some_iff.1 h).1
  refine ⟨F, fun j C hj => ?_, fun j b o hj => h2 j b o (by simpa using hj), fun j k b hj hk => h3 j k b (by simpa using hj) (by simpa using hk)⟩
  by_cases e : j = i
  · subst e; rw [List.getElem?_set_self hil] at hj; injection hj with hj; subst hj; exact hab _ (h1 j A h)
  · rw [List.getElem?_set_ne (Ne.symm e)] at hj; exact h1 j C hj

/-- Entries behind entries. -/
theorem Hle.append_right {K J : List HA} (A : List HA) : Hle (A ++ J) J := Hle.pick (· + A.length) (fun i B h => by rw [List.getElem?_append_right (by omega)]; simpa using h) (fun i j _ _ h => by omega)
theorem Hle.append_left {A : List HA} (J : List HA) : Hle (A ++ J) A := Hle.pick id (fun i B h => by have := (List.getElem?_eq_some_iff.1 h).1; rw [id, List.getElem?_append_left this]; exact h) (fun i j _ _ h => h)
theorem perm_pick {H K : List HA} (h : H.Perm K) : ∃ p : Nat → Nat, (∀ (i : Nat) (A : HA), K[i]? = some A → H[p i]? = some A) ∧ ∀ i j, i < K.length → j < K.length → i ≠ j → p i ≠ p j := by
  induction h with
  | nil => exact ⟨id, fun i A h => by simp at h, fun i j h => by simp at h⟩
  | cons A _ ih =>
    obtain ⟨p, h1, h2⟩ := ih
    refine ⟨fun i => match i with | 0 => 0 | i + 1 => p i + 1, fun i B h => ?_, fun i j hi hj hne => ?_⟩
    · cases i with
      | zero => simpa using h
      | succ i => simpa using h1 i B (by simpa using h)
    · cases i <;> cases j <;> dsimp only <;> try omega
      rename_i i j
      have := h2 i j (by simpa using hi) (by simpa using hj) (by omega)
      omega
  | swap A B l =>
    refine ⟨fun i => match i with | 0 => 1 | 1 => 0 | i + 2 => i + 2, fun i C h => ?_, fun i j hi hj hne => ?_⟩
    · match i with
      | 0 => simpa using h
      | 1 => simpa using h
      | i + 2 => simpa using h
    · match i, j with
      | 0, 0 => omega
      | 0, 1 => simp
      | 0, j + 2 => simp
      | 1, 0 => simp
      | 1, 1 => omega
      | 1, j + 2 => simp
      | i + 2, 0 => simp
      | i + 2, 1 => simp
      | i + 2, j + 2 => simpa using hne
  | trans hp1 hp2 ih1 ih2 =>
    obtain ⟨p, h1, h2⟩ := ih1
    obtain ⟨q, k1, k2⟩ := ih2
    refine ⟨fun i => p (q i), fun i A h => h1 _ A (k1 i A h), fun i j hi hj hne => ?_⟩
    have hq : ∀ i, i < _ → q i < _ := fun i hi => (List.getElem?_eq_some_iff.1 (k1 i _ (List.getElem?_eq_getElem hi))).1
    exact h2 _ _ (hq i hi) (hq j hj) (k2 i j hi hj hne)
/-- The entries in another order; some of them dropped. -/
theorem Hle.perm {H K : List HA} (h : H.Perm K) : Hle H K := by
  obtain ⟨p, h1, h2⟩ := perm_pick h
  exact Hle.pick p h1 h2
theorem Hle.comm (H K : List HA) : Hle (H ++ K) (K ++ H) := Hle.perm List.perm_append_comm
theorem Hle.rot2 (A B : HA) (H K : List HA) : Hle (A :: B :: (H ++ K)) (H ++ A :: B :: K) :=
  Hle.perm (((List.perm_middle (a := A) (l₁ := H) (l₂ := B :: K)).trans ((List.perm_middle (a := B) (l₁ := H) (l₂ := K)).cons A)).symm)
theorem Hle.unrot2 (A B : HA) (H K : List HA) : Hle (H ++ A :: B :: K) (A :: B :: (H ++ K)) :=
  Hle.perm ((List.perm_middle (a := A) (l₁ := H) (l₂ := B :: K)).trans ((List.perm_middle (a := B) (l₁ := H) (l₂ := K)).cons A))
/-- The worlds that a walk passes through: what was there when the call began is as it was; the call's own blocks are so. -/
structure Cls (w0 w : World) (H : List HA) : Prop where
  below : Below w0.heap.size w0 w
  sep : Sep w0.heap.size w H
theorem Cls.le {w0 w : World} {H H' : List HA} (h : Cls w0 w H) (hl : Hle H H') : Cls w0 w H' := ⟨h.below, hl _ _ h.sep⟩
theorem Cls.start (w : World) : Cls w w [] := ⟨Below.refl _ _, Sep.nil _ _⟩
theorem Cls.drew {w0 w : World} {H : List HA} (h : Cls w0 w H) : Cls w0 { w with drawn := w.drawn + 1 } H := ⟨h.below.drew, h.sep⟩
theorem Cls.alloc {w0 w : World} {H : List HA} (h : Cls w0 w H) (o : Obj) {A : HA} (hA : A (one w.heap.size o)) : Cls w0 (w.alloc o) (A :: H) :=
  ⟨h.below.alloc h.below.size o, h.sep.alloc h.below.size o hA⟩
/-- Behind a call that turned nothing that was there, and left blocks of its own. -/
theorem Cls.call {w0 w w' : World} {H K : List HA} (h : Cls w0 w H) (hb : Below w.heap.size w w') (hk : Sep w.heap.size w' K) : Cls w0 w' (K ++ H) :=
  ⟨h.below.trans (hb.mono h.below.size), h.sep.call h.below.size hb hk⟩
end Go.Proofs.YtiglobijdegjdaaDoor
