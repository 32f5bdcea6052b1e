/- The engine: data with depth: what cells say, read through slices; data of the call's own that nothing turns any more. It speaks of any program. -/
import Derived.Test.YtiglobijdegjdaaDoorEngK
namespace Go.Proofs.YtiglobijdegjdaaDoor
open Go.RowKit Go.Shelf

/-- A cell: a plain value; or a slice, by what its elements' cells say, one after the other. -/
inductive D where
  | v (x : Value)
  | s (sz : Nat) (l : List D)
abbrev Rdr := Nat → Nat → Option Value
def wr (w : World) : Rdr := fun b o => w.cell? ⟨b, o, none⟩
def fr (f : Frag) : Rdr := fun b o => match f b with
  | some (.cells cs _ _) => cs[o]?
  | _ => none
def Rdr.le (R S : Rdr) : Prop := ∀ b o u, R b o = some u → S b o = some u
/-- What the cells say. -/
inductive Rd (R : Rdr) : List Value → List D → Prop where
  | nil : Rd R [] []
  | v (x : Value) {vs : List Value} {ds : List D} (h : Rd R vs ds) : Rd R (x :: vs) (.v x :: ds)
  | s (A : Option Addr) (n cap sz : Nat) (cs : List Value) {l : List D} {vs : List Value} {ds : List D} (hl : l.length = n * sz) (hn : n ≤ cap) (hm : cap ≤ 9223372036854775807)
      (hc : 0 < n → isAt A ∧ ∀ j u, cs[j]? = some u → R (bk A) (ofs A + j) = some u) (hcs : Rd R cs l) (h : Rd R vs ds) : Rd R (.slice A n cap :: vs) (.s sz l :: ds)
theorem Rd.mono {R S : Rdr} (hRS : R.le S) {vs : List Value} {ds : List D} (h : Rd R vs ds) : Rd S vs ds := by
  induction h with
  | nil => exact .nil
  | v x _ ih => exact .v x ih
  | s A n cap sz cs hl hn hm hc _ _ ih1 ih2 => exact .s A n cap sz cs hl hn hm (fun h => ⟨(hc h).1, fun j u hu => hRS _ _ _ ((hc h).2 j u hu)⟩) ih1 ih2
theorem Rd.length {R : Rdr} {vs : List Value} {ds : List D} (h : Rd R vs ds) : vs.length = ds.length := by
  induction h with
  | nil => rfl
  | v x _ ih => simp [ih]
  | s _ _ _ _ _ _ _ _ _ _ _ _ ih2 => simp [ih2]
theorem Rd.append {R : Rdr} {vs ws : List Value} {ds es : List D} (h : Rd R vs ds) (k : Rd R ws es) : Rd R (vs ++ ws) (ds ++ es) := by
  induction h with
  | nil => exact k
  | v x _ ih => exact .v x ih
  | s A n cap sz cs hl hn hm hc hcs _ _ ih2 => exact .s A n cap sz cs hl hn hm hc hcs ih2
theorem Rd.cons_inv {R : Rdr} {x : Value} {vs : List Value} {d : D} {ds : List D} (h : Rd R (x :: vs) (d :: ds)) : Rd R [x] [d] ∧ Rd R vs ds := by
  cases h with
  | v x h => exact ⟨.v x .nil, h⟩
  | s A n cap sz cs hl hn hm hc hcs h => exact ⟨.s A n cap sz cs hl hn hm hc hcs .nil, h⟩
theorem Rd.get {R : Rdr} : ∀ {ds : List D} {vs : List Value}, Rd R vs ds → ∀ {i : Nat} {d : D}, ds[i]? = some d → ∃ x, vs[i]? = some x ∧ Rd R [x] [d]
  | [], _, _, i, d, hd => by simp at hd
  | e :: ds, vs, h, i, d, hd => by
    match vs, h with
    | [], h => cases h
    | x :: vs, h =>
      obtain ⟨h1, h2⟩ := h.cons_inv
      cases i with
      | zero => simp at hd; subst hd; exact ⟨x, rfl, h1⟩
      | succ i => obtain ⟨y, hy, hr⟩ := h2.get (i := i) (by simpa using hd); exact ⟨y, by simpa using hy, hr⟩
theorem Rd.split {R : Rdr} : ∀ {ds es : List D} {vs : List Value}, Rd R vs (ds ++ es) → ∃ ws us, vs = ws ++ us ∧ Rd R ws ds ∧ Rd R us es
  | [], es, vs, h => ⟨[], vs, rfl, .nil, h⟩
  | d :: ds, es, vs, h => by
    match vs, h with
    | [], h => cases h
    | x :: vs, h =>
      obtain ⟨h1, h2⟩ := h.cons_inv
      obtain ⟨ws, us, rfl, h3, h4⟩ := h2.split
      exact ⟨x :: ws, us, rfl, h1.append h3, h4⟩
theorem Rd.take {R : Rdr} {ds : List D} {vs : List Value} (h : Rd R vs ds) (n : Nat) : Rd R (vs.take n) (ds.take n) ∧ Rd R (vs.drop n) (ds.drop n) := by
  have hl := h.length
  rw [← List.take_append_drop n ds] at h
  obtain ⟨ws, us, rfl, h1, h2⟩ := h.split
  have h3 := h1.length
  have h4 := h2.length
  have hw : ws.length = min n ds.length := by rw [h3, List.length_take]
  by_cases hn : n ≤ ds.length
  · have e : n = ws.length := by omega
    refine ⟨?_, ?_⟩
    · rw [e, List.take_left, ← e]; exact h1
    · rw [e, List.drop_left, ← e]; exact h2
  · have e1 : ds.take n = ds := List.take_of_length_le (by omega)
    have e2 : ds.drop n = [] := List.drop_eq_nil_of_le (by omega)
    rw [e2] at h2 h4 ⊢
    have e3 : us = [] := List.eq_nil_of_length_eq_zero (by simpa using h4)
    subst e3
    rw [e1] at h1 ⊢
    rw [List.append_nil, List.take_of_length_le (by rw [h1.length]; omega), List.drop_eq_nil_of_le (by rw [h1.length]; omega)]
    exact ⟨h1, .nil⟩
theorem Rd.val {R : Rdr} {x : Value} {y : Value} (h : Rd R [x] [.v y]) : x = y := by cases h; rfl
theorem Rd.vals {R : Rdr} : ∀ (vs : List Value), Rd R vs (vs.map .v)
  | [] => .nil
  | x :: vs => .v x (Rd.vals vs)
theorem Rd.vals_inv {R : Rdr} : ∀ {xs vs : List Value}, Rd R vs (xs.map .v) → vs = xs
  | [], [], _ => rfl
  | x :: xs, y :: vs, h => by
    obtain ⟨h1, h2⟩ := Rd.cons_inv (d := .v x) h
    rw [h1.val, h2.vals_inv]
theorem Rd.vals_one {R : Rdr} {xs : List Value} {x : Value} {sz : Nat} (h : Rd R [x] [.s sz (xs.map .v)]) : ∃ A n cap, x = .slice A n cap ∧ xs.length = n * sz ∧ n ≤ cap ∧ cap ≤ 9223372036854775807 ∧ (0 < n → isAt A ∧ ∀ j u, xs[j]? = some u → R (bk A) (ofs A + j) = some u) := by
  cases h with
  | s A n cap sz cs hl hn hm hc hcs _ =>
    have := hcs.vals_inv
    subst this
    exact ⟨A, n, cap, rfl, by simpa using hl, hn, hm, hc⟩
theorem Rd.slice {R : Rdr} {x : Value} {sz : Nat} {l : List D} (h : Rd R [x] [.s sz l]) : ∃ A n cap cs, x = .slice A n cap ∧ l.length = n * sz ∧ cs.length = n * sz ∧ n ≤ cap ∧ cap ≤ 9223372036854775807 ∧ (0 < n → isAt A ∧ ∀ j u, cs[j]? = some u → R (bk A) (ofs A + j) = some u) ∧ Rd R cs l := by
  cases h with
  | s A n cap sz cs hl hn hm hc hcs _ => exact ⟨A, n, cap, cs, rfl, hl, by rw [hcs.length, hl], hn, hm, hc, hcs⟩
/-- .. in a world. -/
theorem Rd.src {w : World} {x : Value} {sz : Nat} {l : List D} (h : Rd (wr w) [x] [.s sz l]) : ∃ A n cap cs, x = .slice A n cap ∧ l.length = n * sz ∧ n ≤ cap ∧ cap ≤ 9223372036854775807 ∧ Src w sz A n cs ∧ Rd (wr w) cs l := by
  obtain ⟨A, n, cap, cs, h1, h2, h3, h4, h5, h6, h7⟩ := h.slice
  exact ⟨A, n, cap, cs, h1, h2, h4, h5, ⟨h3, fun hn => ⟨(h6 hn).1, (h6 hn).2⟩⟩, h7⟩
theorem Rd.srcV {w : World} {x : Value} {sz : Nat} {xs : List Value} (h : Rd (wr w) [x] [.s sz (xs.map .v)]) : ∃ A n cap, x = .slice A n cap ∧ xs.length = n * sz ∧ n ≤ cap ∧ cap ≤ 9223372036854775807 ∧ Src w sz A n xs := by
  obtain ⟨A, n, cap, h1, h2, h4, h5, h6⟩ := h.vals_one
  exact ⟨A, n, cap, h1, h2, h4, h5, ⟨h2, fun hn => ⟨(h6 hn).1, (h6 hn).2⟩⟩⟩
theorem Src.rd {w : World} {sz : Nat} {A : Option Addr} {n cap : Nat} {xs : List Value} (h : Src w sz A n xs) (hn : n ≤ cap) (hm : cap ≤ 9223372036854775807) : Rd (wr w) [.slice A n cap] [.s sz (xs.map .v)] :=
  .s A n cap sz xs (by rw [List.length_map]; exact h.1) hn hm (fun h1 => ⟨(h.2 h1).1, (h.2 h1).2⟩) (Rd.vals xs) .nil
theorem Src.rdD {w : World} {sz : Nat} {A : Option Addr} {n cap : Nat} {cs : List Value} {l : List D} (h : Src w sz A n cs) (hn : n ≤ cap) (hm : cap ≤ 9223372036854775807) (hr : Rd (wr w) cs l) : Rd (wr w) [.slice A n cap] [.s sz l] :=
  .s A n cap sz cs (by rw [← hr.length]; exact h.1) hn hm (fun h1 => ⟨(h.2 h1).1, (h.2 h1).2⟩) hr .nil
theorem wr_below {w w' : World} (hb : Below w.heap.size w w') : (wr w).le (wr w') := fun _ _ _ hu => (hb.cell (lt_of_cell hu)).trans hu
theorem Rd.old {w0 w : World} {H : List HA} {vs : List Value} {ds : List D} (h : Rd (wr w0) vs ds) (hw : Cls w0 w H) : Rd (wr w) vs ds := h.mono (wr_below hw.below)

/-! ## Data of the call's own -/
def dat (vs : List Value) (ds : List D) : HA := fun f => Rd (fr f) vs ds
def fz (p : Frag) : HA := fun f => f = p
class FocusZ (H : List HA) (p : Frag) : Prop where
  at_ : ∃ i : Nat, H[i]? = some (fz p)
instance FocusZ.head (H : List HA) (p : Frag) : FocusZ (fz p :: H) p := ⟨0, rfl⟩
instance FocusZ.tail (A0 : HA) (H : List HA) (p : Frag) [h : FocusZ H p] : FocusZ (A0 :: H) p := ⟨by obtain ⟨i, h1⟩ := h.at_; exact ⟨i + 1, by simpa using h1⟩⟩
theorem fr_le {w : World} {f : Frag} (h : ∀ b o, f b = some o → w.heap[b]? = some o) : (fr f).le (wr w) := by
  intro b o u hu
  unfold fr at hu
  cases hf : f b with
  | none => rw [hf] at hu; cases hu
  | some ob =>
    rw [hf] at hu
    cases ob <;> simp only at hu <;> try (cases hu; done)
    rename_i cs t m
    unfold wr
    rw [cell_of_row w b o cs t m (h b _ hf)]
    exact hu
theorem Cls.fz {w0 w : World} {H : List HA} {p : Frag} (hw : Cls w0 w H) [hz : FocusZ H p] : (fr p).le (wr w) := by
  obtain ⟨i, hi⟩ := hz.at_
  obtain ⟨F, h1, h2, h3⟩ := hw.sep
  have hil : i < H.length := (List.getElem?_eq_some_iff.1 hi).1
  have hp : F i = p := h1 i _ hi
  subst hp
  exact fr_le fun b o hf => (h2 i b o hil hf).2
theorem Rd.own {w0 w : World} {H : List HA} {p : Frag} [FocusZ H p] {vs : List Value} {ds : List D} (h : Rd (fr p) vs ds) (hw : Cls w0 w H) : Rd (wr w) vs ds := h.mono (hw.fz (p := p))
theorem T_open {C : Cx} {k : List It} {env : Env} {ec : EnvC} {H : List HA} {vs : List Value} {ds : List D} (h : ∀ p, Rd (fr p) vs ds → T C k env ec (fz p :: H)) : T C k env ec (dat vs ds :: H) := by
  refine T.mk fun a w ha hw => ?_
  obtain ⟨F, h1, h2, h3⟩ := hw.sep
  have hd := h1 0 _ rfl
  refine h (F 0) hd a w ha ⟨hw.below, F, fun i A hi => ?_, h2, h3⟩
  cases i with
  | zero => simp at hi; subst hi; rfl
  | succ i => exact h1 (i + 1) A (by simpa using hi)
theorem fz_dat {p : Frag} {vs : List Value} {ds : List D} (h : Rd (fr p) vs ds) : ∀ f, fz p f → dat vs ds f := fun f hf => by subst hf; exact h

/-! ## Entries that are joined -/
theorem hle_merge {A B E : HA} {H : List HA} (h : ∀ f g : Frag, (∀ b, f b = none ∨ g b = none) → A f → B g → E (fun b => (f b).or (g b))) : Hle (A :: B :: H) (E :: H) := by
  rintro n0 w ⟨F, h1, h2, h3⟩
  have hE := h (F 0) (F 1) (fun b => h3 0 1 b (by simp) (by simp) (by omega)) (h1 0 _ rfl) (h1 1 _ rfl)
  refine ⟨fun i => match i with | 0 => fun b => (F 0 b).or (F 1 b) | i + 1 => F (i + 2), fun i A hi => ?_, fun i b o hi hf => ?_, fun i j b hi hj hne => ?_⟩
  · cases i with
    | zero => simp at hi; subst hi; exact hE
    | succ i => exact h1 (i + 2) A (by simpa using hi)
  · cases i with
    | zero =>
      dsimp only at hf
      cases hq : F 0 b with
      | some x => rw [hq] at hf; simp at hf; subst hf; exact h2 0 b x (by simp) hq
      | none => rw [hq] at hf; simp at hf; exact h2 1 b o (by simp) hf
    | succ i => exact h2 (i + 2) b o (by simp at hi ⊢; omega) hf
  · have both : ∀ j, j + 2 < (A :: B :: H).length → ((F 0 b).or (F 1 b) = none ∨ F (j + 2) b = none) := by
      intro j hj
      rcases h3 0 (j + 2) b (by simp) hj (by omega) with h | h
      · rcases h3 1 (j + 2) b (by simp) hj (by omega) with h' | h'
        · left; rw [h, h']; rfl
        · exact .inr h'
      · exact .inr h
    cases i with
    | zero =>
      cases j with
      | zero => omega
      | succ j => exact both j (by simp at hj ⊢; omega)
    | succ i =>
      cases j with
      | zero => exact (both i (by simp at hi ⊢; omega)).symm
      | succ j => exact h3 (i + 2) (j + 2) b (by simp at hi ⊢; omega) (by simp at hj ⊢; omega) (by omega)
theorem hle_unit {B : HA} {H : List HA} (h : B (fun _ => none)) : Hle H (B :: H) := by
  rintro n0 w ⟨F, h1, h2, h3⟩
  refine ⟨fun i => match i with | 0 => fun _ => none | i + 1 => F i, fun i A hi => ?_, fun i b o hi hf => ?_, fun i j b hi hj hne => ?_⟩
  · cases i with
    | zero => simp at hi; subst hi; exact h
    | succ i => exact h1 i A (by simpa using hi)
  · cases i with
    | zero => cases hf
    | succ i => exact h2 i b o (by simpa using hi) hf
  · cases i with
    | zero => exact .inl rfl
    | succ i =>
      cases j with
      | zero => exact .inr rfl
      | succ j => exact h3 i j b (by simpa using hi) (by simpa using hj) (by omega)
theorem hle_map {A B : HA} {H : List HA} (h : ∀ f, A f → B f) : Hle (A :: H) (B :: H) := Hle.weaken (i := 0) rfl h rfl
theorem fr_or_left {f g : Frag} : (fr f).le (fr (fun b => (f b).or (g b))) := by
  intro b o u hu
  unfold fr at hu ⊢
  cases hf : f b with
  | none => rw [hf] at hu; cases hu
  | some x => rw [hf] at hu; dsimp only; rw [hf]; exact hu
theorem fr_or_right {f g : Frag} (h : ∀ b, f b = none ∨ g b = none) : (fr g).le (fr (fun b => (f b).or (g b))) := by
  intro b o u hu
  unfold fr at hu ⊢
  cases hg : g b with
  | none => rw [hg] at hu; cases hu
  | some x =>
    rw [hg] at hu
    rcases h b with h | h
    · dsimp only; rw [h, hg]; exact hu
    · rw [hg] at h; cases h
theorem dat_nil (H : List HA) : Hle H (dat [] [] :: H) := hle_unit Rd.nil
theorem dat_vals (H : List HA) (vs : List Value) : Hle H (dat vs (vs.map .v) :: H) := hle_unit (Rd.vals vs)
theorem dat_join {vs ws : List Value} {ds es : List D} {H : List HA} : Hle (dat ws es :: dat vs ds :: H) (dat (vs ++ ws) (ds ++ es) :: H) :=
  hle_merge fun _ _ hd h1 h2 => (Rd.mono (fr_or_right hd) h2).append (Rd.mono fr_or_left h1)
theorem fr_one {g o : Nat} {cs : Array Value} {t : TypeId} {m : Nat × Nat} : fr (one g (.cells cs t m)) g o = cs[o]? := by unfold fr one; simp
/-- A slice of the call's own, with what its elements' cells say. -/
theorem dat_row {e : TypeId} {sz cap n : Nat} {A : Option Addr} {cs : List Value} {l : List D} {H : List HA} : Hle (row e sz A cap n cs :: dat cs l :: H) (dat [.slice A n cap] [.s sz l] :: H) :=
  hle_merge fun f g hd h1 h2 => by
    obtain ⟨hl, h1⟩ := h1
    rcases h1 with ⟨rfl, rfl, rfl, rfl⟩ | ⟨b, cur, rfl, rfl, h3, h4, h5, h6⟩
    · have : cs = [] := List.eq_nil_of_length_eq_zero (by simpa using hl)
      subst this
      have hl2 := Rd.length h2
      exact .s none 0 0 sz [] (by rw [← hl2]; simp) (Nat.le_refl _) (by omega) (fun h => absurd h (by omega)) (Rd.mono (fr_or_right hd) h2) .nil
    · refine .s _ n cap sz cs (by rw [← Rd.length h2]; exact hl) h3 (by simp only [maxLen] at h4; exact h4) (fun _ => ⟨rfl, fun j u hu => ?_⟩) (Rd.mono (fr_or_right hd) h2) .nil
      refine fr_or_left _ _ _ ?_
      show fr _ b (0 + j) = _
      rw [fr_one, Nat.zero_add]
      rw [← h6, List.getElem?_take] at hu
      split at hu
      · simpa using hu
      · cases hu
theorem dat_rowV {e : TypeId} {sz cap n : Nat} {A : Option Addr} {cs : List Value} {H : List HA} : Hle (row e sz A cap n cs :: H) (dat [.slice A n cap] [.s sz (cs.map .v)] :: H) := by
  refine Hle.trans ?_ (dat_row (e := e) (cs := cs))
  exact (dat_vals _ cs).trans (Hle.perm (List.Perm.swap _ _ _))
theorem dat_blk {e : TypeId} {sz n : Nat} {b : Nat} {cs : List Value} {l : List D} {H : List HA} (hl : cs.length = n * sz) (hn : n ≤ 9223372036854775807) : Hle (blk b cs e :: dat cs l :: H) (dat [.slice (some ⟨b, 0, none⟩) n n] [.s sz l] :: H) :=
  (Hle.weaken (i := 0) rfl (blk_row (sz := sz) hl (by simp only [maxLen]; exact hn)) rfl).trans dat_row
theorem dat_blkV {e : TypeId} {sz n : Nat} {b : Nat} {cs : List Value} {H : List HA} (hl : cs.length = n * sz) (hn : n ≤ 9223372036854775807) : Hle (blk b cs e :: H) (dat [.slice (some ⟨b, 0, none⟩) n n] [.s sz (cs.map .v)] :: H) :=
  (Hle.weaken (i := 0) rfl (blk_row (sz := sz) hl (by simp only [maxLen]; exact hn)) rfl).trans dat_rowV
end Go.Proofs.YtiglobijdegjdaaDoor
