/- Joined texts of this claim, part 4. -/
import Derived.Test.YtofikdpbagnjbaaGreatDoorJ3
set_option linter.unusedVariables false
set_option linter.unusedSimpArgs false
namespace Go.Proofs.YtofikdpbagnjbaaGreatDoor
open Go.RowKit Go.Shelf Go.Proofs
set_option maxRecDepth 100000
set_option maxHeartbeats 1000000

theorem isNone_true {A : Option Addr} (h : isNone' A = true) : A = none := by cases A <;> simp_all [isNone']
theorem src_none {w : World} {sz n : Nat} {xs : List Value} (h : Src w sz none n xs) : n = 0 ∧ xs = [] := by
  have : n = 0 := by
    rcases Nat.eq_zero_or_pos n with h1 | h1
    · exact h1
    · have := (h.2 h1).1; simp [isAt] at this
  subst this
  exact ⟨rfl, List.eq_nil_of_length_eq_zero (by simpa using h.1)⟩
theorem oneMap {α : Type} (f : α → Value) (hf : ∀ x, (f x).oneCell' = true) : ∀ l : List α, oneCells (l.map f) = true
  | [] => rfl
  | x :: l => by rw [List.map_cons]; simp only [oneCells, hf, Bool.true_and]; exact oneMap f hf l
theorem oneToks : ∀ l : List Tok, oneCells (l.flatMap Tok.cells) = true
  | [] => rfl
  | t :: l => by
    rw [List.flatMap_cons]
    simp only [Tok.cells, List.cons_append, List.nil_append, oneCells, Value.oneCell', Bool.true_and]
    exact oneToks l
theorem cloneT_spec (A : Option Addr) (n c : Nat) (l : List Tok) (w : World) (hs : Src w 6 A n (l.flatMap Tok.cells)) (hb : n ≤ 1000000) :
    Spec Tryz.prog 64 [.slice A n c] w (fun v R => ∃ x : Option Addr × Nat, True ∧ v = .slice x.1 n x.2 ∧ R = [row 80 6 x.1 x.2 n (l.flatMap Tok.cells)]) := by
  refine spec_of sg Tryz.func64 rfl rfl rfl ?_
  repeat' (first | refine d1 ?_ | refine dd ?_ | (show T _ (.ops _ (_ :: _) :: _) _ _ _; first | refine T_val rfl (Val.nilS rfl) rfl rfl rfl ?_ | refine T_valC rfl (Val.nilS rfl) rfl rfl rfl rfl rfl ?_) | (show T _ (.run _ _ (_ :: _) _ _ :: _) _ _ _; first | refine rv rfl rfl rfl (Val.nilS rfl) rfl rfl rfl ?_ | refine rg rfl rfl rfl (Val.nilS rfl) rfl rfl rfl rfl rfl ?_) | (show ∀ _ : Nat, T _ _ _ _ _; intro _))
  refine T_if rfl (fun h => ?_) (fun h => ?_)
  · obtain rfl := isNone_true h
    obtain ⟨rfl, e⟩ := src_none hs
    rw [e]
    repeat' (first | refine d1 ?_ | refine dd ?_ | (show ∀ _ : Nat, T _ _ _ _ _; intro _))
    refine T_nilrow 80 6 ?_
    repeat' (first | refine d1 ?_ | refine dd ?_ | (show ∀ _ : Nat, T _ _ _ _ _; intro _) | (show T _ (.code .ret :: _) _ _ _; refine T_retV _ rfl Hle.sub ⟨(none, 0), trivial, rfl, rfl⟩))
  · repeat' (first | refine d1 ?_ | (show ∀ _ : Nat, T _ _ _ _ _; intro _))
    refine T_blk_rowh 6 0 rfl (by omega) ?_
    refine T_op (OpT.append rfl rfl rfl rfl rfl rfl rfl rfl rfl rfl (rdSrc hs) (oneToks l) (by dsimp only; omega) (by omega) (fun A' cap' hA' => ?_))
    rw [show 0 + n = n by omega, show flatP [] ++ l.flatMap Tok.cells = l.flatMap Tok.cells from rfl]
    repeat' (first | refine d1 ?_ | refine dd ?_ | (show ∀ _ : Nat, T _ _ _ _ _; intro _) | (show T _ (.code .ret :: _) _ _ _; refine T_retV _ rfl (Hle.refl _) ⟨(A', cap'), trivial, rfl, rfl⟩))
end Go.Proofs.YtofikdpbagnjbaaGreatDoor
namespace Go.Proofs.YtofikdpbagnjbaaGreatDoor
open Go.RowKit Go.Shelf Go.Proofs
set_option maxRecDepth 100000
set_option maxHeartbeats 1000000

def RvIn (l r : List Tok) (i : Nat) : Prop := r.length = l.length ∧ ∀ k, k < l.length → r[k]? = if k < i ∨ l.length ≤ k + i then l[l.length - 1 - k]? else l[k]?
theorem RvIn.zero (l : List Tok) : RvIn l l 0 := ⟨rfl, fun k hk => by rw [if_neg (by omega)]⟩
theorem RvIn.step {l r : List Tok} {i : Nat} (h : RvIn l r i) (hi : 2 * i + 1 < l.length) : RvIn l ((r.set i (tkA r (l.length - 1 - i))).set (l.length - 1 - i) (tkA r i)) (i + 1) := by
  obtain ⟨h1, h2⟩ := h
  have e1 : r[l.length - 1 - i]? = l[l.length - 1 - i]? := by rw [h2 _ (by omega), if_neg (by omega)]
  have e2 : r[i]? = l[i]? := by rw [h2 _ (by omega), if_neg (by omega)]
  refine ⟨by simp [h1], fun k hk => ?_⟩
  rw [List.getElem?_set, List.getElem?_set, List.length_set]
  by_cases hk1 : l.length - 1 - i = k
  · rw [if_pos hk1, if_pos (by omega), if_pos (by omega), show l.length - 1 - k = i by omega, ← e2, tkA_get (by omega)]
  · rw [if_neg hk1]
    by_cases hk2 : i = k
    · subst hk2
      rw [if_pos rfl, if_pos (by omega), if_pos (by omega), ← e1, tkA_get (by omega)]
    · rw [if_neg hk2, h2 k hk]
      by_cases h3 : k < i ∨ l.length ≤ k + i
      · rw [if_pos h3, if_pos (by omega)]
      · rw [if_neg h3, if_neg (by omega)]
theorem RvIn.all {l r : List Tok} {i : Nat} (h : RvIn l r i) (hi : l.length ≤ 2 * i + 1) : r = l.reverse := by
  obtain ⟨h1, h2⟩ := h
  apply List.ext_getElem?
  intro k
  by_cases hk : k < l.length
  · rw [h2 k hk, List.getElem?_reverse hk]
    split
    · rfl
    · rw [show l.length - 1 - k = k by omega]
  · rw [List.getElem?_eq_none (by omega), List.getElem?_eq_none (by simp; omega)]
theorem reverseT_spec (A : Option Addr) (n c cap : Nat) (l : List Tok) (w0 : World) (K : List HA) (hl : l.length = n) (hb : n ≤ 1000000) :
    SpecB Tryz.prog 65 [.slice A n c] w0 (row 80 6 A cap n (l.flatMap Tok.cells) :: K) (fun v R => v = .tuple #[] ∧ R = row 80 6 A cap n (l.reverse.flatMap Tok.cells) :: K) := by
  refine specB_of sg Tryz.func65 rfl rfl rfl ?_
  repeat' (first | refine d1 ?_ | refine dd ?_ | (show ∀ _ : Nat, T _ _ _ _ _; intro _))
  refine T_loopX (fun s : Nat × List Tok => [(2, .int .i64 s.1), (3, .int .i64 ((n : Int) - 1 - s.1))]) (fun s => row 80 6 A cap n (s.2.flatMap Tok.cells) :: K) (fun s => 2 * s.1 ≤ n + 1 ∧ RvIn l s.2 s.1) (fun s => n + 1 - s.1) (0, l) ⟨by omega, RvIn.zero l⟩ ?_ (hE := ⟨rfl, by rw [show (n : Int) - 1 - ((0 : Nat) : Int) = (n : Int) - 1 by omega]; rfl, trivial⟩)
  rintro ⟨i, r⟩ ⟨hi, hr⟩
  dsimp only at hi hr ⊢
  have hrl : r.length = n := by rw [hr.1, hl]
  repeat' (first | refine d1 ?_ | refine dd ?_ | (show ∀ _ : Nat, T _ _ _ _ _; intro _))
  refine T_if rfl (fun h => ?_) (fun h => ?_)
  · simp only [decide_eq_true_eq] at h
    refine T_rowpos (A := A) (by omega) (fun g e => ?_)
    subst e
    have hs := hr.step (by omega)
    rw [hl] at hs
    have hg1 : ∀ j u, (tkA r i).cells[j]? = some u → (r.flatMap Tok.cells)[i * 6 + j]? = some u := fun j u hu => flat_get Tok.cells 6 (fun _ => rfl) (tkA_get (l := r) (i := i) (by omega)) j u hu
    have hg2 : ∀ j u, (tkA r (n - 1 - i)).cells[j]? = some u → (r.flatMap Tok.cells)[(n - 1 - i) * 6 + j]? = some u := fun j u hu => flat_get Tok.cells 6 (fun _ => rfl) (tkA_get (l := r) (i := n - 1 - i) (by omega)) j u hu
    refine T_cutX 1 [] (fun _ : Unit => []) (fun _ => row 80 6 (some ⟨g, 0, none⟩) cap n (((r.set i (tkA r (n - 1 - i))).set (n - 1 - i) (tkA r i)).flatMap Tok.cells) :: K) (fun _ => True) ?_ ?_
    · have hfin : row 80 6 (some ⟨g, 0, none⟩) cap n (setL (setL (r.flatMap Tok.cells) (0 + (i : Int).toNat * 6) (tkA r (n - 1 - i)).cells) (0 + ((n : Int) - 1 - i).toNat * 6) (tkA r i).cells) = row 80 6 (some ⟨g, 0, none⟩) cap n (((r.set i (tkA r (n - 1 - i))).set (n - 1 - i) (tkA r i)).flatMap Tok.cells) := by
        rw [show 0 + (i : Int).toNat * 6 = i * 6 by omega, show 0 + ((n : Int) - 1 - i).toNat * 6 = (n - 1 - i) * 6 by omega, flatTok_set r i _ (by omega), flatTok_set _ (n - 1 - i) _ (by rw [List.length_set]; omega)]
      refine dw0 1000 [] ?_
      repeat' (first | (show T _ (.draw _ _ _ _ _ :: _) _ _ _; first | refine dw1 ?_ | refine dwv rfl (by decide +kernel) rfl rfl (Val.loadA (vs := (tkA r (n - 1 - i)).cells) rfl (fun _ => rdRow (A := some ⟨g, 0, none⟩) (by omega) (fun j u hu => by rw [show 0 + ((n : Int) - 1 - i).toNat * 6 = (n - 1 - i) * 6 by omega]; exact hg2 j u hu)) rfl) rfl rfl rfl ?_ | refine dwg rfl (by decide +kernel) rfl rfl (Val.loadA (vs := (tkA r (n - 1 - i)).cells) rfl (fun _ => rdRow (A := some ⟨g, 0, none⟩) (by omega) (fun j u hu => by rw [show 0 + ((n : Int) - 1 - i).toNat * 6 = (n - 1 - i) * 6 by omega]; exact hg2 j u hu)) rfl) rfl rfl rfl rfl rfl ?_ | refine dwv rfl (by decide +kernel) rfl rfl (Val.loadA (vs := (tkA r i).cells) rfl (fun _ => rdRow (A := some ⟨g, 0, none⟩) (by omega) (fun j u hu => by rw [show 0 + (i : Int).toNat * 6 = i * 6 by omega]; exact hg1 j u hu)) rfl) rfl rfl rfl ?_ | refine dwg rfl (by decide +kernel) rfl rfl (Val.loadA (vs := (tkA r i).cells) rfl (fun _ => rdRow (A := some ⟨g, 0, none⟩) (by omega) (fun j u hu => by rw [show 0 + (i : Int).toNat * 6 = i * 6 by omega]; exact hg1 j u hu)) rfl) rfl rfl rfl rfl rfl ?_ | refine dwb rfl (by decide +kernel) ?_) | (show AllL _ []; exact True.intro) | (show AllL _ (_ :: _); refine ⟨?_, ?_⟩) | (show OpT _ _ _ _ _ _ _; first | refine dwx ?_ | refine OpT.ofVal rfl (Val.loadA (vs := (tkA r (n - 1 - i)).cells) rfl (fun _ => rdRow (A := some ⟨g, 0, none⟩) (by omega) (fun j u hu => by rw [show 0 + ((n : Int) - 1 - i).toNat * 6 = (n - 1 - i) * 6 by omega]; exact hg2 j u hu)) rfl) rfl rfl rfl ⟨fun _ => (by first | exact Hle.none _ | exact Hle.sub | exact absurd ‹_› (by decide +kernel)), ?_⟩ | refine OpT.ofVal rfl (Val.loadA (vs := (tkA r i).cells) rfl (fun _ => rdRow (A := some ⟨g, 0, none⟩) (by omega) (fun j u hu => by rw [show 0 + (i : Int).toNat * 6 = i * 6 by omega]; exact hg1 j u hu)) rfl) rfl rfl rfl ⟨fun _ => (by first | exact Hle.none _ | exact Hle.sub | exact absurd ‹_› (by decide +kernel)), ?_⟩ | refine OpT.storeR (us := (tkA r (n - 1 - i)).cells) rfl rfl rfl rfl rfl rfl (by show 0 + (i : Int).toNat * 6 + 6 ≤ n * 6; omega) ⟨fun _ => Hle.none _, ?_⟩ | refine OpT.storeR (us := (tkA r i).cells) rfl rfl rfl rfl rfl rfl (by show 0 + ((n : Int) - 1 - i).toNat * 6 + 6 ≤ n * 6; omega) ⟨fun _ => Hle.none _, ?_⟩) | (show ∀ _ : Nat, T _ _ _ _ _; intro _) | (show T _ (.mark _ :: _) _ _ _; exact T_meetX () trivial (hG := by rw [← hfin]; exact Hle.refl _)))
    rintro - -
    repeat' (first | refine d1 ?_ | refine dd ?_ | (show ∀ _ : Nat, T _ _ _ _ _; intro _))
    refine T_backX (i + 1, (r.set i (tkA r (n - 1 - i))).set (n - 1 - i) (tkA r i)) ⟨by dsimp only; omega, hs⟩ (by dsimp only; omega) (hE := ⟨rfl, by dsimp only; rw [show (n : Int) - 1 - ((i + 1 : Nat) : Int) = (n : Int) - 1 - i - 1 by omega]; rfl, trivial⟩)
  · simp only [decide_eq_false_iff_not] at h
    rw [hr.all (by omega)]
    repeat' (first | refine d1 ?_ | refine dd ?_ | (show ∀ _ : Nat, T _ _ _ _ _; intro _))
    exact T_fallV _ rfl (Hle.refl _) ⟨rfl, rfl⟩
end Go.Proofs.YtofikdpbagnjbaaGreatDoor
namespace Go.Proofs.YtofikdpbagnjbaaGreatDoor
open Go.RowKit Go.Shelf Go.Proofs
set_option maxRecDepth 100000
set_option maxHeartbeats 1000000

end Go.Proofs.YtofikdpbagnjbaaGreatDoor
namespace Go.Proofs.YtofikdpbagnjbaaGreatDoor
open Go.RowKit Go.Shelf Go.Proofs
set_option maxRecDepth 100000
set_option maxHeartbeats 1000000

theorem cloneS_spec (A : Option Addr) (n c : Nat) (l : List TS) (w : World) (hs : Src w 1 A n (l.map TS.val)) (hb : n ≤ 1000000) :
    Spec Tryz.prog 41 [.slice A n c] w (fun v R => ∃ x : Option Addr × Nat, True ∧ v = .slice x.1 n x.2 ∧ R = [row 40 1 x.1 x.2 n (l.map TS.val)]) := by
  refine spec_of sg Tryz.func41 rfl rfl rfl ?_
  repeat' (first | refine d1 ?_ | refine dd ?_ | (show T _ (.ops _ (_ :: _) :: _) _ _ _; first | refine T_val rfl (Val.nilS rfl) rfl rfl rfl ?_ | refine T_valC rfl (Val.nilS rfl) rfl rfl rfl rfl rfl ?_) | (show T _ (.run _ _ (_ :: _) _ _ :: _) _ _ _; first | refine rv rfl rfl rfl (Val.nilS rfl) rfl rfl rfl ?_ | refine rg rfl rfl rfl (Val.nilS rfl) rfl rfl rfl rfl rfl ?_) | (show ∀ _ : Nat, T _ _ _ _ _; intro _))
  refine T_if rfl (fun h => ?_) (fun h => ?_)
  · obtain rfl := isNone_true h
    obtain ⟨rfl, e⟩ := src_none hs
    rw [e]
    repeat' (first | refine d1 ?_ | refine dd ?_ | (show ∀ _ : Nat, T _ _ _ _ _; intro _))
    refine T_nilrow 40 1 ?_
    repeat' (first | refine d1 ?_ | refine dd ?_ | (show ∀ _ : Nat, T _ _ _ _ _; intro _) | (show T _ (.code .ret :: _) _ _ _; refine T_retV _ rfl Hle.sub ⟨(none, 0), trivial, rfl, rfl⟩))
  · repeat' (first | refine d1 ?_ | (show ∀ _ : Nat, T _ _ _ _ _; intro _))
    refine T_blk_rowh 1 0 rfl (by omega) ?_
    refine T_op (OpT.append rfl rfl rfl rfl rfl rfl rfl rfl rfl rfl (rdSrc hs) (oneMap TS.val (fun _ => rfl) l) (by dsimp only; omega) (by omega) (fun A' cap' hA' => ?_))
    rw [show 0 + n = n by omega, show flatP [] ++ (l.map TS.val) = (l.map TS.val) from rfl]
    repeat' (first | refine d1 ?_ | refine dd ?_ | (show ∀ _ : Nat, T _ _ _ _ _; intro _) | (show T _ (.code .ret :: _) _ _ _; refine T_retV _ rfl (Hle.refl _) ⟨(A', cap'), trivial, rfl, rfl⟩))
theorem rd_toksR {R : Rdr} : ∀ {m : List (List Tok)} {cs : List Value}, Rd R cs (m.map toksD) → ∃ l : List TS, cs = l.map TS.val ∧ l.map TS.l = m ∧ ∀ t ∈ l, t.l.length = t.n ∧ t.n ≤ 9223372036854775807 ∧ Rd R [t.val] [toksD t.l]
  | [], cs, h => by cases h; exact ⟨[], rfl, rfl, fun t h => by cases h⟩
  | a :: m, [], h => by cases h
  | a :: m, x :: cs, h => by
    obtain ⟨h1, h2⟩ := Rd.cons_inv (d := toksD a) h
    obtain ⟨l, rfl, rfl, h3⟩ := rd_toksR h2
    obtain ⟨A, n, cap, rfl, h4, h5, h6, -⟩ := Rd.vals_one (xs := a.flatMap Tok.cells) h1
    have em : n = a.length := by
      have : (a.flatMap Tok.cells).length = a.length * 6 := flatT_length a
      omega
    subst em
    refine ⟨⟨A, a.length, cap, a⟩ :: l, rfl, rfl, fun t ht => ?_⟩
    rcases List.mem_cons.1 ht with rfl | ht
    · exact ⟨rfl, by show a.length ≤ _; omega, h1⟩
    · exact h3 t ht
theorem Rd.toksF {p : Frag} {x : Value} {m : List (List Tok)} (h : Rd (fr p) [x] [.s 1 (m.map toksD)]) : ∃ A cap, ∃ l : List TS, x = .slice A l.length cap ∧ l.length ≤ 9223372036854775807 ∧ l.map TS.l = m ∧ (∀ t ∈ l, t.l.length = t.n) ∧
    ∀ {w0 w : World} {H : List HA} [FocusZ H p], Cls w0 w H → Src w 1 A l.length (l.map TS.val) ∧ TsOk w l := by
  obtain ⟨A, n, cap, cs, rfl, h1, h2, h3, h4, h5, h6⟩ := h.slice
  obtain ⟨l, rfl, rfl, h7⟩ := rd_toksR h6
  have hn : n = l.length := by rw [List.length_map] at h2; omega
  subst hn
  refine ⟨A, cap, l, rfl, by omega, rfl, fun t ht => (h7 t ht).1, fun {w0 w H} _ hw => ⟨⟨h2, fun hn => ⟨(h5 hn).1, fun j u hu => hw.fz (p := p) _ _ _ ((h5 hn).2 j u hu)⟩⟩, ⟨fun t ht => ?_, fun t ht => (h7 t ht).1, fun t ht => (h7 t ht).2.1⟩⟩⟩
  have h8 := ((h7 t ht).2.2).own hw
  obtain ⟨A', c', e, -, hs, -⟩ := h8.toks
  have e2 : Value.slice t.A t.n t.cap = .slice A' t.l.length c' := e
  injection e2 with e3 e4 e5
  rw [e3, e4]
  exact hs
def RvS (l r : List TS) (i : Nat) : Prop := r.length = l.length ∧ ∀ k, k < l.length → r[k]? = if k < i ∨ l.length ≤ k + i then l[l.length - 1 - k]? else l[k]?
theorem RvS.zero (l : List TS) : RvS l l 0 := ⟨rfl, fun k hk => by rw [if_neg (by omega)]⟩
theorem tsA_get2 {l : List TS} {i : Nat} (h : i < l.length) : l[i]? = some (tsA l i) := by unfold tsA; rw [List.getD_eq_getElem?_getD, List.getElem?_eq_getElem h]; rfl
theorem RvS.step {l r : List TS} {i : Nat} (h : RvS l r i) (hi : 2 * i + 1 < l.length) : RvS l ((r.set i (tsA r (l.length - 1 - i))).set (l.length - 1 - i) (tsA r i)) (i + 1) := by
  obtain ⟨h1, h2⟩ := h
  have e1 : r[l.length - 1 - i]? = l[l.length - 1 - i]? := by rw [h2 _ (by omega), if_neg (by omega)]
  have e2 : r[i]? = l[i]? := by rw [h2 _ (by omega), if_neg (by omega)]
  refine ⟨by simp [h1], fun k hk => ?_⟩
  rw [List.getElem?_set, List.getElem?_set, List.length_set]
  by_cases hk1 : l.length - 1 - i = k
  · rw [if_pos hk1, if_pos (by omega), if_pos (by omega), show l.length - 1 - k = i by omega, ← e2, tsA_get2 (by omega)]
  · rw [if_neg hk1]
    by_cases hk2 : i = k
    · subst hk2
      rw [if_pos rfl, if_pos (by omega), if_pos (by omega), ← e1, tsA_get2 (by omega)]
    · rw [if_neg hk2, h2 k hk]
      by_cases h3 : k < i ∨ l.length ≤ k + i
      · rw [if_pos h3, if_pos (by omega)]
      · rw [if_neg h3, if_neg (by omega)]
theorem RvS.all {l r : List TS} {i : Nat} (h : RvS l r i) (hi : l.length ≤ 2 * i + 1) : r = l.reverse := by
  obtain ⟨h1, h2⟩ := h
  apply List.ext_getElem?
  intro k
  by_cases hk : k < l.length
  · rw [h2 k hk, List.getElem?_reverse hk]
    split
    · rfl
    · rw [show l.length - 1 - k = k by omega]
  · rw [List.getElem?_eq_none (by omega), List.getElem?_eq_none (by simp; omega)]
theorem reverseS_spec (A : Option Addr) (n c cap : Nat) (l : List TS) (w0 : World) (K : List HA) (hl : l.length = n) (hb : n ≤ 1000000) :
    SpecB Tryz.prog 63 [.slice A n c] w0 (row 40 1 A cap n (l.map TS.val) :: K) (fun v R => v = .tuple #[] ∧ R = row 40 1 A cap n (l.reverse.map TS.val) :: K) := by
  refine specB_of sg Tryz.func63 rfl rfl rfl ?_
  repeat' (first | refine d1 ?_ | refine dd ?_ | (show ∀ _ : Nat, T _ _ _ _ _; intro _))
  refine T_loopX (fun s : Nat × List TS => [(2, .int .i64 s.1), (3, .int .i64 ((n : Int) - 1 - s.1))]) (fun s => row 40 1 A cap n (s.2.map TS.val) :: K) (fun s => 2 * s.1 ≤ n + 1 ∧ RvS l s.2 s.1) (fun s => n + 1 - s.1) (0, l) ⟨by omega, RvS.zero l⟩ ?_ (hE := ⟨rfl, by rw [show (n : Int) - 1 - ((0 : Nat) : Int) = (n : Int) - 1 by omega]; rfl, trivial⟩)
  rintro ⟨i, r⟩ ⟨hi, hr⟩
  dsimp only at hi hr ⊢
  have hrl : r.length = n := by rw [hr.1, hl]
  repeat' (first | refine d1 ?_ | refine dd ?_ | (show ∀ _ : Nat, T _ _ _ _ _; intro _))
  refine T_if rfl (fun h => ?_) (fun h => ?_)
  · simp only [decide_eq_true_eq] at h
    refine T_rowpos (A := A) (by omega) (fun g e => ?_)
    subst e
    have hs := hr.step (by omega)
    rw [hl] at hs
    have hg1 : ∀ j u, [(tsA r i).val][j]? = some u → (r.map TS.val)[i + j]? = some u := fun j u hu => by
      cases j with
      | zero => rw [List.getElem?_map, tsA_get2 (by omega)]; exact hu
      | succ j => simp at hu
    have hg2 : ∀ j u, [(tsA r (n - 1 - i)).val][j]? = some u → (r.map TS.val)[n - 1 - i + j]? = some u := fun j u hu => by
      cases j with
      | zero => rw [Nat.add_zero, List.getElem?_map, tsA_get2 (by omega)]; exact hu
      | succ j => simp at hu
    refine T_cutX 1 [] (fun _ : Unit => []) (fun _ => row 40 1 (some ⟨g, 0, none⟩) cap n (((r.set i (tsA r (n - 1 - i))).set (n - 1 - i) (tsA r i)).map TS.val) :: K) (fun _ => True) ?_ ?_
    · have hfin : row 40 1 (some ⟨g, 0, none⟩) cap n (setL (setL (r.map TS.val) (0 + (i : Int).toNat * 1) [(tsA r (n - 1 - i)).val]) (0 + ((n : Int) - 1 - i).toNat * 1) [(tsA r i).val]) = row 40 1 (some ⟨g, 0, none⟩) cap n (((r.set i (tsA r (n - 1 - i))).set (n - 1 - i) (tsA r i)).map TS.val) := by
        rw [show 0 + (i : Int).toNat * 1 = i by omega, show 0 + ((n : Int) - 1 - i).toNat * 1 = n - 1 - i by omega, List.map_set, List.map_set]
        rfl
      refine dw0 1000 [] ?_
      repeat' (first | (show T _ (.draw _ _ _ _ _ :: _) _ _ _; first | refine dw1 ?_ | refine dwv rfl (by decide +kernel) rfl rfl (Val.load rfl (fun hg => rdRow (A := some ⟨g, 0, none⟩) (by omega) (fun j u hu => by rw [show 0 + ((n : Int) - 1 - i).toNat * 1 = n - 1 - i by omega]; exact hg2 j u hu))) rfl rfl rfl ?_ | refine dwg rfl (by decide +kernel) rfl rfl (Val.load rfl (fun hg => rdRow (A := some ⟨g, 0, none⟩) (by omega) (fun j u hu => by rw [show 0 + ((n : Int) - 1 - i).toNat * 1 = n - 1 - i by omega]; exact hg2 j u hu))) rfl rfl rfl rfl rfl ?_ | refine dwv rfl (by decide +kernel) rfl rfl (Val.load rfl (fun hg => rdRow (A := some ⟨g, 0, none⟩) (by omega) (fun j u hu => by rw [show 0 + (i : Int).toNat * 1 = i by omega]; exact hg1 j u hu))) rfl rfl rfl ?_ | refine dwg rfl (by decide +kernel) rfl rfl (Val.load rfl (fun hg => rdRow (A := some ⟨g, 0, none⟩) (by omega) (fun j u hu => by rw [show 0 + (i : Int).toNat * 1 = i by omega]; exact hg1 j u hu))) rfl rfl rfl rfl rfl ?_ | refine dwb rfl (by decide +kernel) ?_) | (show AllL _ []; exact True.intro) | (show AllL _ (_ :: _); refine ⟨?_, ?_⟩) | (show OpT _ _ _ _ _ _ _; first | refine dwx ?_ | refine OpT.ofVal rfl (Val.load rfl (fun hg => rdRow (A := some ⟨g, 0, none⟩) (by omega) (fun j u hu => by rw [show 0 + ((n : Int) - 1 - i).toNat * 1 = n - 1 - i by omega]; exact hg2 j u hu))) rfl rfl rfl ⟨fun _ => (by first | exact Hle.none _ | exact Hle.sub | exact absurd ‹_› (by decide +kernel)), ?_⟩ | refine OpT.ofVal rfl (Val.load rfl (fun hg => rdRow (A := some ⟨g, 0, none⟩) (by omega) (fun j u hu => by rw [show 0 + (i : Int).toNat * 1 = i by omega]; exact hg1 j u hu))) rfl rfl rfl ⟨fun _ => (by first | exact Hle.none _ | exact Hle.sub | exact absurd ‹_› (by decide +kernel)), ?_⟩ | refine OpT.storeR (us := [(tsA r (n - 1 - i)).val]) rfl rfl rfl rfl rfl rfl (by show 0 + (i : Int).toNat * 1 + 1 ≤ n * 1; omega) ⟨fun _ => Hle.none _, ?_⟩ | refine OpT.storeR (us := [(tsA r i).val]) rfl rfl rfl rfl rfl rfl (by show 0 + ((n : Int) - 1 - i).toNat * 1 + 1 ≤ n * 1; omega) ⟨fun _ => Hle.none _, ?_⟩) | (show ∀ _ : Nat, T _ _ _ _ _; intro _) | (show T _ (.mark _ :: _) _ _ _; exact T_meetX () trivial (hG := by rw [← hfin]; exact Hle.refl _)))
    rintro - -
    repeat' (first | refine d1 ?_ | refine dd ?_ | (show ∀ _ : Nat, T _ _ _ _ _; intro _))
    refine T_backX (i + 1, (r.set i (tsA r (n - 1 - i))).set (n - 1 - i) (tsA r i)) ⟨by dsimp only; omega, hs⟩ (by dsimp only; omega) (hE := ⟨rfl, by dsimp only; rw [show (n : Int) - 1 - ((i + 1 : Nat) : Int) = (n : Int) - 1 - i - 1 by omega]; rfl, trivial⟩)
  · simp only [decide_eq_false_iff_not] at h
    rw [hr.all (by omega)]
    repeat' (first | refine d1 ?_ | refine dd ?_ | (show ∀ _ : Nat, T _ _ _ _ _; intro _))
    exact T_fallV _ rfl (Hle.refl _) ⟨rfl, rfl⟩
end Go.Proofs.YtofikdpbagnjbaaGreatDoor
namespace Go.Proofs.YtofikdpbagnjbaaGreatDoor
open Go.RowKit Go.Shelf Go.Proofs

def keepG (n : Nat) : Int → List Int → Int
  | _, [] => 0
  | p, s :: ks => if s < 0 ∨ (n : Int) ≤ s then 2 else if s ≤ p then 10 else keepG n s ks
def prvK (ks : List Int) : Nat → Int
  | 0 => -1
  | i + 1 => ks.getD i 0
theorem keepG_ok {n : Nat} : ∀ {ks : List Int} {p : Int}, keepG n p ks = 0 → ∃ kk : List Nat, ks = intN kk ∧ (∀ s ∈ kk, s < n) ∧ kk.Pairwise (· < ·) ∧ ∀ s ∈ kk, p < (s : Int)
  | [], p, _ => ⟨[], rfl, fun s h => (by cases h), .nil, fun s h => (by cases h)⟩
  | s :: ks, p, h => by
    unfold keepG at h
    by_cases h1 : s < 0 ∨ (n : Int) ≤ s
    · rw [if_pos h1] at h; omega
    rw [if_neg h1] at h
    by_cases h2 : s ≤ p
    · rw [if_pos h2] at h; omega
    rw [if_neg h2] at h
    obtain ⟨kk, e, g1, g2, g3⟩ := keepG_ok h
    refine ⟨s.toNat :: kk, ?_, ?_, ?_, ?_⟩
    · rw [e]
      show s :: intN kk = ((s.toNat : Nat) : Int) :: intN kk
      rw [show ((s.toNat : Nat) : Int) = s by omega]
    · intro x hx
      rcases List.mem_cons.1 hx with rfl | hx
      · omega
      · exact g1 x hx
    · refine List.pairwise_cons.2 ⟨fun x hx => ?_, g2⟩
      have := g3 x hx
      omega
    · intro x hx
      rcases List.mem_cons.1 hx with rfl | hx
      · omega
      · have := g3 x hx; omega
theorem keepG_asc {n : Nat} : ∀ {kk : List Nat} {p : Int}, (∀ s ∈ kk, s < n) → kk.Pairwise (· < ·) → (∀ s ∈ kk, p < (s : Int)) → keepG n p (intN kk) = 0
  | [], _, _, _, _ => rfl
  | s :: kk, p, h1, h2, h3 => by
    show keepG n p ((s : Int) :: intN kk) = 0
    have hs := h1 s (.head _)
    have hp := h3 s (.head _)
    unfold keepG
    rw [if_neg (by omega), if_neg (by omega)]
    obtain ⟨h4, h5⟩ := List.pairwise_cons.1 h2
    exact keepG_asc (fun x hx => h1 x (.tail _ hx)) h5 fun x hx => by have := h4 x hx; omega
theorem keepG_drop {n : Nat} {ks : List Int} {i : Nat} {s : Int} (hs : ks[i]? = some s) : keepG n (prvK ks i) (ks.drop i) = if s < 0 ∨ (n : Int) ≤ s then 2 else if s ≤ prvK ks i then 10 else keepG n (prvK ks (i + 1)) (ks.drop (i + 1)) := by
  obtain ⟨h1, e⟩ := List.getElem?_eq_some_iff.1 hs
  rw [List.drop_eq_getElem_cons h1, e, keepG]
  have e2 : prvK ks (i + 1) = s := by show ks.getD i 0 = s; rw [List.getD_eq_getElem?_getD, hs]; rfl
  rw [e2]
noncomputable def prjV (l : List TS) (cols : List (List Int)) (keep : List Int) : List (List Int) × Int :=
  if chkC l cols ≠ 0 then ([], chkC l cols) else if keep.length = 0 then ([], 5) else if keepG l.length (-1) keep ≠ 0 then ([], keepG l.length (-1) keep) else (prjC (keep.map Int.toNat) cols, 0)
theorem intN_back : ∀ kk : List Nat, (intN kk).map Int.toNat = kk
  | [] => rfl
  | s :: kk => by
    show ((s : Int)).toNat :: (intN kk).map Int.toNat = s :: kk
    rw [intN_back kk, Int.toNat_natCast]
theorem prjV_ok {l : List TS} {cols : List (List Int)} (hc : chkC l cols = 0) {kk : List Nat} (h0 : kk ≠ []) (h1 : ∀ s ∈ kk, s < l.length) (h2 : kk.Pairwise (· < ·)) : prjV l cols (intN kk) = (prjC kk cols, 0) := by
  have hk := keepG_asc (p := -1) h1 h2 fun s _ => by omega
  have hl : (intN kk).length ≠ 0 := by
    cases kk with
    | nil => exact absurd rfl h0
    | cons s kk => simp [intN]
  unfold prjV
  rw [if_neg (by simpa using hc), if_neg hl, if_neg (by simpa using hk), intN_back]
theorem prjC_snoc (keep : List Nat) (cols : List (List Int)) (x : List Int) : prjC keep (cols ++ [x]) = prjC keep cols ++ if anyP (prjR keep x) = true then [prjR keep x] else [] := by
  unfold prjC
  rw [List.map_append, List.filter_append]
  show _ ++ List.filter anyP [prjR keep x] = _
  rw [List.filter_cons]
  rfl
theorem prjR_snoc (keep : List Nat) (s : Nat) (x : List Int) : prjR (keep ++ [s]) x = prjR keep x ++ [x.getD s (-1)] := by unfold prjR; rw [List.map_append]; rfl
def mxOf : Int → List Int → Int
  | a, [] => a
  | a, x :: l => mxOf (max a x) l
theorem mxOf_any : ∀ (l : List Int) (a : Int), (0 ≤ mxOf a l) ↔ 0 ≤ a ∨ anyP l = true
  | [], a => by show 0 ≤ a ↔ _; unfold anyP; simp
  | x :: l, a => by
    show 0 ≤ mxOf (max a x) l ↔ _
    rw [mxOf_any l (max a x)]
    unfold anyP
    rw [List.any_cons, Bool.or_eq_true, decide_eq_true_eq]
    constructor
    · rintro (h | h)
      · rcases Int.le_total a x with h1 | h1
        · rw [Int.max_eq_right h1] at h; exact .inr (.inl h)
        · rw [Int.max_eq_left h1] at h; exact .inl h
      · exact .inr (.inr h)
    · rintro (h | h | h)
      · exact .inl (by omega)
      · exact .inl (by omega)
      · exact .inr h
end Go.Proofs.YtofikdpbagnjbaaGreatDoor
namespace Go.Proofs.YtofikdpbagnjbaaGreatDoor
open Go.RowKit Go.Shelf Go.Proofs

def kpP (z : Int) (n i : Nat) : List Nat := (List.range i).filter fun s => z.toNat.testBit s || decide (s + 1 = n)
theorem kpP_succ (z : Int) (n i : Nat) : kpP z n (i + 1) = kpP z n i ++ if (z.toNat.testBit i || decide (i + 1 = n)) = true then [i] else [] := by
  unfold kpP
  rw [List.range_succ, List.filter_append, List.filter_cons]
  rfl
theorem kpP_len (z : Int) (n i : Nat) : (kpP z n i).length ≤ i := by
  unfold kpP
  have := List.length_filter_le (fun s => z.toNat.testBit s || decide (s + 1 = n)) (List.range i)
  rwa [List.length_range] at this
theorem kpP_asc (z : Int) (n i : Nat) : (kpP z n i).Pairwise (· < ·) := (List.pairwise_lt_range).filter _
theorem kpP_lt {z : Int} {n i : Nat} : ∀ s ∈ kpP z n i, s < i := fun s hs => List.mem_range.1 (List.mem_filter.1 hs).1
theorem kpP_last {z : Int} {n : Nat} (h : 1 ≤ n) : ∃ p : List Nat, kpP z n n = p ++ [n - 1] := by
  obtain ⟨k, rfl⟩ : ∃ k, n = k + 1 := ⟨n - 1, by omega⟩
  refine ⟨kpP z (k + 1) k, ?_⟩
  rw [kpP_succ, if_pos (by simp)]
  rfl
theorem bit8_law : ∀ c : Nat, c < 256 → ∀ s : Nat, s < 5 → decide (andV .u8 (shrV .u8 (c : Int) (s : Int)) 1 = 1) = Nat.testBit c s := by decide +kernel
def lastL (kk : List Nat) : List Int := if kk.length = 0 then [] else [(kk.length : Int) - 1]
theorem lens_kept {l : List TS} {kk : List Nat} (h : ∀ s ∈ kk, s < l.length) : lens (kk.map (tsA l)) = kk.map fun s => (lens l).getD s 0 := by
  unfold lens
  rw [List.map_map]
  refine List.map_congr_left fun s hs => ?_
  have e : l[s]? = some (l[s]'(h s hs)) := List.getElem?_eq_getElem (h s hs)
  show (tsA l s).n = _
  rw [tsA_eq e, List.getD_eq_getElem?_getD, List.getElem?_map, e]
  rfl
structure KeptOk (l : List TS) (o : List (List Int)) (kk : List Nat) : Prop where
  some_ : prjV l o (intN kk) = (prjC kk o, 0)
  same : prjV l o (intN (List.range l.length)) = (o, 0)
  chk : chkC (kk.map (tsA l)) (prjC kk o) = 0
  two : prjV (kk.map (tsA l)) (prjC kk o) (lastL kk) = (prjC [l.length - 1] o, 0)
  one : prjV l o [(l.length : Int) - 1] = (prjC [l.length - 1] o, 0)
  len : (prjC [l.length - 1] o).length = (tsA l (l.length - 1)).n
theorem keptOk {l : List TS} {o : List (List Int)} (h0 : 1 ≤ l.length) (hok : ColsOk (lens l) o) {kk : List Nat} (hlt : ∀ s ∈ kk, s < l.length) (hasc : kk.Pairwise (· < ·)) (hlast : ∃ p : List Nat, kk = p ++ [l.length - 1]) : KeptOk l o kk := by
  obtain ⟨p, hp⟩ := hlast
  have hll := lens_len l
  have hck : chkC l o = 0 := chkC_ok (by omega) hok
  have hne : kk ≠ [] := fun h => by rw [hp] at h; simp at h
  have hkl : 1 ≤ kk.length := by rw [hp]; simp
  have hokL : ColsOk (lens (kk.map (tsA l))) (prjC kk o) := by
    rw [lens_kept hlt]
    exact prjC_ok hok (fun s hs => by rw [hll]; exact hlt s hs)
  have hcL : chkC (kk.map (tsA l)) (prjC kk o) = 0 := chkC_ok (by rw [List.length_map]; omega) hokL
  have hlk : lastL kk = intN [kk.length - 1] := by
    unfold lastL
    rw [if_neg (by omega)]
    show [(kk.length : Int) - 1] = [((kk.length - 1 : Nat) : Int)]
    rw [show ((kk.length - 1 : Nat) : Int) = (kk.length : Int) - 1 by omega]
  have hl1 : [(l.length : Int) - 1] = intN [l.length - 1] := by
    show [(l.length : Int) - 1] = [((l.length - 1 : Nat) : Int)]
    rw [show ((l.length - 1 : Nat) : Int) = (l.length : Int) - 1 by omega]
  have hge : ∀ x ∈ o, ∀ s, -1 ≤ x.getD s (-1) := fun x hx s => hok.ge hx s
  refine ⟨prjV_ok hck hne hlt hasc, ?_, hcL, ?_, ?_, ?_⟩
  · rw [prjV_ok hck (kk := List.range l.length) (fun h => by have h9 : (List.range l.length).length = 0 := (by rw [h]; rfl); rw [List.length_range] at h9; omega) (fun s hs => List.mem_range.1 hs) List.pairwise_lt_range]
    have := prjC_all (ls := lens l) (cols := o) (fun x hx => hok.len x hx) (fun x hx => hok.some_ x hx) hge
    rw [hll] at this
    rw [this]
  · rw [hlk, prjV_ok hcL (kk := [kk.length - 1]) (by simp) (fun s hs => by have := List.mem_singleton.1 hs; rw [List.length_map]; omega) (List.pairwise_singleton _ _)]
    rw [prjC_prjC (keep := kk) (last := [kk.length - 1]) (fun j hj => by have := List.mem_singleton.1 hj; omega)]
    have : [kk.length - 1].map (fun j => kk.getD j 0) = [l.length - 1] := by
      show [kk.getD (kk.length - 1) 0] = _
      rw [hp, List.getD_eq_getElem?_getD, List.getElem?_append_right (by simp)]
      simp
    rw [this]
  · rw [hl1, prjV_ok hck (kk := [l.length - 1]) (by simp) (fun s hs => by rw [List.mem_singleton.1 hs]; omega) (List.pairwise_singleton _ _)]
  · rw [prjC_last hok (by rw [hll]; omega)]
    have e : l[l.length - 1]? = some (l[l.length - 1]'(by omega)) := List.getElem?_eq_getElem (by omega)
    rw [tsA_eq e, List.getD_eq_getElem?_getD, lens, List.getElem?_map, e]
    rfl
end Go.Proofs.YtofikdpbagnjbaaGreatDoor
namespace Go.Proofs.YtofikdpbagnjbaaGreatDoor
open Go.RowKit Go.Shelf Go.Proofs
set_option maxRecDepth 100000
set_option maxHeartbeats 1000000

theorem checkBig_spec (A : Option Addr) (n ca : Nat) (l : List TS) (x : Value) (w : World) (hs : Src w 1 A n (l.map TS.val)) (hn : l.length = n) (hb : n ≤ 1000) (h0 : n ≠ 0) (hbig : 32 < n ∨ ∃ t ∈ l, 1024 < t.n) :
    Spec Tryz.prog 30 [.slice A n ca, x] w (fun v R => v = .int .i64 4 ∧ R = []) := by
  refine spec_of sg Tryz.func30 rfl rfl rfl ?_
  repeat' (first | refine d1 ?_ | refine dd ?_ | (show T _ (.ops _ (_ :: _) :: _) _ _ _; first | refine T_call rfl rfl rfl rfl rfl (fun w hw => srcsBig_spec A n ca l w (rdSrc hs w hw) hn hb h0 hbig) ?_ | refine T_callC rfl rfl rfl rfl rfl rfl rfl (fun hg w hw => srcsBig_spec A n ca l w (rdSrc hs w hw) hn hb h0 hbig) ?_) | (show T _ (.run _ _ (_ :: _) _ _ :: _) _ _ _; first | refine rc rfl rfl rfl rfl rfl rfl rfl (fun w hw => srcsBig_spec A n ca l w (rdSrc hs w hw) hn hb h0 hbig) ?_ | refine rcG rfl rfl rfl rfl rfl rfl rfl rfl rfl (fun hg w hw => srcsBig_spec A n ca l w (rdSrc hs w hw) hn hb h0 hbig) ?_) | (show ∀ _ : Nat, T _ _ _ _ _; intro _))
  refine T_if rfl (fun h => ?_) (fun h => by exfalso; simp at h)
  repeat' (first | refine d1 ?_ | refine dd ?_ | (show ∀ _ : Nat, T _ _ _ _ _; intro _) | (show T _ (.code .ret :: _) _ _ _; refine T_retV [] rfl (Hle.none _) ⟨rfl, rfl⟩))
open Classical in
noncomputable def chkT (l : List TS) (cols : List (List Int)) : Int := if l.length ≠ 0 ∧ (32 < l.length ∨ ∃ t ∈ l, 1024 < t.n) then 4 else chkC l cols
theorem check19T_spec (A : Option Addr) (n ca : Nat) (l : List TS) (x : Value) (cols : List (List Int)) (p q : Nat) (w : World) (hst : Std w) (hs : Src w 1 A n (l.map TS.val)) (hn : l.length = n) (hl : TsOk w l) (hx : Rd (wr w) [x] [rowsD cols]) (hgr : great19B l p q = false) (hp : p ≤ 32) (hq : q ≤ 1000) :
    Spec Tryz.prog 30 [.slice A n ca, x] w (fun v R => v = .int .i64 (chkT l cols) ∧ R = []) := by
  obtain ⟨g1, g2, g3⟩ := great19_no hl hgr
  by_cases h : l.length ≠ 0 ∧ (32 < l.length ∨ ∃ t ∈ l, 1024 < t.n)
  · have e : chkT l cols = 4 := if_pos h
    rw [e]
    exact checkBig_spec A n ca l x w hs hn (by omega) (by omega) (h.2.imp (fun h => by omega) id)
  · have e : chkT l cols = chkC l cols := if_neg h
    rw [e]
    refine check19_spec A n ca l x cols w ⟨hst, hs, hn, ?_, hl, fun t ht => ?_, g3⟩ hx
    · refine Classical.byContradiction fun h9 => h ⟨by omega, .inl (by omega)⟩
    · rcases g2 t ht with h9 | h9
      · omega
      · exact absurd ⟨by have := List.length_pos_of_mem ht; omega, .inr ⟨t, ht, h9.1⟩⟩ h
theorem chkT_ok {w : World} {A : Option Addr} {n : Nat} {l : List TS} {cols : List (List Int)} {p q : Nat} (hst : Std w) (hs : Src w 1 A n (l.map TS.val)) (hn : l.length = n) (hl : TsOk w l) (hgr : great19B l p q = false) (hp : p ≤ 32) (hq : q ≤ 1000) (h : chkT l cols = 0) :
    Grp w A n l ∧ l.length ≠ 0 ∧ ColsOk (lens l) cols ∧ ∀ t ∈ l, t.n ≤ q := by
  obtain ⟨g1, g2, g3⟩ := great19_no hl hgr
  unfold chkT at h
  by_cases h1 : l.length ≠ 0 ∧ (32 < l.length ∨ ∃ t ∈ l, 1024 < t.n)
  · rw [if_pos h1] at h; omega
  rw [if_neg h1] at h
  have h0 : l.length ≠ 0 := fun h9 => by rw [chkC_zero h9] at h; omega
  have hq9 : ∀ t ∈ l, t.n ≤ q := fun t ht => by
    rcases g2 t ht with h9 | h9
    · exact h9
    · exact absurd ⟨h0, .inr ⟨t, ht, h9.1⟩⟩ h1
  refine ⟨⟨hst, hs, hn, ?_, hl, fun t ht => by have := hq9 t ht; omega, g3⟩, h0, ?_, hq9⟩
  · refine Classical.byContradiction fun h9 => h1 ⟨h0, .inl (by omega)⟩
  · exact Classical.byContradiction fun h9 => by rw [chkC_bad h0 h9] at h; omega
theorem costBig_spec (c : Costs) (A : Option Addr) (n ca : Nat) (l : List TS) (x : Value) (w : World) (hs : Src w 1 A n (l.map TS.val)) (hn : l.length = n) (hb : n ≤ 1000) (h0 : n ≠ 0) (hbig : 32 < n ∨ ∃ t ∈ l, 1024 < t.n) :
    Spec Tryz.prog 34 [c.val, .slice A n ca, x] w (fun v R => v = .tuple #[.int .i64 0, .int .i64 4] ∧ R = []) := by
  refine spec_of sg Tryz.func34 rfl rfl rfl ?_
  repeat' (first | (show T _ (.ops _ (⟨_, .box _ _, _, _, _, _⟩ :: _) :: _) _ _ _; refine T_op (OpT.box (cs := c.cells) rfl rfl rfl rfl rfl rfl rfl (fun _ => ?_))) | refine d1 ?_ | refine dd ?_ | (show T _ (.ops _ (_ :: _) :: _) _ _ _; first | refine T_call rfl rfl rfl rfl rfl (fun w hw => usableBig_spec c A n ca l w (rdSrc hs w hw) hn hb h0 hbig) ?_ | refine T_callC rfl rfl rfl rfl rfl rfl rfl (fun hg w hw => usableBig_spec c A n ca l w (rdSrc hs w hw) hn hb h0 hbig) ?_) | (show T _ (.run _ _ (_ :: _) _ _ :: _) _ _ _; first | refine rc rfl rfl rfl rfl rfl rfl rfl (fun w hw => usableBig_spec c A n ca l w (rdSrc hs w hw) hn hb h0 hbig) ?_ | refine rcG rfl rfl rfl rfl rfl rfl rfl rfl rfl (fun hg w hw => usableBig_spec c A n ca l w (rdSrc hs w hw) hn hb h0 hbig) ?_) | (show ∀ _ : Nat, T _ _ _ _ _; intro _))
  refine T_if rfl (fun h => ?_) (fun h => by exfalso; simp at h)
  repeat' (first | refine d1 ?_ | refine dd ?_ | (show ∀ _ : Nat, T _ _ _ _ _; intro _) | (show T _ (.code .ret :: _) _ _ _; refine T_retV [] rfl (Hle.none _) ⟨rfl, rfl⟩))
theorem boundBig_spec (c : Costs) (A : Option Addr) (n ca : Nat) (l : List TS) (w : World) (hs : Src w 1 A n (l.map TS.val)) (hn : l.length = n) (hb : n ≤ 1000) (h0 : n ≠ 0) (hbig : 32 < n ∨ ∃ t ∈ l, 1024 < t.n) :
    Spec Tryz.prog 38 [c.val, .slice A n ca] w (fun v R => v = .tuple #[.int .i64 0, .int .i64 4] ∧ R = []) := by
  refine spec_of sg Tryz.func38 rfl rfl rfl ?_
  repeat' (first | (show T _ (.ops _ (⟨_, .box _ _, _, _, _, _⟩ :: _) :: _) _ _ _; refine T_op (OpT.box (cs := c.cells) rfl rfl rfl rfl rfl rfl rfl (fun _ => ?_))) | refine d1 ?_ | refine dd ?_ | (show T _ (.ops _ (_ :: _) :: _) _ _ _; first | refine T_call rfl rfl rfl rfl rfl (fun w hw => usableBig_spec c A n ca l w (rdSrc hs w hw) hn hb h0 hbig) ?_ | refine T_callC rfl rfl rfl rfl rfl rfl rfl (fun hg w hw => usableBig_spec c A n ca l w (rdSrc hs w hw) hn hb h0 hbig) ?_) | (show T _ (.run _ _ (_ :: _) _ _ :: _) _ _ _; first | refine rc rfl rfl rfl rfl rfl rfl rfl (fun w hw => usableBig_spec c A n ca l w (rdSrc hs w hw) hn hb h0 hbig) ?_ | refine rcG rfl rfl rfl rfl rfl rfl rfl rfl rfl (fun hg w hw => usableBig_spec c A n ca l w (rdSrc hs w hw) hn hb h0 hbig) ?_) | (show ∀ _ : Nat, T _ _ _ _ _; intro _))
  refine T_if rfl (fun h => ?_) (fun h => by exfalso; simp at h)
  repeat' (first | refine d1 ?_ | refine dd ?_ | (show ∀ _ : Nat, T _ _ _ _ _; intro _) | (show T _ (.code .ret :: _) _ _ _; refine T_retV [] rfl (Hle.none _) ⟨rfl, rfl⟩))
theorem mxOfnt_spec (A : Option Addr) (n ca : Nat) (a : Int) (r : List Int) (w : World) (hs : Src w 1 A n ((a :: r).map (Value.int .i64))) (hn : (a :: r).length = n) (hb : n ≤ 1000) :
    Spec Tryz.prog 131 [.slice A n ca] w (fun v R => v = .int .i64 (mxOf a r) ∧ R = []) := by
  have hn2 : r.length + 1 = n := hn
  obtain ⟨b, o, rfl⟩ := hs.base (by omega)
  have hr0 := src_int hs (k := 0) (x := a) (by omega) rfl
  refine spec_of sg Tryz.func131 rfl rfl rfl ?_
  repeat' (first | refine d1 ?_ | refine dd ?_ | (show ∀ _ : Nat, T _ _ _ _ _; intro _))
  refine T_if rfl (fun h => by exfalso; simp at h; omega) (fun _ => ?_)
  repeat' (first | refine d1 ?_ | refine dd ?_ | (show T _ (.ops _ (_ :: _) :: _) _ _ _; first | refine T_val rfl (Val.load rfl (fun hg => rdOld hr0)) rfl rfl rfl ?_ | refine T_valC rfl (Val.load rfl (fun hg => rdOld hr0)) rfl rfl rfl rfl rfl ?_) | (show T _ (.run _ _ (_ :: _) _ _ :: _) _ _ _; first | refine rv rfl rfl rfl (Val.load rfl (fun hg => rdOld hr0)) rfl rfl rfl ?_ | refine rg rfl rfl rfl (Val.load rfl (fun hg => rdOld hr0)) rfl rfl rfl rfl rfl ?_) | (show ∀ _ : Nat, T _ _ _ _ _; intro _))
  refine T_loopX (fun s : Nat × Int => [(4, .int .i64 (s.1 : Nat)), (3, .int .i64 s.2)]) (fun _ => []) (fun s => 1 ≤ s.1 ∧ s.1 ≤ n ∧ mxOf s.2 (r.drop (s.1 - 1)) = mxOf a r) (fun s => n - s.1) (1, a) ⟨Nat.le_refl _, by dsimp only; omega, rfl⟩ ?_
  rintro ⟨k, m⟩ ⟨hk1, hk, hm⟩
  dsimp only at hk1 hk hm ⊢
  repeat' (first | refine d1 ?_ | refine dd ?_ | (show ∀ _ : Nat, T _ _ _ _ _; intro _))
  refine T_if rfl (fun h => ?_) (fun h => ?_)
  · simp only [decide_eq_true_eq] at h
    have hkn : k < n := by omega
    obtain ⟨z, hz⟩ : ∃ z, r[k - 1]? = some z := ⟨_, List.getElem?_eq_getElem (by omega)⟩
    have hz2 : (a :: r)[k]? = some z := by
      obtain ⟨j, rfl⟩ : ∃ j, k = j + 1 := ⟨k - 1, by omega⟩
      exact hz
    have hr1 := src_int hs hkn hz2
    have hd : r.drop (k - 1) = z :: r.drop (k - 1 + 1) := by
      obtain ⟨h1, e⟩ := List.getElem?_eq_some_iff.1 hz
      rw [List.drop_eq_getElem_cons h1, e]
    rw [hd] at hm
    repeat' (first | refine d1 ?_ | refine dd ?_ | (show ∀ _ : Nat, T _ _ _ _ _; intro _))
    refine T_backX (k + 1, max m z) ⟨by dsimp only; omega, by dsimp only; omega, ?_⟩ (by dsimp only; omega)
    dsimp only
    rw [show k + 1 - 1 = k - 1 + 1 by omega]
    exact hm
  · simp only [decide_eq_false_iff_not] at h
    rw [List.drop_of_length_le (by omega)] at hm
    have hm2 : m = mxOf a r := hm
    repeat' (first | refine d1 ?_ | refine dd ?_ | (show ∀ _ : Nat, T _ _ _ _ _; intro _) | (show T _ (.code .ret :: _) _ _ _; refine T_retV [] rfl (Hle.none _) ⟨by rw [hm2]; rfl, rfl⟩))
theorem project19_spec (A : Option Addr) (n ca : Nat) (l : List TS) (x y : Value) (cols : List (List Int)) (keep : List Int) (w : World) (hg : Grp w A n l) (hx : Rd (wr w) [x] [rowsD cols]) (hy : Rd (wr w) [y] [intsD keep]) (hk : keep.length ≤ 1000) (hsz : cols.length ≤ 100000) :
    Spec Tryz.prog 68 [.slice A n ca, x, y] w (fun v R => ∃ z : Value, True ∧ v = .tuple #[z, .int .i64 (prjV l cols keep).2] ∧ R = [dat [z] [rowsD (prjV l cols keep).1]]) := by
  have hx0 := hx
  have hy0 := hy
  obtain ⟨Ac, cc, csc, rfl, hc1, hc2, hcs, hrows⟩ := hx.tabS
  obtain ⟨Ak, ck, rfl, hkb, hks⟩ := hy.ints
  have hn := hg.hn
  have hb := hg.hb
  subst hn
  refine spec_of sg Tryz.func68 rfl rfl rfl ?_
  repeat' (first | refine d1 ?_ | refine dd ?_ | (show T _ (.ops _ (_ :: _) :: _) _ _ _; first | refine T_call rfl rfl rfl rfl rfl (fun w hw => check19_spec A l.length ca l _ cols w (hg.cls hw) (hx0.old hw)) ?_ | refine T_callC rfl rfl rfl rfl rfl rfl rfl (fun hg w hw => check19_spec A l.length ca l _ cols w (hg.cls hw) (hx0.old hw)) ?_) | (show T _ (.run _ _ (_ :: _) _ _ :: _) _ _ _; first | refine rc rfl rfl rfl rfl rfl rfl rfl (fun w hw => check19_spec A l.length ca l _ cols w (hg.cls hw) (hx0.old hw)) ?_ | refine rcG rfl rfl rfl rfl rfl rfl rfl rfl rfl (fun hg w hw => check19_spec A l.length ca l _ cols w (hg.cls hw) (hx0.old hw)) ?_) | (show ∀ _ : Nat, T _ _ _ _ _; intro _))
  refine T_if rfl (fun h => ?_) (fun h => ?_)
  · have e : prjV l cols keep = ([], chkC l cols) := if_pos (by simpa using h)
    rw [e]
    repeat' (first | refine d1 ?_ | refine dd ?_ | (show ∀ _ : Nat, T _ _ _ _ _; intro _) | (show T _ (.code .ret :: _) _ _ _; refine T_retV _ rfl (nilC _ |>.trans (Hle.nth 0 rfl)) ⟨_, trivial, rfl, rfl⟩))
  have hchk : chkC l cols = 0 := by simpa using h
  clear h
  repeat' (first | refine d1 ?_ | refine dd ?_ | (show ∀ _ : Nat, T _ _ _ _ _; intro _))
  refine T_if rfl (fun h2 => ?_) (fun h2 => ?_)
  · have e : prjV l cols keep = ([], 5) := by
      simp only [decide_eq_true_eq] at h2
      unfold prjV
      rw [if_neg (by simpa using hchk), if_pos (by omega)]
    rw [e]
    repeat' (first | refine d1 ?_ | refine dd ?_ | (show ∀ _ : Nat, T _ _ _ _ _; intro _) | (show T _ (.code .ret :: _) _ _ _; refine T_retV _ rfl (nilC _ |>.trans (Hle.nth 0 rfl)) ⟨_, trivial, rfl, rfl⟩))
  have hk0 : 0 < keep.length := by simp only [decide_eq_false_iff_not] at h2; omega
  clear h2
  have hbad : ∀ q, q ≠ 0 → keepG l.length (-1) keep = q → prjV l cols keep = ([], q) := fun q hq e => by
    unfold prjV
    rw [if_neg (by simpa using hchk), if_neg (by omega), if_pos (by rw [e]; exact hq), e]
  obtain ⟨bk9, ok9, rfl⟩ := hks.base hk0
  repeat' (first | refine d1 ?_ | refine dd ?_ | (show ∀ _ : Nat, T _ _ _ _ _; intro _))
  refine T_loopX (fun i : Nat => [(28, .int .i64 (i : Nat))]) (fun _ => []) (fun i => i ≤ keep.length ∧ keepG l.length (prvK keep i) (keep.drop i) = keepG l.length (-1) keep) (fun i => keep.length - i) 0 ⟨Nat.zero_le _, rfl⟩ ?_
  rintro i ⟨hi, hkg⟩
  repeat' (first | refine d1 ?_ | refine dd ?_ | (show ∀ _ : Nat, T _ _ _ _ _; intro _))
  refine T_if rfl (fun h3 => ?_) (fun h3 => ?_)
  · simp only [decide_eq_true_eq] at h3
    have hin : i < keep.length := by omega
    obtain ⟨s, hs⟩ : ∃ s, keep[i]? = some s := ⟨_, List.getElem?_eq_getElem hin⟩
    have hr1 := src_int hks hin hs
    have hdr := keepG_drop (n := l.length) hs
    rw [hkg] at hdr
    obtain ⟨p, hp⟩ : ∃ p, 0 < i → keep[i - 1]? = some p := by
      by_cases h0 : 0 < i
      · exact ⟨keep[i - 1]'(by omega), fun _ => List.getElem?_eq_getElem (by omega)⟩
      · exact ⟨0, fun h => absurd h h0⟩
    have hpv : prvK keep i = if 0 < i then p else -1 := by
      rcases i with _ | j
      · rfl
      · rw [if_pos (by omega)]
        show keep.getD j 0 = p
        rw [List.getD_eq_getElem?_getD, show keep[j]? = some p from hp (by omega)]; rfl
    repeat' (first | refine d1 ?_ | refine dd ?_ | (show ∀ _ : Nat, T _ _ _ _ _; intro _))
    refine T_if rfl (fun h4 => ?_) (fun h4 => ?_)
    · have h5 : s < 0 ∨ (l.length : Int) ≤ s := by simpa using h4
      rw [if_pos h5] at hdr
      rw [hbad 2 (by decide) hdr]
      repeat' (first | refine d1 ?_ | refine dd ?_ | (show ∀ _ : Nat, T _ _ _ _ _; intro _) | (show T _ (.code .ret :: _) _ _ _; refine T_retV _ rfl (nilC _ |>.trans (Hle.nth 0 rfl)) ⟨_, trivial, rfl, rfl⟩))
    have h5 : ¬ (s < 0 ∨ (l.length : Int) ≤ s) := by
      intro h9
      have : (decide (s < 0) || decide ((l.length : Int) ≤ s)) = true := by simpa using h9
      rw [this] at h4; cases h4
    rw [if_neg h5] at hdr
    repeat' (first | refine d1 ?_ | refine dd ?_ | (show T _ (.ops _ (_ :: _) :: _) _ _ _; first | refine T_val rfl (Val.load (v := .int .i64 p) rfl (fun hg9 => rdOld (by (have hg := hg9; (simp only [List.cons_append, List.nil_append, GP, dstL, lookE, Nat.beq, cond, List.getElem?_cons_zero, List.getElem?_cons_succ, Option.bind_some, and_true, Bool.and_eq_true, Bool.or_eq_true, Bool.and_eq_false_iff, Bool.or_eq_false_iff, Bool.not_eq_true', Bool.not_eq_false', decide_eq_true_eq, decide_eq_false_iff_not] at hg); have h8 := src_int hks (k := i - 1) (by omega) (hp (by omega)); rw [show ok9 + ((i : Int) - 1).toNat * 1 = ok9 + ((i - 1 : Nat) : Int).toNat * 1 by omega]; exact h8)))) rfl rfl rfl ?_ | refine T_valC rfl (Val.load (v := .int .i64 p) rfl (fun hg9 => rdOld (by (have hg := hg9; (simp only [List.cons_append, List.nil_append, GP, dstL, lookE, Nat.beq, cond, List.getElem?_cons_zero, List.getElem?_cons_succ, Option.bind_some, and_true, Bool.and_eq_true, Bool.or_eq_true, Bool.and_eq_false_iff, Bool.or_eq_false_iff, Bool.not_eq_true', Bool.not_eq_false', decide_eq_true_eq, decide_eq_false_iff_not] at hg); have h8 := src_int hks (k := i - 1) (by omega) (hp (by omega)); rw [show ok9 + ((i : Int) - 1).toNat * 1 = ok9 + ((i - 1 : Nat) : Int).toNat * 1 by omega]; exact h8)))) rfl rfl rfl rfl rfl ?_) | (show T _ (.run _ _ (_ :: _) _ _ :: _) _ _ _; first | refine rv rfl rfl rfl (Val.load (v := .int .i64 p) rfl (fun hg9 => rdOld (by (have hg := hg9; (simp only [List.cons_append, List.nil_append, GP, dstL, lookE, Nat.beq, cond, List.getElem?_cons_zero, List.getElem?_cons_succ, Option.bind_some, and_true, Bool.and_eq_true, Bool.or_eq_true, Bool.and_eq_false_iff, Bool.or_eq_false_iff, Bool.not_eq_true', Bool.not_eq_false', decide_eq_true_eq, decide_eq_false_iff_not] at hg); have h8 := src_int hks (k := i - 1) (by omega) (hp (by omega)); rw [show ok9 + ((i : Int) - 1).toNat * 1 = ok9 + ((i - 1 : Nat) : Int).toNat * 1 by omega]; exact h8)))) rfl rfl rfl ?_ | refine rg rfl rfl rfl (Val.load (v := .int .i64 p) rfl (fun hg9 => rdOld (by (have hg := hg9; (simp only [List.cons_append, List.nil_append, GP, dstL, lookE, Nat.beq, cond, List.getElem?_cons_zero, List.getElem?_cons_succ, Option.bind_some, and_true, Bool.and_eq_true, Bool.or_eq_true, Bool.and_eq_false_iff, Bool.or_eq_false_iff, Bool.not_eq_true', Bool.not_eq_false', decide_eq_true_eq, decide_eq_false_iff_not] at hg); have h8 := src_int hks (k := i - 1) (by omega) (hp (by omega)); rw [show ok9 + ((i : Int) - 1).toNat * 1 = ok9 + ((i - 1 : Nat) : Int).toNat * 1 by omega]; exact h8)))) rfl rfl rfl rfl rfl ?_) | (show ∀ _ : Nat, T _ _ _ _ _; intro _))
    refine T_if rfl (fun h6 => ?_) (fun h6 => ?_)
    · have h7 : 0 < i ∧ s ≤ p := by
        simp only [Bool.and_eq_true, decide_eq_true_eq] at h6
        omega
      rw [hpv, if_pos h7.1, if_pos h7.2] at hdr
      rw [hbad 10 (by decide) hdr]
      repeat' (first | refine d1 ?_ | refine dd ?_ | (show ∀ _ : Nat, T _ _ _ _ _; intro _) | (show T _ (.code .ret :: _) _ _ _; refine T_retV _ rfl (nilC _ |>.trans (Hle.nth 0 rfl)) ⟨_, trivial, rfl, rfl⟩))
    have h7 : ¬ (s ≤ prvK keep i) := by
      rw [hpv]
      split
      · intro h8
        rw [decide_eq_true h8, decide_eq_true (show (0 : Int) < (i : Int) by omega)] at h6
        cases h6
      · omega
    rw [if_neg h7] at hdr
    repeat' (first | refine d1 ?_ | refine dd ?_ | (show ∀ _ : Nat, T _ _ _ _ _; intro _))
    exact T_backX (i + 1) ⟨by omega, hdr.symm⟩ (by omega)
  simp only [decide_eq_false_iff_not] at h3
  obtain rfl : i = keep.length := by omega
  rw [List.drop_of_length_le (Nat.le_refl _)] at hkg
  have hk9 : keepG l.length (-1) keep = 0 := hkg.symm
  obtain ⟨kk, rfl, hkn, hasc, -⟩ := keepG_ok hk9
  have hkl : (intN kk).length = kk.length := by unfold intN; rw [List.length_map]
  rw [hkl] at hk hk0 hks ⊢
  have hne : kk ≠ [] := fun h9 => by rw [h9] at hk0; exact absurd hk0 (Nat.lt_irrefl 0)
  have hpj : prjV l cols (intN kk) = (prjC kk cols, 0) := prjV_ok hchk hne hkn hasc
  rw [hpj]
  have h0 : l.length ≠ 0 := fun h9 => by unfold chkC at hchk; rw [if_pos h9] at hchk; omega
  have hok : ColsOk (lens l) cols := Classical.byContradiction fun h9 => by rw [chkC_bad h0 h9] at hchk; omega
  repeat' (first | refine d1 ?_ | refine dd ?_ | (show ∀ _ : Nat, T _ _ _ _ _; intro _))
  refine T_le (dat_nil _) ?_
  refine T_nilrow 27 1 ?_
  refine T_loopX (fun s : Nat × (Option Addr × Nat) × List Value => [(55, .int .i64 (s.1 : Nat)), (11, .slice s.2.1.1 (prjC kk (cols.take s.1)).length s.2.1.2)]) (fun s => [row 27 1 s.2.1.1 s.2.1.2 (prjC kk (cols.take s.1)).length s.2.2, dat s.2.2 ((prjC kk (cols.take s.1)).map intsD)]) (fun s => s.1 ≤ cols.length) (fun s => cols.length - s.1) (0, (none, 0), []) (Nat.zero_le _) ?_
  rintro ⟨q, ⟨Ao, capo⟩, hs9⟩ hq
  dsimp only at hq ⊢
  repeat' (first | refine d1 ?_ | refine dd ?_ | (show ∀ _ : Nat, T _ _ _ _ _; intro _))
  refine T_if rfl (fun h4 => ?_) (fun h4 => ?_)
  · simp only [decide_eq_true_eq] at h4
    have hqn : q < cols.length := by omega
    obtain ⟨b, o, rfl⟩ := hcs.base (by omega)
    obtain ⟨r, hr⟩ : ∃ r, cols[q]? = some r := ⟨_, List.getElem?_eq_getElem hqn⟩
    have hrm := List.mem_of_getElem? hr
    obtain ⟨Au, capu, hu, -, -, hA⟩ := hrows.tabRow hr
    have hco : ColOk l r := ColsOk.colOk (l := l) hok hrm
    have hrl : r.length = l.length := hco.1
    have hr0 := rowHd hcs hqn hu
    have hsr := rowSrc hA
    have htk := take_snoc _ _ _ hr
    have hps : prjC kk (cols.take (q + 1)) = prjC kk (cols.take q) ++ if anyP (prjR kk r) = true then [prjR kk r] else [] := by rw [htk, prjC_snoc]
    have hpl : (prjC kk (cols.take q)).length ≤ q := by
      unfold prjC
      have h9 := List.length_filter_le anyP ((cols.take q).map (prjR kk))
      rw [List.length_map, List.length_take] at h9
      omega
    repeat' (first | refine d1 ?_ | refine dd ?_ | (show ∀ _ : Nat, T _ _ _ _ _; intro _))
    refine T_nilrow 3 1 ?_
    refine T_loopX (fun s : Nat × (Option Addr × Nat) => [(61, .int .i64 (s.1 : Nat)), (14, .slice s.2.1 s.1 s.2.2)]) (fun s => [row 3 1 s.2.1 s.2.2 s.1 ((prjR (kk.take s.1) r).map (Value.int .i64)), row 27 1 Ao capo (prjC kk (cols.take q)).length hs9, dat hs9 ((prjC kk (cols.take q)).map intsD)]) (fun s => s.1 ≤ kk.length) (fun s => kk.length - s.1) (0, (none, 0)) (Nat.zero_le _) ?_
    rintro ⟨j, ⟨A5, cap5⟩⟩ hj
    dsimp only at hj ⊢
    repeat' (first | refine d1 ?_ | refine dd ?_ | (show ∀ _ : Nat, T _ _ _ _ _; intro _))
    refine T_if rfl (fun h5 => ?_) (fun h5 => ?_)
    · simp only [decide_eq_true_eq] at h5
      have hjn : j < kk.length := by omega
      obtain ⟨s, hs⟩ : ∃ s, kk[j]? = some s := ⟨_, List.getElem?_eq_getElem hjn⟩
      have hsl := hkn s (List.mem_of_getElem? hs)
      have hr1 := src_int hks hjn (show (intN kk)[j]? = some (s : Int) by unfold intN; rw [List.getElem?_map, hs]; rfl)
      obtain ⟨bu, ou, rfl⟩ := hsr.base (by omega)
      obtain ⟨z, hz⟩ : ∃ z, r[s]? = some z := ⟨_, List.getElem?_eq_getElem (by omega)⟩
      have hr2 := src_int hsr (by omega) hz
      have hsn : (prjR (kk.take (j + 1)) r).map (Value.int .i64) = (prjR (kk.take j) r).map (Value.int .i64) ++ flatP [(0, .int .i64 z)] := by
        rw [take_snoc _ _ _ hs, prjR_snoc, List.map_append, show r.getD s (-1) = z by rw [List.getD_eq_getElem?_getD, hz]; rfl]
        rfl
      repeat' (first | refine d1 ?_ | refine dd ?_ | (show T _ (.ops _ (_ :: _) :: _) _ _ _; refine T_op (OpT.append (A := A5) rfl rfl rfl rfl rfl rfl rfl rfl rfl rfl (fun w hw => Src.own hw rfl) rfl (by dsimp only; omega) (by omega) (fun A' cap' hA' => ?_))) | (show ∀ _ : Nat, T _ _ _ _ _; intro _))
      refine T_backX (j + 1, (A', cap')) (by dsimp only; omega) (by dsimp only; omega) (hG := ?_)
      dsimp only
      rw [hsn]
      exact Hle.srt
    · simp only [decide_eq_false_iff_not] at h5
      obtain rfl : j = kk.length := by omega
      rw [List.take_of_length_le (Nat.le_refl _)]
      obtain ⟨z0, zr, hzr⟩ : ∃ a b, prjR kk r = a :: b := by
        cases hc : prjR kk r with
        | nil => have := congrArg List.length hc; rw [prjR_len] at this; simp at this; exact absurd this hne
        | cons a b => exact ⟨a, b, rfl⟩
      have hany : anyP (prjR kk r) = decide (0 ≤ mxOf z0 zr) := by
        rw [Bool.eq_iff_iff, decide_eq_true_eq, mxOf_any, hzr]
        unfold anyP
        rw [List.any_cons, Bool.or_eq_true, decide_eq_true_eq]
      repeat' (first | refine d1 ?_ | refine dd ?_ | (show T _ (.ops _ (_ :: _) :: _) _ _ _; first | refine T_call rfl rfl rfl rfl rfl (fun w hw => mxOfnt_spec A5 kk.length cap5 z0 zr w (by have h9 := srcRw (A := A5) (xs := (prjR kk r).map (Value.int .i64)) w hw; rw [hzr] at h9; exact h9) (by rw [← hzr, prjR_len]) (by omega)) ?_ | refine T_callC rfl rfl rfl rfl rfl rfl rfl (fun hg w hw => mxOfnt_spec A5 kk.length cap5 z0 zr w (by have h9 := srcRw (A := A5) (xs := (prjR kk r).map (Value.int .i64)) w hw; rw [hzr] at h9; exact h9) (by rw [← hzr, prjR_len]) (by omega)) ?_) | (show T _ (.run _ _ (_ :: _) _ _ :: _) _ _ _; first | refine rc rfl rfl rfl rfl rfl rfl rfl (fun w hw => mxOfnt_spec A5 kk.length cap5 z0 zr w (by have h9 := srcRw (A := A5) (xs := (prjR kk r).map (Value.int .i64)) w hw; rw [hzr] at h9; exact h9) (by rw [← hzr, prjR_len]) (by omega)) ?_ | refine rcG rfl rfl rfl rfl rfl rfl rfl rfl rfl (fun hg w hw => mxOfnt_spec A5 kk.length cap5 z0 zr w (by have h9 := srcRw (A := A5) (xs := (prjR kk r).map (Value.int .i64)) w hw; rw [hzr] at h9; exact h9) (by rw [← hzr, prjR_len]) (by omega)) ?_) | (show ∀ _ : Nat, T _ _ _ _ _; intro _))
      refine T_if rfl (fun h6 => ?_) (fun h6 => ?_)
      · rw [hany, if_pos h6] at hps
        repeat' (first | refine d1 ?_ | refine dd ?_ | (show T _ (.ops _ (_ :: _) :: _) _ _ _; refine T_op (OpT.append (A := Ao) rfl rfl rfl rfl rfl rfl rfl rfl rfl rfl (fun w hw => Src.own hw rfl) rfl (by dsimp only; omega) (by omega) (fun A' cap' hA' => ?_))) | (show ∀ _ : Nat, T _ _ _ _ _; intro _))
        refine T_backX (q + 1, (A', cap'), hs9 ++ [.slice A5 kk.length cap5]) (by dsimp only; omega) (by dsimp only; omega) (hE := ⟨rfl, by dsimp only; rw [hps, List.length_append]; rfl, trivial⟩) (hG := ?_)
        dsimp only
        rw [hps, List.length_append, show [prjR kk r].length = 1 from rfl]
        exact (Hle.srt (K := [row 3 1 A5 cap5 kk.length ((prjR kk r).map (Value.int .i64)), dat hs9 ((prjC kk (cols.take q)).map intsD), row 27 1 A' cap' ((prjC kk (cols.take q)).length + 1) (hs9 ++ flatP [(0, .slice A5 kk.length cap5)])])).trans (out_hle (cl := prjR kk r) rfl)
      · rw [hany, if_neg (by rw [h6]; simp), List.append_nil] at hps
        repeat' (first | refine d1 ?_ | refine dd ?_ | (show ∀ _ : Nat, T _ _ _ _ _; intro _))
        exact T_backX (q + 1, (Ao, capo), hs9) (by dsimp only; omega) (by dsimp only; omega) (hE := ⟨rfl, by dsimp only; rw [hps]; rfl, trivial⟩) (hG := by dsimp only; rw [hps]; exact Hle.tail _ _)
  · simp only [decide_eq_false_iff_not] at h4
    obtain rfl : q = cols.length := by omega
    rw [List.take_of_length_le (Nat.le_refl _)]
    repeat' (first | refine d1 ?_ | refine dd ?_ | (show ∀ _ : Nat, T _ _ _ _ _; intro _) | (show T _ (.code .ret :: _) _ _ _; refine T_retV _ rfl dat_row ⟨_, trivial, rfl, by rfl⟩))
end Go.Proofs.YtofikdpbagnjbaaGreatDoor
namespace Go.Proofs.YtofikdpbagnjbaaGreatDoor
open Go.RowKit Go.Shelf Go.Proofs

theorem colZ_two (c : Costs) (l : List TS) (x : List Int) (i k : Nat) : colZ c [tsA l i, tsA l k] (prjR [i, k] x) = zC c l x i k := by
  show 0 + zC c [tsA l i, tsA l k] (prjR [i, k] x) 0 1 = _
  rw [Int.zero_add]; rfl
theorem zC_none {c : Costs} {l : List TS} {x : List Int} {i k : Nat} (h1 : ¬ 0 ≤ x.getD i (-1)) (h2 : ¬ 0 ≤ x.getD k (-1)) : zC c l x i k = 0 := by
  unfold zC entC
  rw [if_neg (fun h => h1 h.1), if_neg h1, if_neg h2]
theorem prj_pair (c : Costs) (l : List TS) (i k : Nat) : ∀ cols : List (List Int), totZ c [tsA l i, tsA l k] (prjC [i, k] cols) = (cols.map fun x => zC c l x i k).sum
  | [] => rfl
  | x :: cols => by
    have ih := prj_pair c l i k cols
    rw [prjC_cons, List.map_cons, List.sum_cons]
    by_cases hp : anyP (prjR [i, k] x) = true
    · rw [if_pos hp, totZ_cons, colZ_two, ih]
    · rw [if_neg hp, ih, zC_none (fun h => hp (anyP_iff.2 ⟨_, .head _, h⟩)) (fun h => hp (anyP_iff.2 ⟨_, .tail _ (.head _), h⟩))]
      omega
theorem totZ_prj (c : Costs) (l : List TS) (cols : List (List Int)) : totZ c l cols = ssum (fun i k => totZ c [tsA l i, tsA l k] (prjC [i, k] cols)) l.length l.length := by
  rw [totZ_pairs, ssum_eq]
  congr 1
  funext i k
  exact (prj_pair c l i k cols).symm
end Go.Proofs.YtofikdpbagnjbaaGreatDoor
