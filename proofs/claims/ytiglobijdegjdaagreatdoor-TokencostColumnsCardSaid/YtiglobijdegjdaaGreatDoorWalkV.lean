/- The reference's metric, walked. -/
import Derived.Test.YtiglobijdegjdaaGreatDoorWalkR
import Derived.Test.YtiglobijdegjdaaGreatDoorWalkS
namespace Go.Proofs.YtiglobijdegjdaaGreatDoor

def allRows (c : Costs) (l : List Tok) : List (List Int) := (List.range (l.length + 1)).map fun i => (List.range (l.length + 1)).map fun k => matC c l i k
theorem matC_gapL {c : Costs} {l : List Tok} {k : Nat} (hk : k < l.length) : matC c l l.length k = gapC c (tkA l k) := by
  unfold matC
  rw [if_neg (by omega), if_pos (by omega), Nat.min_eq_right (by omega)]
theorem matC_gapR {c : Costs} {l : List Tok} {i : Nat} (hi : i < l.length) : matC c l i l.length = gapC c (tkA l i) := by rw [matC_swap, matC_gapL hi]
theorem allRows_take {c : Costs} {l : List Tok} {i n : Nat} (hn : l.length = n) (hi : i ≤ n) : ((allRows c l).take (i + 1)).map intsD = ((allRows c l).take i).map intsD ++ [D.s 1 ((valV (matC c l i) (n + 1)).map .v)] := by
  rw [List.take_add_one, List.map_append]
  congr 1
  unfold allRows
  rw [List.getElem?_map, List.getElem?_range (by omega)]
  simp only [Option.map_some, Option.toList_some, List.map_cons, List.map_nil, intsD, valV, List.map_map, hn]
  rfl
theorem rdFz {C : Cx} {H : List HA} {p : Frag} [FocusZ H p] {b o : Nat} {u : Value} (h : fr p b o = some u) : ∀ w, Cls C.w0 w H → RdC w b o [u] :=
  fun _ hw => RdC.one (hw.fz (p := p) _ _ _ h)
theorem rowAt {p : Frag} {c : Costs} {l : List Tok} {cs : List Value} {n : Nat} (hn : l.length = n) (h : Rd (fr p) cs ((allRows c l).map intsD)) {i : Nat} (hi : i ≤ n) :
    ∃ b o cap, cs[i]? = some (.slice (some ⟨b, o, none⟩) (n + 1) cap) ∧ ∀ k, k ≤ n → fr p b (o + k) = some (.int .i64 (matC c l i k)) := by
  obtain ⟨x, hx, hr⟩ := h.get (i := i) (d := D.s 1 ((valV (matC c l i) (n + 1)).map .v)) (by
    unfold allRows
    rw [List.getElem?_map, List.getElem?_map, List.getElem?_range (by omega)]
    simp only [Option.map_some, intsD, valV, List.map_map, hn]
    rfl)
  obtain ⟨A, m, cap, rfl, h1, h2, h3, h4⟩ := hr.vals_one
  rw [valV_length, Nat.mul_one] at h1
  subst h1
  obtain ⟨ha, hc⟩ := h4 (by omega)
  refine ⟨bk A, ofs A, cap, by rw [← ha]; exact hx, fun k hk => hc k _ (valV_get (by omega))⟩
set_option maxHeartbeats 1000000 in
theorem metricRef_spec (c : Costs) (A : Option Addr) (n ca : Nat) (l : List Tok) (w : World) (hl : Src w 6 A n (l.flatMap Tok.cells)) (hn : l.length = n) (hnb : n ≤ 9223372036854775807) :
    Spec Tryz.prog 17 [c.val, .slice A n ca] w (fun v R => v = .tuple #[.bool (metricV c l).1, .int .i64 (metricV c l).2] ∧ R = []) := by
  refine spec_of sg Tryz.func17 rfl rfl rfl ?_
  refine T_op (OpT.box (cs := c.cells) rfl rfl rfl rfl rfl rfl rfl (fun pc => ?_))
  repeat' (first | refine d1 ?_ | refine dd ?_ | (show T _ (.ops _ (_ :: _) :: _) _ _ _; first | refine T_call rfl rfl rfl rfl rfl (fun w hw => validRef_spec c A n ca l 32 w (rdSrc hl w ‹_›) hn hnb) ?_ | refine T_callC rfl rfl rfl rfl rfl rfl rfl (fun hg w hw => validRef_spec c A n ca l 32 w (rdSrc hl w ‹_›) hn hnb) ?_) | (show T _ (.run _ _ (_ :: _) _ _ :: _) _ _ _; first | refine rc rfl rfl rfl rfl rfl rfl rfl (fun w hw => validRef_spec c A n ca l 32 w (rdSrc hl w ‹_›) hn hnb) ?_ | refine rcG rfl rfl rfl rfl rfl rfl rfl rfl rfl (fun hg w hw => validRef_spec c A n ca l 32 w (rdSrc hl w ‹_›) hn hnb) ?_) | (show ∀ _ : Nat, T _ _ _ _ _; intro _))
  refine T_if rfl (fun h => ?_) (fun h => ?_)
  · simp only [Bool.not_eq_true', decide_eq_false_iff_not] at h
    have e : metricV c l = (false, validV c l 32) := by
      unfold metricV
      unfold validV at h ⊢
      by_cases h1 : costE c ≠ 0
      · rw [if_pos h1, if_pos h1]
      rw [if_neg h1] at h ⊢
      rw [if_neg h1]
      by_cases h2 : 32 < l.length
      · rw [if_pos h2, if_pos (by omega)]
      have h3 : ¬ (32 : Int) < l.length := by omega
      rw [if_neg h3] at h ⊢
      rw [if_neg h2, if_pos h, (tokErr_01 c l).resolve_left h]
    repeat' (first | refine d1 ?_ | refine dd ?_ | (show ∀ _ : Nat, T _ _ _ _ _; intro _) | (show T _ (.code .ret :: _) _ _ _; refine T_retV [] rfl (Hle.none _) ⟨by rw [e]; rfl, rfl⟩))
  simp only [Bool.not_eq_false', decide_eq_true_eq] at h
  have hc : costE c = 0 := by unfold validV at h; split at h <;> omega
  have hn2 : ¬ 32 < n := by unfold validV at h; rw [if_neg (by omega)] at h; split at h <;> omega
  have ht0 : tokErr c l = 0 := by unfold validV at h; rw [if_neg (by omega), if_neg (by omega)] at h; exact h
  have hmv : metricV c l = (metB c l, 0) := by unfold metricV; rw [if_neg (by omega), if_neg (by omega), if_neg (by omega)]
  have hcg := costE_ok hc
  repeat' (first | refine d1 ?_ | refine dd ?_ | (show ∀ _ : Nat, T _ _ _ _ _; intro _))
  rename_i b0
  refine T_le (H' := [dat [] [], row 41 1 (some ⟨b0, 0, none⟩) 0 0 [], blk pc c.cells 23]) ((Hle.weaken (i := 0) rfl (blk_row (sz := 1) (n := 0) rfl (by simp only [maxLen]; omega)) rfl).trans (dat_nil _)) ?_
  refine T_loopX (fun x : Nat × Nat × Nat × List Value => [(9, .int .i64 x.1), (8, .slice (some ⟨x.2.1, 0, none⟩) x.1 x.2.2.1)]) (fun x => [dat x.2.2.2 (((allRows c l).take x.1).map intsD), row 41 1 (some ⟨x.2.1, 0, none⟩) x.2.2.1 x.1 x.2.2.2, blk pc c.cells 23]) (fun x => x.1 ≤ n + 1) (fun x => n + 1 - x.1) (0, b0, 0, []) (Nat.zero_le _) ?_
  rintro ⟨i, g, cap, vs⟩ hi
  dsimp only at hi ⊢
  repeat' (first | refine d1 ?_ | refine dd ?_ | (show ∀ _ : Nat, T _ _ _ _ _; intro _))
  refine T_if rfl (fun h3 => ?_) (fun h3 => ?_)
  · simp only [decide_eq_true_eq] at h3
    repeat' (first | refine d1 ?_ | refine dd ?_ | (show ∀ _ : Nat, T _ _ _ _ _; intro _))
    rename_i b1
    refine T_le (H' := [row 3 1 (some ⟨b1, 0, none⟩) 0 0 (valV (matC c l i) 0), dat vs (((allRows c l).take i).map intsD), row 41 1 (some ⟨g, 0, none⟩) cap i vs, blk pc c.cells 23]) (Hle.weaken (i := 0) rfl (blk_row (sz := 1) (n := 0) rfl (by simp only [maxLen]; omega)) rfl) ?_
    refine T_loopX (fun x : Nat × Nat × Nat => [(11, .int .i64 x.1), (10, .slice (some ⟨x.2.1, 0, none⟩) x.1 x.2.2)]) (fun x => [row 3 1 (some ⟨x.2.1, 0, none⟩) x.2.2 x.1 (valV (matC c l i) x.1), dat vs (((allRows c l).take i).map intsD), row 41 1 (some ⟨g, 0, none⟩) cap i vs, blk pc c.cells 23]) (fun x => x.1 ≤ n + 1) (fun x => n + 1 - x.1) (0, b1, 0) (Nat.zero_le _) ?_
    rintro ⟨k, g2, cap2⟩ hk
    dsimp only at hk ⊢
    repeat' (first | refine d1 ?_ | refine dd ?_ | (show ∀ _ : Nat, T _ _ _ _ _; intro _))
    refine T_if rfl (fun h4 => ?_) (fun h4 => ?_)
    · simp only [decide_eq_true_eq] at h4
      repeat' (first | refine d1 ?_ | refine dd ?_ | (show ∀ _ : Nat, T _ _ _ _ _; intro _))
      refine T_if rfl (fun h5 => ?_) (fun h5 => ?_)
      · simp only [Bool.and_eq_true, decide_eq_true_eq] at h5
        have hm : matC c l i k = 0 := by unfold matC; rw [if_pos (by omega)]
        repeat' (first | refine d1 ?_ | refine dd ?_ | (show ∀ _ : Nat, T _ _ _ _ _; intro _))
        refine T_op (OpT.append rfl rfl rfl rfl rfl rfl rfl rfl rfl rfl (fun w hw => Src.own hw rfl) rfl (by dsimp only; omega) (by omega) (fun A' cap' hA' => ?_))
        obtain ⟨g', rfl⟩ := hA' (by omega)
        repeat' (first | refine d1 ?_ | refine dd ?_ | (show ∀ _ : Nat, T _ _ _ _ _; intro _))
        refine T_backX (k + 1, g', cap') (Nat.succ_le_of_lt (by omega)) (by dsimp only; omega) (hG := ?_)
        dsimp only
        rw [valV_snoc, hm]
        exact Hle.tail _ _
      repeat' (first | refine d1 ?_ | refine dd ?_ | (show ∀ _ : Nat, T _ _ _ _ _; intro _))
      refine T_if rfl (fun h6 => ?_) (fun h6 => ?_)
      · simp only [decide_eq_true_eq] at h6
        have hkn : k < n := by rcases Nat.lt_or_ge k n with h7 | h7; exact h7; exact absurd h5 (by simp; omega)
        obtain ⟨ba, oa, rfl⟩ := hl.base (by omega)
        have hr2 : RdC w ba (oa + (k : Int).toNat * 6) (tkA l k).cells := hl.getT (by omega) (tkA_get (by omega))
        have kk := tokE_ok ((tokErr_ok ht0).2 _ (List.mem_of_getElem? (tkA_get (l := l) (i := k) (by omega))))
        have hm : matC c l i k = gapC c (tkA l k) := by rw [show i = l.length by omega]; exact matC_gapL (by omega)
        refine rsH [blk pc c.cells 23] 1000 [0, 1, 2, 3, 4, 5, 6, 7, 8, 9] ?_
        repeat' (first | refine d1 ?_ | refine dd ?_ | (show T _ (.ops _ (_ :: _) :: _) _ _ _; first | refine T_call rfl rfl rfl rfl rfl (fun w hw => gapRefC_spec c (tkA l k) (by omega) kk.1 w) ?_ | refine T_callC rfl rfl rfl rfl rfl rfl rfl (fun hg w hw => gapRefC_spec c (tkA l k) (by omega) kk.1 w) ?_) | (show T _ (.run _ _ (_ :: _) _ _ :: _) _ _ _; first | refine rc rfl rfl rfl rfl rfl rfl rfl (fun w hw => gapRefC_spec c (tkA l k) (by omega) kk.1 w) ?_ | refine rcG rfl rfl rfl rfl rfl rfl rfl rfl rfl (fun hg w hw => gapRefC_spec c (tkA l k) (by omega) kk.1 w) ?_ | refine ro rfl rfl (OpT.litW rfl rfl rfl rfl rfl rfl rfl rfl rfl rfl rfl (fun b3 => ⟨fun _ => Hle.sub, ?_⟩)) | refine ro rfl rfl (OpT.append rfl rfl rfl rfl rfl rfl rfl rfl rfl rfl (fun w hw => Src.own hw rfl) rfl (by dsimp only; omega) (by omega) (fun A' cap' hA' => ⟨fun _ => Hle.sub, ?_⟩))) | (show ∀ _ : Nat, T _ _ _ _ _; intro _))
        obtain ⟨g', rfl⟩ := hA' (by omega)
        refine T_backX (k + 1, g', cap') (Nat.succ_le_of_lt (by omega)) (by dsimp only; omega) (hG := ?_)
        dsimp only
        rw [valV_snoc, hm]
        exact Hle.tail _ _
      simp only [decide_eq_false_iff_not] at h6
      obtain ⟨ba, oa, rfl⟩ := hl.base (by omega)
      have hr1 : RdC w ba (oa + (i : Int).toNat * 6) (tkA l i).cells := hl.getT (by omega) (tkA_get (by omega))
      have ki := tokE_ok ((tokErr_ok ht0).2 _ (List.mem_of_getElem? (tkA_get (l := l) (i := i) (by omega))))
      repeat' (first | refine d1 ?_ | refine dd ?_ | (show ∀ _ : Nat, T _ _ _ _ _; intro _))
      refine T_if rfl (fun h7 => ?_) (fun h7 => ?_)
      · simp only [decide_eq_true_eq] at h7
        have hm : matC c l i k = gapC c (tkA l i) := by rw [show k = l.length by omega]; exact matC_gapR (by omega)
        refine rsH [blk pc c.cells 23] 1000 [0, 1, 2, 3, 4, 5, 6, 7, 8, 9] ?_
        repeat' (first | refine d1 ?_ | refine dd ?_ | (show T _ (.ops _ (_ :: _) :: _) _ _ _; first | refine T_call rfl rfl rfl rfl rfl (fun w hw => gapRefC_spec c (tkA l i) (by omega) ki.1 w) ?_ | refine T_callC rfl rfl rfl rfl rfl rfl rfl (fun hg w hw => gapRefC_spec c (tkA l i) (by omega) ki.1 w) ?_) | (show T _ (.run _ _ (_ :: _) _ _ :: _) _ _ _; first | refine rc rfl rfl rfl rfl rfl rfl rfl (fun w hw => gapRefC_spec c (tkA l i) (by omega) ki.1 w) ?_ | refine rcG rfl rfl rfl rfl rfl rfl rfl rfl rfl (fun hg w hw => gapRefC_spec c (tkA l i) (by omega) ki.1 w) ?_ | refine ro rfl rfl (OpT.litW rfl rfl rfl rfl rfl rfl rfl rfl rfl rfl rfl (fun b3 => ⟨fun _ => Hle.sub, ?_⟩)) | refine ro rfl rfl (OpT.append rfl rfl rfl rfl rfl rfl rfl rfl rfl rfl (fun w hw => Src.own hw rfl) rfl (by dsimp only; omega) (by omega) (fun A' cap' hA' => ⟨fun _ => Hle.sub, ?_⟩))) | (show ∀ _ : Nat, T _ _ _ _ _; intro _))
        obtain ⟨g', rfl⟩ := hA' (by omega)
        refine T_backX (k + 1, g', cap') (Nat.succ_le_of_lt (by omega)) (by dsimp only; omega) (hG := ?_)
        dsimp only
        rw [valV_snoc, hm]
        exact Hle.tail _ _
      simp only [decide_eq_false_iff_not] at h7
      have hr2 : RdC w ba (oa + (k : Int).toNat * 6) (tkA l k).cells := hl.getT (by omega) (tkA_get (by omega))
      have kk := tokE_ok ((tokErr_ok ht0).2 _ (List.mem_of_getElem? (tkA_get (l := l) (i := k) (by omega))))
      have hm : matC c l i k = pairC c (tkA l i) (tkA l k) := matC_pair (by omega) (by omega)
      refine rsH [blk pc c.cells 23] 1000 [0, 1, 2, 3, 4, 5, 6, 7, 8, 9, 10, 11, 12, 13] ?_
      repeat' (first | refine d1 ?_ | refine dd ?_ | (show T _ (.ops _ (_ :: _) :: _) _ _ _; first | refine T_call rfl rfl rfl rfl rfl (fun w hw => pairRefC_spec c (tkA l i) (tkA l k) hc ki.1 kk.1 (by omega) (by omega) w) ?_ | refine T_callC rfl rfl rfl rfl rfl rfl rfl (fun hg w hw => pairRefC_spec c (tkA l i) (tkA l k) hc ki.1 kk.1 (by omega) (by omega) w) ?_) | (show T _ (.run _ _ (_ :: _) _ _ :: _) _ _ _; first | refine rc rfl rfl rfl rfl rfl rfl rfl (fun w hw => pairRefC_spec c (tkA l i) (tkA l k) hc ki.1 kk.1 (by omega) (by omega) w) ?_ | refine rcG rfl rfl rfl rfl rfl rfl rfl rfl rfl (fun hg w hw => pairRefC_spec c (tkA l i) (tkA l k) hc ki.1 kk.1 (by omega) (by omega) w) ?_ | refine ro rfl rfl (OpT.litW rfl rfl rfl rfl rfl rfl rfl rfl rfl rfl rfl (fun b3 => ⟨fun _ => Hle.sub, ?_⟩)) | refine ro rfl rfl (OpT.append rfl rfl rfl rfl rfl rfl rfl rfl rfl rfl (fun w hw => Src.own hw rfl) rfl (by dsimp only; omega) (by omega) (fun A' cap' hA' => ⟨fun _ => Hle.sub, ?_⟩))) | (show ∀ _ : Nat, T _ _ _ _ _; intro _))
      obtain ⟨g', rfl⟩ := hA' (by omega)
      refine T_backX (k + 1, g', cap') (Nat.succ_le_of_lt (by omega)) (by dsimp only; omega) (hG := ?_)
      dsimp only
      rw [valV_snoc, hm]
      exact Hle.tail _ _
    · simp only [decide_eq_false_iff_not] at h4
      have hkn : k = n + 1 := by omega
      subst hkn
      repeat' (first | refine d1 ?_ | refine dd ?_ | (show ∀ _ : Nat, T _ _ _ _ _; intro _))
      refine T_op (OpT.append rfl rfl rfl rfl rfl rfl rfl rfl rfl rfl (fun w hw => Src.own hw rfl) rfl (by dsimp only; omega) (by omega) (fun A' cap' hA' => ?_))
      obtain ⟨g', rfl⟩ := hA' (by omega)
      repeat' (first | refine d1 ?_ | refine dd ?_ | (show ∀ _ : Nat, T _ _ _ _ _; intro _))
      refine T_backX (i + 1, g', cap', vs ++ [.slice (some ⟨g2, 0, none⟩) (n + 1) cap2]) (Nat.succ_le_of_lt (by omega)) (by dsimp only; omega) (hG := ?_)
      dsimp only
      rw [allRows_take hn (by omega)]
      exact (Hle.tail _ _).trans (dat_rowV.trans dat_join)
  · simp only [decide_eq_false_iff_not] at h3
    have hin : i = n + 1 := by omega
    subst hin
    have e : (allRows c l).take (n + 1) = allRows c l := List.take_of_length_le (by unfold allRows; simp; omega)
    rw [e]
    refine T_le (H' := [dat [.slice (some ⟨g, 0, none⟩) (n + 1) cap] [D.s 1 ((allRows c l).map intsD)], blk pc c.cells 23]) ((Hle.perm (List.Perm.swap _ _ _)).trans dat_row) ?_
    refine T_open fun p hF => ?_
    obtain ⟨A', n', cap', cs, e1, -, -, -, -, hA, hcs⟩ := hF.slice
    cases e1
    obtain ⟨-, hA⟩ := hA (by omega)
    repeat' (first | refine d1 ?_ | refine dd ?_ | (show ∀ _ : Nat, T _ _ _ _ _; intro _))
    refine T_loopX (fun i : Nat => [(12, .int .i64 i)]) (fun _ => [fz p, blk pc c.cells 23]) (fun i => i ≤ n + 1 ∧ ∀ i', i' < i → ∀ k j, k ≤ n → j ≤ n → matC c l i' k ≤ matC c l i' j + matC c l j k) (fun i => n + 1 - i) 0 ⟨by omega, fun i' h => by omega⟩ ?_
    rintro i ⟨hi2, hI⟩
    repeat' (first | refine d1 ?_ | refine dd ?_ | (show ∀ _ : Nat, T _ _ _ _ _; intro _))
    refine T_if rfl (fun h4 => ?_) (fun h4 => ?_)
    · simp only [decide_eq_true_eq] at h4
      obtain ⟨bi, oi, capi, hci, hrowi⟩ := rowAt hn hcs (i := i) (by omega)
      repeat' (first | refine d1 ?_ | refine dd ?_ | (show ∀ _ : Nat, T _ _ _ _ _; intro _))
      refine T_loopX (fun k : Nat => [(13, .int .i64 k)]) (fun _ => [fz p, blk pc c.cells 23]) (fun k => k ≤ n + 1 ∧ ∀ k', k' < k → ∀ j, j ≤ n → matC c l i k' ≤ matC c l i j + matC c l j k') (fun k => n + 1 - k) 0 ⟨by omega, fun i' h => by omega⟩ ?_
      rintro k ⟨hk, hK⟩
      repeat' (first | refine d1 ?_ | refine dd ?_ | (show ∀ _ : Nat, T _ _ _ _ _; intro _))
      refine T_if rfl (fun h5 => ?_) (fun h5 => ?_)
      · simp only [decide_eq_true_eq] at h5
        repeat' (first | refine d1 ?_ | refine dd ?_ | (show ∀ _ : Nat, T _ _ _ _ _; intro _))
        refine T_loopX (fun j : Nat => [(14, .int .i64 j)]) (fun _ => [fz p, blk pc c.cells 23]) (fun j => j ≤ n + 1 ∧ ∀ j', j' < j → matC c l i k ≤ matC c l i j' + matC c l j' k) (fun j => n + 1 - j) 0 ⟨by omega, fun i' h => by omega⟩ ?_
        rintro j ⟨hj, hJ⟩
        repeat' (first | refine d1 ?_ | refine dd ?_ | (show ∀ _ : Nat, T _ _ _ _ _; intro _))
        refine T_if rfl (fun h6 => ?_) (fun h6 => ?_)
        · simp only [decide_eq_true_eq] at h6
          obtain ⟨bj, oj, capj, hcj, hrowj⟩ := rowAt hn hcs (i := j) (by omega)
          have m1 := matC_bd hc l i k
          have m2 := matC_bd hc l i j
          have m3 := matC_bd hc l j k
          repeat' (first | refine d1 ?_ | refine dd ?_ | (show T _ (.ops _ (_ :: _) :: _) _ _ _; first | refine T_val rfl (Val.load rfl (fun hg => rdFz (p := p) (u := .slice (some ⟨bi, oi, none⟩) (n + 1) capi) (b := g) (hA ((i : Int).toNat * 1) _ (by rw [show (i : Int).toNat * 1 = i by omega]; exact hci)))) rfl rfl rfl ?_ | refine T_valC rfl (Val.load rfl (fun hg => rdFz (p := p) (u := .slice (some ⟨bi, oi, none⟩) (n + 1) capi) (b := g) (hA ((i : Int).toNat * 1) _ (by rw [show (i : Int).toNat * 1 = i by omega]; exact hci)))) rfl rfl rfl rfl rfl ?_ | refine T_val rfl (Val.load rfl (fun hg => rdFz (p := p) (u := .slice (some ⟨bj, oj, none⟩) (n + 1) capj) (b := g) (hA ((j : Int).toNat * 1) _ (by rw [show (j : Int).toNat * 1 = j by omega]; exact hcj)))) rfl rfl rfl ?_ | refine T_valC rfl (Val.load rfl (fun hg => rdFz (p := p) (u := .slice (some ⟨bj, oj, none⟩) (n + 1) capj) (b := g) (hA ((j : Int).toNat * 1) _ (by rw [show (j : Int).toNat * 1 = j by omega]; exact hcj)))) rfl rfl rfl rfl rfl ?_ | refine T_val rfl (Val.load rfl (fun hg => rdFz (p := p) (b := bi) (o := oi + (k : Int).toNat * 1) (u := .int .i64 (matC c l i k)) (by rw [show (k : Int).toNat * 1 = k by omega]; exact hrowi k (by omega)))) rfl rfl rfl ?_ | refine T_valC rfl (Val.load rfl (fun hg => rdFz (p := p) (b := bi) (o := oi + (k : Int).toNat * 1) (u := .int .i64 (matC c l i k)) (by rw [show (k : Int).toNat * 1 = k by omega]; exact hrowi k (by omega)))) rfl rfl rfl rfl rfl ?_ | refine T_val rfl (Val.load rfl (fun hg => rdFz (p := p) (b := bi) (o := oi + (j : Int).toNat * 1) (u := .int .i64 (matC c l i j)) (by rw [show (j : Int).toNat * 1 = j by omega]; exact hrowi j (by omega)))) rfl rfl rfl ?_ | refine T_valC rfl (Val.load rfl (fun hg => rdFz (p := p) (b := bi) (o := oi + (j : Int).toNat * 1) (u := .int .i64 (matC c l i j)) (by rw [show (j : Int).toNat * 1 = j by omega]; exact hrowi j (by omega)))) rfl rfl rfl rfl rfl ?_ | refine T_val rfl (Val.load rfl (fun hg => rdFz (p := p) (b := bj) (o := oj + (k : Int).toNat * 1) (u := .int .i64 (matC c l j k)) (by rw [show (k : Int).toNat * 1 = k by omega]; exact hrowj k (by omega)))) rfl rfl rfl ?_ | refine T_valC rfl (Val.load rfl (fun hg => rdFz (p := p) (b := bj) (o := oj + (k : Int).toNat * 1) (u := .int .i64 (matC c l j k)) (by rw [show (k : Int).toNat * 1 = k by omega]; exact hrowj k (by omega)))) rfl rfl rfl rfl rfl ?_) | (show T _ (.run _ _ (_ :: _) _ _ :: _) _ _ _; first | refine rv rfl rfl rfl (Val.load rfl (fun hg => rdFz (p := p) (u := .slice (some ⟨bi, oi, none⟩) (n + 1) capi) (b := g) (hA ((i : Int).toNat * 1) _ (by rw [show (i : Int).toNat * 1 = i by omega]; exact hci)))) rfl rfl rfl ?_ | refine rg rfl rfl rfl (Val.load rfl (fun hg => rdFz (p := p) (u := .slice (some ⟨bi, oi, none⟩) (n + 1) capi) (b := g) (hA ((i : Int).toNat * 1) _ (by rw [show (i : Int).toNat * 1 = i by omega]; exact hci)))) rfl rfl rfl rfl rfl ?_ | refine rv rfl rfl rfl (Val.load rfl (fun hg => rdFz (p := p) (u := .slice (some ⟨bj, oj, none⟩) (n + 1) capj) (b := g) (hA ((j : Int).toNat * 1) _ (by rw [show (j : Int).toNat * 1 = j by omega]; exact hcj)))) rfl rfl rfl ?_ | refine rg rfl rfl rfl (Val.load rfl (fun hg => rdFz (p := p) (u := .slice (some ⟨bj, oj, none⟩) (n + 1) capj) (b := g) (hA ((j : Int).toNat * 1) _ (by rw [show (j : Int).toNat * 1 = j by omega]; exact hcj)))) rfl rfl rfl rfl rfl ?_ | refine rv rfl rfl rfl (Val.load rfl (fun hg => rdFz (p := p) (b := bi) (o := oi + (k : Int).toNat * 1) (u := .int .i64 (matC c l i k)) (by rw [show (k : Int).toNat * 1 = k by omega]; exact hrowi k (by omega)))) rfl rfl rfl ?_ | refine rg rfl rfl rfl (Val.load rfl (fun hg => rdFz (p := p) (b := bi) (o := oi + (k : Int).toNat * 1) (u := .int .i64 (matC c l i k)) (by rw [show (k : Int).toNat * 1 = k by omega]; exact hrowi k (by omega)))) rfl rfl rfl rfl rfl ?_ | refine rv rfl rfl rfl (Val.load rfl (fun hg => rdFz (p := p) (b := bi) (o := oi + (j : Int).toNat * 1) (u := .int .i64 (matC c l i j)) (by rw [show (j : Int).toNat * 1 = j by omega]; exact hrowi j (by omega)))) rfl rfl rfl ?_ | refine rg rfl rfl rfl (Val.load rfl (fun hg => rdFz (p := p) (b := bi) (o := oi + (j : Int).toNat * 1) (u := .int .i64 (matC c l i j)) (by rw [show (j : Int).toNat * 1 = j by omega]; exact hrowi j (by omega)))) rfl rfl rfl rfl rfl ?_ | refine rv rfl rfl rfl (Val.load rfl (fun hg => rdFz (p := p) (b := bj) (o := oj + (k : Int).toNat * 1) (u := .int .i64 (matC c l j k)) (by rw [show (k : Int).toNat * 1 = k by omega]; exact hrowj k (by omega)))) rfl rfl rfl ?_ | refine rg rfl rfl rfl (Val.load rfl (fun hg => rdFz (p := p) (b := bj) (o := oj + (k : Int).toNat * 1) (u := .int .i64 (matC c l j k)) (by rw [show (k : Int).toNat * 1 = k by omega]; exact hrowj k (by omega)))) rfl rfl rfl rfl rfl ?_) | (show ∀ _ : Nat, T _ _ _ _ _; intro _))
          refine T_if rfl (fun h7 => ?_) (fun h7 => ?_)
          · simp only [decide_eq_true_eq] at h7
            repeat' (first | refine d1 ?_ | refine dd ?_ | (show ∀ _ : Nat, T _ _ _ _ _; intro _) | (show T _ (.code .ret :: _) _ _ _; refine T_retV [] rfl (Hle.none _) ⟨?_, rfl⟩))
            rw [hmv, metB_false (fun hh => by have := hh i k j (by omega) (by omega) (by omega); omega)]; rfl
          · simp only [decide_eq_false_iff_not] at h7
            repeat' (first | refine d1 ?_ | refine dd ?_ | (show ∀ _ : Nat, T _ _ _ _ _; intro _))
            refine T_backX (j + 1) ⟨by omega, fun j' hj' => ?_⟩ (by omega)
            rcases Nat.lt_or_ge j' j with h8 | h8
            · exact hJ j' h8
            · rw [show j' = j by omega]; omega
        · simp only [decide_eq_false_iff_not] at h6
          repeat' (first | refine d1 ?_ | refine dd ?_ | (show ∀ _ : Nat, T _ _ _ _ _; intro _))
          refine T_backX (k + 1) ⟨by omega, fun k' hk' j' hj' => ?_⟩ (by omega)
          rcases Nat.lt_or_ge k' k with h8 | h8
          · exact hK k' h8 j' hj'
          · rw [show k' = k by omega]; exact hJ j' (by omega)
      · simp only [decide_eq_false_iff_not] at h5
        repeat' (first | refine d1 ?_ | refine dd ?_ | (show ∀ _ : Nat, T _ _ _ _ _; intro _))
        refine T_backX (i + 1) ⟨by omega, fun i' hi' k' j' hk' hj' => ?_⟩ (by omega)
        rcases Nat.lt_or_ge i' i with h8 | h8
        · exact hI i' h8 k' j' hk' hj'
        · rw [show i' = i by omega]; exact hK k' (by omega) j' hj'
    · simp only [decide_eq_false_iff_not] at h4
      repeat' (first | refine d1 ?_ | refine dd ?_ | (show ∀ _ : Nat, T _ _ _ _ _; intro _) | (show T _ (.code .ret :: _) _ _ _; refine T_retV [] rfl (Hle.none _) ⟨?_, rfl⟩))
      rw [hmv, metB_true (fun i' k' j' h1 h2 h3 => hI i' (by omega) k' j' (by omega) (by omega))]; rfl
end Go.Proofs.YtiglobijdegjdaaGreatDoor
