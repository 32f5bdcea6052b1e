/- The law MultiwayMoves holds for whatever number: the tied card of its row: the moves are all sets that are not empty, each once, in order. No condition beyond the row's own. -/
import Derived.Test.YtofikdpbagnjbaaGreatDoorJ4
import Derived.Test.YtofikdpbagnjbaaGreatDoorCards
import Derived.Test.YtofikdpbagnjbaaGreatDoorTie
set_option linter.unusedVariables false
set_option linter.unusedSimpArgs false
namespace Go.Proofs.YtofikdpbagnjbaaGreatDoor
open Go.RowKit Go.Shelf Go.ChangeShapes Go.WideShapes Go.Proofs
set_option maxRecDepth 100000
set_option maxHeartbeats 1000000

theorem mvL_len {n : Nat} (h1 : 1 ≤ n) (h4 : n ≤ 4) : (mvL n).length = 2 ^ n - 1 := by
  obtain rfl | rfl | rfl | rfl : n = 1 ∨ n = 2 ∨ n = 3 ∨ n = 4 := by omega
  all_goals decide
theorem mvL_bef {n : Nat} (h1 : 1 ≤ n) (h4 : n ≤ 4) : ∀ i, i < 15 → i + 1 < (mvL n).length → befV (intN ((mvL n).getD i [])) (intN ((mvL n).getD (i + 1) [])) = true := by
  obtain rfl | rfl | rfl | rfl : n = 1 ∨ n = 2 ∨ n = 3 ∨ n = 4 := by omega
  all_goals decide +kernel
theorem mvL_rise {n : Nat} (h1 : 1 ≤ n) (h4 : n ≤ 4) : ∀ m ∈ mvL n, ∀ k, k < 4 → k + 1 < m.length → m.getD k 0 < m.getD (k + 1) 0 := by
  obtain rfl | rfl | rfl | rfl : n = 1 ∨ n = 2 ∨ n = 3 ∨ n = 4 := by omega
  all_goals decide +kernel
theorem movesLaw_spec (z : Int) (w : World) (hst : Std w) : Spec Tryz.prog 12 [.int .i64 z] w (fun v R => v = .bool true ∧ R = []) := by
  refine spec_of sg Tryz.func12 rfl rfl rfl ?_
  repeat' (first | refine d1 ?_ | refine dd ?_ | (show T _ (.ops _ (_ :: _) :: _) _ _ _; refine T_op (OpT.call rfl rfl rfl rfl rfl (fun w hw => moves19_spec z w) (fun x R hR => ?_))) | (show ∀ _ : Nat, T _ _ _ _ _; intro _))
  obtain ⟨_, -, rfl, rfl⟩ := hR
  refine T_le (H' := [dat [x] [rowsD ((mvL z.toNat).map intN)]]) (Hle.refl _) ?_
  refine T_open fun pm hM => ?_
  obtain ⟨Am, cm, csm, rfl, hm1, hm2, hml, hmr, hrows⟩ := hM.tab
  rw [List.length_map] at hm1 hml hmr ⊢
  repeat' (first | refine d1 ?_ | refine dd ?_ | (show ∀ _ : Nat, T _ _ _ _ _; intro _))
  refine T_if rfl (fun h => ?_) (fun h => ?_)
  · simp only [Bool.or_eq_true, decide_eq_true_eq] at h
    rw [mvL_none (by omega)]
    repeat' (first | refine d1 ?_ | refine dd ?_ | (show ∀ _ : Nat, T _ _ _ _ _; intro _))
    refine T_callC rfl rfl rfl rfl rfl rfl rfl (fun _ w hw => awake19_spec w (hst.cls hw)) ?_
    repeat' (first | refine d1 ?_ | refine dd ?_ | (show ∀ _ : Nat, T _ _ _ _ _; intro _) | (show T _ (.code .ret :: _) _ _ _; refine T_retV [] rfl (Hle.none _) ⟨rfl, rfl⟩))
  simp only [Bool.or_eq_false_iff, decide_eq_false_iff_not] at h
  obtain ⟨n, rfl⟩ : ∃ n : Nat, z = n := ⟨z.toNat, by omega⟩
  have h1 : 1 ≤ n := by omega
  have h4 : n ≤ 4 := by omega
  rw [Int.toNat_natCast] at *
  have hpw : 2 ^ n ≤ 16 ∧ 2 ≤ 2 ^ n := by
    obtain rfl | rfl | rfl | rfl : n = 1 ∨ n = 2 ∨ n = 3 ∨ n = 4 := by omega
    all_goals decide
  have hlen := mvL_len h1 h4
  have hno := mvL_ok h1 h4
  repeat' (first | refine d1 ?_ | refine dd ?_ | (show T _ (.ops _ (_ :: _) :: _) _ _ _; first | refine T_val rfl (Val.bits rfl (fun _ => by omega)) rfl rfl rfl ?_ | refine T_valC rfl (Val.bits rfl (fun _ => by omega)) rfl rfl rfl rfl rfl ?_) | (show T _ (.run _ _ (_ :: _) _ _ :: _) _ _ _; first | refine rv rfl rfl rfl (Val.bits rfl (fun _ => by omega)) rfl rfl rfl ?_ | refine rg rfl rfl rfl (Val.bits rfl (fun _ => by omega)) rfl rfl rfl rfl rfl ?_) | (show ∀ _ : Nat, T _ _ _ _ _; intro _))
  rw [shl_law h4]
  obtain ⟨P, hP⟩ : ∃ P : Nat, P = 2 ^ n := ⟨_, rfl⟩
  rw [← hP] at hpw hlen ⊢
  repeat' (first | refine d1 ?_ | refine dd ?_ | (show ∀ _ : Nat, T _ _ _ _ _; intro _))
  refine T_if rfl (fun h2 => by exfalso; simp at h2; omega) (fun _ => ?_)
  obtain ⟨b, o, rfl, hrd⟩ := hmr (by omega)
  repeat' (first | refine d1 ?_ | refine dd ?_ | (show ∀ _ : Nat, T _ _ _ _ _; intro _))
  refine T_loopX (fun i : Nat => [(30, .int .i64 (i : Nat))]) (fun _ => [fz pm]) (fun i => i ≤ (mvL n).length) (fun i => (mvL n).length - i) 0 (Nat.zero_le _) ?_
  rintro i hi
  repeat' (first | refine d1 ?_ | refine dd ?_ | (show ∀ _ : Nat, T _ _ _ _ _; intro _))
  refine T_if rfl (fun h5 => ?_) (fun h5 => ?_)
  · simp only [decide_eq_true_eq] at h5
    obtain ⟨m, hm⟩ : ∃ m, (mvL n)[i]? = some m := ⟨_, List.getElem?_eq_getElem (by omega)⟩
    obtain ⟨Ar, capr, hcs, hr1, hr2, hAr⟩ := hrows.tabRow (i := i) (r := intN m) (by rw [List.getElem?_map, hm]; rfl)
    have hmm : m ∈ mvL n := List.mem_of_getElem? hm
    have hml : (intN m).length = m.length := by unfold intN; rw [List.length_map]
    have hmp : 0 < m.length := List.length_pos_iff.2 (hno.ne m hmm)
    have hm4 : m.length ≤ 4 := by
      have := pigeon2 n m (hno.nd m hmm) (hno.lt m hmm)
      omega
    have hsr : ∀ {w' : World} {H : List HA} [FocusZ H pm], Cls w w' H → Src w' 1 Ar (intN m).length ((intN m).map (Value.int .i64)) := fun hw => ((rd_one hrows hcs (by rw [List.getElem?_map, List.getElem?_map, hm]; rfl)).own hw).intsAt
    obtain ⟨⟨Ap, capp, mp⟩, hpv⟩ : ∃ x : Option Addr × Nat × List Nat, 0 < i → csm[i - 1]? = some (.slice x.1 (intN x.2.2).length x.2.1) ∧ (mvL n)[i - 1]? = some x.2.2 := by
      by_cases h0 : 0 < i
      · obtain ⟨q, hq⟩ : ∃ q, (mvL n)[i - 1]? = some q := ⟨_, List.getElem?_eq_getElem (by omega)⟩
        obtain ⟨Aq, capq, hcq, -⟩ := hrows.tabRow (i := i - 1) (r := intN q) (by rw [List.getElem?_map, hq]; rfl)
        exact ⟨(Aq, capq, q), fun _ => ⟨hcq, hq⟩⟩
      · exact ⟨(none, 0, []), fun h => absurd h h0⟩
    dsimp only at hpv
    have hbef : 0 < i → befV (intN mp) (intN m) = true := fun h0 => by
      have h9 := mvL_bef h1 h4 (i - 1) (by omega) (by omega)
      rw [show i - 1 + 1 = i by omega, List.getD_eq_getElem?_getD, (hpv h0).2, List.getD_eq_getElem?_getD, hm] at h9
      exact h9
    have hpl : 0 < i → (intN mp).length ≤ 1000 := fun h0 => by
      have hpm := List.mem_of_getElem? (hpv h0).2
      have := pigeon2 n mp (hno.nd mp hpm) (hno.lt mp hpm)
      unfold intN
      rw [List.length_map]; omega
    have hsp : 0 < i → ∀ {w' : World} {H : List HA} [FocusZ H pm], Cls w w' H → Src w' 1 Ap (intN mp).length ((intN mp).map (Value.int .i64)) := fun h0 {w' H} _ hw => ((rd_one hrows (hpv h0).1 (by rw [List.getElem?_map, List.getElem?_map, (hpv h0).2]; rfl)).own hw).intsAt
    repeat' (first | refine d1 ?_ | refine dd ?_ | (show T _ (.ops _ (_ :: _) :: _) _ _ _; first | refine T_val rfl (Val.load rfl (fun hg => rdFz (p := pm) (u := .slice Ar (intN m).length capr) (b := b) (by rw [off1]; exact hrd i _ hcs))) rfl rfl rfl ?_ | refine T_valC rfl (Val.load rfl (fun hg => rdFz (p := pm) (u := .slice Ar (intN m).length capr) (b := b) (by rw [off1]; exact hrd i _ hcs))) rfl rfl rfl rfl rfl ?_ | refine T_val rfl (Val.load (v := .slice Ap (intN mp).length capp) rfl (fun hg => rdFz (p := pm) (b := b) (by ((simp only [List.cons_append, List.nil_append, GP, dstL, lookE, Nat.beq, cond, List.getElem?_cons_zero, List.getElem?_cons_succ, Option.bind_some, and_true, Bool.and_eq_true, Bool.or_eq_true, Bool.and_eq_false_iff, Bool.or_eq_false_iff, Bool.not_eq_true', Bool.not_eq_false', decide_eq_true_eq, decide_eq_false_iff_not] at hg); rw [show o + ((i : Int) - 1).toNat * 1 = o + (i - 1) by omega]; exact hrd (i - 1) _ (hpv (by omega)).1)))) rfl rfl rfl ?_ | refine T_valC rfl (Val.load (v := .slice Ap (intN mp).length capp) rfl (fun hg => rdFz (p := pm) (b := b) (by ((simp only [List.cons_append, List.nil_append, GP, dstL, lookE, Nat.beq, cond, List.getElem?_cons_zero, List.getElem?_cons_succ, Option.bind_some, and_true, Bool.and_eq_true, Bool.or_eq_true, Bool.and_eq_false_iff, Bool.or_eq_false_iff, Bool.not_eq_true', Bool.not_eq_false', decide_eq_true_eq, decide_eq_false_iff_not] at hg); rw [show o + ((i : Int) - 1).toNat * 1 = o + (i - 1) by omega]; exact hrd (i - 1) _ (hpv (by omega)).1)))) rfl rfl rfl rfl rfl ?_ | refine T_call rfl rfl rfl rfl rfl (fun w hw => before19_spec Ap Ar capp capr (intN mp) (intN m) w (hsp (by ((simp only [List.cons_append, List.nil_append, GP, dstL, lookE, Nat.beq, cond, List.getElem?_cons_zero, List.getElem?_cons_succ, Option.bind_some, and_true, Bool.and_eq_true, Bool.or_eq_true, Bool.and_eq_false_iff, Bool.or_eq_false_iff, Bool.not_eq_true', Bool.not_eq_false', decide_eq_true_eq, decide_eq_false_iff_not] at hg); omega)) hw) (hsr hw) (hpl (by ((simp only [List.cons_append, List.nil_append, GP, dstL, lookE, Nat.beq, cond, List.getElem?_cons_zero, List.getElem?_cons_succ, Option.bind_some, and_true, Bool.and_eq_true, Bool.or_eq_true, Bool.and_eq_false_iff, Bool.or_eq_false_iff, Bool.not_eq_true', Bool.not_eq_false', decide_eq_true_eq, decide_eq_false_iff_not] at hg); omega))) (by omega)) ?_ | refine T_callC rfl rfl rfl rfl rfl rfl rfl (fun hg w hw => before19_spec Ap Ar capp capr (intN mp) (intN m) w (hsp (by ((simp only [List.cons_append, List.nil_append, GP, dstL, lookE, Nat.beq, cond, List.getElem?_cons_zero, List.getElem?_cons_succ, Option.bind_some, and_true, Bool.and_eq_true, Bool.or_eq_true, Bool.and_eq_false_iff, Bool.or_eq_false_iff, Bool.not_eq_true', Bool.not_eq_false', decide_eq_true_eq, decide_eq_false_iff_not] at hg); omega)) hw) (hsr hw) (hpl (by ((simp only [List.cons_append, List.nil_append, GP, dstL, lookE, Nat.beq, cond, List.getElem?_cons_zero, List.getElem?_cons_succ, Option.bind_some, and_true, Bool.and_eq_true, Bool.or_eq_true, Bool.and_eq_false_iff, Bool.or_eq_false_iff, Bool.not_eq_true', Bool.not_eq_false', decide_eq_true_eq, decide_eq_false_iff_not] at hg); omega))) (by omega)) ?_) | (show T _ (.run _ _ (_ :: _) _ _ :: _) _ _ _; first | refine rv rfl rfl rfl (Val.load rfl (fun hg => rdFz (p := pm) (u := .slice Ar (intN m).length capr) (b := b) (by rw [off1]; exact hrd i _ hcs))) rfl rfl rfl ?_ | refine rg rfl rfl rfl (Val.load rfl (fun hg => rdFz (p := pm) (u := .slice Ar (intN m).length capr) (b := b) (by rw [off1]; exact hrd i _ hcs))) rfl rfl rfl rfl rfl ?_ | refine rv rfl rfl rfl (Val.load (v := .slice Ap (intN mp).length capp) rfl (fun hg => rdFz (p := pm) (b := b) (by ((simp only [List.cons_append, List.nil_append, GP, dstL, lookE, Nat.beq, cond, List.getElem?_cons_zero, List.getElem?_cons_succ, Option.bind_some, and_true, Bool.and_eq_true, Bool.or_eq_true, Bool.and_eq_false_iff, Bool.or_eq_false_iff, Bool.not_eq_true', Bool.not_eq_false', decide_eq_true_eq, decide_eq_false_iff_not] at hg); rw [show o + ((i : Int) - 1).toNat * 1 = o + (i - 1) by omega]; exact hrd (i - 1) _ (hpv (by omega)).1)))) rfl rfl rfl ?_ | refine rg rfl rfl rfl (Val.load (v := .slice Ap (intN mp).length capp) rfl (fun hg => rdFz (p := pm) (b := b) (by ((simp only [List.cons_append, List.nil_append, GP, dstL, lookE, Nat.beq, cond, List.getElem?_cons_zero, List.getElem?_cons_succ, Option.bind_some, and_true, Bool.and_eq_true, Bool.or_eq_true, Bool.and_eq_false_iff, Bool.or_eq_false_iff, Bool.not_eq_true', Bool.not_eq_false', decide_eq_true_eq, decide_eq_false_iff_not] at hg); rw [show o + ((i : Int) - 1).toNat * 1 = o + (i - 1) by omega]; exact hrd (i - 1) _ (hpv (by omega)).1)))) rfl rfl rfl rfl rfl ?_ | refine rc rfl rfl rfl rfl rfl rfl rfl (fun w hw => before19_spec Ap Ar capp capr (intN mp) (intN m) w (hsp (by ((simp only [List.cons_append, List.nil_append, GP, dstL, lookE, Nat.beq, cond, List.getElem?_cons_zero, List.getElem?_cons_succ, Option.bind_some, and_true, Bool.and_eq_true, Bool.or_eq_true, Bool.and_eq_false_iff, Bool.or_eq_false_iff, Bool.not_eq_true', Bool.not_eq_false', decide_eq_true_eq, decide_eq_false_iff_not] at hg); omega)) hw) (hsr hw) (hpl (by ((simp only [List.cons_append, List.nil_append, GP, dstL, lookE, Nat.beq, cond, List.getElem?_cons_zero, List.getElem?_cons_succ, Option.bind_some, and_true, Bool.and_eq_true, Bool.or_eq_true, Bool.and_eq_false_iff, Bool.or_eq_false_iff, Bool.not_eq_true', Bool.not_eq_false', decide_eq_true_eq, decide_eq_false_iff_not] at hg); omega))) (by omega)) ?_ | refine rcG rfl rfl rfl rfl rfl rfl rfl rfl rfl (fun hg w hw => before19_spec Ap Ar capp capr (intN mp) (intN m) w (hsp (by ((simp only [List.cons_append, List.nil_append, GP, dstL, lookE, Nat.beq, cond, List.getElem?_cons_zero, List.getElem?_cons_succ, Option.bind_some, and_true, Bool.and_eq_true, Bool.or_eq_true, Bool.and_eq_false_iff, Bool.or_eq_false_iff, Bool.not_eq_true', Bool.not_eq_false', decide_eq_true_eq, decide_eq_false_iff_not] at hg); omega)) hw) (hsr hw) (hpl (by ((simp only [List.cons_append, List.nil_append, GP, dstL, lookE, Nat.beq, cond, List.getElem?_cons_zero, List.getElem?_cons_succ, Option.bind_some, and_true, Bool.and_eq_true, Bool.or_eq_true, Bool.and_eq_false_iff, Bool.or_eq_false_iff, Bool.not_eq_true', Bool.not_eq_false', decide_eq_true_eq, decide_eq_false_iff_not] at hg); omega))) (by omega)) ?_) | (show ∀ _ : Nat, T _ _ _ _ _; intro _))
    refine T_if rfl (fun h6 => ?_) (fun _ => ?_)
    · exfalso
      simp only [Bool.or_eq_true, Bool.and_eq_true, decide_eq_true_eq, Bool.not_eq_true'] at h6
      rcases h6 with h6 | ⟨h6, h7⟩
      · omega
      · rw [hbef (by omega)] at h7; cases h7
    have hrise := mvL_rise h1 h4 m hmm
    have hlt := hno.lt m hmm
    rw [hml]
    repeat' (first | refine d1 ?_ | refine dd ?_ | (show ∀ _ : Nat, T _ _ _ _ _; intro _))
    refine T_loopX (fun k : Nat => [(54, .int .i64 (k : Nat))]) (fun _ => [fz pm]) (fun k => k ≤ m.length) (fun k => m.length - k) 0 (Nat.zero_le _) ?_
    rintro k hk
    repeat' (first | refine d1 ?_ | refine dd ?_ | (show ∀ _ : Nat, T _ _ _ _ _; intro _))
    refine T_if rfl (fun h7 => ?_) (fun h7 => ?_)
    · simp only [decide_eq_true_eq] at h7
      have hkm : k < m.length := by omega
      obtain ⟨b2, o2, rfl, hrd2⟩ := hAr (by omega)
      obtain ⟨s, hs⟩ : ∃ s, m[k]? = some s := ⟨_, List.getElem?_eq_getElem hkm⟩
      have hsi : (intN m)[k]? = some (s : Int) := by unfold intN; rw [List.getElem?_map, hs]; rfl
      have hsn := hlt s (List.mem_of_getElem? hs)
      obtain ⟨sp, hsp9⟩ : ∃ sp : Nat, 0 < k → m[k - 1]? = some sp := by
        by_cases h0 : 0 < k
        · exact ⟨m[k - 1]'(by omega), fun _ => List.getElem?_eq_getElem (by omega)⟩
        · exact ⟨0, fun h => absurd h h0⟩
      have hup : 0 < k → sp < s := fun h0 => by
        have h9 := hrise (k - 1) (by omega) (by omega)
        rw [show k - 1 + 1 = k by omega, List.getD_eq_getElem?_getD, hsp9 h0, List.getD_eq_getElem?_getD, hs] at h9
        exact h9
      repeat' (first | refine d1 ?_ | refine dd ?_ | (show T _ (.ops _ (_ :: _) :: _) _ _ _; first | refine T_val rfl (Val.load rfl (fun hg => rdFz (p := pm) (u := .int .i64 (s : Nat)) (b := b2) (by rw [off1]; exact hrd2 k _ hsi))) rfl rfl rfl ?_ | refine T_valC rfl (Val.load rfl (fun hg => rdFz (p := pm) (u := .int .i64 (s : Nat)) (b := b2) (by rw [off1]; exact hrd2 k _ hsi))) rfl rfl rfl rfl rfl ?_ | refine T_val rfl (Val.load (v := .int .i64 (sp : Nat)) rfl (fun hg => rdFz (p := pm) (b := b2) (by ((simp only [List.cons_append, List.nil_append, GP, dstL, lookE, Nat.beq, cond, List.getElem?_cons_zero, List.getElem?_cons_succ, Option.bind_some, and_true, Bool.and_eq_true, Bool.or_eq_true, Bool.and_eq_false_iff, Bool.or_eq_false_iff, Bool.not_eq_true', Bool.not_eq_false', decide_eq_true_eq, decide_eq_false_iff_not] at hg); rw [show o2 + ((k : Int) - 1).toNat * 1 = o2 + (k - 1) by omega]; exact hrd2 (k - 1) _ (by unfold intN; rw [List.getElem?_map, hsp9 (by omega)]; rfl))))) rfl rfl rfl ?_ | refine T_valC rfl (Val.load (v := .int .i64 (sp : Nat)) rfl (fun hg => rdFz (p := pm) (b := b2) (by ((simp only [List.cons_append, List.nil_append, GP, dstL, lookE, Nat.beq, cond, List.getElem?_cons_zero, List.getElem?_cons_succ, Option.bind_some, and_true, Bool.and_eq_true, Bool.or_eq_true, Bool.and_eq_false_iff, Bool.or_eq_false_iff, Bool.not_eq_true', Bool.not_eq_false', decide_eq_true_eq, decide_eq_false_iff_not] at hg); rw [show o2 + ((k : Int) - 1).toNat * 1 = o2 + (k - 1) by omega]; exact hrd2 (k - 1) _ (by unfold intN; rw [List.getElem?_map, hsp9 (by omega)]; rfl))))) rfl rfl rfl rfl rfl ?_) | (show T _ (.run _ _ (_ :: _) _ _ :: _) _ _ _; first | refine rv rfl rfl rfl (Val.load rfl (fun hg => rdFz (p := pm) (u := .int .i64 (s : Nat)) (b := b2) (by rw [off1]; exact hrd2 k _ hsi))) rfl rfl rfl ?_ | refine rg rfl rfl rfl (Val.load rfl (fun hg => rdFz (p := pm) (u := .int .i64 (s : Nat)) (b := b2) (by rw [off1]; exact hrd2 k _ hsi))) rfl rfl rfl rfl rfl ?_ | refine rv rfl rfl rfl (Val.load (v := .int .i64 (sp : Nat)) rfl (fun hg => rdFz (p := pm) (b := b2) (by ((simp only [List.cons_append, List.nil_append, GP, dstL, lookE, Nat.beq, cond, List.getElem?_cons_zero, List.getElem?_cons_succ, Option.bind_some, and_true, Bool.and_eq_true, Bool.or_eq_true, Bool.and_eq_false_iff, Bool.or_eq_false_iff, Bool.not_eq_true', Bool.not_eq_false', decide_eq_true_eq, decide_eq_false_iff_not] at hg); rw [show o2 + ((k : Int) - 1).toNat * 1 = o2 + (k - 1) by omega]; exact hrd2 (k - 1) _ (by unfold intN; rw [List.getElem?_map, hsp9 (by omega)]; rfl))))) rfl rfl rfl ?_ | refine rg rfl rfl rfl (Val.load (v := .int .i64 (sp : Nat)) rfl (fun hg => rdFz (p := pm) (b := b2) (by ((simp only [List.cons_append, List.nil_append, GP, dstL, lookE, Nat.beq, cond, List.getElem?_cons_zero, List.getElem?_cons_succ, Option.bind_some, and_true, Bool.and_eq_true, Bool.or_eq_true, Bool.and_eq_false_iff, Bool.or_eq_false_iff, Bool.not_eq_true', Bool.not_eq_false', decide_eq_true_eq, decide_eq_false_iff_not] at hg); rw [show o2 + ((k : Int) - 1).toNat * 1 = o2 + (k - 1) by omega]; exact hrd2 (k - 1) _ (by unfold intN; rw [List.getElem?_map, hsp9 (by omega)]; rfl))))) rfl rfl rfl rfl rfl ?_) | (show ∀ _ : Nat, T _ _ _ _ _; intro _))
      refine T_if rfl (fun h8 => ?_) (fun _ => ?_)
      · exfalso
        simp only [Bool.or_eq_true, Bool.and_eq_true, decide_eq_true_eq] at h8
        rcases h8 with h8 | ⟨h8, h9⟩
        · omega
        · have := hup (by omega); omega
      repeat' (first | refine d1 ?_ | refine dd ?_ | (show ∀ _ : Nat, T _ _ _ _ _; intro _))
      exact T_backX (k + 1) (by omega) (by omega)
    · simp only [decide_eq_false_iff_not] at h7
      obtain rfl : k = m.length := by omega
      repeat' (first | refine d1 ?_ | refine dd ?_ | (show ∀ _ : Nat, T _ _ _ _ _; intro _))
      exact T_backX (i + 1) (by omega) (by omega)
  · repeat' (first | refine d1 ?_ | refine dd ?_ | (show T _ (.ops _ (_ :: _) :: _) _ _ _; first | refine T_call rfl rfl rfl rfl rfl (fun w hw => awake19_spec w (hst.cls hw)) ?_ | refine T_callC rfl rfl rfl rfl rfl rfl rfl (fun hg w hw => awake19_spec w (hst.cls hw)) ?_) | (show T _ (.run _ _ (_ :: _) _ _ :: _) _ _ _; first | refine rc rfl rfl rfl rfl rfl rfl rfl (fun w hw => awake19_spec w (hst.cls hw)) ?_ | refine rcG rfl rfl rfl rfl rfl rfl rfl rfl rfl (fun hg w hw => awake19_spec w (hst.cls hw)) ?_) | (show ∀ _ : Nat, T _ _ _ _ _; intro _) | (show T _ (.code .ret :: _) _ _ _; refine T_retV [] rfl (Hle.none _) ⟨rfl, rfl⟩))
theorem moves_met (os : Os) (args : Array Value) : laidMetH Tryz.prog Rows.multiwayMovesRow.laid ((World.doorLaid Tryz.prog 400 os).forCall (fun _ _ => 0) ⟨#[], args, []⟩).memory :=
  laidMetH_of_parts3 (fuel := 8) (laidMet_of_run' 8 (by as_aux_lemma => kernel_rfl) (by as_aux_lemma => kernel_rfl)) (by as_aux_lemma => kernel_rfl) (by as_aux_lemma => kernel_rfl)
theorem moves_lifted (os : Os) (started : os.Started) (H : Type) (enc : TypeId × Value → H) :
    ReturnsInHanded {} Tryz.checked os 12 .any (fun w args => (Rows.multiwayMovesSpec.pre enc Tryz.prog Tryz.f12 [] false w args ∧ laidMetH Tryz.prog Rows.multiwayMovesRow.laid w) ∧ sizedMet enc Tryz.prog Tryz.f12 (OpenSpec.ofChange Rows.multiwayMovesSpec) false w args)
      (Rows.multiwayMovesSpec.post enc Tryz.prog Tryz.f12 false true false false) := by
  refine returnsInHanded_of_change_and (C := Tryz.checked) (X := fun w _ => laidMetH Tryz.prog Rows.multiwayMovesRow.laid w) (fun _ _ _ hh h => h.of_heap hh) knob started (by as_aux_lemma => kernel_rfl) Tryz.func12
    (ChangeSpec.witness_shaped (enc := enc) (C := Tryz.checked) (os := os) (X := fun w _ => laidMetH Tryz.prog Rows.multiwayMovesRow.laid w) false (World.doorLaid Tryz.prog 400 os) #[.int .i64 0] 8 rfl (World.shaped_of_RefB (by as_aux_lemma => kernel_rfl) (by as_aux_lemma => kernel_rfl)) (by as_aux_lemma => kernel_rfl) (by as_aux_lemma => kernel_rfl) (by as_aux_lemma => kernel_rfl) (moves_met os _)) ?_
  intro W base args ds gs before hval0 hW _ _ hL _
  have hval : ∀ (j : Nat) t v, Tryz.f12.params[j]? = some t → args[j]? = some v → Value.okWide Tryz.prog W .any base t v := hval0
  have hstd := std_of (show laidMetH Tryz.prog laids W from hL)
  have hW' := hW
  obtain ⟨p, q, hA0, hV, rfl, hfz, hnd⟩ := hW
  have hA : DataW.TrodAll enc Tryz.prog W 0 (fun _ => true) true Tryz.f12.params.toList args.toList ds p := hA0
  obtain ⟨v0, vs0, d0, ds0, p0, q0, e0, rfl, rfl, h0, hA⟩ := trodAll_cons hA
  obtain ⟨rfl, rfl, rfl⟩ := trodAll_nil hA
  have ea : args = #[v0] := Array.ext' e0
  subst ea
  obtain ⟨z, rfl, hb_z⟩ := arg_int (hval 0 _ v0 rfl rfl) h0
  refine (movesLaw_spec z W hstd).calls.mono ?_
  rintro e W' ⟨v, A, rfl, ⟨rfl, _⟩, hb, _⟩
  exact ⟨_, rfl, law_post hW' rfl rfl laidOk (by intro t ht; simp only [show Tryz.f12.params.toList = [3] from rfl, List.mem_cons, List.mem_nil_iff, or_false] at ht; rcases ht with rfl <;> exact ⟨by as_aux_lemma => kernel_rfl, of_decide_eq_true (by as_aux_lemma => kernel_rfl)⟩) rfl Tryz.underlying4 hb⟩
theorem moves_j0 : Tryz.prog.inPlace 12 = Rows.multiwayMovesRow.inPlace := by as_aux_lemma => kernel_rfl
theorem moves_j1 : Tryz.prog.unfollowed 12 = Rows.multiwayMovesRow.unfollowed := by as_aux_lemma => kernel_rfl
theorem moves_j2 : Tryz.prog.recurses 12 = Rows.multiwayMovesRow.recurses := by as_aux_lemma => kernel_rfl
theorem moves_j3 : Tryz.prog.varsNamed 12 = Rows.multiwayMovesRow.named := by as_aux_lemma => kernel_rfl
theorem moves_joined : joinedFacts Tryz.prog 12 Tryz.f12 Rows.multiwayMovesSpec Rows.multiwayMovesRow = true := by
  unfold joinedFacts
  rw [moves_j0, moves_j1, moves_j2, moves_j3, io_enter, io_lifts, io_make]
  kernel_rfl
theorem moves_holds : Rows.MultiwayMovesSaid :=
  OpenClaim.holds_of_wide 12 Tryz.f12 rfl rfl rfl rfl rfl rfl rfl ⟨rfl, rfl, rfl, rfl, rfl⟩ rfl rfl rfl rfl rfl (by as_aux_lemma => kernel_rfl) Tryz.func12 moves_joined
    (of_decide_eq_true (by as_aux_lemma => kernel_rfl)) (by unfold Func.isWrapper; first | (rw [if_pos (by decide +kernel)]; kernel_rfl) | (rw [if_neg (by decide +kernel)]; exact ⟨rfl, rfl⟩))
    (fun os started H enc _ => moves_lifted os started H enc)
theorem moves_card : Rows.MultiwayMovesCardSaid :=
  Claim7.holds_tied_plain_at .later [] [.data, .data, .data, .sentinel, .sentinel] true (true, "8da3727bd41b5459b46e191c9a7204ac1b54c7258f68ddd1a33546be5efdd15c") true
    moves_holds (fun _ h => by cases h) (by as_aux_lemma => kernel_rfl) (fun _ h => by cases h) multiwayMoves_row_tie rfl ⟨rfl, rfl⟩ io_main rfl
    (fun f fn hf hfn => by
      obtain rfl : f = 12 := Option.some.inj ((show Tryz.prog.funcNamed "apograph/apographlaw19.MultiwayMoves" = some 12 by as_aux_lemma => kernel_rfl).symm.trans hf) |>.symm
      obtain rfl : fn = Tryz.f12 := (Option.some.inj (Tryz.func12.symm.trans hfn)).symm
      exact ⟨by as_aux_lemma => kernel_rfl, fun j t ht => by
        have ht' : [3][j]? = some t := by rw [Tryz.params12] at ht; simpa using ht
        have hm := List.mem_of_getElem? ht'
        simp only [List.mem_cons, List.mem_nil_iff, or_false] at hm
        rcases hm with rfl <;> exact (show Tryz.prog.wantsStandIn _ = false by as_aux_lemma => kernel_rfl)⟩)
    (by as_aux_lemma => kernel_rfl)
#print axioms moves_card
end Go.Proofs.YtofikdpbagnjbaaGreatDoor
