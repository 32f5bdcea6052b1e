/- The reference's metric and matrix, walked. -/
import Derived.Test.YtiglobijdegjdaaGreatDoorWalkQ
namespace Go.Proofs.YtiglobijdegjdaaGreatDoor

def validV (c : Costs) (l : List Tok) (m : Int) : Int := if costE c ≠ 0 then 1 else if m < l.length then 4 else tokErr c l
theorem tokErr_bad {c : Costs} {l : List Tok} {t : Tok} (h : t ∈ l) (ht : tokE t ≠ 0) : tokErr c l = 1 := by
  refine (tokErr_01 c l).resolve_left fun e => ht ((tokErr_ok e).2 t h)
theorem tokErr_all {c : Costs} {l : List Tok} (hc : costE c = 0) (h : ∀ j, j < l.length → tokE (tkA l j) = 0) : tokErr c l = 0 := by
  unfold tokErr badL
  rw [if_neg]
  simp only [hc, decide_true, Bool.not_true, Bool.false_or, List.any_eq_true, not_exists, not_and, Bool.not_eq_true', Bool.not_eq_true, Bool.not_eq_false', Bool.not_eq_false, decide_eq_true_eq]
  intro t ht
  obtain ⟨j, hj, e⟩ := List.getElem_of_mem ht
  have := h j hj
  rw [Option.some.inj ((tkA_get hj).symm.trans ((List.getElem?_eq_getElem hj).trans (congrArg some e)))] at this
  simpa using this
theorem validRef_spec (c : Costs) (A : Option Addr) (n ca : Nat) (l : List Tok) (m : Int) (w : World) (hl : Src w 6 A n (l.flatMap Tok.cells)) (hn : l.length = n) (hnb : n ≤ 9223372036854775807) :
    Spec Tryz.prog 62 [c.val, .slice A n ca, .int .i64 m] w (fun v R => v = .int .i64 (validV c l m) ∧ R = []) := by
  refine spec_of sg Tryz.func62 rfl rfl rfl ?_
  refine T_op (OpT.box (cs := c.cells) rfl rfl rfl rfl rfl rfl rfl (fun pc => ?_))
  repeat' (first | refine d1 ?_ | refine dd ?_ | (show T _ (.ops _ (_ :: _) :: _) _ _ _; first | refine T_call rfl rfl rfl rfl rfl (fun w hw => costRef_spec c w) ?_ | refine T_callC rfl rfl rfl rfl rfl rfl rfl (fun hg w hw => costRef_spec c w) ?_) | (show T _ (.run _ _ (_ :: _) _ _ :: _) _ _ _; first | refine rc rfl rfl rfl rfl rfl rfl rfl (fun w hw => costRef_spec c w) ?_ | refine rcG rfl rfl rfl rfl rfl rfl rfl rfl rfl (fun hg w hw => costRef_spec c w) ?_) | (show ∀ _ : Nat, T _ _ _ _ _; intro _))
  refine T_if rfl (fun h => ?_) (fun h => ?_)
  · simp only [Bool.not_eq_true', decide_eq_false_iff_not] at h
    repeat' (first | refine d1 ?_ | refine dd ?_ | (show ∀ _ : Nat, T _ _ _ _ _; intro _) | (show T _ (.code .ret :: _) _ _ _; refine T_retV [] rfl (Hle.none _) ⟨?_, rfl⟩))
    unfold validV; rw [if_pos h]; rfl
  simp only [Bool.not_eq_false', decide_eq_true_eq] at h
  repeat' (first | refine d1 ?_ | refine dd ?_ | (show ∀ _ : Nat, T _ _ _ _ _; intro _))
  refine T_if rfl (fun h2 => ?_) (fun h2 => ?_)
  · simp only [decide_eq_true_eq] at h2
    repeat' (first | refine d1 ?_ | refine dd ?_ | (show ∀ _ : Nat, T _ _ _ _ _; intro _) | (show T _ (.code .ret :: _) _ _ _; refine T_retV [] rfl (Hle.none _) ⟨?_, rfl⟩))
    unfold validV; rw [if_neg (by omega), if_pos (by omega)]; rfl
  simp only [decide_eq_false_iff_not] at h2
  repeat' (first | refine d1 ?_ | refine dd ?_ | (show ∀ _ : Nat, T _ _ _ _ _; intro _))
  refine T_loopX (fun k : Nat => [(7, .int .i64 k)]) (fun _ => [blk pc c.cells 23]) (fun k => k ≤ n ∧ ∀ j, j < k → tokE (tkA l j) = 0) (fun k => n - k) 0 ⟨by omega, fun j h => by omega⟩ ?_
  rintro k ⟨hk, hok⟩
  repeat' (first | refine d1 ?_ | refine dd ?_ | (show ∀ _ : Nat, T _ _ _ _ _; intro _))
  refine T_if rfl (fun h3 => ?_) (fun h3 => ?_)
  · simp only [decide_eq_true_eq] at h3
    have hkn : k < n := by omega
    obtain ⟨ba, oa, rfl⟩ := hl.base (by omega)
    have hr1 : RdC w ba (oa + (k : Int).toNat * 6) (tkA l k).cells := hl.getT hkn (tkA_get (by omega))
    repeat' (first | refine d1 ?_ | refine dd ?_ | (show T _ (.ops _ (_ :: _) :: _) _ _ _; first | refine T_call rfl rfl rfl rfl rfl (fun w hw => tokRef_spec (tkA l k) w) ?_ | refine T_callC rfl rfl rfl rfl rfl rfl rfl (fun hg w hw => tokRef_spec (tkA l k) w) ?_) | (show T _ (.run _ _ (_ :: _) _ _ :: _) _ _ _; first | refine rc rfl rfl rfl rfl rfl rfl rfl (fun w hw => tokRef_spec (tkA l k) w) ?_ | refine rcG rfl rfl rfl rfl rfl rfl rfl rfl rfl (fun hg w hw => tokRef_spec (tkA l k) w) ?_) | (show ∀ _ : Nat, T _ _ _ _ _; intro _))
    refine T_if rfl (fun h4 => ?_) (fun h4 => ?_)
    · simp only [Bool.not_eq_true', decide_eq_false_iff_not] at h4
      repeat' (first | refine d1 ?_ | refine dd ?_ | (show ∀ _ : Nat, T _ _ _ _ _; intro _) | (show T _ (.code .ret :: _) _ _ _; refine T_retV [] rfl (Hle.none _) ⟨?_, rfl⟩))
      unfold validV; rw [if_neg (by omega), if_neg (by omega), tokErr_bad (List.mem_of_getElem? (tkA_get (by omega))) h4]; rfl
    · simp only [Bool.not_eq_false', decide_eq_true_eq] at h4
      repeat' (first | refine d1 ?_ | refine dd ?_ | (show ∀ _ : Nat, T _ _ _ _ _; intro _))
      refine T_backX (k + 1) ⟨by omega, fun j hj => ?_⟩ (by omega)
      rcases Nat.lt_or_ge j k with h5 | h5
      · exact hok j h5
      · rw [show j = k by omega]; exact h4
  · simp only [decide_eq_false_iff_not] at h3
    repeat' (first | refine d1 ?_ | refine dd ?_ | (show ∀ _ : Nat, T _ _ _ _ _; intro _) | (show T _ (.code .ret :: _) _ _ _; refine T_retV [] rfl (Hle.none _) ⟨?_, rfl⟩))
    unfold validV; rw [if_neg (by omega), if_neg (by omega), tokErr_all h fun j hj => hok j (by omega)]; rfl
theorem matC_pair {c : Costs} {l : List Tok} {i k : Nat} (hi : i < l.length) (hk : k < l.length) : matC c l i k = pairC c (tkA l i) (tkA l k) := by
  unfold matC
  by_cases h : i = k
  · subst h; rw [if_pos rfl, pairC_self c _ _ rfl]
  · rw [if_neg h, if_neg (by omega)]
    rcases Nat.lt_or_ge i k with h1 | h1
    · rw [Nat.min_eq_left (by omega), Nat.max_eq_right (by omega)]
    · rw [Nat.min_eq_right (by omega), Nat.max_eq_left (by omega), pairC_swap]
theorem valV_snoc (f : Nat → Int) (k : Nat) : valV f (k + 1) = valV f k ++ [.int .i64 (f k)] := by unfold valV; rw [List.range_succ, List.map_append]; rfl
theorem matrixRef_spec (c : Costs) (A : Option Addr) (n ca : Nat) (l : List Tok) (w : World) (hl : Src w 6 A n (l.flatMap Tok.cells)) (hn : l.length = n) (hnb : n ≤ 9223372036854775807) :
    Spec Tryz.prog 19 [c.val, .slice A n ca] w (fun v R => ∃ x : Value, True ∧ v = .tuple #[x, .int .i64 (matrixV c l).2] ∧ R = [dat [x] [rowsD (matrixV c l).1]]) := by
  refine spec_of sg Tryz.func19 rfl rfl rfl ?_
  refine T_op (OpT.box (cs := c.cells) rfl rfl rfl rfl rfl rfl rfl (fun pc => ?_))
  repeat' (first | refine d1 ?_ | refine dd ?_ | (show T _ (.ops _ (_ :: _) :: _) _ _ _; first | refine T_call rfl rfl rfl rfl rfl (fun w hw => validRef_spec c A n ca l 256 w (rdSrc hl w ‹_›) hn hnb) ?_ | refine T_callC rfl rfl rfl rfl rfl rfl rfl (fun hg w hw => validRef_spec c A n ca l 256 w (rdSrc hl w ‹_›) hn hnb) ?_) | (show T _ (.run _ _ (_ :: _) _ _ :: _) _ _ _; first | refine rc rfl rfl rfl rfl rfl rfl rfl (fun w hw => validRef_spec c A n ca l 256 w (rdSrc hl w ‹_›) hn hnb) ?_ | refine rcG rfl rfl rfl rfl rfl rfl rfl rfl rfl (fun hg w hw => validRef_spec c A n ca l 256 w (rdSrc hl w ‹_›) hn hnb) ?_) | (show ∀ _ : Nat, T _ _ _ _ _; intro _))
  refine T_if rfl (fun h => ?_) (fun h => ?_)
  · simp only [Bool.not_eq_true', decide_eq_false_iff_not] at h
    have e : matrixV c l = ([], validV c l 256) := by
      unfold matrixV
      unfold validV at h ⊢
      by_cases h1 : costE c ≠ 0
      · rw [if_pos h1, if_pos h1]
      rw [if_neg h1] at h ⊢
      rw [if_neg h1]
      by_cases h2 : 256 < l.length
      · rw [if_pos h2, if_pos (by omega)]
      have h3 : ¬ (256 : Int) < l.length := by omega
      rw [if_neg h3] at h ⊢
      rw [if_neg h2, if_pos h, (tokErr_01 c l).resolve_left h]
    repeat' (first | refine d1 ?_ | refine dd ?_ | (show ∀ _ : Nat, T _ _ _ _ _; intro _))
    rename_i b0
    refine T_retV _ rfl ((dat_blkV (sz := 1) (n := 0) rfl (by omega)).trans (show Hle (dat [.slice (some ⟨b0, 0, none⟩) 0 0] [rowsD []] :: _) [dat [.slice (some ⟨b0, 0, none⟩) 0 0] [rowsD []]] from Hle.sub)) ⟨.slice (some ⟨b0, 0, none⟩) 0 0, trivial, by rw [e]; rfl, by rw [e]⟩
  simp only [Bool.not_eq_false', decide_eq_true_eq] at h
  have hc : costE c = 0 := by unfold validV at h; split at h <;> omega
  have hn2 : ¬ 256 < n := by unfold validV at h; rw [if_neg (by omega)] at h; split at h <;> omega
  have ht0 : tokErr c l = 0 := by unfold validV at h; rw [if_neg (by omega), if_neg (by omega)] at h; exact h
  have hmv : matrixV c l = (matRows c l, 0) := by unfold matrixV; rw [if_neg (by omega), if_neg (by omega), if_neg (by omega)]
  repeat' (first | refine d1 ?_ | refine dd ?_ | (show ∀ _ : Nat, T _ _ _ _ _; intro _))
  rename_i b0
  refine T_le (H' := [dat [] [], row 41 1 (some ⟨b0, 0, none⟩) 0 0 [], blk pc c.cells 23]) ((Hle.weaken (i := 0) rfl (blk_row (sz := 1) (n := 0) rfl (by simp only [maxLen]; omega)) rfl).trans (dat_nil _)) ?_
  refine T_loopX (fun x : Nat × Nat × Nat × List Value => [(8, .int .i64 x.1), (7, .slice (some ⟨x.2.1, 0, none⟩) x.1 x.2.2.1)]) (fun x => [dat x.2.2.2 (((matRows c l).take x.1).map intsD), row 41 1 (some ⟨x.2.1, 0, none⟩) x.2.2.1 x.1 x.2.2.2, blk pc c.cells 23]) (fun x => x.1 ≤ n) (fun x => n - x.1) (0, b0, 0, []) (Nat.zero_le _) ?_
  rintro ⟨i, g, cap, vs⟩ hi
  dsimp only at hi ⊢
  repeat' (first | refine d1 ?_ | refine dd ?_ | (show ∀ _ : Nat, T _ _ _ _ _; intro _))
  refine T_if rfl (fun h3 => ?_) (fun h3 => ?_)
  · simp only [decide_eq_true_eq] at h3
    repeat' (first | refine d1 ?_ | refine dd ?_ | (show ∀ _ : Nat, T _ _ _ _ _; intro _))
    rename_i b1
    obtain ⟨ba, oa, rfl⟩ := hl.base (by omega)
    have hr1 : RdC w ba (oa + (i : Int).toNat * 6) (tkA l i).cells := hl.getT (by omega) (tkA_get (by omega))
    have ki := tokE_ok ((tokErr_ok ht0).2 _ (List.mem_of_getElem? (tkA_get (l := l) (i := i) (by omega))))
    refine T_le (H' := [row 3 1 (some ⟨b1, 0, none⟩) 0 0 (valV (matC c l i) 0), dat vs (((matRows c l).take i).map intsD), row 41 1 (some ⟨g, 0, none⟩) cap i vs, blk pc c.cells 23]) (Hle.weaken (i := 0) rfl (blk_row (sz := 1) (n := 0) rfl (by simp only [maxLen]; omega)) rfl) ?_
    refine T_loopX (fun x : Nat × Nat × Nat => [(10, .int .i64 x.1), (9, .slice (some ⟨x.2.1, 0, none⟩) x.1 x.2.2)]) (fun x => [row 3 1 (some ⟨x.2.1, 0, none⟩) x.2.2 x.1 (valV (matC c l i) x.1), dat vs (((matRows c l).take i).map intsD), row 41 1 (some ⟨g, 0, none⟩) cap i vs, blk pc c.cells 23]) (fun x => x.1 ≤ n) (fun x => n - x.1) (0, b1, 0) (Nat.zero_le _) ?_
    rintro ⟨k, g2, cap2⟩ hk
    dsimp only at hk ⊢
    repeat' (first | refine d1 ?_ | refine dd ?_ | (show ∀ _ : Nat, T _ _ _ _ _; intro _))
    refine T_if rfl (fun h4 => ?_) (fun h4 => ?_)
    · simp only [decide_eq_true_eq] at h4
      have hr2 : RdC w ba (oa + (k : Int).toNat * 6) (tkA l k).cells := hl.getT (by omega) (tkA_get (by omega))
      have kk := tokE_ok ((tokErr_ok ht0).2 _ (List.mem_of_getElem? (tkA_get (l := l) (i := k) (by omega))))
      have hm : matC c l i k = pairC c (tkA l i) (tkA l k) := matC_pair (by omega) (by omega)
      repeat' (first | refine d1 ?_ | refine dd ?_ | (show ∀ _ : Nat, T _ _ _ _ _; intro _))
      refine rsH [blk pc c.cells 23] 1000 [0, 1, 2, 3, 4, 5, 6, 7, 8, 9, 10, 11, 12, 13] ?_
      repeat' (first | refine d1 ?_ | refine dd ?_ | (show T _ (.ops _ (_ :: _) :: _) _ _ _; first | refine T_call rfl rfl rfl rfl rfl (fun w hw => pairRefC_spec c (tkA l i) (tkA l k) hc ki.1 kk.1 (by omega) (by omega) w) ?_ | refine T_callC rfl rfl rfl rfl rfl rfl rfl (fun hg w hw => pairRefC_spec c (tkA l i) (tkA l k) hc ki.1 kk.1 (by omega) (by omega) w) ?_) | (show T _ (.run _ _ (_ :: _) _ _ :: _) _ _ _; first | refine rc rfl rfl rfl rfl rfl rfl rfl (fun w hw => pairRefC_spec c (tkA l i) (tkA l k) hc ki.1 kk.1 (by omega) (by omega) w) ?_ | refine rcG rfl rfl rfl rfl rfl rfl rfl rfl rfl (fun hg w hw => pairRefC_spec c (tkA l i) (tkA l k) hc ki.1 kk.1 (by omega) (by omega) w) ?_ | refine ro rfl rfl (OpT.litW rfl rfl rfl rfl rfl rfl rfl rfl rfl rfl rfl (fun b3 => ⟨fun _ => Hle.sub, ?_⟩)) | refine ro rfl rfl (OpT.append rfl rfl rfl rfl rfl rfl rfl rfl rfl rfl (fun w hw => Src.own hw rfl) rfl (by dsimp only; omega) (by omega) (fun A' cap' hA' => ⟨fun _ => Hle.sub, ?_⟩))) | (show ∀ _ : Nat, T _ _ _ _ _; intro _))
      obtain ⟨g', rfl⟩ := hA' (by omega)
      refine T_backX (k + 1, g', cap') (Nat.succ_le_of_lt (by omega)) (by dsimp only; omega) (hG := ?_)
      dsimp only
      rw [valV_snoc, hm]
      exact Hle.tail _ _
    · simp only [decide_eq_false_iff_not] at h4
      have hkn : k = n := by omega
      subst hkn
      repeat' (first | refine d1 ?_ | refine dd ?_ | (show ∀ _ : Nat, T _ _ _ _ _; intro _))
      rename_i b2
      refine T_op (OpT.append rfl rfl rfl rfl rfl rfl rfl rfl rfl rfl (fun w hw => Src.own hw rfl) rfl (by dsimp only; omega) (by omega) (fun A' cap' hA' => ?_))
      obtain ⟨g', rfl⟩ := hA' (by omega)
      repeat' (first | refine d1 ?_ | refine dd ?_ | (show ∀ _ : Nat, T _ _ _ _ _; intro _))
      refine T_backX (i + 1, g', cap', vs ++ [.slice (some ⟨g2, 0, none⟩) k cap2]) (Nat.succ_le_of_lt (by omega)) (by dsimp only; omega) (hG := ?_)
      have e : ((matRows c l).take (i + 1)).map intsD = ((matRows c l).take i).map intsD ++ [D.s 1 ((valV (matC c l i) k).map .v)] := by
        rw [List.take_add_one, List.map_append]
        congr 1
        unfold matRows
        rw [List.getElem?_map, List.getElem?_range (by omega)]
        simp only [Option.map_some, Option.toList_some, List.map_cons, List.map_nil, intsD, valV, List.map_map, hn]
        rfl
      dsimp only
      rw [e]
      exact (Hle.tail _ _).trans (dat_rowV.trans dat_join)
  · simp only [decide_eq_false_iff_not] at h3
    have hin : i = n := by omega
    subst hin
    repeat' (first | refine d1 ?_ | refine dd ?_ | (show ∀ _ : Nat, T _ _ _ _ _; intro _))
    have e : (matRows c l).take i = matRows c l := List.take_of_length_le (by unfold matRows; simp; omega)
    rw [e]
    refine T_retV _ rfl (((Hle.perm (List.Perm.swap _ _ _)).trans dat_row).trans (show Hle _ [dat [.slice (some ⟨g, 0, none⟩) i cap] [D.s 1 ((matRows c l).map intsD)]] from Hle.sub)) ⟨.slice (some ⟨g, 0, none⟩) i cap, trivial, ?_, ?_⟩
    · rw [hmv]; rfl
    · rw [hmv]; rfl
end Go.Proofs.YtiglobijdegjdaaGreatDoor
