/- Walks: gaps, clusters, words, tokens, by the program. -/
import Derived.Test.YtiglobijdegjdaaDoorWalkC
namespace Go.Proofs.YtiglobijdegjdaaDoor
open Go.RowKit Go.Shelf Go.Proofs
set_option maxRecDepth 100000
set_option maxHeartbeats 1000000

theorem itoa_spec' (n : Int) (h : 1 ≤ n ∧ n ≤ 64) (w : World) : Spec Tryd.prog 64 [.int .i64 n] w (fun v A => v = .string ⟨(Lib.decDigits n.toNat).toArray⟩ ∧ A = []) := by
  have := itoa_spec n.toNat (by omega) w
  rwa [Int.toNat_of_nonneg (by omega)] at this
theorem gapPrg_spec (s : ByteArray) (hs : s.size ≤ 65536) (w : World) (hw : Std w) : Spec Tryd.prog 54 [.string s] w (fun v A => v = .bool (gappedB s) ∧ A = []) := by
  refine spec_of sg Tryd.func54 rfl rfl rfl ?_
  repeat' (first | refine d1 ?_ | refine dd ?_ | (show ∀ _ : Nat, T _ _ _ _ _; intro _))
  refine T_if rfl (fun h => ?_) (fun h => ?_)
  · repeat' (first | refine d1 ?_ | refine dd ?_ | (show ∀ _ : Nat, T _ _ _ _ _; intro _) | (show T _ (.code .ret :: _) _ _ _; refine T_retV [] rfl (Hle.refl _) ⟨congrArg Value.bool ?_, rfl⟩))
    cases hg : gappedB s with
    | false => rfl
    | true =>
      obtain ⟨h1, h2, h3⟩ := gap_frame hg
      simp only [Bool.or_eq_true, decide_eq_true_eq, Bool.not_eq_true', decide_eq_false_iff_not] at h
      omega
  simp only [Bool.or_eq_false_iff, decide_eq_false_iff_not, Bool.not_eq_false', decide_eq_true_eq] at h
  have hsz : (s.extract (1 : Int).toNat ((s.size : Int) - 1).toNat).size ≤ 65536 := by
    rw [ByteArray.size_extract]; omega
  have hin : s.extract (1 : Int).toNat ((s.size : Int) - 1).toNat = gapInner s := by
    unfold gapInner
    congr 1
    omega
  repeat' (first | refine d1 ?_ | refine dd ?_ | (show ∀ _ : Nat, T _ _ _ _ _; intro _))
  rw [hin] at hsz ⊢
  refine T_op (OpT.call rfl rfl rfl rfl rfl (fun w hc => atoi_spec (gapInner s) (by omega) w (hw.cls hc)) ?_)
  rintro v A (⟨⟨n, hn, rfl⟩, rfl⟩ | ⟨hn, ⟨n, tp, p, rfl⟩, rfl⟩)
  · have hlaw := gap_ok hn
    have hd := decDigits_len n.toNat
    repeat' (first | refine d1 ?_ | refine dd ?_ | (show T _ (.ops _ (_ :: _) :: _) _ _ _; first | refine T_val rfl (Val.nilq rfl) rfl rfl rfl ?_ | refine T_call rfl rfl rfl rfl rfl (fun w hw => itoa_spec' n (by ((simp only [List.cons_append, List.nil_append, GP, dstL, lookE, Nat.beq, cond, List.getElem?_cons_zero, List.getElem?_cons_succ, Option.bind_some, and_true, Bool.and_eq_true, Bool.or_eq_true, Bool.and_eq_false_iff, Bool.or_eq_false_iff, Bool.not_eq_true', Bool.not_eq_false', decide_eq_true_eq, decide_eq_false_iff_not] at hg); omega)) w) ?_ | refine T_callC rfl rfl rfl rfl rfl rfl rfl (fun hg w hw => itoa_spec' n (by ((simp only [List.cons_append, List.nil_append, GP, dstL, lookE, Nat.beq, cond, List.getElem?_cons_zero, List.getElem?_cons_succ, Option.bind_some, and_true, Bool.and_eq_true, Bool.or_eq_true, Bool.and_eq_false_iff, Bool.or_eq_false_iff, Bool.not_eq_true', Bool.not_eq_false', decide_eq_true_eq, decide_eq_false_iff_not] at hg); omega)) w) ?_ | refine T_vcC rfl rfl rfl rfl rfl rfl rfl (fun hg => by ((simp only [List.cons_append, List.nil_append, GP, dstL, lookE, Nat.beq, cond, List.getElem?_cons_zero, List.getElem?_cons_succ, Option.bind_some, and_true, Bool.and_eq_true, Bool.or_eq_true, Bool.and_eq_false_iff, Bool.or_eq_false_iff, Bool.not_eq_true', Bool.not_eq_false', decide_eq_true_eq, decide_eq_false_iff_not] at hg); simp [ByteArray.size]; omega)) ?_) | (show T _ (.run _ _ (_ :: _) _ _ :: _) _ _ _; first | refine rc rfl rfl rfl rfl rfl rfl rfl (fun w hw => itoa_spec' n (by ((simp only [List.cons_append, List.nil_append, GP, dstL, lookE, Nat.beq, cond, List.getElem?_cons_zero, List.getElem?_cons_succ, Option.bind_some, and_true, Bool.and_eq_true, Bool.or_eq_true, Bool.and_eq_false_iff, Bool.or_eq_false_iff, Bool.not_eq_true', Bool.not_eq_false', decide_eq_true_eq, decide_eq_false_iff_not] at hg); omega)) w) ?_ | refine rcG rfl rfl rfl rfl rfl rfl rfl rfl rfl (fun hg w hw => itoa_spec' n (by ((simp only [List.cons_append, List.nil_append, GP, dstL, lookE, Nat.beq, cond, List.getElem?_cons_zero, List.getElem?_cons_succ, Option.bind_some, and_true, Bool.and_eq_true, Bool.or_eq_true, Bool.and_eq_false_iff, Bool.or_eq_false_iff, Bool.not_eq_true', Bool.not_eq_false', decide_eq_true_eq, decide_eq_false_iff_not] at hg); omega)) w) ?_) | (show ∀ _ : Nat, T _ _ _ _ _; intro _) | (show T _ (.code .ret :: _) _ _ _; refine T_retV [] rfl (Hle.none _) ⟨congrArg Value.bool ?_, rfl⟩))
    rw [← hlaw, Bool.true_and]; rfl
  · have hlaw := gap_no hn
    have hd := decDigits_len n.toNat
    repeat' (first | refine d1 ?_ | refine dd ?_ | (show T _ (.ops _ (_ :: _) :: _) _ _ _; first | refine T_val rfl (Val.nilq rfl) rfl rfl rfl ?_ | refine T_call rfl rfl rfl rfl rfl (fun w hw => itoa_spec' n (by ((simp only [List.cons_append, List.nil_append, GP, dstL, lookE, Nat.beq, cond, List.getElem?_cons_zero, List.getElem?_cons_succ, Option.bind_some, and_true, Bool.and_eq_true, Bool.or_eq_true, Bool.and_eq_false_iff, Bool.or_eq_false_iff, Bool.not_eq_true', Bool.not_eq_false', decide_eq_true_eq, decide_eq_false_iff_not] at hg); omega)) w) ?_ | refine T_callC rfl rfl rfl rfl rfl rfl rfl (fun hg w hw => itoa_spec' n (by ((simp only [List.cons_append, List.nil_append, GP, dstL, lookE, Nat.beq, cond, List.getElem?_cons_zero, List.getElem?_cons_succ, Option.bind_some, and_true, Bool.and_eq_true, Bool.or_eq_true, Bool.and_eq_false_iff, Bool.or_eq_false_iff, Bool.not_eq_true', Bool.not_eq_false', decide_eq_true_eq, decide_eq_false_iff_not] at hg); omega)) w) ?_ | refine T_vcC rfl rfl rfl rfl rfl rfl rfl (fun hg => by ((simp only [List.cons_append, List.nil_append, GP, dstL, lookE, Nat.beq, cond, List.getElem?_cons_zero, List.getElem?_cons_succ, Option.bind_some, and_true, Bool.and_eq_true, Bool.or_eq_true, Bool.and_eq_false_iff, Bool.or_eq_false_iff, Bool.not_eq_true', Bool.not_eq_false', decide_eq_true_eq, decide_eq_false_iff_not] at hg); simp [ByteArray.size]; omega)) ?_) | (show T _ (.run _ _ (_ :: _) _ _ :: _) _ _ _; first | refine rc rfl rfl rfl rfl rfl rfl rfl (fun w hw => itoa_spec' n (by ((simp only [List.cons_append, List.nil_append, GP, dstL, lookE, Nat.beq, cond, List.getElem?_cons_zero, List.getElem?_cons_succ, Option.bind_some, and_true, Bool.and_eq_true, Bool.or_eq_true, Bool.and_eq_false_iff, Bool.or_eq_false_iff, Bool.not_eq_true', Bool.not_eq_false', decide_eq_true_eq, decide_eq_false_iff_not] at hg); omega)) w) ?_ | refine rcG rfl rfl rfl rfl rfl rfl rfl rfl rfl (fun hg w hw => itoa_spec' n (by ((simp only [List.cons_append, List.nil_append, GP, dstL, lookE, Nat.beq, cond, List.getElem?_cons_zero, List.getElem?_cons_succ, Option.bind_some, and_true, Bool.and_eq_true, Bool.or_eq_true, Bool.and_eq_false_iff, Bool.or_eq_false_iff, Bool.not_eq_true', Bool.not_eq_false', decide_eq_true_eq, decide_eq_false_iff_not] at hg); omega)) w) ?_) | (show ∀ _ : Nat, T _ _ _ _ _; intro _) | (show T _ (.code .ret :: _) _ _ _; refine T_retV [] rfl (Hle.none _) ⟨congrArg Value.bool ?_, rfl⟩))
    rw [hlaw, Bool.false_and, Bool.false_and]; rfl

/-! ### Clusters -/
theorem clusters_spec (s : ByteArray) (w : World) : Spec Tryd.prog 82 [.string s] w (fun v A => ∃ b : Nat, True ∧ v = .func (.func 92) #[] #[.pointer (some ⟨b, 0, none⟩)] ∧ A = [blk b [.string s] 9]) := by
  refine spec_of sg Tryd.func82 rfl rfl rfl ?_
  repeat' (first | (show T _ (.ops _ (⟨_, .box _ _, _, _, _, _⟩ :: _) :: _) _ _ _; refine T_op (OpT.box (cs := [.string s]) rfl rfl rfl rfl rfl rfl rfl (fun _ => ?_))) | refine d1 ?_ | refine dd ?_ | (show ∀ _ : Nat, T _ _ _ _ _; intro _) | (show T _ (.code .ret :: _) _ _ _; refine T_retV _ rfl (Hle.refl _) ⟨_, trivial, rfl, rfl⟩))
theorem clusters_iter (s : ByteArray) (b : Nat) (hs : s.size ≤ 65536) : Iter Tryd.prog 92 [] [.pointer (some ⟨b, 0, none⟩)] [blk b [.string s] 9] (clusterVs s) := by
  refine iter_of sg Tryd.func92 rfl rfl rfl ?_
  intro w0 l GQ X Hj hY h0
  show T _ _ _ _ (blk b [.string s] 9 :: Hj)
  repeat' (first | refine d1 ?_ | refine dd ?_ | (show ∀ _ : Nat, T _ _ _ _ _; intro _))
  refine T_loop (fun x : Nat × List HA => [(0, yv l), (1, .pointer (some ⟨b, 0, none⟩)), (3, .int .i64 ((stp s x.1).1 : Nat)), (4, .int .i64 ((x.1 : Int) + 1))]) (fun x => blk b [.string s] 9 :: x.2) (fun x => x.1 ≤ s.size ∧ GQ (stp s x.1).2.length x.2) (fun x => s.size - x.1) (0, Hj) ⟨Nat.zero_le _, h0⟩ ⟨rfl, rfl, rfl, rfl, trivial⟩ (Hle.refl _) ?_
  rintro ⟨m, H'⟩ ⟨hm, hG⟩
  have hle := stp_le s m
  dsimp only at hm hG ⊢
  repeat' (first | refine d1 ?_ | refine dd ?_ | (show ∀ _ : Nat, T _ _ _ _ _; intro _))
  refine T_if rfl (fun h => ?_) (fun h => ?_)
  · simp only [decide_eq_true_eq] at h
    repeat' (first | refine d1 ?_ | refine dd ?_ | (show T _ (.ops _ (_ :: _) :: _) _ _ _; first | refine T_call rfl rfl rfl rfl rfl (fun w hw => kindPrg_spec _ (byteAt_bd _ _) w) ?_ | refine T_callC rfl rfl rfl rfl rfl rfl rfl (fun hg w hw => kindPrg_spec _ (byteAt_bd _ _) w) ?_ | refine T_call rfl rfl rfl rfl rfl (fun w hw => rightPrg_spec _ _ _ (by ((simp only [List.cons_append, List.nil_append, GP, dstL, lookE, Nat.beq, cond, List.getElem?_cons_zero, List.getElem?_cons_succ, Option.bind_some, and_true, Bool.and_eq_true, Bool.or_eq_true, Bool.and_eq_false_iff, Bool.or_eq_false_iff, Bool.not_eq_true', Bool.not_eq_false', decide_eq_true_eq, decide_eq_false_iff_not] at hg); omega)) w) ?_ | refine T_callC rfl rfl rfl rfl rfl rfl rfl (fun hg w hw => rightPrg_spec _ _ _ (by ((simp only [List.cons_append, List.nil_append, GP, dstL, lookE, Nat.beq, cond, List.getElem?_cons_zero, List.getElem?_cons_succ, Option.bind_some, and_true, Bool.and_eq_true, Bool.or_eq_true, Bool.and_eq_false_iff, Bool.or_eq_false_iff, Bool.not_eq_true', Bool.not_eq_false', decide_eq_true_eq, decide_eq_false_iff_not] at hg); omega)) w) ?_) | (show T _ (.run _ _ (_ :: _) _ _ :: _) _ _ _; first | refine rc rfl rfl rfl rfl rfl rfl rfl (fun w hw => kindPrg_spec _ (byteAt_bd _ _) w) ?_ | refine rcG rfl rfl rfl rfl rfl rfl rfl rfl rfl (fun hg w hw => kindPrg_spec _ (byteAt_bd _ _) w) ?_ | refine rc rfl rfl rfl rfl rfl rfl rfl (fun w hw => rightPrg_spec _ _ _ (by ((simp only [List.cons_append, List.nil_append, GP, dstL, lookE, Nat.beq, cond, List.getElem?_cons_zero, List.getElem?_cons_succ, Option.bind_some, and_true, Bool.and_eq_true, Bool.or_eq_true, Bool.and_eq_false_iff, Bool.or_eq_false_iff, Bool.not_eq_true', Bool.not_eq_false', decide_eq_true_eq, decide_eq_false_iff_not] at hg); omega)) w) ?_ | refine rcG rfl rfl rfl rfl rfl rfl rfl rfl rfl (fun hg w hw => rightPrg_spec _ _ _ (by ((simp only [List.cons_append, List.nil_append, GP, dstL, lookE, Nat.beq, cond, List.getElem?_cons_zero, List.getElem?_cons_succ, Option.bind_some, and_true, Bool.and_eq_true, Bool.or_eq_true, Bool.and_eq_false_iff, Bool.or_eq_false_iff, Bool.not_eq_true', Bool.not_eq_false', decide_eq_true_eq, decide_eq_false_iff_not] at hg); omega)) w) ?_) | (show ∀ _ : Nat, T _ _ _ _ _; intro _))
    refine T_if rfl (fun h1 => ?_) (fun h1 => ?_)
    · simp only [Bool.and_eq_true, decide_eq_true_eq] at h1
      have hst := stp_same s m ⟨by omega, h1.1.2, h1.2.1, by omega⟩
      repeat' (first | refine d1 ?_ | refine dd ?_ | (show ∀ _ : Nat, T _ _ _ _ _; intro _))
      refine T_back (m + 1, H') ⟨by dsimp only; omega, by dsimp only; rw [hst]; exact hG⟩ (by dsimp only; omega) ⟨rfl, rfl, ?_, rfl, trivial⟩ (Hle.refl _)
      dsimp only
      rw [hst]; rfl
    · have hno : ¬ (m + 1 < s.size ∧ kAt s (m + 1) = 2 ∧ kAt s (stp s m).1 = 1 ∧ (stp s m).1 < m + 1) := by
        rintro ⟨g1, g2, g3, g4⟩
        have : (decide ((m : Int) + 1 < s.size) && decide (kAt s (m + 1) = 2) && (decide (kAt s (stp s m).1 = 1) && decide (((stp s m).1 : Int) < (m : Int) + 1))) = true := by
          simp only [Bool.and_eq_true, decide_eq_true_eq]
          exact ⟨⟨by omega, g2⟩, g3, by omega⟩
        exact absurd (this.symm.trans h1) (by simp)
      obtain ⟨hy, hst⟩ := stp_yield s m (by omega) hno
      repeat' (first | refine d1 ?_ | refine dd ?_ | (show ∀ _ : Nat, T _ _ _ _ _; intro _))
      refine T_yield (K := [blk b [.string s] 9]) hY rfl rfl rfl rfl hy hG (Hle.comm [_] H') (fun J => Hle.comm J [_]) (fun H2 hG2 => ?_) (fun Y hX => ?_)
      · show T _ _ _ _ (blk b [.string s] 9 :: H2)
        repeat' (first | refine d1 ?_ | refine dd ?_ | (show ∀ _ : Nat, T _ _ _ _ _; intro _) | (show T _ (.code (.cond _ _ _) :: _) _ _ _; refine T_if rfl (fun h => ?_) (fun h => ?_)))
        · exact absurd h (by decide)
        · refine T_back (m + 1, H2) ⟨by dsimp only; omega, ?_⟩ (by dsimp only; omega) ⟨rfl, rfl, ?_, rfl, trivial⟩ (Hle.refl _)
          · dsimp only
            rw [hst]
            simpa using hG2
          · dsimp only
            rw [hst]; rfl
      · show T _ _ _ _ (blk b [.string s] 9 :: Y)
        repeat' (first | refine d1 ?_ | refine dd ?_ | (show ∀ _ : Nat, T _ _ _ _ _; intro _) | (show T _ (.code (.cond _ _ _) :: _) _ _ _; refine T_if rfl (fun h => ?_) (fun h => ?_)) | (show T _ (.code .ret :: _) _ _ _; refine T_istop rfl Y hX (Hle.refl _)))
        exact absurd h (by decide)
  · simp only [decide_eq_false_iff_not] at h
    have hm2 : m = s.size := by omega
    subst hm2
    have hlen : (clusterVs s).length = (stp s s.size).2.length := by simp [clusterVs]
    repeat' (first | refine d1 ?_ | refine dd ?_ | (show ∀ _ : Nat, T _ _ _ _ _; intro _))
    refine T_ifall rfl H' ?_ (Hle.refl _)
    rw [hlen]; exact hG

theorem checkPrg_spec (s : ByteArray) (w : World) : Spec Tryd.prog 69 [.string s] w (fun v A => v = .int .i64 (checkS s) ∧ A = []) := by
  refine spec_of sg Tryd.func69 rfl rfl rfl ?_
  repeat' (first | refine d1 ?_ | refine dd ?_ | (show ∀ _ : Nat, T _ _ _ _ _; intro _))
  rename_i b
  refine T_if rfl (fun h => ?_) (fun h => ?_)
  · simp only [decide_eq_true_eq] at h
    repeat' (first | refine d1 ?_ | refine dd ?_ | (show ∀ _ : Nat, T _ _ _ _ _; intro _) | (show T _ (.code .ret :: _) _ _ _; refine T_retM (vs := [.int .i64 4]) [] ⟨⟨b, _, [.int .i64 4], rfl, rfl, rfl, rfl, fun _ => rfl, rfl, rdOwn1 rfl⟩, trivial⟩ (Hle.none _) ⟨?_, rfl⟩))
    unfold checkS; rw [if_pos h]; rfl
  simp only [decide_eq_false_iff_not] at h
  repeat' (first | refine d1 ?_ | refine dd ?_ | (show T _ (.ops _ (_ :: _) :: _) _ _ _; refine T_callE rfl rfl rfl rfl rfl (fun w _ => clusters_spec s w) (fun x _ => ?_)) | (show ∀ _ : Nat, T _ _ _ _ _; intro _))
  have hps : ∀ (j : Nat) (y : List Value), (clusterVs s)[j]? = some y → ∃ p, (stp s s.size).2[j]? = some p ∧ y = clusterV s p := by
    intro j y hy
    unfold clusterVs at hy
    rw [List.getElem?_map] at hy
    cases hp : (stp s s.size).2[j]? with
    | none => rw [hp] at hy; cases hy
    | some p => rw [hp] at hy; exact ⟨p, rfl, (Option.some.inj hy).symm⟩
  refine T_range (clusters_iter s x (by omega)) rfl (fun j y hy => by obtain ⟨p, _, rfl⟩ := hps j y hy; exact ⟨rfl, rfl⟩)
    (fun j H => H = [blk b [.int .i64 0] 31] ∧ ∀ i p, i < j → (stp s s.size).2[i]? = some p → firstOk s p.1) (fun H => H = [blk b [.int .i64 11] 31] ∧ okAll s = false) (fun _ _ => False)
    [blk b [.int .i64 0] 31] ⟨rfl, fun i p h => by omega⟩ (Hle.refl _) ?_ ?_ ?_ (fun _ _ _ h => h.elim)
  · rintro L r j y Hj K hr hy ⟨rfl, hG⟩
    obtain ⟨p, hp, rfl⟩ := hps j y hy
    have hb := stp_bounds s s.size p (List.mem_of_getElem? hp)
    have hk : kindI ((byteAt (s.extract p.1 p.2) 0).toNat : Int) = kAt s p.1 := by rw [byteAt_extract s _ _ hb.1 hb.2]; rfl
    have hsz : (s.extract p.1 p.2).size = p.2 - p.1 := by rw [ByteArray.size_extract]; omega
    show T _ _ ((12, .string (s.extract p.1 p.2)) :: (11, .int .i64 (p.1 : Nat)) :: _) _ (lrec L r :: blk b [.int .i64 0] 31 :: K)
    repeat' (first | refine d1 ?_ | refine dd ?_ | (show ∀ _ : Nat, T _ _ _ _ _; intro _) | (show T _ _ _ _ _; refine T_begin hr rfl ?_))
    repeat' (first | refine d1 ?_ | refine dd ?_ | (show T _ (.ops _ (_ :: _) :: _) _ _ _; first | refine T_call rfl rfl rfl rfl rfl (fun w hw => kindPrg_spec _ (byteAt_bd _ _) w) ?_ | refine T_callC rfl rfl rfl rfl rfl rfl rfl (fun hg w hw => kindPrg_spec _ (byteAt_bd _ _) w) ?_) | (show T _ (.run _ _ (_ :: _) _ _ :: _) _ _ _; first | refine rc rfl rfl rfl rfl rfl rfl rfl (fun w hw => kindPrg_spec _ (byteAt_bd _ _) w) ?_ | refine rcG rfl rfl rfl rfl rfl rfl rfl rfl rfl (fun hg w hw => kindPrg_spec _ (byteAt_bd _ _) w) ?_) | (show ∀ _ : Nat, T _ _ _ _ _; intro _))
    rw [hk]
    refine T_if rfl (fun h1 => ?_) (fun h1 => ?_)
    · simp only [Bool.or_eq_true, decide_eq_true_eq] at h1
      repeat' (first | refine d1 ?_ | refine dd ?_ | (show ∀ _ : Nat, T _ _ _ _ _; intro _) | (show T _ (.code .ret :: _) _ _ _; refine T_rret _ ⟨rfl, ?_⟩ (Hle.refl _)))
      cases ho : okAll s with
      | false => rfl
      | true =>
        have := (clusters_law s).2 ho p (List.mem_of_getElem? hp)
        unfold firstOk at this
        omega
    · simp only [Bool.or_eq_false_iff, decide_eq_false_iff_not] at h1
      repeat' (first | refine d1 ?_ | refine dd ?_ | (show ∀ _ : Nat, T _ _ _ _ _; intro _) | (show T _ _ _ _ _; refine T_next _ ⟨rfl, ?_⟩ (Hle.refl _)))
      intro i q hi hq
      rcases Nat.lt_or_ge i j with h2 | h2
      · exact hG i q h2 hq
      · rw [show i = j by omega, hp] at hq
        cases hq
        exact h1
  · rintro D Hn ⟨rfl, hG⟩
    show T _ _ _ _ (dfr D :: blk x [.string s] 9 :: blk b [.int .i64 0] 31 :: [])
    repeat' (first | refine d1 ?_ | refine dd ?_ | (show ∀ _ : Nat, T _ _ _ _ _; intro _) | (show T _ (.code .ret :: _) _ _ _; refine T_retD (Hle.refl _) (rf_M (ds := []) (vs := [.int .i64 0]) [] ⟨⟨b, _, [.int .i64 0], rfl, rfl, rfl, rfl, fun _ => rfl, rfl, rdOwn1 rfl⟩, trivial⟩ (Hle.none _) ⟨?_, rfl⟩)))
    have : okAll s = true := (clusters_law s).1 (fun p hp => by
      obtain ⟨i, hi, e⟩ := List.getElem_of_mem hp
      refine hG i p (by simpa [clusterVs] using hi) ?_
      rw [List.getElem?_eq_getElem hi, e])
    unfold checkS; rw [if_neg h, this]; rfl
  · rintro D Hx ⟨rfl, ho⟩
    show T _ _ _ _ (dfr D :: blk x [.string s] 9 :: blk b [.int .i64 11] 31 :: [])
    refine T_retD (Hle.refl _) (rf_M (ds := []) (vs := [.int .i64 11]) [] ⟨⟨b, _, [.int .i64 11], rfl, rfl, rfl, rfl, fun _ => rfl, rfl, rdOwn1 rfl⟩, trivial⟩ (Hle.none _) ⟨?_, rfl⟩)
    unfold checkS; rw [if_neg h, ho]; rfl
end Go.Proofs.YtiglobijdegjdaaDoor
