/- Walks: the cost of a column, by the program and by the reference. -/
import Derived.Test.YtiglobijdegjdaaDoorWalkM
import Derived.Test.YtiglobijdegjdaaDoorSpecP
namespace Go.Proofs.YtiglobijdegjdaaDoor
open Go.RowKit Go.Shelf Go.Proofs
set_option maxRecDepth 100000
set_option maxHeartbeats 1000000

theorem pairs_spec (n : Nat) (w : World) : Spec Tryd.prog 40 [.int .i64 n] w (fun v A => ∃ b : Nat, True ∧ v = .func (.func 59) #[] #[.pointer (some ⟨b, 0, none⟩)] ∧ A = [blk b [.int .i64 n] 3]) := by
  refine spec_of sg Tryd.func40 rfl rfl rfl ?_
  repeat' (first | (show T _ (.ops _ (⟨_, .box _ _, _, _, _, _⟩ :: _) :: _) _ _ _; refine T_op (OpT.box (cs := [.int .i64 n]) rfl rfl rfl rfl rfl rfl rfl (fun _ => ?_))) | refine d1 ?_ | refine dd ?_ | (show ∀ _ : Nat, T _ _ _ _ _; intro _) | (show T _ (.code .ret :: _) _ _ _; refine T_retV _ rfl (Hle.refl _) ⟨_, trivial, rfl, rfl⟩))
def pairVs (n : Nat) : List (List Value) := (pairsL n).map fun p => [.int .i64 p.1, .int .i64 p.2]
theorem pairs_iter (n : Nat) (b : Nat) (hn : n ≤ 65536) : Iter Tryd.prog 59 [] [.pointer (some ⟨b, 0, none⟩)] [blk b [.int .i64 n] 3] (pairVs n) := by
  refine iter_of sg Tryd.func59 rfl rfl rfl ?_
  intro w0 l GQ X Hj hY h0
  show T _ _ _ _ (blk b [.int .i64 n] 3 :: Hj)
  repeat' (first | refine d1 ?_ | refine dd ?_ | (show ∀ _ : Nat, T _ _ _ _ _; intro _))
  refine T_loopX (fun x : Nat × List HA => [(6, .int .i64 x.1)]) (fun x => blk b [.int .i64 n] 3 :: x.2) (fun x => x.1 ≤ n ∧ GQ (pairsL x.1).length x.2) (fun x => n - x.1) (0, Hj) ⟨Nat.zero_le _, h0⟩ ?_
  rintro ⟨k, H1⟩ ⟨hk, hG⟩
  dsimp only at hk hG ⊢
  repeat' (first | refine d1 ?_ | refine dd ?_ | (show ∀ _ : Nat, T _ _ _ _ _; intro _))
  refine T_if rfl (fun h => ?_) (fun h => ?_)
  · simp only [decide_eq_true_eq] at h
    repeat' (first | refine d1 ?_ | refine dd ?_ | (show ∀ _ : Nat, T _ _ _ _ _; intro _))
    refine T_loopX (fun x : Nat × List HA => [(10, .int .i64 x.1)]) (fun x => blk b [.int .i64 n] 3 :: x.2) (fun x => x.1 ≤ k ∧ GQ ((pairsL k).length + x.1) x.2) (fun x => k - x.1) (0, H1) ⟨Nat.zero_le _, hG⟩ ?_
    rintro ⟨i, H2⟩ ⟨hi, hG2⟩
    dsimp only at hi hG2 ⊢
    repeat' (first | refine d1 ?_ | refine dd ?_ | (show ∀ _ : Nat, T _ _ _ _ _; intro _))
    refine T_if rfl (fun h1 => ?_) (fun h1 => ?_)
    · simp only [decide_eq_true_eq] at h1
      have hy : (pairVs n)[(pairsL k).length + i]? = some [.int .i64 (i : Nat), .int .i64 (k : Nat)] := by
        unfold pairVs; rw [List.getElem?_map, pairsL_get (by omega) (by omega)]; rfl
      repeat' (first | refine d1 ?_ | refine dd ?_ | (show ∀ _ : Nat, T _ _ _ _ _; intro _))
      refine T_yield (K := [blk b [.int .i64 n] 3]) hY rfl rfl rfl rfl hy hG2 (Hle.comm [_] H2) (fun J => Hle.comm J [_]) (fun H3 hG3 => ?_) (fun Y hX => ?_)
      · show T _ _ _ _ (blk b [.int .i64 n] 3 :: H3)
        repeat' (first | refine d1 ?_ | refine dd ?_ | (show ∀ _ : Nat, T _ _ _ _ _; intro _) | (show T _ (.code (.cond _ _ _) :: _) _ _ _; refine T_if rfl (fun h => ?_) (fun h => ?_)))
        · exact absurd h (by decide)
        · exact T_backX (i + 1, H3) ⟨by dsimp only; omega, hG3⟩ (by dsimp only; omega)
      · show T _ _ _ _ (blk b [.int .i64 n] 3 :: Y)
        repeat' (first | refine d1 ?_ | refine dd ?_ | (show ∀ _ : Nat, T _ _ _ _ _; intro _) | (show T _ (.code (.cond _ _ _) :: _) _ _ _; refine T_if rfl (fun h => ?_) (fun h => ?_)) | (show T _ (.code .ret :: _) _ _ _; refine T_istop rfl Y hX (Hle.refl _)))
        exact absurd h (by decide)
    · simp only [decide_eq_false_iff_not] at h1
      have hik : i = k := by omega
      subst hik
      repeat' (first | refine d1 ?_ | refine dd ?_ | (show ∀ _ : Nat, T _ _ _ _ _; intro _))
      refine T_backX (i + 1, H2) ⟨by dsimp only; omega, ?_⟩ (by dsimp only; omega)
      dsimp only
      rw [pairsL_succ, List.length_append, rowP_length]
      exact hG2
  · simp only [decide_eq_false_iff_not] at h
    have hkn : k = n := by omega
    subst hkn
    repeat' (first | refine d1 ?_ | refine dd ?_ | (show ∀ _ : Nat, T _ _ _ _ _; intro _))
    refine T_ifall rfl H1 ?_ (Hle.refl _)
    unfold pairVs; rw [List.length_map]; exact hG

theorem columnPrg_spec (c : Costs) (A B : Option Addr) (n m ca cb : Nat) (l : List Tok) (b : List Bool) (w : World) (hst : Std w) (hl : Src w 6 A n (l.flatMap Tok.cells)) (hn : l.length = n) (hnb : n ≤ 9223372036854775807)
    (hb : Src w 1 B m (b.map Value.bool)) (hm : b.length = m) (hmb : m ≤ 9223372036854775807) (hsm : ∀ t ∈ l, t.small) :
    Spec Tryd.prog 22 [c.val, .slice A n ca, .slice B m cb] w (fun v A => v = .tuple #[.int .i64 (columnV c l b).1, .int .i64 (columnV c l b).2] ∧ A = []) := by
  refine spec_of sg Tryd.func22 rfl rfl rfl ?_
  refine T_op (OpT.box (cs := c.cells) rfl rfl rfl rfl rfl rfl rfl (fun pc => ?_))
  refine T_op (OpT.box (cs := [.slice A n ca]) rfl rfl rfl rfl rfl rfl rfl (fun pl => ?_))
  refine T_op (OpT.box (cs := [.slice B m cb]) rfl rfl rfl rfl rfl rfl rfl (fun pb => ?_))
  repeat' (first | refine d1 ?_ | refine dd ?_ | (show T _ (.ops _ (_ :: _) :: _) _ _ _; first | refine T_call rfl rfl rfl rfl rfl (fun w hw => costPrg_spec c w) ?_ | refine T_callC rfl rfl rfl rfl rfl rfl rfl (fun hg w hw => costPrg_spec c w) ?_) | (show T _ (.run _ _ (_ :: _) _ _ :: _) _ _ _; first | refine rc rfl rfl rfl rfl rfl rfl rfl (fun w hw => costPrg_spec c w) ?_ | refine rcG rfl rfl rfl rfl rfl rfl rfl rfl rfl (fun hg w hw => costPrg_spec c w) ?_) | (show ∀ _ : Nat, T _ _ _ _ _; intro _))
  refine T_if rfl (fun h => ?_) (fun h => ?_)
  · simp only [Bool.not_eq_true', decide_eq_false_iff_not] at h
    repeat' (first | refine d1 ?_ | refine dd ?_ | (show ∀ _ : Nat, T _ _ _ _ _; intro _) | (show T _ (.code .ret :: _) _ _ _; refine T_retV [] rfl (Hle.none _) ⟨?_, rfl⟩))
    unfold columnV; rw [if_pos h]; rfl
  simp only [Bool.not_eq_false', decide_eq_true_eq] at h
  repeat' (first | refine d1 ?_ | refine dd ?_ | (show ∀ _ : Nat, T _ _ _ _ _; intro _))
  refine T_if rfl (fun h1 => ?_) (fun h1 => ?_)
  · simp only [Bool.not_eq_true', decide_eq_false_iff_not] at h1
    repeat' (first | refine d1 ?_ | refine dd ?_ | (show ∀ _ : Nat, T _ _ _ _ _; intro _) | (show T _ (.code .ret :: _) _ _ _; refine T_retV [] rfl (Hle.none _) ⟨?_, rfl⟩))
    unfold columnV; rw [if_neg (by omega), if_pos (by omega)]; rfl
  simp only [Bool.not_eq_false', decide_eq_true_eq] at h1
  repeat' (first | refine d1 ?_ | refine dd ?_ | (show ∀ _ : Nat, T _ _ _ _ _; intro _))
  refine T_if rfl (fun h2 => ?_) (fun h2 => ?_)
  · simp only [decide_eq_true_eq] at h2
    repeat' (first | refine d1 ?_ | refine dd ?_ | (show ∀ _ : Nat, T _ _ _ _ _; intro _) | (show T _ (.code .ret :: _) _ _ _; refine T_retV [] rfl (Hle.none _) ⟨?_, rfl⟩))
    unfold columnV; rw [if_neg (by omega), if_neg (by omega), if_pos (by omega)]; rfl
  simp only [decide_eq_false_iff_not] at h2
  repeat' (first | refine d1 ?_ | refine dd ?_ | (show ∀ _ : Nat, T _ _ _ _ _; intro _))
  refine T_loopX (fun k : Nat => [(26, .int .i64 k)]) (fun _ => [blk pb [.slice B m cb] 44, blk pl [.slice A n ca] 29, blk pc c.cells 23]) (fun k => k ≤ n ∧ ∀ j, j < k → thA b j = true → tokE (tkA l j) = 0) (fun k => n - k) 0 ⟨by omega, fun j h => by omega⟩ ?_
  rintro k ⟨hk, hok⟩
  repeat' (first | refine d1 ?_ | refine dd ?_ | (show ∀ _ : Nat, T _ _ _ _ _; intro _))
  refine T_if rfl (fun h3 => ?_) (fun h3 => ?_)
  · simp only [decide_eq_true_eq] at h3
    have hkn : k < n := by omega
    obtain ⟨ba, oa, rfl⟩ := hl.base (by omega)
    obtain ⟨bb, ob, rfl⟩ := hb.base (by omega)
    have hx := tkA_get (l := l) (i := k) (by omega)
    have hr1 : RdC w ba (oa + (k : Int).toNat * 6) (tkA l k).cells := hl.getT hkn hx
    have hr2 : RdC w bb (ob + (k : Int).toNat * 1) [.bool (thA b k)] := (hb.get1 (by omega) (by rw [List.getElem?_map, thA_get (by omega)]; rfl)).2
    repeat' (first | refine d1 ?_ | refine dd ?_ | (show T _ (.ops _ (_ :: _) :: _) _ _ _; first | refine T_call rfl rfl rfl rfl rfl (fun w hw => tokPrg_spec (tkA l k) (hsm _ (tkA_mem (by omega))) w (hst.cls hw)) ?_ | refine T_callC rfl rfl rfl rfl rfl rfl rfl (fun hg w hw => tokPrg_spec (tkA l k) (hsm _ (tkA_mem (by omega))) w (hst.cls hw)) ?_) | (show T _ (.run _ _ (_ :: _) _ _ :: _) _ _ _; first | refine rc rfl rfl rfl rfl rfl rfl rfl (fun w hw => tokPrg_spec (tkA l k) (hsm _ (tkA_mem (by omega))) w (hst.cls hw)) ?_ | refine rcG rfl rfl rfl rfl rfl rfl rfl rfl rfl (fun hg w hw => tokPrg_spec (tkA l k) (hsm _ (tkA_mem (by omega))) w (hst.cls hw)) ?_) | (show ∀ _ : Nat, T _ _ _ _ _; intro _))
    refine T_if rfl (fun h4 => ?_) (fun h4 => ?_)
    · simp only [Bool.and_eq_true, Bool.not_eq_true', decide_eq_false_iff_not] at h4
      repeat' (first | refine d1 ?_ | refine dd ?_ | (show ∀ _ : Nat, T _ _ _ _ _; intro _) | (show T _ (.code .ret :: _) _ _ _; refine T_retV [] rfl (Hle.none _) ⟨?_, rfl⟩))
      unfold columnV; rw [if_neg (by omega), if_neg (by omega), if_neg (by omega), if_pos (badCol_true (by omega) h4.1 h4.2)]; rfl
    · repeat' (first | refine d1 ?_ | refine dd ?_ | (show ∀ _ : Nat, T _ _ _ _ _; intro _))
      refine T_backX (k + 1) ⟨by omega, fun j hj ht => ?_⟩ (by omega) (hG := Hle.tail _ _)
      rcases Nat.lt_or_ge j k with h5 | h5
      · exact hok j h5 ht
      · rw [show j = k by omega] at ht ⊢
        rw [ht] at h4
        simpa using h4
  · simp only [decide_eq_false_iff_not] at h3
    have hkn : k = n := by omega
    subst hkn
    have hbad := badCol_false (l := l) (b := b) (fun j hj ht => hok j (by omega) ht)
    have hcv : columnV c l b = (psum (cellC c l b) (pairsL l.length), 0) := by unfold columnV; rw [if_neg (by omega), if_neg (by omega), if_neg (by omega), if_neg (by rw [hbad]; simp)]
    repeat' (first | refine d1 ?_ | refine dd ?_ | (show T _ (.ops _ (_ :: _) :: _) _ _ _; refine T_callE rfl rfl rfl rfl rfl (fun w hw => pairs_spec k w) (fun g _ => ?_)) | (show ∀ _ : Nat, T _ _ _ _ _; intro _))
    rename_i ps _
    have hps : ∀ (j : Nat) (y : List Value), (pairVs k)[j]? = some y → ∃ p, (pairsL k)[j]? = some p ∧ y = [.int .i64 (p.1 : Nat), .int .i64 (p.2 : Nat)] := by
      intro j y hy
      unfold pairVs at hy
      rw [List.getElem?_map] at hy
      cases hp : (pairsL k)[j]? with
      | none => rw [hp] at hy; cases hy
      | some p => rw [hp] at hy; exact ⟨p, rfl, (Option.some.inj hy).symm⟩
    refine T_range (pairs_iter k g (by omega)) rfl (fun j y hy => by obtain ⟨p, _, rfl⟩ := hps j y hy; exact ⟨rfl, rfl⟩)
      (fun j H => H = [blk ps [.int .i64 (psum (cellC c l b) ((pairsL k).take j))] 3, blk pb [.slice B m cb] 44, blk pl [.slice A k ca] 29, blk pc c.cells 23]) (fun _ => False) (fun _ _ => False)
      [blk ps [.int .i64 0] 3, blk pb [.slice B m cb] 44, blk pl [.slice A k ca] 29, blk pc c.cells 23] rfl (Hle.refl _) ?_ ?_ (fun _ _ h => h.elim) (fun _ _ _ h => h.elim)
    · rintro L r j y Hj K hr hy rfl
      obtain ⟨⟨i, q⟩, hp, rfl⟩ := hps j y hy
      have hmem := pairsL_mem.1 (List.mem_of_getElem? hp)
      have hlen := pairsL_len k
      have hjl : j < (pairsL k).length := (List.getElem?_eq_some_iff.1 hp).1
      have h9 : k * k ≤ 32 * 32 := Nat.mul_le_mul (by omega) (by omega)
      have hsum := psum_cell h l b ((pairsL k).take j)
      have hcell := cellC_bd h l b i q
      rw [List.length_take] at hsum
      have hnext : psum (cellC c l b) ((pairsL k).take (j + 1)) = psum (cellC c l b) ((pairsL k).take j) + cellC c l b i q := by
        rw [take_snoc _ _ _ hp, psum_snoc]
      obtain ⟨ba, oa, rfl⟩ := hl.base (by omega)
      obtain ⟨bb, ob, rfl⟩ := hb.base (by omega)
      have hr1 : RdC w ba (oa + (i : Int).toNat * 6) (tkA l i).cells := hl.getT (by omega) (tkA_get (by omega))
      have hr2 : RdC w ba (oa + (q : Int).toNat * 6) (tkA l q).cells := hl.getT (by omega) (tkA_get (by omega))
      have hr3 : RdC w bb (ob + (i : Int).toNat * 1) [.bool (thA b i)] := (hb.get1 (by omega) (by rw [List.getElem?_map, thA_get (by omega)]; rfl)).2
      have hr4 : RdC w bb (ob + (q : Int).toNat * 1) [.bool (thA b q)] := (hb.get1 (by omega) (by rw [List.getElem?_map, thA_get (by omega)]; rfl)).2
      show T _ _ ((45, .int .i64 (q : Nat)) :: (44, .int .i64 (i : Nat)) :: _) _ (lrec L r :: blk ps [.int .i64 (psum (cellC c l b) ((pairsL k).take j))] 3 :: blk pb [.slice _ m cb] 44 :: blk pl [.slice _ k ca] 29 :: blk pc c.cells 23 :: K)
      repeat' (first | refine d1 ?_ | refine dd ?_ | (show ∀ _ : Nat, T _ _ _ _ _; intro _) | (show T _ _ _ _ _; refine T_begin hr rfl ?_))
      have hnorm : (tkA l i).norm.size ≤ 65536 ∧ (tkA l q).norm.size ≤ 65536 := ⟨(hsm _ (tkA_mem (by omega))).2.1, (hsm _ (tkA_mem (by omega))).2.1⟩
      refine T_if rfl (fun h5 => ?_) (fun h5 => ?_)
      · have h6 := h5
        simp only [Bool.and_eq_true] at h6
        have k1 := tokE_ok (hok i (by omega) h6.1)
        have k2 := tokE_ok (hok q (by omega) h6.2)
        have e : cellC c l b i q = pairC c (tkA l i) (tkA l q) := by unfold cellC; rw [if_pos h5]
        rw [e] at hcell hnext
        repeat' (first | refine d1 ?_ | refine dd ?_ | (show T _ (.ops _ (_ :: _) :: _) _ _ _; first | refine T_call rfl rfl rfl rfl rfl (fun w hw => pairPrg_spec c (tkA l i) (tkA l q) h k1.1 k2.1 (by omega) (by omega) w) ?_ | refine T_callC rfl rfl rfl rfl rfl rfl rfl (fun hg w hw => pairPrg_spec c (tkA l i) (tkA l q) h k1.1 k2.1 (by omega) (by omega) w) ?_) | (show T _ (.run _ _ (_ :: _) _ _ :: _) _ _ _; first | refine rc rfl rfl rfl rfl rfl rfl rfl (fun w hw => pairPrg_spec c (tkA l i) (tkA l q) h k1.1 k2.1 (by omega) (by omega) w) ?_ | refine rcG rfl rfl rfl rfl rfl rfl rfl rfl rfl (fun hg w hw => pairPrg_spec c (tkA l i) (tkA l q) h k1.1 k2.1 (by omega) (by omega) w) ?_) | (show ∀ _ : Nat, T _ _ _ _ _; intro _))
        refine T_next _ rfl ?_
        rw [hnext]
        exact Hle.refl _
      · repeat' (first | refine d1 ?_ | refine dd ?_ | (show ∀ _ : Nat, T _ _ _ _ _; intro _))
        refine T_if rfl (fun h6 => ?_) (fun h6 => ?_)
        · have k1 := tokE_ok (hok i (by omega) h6)
          have e : cellC c l b i q = gapC c (tkA l i) := by unfold cellC; rw [if_neg (by rw [h5]; simp), if_pos h6]
          rw [e] at hcell hnext
          repeat' (first | refine d1 ?_ | refine dd ?_ | (show T _ (.ops _ (_ :: _) :: _) _ _ _; first | refine T_call rfl rfl rfl rfl rfl (fun w hw => gapPrgC_spec c (tkA l i) (costE_ok h).1 k1.1 w) ?_ | refine T_callC rfl rfl rfl rfl rfl rfl rfl (fun hg w hw => gapPrgC_spec c (tkA l i) (costE_ok h).1 k1.1 w) ?_) | (show T _ (.run _ _ (_ :: _) _ _ :: _) _ _ _; first | refine rc rfl rfl rfl rfl rfl rfl rfl (fun w hw => gapPrgC_spec c (tkA l i) (costE_ok h).1 k1.1 w) ?_ | refine rcG rfl rfl rfl rfl rfl rfl rfl rfl rfl (fun hg w hw => gapPrgC_spec c (tkA l i) (costE_ok h).1 k1.1 w) ?_) | (show ∀ _ : Nat, T _ _ _ _ _; intro _))
          refine T_next _ rfl ?_
          rw [hnext]
          exact Hle.refl _
        · repeat' (first | refine d1 ?_ | refine dd ?_ | (show ∀ _ : Nat, T _ _ _ _ _; intro _))
          refine T_if rfl (fun h7 => ?_) (fun h7 => ?_)
          · have k2 := tokE_ok (hok q (by omega) h7)
            have e : cellC c l b i q = gapC c (tkA l q) := by unfold cellC; rw [if_neg (by rw [h5]; simp), if_neg (by rw [h6]; simp), if_pos h7]
            rw [e] at hcell hnext
            repeat' (first | refine d1 ?_ | refine dd ?_ | (show T _ (.ops _ (_ :: _) :: _) _ _ _; first | refine T_call rfl rfl rfl rfl rfl (fun w hw => gapPrgC_spec c (tkA l q) (costE_ok h).1 k2.1 w) ?_ | refine T_callC rfl rfl rfl rfl rfl rfl rfl (fun hg w hw => gapPrgC_spec c (tkA l q) (costE_ok h).1 k2.1 w) ?_) | (show T _ (.run _ _ (_ :: _) _ _ :: _) _ _ _; first | refine rc rfl rfl rfl rfl rfl rfl rfl (fun w hw => gapPrgC_spec c (tkA l q) (costE_ok h).1 k2.1 w) ?_ | refine rcG rfl rfl rfl rfl rfl rfl rfl rfl rfl (fun hg w hw => gapPrgC_spec c (tkA l q) (costE_ok h).1 k2.1 w) ?_) | (show ∀ _ : Nat, T _ _ _ _ _; intro _))
            refine T_next _ rfl ?_
            rw [hnext]
            exact Hle.refl _
          · have e : cellC c l b i q = 0 := by unfold cellC; rw [if_neg (by rw [h5]; simp), if_neg (by rw [h6]; simp), if_neg (by rw [h7]; simp)]
            rw [e, Int.add_zero] at hnext
            repeat' (first | refine d1 ?_ | refine dd ?_ | (show ∀ _ : Nat, T _ _ _ _ _; intro _))
            refine T_next _ rfl ?_
            rw [hnext]
            exact Hle.refl _
    · rintro D Hn rfl
      show T _ _ _ _ (dfr D :: blk g [.int .i64 k] 3 :: blk ps _ 3 :: _)
      have e : psum (cellC c l b) ((pairsL k).take (pairVs k).length) = (columnV c l b).1 := by
        rw [hcv, show (pairVs k).length = (pairsL k).length by unfold pairVs; rw [List.length_map], List.take_length, hn]
      rw [e]
      repeat' (first | refine d1 ?_ | refine dd ?_ | (show ∀ _ : Nat, T _ _ _ _ _; intro _) | (show T _ (.code .ret :: _) _ _ _; refine T_retD (Hle.refl _) (rf_V (vs := [.int .i64 (columnV c l b).1, .int .i64 0]) [] rfl (Hle.none _) ⟨?_, rfl⟩)))
      rw [hcv]; rfl

end Go.Proofs.YtiglobijdegjdaaDoor
