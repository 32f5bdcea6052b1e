/- Walks: the distance, by the program. -/
import Derived.Test.YtiglobijdegjdaaDoorWalkF
import Derived.Test.YtiglobijdegjdaaDoorEngJ
import Derived.Test.YtiglobijdegjdaaDoorSpecG
namespace Go.Proofs.YtiglobijdegjdaaDoor
open Go.RowKit Go.Shelf Go.Proofs
set_option maxRecDepth 100000
set_option maxHeartbeats 1000000

theorem distances_spec (n m : Nat) (hn : n ≤ 65536) (hm : m ≤ 65536) (f : FuncId) (fs cs : List Value) (e : Nat → Nat → Bool) (w : World)
    (hf : ∀ i j, i < n → j < m → ∀ w', Below w.heap.size w w' → Spec Tryd.prog f (fs ++ (.int .i64 (i : Nat) :: .int .i64 (j : Nat) :: cs)) w' (fun v A => v = .bool (e i j) ∧ A = [])) :
    Spec Tryd.prog 89 [.int .i64 n, .int .i64 m, .func (.func f) fs.toArray cs.toArray] w (fun v A => v = .int .i64 (lv e n m) ∧ A = []) := by
  refine spec_of sg Tryd.func89 rfl rfl rfl ?_
  repeat' (first | refine d1 ?_ | (show ∀ _ : Nat, T _ _ _ _ _; intro _))
  show T _ [_, _] _ _ _
  refine T_cutAt 1 (fun x : Nat × Nat => [(0, .int .i64 n), (1, .int .i64 m), (2, .func (.func f) fs.toArray cs.toArray), (7, .slice (some ⟨x.1, 0, none⟩) (m + 1) (m + 1)), (8, .slice (some ⟨x.2, 0, none⟩) (m + 1) (m + 1))])
    (fun x => [blk x.1 (valV (mx (lv e 0) (fun _ => 0) 0) (m + 1)) 3, blk x.2 (valV (fun _ => 0) (m + 1)) 3]) (fun _ => True) rfl ?_ ?_
  · refine T_draw 1000 [] ?_
    refine T_dval 0 rfl (by kernel_rfl) (by kernel_rfl) (by kernel_rfl) (by kernel_rfl) (by kernel_rfl) rfl rfl (by first | exact Val.pure rfl | exact Val.vc rfl (fun hg => by first | omega | (simp only [inK]; omega) | exact True.intro | assumption) | exact Val.load rfl (fun _ => rdOwn1 rfl) | exact Val.loadA rfl (fun _ => rdAll) rfl) rfl rfl rfl (by first | exact Hle.refl _ | exact Hle.none _) ?_
    refine T_dval 1 rfl (by kernel_rfl) (by kernel_rfl) (by kernel_rfl) (by kernel_rfl) (by kernel_rfl) rfl rfl (by first | exact Val.pure rfl | exact Val.vc rfl (fun hg => by first | omega | (simp only [inK]; omega) | exact True.intro | assumption) | exact Val.load rfl (fun _ => rdOwn1 rfl) | exact Val.loadA rfl (fun _ => rdAll) rfl) rfl rfl rfl (by first | exact Hle.refl _ | exact Hle.none _) ?_
    refine T_dval 3 rfl (by kernel_rfl) (by kernel_rfl) (by kernel_rfl) (by kernel_rfl) (by kernel_rfl) rfl rfl (by first | exact Val.pure rfl | exact Val.vc rfl (fun hg => by first | omega | (simp only [inK]; omega) | exact True.intro | assumption) | exact Val.load rfl (fun _ => rdOwn1 rfl) | exact Val.loadA rfl (fun _ => rdAll) rfl) rfl rfl rfl (by first | exact Hle.refl _ | exact Hle.none _) ?_
    refine T_dval 4 rfl (by kernel_rfl) (by kernel_rfl) (by kernel_rfl) (by kernel_rfl) (by kernel_rfl) rfl rfl (by first | exact Val.pure rfl | exact Val.vc rfl (fun hg => by first | omega | (simp only [inK]; omega) | exact True.intro | assumption) | exact Val.load rfl (fun _ => rdOwn1 rfl) | exact Val.loadA rfl (fun _ => rdAll) rfl) rfl rfl rfl (by first | exact Hle.refl _ | exact Hle.none _) ?_
    refine T_dop2 2 5 (by kernel_rfl) rfl rfl (OpT.make rfl rfl rfl rfl rfl rfl rfl rfl rfl (by dsimp only; omega) (fun b1 => ⟨fun _ => Hle.none _, ?_⟩)) (OpT.make rfl rfl rfl rfl rfl rfl rfl rfl rfl (by dsimp only; omega) (fun b2 => ⟨fun _ => Hle.none _, ?_⟩))
    · refine T_dval 6 rfl (by kernel_rfl) (by kernel_rfl) (by kernel_rfl) (by kernel_rfl) (by kernel_rfl) rfl rfl (Val.pure rfl) rfl rfl rfl (Hle.none _) ?_
      refine T_dop 5 (by kernel_rfl) rfl (OpT.make rfl rfl rfl rfl rfl rfl rfl rfl rfl (by dsimp only; omega) (fun b2 => ⟨fun _ => Hle.none _, ?_⟩))
      refine T_dval 7 rfl (by kernel_rfl) (by kernel_rfl) (by kernel_rfl) (by kernel_rfl) (by kernel_rfl) rfl rfl (Val.pure rfl) rfl rfl rfl (Hle.none _) ?_
      refine T_dend (by kernel_rfl) ?_
      refine T_le (H' := [blk b1 (valV (mx (lv e 0) (fun _ => 0) 0) (m + 1)) 3, blk b2 (valV (fun _ => 0) (m + 1)) 3]) ?_ (T_meet (b1, b2) trivial ⟨rfl, rfl, rfl, rfl, rfl, trivial⟩ (Hle.refl _))
      show Hle [blk b2 (List.replicate (m + 1) (.int .i64 0)) 3, blk b1 (List.replicate (m + 1) (.int .i64 0)) 3] _
      rw [valV_replicate, valV_mx_zero]
      exact Hle.perm (List.Perm.swap _ _ _)
    · skip
      refine T_dop 2 (by kernel_rfl) rfl (OpT.make rfl rfl rfl rfl rfl rfl rfl rfl rfl (by dsimp only; omega) (fun b1 => ⟨fun _ => Hle.none _, ?_⟩))
      refine T_dval 6 rfl (by kernel_rfl) (by kernel_rfl) (by kernel_rfl) (by kernel_rfl) (by kernel_rfl) rfl rfl (Val.pure rfl) rfl rfl rfl (Hle.none _) ?_
      refine T_dval 7 rfl (by kernel_rfl) (by kernel_rfl) (by kernel_rfl) (by kernel_rfl) (by kernel_rfl) rfl rfl (Val.pure rfl) rfl rfl rfl (Hle.none _) ?_
      refine T_dend (by kernel_rfl) ?_
      refine T_le (H' := [blk b1 (valV (mx (lv e 0) (fun _ => 0) 0) (m + 1)) 3, blk b2 (valV (fun _ => 0) (m + 1)) 3]) ?_ (T_meet (b1, b2) trivial ⟨rfl, rfl, rfl, rfl, rfl, trivial⟩ (Hle.refl _))
      show Hle [blk b1 (List.replicate (m + 1) (.int .i64 0)) 3, blk b2 (List.replicate (m + 1) (.int .i64 0)) 3] _
      rw [valV_replicate, valV_mx_zero]
      exact Hle.refl _
  · rintro ⟨b1, b2⟩ _
    dsimp only
    repeat' (first | refine d1 ?_ | refine dd ?_ | (show ∀ _ : Nat, T _ _ _ _ _; intro _))
    refine T_loop (fun k : Nat => [(0, .int .i64 n), (1, .int .i64 m), (2, .func (.func f) fs.toArray cs.toArray), (7, .slice (some ⟨b1, 0, none⟩) (m + 1) (m + 1)), (8, .slice (some ⟨b2, 0, none⟩) (m + 1) (m + 1)), (20, .int .i64 ((m + 1 : Nat) : Int)), (21, .int .i64 k)])
      (fun k => [blk b1 (valV (mx (lv e 0) (fun _ => 0) k) (m + 1)) 3, blk b2 (valV (fun _ => 0) (m + 1)) 3]) (fun k => k ≤ m + 1) (fun k => m + 1 - k) 0 (Nat.zero_le _) ⟨rfl, rfl, rfl, rfl, rfl, rfl, rfl, trivial⟩ (Hle.refl _) ?_
    · intro k hk
      repeat' (first | refine d1 ?_ | refine dd ?_ | (show ∀ _ : Nat, T _ _ _ _ _; intro _))
      refine T_if rfl (fun h => ?_) (fun h => ?_)
      · simp only [decide_eq_true_eq] at h
        repeat' (first | refine d1 ?_ | refine dd ?_ | (show T _ (.ops _ (_ :: _) :: _) _ _ _; refine T_op (OpT.store (b := b1) rfl rfl rfl rfl (by rw [valV_length]; omega) ?_)) | (show ∀ _ : Nat, T _ _ _ _ _; intro _))
        refine T_back (k + 1) (by omega) (by omega) ⟨rfl, rfl, rfl, rfl, rfl, rfl, rfl, trivial⟩ ?_
        show Hle [blk b1 ((valV (mx (lv e 0) (fun _ => 0) k) (m + 1)).set (0 + k * 1) (.int .i64 k)) 3, _] _
        rw [show 0 + k * 1 = k by omega, valV_set (f := lv e 0) (x := (k : Int)) rfl]
        exact Hle.refl _
      · simp only [decide_eq_false_iff_not] at h
        rw [valV_mx_full _ _ _ _ (by omega)]
        repeat' (first | refine d1 ?_ | refine dd ?_ | (show ∀ _ : Nat, T _ _ _ _ _; intro _))
        refine T_loop (fun x : Nat × (Nat → Int) × Nat × Nat => [(0, .int .i64 n), (1, .int .i64 m), (2, .func (.func f) fs.toArray cs.toArray), (7, .slice (some ⟨x.2.2.1, 0, none⟩) (m + 1) (m + 1)), (8, .slice (some ⟨x.2.2.2, 0, none⟩) (m + 1) (m + 1)), (29, .int .i64 n), (30, .int .i64 x.1)])
          (fun x => [blk x.2.2.1 (valV (lv e x.1) (m + 1)) 3, blk x.2.2.2 (valV x.2.1 (m + 1)) 3]) (fun x => x.1 ≤ n) (fun x => n - x.1) (0, (fun _ => 0), b1, b2) (Nat.zero_le _) ⟨rfl, rfl, rfl, rfl, rfl, rfl, rfl, trivial⟩ (Hle.refl _) ?_
        rintro ⟨i, g, b1, b2⟩ hi
        dsimp only at hi ⊢
        repeat' (first | refine d1 ?_ | refine dd ?_ | (show ∀ _ : Nat, T _ _ _ _ _; intro _))
        refine T_if rfl (fun h1 => ?_) (fun h1 => ?_)
        · simp only [decide_eq_true_eq] at h1
          repeat' (first | refine d1 ?_ | refine dd ?_ | (show T _ (.ops _ (_ :: _) :: _) _ _ _; refine T_op (OpT.store (b := b2) rfl rfl rfl rfl (by rw [valV_length]; omega) ?_)) | (show ∀ _ : Nat, T _ _ _ _ _; intro _))
          refine T_le (H' := [blk b1 (valV (lv e i) (m + 1)) 3, blk b2 (valV (mx (lv e (i + 1)) g 1) (m + 1)) 3]) ?_ ?_
          · show Hle [_, blk b2 ((valV g (m + 1)).set 0 (.int .i64 ((i : Int) + 1))) 3] _
            rw [← valV_mx_zero (lv e (i + 1)) g, valV_set (f := lv e (i + 1)) (x := (i : Int) + 1) rfl]
            exact Hle.refl _
          refine T_loop (fun k : Nat => [(0, .int .i64 n), (1, .int .i64 m), (2, .func (.func f) fs.toArray cs.toArray), (7, .slice (some ⟨b1, 0, none⟩) (m + 1) (m + 1)), (8, .slice (some ⟨b2, 0, none⟩) (m + 1) (m + 1)), (29, .int .i64 n), (30, .int .i64 i), (10, .int .i64 i), (37, .int .i64 m), (38, .int .i64 k)])
            (fun k => [blk b1 (valV (lv e i) (m + 1)) 3, blk b2 (valV (mx (lv e (i + 1)) g (k + 1)) (m + 1)) 3]) (fun k => k ≤ m) (fun k => m - k) 0 (Nat.zero_le _) ⟨rfl, rfl, rfl, rfl, rfl, rfl, rfl, rfl, rfl, rfl, trivial⟩ (Hle.refl _) ?_
          intro k hk
          repeat' (first | refine d1 ?_ | refine dd ?_ | (show ∀ _ : Nat, T _ _ _ _ _; intro _))
          refine T_if rfl (fun h2 => ?_) (fun h2 => ?_)
          · simp only [decide_eq_true_eq] at h2
            repeat' (first | refine d1 ?_ | (show T _ (.ops _ (_ :: _) :: _) _ _ _; first | refine T_call rfl rfl rfl rfl rfl (fun w hw => hf i k (by omega) (by omega) w hw.below) ?_ | refine T_callC rfl rfl rfl rfl rfl rfl rfl (fun hg w hw => hf i k (by omega) (by omega) w hw.below) ?_) | (show T _ (.run _ _ (_ :: _) _ _ :: _) _ _ _; first | refine rc rfl rfl rfl rfl rfl rfl rfl (fun w hw => hf i k (by omega) (by omega) w hw.below) ?_ | refine rcG rfl rfl rfl rfl rfl rfl rfl rfl rfl (fun hg w hw => hf i k (by omega) (by omega) w hw.below) ?_) | (show ∀ _ : Nat, T _ _ _ _ _; intro _))
            show T _ (_ :: _) _ _ _
            refine T_cutAt 1 (fun _ : Unit => [(0, .int .i64 n), (1, .int .i64 m), (2, .func (.func f) fs.toArray cs.toArray), (7, .slice (some ⟨b1, 0, none⟩) (m + 1) (m + 1)), (8, .slice (some ⟨b2, 0, none⟩) (m + 1) (m + 1)), (29, .int .i64 n), (30, .int .i64 i), (10, .int .i64 i), (37, .int .i64 m), (38, .int .i64 k), (11, .int .i64 k), (12, .int .i64 (if e i k then 0 else 1))])
              (fun _ => [blk b1 (valV (lv e i) (m + 1)) 3, blk b2 (valV (mx (lv e (i + 1)) g (k + 1)) (m + 1)) 3]) (fun _ => True) rfl ?_ ?_
            · refine T_if rfl (fun h3 => ?_) (fun h3 => ?_)
              · rw [h3]
                repeat' (first | refine d1 ?_ | refine dd ?_ | (show ∀ _ : Nat, T _ _ _ _ _; intro _) | (show T _ _ _ _ _; refine T_meet () trivial ⟨rfl, rfl, rfl, rfl, rfl, rfl, rfl, rfl, rfl, rfl, rfl, rfl, trivial⟩ (Hle.refl _)))
              · rw [h3]
                repeat' (first | refine d1 ?_ | refine dd ?_ | (show ∀ _ : Nat, T _ _ _ _ _; intro _) | (show T _ _ _ _ _; refine T_meet () trivial ⟨rfl, rfl, rfl, rfl, rfl, rfl, rfl, rfl, rfl, rfl, rfl, rfl, trivial⟩ (Hle.refl _)))
            · rintro ⟨⟩ _
              have B1 := lv_bd e i k
              have B2 := lv_bd e i (k + 1)
              have B3 := lv_bd e (i + 1) k
              have B4 : 0 ≤ (if e i k then (0 : Int) else 1) ∧ (if e i k then (0 : Int) else 1) ≤ 1 := by split <;> omega
              show T _ (.code (.region _ _ true) :: _) _ _ _
              refine T_draw 22 [blk b1 (valV (lv e i) (m + 1)) 3, blk b2 (valV (mx (lv e (i + 1)) g (k + 1)) (m + 1)) 3] ?_
              refine T_dval 0 rfl (by kernel_rfl) (by kernel_rfl) (by kernel_rfl) (by kernel_rfl) (by kernel_rfl) rfl rfl (by first | exact Val.pure rfl | exact Val.vc rfl (fun hg => by first | omega | (simp only [inK]; omega) | exact True.intro | assumption) | exact Val.load rfl (fun _ => rdOwn1 rfl) | exact Val.loadA rfl (fun _ => rdAll) rfl) rfl rfl rfl (by first | exact Hle.refl _ | exact Hle.none _) ?_
              refine T_dval 1 rfl (by kernel_rfl) (by kernel_rfl) (by kernel_rfl) (by kernel_rfl) (by kernel_rfl) rfl rfl (by first | exact Val.pure rfl | exact Val.vc rfl (fun hg => by first | omega | (simp only [inK]; omega) | exact True.intro | assumption) | exact Val.load rfl (fun _ => rdOwn1 rfl) | exact Val.loadA rfl (fun _ => rdAll) rfl) rfl rfl rfl (by first | exact Hle.refl _ | exact Hle.none _) ?_
              refine T_dval 2 rfl (by kernel_rfl) (by kernel_rfl) (by kernel_rfl) (by kernel_rfl) (by kernel_rfl) rfl rfl (by first | exact Val.pure rfl | exact Val.vc rfl (fun hg => by first | omega | (simp only [inK]; omega) | exact True.intro | assumption) | exact Val.load rfl (fun _ => rdOwn1 rfl) | exact Val.loadA rfl (fun _ => rdAll) rfl) rfl rfl rfl (by first | exact Hle.refl _ | exact Hle.none _) ?_
              refine T_dval 3 rfl (by kernel_rfl) (by kernel_rfl) (by kernel_rfl) (by kernel_rfl) (by kernel_rfl) rfl rfl (by first | exact Val.pure rfl | exact Val.vc rfl (fun hg => by first | omega | (simp only [inK]; omega) | exact True.intro | assumption) | exact Val.load rfl (fun _ => rdOwn1 rfl) | exact Val.loadA rfl (fun _ => rdAll) rfl) rfl rfl rfl (by first | exact Hle.refl _ | exact Hle.none _) ?_
              refine T_dval 4 rfl (by kernel_rfl) (by kernel_rfl) (by kernel_rfl) (by kernel_rfl) (by kernel_rfl) rfl rfl (by first | exact Val.pure rfl | exact Val.vc rfl (fun hg => by first | omega | (simp only [inK]; omega) | exact True.intro | assumption) | exact Val.load rfl (fun _ => rdOwn1 rfl) | exact Val.loadA rfl (fun _ => rdAll) rfl) rfl rfl rfl (by first | exact Hle.refl _ | exact Hle.none _) ?_
              refine T_dval 5 rfl (by kernel_rfl) (by kernel_rfl) (by kernel_rfl) (by kernel_rfl) (by kernel_rfl) rfl rfl (by first | exact Val.pure rfl | exact Val.vc rfl (fun hg => by first | omega | (simp only [inK]; omega) | exact True.intro | assumption) | exact Val.load rfl (fun _ => rdOwn1 rfl) | exact Val.loadA rfl (fun _ => rdAll) rfl) rfl rfl rfl (by first | exact Hle.refl _ | exact Hle.none _) ?_
              refine T_dval 6 rfl (by kernel_rfl) (by kernel_rfl) (by kernel_rfl) (by kernel_rfl) (by kernel_rfl) rfl rfl (Val.load (v := .int .i64 (lv e i k)) rfl (fun _ => rdOwn1 (b := b1) (vget k (by omega) (by omega)))) rfl rfl rfl (by first | exact Hle.refl _ | exact Hle.none _) ?_
              refine T_dval 7 rfl (by kernel_rfl) (by kernel_rfl) (by kernel_rfl) (by kernel_rfl) (by kernel_rfl) rfl rfl (by first | exact Val.pure rfl | exact Val.vc rfl (fun hg => by first | omega | (simp only [inK]; omega) | exact True.intro | assumption) | exact Val.load rfl (fun _ => rdOwn1 rfl) | exact Val.loadA rfl (fun _ => rdAll) rfl) rfl rfl rfl (by first | exact Hle.refl _ | exact Hle.none _) ?_
              refine T_dval 8 rfl (by kernel_rfl) (by kernel_rfl) (by kernel_rfl) (by kernel_rfl) (by kernel_rfl) rfl rfl (by first | exact Val.pure rfl | exact Val.vc rfl (fun hg => by first | omega | (simp only [inK]; omega) | exact True.intro | assumption) | exact Val.load rfl (fun _ => rdOwn1 rfl) | exact Val.loadA rfl (fun _ => rdAll) rfl) rfl rfl rfl (by first | exact Hle.refl _ | exact Hle.none _) ?_
              refine T_dval 9 rfl (by kernel_rfl) (by kernel_rfl) (by kernel_rfl) (by kernel_rfl) (by kernel_rfl) rfl rfl (by first | exact Val.pure rfl | exact Val.vc rfl (fun hg => by first | omega | (simp only [inK]; omega) | exact True.intro | assumption) | exact Val.load rfl (fun _ => rdOwn1 rfl) | exact Val.loadA rfl (fun _ => rdAll) rfl) rfl rfl rfl (by first | exact Hle.refl _ | exact Hle.none _) ?_
              refine T_dval 10 rfl (by kernel_rfl) (by kernel_rfl) (by kernel_rfl) (by kernel_rfl) (by kernel_rfl) rfl rfl (by first | exact Val.pure rfl | exact Val.vc rfl (fun hg => by first | omega | (simp only [inK]; omega) | exact True.intro | assumption) | exact Val.load rfl (fun _ => rdOwn1 rfl) | exact Val.loadA rfl (fun _ => rdAll) rfl) rfl rfl rfl (by first | exact Hle.refl _ | exact Hle.none _) ?_
              refine T_dval 11 rfl (by kernel_rfl) (by kernel_rfl) (by kernel_rfl) (by kernel_rfl) (by kernel_rfl) rfl rfl (by first | exact Val.pure rfl | exact Val.vc rfl (fun hg => by first | omega | (simp only [inK]; omega) | exact True.intro | assumption) | exact Val.load rfl (fun _ => rdOwn1 rfl) | exact Val.loadA rfl (fun _ => rdAll) rfl) rfl rfl rfl (by first | exact Hle.refl _ | exact Hle.none _) ?_
              refine T_dval 12 rfl (by kernel_rfl) (by kernel_rfl) (by kernel_rfl) (by kernel_rfl) (by kernel_rfl) rfl rfl (by first | exact Val.pure rfl | exact Val.vc rfl (fun hg => by first | omega | (simp only [inK]; omega) | exact True.intro | assumption) | exact Val.load rfl (fun _ => rdOwn1 rfl) | exact Val.loadA rfl (fun _ => rdAll) rfl) rfl rfl rfl (by first | exact Hle.refl _ | exact Hle.none _) ?_
              refine T_dval 13 rfl (by kernel_rfl) (by kernel_rfl) (by kernel_rfl) (by kernel_rfl) (by kernel_rfl) rfl rfl (Val.load (v := .int .i64 (lv e i (k + 1))) rfl (fun _ => rdOwn1 (b := b1) (vget (k + 1) (by omega) (by omega)))) rfl rfl rfl (by first | exact Hle.refl _ | exact Hle.none _) ?_
              refine T_dval 14 rfl (by kernel_rfl) (by kernel_rfl) (by kernel_rfl) (by kernel_rfl) (by kernel_rfl) rfl rfl (by first | exact Val.pure rfl | exact Val.vc rfl (fun hg => by first | omega | (simp only [inK]; omega) | exact True.intro | assumption) | exact Val.load rfl (fun _ => rdOwn1 rfl) | exact Val.loadA rfl (fun _ => rdAll) rfl) rfl rfl rfl (by first | exact Hle.refl _ | exact Hle.none _) ?_
              refine T_dval 15 rfl (by kernel_rfl) (by kernel_rfl) (by kernel_rfl) (by kernel_rfl) (by kernel_rfl) rfl rfl (by first | exact Val.pure rfl | exact Val.vc rfl (fun hg => by first | omega | (simp only [inK]; omega) | exact True.intro | assumption) | exact Val.load rfl (fun _ => rdOwn1 rfl) | exact Val.loadA rfl (fun _ => rdAll) rfl) rfl rfl rfl (by first | exact Hle.refl _ | exact Hle.none _) ?_
              refine T_dval 16 rfl (by kernel_rfl) (by kernel_rfl) (by kernel_rfl) (by kernel_rfl) (by kernel_rfl) rfl rfl (by first | exact Val.pure rfl | exact Val.vc rfl (fun hg => by first | omega | (simp only [inK]; omega) | exact True.intro | assumption) | exact Val.load rfl (fun _ => rdOwn1 rfl) | exact Val.loadA rfl (fun _ => rdAll) rfl) rfl rfl rfl (by first | exact Hle.refl _ | exact Hle.none _) ?_
              refine T_dval 17 rfl (by kernel_rfl) (by kernel_rfl) (by kernel_rfl) (by kernel_rfl) (by kernel_rfl) rfl rfl (by first | exact Val.pure rfl | exact Val.vc rfl (fun hg => by first | omega | (simp only [inK]; omega) | exact True.intro | assumption) | exact Val.load rfl (fun _ => rdOwn1 rfl) | exact Val.loadA rfl (fun _ => rdAll) rfl) rfl rfl rfl (by first | exact Hle.refl _ | exact Hle.none _) ?_
              refine T_dval 18 rfl (by kernel_rfl) (by kernel_rfl) (by kernel_rfl) (by kernel_rfl) (by kernel_rfl) rfl rfl (Val.load (v := .int .i64 (lv e (i + 1) k)) rfl (fun _ => rdOwn1 (b := b2) (vgetm k (by omega) (by omega) (by omega)))) rfl rfl rfl (by first | exact Hle.refl _ | exact Hle.none _) ?_
              refine T_dval 19 rfl (by kernel_rfl) (by kernel_rfl) (by kernel_rfl) (by kernel_rfl) (by kernel_rfl) rfl rfl (by first | exact Val.pure rfl | exact Val.vc rfl (fun hg => by first | omega | (simp only [inK]; omega) | exact True.intro | assumption) | exact Val.load rfl (fun _ => rdOwn1 rfl) | exact Val.loadA rfl (fun _ => rdAll) rfl) rfl rfl rfl (by first | exact Hle.refl _ | exact Hle.none _) ?_
              refine T_dval 20 rfl (by kernel_rfl) (by kernel_rfl) (by kernel_rfl) (by kernel_rfl) (by kernel_rfl) rfl rfl (by first | exact Val.pure rfl | exact Val.vc rfl (fun hg => by first | omega | (simp only [inK]; omega) | exact True.intro | assumption) | exact Val.load rfl (fun _ => rdOwn1 rfl) | exact Val.loadA rfl (fun _ => rdAll) rfl) rfl rfl rfl (by first | exact Hle.refl _ | exact Hle.none _) ?_
              refine T_dval 21 rfl (by kernel_rfl) (by kernel_rfl) (by kernel_rfl) (by kernel_rfl) (by kernel_rfl) rfl rfl (by first | exact Val.pure rfl | exact Val.vc rfl (fun hg => by first | omega | (simp only [inK]; omega) | exact True.intro | assumption) | exact Val.load rfl (fun _ => rdOwn1 rfl) | exact Val.loadA rfl (fun _ => rdAll) rfl) rfl rfl rfl (by first | exact Hle.refl _ | exact Hle.none _) ?_
              refine T_dop 22 (by kernel_rfl) rfl (OpT.store (b := b2) rfl rfl rfl rfl (by rw [valV_length]; omega) ⟨fun h => (by cases h), ?_⟩)
              refine T_dend (by kernel_rfl) ?_
              repeat' (first | refine d1 ?_ | refine dd ?_ | (show ∀ _ : Nat, T _ _ _ _ _; intro _))
              refine T_back (k + 1) (by omega) (by omega) ⟨rfl, rfl, rfl, rfl, rfl, rfl, rfl, rfl, rfl, rfl, trivial⟩ ?_
              show Hle [_, blk b2 ((valV (mx (lv e (i + 1)) g (k + 1)) (m + 1)).set (0 + (k + 1) * 1) (.int .i64 (min (min (lv e i k + if e i k then 0 else 1) (lv e i (k + 1) + 1)) (lv e (i + 1) k + 1)))) 3] _
              rw [show 0 + (k + 1) * 1 = k + 1 by omega, valV_set (f := lv e (i + 1)) (by rw [lv_step]; omega)]
              exact Hle.refl _
          · simp only [decide_eq_false_iff_not] at h2
            rw [valV_mx_full _ _ _ _ (by omega)]
            repeat' (first | refine d1 ?_ | refine dd ?_ | (show ∀ _ : Nat, T _ _ _ _ _; intro _))
            exact T_back (i + 1, lv e i, b2, b1) (Nat.succ_le_of_lt (by omega)) (by dsimp only; omega) ⟨rfl, rfl, rfl, rfl, rfl, rfl, rfl, trivial⟩ (Hle.perm (List.Perm.swap _ _ _))
        · simp only [decide_eq_false_iff_not] at h1
          have hin : i = n := by omega
          subst hin
          repeat' (first | refine d1 ?_ | refine dd ?_ | (show T _ (.ops _ (_ :: _) :: _) _ _ _; refine T_load (v := .int .i64 (lv e i m)) rfl rfl rfl rfl rfl (rdOwn1 (b := b1) (vget m (by omega) (by omega))) ?_) | (show ∀ _ : Nat, T _ _ _ _ _; intro _) | (show T _ (.code .ret :: _) _ _ _; refine T_retV [] rfl (Hle.none _) ⟨rfl, rfl⟩))

/-- Two bytes of two strings are equal. -/
def eqB (a b : ByteArray) (i j : Nat) : Bool := decide (((byteAt a (i : Int)).toNat : Int) = ((byteAt b (j : Int)).toNat : Int))
theorem equal1_spec (a b : ByteArray) (p2 p3 ba bb ca cb i j : Nat) (hi : i < a.size) (hj : j < b.size) (w : World) (h2 : RdC w p2 0 [.slice (some ⟨ba, 0, none⟩) a.size ca]) (h3 : RdC w p3 0 [.slice (some ⟨bb, 0, none⟩) b.size cb]) (ha : RdC w ba 0 (byteVals a)) (hb : RdC w bb 0 (byteVals b)) :
    Spec Tryd.prog 100 [.int .i64 i, .int .i64 j, .pointer (some ⟨p2, 0, none⟩), .pointer (some ⟨p3, 0, none⟩)] w (fun v A => v = .bool (eqB a b i j) ∧ A = []) := by
  refine spec_of sg Tryd.func100 rfl rfl rfl ?_
  have hx : ∀ {s : ByteArray} {c k : Nat}, RdC w c 0 (byteVals s) → k < s.size → RdC w c (0 + (k : Int).toNat * 1) [.int .u8 ((byteAt s (k : Int)).toNat : Nat)] := by
    intro s c k h hk q u hu
    rw [show 0 + (k : Int).toNat * 1 = k by omega]
    cases q with
    | zero =>
      simp at hu; subst hu
      have := h k _ (byteVals_get hk)
      simpa using this
    | succ q => simp at hu
  repeat' (first | refine d1 ?_ | (show ∀ _ : Nat, T _ _ _ _ _; intro _))
  show T _ (.code (.region _ _ true) :: _) _ _ _
  refine T_draw 1000 [] ?_
  refine T_dval 0 rfl (by kernel_rfl) (by kernel_rfl) (by kernel_rfl) (by kernel_rfl) (by kernel_rfl) rfl rfl (Val.load (v := .slice (some ⟨ba, 0, none⟩) a.size ca) rfl (fun _ => rdOld h2)) rfl rfl rfl (by first | exact Hle.refl _ | exact Hle.none _) ?_
  refine T_dval 1 rfl (by kernel_rfl) (by kernel_rfl) (by kernel_rfl) (by kernel_rfl) (by kernel_rfl) rfl rfl (by first | exact Val.pure rfl | exact Val.vc rfl (fun hg => by first | omega | (simp only [inK]; omega) | exact True.intro | assumption) | exact Val.load rfl (fun _ => rdOwn1 rfl) | exact Val.loadA rfl (fun _ => rdAll) rfl) rfl rfl rfl (by first | exact Hle.refl _ | exact Hle.none _) ?_
  refine T_dval 2 rfl (by kernel_rfl) (by kernel_rfl) (by kernel_rfl) (by kernel_rfl) (by kernel_rfl) rfl rfl (by first | exact Val.pure rfl | exact Val.vc rfl (fun hg => by first | omega | (simp only [inK]; omega) | exact True.intro | assumption) | exact Val.load rfl (fun _ => rdOwn1 rfl) | exact Val.loadA rfl (fun _ => rdAll) rfl) rfl rfl rfl (by first | exact Hle.refl _ | exact Hle.none _) ?_
  refine T_dval 3 rfl (by kernel_rfl) (by kernel_rfl) (by kernel_rfl) (by kernel_rfl) (by kernel_rfl) rfl rfl (Val.load (v := .int .u8 ((byteAt a (i : Int)).toNat : Nat)) rfl (fun _ => rdOld (hx ha hi))) rfl rfl rfl (by first | exact Hle.refl _ | exact Hle.none _) ?_
  refine T_dval 4 rfl (by kernel_rfl) (by kernel_rfl) (by kernel_rfl) (by kernel_rfl) (by kernel_rfl) rfl rfl (Val.load (v := .slice (some ⟨bb, 0, none⟩) b.size cb) rfl (fun _ => rdOld h3)) rfl rfl rfl (by first | exact Hle.refl _ | exact Hle.none _) ?_
  refine T_dval 5 rfl (by kernel_rfl) (by kernel_rfl) (by kernel_rfl) (by kernel_rfl) (by kernel_rfl) rfl rfl (by first | exact Val.pure rfl | exact Val.vc rfl (fun hg => by first | omega | (simp only [inK]; omega) | exact True.intro | assumption) | exact Val.load rfl (fun _ => rdOwn1 rfl) | exact Val.loadA rfl (fun _ => rdAll) rfl) rfl rfl rfl (by first | exact Hle.refl _ | exact Hle.none _) ?_
  refine T_dval 6 rfl (by kernel_rfl) (by kernel_rfl) (by kernel_rfl) (by kernel_rfl) (by kernel_rfl) rfl rfl (by first | exact Val.pure rfl | exact Val.vc rfl (fun hg => by first | omega | (simp only [inK]; omega) | exact True.intro | assumption) | exact Val.load rfl (fun _ => rdOwn1 rfl) | exact Val.loadA rfl (fun _ => rdAll) rfl) rfl rfl rfl (by first | exact Hle.refl _ | exact Hle.none _) ?_
  refine T_dval 7 rfl (by kernel_rfl) (by kernel_rfl) (by kernel_rfl) (by kernel_rfl) (by kernel_rfl) rfl rfl (Val.load (v := .int .u8 ((byteAt b (j : Int)).toNat : Nat)) rfl (fun _ => rdOld (hx hb hj))) rfl rfl rfl (by first | exact Hle.refl _ | exact Hle.none _) ?_
  refine T_dval 8 rfl (by kernel_rfl) (by kernel_rfl) (by kernel_rfl) (by kernel_rfl) (by kernel_rfl) rfl rfl (by first | exact Val.pure rfl | exact Val.vc rfl (fun hg => by first | omega | (simp only [inK]; omega) | exact True.intro | assumption) | exact Val.load rfl (fun _ => rdOwn1 rfl) | exact Val.loadA rfl (fun _ => rdAll) rfl) rfl rfl rfl (by first | exact Hle.refl _ | exact Hle.none _) ?_
  refine T_dval 9 rfl (by kernel_rfl) (by kernel_rfl) (by kernel_rfl) (by kernel_rfl) (by kernel_rfl) rfl rfl (by first | exact Val.pure rfl | exact Val.vc rfl (fun hg => by first | omega | (simp only [inK]; omega) | exact True.intro | assumption) | exact Val.load rfl (fun _ => rdOwn1 rfl) | exact Val.loadA rfl (fun _ => rdAll) rfl) rfl rfl rfl (by first | exact Hle.refl _ | exact Hle.none _) ?_
  refine T_dend (by kernel_rfl) ?_
  repeat' (first | refine d1 ?_ | refine dd ?_ | (show ∀ _ : Nat, T _ _ _ _ _; intro _) | (show T _ (.code .ret :: _) _ _ _; refine T_retV [] rfl (Hle.none _) ⟨rfl, rfl⟩))
theorem equal_spec (sa sb : Value) (ha : sa.cells = #[sa]) (hb : sb.cells = #[sb]) (w : World) : Spec Tryd.prog 90 [sa, sb] w (fun v A => ∃ p2 p3, v = .func (.func 100) #[] #[.pointer (some ⟨p2, 0, none⟩), .pointer (some ⟨p3, 0, none⟩)] ∧ A = [blk p3 [sb] 85, blk p2 [sa] 85]) := by
  refine spec_of sg Tryd.func90 rfl rfl rfl ?_
  refine T_op (OpT.box (cs := [sa]) rfl rfl rfl (by rw [ha]) rfl rfl rfl (fun _ => ?_))
  refine T_op (OpT.box (cs := [sb]) rfl rfl rfl (by rw [hb]) rfl rfl rfl (fun _ => ?_))
  repeat' (first | refine d1 ?_ | refine dd ?_ | (show ∀ _ : Nat, T _ _ _ _ _; intro _) | (show T _ (.code .ret :: _) _ _ _; refine T_retV _ rfl (Hle.refl _) ⟨_, _, rfl, rfl⟩))
theorem of_spec (a b : ByteArray) (ha : a.size ≤ 65536) (hb : b.size ≤ 65536) (w : World) : Spec Tryd.prog 77 [.string a, .string b] w (fun v A => v = .int .i64 (lv (eqB a b) a.size b.size) ∧ A = []) := by
  refine spec_of sg Tryd.func77 rfl rfl rfl ?_
  repeat' (first | refine d1 ?_ | refine dd ?_ | (show ∀ _ : Nat, T _ _ _ _ _; intro _))
  refine T_op (OpT.bytes rfl rfl rfl rfl rfl (fun ba ca => ?_))
  repeat' (first | refine d1 ?_ | refine dd ?_ | (show ∀ _ : Nat, T _ _ _ _ _; intro _))
  refine T_op (OpT.bytes rfl rfl rfl rfl rfl (fun bb cb => ?_))
  refine T_op (OpT.call rfl rfl rfl rfl rfl (fun w _ => equal_spec _ _ rfl rfl w) ?_)
  rintro v A ⟨p2, p3, rfl, rfl⟩
  show T _ _ _ _ [blk p3 [.slice (some ⟨bb, 0, none⟩) b.size cb] 85, blk p2 [.slice (some ⟨ba, 0, none⟩) a.size ca] 85, byt bb 5 b, byt ba 5 a]
  repeat' (first | refine d1 ?_ | refine dd ?_ | (show T _ (.ops _ (_ :: _) :: _) _ _ _; refine T_call rfl rfl rfl rfl rfl (fun w hw => distances_spec a.size b.size ha hb _ [] [.pointer (some ⟨p2, 0, none⟩), .pointer (some ⟨p3, 0, none⟩)] (eqB a b) w (fun i j hi hj w' hb' => equal1_spec a b p2 p3 ba bb ca cb i j hi hj w' ((rdOwn1 (b := p2) rfl w hw).below hb') ((rdOwn1 (b := p3) rfl w hw).below hb') ((rdByt (b := ba) w hw).below hb') ((rdByt (b := bb) w hw).below hb'))) ?_) | (show ∀ _ : Nat, T _ _ _ _ _; intro _) | (show T _ (.code .ret :: _) _ _ _; refine T_retV [] rfl (Hle.none _) ⟨rfl, rfl⟩))
theorem longPrg_spec (n m : Int) (w : World) : Spec Tryd.prog 76 [.int .i64 n, .int .i64 m] w (fun v A => v = .bool (decide (256 < max n m)) ∧ A = []) := by
  refine spec_of sg Tryd.func76 rfl rfl rfl ?_
  repeat' (first | refine d1 ?_ | refine dd ?_ | (show ∀ _ : Nat, T _ _ _ _ _; intro _) | (show T _ (.code .ret :: _) _ _ _; refine T_retV [] rfl (Hle.none _) ⟨rfl, rfl⟩))
/-- The distance of two strings, and whether it is told. -/
theorem distPrg_spec (a b : ByteArray) (w : World) : Spec Tryd.prog 63 [.string a, .string b] w (fun v A => v = (if 256 < max (a.size : Int) b.size then .tuple #[.int .i64 0, .int .i64 4] else .tuple #[.int .i64 (lv (eqB a b) a.size b.size), .int .i64 0]) ∧ A = []) := by
  refine spec_of sg Tryd.func63 rfl rfl rfl ?_
  repeat' (first | refine d1 ?_ | refine dd ?_ | (show T _ (.ops _ (_ :: _) :: _) _ _ _; first | refine T_call rfl rfl rfl rfl rfl (fun w hw => longPrg_spec _ _ w) ?_ | refine T_callC rfl rfl rfl rfl rfl rfl rfl (fun hg w hw => longPrg_spec _ _ w) ?_) | (show T _ (.run _ _ (_ :: _) _ _ :: _) _ _ _; first | refine rc rfl rfl rfl rfl rfl rfl rfl (fun w hw => longPrg_spec _ _ w) ?_ | refine rcG rfl rfl rfl rfl rfl rfl rfl rfl rfl (fun hg w hw => longPrg_spec _ _ w) ?_) | (show ∀ _ : Nat, T _ _ _ _ _; intro _))
  refine T_if rfl (fun h => ?_) (fun h => ?_)
  · simp only [decide_eq_true_eq] at h
    repeat' (first | refine d1 ?_ | refine dd ?_ | (show ∀ _ : Nat, T _ _ _ _ _; intro _) | (show T _ (.code .ret :: _) _ _ _; refine T_retV [] rfl (Hle.none _) ⟨by rw [if_pos h]; rfl, rfl⟩))
  · simp only [decide_eq_false_iff_not] at h
    repeat' (first | refine d1 ?_ | refine dd ?_ | (show T _ (.ops _ (_ :: _) :: _) _ _ _; first | refine T_call rfl rfl rfl rfl rfl (fun w hw => of_spec a b (by omega) (by omega) w) ?_ | refine T_callC rfl rfl rfl rfl rfl rfl rfl (fun hg w hw => of_spec a b (by omega) (by omega) w) ?_) | (show T _ (.run _ _ (_ :: _) _ _ :: _) _ _ _; first | refine rc rfl rfl rfl rfl rfl rfl rfl (fun w hw => of_spec a b (by omega) (by omega) w) ?_ | refine rcG rfl rfl rfl rfl rfl rfl rfl rfl rfl (fun hg w hw => of_spec a b (by omega) (by omega) w) ?_) | (show ∀ _ : Nat, T _ _ _ _ _; intro _) | (show T _ (.code .ret :: _) _ _ _; refine T_retV [] rfl (Hle.none _) ⟨by rw [if_neg h]; rfl, rfl⟩))
end Go.Proofs.YtiglobijdegjdaaDoor
