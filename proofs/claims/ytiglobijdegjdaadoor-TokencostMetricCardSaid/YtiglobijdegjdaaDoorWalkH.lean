/- Walks: the distance, by the reference. -/
import Derived.Test.YtiglobijdegjdaaDoorWalkG
namespace Go.Proofs.YtiglobijdegjdaaDoor
open Go.RowKit Go.Shelf Go.Proofs
set_option maxRecDepth 100000
set_option maxHeartbeats 1000000

theorem bytesRef_spec (s : ByteArray) (hs : s.size ≤ 65536) (w : World) : Spec Tryd.prog 68 [.string s] w
    (fun v A => ∃ x : Option Addr × Nat, True ∧ v = .slice x.1 s.size x.2 ∧ A = [row 9 1 x.1 x.2 s.size (strs s s.size)]) := by
  refine spec_of sg Tryd.func68 rfl rfl rfl ?_
  repeat' (first | refine d1 ?_ | refine dd ?_ | (show ∀ _ : Nat, T _ _ _ _ _; intro _))
  refine T_nilrow 9 1 ?_
  refine T_loop (fun x : Nat × Option Addr × Nat => [(0, .string s), (3, .slice x.2.1 x.1 x.2.2), (4, .int .i64 x.1)]) (fun x => [row 9 1 x.2.1 x.2.2 x.1 (strs s x.1)]) (fun x => x.1 ≤ s.size) (fun x => s.size - x.1) (0, none, 0) (Nat.zero_le _) ⟨rfl, rfl, rfl, trivial⟩ (Hle.refl _) ?_
  rintro ⟨k, A, cap⟩ hk
  dsimp only at hk ⊢
  repeat' (first | refine d1 ?_ | refine dd ?_ | (show ∀ _ : Nat, T _ _ _ _ _; intro _))
  refine T_if rfl (fun h => ?_) (fun h => ?_)
  · simp only [decide_eq_true_eq] at h
    repeat' (first | refine d1 ?_ | refine dd ?_ | (show ∀ _ : Nat, T _ _ _ _ _; intro _))
    refine T_op (OpT.append rfl rfl rfl rfl rfl rfl rfl rfl rfl rfl (fun w hw => Src.own hw rfl) rfl (by dsimp only; omega) (by omega) (fun A' cap' _ => ?_))
    repeat' (first | refine d1 ?_ | refine dd ?_ | (show ∀ _ : Nat, T _ _ _ _ _; intro _))
    refine T_back (k + 1, A', cap') (Nat.succ_le_of_lt (by omega)) (by dsimp only; omega) ⟨rfl, rfl, rfl, trivial⟩ ?_
    show Hle [_, row 9 1 A' cap' (k + 1) (strs s k ++ [.string (s.extract k (k + 1))])] _
    rw [← strs_succ]
    exact Hle.tail _ _
  · simp only [decide_eq_false_iff_not] at h
    have hk2 : k = s.size := by omega
    subst hk2
    repeat' (first | refine d1 ?_ | refine dd ?_ | (show ∀ _ : Nat, T _ _ _ _ _; intro _) | (show T _ (.code .ret :: _) _ _ _; refine T_retV _ rfl (Hle.refl _) ⟨(A, cap), trivial, rfl, rfl⟩))

def slv (m : Nat) (x : Nat × List Value) : Value := .slice (some ⟨x.1, 0, none⟩) (m + 1) (m + 1)
def TabOk (e : Nat → Nat → Bool) (m i : Nat) (l : List (Nat × List Value)) : Prop := l.length = i ∧ ∀ (q : Nat) x, l[q]? = some x → x.2 = valV (lv e q) (m + 1)
theorem tableRef_spec (a b : ByteArray) (Aa Ab : Option Addr) (ca cb : Nat) (han : a.size ≤ 256) (hbn : b.size ≤ 256) (w : World) (ha : Src w 1 Aa a.size (strs a a.size)) (hb : Src w 1 Ab b.size (strs b b.size)) :
    Spec Tryd.prog 81 [.slice Aa a.size ca, .slice Ab b.size cb] w
    (fun v A => ∃ g cap l, TabOk (eqB a b) b.size (a.size + 1) l ∧ v = .slice (some ⟨g, 0, none⟩) (a.size + 1) cap ∧ A = [row 42 1 (some ⟨g, 0, none⟩) cap (a.size + 1) (l.map (slv b.size)), blks 3 l]) := by
  generalize hn : a.size = n at *
  generalize hm : b.size = m at *
  generalize he : eqB a b = e
  refine spec_of sg Tryd.func81 rfl rfl rfl ?_
  repeat' (first | refine d1 ?_ | refine dd ?_ | (show ∀ _ : Nat, T _ _ _ _ _; intro _))
  refine T_nilblks 3 ?_
  refine T_nilrow 42 1 ?_
  refine T_loop (fun x : Nat × Option Addr × Nat × List (Nat × List Value) => [(0, .slice Aa n ca), (1, .slice Ab m cb), (5, .slice x.2.1 x.1 x.2.2.1), (6, .int .i64 x.1)])
    (fun x => [row 42 1 x.2.1 x.2.2.1 x.1 (x.2.2.2.map (slv m)), blks 3 x.2.2.2]) (fun x => x.1 ≤ n + 1 ∧ TabOk e m x.1 x.2.2.2) (fun x => n + 1 - x.1) (0, none, 0, []) ⟨Nat.zero_le _, rfl, fun q x h => by simp at h⟩ ⟨rfl, rfl, rfl, rfl, trivial⟩ (Hle.refl _) ?_
  rintro ⟨i, A, cap, l⟩ ⟨hi, hl, hok⟩
  dsimp only at hi hl hok ⊢
  repeat' (first | refine d1 ?_ | refine dd ?_ | (show ∀ _ : Nat, T _ _ _ _ _; intro _))
  refine T_if rfl (fun h => ?_) (fun h => ?_)
  · simp only [decide_eq_true_eq] at h
    repeat' (first | refine d1 ?_ | refine dd ?_ | (show ∀ _ : Nat, T _ _ _ _ _; intro _))
    refine T_op (OpT.make rfl rfl rfl rfl rfl rfl rfl rfl rfl (by dsimp only; omega) (fun g => ?_))
    repeat' (first | refine d1 ?_ | refine dd ?_ | (show ∀ _ : Nat, T _ _ _ _ _; intro _))
    refine T_le (H' := [blk g (valV (mx (lv e i) (fun _ => 0) 0) (m + 1)) 3, row 42 1 A cap i (l.map (slv m)), blks 3 l]) ?_ ?_
    · show Hle (blk g (List.replicate (m + 1) (.int .i64 0)) 3 :: _) _
      rw [valV_replicate, valV_mx_zero]
      exact Hle.refl _
    refine T_loop (fun k : Nat => [(0, .slice Aa n ca), (1, .slice Ab m cb), (5, .slice A i cap), (6, .int .i64 i), (7, .slice (some ⟨g, 0, none⟩) (m + 1) (m + 1)), (8, .int .i64 k)])
      (fun k => [blk g (valV (mx (lv e i) (fun _ => 0) k) (m + 1)) 3, row 42 1 A cap i (l.map (slv m)), blks 3 l]) (fun k => k ≤ m + 1) (fun k => m + 1 - k) 0 (Nat.zero_le _) ⟨rfl, rfl, rfl, rfl, rfl, rfl, trivial⟩ (Hle.refl _) ?_
    intro k hk
    repeat' (first | refine d1 ?_ | refine dd ?_ | (show ∀ _ : Nat, T _ _ _ _ _; intro _))
    refine T_if rfl (fun h2 => ?_) (fun h2 => ?_)
    · simp only [decide_eq_true_eq] at h2
      repeat' (first | refine d1 ?_ | refine dd ?_ | (show ∀ _ : Nat, T _ _ _ _ _; intro _))
      refine T_if rfl (fun h3 => ?_) (fun h3 => ?_)
      · simp only [decide_eq_true_eq] at h3
        have hi0 : i = 0 := by omega
        subst hi0
        repeat' (first | refine d1 ?_ | refine dd ?_ | (show T _ (.ops _ (_ :: _) :: _) _ _ _; refine T_op (OpT.store (b := g) rfl rfl rfl rfl (by rw [valV_length]; omega) ?_)) | (show ∀ _ : Nat, T _ _ _ _ _; intro _))
        refine T_back (k + 1) (by omega) (by omega) ⟨rfl, rfl, rfl, rfl, rfl, rfl, trivial⟩ ?_
        show Hle (blk g ((valV (mx (lv e 0) (fun _ => 0) k) (m + 1)).set (0 + k * 1) (.int .i64 k)) 3 :: _) _
        rw [show 0 + k * 1 = k by omega, valV_set (f := lv e 0) (x := (k : Int)) rfl]
        exact Hle.refl _
      simp only [decide_eq_false_iff_not] at h3
      repeat' (first | refine d1 ?_ | refine dd ?_ | (show ∀ _ : Nat, T _ _ _ _ _; intro _))
      refine T_if rfl (fun h4 => ?_) (fun h4 => ?_)
      · simp only [decide_eq_true_eq] at h4
        have hk0 : k = 0 := by omega
        subst hk0
        repeat' (first | refine d1 ?_ | refine dd ?_ | (show T _ (.ops _ (_ :: _) :: _) _ _ _; refine T_op (OpT.store (b := g) rfl rfl rfl rfl (by rw [valV_length]; omega) ?_)) | (show ∀ _ : Nat, T _ _ _ _ _; intro _))
        refine T_back 1 (by omega) (by omega) ⟨rfl, rfl, rfl, rfl, rfl, rfl, trivial⟩ ?_
        show Hle (blk g ((valV (mx (lv e i) (fun _ => 0) 0) (m + 1)).set 0 (.int .i64 i)) 3 :: _) _
        rw [valV_set (f := lv e i) (x := (i : Int)) (by obtain ⟨i', rfl⟩ : ∃ i', i = i' + 1 := ⟨i - 1, by omega⟩; rw [lv_left]; rfl)]
        exact Hle.refl _
      simp only [decide_eq_false_iff_not] at h4
      obtain ⟨⟨g1, cs1⟩, hx⟩ : ∃ x, l[i - 1]? = some x := ⟨_, List.getElem?_eq_getElem (by omega)⟩
      have hcs := hok _ _ hx
      dsimp only at hcs
      refine T_rowpos (A := A) (by omega) (fun gA hA => ?_)
      subst hA
      obtain ⟨ba, oa, rfl⟩ := ha.base (by omega)
      obtain ⟨bb, ob, rfl⟩ := hb.base (by omega)
      have B1 := lv_bd e (i - 1) k
      have B2 := lv_bd e i (k - 1)
      have B3 := lv_bd e (i - 1) (k - 1)
      show T _ (.code (.region _ _ true) :: _) _ _ _
      refine T_draw 18 [blk g (valV (mx (lv e i) (fun _ => 0) k) (m + 1)) 3, row 42 1 (some ⟨gA, 0, none⟩) cap i (l.map (slv m)), blks 3 l] ?_
      refine T_dval 0 rfl (by kernel_rfl) (by kernel_rfl) (by kernel_rfl) (by kernel_rfl) (by kernel_rfl) rfl rfl (by first | exact Val.pure rfl | exact Val.vc rfl (fun hg => by first | omega | (simp only [inK]; omega) | exact True.intro | assumption) | exact Val.load rfl (fun _ => rdOwn1 rfl) | exact Val.loadA rfl (fun _ => rdAll) rfl) rfl rfl rfl (by first | exact Hle.refl _ | exact Hle.none _) ?_
      refine T_dval 1 rfl (by kernel_rfl) (by kernel_rfl) (by kernel_rfl) (by kernel_rfl) (by kernel_rfl) rfl rfl (by first | exact Val.pure rfl | exact Val.vc rfl (fun hg => by first | omega | (simp only [inK]; omega) | exact True.intro | assumption) | exact Val.load rfl (fun _ => rdOwn1 rfl) | exact Val.loadA rfl (fun _ => rdAll) rfl) rfl rfl rfl (by first | exact Hle.refl _ | exact Hle.none _) ?_
      refine T_dval 2 rfl (by kernel_rfl) (by kernel_rfl) (by kernel_rfl) (by kernel_rfl) (by kernel_rfl) rfl rfl (by first | exact Val.pure rfl | exact Val.vc rfl (fun hg => by first | omega | (simp only [inK]; omega) | exact True.intro | assumption) | exact Val.load rfl (fun _ => rdOwn1 rfl) | exact Val.loadA rfl (fun _ => rdAll) rfl) rfl rfl rfl (by first | exact Hle.refl _ | exact Hle.none _) ?_
      refine T_dval 3 rfl (by kernel_rfl) (by kernel_rfl) (by kernel_rfl) (by kernel_rfl) (by kernel_rfl) rfl rfl (by first | exact Val.pure rfl | exact Val.vc rfl (fun hg => by first | omega | (simp only [inK]; omega) | exact True.intro | assumption) | exact Val.load rfl (fun _ => rdOwn1 rfl) | exact Val.loadA rfl (fun _ => rdAll) rfl) rfl rfl rfl (by first | exact Hle.refl _ | exact Hle.none _) ?_
      refine T_dval 4 rfl (by kernel_rfl) (by kernel_rfl) (by kernel_rfl) (by kernel_rfl) (by kernel_rfl) rfl rfl (by first | exact Val.pure rfl | exact Val.vc rfl (fun hg => by first | omega | (simp only [inK]; omega) | exact True.intro | assumption) | exact Val.load rfl (fun _ => rdOwn1 rfl) | exact Val.loadA rfl (fun _ => rdAll) rfl) rfl rfl rfl (by first | exact Hle.refl _ | exact Hle.none _) ?_
      refine T_dval 5 rfl (by kernel_rfl) (by kernel_rfl) (by kernel_rfl) (by kernel_rfl) (by kernel_rfl) rfl rfl (by first | exact Val.pure rfl | exact Val.vc rfl (fun hg => by first | omega | (simp only [inK]; omega) | exact True.intro | assumption) | exact Val.load rfl (fun _ => rdOwn1 rfl) | exact Val.loadA rfl (fun _ => rdAll) rfl) rfl rfl rfl (by first | exact Hle.refl _ | exact Hle.none _) ?_
      refine T_dval 6 rfl (by kernel_rfl) (by kernel_rfl) (by kernel_rfl) (by kernel_rfl) (by kernel_rfl) rfl rfl (Val.load (v := .slice (some ⟨g1, 0, none⟩) (m + 1) (m + 1)) rfl (fun _ => rdRow (A := some ⟨gA, 0, none⟩) (by omega) (get1 (by rw [show 0 + ((i : Int) - 1).toNat * 1 = i - 1 by omega, List.getElem?_map, hx]; rfl)))) rfl rfl rfl (by first | exact Hle.refl _ | exact Hle.none _) ?_
      refine T_dval 7 rfl (by kernel_rfl) (by kernel_rfl) (by kernel_rfl) (by kernel_rfl) (by kernel_rfl) rfl rfl (by first | exact Val.pure rfl | exact Val.vc rfl (fun hg => by first | omega | (simp only [inK]; omega) | exact True.intro | assumption) | exact Val.load rfl (fun _ => rdOwn1 rfl) | exact Val.loadA rfl (fun _ => rdAll) rfl) rfl rfl rfl (by first | exact Hle.refl _ | exact Hle.none _) ?_
      refine T_dval 8 rfl (by kernel_rfl) (by kernel_rfl) (by kernel_rfl) (by kernel_rfl) (by kernel_rfl) rfl rfl (by first | exact Val.pure rfl | exact Val.vc rfl (fun hg => by first | omega | (simp only [inK]; omega) | exact True.intro | assumption) | exact Val.load rfl (fun _ => rdOwn1 rfl) | exact Val.loadA rfl (fun _ => rdAll) rfl) rfl rfl rfl (by first | exact Hle.refl _ | exact Hle.none _) ?_
      refine T_dval 9 rfl (by kernel_rfl) (by kernel_rfl) (by kernel_rfl) (by kernel_rfl) (by kernel_rfl) rfl rfl (Val.load (v := .int .i64 (lv e (i - 1) (k))) rfl (fun _ => rdM (l := l) (k := i - 1) hx (get1 (by rw [hcs]; exact vget (k) (by omega) (by omega))))) rfl rfl rfl (by first | exact Hle.refl _ | exact Hle.none _) ?_
      refine T_dval 10 rfl (by kernel_rfl) (by kernel_rfl) (by kernel_rfl) (by kernel_rfl) (by kernel_rfl) rfl rfl (by first | exact Val.pure rfl | exact Val.vc rfl (fun hg => by first | omega | (simp only [inK]; omega) | exact True.intro | assumption) | exact Val.load rfl (fun _ => rdOwn1 rfl) | exact Val.loadA rfl (fun _ => rdAll) rfl) rfl rfl rfl (by first | exact Hle.refl _ | exact Hle.none _) ?_
      refine T_dval 11 rfl (by kernel_rfl) (by kernel_rfl) (by kernel_rfl) (by kernel_rfl) (by kernel_rfl) rfl rfl (by first | exact Val.pure rfl | exact Val.vc rfl (fun hg => by first | omega | (simp only [inK]; omega) | exact True.intro | assumption) | exact Val.load rfl (fun _ => rdOwn1 rfl) | exact Val.loadA rfl (fun _ => rdAll) rfl) rfl rfl rfl (by first | exact Hle.refl _ | exact Hle.none _) ?_
      refine T_dval 12 rfl (by kernel_rfl) (by kernel_rfl) (by kernel_rfl) (by kernel_rfl) (by kernel_rfl) rfl rfl (by first | exact Val.pure rfl | exact Val.vc rfl (fun hg => by first | omega | (simp only [inK]; omega) | exact True.intro | assumption) | exact Val.load rfl (fun _ => rdOwn1 rfl) | exact Val.loadA rfl (fun _ => rdAll) rfl) rfl rfl rfl (by first | exact Hle.refl _ | exact Hle.none _) ?_
      refine T_dval 13 rfl (by kernel_rfl) (by kernel_rfl) (by kernel_rfl) (by kernel_rfl) (by kernel_rfl) rfl rfl (by first | exact Val.pure rfl | exact Val.vc rfl (fun hg => by first | omega | (simp only [inK]; omega) | exact True.intro | assumption) | exact Val.load rfl (fun _ => rdOwn1 rfl) | exact Val.loadA rfl (fun _ => rdAll) rfl) rfl rfl rfl (by first | exact Hle.refl _ | exact Hle.none _) ?_
      refine T_dval 14 rfl (by kernel_rfl) (by kernel_rfl) (by kernel_rfl) (by kernel_rfl) (by kernel_rfl) rfl rfl (Val.load (v := .int .i64 (lv e i (k - 1))) rfl (fun _ => rdOwn1 (b := g) (vgetm (k - 1) (by omega) (by omega) (by omega)))) rfl rfl rfl (by first | exact Hle.refl _ | exact Hle.none _) ?_
      refine T_dval 15 rfl (by kernel_rfl) (by kernel_rfl) (by kernel_rfl) (by kernel_rfl) (by kernel_rfl) rfl rfl (by first | exact Val.pure rfl | exact Val.vc rfl (fun hg => by first | omega | (simp only [inK]; omega) | exact True.intro | assumption) | exact Val.load rfl (fun _ => rdOwn1 rfl) | exact Val.loadA rfl (fun _ => rdAll) rfl) rfl rfl rfl (by first | exact Hle.refl _ | exact Hle.none _) ?_
      refine T_dval 16 rfl (by kernel_rfl) (by kernel_rfl) (by kernel_rfl) (by kernel_rfl) (by kernel_rfl) rfl rfl (by first | exact Val.pure rfl | exact Val.vc rfl (fun hg => by first | omega | (simp only [inK]; omega) | exact True.intro | assumption) | exact Val.load rfl (fun _ => rdOwn1 rfl) | exact Val.loadA rfl (fun _ => rdAll) rfl) rfl rfl rfl (by first | exact Hle.refl _ | exact Hle.none _) ?_
      refine T_dval 17 rfl (by kernel_rfl) (by kernel_rfl) (by kernel_rfl) (by kernel_rfl) (by kernel_rfl) rfl rfl (by first | exact Val.pure rfl | exact Val.vc rfl (fun hg => by first | omega | (simp only [inK]; omega) | exact True.intro | assumption) | exact Val.load rfl (fun _ => rdOwn1 rfl) | exact Val.loadA rfl (fun _ => rdAll) rfl) rfl rfl rfl (by first | exact Hle.refl _ | exact Hle.none _) ?_
      refine T_dop 18 (by kernel_rfl) rfl (OpT.store (b := g) rfl rfl rfl rfl (by rw [valV_length]; omega) ⟨fun h => (by cases h), ?_⟩)
      refine T_dend (by kernel_rfl) ?_
      generalize hx1 : min (lv e (i - 1) k) (lv e i (k - 1)) + 1 = x1
      refine T_le (H' := [blk g ((valV (mx (lv e i) (fun _ => 0) k) (m + 1)).set k (.int .i64 x1)) 3, row 42 1 (some ⟨gA, 0, none⟩) cap i (l.map (slv m)), blks 3 l]) ?_ ?_
      · show Hle (blk g ((valV (mx (lv e i) (fun _ => 0) k) (m + 1)).set (0 + k * 1) (.int .i64 x1)) 3 :: _) _
        rw [show 0 + k * 1 = k by omega]
        exact Hle.refl _
      show T _ (.code (.region _ _ true) :: _) _ _ _
      refine T_draw 1000 [] ?_
      refine T_dval 0 rfl (by kernel_rfl) (by kernel_rfl) (by kernel_rfl) (by kernel_rfl) (by kernel_rfl) rfl rfl (by first | exact Val.pure rfl | exact Val.vc rfl (fun hg => by first | omega | (simp only [inK]; omega) | exact True.intro | assumption) | exact Val.load rfl (fun _ => rdOwn1 rfl) | exact Val.loadA rfl (fun _ => rdAll) rfl) rfl rfl rfl (by first | exact Hle.refl _ | exact Hle.none _) ?_
      refine T_dval 1 rfl (by kernel_rfl) (by kernel_rfl) (by kernel_rfl) (by kernel_rfl) (by kernel_rfl) rfl rfl (by first | exact Val.pure rfl | exact Val.vc rfl (fun hg => by first | omega | (simp only [inK]; omega) | exact True.intro | assumption) | exact Val.load rfl (fun _ => rdOwn1 rfl) | exact Val.loadA rfl (fun _ => rdAll) rfl) rfl rfl rfl (by first | exact Hle.refl _ | exact Hle.none _) ?_
      refine T_dval 2 rfl (by kernel_rfl) (by kernel_rfl) (by kernel_rfl) (by kernel_rfl) (by kernel_rfl) rfl rfl (by first | exact Val.pure rfl | exact Val.vc rfl (fun hg => by first | omega | (simp only [inK]; omega) | exact True.intro | assumption) | exact Val.load rfl (fun _ => rdOwn1 rfl) | exact Val.loadA rfl (fun _ => rdAll) rfl) rfl rfl rfl (by first | exact Hle.refl _ | exact Hle.none _) ?_
      refine T_dval 3 rfl (by kernel_rfl) (by kernel_rfl) (by kernel_rfl) (by kernel_rfl) (by kernel_rfl) rfl rfl (by first | exact Val.pure rfl | exact Val.vc rfl (fun hg => by first | omega | (simp only [inK]; omega) | exact True.intro | assumption) | exact Val.load rfl (fun _ => rdOwn1 rfl) | exact Val.loadA rfl (fun _ => rdAll) rfl) rfl rfl rfl (by first | exact Hle.refl _ | exact Hle.none _) ?_
      refine T_dval 4 rfl (by kernel_rfl) (by kernel_rfl) (by kernel_rfl) (by kernel_rfl) (by kernel_rfl) rfl rfl (Val.load (v := .string (a.extract (i - 1) (i - 1 + 1))) rfl (fun _ => rdOld (by rw [show ((i : Int) - 1).toNat = i - 1 by omega]; exact (ha.get1 (i := i - 1) (by omega) (strs_get (by omega))).2))) rfl rfl rfl (by first | exact Hle.refl _ | exact Hle.none _) ?_
      refine T_dval 5 rfl (by kernel_rfl) (by kernel_rfl) (by kernel_rfl) (by kernel_rfl) (by kernel_rfl) rfl rfl (by first | exact Val.pure rfl | exact Val.vc rfl (fun hg => by first | omega | (simp only [inK]; omega) | exact True.intro | assumption) | exact Val.load rfl (fun _ => rdOwn1 rfl) | exact Val.loadA rfl (fun _ => rdAll) rfl) rfl rfl rfl (by first | exact Hle.refl _ | exact Hle.none _) ?_
      refine T_dval 6 rfl (by kernel_rfl) (by kernel_rfl) (by kernel_rfl) (by kernel_rfl) (by kernel_rfl) rfl rfl (by first | exact Val.pure rfl | exact Val.vc rfl (fun hg => by first | omega | (simp only [inK]; omega) | exact True.intro | assumption) | exact Val.load rfl (fun _ => rdOwn1 rfl) | exact Val.loadA rfl (fun _ => rdAll) rfl) rfl rfl rfl (by first | exact Hle.refl _ | exact Hle.none _) ?_
      refine T_dval 7 rfl (by kernel_rfl) (by kernel_rfl) (by kernel_rfl) (by kernel_rfl) (by kernel_rfl) rfl rfl (by first | exact Val.pure rfl | exact Val.vc rfl (fun hg => by first | omega | (simp only [inK]; omega) | exact True.intro | assumption) | exact Val.load rfl (fun _ => rdOwn1 rfl) | exact Val.loadA rfl (fun _ => rdAll) rfl) rfl rfl rfl (by first | exact Hle.refl _ | exact Hle.none _) ?_
      refine T_dval 8 rfl (by kernel_rfl) (by kernel_rfl) (by kernel_rfl) (by kernel_rfl) (by kernel_rfl) rfl rfl (by first | exact Val.pure rfl | exact Val.vc rfl (fun hg => by first | omega | (simp only [inK]; omega) | exact True.intro | assumption) | exact Val.load rfl (fun _ => rdOwn1 rfl) | exact Val.loadA rfl (fun _ => rdAll) rfl) rfl rfl rfl (by first | exact Hle.refl _ | exact Hle.none _) ?_
      refine T_dval 9 rfl (by kernel_rfl) (by kernel_rfl) (by kernel_rfl) (by kernel_rfl) (by kernel_rfl) rfl rfl (Val.load (v := .string (b.extract (k - 1) (k - 1 + 1))) rfl (fun _ => rdOld (by rw [show ((k : Int) - 1).toNat = k - 1 by omega]; exact (hb.get1 (i := k - 1) (by omega) (strs_get (by omega))).2))) rfl rfl rfl (by first | exact Hle.refl _ | exact Hle.none _) ?_
      refine T_dval 10 rfl (by kernel_rfl) (by kernel_rfl) (by kernel_rfl) (by kernel_rfl) (by kernel_rfl) rfl rfl (by first | exact Val.pure rfl | exact Val.vc rfl (fun hg => by first | omega | (simp only [inK]; omega) | exact True.intro | assumption) | exact Val.load rfl (fun _ => rdOwn1 rfl) | exact Val.loadA rfl (fun _ => rdAll) rfl) rfl rfl rfl (by first | exact Hle.refl _ | exact Hle.none _) ?_
      refine T_dend (by kernel_rfl) ?_
      rw [extract_eq (by omega) (by omega)]
      have hstep : lv e i k = min (min (lv e (i - 1) k) (lv e i (k - 1)) + 1) (lv e (i - 1) (k - 1) + if e (i - 1) (k - 1) then 0 else 1) := by
        obtain ⟨i', rfl⟩ : ∃ i', i = i' + 1 := ⟨i - 1, by omega⟩
        obtain ⟨k', rfl⟩ : ∃ k', k = k' + 1 := ⟨k - 1, by omega⟩
        exact lv_step e i' k'
      have h6 : decide (((byteAt a ((i - 1 : Nat) : Int)).toNat : Int) = ((byteAt b ((k - 1 : Nat) : Int)).toNat : Int)) = e (i - 1) (k - 1) := by rw [← he]; rfl
      rw [h6]
      refine T_if rfl (fun h5 => ?_) (fun h5 => ?_)
      · show T _ (.code (.region _ _ true) :: _) _ _ _
        refine T_draw 17 [blk g ((valV (mx (lv e i) (fun _ => 0) k) (m + 1)).set k (.int .i64 x1)) 3, row 42 1 (some ⟨gA, 0, none⟩) cap i (l.map (slv m)), blks 3 l] ?_
        refine T_dval 0 rfl (by kernel_rfl) (by kernel_rfl) (by kernel_rfl) (by kernel_rfl) (by kernel_rfl) rfl rfl (by first | exact Val.pure rfl | exact Val.vc rfl (fun hg => by first | omega | (simp only [inK]; omega) | exact True.intro | assumption) | exact Val.load rfl (fun _ => rdOwn1 rfl) | exact Val.loadA rfl (fun _ => rdAll) rfl) rfl rfl rfl (by first | exact Hle.refl _ | exact Hle.none _) ?_
        refine T_dval 1 rfl (by kernel_rfl) (by kernel_rfl) (by kernel_rfl) (by kernel_rfl) (by kernel_rfl) rfl rfl (by first | exact Val.pure rfl | exact Val.vc rfl (fun hg => by first | omega | (simp only [inK]; omega) | exact True.intro | assumption) | exact Val.load rfl (fun _ => rdOwn1 rfl) | exact Val.loadA rfl (fun _ => rdAll) rfl) rfl rfl rfl (by first | exact Hle.refl _ | exact Hle.none _) ?_
        refine T_dval 2 rfl (by kernel_rfl) (by kernel_rfl) (by kernel_rfl) (by kernel_rfl) (by kernel_rfl) rfl rfl (by first | exact Val.pure rfl | exact Val.vc rfl (fun hg => by first | omega | (simp only [inK]; omega) | exact True.intro | assumption) | exact Val.load rfl (fun _ => rdOwn1 rfl) | exact Val.loadA rfl (fun _ => rdAll) rfl) rfl rfl rfl (by first | exact Hle.refl _ | exact Hle.none _) ?_
        refine T_dval 3 rfl (by kernel_rfl) (by kernel_rfl) (by kernel_rfl) (by kernel_rfl) (by kernel_rfl) rfl rfl (by first | exact Val.pure rfl | exact Val.vc rfl (fun hg => by first | omega | (simp only [inK]; omega) | exact True.intro | assumption) | exact Val.load rfl (fun _ => rdOwn1 rfl) | exact Val.loadA rfl (fun _ => rdAll) rfl) rfl rfl rfl (by first | exact Hle.refl _ | exact Hle.none _) ?_
        refine T_dval 4 rfl (by kernel_rfl) (by kernel_rfl) (by kernel_rfl) (by kernel_rfl) (by kernel_rfl) rfl rfl (by first | exact Val.pure rfl | exact Val.vc rfl (fun hg => by first | omega | (simp only [inK]; omega) | exact True.intro | assumption) | exact Val.load rfl (fun _ => rdOwn1 rfl) | exact Val.loadA rfl (fun _ => rdAll) rfl) rfl rfl rfl (by first | exact Hle.refl _ | exact Hle.none _) ?_
        refine T_dval 5 rfl (by kernel_rfl) (by kernel_rfl) (by kernel_rfl) (by kernel_rfl) (by kernel_rfl) rfl rfl (Val.load (v := .int .i64 x1) rfl (fun _ => rdOwn1 (b := g) (by rw [show 0 + (k : Int).toNat * 1 = k by omega, List.getElem?_set_self (by rw [valV_length]; omega)]))) rfl rfl rfl (by first | exact Hle.refl _ | exact Hle.none _) ?_
        refine T_dval 6 rfl (by kernel_rfl) (by kernel_rfl) (by kernel_rfl) (by kernel_rfl) (by kernel_rfl) rfl rfl (by first | exact Val.pure rfl | exact Val.vc rfl (fun hg => by first | omega | (simp only [inK]; omega) | exact True.intro | assumption) | exact Val.load rfl (fun _ => rdOwn1 rfl) | exact Val.loadA rfl (fun _ => rdAll) rfl) rfl rfl rfl (by first | exact Hle.refl _ | exact Hle.none _) ?_
        refine T_dval 7 rfl (by kernel_rfl) (by kernel_rfl) (by kernel_rfl) (by kernel_rfl) (by kernel_rfl) rfl rfl (by first | exact Val.pure rfl | exact Val.vc rfl (fun hg => by first | omega | (simp only [inK]; omega) | exact True.intro | assumption) | exact Val.load rfl (fun _ => rdOwn1 rfl) | exact Val.loadA rfl (fun _ => rdAll) rfl) rfl rfl rfl (by first | exact Hle.refl _ | exact Hle.none _) ?_
        refine T_dval 8 rfl (by kernel_rfl) (by kernel_rfl) (by kernel_rfl) (by kernel_rfl) (by kernel_rfl) rfl rfl (by first | exact Val.pure rfl | exact Val.vc rfl (fun hg => by first | omega | (simp only [inK]; omega) | exact True.intro | assumption) | exact Val.load rfl (fun _ => rdOwn1 rfl) | exact Val.loadA rfl (fun _ => rdAll) rfl) rfl rfl rfl (by first | exact Hle.refl _ | exact Hle.none _) ?_
        refine T_dval 9 rfl (by kernel_rfl) (by kernel_rfl) (by kernel_rfl) (by kernel_rfl) (by kernel_rfl) rfl rfl (by first | exact Val.pure rfl | exact Val.vc rfl (fun hg => by first | omega | (simp only [inK]; omega) | exact True.intro | assumption) | exact Val.load rfl (fun _ => rdOwn1 rfl) | exact Val.loadA rfl (fun _ => rdAll) rfl) rfl rfl rfl (by first | exact Hle.refl _ | exact Hle.none _) ?_
        refine T_dval 10 rfl (by kernel_rfl) (by kernel_rfl) (by kernel_rfl) (by kernel_rfl) (by kernel_rfl) rfl rfl (Val.load (v := .slice (some ⟨g1, 0, none⟩) (m + 1) (m + 1)) rfl (fun _ => rdRow (A := some ⟨gA, 0, none⟩) (by omega) (get1 (by rw [show 0 + ((i : Int) - 1).toNat * 1 = i - 1 by omega, List.getElem?_map, hx]; rfl)))) rfl rfl rfl (by first | exact Hle.refl _ | exact Hle.none _) ?_
        refine T_dval 11 rfl (by kernel_rfl) (by kernel_rfl) (by kernel_rfl) (by kernel_rfl) (by kernel_rfl) rfl rfl (by first | exact Val.pure rfl | exact Val.vc rfl (fun hg => by first | omega | (simp only [inK]; omega) | exact True.intro | assumption) | exact Val.load rfl (fun _ => rdOwn1 rfl) | exact Val.loadA rfl (fun _ => rdAll) rfl) rfl rfl rfl (by first | exact Hle.refl _ | exact Hle.none _) ?_
        refine T_dval 12 rfl (by kernel_rfl) (by kernel_rfl) (by kernel_rfl) (by kernel_rfl) (by kernel_rfl) rfl rfl (by first | exact Val.pure rfl | exact Val.vc rfl (fun hg => by first | omega | (simp only [inK]; omega) | exact True.intro | assumption) | exact Val.load rfl (fun _ => rdOwn1 rfl) | exact Val.loadA rfl (fun _ => rdAll) rfl) rfl rfl rfl (by first | exact Hle.refl _ | exact Hle.none _) ?_
        refine T_dval 13 rfl (by kernel_rfl) (by kernel_rfl) (by kernel_rfl) (by kernel_rfl) (by kernel_rfl) rfl rfl (by first | exact Val.pure rfl | exact Val.vc rfl (fun hg => by first | omega | (simp only [inK]; omega) | exact True.intro | assumption) | exact Val.load rfl (fun _ => rdOwn1 rfl) | exact Val.loadA rfl (fun _ => rdAll) rfl) rfl rfl rfl (by first | exact Hle.refl _ | exact Hle.none _) ?_
        refine T_dval 14 rfl (by kernel_rfl) (by kernel_rfl) (by kernel_rfl) (by kernel_rfl) (by kernel_rfl) rfl rfl (Val.load (v := .int .i64 (lv e (i - 1) (k - 1))) rfl (fun _ => rdM (l := l) (k := i - 1) hx (get1 (by rw [hcs]; exact vget (k - 1) (by omega) (by omega))))) rfl rfl rfl (by first | exact Hle.refl _ | exact Hle.none _) ?_
        refine T_dval 15 rfl (by kernel_rfl) (by kernel_rfl) (by kernel_rfl) (by kernel_rfl) (by kernel_rfl) rfl rfl (by first | exact Val.pure rfl | exact Val.vc rfl (fun hg => by first | omega | (simp only [inK]; omega) | exact True.intro | assumption) | exact Val.load rfl (fun _ => rdOwn1 rfl) | exact Val.loadA rfl (fun _ => rdAll) rfl) rfl rfl rfl (by first | exact Hle.refl _ | exact Hle.none _) ?_
        refine T_dval 16 rfl (by kernel_rfl) (by kernel_rfl) (by kernel_rfl) (by kernel_rfl) (by kernel_rfl) rfl rfl (by first | exact Val.pure rfl | exact Val.vc rfl (fun hg => by first | omega | (simp only [inK]; omega) | exact True.intro | assumption) | exact Val.load rfl (fun _ => rdOwn1 rfl) | exact Val.loadA rfl (fun _ => rdAll) rfl) rfl rfl rfl (by first | exact Hle.refl _ | exact Hle.none _) ?_
        refine T_dop 17 (by kernel_rfl) rfl (OpT.store (b := g) rfl rfl rfl rfl (by rw [List.length_set, valV_length]; omega) ⟨fun h => (by cases h), ?_⟩)
        refine T_dend (by kernel_rfl) ?_
        repeat' (first | refine d1 ?_ | refine dd ?_ | (show ∀ _ : Nat, T _ _ _ _ _; intro _))
        refine T_back (k + 1) (by omega) (by omega) ⟨rfl, rfl, rfl, rfl, rfl, rfl, trivial⟩ ?_
        show Hle (blk g (((valV (mx (lv e i) (fun _ => 0) k) (m + 1)).set k (.int .i64 x1)).set (0 + k * 1) (.int .i64 (min x1 (lv e (i - 1) (k - 1))))) 3 :: _) _
        rw [show 0 + k * 1 = k by omega, List.set_set, valV_set (f := lv e i) (by rw [hstep, h5]; simp only [Bool.false_eq_true, if_false, if_true]; omega)]
        exact Hle.refl _
      · show T _ (.code (.region _ _ true) :: _) _ _ _
        refine T_draw 18 [blk g ((valV (mx (lv e i) (fun _ => 0) k) (m + 1)).set k (.int .i64 x1)) 3, row 42 1 (some ⟨gA, 0, none⟩) cap i (l.map (slv m)), blks 3 l] ?_
        refine T_dval 0 rfl (by kernel_rfl) (by kernel_rfl) (by kernel_rfl) (by kernel_rfl) (by kernel_rfl) rfl rfl (by first | exact Val.pure rfl | exact Val.vc rfl (fun hg => by first | omega | (simp only [inK]; omega) | exact True.intro | assumption) | exact Val.load rfl (fun _ => rdOwn1 rfl) | exact Val.loadA rfl (fun _ => rdAll) rfl) rfl rfl rfl (by first | exact Hle.refl _ | exact Hle.none _) ?_
        refine T_dval 1 rfl (by kernel_rfl) (by kernel_rfl) (by kernel_rfl) (by kernel_rfl) (by kernel_rfl) rfl rfl (by first | exact Val.pure rfl | exact Val.vc rfl (fun hg => by first | omega | (simp only [inK]; omega) | exact True.intro | assumption) | exact Val.load rfl (fun _ => rdOwn1 rfl) | exact Val.loadA rfl (fun _ => rdAll) rfl) rfl rfl rfl (by first | exact Hle.refl _ | exact Hle.none _) ?_
        refine T_dval 2 rfl (by kernel_rfl) (by kernel_rfl) (by kernel_rfl) (by kernel_rfl) (by kernel_rfl) rfl rfl (by first | exact Val.pure rfl | exact Val.vc rfl (fun hg => by first | omega | (simp only [inK]; omega) | exact True.intro | assumption) | exact Val.load rfl (fun _ => rdOwn1 rfl) | exact Val.loadA rfl (fun _ => rdAll) rfl) rfl rfl rfl (by first | exact Hle.refl _ | exact Hle.none _) ?_
        refine T_dval 3 rfl (by kernel_rfl) (by kernel_rfl) (by kernel_rfl) (by kernel_rfl) (by kernel_rfl) rfl rfl (by first | exact Val.pure rfl | exact Val.vc rfl (fun hg => by first | omega | (simp only [inK]; omega) | exact True.intro | assumption) | exact Val.load rfl (fun _ => rdOwn1 rfl) | exact Val.loadA rfl (fun _ => rdAll) rfl) rfl rfl rfl (by first | exact Hle.refl _ | exact Hle.none _) ?_
        refine T_dval 4 rfl (by kernel_rfl) (by kernel_rfl) (by kernel_rfl) (by kernel_rfl) (by kernel_rfl) rfl rfl (by first | exact Val.pure rfl | exact Val.vc rfl (fun hg => by first | omega | (simp only [inK]; omega) | exact True.intro | assumption) | exact Val.load rfl (fun _ => rdOwn1 rfl) | exact Val.loadA rfl (fun _ => rdAll) rfl) rfl rfl rfl (by first | exact Hle.refl _ | exact Hle.none _) ?_
        refine T_dval 5 rfl (by kernel_rfl) (by kernel_rfl) (by kernel_rfl) (by kernel_rfl) (by kernel_rfl) rfl rfl (Val.load (v := .int .i64 x1) rfl (fun _ => rdOwn1 (b := g) (by rw [show 0 + (k : Int).toNat * 1 = k by omega, List.getElem?_set_self (by rw [valV_length]; omega)]))) rfl rfl rfl (by first | exact Hle.refl _ | exact Hle.none _) ?_
        refine T_dval 6 rfl (by kernel_rfl) (by kernel_rfl) (by kernel_rfl) (by kernel_rfl) (by kernel_rfl) rfl rfl (by first | exact Val.pure rfl | exact Val.vc rfl (fun hg => by first | omega | (simp only [inK]; omega) | exact True.intro | assumption) | exact Val.load rfl (fun _ => rdOwn1 rfl) | exact Val.loadA rfl (fun _ => rdAll) rfl) rfl rfl rfl (by first | exact Hle.refl _ | exact Hle.none _) ?_
        refine T_dval 7 rfl (by kernel_rfl) (by kernel_rfl) (by kernel_rfl) (by kernel_rfl) (by kernel_rfl) rfl rfl (by first | exact Val.pure rfl | exact Val.vc rfl (fun hg => by first | omega | (simp only [inK]; omega) | exact True.intro | assumption) | exact Val.load rfl (fun _ => rdOwn1 rfl) | exact Val.loadA rfl (fun _ => rdAll) rfl) rfl rfl rfl (by first | exact Hle.refl _ | exact Hle.none _) ?_
        refine T_dval 8 rfl (by kernel_rfl) (by kernel_rfl) (by kernel_rfl) (by kernel_rfl) (by kernel_rfl) rfl rfl (by first | exact Val.pure rfl | exact Val.vc rfl (fun hg => by first | omega | (simp only [inK]; omega) | exact True.intro | assumption) | exact Val.load rfl (fun _ => rdOwn1 rfl) | exact Val.loadA rfl (fun _ => rdAll) rfl) rfl rfl rfl (by first | exact Hle.refl _ | exact Hle.none _) ?_
        refine T_dval 9 rfl (by kernel_rfl) (by kernel_rfl) (by kernel_rfl) (by kernel_rfl) (by kernel_rfl) rfl rfl (by first | exact Val.pure rfl | exact Val.vc rfl (fun hg => by first | omega | (simp only [inK]; omega) | exact True.intro | assumption) | exact Val.load rfl (fun _ => rdOwn1 rfl) | exact Val.loadA rfl (fun _ => rdAll) rfl) rfl rfl rfl (by first | exact Hle.refl _ | exact Hle.none _) ?_
        refine T_dval 10 rfl (by kernel_rfl) (by kernel_rfl) (by kernel_rfl) (by kernel_rfl) (by kernel_rfl) rfl rfl (Val.load (v := .slice (some ⟨g1, 0, none⟩) (m + 1) (m + 1)) rfl (fun _ => rdRow (A := some ⟨gA, 0, none⟩) (by omega) (get1 (by rw [show 0 + ((i : Int) - 1).toNat * 1 = i - 1 by omega, List.getElem?_map, hx]; rfl)))) rfl rfl rfl (by first | exact Hle.refl _ | exact Hle.none _) ?_
        refine T_dval 11 rfl (by kernel_rfl) (by kernel_rfl) (by kernel_rfl) (by kernel_rfl) (by kernel_rfl) rfl rfl (by first | exact Val.pure rfl | exact Val.vc rfl (fun hg => by first | omega | (simp only [inK]; omega) | exact True.intro | assumption) | exact Val.load rfl (fun _ => rdOwn1 rfl) | exact Val.loadA rfl (fun _ => rdAll) rfl) rfl rfl rfl (by first | exact Hle.refl _ | exact Hle.none _) ?_
        refine T_dval 12 rfl (by kernel_rfl) (by kernel_rfl) (by kernel_rfl) (by kernel_rfl) (by kernel_rfl) rfl rfl (by first | exact Val.pure rfl | exact Val.vc rfl (fun hg => by first | omega | (simp only [inK]; omega) | exact True.intro | assumption) | exact Val.load rfl (fun _ => rdOwn1 rfl) | exact Val.loadA rfl (fun _ => rdAll) rfl) rfl rfl rfl (by first | exact Hle.refl _ | exact Hle.none _) ?_
        refine T_dval 13 rfl (by kernel_rfl) (by kernel_rfl) (by kernel_rfl) (by kernel_rfl) (by kernel_rfl) rfl rfl (by first | exact Val.pure rfl | exact Val.vc rfl (fun hg => by first | omega | (simp only [inK]; omega) | exact True.intro | assumption) | exact Val.load rfl (fun _ => rdOwn1 rfl) | exact Val.loadA rfl (fun _ => rdAll) rfl) rfl rfl rfl (by first | exact Hle.refl _ | exact Hle.none _) ?_
        refine T_dval 14 rfl (by kernel_rfl) (by kernel_rfl) (by kernel_rfl) (by kernel_rfl) (by kernel_rfl) rfl rfl (Val.load (v := .int .i64 (lv e (i - 1) (k - 1))) rfl (fun _ => rdM (l := l) (k := i - 1) hx (get1 (by rw [hcs]; exact vget (k - 1) (by omega) (by omega))))) rfl rfl rfl (by first | exact Hle.refl _ | exact Hle.none _) ?_
        refine T_dval 15 rfl (by kernel_rfl) (by kernel_rfl) (by kernel_rfl) (by kernel_rfl) (by kernel_rfl) rfl rfl (by first | exact Val.pure rfl | exact Val.vc rfl (fun hg => by first | omega | (simp only [inK]; omega) | exact True.intro | assumption) | exact Val.load rfl (fun _ => rdOwn1 rfl) | exact Val.loadA rfl (fun _ => rdAll) rfl) rfl rfl rfl (by first | exact Hle.refl _ | exact Hle.none _) ?_
        refine T_dval 16 rfl (by kernel_rfl) (by kernel_rfl) (by kernel_rfl) (by kernel_rfl) (by kernel_rfl) rfl rfl (by first | exact Val.pure rfl | exact Val.vc rfl (fun hg => by first | omega | (simp only [inK]; omega) | exact True.intro | assumption) | exact Val.load rfl (fun _ => rdOwn1 rfl) | exact Val.loadA rfl (fun _ => rdAll) rfl) rfl rfl rfl (by first | exact Hle.refl _ | exact Hle.none _) ?_
        refine T_dval 17 rfl (by kernel_rfl) (by kernel_rfl) (by kernel_rfl) (by kernel_rfl) (by kernel_rfl) rfl rfl (by first | exact Val.pure rfl | exact Val.vc rfl (fun hg => by first | omega | (simp only [inK]; omega) | exact True.intro | assumption) | exact Val.load rfl (fun _ => rdOwn1 rfl) | exact Val.loadA rfl (fun _ => rdAll) rfl) rfl rfl rfl (by first | exact Hle.refl _ | exact Hle.none _) ?_
        refine T_dop 18 (by kernel_rfl) rfl (OpT.store (b := g) rfl rfl rfl rfl (by rw [List.length_set, valV_length]; omega) ⟨fun h => (by cases h), ?_⟩)
        refine T_dend (by kernel_rfl) ?_
        repeat' (first | refine d1 ?_ | refine dd ?_ | (show ∀ _ : Nat, T _ _ _ _ _; intro _))
        refine T_back (k + 1) (by omega) (by omega) ⟨rfl, rfl, rfl, rfl, rfl, rfl, trivial⟩ ?_
        show Hle (blk g (((valV (mx (lv e i) (fun _ => 0) k) (m + 1)).set k (.int .i64 x1)).set (0 + k * 1) (.int .i64 (min x1 (lv e (i - 1) (k - 1) + 1)))) 3 :: _) _
        rw [show 0 + k * 1 = k by omega, List.set_set, valV_set (f := lv e i) (by rw [hstep, h5]; simp only [Bool.false_eq_true, if_false, if_true]; omega)]
        exact Hle.refl _
    · simp only [decide_eq_false_iff_not] at h2
      rw [valV_mx_full _ _ _ _ (by omega)]
      repeat' (first | refine d1 ?_ | refine dd ?_ | (show ∀ _ : Nat, T _ _ _ _ _; intro _))
      refine T_op (OpT.append rfl rfl rfl rfl rfl rfl rfl rfl rfl rfl (fun w hw => Src.own hw rfl) rfl (by dsimp only; omega) (by omega) (fun A' cap' _ => ?_))
      repeat' (first | refine d1 ?_ | refine dd ?_ | (show ∀ _ : Nat, T _ _ _ _ _; intro _))
      refine T_back (i + 1, A', cap', l ++ [(g, valV (lv e i) (m + 1))]) ⟨by dsimp only; omega, by simp [hl], fun q x hq => ?_⟩ (by dsimp only; omega) ⟨rfl, rfl, rfl, rfl, trivial⟩ ?_
      · rw [List.getElem?_append] at hq
        split at hq
        · exact hok q x hq
        · rename_i h3
          have hq2 : q = i := by
            have := (List.getElem?_eq_some_iff.1 hq).1
            simp at this
            omega
          rw [show q - l.length = 0 by omega] at hq
          simp at hq
          subst hq
          rw [hq2]
      · dsimp only
        refine (Hle.tail _ _).trans ?_
        show Hle [blk g (valV (lv e i) (m + 1)) 3, row 42 1 A' cap' (i + 1) (l.map (slv m) ++ [slv m (g, valV (lv e i) (m + 1))]), blks 3 l] _
        rw [show l.map (slv m) ++ [slv m (g, valV (lv e i) (m + 1))] = (l ++ [(g, valV (lv e i) (m + 1))]).map (slv m) by simp]
        exact ((Hle.perm ((List.Perm.swap _ _ _).cons _)).trans blks_snoc).trans (Hle.perm (List.Perm.swap _ _ _))
  · simp only [decide_eq_false_iff_not] at h
    have hi2 : i = n + 1 := by omega
    subst hi2
    refine T_rowpos (A := A) (by omega) (fun gA hA => ?_)
    subst hA
    repeat' (first | refine d1 ?_ | refine dd ?_ | (show ∀ _ : Nat, T _ _ _ _ _; intro _) | (show T _ (.code .ret :: _) _ _ _; refine T_retV _ rfl (Hle.refl _) ⟨gA, cap, l, ⟨hl, hok⟩, rfl, rfl⟩))

theorem listsRef_spec (a b : ByteArray) (Aa Ab : Option Addr) (ca cb : Nat) (ha0 : a.size ≤ 65536) (hb0 : b.size ≤ 65536) (w : World) (ha : Src w 1 Aa a.size (strs a a.size)) (hb : Src w 1 Ab b.size (strs b b.size)) :
    Spec Tryd.prog 67 [.slice Aa a.size ca, .slice Ab b.size cb] w (fun v A => v = (if 256 < max (a.size : Int) b.size then .tuple #[.int .i64 0, .int .i64 4] else .tuple #[.int .i64 (lv (eqB a b) a.size b.size), .int .i64 0]) ∧ A = []) := by
  refine spec_of sg Tryd.func67 rfl rfl rfl ?_
  repeat' (first | refine d1 ?_ | refine dd ?_ | (show ∀ _ : Nat, T _ _ _ _ _; intro _))
  refine T_if rfl (fun h => ?_) (fun h => ?_)
  · simp only [Bool.or_eq_true, decide_eq_true_eq] at h
    repeat' (first | refine d1 ?_ | refine dd ?_ | (show ∀ _ : Nat, T _ _ _ _ _; intro _) | (show T _ (.code .ret :: _) _ _ _; refine T_retV [] rfl (Hle.none _) ⟨by rw [if_pos (by omega)]; rfl, rfl⟩))
  · simp only [Bool.or_eq_false_iff, decide_eq_false_iff_not] at h
    repeat' (first | refine d1 ?_ | refine dd ?_ | (show ∀ _ : Nat, T _ _ _ _ _; intro _))
    refine T_op (OpT.call rfl rfl rfl rfl rfl (fun w hw => tableRef_spec a b Aa Ab ca cb (by omega) (by omega) w (rdSrc ha w hw) (rdSrc hb w hw)) ?_)
    rintro v A ⟨g, cap, l, ⟨hl, hok⟩, rfl, rfl⟩
    obtain ⟨⟨g1, cs1⟩, hx⟩ : ∃ x, l[a.size]? = some x := ⟨_, List.getElem?_eq_getElem (by omega)⟩
    have hcs := hok _ _ hx
    dsimp only at hcs
    show T _ _ _ _ [row 42 1 (some ⟨g, 0, none⟩) cap (a.size + 1) (l.map (slv b.size)), blks 3 l]
    repeat' (first | refine d1 ?_ | refine dd ?_ | (show ∀ _ : Nat, T _ _ _ _ _; intro _))
    refine T_load (v := .slice (some ⟨g1, 0, none⟩) (b.size + 1) (b.size + 1)) rfl rfl rfl rfl rfl (rdRow (A := some ⟨g, 0, none⟩) (by omega) (get1 (by rw [show 0 + (a.size : Int).toNat * 1 = a.size by omega, List.getElem?_map, hx]; rfl))) ?_
    repeat' (first | refine d1 ?_ | refine dd ?_ | (show ∀ _ : Nat, T _ _ _ _ _; intro _))
    refine T_load (v := .int .i64 (lv (eqB a b) a.size b.size)) rfl rfl rfl rfl rfl (rdM (l := l) (k := a.size) hx (get1 (by rw [hcs]; exact vget b.size (by omega) (by omega)))) ?_
    repeat' (first | refine d1 ?_ | refine dd ?_ | (show ∀ _ : Nat, T _ _ _ _ _; intro _) | (show T _ (.code .ret :: _) _ _ _; refine T_retV [] rfl (Hle.none _) ⟨by rw [if_neg (by omega)]; rfl, rfl⟩))
theorem srcRow {C : Cx} {H : List HA} {A : Option Addr} {e cap n : Nat} {xs : List Value} {rb : HA → List HA} [hf : FocusR H A e 1 cap n xs rb] (hl : xs.length = n) : ∀ w, Cls C.w0 w H → Src w 1 A n xs := by
  intro w hw
  refine ⟨by rw [hl, Nat.mul_one], fun hn => ?_⟩
  obtain ⟨i, hi, _⟩ := hf.at_
  obtain ⟨F, h1, h2, h3⟩ := hw.sep
  obtain ⟨_, hr⟩ := h1 i _ hi
  rcases hr with ⟨_, _, h9, _⟩ | ⟨g, cur, rfl, _⟩
  · omega
  · exact ⟨rfl, rdRow (C := C) (A := some ⟨g, 0, none⟩) hn (fun j u hu => by rw [show ofs (some ⟨g, 0, none⟩) + j = j by simp [ofs]]; exact hu) w hw⟩
theorem distRef_spec (a b : ByteArray) (ha0 : a.size ≤ 65536) (hb0 : b.size ≤ 65536) (w : World) : Spec Tryd.prog 51 [.string a, .string b] w (fun v A => v = (if 256 < max (a.size : Int) b.size then .tuple #[.int .i64 0, .int .i64 4] else .tuple #[.int .i64 (lv (eqB a b) a.size b.size), .int .i64 0]) ∧ A = []) := by
  refine spec_of sg Tryd.func51 rfl rfl rfl ?_
  repeat' (first | refine d1 ?_ | refine dd ?_ | (show ∀ _ : Nat, T _ _ _ _ _; intro _))
  refine T_callE rfl rfl rfl rfl rfl (fun w _ => bytesRef_spec a ha0 w) (fun x _ => ?_)
  repeat' (first | refine d1 ?_ | refine dd ?_ | (show ∀ _ : Nat, T _ _ _ _ _; intro _))
  refine T_callE rfl rfl rfl rfl rfl (fun w _ => bytesRef_spec b hb0 w) (fun y _ => ?_)
  refine T_op (OpT.call rfl rfl rfl rfl rfl (fun w hw => listsRef_spec a b x.1 y.1 x.2 y.2 ha0 hb0 w (srcRow (strs_length _ _) w hw) (srcRow (strs_length _ _) w hw)) ?_)
  rintro v A ⟨hv, rfl⟩
  by_cases hc : 256 < max (a.size : Int) b.size
  · rw [if_pos hc] at hv ⊢
    subst hv
    repeat' (first | refine d1 ?_ | refine dd ?_ | (show ∀ _ : Nat, T _ _ _ _ _; intro _) | (show T _ (.code .ret :: _) _ _ _; refine T_retV [] rfl (Hle.none _) ⟨rfl, rfl⟩))
  · rw [if_neg hc] at hv ⊢
    subst hv
    repeat' (first | refine d1 ?_ | refine dd ?_ | (show ∀ _ : Nat, T _ _ _ _ _; intro _) | (show T _ (.code .ret :: _) _ _ _; refine T_retV [] rfl (Hle.none _) ⟨rfl, rfl⟩))
end Go.Proofs.YtiglobijdegjdaaDoor
