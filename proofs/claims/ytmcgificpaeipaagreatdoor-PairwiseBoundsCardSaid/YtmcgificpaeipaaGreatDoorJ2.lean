/- Walks: the distance, by the reference. -/
import Derived.Test.YtmcgificpaeipaaGreatDoorJ1
import Derived.Tactics
import Derived.Laws.StructEq
set_option linter.unusedVariables false
set_option linter.unusedSimpArgs false
namespace Go.Proofs.YtmcgificpaeipaaGreatDoor
open Go.RowKit Go.Shelf Go.Proofs
set_option maxRecDepth 100000
set_option maxHeartbeats 1000000

theorem bytesRef_spec (s : ByteArray) (hs : s.size ≤ 65536) (w : World) : Spec Tryz.prog 139 [.string s] w
    (fun v A => ∃ x : Option Addr × Nat, True ∧ v = .slice x.1 s.size x.2 ∧ A = [row 9 1 x.1 x.2 s.size (strs s s.size)]) := by
  refine spec_of sg Tryz.func139 rfl rfl rfl ?_
  repeat' (first | refine d1 ?_ | refine dd ?_ | (show ∀ _ : Nat, T _ _ _ _ _; intro _))
  refine T_nilrow 9 1 ?_
  refine T_loop (fun x : Nat × Option Addr × Nat => [(0, .string s), (3, .slice x.2.1 x.1 x.2.2), (4, .int .i64 x.1)]) (fun x => [row 9 1 x.2.1 x.2.2 x.1 (strs s x.1)]) (fun x => x.1 ≤ s.size) (fun x => s.size - x.1) (0, none, 0) (Nat.zero_le _) ⟨rfl, rfl, rfl, trivial⟩ (Hle.refl _) ?_
  rintro ⟨k, A, cap⟩ hk
  dsimp only at hk ⊢
  repeat' (first | refine d1 ?_ | refine dd ?_ | (show ∀ _ : Nat, T _ _ _ _ _; intro _))
  refine T_if rfl (fun h => ?_) (fun h => ?_)
  · simp only [decide_eq_true_eq] at h
    repeat' (first | refine d1 ?_ | refine dd ?_ | (show ∀ _ : Nat, T _ _ _ _ _; intro _))
    refine T_op (OpT.append rfl rfl rfl rfl rfl rfl rfl rfl rfl rfl (fun w hw => Src.own hw rfl) rfl (by dsimp only; omega) (by omega) (fun A' cap' _ => ?_))
    repeat' (first | refine d1 ?_ | refine dd ?_ | (show ∀ _ : Nat, T _ _ _ _ _; intro _))
    refine T_back (k + 1, A', cap') (Nat.succ_le_of_lt (by omega)) (by dsimp only; omega) ⟨rfl, rfl, rfl, trivial⟩ ?_
    show Hle [_, row 9 1 A' cap' (k + 1) (strs s k ++ [.string (s.extract k (k + 1))])] _
    rw [← strs_succ]
    exact Hle.tail _ _
  · simp only [decide_eq_false_iff_not] at h
    have hk2 : k = s.size := by omega
    subst hk2
    repeat' (first | refine d1 ?_ | refine dd ?_ | (show ∀ _ : Nat, T _ _ _ _ _; intro _) | (show T _ (.code .ret :: _) _ _ _; refine T_retV _ rfl (Hle.refl _) ⟨(A, cap), trivial, rfl, rfl⟩))

def slv (m : Nat) (x : Nat × List Value) : Value := .slice (some ⟨x.1, 0, none⟩) (m + 1) (m + 1)
def TabOk (e : Nat → Nat → Bool) (m i : Nat) (l : List (Nat × List Value)) : Prop := l.length = i ∧ ∀ (q : Nat) x, l[q]? = some x → x.2 = valV (lv e q) (m + 1)
theorem tableRef_spec (a b : ByteArray) (Aa Ab : Option Addr) (ca cb : Nat) (han : a.size ≤ 256) (hbn : b.size ≤ 256) (w : World) (ha : Src w 1 Aa a.size (strs a a.size)) (hb : Src w 1 Ab b.size (strs b b.size)) :
    Spec Tryz.prog 151 [.slice Aa a.size ca, .slice Ab b.size cb] w
    (fun v A => ∃ g cap l, TabOk (eqB a b) b.size (a.size + 1) l ∧ v = .slice (some ⟨g, 0, none⟩) (a.size + 1) cap ∧ A = [row 33 1 (some ⟨g, 0, none⟩) cap (a.size + 1) (l.map (slv b.size)), blks 3 l]) := by
  generalize hn : a.size = n at *
  generalize hm : b.size = m at *
  generalize he : eqB a b = e
  refine spec_of sg Tryz.func151 rfl rfl rfl ?_
  repeat' (first | refine d1 ?_ | refine dd ?_ | (show ∀ _ : Nat, T _ _ _ _ _; intro _))
  refine T_nilblks 3 ?_
  refine T_nilrow 33 1 ?_
  refine T_loop (fun x : Nat × Option Addr × Nat × List (Nat × List Value) => [(0, .slice Aa n ca), (1, .slice Ab m cb), (5, .slice x.2.1 x.1 x.2.2.1), (6, .int .i64 x.1)])
    (fun x => [row 33 1 x.2.1 x.2.2.1 x.1 (x.2.2.2.map (slv m)), blks 3 x.2.2.2]) (fun x => x.1 ≤ n + 1 ∧ TabOk e m x.1 x.2.2.2) (fun x => n + 1 - x.1) (0, none, 0, []) ⟨Nat.zero_le _, rfl, fun q x h => by simp at h⟩ ⟨rfl, rfl, rfl, rfl, trivial⟩ (Hle.refl _) ?_
  rintro ⟨i, A, cap, l⟩ ⟨hi, hl, hok⟩
  dsimp only at hi hl hok ⊢
  repeat' (first | refine d1 ?_ | refine dd ?_ | (show ∀ _ : Nat, T _ _ _ _ _; intro _))
  refine T_if rfl (fun h => ?_) (fun h => ?_)
  · simp only [decide_eq_true_eq] at h
    repeat' (first | refine d1 ?_ | refine dd ?_ | (show ∀ _ : Nat, T _ _ _ _ _; intro _))
    refine T_op (OpT.make rfl rfl rfl rfl rfl rfl rfl rfl rfl (by dsimp only; omega) (fun g => ?_))
    repeat' (first | refine d1 ?_ | refine dd ?_ | (show ∀ _ : Nat, T _ _ _ _ _; intro _))
    refine T_le (H' := [blk g (valV (mx (lv e i) (fun _ => 0) 0) (m + 1)) 3, row 33 1 A cap i (l.map (slv m)), blks 3 l]) ?_ ?_
    · show Hle (blk g (List.replicate (m + 1) (.int .i64 0)) 3 :: _) _
      rw [valV_replicate, valV_mx_zero]
      exact Hle.refl _
    refine T_loop (fun k : Nat => [(0, .slice Aa n ca), (1, .slice Ab m cb), (5, .slice A i cap), (6, .int .i64 i), (7, .slice (some ⟨g, 0, none⟩) (m + 1) (m + 1)), (8, .int .i64 k)])
      (fun k => [blk g (valV (mx (lv e i) (fun _ => 0) k) (m + 1)) 3, row 33 1 A cap i (l.map (slv m)), blks 3 l]) (fun k => k ≤ m + 1) (fun k => m + 1 - k) 0 (Nat.zero_le _) ⟨rfl, rfl, rfl, rfl, rfl, rfl, trivial⟩ (Hle.refl _) ?_
    intro k hk
    repeat' (first | refine d1 ?_ | refine dd ?_ | (show ∀ _ : Nat, T _ _ _ _ _; intro _))
    refine T_if rfl (fun h2 => ?_) (fun h2 => ?_)
    · simp only [decide_eq_true_eq] at h2
      repeat' (first | refine d1 ?_ | refine dd ?_ | (show ∀ _ : Nat, T _ _ _ _ _; intro _))
      refine T_if rfl (fun h3 => ?_) (fun h3 => ?_)
      · simp only [decide_eq_true_eq] at h3
        have hi0 : i = 0 := by omega
        subst hi0
        repeat' (first | refine d1 ?_ | refine dd ?_ | (show T _ (.ops _ (_ :: _) :: _) _ _ _; refine T_op (OpT.store (b := g) rfl rfl rfl rfl (by rw [valV_length]; omega) ?_)) | (show ∀ _ : Nat, T _ _ _ _ _; intro _))
        refine T_back (k + 1) (by omega) (by omega) ⟨rfl, rfl, rfl, rfl, rfl, rfl, trivial⟩ ?_
        show Hle (blk g ((valV (mx (lv e 0) (fun _ => 0) k) (m + 1)).set (0 + k * 1) (.int .i64 k)) 3 :: _) _
        rw [show 0 + k * 1 = k by omega, valV_set (f := lv e 0) (x := (k : Int)) rfl]
        exact Hle.refl _
      simp only [decide_eq_false_iff_not] at h3
      repeat' (first | refine d1 ?_ | refine dd ?_ | (show ∀ _ : Nat, T _ _ _ _ _; intro _))
      refine T_if rfl (fun h4 => ?_) (fun h4 => ?_)
      · simp only [decide_eq_true_eq] at h4
        have hk0 : k = 0 := by omega
        subst hk0
        repeat' (first | refine d1 ?_ | refine dd ?_ | (show T _ (.ops _ (_ :: _) :: _) _ _ _; refine T_op (OpT.store (b := g) rfl rfl rfl rfl (by rw [valV_length]; omega) ?_)) | (show ∀ _ : Nat, T _ _ _ _ _; intro _))
        refine T_back 1 (by omega) (by omega) ⟨rfl, rfl, rfl, rfl, rfl, rfl, trivial⟩ ?_
        show Hle (blk g ((valV (mx (lv e i) (fun _ => 0) 0) (m + 1)).set 0 (.int .i64 i)) 3 :: _) _
        rw [valV_set (f := lv e i) (x := (i : Int)) (by obtain ⟨i', rfl⟩ : ∃ i', i = i' + 1 := ⟨i - 1, by omega⟩; rw [lv_left]; rfl)]
        exact Hle.refl _
      simp only [decide_eq_false_iff_not] at h4
      obtain ⟨⟨g1, cs1⟩, hx⟩ : ∃ x, l[i - 1]? = some x := ⟨_, List.getElem?_eq_getElem (by omega)⟩
      have hcs := hok _ _ hx
      dsimp only at hcs
      refine T_rowpos (A := A) (by omega) (fun gA hA => ?_)
      subst hA
      obtain ⟨ba, oa, rfl⟩ := ha.base (by omega)
      obtain ⟨bb, ob, rfl⟩ := hb.base (by omega)
      have B1 := lv_bd e (i - 1) k
      have B2 := lv_bd e i (k - 1)
      have B3 := lv_bd e (i - 1) (k - 1)
      show T _ (.code (.region _ _ true) :: _) _ _ _
      refine T_draw 18 [blk g (valV (mx (lv e i) (fun _ => 0) k) (m + 1)) 3, row 33 1 (some ⟨gA, 0, none⟩) cap i (l.map (slv m)), blks 3 l] ?_
      refine T_dval 0 rfl (by kernel_rfl) (by kernel_rfl) (by kernel_rfl) (by kernel_rfl) (by kernel_rfl) rfl rfl (by first | exact Val.pure rfl | exact Val.vc rfl (fun hg => by first | omega | (simp only [inK]; omega) | exact True.intro | assumption) | exact Val.load rfl (fun _ => rdOwn1 rfl) | exact Val.loadA rfl (fun _ => rdAll) rfl) rfl rfl rfl (by first | exact Hle.refl _ | exact Hle.none _) ?_
      refine T_dval 1 rfl (by kernel_rfl) (by kernel_rfl) (by kernel_rfl) (by kernel_rfl) (by kernel_rfl) rfl rfl (by first | exact Val.pure rfl | exact Val.vc rfl (fun hg => by first | omega | (simp only [inK]; omega) | exact True.intro | assumption) | exact Val.load rfl (fun _ => rdOwn1 rfl) | exact Val.loadA rfl (fun _ => rdAll) rfl) rfl rfl rfl (by first | exact Hle.refl _ | exact Hle.none _) ?_
      refine T_dval 2 rfl (by kernel_rfl) (by kernel_rfl) (by kernel_rfl) (by kernel_rfl) (by kernel_rfl) rfl rfl (by first | exact Val.pure rfl | exact Val.vc rfl (fun hg => by first | omega | (simp only [inK]; omega) | exact True.intro | assumption) | exact Val.load rfl (fun _ => rdOwn1 rfl) | exact Val.loadA rfl (fun _ => rdAll) rfl) rfl rfl rfl (by first | exact Hle.refl _ | exact Hle.none _) ?_
      refine T_dval 3 rfl (by kernel_rfl) (by kernel_rfl) (by kernel_rfl) (by kernel_rfl) (by kernel_rfl) rfl rfl (by first | exact Val.pure rfl | exact Val.vc rfl (fun hg => by first | omega | (simp only [inK]; omega) | exact True.intro | assumption) | exact Val.load rfl (fun _ => rdOwn1 rfl) | exact Val.loadA rfl (fun _ => rdAll) rfl) rfl rfl rfl (by first | exact Hle.refl _ | exact Hle.none _) ?_
      refine T_dval 4 rfl (by kernel_rfl) (by kernel_rfl) (by kernel_rfl) (by kernel_rfl) (by kernel_rfl) rfl rfl (by first | exact Val.pure rfl | exact Val.vc rfl (fun hg => by first | omega | (simp only [inK]; omega) | exact True.intro | assumption) | exact Val.load rfl (fun _ => rdOwn1 rfl) | exact Val.loadA rfl (fun _ => rdAll) rfl) rfl rfl rfl (by first | exact Hle.refl _ | exact Hle.none _) ?_
      refine T_dval 5 rfl (by kernel_rfl) (by kernel_rfl) (by kernel_rfl) (by kernel_rfl) (by kernel_rfl) rfl rfl (by first | exact Val.pure rfl | exact Val.vc rfl (fun hg => by first | omega | (simp only [inK]; omega) | exact True.intro | assumption) | exact Val.load rfl (fun _ => rdOwn1 rfl) | exact Val.loadA rfl (fun _ => rdAll) rfl) rfl rfl rfl (by first | exact Hle.refl _ | exact Hle.none _) ?_
      refine T_dval 6 rfl (by kernel_rfl) (by kernel_rfl) (by kernel_rfl) (by kernel_rfl) (by kernel_rfl) rfl rfl (Val.load (v := .slice (some ⟨g1, 0, none⟩) (m + 1) (m + 1)) rfl (fun _ => rdRow (A := some ⟨gA, 0, none⟩) (by omega) (get1 (by rw [show 0 + ((i : Int) - 1).toNat * 1 = i - 1 by omega, List.getElem?_map, hx]; rfl)))) rfl rfl rfl (by first | exact Hle.refl _ | exact Hle.none _) ?_
      refine T_dval 7 rfl (by kernel_rfl) (by kernel_rfl) (by kernel_rfl) (by kernel_rfl) (by kernel_rfl) rfl rfl (by first | exact Val.pure rfl | exact Val.vc rfl (fun hg => by first | omega | (simp only [inK]; omega) | exact True.intro | assumption) | exact Val.load rfl (fun _ => rdOwn1 rfl) | exact Val.loadA rfl (fun _ => rdAll) rfl) rfl rfl rfl (by first | exact Hle.refl _ | exact Hle.none _) ?_
      refine T_dval 8 rfl (by kernel_rfl) (by kernel_rfl) (by kernel_rfl) (by kernel_rfl) (by kernel_rfl) rfl rfl (by first | exact Val.pure rfl | exact Val.vc rfl (fun hg => by first | omega | (simp only [inK]; omega) | exact True.intro | assumption) | exact Val.load rfl (fun _ => rdOwn1 rfl) | exact Val.loadA rfl (fun _ => rdAll) rfl) rfl rfl rfl (by first | exact Hle.refl _ | exact Hle.none _) ?_
      refine T_dval 9 rfl (by kernel_rfl) (by kernel_rfl) (by kernel_rfl) (by kernel_rfl) (by kernel_rfl) rfl rfl (Val.load (v := .int .i64 (lv e (i - 1) (k))) rfl (fun _ => rdM (l := l) (k := i - 1) hx (get1 (by rw [hcs]; exact vget (k) (by omega) (by omega))))) rfl rfl rfl (by first | exact Hle.refl _ | exact Hle.none _) ?_
      refine T_dval 10 rfl (by kernel_rfl) (by kernel_rfl) (by kernel_rfl) (by kernel_rfl) (by kernel_rfl) rfl rfl (by first | exact Val.pure rfl | exact Val.vc rfl (fun hg => by first | omega | (simp only [inK]; omega) | exact True.intro | assumption) | exact Val.load rfl (fun _ => rdOwn1 rfl) | exact Val.loadA rfl (fun _ => rdAll) rfl) rfl rfl rfl (by first | exact Hle.refl _ | exact Hle.none _) ?_
      refine T_dval 11 rfl (by kernel_rfl) (by kernel_rfl) (by kernel_rfl) (by kernel_rfl) (by kernel_rfl) rfl rfl (by first | exact Val.pure rfl | exact Val.vc rfl (fun hg => by first | omega | (simp only [inK]; omega) | exact True.intro | assumption) | exact Val.load rfl (fun _ => rdOwn1 rfl) | exact Val.loadA rfl (fun _ => rdAll) rfl) rfl rfl rfl (by first | exact Hle.refl _ | exact Hle.none _) ?_
      refine T_dval 12 rfl (by kernel_rfl) (by kernel_rfl) (by kernel_rfl) (by kernel_rfl) (by kernel_rfl) rfl rfl (by first | exact Val.pure rfl | exact Val.vc rfl (fun hg => by first | omega | (simp only [inK]; omega) | exact True.intro | assumption) | exact Val.load rfl (fun _ => rdOwn1 rfl) | exact Val.loadA rfl (fun _ => rdAll) rfl) rfl rfl rfl (by first | exact Hle.refl _ | exact Hle.none _) ?_
      refine T_dval 13 rfl (by kernel_rfl) (by kernel_rfl) (by kernel_rfl) (by kernel_rfl) (by kernel_rfl) rfl rfl (by first | exact Val.pure rfl | exact Val.vc rfl (fun hg => by first | omega | (simp only [inK]; omega) | exact True.intro | assumption) | exact Val.load rfl (fun _ => rdOwn1 rfl) | exact Val.loadA rfl (fun _ => rdAll) rfl) rfl rfl rfl (by first | exact Hle.refl _ | exact Hle.none _) ?_
      refine T_dval 14 rfl (by kernel_rfl) (by kernel_rfl) (by kernel_rfl) (by kernel_rfl) (by kernel_rfl) rfl rfl (Val.load (v := .int .i64 (lv e i (k - 1))) rfl (fun _ => rdOwn1 (b := g) (vgetm (k - 1) (by omega) (by omega) (by omega)))) rfl rfl rfl (by first | exact Hle.refl _ | exact Hle.none _) ?_
      refine T_dval 15 rfl (by kernel_rfl) (by kernel_rfl) (by kernel_rfl) (by kernel_rfl) (by kernel_rfl) rfl rfl (by first | exact Val.pure rfl | exact Val.vc rfl (fun hg => by first | omega | (simp only [inK]; omega) | exact True.intro | assumption) | exact Val.load rfl (fun _ => rdOwn1 rfl) | exact Val.loadA rfl (fun _ => rdAll) rfl) rfl rfl rfl (by first | exact Hle.refl _ | exact Hle.none _) ?_
      refine T_dval 16 rfl (by kernel_rfl) (by kernel_rfl) (by kernel_rfl) (by kernel_rfl) (by kernel_rfl) rfl rfl (by first | exact Val.pure rfl | exact Val.vc rfl (fun hg => by first | omega | (simp only [inK]; omega) | exact True.intro | assumption) | exact Val.load rfl (fun _ => rdOwn1 rfl) | exact Val.loadA rfl (fun _ => rdAll) rfl) rfl rfl rfl (by first | exact Hle.refl _ | exact Hle.none _) ?_
      refine T_dval 17 rfl (by kernel_rfl) (by kernel_rfl) (by kernel_rfl) (by kernel_rfl) (by kernel_rfl) rfl rfl (by first | exact Val.pure rfl | exact Val.vc rfl (fun hg => by first | omega | (simp only [inK]; omega) | exact True.intro | assumption) | exact Val.load rfl (fun _ => rdOwn1 rfl) | exact Val.loadA rfl (fun _ => rdAll) rfl) rfl rfl rfl (by first | exact Hle.refl _ | exact Hle.none _) ?_
      refine T_dop 18 (by kernel_rfl) rfl (OpT.store (b := g) rfl rfl rfl rfl (by rw [valV_length]; omega) ⟨fun h => (by cases h), ?_⟩)
      refine T_dend (by kernel_rfl) ?_
      generalize hx1 : min (lv e (i - 1) k) (lv e i (k - 1)) + 1 = x1
      refine T_le (H' := [blk g ((valV (mx (lv e i) (fun _ => 0) k) (m + 1)).set k (.int .i64 x1)) 3, row 33 1 (some ⟨gA, 0, none⟩) cap i (l.map (slv m)), blks 3 l]) ?_ ?_
      · show Hle (blk g ((valV (mx (lv e i) (fun _ => 0) k) (m + 1)).set (0 + k * 1) (.int .i64 x1)) 3 :: _) _
        rw [show 0 + k * 1 = k by omega]
        exact Hle.refl _
      show T _ (.code (.region _ _ true) :: _) _ _ _
      refine T_draw 1000 [] ?_
      refine T_dval 0 rfl (by kernel_rfl) (by kernel_rfl) (by kernel_rfl) (by kernel_rfl) (by kernel_rfl) rfl rfl (by first | exact Val.pure rfl | exact Val.vc rfl (fun hg => by first | omega | (simp only [inK]; omega) | exact True.intro | assumption) | exact Val.load rfl (fun _ => rdOwn1 rfl) | exact Val.loadA rfl (fun _ => rdAll) rfl) rfl rfl rfl (by first | exact Hle.refl _ | exact Hle.none _) ?_
      refine T_dval 1 rfl (by kernel_rfl) (by kernel_rfl) (by kernel_rfl) (by kernel_rfl) (by kernel_rfl) rfl rfl (by first | exact Val.pure rfl | exact Val.vc rfl (fun hg => by first | omega | (simp only [inK]; omega) | exact True.intro | assumption) | exact Val.load rfl (fun _ => rdOwn1 rfl) | exact Val.loadA rfl (fun _ => rdAll) rfl) rfl rfl rfl (by first | exact Hle.refl _ | exact Hle.none _) ?_
      refine T_dval 2 rfl (by kernel_rfl) (by kernel_rfl) (by kernel_rfl) (by kernel_rfl) (by kernel_rfl) rfl rfl (by first | exact Val.pure rfl | exact Val.vc rfl (fun hg => by first | omega | (simp only [inK]; omega) | exact True.intro | assumption) | exact Val.load rfl (fun _ => rdOwn1 rfl) | exact Val.loadA rfl (fun _ => rdAll) rfl) rfl rfl rfl (by first | exact Hle.refl _ | exact Hle.none _) ?_
      refine T_dval 3 rfl (by kernel_rfl) (by kernel_rfl) (by kernel_rfl) (by kernel_rfl) (by kernel_rfl) rfl rfl (by first | exact Val.pure rfl | exact Val.vc rfl (fun hg => by first | omega | (simp only [inK]; omega) | exact True.intro | assumption) | exact Val.load rfl (fun _ => rdOwn1 rfl) | exact Val.loadA rfl (fun _ => rdAll) rfl) rfl rfl rfl (by first | exact Hle.refl _ | exact Hle.none _) ?_
      refine T_dval 4 rfl (by kernel_rfl) (by kernel_rfl) (by kernel_rfl) (by kernel_rfl) (by kernel_rfl) rfl rfl (Val.load (v := .string (a.extract (i - 1) (i - 1 + 1))) rfl (fun _ => rdOld (by rw [show ((i : Int) - 1).toNat = i - 1 by omega]; exact (ha.get1 (i := i - 1) (by omega) (strs_get (by omega))).2))) rfl rfl rfl (by first | exact Hle.refl _ | exact Hle.none _) ?_
      refine T_dval 5 rfl (by kernel_rfl) (by kernel_rfl) (by kernel_rfl) (by kernel_rfl) (by kernel_rfl) rfl rfl (by first | exact Val.pure rfl | exact Val.vc rfl (fun hg => by first | omega | (simp only [inK]; omega) | exact True.intro | assumption) | exact Val.load rfl (fun _ => rdOwn1 rfl) | exact Val.loadA rfl (fun _ => rdAll) rfl) rfl rfl rfl (by first | exact Hle.refl _ | exact Hle.none _) ?_
      refine T_dval 6 rfl (by kernel_rfl) (by kernel_rfl) (by kernel_rfl) (by kernel_rfl) (by kernel_rfl) rfl rfl (by first | exact Val.pure rfl | exact Val.vc rfl (fun hg => by first | omega | (simp only [inK]; omega) | exact True.intro | assumption) | exact Val.load rfl (fun _ => rdOwn1 rfl) | exact Val.loadA rfl (fun _ => rdAll) rfl) rfl rfl rfl (by first | exact Hle.refl _ | exact Hle.none _) ?_
      refine T_dval 7 rfl (by kernel_rfl) (by kernel_rfl) (by kernel_rfl) (by kernel_rfl) (by kernel_rfl) rfl rfl (by first | exact Val.pure rfl | exact Val.vc rfl (fun hg => by first | omega | (simp only [inK]; omega) | exact True.intro | assumption) | exact Val.load rfl (fun _ => rdOwn1 rfl) | exact Val.loadA rfl (fun _ => rdAll) rfl) rfl rfl rfl (by first | exact Hle.refl _ | exact Hle.none _) ?_
      refine T_dval 8 rfl (by kernel_rfl) (by kernel_rfl) (by kernel_rfl) (by kernel_rfl) (by kernel_rfl) rfl rfl (by first | exact Val.pure rfl | exact Val.vc rfl (fun hg => by first | omega | (simp only [inK]; omega) | exact True.intro | assumption) | exact Val.load rfl (fun _ => rdOwn1 rfl) | exact Val.loadA rfl (fun _ => rdAll) rfl) rfl rfl rfl (by first | exact Hle.refl _ | exact Hle.none _) ?_
      refine T_dval 9 rfl (by kernel_rfl) (by kernel_rfl) (by kernel_rfl) (by kernel_rfl) (by kernel_rfl) rfl rfl (Val.load (v := .string (b.extract (k - 1) (k - 1 + 1))) rfl (fun _ => rdOld (by rw [show ((k : Int) - 1).toNat = k - 1 by omega]; exact (hb.get1 (i := k - 1) (by omega) (strs_get (by omega))).2))) rfl rfl rfl (by first | exact Hle.refl _ | exact Hle.none _) ?_
      refine T_dval 10 rfl (by kernel_rfl) (by kernel_rfl) (by kernel_rfl) (by kernel_rfl) (by kernel_rfl) rfl rfl (by first | exact Val.pure rfl | exact Val.vc rfl (fun hg => by first | omega | (simp only [inK]; omega) | exact True.intro | assumption) | exact Val.load rfl (fun _ => rdOwn1 rfl) | exact Val.loadA rfl (fun _ => rdAll) rfl) rfl rfl rfl (by first | exact Hle.refl _ | exact Hle.none _) ?_
      refine T_dend (by kernel_rfl) ?_
      rw [extract_eq (by omega) (by omega)]
      have hstep : lv e i k = min (min (lv e (i - 1) k) (lv e i (k - 1)) + 1) (lv e (i - 1) (k - 1) + if e (i - 1) (k - 1) then 0 else 1) := by
        obtain ⟨i', rfl⟩ : ∃ i', i = i' + 1 := ⟨i - 1, by omega⟩
        obtain ⟨k', rfl⟩ : ∃ k', k = k' + 1 := ⟨k - 1, by omega⟩
        exact lv_step e i' k'
      have h6 : decide (((byteAt a ((i - 1 : Nat) : Int)).toNat : Int) = ((byteAt b ((k - 1 : Nat) : Int)).toNat : Int)) = e (i - 1) (k - 1) := by rw [← he]; rfl
      rw [h6]
      refine T_if rfl (fun h5 => ?_) (fun h5 => ?_)
      · show T _ (.code (.region _ _ true) :: _) _ _ _
        refine T_draw 17 [blk g ((valV (mx (lv e i) (fun _ => 0) k) (m + 1)).set k (.int .i64 x1)) 3, row 33 1 (some ⟨gA, 0, none⟩) cap i (l.map (slv m)), blks 3 l] ?_
        refine T_dval 0 rfl (by kernel_rfl) (by kernel_rfl) (by kernel_rfl) (by kernel_rfl) (by kernel_rfl) rfl rfl (by first | exact Val.pure rfl | exact Val.vc rfl (fun hg => by first | omega | (simp only [inK]; omega) | exact True.intro | assumption) | exact Val.load rfl (fun _ => rdOwn1 rfl) | exact Val.loadA rfl (fun _ => rdAll) rfl) rfl rfl rfl (by first | exact Hle.refl _ | exact Hle.none _) ?_
        refine T_dval 1 rfl (by kernel_rfl) (by kernel_rfl) (by kernel_rfl) (by kernel_rfl) (by kernel_rfl) rfl rfl (by first | exact Val.pure rfl | exact Val.vc rfl (fun hg => by first | omega | (simp only [inK]; omega) | exact True.intro | assumption) | exact Val.load rfl (fun _ => rdOwn1 rfl) | exact Val.loadA rfl (fun _ => rdAll) rfl) rfl rfl rfl (by first | exact Hle.refl _ | exact Hle.none _) ?_
        refine T_dval 2 rfl (by kernel_rfl) (by kernel_rfl) (by kernel_rfl) (by kernel_rfl) (by kernel_rfl) rfl rfl (by first | exact Val.pure rfl | exact Val.vc rfl (fun hg => by first | omega | (simp only [inK]; omega) | exact True.intro | assumption) | exact Val.load rfl (fun _ => rdOwn1 rfl) | exact Val.loadA rfl (fun _ => rdAll) rfl) rfl rfl rfl (by first | exact Hle.refl _ | exact Hle.none _) ?_
        refine T_dval 3 rfl (by kernel_rfl) (by kernel_rfl) (by kernel_rfl) (by kernel_rfl) (by kernel_rfl) rfl rfl (by first | exact Val.pure rfl | exact Val.vc rfl (fun hg => by first | omega | (simp only [inK]; omega) | exact True.intro | assumption) | exact Val.load rfl (fun _ => rdOwn1 rfl) | exact Val.loadA rfl (fun _ => rdAll) rfl) rfl rfl rfl (by first | exact Hle.refl _ | exact Hle.none _) ?_
        refine T_dval 4 rfl (by kernel_rfl) (by kernel_rfl) (by kernel_rfl) (by kernel_rfl) (by kernel_rfl) rfl rfl (by first | exact Val.pure rfl | exact Val.vc rfl (fun hg => by first | omega | (simp only [inK]; omega) | exact True.intro | assumption) | exact Val.load rfl (fun _ => rdOwn1 rfl) | exact Val.loadA rfl (fun _ => rdAll) rfl) rfl rfl rfl (by first | exact Hle.refl _ | exact Hle.none _) ?_
        refine T_dval 5 rfl (by kernel_rfl) (by kernel_rfl) (by kernel_rfl) (by kernel_rfl) (by kernel_rfl) rfl rfl (Val.load (v := .int .i64 x1) rfl (fun _ => rdOwn1 (b := g) (by rw [show 0 + (k : Int).toNat * 1 = k by omega, List.getElem?_set_self (by rw [valV_length]; omega)]))) rfl rfl rfl (by first | exact Hle.refl _ | exact Hle.none _) ?_
        refine T_dval 6 rfl (by kernel_rfl) (by kernel_rfl) (by kernel_rfl) (by kernel_rfl) (by kernel_rfl) rfl rfl (by first | exact Val.pure rfl | exact Val.vc rfl (fun hg => by first | omega | (simp only [inK]; omega) | exact True.intro | assumption) | exact Val.load rfl (fun _ => rdOwn1 rfl) | exact Val.loadA rfl (fun _ => rdAll) rfl) rfl rfl rfl (by first | exact Hle.refl _ | exact Hle.none _) ?_
        refine T_dval 7 rfl (by kernel_rfl) (by kernel_rfl) (by kernel_rfl) (by kernel_rfl) (by kernel_rfl) rfl rfl (by first | exact Val.pure rfl | exact Val.vc rfl (fun hg => by first | omega | (simp only [inK]; omega) | exact True.intro | assumption) | exact Val.load rfl (fun _ => rdOwn1 rfl) | exact Val.loadA rfl (fun _ => rdAll) rfl) rfl rfl rfl (by first | exact Hle.refl _ | exact Hle.none _) ?_
        refine T_dval 8 rfl (by kernel_rfl) (by kernel_rfl) (by kernel_rfl) (by kernel_rfl) (by kernel_rfl) rfl rfl (by first | exact Val.pure rfl | exact Val.vc rfl (fun hg => by first | omega | (simp only [inK]; omega) | exact True.intro | assumption) | exact Val.load rfl (fun _ => rdOwn1 rfl) | exact Val.loadA rfl (fun _ => rdAll) rfl) rfl rfl rfl (by first | exact Hle.refl _ | exact Hle.none _) ?_
        refine T_dval 9 rfl (by kernel_rfl) (by kernel_rfl) (by kernel_rfl) (by kernel_rfl) (by kernel_rfl) rfl rfl (by first | exact Val.pure rfl | exact Val.vc rfl (fun hg => by first | omega | (simp only [inK]; omega) | exact True.intro | assumption) | exact Val.load rfl (fun _ => rdOwn1 rfl) | exact Val.loadA rfl (fun _ => rdAll) rfl) rfl rfl rfl (by first | exact Hle.refl _ | exact Hle.none _) ?_
        refine T_dval 10 rfl (by kernel_rfl) (by kernel_rfl) (by kernel_rfl) (by kernel_rfl) (by kernel_rfl) rfl rfl (Val.load (v := .slice (some ⟨g1, 0, none⟩) (m + 1) (m + 1)) rfl (fun _ => rdRow (A := some ⟨gA, 0, none⟩) (by omega) (get1 (by rw [show 0 + ((i : Int) - 1).toNat * 1 = i - 1 by omega, List.getElem?_map, hx]; rfl)))) rfl rfl rfl (by first | exact Hle.refl _ | exact Hle.none _) ?_
        refine T_dval 11 rfl (by kernel_rfl) (by kernel_rfl) (by kernel_rfl) (by kernel_rfl) (by kernel_rfl) rfl rfl (by first | exact Val.pure rfl | exact Val.vc rfl (fun hg => by first | omega | (simp only [inK]; omega) | exact True.intro | assumption) | exact Val.load rfl (fun _ => rdOwn1 rfl) | exact Val.loadA rfl (fun _ => rdAll) rfl) rfl rfl rfl (by first | exact Hle.refl _ | exact Hle.none _) ?_
        refine T_dval 12 rfl (by kernel_rfl) (by kernel_rfl) (by kernel_rfl) (by kernel_rfl) (by kernel_rfl) rfl rfl (by first | exact Val.pure rfl | exact Val.vc rfl (fun hg => by first | omega | (simp only [inK]; omega) | exact True.intro | assumption) | exact Val.load rfl (fun _ => rdOwn1 rfl) | exact Val.loadA rfl (fun _ => rdAll) rfl) rfl rfl rfl (by first | exact Hle.refl _ | exact Hle.none _) ?_
        refine T_dval 13 rfl (by kernel_rfl) (by kernel_rfl) (by kernel_rfl) (by kernel_rfl) (by kernel_rfl) rfl rfl (by first | exact Val.pure rfl | exact Val.vc rfl (fun hg => by first | omega | (simp only [inK]; omega) | exact True.intro | assumption) | exact Val.load rfl (fun _ => rdOwn1 rfl) | exact Val.loadA rfl (fun _ => rdAll) rfl) rfl rfl rfl (by first | exact Hle.refl _ | exact Hle.none _) ?_
        refine T_dval 14 rfl (by kernel_rfl) (by kernel_rfl) (by kernel_rfl) (by kernel_rfl) (by kernel_rfl) rfl rfl (Val.load (v := .int .i64 (lv e (i - 1) (k - 1))) rfl (fun _ => rdM (l := l) (k := i - 1) hx (get1 (by rw [hcs]; exact vget (k - 1) (by omega) (by omega))))) rfl rfl rfl (by first | exact Hle.refl _ | exact Hle.none _) ?_
        refine T_dval 15 rfl (by kernel_rfl) (by kernel_rfl) (by kernel_rfl) (by kernel_rfl) (by kernel_rfl) rfl rfl (by first | exact Val.pure rfl | exact Val.vc rfl (fun hg => by first | omega | (simp only [inK]; omega) | exact True.intro | assumption) | exact Val.load rfl (fun _ => rdOwn1 rfl) | exact Val.loadA rfl (fun _ => rdAll) rfl) rfl rfl rfl (by first | exact Hle.refl _ | exact Hle.none _) ?_
        refine T_dval 16 rfl (by kernel_rfl) (by kernel_rfl) (by kernel_rfl) (by kernel_rfl) (by kernel_rfl) rfl rfl (by first | exact Val.pure rfl | exact Val.vc rfl (fun hg => by first | omega | (simp only [inK]; omega) | exact True.intro | assumption) | exact Val.load rfl (fun _ => rdOwn1 rfl) | exact Val.loadA rfl (fun _ => rdAll) rfl) rfl rfl rfl (by first | exact Hle.refl _ | exact Hle.none _) ?_
        refine T_dop 17 (by kernel_rfl) rfl (OpT.store (b := g) rfl rfl rfl rfl (by rw [List.length_set, valV_length]; omega) ⟨fun h => (by cases h), ?_⟩)
        refine T_dend (by kernel_rfl) ?_
        repeat' (first | refine d1 ?_ | refine dd ?_ | (show ∀ _ : Nat, T _ _ _ _ _; intro _))
        refine T_back (k + 1) (by omega) (by omega) ⟨rfl, rfl, rfl, rfl, rfl, rfl, trivial⟩ ?_
        show Hle (blk g (((valV (mx (lv e i) (fun _ => 0) k) (m + 1)).set k (.int .i64 x1)).set (0 + k * 1) (.int .i64 (min x1 (lv e (i - 1) (k - 1))))) 3 :: _) _
        rw [show 0 + k * 1 = k by omega, List.set_set, valV_set (f := lv e i) (by rw [hstep, h5]; simp only [Bool.false_eq_true, if_false, if_true]; omega)]
        exact Hle.refl _
      · show T _ (.code (.region _ _ true) :: _) _ _ _
        refine T_draw 18 [blk g ((valV (mx (lv e i) (fun _ => 0) k) (m + 1)).set k (.int .i64 x1)) 3, row 33 1 (some ⟨gA, 0, none⟩) cap i (l.map (slv m)), blks 3 l] ?_
        refine T_dval 0 rfl (by kernel_rfl) (by kernel_rfl) (by kernel_rfl) (by kernel_rfl) (by kernel_rfl) rfl rfl (by first | exact Val.pure rfl | exact Val.vc rfl (fun hg => by first | omega | (simp only [inK]; omega) | exact True.intro | assumption) | exact Val.load rfl (fun _ => rdOwn1 rfl) | exact Val.loadA rfl (fun _ => rdAll) rfl) rfl rfl rfl (by first | exact Hle.refl _ | exact Hle.none _) ?_
        refine T_dval 1 rfl (by kernel_rfl) (by kernel_rfl) (by kernel_rfl) (by kernel_rfl) (by kernel_rfl) rfl rfl (by first | exact Val.pure rfl | exact Val.vc rfl (fun hg => by first | omega | (simp only [inK]; omega) | exact True.intro | assumption) | exact Val.load rfl (fun _ => rdOwn1 rfl) | exact Val.loadA rfl (fun _ => rdAll) rfl) rfl rfl rfl (by first | exact Hle.refl _ | exact Hle.none _) ?_
        refine T_dval 2 rfl (by kernel_rfl) (by kernel_rfl) (by kernel_rfl) (by kernel_rfl) (by kernel_rfl) rfl rfl (by first | exact Val.pure rfl | exact Val.vc rfl (fun hg => by first | omega | (simp only [inK]; omega) | exact True.intro | assumption) | exact Val.load rfl (fun _ => rdOwn1 rfl) | exact Val.loadA rfl (fun _ => rdAll) rfl) rfl rfl rfl (by first | exact Hle.refl _ | exact Hle.none _) ?_
        refine T_dval 3 rfl (by kernel_rfl) (by kernel_rfl) (by kernel_rfl) (by kernel_rfl) (by kernel_rfl) rfl rfl (by first | exact Val.pure rfl | exact Val.vc rfl (fun hg => by first | omega | (simp only [inK]; omega) | exact True.intro | assumption) | exact Val.load rfl (fun _ => rdOwn1 rfl) | exact Val.loadA rfl (fun _ => rdAll) rfl) rfl rfl rfl (by first | exact Hle.refl _ | exact Hle.none _) ?_
        refine T_dval 4 rfl (by kernel_rfl) (by kernel_rfl) (by kernel_rfl) (by kernel_rfl) (by kernel_rfl) rfl rfl (by first | exact Val.pure rfl | exact Val.vc rfl (fun hg => by first | omega | (simp only [inK]; omega) | exact True.intro | assumption) | exact Val.load rfl (fun _ => rdOwn1 rfl) | exact Val.loadA rfl (fun _ => rdAll) rfl) rfl rfl rfl (by first | exact Hle.refl _ | exact Hle.none _) ?_
        refine T_dval 5 rfl (by kernel_rfl) (by kernel_rfl) (by kernel_rfl) (by kernel_rfl) (by kernel_rfl) rfl rfl (Val.load (v := .int .i64 x1) rfl (fun _ => rdOwn1 (b := g) (by rw [show 0 + (k : Int).toNat * 1 = k by omega, List.getElem?_set_self (by rw [valV_length]; omega)]))) rfl rfl rfl (by first | exact Hle.refl _ | exact Hle.none _) ?_
        refine T_dval 6 rfl (by kernel_rfl) (by kernel_rfl) (by kernel_rfl) (by kernel_rfl) (by kernel_rfl) rfl rfl (by first | exact Val.pure rfl | exact Val.vc rfl (fun hg => by first | omega | (simp only [inK]; omega) | exact True.intro | assumption) | exact Val.load rfl (fun _ => rdOwn1 rfl) | exact Val.loadA rfl (fun _ => rdAll) rfl) rfl rfl rfl (by first | exact Hle.refl _ | exact Hle.none _) ?_
        refine T_dval 7 rfl (by kernel_rfl) (by kernel_rfl) (by kernel_rfl) (by kernel_rfl) (by kernel_rfl) rfl rfl (by first | exact Val.pure rfl | exact Val.vc rfl (fun hg => by first | omega | (simp only [inK]; omega) | exact True.intro | assumption) | exact Val.load rfl (fun _ => rdOwn1 rfl) | exact Val.loadA rfl (fun _ => rdAll) rfl) rfl rfl rfl (by first | exact Hle.refl _ | exact Hle.none _) ?_
        refine T_dval 8 rfl (by kernel_rfl) (by kernel_rfl) (by kernel_rfl) (by kernel_rfl) (by kernel_rfl) rfl rfl (by first | exact Val.pure rfl | exact Val.vc rfl (fun hg => by first | omega | (simp only [inK]; omega) | exact True.intro | assumption) | exact Val.load rfl (fun _ => rdOwn1 rfl) | exact Val.loadA rfl (fun _ => rdAll) rfl) rfl rfl rfl (by first | exact Hle.refl _ | exact Hle.none _) ?_
        refine T_dval 9 rfl (by kernel_rfl) (by kernel_rfl) (by kernel_rfl) (by kernel_rfl) (by kernel_rfl) rfl rfl (by first | exact Val.pure rfl | exact Val.vc rfl (fun hg => by first | omega | (simp only [inK]; omega) | exact True.intro | assumption) | exact Val.load rfl (fun _ => rdOwn1 rfl) | exact Val.loadA rfl (fun _ => rdAll) rfl) rfl rfl rfl (by first | exact Hle.refl _ | exact Hle.none _) ?_
        refine T_dval 10 rfl (by kernel_rfl) (by kernel_rfl) (by kernel_rfl) (by kernel_rfl) (by kernel_rfl) rfl rfl (Val.load (v := .slice (some ⟨g1, 0, none⟩) (m + 1) (m + 1)) rfl (fun _ => rdRow (A := some ⟨gA, 0, none⟩) (by omega) (get1 (by rw [show 0 + ((i : Int) - 1).toNat * 1 = i - 1 by omega, List.getElem?_map, hx]; rfl)))) rfl rfl rfl (by first | exact Hle.refl _ | exact Hle.none _) ?_
        refine T_dval 11 rfl (by kernel_rfl) (by kernel_rfl) (by kernel_rfl) (by kernel_rfl) (by kernel_rfl) rfl rfl (by first | exact Val.pure rfl | exact Val.vc rfl (fun hg => by first | omega | (simp only [inK]; omega) | exact True.intro | assumption) | exact Val.load rfl (fun _ => rdOwn1 rfl) | exact Val.loadA rfl (fun _ => rdAll) rfl) rfl rfl rfl (by first | exact Hle.refl _ | exact Hle.none _) ?_
        refine T_dval 12 rfl (by kernel_rfl) (by kernel_rfl) (by kernel_rfl) (by kernel_rfl) (by kernel_rfl) rfl rfl (by first | exact Val.pure rfl | exact Val.vc rfl (fun hg => by first | omega | (simp only [inK]; omega) | exact True.intro | assumption) | exact Val.load rfl (fun _ => rdOwn1 rfl) | exact Val.loadA rfl (fun _ => rdAll) rfl) rfl rfl rfl (by first | exact Hle.refl _ | exact Hle.none _) ?_
        refine T_dval 13 rfl (by kernel_rfl) (by kernel_rfl) (by kernel_rfl) (by kernel_rfl) (by kernel_rfl) rfl rfl (by first | exact Val.pure rfl | exact Val.vc rfl (fun hg => by first | omega | (simp only [inK]; omega) | exact True.intro | assumption) | exact Val.load rfl (fun _ => rdOwn1 rfl) | exact Val.loadA rfl (fun _ => rdAll) rfl) rfl rfl rfl (by first | exact Hle.refl _ | exact Hle.none _) ?_
        refine T_dval 14 rfl (by kernel_rfl) (by kernel_rfl) (by kernel_rfl) (by kernel_rfl) (by kernel_rfl) rfl rfl (Val.load (v := .int .i64 (lv e (i - 1) (k - 1))) rfl (fun _ => rdM (l := l) (k := i - 1) hx (get1 (by rw [hcs]; exact vget (k - 1) (by omega) (by omega))))) rfl rfl rfl (by first | exact Hle.refl _ | exact Hle.none _) ?_
        refine T_dval 15 rfl (by kernel_rfl) (by kernel_rfl) (by kernel_rfl) (by kernel_rfl) (by kernel_rfl) rfl rfl (by first | exact Val.pure rfl | exact Val.vc rfl (fun hg => by first | omega | (simp only [inK]; omega) | exact True.intro | assumption) | exact Val.load rfl (fun _ => rdOwn1 rfl) | exact Val.loadA rfl (fun _ => rdAll) rfl) rfl rfl rfl (by first | exact Hle.refl _ | exact Hle.none _) ?_
        refine T_dval 16 rfl (by kernel_rfl) (by kernel_rfl) (by kernel_rfl) (by kernel_rfl) (by kernel_rfl) rfl rfl (by first | exact Val.pure rfl | exact Val.vc rfl (fun hg => by first | omega | (simp only [inK]; omega) | exact True.intro | assumption) | exact Val.load rfl (fun _ => rdOwn1 rfl) | exact Val.loadA rfl (fun _ => rdAll) rfl) rfl rfl rfl (by first | exact Hle.refl _ | exact Hle.none _) ?_
        refine T_dval 17 rfl (by kernel_rfl) (by kernel_rfl) (by kernel_rfl) (by kernel_rfl) (by kernel_rfl) rfl rfl (by first | exact Val.pure rfl | exact Val.vc rfl (fun hg => by first | omega | (simp only [inK]; omega) | exact True.intro | assumption) | exact Val.load rfl (fun _ => rdOwn1 rfl) | exact Val.loadA rfl (fun _ => rdAll) rfl) rfl rfl rfl (by first | exact Hle.refl _ | exact Hle.none _) ?_
        refine T_dop 18 (by kernel_rfl) rfl (OpT.store (b := g) rfl rfl rfl rfl (by rw [List.length_set, valV_length]; omega) ⟨fun h => (by cases h), ?_⟩)
        refine T_dend (by kernel_rfl) ?_
        repeat' (first | refine d1 ?_ | refine dd ?_ | (show ∀ _ : Nat, T _ _ _ _ _; intro _))
        refine T_back (k + 1) (by omega) (by omega) ⟨rfl, rfl, rfl, rfl, rfl, rfl, trivial⟩ ?_
        show Hle (blk g (((valV (mx (lv e i) (fun _ => 0) k) (m + 1)).set k (.int .i64 x1)).set (0 + k * 1) (.int .i64 (min x1 (lv e (i - 1) (k - 1) + 1)))) 3 :: _) _
        rw [show 0 + k * 1 = k by omega, List.set_set, valV_set (f := lv e i) (by rw [hstep, h5]; simp only [Bool.false_eq_true, if_false, if_true]; omega)]
        exact Hle.refl _
    · simp only [decide_eq_false_iff_not] at h2
      rw [valV_mx_full _ _ _ _ (by omega)]
      repeat' (first | refine d1 ?_ | refine dd ?_ | (show ∀ _ : Nat, T _ _ _ _ _; intro _))
      refine T_op (OpT.append rfl rfl rfl rfl rfl rfl rfl rfl rfl rfl (fun w hw => Src.own hw rfl) rfl (by dsimp only; omega) (by omega) (fun A' cap' _ => ?_))
      repeat' (first | refine d1 ?_ | refine dd ?_ | (show ∀ _ : Nat, T _ _ _ _ _; intro _))
      refine T_back (i + 1, A', cap', l ++ [(g, valV (lv e i) (m + 1))]) ⟨by dsimp only; omega, by simp [hl], fun q x hq => ?_⟩ (by dsimp only; omega) ⟨rfl, rfl, rfl, rfl, trivial⟩ ?_
      · rw [List.getElem?_append] at hq
        split at hq
        · exact hok q x hq
        · rename_i h3
          have hq2 : q = i := by
            have := (List.getElem?_eq_some_iff.1 hq).1
            simp at this
            omega
          rw [show q - l.length = 0 by omega] at hq
          simp at hq
          subst hq
          rw [hq2]
      · dsimp only
        refine (Hle.tail _ _).trans ?_
        show Hle [blk g (valV (lv e i) (m + 1)) 3, row 33 1 A' cap' (i + 1) (l.map (slv m) ++ [slv m (g, valV (lv e i) (m + 1))]), blks 3 l] _
        rw [show l.map (slv m) ++ [slv m (g, valV (lv e i) (m + 1))] = (l ++ [(g, valV (lv e i) (m + 1))]).map (slv m) by simp]
        exact ((Hle.perm ((List.Perm.swap _ _ _).cons _)).trans blks_snoc).trans (Hle.perm (List.Perm.swap _ _ _))
  · simp only [decide_eq_false_iff_not] at h
    have hi2 : i = n + 1 := by omega
    subst hi2
    refine T_rowpos (A := A) (by omega) (fun gA hA => ?_)
    subst hA
    repeat' (first | refine d1 ?_ | refine dd ?_ | (show ∀ _ : Nat, T _ _ _ _ _; intro _) | (show T _ (.code .ret :: _) _ _ _; refine T_retV _ rfl (Hle.refl _) ⟨gA, cap, l, ⟨hl, hok⟩, rfl, rfl⟩))

theorem listsRef_spec (a b : ByteArray) (Aa Ab : Option Addr) (ca cb : Nat) (ha0 : a.size ≤ 65536) (hb0 : b.size ≤ 65536) (w : World) (ha : Src w 1 Aa a.size (strs a a.size)) (hb : Src w 1 Ab b.size (strs b b.size)) :
    Spec Tryz.prog 138 [.slice Aa a.size ca, .slice Ab b.size cb] w (fun v A => v = (if 256 < max (a.size : Int) b.size then .tuple #[.int .i64 0, .int .i64 4] else .tuple #[.int .i64 (lv (eqB a b) a.size b.size), .int .i64 0]) ∧ A = []) := by
  refine spec_of sg Tryz.func138 rfl rfl rfl ?_
  repeat' (first | refine d1 ?_ | refine dd ?_ | (show ∀ _ : Nat, T _ _ _ _ _; intro _))
  refine T_if rfl (fun h => ?_) (fun h => ?_)
  · simp only [Bool.or_eq_true, decide_eq_true_eq] at h
    repeat' (first | refine d1 ?_ | refine dd ?_ | (show ∀ _ : Nat, T _ _ _ _ _; intro _) | (show T _ (.code .ret :: _) _ _ _; refine T_retV [] rfl (Hle.none _) ⟨by rw [if_pos (by omega)]; rfl, rfl⟩))
  · simp only [Bool.or_eq_false_iff, decide_eq_false_iff_not] at h
    repeat' (first | refine d1 ?_ | refine dd ?_ | (show ∀ _ : Nat, T _ _ _ _ _; intro _))
    refine T_op (OpT.call rfl rfl rfl rfl rfl (fun w hw => tableRef_spec a b Aa Ab ca cb (by omega) (by omega) w (rdSrc ha w hw) (rdSrc hb w hw)) ?_)
    rintro v A ⟨g, cap, l, ⟨hl, hok⟩, rfl, rfl⟩
    obtain ⟨⟨g1, cs1⟩, hx⟩ : ∃ x, l[a.size]? = some x := ⟨_, List.getElem?_eq_getElem (by omega)⟩
    have hcs := hok _ _ hx
    dsimp only at hcs
    show T _ _ _ _ [row 33 1 (some ⟨g, 0, none⟩) cap (a.size + 1) (l.map (slv b.size)), blks 3 l]
    repeat' (first | refine d1 ?_ | refine dd ?_ | (show ∀ _ : Nat, T _ _ _ _ _; intro _))
    refine T_load (v := .slice (some ⟨g1, 0, none⟩) (b.size + 1) (b.size + 1)) rfl rfl rfl rfl rfl (rdRow (A := some ⟨g, 0, none⟩) (by omega) (get1 (by rw [show 0 + (a.size : Int).toNat * 1 = a.size by omega, List.getElem?_map, hx]; rfl))) ?_
    repeat' (first | refine d1 ?_ | refine dd ?_ | (show ∀ _ : Nat, T _ _ _ _ _; intro _))
    refine T_load (v := .int .i64 (lv (eqB a b) a.size b.size)) rfl rfl rfl rfl rfl (rdM (l := l) (k := a.size) hx (get1 (by rw [hcs]; exact vget b.size (by omega) (by omega)))) ?_
    repeat' (first | refine d1 ?_ | refine dd ?_ | (show ∀ _ : Nat, T _ _ _ _ _; intro _) | (show T _ (.code .ret :: _) _ _ _; refine T_retV [] rfl (Hle.none _) ⟨by rw [if_neg (by omega)]; rfl, rfl⟩))
theorem srcRow {C : Cx} {H : List HA} {A : Option Addr} {e cap n : Nat} {xs : List Value} {rb : HA → List HA} [hf : FocusR H A e 1 cap n xs rb] (hl : xs.length = n) : ∀ w, Cls C.w0 w H → Src w 1 A n xs := by
  intro w hw
  refine ⟨by rw [hl, Nat.mul_one], fun hn => ?_⟩
  obtain ⟨i, hi, _⟩ := hf.at_
  obtain ⟨F, h1, h2, h3⟩ := hw.sep
  obtain ⟨_, hr⟩ := h1 i _ hi
  rcases hr with ⟨_, _, h9, _⟩ | ⟨g, cur, rfl, _⟩
  · omega
  · exact ⟨rfl, rdRow (C := C) (A := some ⟨g, 0, none⟩) hn (fun j u hu => by rw [show ofs (some ⟨g, 0, none⟩) + j = j by simp [ofs]]; exact hu) w hw⟩
theorem distRef_spec (a b : ByteArray) (ha0 : a.size ≤ 65536) (hb0 : b.size ≤ 65536) (w : World) : Spec Tryz.prog 121 [.string a, .string b] w (fun v A => v = (if 256 < max (a.size : Int) b.size then .tuple #[.int .i64 0, .int .i64 4] else .tuple #[.int .i64 (lv (eqB a b) a.size b.size), .int .i64 0]) ∧ A = []) := by
  refine spec_of sg Tryz.func121 rfl rfl rfl ?_
  repeat' (first | refine d1 ?_ | refine dd ?_ | (show ∀ _ : Nat, T _ _ _ _ _; intro _))
  refine T_callE rfl rfl rfl rfl rfl (fun w _ => bytesRef_spec a ha0 w) (fun x _ => ?_)
  repeat' (first | refine d1 ?_ | refine dd ?_ | (show ∀ _ : Nat, T _ _ _ _ _; intro _))
  refine T_callE rfl rfl rfl rfl rfl (fun w _ => bytesRef_spec b hb0 w) (fun y _ => ?_)
  refine T_op (OpT.call rfl rfl rfl rfl rfl (fun w hw => listsRef_spec a b x.1 y.1 x.2 y.2 ha0 hb0 w (srcRow (strs_length _ _) w hw) (srcRow (strs_length _ _) w hw)) ?_)
  rintro v A ⟨hv, rfl⟩
  by_cases hc : 256 < max (a.size : Int) b.size
  · rw [if_pos hc] at hv ⊢
    subst hv
    repeat' (first | refine d1 ?_ | refine dd ?_ | (show ∀ _ : Nat, T _ _ _ _ _; intro _) | (show T _ (.code .ret :: _) _ _ _; refine T_retV [] rfl (Hle.none _) ⟨rfl, rfl⟩))
  · rw [if_neg hc] at hv ⊢
    subst hv
    repeat' (first | refine d1 ?_ | refine dd ?_ | (show ∀ _ : Nat, T _ _ _ _ _; intro _) | (show T _ (.code .ret :: _) _ _ _; refine T_retV [] rfl (Hle.none _) ⟨rfl, rfl⟩))
end Go.Proofs.YtmcgificpaeipaaGreatDoor
/- Walks: costs, by the program and by the reference. -/
namespace Go.Proofs.YtmcgificpaeipaaGreatDoor
open Go.RowKit Go.Shelf Go.Proofs
set_option maxRecDepth 100000
set_option maxHeartbeats 1000000

theorem badPrg_spec (n : Int) (w : World) : Spec Tryz.prog 94 [.int .i64 n] w (fun v A => v = .bool (badN n) ∧ A = []) := by
  refine spec_of sg Tryz.func94 rfl rfl rfl ?_
  repeat' (first | refine d1 ?_ | refine dd ?_ | (show ∀ _ : Nat, T _ _ _ _ _; intro _) | (show T _ (.code .ret :: _) _ _ _; refine T_retV [] rfl (Hle.none _) ⟨rfl, rfl⟩))
theorem costPrg_spec (c : Costs) (w : World) : Spec Tryz.prog 78 [c.val] w (fun v A => v = .int .i64 (costE c) ∧ A = []) := by
  refine spec_of sg Tryz.func78 rfl rfl rfl ?_
  repeat' (first | (show T _ (.ops _ (⟨_, .box _ _, _, _, _, _⟩ :: _) :: _) _ _ _; refine T_op (OpT.box (cs := c.cells) rfl rfl rfl rfl rfl rfl rfl (fun _ => ?_))) | refine d1 ?_ | refine dd ?_ | (show T _ (.ops _ (_ :: _) :: _) _ _ _; first | refine T_call rfl rfl rfl rfl rfl (fun w hw => containsFuncI_spec _ _ _ c.ints _ [] [] badN w (Src.own hw rfl) rfl (by omega) (fun x _ w' _ => badPrg_spec x w')) ?_ | refine T_callC rfl rfl rfl rfl rfl rfl rfl (fun hg w hw => containsFuncI_spec _ _ _ c.ints _ [] [] badN w (Src.own hw rfl) rfl (by omega) (fun x _ w' _ => badPrg_spec x w')) ?_) | (show T _ (.run _ _ (_ :: _) _ _ :: _) _ _ _; first | refine rc rfl rfl rfl rfl rfl rfl rfl (fun w hw => containsFuncI_spec _ _ _ c.ints _ [] [] badN w (Src.own hw rfl) rfl (by omega) (fun x _ w' _ => badPrg_spec x w')) ?_ | refine rcG rfl rfl rfl rfl rfl rfl rfl rfl rfl (fun hg w hw => containsFuncI_spec _ _ _ c.ints _ [] [] badN w (Src.own hw rfl) rfl (by omega) (fun x _ w' _ => badPrg_spec x w')) ?_) | (show ∀ _ : Nat, T _ _ _ _ _; intro _))
  refine T_if rfl (fun h => ?_) (fun h => ?_)
  · repeat' (first | refine d1 ?_ | refine dd ?_ | (show ∀ _ : Nat, T _ _ _ _ _; intro _) | (show T _ (.code .ret :: _) _ _ _; refine T_retV [] rfl (Hle.none _) ⟨congrArg (Value.int .i64) ?_, rfl⟩))
    unfold costE; rw [if_pos h]
  · repeat' (first | refine d1 ?_ | refine dd ?_ | (show ∀ _ : Nat, T _ _ _ _ _; intro _))
    refine T_if rfl (fun h2 => ?_) (fun h2 => ?_)
    · simp only [decide_eq_true_eq] at h2
      repeat' (first | refine d1 ?_ | refine dd ?_ | (show ∀ _ : Nat, T _ _ _ _ _; intro _) | (show T _ (.code .ret :: _) _ _ _; refine T_retV [] rfl (Hle.none _) ⟨congrArg (Value.int .i64) ?_, rfl⟩))
      unfold costE; rw [if_neg (by rw [h]; simp), if_pos h2]
    · simp only [decide_eq_false_iff_not] at h2
      repeat' (first | refine d1 ?_ | refine dd ?_ | (show ∀ _ : Nat, T _ _ _ _ _; intro _) | (show T _ (.code .ret :: _) _ _ _; refine T_retV [] rfl (Hle.none _) ⟨congrArg (Value.int .i64) ?_, rfl⟩))
      unfold costE; rw [if_neg (by rw [h]; simp), if_neg h2]
theorem costRef_spec (c : Costs) (w : World) : Spec Tryz.prog 39 [c.val] w (fun v A => v = .int .i64 (costE c) ∧ A = []) := by
  refine spec_of sg Tryz.func39 rfl rfl rfl ?_
  repeat' (first | (show T _ (.ops _ (⟨_, .box _ _, _, _, _, _⟩ :: _) :: _) _ _ _; refine T_op (OpT.box (cs := c.cells) rfl rfl rfl rfl rfl rfl rfl (fun _ => ?_))) | refine d1 ?_ | refine dd ?_ | (show T _ (.ops _ (_ :: _) :: _) _ _ _; refine T_op (OpT.litW (cs := c.cells) rfl rfl rfl rfl rfl rfl rfl rfl rfl rfl rfl (fun _ => ?_))) | (show ∀ _ : Nat, T _ _ _ _ _; intro _))
  rename_i p b
  refine T_loop (fun k : Nat => [(1, .pointer (some ⟨p, 0, none⟩)), (3, .slice (some ⟨b, 0, none⟩) 4 4), (4, .int .i64 k)]) (fun _ => [blk b c.cells 3, blk p c.cells 23]) (fun k => k ≤ 4 ∧ ∀ j x, j < k → c.ints[j]? = some x → badN x = false) (fun k => 4 - k) 0 ⟨by omega, fun j x h => by omega⟩ ⟨rfl, rfl, rfl, trivial⟩ (Hle.refl _) ?_
  rintro k ⟨hk, hok⟩
  repeat' (first | refine d1 ?_ | refine dd ?_ | (show ∀ _ : Nat, T _ _ _ _ _; intro _))
  refine T_if rfl (fun h => ?_) (fun h => ?_)
  · simp only [decide_eq_true_eq] at h
    obtain ⟨x, hx⟩ : ∃ x, c.ints[k]? = some x := ⟨_, List.getElem?_eq_getElem (by show k < 4; omega)⟩
    have hx' : c.cells[k]? = some (.int .i64 x) := by
      have : c.cells = c.ints.map (Value.int .i64) := rfl
      rw [this, List.getElem?_map, hx]; rfl
    repeat' (first | refine d1 ?_ | refine dd ?_ | (show T _ (.ops _ (_ :: _) :: _) _ _ _; first | refine T_load (v := .int .i64 x) rfl rfl rfl rfl rfl (rdOwn1 (b := b) (by rw [show 0 + (k : Int).toNat * 1 = k by omega]; exact hx')) ?_ | refine T_loadC (v := .int .i64 x) rfl rfl rfl rfl rfl rfl rfl (fun _ => rdOwn1 (b := b) (by rw [show 0 + (k : Int).toNat * 1 = k by omega]; exact hx')) ?_) | (show ∀ _ : Nat, T _ _ _ _ _; intro _))
    refine T_if rfl (fun h2 => ?_) (fun h2 => ?_)
    · repeat' (first | refine d1 ?_ | refine dd ?_ | (show ∀ _ : Nat, T _ _ _ _ _; intro _) | (show T _ (.code .ret :: _) _ _ _; refine T_retV [] rfl (Hle.none _) ⟨congrArg (Value.int .i64) ?_, rfl⟩))
      have : c.ints.any badN = true := List.any_eq_true.2 ⟨x, List.mem_of_getElem? hx, h2⟩
      unfold costE; rw [if_pos this]
    · repeat' (first | refine d1 ?_ | refine dd ?_ | (show ∀ _ : Nat, T _ _ _ _ _; intro _))
      refine T_back (k + 1) ⟨by omega, fun j y hj hy => ?_⟩ (by omega) ⟨rfl, rfl, rfl, trivial⟩ (Hle.refl _)
      rcases Nat.lt_or_ge j k with h3 | h3
      · exact hok j y h3 hy
      · rw [show j = k by omega, hx] at hy
        cases hy
        exact h2
  · simp only [decide_eq_false_iff_not] at h
    have hany : c.ints.any badN = false := by
      rw [List.any_eq_false]
      intro x hx
      obtain ⟨j, hj, e⟩ := List.getElem_of_mem hx
      have hj4 : j < 4 := hj
      rw [hok j x (by omega) (by rw [List.getElem?_eq_getElem hj, e])]
      simp
    repeat' (first | refine d1 ?_ | refine dd ?_ | (show ∀ _ : Nat, T _ _ _ _ _; intro _))
    refine T_if rfl (fun h2 => ?_) (fun h2 => ?_)
    · simp only [decide_eq_true_eq] at h2
      repeat' (first | refine d1 ?_ | refine dd ?_ | (show ∀ _ : Nat, T _ _ _ _ _; intro _) | (show T _ (.code .ret :: _) _ _ _; refine T_retV [] rfl (Hle.none _) ⟨congrArg (Value.int .i64) ?_, rfl⟩))
      unfold costE; rw [if_neg (by rw [hany]; simp), if_pos h2]
    · simp only [decide_eq_false_iff_not] at h2
      repeat' (first | refine d1 ?_ | refine dd ?_ | (show ∀ _ : Nat, T _ _ _ _ _; intro _) | (show T _ (.code .ret :: _) _ _ _; refine T_retV [] rfl (Hle.none _) ⟨congrArg (Value.int .i64) ?_, rfl⟩))
      unfold costE; rw [if_neg (by rw [hany]; simp), if_neg h2]

theorem gapPrgC_spec (c : Costs) (t : Tok) (hc : 0 ≤ c.gap ∧ c.gap ≤ 1000) (ht : 0 ≤ t.flags ∧ t.flags ≤ 31) (w : World) : Spec Tryz.prog 66 [c.val, t.val] w (fun v A => v = .int .i64 (gapC c t) ∧ A = []) := by
  refine spec_of sg Tryz.func66 rfl rfl rfl ?_
  have hfl := (flags_law t.flags ht).2.1
  refine T_op (OpT.box (cs := c.cells) rfl rfl rfl rfl rfl rfl rfl (fun _ => ?_))
  repeat' (first | (show T _ (.ops _ (⟨_, .box _ _, _, _, _, _⟩ :: _) :: _) _ _ _; refine T_op (OpT.box (cs := t.cells) rfl rfl rfl rfl rfl rfl rfl (fun _ => ?_))) | refine d1 ?_ | refine dd ?_ | (show ∀ _ : Nat, T _ _ _ _ _; intro _))
  rw [show (!decide (andI t.flags 8 = 0)) = hasN t.flags 8 by rw [← hfl]; simp]
  refine T_if rfl (fun h => ?_) (fun h => ?_)
  · repeat' (first | refine d1 ?_ | refine dd ?_ | (show ∀ _ : Nat, T _ _ _ _ _; intro _) | (show T _ (.code .ret :: _) _ _ _; refine T_retV [] rfl (Hle.none _) ⟨congrArg (Value.int .i64) ?_, rfl⟩))
    unfold gapC; rw [if_pos h]
  · repeat' (first | refine d1 ?_ | refine dd ?_ | (show ∀ _ : Nat, T _ _ _ _ _; intro _) | (show T _ (.code .ret :: _) _ _ _; refine T_retV [] rfl (Hle.none _) ⟨congrArg (Value.int .i64) ?_, rfl⟩))
    unfold gapC; rw [if_neg (by rw [h]; simp)]
theorem gapRefC_spec (c : Costs) (t : Tok) (hc : 0 ≤ c.gap ∧ c.gap ≤ 1000) (ht : 0 ≤ t.flags ∧ t.flags ≤ 31) (w : World) : Spec Tryz.prog 110 [c.val, t.val] w (fun v A => v = .int .i64 (gapC c t) ∧ A = []) := by
  refine spec_of sg Tryz.func110 rfl rfl rfl ?_
  refine T_op (OpT.box (cs := c.cells) rfl rfl rfl rfl rfl rfl rfl (fun _ => ?_))
  refine T_op (OpT.box (cs := t.cells) rfl rfl rfl rfl rfl rfl rfl (fun _ => ?_))
  repeat' (first | refine d1 ?_ | refine dd ?_ | (show T _ (.ops _ (_ :: _) :: _) _ _ _; first | refine T_call rfl rfl rfl rfl rfl (fun w hw => hasRef17_spec t 8 (.inr rfl) ht w) ?_ | refine T_callC rfl rfl rfl rfl rfl rfl rfl (fun hg w hw => hasRef17_spec t 8 (.inr rfl) ht w) ?_) | (show T _ (.run _ _ (_ :: _) _ _ :: _) _ _ _; first | refine rc rfl rfl rfl rfl rfl rfl rfl (fun w hw => hasRef17_spec t 8 (.inr rfl) ht w) ?_ | refine rcG rfl rfl rfl rfl rfl rfl rfl rfl rfl (fun hg w hw => hasRef17_spec t 8 (.inr rfl) ht w) ?_) | (show ∀ _ : Nat, T _ _ _ _ _; intro _))
  refine T_if rfl (fun h => ?_) (fun h => ?_)
  · repeat' (first | refine d1 ?_ | refine dd ?_ | (show ∀ _ : Nat, T _ _ _ _ _; intro _) | (show T _ (.code .ret :: _) _ _ _; refine T_retV [] rfl (Hle.none _) ⟨congrArg (Value.int .i64) ?_, rfl⟩))
    unfold gapC; rw [if_pos h]
  · repeat' (first | refine d1 ?_ | refine dd ?_ | (show ∀ _ : Nat, T _ _ _ _ _; intro _) | (show T _ (.code .ret :: _) _ _ _; refine T_retV [] rfl (Hle.none _) ⟨congrArg (Value.int .i64) ?_, rfl⟩))
    unfold gapC; rw [if_neg (by rw [h]; simp)]
theorem pairRefC_spec (c : Costs) (a b : Tok) (hc : costE c = 0) (ha : 0 ≤ a.flags ∧ a.flags ≤ 31) (hb : 0 ≤ b.flags ∧ b.flags ≤ 31) (hsa : a.norm.size ≤ 128) (hsb : b.norm.size ≤ 128) (w : World) : Spec Tryz.prog 109 [c.val, a.val, b.val] w (fun v A => v = .int .i64 (pairC c a b) ∧ A = []) := by
  obtain ⟨c1, c2, c3, c4, c5⟩ := costE_ok hc
  refine spec_of sg Tryz.func109 rfl rfl rfl ?_
  refine T_op (OpT.box (cs := c.cells) rfl rfl rfl rfl rfl rfl rfl (fun _ => ?_))
  refine T_op (OpT.box (cs := a.cells) rfl rfl rfl rfl rfl rfl rfl (fun _ => ?_))
  refine T_op (OpT.box (cs := b.cells) rfl rfl rfl rfl rfl rfl rfl (fun _ => ?_))
  repeat' (first | refine d1 ?_ | refine dd ?_ | (show ∀ _ : Nat, T _ _ _ _ _; intro _))
  refine T_if rfl (fun h => ?_) (fun h => ?_)
  · simp only [decide_eq_true_eq] at h
    repeat' (first | refine d1 ?_ | refine dd ?_ | (show ∀ _ : Nat, T _ _ _ _ _; intro _) | (show T _ (.code .ret :: _) _ _ _; refine T_retV [] rfl (Hle.none _) ⟨congrArg (Value.int .i64) ?_, rfl⟩))
    unfold pairC; rw [if_pos h]
  simp only [decide_eq_false_iff_not] at h
  repeat' (first | refine d1 ?_ | refine dd ?_ | (show T _ (.ops _ (_ :: _) :: _) _ _ _; first | refine T_call rfl rfl rfl rfl rfl (fun w hw => hasRef17_spec a 2 (.inl rfl) ha w) ?_ | refine T_callC rfl rfl rfl rfl rfl rfl rfl (fun hg w hw => hasRef17_spec a 2 (.inl rfl) ha w) ?_ | refine T_call rfl rfl rfl rfl rfl (fun w hw => hasRef17_spec b 2 (.inl rfl) hb w) ?_ | refine T_callC rfl rfl rfl rfl rfl rfl rfl (fun hg w hw => hasRef17_spec b 2 (.inl rfl) hb w) ?_ | refine T_loadAC rfl rfl rfl rfl rfl rfl rfl (fun _ => rdAll) rfl ?_) | (show T _ (.run _ _ (_ :: _) _ _ :: _) _ _ _; first | refine rc rfl rfl rfl rfl rfl rfl rfl (fun w hw => hasRef17_spec a 2 (.inl rfl) ha w) ?_ | refine rcG rfl rfl rfl rfl rfl rfl rfl rfl rfl (fun hg w hw => hasRef17_spec a 2 (.inl rfl) ha w) ?_ | refine rc rfl rfl rfl rfl rfl rfl rfl (fun w hw => hasRef17_spec b 2 (.inl rfl) hb w) ?_ | refine rcG rfl rfl rfl rfl rfl rfl rfl rfl rfl (fun hg w hw => hasRef17_spec b 2 (.inl rfl) hb w) ?_) | (show ∀ _ : Nat, T _ _ _ _ _; intro _))
  refine T_if rfl (fun h2 => ?_) (fun h2 => ?_)
  · simp only [Bool.or_eq_true, decide_eq_true_eq, or_assoc] at h2
    repeat' (first | refine d1 ?_ | refine dd ?_ | (show ∀ _ : Nat, T _ _ _ _ _; intro _) | (show T _ (.code .ret :: _) _ _ _; refine T_retV [] rfl (Hle.none _) ⟨congrArg (Value.int .i64) ?_, rfl⟩))
    unfold pairC; rw [if_neg h, if_pos h2]
  simp only [Bool.or_eq_false_iff, decide_eq_false_iff_not] at h2
  repeat' (first | refine d1 ?_ | refine dd ?_ | (show ∀ _ : Nat, T _ _ _ _ _; intro _))
  refine T_op (OpT.call rfl rfl rfl rfl rfl (fun w _ => distRef_spec a.norm b.norm (by omega) (by omega) w) ?_)
  rintro v A ⟨hv, rfl⟩
  rw [if_neg (by omega)] at hv
  subst hv
  show T _ _ _ _ [_, _, _]
  have hd := lv_bd (eqB a.norm b.norm) a.norm.size b.norm.size
  have hm : 0 ≤ c.letter * lv (eqB a.norm b.norm) a.norm.size b.norm.size ∧ c.letter * lv (eqB a.norm b.norm) a.norm.size b.norm.size ≤ 1000 * 256 :=
    ⟨Int.mul_nonneg (by omega) (by omega), Int.mul_le_mul (by omega) (by omega) (by omega) (by omega)⟩
  repeat' (first | refine d1 ?_ | refine dd ?_ | (show ∀ _ : Nat, T _ _ _ _ _; intro _) | (show T _ (.code .ret :: _) _ _ _; refine T_retV [] rfl (Hle.none _) ⟨congrArg (Value.int .i64) ?_, rfl⟩))
  have h3 : ¬ (a.norm = b.norm ∨ hasN a.flags 2 = true ∨ hasN b.flags 2 = true) := by
    rintro (h3 | h3 | h3)
    · exact h2.1.1 h3
    · rw [h2.1.2] at h3; cases h3
    · rw [h2.2] at h3; cases h3
  unfold pairC; rw [if_neg h, if_neg h3]; rfl

theorem rule3_spec (c : Costs) (a b : Tok) (hc : costE c = 0) (hsa : a.norm.size ≤ 128) (hsb : b.norm.size ≤ 128) (w : World) : Spec Tryz.prog 136 [c.val, a.val, b.val] w (fun v A => v = .tuple #[.int .i64 (min c.most (max c.norm (c.letter * distS a.norm b.norm))), .bool true] ∧ A = []) := by
  obtain ⟨c1, c2, c3, c4, c5⟩ := costE_ok hc
  refine spec_of sg Tryz.func136 rfl rfl rfl ?_
  refine T_op (OpT.box (cs := c.cells) rfl rfl rfl rfl rfl rfl rfl (fun _ => ?_))
  refine T_op (OpT.box (cs := a.cells) rfl rfl rfl rfl rfl rfl rfl (fun _ => ?_))
  refine T_op (OpT.box (cs := b.cells) rfl rfl rfl rfl rfl rfl rfl (fun _ => ?_))
  repeat' (first | refine d1 ?_ | refine dd ?_ | (show ∀ _ : Nat, T _ _ _ _ _; intro _))
  refine T_op (OpT.call rfl rfl rfl rfl rfl (fun w _ => distPrg_spec a.norm b.norm w) ?_)
  rintro v A ⟨hv, rfl⟩
  rw [if_neg (by omega)] at hv
  subst hv
  show T _ _ _ _ [_, _, _]
  have hd := lv_bd (eqB a.norm b.norm) a.norm.size b.norm.size
  have hm : 0 ≤ c.letter * lv (eqB a.norm b.norm) a.norm.size b.norm.size ∧ c.letter * lv (eqB a.norm b.norm) a.norm.size b.norm.size ≤ 1000 * 256 :=
    ⟨Int.mul_nonneg (by omega) (by omega), Int.mul_le_mul (by omega) (by omega) (by omega) (by omega)⟩
  repeat' (first | refine d1 ?_ | refine dd ?_ | (show ∀ _ : Nat, T _ _ _ _ _; intro _) | (show T _ (.code .ret :: _) _ _ _; refine T_retV [] rfl (Hle.none _) ⟨rfl, rfl⟩))

theorem rule1_spec (c : Costs) (a b : Tok) (w : World) : Spec Tryz.prog 134 [c.val, a.val, b.val] w (fun v A => v = .tuple #[.int .i64 0, .bool (decide (a.text = b.text))] ∧ A = []) := by
  refine spec_of sg Tryz.func134 rfl rfl rfl ?_
  refine T_op (OpT.box (cs := c.cells) rfl rfl rfl rfl rfl rfl rfl (fun pc => ?_))
  refine T_op (OpT.box (cs := a.cells) rfl rfl rfl rfl rfl rfl rfl (fun pa => ?_))
  refine T_op (OpT.box (cs := b.cells) rfl rfl rfl rfl rfl rfl rfl (fun pb => ?_))
  repeat' (first | refine d1 ?_ | refine dd ?_ | (show ∀ _ : Nat, T _ _ _ _ _; intro _) | (show T _ (.code .ret :: _) _ _ _; refine T_retV [] rfl (Hle.none _) ⟨rfl, rfl⟩))

theorem rule2_spec (c : Costs) (a b : Tok) (ha : 0 ≤ a.flags ∧ a.flags ≤ 31) (hb : 0 ≤ b.flags ∧ b.flags ≤ 31) (ho : 0 ≤ orI a.flags b.flags ∧ orI a.flags b.flags ≤ 31) (w : World) : Spec Tryz.prog 135 [c.val, a.val, b.val] w (fun v A => v = .tuple #[.int .i64 c.norm, .bool (decide (a.norm = b.norm) || !decide (andI (orI a.flags b.flags) 2 = 0))] ∧ A = []) := by
  refine spec_of sg Tryz.func135 rfl rfl rfl ?_
  refine T_op (OpT.box (cs := c.cells) rfl rfl rfl rfl rfl rfl rfl (fun pc => ?_))
  refine T_op (OpT.box (cs := a.cells) rfl rfl rfl rfl rfl rfl rfl (fun pa => ?_))
  refine T_op (OpT.box (cs := b.cells) rfl rfl rfl rfl rfl rfl rfl (fun pb => ?_))
  repeat' (first | refine d1 ?_ | refine dd ?_ | (show ∀ _ : Nat, T _ _ _ _ _; intro _) | (show T _ (.code .ret :: _) _ _ _; refine T_retV [] rfl (Hle.none _) ⟨rfl, rfl⟩))
end Go.Proofs.YtmcgificpaeipaaGreatDoor
/- Walks: costs of pairs and gaps, as the two packages hand them out. -/
namespace Go.Proofs.YtmcgificpaeipaaGreatDoor
open Go.RowKit Go.Shelf Go.Proofs
set_option maxRecDepth 100000
set_option maxHeartbeats 1000000

theorem eqCosts (a b : Costs) (w : World) : (Op.equalIn 10000 23 (.agg a.cells.toArray) (.agg b.cells.toArray)).run Tryz.prog w = .ok (decide (a = b)) w := by
  have hS : Tryz.prog.underlying 23 = some (.struct (Tryz.prog.fieldsOf 23)) := by kernel_rfl
  have hp : Tryz.prog.stoodInHeld 23 = false := Tryz.stoodInHeld23
  have u3 := Tryz.underlying3
  have a3 := Tryz.isAgg3
  rw [show (10000 : Nat) = 9999 + 1 from rfl, run_equalIn_agg w 9999 23 _ _ hS hp]
  simp only [Program.fieldsOf, Tryz.underlying23]
  go_simp
  rw [show decide (a = b) = decide (a.gap = b.gap ∧ a.norm = b.norm ∧ a.letter = b.letter ∧ a.most = b.most) from decide_eq_decide.2 (Costs.eq_iff a b)]
  (repeat' split) <;> simp_all
theorem eqTok (a b : Tok) (w : World) : (Op.equalIn 10000 48 (.agg a.cells.toArray) (.agg b.cells.toArray)).run Tryz.prog w = .ok (decide (a = b)) w := by
  have hS : Tryz.prog.underlying 48 = some (.struct (Tryz.prog.fieldsOf 48)) := by kernel_rfl
  have hp : Tryz.prog.stoodInHeld 48 = false := Tryz.stoodInHeld48
  have hS2 : Tryz.prog.underlying 46 = some (.struct (Tryz.prog.fieldsOf 46)) := by kernel_rfl
  have hp2 : Tryz.prog.stoodInHeld 46 = false := Tryz.stoodInHeld46
  have u3 := Tryz.underlying3
  have a3 := Tryz.isAgg3
  have u9 := Tryz.underlying9
  have a9 := Tryz.isAgg9
  have a25 := Tryz.isAgg46
  have z25 := Tryz.sizeOf46
  have h2 : ∀ (p q : ByteArray) (m n : Int), (Op.equalIn 9999 46 (.agg #[.string p, .int .i64 m]) (.agg #[.string q, .int .i64 n])).run Tryz.prog w = .ok (decide (p = q) && decide (m = n)) w := by
    intro p q m n
    rw [show (9999 : Nat) = 9998 + 1 from rfl, run_equalIn_agg w 9998 46 _ _ hS2 hp2]
    simp only [Program.fieldsOf, Tryz.underlying46]
    go_simp
    simp only [toL_iff]
    (repeat' split) <;> simp_all
  rw [show (10000 : Nat) = 9999 + 1 from rfl, run_equalIn_agg w 9999 48 _ _ hS hp]
  simp only [Program.fieldsOf, Tryz.underlying48]
  clear hS2 hp2
  go_simp
  try simp only [h2]
  simp only [toL_iff]
  rw [show decide (a = b) = decide (a.text = b.text ∧ a.norm = b.norm ∧ a.page = b.page ∧ a.line = b.line ∧ a.flags = b.flags ∧ a.name = b.name) from decide_eq_decide.2 (Tok.eq_iff a b)]
  (repeat' split) <;> simp_all

theorem rules_spec (w : World) : Spec Tryz.prog 119 [] w (fun v A => ∃ g : Nat, True ∧ v = .slice (some ⟨g, 0, none⟩) 3 3 ∧ A = [blk g [.func (.func 134) #[] #[], .func (.func 135) #[] #[], .func (.func 136) #[] #[]] 137]) := by
  refine spec_of sg Tryz.func119 rfl rfl rfl ?_
  repeat' (first | refine d1 ?_ | refine dd ?_ | (show ∀ _ : Nat, T _ _ _ _ _; intro _))
  rename_i g
  refine T_retV _ rfl (Hle.refl _) ⟨g, trivial, rfl, rfl⟩
theorem pairPrg_spec (c : Costs) (a b : Tok) (hc : costE c = 0) (ha : 0 ≤ a.flags ∧ a.flags ≤ 31) (hb : 0 ≤ b.flags ∧ b.flags ≤ 31) (hsa : a.norm.size ≤ 128) (hsb : b.norm.size ≤ 128) (w : World) : Spec Tryz.prog 108 [c.val, a.val, b.val] w (fun v A => v = .int .i64 (pairC c a b) ∧ A = []) := by
  obtain ⟨ho1, ho2⟩ := or_law a.flags b.flags ha hb
  refine spec_of sg Tryz.func108 rfl rfl rfl ?_
  refine T_op (OpT.box (cs := c.cells) rfl rfl rfl rfl rfl rfl rfl (fun pc => ?_))
  refine T_op (OpT.box (cs := a.cells) rfl rfl rfl rfl rfl rfl rfl (fun pa => ?_))
  refine T_op (OpT.box (cs := b.cells) rfl rfl rfl rfl rfl rfl rfl (fun pb => ?_))
  repeat' (first | refine d1 ?_ | refine dd ?_ | (show T _ (.ops _ (_ :: _) :: _) _ _ _; refine T_callE rfl rfl rfl rfl rfl (fun w hw => rules_spec w) (fun g _ => ?_)) | (show ∀ _ : Nat, T _ _ _ _ _; intro _))
  refine T_loopX (fun k : Nat => [(13, .int .i64 k)]) (fun _ => [blk g _ _, blk pb b.cells 48, blk pa a.cells 48, blk pc c.cells 23]) (fun k => k ≤ 2 ∧ (1 ≤ k → a.text ≠ b.text) ∧ (2 ≤ k → ¬ (a.norm = b.norm ∨ hasN a.flags 2 = true ∨ hasN b.flags 2 = true))) (fun k => 3 - k) 0 ⟨by omega, by omega, by omega⟩ ?_
  rintro k ⟨hk, h1, h2⟩
  repeat' (first | refine d1 ?_ | refine dd ?_ | (show ∀ _ : Nat, T _ _ _ _ _; intro _))
  refine T_if rfl (fun h => ?_) (fun h => ?_)
  · have hk3 : k = 0 ∨ k = 1 ∨ k = 2 := by omega
    rcases hk3 with rfl | rfl | rfl
    · repeat' (first | refine d1 ?_ | refine dd ?_ | (show T _ (.ops _ (_ :: _) :: _) _ _ _; first | refine T_call rfl rfl rfl rfl rfl (fun w hw => rule1_spec c a b w) ?_ | refine T_callC rfl rfl rfl rfl rfl rfl rfl (fun hg w hw => rule1_spec c a b w) ?_) | (show T _ (.run _ _ (_ :: _) _ _ :: _) _ _ _; first | refine rc rfl rfl rfl rfl rfl rfl rfl (fun w hw => rule1_spec c a b w) ?_ | refine rcG rfl rfl rfl rfl rfl rfl rfl rfl rfl (fun hg w hw => rule1_spec c a b w) ?_) | (show ∀ _ : Nat, T _ _ _ _ _; intro _))
      refine T_if rfl (fun h3 => ?_) (fun h3 => ?_)
      · repeat' (first | refine d1 ?_ | refine dd ?_ | (show ∀ _ : Nat, T _ _ _ _ _; intro _) | (show T _ (.code .ret :: _) _ _ _; refine T_retV [] rfl (Hle.none _) ⟨congrArg (Value.int .i64) ?_, rfl⟩))
        simp only [decide_eq_true_eq] at h3
        unfold pairC; rw [if_pos h3]
      · simp only [decide_eq_false_iff_not] at h3
        repeat' (first | refine d1 ?_ | refine dd ?_ | (show ∀ _ : Nat, T _ _ _ _ _; intro _))
        exact T_backX 1 ⟨by omega, fun _ => h3, by omega⟩ (by omega)
    · have h1 := h1 (by omega)
      repeat' (first | refine d1 ?_ | refine dd ?_ | (show T _ (.ops _ (_ :: _) :: _) _ _ _; first | refine T_call rfl rfl rfl rfl rfl (fun w hw => rule2_spec c a b ha hb ho1 w) ?_ | refine T_callC rfl rfl rfl rfl rfl rfl rfl (fun hg w hw => rule2_spec c a b ha hb ho1 w) ?_) | (show T _ (.run _ _ (_ :: _) _ _ :: _) _ _ _; first | refine rc rfl rfl rfl rfl rfl rfl rfl (fun w hw => rule2_spec c a b ha hb ho1 w) ?_ | refine rcG rfl rfl rfl rfl rfl rfl rfl rfl rfl (fun hg w hw => rule2_spec c a b ha hb ho1 w) ?_) | (show ∀ _ : Nat, T _ _ _ _ _; intro _))
      rw [ho2]
      refine T_if rfl (fun h3 => ?_) (fun h3 => ?_)
      · repeat' (first | refine d1 ?_ | refine dd ?_ | (show ∀ _ : Nat, T _ _ _ _ _; intro _) | (show T _ (.code .ret :: _) _ _ _; refine T_retV [] rfl (Hle.none _) ⟨congrArg (Value.int .i64) ?_, rfl⟩))
        simp only [Bool.or_eq_true, decide_eq_true_eq] at h3
        unfold pairC; rw [if_neg h1, if_pos h3]
      · simp only [Bool.or_eq_false_iff, decide_eq_false_iff_not] at h3
        repeat' (first | refine d1 ?_ | refine dd ?_ | (show ∀ _ : Nat, T _ _ _ _ _; intro _))
        refine T_backX 2 ⟨by omega, fun _ => h1, fun _ hh => ?_⟩ (by omega)
        rw [h3.2.1, h3.2.2] at hh
        simp [h3.1] at hh
    · have h1 := h1 (by omega)
      have h2 := h2 (by omega)
      repeat' (first | refine d1 ?_ | refine dd ?_ | (show T _ (.ops _ (_ :: _) :: _) _ _ _; first | refine T_call rfl rfl rfl rfl rfl (fun w hw => rule3_spec c a b hc hsa hsb w) ?_ | refine T_callC rfl rfl rfl rfl rfl rfl rfl (fun hg w hw => rule3_spec c a b hc hsa hsb w) ?_) | (show T _ (.run _ _ (_ :: _) _ _ :: _) _ _ _; first | refine rc rfl rfl rfl rfl rfl rfl rfl (fun w hw => rule3_spec c a b hc hsa hsb w) ?_ | refine rcG rfl rfl rfl rfl rfl rfl rfl rfl rfl (fun hg w hw => rule3_spec c a b hc hsa hsb w) ?_) | (show ∀ _ : Nat, T _ _ _ _ _; intro _))
      refine T_if rfl (fun h3 => ?_) (fun h3 => by cases h3)
      repeat' (first | refine d1 ?_ | refine dd ?_ | (show ∀ _ : Nat, T _ _ _ _ _; intro _) | (show T _ (.code .ret :: _) _ _ _; refine T_retV [] rfl (Hle.none _) ⟨congrArg (Value.int .i64) ?_, rfl⟩))
      unfold pairC; rw [if_neg h1, if_neg h2]
  · simp only [decide_eq_false_iff_not] at h
    omega
end Go.Proofs.YtmcgificpaeipaaGreatDoor
/- Walks: what Pair, Gap, Default and Great return. -/
namespace Go.Proofs.YtmcgificpaeipaaGreatDoor
open Go.RowKit Go.Shelf Go.Proofs
set_option maxRecDepth 100000
set_option maxHeartbeats 1000000

/-- Some token of the list is not valid. -/
def badL (l : List Tok) : Bool := l.any fun t => !decide (tokE t = 0)
def tokErr (c : Costs) (l : List Tok) : Int := if (!decide (costE c = 0) || badL l) then 1 else 0
theorem tokErr_ok {c : Costs} {l : List Tok} (h : tokErr c l = 0) : costE c = 0 ∧ ∀ t ∈ l, tokE t = 0 := by
  unfold tokErr badL at h
  split at h
  · omega
  · rename_i hh
    simp only [Bool.or_eq_true, not_or, Bool.not_eq_true', Bool.not_eq_true, Bool.not_eq_false', Bool.not_eq_false, decide_eq_true_eq, decide_eq_false_iff_not, List.any_eq_true, Bool.not_not, not_exists, not_and, Classical.not_not] at hh
    exact ⟨by simpa using hh.1, fun t ht => by simpa using hh.2 t ht⟩
theorem check1Prg_spec (t : Tok) (hl : t.small) (w : World) (hs : Std w) : Spec Tryz.prog 83 [t.val] w (fun v A => v = .bool (!decide (tokE t = 0)) ∧ A = []) := by
  refine spec_of sg Tryz.func83 rfl rfl rfl ?_
  repeat' (first | (show T _ (.ops _ (⟨_, .box _ _, _, _, _, _⟩ :: _) :: _) _ _ _; refine T_op (OpT.box (cs := t.cells) rfl rfl rfl rfl rfl rfl rfl (fun _ => ?_))) | refine d1 ?_ | refine dd ?_ | (show T _ (.ops _ (_ :: _) :: _) _ _ _; first | refine T_call rfl rfl rfl rfl rfl (fun w hw => tokPrg_spec t hl w (hs.cls hw)) ?_ | refine T_callC rfl rfl rfl rfl rfl rfl rfl (fun hg w hw => tokPrg_spec t hl w (hs.cls hw)) ?_) | (show T _ (.run _ _ (_ :: _) _ _ :: _) _ _ _; first | refine rc rfl rfl rfl rfl rfl rfl rfl (fun w hw => tokPrg_spec t hl w (hs.cls hw)) ?_ | refine rcG rfl rfl rfl rfl rfl rfl rfl rfl rfl (fun hg w hw => tokPrg_spec t hl w (hs.cls hw)) ?_) | (show ∀ _ : Nat, T _ _ _ _ _; intro _) | (show T _ (.code .ret :: _) _ _ _; refine T_retV [] rfl (Hle.none _) ⟨rfl, rfl⟩))
theorem checkTC_spec (c : Costs) (A : Option Addr) (n cap : Nat) (l : List Tok) (w : World) (hs : Std w) (hl : Src w 6 A n (l.flatMap Tok.cells)) (hn : l.length = n) (hb : n ≤ 9223372036854775807) (hsm : ∀ t ∈ l, t.small) :
    Spec Tryz.prog 65 [c.val, .slice A n cap] w (fun v A => v = .int .i64 (tokErr c l) ∧ A = []) := by
  refine spec_of sg Tryz.func65 rfl rfl rfl ?_
  repeat' (first | (show T _ (.ops _ (⟨_, .box _ _, _, _, _, _⟩ :: _) :: _) _ _ _; refine T_op (OpT.box (cs := c.cells) rfl rfl rfl rfl rfl rfl rfl (fun _ => ?_))) | refine d1 ?_ | refine dd ?_ | (show T _ (.ops _ (_ :: _) :: _) _ _ _; first | refine T_call rfl rfl rfl rfl rfl (fun w hw => costPrg_spec c w) ?_ | refine T_callC rfl rfl rfl rfl rfl rfl rfl (fun hg w hw => costPrg_spec c w) ?_ | refine T_call rfl rfl rfl rfl rfl (fun w hw => containsFuncT_spec A n cap l _ [] [] (fun t => !decide (tokE t = 0)) w (rdSrc hl w hw) hn hb (fun x hx w' hb' => check1Prg_spec x (hsm x hx) w' ((hs.cls hw).below hb'))) ?_ | refine T_callC rfl rfl rfl rfl rfl rfl rfl (fun hg w hw => containsFuncT_spec A n cap l _ [] [] (fun t => !decide (tokE t = 0)) w (rdSrc hl w hw) hn hb (fun x hx w' hb' => check1Prg_spec x (hsm x hx) w' ((hs.cls hw).below hb'))) ?_) | (show T _ (.run _ _ (_ :: _) _ _ :: _) _ _ _; first | refine rc rfl rfl rfl rfl rfl rfl rfl (fun w hw => costPrg_spec c w) ?_ | refine rcG rfl rfl rfl rfl rfl rfl rfl rfl rfl (fun hg w hw => costPrg_spec c w) ?_ | refine rc rfl rfl rfl rfl rfl rfl rfl (fun w hw => containsFuncT_spec A n cap l _ [] [] (fun t => !decide (tokE t = 0)) w (rdSrc hl w hw) hn hb (fun x hx w' hb' => check1Prg_spec x (hsm x hx) w' ((hs.cls hw).below hb'))) ?_ | refine rcG rfl rfl rfl rfl rfl rfl rfl rfl rfl (fun hg w hw => containsFuncT_spec A n cap l _ [] [] (fun t => !decide (tokE t = 0)) w (rdSrc hl w hw) hn hb (fun x hx w' hb' => check1Prg_spec x (hsm x hx) w' ((hs.cls hw).below hb'))) ?_) | (show ∀ _ : Nat, T _ _ _ _ _; intro _))
  refine T_if rfl (fun h => ?_) (fun h => ?_)
  · repeat' (first | refine d1 ?_ | refine dd ?_ | (show ∀ _ : Nat, T _ _ _ _ _; intro _) | (show T _ (.code .ret :: _) _ _ _; refine T_retV [] rfl (Hle.none _) ⟨congrArg (Value.int .i64) ?_, rfl⟩))
    unfold tokErr badL; rw [if_pos h]
  · repeat' (first | refine d1 ?_ | refine dd ?_ | (show ∀ _ : Nat, T _ _ _ _ _; intro _) | (show T _ (.code .ret :: _) _ _ _; refine T_retV [] rfl (Hle.none _) ⟨congrArg (Value.int .i64) ?_, rfl⟩))
    unfold tokErr badL; rw [if_neg (by rw [h]; simp)]
theorem pairV_eq (c : Costs) (a b : Tok) : pairV c a b = if tokErr c [a, b] = 0 then (pairC c a b, 0) else (0, 1) := by
  unfold pairV tokErr badL
  by_cases h1 : costE c = 0 <;> by_cases h2 : tokE a = 0 <;> by_cases h3 : tokE b = 0 <;> simp [h1, h2, h3]
theorem gapV_eq (c : Costs) (a : Tok) : gapV c a = if tokErr c [a] = 0 then (gapC c a, 0) else (0, 1) := by
  unfold gapV tokErr badL
  by_cases h1 : costE c = 0 <;> by_cases h2 : tokE a = 0 <;> simp [h1, h2]
theorem tokErr_01 (c : Costs) (l : List Tok) : tokErr c l = 0 ∨ tokErr c l = 1 := by unfold tokErr; split <;> omega
theorem pairTop_spec (c : Costs) (a b : Tok) (ha : a.small) (hb : b.small) (w : World) (hs : Std w) : Spec Tryz.prog 95 [c.val, a.val, b.val] w (fun v A => v = .tuple #[.int .i64 (pairV c a b).1, .int .i64 (pairV c a b).2] ∧ A = []) := by
  refine spec_of sg Tryz.func95 rfl rfl rfl ?_
  refine T_op (OpT.box (cs := c.cells) rfl rfl rfl rfl rfl rfl rfl (fun pc => ?_))
  refine T_op (OpT.box (cs := a.cells) rfl rfl rfl rfl rfl rfl rfl (fun pa => ?_))
  refine T_op (OpT.box (cs := b.cells) rfl rfl rfl rfl rfl rfl rfl (fun pb => ?_))
  repeat' (first | refine d1 ?_ | refine dd ?_ | (show T _ (.ops _ (_ :: _) :: _) _ _ _; first | refine T_call rfl rfl rfl rfl rfl (fun w hw => checkTC_spec c _ 2 _ [a, b] w (hs.cls hw) (Src.own hw rfl) rfl (by omega) (by simp [ha, hb])) ?_ | refine T_callC rfl rfl rfl rfl rfl rfl rfl (fun hg w hw => checkTC_spec c _ 2 _ [a, b] w (hs.cls hw) (Src.own hw rfl) rfl (by omega) (by simp [ha, hb])) ?_) | (show T _ (.run _ _ (_ :: _) _ _ :: _) _ _ _; first | refine rc rfl rfl rfl rfl rfl rfl rfl (fun w hw => checkTC_spec c _ 2 _ [a, b] w (hs.cls hw) (Src.own hw rfl) rfl (by omega) (by simp [ha, hb])) ?_ | refine rcG rfl rfl rfl rfl rfl rfl rfl rfl rfl (fun hg w hw => checkTC_spec c _ 2 _ [a, b] w (hs.cls hw) (Src.own hw rfl) rfl (by omega) (by simp [ha, hb])) ?_) | (show ∀ _ : Nat, T _ _ _ _ _; intro _))
  rw [pairV_eq]
  refine T_if rfl (fun h => ?_) (fun h => ?_)
  · simp only [Bool.not_eq_true', decide_eq_false_iff_not] at h
    rw [if_neg h]
    repeat' (first | refine d1 ?_ | refine dd ?_ | (show ∀ _ : Nat, T _ _ _ _ _; intro _) | (show T _ (.code .ret :: _) _ _ _; refine T_retV [] rfl (Hle.none _) ⟨?_, rfl⟩))
    rw [(tokErr_01 c [a, b]).resolve_left h]; rfl
  · simp only [Bool.not_eq_false', decide_eq_true_eq] at h
    rw [if_pos h]
    obtain ⟨h1, h2⟩ := tokErr_ok h
    have k1 := tokE_ok (h2 a (by simp))
    have k2 := tokE_ok (h2 b (by simp))
    repeat' (first | refine d1 ?_ | refine dd ?_ | (show T _ (.ops _ (_ :: _) :: _) _ _ _; first | refine T_call rfl rfl rfl rfl rfl (fun w hw => pairPrg_spec c a b h1 k1.1 k2.1 (by omega) (by omega) w) ?_ | refine T_callC rfl rfl rfl rfl rfl rfl rfl (fun hg w hw => pairPrg_spec c a b h1 k1.1 k2.1 (by omega) (by omega) w) ?_) | (show T _ (.run _ _ (_ :: _) _ _ :: _) _ _ _; first | refine rc rfl rfl rfl rfl rfl rfl rfl (fun w hw => pairPrg_spec c a b h1 k1.1 k2.1 (by omega) (by omega) w) ?_ | refine rcG rfl rfl rfl rfl rfl rfl rfl rfl rfl (fun hg w hw => pairPrg_spec c a b h1 k1.1 k2.1 (by omega) (by omega) w) ?_) | (show ∀ _ : Nat, T _ _ _ _ _; intro _) | (show T _ (.code .ret :: _) _ _ _; refine T_retV [] rfl (Hle.none _) ⟨rfl, rfl⟩))
theorem gapTop_spec (c : Costs) (a : Tok) (ha : a.small) (w : World) (hs : Std w) : Spec Tryz.prog 37 [c.val, a.val] w (fun v A => v = .tuple #[.int .i64 (gapV c a).1, .int .i64 (gapV c a).2] ∧ A = []) := by
  refine spec_of sg Tryz.func37 rfl rfl rfl ?_
  refine T_op (OpT.box (cs := c.cells) rfl rfl rfl rfl rfl rfl rfl (fun pc => ?_))
  refine T_op (OpT.box (cs := a.cells) rfl rfl rfl rfl rfl rfl rfl (fun pa => ?_))
  repeat' (first | refine d1 ?_ | refine dd ?_ | (show T _ (.ops _ (_ :: _) :: _) _ _ _; first | refine T_call rfl rfl rfl rfl rfl (fun w hw => checkTC_spec c _ 1 _ [a] w (hs.cls hw) (Src.own hw rfl) rfl (by omega) (by simp [ha])) ?_ | refine T_callC rfl rfl rfl rfl rfl rfl rfl (fun hg w hw => checkTC_spec c _ 1 _ [a] w (hs.cls hw) (Src.own hw rfl) rfl (by omega) (by simp [ha])) ?_) | (show T _ (.run _ _ (_ :: _) _ _ :: _) _ _ _; first | refine rc rfl rfl rfl rfl rfl rfl rfl (fun w hw => checkTC_spec c _ 1 _ [a] w (hs.cls hw) (Src.own hw rfl) rfl (by omega) (by simp [ha])) ?_ | refine rcG rfl rfl rfl rfl rfl rfl rfl rfl rfl (fun hg w hw => checkTC_spec c _ 1 _ [a] w (hs.cls hw) (Src.own hw rfl) rfl (by omega) (by simp [ha])) ?_) | (show ∀ _ : Nat, T _ _ _ _ _; intro _))
  rw [gapV_eq]
  refine T_if rfl (fun h => ?_) (fun h => ?_)
  · simp only [Bool.not_eq_true', decide_eq_false_iff_not] at h
    rw [if_neg h]
    repeat' (first | refine d1 ?_ | refine dd ?_ | (show ∀ _ : Nat, T _ _ _ _ _; intro _) | (show T _ (.code .ret :: _) _ _ _; refine T_retV [] rfl (Hle.none _) ⟨?_, rfl⟩))
    rw [(tokErr_01 c [a]).resolve_left h]; rfl
  · simp only [Bool.not_eq_false', decide_eq_true_eq] at h
    rw [if_pos h]
    obtain ⟨h1, h2⟩ := tokErr_ok h
    have k0 := costE_ok h1
    have k1 := tokE_ok (h2 a (by simp))
    repeat' (first | refine d1 ?_ | refine dd ?_ | (show T _ (.ops _ (_ :: _) :: _) _ _ _; first | refine T_call rfl rfl rfl rfl rfl (fun w hw => gapPrgC_spec c a k0.1 k1.1 w) ?_ | refine T_callC rfl rfl rfl rfl rfl rfl rfl (fun hg w hw => gapPrgC_spec c a k0.1 k1.1 w) ?_) | (show T _ (.run _ _ (_ :: _) _ _ :: _) _ _ _; first | refine rc rfl rfl rfl rfl rfl rfl rfl (fun w hw => gapPrgC_spec c a k0.1 k1.1 w) ?_ | refine rcG rfl rfl rfl rfl rfl rfl rfl rfl rfl (fun hg w hw => gapPrgC_spec c a k0.1 k1.1 w) ?_) | (show ∀ _ : Nat, T _ _ _ _ _; intro _) | (show T _ (.code .ret :: _) _ _ _; refine T_retV [] rfl (Hle.none _) ⟨rfl, rfl⟩))
theorem pairTopRef_spec (c : Costs) (a b : Tok) (w : World) : Spec Tryz.prog 96 [c.val, a.val, b.val] w (fun v A => v = .tuple #[.int .i64 (pairV c a b).1, .int .i64 (pairV c a b).2] ∧ A = []) := by
  refine spec_of sg Tryz.func96 rfl rfl rfl ?_
  refine T_op (OpT.box (cs := c.cells) rfl rfl rfl rfl rfl rfl rfl (fun pc => ?_))
  refine T_op (OpT.box (cs := a.cells) rfl rfl rfl rfl rfl rfl rfl (fun pa => ?_))
  refine T_op (OpT.box (cs := b.cells) rfl rfl rfl rfl rfl rfl rfl (fun pb => ?_))
  repeat' (first | refine d1 ?_ | refine dd ?_ | (show T _ (.ops _ (_ :: _) :: _) _ _ _; first | refine T_call rfl rfl rfl rfl rfl (fun w hw => costRef_spec c w) ?_ | refine T_callC rfl rfl rfl rfl rfl rfl rfl (fun hg w hw => costRef_spec c w) ?_ | refine T_call rfl rfl rfl rfl rfl (fun w hw => tokRef_spec a w) ?_ | refine T_callC rfl rfl rfl rfl rfl rfl rfl (fun hg w hw => tokRef_spec a w) ?_ | refine T_call rfl rfl rfl rfl rfl (fun w hw => tokRef_spec b w) ?_ | refine T_callC rfl rfl rfl rfl rfl rfl rfl (fun hg w hw => tokRef_spec b w) ?_) | (show T _ (.run _ _ (_ :: _) _ _ :: _) _ _ _; first | refine rc rfl rfl rfl rfl rfl rfl rfl (fun w hw => costRef_spec c w) ?_ | refine rcG rfl rfl rfl rfl rfl rfl rfl rfl rfl (fun hg w hw => costRef_spec c w) ?_ | refine rc rfl rfl rfl rfl rfl rfl rfl (fun w hw => tokRef_spec a w) ?_ | refine rcG rfl rfl rfl rfl rfl rfl rfl rfl rfl (fun hg w hw => tokRef_spec a w) ?_ | refine rc rfl rfl rfl rfl rfl rfl rfl (fun w hw => tokRef_spec b w) ?_ | refine rcG rfl rfl rfl rfl rfl rfl rfl rfl rfl (fun hg w hw => tokRef_spec b w) ?_) | (show ∀ _ : Nat, T _ _ _ _ _; intro _))
  refine T_if rfl (fun h => ?_) (fun h => ?_)
  · repeat' (first | refine d1 ?_ | refine dd ?_ | (show ∀ _ : Nat, T _ _ _ _ _; intro _) | (show T _ (.code .ret :: _) _ _ _; refine T_retV [] rfl (Hle.none _) ⟨?_, rfl⟩))
    unfold pairV; rw [if_neg (by rintro ⟨h1, h2, h3⟩; simp [h1, h2, h3] at h)]; rfl
  · simp only [Bool.or_eq_false_iff, Bool.not_eq_false', decide_eq_true_eq] at h
    have k1 := tokE_ok h.1.2
    have k2 := tokE_ok h.2
    repeat' (first | refine d1 ?_ | refine dd ?_ | (show T _ (.ops _ (_ :: _) :: _) _ _ _; first | refine T_call rfl rfl rfl rfl rfl (fun w hw => pairRefC_spec c a b h.1.1 k1.1 k2.1 (by omega) (by omega) w) ?_ | refine T_callC rfl rfl rfl rfl rfl rfl rfl (fun hg w hw => pairRefC_spec c a b h.1.1 k1.1 k2.1 (by omega) (by omega) w) ?_) | (show T _ (.run _ _ (_ :: _) _ _ :: _) _ _ _; first | refine rc rfl rfl rfl rfl rfl rfl rfl (fun w hw => pairRefC_spec c a b h.1.1 k1.1 k2.1 (by omega) (by omega) w) ?_ | refine rcG rfl rfl rfl rfl rfl rfl rfl rfl rfl (fun hg w hw => pairRefC_spec c a b h.1.1 k1.1 k2.1 (by omega) (by omega) w) ?_) | (show ∀ _ : Nat, T _ _ _ _ _; intro _) | (show T _ (.code .ret :: _) _ _ _; refine T_retV [] rfl (Hle.none _) ⟨?_, rfl⟩))
    unfold pairV; rw [if_pos ⟨h.1.1, h.1.2, h.2⟩]; rfl
theorem gapTopRef_spec (c : Costs) (a : Tok) (w : World) : Spec Tryz.prog 97 [c.val, a.val] w (fun v A => v = .tuple #[.int .i64 (gapV c a).1, .int .i64 (gapV c a).2] ∧ A = []) := by
  refine spec_of sg Tryz.func97 rfl rfl rfl ?_
  refine T_op (OpT.box (cs := c.cells) rfl rfl rfl rfl rfl rfl rfl (fun pc => ?_))
  refine T_op (OpT.box (cs := a.cells) rfl rfl rfl rfl rfl rfl rfl (fun pa => ?_))
  repeat' (first | refine d1 ?_ | refine dd ?_ | (show T _ (.ops _ (_ :: _) :: _) _ _ _; first | refine T_call rfl rfl rfl rfl rfl (fun w hw => costRef_spec c w) ?_ | refine T_callC rfl rfl rfl rfl rfl rfl rfl (fun hg w hw => costRef_spec c w) ?_ | refine T_call rfl rfl rfl rfl rfl (fun w hw => tokRef_spec a w) ?_ | refine T_callC rfl rfl rfl rfl rfl rfl rfl (fun hg w hw => tokRef_spec a w) ?_) | (show T _ (.run _ _ (_ :: _) _ _ :: _) _ _ _; first | refine rc rfl rfl rfl rfl rfl rfl rfl (fun w hw => costRef_spec c w) ?_ | refine rcG rfl rfl rfl rfl rfl rfl rfl rfl rfl (fun hg w hw => costRef_spec c w) ?_ | refine rc rfl rfl rfl rfl rfl rfl rfl (fun w hw => tokRef_spec a w) ?_ | refine rcG rfl rfl rfl rfl rfl rfl rfl rfl rfl (fun hg w hw => tokRef_spec a w) ?_) | (show ∀ _ : Nat, T _ _ _ _ _; intro _))
  refine T_if rfl (fun h => ?_) (fun h => ?_)
  · repeat' (first | refine d1 ?_ | refine dd ?_ | (show ∀ _ : Nat, T _ _ _ _ _; intro _) | (show T _ (.code .ret :: _) _ _ _; refine T_retV [] rfl (Hle.none _) ⟨?_, rfl⟩))
    unfold gapV; rw [if_neg (by rintro ⟨h1, h2⟩; simp [h1, h2] at h)]; rfl
  · simp only [Bool.or_eq_false_iff, Bool.not_eq_false', decide_eq_true_eq] at h
    have k0 := costE_ok h.1
    have k1 := tokE_ok h.2
    repeat' (first | refine d1 ?_ | refine dd ?_ | (show T _ (.ops _ (_ :: _) :: _) _ _ _; first | refine T_call rfl rfl rfl rfl rfl (fun w hw => gapRefC_spec c a k0.1 k1.1 w) ?_ | refine T_callC rfl rfl rfl rfl rfl rfl rfl (fun hg w hw => gapRefC_spec c a k0.1 k1.1 w) ?_) | (show T _ (.run _ _ (_ :: _) _ _ :: _) _ _ _; first | refine rc rfl rfl rfl rfl rfl rfl rfl (fun w hw => gapRefC_spec c a k0.1 k1.1 w) ?_ | refine rcG rfl rfl rfl rfl rfl rfl rfl rfl rfl (fun hg w hw => gapRefC_spec c a k0.1 k1.1 w) ?_) | (show ∀ _ : Nat, T _ _ _ _ _; intro _) | (show T _ (.code .ret :: _) _ _ _; refine T_retV [] rfl (Hle.none _) ⟨?_, rfl⟩))
    unfold gapV; rw [if_pos ⟨h.1, h.2⟩]; rfl
end Go.Proofs.YtmcgificpaeipaaGreatDoor
/- Walks: Great, the examples of chapter 17. -/
namespace Go.Proofs.YtmcgificpaeipaaGreatDoor
open Go.RowKit Go.Shelf Go.Proofs
set_option maxRecDepth 100000
set_option maxHeartbeats 1000000

/-- A token of a word. -/
def tokS (s : ByteArray) : Tok := ⟨s, s, .empty, 0, 0, .empty⟩
def str (l : List UInt8) : ByteArray := ⟨l.toArray⟩
def tDeus : Tok := ⟨str [100, 101, 117, 115], str [100, 101, 117, 115], .empty, 0, 0, .empty⟩
def tDeus2 : Tok := ⟨str [68, 101, 117, 115], str [100, 101, 117, 115], .empty, 0, 0, .empty⟩
def tDei : Tok := ⟨str [100, 101, 105], str [100, 101, 105], .empty, 0, 0, .empty⟩
def tComma : Tok := ⟨str [44], str [44], .empty, 0, 8, .empty⟩
instance (t : Tok) : Decidable t.small := inferInstanceAs (Decidable (_ ∧ _))
theorem ex1 : pairV defaultC tDeus tDeus2 = (5, 0) := by decide +kernel
theorem ex2 : pairV defaultC tDeus tDei = (40, 0) := by decide +kernel
theorem ex3 : gapV defaultC tComma = (20, 0) := by decide +kernel
theorem longT_small {t : Tok} (h : longT t = false) : t.small ∧ t.text.size ≤ 12 ∧ t.norm.size ≤ 12 := by
  simp only [longT, Bool.or_eq_false_iff, decide_eq_false_iff_not] at h
  unfold Tok.small; omega
end Go.Proofs.YtmcgificpaeipaaGreatDoor
/- Walks: the cost of a column, by the program and by the reference. -/
namespace Go.Proofs.YtmcgificpaeipaaGreatDoor
open Go.RowKit Go.Shelf Go.Proofs
set_option maxRecDepth 100000
set_option maxHeartbeats 1000000

def pairVs (n : Nat) : List (List Value) := (pairsL n).map fun p => [.int .i64 p.1, .int .i64 p.2]
end Go.Proofs.YtmcgificpaeipaaGreatDoor
/- Walks: matrices of costs. -/
namespace Go.Proofs.YtmcgificpaeipaaGreatDoor
open Go.RowKit Go.Shelf Go.Proofs
set_option maxRecDepth 100000
set_option maxHeartbeats 1000000

noncomputable def metricV (c : Costs) (l : List Tok) : Bool × Int := if costE c ≠ 0 then (false, 1) else if 32 < l.length then (false, 4) else if tokErr c l ≠ 0 then (false, 1) else (metB c l, 0)
/-- The matrix of the tokens. -/
def matRows (c : Costs) (l : List Tok) : List (List Int) := (List.range l.length).map fun i => (List.range l.length).map fun k => matC c l i k
def matrixV (c : Costs) (l : List Tok) : List (List Int) × Int := if costE c ≠ 0 then ([], 1) else if 256 < l.length then ([], 4) else if tokErr c l ≠ 0 then ([], 1) else (matRows c l, 0)
def hdr (n : Nat) (x : Nat × List Value) : Value := .slice (some ⟨x.1, 0, none⟩) n (n + 1)
theorem rows_mat {c : Costs} {l : List Tok} {n : Nat} {L : List (Nat × List Value)} (hn : l.length = n) (hL : L.length = n + 1) (hR : RowsOk (matC c l) (n + 1) L) :
    (L.map fun x => D.s 1 ((x.2.take n).map .v)).take n = (matRows c l).map intsD := by
  apply List.ext_getElem?
  intro i
  unfold matRows
  rw [List.getElem?_take, List.getElem?_map, List.getElem?_map, List.getElem?_map, hn]
  by_cases hi : i < n
  · rw [if_pos hi]
    obtain ⟨x, hx⟩ : ∃ x, L[i]? = some x := ⟨_, List.getElem?_eq_getElem (by omega)⟩
    rw [hx, List.getElem?_range hi]
    simp only [Option.map_some]
    rw [hR _ _ hx]
    congr 2
    unfold valV
    rw [← List.map_take, List.take_range, Nat.min_eq_left (by omega), List.map_map, List.map_map]
    rfl
  · rw [if_neg hi, List.getElem?_eq_none (by simp; omega)]
    rfl
end Go.Proofs.YtmcgificpaeipaaGreatDoor
/- The reference's metric and matrix, walked. -/
namespace Go.Proofs.YtmcgificpaeipaaGreatDoor

def validV (c : Costs) (l : List Tok) (m : Int) : Int := if costE c ≠ 0 then 1 else if m < l.length then 4 else tokErr c l
theorem tokErr_bad {c : Costs} {l : List Tok} {t : Tok} (h : t ∈ l) (ht : tokE t ≠ 0) : tokErr c l = 1 := by
  refine (tokErr_01 c l).resolve_left fun e => ht ((tokErr_ok e).2 t h)
theorem tokErr_all {c : Costs} {l : List Tok} (hc : costE c = 0) (h : ∀ j, j < l.length → tokE (tkA l j) = 0) : tokErr c l = 0 := by
  unfold tokErr badL
  rw [if_neg]
  simp only [hc, decide_true, Bool.not_true, Bool.false_or, List.any_eq_true, not_exists, not_and, Bool.not_eq_true', Bool.not_eq_true, Bool.not_eq_false', Bool.not_eq_false, decide_eq_true_eq]
  intro t ht
  obtain ⟨j, hj, e⟩ := List.getElem_of_mem ht
  have := h j hj
  rw [Option.some.inj ((tkA_get hj).symm.trans ((List.getElem?_eq_getElem hj).trans (congrArg some e)))] at this
  simpa using this
theorem matC_pair {c : Costs} {l : List Tok} {i k : Nat} (hi : i < l.length) (hk : k < l.length) : matC c l i k = pairC c (tkA l i) (tkA l k) := by
  unfold matC
  by_cases h : i = k
  · subst h; rw [if_pos rfl, pairC_self c _ _ rfl]
  · rw [if_neg h, if_neg (by omega)]
    rcases Nat.lt_or_ge i k with h1 | h1
    · rw [Nat.min_eq_left (by omega), Nat.max_eq_right (by omega)]
    · rw [Nat.min_eq_right (by omega), Nat.max_eq_left (by omega), pairC_swap]
theorem valV_snoc (f : Nat → Int) (k : Nat) : valV f (k + 1) = valV f k ++ [.int .i64 (f k)] := by unfold valV; rw [List.range_succ, List.map_append]; rfl
end Go.Proofs.YtmcgificpaeipaaGreatDoor
/- Tables of numbers, compared by the reference. -/
namespace Go.Proofs.YtmcgificpaeipaaGreatDoor

theorem Rd.ints {w : World} {x : Value} {p : List Int} (h : Rd (wr w) [x] [intsD p]) : ∃ A cap, x = .slice A p.length cap ∧ p.length ≤ 9223372036854775807 ∧ Src w 1 A p.length (p.map (Value.int .i64)) := by
  have h' : Rd (wr w) [x] [.s 1 ((p.map (Value.int .i64)).map .v)] := by rw [List.map_map]; exact h
  obtain ⟨A, n, cap, rfl, h1, h2, h3, h4⟩ := h'.srcV
  have e : n = p.length := by simpa using h1.symm
  subst e
  exact ⟨A, cap, rfl, by omega, h4⟩
theorem list_eq_of {α : Type} {p q : List α} (hl : p.length = q.length) (h : ∀ j, j < p.length → p[j]? = q[j]?) : p = q :=
  List.ext_getElem? fun j => by
    rcases Nat.lt_or_ge j p.length with h1 | h1
    · exact h j h1
    · rw [List.getElem?_eq_none h1, List.getElem?_eq_none (by omega)]
end Go.Proofs.YtmcgificpaeipaaGreatDoor
/- The engine: tables of numbers, as they are read: their headers, their cells. It speaks of any program. -/
namespace Go.Proofs.YtmcgificpaeipaaGreatDoor
open Go.RowKit Go.Shelf

theorem rdFz {C : Cx} {H : List HA} {p : Frag} [FocusZ H p] {b o : Nat} {u : Value} (h : fr p b o = some u) : ∀ w, Cls C.w0 w H → RdC w b o [u] :=
  fun _ hw => RdC.one (hw.fz (p := p) _ _ _ h)
/-- A slice of numbers. -/
theorem Rd.row1 {R : Rdr} {x : Value} {r : List Int} (h : Rd R [x] [intsD r]) : ∃ A cap, x = .slice A r.length cap ∧ r.length ≤ cap ∧ cap ≤ 9223372036854775807 ∧ (0 < r.length → ∃ b o, A = some ⟨b, o, none⟩ ∧ ∀ (k : Nat) z, r[k]? = some z → R b (o + k) = some (.int .i64 z)) := by
  have h' : Rd R [x] [.s 1 ((r.map (Value.int .i64)).map .v)] := by rw [List.map_map]; exact h
  obtain ⟨A, n, cap, rfl, h1, h2, h3, h4⟩ := h'.vals_one
  have e : n = r.length := by simpa using h1.symm
  subst e
  exact ⟨A, cap, rfl, h2, h3, fun h0 => ⟨bk A, ofs A, (h4 h0).1, fun k z hz => (h4 h0).2 k _ (by rw [List.getElem?_map, hz]; rfl)⟩⟩
/-- A table: its header. -/
theorem Rd.tab {R : Rdr} {x : Value} {m : List (List Int)} (h : Rd R [x] [rowsD m]) : ∃ A cap cs, x = .slice A m.length cap ∧ m.length ≤ cap ∧ cap ≤ 9223372036854775807 ∧ cs.length = m.length ∧ (0 < m.length → ∃ b o, A = some ⟨b, o, none⟩ ∧ ∀ (i : Nat) u, cs[i]? = some u → R b (o + i) = some u) ∧ Rd R cs (m.map intsD) := by
  obtain ⟨A, n, cap, cs, rfl, h1, h2, h3, h4, h5, h6⟩ := h.slice
  have e : n = m.length := by simpa using h1.symm
  subst e
  exact ⟨A, cap, cs, rfl, h3, h4, by simpa using h2, fun h0 => ⟨bk A, ofs A, (h5 h0).1, (h5 h0).2⟩, h6⟩
/-- .. one of its rows. -/
theorem Rd.tabRow {R : Rdr} {cs : List Value} {m : List (List Int)} (h : Rd R cs (m.map intsD)) {i : Nat} {r : List Int} (hi : m[i]? = some r) : ∃ A cap, cs[i]? = some (.slice A r.length cap) ∧ r.length ≤ cap ∧ cap ≤ 9223372036854775807 ∧ (0 < r.length → ∃ b o, A = some ⟨b, o, none⟩ ∧ ∀ (k : Nat) z, r[k]? = some z → R b (o + k) = some (.int .i64 z)) := by
  obtain ⟨x, hx, hr⟩ := h.get (i := i) (d := intsD r) (by rw [List.getElem?_map, hi]; rfl)
  obtain ⟨A, cap, rfl, h1, h2, h3⟩ := hr.row1
  exact ⟨A, cap, hx, h1, h2, h3⟩
/-- A loop's counter, as an offset. -/
theorem off1 (o k : Nat) : o + (k : Int).toNat * 1 = o + k := by omega
end Go.Proofs.YtmcgificpaeipaaGreatDoor
/- The engine: nil slices and pointers; stores into rows; drawn regions in which several operations that turn something may come first. It speaks of any program. -/
namespace Go.Proofs.YtmcgificpaeipaaGreatDoor
open Go.RowKit Go.Shelf

/-! ## Against nil -/
def isNone' : Option Addr → Bool
  | none => true
  | some _ => false
def nilK : Operand → Nat
  | .const (.slice none 0 0) => 1
  | .const (.pointer none) => 2
  | _ => 0
def evNilS (S : Sig) (env : Env) (ec : EnvC) (G : GId) (o : Oper) : Option (Bool × Bool) :=
  match o.op with
  | .binOp op t x y _ => match S.ty t, evX env ec G x, nilK y, op with
    | some ⟨.slice _, _, _, _⟩, some (.slice A _ _), 1, .eql => some (true, isNone' A)
    | some ⟨.slice _, _, _, _⟩, some (.slice A _ _), 1, .neq => some (false, isNone' A)
    | some ⟨.ptr _, _, _, _⟩, some (.pointer A), 2, .eql => some (true, isNone' A)
    | some ⟨.ptr _, _, _, _⟩, some (.pointer A), 2, .neq => some (false, isNone' A)
    | _, _, _, _ => none
  | _ => none
theorem nilK_one {y : Operand} (h : nilK y = 1) : y = .const (.slice none 0 0) := by
  unfold nilK at h
  split at h
  · rfl
  · cases h
  · cases h
theorem nilK_two {y : Operand} (h : nilK y = 2) : y = .const (.pointer none) := by
  unfold nilK at h
  split at h
  · cases h
  · rfl
  · cases h
theorem run_sliceNil {P : Program} {t e : TypeId} (hf : P.underlying t = some (.slice e)) (A : Option Addr) (n c : Nat) (w : World) : (Op.equal t (.slice A n c) (.slice none 0 0)).run P w = .ok (isNone' A) w := by
  show (Op.equalIn (9999 + 1) t _ _).run P w = _
  rw [Op.equalIn]
  cases A <;> (simp only [Sem.run_bind, run_underlying hf, Result.andThen_ok]; rfl)
theorem run_ptrNil {P : Program} {t e : TypeId} (hf : P.underlying t = some (.pointer e)) (A : Option Addr) (w : World) : (Op.equal t (.pointer A) (.pointer none)).run P w = .ok (isNone' A) w := by
  show (Op.equalIn (9999 + 1) t _ _).run P w = _
  rw [Op.equalIn]
  cases A <;> (simp only [Sem.run_bind, run_underlying hf, Result.andThen_ok]; rfl)
theorem run_nilOpS {P : Program} {w : World} {t : TypeId} {x : Operand} {A : Option Addr} {n c : Nat} {r : Bool} (hq : (Op.equal t (.slice A n c) (.slice none 0 0)).run P w = .ok r w) :
    ((do eqGuard .eql t x (.const (.slice none 0 0)) (.slice A n c) (.slice none 0 0); binOp .eql t (.slice A n c) (.slice none 0 0) : Sem Value)).run P w = .ok (.bool r) w ∧ ((do eqGuard .neq t x (.const (.slice none 0 0)) (.slice A n c) (.slice none 0 0); binOp .neq t (.slice A n c) (.slice none 0 0) : Sem Value)).run P w = .ok (.bool (!r)) w := by
  constructor
  · show ((do pure PUnit.unit; pure (.bool (← Op.equal t _ _)) : Sem Value)).run P w = _
    rw [Sem.run_bind, hq]; rfl
  · show ((do pure PUnit.unit; pure (.bool (!(← Op.equal t _ _))) : Sem Value)).run P w = _
    rw [Sem.run_bind, hq]; rfl
theorem run_nilOpP {P : Program} {w : World} {t : TypeId} {x : Operand} {A : Option Addr} {r : Bool} (hq : (Op.equal t (.pointer A) (.pointer none)).run P w = .ok r w) :
    ((do eqGuard .eql t x (.const (.pointer none)) (.pointer A) (.pointer none); binOp .eql t (.pointer A) (.pointer none) : Sem Value)).run P w = .ok (.bool r) w ∧ ((do eqGuard .neq t x (.const (.pointer none)) (.pointer A) (.pointer none); binOp .neq t (.pointer A) (.pointer none) : Sem Value)).run P w = .ok (.bool (!r)) w := by
  constructor
  · show ((do pure PUnit.unit; pure (.bool (← Op.equal t _ _)) : Sem Value)).run P w = _
    rw [Sem.run_bind, hq]; rfl
  · show ((do pure PUnit.unit; pure (.bool (!(← Op.equal t _ _))) : Sem Value)).run P w = _
    rw [Sem.run_bind, hq]; rfl
theorem Val.nilS {C : Cx} {all : Array Oper} {o : Oper} {env : Env} {ec : EnvC} {Hs : List HA} {G : GId} {p r : Bool} (hv : evNilS C.S env ec G o = some (p, r)) : Val C all o env ec Hs G (.bool (cond p r (!r))) := by
  intro a w ha _ hH
  obtain ⟨dst, op, ty, pos, aft, gd⟩ := o
  unfold evNilS at hv
  dsimp only at hv
  split at hv
  · rename_i op t x y t2
    split at hv
    · rename_i ht hx hy
      have hy' := nilK_one hy
      subst hy'
      cases hv
      have hf := (Sig.tyOk ht).fits
      simp only [Ty.fits] at hf
      simp only [execOp, evX_spec ha hH hx, show a.eval (.const (.slice none 0 0)) = .slice none 0 0 from rfl]
      rw [Sem.run_bind, (run_nilOpS (x := x) (run_sliceNil hf _ _ _ w)).1]; rfl
    · rename_i ht hx hy
      have hy' := nilK_one hy
      subst hy'
      cases hv
      have hf := (Sig.tyOk ht).fits
      simp only [Ty.fits] at hf
      simp only [execOp, evX_spec ha hH hx, show a.eval (.const (.slice none 0 0)) = .slice none 0 0 from rfl]
      rw [Sem.run_bind, (run_nilOpS (x := x) (run_sliceNil hf _ _ _ w)).2]; rfl
    · rename_i ht hx hy
      have hy' := nilK_two hy
      subst hy'
      cases hv
      have hf := (Sig.tyOk ht).fits
      simp only [Ty.fits] at hf
      simp only [execOp, evX_spec ha hH hx, show a.eval (.const (.pointer none)) = .pointer none from rfl]
      rw [Sem.run_bind, (run_nilOpP (x := x) (run_ptrNil hf _ w)).1]; rfl
    · rename_i ht hx hy
      have hy' := nilK_two hy
      subst hy'
      cases hv
      have hf := (Sig.tyOk ht).fits
      simp only [Ty.fits] at hf
      simp only [execOp, evX_spec ha hH hx, show a.eval (.const (.pointer none)) = .pointer none from rfl]
      rw [Sem.run_bind, (run_nilOpP (x := x) (run_ptrNil hf _ w)).2]; rfl
    · cases hv
  · cases hv

/-! ## Bits -/
def shrV (k : IntKind) (a b : Int) : Int := a.fdiv (2 ^ (min b.toNat k.bits))
def shlV (k : IntKind) (a b : Int) : Int := k.wrap (a * 2 ^ (min b.toNat k.bits))
def andV (k : IntKind) (a b : Int) : Int := k.wrap ((BitVec.ofInt k.bits a &&& BitVec.ofInt k.bits b).toNat : Int)
def evBits (env : Env) (ec : EnvC) (G : GId) (o : Oper) : Option (Value × Prop) :=
  match o.op with
  | .binOp op _ x y _ => match op, evX env ec G x, evX env ec G y with
    | .shr, some (.int k a), some (.int _ b) => some (.int k (shrV k a b), 0 ≤ b)
    | .shl, some (.int k a), some (.int _ b) => some (.int k (shlV k a b), 0 ≤ b)
    | .and, some (.int k a), some (.int k' b) => cond (sameK k k') (some (.int k (andV k a b), True)) none
    | _, _, _ => none
  | _ => none
theorem Val.bits {C : Cx} {all : Array Oper} {o : Oper} {env : Env} {ec : EnvC} {Hs : List HA} {G : GId} {v : Value} {p : Prop} (hv : evBits env ec G o = some (v, p)) (hp : GP all env ec G → p) : Val C all o env ec Hs G v := by
  intro a w ha _ hH
  have hp := hp (hH.gp ha)
  obtain ⟨dst, op, ty, pos, aft, gd⟩ := o
  unfold evBits at hv
  dsimp only at hv
  split at hv
  · rename_i op t x y t2
    split at hv
    · rename_i k n k' m hx hy
      cases hv
      simp only [execOp, evX_spec ha hH hx, evX_spec ha hH hy]
      have : ¬ m < 0 := by omega
      simp [eqGuard, binOp, Op.shift, this, shrV]
    · rename_i k n k' m hx hy
      cases hv
      simp only [execOp, evX_spec ha hH hx, evX_spec ha hH hy]
      have : ¬ m < 0 := by omega
      simp [eqGuard, binOp, Op.shift, this, shlV]
    · rename_i k n k' m hx hy
      cases hk : sameK k k' with
      | false => rw [hk] at hv; cases hv
      | true =>
        rw [hk] at hv
        have ek : k = k' := sameK_eq hk
        subst ek
        cases hv
        simp only [execOp, evX_spec ha hH hx, evX_spec ha hH hy]
        simp [eqGuard, binOp, Op.intBits, andV]
    · cases hv
  · cases hv

/-! ## A pointer that is followed -/
def evNC (env : Env) (ec : EnvC) (G : GId) (o : Oper) : Option Value :=
  match o.op with
  | .nilCheck x => match evX env ec G x with
    | some (.pointer (some a)) => some (.pointer (some a))
    | _ => none
  | _ => none
theorem Val.nilc {C : Cx} {all : Array Oper} {o : Oper} {env : Env} {ec : EnvC} {Hs : List HA} {G : GId} {v : Value} (hv : evNC env ec G o = some v) : Val C all o env ec Hs G v := by
  intro a w ha _ hH
  obtain ⟨dst, op, ty, pos, aft, gd⟩ := o
  unfold evNC at hv
  dsimp only at hv
  split at hv
  · rename_i x
    split at hv
    · rename_i ad hx
      cases hv
      simp only [execOp, evX_spec ha hH hx]
      rfl
    · cases hv
  · cases hv

/-! ## Rows -/
theorem srcRw {C : Cx} {H : List HA} {A : Option Addr} {e sz cap n : Nat} {xs : List Value} {rb : HA → List HA} [hf : FocusR H A e sz cap n xs rb] : ∀ w, Cls C.w0 w H → Src w sz A n xs := by
  intro w hw
  obtain ⟨i, hi, _⟩ := hf.at_
  obtain ⟨F, h1, h2, h3⟩ := hw.sep
  have hil : i < H.length := (List.getElem?_eq_some_iff.1 hi).1
  obtain ⟨hl, hr⟩ := h1 i _ hi
  refine ⟨hl, fun hn => ?_⟩
  rcases hr with ⟨_, _, h9, _⟩ | ⟨g, cur, rfl, hF, g1, g2, g3, g4⟩
  · omega
  · refine ⟨rfl, fun j u hu => ?_⟩
    have hb := (h2 i g (.cells cur e (0, 0)) hil (by rw [hF]; simp [one])).2
    rw [← g4] at hu
    show w.cell? ⟨g, 0 + j, none⟩ = _
    rw [Nat.zero_add, cell_of_row w g j cur e (0, 0) hb]
    rw [List.getElem?_take] at hu
    split at hu
    · simpa using hu
    · cases hu
theorem setL_take {n : Nat} : ∀ (us cs : List Value) (off : Nat), off + us.length ≤ n → (setL cs off us).take n = setL (cs.take n) off us
  | [], cs, off, h => rfl
  | u :: us, cs, off, h => by
    simp only [setL]
    rw [setL_take us (cs.set off u) (off + 1) (by simp at h; omega)]
    congr 1
    rw [List.take_set]
section
variable {C : Cx} {all : Array Oper} {o : Oper} {env : Env} {ec : EnvC} {H : List HA} {Φ : Env → EnvC → List HA → Prop}
/-- A store into an element of a row. -/
theorem OpT.storeR {g off m : Nat} {u : Value} {us : List Value} {e sz cap n : Nat} {xs : List Value} {rb : HA → List HA} (hg : gOf all env ec o = some []) (hd : o.dst = none) (he : evSt C.S env ec o = some (g, off, m, u)) [hf : FocusR H (some ⟨g, 0, none⟩) e sz cap n xs rb]
    (hus : u.cells.toList = us) (hm : us.length = m) (h1 : oneCells us = true) (hl : off + us.length ≤ n * sz)
    (h : Φ env ec (rb (row e sz (some ⟨g, 0, none⟩) cap n (setL xs off us)))) : OpT C all o env ec H Φ := by
  obtain ⟨i, hi, hrb⟩ := hf.at_
  refine OpT.skip hg hd fun a w ha hw => ?_
  obtain ⟨F, f1, f2, f3⟩ := hw.sep
  have hil : i < H.length := (List.getElem?_eq_some_iff.1 hi).1
  obtain ⟨hxl, hrow⟩ := f1 i _ hi
  rcases hrow with ⟨h9, _⟩ | ⟨g', cur, hA, hF, g1, g2, g3, g4⟩
  · cases h9
  cases hA
  obtain ⟨hbn, hb⟩ := f2 i g (.cells cur e (0, 0)) hil (by rw [hF]; simp [one])
  have hsz : n * sz ≤ cap * sz := Nat.mul_le_mul_right _ g1
  have hcl : cur.toList.length = cap * sz := by simpa using g3
  obtain ⟨w', k1, k2, k3, k4, k5, k6, k7⟩ := run_storeL C.S.P g e us 0 off cur.toList w (by simpa using hb) (by rw [hcl]; omega) h1
  refine ⟨w', _, ?_, ⟨?_, ?_⟩, h⟩
  · obtain ⟨dst, op, ty, pos, aft, gd⟩ := o
    unfold evSt at he
    dsimp only at he
    split at he
    · rename_i t' x y
      split at he
      · rename_i d0 n' m' z b' off' v' ht hx hy
        cases he
        have hsz := (Sig.tyOk ht).sizeOf w
        dsimp only at hsz
        have hsize : u.cells.size = m := by rw [← hm, ← hus]; simp
        simp only [execOp, evX_spec ha (Holds.nil _ _) hx, evX_spec ha (Holds.nil _ _) hy, Instr.storeAt, Instr.sureAddr, storeVar]
        simp [hsz, hsize, hus, k1]
      · cases he
    · cases he
  · exact hw.below.trans ⟨k4, k5, k6, by omega, fun c hc => k3 c (by omega)⟩
  · rw [hrb]
    refine hw.sep.turn hi (fun f hf => ?_) (fun c hc _ => k3 c hc) k2 ?_
    · obtain ⟨_, hr⟩ := hf
      rcases hr with ⟨h9, _⟩ | ⟨g', cur', hA', hF', _⟩
      · cases h9
      · cases hA'; exact ⟨_, hF'⟩
    · refine ⟨by rw [setL_length]; exact hxl, .inr ⟨g, _, rfl, rfl, g1, g2, by rw [List.size_toArray, setL_length]; exact hcl, ?_⟩⟩
      rw [Nat.add_zero]
      show (setL cur.toList off us).take (n * sz) = _
      rw [setL_take _ _ _ (by omega), g4]
/-! ## Calls with blocks of their own -/
theorem OpT.callE {f : FuncId} {args : List Value} {d : Nat} {α : Type} {p : α → Prop} {val : α → Value} {own : α → List HA} (hg : gOf all env ec o = some []) (he : evCall env ec [] o = some (f, args)) (hd : o.dst = some d) (hN : Nat.blt d C.N.n = true) (hs : safeC all d ec = true)
    (hc : ∀ w, Cls C.w0 w H → Spec C.S.P f args w (fun u A => ∃ x, p x ∧ u = val x ∧ A = own x)) (h : ∀ x, p x → Φ ((d, val x) :: env) ec (own x ++ H)) : OpT C all o env ec H Φ :=
  OpT.call hg he hd hN hs hc (by rintro u A ⟨x, hp, rfl, rfl⟩; exact h x hp)
theorem OpT.callE1 {f : FuncId} {args : List Value} {d : Nat} {α : Type} {p : α → Prop} {val : α → Value} {own : α → HA} (hg : gOf all env ec o = some []) (he : evCall env ec [] o = some (f, args)) (hd : o.dst = some d) (hN : Nat.blt d C.N.n = true) (hs : safeC all d ec = true)
    (hc : ∀ w, Cls C.w0 w H → Spec C.S.P f args w (fun u A => ∃ x, p x ∧ u = val x ∧ A = [own x])) (h : ∀ x, p x → Φ ((d, val x) :: env) ec (own x :: H)) : OpT C all o env ec H Φ :=
  OpT.call hg he hd hN hs hc (by rintro u A ⟨x, hp, rfl, rfl⟩; exact h x hp)
end

/-! ## Drawn regions: whichever may come up comes up -/
def notIn (done : List Nat) : List (Nat × Oper) → List (Nat × Oper)
  | [] => []
  | (n, o) :: l => cond (isNum n done) (notIn done l) ((n, o) :: notIn done l)
def remL (all : Array Oper) (done : List Nat) : List (Nat × Oper) := notIn done (zipN nums all.toList)
def pickF (rem : List (Nat × Oper)) : List (Nat × Oper) → Option (Nat × Oper)
  | (n, o) :: l => cond (quietO o.op && freeL rem o.after.toList) (some (n, o)) (pickF rem l)
  | [] => none
def pickQ (all : Array Oper) (done : List Nat) : Option (Nat × Oper) := pickF (remL all done) (remL all done)
def readyF (rem : List (Nat × Oper)) : List (Nat × Oper) → List (Nat × Oper)
  | (n, o) :: l => cond (freeL rem o.after.toList) ((n, o) :: readyF rem l) (readyF rem l)
  | [] => []
def readyL (all : Array Oper) (done : List Nat) : List (Nat × Oper) := readyF (remL all done) (remL all done)
theorem readyF_mem {rem : List (Nat × Oper)} {x : Nat × Oper} : ∀ {l : List (Nat × Oper)}, x ∈ readyF rem l → x ∈ l
  | (n, o) :: l, h => by
    unfold readyF at h
    cases hc : freeL rem o.after.toList with
    | true =>
      rw [hc] at h
      simp only [cond_true, List.mem_cons] at h ⊢
      rcases h with h | h
      · exact .inl h
      · exact .inr (readyF_mem h)
    | false => rw [hc] at h; simp only [cond_false] at h; exact List.mem_cons_of_mem _ (readyF_mem h)
theorem notIn_mem {done : List Nat} {x : Nat × Oper} : ∀ {l : List (Nat × Oper)}, x ∈ notIn done l → x ∈ l
  | (n, o) :: l, h => by
    unfold notIn at h
    cases hc : isNum n done with
    | true => rw [hc] at h; simp only [cond_true] at h; exact List.mem_cons_of_mem _ (notIn_mem h)
    | false =>
      rw [hc] at h
      simp only [cond_false, List.mem_cons] at h ⊢
      rcases h with h | h
      · exact .inl h
      · exact .inr (notIn_mem h)
theorem zipN_mem {x : Nat × Oper} : ∀ {ns : List Nat} {os : List Oper}, x ∈ zipN ns os → ∃ k : Nat, ns[k]? = some x.1 ∧ os[k]? = some x.2
  | n :: ns, o :: os, h => by
    simp only [zipN, List.mem_cons] at h
    rcases h with rfl | h
    · exact ⟨0, rfl, rfl⟩
    · obtain ⟨k, h1, h2⟩ := zipN_mem h; exact ⟨k + 1, by simpa using h1, by simpa using h2⟩
  | [], _, h => by simp [zipN] at h
  | _ :: _, [], h => by simp [zipN] at h
theorem nums_get : ∀ k : Nat, k < nums.length → nums[k]? = some k := by decide +kernel
theorem readyL_get {all : Array Oper} {done : List Nat} {x : Nat × Oper} (h : x ∈ readyL all done) : all[x.1]? = some x.2 := by
  obtain ⟨k, h1, h2⟩ := zipN_mem (notIn_mem (readyF_mem h))
  have h3 := nums_get k (List.getElem?_eq_some_iff.1 h1).1
  rw [h1] at h3
  cases h3
  simpa using h2
def chkQ (all : Array Oper) (z : Nat) (done : List Nat) (i : Nat) : Bool :=
  noDef all && (Region.noSelect all && (Region.free .any all (lst all done) i && ((Region.ready .any all (lst all done)).contains i && (waits .any all z i && live z (lst all done)))))
def AllL (p : Nat → Oper → Prop) : List (Nat × Oper) → Prop
  | [] => True
  | x :: l => p x.1 x.2 ∧ AllL p l
theorem AllL.mem {p : Nat → Oper → Prop} : ∀ {l : List (Nat × Oper)}, AllL p l → ∀ x ∈ l, p x.1 x.2
  | [], _, x, hx => by cases hx
  | y :: l, h, x, hx => by
    rcases List.mem_cons.1 hx with e | hx
    · subst e; exact h.1
    · exact AllL.mem h.2 x hx
section
variable {r : Option Nat} {n : Nat} {P : Program} {ops : Array Oper} {Q : Exit → Act → World → Prop} {md : Region.Mode} {S : World → Prop} {z : Nat}
/-- What leans on no memory is taken first, whatever turns. -/
theorem wpAnyHR_pure {i : Nat} {oi : Oper} {v : Value} (hnd : noDef ops = true) (hi : ops[i]? = some oi) (hsel : ∀ (j : Nat) (o : Oper) cs b, ops[j]? = some o → o.op ≠ .select cs b)
    (hQ : ∀ c a w, Q (.panic c) (a.put oi.dst v) w → Q (.panic c) a w) (hiz : i ≠ z) :
    ∀ (fuel : Nat) (listed : Array Bool) (a : Act) (w : World),
      (∀ j oj, ops[j]? = some oj → j ≠ i → listed.getD j true = false → (∀ e ∈ oj.after, Region.binds md e = true → e.on ≠ i) → oi.apart ops oj = true) →
      i ∈ Region.ready md ops listed → YieldsS P ops (fun _ => True) oi v a → (live z listed = true → S w) →
      wpAnyHR r n P md ops Q S z fuel (listed.setIfInBounds i true) (a.put oi.dst v) w → wpAnyHR r n P md ops Q S z (fuel + 1) listed a w := by
  have hlz : ∀ listed : Array Bool, live z (listed.setIfInBounds i true) = live z listed := fun listed => by
    unfold live
    rw [Array.getD_eq_getD_getElem?, Array.getElem?_setIfInBounds_ne hiz, ← Array.getD_eq_getD_getElem?]
  intro fuel
  induction fuel with
  | zero =>
    intro listed a w _ hr hy hS H
    refine ⟨fun h => (by rw [h] at hr; cases hr), fun j hj => ?_⟩
    by_cases hji : j = i
    · subst hji; exact hy.op hnd hi trivial ⟨fun h => hS (by rw [← hlz]; exact h), H⟩
    · have := ready_mono hj hji
      rw [H.1] at this
      cases this
  | succ fuel ih =>
    intro listed a w hfree hr hy hS H
    refine ⟨fun h => (by rw [h] at hr; cases hr), fun j hj => ?_⟩
    by_cases hji : j = i
    · subst hji; exact hy.op hnd hi trivial ⟨fun h => hS (by rw [← hlz]; exact h), H⟩
    · have h1 := H.2 j (ready_mono hj hji)
      obtain ⟨hjun, oj, hoj, hall⟩ := mem_ready.1 hj
      have hnot : ∀ e ∈ oj.after, Region.binds md e = true → e.on ≠ i := fun e he hb heq => by
        have h1 := hall e he hb
        have h0 := (mem_ready.1 hr).1
        rw [heq] at h1
        rcases Nat.lt_or_ge i listed.size with h' | h'
        · simp [h'] at h0 h1; rw [h0] at h1; cases h1
        · simp [Array.getElem?_eq_none h'] at h1
      have h2 := wpOpIn_putS hnd hoj (hfree j oj hoj hji hjun hnot) (fun cs b => hsel i oi cs b hi) (fun cs b => hsel j oj cs b hoj) hQ hy h1
      have hfree' : ∀ k ok, ops[k]? = some ok → k ≠ i → (listed.setIfInBounds j true).getD k true = false →
          (∀ e ∈ ok.after, Region.binds md e = true → e.on ≠ i) → oi.apart ops ok = true := fun k ok hk hki hun hno => by
        refine hfree k ok hk hki ?_ hno
        by_cases hjk : j = k
        · subst hjk; exact hjun
        · rw [getD_set_ne true hjk] at hun; exact hun
      have hl2 : live z ((listed.setIfInBounds i true).setIfInBounds j true) = live z (listed.setIfInBounds j true) := by
        rw [Array.setIfInBounds_comm _ _ (Ne.symm hji), hlz]
      refine wpOpIn_mono (fun a' w' h3 => ⟨fun h => h3.2.1 (by rw [hl2]; exact h), ih (listed.setIfInBounds j true) a' w' hfree' (ready_mono hr (Ne.symm hji)) h3.1 (fun h => h3.2.1 (by rw [hl2]; exact h)) ?_⟩) h2
      rw [Array.setIfInBounds_comm _ _ hji]
      exact h3.2.2
end
/-- In whatever world the operation yields v. -/
def ValP (C : Cx) (all : Array Oper) (o : Oper) (env : Env) (ec : EnvC) (G : GId) (v : Value) : Prop := ∀ a w, Agrees C.N all env ec a → Holds all a G → (execOp a.eval o).run C.S.P w = .ok (.value v) w
def chkP (all : Array Oper) (z : Nat) (done : List Nat) (i : Nat) : Bool :=
  noDef all && (Region.noSelect all && (Region.free .any all (lst all done) i && ((Region.ready .any all (lst all done)).contains i && !(Nat.beq i z))))
section
variable {C : Cx} {all : Array Oper} {o : Oper} {env : Env} {ec : EnvC} {G : GId} {v : Value}
theorem ValP.pure (hv : evP C.S all env ec G o = some v) : ValP C all o env ec G v := fun _ w ha hH => evP_spec ha hH hv w
theorem ValP.vc {p : Prop} (hv : evV C.S env ec G o = some (v, p)) (hp : GP all env ec G → p) : ValP C all o env ec G v := fun _ w ha hH => evV_spec ha hH hv (hp (hH.gp ha)) w
theorem ValP.val {Hs : List HA} (h : ValP C all o env ec G v) : Val C all o env ec Hs G v := fun a w ha _ hH => h a w ha hH
end
section
variable {C : Cx} {all : Array Oper} {o : Oper} {k : List It} {env : Env} {ec : EnvC} {H Hs : List HA} {d : Nat} {v : Value} {fuel : Nat} {done : List Nat} {G : GId} {z i : Nat}
theorem chkP_spec (h : chkP all z done i = true) : noDef all = true ∧ Region.noSelect all = true ∧ Region.free .any all (lst all done) i = true ∧ i ∈ Region.ready .any all (lst all done) ∧ i ≠ z := by
  simp only [chkP, Bool.and_eq_true, Bool.not_eq_true'] at h
  obtain ⟨h1, h2, h3, h4, h5⟩ := h
  exact ⟨h1, h2, h3, by simpa using h4, fun e => by subst e; simp at h5⟩
theorem dwp (hp : pickQ all done = some (i, o)) (hk : chkP all z done i = true) (hi : all[i]? = some o) (hg : gOf all env ec o = some []) (hv : ValP C all o env ec [] v) (hd : o.dst = some d) (hN : Nat.blt d C.N.n = true) (hs : safeC all d ec = true)
    (h : T C (.draw all fuel (lst all (i :: done)) Hs z :: k) ((d, v) :: env) ec H) (hle : live z (lst all done) = true → Hle H Hs := by intro h; first | exact Hle.refl _ | exact Hle.none _ | exact Hle.sub | exact absurd h (by decide +kernel)) : T C (.draw all (fuel + 1) (lst all done) Hs z :: k) env ec H := by
  obtain ⟨h1, h2, h3, h4, h5⟩ := chkP_spec hk
  refine T.mk fun a w ha hw => ?_
  have hwn := (wanted_iff ha hg).2 (Holds.nil _ _)
  refine wpAnyHR_pure h1 hi (Region.noSelect_spec h2) (fun c a w q => q) h5 fuel _ a w (Region.free_spec hi h3) h4 (.inl ⟨hwn, fun w' _ => hv a w' ha (Holds.nil _ _)⟩) (fun hl => hw.le (hle hl)) ?_
  rw [hd]
  exact h _ w (ha.put hN hs) hw
theorem dwpg (hp : pickQ all done = some (i, o)) (hk : chkP all z done i = true) (hi : all[i]? = some o) (hg : gOf all env ec o = some G) (hv : ValP C all o env ec G v) (hd : o.dst = some d) (hN : Nat.blt d C.N.n = true) (hs : safeC all d ec = true) (hsG : safeG all d G = true) (hl : lookE env d = none)
    (h : T C (.draw all fuel (lst all (i :: done)) Hs z :: k) env ((d, (G, v)) :: ec) H) (hle : live z (lst all done) = true → Hle H Hs := by intro h; first | exact Hle.refl _ | exact Hle.none _ | exact Hle.sub | exact absurd h (by decide +kernel)) : T C (.draw all (fuel + 1) (lst all done) Hs z :: k) env ec H := by
  obtain ⟨h1, h2, h3, h4, h5⟩ := chkP_spec hk
  refine T.mk fun a w ha hw => ?_
  by_cases hH : Holds all a G
  · have hwn := (wanted_iff ha hg).2 hH
    refine wpAnyHR_pure h1 hi (Region.noSelect_spec h2) (fun c a w q => q) h5 fuel _ a w (Region.free_spec hi h3) h4 (.inl ⟨hwn, fun w' _ => hv a w' ha hH⟩) (fun hl => hw.le (hle hl)) ?_
    rw [hd]
    exact h _ w (ha.putC hN hs hsG hl (fun _ => rfl) (fun hh => absurd hH hh)) hw
  · have hwn : Region.wanted o (yielded all a.tmps) = false := by
      cases hq : Region.wanted o (yielded all a.tmps) with
      | false => rfl
      | true => exact absurd ((wanted_iff ha hg).1 hq) hH
    refine wpAnyHR_pure h1 hi (Region.noSelect_spec h2) (fun c a w q => q) h5 fuel _ a w (Region.free_spec hi h3) h4 (.inr ⟨hwn, rfl⟩) (fun hl => hw.le (hle hl)) ?_
    rw [hd]
    exact h _ w (ha.putC hN hs hsG hl (fun hh => absurd hh hH) (fun _ => rfl)) hw
/-- The region begins; Hs: what stays as it is until operation z. -/
theorem dw0 {id : Nat} (z : Nat) (Hs : List HA) (h : T C (.draw all all.size (lst all []) Hs z :: k) env [] H) : T C (.code (.region id all true) :: k) env ec H := T_draw z Hs h
theorem dwe (hr : (Region.ready .any all (lst all done)).isEmpty = true) (h : T C (nf 60 k) env [] H) : T C (.draw all fuel (lst all done) Hs z :: k) env ec H := T_dend (List.isEmpty_iff.1 hr) h
theorem chkQ_spec (h : chkQ all z done i = true) : noDef all = true ∧ Region.noSelect all = true ∧ Region.free .any all (lst all done) i = true ∧ (Region.ready .any all (lst all done)).contains i = true ∧ waits .any all z i = true ∧ live z (lst all done) = true := by
  simpa only [chkQ, Bool.and_eq_true] using h
theorem dwv (hp : pickQ all done = some (i, o)) (hk : chkQ all z done i = true) (hi : all[i]? = some o) (hg : gOf all env ec o = some []) (hv : Val C all o env ec Hs [] v) (hd : o.dst = some d) (hN : Nat.blt d C.N.n = true) (hs : safeC all d ec = true)
    (h : T C (.draw all fuel (lst all (i :: done)) Hs z :: k) ((d, v) :: env) ec H) (hle : Hle H Hs := by first | exact Hle.refl _ | exact Hle.none _ | exact Hle.sub) : T C (.draw all (fuel + 1) (lst all done) Hs z :: k) env ec H := by
  obtain ⟨h1, h2, h3, h4, h5, h6⟩ := chkQ_spec hk
  exact T_dval i hi h1 h2 h3 h4 h5 h6 hg hv hd hN hs hle h
theorem dwg (hp : pickQ all done = some (i, o)) (hk : chkQ all z done i = true) (hi : all[i]? = some o) (hg : gOf all env ec o = some G) (hv : Val C all o env ec Hs G v) (hd : o.dst = some d) (hN : Nat.blt d C.N.n = true) (hs : safeC all d ec = true) (hsG : safeG all d G = true) (hl : lookE env d = none)
    (h : T C (.draw all fuel (lst all (i :: done)) Hs z :: k) env ((d, (G, v)) :: ec) H) (hle : Hle H Hs := by first | exact Hle.refl _ | exact Hle.none _ | exact Hle.sub) : T C (.draw all (fuel + 1) (lst all done) Hs z :: k) env ec H := by
  obtain ⟨h1, h2, h3, h4, h5, h6⟩ := chkQ_spec hk
  exact T_dvalC i hi h1 h2 h3 h4 h5 h6 hg hv hd hN hs hsG hl hle h
/-- None that turns nothing can be taken: any of those that are ready. -/
theorem dwb {rs : List (Nat × Oper)} (hp : readyL all done = rs) (hk : (!rs.isEmpty && decide (Region.ready .any all (lst all done) = rs.map Prod.fst)) = true)
    (h : AllL (fun i o => OpT C all o env ec H (fun env' ec' H' => (live z (lst all (i :: done)) = true → Hle H' Hs) ∧ T C (.draw all fuel (lst all (i :: done)) Hs z :: k) env' ec' H')) rs) : T C (.draw all (fuel + 1) (lst all done) Hs z :: k) env ec H := by
  simp only [Bool.and_eq_true, decide_eq_true_eq, Bool.not_eq_true'] at hk
  refine T_dops hk.2 ?_ fun i hi => ?_
  · cases rs with
    | nil => simp at hk
    | cons x l => rfl
  · obtain ⟨x, hx, rfl⟩ := List.mem_map.1 hi
    exact ⟨x.2, readyL_get (hp ▸ hx), h.mem x hx⟩
end
section
variable {C : Cx} {all : Array Oper} {o : Oper} {env : Env} {ec : EnvC} {H Hs : List HA} {d : Nat} {L : Prop} {X : Env → EnvC → List HA → Prop}
theorem dxBox {t : TypeId} {x : Operand} {u : Value} {cs : List Value} (hg : gOf all env ec o = some []) (ho : o.op = .box t x) (hx : evX env ec [] x = some u) (hcs : u.cells.toList = cs) (hd : o.dst = some d) (hN : Nat.blt d C.N.n = true) (hs : safeC all d ec = true)
    (hle : ∀ b, L → Hle (blk b cs t :: H) Hs) (h : ∀ b, X ((d, .pointer (some ⟨b, 0, none⟩)) :: env) ec (blk b cs t :: H)) : OpT C all o env ec H (fun e c H' => (L → Hle H' Hs) ∧ X e c H') := OpT.box hg ho hx hcs hd hN hs fun b => ⟨hle b, h b⟩
theorem dxAlloc {t : TypeId} {ty : TyI} {cs : List Value} (hg : gOf all env ec o = some []) (ho : o.op = .alloc t) (ht : C.S.ty t = some ty) (hcs : ty.zero.cells.toList = cs) (hd : o.dst = some d) (hN : Nat.blt d C.N.n = true) (hs : safeC all d ec = true)
    (hle : ∀ b, L → Hle (blk b cs t :: H) Hs) (h : ∀ b, X ((d, .pointer (some ⟨b, 0, none⟩)) :: env) ec (blk b cs t :: H)) : OpT C all o env ec H (fun e c H' => (L → Hle H' Hs) ∧ X e c H') := OpT.alloc hg ho ht hcs hd hN hs fun b => ⟨hle b, h b⟩
theorem dxLit {e : TypeId} {n sz : Nat} {vs : List (Nat × Value)} {ty : TyI} {cs : List Value} (hg : gOf all env ec o = some []) (he : evLit C.S env ec o = some (e, n, vs)) (ht : C.S.ty e = some ty) (hsz : ty.size = sz) (h0 : Nat.blt 0 sz = true)
    (hseq : (isSeq 0 vs && (Nat.beq vs.length n && allSz sz vs)) = true) (hcs : flatP vs = cs) (hln : Nat.ble (n * sz) 16777216 = true) (hd : o.dst = some d) (hN : Nat.blt d C.N.n = true) (hs : safeC all d ec = true)
    (hle : ∀ b, L → Hle (blk b cs e :: H) Hs) (h : ∀ b, X ((d, .slice (some ⟨b, 0, none⟩) n n) :: env) ec (blk b cs e :: H)) : OpT C all o env ec H (fun e c H' => (L → Hle H' Hs) ∧ X e c H') := OpT.litW hg he ht hsz h0 hseq hcs hln hd hN hs fun b => ⟨hle b, h b⟩
theorem dxMake {e : TypeId} {l c : Int} {ty : TyI} {z : Value} (hg : gOf all env ec o = some []) (he : evMk C.S env ec o = some (e, l, c)) (ht : C.S.ty e = some ty) (h1 : ty.zero = z) (hz1 : z.cells = #[z]) (hs1 : Nat.beq ty.size 1 = true) (hd : o.dst = some d) (hN : Nat.blt d C.N.n = true) (hs : safeC all d ec = true)
    (hb : (0 ≤ l ∧ l ≤ c) ∧ (ty.bytes : Int) * c ≤ 281474976710656 ∧ c ≤ 9223372036854775807) (hle : ∀ b, L → Hle (blk b (List.replicate c.toNat z) e :: H) Hs) (h : ∀ b, X ((d, .slice (some ⟨b, 0, none⟩) l.toNat c.toNat) :: env) ec (blk b (List.replicate c.toNat z) e :: H)) : OpT C all o env ec H (fun e c H' => (L → Hle H' Hs) ∧ X e c H') :=
  OpT.make hg he ht h1 hz1 hs1 hd hN hs hb fun b => ⟨hle b, h b⟩
end
/-- One step of such a region. -/
theorem dw1 {A B : Prop} (h : B) (hab : B → A := by
  intro hh
  first
  | exact dwp rfl (by decide +kernel) rfl rfl (by first | exact ValP.pure rfl | exact ValP.vc rfl (fun hg => by first | (simp only [inK]; omega) | omega | with_reducible exact True.intro | with_reducible assumption)) rfl rfl rfl hh
  | exact dwpg rfl (by decide +kernel) rfl rfl (by first | exact ValP.pure rfl | exact ValP.vc rfl (fun hg => by
             (simp only [List.cons_append, List.nil_append, GP, dstL, lookE, Nat.beq, cond, List.getElem?_cons_zero, List.getElem?_cons_succ, Option.bind_some, and_true, Bool.and_eq_true, Bool.or_eq_true, Bool.and_eq_false_iff, Bool.or_eq_false_iff, Bool.not_eq_true', Bool.not_eq_false', decide_eq_true_eq, decide_eq_false_iff_not] at hg)
             first | (simp only [inK]; omega) | omega | with_reducible exact True.intro | with_reducible assumption)) rfl rfl rfl rfl rfl hh
  | exact dwv rfl (by decide +kernel) rfl rfl (by
         first
         | exact Val.load rfl (fun _ => rdOwn1 rfl)
         | exact Val.loadA rfl (fun _ => rdAll) rfl
         | exact Val.build rfl
         | exact Val.load rfl (fun _ => rdOld ‹RdC _ _ _ [_]›)
         | exact Val.load rfl (fun _ => rdOld (RdC.at ‹RdC _ _ _ _› rfl))
         | exact Val.load rfl (fun _ => rdOld (RdC.at2 ‹RdC _ _ _ _› rfl))
         | exact Val.loadA rfl (fun _ => rdOld ‹RdC _ _ _ _›) rfl) rfl rfl rfl hh
  | exact dwg rfl (by decide +kernel) rfl rfl (by
         first
         | exact Val.load rfl (fun _ => rdOwn1 rfl)
         | exact Val.loadA rfl (fun _ => rdAll) rfl
         | exact Val.build rfl
         | exact Val.load rfl (fun _ => rdOld ‹RdC _ _ _ [_]›)
         | exact Val.load rfl (fun _ => rdOld (RdC.at ‹RdC _ _ _ _› rfl))
         | exact Val.load rfl (fun _ => rdOld (RdC.at2 ‹RdC _ _ _ _› rfl))
         | exact Val.loadA rfl (fun _ => rdOld ‹RdC _ _ _ _›) rfl) rfl rfl rfl rfl rfl hh
  | exact dwe (by decide +kernel) hh) : A := hab h
/-- One that turns something, in such a region. -/
theorem dwx {A B : Prop} (h : B) (hab : B → A := by
  intro hh
  first
  | exact OpT.ofVal rfl (Val.pure rfl) rfl rfl rfl ⟨fun _ => (by first | exact Hle.none _ | exact Hle.sub | exact absurd ‹_› (by decide +kernel)), hh⟩
  | exact OpT.ofVal rfl (Val.vc rfl (fun hg => by first | (simp only [inK]; omega) | omega | with_reducible exact True.intro | with_reducible assumption)) rfl rfl rfl ⟨fun _ => (by first | exact Hle.none _ | exact Hle.sub | exact absurd ‹_› (by decide +kernel)), hh⟩
  | exact dxBox rfl rfl rfl rfl rfl rfl rfl (fun b _ => (by first | exact Hle.none _ | exact Hle.sub | exact absurd ‹_› (by decide +kernel))) hh
  | exact dxAlloc rfl rfl rfl rfl rfl rfl rfl (fun b _ => (by first | exact Hle.none _ | exact Hle.sub | exact absurd ‹_› (by decide +kernel))) hh
  | exact dxLit rfl rfl rfl rfl rfl rfl rfl rfl rfl rfl rfl (fun b _ => (by first | exact Hle.none _ | exact Hle.sub | exact absurd ‹_› (by decide +kernel))) hh
  | exact dxMake rfl rfl rfl rfl rfl rfl rfl rfl rfl (by first | omega | (dsimp only; omega)) (fun b _ => (by first | exact Hle.none _ | exact Hle.sub | exact absurd ‹_› (by decide +kernel))) hh
  | exact OpT.store rfl rfl rfl rfl (by first | exact Nat.le_of_ble_eq_true rfl | decide | (simp; omega)) ⟨fun _ => (by first | exact Hle.none _ | exact Hle.sub | exact absurd ‹_› (by decide +kernel)), hh⟩
  | exact OpT.storeA rfl rfl rfl rfl rfl rfl (by first | exact Nat.le_of_ble_eq_true rfl | decide | (simp; omega)) ⟨fun _ => (by first | exact Hle.none _ | exact Hle.sub | exact absurd ‹_› (by decide +kernel)), hh⟩) : A := hab h
end Go.Proofs.YtmcgificpaeipaaGreatDoor
/- The engine: arrays that are built and indexed; tables of numbers that turn. It speaks of any program. -/
namespace Go.Proofs.YtmcgificpaeipaaGreatDoor
open Go.RowKit Go.Shelf

/-! ## Arrays -/
def fillA (sz : Nat) (cs : List Value) : List (Nat × Value) → Option (List Value)
  | [] => some cs
  | (i, v) :: r => cond (Nat.beq v.cells.size sz && Nat.ble (i * sz + sz) cs.length) (fillA sz (setL cs (i * sz) v.cells.toList) r) none
theorem fillA_spec {sz : Nat} : ∀ {ps : List (Nat × Value)} {cs cs' : List Value}, fillA sz cs ps = some cs' → Instr.fill (fun i => some (i * sz, sz)) cs.toArray ps = some cs'.toArray
  | [], cs, cs', h => by cases h; rfl
  | (i, v) :: r, cs, cs', h => by
    unfold fillA at h
    cases hc : (Nat.beq v.cells.size sz && Nat.ble (i * sz + sz) cs.length) with
    | false => rw [hc] at h; cases h
    | true =>
      rw [hc] at h
      simp only [cond_true] at h
      simp only [Bool.and_eq_true] at hc
      have h1 : v.cells.size = sz := Nat.eq_of_beq_eq_true hc.1
      have h2 : i * sz + sz ≤ cs.length := Nat.le_of_ble_eq_true hc.2
      have ih := fillA_spec h
      unfold Instr.fill
      dsimp only
      rw [if_neg (by simp [h1]; omega)]
      have e := foldl_setL v.cells.toList cs (i * sz) 0
      rw [← Array.foldl_toList, Array.toList_zipIdx]
      rw [e, Nat.add_zero]
      exact ih
def evBdA (S : Sig) (env : Env) (ec : EnvC) (G : GId) (o : Oper) : Option (List Value) :=
  match o.op with
  | .build t ps => match S.ty t, evPartsG env ec G ps.toList with
    | some ⟨.arr _ e, _, _, z⟩, some vs => match S.ty e with
      | some ⟨_, sz, _, _⟩ => fillA sz z.cells.toList vs
      | none => none
    | _, _ => none
  | _ => none
theorem Val.buildA {C : Cx} {all : Array Oper} {o : Oper} {env : Env} {ec : EnvC} {Hs : List HA} {G : GId} {cs : List Value} (hv : evBdA C.S env ec G o = some cs) : Val C all o env ec Hs G (.agg cs.toArray) := by
  intro a w ha _ hG
  obtain ⟨dst, op, ty, pos, aft, gd⟩ := o
  unfold evBdA at hv
  dsimp only at hv
  split at hv
  · rename_i t ps
    split at hv
    · rename_i n e q1 q2 z vs ht hvs
      split at hv
      · rename_i q3 sz q4 q5 hte
        have hk := Sig.tyOk ht
        have hfa := hk.fits
        simp only [Ty.fits] at hfa
        have hz := hk.zeroValue w
        dsimp only at hz
        have hsz := (Sig.tyOk hte).sizeOf w
        dsimp only at hsz
        have hparts : (Array.map (fun x : Nat × Operand => (x.1, a.eval x.2)) ps).toList = vs := by rw [Array.toList_map]; exact evPartsG_spec ha hG hvs
        have hf := fillA_spec hv
        have hf' : Instr.fill (fun i => some (i * sz, sz)) z.cells vs = some cs.toArray := hf
        simp only [execOp, Instr.build, Sem.run_bind, hz, Result.andThen_ok, run_underlying hfa, hsz]
        rw [hparts, hf']
        rfl
      · cases hv
    · cases hv
  · cases hv
/-- An element of an array of one-cell elements. -/
def evIxA (S : Sig) (env : Env) (ec : EnvC) (G : GId) (o : Oper) : Option (Value × Int × Nat) :=
  match o.op with
  | .index t x i => match S.ty t, evX env ec G x, evX env ec G i with
    | some ⟨.arr n e, _, _, _⟩, some (.agg cs), some (.int _ i) => match S.ty e with
      | some ⟨d, sz, _, _⟩ => cond (d.plain && (!d.isAgg && Nat.beq sz 1)) (match cs.toList[i.toNat]? with
        | some v => some (v, i, n)
        | none => none) none
      | none => none
    | _, _, _ => none
  | _ => none
theorem Val.indexA {C : Cx} {all : Array Oper} {o : Oper} {env : Env} {ec : EnvC} {Hs : List HA} {G : GId} {v : Value} {i : Int} {n : Nat} (hv : evIxA C.S env ec G o = some (v, i, n)) (hi : GP all env ec G → 0 ≤ i ∧ i < (n : Int)) : Val C all o env ec Hs G v := by
  intro a w ha _ hG
  have hi := hi (hG.gp ha)
  obtain ⟨dst, op, ty, pos, aft, gd⟩ := o
  unfold evIxA at hv
  dsimp only at hv
  split at hv
  · rename_i t x y
    split at hv
    · rename_i n' e q1 q2 q3 cs k i' ht hx hy
      split at hv
      · rename_i d sz q4 q5 hte
        cases hc : (d.plain && (!d.isAgg && Nat.beq sz 1)) with
        | false => rw [hc] at hv; cases hv
        | true =>
          rw [hc] at hv
          simp only [cond_true] at hv
          simp only [Bool.and_eq_true, Bool.not_eq_true'] at hc
          obtain ⟨c1, c2, c3⟩ := hc
          have e1 : sz = 1 := Nat.eq_of_beq_eq_true c3
          subst e1
          split at hv
          · rename_i u hu
            cases hv
            have hk := (Sig.tyOk ht).fits
            simp only [Ty.fits] at hk
            have hsz := (Sig.tyOk hte).sizeOf w
            dsimp only at hsz
            have hia := (Sig.tyOk hte).isAgg w c1
            dsimp only at hia
            rw [c2] at hia
            have hu' : cs[i.toNat]? = some v := by simpa using hu
            simp only [execOp, evX_spec ha hG hx, evX_spec ha hG hy, Instr.index]
            simp [asIntOf, run_underlying hk, hsz, hi, part, hia, hu']
          · cases hv
      · cases hv
    · cases hv
  · cases hv

/-! ## Entries in whatever order -/
class RemP (A : HA) (H : List HA) (H' : outParam (List HA)) : Prop where
  at_ : ∃ i : Nat, H[i]? = some A ∧ ∀ j : Nat, H'[j]? = H[if j < i then j else j + 1]?
instance RemP.head (A : HA) (H : List HA) : RemP A (A :: H) H := ⟨0, rfl, fun j => by rw [if_neg (by omega)]; rfl⟩
instance (priority := low) RemP.tail (A B : HA) (H H' : List HA) [h : RemP A H H'] : RemP A (B :: H) (B :: H') := ⟨by
  obtain ⟨i, h1, h2⟩ := h.at_
  refine ⟨i + 1, by simpa using h1, fun j => ?_⟩
  cases j with
  | zero => simp
  | succ j =>
    rw [List.getElem?_cons_succ, h2 j]
    by_cases h3 : j < i
    · rw [if_pos h3, if_pos (by omega)]; simp
    · rw [if_neg h3, if_neg (by omega)]; simp⟩
class PickP (H K : List HA) : Prop where
  at_ : ∃ p : Nat → Nat, (∀ (i : Nat) (B : HA), K[i]? = some B → H[p i]? = some B) ∧ ∀ i j, i < K.length → j < K.length → i ≠ j → p i ≠ p j
instance PickP.nil (H : List HA) : PickP H [] := ⟨id, fun i B h => by simp at h, fun i j h => by simp at h⟩
instance PickP.cons (A : HA) (H H' K : List HA) [h : RemP A H H'] [k : PickP H' K] : PickP H (A :: K) := ⟨by
  obtain ⟨i, h1, h2⟩ := h.at_
  obtain ⟨p, k1, k2⟩ := k.at_
  refine ⟨fun s => match s with | 0 => i | s + 1 => if p s < i then p s else p s + 1, fun s B hs => ?_, fun s t hs ht hne => ?_⟩
  · cases s with
    | zero => simp at hs; subst hs; exact h1
    | succ s =>
      have := k1 s B (by simpa using hs)
      rw [h2] at this
      exact this
  · cases s <;> cases t <;> dsimp only
    · omega
    · split <;> omega
    · split <;> omega
    · rename_i s t
      have := k2 s t (by simpa using hs) (by simpa using ht) (by omega)
      (repeat' split) <;> omega⟩
/-- Some of the entries, in whatever order. -/
theorem Hle.any {H K : List HA} [h : PickP H K] : Hle H K := by
  obtain ⟨p, h1, h2⟩ := h.at_
  exact Hle.pick p h1 h2
/-- One of the entries. -/
theorem Hle.nth {H : List HA} {A : HA} (i : Nat) (h : H[i]? = some A) : Hle H [A] :=
  Hle.pick (fun _ => i) (fun j B hj => by
    cases j with
    | zero => simp at hj; subst hj; exact h
    | succ j => simp at hj) (fun i j hi hj hne => by simp at hi hj; omega)
/-- .. found by what they are, not by how they are written. -/
inductive Rm (A : HA) : List HA → List HA → Prop where
  | here {H : List HA} : Rm A (A :: H) H
  | there {B : HA} {H H' : List HA} (h : Rm A H H') : Rm A (B :: H) (B :: H')
inductive Pk : List HA → List HA → Prop where
  | nil (H : List HA) : Pk H []
  | cons {A : HA} {H H' K : List HA} (h : Rm A H H') (k : Pk H' K) : Pk H (A :: K)
theorem Rm.spec {A : HA} {H H' : List HA} (h : Rm A H H') : RemP A H H' := by
  induction h with
  | here => exact RemP.head _ _
  | there _ ih => exact RemP.tail _ _ _ _ (h := ih)
theorem Pk.spec {H K : List HA} (h : Pk H K) : PickP H K := by
  induction h with
  | nil H => exact PickP.nil H
  | cons h _ ih => exact PickP.cons _ _ _ _ (h := h.spec) (k := ih)
theorem Rm.b {b : Nat} {cs cs' : List Value} {t : TypeId} {H : List HA} (h : cs' = cs) : Rm (blk b cs t) (blk b cs' t :: H) H := by subst h; exact .here
theorem Hle.srt {H K : List HA} (h : Pk H K := by repeat' (first | exact Pk.nil _ | apply Pk.cons | with_reducible exact Rm.here | ((with_reducible apply Rm.b); rfl) | apply Rm.there)) : Hle H K := Hle.any (h := h.spec)
end Go.Proofs.YtmcgificpaeipaaGreatDoor
/- Walks: pairs of sources: what they are, their moves, their places (the program). -/
namespace Go.Proofs.YtmcgificpaeipaaGreatDoor
open Go.RowKit Go.Shelf Go.Proofs
set_option maxRecDepth 100000
set_option maxHeartbeats 1000000

def grdOf (c : Costs) (a b : List Tok) : Grd := ⟨a.length, b.length, fun i k => pairC c (tkA a i) (tkA b k), fun i => gapC c (tkA a i), fun k => gapC c (tkA b k)⟩
theorem grdOf_ok {c : Costs} (hc : costE c = 0) (a b : List Tok) : GOk (grdOf c a b) 1000 := by
  obtain ⟨c1, c2, c3, c4, c5⟩ := costE_ok hc
  refine ⟨fun i k => ?_, fun i => ?_, fun k => ?_⟩
  · have := pairC_bd hc (tkA a i) (tkA b k); show 0 ≤ pairC _ _ _ ∧ pairC _ _ _ ≤ 1000; omega
  · have := gapC_bd hc (tkA a i); show 0 ≤ gapC _ _ ∧ gapC _ _ ≤ 1000; omega
  · have := gapC_bd hc (tkA b k); show 0 ≤ gapC _ _ ∧ gapC _ _ ≤ 1000; omega
def gaL (c : Costs) (a : List Tok) : List Int := a.map (gapC c)
theorem gaL_get {c : Costs} {a : List Tok} {i : Nat} (h : i < a.length) : (gaL c a)[i]? = some (gapC c (tkA a i)) := by unfold gaL; rw [List.getElem?_map, tkA_get h]; rfl
/-- Why sources cannot be aligned (of up to 1000 tokens each). -/
def ckV (c : Costs) (a b : List Tok) : Int := if costE c ≠ 0 ∨ badL a = true ∨ badL b = true then 1 else 0
theorem badL_false {l : List Tok} : badL l = false ↔ ∀ t ∈ l, tokE t = 0 := by
  unfold badL; rw [List.any_eq_false]; simp
theorem ckV_ok {c : Costs} {a b : List Tok} (h : ckV c a b = 0) : costE c = 0 ∧ (∀ t ∈ a, tokE t = 0) ∧ ∀ t ∈ b, tokE t = 0 := by
  unfold ckV at h
  by_cases hh : costE c ≠ 0 ∨ badL a = true ∨ badL b = true
  · rw [if_pos hh] at h; omega
  · simp only [not_or, Bool.not_eq_true, Classical.not_not] at hh
    exact ⟨hh.1, badL_false.1 hh.2.1, badL_false.1 hh.2.2⟩
theorem ckV_01 (c : Costs) (a b : List Tok) : ckV c a b = 0 ∨ ckV c a b = 1 := by unfold ckV; split <;> simp
def srcsL (c : Costs) (A B : Option Addr) (n m ca cb : Nat) (x y : Value) : List Value := [.int .i64 c.gap, .int .i64 c.norm, .int .i64 c.letter, .int .i64 c.most, .slice A n ca, .slice B m cb, x, y]
theorem pcheck1_spec (t : Tok) (ht : t.small) (w : World) (hst : Std w) : Spec Tryz.prog 76 [t.val] w (fun v A => v = .bool (!decide (tokE t = 0)) ∧ A = []) := by
  refine spec_of sg Tryz.func76 rfl rfl rfl ?_
  repeat' (first | (show T _ (.ops _ (⟨_, .box _ _, _, _, _, _⟩ :: _) :: _) _ _ _; refine T_op (OpT.box (cs := t.cells) rfl rfl rfl rfl rfl rfl rfl (fun _ => ?_))) | refine d1 ?_ | refine dd ?_ | (show T _ (.ops _ (_ :: _) :: _) _ _ _; first | refine T_call rfl rfl rfl rfl rfl (fun w hw => tokPrg_spec t ht w (hst.cls ‹_›)) ?_ | refine T_callC rfl rfl rfl rfl rfl rfl rfl (fun hg w hw => tokPrg_spec t ht w (hst.cls ‹_›)) ?_) | (show T _ (.run _ _ (_ :: _) _ _ :: _) _ _ _; first | refine rc rfl rfl rfl rfl rfl rfl rfl (fun w hw => tokPrg_spec t ht w (hst.cls ‹_›)) ?_ | refine rcG rfl rfl rfl rfl rfl rfl rfl rfl rfl (fun hg w hw => tokPrg_spec t ht w (hst.cls ‹_›)) ?_) | (show ∀ _ : Nat, T _ _ _ _ _; intro _) | (show T _ (.code .ret :: _) _ _ _; refine T_retV [] rfl (Hle.none _) ⟨rfl, rfl⟩))
theorem pcheck_bad (c : Costs) (A B : Option Addr) (n m ca cb : Nat) (a b : List Tok) (w : World) (hst : Std w) (ha : Src w 6 A n (a.flatMap Tok.cells)) (hn : a.length = n) (hnb : n ≤ 1000)
    (hb : Src w 6 B m (b.flatMap Tok.cells)) (hm : b.length = m) (hmb : m ≤ 1000) (hsa : ∀ t ∈ a, t.small) (hsb : ∀ t ∈ b, t.small) (hk : ckV c a b ≠ 0) :
    Spec Tryz.prog 45 [c.val, .slice A n ca, .slice B m cb] w (fun v R => v = .tuple #[.agg (srcsL ⟨0, 0, 0, 0⟩ none none 0 0 0 0 (.slice none 0 0) (.slice none 0 0)).toArray, .int .i64 1] ∧ R = []) := by
  refine spec_of sg Tryz.func45 rfl rfl rfl ?_
  refine T_op (OpT.box (cs := c.cells) rfl rfl rfl rfl rfl rfl rfl (fun pc => ?_))
  repeat' (first | refine d1 ?_ | refine dd ?_ | (show T _ (.ops _ (_ :: _) :: _) _ _ _; first | refine T_call rfl rfl rfl rfl rfl (fun w hw => costPrg_spec c w) ?_ | refine T_callC rfl rfl rfl rfl rfl rfl rfl (fun hg w hw => costPrg_spec c w) ?_ | refine T_call rfl rfl rfl rfl rfl (fun w hw => containsFuncT_spec A n ca a _ [] [] (fun t => !decide (tokE t = 0)) w (rdSrc ha w ‹_›) hn (by omega) (fun x hx w' hb' => pcheck1_spec x (hsa x hx) w' ((hst.cls ‹_›).below hb'))) ?_ | refine T_callC rfl rfl rfl rfl rfl rfl rfl (fun hg w hw => containsFuncT_spec A n ca a _ [] [] (fun t => !decide (tokE t = 0)) w (rdSrc ha w ‹_›) hn (by omega) (fun x hx w' hb' => pcheck1_spec x (hsa x hx) w' ((hst.cls ‹_›).below hb'))) ?_ | refine T_call rfl rfl rfl rfl rfl (fun w hw => containsFuncT_spec B m cb b _ [] [] (fun t => !decide (tokE t = 0)) w (rdSrc hb w ‹_›) hm (by omega) (fun x hx w' hb' => pcheck1_spec x (hsb x hx) w' ((hst.cls ‹_›).below hb'))) ?_ | refine T_callC rfl rfl rfl rfl rfl rfl rfl (fun hg w hw => containsFuncT_spec B m cb b _ [] [] (fun t => !decide (tokE t = 0)) w (rdSrc hb w ‹_›) hm (by omega) (fun x hx w' hb' => pcheck1_spec x (hsb x hx) w' ((hst.cls ‹_›).below hb'))) ?_) | (show T _ (.run _ _ (_ :: _) _ _ :: _) _ _ _; first | refine rc rfl rfl rfl rfl rfl rfl rfl (fun w hw => costPrg_spec c w) ?_ | refine rcG rfl rfl rfl rfl rfl rfl rfl rfl rfl (fun hg w hw => costPrg_spec c w) ?_ | refine rc rfl rfl rfl rfl rfl rfl rfl (fun w hw => containsFuncT_spec A n ca a _ [] [] (fun t => !decide (tokE t = 0)) w (rdSrc ha w ‹_›) hn (by omega) (fun x hx w' hb' => pcheck1_spec x (hsa x hx) w' ((hst.cls ‹_›).below hb'))) ?_ | refine rcG rfl rfl rfl rfl rfl rfl rfl rfl rfl (fun hg w hw => containsFuncT_spec A n ca a _ [] [] (fun t => !decide (tokE t = 0)) w (rdSrc ha w ‹_›) hn (by omega) (fun x hx w' hb' => pcheck1_spec x (hsa x hx) w' ((hst.cls ‹_›).below hb'))) ?_ | refine rc rfl rfl rfl rfl rfl rfl rfl (fun w hw => containsFuncT_spec B m cb b _ [] [] (fun t => !decide (tokE t = 0)) w (rdSrc hb w ‹_›) hm (by omega) (fun x hx w' hb' => pcheck1_spec x (hsb x hx) w' ((hst.cls ‹_›).below hb'))) ?_ | refine rcG rfl rfl rfl rfl rfl rfl rfl rfl rfl (fun hg w hw => containsFuncT_spec B m cb b _ [] [] (fun t => !decide (tokE t = 0)) w (rdSrc hb w ‹_›) hm (by omega) (fun x hx w' hb' => pcheck1_spec x (hsb x hx) w' ((hst.cls ‹_›).below hb'))) ?_) | (show ∀ _ : Nat, T _ _ _ _ _; intro _))
  rename_i p6
  refine T_if rfl (fun h => ?_) (fun h => ?_)
  · repeat' (first | refine d1 ?_ | refine dd ?_ | (show T _ (.ops _ (_ :: _) :: _) _ _ _; refine T_op (OpT.storeA rfl rfl rfl rfl rfl rfl (by decide) ?_)) | (show ∀ _ : Nat, T _ _ _ _ _; intro _))
    exact T_retM (vs := [.agg (srcsL ⟨0, 0, 0, 0⟩ none none 0 0 0 0 (.slice none 0 0) (.slice none 0 0)).toArray, .int .i64 1]) [] ⟨⟨p6, _, srcsL ⟨0, 0, 0, 0⟩ none none 0 0 0 0 (.slice none 0 0) (.slice none 0 0), rfl, rfl, rfl, rfl, (fun h => by cases h), rfl, rdAll⟩, rfl, trivial⟩ (Hle.none _) ⟨rfl, rfl⟩
  · exfalso
    apply hk
    simp only [Bool.or_eq_false_iff, Bool.not_eq_false', decide_eq_true_eq] at h
    unfold ckV badL
    rw [if_neg]
    rw [h.1.2, h.2]
    simp [h.1.1]
theorem size_law {n m : Nat} (h : n ≤ 1000) (k : m ≤ 1000) : 0 ≤ ((n : Int) + 1) * ((m : Int) + 1) ∧ ((n : Int) + 1) * ((m : Int) + 1) ≤ 1048576 := by
  have := Nat.mul_le_mul (show n + 1 ≤ 1001 by omega) (show m + 1 ≤ 1001 by omega)
  have e : ((n : Int) + 1) * ((m : Int) + 1) = ((n + 1) * (m + 1) : Nat) := by push_cast; rfl
  omega
theorem gaL_take {c : Costs} {a : List Tok} {k : Nat} (h : k < a.length) : ((gaL c a).take (k + 1)).map (Value.int .i64) = ((gaL c a).take k).map (Value.int .i64) ++ [.int .i64 (gapC c (tkA a k))] := by
  rw [take_snoc _ _ _ (gaL_get h), List.map_append]; rfl
theorem gaL_length (c : Costs) (a : List Tok) : (gaL c a).length = a.length := by simp [gaL]
theorem pcheck_ok (c : Costs) (A B : Option Addr) (n m ca cb : Nat) (a b : List Tok) (w : World) (hst : Std w) (ha : Src w 6 A n (a.flatMap Tok.cells)) (hn : a.length = n) (hnb : n ≤ 1000)
    (hb : Src w 6 B m (b.flatMap Tok.cells)) (hm : b.length = m) (hmb : m ≤ 1000) (hsa : ∀ t ∈ a, t.small) (hsb : ∀ t ∈ b, t.small) (hk : ckV c a b = 0) :
    Spec Tryz.prog 45 [c.val, .slice A n ca, .slice B m cb] w (fun v R => ∃ x : Value × Value, v = .tuple #[.agg (srcsL c A B n m ca cb x.1 x.2).toArray, .int .i64 0] ∧ R = [dat [x.1] [intsD (gaL c a)], dat [x.2] [intsD (gaL c b)]]) := by
  obtain ⟨hc, ka, kb⟩ := ckV_ok hk
  obtain ⟨c1, c2, c3, c4, c5⟩ := costE_ok hc
  have hga : ∀ i, i < n → gapV c (tkA a i) = (gapC c (tkA a i), 0) := fun i hi => by unfold gapV; rw [if_pos ⟨hc, ka _ (tkA_mem (by omega))⟩]
  have hgb : ∀ i, i < m → gapV c (tkA b i) = (gapC c (tkA b i), 0) := fun i hi => by unfold gapV; rw [if_pos ⟨hc, kb _ (tkA_mem (by omega))⟩]
  have hsz := size_law hnb hmb
  refine spec_of sg Tryz.func45 rfl rfl rfl ?_
  refine T_op (OpT.box (cs := c.cells) rfl rfl rfl rfl rfl rfl rfl (fun pc => ?_))
  repeat' (first | refine d1 ?_ | refine dd ?_ | (show T _ (.ops _ (_ :: _) :: _) _ _ _; first | refine T_call rfl rfl rfl rfl rfl (fun w hw => costPrg_spec c w) ?_ | refine T_callC rfl rfl rfl rfl rfl rfl rfl (fun hg w hw => costPrg_spec c w) ?_ | refine T_call rfl rfl rfl rfl rfl (fun w hw => containsFuncT_spec A n ca a _ [] [] (fun t => !decide (tokE t = 0)) w (rdSrc ha w ‹_›) hn (by omega) (fun x hx w' hb' => pcheck1_spec x (hsa x hx) w' ((hst.cls ‹_›).below hb'))) ?_ | refine T_callC rfl rfl rfl rfl rfl rfl rfl (fun hg w hw => containsFuncT_spec A n ca a _ [] [] (fun t => !decide (tokE t = 0)) w (rdSrc ha w ‹_›) hn (by omega) (fun x hx w' hb' => pcheck1_spec x (hsa x hx) w' ((hst.cls ‹_›).below hb'))) ?_ | refine T_call rfl rfl rfl rfl rfl (fun w hw => containsFuncT_spec B m cb b _ [] [] (fun t => !decide (tokE t = 0)) w (rdSrc hb w ‹_›) hm (by omega) (fun x hx w' hb' => pcheck1_spec x (hsb x hx) w' ((hst.cls ‹_›).below hb'))) ?_ | refine T_callC rfl rfl rfl rfl rfl rfl rfl (fun hg w hw => containsFuncT_spec B m cb b _ [] [] (fun t => !decide (tokE t = 0)) w (rdSrc hb w ‹_›) hm (by omega) (fun x hx w' hb' => pcheck1_spec x (hsb x hx) w' ((hst.cls ‹_›).below hb'))) ?_) | (show T _ (.run _ _ (_ :: _) _ _ :: _) _ _ _; first | refine rc rfl rfl rfl rfl rfl rfl rfl (fun w hw => costPrg_spec c w) ?_ | refine rcG rfl rfl rfl rfl rfl rfl rfl rfl rfl (fun hg w hw => costPrg_spec c w) ?_ | refine rc rfl rfl rfl rfl rfl rfl rfl (fun w hw => containsFuncT_spec A n ca a _ [] [] (fun t => !decide (tokE t = 0)) w (rdSrc ha w ‹_›) hn (by omega) (fun x hx w' hb' => pcheck1_spec x (hsa x hx) w' ((hst.cls ‹_›).below hb'))) ?_ | refine rcG rfl rfl rfl rfl rfl rfl rfl rfl rfl (fun hg w hw => containsFuncT_spec A n ca a _ [] [] (fun t => !decide (tokE t = 0)) w (rdSrc ha w ‹_›) hn (by omega) (fun x hx w' hb' => pcheck1_spec x (hsa x hx) w' ((hst.cls ‹_›).below hb'))) ?_ | refine rc rfl rfl rfl rfl rfl rfl rfl (fun w hw => containsFuncT_spec B m cb b _ [] [] (fun t => !decide (tokE t = 0)) w (rdSrc hb w ‹_›) hm (by omega) (fun x hx w' hb' => pcheck1_spec x (hsb x hx) w' ((hst.cls ‹_›).below hb'))) ?_ | refine rcG rfl rfl rfl rfl rfl rfl rfl rfl rfl (fun hg w hw => containsFuncT_spec B m cb b _ [] [] (fun t => !decide (tokE t = 0)) w (rdSrc hb w ‹_›) hm (by omega) (fun x hx w' hb' => pcheck1_spec x (hsb x hx) w' ((hst.cls ‹_›).below hb'))) ?_) | (show ∀ _ : Nat, T _ _ _ _ _; intro _))
  rename_i p6
  refine T_if rfl (fun h => ?_) (fun h => ?_)
  · exfalso
    rw [hc] at h
    have e1 := badL_false.2 ka
    have e2 := badL_false.2 kb
    unfold badL at e1 e2
    rw [e1, e2] at h
    simp at h
  repeat' (first | refine d1 ?_ | refine dd ?_ | (show ∀ _ : Nat, T _ _ _ _ _; intro _))
  refine T_if rfl (fun h2 => ?_) (fun h2 => ?_)
  · exfalso
    simp only [Bool.or_eq_true, decide_eq_true_eq] at h2
    omega
  repeat' (first | refine d1 ?_ | refine dd ?_ | (show T _ (.ops _ (_ :: _) :: _) _ _ _; first | refine T_val rfl (Val.buildA rfl) rfl rfl rfl ?_ | refine T_valC rfl (Val.buildA rfl) rfl rfl rfl rfl rfl ?_ | refine T_op (OpT.storeA rfl rfl rfl rfl rfl rfl (by decide) ?_)) | (show T _ (.run _ _ (_ :: _) _ _ :: _) _ _ _; first | refine rv rfl rfl rfl (Val.buildA rfl) rfl rfl rfl ?_ | refine rg rfl rfl rfl (Val.buildA rfl) rfl rfl rfl rfl rfl ?_) | (show ∀ _ : Nat, T _ _ _ _ _; intro _))
  rename_i p9
  refine T_le (H' := [blk p9 (srcsL c A B n m ca cb (.slice none 0 0) (.slice none 0 0)) 75, blk p6 _ 75, blk pc c.cells 23]) (Hle.refl _) ?_
  refine T_nilrow 3 1 ?_
  refine T_nilrow 3 1 ?_
  refine T_loopX (fun x : Nat × (Option Addr × Nat) × (Option Addr × Nat) => [(56, .int .i64 x.1)]) (fun x => [row 3 1 x.2.1.1 x.2.1.2 (if 0 < x.1 then n else 0) (if 0 < x.1 then (gaL c a).map (Value.int .i64) else []), row 3 1 x.2.2.1 x.2.2.2 (if 1 < x.1 then m else 0) (if 1 < x.1 then (gaL c b).map (Value.int .i64) else []), blk p9 (srcsL c A B n m ca cb (.slice x.2.1.1 (if 0 < x.1 then n else 0) x.2.1.2) (.slice x.2.2.1 (if 1 < x.1 then m else 0) x.2.2.2)) 75, blk p6 (srcsL ⟨0, 0, 0, 0⟩ none none 0 0 0 0 (.slice none 0 0) (.slice none 0 0)) 75, blk pc c.cells 23]) (fun x => x.1 ≤ 2) (fun x => 2 - x.1) (0, (none, 0), (none, 0)) (Nat.zero_le _) ?_
  rintro ⟨i, ⟨A1, cap1⟩, ⟨A2, cap2⟩⟩ hi
  dsimp only at hi ⊢
  repeat' (first | refine d1 ?_ | refine dd ?_ | (show ∀ _ : Nat, T _ _ _ _ _; intro _))
  refine T_if rfl (fun h3 => ?_) (fun h3 => ?_)
  · simp only [decide_eq_true_eq] at h3
    rcases (show i = 0 ∨ i = 1 by omega) with rfl | rfl
    · refine T_le (H' := [row 3 1 A1 cap1 0 [], row 3 1 A2 cap2 0 [], blk p9 (srcsL c A B n m ca cb (.slice A1 0 cap1) (.slice A2 0 cap2)) 75, blk p6 _ 75, blk pc c.cells 23]) (Hle.refl _) ?_
      repeat' (first | refine d1 ?_ | refine dd ?_ | (show T _ (.ops _ (_ :: _) :: _) _ _ _; first | refine T_val rfl (Val.indexA rfl (fun _ => by omega)) rfl rfl rfl ?_ | refine T_valC rfl (Val.indexA rfl (fun _ => by omega)) rfl rfl rfl rfl rfl ?_) | (show T _ (.run _ _ (_ :: _) _ _ :: _) _ _ _; first | refine rv rfl rfl rfl (Val.indexA rfl (fun _ => by omega)) rfl rfl rfl ?_ | refine rg rfl rfl rfl (Val.indexA rfl (fun _ => by omega)) rfl rfl rfl rfl rfl ?_) | (show ∀ _ : Nat, T _ _ _ _ _; intro _))
      refine T_loopX (fun x : Nat × Option Addr × Nat => [(62, .int .i64 x.1)]) (fun x => [row 3 1 x.2.1 x.2.2 x.1 (((gaL c a).take x.1).map (Value.int .i64)), row 3 1 A2 cap2 0 [], blk p9 (srcsL c A B n m ca cb (.slice x.2.1 x.1 x.2.2) (.slice A2 0 cap2)) 75, blk p6 (srcsL ⟨0, 0, 0, 0⟩ none none 0 0 0 0 (.slice none 0 0) (.slice none 0 0)) 75, blk pc c.cells 23]) (fun x => x.1 ≤ n) (fun x => n - x.1) (0, A1, cap1) (Nat.zero_le _) ?_
      rintro ⟨k, A1', cap1'⟩ hk1
      dsimp only at hk1 ⊢
      repeat' (first | refine d1 ?_ | refine dd ?_ | (show ∀ _ : Nat, T _ _ _ _ _; intro _))
      refine T_if rfl (fun h4 => ?_) (fun h4 => ?_)
      · simp only [decide_eq_true_eq] at h4
        obtain ⟨bx, ox, rfl⟩ := ha.base (by omega)
        have hr1 : RdC w bx (ox + (k : Int).toNat * 6) (tkA a k).cells := ha.getT (by omega) (tkA_get (by omega))
        repeat' (first | refine d1 ?_ | refine dd ?_ | (show T _ (.ops _ (_ :: _) :: _) _ _ _; first | refine T_call rfl rfl rfl rfl rfl (fun w hw => gapTop_spec c (tkA a k) (hsa _ (tkA_mem (by omega))) w (hst.cls ‹_›)) ?_ | refine T_callC rfl rfl rfl rfl rfl rfl rfl (fun hg w hw => gapTop_spec c (tkA a k) (hsa _ (tkA_mem (by omega))) w (hst.cls ‹_›)) ?_) | (show T _ (.run _ _ (_ :: _) _ _ :: _) _ _ _; first | refine rc rfl rfl rfl rfl rfl rfl rfl (fun w hw => gapTop_spec c (tkA a k) (hsa _ (tkA_mem (by omega))) w (hst.cls ‹_›)) ?_ | refine rcG rfl rfl rfl rfl rfl rfl rfl rfl rfl (fun hg w hw => gapTop_spec c (tkA a k) (hsa _ (tkA_mem (by omega))) w (hst.cls ‹_›)) ?_) | (show ∀ _ : Nat, T _ _ _ _ _; intro _))
        rw [hga k (by omega)]
        refine T_if rfl (fun h5 => ?_) (fun h5 => ?_)
        · cases h5
        repeat' (first | refine d1 ?_ | refine dd ?_ | (show T _ (.ops _ (_ :: _) :: _) _ _ _; refine T_op (OpT.append rfl rfl rfl rfl rfl rfl rfl rfl rfl rfl (fun w hw => Src.own hw rfl) rfl (by dsimp only; omega) (by omega) (fun A' cap' hA' => ?_))) | (show ∀ _ : Nat, T _ _ _ _ _; intro _))
        refine T_backX (k + 1, A', cap') (Nat.succ_le_of_lt (by omega)) (by dsimp only; omega) (hG := ?_)
        dsimp only
        rw [gaL_take (by omega)]
        exact (Hle.tail _ _).trans (Hle.tail _ _)
      · simp only [decide_eq_false_iff_not] at h4
        obtain rfl : k = n := by omega
        repeat' (first | refine d1 ?_ | refine dd ?_ | (show ∀ _ : Nat, T _ _ _ _ _; intro _))
        refine T_backX (1, (A1', cap1'), (A2, cap2)) (show 1 ≤ 2 by omega) (show 2 - 1 < 2 - 0 by omega) (hG := ?_)
        rw [List.take_of_length_le (by rw [gaL_length]; omega)]
        exact Hle.refl _
    · refine T_le (H' := [row 3 1 A1 cap1 n ((gaL c a).map (Value.int .i64)), row 3 1 A2 cap2 0 [], blk p9 (srcsL c A B n m ca cb (.slice A1 n cap1) (.slice A2 0 cap2)) 75, blk p6 _ 75, blk pc c.cells 23]) (Hle.refl _) ?_
      repeat' (first | refine d1 ?_ | refine dd ?_ | (show T _ (.ops _ (_ :: _) :: _) _ _ _; first | refine T_val rfl (Val.indexA rfl (fun _ => by omega)) rfl rfl rfl ?_ | refine T_valC rfl (Val.indexA rfl (fun _ => by omega)) rfl rfl rfl rfl rfl ?_) | (show T _ (.run _ _ (_ :: _) _ _ :: _) _ _ _; first | refine rv rfl rfl rfl (Val.indexA rfl (fun _ => by omega)) rfl rfl rfl ?_ | refine rg rfl rfl rfl (Val.indexA rfl (fun _ => by omega)) rfl rfl rfl rfl rfl ?_) | (show ∀ _ : Nat, T _ _ _ _ _; intro _))
      refine T_loopX (fun x : Nat × Option Addr × Nat => [(62, .int .i64 x.1)]) (fun x => [row 3 1 A1 cap1 n ((gaL c a).map (Value.int .i64)), row 3 1 x.2.1 x.2.2 x.1 (((gaL c b).take x.1).map (Value.int .i64)), blk p9 (srcsL c A B n m ca cb (.slice A1 n cap1) (.slice x.2.1 x.1 x.2.2)) 75, blk p6 (srcsL ⟨0, 0, 0, 0⟩ none none 0 0 0 0 (.slice none 0 0) (.slice none 0 0)) 75, blk pc c.cells 23]) (fun x => x.1 ≤ m) (fun x => m - x.1) (0, A2, cap2) (Nat.zero_le _) ?_
      rintro ⟨k, A1', cap1'⟩ hk1
      dsimp only at hk1 ⊢
      repeat' (first | refine d1 ?_ | refine dd ?_ | (show ∀ _ : Nat, T _ _ _ _ _; intro _))
      refine T_if rfl (fun h4 => ?_) (fun h4 => ?_)
      · simp only [decide_eq_true_eq] at h4
        obtain ⟨bx, ox, rfl⟩ := hb.base (by omega)
        have hr1 : RdC w bx (ox + (k : Int).toNat * 6) (tkA b k).cells := hb.getT (by omega) (tkA_get (by omega))
        repeat' (first | refine d1 ?_ | refine dd ?_ | (show T _ (.ops _ (_ :: _) :: _) _ _ _; first | refine T_call rfl rfl rfl rfl rfl (fun w hw => gapTop_spec c (tkA b k) (hsb _ (tkA_mem (by omega))) w (hst.cls ‹_›)) ?_ | refine T_callC rfl rfl rfl rfl rfl rfl rfl (fun hg w hw => gapTop_spec c (tkA b k) (hsb _ (tkA_mem (by omega))) w (hst.cls ‹_›)) ?_) | (show T _ (.run _ _ (_ :: _) _ _ :: _) _ _ _; first | refine rc rfl rfl rfl rfl rfl rfl rfl (fun w hw => gapTop_spec c (tkA b k) (hsb _ (tkA_mem (by omega))) w (hst.cls ‹_›)) ?_ | refine rcG rfl rfl rfl rfl rfl rfl rfl rfl rfl (fun hg w hw => gapTop_spec c (tkA b k) (hsb _ (tkA_mem (by omega))) w (hst.cls ‹_›)) ?_) | (show ∀ _ : Nat, T _ _ _ _ _; intro _))
        rw [hgb k (by omega)]
        refine T_if rfl (fun h5 => ?_) (fun h5 => ?_)
        · cases h5
        repeat' (first | refine d1 ?_ | refine dd ?_ | (show T _ (.ops _ (_ :: _) :: _) _ _ _; refine T_op (OpT.append rfl rfl rfl rfl rfl rfl rfl rfl rfl rfl (fun w hw => Src.own hw rfl) rfl (by dsimp only; omega) (by omega) (fun A' cap' hA' => ?_))) | (show ∀ _ : Nat, T _ _ _ _ _; intro _))
        refine T_backX (k + 1, A', cap') (Nat.succ_le_of_lt (by omega)) (by dsimp only; omega) (hG := ?_)
        dsimp only
        rw [gaL_take (by omega)]
        exact (Hle.tail _ _).trans (Hle.tail _ _)
      · simp only [decide_eq_false_iff_not] at h4
        obtain rfl : k = m := by omega
        repeat' (first | refine d1 ?_ | refine dd ?_ | (show ∀ _ : Nat, T _ _ _ _ _; intro _))
        refine T_backX (2, (A1, cap1), (A1', cap1')) (show 2 ≤ 2 by omega) (show 2 - 2 < 2 - 1 by omega) (hG := ?_)
        rw [List.take_of_length_le (by rw [gaL_length]; omega)]
        exact Hle.refl _
  simp only [decide_eq_false_iff_not] at h3
  obtain rfl : i = 2 := by omega
  refine T_le (H' := [row 3 1 A1 cap1 n ((gaL c a).map (Value.int .i64)), row 3 1 A2 cap2 m ((gaL c b).map (Value.int .i64)), blk p9 (srcsL c A B n m ca cb (.slice A1 n cap1) (.slice A2 m cap2)) 75, blk p6 (srcsL ⟨0, 0, 0, 0⟩ none none 0 0 0 0 (.slice none 0 0) (.slice none 0 0)) 75, blk pc c.cells 23]) (Hle.refl _) ?_
  repeat' (first | refine d1 ?_ | refine dd ?_ | (show T _ (.ops _ (_ :: _) :: _) _ _ _; refine T_op (OpT.storeA rfl rfl rfl rfl rfl rfl (by decide) ?_)) | (show ∀ _ : Nat, T _ _ _ _ _; intro _))
  have e : ∀ (l : List Int), (l.map (Value.int .i64)).map D.v = l.map fun z => D.v (.int .i64 z) := fun l => by rw [List.map_map]; rfl
  refine T_retM (vs := [.agg (srcsL c A B n m ca cb (.slice A1 n cap1) (.slice A2 m cap2)).toArray, .int .i64 0]) [dat [.slice A1 n cap1] [intsD (gaL c a)], dat [.slice A2 m cap2] [intsD (gaL c b)]] ⟨⟨p6, _, srcsL c A B n m ca cb (.slice A1 n cap1) (.slice A2 m cap2), rfl, rfl, rfl, rfl, (fun h => by cases h), rfl, rdAll⟩, rfl, trivial⟩ ?_ ⟨(.slice A1 n cap1, .slice A2 m cap2), rfl, rfl⟩
  refine (Hle.sub (K := [row 3 1 A1 cap1 n ((gaL c a).map (Value.int .i64)), row 3 1 A2 cap2 m ((gaL c b).map (Value.int .i64))])).trans ?_
  unfold intsD
  rw [← e, ← e]
  exact (Hle.perm (List.Perm.swap _ _ _)).trans (dat_rowV.trans ((Hle.perm (List.Perm.swap _ _ _)).trans dat_rowV))
/-- What a pair costs. -/
theorem ppair_spec (c : Costs) (A B : Option Addr) (n m ca cb : Nat) (a b : List Tok) (x y : Value) (i k : Nat) (w : World) (hst : Std w) (ha : Src w 6 A n (a.flatMap Tok.cells)) (hn : a.length = n)
    (hb : Src w 6 B m (b.flatMap Tok.cells)) (hm : b.length = m) (hsa : ∀ t ∈ a, t.small) (hsb : ∀ t ∈ b, t.small) (hk : ckV c a b = 0) (hi : i < n) (hkk : k < m) :
    Spec Tryz.prog 79 [.agg (srcsL c A B n m ca cb x y).toArray, .int .i64 (i : Nat), .int .i64 (k : Nat)] w (fun v R => v = .int .i64 ((grdOf c a b).p i k) ∧ R = []) := by
  obtain ⟨hc, ka, kb⟩ := ckV_ok hk
  obtain ⟨ba, oa, rfl⟩ := ha.base (by omega)
  obtain ⟨bb, ob, rfl⟩ := hb.base (by omega)
  have hr1 : RdC w ba (oa + (i : Int).toNat * 6) (tkA a i).cells := ha.getT (by omega) (tkA_get (by omega))
  have hr2 : RdC w bb (ob + (k : Int).toNat * 6) (tkA b k).cells := hb.getT (by omega) (tkA_get (by omega))
  have hp : pairV c (tkA a i) (tkA b k) = (pairC c (tkA a i) (tkA b k), 0) := by unfold pairV; rw [if_pos ⟨hc, ka _ (tkA_mem (by omega)), kb _ (tkA_mem (by omega))⟩]
  refine spec_of sg Tryz.func79 rfl rfl rfl ?_
  refine T_op (OpT.box (cs := srcsL c (some ⟨ba, oa, none⟩) (some ⟨bb, ob, none⟩) n m ca cb x y) rfl rfl rfl rfl rfl rfl rfl (fun pc => ?_))
  repeat' (first | refine d1 ?_ | refine dd ?_ | (show T _ (.ops _ (_ :: _) :: _) _ _ _; first | refine T_val rfl (Val.loadA (vs := c.cells) rfl (fun _ => rdOwn (fun j u hu => by rcases j with _ | _ | _ | _ | j <;> first | exact hu | (simp at hu))) rfl) rfl rfl rfl ?_ | refine T_valC rfl (Val.loadA (vs := c.cells) rfl (fun _ => rdOwn (fun j u hu => by rcases j with _ | _ | _ | _ | j <;> first | exact hu | (simp at hu))) rfl) rfl rfl rfl rfl rfl ?_ | refine T_call rfl rfl rfl rfl rfl (fun w hw => pairTop_spec c (tkA a i) (tkA b k) (hsa _ (tkA_mem (by omega))) (hsb _ (tkA_mem (by omega))) w (hst.cls ‹_›)) ?_ | refine T_callC rfl rfl rfl rfl rfl rfl rfl (fun hg w hw => pairTop_spec c (tkA a i) (tkA b k) (hsa _ (tkA_mem (by omega))) (hsb _ (tkA_mem (by omega))) w (hst.cls ‹_›)) ?_) | (show T _ (.run _ _ (_ :: _) _ _ :: _) _ _ _; first | refine rv rfl rfl rfl (Val.loadA (vs := c.cells) rfl (fun _ => rdOwn (fun j u hu => by rcases j with _ | _ | _ | _ | j <;> first | exact hu | (simp at hu))) rfl) rfl rfl rfl ?_ | refine rg rfl rfl rfl (Val.loadA (vs := c.cells) rfl (fun _ => rdOwn (fun j u hu => by rcases j with _ | _ | _ | _ | j <;> first | exact hu | (simp at hu))) rfl) rfl rfl rfl rfl rfl ?_ | refine rc rfl rfl rfl rfl rfl rfl rfl (fun w hw => pairTop_spec c (tkA a i) (tkA b k) (hsa _ (tkA_mem (by omega))) (hsb _ (tkA_mem (by omega))) w (hst.cls ‹_›)) ?_ | refine rcG rfl rfl rfl rfl rfl rfl rfl rfl rfl (fun hg w hw => pairTop_spec c (tkA a i) (tkA b k) (hsa _ (tkA_mem (by omega))) (hsb _ (tkA_mem (by omega))) w (hst.cls ‹_›)) ?_) | (show ∀ _ : Nat, T _ _ _ _ _; intro _) | (show T _ (.code .ret :: _) _ _ _; refine T_retV [] rfl (Hle.none _) ⟨by rw [hp]; rfl, rfl⟩))
/-- The moves of a place. -/
theorem pmoves_spec (c : Costs) (A B : Option Addr) (n m ca cb : Nat) (a b : List Tok) (x y : Value) (i k : Nat) (w : World) (hst : Std w) (ha : Src w 6 A n (a.flatMap Tok.cells)) (hn : a.length = n) (hnb : n ≤ 1000)
    (hb : Src w 6 B m (b.flatMap Tok.cells)) (hm : b.length = m) (hmb : m ≤ 1000) (hsa : ∀ t ∈ a, t.small) (hsb : ∀ t ∈ b, t.small) (hk : ckV c a b = 0) (hx : Rd (wr w) [x] [intsD (gaL c a)]) (hy : Rd (wr w) [y] [intsD (gaL c b)]) (hi : i ≤ n) (hkk : k ≤ m) :
    Spec Tryz.prog 49 [.agg (srcsL c A B n m ca cb x y).toArray, .int .i64 (i : Nat), .int .i64 (k : Nat)] w (fun v R => ∃ z : Option Addr × Nat, True ∧ v = .slice z.1 (mvs (grdOf c a b) i k).length z.2 ∧ R = [row 85 3 z.1 z.2 (mvs (grdOf c a b) i k).length ((mvs (grdOf c a b) i k).flatMap Mv.cells)]) := by
  obtain ⟨A1, cap1, rfl, -, -, hA1⟩ := hx.row1
  obtain ⟨A2, cap2, rfl, -, -, hA2⟩ := hy.row1
  rw [gaL_length] at hA1 hA2
  refine spec_of sg Tryz.func49 rfl rfl rfl ?_
  refine T_op (OpT.box (cs := srcsL c A B n m ca cb (.slice A1 (gaL c a).length cap1) (.slice A2 (gaL c b).length cap2)) rfl rfl rfl rfl rfl rfl rfl (fun pc => ?_))
  rw [gaL_length, gaL_length, hn, hm]
  refine T_nilrow 85 3 ?_
  by_cases hi2 : i < n
  · by_cases hk2 : k < m
    · have em : mvs (grdOf c a b) i k = _ := mvs_both (by show i < a.length; omega) (by show k < b.length; omega)
      rw [em]
      obtain ⟨g1, o1, rfl, hg1⟩ := hA1 (by omega)
      have hr1 : RdC w g1 (o1 + (i : Int).toNat * 1) [.int .i64 (gapC c (tkA a i))] := RdC.one (by rw [off1]; exact hg1 i _ (gaL_get (by omega)))
      obtain ⟨g2, o2, rfl, hg2⟩ := hA2 (by omega)
      have hr2 : RdC w g2 (o2 + (k : Int).toNat * 1) [.int .i64 (gapC c (tkA b k))] := RdC.one (by rw [off1]; exact hg2 k _ (gaL_get (by omega)))
      repeat' (first | refine d1 ?_ | refine dd ?_ | (show ∀ _ : Nat, T _ _ _ _ _; intro _))
      refine T_if rfl (fun h => ?_) (fun h => by exfalso; simp only [Bool.and_eq_false_iff, decide_eq_false_iff_not] at h; omega)
      repeat' (first | refine d1 ?_ | refine dd ?_ | (show T _ (.ops _ (_ :: _) :: _) _ _ _; first | refine T_call rfl rfl rfl rfl rfl (fun w hw => ppair_spec c A B n m ca cb a b _ _ i k w (hst.cls ‹_›) (rdSrc ha w ‹_›) hn (rdSrc hb w ‹_›) hm hsa hsb hk (by omega) (by omega)) ?_ | refine T_callC rfl rfl rfl rfl rfl rfl rfl (fun hg w hw => ppair_spec c A B n m ca cb a b _ _ i k w (hst.cls ‹_›) (rdSrc ha w ‹_›) hn (rdSrc hb w ‹_›) hm hsa hsb hk (by omega) (by omega)) ?_ | refine T_op (OpT.append rfl rfl rfl rfl rfl rfl rfl rfl rfl rfl (fun w hw => Src.own hw rfl) rfl (by dsimp only; omega) (by omega) (fun A' cap' hA' => ?_))) | (show T _ (.run _ _ (_ :: _) _ _ :: _) _ _ _; first | refine rc rfl rfl rfl rfl rfl rfl rfl (fun w hw => ppair_spec c A B n m ca cb a b _ _ i k w (hst.cls ‹_›) (rdSrc ha w ‹_›) hn (rdSrc hb w ‹_›) hm hsa hsb hk (by omega) (by omega)) ?_ | refine rcG rfl rfl rfl rfl rfl rfl rfl rfl rfl (fun hg w hw => ppair_spec c A B n m ca cb a b _ _ i k w (hst.cls ‹_›) (rdSrc ha w ‹_›) hn (rdSrc hb w ‹_›) hm hsa hsb hk (by omega) (by omega)) ?_) | (show ∀ _ : Nat, T _ _ _ _ _; intro _))
      refine T_if rfl (fun h => ?_) (fun h => by exfalso; simp only [Bool.and_eq_false_iff, decide_eq_false_iff_not] at h; omega)
      repeat' (first | refine d1 ?_ | refine dd ?_ | (show T _ (.ops _ (_ :: _) :: _) _ _ _; first | refine T_call rfl rfl rfl rfl rfl (fun w hw => ppair_spec c A B n m ca cb a b _ _ i k w (hst.cls ‹_›) (rdSrc ha w ‹_›) hn (rdSrc hb w ‹_›) hm hsa hsb hk (by omega) (by omega)) ?_ | refine T_callC rfl rfl rfl rfl rfl rfl rfl (fun hg w hw => ppair_spec c A B n m ca cb a b _ _ i k w (hst.cls ‹_›) (rdSrc ha w ‹_›) hn (rdSrc hb w ‹_›) hm hsa hsb hk (by omega) (by omega)) ?_ | refine T_op (OpT.append rfl rfl rfl rfl rfl rfl rfl rfl rfl rfl (fun w hw => Src.own hw rfl) rfl (by dsimp only; omega) (by omega) (fun A' cap' hA' => ?_))) | (show T _ (.run _ _ (_ :: _) _ _ :: _) _ _ _; first | refine rc rfl rfl rfl rfl rfl rfl rfl (fun w hw => ppair_spec c A B n m ca cb a b _ _ i k w (hst.cls ‹_›) (rdSrc ha w ‹_›) hn (rdSrc hb w ‹_›) hm hsa hsb hk (by omega) (by omega)) ?_ | refine rcG rfl rfl rfl rfl rfl rfl rfl rfl rfl (fun hg w hw => ppair_spec c A B n m ca cb a b _ _ i k w (hst.cls ‹_›) (rdSrc ha w ‹_›) hn (rdSrc hb w ‹_›) hm hsa hsb hk (by omega) (by omega)) ?_) | (show ∀ _ : Nat, T _ _ _ _ _; intro _))
      refine T_if rfl (fun h => ?_) (fun h => by exfalso; simp only [Bool.and_eq_false_iff, decide_eq_false_iff_not] at h; omega)
      repeat' (first | refine d1 ?_ | refine dd ?_ | (show T _ (.ops _ (_ :: _) :: _) _ _ _; first | refine T_call rfl rfl rfl rfl rfl (fun w hw => ppair_spec c A B n m ca cb a b _ _ i k w (hst.cls ‹_›) (rdSrc ha w ‹_›) hn (rdSrc hb w ‹_›) hm hsa hsb hk (by omega) (by omega)) ?_ | refine T_callC rfl rfl rfl rfl rfl rfl rfl (fun hg w hw => ppair_spec c A B n m ca cb a b _ _ i k w (hst.cls ‹_›) (rdSrc ha w ‹_›) hn (rdSrc hb w ‹_›) hm hsa hsb hk (by omega) (by omega)) ?_ | refine T_op (OpT.append rfl rfl rfl rfl rfl rfl rfl rfl rfl rfl (fun w hw => Src.own hw rfl) rfl (by dsimp only; omega) (by omega) (fun A' cap' hA' => ?_))) | (show T _ (.run _ _ (_ :: _) _ _ :: _) _ _ _; first | refine rc rfl rfl rfl rfl rfl rfl rfl (fun w hw => ppair_spec c A B n m ca cb a b _ _ i k w (hst.cls ‹_›) (rdSrc ha w ‹_›) hn (rdSrc hb w ‹_›) hm hsa hsb hk (by omega) (by omega)) ?_ | refine rcG rfl rfl rfl rfl rfl rfl rfl rfl rfl (fun hg w hw => ppair_spec c A B n m ca cb a b _ _ i k w (hst.cls ‹_›) (rdSrc ha w ‹_›) hn (rdSrc hb w ‹_›) hm hsa hsb hk (by omega) (by omega)) ?_) | (show ∀ _ : Nat, T _ _ _ _ _; intro _))
      exact T_retV _ rfl (Hle.nth 3 rfl) ⟨(_, _), trivial, rfl, rfl⟩
    · have em : mvs (grdOf c a b) i k = _ := mvs_fst (by show i < a.length; omega) (by show ¬ k < b.length; omega)
      rw [em]
      obtain ⟨g1, o1, rfl, hg1⟩ := hA1 (by omega)
      have hr1 : RdC w g1 (o1 + (i : Int).toNat * 1) [.int .i64 (gapC c (tkA a i))] := RdC.one (by rw [off1]; exact hg1 i _ (gaL_get (by omega)))
      repeat' (first | refine d1 ?_ | refine dd ?_ | (show ∀ _ : Nat, T _ _ _ _ _; intro _))
      refine T_if rfl (fun h => by exfalso; simp only [Bool.and_eq_true, decide_eq_true_eq] at h; omega) (fun h => ?_)
      repeat' (first | refine d1 ?_ | refine dd ?_ | (show ∀ _ : Nat, T _ _ _ _ _; intro _))
      refine T_if rfl (fun h => ?_) (fun h => by exfalso; simp only [Bool.and_eq_false_iff, decide_eq_false_iff_not] at h; omega)
      repeat' (first | refine d1 ?_ | refine dd ?_ | (show T _ (.ops _ (_ :: _) :: _) _ _ _; first | refine T_call rfl rfl rfl rfl rfl (fun w hw => ppair_spec c A B n m ca cb a b _ _ i k w (hst.cls ‹_›) (rdSrc ha w ‹_›) hn (rdSrc hb w ‹_›) hm hsa hsb hk (by omega) (by omega)) ?_ | refine T_callC rfl rfl rfl rfl rfl rfl rfl (fun hg w hw => ppair_spec c A B n m ca cb a b _ _ i k w (hst.cls ‹_›) (rdSrc ha w ‹_›) hn (rdSrc hb w ‹_›) hm hsa hsb hk (by omega) (by omega)) ?_ | refine T_op (OpT.append rfl rfl rfl rfl rfl rfl rfl rfl rfl rfl (fun w hw => Src.own hw rfl) rfl (by dsimp only; omega) (by omega) (fun A' cap' hA' => ?_))) | (show T _ (.run _ _ (_ :: _) _ _ :: _) _ _ _; first | refine rc rfl rfl rfl rfl rfl rfl rfl (fun w hw => ppair_spec c A B n m ca cb a b _ _ i k w (hst.cls ‹_›) (rdSrc ha w ‹_›) hn (rdSrc hb w ‹_›) hm hsa hsb hk (by omega) (by omega)) ?_ | refine rcG rfl rfl rfl rfl rfl rfl rfl rfl rfl (fun hg w hw => ppair_spec c A B n m ca cb a b _ _ i k w (hst.cls ‹_›) (rdSrc ha w ‹_›) hn (rdSrc hb w ‹_›) hm hsa hsb hk (by omega) (by omega)) ?_) | (show ∀ _ : Nat, T _ _ _ _ _; intro _))
      refine T_if rfl (fun h => by exfalso; simp only [Bool.and_eq_true, decide_eq_true_eq] at h; omega) (fun h => ?_)
      repeat' (first | refine d1 ?_ | refine dd ?_ | (show ∀ _ : Nat, T _ _ _ _ _; intro _))
      exact T_retV _ rfl (Hle.nth 1 rfl) ⟨(_, _), trivial, rfl, rfl⟩
  · by_cases hk2 : k < m
    · have em : mvs (grdOf c a b) i k = _ := mvs_snd (by show ¬ i < a.length; omega) (by show k < b.length; omega)
      rw [em]
      obtain ⟨g2, o2, rfl, hg2⟩ := hA2 (by omega)
      have hr2 : RdC w g2 (o2 + (k : Int).toNat * 1) [.int .i64 (gapC c (tkA b k))] := RdC.one (by rw [off1]; exact hg2 k _ (gaL_get (by omega)))
      repeat' (first | refine d1 ?_ | refine dd ?_ | (show ∀ _ : Nat, T _ _ _ _ _; intro _))
      refine T_if rfl (fun h => by exfalso; simp only [Bool.and_eq_true, decide_eq_true_eq] at h; omega) (fun h => ?_)
      repeat' (first | refine d1 ?_ | refine dd ?_ | (show ∀ _ : Nat, T _ _ _ _ _; intro _))
      refine T_if rfl (fun h => by exfalso; simp only [Bool.and_eq_true, decide_eq_true_eq] at h; omega) (fun h => ?_)
      repeat' (first | refine d1 ?_ | refine dd ?_ | (show ∀ _ : Nat, T _ _ _ _ _; intro _))
      refine T_if rfl (fun h => ?_) (fun h => by exfalso; simp only [Bool.and_eq_false_iff, decide_eq_false_iff_not] at h; omega)
      repeat' (first | refine d1 ?_ | refine dd ?_ | (show T _ (.ops _ (_ :: _) :: _) _ _ _; first | refine T_call rfl rfl rfl rfl rfl (fun w hw => ppair_spec c A B n m ca cb a b _ _ i k w (hst.cls ‹_›) (rdSrc ha w ‹_›) hn (rdSrc hb w ‹_›) hm hsa hsb hk (by omega) (by omega)) ?_ | refine T_callC rfl rfl rfl rfl rfl rfl rfl (fun hg w hw => ppair_spec c A B n m ca cb a b _ _ i k w (hst.cls ‹_›) (rdSrc ha w ‹_›) hn (rdSrc hb w ‹_›) hm hsa hsb hk (by omega) (by omega)) ?_ | refine T_op (OpT.append rfl rfl rfl rfl rfl rfl rfl rfl rfl rfl (fun w hw => Src.own hw rfl) rfl (by dsimp only; omega) (by omega) (fun A' cap' hA' => ?_))) | (show T _ (.run _ _ (_ :: _) _ _ :: _) _ _ _; first | refine rc rfl rfl rfl rfl rfl rfl rfl (fun w hw => ppair_spec c A B n m ca cb a b _ _ i k w (hst.cls ‹_›) (rdSrc ha w ‹_›) hn (rdSrc hb w ‹_›) hm hsa hsb hk (by omega) (by omega)) ?_ | refine rcG rfl rfl rfl rfl rfl rfl rfl rfl rfl (fun hg w hw => ppair_spec c A B n m ca cb a b _ _ i k w (hst.cls ‹_›) (rdSrc ha w ‹_›) hn (rdSrc hb w ‹_›) hm hsa hsb hk (by omega) (by omega)) ?_) | (show ∀ _ : Nat, T _ _ _ _ _; intro _))
      exact T_retV _ rfl (Hle.nth 1 rfl) ⟨(_, _), trivial, rfl, rfl⟩
    · have em : mvs (grdOf c a b) i k = _ := mvs_none (by show ¬ i < a.length; omega) (by show ¬ k < b.length; omega)
      rw [em]
      repeat' (first | refine d1 ?_ | refine dd ?_ | (show ∀ _ : Nat, T _ _ _ _ _; intro _))
      refine T_if rfl (fun h => by exfalso; simp only [Bool.and_eq_true, decide_eq_true_eq] at h; omega) (fun h => ?_)
      repeat' (first | refine d1 ?_ | refine dd ?_ | (show ∀ _ : Nat, T _ _ _ _ _; intro _))
      refine T_if rfl (fun h => by exfalso; simp only [Bool.and_eq_true, decide_eq_true_eq] at h; omega) (fun h => ?_)
      repeat' (first | refine d1 ?_ | refine dd ?_ | (show ∀ _ : Nat, T _ _ _ _ _; intro _))
      refine T_if rfl (fun h => by exfalso; simp only [Bool.and_eq_true, decide_eq_true_eq] at h; omega) (fun h => ?_)
      repeat' (first | refine d1 ?_ | refine dd ?_ | (show ∀ _ : Nat, T _ _ _ _ _; intro _))
      exact T_retV _ rfl (Hle.nth 0 rfl) ⟨(_, _), trivial, rfl, rfl⟩
end Go.Proofs.YtmcgificpaeipaaGreatDoor
/- Walks: pairs of sources: places, the tables (the program). -/
namespace Go.Proofs.YtmcgificpaeipaaGreatDoor
open Go.RowKit Go.Shelf Go.Proofs
set_option maxRecDepth 100000
set_option maxHeartbeats 1000000

/-- A number of a table. -/
theorem gridAt_spec (b o n cap b' o' n' cap' : Nat) (i k : Nat) (z : Int) (w : World) (h1 : RdC w b (o + i) [.slice (some ⟨b', o', none⟩) n' cap']) (h2 : RdC w b' (o' + k) [.int .i64 z]) (hi : i < n) (hk : k < n') :
    Spec Tryz.prog 47 [.slice (some ⟨b, o, none⟩) n cap, .int .i64 (i : Nat), .int .i64 (k : Nat)] w (fun v R => v = .int .i64 z ∧ R = []) := by
  refine spec_of sg Tryz.func47 rfl rfl rfl ?_
  rw [← off1] at h1 h2
  repeat' (first | refine d1 ?_ | refine dd ?_ | (show ∀ _ : Nat, T _ _ _ _ _; intro _) | (show T _ (.code .ret :: _) _ _ _; refine T_retV [] rfl (Hle.none _) ⟨rfl, rfl⟩))
theorem places_spec (s : List Value) (c : Costs) (A B : Option Addr) (n m ca cb : Nat) (x y : Value) (hs : s = srcsL c A B n m ca cb x y) (w : World) : Spec Tryz.prog 64 [.agg (srcsL c A B n m ca cb x y).toArray] w (fun v R => ∃ g : Nat, True ∧ v = .func (.func 82) #[] #[.pointer (some ⟨g, 0, none⟩)] ∧ R = [blk g s 75]) := by
  subst hs
  refine spec_of sg Tryz.func64 rfl rfl rfl ?_
  refine T_op (OpT.box (cs := srcsL c A B n m ca cb x y) rfl rfl rfl rfl rfl rfl rfl (fun g => ?_))
  repeat' (first | refine d1 ?_ | refine dd ?_ | (show ∀ _ : Nat, T _ _ _ _ _; intro _) | (show T _ (.code .ret :: _) _ _ _; refine T_retV _ rfl (Hle.refl _) ⟨g, trivial, rfl, rfl⟩))
def placeVs (n m : Nat) : List (List Value) := (placesL n m).map fun p => [.int .i64 (p.1 : Nat), .int .i64 (p.2 : Nat)]
theorem placeVs_at {n m j : Nat} {y : List Value} (h : (placeVs n m)[j]? = some y) : ∃ i k, (placesL n m)[j]? = some (i, k) ∧ y = [.int .i64 (i : Nat), .int .i64 (k : Nat)] := by
  unfold placeVs at h
  rw [List.getElem?_map] at h
  cases hp : (placesL n m)[j]? with
  | none => rw [hp] at h; cases h
  | some p => rw [hp] at h; exact ⟨p.1, p.2, rfl, (Option.some.inj h).symm⟩
theorem places_iter (c : Costs) (A B : Option Addr) (n m ca cb : Nat) (x y : Value) (b : Nat) (hn : n ≤ 1000) (hm : m ≤ 1000) : Iter Tryz.prog 82 [] [.pointer (some ⟨b, 0, none⟩)] [blk b (srcsL c A B n m ca cb x y) 75] (placeVs n m) := by
  refine iter_of sg Tryz.func82 rfl rfl rfl ?_
  intro w0 l GQ X Hj hY h0
  show T _ _ _ _ (blk b (srcsL c A B n m ca cb x y) 75 :: Hj)
  repeat' (first | refine d1 ?_ | refine dd ?_ | (show ∀ _ : Nat, T _ _ _ _ _; intro _))
  refine T_loopX (fun s : Nat × List HA => [(3, .int .i64 ((n : Int) - s.1))]) (fun s => blk b (srcsL c A B n m ca cb x y) 75 :: s.2) (fun s => s.1 ≤ n + 1 ∧ GQ (s.1 * (m + 1)) s.2) (fun s => n + 1 - s.1) (0, Hj) ⟨Nat.zero_le _, by rw [Nat.zero_mul]; exact h0⟩ ?_ (hE := ⟨by rw [show (n : Int) - ((0 : Nat) : Int) = n by omega]; rfl, trivial⟩)
  rintro ⟨p, H1⟩ ⟨hp, hG⟩
  dsimp only at hp hG ⊢
  repeat' (first | refine d1 ?_ | refine dd ?_ | (show ∀ _ : Nat, T _ _ _ _ _; intro _))
  refine T_if rfl (fun h => ?_) (fun h => ?_)
  · simp only [decide_eq_true_eq] at h
    repeat' (first | refine d1 ?_ | refine dd ?_ | (show ∀ _ : Nat, T _ _ _ _ _; intro _))
    refine T_loopX (fun s : Nat × List HA => [(4, .int .i64 ((m : Int) - s.1))]) (fun s => blk b (srcsL c A B n m ca cb x y) 75 :: s.2) (fun s => s.1 ≤ m + 1 ∧ GQ (p * (m + 1) + s.1) s.2) (fun s => m + 1 - s.1) (0, H1) ⟨Nat.zero_le _, hG⟩ ?_ (hE := ⟨by rw [show (m : Int) - ((0 : Nat) : Int) = m by omega]; rfl, trivial⟩)
    rintro ⟨q, H2⟩ ⟨hq, hG2⟩
    dsimp only at hq hG2 ⊢
    repeat' (first | refine d1 ?_ | refine dd ?_ | (show ∀ _ : Nat, T _ _ _ _ _; intro _))
    refine T_if rfl (fun h1 => ?_) (fun h1 => ?_)
    · simp only [decide_eq_true_eq] at h1
      have hy : (placeVs n m)[p * (m + 1) + q]? = some [.int .i64 ((n : Int) - p), .int .i64 ((m : Int) - q)] := by
        unfold placeVs; rw [List.getElem?_map, placesL_get (by omega) (by omega)]
        simp only [Option.map_some]
        rw [show ((n - p : Nat) : Int) = (n : Int) - p by omega, show ((m - q : Nat) : Int) = (m : Int) - q by omega]
      repeat' (first | refine d1 ?_ | refine dd ?_ | (show ∀ _ : Nat, T _ _ _ _ _; intro _))
      refine T_yield (K := [blk b (srcsL c A B n m ca cb x y) 75]) hY rfl rfl rfl rfl hy hG2 (Hle.comm [_] H2) (fun J => Hle.comm J [_]) (fun H3 hG3 => ?_) (fun Y hX => ?_)
      · show T _ _ _ _ (blk b (srcsL c A B n m ca cb x y) 75 :: H3)
        repeat' (first | refine d1 ?_ | refine dd ?_ | (show ∀ _ : Nat, T _ _ _ _ _; intro _) | (show T _ (.code (.cond _ _ _) :: _) _ _ _; refine T_if rfl (fun h => ?_) (fun h => ?_)))
        · exact absurd h (by decide)
        · exact T_backX (q + 1, H3) ⟨by dsimp only; omega, hG3⟩ (by dsimp only; omega) (hE := ⟨by dsimp only; rw [show (m : Int) - ((q + 1 : Nat) : Int) = (m : Int) - q - 1 by omega]; rfl, trivial⟩)
      · show T _ _ _ _ (blk b (srcsL c A B n m ca cb x y) 75 :: Y)
        repeat' (first | refine d1 ?_ | refine dd ?_ | (show ∀ _ : Nat, T _ _ _ _ _; intro _) | (show T _ (.code (.cond _ _ _) :: _) _ _ _; refine T_if rfl (fun h => ?_) (fun h => ?_)) | (show T _ (.code .ret :: _) _ _ _; refine T_istop rfl Y hX (Hle.refl _)))
        exact absurd h (by decide)
    · simp only [decide_eq_false_iff_not] at h1
      have hqm : q = m + 1 := by omega
      subst hqm
      repeat' (first | refine d1 ?_ | refine dd ?_ | (show ∀ _ : Nat, T _ _ _ _ _; intro _))
      refine T_backX (p + 1, H2) ⟨by dsimp only; omega, ?_⟩ (by dsimp only; omega) (hE := ⟨by dsimp only; rw [show (n : Int) - ((p + 1 : Nat) : Int) = (n : Int) - p - 1 by omega]; rfl, trivial⟩)
      dsimp only
      rw [Nat.succ_mul]
      exact hG2
  · simp only [decide_eq_false_iff_not] at h
    have hpn : p = n + 1 := by omega
    subst hpn
    repeat' (first | refine d1 ?_ | refine dd ?_ | (show ∀ _ : Nat, T _ _ _ _ _; intro _))
    refine T_ifall rfl H1 ?_ (Hle.refl _)
    unfold placeVs; rw [List.length_map, placesL_len]; exact hG
theorem tab_rows {n m : Nat} {f : Nat → Nat → Int} {L : List (Nat × List Value)} (hL : L.length = n + 1) (hR : RowsOk f (m + 1) L) : (L.map fun x => D.s 1 ((x.2.take (m + 1)).map .v)) = (tabR n m f).map intsD := by
  apply List.ext_getElem?
  intro i
  rw [List.getElem?_map, List.getElem?_map]
  by_cases hi : i < n + 1
  · obtain ⟨x, hx⟩ : ∃ x, L[i]? = some x := ⟨_, List.getElem?_eq_getElem (by omega)⟩
    rw [hx, tabR_get (by omega)]
    simp only [Option.map_some]
    rw [hR _ _ hx]
    congr 2
    unfold valV
    rw [List.take_of_length_le (by simp), List.map_map, List.map_map]
    rfl
  · rw [List.getElem?_eq_none (by omega), List.getElem?_eq_none (by rw [tabR_length]; omega)]; rfl
theorem RowsOk.ext {f g : Nat → Nat → Int} {n tot : Nat} {L : List (Nat × List Value)} (hL : L.length = n) (hR : RowsOk f tot L) (h : ∀ i k, i < n → k < tot → f i k = g i k) : RowsOk g tot L := by
  intro i x hx
  rw [hR i x hx]
  exact valV_ext fun k hk => h i k (by have := (List.getElem?_eq_some_iff.1 hx).1; omega) hk
theorem slv_set {m k g : Nat} {cs cs' : List Value} {M : List (Nat × List Value)} (h : M[k]? = some (g, cs)) : (M.set k (g, cs')).map (slv m) = M.map (slv m) := by
  have e0 : ∀ L : List (Nat × List Value), L.map (slv m) = (L.map Prod.fst).map fun g => Value.slice (some ⟨g, 0, none⟩) (m + 1) (m + 1) := fun L => by rw [List.map_map]; rfl
  rw [e0, e0 M, fst_set h]
theorem mvs_len (G : Grd) (i k : Nat) : (mvs G i k).length ≤ 3 := by
  unfold mvs
  (repeat' split) <;> simp
theorem mv_to {c : Costs} {a b : List Tok} {n m i k jj : Nat} {v : Mv} (hG : GOk (grdOf c a b) 1000) (hn : a.length = n) (hm : b.length = m) (hi : i ≤ n) (hk : k ≤ m) (h : (mvs (grdOf c a b) i k)[jj]? = some v) :
    i + v.fst ≤ n ∧ k + v.snd ≤ m ∧ (i < i + v.fst ∨ (i = i + v.fst ∧ k < k + v.snd)) ∧ (0 ≤ v.cost ∧ v.cost ≤ 1000) ∧ v.fst ≤ 1 ∧ v.snd ≤ 1 := by
  have q1 := hG.p i k
  have q2 := hG.g i
  have q3 := hG.h k
  have e1 : (grdOf c a b).n = n := hn
  have e2 : (grdOf c a b).m = m := hm
  rcases mvs_to (List.mem_of_getElem? h) with ⟨h1, h2, h3, h4, h5⟩ | ⟨h1, h2, h3, h5⟩ | ⟨h1, h2, h3, h5⟩
  · rw [e1] at h3; rw [e2] at h4; omega
  · rw [e1] at h3; omega
  · rw [e2] at h3; omega
theorem rst_bd2 {c : Costs} {a b : List Tok} {n m : Nat} (hG : GOk (grdOf c a b) 1000) (hn : a.length = n) (hm : b.length = m) (hnb : n ≤ 1000) (hmb : m ≤ 1000) (i k : Nat) : 0 ≤ rst (grdOf c a b) i k ∧ rst (grdOf c a b) i k ≤ 2000000 := by
  have h := rst_bd hG i k
  have e1 : (grdOf c a b).n = n := hn
  have e2 : (grdOf c a b).m = m := hm
  rw [e1, e2] at h
  omega
/-- Both tables, read. -/
theorem tables_hle {n m b1 b2 : Nat} {f g : Nat → Nat → Int} {M1 M2 : List (Nat × List Value)} (hnb : n ≤ 1000) (hmb : m ≤ 1000) (hM1 : M1.length = n + 1) (hM2 : M2.length = n + 1) (hR1 : RowsOk f (m + 1) M1) (hR2 : RowsOk g (m + 1) M2) :
    Hle [blk b1 (M1.map (slv m)) 33, blks 3 M1, blk b2 (M2.map (slv m)) 33, blks 3 M2] [dat [.slice (some ⟨b1, 0, none⟩) (n + 1) (n + 1)] [rowsD (tabR n m f)], dat [.slice (some ⟨b2, 0, none⟩) (n + 1) (n + 1)] [rowsD (tabR n m g)]] := by
  have key : ∀ {b : Nat} {M : List (Nat × List Value)} {f : Nat → Nat → Int} {H : List HA}, M.length = n + 1 → RowsOk f (m + 1) M → Hle (blk b (M.map (slv m)) 33 :: blks 3 M :: H) (dat [.slice (some ⟨b, 0, none⟩) (n + 1) (n + 1)] [rowsD (tabR n m f)] :: H) := fun {b M f H} hM hR => by
    have q1 : ∀ x ∈ M, m + 1 ≤ x.2.length := fun x hx => by obtain ⟨i, hi, e⟩ := List.getElem_of_mem hx; rw [hR i x (by rw [List.getElem?_eq_getElem hi, e]), valV_length]; omega
    refine (Hle.perm (List.Perm.swap _ _ _)).trans ?_
    refine (dat_blks (L := M) (m + 1) (m + 1) (by omega) (by omega) q1).trans ?_
    refine (Hle.perm (List.Perm.swap _ _ _)).trans ?_
    rw [tab_rows hM hR]
    exact dat_blk (sz := 1) (n := n + 1) (by rw [List.length_map, hM]; omega) (by omega)
  refine (key hM1 hR1).trans ?_
  refine (Hle.perm (List.perm_append_comm (l₁ := [_]) (l₂ := [_, _]))).trans ?_
  exact (key hM2 hR2).trans (Hle.perm (List.Perm.swap _ _ _))
theorem rows_snoc0 {L : List (Nat × List Value)} {g tot : Nat} (h : RowsOk (fun _ _ => 0) tot L) : RowsOk (fun _ _ => 0) tot (L ++ [(g, List.replicate tot (.int .i64 0))]) := by
  intro i x hx
  rcases Nat.lt_or_ge i L.length with h1 | h1
  · rw [List.getElem?_append_left h1] at hx; exact h i x hx
  · rw [List.getElem?_append_right h1] at hx
    have h2 : i - L.length = 0 := by have := (List.getElem?_eq_some_iff.1 hx).1; simp at this; omega
    rw [h2] at hx
    simp at hx
    subst hx
    exact valV_replicate _
theorem pgrid_spec (c : Costs) (A B : Option Addr) (n m ca cb : Nat) (a b : List Tok) (x y : Value) (w : World) (hst : Std w) (ha : Src w 6 A n (a.flatMap Tok.cells)) (hn : a.length = n) (hnb : n ≤ 1000)
    (hb : Src w 6 B m (b.flatMap Tok.cells)) (hm : b.length = m) (hmb : m ≤ 1000) (hsa : ∀ t ∈ a, t.small) (hsb : ∀ t ∈ b, t.small) (hk : ckV c a b = 0) (hx : Rd (wr w) [x] [intsD (gaL c a)]) (hy : Rd (wr w) [y] [intsD (gaL c b)]) :
    Spec Tryz.prog 46 [.agg (srcsL c A B n m ca cb x y).toArray] w (fun v R => ∃ z : Value × Value, v = .tuple #[z.1, z.2] ∧ R = [dat [z.1] [rowsD (tabR n m (rst (grdOf c a b)))], dat [z.2] [rowsD (tabR n m (wys (grdOf c a b)))]]) := by
  obtain ⟨hc, ka, kb⟩ := ckV_ok hk
  have hG := grdOf_ok hc a b
  refine spec_of sg Tryz.func46 rfl rfl rfl ?_
  refine T_op (OpT.box (cs := srcsL c A B n m ca cb x y) rfl rfl rfl rfl rfl rfl rfl (fun pc => ?_))
  repeat' (first | refine d1 ?_ | (show ∀ _ : Nat, T _ _ _ _ _; intro _))
  refine T_cutX 1 [4, 5] (fun s : Nat × Nat × Nat × Nat => [(4, .pointer (some ⟨s.1, 0, none⟩)), (5, .pointer (some ⟨s.2.1, 0, none⟩))]) (fun s => [blk s.1 [.slice (some ⟨s.2.2.1, 0, none⟩) (n + 1) (n + 1)] 78, blk s.2.1 [.slice (some ⟨s.2.2.2, 0, none⟩) (n + 1) (n + 1)] 78, blk s.2.2.1 (List.replicate (n + 1) (.slice none 0 0)) 33, blk s.2.2.2 (List.replicate (n + 1) (.slice none 0 0)) 33, blk pc (srcsL c A B n m ca cb x y) 75]) (fun _ => True) ?_ ?_
  · refine dw0 1000 [blk pc (srcsL c A B n m ca cb x y) 75] ?_
    repeat' (first | (show T _ (.draw _ _ _ _ _ :: _) _ _ _; first | refine dw1 ?_ | refine dwb rfl (by decide +kernel) ?_) | (show AllL _ []; exact True.intro) | (show AllL _ (_ :: _); refine ⟨?_, ?_⟩) | (show OpT _ _ _ _ _ _ _; first | refine dwx ?_) | (show ∀ _ : Nat, T _ _ _ _ _; intro _) | (show T _ (.mark _ :: _) _ _ _; exact T_meetX (_, _, _, _) trivial (hG := by exact Hle.srt)))
  rintro ⟨p4, p5, b1, b2⟩ _
  dsimp only
  repeat' (first | refine d1 ?_ | (show ∀ _ : Nat, T _ _ _ _ _; intro _))
  refine T_nilblks 3 ?_
  refine T_nilblks 3 ?_
  refine T_loopX (fun L : List (Nat × List Value) × List (Nat × List Value) => [(27, .int .i64 L.1.length)]) (fun L => [blks 3 L.1, blks 3 L.2, blk p4 [.slice (some ⟨b1, 0, none⟩) (n + 1) (n + 1)] 78, blk p5 [.slice (some ⟨b2, 0, none⟩) (n + 1) (n + 1)] 78, blk b1 (L.1.map (slv m) ++ List.replicate (n + 1 - L.1.length) (.slice none 0 0)) 33, blk b2 (L.2.map (slv m) ++ List.replicate (n + 1 - L.1.length) (.slice none 0 0)) 33, blk pc (srcsL c A B n m ca cb x y) 75])
    (fun L => L.1.length ≤ n + 1 ∧ L.2.length = L.1.length ∧ RowsOk (fun _ _ => 0) (m + 1) L.1 ∧ RowsOk (fun _ _ => 0) (m + 1) L.2) (fun L => n + 1 - L.1.length) ([], []) ⟨Nat.zero_le _, rfl, fun i x h => by simp at h, fun i x h => by simp at h⟩ ?_
  rintro ⟨L1, L2⟩ ⟨hl1, hl2, hR1, hR2⟩
  dsimp only at hl1 hl2 hR1 hR2 ⊢
  repeat' (first | refine d1 ?_ | refine dd ?_ | (show ∀ _ : Nat, T _ _ _ _ _; intro _))
  refine T_if rfl (fun h => ?_) (fun h => ?_)
  · simp only [decide_eq_true_eq] at h
    have hlt : L1.length < n + 1 := by omega
    repeat' (first | refine d1 ?_ | (show ∀ _ : Nat, T _ _ _ _ _; intro _))
    refine T_cutX 1 [] (fun _ : Nat × Nat => []) (fun g => [blk b1 ((L1.map (slv m) ++ List.replicate (n + 1 - L1.length) (Value.slice none 0 0)).set (0 + (L1.length : Int).toNat * 1) (Value.slice (some ⟨g.1, 0, none⟩) (m + 1) (m + 1))) 33, blk b2 ((L2.map (slv m) ++ List.replicate (n + 1 - L1.length) (Value.slice none 0 0)).set (0 + (L1.length : Int).toNat * 1) (Value.slice (some ⟨g.2, 0, none⟩) (m + 1) (m + 1))) 33, blk g.1 (List.replicate (m + 1) (.int .i64 0)) 3, blks 3 L1, blk g.2 (List.replicate (m + 1) (.int .i64 0)) 3, blks 3 L2, blk p4 [.slice (some ⟨b1, 0, none⟩) (n + 1) (n + 1)] 78, blk p5 [.slice (some ⟨b2, 0, none⟩) (n + 1) (n + 1)] 78, blk pc (srcsL c A B n m ca cb x y) 75]) (fun _ => True) ?_ ?_
    · refine dw0 1000 [blk p4 [.slice (some ⟨b1, 0, none⟩) (n + 1) (n + 1)] 78, blk p5 [.slice (some ⟨b2, 0, none⟩) (n + 1) (n + 1)] 78, blk pc (srcsL c A B n m ca cb x y) 75] ?_
      repeat' (first | (show T _ (.draw _ _ _ _ _ :: _) _ _ _; first | refine dw1 ?_ | refine dwb rfl (by decide +kernel) ?_) | (show AllL _ []; exact True.intro) | (show AllL _ (_ :: _); refine ⟨?_, ?_⟩) | (show OpT _ _ _ _ _ _ _; first | refine dwx ?_ | refine OpT.store rfl rfl rfl rfl (by simp; omega) ⟨fun _ => (by first | exact Hle.none _ | exact Hle.sub | exact absurd ‹_› (by decide +kernel)), ?_⟩) | (show ∀ _ : Nat, T _ _ _ _ _; intro _) | (show T _ (.mark _ :: _) _ _ _; exact T_meetX (_, _) trivial (hG := by exact Hle.srt)))
    rintro ⟨g1, g2⟩ _
    dsimp only
    repeat' (first | refine d1 ?_ | refine dd ?_ | (show ∀ _ : Nat, T _ _ _ _ _; intro _))
    refine T_backX (L1 ++ [(g1, List.replicate (m + 1) (.int .i64 0))], L2 ++ [(g2, List.replicate (m + 1) (.int .i64 0))]) ⟨by dsimp only; rw [List.length_append]; exact Nat.succ_le_of_lt hlt, by simp [hl2], rows_snoc0 hR1, rows_snoc0 hR2⟩ (by dsimp only; rw [List.length_append]; simp; omega) (hE := ⟨by dsimp only; rw [List.length_append]; rfl, trivial⟩) (hG := ?_)
    dsimp only
    rw [show 0 + (L1.length : Int).toNat * 1 = L1.length by omega, set_boundary _ _ _ _ _ (by omega) (by simp), set_boundary _ _ _ _ _ (by omega) (by simp [hl2])]
    have e : ∀ (L : List (Nat × List Value)) (g : Nat), L.map (slv m) ++ [Value.slice (some ⟨g, 0, none⟩) (m + 1) (m + 1)] ++ List.replicate (n + 1 - L1.length - 1) (Value.slice none 0 0) = (L ++ [(g, List.replicate (m + 1) (Value.int .i64 0))]).map (slv m) ++ List.replicate (n + 1 - (L1 ++ [(g1, List.replicate (m + 1) (Value.int .i64 0))]).length) (Value.slice none 0 0) := fun L g => by
      rw [List.map_append, List.length_append, show n + 1 - L1.length - 1 = n + 1 - (L1.length + 1) by omega]; rfl
    rw [e, e]
    refine (Hle.srt (K := [blk g1 (List.replicate (m + 1) (Value.int .i64 0)) 3, blks 3 L1, blk g2 (List.replicate (m + 1) (Value.int .i64 0)) 3, blks 3 L2, blk p4 [.slice (some ⟨b1, 0, none⟩) (n + 1) (n + 1)] 78, blk p5 [.slice (some ⟨b2, 0, none⟩) (n + 1) (n + 1)] 78, blk b1 ((L1 ++ [(g1, (List.replicate (m + 1) (Value.int .i64 0)))]).map (slv m) ++ List.replicate (n + 1 - (L1 ++ [(g1, (List.replicate (m + 1) (Value.int .i64 0)))]).length) (Value.slice none 0 0)) 33, blk b2 ((L2 ++ [(g2, (List.replicate (m + 1) (Value.int .i64 0)))]).map (slv m) ++ List.replicate (n + 1 - (L1 ++ [(g1, (List.replicate (m + 1) (Value.int .i64 0)))]).length) (Value.slice none 0 0)) 33, blk pc (srcsL c A B n m ca cb x y) 75])).trans (blks_snoc.trans ?_)
    refine (Hle.srt (K := [blk g2 (List.replicate (m + 1) (Value.int .i64 0)) 3, blks 3 L2, blks 3 (L1 ++ [(g1, (List.replicate (m + 1) (Value.int .i64 0)))]), blk p4 [.slice (some ⟨b1, 0, none⟩) (n + 1) (n + 1)] 78, blk p5 [.slice (some ⟨b2, 0, none⟩) (n + 1) (n + 1)] 78, blk b1 ((L1 ++ [(g1, (List.replicate (m + 1) (Value.int .i64 0)))]).map (slv m) ++ List.replicate (n + 1 - (L1 ++ [(g1, (List.replicate (m + 1) (Value.int .i64 0)))]).length) (Value.slice none 0 0)) 33, blk b2 ((L2 ++ [(g2, (List.replicate (m + 1) (Value.int .i64 0)))]).map (slv m) ++ List.replicate (n + 1 - (L1 ++ [(g1, (List.replicate (m + 1) (Value.int .i64 0)))]).length) (Value.slice none 0 0)) 33, blk pc (srcsL c A B n m ca cb x y) 75])).trans (blks_snoc.trans Hle.srt)
  simp only [decide_eq_false_iff_not] at h
  have hLn : L1.length = n + 1 := by omega
  have er : ∀ L : List (Nat × List Value), L.map (slv m) ++ List.replicate (n + 1 - L1.length) (Value.slice none 0 0) = L.map (slv m) := fun L => by rw [hLn, Nat.sub_self]; simp
  rw [er, er]
  have hz : ∀ (f : Nat → Nat → Int) {L : List (Nat × List Value)}, RowsOk (fun _ _ => 0) (m + 1) L → RowsOk (soFar n m 0 f) (m + 1) L := fun f L hR i x hx => by rw [hR i x hx, soFar_zero]
  repeat' (first | refine d1 ?_ | refine dd ?_ | (show T _ (.ops _ (_ :: _) :: _) _ _ _; refine T_callE rfl rfl rfl rfl rfl (fun w hw => places_spec _ c A B n m ca cb x y rfl w) (fun g _ => ?_)) | (show ∀ _ : Nat, T _ _ _ _ _; intro _))
  rename_i p7 _
  refine T_range (places_iter c A B n m ca cb x y g hnb hmb) rfl (fun j y hy => by obtain ⟨i, k, _, rfl⟩ := placeVs_at hy; exact ⟨rfl, rfl⟩)
    (fun j H => ∃ M1 M2, M1.length = n + 1 ∧ M2.length = n + 1 ∧ RowsOk (soFar n m j (rst (grdOf c a b))) (m + 1) M1 ∧ RowsOk (soFar n m j (wys (grdOf c a b))) (m + 1) M2 ∧ H = [blks 3 M1, blks 3 M2, blk p4 [.slice (some ⟨b1, 0, none⟩) (n + 1) (n + 1)] 78, blk p5 [.slice (some ⟨b2, 0, none⟩) (n + 1) (n + 1)] 78, blk b1 (M1.map (slv m)) 33, blk b2 (M2.map (slv m)) 33, blk p7 [.func (.func 47) #[.slice (some ⟨b1, 0, none⟩) (n + 1) (n + 1)] #[]] 81, blk pc (srcsL c A B n m ca cb x y) 75]) (fun _ => False) (fun _ _ => False)
    [blks 3 L1, blks 3 L2, blk p4 [.slice (some ⟨b1, 0, none⟩) (n + 1) (n + 1)] 78, blk p5 [.slice (some ⟨b2, 0, none⟩) (n + 1) (n + 1)] 78, blk b1 (L1.map (slv m)) 33, blk b2 (L2.map (slv m)) 33, blk p7 [.func (.func 47) #[.slice (some ⟨b1, 0, none⟩) (n + 1) (n + 1)] #[]] 81, blk pc (srcsL c A B n m ca cb x y) 75] ⟨L1, L2, hLn, by omega, hz _ hR1, hz _ hR2, rfl⟩ Hle.srt ?_ ?_ (fun _ _ h => h.elim) (fun _ _ _ h => h.elim)
  · rintro Lp r j yv Hj K hr hyv ⟨M1, M2, hM1, hM2, hS1, hS2, rfl⟩
    obtain ⟨i, k, hp, rfl⟩ := placeVs_at hyv
    obtain ⟨p, q, hpn, hqm, -, hip, hkq⟩ := placesL_at hp
    have hin : i ≤ n := by omega
    have hkm : k ≤ m := by omega
    show T _ _ ((52, .int .i64 (k : Nat)) :: (51, .int .i64 (i : Nat)) :: _) _ (lrec Lp r :: blks 3 M1 :: blks 3 M2 :: blk p4 [.slice (some ⟨b1, 0, none⟩) (n + 1) (n + 1)] 78 :: blk p5 [.slice (some ⟨b2, 0, none⟩) (n + 1) (n + 1)] 78 :: blk b1 (M1.map (slv m)) 33 :: blk b2 (M2.map (slv m)) 33 :: blk p7 [.func (.func 47) #[.slice (some ⟨b1, 0, none⟩) (n + 1) (n + 1)] #[]] 81 :: blk pc (srcsL c A B n m ca cb x y) 75 :: K)
    repeat' (first | refine d1 ?_ | refine dd ?_ | (show T _ (.ops _ (_ :: _) :: _) _ _ _; refine T_callE rfl rfl rfl rfl rfl (fun w hw => pmoves_spec c A B n m ca cb a b x y i k w (hst.cls ‹_›) (rdSrc ha w ‹_›) hn hnb (rdSrc hb w ‹_›) hm hmb hsa hsb hk (hx.old ‹_›) (hy.old ‹_›) hin hkm) (fun z _ => ?_)) | (show ∀ _ : Nat, T _ _ _ _ _; intro _) | (show T _ _ _ _ _; refine T_begin hr rfl ?_))
    obtain ⟨Az, capz⟩ := z
    dsimp only
    repeat' (first | refine d1 ?_ | refine dd ?_ | (show ∀ _ : Nat, T _ _ _ _ _; intro _))
    refine T_loopX (fun jj : Nat => [(58, .int .i64 jj), (10, .int .i64 (accW (grdOf c a b) i k jj).1), (11, .int .i64 (accW (grdOf c a b) i k jj).2)]) (fun _ => row 85 3 Az capz (mvs (grdOf c a b) i k).length ((mvs (grdOf c a b) i k).flatMap Mv.cells) :: lrec Lp (busy r) :: blks 3 M1 :: blks 3 M2 :: blk p4 [.slice (some ⟨b1, 0, none⟩) (n + 1) (n + 1)] 78 :: blk p5 [.slice (some ⟨b2, 0, none⟩) (n + 1) (n + 1)] 78 :: blk b1 (M1.map (slv m)) 33 :: blk b2 (M2.map (slv m)) 33 :: blk p7 [.func (.func 47) #[.slice (some ⟨b1, 0, none⟩) (n + 1) (n + 1)] #[]] 81 :: blk pc (srcsL c A B n m ca cb x y) 75 :: K) (fun jj => jj ≤ (mvs (grdOf c a b) i k).length) (fun jj => (mvs (grdOf c a b) i k).length - jj) 0 (Nat.zero_le _) ?_
    intro jj hjj
    have hm3 := mvs_len (grdOf c a b) i k
    repeat' (first | refine d1 ?_ | refine dd ?_ | (show ∀ _ : Nat, T _ _ _ _ _; intro _))
    refine T_if rfl (fun h => ?_) (fun h => ?_)
    · simp only [decide_eq_true_eq] at h
      have hjl : jj < (mvs (grdOf c a b) i k).length := by omega
      obtain ⟨v, hv⟩ : ∃ v, (mvs (grdOf c a b) i k)[jj]? = some v := ⟨_, List.getElem?_eq_getElem hjl⟩
      refine T_rowpos (A := Az) (by omega) (fun gz e => ?_)
      subst e
      have hb1 := mv_to hG hn hm hin hkm hv
      obtain ⟨⟨g1, c1⟩, hV1⟩ : ∃ x, M1[i + v.fst]? = some x := ⟨_, List.getElem?_eq_getElem (by omega)⟩
      obtain ⟨⟨g2, c2⟩, hV2⟩ : ∃ x, M2[i + v.fst]? = some x := ⟨_, List.getElem?_eq_getElem (by omega)⟩
      have hc1 : c1 = valV (soFar n m j (rst (grdOf c a b)) (i + v.fst)) (m + 1) := hS1 _ _ hV1
      have hc2 : c2 = valV (soFar n m j (wys (grdOf c a b)) (i + v.fst)) (m + 1) := hS2 _ _ hV2
      have er := soFar_get hp (rst (grdOf c a b)) (i' := i + v.fst) (k' := k + v.snd) (by omega) (by omega) (by omega)
      have ew := soFar_get hp (wys (grdOf c a b)) (i' := i + v.fst) (k' := k + v.snd) (by omega) (by omega) (by omega)
      have hrb := rst_bd2 hG hn hm hnb hmb (i + v.fst) (k + v.snd)
      have hwb := wys_bd (grdOf c a b) (i + v.fst) (k + v.snd)
      have hab := accW_bd (grdOf c a b) i k jj
      unfold big at hwb hab
      have es : accW (grdOf c a b) i k (jj + 1) = stepW (grdOf c a b) i k (accW (grdOf c a b) i k jj) jj v := accW_step hv
      repeat' (first | refine d1 ?_ | refine dd ?_ | (show T _ (.ops _ (_ :: _) :: _) _ _ _; first | refine T_val rfl (Val.loadA (vs := v.cells) rfl (fun _ => rdRow (A := some ⟨gz, 0, none⟩) (by omega) (fun r u hu => by rw [show 0 + (jj : Int).toNat * 3 = jj * 3 by omega]; exact flat_get Mv.cells 3 (fun _ => rfl) hv r u hu)) rfl) rfl rfl rfl ?_ | refine T_valC rfl (Val.loadA (vs := v.cells) rfl (fun _ => rdRow (A := some ⟨gz, 0, none⟩) (by omega) (fun r u hu => by rw [show 0 + (jj : Int).toNat * 3 = jj * 3 by omega]; exact flat_get Mv.cells 3 (fun _ => rfl) hv r u hu)) rfl) rfl rfl rfl rfl rfl ?_ | refine T_call rfl rfl rfl rfl rfl (fun w hw => gridAt_spec b1 0 (n + 1) (n + 1) g1 0 (m + 1) (m + 1) (i + v.fst) (k + v.snd) (rst (grdOf c a b) (i + v.fst) (k + v.snd)) w (rdOwn1 (b := b1) (by rw [Nat.zero_add, List.getElem?_map, hV1]; rfl) w hw) (rdM hV1 (get1 (by rw [hc1, ← er]; exact vget (k + v.snd) (by omega) (by omega))) w hw) (by omega) (by omega)) ?_ | refine T_callC rfl rfl rfl rfl rfl rfl rfl (fun hg w hw => gridAt_spec b1 0 (n + 1) (n + 1) g1 0 (m + 1) (m + 1) (i + v.fst) (k + v.snd) (rst (grdOf c a b) (i + v.fst) (k + v.snd)) w (rdOwn1 (b := b1) (by rw [Nat.zero_add, List.getElem?_map, hV1]; rfl) w hw) (rdM hV1 (get1 (by rw [hc1, ← er]; exact vget (k + v.snd) (by omega) (by omega))) w hw) (by omega) (by omega)) ?_) | (show T _ (.run _ _ (_ :: _) _ _ :: _) _ _ _; first | refine rv rfl rfl rfl (Val.loadA (vs := v.cells) rfl (fun _ => rdRow (A := some ⟨gz, 0, none⟩) (by omega) (fun r u hu => by rw [show 0 + (jj : Int).toNat * 3 = jj * 3 by omega]; exact flat_get Mv.cells 3 (fun _ => rfl) hv r u hu)) rfl) rfl rfl rfl ?_ | refine rg rfl rfl rfl (Val.loadA (vs := v.cells) rfl (fun _ => rdRow (A := some ⟨gz, 0, none⟩) (by omega) (fun r u hu => by rw [show 0 + (jj : Int).toNat * 3 = jj * 3 by omega]; exact flat_get Mv.cells 3 (fun _ => rfl) hv r u hu)) rfl) rfl rfl rfl rfl rfl ?_ | refine rc rfl rfl rfl rfl rfl rfl rfl (fun w hw => gridAt_spec b1 0 (n + 1) (n + 1) g1 0 (m + 1) (m + 1) (i + v.fst) (k + v.snd) (rst (grdOf c a b) (i + v.fst) (k + v.snd)) w (rdOwn1 (b := b1) (by rw [Nat.zero_add, List.getElem?_map, hV1]; rfl) w hw) (rdM hV1 (get1 (by rw [hc1, ← er]; exact vget (k + v.snd) (by omega) (by omega))) w hw) (by omega) (by omega)) ?_ | refine rcG rfl rfl rfl rfl rfl rfl rfl rfl rfl (fun hg w hw => gridAt_spec b1 0 (n + 1) (n + 1) g1 0 (m + 1) (m + 1) (i + v.fst) (k + v.snd) (rst (grdOf c a b) (i + v.fst) (k + v.snd)) w (rdOwn1 (b := b1) (by rw [Nat.zero_add, List.getElem?_map, hV1]; rfl) w hw) (rdM hV1 (get1 (by rw [hc1, ← er]; exact vget (k + v.snd) (by omega) (by omega))) w hw) (by omega) (by omega)) ?_) | (show ∀ _ : Nat, T _ _ _ _ _; intro _))
      refine T_if rfl (fun h2 => ?_) (fun h2 => ?_)
      · simp only [Bool.or_eq_true, decide_eq_true_eq] at h2
        have es2 : accW (grdOf c a b) i k (jj + 1) = (via (grdOf c a b) i k v, wys (grdOf c a b) (i + v.fst) (k + v.snd)) := by
          rw [es]; unfold stepW; rw [if_pos]
          rcases h2 with h2 | h2
          · exact .inl (by omega)
          · exact .inr h2
        repeat' (first | refine d1 ?_ | refine dd ?_ | (show T _ (.ops _ (_ :: _) :: _) _ _ _; first | refine T_call rfl rfl rfl rfl rfl (fun w hw => gridAt_spec b2 0 (n + 1) (n + 1) g2 0 (m + 1) (m + 1) (i + v.fst) (k + v.snd) (wys (grdOf c a b) (i + v.fst) (k + v.snd)) w (rdOwn1 (b := b2) (by rw [Nat.zero_add, List.getElem?_map, hV2]; rfl) w hw) (rdM hV2 (get1 (by rw [hc2, ← ew]; exact vget (k + v.snd) (by omega) (by omega))) w hw) (by omega) (by omega)) ?_ | refine T_callC rfl rfl rfl rfl rfl rfl rfl (fun hg w hw => gridAt_spec b2 0 (n + 1) (n + 1) g2 0 (m + 1) (m + 1) (i + v.fst) (k + v.snd) (wys (grdOf c a b) (i + v.fst) (k + v.snd)) w (rdOwn1 (b := b2) (by rw [Nat.zero_add, List.getElem?_map, hV2]; rfl) w hw) (rdM hV2 (get1 (by rw [hc2, ← ew]; exact vget (k + v.snd) (by omega) (by omega))) w hw) (by omega) (by omega)) ?_) | (show T _ (.run _ _ (_ :: _) _ _ :: _) _ _ _; first | refine rc rfl rfl rfl rfl rfl rfl rfl (fun w hw => gridAt_spec b2 0 (n + 1) (n + 1) g2 0 (m + 1) (m + 1) (i + v.fst) (k + v.snd) (wys (grdOf c a b) (i + v.fst) (k + v.snd)) w (rdOwn1 (b := b2) (by rw [Nat.zero_add, List.getElem?_map, hV2]; rfl) w hw) (rdM hV2 (get1 (by rw [hc2, ← ew]; exact vget (k + v.snd) (by omega) (by omega))) w hw) (by omega) (by omega)) ?_ | refine rcG rfl rfl rfl rfl rfl rfl rfl rfl rfl (fun hg w hw => gridAt_spec b2 0 (n + 1) (n + 1) g2 0 (m + 1) (m + 1) (i + v.fst) (k + v.snd) (wys (grdOf c a b) (i + v.fst) (k + v.snd)) w (rdOwn1 (b := b2) (by rw [Nat.zero_add, List.getElem?_map, hV2]; rfl) w hw) (rdM hV2 (get1 (by rw [hc2, ← ew]; exact vget (k + v.snd) (by omega) (by omega))) w hw) (by omega) (by omega)) ?_) | (show ∀ _ : Nat, T _ _ _ _ _; intro _))
        exact T_backX (jj + 1) (Nat.succ_le_of_lt hjl) (by omega) (hE := ⟨rfl, by rw [es2]; rfl, by rw [es2]; rfl, trivial⟩) (hG := Hle.tail _ _)
      · simp only [Bool.or_eq_false_iff, decide_eq_false_iff_not] at h2
        have hn2 : ¬ (jj = 0 ∨ via (grdOf c a b) i k v < (accW (grdOf c a b) i k jj).1) := fun hh => hh.elim (fun h3 => h2.1 (by omega)) (fun h3 => h2.2 h3)
        repeat' (first | refine d1 ?_ | refine dd ?_ | (show ∀ _ : Nat, T _ _ _ _ _; intro _))
        refine T_if rfl (fun h3 => ?_) (fun h3 => ?_)
        · simp only [decide_eq_true_eq] at h3
          have es2 : accW (grdOf c a b) i k (jj + 1) = ((accW (grdOf c a b) i k jj).1, min ((accW (grdOf c a b) i k jj).2 + wys (grdOf c a b) (i + v.fst) (k + v.snd)) big) := by
            rw [es]; unfold stepW; rw [if_neg hn2, if_pos (show via (grdOf c a b) i k v = (accW (grdOf c a b) i k jj).1 from h3)]
          repeat' (first | refine d1 ?_ | refine dd ?_ | (show T _ (.ops _ (_ :: _) :: _) _ _ _; first | refine T_call rfl rfl rfl rfl rfl (fun w hw => gridAt_spec b2 0 (n + 1) (n + 1) g2 0 (m + 1) (m + 1) (i + v.fst) (k + v.snd) (wys (grdOf c a b) (i + v.fst) (k + v.snd)) w (rdOwn1 (b := b2) (by rw [Nat.zero_add, List.getElem?_map, hV2]; rfl) w hw) (rdM hV2 (get1 (by rw [hc2, ← ew]; exact vget (k + v.snd) (by omega) (by omega))) w hw) (by omega) (by omega)) ?_ | refine T_callC rfl rfl rfl rfl rfl rfl rfl (fun hg w hw => gridAt_spec b2 0 (n + 1) (n + 1) g2 0 (m + 1) (m + 1) (i + v.fst) (k + v.snd) (wys (grdOf c a b) (i + v.fst) (k + v.snd)) w (rdOwn1 (b := b2) (by rw [Nat.zero_add, List.getElem?_map, hV2]; rfl) w hw) (rdM hV2 (get1 (by rw [hc2, ← ew]; exact vget (k + v.snd) (by omega) (by omega))) w hw) (by omega) (by omega)) ?_) | (show T _ (.run _ _ (_ :: _) _ _ :: _) _ _ _; first | refine rc rfl rfl rfl rfl rfl rfl rfl (fun w hw => gridAt_spec b2 0 (n + 1) (n + 1) g2 0 (m + 1) (m + 1) (i + v.fst) (k + v.snd) (wys (grdOf c a b) (i + v.fst) (k + v.snd)) w (rdOwn1 (b := b2) (by rw [Nat.zero_add, List.getElem?_map, hV2]; rfl) w hw) (rdM hV2 (get1 (by rw [hc2, ← ew]; exact vget (k + v.snd) (by omega) (by omega))) w hw) (by omega) (by omega)) ?_ | refine rcG rfl rfl rfl rfl rfl rfl rfl rfl rfl (fun hg w hw => gridAt_spec b2 0 (n + 1) (n + 1) g2 0 (m + 1) (m + 1) (i + v.fst) (k + v.snd) (wys (grdOf c a b) (i + v.fst) (k + v.snd)) w (rdOwn1 (b := b2) (by rw [Nat.zero_add, List.getElem?_map, hV2]; rfl) w hw) (rdM hV2 (get1 (by rw [hc2, ← ew]; exact vget (k + v.snd) (by omega) (by omega))) w hw) (by omega) (by omega)) ?_) | (show ∀ _ : Nat, T _ _ _ _ _; intro _))
          exact T_backX (jj + 1) (Nat.succ_le_of_lt hjl) (by omega) (hE := ⟨rfl, by rw [es2]; rfl, by rw [es2]; rfl, trivial⟩) (hG := Hle.tail _ _)
        · simp only [decide_eq_false_iff_not] at h3
          have es2 : accW (grdOf c a b) i k (jj + 1) = accW (grdOf c a b) i k jj := by
            rw [es]; unfold stepW; rw [if_neg hn2, if_neg (show ¬ via (grdOf c a b) i k v = (accW (grdOf c a b) i k jj).1 from h3)]
          repeat' (first | refine d1 ?_ | refine dd ?_ | (show ∀ _ : Nat, T _ _ _ _ _; intro _))
          exact T_backX (jj + 1) (Nat.succ_le_of_lt hjl) (by omega) (hE := ⟨rfl, by rw [es2]; rfl, by rw [es2]; rfl, trivial⟩) (hG := Hle.tail _ _)
    · simp only [decide_eq_false_iff_not] at h
      obtain rfl : jj = (mvs (grdOf c a b) i k).length := by omega
      rw [accW_all]
      obtain ⟨⟨g1, c1⟩, hV1⟩ : ∃ x, M1[i]? = some x := ⟨_, List.getElem?_eq_getElem (by omega)⟩
      obtain ⟨⟨g2, c2⟩, hV2⟩ : ∃ x, M2[i]? = some x := ⟨_, List.getElem?_eq_getElem (by omega)⟩
      have hl1 : c1.length = m + 1 := by rw [show c1 = _ from hS1 _ _ hV1, valV_length]
      have hl2 : c2.length = m + 1 := by rw [show c2 = _ from hS2 _ _ hV2, valV_length]
      repeat' (first | refine d1 ?_ | (show ∀ _ : Nat, T _ _ _ _ _; intro _))
      refine dw0 1000 [blk p4 [.slice (some ⟨b1, 0, none⟩) (n + 1) (n + 1)] 78, blk p5 [.slice (some ⟨b2, 0, none⟩) (n + 1) (n + 1)] 78, blk b1 (M1.map (slv m)) 33, blk b2 (M2.map (slv m)) 33] ?_
      repeat' (first | (show T _ (.draw _ _ _ _ _ :: _) _ _ _; first | refine dw1 ?_ | refine dwv rfl (by decide +kernel) rfl rfl (Val.load rfl (fun hg => rdOwn1 (u := .slice (some ⟨g1, 0, none⟩) (m + 1) (m + 1)) (b := b1) (by rw [show 0 + (i : Int).toNat * 1 = i by omega, List.getElem?_map, hV1]; rfl))) rfl rfl rfl ?_ | refine dwg rfl (by decide +kernel) rfl rfl (Val.load rfl (fun hg => rdOwn1 (u := .slice (some ⟨g1, 0, none⟩) (m + 1) (m + 1)) (b := b1) (by rw [show 0 + (i : Int).toNat * 1 = i by omega, List.getElem?_map, hV1]; rfl))) rfl rfl rfl rfl rfl ?_ | refine dwv rfl (by decide +kernel) rfl rfl (Val.load rfl (fun hg => rdOwn1 (u := .slice (some ⟨g2, 0, none⟩) (m + 1) (m + 1)) (b := b2) (by rw [show 0 + (i : Int).toNat * 1 = i by omega, List.getElem?_map, hV2]; rfl))) rfl rfl rfl ?_ | refine dwg rfl (by decide +kernel) rfl rfl (Val.load rfl (fun hg => rdOwn1 (u := .slice (some ⟨g2, 0, none⟩) (m + 1) (m + 1)) (b := b2) (by rw [show 0 + (i : Int).toNat * 1 = i by omega, List.getElem?_map, hV2]; rfl))) rfl rfl rfl rfl rfl ?_ | refine dwb rfl (by decide +kernel) ?_) | (show AllL _ []; exact True.intro) | (show AllL _ (_ :: _); refine ⟨?_, ?_⟩) | (show OpT _ _ _ _ _ _ _; first | refine dwx ?_ | refine OpT.ofVal rfl (Val.load rfl (fun hg => rdOwn1 (u := .slice (some ⟨g1, 0, none⟩) (m + 1) (m + 1)) (b := b1) (by rw [show 0 + (i : Int).toNat * 1 = i by omega, List.getElem?_map, hV1]; rfl))) rfl rfl rfl ⟨fun _ => (by first | exact Hle.none _ | exact Hle.sub | exact absurd ‹_› (by decide +kernel)), ?_⟩ | refine OpT.ofVal rfl (Val.load rfl (fun hg => rdOwn1 (u := .slice (some ⟨g2, 0, none⟩) (m + 1) (m + 1)) (b := b2) (by rw [show 0 + (i : Int).toNat * 1 = i by omega, List.getElem?_map, hV2]; rfl))) rfl rfl rfl ⟨fun _ => (by first | exact Hle.none _ | exact Hle.sub | exact absurd ‹_› (by decide +kernel)), ?_⟩ | refine OpT.storeM rfl rfl rfl hV1 rfl (by rw [hl1]; omega) ⟨fun _ => (by first | exact Hle.none _ | exact Hle.sub | exact absurd ‹_› (by decide +kernel)), ?_⟩ | refine OpT.storeM (hf := @FocusMW.tail _ _ _ _ _ (@FocusMW.tail _ _ _ _ _ (@FocusMW.tail _ _ _ _ _ (FocusMW.head _ _ _)))) rfl rfl rfl hV2 rfl (by rw [hl2]; omega) ⟨fun _ => (by first | exact Hle.none _ | exact Hle.sub | exact absurd ‹_› (by decide +kernel)), ?_⟩) | (show ∀ _ : Nat, T _ _ _ _ _; intro _))
      rw [show 0 + (k : Int).toNat * 1 = k by omega]
      refine T_next [blks 3 (M1.set i (g1, c1.set k (.int .i64 (rst (grdOf c a b) i k)))), blks 3 (M2.set i (g2, c2.set k (.int .i64 (wys (grdOf c a b) i k)))), blk p4 [.slice (some ⟨b1, 0, none⟩) (n + 1) (n + 1)] 78, blk p5 [.slice (some ⟨b2, 0, none⟩) (n + 1) (n + 1)] 78, blk b1 ((M1.set i (g1, c1.set k (.int .i64 (rst (grdOf c a b) i k)))).map (slv m)) 33, blk b2 ((M2.set i (g2, c2.set k (.int .i64 (wys (grdOf c a b) i k)))).map (slv m)) 33, blk p7 [.func (.func 47) #[.slice (some ⟨b1, 0, none⟩) (n + 1) (n + 1)] #[]] 81, blk pc (srcsL c A B n m ca cb x y) 75] ⟨_, _, by rw [List.length_set]; exact hM1, by rw [List.length_set]; exact hM2, rows_put hS1 hV1 (soFar_step hp _), rows_put hS2 hV2 (soFar_step hp _), rfl⟩ ?_
      rw [slv_set hV1, slv_set hV2]
      exact Hle.tail _ _
  · rintro D Hn ⟨M1, M2, hM1, hM2, hS1, hS2, rfl⟩
    have hR1' : RowsOk (rst (grdOf c a b)) (m + 1) M1 := hS1.ext hM1 fun i k hi hk => soFar_all (by unfold placeVs; rw [List.length_map]; exact Nat.le_refl _) _ (by omega) (by omega)
    have hR2' : RowsOk (wys (grdOf c a b)) (m + 1) M2 := hS2.ext hM2 fun i k hi hk => soFar_all (by unfold placeVs; rw [List.length_map]; exact Nat.le_refl _) _ (by omega) (by omega)
    show T _ _ _ _ (dfr D :: blk g _ 75 :: blks 3 M1 :: blks 3 M2 :: blk p4 [.slice (some ⟨b1, 0, none⟩) (n + 1) (n + 1)] 78 :: blk p5 [.slice (some ⟨b2, 0, none⟩) (n + 1) (n + 1)] 78 :: blk b1 (M1.map (slv m)) 33 :: blk b2 (M2.map (slv m)) 33 :: blk p7 [.func (.func 47) #[.slice (some ⟨b1, 0, none⟩) (n + 1) (n + 1)] #[]] 81 :: blk pc (srcsL c A B n m ca cb x y) 75 :: [])
    have hle : Hle [blks 3 M1, blks 3 M2, blk p4 [.slice (some ⟨b1, 0, none⟩) (n + 1) (n + 1)] 78, blk p5 [.slice (some ⟨b2, 0, none⟩) (n + 1) (n + 1)] 78, blk b1 (M1.map (slv m)) 33, blk b2 (M2.map (slv m)) 33, blk p7 [.func (.func 47) #[.slice (some ⟨b1, 0, none⟩) (n + 1) (n + 1)] #[]] 81, blk pc (srcsL c A B n m ca cb x y) 75] [dat [.slice (some ⟨b1, 0, none⟩) (n + 1) (n + 1)] [rowsD (tabR n m (rst (grdOf c a b)))], dat [.slice (some ⟨b2, 0, none⟩) (n + 1) (n + 1)] [rowsD (tabR n m (wys (grdOf c a b)))]] := (Hle.srt (K := [blk b1 (M1.map (slv m)) 33, blks 3 M1, blk b2 (M2.map (slv m)) 33, blks 3 M2])).trans (tables_hle hnb hmb hM1 hM2 hR1' hR2')
    repeat' (first | refine d1 ?_ | refine dd ?_ | (show ∀ _ : Nat, T _ _ _ _ _; intro _) | (show T _ (.code .ret :: _) _ _ _; refine T_retD (Hle.refl _) (rf_V (vs := [.slice (some ⟨b1, 0, none⟩) (n + 1) (n + 1), .slice (some ⟨b2, 0, none⟩) (n + 1) (n + 1)]) _ rfl ((Hle.tail _ _).trans hle) ⟨(_, _), rfl, rfl⟩)))
end Go.Proofs.YtmcgificpaeipaaGreatDoor
/- Walks: pairs of sources: distances, tables, numbers of ways (the program). -/
namespace Go.Proofs.YtmcgificpaeipaaGreatDoor
open Go.RowKit Go.Shelf Go.Proofs
set_option maxRecDepth 100000
set_option maxHeartbeats 1000000

/-- What the laws know of two sources. -/
structure Two (w : World) (A B : Option Addr) (n m : Nat) (a b : List Tok) : Prop where
  hst : Std w
  ha : Src w 6 A n (a.flatMap Tok.cells)
  hn : a.length = n
  hnb : n ≤ 1000
  hb : Src w 6 B m (b.flatMap Tok.cells)
  hm : b.length = m
  hmb : m ≤ 1000
  hsa : ∀ t ∈ a, t.small
  hsb : ∀ t ∈ b, t.small
theorem Two.cls {w0 w : World} {H : List HA} {A B : Option Addr} {n m : Nat} {a b : List Tok} (h : Two w0 A B n m a b) (hw : Cls w0 w H) : Two w A B n m a b :=
  ⟨h.hst.cls hw, ⟨h.ha.1, fun q => ⟨(h.ha.2 q).1, (h.ha.2 q).2.old hw⟩⟩, h.hn, h.hnb, ⟨h.hb.1, fun q => ⟨(h.hb.2 q).1, (h.hb.2 q).2.old hw⟩⟩, h.hm, h.hmb, h.hsa, h.hsb⟩
theorem Two.bad {w : World} {A B : Option Addr} {n m : Nat} {a b : List Tok} (h : Two w A B n m a b) (c : Costs) (ca cb : Nat) (hk : ckV c a b ≠ 0) :
    Spec Tryz.prog 45 [c.val, .slice A n ca, .slice B m cb] w (fun v R => v = .tuple #[.agg (srcsL ⟨0, 0, 0, 0⟩ none none 0 0 0 0 (.slice none 0 0) (.slice none 0 0)).toArray, .int .i64 1] ∧ R = []) :=
  pcheck_bad c A B n m ca cb a b w h.hst h.ha h.hn h.hnb h.hb h.hm h.hmb h.hsa h.hsb hk
theorem Two.ok {w : World} {A B : Option Addr} {n m : Nat} {a b : List Tok} (h : Two w A B n m a b) (c : Costs) (ca cb : Nat) (hk : ckV c a b = 0) :
    Spec Tryz.prog 45 [c.val, .slice A n ca, .slice B m cb] w (fun v R => ∃ x : Value × Value, v = .tuple #[.agg (srcsL c A B n m ca cb x.1 x.2).toArray, .int .i64 0] ∧ R = [dat [x.1] [intsD (gaL c a)], dat [x.2] [intsD (gaL c b)]]) :=
  pcheck_ok c A B n m ca cb a b w h.hst h.ha h.hn h.hnb h.hb h.hm h.hmb h.hsa h.hsb hk
theorem Two.grid {w : World} {A B : Option Addr} {n m : Nat} {a b : List Tok} (h : Two w A B n m a b) (c : Costs) (ca cb : Nat) (x y : Value) (hk : ckV c a b = 0) (hx : Rd (wr w) [x] [intsD (gaL c a)]) (hy : Rd (wr w) [y] [intsD (gaL c b)]) :
    Spec Tryz.prog 46 [.agg (srcsL c A B n m ca cb x y).toArray] w (fun v R => ∃ z : Value × Value, v = .tuple #[z.1, z.2] ∧ R = [dat [z.1] [rowsD (tabR n m (rst (grdOf c a b)))], dat [z.2] [rowsD (tabR n m (wys (grdOf c a b)))]]) :=
  pgrid_spec c A B n m ca cb a b x y w h.hst h.ha h.hn h.hnb h.hb h.hm h.hmb h.hsa h.hsb hk hx hy
/-- What Distance returns; what Count returns. -/
def distV (c : Costs) (a b : List Tok) : Int × Int := if ckV c a b = 0 then (rst (grdOf c a b) 0 0, 0) else (0, 1)
def countV (c : Costs) (a b : List Tok) : Int × Int := if ckV c a b = 0 then (wys (grdOf c a b) 0 0, 0) else (0, 1)
def tableV (c : Costs) (a b : List Tok) : List (List Int) × Int := if ckV c a b = 0 then (tabR a.length b.length (rst (grdOf c a b)), 0) else ([], 1)
theorem T_open2 {C : Cx} {k : List It} {env : Env} {ec : EnvC} {H : List HA} {vs us : List Value} {ds es : List D} (h : ∀ p q, Rd (fr p) vs ds → Rd (fr q) us es → T C k env ec (fz p :: fz q :: H)) : T C k env ec (dat vs ds :: dat us es :: H) := by
  refine T_open fun p hp => ?_
  refine T_le (H' := dat us es :: fz p :: H) (Hle.perm (List.Perm.swap _ _ _)) ?_
  refine T_open fun q hq => ?_
  exact T_le (Hle.perm (List.Perm.swap _ _ _)) (h p q hp hq)
/-- A number of a table that nothing turns any more. -/
theorem gridAt_rd {w : World} {x : Value} {n m i k : Nat} {f : Nat → Nat → Int} (h : Rd (wr w) [x] [rowsD (tabR n m f)]) (hi : i ≤ n) (hk : k ≤ m) :
    Spec Tryz.prog 47 [x, .int .i64 (i : Nat), .int .i64 (k : Nat)] w (fun v R => v = .int .i64 (f i k) ∧ R = []) := by
  obtain ⟨A, cap, cs, rfl, -, -, -, hA, hrows⟩ := h.tab
  rw [tabR_length] at hA ⊢
  obtain ⟨b, o, rfl, hb⟩ := hA (by omega)
  obtain ⟨A', cap', hcs, -, -, hA'⟩ := hrows.tabRow (tabR_get hi)
  rw [List.length_map, List.length_range] at hcs hA'
  obtain ⟨b', o', rfl, hb'⟩ := hA' (by omega)
  exact gridAt_spec b o _ cap b' o' _ cap' i k _ w (RdC.one (hb i _ hcs)) (RdC.one (hb' k _ (tabR_cell hk))) (by omega) (by omega)
theorem distancePrg_spec (c : Costs) (A B : Option Addr) (n m ca cb : Nat) (a b : List Tok) (w : World) (h2 : Two w A B n m a b) :
    Spec Tryz.prog 13 [c.val, .slice A n ca, .slice B m cb] w (fun v R => v = .tuple #[.int .i64 (distV c a b).1, .int .i64 (distV c a b).2] ∧ R = []) := by
  refine spec_of sg Tryz.func13 rfl rfl rfl ?_
  refine T_op (OpT.box (cs := c.cells) rfl rfl rfl rfl rfl rfl rfl (fun pc => ?_))
  by_cases hk : ckV c a b = 0
  · have e : distV c a b = (rst (grdOf c a b) 0 0, 0) := if_pos hk
    rw [e]
    repeat' (first | refine d1 ?_ | refine dd ?_ | (show T _ (.ops _ (_ :: _) :: _) _ _ _; refine T_op (OpT.call rfl rfl rfl rfl rfl (fun w hw => (h2.cls hw).ok c ca cb hk) ?_)) | (show ∀ _ : Nat, T _ _ _ _ _; intro _))
    rintro v R ⟨⟨x, y⟩, rfl, rfl⟩
    dsimp only
    refine T_le (H' := [dat [x] [intsD (gaL c a)], dat [y] [intsD (gaL c b)], blk pc c.cells 23]) (Hle.refl _) ?_
    refine T_open2 fun p q hp hq => ?_
    obtain ⟨A1, cap1, rfl, -, -, -⟩ := hp.row1
    obtain ⟨A2, cap2, rfl, -, -, -⟩ := hq.row1
    repeat' (first | refine d1 ?_ | refine dd ?_ | (show T _ (.ops _ (_ :: _) :: _) _ _ _; refine T_op (OpT.storeA rfl rfl rfl rfl rfl rfl (by decide) ?_)) | (show ∀ _ : Nat, T _ _ _ _ _; intro _))
    rename_i p8
    refine T_le (H' := [blk p8 (srcsL c A B n m ca cb (.slice A1 (gaL c a).length cap1) (.slice A2 (gaL c b).length cap2)) 75, fz p, fz q, blk pc c.cells 23]) (Hle.refl _) ?_
    refine T_if rfl (fun h => ?_) (fun h => ?_)
    · cases h
    repeat' (first | refine d1 ?_ | refine dd ?_ | (show T _ (.ops _ (_ :: _) :: _) _ _ _; refine T_op (OpT.call rfl rfl rfl rfl rfl (fun w hw => (h2.cls hw).grid c ca cb _ _ hk (hp.own hw) (hq.own hw)) ?_)) | (show ∀ _ : Nat, T _ _ _ _ _; intro _))
    rintro v R ⟨⟨s, t⟩, rfl, rfl⟩
    dsimp only [List.cons_append, List.nil_append]
    refine T_le (H' := [dat [s] [rowsD (tabR n m (rst (grdOf c a b)))], dat [t] [rowsD (tabR n m (wys (grdOf c a b)))]]) Hle.srt ?_
    refine T_open2 fun p' q' hp' hq' => ?_
    repeat' (first | refine d1 ?_ | refine dd ?_ | (show T _ (.ops _ (_ :: _) :: _) _ _ _; first | refine T_call rfl rfl rfl rfl rfl (fun w hw => gridAt_rd (i := 0) (k := 0) (hp'.own hw) (by omega) (by omega)) ?_ | refine T_callC rfl rfl rfl rfl rfl rfl rfl (fun hg w hw => gridAt_rd (i := 0) (k := 0) (hp'.own hw) (by omega) (by omega)) ?_) | (show T _ (.run _ _ (_ :: _) _ _ :: _) _ _ _; first | refine rc rfl rfl rfl rfl rfl rfl rfl (fun w hw => gridAt_rd (i := 0) (k := 0) (hp'.own hw) (by omega) (by omega)) ?_ | refine rcG rfl rfl rfl rfl rfl rfl rfl rfl rfl (fun hg w hw => gridAt_rd (i := 0) (k := 0) (hp'.own hw) (by omega) (by omega)) ?_) | (show ∀ _ : Nat, T _ _ _ _ _; intro _) | (show T _ (.code .ret :: _) _ _ _; refine T_retV [] rfl (Hle.none _) ⟨rfl, rfl⟩))
  · have e : distV c a b = (0, 1) := if_neg hk
    rw [e]
    repeat' (first | refine d1 ?_ | refine dd ?_ | (show T _ (.ops _ (_ :: _) :: _) _ _ _; first | refine T_call rfl rfl rfl rfl rfl (fun w hw => (h2.cls hw).bad c ca cb hk) ?_ | refine T_callC rfl rfl rfl rfl rfl rfl rfl (fun hg w hw => (h2.cls hw).bad c ca cb hk) ?_ | refine T_op (OpT.storeA rfl rfl rfl rfl rfl rfl (by decide) ?_)) | (show T _ (.run _ _ (_ :: _) _ _ :: _) _ _ _; first | refine rc rfl rfl rfl rfl rfl rfl rfl (fun w hw => (h2.cls hw).bad c ca cb hk) ?_ | refine rcG rfl rfl rfl rfl rfl rfl rfl rfl rfl (fun hg w hw => (h2.cls hw).bad c ca cb hk) ?_) | (show ∀ _ : Nat, T _ _ _ _ _; intro _))
    refine T_if rfl (fun h => ?_) (fun h => ?_)
    · repeat' (first | refine d1 ?_ | refine dd ?_ | (show ∀ _ : Nat, T _ _ _ _ _; intro _) | (show T _ (.code .ret :: _) _ _ _; refine T_retV [] rfl (Hle.none _) ⟨rfl, rfl⟩))
    · cases h
theorem countPrg_spec (c : Costs) (A B : Option Addr) (n m ca cb : Nat) (a b : List Tok) (w : World) (h2 : Two w A B n m a b) :
    Spec Tryz.prog 20 [c.val, .slice A n ca, .slice B m cb] w (fun v R => v = .tuple #[.int .i64 (countV c a b).1, .int .i64 (countV c a b).2] ∧ R = []) := by
  refine spec_of sg Tryz.func20 rfl rfl rfl ?_
  refine T_op (OpT.box (cs := c.cells) rfl rfl rfl rfl rfl rfl rfl (fun pc => ?_))
  by_cases hk : ckV c a b = 0
  · have e : countV c a b = (wys (grdOf c a b) 0 0, 0) := if_pos hk
    rw [e]
    repeat' (first | refine d1 ?_ | refine dd ?_ | (show T _ (.ops _ (_ :: _) :: _) _ _ _; refine T_op (OpT.call rfl rfl rfl rfl rfl (fun w hw => (h2.cls hw).ok c ca cb hk) ?_)) | (show ∀ _ : Nat, T _ _ _ _ _; intro _))
    rintro v R ⟨⟨x, y⟩, rfl, rfl⟩
    dsimp only
    refine T_le (H' := [dat [x] [intsD (gaL c a)], dat [y] [intsD (gaL c b)], blk pc c.cells 23]) (Hle.refl _) ?_
    refine T_open2 fun p q hp hq => ?_
    obtain ⟨A1, cap1, rfl, -, -, -⟩ := hp.row1
    obtain ⟨A2, cap2, rfl, -, -, -⟩ := hq.row1
    repeat' (first | refine d1 ?_ | refine dd ?_ | (show T _ (.ops _ (_ :: _) :: _) _ _ _; refine T_op (OpT.storeA rfl rfl rfl rfl rfl rfl (by decide) ?_)) | (show ∀ _ : Nat, T _ _ _ _ _; intro _))
    rename_i p8
    refine T_le (H' := [blk p8 (srcsL c A B n m ca cb (.slice A1 (gaL c a).length cap1) (.slice A2 (gaL c b).length cap2)) 75, fz p, fz q, blk pc c.cells 23]) (Hle.refl _) ?_
    refine T_if rfl (fun h => ?_) (fun h => ?_)
    · cases h
    repeat' (first | refine d1 ?_ | refine dd ?_ | (show T _ (.ops _ (_ :: _) :: _) _ _ _; refine T_op (OpT.call rfl rfl rfl rfl rfl (fun w hw => (h2.cls hw).grid c ca cb _ _ hk (hp.own hw) (hq.own hw)) ?_)) | (show ∀ _ : Nat, T _ _ _ _ _; intro _))
    rintro v R ⟨⟨s, t⟩, rfl, rfl⟩
    dsimp only [List.cons_append, List.nil_append]
    refine T_le (H' := [dat [s] [rowsD (tabR n m (rst (grdOf c a b)))], dat [t] [rowsD (tabR n m (wys (grdOf c a b)))]]) Hle.srt ?_
    refine T_open2 fun p' q' hp' hq' => ?_
    repeat' (first | refine d1 ?_ | refine dd ?_ | (show T _ (.ops _ (_ :: _) :: _) _ _ _; first | refine T_call rfl rfl rfl rfl rfl (fun w hw => gridAt_rd (i := 0) (k := 0) (hq'.own hw) (by omega) (by omega)) ?_ | refine T_callC rfl rfl rfl rfl rfl rfl rfl (fun hg w hw => gridAt_rd (i := 0) (k := 0) (hq'.own hw) (by omega) (by omega)) ?_) | (show T _ (.run _ _ (_ :: _) _ _ :: _) _ _ _; first | refine rc rfl rfl rfl rfl rfl rfl rfl (fun w hw => gridAt_rd (i := 0) (k := 0) (hq'.own hw) (by omega) (by omega)) ?_ | refine rcG rfl rfl rfl rfl rfl rfl rfl rfl rfl (fun hg w hw => gridAt_rd (i := 0) (k := 0) (hq'.own hw) (by omega) (by omega)) ?_) | (show ∀ _ : Nat, T _ _ _ _ _; intro _) | (show T _ (.code .ret :: _) _ _ _; refine T_retV [] rfl (Hle.none _) ⟨rfl, rfl⟩))
  · have e : countV c a b = (0, 1) := if_neg hk
    rw [e]
    repeat' (first | refine d1 ?_ | refine dd ?_ | (show T _ (.ops _ (_ :: _) :: _) _ _ _; first | refine T_call rfl rfl rfl rfl rfl (fun w hw => (h2.cls hw).bad c ca cb hk) ?_ | refine T_callC rfl rfl rfl rfl rfl rfl rfl (fun hg w hw => (h2.cls hw).bad c ca cb hk) ?_ | refine T_op (OpT.storeA rfl rfl rfl rfl rfl rfl (by decide) ?_)) | (show T _ (.run _ _ (_ :: _) _ _ :: _) _ _ _; first | refine rc rfl rfl rfl rfl rfl rfl rfl (fun w hw => (h2.cls hw).bad c ca cb hk) ?_ | refine rcG rfl rfl rfl rfl rfl rfl rfl rfl rfl (fun hg w hw => (h2.cls hw).bad c ca cb hk) ?_) | (show ∀ _ : Nat, T _ _ _ _ _; intro _))
    refine T_if rfl (fun h => ?_) (fun h => ?_)
    · repeat' (first | refine d1 ?_ | refine dd ?_ | (show ∀ _ : Nat, T _ _ _ _ _; intro _) | (show T _ (.code .ret :: _) _ _ _; refine T_retV [] rfl (Hle.none _) ⟨rfl, rfl⟩))
    · cases h
theorem tablePrg_spec (c : Costs) (A B : Option Addr) (n m ca cb : Nat) (a b : List Tok) (w : World) (h2 : Two w A B n m a b) :
    Spec Tryz.prog 14 [c.val, .slice A n ca, .slice B m cb] w (fun v R => ∃ x : Value, True ∧ v = .tuple #[x, .int .i64 (tableV c a b).2] ∧ R = [dat [x] [rowsD (tableV c a b).1]]) := by
  refine spec_of sg Tryz.func14 rfl rfl rfl ?_
  refine T_op (OpT.box (cs := c.cells) rfl rfl rfl rfl rfl rfl rfl (fun pc => ?_))
  by_cases hk : ckV c a b = 0
  · have e : tableV c a b = (tabR n m (rst (grdOf c a b)), 0) := by unfold tableV; rw [if_pos hk, h2.hn, h2.hm]
    rw [e]
    repeat' (first | refine d1 ?_ | refine dd ?_ | (show T _ (.ops _ (_ :: _) :: _) _ _ _; refine T_op (OpT.call rfl rfl rfl rfl rfl (fun w hw => (h2.cls hw).ok c ca cb hk) ?_)) | (show ∀ _ : Nat, T _ _ _ _ _; intro _))
    rintro v R ⟨⟨x, y⟩, rfl, rfl⟩
    dsimp only
    refine T_le (H' := [dat [x] [intsD (gaL c a)], dat [y] [intsD (gaL c b)], blk pc c.cells 23]) (Hle.refl _) ?_
    refine T_open2 fun p q hp hq => ?_
    obtain ⟨A1, cap1, rfl, -, -, -⟩ := hp.row1
    obtain ⟨A2, cap2, rfl, -, -, -⟩ := hq.row1
    repeat' (first | refine d1 ?_ | refine dd ?_ | (show T _ (.ops _ (_ :: _) :: _) _ _ _; refine T_op (OpT.storeA rfl rfl rfl rfl rfl rfl (by decide) ?_)) | (show ∀ _ : Nat, T _ _ _ _ _; intro _))
    rename_i p8
    refine T_le (H' := [blk p8 (srcsL c A B n m ca cb (.slice A1 (gaL c a).length cap1) (.slice A2 (gaL c b).length cap2)) 75, fz p, fz q, blk pc c.cells 23]) (Hle.refl _) ?_
    refine T_if rfl (fun h => ?_) (fun h => ?_)
    · cases h
    repeat' (first | refine d1 ?_ | refine dd ?_ | (show T _ (.ops _ (_ :: _) :: _) _ _ _; refine T_op (OpT.call rfl rfl rfl rfl rfl (fun w hw => (h2.cls hw).grid c ca cb _ _ hk (hp.own hw) (hq.own hw)) ?_)) | (show ∀ _ : Nat, T _ _ _ _ _; intro _))
    rintro v R ⟨⟨s, t⟩, rfl, rfl⟩
    dsimp only [List.cons_append, List.nil_append]
    refine T_le (H' := [dat [s] [rowsD (tabR n m (rst (grdOf c a b)))], dat [t] [rowsD (tabR n m (wys (grdOf c a b)))]]) Hle.srt ?_
    repeat' (first | refine d1 ?_ | refine dd ?_ | (show ∀ _ : Nat, T _ _ _ _ _; intro _) | (show T _ (.code .ret :: _) _ _ _; refine T_retV _ rfl (Hle.nth 0 rfl) ⟨_, trivial, rfl, rfl⟩))
  · have e : tableV c a b = ([], 1) := if_neg hk
    rw [e]
    repeat' (first | refine d1 ?_ | refine dd ?_ | (show T _ (.ops _ (_ :: _) :: _) _ _ _; first | refine T_call rfl rfl rfl rfl rfl (fun w hw => (h2.cls hw).bad c ca cb hk) ?_ | refine T_callC rfl rfl rfl rfl rfl rfl rfl (fun hg w hw => (h2.cls hw).bad c ca cb hk) ?_ | refine T_op (OpT.storeA rfl rfl rfl rfl rfl rfl (by decide) ?_)) | (show T _ (.run _ _ (_ :: _) _ _ :: _) _ _ _; first | refine rc rfl rfl rfl rfl rfl rfl rfl (fun w hw => (h2.cls hw).bad c ca cb hk) ?_ | refine rcG rfl rfl rfl rfl rfl rfl rfl rfl rfl (fun hg w hw => (h2.cls hw).bad c ca cb hk) ?_) | (show ∀ _ : Nat, T _ _ _ _ _; intro _))
    refine T_if rfl (fun h => ?_) (fun h => ?_)
    · have hnil : ∀ H : List HA, Hle H [dat [.slice none 0 0] [rowsD []]] := fun H => (hle_unit (B := dat [.slice none 0 0] [rowsD []]) (.s none 0 0 1 [] rfl (Nat.le_refl _) (by omega) (fun h => absurd h (by omega)) .nil .nil)).trans Hle.sub
      repeat' (first | refine d1 ?_ | refine dd ?_ | (show ∀ _ : Nat, T _ _ _ _ _; intro _) | (show T _ (.code .ret :: _) _ _ _; refine T_retV _ rfl (hnil _) ⟨_, trivial, rfl, rfl⟩))
    · cases h
end Go.Proofs.YtmcgificpaeipaaGreatDoor
/- Walks: pairs of sources: the reference: what is valid, what columns cost, tables compared. -/
namespace Go.Proofs.YtmcgificpaeipaaGreatDoor
open Go.RowKit Go.Shelf Go.Proofs
set_option maxRecDepth 100000
set_option maxHeartbeats 1000000

def fitsV (a b : List Tok) : Int := if badL a = true ∨ badL b = true then 1 else 0
theorem fits18_spec (A B : Option Addr) (n m ca cb : Nat) (a b : List Tok) (w : World) (h2 : Two w A B n m a b) :
    Spec Tryz.prog 60 [.slice A n ca, .slice B m cb] w (fun v R => v = .int .i64 (fitsV a b) ∧ R = []) := by
  obtain ⟨hst, ha, hn, hnb, hb, hm, hmb, hsa, hsb⟩ := h2
  have hsz := size_law hnb hmb
  refine spec_of sg Tryz.func60 rfl rfl rfl ?_
  repeat' (first | refine d1 ?_ | refine dd ?_ | (show ∀ _ : Nat, T _ _ _ _ _; intro _))
  refine T_loopX (fun k : Nat => [(5, .int .i64 k)]) (fun _ => []) (fun k => k ≤ n ∧ ∀ j, j < k → tokE (tkA a j) = 0) (fun k => n - k) 0 ⟨by omega, fun j h => by omega⟩ ?_
  rintro k ⟨hk, hok⟩
  repeat' (first | refine d1 ?_ | refine dd ?_ | (show ∀ _ : Nat, T _ _ _ _ _; intro _))
  refine T_if rfl (fun h => ?_) (fun h => ?_)
  · simp only [decide_eq_true_eq] at h
    obtain ⟨ba, oa, rfl⟩ := ha.base (by omega)
    have hr : RdC w ba (oa + (k : Int).toNat * 6) (tkA a k).cells := ha.getT (by omega) (tkA_get (by omega))
    repeat' (first | refine d1 ?_ | refine dd ?_ | (show T _ (.ops _ (_ :: _) :: _) _ _ _; first | refine T_call rfl rfl rfl rfl rfl (fun w hw => tokRef_spec (tkA a k) w) ?_ | refine T_callC rfl rfl rfl rfl rfl rfl rfl (fun hg w hw => tokRef_spec (tkA a k) w) ?_) | (show T _ (.run _ _ (_ :: _) _ _ :: _) _ _ _; first | refine rc rfl rfl rfl rfl rfl rfl rfl (fun w hw => tokRef_spec (tkA a k) w) ?_ | refine rcG rfl rfl rfl rfl rfl rfl rfl rfl rfl (fun hg w hw => tokRef_spec (tkA a k) w) ?_) | (show ∀ _ : Nat, T _ _ _ _ _; intro _))
    refine T_if rfl (fun h1 => ?_) (fun h1 => ?_)
    · repeat' (first | refine d1 ?_ | refine dd ?_ | (show ∀ _ : Nat, T _ _ _ _ _; intro _) | (show T _ (.code .ret :: _) _ _ _; refine T_retV [] rfl (Hle.none _) ⟨?_, rfl⟩))
      have : badL a = true := by unfold badL; rw [List.any_eq_true]; exact ⟨_, tkA_mem (by omega), h1⟩
      unfold fitsV; rw [if_pos (.inl this)]; rfl
    · simp only [Bool.not_eq_false', decide_eq_true_eq] at h1
      repeat' (first | refine d1 ?_ | refine dd ?_ | (show ∀ _ : Nat, T _ _ _ _ _; intro _))
      refine T_backX (k + 1) ⟨by omega, fun j hj => ?_⟩ (by omega)
      rcases Nat.lt_or_ge j k with h3 | h3
      · exact hok j h3
      · rw [show j = k by omega]; exact h1
  simp only [decide_eq_false_iff_not] at h
  have hA : badL a = false := badL_false.2 fun t ht => by
    obtain ⟨i, hi, e⟩ := List.getElem_of_mem ht
    have := hok i (by omega)
    have e2 := tkA_get hi
    rw [List.getElem?_eq_getElem hi, e] at e2
    rw [Option.some.inj e2]; exact this
  repeat' (first | refine d1 ?_ | refine dd ?_ | (show ∀ _ : Nat, T _ _ _ _ _; intro _))
  refine T_loopX (fun k : Nat => [(6, .int .i64 k)]) (fun _ => []) (fun k => k ≤ m ∧ ∀ j, j < k → tokE (tkA b j) = 0) (fun k => m - k) 0 ⟨by omega, fun j h => by omega⟩ ?_
  rintro k2 ⟨hk2, hok2⟩
  repeat' (first | refine d1 ?_ | refine dd ?_ | (show ∀ _ : Nat, T _ _ _ _ _; intro _))
  refine T_if rfl (fun h => ?_) (fun h => ?_)
  · simp only [decide_eq_true_eq] at h
    obtain ⟨bb, ob, rfl⟩ := hb.base (by omega)
    have hr : RdC w bb (ob + (k2 : Int).toNat * 6) (tkA b k2).cells := hb.getT (by omega) (tkA_get (by omega))
    repeat' (first | refine d1 ?_ | refine dd ?_ | (show T _ (.ops _ (_ :: _) :: _) _ _ _; first | refine T_call rfl rfl rfl rfl rfl (fun w hw => tokRef_spec (tkA b k2) w) ?_ | refine T_callC rfl rfl rfl rfl rfl rfl rfl (fun hg w hw => tokRef_spec (tkA b k2) w) ?_) | (show T _ (.run _ _ (_ :: _) _ _ :: _) _ _ _; first | refine rc rfl rfl rfl rfl rfl rfl rfl (fun w hw => tokRef_spec (tkA b k2) w) ?_ | refine rcG rfl rfl rfl rfl rfl rfl rfl rfl rfl (fun hg w hw => tokRef_spec (tkA b k2) w) ?_) | (show ∀ _ : Nat, T _ _ _ _ _; intro _))
    refine T_if rfl (fun h1 => ?_) (fun h1 => ?_)
    · repeat' (first | refine d1 ?_ | refine dd ?_ | (show ∀ _ : Nat, T _ _ _ _ _; intro _) | (show T _ (.code .ret :: _) _ _ _; refine T_retV [] rfl (Hle.none _) ⟨?_, rfl⟩))
      have : badL b = true := by unfold badL; rw [List.any_eq_true]; exact ⟨_, tkA_mem (by omega), h1⟩
      unfold fitsV; rw [if_pos (.inr this)]; rfl
    · simp only [Bool.not_eq_false', decide_eq_true_eq] at h1
      repeat' (first | refine d1 ?_ | refine dd ?_ | (show ∀ _ : Nat, T _ _ _ _ _; intro _))
      refine T_backX (k2 + 1) ⟨by omega, fun j hj => ?_⟩ (by omega)
      rcases Nat.lt_or_ge j k2 with h3 | h3
      · exact hok2 j h3
      · rw [show j = k2 by omega]; exact h1
  simp only [decide_eq_false_iff_not] at h
  have hB : badL b = false := badL_false.2 fun t ht => by
    obtain ⟨i, hi, e⟩ := List.getElem_of_mem ht
    have := hok2 i (by omega)
    have e2 := tkA_get hi
    rw [List.getElem?_eq_getElem hi, e] at e2
    rw [Option.some.inj e2]; exact this
  repeat' (first | refine d1 ?_ | refine dd ?_ | (show ∀ _ : Nat, T _ _ _ _ _; intro _))
  refine T_if rfl (fun h3 => ?_) (fun h3 => ?_)
  · exfalso
    simp only [Bool.or_eq_true, decide_eq_true_eq] at h3
    omega
  repeat' (first | refine d1 ?_ | refine dd ?_ | (show ∀ _ : Nat, T _ _ _ _ _; intro _) | (show T _ (.code .ret :: _) _ _ _; refine T_retV [] rfl (Hle.none _) ⟨?_, rfl⟩))
  unfold fitsV; rw [hA, hB]; rfl
theorem ck18_spec (c : Costs) (A B : Option Addr) (n m ca cb : Nat) (a b : List Tok) (w : World) (h2 : Two w A B n m a b) :
    Spec Tryz.prog 50 [c.val, .slice A n ca, .slice B m cb] w (fun v R => v = .int .i64 (ckV c a b) ∧ R = []) := by
  refine spec_of sg Tryz.func50 rfl rfl rfl ?_
  refine T_op (OpT.box (cs := c.cells) rfl rfl rfl rfl rfl rfl rfl (fun pc => ?_))
  repeat' (first | refine d1 ?_ | refine dd ?_ | (show T _ (.ops _ (_ :: _) :: _) _ _ _; first | refine T_call rfl rfl rfl rfl rfl (fun w hw => costRef_spec c w) ?_ | refine T_callC rfl rfl rfl rfl rfl rfl rfl (fun hg w hw => costRef_spec c w) ?_) | (show T _ (.run _ _ (_ :: _) _ _ :: _) _ _ _; first | refine rc rfl rfl rfl rfl rfl rfl rfl (fun w hw => costRef_spec c w) ?_ | refine rcG rfl rfl rfl rfl rfl rfl rfl rfl rfl (fun hg w hw => costRef_spec c w) ?_) | (show ∀ _ : Nat, T _ _ _ _ _; intro _))
  refine T_if rfl (fun h => ?_) (fun h => ?_)
  · simp only [Bool.not_eq_true', decide_eq_false_iff_not] at h
    repeat' (first | refine d1 ?_ | refine dd ?_ | (show ∀ _ : Nat, T _ _ _ _ _; intro _) | (show T _ (.code .ret :: _) _ _ _; refine T_retV [] rfl (Hle.none _) ⟨?_, rfl⟩))
    unfold ckV; rw [if_pos (.inl h)]; rfl
  · simp only [Bool.not_eq_false', decide_eq_true_eq] at h
    repeat' (first | refine d1 ?_ | refine dd ?_ | (show T _ (.ops _ (_ :: _) :: _) _ _ _; first | refine T_call rfl rfl rfl rfl rfl (fun w hw => fits18_spec A B n m ca cb a b w (h2.cls hw)) ?_ | refine T_callC rfl rfl rfl rfl rfl rfl rfl (fun hg w hw => fits18_spec A B n m ca cb a b w (h2.cls hw)) ?_) | (show T _ (.run _ _ (_ :: _) _ _ :: _) _ _ _; first | refine rc rfl rfl rfl rfl rfl rfl rfl (fun w hw => fits18_spec A B n m ca cb a b w (h2.cls hw)) ?_ | refine rcG rfl rfl rfl rfl rfl rfl rfl rfl rfl (fun hg w hw => fits18_spec A B n m ca cb a b w (h2.cls hw)) ?_) | (show ∀ _ : Nat, T _ _ _ _ _; intro _) | (show T _ (.code .ret :: _) _ _ _; refine T_retV [] rfl (Hle.none _) ⟨?_, rfl⟩))
    unfold ckV fitsV; rw [h]; simp; rfl
/-- More tokens than the laws look at, or longer ones. -/
def great18B (l : List Tok) : Bool := l.any longT || decide ((7 : Int) < l.length)
theorem great18_spec (A : Option Addr) (n cap : Nat) (l : List Tok) (w : World) (hs : Src w 6 A n (l.flatMap Tok.cells)) (hn : l.length = n) (hb : n ≤ 9223372036854775807) :
    Spec Tryz.prog 48 [.slice A n cap] w (fun v A => v = .bool (great18B l) ∧ A = []) := by
  refine spec_of sg Tryz.func48 rfl rfl rfl ?_
  repeat' (first | refine d1 ?_ | refine dd ?_ | (show ∀ _ : Nat, T _ _ _ _ _; intro _))
  refine T_loopX (fun k : Nat => [(3, .int .i64 k)]) (fun _ => []) (fun k => k ≤ n ∧ ∀ j, j < k → longT (tkA l j) = false) (fun k => n - k) 0 ⟨by omega, fun j h => by omega⟩ ?_
  rintro k ⟨hk, hok⟩
  repeat' (first | refine d1 ?_ | refine dd ?_ | (show ∀ _ : Nat, T _ _ _ _ _; intro _))
  refine T_if rfl (fun h => ?_) (fun h => ?_)
  · simp only [decide_eq_true_eq] at h
    obtain ⟨b, o, rfl⟩ := hs.base (by omega)
    have hr : RdC w b (o + (k : Int).toNat * 6) (tkA l k).cells := hs.getT (by omega) (tkA_get (by omega))
    repeat' (first | refine d1 ?_ | refine dd ?_ | (show ∀ _ : Nat, T _ _ _ _ _; intro _))
    refine T_if rfl (fun h2 => ?_) (fun h2 => ?_)
    · repeat' (first | refine d1 ?_ | refine dd ?_ | (show ∀ _ : Nat, T _ _ _ _ _; intro _) | (show T _ (.code .ret :: _) _ _ _; refine T_retV [] rfl (Hle.none _) ⟨congrArg Value.bool ?_, rfl⟩))
      have : l.any longT = true := List.any_eq_true.2 ⟨_, tkA_mem (by omega), h2⟩
      unfold great18B; rw [this]; rfl
    · repeat' (first | refine d1 ?_ | refine dd ?_ | (show ∀ _ : Nat, T _ _ _ _ _; intro _))
      refine T_backX (k + 1) ⟨by omega, fun j hj => ?_⟩ (by omega)
      rcases Nat.lt_or_ge j k with h3 | h3
      · exact hok j h3
      · rw [show j = k by omega]; exact h2
  · simp only [decide_eq_false_iff_not] at h
    have : l.any longT = false := List.any_eq_false.2 fun t ht => by
      obtain ⟨i, hi, e⟩ := List.getElem_of_mem ht
      have h3 := hok i (by omega)
      have e2 := tkA_get hi
      rw [List.getElem?_eq_getElem hi, e] at e2
      rw [Option.some.inj e2, h3]; simp
    repeat' (first | refine d1 ?_ | refine dd ?_ | (show ∀ _ : Nat, T _ _ _ _ _; intro _) | (show T _ (.code .ret :: _) _ _ _; refine T_retV [] rfl (Hle.none _) ⟨congrArg Value.bool ?_, rfl⟩))
    unfold great18B; rw [this, hn]; rfl
/-- Two tables compared. -/
theorem sameCols_spec (x y : Value) (a b : List (List Int)) (w : World) (hx : Rd (wr w) [x] [rowsD a]) (hy : Rd (wr w) [y] [rowsD b]) :
    Spec Tryz.prog 22 [x, y] w (fun v R => v = .bool (decide (a = b)) ∧ R = []) := by
  obtain ⟨A, ca, cs, rfl, ha1, ha2, hcs, hA, hrA⟩ := hx.tab
  obtain ⟨B, cb, ds, rfl, hb1, hb2, hds, hB, hrB⟩ := hy.tab
  refine spec_of sg Tryz.func22 rfl rfl rfl ?_
  repeat' (first | refine d1 ?_ | refine dd ?_ | (show ∀ _ : Nat, T _ _ _ _ _; intro _))
  refine T_if rfl (fun h => ?_) (fun h => ?_)
  · simp only [Bool.not_eq_true', decide_eq_false_iff_not] at h
    repeat' (first | refine d1 ?_ | refine dd ?_ | (show ∀ _ : Nat, T _ _ _ _ _; intro _) | (show T _ (.code .ret :: _) _ _ _; refine T_retV [] rfl (Hle.none _) ⟨?_, rfl⟩))
    rw [decide_eq_false (fun e => h (by rw [e]))]; rfl
  simp only [Bool.not_eq_false', decide_eq_true_eq] at h
  repeat' (first | refine d1 ?_ | refine dd ?_ | (show ∀ _ : Nat, T _ _ _ _ _; intro _))
  refine T_loopX (fun k : Nat => [(5, .int .i64 k)]) (fun _ => []) (fun k => k ≤ a.length ∧ ∀ j, j < k → a[j]? = b[j]?) (fun k => a.length - k) 0 ⟨by omega, fun j h => by omega⟩ ?_
  rintro k ⟨hk, hok⟩
  repeat' (first | refine d1 ?_ | refine dd ?_ | (show ∀ _ : Nat, T _ _ _ _ _; intro _))
  refine T_if rfl (fun h3 => ?_) (fun h3 => ?_)
  · simp only [decide_eq_true_eq] at h3
    obtain ⟨b1, o1, rfl, hA2⟩ := hA (by omega)
    obtain ⟨b2, o2, rfl, hB2⟩ := hB (by omega)
    obtain ⟨p, hp⟩ : ∃ u, a[k]? = some u := ⟨_, List.getElem?_eq_getElem (by omega)⟩
    obtain ⟨q, hq⟩ : ∃ v, b[k]? = some v := ⟨_, List.getElem?_eq_getElem (by omega)⟩
    obtain ⟨A', capA, hcA, hlA, hmA, hA3⟩ := hrA.tabRow hp
    obtain ⟨B', capB, hcB, hlB, hmB, hB3⟩ := hrB.tabRow hq
    have hr1 : RdC w b1 (o1 + (k : Int).toNat * 1) [.slice A' p.length capA] := RdC.one (by rw [off1]; exact hA2 k _ hcA)
    have hr2 : RdC w b2 (o2 + (k : Int).toNat * 1) [.slice B' q.length capB] := RdC.one (by rw [off1]; exact hB2 k _ hcB)
    repeat' (first | refine d1 ?_ | refine dd ?_ | (show ∀ _ : Nat, T _ _ _ _ _; intro _))
    refine T_if rfl (fun h4 => ?_) (fun h4 => ?_)
    · simp only [Bool.not_eq_true', decide_eq_false_iff_not] at h4
      repeat' (first | refine d1 ?_ | refine dd ?_ | (show ∀ _ : Nat, T _ _ _ _ _; intro _) | (show T _ (.code .ret :: _) _ _ _; refine T_retV [] rfl (Hle.none _) ⟨?_, rfl⟩))
      rw [decide_eq_false (fun e => h4 (by rw [e, hq] at hp; rw [Option.some.inj hp]))]; rfl
    simp only [Bool.not_eq_false', decide_eq_true_eq] at h4
    repeat' (first | refine d1 ?_ | refine dd ?_ | (show ∀ _ : Nat, T _ _ _ _ _; intro _))
    refine T_loopX (fun i : Nat => [(6, .int .i64 i)]) (fun _ => []) (fun i => i ≤ p.length ∧ ∀ j, j < i → p[j]? = q[j]?) (fun i => p.length - i) 0 ⟨by omega, fun j h => by omega⟩ ?_
    rintro i ⟨hi, hoki⟩
    repeat' (first | refine d1 ?_ | refine dd ?_ | (show ∀ _ : Nat, T _ _ _ _ _; intro _))
    refine T_if rfl (fun h5 => ?_) (fun h5 => ?_)
    · simp only [decide_eq_true_eq] at h5
      obtain ⟨b3, o3, rfl, hA4⟩ := hA3 (by omega)
      obtain ⟨b4, o4, rfl, hB4⟩ := hB3 (by omega)
      obtain ⟨u, hu⟩ : ∃ u, p[i]? = some u := ⟨_, List.getElem?_eq_getElem (by omega)⟩
      obtain ⟨v, hv⟩ : ∃ v, q[i]? = some v := ⟨_, List.getElem?_eq_getElem (by omega)⟩
      have hr3 : RdC w b3 (o3 + (i : Int).toNat * 1) [.int .i64 u] := RdC.one (by rw [off1]; exact hA4 i _ hu)
      have hr4 : RdC w b4 (o4 + (i : Int).toNat * 1) [.int .i64 v] := RdC.one (by rw [off1]; exact hB4 i _ hv)
      repeat' (first | refine d1 ?_ | refine dd ?_ | (show ∀ _ : Nat, T _ _ _ _ _; intro _))
      refine T_if rfl (fun h6 => ?_) (fun h6 => ?_)
      · simp only [Bool.not_eq_true', decide_eq_false_iff_not] at h6
        repeat' (first | refine d1 ?_ | refine dd ?_ | (show ∀ _ : Nat, T _ _ _ _ _; intro _) | (show T _ (.code .ret :: _) _ _ _; refine T_retV [] rfl (Hle.none _) ⟨?_, rfl⟩))
        rw [decide_eq_false (fun e => h6 (by rw [e, hq] at hp; rw [Option.some.inj hp, hu] at hv; exact Option.some.inj hv))]; rfl
      · simp only [Bool.not_eq_false', decide_eq_true_eq] at h6
        repeat' (first | refine d1 ?_ | refine dd ?_ | (show ∀ _ : Nat, T _ _ _ _ _; intro _))
        refine T_backX (i + 1) ⟨by omega, fun j hj => ?_⟩ (by omega)
        rcases Nat.lt_or_ge j i with h7 | h7
        · exact hoki j h7
        · rw [show j = i by omega, hu, hv, h6]
    · simp only [decide_eq_false_iff_not] at h5
      repeat' (first | refine d1 ?_ | refine dd ?_ | (show ∀ _ : Nat, T _ _ _ _ _; intro _))
      refine T_backX (k + 1) ⟨by omega, fun j hj => ?_⟩ (by omega)
      rcases Nat.lt_or_ge j k with h7 | h7
      · exact hok j h7
      · rw [show j = k by omega, hp, hq, list_eq_of (by omega) fun j hj => hoki j (by omega)]
  · simp only [decide_eq_false_iff_not] at h3
    repeat' (first | refine d1 ?_ | refine dd ?_ | (show ∀ _ : Nat, T _ _ _ _ _; intro _) | (show T _ (.code .ret :: _) _ _ _; refine T_retV [] rfl (Hle.none _) ⟨?_, rfl⟩))
    rw [decide_eq_true (list_eq_of (by omega) fun j hj => hok j (by omega))]; rfl
end Go.Proofs.YtmcgificpaeipaaGreatDoor
/- Walks: pairs of sources: the reference: columns' costs, moves, the table. -/
namespace Go.Proofs.YtmcgificpaeipaaGreatDoor
open Go.RowKit Go.Shelf Go.Proofs
set_option maxRecDepth 100000
set_option maxHeartbeats 1000000

/-- What a column costs. -/
def colV (G : Grd) (u v : Int) : Int := if 0 ≤ u ∧ 0 ≤ v then G.p u.toNat v.toNat else if 0 ≤ u then G.g u.toNat else G.h v.toNat
theorem column18_spec (c : Costs) (A B : Option Addr) (n m ca cb : Nat) (a b : List Tok) (u v : Int) (w : World) (h2 : Two w A B n m a b) (hk : ckV c a b = 0) (hu : u < n) (hv : v < m) (huv : 0 ≤ u ∨ 0 ≤ v) :
    Spec Tryz.prog 80 [c.val, .slice A n ca, .slice B m cb, .int .i64 u, .int .i64 v] w (fun x R => x = .int .i64 (colV (grdOf c a b) u v) ∧ R = []) := by
  obtain ⟨hst, ha, hn, hnb, hb, hm, hmb, hsa, hsb⟩ := h2
  obtain ⟨hc, ka, kb⟩ := ckV_ok hk
  have hga : ∀ i, i < n → gapV c (tkA a i) = (gapC c (tkA a i), 0) := fun i hi => by unfold gapV; rw [if_pos ⟨hc, ka _ (tkA_mem (by omega))⟩]
  have hgb : ∀ i, i < m → gapV c (tkA b i) = (gapC c (tkA b i), 0) := fun i hi => by unfold gapV; rw [if_pos ⟨hc, kb _ (tkA_mem (by omega))⟩]
  have hp : ∀ i k, i < n → k < m → pairV c (tkA a i) (tkA b k) = (pairC c (tkA a i) (tkA b k), 0) := fun i k hi hk => by unfold pairV; rw [if_pos ⟨hc, ka _ (tkA_mem (by omega)), kb _ (tkA_mem (by omega))⟩]
  refine spec_of sg Tryz.func80 rfl rfl rfl ?_
  refine T_op (OpT.box (cs := c.cells) rfl rfl rfl rfl rfl rfl rfl (fun pc => ?_))
  repeat' (first | refine d1 ?_ | refine dd ?_ | (show ∀ _ : Nat, T _ _ _ _ _; intro _))
  refine T_if rfl (fun h => ?_) (fun h => ?_)
  · simp only [Bool.and_eq_true, decide_eq_true_eq] at h
    obtain ⟨i, rfl⟩ := Int.eq_ofNat_of_zero_le h.1
    obtain ⟨k, rfl⟩ := Int.eq_ofNat_of_zero_le h.2
    obtain ⟨ba, oa, rfl⟩ := ha.base (by omega)
    obtain ⟨bb, ob, rfl⟩ := hb.base (by omega)
    have hr1 : RdC w ba (oa + (i : Int).toNat * 6) (tkA a i).cells := ha.getT (by omega) (tkA_get (by omega))
    have hr2 : RdC w bb (ob + (k : Int).toNat * 6) (tkA b k).cells := hb.getT (by omega) (tkA_get (by omega))
    repeat' (first | refine d1 ?_ | refine dd ?_ | (show T _ (.ops _ (_ :: _) :: _) _ _ _; first | refine T_call rfl rfl rfl rfl rfl (fun w hw => pairTopRef_spec c (tkA a i) (tkA b k) w) ?_ | refine T_callC rfl rfl rfl rfl rfl rfl rfl (fun hg w hw => pairTopRef_spec c (tkA a i) (tkA b k) w) ?_) | (show T _ (.run _ _ (_ :: _) _ _ :: _) _ _ _; first | refine rc rfl rfl rfl rfl rfl rfl rfl (fun w hw => pairTopRef_spec c (tkA a i) (tkA b k) w) ?_ | refine rcG rfl rfl rfl rfl rfl rfl rfl rfl rfl (fun hg w hw => pairTopRef_spec c (tkA a i) (tkA b k) w) ?_) | (show ∀ _ : Nat, T _ _ _ _ _; intro _))
    rw [hp i k (by omega) (by omega)]
    repeat' (first | refine d1 ?_ | refine dd ?_ | (show ∀ _ : Nat, T _ _ _ _ _; intro _) | (show T _ (.code .ret :: _) _ _ _; refine T_retV [] rfl (Hle.none _) ⟨?_, rfl⟩))
    unfold colV; rw [if_pos h]; rfl
  · have h' : ¬ (0 ≤ u ∧ 0 ≤ v) := fun hh => by rw [decide_eq_true hh.1, decide_eq_true hh.2] at h; cases h
    repeat' (first | refine d1 ?_ | refine dd ?_ | (show ∀ _ : Nat, T _ _ _ _ _; intro _))
    refine T_if rfl (fun h1 => ?_) (fun h1 => ?_)
    · simp only [decide_eq_true_eq] at h1
      obtain ⟨i, rfl⟩ := Int.eq_ofNat_of_zero_le h1
      obtain ⟨ba, oa, rfl⟩ := ha.base (by omega)
      have hr1 : RdC w ba (oa + (i : Int).toNat * 6) (tkA a i).cells := ha.getT (by omega) (tkA_get (by omega))
      repeat' (first | refine d1 ?_ | refine dd ?_ | (show T _ (.ops _ (_ :: _) :: _) _ _ _; first | refine T_call rfl rfl rfl rfl rfl (fun w hw => gapTopRef_spec c (tkA a i) w) ?_ | refine T_callC rfl rfl rfl rfl rfl rfl rfl (fun hg w hw => gapTopRef_spec c (tkA a i) w) ?_) | (show T _ (.run _ _ (_ :: _) _ _ :: _) _ _ _; first | refine rc rfl rfl rfl rfl rfl rfl rfl (fun w hw => gapTopRef_spec c (tkA a i) w) ?_ | refine rcG rfl rfl rfl rfl rfl rfl rfl rfl rfl (fun hg w hw => gapTopRef_spec c (tkA a i) w) ?_) | (show ∀ _ : Nat, T _ _ _ _ _; intro _))
      rw [hga i (by omega)]
      repeat' (first | refine d1 ?_ | refine dd ?_ | (show ∀ _ : Nat, T _ _ _ _ _; intro _) | (show T _ (.code .ret :: _) _ _ _; refine T_retV [] rfl (Hle.none _) ⟨?_, rfl⟩))
      unfold colV; rw [if_neg h', if_pos h1]; rfl
    · simp only [decide_eq_false_iff_not] at h1
      obtain ⟨k, rfl⟩ := Int.eq_ofNat_of_zero_le (show 0 ≤ v by omega)
      obtain ⟨bb, ob, rfl⟩ := hb.base (by omega)
      have hr2 : RdC w bb (ob + (k : Int).toNat * 6) (tkA b k).cells := hb.getT (by omega) (tkA_get (by omega))
      repeat' (first | refine d1 ?_ | refine dd ?_ | (show T _ (.ops _ (_ :: _) :: _) _ _ _; first | refine T_call rfl rfl rfl rfl rfl (fun w hw => gapTopRef_spec c (tkA b k) w) ?_ | refine T_callC rfl rfl rfl rfl rfl rfl rfl (fun hg w hw => gapTopRef_spec c (tkA b k) w) ?_) | (show T _ (.run _ _ (_ :: _) _ _ :: _) _ _ _; first | refine rc rfl rfl rfl rfl rfl rfl rfl (fun w hw => gapTopRef_spec c (tkA b k) w) ?_ | refine rcG rfl rfl rfl rfl rfl rfl rfl rfl rfl (fun hg w hw => gapTopRef_spec c (tkA b k) w) ?_) | (show ∀ _ : Nat, T _ _ _ _ _; intro _))
      rw [hgb k (by omega)]
      repeat' (first | refine d1 ?_ | refine dd ?_ | (show ∀ _ : Nat, T _ _ _ _ _; intro _) | (show T _ (.code .ret :: _) _ _ _; refine T_retV [] rfl (Hle.none _) ⟨?_, rfl⟩))
      unfold colV; rw [if_neg h', if_neg h1]; rfl
/-- The moves of a place, as columns. -/
def mvCol (i k : Nat) (x : Mv) : List Int := [if x.fst = 1 then (i : Int) else -1, if x.snd = 1 then (k : Int) else -1]
def mvR (G : Grd) (i k : Nat) : List (List Int) := (mvs G i k).map (mvCol i k)
theorem mv_join {o b : Nat} {oc ic hs hs' : List Value} {to e : TypeId} {ti : TypeId} {sz cap n : Nat} {A : Option Addr} {ds : List D} {H : List HA} (hi : ic.length = 2) :
    Hle (blk o oc to :: blk b ic ti :: row e sz A cap n hs' :: dat hs ds :: H) (row e sz A cap n hs' :: dat (hs ++ [.slice (some ⟨b, 0, none⟩) 2 2]) (ds ++ [.s 1 (ic.map .v)]) :: H) := by
  refine (Hle.tail _ _).trans ((dat_blkV (sz := 1) (n := 2) (by omega) (by omega)).trans ?_)
  refine (Hle.perm ?_).trans (dat_join.trans (Hle.perm (List.Perm.swap (row e sz A cap n hs') _ H)))
  exact (List.Perm.swap _ _ _).symm.trans (List.Perm.trans (List.Perm.swap _ _ _) (List.Perm.cons _ (List.Perm.swap _ _ _)))
theorem moves18_spec (c : Costs) (A B : Option Addr) (n m ca cb : Nat) (a b : List Tok) (i k : Nat) (w : World) (hn : a.length = n) (hnb : n ≤ 1000) (hm : b.length = m) (hmb : m ≤ 1000) (hi : i ≤ n) (hk : k ≤ m) :
    Spec Tryz.prog 52 [.slice A n ca, .slice B m cb, .int .i64 (i : Nat), .int .i64 (k : Nat)] w (fun v R => ∃ x : Value, True ∧ v = x ∧ R = [dat [x] [rowsD (mvR (grdOf c a b) i k)]]) := by
  refine spec_of sg Tryz.func52 rfl rfl rfl ?_
  repeat' (first | refine d1 ?_ | refine dd ?_ | (show ∀ _ : Nat, T _ _ _ _ _; intro _))
  rename_i b0
  refine T_le (H' := [row 33 1 (some ⟨b0, 0, none⟩) 0 0 [], dat [] []]) ((Hle.weaken (i := 0) rfl (blk_row (sz := 1) (n := 0) rfl (by simp only [maxLen]; omega)) rfl).trans ((dat_nil _).trans (Hle.perm (List.Perm.swap _ _ _)))) ?_
  by_cases hi2 : i < n
  · by_cases hk2 : k < m
    · have em : mvs (grdOf c a b) i k = _ := mvs_both (by show i < a.length; omega) (by show k < b.length; omega)
      have em2 : mvR (grdOf c a b) i k = _ := congrArg (List.map (mvCol i k)) em
      rw [em2]
      refine T_if rfl (fun h => ?_) (fun h => by exfalso; simp only [Bool.and_eq_false_iff, decide_eq_false_iff_not] at h; omega)
      repeat' (first | refine d1 ?_ | refine dd ?_ | (show T _ (.ops _ (_ :: _) :: _) _ _ _; refine T_op (OpT.append rfl rfl rfl rfl rfl rfl rfl rfl rfl rfl (fun w hw => Src.own hw rfl) rfl (by dsimp only; omega) (by omega) (fun A' cap' hA' => ?_))) | (show ∀ _ : Nat, T _ _ _ _ _; intro _))
      refine T_le (mv_join rfl) ?_
      refine T_if rfl (fun h => ?_) (fun h => by exfalso; simp only [Bool.and_eq_false_iff, decide_eq_false_iff_not] at h; omega)
      repeat' (first | refine d1 ?_ | refine dd ?_ | (show T _ (.ops _ (_ :: _) :: _) _ _ _; refine T_op (OpT.append rfl rfl rfl rfl rfl rfl rfl rfl rfl rfl (fun w hw => Src.own hw rfl) rfl (by dsimp only; omega) (by omega) (fun A' cap' hA' => ?_))) | (show ∀ _ : Nat, T _ _ _ _ _; intro _))
      refine T_le (mv_join rfl) ?_
      refine T_if rfl (fun h => ?_) (fun h => by exfalso; simp only [Bool.and_eq_false_iff, decide_eq_false_iff_not] at h; omega)
      repeat' (first | refine d1 ?_ | refine dd ?_ | (show T _ (.ops _ (_ :: _) :: _) _ _ _; refine T_op (OpT.append rfl rfl rfl rfl rfl rfl rfl rfl rfl rfl (fun w hw => Src.own hw rfl) rfl (by dsimp only; omega) (by omega) (fun A' cap' hA' => ?_))) | (show ∀ _ : Nat, T _ _ _ _ _; intro _))
      refine T_le (mv_join rfl) ?_
      exact T_retV _ rfl (dat_row) ⟨_, trivial, rfl, rfl⟩
    · have em : mvs (grdOf c a b) i k = _ := mvs_fst (by show i < a.length; omega) (by show ¬ k < b.length; omega)
      have em2 : mvR (grdOf c a b) i k = _ := congrArg (List.map (mvCol i k)) em
      rw [em2]
      refine T_if rfl (fun h => by exfalso; simp only [Bool.and_eq_true, decide_eq_true_eq] at h; omega) (fun h => ?_)
      repeat' (first | refine d1 ?_ | refine dd ?_ | (show ∀ _ : Nat, T _ _ _ _ _; intro _))
      refine T_if rfl (fun h => ?_) (fun h => by exfalso; simp only [Bool.and_eq_false_iff, decide_eq_false_iff_not] at h; omega)
      repeat' (first | refine d1 ?_ | refine dd ?_ | (show T _ (.ops _ (_ :: _) :: _) _ _ _; refine T_op (OpT.append rfl rfl rfl rfl rfl rfl rfl rfl rfl rfl (fun w hw => Src.own hw rfl) rfl (by dsimp only; omega) (by omega) (fun A' cap' hA' => ?_))) | (show ∀ _ : Nat, T _ _ _ _ _; intro _))
      refine T_le (mv_join rfl) ?_
      refine T_if rfl (fun h => by exfalso; simp only [Bool.and_eq_true, decide_eq_true_eq] at h; omega) (fun h => ?_)
      repeat' (first | refine d1 ?_ | refine dd ?_ | (show ∀ _ : Nat, T _ _ _ _ _; intro _))
      exact T_retV _ rfl (dat_row) ⟨_, trivial, rfl, rfl⟩
  · by_cases hk2 : k < m
    · have em : mvs (grdOf c a b) i k = _ := mvs_snd (by show ¬ i < a.length; omega) (by show k < b.length; omega)
      have em2 : mvR (grdOf c a b) i k = _ := congrArg (List.map (mvCol i k)) em
      rw [em2]
      refine T_if rfl (fun h => by exfalso; simp only [Bool.and_eq_true, decide_eq_true_eq] at h; omega) (fun h => ?_)
      repeat' (first | refine d1 ?_ | refine dd ?_ | (show ∀ _ : Nat, T _ _ _ _ _; intro _))
      refine T_if rfl (fun h => by exfalso; simp only [Bool.and_eq_true, decide_eq_true_eq] at h; omega) (fun h => ?_)
      repeat' (first | refine d1 ?_ | refine dd ?_ | (show ∀ _ : Nat, T _ _ _ _ _; intro _))
      refine T_if rfl (fun h => ?_) (fun h => by exfalso; simp only [Bool.and_eq_false_iff, decide_eq_false_iff_not] at h; omega)
      repeat' (first | refine d1 ?_ | refine dd ?_ | (show T _ (.ops _ (_ :: _) :: _) _ _ _; refine T_op (OpT.append rfl rfl rfl rfl rfl rfl rfl rfl rfl rfl (fun w hw => Src.own hw rfl) rfl (by dsimp only; omega) (by omega) (fun A' cap' hA' => ?_))) | (show ∀ _ : Nat, T _ _ _ _ _; intro _))
      refine T_le (mv_join rfl) ?_
      exact T_retV _ rfl (dat_row) ⟨_, trivial, rfl, rfl⟩
    · have em : mvs (grdOf c a b) i k = _ := mvs_none (by show ¬ i < a.length; omega) (by show ¬ k < b.length; omega)
      have em2 : mvR (grdOf c a b) i k = _ := congrArg (List.map (mvCol i k)) em
      rw [em2]
      refine T_if rfl (fun h => by exfalso; simp only [Bool.and_eq_true, decide_eq_true_eq] at h; omega) (fun h => ?_)
      repeat' (first | refine d1 ?_ | refine dd ?_ | (show ∀ _ : Nat, T _ _ _ _ _; intro _))
      refine T_if rfl (fun h => by exfalso; simp only [Bool.and_eq_true, decide_eq_true_eq] at h; omega) (fun h => ?_)
      repeat' (first | refine d1 ?_ | refine dd ?_ | (show ∀ _ : Nat, T _ _ _ _ _; intro _))
      refine T_if rfl (fun h => by exfalso; simp only [Bool.and_eq_true, decide_eq_true_eq] at h; omega) (fun h => ?_)
      repeat' (first | refine d1 ?_ | refine dd ?_ | (show ∀ _ : Nat, T _ _ _ _ _; intro _))
      exact T_retV _ rfl (dat_row) ⟨_, trivial, rfl, rfl⟩
theorem colV_mv {c : Costs} {a b : List Tok} {i k : Nat} {x : Mv} (h : x ∈ mvs (grdOf c a b) i k) : colV (grdOf c a b) (if x.fst = 1 then (i : Int) else -1) (if x.snd = 1 then (k : Int) else -1) = x.cost := by
  unfold colV
  rcases mvs_to h with ⟨h1, h2, h3, h4, h5⟩ | ⟨h1, h2, h3, h5⟩ | ⟨h1, h2, h3, h5⟩
  · rw [h1, h2, h5, if_pos rfl, if_pos rfl, if_pos ⟨by omega, by omega⟩]; rfl
  · rw [h1, h2, h5, if_pos rfl, if_neg (show ¬ (0 : Nat) = 1 by omega), if_neg (by omega), if_pos (by omega)]; rfl
  · rw [h1, h2, h5, if_neg (show ¬ (0 : Nat) = 1 by omega), if_pos rfl, if_neg (by omega), if_neg (by omega)]; rfl
theorem behind18_spec (c : Costs) (A B : Option Addr) (n m ca cb : Nat) (a b : List Tok) (i k : Nat) (x : Mv) (tb to nt ct rb ro nr cr bx ox cx : Nat) (z : Int) (w : World) (h2 : Two w A B n m a b) (hk : ckV c a b = 0) (hi : i ≤ n) (hkm : k ≤ m)
    (hx : x ∈ mvs (grdOf c a b) i k) (hx0 : RdC w bx ox [.int .i64 (if x.fst = 1 then (i : Int) else -1)]) (hx1 : RdC w bx (ox + 1) [.int .i64 (if x.snd = 1 then (k : Int) else -1)])
    (ht : RdC w tb (to + (i + x.fst)) [.slice (some ⟨rb, ro, none⟩) nr cr]) (hr : RdC w rb (ro + (k + x.snd)) [.int .i64 z]) (hnt : i + x.fst < nt) (hnr : k + x.snd < nr) (hz : 0 ≤ z ∧ z ≤ 2000000) :
    Spec Tryz.prog 53 [c.val, .slice A n ca, .slice B m cb, .slice (some ⟨tb, to, none⟩) nt ct, .int .i64 (i : Nat), .int .i64 (k : Nat), .slice (some ⟨bx, ox, none⟩) 2 cx] w (fun v R => v = .int .i64 (x.cost + z) ∧ R = []) := by
  have hG := grdOf_ok (ckV_ok hk).1 a b
  have hcv := colV_mv hx
  obtain ⟨j, hj, e⟩ := List.getElem_of_mem hx
  have hb := mv_to hG h2.hn h2.hm hi hkm (show (mvs (grdOf c a b) i k)[j]? = some x by rw [List.getElem?_eq_getElem hj, e])
  have hnb := h2.hnb
  have hmb := h2.hmb
  have e1 : (grdOf c a b).n = n := h2.hn
  have e2 : (grdOf c a b).m = m := h2.hm
  have hx0' : RdC w bx (ox + (0 : Int).toNat * 1) [.int .i64 (if x.fst = 1 then (i : Int) else -1)] := hx0
  have hx1' : RdC w bx (ox + (1 : Int).toNat * 1) [.int .i64 (if x.snd = 1 then (k : Int) else -1)] := hx1
  refine spec_of sg Tryz.func53 rfl rfl rfl ?_
  refine T_op (OpT.box (cs := c.cells) rfl rfl rfl rfl rfl rfl rfl (fun pc => ?_))
  rcases mvs_to hx with ⟨f1, f2, f3, f4, f5⟩ | ⟨f1, f2, f3, f5⟩ | ⟨f1, f2, f3, f5⟩
  · rw [f1] at hx0' hcv ht hnt
    rw [f2] at hx1' hcv hr hnr
    rw [if_pos rfl] at hx0'
    rw [if_pos rfl] at hx1'
    rw [if_pos rfl, if_pos rfl] at hcv
    have ht' : RdC w tb (to + ((i : Int) + 1).toNat * 1) [.slice (some ⟨rb, ro, none⟩) nr cr] := by rw [show to + ((i : Int) + 1).toNat * 1 = to + (i + 1) by omega]; exact ht
    have hr' : RdC w rb (ro + ((k : Int) + 1).toNat * 1) [.int .i64 z] := by rw [show ro + ((k : Int) + 1).toNat * 1 = ro + (k + 1) by omega]; exact hr
    repeat' (first | refine d1 ?_ | refine dd ?_ | (show ∀ _ : Nat, T _ _ _ _ _; intro _))
    refine T_if rfl (fun h => ?_) (fun h => by exfalso; simp only [decide_eq_false_iff_not] at h; omega)
    repeat' (first | refine d1 ?_ | refine dd ?_ | (show ∀ _ : Nat, T _ _ _ _ _; intro _))
    refine T_if rfl (fun h => ?_) (fun h => by exfalso; simp only [decide_eq_false_iff_not] at h; omega)
    have hcb : 0 ≤ colV (grdOf c a b) (i : Int) (k : Int) ∧ colV (grdOf c a b) (i : Int) (k : Int) ≤ 1000 := by rw [hcv]; omega
    repeat' (first | refine d1 ?_ | refine dd ?_ | (show T _ (.ops _ (_ :: _) :: _) _ _ _; first | refine T_call rfl rfl rfl rfl rfl (fun w hw => column18_spec c A B n m ca cb a b (i : Int) (k : Int) w (h2.cls hw) hk (by omega) (by omega) (by omega)) ?_ | refine T_callC rfl rfl rfl rfl rfl rfl rfl (fun hg w hw => column18_spec c A B n m ca cb a b (i : Int) (k : Int) w (h2.cls hw) hk (by omega) (by omega) (by omega)) ?_) | (show T _ (.run _ _ (_ :: _) _ _ :: _) _ _ _; first | refine rc rfl rfl rfl rfl rfl rfl rfl (fun w hw => column18_spec c A B n m ca cb a b (i : Int) (k : Int) w (h2.cls hw) hk (by omega) (by omega) (by omega)) ?_ | refine rcG rfl rfl rfl rfl rfl rfl rfl rfl rfl (fun hg w hw => column18_spec c A B n m ca cb a b (i : Int) (k : Int) w (h2.cls hw) hk (by omega) (by omega) (by omega)) ?_) | (show ∀ _ : Nat, T _ _ _ _ _; intro _) | (show T _ (.code .ret :: _) _ _ _; refine T_retV [] rfl (Hle.none _) ⟨by rw [← hcv]; rfl, rfl⟩))
  · rw [f1] at hx0' hcv ht hnt
    rw [f2] at hx1' hcv hr hnr
    rw [if_pos rfl] at hx0'
    rw [if_neg (show ¬ (0 : Nat) = 1 by omega)] at hx1'
    rw [if_pos rfl, if_neg (show ¬ (0 : Nat) = 1 by omega)] at hcv
    have ht' : RdC w tb (to + ((i : Int) + 1).toNat * 1) [.slice (some ⟨rb, ro, none⟩) nr cr] := by rw [show to + ((i : Int) + 1).toNat * 1 = to + (i + 1) by omega]; exact ht
    have hr' : RdC w rb (ro + ((k : Int)).toNat * 1) [.int .i64 z] := by rw [show ro + ((k : Int)).toNat * 1 = ro + (k + 0) by omega]; exact hr
    repeat' (first | refine d1 ?_ | refine dd ?_ | (show ∀ _ : Nat, T _ _ _ _ _; intro _))
    refine T_if rfl (fun h => ?_) (fun h => by exfalso; simp only [decide_eq_false_iff_not] at h; omega)
    repeat' (first | refine d1 ?_ | refine dd ?_ | (show ∀ _ : Nat, T _ _ _ _ _; intro _))
    refine T_if rfl (fun h => by exfalso; simp only [decide_eq_true_eq] at h; omega) (fun h => ?_)
    have hcb : 0 ≤ colV (grdOf c a b) (i : Int) (-1) ∧ colV (grdOf c a b) (i : Int) (-1) ≤ 1000 := by rw [hcv]; omega
    repeat' (first | refine d1 ?_ | refine dd ?_ | (show T _ (.ops _ (_ :: _) :: _) _ _ _; first | refine T_call rfl rfl rfl rfl rfl (fun w hw => column18_spec c A B n m ca cb a b (i : Int) (-1) w (h2.cls hw) hk (by omega) (by omega) (by omega)) ?_ | refine T_callC rfl rfl rfl rfl rfl rfl rfl (fun hg w hw => column18_spec c A B n m ca cb a b (i : Int) (-1) w (h2.cls hw) hk (by omega) (by omega) (by omega)) ?_) | (show T _ (.run _ _ (_ :: _) _ _ :: _) _ _ _; first | refine rc rfl rfl rfl rfl rfl rfl rfl (fun w hw => column18_spec c A B n m ca cb a b (i : Int) (-1) w (h2.cls hw) hk (by omega) (by omega) (by omega)) ?_ | refine rcG rfl rfl rfl rfl rfl rfl rfl rfl rfl (fun hg w hw => column18_spec c A B n m ca cb a b (i : Int) (-1) w (h2.cls hw) hk (by omega) (by omega) (by omega)) ?_) | (show ∀ _ : Nat, T _ _ _ _ _; intro _) | (show T _ (.code .ret :: _) _ _ _; refine T_retV [] rfl (Hle.none _) ⟨by rw [← hcv]; rfl, rfl⟩))
  · rw [f1] at hx0' hcv ht hnt
    rw [f2] at hx1' hcv hr hnr
    rw [if_neg (show ¬ (0 : Nat) = 1 by omega)] at hx0'
    rw [if_pos rfl] at hx1'
    rw [if_neg (show ¬ (0 : Nat) = 1 by omega), if_pos rfl] at hcv
    have ht' : RdC w tb (to + ((i : Int)).toNat * 1) [.slice (some ⟨rb, ro, none⟩) nr cr] := by rw [show to + ((i : Int)).toNat * 1 = to + (i + 0) by omega]; exact ht
    have hr' : RdC w rb (ro + ((k : Int) + 1).toNat * 1) [.int .i64 z] := by rw [show ro + ((k : Int) + 1).toNat * 1 = ro + (k + 1) by omega]; exact hr
    repeat' (first | refine d1 ?_ | refine dd ?_ | (show ∀ _ : Nat, T _ _ _ _ _; intro _))
    refine T_if rfl (fun h => by exfalso; simp only [decide_eq_true_eq] at h; omega) (fun h => ?_)
    repeat' (first | refine d1 ?_ | refine dd ?_ | (show ∀ _ : Nat, T _ _ _ _ _; intro _))
    refine T_if rfl (fun h => ?_) (fun h => by exfalso; simp only [decide_eq_false_iff_not] at h; omega)
    have hcb : 0 ≤ colV (grdOf c a b) (-1) (k : Int) ∧ colV (grdOf c a b) (-1) (k : Int) ≤ 1000 := by rw [hcv]; omega
    repeat' (first | refine d1 ?_ | refine dd ?_ | (show T _ (.ops _ (_ :: _) :: _) _ _ _; first | refine T_call rfl rfl rfl rfl rfl (fun w hw => column18_spec c A B n m ca cb a b (-1) (k : Int) w (h2.cls hw) hk (by omega) (by omega) (by omega)) ?_ | refine T_callC rfl rfl rfl rfl rfl rfl rfl (fun hg w hw => column18_spec c A B n m ca cb a b (-1) (k : Int) w (h2.cls hw) hk (by omega) (by omega) (by omega)) ?_) | (show T _ (.run _ _ (_ :: _) _ _ :: _) _ _ _; first | refine rc rfl rfl rfl rfl rfl rfl rfl (fun w hw => column18_spec c A B n m ca cb a b (-1) (k : Int) w (h2.cls hw) hk (by omega) (by omega) (by omega)) ?_ | refine rcG rfl rfl rfl rfl rfl rfl rfl rfl rfl (fun hg w hw => column18_spec c A B n m ca cb a b (-1) (k : Int) w (h2.cls hw) hk (by omega) (by omega) (by omega)) ?_) | (show ∀ _ : Nat, T _ _ _ _ _; intro _) | (show T _ (.code .ret :: _) _ _ _; refine T_retV [] rfl (Hle.none _) ⟨by rw [← hcv]; rfl, rfl⟩))
end Go.Proofs.YtmcgificpaeipaaGreatDoor
/- Walks: pairs of sources: the reference's table. -/
namespace Go.Proofs.YtmcgificpaeipaaGreatDoor
open Go.RowKit Go.Shelf Go.Proofs
set_option maxRecDepth 100000
set_option maxHeartbeats 1000000

/-- A table in work: at one place the least so far. -/
def inWork (G : Grd) (n m j i k jj : Nat) (i' k' : Nat) : Int := if i' = i ∧ k' = k then (accW G i k jj).1 else soFar n m j (rst G) i' k'
theorem inWork_zero {G : Grd} {n m j i k : Nat} (hp : (placesL n m)[j]? = some (i, k)) (hno : (i, k) ∉ (placesL n m).take j) (i' k' : Nat) : inWork G n m j i k 0 i' k' = soFar n m j (rst G) i' k' := by
  unfold inWork
  split
  · rename_i h; obtain ⟨rfl, rfl⟩ := h
    unfold soFar; rw [if_neg hno]; rfl
  · rfl
theorem inWork_all {G : Grd} {n m j i k : Nat} (hp : (placesL n m)[j]? = some (i, k)) (i' k' : Nat) : inWork G n m j i k (mvs G i k).length i' k' = soFar n m (j + 1) (rst G) i' k' := by
  rw [soFar_step hp]; unfold inWork; rw [accW_all]
theorem place_new {n m p q : Nat} (hp : p ≤ n) (hq : q ≤ m) : (n - p, m - q) ∉ (placesL n m).take (p * (m + 1) + q) := by
  intro h
  obtain ⟨j, hj⟩ := List.mem_iff_getElem?.1 h
  have hjl : j < p * (m + 1) + q := by
    have := (List.getElem?_eq_some_iff.1 hj).1
    rw [List.length_take] at this; omega
  rw [List.getElem?_take_of_lt hjl] at hj
  obtain ⟨p', q', h1, h2, rfl, e1, e2⟩ := placesL_at hj
  obtain rfl : p' = p := by omega
  obtain rfl : q' = q := by omega
  omega
theorem table18_spec (c : Costs) (A B : Option Addr) (n m ca cb : Nat) (a b : List Tok) (w : World) (h2 : Two w A B n m a b) (hk : ckV c a b = 0) :
    Spec Tryz.prog 51 [c.val, .slice A n ca, .slice B m cb] w (fun v R => ∃ x : Value, True ∧ v = x ∧ R = [dat [x] [rowsD (tabR n m (rst (grdOf c a b)))]]) := by
  have hG := grdOf_ok (ckV_ok hk).1 a b
  have hnb := h2.hnb
  have hmb := h2.hmb
  refine spec_of sg Tryz.func51 rfl rfl rfl ?_
  refine T_op (OpT.box (cs := c.cells) rfl rfl rfl rfl rfl rfl rfl (fun pc => ?_))
  repeat' (first | refine d1 ?_ | refine dd ?_ | (show ∀ _ : Nat, T _ _ _ _ _; intro _))
  rename_i b0
  refine T_le (H' := [row 33 1 (some ⟨b0, 0, none⟩) 0 0 [], blk pc c.cells 23]) (Hle.weaken (i := 0) rfl (blk_row (sz := 1) (n := 0) rfl (by simp only [maxLen]; omega)) rfl) ?_
  refine T_nilblks 3 ?_
  refine T_loopX (fun s : List (Nat × List Value) × Nat × Nat => [(8, .int .i64 s.1.length), (7, .slice (some ⟨s.2.1, 0, none⟩) s.1.length s.2.2)]) (fun s => [blks 3 s.1, row 33 1 (some ⟨s.2.1, 0, none⟩) s.2.2 s.1.length (s.1.map (slv m)), blk pc c.cells 23]) (fun s => s.1.length ≤ n + 1 ∧ RowsOk (fun _ _ => 0) (m + 1) s.1) (fun s => n + 1 - s.1.length) ([], b0, 0) ⟨Nat.zero_le _, fun i x h => by simp at h⟩ ?_
  rintro ⟨L, g, cap⟩ ⟨hL, hR⟩
  dsimp only at hL hR ⊢
  repeat' (first | refine d1 ?_ | refine dd ?_ | (show ∀ _ : Nat, T _ _ _ _ _; intro _))
  refine T_if rfl (fun h => ?_) (fun h => ?_)
  · simp only [decide_eq_true_eq] at h
    repeat' (first | refine d1 ?_ | refine dd ?_ | (show T _ (.ops _ (_ :: _) :: _) _ _ _; first | refine T_op (OpT.make rfl rfl rfl rfl rfl rfl rfl rfl rfl (by dsimp only; omega) (fun b1 => ?_)) | refine T_op (OpT.append rfl rfl rfl rfl rfl rfl rfl rfl rfl rfl (fun w hw => Src.own hw rfl) rfl (by dsimp only; omega) (by omega) (fun A' cap' hA' => ?_))) | (show ∀ _ : Nat, T _ _ _ _ _; intro _))
    obtain ⟨g', rfl⟩ := hA' (by omega)
    refine T_le (H' := [blk b1 (List.replicate (m + 1) (.int .i64 0)) 3, blks 3 L, row 33 1 (some ⟨g', 0, none⟩) cap' (L.length + 1) (L.map (slv m) ++ [.slice (some ⟨b1, 0, none⟩) (m + 1) (m + 1)]), blk pc c.cells 23]) (Hle.tail _ _) ?_
    refine T_backX (L ++ [(b1, List.replicate (m + 1) (.int .i64 0))], g', cap') ⟨by dsimp only; rw [List.length_append]; exact Nat.succ_le_of_lt (by omega), rows_snoc0 hR⟩ (by dsimp only; rw [List.length_append]; simp; omega) (hE := ⟨by dsimp only; rw [List.length_append]; rfl, by dsimp only; rw [List.length_append]; rfl, trivial⟩) (hG := ?_)
    dsimp only
    rw [List.length_append, List.map_append]
    exact blks_snoc
  simp only [decide_eq_false_iff_not] at h
  have hLn : L.length = n + 1 := by omega
  rw [hLn]
  have hR0 : RowsOk (soFar n m 0 (rst (grdOf c a b))) (m + 1) L := fun i x hx => by rw [hR i x hx, soFar_zero]
  repeat' (first | refine d1 ?_ | refine dd ?_ | (show ∀ _ : Nat, T _ _ _ _ _; intro _))
  refine T_loopX (fun s : Nat × List (Nat × List Value) => [(9, .int .i64 ((n : Int) - s.1))]) (fun s => [blks 3 s.2, row 33 1 (some ⟨g, 0, none⟩) cap (n + 1) (s.2.map (slv m)), blk pc c.cells 23]) (fun s => s.1 ≤ n + 1 ∧ s.2.length = n + 1 ∧ RowsOk (soFar n m (s.1 * (m + 1)) (rst (grdOf c a b))) (m + 1) s.2) (fun s => n + 1 - s.1) (0, L) ⟨Nat.zero_le _, hLn, by rw [Nat.zero_mul]; exact hR0⟩ ?_ (hE := ⟨by rw [show (n : Int) - ((0 : Nat) : Int) = n by omega]; rfl, trivial⟩)
  rintro ⟨p, M⟩ ⟨hp, hM, hS⟩
  dsimp only at hp hM hS ⊢
  repeat' (first | refine d1 ?_ | refine dd ?_ | (show ∀ _ : Nat, T _ _ _ _ _; intro _))
  refine T_if rfl (fun h3 => ?_) (fun h3 => ?_)
  · simp only [decide_eq_true_eq] at h3
    repeat' (first | refine d1 ?_ | refine dd ?_ | (show ∀ _ : Nat, T _ _ _ _ _; intro _))
    refine T_loopX (fun s : Nat × List (Nat × List Value) => [(10, .int .i64 ((m : Int) - s.1))]) (fun s => [blks 3 s.2, row 33 1 (some ⟨g, 0, none⟩) cap (n + 1) (s.2.map (slv m)), blk pc c.cells 23]) (fun s => s.1 ≤ m + 1 ∧ s.2.length = n + 1 ∧ RowsOk (soFar n m (p * (m + 1) + s.1) (rst (grdOf c a b))) (m + 1) s.2) (fun s => m + 1 - s.1) (0, M) ⟨Nat.zero_le _, hM, hS⟩ ?_ (hE := ⟨by rw [show (m : Int) - ((0 : Nat) : Int) = m by omega]; rfl, trivial⟩)
    rintro ⟨q, M2⟩ ⟨hq, hM2, hS2⟩
    dsimp only at hq hM2 hS2 ⊢
    repeat' (first | refine d1 ?_ | refine dd ?_ | (show ∀ _ : Nat, T _ _ _ _ _; intro _))
    refine T_if rfl (fun h4 => ?_) (fun h4 => ?_)
    · simp only [decide_eq_true_eq] at h4
      have hpl := placesL_get (n := n) (m := m) (p := p) (q := q) (by omega) (by omega)
      have hno := place_new (n := n) (m := m) (p := p) (q := q) (by omega) (by omega)
      obtain ⟨i, hi⟩ : ∃ i, i = n - p := ⟨_, rfl⟩
      obtain ⟨k, hkk⟩ : ∃ k, k = m - q := ⟨_, rfl⟩
      rw [show (n : Int) - p = (i : Nat) by omega, show (m : Int) - q = (k : Nat) by omega]
      rw [← hi, ← hkk] at hpl hno
      repeat' (first | refine d1 ?_ | refine dd ?_ | (show T _ (.ops _ (_ :: _) :: _) _ _ _; refine T_op (OpT.call rfl rfl rfl rfl rfl (fun w hw => moves18_spec c A B n m ca cb a b i k w h2.hn hnb h2.hm hmb (by omega) (by omega)) ?_)) | (show ∀ _ : Nat, T _ _ _ _ _; intro _))
      rintro v R ⟨x, -, rfl, rfl⟩
      refine T_le (H' := [dat [v] [rowsD (mvR (grdOf c a b) i k)], blks 3 M2, row 33 1 (some ⟨g, 0, none⟩) cap (n + 1) (M2.map (slv m)), blk pc c.cells 23]) (Hle.refl _) ?_
      refine T_open fun pf hx => ?_
      obtain ⟨Am, capm, csm, rfl, -, -, hcsm, hAm, hrm⟩ := hx.tab
      have hlen : (mvR (grdOf c a b) i k).length = (mvs (grdOf c a b) i k).length := by unfold mvR; rw [List.length_map]
      have hm3 := mvs_len (grdOf c a b) i k
      rw [hlen] at hAm ⊢
      repeat' (first | refine d1 ?_ | refine dd ?_ | (show ∀ _ : Nat, T _ _ _ _ _; intro _))
      refine T_loopX (fun s : Nat × List (Nat × List Value) => [(12, .int .i64 s.1)]) (fun s => [fz pf, blks 3 s.2, row 33 1 (some ⟨g, 0, none⟩) cap (n + 1) (s.2.map (slv m)), blk pc c.cells 23]) (fun s => s.1 ≤ (mvs (grdOf c a b) i k).length ∧ s.2.length = n + 1 ∧ RowsOk (inWork (grdOf c a b) n m (p * (m + 1) + q) i k s.1) (m + 1) s.2) (fun s => (mvs (grdOf c a b) i k).length - s.1) (0, M2) ⟨Nat.zero_le _, hM2, hS2.ext hM2 fun i' k' _ _ => (inWork_zero hpl hno i' k').symm⟩ ?_
      rintro ⟨jj, M3⟩ ⟨hjj, hM3, hS3⟩
      dsimp only at hjj hM3 hS3 ⊢
      repeat' (first | refine d1 ?_ | refine dd ?_ | (show ∀ _ : Nat, T _ _ _ _ _; intro _))
      refine T_if rfl (fun h5 => ?_) (fun h5 => ?_)
      · simp only [decide_eq_true_eq] at h5
        have hjl : jj < (mvs (grdOf c a b) i k).length := by omega
        obtain ⟨v, hv⟩ : ∃ v, (mvs (grdOf c a b) i k)[jj]? = some v := ⟨_, List.getElem?_eq_getElem hjl⟩
        have hb := mv_to hG h2.hn h2.hm (by omega) (by omega) hv
        obtain ⟨bm, om, rfl, hbm⟩ := hAm (by omega)
        obtain ⟨Ar, capr, hcr, -, -, hAr⟩ := hrm.tabRow (i := jj) (r := mvCol i k v) (by unfold mvR; rw [List.getElem?_map, hv]; rfl)
        obtain ⟨bx, ox, rfl, hbx⟩ := hAr (show 0 < 2 by omega)
        obtain ⟨⟨g1, c1⟩, hV1⟩ : ∃ x, M3[i + v.fst]? = some x := ⟨_, List.getElem?_eq_getElem (by omega)⟩
        obtain ⟨⟨g0, c0⟩, hV0⟩ : ∃ x, M3[i]? = some x := ⟨_, List.getElem?_eq_getElem (by omega)⟩
        have hc1 : c1 = valV (inWork (grdOf c a b) n m (p * (m + 1) + q) i k jj (i + v.fst)) (m + 1) := hS3 _ _ hV1
        have hc0 : c0 = valV (inWork (grdOf c a b) n m (p * (m + 1) + q) i k jj i) (m + 1) := hS3 _ _ hV0
        have e1 : inWork (grdOf c a b) n m (p * (m + 1) + q) i k jj (i + v.fst) (k + v.snd) = rst (grdOf c a b) (i + v.fst) (k + v.snd) := by
          unfold inWork; rw [if_neg (by omega)]; exact soFar_get hpl _ (by omega) (by omega) (by omega)
        have e0 : inWork (grdOf c a b) n m (p * (m + 1) + q) i k jj i k = (accW (grdOf c a b) i k jj).1 := if_pos ⟨rfl, rfl⟩
        have hrb := rst_bd2 hG h2.hn h2.hm hnb hmb (i + v.fst) (k + v.snd)
        have es : accW (grdOf c a b) i k (jj + 1) = stepW (grdOf c a b) i k (accW (grdOf c a b) i k jj) jj v := accW_step hv
        have hd : ∀ {r : Nat} {gr : Nat} {cr : List Value}, M3[r]? = some (gr, cr) → r < n + 1 → (M3.map (slv m))[r]? = some (.slice (some ⟨gr, 0, none⟩) (m + 1) (m + 1)) := fun h _ => by rw [List.getElem?_map, h]; rfl
        have hl0 : c0.length = m + 1 := by rw [hc0, valV_length]
        repeat' (first | refine d1 ?_ | refine dd ?_ | (show T _ (.ops _ (_ :: _) :: _) _ _ _; first | refine T_val rfl (Val.load rfl (fun hg => rdFz (p := pf) (u := .slice (some ⟨bx, ox, none⟩) 2 capr) (b := bm) (by rw [off1]; exact hbm jj _ hcr))) rfl rfl rfl ?_ | refine T_valC rfl (Val.load rfl (fun hg => rdFz (p := pf) (u := .slice (some ⟨bx, ox, none⟩) 2 capr) (b := bm) (by rw [off1]; exact hbm jj _ hcr))) rfl rfl rfl rfl rfl ?_ | refine T_call rfl rfl rfl rfl rfl (fun w hw => behind18_spec c A B n m ca cb a b i k v g 0 (n + 1) cap g1 0 (m + 1) (m + 1) bx ox capr (rst (grdOf c a b) (i + v.fst) (k + v.snd)) w (h2.cls hw) hk (by omega) (by omega) (List.mem_of_getElem? hv) (rdFz (p := pf) (hbx 0 _ rfl) w hw) (rdFz (p := pf) (hbx 1 _ rfl) w hw) (rdRow (A := some ⟨g, 0, none⟩) (by omega) (get1 (by rw [Nat.zero_add]; exact hd hV1 (by omega))) w hw) (rdM hV1 (get1 (by rw [hc1, ← e1]; exact vget (k + v.snd) (by omega) (by omega))) w hw) (by omega) (by omega) hrb) ?_ | refine T_callC rfl rfl rfl rfl rfl rfl rfl (fun hg w hw => behind18_spec c A B n m ca cb a b i k v g 0 (n + 1) cap g1 0 (m + 1) (m + 1) bx ox capr (rst (grdOf c a b) (i + v.fst) (k + v.snd)) w (h2.cls hw) hk (by omega) (by omega) (List.mem_of_getElem? hv) (rdFz (p := pf) (hbx 0 _ rfl) w hw) (rdFz (p := pf) (hbx 1 _ rfl) w hw) (rdRow (A := some ⟨g, 0, none⟩) (by omega) (get1 (by rw [Nat.zero_add]; exact hd hV1 (by omega))) w hw) (rdM hV1 (get1 (by rw [hc1, ← e1]; exact vget (k + v.snd) (by omega) (by omega))) w hw) (by omega) (by omega) hrb) ?_ | refine T_val rfl (Val.load rfl (fun hg => rdRow (A := some ⟨g, 0, none⟩) (vs := [.slice (some ⟨g0, 0, none⟩) (m + 1) (m + 1)]) (by omega) (get1 (by rw [show 0 + (i : Int).toNat * 1 = i by omega]; exact hd hV0 (by omega))))) rfl rfl rfl ?_ | refine T_valC rfl (Val.load rfl (fun hg => rdRow (A := some ⟨g, 0, none⟩) (vs := [.slice (some ⟨g0, 0, none⟩) (m + 1) (m + 1)]) (by omega) (get1 (by rw [show 0 + (i : Int).toNat * 1 = i by omega]; exact hd hV0 (by omega))))) rfl rfl rfl rfl rfl ?_ | refine T_val rfl (Val.load rfl (fun hg => rdM (l := M3) (k := i) (g := g0) (vs := [.int .i64 (accW (grdOf c a b) i k jj).1]) hV0 (get1 (by rw [hc0, ← e0]; exact vget k (by omega) (by omega))))) rfl rfl rfl ?_ | refine T_valC rfl (Val.load rfl (fun hg => rdM (l := M3) (k := i) (g := g0) (vs := [.int .i64 (accW (grdOf c a b) i k jj).1]) hV0 (get1 (by rw [hc0, ← e0]; exact vget k (by omega) (by omega))))) rfl rfl rfl rfl rfl ?_) | (show T _ (.run _ _ (_ :: _) _ _ :: _) _ _ _; first | refine rv rfl rfl rfl (Val.load rfl (fun hg => rdFz (p := pf) (u := .slice (some ⟨bx, ox, none⟩) 2 capr) (b := bm) (by rw [off1]; exact hbm jj _ hcr))) rfl rfl rfl ?_ | refine rg rfl rfl rfl (Val.load rfl (fun hg => rdFz (p := pf) (u := .slice (some ⟨bx, ox, none⟩) 2 capr) (b := bm) (by rw [off1]; exact hbm jj _ hcr))) rfl rfl rfl rfl rfl ?_ | refine rc rfl rfl rfl rfl rfl rfl rfl (fun w hw => behind18_spec c A B n m ca cb a b i k v g 0 (n + 1) cap g1 0 (m + 1) (m + 1) bx ox capr (rst (grdOf c a b) (i + v.fst) (k + v.snd)) w (h2.cls hw) hk (by omega) (by omega) (List.mem_of_getElem? hv) (rdFz (p := pf) (hbx 0 _ rfl) w hw) (rdFz (p := pf) (hbx 1 _ rfl) w hw) (rdRow (A := some ⟨g, 0, none⟩) (by omega) (get1 (by rw [Nat.zero_add]; exact hd hV1 (by omega))) w hw) (rdM hV1 (get1 (by rw [hc1, ← e1]; exact vget (k + v.snd) (by omega) (by omega))) w hw) (by omega) (by omega) hrb) ?_ | refine rcG rfl rfl rfl rfl rfl rfl rfl rfl rfl (fun hg w hw => behind18_spec c A B n m ca cb a b i k v g 0 (n + 1) cap g1 0 (m + 1) (m + 1) bx ox capr (rst (grdOf c a b) (i + v.fst) (k + v.snd)) w (h2.cls hw) hk (by omega) (by omega) (List.mem_of_getElem? hv) (rdFz (p := pf) (hbx 0 _ rfl) w hw) (rdFz (p := pf) (hbx 1 _ rfl) w hw) (rdRow (A := some ⟨g, 0, none⟩) (by omega) (get1 (by rw [Nat.zero_add]; exact hd hV1 (by omega))) w hw) (rdM hV1 (get1 (by rw [hc1, ← e1]; exact vget (k + v.snd) (by omega) (by omega))) w hw) (by omega) (by omega) hrb) ?_ | refine rv rfl rfl rfl (Val.load rfl (fun hg => rdRow (A := some ⟨g, 0, none⟩) (vs := [.slice (some ⟨g0, 0, none⟩) (m + 1) (m + 1)]) (by omega) (get1 (by rw [show 0 + (i : Int).toNat * 1 = i by omega]; exact hd hV0 (by omega))))) rfl rfl rfl ?_ | refine rg rfl rfl rfl (Val.load rfl (fun hg => rdRow (A := some ⟨g, 0, none⟩) (vs := [.slice (some ⟨g0, 0, none⟩) (m + 1) (m + 1)]) (by omega) (get1 (by rw [show 0 + (i : Int).toNat * 1 = i by omega]; exact hd hV0 (by omega))))) rfl rfl rfl rfl rfl ?_ | refine rv rfl rfl rfl (Val.load rfl (fun hg => rdM (l := M3) (k := i) (g := g0) (vs := [.int .i64 (accW (grdOf c a b) i k jj).1]) hV0 (get1 (by rw [hc0, ← e0]; exact vget k (by omega) (by omega))))) rfl rfl rfl ?_ | refine rg rfl rfl rfl (Val.load rfl (fun hg => rdM (l := M3) (k := i) (g := g0) (vs := [.int .i64 (accW (grdOf c a b) i k jj).1]) hV0 (get1 (by rw [hc0, ← e0]; exact vget k (by omega) (by omega))))) rfl rfl rfl rfl rfl ?_) | (show ∀ _ : Nat, T _ _ _ _ _; intro _))
        refine T_if rfl (fun h6 => ?_) (fun h6 => ?_)
        · simp only [Bool.or_eq_true, decide_eq_true_eq] at h6
          have es2 : (accW (grdOf c a b) i k (jj + 1)).1 = via (grdOf c a b) i k v := by
            rw [es]; unfold stepW; rw [if_pos]
            rcases h6 with h6 | h6
            · exact .inl (by omega)
            · exact .inr h6
          repeat' (first | refine d1 ?_ | refine dd ?_ | (show T _ (.ops _ (_ :: _) :: _) _ _ _; first | refine T_val rfl (Val.load rfl (fun hg => rdRow (A := some ⟨g, 0, none⟩) (vs := [.slice (some ⟨g0, 0, none⟩) (m + 1) (m + 1)]) (by omega) (get1 (by rw [show 0 + (i : Int).toNat * 1 = i by omega]; exact hd hV0 (by omega))))) rfl rfl rfl ?_ | refine T_valC rfl (Val.load rfl (fun hg => rdRow (A := some ⟨g, 0, none⟩) (vs := [.slice (some ⟨g0, 0, none⟩) (m + 1) (m + 1)]) (by omega) (get1 (by rw [show 0 + (i : Int).toNat * 1 = i by omega]; exact hd hV0 (by omega))))) rfl rfl rfl rfl rfl ?_ | refine T_op (OpT.storeM rfl rfl rfl hV0 rfl (by rw [hl0]; omega) ?_)) | (show T _ (.run _ _ (_ :: _) _ _ :: _) _ _ _; first | refine rv rfl rfl rfl (Val.load rfl (fun hg => rdRow (A := some ⟨g, 0, none⟩) (vs := [.slice (some ⟨g0, 0, none⟩) (m + 1) (m + 1)]) (by omega) (get1 (by rw [show 0 + (i : Int).toNat * 1 = i by omega]; exact hd hV0 (by omega))))) rfl rfl rfl ?_ | refine rg rfl rfl rfl (Val.load rfl (fun hg => rdRow (A := some ⟨g, 0, none⟩) (vs := [.slice (some ⟨g0, 0, none⟩) (m + 1) (m + 1)]) (by omega) (get1 (by rw [show 0 + (i : Int).toNat * 1 = i by omega]; exact hd hV0 (by omega))))) rfl rfl rfl rfl rfl ?_) | (show ∀ _ : Nat, T _ _ _ _ _; intro _))
          refine T_backX (jj + 1, M3.set i (g0, c0.set k (.int .i64 (via (grdOf c a b) i k v)))) ⟨Nat.succ_le_of_lt hjl, by dsimp only; rw [List.length_set]; exact hM3, rows_put hS3 hV0 fun i' k' => ?_⟩ (by dsimp only; omega) (hG := ?_)
          · unfold inWork
            rw [es2]
            split <;> rfl
          · dsimp only
            rw [slv_set hV0, show 0 + (k : Int).toNat * 1 = k by omega]
            exact Hle.refl _
        · simp only [Bool.or_eq_false_iff, decide_eq_false_iff_not] at h6
          have es2 : (accW (grdOf c a b) i k (jj + 1)).1 = (accW (grdOf c a b) i k jj).1 := by
            rw [es, stepW_fst, if_neg (by omega)]
            have h7 : ¬ via (grdOf c a b) i k v < (accW (grdOf c a b) i k jj).1 := h6.2
            omega
          repeat' (first | refine d1 ?_ | refine dd ?_ | (show ∀ _ : Nat, T _ _ _ _ _; intro _))
          refine T_backX (jj + 1, M3) ⟨Nat.succ_le_of_lt hjl, hM3, hS3.ext hM3 fun i' k' _ _ => ?_⟩ (by dsimp only; omega)
          unfold inWork; rw [es2]
      · simp only [decide_eq_false_iff_not] at h5
        obtain rfl : jj = (mvs (grdOf c a b) i k).length := by omega
        repeat' (first | refine d1 ?_ | refine dd ?_ | (show ∀ _ : Nat, T _ _ _ _ _; intro _))
        refine T_backX (q + 1, M3) ⟨by dsimp only; omega, hM3, hS3.ext hM3 fun i' k' _ _ => inWork_all hpl i' k'⟩ (by dsimp only; omega) (hE := ⟨by dsimp only; rw [show (m : Int) - ((q + 1 : Nat) : Int) = (k : Int) - 1 by omega]; rfl, trivial⟩) (hG := Hle.tail _ _)
    · simp only [decide_eq_false_iff_not] at h4
      obtain rfl : q = m + 1 := by omega
      repeat' (first | refine d1 ?_ | refine dd ?_ | (show ∀ _ : Nat, T _ _ _ _ _; intro _))
      exact T_backX (p + 1, M2) ⟨by dsimp only; omega, hM2, by dsimp only; rw [Nat.succ_mul]; exact hS2⟩ (by dsimp only; omega) (hE := ⟨by dsimp only; rw [show (n : Int) - ((p + 1 : Nat) : Int) = (n : Int) - p - 1 by omega]; rfl, trivial⟩)
  · simp only [decide_eq_false_iff_not] at h3
    obtain rfl : p = n + 1 := by omega
    have hR' : RowsOk (rst (grdOf c a b)) (m + 1) M := hS.ext hM fun i k hi hk => soFar_all (by rw [placesL_len]; exact Nat.le_refl _) _ (by omega) (by omega)
    have q1 : ∀ x ∈ M, m + 1 ≤ x.2.length := fun x hx => by obtain ⟨i, hi, e⟩ := List.getElem_of_mem hx; rw [hS i x (by rw [List.getElem?_eq_getElem hi, e]), valV_length]; omega
    have hle : Hle [blks 3 M, row 33 1 (some ⟨g, 0, none⟩) cap (n + 1) (M.map (slv m)), blk pc c.cells 23] [dat [.slice (some ⟨g, 0, none⟩) (n + 1) cap] [rowsD (tabR n m (rst (grdOf c a b)))]] := by
      refine (dat_blks (L := M) (m + 1) (m + 1) (by omega) (by omega) q1).trans ?_
      rw [tab_rows hM hR']
      exact (Hle.perm (List.Perm.swap _ _ _)).trans (dat_row.trans (show Hle _ [dat [.slice (some ⟨g, 0, none⟩) (n + 1) cap] [D.s 1 ((tabR n m (rst (grdOf c a b))).map intsD)]] from Hle.sub))
    repeat' (first | refine d1 ?_ | refine dd ?_ | (show ∀ _ : Nat, T _ _ _ _ _; intro _) | (show T _ (.code .ret :: _) _ _ _; refine T_retV _ rfl hle ⟨_, trivial, rfl, rfl⟩))
end Go.Proofs.YtmcgificpaeipaaGreatDoor
