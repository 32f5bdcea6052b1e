/- The law MultiwayBound holds for whatever costs, sources and columns: the tied card of its row. No condition beyond the row's own. -/
import Derived.Test.YtofikdpbagnjbaaGreatDoorJ4
import Derived.Test.YtofikdpbagnjbaaGreatDoorCards
import Derived.Test.YtofikdpbagnjbaaGreatDoorTie
set_option linter.unusedVariables false
set_option linter.unusedSimpArgs false
namespace Go.Proofs.YtofikdpbagnjbaaGreatDoor
open Go.RowKit Go.Shelf Go.ChangeShapes Go.WideShapes Go.Proofs
set_option maxRecDepth 100000
set_option maxHeartbeats 1000000

def pairZ (c : Costs) (l : List TS) (o : List (List Int)) (i k : Nat) : Int := totZ c [tsA l i, tsA l k] (prjC [i, k] o)
theorem boundM_spec (c : Costs) (x : Value) (m : List (List Tok)) (y : Value) (o : List (List Int)) (w : World) (hst : Std w) (hx : Rd (wr w) [x] [.s 1 (m.map toksD)]) (hy : Rd (wr w) [y] [rowsD o]) :
    Spec Tryz.prog 20 [c.val, x, y] w (fun v R => v = .bool true ∧ R = []) := by
  obtain ⟨A, ca, l, rfl, hnb, hs, hl, -⟩ := hx.toksL
  have hy0 := hy
  obtain ⟨Ao, co, cso, rfl, ho1, ho2, hos, horows⟩ := hy.tabS
  refine spec_of sg Tryz.func20 rfl rfl rfl ?_
  refine T_op (OpT.box (cs := c.cells) rfl rfl rfl rfl rfl rfl rfl (fun pc => ?_))
  repeat' (first | refine d1 ?_ | refine dd ?_ | (show T _ (.ops _ (_ :: _) :: _) _ _ _; first | refine T_call rfl rfl rfl rfl rfl (fun w hw => great19_spec A l.length ca l 5 6 w (rdSrc hs w hw) rfl hnb ⟨fun t ht => src_below (hl.src t ht) hw.below, hl.len, hl.bd⟩ (by omega) (by omega)) ?_ | refine T_callC rfl rfl rfl rfl rfl rfl rfl (fun hg w hw => great19_spec A l.length ca l 5 6 w (rdSrc hs w hw) rfl hnb ⟨fun t ht => src_below (hl.src t ht) hw.below, hl.len, hl.bd⟩ (by omega) (by omega)) ?_ | refine T_call rfl rfl rfl rfl rfl (fun w hw => greatC19_spec _ o 16 w (hy0.old hw)) ?_ | refine T_callC rfl rfl rfl rfl rfl rfl rfl (fun hg w hw => greatC19_spec _ o 16 w (hy0.old hw)) ?_) | (show T _ (.run _ _ (_ :: _) _ _ :: _) _ _ _; first | refine rc rfl rfl rfl rfl rfl rfl rfl (fun w hw => great19_spec A l.length ca l 5 6 w (rdSrc hs w hw) rfl hnb ⟨fun t ht => src_below (hl.src t ht) hw.below, hl.len, hl.bd⟩ (by omega) (by omega)) ?_ | refine rcG rfl rfl rfl rfl rfl rfl rfl rfl rfl (fun hg w hw => great19_spec A l.length ca l 5 6 w (rdSrc hs w hw) rfl hnb ⟨fun t ht => src_below (hl.src t ht) hw.below, hl.len, hl.bd⟩ (by omega) (by omega)) ?_ | refine rc rfl rfl rfl rfl rfl rfl rfl (fun w hw => greatC19_spec _ o 16 w (hy0.old hw)) ?_ | refine rcG rfl rfl rfl rfl rfl rfl rfl rfl rfl (fun hg w hw => greatC19_spec _ o 16 w (hy0.old hw)) ?_) | (show ∀ _ : Nat, T _ _ _ _ _; intro _))
  refine T_if rfl (fun _ => ?_) (fun h => ?_)
  · repeat' (first | refine d1 ?_ | refine dd ?_ | (show T _ (.ops _ (_ :: _) :: _) _ _ _; first | refine T_call rfl rfl rfl rfl rfl (fun w hw => awake19_spec w (hst.cls hw)) ?_ | refine T_callC rfl rfl rfl rfl rfl rfl rfl (fun hg w hw => awake19_spec w (hst.cls hw)) ?_) | (show T _ (.run _ _ (_ :: _) _ _ :: _) _ _ _; first | refine rc rfl rfl rfl rfl rfl rfl rfl (fun w hw => awake19_spec w (hst.cls hw)) ?_ | refine rcG rfl rfl rfl rfl rfl rfl rfl rfl rfl (fun hg w hw => awake19_spec w (hst.cls hw)) ?_) | (show ∀ _ : Nat, T _ _ _ _ _; intro _) | (show T _ (.code .ret :: _) _ _ _; refine T_retV [] rfl (Hle.none _) ⟨rfl, rfl⟩))
  have hh : l.length ≤ 5 ∧ great19B l 5 6 = false ∧ greatC19 o 16 = false := by
    simp only [Bool.or_eq_false_iff, decide_eq_false_iff_not] at h
    exact ⟨by omega, h.1.2, h.2⟩
  clear h
  obtain ⟨h5, hgr, hgo⟩ := hh
  obtain ⟨-, ho16⟩ := greatC19_no hgo
  obtain ⟨g1, g2, g3⟩ := great19_no hl hgr
  by_cases hbig : l.length ≠ 0 ∧ ∃ t ∈ l, 1024 < t.n
  · repeat' (first | refine d1 ?_ | refine dd ?_ | (show T _ (.ops _ (_ :: _) :: _) _ _ _; first | refine T_call rfl rfl rfl rfl rfl (fun w hw => costBig_spec c A l.length ca l _ w (rdSrc hs w hw) rfl (by omega) hbig.1 (.inr hbig.2)) ?_ | refine T_callC rfl rfl rfl rfl rfl rfl rfl (fun hg w hw => costBig_spec c A l.length ca l _ w (rdSrc hs w hw) rfl (by omega) hbig.1 (.inr hbig.2)) ?_ | refine T_call rfl rfl rfl rfl rfl (fun w hw => boundBig_spec c A l.length ca l w (rdSrc hs w hw) rfl (by omega) hbig.1 (.inr hbig.2)) ?_ | refine T_callC rfl rfl rfl rfl rfl rfl rfl (fun hg w hw => boundBig_spec c A l.length ca l w (rdSrc hs w hw) rfl (by omega) hbig.1 (.inr hbig.2)) ?_) | (show T _ (.run _ _ (_ :: _) _ _ :: _) _ _ _; first | refine rc rfl rfl rfl rfl rfl rfl rfl (fun w hw => costBig_spec c A l.length ca l _ w (rdSrc hs w hw) rfl (by omega) hbig.1 (.inr hbig.2)) ?_ | refine rcG rfl rfl rfl rfl rfl rfl rfl rfl rfl (fun hg w hw => costBig_spec c A l.length ca l _ w (rdSrc hs w hw) rfl (by omega) hbig.1 (.inr hbig.2)) ?_ | refine rc rfl rfl rfl rfl rfl rfl rfl (fun w hw => boundBig_spec c A l.length ca l w (rdSrc hs w hw) rfl (by omega) hbig.1 (.inr hbig.2)) ?_ | refine rcG rfl rfl rfl rfl rfl rfl rfl rfl rfl (fun hg w hw => boundBig_spec c A l.length ca l w (rdSrc hs w hw) rfl (by omega) hbig.1 (.inr hbig.2)) ?_) | (show ∀ _ : Nat, T _ _ _ _ _; intro _))
    refine T_if rfl (fun _ => ?_) (fun h => by exfalso; simp at h)
    repeat' (first | refine d1 ?_ | refine dd ?_ | (show T _ (.ops _ (_ :: _) :: _) _ _ _; first | refine T_call rfl rfl rfl rfl rfl (fun w hw => awake19_spec w (hst.cls hw)) ?_ | refine T_callC rfl rfl rfl rfl rfl rfl rfl (fun hg w hw => awake19_spec w (hst.cls hw)) ?_) | (show T _ (.run _ _ (_ :: _) _ _ :: _) _ _ _; first | refine rc rfl rfl rfl rfl rfl rfl rfl (fun w hw => awake19_spec w (hst.cls hw)) ?_ | refine rcG rfl rfl rfl rfl rfl rfl rfl rfl rfl (fun hg w hw => awake19_spec w (hst.cls hw)) ?_) | (show ∀ _ : Nat, T _ _ _ _ _; intro _) | (show T _ (.code .ret :: _) _ _ _; refine T_retV [] rfl (Hle.none _) ⟨rfl, rfl⟩))
  have hq : ∀ t ∈ l, t.n ≤ 6 := fun t ht => by
    rcases g2 t ht with h9 | h9
    · exact h9
    · exact absurd ⟨by have := List.length_pos_of_mem ht; omega, t, ht, h9.1⟩ hbig
  have hgp : Grp w A l.length l := ⟨hst, hs, rfl, by omega, hl, fun t ht => by have := hq t ht; omega, g3⟩
  have hq' : ∀ t ∈ l, t.n ≤ 100 := fun t ht => by have := hq t ht; omega
  repeat' (first | refine d1 ?_ | refine dd ?_ | (show T _ (.ops _ (_ :: _) :: _) _ _ _; first | refine T_call rfl rfl rfl rfl rfl (fun w hw => costSum19_spec c A l.length ca l _ o w (hgp.cls hw) (hy0.old hw) (by omega)) ?_ | refine T_callC rfl rfl rfl rfl rfl rfl rfl (fun hg w hw => costSum19_spec c A l.length ca l _ o w (hgp.cls hw) (hy0.old hw) (by omega)) ?_ | refine T_call rfl rfl rfl rfl rfl (fun w hw => bound19_spec c A l.length ca l w (hgp.cls hw) hq') ?_ | refine T_callC rfl rfl rfl rfl rfl rfl rfl (fun hg w hw => bound19_spec c A l.length ca l w (hgp.cls hw) hq') ?_) | (show T _ (.run _ _ (_ :: _) _ _ :: _) _ _ _; first | refine rc rfl rfl rfl rfl rfl rfl rfl (fun w hw => costSum19_spec c A l.length ca l _ o w (hgp.cls hw) (hy0.old hw) (by omega)) ?_ | refine rcG rfl rfl rfl rfl rfl rfl rfl rfl rfl (fun hg w hw => costSum19_spec c A l.length ca l _ o w (hgp.cls hw) (hy0.old hw) (by omega)) ?_ | refine rc rfl rfl rfl rfl rfl rfl rfl (fun w hw => bound19_spec c A l.length ca l w (hgp.cls hw) hq') ?_ | refine rcG rfl rfl rfl rfl rfl rfl rfl rfl rfl (fun hg w hw => bound19_spec c A l.length ca l w (hgp.cls hw) hq') ?_) | (show ∀ _ : Nat, T _ _ _ _ _; intro _))
  refine T_if rfl (fun _ => ?_) (fun h => ?_)
  · repeat' (first | refine d1 ?_ | refine dd ?_ | (show T _ (.ops _ (_ :: _) :: _) _ _ _; first | refine T_call rfl rfl rfl rfl rfl (fun w hw => awake19_spec w (hst.cls hw)) ?_ | refine T_callC rfl rfl rfl rfl rfl rfl rfl (fun hg w hw => awake19_spec w (hst.cls hw)) ?_) | (show T _ (.run _ _ (_ :: _) _ _ :: _) _ _ _; first | refine rc rfl rfl rfl rfl rfl rfl rfl (fun w hw => awake19_spec w (hst.cls hw)) ?_ | refine rcG rfl rfl rfl rfl rfl rfl rfl rfl rfl (fun hg w hw => awake19_spec w (hst.cls hw)) ?_) | (show ∀ _ : Nat, T _ _ _ _ _; intro _) | (show T _ (.code .ret :: _) _ _ _; refine T_retV [] rfl (Hle.none _) ⟨rfl, rfl⟩))
  have hu : usV c l = 0 ∧ okC l o = true := by
    by_cases h8 : usV c l ≠ 0
    · exfalso
      rw [show costW c l o = (0, usV c l) from if_pos h8] at h
      simp [h8] at h
    · refine ⟨by omega, ?_⟩
      cases h7 : okC l o with
      | true => rfl
      | false =>
        exfalso
        have e : costW c l o = (0, 19) := by unfold costW; rw [if_neg h8, if_neg (by rw [h7]; decide)]
        rw [e] at h
        simp at h
  clear h
  obtain ⟨hu, hokc⟩ := hu
  obtain ⟨h1, hc, hbs⟩ := usV_ok hu
  have hok : ColsOk (lens l) o := Classical.byContradiction fun h9 => by rw [okC_false h9] at hokc; cases hokc
  have e1 : costW c l o = (totZ c l o, 0) := by unfold costW; rw [if_neg (by simpa using hu), if_pos hokc]
  have e2 : boundW c l = (ssum (dstT c l) l.length l.length, 0) := if_neg (by simpa using hu)
  rw [e1, e2]
  have hge : ssum (dstT c l) l.length l.length ≤ totZ c l o := by rw [ssum_eq]; exact totZ_ge hl.len hok
  have hpz : totZ c l o = ssum (pairZ c l o) l.length l.length := totZ_prj c l o
  have hbd := dstT_bd2 hc (l := l) (fun t ht => by rw [hl.len t ht]; exact hq' t ht)
  have hpb : ∀ i k, 0 ≤ pairZ c l o i k ∧ pairZ c l o i k ≤ 16384000 := fun i k => by
    have h9 := totZ_bd hc (l := [tsA l i, tsA l k]) (by simp) (prjC [i, k] o)
    have h8 : (prjC [i, k] o).length ≤ 16 := by
      unfold prjC
      have h7 := List.length_filter_le anyP (o.map (prjR [i, k]))
      rw [List.length_map] at h7
      omega
    unfold pairZ
    omega
  obtain ⟨n, hn⟩ : ∃ n, n = l.length := ⟨_, rfl⟩
  have hsb : ∀ i : Nat, i ≤ n → 0 ≤ ssum (dstT c l) n i ∧ ssum (dstT c l) n i ≤ 5000000 := fun i hi => by
    have h1 := ssum_bd (M := 200000) (by omega) hbd n i
    have h2 : (200000 * (n : Int)) * (i : Int) ≤ (200000 * 5) * 5 := Int.mul_le_mul (by omega) (by omega) (by omega) (by omega)
    omega
  have hrb : ∀ i k : Nat, k ≤ n → 0 ≤ rsum (dstT c l) i k ∧ rsum (dstT c l) i k ≤ 1000000 := fun i k hk => by
    have h1 := rsum_bd (M := 200000) (by omega) hbd i k
    omega
  have hsp : ∀ i : Nat, i ≤ n → 0 ≤ ssum (pairZ c l o) n i ∧ ssum (pairZ c l o) n i ≤ 409600000 := fun i hi => by
    have h1 := ssum_bd (M := 16384000) (by omega) hpb n i
    have h2 : (16384000 * (n : Int)) * (i : Int) ≤ (16384000 * 5) * 5 := Int.mul_le_mul (by omega) (by omega) (by omega) (by omega)
    omega
  have hrp : ∀ i k : Nat, k ≤ n → 0 ≤ rsum (pairZ c l o) i k ∧ rsum (pairZ c l o) i k ≤ 81920000 := fun i k hk => by
    have h1 := rsum_bd (M := 16384000) (by omega) hpb i k
    omega
  rw [← hn] at hge hpz hgp ⊢
  repeat' (first | refine d1 ?_ | refine dd ?_ | (show ∀ _ : Nat, T _ _ _ _ _; intro _))
  refine T_loopX (fun i : Nat => [(56, .int .i64 (i : Nat)), (11, .int .i64 (ssum (pairZ c l o) n i)), (12, .int .i64 (ssum (dstT c l) n i))]) (fun _ => [blk pc c.cells 23]) (fun i => i ≤ n) (fun i => n - i) 0 (Nat.zero_le _) ?_
  intro i hi
  repeat' (first | refine d1 ?_ | refine dd ?_ | (show ∀ _ : Nat, T _ _ _ _ _; intro _))
  refine T_if rfl (fun h3 => ?_) (fun h3 => ?_)
  · simp only [decide_eq_true_eq] at h3
    have hin : i < n := by omega
    have hs1 := hsb i hi
    have hs2 := hsp i hi
    repeat' (first | refine d1 ?_ | refine dd ?_ | (show ∀ _ : Nat, T _ _ _ _ _; intro _))
    refine T_loopX (fun k : Nat => [(14, .int .i64 (k : Nat)), (11, .int .i64 (ssum (pairZ c l o) n i + rsum (pairZ c l o) i k)), (12, .int .i64 (ssum (dstT c l) n i + rsum (dstT c l) i k))]) (fun _ => [blk pc c.cells 23]) (fun k => i + 1 ≤ k ∧ k ≤ n) (fun k => n - k) (i + 1) ⟨Nat.le_refl _, hin⟩ ?_ (hE := ⟨rfl, by rw [rsum_low _ _ _ (Nat.le_refl _), Int.add_zero]; rfl, by rw [rsum_low _ _ _ (Nat.le_refl _), Int.add_zero]; rfl, trivial⟩)
    rintro k ⟨hk1, hk2⟩
    repeat' (first | refine d1 ?_ | refine dd ?_ | (show ∀ _ : Nat, T _ _ _ _ _; intro _))
    refine T_if rfl (fun h4 => ?_) (fun h4 => ?_)
    · simp only [decide_eq_true_eq] at h4
      have hkn : k < n := by omega
      obtain ⟨b, o9, rfl⟩ := hgp.hs.base (by omega)
      obtain ⟨s, hs9, hsm, hrs⟩ := hgp.get (k := i) (by omega)
      obtain ⟨t, ht9, htm, hrt⟩ := hgp.get (k := k) (by omega)
      have hd := dst_V hc hbs hs9 ht9 (show i < k by omega)
      have hbk := hbd i k
      have hpk := hpb i k
      have hr1 := hrb i k hk2
      have hr2 := hrp i k hk2
      have hst1 : rsum (dstT c l) i (k + 1) = rsum (dstT c l) i k + dstT c l i k := by rw [rsum, if_pos (by omega)]
      have hst2 : rsum (pairZ c l o) i (k + 1) = rsum (pairZ c l o) i k + pairZ c l o i k := by rw [rsum, if_pos (by omega)]
      have hp1 : prjV l o [(i : Int), (k : Int)] = (prjC [i, k] o, 0) := prjV_ok (chkC_ok (by omega) hok) (kk := [i, k]) (by simp) (List.forall_mem_cons.2 ⟨by omega, List.forall_mem_cons.2 ⟨by omega, fun s h => by cases h⟩⟩) (by simp; omega)
      repeat' (first | refine d1 ?_ | refine dd ?_ | (show T _ (.ops _ (_ :: _) :: _) _ _ _; refine T_op (OpT.call rfl rfl rfl rfl rfl (fun w hw => project19_spec (some ⟨b, o9, none⟩) n ca l _ _ o [(i : Int), (k : Int)] w (hgp.cls hw) (hy0.old hw) (rd_ints (n := 2) (r := [(i : Int), (k : Int)]) (Src.own hw rfl) (by omega)) (by simp) (by omega)) ?_)) | (show ∀ _ : Nat, T _ _ _ _ _; intro _))
      rintro v R ⟨z1, -, rfl, rfl⟩
      rw [hp1]
      refine T_le (H' := [dat [z1] [rowsD (prjC [i, k] o)], blk pc c.cells 23]) (Hle.drop2 _ _ _) ?_
      refine T_open fun q1 hq1 => ?_
      have hms : ∀ x ∈ ([s, t] : List TS), x ∈ l := List.forall_mem_cons.2 ⟨hsm, List.forall_mem_cons.2 ⟨htm, fun t h => by cases h⟩⟩
      have hgt : ∀ {w' : World} {H : List HA} {g : Nat}, Cls w w' H → Src w' 1 (some ⟨g, 0, none⟩) 2 (([s, t] : List TS).map TS.val) → Grp w' (some ⟨g, 0, none⟩) 2 [s, t] := fun {w' H g} hw h9 => by
        have hg9 := hgp.cls hw
        exact ⟨hg9.hst, h9, rfl, by omega, ⟨fun x hx => hg9.ok.src x (hms x hx), fun x hx => hg9.ok.len x (hms x hx), fun x hx => hg9.ok.bd x (hms x hx)⟩, fun x hx => hg9.nb x (hms x hx), fun x hx => hg9.sm x (hms x hx)⟩
      have hbs2 : badS [s, t] = false := by
        unfold badS at hbs ⊢
        rw [List.any_eq_false] at hbs ⊢
        exact fun x hx => hbs x (hms x hx)
      have hck2 : ck21 c [s, t] = 0 := if_pos ⟨hc, hbs2⟩
      have hus2 : usV c [s, t] = 0 := by
        unfold usV
        rw [if_neg (by simp)]
        exact hck2
      have hok2 : ColsOk (lens [s, t]) (prjC [i, k] o) := by
        have h9 := prjC_ok hok (keep := [i, k]) (List.forall_mem_cons.2 ⟨by rw [lens_len]; omega, List.forall_mem_cons.2 ⟨by rw [lens_len]; omega, fun s h => by cases h⟩⟩)
        have e9 : ([i, k] : List Nat).map (fun s => (lens l).getD s 0) = lens [s, t] := by
          show [(lens l).getD i 0, (lens l).getD k 0] = [s.n, t.n]
          rw [List.getD_eq_getElem?_getD, List.getD_eq_getElem?_getD, lens_get hs9, lens_get ht9]; rfl
        rw [e9] at h9
        exact h9
      have hpe : pairZ c l o i k = totZ c [s, t] (prjC [i, k] o) := by unfold pairZ; rw [tsA_eq hs9, tsA_eq ht9]
      have e3 : costW c [s, t] (prjC [i, k] o) = (pairZ c l o i k, 0) := by unfold costW; rw [if_neg (by simpa using hus2), if_pos (okC_true hok2), hpe]
      have hle : dstT c l i k ≤ pairZ c l o i k := by
        have h9 := totZ_ge (c := c) (l := [s, t]) (List.forall_mem_cons.2 ⟨hl.len s hsm, List.forall_mem_cons.2 ⟨hl.len t htm, fun t h => by cases h⟩⟩) hok2
        have h8 := dst_V (l := [s, t]) hc hbs2 (i := 0) (k := 1) rfl rfl (by omega)
        rw [hd] at h8
        have h7 : dstT c l i k = dstT c [s, t] 0 1 := congrArg Prod.fst h8
        have h6 : psum (dstT c [s, t]) (pairsL 2) = 0 + dstT c [s, t] 0 1 := rfl
        have h5 : psum (dstT c [s, t]) (pairsL 2) ≤ totZ c [s, t] (prjC [i, k] o) := h9
        rw [hpe, h7]
        omega
      have hpl : (prjC [i, k] o).length ≤ 16 := by
        unfold prjC
        have h7 := List.length_filter_le anyP (o.map (prjR [i, k]))
        rw [List.length_map] at h7
        omega
      repeat' (first | refine d1 ?_ | (show ∀ _ : Nat, T _ _ _ _ _; intro _))
      refine rsH [fz q1, blk pc c.cells 23] 1000 [0, 1, 2, 3, 4, 5, 6, 7, 8, 9] ?_
      repeat' (first | refine d1 ?_ | refine dd ?_ | (show T _ (.ops _ (_ :: _) :: _) _ _ _; first | refine T_val rfl (Val.load rfl (fun hg => rdOld hrs)) rfl rfl rfl ?_ | refine T_valC rfl (Val.load rfl (fun hg => rdOld hrs)) rfl rfl rfl rfl rfl ?_ | refine T_val rfl (Val.load rfl (fun hg => rdOld hrt)) rfl rfl rfl ?_ | refine T_valC rfl (Val.load rfl (fun hg => rdOld hrt)) rfl rfl rfl rfl rfl ?_ | refine T_call rfl rfl rfl rfl rfl (fun w hw => costSum19_spec c _ 2 2 [s, t] z1 (prjC [i, k] o) w (hgt hw (Src.own hw rfl)) (hq1.own hw) (by omega)) ?_ | refine T_callC rfl rfl rfl rfl rfl rfl rfl (fun hg w hw => costSum19_spec c _ 2 2 [s, t] z1 (prjC [i, k] o) w (hgt hw (Src.own hw rfl)) (hq1.own hw) (by omega)) ?_ | refine T_call rfl rfl rfl rfl rfl (fun w hw => distancePrg_spec c s.A t.A s.n t.n s.cap t.cap s.l t.l w ((hgp.cls hw).two hsm htm)) ?_ | refine T_callC rfl rfl rfl rfl rfl rfl rfl (fun hg w hw => distancePrg_spec c s.A t.A s.n t.n s.cap t.cap s.l t.l w ((hgp.cls hw).two hsm htm)) ?_) | (show T _ (.run _ _ (_ :: _) _ _ :: _) _ _ _; first | refine rv rfl rfl rfl (Val.load rfl (fun hg => rdOld hrs)) rfl rfl rfl ?_ | refine rg rfl rfl rfl (Val.load rfl (fun hg => rdOld hrs)) rfl rfl rfl rfl rfl ?_ | refine rv rfl rfl rfl (Val.load rfl (fun hg => rdOld hrt)) rfl rfl rfl ?_ | refine rg rfl rfl rfl (Val.load rfl (fun hg => rdOld hrt)) rfl rfl rfl rfl rfl ?_ | refine ro rfl rfl (OpT.litW rfl rfl rfl rfl rfl rfl rfl rfl rfl rfl rfl (fun g => ⟨fun _ => Hle.tail _ _, ?_⟩)) | refine rc rfl rfl rfl rfl rfl rfl rfl (fun w hw => costSum19_spec c _ 2 2 [s, t] z1 (prjC [i, k] o) w (hgt hw (Src.own hw rfl)) (hq1.own hw) (by omega)) ?_ | refine rcG rfl rfl rfl rfl rfl rfl rfl rfl rfl (fun hg w hw => costSum19_spec c _ 2 2 [s, t] z1 (prjC [i, k] o) w (hgt hw (Src.own hw rfl)) (hq1.own hw) (by omega)) ?_ | refine rc rfl rfl rfl rfl rfl rfl rfl (fun w hw => distancePrg_spec c s.A t.A s.n t.n s.cap t.cap s.l t.l w ((hgp.cls hw).two hsm htm)) ?_ | refine rcG rfl rfl rfl rfl rfl rfl rfl rfl rfl (fun hg w hw => distancePrg_spec c s.A t.A s.n t.n s.cap t.cap s.l t.l w ((hgp.cls hw).two hsm htm)) ?_) | (show ∀ _ : Nat, T _ _ _ _ _; intro _))
      rw [e3, hd]
      refine T_if rfl (fun h6 => by exfalso; simp at h6; omega) (fun _ => ?_)
      repeat' (first | refine d1 ?_ | refine dd ?_ | (show ∀ _ : Nat, T _ _ _ _ _; intro _))
      exact T_backX (k + 1) ⟨by omega, hkn⟩ (by omega) (hE := ⟨rfl, by rw [hst2, ← Int.add_assoc]; rfl, by rw [hst1, ← Int.add_assoc]; rfl, trivial⟩) (hG := Hle.srt)
    · simp only [decide_eq_false_iff_not] at h4
      obtain rfl : k = n := by omega
      repeat' (first | refine d1 ?_ | refine dd ?_ | (show ∀ _ : Nat, T _ _ _ _ _; intro _))
      exact T_backX (i + 1) hin (by omega)
  · simp only [decide_eq_false_iff_not] at h3
    obtain rfl : i = n := by omega
    repeat' (first | refine d1 ?_ | refine dd ?_ | (show T _ (.ops _ (_ :: _) :: _) _ _ _; first | refine T_call rfl rfl rfl rfl rfl (fun w hw => awake19_spec w (hst.cls hw)) ?_ | refine T_callC rfl rfl rfl rfl rfl rfl rfl (fun hg w hw => awake19_spec w (hst.cls hw)) ?_) | (show T _ (.run _ _ (_ :: _) _ _ :: _) _ _ _; first | refine rc rfl rfl rfl rfl rfl rfl rfl (fun w hw => awake19_spec w (hst.cls hw)) ?_ | refine rcG rfl rfl rfl rfl rfl rfl rfl rfl rfl (fun hg w hw => awake19_spec w (hst.cls hw)) ?_) | (show ∀ _ : Nat, T _ _ _ _ _; intro _) | (show T _ (.code .ret :: _) _ _ _; refine T_retV [] rfl (Hle.none _) ⟨congrArg Value.bool ?_, rfl⟩))
    simp [hpz.symm]
    omega
theorem bound_met (os : Os) (args : Array Value) : laidMetH Tryz.prog Rows.multiwayBoundRow.laid ((World.doorLaid Tryz.prog 400 os).forCall (fun _ _ => 0) ⟨#[], args, []⟩).memory :=
  laidMetH_of_parts3 (fuel := 8) (laidMet_of_run' 8 (by as_aux_lemma => kernel_rfl) (by as_aux_lemma => kernel_rfl)) (by as_aux_lemma => kernel_rfl) (by as_aux_lemma => kernel_rfl)
theorem bound_lifted (os : Os) (started : os.Started) (H : Type) (enc : TypeId × Value → H) :
    ReturnsInHanded {} Tryz.checked os 20 .any (fun w args => (Rows.multiwayBoundSpec.pre enc Tryz.prog Tryz.f20 [] false w args ∧ laidMetH Tryz.prog Rows.multiwayBoundRow.laid w) ∧ sizedMet enc Tryz.prog Tryz.f20 (OpenSpec.ofChange Rows.multiwayBoundSpec) false w args)
      (Rows.multiwayBoundSpec.post enc Tryz.prog Tryz.f20 false true false false) := by
  refine returnsInHanded_of_change_and (C := Tryz.checked) (X := fun w _ => laidMetH Tryz.prog Rows.multiwayBoundRow.laid w) (fun _ _ _ hh h => h.of_heap hh) knob started (by as_aux_lemma => kernel_rfl) Tryz.func20
    (ChangeSpec.witness_shaped (enc := enc) (C := Tryz.checked) (os := os) (X := fun w _ => laidMetH Tryz.prog Rows.multiwayBoundRow.laid w) false (World.doorLaid Tryz.prog 400 os) #[(⟨0, 0, 0, 0⟩ : Costs).val, .slice none 0 0, .slice none 0 0] 8 rfl (World.shaped_of_RefB (by as_aux_lemma => kernel_rfl) (by as_aux_lemma => kernel_rfl)) (by as_aux_lemma => kernel_rfl) (by as_aux_lemma => kernel_rfl) (by as_aux_lemma => kernel_rfl) (bound_met os _)) ?_
  intro W base args ds gs before hval0 hW _ _ hL _
  have hval : ∀ (j : Nat) t v, Tryz.f20.params[j]? = some t → args[j]? = some v → Value.okWide Tryz.prog W .any base t v := hval0
  have hstd := std_of (show laidMetH Tryz.prog laids W from hL)
  have hW' := hW
  obtain ⟨p, q, hA0, hV, rfl, hfz, hnd⟩ := hW
  have hA : DataW.TrodAll enc Tryz.prog W 0 (fun _ => true) true Tryz.f20.params.toList args.toList ds p := hA0
  obtain ⟨v0, vs0, d0, ds0, p0, q0, e0, rfl, rfl, h0, hA⟩ := trodAll_cons hA
  obtain ⟨v1, vs1, d1, ds1, p1, q1, rfl, rfl, rfl, h1, hA⟩ := trodAll_cons hA
  obtain ⟨v2, vs2, d2, ds2, p2, q2, rfl, rfl, rfl, h2, hA⟩ := trodAll_cons hA
  obtain ⟨rfl, rfl, rfl⟩ := trodAll_nil hA
  have ea : args = #[v0, v1, v2] := Array.ext' e0
  subst ea
  obtain ⟨c, rfl⟩ := arg_costs (hval 0 _ v0 rfl rfl) h0
  obtain ⟨l, hr_l⟩ := arg_toksL (hval 1 _ v1 rfl rfl) h1
  obtain ⟨cols, hr_cols⟩ := arg_rows (hval 2 _ v2 rfl rfl) h2
  refine (boundM_spec c v1 l v2 cols W hstd hr_l hr_cols).calls.mono ?_
  rintro e W' ⟨v, A, rfl, ⟨rfl, _⟩, hb, _⟩
  exact ⟨_, rfl, law_post hW' rfl rfl laidOk (by intro t ht; simp only [show Tryz.f20.params.toList = [23, 24, 31] from rfl, List.mem_cons, List.mem_nil_iff, or_false] at ht; rcases ht with rfl | rfl | rfl <;> exact ⟨by as_aux_lemma => kernel_rfl, of_decide_eq_true (by as_aux_lemma => kernel_rfl)⟩) rfl Tryz.underlying4 hb⟩
theorem bound_j0 : Tryz.prog.inPlace 20 = Rows.multiwayBoundRow.inPlace := by as_aux_lemma => kernel_rfl
theorem bound_j1 : Tryz.prog.unfollowed 20 = Rows.multiwayBoundRow.unfollowed := by as_aux_lemma => kernel_rfl
theorem bound_j2 : Tryz.prog.recurses 20 = Rows.multiwayBoundRow.recurses := by as_aux_lemma => kernel_rfl
theorem bound_j3 : Tryz.prog.varsNamed 20 = Rows.multiwayBoundRow.named := by as_aux_lemma => kernel_rfl
theorem bound_joined : joinedFacts Tryz.prog 20 Tryz.f20 Rows.multiwayBoundSpec Rows.multiwayBoundRow = true := by
  unfold joinedFacts
  rw [bound_j0, bound_j1, bound_j2, bound_j3, io_enter, io_lifts, io_make]
  kernel_rfl
theorem bound_holds : Rows.MultiwayBoundSaid :=
  OpenClaim.holds_of_wide 20 Tryz.f20 rfl rfl rfl rfl rfl rfl rfl ⟨rfl, rfl, rfl, rfl, rfl⟩ rfl rfl rfl rfl rfl (by as_aux_lemma => kernel_rfl) Tryz.func20 bound_joined
    (of_decide_eq_true (by as_aux_lemma => kernel_rfl)) (by unfold Func.isWrapper; first | (rw [if_pos (by decide +kernel)]; kernel_rfl) | (rw [if_neg (by decide +kernel)]; exact ⟨rfl, rfl⟩))
    (fun os started H enc _ => bound_lifted os started H enc)
theorem bound_card : Rows.MultiwayBoundCardSaid :=
  Claim7.holds_tied_plain_at .later [] [.data, .data, .data, .sentinel, .sentinel] true (true, "8da3727bd41b5459b46e191c9a7204ac1b54c7258f68ddd1a33546be5efdd15c") true
    bound_holds (fun _ h => by cases h) (by as_aux_lemma => kernel_rfl) (fun _ h => by cases h) multiwayBound_row_tie rfl ⟨rfl, rfl⟩ io_main rfl
    (fun f fn hf hfn => by
      obtain rfl : f = 20 := Option.some.inj ((show Tryz.prog.funcNamed "apograph/apographlaw19.MultiwayBound" = some 20 by as_aux_lemma => kernel_rfl).symm.trans hf) |>.symm
      obtain rfl : fn = Tryz.f20 := (Option.some.inj (Tryz.func20.symm.trans hfn)).symm
      exact ⟨by as_aux_lemma => kernel_rfl, fun j t ht => by
        have ht' : [23, 24, 31][j]? = some t := by rw [Tryz.params20] at ht; simpa using ht
        have hm := List.mem_of_getElem? ht'
        simp only [List.mem_cons, List.mem_nil_iff, or_false] at hm
        rcases hm with rfl | rfl | rfl <;> exact (show Tryz.prog.wantsStandIn _ = false by as_aux_lemma => kernel_rfl)⟩)
    (by as_aux_lemma => kernel_rfl)
#print axioms bound_card
end Go.Proofs.YtofikdpbagnjbaaGreatDoor
