/- The law MultiwayProjects holds for whatever sources, columns and number: the tied card of its row. No condition beyond the row's own. -/
import Derived.Test.YtofikdpbagnjbaaGreatDoorJ4
import Derived.Test.YtofikdpbagnjbaaGreatDoorCards
import Derived.Test.YtofikdpbagnjbaaGreatDoorTie
set_option linter.unusedVariables false
set_option linter.unusedSimpArgs false
namespace Go.Proofs.YtofikdpbagnjbaaGreatDoor
open Go.RowKit Go.Shelf Go.ChangeShapes Go.WideShapes Go.Proofs
set_option maxRecDepth 100000
set_option maxHeartbeats 1000000

theorem projM_spec (x : Value) (m : List (List Tok)) (y : Value) (o : List (List Int)) (z : Int) (hz : 0 ≤ z ∧ z ≤ 255) (w : World) (hst : Std w) (hx : Rd (wr w) [x] [.s 1 (m.map toksD)]) (hy : Rd (wr w) [y] [rowsD o]) :
    Spec Tryz.prog 16 [x, y, .int .u8 z] w (fun v R => v = .bool true ∧ R = []) := by
  obtain ⟨A, ca, l, rfl, hnb, hs, hl, -⟩ := hx.toksL
  have hy0 := hy
  obtain ⟨Ao, co, cso, rfl, ho1, ho2, hos, horows⟩ := hy.tabS
  refine spec_of sg Tryz.func16 rfl rfl rfl ?_
  cases hgr : great19B l 5 6 with
  | true =>
    repeat' (first | refine d1 ?_ | refine dd ?_ | (show T _ (.ops _ (_ :: _) :: _) _ _ _; first | refine T_call rfl rfl rfl rfl rfl (fun w hw => great19_spec A l.length ca l 5 6 w (rdSrc hs w hw) rfl hnb ⟨fun t ht => src_below (hl.src t ht) hw.below, hl.len, hl.bd⟩ (by omega) (by omega)) ?_ | refine T_callC rfl rfl rfl rfl rfl rfl rfl (fun hg w hw => great19_spec A l.length ca l 5 6 w (rdSrc hs w hw) rfl hnb ⟨fun t ht => src_below (hl.src t ht) hw.below, hl.len, hl.bd⟩ (by omega) (by omega)) ?_ | refine T_call rfl rfl rfl rfl rfl (fun w hw => greatC19_spec _ o 16 w (hy0.old hw)) ?_ | refine T_callC rfl rfl rfl rfl rfl rfl rfl (fun hg w hw => greatC19_spec _ o 16 w (hy0.old hw)) ?_ | refine T_op (OpT.never (.int .i64 0) rfl (fun hg => by (simp only [List.cons_append, List.nil_append, GP, dstL, lookE, Nat.beq, cond, List.getElem?_cons_zero, List.getElem?_cons_succ, Option.bind_some, and_true, Bool.and_eq_true, Bool.or_eq_true, Bool.and_eq_false_iff, Bool.or_eq_false_iff, Bool.not_eq_true', Bool.not_eq_false', decide_eq_true_eq, decide_eq_false_iff_not] at hg); simp [hgr] at hg) rfl rfl rfl rfl rfl ?_)) | (show T _ (.run _ _ (_ :: _) _ _ :: _) _ _ _; first | refine rc rfl rfl rfl rfl rfl rfl rfl (fun w hw => great19_spec A l.length ca l 5 6 w (rdSrc hs w hw) rfl hnb ⟨fun t ht => src_below (hl.src t ht) hw.below, hl.len, hl.bd⟩ (by omega) (by omega)) ?_ | refine rcG rfl rfl rfl rfl rfl rfl rfl rfl rfl (fun hg w hw => great19_spec A l.length ca l 5 6 w (rdSrc hs w hw) rfl hnb ⟨fun t ht => src_below (hl.src t ht) hw.below, hl.len, hl.bd⟩ (by omega) (by omega)) ?_ | refine rc rfl rfl rfl rfl rfl rfl rfl (fun w hw => greatC19_spec _ o 16 w (hy0.old hw)) ?_ | refine rcG rfl rfl rfl rfl rfl rfl rfl rfl rfl (fun hg w hw => greatC19_spec _ o 16 w (hy0.old hw)) ?_) | (show ∀ _ : Nat, T _ _ _ _ _; intro _))
    refine T_if rfl (fun _ => ?_) (fun h => by exfalso; simp [hgr] at h)
    repeat' (first | refine d1 ?_ | refine dd ?_ | (show T _ (.ops _ (_ :: _) :: _) _ _ _; first | refine T_call rfl rfl rfl rfl rfl (fun w hw => awake19_spec w (hst.cls hw)) ?_ | refine T_callC rfl rfl rfl rfl rfl rfl rfl (fun hg w hw => awake19_spec w (hst.cls hw)) ?_) | (show T _ (.run _ _ (_ :: _) _ _ :: _) _ _ _; first | refine rc rfl rfl rfl rfl rfl rfl rfl (fun w hw => awake19_spec w (hst.cls hw)) ?_ | refine rcG rfl rfl rfl rfl rfl rfl rfl rfl rfl (fun hg w hw => awake19_spec w (hst.cls hw)) ?_) | (show ∀ _ : Nat, T _ _ _ _ _; intro _) | (show T _ (.code .ret :: _) _ _ _; refine T_retV [] rfl (Hle.none _) ⟨rfl, rfl⟩))
  | false =>
    repeat' (first | refine d1 ?_ | refine dd ?_ | (show T _ (.ops _ (_ :: _) :: _) _ _ _; first | refine T_call rfl rfl rfl rfl rfl (fun w hw => great19_spec A l.length ca l 5 6 w (rdSrc hs w hw) rfl hnb ⟨fun t ht => src_below (hl.src t ht) hw.below, hl.len, hl.bd⟩ (by omega) (by omega)) ?_ | refine T_callC rfl rfl rfl rfl rfl rfl rfl (fun hg w hw => great19_spec A l.length ca l 5 6 w (rdSrc hs w hw) rfl hnb ⟨fun t ht => src_below (hl.src t ht) hw.below, hl.len, hl.bd⟩ (by omega) (by omega)) ?_ | refine T_call rfl rfl rfl rfl rfl (fun w hw => greatC19_spec _ o 16 w (hy0.old hw)) ?_ | refine T_callC rfl rfl rfl rfl rfl rfl rfl (fun hg w hw => greatC19_spec _ o 16 w (hy0.old hw)) ?_ | refine T_call rfl rfl rfl rfl rfl (fun w hw => check19T_spec A l.length ca l _ o 5 6 w (hst.cls hw) (rdSrc hs w hw) rfl ⟨fun t ht => src_below (hl.src t ht) hw.below, hl.len, hl.bd⟩ (hy0.old hw) hgr (by omega) (by omega)) ?_ | refine T_callC rfl rfl rfl rfl rfl rfl rfl (fun hg w hw => check19T_spec A l.length ca l _ o 5 6 w (hst.cls hw) (rdSrc hs w hw) rfl ⟨fun t ht => src_below (hl.src t ht) hw.below, hl.len, hl.bd⟩ (hy0.old hw) hgr (by omega) (by omega)) ?_) | (show T _ (.run _ _ (_ :: _) _ _ :: _) _ _ _; first | refine rc rfl rfl rfl rfl rfl rfl rfl (fun w hw => great19_spec A l.length ca l 5 6 w (rdSrc hs w hw) rfl hnb ⟨fun t ht => src_below (hl.src t ht) hw.below, hl.len, hl.bd⟩ (by omega) (by omega)) ?_ | refine rcG rfl rfl rfl rfl rfl rfl rfl rfl rfl (fun hg w hw => great19_spec A l.length ca l 5 6 w (rdSrc hs w hw) rfl hnb ⟨fun t ht => src_below (hl.src t ht) hw.below, hl.len, hl.bd⟩ (by omega) (by omega)) ?_ | refine rc rfl rfl rfl rfl rfl rfl rfl (fun w hw => greatC19_spec _ o 16 w (hy0.old hw)) ?_ | refine rcG rfl rfl rfl rfl rfl rfl rfl rfl rfl (fun hg w hw => greatC19_spec _ o 16 w (hy0.old hw)) ?_ | refine rc rfl rfl rfl rfl rfl rfl rfl (fun w hw => check19T_spec A l.length ca l _ o 5 6 w (hst.cls hw) (rdSrc hs w hw) rfl ⟨fun t ht => src_below (hl.src t ht) hw.below, hl.len, hl.bd⟩ (hy0.old hw) hgr (by omega) (by omega)) ?_ | refine rcG rfl rfl rfl rfl rfl rfl rfl rfl rfl (fun hg w hw => check19T_spec A l.length ca l _ o 5 6 w (hst.cls hw) (rdSrc hs w hw) rfl ⟨fun t ht => src_below (hl.src t ht) hw.below, hl.len, hl.bd⟩ (hy0.old hw) hgr (by omega) (by omega)) ?_) | (show ∀ _ : Nat, T _ _ _ _ _; intro _))
    refine T_if rfl (fun _ => ?_) (fun h => ?_)
    · repeat' (first | refine d1 ?_ | refine dd ?_ | (show T _ (.ops _ (_ :: _) :: _) _ _ _; first | refine T_call rfl rfl rfl rfl rfl (fun w hw => awake19_spec w (hst.cls hw)) ?_ | refine T_callC rfl rfl rfl rfl rfl rfl rfl (fun hg w hw => awake19_spec w (hst.cls hw)) ?_) | (show T _ (.run _ _ (_ :: _) _ _ :: _) _ _ _; first | refine rc rfl rfl rfl rfl rfl rfl rfl (fun w hw => awake19_spec w (hst.cls hw)) ?_ | refine rcG rfl rfl rfl rfl rfl rfl rfl rfl rfl (fun hg w hw => awake19_spec w (hst.cls hw)) ?_) | (show ∀ _ : Nat, T _ _ _ _ _; intro _) | (show T _ (.code .ret :: _) _ _ _; refine T_retV [] rfl (Hle.none _) ⟨rfl, rfl⟩))
    have hh : l.length ≤ 5 ∧ greatC19 o 16 = false ∧ chkT l o = 0 := by
      simp only [hgr, Bool.or_eq_false_iff, decide_eq_false_iff_not, Bool.not_eq_false', decide_eq_true_eq] at h
      exact ⟨by omega, h.1.2, h.2⟩
    clear h
    obtain ⟨h5, hgo, hck⟩ := hh
    obtain ⟨hgp, h0, hok, hq⟩ := chkT_ok hst hs rfl hl hgr (by omega) (by omega) hck
    obtain ⟨-, ho16⟩ := greatC19_no hgo
    obtain ⟨n, hn⟩ : ∃ n, n = l.length := ⟨_, rfl⟩
    have hn1 : 1 ≤ n := by omega
    obtain ⟨b, o9, rfl⟩ := hs.base (by omega)
    repeat' (first | refine d1 ?_ | refine dd ?_ | (show ∀ _ : Nat, T _ _ _ _ _; intro _))
    refine T_nilrow 3 1 ?_
    refine T_nilrow 3 1 ?_
    refine T_nilrow 40 1 ?_
    refine T_le (H' := dat [.slice none 0 0] [intsD []] :: [row 40 1 none 0 0 [], row 3 1 none 0 0 [], row 3 1 none 0 0 []]) (hle_unit (B := dat [.slice none 0 0] [intsD []]) (.s none 0 0 1 [] rfl (Nat.le_refl _) (by omega) (fun h => absurd h (by omega)) .nil .nil)) ?_
    refine T_loopX (fun s : Nat × (Option Addr × Nat) × (Option Addr × Nat) × (Option Addr × Nat) × Value => [(45, .int .i64 (s.1 : Nat)), (7, .slice s.2.1.1 s.1 s.2.1.2), (8, .slice s.2.2.1.1 (kpP z n s.1).length s.2.2.1.2), (9, s.2.2.2.2), (10, .slice s.2.2.2.1.1 (kpP z n s.1).length s.2.2.2.1.2)])
      (fun s => [dat [s.2.2.2.2] [intsD (lastL (kpP z n s.1))], row 40 1 s.2.2.2.1.1 s.2.2.2.1.2 (kpP z n s.1).length (((kpP z n s.1).map (tsA l)).map TS.val), row 3 1 s.2.2.1.1 s.2.2.1.2 (kpP z n s.1).length ((intN (kpP z n s.1)).map (Value.int .i64)), row 3 1 s.2.1.1 s.2.1.2 s.1 ((intN (List.range s.1)).map (Value.int .i64))]) (fun s => s.1 ≤ n) (fun s => n - s.1) (0, (none, 0), (none, 0), (none, 0), .slice none 0 0) (Nat.zero_le _) ?_
    rintro ⟨i, ⟨A1, c1⟩, ⟨A2, c2⟩, ⟨A3, c3⟩, lv⟩ hi
    dsimp only at hi ⊢
    have hkl := kpP_len z n i
    repeat' (first | refine d1 ?_ | refine dd ?_ | (show ∀ _ : Nat, T _ _ _ _ _; intro _))
    refine T_if rfl (fun h3 => ?_) (fun h3 => ?_)
    · simp only [decide_eq_true_eq] at h3
      have hin : i < n := by omega
      obtain ⟨t, ht, htm, hrt⟩ := hgp.get (k := i) (by omega)
      have hts : tsA l i = t := tsA_eq ht
      have hbit := bit8_law z.toNat (by omega) i (by omega)
      rw [show ((z.toNat : Nat) : Int) = z by omega] at hbit
      have hks := kpP_succ z n i
      have hrs : (intN (List.range (i + 1))).map (Value.int .i64) = (intN (List.range i)).map (Value.int .i64) ++ flatP [(0, .int .i64 (i : Nat))] := by rw [List.range_succ, intN_snoc]
      repeat' (first | refine d1 ?_ | refine dd ?_ | (show T _ (.ops _ (_ :: _) :: _) _ _ _; first | refine T_op (OpT.append (A := A1) rfl rfl rfl rfl rfl rfl rfl rfl rfl rfl (fun w hw => Src.own hw rfl) rfl (by dsimp only; omega) (by omega) (fun A1' c1' hA1 => ?_)) | refine T_val rfl (Val.bits rfl (fun _ => by omega)) rfl rfl rfl ?_ | refine T_valC rfl (Val.bits rfl (fun _ => by omega)) rfl rfl rfl rfl rfl ?_ | refine T_val rfl (Val.bits rfl (fun _ => trivial)) rfl rfl rfl ?_ | refine T_valC rfl (Val.bits rfl (fun _ => trivial)) rfl rfl rfl rfl rfl ?_) | (show T _ (.run _ _ (_ :: _) _ _ :: _) _ _ _; first | refine rv rfl rfl rfl (Val.bits rfl (fun _ => by omega)) rfl rfl rfl ?_ | refine rg rfl rfl rfl (Val.bits rfl (fun _ => by omega)) rfl rfl rfl rfl rfl ?_ | refine rv rfl rfl rfl (Val.bits rfl (fun _ => trivial)) rfl rfl rfl ?_ | refine rg rfl rfl rfl (Val.bits rfl (fun _ => trivial)) rfl rfl rfl rfl rfl ?_) | (show ∀ _ : Nat, T _ _ _ _ _; intro _))
      rw [hbit]
      have hcond : (Nat.testBit z.toNat i || decide ((i : Int) = (l.length : Int) - 1)) = (z.toNat.testBit i || decide (i + 1 = n)) := by
        congr 1
        exact decide_eq_decide.2 (by omega)
      rename_i b9
      refine T_if rfl (fun h6 => ?_) (fun h6 => ?_)
      · rw [hcond] at h6
        rw [if_pos h6] at hks
        have hlast : lastL (kpP z n i ++ [i]) = [((kpP z n i).length : Int)] := by
          unfold lastL
          rw [if_neg (by simp), List.length_append]
          show [(((kpP z n i).length + 1 : Nat) : Int) - 1] = _
          rw [show (((kpP z n i).length + 1 : Nat) : Int) - 1 = ((kpP z n i).length : Int) by omega]
        repeat' (first | refine d1 ?_ | refine dd ?_ | (show T _ (.ops _ (_ :: _) :: _) _ _ _; first | refine T_op (OpT.append (A := A2) rfl rfl rfl rfl rfl rfl rfl rfl rfl rfl (fun w hw => Src.own hw rfl) rfl (by dsimp only; omega) (by omega) (fun A2' c2' hA2 => ?_)) | refine T_op (OpT.append (A := A3) rfl rfl rfl rfl rfl rfl rfl rfl rfl rfl (fun w hw => Src.own hw rfl) rfl (by dsimp only; omega) (by omega) (fun A3' c3' hA3 => ?_))) | (show ∀ _ : Nat, T _ _ _ _ _; intro _))
        rename_i b1 b2 b3
        refine T_backX (i + 1, (A1', c1'), (A2', c2'), (A3', c3'), .slice (some ⟨b1, 0, none⟩) 1 1) (by dsimp only; omega) (by dsimp only; omega) (hE := ⟨rfl, rfl, by dsimp only; rw [hks, List.length_append]; rfl, rfl, by dsimp only; rw [hks, List.length_append]; rfl, trivial⟩) (hG := ?_)
        dsimp only
        rw [hks, List.length_append, show [i].length = 1 from rfl, hrs, intN_snoc, hlast, List.map_append, List.map_append, show ([i].map (tsA l)).map TS.val = flatP [(0, .slice t.A t.n t.cap)] by (rw [← hts]; rfl)]
        exact (Hle.srt (K := [blk b1 (flatP [(0, .int .i64 ((kpP z n i).length : Nat))]) 3, row 40 1 A3' c3' ((kpP z n i).length + 1) (((kpP z n i).map (tsA l)).map TS.val ++ flatP [(0, .slice t.A t.n t.cap)]), row 3 1 A2' c2' ((kpP z n i).length + 1) ((intN (kpP z n i)).map (Value.int .i64) ++ flatP [(0, .int .i64 (i : Nat))]), row 3 1 A1' c1' (i + 1) ((intN (List.range i)).map (Value.int .i64) ++ flatP [(0, .int .i64 (i : Nat))])])).trans (dat_blkV (sz := 1) (n := 1) rfl (by omega))
      · rw [hcond] at h6
        rw [if_neg (by rw [h6]; simp), List.append_nil] at hks
        repeat' (first | refine d1 ?_ | refine dd ?_ | (show ∀ _ : Nat, T _ _ _ _ _; intro _))
        exact T_backX (i + 1, (A1', c1'), (A2, c2), (A3, c3), lv) (by dsimp only; omega) (by dsimp only; omega) (hE := ⟨rfl, rfl, by dsimp only; rw [hks]; rfl, rfl, by dsimp only; rw [hks]; rfl, trivial⟩) (hG := by dsimp only; rw [hks, hrs]; exact Hle.tail _ _)
    · simp only [decide_eq_false_iff_not] at h3
      obtain rfl : i = n := by omega
      subst hn
      have K := keptOk (l := l) (o := o) (by omega) hok (kk := kpP z l.length l.length) kpP_lt (kpP_asc _ _ _) (kpP_last hn1)
      have hklt : ∀ s ∈ kpP z l.length l.length, s < l.length := kpP_lt
      generalize kpP z l.length l.length = kk at K hklt hkl ⊢
      have hil : ∀ kk : List Nat, (intN kk).length = kk.length := fun kk => by unfold intN; rw [List.length_map]
      have hrow : ∀ r : List Int, intsD r = .s 1 ((r.map (Value.int .i64)).map .v) := fun r => by rw [List.map_map]; rfl
      refine T_open fun p0 hp0 => ?_
      refine T_le (H' := [dat [.slice A2 kk.length c2] [intsD (intN kk)], dat [.slice A1 l.length c1] [intsD (intN (List.range l.length))], fz p0, row 40 1 A3 c3 kk.length ((kk.map (tsA l)).map TS.val)]) ?_ ?_
      · rw [hrow, hrow]
        exact (Hle.srt (K := [row 3 1 A1 c1 l.length ((intN (List.range l.length)).map (Value.int .i64)), row 3 1 A2 c2 kk.length ((intN kk).map (Value.int .i64)), fz p0, row 40 1 A3 c3 kk.length ((kk.map (tsA l)).map TS.val)])).trans (dat_rowV.trans ((Hle.perm (List.Perm.swap _ _ _)).trans dat_rowV))
      refine T_open fun p2 hp2 => ?_
      refine T_le (H' := [dat [.slice A1 l.length c1] [intsD (intN (List.range l.length))], fz p2, fz p0, row 40 1 A3 c3 kk.length ((kk.map (tsA l)).map TS.val)]) (Hle.perm (List.Perm.swap _ _ _)) ?_
      refine T_open fun p1 hp1 => ?_
      have hgk : ∀ {w' : World} {H : List HA}, Cls w w' H → Src w' 1 A3 kk.length ((kk.map (tsA l)).map TS.val) → Grp w' A3 kk.length (kk.map (tsA l)) := fun {w' H} hw h9 => by
        have hg9 := hgp.cls hw
        have hm9 : ∀ t ∈ kk.map (tsA l), t ∈ l := fun t ht => by
          obtain ⟨s, hs1, rfl⟩ := List.mem_map.1 ht
          exact tsA_mem (hklt s hs1)
        exact ⟨hg9.hst, h9, by rw [List.length_map], by omega, ⟨fun t ht => hg9.ok.src t (hm9 t ht), fun t ht => hg9.ok.len t (hm9 t ht), fun t ht => hg9.ok.bd t (hm9 t ht)⟩, fun t ht => hg9.nb t (hm9 t ht), fun t ht => hg9.sm t (hm9 t ht)⟩
      have hpl : (prjC kk o).length ≤ 16 := by
        unfold prjC
        have h9 := List.length_filter_le anyP (o.map (prjR kk))
        rw [List.length_map] at h9
        omega
      have hll1 : (lastL kk).length ≤ 1 := by unfold lastL; split <;> simp
      repeat' (first | refine d1 ?_ | refine dd ?_ | (show T _ (.ops _ (_ :: _) :: _) _ _ _; refine T_op (OpT.call rfl rfl rfl rfl rfl (fun w hw => project19_spec (some ⟨b, o9, none⟩) l.length ca l _ _ o (intN kk) w (hgp.cls hw) (hy0.old hw) (hp2.own hw) (by rw [hil]; omega) (by omega)) ?_)) | (show ∀ _ : Nat, T _ _ _ _ _; intro _))
      rintro v R ⟨z1, -, rfl, rfl⟩
      rw [K.some_]
      refine T_le (H' := [dat [z1] [rowsD (prjC kk o)], fz p1, fz p2, fz p0, row 40 1 A3 c3 kk.length ((kk.map (tsA l)).map TS.val)]) (Hle.refl _) ?_
      refine T_open fun q1 hq1 => ?_
      repeat' (first | refine d1 ?_ | refine dd ?_ | (show T _ (.ops _ (_ :: _) :: _) _ _ _; refine T_op (OpT.call rfl rfl rfl rfl rfl (fun w hw => project19_spec (some ⟨b, o9, none⟩) l.length ca l _ _ o (intN (List.range l.length)) w (hgp.cls hw) (hy0.old hw) (hp1.own hw) (by rw [hil, List.length_range]; omega) (by omega)) ?_)) | (show ∀ _ : Nat, T _ _ _ _ _; intro _))
      rintro v R ⟨z2, -, rfl, rfl⟩
      rw [K.same]
      refine T_le (H' := [dat [z2] [rowsD o], fz q1, fz p1, fz p2, fz p0, row 40 1 A3 c3 kk.length ((kk.map (tsA l)).map TS.val)]) (Hle.refl _) ?_
      refine T_open fun q2 hq2 => ?_
      repeat' (first | refine d1 ?_ | refine dd ?_ | (show T _ (.ops _ (_ :: _) :: _) _ _ _; refine T_op (OpT.call rfl rfl rfl rfl rfl (fun w hw => project19_spec A3 kk.length c3 (kk.map (tsA l)) z1 lv (prjC kk o) (lastL kk) w (hgk hw (srcRw w hw)) (hq1.own hw) (hp0.own hw) (by omega) (by omega)) ?_)) | (show ∀ _ : Nat, T _ _ _ _ _; intro _))
      rintro v R ⟨z3, -, rfl, rfl⟩
      rw [K.two]
      refine T_le (H' := [dat [z3] [rowsD (prjC [l.length - 1] o)], fz q2, fz q1, fz p1, fz p2, fz p0, row 40 1 A3 c3 kk.length ((kk.map (tsA l)).map TS.val)]) (Hle.refl _) ?_
      refine T_open fun q3 hq3 => ?_
      repeat' (first | refine d1 ?_ | refine dd ?_ | (show T _ (.ops _ (_ :: _) :: _) _ _ _; refine T_op (OpT.call rfl rfl rfl rfl rfl (fun w hw => project19_spec (some ⟨b, o9, none⟩) l.length ca l _ _ o [(l.length : Int) - 1] w (hgp.cls hw) (hy0.old hw) (rd_ints (n := 1) (r := [(l.length : Int) - 1]) (Src.own hw rfl) (by omega)) (by simp) (by omega)) ?_)) | (show ∀ _ : Nat, T _ _ _ _ _; intro _))
      rintro v R ⟨z4, -, rfl, rfl⟩
      rw [K.one]
      refine T_le (H' := [dat [z4] [rowsD (prjC [l.length - 1] o)], fz q3, fz q2, fz q1, fz p1, fz p2, fz p0, row 40 1 A3 c3 kk.length ((kk.map (tsA l)).map TS.val)]) (Hle.drop2 _ _ _) ?_
      refine T_open fun q4 hq4 => ?_
      have hq4' := hq4
      obtain ⟨A4, c4, cs4, rfl, -⟩ := hq4.tab
      have hK := K.len
      obtain ⟨t, ht, htm, hrt⟩ := hgp.get (k := l.length - 1) (by omega)
      rw [tsA_eq ht] at hK
      have hrt2 : RdC w b (o9 + ((l.length : Int) - 1).toNat * 1) [.slice t.A t.n t.cap] := by
        rw [show ((l.length : Int) - 1) = ((l.length - 1 : Nat) : Int) by omega]; exact hrt
      repeat' (first | refine d1 ?_ | refine dd ?_ | (show T _ (.ops _ (_ :: _) :: _) _ _ _; first | refine T_call rfl rfl rfl rfl rfl (fun w hw => check19_spec A3 kk.length c3 (kk.map (tsA l)) z1 (prjC kk o) w (hgk hw (srcRw w hw)) (hq1.own hw)) ?_ | refine T_callC rfl rfl rfl rfl rfl rfl rfl (fun hg w hw => check19_spec A3 kk.length c3 (kk.map (tsA l)) z1 (prjC kk o) w (hgk hw (srcRw w hw)) (hq1.own hw)) ?_ | refine T_call rfl rfl rfl rfl rfl (fun w hw => sameCols19_spec z2 _ o o w (hq2.own hw) (hy0.old hw)) ?_ | refine T_callC rfl rfl rfl rfl rfl rfl rfl (fun hg w hw => sameCols19_spec z2 _ o o w (hq2.own hw) (hy0.old hw)) ?_ | refine T_call rfl rfl rfl rfl rfl (fun w hw => sameCols19_spec z3 _ (prjC [l.length - 1] o) (prjC [l.length - 1] o) w (hq3.own hw) (hq4'.own hw)) ?_ | refine T_callC rfl rfl rfl rfl rfl rfl rfl (fun hg w hw => sameCols19_spec z3 _ (prjC [l.length - 1] o) (prjC [l.length - 1] o) w (hq3.own hw) (hq4'.own hw)) ?_ | refine T_val rfl (Val.load (v := .slice t.A t.n t.cap) rfl (fun hg => rdOld hrt2)) rfl rfl rfl ?_ | refine T_valC rfl (Val.load (v := .slice t.A t.n t.cap) rfl (fun hg => rdOld hrt2)) rfl rfl rfl rfl rfl ?_ | refine T_call rfl rfl rfl rfl rfl (fun w hw => awake19_spec w (hst.cls hw)) ?_ | refine T_callC rfl rfl rfl rfl rfl rfl rfl (fun hg w hw => awake19_spec w (hst.cls hw)) ?_) | (show T _ (.run _ _ (_ :: _) _ _ :: _) _ _ _; first | refine rc rfl rfl rfl rfl rfl rfl rfl (fun w hw => check19_spec A3 kk.length c3 (kk.map (tsA l)) z1 (prjC kk o) w (hgk hw (srcRw w hw)) (hq1.own hw)) ?_ | refine rcG rfl rfl rfl rfl rfl rfl rfl rfl rfl (fun hg w hw => check19_spec A3 kk.length c3 (kk.map (tsA l)) z1 (prjC kk o) w (hgk hw (srcRw w hw)) (hq1.own hw)) ?_ | refine rc rfl rfl rfl rfl rfl rfl rfl (fun w hw => sameCols19_spec z2 _ o o w (hq2.own hw) (hy0.old hw)) ?_ | refine rcG rfl rfl rfl rfl rfl rfl rfl rfl rfl (fun hg w hw => sameCols19_spec z2 _ o o w (hq2.own hw) (hy0.old hw)) ?_ | refine rc rfl rfl rfl rfl rfl rfl rfl (fun w hw => sameCols19_spec z3 _ (prjC [l.length - 1] o) (prjC [l.length - 1] o) w (hq3.own hw) (hq4'.own hw)) ?_ | refine rcG rfl rfl rfl rfl rfl rfl rfl rfl rfl (fun hg w hw => sameCols19_spec z3 _ (prjC [l.length - 1] o) (prjC [l.length - 1] o) w (hq3.own hw) (hq4'.own hw)) ?_ | refine rv rfl rfl rfl (Val.load (v := .slice t.A t.n t.cap) rfl (fun hg => rdOld hrt2)) rfl rfl rfl ?_ | refine rg rfl rfl rfl (Val.load (v := .slice t.A t.n t.cap) rfl (fun hg => rdOld hrt2)) rfl rfl rfl rfl rfl ?_ | refine rc rfl rfl rfl rfl rfl rfl rfl (fun w hw => awake19_spec w (hst.cls hw)) ?_ | refine rcG rfl rfl rfl rfl rfl rfl rfl rfl rfl (fun hg w hw => awake19_spec w (hst.cls hw)) ?_) | (show ∀ _ : Nat, T _ _ _ _ _; intro _) | (show T _ (.code .ret :: _) _ _ _; refine T_retV [] rfl (Hle.none _) ⟨congrArg Value.bool ?_, rfl⟩))
      rw [K.chk, hK]
      simp
theorem proj_met (os : Os) (args : Array Value) : laidMetH Tryz.prog Rows.multiwayProjectsRow.laid ((World.doorLaid Tryz.prog 400 os).forCall (fun _ _ => 0) ⟨#[], args, []⟩).memory :=
  laidMetH_of_parts3 (fuel := 8) (laidMet_of_run' 8 (by as_aux_lemma => kernel_rfl) (by as_aux_lemma => kernel_rfl)) (by as_aux_lemma => kernel_rfl) (by as_aux_lemma => kernel_rfl)
theorem proj_lifted (os : Os) (started : os.Started) (H : Type) (enc : TypeId × Value → H) :
    ReturnsInHanded {} Tryz.checked os 16 .any (fun w args => (Rows.multiwayProjectsSpec.pre enc Tryz.prog Tryz.f16 [] false w args ∧ laidMetH Tryz.prog Rows.multiwayProjectsRow.laid w) ∧ sizedMet enc Tryz.prog Tryz.f16 (OpenSpec.ofChange Rows.multiwayProjectsSpec) false w args)
      (Rows.multiwayProjectsSpec.post enc Tryz.prog Tryz.f16 false true false false) := by
  refine returnsInHanded_of_change_and (C := Tryz.checked) (X := fun w _ => laidMetH Tryz.prog Rows.multiwayProjectsRow.laid w) (fun _ _ _ hh h => h.of_heap hh) knob started (by as_aux_lemma => kernel_rfl) Tryz.func16
    (ChangeSpec.witness_shaped (enc := enc) (C := Tryz.checked) (os := os) (X := fun w _ => laidMetH Tryz.prog Rows.multiwayProjectsRow.laid w) false (World.doorLaid Tryz.prog 400 os) #[.slice none 0 0, .slice none 0 0, .int .u8 0] 8 rfl (World.shaped_of_RefB (by as_aux_lemma => kernel_rfl) (by as_aux_lemma => kernel_rfl)) (by as_aux_lemma => kernel_rfl) (by as_aux_lemma => kernel_rfl) (by as_aux_lemma => kernel_rfl) (proj_met os _)) ?_
  intro W base args ds gs before hval0 hW _ _ hL _
  have hval : ∀ (j : Nat) t v, Tryz.f16.params[j]? = some t → args[j]? = some v → Value.okWide Tryz.prog W .any base t v := hval0
  have hstd := std_of (show laidMetH Tryz.prog laids W from hL)
  have hW' := hW
  obtain ⟨p, q, hA0, hV, rfl, hfz, hnd⟩ := hW
  have hA : DataW.TrodAll enc Tryz.prog W 0 (fun _ => true) true Tryz.f16.params.toList args.toList ds p := hA0
  obtain ⟨v0, vs0, d0, ds0, p0, q0, e0, rfl, rfl, h0, hA⟩ := trodAll_cons hA
  obtain ⟨v1, vs1, d1, ds1, p1, q1, rfl, rfl, rfl, h1, hA⟩ := trodAll_cons hA
  obtain ⟨v2, vs2, d2, ds2, p2, q2, rfl, rfl, rfl, h2, hA⟩ := trodAll_cons hA
  obtain ⟨rfl, rfl, rfl⟩ := trodAll_nil hA
  have ea : args = #[v0, v1, v2] := Array.ext' e0
  subst ea
  obtain ⟨l, hr_l⟩ := arg_toksL (hval 0 _ v0 rfl rfl) h0
  obtain ⟨cols, hr_cols⟩ := arg_rows (hval 1 _ v1 rfl rfl) h1
  obtain ⟨z, rfl, hb_z⟩ := arg_u8 (hval 2 _ v2 rfl rfl) h2
  refine (projM_spec v0 l v1 cols z hb_z W hstd hr_l hr_cols).calls.mono ?_
  rintro e W' ⟨v, A, rfl, ⟨rfl, _⟩, hb, _⟩
  exact ⟨_, rfl, law_post hW' rfl rfl laidOk (by intro t ht; simp only [show Tryz.f16.params.toList = [24, 31, 5] from rfl, List.mem_cons, List.mem_nil_iff, or_false] at ht; rcases ht with rfl | rfl | rfl <;> exact ⟨by as_aux_lemma => kernel_rfl, of_decide_eq_true (by as_aux_lemma => kernel_rfl)⟩) rfl Tryz.underlying4 hb⟩
theorem proj_j0 : Tryz.prog.inPlace 16 = Rows.multiwayProjectsRow.inPlace := by as_aux_lemma => kernel_rfl
theorem proj_j1 : Tryz.prog.unfollowed 16 = Rows.multiwayProjectsRow.unfollowed := by as_aux_lemma => kernel_rfl
theorem proj_j2 : Tryz.prog.recurses 16 = Rows.multiwayProjectsRow.recurses := by as_aux_lemma => kernel_rfl
theorem proj_j3 : Tryz.prog.varsNamed 16 = Rows.multiwayProjectsRow.named := by as_aux_lemma => kernel_rfl
theorem proj_joined : joinedFacts Tryz.prog 16 Tryz.f16 Rows.multiwayProjectsSpec Rows.multiwayProjectsRow = true := by
  unfold joinedFacts
  rw [proj_j0, proj_j1, proj_j2, proj_j3, io_enter, io_lifts, io_make]
  kernel_rfl
theorem proj_holds : Rows.MultiwayProjectsSaid :=
  OpenClaim.holds_of_wide 16 Tryz.f16 rfl rfl rfl rfl rfl rfl rfl ⟨rfl, rfl, rfl, rfl, rfl⟩ rfl rfl rfl rfl rfl (by as_aux_lemma => kernel_rfl) Tryz.func16 proj_joined
    (of_decide_eq_true (by as_aux_lemma => kernel_rfl)) (by unfold Func.isWrapper; first | (rw [if_pos (by decide +kernel)]; kernel_rfl) | (rw [if_neg (by decide +kernel)]; exact ⟨rfl, rfl⟩))
    (fun os started H enc _ => proj_lifted os started H enc)
theorem proj_card : Rows.MultiwayProjectsCardSaid :=
  Claim7.holds_tied_plain_at .later [] [.data, .data, .data, .sentinel, .sentinel] true (true, "8da3727bd41b5459b46e191c9a7204ac1b54c7258f68ddd1a33546be5efdd15c") true
    proj_holds (fun _ h => by cases h) (by as_aux_lemma => kernel_rfl) (fun _ h => by cases h) multiwayProjects_row_tie rfl ⟨rfl, rfl⟩ io_main rfl
    (fun f fn hf hfn => by
      obtain rfl : f = 16 := Option.some.inj ((show Tryz.prog.funcNamed "apograph/apographlaw19.MultiwayProjects" = some 16 by as_aux_lemma => kernel_rfl).symm.trans hf) |>.symm
      obtain rfl : fn = Tryz.f16 := (Option.some.inj (Tryz.func16.symm.trans hfn)).symm
      exact ⟨by as_aux_lemma => kernel_rfl, fun j t ht => by
        have ht' : [24, 31, 5][j]? = some t := by rw [Tryz.params16] at ht; simpa using ht
        have hm := List.mem_of_getElem? ht'
        simp only [List.mem_cons, List.mem_nil_iff, or_false] at hm
        rcases hm with rfl | rfl | rfl <;> exact (show Tryz.prog.wantsStandIn _ = false by as_aux_lemma => kernel_rfl)⟩)
    (by as_aux_lemma => kernel_rfl)
#print axioms proj_card
end Go.Proofs.YtofikdpbagnjbaaGreatDoor
