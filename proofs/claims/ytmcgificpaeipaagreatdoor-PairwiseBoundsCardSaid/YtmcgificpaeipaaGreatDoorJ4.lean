/- Walks: pairs of sources: the reference: how many optimal alignments there are. -/
import Derived.Test.YtmcgificpaeipaaGreatDoorJ3
import Derived.Lib.AppendZerosOnto
set_option linter.unusedVariables false
set_option linter.unusedSimpArgs false
namespace Go.Proofs.YtmcgificpaeipaaGreatDoor
open Go.RowKit Go.Shelf Go.Proofs
set_option maxRecDepth 100000
set_option maxHeartbeats 1000000

/-- What the reference keeps while it goes through the moves. -/
def accN (G : Grd) (i k : Nat) : Nat → Int
  | 0 => if i = G.n ∧ k = G.m then 1 else 0
  | j + 1 => match (mvs G i k)[j]? with
    | some x => addW (rst G i k) (accN G i k j) (via G i k x) (wys G (i + x.fst) (k + x.snd))
    | none => accN G i k j
theorem accN_step {G : Grd} {i k j : Nat} {x : Mv} (h : (mvs G i k)[j]? = some x) : accN G i k (j + 1) = addW (rst G i k) (accN G i k j) (via G i k x) (wys G (i + x.fst) (k + x.snd)) := by
  simp only [accN, h]
theorem accN_bd (G : Grd) (i k : Nat) : ∀ j, 0 ≤ accN G i k j ∧ accN G i k j ≤ big
  | 0 => by unfold accN big; split <;> omega
  | j + 1 => by
    have ih := accN_bd G i k j
    cases h : (mvs G i k)[j]? with
    | none => simp only [accN, h]; exact ih
    | some x =>
      rw [accN_step h]
      have hw := wys_bd G (i + x.fst) (k + x.snd)
      exact addW_bd ih ⟨by omega, hw.2⟩
theorem accN_all (G : Grd) (i k : Nat) (hi : i ≤ G.n) (hk : k ≤ G.m) : accN G i k (mvs G i k).length = wys G i k := by
  by_cases hi2 : i < G.n
  · by_cases hk2 : k < G.m
    · rw [mvs_both hi2 hk2, wys_both hi2 hk2]
      show accN G i k 3 = _
      simp only [accN, mvs_both hi2 hk2, List.getElem?_cons_zero, List.getElem?_cons_succ, via, Nat.add_zero]
      rw [if_neg (by omega)]
    · rw [mvs_fst hi2 hk2, wys_fst hi2 hk2]
      show accN G i k 1 = _
      simp only [accN, mvs_fst hi2 hk2, List.getElem?_cons_zero, via, Nat.add_zero]
      rw [if_neg (by omega)]
  · by_cases hk2 : k < G.m
    · rw [mvs_snd hi2 hk2, wys_snd hi2 hk2]
      show accN G i k 1 = _
      simp only [accN, mvs_snd hi2 hk2, List.getElem?_cons_zero, via, Nat.add_zero]
      rw [if_neg (by omega)]
    · rw [mvs_none hi2 hk2, wys_none hi2 hk2]
      show accN G i k 0 = 1
      exact if_pos ⟨by omega, by omega⟩
/-- The numbers of a table in work. -/
def iniC (G : Grd) (n m j : Nat) (i' k' : Nat) : Int := if i' = n ∧ k' = m then 1 else soFar n m j (wys G) i' k'
def inC (G : Grd) (n m j i k jj : Nat) (i' k' : Nat) : Int := if i' = i ∧ k' = k then accN G i k jj else iniC G n m j i' k'
theorem inC_zero {G : Grd} {n m j i k : Nat} (hn : G.n = n) (hm : G.m = m) (hno : (i, k) ∉ (placesL n m).take j) (i' k' : Nat) : inC G n m j i k 0 i' k' = iniC G n m j i' k' := by
  unfold inC
  split
  · rename_i h; obtain ⟨rfl, rfl⟩ := h
    unfold iniC accN
    rw [hn, hm]
    split
    · rfl
    · unfold soFar; rw [if_neg hno]
  · rfl
theorem inC_all {G : Grd} {n m j i k : Nat} (hn : G.n = n) (hm : G.m = m) (hi : i ≤ n) (hk : k ≤ m) (hp : (placesL n m)[j]? = some (i, k)) (i' k' : Nat) : inC G n m j i k (mvs G i k).length i' k' = iniC G n m (j + 1) i' k' := by
  unfold inC iniC
  rw [accN_all G i k (by omega) (by omega), soFar_step hp]
  by_cases h : i' = i ∧ k' = k
  · rw [if_pos h, if_pos h]
    split
    · rename_i h2; rw [h.1] at h2; rw [h.2] at h2; exact wys_none (by omega) (by omega)
    · rfl
  · rw [if_neg h, if_neg h]
theorem iniC_get {G : Grd} {n m j i k i' k' : Nat} (hn : G.n = n) (hm : G.m = m) (h : (placesL n m)[j]? = some (i, k)) (hi : i' ≤ n) (hk : k' ≤ m) (hlt : i < i' ∨ (i = i' ∧ k < k')) : iniC G n m j i' k' = wys G i' k' := by
  unfold iniC
  split
  · exact (wys_none (by omega) (by omega)).symm
  · exact soFar_get h _ hi hk hlt
theorem countRef18_spec (c : Costs) (A B : Option Addr) (n m ca cb : Nat) (a b : List Tok) (w : World) (h2 : Two w A B n m a b) :
    Spec Tryz.prog 21 [c.val, .slice A n ca, .slice B m cb] w (fun v R => v = .tuple #[.int .i64 (countV c a b).1, .int .i64 (countV c a b).2] ∧ R = []) := by
  refine spec_of sg Tryz.func21 rfl rfl rfl ?_
  refine T_op (OpT.box (cs := c.cells) rfl rfl rfl rfl rfl rfl rfl (fun pc => ?_))
  repeat' (first | refine d1 ?_ | refine dd ?_ | (show T _ (.ops _ (_ :: _) :: _) _ _ _; first | refine T_call rfl rfl rfl rfl rfl (fun w hw => ck18_spec c A B n m ca cb a b w (h2.cls hw)) ?_ | refine T_callC rfl rfl rfl rfl rfl rfl rfl (fun hg w hw => ck18_spec c A B n m ca cb a b w (h2.cls hw)) ?_) | (show T _ (.run _ _ (_ :: _) _ _ :: _) _ _ _; first | refine rc rfl rfl rfl rfl rfl rfl rfl (fun w hw => ck18_spec c A B n m ca cb a b w (h2.cls hw)) ?_ | refine rcG rfl rfl rfl rfl rfl rfl rfl rfl rfl (fun hg w hw => ck18_spec c A B n m ca cb a b w (h2.cls hw)) ?_) | (show ∀ _ : Nat, T _ _ _ _ _; intro _))
  refine T_if rfl (fun h => ?_) (fun hk => ?_)
  · simp only [Bool.not_eq_true', decide_eq_false_iff_not] at h
    have e : countV c a b = (0, 1) := if_neg h
    have e1 := (ckV_01 c a b).resolve_left h
    rw [e, e1]
    repeat' (first | refine d1 ?_ | refine dd ?_ | (show ∀ _ : Nat, T _ _ _ _ _; intro _) | (show T _ (.code .ret :: _) _ _ _; refine T_retV [] rfl (Hle.none _) ⟨rfl, rfl⟩))
  simp only [Bool.not_eq_false', decide_eq_true_eq] at hk
  have e : countV c a b = (wys (grdOf c a b) 0 0, 0) := if_pos hk
  have hG := grdOf_ok (ckV_ok hk).1 a b
  have e1 : (grdOf c a b).n = n := h2.hn
  have e2 : (grdOf c a b).m = m := h2.hm
  have hnb := h2.hnb
  have hmb := h2.hmb
  rw [e]
  repeat' (first | refine d1 ?_ | refine dd ?_ | (show T _ (.ops _ (_ :: _) :: _) _ _ _; refine T_op (OpT.call rfl rfl rfl rfl rfl (fun w hw => table18_spec c A B n m ca cb a b w (h2.cls hw) hk) ?_)) | (show ∀ _ : Nat, T _ _ _ _ _; intro _))
  rintro v R ⟨x, -, rfl, rfl⟩
  refine T_le (H' := [dat [v] [rowsD (tabR n m (rst (grdOf c a b)))], blk pc c.cells 23]) (Hle.refl _) ?_
  refine T_open fun pt hpt => ?_
  obtain ⟨At, capt, cst, rfl, -, -, -, hAt, hrt⟩ := hpt.tab
  rw [tabR_length] at hAt ⊢
  obtain ⟨bt, ot, rfl, hbt⟩ := hAt (by omega)
  repeat' (first | refine d1 ?_ | refine dd ?_ | (show ∀ _ : Nat, T _ _ _ _ _; intro _))
  rename_i b0
  refine T_le (H' := [row 33 1 (some ⟨b0, 0, none⟩) 0 0 [], fz pt, blk pc c.cells 23]) (Hle.weaken (i := 0) rfl (blk_row (sz := 1) (n := 0) rfl (by simp only [maxLen]; omega)) rfl) ?_
  refine T_nilblks 3 ?_
  refine T_loopX (fun s : List (Nat × List Value) × Nat × Nat => [(11, .int .i64 s.1.length), (10, .slice (some ⟨s.2.1, 0, none⟩) s.1.length s.2.2)]) (fun s => [blks 3 s.1, row 33 1 (some ⟨s.2.1, 0, none⟩) s.2.2 s.1.length (s.1.map (slv m)), fz pt, blk pc c.cells 23]) (fun s => s.1.length ≤ n + 1 ∧ RowsOk (fun _ _ => 0) (m + 1) s.1) (fun s => n + 1 - s.1.length) ([], b0, 0) ⟨Nat.zero_le _, fun i x h => by simp at h⟩ ?_
  rintro ⟨L, g, cap⟩ ⟨hL, hR⟩
  dsimp only at hL hR ⊢
  repeat' (first | refine d1 ?_ | refine dd ?_ | (show ∀ _ : Nat, T _ _ _ _ _; intro _))
  refine T_if rfl (fun h => ?_) (fun h => ?_)
  · simp only [decide_eq_true_eq] at h
    repeat' (first | refine d1 ?_ | refine dd ?_ | (show T _ (.ops _ (_ :: _) :: _) _ _ _; first | refine T_op (OpT.make rfl rfl rfl rfl rfl rfl rfl rfl rfl (by dsimp only; omega) (fun b1 => ?_)) | refine T_op (OpT.append rfl rfl rfl rfl rfl rfl rfl rfl rfl rfl (fun w hw => Src.own hw rfl) rfl (by dsimp only; omega) (by omega) (fun A' cap' hA' => ?_))) | (show ∀ _ : Nat, T _ _ _ _ _; intro _))
    obtain ⟨g', rfl⟩ := hA' (by omega)
    refine T_le (H' := [blk b1 (List.replicate (m + 1) (.int .i64 0)) 3, blks 3 L, row 33 1 (some ⟨g', 0, none⟩) cap' (L.length + 1) (L.map (slv m) ++ [.slice (some ⟨b1, 0, none⟩) (m + 1) (m + 1)]), fz pt, blk pc c.cells 23]) (Hle.tail _ _) ?_
    refine T_backX (L ++ [(b1, List.replicate (m + 1) (.int .i64 0))], g', cap') ⟨by dsimp only; rw [List.length_append]; exact Nat.succ_le_of_lt (by omega), rows_snoc0 hR⟩ (by dsimp only; rw [List.length_append]; simp; omega) (hE := ⟨by dsimp only; rw [List.length_append]; rfl, by dsimp only; rw [List.length_append]; rfl, trivial⟩) (hG := ?_)
    dsimp only
    rw [List.length_append, List.map_append]
    exact blks_snoc
  simp only [decide_eq_false_iff_not] at h
  have hLn : L.length = n + 1 := by omega
  rw [hLn]
  obtain ⟨⟨gn, cn⟩, hVn⟩ : ∃ x, L[n]? = some x := ⟨_, List.getElem?_eq_getElem (by omega)⟩
  have hcn : cn = valV (fun _ => 0) (m + 1) := hR _ _ hVn
  have hln : cn.length = m + 1 := by rw [hcn, valV_length]
  have hdn : (L.map (slv m))[n]? = some (.slice (some ⟨gn, 0, none⟩) (m + 1) (m + 1)) := by rw [List.getElem?_map, hVn]; rfl
  repeat' (first | refine d1 ?_ | refine dd ?_ | (show T _ (.ops _ (_ :: _) :: _) _ _ _; first | refine T_val rfl (Val.load rfl (fun hg => rdRow (A := some ⟨g, 0, none⟩) (vs := [.slice (some ⟨gn, 0, none⟩) (m + 1) (m + 1)]) (by omega) (get1 (by rw [show 0 + (n : Int).toNat * 1 = n by omega]; exact hdn)))) rfl rfl rfl ?_ | refine T_valC rfl (Val.load rfl (fun hg => rdRow (A := some ⟨g, 0, none⟩) (vs := [.slice (some ⟨gn, 0, none⟩) (m + 1) (m + 1)]) (by omega) (get1 (by rw [show 0 + (n : Int).toNat * 1 = n by omega]; exact hdn)))) rfl rfl rfl rfl rfl ?_ | refine T_op (OpT.storeM rfl rfl rfl hVn rfl (by rw [hln]; omega) ?_)) | (show T _ (.run _ _ (_ :: _) _ _ :: _) _ _ _; first | refine rv rfl rfl rfl (Val.load rfl (fun hg => rdRow (A := some ⟨g, 0, none⟩) (vs := [.slice (some ⟨gn, 0, none⟩) (m + 1) (m + 1)]) (by omega) (get1 (by rw [show 0 + (n : Int).toNat * 1 = n by omega]; exact hdn)))) rfl rfl rfl ?_ | refine rg rfl rfl rfl (Val.load rfl (fun hg => rdRow (A := some ⟨g, 0, none⟩) (vs := [.slice (some ⟨gn, 0, none⟩) (m + 1) (m + 1)]) (by omega) (get1 (by rw [show 0 + (n : Int).toNat * 1 = n by omega]; exact hdn)))) rfl rfl rfl rfl rfl ?_) | (show ∀ _ : Nat, T _ _ _ _ _; intro _))
  rw [show 0 + (m : Int).toNat * 1 = m by omega]
  have hR0 : RowsOk (iniC (grdOf c a b) n m 0) (m + 1) (L.set n (gn, cn.set m (.int .i64 1))) := rows_put hR hVn fun i' k' => by
    unfold iniC; rw [soFar_zero]
  have hLs : (L.set n (gn, cn.set m (.int .i64 1))).length = n + 1 := by rw [List.length_set]; exact hLn
  refine T_le (H' := [blks 3 (L.set n (gn, cn.set m (.int .i64 1))), row 33 1 (some ⟨g, 0, none⟩) cap (n + 1) ((L.set n (gn, cn.set m (.int .i64 1))).map (slv m)), fz pt, blk pc c.cells 23]) (by rw [slv_set hVn]; exact Hle.refl _) ?_
  generalize L.set n (gn, cn.set m (.int .i64 1)) = L0 at hR0 hLs ⊢
  refine T_loopX (fun s : Nat × List (Nat × List Value) => [(12, .int .i64 ((n : Int) - s.1))]) (fun s => [blks 3 s.2, row 33 1 (some ⟨g, 0, none⟩) cap (n + 1) (s.2.map (slv m)), fz pt, blk pc c.cells 23]) (fun s => s.1 ≤ n + 1 ∧ s.2.length = n + 1 ∧ RowsOk (iniC (grdOf c a b) n m (s.1 * (m + 1))) (m + 1) s.2) (fun s => n + 1 - s.1) (0, L0) ⟨Nat.zero_le _, hLs, by rw [Nat.zero_mul]; exact hR0⟩ ?_ (hE := ⟨by rw [show (n : Int) - ((0 : Nat) : Int) = n by omega]; rfl, trivial⟩)
  rintro ⟨p, M⟩ ⟨hp, hM, hS⟩
  dsimp only at hp hM hS ⊢
  repeat' (first | refine d1 ?_ | refine dd ?_ | (show ∀ _ : Nat, T _ _ _ _ _; intro _))
  refine T_if rfl (fun h3 => ?_) (fun h3 => ?_)
  · simp only [decide_eq_true_eq] at h3
    repeat' (first | refine d1 ?_ | refine dd ?_ | (show ∀ _ : Nat, T _ _ _ _ _; intro _))
    refine T_loopX (fun s : Nat × List (Nat × List Value) => [(13, .int .i64 ((m : Int) - s.1))]) (fun s => [blks 3 s.2, row 33 1 (some ⟨g, 0, none⟩) cap (n + 1) (s.2.map (slv m)), fz pt, blk pc c.cells 23]) (fun s => s.1 ≤ m + 1 ∧ s.2.length = n + 1 ∧ RowsOk (iniC (grdOf c a b) n m (p * (m + 1) + s.1)) (m + 1) s.2) (fun s => m + 1 - s.1) (0, M) ⟨Nat.zero_le _, hM, hS⟩ ?_ (hE := ⟨by rw [show (m : Int) - ((0 : Nat) : Int) = m by omega]; rfl, trivial⟩)
    rintro ⟨q, M2⟩ ⟨hq, hM2, hS2⟩
    dsimp only at hq hM2 hS2 ⊢
    repeat' (first | refine d1 ?_ | refine dd ?_ | (show ∀ _ : Nat, T _ _ _ _ _; intro _))
    refine T_if rfl (fun h4 => ?_) (fun h4 => ?_)
    · simp only [decide_eq_true_eq] at h4
      have hpl := placesL_get (n := n) (m := m) (p := p) (q := q) (by omega) (by omega)
      have hno := place_new (n := n) (m := m) (p := p) (q := q) (by omega) (by omega)
      obtain ⟨i, hi⟩ : ∃ i, i = n - p := ⟨_, rfl⟩
      obtain ⟨k, hkk⟩ : ∃ k, k = m - q := ⟨_, rfl⟩
      rw [show (n : Int) - p = (i : Nat) by omega, show (m : Int) - q = (k : Nat) by omega]
      rw [← hi, ← hkk] at hpl hno
      have hin : i ≤ n := by omega
      have hkm : k ≤ m := by omega
      obtain ⟨Ari, capri, hcsi, -, -, hAri⟩ := hrt.tabRow (tabR_get hin)
      rw [List.length_map, List.length_range] at hcsi hAri
      obtain ⟨bri, ori, rfl, hbri⟩ := hAri (by omega)
      repeat' (first | refine d1 ?_ | refine dd ?_ | (show T _ (.ops _ (_ :: _) :: _) _ _ _; refine T_op (OpT.call rfl rfl rfl rfl rfl (fun w hw => moves18_spec c A B n m ca cb a b i k w h2.hn hnb h2.hm hmb hin hkm) ?_)) | (show ∀ _ : Nat, T _ _ _ _ _; intro _))
      rintro v R ⟨x, -, rfl, rfl⟩
      refine T_le (H' := [dat [v] [rowsD (mvR (grdOf c a b) i k)], blks 3 M2, row 33 1 (some ⟨g, 0, none⟩) cap (n + 1) (M2.map (slv m)), fz pt, blk pc c.cells 23]) (Hle.refl _) ?_
      refine T_open fun pm hpm => ?_
      obtain ⟨Am, capm, csm, rfl, -, -, hcsm, hAm, hrm⟩ := hpm.tab
      have hlen : (mvR (grdOf c a b) i k).length = (mvs (grdOf c a b) i k).length := by unfold mvR; rw [List.length_map]
      have hm3 := mvs_len (grdOf c a b) i k
      rw [hlen] at hAm ⊢
      repeat' (first | refine d1 ?_ | refine dd ?_ | (show ∀ _ : Nat, T _ _ _ _ _; intro _))
      refine T_loopX (fun s : Nat × List (Nat × List Value) => [(15, .int .i64 s.1)]) (fun s => [fz pm, blks 3 s.2, row 33 1 (some ⟨g, 0, none⟩) cap (n + 1) (s.2.map (slv m)), fz pt, blk pc c.cells 23]) (fun s => s.1 ≤ (mvs (grdOf c a b) i k).length ∧ s.2.length = n + 1 ∧ RowsOk (inC (grdOf c a b) n m (p * (m + 1) + q) i k s.1) (m + 1) s.2) (fun s => (mvs (grdOf c a b) i k).length - s.1) (0, M2) ⟨Nat.zero_le _, hM2, hS2.ext hM2 fun i' k' _ _ => (inC_zero e1 e2 hno i' k').symm⟩ ?_
      rintro ⟨jj, M3⟩ ⟨hjj, hM3, hS3⟩
      dsimp only at hjj hM3 hS3 ⊢
      repeat' (first | refine d1 ?_ | refine dd ?_ | (show ∀ _ : Nat, T _ _ _ _ _; intro _))
      refine T_if rfl (fun h5 => ?_) (fun h5 => ?_)
      · simp only [decide_eq_true_eq] at h5
        have hjl : jj < (mvs (grdOf c a b) i k).length := by omega
        obtain ⟨v, hv⟩ : ∃ v, (mvs (grdOf c a b) i k)[jj]? = some v := ⟨_, List.getElem?_eq_getElem hjl⟩
        have hb := mv_to hG h2.hn h2.hm hin hkm hv
        have hmR : (mvR (grdOf c a b) i k)[jj]? = some (mvCol i k v) := by unfold mvR; rw [List.getElem?_map, hv]; rfl
        obtain ⟨bm, om, rfl, hbm⟩ := hAm (by omega)
        obtain ⟨Ar, capr, hcr, -, -, hAr⟩ := hrm.tabRow hmR
        obtain ⟨bx, ox, rfl, hbx⟩ := hAr (show 0 < 2 by omega)
        obtain ⟨Art, caprt, hcrt, -, -, hArt⟩ := hrt.tabRow (tabR_get (show i + v.fst ≤ n by omega))
        rw [List.length_map, List.length_range] at hcrt hArt
        obtain ⟨brt, ort, rfl, hbrt⟩ := hArt (by omega)
        obtain ⟨⟨g1, c1⟩, hV1⟩ : ∃ x, M3[i + v.fst]? = some x := ⟨_, List.getElem?_eq_getElem (by omega)⟩
        obtain ⟨⟨g0, c0⟩, hV0⟩ : ∃ x, M3[i]? = some x := ⟨_, List.getElem?_eq_getElem (by omega)⟩
        have hc1 : c1 = valV (inC (grdOf c a b) n m (p * (m + 1) + q) i k jj (i + v.fst)) (m + 1) := hS3 _ _ hV1
        have hc0 : c0 = valV (inC (grdOf c a b) n m (p * (m + 1) + q) i k jj i) (m + 1) := hS3 _ _ hV0
        have ec1 : inC (grdOf c a b) n m (p * (m + 1) + q) i k jj (i + v.fst) (k + v.snd) = wys (grdOf c a b) (i + v.fst) (k + v.snd) := by
          unfold inC; rw [if_neg (by omega)]; exact iniC_get e1 e2 hpl (by omega) (by omega) (by omega)
        have ec0 : inC (grdOf c a b) n m (p * (m + 1) + q) i k jj i k = accN (grdOf c a b) i k jj := if_pos ⟨rfl, rfl⟩
        have hrb := rst_bd2 hG h2.hn h2.hm hnb hmb (i + v.fst) (k + v.snd)
        have hwb := wys_bd (grdOf c a b) (i + v.fst) (k + v.snd)
        have hab := accN_bd (grdOf c a b) i k jj
        unfold big at hwb hab
        have es := accN_step hv
        have hd : ∀ {r : Nat} {gr : Nat} {cr : List Value}, M3[r]? = some (gr, cr) → (M3.map (slv m))[r]? = some (.slice (some ⟨gr, 0, none⟩) (m + 1) (m + 1)) := fun h => by rw [List.getElem?_map, h]; rfl
        have hl0 : c0.length = m + 1 := by rw [hc0, valV_length]
        repeat' (first | refine d1 ?_ | refine dd ?_ | (show T _ (.ops _ (_ :: _) :: _) _ _ _; first | refine T_val rfl (Val.load rfl (fun hg => rdFz (p := pm) (u := .slice (some ⟨bx, ox, none⟩) 2 capr) (b := bm) (by rw [off1]; exact hbm jj _ hcr))) rfl rfl rfl ?_ | refine T_valC rfl (Val.load rfl (fun hg => rdFz (p := pm) (u := .slice (some ⟨bx, ox, none⟩) 2 capr) (b := bm) (by rw [off1]; exact hbm jj _ hcr))) rfl rfl rfl rfl rfl ?_ | refine T_call rfl rfl rfl rfl rfl (fun w hw => behind18_spec c A B n m ca cb a b i k v bt ot (n + 1) capt brt ort (m + 1) caprt bx ox capr (rst (grdOf c a b) (i + v.fst) (k + v.snd)) w (h2.cls hw) hk hin hkm (List.mem_of_getElem? hv) (rdFz (p := pm) (hbx 0 _ rfl) w hw) (rdFz (p := pm) (hbx 1 _ rfl) w hw) (rdFz (p := pt) (hbt (i + v.fst) _ hcrt) w hw) (rdFz (p := pt) (hbrt (k + v.snd) _ (tabR_cell (by omega))) w hw) (by omega) (by omega) hrb) ?_ | refine T_callC rfl rfl rfl rfl rfl rfl rfl (fun hg w hw => behind18_spec c A B n m ca cb a b i k v bt ot (n + 1) capt brt ort (m + 1) caprt bx ox capr (rst (grdOf c a b) (i + v.fst) (k + v.snd)) w (h2.cls hw) hk hin hkm (List.mem_of_getElem? hv) (rdFz (p := pm) (hbx 0 _ rfl) w hw) (rdFz (p := pm) (hbx 1 _ rfl) w hw) (rdFz (p := pt) (hbt (i + v.fst) _ hcrt) w hw) (rdFz (p := pt) (hbrt (k + v.snd) _ (tabR_cell (by omega))) w hw) (by omega) (by omega) hrb) ?_ | refine T_val rfl (Val.load rfl (fun hg => rdFz (p := pt) (u := .slice (some ⟨bri, ori, none⟩) (m + 1) capri) (b := bt) (by rw [off1]; exact hbt i _ hcsi))) rfl rfl rfl ?_ | refine T_valC rfl (Val.load rfl (fun hg => rdFz (p := pt) (u := .slice (some ⟨bri, ori, none⟩) (m + 1) capri) (b := bt) (by rw [off1]; exact hbt i _ hcsi))) rfl rfl rfl rfl rfl ?_ | refine T_val rfl (Val.load rfl (fun hg => rdFz (p := pt) (u := .int .i64 (rst (grdOf c a b) i k)) (b := bri) (by rw [off1]; exact hbri k _ (tabR_cell hkm)))) rfl rfl rfl ?_ | refine T_valC rfl (Val.load rfl (fun hg => rdFz (p := pt) (u := .int .i64 (rst (grdOf c a b) i k)) (b := bri) (by rw [off1]; exact hbri k _ (tabR_cell hkm)))) rfl rfl rfl rfl rfl ?_) | (show T _ (.run _ _ (_ :: _) _ _ :: _) _ _ _; first | refine rv rfl rfl rfl (Val.load rfl (fun hg => rdFz (p := pm) (u := .slice (some ⟨bx, ox, none⟩) 2 capr) (b := bm) (by rw [off1]; exact hbm jj _ hcr))) rfl rfl rfl ?_ | refine rg rfl rfl rfl (Val.load rfl (fun hg => rdFz (p := pm) (u := .slice (some ⟨bx, ox, none⟩) 2 capr) (b := bm) (by rw [off1]; exact hbm jj _ hcr))) rfl rfl rfl rfl rfl ?_ | refine rc rfl rfl rfl rfl rfl rfl rfl (fun w hw => behind18_spec c A B n m ca cb a b i k v bt ot (n + 1) capt brt ort (m + 1) caprt bx ox capr (rst (grdOf c a b) (i + v.fst) (k + v.snd)) w (h2.cls hw) hk hin hkm (List.mem_of_getElem? hv) (rdFz (p := pm) (hbx 0 _ rfl) w hw) (rdFz (p := pm) (hbx 1 _ rfl) w hw) (rdFz (p := pt) (hbt (i + v.fst) _ hcrt) w hw) (rdFz (p := pt) (hbrt (k + v.snd) _ (tabR_cell (by omega))) w hw) (by omega) (by omega) hrb) ?_ | refine rcG rfl rfl rfl rfl rfl rfl rfl rfl rfl (fun hg w hw => behind18_spec c A B n m ca cb a b i k v bt ot (n + 1) capt brt ort (m + 1) caprt bx ox capr (rst (grdOf c a b) (i + v.fst) (k + v.snd)) w (h2.cls hw) hk hin hkm (List.mem_of_getElem? hv) (rdFz (p := pm) (hbx 0 _ rfl) w hw) (rdFz (p := pm) (hbx 1 _ rfl) w hw) (rdFz (p := pt) (hbt (i + v.fst) _ hcrt) w hw) (rdFz (p := pt) (hbrt (k + v.snd) _ (tabR_cell (by omega))) w hw) (by omega) (by omega) hrb) ?_ | refine rv rfl rfl rfl (Val.load rfl (fun hg => rdFz (p := pt) (u := .slice (some ⟨bri, ori, none⟩) (m + 1) capri) (b := bt) (by rw [off1]; exact hbt i _ hcsi))) rfl rfl rfl ?_ | refine rg rfl rfl rfl (Val.load rfl (fun hg => rdFz (p := pt) (u := .slice (some ⟨bri, ori, none⟩) (m + 1) capri) (b := bt) (by rw [off1]; exact hbt i _ hcsi))) rfl rfl rfl rfl rfl ?_ | refine rv rfl rfl rfl (Val.load rfl (fun hg => rdFz (p := pt) (u := .int .i64 (rst (grdOf c a b) i k)) (b := bri) (by rw [off1]; exact hbri k _ (tabR_cell hkm)))) rfl rfl rfl ?_ | refine rg rfl rfl rfl (Val.load rfl (fun hg => rdFz (p := pt) (u := .int .i64 (rst (grdOf c a b) i k)) (b := bri) (by rw [off1]; exact hbri k _ (tabR_cell hkm)))) rfl rfl rfl rfl rfl ?_) | (show ∀ _ : Nat, T _ _ _ _ _; intro _))
        refine T_if rfl (fun h6 => ?_) (fun h6 => ?_)
        · simp only [Bool.not_eq_true', decide_eq_false_iff_not] at h6
          repeat' (first | refine d1 ?_ | refine dd ?_ | (show ∀ _ : Nat, T _ _ _ _ _; intro _))
          refine T_backX (jj + 1, M3) ⟨Nat.succ_le_of_lt hjl, hM3, hS3.ext hM3 fun i' k' _ _ => ?_⟩ (by dsimp only; omega)
          unfold inC
          rw [es, show addW (rst (grdOf c a b) i k) (accN (grdOf c a b) i k jj) (via (grdOf c a b) i k v) (wys (grdOf c a b) (i + v.fst) (k + v.snd)) = accN (grdOf c a b) i k jj from if_neg h6]
        simp only [Bool.not_eq_false', decide_eq_true_eq] at h6
        have es2 : accN (grdOf c a b) i k (jj + 1) = min 1073741824 (accN (grdOf c a b) i k jj + wys (grdOf c a b) (i + v.fst) (k + v.snd)) := by rw [es]; exact if_pos h6
        have hput : RowsOk (inC (grdOf c a b) n m (p * (m + 1) + q) i k (jj + 1)) (m + 1) (M3.set i (g0, c0.set k (.int .i64 (min 1073741824 (accN (grdOf c a b) i k jj + wys (grdOf c a b) (i + v.fst) (k + v.snd)))))) := rows_put hS3 hV0 fun i' k' => by
          unfold inC
          rw [es2]
          split <;> rfl
        repeat' (first | refine d1 ?_ | refine dd ?_ | (show T _ (.ops _ (_ :: _) :: _) _ _ _; first | refine T_val rfl (Val.load rfl (fun hg => rdFz (p := pm) (u := .slice (some ⟨bx, ox, none⟩) 2 capr) (b := bm) (by rw [off1]; exact hbm jj _ hcr))) rfl rfl rfl ?_ | refine T_valC rfl (Val.load rfl (fun hg => rdFz (p := pm) (u := .slice (some ⟨bx, ox, none⟩) 2 capr) (b := bm) (by rw [off1]; exact hbm jj _ hcr))) rfl rfl rfl rfl rfl ?_ | refine T_val rfl (Val.load rfl (fun hg => rdFz (p := pm) (u := .int .i64 (if v.fst = 1 then (i : Int) else -1)) (b := bx) (hbx 0 _ rfl))) rfl rfl rfl ?_ | refine T_valC rfl (Val.load rfl (fun hg => rdFz (p := pm) (u := .int .i64 (if v.fst = 1 then (i : Int) else -1)) (b := bx) (hbx 0 _ rfl))) rfl rfl rfl rfl rfl ?_) | (show T _ (.run _ _ (_ :: _) _ _ :: _) _ _ _; first | refine rv rfl rfl rfl (Val.load rfl (fun hg => rdFz (p := pm) (u := .slice (some ⟨bx, ox, none⟩) 2 capr) (b := bm) (by rw [off1]; exact hbm jj _ hcr))) rfl rfl rfl ?_ | refine rg rfl rfl rfl (Val.load rfl (fun hg => rdFz (p := pm) (u := .slice (some ⟨bx, ox, none⟩) 2 capr) (b := bm) (by rw [off1]; exact hbm jj _ hcr))) rfl rfl rfl rfl rfl ?_ | refine rv rfl rfl rfl (Val.load rfl (fun hg => rdFz (p := pm) (u := .int .i64 (if v.fst = 1 then (i : Int) else -1)) (b := bx) (hbx 0 _ rfl))) rfl rfl rfl ?_ | refine rg rfl rfl rfl (Val.load rfl (fun hg => rdFz (p := pm) (u := .int .i64 (if v.fst = 1 then (i : Int) else -1)) (b := bx) (hbx 0 _ rfl))) rfl rfl rfl rfl rfl ?_) | (show ∀ _ : Nat, T _ _ _ _ _; intro _))
        rcases mvs_form (List.mem_of_getElem? hv) with ⟨hve, f1, f2⟩ | ⟨hve, f1⟩ | ⟨hve, f1⟩
        · have hv1 : v.fst = 1 := by rw [hve]
          have hv2 : v.snd = 1 := by rw [hve]
          rw [if_pos hv1]
          refine T_if rfl (fun h7 => ?_) (fun h7 => by exfalso; first | (simp at h7; done) | (simp at h7; omega))
          repeat' (first | refine d1 ?_ | refine dd ?_ | (show T _ (.ops _ (_ :: _) :: _) _ _ _; first | refine T_val rfl (Val.load rfl (fun hg => rdFz (p := pm) (u := .slice (some ⟨bx, ox, none⟩) 2 capr) (b := bm) (by rw [off1]; exact hbm jj _ hcr))) rfl rfl rfl ?_ | refine T_valC rfl (Val.load rfl (fun hg => rdFz (p := pm) (u := .slice (some ⟨bx, ox, none⟩) 2 capr) (b := bm) (by rw [off1]; exact hbm jj _ hcr))) rfl rfl rfl rfl rfl ?_ | refine T_val rfl (Val.load rfl (fun hg => rdFz (p := pm) (u := .int .i64 (if v.snd = 1 then (k : Int) else -1)) (b := bx) (hbx 1 _ rfl))) rfl rfl rfl ?_ | refine T_valC rfl (Val.load rfl (fun hg => rdFz (p := pm) (u := .int .i64 (if v.snd = 1 then (k : Int) else -1)) (b := bx) (hbx 1 _ rfl))) rfl rfl rfl rfl rfl ?_) | (show T _ (.run _ _ (_ :: _) _ _ :: _) _ _ _; first | refine rv rfl rfl rfl (Val.load rfl (fun hg => rdFz (p := pm) (u := .slice (some ⟨bx, ox, none⟩) 2 capr) (b := bm) (by rw [off1]; exact hbm jj _ hcr))) rfl rfl rfl ?_ | refine rg rfl rfl rfl (Val.load rfl (fun hg => rdFz (p := pm) (u := .slice (some ⟨bx, ox, none⟩) 2 capr) (b := bm) (by rw [off1]; exact hbm jj _ hcr))) rfl rfl rfl rfl rfl ?_ | refine rv rfl rfl rfl (Val.load rfl (fun hg => rdFz (p := pm) (u := .int .i64 (if v.snd = 1 then (k : Int) else -1)) (b := bx) (hbx 1 _ rfl))) rfl rfl rfl ?_ | refine rg rfl rfl rfl (Val.load rfl (fun hg => rdFz (p := pm) (u := .int .i64 (if v.snd = 1 then (k : Int) else -1)) (b := bx) (hbx 1 _ rfl))) rfl rfl rfl rfl rfl ?_) | (show ∀ _ : Nat, T _ _ _ _ _; intro _))
          rw [if_pos hv2]
          refine T_if rfl (fun h8 => ?_) (fun h8 => by exfalso; first | (simp at h8; done) | (simp at h8; omega))
          repeat' (first | refine d1 ?_ | refine dd ?_ | (show T _ (.ops _ (_ :: _) :: _) _ _ _; first | refine T_val rfl (Val.load rfl (fun hg => rdRow (A := some ⟨g, 0, none⟩) (vs := [.slice (some ⟨g0, 0, none⟩) (m + 1) (m + 1)]) (by omega) (get1 (by rw [show 0 + (i : Int).toNat * 1 = i by omega]; exact hd hV0)))) rfl rfl rfl ?_ | refine T_valC rfl (Val.load rfl (fun hg => rdRow (A := some ⟨g, 0, none⟩) (vs := [.slice (some ⟨g0, 0, none⟩) (m + 1) (m + 1)]) (by omega) (get1 (by rw [show 0 + (i : Int).toNat * 1 = i by omega]; exact hd hV0)))) rfl rfl rfl rfl rfl ?_ | refine T_val rfl (Val.load rfl (fun hg => rdM (l := M3) (k := i) (g := g0) (vs := [.int .i64 (accN (grdOf c a b) i k jj)]) hV0 (get1 (by rw [hc0, ← ec0]; exact vget k (by omega) (by omega))))) rfl rfl rfl ?_ | refine T_valC rfl (Val.load rfl (fun hg => rdM (l := M3) (k := i) (g := g0) (vs := [.int .i64 (accN (grdOf c a b) i k jj)]) hV0 (get1 (by rw [hc0, ← ec0]; exact vget k (by omega) (by omega))))) rfl rfl rfl rfl rfl ?_ | refine T_val rfl (Val.load rfl (fun hg => rdRow (A := some ⟨g, 0, none⟩) (vs := [.slice (some ⟨g1, 0, none⟩) (m + 1) (m + 1)]) (by omega) (get1 (by rw [show 0 + ((i : Int) + 1 : Int).toNat * 1 = i + v.fst by omega]; exact hd hV1)))) rfl rfl rfl ?_ | refine T_valC rfl (Val.load rfl (fun hg => rdRow (A := some ⟨g, 0, none⟩) (vs := [.slice (some ⟨g1, 0, none⟩) (m + 1) (m + 1)]) (by omega) (get1 (by rw [show 0 + ((i : Int) + 1 : Int).toNat * 1 = i + v.fst by omega]; exact hd hV1)))) rfl rfl rfl rfl rfl ?_ | refine T_val rfl (Val.load rfl (fun hg => rdM (l := M3) (k := i + v.fst) (g := g1) (vs := [.int .i64 (wys (grdOf c a b) (i + v.fst) (k + v.snd))]) hV1 (get1 (by rw [hc1, ← ec1]; exact vget (k + v.snd) (by omega) (by omega))))) rfl rfl rfl ?_ | refine T_valC rfl (Val.load rfl (fun hg => rdM (l := M3) (k := i + v.fst) (g := g1) (vs := [.int .i64 (wys (grdOf c a b) (i + v.fst) (k + v.snd))]) hV1 (get1 (by rw [hc1, ← ec1]; exact vget (k + v.snd) (by omega) (by omega))))) rfl rfl rfl rfl rfl ?_) | (show T _ (.run _ _ (_ :: _) _ _ :: _) _ _ _; first | refine rv rfl rfl rfl (Val.load rfl (fun hg => rdRow (A := some ⟨g, 0, none⟩) (vs := [.slice (some ⟨g0, 0, none⟩) (m + 1) (m + 1)]) (by omega) (get1 (by rw [show 0 + (i : Int).toNat * 1 = i by omega]; exact hd hV0)))) rfl rfl rfl ?_ | refine rg rfl rfl rfl (Val.load rfl (fun hg => rdRow (A := some ⟨g, 0, none⟩) (vs := [.slice (some ⟨g0, 0, none⟩) (m + 1) (m + 1)]) (by omega) (get1 (by rw [show 0 + (i : Int).toNat * 1 = i by omega]; exact hd hV0)))) rfl rfl rfl rfl rfl ?_ | refine rv rfl rfl rfl (Val.load rfl (fun hg => rdM (l := M3) (k := i) (g := g0) (vs := [.int .i64 (accN (grdOf c a b) i k jj)]) hV0 (get1 (by rw [hc0, ← ec0]; exact vget k (by omega) (by omega))))) rfl rfl rfl ?_ | refine rg rfl rfl rfl (Val.load rfl (fun hg => rdM (l := M3) (k := i) (g := g0) (vs := [.int .i64 (accN (grdOf c a b) i k jj)]) hV0 (get1 (by rw [hc0, ← ec0]; exact vget k (by omega) (by omega))))) rfl rfl rfl rfl rfl ?_ | refine rv rfl rfl rfl (Val.load rfl (fun hg => rdRow (A := some ⟨g, 0, none⟩) (vs := [.slice (some ⟨g1, 0, none⟩) (m + 1) (m + 1)]) (by omega) (get1 (by rw [show 0 + ((i : Int) + 1 : Int).toNat * 1 = i + v.fst by omega]; exact hd hV1)))) rfl rfl rfl ?_ | refine rg rfl rfl rfl (Val.load rfl (fun hg => rdRow (A := some ⟨g, 0, none⟩) (vs := [.slice (some ⟨g1, 0, none⟩) (m + 1) (m + 1)]) (by omega) (get1 (by rw [show 0 + ((i : Int) + 1 : Int).toNat * 1 = i + v.fst by omega]; exact hd hV1)))) rfl rfl rfl rfl rfl ?_ | refine rv rfl rfl rfl (Val.load rfl (fun hg => rdM (l := M3) (k := i + v.fst) (g := g1) (vs := [.int .i64 (wys (grdOf c a b) (i + v.fst) (k + v.snd))]) hV1 (get1 (by rw [hc1, ← ec1]; exact vget (k + v.snd) (by omega) (by omega))))) rfl rfl rfl ?_ | refine rg rfl rfl rfl (Val.load rfl (fun hg => rdM (l := M3) (k := i + v.fst) (g := g1) (vs := [.int .i64 (wys (grdOf c a b) (i + v.fst) (k + v.snd))]) hV1 (get1 (by rw [hc1, ← ec1]; exact vget (k + v.snd) (by omega) (by omega))))) rfl rfl rfl rfl rfl ?_ | refine ro rfl rfl (OpT.storeM rfl rfl rfl hV0 rfl (by rw [hl0]; omega) ⟨fun hlv => absurd hlv (by decide +kernel), ?_⟩)) | (show ∀ _ : Nat, T _ _ _ _ _; intro _))
          show T _ (.mark _ :: _) _ _ _
          refine T_backX (jj + 1, M3.set i (g0, c0.set k (.int .i64 (min 1073741824 (accN (grdOf c a b) i k jj + wys (grdOf c a b) (i + v.fst) (k + v.snd)))))) ⟨Nat.succ_le_of_lt hjl, by dsimp only; rw [List.length_set]; exact hM3, hput⟩ (by dsimp only; omega) (hG := ?_)
          dsimp only
          rw [slv_set hV0, show 0 + (k : Int).toNat * 1 = k by omega]
          exact Hle.refl _
        · have hv1 : v.fst = 1 := by rw [hve]
          have hv2 : v.snd = 0 := by rw [hve]
          rw [if_pos hv1]
          refine T_if rfl (fun h7 => ?_) (fun h7 => by exfalso; first | (simp at h7; done) | (simp at h7; omega))
          repeat' (first | refine d1 ?_ | refine dd ?_ | (show T _ (.ops _ (_ :: _) :: _) _ _ _; first | refine T_val rfl (Val.load rfl (fun hg => rdFz (p := pm) (u := .slice (some ⟨bx, ox, none⟩) 2 capr) (b := bm) (by rw [off1]; exact hbm jj _ hcr))) rfl rfl rfl ?_ | refine T_valC rfl (Val.load rfl (fun hg => rdFz (p := pm) (u := .slice (some ⟨bx, ox, none⟩) 2 capr) (b := bm) (by rw [off1]; exact hbm jj _ hcr))) rfl rfl rfl rfl rfl ?_ | refine T_val rfl (Val.load rfl (fun hg => rdFz (p := pm) (u := .int .i64 (if v.snd = 1 then (k : Int) else -1)) (b := bx) (hbx 1 _ rfl))) rfl rfl rfl ?_ | refine T_valC rfl (Val.load rfl (fun hg => rdFz (p := pm) (u := .int .i64 (if v.snd = 1 then (k : Int) else -1)) (b := bx) (hbx 1 _ rfl))) rfl rfl rfl rfl rfl ?_) | (show T _ (.run _ _ (_ :: _) _ _ :: _) _ _ _; first | refine rv rfl rfl rfl (Val.load rfl (fun hg => rdFz (p := pm) (u := .slice (some ⟨bx, ox, none⟩) 2 capr) (b := bm) (by rw [off1]; exact hbm jj _ hcr))) rfl rfl rfl ?_ | refine rg rfl rfl rfl (Val.load rfl (fun hg => rdFz (p := pm) (u := .slice (some ⟨bx, ox, none⟩) 2 capr) (b := bm) (by rw [off1]; exact hbm jj _ hcr))) rfl rfl rfl rfl rfl ?_ | refine rv rfl rfl rfl (Val.load rfl (fun hg => rdFz (p := pm) (u := .int .i64 (if v.snd = 1 then (k : Int) else -1)) (b := bx) (hbx 1 _ rfl))) rfl rfl rfl ?_ | refine rg rfl rfl rfl (Val.load rfl (fun hg => rdFz (p := pm) (u := .int .i64 (if v.snd = 1 then (k : Int) else -1)) (b := bx) (hbx 1 _ rfl))) rfl rfl rfl rfl rfl ?_) | (show ∀ _ : Nat, T _ _ _ _ _; intro _))
          rw [if_neg (show ¬ v.snd = 1 by omega)]
          refine T_if rfl (fun h8 => by exfalso; simp at h8) (fun h8 => ?_)
          repeat' (first | refine d1 ?_ | refine dd ?_ | (show T _ (.ops _ (_ :: _) :: _) _ _ _; first | refine T_val rfl (Val.load rfl (fun hg => rdRow (A := some ⟨g, 0, none⟩) (vs := [.slice (some ⟨g0, 0, none⟩) (m + 1) (m + 1)]) (by omega) (get1 (by rw [show 0 + (i : Int).toNat * 1 = i by omega]; exact hd hV0)))) rfl rfl rfl ?_ | refine T_valC rfl (Val.load rfl (fun hg => rdRow (A := some ⟨g, 0, none⟩) (vs := [.slice (some ⟨g0, 0, none⟩) (m + 1) (m + 1)]) (by omega) (get1 (by rw [show 0 + (i : Int).toNat * 1 = i by omega]; exact hd hV0)))) rfl rfl rfl rfl rfl ?_ | refine T_val rfl (Val.load rfl (fun hg => rdM (l := M3) (k := i) (g := g0) (vs := [.int .i64 (accN (grdOf c a b) i k jj)]) hV0 (get1 (by rw [hc0, ← ec0]; exact vget k (by omega) (by omega))))) rfl rfl rfl ?_ | refine T_valC rfl (Val.load rfl (fun hg => rdM (l := M3) (k := i) (g := g0) (vs := [.int .i64 (accN (grdOf c a b) i k jj)]) hV0 (get1 (by rw [hc0, ← ec0]; exact vget k (by omega) (by omega))))) rfl rfl rfl rfl rfl ?_ | refine T_val rfl (Val.load rfl (fun hg => rdRow (A := some ⟨g, 0, none⟩) (vs := [.slice (some ⟨g1, 0, none⟩) (m + 1) (m + 1)]) (by omega) (get1 (by rw [show 0 + ((i : Int) + 1 : Int).toNat * 1 = i + v.fst by omega]; exact hd hV1)))) rfl rfl rfl ?_ | refine T_valC rfl (Val.load rfl (fun hg => rdRow (A := some ⟨g, 0, none⟩) (vs := [.slice (some ⟨g1, 0, none⟩) (m + 1) (m + 1)]) (by omega) (get1 (by rw [show 0 + ((i : Int) + 1 : Int).toNat * 1 = i + v.fst by omega]; exact hd hV1)))) rfl rfl rfl rfl rfl ?_ | refine T_val rfl (Val.load rfl (fun hg => rdM (l := M3) (k := i + v.fst) (g := g1) (vs := [.int .i64 (wys (grdOf c a b) (i + v.fst) (k + v.snd))]) hV1 (get1 (by rw [hc1, ← ec1]; exact vget (k + v.snd) (by omega) (by omega))))) rfl rfl rfl ?_ | refine T_valC rfl (Val.load rfl (fun hg => rdM (l := M3) (k := i + v.fst) (g := g1) (vs := [.int .i64 (wys (grdOf c a b) (i + v.fst) (k + v.snd))]) hV1 (get1 (by rw [hc1, ← ec1]; exact vget (k + v.snd) (by omega) (by omega))))) rfl rfl rfl rfl rfl ?_) | (show T _ (.run _ _ (_ :: _) _ _ :: _) _ _ _; first | refine rv rfl rfl rfl (Val.load rfl (fun hg => rdRow (A := some ⟨g, 0, none⟩) (vs := [.slice (some ⟨g0, 0, none⟩) (m + 1) (m + 1)]) (by omega) (get1 (by rw [show 0 + (i : Int).toNat * 1 = i by omega]; exact hd hV0)))) rfl rfl rfl ?_ | refine rg rfl rfl rfl (Val.load rfl (fun hg => rdRow (A := some ⟨g, 0, none⟩) (vs := [.slice (some ⟨g0, 0, none⟩) (m + 1) (m + 1)]) (by omega) (get1 (by rw [show 0 + (i : Int).toNat * 1 = i by omega]; exact hd hV0)))) rfl rfl rfl rfl rfl ?_ | refine rv rfl rfl rfl (Val.load rfl (fun hg => rdM (l := M3) (k := i) (g := g0) (vs := [.int .i64 (accN (grdOf c a b) i k jj)]) hV0 (get1 (by rw [hc0, ← ec0]; exact vget k (by omega) (by omega))))) rfl rfl rfl ?_ | refine rg rfl rfl rfl (Val.load rfl (fun hg => rdM (l := M3) (k := i) (g := g0) (vs := [.int .i64 (accN (grdOf c a b) i k jj)]) hV0 (get1 (by rw [hc0, ← ec0]; exact vget k (by omega) (by omega))))) rfl rfl rfl rfl rfl ?_ | refine rv rfl rfl rfl (Val.load rfl (fun hg => rdRow (A := some ⟨g, 0, none⟩) (vs := [.slice (some ⟨g1, 0, none⟩) (m + 1) (m + 1)]) (by omega) (get1 (by rw [show 0 + ((i : Int) + 1 : Int).toNat * 1 = i + v.fst by omega]; exact hd hV1)))) rfl rfl rfl ?_ | refine rg rfl rfl rfl (Val.load rfl (fun hg => rdRow (A := some ⟨g, 0, none⟩) (vs := [.slice (some ⟨g1, 0, none⟩) (m + 1) (m + 1)]) (by omega) (get1 (by rw [show 0 + ((i : Int) + 1 : Int).toNat * 1 = i + v.fst by omega]; exact hd hV1)))) rfl rfl rfl rfl rfl ?_ | refine rv rfl rfl rfl (Val.load rfl (fun hg => rdM (l := M3) (k := i + v.fst) (g := g1) (vs := [.int .i64 (wys (grdOf c a b) (i + v.fst) (k + v.snd))]) hV1 (get1 (by rw [hc1, ← ec1]; exact vget (k + v.snd) (by omega) (by omega))))) rfl rfl rfl ?_ | refine rg rfl rfl rfl (Val.load rfl (fun hg => rdM (l := M3) (k := i + v.fst) (g := g1) (vs := [.int .i64 (wys (grdOf c a b) (i + v.fst) (k + v.snd))]) hV1 (get1 (by rw [hc1, ← ec1]; exact vget (k + v.snd) (by omega) (by omega))))) rfl rfl rfl rfl rfl ?_ | refine ro rfl rfl (OpT.storeM rfl rfl rfl hV0 rfl (by rw [hl0]; omega) ⟨fun hlv => absurd hlv (by decide +kernel), ?_⟩)) | (show ∀ _ : Nat, T _ _ _ _ _; intro _))
          show T _ (.mark _ :: _) _ _ _
          refine T_backX (jj + 1, M3.set i (g0, c0.set k (.int .i64 (min 1073741824 (accN (grdOf c a b) i k jj + wys (grdOf c a b) (i + v.fst) (k + v.snd)))))) ⟨Nat.succ_le_of_lt hjl, by dsimp only; rw [List.length_set]; exact hM3, hput⟩ (by dsimp only; omega) (hG := ?_)
          dsimp only
          rw [slv_set hV0, show 0 + (k : Int).toNat * 1 = k by omega]
          exact Hle.refl _
        · have hv1 : v.fst = 0 := by rw [hve]
          have hv2 : v.snd = 1 := by rw [hve]
          have ec2 : inC (grdOf c a b) n m (p * (m + 1) + q) i k jj i (k + v.snd) = wys (grdOf c a b) (i + v.fst) (k + v.snd) := by
            rw [← ec1, hv1]; rfl
          rw [if_neg (show ¬ v.fst = 1 by omega)]
          refine T_if rfl (fun h7 => by exfalso; simp at h7) (fun h7 => ?_)
          repeat' (first | refine d1 ?_ | refine dd ?_ | (show T _ (.ops _ (_ :: _) :: _) _ _ _; first | refine T_val rfl (Val.load rfl (fun hg => rdFz (p := pm) (u := .slice (some ⟨bx, ox, none⟩) 2 capr) (b := bm) (by rw [off1]; exact hbm jj _ hcr))) rfl rfl rfl ?_ | refine T_valC rfl (Val.load rfl (fun hg => rdFz (p := pm) (u := .slice (some ⟨bx, ox, none⟩) 2 capr) (b := bm) (by rw [off1]; exact hbm jj _ hcr))) rfl rfl rfl rfl rfl ?_ | refine T_val rfl (Val.load rfl (fun hg => rdFz (p := pm) (u := .int .i64 (if v.snd = 1 then (k : Int) else -1)) (b := bx) (hbx 1 _ rfl))) rfl rfl rfl ?_ | refine T_valC rfl (Val.load rfl (fun hg => rdFz (p := pm) (u := .int .i64 (if v.snd = 1 then (k : Int) else -1)) (b := bx) (hbx 1 _ rfl))) rfl rfl rfl rfl rfl ?_) | (show T _ (.run _ _ (_ :: _) _ _ :: _) _ _ _; first | refine rv rfl rfl rfl (Val.load rfl (fun hg => rdFz (p := pm) (u := .slice (some ⟨bx, ox, none⟩) 2 capr) (b := bm) (by rw [off1]; exact hbm jj _ hcr))) rfl rfl rfl ?_ | refine rg rfl rfl rfl (Val.load rfl (fun hg => rdFz (p := pm) (u := .slice (some ⟨bx, ox, none⟩) 2 capr) (b := bm) (by rw [off1]; exact hbm jj _ hcr))) rfl rfl rfl rfl rfl ?_ | refine rv rfl rfl rfl (Val.load rfl (fun hg => rdFz (p := pm) (u := .int .i64 (if v.snd = 1 then (k : Int) else -1)) (b := bx) (hbx 1 _ rfl))) rfl rfl rfl ?_ | refine rg rfl rfl rfl (Val.load rfl (fun hg => rdFz (p := pm) (u := .int .i64 (if v.snd = 1 then (k : Int) else -1)) (b := bx) (hbx 1 _ rfl))) rfl rfl rfl rfl rfl ?_) | (show ∀ _ : Nat, T _ _ _ _ _; intro _))
          rw [if_pos hv2]
          refine T_if rfl (fun h8 => ?_) (fun h8 => by exfalso; first | (simp at h8; done) | (simp at h8; omega))
          repeat' (first | refine d1 ?_ | refine dd ?_ | (show T _ (.ops _ (_ :: _) :: _) _ _ _; first | refine T_val rfl (Val.load rfl (fun hg => rdRow (A := some ⟨g, 0, none⟩) (vs := [.slice (some ⟨g0, 0, none⟩) (m + 1) (m + 1)]) (by omega) (get1 (by rw [show 0 + (i : Int).toNat * 1 = i by omega]; exact hd hV0)))) rfl rfl rfl ?_ | refine T_valC rfl (Val.load rfl (fun hg => rdRow (A := some ⟨g, 0, none⟩) (vs := [.slice (some ⟨g0, 0, none⟩) (m + 1) (m + 1)]) (by omega) (get1 (by rw [show 0 + (i : Int).toNat * 1 = i by omega]; exact hd hV0)))) rfl rfl rfl rfl rfl ?_ | refine T_val rfl (Val.load rfl (fun hg => rdM (l := M3) (k := i) (g := g0) (vs := [.int .i64 (accN (grdOf c a b) i k jj)]) hV0 (get1 (by rw [hc0, ← ec0]; exact vget k (by omega) (by omega))))) rfl rfl rfl ?_ | refine T_valC rfl (Val.load rfl (fun hg => rdM (l := M3) (k := i) (g := g0) (vs := [.int .i64 (accN (grdOf c a b) i k jj)]) hV0 (get1 (by rw [hc0, ← ec0]; exact vget k (by omega) (by omega))))) rfl rfl rfl rfl rfl ?_ | refine T_val rfl (Val.load rfl (fun hg => rdRow (A := some ⟨g, 0, none⟩) (vs := [.slice (some ⟨g1, 0, none⟩) (m + 1) (m + 1)]) (by omega) (get1 (by rw [show 0 + ((i : Int) : Int).toNat * 1 = i + v.fst by omega]; exact hd hV1)))) rfl rfl rfl ?_ | refine T_valC rfl (Val.load rfl (fun hg => rdRow (A := some ⟨g, 0, none⟩) (vs := [.slice (some ⟨g1, 0, none⟩) (m + 1) (m + 1)]) (by omega) (get1 (by rw [show 0 + ((i : Int) : Int).toNat * 1 = i + v.fst by omega]; exact hd hV1)))) rfl rfl rfl rfl rfl ?_ | refine T_val rfl (Val.load rfl (fun hg => rdM (l := M3) (k := i + v.fst) (g := g1) (vs := [.int .i64 (wys (grdOf c a b) (i + v.fst) (k + v.snd))]) hV1 (get1 (by rw [hc1, ← ec1]; exact vget (k + v.snd) (by omega) (by omega))))) rfl rfl rfl ?_ | refine T_valC rfl (Val.load rfl (fun hg => rdM (l := M3) (k := i + v.fst) (g := g1) (vs := [.int .i64 (wys (grdOf c a b) (i + v.fst) (k + v.snd))]) hV1 (get1 (by rw [hc1, ← ec1]; exact vget (k + v.snd) (by omega) (by omega))))) rfl rfl rfl rfl rfl ?_ | refine T_val rfl (Val.load rfl (fun hg => rdM (l := M3) (k := i) (g := g0) (vs := [.int .i64 (wys (grdOf c a b) (i + v.fst) (k + v.snd))]) hV0 (get1 (by rw [hc0, ← ec2]; exact vget (k + v.snd) (by omega) (by omega))))) rfl rfl rfl ?_ | refine T_valC rfl (Val.load rfl (fun hg => rdM (l := M3) (k := i) (g := g0) (vs := [.int .i64 (wys (grdOf c a b) (i + v.fst) (k + v.snd))]) hV0 (get1 (by rw [hc0, ← ec2]; exact vget (k + v.snd) (by omega) (by omega))))) rfl rfl rfl rfl rfl ?_) | (show T _ (.run _ _ (_ :: _) _ _ :: _) _ _ _; first | refine rv rfl rfl rfl (Val.load rfl (fun hg => rdRow (A := some ⟨g, 0, none⟩) (vs := [.slice (some ⟨g0, 0, none⟩) (m + 1) (m + 1)]) (by omega) (get1 (by rw [show 0 + (i : Int).toNat * 1 = i by omega]; exact hd hV0)))) rfl rfl rfl ?_ | refine rg rfl rfl rfl (Val.load rfl (fun hg => rdRow (A := some ⟨g, 0, none⟩) (vs := [.slice (some ⟨g0, 0, none⟩) (m + 1) (m + 1)]) (by omega) (get1 (by rw [show 0 + (i : Int).toNat * 1 = i by omega]; exact hd hV0)))) rfl rfl rfl rfl rfl ?_ | refine rv rfl rfl rfl (Val.load rfl (fun hg => rdM (l := M3) (k := i) (g := g0) (vs := [.int .i64 (accN (grdOf c a b) i k jj)]) hV0 (get1 (by rw [hc0, ← ec0]; exact vget k (by omega) (by omega))))) rfl rfl rfl ?_ | refine rg rfl rfl rfl (Val.load rfl (fun hg => rdM (l := M3) (k := i) (g := g0) (vs := [.int .i64 (accN (grdOf c a b) i k jj)]) hV0 (get1 (by rw [hc0, ← ec0]; exact vget k (by omega) (by omega))))) rfl rfl rfl rfl rfl ?_ | refine rv rfl rfl rfl (Val.load rfl (fun hg => rdRow (A := some ⟨g, 0, none⟩) (vs := [.slice (some ⟨g1, 0, none⟩) (m + 1) (m + 1)]) (by omega) (get1 (by rw [show 0 + ((i : Int) : Int).toNat * 1 = i + v.fst by omega]; exact hd hV1)))) rfl rfl rfl ?_ | refine rg rfl rfl rfl (Val.load rfl (fun hg => rdRow (A := some ⟨g, 0, none⟩) (vs := [.slice (some ⟨g1, 0, none⟩) (m + 1) (m + 1)]) (by omega) (get1 (by rw [show 0 + ((i : Int) : Int).toNat * 1 = i + v.fst by omega]; exact hd hV1)))) rfl rfl rfl rfl rfl ?_ | refine rv rfl rfl rfl (Val.load rfl (fun hg => rdM (l := M3) (k := i + v.fst) (g := g1) (vs := [.int .i64 (wys (grdOf c a b) (i + v.fst) (k + v.snd))]) hV1 (get1 (by rw [hc1, ← ec1]; exact vget (k + v.snd) (by omega) (by omega))))) rfl rfl rfl ?_ | refine rg rfl rfl rfl (Val.load rfl (fun hg => rdM (l := M3) (k := i + v.fst) (g := g1) (vs := [.int .i64 (wys (grdOf c a b) (i + v.fst) (k + v.snd))]) hV1 (get1 (by rw [hc1, ← ec1]; exact vget (k + v.snd) (by omega) (by omega))))) rfl rfl rfl rfl rfl ?_ | refine rv rfl rfl rfl (Val.load rfl (fun hg => rdM (l := M3) (k := i) (g := g0) (vs := [.int .i64 (wys (grdOf c a b) (i + v.fst) (k + v.snd))]) hV0 (get1 (by rw [hc0, ← ec2]; exact vget (k + v.snd) (by omega) (by omega))))) rfl rfl rfl ?_ | refine rg rfl rfl rfl (Val.load rfl (fun hg => rdM (l := M3) (k := i) (g := g0) (vs := [.int .i64 (wys (grdOf c a b) (i + v.fst) (k + v.snd))]) hV0 (get1 (by rw [hc0, ← ec2]; exact vget (k + v.snd) (by omega) (by omega))))) rfl rfl rfl rfl rfl ?_ | refine ro rfl rfl (OpT.storeM rfl rfl rfl hV0 rfl (by rw [hl0]; omega) ⟨fun hlv => absurd hlv (by decide +kernel), ?_⟩)) | (show ∀ _ : Nat, T _ _ _ _ _; intro _))
          show T _ (.mark _ :: _) _ _ _
          refine T_backX (jj + 1, M3.set i (g0, c0.set k (.int .i64 (min 1073741824 (accN (grdOf c a b) i k jj + wys (grdOf c a b) (i + v.fst) (k + v.snd)))))) ⟨Nat.succ_le_of_lt hjl, by dsimp only; rw [List.length_set]; exact hM3, hput⟩ (by dsimp only; omega) (hG := ?_)
          dsimp only
          rw [slv_set hV0, show 0 + (k : Int).toNat * 1 = k by omega]
          exact Hle.refl _
      · simp only [decide_eq_false_iff_not] at h5
        obtain rfl : jj = (mvs (grdOf c a b) i k).length := by omega
        repeat' (first | refine d1 ?_ | refine dd ?_ | (show ∀ _ : Nat, T _ _ _ _ _; intro _))
        refine T_backX (q + 1, M3) ⟨by dsimp only; omega, hM3, hS3.ext hM3 fun i' k' _ _ => inC_all e1 e2 hin hkm hpl i' k'⟩ (by dsimp only; omega) (hE := ⟨by dsimp only; rw [show (m : Int) - ((q + 1 : Nat) : Int) = (k : Int) - 1 by omega]; rfl, trivial⟩) (hG := Hle.tail _ _)
    · simp only [decide_eq_false_iff_not] at h4
      obtain rfl : q = m + 1 := by omega
      repeat' (first | refine d1 ?_ | refine dd ?_ | (show ∀ _ : Nat, T _ _ _ _ _; intro _))
      exact T_backX (p + 1, M2) ⟨by dsimp only; omega, hM2, by dsimp only; rw [Nat.succ_mul]; exact hS2⟩ (by dsimp only; omega) (hE := ⟨by dsimp only; rw [show (n : Int) - ((p + 1 : Nat) : Int) = (n : Int) - p - 1 by omega]; rfl, trivial⟩)
  · simp only [decide_eq_false_iff_not] at h3
    obtain rfl : p = n + 1 := by omega
    obtain ⟨⟨g0, c0⟩, hV0⟩ : ∃ x, M[0]? = some x := ⟨_, List.getElem?_eq_getElem (by omega)⟩
    have hc0 : c0 = valV (iniC (grdOf c a b) n m ((n + 1) * (m + 1)) 0) (m + 1) := hS _ _ hV0
    have ec0 : iniC (grdOf c a b) n m ((n + 1) * (m + 1)) 0 0 = wys (grdOf c a b) 0 0 := by
      unfold iniC
      split
      · exact (wys_none (by omega) (by omega)).symm
      · exact soFar_all (by rw [placesL_len]; exact Nat.le_refl _) _ (Nat.zero_le _) (Nat.zero_le _)
    repeat' (first | refine d1 ?_ | refine dd ?_ | (show T _ (.ops _ (_ :: _) :: _) _ _ _; first | refine T_val rfl (Val.load rfl (fun hg => rdRow (A := some ⟨g, 0, none⟩) (vs := [.slice (some ⟨g0, 0, none⟩) (m + 1) (m + 1)]) (by omega) (get1 (by show (M.map (slv m))[0]? = _; rw [List.getElem?_map, hV0]; rfl)))) rfl rfl rfl ?_ | refine T_valC rfl (Val.load rfl (fun hg => rdRow (A := some ⟨g, 0, none⟩) (vs := [.slice (some ⟨g0, 0, none⟩) (m + 1) (m + 1)]) (by omega) (get1 (by show (M.map (slv m))[0]? = _; rw [List.getElem?_map, hV0]; rfl)))) rfl rfl rfl rfl rfl ?_ | refine T_val rfl (Val.load rfl (fun hg => rdM (l := M) (k := 0) (g := g0) (vs := [.int .i64 (wys (grdOf c a b) 0 0)]) hV0 (get1 (by rw [hc0, ← ec0]; exact vget 0 (by omega) rfl)))) rfl rfl rfl ?_ | refine T_valC rfl (Val.load rfl (fun hg => rdM (l := M) (k := 0) (g := g0) (vs := [.int .i64 (wys (grdOf c a b) 0 0)]) hV0 (get1 (by rw [hc0, ← ec0]; exact vget 0 (by omega) rfl)))) rfl rfl rfl rfl rfl ?_) | (show T _ (.run _ _ (_ :: _) _ _ :: _) _ _ _; first | refine rv rfl rfl rfl (Val.load rfl (fun hg => rdRow (A := some ⟨g, 0, none⟩) (vs := [.slice (some ⟨g0, 0, none⟩) (m + 1) (m + 1)]) (by omega) (get1 (by show (M.map (slv m))[0]? = _; rw [List.getElem?_map, hV0]; rfl)))) rfl rfl rfl ?_ | refine rg rfl rfl rfl (Val.load rfl (fun hg => rdRow (A := some ⟨g, 0, none⟩) (vs := [.slice (some ⟨g0, 0, none⟩) (m + 1) (m + 1)]) (by omega) (get1 (by show (M.map (slv m))[0]? = _; rw [List.getElem?_map, hV0]; rfl)))) rfl rfl rfl rfl rfl ?_ | refine rv rfl rfl rfl (Val.load rfl (fun hg => rdM (l := M) (k := 0) (g := g0) (vs := [.int .i64 (wys (grdOf c a b) 0 0)]) hV0 (get1 (by rw [hc0, ← ec0]; exact vget 0 (by omega) rfl)))) rfl rfl rfl ?_ | refine rg rfl rfl rfl (Val.load rfl (fun hg => rdM (l := M) (k := 0) (g := g0) (vs := [.int .i64 (wys (grdOf c a b) 0 0)]) hV0 (get1 (by rw [hc0, ← ec0]; exact vget 0 (by omega) rfl)))) rfl rfl rfl rfl rfl ?_) | (show ∀ _ : Nat, T _ _ _ _ _; intro _) | (show T _ (.code .ret :: _) _ _ _; refine T_retV [] rfl (Hle.none _) ⟨rfl, rfl⟩))
end Go.Proofs.YtmcgificpaeipaaGreatDoor
/- Walks: chapter 18: an alignment that numbers select. -/
namespace Go.Proofs.YtmcgificpaeipaaGreatDoor
open Go.RowKit Go.Shelf Go.Proofs
set_option maxRecDepth 100000
set_option maxHeartbeats 1000000

/-- Columns that lead to a place. -/
def PreW (n m : Nat) (out : List (List Int)) (i k : Nat) : Prop := ∀ G : Grd, G.n = n → G.m = m → ∃ s, ∀ l, alnd G (out ++ l) 0 0 = (alnd G l i k).map (s + ·)
theorem PreW.nil (n m : Nat) : PreW n m [] 0 0 := fun G _ _ => ⟨0, fun l => by
  rw [List.nil_append]
  cases alnd G l 0 0 with
  | none => rfl
  | some x => simp⟩
theorem PreW.snoc {n m : Nat} {out : List (List Int)} {i k i' k' : Nat} {x : List Int} (h : PreW n m out i k) (hx : ∀ G : Grd, G.n = n → G.m = m → ∃ y, mvOf G i k x = some y ∧ i + y.fst = i' ∧ k + y.snd = k') : PreW n m (out ++ [x]) i' k' := fun G hn hm => by
  obtain ⟨s, hs⟩ := h G hn hm
  obtain ⟨y, hy, rfl, rfl⟩ := hx G hn hm
  refine ⟨s + y.cost, fun l => ?_⟩
  rw [List.append_assoc, List.singleton_append, hs, alnd_cons hy]
  cases alnd G l (i + y.fst) (k + y.snd) with
  | none => rfl
  | some z => simp [Int.add_assoc]
theorem PreW.all {n m : Nat} {out : List (List Int)} {i k : Nat} (h : PreW n m out i k) (hi : i = n) (hk : k = m) (G : Grd) (hn : G.n = n) (hm : G.m = m) : ∃ s, alnd G out 0 0 = some s := by
  obtain ⟨s, hs⟩ := h G hn hm
  have := hs []
  rw [List.append_nil] at this
  rw [this]
  show ∃ t, (if i = G.n ∧ k = G.m then some (0 : Int) else none).map (s + ·) = some t
  rw [if_pos ⟨by omega, by omega⟩]
  exact ⟨s + 0, rfl⟩
theorem way18_spec (n m : Nat) (P : Option Addr) (np cp : Nat) (picks : List Int) (w : World) (hnb : n ≤ 1000) (hmb : m ≤ 1000) (hP : Src w 1 P np (picks.map (Value.int .u8))) (hl : picks.length = np) (hpb : ∀ z ∈ picks, 0 ≤ z ∧ z ≤ 255) :
    Spec Tryz.prog 24 [.int .i64 (n : Nat), .int .i64 (m : Nat), .slice P np cp] w (fun v R => ∃ x : Value × List (List Int), PreW n m x.2 n m ∧ v = x.1 ∧ R = [dat [x.1] [rowsD x.2]]) := by
  refine spec_of sg Tryz.func24 rfl rfl rfl ?_
  repeat' (first | refine d1 ?_ | refine dd ?_ | (show ∀ _ : Nat, T _ _ _ _ _; intro _))
  refine T_le (dat_nil _) ?_
  refine T_nilrow 33 1 ?_
  refine T_loopX (fun x : Nat × Nat × (Option Addr × Nat) × List Value × List (List Int) => [(8, .int .i64 x.1), (9, .int .i64 x.2.1), (7, .slice x.2.2.1.1 x.2.2.2.2.length x.2.2.1.2)]) (fun x => [row 33 1 x.2.2.1.1 x.2.2.1.2 x.2.2.2.2.length x.2.2.2.1, dat x.2.2.2.1 (x.2.2.2.2.map intsD)]) (fun x => x.1 ≤ n ∧ x.2.1 ≤ m ∧ x.2.2.2.2.length ≤ x.1 + x.2.1 ∧ PreW n m x.2.2.2.2 x.1 x.2.1) (fun x => (n - x.1) + (m - x.2.1)) (0, 0, (none, 0), [], []) ⟨Nat.zero_le _, Nat.zero_le _, Nat.zero_le _, PreW.nil n m⟩ ?_
  rintro ⟨i, k, ⟨Ao, capo⟩, hs, out⟩ ⟨hi, hkm, hlo, hout⟩
  dsimp only at hi hkm hlo hout ⊢
  repeat' (first | refine d1 ?_ | refine dd ?_ | (show ∀ _ : Nat, T _ _ _ _ _; intro _))
  refine T_if rfl (fun h3 => ?_) (fun h3 => ?_)
  · have h3' : i < n ∨ k < m := by simpa using h3
    have hstep : ∀ {u v : Int} {b1 b2 : Nat} {A' : Option Addr} {cap' : Nat} {H : List HA}, Hle H [blk b2 [.slice (some ⟨b1, 0, none⟩) 2 2] 33, blk b1 [.int .i64 u, .int .i64 v] 3, row 33 1 A' cap' (out.length + 1) (hs ++ [.slice (some ⟨b1, 0, none⟩) 2 2]), dat hs (out.map intsD)] →
        Hle H [row 33 1 A' cap' (out ++ [[u, v]]).length (hs ++ [.slice (some ⟨b1, 0, none⟩) 2 2]), dat (hs ++ [.slice (some ⟨b1, 0, none⟩) 2 2]) ((out ++ [[u, v]]).map intsD)] := fun h => by
      rw [List.length_append, List.map_append]
      exact h.trans (mv_join rfl)
    repeat' (first | refine d1 ?_ | refine dd ?_ | (show ∀ _ : Nat, T _ _ _ _ _; intro _))
    refine T_cutX 1 [10] (fun z : Int => [(10, .int .i64 z)]) (fun _ => [row 33 1 Ao capo out.length hs, dat hs (out.map intsD)]) (fun _ => True) ?_ ?_
    · refine T_if rfl (fun h4 => ?_) (fun h4 => ?_)
      · simp only [decide_eq_true_eq] at h4
        obtain ⟨bp, op, rfl⟩ := hP.base (by omega)
        obtain ⟨z, hz⟩ : ∃ z, picks[out.length]? = some z := ⟨_, List.getElem?_eq_getElem (by omega)⟩
        have hzb := hpb z (List.mem_of_getElem? hz)
        have hr : RdC w bp (op + (out.length : Int).toNat * 1) [.int .u8 z] := by
          have h9 := (hP.get1 (i := out.length) (by omega) (by rw [List.getElem?_map, hz]; rfl)).2
          rw [Nat.mul_one] at h9
          rw [off1]
          exact h9
        repeat' (first | refine d1 ?_ | refine dd ?_ | (show ∀ _ : Nat, T _ _ _ _ _; intro _))
        exact T_meetX (z % 3) trivial
      · repeat' (first | refine d1 ?_ | refine dd ?_ | (show ∀ _ : Nat, T _ _ _ _ _; intro _))
        exact T_meetX 0 trivial
    rintro z -
    repeat' (first | refine d1 ?_ | refine dd ?_ | (show ∀ _ : Nat, T _ _ _ _ _; intro _))
    refine T_if rfl (fun h4 => ?_) (fun h4 => ?_)
    · have hin : i < n := by simp at h4; omega
      repeat' (first | refine d1 ?_ | refine dd ?_ | (show T _ (.ops _ (_ :: _) :: _) _ _ _; refine T_op (OpT.append rfl rfl rfl rfl rfl rfl rfl rfl rfl rfl (fun w hw => Src.own hw rfl) rfl (by dsimp only; omega) (by omega) (fun A' cap' hA' => ?_))) | (show ∀ _ : Nat, T _ _ _ _ _; intro _))
      rename_i b1 b2
      exact T_backX (i + 1, k, (A', cap'), hs ++ [.slice (some ⟨b1, 0, none⟩) 2 2], out ++ [[(i : Int), -1]]) ⟨by dsimp only; omega, by dsimp only; omega, by dsimp only; rw [List.length_append]; simp; omega, hout.snoc fun G hn hm => ⟨_, mvOf_fst (by omega), rfl, rfl⟩⟩ (by dsimp only; omega) (hE := ⟨rfl, rfl, by dsimp only; rw [List.length_append]; rfl, trivial⟩) (hG := hstep Hle.srt2)
    repeat' (first | refine d1 ?_ | refine dd ?_ | (show ∀ _ : Nat, T _ _ _ _ _; intro _))
    refine T_if rfl (fun h5 => ?_) (fun h5 => ?_)
    · have hin : i < n ∧ k < m := by simp at h5; omega
      repeat' (first | refine d1 ?_ | refine dd ?_ | (show T _ (.ops _ (_ :: _) :: _) _ _ _; refine T_op (OpT.append rfl rfl rfl rfl rfl rfl rfl rfl rfl rfl (fun w hw => Src.own hw rfl) rfl (by dsimp only; omega) (by omega) (fun A' cap' hA' => ?_))) | (show ∀ _ : Nat, T _ _ _ _ _; intro _))
      rename_i b1 b2
      exact T_backX (i + 1, k + 1, (A', cap'), hs ++ [.slice (some ⟨b1, 0, none⟩) 2 2], out ++ [[(i : Int), (k : Int)]]) ⟨by dsimp only; omega, by dsimp only; omega, by dsimp only; rw [List.length_append]; simp; omega, hout.snoc fun G hn hm => ⟨_, mvOf_both (by omega) (by omega), rfl, rfl⟩⟩ (by dsimp only; omega) (hE := ⟨rfl, rfl, by dsimp only; rw [List.length_append]; rfl, trivial⟩) (hG := hstep Hle.srt2)
    repeat' (first | refine d1 ?_ | refine dd ?_ | (show ∀ _ : Nat, T _ _ _ _ _; intro _))
    refine T_if rfl (fun h6 => ?_) (fun h6 => ?_)
    · have hin : k < m := by simp at h6; omega
      repeat' (first | refine d1 ?_ | refine dd ?_ | (show T _ (.ops _ (_ :: _) :: _) _ _ _; refine T_op (OpT.append rfl rfl rfl rfl rfl rfl rfl rfl rfl rfl (fun w hw => Src.own hw rfl) rfl (by dsimp only; omega) (by omega) (fun A' cap' hA' => ?_))) | (show ∀ _ : Nat, T _ _ _ _ _; intro _))
      rename_i b1 b2
      exact T_backX (i, k + 1, (A', cap'), hs ++ [.slice (some ⟨b1, 0, none⟩) 2 2], out ++ [[-1, (k : Int)]]) ⟨by dsimp only; omega, by dsimp only; omega, by dsimp only; rw [List.length_append]; simp; omega, hout.snoc fun G hn hm => ⟨_, mvOf_snd (by omega), rfl, rfl⟩⟩ (by dsimp only; omega) (hE := ⟨rfl, rfl, by dsimp only; rw [List.length_append]; rfl, trivial⟩) (hG := hstep Hle.srt2)
    · have hin : i < n := by simp at h6; omega
      repeat' (first | refine d1 ?_ | refine dd ?_ | (show T _ (.ops _ (_ :: _) :: _) _ _ _; refine T_op (OpT.append rfl rfl rfl rfl rfl rfl rfl rfl rfl rfl (fun w hw => Src.own hw rfl) rfl (by dsimp only; omega) (by omega) (fun A' cap' hA' => ?_))) | (show ∀ _ : Nat, T _ _ _ _ _; intro _))
      rename_i b1 b2
      exact T_backX (i + 1, k, (A', cap'), hs ++ [.slice (some ⟨b1, 0, none⟩) 2 2], out ++ [[(i : Int), -1]]) ⟨by dsimp only; omega, by dsimp only; omega, by dsimp only; rw [List.length_append]; simp; omega, hout.snoc fun G hn hm => ⟨_, mvOf_fst (by omega), rfl, rfl⟩⟩ (by dsimp only; omega) (hE := ⟨rfl, rfl, by dsimp only; rw [List.length_append]; rfl, trivial⟩) (hG := hstep Hle.srt2)
  · have h3' : ¬ (i < n ∨ k < m) := by simpa using h3
    obtain rfl : i = n := by omega
    obtain rfl : k = m := by omega
    repeat' (first | refine d1 ?_ | refine dd ?_ | (show ∀ _ : Nat, T _ _ _ _ _; intro _) | (show T _ (.code .ret :: _) _ _ _; refine T_retV _ rfl dat_row ⟨(.slice Ao out.length capo, out), hout, rfl, rfl⟩))
end Go.Proofs.YtmcgificpaeipaaGreatDoor
/- The engine: calls that turn blocks of the caller's own. It speaks of any program. -/
namespace Go.Proofs.YtmcgificpaeipaaGreatDoor
open Go.RowKit Go.Shelf

/-- A contract of a call that is lent the caller's own blocks: what it leaves of all of them. -/
structure SpecB (P : Program) (f : FuncId) (args : List Value) (w0 : World) (H : List HA) (Φ : Value → List HA → Prop) : Prop where
  enters : Enters P f
  calls : ∀ w, Cls w0 w H → Calls P f args.toArray w (Ret w0 Φ)
theorem specB_of (S : Sig) {f : FuncId} {fn : Func} {c : Code} {args : List Value} {w0 : World} {H : List HA} {Φ : Value → List HA → Prop} (hf : S.P.funcs[f]? = some fn) (hn : (fn.name == "runtime.NumGoroutine") = false) (hb : fn.body = some c)
    (hlen : Nat.ble args.length fn.ntmps = true) (h : T (FC S fn.ntmps [] w0 fn Φ) (nf 60 [.code c]) (zipE 0 args) [] H) : SpecB S.P f args w0 H Φ := by
  refine ⟨enters_of hf hn hb, fun w hw => callsIn_wide.1 (callsIn_of_wp_marks (n := 0) hf hb trivial ?_)⟩
  have hlen' : args.length ≤ fn.ntmps := Nat.le_of_ble_eq_true hlen
  have ha : Agrees ⟨fn.ntmps, []⟩ (allOf (nf 60 [.code c])) (zipE 0 args) [] { tmps := args.toArray ++ Array.replicate (fn.ntmps - args.toArray.size) undef, defers := [] } := by
    refine ⟨rfl, by simp; omega, fun s v hv => ?_, fun _ _ _ h => (by cases h), fun _ _ _ h => (by cases h)⟩
    obtain ⟨_, h2⟩ := zipE_spec args 0 s v hv
    simp only [Nat.sub_zero] at h2
    have hs : s < args.length := (List.getElem?_eq_some_iff.1 h2).1
    simp [Array.getD_eq_getD_getElem?, Array.getElem?_append, hs]
    rw [List.getElem?_eq_getElem hs] at h2
    simpa using h2
  have := nf_spec (h _ _ ha hw)
  simp only [sem] at this
  refine wpIn_mono this fun e a w' q => ?_
  cases e <;> first | exact q | exact q.elim
section
variable {C : Cx} {all : Array Oper} {o : Oper} {env : Env} {ec : EnvC} {H : List HA} {d : Nat}
theorem OpT.callB {f : FuncId} {args : List Value} {Ψ : Value → List HA → Prop} {Φ : Env → EnvC → List HA → Prop} (hg : gOf all env ec o = some []) (he : evCall env ec [] o = some (f, args)) (hd : o.dst = some d) (hN : Nat.blt d C.N.n = true) (hs : safeC all d ec = true)
    (hc : SpecB C.S.P f args C.w0 H Ψ) (h : ∀ u A, Ψ u A → Φ ((d, u) :: env) ec A) : OpT C all o env ec H Φ := by
  intro a w ha hw K Q hK
  have hwn := (wanted_iff ha hg).2 (Holds.nil _ _)
  refine ⟨fun _ => ?_, fun hn => (by rw [hwn] at hn; cases hn)⟩
  obtain ⟨hen, hcall⟩ := hc
  unfold Oper.wpIn
  refine ⟨about_Fr o _ w _, ?_⟩
  rw [Oper.semAt_eq _ _ _ (gOf_def hg)]
  rw [evCall_spec ha (Holds.nil _ _) he hen w]
  refine ⟨fun h => (by cases h), callsIn_Fr (Calls.mono (hcall w hw) ?_)⟩
  rintro e w' ⟨u, A, rfl, hΨ, hb, hsep⟩
  exact hK _ _ _ _ _ (h u A hΨ) (by rw [hd]; exact ha.put hN hs) ⟨hb, hsep⟩
end
end Go.Proofs.YtmcgificpaeipaaGreatDoor
/- Columns whose sources are exchanged; a further source: plain laws. No program in sight. -/
namespace Go.Proofs.YtmcgificpaeipaaGreatDoor

def sumI (g : Nat → Int) : List Nat → Int
  | [] => 0
  | x :: l => g x + sumI g l
theorem sumI_perm {g : Nat → Int} {l m : List Nat} (h : l.Perm m) : sumI g l = sumI g m := by
  induction h with
  | nil => rfl
  | cons x _ ih => unfold sumI; rw [ih]
  | swap x y l => unfold sumI; unfold sumI; omega
  | trans _ _ h1 h2 => rw [h1, h2]
theorem sumI_snoc (g : Nat → Int) (x : Nat) : ∀ l : List Nat, sumI g (l ++ [x]) = sumI g l + g x
  | [] => by simp [sumI]
  | y :: l => by
    rw [List.cons_append]
    unfold sumI
    rw [sumI_snoc g x l]; omega
theorem sumI_map (g : Nat → Int) (s : Nat → Nat) : ∀ l : List Nat, sumI g (l.map s) = sumI (fun x => g (s x)) l
  | [] => rfl
  | y :: l => by rw [List.map_cons]; unfold sumI; rw [sumI_map g s l]
theorem sumI_congr {g h : Nat → Int} : ∀ {l : List Nat}, (∀ x ∈ l, g x = h x) → sumI g l = sumI h l
  | [], _ => rfl
  | y :: l, e => by unfold sumI; rw [e y (List.mem_cons_self ..), sumI_congr (l := l) fun x hx => e x (List.mem_cons_of_mem _ hx)]
/-- The sum over all pairs of a list. -/
def pS (g : Nat → Nat → Int) : List Nat → Int
  | [] => 0
  | a :: l => sumI (fun y => g y a) l + pS g l
theorem pS_perm {g : Nat → Nat → Int} (hg : ∀ i k, g i k = g k i) {l m : List Nat} (h : l.Perm m) : pS g l = pS g m := by
  induction h with
  | nil => rfl
  | cons x hp ih => unfold pS; rw [ih, sumI_perm hp]
  | swap x y l =>
    simp only [pS, sumI]
    rw [hg x y]; omega
  | trans _ _ h1 h2 => rw [h1, h2]
theorem pS_map (g : Nat → Nat → Int) (s : Nat → Nat) : ∀ l : List Nat, pS g (l.map s) = pS (fun x y => g (s x) (s y)) l
  | [] => rfl
  | y :: l => by rw [List.map_cons]; unfold pS; rw [pS_map g s l, sumI_map]
theorem psum_append (f : Nat → Nat → Int) (ps : List (Nat × Nat)) : ∀ qs : List (Nat × Nat), psum f (ps ++ qs) = psum f ps + psum f qs := by
  intro qs
  unfold psum
  rw [List.foldl_append]
  generalize List.foldl (fun s p => s + f p.1 p.2) 0 ps = z
  have key : ∀ (qs : List (Nat × Nat)) (z : Int), qs.foldl (fun s p => s + f p.1 p.2) z = z + qs.foldl (fun s p => s + f p.1 p.2) 0 := by
    intro qs
    induction qs with
    | nil => intro z; simp
    | cons q qs ih => intro z; simp only [List.foldl_cons]; rw [ih, ih (0 + f q.1 q.2)]; omega
  exact key qs z
theorem psum_rowP (f : Nat → Nat → Int) (k : Nat) : ∀ i, psum f (rowP i k) = sumI (fun q => f q k) (List.range i).reverse
  | 0 => rfl
  | i + 1 => by
    rw [rowP_succ, psum_snoc, psum_rowP f k i, List.range_succ, List.reverse_append, List.reverse_singleton, List.singleton_append]
    simp only [sumI]
    omega
theorem psum_pS (f : Nat → Nat → Int) : ∀ n, psum f (pairsL n) = pS f (List.range n).reverse
  | 0 => rfl
  | n + 1 => by
    rw [pairsL_succ, psum_append, psum_pS f n, psum_rowP, List.range_succ, List.reverse_append, List.reverse_singleton, List.singleton_append]
    simp only [pS]
    omega
/-- Two places exchanged. -/
def swp (x y i : Nat) : Nat := if i = x then y else if i = y then x else i
theorem swp_swp (x y i : Nat) : swp x y (swp x y i) = i := by unfold swp; (repeat' split) <;> omega
theorem swp_lt {x y i n : Nat} (hx : x < n) (hy : y < n) (hi : i < n) : swp x y i < n := by unfold swp; (repeat' split) <;> omega
theorem swp_perm {x y n : Nat} (hx : x < n) (hy : y < n) : ((List.range n).map (swp x y)).Perm (List.range n) := by
  refine (List.perm_ext_iff_of_nodup ?_ List.nodup_range).2 fun a => ?_
  · rw [List.Nodup, List.pairwise_map]
    refine List.nodup_range.imp fun {a b} h e => h ?_
    rw [← swp_swp x y a, e, swp_swp]
  · rw [List.mem_map, List.mem_range]
    constructor
    · rintro ⟨i, hi, rfl⟩; exact swp_lt hx hy (List.mem_range.1 hi)
    · intro h; exact ⟨swp x y a, List.mem_range.2 (swp_lt hx hy h), swp_swp x y a⟩
theorem pS_congr {g h : Nat → Nat → Int} : ∀ {l : List Nat}, (∀ x ∈ l, ∀ y ∈ l, g x y = h x y) → pS g l = pS h l
  | [], _ => rfl
  | a :: l, e => by
    unfold pS
    rw [pS_congr (l := l) fun x hx y hy => e x (List.mem_cons_of_mem _ hx) y (List.mem_cons_of_mem _ hy), sumI_congr (h := fun y => h y a) fun x hx => e x (List.mem_cons_of_mem _ hx) a (List.mem_cons_self ..)]
theorem psum_swp {f g : Nat → Nat → Int} {n x y : Nat} (hf : ∀ i k, f i k = f k i) (hx : x < n) (hy : y < n) (h : ∀ i k, i < n → k < n → g i k = f (swp x y i) (swp x y k)) : psum g (pairsL n) = psum f (pairsL n) := by
  rw [psum_pS, psum_pS, pS_congr (h := fun i k => f (swp x y i) (swp x y k)), ← pS_map, List.map_reverse]
  · refine pS_perm hf ?_
    exact (List.reverse_perm _).trans ((swp_perm hx hy).trans (List.reverse_perm _).symm)
  · intro i hi k hk
    rw [List.mem_reverse, List.mem_range] at hi hk
    exact h i k hi hk
theorem cellC_swap (c : Costs) (l : List Tok) (b : List Bool) (i k : Nat) : cellC c l b i k = cellC c l b k i := by
  unfold cellC
  rw [Bool.and_comm (thA b i), pairC_swap]
  cases thA b i <;> cases thA b k <;> simp
/-- The exchange of two entries. -/
def swpL {α : Type} (l : List α) (x y : Nat) (d : α) : List α := (l.set x (l.getD y d)).set y (l.getD x d)
theorem swpL_length {α : Type} (l : List α) (x y : Nat) (d : α) : (swpL l x y d).length = l.length := by simp [swpL]
theorem swpL_get {α : Type} {l : List α} {x y i : Nat} {d : α} (hx : x < l.length) (hy : y < l.length) (hi : i < l.length) : (swpL l x y d).getD i d = l.getD (swp x y i) d := by
  unfold swpL swp
  simp only [List.getD_eq_getElem?_getD, List.getElem?_set, List.length_set]
  by_cases h1 : y = i
  · subst h1
    rw [if_pos rfl, if_pos hy]
    by_cases h2 : y = x
    · subst h2; simp [hy]
    · rw [if_neg h2]; simp
  · rw [if_neg h1]
    by_cases h2 : x = i
    · subst h2
      rw [if_pos rfl, if_pos hx, if_pos rfl]; simp
    · rw [if_neg h2, if_neg (Ne.symm h2), if_neg (Ne.symm h1)]
theorem column_swp (c : Costs) (l : List Tok) (b : List Bool) (n x y : Nat) (hl : l.length = n) (hb : b.length = n) (hx : x < n) (hy : y < n) :
    psum (cellC c (swpL l x y noTok) (swpL b x y false)) (pairsL n) = psum (cellC c l b) (pairsL n) := by
  refine psum_swp (cellC_swap c l b) hx hy fun i k hi hk => ?_
  unfold cellC tkA thA
  rw [swpL_get (by omega) (by omega) (by omega), swpL_get (by omega) (by omega) (by omega), swpL_get (by omega) (by omega) (by omega), swpL_get (by omega) (by omega) (by omega)]
/-- The gaps beside the tokens that are there. -/
def gapsC (c : Costs) (l : List Tok) (b : List Bool) : Nat → Int
  | 0 => 0
  | i + 1 => gapsC c l b i + if thA b i then gapC c (tkA l i) else 0
theorem tkA_left {l m : List Tok} {i : Nat} (h : i < l.length) : tkA (l ++ m) i = tkA l i := by unfold tkA; rw [List.getD_eq_getElem?_getD, List.getElem?_append_left h, ← List.getD_eq_getElem?_getD]
theorem thA_left {l m : List Bool} {i : Nat} (h : i < l.length) : thA (l ++ m) i = thA l i := by unfold thA; rw [List.getD_eq_getElem?_getD, List.getElem?_append_left h, ← List.getD_eq_getElem?_getD]
theorem thA_out (l : List Bool) : thA (l ++ [false]) l.length = false := by unfold thA; simp
theorem psum_congr {f g : Nat → Nat → Int} {n : Nat} (h : ∀ i k, i < n → k < n → f i k = g i k) : psum f (pairsL n) = psum g (pairsL n) := by
  rw [psum_pS, psum_pS]
  refine pS_congr fun i hi k hk => ?_
  rw [List.mem_reverse, List.mem_range] at hi hk
  exact h i k hi hk
theorem column_more (c : Costs) (l : List Tok) (b : List Bool) (n : Nat) (hl : l.length = n) (hb : b.length = n) :
    psum (cellC c (l ++ [noTok]) (b ++ [false])) (pairsL (n + 1)) = psum (cellC c l b) (pairsL n) + gapsC c l b n := by
  rw [pairsL_succ, psum_append, psum_congr (g := cellC c l b), psum_rowP]
  · congr 1
    have key : ∀ i, i ≤ n → sumI (fun q => cellC c (l ++ [noTok]) (b ++ [false]) q n) (List.range i).reverse = gapsC c l b i := by
      intro i
      induction i with
      | zero => intro _; rfl
      | succ i ih =>
        intro hi
        rw [List.range_succ, List.reverse_append, List.reverse_singleton, List.singleton_append]
        simp only [sumI, gapsC]
        rw [ih (by omega)]
        have : cellC c (l ++ [noTok]) (b ++ [false]) i n = if thA b i then gapC c (tkA l i) else 0 := by
          unfold cellC
          rw [← hb, thA_out, thA_left (by omega), tkA_left (by omega)]
          cases thA b i <;> simp
        omega
    exact key n (Nat.le_refl _)
  · intro i k hi hk
    unfold cellC
    rw [thA_left (by omega), thA_left (by omega), tkA_left (by omega), tkA_left (by omega)]
theorem gapsC_bd {c : Costs} (hc : costE c = 0) (l : List Tok) (b : List Bool) : ∀ i, 0 ≤ gapsC c l b i ∧ gapsC c l b i ≤ 1000 * i
  | 0 => by simp [gapsC]
  | i + 1 => by
    have h1 := gapsC_bd hc l b i
    have h2 := gapC_bd hc (tkA l i)
    have h3 := costE_ok hc
    unfold gapsC
    split <;> omega
theorem flat_set {α : Type} (cells : α → List Value) (sz : Nat) (hsz : ∀ t, (cells t).length = sz) : ∀ (l : List α) (i : Nat) (t : α), i < l.length → setL (l.flatMap cells) (i * sz) (cells t) = (l.set i t).flatMap cells
  | [], i, t, h => by simp at h
  | x :: l, 0, t, h => by
    rw [List.set_cons_zero, List.flatMap_cons, List.flatMap_cons, Nat.zero_mul]
    have key : ∀ (us xs ys zs : List Value), us.length = xs.length → setL (zs ++ xs ++ ys) zs.length us = zs ++ us ++ ys := by
      intro us
      induction us with
      | nil =>
        intro xs ys zs h
        have e : xs = [] := List.eq_nil_of_length_eq_zero (by simpa using h.symm)
        subst e; simp [setL]
      | cons u us ih =>
        intro xs ys zs h
        obtain ⟨x, xs, rfl⟩ : ∃ y ys, xs = y :: ys := by cases xs with | nil => simp at h | cons y ys => exact ⟨y, ys, rfl⟩
        simp only [setL]
        have e : (zs ++ x :: xs ++ ys).set zs.length u = (zs ++ [u]) ++ xs ++ ys := by
          rw [List.append_assoc, List.set_append_right _ _ (Nat.le_refl _), Nat.sub_self]; simp
        rw [e, show zs.length + 1 = (zs ++ [u]).length by simp, ih xs ys (zs ++ [u]) (by simpa using h)]
        simp
    have := key (cells t) (cells x) (l.flatMap cells) [] (by rw [hsz, hsz])
    simpa using this
  | x :: l, i + 1, t, h => by
    rw [List.set_cons_succ, List.flatMap_cons, List.flatMap_cons, ← flat_set cells sz hsz l i t (by simpa using h)]
    have key : ∀ (us xs ys : List Value) (k : Nat), setL (xs ++ ys) (xs.length + k) us = xs ++ setL ys k us := by
      intro us
      induction us with
      | nil => intro xs ys k; rfl
      | cons u us ih =>
        intro xs ys k
        simp only [setL]
        rw [List.set_append_right _ _ (by omega), Nat.add_sub_cancel_left, Nat.add_assoc, ih]
    rw [← key, hsz, Nat.succ_mul, Nat.add_comm sz]
theorem flatTok_set (l : List Tok) (i : Nat) (t : Tok) (h : i < l.length) : setL (l.flatMap Tok.cells) (i * 6) t.cells = (l.set i t).flatMap Tok.cells := flat_set Tok.cells 6 (fun _ => rfl) l i t h
theorem map_set1 {α : Type} (f : α → Value) (l : List α) (i : Nat) (t : α) : setL (l.map f) (i * 1) [f t] = (l.set i t).map f := by
  simp only [setL]; rw [Nat.mul_one, List.map_set]
end Go.Proofs.YtmcgificpaeipaaGreatDoor
/- Walks: what the laws of chapter 17 take for valid. -/
namespace Go.Proofs.YtmcgificpaeipaaGreatDoor
open Go.RowKit Go.Shelf Go.Proofs
set_option maxRecDepth 100000
set_option maxHeartbeats 1000000

noncomputable def fineB (c : Costs) (l : List Tok) : Bool := decide (costE c = 0) && decide ((l.length : Int) ≤ 8) && !greatB l && !badL l
theorem fineB_ok {c : Costs} {l : List Tok} (h : fineB c l = true) : costE c = 0 ∧ l.length ≤ 8 ∧ (∀ t ∈ l, longT t = false) ∧ ∀ t ∈ l, tokE t = 0 := by
  unfold fineB at h
  simp only [Bool.and_eq_true, decide_eq_true_eq, Bool.not_eq_true'] at h
  obtain ⟨⟨⟨h1, h2⟩, h3⟩, h4⟩ := h
  refine ⟨h1, by omega, (greatB_false h3).1, fun t ht => ?_⟩
  unfold badL at h4
  rw [List.any_eq_false] at h4
  simpa using h4 t ht
end Go.Proofs.YtmcgificpaeipaaGreatDoor
/- Walks: slices that are copied. -/
namespace Go.Proofs.YtmcgificpaeipaaGreatDoor
open Go.RowKit Go.Shelf Go.Proofs
set_option maxRecDepth 100000
set_option maxHeartbeats 1000000

theorem isNone_true {A : Option Addr} (h : isNone' A = true) : A = none := by cases A <;> simp_all [isNone']
theorem src_none {w : World} {sz n : Nat} {xs : List Value} (h : Src w sz none n xs) : n = 0 ∧ xs = [] := by
  have : n = 0 := by
    rcases Nat.eq_zero_or_pos n with h1 | h1
    · exact h1
    · have := (h.2 h1).1; simp [isAt] at this
  subst this
  exact ⟨rfl, List.eq_nil_of_length_eq_zero (by simpa using h.1)⟩
theorem oneMap {α : Type} (f : α → Value) (hf : ∀ x, (f x).oneCell' = true) : ∀ l : List α, oneCells (l.map f) = true
  | [] => rfl
  | x :: l => by rw [List.map_cons]; simp only [oneCells, hf, Bool.true_and]; exact oneMap f hf l
theorem oneToks : ∀ l : List Tok, oneCells (l.flatMap Tok.cells) = true
  | [] => rfl
  | t :: l => by
    rw [List.flatMap_cons]
    simp only [Tok.cells, List.cons_append, List.nil_append, oneCells, Value.oneCell', Bool.true_and]
    exact oneToks l
theorem cloneT_spec (A : Option Addr) (n c : Nat) (l : List Tok) (w : World) (hs : Src w 6 A n (l.flatMap Tok.cells)) (hb : n ≤ 1000000) :
    Spec Tryz.prog 25 [.slice A n c] w (fun v R => ∃ x : Option Addr × Nat, True ∧ v = .slice x.1 n x.2 ∧ R = [row 48 6 x.1 x.2 n (l.flatMap Tok.cells)]) := by
  refine spec_of sg Tryz.func25 rfl rfl rfl ?_
  repeat' (first | refine d1 ?_ | refine dd ?_ | (show T _ (.ops _ (_ :: _) :: _) _ _ _; first | refine T_val rfl (Val.nilS rfl) rfl rfl rfl ?_ | refine T_valC rfl (Val.nilS rfl) rfl rfl rfl rfl rfl ?_) | (show T _ (.run _ _ (_ :: _) _ _ :: _) _ _ _; first | refine rv rfl rfl rfl (Val.nilS rfl) rfl rfl rfl ?_ | refine rg rfl rfl rfl (Val.nilS rfl) rfl rfl rfl rfl rfl ?_) | (show ∀ _ : Nat, T _ _ _ _ _; intro _))
  refine T_if rfl (fun h => ?_) (fun h => ?_)
  · obtain rfl := isNone_true h
    obtain ⟨rfl, e⟩ := src_none hs
    rw [e]
    repeat' (first | refine d1 ?_ | refine dd ?_ | (show ∀ _ : Nat, T _ _ _ _ _; intro _))
    refine T_nilrow 48 6 ?_
    repeat' (first | refine d1 ?_ | refine dd ?_ | (show ∀ _ : Nat, T _ _ _ _ _; intro _) | (show T _ (.code .ret :: _) _ _ _; refine T_retV _ rfl Hle.sub ⟨(none, 0), trivial, rfl, rfl⟩))
  · repeat' (first | refine d1 ?_ | (show ∀ _ : Nat, T _ _ _ _ _; intro _))
    refine T_blk_rowh 6 0 rfl (by omega) ?_
    refine T_op (OpT.append rfl rfl rfl rfl rfl rfl rfl rfl rfl rfl (rdSrc hs) (oneToks l) (by dsimp only; omega) (by omega) (fun A' cap' hA' => ?_))
    rw [show 0 + n = n by omega, show flatP [] ++ l.flatMap Tok.cells = l.flatMap Tok.cells from rfl]
    repeat' (first | refine d1 ?_ | refine dd ?_ | (show ∀ _ : Nat, T _ _ _ _ _; intro _) | (show T _ (.code .ret :: _) _ _ _; refine T_retV _ rfl (Hle.refl _) ⟨(A', cap'), trivial, rfl, rfl⟩))
end Go.Proofs.YtmcgificpaeipaaGreatDoor
/- Walks: slices of tokens, reversed in place. -/
namespace Go.Proofs.YtmcgificpaeipaaGreatDoor
open Go.RowKit Go.Shelf Go.Proofs
set_option maxRecDepth 100000
set_option maxHeartbeats 1000000

/-- A list that has been reversed so far. -/
def RvIn (l r : List Tok) (i : Nat) : Prop := r.length = l.length ∧ ∀ k, k < l.length → r[k]? = if k < i ∨ l.length ≤ k + i then l[l.length - 1 - k]? else l[k]?
theorem RvIn.zero (l : List Tok) : RvIn l l 0 := ⟨rfl, fun k hk => by rw [if_neg (by omega)]⟩
theorem RvIn.step {l r : List Tok} {i : Nat} (h : RvIn l r i) (hi : 2 * i + 1 < l.length) : RvIn l ((r.set i (tkA r (l.length - 1 - i))).set (l.length - 1 - i) (tkA r i)) (i + 1) := by
  obtain ⟨h1, h2⟩ := h
  have e1 : r[l.length - 1 - i]? = l[l.length - 1 - i]? := by rw [h2 _ (by omega), if_neg (by omega)]
  have e2 : r[i]? = l[i]? := by rw [h2 _ (by omega), if_neg (by omega)]
  refine ⟨by simp [h1], fun k hk => ?_⟩
  rw [List.getElem?_set, List.getElem?_set, List.length_set]
  by_cases hk1 : l.length - 1 - i = k
  · rw [if_pos hk1, if_pos (by omega), if_pos (by omega), show l.length - 1 - k = i by omega, ← e2, tkA_get (by omega)]
  · rw [if_neg hk1]
    by_cases hk2 : i = k
    · subst hk2
      rw [if_pos rfl, if_pos (by omega), if_pos (by omega), ← e1, tkA_get (by omega)]
    · rw [if_neg hk2, h2 k hk]
      by_cases h3 : k < i ∨ l.length ≤ k + i
      · rw [if_pos h3, if_pos (by omega)]
      · rw [if_neg h3, if_neg (by omega)]
theorem RvIn.all {l r : List Tok} {i : Nat} (h : RvIn l r i) (hi : l.length ≤ 2 * i + 1) : r = l.reverse := by
  obtain ⟨h1, h2⟩ := h
  apply List.ext_getElem?
  intro k
  by_cases hk : k < l.length
  · rw [h2 k hk, List.getElem?_reverse hk]
    split
    · rfl
    · rw [show l.length - 1 - k = k by omega]
  · rw [List.getElem?_eq_none (by omega), List.getElem?_eq_none (by simp; omega)]
theorem reverseT_spec (A : Option Addr) (n c cap : Nat) (l : List Tok) (w0 : World) (K : List HA) (hl : l.length = n) (hb : n ≤ 1000000) :
    SpecB Tryz.prog 26 [.slice A n c] w0 (row 48 6 A cap n (l.flatMap Tok.cells) :: K) (fun v R => v = .tuple #[] ∧ R = row 48 6 A cap n (l.reverse.flatMap Tok.cells) :: K) := by
  refine specB_of sg Tryz.func26 rfl rfl rfl ?_
  repeat' (first | refine d1 ?_ | refine dd ?_ | (show ∀ _ : Nat, T _ _ _ _ _; intro _))
  refine T_loopX (fun s : Nat × List Tok => [(2, .int .i64 s.1), (3, .int .i64 ((n : Int) - 1 - s.1))]) (fun s => row 48 6 A cap n (s.2.flatMap Tok.cells) :: K) (fun s => 2 * s.1 ≤ n + 1 ∧ RvIn l s.2 s.1) (fun s => n + 1 - s.1) (0, l) ⟨by omega, RvIn.zero l⟩ ?_ (hE := ⟨rfl, by rw [show (n : Int) - 1 - ((0 : Nat) : Int) = (n : Int) - 1 by omega]; rfl, trivial⟩)
  rintro ⟨i, r⟩ ⟨hi, hr⟩
  dsimp only at hi hr ⊢
  have hrl : r.length = n := by rw [hr.1, hl]
  repeat' (first | refine d1 ?_ | refine dd ?_ | (show ∀ _ : Nat, T _ _ _ _ _; intro _))
  refine T_if rfl (fun h => ?_) (fun h => ?_)
  · simp only [decide_eq_true_eq] at h
    refine T_rowpos (A := A) (by omega) (fun g e => ?_)
    subst e
    have hs := hr.step (by omega)
    rw [hl] at hs
    have hg1 : ∀ j u, (tkA r i).cells[j]? = some u → (r.flatMap Tok.cells)[i * 6 + j]? = some u := fun j u hu => flat_get Tok.cells 6 (fun _ => rfl) (tkA_get (l := r) (i := i) (by omega)) j u hu
    have hg2 : ∀ j u, (tkA r (n - 1 - i)).cells[j]? = some u → (r.flatMap Tok.cells)[(n - 1 - i) * 6 + j]? = some u := fun j u hu => flat_get Tok.cells 6 (fun _ => rfl) (tkA_get (l := r) (i := n - 1 - i) (by omega)) j u hu
    refine T_cutX 1 [] (fun _ : Unit => []) (fun _ => row 48 6 (some ⟨g, 0, none⟩) cap n (((r.set i (tkA r (n - 1 - i))).set (n - 1 - i) (tkA r i)).flatMap Tok.cells) :: K) (fun _ => True) ?_ ?_
    · have hfin : row 48 6 (some ⟨g, 0, none⟩) cap n (setL (setL (r.flatMap Tok.cells) (0 + (i : Int).toNat * 6) (tkA r (n - 1 - i)).cells) (0 + ((n : Int) - 1 - i).toNat * 6) (tkA r i).cells) = row 48 6 (some ⟨g, 0, none⟩) cap n (((r.set i (tkA r (n - 1 - i))).set (n - 1 - i) (tkA r i)).flatMap Tok.cells) := by
        rw [show 0 + (i : Int).toNat * 6 = i * 6 by omega, show 0 + ((n : Int) - 1 - i).toNat * 6 = (n - 1 - i) * 6 by omega, flatTok_set r i _ (by omega), flatTok_set _ (n - 1 - i) _ (by rw [List.length_set]; omega)]
      refine dw0 1000 [] ?_
      repeat' (first | (show T _ (.draw _ _ _ _ _ :: _) _ _ _; first | refine dw1 ?_ | refine dwv rfl (by decide +kernel) rfl rfl (Val.loadA (vs := (tkA r (n - 1 - i)).cells) rfl (fun _ => rdRow (A := some ⟨g, 0, none⟩) (by omega) (fun j u hu => by rw [show 0 + ((n : Int) - 1 - i).toNat * 6 = (n - 1 - i) * 6 by omega]; exact hg2 j u hu)) rfl) rfl rfl rfl ?_ | refine dwg rfl (by decide +kernel) rfl rfl (Val.loadA (vs := (tkA r (n - 1 - i)).cells) rfl (fun _ => rdRow (A := some ⟨g, 0, none⟩) (by omega) (fun j u hu => by rw [show 0 + ((n : Int) - 1 - i).toNat * 6 = (n - 1 - i) * 6 by omega]; exact hg2 j u hu)) rfl) rfl rfl rfl rfl rfl ?_ | refine dwv rfl (by decide +kernel) rfl rfl (Val.loadA (vs := (tkA r i).cells) rfl (fun _ => rdRow (A := some ⟨g, 0, none⟩) (by omega) (fun j u hu => by rw [show 0 + (i : Int).toNat * 6 = i * 6 by omega]; exact hg1 j u hu)) rfl) rfl rfl rfl ?_ | refine dwg rfl (by decide +kernel) rfl rfl (Val.loadA (vs := (tkA r i).cells) rfl (fun _ => rdRow (A := some ⟨g, 0, none⟩) (by omega) (fun j u hu => by rw [show 0 + (i : Int).toNat * 6 = i * 6 by omega]; exact hg1 j u hu)) rfl) rfl rfl rfl rfl rfl ?_ | refine dwb rfl (by decide +kernel) ?_) | (show AllL _ []; exact True.intro) | (show AllL _ (_ :: _); refine ⟨?_, ?_⟩) | (show OpT _ _ _ _ _ _ _; first | refine dwx ?_ | refine OpT.ofVal rfl (Val.loadA (vs := (tkA r (n - 1 - i)).cells) rfl (fun _ => rdRow (A := some ⟨g, 0, none⟩) (by omega) (fun j u hu => by rw [show 0 + ((n : Int) - 1 - i).toNat * 6 = (n - 1 - i) * 6 by omega]; exact hg2 j u hu)) rfl) rfl rfl rfl ⟨fun _ => (by first | exact Hle.none _ | exact Hle.sub | exact absurd ‹_› (by decide +kernel)), ?_⟩ | refine OpT.ofVal rfl (Val.loadA (vs := (tkA r i).cells) rfl (fun _ => rdRow (A := some ⟨g, 0, none⟩) (by omega) (fun j u hu => by rw [show 0 + (i : Int).toNat * 6 = i * 6 by omega]; exact hg1 j u hu)) rfl) rfl rfl rfl ⟨fun _ => (by first | exact Hle.none _ | exact Hle.sub | exact absurd ‹_› (by decide +kernel)), ?_⟩ | refine OpT.storeR (us := (tkA r (n - 1 - i)).cells) rfl rfl rfl rfl rfl rfl (by show 0 + (i : Int).toNat * 6 + 6 ≤ n * 6; omega) ⟨fun _ => Hle.none _, ?_⟩ | refine OpT.storeR (us := (tkA r i).cells) rfl rfl rfl rfl rfl rfl (by show 0 + ((n : Int) - 1 - i).toNat * 6 + 6 ≤ n * 6; omega) ⟨fun _ => Hle.none _, ?_⟩) | (show ∀ _ : Nat, T _ _ _ _ _; intro _) | (show T _ (.mark _ :: _) _ _ _; exact T_meetX () trivial (hG := by rw [← hfin]; exact Hle.refl _)))
    rintro - -
    repeat' (first | refine d1 ?_ | refine dd ?_ | (show ∀ _ : Nat, T _ _ _ _ _; intro _))
    refine T_backX (i + 1, (r.set i (tkA r (n - 1 - i))).set (n - 1 - i) (tkA r i)) ⟨by dsimp only; omega, hs⟩ (by dsimp only; omega) (hE := ⟨rfl, by dsimp only; rw [show (n : Int) - 1 - ((i + 1 : Nat) : Int) = (n : Int) - 1 - i - 1 by omega]; rfl, trivial⟩)
  · simp only [decide_eq_false_iff_not] at h
    rw [hr.all (by omega)]
    repeat' (first | refine d1 ?_ | refine dd ?_ | (show ∀ _ : Nat, T _ _ _ _ _; intro _))
    exact T_fallV _ rfl (Hle.refl _) ⟨rfl, rfl⟩
end Go.Proofs.YtmcgificpaeipaaGreatDoor
/- The engine: so many zero values, appended to the nil slice. It speaks of any program. -/
namespace Go.Proofs.YtmcgificpaeipaaGreatDoor
open Go.RowKit Go.Shelf

def evAppN (S : Sig) (env : Env) (ec : EnvC) (o : Oper) : Option (TypeId × Int) :=
  match o.op with
  | .call { callee := .builtin .append, args := xs, argTypes := ts } => match evL env ec [] xs.toList, ts.toList with
    | some [.slice none 0 0, .int _ z], [t, u] => match S.ty t, S.ty u with
      | some ⟨.slice e, _, _, _⟩, some ⟨.int _, _, _, _⟩ => some (e, z)
      | _, _ => none
    | _, _ => none
  | _ => none
section
variable {C : Cx} {all : Array Oper} {o : Oper} {env : Env} {ec : EnvC} {H : List HA} {d : Nat} {Φ : Env → EnvC → List HA → Prop}
theorem OpT.appendN {k : Nat} {e sz : Nat} {ty : TyI} (hg : gOf all env ec o = some []) (he : evAppN C.S env ec o = some (e, ((k : Nat) : Int))) (hd : o.dst = some d) (hN : Nat.blt d C.N.n = true) (hs : safeC all d ec = true)
    (ht : C.S.ty e = some ty) (hsz : Nat.beq ty.size sz = true) (hzs : Nat.beq ty.zero.cells.size sz = true) (hpos : Nat.blt 0 sz = true) (hk : 0 < k) (hb : 2 * (k * ty.bytes) ≤ 140737488355328) (hb2 : k ≤ 4611686018427387904)
    (h : ∀ b cap', k ≤ cap' → Φ ((d, .slice (some ⟨b, 0, none⟩) k cap') :: env) ec (row e sz (some ⟨b, 0, none⟩) cap' 0 [] :: H)) : OpT C all o env ec H Φ := by
  have hsz' : ty.size = sz := Nat.eq_of_beq_eq_true hsz
  have hzs' : ty.zero.cells.size = sz := Nat.eq_of_beq_eq_true hzs
  have hpos' : 0 < sz := by rw [Nat.blt_eq] at hpos; exact hpos
  obtain ⟨x, hx, hx1, hx2, hx3⟩ := (Sig.tyOk ht).info'
  refine OpT.eff hg fun a w ha hw => ?_
  obtain ⟨dst, op, ty0, pos, aft, gd⟩ := o
  unfold evAppN at he
  dsimp only at he
  split at he
  · rename_i ps ts
    split at he
    · rename_i kq k0 t u hps hts
      split at he
      · rename_i e1 q1 q2 q3 kn q4 q5 q6 hty htu
        cases he
        have hut := (Sig.tyOk hty).fits
        simp only [Ty.fits] at hut
        have hun := (Sig.tyOk htu).fits
        simp only [Ty.fits] at hun
        have hcap : Builtin.nextslicecap (0 + k) 0 * x.bytes ≤ 281474976710656 := by
          have h9 : Builtin.nextslicecap (0 + k) 0 = k := by
            unfold Builtin.nextslicecap
            simp; omega
          rw [h9, hx2]
          omega
        have hrun := Go.Lib.run_append_grow_zeros (P := C.S.P) w t u ty0 e x ty.zero kq kn hut hun hx hx3 none 0 0 [] (by simp [Builtin.firstCells]) k hk (by rw [hx1, hsz']; exact hpos') (by omega) (by omega) (by rw [hx2]; omega) hcap
        rw [Nat.zero_add] at hrun
        have hge := grownCap_ge w k 0 e
        have hle := grownCap_le_maxLen w k 0 e (by simp only [maxLen]; omega)
        have hargs : ps.map a.eval = #[.slice none 0 0, .int kq k] := Array.ext' (by rw [Array.toList_map]; exact evL_spec ha (Holds.nil _ _) hps)
        have hts' : ts = #[t, u] := Array.ext' hts
        have hd0 : w.drew.heap.size = w.heap.size := rfl
        refine ⟨.slice (some ⟨w.heap.size, 0, none⟩) k (grownCap w k 0 e), w.drew.alloc (.cells (([] : List Value).toArray ++ Builtin.zeroCells ty.zero.cells k ++ Builtin.zeroCells ty.zero.cells (grownCap w k 0 e - k)) e), row e sz (some ⟨w.heap.size, 0, none⟩) (grownCap w k 0 e) 0 [] :: H, ?_, ?_, d, hd, hN, hs, h _ _ hge⟩
        · simp [execOp, resolve, invoke, builtin, hargs, hts', hrun]
        · refine Cls.alloc (w := w.drew) hw.drew _ ?_
          refine ⟨by simp, .inr ⟨w.heap.size, _, rfl, rfl, Nat.zero_le _, hle, ?_, by simp⟩⟩
          have hz : ∀ n, (Builtin.zeroCells ty.zero.cells n).size = n * sz := fun n => by
            unfold Builtin.zeroCells
            rw [← hzs']
            simp
          simp only [Array.size_append, hz]
          show 0 + k * sz + (grownCap w k 0 e - k) * sz = grownCap w k 0 e * sz
          rw [Nat.zero_add, ← Nat.add_mul]
          congr 1
          omega
      · cases he
    · cases he
  · cases he
end
end Go.Proofs.YtmcgificpaeipaaGreatDoor
/- Walks: slices of tokens, joined: slices.Grow, slices.Concat. -/
namespace Go.Proofs.YtmcgificpaeipaaGreatDoor
open Go.RowKit Go.Shelf Go.Proofs
set_option maxRecDepth 100000
set_option maxHeartbeats 1000000

theorem srcRowH {w0 w : World} {H : List HA} {A : Option Addr} {e sz cap n : Nat} {xs : List Value} {rb : HA → List HA} [FocusR H A e sz cap n xs rb] (hw : Cls w0 w H) : Src w sz A n xs :=
  srcRw (C := ⟨sg, ⟨0, []⟩, w0, none, fun _ _ => True, fun _ _ => True, fun _ _ _ => True⟩) (e := e) (cap := cap) (rb := rb) w hw
theorem growT_spec (n : Nat) (w : World) (hb : n ≤ 1000000) :
    Spec Tryz.prog 56 [.slice none 0 0, .int .i64 (n : Nat)] w (fun v R => ∃ x : Option Addr × Nat, True ∧ v = .slice x.1 0 x.2 ∧ R = [row 48 6 x.1 x.2 0 []]) := by
  refine spec_of sg Tryz.func56 rfl rfl rfl ?_
  repeat' (first | refine d1 ?_ | refine dd ?_ | (show ∀ _ : Nat, T _ _ _ _ _; intro _))
  refine T_if rfl (fun h => by exfalso; simp at h; omega) (fun h => ?_)
  repeat' (first | refine d1 ?_ | refine dd ?_ | (show ∀ _ : Nat, T _ _ _ _ _; intro _))
  refine T_if rfl (fun h => ?_) (fun h => ?_)
  · simp only [decide_eq_true_eq] at h
    rw [show (n : Int) - ((0 : Nat) - (0 : Nat) : Int) = ((n : Nat) : Int) by omega]
    repeat' (first | refine d1 ?_ | refine dd ?_ | (show T _ (.ops _ (_ :: _) :: _) _ _ _; refine T_op (OpT.appendN (k := n) (sz := 6) rfl rfl rfl rfl rfl rfl rfl rfl rfl (by omega) (by dsimp only; omega) (by omega) (fun b cap' hc' => ?_))) | (show ∀ _ : Nat, T _ _ _ _ _; intro _) | (show T _ (.code .ret :: _) _ _ _; refine T_retV _ rfl (Hle.refl _) ⟨(some ⟨_, 0, none⟩, _), trivial, rfl, rfl⟩))
  · simp only [decide_eq_false_iff_not] at h
    refine T_nilrow 48 6 ?_
    repeat' (first | refine d1 ?_ | refine dd ?_ | (show ∀ _ : Nat, T _ _ _ _ _; intro _) | (show T _ (.code .ret :: _) _ _ _; refine T_retV _ rfl (Hle.refl _) ⟨(none, 0), trivial, rfl, rfl⟩))
/-- How many tokens there are in all. -/
def sumT (l : List TS) : Nat := (l.map fun t => t.l.length).sum
theorem sumT_snoc {l : List TS} {j : Nat} {t : TS} (h : l[j]? = some t) : sumT (l.take (j + 1)) = sumT (l.take j) + t.l.length := by
  unfold sumT; rw [take_snoc _ _ _ h, List.map_append, List.sum_append]; simp
theorem sumT_le (l : List TS) (j : Nat) : sumT (l.take j) ≤ sumT l := by
  unfold sumT
  have h : (l.map fun t => t.l.length).sum = ((l.take j).map fun t => t.l.length).sum + ((l.drop j).map fun t => t.l.length).sum := by
    rw [← List.sum_append, ← List.map_append, List.take_append_drop]
  omega
def catT (l : List TS) : List Tok := l.flatMap TS.l
theorem catT_snoc {l : List TS} {j : Nat} {t : TS} (h : l[j]? = some t) : catT (l.take (j + 1)) = catT (l.take j) ++ t.l := by
  unfold catT; rw [take_snoc _ _ _ h, List.flatMap_append]; simp
theorem catT_len : ∀ l : List TS, (catT l).length = sumT l
  | [] => rfl
  | t :: l => by
    have := catT_len l
    unfold catT sumT at *
    rw [List.flatMap_cons, List.length_append, List.map_cons, List.sum_cons, this]
theorem concatT_spec (A : Option Addr) (n c : Nat) (l : List TS) (w : World) (hs : Src w 1 A n (l.map TS.val)) (hn : l.length = n) (hb : n ≤ 1000) (hl : TsOk w l) (hsum : sumT l ≤ 1000000) :
    Spec Tryz.prog 28 [.slice A n c] w (fun v R => ∃ x : Option Addr × Nat, True ∧ v = .slice x.1 (sumT l) x.2 ∧ R = [row 48 6 x.1 x.2 (sumT l) ((catT l).flatMap Tok.cells)]) := by
  refine spec_of sg Tryz.func28 rfl rfl rfl ?_
  repeat' (first | refine d1 ?_ | refine dd ?_ | (show ∀ _ : Nat, T _ _ _ _ _; intro _))
  refine T_loopX (fun j : Nat => [(11, .int .i64 j), (3, .int .i64 (sumT (l.take j) : Nat))]) (fun _ => []) (fun j => j ≤ n) (fun j => n - j) 0 (Nat.zero_le _) ?_
  intro j hj
  have hsj := sumT_le l j
  repeat' (first | refine d1 ?_ | refine dd ?_ | (show ∀ _ : Nat, T _ _ _ _ _; intro _))
  refine T_if rfl (fun h => ?_) (fun h => ?_)
  · simp only [decide_eq_true_eq] at h
    obtain ⟨b, o, rfl⟩ := hs.base (by omega)
    obtain ⟨t, ht⟩ : ∃ t, l[j]? = some t := ⟨_, List.getElem?_eq_getElem (by omega)⟩
    have htn := hl.len t (List.mem_of_getElem? ht)
    have hr : RdC w b (o + (j : Int).toNat * 1) [.slice t.A t.n t.cap] := by
      have h9 := (hs.get1 (i := j) (by omega) (by rw [List.getElem?_map, ht]; rfl)).2
      rw [Nat.mul_one] at h9
      rw [off1]
      exact h9
    have hsn := sumT_snoc ht
    have hsn2 := sumT_le l (j + 1)
    repeat' (first | refine d1 ?_ | refine dd ?_ | (show ∀ _ : Nat, T _ _ _ _ _; intro _))
    refine T_if rfl (fun h2 => by exfalso; simp at h2; omega) (fun h2 => ?_)
    repeat' (first | refine d1 ?_ | refine dd ?_ | (show ∀ _ : Nat, T _ _ _ _ _; intro _))
    exact T_backX (j + 1) (by omega) (by omega) (hE := ⟨rfl, by rw [hsn, htn]; rfl, trivial⟩)
  simp only [decide_eq_false_iff_not] at h
  obtain rfl : j = n := by omega
  rw [show l.take j = l from List.take_of_length_le (by omega)]
  repeat' (first | refine d1 ?_ | refine dd ?_ | (show T _ (.ops _ (_ :: _) :: _) _ _ _; refine T_callE rfl rfl rfl rfl rfl (fun w hw => growT_spec (sumT l) w hsum) (fun x _ => ?_)) | (show ∀ _ : Nat, T _ _ _ _ _; intro _))
  obtain ⟨Ag, cg⟩ := x
  refine T_loopX (fun s : Nat × Option Addr × Nat => [(27, .int .i64 s.1), (6, .slice s.2.1 (sumT (l.take s.1)) s.2.2)]) (fun s => [row 48 6 s.2.1 s.2.2 (sumT (l.take s.1)) ((catT (l.take s.1)).flatMap Tok.cells)]) (fun s => s.1 ≤ j) (fun s => j - s.1) (0, Ag, cg) (Nat.zero_le _) ?_
  rintro ⟨k, A1, cap1⟩ hk
  dsimp only at hk ⊢
  have hsk := sumT_le l k
  repeat' (first | refine d1 ?_ | refine dd ?_ | (show ∀ _ : Nat, T _ _ _ _ _; intro _))
  refine T_if rfl (fun h3 => ?_) (fun h3 => ?_)
  · simp only [decide_eq_true_eq] at h3
    obtain ⟨b, o, rfl⟩ := hs.base (by omega)
    obtain ⟨t, ht⟩ : ∃ t, l[k]? = some t := ⟨_, List.getElem?_eq_getElem (by omega)⟩
    have htn := hl.len t (List.mem_of_getElem? ht)
    have hr : RdC w b (o + (k : Int).toNat * 1) [.slice t.A t.n t.cap] := by
      have h9 := (hs.get1 (i := k) (by omega) (by rw [List.getElem?_map, ht]; rfl)).2
      rw [Nat.mul_one] at h9
      rw [off1]
      exact h9
    have hsn := sumT_snoc ht
    have hsn2 := sumT_le l (k + 1)
    repeat' (first | refine d1 ?_ | refine dd ?_ | (show T _ (.ops _ (_ :: _) :: _) _ _ _; refine T_op (OpT.append rfl rfl rfl rfl rfl rfl rfl rfl rfl rfl (rdSrc (hl.src t (List.mem_of_getElem? ht))) (oneToks t.l) (by dsimp only; omega) (by omega) (fun A' cap' hA' => ?_))) | (show ∀ _ : Nat, T _ _ _ _ _; intro _))
    exact T_backX (k + 1, A', cap') (by dsimp only; omega) (by dsimp only; omega) (hE := ⟨rfl, by dsimp only; rw [hsn, htn]; rfl, trivial⟩) (hG := by dsimp only; rw [hsn, htn, catT_snoc ht, List.flatMap_append]; exact Hle.refl _)
  · simp only [decide_eq_false_iff_not] at h3
    obtain rfl : k = j := by omega
    rw [show l.take k = l from List.take_of_length_le (by omega)]
    repeat' (first | refine d1 ?_ | refine dd ?_ | (show ∀ _ : Nat, T _ _ _ _ _; intro _) | (show T _ (.code .ret :: _) _ _ _; refine T_retV _ rfl (Hle.refl _) ⟨(A1, cap1), trivial, rfl, rfl⟩))
end Go.Proofs.YtmcgificpaeipaaGreatDoor
/- Walks: pairs of sources: whether a table proves an alignment (the program). -/
namespace Go.Proofs.YtmcgificpaeipaaGreatDoor
open Go.RowKit Go.Shelf Go.Proofs
set_option maxRecDepth 100000
set_option maxHeartbeats 1000000

theorem indexFuncR_spec (A : Option Addr) (n c : Nat) (xs : List Value) (f : FuncId) (fs cs : List Value) (p : Nat → Bool) (w : World) (hs : Src w 1 A n xs) (hb : n ≤ 9223372036854775807)
    (hf : ∀ i x, xs[i]? = some x → ∀ w', Below w.heap.size w w' → Spec Tryz.prog f (fs ++ (x :: cs)) w' (fun v A => v = .bool (p i) ∧ A = [])) :
    Spec Tryz.prog 57 [.slice A n c, .func (.func f) fs.toArray cs.toArray] w (fun v A => v = .int .i64 (findI p (List.range n)) ∧ A = []) := by
  have hn : xs.length = n := by have := hs.1; omega
  have hget : ∀ {i x : Nat}, (List.range n)[i]? = some x → x = i := fun {i x} h => by
    have h1 := (List.getElem?_eq_some_iff.1 h).1
    rw [List.length_range] at h1
    rw [List.getElem?_range h1] at h
    exact (Option.some.inj h).symm
  refine spec_of sg Tryz.func57 rfl rfl rfl ?_
  repeat' (first | refine d1 ?_ | refine dd ?_ | (show ∀ _ : Nat, T _ _ _ _ _; intro _))
  refine T_loop (fun k : Nat => [(0, .slice A n c), (1, .func (.func f) fs.toArray cs.toArray), (7, .int .i64 n), (8, .int .i64 k)]) (fun _ => []) (fun k => k ≤ n ∧ ∀ i x, i < k → (List.range n)[i]? = some x → p x = false) (fun k => n - k) 0 ⟨Nat.zero_le _, fun i x h => by omega⟩ ⟨rfl, rfl, rfl, rfl, trivial⟩ (Hle.refl _) ?_
  rintro k ⟨hk, hok⟩
  repeat' (first | refine d1 ?_ | refine dd ?_ | (show ∀ _ : Nat, T _ _ _ _ _; intro _))
  refine T_if rfl (fun h => ?_) (fun h => ?_)
  · simp only [decide_eq_true_eq] at h
    have hkn : k < n := by omega
    obtain ⟨b, o, rfl⟩ := hs.base (by omega)
    obtain ⟨x, hx⟩ : ∃ x, xs[k]? = some x := ⟨_, List.getElem?_eq_getElem (by omega)⟩
    repeat' (first | refine d1 ?_ | refine dd ?_ | (show ∀ _ : Nat, T _ _ _ _ _; intro _))
    refine T_load (v := x) rfl rfl rfl rfl rfl (rdOld ?_) ?_
    · exact (hs.get1 hkn hx).2
    repeat' (first | refine d1 ?_ | refine dd ?_ | (show T _ (.ops _ (_ :: _) :: _) _ _ _; first | refine T_call rfl rfl rfl rfl rfl (fun w hw => hf k x hx w hw.below) ?_ | refine T_callC rfl rfl rfl rfl rfl rfl rfl (fun hg w hw => hf k x hx w hw.below) ?_) | (show T _ (.run _ _ (_ :: _) _ _ :: _) _ _ _; first | refine rc rfl rfl rfl rfl rfl rfl rfl (fun w hw => hf k x hx w hw.below) ?_ | refine rcG rfl rfl rfl rfl rfl rfl rfl rfl rfl (fun hg w hw => hf k x hx w hw.below) ?_) | (show ∀ _ : Nat, T _ _ _ _ _; intro _))
    refine T_if rfl (fun h1 => ?_) (fun h1 => ?_)
    · repeat' (first | refine d1 ?_ | refine dd ?_ | (show ∀ _ : Nat, T _ _ _ _ _; intro _) | (show T _ (.code .ret :: _) _ _ _; refine T_retV [] rfl (Hle.refl _) ⟨congrArg (Value.int .i64) ?_, rfl⟩))
      exact (findI_some (List.getElem?_range hkn) h1 hok).symm
    · repeat' (first | refine d1 ?_ | refine dd ?_ | (show ∀ _ : Nat, T _ _ _ _ _; intro _))
      refine T_back (k + 1) ⟨by omega, fun i y hi hy => ?_⟩ (by omega) ⟨rfl, rfl, rfl, rfl, trivial⟩ (Hle.refl _)
      rcases Nat.lt_or_ge i k with h2 | h2
      · exact hok i y h2 hy
      · rw [hget hy, show i = k by omega]; exact h1
  · simp only [decide_eq_false_iff_not] at h
    repeat' (first | refine d1 ?_ | refine dd ?_ | (show ∀ _ : Nat, T _ _ _ _ _; intro _) | (show T _ (.code .ret :: _) _ _ _; refine T_retV [] rfl (Hle.refl _) ⟨congrArg (Value.int .i64) ?_, rfl⟩))
    exact (findI_none (fun i x hi => hok i x (by have := (List.getElem?_eq_some_iff.1 hi).1; rw [List.length_range] at this; omega) hi)).symm
theorem containsFuncR_spec (A : Option Addr) (n c : Nat) (xs : List Value) (f : FuncId) (fs cs : List Value) (p : Nat → Bool) (w : World) (hs : Src w 1 A n xs) (hb : n ≤ 9223372036854775807)
    (hf : ∀ i x, xs[i]? = some x → ∀ w', Below w.heap.size w w' → Spec Tryz.prog f (fs ++ (x :: cs)) w' (fun v A => v = .bool (p i) ∧ A = [])) :
    Spec Tryz.prog 30 [.slice A n c, .func (.func f) fs.toArray cs.toArray] w (fun v A => v = .bool ((List.range n).any p) ∧ A = []) := by
  refine spec_of sg Tryz.func30 rfl rfl rfl ?_
  repeat' (first | refine d1 ?_ | refine dd ?_ | (show T _ (.ops _ (_ :: _) :: _) _ _ _; first | refine T_call rfl rfl rfl rfl rfl (fun w hw => indexFuncR_spec A n c xs f fs cs p w (rdSrc hs w hw) hb (fun i x hx w' hb' => hf i x hx w' (hw.below.trans (hb'.mono hw.below.size)))) ?_ | refine T_callC rfl rfl rfl rfl rfl rfl rfl (fun hg w hw => indexFuncR_spec A n c xs f fs cs p w (rdSrc hs w hw) hb (fun i x hx w' hb' => hf i x hx w' (hw.below.trans (hb'.mono hw.below.size)))) ?_) | (show T _ (.run _ _ (_ :: _) _ _ :: _) _ _ _; first | refine rc rfl rfl rfl rfl rfl rfl rfl (fun w hw => indexFuncR_spec A n c xs f fs cs p w (rdSrc hs w hw) hb (fun i x hx w' hb' => hf i x hx w' (hw.below.trans (hb'.mono hw.below.size)))) ?_ | refine rcG rfl rfl rfl rfl rfl rfl rfl rfl rfl (fun hg w hw => indexFuncR_spec A n c xs f fs cs p w (rdSrc hs w hw) hb (fun i x hx w' hb' => hf i x hx w' (hw.below.trans (hb'.mono hw.below.size)))) ?_) | (show ∀ _ : Nat, T _ _ _ _ _; intro _) | (show T _ (.code .ret :: _) _ _ _; refine T_retV [] rfl (Hle.refl _) ⟨congrArg Value.bool ?_, rfl⟩))
  exact findI_any p _
/-- A table's rows, read: the slice, and what is known of each row. -/
theorem Rd.tabS {w : World} {x : Value} {m : List (List Int)} (h : Rd (wr w) [x] [rowsD m]) : ∃ A cap cs, x = .slice A m.length cap ∧ m.length ≤ cap ∧ cap ≤ 9223372036854775807 ∧ Src w 1 A m.length cs ∧ Rd (wr w) cs (m.map intsD) := by
  obtain ⟨A, n, cap, cs, rfl, h1, h2, h3, h4, h5⟩ := h.src
  rw [List.length_map, Nat.mul_one] at h1
  subst h1
  exact ⟨A, cap, cs, rfl, h2, h3, h4, h5⟩
theorem Rd.rowAt {R : Rdr} {cs : List Value} {t : List (List Int)} (h : Rd R cs (t.map intsD)) {i : Nat} {x : Value} (hx : cs[i]? = some x) : ∃ r A' cap', t[i]? = some r ∧ x = .slice A' r.length cap' ∧ r.length ≤ 9223372036854775807 := by
  have hl := h.length
  rw [List.length_map] at hl
  have hil : i < t.length := by have := (List.getElem?_eq_some_iff.1 hx).1; omega
  obtain ⟨A', cap', h5, h6, h7, -⟩ := h.tabRow (List.getElem?_eq_getElem hil)
  rw [hx] at h5
  exact ⟨t[i], A', cap', List.getElem?_eq_getElem hil, Option.some.inj h5, by omega⟩
theorem verify1_spec (A' : Option Addr) (r cap' g m : Nat) (B : Option Addr) (cb : Nat) (w : World) (hm : m ≤ 1000) (hr : r ≤ 9223372036854775807) (hg : RdC w g 0 [.slice B m cb]) :
    Spec Tryz.prog 61 [.slice A' r cap', .pointer (some ⟨g, 0, none⟩)] w (fun v R => v = .bool (!decide (r = m + 1)) ∧ R = []) := by
  refine spec_of sg Tryz.func61 rfl rfl rfl ?_
  repeat' (first | refine d1 ?_ | refine dd ?_ | (show ∀ _ : Nat, T _ _ _ _ _; intro _) | (show T _ (.code .ret :: _) _ _ _; refine T_retV [] rfl (Hle.none _) ⟨congrArg Value.bool ?_, rfl⟩))
  show (!decide ((r : Int) = (m : Int) + 1)) = _
  exact congrArg not (decide_eq_decide.2 ⟨fun h => by omega, fun h => by omega⟩)
theorem verify1_row {R : Rdr} {cs : List Value} {t : List (List Int)} {i g m cb : Nat} {x : Value} {B : Option Addr} {w : World} (h : Rd R cs (t.map intsD)) (hx : cs[i]? = some x) (hm : m ≤ 1000) (hg : RdC w g 0 [.slice B m cb]) :
    Spec Tryz.prog 61 [x, .pointer (some ⟨g, 0, none⟩)] w (fun v R => v = .bool (!decide (((t[i]?).getD []).length = m + 1)) ∧ R = []) := by
  obtain ⟨r, A', cap', h5, rfl, h6⟩ := h.rowAt hx
  rw [h5]
  exact verify1_spec A' r.length cap' g m B cb w hm h6 hg
theorem verify2_spec (z : Int) (w : World) : Spec Tryz.prog 63 [.int .i64 z] w (fun v R => v = .bool (decide (z < 0) || decide (1073741824 < z)) ∧ R = []) := by
  refine spec_of sg Tryz.func63 rfl rfl rfl ?_
  repeat' (first | refine d1 ?_ | refine dd ?_ | (show ∀ _ : Nat, T _ _ _ _ _; intro _) | (show T _ (.code .ret :: _) _ _ _; refine T_retV [] rfl (Hle.none _) ⟨rfl, rfl⟩))
/-- What Verify returns. -/
def verV (c : Costs) (a b : List Tok) (cols t : List (List Int)) : Int :=
  if ckV c a b = 0 then (match alnd (grdOf c a b) cols 0 0 with
    | none => 19
    | some s => if shpP a.length b.length t then (if certP (grdOf c a b) (tabF t) s then 0 else 18) else 9) else 1
/-- A number of a table. -/
theorem gridAt_tab {w : World} {x : Value} {n m i k : Nat} {t : List (List Int)} (h : Rd (wr w) [x] [rowsD t]) (hs : shpP n m t) (hi : i ≤ n) (hk : k ≤ m) :
    Spec Tryz.prog 47 [x, .int .i64 (i : Nat), .int .i64 (k : Nat)] w (fun v R => v = .int .i64 (tabF t i k) ∧ R = []) := by
  obtain ⟨A, cap, cs, rfl, -, -, -, hA, hrows⟩ := h.tab
  obtain ⟨r, hr, hrl, hrk⟩ := shp_row hs hi
  have htl := hs.1
  obtain ⟨b, o, rfl, hb⟩ := hA (by omega)
  obtain ⟨A', cap', hcs, -, -, hA'⟩ := hrows.tabRow hr
  obtain ⟨b', o', rfl, hb'⟩ := hA' (by omega)
  exact gridAt_spec b o _ cap b' o' _ cap' i k _ w (RdC.one (hb i _ hcs)) (RdC.one (hb' k _ (hrk k hk))) (by omega) (by omega)
theorem verifyPrg_spec (c : Costs) (A B : Option Addr) (n m ca cb : Nat) (a b : List Tok) (z y : Value) (cols t : List (List Int)) (w : World) (h2 : Two w A B n m a b) (hz : Rd (wr w) [z] [rowsD cols]) (hy : Rd (wr w) [y] [rowsD t]) :
    Spec Tryz.prog 35 [c.val, .slice A n ca, .slice B m cb, z, y] w (fun v R => v = .int .i64 (verV c a b cols t) ∧ R = []) := by
  have hnb := h2.hnb
  have hmb := h2.hmb
  have hn := h2.hn
  have hm := h2.hm
  refine spec_of sg Tryz.func35 rfl rfl rfl ?_
  refine T_op (OpT.box (cs := c.cells) rfl rfl rfl rfl rfl rfl rfl (fun pc => ?_))
  refine T_op (OpT.box (cs := [.slice B m cb]) rfl rfl rfl rfl rfl rfl rfl (fun pb => ?_))
  by_cases hk : ckV c a b = 0
  · have hG := grdOf_ok (ckV_ok hk).1 a b
    have e1 : (grdOf c a b).n = n := h2.hn
    have e2 : (grdOf c a b).m = m := h2.hm
    repeat' (first | refine d1 ?_ | refine dd ?_ | (show T _ (.ops _ (_ :: _) :: _) _ _ _; refine T_op (OpT.call rfl rfl rfl rfl rfl (fun w hw => (h2.cls hw).ok c ca cb hk) ?_)) | (show ∀ _ : Nat, T _ _ _ _ _; intro _))
    rename_i pr
    rintro v R ⟨⟨x, y'⟩, rfl, rfl⟩
    dsimp only
    refine T_le (H' := [dat [x] [intsD (gaL c a)], dat [y'] [intsD (gaL c b)], blk pr [.int .i64 0] 27, blk pb [.slice B m cb] 24, blk pc c.cells 23]) (Hle.refl _) ?_
    refine T_open2 fun p q hp hq => ?_
    obtain ⟨A1, cap1, rfl, -, -, -⟩ := hp.row1
    obtain ⟨A2, cap2, rfl, -, -, -⟩ := hq.row1
    repeat' (first | refine d1 ?_ | refine dd ?_ | (show T _ (.ops _ (_ :: _) :: _) _ _ _; refine T_op (OpT.storeA rfl rfl rfl rfl rfl rfl (by decide) ?_)) | (show ∀ _ : Nat, T _ _ _ _ _; intro _))
    rename_i p8
    refine T_le (H' := [blk p8 (srcsL c A B n m ca cb (.slice A1 (gaL c a).length cap1) (.slice A2 (gaL c b).length cap2)) 75, fz p, fz q, blk pr [.int .i64 0] 27, blk pb [.slice B m cb] 24, blk pc c.cells 23]) (Hle.refl _) ?_
    refine T_if rfl (fun h => ?_) (fun h => ?_)
    · cases h
    repeat' (first | refine d1 ?_ | refine dd ?_ | (show T _ (.ops _ (_ :: _) :: _) _ _ _; first | refine T_call rfl rfl rfl rfl rfl (fun w hw => pcost_spec c A B n m ca cb a b _ _ z cols w (h2.cls hw) hk (hp.own hw) (hq.own hw) (hz.old hw)) ?_ | refine T_callC rfl rfl rfl rfl rfl rfl rfl (fun hg w hw => pcost_spec c A B n m ca cb a b _ _ z cols w (h2.cls hw) hk (hp.own hw) (hq.own hw) (hz.old hw)) ?_) | (show T _ (.run _ _ (_ :: _) _ _ :: _) _ _ _; first | refine rc rfl rfl rfl rfl rfl rfl rfl (fun w hw => pcost_spec c A B n m ca cb a b _ _ z cols w (h2.cls hw) hk (hp.own hw) (hq.own hw) (hz.old hw)) ?_ | refine rcG rfl rfl rfl rfl rfl rfl rfl rfl rfl (fun hg w hw => pcost_spec c A B n m ca cb a b _ _ z cols w (h2.cls hw) hk (hp.own hw) (hq.own hw) (hz.old hw)) ?_) | (show ∀ _ : Nat, T _ _ _ _ _; intro _))
    obtain ⟨At, capt, cst, rfl, ht1, ht2, hsrc, hrows⟩ := hy.tabS
    cases ha : alnd (grdOf c a b) cols 0 0 with
    | none =>
      have e : verV c a b cols t = 19 := by unfold verV; rw [if_pos hk, ha]
      rw [e, costP_none ha]
      refine T_if rfl (fun h => ?_) (fun h => ?_)
      · repeat' (first | refine d1 ?_ | refine dd ?_ | (show ∀ _ : Nat, T _ _ _ _ _; intro _) | (show T _ (.code .ret :: _) _ _ _; refine T_retM (vs := [.int .i64 19]) [] ⟨⟨pr, _, [.int .i64 19], rfl, rfl, rfl, rfl, (fun _ => rfl), rfl, rdOwn1 rfl⟩, trivial⟩ (Hle.none _) ⟨rfl, rfl⟩))
      · cases h
    | some s =>
      rw [costP_some ha, Int.zero_add]
      refine T_if rfl (fun h => ?_) (fun h => ?_)
      · cases h
      repeat' (first | refine d1 ?_ | refine dd ?_ | (show T _ (.ops _ (_ :: _) :: _) _ _ _; first | refine T_call rfl rfl rfl rfl rfl (fun w hw => containsFuncR_spec At t.length capt cst _ [] [.pointer (some ⟨pb, 0, none⟩)] (fun i => !decide (((t[i]?).getD []).length = m + 1)) w (rdSrc hsrc w hw) (by omega) (fun i x hx w' hb' => verify1_row hrows hx hmb ((rdAll (b := pb) w hw).below hb'))) ?_ | refine T_callC rfl rfl rfl rfl rfl rfl rfl (fun hg w hw => containsFuncR_spec At t.length capt cst _ [] [.pointer (some ⟨pb, 0, none⟩)] (fun i => !decide (((t[i]?).getD []).length = m + 1)) w (rdSrc hsrc w hw) (by omega) (fun i x hx w' hb' => verify1_row hrows hx hmb ((rdAll (b := pb) w hw).below hb'))) ?_) | (show T _ (.run _ _ (_ :: _) _ _ :: _) _ _ _; first | refine rc rfl rfl rfl rfl rfl rfl rfl (fun w hw => containsFuncR_spec At t.length capt cst _ [] [.pointer (some ⟨pb, 0, none⟩)] (fun i => !decide (((t[i]?).getD []).length = m + 1)) w (rdSrc hsrc w hw) (by omega) (fun i x hx w' hb' => verify1_row hrows hx hmb ((rdAll (b := pb) w hw).below hb'))) ?_ | refine rcG rfl rfl rfl rfl rfl rfl rfl rfl rfl (fun hg w hw => containsFuncR_spec At t.length capt cst _ [] [.pointer (some ⟨pb, 0, none⟩)] (fun i => !decide (((t[i]?).getD []).length = m + 1)) w (rdSrc hsrc w hw) (by omega) (fun i x hx w' hb' => verify1_row hrows hx hmb ((rdAll (b := pb) w hw).below hb'))) ?_) | (show ∀ _ : Nat, T _ _ _ _ _; intro _))
      refine T_if rfl (fun h3 => ?_) (fun h3 => ?_)
      · have hns : ¬ shpP a.length b.length t := fun hs => by
          rw [hn, hm] at hs
          obtain ⟨h5, h6⟩ := hs
          simp only [Bool.or_eq_true, Bool.not_eq_true', decide_eq_false_iff_not, List.any_eq_true, List.mem_range] at h3
          rcases h3 with h3 | ⟨i, hi, h7⟩
          · omega
          · apply h7
            rw [List.getElem?_eq_getElem hi]
            exact h6 _ (List.getElem_mem hi)
        have e : verV c a b cols t = 9 := by unfold verV; rw [if_pos hk, ha]; exact if_neg hns
        rw [e]
        repeat' (first | refine d1 ?_ | refine dd ?_ | (show ∀ _ : Nat, T _ _ _ _ _; intro _) | (show T _ (.code .ret :: _) _ _ _; refine T_retM (vs := [.int .i64 9]) [] ⟨⟨pr, _, [.int .i64 9], rfl, rfl, rfl, rfl, (fun _ => rfl), rfl, rdOwn1 rfl⟩, trivial⟩ (Hle.none _) ⟨rfl, rfl⟩))
      have hshp : shpP n m t := by
        simp only [Bool.or_eq_false_iff, Bool.not_eq_false', decide_eq_true_eq, List.any_eq_false, List.mem_range, Bool.not_eq_true', decide_eq_false_iff_not, Classical.not_not] at h3
        refine ⟨by omega, fun r hr => ?_⟩
        obtain ⟨i, hi, e⟩ := List.getElem_of_mem hr
        have := h3.2 i hi
        rw [List.getElem?_eq_getElem hi, e] at this
        exact this
      have e : verV c a b cols t = if certP (grdOf c a b) (tabF t) s then 0 else 18 := by unfold verV; rw [if_pos hk, ha, hn, hm]; exact if_pos hshp
      rw [e]
      repeat' (first | refine d1 ?_ | refine dd ?_ | (show T _ (.ops _ (_ :: _) :: _) _ _ _; first | refine T_call rfl rfl rfl rfl rfl (fun w hw => gridAt_tab (n := n) (m := m) (i := n) (k := m) (hy.old hw) hshp (by omega) (by omega)) ?_ | refine T_callC rfl rfl rfl rfl rfl rfl rfl (fun hg w hw => gridAt_tab (n := n) (m := m) (i := n) (k := m) (hy.old hw) hshp (by omega) (by omega)) ?_ | refine T_call rfl rfl rfl rfl rfl (fun w hw => gridAt_tab (n := n) (m := m) (i := 0) (k := 0) (hy.old hw) hshp (by omega) (by omega)) ?_ | refine T_callC rfl rfl rfl rfl rfl rfl rfl (fun hg w hw => gridAt_tab (n := n) (m := m) (i := 0) (k := 0) (hy.old hw) hshp (by omega) (by omega)) ?_) | (show T _ (.run _ _ (_ :: _) _ _ :: _) _ _ _; first | refine rc rfl rfl rfl rfl rfl rfl rfl (fun w hw => gridAt_tab (n := n) (m := m) (i := n) (k := m) (hy.old hw) hshp (by omega) (by omega)) ?_ | refine rcG rfl rfl rfl rfl rfl rfl rfl rfl rfl (fun hg w hw => gridAt_tab (n := n) (m := m) (i := n) (k := m) (hy.old hw) hshp (by omega) (by omega)) ?_ | refine rc rfl rfl rfl rfl rfl rfl rfl (fun w hw => gridAt_tab (n := n) (m := m) (i := 0) (k := 0) (hy.old hw) hshp (by omega) (by omega)) ?_ | refine rcG rfl rfl rfl rfl rfl rfl rfl rfl rfl (fun hg w hw => gridAt_tab (n := n) (m := m) (i := 0) (k := 0) (hy.old hw) hshp (by omega) (by omega)) ?_) | (show ∀ _ : Nat, T _ _ _ _ _; intro _))
      rename_i pf
      refine T_if rfl (fun h4 => ?_) (fun h4 => ?_)
      · have hnc : ¬ certP (grdOf c a b) (tabF t) s := fun hc => by
          have h5 := hc.1.1
          have h6 := hc.1.2
          rw [e1, e2] at h5
          rw [h5, h6] at h4
          simp at h4
        rw [if_neg hnc]
        repeat' (first | refine d1 ?_ | refine dd ?_ | (show ∀ _ : Nat, T _ _ _ _ _; intro _) | (show T _ (.code .ret :: _) _ _ _; refine T_retM (vs := [.int .i64 18]) [] ⟨⟨pr, _, [.int .i64 18], rfl, rfl, rfl, rfl, (fun _ => rfl), rfl, rdOwn1 rfl⟩, trivial⟩ (Hle.none _) ⟨rfl, rfl⟩))
      have hc1 : tabF t n m = 0 ∧ tabF t 0 0 = s := by simpa using h4
      have hrange : ∀ {i : Nat} {r : List Int}, t[i]? = some r → i ≤ n → ((r.any fun x => decide (x < 0) || decide (1073741824 < x)) = false ↔ ∀ k, k < m + 1 → 0 ≤ tabF t i k ∧ tabF t i k ≤ big) := fun {i r} hr hi => by
        obtain ⟨r', hr', hrl, hrk⟩ := shp_row hshp hi
        rw [hr] at hr'
        cases hr'
        rw [List.any_eq_false]
        constructor
        · intro h5 k hk5
          have h6 := h5 _ (List.mem_of_getElem? (hrk k (by omega)))
          simp only [Bool.or_eq_true, decide_eq_true_eq] at h6
          unfold big; omega
        · intro h5 x hx
          obtain ⟨k, hk6, e6⟩ := List.getElem_of_mem hx
          have h6 := h5 k (by omega)
          have h7 := hrk k (by omega)
          rw [List.getElem?_eq_getElem hk6, e6] at h7
          rw [← Option.some.inj h7] at h6
          unfold big at h6
          simp only [Bool.or_eq_true, decide_eq_true_eq]; omega
      repeat' (first | refine d1 ?_ | refine dd ?_ | (show ∀ _ : Nat, T _ _ _ _ _; intro _))
      refine T_le (H' := [blk pf [.func (.func 47) #[.slice At t.length capt] #[]] 81, blk p8 (srcsL c A B n m ca cb (.slice A1 (gaL c a).length cap1) (.slice A2 (gaL c b).length cap2)) 75, fz p, fz q, blk pr [.int .i64 0] 27]) Hle.srt ?_
      refine T_loopX (fun j : Nat => [(68, .int .i64 j)]) (fun _ => [blk pf [.func (.func 47) #[.slice At t.length capt] #[]] 81, blk p8 (srcsL c A B n m ca cb (.slice A1 (gaL c a).length cap1) (.slice A2 (gaL c b).length cap2)) 75, fz p, fz q, blk pr [.int .i64 0] 27]) (fun j => j ≤ t.length ∧ ∀ i, i < j → ∀ k, k < m + 1 → 0 ≤ tabF t i k ∧ tabF t i k ≤ big) (fun j => t.length - j) 0 ⟨Nat.zero_le _, fun i h => by omega⟩ ?_
      rintro j ⟨hj, hok⟩
      have htl := hshp.1
      repeat' (first | refine d1 ?_ | refine dd ?_ | (show ∀ _ : Nat, T _ _ _ _ _; intro _))
      refine T_if rfl (fun h5 => ?_) (fun h5 => ?_)
      · simp only [decide_eq_true_eq] at h5
        obtain ⟨bt, ot, rfl⟩ := hsrc.base (by omega)
        obtain ⟨r, hr⟩ : ∃ r, t[j]? = some r := ⟨_, List.getElem?_eq_getElem (by omega)⟩
        obtain ⟨A', cap', hc5, hl5, hm5, hA5⟩ := hrows.tabRow hr
        have hr1 : RdC w bt (ot + (j : Int).toNat * 1) [.slice A' r.length cap'] := by
          have h9 := (hsrc.get1 (i := j) (by omega) hc5).2
          rw [Nat.mul_one] at h9
          rw [off1]
          exact h9
        have hsr : Src w 1 A' r.length (r.map (Value.int .i64)) := ⟨by rw [List.length_map, Nat.mul_one], fun h9 => by
          obtain ⟨b5, o5, rfl, h10⟩ := hA5 h9
          refine ⟨rfl, fun k u hu => ?_⟩
          rw [List.getElem?_map] at hu
          cases hz5 : r[k]? with
          | none => rw [hz5] at hu; cases hu
          | some z5 => rw [hz5] at hu; cases hu; exact h10 k _ hz5⟩
        repeat' (first | refine d1 ?_ | refine dd ?_ | (show T _ (.ops _ (_ :: _) :: _) _ _ _; first | refine T_call rfl rfl rfl rfl rfl (fun w hw => containsFuncI_spec A' r.length cap' r _ [] [] (fun x => decide (x < 0) || decide (1073741824 < x)) w (rdSrc hsr w hw) rfl (by omega) (fun x hx w' hb' => verify2_spec x w')) ?_ | refine T_callC rfl rfl rfl rfl rfl rfl rfl (fun hg w hw => containsFuncI_spec A' r.length cap' r _ [] [] (fun x => decide (x < 0) || decide (1073741824 < x)) w (rdSrc hsr w hw) rfl (by omega) (fun x hx w' hb' => verify2_spec x w')) ?_) | (show T _ (.run _ _ (_ :: _) _ _ :: _) _ _ _; first | refine rc rfl rfl rfl rfl rfl rfl rfl (fun w hw => containsFuncI_spec A' r.length cap' r _ [] [] (fun x => decide (x < 0) || decide (1073741824 < x)) w (rdSrc hsr w hw) rfl (by omega) (fun x hx w' hb' => verify2_spec x w')) ?_ | refine rcG rfl rfl rfl rfl rfl rfl rfl rfl rfl (fun hg w hw => containsFuncI_spec A' r.length cap' r _ [] [] (fun x => decide (x < 0) || decide (1073741824 < x)) w (rdSrc hsr w hw) rfl (by omega) (fun x hx w' hb' => verify2_spec x w')) ?_) | (show ∀ _ : Nat, T _ _ _ _ _; intro _))
        refine T_if rfl (fun h6 => ?_) (fun h6 => ?_)
        · have hnc : ¬ certP (grdOf c a b) (tabF t) s := fun hc => by
            have h7 := (hrange hr (by omega)).2 fun k hk7 => hc.2.1 j (by omega) k (by omega)
            rw [h6] at h7; cases h7
          rw [if_neg hnc]
          repeat' (first | refine d1 ?_ | refine dd ?_ | (show ∀ _ : Nat, T _ _ _ _ _; intro _) | (show T _ (.code .ret :: _) _ _ _; refine T_retM (vs := [.int .i64 18]) [] ⟨⟨pr, _, [.int .i64 18], rfl, rfl, rfl, rfl, (fun _ => rfl), rfl, rdOwn1 rfl⟩, trivial⟩ (Hle.none _) ⟨rfl, rfl⟩))
        · repeat' (first | refine d1 ?_ | refine dd ?_ | (show ∀ _ : Nat, T _ _ _ _ _; intro _))
          refine T_backX (j + 1) ⟨by omega, fun i hi k hk7 => ?_⟩ (by omega)
          rcases Nat.lt_or_ge i j with h8 | h8
          · exact hok i h8 k hk7
          · rw [show i = j by omega]; exact (hrange hr (by omega)).1 h6 k hk7
      simp only [decide_eq_false_iff_not] at h5
      obtain rfl : j = t.length := by omega
      have hrng : rngP (grdOf c a b) (tabF t) := fun i hi k hk7 => hok i (by omega) k (by omega)
      repeat' (first | refine d1 ?_ | refine dd ?_ | (show T _ (.ops _ (_ :: _) :: _) _ _ _; refine T_callE rfl rfl rfl rfl rfl (fun w hw => places_spec _ c A B n m ca cb _ _ rfl w) (fun g _ => ?_)) | (show ∀ _ : Nat, T _ _ _ _ _; intro _))
      refine T_range (places_iter c A B n m ca cb _ _ g hnb hmb) rfl (fun j y hy => by obtain ⟨i, k, _, rfl⟩ := placeVs_at hy; exact ⟨rfl, rfl⟩)
        (fun j H => H = [blk pf [.func (.func 47) #[.slice At t.length capt] #[]] 81, blk p8 (srcsL c A B n m ca cb (.slice A1 (gaL c a).length cap1) (.slice A2 (gaL c b).length cap2)) 75, fz p, fz q, blk pr [.int .i64 0] 27] ∧ ∀ j', j' < j → ∀ i k, (placesL n m)[j']? = some (i, k) → stpP (grdOf c a b) (tabF t) i k)
        (fun H => H = [blk pf [.func (.func 47) #[.slice At t.length capt] #[]] 81, blk p8 (srcsL c A B n m ca cb (.slice A1 (gaL c a).length cap1) (.slice A2 (gaL c b).length cap2)) 75, fz p, fz q, blk pr [.int .i64 18] 27] ∧ ¬ certP (grdOf c a b) (tabF t) s) (fun _ _ => False)
        [blk pf [.func (.func 47) #[.slice At t.length capt] #[]] 81, blk p8 (srcsL c A B n m ca cb (.slice A1 (gaL c a).length cap1) (.slice A2 (gaL c b).length cap2)) 75, fz p, fz q, blk pr [.int .i64 0] 27] ⟨rfl, fun j' h => by omega⟩ Hle.srt ?_ ?_ ?_ (fun _ _ _ h => h.elim)
      · rintro Lp r j yv Hj K hr hyv ⟨rfl, hdone⟩
        obtain ⟨i, k, hpl, rfl⟩ := placeVs_at hyv
        obtain ⟨p', q', hpn, hqm, -, hip, hkq⟩ := placesL_at hpl
        have hin : i ≤ n := by omega
        have hkm : k ≤ m := by omega
        show T _ _ ((78, .int .i64 (k : Nat)) :: (77, .int .i64 (i : Nat)) :: _) _ (lrec Lp r :: blk pf [.func (.func 47) #[.slice At t.length capt] #[]] 81 :: blk p8 (srcsL c A B n m ca cb (.slice A1 (gaL c a).length cap1) (.slice A2 (gaL c b).length cap2)) 75 :: fz p :: fz q :: blk pr [.int .i64 0] 27 :: K)
        repeat' (first | refine d1 ?_ | refine dd ?_ | (show T _ (.ops _ (_ :: _) :: _) _ _ _; refine T_callE rfl rfl rfl rfl rfl (fun w hw => (h2.cls hw).moves c ca cb _ _ hk (hp.own hw) (hq.own hw) i k hin hkm) (fun z _ => ?_)) | (show ∀ _ : Nat, T _ _ _ _ _; intro _) | (show T _ _ _ _ _; refine T_begin hr rfl ?_))
        obtain ⟨Az, capz⟩ := z
        dsimp only
        repeat' (first | refine d1 ?_ | refine dd ?_ | (show ∀ _ : Nat, T _ _ _ _ _; intro _))
        refine T_loopX (fun jj : Nat => [(84, .int .i64 jj)]) (fun _ => row 85 3 Az capz (mvs (grdOf c a b) i k).length ((mvs (grdOf c a b) i k).flatMap Mv.cells) :: lrec Lp (busy r) :: blk pf [.func (.func 47) #[.slice At t.length capt] #[]] 81 :: blk p8 (srcsL c A B n m ca cb (.slice A1 (gaL c a).length cap1) (.slice A2 (gaL c b).length cap2)) 75 :: fz p :: fz q :: blk pr [.int .i64 0] 27 :: K) (fun jj => jj ≤ (mvs (grdOf c a b) i k).length ∧ ∀ j' y, j' < jj → (mvs (grdOf c a b) i k)[j']? = some y → tabF t i k ≤ y.cost + tabF t (i + y.fst) (k + y.snd)) (fun jj => (mvs (grdOf c a b) i k).length - jj) 0 ⟨Nat.zero_le _, fun _ _ h => by omega⟩ ?_
        rintro jj ⟨hjj, hokj⟩
        have hm3 := mvs_len (grdOf c a b) i k
        repeat' (first | refine d1 ?_ | refine dd ?_ | (show ∀ _ : Nat, T _ _ _ _ _; intro _))
        refine T_if rfl (fun h8 => ?_) (fun h8 => ?_)
        · simp only [decide_eq_true_eq] at h8
          have hjl : jj < (mvs (grdOf c a b) i k).length := by omega
          obtain ⟨v, hv⟩ : ∃ v, (mvs (grdOf c a b) i k)[jj]? = some v := ⟨_, List.getElem?_eq_getElem hjl⟩
          refine T_rowpos (A := Az) (by omega) (fun gz e => ?_)
          subst e
          have hb1 := mv_to hG h2.hn h2.hm hin hkm hv
          have hb2 := hrng (i + v.fst) (by omega) (k + v.snd) (by omega)
          unfold big at hb2
          repeat' (first | refine d1 ?_ | refine dd ?_ | (show T _ (.ops _ (_ :: _) :: _) _ _ _; first | refine T_val rfl (Val.loadA (vs := v.cells) rfl (fun _ => rdRow (A := some ⟨gz, 0, none⟩) (by omega) (fun r u hu => by rw [show 0 + (jj : Int).toNat * 3 = jj * 3 by omega]; exact flat_get Mv.cells 3 (fun _ => rfl) hv r u hu)) rfl) rfl rfl rfl ?_ | refine T_valC rfl (Val.loadA (vs := v.cells) rfl (fun _ => rdRow (A := some ⟨gz, 0, none⟩) (by omega) (fun r u hu => by rw [show 0 + (jj : Int).toNat * 3 = jj * 3 by omega]; exact flat_get Mv.cells 3 (fun _ => rfl) hv r u hu)) rfl) rfl rfl rfl rfl rfl ?_ | refine T_op (OpT.storeA rfl rfl rfl rfl rfl rfl (by decide) ?_) | refine T_call rfl rfl rfl rfl rfl (fun w hw => gridAt_tab (n := n) (m := m) (i := i + v.fst) (k := k + v.snd) (hy.old hw) hshp (by omega) (by omega)) ?_ | refine T_callC rfl rfl rfl rfl rfl rfl rfl (fun hg w hw => gridAt_tab (n := n) (m := m) (i := i + v.fst) (k := k + v.snd) (hy.old hw) hshp (by omega) (by omega)) ?_ | refine T_call rfl rfl rfl rfl rfl (fun w hw => gridAt_tab (n := n) (m := m) (i := i) (k := k) (hy.old hw) hshp (by omega) (by omega)) ?_ | refine T_callC rfl rfl rfl rfl rfl rfl rfl (fun hg w hw => gridAt_tab (n := n) (m := m) (i := i) (k := k) (hy.old hw) hshp (by omega) (by omega)) ?_) | (show T _ (.run _ _ (_ :: _) _ _ :: _) _ _ _; first | refine rv rfl rfl rfl (Val.loadA (vs := v.cells) rfl (fun _ => rdRow (A := some ⟨gz, 0, none⟩) (by omega) (fun r u hu => by rw [show 0 + (jj : Int).toNat * 3 = jj * 3 by omega]; exact flat_get Mv.cells 3 (fun _ => rfl) hv r u hu)) rfl) rfl rfl rfl ?_ | refine rg rfl rfl rfl (Val.loadA (vs := v.cells) rfl (fun _ => rdRow (A := some ⟨gz, 0, none⟩) (by omega) (fun r u hu => by rw [show 0 + (jj : Int).toNat * 3 = jj * 3 by omega]; exact flat_get Mv.cells 3 (fun _ => rfl) hv r u hu)) rfl) rfl rfl rfl rfl rfl ?_ | refine rc rfl rfl rfl rfl rfl rfl rfl (fun w hw => gridAt_tab (n := n) (m := m) (i := i + v.fst) (k := k + v.snd) (hy.old hw) hshp (by omega) (by omega)) ?_ | refine rcG rfl rfl rfl rfl rfl rfl rfl rfl rfl (fun hg w hw => gridAt_tab (n := n) (m := m) (i := i + v.fst) (k := k + v.snd) (hy.old hw) hshp (by omega) (by omega)) ?_ | refine rc rfl rfl rfl rfl rfl rfl rfl (fun w hw => gridAt_tab (n := n) (m := m) (i := i) (k := k) (hy.old hw) hshp (by omega) (by omega)) ?_ | refine rcG rfl rfl rfl rfl rfl rfl rfl rfl rfl (fun hg w hw => gridAt_tab (n := n) (m := m) (i := i) (k := k) (hy.old hw) hshp (by omega) (by omega)) ?_) | (show ∀ _ : Nat, T _ _ _ _ _; intro _))
          refine T_if rfl (fun h9 => ?_) (fun h9 => ?_)
          · simp only [decide_eq_true_eq] at h9
            have hnc : ¬ certP (grdOf c a b) (tabF t) s := fun hc => by
              have := hc.2.2 i (by omega) k (by omega) v (List.mem_of_getElem? hv)
              omega
            repeat' (first | refine d1 ?_ | refine dd ?_ | (show ∀ _ : Nat, T _ _ _ _ _; intro _) | (show T _ (.code .ret :: _) _ _ _; refine T_rret _ ⟨rfl, hnc⟩ ((Hle.tail _ _).trans (Hle.tail _ _))))
          · simp only [decide_eq_false_iff_not] at h9
            repeat' (first | refine d1 ?_ | refine dd ?_ | (show ∀ _ : Nat, T _ _ _ _ _; intro _))
            refine T_backX (jj + 1) ⟨by omega, fun j' y hj' hy' => ?_⟩ (by omega) (hG := Hle.tail _ _)
            rcases Nat.lt_or_ge j' jj with h10 | h10
            · exact hokj j' y h10 hy'
            · rw [show j' = jj by omega, hv] at hy'
              cases hy'
              omega
        · simp only [decide_eq_false_iff_not] at h8
          repeat' (first | refine d1 ?_ | refine dd ?_ | (show ∀ _ : Nat, T _ _ _ _ _; intro _))
          refine T_next _ ⟨rfl, fun j' hj' i' k' hp' => ?_⟩ (Hle.tail _ _)
          rcases Nat.lt_or_ge j' j with h10 | h10
          · exact hdone j' h10 i' k' hp'
          · rw [show j' = j by omega, hpl] at hp'
            cases hp'
            intro y hy
            obtain ⟨j9, hj9, e9⟩ := List.getElem_of_mem hy
            exact hokj j9 y (by omega) (by rw [List.getElem?_eq_getElem hj9, e9])
      · rintro D Hn ⟨rfl, hdone⟩
        have hstp : stpsP (grdOf c a b) (tabF t) := fun i hi k hk7 => by
          have hp5 := placesL_get (n := n) (m := m) (p := n - i) (q := m - k) (by omega) (by omega)
          rw [show n - (n - i) = i by omega, show m - (m - k) = k by omega] at hp5
          refine hdone _ ?_ i k hp5
          unfold placeVs
          rw [List.length_map]
          exact (List.getElem?_eq_some_iff.1 hp5).1
        rw [if_pos (show certP (grdOf c a b) (tabF t) s from ⟨by rw [e1, e2]; exact hc1, hrng, hstp⟩)]
        show T _ _ _ _ (dfr D :: blk g _ 75 :: blk pf [.func (.func 47) #[.slice At t.length capt] #[]] 81 :: blk p8 (srcsL c A B n m ca cb (.slice A1 (gaL c a).length cap1) (.slice A2 (gaL c b).length cap2)) 75 :: fz p :: fz q :: blk pr [.int .i64 0] 27 :: [])
        repeat' (first | refine d1 ?_ | refine dd ?_ | (show ∀ _ : Nat, T _ _ _ _ _; intro _) | (show T _ (.code .ret :: _) _ _ _; refine T_retD (Hle.refl _) (rf_M (ds := []) (vs := [.int .i64 0]) [] ⟨⟨pr, _, [.int .i64 0], rfl, rfl, rfl, rfl, (fun _ => rfl), rfl, rdOwn1 rfl⟩, trivial⟩ (Hle.none _) ⟨rfl, rfl⟩)))
      · rintro D Hx ⟨rfl, hnc⟩
        rw [if_neg hnc]
        show T _ _ _ _ (dfr D :: blk g _ 75 :: blk pf [.func (.func 47) #[.slice At t.length capt] #[]] 81 :: blk p8 (srcsL c A B n m ca cb (.slice A1 (gaL c a).length cap1) (.slice A2 (gaL c b).length cap2)) 75 :: fz p :: fz q :: blk pr [.int .i64 18] 27 :: [])
        refine T_retD (Hle.refl _) (rf_M (ds := []) (vs := [.int .i64 18]) [] ⟨⟨pr, _, [.int .i64 18], rfl, rfl, rfl, rfl, (fun _ => rfl), rfl, rdOwn1 rfl⟩, trivial⟩ (Hle.none _) ⟨rfl, rfl⟩)
  · have e : verV c a b cols t = 1 := if_neg hk
    rw [e]
    repeat' (first | refine d1 ?_ | refine dd ?_ | (show T _ (.ops _ (_ :: _) :: _) _ _ _; first | refine T_call rfl rfl rfl rfl rfl (fun w hw => (h2.cls hw).bad c ca cb hk) ?_ | refine T_callC rfl rfl rfl rfl rfl rfl rfl (fun hg w hw => (h2.cls hw).bad c ca cb hk) ?_ | refine T_op (OpT.storeA rfl rfl rfl rfl rfl rfl (by decide) ?_)) | (show T _ (.run _ _ (_ :: _) _ _ :: _) _ _ _; first | refine rc rfl rfl rfl rfl rfl rfl rfl (fun w hw => (h2.cls hw).bad c ca cb hk) ?_ | refine rcG rfl rfl rfl rfl rfl rfl rfl rfl rfl (fun hg w hw => (h2.cls hw).bad c ca cb hk) ?_) | (show ∀ _ : Nat, T _ _ _ _ _; intro _))
    rename_i pr p8
    refine T_if rfl (fun h => ?_) (fun h => ?_)
    · repeat' (first | refine d1 ?_ | refine dd ?_ | (show ∀ _ : Nat, T _ _ _ _ _; intro _) | (show T _ (.code .ret :: _) _ _ _; refine T_retM (vs := [.int .i64 1]) [] ⟨⟨pr, _, [.int .i64 1], rfl, rfl, rfl, rfl, (fun _ => rfl), rfl, rdOwn1 rfl⟩, trivial⟩ (Hle.none _) ⟨rfl, rfl⟩))
    · cases h
end Go.Proofs.YtmcgificpaeipaaGreatDoor
/- Walks: pairs of sources: whether a table proves an alignment (the reference). -/
namespace Go.Proofs.YtmcgificpaeipaaGreatDoor
open Go.RowKit Go.Shelf Go.Proofs
set_option maxRecDepth 100000
set_option maxHeartbeats 1000000

theorem behind18T_spec (c : Costs) (A B : Option Addr) (n m ca cb : Nat) (a b : List Tok) (i k : Nat) (x : Mv) (tb to nt ct rb ro nr cr bx ox cx : Nat) (z : Int) (w : World) (h2 : Two w A B n m a b) (hk : ckV c a b = 0) (hi : i ≤ n) (hkm : k ≤ m)
    (hx : x ∈ mvs (grdOf c a b) i k) (hx0 : RdC w bx ox [.int .i64 (if x.fst = 1 then (i : Int) else -1)]) (hx1 : RdC w bx (ox + 1) [.int .i64 (if x.snd = 1 then (k : Int) else -1)])
    (ht : RdC w tb (to + (i + x.fst)) [.slice (some ⟨rb, ro, none⟩) nr cr]) (hr : RdC w rb (ro + (k + x.snd)) [.int .i64 z]) (hnt : i + x.fst < nt) (hnr : k + x.snd < nr) (hz : 0 ≤ z ∧ z ≤ big) :
    Spec Tryz.prog 53 [c.val, .slice A n ca, .slice B m cb, .slice (some ⟨tb, to, none⟩) nt ct, .int .i64 (i : Nat), .int .i64 (k : Nat), .slice (some ⟨bx, ox, none⟩) 2 cx] w (fun v R => v = .int .i64 (x.cost + z) ∧ R = []) := by
  unfold big at hz
  have hG := grdOf_ok (ckV_ok hk).1 a b
  have hcv := colV_mv hx
  obtain ⟨j, hj, e⟩ := List.getElem_of_mem hx
  have hb := mv_to hG h2.hn h2.hm hi hkm (show (mvs (grdOf c a b) i k)[j]? = some x by rw [List.getElem?_eq_getElem hj, e])
  have hnb := h2.hnb
  have hmb := h2.hmb
  have e1 : (grdOf c a b).n = n := h2.hn
  have e2 : (grdOf c a b).m = m := h2.hm
  have hx0' : RdC w bx (ox + (0 : Int).toNat * 1) [.int .i64 (if x.fst = 1 then (i : Int) else -1)] := hx0
  have hx1' : RdC w bx (ox + (1 : Int).toNat * 1) [.int .i64 (if x.snd = 1 then (k : Int) else -1)] := hx1
  refine spec_of sg Tryz.func53 rfl rfl rfl ?_
  refine T_op (OpT.box (cs := c.cells) rfl rfl rfl rfl rfl rfl rfl (fun pc => ?_))
  rcases mvs_to hx with ⟨f1, f2, f3, f4, f5⟩ | ⟨f1, f2, f3, f5⟩ | ⟨f1, f2, f3, f5⟩
  · rw [f1] at hx0' hcv ht hnt
    rw [f2] at hx1' hcv hr hnr
    rw [if_pos rfl] at hx0'
    rw [if_pos rfl] at hx1'
    rw [if_pos rfl, if_pos rfl] at hcv
    have ht' : RdC w tb (to + ((i : Int) + 1).toNat * 1) [.slice (some ⟨rb, ro, none⟩) nr cr] := by rw [show to + ((i : Int) + 1).toNat * 1 = to + (i + 1) by omega]; exact ht
    have hr' : RdC w rb (ro + ((k : Int) + 1).toNat * 1) [.int .i64 z] := by rw [show ro + ((k : Int) + 1).toNat * 1 = ro + (k + 1) by omega]; exact hr
    repeat' (first | refine d1 ?_ | refine dd ?_ | (show ∀ _ : Nat, T _ _ _ _ _; intro _))
    refine T_if rfl (fun h => ?_) (fun h => by exfalso; simp only [decide_eq_false_iff_not] at h; omega)
    repeat' (first | refine d1 ?_ | refine dd ?_ | (show ∀ _ : Nat, T _ _ _ _ _; intro _))
    refine T_if rfl (fun h => ?_) (fun h => by exfalso; simp only [decide_eq_false_iff_not] at h; omega)
    have hcb : 0 ≤ colV (grdOf c a b) (i : Int) (k : Int) ∧ colV (grdOf c a b) (i : Int) (k : Int) ≤ 1000 := by rw [hcv]; omega
    repeat' (first | refine d1 ?_ | refine dd ?_ | (show T _ (.ops _ (_ :: _) :: _) _ _ _; first | refine T_call rfl rfl rfl rfl rfl (fun w hw => column18_spec c A B n m ca cb a b (i : Int) (k : Int) w (h2.cls hw) hk (by omega) (by omega) (by omega)) ?_ | refine T_callC rfl rfl rfl rfl rfl rfl rfl (fun hg w hw => column18_spec c A B n m ca cb a b (i : Int) (k : Int) w (h2.cls hw) hk (by omega) (by omega) (by omega)) ?_) | (show T _ (.run _ _ (_ :: _) _ _ :: _) _ _ _; first | refine rc rfl rfl rfl rfl rfl rfl rfl (fun w hw => column18_spec c A B n m ca cb a b (i : Int) (k : Int) w (h2.cls hw) hk (by omega) (by omega) (by omega)) ?_ | refine rcG rfl rfl rfl rfl rfl rfl rfl rfl rfl (fun hg w hw => column18_spec c A B n m ca cb a b (i : Int) (k : Int) w (h2.cls hw) hk (by omega) (by omega) (by omega)) ?_) | (show ∀ _ : Nat, T _ _ _ _ _; intro _) | (show T _ (.code .ret :: _) _ _ _; refine T_retV [] rfl (Hle.none _) ⟨by rw [← hcv]; rfl, rfl⟩))
  · rw [f1] at hx0' hcv ht hnt
    rw [f2] at hx1' hcv hr hnr
    rw [if_pos rfl] at hx0'
    rw [if_neg (show ¬ (0 : Nat) = 1 by omega)] at hx1'
    rw [if_pos rfl, if_neg (show ¬ (0 : Nat) = 1 by omega)] at hcv
    have ht' : RdC w tb (to + ((i : Int) + 1).toNat * 1) [.slice (some ⟨rb, ro, none⟩) nr cr] := by rw [show to + ((i : Int) + 1).toNat * 1 = to + (i + 1) by omega]; exact ht
    have hr' : RdC w rb (ro + ((k : Int)).toNat * 1) [.int .i64 z] := by rw [show ro + ((k : Int)).toNat * 1 = ro + (k + 0) by omega]; exact hr
    repeat' (first | refine d1 ?_ | refine dd ?_ | (show ∀ _ : Nat, T _ _ _ _ _; intro _))
    refine T_if rfl (fun h => ?_) (fun h => by exfalso; simp only [decide_eq_false_iff_not] at h; omega)
    repeat' (first | refine d1 ?_ | refine dd ?_ | (show ∀ _ : Nat, T _ _ _ _ _; intro _))
    refine T_if rfl (fun h => by exfalso; simp only [decide_eq_true_eq] at h; omega) (fun h => ?_)
    have hcb : 0 ≤ colV (grdOf c a b) (i : Int) (-1) ∧ colV (grdOf c a b) (i : Int) (-1) ≤ 1000 := by rw [hcv]; omega
    repeat' (first | refine d1 ?_ | refine dd ?_ | (show T _ (.ops _ (_ :: _) :: _) _ _ _; first | refine T_call rfl rfl rfl rfl rfl (fun w hw => column18_spec c A B n m ca cb a b (i : Int) (-1) w (h2.cls hw) hk (by omega) (by omega) (by omega)) ?_ | refine T_callC rfl rfl rfl rfl rfl rfl rfl (fun hg w hw => column18_spec c A B n m ca cb a b (i : Int) (-1) w (h2.cls hw) hk (by omega) (by omega) (by omega)) ?_) | (show T _ (.run _ _ (_ :: _) _ _ :: _) _ _ _; first | refine rc rfl rfl rfl rfl rfl rfl rfl (fun w hw => column18_spec c A B n m ca cb a b (i : Int) (-1) w (h2.cls hw) hk (by omega) (by omega) (by omega)) ?_ | refine rcG rfl rfl rfl rfl rfl rfl rfl rfl rfl (fun hg w hw => column18_spec c A B n m ca cb a b (i : Int) (-1) w (h2.cls hw) hk (by omega) (by omega) (by omega)) ?_) | (show ∀ _ : Nat, T _ _ _ _ _; intro _) | (show T _ (.code .ret :: _) _ _ _; refine T_retV [] rfl (Hle.none _) ⟨by rw [← hcv]; rfl, rfl⟩))
  · rw [f1] at hx0' hcv ht hnt
    rw [f2] at hx1' hcv hr hnr
    rw [if_neg (show ¬ (0 : Nat) = 1 by omega)] at hx0'
    rw [if_pos rfl] at hx1'
    rw [if_neg (show ¬ (0 : Nat) = 1 by omega), if_pos rfl] at hcv
    have ht' : RdC w tb (to + ((i : Int)).toNat * 1) [.slice (some ⟨rb, ro, none⟩) nr cr] := by rw [show to + ((i : Int)).toNat * 1 = to + (i + 0) by omega]; exact ht
    have hr' : RdC w rb (ro + ((k : Int) + 1).toNat * 1) [.int .i64 z] := by rw [show ro + ((k : Int) + 1).toNat * 1 = ro + (k + 1) by omega]; exact hr
    repeat' (first | refine d1 ?_ | refine dd ?_ | (show ∀ _ : Nat, T _ _ _ _ _; intro _))
    refine T_if rfl (fun h => by exfalso; simp only [decide_eq_true_eq] at h; omega) (fun h => ?_)
    repeat' (first | refine d1 ?_ | refine dd ?_ | (show ∀ _ : Nat, T _ _ _ _ _; intro _))
    refine T_if rfl (fun h => ?_) (fun h => by exfalso; simp only [decide_eq_false_iff_not] at h; omega)
    have hcb : 0 ≤ colV (grdOf c a b) (-1) (k : Int) ∧ colV (grdOf c a b) (-1) (k : Int) ≤ 1000 := by rw [hcv]; omega
    repeat' (first | refine d1 ?_ | refine dd ?_ | (show T _ (.ops _ (_ :: _) :: _) _ _ _; first | refine T_call rfl rfl rfl rfl rfl (fun w hw => column18_spec c A B n m ca cb a b (-1) (k : Int) w (h2.cls hw) hk (by omega) (by omega) (by omega)) ?_ | refine T_callC rfl rfl rfl rfl rfl rfl rfl (fun hg w hw => column18_spec c A B n m ca cb a b (-1) (k : Int) w (h2.cls hw) hk (by omega) (by omega) (by omega)) ?_) | (show T _ (.run _ _ (_ :: _) _ _ :: _) _ _ _; first | refine rc rfl rfl rfl rfl rfl rfl rfl (fun w hw => column18_spec c A B n m ca cb a b (-1) (k : Int) w (h2.cls hw) hk (by omega) (by omega) (by omega)) ?_ | refine rcG rfl rfl rfl rfl rfl rfl rfl rfl rfl (fun hg w hw => column18_spec c A B n m ca cb a b (-1) (k : Int) w (h2.cls hw) hk (by omega) (by omega) (by omega)) ?_) | (show ∀ _ : Nat, T _ _ _ _ _; intro _) | (show T _ (.code .ret :: _) _ _ _; refine T_retV [] rfl (Hle.none _) ⟨by rw [← hcv]; rfl, rfl⟩))
theorem verifyRef18_spec (c : Costs) (A B : Option Addr) (n m ca cb : Nat) (a b : List Tok) (z y : Value) (cols t : List (List Int)) (w : World) (h2 : Two w A B n m a b) (hz : Rd (wr w) [z] [rowsD cols]) (hy : Rd (wr w) [y] [rowsD t]) :
    Spec Tryz.prog 36 [c.val, .slice A n ca, .slice B m cb, z, y] w (fun v R => v = .int .i64 (verV c a b cols t) ∧ R = []) := by
  have hnb := h2.hnb
  have hmb := h2.hmb
  have hn := h2.hn
  have hm := h2.hm
  have e1 : (grdOf c a b).n = n := h2.hn
  have e2 : (grdOf c a b).m = m := h2.hm
  refine spec_of sg Tryz.func36 rfl rfl rfl ?_
  refine T_op (OpT.box (cs := c.cells) rfl rfl rfl rfl rfl rfl rfl (fun pc => ?_))
  repeat' (first | refine d1 ?_ | refine dd ?_ | (show T _ (.ops _ (_ :: _) :: _) _ _ _; first | refine T_call rfl rfl rfl rfl rfl (fun w hw => ck18_spec c A B n m ca cb a b w (h2.cls hw)) ?_ | refine T_callC rfl rfl rfl rfl rfl rfl rfl (fun hg w hw => ck18_spec c A B n m ca cb a b w (h2.cls hw)) ?_) | (show T _ (.run _ _ (_ :: _) _ _ :: _) _ _ _; first | refine rc rfl rfl rfl rfl rfl rfl rfl (fun w hw => ck18_spec c A B n m ca cb a b w (h2.cls hw)) ?_ | refine rcG rfl rfl rfl rfl rfl rfl rfl rfl rfl (fun hg w hw => ck18_spec c A B n m ca cb a b w (h2.cls hw)) ?_) | (show ∀ _ : Nat, T _ _ _ _ _; intro _))
  refine T_if rfl (fun h => ?_) (fun hk => ?_)
  · simp only [Bool.not_eq_true', decide_eq_false_iff_not] at h
    have e : verV c a b cols t = 1 := if_neg h
    have e1 := (ckV_01 c a b).resolve_left h
    rw [e, e1]
    repeat' (first | refine d1 ?_ | refine dd ?_ | (show ∀ _ : Nat, T _ _ _ _ _; intro _) | (show T _ (.code .ret :: _) _ _ _; refine T_retV [] rfl (Hle.none _) ⟨rfl, rfl⟩))
  simp only [Bool.not_eq_false', decide_eq_true_eq] at hk
  have hG := grdOf_ok (ckV_ok hk).1 a b
  repeat' (first | refine d1 ?_ | refine dd ?_ | (show T _ (.ops _ (_ :: _) :: _) _ _ _; first | refine T_call rfl rfl rfl rfl rfl (fun w hw => aligned18_spec (grdOf c a b) n m h2.hn h2.hm h2.hnb h2.hmb z cols w (hz.old hw)) ?_ | refine T_callC rfl rfl rfl rfl rfl rfl rfl (fun hg w hw => aligned18_spec (grdOf c a b) n m h2.hn h2.hm h2.hnb h2.hmb z cols w (hz.old hw)) ?_) | (show T _ (.run _ _ (_ :: _) _ _ :: _) _ _ _; first | refine rc rfl rfl rfl rfl rfl rfl rfl (fun w hw => aligned18_spec (grdOf c a b) n m h2.hn h2.hm h2.hnb h2.hmb z cols w (hz.old hw)) ?_ | refine rcG rfl rfl rfl rfl rfl rfl rfl rfl rfl (fun hg w hw => aligned18_spec (grdOf c a b) n m h2.hn h2.hm h2.hnb h2.hmb z cols w (hz.old hw)) ?_) | (show ∀ _ : Nat, T _ _ _ _ _; intro _))
  cases ha : alnd (grdOf c a b) cols 0 0 with
  | none =>
    have e : verV c a b cols t = 19 := by unfold verV; rw [if_pos hk, ha]
    rw [e]
    refine T_if rfl (fun h => ?_) (fun h => ?_)
    · repeat' (first | refine d1 ?_ | refine dd ?_ | (show ∀ _ : Nat, T _ _ _ _ _; intro _) | (show T _ (.code .ret :: _) _ _ _; refine T_retV [] rfl (Hle.none _) ⟨rfl, rfl⟩))
    · cases h
  | some s =>
    refine T_if rfl (fun h => ?_) (fun h => ?_)
    · cases h
    obtain ⟨At, capt, cst, rfl, ht1, ht2, hsrc, hrows⟩ := hy.tabS
    have hbad : ¬ shpP n m t → verV c a b cols t = 9 := fun hns => by unfold verV; rw [if_pos hk, ha, hn, hm]; exact if_neg hns
    repeat' (first | refine d1 ?_ | refine dd ?_ | (show ∀ _ : Nat, T _ _ _ _ _; intro _))
    refine T_if rfl (fun h3 => ?_) (fun h3 => ?_)
    · simp only [Bool.not_eq_true', decide_eq_false_iff_not] at h3
      rw [hbad fun hs => h3 (by rw [hs.1]; rfl)]
      repeat' (first | refine d1 ?_ | refine dd ?_ | (show ∀ _ : Nat, T _ _ _ _ _; intro _) | (show T _ (.code .ret :: _) _ _ _; refine T_retV [] rfl (Hle.none _) ⟨rfl, rfl⟩))
    simp only [Bool.not_eq_false', decide_eq_true_eq] at h3
    have htl : t.length = n + 1 := by omega
    have hrow : ∀ {i : Nat}, i < t.length → ∃ bt ot r A' cap', At = some ⟨bt, ot, none⟩ ∧ t[i]? = some r ∧ RdC w bt (ot + (i : Int).toNat * 1) [.slice A' r.length cap'] ∧ r.length ≤ 9223372036854775807 ∧ (0 < r.length → ∃ b o, A' = some ⟨b, o, none⟩ ∧ ∀ (k : Nat) z, r[k]? = some z → RdC w b (o + (k : Int).toNat * 1) [.int .i64 z]) := fun {i} hi => by
      obtain ⟨bt, ot, hA⟩ := hsrc.base (by omega)
      obtain ⟨A', cap', hc5, hl5, hm5, hA5⟩ := hrows.tabRow (List.getElem?_eq_getElem hi)
      refine ⟨bt, ot, t[i], A', cap', hA, List.getElem?_eq_getElem hi, ?_, by omega, fun h9 => ?_⟩
      · have h9 := (hsrc.get1 (i := i) hi hc5).2
        rw [hA, Nat.mul_one] at h9
        rw [off1]
        exact h9
      · obtain ⟨b5, o5, e5, h10⟩ := hA5 h9
        exact ⟨b5, o5, e5, fun k z hz5 => RdC.one (by rw [off1]; exact h10 k z hz5)⟩
    repeat' (first | refine d1 ?_ | refine dd ?_ | (show ∀ _ : Nat, T _ _ _ _ _; intro _))
    refine T_loopX (fun j : Nat => [(12, .int .i64 j)]) (fun _ => [blk pc c.cells 23]) (fun j => j ≤ t.length ∧ ∀ i r, i < j → t[i]? = some r → r.length = m + 1) (fun j => t.length - j) 0 ⟨Nat.zero_le _, fun i r h => by omega⟩ ?_
    rintro j ⟨hj, hok⟩
    repeat' (first | refine d1 ?_ | refine dd ?_ | (show ∀ _ : Nat, T _ _ _ _ _; intro _))
    refine T_if rfl (fun h4 => ?_) (fun h4 => ?_)
    · simp only [decide_eq_true_eq] at h4
      obtain ⟨bt, ot, r, A', cap', rfl, hr, hr1, hrl, -⟩ := hrow (i := j) (by omega)
      repeat' (first | refine d1 ?_ | refine dd ?_ | (show ∀ _ : Nat, T _ _ _ _ _; intro _))
      refine T_if rfl (fun h5 => ?_) (fun h5 => ?_)
      · simp only [Bool.not_eq_true', decide_eq_false_iff_not] at h5
        rw [hbad fun hs => h5 (by rw [hs.2 r (List.mem_of_getElem? hr)]; rfl)]
        repeat' (first | refine d1 ?_ | refine dd ?_ | (show ∀ _ : Nat, T _ _ _ _ _; intro _) | (show T _ (.code .ret :: _) _ _ _; refine T_retV [] rfl (Hle.none _) ⟨rfl, rfl⟩))
      · simp only [Bool.not_eq_false', decide_eq_true_eq] at h5
        repeat' (first | refine d1 ?_ | refine dd ?_ | (show ∀ _ : Nat, T _ _ _ _ _; intro _))
        refine T_backX (j + 1) ⟨by omega, fun i r' hi hr' => ?_⟩ (by omega)
        rcases Nat.lt_or_ge i j with h6 | h6
        · exact hok i r' h6 hr'
        · rw [show i = j by omega, hr] at hr'
          cases hr'
          omega
    simp only [decide_eq_false_iff_not] at h4
    obtain rfl : j = t.length := by omega
    have hshp : shpP n m t := ⟨htl, fun r hr => by
      obtain ⟨i, hi, e⟩ := List.getElem_of_mem hr
      exact hok i r hi (by rw [List.getElem?_eq_getElem hi, e])⟩
    have e : verV c a b cols t = if certP (grdOf c a b) (tabF t) s then 0 else 18 := by unfold verV; rw [if_pos hk, ha, hn, hm]; exact if_pos hshp
    rw [e]
    have hcell : ∀ {i k : Nat}, i ≤ n → k ≤ m → ∃ bt ot A' cap' b o, At = some ⟨bt, ot, none⟩ ∧ RdC w bt (ot + (i : Int).toNat * 1) [.slice A' (m + 1) cap'] ∧ A' = some ⟨b, o, none⟩ ∧ RdC w b (o + (k : Int).toNat * 1) [.int .i64 (tabF t i k)] := fun {i k} hi hk9 => by
      obtain ⟨bt, ot, r, A', cap', hA, hr, hr1, hrl, hr2⟩ := hrow (i := i) (by omega)
      obtain ⟨r', hr', hrl', hrk⟩ := shp_row hshp hi
      rw [hr] at hr'
      cases hr'
      obtain ⟨b5, o5, hA5, hr3⟩ := hr2 (by omega)
      rw [hrl'] at hr1
      exact ⟨bt, ot, A', cap', b5, o5, hA, hr1, hA5, hr3 k _ (hrk k hk9)⟩
    rw [htl] at ht1 ⊢
    repeat' (first | refine d1 ?_ | refine dd ?_ | (show ∀ _ : Nat, T _ _ _ _ _; intro _))
    refine T_loopX (fun j : Nat => [(13, .int .i64 j)]) (fun _ => [blk pc c.cells 23]) (fun j => j ≤ n + 1 ∧ ∀ i, i < j → ∀ k, k < m + 1 → 0 ≤ tabF t i k ∧ tabF t i k ≤ big) (fun j => n + 1 - j) 0 ⟨Nat.zero_le _, fun i h => by omega⟩ ?_
    rintro j ⟨hj, hok2⟩
    repeat' (first | refine d1 ?_ | refine dd ?_ | (show ∀ _ : Nat, T _ _ _ _ _; intro _))
    refine T_if rfl (fun h5 => ?_) (fun h5 => ?_)
    · simp only [decide_eq_true_eq] at h5
      repeat' (first | refine d1 ?_ | refine dd ?_ | (show ∀ _ : Nat, T _ _ _ _ _; intro _))
      refine T_loopX (fun k : Nat => [(14, .int .i64 k)]) (fun _ => [blk pc c.cells 23]) (fun k => k ≤ m + 1 ∧ ∀ q, q < k → 0 ≤ tabF t j q ∧ tabF t j q ≤ big) (fun k => m + 1 - k) 0 ⟨Nat.zero_le _, fun i h => by omega⟩ ?_
      rintro k ⟨hk8, hokk⟩
      obtain ⟨bt, ot, A', cap', b5, o5, rfl, hr1, rfl, -⟩ := hcell (i := j) (k := 0) (by omega) (Nat.zero_le _)
      repeat' (first | refine d1 ?_ | refine dd ?_ | (show ∀ _ : Nat, T _ _ _ _ _; intro _))
      refine T_if rfl (fun h6 => ?_) (fun h6 => ?_)
      · simp only [decide_eq_true_eq] at h6
        obtain ⟨bt', ot', A2, cap2, b6, o6, hAe, hr3, rfl, hr4⟩ := hcell (i := j) (k := k) (by omega) (by omega)
        cases hAe
        repeat' (first | refine d1 ?_ | refine dd ?_ | (show ∀ _ : Nat, T _ _ _ _ _; intro _))
        refine T_if rfl (fun h7 => ?_) (fun h7 => ?_)
        · have hnc : ¬ certP (grdOf c a b) (tabF t) s := fun hc => by
            have h8 := hc.2.1 j (by omega) k (by omega)
            unfold big at h8
            simp only [Bool.or_eq_true, decide_eq_true_eq] at h7
            omega
          rw [if_neg hnc]
          repeat' (first | refine d1 ?_ | refine dd ?_ | (show ∀ _ : Nat, T _ _ _ _ _; intro _) | (show T _ (.code .ret :: _) _ _ _; refine T_retV [] rfl (Hle.none _) ⟨rfl, rfl⟩))
        · simp only [Bool.or_eq_false_iff, decide_eq_false_iff_not] at h7
          repeat' (first | refine d1 ?_ | refine dd ?_ | (show ∀ _ : Nat, T _ _ _ _ _; intro _))
          refine T_backX (k + 1) ⟨by omega, fun q hq => ?_⟩ (by omega)
          rcases Nat.lt_or_ge q k with h8 | h8
          · exact hokk q h8
          · rw [show q = k by omega]; unfold big; omega
      · simp only [decide_eq_false_iff_not] at h6
        repeat' (first | refine d1 ?_ | refine dd ?_ | (show ∀ _ : Nat, T _ _ _ _ _; intro _))
        refine T_backX (j + 1) ⟨by omega, fun i hi q hq => ?_⟩ (by omega)
        rcases Nat.lt_or_ge i j with h8 | h8
        · exact hok2 i h8 q hq
        · rw [show i = j by omega]; exact hokk q (by omega)
    simp only [decide_eq_false_iff_not] at h5
    have hrng : rngP (grdOf c a b) (tabF t) := fun i hi k hk7 => hok2 i (by omega) k (by omega)
    repeat' (first | refine d1 ?_ | refine dd ?_ | (show ∀ _ : Nat, T _ _ _ _ _; intro _))
    refine T_loopX (fun j : Nat => [(15, .int .i64 j)]) (fun _ => [blk pc c.cells 23]) (fun j => j ≤ n + 1 ∧ ∀ i, i < j → ∀ k, k < m + 1 → stpP (grdOf c a b) (tabF t) i k) (fun j => n + 1 - j) 0 ⟨Nat.zero_le _, fun i h => by omega⟩ ?_
    rintro i ⟨hi, hok3⟩
    repeat' (first | refine d1 ?_ | refine dd ?_ | (show ∀ _ : Nat, T _ _ _ _ _; intro _))
    refine T_if rfl (fun h6 => ?_) (fun h6 => ?_)
    · simp only [decide_eq_true_eq] at h6
      repeat' (first | refine d1 ?_ | refine dd ?_ | (show ∀ _ : Nat, T _ _ _ _ _; intro _))
      refine T_loopX (fun k : Nat => [(16, .int .i64 k)]) (fun _ => [blk pc c.cells 23]) (fun k => k ≤ m + 1 ∧ ∀ q, q < k → stpP (grdOf c a b) (tabF t) i q) (fun k => m + 1 - k) 0 ⟨Nat.zero_le _, fun i h => by omega⟩ ?_
      rintro k ⟨hk8, hokk⟩
      obtain ⟨bt, ot, A', cap', b5, o5, rfl, hr1, rfl, -⟩ := hcell (i := i) (k := 0) (by omega) (Nat.zero_le _)
      repeat' (first | refine d1 ?_ | refine dd ?_ | (show ∀ _ : Nat, T _ _ _ _ _; intro _))
      refine T_if rfl (fun h7 => ?_) (fun h7 => ?_)
      · simp only [decide_eq_true_eq] at h7
        have hin : i ≤ n := by omega
        have hkm : k ≤ m := by omega
        obtain ⟨bt', ot', A2, cap2, b6, o6, hAe, hr3, rfl, hr4⟩ := hcell (i := i) (k := k) hin hkm
        cases hAe
        have hbik := hrng i (by omega) k (by omega)
        repeat' (first | refine d1 ?_ | refine dd ?_ | (show T _ (.ops _ (_ :: _) :: _) _ _ _; refine T_op (OpT.call rfl rfl rfl rfl rfl (fun w hw => moves18_spec c A B n m ca cb a b i k w h2.hn hnb h2.hm hmb hin hkm) ?_)) | (show ∀ _ : Nat, T _ _ _ _ _; intro _))
        rintro v R ⟨x, -, rfl, rfl⟩
        refine T_le (H' := [dat [v] [rowsD (mvR (grdOf c a b) i k)], blk pc c.cells 23]) (Hle.refl _) ?_
        refine T_open fun pm hpm => ?_
        obtain ⟨Am, capm, csm, rfl, -, -, hcsm, hAm, hrm⟩ := hpm.tab
        have hlen : (mvR (grdOf c a b) i k).length = (mvs (grdOf c a b) i k).length := by unfold mvR; rw [List.length_map]
        have hm3 := mvs_len (grdOf c a b) i k
        rw [hlen] at hAm ⊢
        repeat' (first | refine d1 ?_ | refine dd ?_ | (show ∀ _ : Nat, T _ _ _ _ _; intro _))
        refine T_loopX (fun jj : Nat => [(18, .int .i64 jj)]) (fun _ => [fz pm, blk pc c.cells 23]) (fun jj => jj ≤ (mvs (grdOf c a b) i k).length ∧ ∀ j' y, j' < jj → (mvs (grdOf c a b) i k)[j']? = some y → tabF t i k ≤ y.cost + tabF t (i + y.fst) (k + y.snd)) (fun jj => (mvs (grdOf c a b) i k).length - jj) 0 ⟨Nat.zero_le _, fun _ _ h => by omega⟩ ?_
        rintro jj ⟨hjj, hokj⟩
        repeat' (first | refine d1 ?_ | refine dd ?_ | (show ∀ _ : Nat, T _ _ _ _ _; intro _))
        refine T_if rfl (fun h8 => ?_) (fun h8 => ?_)
        · simp only [decide_eq_true_eq] at h8
          have hjl : jj < (mvs (grdOf c a b) i k).length := by omega
          obtain ⟨v, hv⟩ : ∃ v, (mvs (grdOf c a b) i k)[jj]? = some v := ⟨_, List.getElem?_eq_getElem hjl⟩
          have hb1 := mv_to hG h2.hn h2.hm hin hkm hv
          have hmR : (mvR (grdOf c a b) i k)[jj]? = some (mvCol i k v) := by unfold mvR; rw [List.getElem?_map, hv]; rfl
          obtain ⟨bm, om, rfl, hbm⟩ := hAm (by omega)
          obtain ⟨Ar, capr, hcr, -, -, hAr⟩ := hrm.tabRow hmR
          obtain ⟨bx, ox, rfl, hbx⟩ := hAr (show 0 < 2 by omega)
          obtain ⟨bt', ot', A7, cap7, b7, o7, hAe, hr5, rfl, hr6⟩ := hcell (i := i + v.fst) (k := k + v.snd) (by omega) (by omega)
          cases hAe
          have hb2 := hrng (i + v.fst) (by omega) (k + v.snd) (by omega)
          rw [off1] at hr5 hr6
          repeat' (first | refine d1 ?_ | refine dd ?_ | (show T _ (.ops _ (_ :: _) :: _) _ _ _; first | refine T_val rfl (Val.load rfl (fun hg => rdFz (p := pm) (u := .slice (some ⟨bx, ox, none⟩) 2 capr) (b := bm) (by rw [off1]; exact hbm jj _ hcr))) rfl rfl rfl ?_ | refine T_valC rfl (Val.load rfl (fun hg => rdFz (p := pm) (u := .slice (some ⟨bx, ox, none⟩) 2 capr) (b := bm) (by rw [off1]; exact hbm jj _ hcr))) rfl rfl rfl rfl rfl ?_ | refine T_call rfl rfl rfl rfl rfl (fun w hw => behind18T_spec c A B n m ca cb a b i k v bt ot (n + 1) capt b7 o7 (m + 1) cap7 bx ox capr (tabF t (i + v.fst) (k + v.snd)) w (h2.cls hw) hk hin hkm (List.mem_of_getElem? hv) (rdFz (p := pm) (hbx 0 _ rfl) w hw) (rdFz (p := pm) (hbx 1 _ rfl) w hw) (hr5.old hw) (hr6.old hw) (by omega) (by omega) hb2) ?_ | refine T_callC rfl rfl rfl rfl rfl rfl rfl (fun hg w hw => behind18T_spec c A B n m ca cb a b i k v bt ot (n + 1) capt b7 o7 (m + 1) cap7 bx ox capr (tabF t (i + v.fst) (k + v.snd)) w (h2.cls hw) hk hin hkm (List.mem_of_getElem? hv) (rdFz (p := pm) (hbx 0 _ rfl) w hw) (rdFz (p := pm) (hbx 1 _ rfl) w hw) (hr5.old hw) (hr6.old hw) (by omega) (by omega) hb2) ?_) | (show T _ (.run _ _ (_ :: _) _ _ :: _) _ _ _; first | refine rv rfl rfl rfl (Val.load rfl (fun hg => rdFz (p := pm) (u := .slice (some ⟨bx, ox, none⟩) 2 capr) (b := bm) (by rw [off1]; exact hbm jj _ hcr))) rfl rfl rfl ?_ | refine rg rfl rfl rfl (Val.load rfl (fun hg => rdFz (p := pm) (u := .slice (some ⟨bx, ox, none⟩) 2 capr) (b := bm) (by rw [off1]; exact hbm jj _ hcr))) rfl rfl rfl rfl rfl ?_ | refine rc rfl rfl rfl rfl rfl rfl rfl (fun w hw => behind18T_spec c A B n m ca cb a b i k v bt ot (n + 1) capt b7 o7 (m + 1) cap7 bx ox capr (tabF t (i + v.fst) (k + v.snd)) w (h2.cls hw) hk hin hkm (List.mem_of_getElem? hv) (rdFz (p := pm) (hbx 0 _ rfl) w hw) (rdFz (p := pm) (hbx 1 _ rfl) w hw) (hr5.old hw) (hr6.old hw) (by omega) (by omega) hb2) ?_ | refine rcG rfl rfl rfl rfl rfl rfl rfl rfl rfl (fun hg w hw => behind18T_spec c A B n m ca cb a b i k v bt ot (n + 1) capt b7 o7 (m + 1) cap7 bx ox capr (tabF t (i + v.fst) (k + v.snd)) w (h2.cls hw) hk hin hkm (List.mem_of_getElem? hv) (rdFz (p := pm) (hbx 0 _ rfl) w hw) (rdFz (p := pm) (hbx 1 _ rfl) w hw) (hr5.old hw) (hr6.old hw) (by omega) (by omega) hb2) ?_) | (show ∀ _ : Nat, T _ _ _ _ _; intro _))
          refine T_if rfl (fun h9 => ?_) (fun h9 => ?_)
          · simp only [decide_eq_true_eq] at h9
            have hnc : ¬ certP (grdOf c a b) (tabF t) s := fun hc => by
              have := hc.2.2 i (by omega) k (by omega) v (List.mem_of_getElem? hv)
              omega
            rw [if_neg hnc]
            repeat' (first | refine d1 ?_ | refine dd ?_ | (show ∀ _ : Nat, T _ _ _ _ _; intro _) | (show T _ (.code .ret :: _) _ _ _; refine T_retV [] rfl (Hle.none _) ⟨rfl, rfl⟩))
          · simp only [decide_eq_false_iff_not] at h9
            repeat' (first | refine d1 ?_ | refine dd ?_ | (show ∀ _ : Nat, T _ _ _ _ _; intro _))
            refine T_backX (jj + 1) ⟨by omega, fun j' y hj' hy' => ?_⟩ (by omega)
            rcases Nat.lt_or_ge j' jj with h10 | h10
            · exact hokj j' y h10 hy'
            · rw [show j' = jj by omega, hv] at hy'
              cases hy'
              omega
        · simp only [decide_eq_false_iff_not] at h8
          repeat' (first | refine d1 ?_ | refine dd ?_ | (show ∀ _ : Nat, T _ _ _ _ _; intro _))
          refine T_backX (k + 1) ⟨by omega, fun q hq => ?_⟩ (by omega) (hG := Hle.tail _ _)
          rcases Nat.lt_or_ge q k with h10 | h10
          · exact hokk q h10
          · rw [show q = k by omega]
            intro y hy
            obtain ⟨j', hj', e9⟩ := List.getElem_of_mem hy
            exact hokj j' y (by omega) (by rw [List.getElem?_eq_getElem hj', e9])
      · simp only [decide_eq_false_iff_not] at h7
        repeat' (first | refine d1 ?_ | refine dd ?_ | (show ∀ _ : Nat, T _ _ _ _ _; intro _))
        refine T_backX (i + 1) ⟨by omega, fun i' hi' q hq => ?_⟩ (by omega)
        rcases Nat.lt_or_ge i' i with h8 | h8
        · exact hok3 i' h8 q hq
        · rw [show i' = i by omega]; exact hokk q (by omega)
    simp only [decide_eq_false_iff_not] at h6
    have hstp : stpsP (grdOf c a b) (tabF t) := fun i' hi' k hk7 => hok3 i' (by omega) k (by omega)
    obtain ⟨bt, ot, A', cap', b5, o5, rfl, hr1, rfl, hr2⟩ := hcell (i := n) (k := m) (Nat.le_refl _) (Nat.le_refl _)
    obtain ⟨bt', ot', A2, cap2, b6, o6, hAe, hr3, rfl, hr4⟩ := hcell (i := 0) (k := 0) (Nat.zero_le _) (Nat.zero_le _)
    cases hAe
    have hr3' : RdC w bt (ot + (0 : Int).toNat * 1) [.slice (some ⟨b6, o6, none⟩) (m + 1) cap2] := hr3
    have hr4' : RdC w b6 (o6 + (0 : Int).toNat * 1) [.int .i64 (tabF t 0 0)] := hr4
    repeat' (first | refine d1 ?_ | refine dd ?_ | (show T _ (.ops _ (_ :: _) :: _) _ _ _; first | refine T_call rfl rfl rfl rfl rfl (fun w hw => cost18_spec c A B n m ca cb a b z cols s w (h2.cls hw) hk (hz.old hw) ha) ?_ | refine T_callC rfl rfl rfl rfl rfl rfl rfl (fun hg w hw => cost18_spec c A B n m ca cb a b z cols s w (h2.cls hw) hk (hz.old hw) ha) ?_) | (show T _ (.run _ _ (_ :: _) _ _ :: _) _ _ _; first | refine rc rfl rfl rfl rfl rfl rfl rfl (fun w hw => cost18_spec c A B n m ca cb a b z cols s w (h2.cls hw) hk (hz.old hw) ha) ?_ | refine rcG rfl rfl rfl rfl rfl rfl rfl rfl rfl (fun hg w hw => cost18_spec c A B n m ca cb a b z cols s w (h2.cls hw) hk (hz.old hw) ha) ?_) | (show ∀ _ : Nat, T _ _ _ _ _; intro _))
    refine T_if rfl (fun h7 => ?_) (fun h7 => ?_)
    · have hnc : ¬ certP (grdOf c a b) (tabF t) s := fun hc => by
        have h8 := hc.1
        rw [e1, e2] at h8
        rw [h8.1, h8.2] at h7
        simp at h7
      rw [if_neg hnc]
      repeat' (first | refine d1 ?_ | refine dd ?_ | (show ∀ _ : Nat, T _ _ _ _ _; intro _) | (show T _ (.code .ret :: _) _ _ _; refine T_retV [] rfl (Hle.none _) ⟨rfl, rfl⟩))
    · have h8 : tabF t n m = 0 ∧ tabF t 0 0 = s := by simpa using h7
      rw [if_pos (show certP (grdOf c a b) (tabF t) s from ⟨by rw [e1, e2]; exact h8, hrng, hstp⟩)]
      repeat' (first | refine d1 ?_ | refine dd ?_ | (show ∀ _ : Nat, T _ _ _ _ _; intro _) | (show T _ (.code .ret :: _) _ _ _; refine T_retV [] rfl (Hle.none _) ⟨rfl, rfl⟩))
end Go.Proofs.YtmcgificpaeipaaGreatDoor
/- From the statement's own words to the walks: cases of chapter 18. -/
namespace Go.Proofs.YtmcgificpaeipaaGreatDoor
open Go.RowKit Go.Shelf Go.ChangeShapes Go.WideShapes Go.Proofs
set_option maxRecDepth 100000

/-- The cells of a case. -/
@[reducible] def caseL (c : Costs) (A B : Option Addr) (n m ca cb : Nat) (z y : Value) : List Value := [.int .i64 c.gap, .int .i64 c.norm, .int .i64 c.letter, .int .i64 c.most, .slice A n ca, .slice B m cb, z, y]
section
variable {H : Type} {enc : TypeId × Value → H} {W : World} {base b0 : Nat} {sp : Nat → Bool} {held : Bool} {r : Reach} {v : Value} {d : DataW H} {ps : List MemPlace}
theorem arg_case18 (hv : Value.okWide Tryz.prog W r b0 56 v) (h : DataW.Trod enc Tryz.prog W base sp held 56 v d ps) : ∃ (c : Costs) (A B : Option Addr) (ca cb : Nat) (a b : List Tok) (z y : Value) (cols t : List (List Int)), v = .agg (caseL c A B a.length b.length ca cb z y).toArray ∧
    Src W 6 A a.length (a.flatMap Tok.cells) ∧ a.length ≤ 9223372036854775807 ∧ Src W 6 B b.length (b.flatMap Tok.cells) ∧ b.length ≤ 9223372036854775807 ∧ Rd (wr W) [z] [rowsD cols] ∧ Rd (wr W) [y] [rowsD t] := by
  obtain ⟨cs, rfl, _⟩ := okWide_struct Tryz.underlying56 hv
  obtain ⟨fuel, hf⟩ := h
  obtain ⟨ds, h1, h2⟩ := trod_wt (S := sg) 9 rfl hf
  obtain ⟨a0, b0', rfl, h3, a1, b1, rfl, h4, a2, b2, rfl, h5, a3, b3, rfl, h6, a4, b4, rfl, h7, rfl⟩ := (show wtL (wt sg 8) [(23, 0), (24, 4), (24, 5), (30, 6), (30, 7)] ds from h2)
  obtain ⟨c, rfl⟩ := costs_wt (f := 6) h3
  obtain ⟨a, rfl⟩ := toks_wt (f := 4) h4
  obtain ⟨b, rfl⟩ := toks_wt (f := 4) h5
  obtain ⟨cols, rfl⟩ := rows_wt (f := 5) h6
  obtain ⟨t, rfl⟩ := rows_wt (f := 5) h7
  have h1' : Rd (wr W) cs.toList (c.cells.map .v ++ ([toksD a] ++ ([toksD b] ++ ([rowsD cols] ++ ([rowsD t] ++ []))))) := h1
  obtain ⟨ws, us, e, k1, k2⟩ := h1'.split
  have e1 := k1.vals_inv
  have hu := k2.length
  simp only [List.length_append, List.length_cons, List.length_nil] at hu
  obtain ⟨xa, xb, z, y, rfl⟩ : ∃ xa xb z y, us = [xa, xb, z, y] := by
    match us, hu with
    | [p, q, r, s], _ => exact ⟨p, q, r, s, rfl⟩
  obtain ⟨g1, k3⟩ := k2.cons_inv
  obtain ⟨g2, k4⟩ := k3.cons_inv
  obtain ⟨g3, k5⟩ := k4.cons_inv
  obtain ⟨g4, -⟩ := k5.cons_inv
  obtain ⟨A, ca, rfl, la, sa, -, -⟩ := g1.toks
  obtain ⟨B, cb, rfl, lb, sb, -, -⟩ := g2.toks
  refine ⟨c, A, B, ca, cb, a, b, z, y, cols, t, congrArg Value.agg (Array.ext' ?_), sa, la, sb, lb, g3, g4⟩
  rw [e, e1]
  rfl
end
end Go.Proofs.YtmcgificpaeipaaGreatDoor
