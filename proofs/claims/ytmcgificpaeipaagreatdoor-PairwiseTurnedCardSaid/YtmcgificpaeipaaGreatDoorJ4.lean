/- Walks: pairs of sources: the reference: how many optimal alignments there are. -/
import Derived.Test.YtmcgificpaeipaaGreatDoorJ3
set_option linter.unusedVariables false
set_option linter.unusedSimpArgs false
namespace Go.Proofs.YtmcgificpaeipaaGreatDoor
open Go.RowKit Go.Shelf Go.Proofs
set_option maxRecDepth 100000
set_option maxHeartbeats 1000000

/-- What the reference keeps while it goes through the moves. -/
def accN (G : Grd) (i k : Nat) : Nat → Int
  | 0 => if i = G.n ∧ k = G.m then 1 else 0
  | j + 1 => match (mvs G i k)[j]? with
    | some x => addW (rst G i k) (accN G i k j) (via G i k x) (wys G (i + x.fst) (k + x.snd))
    | none => accN G i k j
theorem accN_step {G : Grd} {i k j : Nat} {x : Mv} (h : (mvs G i k)[j]? = some x) : accN G i k (j + 1) = addW (rst G i k) (accN G i k j) (via G i k x) (wys G (i + x.fst) (k + x.snd)) := by
  simp only [accN, h]
theorem accN_bd (G : Grd) (i k : Nat) : ∀ j, 0 ≤ accN G i k j ∧ accN G i k j ≤ big
  | 0 => by unfold accN big; split <;> omega
  | j + 1 => by
    have ih := accN_bd G i k j
    cases h : (mvs G i k)[j]? with
    | none => simp only [accN, h]; exact ih
    | some x =>
      rw [accN_step h]
      have hw := wys_bd G (i + x.fst) (k + x.snd)
      exact addW_bd ih ⟨by omega, hw.2⟩
theorem accN_all (G : Grd) (i k : Nat) (hi : i ≤ G.n) (hk : k ≤ G.m) : accN G i k (mvs G i k).length = wys G i k := by
  by_cases hi2 : i < G.n
  · by_cases hk2 : k < G.m
    · rw [mvs_both hi2 hk2, wys_both hi2 hk2]
      show accN G i k 3 = _
      simp only [accN, mvs_both hi2 hk2, List.getElem?_cons_zero, List.getElem?_cons_succ, via, Nat.add_zero]
      rw [if_neg (by omega)]
    · rw [mvs_fst hi2 hk2, wys_fst hi2 hk2]
      show accN G i k 1 = _
      simp only [accN, mvs_fst hi2 hk2, List.getElem?_cons_zero, via, Nat.add_zero]
      rw [if_neg (by omega)]
  · by_cases hk2 : k < G.m
    · rw [mvs_snd hi2 hk2, wys_snd hi2 hk2]
      show accN G i k 1 = _
      simp only [accN, mvs_snd hi2 hk2, List.getElem?_cons_zero, via, Nat.add_zero]
      rw [if_neg (by omega)]
    · rw [mvs_none hi2 hk2, wys_none hi2 hk2]
      show accN G i k 0 = 1
      exact if_pos ⟨by omega, by omega⟩
/-- The numbers of a table in work. -/
def iniC (G : Grd) (n m j : Nat) (i' k' : Nat) : Int := if i' = n ∧ k' = m then 1 else soFar n m j (wys G) i' k'
def inC (G : Grd) (n m j i k jj : Nat) (i' k' : Nat) : Int := if i' = i ∧ k' = k then accN G i k jj else iniC G n m j i' k'
theorem inC_zero {G : Grd} {n m j i k : Nat} (hn : G.n = n) (hm : G.m = m) (hno : (i, k) ∉ (placesL n m).take j) (i' k' : Nat) : inC G n m j i k 0 i' k' = iniC G n m j i' k' := by
  unfold inC
  split
  · rename_i h; obtain ⟨rfl, rfl⟩ := h
    unfold iniC accN
    rw [hn, hm]
    split
    · rfl
    · unfold soFar; rw [if_neg hno]
  · rfl
theorem inC_all {G : Grd} {n m j i k : Nat} (hn : G.n = n) (hm : G.m = m) (hi : i ≤ n) (hk : k ≤ m) (hp : (placesL n m)[j]? = some (i, k)) (i' k' : Nat) : inC G n m j i k (mvs G i k).length i' k' = iniC G n m (j + 1) i' k' := by
  unfold inC iniC
  rw [accN_all G i k (by omega) (by omega), soFar_step hp]
  by_cases h : i' = i ∧ k' = k
  · rw [if_pos h, if_pos h]
    split
    · rename_i h2; rw [h.1] at h2; rw [h.2] at h2; exact wys_none (by omega) (by omega)
    · rfl
  · rw [if_neg h, if_neg h]
theorem iniC_get {G : Grd} {n m j i k i' k' : Nat} (hn : G.n = n) (hm : G.m = m) (h : (placesL n m)[j]? = some (i, k)) (hi : i' ≤ n) (hk : k' ≤ m) (hlt : i < i' ∨ (i = i' ∧ k < k')) : iniC G n m j i' k' = wys G i' k' := by
  unfold iniC
  split
  · exact (wys_none (by omega) (by omega)).symm
  · exact soFar_get h _ hi hk hlt
theorem countRef18_spec (c : Costs) (A B : Option Addr) (n m ca cb : Nat) (a b : List Tok) (w : World) (h2 : Two w A B n m a b) :
    Spec Tryz.prog 21 [c.val, .slice A n ca, .slice B m cb] w (fun v R => v = .tuple #[.int .i64 (countV c a b).1, .int .i64 (countV c a b).2] ∧ R = []) := by
  refine spec_of sg Tryz.func21 rfl rfl rfl ?_
  refine T_op (OpT.box (cs := c.cells) rfl rfl rfl rfl rfl rfl rfl (fun pc => ?_))
  repeat' (first | refine d1 ?_ | refine dd ?_ | (show T _ (.ops _ (_ :: _) :: _) _ _ _; first | refine T_call rfl rfl rfl rfl rfl (fun w hw => ck18_spec c A B n m ca cb a b w (h2.cls hw)) ?_ | refine T_callC rfl rfl rfl rfl rfl rfl rfl (fun hg w hw => ck18_spec c A B n m ca cb a b w (h2.cls hw)) ?_) | (show T _ (.run _ _ (_ :: _) _ _ :: _) _ _ _; first | refine rc rfl rfl rfl rfl rfl rfl rfl (fun w hw => ck18_spec c A B n m ca cb a b w (h2.cls hw)) ?_ | refine rcG rfl rfl rfl rfl rfl rfl rfl rfl rfl (fun hg w hw => ck18_spec c A B n m ca cb a b w (h2.cls hw)) ?_) | (show ∀ _ : Nat, T _ _ _ _ _; intro _))
  refine T_if rfl (fun h => ?_) (fun hk => ?_)
  · simp only [Bool.not_eq_true', decide_eq_false_iff_not] at h
    have e : countV c a b = (0, 1) := if_neg h
    have e1 := (ckV_01 c a b).resolve_left h
    rw [e, e1]
    repeat' (first | refine d1 ?_ | refine dd ?_ | (show ∀ _ : Nat, T _ _ _ _ _; intro _) | (show T _ (.code .ret :: _) _ _ _; refine T_retV [] rfl (Hle.none _) ⟨rfl, rfl⟩))
  simp only [Bool.not_eq_false', decide_eq_true_eq] at hk
  have e : countV c a b = (wys (grdOf c a b) 0 0, 0) := if_pos hk
  have hG := grdOf_ok (ckV_ok hk).1 a b
  have e1 : (grdOf c a b).n = n := h2.hn
  have e2 : (grdOf c a b).m = m := h2.hm
  have hnb := h2.hnb
  have hmb := h2.hmb
  rw [e]
  repeat' (first | refine d1 ?_ | refine dd ?_ | (show T _ (.ops _ (_ :: _) :: _) _ _ _; refine T_op (OpT.call rfl rfl rfl rfl rfl (fun w hw => table18_spec c A B n m ca cb a b w (h2.cls hw) hk) ?_)) | (show ∀ _ : Nat, T _ _ _ _ _; intro _))
  rintro v R ⟨x, -, rfl, rfl⟩
  refine T_le (H' := [dat [v] [rowsD (tabR n m (rst (grdOf c a b)))], blk pc c.cells 23]) (Hle.refl _) ?_
  refine T_open fun pt hpt => ?_
  obtain ⟨At, capt, cst, rfl, -, -, -, hAt, hrt⟩ := hpt.tab
  rw [tabR_length] at hAt ⊢
  obtain ⟨bt, ot, rfl, hbt⟩ := hAt (by omega)
  repeat' (first | refine d1 ?_ | refine dd ?_ | (show ∀ _ : Nat, T _ _ _ _ _; intro _))
  rename_i b0
  refine T_le (H' := [row 33 1 (some ⟨b0, 0, none⟩) 0 0 [], fz pt, blk pc c.cells 23]) (Hle.weaken (i := 0) rfl (blk_row (sz := 1) (n := 0) rfl (by simp only [maxLen]; omega)) rfl) ?_
  refine T_nilblks 3 ?_
  refine T_loopX (fun s : List (Nat × List Value) × Nat × Nat => [(11, .int .i64 s.1.length), (10, .slice (some ⟨s.2.1, 0, none⟩) s.1.length s.2.2)]) (fun s => [blks 3 s.1, row 33 1 (some ⟨s.2.1, 0, none⟩) s.2.2 s.1.length (s.1.map (slv m)), fz pt, blk pc c.cells 23]) (fun s => s.1.length ≤ n + 1 ∧ RowsOk (fun _ _ => 0) (m + 1) s.1) (fun s => n + 1 - s.1.length) ([], b0, 0) ⟨Nat.zero_le _, fun i x h => by simp at h⟩ ?_
  rintro ⟨L, g, cap⟩ ⟨hL, hR⟩
  dsimp only at hL hR ⊢
  repeat' (first | refine d1 ?_ | refine dd ?_ | (show ∀ _ : Nat, T _ _ _ _ _; intro _))
  refine T_if rfl (fun h => ?_) (fun h => ?_)
  · simp only [decide_eq_true_eq] at h
    repeat' (first | refine d1 ?_ | refine dd ?_ | (show T _ (.ops _ (_ :: _) :: _) _ _ _; first | refine T_op (OpT.make rfl rfl rfl rfl rfl rfl rfl rfl rfl (by dsimp only; omega) (fun b1 => ?_)) | refine T_op (OpT.append rfl rfl rfl rfl rfl rfl rfl rfl rfl rfl (fun w hw => Src.own hw rfl) rfl (by dsimp only; omega) (by omega) (fun A' cap' hA' => ?_))) | (show ∀ _ : Nat, T _ _ _ _ _; intro _))
    obtain ⟨g', rfl⟩ := hA' (by omega)
    refine T_le (H' := [blk b1 (List.replicate (m + 1) (.int .i64 0)) 3, blks 3 L, row 33 1 (some ⟨g', 0, none⟩) cap' (L.length + 1) (L.map (slv m) ++ [.slice (some ⟨b1, 0, none⟩) (m + 1) (m + 1)]), fz pt, blk pc c.cells 23]) (Hle.tail _ _) ?_
    refine T_backX (L ++ [(b1, List.replicate (m + 1) (.int .i64 0))], g', cap') ⟨by dsimp only; rw [List.length_append]; exact Nat.succ_le_of_lt (by omega), rows_snoc0 hR⟩ (by dsimp only; rw [List.length_append]; simp; omega) (hE := ⟨by dsimp only; rw [List.length_append]; rfl, by dsimp only; rw [List.length_append]; rfl, trivial⟩) (hG := ?_)
    dsimp only
    rw [List.length_append, List.map_append]
    exact blks_snoc
  simp only [decide_eq_false_iff_not] at h
  have hLn : L.length = n + 1 := by omega
  rw [hLn]
  obtain ⟨⟨gn, cn⟩, hVn⟩ : ∃ x, L[n]? = some x := ⟨_, List.getElem?_eq_getElem (by omega)⟩
  have hcn : cn = valV (fun _ => 0) (m + 1) := hR _ _ hVn
  have hln : cn.length = m + 1 := by rw [hcn, valV_length]
  have hdn : (L.map (slv m))[n]? = some (.slice (some ⟨gn, 0, none⟩) (m + 1) (m + 1)) := by rw [List.getElem?_map, hVn]; rfl
  repeat' (first | refine d1 ?_ | refine dd ?_ | (show T _ (.ops _ (_ :: _) :: _) _ _ _; first | refine T_val rfl (Val.load rfl (fun hg => rdRow (A := some ⟨g, 0, none⟩) (vs := [.slice (some ⟨gn, 0, none⟩) (m + 1) (m + 1)]) (by omega) (get1 (by rw [show 0 + (n : Int).toNat * 1 = n by omega]; exact hdn)))) rfl rfl rfl ?_ | refine T_valC rfl (Val.load rfl (fun hg => rdRow (A := some ⟨g, 0, none⟩) (vs := [.slice (some ⟨gn, 0, none⟩) (m + 1) (m + 1)]) (by omega) (get1 (by rw [show 0 + (n : Int).toNat * 1 = n by omega]; exact hdn)))) rfl rfl rfl rfl rfl ?_ | refine T_op (OpT.storeM rfl rfl rfl hVn rfl (by rw [hln]; omega) ?_)) | (show T _ (.run _ _ (_ :: _) _ _ :: _) _ _ _; first | refine rv rfl rfl rfl (Val.load rfl (fun hg => rdRow (A := some ⟨g, 0, none⟩) (vs := [.slice (some ⟨gn, 0, none⟩) (m + 1) (m + 1)]) (by omega) (get1 (by rw [show 0 + (n : Int).toNat * 1 = n by omega]; exact hdn)))) rfl rfl rfl ?_ | refine rg rfl rfl rfl (Val.load rfl (fun hg => rdRow (A := some ⟨g, 0, none⟩) (vs := [.slice (some ⟨gn, 0, none⟩) (m + 1) (m + 1)]) (by omega) (get1 (by rw [show 0 + (n : Int).toNat * 1 = n by omega]; exact hdn)))) rfl rfl rfl rfl rfl ?_) | (show ∀ _ : Nat, T _ _ _ _ _; intro _))
  rw [show 0 + (m : Int).toNat * 1 = m by omega]
  have hR0 : RowsOk (iniC (grdOf c a b) n m 0) (m + 1) (L.set n (gn, cn.set m (.int .i64 1))) := rows_put hR hVn fun i' k' => by
    unfold iniC; rw [soFar_zero]
  have hLs : (L.set n (gn, cn.set m (.int .i64 1))).length = n + 1 := by rw [List.length_set]; exact hLn
  refine T_le (H' := [blks 3 (L.set n (gn, cn.set m (.int .i64 1))), row 33 1 (some ⟨g, 0, none⟩) cap (n + 1) ((L.set n (gn, cn.set m (.int .i64 1))).map (slv m)), fz pt, blk pc c.cells 23]) (by rw [slv_set hVn]; exact Hle.refl _) ?_
  generalize L.set n (gn, cn.set m (.int .i64 1)) = L0 at hR0 hLs ⊢
  refine T_loopX (fun s : Nat × List (Nat × List Value) => [(12, .int .i64 ((n : Int) - s.1))]) (fun s => [blks 3 s.2, row 33 1 (some ⟨g, 0, none⟩) cap (n + 1) (s.2.map (slv m)), fz pt, blk pc c.cells 23]) (fun s => s.1 ≤ n + 1 ∧ s.2.length = n + 1 ∧ RowsOk (iniC (grdOf c a b) n m (s.1 * (m + 1))) (m + 1) s.2) (fun s => n + 1 - s.1) (0, L0) ⟨Nat.zero_le _, hLs, by rw [Nat.zero_mul]; exact hR0⟩ ?_ (hE := ⟨by rw [show (n : Int) - ((0 : Nat) : Int) = n by omega]; rfl, trivial⟩)
  rintro ⟨p, M⟩ ⟨hp, hM, hS⟩
  dsimp only at hp hM hS ⊢
  repeat' (first | refine d1 ?_ | refine dd ?_ | (show ∀ _ : Nat, T _ _ _ _ _; intro _))
  refine T_if rfl (fun h3 => ?_) (fun h3 => ?_)
  · simp only [decide_eq_true_eq] at h3
    repeat' (first | refine d1 ?_ | refine dd ?_ | (show ∀ _ : Nat, T _ _ _ _ _; intro _))
    refine T_loopX (fun s : Nat × List (Nat × List Value) => [(13, .int .i64 ((m : Int) - s.1))]) (fun s => [blks 3 s.2, row 33 1 (some ⟨g, 0, none⟩) cap (n + 1) (s.2.map (slv m)), fz pt, blk pc c.cells 23]) (fun s => s.1 ≤ m + 1 ∧ s.2.length = n + 1 ∧ RowsOk (iniC (grdOf c a b) n m (p * (m + 1) + s.1)) (m + 1) s.2) (fun s => m + 1 - s.1) (0, M) ⟨Nat.zero_le _, hM, hS⟩ ?_ (hE := ⟨by rw [show (m : Int) - ((0 : Nat) : Int) = m by omega]; rfl, trivial⟩)
    rintro ⟨q, M2⟩ ⟨hq, hM2, hS2⟩
    dsimp only at hq hM2 hS2 ⊢
    repeat' (first | refine d1 ?_ | refine dd ?_ | (show ∀ _ : Nat, T _ _ _ _ _; intro _))
    refine T_if rfl (fun h4 => ?_) (fun h4 => ?_)
    · simp only [decide_eq_true_eq] at h4
      have hpl := placesL_get (n := n) (m := m) (p := p) (q := q) (by omega) (by omega)
      have hno := place_new (n := n) (m := m) (p := p) (q := q) (by omega) (by omega)
      obtain ⟨i, hi⟩ : ∃ i, i = n - p := ⟨_, rfl⟩
      obtain ⟨k, hkk⟩ : ∃ k, k = m - q := ⟨_, rfl⟩
      rw [show (n : Int) - p = (i : Nat) by omega, show (m : Int) - q = (k : Nat) by omega]
      rw [← hi, ← hkk] at hpl hno
      have hin : i ≤ n := by omega
      have hkm : k ≤ m := by omega
      obtain ⟨Ari, capri, hcsi, -, -, hAri⟩ := hrt.tabRow (tabR_get hin)
      rw [List.length_map, List.length_range] at hcsi hAri
      obtain ⟨bri, ori, rfl, hbri⟩ := hAri (by omega)
      repeat' (first | refine d1 ?_ | refine dd ?_ | (show T _ (.ops _ (_ :: _) :: _) _ _ _; refine T_op (OpT.call rfl rfl rfl rfl rfl (fun w hw => moves18_spec c A B n m ca cb a b i k w h2.hn hnb h2.hm hmb hin hkm) ?_)) | (show ∀ _ : Nat, T _ _ _ _ _; intro _))
      rintro v R ⟨x, -, rfl, rfl⟩
      refine T_le (H' := [dat [v] [rowsD (mvR (grdOf c a b) i k)], blks 3 M2, row 33 1 (some ⟨g, 0, none⟩) cap (n + 1) (M2.map (slv m)), fz pt, blk pc c.cells 23]) (Hle.refl _) ?_
      refine T_open fun pm hpm => ?_
      obtain ⟨Am, capm, csm, rfl, -, -, hcsm, hAm, hrm⟩ := hpm.tab
      have hlen : (mvR (grdOf c a b) i k).length = (mvs (grdOf c a b) i k).length := by unfold mvR; rw [List.length_map]
      have hm3 := mvs_len (grdOf c a b) i k
      rw [hlen] at hAm ⊢
      repeat' (first | refine d1 ?_ | refine dd ?_ | (show ∀ _ : Nat, T _ _ _ _ _; intro _))
      refine T_loopX (fun s : Nat × List (Nat × List Value) => [(15, .int .i64 s.1)]) (fun s => [fz pm, blks 3 s.2, row 33 1 (some ⟨g, 0, none⟩) cap (n + 1) (s.2.map (slv m)), fz pt, blk pc c.cells 23]) (fun s => s.1 ≤ (mvs (grdOf c a b) i k).length ∧ s.2.length = n + 1 ∧ RowsOk (inC (grdOf c a b) n m (p * (m + 1) + q) i k s.1) (m + 1) s.2) (fun s => (mvs (grdOf c a b) i k).length - s.1) (0, M2) ⟨Nat.zero_le _, hM2, hS2.ext hM2 fun i' k' _ _ => (inC_zero e1 e2 hno i' k').symm⟩ ?_
      rintro ⟨jj, M3⟩ ⟨hjj, hM3, hS3⟩
      dsimp only at hjj hM3 hS3 ⊢
      repeat' (first | refine d1 ?_ | refine dd ?_ | (show ∀ _ : Nat, T _ _ _ _ _; intro _))
      refine T_if rfl (fun h5 => ?_) (fun h5 => ?_)
      · simp only [decide_eq_true_eq] at h5
        have hjl : jj < (mvs (grdOf c a b) i k).length := by omega
        obtain ⟨v, hv⟩ : ∃ v, (mvs (grdOf c a b) i k)[jj]? = some v := ⟨_, List.getElem?_eq_getElem hjl⟩
        have hb := mv_to hG h2.hn h2.hm hin hkm hv
        have hmR : (mvR (grdOf c a b) i k)[jj]? = some (mvCol i k v) := by unfold mvR; rw [List.getElem?_map, hv]; rfl
        obtain ⟨bm, om, rfl, hbm⟩ := hAm (by omega)
        obtain ⟨Ar, capr, hcr, -, -, hAr⟩ := hrm.tabRow hmR
        obtain ⟨bx, ox, rfl, hbx⟩ := hAr (show 0 < 2 by omega)
        obtain ⟨Art, caprt, hcrt, -, -, hArt⟩ := hrt.tabRow (tabR_get (show i + v.fst ≤ n by omega))
        rw [List.length_map, List.length_range] at hcrt hArt
        obtain ⟨brt, ort, rfl, hbrt⟩ := hArt (by omega)
        obtain ⟨⟨g1, c1⟩, hV1⟩ : ∃ x, M3[i + v.fst]? = some x := ⟨_, List.getElem?_eq_getElem (by omega)⟩
        obtain ⟨⟨g0, c0⟩, hV0⟩ : ∃ x, M3[i]? = some x := ⟨_, List.getElem?_eq_getElem (by omega)⟩
        have hc1 : c1 = valV (inC (grdOf c a b) n m (p * (m + 1) + q) i k jj (i + v.fst)) (m + 1) := hS3 _ _ hV1
        have hc0 : c0 = valV (inC (grdOf c a b) n m (p * (m + 1) + q) i k jj i) (m + 1) := hS3 _ _ hV0
        have ec1 : inC (grdOf c a b) n m (p * (m + 1) + q) i k jj (i + v.fst) (k + v.snd) = wys (grdOf c a b) (i + v.fst) (k + v.snd) := by
          unfold inC; rw [if_neg (by omega)]; exact iniC_get e1 e2 hpl (by omega) (by omega) (by omega)
        have ec0 : inC (grdOf c a b) n m (p * (m + 1) + q) i k jj i k = accN (grdOf c a b) i k jj := if_pos ⟨rfl, rfl⟩
        have hrb := rst_bd2 hG h2.hn h2.hm hnb hmb (i + v.fst) (k + v.snd)
        have hwb := wys_bd (grdOf c a b) (i + v.fst) (k + v.snd)
        have hab := accN_bd (grdOf c a b) i k jj
        unfold big at hwb hab
        have es := accN_step hv
        have hd : ∀ {r : Nat} {gr : Nat} {cr : List Value}, M3[r]? = some (gr, cr) → (M3.map (slv m))[r]? = some (.slice (some ⟨gr, 0, none⟩) (m + 1) (m + 1)) := fun h => by rw [List.getElem?_map, h]; rfl
        have hl0 : c0.length = m + 1 := by rw [hc0, valV_length]
        repeat' (first | refine d1 ?_ | refine dd ?_ | (show T _ (.ops _ (_ :: _) :: _) _ _ _; first | refine T_val rfl (Val.load rfl (fun hg => rdFz (p := pm) (u := .slice (some ⟨bx, ox, none⟩) 2 capr) (b := bm) (by rw [off1]; exact hbm jj _ hcr))) rfl rfl rfl ?_ | refine T_valC rfl (Val.load rfl (fun hg => rdFz (p := pm) (u := .slice (some ⟨bx, ox, none⟩) 2 capr) (b := bm) (by rw [off1]; exact hbm jj _ hcr))) rfl rfl rfl rfl rfl ?_ | refine T_call rfl rfl rfl rfl rfl (fun w hw => behind18_spec c A B n m ca cb a b i k v bt ot (n + 1) capt brt ort (m + 1) caprt bx ox capr (rst (grdOf c a b) (i + v.fst) (k + v.snd)) w (h2.cls hw) hk hin hkm (List.mem_of_getElem? hv) (rdFz (p := pm) (hbx 0 _ rfl) w hw) (rdFz (p := pm) (hbx 1 _ rfl) w hw) (rdFz (p := pt) (hbt (i + v.fst) _ hcrt) w hw) (rdFz (p := pt) (hbrt (k + v.snd) _ (tabR_cell (by omega))) w hw) (by omega) (by omega) hrb) ?_ | refine T_callC rfl rfl rfl rfl rfl rfl rfl (fun hg w hw => behind18_spec c A B n m ca cb a b i k v bt ot (n + 1) capt brt ort (m + 1) caprt bx ox capr (rst (grdOf c a b) (i + v.fst) (k + v.snd)) w (h2.cls hw) hk hin hkm (List.mem_of_getElem? hv) (rdFz (p := pm) (hbx 0 _ rfl) w hw) (rdFz (p := pm) (hbx 1 _ rfl) w hw) (rdFz (p := pt) (hbt (i + v.fst) _ hcrt) w hw) (rdFz (p := pt) (hbrt (k + v.snd) _ (tabR_cell (by omega))) w hw) (by omega) (by omega) hrb) ?_ | refine T_val rfl (Val.load rfl (fun hg => rdFz (p := pt) (u := .slice (some ⟨bri, ori, none⟩) (m + 1) capri) (b := bt) (by rw [off1]; exact hbt i _ hcsi))) rfl rfl rfl ?_ | refine T_valC rfl (Val.load rfl (fun hg => rdFz (p := pt) (u := .slice (some ⟨bri, ori, none⟩) (m + 1) capri) (b := bt) (by rw [off1]; exact hbt i _ hcsi))) rfl rfl rfl rfl rfl ?_ | refine T_val rfl (Val.load rfl (fun hg => rdFz (p := pt) (u := .int .i64 (rst (grdOf c a b) i k)) (b := bri) (by rw [off1]; exact hbri k _ (tabR_cell hkm)))) rfl rfl rfl ?_ | refine T_valC rfl (Val.load rfl (fun hg => rdFz (p := pt) (u := .int .i64 (rst (grdOf c a b) i k)) (b := bri) (by rw [off1]; exact hbri k _ (tabR_cell hkm)))) rfl rfl rfl rfl rfl ?_) | (show T _ (.run _ _ (_ :: _) _ _ :: _) _ _ _; first | refine rv rfl rfl rfl (Val.load rfl (fun hg => rdFz (p := pm) (u := .slice (some ⟨bx, ox, none⟩) 2 capr) (b := bm) (by rw [off1]; exact hbm jj _ hcr))) rfl rfl rfl ?_ | refine rg rfl rfl rfl (Val.load rfl (fun hg => rdFz (p := pm) (u := .slice (some ⟨bx, ox, none⟩) 2 capr) (b := bm) (by rw [off1]; exact hbm jj _ hcr))) rfl rfl rfl rfl rfl ?_ | refine rc rfl rfl rfl rfl rfl rfl rfl (fun w hw => behind18_spec c A B n m ca cb a b i k v bt ot (n + 1) capt brt ort (m + 1) caprt bx ox capr (rst (grdOf c a b) (i + v.fst) (k + v.snd)) w (h2.cls hw) hk hin hkm (List.mem_of_getElem? hv) (rdFz (p := pm) (hbx 0 _ rfl) w hw) (rdFz (p := pm) (hbx 1 _ rfl) w hw) (rdFz (p := pt) (hbt (i + v.fst) _ hcrt) w hw) (rdFz (p := pt) (hbrt (k + v.snd) _ (tabR_cell (by omega))) w hw) (by omega) (by omega) hrb) ?_ | refine rcG rfl rfl rfl rfl rfl rfl rfl rfl rfl (fun hg w hw => behind18_spec c A B n m ca cb a b i k v bt ot (n + 1) capt brt ort (m + 1) caprt bx ox capr (rst (grdOf c a b) (i + v.fst) (k + v.snd)) w (h2.cls hw) hk hin hkm (List.mem_of_getElem? hv) (rdFz (p := pm) (hbx 0 _ rfl) w hw) (rdFz (p := pm) (hbx 1 _ rfl) w hw) (rdFz (p := pt) (hbt (i + v.fst) _ hcrt) w hw) (rdFz (p := pt) (hbrt (k + v.snd) _ (tabR_cell (by omega))) w hw) (by omega) (by omega) hrb) ?_ | refine rv rfl rfl rfl (Val.load rfl (fun hg => rdFz (p := pt) (u := .slice (some ⟨bri, ori, none⟩) (m + 1) capri) (b := bt) (by rw [off1]; exact hbt i _ hcsi))) rfl rfl rfl ?_ | refine rg rfl rfl rfl (Val.load rfl (fun hg => rdFz (p := pt) (u := .slice (some ⟨bri, ori, none⟩) (m + 1) capri) (b := bt) (by rw [off1]; exact hbt i _ hcsi))) rfl rfl rfl rfl rfl ?_ | refine rv rfl rfl rfl (Val.load rfl (fun hg => rdFz (p := pt) (u := .int .i64 (rst (grdOf c a b) i k)) (b := bri) (by rw [off1]; exact hbri k _ (tabR_cell hkm)))) rfl rfl rfl ?_ | refine rg rfl rfl rfl (Val.load rfl (fun hg => rdFz (p := pt) (u := .int .i64 (rst (grdOf c a b) i k)) (b := bri) (by rw [off1]; exact hbri k _ (tabR_cell hkm)))) rfl rfl rfl rfl rfl ?_) | (show ∀ _ : Nat, T _ _ _ _ _; intro _))
        refine T_if rfl (fun h6 => ?_) (fun h6 => ?_)
        · simp only [Bool.not_eq_true', decide_eq_false_iff_not] at h6
          repeat' (first | refine d1 ?_ | refine dd ?_ | (show ∀ _ : Nat, T _ _ _ _ _; intro _))
          refine T_backX (jj + 1, M3) ⟨Nat.succ_le_of_lt hjl, hM3, hS3.ext hM3 fun i' k' _ _ => ?_⟩ (by dsimp only; omega)
          unfold inC
          rw [es, show addW (rst (grdOf c a b) i k) (accN (grdOf c a b) i k jj) (via (grdOf c a b) i k v) (wys (grdOf c a b) (i + v.fst) (k + v.snd)) = accN (grdOf c a b) i k jj from if_neg h6]
        simp only [Bool.not_eq_false', decide_eq_true_eq] at h6
        have es2 : accN (grdOf c a b) i k (jj + 1) = min 1073741824 (accN (grdOf c a b) i k jj + wys (grdOf c a b) (i + v.fst) (k + v.snd)) := by rw [es]; exact if_pos h6
        have hput : RowsOk (inC (grdOf c a b) n m (p * (m + 1) + q) i k (jj + 1)) (m + 1) (M3.set i (g0, c0.set k (.int .i64 (min 1073741824 (accN (grdOf c a b) i k jj + wys (grdOf c a b) (i + v.fst) (k + v.snd)))))) := rows_put hS3 hV0 fun i' k' => by
          unfold inC
          rw [es2]
          split <;> rfl
        repeat' (first | refine d1 ?_ | refine dd ?_ | (show T _ (.ops _ (_ :: _) :: _) _ _ _; first | refine T_val rfl (Val.load rfl (fun hg => rdFz (p := pm) (u := .slice (some ⟨bx, ox, none⟩) 2 capr) (b := bm) (by rw [off1]; exact hbm jj _ hcr))) rfl rfl rfl ?_ | refine T_valC rfl (Val.load rfl (fun hg => rdFz (p := pm) (u := .slice (some ⟨bx, ox, none⟩) 2 capr) (b := bm) (by rw [off1]; exact hbm jj _ hcr))) rfl rfl rfl rfl rfl ?_ | refine T_val rfl (Val.load rfl (fun hg => rdFz (p := pm) (u := .int .i64 (if v.fst = 1 then (i : Int) else -1)) (b := bx) (hbx 0 _ rfl))) rfl rfl rfl ?_ | refine T_valC rfl (Val.load rfl (fun hg => rdFz (p := pm) (u := .int .i64 (if v.fst = 1 then (i : Int) else -1)) (b := bx) (hbx 0 _ rfl))) rfl rfl rfl rfl rfl ?_) | (show T _ (.run _ _ (_ :: _) _ _ :: _) _ _ _; first | refine rv rfl rfl rfl (Val.load rfl (fun hg => rdFz (p := pm) (u := .slice (some ⟨bx, ox, none⟩) 2 capr) (b := bm) (by rw [off1]; exact hbm jj _ hcr))) rfl rfl rfl ?_ | refine rg rfl rfl rfl (Val.load rfl (fun hg => rdFz (p := pm) (u := .slice (some ⟨bx, ox, none⟩) 2 capr) (b := bm) (by rw [off1]; exact hbm jj _ hcr))) rfl rfl rfl rfl rfl ?_ | refine rv rfl rfl rfl (Val.load rfl (fun hg => rdFz (p := pm) (u := .int .i64 (if v.fst = 1 then (i : Int) else -1)) (b := bx) (hbx 0 _ rfl))) rfl rfl rfl ?_ | refine rg rfl rfl rfl (Val.load rfl (fun hg => rdFz (p := pm) (u := .int .i64 (if v.fst = 1 then (i : Int) else -1)) (b := bx) (hbx 0 _ rfl))) rfl rfl rfl rfl rfl ?_) | (show ∀ _ : Nat, T _ _ _ _ _; intro _))
        rcases mvs_form (List.mem_of_getElem? hv) with ⟨hve, f1, f2⟩ | ⟨hve, f1⟩ | ⟨hve, f1⟩
        · have hv1 : v.fst = 1 := by rw [hve]
          have hv2 : v.snd = 1 := by rw [hve]
          rw [if_pos hv1]
          refine T_if rfl (fun h7 => ?_) (fun h7 => by exfalso; first | (simp at h7; done) | (simp at h7; omega))
          repeat' (first | refine d1 ?_ | refine dd ?_ | (show T _ (.ops _ (_ :: _) :: _) _ _ _; first | refine T_val rfl (Val.load rfl (fun hg => rdFz (p := pm) (u := .slice (some ⟨bx, ox, none⟩) 2 capr) (b := bm) (by rw [off1]; exact hbm jj _ hcr))) rfl rfl rfl ?_ | refine T_valC rfl (Val.load rfl (fun hg => rdFz (p := pm) (u := .slice (some ⟨bx, ox, none⟩) 2 capr) (b := bm) (by rw [off1]; exact hbm jj _ hcr))) rfl rfl rfl rfl rfl ?_ | refine T_val rfl (Val.load rfl (fun hg => rdFz (p := pm) (u := .int .i64 (if v.snd = 1 then (k : Int) else -1)) (b := bx) (hbx 1 _ rfl))) rfl rfl rfl ?_ | refine T_valC rfl (Val.load rfl (fun hg => rdFz (p := pm) (u := .int .i64 (if v.snd = 1 then (k : Int) else -1)) (b := bx) (hbx 1 _ rfl))) rfl rfl rfl rfl rfl ?_) | (show T _ (.run _ _ (_ :: _) _ _ :: _) _ _ _; first | refine rv rfl rfl rfl (Val.load rfl (fun hg => rdFz (p := pm) (u := .slice (some ⟨bx, ox, none⟩) 2 capr) (b := bm) (by rw [off1]; exact hbm jj _ hcr))) rfl rfl rfl ?_ | refine rg rfl rfl rfl (Val.load rfl (fun hg => rdFz (p := pm) (u := .slice (some ⟨bx, ox, none⟩) 2 capr) (b := bm) (by rw [off1]; exact hbm jj _ hcr))) rfl rfl rfl rfl rfl ?_ | refine rv rfl rfl rfl (Val.load rfl (fun hg => rdFz (p := pm) (u := .int .i64 (if v.snd = 1 then (k : Int) else -1)) (b := bx) (hbx 1 _ rfl))) rfl rfl rfl ?_ | refine rg rfl rfl rfl (Val.load rfl (fun hg => rdFz (p := pm) (u := .int .i64 (if v.snd = 1 then (k : Int) else -1)) (b := bx) (hbx 1 _ rfl))) rfl rfl rfl rfl rfl ?_) | (show ∀ _ : Nat, T _ _ _ _ _; intro _))
          rw [if_pos hv2]
          refine T_if rfl (fun h8 => ?_) (fun h8 => by exfalso; first | (simp at h8; done) | (simp at h8; omega))
          repeat' (first | refine d1 ?_ | refine dd ?_ | (show T _ (.ops _ (_ :: _) :: _) _ _ _; first | refine T_val rfl (Val.load rfl (fun hg => rdRow (A := some ⟨g, 0, none⟩) (vs := [.slice (some ⟨g0, 0, none⟩) (m + 1) (m + 1)]) (by omega) (get1 (by rw [show 0 + (i : Int).toNat * 1 = i by omega]; exact hd hV0)))) rfl rfl rfl ?_ | refine T_valC rfl (Val.load rfl (fun hg => rdRow (A := some ⟨g, 0, none⟩) (vs := [.slice (some ⟨g0, 0, none⟩) (m + 1) (m + 1)]) (by omega) (get1 (by rw [show 0 + (i : Int).toNat * 1 = i by omega]; exact hd hV0)))) rfl rfl rfl rfl rfl ?_ | refine T_val rfl (Val.load rfl (fun hg => rdM (l := M3) (k := i) (g := g0) (vs := [.int .i64 (accN (grdOf c a b) i k jj)]) hV0 (get1 (by rw [hc0, ← ec0]; exact vget k (by omega) (by omega))))) rfl rfl rfl ?_ | refine T_valC rfl (Val.load rfl (fun hg => rdM (l := M3) (k := i) (g := g0) (vs := [.int .i64 (accN (grdOf c a b) i k jj)]) hV0 (get1 (by rw [hc0, ← ec0]; exact vget k (by omega) (by omega))))) rfl rfl rfl rfl rfl ?_ | refine T_val rfl (Val.load rfl (fun hg => rdRow (A := some ⟨g, 0, none⟩) (vs := [.slice (some ⟨g1, 0, none⟩) (m + 1) (m + 1)]) (by omega) (get1 (by rw [show 0 + ((i : Int) + 1 : Int).toNat * 1 = i + v.fst by omega]; exact hd hV1)))) rfl rfl rfl ?_ | refine T_valC rfl (Val.load rfl (fun hg => rdRow (A := some ⟨g, 0, none⟩) (vs := [.slice (some ⟨g1, 0, none⟩) (m + 1) (m + 1)]) (by omega) (get1 (by rw [show 0 + ((i : Int) + 1 : Int).toNat * 1 = i + v.fst by omega]; exact hd hV1)))) rfl rfl rfl rfl rfl ?_ | refine T_val rfl (Val.load rfl (fun hg => rdM (l := M3) (k := i + v.fst) (g := g1) (vs := [.int .i64 (wys (grdOf c a b) (i + v.fst) (k + v.snd))]) hV1 (get1 (by rw [hc1, ← ec1]; exact vget (k + v.snd) (by omega) (by omega))))) rfl rfl rfl ?_ | refine T_valC rfl (Val.load rfl (fun hg => rdM (l := M3) (k := i + v.fst) (g := g1) (vs := [.int .i64 (wys (grdOf c a b) (i + v.fst) (k + v.snd))]) hV1 (get1 (by rw [hc1, ← ec1]; exact vget (k + v.snd) (by omega) (by omega))))) rfl rfl rfl rfl rfl ?_) | (show T _ (.run _ _ (_ :: _) _ _ :: _) _ _ _; first | refine rv rfl rfl rfl (Val.load rfl (fun hg => rdRow (A := some ⟨g, 0, none⟩) (vs := [.slice (some ⟨g0, 0, none⟩) (m + 1) (m + 1)]) (by omega) (get1 (by rw [show 0 + (i : Int).toNat * 1 = i by omega]; exact hd hV0)))) rfl rfl rfl ?_ | refine rg rfl rfl rfl (Val.load rfl (fun hg => rdRow (A := some ⟨g, 0, none⟩) (vs := [.slice (some ⟨g0, 0, none⟩) (m + 1) (m + 1)]) (by omega) (get1 (by rw [show 0 + (i : Int).toNat * 1 = i by omega]; exact hd hV0)))) rfl rfl rfl rfl rfl ?_ | refine rv rfl rfl rfl (Val.load rfl (fun hg => rdM (l := M3) (k := i) (g := g0) (vs := [.int .i64 (accN (grdOf c a b) i k jj)]) hV0 (get1 (by rw [hc0, ← ec0]; exact vget k (by omega) (by omega))))) rfl rfl rfl ?_ | refine rg rfl rfl rfl (Val.load rfl (fun hg => rdM (l := M3) (k := i) (g := g0) (vs := [.int .i64 (accN (grdOf c a b) i k jj)]) hV0 (get1 (by rw [hc0, ← ec0]; exact vget k (by omega) (by omega))))) rfl rfl rfl rfl rfl ?_ | refine rv rfl rfl rfl (Val.load rfl (fun hg => rdRow (A := some ⟨g, 0, none⟩) (vs := [.slice (some ⟨g1, 0, none⟩) (m + 1) (m + 1)]) (by omega) (get1 (by rw [show 0 + ((i : Int) + 1 : Int).toNat * 1 = i + v.fst by omega]; exact hd hV1)))) rfl rfl rfl ?_ | refine rg rfl rfl rfl (Val.load rfl (fun hg => rdRow (A := some ⟨g, 0, none⟩) (vs := [.slice (some ⟨g1, 0, none⟩) (m + 1) (m + 1)]) (by omega) (get1 (by rw [show 0 + ((i : Int) + 1 : Int).toNat * 1 = i + v.fst by omega]; exact hd hV1)))) rfl rfl rfl rfl rfl ?_ | refine rv rfl rfl rfl (Val.load rfl (fun hg => rdM (l := M3) (k := i + v.fst) (g := g1) (vs := [.int .i64 (wys (grdOf c a b) (i + v.fst) (k + v.snd))]) hV1 (get1 (by rw [hc1, ← ec1]; exact vget (k + v.snd) (by omega) (by omega))))) rfl rfl rfl ?_ | refine rg rfl rfl rfl (Val.load rfl (fun hg => rdM (l := M3) (k := i + v.fst) (g := g1) (vs := [.int .i64 (wys (grdOf c a b) (i + v.fst) (k + v.snd))]) hV1 (get1 (by rw [hc1, ← ec1]; exact vget (k + v.snd) (by omega) (by omega))))) rfl rfl rfl rfl rfl ?_ | refine ro rfl rfl (OpT.storeM rfl rfl rfl hV0 rfl (by rw [hl0]; omega) ⟨fun hlv => absurd hlv (by decide +kernel), ?_⟩)) | (show ∀ _ : Nat, T _ _ _ _ _; intro _))
          show T _ (.mark _ :: _) _ _ _
          refine T_backX (jj + 1, M3.set i (g0, c0.set k (.int .i64 (min 1073741824 (accN (grdOf c a b) i k jj + wys (grdOf c a b) (i + v.fst) (k + v.snd)))))) ⟨Nat.succ_le_of_lt hjl, by dsimp only; rw [List.length_set]; exact hM3, hput⟩ (by dsimp only; omega) (hG := ?_)
          dsimp only
          rw [slv_set hV0, show 0 + (k : Int).toNat * 1 = k by omega]
          exact Hle.refl _
        · have hv1 : v.fst = 1 := by rw [hve]
          have hv2 : v.snd = 0 := by rw [hve]
          rw [if_pos hv1]
          refine T_if rfl (fun h7 => ?_) (fun h7 => by exfalso; first | (simp at h7; done) | (simp at h7; omega))
          repeat' (first | refine d1 ?_ | refine dd ?_ | (show T _ (.ops _ (_ :: _) :: _) _ _ _; first | refine T_val rfl (Val.load rfl (fun hg => rdFz (p := pm) (u := .slice (some ⟨bx, ox, none⟩) 2 capr) (b := bm) (by rw [off1]; exact hbm jj _ hcr))) rfl rfl rfl ?_ | refine T_valC rfl (Val.load rfl (fun hg => rdFz (p := pm) (u := .slice (some ⟨bx, ox, none⟩) 2 capr) (b := bm) (by rw [off1]; exact hbm jj _ hcr))) rfl rfl rfl rfl rfl ?_ | refine T_val rfl (Val.load rfl (fun hg => rdFz (p := pm) (u := .int .i64 (if v.snd = 1 then (k : Int) else -1)) (b := bx) (hbx 1 _ rfl))) rfl rfl rfl ?_ | refine T_valC rfl (Val.load rfl (fun hg => rdFz (p := pm) (u := .int .i64 (if v.snd = 1 then (k : Int) else -1)) (b := bx) (hbx 1 _ rfl))) rfl rfl rfl rfl rfl ?_) | (show T _ (.run _ _ (_ :: _) _ _ :: _) _ _ _; first | refine rv rfl rfl rfl (Val.load rfl (fun hg => rdFz (p := pm) (u := .slice (some ⟨bx, ox, none⟩) 2 capr) (b := bm) (by rw [off1]; exact hbm jj _ hcr))) rfl rfl rfl ?_ | refine rg rfl rfl rfl (Val.load rfl (fun hg => rdFz (p := pm) (u := .slice (some ⟨bx, ox, none⟩) 2 capr) (b := bm) (by rw [off1]; exact hbm jj _ hcr))) rfl rfl rfl rfl rfl ?_ | refine rv rfl rfl rfl (Val.load rfl (fun hg => rdFz (p := pm) (u := .int .i64 (if v.snd = 1 then (k : Int) else -1)) (b := bx) (hbx 1 _ rfl))) rfl rfl rfl ?_ | refine rg rfl rfl rfl (Val.load rfl (fun hg => rdFz (p := pm) (u := .int .i64 (if v.snd = 1 then (k : Int) else -1)) (b := bx) (hbx 1 _ rfl))) rfl rfl rfl rfl rfl ?_) | (show ∀ _ : Nat, T _ _ _ _ _; intro _))
          rw [if_neg (show ¬ v.snd = 1 by omega)]
          refine T_if rfl (fun h8 => by exfalso; simp at h8) (fun h8 => ?_)
          repeat' (first | refine d1 ?_ | refine dd ?_ | (show T _ (.ops _ (_ :: _) :: _) _ _ _; first | refine T_val rfl (Val.load rfl (fun hg => rdRow (A := some ⟨g, 0, none⟩) (vs := [.slice (some ⟨g0, 0, none⟩) (m + 1) (m + 1)]) (by omega) (get1 (by rw [show 0 + (i : Int).toNat * 1 = i by omega]; exact hd hV0)))) rfl rfl rfl ?_ | refine T_valC rfl (Val.load rfl (fun hg => rdRow (A := some ⟨g, 0, none⟩) (vs := [.slice (some ⟨g0, 0, none⟩) (m + 1) (m + 1)]) (by omega) (get1 (by rw [show 0 + (i : Int).toNat * 1 = i by omega]; exact hd hV0)))) rfl rfl rfl rfl rfl ?_ | refine T_val rfl (Val.load rfl (fun hg => rdM (l := M3) (k := i) (g := g0) (vs := [.int .i64 (accN (grdOf c a b) i k jj)]) hV0 (get1 (by rw [hc0, ← ec0]; exact vget k (by omega) (by omega))))) rfl rfl rfl ?_ | refine T_valC rfl (Val.load rfl (fun hg => rdM (l := M3) (k := i) (g := g0) (vs := [.int .i64 (accN (grdOf c a b) i k jj)]) hV0 (get1 (by rw [hc0, ← ec0]; exact vget k (by omega) (by omega))))) rfl rfl rfl rfl rfl ?_ | refine T_val rfl (Val.load rfl (fun hg => rdRow (A := some ⟨g, 0, none⟩) (vs := [.slice (some ⟨g1, 0, none⟩) (m + 1) (m + 1)]) (by omega) (get1 (by rw [show 0 + ((i : Int) + 1 : Int).toNat * 1 = i + v.fst by omega]; exact hd hV1)))) rfl rfl rfl ?_ | refine T_valC rfl (Val.load rfl (fun hg => rdRow (A := some ⟨g, 0, none⟩) (vs := [.slice (some ⟨g1, 0, none⟩) (m + 1) (m + 1)]) (by omega) (get1 (by rw [show 0 + ((i : Int) + 1 : Int).toNat * 1 = i + v.fst by omega]; exact hd hV1)))) rfl rfl rfl rfl rfl ?_ | refine T_val rfl (Val.load rfl (fun hg => rdM (l := M3) (k := i + v.fst) (g := g1) (vs := [.int .i64 (wys (grdOf c a b) (i + v.fst) (k + v.snd))]) hV1 (get1 (by rw [hc1, ← ec1]; exact vget (k + v.snd) (by omega) (by omega))))) rfl rfl rfl ?_ | refine T_valC rfl (Val.load rfl (fun hg => rdM (l := M3) (k := i + v.fst) (g := g1) (vs := [.int .i64 (wys (grdOf c a b) (i + v.fst) (k + v.snd))]) hV1 (get1 (by rw [hc1, ← ec1]; exact vget (k + v.snd) (by omega) (by omega))))) rfl rfl rfl rfl rfl ?_) | (show T _ (.run _ _ (_ :: _) _ _ :: _) _ _ _; first | refine rv rfl rfl rfl (Val.load rfl (fun hg => rdRow (A := some ⟨g, 0, none⟩) (vs := [.slice (some ⟨g0, 0, none⟩) (m + 1) (m + 1)]) (by omega) (get1 (by rw [show 0 + (i : Int).toNat * 1 = i by omega]; exact hd hV0)))) rfl rfl rfl ?_ | refine rg rfl rfl rfl (Val.load rfl (fun hg => rdRow (A := some ⟨g, 0, none⟩) (vs := [.slice (some ⟨g0, 0, none⟩) (m + 1) (m + 1)]) (by omega) (get1 (by rw [show 0 + (i : Int).toNat * 1 = i by omega]; exact hd hV0)))) rfl rfl rfl rfl rfl ?_ | refine rv rfl rfl rfl (Val.load rfl (fun hg => rdM (l := M3) (k := i) (g := g0) (vs := [.int .i64 (accN (grdOf c a b) i k jj)]) hV0 (get1 (by rw [hc0, ← ec0]; exact vget k (by omega) (by omega))))) rfl rfl rfl ?_ | refine rg rfl rfl rfl (Val.load rfl (fun hg => rdM (l := M3) (k := i) (g := g0) (vs := [.int .i64 (accN (grdOf c a b) i k jj)]) hV0 (get1 (by rw [hc0, ← ec0]; exact vget k (by omega) (by omega))))) rfl rfl rfl rfl rfl ?_ | refine rv rfl rfl rfl (Val.load rfl (fun hg => rdRow (A := some ⟨g, 0, none⟩) (vs := [.slice (some ⟨g1, 0, none⟩) (m + 1) (m + 1)]) (by omega) (get1 (by rw [show 0 + ((i : Int) + 1 : Int).toNat * 1 = i + v.fst by omega]; exact hd hV1)))) rfl rfl rfl ?_ | refine rg rfl rfl rfl (Val.load rfl (fun hg => rdRow (A := some ⟨g, 0, none⟩) (vs := [.slice (some ⟨g1, 0, none⟩) (m + 1) (m + 1)]) (by omega) (get1 (by rw [show 0 + ((i : Int) + 1 : Int).toNat * 1 = i + v.fst by omega]; exact hd hV1)))) rfl rfl rfl rfl rfl ?_ | refine rv rfl rfl rfl (Val.load rfl (fun hg => rdM (l := M3) (k := i + v.fst) (g := g1) (vs := [.int .i64 (wys (grdOf c a b) (i + v.fst) (k + v.snd))]) hV1 (get1 (by rw [hc1, ← ec1]; exact vget (k + v.snd) (by omega) (by omega))))) rfl rfl rfl ?_ | refine rg rfl rfl rfl (Val.load rfl (fun hg => rdM (l := M3) (k := i + v.fst) (g := g1) (vs := [.int .i64 (wys (grdOf c a b) (i + v.fst) (k + v.snd))]) hV1 (get1 (by rw [hc1, ← ec1]; exact vget (k + v.snd) (by omega) (by omega))))) rfl rfl rfl rfl rfl ?_ | refine ro rfl rfl (OpT.storeM rfl rfl rfl hV0 rfl (by rw [hl0]; omega) ⟨fun hlv => absurd hlv (by decide +kernel), ?_⟩)) | (show ∀ _ : Nat, T _ _ _ _ _; intro _))
          show T _ (.mark _ :: _) _ _ _
          refine T_backX (jj + 1, M3.set i (g0, c0.set k (.int .i64 (min 1073741824 (accN (grdOf c a b) i k jj + wys (grdOf c a b) (i + v.fst) (k + v.snd)))))) ⟨Nat.succ_le_of_lt hjl, by dsimp only; rw [List.length_set]; exact hM3, hput⟩ (by dsimp only; omega) (hG := ?_)
          dsimp only
          rw [slv_set hV0, show 0 + (k : Int).toNat * 1 = k by omega]
          exact Hle.refl _
        · have hv1 : v.fst = 0 := by rw [hve]
          have hv2 : v.snd = 1 := by rw [hve]
          have ec2 : inC (grdOf c a b) n m (p * (m + 1) + q) i k jj i (k + v.snd) = wys (grdOf c a b) (i + v.fst) (k + v.snd) := by
            rw [← ec1, hv1]; rfl
          rw [if_neg (show ¬ v.fst = 1 by omega)]
          refine T_if rfl (fun h7 => by exfalso; simp at h7) (fun h7 => ?_)
          repeat' (first | refine d1 ?_ | refine dd ?_ | (show T _ (.ops _ (_ :: _) :: _) _ _ _; first | refine T_val rfl (Val.load rfl (fun hg => rdFz (p := pm) (u := .slice (some ⟨bx, ox, none⟩) 2 capr) (b := bm) (by rw [off1]; exact hbm jj _ hcr))) rfl rfl rfl ?_ | refine T_valC rfl (Val.load rfl (fun hg => rdFz (p := pm) (u := .slice (some ⟨bx, ox, none⟩) 2 capr) (b := bm) (by rw [off1]; exact hbm jj _ hcr))) rfl rfl rfl rfl rfl ?_ | refine T_val rfl (Val.load rfl (fun hg => rdFz (p := pm) (u := .int .i64 (if v.snd = 1 then (k : Int) else -1)) (b := bx) (hbx 1 _ rfl))) rfl rfl rfl ?_ | refine T_valC rfl (Val.load rfl (fun hg => rdFz (p := pm) (u := .int .i64 (if v.snd = 1 then (k : Int) else -1)) (b := bx) (hbx 1 _ rfl))) rfl rfl rfl rfl rfl ?_) | (show T _ (.run _ _ (_ :: _) _ _ :: _) _ _ _; first | refine rv rfl rfl rfl (Val.load rfl (fun hg => rdFz (p := pm) (u := .slice (some ⟨bx, ox, none⟩) 2 capr) (b := bm) (by rw [off1]; exact hbm jj _ hcr))) rfl rfl rfl ?_ | refine rg rfl rfl rfl (Val.load rfl (fun hg => rdFz (p := pm) (u := .slice (some ⟨bx, ox, none⟩) 2 capr) (b := bm) (by rw [off1]; exact hbm jj _ hcr))) rfl rfl rfl rfl rfl ?_ | refine rv rfl rfl rfl (Val.load rfl (fun hg => rdFz (p := pm) (u := .int .i64 (if v.snd = 1 then (k : Int) else -1)) (b := bx) (hbx 1 _ rfl))) rfl rfl rfl ?_ | refine rg rfl rfl rfl (Val.load rfl (fun hg => rdFz (p := pm) (u := .int .i64 (if v.snd = 1 then (k : Int) else -1)) (b := bx) (hbx 1 _ rfl))) rfl rfl rfl rfl rfl ?_) | (show ∀ _ : Nat, T _ _ _ _ _; intro _))
          rw [if_pos hv2]
          refine T_if rfl (fun h8 => ?_) (fun h8 => by exfalso; first | (simp at h8; done) | (simp at h8; omega))
          repeat' (first | refine d1 ?_ | refine dd ?_ | (show T _ (.ops _ (_ :: _) :: _) _ _ _; first | refine T_val rfl (Val.load rfl (fun hg => rdRow (A := some ⟨g, 0, none⟩) (vs := [.slice (some ⟨g0, 0, none⟩) (m + 1) (m + 1)]) (by omega) (get1 (by rw [show 0 + (i : Int).toNat * 1 = i by omega]; exact hd hV0)))) rfl rfl rfl ?_ | refine T_valC rfl (Val.load rfl (fun hg => rdRow (A := some ⟨g, 0, none⟩) (vs := [.slice (some ⟨g0, 0, none⟩) (m + 1) (m + 1)]) (by omega) (get1 (by rw [show 0 + (i : Int).toNat * 1 = i by omega]; exact hd hV0)))) rfl rfl rfl rfl rfl ?_ | refine T_val rfl (Val.load rfl (fun hg => rdM (l := M3) (k := i) (g := g0) (vs := [.int .i64 (accN (grdOf c a b) i k jj)]) hV0 (get1 (by rw [hc0, ← ec0]; exact vget k (by omega) (by omega))))) rfl rfl rfl ?_ | refine T_valC rfl (Val.load rfl (fun hg => rdM (l := M3) (k := i) (g := g0) (vs := [.int .i64 (accN (grdOf c a b) i k jj)]) hV0 (get1 (by rw [hc0, ← ec0]; exact vget k (by omega) (by omega))))) rfl rfl rfl rfl rfl ?_ | refine T_val rfl (Val.load rfl (fun hg => rdRow (A := some ⟨g, 0, none⟩) (vs := [.slice (some ⟨g1, 0, none⟩) (m + 1) (m + 1)]) (by omega) (get1 (by rw [show 0 + ((i : Int) : Int).toNat * 1 = i + v.fst by omega]; exact hd hV1)))) rfl rfl rfl ?_ | refine T_valC rfl (Val.load rfl (fun hg => rdRow (A := some ⟨g, 0, none⟩) (vs := [.slice (some ⟨g1, 0, none⟩) (m + 1) (m + 1)]) (by omega) (get1 (by rw [show 0 + ((i : Int) : Int).toNat * 1 = i + v.fst by omega]; exact hd hV1)))) rfl rfl rfl rfl rfl ?_ | refine T_val rfl (Val.load rfl (fun hg => rdM (l := M3) (k := i + v.fst) (g := g1) (vs := [.int .i64 (wys (grdOf c a b) (i + v.fst) (k + v.snd))]) hV1 (get1 (by rw [hc1, ← ec1]; exact vget (k + v.snd) (by omega) (by omega))))) rfl rfl rfl ?_ | refine T_valC rfl (Val.load rfl (fun hg => rdM (l := M3) (k := i + v.fst) (g := g1) (vs := [.int .i64 (wys (grdOf c a b) (i + v.fst) (k + v.snd))]) hV1 (get1 (by rw [hc1, ← ec1]; exact vget (k + v.snd) (by omega) (by omega))))) rfl rfl rfl rfl rfl ?_ | refine T_val rfl (Val.load rfl (fun hg => rdM (l := M3) (k := i) (g := g0) (vs := [.int .i64 (wys (grdOf c a b) (i + v.fst) (k + v.snd))]) hV0 (get1 (by rw [hc0, ← ec2]; exact vget (k + v.snd) (by omega) (by omega))))) rfl rfl rfl ?_ | refine T_valC rfl (Val.load rfl (fun hg => rdM (l := M3) (k := i) (g := g0) (vs := [.int .i64 (wys (grdOf c a b) (i + v.fst) (k + v.snd))]) hV0 (get1 (by rw [hc0, ← ec2]; exact vget (k + v.snd) (by omega) (by omega))))) rfl rfl rfl rfl rfl ?_) | (show T _ (.run _ _ (_ :: _) _ _ :: _) _ _ _; first | refine rv rfl rfl rfl (Val.load rfl (fun hg => rdRow (A := some ⟨g, 0, none⟩) (vs := [.slice (some ⟨g0, 0, none⟩) (m + 1) (m + 1)]) (by omega) (get1 (by rw [show 0 + (i : Int).toNat * 1 = i by omega]; exact hd hV0)))) rfl rfl rfl ?_ | refine rg rfl rfl rfl (Val.load rfl (fun hg => rdRow (A := some ⟨g, 0, none⟩) (vs := [.slice (some ⟨g0, 0, none⟩) (m + 1) (m + 1)]) (by omega) (get1 (by rw [show 0 + (i : Int).toNat * 1 = i by omega]; exact hd hV0)))) rfl rfl rfl rfl rfl ?_ | refine rv rfl rfl rfl (Val.load rfl (fun hg => rdM (l := M3) (k := i) (g := g0) (vs := [.int .i64 (accN (grdOf c a b) i k jj)]) hV0 (get1 (by rw [hc0, ← ec0]; exact vget k (by omega) (by omega))))) rfl rfl rfl ?_ | refine rg rfl rfl rfl (Val.load rfl (fun hg => rdM (l := M3) (k := i) (g := g0) (vs := [.int .i64 (accN (grdOf c a b) i k jj)]) hV0 (get1 (by rw [hc0, ← ec0]; exact vget k (by omega) (by omega))))) rfl rfl rfl rfl rfl ?_ | refine rv rfl rfl rfl (Val.load rfl (fun hg => rdRow (A := some ⟨g, 0, none⟩) (vs := [.slice (some ⟨g1, 0, none⟩) (m + 1) (m + 1)]) (by omega) (get1 (by rw [show 0 + ((i : Int) : Int).toNat * 1 = i + v.fst by omega]; exact hd hV1)))) rfl rfl rfl ?_ | refine rg rfl rfl rfl (Val.load rfl (fun hg => rdRow (A := some ⟨g, 0, none⟩) (vs := [.slice (some ⟨g1, 0, none⟩) (m + 1) (m + 1)]) (by omega) (get1 (by rw [show 0 + ((i : Int) : Int).toNat * 1 = i + v.fst by omega]; exact hd hV1)))) rfl rfl rfl rfl rfl ?_ | refine rv rfl rfl rfl (Val.load rfl (fun hg => rdM (l := M3) (k := i + v.fst) (g := g1) (vs := [.int .i64 (wys (grdOf c a b) (i + v.fst) (k + v.snd))]) hV1 (get1 (by rw [hc1, ← ec1]; exact vget (k + v.snd) (by omega) (by omega))))) rfl rfl rfl ?_ | refine rg rfl rfl rfl (Val.load rfl (fun hg => rdM (l := M3) (k := i + v.fst) (g := g1) (vs := [.int .i64 (wys (grdOf c a b) (i + v.fst) (k + v.snd))]) hV1 (get1 (by rw [hc1, ← ec1]; exact vget (k + v.snd) (by omega) (by omega))))) rfl rfl rfl rfl rfl ?_ | refine rv rfl rfl rfl (Val.load rfl (fun hg => rdM (l := M3) (k := i) (g := g0) (vs := [.int .i64 (wys (grdOf c a b) (i + v.fst) (k + v.snd))]) hV0 (get1 (by rw [hc0, ← ec2]; exact vget (k + v.snd) (by omega) (by omega))))) rfl rfl rfl ?_ | refine rg rfl rfl rfl (Val.load rfl (fun hg => rdM (l := M3) (k := i) (g := g0) (vs := [.int .i64 (wys (grdOf c a b) (i + v.fst) (k + v.snd))]) hV0 (get1 (by rw [hc0, ← ec2]; exact vget (k + v.snd) (by omega) (by omega))))) rfl rfl rfl rfl rfl ?_ | refine ro rfl rfl (OpT.storeM rfl rfl rfl hV0 rfl (by rw [hl0]; omega) ⟨fun hlv => absurd hlv (by decide +kernel), ?_⟩)) | (show ∀ _ : Nat, T _ _ _ _ _; intro _))
          show T _ (.mark _ :: _) _ _ _
          refine T_backX (jj + 1, M3.set i (g0, c0.set k (.int .i64 (min 1073741824 (accN (grdOf c a b) i k jj + wys (grdOf c a b) (i + v.fst) (k + v.snd)))))) ⟨Nat.succ_le_of_lt hjl, by dsimp only; rw [List.length_set]; exact hM3, hput⟩ (by dsimp only; omega) (hG := ?_)
          dsimp only
          rw [slv_set hV0, show 0 + (k : Int).toNat * 1 = k by omega]
          exact Hle.refl _
      · simp only [decide_eq_false_iff_not] at h5
        obtain rfl : jj = (mvs (grdOf c a b) i k).length := by omega
        repeat' (first | refine d1 ?_ | refine dd ?_ | (show ∀ _ : Nat, T _ _ _ _ _; intro _))
        refine T_backX (q + 1, M3) ⟨by dsimp only; omega, hM3, hS3.ext hM3 fun i' k' _ _ => inC_all e1 e2 hin hkm hpl i' k'⟩ (by dsimp only; omega) (hE := ⟨by dsimp only; rw [show (m : Int) - ((q + 1 : Nat) : Int) = (k : Int) - 1 by omega]; rfl, trivial⟩) (hG := Hle.tail _ _)
    · simp only [decide_eq_false_iff_not] at h4
      obtain rfl : q = m + 1 := by omega
      repeat' (first | refine d1 ?_ | refine dd ?_ | (show ∀ _ : Nat, T _ _ _ _ _; intro _))
      exact T_backX (p + 1, M2) ⟨by dsimp only; omega, hM2, by dsimp only; rw [Nat.succ_mul]; exact hS2⟩ (by dsimp only; omega) (hE := ⟨by dsimp only; rw [show (n : Int) - ((p + 1 : Nat) : Int) = (n : Int) - p - 1 by omega]; rfl, trivial⟩)
  · simp only [decide_eq_false_iff_not] at h3
    obtain rfl : p = n + 1 := by omega
    obtain ⟨⟨g0, c0⟩, hV0⟩ : ∃ x, M[0]? = some x := ⟨_, List.getElem?_eq_getElem (by omega)⟩
    have hc0 : c0 = valV (iniC (grdOf c a b) n m ((n + 1) * (m + 1)) 0) (m + 1) := hS _ _ hV0
    have ec0 : iniC (grdOf c a b) n m ((n + 1) * (m + 1)) 0 0 = wys (grdOf c a b) 0 0 := by
      unfold iniC
      split
      · exact (wys_none (by omega) (by omega)).symm
      · exact soFar_all (by rw [placesL_len]; exact Nat.le_refl _) _ (Nat.zero_le _) (Nat.zero_le _)
    repeat' (first | refine d1 ?_ | refine dd ?_ | (show T _ (.ops _ (_ :: _) :: _) _ _ _; first | refine T_val rfl (Val.load rfl (fun hg => rdRow (A := some ⟨g, 0, none⟩) (vs := [.slice (some ⟨g0, 0, none⟩) (m + 1) (m + 1)]) (by omega) (get1 (by show (M.map (slv m))[0]? = _; rw [List.getElem?_map, hV0]; rfl)))) rfl rfl rfl ?_ | refine T_valC rfl (Val.load rfl (fun hg => rdRow (A := some ⟨g, 0, none⟩) (vs := [.slice (some ⟨g0, 0, none⟩) (m + 1) (m + 1)]) (by omega) (get1 (by show (M.map (slv m))[0]? = _; rw [List.getElem?_map, hV0]; rfl)))) rfl rfl rfl rfl rfl ?_ | refine T_val rfl (Val.load rfl (fun hg => rdM (l := M) (k := 0) (g := g0) (vs := [.int .i64 (wys (grdOf c a b) 0 0)]) hV0 (get1 (by rw [hc0, ← ec0]; exact vget 0 (by omega) rfl)))) rfl rfl rfl ?_ | refine T_valC rfl (Val.load rfl (fun hg => rdM (l := M) (k := 0) (g := g0) (vs := [.int .i64 (wys (grdOf c a b) 0 0)]) hV0 (get1 (by rw [hc0, ← ec0]; exact vget 0 (by omega) rfl)))) rfl rfl rfl rfl rfl ?_) | (show T _ (.run _ _ (_ :: _) _ _ :: _) _ _ _; first | refine rv rfl rfl rfl (Val.load rfl (fun hg => rdRow (A := some ⟨g, 0, none⟩) (vs := [.slice (some ⟨g0, 0, none⟩) (m + 1) (m + 1)]) (by omega) (get1 (by show (M.map (slv m))[0]? = _; rw [List.getElem?_map, hV0]; rfl)))) rfl rfl rfl ?_ | refine rg rfl rfl rfl (Val.load rfl (fun hg => rdRow (A := some ⟨g, 0, none⟩) (vs := [.slice (some ⟨g0, 0, none⟩) (m + 1) (m + 1)]) (by omega) (get1 (by show (M.map (slv m))[0]? = _; rw [List.getElem?_map, hV0]; rfl)))) rfl rfl rfl rfl rfl ?_ | refine rv rfl rfl rfl (Val.load rfl (fun hg => rdM (l := M) (k := 0) (g := g0) (vs := [.int .i64 (wys (grdOf c a b) 0 0)]) hV0 (get1 (by rw [hc0, ← ec0]; exact vget 0 (by omega) rfl)))) rfl rfl rfl ?_ | refine rg rfl rfl rfl (Val.load rfl (fun hg => rdM (l := M) (k := 0) (g := g0) (vs := [.int .i64 (wys (grdOf c a b) 0 0)]) hV0 (get1 (by rw [hc0, ← ec0]; exact vget 0 (by omega) rfl)))) rfl rfl rfl rfl rfl ?_) | (show ∀ _ : Nat, T _ _ _ _ _; intro _) | (show T _ (.code .ret :: _) _ _ _; refine T_retV [] rfl (Hle.none _) ⟨rfl, rfl⟩))
end Go.Proofs.YtmcgificpaeipaaGreatDoor
/- Walks: chapter 18: an alignment that numbers select. -/
namespace Go.Proofs.YtmcgificpaeipaaGreatDoor
open Go.RowKit Go.Shelf Go.Proofs
set_option maxRecDepth 100000
set_option maxHeartbeats 1000000

/-- Columns that lead to a place. -/
def PreW (n m : Nat) (out : List (List Int)) (i k : Nat) : Prop := ∀ G : Grd, G.n = n → G.m = m → ∃ s, ∀ l, alnd G (out ++ l) 0 0 = (alnd G l i k).map (s + ·)
theorem PreW.nil (n m : Nat) : PreW n m [] 0 0 := fun G _ _ => ⟨0, fun l => by
  rw [List.nil_append]
  cases alnd G l 0 0 with
  | none => rfl
  | some x => simp⟩
theorem PreW.snoc {n m : Nat} {out : List (List Int)} {i k i' k' : Nat} {x : List Int} (h : PreW n m out i k) (hx : ∀ G : Grd, G.n = n → G.m = m → ∃ y, mvOf G i k x = some y ∧ i + y.fst = i' ∧ k + y.snd = k') : PreW n m (out ++ [x]) i' k' := fun G hn hm => by
  obtain ⟨s, hs⟩ := h G hn hm
  obtain ⟨y, hy, rfl, rfl⟩ := hx G hn hm
  refine ⟨s + y.cost, fun l => ?_⟩
  rw [List.append_assoc, List.singleton_append, hs, alnd_cons hy]
  cases alnd G l (i + y.fst) (k + y.snd) with
  | none => rfl
  | some z => simp [Int.add_assoc]
theorem PreW.all {n m : Nat} {out : List (List Int)} {i k : Nat} (h : PreW n m out i k) (hi : i = n) (hk : k = m) (G : Grd) (hn : G.n = n) (hm : G.m = m) : ∃ s, alnd G out 0 0 = some s := by
  obtain ⟨s, hs⟩ := h G hn hm
  have := hs []
  rw [List.append_nil] at this
  rw [this]
  show ∃ t, (if i = G.n ∧ k = G.m then some (0 : Int) else none).map (s + ·) = some t
  rw [if_pos ⟨by omega, by omega⟩]
  exact ⟨s + 0, rfl⟩
theorem way18_spec (n m : Nat) (P : Option Addr) (np cp : Nat) (picks : List Int) (w : World) (hnb : n ≤ 1000) (hmb : m ≤ 1000) (hP : Src w 1 P np (picks.map (Value.int .u8))) (hl : picks.length = np) (hpb : ∀ z ∈ picks, 0 ≤ z ∧ z ≤ 255) :
    Spec Tryz.prog 24 [.int .i64 (n : Nat), .int .i64 (m : Nat), .slice P np cp] w (fun v R => ∃ x : Value × List (List Int), PreW n m x.2 n m ∧ v = x.1 ∧ R = [dat [x.1] [rowsD x.2]]) := by
  refine spec_of sg Tryz.func24 rfl rfl rfl ?_
  repeat' (first | refine d1 ?_ | refine dd ?_ | (show ∀ _ : Nat, T _ _ _ _ _; intro _))
  refine T_le (dat_nil _) ?_
  refine T_nilrow 33 1 ?_
  refine T_loopX (fun x : Nat × Nat × (Option Addr × Nat) × List Value × List (List Int) => [(8, .int .i64 x.1), (9, .int .i64 x.2.1), (7, .slice x.2.2.1.1 x.2.2.2.2.length x.2.2.1.2)]) (fun x => [row 33 1 x.2.2.1.1 x.2.2.1.2 x.2.2.2.2.length x.2.2.2.1, dat x.2.2.2.1 (x.2.2.2.2.map intsD)]) (fun x => x.1 ≤ n ∧ x.2.1 ≤ m ∧ x.2.2.2.2.length ≤ x.1 + x.2.1 ∧ PreW n m x.2.2.2.2 x.1 x.2.1) (fun x => (n - x.1) + (m - x.2.1)) (0, 0, (none, 0), [], []) ⟨Nat.zero_le _, Nat.zero_le _, Nat.zero_le _, PreW.nil n m⟩ ?_
  rintro ⟨i, k, ⟨Ao, capo⟩, hs, out⟩ ⟨hi, hkm, hlo, hout⟩
  dsimp only at hi hkm hlo hout ⊢
  repeat' (first | refine d1 ?_ | refine dd ?_ | (show ∀ _ : Nat, T _ _ _ _ _; intro _))
  refine T_if rfl (fun h3 => ?_) (fun h3 => ?_)
  · have h3' : i < n ∨ k < m := by simpa using h3
    have hstep : ∀ {u v : Int} {b1 b2 : Nat} {A' : Option Addr} {cap' : Nat} {H : List HA}, Hle H [blk b2 [.slice (some ⟨b1, 0, none⟩) 2 2] 33, blk b1 [.int .i64 u, .int .i64 v] 3, row 33 1 A' cap' (out.length + 1) (hs ++ [.slice (some ⟨b1, 0, none⟩) 2 2]), dat hs (out.map intsD)] →
        Hle H [row 33 1 A' cap' (out ++ [[u, v]]).length (hs ++ [.slice (some ⟨b1, 0, none⟩) 2 2]), dat (hs ++ [.slice (some ⟨b1, 0, none⟩) 2 2]) ((out ++ [[u, v]]).map intsD)] := fun h => by
      rw [List.length_append, List.map_append]
      exact h.trans (mv_join rfl)
    repeat' (first | refine d1 ?_ | refine dd ?_ | (show ∀ _ : Nat, T _ _ _ _ _; intro _))
    refine T_cutX 1 [10] (fun z : Int => [(10, .int .i64 z)]) (fun _ => [row 33 1 Ao capo out.length hs, dat hs (out.map intsD)]) (fun _ => True) ?_ ?_
    · refine T_if rfl (fun h4 => ?_) (fun h4 => ?_)
      · simp only [decide_eq_true_eq] at h4
        obtain ⟨bp, op, rfl⟩ := hP.base (by omega)
        obtain ⟨z, hz⟩ : ∃ z, picks[out.length]? = some z := ⟨_, List.getElem?_eq_getElem (by omega)⟩
        have hzb := hpb z (List.mem_of_getElem? hz)
        have hr : RdC w bp (op + (out.length : Int).toNat * 1) [.int .u8 z] := by
          have h9 := (hP.get1 (i := out.length) (by omega) (by rw [List.getElem?_map, hz]; rfl)).2
          rw [Nat.mul_one] at h9
          rw [off1]
          exact h9
        repeat' (first | refine d1 ?_ | refine dd ?_ | (show ∀ _ : Nat, T _ _ _ _ _; intro _))
        exact T_meetX (z % 3) trivial
      · repeat' (first | refine d1 ?_ | refine dd ?_ | (show ∀ _ : Nat, T _ _ _ _ _; intro _))
        exact T_meetX 0 trivial
    rintro z -
    repeat' (first | refine d1 ?_ | refine dd ?_ | (show ∀ _ : Nat, T _ _ _ _ _; intro _))
    refine T_if rfl (fun h4 => ?_) (fun h4 => ?_)
    · have hin : i < n := by simp at h4; omega
      repeat' (first | refine d1 ?_ | refine dd ?_ | (show T _ (.ops _ (_ :: _) :: _) _ _ _; refine T_op (OpT.append rfl rfl rfl rfl rfl rfl rfl rfl rfl rfl (fun w hw => Src.own hw rfl) rfl (by dsimp only; omega) (by omega) (fun A' cap' hA' => ?_))) | (show ∀ _ : Nat, T _ _ _ _ _; intro _))
      rename_i b1 b2
      exact T_backX (i + 1, k, (A', cap'), hs ++ [.slice (some ⟨b1, 0, none⟩) 2 2], out ++ [[(i : Int), -1]]) ⟨by dsimp only; omega, by dsimp only; omega, by dsimp only; rw [List.length_append]; simp; omega, hout.snoc fun G hn hm => ⟨_, mvOf_fst (by omega), rfl, rfl⟩⟩ (by dsimp only; omega) (hE := ⟨rfl, rfl, by dsimp only; rw [List.length_append]; rfl, trivial⟩) (hG := hstep Hle.srt2)
    repeat' (first | refine d1 ?_ | refine dd ?_ | (show ∀ _ : Nat, T _ _ _ _ _; intro _))
    refine T_if rfl (fun h5 => ?_) (fun h5 => ?_)
    · have hin : i < n ∧ k < m := by simp at h5; omega
      repeat' (first | refine d1 ?_ | refine dd ?_ | (show T _ (.ops _ (_ :: _) :: _) _ _ _; refine T_op (OpT.append rfl rfl rfl rfl rfl rfl rfl rfl rfl rfl (fun w hw => Src.own hw rfl) rfl (by dsimp only; omega) (by omega) (fun A' cap' hA' => ?_))) | (show ∀ _ : Nat, T _ _ _ _ _; intro _))
      rename_i b1 b2
      exact T_backX (i + 1, k + 1, (A', cap'), hs ++ [.slice (some ⟨b1, 0, none⟩) 2 2], out ++ [[(i : Int), (k : Int)]]) ⟨by dsimp only; omega, by dsimp only; omega, by dsimp only; rw [List.length_append]; simp; omega, hout.snoc fun G hn hm => ⟨_, mvOf_both (by omega) (by omega), rfl, rfl⟩⟩ (by dsimp only; omega) (hE := ⟨rfl, rfl, by dsimp only; rw [List.length_append]; rfl, trivial⟩) (hG := hstep Hle.srt2)
    repeat' (first | refine d1 ?_ | refine dd ?_ | (show ∀ _ : Nat, T _ _ _ _ _; intro _))
    refine T_if rfl (fun h6 => ?_) (fun h6 => ?_)
    · have hin : k < m := by simp at h6; omega
      repeat' (first | refine d1 ?_ | refine dd ?_ | (show T _ (.ops _ (_ :: _) :: _) _ _ _; refine T_op (OpT.append rfl rfl rfl rfl rfl rfl rfl rfl rfl rfl (fun w hw => Src.own hw rfl) rfl (by dsimp only; omega) (by omega) (fun A' cap' hA' => ?_))) | (show ∀ _ : Nat, T _ _ _ _ _; intro _))
      rename_i b1 b2
      exact T_backX (i, k + 1, (A', cap'), hs ++ [.slice (some ⟨b1, 0, none⟩) 2 2], out ++ [[-1, (k : Int)]]) ⟨by dsimp only; omega, by dsimp only; omega, by dsimp only; rw [List.length_append]; simp; omega, hout.snoc fun G hn hm => ⟨_, mvOf_snd (by omega), rfl, rfl⟩⟩ (by dsimp only; omega) (hE := ⟨rfl, rfl, by dsimp only; rw [List.length_append]; rfl, trivial⟩) (hG := hstep Hle.srt2)
    · have hin : i < n := by simp at h6; omega
      repeat' (first | refine d1 ?_ | refine dd ?_ | (show T _ (.ops _ (_ :: _) :: _) _ _ _; refine T_op (OpT.append rfl rfl rfl rfl rfl rfl rfl rfl rfl rfl (fun w hw => Src.own hw rfl) rfl (by dsimp only; omega) (by omega) (fun A' cap' hA' => ?_))) | (show ∀ _ : Nat, T _ _ _ _ _; intro _))
      rename_i b1 b2
      exact T_backX (i + 1, k, (A', cap'), hs ++ [.slice (some ⟨b1, 0, none⟩) 2 2], out ++ [[(i : Int), -1]]) ⟨by dsimp only; omega, by dsimp only; omega, by dsimp only; rw [List.length_append]; simp; omega, hout.snoc fun G hn hm => ⟨_, mvOf_fst (by omega), rfl, rfl⟩⟩ (by dsimp only; omega) (hE := ⟨rfl, rfl, by dsimp only; rw [List.length_append]; rfl, trivial⟩) (hG := hstep Hle.srt2)
  · have h3' : ¬ (i < n ∨ k < m) := by simpa using h3
    obtain rfl : i = n := by omega
    obtain rfl : k = m := by omega
    repeat' (first | refine d1 ?_ | refine dd ?_ | (show ∀ _ : Nat, T _ _ _ _ _; intro _) | (show T _ (.code .ret :: _) _ _ _; refine T_retV _ rfl dat_row ⟨(.slice Ao out.length capo, out), hout, rfl, rfl⟩))
end Go.Proofs.YtmcgificpaeipaaGreatDoor
/- The engine: calls that turn blocks of the caller's own. It speaks of any program. -/
namespace Go.Proofs.YtmcgificpaeipaaGreatDoor
open Go.RowKit Go.Shelf

/-- A contract of a call that is lent the caller's own blocks: what it leaves of all of them. -/
structure SpecB (P : Program) (f : FuncId) (args : List Value) (w0 : World) (H : List HA) (Φ : Value → List HA → Prop) : Prop where
  enters : Enters P f
  calls : ∀ w, Cls w0 w H → Calls P f args.toArray w (Ret w0 Φ)
theorem specB_of (S : Sig) {f : FuncId} {fn : Func} {c : Code} {args : List Value} {w0 : World} {H : List HA} {Φ : Value → List HA → Prop} (hf : S.P.funcs[f]? = some fn) (hn : (fn.name == "runtime.NumGoroutine") = false) (hb : fn.body = some c)
    (hlen : Nat.ble args.length fn.ntmps = true) (h : T (FC S fn.ntmps [] w0 fn Φ) (nf 60 [.code c]) (zipE 0 args) [] H) : SpecB S.P f args w0 H Φ := by
  refine ⟨enters_of hf hn hb, fun w hw => callsIn_wide.1 (callsIn_of_wp_marks (n := 0) hf hb trivial ?_)⟩
  have hlen' : args.length ≤ fn.ntmps := Nat.le_of_ble_eq_true hlen
  have ha : Agrees ⟨fn.ntmps, []⟩ (allOf (nf 60 [.code c])) (zipE 0 args) [] { tmps := args.toArray ++ Array.replicate (fn.ntmps - args.toArray.size) undef, defers := [] } := by
    refine ⟨rfl, by simp; omega, fun s v hv => ?_, fun _ _ _ h => (by cases h), fun _ _ _ h => (by cases h)⟩
    obtain ⟨_, h2⟩ := zipE_spec args 0 s v hv
    simp only [Nat.sub_zero] at h2
    have hs : s < args.length := (List.getElem?_eq_some_iff.1 h2).1
    simp [Array.getD_eq_getD_getElem?, Array.getElem?_append, hs]
    rw [List.getElem?_eq_getElem hs] at h2
    simpa using h2
  have := nf_spec (h _ _ ha hw)
  simp only [sem] at this
  refine wpIn_mono this fun e a w' q => ?_
  cases e <;> first | exact q | exact q.elim
section
variable {C : Cx} {all : Array Oper} {o : Oper} {env : Env} {ec : EnvC} {H : List HA} {d : Nat}
theorem OpT.callB {f : FuncId} {args : List Value} {Ψ : Value → List HA → Prop} {Φ : Env → EnvC → List HA → Prop} (hg : gOf all env ec o = some []) (he : evCall env ec [] o = some (f, args)) (hd : o.dst = some d) (hN : Nat.blt d C.N.n = true) (hs : safeC all d ec = true)
    (hc : SpecB C.S.P f args C.w0 H Ψ) (h : ∀ u A, Ψ u A → Φ ((d, u) :: env) ec A) : OpT C all o env ec H Φ := by
  intro a w ha hw K Q hK
  have hwn := (wanted_iff ha hg).2 (Holds.nil _ _)
  refine ⟨fun _ => ?_, fun hn => (by rw [hwn] at hn; cases hn)⟩
  obtain ⟨hen, hcall⟩ := hc
  unfold Oper.wpIn
  refine ⟨about_Fr o _ w _, ?_⟩
  rw [Oper.semAt_eq _ _ _ (gOf_def hg)]
  rw [evCall_spec ha (Holds.nil _ _) he hen w]
  refine ⟨fun h => (by cases h), callsIn_Fr (Calls.mono (hcall w hw) ?_)⟩
  rintro e w' ⟨u, A, rfl, hΨ, hb, hsep⟩
  exact hK _ _ _ _ _ (h u A hΨ) (by rw [hd]; exact ha.put hN hs) ⟨hb, hsep⟩
end
end Go.Proofs.YtmcgificpaeipaaGreatDoor
/- Columns whose sources are exchanged; a further source: plain laws. No program in sight. -/
namespace Go.Proofs.YtmcgificpaeipaaGreatDoor

def sumI (g : Nat → Int) : List Nat → Int
  | [] => 0
  | x :: l => g x + sumI g l
theorem sumI_perm {g : Nat → Int} {l m : List Nat} (h : l.Perm m) : sumI g l = sumI g m := by
  induction h with
  | nil => rfl
  | cons x _ ih => unfold sumI; rw [ih]
  | swap x y l => unfold sumI; unfold sumI; omega
  | trans _ _ h1 h2 => rw [h1, h2]
theorem sumI_snoc (g : Nat → Int) (x : Nat) : ∀ l : List Nat, sumI g (l ++ [x]) = sumI g l + g x
  | [] => by simp [sumI]
  | y :: l => by
    rw [List.cons_append]
    unfold sumI
    rw [sumI_snoc g x l]; omega
theorem sumI_map (g : Nat → Int) (s : Nat → Nat) : ∀ l : List Nat, sumI g (l.map s) = sumI (fun x => g (s x)) l
  | [] => rfl
  | y :: l => by rw [List.map_cons]; unfold sumI; rw [sumI_map g s l]
theorem sumI_congr {g h : Nat → Int} : ∀ {l : List Nat}, (∀ x ∈ l, g x = h x) → sumI g l = sumI h l
  | [], _ => rfl
  | y :: l, e => by unfold sumI; rw [e y (List.mem_cons_self ..), sumI_congr (l := l) fun x hx => e x (List.mem_cons_of_mem _ hx)]
/-- The sum over all pairs of a list. -/
def pS (g : Nat → Nat → Int) : List Nat → Int
  | [] => 0
  | a :: l => sumI (fun y => g y a) l + pS g l
theorem pS_perm {g : Nat → Nat → Int} (hg : ∀ i k, g i k = g k i) {l m : List Nat} (h : l.Perm m) : pS g l = pS g m := by
  induction h with
  | nil => rfl
  | cons x hp ih => unfold pS; rw [ih, sumI_perm hp]
  | swap x y l =>
    simp only [pS, sumI]
    rw [hg x y]; omega
  | trans _ _ h1 h2 => rw [h1, h2]
theorem pS_map (g : Nat → Nat → Int) (s : Nat → Nat) : ∀ l : List Nat, pS g (l.map s) = pS (fun x y => g (s x) (s y)) l
  | [] => rfl
  | y :: l => by rw [List.map_cons]; unfold pS; rw [pS_map g s l, sumI_map]
theorem psum_append (f : Nat → Nat → Int) (ps : List (Nat × Nat)) : ∀ qs : List (Nat × Nat), psum f (ps ++ qs) = psum f ps + psum f qs := by
  intro qs
  unfold psum
  rw [List.foldl_append]
  generalize List.foldl (fun s p => s + f p.1 p.2) 0 ps = z
  have key : ∀ (qs : List (Nat × Nat)) (z : Int), qs.foldl (fun s p => s + f p.1 p.2) z = z + qs.foldl (fun s p => s + f p.1 p.2) 0 := by
    intro qs
    induction qs with
    | nil => intro z; simp
    | cons q qs ih => intro z; simp only [List.foldl_cons]; rw [ih, ih (0 + f q.1 q.2)]; omega
  exact key qs z
theorem psum_rowP (f : Nat → Nat → Int) (k : Nat) : ∀ i, psum f (rowP i k) = sumI (fun q => f q k) (List.range i).reverse
  | 0 => rfl
  | i + 1 => by
    rw [rowP_succ, psum_snoc, psum_rowP f k i, List.range_succ, List.reverse_append, List.reverse_singleton, List.singleton_append]
    simp only [sumI]
    omega
theorem psum_pS (f : Nat → Nat → Int) : ∀ n, psum f (pairsL n) = pS f (List.range n).reverse
  | 0 => rfl
  | n + 1 => by
    rw [pairsL_succ, psum_append, psum_pS f n, psum_rowP, List.range_succ, List.reverse_append, List.reverse_singleton, List.singleton_append]
    simp only [pS]
    omega
/-- Two places exchanged. -/
def swp (x y i : Nat) : Nat := if i = x then y else if i = y then x else i
theorem swp_swp (x y i : Nat) : swp x y (swp x y i) = i := by unfold swp; (repeat' split) <;> omega
theorem swp_lt {x y i n : Nat} (hx : x < n) (hy : y < n) (hi : i < n) : swp x y i < n := by unfold swp; (repeat' split) <;> omega
theorem swp_perm {x y n : Nat} (hx : x < n) (hy : y < n) : ((List.range n).map (swp x y)).Perm (List.range n) := by
  refine (List.perm_ext_iff_of_nodup ?_ List.nodup_range).2 fun a => ?_
  · rw [List.Nodup, List.pairwise_map]
    refine List.nodup_range.imp fun {a b} h e => h ?_
    rw [← swp_swp x y a, e, swp_swp]
  · rw [List.mem_map, List.mem_range]
    constructor
    · rintro ⟨i, hi, rfl⟩; exact swp_lt hx hy (List.mem_range.1 hi)
    · intro h; exact ⟨swp x y a, List.mem_range.2 (swp_lt hx hy h), swp_swp x y a⟩
theorem pS_congr {g h : Nat → Nat → Int} : ∀ {l : List Nat}, (∀ x ∈ l, ∀ y ∈ l, g x y = h x y) → pS g l = pS h l
  | [], _ => rfl
  | a :: l, e => by
    unfold pS
    rw [pS_congr (l := l) fun x hx y hy => e x (List.mem_cons_of_mem _ hx) y (List.mem_cons_of_mem _ hy), sumI_congr (h := fun y => h y a) fun x hx => e x (List.mem_cons_of_mem _ hx) a (List.mem_cons_self ..)]
theorem psum_swp {f g : Nat → Nat → Int} {n x y : Nat} (hf : ∀ i k, f i k = f k i) (hx : x < n) (hy : y < n) (h : ∀ i k, i < n → k < n → g i k = f (swp x y i) (swp x y k)) : psum g (pairsL n) = psum f (pairsL n) := by
  rw [psum_pS, psum_pS, pS_congr (h := fun i k => f (swp x y i) (swp x y k)), ← pS_map, List.map_reverse]
  · refine pS_perm hf ?_
    exact (List.reverse_perm _).trans ((swp_perm hx hy).trans (List.reverse_perm _).symm)
  · intro i hi k hk
    rw [List.mem_reverse, List.mem_range] at hi hk
    exact h i k hi hk
theorem cellC_swap (c : Costs) (l : List Tok) (b : List Bool) (i k : Nat) : cellC c l b i k = cellC c l b k i := by
  unfold cellC
  rw [Bool.and_comm (thA b i), pairC_swap]
  cases thA b i <;> cases thA b k <;> simp
/-- The exchange of two entries. -/
def swpL {α : Type} (l : List α) (x y : Nat) (d : α) : List α := (l.set x (l.getD y d)).set y (l.getD x d)
theorem swpL_length {α : Type} (l : List α) (x y : Nat) (d : α) : (swpL l x y d).length = l.length := by simp [swpL]
theorem swpL_get {α : Type} {l : List α} {x y i : Nat} {d : α} (hx : x < l.length) (hy : y < l.length) (hi : i < l.length) : (swpL l x y d).getD i d = l.getD (swp x y i) d := by
  unfold swpL swp
  simp only [List.getD_eq_getElem?_getD, List.getElem?_set, List.length_set]
  by_cases h1 : y = i
  · subst h1
    rw [if_pos rfl, if_pos hy]
    by_cases h2 : y = x
    · subst h2; simp [hy]
    · rw [if_neg h2]; simp
  · rw [if_neg h1]
    by_cases h2 : x = i
    · subst h2
      rw [if_pos rfl, if_pos hx, if_pos rfl]; simp
    · rw [if_neg h2, if_neg (Ne.symm h2), if_neg (Ne.symm h1)]
theorem column_swp (c : Costs) (l : List Tok) (b : List Bool) (n x y : Nat) (hl : l.length = n) (hb : b.length = n) (hx : x < n) (hy : y < n) :
    psum (cellC c (swpL l x y noTok) (swpL b x y false)) (pairsL n) = psum (cellC c l b) (pairsL n) := by
  refine psum_swp (cellC_swap c l b) hx hy fun i k hi hk => ?_
  unfold cellC tkA thA
  rw [swpL_get (by omega) (by omega) (by omega), swpL_get (by omega) (by omega) (by omega), swpL_get (by omega) (by omega) (by omega), swpL_get (by omega) (by omega) (by omega)]
/-- The gaps beside the tokens that are there. -/
def gapsC (c : Costs) (l : List Tok) (b : List Bool) : Nat → Int
  | 0 => 0
  | i + 1 => gapsC c l b i + if thA b i then gapC c (tkA l i) else 0
theorem tkA_left {l m : List Tok} {i : Nat} (h : i < l.length) : tkA (l ++ m) i = tkA l i := by unfold tkA; rw [List.getD_eq_getElem?_getD, List.getElem?_append_left h, ← List.getD_eq_getElem?_getD]
theorem thA_left {l m : List Bool} {i : Nat} (h : i < l.length) : thA (l ++ m) i = thA l i := by unfold thA; rw [List.getD_eq_getElem?_getD, List.getElem?_append_left h, ← List.getD_eq_getElem?_getD]
theorem thA_out (l : List Bool) : thA (l ++ [false]) l.length = false := by unfold thA; simp
theorem psum_congr {f g : Nat → Nat → Int} {n : Nat} (h : ∀ i k, i < n → k < n → f i k = g i k) : psum f (pairsL n) = psum g (pairsL n) := by
  rw [psum_pS, psum_pS]
  refine pS_congr fun i hi k hk => ?_
  rw [List.mem_reverse, List.mem_range] at hi hk
  exact h i k hi hk
theorem column_more (c : Costs) (l : List Tok) (b : List Bool) (n : Nat) (hl : l.length = n) (hb : b.length = n) :
    psum (cellC c (l ++ [noTok]) (b ++ [false])) (pairsL (n + 1)) = psum (cellC c l b) (pairsL n) + gapsC c l b n := by
  rw [pairsL_succ, psum_append, psum_congr (g := cellC c l b), psum_rowP]
  · congr 1
    have key : ∀ i, i ≤ n → sumI (fun q => cellC c (l ++ [noTok]) (b ++ [false]) q n) (List.range i).reverse = gapsC c l b i := by
      intro i
      induction i with
      | zero => intro _; rfl
      | succ i ih =>
        intro hi
        rw [List.range_succ, List.reverse_append, List.reverse_singleton, List.singleton_append]
        simp only [sumI, gapsC]
        rw [ih (by omega)]
        have : cellC c (l ++ [noTok]) (b ++ [false]) i n = if thA b i then gapC c (tkA l i) else 0 := by
          unfold cellC
          rw [← hb, thA_out, thA_left (by omega), tkA_left (by omega)]
          cases thA b i <;> simp
        omega
    exact key n (Nat.le_refl _)
  · intro i k hi hk
    unfold cellC
    rw [thA_left (by omega), thA_left (by omega), tkA_left (by omega), tkA_left (by omega)]
theorem gapsC_bd {c : Costs} (hc : costE c = 0) (l : List Tok) (b : List Bool) : ∀ i, 0 ≤ gapsC c l b i ∧ gapsC c l b i ≤ 1000 * i
  | 0 => by simp [gapsC]
  | i + 1 => by
    have h1 := gapsC_bd hc l b i
    have h2 := gapC_bd hc (tkA l i)
    have h3 := costE_ok hc
    unfold gapsC
    split <;> omega
theorem flat_set {α : Type} (cells : α → List Value) (sz : Nat) (hsz : ∀ t, (cells t).length = sz) : ∀ (l : List α) (i : Nat) (t : α), i < l.length → setL (l.flatMap cells) (i * sz) (cells t) = (l.set i t).flatMap cells
  | [], i, t, h => by simp at h
  | x :: l, 0, t, h => by
    rw [List.set_cons_zero, List.flatMap_cons, List.flatMap_cons, Nat.zero_mul]
    have key : ∀ (us xs ys zs : List Value), us.length = xs.length → setL (zs ++ xs ++ ys) zs.length us = zs ++ us ++ ys := by
      intro us
      induction us with
      | nil =>
        intro xs ys zs h
        have e : xs = [] := List.eq_nil_of_length_eq_zero (by simpa using h.symm)
        subst e; simp [setL]
      | cons u us ih =>
        intro xs ys zs h
        obtain ⟨x, xs, rfl⟩ : ∃ y ys, xs = y :: ys := by cases xs with | nil => simp at h | cons y ys => exact ⟨y, ys, rfl⟩
        simp only [setL]
        have e : (zs ++ x :: xs ++ ys).set zs.length u = (zs ++ [u]) ++ xs ++ ys := by
          rw [List.append_assoc, List.set_append_right _ _ (Nat.le_refl _), Nat.sub_self]; simp
        rw [e, show zs.length + 1 = (zs ++ [u]).length by simp, ih xs ys (zs ++ [u]) (by simpa using h)]
        simp
    have := key (cells t) (cells x) (l.flatMap cells) [] (by rw [hsz, hsz])
    simpa using this
  | x :: l, i + 1, t, h => by
    rw [List.set_cons_succ, List.flatMap_cons, List.flatMap_cons, ← flat_set cells sz hsz l i t (by simpa using h)]
    have key : ∀ (us xs ys : List Value) (k : Nat), setL (xs ++ ys) (xs.length + k) us = xs ++ setL ys k us := by
      intro us
      induction us with
      | nil => intro xs ys k; rfl
      | cons u us ih =>
        intro xs ys k
        simp only [setL]
        rw [List.set_append_right _ _ (by omega), Nat.add_sub_cancel_left, Nat.add_assoc, ih]
    rw [← key, hsz, Nat.succ_mul, Nat.add_comm sz]
theorem flatTok_set (l : List Tok) (i : Nat) (t : Tok) (h : i < l.length) : setL (l.flatMap Tok.cells) (i * 6) t.cells = (l.set i t).flatMap Tok.cells := flat_set Tok.cells 6 (fun _ => rfl) l i t h
theorem map_set1 {α : Type} (f : α → Value) (l : List α) (i : Nat) (t : α) : setL (l.map f) (i * 1) [f t] = (l.set i t).map f := by
  simp only [setL]; rw [Nat.mul_one, List.map_set]
end Go.Proofs.YtmcgificpaeipaaGreatDoor
/- Walks: what the laws of chapter 17 take for valid. -/
namespace Go.Proofs.YtmcgificpaeipaaGreatDoor
open Go.RowKit Go.Shelf Go.Proofs
set_option maxRecDepth 100000
set_option maxHeartbeats 1000000

noncomputable def fineB (c : Costs) (l : List Tok) : Bool := decide (costE c = 0) && decide ((l.length : Int) ≤ 8) && !greatB l && !badL l
theorem fineB_ok {c : Costs} {l : List Tok} (h : fineB c l = true) : costE c = 0 ∧ l.length ≤ 8 ∧ (∀ t ∈ l, longT t = false) ∧ ∀ t ∈ l, tokE t = 0 := by
  unfold fineB at h
  simp only [Bool.and_eq_true, decide_eq_true_eq, Bool.not_eq_true'] at h
  obtain ⟨⟨⟨h1, h2⟩, h3⟩, h4⟩ := h
  refine ⟨h1, by omega, (greatB_false h3).1, fun t ht => ?_⟩
  unfold badL at h4
  rw [List.any_eq_false] at h4
  simpa using h4 t ht
end Go.Proofs.YtmcgificpaeipaaGreatDoor
/- Walks: slices that are copied. -/
namespace Go.Proofs.YtmcgificpaeipaaGreatDoor
open Go.RowKit Go.Shelf Go.Proofs
set_option maxRecDepth 100000
set_option maxHeartbeats 1000000

theorem isNone_true {A : Option Addr} (h : isNone' A = true) : A = none := by cases A <;> simp_all [isNone']
theorem src_none {w : World} {sz n : Nat} {xs : List Value} (h : Src w sz none n xs) : n = 0 ∧ xs = [] := by
  have : n = 0 := by
    rcases Nat.eq_zero_or_pos n with h1 | h1
    · exact h1
    · have := (h.2 h1).1; simp [isAt] at this
  subst this
  exact ⟨rfl, List.eq_nil_of_length_eq_zero (by simpa using h.1)⟩
theorem oneMap {α : Type} (f : α → Value) (hf : ∀ x, (f x).oneCell' = true) : ∀ l : List α, oneCells (l.map f) = true
  | [] => rfl
  | x :: l => by rw [List.map_cons]; simp only [oneCells, hf, Bool.true_and]; exact oneMap f hf l
theorem oneToks : ∀ l : List Tok, oneCells (l.flatMap Tok.cells) = true
  | [] => rfl
  | t :: l => by
    rw [List.flatMap_cons]
    simp only [Tok.cells, List.cons_append, List.nil_append, oneCells, Value.oneCell', Bool.true_and]
    exact oneToks l
theorem cloneT_spec (A : Option Addr) (n c : Nat) (l : List Tok) (w : World) (hs : Src w 6 A n (l.flatMap Tok.cells)) (hb : n ≤ 1000000) :
    Spec Tryz.prog 25 [.slice A n c] w (fun v R => ∃ x : Option Addr × Nat, True ∧ v = .slice x.1 n x.2 ∧ R = [row 48 6 x.1 x.2 n (l.flatMap Tok.cells)]) := by
  refine spec_of sg Tryz.func25 rfl rfl rfl ?_
  repeat' (first | refine d1 ?_ | refine dd ?_ | (show T _ (.ops _ (_ :: _) :: _) _ _ _; first | refine T_val rfl (Val.nilS rfl) rfl rfl rfl ?_ | refine T_valC rfl (Val.nilS rfl) rfl rfl rfl rfl rfl ?_) | (show T _ (.run _ _ (_ :: _) _ _ :: _) _ _ _; first | refine rv rfl rfl rfl (Val.nilS rfl) rfl rfl rfl ?_ | refine rg rfl rfl rfl (Val.nilS rfl) rfl rfl rfl rfl rfl ?_) | (show ∀ _ : Nat, T _ _ _ _ _; intro _))
  refine T_if rfl (fun h => ?_) (fun h => ?_)
  · obtain rfl := isNone_true h
    obtain ⟨rfl, e⟩ := src_none hs
    rw [e]
    repeat' (first | refine d1 ?_ | refine dd ?_ | (show ∀ _ : Nat, T _ _ _ _ _; intro _))
    refine T_nilrow 48 6 ?_
    repeat' (first | refine d1 ?_ | refine dd ?_ | (show ∀ _ : Nat, T _ _ _ _ _; intro _) | (show T _ (.code .ret :: _) _ _ _; refine T_retV _ rfl Hle.sub ⟨(none, 0), trivial, rfl, rfl⟩))
  · repeat' (first | refine d1 ?_ | (show ∀ _ : Nat, T _ _ _ _ _; intro _))
    refine T_blk_rowh 6 0 rfl (by omega) ?_
    refine T_op (OpT.append rfl rfl rfl rfl rfl rfl rfl rfl rfl rfl (rdSrc hs) (oneToks l) (by dsimp only; omega) (by omega) (fun A' cap' hA' => ?_))
    rw [show 0 + n = n by omega, show flatP [] ++ l.flatMap Tok.cells = l.flatMap Tok.cells from rfl]
    repeat' (first | refine d1 ?_ | refine dd ?_ | (show ∀ _ : Nat, T _ _ _ _ _; intro _) | (show T _ (.code .ret :: _) _ _ _; refine T_retV _ rfl (Hle.refl _) ⟨(A', cap'), trivial, rfl, rfl⟩))
end Go.Proofs.YtmcgificpaeipaaGreatDoor
/- Walks: slices of tokens, reversed in place. -/
namespace Go.Proofs.YtmcgificpaeipaaGreatDoor
open Go.RowKit Go.Shelf Go.Proofs
set_option maxRecDepth 100000
set_option maxHeartbeats 1000000

/-- A list that has been reversed so far. -/
def RvIn (l r : List Tok) (i : Nat) : Prop := r.length = l.length ∧ ∀ k, k < l.length → r[k]? = if k < i ∨ l.length ≤ k + i then l[l.length - 1 - k]? else l[k]?
theorem RvIn.zero (l : List Tok) : RvIn l l 0 := ⟨rfl, fun k hk => by rw [if_neg (by omega)]⟩
theorem RvIn.step {l r : List Tok} {i : Nat} (h : RvIn l r i) (hi : 2 * i + 1 < l.length) : RvIn l ((r.set i (tkA r (l.length - 1 - i))).set (l.length - 1 - i) (tkA r i)) (i + 1) := by
  obtain ⟨h1, h2⟩ := h
  have e1 : r[l.length - 1 - i]? = l[l.length - 1 - i]? := by rw [h2 _ (by omega), if_neg (by omega)]
  have e2 : r[i]? = l[i]? := by rw [h2 _ (by omega), if_neg (by omega)]
  refine ⟨by simp [h1], fun k hk => ?_⟩
  rw [List.getElem?_set, List.getElem?_set, List.length_set]
  by_cases hk1 : l.length - 1 - i = k
  · rw [if_pos hk1, if_pos (by omega), if_pos (by omega), show l.length - 1 - k = i by omega, ← e2, tkA_get (by omega)]
  · rw [if_neg hk1]
    by_cases hk2 : i = k
    · subst hk2
      rw [if_pos rfl, if_pos (by omega), if_pos (by omega), ← e1, tkA_get (by omega)]
    · rw [if_neg hk2, h2 k hk]
      by_cases h3 : k < i ∨ l.length ≤ k + i
      · rw [if_pos h3, if_pos (by omega)]
      · rw [if_neg h3, if_neg (by omega)]
theorem RvIn.all {l r : List Tok} {i : Nat} (h : RvIn l r i) (hi : l.length ≤ 2 * i + 1) : r = l.reverse := by
  obtain ⟨h1, h2⟩ := h
  apply List.ext_getElem?
  intro k
  by_cases hk : k < l.length
  · rw [h2 k hk, List.getElem?_reverse hk]
    split
    · rfl
    · rw [show l.length - 1 - k = k by omega]
  · rw [List.getElem?_eq_none (by omega), List.getElem?_eq_none (by simp; omega)]
theorem reverseT_spec (A : Option Addr) (n c cap : Nat) (l : List Tok) (w0 : World) (K : List HA) (hl : l.length = n) (hb : n ≤ 1000000) :
    SpecB Tryz.prog 26 [.slice A n c] w0 (row 48 6 A cap n (l.flatMap Tok.cells) :: K) (fun v R => v = .tuple #[] ∧ R = row 48 6 A cap n (l.reverse.flatMap Tok.cells) :: K) := by
  refine specB_of sg Tryz.func26 rfl rfl rfl ?_
  repeat' (first | refine d1 ?_ | refine dd ?_ | (show ∀ _ : Nat, T _ _ _ _ _; intro _))
  refine T_loopX (fun s : Nat × List Tok => [(2, .int .i64 s.1), (3, .int .i64 ((n : Int) - 1 - s.1))]) (fun s => row 48 6 A cap n (s.2.flatMap Tok.cells) :: K) (fun s => 2 * s.1 ≤ n + 1 ∧ RvIn l s.2 s.1) (fun s => n + 1 - s.1) (0, l) ⟨by omega, RvIn.zero l⟩ ?_ (hE := ⟨rfl, by rw [show (n : Int) - 1 - ((0 : Nat) : Int) = (n : Int) - 1 by omega]; rfl, trivial⟩)
  rintro ⟨i, r⟩ ⟨hi, hr⟩
  dsimp only at hi hr ⊢
  have hrl : r.length = n := by rw [hr.1, hl]
  repeat' (first | refine d1 ?_ | refine dd ?_ | (show ∀ _ : Nat, T _ _ _ _ _; intro _))
  refine T_if rfl (fun h => ?_) (fun h => ?_)
  · simp only [decide_eq_true_eq] at h
    refine T_rowpos (A := A) (by omega) (fun g e => ?_)
    subst e
    have hs := hr.step (by omega)
    rw [hl] at hs
    have hg1 : ∀ j u, (tkA r i).cells[j]? = some u → (r.flatMap Tok.cells)[i * 6 + j]? = some u := fun j u hu => flat_get Tok.cells 6 (fun _ => rfl) (tkA_get (l := r) (i := i) (by omega)) j u hu
    have hg2 : ∀ j u, (tkA r (n - 1 - i)).cells[j]? = some u → (r.flatMap Tok.cells)[(n - 1 - i) * 6 + j]? = some u := fun j u hu => flat_get Tok.cells 6 (fun _ => rfl) (tkA_get (l := r) (i := n - 1 - i) (by omega)) j u hu
    refine T_cutX 1 [] (fun _ : Unit => []) (fun _ => row 48 6 (some ⟨g, 0, none⟩) cap n (((r.set i (tkA r (n - 1 - i))).set (n - 1 - i) (tkA r i)).flatMap Tok.cells) :: K) (fun _ => True) ?_ ?_
    · have hfin : row 48 6 (some ⟨g, 0, none⟩) cap n (setL (setL (r.flatMap Tok.cells) (0 + (i : Int).toNat * 6) (tkA r (n - 1 - i)).cells) (0 + ((n : Int) - 1 - i).toNat * 6) (tkA r i).cells) = row 48 6 (some ⟨g, 0, none⟩) cap n (((r.set i (tkA r (n - 1 - i))).set (n - 1 - i) (tkA r i)).flatMap Tok.cells) := by
        rw [show 0 + (i : Int).toNat * 6 = i * 6 by omega, show 0 + ((n : Int) - 1 - i).toNat * 6 = (n - 1 - i) * 6 by omega, flatTok_set r i _ (by omega), flatTok_set _ (n - 1 - i) _ (by rw [List.length_set]; omega)]
      refine dw0 1000 [] ?_
      repeat' (first | (show T _ (.draw _ _ _ _ _ :: _) _ _ _; first | refine dw1 ?_ | refine dwv rfl (by decide +kernel) rfl rfl (Val.loadA (vs := (tkA r (n - 1 - i)).cells) rfl (fun _ => rdRow (A := some ⟨g, 0, none⟩) (by omega) (fun j u hu => by rw [show 0 + ((n : Int) - 1 - i).toNat * 6 = (n - 1 - i) * 6 by omega]; exact hg2 j u hu)) rfl) rfl rfl rfl ?_ | refine dwg rfl (by decide +kernel) rfl rfl (Val.loadA (vs := (tkA r (n - 1 - i)).cells) rfl (fun _ => rdRow (A := some ⟨g, 0, none⟩) (by omega) (fun j u hu => by rw [show 0 + ((n : Int) - 1 - i).toNat * 6 = (n - 1 - i) * 6 by omega]; exact hg2 j u hu)) rfl) rfl rfl rfl rfl rfl ?_ | refine dwv rfl (by decide +kernel) rfl rfl (Val.loadA (vs := (tkA r i).cells) rfl (fun _ => rdRow (A := some ⟨g, 0, none⟩) (by omega) (fun j u hu => by rw [show 0 + (i : Int).toNat * 6 = i * 6 by omega]; exact hg1 j u hu)) rfl) rfl rfl rfl ?_ | refine dwg rfl (by decide +kernel) rfl rfl (Val.loadA (vs := (tkA r i).cells) rfl (fun _ => rdRow (A := some ⟨g, 0, none⟩) (by omega) (fun j u hu => by rw [show 0 + (i : Int).toNat * 6 = i * 6 by omega]; exact hg1 j u hu)) rfl) rfl rfl rfl rfl rfl ?_ | refine dwb rfl (by decide +kernel) ?_) | (show AllL _ []; exact True.intro) | (show AllL _ (_ :: _); refine ⟨?_, ?_⟩) | (show OpT _ _ _ _ _ _ _; first | refine dwx ?_ | refine OpT.ofVal rfl (Val.loadA (vs := (tkA r (n - 1 - i)).cells) rfl (fun _ => rdRow (A := some ⟨g, 0, none⟩) (by omega) (fun j u hu => by rw [show 0 + ((n : Int) - 1 - i).toNat * 6 = (n - 1 - i) * 6 by omega]; exact hg2 j u hu)) rfl) rfl rfl rfl ⟨fun _ => (by first | exact Hle.none _ | exact Hle.sub | exact absurd ‹_› (by decide +kernel)), ?_⟩ | refine OpT.ofVal rfl (Val.loadA (vs := (tkA r i).cells) rfl (fun _ => rdRow (A := some ⟨g, 0, none⟩) (by omega) (fun j u hu => by rw [show 0 + (i : Int).toNat * 6 = i * 6 by omega]; exact hg1 j u hu)) rfl) rfl rfl rfl ⟨fun _ => (by first | exact Hle.none _ | exact Hle.sub | exact absurd ‹_› (by decide +kernel)), ?_⟩ | refine OpT.storeR (us := (tkA r (n - 1 - i)).cells) rfl rfl rfl rfl rfl rfl (by show 0 + (i : Int).toNat * 6 + 6 ≤ n * 6; omega) ⟨fun _ => Hle.none _, ?_⟩ | refine OpT.storeR (us := (tkA r i).cells) rfl rfl rfl rfl rfl rfl (by show 0 + ((n : Int) - 1 - i).toNat * 6 + 6 ≤ n * 6; omega) ⟨fun _ => Hle.none _, ?_⟩) | (show ∀ _ : Nat, T _ _ _ _ _; intro _) | (show T _ (.mark _ :: _) _ _ _; exact T_meetX () trivial (hG := by rw [← hfin]; exact Hle.refl _)))
    rintro - -
    repeat' (first | refine d1 ?_ | refine dd ?_ | (show ∀ _ : Nat, T _ _ _ _ _; intro _))
    refine T_backX (i + 1, (r.set i (tkA r (n - 1 - i))).set (n - 1 - i) (tkA r i)) ⟨by dsimp only; omega, hs⟩ (by dsimp only; omega) (hE := ⟨rfl, by dsimp only; rw [show (n : Int) - 1 - ((i + 1 : Nat) : Int) = (n : Int) - 1 - i - 1 by omega]; rfl, trivial⟩)
  · simp only [decide_eq_false_iff_not] at h
    rw [hr.all (by omega)]
    repeat' (first | refine d1 ?_ | refine dd ?_ | (show ∀ _ : Nat, T _ _ _ _ _; intro _))
    exact T_fallV _ rfl (Hle.refl _) ⟨rfl, rfl⟩
end Go.Proofs.YtmcgificpaeipaaGreatDoor
