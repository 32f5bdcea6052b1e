/- Joined texts of this claim, part 4. -/
import Derived.Test.YtofikdpbagnjbaaGreatDoorQ3
import Derived.Shelf.SlSortCmp.Whole1
set_option linter.unusedVariables false
set_option linter.unusedSimpArgs false
namespace Go.Proofs.YtofikdpbagnjbaaGreatDoor
open Go.RowKit Go.Shelf Go.Proofs
set_option maxRecDepth 100000
set_option maxHeartbeats 1000000

def ownJ (l : List TS) (col : List Int) (k : Nat) : List Tok := (List.range l.length).map fun s => if s < k ∧ 0 ≤ col.getD s (-1) then tkA (tsA l s).l (col.getD s (-1)).toNat else noTok
def thJ (l : List TS) (col : List Int) (k : Nat) : List Bool := (List.range l.length).map fun s => decide (s < k ∧ 0 ≤ col.getD s (-1))
theorem ownJ_len (l : List TS) (col : List Int) (k : Nat) : (ownJ l col k).length = l.length := by simp [ownJ]
theorem thJ_len (l : List TS) (col : List Int) (k : Nat) : (thJ l col k).length = l.length := by simp [thJ]
theorem ownJ_zero (l : List TS) (col : List Int) : ownJ l col 0 = List.replicate l.length noTok := by
  refine List.ext_getElem? fun s => ?_
  unfold ownJ
  rw [List.getElem?_map, List.getElem?_replicate]
  rcases Nat.lt_or_ge s l.length with h | h
  · rw [List.getElem?_range h, if_pos h]; simp
  · rw [if_neg (by omega), List.getElem?_eq_none (by simp; omega)]; rfl
theorem thJ_zero (l : List TS) (col : List Int) : thJ l col 0 = List.replicate l.length false := by
  refine List.ext_getElem? fun s => ?_
  unfold thJ
  rw [List.getElem?_map, List.getElem?_replicate]
  rcases Nat.lt_or_ge s l.length with h | h
  · rw [List.getElem?_range h, if_pos h]; simp
  · rw [if_neg (by omega), List.getElem?_eq_none (by simp; omega)]; rfl
theorem ownJ_gap {l : List TS} {col : List Int} {k : Nat} (h : ¬ 0 ≤ col.getD k (-1)) : ownJ l col (k + 1) = ownJ l col k := by
  unfold ownJ
  refine List.map_congr_left fun s _ => ?_
  by_cases e : s = k
  · subst e; rw [if_neg (fun h9 => h h9.2), if_neg (fun h9 => h h9.2)]
  · by_cases h2 : s < k ∧ 0 ≤ col.getD s (-1)
    · rw [if_pos h2, if_pos ⟨by omega, h2.2⟩]
    · rw [if_neg h2, if_neg (fun h9 => h2 ⟨by omega, h9.2⟩)]
theorem thJ_gap {l : List TS} {col : List Int} {k : Nat} (h : ¬ 0 ≤ col.getD k (-1)) : thJ l col (k + 1) = thJ l col k := by
  unfold thJ
  refine List.map_congr_left fun s _ => ?_
  by_cases e : s = k
  · subst e; rw [decide_eq_false (fun h9 => h h9.2), decide_eq_false (fun h9 => h h9.2)]
  · by_cases h2 : s < k ∧ 0 ≤ col.getD s (-1)
    · rw [decide_eq_true h2, decide_eq_true (⟨by omega, h2.2⟩ : s < k + 1 ∧ _)]
    · rw [decide_eq_false h2, decide_eq_false (fun h9 => h2 ⟨by omega, h9.2⟩)]
theorem ownJ_tok {l : List TS} {col : List Int} {k : Nat} (hk : k < l.length) (h : 0 ≤ col.getD k (-1)) : (ownJ l col k).set k (tkA (tsA l k).l (col.getD k (-1)).toNat) = ownJ l col (k + 1) := by
  refine List.ext_getElem? fun s => ?_
  unfold ownJ
  rw [List.getElem?_set, List.getElem?_map, List.getElem?_map, List.length_map, List.length_range]
  by_cases e : k = s
  · subst e
    rw [List.getD_eq_getElem?_getD] at h
    rw [if_pos rfl, if_pos hk, List.getElem?_range hk]; simp; intro h9; omega
  · rw [if_neg e]
    rcases Nat.lt_or_ge s l.length with h2 | h2
    · rw [List.getElem?_range h2]
      simp only [Option.map_some]
      by_cases h3 : s < k ∧ 0 ≤ col.getD s (-1)
      · rw [if_pos h3, if_pos ⟨by omega, h3.2⟩]
      · rw [if_neg h3, if_neg (fun h9 => h3 ⟨by omega, h9.2⟩)]
    · rw [List.getElem?_eq_none (by simp; omega)]; rfl
theorem thJ_tok {l : List TS} {col : List Int} {k : Nat} (hk : k < l.length) (h : 0 ≤ col.getD k (-1)) : (thJ l col k).set k true = thJ l col (k + 1) := by
  refine List.ext_getElem? fun s => ?_
  unfold thJ
  rw [List.getElem?_set, List.getElem?_map, List.getElem?_map, List.length_map, List.length_range]
  by_cases e : k = s
  · subst e
    rw [List.getD_eq_getElem?_getD] at h
    rw [if_pos rfl, if_pos hk, List.getElem?_range hk]; simp [h]
  · rw [if_neg e]
    rcases Nat.lt_or_ge s l.length with h2 | h2
    · rw [List.getElem?_range h2]
      simp only [Option.map_some]
      by_cases h3 : s < k ∧ 0 ≤ col.getD s (-1)
      · rw [decide_eq_true h3, decide_eq_true (⟨by omega, h3.2⟩ : s < k + 1 ∧ _)]
      · rw [decide_eq_false h3, decide_eq_false (fun h9 => h3 ⟨by omega, h9.2⟩)]
    · rw [List.getElem?_eq_none (by simp; omega)]; rfl
theorem ownJ_small {w : World} {A : Option Addr} {n : Nat} {l : List TS} (hg : Grp w A n l) {col : List Int} (hco : ColOk l col) (k : Nat) : ∀ t ∈ ownJ l col k, t.small := by
  intro t ht
  unfold ownJ at ht
  obtain ⟨s, hs, rfl⟩ := List.mem_map.1 ht
  rw [List.mem_range] at hs
  split
  · rename_i h
    have hci : col[s]? = some (col.getD s (-1)) := by rw [List.getD_eq_getElem?_getD, List.getElem?_eq_getElem (by rw [hco.1]; exact hs)]; rfl
    have hli : l[s]? = some (tsA l s) := by rw [tsA_eq (List.getElem?_eq_getElem hs)]; exact List.getElem?_eq_getElem hs
    exact hg.sm _ (tsA_mem hs) _ (tkA_mem2 h.2 (by rw [hg.ok.len _ (tsA_mem hs)]; exact (hco.2 s _ _ hci hli).2))
  · exact noTok_small
theorem own_colV {w : World} {A : Option Addr} {n : Nat} {l : List TS} (hg : Grp w A n l) {c : Costs} (hc : costE c = 0) (hbs : badS l = false) {col : List Int} (hco : ColOk l col) : columnV c (ownJ l col l.length) (thJ l col l.length) = (colZ c l col, 0) := by
  have hb := hg.hb
  have hn := hg.hn
  refine columnV_Z hc hbs hg.ok.len (by omega) hco (ownJ_len _ _ _) (thJ_len _ _ _) (fun i hi => ?_) (fun i hi h0 => ?_)
  · unfold thA thJ
    rw [List.getD_eq_getElem?_getD, List.getElem?_map, List.getElem?_range hi]
    show decide (i < l.length ∧ 0 ≤ col.getD i (-1)) = _
    by_cases h : 0 ≤ col.getD i (-1)
    · rw [decide_eq_true h, decide_eq_true ⟨hi, h⟩]
    · rw [decide_eq_false h, decide_eq_false (fun h9 => h h9.2)]
  · show tkA (ownJ l col l.length) i = _
    have e : (ownJ l col l.length)[i]? = some (tkA (tsA l i).l (col.getD i (-1)).toNat) := by
      unfold ownJ
      rw [List.getElem?_map, List.getElem?_range hi]
      simp only [Option.map_some]
      rw [if_pos ⟨hi, h0⟩]
    unfold tkA at e ⊢
    rw [List.getD_eq_getElem?_getD (l := ownJ l col l.length), e]
    rfl
theorem made_toks (n : Nat) : (madeCells (noTok.val).cells (n * (noTok.val).cells.size)).toList = (List.replicate n noTok).flatMap Tok.cells := by
  refine (made_flat (noTok.val).cells n).trans ?_
  induction n with
  | zero => rfl
  | succ n ih => rw [List.replicate_succ, List.replicate_succ, List.flatMap_cons, List.flatten_cons, ih]; rfl
theorem cost19_spec (c : Costs) (A Ac : Option Addr) (n ca cc : Nat) (l : List TS) (col : List Int) (w : World) (hg : Grp w A n l) (hc : costE c = 0) (hbs : badS l = false) (hcs : Src w 1 Ac n (col.map (Value.int .i64))) (hco : ColOk l col) :
    Spec Tryz.prog 96 [c.val, .slice A n ca, .slice Ac n cc] w (fun v R => v = .int .i64 (colZ c l col) ∧ R = []) := by
  have hn := hg.hn
  subst hn
  have hb := hg.hb
  refine spec_of sg Tryz.func96 rfl rfl rfl ?_
  refine T_op (OpT.box (cs := c.cells) rfl rfl rfl rfl rfl rfl rfl (fun pc => ?_))
  repeat' (first | refine d1 ?_ | (show ∀ _ : Nat, T _ _ _ _ _; intro _))
  refine T_cutX 1 [7, 8] (fun s : Nat × Nat => [(7, .slice (some ⟨s.1, 0, none⟩) l.length l.length), (8, .slice (some ⟨s.2, 0, none⟩) l.length l.length)]) (fun s => [blk s.1 (madeCells (noTok.val).cells (l.length * (noTok.val).cells.size)).toList 80, blk s.2 (List.replicate l.length (.bool false)) 4, blk pc c.cells 23]) (fun _ => True) ?_ ?_
  · refine dw0 1000 [blk pc c.cells 23] ?_
    repeat' (first | (show T _ (.draw _ _ _ _ _ :: _) _ _ _; first | refine dw1 ?_ | refine dwb rfl (by decide +kernel) ?_) | (show AllL _ []; exact True.intro) | (show AllL _ (_ :: _); refine ⟨?_, ?_⟩) | (show OpT _ _ _ _ _ _ _; first | refine dwx ?_ | refine OpT.makeC rfl rfl rfl rfl rfl rfl (by dsimp only; omega) (fun b2 => ⟨fun _ => (by first | exact Hle.none _ | exact Hle.sub | exact absurd ‹_› (by decide +kernel)), ?_⟩) | refine OpT.make rfl rfl rfl rfl rfl rfl rfl rfl rfl (by dsimp only; omega) (fun b3 => ⟨fun _ => (by first | exact Hle.none _ | exact Hle.sub | exact absurd ‹_› (by decide +kernel)), ?_⟩)) | (show ∀ _ : Nat, T _ _ _ _ _; intro _) | (show T _ (.mark _ :: _) _ _ _; exact T_meetX (_, _) trivial (hG := by exact Hle.srt)))
  rintro ⟨b2, b3⟩ _
  dsimp only
  refine T_le (H' := [blk b2 ((ownJ l col 0).flatMap Tok.cells) 80, blk b3 ((thJ l col 0).map Value.bool) 4, blk pc c.cells 23]) (by rw [ownJ_zero, thJ_zero, made_toks, List.map_replicate]; exact Hle.refl _) ?_
  repeat' (first | refine d1 ?_ | refine dd ?_ | (show ∀ _ : Nat, T _ _ _ _ _; intro _))
  refine T_loopX (fun k : Nat => [(21, .int .i64 k)]) (fun k => [blk b2 ((ownJ l col k).flatMap Tok.cells) 80, blk b3 ((thJ l col k).map Value.bool) 4, blk pc c.cells 23]) (fun k => k ≤ l.length) (fun k => l.length - k) 0 (Nat.zero_le _) ?_
  intro k hk
  repeat' (first | refine d1 ?_ | refine dd ?_ | (show ∀ _ : Nat, T _ _ _ _ _; intro _))
  refine T_if rfl (fun h => ?_) (fun h => ?_)
  · simp only [decide_eq_true_eq] at h
    have hkn : k < l.length := by omega
    obtain ⟨b1, o1, rfl⟩ := hcs.base (by omega)
    obtain ⟨b, o, rfl⟩ := hg.hs.base (by omega)
    obtain ⟨s, hs, hsmem, hr⟩ := hg.get hkn
    obtain ⟨z, hz⟩ : ∃ z, col[k]? = some z := ⟨_, List.getElem?_eq_getElem (by have := hco.1; omega)⟩
    have hr1 := src_int hcs hkn hz
    obtain ⟨hz1, hz2⟩ := hco.2 k z s hz hs
    have hsl := hg.ok.len s hsmem
    have hsn := hg.nb s hsmem
    have hzd : col.getD k (-1) = z := by rw [List.getD_eq_getElem?_getD, hz]; rfl
    repeat' (first | refine d1 ?_ | refine dd ?_ | (show ∀ _ : Nat, T _ _ _ _ _; intro _))
    refine T_if rfl (fun h1 => ?_) (fun h1 => ?_)
    · simp only [decide_eq_true_eq] at h1
      obtain ⟨b4, o4, hsA⟩ := (hg.ok.src s hsmem).base (by omega)
      have hsr : RdC w b4 (o4 + z.toNat * 6) (tkA s.l z.toNat).cells := (hsA ▸ hg.ok.src s hsmem : Src w 6 (some ⟨b4, o4, none⟩) s.n (s.l.flatMap Tok.cells)).getT (k := z.toNat) (by omega) (tkA_get (by omega))
      rw [hsA] at hr
      repeat' (first | refine d1 ?_ | refine dd ?_ | (show T _ (.ops _ (_ :: _) :: _) _ _ _; first | refine T_op (OpT.storeA (us := (tkA s.l z.toNat).cells) rfl rfl rfl rfl rfl rfl (by rw [flatT_length, ownJ_len, show (tkA s.l z.toNat).cells.length = 6 from rfl]; omega) ?_) | refine T_op (OpT.store rfl rfl rfl rfl (by rw [List.length_map, thJ_len]; omega) ?_)) | (show ∀ _ : Nat, T _ _ _ _ _; intro _))
      refine T_backX (k + 1) (by omega) (by omega) (hG := ?_)
      have e1 := ownJ_tok (l := l) (col := col) hkn (by rw [hzd]; exact h1)
      have e2 := thJ_tok (l := l) (col := col) hkn (by rw [hzd]; exact h1)
      rw [hzd, tsA_eq hs] at e1
      rw [← e1, ← e2, ← flatTok_set _ _ _ (by rw [ownJ_len]; exact hkn), List.map_set, show 0 + (k : Int).toNat * 6 = k * 6 by omega, show 0 + (k : Int).toNat * 1 = k by omega]
      exact Hle.refl _
    · simp only [decide_eq_false_iff_not] at h1
      repeat' (first | refine d1 ?_ | refine dd ?_ | (show ∀ _ : Nat, T _ _ _ _ _; intro _))
      exact T_backX (k + 1) (by omega) (by omega) (hG := by rw [ownJ_gap (by rw [hzd]; exact h1), thJ_gap (by rw [hzd]; exact h1)]; exact Hle.refl _)
  · simp only [decide_eq_false_iff_not] at h
    obtain rfl : k = l.length := by omega
    repeat' (first | refine d1 ?_ | refine dd ?_ | (show T _ (.ops _ (_ :: _) :: _) _ _ _; first | refine T_call rfl rfl rfl rfl rfl (fun w hw => columnPrg_spec c (some ⟨b2, 0, none⟩) (some ⟨b3, 0, none⟩) l.length l.length l.length l.length (ownJ l col l.length) (thJ l col l.length) w (hg.hst.cls hw) (Src.own hw (by rw [flatT_length, ownJ_len])) (ownJ_len _ _ _) (by omega) (Src.own hw (by rw [List.length_map, thJ_len, Nat.mul_one])) (thJ_len _ _ _) (by omega) (ownJ_small hg hco _)) ?_ | refine T_callC rfl rfl rfl rfl rfl rfl rfl (fun hg w hw => columnPrg_spec c (some ⟨b2, 0, none⟩) (some ⟨b3, 0, none⟩) l.length l.length l.length l.length (ownJ l col l.length) (thJ l col l.length) w (hg.hst.cls hw) (Src.own hw (by rw [flatT_length, ownJ_len])) (ownJ_len _ _ _) (by omega) (Src.own hw (by rw [List.length_map, thJ_len, Nat.mul_one])) (thJ_len _ _ _) (by omega) (ownJ_small hg hco _)) ?_) | (show T _ (.run _ _ (_ :: _) _ _ :: _) _ _ _; first | refine rc rfl rfl rfl rfl rfl rfl rfl (fun w hw => columnPrg_spec c (some ⟨b2, 0, none⟩) (some ⟨b3, 0, none⟩) l.length l.length l.length l.length (ownJ l col l.length) (thJ l col l.length) w (hg.hst.cls hw) (Src.own hw (by rw [flatT_length, ownJ_len])) (ownJ_len _ _ _) (by omega) (Src.own hw (by rw [List.length_map, thJ_len, Nat.mul_one])) (thJ_len _ _ _) (by omega) (ownJ_small hg hco _)) ?_ | refine rcG rfl rfl rfl rfl rfl rfl rfl rfl rfl (fun hg w hw => columnPrg_spec c (some ⟨b2, 0, none⟩) (some ⟨b3, 0, none⟩) l.length l.length l.length l.length (ownJ l col l.length) (thJ l col l.length) w (hg.hst.cls hw) (Src.own hw (by rw [flatT_length, ownJ_len])) (ownJ_len _ _ _) (by omega) (Src.own hw (by rw [List.length_map, thJ_len, Nat.mul_one])) (thJ_len _ _ _) (by omega) (ownJ_small hg hco _)) ?_) | (show ∀ _ : Nat, T _ _ _ _ _; intro _))
    rw [own_colV hg hc hbs hco]
    repeat' (first | refine d1 ?_ | refine dd ?_ | (show ∀ _ : Nat, T _ _ _ _ _; intro _) | (show T _ (.code .ret :: _) _ _ _; refine T_retV [] rfl (Hle.none _) ⟨rfl, rfl⟩))
noncomputable def costW (c : Costs) (l : List TS) (cols : List (List Int)) : Int × Int := if usV c l ≠ 0 then (0, usV c l) else if okC l cols = true then (totZ c l cols, 0) else (0, 19)
theorem costSum19_spec (c : Costs) (A : Option Addr) (n ca : Nat) (l : List TS) (x : Value) (cols : List (List Int)) (w : World) (hg : Grp w A n l) (hx : Rd (wr w) [x] [rowsD cols]) (hsz : cols.length ≤ 1000) :
    Spec Tryz.prog 34 [c.val, .slice A n ca, x] w (fun v R => v = .tuple #[.int .i64 (costW c l cols).1, .int .i64 (costW c l cols).2] ∧ R = []) := by
  have hx0 := hx
  have hn := hg.hn
  have hb := hg.hb
  obtain ⟨Ak, ck, csk, rfl, hck1, hck2, hcs, hrows⟩ := hx.tabS
  refine spec_of sg Tryz.func34 rfl rfl rfl ?_
  refine T_op (OpT.box (cs := c.cells) rfl rfl rfl rfl rfl rfl rfl (fun pc => ?_))
  repeat' (first | refine d1 ?_ | refine dd ?_ | (show T _ (.ops _ (_ :: _) :: _) _ _ _; first | refine T_call rfl rfl rfl rfl rfl (fun w hw => usable19_spec c A n ca l w (hg.cls hw)) ?_ | refine T_callC rfl rfl rfl rfl rfl rfl rfl (fun hg w hw => usable19_spec c A n ca l w (hg.cls hw)) ?_) | (show T _ (.run _ _ (_ :: _) _ _ :: _) _ _ _; first | refine rc rfl rfl rfl rfl rfl rfl rfl (fun w hw => usable19_spec c A n ca l w (hg.cls hw)) ?_ | refine rcG rfl rfl rfl rfl rfl rfl rfl rfl rfl (fun hg w hw => usable19_spec c A n ca l w (hg.cls hw)) ?_) | (show ∀ _ : Nat, T _ _ _ _ _; intro _))
  refine T_if rfl (fun h => ?_) (fun h => ?_)
  · simp only [Bool.not_eq_true', decide_eq_false_iff_not] at h
    have e : costW c l cols = (0, usV c l) := if_pos h
    rw [e]
    repeat' (first | refine d1 ?_ | refine dd ?_ | (show ∀ _ : Nat, T _ _ _ _ _; intro _) | (show T _ (.code .ret :: _) _ _ _; refine T_retV [] rfl (Hle.none _) ⟨rfl, rfl⟩))
  simp only [Bool.not_eq_false', decide_eq_true_eq] at h
  repeat' (first | refine d1 ?_ | refine dd ?_ | (show T _ (.ops _ (_ :: _) :: _) _ _ _; first | refine T_call rfl rfl rfl rfl rfl (fun w hw => aligned19_spec A n ca l _ cols w (hg.cls hw) (hx0.old hw)) ?_ | refine T_callC rfl rfl rfl rfl rfl rfl rfl (fun hg w hw => aligned19_spec A n ca l _ cols w (hg.cls hw) (hx0.old hw)) ?_) | (show T _ (.run _ _ (_ :: _) _ _ :: _) _ _ _; first | refine rc rfl rfl rfl rfl rfl rfl rfl (fun w hw => aligned19_spec A n ca l _ cols w (hg.cls hw) (hx0.old hw)) ?_ | refine rcG rfl rfl rfl rfl rfl rfl rfl rfl rfl (fun hg w hw => aligned19_spec A n ca l _ cols w (hg.cls hw) (hx0.old hw)) ?_) | (show ∀ _ : Nat, T _ _ _ _ _; intro _))
  refine T_if rfl (fun h1 => ?_) (fun h1 => ?_)
  · have e : costW c l cols = (0, 19) := by unfold costW; rw [if_neg (by simpa using h), if_neg (by simpa using h1)]
    rw [e]
    repeat' (first | refine d1 ?_ | refine dd ?_ | (show ∀ _ : Nat, T _ _ _ _ _; intro _) | (show T _ (.code .ret :: _) _ _ _; refine T_retV [] rfl (Hle.none _) ⟨rfl, rfl⟩))
  have hok1 : okC l cols = true := by simpa using h1
  have hok : ColsOk (lens l) cols := Classical.byContradiction fun h9 => by rw [okC_false h9] at hok1; cases hok1
  have h0 : l.length ≠ 0 := fun h9 => by unfold usV at h; rw [if_pos h9] at h; omega
  have hck : ck21 c l = 0 := by unfold usV at h; rwa [if_neg h0] at h
  obtain ⟨hc, hbs⟩ := ck21_ok hck
  have e : costW c l cols = (totZ c l cols, 0) := by unfold costW; rw [if_neg (by simpa using h), if_pos hok1]
  rw [e]
  repeat' (first | refine d1 ?_ | refine dd ?_ | (show ∀ _ : Nat, T _ _ _ _ _; intro _))
  refine T_loopX (fun i : Nat => [(24, .int .i64 i), (9, .int .i64 (totZ c l (cols.take i)))]) (fun _ => [blk pc c.cells 23]) (fun i => i ≤ cols.length) (fun i => cols.length - i) 0 (Nat.zero_le _) ?_
  intro i hi
  repeat' (first | refine d1 ?_ | refine dd ?_ | (show ∀ _ : Nat, T _ _ _ _ _; intro _))
  refine T_if rfl (fun h3 => ?_) (fun h3 => ?_)
  · simp only [decide_eq_true_eq] at h3
    have hin : i < cols.length := by omega
    obtain ⟨b, o, rfl⟩ := hcs.base (by omega)
    obtain ⟨r, hr⟩ : ∃ r, cols[i]? = some r := ⟨_, List.getElem?_eq_getElem hin⟩
    have hrm := List.mem_of_getElem? hr
    obtain ⟨Au, capu, hu, -, -, hA⟩ := hrows.tabRow hr
    have hco : ColOk l r := ColsOk.colOk (l := l) hok hrm
    have hrl : r.length = n := by rw [hco.1, hn]
    have hr0 := rowHd hcs hin hu
    have hsr := rowSrc hA
    rw [hrl] at hr0 hsr
    have htk := take_snoc _ _ _ hr
    have hs : totZ c l (cols.take (i + 1)) = totZ c l (cols.take i) + colZ c l r := by rw [htk, totZ_app, totZ_cons]; show _ = totZ c l (cols.take i) + colZ c l r; unfold totZ; simp
    have b1 := totZ_bd hc (l := l) (by omega) (cols.take i)
    have b2 := colZ_bd hc (l := l) (by omega) r
    have b3 : ((cols.take i).length : Int) ≤ 999 := by rw [List.length_take]; omega
    repeat' (first | refine d1 ?_ | refine dd ?_ | (show T _ (.ops _ (_ :: _) :: _) _ _ _; first | refine T_call rfl rfl rfl rfl rfl (fun w hw => cost19_spec c A Au n ca capu l r w (hg.cls hw) hc hbs (src_below hsr hw.below) hco) ?_ | refine T_callC rfl rfl rfl rfl rfl rfl rfl (fun hg w hw => cost19_spec c A Au n ca capu l r w (hg.cls hw) hc hbs (src_below hsr hw.below) hco) ?_) | (show T _ (.run _ _ (_ :: _) _ _ :: _) _ _ _; first | refine rc rfl rfl rfl rfl rfl rfl rfl (fun w hw => cost19_spec c A Au n ca capu l r w (hg.cls hw) hc hbs (src_below hsr hw.below) hco) ?_ | refine rcG rfl rfl rfl rfl rfl rfl rfl rfl rfl (fun hg w hw => cost19_spec c A Au n ca capu l r w (hg.cls hw) hc hbs (src_below hsr hw.below) hco) ?_) | (show ∀ _ : Nat, T _ _ _ _ _; intro _))
    refine T_if rfl (fun h4 => by exfalso; simp at h4; omega) (fun _ => ?_)
    repeat' (first | refine d1 ?_ | refine dd ?_ | (show ∀ _ : Nat, T _ _ _ _ _; intro _))
    exact T_backX (i + 1) (by omega) (by omega) (hE := ⟨rfl, by rw [hs]; rfl, trivial⟩)
  · simp only [decide_eq_false_iff_not] at h3
    obtain rfl : i = cols.length := by omega
    rw [List.take_of_length_le (Nat.le_refl _)]
    repeat' (first | refine d1 ?_ | refine dd ?_ | (show ∀ _ : Nat, T _ _ _ _ _; intro _) | (show T _ (.code .ret :: _) _ _ _; refine T_retV [] rfl (Hle.none _) ⟨rfl, rfl⟩))
noncomputable def alV (l : List TS) (cols : List (List Int)) : Int := if l.length = 0 ∧ cols.length = 0 then 0 else if chkC l cols = 0 then 0 else 19
theorem aligned21_spec (A : Option Addr) (n ca : Nat) (l : List TS) (x : Value) (cols : List (List Int)) (w : World) (hg : Grp w A n l) (hx : Rd (wr w) [x] [rowsD cols]) :
    Spec Tryz.prog 100 [.slice A n ca, x] w (fun v R => v = .int .i64 (alV l cols) ∧ R = []) := by
  have hx0 := hx
  have hn := hg.hn
  obtain ⟨Ak, ck, csk, rfl, hck1, hck2, hcs, hrows⟩ := hx.tabS
  refine spec_of sg Tryz.func100 rfl rfl rfl ?_
  repeat' (first | refine d1 ?_ | refine dd ?_ | (show ∀ _ : Nat, T _ _ _ _ _; intro _))
  refine T_if rfl (fun h1 => ?_) (fun h1 => ?_)
  · simp only [Bool.and_eq_true, decide_eq_true_eq] at h1
    have c1 : l.length = 0 ∧ cols.length = 0 := by omega
    have e : alV l cols = 0 := if_pos c1
    rw [e]
    repeat' (first | refine d1 ?_ | refine dd ?_ | (show ∀ _ : Nat, T _ _ _ _ _; intro _) | (show T _ (.code .ret :: _) _ _ _; refine T_retV [] rfl (Hle.none _) ⟨rfl, rfl⟩))
  have h2 : ¬ (l.length = 0 ∧ cols.length = 0) := fun h9 => by
    rw [decide_eq_true (show (n : Int) = 0 by omega), decide_eq_true (show (cols.length : Int) = 0 by omega)] at h1
    cases h1
  repeat' (first | refine d1 ?_ | refine dd ?_ | (show T _ (.ops _ (_ :: _) :: _) _ _ _; first | refine T_call rfl rfl rfl rfl rfl (fun w hw => check19_spec A n ca l _ cols w (hg.cls hw) (hx0.old hw)) ?_ | refine T_callC rfl rfl rfl rfl rfl rfl rfl (fun hg w hw => check19_spec A n ca l _ cols w (hg.cls hw) (hx0.old hw)) ?_) | (show T _ (.run _ _ (_ :: _) _ _ :: _) _ _ _; first | refine rc rfl rfl rfl rfl rfl rfl rfl (fun w hw => check19_spec A n ca l _ cols w (hg.cls hw) (hx0.old hw)) ?_ | refine rcG rfl rfl rfl rfl rfl rfl rfl rfl rfl (fun hg w hw => check19_spec A n ca l _ cols w (hg.cls hw) (hx0.old hw)) ?_) | (show ∀ _ : Nat, T _ _ _ _ _; intro _))
  refine T_if rfl (fun h3 => ?_) (fun h3 => ?_)
  · simp only [Bool.not_eq_true', decide_eq_false_iff_not] at h3
    have e : alV l cols = 19 := by unfold alV; rw [if_neg h2, if_neg h3]
    rw [e]
    repeat' (first | refine d1 ?_ | refine dd ?_ | (show ∀ _ : Nat, T _ _ _ _ _; intro _) | (show T _ (.code .ret :: _) _ _ _; refine T_retV [] rfl (Hle.none _) ⟨rfl, rfl⟩))
  · simp only [Bool.not_eq_false', decide_eq_true_eq] at h3
    have e : alV l cols = 0 := by unfold alV; rw [if_neg h2, if_pos h3]
    rw [e]
    repeat' (first | refine d1 ?_ | refine dd ?_ | (show ∀ _ : Nat, T _ _ _ _ _; intro _) | (show T _ (.code .ret :: _) _ _ _; refine T_retV [] rfl (Hle.none _) ⟨rfl, rfl⟩))
theorem total21_spec (c : Costs) (A : Option Addr) (n ca : Nat) (l : List TS) (x : Value) (cols : List (List Int)) (w : World) (hg : Grp w A n l) (hc : costE c = 0) (hbs : badS l = false) (hx : Rd (wr w) [x] [rowsD cols]) (hcols : ∀ r ∈ cols, ColOk l r) (hsz : cols.length ≤ 100000) :
    Spec Tryz.prog 101 [c.val, .slice A n ca, x] w (fun v R => v = .int .i64 (totZ c l cols) ∧ R = []) := by
  have hn := hg.hn
  subst hn
  have hb := hg.hb
  obtain ⟨Ak, ck, csk, rfl, hck1, hck2, hcs, hrows⟩ := hx.tabS
  refine spec_of sg Tryz.func101 rfl rfl rfl ?_
  refine T_op (OpT.box (cs := c.cells) rfl rfl rfl rfl rfl rfl rfl (fun pc => ?_))
  repeat' (first | refine d1 ?_ | refine dd ?_ | (show ∀ _ : Nat, T _ _ _ _ _; intro _))
  refine T_loopX (fun i : Nat => [(18, .int .i64 i), (7, .int .i64 (totZ c l (cols.take i)))]) (fun _ => [blk pc c.cells 23]) (fun i => i ≤ cols.length) (fun i => cols.length - i) 0 (Nat.zero_le _) ?_
  intro i hi
  repeat' (first | refine d1 ?_ | refine dd ?_ | (show ∀ _ : Nat, T _ _ _ _ _; intro _))
  refine T_if rfl (fun h3 => ?_) (fun h3 => ?_)
  · simp only [decide_eq_true_eq] at h3
    have hin : i < cols.length := by omega
    obtain ⟨b, o, rfl⟩ := hcs.base (by omega)
    obtain ⟨r, hr⟩ : ∃ r, cols[i]? = some r := ⟨_, List.getElem?_eq_getElem hin⟩
    have hrm := List.mem_of_getElem? hr
    obtain ⟨Au, capu, hu, -, -, hA⟩ := hrows.tabRow hr
    have hco : ColOk l r := hcols r hrm
    have hrl : r.length = l.length := hco.1
    have hr0 := rowHd hcs hin hu
    have hsr := rowSrc hA
    rw [hrl] at hr0 hsr
    have htk := take_snoc _ _ _ hr
    have hs : totZ c l (cols.take (i + 1)) = totZ c l (cols.take i) + colZ c l r := by rw [htk, totZ_app, totZ_cons]; show _ = totZ c l (cols.take i) + colZ c l r; unfold totZ; simp
    have q1 := totZ_bd hc (l := l) (by omega) (cols.take i)
    have q2 := colZ_bd hc (l := l) (by omega) r
    have q3 : ((cols.take i).length : Int) ≤ 100000 := by rw [List.length_take]; omega
    repeat' (first | refine d1 ?_ | (show ∀ _ : Nat, T _ _ _ _ _; intro _))
    refine T_cutX 1 [10, 11] (fun s : Nat × Nat => [(10, .slice (some ⟨s.1, 0, none⟩) l.length l.length), (11, .slice (some ⟨s.2, 0, none⟩) l.length l.length)]) (fun s => [blk s.1 (madeCells (noTok.val).cells (l.length * (noTok.val).cells.size)).toList 80, blk s.2 (List.replicate l.length (.bool false)) 4, blk pc c.cells 23]) (fun _ => True) ?_ ?_
    · refine dw0 1000 [blk pc c.cells 23] ?_
      repeat' (first | (show T _ (.draw _ _ _ _ _ :: _) _ _ _; first | refine dw1 ?_ | refine dwb rfl (by decide +kernel) ?_) | (show AllL _ []; exact True.intro) | (show AllL _ (_ :: _); refine ⟨?_, ?_⟩) | (show OpT _ _ _ _ _ _ _; first | refine dwx ?_ | refine OpT.makeC rfl rfl rfl rfl rfl rfl (by dsimp only; omega) (fun b2 => ⟨fun _ => (by first | exact Hle.none _ | exact Hle.sub | exact absurd ‹_› (by decide +kernel)), ?_⟩) | refine OpT.make rfl rfl rfl rfl rfl rfl rfl rfl rfl (by dsimp only; omega) (fun b3 => ⟨fun _ => (by first | exact Hle.none _ | exact Hle.sub | exact absurd ‹_› (by decide +kernel)), ?_⟩)) | (show ∀ _ : Nat, T _ _ _ _ _; intro _) | (show T _ (.mark _ :: _) _ _ _; exact T_meetX (_, _) trivial (hG := by exact Hle.srt)))
    rintro ⟨b2, b3⟩ _
    dsimp only
    refine T_le (H' := [blk b2 ((ownJ l r 0).flatMap Tok.cells) 80, blk b3 ((thJ l r 0).map Value.bool) 4, blk pc c.cells 23]) (by rw [ownJ_zero, thJ_zero, made_toks, List.map_replicate]; exact Hle.refl _) ?_
    repeat' (first | refine d1 ?_ | refine dd ?_ | (show ∀ _ : Nat, T _ _ _ _ _; intro _))
    refine T_loopX (fun k : Nat => [(30, .int .i64 k)]) (fun k => [blk b2 ((ownJ l r k).flatMap Tok.cells) 80, blk b3 ((thJ l r k).map Value.bool) 4, blk pc c.cells 23]) (fun k => k ≤ l.length) (fun k => l.length - k) 0 (Nat.zero_le _) ?_
    intro k hk
    repeat' (first | refine d1 ?_ | refine dd ?_ | (show ∀ _ : Nat, T _ _ _ _ _; intro _))
    refine T_if rfl (fun h => ?_) (fun h => ?_)
    · simp only [decide_eq_true_eq] at h
      have hkn : k < l.length := by omega
      obtain ⟨b1, o1, rfl⟩ := hsr.base (by omega)
      obtain ⟨b5, o5, rfl⟩ := hg.hs.base (by omega)
      obtain ⟨s, hs9, hsmem, hr9⟩ := hg.get hkn
      obtain ⟨z, hz⟩ : ∃ z, r[k]? = some z := ⟨_, List.getElem?_eq_getElem (by omega)⟩
      have hr1 := src_int hsr hkn hz
      obtain ⟨hz1, hz2⟩ := hco.2 k z s hz hs9
      have hsl := hg.ok.len s hsmem
      have hsn := hg.nb s hsmem
      have hzd : r.getD k (-1) = z := by rw [List.getD_eq_getElem?_getD, hz]; rfl
      repeat' (first | refine d1 ?_ | refine dd ?_ | (show ∀ _ : Nat, T _ _ _ _ _; intro _))
      refine T_if rfl (fun h1 => ?_) (fun h1 => ?_)
      · simp only [decide_eq_true_eq] at h1
        obtain ⟨b4, o4, hsA⟩ := (hg.ok.src s hsmem).base (by omega)
        have hsr2 : RdC w b4 (o4 + z.toNat * 6) (tkA s.l z.toNat).cells := (hsA ▸ hg.ok.src s hsmem : Src w 6 (some ⟨b4, o4, none⟩) s.n (s.l.flatMap Tok.cells)).getT (k := z.toNat) (by omega) (tkA_get (by omega))
        rw [hsA] at hr9
        repeat' (first | refine d1 ?_ | refine dd ?_ | (show T _ (.ops _ (_ :: _) :: _) _ _ _; first | refine T_op (OpT.storeA (us := (tkA s.l z.toNat).cells) rfl rfl rfl rfl rfl rfl (by rw [flatT_length, ownJ_len, show (tkA s.l z.toNat).cells.length = 6 from rfl]; omega) ?_) | refine T_op (OpT.store rfl rfl rfl rfl (by rw [List.length_map, thJ_len]; omega) ?_)) | (show ∀ _ : Nat, T _ _ _ _ _; intro _))
        refine T_backX (k + 1) (by omega) (by omega) (hG := ?_)
        have e1 := ownJ_tok (l := l) (col := r) hkn (by rw [hzd]; exact h1)
        have e2 := thJ_tok (l := l) (col := r) hkn (by rw [hzd]; exact h1)
        rw [hzd, tsA_eq hs9] at e1
        rw [← e1, ← e2, ← flatTok_set _ _ _ (by rw [ownJ_len]; exact hkn), List.map_set, show 0 + (k : Int).toNat * 6 = k * 6 by omega, show 0 + (k : Int).toNat * 1 = k by omega]
        exact Hle.refl _
      · simp only [decide_eq_false_iff_not] at h1
        repeat' (first | refine d1 ?_ | refine dd ?_ | (show ∀ _ : Nat, T _ _ _ _ _; intro _))
        exact T_backX (k + 1) (by omega) (by omega) (hG := by rw [ownJ_gap (by rw [hzd]; exact h1), thJ_gap (by rw [hzd]; exact h1)]; exact Hle.refl _)
    · simp only [decide_eq_false_iff_not] at h
      obtain rfl : k = l.length := by omega
      repeat' (first | refine d1 ?_ | refine dd ?_ | (show T _ (.ops _ (_ :: _) :: _) _ _ _; first | refine T_call rfl rfl rfl rfl rfl (fun w hw => columnPrg_spec c (some ⟨b2, 0, none⟩) (some ⟨b3, 0, none⟩) l.length l.length l.length l.length (ownJ l r l.length) (thJ l r l.length) w (hg.hst.cls hw) (Src.own hw (by rw [flatT_length, ownJ_len])) (ownJ_len _ _ _) (by omega) (Src.own hw (by rw [List.length_map, thJ_len, Nat.mul_one])) (thJ_len _ _ _) (by omega) (ownJ_small hg hco _)) ?_ | refine T_callC rfl rfl rfl rfl rfl rfl rfl (fun hg w hw => columnPrg_spec c (some ⟨b2, 0, none⟩) (some ⟨b3, 0, none⟩) l.length l.length l.length l.length (ownJ l r l.length) (thJ l r l.length) w (hg.hst.cls hw) (Src.own hw (by rw [flatT_length, ownJ_len])) (ownJ_len _ _ _) (by omega) (Src.own hw (by rw [List.length_map, thJ_len, Nat.mul_one])) (thJ_len _ _ _) (by omega) (ownJ_small hg hco _)) ?_) | (show T _ (.run _ _ (_ :: _) _ _ :: _) _ _ _; first | refine rc rfl rfl rfl rfl rfl rfl rfl (fun w hw => columnPrg_spec c (some ⟨b2, 0, none⟩) (some ⟨b3, 0, none⟩) l.length l.length l.length l.length (ownJ l r l.length) (thJ l r l.length) w (hg.hst.cls hw) (Src.own hw (by rw [flatT_length, ownJ_len])) (ownJ_len _ _ _) (by omega) (Src.own hw (by rw [List.length_map, thJ_len, Nat.mul_one])) (thJ_len _ _ _) (by omega) (ownJ_small hg hco _)) ?_ | refine rcG rfl rfl rfl rfl rfl rfl rfl rfl rfl (fun hg w hw => columnPrg_spec c (some ⟨b2, 0, none⟩) (some ⟨b3, 0, none⟩) l.length l.length l.length l.length (ownJ l r l.length) (thJ l r l.length) w (hg.hst.cls hw) (Src.own hw (by rw [flatT_length, ownJ_len])) (ownJ_len _ _ _) (by omega) (Src.own hw (by rw [List.length_map, thJ_len, Nat.mul_one])) (thJ_len _ _ _) (by omega) (ownJ_small hg hco _)) ?_) | (show ∀ _ : Nat, T _ _ _ _ _; intro _))
      rw [own_colV hg hc hbs hco]
      repeat' (first | refine d1 ?_ | refine dd ?_ | (show ∀ _ : Nat, T _ _ _ _ _; intro _))
      exact T_backX (i + 1) (by omega) (by omega) (hE := ⟨rfl, by rw [hs]; rfl, trivial⟩) (hG := Hle.nth 2 rfl)
  · simp only [decide_eq_false_iff_not] at h3
    obtain rfl : i = cols.length := by omega
    rw [List.take_of_length_le (Nat.le_refl _)]
    repeat' (first | refine d1 ?_ | refine dd ?_ | (show ∀ _ : Nat, T _ _ _ _ _; intro _) | (show T _ (.code .ret :: _) _ _ _; refine T_retV [] rfl (Hle.none _) ⟨rfl, rfl⟩))
end Go.Proofs.YtofikdpbagnjbaaGreatDoor
namespace Go.Proofs.YtofikdpbagnjbaaGreatDoor
open Go.RowKit Go.Shelf Go.Proofs
set_option maxRecDepth 100000
set_option maxHeartbeats 1000000

theorem fine21a_spec (t : Tok) (w : World) : Spec Tryz.prog 89 [t.val] w (fun v A => v = .bool (!decide (tokE t = 0)) ∧ A = []) := by
  refine spec_of sg Tryz.func89 rfl rfl rfl ?_
  repeat' (first | (show T _ (.ops _ (⟨_, .box _ _, _, _, _, _⟩ :: _) :: _) _ _ _; refine T_op (OpT.box (cs := t.cells) rfl rfl rfl rfl rfl rfl rfl (fun _ => ?_))) | refine d1 ?_ | refine dd ?_ | (show T _ (.ops _ (_ :: _) :: _) _ _ _; first | refine T_call rfl rfl rfl rfl rfl (fun w hw => tokRef_spec t w) ?_ | refine T_callC rfl rfl rfl rfl rfl rfl rfl (fun hg w hw => tokRef_spec t w) ?_) | (show T _ (.run _ _ (_ :: _) _ _ :: _) _ _ _; first | refine rc rfl rfl rfl rfl rfl rfl rfl (fun w hw => tokRef_spec t w) ?_ | refine rcG rfl rfl rfl rfl rfl rfl rfl rfl rfl (fun hg w hw => tokRef_spec t w) ?_) | (show ∀ _ : Nat, T _ _ _ _ _; intro _) | (show T _ (.code .ret :: _) _ _ _; refine T_retV [] rfl (Hle.none _) ⟨rfl, rfl⟩))
theorem fine21b_spec (A : Option Addr) (n c : Nat) (l : List Tok) (w : World) (hs : Src w 6 A n (l.flatMap Tok.cells)) (hn : l.length = n) (hb : n ≤ 9223372036854775807) :
    Spec Tryz.prog 87 [.slice A n c] w (fun v R => v = .bool (badL l) ∧ R = []) := by
  refine spec_of sg Tryz.func87 rfl rfl rfl ?_
  repeat' (first | refine d1 ?_ | refine dd ?_ | (show T _ (.ops _ (_ :: _) :: _) _ _ _; first | refine T_call rfl rfl rfl rfl rfl (fun w hw => containsFuncT_spec A n c l _ [] [] (fun t => !decide (tokE t = 0)) w (rdSrc hs w hw) hn hb (fun x hx w' hb' => fine21a_spec x w')) ?_ | refine T_callC rfl rfl rfl rfl rfl rfl rfl (fun hg w hw => containsFuncT_spec A n c l _ [] [] (fun t => !decide (tokE t = 0)) w (rdSrc hs w hw) hn hb (fun x hx w' hb' => fine21a_spec x w')) ?_) | (show T _ (.run _ _ (_ :: _) _ _ :: _) _ _ _; first | refine rc rfl rfl rfl rfl rfl rfl rfl (fun w hw => containsFuncT_spec A n c l _ [] [] (fun t => !decide (tokE t = 0)) w (rdSrc hs w hw) hn hb (fun x hx w' hb' => fine21a_spec x w')) ?_ | refine rcG rfl rfl rfl rfl rfl rfl rfl rfl rfl (fun hg w hw => containsFuncT_spec A n c l _ [] [] (fun t => !decide (tokE t = 0)) w (rdSrc hs w hw) hn hb (fun x hx w' hb' => fine21a_spec x w')) ?_) | (show ∀ _ : Nat, T _ _ _ _ _; intro _) | (show T _ (.code .ret :: _) _ _ _; refine T_retV [] rfl (Hle.none _) ⟨rfl, rfl⟩))
noncomputable def fineV (c : Costs) (l : List TS) : Bool := decide (costE c = 0) && !great21B l && !badS l
theorem fine21_spec (c : Costs) (A : Option Addr) (n ca : Nat) (l : List TS) (w : World) (hs : Src w 1 A n (l.map TS.val)) (hn : l.length = n) (hb : n ≤ 9223372036854775807) (hl : TsOk w l) :
    Spec Tryz.prog 29 [c.val, .slice A n ca] w (fun v R => v = .bool (fineV c l) ∧ R = []) := by
  refine spec_of sg Tryz.func29 rfl rfl rfl ?_
  repeat' (first | (show T _ (.ops _ (⟨_, .box _ _, _, _, _, _⟩ :: _) :: _) _ _ _; refine T_op (OpT.box (cs := c.cells) rfl rfl rfl rfl rfl rfl rfl (fun _ => ?_))) | refine d1 ?_ | refine dd ?_ | (show T _ (.ops _ (_ :: _) :: _) _ _ _; first | refine T_call rfl rfl rfl rfl rfl (fun w hw => costRef_spec c w) ?_ | refine T_callC rfl rfl rfl rfl rfl rfl rfl (fun hg w hw => costRef_spec c w) ?_ | refine T_call rfl rfl rfl rfl rfl (fun w hw => great21_spec A n ca l w (rdSrc hs w hw) hn hb ⟨fun t ht => src_below (hl.src t ht) hw.below, hl.len, hl.bd⟩) ?_ | refine T_callC rfl rfl rfl rfl rfl rfl rfl (fun hg w hw => great21_spec A n ca l w (rdSrc hs w hw) hn hb ⟨fun t ht => src_below (hl.src t ht) hw.below, hl.len, hl.bd⟩) ?_) | (show T _ (.run _ _ (_ :: _) _ _ :: _) _ _ _; first | refine rc rfl rfl rfl rfl rfl rfl rfl (fun w hw => costRef_spec c w) ?_ | refine rcG rfl rfl rfl rfl rfl rfl rfl rfl rfl (fun hg w hw => costRef_spec c w) ?_ | refine rc rfl rfl rfl rfl rfl rfl rfl (fun w hw => great21_spec A n ca l w (rdSrc hs w hw) hn hb ⟨fun t ht => src_below (hl.src t ht) hw.below, hl.len, hl.bd⟩) ?_ | refine rcG rfl rfl rfl rfl rfl rfl rfl rfl rfl (fun hg w hw => great21_spec A n ca l w (rdSrc hs w hw) hn hb ⟨fun t ht => src_below (hl.src t ht) hw.below, hl.len, hl.bd⟩) ?_) | (show ∀ _ : Nat, T _ _ _ _ _; intro _))
  refine T_if rfl (fun h => ?_) (fun h => ?_)
  · repeat' (first | refine d1 ?_ | refine dd ?_ | (show ∀ _ : Nat, T _ _ _ _ _; intro _) | (show T _ (.code .ret :: _) _ _ _; refine T_retV [] rfl (Hle.none _) ⟨congrArg Value.bool ?_, rfl⟩))
    unfold fineV
    by_cases hc : costE c = 0
    · simp [hc] at h; simp [h]
    · simp [hc]
  · repeat' (first | refine d1 ?_ | refine dd ?_ | (show T _ (.ops _ (_ :: _) :: _) _ _ _; first | refine T_call rfl rfl rfl rfl rfl (fun w hw => containsFuncS_spec A n ca l _ [] [] (fun t => badL t.l) w (rdSrc hs w hw) hn hb (fun x hx w' hb' => fine21b_spec x.A x.n x.cap x.l w' (src_below (hl.src x hx) (hw.below.trans (hb'.mono hw.below.size))) (hl.len x hx) (hl.bd x hx))) ?_ | refine T_callC rfl rfl rfl rfl rfl rfl rfl (fun hg w hw => containsFuncS_spec A n ca l _ [] [] (fun t => badL t.l) w (rdSrc hs w hw) hn hb (fun x hx w' hb' => fine21b_spec x.A x.n x.cap x.l w' (src_below (hl.src x hx) (hw.below.trans (hb'.mono hw.below.size))) (hl.len x hx) (hl.bd x hx))) ?_) | (show T _ (.run _ _ (_ :: _) _ _ :: _) _ _ _; first | refine rc rfl rfl rfl rfl rfl rfl rfl (fun w hw => containsFuncS_spec A n ca l _ [] [] (fun t => badL t.l) w (rdSrc hs w hw) hn hb (fun x hx w' hb' => fine21b_spec x.A x.n x.cap x.l w' (src_below (hl.src x hx) (hw.below.trans (hb'.mono hw.below.size))) (hl.len x hx) (hl.bd x hx))) ?_ | refine rcG rfl rfl rfl rfl rfl rfl rfl rfl rfl (fun hg w hw => containsFuncS_spec A n ca l _ [] [] (fun t => badL t.l) w (rdSrc hs w hw) hn hb (fun x hx w' hb' => fine21b_spec x.A x.n x.cap x.l w' (src_below (hl.src x hx) (hw.below.trans (hb'.mono hw.below.size))) (hl.len x hx) (hl.bd x hx))) ?_) | (show ∀ _ : Nat, T _ _ _ _ _; intro _) | (show T _ (.code .ret :: _) _ _ _; refine T_retV [] rfl (Hle.none _) ⟨congrArg Value.bool ?_, rfl⟩))
    unfold fineV badS
    by_cases hc : costE c = 0
    · simp [hc] at h; simp [hc, h]
    · exfalso; simp [hc] at h
theorem fineV_ok {c : Costs} {l : List TS} (h : fineV c l = true) : costE c = 0 ∧ great21B l = false ∧ badS l = false ∧ ck21 c l = 0 := by
  unfold fineV at h
  simp only [Bool.and_eq_true, Bool.not_eq_true', decide_eq_true_eq] at h
  exact ⟨h.1.1, h.1.2, h.2, if_pos ⟨h.1.1, h.2⟩⟩
def repU (n m : Nat) (u : Value) : List Value := List.replicate m u ++ List.replicate (n - m) (.slice none 0 0)
theorem repU_len {n m : Nat} (u : Value) (h : m ≤ n) : (repU n m u).length = n := by simp [repU]; omega
theorem repU_all (n : Nat) (u : Value) : repU n n u = List.replicate n u := by simp [repU]
theorem oneU {u : Value} (hu : oneCells [u] = true) : ∀ k, oneCells (List.replicate k u) = true
  | 0 => rfl
  | k + 1 => by
    have ih := oneU hu k
    rw [List.replicate_succ]
    show (u.oneCell' && oneCells (List.replicate k u)) = true
    have h1 : (u.oneCell' && true) = true := hu
    rw [ih]; exact h1
theorem repU_set {n m k : Nat} (u : Value) (h : m + k ≤ n) : setL (repU n m u) m (List.replicate k u) = repU n (m + k) u := by
  rw [setL_eq _ _ _ (by rw [List.length_replicate, repU_len u (by omega)]; exact h)]
  unfold repU
  rw [List.take_append_of_le_length (by simp), List.take_of_length_le (by simp), List.length_replicate, List.drop_append, List.drop_eq_nil_of_le (by simp), List.nil_append, List.length_replicate, List.drop_replicate, ← List.append_assoc, List.replicate_append_replicate, show n - m - (m + k - m) = n - (m + k) by omega]
theorem repU_pre {n m k : Nat} (u : Value) (h : k ≤ m) : ∀ j v, (List.replicate k u)[j]? = some v → (repU n m u)[0 + j]? = some v := by
  intro j v hv
  have hj : j < k := by have := (List.getElem?_eq_some_iff.1 hv).1; simpa using this
  rw [List.getElem?_replicate, if_pos hj] at hv
  unfold repU
  rw [Nat.zero_add, List.getElem?_append_left (by simp; omega), List.getElem?_replicate, if_pos (by omega)]
  exact hv
theorem repeatS_spec (u : Value) (hu : oneCells [u] = true) (A : Option Addr) (ca n : Nat) (w : World) (hs : Src w 1 A 1 [u]) (hn : n ≤ 1000) :
    Spec Tryz.prog 31 [.slice A 1 ca, .int .i64 (n : Nat)] w (fun v R => ∃ b : Nat, True ∧ v = .slice (some ⟨b, 0, none⟩) n n ∧ R = [row 40 1 (some ⟨b, 0, none⟩) n n (List.replicate n u)]) := by
  refine spec_of sg Tryz.func31 rfl rfl rfl ?_
  repeat' (first | refine d1 ?_ | refine dd ?_ | (show ∀ _ : Nat, T _ _ _ _ _; intro _))
  refine T_if rfl (fun h => by exfalso; simp at h; omega) (fun h => ?_)
  repeat' (first | refine d1 ?_ | refine dd ?_ | (show T _ (.ops _ (_ :: _) :: _) _ _ _; first | refine T_call rfl rfl rfl rfl rfl (fun w hw => mulOne_spec n (by omega) w) ?_ | refine T_callC rfl rfl rfl rfl rfl rfl rfl (fun hg w hw => mulOne_spec n (by omega) w) ?_) | (show T _ (.run _ _ (_ :: _) _ _ :: _) _ _ _; first | refine rc rfl rfl rfl rfl rfl rfl rfl (fun w hw => mulOne_spec n (by omega) w) ?_ | refine rcG rfl rfl rfl rfl rfl rfl rfl rfl rfl (fun hg w hw => mulOne_spec n (by omega) w) ?_) | (show ∀ _ : Nat, T _ _ _ _ _; intro _))
  refine T_if rfl (fun h => ?_) (fun h => ?_)
  · exfalso
    simp at h
    omega
  repeat' (first | refine d1 ?_ | refine dd ?_ | (show T _ (.ops _ (_ :: _) :: _) _ _ _; refine T_op (OpT.make rfl rfl rfl rfl rfl rfl rfl rfl rfl (by dsimp only; omega) (fun b => ?_))) | (show ∀ _ : Nat, T _ _ _ _ _; intro _))
  refine T_le (H' := [row 40 1 (some ⟨b, 0, none⟩) n n (repU n 0 u)]) (Hle.weaken (i := 0) rfl (blk_row (sz := 1) (n := n) (by simp) (by simp only [maxLen]; omega)) rfl) ?_
  have hs1 : ∀ w', Cls w w' [row 40 1 (some ⟨b, 0, none⟩) n n (repU n 0 u)] → Src w' 1 A (min 1 n) (List.replicate (min 1 n) u) := fun w' hw' => by
    rcases Nat.eq_zero_or_pos n with h9 | h9
    · rw [h9]; exact ⟨rfl, fun h => absurd h (by simp)⟩
    · rw [Nat.min_eq_left h9]; exact src_below hs hw'.below
  repeat' (first | refine d1 ?_ | refine dd ?_ | (show T _ (.ops _ (_ :: _) :: _) _ _ _; refine T_op (OpT.copyR (g := b) (k := min 1 n) (us := List.replicate (min 1 n) u) rfl rfl rfl rfl rfl rfl rfl rfl rfl hs1 (oneU hu _) (by rw [List.length_replicate]; omega) ?_)) | (show ∀ _ : Nat, T _ _ _ _ _; intro _))
  rw [repU_set u (by omega), Nat.zero_add]
  refine T_loopX (fun m : Nat => [(8, .int .i64 m)]) (fun m => [row 40 1 (some ⟨b, 0, none⟩) n n (repU n m u)]) (fun m => m ≤ n ∧ (0 < n → 0 < m)) (fun m => n - m) (min 1 n) ⟨by omega, fun h => by omega⟩ ?_
  rintro m ⟨hm, hm0⟩
  repeat' (first | refine d1 ?_ | refine dd ?_ | (show ∀ _ : Nat, T _ _ _ _ _; intro _))
  refine T_if rfl (fun h1 => ?_) (fun h1 => ?_)
  · simp only [decide_eq_true_eq] at h1
    have hmn : m < n := by omega
    have hmp := hm0 (by omega)
    refine rsH [] 1000 [0, 1, 2, 3, 4, 5, 6, 7, 8, 9] ?_
    repeat' (first | refine d1 ?_ | refine dd ?_ | (show T _ (.run _ _ (_ :: _) _ _ :: _) _ _ _; refine ro rfl rfl (OpT.copyR (g := b) (k := min m (n - m)) (us := List.replicate (min m (n - m)) u) rfl rfl rfl rfl rfl rfl rfl (cutA_at (by omega)) rfl (fun w hw => ⟨by simp, fun h9 => ⟨rfl, rdRow (A := some ⟨b, 0, none⟩) (by omega) (repU_pre u (by omega)) w hw⟩⟩) (oneU hu _) (by rw [List.length_replicate]; omega) ⟨fun _ => Hle.none _, ?_⟩)) | (show ∀ _ : Nat, T _ _ _ _ _; intro _))
    rw [show (m : Int).toNat * 1 = m by omega, repU_set (n := n) (m := m) (k := min m (n - m)) u (by omega)]
    exact T_backX (m + min m (n - m)) ⟨by omega, fun _ => by omega⟩ (by omega)
  · simp only [decide_eq_false_iff_not] at h1
    obtain rfl : m = n := by omega
    rw [repU_all]
    repeat' (first | refine d1 ?_ | refine dd ?_ | (show ∀ _ : Nat, T _ _ _ _ _; intro _) | (show T _ (.code .ret :: _) _ _ _; refine T_retV _ rfl (Hle.refl _) ⟨b, trivial, rfl, rfl⟩))
end Go.Proofs.YtofikdpbagnjbaaGreatDoor
namespace Go.Proofs.YtofikdpbagnjbaaGreatDoor
open Go.RowKit Go.Shelf Go.Proofs
set_option maxRecDepth 100000
set_option maxHeartbeats 1000000

def greatC (cols : List (List Int)) : Bool := cols.any (fun r => decide (5 < r.length)) || decide (24 < cols.length)
theorem greatC_no {cols : List (List Int)} (h : greatC cols = false) : (∀ r ∈ cols, r.length ≤ 5) ∧ cols.length ≤ 24 := by
  unfold greatC at h
  rw [Bool.or_eq_false_iff, List.any_eq_false, decide_eq_false_iff_not] at h
  exact ⟨fun r hr => by have := h.1 r hr; simp at this; omega, by omega⟩
theorem greatC_spec (x : Value) (cols : List (List Int)) (w : World) (hx : Rd (wr w) [x] [rowsD cols]) : Spec Tryz.prog 37 [x] w (fun v R => v = .bool (greatC cols) ∧ R = []) := by
  obtain ⟨Ak, ck, csk, rfl, hck1, hck2, hcs, hrows⟩ := hx.tabS
  refine spec_of sg Tryz.func37 rfl rfl rfl ?_
  repeat' (first | refine d1 ?_ | refine dd ?_ | (show ∀ _ : Nat, T _ _ _ _ _; intro _))
  refine T_loopX (fun k : Nat => [(3, .int .i64 k)]) (fun _ => []) (fun k => k ≤ cols.length ∧ ∀ r ∈ cols.take k, r.length ≤ 5) (fun k => cols.length - k) 0 ⟨Nat.zero_le _, fun r h => by simp at h⟩ ?_
  rintro k ⟨hk, hok⟩
  repeat' (first | refine d1 ?_ | refine dd ?_ | (show ∀ _ : Nat, T _ _ _ _ _; intro _))
  refine T_if rfl (fun h => ?_) (fun h => ?_)
  · simp only [decide_eq_true_eq] at h
    have hkn : k < cols.length := by omega
    obtain ⟨b, o, rfl⟩ := hcs.base (by omega)
    obtain ⟨r, hr⟩ : ∃ r, cols[k]? = some r := ⟨_, List.getElem?_eq_getElem hkn⟩
    obtain ⟨Au, capu, hu, hcap1, hcap2, hA⟩ := hrows.tabRow hr
    have hr0 := rowHd hcs hkn hu
    have htk := take_snoc _ _ _ hr
    repeat' (first | refine d1 ?_ | refine dd ?_ | (show ∀ _ : Nat, T _ _ _ _ _; intro _))
    refine T_if rfl (fun h1 => ?_) (fun h1 => ?_)
    · simp only [decide_eq_true_eq] at h1
      repeat' (first | refine d1 ?_ | refine dd ?_ | (show ∀ _ : Nat, T _ _ _ _ _; intro _) | (show T _ (.code .ret :: _) _ _ _; refine T_retV [] rfl (Hle.none _) ⟨congrArg Value.bool ?_, rfl⟩))
      unfold greatC
      have h9 : (cols.any fun r => decide (5 < r.length)) = true := List.any_eq_true.2 ⟨r, List.mem_of_getElem? hr, by simp; omega⟩
      rw [h9]; rfl
    · simp only [decide_eq_false_iff_not] at h1
      repeat' (first | refine d1 ?_ | refine dd ?_ | (show ∀ _ : Nat, T _ _ _ _ _; intro _))
      refine T_backX (k + 1) ⟨by omega, fun y hy => ?_⟩ (by omega)
      rw [htk, List.mem_append, List.mem_singleton] at hy
      rcases hy with hy | rfl
      · exact hok y hy
      · omega
  · simp only [decide_eq_false_iff_not] at h
    obtain rfl : k = cols.length := by omega
    rw [List.take_of_length_le (Nat.le_refl _)] at hok
    repeat' (first | refine d1 ?_ | refine dd ?_ | (show ∀ _ : Nat, T _ _ _ _ _; intro _) | (show T _ (.code .ret :: _) _ _ _; refine T_retV [] rfl (Hle.none _) ⟨congrArg Value.bool ?_, rfl⟩))
    unfold greatC
    have h9 : (cols.any fun r => decide (5 < r.length)) = false := List.any_eq_false.2 fun r hr => by have := hok r hr; simp; omega
    rw [h9, Bool.false_or]
    by_cases h8 : 24 < cols.length
    · rw [decide_eq_true h8, decide_eq_true (by omega)]
    · rw [decide_eq_false h8, decide_eq_false (by omega)]
theorem alV_ok {l : List TS} {cols : List (List Int)} (h0 : l.length ≠ 0) (h : alV l cols = 0) : ColsOk (lens l) cols := by
  unfold alV at h
  rw [if_neg (fun h9 => h0 h9.1)] at h
  by_cases h1 : chkC l cols = 0
  · exact Classical.byContradiction fun h9 => by rw [chkC_bad h0 h9] at h1; omega
  · rw [if_neg h1] at h; omega
end Go.Proofs.YtofikdpbagnjbaaGreatDoor
namespace Go.Proofs.YtofikdpbagnjbaaGreatDoor

def prjR (keep : List Nat) (x : List Int) : List Int := keep.map fun s => x.getD s (-1)
def anyP (x : List Int) : Bool := x.any fun z => decide (0 ≤ z)
def prjC (keep : List Nat) (cols : List (List Int)) : List (List Int) := (cols.map (prjR keep)).filter anyP
theorem prjR_len (keep : List Nat) (x : List Int) : (prjR keep x).length = keep.length := by simp [prjR]
theorem prjR_get (keep : List Nat) (x : List Int) (j : Nat) : (prjR keep x)[j]? = (keep[j]?).map fun s => x.getD s (-1) := by unfold prjR; rw [List.getElem?_map]
theorem prjR_getD {keep : List Nat} {x : List Int} {j : Nat} (h : j < keep.length) : (prjR keep x).getD j (-1) = x.getD (keep.getD j 0) (-1) := by
  rw [List.getD_eq_getElem?_getD, prjR_get, List.getElem?_eq_getElem h, List.getD_eq_getElem?_getD (l := keep), List.getElem?_eq_getElem h]; rfl
theorem prjC_cons (keep : List Nat) (x : List Int) (cols : List (List Int)) : prjC keep (x :: cols) = if anyP (prjR keep x) = true then prjR keep x :: prjC keep cols else prjC keep cols := by
  unfold prjC
  rw [List.map_cons, List.filter_cons]
theorem anyP_iff {x : List Int} : anyP x = true ↔ ∃ z ∈ x, 0 ≤ z := by unfold anyP; rw [List.any_eq_true]; simp
theorem ColsOk.ge {ls : List Nat} {cols : List (List Int)} (h : ColsOk ls cols) {x : List Int} (hx : x ∈ cols) (s : Nat) : -1 ≤ x.getD s (-1) := by
  rw [List.getD_eq_getElem?_getD]
  cases hz : x[s]? with
  | none => simp
  | some z =>
    have hs : s < ls.length := by rw [← h.len x hx]; exact (List.getElem?_eq_some_iff.1 hz).1
    exact (h.entry hx (List.getElem?_eq_getElem hs) hz).1
theorem prj_src {keep : List Nat} {j : Nat} (hj : j < keep.length) : ∀ {cols : List (List Int)}, (∀ x ∈ cols, ∀ s, -1 ≤ x.getD s (-1)) → srcC (prjC keep cols) j = srcC cols (keep.getD j 0)
  | [], _ => rfl
  | x :: cols, h => by
    have ih := prj_src hj (cols := cols) fun y hy => h y (.tail _ hy)
    rw [prjC_cons, srcC_cons]
    by_cases hp : anyP (prjR keep x) = true
    · rw [if_pos hp, srcC_cons, ih, prjR_getD hj]
    · rw [if_neg hp, ih]
      have hz : x.getD (keep.getD j 0) (-1) = -1 := by
        have h1 := h x (.head _) (keep.getD j 0)
        refine Classical.byContradiction fun hne => hp (anyP_iff.2 ⟨(prjR keep x).getD j (-1), ?_, by rw [prjR_getD hj]; omega⟩)
        rw [List.getD_eq_getElem?_getD, List.getElem?_eq_getElem (by rw [prjR_len]; exact hj)]
        exact List.getElem_mem _
      rw [if_pos hz]; rfl
theorem prjC_ok {ls : List Nat} {cols : List (List Int)} (h : ColsOk ls cols) {keep : List Nat} (hk : ∀ s ∈ keep, s < ls.length) : ColsOk (keep.map fun s => ls.getD s 0) (prjC keep cols) := by
  refine ⟨fun x hx => ?_, fun x hx => ?_, fun j n hj => ?_⟩
  · unfold prjC at hx
    obtain ⟨y, -, rfl⟩ := List.mem_map.1 (List.mem_filter.1 hx).1
    rw [prjR_len, List.length_map]
  · unfold prjC at hx
    obtain ⟨z, hz, h0⟩ := anyP_iff.1 (List.mem_filter.1 hx).2
    exact ⟨z, hz, by omega⟩
  · have hjl : j < keep.length := by simpa using (List.getElem?_eq_some_iff.1 hj).1
    rw [List.getElem?_map, List.getElem?_eq_getElem hjl] at hj
    have e : keep.getD j 0 = keep[j] := by rw [List.getD_eq_getElem?_getD, List.getElem?_eq_getElem hjl]; rfl
    have hlt := hk _ (List.getElem_mem hjl)
    have hn : ls.getD keep[j] 0 = n := by simpa using hj
    rw [prj_src hjl fun x hx s => h.ge hx s, e]
    refine h.src _ n ?_
    rw [List.getD_eq_getElem?_getD, List.getElem?_eq_getElem hlt] at hn
    rw [List.getElem?_eq_getElem hlt]
    exact congrArg some hn
end Go.Proofs.YtofikdpbagnjbaaGreatDoor
namespace Go.Proofs.YtofikdpbagnjbaaGreatDoor

def InB : List Nat → List Nat → Prop
  | [], [] => True
  | n :: ls, a :: v => a ≤ n ∧ InB ls v
  | _, _ => False
theorem InB.len : ∀ {ls v : List Nat}, InB ls v → v.length = ls.length
  | [], [], _ => rfl
  | n :: ls, a :: v, h => by simp [InB.len h.2]
  | [], a :: v, h => h.elim
  | n :: ls, [], h => h.elim
theorem InB.get : ∀ {ls v : List Nat}, InB ls v → ∀ s, v.getD s 0 ≤ ls.getD s 0
  | [], [], _, s => by simp
  | n :: ls, a :: v, h, 0 => h.1
  | n :: ls, a :: v, h, s + 1 => by simpa using InB.get h.2 s
  | [], a :: v, h, _ => h.elim
  | n :: ls, [], h, _ => h.elim
theorem InB.of : ∀ {ls v : List Nat}, v.length = ls.length → (∀ s, v.getD s 0 ≤ ls.getD s 0) → InB ls v
  | [], [], _, _ => trivial
  | n :: ls, a :: v, hl, h => ⟨h 0, InB.of (by simpa using hl) fun s => by simpa using h (s + 1)⟩
  | [], a :: v, hl, _ => by simp at hl
  | n :: ls, [], hl, _ => by simp at hl
theorem InB.some : ∀ {ls v : List Nat}, InB ls v → v ≠ ls → ∃ s, s < ls.length ∧ v.getD s 0 < ls.getD s 0
  | [], [], _, h => (h rfl).elim
  | n :: ls, a :: v, h, hne => by
    by_cases e : a = n
    · subst e
      obtain ⟨s, h1, h2⟩ := InB.some h.2 (fun e2 => hne (by rw [e2]))
      exact ⟨s + 1, by simp; omega, by simpa using h2⟩
    · exact ⟨0, by simp, by have := h.1; show a < n; omega⟩
  | [], a :: v, h, _ => h.elim
  | n :: ls, [], h, _ => h.elim
def sumL : List Nat → Nat
  | [] => 0
  | n :: ls => n + sumL ls
theorem sumL_le : ∀ {ls v : List Nat}, InB ls v → sumL v ≤ sumL ls
  | [], [], _ => Nat.le_refl _
  | n :: ls, a :: v, h => by have := sumL_le h.2; have := h.1; show a + sumL v ≤ n + sumL ls; omega
  | [], a :: v, h => h.elim
  | n :: ls, [], h => h.elim
theorem sumL_set : ∀ {v : List Nat} {s : Nat}, s < v.length → sumL (v.set s (v.getD s 0 + 1)) = sumL v + 1
  | a :: v, 0, _ => by show a + 1 + sumL v = a + sumL v + 1; omega
  | a :: v, s + 1, h => by
    have := sumL_set (v := v) (s := s) (by simpa using h)
    show a + sumL (v.set s ((a :: v).getD (s + 1) 0 + 1)) = a + sumL v + 1
    rw [show (a :: v).getD (s + 1) 0 = v.getD s 0 by simp, this]; omega
def toM (v : List Nat) : List Nat → List Nat
  | [] => v
  | s :: m => toM (v.set s (v.getD s 0 + 1)) m
theorem toM_len : ∀ (m v : List Nat), (toM v m).length = v.length
  | [], v => rfl
  | s :: m, v => by unfold toM; rw [toM_len m, List.length_set]
theorem set_other {v : List Nat} {s u x : Nat} (h : s ≠ u) : (v.set s x).getD u 0 = v.getD u 0 := by
  rw [List.getD_eq_getElem?_getD, List.getElem?_set_ne h, ← List.getD_eq_getElem?_getD]
theorem set_self {v : List Nat} {s x : Nat} (h : s < v.length) : (v.set s x).getD s 0 = x := by
  rw [List.getD_eq_getElem?_getD, List.getElem?_set_self h]; rfl
theorem toM_get : ∀ (m v : List Nat), m.Nodup → (∀ s ∈ m, s < v.length) → ∀ s, (toM v m).getD s 0 = v.getD s 0 + if s ∈ m then 1 else 0
  | [], v, _, _, s => by simp [toM]
  | u :: m, v, hd, hl, s => by
    have hu := List.nodup_cons.1 hd
    unfold toM
    rw [toM_get m _ hu.2 (fun s hs => by rw [List.length_set]; exact hl s (.tail _ hs)) s]
    by_cases e : u = s
    · subst e
      rw [set_self (hl u (.head _)), if_neg hu.1, if_pos (.head _)]
    · rw [set_other e]
      have : (s ∈ u :: m) ↔ s ∈ m := by rw [List.mem_cons]; exact ⟨fun h => h.resolve_left (fun h => e h.symm), .inr⟩
      simp only [this]
theorem toM_sum : ∀ (m v : List Nat), (∀ s ∈ m, s < v.length) → sumL (toM v m) = sumL v + m.length
  | [], v, _ => by simp [toM]
  | s :: m, v, hm => by
    unfold toM
    rw [toM_sum m _ (fun s hs => by rw [List.length_set]; exact hm s (.tail _ hs)), sumL_set (hm s (.head _)), List.length_cons]
    omega
theorem toM_in {ls v m : List Nat} (h : InB ls v) (hd : m.Nodup) (hm : ∀ s ∈ m, s < ls.length ∧ v.getD s 0 < ls.getD s 0) : InB ls (toM v m) := by
  have hlen := h.len
  refine InB.of (by rw [toM_len, hlen]) fun s => ?_
  rw [toM_get m v hd (fun s hs => by rw [hlen]; exact (hm s hs).1) s]
  have h1 := h.get s
  split
  · rename_i hs; have := (hm s hs).2; omega
  · omega
end Go.Proofs.YtofikdpbagnjbaaGreatDoor
namespace Go.Proofs.YtofikdpbagnjbaaGreatDoor

def possM (ls v m : List Nat) : Bool := m.all fun s => decide (v.getD s 0 < ls.getD s 0)
theorem possM_iff {ls v m : List Nat} : possM ls v m = true ↔ ∀ s ∈ m, v.getD s 0 < ls.getD s 0 := by unfold possM; rw [List.all_eq_true]; simp
def colMv (v : List Nat) : List Nat → List Int → List Int
  | [], c => c
  | s :: m, c => colMv v m (c.set s (v.getD s 0 : Nat))
def colT (v m : List Nat) : List Int := colMv v m (List.replicate v.length (-1))
theorem colMv_len (v : List Nat) : ∀ (m : List Nat) (c : List Int), (colMv v m c).length = c.length
  | [], c => rfl
  | s :: m, c => by unfold colMv; rw [colMv_len v m, List.length_set]
theorem colT_len (v m : List Nat) : (colT v m).length = v.length := by unfold colT; rw [colMv_len, List.length_replicate]
theorem colMv_get (v : List Nat) : ∀ (m : List Nat) (c : List Int) (s : Nat), s < c.length → (colMv v m c).getD s (-1) = if s ∈ m then ((v.getD s 0 : Nat) : Int) else c.getD s (-1)
  | [], c, s, _ => by simp [colMv]
  | u :: m, c, s, h => by
    unfold colMv
    rw [colMv_get v m _ s (by rw [List.length_set]; exact h)]
    by_cases h1 : s ∈ m
    · rw [if_pos h1, if_pos (List.mem_cons_of_mem _ h1)]
    · rw [if_neg h1]
      by_cases e : u = s
      · subst e
        rw [if_pos List.mem_cons_self, List.getD_eq_getElem?_getD, List.getElem?_set_self h]; rfl
      · rw [if_neg (by rw [List.mem_cons]; rintro (h | h); exact e h.symm; exact h1 h), List.getD_eq_getElem?_getD, List.getElem?_set_ne e, ← List.getD_eq_getElem?_getD]
theorem colT_get {v m : List Nat} {s : Nat} (h : s < v.length) : (colT v m).getD s (-1) = if s ∈ m then ((v.getD s 0 : Nat) : Int) else -1 := by
  unfold colT
  rw [colMv_get v m _ s (by rw [List.length_replicate]; exact h)]
  simp [List.getD_eq_getElem?_getD, List.getElem?_replicate, h]
structure MvsOk (n : Nat) (Ms : List (List Nat)) : Prop where
  nd : ∀ m ∈ Ms, m.Nodup
  lt : ∀ m ∈ Ms, ∀ s ∈ m, s < n
  ne : ∀ m ∈ Ms, m ≠ []
  one : ∀ s, s < n → [s] ∈ Ms
def RestOk (ls v : List Nat) (cols : List (List Int)) : Prop := (∀ x ∈ cols, x.length = ls.length) ∧ (∀ x ∈ cols, ∃ z ∈ x, z ≠ -1) ∧ ∀ s n, ls[s]? = some n → srcC cols s = (upto n).drop (v.getD s 0)
theorem RestOk.cons {ls v m : List Nat} {cols : List (List Int)} (hv : InB ls v) (hm : m ≠ []) (hd : m.Nodup) (hlt : ∀ s ∈ m, s < ls.length) (hp : possM ls v m = true) (h : RestOk ls (toM v m) cols) : RestOk ls v (colT v m :: cols) := by
  have hlen := hv.len
  obtain ⟨h1, h2, h3⟩ := h
  refine ⟨fun x hx => ?_, fun x hx => ?_, fun s n hs => ?_⟩
  · rcases List.mem_cons.1 hx with rfl | hx
    · rw [colT_len, hlen]
    · exact h1 x hx
  · rcases List.mem_cons.1 hx with rfl | hx
    · obtain ⟨s, ms, rfl⟩ := List.exists_cons_of_ne_nil hm
      have hs : s < v.length := by rw [hlen]; exact hlt s (.head _)
      have hg := colT_get (m := s :: ms) hs
      rw [if_pos List.mem_cons_self] at hg
      refine ⟨_, ?_, show ((v.getD s 0 : Nat) : Int) ≠ -1 by omega⟩
      rw [← hg, List.getD_eq_getElem?_getD, List.getElem?_eq_getElem (by rw [colT_len]; exact hs)]
      exact List.getElem_mem _
    · exact h2 x hx
  · have hsl : s < ls.length := (List.getElem?_eq_some_iff.1 hs).1
    rw [srcC_cons, h3 s n hs, colT_get (by rw [hlen]; exact hsl), toM_get m v hd (fun u hu => by rw [hlen]; exact hlt u hu)]
    by_cases hsm : s ∈ m
    · rw [if_pos hsm, if_pos hsm, if_neg (by omega)]
      have := possM_iff.1 hp s hsm
      rw [List.getD_eq_getElem?_getD (l := ls), hs] at this
      rw [upto_drop (show v.getD s 0 < n from this)]; rfl
    · rw [if_neg hsm, if_neg hsm, if_pos rfl]; rfl
theorem RestOk.nil (ls : List Nat) : RestOk ls ls [] := ⟨fun x h => (by cases h), fun x h => (by cases h), fun s n hs => by
  rw [List.getD_eq_getElem?_getD, hs]
  show [] = (upto n).drop n
  rw [List.drop_of_length_le (by rw [upto_len]; exact Nat.le_refl _)]⟩
theorem RestOk.colsOk {ls : List Nat} {cols : List (List Int)} : RestOk ls (List.replicate ls.length 0) cols ↔ ColsOk ls cols := by
  have e : ∀ s, (List.replicate ls.length 0).getD s 0 = 0 := fun s => by
    rw [List.getD_eq_getElem?_getD, List.getElem?_replicate]; split <;> rfl
  constructor
  · rintro ⟨h1, h2, h3⟩
    exact ⟨h1, h2, fun s n hs => by rw [h3 s n hs, e, List.drop_zero]⟩
  · rintro ⟨h1, h2, h3⟩
    exact ⟨h1, h2, fun s n hs => by rw [h3 s n hs, e, List.drop_zero]⟩
theorem InB.zero : ∀ ls : List Nat, InB ls (List.replicate ls.length 0)
  | [] => trivial
  | n :: ls => ⟨Nat.zero_le _, InB.zero ls⟩
end Go.Proofs.YtofikdpbagnjbaaGreatDoor
namespace Go.Proofs.YtofikdpbagnjbaaGreatDoor

def mvOfC (x : List Int) : List Nat := (List.range x.length).filter fun s => decide (x.getD s (-1) ≠ -1)
theorem mvOfC_mem {x : List Int} {s : Nat} : s ∈ mvOfC x ↔ s < x.length ∧ x.getD s (-1) ≠ -1 := by
  unfold mvOfC; rw [List.mem_filter, List.mem_range]; simp
theorem mvOfC_asc (x : List Int) : (mvOfC x).Pairwise (· < ·) := (List.pairwise_lt_range).filter _
theorem asc_nodup {m : List Nat} (h : m.Pairwise (· < ·)) : m.Nodup := h.imp fun h => Nat.ne_of_lt h
theorem ext_getD {a b : List Int} (hl : a.length = b.length) (h : ∀ s, s < a.length → a.getD s (-1) = b.getD s (-1)) : a = b := by
  refine List.ext_getElem? fun s => ?_
  by_cases hs : s < a.length
  · have := h s hs
    rw [List.getD_eq_getElem?_getD, List.getD_eq_getElem?_getD, List.getElem?_eq_getElem hs, List.getElem?_eq_getElem (hl ▸ hs)] at this
    rw [List.getElem?_eq_getElem hs, List.getElem?_eq_getElem (hl ▸ hs)]
    exact congrArg some this
  · rw [List.getElem?_eq_none (by omega), List.getElem?_eq_none (by omega)]
theorem drop_cons {n p : Nat} {z : Int} {r : List Int} (h : z :: r = (upto n).drop p) : p < n ∧ z = (p : Int) ∧ r = (upto n).drop (p + 1) := by
  by_cases hp : p < n
  · rw [upto_drop hp] at h
    cases h
    exact ⟨hp, rfl, rfl⟩
  · rw [List.drop_of_length_le (by rw [upto_len]; omega)] at h
    cases h
theorem RestOk.step {ls v : List Nat} {x : List Int} {cols : List (List Int)} (hv : InB ls v) (h : RestOk ls v (x :: cols)) :
    x = colT v (mvOfC x) ∧ possM ls v (mvOfC x) = true ∧ mvOfC x ≠ [] ∧ (∀ s ∈ mvOfC x, s < ls.length) ∧ RestOk ls (toM v (mvOfC x)) cols := by
  have hlen := hv.len
  obtain ⟨h1, h2, h3⟩ := h
  have hx := h1 x (.head _)
  have hmem : ∀ s, s ∈ mvOfC x ↔ s < x.length ∧ x.getD s (-1) ≠ -1 := fun s => mvOfC_mem
  have hent : ∀ s, s < ls.length → x.getD s (-1) ≠ -1 → v.getD s 0 < ls.getD s 0 ∧ x.getD s (-1) = ((v.getD s 0 : Nat) : Int) ∧ srcC cols s = (upto (ls.getD s 0)).drop (v.getD s 0 + 1) := fun s hs hne => by
    have h4 := h3 s _ (List.getElem?_eq_getElem hs)
    rw [srcC_cons, if_neg hne] at h4
    have e : ls.getD s 0 = ls[s] := by rw [List.getD_eq_getElem?_getD, List.getElem?_eq_getElem hs]; rfl
    rw [e]
    exact drop_cons h4
  have hlt : ∀ s ∈ mvOfC x, s < ls.length := fun s hs => by rw [← hx]; exact (hmem s).1 hs |>.1
  have hp : possM ls v (mvOfC x) = true := possM_iff.2 fun s hs => (hent s (hlt s hs) ((hmem s).1 hs).2).1
  have hxe : x = colT v (mvOfC x) := ext_getD (by rw [colT_len, hlen, hx]) fun s hs => by
    rw [colT_get (by omega)]
    by_cases hne : x.getD s (-1) = -1
    · rw [if_neg (fun hm => ((hmem s).1 hm).2 hne), hne]
    · rw [if_pos ((hmem s).2 ⟨hs, hne⟩)]
      exact (hent s (by omega) hne).2.1
  refine ⟨hxe, hp, ?_, hlt, fun y hy => h1 y (.tail _ hy), fun y hy => h2 y (.tail _ hy), fun s n hs => ?_⟩
  · obtain ⟨z, hz, hz2⟩ := h2 x (.head _)
    obtain ⟨s, hs, rfl⟩ := List.getElem_of_mem hz
    have : s ∈ mvOfC x := (hmem s).2 ⟨hs, by rw [List.getD_eq_getElem?_getD, List.getElem?_eq_getElem hs]; exact hz2⟩
    exact List.ne_nil_of_mem this
  · have hsl : s < ls.length := (List.getElem?_eq_some_iff.1 hs).1
    have e : ls.getD s 0 = n := by rw [List.getD_eq_getElem?_getD, hs]; rfl
    rw [toM_get _ v (asc_nodup (mvOfC_asc x)) (fun u hu => by rw [hlen]; exact hlt u hu)]
    have h4 := h3 s n hs
    rw [srcC_cons] at h4
    by_cases hne : x.getD s (-1) = -1
    · rw [if_pos hne] at h4
      rw [if_neg (fun hm => ((hmem s).1 hm).2 hne)]
      exact h4
    · rw [if_pos ((hmem s).2 ⟨by omega, hne⟩)]
      have := (hent s hsl hne).2.2
      rw [e] at this
      exact this
end Go.Proofs.YtofikdpbagnjbaaGreatDoor
namespace Go.Proofs.YtofikdpbagnjbaaGreatDoor

end Go.Proofs.YtofikdpbagnjbaaGreatDoor
namespace Go.Proofs.YtofikdpbagnjbaaGreatDoor
open Go.RowKit Go.Shelf Go.Proofs

theorem ColsOk.lt {ls : List Nat} {cols : List (List Int)} (h : ColsOk ls cols) {x : List Int} (hx : x ∈ cols) {s : Nat} (hs : s < ls.length) : x.getD s (-1) < (ls.getD s 0 : Int) := by
  have hl := h.len x hx
  have := (h.entry hx (s := s) (n := ls[s]) (z := x[s]'(by omega)) (List.getElem?_eq_getElem hs) (List.getElem?_eq_getElem (by omega))).2
  rw [List.getD_eq_getElem?_getD, List.getElem?_eq_getElem (by omega), List.getD_eq_getElem?_getD (l := ls), List.getElem?_eq_getElem hs]
  exact this
structure BackS (l l' : List TS) : Prop where
  len : l'.length = l.length
  toks : ∀ s, s < l.length → (tsA l' s).l = (tsA l s).l.reverse
  n : lens l' = lens l
  ok : ∀ s, s < l.length → (lens l).getD s 0 = (tsA l s).l.length
theorem BackS.swap {l l' : List TS} (h : BackS l l') : BackS l' l := by
  refine ⟨h.len.symm, fun s hs => ?_, h.n.symm, fun s hs => ?_⟩
  · rw [h.toks s (by rw [← h.len]; exact hs), List.reverse_reverse]
  · rw [h.n, h.toks s (by rw [← h.len]; exact hs), List.length_reverse, h.ok s (by rw [← h.len]; exact hs)]
end Go.Proofs.YtofikdpbagnjbaaGreatDoor
namespace Go.Proofs.YtofikdpbagnjbaaGreatDoor
open Go.RowKit Go.Shelf Go.Proofs

theorem RestOk.short {ls : List Nat} : ∀ {cols : List (List Int)} {v : List Nat}, InB ls v → RestOk ls v cols → cols.length + sumL v ≤ sumL ls
  | [], v, hv, _ => by have := sumL_le hv; simpa using this
  | x :: cols, v, hv, h => by
    obtain ⟨h1, h2, h3, h4, h5⟩ := h.step hv
    have hi := toM_in hv (asc_nodup (mvOfC_asc x)) fun s hs => ⟨h4 s hs, possM_iff.1 h2 s hs⟩
    have ih := RestOk.short hi h5
    rw [toM_sum _ v fun s hs => by rw [hv.len]; exact h4 s hs] at ih
    have := List.length_pos_iff.2 h3
    rw [List.length_cons]; omega
theorem ColsOk.short {ls : List Nat} {cols : List (List Int)} (h : ColsOk ls cols) : cols.length ≤ sumL ls := by
  have := RestOk.short (InB.zero ls) (RestOk.colsOk.2 h)
  omega
def othS (n i : Nat) : List Nat := (List.range n).filter fun k => decide (k ≠ i)
theorem othS_mem {n i k : Nat} : k ∈ othS n i ↔ k < n ∧ k ≠ i := by unfold othS; rw [List.mem_filter, List.mem_range]; simp
theorem othS_succ (n i : Nat) : othS (n + 1) i = othS n i ++ if n ≠ i then [n] else [] := by
  unfold othS
  rw [List.range_succ, List.filter_append]
  congr 1
  by_cases h : n = i
  · simp [h]
  · simp [h]
theorem othS_nodup (n i : Nat) : (othS n i).Nodup := (List.nodup_range).filter _
def dropI {α : Type} (l : List α) (i : Nat) : List α := l.take i ++ l.drop (i + 1)
theorem dropI_len {α : Type} {l : List α} {i : Nat} (h : i < l.length) : (dropI l i).length = l.length - 1 := by
  unfold dropI; rw [List.length_append, List.length_take, List.length_drop]; omega
theorem dropI_map {α β : Type} (f : α → β) (l : List α) (i : Nat) : (dropI l i).map f = dropI (l.map f) i := by
  unfold dropI; rw [List.map_append, List.map_take, List.map_drop]
theorem oth_low {α : Type} (d : α) (l : List α) {i : Nat} : ∀ n, n ≤ i → n ≤ l.length → (othS n i).map (fun k => l.getD k d) = l.take n
  | 0, _, _ => rfl
  | n + 1, h, hl => by
    rw [othS_succ, if_pos (by omega), List.map_append, oth_low d l n (by omega) (by omega), List.take_add_one, List.getElem?_eq_getElem (by omega)]
    show _ ++ [l.getD n d] = _ ++ [l[n]]
    rw [List.getD_eq_getElem?_getD, List.getElem?_eq_getElem (by omega)]; rfl
theorem oth_high {α : Type} (d : α) (l : List α) {i : Nat} (hi : i < l.length) : ∀ n, i + 1 + n ≤ l.length → (othS (i + 1 + n) i).map (fun k => l.getD k d) = l.take i ++ (l.drop (i + 1)).take n
  | 0, _ => by
    show (othS (i + 1) i).map _ = _
    rw [othS_succ, if_neg (by simp), List.append_nil, oth_low d l i (Nat.le_refl _) (by omega)]; simp
  | n + 1, h => by
    have e : i + 1 + (n + 1) = i + 1 + n + 1 := rfl
    rw [e, othS_succ, if_pos (by omega), List.map_append, oth_high d l hi n (by omega), List.append_assoc, List.take_add_one]
    have h1 : n < (l.drop (i + 1)).length := by rw [List.length_drop]; omega
    rw [List.getElem?_eq_getElem h1, List.getElem_drop]
    show _ ++ (_ ++ [l.getD (i + 1 + n) d]) = _ ++ (_ ++ [l[i + 1 + n]])
    rw [List.getD_eq_getElem?_getD, List.getElem?_eq_getElem (by omega)]; rfl
theorem oth_dropI {α : Type} (d : α) {l : List α} {i : Nat} (hi : i < l.length) : (othS l.length i).map (fun k => l.getD k d) = dropI l i := by
  have := oth_high d l hi (l.length - (i + 1)) (by omega)
  rw [show i + 1 + (l.length - (i + 1)) = l.length by omega] at this
  rw [this, List.take_of_length_le (l := l.drop (i + 1)) (by rw [List.length_drop]; omega)]; rfl
theorem othS_len {n i : Nat} (h : i < n) : (othS n i).length = n - 1 := by
  have := congrArg List.length (oth_dropI (l := List.replicate n 0) 0 (i := i) (by rw [List.length_replicate]; exact h))
  rw [List.length_map, dropI_len (by rw [List.length_replicate]; exact h), List.length_replicate] at this
  exact this
def wthC (cols : List (List Int)) (i : Nat) : List (List Int) := (cols.map fun x => dropI x i).filter anyP
theorem wthC_prj {n i : Nat} (hi : i < n) {cols : List (List Int)} (h : ∀ x ∈ cols, x.length = n) : wthC cols i = prjC (othS n i) cols := by
  unfold wthC prjC
  congr 1
  refine List.map_congr_left fun x hx => ?_
  have hl := h x hx
  subst hl
  exact (oth_dropI (-1) hi).symm
theorem wthC_ok {ls : List Nat} {cols : List (List Int)} {i : Nat} (h : ColsOk ls cols) (hi : i < ls.length) : ColsOk (dropI ls i) (wthC cols i) := by
  rw [wthC_prj hi h.len, ← oth_dropI 0 hi]
  exact prjC_ok h fun s hs => (othS_mem.1 hs).1
theorem wthC_len (cols : List (List Int)) (i : Nat) : (wthC cols i).length ≤ cols.length := by
  unfold wthC
  have := List.length_filter_le anyP (cols.map fun x => dropI x i)
  rwa [List.length_map] at this
def ordI (n i : Nat) : List Nat := othS n i ++ [i]
theorem ordI_len {n i : Nat} (h : i < n) : (ordI n i).length = n := by unfold ordI; rw [List.length_append, othS_len h]; show n - 1 + 1 = n; omega
theorem ordI_lt {n i : Nat} (h : i < n) : ∀ x ∈ ordI n i, x < n := fun x hx => by
  unfold ordI at hx
  rcases List.mem_append.1 hx with hx | hx
  · exact (othS_mem.1 hx).1
  · rw [List.mem_singleton] at hx; omega
theorem ordI_nodup (n i : Nat) : (ordI n i).Nodup := by
  unfold ordI
  rw [List.nodup_append]
  exact ⟨othS_nodup n i, List.nodup_cons.2 ⟨by simp, List.nodup_nil⟩, fun a ha b hb => by rw [List.mem_singleton] at hb; subst hb; exact (othS_mem.1 ha).2⟩
def moreV (c : Costs) (l : List TS) (cols : List (List Int)) (i : Nat) : List (List Int) := (addV c (dropI l i) (wthC cols i) (tsA l i).l 0 0).map (arrR (ordI l.length i))
theorem ordI_map {α : Type} (d : α) {l : List α} {i : Nat} (hi : i < l.length) : (ordI l.length i).map (fun k => l.getD k d) = dropI l i ++ [l.getD i d] := by
  unfold ordI; rw [List.map_append, oth_dropI d hi]; rfl
theorem moreV_ok (c : Costs) {l : List TS} (hln : ∀ t ∈ l, t.l.length = t.n) {cols : List (List Int)} (h : ColsOk (lens l) cols) {i : Nat} (hi : i < l.length) : ColsOk (lens l) (moreV c l cols i) ∧ ∀ x ∈ addV c (dropI l i) (wthC cols i) (tsA l i).l 0 0, x.length = l.length := by
  have hll := lens_len l
  have h1 := wthC_ok h (i := i) (by omega)
  have h2 := addV_ok (c := c) (l := dropI l i) (t := (tsA l i).l) (ls := dropI (lens l) i) (by rw [dropI_len (by omega), dropI_len hi, hll]) h1
  have e0 : (lens l).getD i 0 = (tsA l i).l.length := by
    rw [hln _ (tsA_mem hi)]
    unfold lens tsA
    rw [List.getD_eq_getElem?_getD, List.getElem?_map, List.getD_eq_getElem?_getD, List.getElem?_eq_getElem hi]; rfl
  rw [← e0, ← ordI_map 0 (by omega), hll] at h2
  refine ⟨arr_ok (ordI_nodup _ _) (ordI_len hi) (ordI_lt hi) hll h2, fun x hx => ?_⟩
  rw [h2.len x hx, List.length_map, ordI_len hi]
def refS (c : Costs) (l : List TS) (cols : List (List Int)) (i : Nat) : List (List Int) := if totZ c l (moreV c l cols i) < totZ c l cols then moreV c l cols i else cols
def refJ (c : Costs) (l : List TS) (cols : List (List Int)) : Nat → List (List Int)
  | 0 => cols
  | i + 1 => refS c l (refJ c l cols i) i
def refN (c : Costs) (l : List TS) (cols : List (List Int)) : Nat → List (List Int)
  | 0 => cols
  | r + 1 => refJ c l (refN c l cols r) l.length
theorem refJ_ok (c : Costs) {l : List TS} (hln : ∀ t ∈ l, t.l.length = t.n) {cols : List (List Int)} (h : ColsOk (lens l) cols) : ∀ i, i ≤ l.length → ColsOk (lens l) (refJ c l cols i) ∧ totZ c l (refJ c l cols i) ≤ totZ c l cols
  | 0, _ => ⟨h, Int.le_refl _⟩
  | i + 1, hi => by
    obtain ⟨h1, h2⟩ := refJ_ok c hln h i (by omega)
    show ColsOk (lens l) (refS c l _ i) ∧ totZ c l (refS c l _ i) ≤ _
    unfold refS
    split
    · exact ⟨(moreV_ok c hln h1 (by omega)).1, by omega⟩
    · exact ⟨h1, h2⟩
theorem refN_ok (c : Costs) {l : List TS} (hln : ∀ t ∈ l, t.l.length = t.n) {cols : List (List Int)} (h : ColsOk (lens l) cols) : ∀ r, ColsOk (lens l) (refN c l cols r) ∧ totZ c l (refN c l cols r) ≤ totZ c l cols
  | 0 => ⟨h, Int.le_refl _⟩
  | r + 1 => by
    obtain ⟨h1, h2⟩ := refN_ok c hln h r
    obtain ⟨h3, h4⟩ := refJ_ok c hln h1 l.length (Nat.le_refl _)
    exact ⟨h3, Int.le_trans h4 h2⟩
end Go.Proofs.YtofikdpbagnjbaaGreatDoor
namespace Go.Proofs.YtofikdpbagnjbaaGreatDoor
open Go.RowKit Go.Shelf Go.Proofs
set_option maxRecDepth 100000
set_option maxHeartbeats 1000000

end Go.Proofs.YtofikdpbagnjbaaGreatDoor
namespace Go.Proofs.YtofikdpbagnjbaaGreatDoor
open Go.RowKit Go.Shelf Go.Proofs
set_option maxRecDepth 100000
set_option maxHeartbeats 1000000

theorem isNone_true {A : Option Addr} (h : isNone' A = true) : A = none := by cases A <;> simp_all [isNone']
theorem src_none {w : World} {sz n : Nat} {xs : List Value} (h : Src w sz none n xs) : n = 0 ∧ xs = [] := by
  have : n = 0 := by
    rcases Nat.eq_zero_or_pos n with h1 | h1
    · exact h1
    · have := (h.2 h1).1; simp [isAt] at this
  subst this
  exact ⟨rfl, List.eq_nil_of_length_eq_zero (by simpa using h.1)⟩
theorem oneMap {α : Type} (f : α → Value) (hf : ∀ x, (f x).oneCell' = true) : ∀ l : List α, oneCells (l.map f) = true
  | [] => rfl
  | x :: l => by rw [List.map_cons]; simp only [oneCells, hf, Bool.true_and]; exact oneMap f hf l
end Go.Proofs.YtofikdpbagnjbaaGreatDoor
namespace Go.Proofs.YtofikdpbagnjbaaGreatDoor
open Go.RowKit Go.Shelf Go.Proofs
set_option maxRecDepth 100000
set_option maxHeartbeats 1000000

def RvIn (l r : List Tok) (i : Nat) : Prop := r.length = l.length ∧ ∀ k, k < l.length → r[k]? = if k < i ∨ l.length ≤ k + i then l[l.length - 1 - k]? else l[k]?
theorem RvIn.zero (l : List Tok) : RvIn l l 0 := ⟨rfl, fun k hk => by rw [if_neg (by omega)]⟩
theorem RvIn.step {l r : List Tok} {i : Nat} (h : RvIn l r i) (hi : 2 * i + 1 < l.length) : RvIn l ((r.set i (tkA r (l.length - 1 - i))).set (l.length - 1 - i) (tkA r i)) (i + 1) := by
  obtain ⟨h1, h2⟩ := h
  have e1 : r[l.length - 1 - i]? = l[l.length - 1 - i]? := by rw [h2 _ (by omega), if_neg (by omega)]
  have e2 : r[i]? = l[i]? := by rw [h2 _ (by omega), if_neg (by omega)]
  refine ⟨by simp [h1], fun k hk => ?_⟩
  rw [List.getElem?_set, List.getElem?_set, List.length_set]
  by_cases hk1 : l.length - 1 - i = k
  · rw [if_pos hk1, if_pos (by omega), if_pos (by omega), show l.length - 1 - k = i by omega, ← e2, tkA_get (by omega)]
  · rw [if_neg hk1]
    by_cases hk2 : i = k
    · subst hk2
      rw [if_pos rfl, if_pos (by omega), if_pos (by omega), ← e1, tkA_get (by omega)]
    · rw [if_neg hk2, h2 k hk]
      by_cases h3 : k < i ∨ l.length ≤ k + i
      · rw [if_pos h3, if_pos (by omega)]
      · rw [if_neg h3, if_neg (by omega)]
theorem RvIn.all {l r : List Tok} {i : Nat} (h : RvIn l r i) (hi : l.length ≤ 2 * i + 1) : r = l.reverse := by
  obtain ⟨h1, h2⟩ := h
  apply List.ext_getElem?
  intro k
  by_cases hk : k < l.length
  · rw [h2 k hk, List.getElem?_reverse hk]
    split
    · rfl
    · rw [show l.length - 1 - k = k by omega]
  · rw [List.getElem?_eq_none (by omega), List.getElem?_eq_none (by simp; omega)]
end Go.Proofs.YtofikdpbagnjbaaGreatDoor
namespace Go.Proofs.YtofikdpbagnjbaaGreatDoor
open Go.RowKit Go.Shelf Go.Proofs
set_option maxRecDepth 100000
set_option maxHeartbeats 1000000

theorem srcRowH {w0 w : World} {H : List HA} {A : Option Addr} {e sz cap n : Nat} {xs : List Value} {rb : HA → List HA} [FocusR H A e sz cap n xs rb] (hw : Cls w0 w H) : Src w sz A n xs :=
  srcRw (C := ⟨sg, ⟨0, []⟩, w0, none, fun _ _ => True, fun _ _ => True, fun _ _ _ => True⟩) (e := e) (cap := cap) (rb := rb) w hw
end Go.Proofs.YtofikdpbagnjbaaGreatDoor
namespace Go.Proofs.YtofikdpbagnjbaaGreatDoor
open Go.RowKit Go.Shelf Go.Proofs
set_option maxRecDepth 100000
set_option maxHeartbeats 1000000

theorem cloneS_spec (A : Option Addr) (n c : Nat) (l : List TS) (w : World) (hs : Src w 1 A n (l.map TS.val)) (hb : n ≤ 1000000) :
    Spec Tryz.prog 41 [.slice A n c] w (fun v R => ∃ x : Option Addr × Nat, True ∧ v = .slice x.1 n x.2 ∧ R = [row 40 1 x.1 x.2 n (l.map TS.val)]) := by
  refine spec_of sg Tryz.func41 rfl rfl rfl ?_
  repeat' (first | refine d1 ?_ | refine dd ?_ | (show T _ (.ops _ (_ :: _) :: _) _ _ _; first | refine T_val rfl (Val.nilS rfl) rfl rfl rfl ?_ | refine T_valC rfl (Val.nilS rfl) rfl rfl rfl rfl rfl ?_) | (show T _ (.run _ _ (_ :: _) _ _ :: _) _ _ _; first | refine rv rfl rfl rfl (Val.nilS rfl) rfl rfl rfl ?_ | refine rg rfl rfl rfl (Val.nilS rfl) rfl rfl rfl rfl rfl ?_) | (show ∀ _ : Nat, T _ _ _ _ _; intro _))
  refine T_if rfl (fun h => ?_) (fun h => ?_)
  · obtain rfl := isNone_true h
    obtain ⟨rfl, e⟩ := src_none hs
    rw [e]
    repeat' (first | refine d1 ?_ | refine dd ?_ | (show ∀ _ : Nat, T _ _ _ _ _; intro _))
    refine T_nilrow 40 1 ?_
    repeat' (first | refine d1 ?_ | refine dd ?_ | (show ∀ _ : Nat, T _ _ _ _ _; intro _) | (show T _ (.code .ret :: _) _ _ _; refine T_retV _ rfl Hle.sub ⟨(none, 0), trivial, rfl, rfl⟩))
  · repeat' (first | refine d1 ?_ | (show ∀ _ : Nat, T _ _ _ _ _; intro _))
    refine T_blk_rowh 1 0 rfl (by omega) ?_
    refine T_op (OpT.append rfl rfl rfl rfl rfl rfl rfl rfl rfl rfl (rdSrc hs) (oneMap TS.val (fun _ => rfl) l) (by dsimp only; omega) (by omega) (fun A' cap' hA' => ?_))
    rw [show 0 + n = n by omega, show flatP [] ++ (l.map TS.val) = (l.map TS.val) from rfl]
    repeat' (first | refine d1 ?_ | refine dd ?_ | (show ∀ _ : Nat, T _ _ _ _ _; intro _) | (show T _ (.code .ret :: _) _ _ _; refine T_retV _ rfl (Hle.refl _) ⟨(A', cap'), trivial, rfl, rfl⟩))
theorem cloneI_spec (A : Option Addr) (n c : Nat) (l : List Int) (w : World) (hs : Src w 1 A n (l.map (Value.int .i64))) (hb : n ≤ 1000000) :
    Spec Tryz.prog 43 [.slice A n c] w (fun v R => ∃ x : Option Addr × Nat, True ∧ v = .slice x.1 n x.2 ∧ R = [row 3 1 x.1 x.2 n (l.map (Value.int .i64))]) := by
  refine spec_of sg Tryz.func43 rfl rfl rfl ?_
  repeat' (first | refine d1 ?_ | refine dd ?_ | (show T _ (.ops _ (_ :: _) :: _) _ _ _; first | refine T_val rfl (Val.nilS rfl) rfl rfl rfl ?_ | refine T_valC rfl (Val.nilS rfl) rfl rfl rfl rfl rfl ?_) | (show T _ (.run _ _ (_ :: _) _ _ :: _) _ _ _; first | refine rv rfl rfl rfl (Val.nilS rfl) rfl rfl rfl ?_ | refine rg rfl rfl rfl (Val.nilS rfl) rfl rfl rfl rfl rfl ?_) | (show ∀ _ : Nat, T _ _ _ _ _; intro _))
  refine T_if rfl (fun h => ?_) (fun h => ?_)
  · obtain rfl := isNone_true h
    obtain ⟨rfl, e⟩ := src_none hs
    rw [e]
    repeat' (first | refine d1 ?_ | refine dd ?_ | (show ∀ _ : Nat, T _ _ _ _ _; intro _))
    refine T_nilrow 3 1 ?_
    repeat' (first | refine d1 ?_ | refine dd ?_ | (show ∀ _ : Nat, T _ _ _ _ _; intro _) | (show T _ (.code .ret :: _) _ _ _; refine T_retV _ rfl Hle.sub ⟨(none, 0), trivial, rfl, rfl⟩))
  · repeat' (first | refine d1 ?_ | (show ∀ _ : Nat, T _ _ _ _ _; intro _))
    refine T_blk_rowh 1 0 rfl (by omega) ?_
    refine T_op (OpT.append rfl rfl rfl rfl rfl rfl rfl rfl rfl rfl (rdSrc hs) (oneInts l) (by dsimp only; omega) (by omega) (fun A' cap' hA' => ?_))
    rw [show 0 + n = n by omega, show flatP [] ++ (l.map (Value.int .i64)) = (l.map (Value.int .i64)) from rfl]
    repeat' (first | refine d1 ?_ | refine dd ?_ | (show ∀ _ : Nat, T _ _ _ _ _; intro _) | (show T _ (.code .ret :: _) _ _ _; refine T_retV _ rfl (Hle.refl _) ⟨(A', cap'), trivial, rfl, rfl⟩))
theorem oneRows {R : Rdr} : ∀ {m : List (List Int)} {cs : List Value}, Rd R cs (m.map intsD) → oneCells cs = true
  | [], cs, h => by cases h; rfl
  | r :: m, [], h => by cases h
  | r :: m, x :: cs, h => by
    obtain ⟨h1, h2⟩ := Rd.cons_inv (d := intsD r) h
    obtain ⟨A, cap, rfl, -⟩ := h1.row1
    show (true && oneCells cs) = true
    rw [oneRows h2]; rfl
theorem cloneR_spec (A : Option Addr) (n c : Nat) (cs : List Value) (hone : oneCells cs = true) (w : World) (hs : Src w 1 A n (cs)) (hb : n ≤ 1000000) :
    Spec Tryz.prog 105 [.slice A n c] w (fun v R => ∃ x : Option Addr × Nat, True ∧ v = .slice x.1 n x.2 ∧ R = [row 27 1 x.1 x.2 n (cs)]) := by
  refine spec_of sg Tryz.func105 rfl rfl rfl ?_
  repeat' (first | refine d1 ?_ | refine dd ?_ | (show T _ (.ops _ (_ :: _) :: _) _ _ _; first | refine T_val rfl (Val.nilS rfl) rfl rfl rfl ?_ | refine T_valC rfl (Val.nilS rfl) rfl rfl rfl rfl rfl ?_) | (show T _ (.run _ _ (_ :: _) _ _ :: _) _ _ _; first | refine rv rfl rfl rfl (Val.nilS rfl) rfl rfl rfl ?_ | refine rg rfl rfl rfl (Val.nilS rfl) rfl rfl rfl rfl rfl ?_) | (show ∀ _ : Nat, T _ _ _ _ _; intro _))
  refine T_if rfl (fun h => ?_) (fun h => ?_)
  · obtain rfl := isNone_true h
    obtain ⟨rfl, e⟩ := src_none hs
    rw [e]
    repeat' (first | refine d1 ?_ | refine dd ?_ | (show ∀ _ : Nat, T _ _ _ _ _; intro _))
    refine T_nilrow 27 1 ?_
    repeat' (first | refine d1 ?_ | refine dd ?_ | (show ∀ _ : Nat, T _ _ _ _ _; intro _) | (show T _ (.code .ret :: _) _ _ _; refine T_retV _ rfl Hle.sub ⟨(none, 0), trivial, rfl, rfl⟩))
  · repeat' (first | refine d1 ?_ | (show ∀ _ : Nat, T _ _ _ _ _; intro _))
    refine T_blk_rowh 1 0 rfl (by omega) ?_
    refine T_op (OpT.append rfl rfl rfl rfl rfl rfl rfl rfl rfl rfl (rdSrc hs) (hone) (by dsimp only; omega) (by omega) (fun A' cap' hA' => ?_))
    rw [show 0 + n = n by omega, show flatP [] ++ (cs) = (cs) from rfl]
    repeat' (first | refine d1 ?_ | refine dd ?_ | (show ∀ _ : Nat, T _ _ _ _ _; intro _) | (show T _ (.code .ret :: _) _ _ _; refine T_retV _ rfl (Hle.refl _) ⟨(A', cap'), trivial, rfl, rfl⟩))
def RvS (l r : List TS) (i : Nat) : Prop := r.length = l.length ∧ ∀ k, k < l.length → r[k]? = if k < i ∨ l.length ≤ k + i then l[l.length - 1 - k]? else l[k]?
theorem RvS.zero (l : List TS) : RvS l l 0 := ⟨rfl, fun k hk => by rw [if_neg (by omega)]⟩
theorem tsA_get2 {l : List TS} {i : Nat} (h : i < l.length) : l[i]? = some (tsA l i) := by unfold tsA; rw [List.getD_eq_getElem?_getD, List.getElem?_eq_getElem h]; rfl
theorem RvS.step {l r : List TS} {i : Nat} (h : RvS l r i) (hi : 2 * i + 1 < l.length) : RvS l ((r.set i (tsA r (l.length - 1 - i))).set (l.length - 1 - i) (tsA r i)) (i + 1) := by
  obtain ⟨h1, h2⟩ := h
  have e1 : r[l.length - 1 - i]? = l[l.length - 1 - i]? := by rw [h2 _ (by omega), if_neg (by omega)]
  have e2 : r[i]? = l[i]? := by rw [h2 _ (by omega), if_neg (by omega)]
  refine ⟨by simp [h1], fun k hk => ?_⟩
  rw [List.getElem?_set, List.getElem?_set, List.length_set]
  by_cases hk1 : l.length - 1 - i = k
  · rw [if_pos hk1, if_pos (by omega), if_pos (by omega), show l.length - 1 - k = i by omega, ← e2, tsA_get2 (by omega)]
  · rw [if_neg hk1]
    by_cases hk2 : i = k
    · subst hk2
      rw [if_pos rfl, if_pos (by omega), if_pos (by omega), ← e1, tsA_get2 (by omega)]
    · rw [if_neg hk2, h2 k hk]
      by_cases h3 : k < i ∨ l.length ≤ k + i
      · rw [if_pos h3, if_pos (by omega)]
      · rw [if_neg h3, if_neg (by omega)]
theorem RvS.all {l r : List TS} {i : Nat} (h : RvS l r i) (hi : l.length ≤ 2 * i + 1) : r = l.reverse := by
  obtain ⟨h1, h2⟩ := h
  apply List.ext_getElem?
  intro k
  by_cases hk : k < l.length
  · rw [h2 k hk, List.getElem?_reverse hk]
    split
    · rfl
    · rw [show l.length - 1 - k = k by omega]
  · rw [List.getElem?_eq_none (by omega), List.getElem?_eq_none (by simp; omega)]
end Go.Proofs.YtofikdpbagnjbaaGreatDoor
namespace Go.Proofs.YtofikdpbagnjbaaGreatDoor
open Go.RowKit Go.Shelf Go.Proofs
set_option maxRecDepth 100000
set_option maxHeartbeats 1000000

theorem flat_one : ∀ xs : List Value, xs.flatMap (fun v => [v]) = xs
  | [] => rfl
  | x :: xs => by rw [List.flatMap_cons, flat_one xs]; rfl
theorem src_take1 {w : World} {A : Option Addr} {n : Nat} {xs : List Value} (hs : Src w 1 A n xs) (hi : Nat) (h : hi ≤ n) : Src w 1 A hi (xs.take hi) := by
  have h9 := src_take (fun v : Value => [v]) 1 (fun _ => rfl) (l := xs) (by rw [flat_one]; exact hs) (by have := hs.1; omega) hi h
  rwa [flat_one] at h9
theorem src_drop1 {w : World} {A : Option Addr} {n ca : Nat} {xs : List Value} (hs : Src w 1 A n xs) (lo : Nat) (h : lo ≤ n) (hc : n ≤ ca) : Src w 1 (cutA A ca lo 1) (n - lo) (xs.drop lo) := by
  have h9 := src_sub (fun v : Value => [v]) 1 (fun _ => rfl) (l := xs) (ca := ca) (by rw [flat_one]; exact hs) (by have := hs.1; omega) lo n h (Nat.le_refl _) hc
  rw [flat_one, List.take_of_length_le (by have := hs.1; omega)] at h9
  exact h9
structure PS where
  A : Option Addr
  n : Nat
  cap : Nat
  vs : List Value
@[reducible] def PS.val (p : PS) : Value := .slice p.A p.n p.cap
def sumP (l : List PS) : Nat := (l.map PS.n).sum
def catP (l : List PS) : List Value := l.flatMap PS.vs
theorem sumP_snoc {l : List PS} {j : Nat} {p : PS} (h : l[j]? = some p) : sumP (l.take (j + 1)) = sumP (l.take j) + p.n := by
  unfold sumP; rw [take_snoc _ _ _ h, List.map_append, List.sum_append]; simp
theorem sumP_le (l : List PS) (j : Nat) : sumP (l.take j) ≤ sumP l := by
  unfold sumP
  have h : (l.map PS.n).sum = ((l.take j).map PS.n).sum + ((l.drop j).map PS.n).sum := by
    rw [← List.sum_append, ← List.map_append, List.take_append_drop]
  omega
theorem catP_snoc {l : List PS} {j : Nat} {p : PS} (h : l[j]? = some p) : catP (l.take (j + 1)) = catP (l.take j) ++ p.vs := by
  unfold catP; rw [take_snoc _ _ _ h, List.flatMap_append]; simp
theorem growI_spec (n : Nat) (w : World) (hb : n ≤ 1000000) :
    Spec Tryz.prog 201 [.slice none 0 0, .int .i64 (n : Nat)] w (fun v R => ∃ x : Option Addr × Nat, True ∧ v = .slice x.1 0 x.2 ∧ R = [row 3 1 x.1 x.2 0 []]) := by
  refine spec_of sg Tryz.func201 rfl rfl rfl ?_
  repeat' (first | refine d1 ?_ | refine dd ?_ | (show ∀ _ : Nat, T _ _ _ _ _; intro _))
  refine T_if rfl (fun h => by exfalso; simp at h; omega) (fun h => ?_)
  repeat' (first | refine d1 ?_ | refine dd ?_ | (show ∀ _ : Nat, T _ _ _ _ _; intro _))
  refine T_if rfl (fun h => ?_) (fun h => ?_)
  · simp only [decide_eq_true_eq] at h
    rw [show (n : Int) - ((0 : Nat) - (0 : Nat) : Int) = ((n : Nat) : Int) by omega]
    repeat' (first | refine d1 ?_ | refine dd ?_ | (show T _ (.ops _ (_ :: _) :: _) _ _ _; refine T_op (OpT.appendN (k := n) (sz := 1) rfl rfl rfl rfl rfl rfl rfl rfl rfl (by omega) (by dsimp only; omega) (by omega) (fun b cap' hc' => ?_))) | (show ∀ _ : Nat, T _ _ _ _ _; intro _) | (show T _ (.code .ret :: _) _ _ _; refine T_retV _ rfl (Hle.refl _) ⟨(some ⟨_, 0, none⟩, _), trivial, rfl, rfl⟩))
  · simp only [decide_eq_false_iff_not] at h
    refine T_nilrow 3 1 ?_
    repeat' (first | refine d1 ?_ | refine dd ?_ | (show ∀ _ : Nat, T _ _ _ _ _; intro _) | (show T _ (.code .ret :: _) _ _ _; refine T_retV _ rfl (Hle.refl _) ⟨(none, 0), trivial, rfl, rfl⟩))
theorem concatI_spec (A : Option Addr) (n c : Nat) (l : List PS) (w : World) (hs : Src w 1 A n (l.map PS.val)) (hn : l.length = n) (hb : n ≤ 1000) (hl : ∀ p ∈ l, Src w 1 p.A p.n p.vs ∧ oneCells p.vs = true) (hsum : sumP l ≤ 1000000) :
    Spec Tryz.prog 164 [.slice A n c] w (fun v R => ∃ x : Option Addr × Nat, True ∧ v = .slice x.1 (sumP l) x.2 ∧ R = [row 3 1 x.1 x.2 (sumP l) (catP l)]) := by
  refine spec_of sg Tryz.func164 rfl rfl rfl ?_
  repeat' (first | refine d1 ?_ | refine dd ?_ | (show ∀ _ : Nat, T _ _ _ _ _; intro _))
  refine T_loopX (fun j : Nat => [(11, .int .i64 (j : Nat)), (3, .int .i64 (sumP (l.take j) : Nat))]) (fun _ => []) (fun j => j ≤ n) (fun j => n - j) 0 (Nat.zero_le _) ?_
  intro j hj
  have hsj := sumP_le l j
  repeat' (first | refine d1 ?_ | refine dd ?_ | (show ∀ _ : Nat, T _ _ _ _ _; intro _))
  refine T_if rfl (fun h => ?_) (fun h => ?_)
  · simp only [decide_eq_true_eq] at h
    obtain ⟨b, o, rfl⟩ := hs.base (by omega)
    obtain ⟨t, ht⟩ : ∃ t, l[j]? = some t := ⟨_, List.getElem?_eq_getElem (by omega)⟩
    have hr : RdC w b (o + (j : Int).toNat * 1) [.slice t.A t.n t.cap] := by
      have h9 := (hs.get1 (i := j) (by omega) (by rw [List.getElem?_map, ht]; rfl)).2
      rw [Nat.mul_one] at h9
      rw [off1]
      exact h9
    have hsn := sumP_snoc ht
    have hsn2 := sumP_le l (j + 1)
    repeat' (first | refine d1 ?_ | refine dd ?_ | (show ∀ _ : Nat, T _ _ _ _ _; intro _))
    refine T_if rfl (fun h2 => by exfalso; simp at h2; omega) (fun h2 => ?_)
    repeat' (first | refine d1 ?_ | refine dd ?_ | (show ∀ _ : Nat, T _ _ _ _ _; intro _))
    exact T_backX (j + 1) (by omega) (by omega) (hE := ⟨rfl, by rw [hsn]; rfl, trivial⟩)
  simp only [decide_eq_false_iff_not] at h
  obtain rfl : j = n := by omega
  rw [show l.take j = l from List.take_of_length_le (by omega)]
  repeat' (first | refine d1 ?_ | refine dd ?_ | (show T _ (.ops _ (_ :: _) :: _) _ _ _; refine T_callE rfl rfl rfl rfl rfl (fun w hw => growI_spec (sumP l) w hsum) (fun x _ => ?_)) | (show ∀ _ : Nat, T _ _ _ _ _; intro _))
  obtain ⟨Ag, cg⟩ := x
  refine T_loopX (fun s : Nat × Option Addr × Nat => [(27, .int .i64 (s.1 : Nat)), (6, .slice s.2.1 (sumP (l.take s.1)) s.2.2)]) (fun s => [row 3 1 s.2.1 s.2.2 (sumP (l.take s.1)) (catP (l.take s.1))]) (fun s => s.1 ≤ j) (fun s => j - s.1) (0, Ag, cg) (Nat.zero_le _) ?_
  rintro ⟨k, A1, cap1⟩ hk
  dsimp only at hk ⊢
  have hsk := sumP_le l k
  repeat' (first | refine d1 ?_ | refine dd ?_ | (show ∀ _ : Nat, T _ _ _ _ _; intro _))
  refine T_if rfl (fun h3 => ?_) (fun h3 => ?_)
  · simp only [decide_eq_true_eq] at h3
    obtain ⟨b, o, rfl⟩ := hs.base (by omega)
    obtain ⟨t, ht⟩ : ∃ t, l[k]? = some t := ⟨_, List.getElem?_eq_getElem (by omega)⟩
    have hr : RdC w b (o + (k : Int).toNat * 1) [.slice t.A t.n t.cap] := by
      have h9 := (hs.get1 (i := k) (by omega) (by rw [List.getElem?_map, ht]; rfl)).2
      rw [Nat.mul_one] at h9
      rw [off1]
      exact h9
    have hsn := sumP_snoc ht
    have hsn2 := sumP_le l (k + 1)
    obtain ⟨hp1, hp2⟩ := hl t (List.mem_of_getElem? ht)
    repeat' (first | refine d1 ?_ | refine dd ?_ | (show T _ (.ops _ (_ :: _) :: _) _ _ _; refine T_op (OpT.append rfl rfl rfl rfl rfl rfl rfl rfl rfl rfl (rdSrc hp1) hp2 (by dsimp only; omega) (by omega) (fun A' cap' hA' => ?_))) | (show ∀ _ : Nat, T _ _ _ _ _; intro _))
    exact T_backX (k + 1, A', cap') (by dsimp only; omega) (by dsimp only; omega) (hE := ⟨rfl, by dsimp only; rw [hsn]; rfl, trivial⟩) (hG := by dsimp only; rw [hsn, catP_snoc ht]; exact Hle.refl _)
  · simp only [decide_eq_false_iff_not] at h3
    obtain rfl : k = j := by omega
    rw [show l.take k = l from List.take_of_length_le (by omega)]
    repeat' (first | refine d1 ?_ | refine dd ?_ | (show ∀ _ : Nat, T _ _ _ _ _; intro _) | (show T _ (.code .ret :: _) _ _ _; refine T_retV _ rfl (Hle.refl _) ⟨(A1, cap1), trivial, rfl, rfl⟩))
theorem growS_spec (n : Nat) (w : World) (hb : n ≤ 1000000) :
    Spec Tryz.prog 166 [.slice none 0 0, .int .i64 (n : Nat)] w (fun v R => ∃ x : Option Addr × Nat, True ∧ v = .slice x.1 0 x.2 ∧ R = [row 40 1 x.1 x.2 0 []]) := by
  refine spec_of sg Tryz.func166 rfl rfl rfl ?_
  repeat' (first | refine d1 ?_ | refine dd ?_ | (show ∀ _ : Nat, T _ _ _ _ _; intro _))
  refine T_if rfl (fun h => by exfalso; simp at h; omega) (fun h => ?_)
  repeat' (first | refine d1 ?_ | refine dd ?_ | (show ∀ _ : Nat, T _ _ _ _ _; intro _))
  refine T_if rfl (fun h => ?_) (fun h => ?_)
  · simp only [decide_eq_true_eq] at h
    rw [show (n : Int) - ((0 : Nat) - (0 : Nat) : Int) = ((n : Nat) : Int) by omega]
    repeat' (first | refine d1 ?_ | refine dd ?_ | (show T _ (.ops _ (_ :: _) :: _) _ _ _; refine T_op (OpT.appendN (k := n) (sz := 1) rfl rfl rfl rfl rfl rfl rfl rfl rfl (by omega) (by dsimp only; omega) (by omega) (fun b cap' hc' => ?_))) | (show ∀ _ : Nat, T _ _ _ _ _; intro _) | (show T _ (.code .ret :: _) _ _ _; refine T_retV _ rfl (Hle.refl _) ⟨(some ⟨_, 0, none⟩, _), trivial, rfl, rfl⟩))
  · simp only [decide_eq_false_iff_not] at h
    refine T_nilrow 40 1 ?_
    repeat' (first | refine d1 ?_ | refine dd ?_ | (show ∀ _ : Nat, T _ _ _ _ _; intro _) | (show T _ (.code .ret :: _) _ _ _; refine T_retV _ rfl (Hle.refl _) ⟨(none, 0), trivial, rfl, rfl⟩))
theorem concatS_spec (A : Option Addr) (n c : Nat) (l : List PS) (w : World) (hs : Src w 1 A n (l.map PS.val)) (hn : l.length = n) (hb : n ≤ 1000) (hl : ∀ p ∈ l, Src w 1 p.A p.n p.vs ∧ oneCells p.vs = true) (hsum : sumP l ≤ 1000000) :
    Spec Tryz.prog 106 [.slice A n c] w (fun v R => ∃ x : Option Addr × Nat, True ∧ v = .slice x.1 (sumP l) x.2 ∧ R = [row 40 1 x.1 x.2 (sumP l) (catP l)]) := by
  refine spec_of sg Tryz.func106 rfl rfl rfl ?_
  repeat' (first | refine d1 ?_ | refine dd ?_ | (show ∀ _ : Nat, T _ _ _ _ _; intro _))
  refine T_loopX (fun j : Nat => [(11, .int .i64 (j : Nat)), (3, .int .i64 (sumP (l.take j) : Nat))]) (fun _ => []) (fun j => j ≤ n) (fun j => n - j) 0 (Nat.zero_le _) ?_
  intro j hj
  have hsj := sumP_le l j
  repeat' (first | refine d1 ?_ | refine dd ?_ | (show ∀ _ : Nat, T _ _ _ _ _; intro _))
  refine T_if rfl (fun h => ?_) (fun h => ?_)
  · simp only [decide_eq_true_eq] at h
    obtain ⟨b, o, rfl⟩ := hs.base (by omega)
    obtain ⟨t, ht⟩ : ∃ t, l[j]? = some t := ⟨_, List.getElem?_eq_getElem (by omega)⟩
    have hr : RdC w b (o + (j : Int).toNat * 1) [.slice t.A t.n t.cap] := by
      have h9 := (hs.get1 (i := j) (by omega) (by rw [List.getElem?_map, ht]; rfl)).2
      rw [Nat.mul_one] at h9
      rw [off1]
      exact h9
    have hsn := sumP_snoc ht
    have hsn2 := sumP_le l (j + 1)
    repeat' (first | refine d1 ?_ | refine dd ?_ | (show ∀ _ : Nat, T _ _ _ _ _; intro _))
    refine T_if rfl (fun h2 => by exfalso; simp at h2; omega) (fun h2 => ?_)
    repeat' (first | refine d1 ?_ | refine dd ?_ | (show ∀ _ : Nat, T _ _ _ _ _; intro _))
    exact T_backX (j + 1) (by omega) (by omega) (hE := ⟨rfl, by rw [hsn]; rfl, trivial⟩)
  simp only [decide_eq_false_iff_not] at h
  obtain rfl : j = n := by omega
  rw [show l.take j = l from List.take_of_length_le (by omega)]
  repeat' (first | refine d1 ?_ | refine dd ?_ | (show T _ (.ops _ (_ :: _) :: _) _ _ _; refine T_callE rfl rfl rfl rfl rfl (fun w hw => growS_spec (sumP l) w hsum) (fun x _ => ?_)) | (show ∀ _ : Nat, T _ _ _ _ _; intro _))
  obtain ⟨Ag, cg⟩ := x
  refine T_loopX (fun s : Nat × Option Addr × Nat => [(27, .int .i64 (s.1 : Nat)), (6, .slice s.2.1 (sumP (l.take s.1)) s.2.2)]) (fun s => [row 40 1 s.2.1 s.2.2 (sumP (l.take s.1)) (catP (l.take s.1))]) (fun s => s.1 ≤ j) (fun s => j - s.1) (0, Ag, cg) (Nat.zero_le _) ?_
  rintro ⟨k, A1, cap1⟩ hk
  dsimp only at hk ⊢
  have hsk := sumP_le l k
  repeat' (first | refine d1 ?_ | refine dd ?_ | (show ∀ _ : Nat, T _ _ _ _ _; intro _))
  refine T_if rfl (fun h3 => ?_) (fun h3 => ?_)
  · simp only [decide_eq_true_eq] at h3
    obtain ⟨b, o, rfl⟩ := hs.base (by omega)
    obtain ⟨t, ht⟩ : ∃ t, l[k]? = some t := ⟨_, List.getElem?_eq_getElem (by omega)⟩
    have hr : RdC w b (o + (k : Int).toNat * 1) [.slice t.A t.n t.cap] := by
      have h9 := (hs.get1 (i := k) (by omega) (by rw [List.getElem?_map, ht]; rfl)).2
      rw [Nat.mul_one] at h9
      rw [off1]
      exact h9
    have hsn := sumP_snoc ht
    have hsn2 := sumP_le l (k + 1)
    obtain ⟨hp1, hp2⟩ := hl t (List.mem_of_getElem? ht)
    repeat' (first | refine d1 ?_ | refine dd ?_ | (show T _ (.ops _ (_ :: _) :: _) _ _ _; refine T_op (OpT.append rfl rfl rfl rfl rfl rfl rfl rfl rfl rfl (rdSrc hp1) hp2 (by dsimp only; omega) (by omega) (fun A' cap' hA' => ?_))) | (show ∀ _ : Nat, T _ _ _ _ _; intro _))
    exact T_backX (k + 1, A', cap') (by dsimp only; omega) (by dsimp only; omega) (hE := ⟨rfl, by dsimp only; rw [hsn]; rfl, trivial⟩) (hG := by dsimp only; rw [hsn, catP_snoc ht]; exact Hle.refl _)
  · simp only [decide_eq_false_iff_not] at h3
    obtain rfl : k = j := by omega
    rw [show l.take k = l from List.take_of_length_le (by omega)]
    repeat' (first | refine d1 ?_ | refine dd ?_ | (show ∀ _ : Nat, T _ _ _ _ _; intro _) | (show T _ (.code .ret :: _) _ _ _; refine T_retV _ rfl (Hle.refl _) ⟨(A1, cap1), trivial, rfl, rfl⟩))
theorem withoutC_spec (z : Int) (w : World) : Spec Tryz.prog 165 [.int .i64 z] w (fun v A => v = .bool (decide (0 ≤ z)) ∧ A = []) := by
  refine spec_of sg Tryz.func165 rfl rfl rfl ?_
  repeat' (first | refine d1 ?_ | refine dd ?_ | (show ∀ _ : Nat, T _ _ _ _ _; intro _) | (show T _ (.code .ret :: _) _ _ _; refine T_retV [] rfl (Hle.none _) ⟨rfl, rfl⟩))
theorem wthC_snoc (cols : List (List Int)) (i : Nat) (x : List Int) : wthC (cols ++ [x]) i = wthC cols i ++ if anyP (dropI x i) = true then [dropI x i] else [] := by
  unfold wthC
  rw [List.map_append, List.filter_append]
  show _ ++ List.filter anyP [dropI x i] = _
  rw [List.filter_cons]
  rfl
theorem without_spec (x : Value) (cols : List (List Int)) (i : Nat) (w : World) (hx : Rd (wr w) [x] [rowsD cols]) (hi : ∀ r ∈ cols, i < r.length) (hr9 : ∀ r ∈ cols, r.length ≤ 1000) (hsz : cols.length ≤ 100000) :
    Spec Tryz.prog 104 [x, .int .i64 (i : Nat)] w (fun v R => ∃ y : Value, True ∧ v = y ∧ R = [dat [y] [rowsD (wthC cols i)]]) := by
  obtain ⟨Ac, cc, csc, rfl, hc1, hc2, hcs, hrows⟩ := hx.tabS
  refine spec_of sg Tryz.func104 rfl rfl rfl ?_
  repeat' (first | refine d1 ?_ | refine dd ?_ | (show ∀ _ : Nat, T _ _ _ _ _; intro _))
  refine T_le (dat_nil _) ?_
  refine T_nilrow 27 1 ?_
  refine T_loopX (fun s : Nat × (Option Addr × Nat) × List Value => [(11, .int .i64 (s.1 : Nat)), (5, .slice s.2.1.1 (wthC (cols.take s.1) i).length s.2.1.2)]) (fun s => [row 27 1 s.2.1.1 s.2.1.2 (wthC (cols.take s.1) i).length s.2.2, dat s.2.2 ((wthC (cols.take s.1) i).map intsD)]) (fun s => s.1 ≤ cols.length) (fun s => cols.length - s.1) (0, (none, 0), []) (Nat.zero_le _) ?_
  rintro ⟨q, ⟨Ao, capo⟩, hs9⟩ hq
  dsimp only at hq ⊢
  repeat' (first | refine d1 ?_ | refine dd ?_ | (show ∀ _ : Nat, T _ _ _ _ _; intro _))
  refine T_if rfl (fun h4 => ?_) (fun h4 => ?_)
  · simp only [decide_eq_true_eq] at h4
    have hqn : q < cols.length := by omega
    obtain ⟨b, o, rfl⟩ := hcs.base (by omega)
    obtain ⟨r, hr⟩ : ∃ r, cols[q]? = some r := ⟨_, List.getElem?_eq_getElem hqn⟩
    have hrm := List.mem_of_getElem? hr
    have hir := hi r hrm
    have hrl := hr9 r hrm
    obtain ⟨Au, capu, hu, hcu1, hcu2, hA⟩ := hrows.tabRow hr
    have hr0 := rowHd hcs hqn hu
    have hsr := rowSrc hA
    have htk := take_snoc _ _ _ hr
    have hps : wthC (cols.take (q + 1)) i = wthC (cols.take q) i ++ if anyP (dropI r i) = true then [dropI r i] else [] := by rw [htk, wthC_snoc]
    have hpl : (wthC (cols.take q) i).length ≤ q := by
      have h9 := wthC_len (cols.take q) i
      rw [List.length_take] at h9
      omega
    have hdl : (dropI r i).length = i + (r.length - (i + 1)) := by unfold dropI; rw [List.length_append, List.length_take, List.length_drop]; omega
    have hok : ∀ {w' : World} {H : List HA}, Cls w w' H → ∀ p ∈ ([⟨Au, i, capu, (r.take i).map (Value.int .i64)⟩, ⟨cutA Au capu (i + 1) 1, r.length - (i + 1), capu - (i + 1), (r.drop (i + 1)).map (Value.int .i64)⟩] : List PS), Src w' 1 p.A p.n p.vs ∧ oneCells p.vs = true := fun {w' H} hw => by
      have hsr9 := src_below hsr hw.below
      refine List.forall_mem_cons.2 ⟨⟨?_, oneInts _⟩, List.forall_mem_cons.2 ⟨⟨?_, oneInts _⟩, fun p h => by cases h⟩⟩
      · have h9 := src_take1 hsr9 i (by omega)
        rw [← List.map_take] at h9
        exact h9
      · have h9 := src_drop1 (ca := capu) hsr9 (i + 1) (by omega) (by omega)
        rw [← List.map_drop] at h9
        exact h9
    have hsum : sumP ([⟨Au, i, capu, (r.take i).map (Value.int .i64)⟩, ⟨cutA Au capu (i + 1) 1, r.length - (i + 1), capu - (i + 1), (r.drop (i + 1)).map (Value.int .i64)⟩] : List PS) = (dropI r i).length := by
      rw [hdl]
      show i + (r.length - (i + 1) + 0) = _
      omega
    have hcat : catP ([⟨Au, i, capu, (r.take i).map (Value.int .i64)⟩, ⟨cutA Au capu (i + 1) 1, r.length - (i + 1), capu - (i + 1), (r.drop (i + 1)).map (Value.int .i64)⟩] : List PS) = (dropI r i).map (Value.int .i64) := by
      unfold dropI
      rw [List.map_append]
      show (r.take i).map (Value.int .i64) ++ ((r.drop (i + 1)).map (Value.int .i64) ++ []) = _
      rw [List.append_nil]
    repeat' (first | refine d1 ?_ | (show ∀ _ : Nat, T _ _ _ _ _; intro _))
    refine rsH [row 27 1 Ao capo (wthC (cols.take q) i).length hs9, dat hs9 ((wthC (cols.take q) i).map intsD)] 1000 [0, 1, 2, 3, 4, 5, 6, 7, 8, 9] ?_
    repeat' (first | refine d1 ?_ | refine dd ?_ | (show T _ (.run _ _ (_ :: _) _ _ :: _) _ _ _; refine ro rfl rfl (OpT.litW rfl rfl rfl rfl rfl rfl rfl rfl rfl rfl rfl (fun b3 => ⟨fun _ => Hle.sub, ?_⟩))) | (show ∀ _ : Nat, T _ _ _ _ _; intro _))
    rw [show ((i : Int) + 1).toNat = i + 1 by omega]
    simp only [Int.toNat_natCast]
    refine ro rfl rfl (OpT.callE1 rfl rfl rfl rfl rfl (fun w hw => concatI_spec (some ⟨b3, 0, none⟩) 2 2 [⟨Au, i, capu, (r.take i).map (Value.int .i64)⟩, ⟨cutA Au capu (i + 1) 1, r.length - (i + 1), capu - (i + 1), (r.drop (i + 1)).map (Value.int .i64)⟩] w (Src.own hw rfl) rfl (by omega) (hok hw) (by rw [hsum, hdl]; omega)) (fun x9 _ => ⟨fun _ => (Hle.tail _ _).trans (Hle.tail _ _), ?_⟩))
    rw [hsum, hcat]
    obtain ⟨A9, c9⟩ := x9
    dsimp only
    refine T_le (Hle.drop2 _ _ _) ?_
    repeat' (first | refine d1 ?_ | refine dd ?_ | (show T _ (.ops _ (_ :: _) :: _) _ _ _; first | refine T_call rfl rfl rfl rfl rfl (fun w hw => containsFuncI_spec A9 (dropI r i).length c9 (dropI r i) _ [] [] (fun z => decide (0 ≤ z)) w (srcRw w hw) rfl (by omega) (fun z hz w' hb' => withoutC_spec z w')) ?_ | refine T_callC rfl rfl rfl rfl rfl rfl rfl (fun hg w hw => containsFuncI_spec A9 (dropI r i).length c9 (dropI r i) _ [] [] (fun z => decide (0 ≤ z)) w (srcRw w hw) rfl (by omega) (fun z hz w' hb' => withoutC_spec z w')) ?_) | (show T _ (.run _ _ (_ :: _) _ _ :: _) _ _ _; first | refine rc rfl rfl rfl rfl rfl rfl rfl (fun w hw => containsFuncI_spec A9 (dropI r i).length c9 (dropI r i) _ [] [] (fun z => decide (0 ≤ z)) w (srcRw w hw) rfl (by omega) (fun z hz w' hb' => withoutC_spec z w')) ?_ | refine rcG rfl rfl rfl rfl rfl rfl rfl rfl rfl (fun hg w hw => containsFuncI_spec A9 (dropI r i).length c9 (dropI r i) _ [] [] (fun z => decide (0 ≤ z)) w (srcRw w hw) rfl (by omega) (fun z hz w' hb' => withoutC_spec z w')) ?_) | (show ∀ _ : Nat, T _ _ _ _ _; intro _))
    have hany : ((dropI r i).any fun z => decide (0 ≤ z)) = anyP (dropI r i) := rfl
    rw [hany]
    refine T_if rfl (fun h6 => ?_) (fun h6 => ?_)
    · rw [if_pos h6] at hps
      repeat' (first | refine d1 ?_ | refine dd ?_ | (show T _ (.ops _ (_ :: _) :: _) _ _ _; refine T_op (OpT.append (A := Ao) rfl rfl rfl rfl rfl rfl rfl rfl rfl rfl (fun w hw => Src.own hw rfl) rfl (by dsimp only; omega) (by omega) (fun A' cap' hA' => ?_))) | (show ∀ _ : Nat, T _ _ _ _ _; intro _))
      refine T_backX (q + 1, (A', cap'), hs9 ++ [.slice A9 (dropI r i).length c9]) (by dsimp only; omega) (by dsimp only; omega) (hE := ⟨rfl, by dsimp only; rw [hps, List.length_append]; rfl, trivial⟩) (hG := ?_)
      dsimp only
      rw [hps, List.length_append, show [dropI r i].length = 1 from rfl]
      exact (Hle.srt (K := [row 3 1 A9 c9 (dropI r i).length ((dropI r i).map (Value.int .i64)), dat hs9 ((wthC (cols.take q) i).map intsD), row 27 1 A' cap' ((wthC (cols.take q) i).length + 1) (hs9 ++ flatP [(0, .slice A9 (dropI r i).length c9)])])).trans (out_hle (cl := dropI r i) rfl)
    · rw [if_neg (by rw [h6]; simp), List.append_nil] at hps
      repeat' (first | refine d1 ?_ | refine dd ?_ | (show ∀ _ : Nat, T _ _ _ _ _; intro _))
      exact T_backX (q + 1, (Ao, capo), hs9) (by dsimp only; omega) (by dsimp only; omega) (hE := ⟨rfl, by dsimp only; rw [hps]; rfl, trivial⟩) (hG := by dsimp only; rw [hps]; exact Hle.tail _ _)
  · simp only [decide_eq_false_iff_not] at h4
    obtain rfl : q = cols.length := by omega
    rw [List.take_of_length_le (Nat.le_refl _)]
    repeat' (first | refine d1 ?_ | refine dd ?_ | (show ∀ _ : Nat, T _ _ _ _ _; intro _) | (show T _ (.code .ret :: _) _ _ _; refine T_retV _ rfl dat_row ⟨_, trivial, rfl, by rfl⟩))
end Go.Proofs.YtofikdpbagnjbaaGreatDoor
namespace Go.Proofs.YtofikdpbagnjbaaGreatDoor
open Go.RowKit Go.Shelf Go.Proofs
set_option maxRecDepth 100000
set_option maxHeartbeats 1000000

theorem rowBd {w0 w : World} {H : List HA} {A : Option Addr} {e sz cap n : Nat} {xs : List Value} {rb : HA → List HA} [hf : FocusR H A e sz cap n xs rb] (hw : Cls w0 w H) : n ≤ cap ∧ cap ≤ 9223372036854775807 := by
  obtain ⟨i, hi, _⟩ := hf.at_
  obtain ⟨F, h1, h2, h3⟩ := hw.sep
  obtain ⟨hl, hr⟩ := h1 i _ hi
  rcases hr with ⟨_, h8, h9, _⟩ | ⟨g, cur, rfl, hF, g1, g2, g3, g4⟩
  · omega
  · simp only [maxLen] at g2
    exact ⟨g1, g2⟩
theorem rowRd {w0 w : World} {H : List HA} {A : Option Addr} {e cap n : Nat} {hs : List Value} {rb : HA → List HA} [FocusR H A e 1 cap n hs rb] (hw : Cls w0 w H) {m : List (List Int)} (hr : Rd (wr w) hs (m.map intsD)) : Rd (wr w) [.slice A n cap] [rowsD m] :=
  (srcRowH (A := A) hw).rdD (rowBd (A := A) hw).1 (rowBd (A := A) hw).2 hr
structure ColsAt (w0 : World) (p : Frag) (hs : List Value) (cols : List (List Int)) : Prop where
  rd : ∀ {w' : World} {H : List HA} [FocusZ H p], Cls w0 w' H → Rd (wr w') hs (cols.map intsD)
  sh : ∀ {i : Nat} {r : List Int}, cols[i]? = some r → ∃ A cap, hs[i]? = some (.slice A r.length cap)
  len : hs.length = cols.length
theorem ColsAt.old {w : World} {p : Frag} {hs : List Value} {cols : List (List Int)} (h : Rd (wr w) hs (cols.map intsD)) : ColsAt w p hs cols :=
  ⟨fun hw => h.old hw, fun hr => by obtain ⟨A, cap, h1, -⟩ := h.tabRow hr; exact ⟨A, cap, h1⟩, by have := h.length; rwa [List.length_map] at this⟩
theorem ColsAt.own {w : World} {p : Frag} {hs : List Value} {cols : List (List Int)} (h : Rd (fr p) hs (cols.map intsD)) : ColsAt w p hs cols :=
  ⟨fun hw => h.own hw, fun hr => by obtain ⟨A, cap, h1, -⟩ := h.tabRow hr; exact ⟨A, cap, h1⟩, by have := h.length; rwa [List.length_map] at this⟩
theorem set_at {α : Type} (y : α) : ∀ (ns : List α) (x : α) (t : List α), (ns ++ x :: t).set ns.length y = ns ++ y :: t
  | [], _, _ => rfl
  | n :: ns, x, t => by
    show n :: (ns ++ x :: t).set ns.length y = _
    rw [set_at y ns x t]; rfl
theorem fz_unit (H : List HA) : Hle H (fz (fun _ => none) :: H) := hle_unit rfl
noncomputable def refV (c : Costs) (l : List TS) (cols : List (List Int)) (z : Int) : List (List Int) × Int := if ck21 c l ≠ 0 then ([], ck21 c l) else if alV l cols ≠ 0 then ([], alV l cols) else if z < 0 ∨ 8 < z then ([], 2) else (refN c l cols z.toNat, 0)
theorem alV_ok2 {l : List TS} {cols : List (List Int)} (h : alV l cols = 0) : ColsOk (lens l) cols := by
  by_cases h0 : l.length = 0
  · unfold alV at h
    by_cases h1 : l.length = 0 ∧ cols.length = 0
    · have e1 : l = [] := List.eq_nil_of_length_eq_zero h1.1
      have e2 : cols = [] := List.eq_nil_of_length_eq_zero h1.2
      subst e1; subst e2
      exact ⟨fun x hx => (by cases hx), fun x hx => (by cases hx), fun s m hm => (by simp [lens] at hm)⟩
    · rw [if_neg h1, if_neg (by rw [chkC_zero h0]; decide)] at h
      omega
  · exact alV_ok h0 h
theorem sumL_lens100 {l : List TS} (h : ∀ t ∈ l, t.n ≤ 100) : sumL (lens l) ≤ 100 * l.length := by
  induction l with
  | nil => exact Nat.zero_le _
  | cons t l ih =>
    have h1 := h t (.head _)
    have h2 := ih fun x hx => h x (.tail _ hx)
    show t.n + sumL (lens l) ≤ _
    rw [List.length_cons, Nat.mul_add]
    omega
theorem arrangedR_spec (x : Value) (cols : List (List Int)) (Ao : Option Addr) (n co : Nat) (ord : List Nat) (w : World) (hx : Rd (wr w) [x] [rowsD cols]) (ho : Src w 1 Ao n (ord.map fun k => Value.int .i64 (k : Nat))) (hno : ord.length = n)
    (hcl : ∀ r ∈ cols, r.length = n) (hlt : ∀ k ∈ ord, k < n) (hn : n ≤ 1000) (hlen : cols.length ≤ 100000) :
    Spec Tryz.prog 83 [x, .slice Ao n co] w (fun v R => ∃ y : (Option Addr × Nat) × List Value, True ∧ v = .slice y.1.1 cols.length y.1.2 ∧ R = [row 27 1 y.1.1 y.1.2 cols.length y.2, dat y.2 ((cols.map (arrR ord)).map intsD)]) := by
  refine spec_of sg Tryz.func83 rfl rfl rfl ?_
  obtain ⟨A, cap, cs, rfl, hcap1, hcap2, hcs, hrows⟩ := hx.tabS
  repeat' (first | refine d1 ?_ | refine dd ?_ | (show ∀ _ : Nat, T _ _ _ _ _; intro _))
  refine T_le (dat_nil _) ?_
  refine T_nilrow 27 1 ?_
  refine T_loopX (fun x : Nat × (Option Addr × Nat) × List Value => [(13, .int .i64 x.1), (5, .slice x.2.1.1 x.1 x.2.1.2)]) (fun x => [row 27 1 x.2.1.1 x.2.1.2 x.1 x.2.2, dat x.2.2 (((cols.map (arrR ord)).take x.1).map intsD)]) (fun x => x.1 ≤ cols.length) (fun x => cols.length - x.1) (0, (none, 0), []) (Nat.zero_le _) ?_
  rintro ⟨i, ⟨Ar, capr⟩, hs⟩ hi
  dsimp only at hi ⊢
  repeat' (first | refine d1 ?_ | refine dd ?_ | (show ∀ _ : Nat, T _ _ _ _ _; intro _))
  refine T_if rfl (fun h => ?_) (fun h => ?_)
  · simp only [decide_eq_true_eq] at h
    obtain ⟨b, o, rfl⟩ := hcs.base (by omega)
    obtain ⟨r, hr⟩ : ∃ r, cols[i]? = some r := ⟨_, List.getElem?_eq_getElem (by omega)⟩
    obtain ⟨Au, capu, hu, -, -, hA⟩ := hrows.tabRow hr
    have hr0 : RdC w b (o + (i : Int).toNat * 1) [.slice Au r.length capu] := by
      have h9 := (hcs.get1 (i := i) (by omega) hu).2
      rw [Nat.mul_one] at h9
      rw [off1]
      exact h9
    have hrn := hcl r (List.mem_of_getElem? hr)
    repeat' (first | refine d1 ?_ | refine dd ?_ | (show T _ (.ops _ (_ :: _) :: _) _ _ _; refine T_op (OpT.make rfl rfl rfl rfl rfl rfl rfl rfl rfl (by dsimp only; omega) (fun b1 => ?_))) | (show ∀ _ : Nat, T _ _ _ _ _; intro _))
    have e0 : (arrJ ord r 0).map (Value.int .i64) = List.replicate ((r.length : Nat) : Int).toNat (Value.int .i64 0) := by simp [arrJ]
    refine T_le (H' := [blk b1 ((arrJ ord r 0).map (Value.int .i64)) 3, row 27 1 Ar capr i hs, dat hs (((cols.map (arrR ord)).take i).map intsD)]) (by rw [e0]; exact Hle.refl _) ?_
    refine T_loopX (fun k : Nat => [(22, .int .i64 k)]) (fun k => [blk b1 ((arrJ ord r k).map (Value.int .i64)) 3, row 27 1 Ar capr i hs, dat hs (((cols.map (arrR ord)).take i).map intsD)]) (fun k => k ≤ r.length) (fun k => r.length - k) 0 (Nat.zero_le _) ?_
    intro k hk
    repeat' (first | refine d1 ?_ | refine dd ?_ | (show ∀ _ : Nat, T _ _ _ _ _; intro _))
    refine T_if rfl (fun h3 => ?_) (fun h3 => ?_)
    · simp only [decide_eq_true_eq] at h3
      have hkr : k < r.length := by omega
      obtain ⟨bu, ou, rfl, hbu⟩ := hA (by omega)
      obtain ⟨bo, oo, rfl⟩ := ho.base (by omega)
      obtain ⟨z, hz⟩ : ∃ z, r[k]? = some z := ⟨_, List.getElem?_eq_getElem hkr⟩
      obtain ⟨q, hq⟩ : ∃ q, ord[k]? = some q := ⟨_, List.getElem?_eq_getElem (by omega)⟩
      have hqn := hlt q (List.mem_of_getElem? hq)
      have hr1 : RdC w bu (ou + (k : Int).toNat * 1) [.int .i64 z] := RdC.one (by rw [off1]; exact hbu k z hz)
      have hr2 : RdC w bo (oo + (k : Int).toNat * 1) [.int .i64 (q : Nat)] := by
        have h9 := (ho.get1 (i := k) (by omega) (by rw [List.getElem?_map, hq]; rfl)).2
        rw [Nat.mul_one] at h9
        rw [off1]
        exact h9
      have est : (arrJ ord r (k + 1)).map (Value.int .i64) = ((arrJ ord r k).map (Value.int .i64)).set (0 + (q : Int).toNat * 1) (.int .i64 z) := by
        rw [off1, arrJ, List.map_set, List.getD_eq_getElem?_getD, List.getD_eq_getElem?_getD, hq, hz]; simp
      repeat' (first | refine d1 ?_ | refine dd ?_ | (show T _ (.ops _ (_ :: _) :: _) _ _ _; refine T_op (OpT.store rfl rfl rfl rfl (by rw [List.length_map, arrJ_len]; omega) ?_)) | (show ∀ _ : Nat, T _ _ _ _ _; intro _))
      exact T_backX (k + 1) (by omega) (by omega) (hG := by rw [est]; exact Hle.refl _)
    · simp only [decide_eq_false_iff_not] at h3
      obtain rfl : k = r.length := by omega
      have ei : intsD (arrR ord r) = .s 1 (((arrJ ord r r.length).map (Value.int .i64)).map .v) := by rw [List.map_map]; rfl
      have et : ((cols.map (arrR ord)).take (i + 1)).map intsD = ((cols.map (arrR ord)).take i).map intsD ++ [intsD (arrR ord r)] := by
        rw [take_snoc _ _ _ (show (cols.map (arrR ord))[i]? = some (arrR ord r) by rw [List.getElem?_map, hr]; rfl), List.map_append]; rfl
      refine T_le (H' := [row 27 1 Ar capr i hs, dat (hs ++ [.slice (some ⟨b1, 0, none⟩) r.length r.length]) (((cols.map (arrR ord)).take (i + 1)).map intsD)]) ?_ ?_
      · rw [et, ei]
        exact (dat_blkV (sz := 1) (n := r.length) (by rw [List.length_map, arrJ_len, Nat.mul_one]) (by omega)).trans ((Hle.perm (List.Perm.cons _ (List.Perm.swap _ _ _))).trans (dat_join.trans (Hle.perm (List.Perm.swap _ _ _))))
      repeat' (first | refine d1 ?_ | refine dd ?_ | (show T _ (.ops _ (_ :: _) :: _) _ _ _; refine T_op (OpT.append rfl rfl rfl rfl rfl rfl rfl rfl rfl rfl (fun w hw => Src.own hw rfl) rfl (by dsimp only; omega) (by omega) (fun A' cap' hA' => ?_))) | (show ∀ _ : Nat, T _ _ _ _ _; intro _))
      exact T_backX (i + 1, (A', cap'), hs ++ [.slice (some ⟨b1, 0, none⟩) r.length r.length]) (by dsimp only; omega) (by dsimp only; omega) (hE := ⟨rfl, rfl, trivial⟩) (hG := Hle.tail _ _)
  · simp only [decide_eq_false_iff_not] at h
    obtain rfl : i = cols.length := by omega
    rw [show (cols.map (arrR ord)).take cols.length = cols.map (arrR ord) from List.take_of_length_le (by simp)]
    repeat' (first | refine d1 ?_ | refine dd ?_ | (show ∀ _ : Nat, T _ _ _ _ _; intro _) | (show T _ (.code .ret :: _) _ _ _; refine T_retV _ rfl (Hle.refl _) ⟨((Ar, capr), hs), trivial, rfl, rfl⟩))
end Go.Proofs.YtofikdpbagnjbaaGreatDoor
namespace Go.Proofs.YtofikdpbagnjbaaGreatDoor
open Go.RowKit Go.Shelf Go.Proofs
set_option maxRecDepth 100000
set_option maxHeartbeats 2000000

theorem intN_put (a : List Nat) (s : Nat) : (intN (a ++ [s])).map (Value.int .i64) = (intN a).map (Value.int .i64) ++ flatP [(0, .int .i64 (s : Nat))] := by unfold intN; rw [List.map_append, List.map_append]; rfl
theorem refine21_spec (c : Costs) (A : Option Addr) (n ca : Nat) (l : List TS) (x : Value) (cols : List (List Int)) (z : Int) (w : World) (hg : Grp w A n l) (hq : ∀ t ∈ l, t.n ≤ 100) (hcap : n ≤ ca) (hx : Rd (wr w) [x] [rowsD cols]) :
    Spec Tryz.prog 45 [c.val, .slice A n ca, x, .int .i64 z] w (fun v R => ∃ y : Value, True ∧ v = .tuple #[y, .int .i64 (refV c l cols z).2] ∧ R = [dat [y] [rowsD (refV c l cols z).1]]) := by
  have hx0 := hx
  have hn := hg.hn
  subst hn
  have hb := hg.hb
  obtain ⟨Ac, cc, csc, rfl, hc1, hc2, hcs, hrows⟩ := hx.tabS
  refine spec_of sg Tryz.func45 rfl rfl rfl ?_
  refine T_op (OpT.box (cs := c.cells) rfl rfl rfl rfl rfl rfl rfl (fun pc => ?_))
  repeat' (first | refine d1 ?_ | refine dd ?_ | (show T _ (.ops _ (_ :: _) :: _) _ _ _; first | refine T_call rfl rfl rfl rfl rfl (fun w hw => check21_spec c A l.length ca l w (hg.cls hw)) ?_ | refine T_callC rfl rfl rfl rfl rfl rfl rfl (fun hg w hw => check21_spec c A l.length ca l w (hg.cls hw)) ?_) | (show T _ (.run _ _ (_ :: _) _ _ :: _) _ _ _; first | refine rc rfl rfl rfl rfl rfl rfl rfl (fun w hw => check21_spec c A l.length ca l w (hg.cls hw)) ?_ | refine rcG rfl rfl rfl rfl rfl rfl rfl rfl rfl (fun hg w hw => check21_spec c A l.length ca l w (hg.cls hw)) ?_) | (show ∀ _ : Nat, T _ _ _ _ _; intro _))
  refine T_if rfl (fun h => ?_) (fun h => ?_)
  · have e : refV c l cols z = ([], ck21 c l) := if_pos (by simpa using h)
    rw [e]
    repeat' (first | refine d1 ?_ | refine dd ?_ | (show ∀ _ : Nat, T _ _ _ _ _; intro _) | (show T _ (.code .ret :: _) _ _ _; refine T_retV _ rfl (nilC _ |>.trans (Hle.nth 0 rfl)) ⟨_, trivial, rfl, rfl⟩))
  have hck : ck21 c l = 0 := by simpa using h
  clear h
  repeat' (first | refine d1 ?_ | refine dd ?_ | (show T _ (.ops _ (_ :: _) :: _) _ _ _; first | refine T_call rfl rfl rfl rfl rfl (fun w hw => aligned21_spec A l.length ca l _ cols w (hg.cls hw) (hx0.old hw)) ?_ | refine T_callC rfl rfl rfl rfl rfl rfl rfl (fun hg w hw => aligned21_spec A l.length ca l _ cols w (hg.cls hw) (hx0.old hw)) ?_) | (show T _ (.run _ _ (_ :: _) _ _ :: _) _ _ _; first | refine rc rfl rfl rfl rfl rfl rfl rfl (fun w hw => aligned21_spec A l.length ca l _ cols w (hg.cls hw) (hx0.old hw)) ?_ | refine rcG rfl rfl rfl rfl rfl rfl rfl rfl rfl (fun hg w hw => aligned21_spec A l.length ca l _ cols w (hg.cls hw) (hx0.old hw)) ?_) | (show ∀ _ : Nat, T _ _ _ _ _; intro _))
  refine T_if rfl (fun h => ?_) (fun h => ?_)
  · have e : refV c l cols z = ([], alV l cols) := by unfold refV; rw [if_neg (by simpa using hck), if_pos (by simpa using h)]
    rw [e]
    repeat' (first | refine d1 ?_ | refine dd ?_ | (show ∀ _ : Nat, T _ _ _ _ _; intro _) | (show T _ (.code .ret :: _) _ _ _; refine T_retV _ rfl (nilC _ |>.trans (Hle.nth 0 rfl)) ⟨_, trivial, rfl, rfl⟩))
  have hal : alV l cols = 0 := by simpa using h
  clear h
  repeat' (first | refine d1 ?_ | refine dd ?_ | (show ∀ _ : Nat, T _ _ _ _ _; intro _))
  refine T_if rfl (fun h => ?_) (fun h => ?_)
  · have e : refV c l cols z = ([], 2) := by unfold refV; rw [if_neg (by simpa using hck), if_neg (by simpa using hal), if_pos (by simpa using h)]
    rw [e]
    repeat' (first | refine d1 ?_ | refine dd ?_ | (show ∀ _ : Nat, T _ _ _ _ _; intro _) | (show T _ (.code .ret :: _) _ _ _; refine T_retV _ rfl (nilC _ |>.trans (Hle.nth 0 rfl)) ⟨_, trivial, rfl, rfl⟩))
  have hz : 0 ≤ z ∧ z ≤ 8 := by
    simp only [Bool.or_eq_false_iff, decide_eq_false_iff_not] at h
    omega
  clear h
  have e : refV c l cols z = (refN c l cols z.toNat, 0) := by unfold refV; rw [if_neg (by simpa using hck), if_neg (by simpa using hal), if_neg (by omega)]
  rw [e]
  obtain ⟨hc, hbs⟩ := ck21_ok hck
  have hok := alV_ok2 hal
  have hln := hg.ok.len
  have hsl := sumL_lens100 hq
  have hshort : ∀ {o : List (List Int)}, ColsOk (lens l) o → o.length ≤ 3200 := fun h => by have := h.short; omega
  have hl0 := hshort hok
  repeat' (first | refine d1 ?_ | refine dd ?_ | (show T _ (.ops _ (_ :: _) :: _) _ _ _; refine T_callE rfl rfl rfl rfl rfl (fun w hw => cloneR_spec Ac cols.length cc csc (oneRows hrows) w (rdSrc hcs w hw) (by omega)) (fun xr _ => ?_)) | (show ∀ _ : Nat, T _ _ _ _ _; intro _))
  obtain ⟨A1, c1⟩ := xr
  dsimp only
  refine T_le (H' := [row 27 1 A1 c1 cols.length csc, fz (fun _ => none), blk pc c.cells 23]) ((fz_unit _).trans (Hle.perm (List.Perm.swap _ _ _))) ?_
  refine T_loopX (fun s : Nat × (Option Addr × Nat) × List Value × Frag => [(41, .int .i64 (s.1 : Nat)), (2, .slice s.2.1.1 (refN c l cols s.1).length s.2.1.2)]) (fun s => [row 27 1 s.2.1.1 s.2.1.2 (refN c l cols s.1).length s.2.2.1, fz s.2.2.2, blk pc c.cells 23]) (fun s => s.1 ≤ z.toNat ∧ ColsAt w s.2.2.2 s.2.2.1 (refN c l cols s.1)) (fun s => z.toNat - s.1) (0, (A1, c1), csc, fun _ => none) ⟨Nat.zero_le _, ColsAt.old hrows⟩ ?_
  rintro ⟨r, ⟨A2, c2⟩, hs2, p2⟩ ⟨hr, hI2⟩
  dsimp only at hr hI2 ⊢
  repeat' (first | refine d1 ?_ | refine dd ?_ | (show ∀ _ : Nat, T _ _ _ _ _; intro _))
  refine T_if rfl (fun h1 => ?_) (fun h1 => ?_)
  · simp only [decide_eq_true_eq] at h1
    have hokr := (refN_ok c hln hok r).1
    repeat' (first | refine d1 ?_ | refine dd ?_ | (show ∀ _ : Nat, T _ _ _ _ _; intro _))
    refine T_loopX (fun s : Nat × (Option Addr × Nat) × List Value × Frag => [(45, .int .i64 (s.1 : Nat)), (2, .slice s.2.1.1 (refJ c l (refN c l cols r) s.1).length s.2.1.2)]) (fun s => [row 27 1 s.2.1.1 s.2.1.2 (refJ c l (refN c l cols r) s.1).length s.2.2.1, fz s.2.2.2, blk pc c.cells 23]) (fun s => s.1 ≤ l.length ∧ ColsAt w s.2.2.2 s.2.2.1 (refJ c l (refN c l cols r) s.1)) (fun s => l.length - s.1) (0, (A2, c2), hs2, p2) ⟨Nat.zero_le _, hI2⟩ ?_
    rintro ⟨i, ⟨A3, c3⟩, hs3, p3⟩ ⟨hi, hI3⟩
    dsimp only at hi hI3 ⊢
    repeat' (first | refine d1 ?_ | refine dd ?_ | (show ∀ _ : Nat, T _ _ _ _ _; intro _))
    refine T_if rfl (fun h2 => ?_) (fun h2 => ?_)
    · simp only [decide_eq_true_eq] at h2
      have hin : i < l.length := by omega
      have hoki := (refJ_ok c hln hokr i hi).1
      have hrj : refJ c l (refN c l cols r) (i + 1) = refS c l (refJ c l (refN c l cols r) i) i := rfl
      generalize hcu : refJ c l (refN c l cols r) i = cu at hoki hrj hI3 ⊢
      obtain ⟨b, o, rfl⟩ := hg.hs.base (by omega)
      obtain ⟨t, ht, htm, hrt⟩ := hg.get hin
      have hts : tsA l i = t := tsA_eq ht
      have htl := hln t htm
      have htq := hq t htm
      have hcul := hshort hoki
      have hcul2 := wthC_len cu i
      have hrow : ∀ q ∈ cu, q.length = l.length := fun q hq9 => by rw [hoki.len q hq9, lens_len]
      obtain ⟨hmo, hmo2⟩ := moreV_ok c hln hoki hin
      have hdl : (dropI l i).length = l.length - 1 := dropI_len hin
      have hdm : ∀ s ∈ dropI l i, s ∈ l := fun s hs => by
        unfold dropI at hs
        rcases List.mem_append.1 hs with hs | hs
        · exact List.mem_of_mem_take hs
        · exact List.mem_of_mem_drop hs
      have hwok : ColsOk (lens (dropI l i)) (wthC cu i) := by
        have h9 := wthC_ok hoki (i := i) (by rw [lens_len]; exact hin)
        unfold lens at h9 ⊢
        rwa [dropI_map]
      have hlv : (l.map TS.val).length = l.length := List.length_map _
      have hokP : ∀ {w' : World} {H : List HA}, Cls w w' H → ∀ p ∈ ([⟨some ⟨b, o, none⟩, i, ca, (l.take i).map TS.val⟩, ⟨cutA (some ⟨b, o, none⟩) ca (i + 1) 1, l.length - (i + 1), ca - (i + 1), (l.drop (i + 1)).map TS.val⟩] : List PS), Src w' 1 p.A p.n p.vs ∧ oneCells p.vs = true := fun {w' H} hw => by
        have hsr9 := src_below hg.hs hw.below
        refine List.forall_mem_cons.2 ⟨⟨?_, oneMap TS.val (fun _ => rfl) _⟩, List.forall_mem_cons.2 ⟨⟨?_, oneMap TS.val (fun _ => rfl) _⟩, fun p h => by cases h⟩⟩
        · have h9 := src_take1 hsr9 i (by omega)
          rw [← List.map_take] at h9
          exact h9
        · have h9 := src_drop1 (ca := ca) hsr9 (i + 1) (by omega) hcap
          rw [← List.map_drop] at h9
          exact h9
      have hsum : sumP ([⟨some ⟨b, o, none⟩, i, ca, (l.take i).map TS.val⟩, ⟨cutA (some ⟨b, o, none⟩) ca (i + 1) 1, l.length - (i + 1), ca - (i + 1), (l.drop (i + 1)).map TS.val⟩] : List PS) = (dropI l i).length := by
        rw [hdl]
        show i + (l.length - (i + 1) + 0) = _
        omega
      have hcat : catP ([⟨some ⟨b, o, none⟩, i, ca, (l.take i).map TS.val⟩, ⟨cutA (some ⟨b, o, none⟩) ca (i + 1) 1, l.length - (i + 1), ca - (i + 1), (l.drop (i + 1)).map TS.val⟩] : List PS) = (dropI l i).map TS.val := by
        unfold dropI
        rw [List.map_append]
        show (l.take i).map TS.val ++ ((l.drop (i + 1)).map TS.val ++ []) = _
        rw [List.append_nil]
      repeat' (first | refine d1 ?_ | (show ∀ _ : Nat, T _ _ _ _ _; intro _))
      refine rsH [row 27 1 A3 c3 cu.length hs3, fz p3, blk pc c.cells 23] 1000 [0, 1, 2, 3, 4, 5, 6, 7, 8, 9] ?_
      repeat' (first | refine d1 ?_ | refine dd ?_ | (show T _ (.run _ _ (_ :: _) _ _ :: _) _ _ _; refine ro rfl rfl (OpT.litW rfl rfl rfl rfl rfl rfl rfl rfl rfl rfl rfl (fun b3 => ⟨fun _ => Hle.sub, ?_⟩))) | (show ∀ _ : Nat, T _ _ _ _ _; intro _))
      rw [show ((i : Int) + 1).toNat = i + 1 by omega]
      simp only [Int.toNat_natCast]
      refine ro rfl rfl (OpT.callE1 rfl rfl rfl rfl rfl (fun w hw => concatS_spec (some ⟨b3, 0, none⟩) 2 2 [⟨some ⟨b, o, none⟩, i, ca, (l.take i).map TS.val⟩, ⟨cutA (some ⟨b, o, none⟩) ca (i + 1) 1, l.length - (i + 1), ca - (i + 1), (l.drop (i + 1)).map TS.val⟩] w (Src.own hw rfl) rfl (by omega) (hokP hw) (by rw [hsum, hdl]; omega)) (fun x9 _ => ⟨fun _ => (Hle.tail _ _).trans (Hle.tail _ _), ?_⟩))
      rw [hsum, hcat]
      obtain ⟨A9, c9⟩ := x9
      dsimp only
      refine T_le (Hle.drop2 _ _ _) ?_
      refine dd ?_
      refine dd ?_
      have hst9 : ∀ {w' : World} {H : List HA}, Cls w w' H → Std w' := fun hw => hg.hst.cls hw
      have hbs9 : badS (dropI l i) = false := by
        unfold badS at hbs ⊢
        rw [List.any_eq_false] at hbs ⊢
        exact fun x hx => hbs x (hdm x hx)
      have hgd : ∀ {w' : World} {H : List HA}, Cls w w' H → Src w' 1 A9 (dropI l i).length ((dropI l i).map TS.val) → Grp w' A9 (dropI l i).length (dropI l i) := fun {w' H} hw h9 => by
        have hg9 := hg.cls hw
        exact ⟨hg9.hst, h9, rfl, by omega, ⟨fun x hx => hg9.ok.src x (hdm x hx), fun x hx => hg9.ok.len x (hdm x hx), fun x hx => hg9.ok.bd x (hdm x hx)⟩, fun x hx => hg9.nb x (hdm x hx), fun x hx => hg9.sm x (hdm x hx)⟩
      have hprod : (((wthC cu i).length : Int) + 1) * ((t.n : Int) + 1) ≤ 1048576 := by
        have h9 := Nat.mul_le_mul (show (wthC cu i).length + 1 ≤ 3201 by omega) (show t.n + 1 ≤ 101 by omega)
        have h8 : (((wthC cu i).length : Int) + 1) * ((t.n : Int) + 1) = ((((wthC cu i).length + 1) * (t.n + 1) : Nat) : Int) := by push_cast; rfl
        rw [h8]; omega
      have hwl : (wthC cu i).length ≤ 3200 := by omega
      have hM : (addV c (dropI l i) (wthC cu i) t.l 0 0).map (arrR (ordI l.length i)) = moreV c l cu i := by unfold moreV; rw [hts]
      have hML : (addV c (dropI l i) (wthC cu i) t.l 0 0).length = (moreV c l cu i).length := by rw [← hM, List.length_map]
      have hmol := hshort hmo
      refine rsH [row 40 1 A9 c9 (dropI l i).length ((dropI l i).map TS.val), row 27 1 A3 c3 cu.length hs3, fz p3, blk pc c.cells 23] 1000 [0, 1, 2, 3, 5, 6, 7, 8, 4, 9, 10, 11, 12, 13, 14] ?_
      repeat' (first | refine d1 ?_ | refine dd ?_ | (show T _ (.ops _ (_ :: _) :: _) _ _ _; first | refine T_val rfl (Val.load rfl (fun hg => rdOld hrt)) rfl rfl rfl ?_ | refine T_valC rfl (Val.load rfl (fun hg => rdOld hrt)) rfl rfl rfl rfl rfl ?_) | (show T _ (.run _ _ (_ :: _) _ _ :: _) _ _ _; first | refine rv rfl rfl rfl (Val.load rfl (fun hg => rdOld hrt)) rfl rfl rfl ?_ | refine rg rfl rfl rfl (Val.load rfl (fun hg => rdOld hrt)) rfl rfl rfl rfl rfl ?_ | refine ro rfl rfl (OpT.callE1 rfl rfl rfl rfl rfl (fun w hw => without_spec (.slice A3 cu.length c3) cu i w (rowRd hw (hI3.rd hw)) (fun q hq9 => by rw [hrow q hq9]; exact hin) (fun q hq9 => by rw [hrow q hq9]; omega) (by omega)) (fun y1 _ => ⟨fun _ => Hle.tail _ _, ?_⟩))) | (show ∀ _ : Nat, T _ _ _ _ _; intro _))
      refine T_open fun q1 hq1 => ?_
      refine ro rfl rfl (OpT.callE1 rfl rfl rfl rfl rfl (fun w hw => add21_spec (h := ⟨hgd hw (srcRw w hw), hc, hbs9, hq1.own hw, fun col hcol => ColsOk.colOk (l := dropI l i) hwok hcol, src_below (hg.ok.src t htm) hw.below, htl, by omega, badS_ok hbs t htm, hg.sm t htm, by omega⟩) c9 t.cap hprod) (fun y9 _ => ⟨fun _ => (Hle.tail _ _).trans (Hle.tail _ _), ?_⟩))
      repeat' (first | refine d1 ?_ | refine dd ?_ | (show ∀ _ : Nat, T _ _ _ _ _; intro _))
      refine T_if rfl (fun h => by exfalso; simp at h) (fun _ => ?_)
      repeat' (first | refine d1 ?_ | refine dd ?_ | (show ∀ _ : Nat, T _ _ _ _ _; intro _))
      refine T_le (H' := [dat [y9] [rowsD (addV c (dropI l i) (wthC cu i) t.l 0 0)], row 27 1 A3 c3 cu.length hs3, fz p3, blk pc c.cells 23]) Hle.srt ?_
      refine T_open fun q2 hq2 => ?_
      refine T_nilrow 3 1 ?_
      refine T_loopX (fun s : Nat × (Option Addr × Nat) => [(75, .int .i64 (s.1 : Nat)), (16, .slice s.2.1 (othS s.1 i).length s.2.2)]) (fun s => [row 3 1 s.2.1 s.2.2 (othS s.1 i).length ((intN (othS s.1 i)).map (Value.int .i64)), fz q2, row 27 1 A3 c3 cu.length hs3, fz p3, blk pc c.cells 23]) (fun s => s.1 ≤ l.length) (fun s => l.length - s.1) (0, (none, 0)) (Nat.zero_le _) ?_
      rintro ⟨k, ⟨A6, c6⟩⟩ hk
      dsimp only at hk ⊢
      have hok6 : (othS k i).length ≤ k := by
        unfold othS
        have h9 := List.length_filter_le (fun q => decide (q ≠ i)) (List.range k)
        rwa [List.length_range] at h9
      repeat' (first | refine d1 ?_ | refine dd ?_ | (show ∀ _ : Nat, T _ _ _ _ _; intro _))
      refine T_if rfl (fun h3 => ?_) (fun h3 => ?_)
      · simp only [decide_eq_true_eq] at h3
        have hsu := othS_succ k i
        repeat' (first | refine d1 ?_ | refine dd ?_ | (show ∀ _ : Nat, T _ _ _ _ _; intro _))
        refine T_if rfl (fun h4 => ?_) (fun h4 => ?_)
        · have h5 : k ≠ i := fun h9 => by rw [h9] at h4; simp at h4
          rw [if_pos h5] at hsu
          repeat' (first | refine d1 ?_ | refine dd ?_ | (show T _ (.ops _ (_ :: _) :: _) _ _ _; refine T_op (OpT.append (A := A6) rfl rfl rfl rfl rfl rfl rfl rfl rfl rfl (fun w hw => Src.own hw rfl) rfl (by dsimp only; omega) (by omega) (fun A' cap' hA' => ?_))) | (show ∀ _ : Nat, T _ _ _ _ _; intro _))
          refine T_backX (k + 1, (A', cap')) (by dsimp only; omega) (by dsimp only; omega) (hE := ⟨rfl, by dsimp only; rw [hsu, List.length_append]; rfl, trivial⟩) (hG := ?_)
          dsimp only
          rw [hsu, List.length_append, intN_put, show [k].length = 1 from rfl]
          exact Hle.srt
        · have h5 : k = i := by
            simp only [Bool.not_eq_false', decide_eq_true_eq] at h4
            omega
          rw [if_neg (fun h9 => h9 h5), List.append_nil] at hsu
          repeat' (first | refine d1 ?_ | refine dd ?_ | (show ∀ _ : Nat, T _ _ _ _ _; intro _))
          exact T_backX (k + 1, (A6, c6)) (by dsimp only; omega) (by dsimp only; omega) (hE := ⟨rfl, by dsimp only; rw [hsu]; rfl, trivial⟩) (hG := by dsimp only; rw [hsu]; exact Hle.refl _)
      simp only [decide_eq_false_iff_not] at h3
      obtain rfl : k = l.length := by omega
      have hon : (othS l.length i).length + 1 = l.length := by rw [othS_len hin]; omega
      have hov : (intN (othS l.length i)).map (Value.int .i64) ++ flatP [(0, .int .i64 (i : Nat))] = (ordI l.length i).map fun k => Value.int .i64 (k : Nat) := by
        unfold ordI
        rw [List.map_append, intN_val]
        rfl
      repeat' (first | refine d1 ?_ | refine dd ?_ | (show T _ (.ops _ (_ :: _) :: _) _ _ _; refine T_op (OpT.append (A := A6) rfl rfl rfl rfl rfl rfl rfl rfl rfl rfl (fun w hw => Src.own hw rfl) rfl (by dsimp only; omega) (by omega) (fun A' cap' hA' => ?_))) | (show ∀ _ : Nat, T _ _ _ _ _; intro _))
      rw [hov, hon]
      refine T_op (OpT.callE rfl rfl rfl rfl rfl (fun w hw => arrangedR_spec y9 (addV c (dropI l i) (wthC cu i) t.l 0 0) _ l.length _ (ordI l.length i) w (hq2.own hw) (srcRw w hw) (ordI_len hin) (fun q hq9 => hmo2 q (by rw [hts]; exact hq9)) (ordI_lt hin) (by omega) (by omega)) (fun y5 _ => ?_))
      obtain ⟨⟨A5, c5⟩, hs5⟩ := y5
      rw [hM, hML, show ∀ (a b : HA) (l : List HA), [a, b] ++ l = a :: b :: l from fun _ _ _ => rfl]
      refine T_le (H' := [dat hs5 ((moreV c l cu i).map intsD), row 27 1 A5 c5 (moreV c l cu i).length hs5, row 27 1 A3 c3 cu.length hs3, fz p3, blk pc c.cells 23]) Hle.srt ?_
      refine T_open fun q5 hq5 => ?_
      repeat' (first | refine d1 ?_ | refine dd ?_ | (show T _ (.ops _ (_ :: _) :: _) _ _ _; first | refine T_call rfl rfl rfl rfl rfl (fun w hw => total21_spec c (some ⟨b, o, none⟩) l.length ca l (.slice A5 (moreV c l cu i).length c5) (moreV c l cu i) w (hg.cls hw) hc hbs (rowRd hw (hq5.own hw)) (fun q hq9 => ColsOk.colOk (l := l) hmo hq9) (by omega)) ?_ | refine T_callC rfl rfl rfl rfl rfl rfl rfl (fun hg w hw => total21_spec c (some ⟨b, o, none⟩) l.length ca l (.slice A5 (moreV c l cu i).length c5) (moreV c l cu i) w (hg.cls hw) hc hbs (rowRd hw (hq5.own hw)) (fun q hq9 => ColsOk.colOk (l := l) hmo hq9) (by omega)) ?_ | refine T_call rfl rfl rfl rfl rfl (fun w hw => total21_spec c (some ⟨b, o, none⟩) l.length ca l (.slice A3 cu.length c3) cu w (hg.cls hw) hc hbs (rowRd hw (hI3.rd hw)) (fun q hq9 => ColsOk.colOk (l := l) hoki hq9) (by omega)) ?_ | refine T_callC rfl rfl rfl rfl rfl rfl rfl (fun hg w hw => total21_spec c (some ⟨b, o, none⟩) l.length ca l (.slice A3 cu.length c3) cu w (hg.cls hw) hc hbs (rowRd hw (hI3.rd hw)) (fun q hq9 => ColsOk.colOk (l := l) hoki hq9) (by omega)) ?_) | (show T _ (.run _ _ (_ :: _) _ _ :: _) _ _ _; first | refine rc rfl rfl rfl rfl rfl rfl rfl (fun w hw => total21_spec c (some ⟨b, o, none⟩) l.length ca l (.slice A5 (moreV c l cu i).length c5) (moreV c l cu i) w (hg.cls hw) hc hbs (rowRd hw (hq5.own hw)) (fun q hq9 => ColsOk.colOk (l := l) hmo hq9) (by omega)) ?_ | refine rcG rfl rfl rfl rfl rfl rfl rfl rfl rfl (fun hg w hw => total21_spec c (some ⟨b, o, none⟩) l.length ca l (.slice A5 (moreV c l cu i).length c5) (moreV c l cu i) w (hg.cls hw) hc hbs (rowRd hw (hq5.own hw)) (fun q hq9 => ColsOk.colOk (l := l) hmo hq9) (by omega)) ?_ | refine rc rfl rfl rfl rfl rfl rfl rfl (fun w hw => total21_spec c (some ⟨b, o, none⟩) l.length ca l (.slice A3 cu.length c3) cu w (hg.cls hw) hc hbs (rowRd hw (hI3.rd hw)) (fun q hq9 => ColsOk.colOk (l := l) hoki hq9) (by omega)) ?_ | refine rcG rfl rfl rfl rfl rfl rfl rfl rfl rfl (fun hg w hw => total21_spec c (some ⟨b, o, none⟩) l.length ca l (.slice A3 cu.length c3) cu w (hg.cls hw) hc hbs (rowRd hw (hI3.rd hw)) (fun q hq9 => ColsOk.colOk (l := l) hoki hq9) (by omega)) ?_) | (show ∀ _ : Nat, T _ _ _ _ _; intro _))
      refine T_if rfl (fun h6 => ?_) (fun h6 => ?_)
      · have h7 : refS c l cu i = moreV c l cu i := by unfold refS; rw [if_pos (by simpa using h6)]
        repeat' (first | refine d1 ?_ | refine dd ?_ | (show ∀ _ : Nat, T _ _ _ _ _; intro _))
        exact T_backX (i + 1, (A5, c5), hs5, q5) ⟨by dsimp only; omega, by dsimp only; rw [hrj, h7]; exact ColsAt.own hq5⟩ (by dsimp only; omega) (hE := ⟨rfl, by dsimp only; rw [hrj, h7]; rfl, trivial⟩) (hG := by dsimp only; rw [hrj, h7]; exact Hle.srt)
      · have h7 : refS c l cu i = cu := by unfold refS; rw [if_neg (by simpa using h6)]
        repeat' (first | refine d1 ?_ | refine dd ?_ | (show ∀ _ : Nat, T _ _ _ _ _; intro _))
        exact T_backX (i + 1, (A3, c3), hs3, p3) ⟨by dsimp only; omega, by dsimp only; rw [hrj, h7]; exact hI3⟩ (by dsimp only; omega) (hE := ⟨rfl, by dsimp only; rw [hrj, h7]; rfl, trivial⟩) (hG := by dsimp only; rw [hrj, h7]; exact Hle.srt)
    · simp only [decide_eq_false_iff_not] at h2
      obtain rfl : i = l.length := by omega
      repeat' (first | refine d1 ?_ | refine dd ?_ | (show ∀ _ : Nat, T _ _ _ _ _; intro _))
      exact T_backX (r + 1, (A3, c3), hs3, p3) ⟨by dsimp only; omega, hI3⟩ (by dsimp only; omega)
  · simp only [decide_eq_false_iff_not] at h1
    obtain rfl : r = z.toNat := by omega
    have hokF := (refN_ok c hln hok z.toNat).1
    generalize refN c l cols z.toNat = F at hI2 hokF ⊢
    have hFl := hshort hokF
    have hFr : ∀ q ∈ F, q.length = l.length := fun q hq9 => by rw [hokF.len q hq9, lens_len]
    repeat' (first | refine d1 ?_ | refine dd ?_ | (show ∀ _ : Nat, T _ _ _ _ _; intro _))
    refine T_le (dat_nil _) ?_
    refine T_loopX (fun s : Nat × List Value => [(106, .int .i64 (s.1 : Nat))]) (fun s => [dat s.2 ((F.take s.1).map intsD), row 27 1 A2 c2 F.length (s.2 ++ hs2.drop s.1), fz p2, blk pc c.cells 23]) (fun s => s.1 ≤ F.length ∧ s.2.length = s.1) (fun s => F.length - s.1) (0, []) ⟨Nat.zero_le _, rfl⟩ ?_
    rintro ⟨i, ns⟩ ⟨hi, hns⟩
    dsimp only at hi hns ⊢
    repeat' (first | refine d1 ?_ | refine dd ?_ | (show ∀ _ : Nat, T _ _ _ _ _; intro _))
    refine T_if rfl (fun h3 => ?_) (fun h3 => ?_)
    · simp only [decide_eq_true_eq] at h3
      have hin : i < F.length := by omega
      refine T_rowpos (A := A2) (by omega) (fun g e => ?_)
      subst e
      obtain ⟨f, hf⟩ : ∃ f, F[i]? = some f := ⟨_, List.getElem?_eq_getElem hin⟩
      obtain ⟨Af, cf, hhd⟩ := hI2.sh hf
      have hfl := hFr f (List.mem_of_getElem? hf)
      have htk := take_snoc _ _ _ hf
      have hdr : hs2.drop i = .slice Af f.length cf :: hs2.drop (i + 1) := by
        obtain ⟨h1, e⟩ := List.getElem?_eq_some_iff.1 hhd
        rw [List.drop_eq_getElem_cons h1, e]
      have hg1 : ∀ j u, [Value.slice Af f.length cf][j]? = some u → (ns ++ hs2.drop i)[i + j]? = some u := fun j u hu => by
        cases j with
        | zero => rw [Nat.add_zero, List.getElem?_append_right (by omega), hns, Nat.sub_self, hdr]; exact hu
        | succ j => simp at hu
      have hsf : ∀ {w' : World} {H : List HA} [FocusZ H p2], Cls w w' H → Src w' 1 Af f.length (f.map (Value.int .i64)) := fun {w' H} _ hw => (rd_one (hI2.rd hw) hhd (by rw [List.getElem?_map, hf]; rfl)).intsAt
      repeat' (first | refine d1 ?_ | refine dd ?_ | (show T _ (.ops _ (_ :: _) :: _) _ _ _; first | refine T_val rfl (Val.load rfl (fun hg => rdRow (A := some ⟨g, 0, none⟩) (by omega) (fun j u hu => by rw [show 0 + (i : Int).toNat * 1 = i by omega]; exact hg1 j u hu))) rfl rfl rfl ?_ | refine T_valC rfl (Val.load rfl (fun hg => rdRow (A := some ⟨g, 0, none⟩) (by omega) (fun j u hu => by rw [show 0 + (i : Int).toNat * 1 = i by omega]; exact hg1 j u hu))) rfl rfl rfl rfl rfl ?_ | refine T_callE rfl rfl rfl rfl rfl (fun w hw => cloneI_spec Af f.length cf f w (hsf hw) (by omega)) (fun x9 _ => ?_)) | (show T _ (.run _ _ (_ :: _) _ _ :: _) _ _ _; first | refine rv rfl rfl rfl (Val.load rfl (fun hg => rdRow (A := some ⟨g, 0, none⟩) (by omega) (fun j u hu => by rw [show 0 + (i : Int).toNat * 1 = i by omega]; exact hg1 j u hu))) rfl rfl rfl ?_ | refine rg rfl rfl rfl (Val.load rfl (fun hg => rdRow (A := some ⟨g, 0, none⟩) (by omega) (fun j u hu => by rw [show 0 + (i : Int).toNat * 1 = i by omega]; exact hg1 j u hu))) rfl rfl rfl rfl rfl ?_) | (show ∀ _ : Nat, T _ _ _ _ _; intro _))
      obtain ⟨A9, c9⟩ := x9
      dsimp only
      refine T_op (OpT.storeR (us := [.slice A9 f.length c9]) rfl rfl rfl rfl rfl rfl (by show 0 + (i : Int).toNat * 1 + 1 ≤ F.length * 1; omega) ?_)
      have e9 : setL (ns ++ hs2.drop i) (0 + (i : Int).toNat * 1) [.slice A9 f.length c9] = (ns ++ [.slice A9 f.length c9]) ++ hs2.drop (i + 1) := by
        rw [hdr, show 0 + (i : Int).toNat * 1 = ns.length by omega]
        show (ns ++ _ :: _).set ns.length _ = _
        rw [set_at]
        simp
      have hrw : intsD f = .s 1 ((f.map (Value.int .i64)).map .v) := by rw [List.map_map]; rfl
      rw [e9]
      repeat' (first | refine d1 ?_ | refine dd ?_ | (show ∀ _ : Nat, T _ _ _ _ _; intro _))
      refine T_backX (i + 1, ns ++ [.slice A9 f.length c9]) ⟨by dsimp only; omega, by dsimp only; rw [List.length_append, hns]; rfl⟩ (by dsimp only; omega) (hG := ?_)
      dsimp only
      rw [htk, List.map_append, show [f].map intsD = [intsD f] from rfl, hrw]
      exact dat_rowV.trans dat_join
    · simp only [decide_eq_false_iff_not] at h3
      obtain rfl : i = F.length := by omega
      rw [List.take_of_length_le (Nat.le_refl _), List.drop_of_length_le (by rw [hI2.len]; omega), List.append_nil]
      repeat' (first | refine d1 ?_ | refine dd ?_ | (show ∀ _ : Nat, T _ _ _ _ _; intro _) | (show T _ (.code .ret :: _) _ _ _; refine T_retV _ rfl (((Hle.perm (List.Perm.swap _ _ _)).trans dat_row).trans (Hle.nth 0 rfl)) ⟨_, trivial, rfl, rfl⟩))
end Go.Proofs.YtofikdpbagnjbaaGreatDoor
namespace Go.Proofs.YtofikdpbagnjbaaGreatDoor
open Go.RowKit Go.Shelf

def sureG (all : Array Oper) (env : Env) : GId → Bool
  | [] => true
  | (i, p) :: G => (match dstL all i with
    | some s => (match lookE env s with
      | some (.bool q) => (match q, p with
        | true, true => true
        | false, false => true
        | _, _ => false)
      | _ => false)
    | none => false) && sureG all env G
theorem sureG_holds {N : FK} {all : Array Oper} {env : Env} {ec : EnvC} {a : Act} (ha : Agrees N all env ec a) : ∀ {G : GId}, sureG all env G = true → Holds all a G
  | [], _ => Holds.nil _ _
  | (i, p) :: G, h => by
    unfold sureG at h
    rw [Bool.and_eq_true] at h
    obtain ⟨h1, h2⟩ := h
    intro x hx
    rcases List.mem_cons.1 hx with rfl | hx
    · split at h1
      · rename_i s hs
        split at h1
        · rename_i q hv
          have hqp : q = p := by cases q <;> cases p <;> first | rfl | cases h1
          subst hqp
          have ht := ha.at_ s _ hv
          show yielded all a.tmps i = some q
          unfold yielded
          rw [← dstL_eq, hs]
          simp only [Option.bind_some]
          rw [Array.getD_eq_getD_getElem?] at ht
          cases hq : a.tmps[s]? with
          | none => rw [hq] at ht; simp [undef] at ht
          | some u => rw [hq] at ht; simp only [Option.getD_some] at ht; subst ht; rfl
        · cases h1
      · cases h1
    · exact sureG_holds ha h2 x hx
theorem T_known {C : Cx} {k : List It} {env : Env} {ec : EnvC} {H : List HA} (d : Nat) {G : GId} {v : Value} (hl : lookE ec d = some (G, v)) (hg : sureG (allOf k) env G = true) (h : T C k ((d, v) :: env) ec H) : T C k env ec H :=
  T.mk fun a w ha hw => h.go a w ⟨ha.defers, ha.size, fun s u hs => by
    rcases lookE_cons hs with ⟨rfl, rfl⟩ | ⟨_, hs⟩
    · exact ha.yes _ _ _ hl (sureG_holds ha hg)
    · exact ha.at_ s u hs, ha.yes, ha.no⟩ hw
end Go.Proofs.YtofikdpbagnjbaaGreatDoor
namespace Go.Proofs.YtofikdpbagnjbaaGreatDoor
open Go.RowKit Go.Shelf Go.ChangeShapes Go.WideShapes Go.Proofs
set_option maxRecDepth 100000

variable {H : Type} {enc : TypeId × Value → H} {W : World} {base b0 : Nat} {sp : Nat → Bool} {held : Bool} {r : Reach} {v : Value} {d : DataW H} {ps : List MemPlace}
theorem arg_u8sC (hv : Value.okWide Tryz.prog W r b0 51 v) (h : DataW.Trod enc Tryz.prog W base sp held 51 v d ps) : ∃ A cap, ∃ l : List Int, v = .slice A l.length cap ∧ l.length ≤ 9223372036854775807 ∧ Src W 1 A l.length (l.map (Value.int .u8)) ∧ (∀ z ∈ l, 0 ≤ z ∧ z ≤ 255) ∧ l.length ≤ cap := by
  obtain ⟨fuel, hf⟩ := h
  obtain ⟨ds, h1, h2⟩ := trod_wt (S := sg) 9 rfl hf
  obtain ⟨l, n, rfl, hl, _, hi⟩ := (show ∃ l n, ds = [.s 1 l] ∧ l.length = n * 1 ∧ n ≤ maxLen ∧ ∀ i, i < n → wt sg 8 5 ((l.drop (i * 1)).take 1) from h2)
  obtain ⟨ts, e1, e2⟩ := chunks (fun x : {z : Int // 0 ≤ z ∧ z ≤ 255} => [Value.int .u8 x.1]) 1 n l hl fun i hin => by
    obtain ⟨z, hz, hn⟩ := (show ∃ z, _ = [D.v (.int .u8 z)] ∧ (Lit.int .u8 z).wf = true from hi i hin)
    simp only [Lit.wf, Bool.and_eq_true, decide_eq_true_eq] at hn
    exact ⟨⟨z, by have := hn.1; simpa [IntKind.min, IntKind.signed] using this, by have := hn.2; simpa [IntKind.max, IntKind.signed, IntKind.bits] using this⟩, hz⟩
  subst e2
  have hc : v.cells.toList = [v] := by
    cases v <;> first | rfl | (exfalso; unfold Value.okWide at hv; simp [Tryz.underlying51] at hv; unfold Cell.okWide at hv; simp [Tryz.underlying51] at hv; unfold Cell.ok at hv; simp [Tryz.underlying51] at hv)
  rw [hc] at h1
  obtain ⟨A, m, cap, rfl, h3, h4, h5, h6⟩ := h1.srcV
  have em : m = (ts.map Subtype.val).length := by rw [List.length_map] at hl ⊢; omega
  subst em
  refine ⟨A, cap, ts.map Subtype.val, rfl, by omega, ?_, fun z hz => ?_, h4⟩
  · rw [flat1] at h6
    rw [List.map_map]
    exact h6
  · obtain ⟨y, _, rfl⟩ := List.mem_map.1 hz
    exact y.2
end Go.Proofs.YtofikdpbagnjbaaGreatDoor
namespace Go.Proofs.YtofikdpbagnjbaaGreatDoor
open Go.RowKit Go.Shelf Go.Proofs

structure OthP (c : Costs) (l : List TS) (cols : List (List Int)) (t : TS) (i k : Nat) (oth : List (List Int)) : Prop where
  len : ∀ x ∈ oth, x.length = l.length + 1
  some_ : ∀ x ∈ oth, ∃ z ∈ x, z ≠ -1
  src : ∀ s, s < l.length → srcC oth s = srcC (cols.take i) s
  last : srcC oth l.length = upto k
  cost : totZ c l cols + rst (grdA c l cols t.l) 0 0 ≤ totZ c (l ++ [t]) oth + totZ c l (cols.drop i) + rst (grdA c l cols t.l) i k
theorem OthP.start (c : Costs) (l : List TS) (cols : List (List Int)) (t : TS) : OthP c l cols t 0 0 [] :=
  ⟨fun x h => (by cases h), fun x h => (by cases h), fun s _ => rfl, rfl, by rw [List.drop_zero]; show _ ≤ (0 : Int) + _ + _; omega⟩
theorem OthP.step {c : Costs} {l : List TS} {cols : List (List Int)} {t : TS} {i k : Nat} {oth : List (List Int)} (h : OthP c l cols t i k oth) (hcl : ∀ x ∈ cols, x.length = l.length) (hcs : ∀ x ∈ cols, ∃ z ∈ x, z ≠ -1) {y : Mv} (hy : y ∈ mvs (grdA c l cols t.l) i k) :
    OthP c l cols t (i + y.fst) (k + y.snd) (oth ++ [colM l.length cols i k y]) := by
  have hvia := rst_via hy
  unfold via at hvia
  have e1 : (grdA c l cols t.l).n = cols.length := rfl
  have e2 : (grdA c l cols t.l).m = t.l.length := rfl
  have hnl : (noneC l.length).length = l.length := by unfold noneC; rw [List.length_replicate]
  have hnone : ∀ s, (noneC l.length).getD s (-1) = -1 := fun s => by
    unfold noneC; rw [List.getD_eq_getElem?_getD, List.getElem?_replicate]; split <;> rfl
  have hrow : i < cols.length → (cols.getD i []).length = l.length ∧ (∃ z ∈ cols.getD i [], z ≠ -1) ∧ cols.take (i + 1) = cols.take i ++ [cols.getD i []] ∧ cols.drop i = cols.getD i [] :: cols.drop (i + 1) := fun hi => by
    have e : cols.getD i [] = cols[i] := by rw [List.getD_eq_getElem?_getD, List.getElem?_eq_getElem hi]; rfl
    rw [e]
    exact ⟨hcl _ (List.getElem_mem hi), hcs _ (List.getElem_mem hi), take_snoc _ _ _ (List.getElem?_eq_getElem hi), List.drop_eq_getElem_cons hi⟩
  -- a column with an entry more
  have key : ∀ (col : List Int) (z : Int) (q : Int) (i' k' : Nat), col.length = l.length → (∃ w ∈ col ++ [z], w ≠ -1) → putC c l col t.l z = q →
      (∀ s, s < l.length → srcC (cols.take i) s ++ (if col.getD s (-1) = -1 then [] else [col.getD s (-1)]) = srcC (cols.take i') s) → (upto k ++ (if z = -1 then [] else [z]) = upto k') →
      (totZ c l (cols.drop i) = colZ c l col + totZ c l (cols.drop i')) → rst (grdA c l cols t.l) i k ≤ q + rst (grdA c l cols t.l) i' k' → OthP c l cols t i' k' (oth ++ [col ++ [z]]) := by
    intro col z q i' k' hl hs hq h1 h2 h3 h4
    have hone : ∀ s, srcC (oth ++ [col ++ [z]]) s = srcC oth s ++ (if (col ++ [z]).getD s (-1) = -1 then [] else [(col ++ [z]).getD s (-1)]) := fun s => by
      rw [srcC_app, srcC_cons]
      show _ ++ (_ ++ []) = _
      rw [List.append_nil]
    refine ⟨fun x hx => ?_, fun x hx => ?_, fun s hs2 => ?_, ?_, ?_⟩
    · rcases List.mem_append.1 hx with hx | hx
      · exact h.len x hx
      · rw [List.mem_singleton] at hx; subst hx; rw [List.length_append, hl]; rfl
    · rcases List.mem_append.1 hx with hx | hx
      · exact h.some_ x hx
      · rw [List.mem_singleton] at hx; subst hx; exact hs
    · rw [hone, h.src s hs2, getD_left (by omega)]
      exact h1 s hs2
    · rw [hone, h.last, ← hl, getD_end]
      exact h2
    · have hc := h.cost
      rw [totZ_app, totZ_cons, colZ_app c hl, hq]
      show _ ≤ totZ c (l ++ [t]) oth + (colZ c l col + q + 0) + _ + _
      omega
  rcases mvs_form hy with ⟨rfl, hi, hk⟩ | ⟨rfl, hi⟩ | ⟨rfl, hk⟩
  · rw [e1] at hi
    obtain ⟨r1, r2, r3, r4⟩ := hrow hi
    have ecl : colM l.length cols i k ⟨1, 1, (grdA c l cols t.l).p i k⟩ = cols.getD i [] ++ [(k : Int)] := by unfold colM; rw [if_pos rfl, if_pos rfl]
    rw [ecl]
    refine key _ _ _ (i + 1) (k + 1) r1 ⟨(k : Int), by simp, by omega⟩ rfl (fun s hs => ?_) ?_ (by rw [r4, totZ_cons]) hvia
    · rw [r3, srcC_app, srcC_cons]; show _ = _ ++ (_ ++ []); rw [List.append_nil]
    · rw [if_neg (by omega), upto_succ]
  · rw [e1] at hi
    obtain ⟨r1, ⟨w, w1, w2⟩, r3, r4⟩ := hrow hi
    have ecl : colM l.length cols i k ⟨1, 0, (grdA c l cols t.l).g i⟩ = cols.getD i [] ++ [-1] := by unfold colM; rw [if_pos rfl, if_neg (show ¬ (0 : Nat) = 1 by omega)]
    rw [ecl]
    refine key _ _ _ (i + 1) k r1 ⟨w, List.mem_append_left _ w1, w2⟩ rfl (fun s hs => ?_) ?_ (by rw [r4, totZ_cons]) hvia
    · rw [r3, srcC_app, srcC_cons]; show _ = _ ++ (_ ++ []); rw [List.append_nil]
    · rw [if_pos rfl, List.append_nil]
  · have ecl : colM l.length cols i k ⟨0, 1, (grdA c l cols t.l).h k⟩ = noneC l.length ++ [(k : Int)] := by unfold colM; rw [if_neg (show ¬ (0 : Nat) = 1 by omega), if_pos rfl]
    rw [ecl]
    refine key _ _ _ i (k + 1) hnl ⟨(k : Int), by simp, by omega⟩ rfl (fun s hs => ?_) ?_ (by rw [colZ_none]; omega) hvia
    · rw [hnone, if_pos rfl, List.append_nil]
    · rw [if_neg (by omega), upto_succ]
theorem OthP.fin {c : Costs} {l : List TS} {cols : List (List Int)} {t : TS} {i k : Nat} {oth : List (List Int)} (h : OthP c l cols t i k oth) (hok : ColsOk (lens l) cols) (htn : t.l.length = t.n) (hi : i = cols.length) (hk : k = t.l.length) :
    ColsOk (lens (l ++ [t])) oth ∧ totZ c (l ++ [t]) (addV c l cols t.l 0 0) ≤ totZ c (l ++ [t]) oth := by
  subst hi; subst hk
  have hll := lens_len l
  have e : lens (l ++ [t]) = lens l ++ [t.n] := by rw [lens_app]; rfl
  refine ⟨⟨fun x hx => ?_, h.some_, fun s n hs => ?_⟩, ?_⟩
  · rw [e, List.length_append, hll]; exact h.len x hx
  · rw [e] at hs
    by_cases hsl : s < l.length
    · rw [List.getElem?_append_left (by omega)] at hs
      rw [h.src s hsl, List.take_of_length_le (Nat.le_refl _)]
      exact hok.src s n hs
    · have hse : s = l.length := by
        have := (List.getElem?_eq_some_iff.1 hs).1
        rw [List.length_append, hll] at this
        have h1 : [t.n].length = 1 := rfl
        omega
      subst hse
      rw [List.getElem?_append_right (by omega), hll, Nat.sub_self] at hs
      cases hs
      rw [h.last, htn]
  · have hlen : ∀ x ∈ cols, x.length = l.length := fun x hx => by rw [hok.len x hx, hll]
    rw [totZ_add hlen t 0 0 (Nat.zero_le _) (Nat.zero_le _), List.drop_zero]
    have hc := h.cost
    rw [List.drop_of_length_le (Nat.le_refl _), rst_none (G := grdA c l cols t.l) (i := cols.length) (k := t.l.length) (Nat.lt_irrefl _) (Nat.lt_irrefl _)] at hc
    have h0 : totZ c l [] = 0 := rfl
    omega
end Go.Proofs.YtofikdpbagnjbaaGreatDoor
namespace Go.Proofs.YtofikdpbagnjbaaGreatDoor
open Go.RowKit Go.Shelf Go.Proofs

theorem wthC_cons (x : List Int) (cols : List (List Int)) (i : Nat) : wthC (x :: cols) i = if anyP (dropI x i) = true then dropI x i :: wthC cols i else wthC cols i := by
  unfold wthC
  rw [List.map_cons, List.filter_cons]
theorem dropI_end {α : Type} (a : List α) (z : α) {n : Nat} (h : a.length = n) : dropI (a ++ [z]) n = a := by
  subst h
  unfold dropI
  rw [List.take_append_of_le_length (Nat.le_refl _), List.take_length, List.drop_of_length_le (by simp), List.append_nil]
theorem anyP_noneC (n : Nat) : anyP (noneC n) = false := by
  unfold anyP noneC
  rw [List.any_eq_false]
  intro x hx
  rw [List.eq_of_mem_replicate hx]; decide
theorem ColsOk.anyP_ {ls : List Nat} {cols : List (List Int)} (h : ColsOk ls cols) : ∀ x ∈ cols, anyP x = true := fun x hx => by
  obtain ⟨z, hz, hz1⟩ := h.some_ x hx
  obtain ⟨k, hk, e⟩ := List.getElem_of_mem hz
  have hg := h.ge hx k
  rw [List.getD_eq_getElem?_getD, List.getElem?_eq_getElem hk, e] at hg
  exact anyP_iff.2 ⟨z, hz, by have : -1 ≤ z := hg; omega⟩
theorem wthC_add {c : Costs} {l : List TS} {cols : List (List Int)} {t : List Tok} (hlen : ∀ x ∈ cols, x.length = l.length) (hany : ∀ x ∈ cols, anyP x = true) : ∀ i k, i ≤ cols.length → k ≤ t.length → wthC (addV c l cols t i k) l.length = cols.drop i := by
  refine grd_ind (grdA c l cols t) fun i k h1 h2 h3 hi hk => ?_
  have e1 : (grdA c l cols t).n = cols.length := rfl
  have e2 : (grdA c l cols t).m = t.length := rfl
  have hr : ∀ i, i < cols.length → (cols.getD i []).length = l.length ∧ anyP (cols.getD i []) = true ∧ cols.drop i = cols.getD i [] :: cols.drop (i + 1) := fun i h => by
    have e : cols.getD i [] = cols[i] := by rw [List.getD_eq_getElem?_getD, List.getElem?_eq_getElem h]; rfl
    rw [e]
    exact ⟨hlen _ (List.getElem_mem h), hany _ (List.getElem_mem h), List.drop_eq_getElem_cons h⟩
  have hnl : (noneC l.length).length = l.length := by simp [noneC]
  by_cases he : i < cols.length ∨ k < t.length
  · obtain ⟨x, hx⟩ := fstM_ex (G := grdA c l cols t) (i := i) (k := k) he
    rw [addV_step hx, wthC_cons]
    rcases mvs_form (fstM_mem hx).1 with ⟨rfl, f1, f2⟩ | ⟨rfl, f1⟩ | ⟨rfl, f1⟩
    · have g := h3 f1 f2 (by omega) (by omega)
      have f1' : i < cols.length := f1
      obtain ⟨r1, r2, r3⟩ := hr i f1'
      have e3 : dropI (colM l.length cols i k ⟨1, 1, (grdA c l cols t).p i k⟩) l.length = cols.getD i [] := by
        unfold colM; rw [if_pos rfl]; exact dropI_end _ _ r1
      rw [e3, if_pos r2, g, r3]
    · have g := h1 f1 (by omega) hk
      have f1' : i < cols.length := f1
      obtain ⟨r1, r2, r3⟩ := hr i f1'
      have e3 : dropI (colM l.length cols i k ⟨1, 0, (grdA c l cols t).g i⟩) l.length = cols.getD i [] := by
        unfold colM; rw [if_pos rfl]; exact dropI_end _ _ r1
      rw [e3, if_pos r2, r3]
      exact congrArg _ g
    · have g := h2 f1 hi (by omega)
      have e3 : dropI (colM l.length cols i k ⟨0, 1, (grdA c l cols t).h k⟩) l.length = noneC l.length := by
        unfold colM; rw [if_neg (show ¬ (0 : Nat) = 1 by omega)]; exact dropI_end _ _ hnl
      rw [e3, if_neg (by rw [anyP_noneC]; decide)]
      exact g
  · rw [addV_end he, List.drop_of_length_le (by omega)]
    rfl
end Go.Proofs.YtofikdpbagnjbaaGreatDoor
namespace Go.Proofs.YtofikdpbagnjbaaGreatDoor
open Go.RowKit Go.Shelf
set_option maxRecDepth 100000
set_option maxHeartbeats 1000000

end Go.Proofs.YtofikdpbagnjbaaGreatDoor
namespace Go.Proofs.YtofikdpbagnjbaaGreatDoor
open Go.RowKit Go.Shelf Go.Sort Go.Lib
set_option maxRecDepth 100000
set_option maxHeartbeats 1000000
variable {α : Type} [Inhabited α]

end Go.Proofs.YtofikdpbagnjbaaGreatDoor
namespace Go.Proofs.YtofikdpbagnjbaaGreatDoor
open Go.RowKit Go.Shelf Go.Lib Go.Sort Go.Proofs
set_option maxRecDepth 100000
set_option maxHeartbeats 2000000
end Go.Proofs.YtofikdpbagnjbaaGreatDoor
namespace Go.Proofs.YtofikdpbagnjbaaGreatDoor
open Go.RowKit Go.Shelf Go.Proofs
set_option maxRecDepth 100000
set_option maxHeartbeats 1000000

end Go.Proofs.YtofikdpbagnjbaaGreatDoor
namespace Go.Proofs.YtofikdpbagnjbaaGreatDoor
open Go.RowKit Go.Shelf Go.Proofs
set_option maxRecDepth 100000
set_option maxHeartbeats 1000000

end Go.Proofs.YtofikdpbagnjbaaGreatDoor
namespace Go.Proofs.YtofikdpbagnjbaaGreatDoor
open Go.RowKit Go.Shelf Go.Proofs
set_option maxRecDepth 100000
set_option maxHeartbeats 1000000

end Go.Proofs.YtofikdpbagnjbaaGreatDoor
namespace Go.Proofs.YtofikdpbagnjbaaGreatDoor
open Go.RowKit Go.Shelf Go.Proofs Go.Sort Go.Lib
set_option maxRecDepth 100000
set_option maxHeartbeats 1000000

structure MvAt (p : Frag) where
  v : Value
  m : List Nat
  rd : Rd (fr p) [v] [intsD (intN m)]
  ne : m ≠ []
  le : m.length ≤ 1000
end Go.Proofs.YtofikdpbagnjbaaGreatDoor
namespace Go.Proofs.YtofikdpbagnjbaaGreatDoor
open Go.RowKit Go.Shelf Go.Proofs
set_option maxRecDepth 100000
set_option maxHeartbeats 1000000

end Go.Proofs.YtofikdpbagnjbaaGreatDoor
namespace Go.Proofs.YtofikdpbagnjbaaGreatDoor
open Go.RowKit Go.Shelf Go.Proofs
set_option maxRecDepth 100000
set_option maxHeartbeats 1000000

end Go.Proofs.YtofikdpbagnjbaaGreatDoor
namespace Go.Proofs.YtofikdpbagnjbaaGreatDoor
open Go.RowKit Go.Shelf Go.Proofs
set_option maxRecDepth 100000
set_option maxHeartbeats 1000000

theorem sumL_lens {l : List TS} (h : ∀ t ∈ l, t.n ≤ 1000) : sumL (lens l) ≤ 1000 * l.length := by
  induction l with
  | nil => exact Nat.zero_le _
  | cons t l ih =>
    have h1 := h t (.head _)
    have h2 := ih fun x hx => h x (.tail _ hx)
    show t.n + sumL (lens l) ≤ _
    rw [List.length_cons]
    omega
end Go.Proofs.YtofikdpbagnjbaaGreatDoor
namespace Go.Proofs.YtofikdpbagnjbaaGreatDoor
open Go.RowKit Go.Shelf Go.Proofs
set_option maxRecDepth 100000
set_option maxHeartbeats 1000000

noncomputable def remV (l : List TS) (cols : List (List Int)) (z : Int) : List (List Int) × Int := if srcE l ≠ 0 then ([], srcE l) else if alV l cols ≠ 0 then ([], alV l cols) else if z < 0 ∨ (l.length : Int) ≤ z then ([], 2) else (wthC cols z.toNat, 0)
theorem remove21_spec (A : Option Addr) (n ca : Nat) (l : List TS) (x : Value) (cols : List (List Int)) (z : Int) (w : World) (hg : Grp w A n l) (hx : Rd (wr w) [x] [rowsD cols]) :
    Spec Tryz.prog 40 [.slice A n ca, x, .int .i64 z] w (fun v R => ∃ y : Value, True ∧ v = .tuple #[y, .int .i64 (remV l cols z).2] ∧ R = [dat [y] [rowsD (remV l cols z).1]]) := by
  have hn := hg.hn
  subst hn
  have hb := hg.hb
  refine spec_of sg Tryz.func40 rfl rfl rfl ?_
  repeat' (first | refine d1 ?_ | refine dd ?_ | (show T _ (.ops _ (_ :: _) :: _) _ _ _; first | refine T_call rfl rfl rfl rfl rfl (fun w hw => srcs21_spec A l.length ca l w (hg.cls hw)) ?_ | refine T_callC rfl rfl rfl rfl rfl rfl rfl (fun hg w hw => srcs21_spec A l.length ca l w (hg.cls hw)) ?_) | (show T _ (.run _ _ (_ :: _) _ _ :: _) _ _ _; first | refine rc rfl rfl rfl rfl rfl rfl rfl (fun w hw => srcs21_spec A l.length ca l w (hg.cls hw)) ?_ | refine rcG rfl rfl rfl rfl rfl rfl rfl rfl rfl (fun hg w hw => srcs21_spec A l.length ca l w (hg.cls hw)) ?_) | (show ∀ _ : Nat, T _ _ _ _ _; intro _))
  refine T_if rfl (fun h => by exfalso; simp at h) (fun _ => ?_)
  repeat' (first | refine d1 ?_ | refine dd ?_ | (show T _ (.ops _ (_ :: _) :: _) _ _ _; first | refine T_call rfl rfl rfl rfl rfl (fun w hw => toks21_spec A l.length ca l w (hg.cls hw)) ?_ | refine T_callC rfl rfl rfl rfl rfl rfl rfl (fun hg w hw => toks21_spec A l.length ca l w (hg.cls hw)) ?_) | (show T _ (.run _ _ (_ :: _) _ _ :: _) _ _ _; first | refine rc rfl rfl rfl rfl rfl rfl rfl (fun w hw => toks21_spec A l.length ca l w (hg.cls hw)) ?_ | refine rcG rfl rfl rfl rfl rfl rfl rfl rfl rfl (fun hg w hw => toks21_spec A l.length ca l w (hg.cls hw)) ?_) | (show ∀ _ : Nat, T _ _ _ _ _; intro _))
  refine T_if rfl (fun h => ?_) (fun h => ?_)
  · have e : remV l cols z = ([], srcE l) := if_pos (by simpa using h)
    rw [e]
    repeat' (first | refine d1 ?_ | refine dd ?_ | (show ∀ _ : Nat, T _ _ _ _ _; intro _) | (show T _ (.code .ret :: _) _ _ _; refine T_retV _ rfl (nilC _ |>.trans (Hle.nth 0 rfl)) ⟨_, trivial, rfl, rfl⟩))
  have h1 : srcE l = 0 := by simpa using h
  clear h
  repeat' (first | refine d1 ?_ | refine dd ?_ | (show T _ (.ops _ (_ :: _) :: _) _ _ _; first | refine T_call rfl rfl rfl rfl rfl (fun w hw => aligned21_spec A l.length ca l x cols w (hg.cls hw) (hx.old hw)) ?_ | refine T_callC rfl rfl rfl rfl rfl rfl rfl (fun hg w hw => aligned21_spec A l.length ca l x cols w (hg.cls hw) (hx.old hw)) ?_) | (show T _ (.run _ _ (_ :: _) _ _ :: _) _ _ _; first | refine rc rfl rfl rfl rfl rfl rfl rfl (fun w hw => aligned21_spec A l.length ca l x cols w (hg.cls hw) (hx.old hw)) ?_ | refine rcG rfl rfl rfl rfl rfl rfl rfl rfl rfl (fun hg w hw => aligned21_spec A l.length ca l x cols w (hg.cls hw) (hx.old hw)) ?_) | (show ∀ _ : Nat, T _ _ _ _ _; intro _))
  refine T_if rfl (fun h => ?_) (fun h => ?_)
  · have e : remV l cols z = ([], alV l cols) := by unfold remV; rw [if_neg (by simpa using h1), if_pos (by simpa using h)]
    rw [e]
    repeat' (first | refine d1 ?_ | refine dd ?_ | (show ∀ _ : Nat, T _ _ _ _ _; intro _) | (show T _ (.code .ret :: _) _ _ _; refine T_retV _ rfl (nilC _ |>.trans (Hle.nth 0 rfl)) ⟨_, trivial, rfl, rfl⟩))
  have h2 : alV l cols = 0 := by simpa using h
  clear h
  have hok := alV_ok2 h2
  have hsh := hok.short
  have hsl := sumL_lens hg.nb
  have hrow : ∀ q ∈ cols, q.length = l.length := fun q hq9 => by rw [hok.len q hq9, lens_len]
  repeat' (first | refine d1 ?_ | refine dd ?_ | (show ∀ _ : Nat, T _ _ _ _ _; intro _))
  refine T_if rfl (fun h => ?_) (fun h => ?_)
  · have e : remV l cols z = ([], 2) := by unfold remV; rw [if_neg (by simpa using h1), if_neg (by simpa using h2), if_pos (by simpa using h)]
    rw [e]
    repeat' (first | refine d1 ?_ | refine dd ?_ | (show ∀ _ : Nat, T _ _ _ _ _; intro _) | (show T _ (.code .ret :: _) _ _ _; refine T_retV _ rfl (nilC _ |>.trans (Hle.nth 0 rfl)) ⟨_, trivial, rfl, rfl⟩))
  have hz : 0 ≤ z ∧ z < (l.length : Int) := by
    simp only [Bool.or_eq_false_iff, decide_eq_false_iff_not] at h
    omega
  clear h
  have e : remV l cols z = (wthC cols z.toNat, 0) := by unfold remV; rw [if_neg (by simpa using h1), if_neg (by simpa using h2), if_neg (by omega)]
  rw [e]
  obtain ⟨i, rfl⟩ : ∃ i : Nat, z = i := ⟨z.toNat, by omega⟩
  rw [Int.toNat_natCast]
  repeat' (first | refine d1 ?_ | refine dd ?_ | (show T _ (.ops _ (_ :: _) :: _) _ _ _; refine T_op (OpT.call rfl rfl rfl rfl rfl (fun w hw => without_spec x cols i w (hx.old hw) (fun q hq9 => by rw [hrow q hq9]; omega) (fun q hq9 => by rw [hrow q hq9]; omega) (by omega)) ?_)) | (show ∀ _ : Nat, T _ _ _ _ _; intro _))
  rintro y R ⟨_, -, rfl, rfl⟩
  repeat' (first | refine d1 ?_ | refine dd ?_ | (show ∀ _ : Nat, T _ _ _ _ _; intro _) | (show T _ (.code .ret :: _) _ _ _; refine T_retV _ rfl (Hle.nth 0 rfl) ⟨_, trivial, rfl, rfl⟩))
noncomputable def addTV (c : Costs) (l : List TS) (cols : List (List Int)) (t : List Tok) : List (List Int) × Int := if ck21 c l ≠ 0 then ([], ck21 c l) else if alV l cols ≠ 0 then ([], alV l cols) else if l.length = 32 ∨ 1024 < t.length then ([], 4) else if badL t = true then ([], 1) else (addV c l cols t 0 0, 0)
theorem addT21_spec (c : Costs) (A At : Option Addr) (n ca m ct : Nat) (l : List TS) (x : Value) (cols : List (List Int)) (t : List Tok) (w : World) (hg : Grp w A n l) (hq : ∀ t ∈ l, t.n ≤ 100) (hx : Rd (wr w) [x] [rowsD cols]) (hts : Src w 6 At m (t.flatMap Tok.cells)) (htl : t.length = m) (hm : m ≤ 100) (hsm : ∀ x ∈ t, x.small) :
    Spec Tryz.prog 39 [c.val, .slice A n ca, x, .slice At m ct] w (fun v R => ∃ y : Value, True ∧ v = .tuple #[y, .int .i64 (addTV c l cols t).2] ∧ R = [dat [y] [rowsD (addTV c l cols t).1]]) := by
  have hn := hg.hn
  subst hn
  have hb := hg.hb
  refine spec_of sg Tryz.func39 rfl rfl rfl ?_
  refine T_op (OpT.box (cs := c.cells) rfl rfl rfl rfl rfl rfl rfl (fun pc => ?_))
  repeat' (first | refine d1 ?_ | refine dd ?_ | (show T _ (.ops _ (_ :: _) :: _) _ _ _; first | refine T_call rfl rfl rfl rfl rfl (fun w hw => check21_spec c A l.length ca l w (hg.cls hw)) ?_ | refine T_callC rfl rfl rfl rfl rfl rfl rfl (fun hg w hw => check21_spec c A l.length ca l w (hg.cls hw)) ?_) | (show T _ (.run _ _ (_ :: _) _ _ :: _) _ _ _; first | refine rc rfl rfl rfl rfl rfl rfl rfl (fun w hw => check21_spec c A l.length ca l w (hg.cls hw)) ?_ | refine rcG rfl rfl rfl rfl rfl rfl rfl rfl rfl (fun hg w hw => check21_spec c A l.length ca l w (hg.cls hw)) ?_) | (show ∀ _ : Nat, T _ _ _ _ _; intro _))
  refine T_if rfl (fun h => ?_) (fun h => ?_)
  · have e : addTV c l cols t = ([], ck21 c l) := if_pos (by simpa using h)
    rw [e]
    repeat' (first | refine d1 ?_ | refine dd ?_ | (show ∀ _ : Nat, T _ _ _ _ _; intro _) | (show T _ (.code .ret :: _) _ _ _; refine T_retV _ rfl (nilC _ |>.trans (Hle.nth 0 rfl)) ⟨_, trivial, rfl, rfl⟩))
  have h1 : ck21 c l = 0 := by simpa using h
  clear h
  repeat' (first | refine d1 ?_ | refine dd ?_ | (show T _ (.ops _ (_ :: _) :: _) _ _ _; first | refine T_call rfl rfl rfl rfl rfl (fun w hw => aligned21_spec A l.length ca l x cols w (hg.cls hw) (hx.old hw)) ?_ | refine T_callC rfl rfl rfl rfl rfl rfl rfl (fun hg w hw => aligned21_spec A l.length ca l x cols w (hg.cls hw) (hx.old hw)) ?_) | (show T _ (.run _ _ (_ :: _) _ _ :: _) _ _ _; first | refine rc rfl rfl rfl rfl rfl rfl rfl (fun w hw => aligned21_spec A l.length ca l x cols w (hg.cls hw) (hx.old hw)) ?_ | refine rcG rfl rfl rfl rfl rfl rfl rfl rfl rfl (fun hg w hw => aligned21_spec A l.length ca l x cols w (hg.cls hw) (hx.old hw)) ?_) | (show ∀ _ : Nat, T _ _ _ _ _; intro _))
  refine T_if rfl (fun h => ?_) (fun h => ?_)
  · have e : addTV c l cols t = ([], alV l cols) := by unfold addTV; rw [if_neg (by simpa using h1), if_pos (by simpa using h)]
    rw [e]
    repeat' (first | refine d1 ?_ | refine dd ?_ | (show ∀ _ : Nat, T _ _ _ _ _; intro _) | (show T _ (.code .ret :: _) _ _ _; refine T_retV _ rfl (nilC _ |>.trans (Hle.nth 0 rfl)) ⟨_, trivial, rfl, rfl⟩))
  have h2 : alV l cols = 0 := by simpa using h
  clear h
  have hok := alV_ok2 h2
  have hsh := hok.short
  have hsl := sumL_lens100 hq
  obtain ⟨hc, hbs⟩ := ck21_ok h1
  repeat' (first | refine d1 ?_ | refine dd ?_ | (show ∀ _ : Nat, T _ _ _ _ _; intro _))
  refine T_if rfl (fun h => ?_) (fun h => ?_)
  · have e : addTV c l cols t = ([], 4) := by
      unfold addTV
      rw [if_neg (by simpa using h1), if_neg (by simpa using h2), if_pos]
      simp only [Bool.or_eq_true, decide_eq_true_eq] at h
      omega
    rw [e]
    repeat' (first | refine d1 ?_ | refine dd ?_ | (show ∀ _ : Nat, T _ _ _ _ _; intro _) | (show T _ (.code .ret :: _) _ _ _; refine T_retV _ rfl (nilC _ |>.trans (Hle.nth 0 rfl)) ⟨_, trivial, rfl, rfl⟩))
  have h3 : ¬ (l.length = 32 ∨ 1024 < t.length) := by
    simp only [Bool.or_eq_false_iff, decide_eq_false_iff_not] at h
    omega
  clear h
  have hg1 : ∀ {w' : World} {H : List HA} {b1 : Nat}, Cls w w' H → Src w' 1 (some ⟨b1, 0, none⟩) 1 (([⟨At, m, ct, t⟩] : List TS).map TS.val) → Grp w' (some ⟨b1, 0, none⟩) 1 [⟨At, m, ct, t⟩] := fun {w' H b1} hw hs =>
    ⟨hg.hst.cls hw, hs, rfl, by omega, ⟨List.forall_mem_cons.2 ⟨src_below hts hw.below, fun t h => by cases h⟩, List.forall_mem_cons.2 ⟨htl, fun t h => by cases h⟩, List.forall_mem_cons.2 ⟨by show m ≤ 9223372036854775807; omega, fun t h => by cases h⟩⟩, List.forall_mem_cons.2 ⟨by show m ≤ 1000; omega, fun t h => by cases h⟩, List.forall_mem_cons.2 ⟨hsm, fun t h => by cases h⟩⟩
  have hse : srcE ([⟨At, m, ct, t⟩] : List TS) = if badL t = true then 1 else 0 := by
    unfold srcE badS
    simp
  repeat' (first | refine d1 ?_ | refine dd ?_ | (show T _ (.ops _ (_ :: _) :: _) _ _ _; first | refine T_op (OpT.litW rfl rfl rfl rfl rfl rfl rfl rfl rfl rfl rfl (fun b1 => ?_)) | refine T_call rfl rfl rfl rfl rfl (fun w hw => toks21_spec _ 1 1 [⟨At, m, ct, t⟩] w (hg1 hw (Src.own hw rfl))) ?_ | refine T_callC rfl rfl rfl rfl rfl rfl rfl (fun hg w hw => toks21_spec _ 1 1 [⟨At, m, ct, t⟩] w (hg1 hw (Src.own hw rfl))) ?_) | (show T _ (.run _ _ (_ :: _) _ _ :: _) _ _ _; first | refine rc rfl rfl rfl rfl rfl rfl rfl (fun w hw => toks21_spec _ 1 1 [⟨At, m, ct, t⟩] w (hg1 hw (Src.own hw rfl))) ?_ | refine rcG rfl rfl rfl rfl rfl rfl rfl rfl rfl (fun hg w hw => toks21_spec _ 1 1 [⟨At, m, ct, t⟩] w (hg1 hw (Src.own hw rfl))) ?_) | (show ∀ _ : Nat, T _ _ _ _ _; intro _))
  rw [hse]
  cases hbt : badL t with
  | true =>
    have e : addTV c l cols t = ([], 1) := by unfold addTV; rw [if_neg (by simpa using h1), if_neg (by simpa using h2), if_neg h3, if_pos hbt]
    rw [e]
    refine T_if rfl (fun _ => ?_) (fun h => by exfalso; simp at h)
    repeat' (first | refine d1 ?_ | refine dd ?_ | (show ∀ _ : Nat, T _ _ _ _ _; intro _) | (show T _ (.code .ret :: _) _ _ _; refine T_retV _ rfl (nilC _ |>.trans (Hle.nth 0 rfl)) ⟨_, trivial, rfl, rfl⟩))
  | false =>
    have e : addTV c l cols t = (addV c l cols t 0 0, 0) := by unfold addTV; rw [if_neg (by simpa using h1), if_neg (by simpa using h2), if_neg h3, if_neg (by rw [hbt]; decide)]
    rw [e]
    have hprod : ((cols.length : Int) + 1) * ((m : Int) + 1) ≤ 1048576 := by
      have h9 := Nat.mul_le_mul (show cols.length + 1 ≤ 3201 by omega) (show m + 1 ≤ 101 by omega)
      have h8 : ((cols.length : Int) + 1) * ((m : Int) + 1) = (((cols.length + 1) * (m + 1) : Nat) : Int) := by push_cast; rfl
      rw [h8]; omega
    refine T_if rfl (fun h => by exfalso; simp at h) (fun _ => ?_)
    repeat' (first | refine d1 ?_ | refine dd ?_ | (show T _ (.ops _ (_ :: _) :: _) _ _ _; refine T_op (OpT.call rfl rfl rfl rfl rfl (fun w hw => add21_spec (h := ⟨hg.cls hw, hc, hbs, hx.old hw, fun col hcol => ColsOk.colOk (l := l) hok hcol, src_below hts hw.below, htl, by omega, badL_false.1 hbt, hsm, by omega⟩) ca ct hprod) ?_)) | (show ∀ _ : Nat, T _ _ _ _ _; intro _))
    rintro v R ⟨y, -, rfl, rfl⟩
    repeat' (first | refine d1 ?_ | refine dd ?_ | (show ∀ _ : Nat, T _ _ _ _ _; intro _) | (show T _ (.code .ret :: _) _ _ _; refine T_retV _ rfl (Hle.nth 0 rfl) ⟨_, trivial, rfl, rfl⟩))
theorem next21_spec (pk cp : Nat) (Ap : Option Addr) (us : List Int) (w0 : World) (K : List HA) (hs : Src w0 1 Ap us.length (us.map (Value.int .u8))) (hz : ∀ z ∈ us, 0 ≤ z ∧ z ≤ 255) (hc : us.length ≤ cp) :
    SpecB Tryz.prog 42 [.pointer (some ⟨pk, 0, none⟩)] w0 (blk pk [.slice Ap us.length cp] 51 :: K) (fun v R => ∃ (q : Int) (A' : Option Addr) (us' : List Int) (c' : Nat), ((0 ≤ q ∧ q ≤ 2) ∧ Src w0 1 A' us'.length (us'.map (Value.int .u8)) ∧ (∀ z ∈ us', 0 ≤ z ∧ z ≤ 255) ∧ us'.length ≤ c') ∧ v = .int .u8 q ∧ R = blk pk [.slice A' us'.length c'] 51 :: K) := by
  refine specB_of sg Tryz.func42 rfl rfl rfl ?_
  repeat' (first | refine d1 ?_ | refine dd ?_ | (show ∀ _ : Nat, T _ _ _ _ _; intro _))
  refine T_if rfl (fun h => ?_) (fun h => ?_)
  · repeat' (first | refine d1 ?_ | refine dd ?_ | (show ∀ _ : Nat, T _ _ _ _ _; intro _) | (show T _ (.code .ret :: _) _ _ _; refine T_retV _ rfl (Hle.refl _) ⟨0, Ap, us, cp, ⟨⟨by omega, by omega⟩, hs, hz, hc⟩, rfl, rfl⟩))
  simp only [decide_eq_false_iff_not] at h
  obtain ⟨b, o, rfl⟩ := hs.base (by omega)
  cases us with
  | nil => exact absurd rfl h
  | cons z us =>
    have hz1 := hz z (.head _)
    have hr : RdC w0 b (o + (0 : Int).toNat * 1) [.int .u8 z] := by
      have h9 := (hs.get1 (i := 0) (by simp) rfl).2
      exact h9
    have hd := src_drop1 (ca := cp) hs 1 (by simp) hc
    have hsu : Src w0 1 (cutA (some ⟨b, o, none⟩) cp 1 1) us.length (us.map (Value.int .u8)) := by
      have e1 : (z :: us).length - 1 = us.length := by simp
      rw [e1] at hd
      exact hd
    repeat' (first | refine d1 ?_ | refine dd ?_ | (show T _ (.ops _ (_ :: _) :: _) _ _ _; first | refine T_val rfl (Val.load rfl (fun hg => rdOld hr)) rfl rfl rfl ?_ | refine T_valC rfl (Val.load rfl (fun hg => rdOld hr)) rfl rfl rfl rfl rfl ?_) | (show T _ (.run _ _ (_ :: _) _ _ :: _) _ _ _; first | refine rv rfl rfl rfl (Val.load rfl (fun hg => rdOld hr)) rfl rfl rfl ?_ | refine rg rfl rfl rfl (Val.load rfl (fun hg => rdOld hr)) rfl rfl rfl rfl rfl ?_) | (show ∀ _ : Nat, T _ _ _ _ _; intro _) | (show T _ (.code .ret :: _) _ _ _; refine T_retV _ rfl (Hle.refl _) ⟨z % 3, _, us, cp - 1, ⟨⟨by omega, by omega⟩, hsu, fun y hy => hz y (.tail _ hy), by simp at hc; omega⟩, rfl, ?_⟩))
    rfl
end Go.Proofs.YtofikdpbagnjbaaGreatDoor
