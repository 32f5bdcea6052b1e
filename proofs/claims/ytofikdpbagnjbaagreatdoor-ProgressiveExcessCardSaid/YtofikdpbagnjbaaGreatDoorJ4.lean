/- Joined texts of this claim, part 4. -/
import Derived.Test.YtofikdpbagnjbaaGreatDoorJ3
set_option linter.unusedVariables false
set_option linter.unusedSimpArgs false
namespace Go.Proofs.YtofikdpbagnjbaaGreatDoor
open Go.RowKit Go.Shelf Go.Proofs
set_option maxRecDepth 100000
set_option maxHeartbeats 1000000

def ownJ (l : List TS) (col : List Int) (k : Nat) : List Tok := (List.range l.length).map fun s => if s < k ∧ 0 ≤ col.getD s (-1) then tkA (tsA l s).l (col.getD s (-1)).toNat else noTok
def thJ (l : List TS) (col : List Int) (k : Nat) : List Bool := (List.range l.length).map fun s => decide (s < k ∧ 0 ≤ col.getD s (-1))
theorem ownJ_len (l : List TS) (col : List Int) (k : Nat) : (ownJ l col k).length = l.length := by simp [ownJ]
theorem thJ_len (l : List TS) (col : List Int) (k : Nat) : (thJ l col k).length = l.length := by simp [thJ]
theorem ownJ_zero (l : List TS) (col : List Int) : ownJ l col 0 = List.replicate l.length noTok := by
  refine List.ext_getElem? fun s => ?_
  unfold ownJ
  rw [List.getElem?_map, List.getElem?_replicate]
  rcases Nat.lt_or_ge s l.length with h | h
  · rw [List.getElem?_range h, if_pos h]; simp
  · rw [if_neg (by omega), List.getElem?_eq_none (by simp; omega)]; rfl
theorem thJ_zero (l : List TS) (col : List Int) : thJ l col 0 = List.replicate l.length false := by
  refine List.ext_getElem? fun s => ?_
  unfold thJ
  rw [List.getElem?_map, List.getElem?_replicate]
  rcases Nat.lt_or_ge s l.length with h | h
  · rw [List.getElem?_range h, if_pos h]; simp
  · rw [if_neg (by omega), List.getElem?_eq_none (by simp; omega)]; rfl
theorem ownJ_gap {l : List TS} {col : List Int} {k : Nat} (h : ¬ 0 ≤ col.getD k (-1)) : ownJ l col (k + 1) = ownJ l col k := by
  unfold ownJ
  refine List.map_congr_left fun s _ => ?_
  by_cases e : s = k
  · subst e; rw [if_neg (fun h9 => h h9.2), if_neg (fun h9 => h h9.2)]
  · by_cases h2 : s < k ∧ 0 ≤ col.getD s (-1)
    · rw [if_pos h2, if_pos ⟨by omega, h2.2⟩]
    · rw [if_neg h2, if_neg (fun h9 => h2 ⟨by omega, h9.2⟩)]
theorem thJ_gap {l : List TS} {col : List Int} {k : Nat} (h : ¬ 0 ≤ col.getD k (-1)) : thJ l col (k + 1) = thJ l col k := by
  unfold thJ
  refine List.map_congr_left fun s _ => ?_
  by_cases e : s = k
  · subst e; rw [decide_eq_false (fun h9 => h h9.2), decide_eq_false (fun h9 => h h9.2)]
  · by_cases h2 : s < k ∧ 0 ≤ col.getD s (-1)
    · rw [decide_eq_true h2, decide_eq_true (⟨by omega, h2.2⟩ : s < k + 1 ∧ _)]
    · rw [decide_eq_false h2, decide_eq_false (fun h9 => h2 ⟨by omega, h9.2⟩)]
theorem ownJ_tok {l : List TS} {col : List Int} {k : Nat} (hk : k < l.length) (h : 0 ≤ col.getD k (-1)) : (ownJ l col k).set k (tkA (tsA l k).l (col.getD k (-1)).toNat) = ownJ l col (k + 1) := by
  refine List.ext_getElem? fun s => ?_
  unfold ownJ
  rw [List.getElem?_set, List.getElem?_map, List.getElem?_map, List.length_map, List.length_range]
  by_cases e : k = s
  · subst e
    rw [List.getD_eq_getElem?_getD] at h
    rw [if_pos rfl, if_pos hk, List.getElem?_range hk]; simp; intro h9; omega
  · rw [if_neg e]
    rcases Nat.lt_or_ge s l.length with h2 | h2
    · rw [List.getElem?_range h2]
      simp only [Option.map_some]
      by_cases h3 : s < k ∧ 0 ≤ col.getD s (-1)
      · rw [if_pos h3, if_pos ⟨by omega, h3.2⟩]
      · rw [if_neg h3, if_neg (fun h9 => h3 ⟨by omega, h9.2⟩)]
    · rw [List.getElem?_eq_none (by simp; omega)]; rfl
theorem thJ_tok {l : List TS} {col : List Int} {k : Nat} (hk : k < l.length) (h : 0 ≤ col.getD k (-1)) : (thJ l col k).set k true = thJ l col (k + 1) := by
  refine List.ext_getElem? fun s => ?_
  unfold thJ
  rw [List.getElem?_set, List.getElem?_map, List.getElem?_map, List.length_map, List.length_range]
  by_cases e : k = s
  · subst e
    rw [List.getD_eq_getElem?_getD] at h
    rw [if_pos rfl, if_pos hk, List.getElem?_range hk]; simp [h]
  · rw [if_neg e]
    rcases Nat.lt_or_ge s l.length with h2 | h2
    · rw [List.getElem?_range h2]
      simp only [Option.map_some]
      by_cases h3 : s < k ∧ 0 ≤ col.getD s (-1)
      · rw [decide_eq_true h3, decide_eq_true (⟨by omega, h3.2⟩ : s < k + 1 ∧ _)]
      · rw [decide_eq_false h3, decide_eq_false (fun h9 => h3 ⟨by omega, h9.2⟩)]
    · rw [List.getElem?_eq_none (by simp; omega)]; rfl
theorem ownJ_small {w : World} {A : Option Addr} {n : Nat} {l : List TS} (hg : Grp w A n l) {col : List Int} (hco : ColOk l col) (k : Nat) : ∀ t ∈ ownJ l col k, t.small := by
  intro t ht
  unfold ownJ at ht
  obtain ⟨s, hs, rfl⟩ := List.mem_map.1 ht
  rw [List.mem_range] at hs
  split
  · rename_i h
    have hci : col[s]? = some (col.getD s (-1)) := by rw [List.getD_eq_getElem?_getD, List.getElem?_eq_getElem (by rw [hco.1]; exact hs)]; rfl
    have hli : l[s]? = some (tsA l s) := by rw [tsA_eq (List.getElem?_eq_getElem hs)]; exact List.getElem?_eq_getElem hs
    exact hg.sm _ (tsA_mem hs) _ (tkA_mem2 h.2 (by rw [hg.ok.len _ (tsA_mem hs)]; exact (hco.2 s _ _ hci hli).2))
  · exact noTok_small
theorem own_colV {w : World} {A : Option Addr} {n : Nat} {l : List TS} (hg : Grp w A n l) {c : Costs} (hc : costE c = 0) (hbs : badS l = false) {col : List Int} (hco : ColOk l col) : columnV c (ownJ l col l.length) (thJ l col l.length) = (colZ c l col, 0) := by
  have hb := hg.hb
  have hn := hg.hn
  refine columnV_Z hc hbs hg.ok.len (by omega) hco (ownJ_len _ _ _) (thJ_len _ _ _) (fun i hi => ?_) (fun i hi h0 => ?_)
  · unfold thA thJ
    rw [List.getD_eq_getElem?_getD, List.getElem?_map, List.getElem?_range hi]
    show decide (i < l.length ∧ 0 ≤ col.getD i (-1)) = _
    by_cases h : 0 ≤ col.getD i (-1)
    · rw [decide_eq_true h, decide_eq_true ⟨hi, h⟩]
    · rw [decide_eq_false h, decide_eq_false (fun h9 => h h9.2)]
  · show tkA (ownJ l col l.length) i = _
    have e : (ownJ l col l.length)[i]? = some (tkA (tsA l i).l (col.getD i (-1)).toNat) := by
      unfold ownJ
      rw [List.getElem?_map, List.getElem?_range hi]
      simp only [Option.map_some]
      rw [if_pos ⟨hi, h0⟩]
    unfold tkA at e ⊢
    rw [List.getD_eq_getElem?_getD (l := ownJ l col l.length), e]
    rfl
theorem made_toks (n : Nat) : (madeCells (noTok.val).cells (n * (noTok.val).cells.size)).toList = (List.replicate n noTok).flatMap Tok.cells := by
  refine (made_flat (noTok.val).cells n).trans ?_
  induction n with
  | zero => rfl
  | succ n ih => rw [List.replicate_succ, List.replicate_succ, List.flatMap_cons, List.flatten_cons, ih]; rfl
theorem cost19_spec (c : Costs) (A Ac : Option Addr) (n ca cc : Nat) (l : List TS) (col : List Int) (w : World) (hg : Grp w A n l) (hc : costE c = 0) (hbs : badS l = false) (hcs : Src w 1 Ac n (col.map (Value.int .i64))) (hco : ColOk l col) :
    Spec Tryz.prog 96 [c.val, .slice A n ca, .slice Ac n cc] w (fun v R => v = .int .i64 (colZ c l col) ∧ R = []) := by
  have hn := hg.hn
  subst hn
  have hb := hg.hb
  refine spec_of sg Tryz.func96 rfl rfl rfl ?_
  refine T_op (OpT.box (cs := c.cells) rfl rfl rfl rfl rfl rfl rfl (fun pc => ?_))
  repeat' (first | refine d1 ?_ | (show ∀ _ : Nat, T _ _ _ _ _; intro _))
  refine T_cutX 1 [7, 8] (fun s : Nat × Nat => [(7, .slice (some ⟨s.1, 0, none⟩) l.length l.length), (8, .slice (some ⟨s.2, 0, none⟩) l.length l.length)]) (fun s => [blk s.1 (madeCells (noTok.val).cells (l.length * (noTok.val).cells.size)).toList 80, blk s.2 (List.replicate l.length (.bool false)) 4, blk pc c.cells 23]) (fun _ => True) ?_ ?_
  · refine dw0 1000 [blk pc c.cells 23] ?_
    repeat' (first | (show T _ (.draw _ _ _ _ _ :: _) _ _ _; first | refine dw1 ?_ | refine dwb rfl (by decide +kernel) ?_) | (show AllL _ []; exact True.intro) | (show AllL _ (_ :: _); refine ⟨?_, ?_⟩) | (show OpT _ _ _ _ _ _ _; first | refine dwx ?_ | refine OpT.makeC rfl rfl rfl rfl rfl rfl (by dsimp only; omega) (fun b2 => ⟨fun _ => (by first | exact Hle.none _ | exact Hle.sub | exact absurd ‹_› (by decide +kernel)), ?_⟩) | refine OpT.make rfl rfl rfl rfl rfl rfl rfl rfl rfl (by dsimp only; omega) (fun b3 => ⟨fun _ => (by first | exact Hle.none _ | exact Hle.sub | exact absurd ‹_› (by decide +kernel)), ?_⟩)) | (show ∀ _ : Nat, T _ _ _ _ _; intro _) | (show T _ (.mark _ :: _) _ _ _; exact T_meetX (_, _) trivial (hG := by exact Hle.srt)))
  rintro ⟨b2, b3⟩ _
  dsimp only
  refine T_le (H' := [blk b2 ((ownJ l col 0).flatMap Tok.cells) 80, blk b3 ((thJ l col 0).map Value.bool) 4, blk pc c.cells 23]) (by rw [ownJ_zero, thJ_zero, made_toks, List.map_replicate]; exact Hle.refl _) ?_
  repeat' (first | refine d1 ?_ | refine dd ?_ | (show ∀ _ : Nat, T _ _ _ _ _; intro _))
  refine T_loopX (fun k : Nat => [(21, .int .i64 k)]) (fun k => [blk b2 ((ownJ l col k).flatMap Tok.cells) 80, blk b3 ((thJ l col k).map Value.bool) 4, blk pc c.cells 23]) (fun k => k ≤ l.length) (fun k => l.length - k) 0 (Nat.zero_le _) ?_
  intro k hk
  repeat' (first | refine d1 ?_ | refine dd ?_ | (show ∀ _ : Nat, T _ _ _ _ _; intro _))
  refine T_if rfl (fun h => ?_) (fun h => ?_)
  · simp only [decide_eq_true_eq] at h
    have hkn : k < l.length := by omega
    obtain ⟨b1, o1, rfl⟩ := hcs.base (by omega)
    obtain ⟨b, o, rfl⟩ := hg.hs.base (by omega)
    obtain ⟨s, hs, hsmem, hr⟩ := hg.get hkn
    obtain ⟨z, hz⟩ : ∃ z, col[k]? = some z := ⟨_, List.getElem?_eq_getElem (by have := hco.1; omega)⟩
    have hr1 := src_int hcs hkn hz
    obtain ⟨hz1, hz2⟩ := hco.2 k z s hz hs
    have hsl := hg.ok.len s hsmem
    have hsn := hg.nb s hsmem
    have hzd : col.getD k (-1) = z := by rw [List.getD_eq_getElem?_getD, hz]; rfl
    repeat' (first | refine d1 ?_ | refine dd ?_ | (show ∀ _ : Nat, T _ _ _ _ _; intro _))
    refine T_if rfl (fun h1 => ?_) (fun h1 => ?_)
    · simp only [decide_eq_true_eq] at h1
      obtain ⟨b4, o4, hsA⟩ := (hg.ok.src s hsmem).base (by omega)
      have hsr : RdC w b4 (o4 + z.toNat * 6) (tkA s.l z.toNat).cells := (hsA ▸ hg.ok.src s hsmem : Src w 6 (some ⟨b4, o4, none⟩) s.n (s.l.flatMap Tok.cells)).getT (k := z.toNat) (by omega) (tkA_get (by omega))
      rw [hsA] at hr
      repeat' (first | refine d1 ?_ | refine dd ?_ | (show T _ (.ops _ (_ :: _) :: _) _ _ _; first | refine T_op (OpT.storeA (us := (tkA s.l z.toNat).cells) rfl rfl rfl rfl rfl rfl (by rw [flatT_length, ownJ_len, show (tkA s.l z.toNat).cells.length = 6 from rfl]; omega) ?_) | refine T_op (OpT.store rfl rfl rfl rfl (by rw [List.length_map, thJ_len]; omega) ?_)) | (show ∀ _ : Nat, T _ _ _ _ _; intro _))
      refine T_backX (k + 1) (by omega) (by omega) (hG := ?_)
      have e1 := ownJ_tok (l := l) (col := col) hkn (by rw [hzd]; exact h1)
      have e2 := thJ_tok (l := l) (col := col) hkn (by rw [hzd]; exact h1)
      rw [hzd, tsA_eq hs] at e1
      rw [← e1, ← e2, ← flatTok_set _ _ _ (by rw [ownJ_len]; exact hkn), List.map_set, show 0 + (k : Int).toNat * 6 = k * 6 by omega, show 0 + (k : Int).toNat * 1 = k by omega]
      exact Hle.refl _
    · simp only [decide_eq_false_iff_not] at h1
      repeat' (first | refine d1 ?_ | refine dd ?_ | (show ∀ _ : Nat, T _ _ _ _ _; intro _))
      exact T_backX (k + 1) (by omega) (by omega) (hG := by rw [ownJ_gap (by rw [hzd]; exact h1), thJ_gap (by rw [hzd]; exact h1)]; exact Hle.refl _)
  · simp only [decide_eq_false_iff_not] at h
    obtain rfl : k = l.length := by omega
    repeat' (first | refine d1 ?_ | refine dd ?_ | (show T _ (.ops _ (_ :: _) :: _) _ _ _; first | refine T_call rfl rfl rfl rfl rfl (fun w hw => columnPrg_spec c (some ⟨b2, 0, none⟩) (some ⟨b3, 0, none⟩) l.length l.length l.length l.length (ownJ l col l.length) (thJ l col l.length) w (hg.hst.cls hw) (Src.own hw (by rw [flatT_length, ownJ_len])) (ownJ_len _ _ _) (by omega) (Src.own hw (by rw [List.length_map, thJ_len, Nat.mul_one])) (thJ_len _ _ _) (by omega) (ownJ_small hg hco _)) ?_ | refine T_callC rfl rfl rfl rfl rfl rfl rfl (fun hg w hw => columnPrg_spec c (some ⟨b2, 0, none⟩) (some ⟨b3, 0, none⟩) l.length l.length l.length l.length (ownJ l col l.length) (thJ l col l.length) w (hg.hst.cls hw) (Src.own hw (by rw [flatT_length, ownJ_len])) (ownJ_len _ _ _) (by omega) (Src.own hw (by rw [List.length_map, thJ_len, Nat.mul_one])) (thJ_len _ _ _) (by omega) (ownJ_small hg hco _)) ?_) | (show T _ (.run _ _ (_ :: _) _ _ :: _) _ _ _; first | refine rc rfl rfl rfl rfl rfl rfl rfl (fun w hw => columnPrg_spec c (some ⟨b2, 0, none⟩) (some ⟨b3, 0, none⟩) l.length l.length l.length l.length (ownJ l col l.length) (thJ l col l.length) w (hg.hst.cls hw) (Src.own hw (by rw [flatT_length, ownJ_len])) (ownJ_len _ _ _) (by omega) (Src.own hw (by rw [List.length_map, thJ_len, Nat.mul_one])) (thJ_len _ _ _) (by omega) (ownJ_small hg hco _)) ?_ | refine rcG rfl rfl rfl rfl rfl rfl rfl rfl rfl (fun hg w hw => columnPrg_spec c (some ⟨b2, 0, none⟩) (some ⟨b3, 0, none⟩) l.length l.length l.length l.length (ownJ l col l.length) (thJ l col l.length) w (hg.hst.cls hw) (Src.own hw (by rw [flatT_length, ownJ_len])) (ownJ_len _ _ _) (by omega) (Src.own hw (by rw [List.length_map, thJ_len, Nat.mul_one])) (thJ_len _ _ _) (by omega) (ownJ_small hg hco _)) ?_) | (show ∀ _ : Nat, T _ _ _ _ _; intro _))
    rw [own_colV hg hc hbs hco]
    repeat' (first | refine d1 ?_ | refine dd ?_ | (show ∀ _ : Nat, T _ _ _ _ _; intro _) | (show T _ (.code .ret :: _) _ _ _; refine T_retV [] rfl (Hle.none _) ⟨rfl, rfl⟩))
noncomputable def costW (c : Costs) (l : List TS) (cols : List (List Int)) : Int × Int := if usV c l ≠ 0 then (0, usV c l) else if okC l cols = true then (totZ c l cols, 0) else (0, 19)
theorem costSum19_spec (c : Costs) (A : Option Addr) (n ca : Nat) (l : List TS) (x : Value) (cols : List (List Int)) (w : World) (hg : Grp w A n l) (hx : Rd (wr w) [x] [rowsD cols]) (hsz : cols.length ≤ 1000) :
    Spec Tryz.prog 34 [c.val, .slice A n ca, x] w (fun v R => v = .tuple #[.int .i64 (costW c l cols).1, .int .i64 (costW c l cols).2] ∧ R = []) := by
  have hx0 := hx
  have hn := hg.hn
  have hb := hg.hb
  obtain ⟨Ak, ck, csk, rfl, hck1, hck2, hcs, hrows⟩ := hx.tabS
  refine spec_of sg Tryz.func34 rfl rfl rfl ?_
  refine T_op (OpT.box (cs := c.cells) rfl rfl rfl rfl rfl rfl rfl (fun pc => ?_))
  repeat' (first | refine d1 ?_ | refine dd ?_ | (show T _ (.ops _ (_ :: _) :: _) _ _ _; first | refine T_call rfl rfl rfl rfl rfl (fun w hw => usable19_spec c A n ca l w (hg.cls hw)) ?_ | refine T_callC rfl rfl rfl rfl rfl rfl rfl (fun hg w hw => usable19_spec c A n ca l w (hg.cls hw)) ?_) | (show T _ (.run _ _ (_ :: _) _ _ :: _) _ _ _; first | refine rc rfl rfl rfl rfl rfl rfl rfl (fun w hw => usable19_spec c A n ca l w (hg.cls hw)) ?_ | refine rcG rfl rfl rfl rfl rfl rfl rfl rfl rfl (fun hg w hw => usable19_spec c A n ca l w (hg.cls hw)) ?_) | (show ∀ _ : Nat, T _ _ _ _ _; intro _))
  refine T_if rfl (fun h => ?_) (fun h => ?_)
  · simp only [Bool.not_eq_true', decide_eq_false_iff_not] at h
    have e : costW c l cols = (0, usV c l) := if_pos h
    rw [e]
    repeat' (first | refine d1 ?_ | refine dd ?_ | (show ∀ _ : Nat, T _ _ _ _ _; intro _) | (show T _ (.code .ret :: _) _ _ _; refine T_retV [] rfl (Hle.none _) ⟨rfl, rfl⟩))
  simp only [Bool.not_eq_false', decide_eq_true_eq] at h
  repeat' (first | refine d1 ?_ | refine dd ?_ | (show T _ (.ops _ (_ :: _) :: _) _ _ _; first | refine T_call rfl rfl rfl rfl rfl (fun w hw => aligned19_spec A n ca l _ cols w (hg.cls hw) (hx0.old hw)) ?_ | refine T_callC rfl rfl rfl rfl rfl rfl rfl (fun hg w hw => aligned19_spec A n ca l _ cols w (hg.cls hw) (hx0.old hw)) ?_) | (show T _ (.run _ _ (_ :: _) _ _ :: _) _ _ _; first | refine rc rfl rfl rfl rfl rfl rfl rfl (fun w hw => aligned19_spec A n ca l _ cols w (hg.cls hw) (hx0.old hw)) ?_ | refine rcG rfl rfl rfl rfl rfl rfl rfl rfl rfl (fun hg w hw => aligned19_spec A n ca l _ cols w (hg.cls hw) (hx0.old hw)) ?_) | (show ∀ _ : Nat, T _ _ _ _ _; intro _))
  refine T_if rfl (fun h1 => ?_) (fun h1 => ?_)
  · have e : costW c l cols = (0, 19) := by unfold costW; rw [if_neg (by simpa using h), if_neg (by simpa using h1)]
    rw [e]
    repeat' (first | refine d1 ?_ | refine dd ?_ | (show ∀ _ : Nat, T _ _ _ _ _; intro _) | (show T _ (.code .ret :: _) _ _ _; refine T_retV [] rfl (Hle.none _) ⟨rfl, rfl⟩))
  have hok1 : okC l cols = true := by simpa using h1
  have hok : ColsOk (lens l) cols := Classical.byContradiction fun h9 => by rw [okC_false h9] at hok1; cases hok1
  have h0 : l.length ≠ 0 := fun h9 => by unfold usV at h; rw [if_pos h9] at h; omega
  have hck : ck21 c l = 0 := by unfold usV at h; rwa [if_neg h0] at h
  obtain ⟨hc, hbs⟩ := ck21_ok hck
  have e : costW c l cols = (totZ c l cols, 0) := by unfold costW; rw [if_neg (by simpa using h), if_pos hok1]
  rw [e]
  repeat' (first | refine d1 ?_ | refine dd ?_ | (show ∀ _ : Nat, T _ _ _ _ _; intro _))
  refine T_loopX (fun i : Nat => [(24, .int .i64 i), (9, .int .i64 (totZ c l (cols.take i)))]) (fun _ => [blk pc c.cells 23]) (fun i => i ≤ cols.length) (fun i => cols.length - i) 0 (Nat.zero_le _) ?_
  intro i hi
  repeat' (first | refine d1 ?_ | refine dd ?_ | (show ∀ _ : Nat, T _ _ _ _ _; intro _))
  refine T_if rfl (fun h3 => ?_) (fun h3 => ?_)
  · simp only [decide_eq_true_eq] at h3
    have hin : i < cols.length := by omega
    obtain ⟨b, o, rfl⟩ := hcs.base (by omega)
    obtain ⟨r, hr⟩ : ∃ r, cols[i]? = some r := ⟨_, List.getElem?_eq_getElem hin⟩
    have hrm := List.mem_of_getElem? hr
    obtain ⟨Au, capu, hu, -, -, hA⟩ := hrows.tabRow hr
    have hco : ColOk l r := ColsOk.colOk (l := l) hok hrm
    have hrl : r.length = n := by rw [hco.1, hn]
    have hr0 := rowHd hcs hin hu
    have hsr := rowSrc hA
    rw [hrl] at hr0 hsr
    have htk := take_snoc _ _ _ hr
    have hs : totZ c l (cols.take (i + 1)) = totZ c l (cols.take i) + colZ c l r := by rw [htk, totZ_app, totZ_cons]; show _ = totZ c l (cols.take i) + colZ c l r; unfold totZ; simp
    have b1 := totZ_bd hc (l := l) (by omega) (cols.take i)
    have b2 := colZ_bd hc (l := l) (by omega) r
    have b3 : ((cols.take i).length : Int) ≤ 999 := by rw [List.length_take]; omega
    repeat' (first | refine d1 ?_ | refine dd ?_ | (show T _ (.ops _ (_ :: _) :: _) _ _ _; first | refine T_call rfl rfl rfl rfl rfl (fun w hw => cost19_spec c A Au n ca capu l r w (hg.cls hw) hc hbs (src_below hsr hw.below) hco) ?_ | refine T_callC rfl rfl rfl rfl rfl rfl rfl (fun hg w hw => cost19_spec c A Au n ca capu l r w (hg.cls hw) hc hbs (src_below hsr hw.below) hco) ?_) | (show T _ (.run _ _ (_ :: _) _ _ :: _) _ _ _; first | refine rc rfl rfl rfl rfl rfl rfl rfl (fun w hw => cost19_spec c A Au n ca capu l r w (hg.cls hw) hc hbs (src_below hsr hw.below) hco) ?_ | refine rcG rfl rfl rfl rfl rfl rfl rfl rfl rfl (fun hg w hw => cost19_spec c A Au n ca capu l r w (hg.cls hw) hc hbs (src_below hsr hw.below) hco) ?_) | (show ∀ _ : Nat, T _ _ _ _ _; intro _))
    refine T_if rfl (fun h4 => by exfalso; simp at h4; omega) (fun _ => ?_)
    repeat' (first | refine d1 ?_ | refine dd ?_ | (show ∀ _ : Nat, T _ _ _ _ _; intro _))
    exact T_backX (i + 1) (by omega) (by omega) (hE := ⟨rfl, by rw [hs]; rfl, trivial⟩)
  · simp only [decide_eq_false_iff_not] at h3
    obtain rfl : i = cols.length := by omega
    rw [List.take_of_length_le (Nat.le_refl _)]
    repeat' (first | refine d1 ?_ | refine dd ?_ | (show ∀ _ : Nat, T _ _ _ _ _; intro _) | (show T _ (.code .ret :: _) _ _ _; refine T_retV [] rfl (Hle.none _) ⟨rfl, rfl⟩))
theorem dstT_bd2 {c : Costs} (hc : costE c = 0) {l : List TS} (h : ∀ t ∈ l, t.l.length ≤ 100) (i k : Nat) : 0 ≤ dstT c l i k ∧ dstT c l i k ≤ 200000 := by
  have hl : ∀ i, (tsA l i).l.length ≤ 100 := fun i => by
    rcases Nat.lt_or_ge i l.length with h9 | h9
    · exact h _ (tsA_mem h9)
    · unfold tsA; rw [List.getD_eq_getElem?_getD, List.getElem?_eq_none h9]; simp
  have key : ∀ i k, 0 ≤ rst (grdOf c (tsA l i).l (tsA l k).l) 0 0 ∧ rst (grdOf c (tsA l i).l (tsA l k).l) 0 0 ≤ 200000 := fun i k => by
    have h1 := rst_bd (grdOf_ok hc (tsA l i).l (tsA l k).l) 0 0
    have h2 := hl i
    have h3 := hl k
    have e1 : (grdOf c (tsA l i).l (tsA l k).l).n = (tsA l i).l.length := rfl
    have e2 : (grdOf c (tsA l i).l (tsA l k).l).m = (tsA l k).l.length := rfl
    rw [e1, e2] at h1
    omega
  unfold dstT
  (repeat' split)
  · exact key i k
  · exact key k i
  · omega
noncomputable def boundW (c : Costs) (l : List TS) : Int × Int := if usV c l ≠ 0 then (0, usV c l) else (ssum (dstT c l) l.length l.length, 0)
theorem bound19_spec (c : Costs) (A : Option Addr) (n ca : Nat) (l : List TS) (w : World) (hg : Grp w A n l) (hq : ∀ t ∈ l, t.n ≤ 100) :
    Spec Tryz.prog 38 [c.val, .slice A n ca] w (fun v R => v = .tuple #[.int .i64 (boundW c l).1, .int .i64 (boundW c l).2] ∧ R = []) := by
  have hn := hg.hn
  have hb := hg.hb
  refine spec_of sg Tryz.func38 rfl rfl rfl ?_
  refine T_op (OpT.box (cs := c.cells) rfl rfl rfl rfl rfl rfl rfl (fun pc => ?_))
  repeat' (first | refine d1 ?_ | refine dd ?_ | (show T _ (.ops _ (_ :: _) :: _) _ _ _; first | refine T_call rfl rfl rfl rfl rfl (fun w hw => usable19_spec c A n ca l w (hg.cls hw)) ?_ | refine T_callC rfl rfl rfl rfl rfl rfl rfl (fun hg w hw => usable19_spec c A n ca l w (hg.cls hw)) ?_) | (show T _ (.run _ _ (_ :: _) _ _ :: _) _ _ _; first | refine rc rfl rfl rfl rfl rfl rfl rfl (fun w hw => usable19_spec c A n ca l w (hg.cls hw)) ?_ | refine rcG rfl rfl rfl rfl rfl rfl rfl rfl rfl (fun hg w hw => usable19_spec c A n ca l w (hg.cls hw)) ?_) | (show ∀ _ : Nat, T _ _ _ _ _; intro _))
  refine T_if rfl (fun h => ?_) (fun h => ?_)
  · simp only [Bool.not_eq_true', decide_eq_false_iff_not] at h
    have e : boundW c l = (0, usV c l) := if_pos h
    rw [e]
    repeat' (first | refine d1 ?_ | refine dd ?_ | (show ∀ _ : Nat, T _ _ _ _ _; intro _) | (show T _ (.code .ret :: _) _ _ _; refine T_retV [] rfl (Hle.none _) ⟨rfl, rfl⟩))
  simp only [Bool.not_eq_false', decide_eq_true_eq] at h
  have h0 : l.length ≠ 0 := fun h9 => by unfold usV at h; rw [if_pos h9] at h; omega
  have hck : ck21 c l = 0 := by unfold usV at h; rwa [if_neg h0] at h
  obtain ⟨hc, hbs⟩ := ck21_ok hck
  have e : boundW c l = (ssum (dstT c l) n n, 0) := by unfold boundW; rw [if_neg (by simpa using h), hn]
  rw [e]
  have hbd := dstT_bd2 hc (l := l) (fun t ht => by rw [hg.ok.len t ht]; exact hq t ht)
  have hnn : (n : Int) ≤ 32 := by omega
  have hsb : ∀ i : Nat, i ≤ n → 0 ≤ ssum (dstT c l) n i ∧ ssum (dstT c l) n i ≤ 204800000 := fun i hi => by
    have h1 := ssum_bd (M := 200000) (by omega) hbd n i
    have h2 : (200000 * (n : Int)) * (i : Int) ≤ (200000 * 32) * 32 := Int.mul_le_mul (by omega) (by omega) (by omega) (by omega)
    omega
  have hrb : ∀ i k : Nat, k ≤ n → 0 ≤ rsum (dstT c l) i k ∧ rsum (dstT c l) i k ≤ 6400000 := fun i k hk => by
    have h1 := rsum_bd (M := 200000) (by omega) hbd i k
    omega
  repeat' (first | refine d1 ?_ | refine dd ?_ | (show ∀ _ : Nat, T _ _ _ _ _; intro _))
  refine T_loopX (fun i : Nat => [(20, .int .i64 i), (7, .int .i64 (ssum (dstT c l) n i))]) (fun _ => [blk pc c.cells 23]) (fun i => i ≤ n) (fun i => n - i) 0 (Nat.zero_le _) ?_
  intro i hi
  repeat' (first | refine d1 ?_ | refine dd ?_ | (show ∀ _ : Nat, T _ _ _ _ _; intro _))
  refine T_if rfl (fun h3 => ?_) (fun h3 => ?_)
  · simp only [decide_eq_true_eq] at h3
    have hin : i < n := by omega
    have hs1 := hsb i hi
    repeat' (first | refine d1 ?_ | refine dd ?_ | (show ∀ _ : Nat, T _ _ _ _ _; intro _))
    refine T_loopX (fun k : Nat => [(9, .int .i64 k), (7, .int .i64 (ssum (dstT c l) n i + rsum (dstT c l) i k))]) (fun _ => [blk pc c.cells 23]) (fun k => i + 1 ≤ k ∧ k ≤ n) (fun k => n - k) (i + 1) ⟨Nat.le_refl _, hin⟩ ?_ (hE := ⟨rfl, by rw [rsum_low _ _ _ (Nat.le_refl _), Int.add_zero]; rfl, trivial⟩)
    rintro k ⟨hk1, hk2⟩
    repeat' (first | refine d1 ?_ | refine dd ?_ | (show ∀ _ : Nat, T _ _ _ _ _; intro _))
    refine T_if rfl (fun h4 => ?_) (fun h4 => ?_)
    · simp only [decide_eq_true_eq] at h4
      have hkn : k < n := by omega
      obtain ⟨b, o, rfl⟩ := hg.hs.base (by omega)
      obtain ⟨s, hs, hsm, hrs⟩ := hg.get hin
      obtain ⟨t, ht, htm, hrt⟩ := hg.get hkn
      have hd := dst_V hc hbs hs ht (show i < k by omega)
      have hbk := hbd i k
      have hr1 := hrb i k hk2
      have hst : rsum (dstT c l) i (k + 1) = rsum (dstT c l) i k + dstT c l i k := by rw [rsum, if_pos (by omega)]
      repeat' (first | refine d1 ?_ | refine dd ?_ | (show T _ (.ops _ (_ :: _) :: _) _ _ _; first | refine T_call rfl rfl rfl rfl rfl (fun w hw => distancePrg_spec c s.A t.A s.n t.n s.cap t.cap s.l t.l w ((hg.cls hw).two hsm htm)) ?_ | refine T_callC rfl rfl rfl rfl rfl rfl rfl (fun hg w hw => distancePrg_spec c s.A t.A s.n t.n s.cap t.cap s.l t.l w ((hg.cls hw).two hsm htm)) ?_) | (show T _ (.run _ _ (_ :: _) _ _ :: _) _ _ _; first | refine rc rfl rfl rfl rfl rfl rfl rfl (fun w hw => distancePrg_spec c s.A t.A s.n t.n s.cap t.cap s.l t.l w ((hg.cls hw).two hsm htm)) ?_ | refine rcG rfl rfl rfl rfl rfl rfl rfl rfl rfl (fun hg w hw => distancePrg_spec c s.A t.A s.n t.n s.cap t.cap s.l t.l w ((hg.cls hw).two hsm htm)) ?_) | (show ∀ _ : Nat, T _ _ _ _ _; intro _))
      rw [hd]
      refine T_if rfl (fun h5 => by exfalso; simp at h5) (fun _ => ?_)
      repeat' (first | refine d1 ?_ | refine dd ?_ | (show ∀ _ : Nat, T _ _ _ _ _; intro _))
      exact T_backX (k + 1) ⟨by omega, hkn⟩ (by omega) (hE := ⟨rfl, by rw [hst, ← Int.add_assoc]; rfl, trivial⟩)
    · simp only [decide_eq_false_iff_not] at h4
      obtain rfl : k = n := by omega
      repeat' (first | refine d1 ?_ | refine dd ?_ | (show ∀ _ : Nat, T _ _ _ _ _; intro _))
      exact T_backX (i + 1) hin (by omega)
  · simp only [decide_eq_false_iff_not] at h3
    obtain rfl : i = n := by omega
    have hs1 := hsb i (Nat.le_refl _)
    repeat' (first | refine d1 ?_ | refine dd ?_ | (show ∀ _ : Nat, T _ _ _ _ _; intro _))
    refine T_if rfl (fun h4 => by exfalso; simp at h4; omega) (fun _ => ?_)
    repeat' (first | refine d1 ?_ | refine dd ?_ | (show ∀ _ : Nat, T _ _ _ _ _; intro _) | (show T _ (.code .ret :: _) _ _ _; refine T_retV [] rfl (Hle.none _) ⟨rfl, rfl⟩))
noncomputable def alV (l : List TS) (cols : List (List Int)) : Int := if l.length = 0 ∧ cols.length = 0 then 0 else if chkC l cols = 0 then 0 else 19
theorem aligned21_spec (A : Option Addr) (n ca : Nat) (l : List TS) (x : Value) (cols : List (List Int)) (w : World) (hg : Grp w A n l) (hx : Rd (wr w) [x] [rowsD cols]) :
    Spec Tryz.prog 100 [.slice A n ca, x] w (fun v R => v = .int .i64 (alV l cols) ∧ R = []) := by
  have hx0 := hx
  have hn := hg.hn
  obtain ⟨Ak, ck, csk, rfl, hck1, hck2, hcs, hrows⟩ := hx.tabS
  refine spec_of sg Tryz.func100 rfl rfl rfl ?_
  repeat' (first | refine d1 ?_ | refine dd ?_ | (show ∀ _ : Nat, T _ _ _ _ _; intro _))
  refine T_if rfl (fun h1 => ?_) (fun h1 => ?_)
  · simp only [Bool.and_eq_true, decide_eq_true_eq] at h1
    have c1 : l.length = 0 ∧ cols.length = 0 := by omega
    have e : alV l cols = 0 := if_pos c1
    rw [e]
    repeat' (first | refine d1 ?_ | refine dd ?_ | (show ∀ _ : Nat, T _ _ _ _ _; intro _) | (show T _ (.code .ret :: _) _ _ _; refine T_retV [] rfl (Hle.none _) ⟨rfl, rfl⟩))
  have h2 : ¬ (l.length = 0 ∧ cols.length = 0) := fun h9 => by
    rw [decide_eq_true (show (n : Int) = 0 by omega), decide_eq_true (show (cols.length : Int) = 0 by omega)] at h1
    cases h1
  repeat' (first | refine d1 ?_ | refine dd ?_ | (show T _ (.ops _ (_ :: _) :: _) _ _ _; first | refine T_call rfl rfl rfl rfl rfl (fun w hw => check19_spec A n ca l _ cols w (hg.cls hw) (hx0.old hw)) ?_ | refine T_callC rfl rfl rfl rfl rfl rfl rfl (fun hg w hw => check19_spec A n ca l _ cols w (hg.cls hw) (hx0.old hw)) ?_) | (show T _ (.run _ _ (_ :: _) _ _ :: _) _ _ _; first | refine rc rfl rfl rfl rfl rfl rfl rfl (fun w hw => check19_spec A n ca l _ cols w (hg.cls hw) (hx0.old hw)) ?_ | refine rcG rfl rfl rfl rfl rfl rfl rfl rfl rfl (fun hg w hw => check19_spec A n ca l _ cols w (hg.cls hw) (hx0.old hw)) ?_) | (show ∀ _ : Nat, T _ _ _ _ _; intro _))
  refine T_if rfl (fun h3 => ?_) (fun h3 => ?_)
  · simp only [Bool.not_eq_true', decide_eq_false_iff_not] at h3
    have e : alV l cols = 19 := by unfold alV; rw [if_neg h2, if_neg h3]
    rw [e]
    repeat' (first | refine d1 ?_ | refine dd ?_ | (show ∀ _ : Nat, T _ _ _ _ _; intro _) | (show T _ (.code .ret :: _) _ _ _; refine T_retV [] rfl (Hle.none _) ⟨rfl, rfl⟩))
  · simp only [Bool.not_eq_false', decide_eq_true_eq] at h3
    have e : alV l cols = 0 := by unfold alV; rw [if_neg h2, if_pos h3]
    rw [e]
    repeat' (first | refine d1 ?_ | refine dd ?_ | (show ∀ _ : Nat, T _ _ _ _ _; intro _) | (show T _ (.code .ret :: _) _ _ _; refine T_retV [] rfl (Hle.none _) ⟨rfl, rfl⟩))
theorem total21_spec (c : Costs) (A : Option Addr) (n ca : Nat) (l : List TS) (x : Value) (cols : List (List Int)) (w : World) (hg : Grp w A n l) (hc : costE c = 0) (hbs : badS l = false) (hx : Rd (wr w) [x] [rowsD cols]) (hcols : ∀ r ∈ cols, ColOk l r) (hsz : cols.length ≤ 100000) :
    Spec Tryz.prog 101 [c.val, .slice A n ca, x] w (fun v R => v = .int .i64 (totZ c l cols) ∧ R = []) := by
  have hn := hg.hn
  subst hn
  have hb := hg.hb
  obtain ⟨Ak, ck, csk, rfl, hck1, hck2, hcs, hrows⟩ := hx.tabS
  refine spec_of sg Tryz.func101 rfl rfl rfl ?_
  refine T_op (OpT.box (cs := c.cells) rfl rfl rfl rfl rfl rfl rfl (fun pc => ?_))
  repeat' (first | refine d1 ?_ | refine dd ?_ | (show ∀ _ : Nat, T _ _ _ _ _; intro _))
  refine T_loopX (fun i : Nat => [(18, .int .i64 i), (7, .int .i64 (totZ c l (cols.take i)))]) (fun _ => [blk pc c.cells 23]) (fun i => i ≤ cols.length) (fun i => cols.length - i) 0 (Nat.zero_le _) ?_
  intro i hi
  repeat' (first | refine d1 ?_ | refine dd ?_ | (show ∀ _ : Nat, T _ _ _ _ _; intro _))
  refine T_if rfl (fun h3 => ?_) (fun h3 => ?_)
  · simp only [decide_eq_true_eq] at h3
    have hin : i < cols.length := by omega
    obtain ⟨b, o, rfl⟩ := hcs.base (by omega)
    obtain ⟨r, hr⟩ : ∃ r, cols[i]? = some r := ⟨_, List.getElem?_eq_getElem hin⟩
    have hrm := List.mem_of_getElem? hr
    obtain ⟨Au, capu, hu, -, -, hA⟩ := hrows.tabRow hr
    have hco : ColOk l r := hcols r hrm
    have hrl : r.length = l.length := hco.1
    have hr0 := rowHd hcs hin hu
    have hsr := rowSrc hA
    rw [hrl] at hr0 hsr
    have htk := take_snoc _ _ _ hr
    have hs : totZ c l (cols.take (i + 1)) = totZ c l (cols.take i) + colZ c l r := by rw [htk, totZ_app, totZ_cons]; show _ = totZ c l (cols.take i) + colZ c l r; unfold totZ; simp
    have q1 := totZ_bd hc (l := l) (by omega) (cols.take i)
    have q2 := colZ_bd hc (l := l) (by omega) r
    have q3 : ((cols.take i).length : Int) ≤ 100000 := by rw [List.length_take]; omega
    repeat' (first | refine d1 ?_ | (show ∀ _ : Nat, T _ _ _ _ _; intro _))
    refine T_cutX 1 [10, 11] (fun s : Nat × Nat => [(10, .slice (some ⟨s.1, 0, none⟩) l.length l.length), (11, .slice (some ⟨s.2, 0, none⟩) l.length l.length)]) (fun s => [blk s.1 (madeCells (noTok.val).cells (l.length * (noTok.val).cells.size)).toList 80, blk s.2 (List.replicate l.length (.bool false)) 4, blk pc c.cells 23]) (fun _ => True) ?_ ?_
    · refine dw0 1000 [blk pc c.cells 23] ?_
      repeat' (first | (show T _ (.draw _ _ _ _ _ :: _) _ _ _; first | refine dw1 ?_ | refine dwb rfl (by decide +kernel) ?_) | (show AllL _ []; exact True.intro) | (show AllL _ (_ :: _); refine ⟨?_, ?_⟩) | (show OpT _ _ _ _ _ _ _; first | refine dwx ?_ | refine OpT.makeC rfl rfl rfl rfl rfl rfl (by dsimp only; omega) (fun b2 => ⟨fun _ => (by first | exact Hle.none _ | exact Hle.sub | exact absurd ‹_› (by decide +kernel)), ?_⟩) | refine OpT.make rfl rfl rfl rfl rfl rfl rfl rfl rfl (by dsimp only; omega) (fun b3 => ⟨fun _ => (by first | exact Hle.none _ | exact Hle.sub | exact absurd ‹_› (by decide +kernel)), ?_⟩)) | (show ∀ _ : Nat, T _ _ _ _ _; intro _) | (show T _ (.mark _ :: _) _ _ _; exact T_meetX (_, _) trivial (hG := by exact Hle.srt)))
    rintro ⟨b2, b3⟩ _
    dsimp only
    refine T_le (H' := [blk b2 ((ownJ l r 0).flatMap Tok.cells) 80, blk b3 ((thJ l r 0).map Value.bool) 4, blk pc c.cells 23]) (by rw [ownJ_zero, thJ_zero, made_toks, List.map_replicate]; exact Hle.refl _) ?_
    repeat' (first | refine d1 ?_ | refine dd ?_ | (show ∀ _ : Nat, T _ _ _ _ _; intro _))
    refine T_loopX (fun k : Nat => [(30, .int .i64 k)]) (fun k => [blk b2 ((ownJ l r k).flatMap Tok.cells) 80, blk b3 ((thJ l r k).map Value.bool) 4, blk pc c.cells 23]) (fun k => k ≤ l.length) (fun k => l.length - k) 0 (Nat.zero_le _) ?_
    intro k hk
    repeat' (first | refine d1 ?_ | refine dd ?_ | (show ∀ _ : Nat, T _ _ _ _ _; intro _))
    refine T_if rfl (fun h => ?_) (fun h => ?_)
    · simp only [decide_eq_true_eq] at h
      have hkn : k < l.length := by omega
      obtain ⟨b1, o1, rfl⟩ := hsr.base (by omega)
      obtain ⟨b5, o5, rfl⟩ := hg.hs.base (by omega)
      obtain ⟨s, hs9, hsmem, hr9⟩ := hg.get hkn
      obtain ⟨z, hz⟩ : ∃ z, r[k]? = some z := ⟨_, List.getElem?_eq_getElem (by omega)⟩
      have hr1 := src_int hsr hkn hz
      obtain ⟨hz1, hz2⟩ := hco.2 k z s hz hs9
      have hsl := hg.ok.len s hsmem
      have hsn := hg.nb s hsmem
      have hzd : r.getD k (-1) = z := by rw [List.getD_eq_getElem?_getD, hz]; rfl
      repeat' (first | refine d1 ?_ | refine dd ?_ | (show ∀ _ : Nat, T _ _ _ _ _; intro _))
      refine T_if rfl (fun h1 => ?_) (fun h1 => ?_)
      · simp only [decide_eq_true_eq] at h1
        obtain ⟨b4, o4, hsA⟩ := (hg.ok.src s hsmem).base (by omega)
        have hsr2 : RdC w b4 (o4 + z.toNat * 6) (tkA s.l z.toNat).cells := (hsA ▸ hg.ok.src s hsmem : Src w 6 (some ⟨b4, o4, none⟩) s.n (s.l.flatMap Tok.cells)).getT (k := z.toNat) (by omega) (tkA_get (by omega))
        rw [hsA] at hr9
        repeat' (first | refine d1 ?_ | refine dd ?_ | (show T _ (.ops _ (_ :: _) :: _) _ _ _; first | refine T_op (OpT.storeA (us := (tkA s.l z.toNat).cells) rfl rfl rfl rfl rfl rfl (by rw [flatT_length, ownJ_len, show (tkA s.l z.toNat).cells.length = 6 from rfl]; omega) ?_) | refine T_op (OpT.store rfl rfl rfl rfl (by rw [List.length_map, thJ_len]; omega) ?_)) | (show ∀ _ : Nat, T _ _ _ _ _; intro _))
        refine T_backX (k + 1) (by omega) (by omega) (hG := ?_)
        have e1 := ownJ_tok (l := l) (col := r) hkn (by rw [hzd]; exact h1)
        have e2 := thJ_tok (l := l) (col := r) hkn (by rw [hzd]; exact h1)
        rw [hzd, tsA_eq hs9] at e1
        rw [← e1, ← e2, ← flatTok_set _ _ _ (by rw [ownJ_len]; exact hkn), List.map_set, show 0 + (k : Int).toNat * 6 = k * 6 by omega, show 0 + (k : Int).toNat * 1 = k by omega]
        exact Hle.refl _
      · simp only [decide_eq_false_iff_not] at h1
        repeat' (first | refine d1 ?_ | refine dd ?_ | (show ∀ _ : Nat, T _ _ _ _ _; intro _))
        exact T_backX (k + 1) (by omega) (by omega) (hG := by rw [ownJ_gap (by rw [hzd]; exact h1), thJ_gap (by rw [hzd]; exact h1)]; exact Hle.refl _)
    · simp only [decide_eq_false_iff_not] at h
      obtain rfl : k = l.length := by omega
      repeat' (first | refine d1 ?_ | refine dd ?_ | (show T _ (.ops _ (_ :: _) :: _) _ _ _; first | refine T_call rfl rfl rfl rfl rfl (fun w hw => columnPrg_spec c (some ⟨b2, 0, none⟩) (some ⟨b3, 0, none⟩) l.length l.length l.length l.length (ownJ l r l.length) (thJ l r l.length) w (hg.hst.cls hw) (Src.own hw (by rw [flatT_length, ownJ_len])) (ownJ_len _ _ _) (by omega) (Src.own hw (by rw [List.length_map, thJ_len, Nat.mul_one])) (thJ_len _ _ _) (by omega) (ownJ_small hg hco _)) ?_ | refine T_callC rfl rfl rfl rfl rfl rfl rfl (fun hg w hw => columnPrg_spec c (some ⟨b2, 0, none⟩) (some ⟨b3, 0, none⟩) l.length l.length l.length l.length (ownJ l r l.length) (thJ l r l.length) w (hg.hst.cls hw) (Src.own hw (by rw [flatT_length, ownJ_len])) (ownJ_len _ _ _) (by omega) (Src.own hw (by rw [List.length_map, thJ_len, Nat.mul_one])) (thJ_len _ _ _) (by omega) (ownJ_small hg hco _)) ?_) | (show T _ (.run _ _ (_ :: _) _ _ :: _) _ _ _; first | refine rc rfl rfl rfl rfl rfl rfl rfl (fun w hw => columnPrg_spec c (some ⟨b2, 0, none⟩) (some ⟨b3, 0, none⟩) l.length l.length l.length l.length (ownJ l r l.length) (thJ l r l.length) w (hg.hst.cls hw) (Src.own hw (by rw [flatT_length, ownJ_len])) (ownJ_len _ _ _) (by omega) (Src.own hw (by rw [List.length_map, thJ_len, Nat.mul_one])) (thJ_len _ _ _) (by omega) (ownJ_small hg hco _)) ?_ | refine rcG rfl rfl rfl rfl rfl rfl rfl rfl rfl (fun hg w hw => columnPrg_spec c (some ⟨b2, 0, none⟩) (some ⟨b3, 0, none⟩) l.length l.length l.length l.length (ownJ l r l.length) (thJ l r l.length) w (hg.hst.cls hw) (Src.own hw (by rw [flatT_length, ownJ_len])) (ownJ_len _ _ _) (by omega) (Src.own hw (by rw [List.length_map, thJ_len, Nat.mul_one])) (thJ_len _ _ _) (by omega) (ownJ_small hg hco _)) ?_) | (show ∀ _ : Nat, T _ _ _ _ _; intro _))
      rw [own_colV hg hc hbs hco]
      repeat' (first | refine d1 ?_ | refine dd ?_ | (show ∀ _ : Nat, T _ _ _ _ _; intro _))
      exact T_backX (i + 1) (by omega) (by omega) (hE := ⟨rfl, by rw [hs]; rfl, trivial⟩) (hG := Hle.nth 2 rfl)
  · simp only [decide_eq_false_iff_not] at h3
    obtain rfl : i = cols.length := by omega
    rw [List.take_of_length_le (Nat.le_refl _)]
    repeat' (first | refine d1 ?_ | refine dd ?_ | (show ∀ _ : Nat, T _ _ _ _ _; intro _) | (show T _ (.code .ret :: _) _ _ _; refine T_retV [] rfl (Hle.none _) ⟨rfl, rfl⟩))
end Go.Proofs.YtofikdpbagnjbaaGreatDoor
namespace Go.Proofs.YtofikdpbagnjbaaGreatDoor
open Go.RowKit Go.Shelf Go.Proofs
set_option maxRecDepth 100000
set_option maxHeartbeats 1000000

theorem fine21a_spec (t : Tok) (w : World) : Spec Tryz.prog 89 [t.val] w (fun v A => v = .bool (!decide (tokE t = 0)) ∧ A = []) := by
  refine spec_of sg Tryz.func89 rfl rfl rfl ?_
  repeat' (first | (show T _ (.ops _ (⟨_, .box _ _, _, _, _, _⟩ :: _) :: _) _ _ _; refine T_op (OpT.box (cs := t.cells) rfl rfl rfl rfl rfl rfl rfl (fun _ => ?_))) | refine d1 ?_ | refine dd ?_ | (show T _ (.ops _ (_ :: _) :: _) _ _ _; first | refine T_call rfl rfl rfl rfl rfl (fun w hw => tokRef_spec t w) ?_ | refine T_callC rfl rfl rfl rfl rfl rfl rfl (fun hg w hw => tokRef_spec t w) ?_) | (show T _ (.run _ _ (_ :: _) _ _ :: _) _ _ _; first | refine rc rfl rfl rfl rfl rfl rfl rfl (fun w hw => tokRef_spec t w) ?_ | refine rcG rfl rfl rfl rfl rfl rfl rfl rfl rfl (fun hg w hw => tokRef_spec t w) ?_) | (show ∀ _ : Nat, T _ _ _ _ _; intro _) | (show T _ (.code .ret :: _) _ _ _; refine T_retV [] rfl (Hle.none _) ⟨rfl, rfl⟩))
theorem fine21b_spec (A : Option Addr) (n c : Nat) (l : List Tok) (w : World) (hs : Src w 6 A n (l.flatMap Tok.cells)) (hn : l.length = n) (hb : n ≤ 9223372036854775807) :
    Spec Tryz.prog 87 [.slice A n c] w (fun v R => v = .bool (badL l) ∧ R = []) := by
  refine spec_of sg Tryz.func87 rfl rfl rfl ?_
  repeat' (first | refine d1 ?_ | refine dd ?_ | (show T _ (.ops _ (_ :: _) :: _) _ _ _; first | refine T_call rfl rfl rfl rfl rfl (fun w hw => containsFuncT_spec A n c l _ [] [] (fun t => !decide (tokE t = 0)) w (rdSrc hs w hw) hn hb (fun x hx w' hb' => fine21a_spec x w')) ?_ | refine T_callC rfl rfl rfl rfl rfl rfl rfl (fun hg w hw => containsFuncT_spec A n c l _ [] [] (fun t => !decide (tokE t = 0)) w (rdSrc hs w hw) hn hb (fun x hx w' hb' => fine21a_spec x w')) ?_) | (show T _ (.run _ _ (_ :: _) _ _ :: _) _ _ _; first | refine rc rfl rfl rfl rfl rfl rfl rfl (fun w hw => containsFuncT_spec A n c l _ [] [] (fun t => !decide (tokE t = 0)) w (rdSrc hs w hw) hn hb (fun x hx w' hb' => fine21a_spec x w')) ?_ | refine rcG rfl rfl rfl rfl rfl rfl rfl rfl rfl (fun hg w hw => containsFuncT_spec A n c l _ [] [] (fun t => !decide (tokE t = 0)) w (rdSrc hs w hw) hn hb (fun x hx w' hb' => fine21a_spec x w')) ?_) | (show ∀ _ : Nat, T _ _ _ _ _; intro _) | (show T _ (.code .ret :: _) _ _ _; refine T_retV [] rfl (Hle.none _) ⟨rfl, rfl⟩))
noncomputable def fineV (c : Costs) (l : List TS) : Bool := decide (costE c = 0) && !great21B l && !badS l
theorem fine21_spec (c : Costs) (A : Option Addr) (n ca : Nat) (l : List TS) (w : World) (hs : Src w 1 A n (l.map TS.val)) (hn : l.length = n) (hb : n ≤ 9223372036854775807) (hl : TsOk w l) :
    Spec Tryz.prog 29 [c.val, .slice A n ca] w (fun v R => v = .bool (fineV c l) ∧ R = []) := by
  refine spec_of sg Tryz.func29 rfl rfl rfl ?_
  repeat' (first | (show T _ (.ops _ (⟨_, .box _ _, _, _, _, _⟩ :: _) :: _) _ _ _; refine T_op (OpT.box (cs := c.cells) rfl rfl rfl rfl rfl rfl rfl (fun _ => ?_))) | refine d1 ?_ | refine dd ?_ | (show T _ (.ops _ (_ :: _) :: _) _ _ _; first | refine T_call rfl rfl rfl rfl rfl (fun w hw => costRef_spec c w) ?_ | refine T_callC rfl rfl rfl rfl rfl rfl rfl (fun hg w hw => costRef_spec c w) ?_ | refine T_call rfl rfl rfl rfl rfl (fun w hw => great21_spec A n ca l w (rdSrc hs w hw) hn hb ⟨fun t ht => src_below (hl.src t ht) hw.below, hl.len, hl.bd⟩) ?_ | refine T_callC rfl rfl rfl rfl rfl rfl rfl (fun hg w hw => great21_spec A n ca l w (rdSrc hs w hw) hn hb ⟨fun t ht => src_below (hl.src t ht) hw.below, hl.len, hl.bd⟩) ?_) | (show T _ (.run _ _ (_ :: _) _ _ :: _) _ _ _; first | refine rc rfl rfl rfl rfl rfl rfl rfl (fun w hw => costRef_spec c w) ?_ | refine rcG rfl rfl rfl rfl rfl rfl rfl rfl rfl (fun hg w hw => costRef_spec c w) ?_ | refine rc rfl rfl rfl rfl rfl rfl rfl (fun w hw => great21_spec A n ca l w (rdSrc hs w hw) hn hb ⟨fun t ht => src_below (hl.src t ht) hw.below, hl.len, hl.bd⟩) ?_ | refine rcG rfl rfl rfl rfl rfl rfl rfl rfl rfl (fun hg w hw => great21_spec A n ca l w (rdSrc hs w hw) hn hb ⟨fun t ht => src_below (hl.src t ht) hw.below, hl.len, hl.bd⟩) ?_) | (show ∀ _ : Nat, T _ _ _ _ _; intro _))
  refine T_if rfl (fun h => ?_) (fun h => ?_)
  · repeat' (first | refine d1 ?_ | refine dd ?_ | (show ∀ _ : Nat, T _ _ _ _ _; intro _) | (show T _ (.code .ret :: _) _ _ _; refine T_retV [] rfl (Hle.none _) ⟨congrArg Value.bool ?_, rfl⟩))
    unfold fineV
    by_cases hc : costE c = 0
    · simp [hc] at h; simp [h]
    · simp [hc]
  · repeat' (first | refine d1 ?_ | refine dd ?_ | (show T _ (.ops _ (_ :: _) :: _) _ _ _; first | refine T_call rfl rfl rfl rfl rfl (fun w hw => containsFuncS_spec A n ca l _ [] [] (fun t => badL t.l) w (rdSrc hs w hw) hn hb (fun x hx w' hb' => fine21b_spec x.A x.n x.cap x.l w' (src_below (hl.src x hx) (hw.below.trans (hb'.mono hw.below.size))) (hl.len x hx) (hl.bd x hx))) ?_ | refine T_callC rfl rfl rfl rfl rfl rfl rfl (fun hg w hw => containsFuncS_spec A n ca l _ [] [] (fun t => badL t.l) w (rdSrc hs w hw) hn hb (fun x hx w' hb' => fine21b_spec x.A x.n x.cap x.l w' (src_below (hl.src x hx) (hw.below.trans (hb'.mono hw.below.size))) (hl.len x hx) (hl.bd x hx))) ?_) | (show T _ (.run _ _ (_ :: _) _ _ :: _) _ _ _; first | refine rc rfl rfl rfl rfl rfl rfl rfl (fun w hw => containsFuncS_spec A n ca l _ [] [] (fun t => badL t.l) w (rdSrc hs w hw) hn hb (fun x hx w' hb' => fine21b_spec x.A x.n x.cap x.l w' (src_below (hl.src x hx) (hw.below.trans (hb'.mono hw.below.size))) (hl.len x hx) (hl.bd x hx))) ?_ | refine rcG rfl rfl rfl rfl rfl rfl rfl rfl rfl (fun hg w hw => containsFuncS_spec A n ca l _ [] [] (fun t => badL t.l) w (rdSrc hs w hw) hn hb (fun x hx w' hb' => fine21b_spec x.A x.n x.cap x.l w' (src_below (hl.src x hx) (hw.below.trans (hb'.mono hw.below.size))) (hl.len x hx) (hl.bd x hx))) ?_) | (show ∀ _ : Nat, T _ _ _ _ _; intro _) | (show T _ (.code .ret :: _) _ _ _; refine T_retV [] rfl (Hle.none _) ⟨congrArg Value.bool ?_, rfl⟩))
    unfold fineV badS
    by_cases hc : costE c = 0
    · simp [hc] at h; simp [hc, h]
    · exfalso; simp [hc] at h
theorem fineV_ok {c : Costs} {l : List TS} (h : fineV c l = true) : costE c = 0 ∧ great21B l = false ∧ badS l = false ∧ ck21 c l = 0 := by
  unfold fineV at h
  simp only [Bool.and_eq_true, Bool.not_eq_true', decide_eq_true_eq] at h
  exact ⟨h.1.1, h.1.2, h.2, if_pos ⟨h.1.1, h.2⟩⟩
end Go.Proofs.YtofikdpbagnjbaaGreatDoor
namespace Go.Proofs.YtofikdpbagnjbaaGreatDoor
open Go.RowKit Go.Shelf Go.Proofs
set_option maxRecDepth 100000
set_option maxHeartbeats 1000000

def greatC (cols : List (List Int)) : Bool := cols.any (fun r => decide (5 < r.length)) || decide (24 < cols.length)
theorem greatC_no {cols : List (List Int)} (h : greatC cols = false) : (∀ r ∈ cols, r.length ≤ 5) ∧ cols.length ≤ 24 := by
  unfold greatC at h
  rw [Bool.or_eq_false_iff, List.any_eq_false, decide_eq_false_iff_not] at h
  exact ⟨fun r hr => by have := h.1 r hr; simp at this; omega, by omega⟩
theorem greatC_spec (x : Value) (cols : List (List Int)) (w : World) (hx : Rd (wr w) [x] [rowsD cols]) : Spec Tryz.prog 37 [x] w (fun v R => v = .bool (greatC cols) ∧ R = []) := by
  obtain ⟨Ak, ck, csk, rfl, hck1, hck2, hcs, hrows⟩ := hx.tabS
  refine spec_of sg Tryz.func37 rfl rfl rfl ?_
  repeat' (first | refine d1 ?_ | refine dd ?_ | (show ∀ _ : Nat, T _ _ _ _ _; intro _))
  refine T_loopX (fun k : Nat => [(3, .int .i64 k)]) (fun _ => []) (fun k => k ≤ cols.length ∧ ∀ r ∈ cols.take k, r.length ≤ 5) (fun k => cols.length - k) 0 ⟨Nat.zero_le _, fun r h => by simp at h⟩ ?_
  rintro k ⟨hk, hok⟩
  repeat' (first | refine d1 ?_ | refine dd ?_ | (show ∀ _ : Nat, T _ _ _ _ _; intro _))
  refine T_if rfl (fun h => ?_) (fun h => ?_)
  · simp only [decide_eq_true_eq] at h
    have hkn : k < cols.length := by omega
    obtain ⟨b, o, rfl⟩ := hcs.base (by omega)
    obtain ⟨r, hr⟩ : ∃ r, cols[k]? = some r := ⟨_, List.getElem?_eq_getElem hkn⟩
    obtain ⟨Au, capu, hu, hcap1, hcap2, hA⟩ := hrows.tabRow hr
    have hr0 := rowHd hcs hkn hu
    have htk := take_snoc _ _ _ hr
    repeat' (first | refine d1 ?_ | refine dd ?_ | (show ∀ _ : Nat, T _ _ _ _ _; intro _))
    refine T_if rfl (fun h1 => ?_) (fun h1 => ?_)
    · simp only [decide_eq_true_eq] at h1
      repeat' (first | refine d1 ?_ | refine dd ?_ | (show ∀ _ : Nat, T _ _ _ _ _; intro _) | (show T _ (.code .ret :: _) _ _ _; refine T_retV [] rfl (Hle.none _) ⟨congrArg Value.bool ?_, rfl⟩))
      unfold greatC
      have h9 : (cols.any fun r => decide (5 < r.length)) = true := List.any_eq_true.2 ⟨r, List.mem_of_getElem? hr, by simp; omega⟩
      rw [h9]; rfl
    · simp only [decide_eq_false_iff_not] at h1
      repeat' (first | refine d1 ?_ | refine dd ?_ | (show ∀ _ : Nat, T _ _ _ _ _; intro _))
      refine T_backX (k + 1) ⟨by omega, fun y hy => ?_⟩ (by omega)
      rw [htk, List.mem_append, List.mem_singleton] at hy
      rcases hy with hy | rfl
      · exact hok y hy
      · omega
  · simp only [decide_eq_false_iff_not] at h
    obtain rfl : k = cols.length := by omega
    rw [List.take_of_length_le (Nat.le_refl _)] at hok
    repeat' (first | refine d1 ?_ | refine dd ?_ | (show ∀ _ : Nat, T _ _ _ _ _; intro _) | (show T _ (.code .ret :: _) _ _ _; refine T_retV [] rfl (Hle.none _) ⟨congrArg Value.bool ?_, rfl⟩))
    unfold greatC
    have h9 : (cols.any fun r => decide (5 < r.length)) = false := List.any_eq_false.2 fun r hr => by have := hok r hr; simp; omega
    rw [h9, Bool.false_or]
    by_cases h8 : 24 < cols.length
    · rw [decide_eq_true h8, decide_eq_true (by omega)]
    · rw [decide_eq_false h8, decide_eq_false (by omega)]
noncomputable def excV (c : Costs) (l : List TS) (cols : List (List Int)) : Int × Int :=
  if ck21 c l ≠ 0 then (0, ck21 c l) else if alV l cols ≠ 0 then (0, alV l cols) else if usV c l ≠ 0 then (0, usV c l) else (totZ c l cols - ssum (dstT c l) l.length l.length, 0)
theorem alV_ok {l : List TS} {cols : List (List Int)} (h0 : l.length ≠ 0) (h : alV l cols = 0) : ColsOk (lens l) cols := by
  unfold alV at h
  rw [if_neg (fun h9 => h0 h9.1)] at h
  by_cases h1 : chkC l cols = 0
  · exact Classical.byContradiction fun h9 => by rw [chkC_bad h0 h9] at h1; omega
  · rw [if_neg h1] at h; omega
theorem excess21_spec (c : Costs) (A : Option Addr) (n ca : Nat) (l : List TS) (x : Value) (cols : List (List Int)) (w : World) (hg : Grp w A n l) (hq : ∀ t ∈ l, t.n ≤ 100) (hx : Rd (wr w) [x] [rowsD cols]) (hsz : cols.length ≤ 100000) :
    Spec Tryz.prog 36 [c.val, .slice A n ca, x] w (fun v R => v = .tuple #[.int .i64 (excV c l cols).1, .int .i64 (excV c l cols).2] ∧ R = []) := by
  have hx0 := hx
  have hn := hg.hn
  have hb := hg.hb
  obtain ⟨Ak, ck, csk, rfl, hck1, hck2, hcs, hrows⟩ := hx.tabS
  refine spec_of sg Tryz.func36 rfl rfl rfl ?_
  refine T_op (OpT.box (cs := c.cells) rfl rfl rfl rfl rfl rfl rfl (fun pc => ?_))
  repeat' (first | refine d1 ?_ | refine dd ?_ | (show T _ (.ops _ (_ :: _) :: _) _ _ _; first | refine T_call rfl rfl rfl rfl rfl (fun w hw => check21_spec c A n ca l w (hg.cls hw)) ?_ | refine T_callC rfl rfl rfl rfl rfl rfl rfl (fun hg w hw => check21_spec c A n ca l w (hg.cls hw)) ?_) | (show T _ (.run _ _ (_ :: _) _ _ :: _) _ _ _; first | refine rc rfl rfl rfl rfl rfl rfl rfl (fun w hw => check21_spec c A n ca l w (hg.cls hw)) ?_ | refine rcG rfl rfl rfl rfl rfl rfl rfl rfl rfl (fun hg w hw => check21_spec c A n ca l w (hg.cls hw)) ?_) | (show ∀ _ : Nat, T _ _ _ _ _; intro _))
  refine T_if rfl (fun h => ?_) (fun h => ?_)
  · simp only [Bool.not_eq_true', decide_eq_false_iff_not] at h
    have e : excV c l cols = (0, ck21 c l) := if_pos h
    rw [e]
    repeat' (first | refine d1 ?_ | refine dd ?_ | (show ∀ _ : Nat, T _ _ _ _ _; intro _) | (show T _ (.code .ret :: _) _ _ _; refine T_retV [] rfl (Hle.none _) ⟨rfl, rfl⟩))
  simp only [Bool.not_eq_false', decide_eq_true_eq] at h
  repeat' (first | refine d1 ?_ | refine dd ?_ | (show T _ (.ops _ (_ :: _) :: _) _ _ _; first | refine T_call rfl rfl rfl rfl rfl (fun w hw => aligned21_spec A n ca l _ cols w (hg.cls hw) (hx0.old hw)) ?_ | refine T_callC rfl rfl rfl rfl rfl rfl rfl (fun hg w hw => aligned21_spec A n ca l _ cols w (hg.cls hw) (hx0.old hw)) ?_) | (show T _ (.run _ _ (_ :: _) _ _ :: _) _ _ _; first | refine rc rfl rfl rfl rfl rfl rfl rfl (fun w hw => aligned21_spec A n ca l _ cols w (hg.cls hw) (hx0.old hw)) ?_ | refine rcG rfl rfl rfl rfl rfl rfl rfl rfl rfl (fun hg w hw => aligned21_spec A n ca l _ cols w (hg.cls hw) (hx0.old hw)) ?_) | (show ∀ _ : Nat, T _ _ _ _ _; intro _))
  refine T_if rfl (fun h1 => ?_) (fun h1 => ?_)
  · simp only [Bool.not_eq_true', decide_eq_false_iff_not] at h1
    have e : excV c l cols = (0, alV l cols) := by unfold excV; rw [if_neg (by simpa using h), if_pos h1]
    rw [e]
    repeat' (first | refine d1 ?_ | refine dd ?_ | (show ∀ _ : Nat, T _ _ _ _ _; intro _) | (show T _ (.code .ret :: _) _ _ _; refine T_retV [] rfl (Hle.none _) ⟨rfl, rfl⟩))
  simp only [Bool.not_eq_false', decide_eq_true_eq] at h1
  repeat' (first | refine d1 ?_ | refine dd ?_ | (show T _ (.ops _ (_ :: _) :: _) _ _ _; first | refine T_call rfl rfl rfl rfl rfl (fun w hw => bound19_spec c A n ca l w (hg.cls hw) hq) ?_ | refine T_callC rfl rfl rfl rfl rfl rfl rfl (fun hg w hw => bound19_spec c A n ca l w (hg.cls hw) hq) ?_) | (show T _ (.run _ _ (_ :: _) _ _ :: _) _ _ _; first | refine rc rfl rfl rfl rfl rfl rfl rfl (fun w hw => bound19_spec c A n ca l w (hg.cls hw) hq) ?_ | refine rcG rfl rfl rfl rfl rfl rfl rfl rfl rfl (fun hg w hw => bound19_spec c A n ca l w (hg.cls hw) hq) ?_) | (show ∀ _ : Nat, T _ _ _ _ _; intro _))
  by_cases h2 : usV c l = 0
  · have eb : boundW c l = (ssum (dstT c l) l.length l.length, 0) := if_neg (by simpa using h2)
    have e : excV c l cols = (totZ c l cols - ssum (dstT c l) l.length l.length, 0) := by unfold excV; rw [if_neg (by simpa using h), if_neg (by simpa using h1), if_neg (by simpa using h2)]
    have h0 : l.length ≠ 0 := fun h9 => by unfold usV at h2; rw [if_pos h9] at h2; omega
    obtain ⟨hc, hbs⟩ := ck21_ok h
    have hok := alV_ok h0 h1
    have hbd := dstT_bd2 hc (l := l) (fun t ht => by rw [hg.ok.len t ht]; exact hq t ht)
    have s1 := ssum_bd (M := 200000) (by omega) hbd l.length l.length
    have s2 : (200000 * (l.length : Int)) * (l.length : Int) ≤ (200000 * 32) * 32 := Int.mul_le_mul (by omega) (by omega) (by omega) (by omega)
    have s3 := totZ_bd hc (l := l) (by omega) cols
    rw [eb, e]
    refine T_if rfl (fun h3 => by exfalso; simp at h3) (fun _ => ?_)
    repeat' (first | refine d1 ?_ | refine dd ?_ | (show T _ (.ops _ (_ :: _) :: _) _ _ _; first | refine T_call rfl rfl rfl rfl rfl (fun w hw => total21_spec c A n ca l _ cols w (hg.cls hw) hc hbs (hx0.old hw) (fun r hr => ColsOk.colOk (l := l) hok hr) hsz) ?_ | refine T_callC rfl rfl rfl rfl rfl rfl rfl (fun hg w hw => total21_spec c A n ca l _ cols w (hg.cls hw) hc hbs (hx0.old hw) (fun r hr => ColsOk.colOk (l := l) hok hr) hsz) ?_) | (show T _ (.run _ _ (_ :: _) _ _ :: _) _ _ _; first | refine rc rfl rfl rfl rfl rfl rfl rfl (fun w hw => total21_spec c A n ca l _ cols w (hg.cls hw) hc hbs (hx0.old hw) (fun r hr => ColsOk.colOk (l := l) hok hr) hsz) ?_ | refine rcG rfl rfl rfl rfl rfl rfl rfl rfl rfl (fun hg w hw => total21_spec c A n ca l _ cols w (hg.cls hw) hc hbs (hx0.old hw) (fun r hr => ColsOk.colOk (l := l) hok hr) hsz) ?_) | (show ∀ _ : Nat, T _ _ _ _ _; intro _) | (show T _ (.code .ret :: _) _ _ _; refine T_retV [] rfl (Hle.none _) ⟨rfl, rfl⟩))
  · have eb : boundW c l = (0, usV c l) := if_pos h2
    have e : excV c l cols = (0, usV c l) := by unfold excV; rw [if_neg (by simpa using h), if_neg (by simpa using h1), if_pos h2]
    rw [eb, e]
    refine T_if rfl (fun _ => ?_) (fun h3 => by exfalso; simp at h3; omega)
    repeat' (first | refine d1 ?_ | refine dd ?_ | (show ∀ _ : Nat, T _ _ _ _ _; intro _) | (show T _ (.code .ret :: _) _ _ _; refine T_retV [] rfl (Hle.none _) ⟨rfl, rfl⟩))
end Go.Proofs.YtofikdpbagnjbaaGreatDoor
