/- Joined texts of this claim, part 4. -/
import Derived.Test.YtofikdpbagnjbaaGreatDoorJ3
set_option linter.unusedVariables false
set_option linter.unusedSimpArgs false
namespace Go.Proofs.YtofikdpbagnjbaaGreatDoor
open Go.RowKit Go.Shelf Go.Proofs
set_option maxRecDepth 100000
set_option maxHeartbeats 1000000

def aln19 (c : Costs) (l : List TS) : List (List Int) × Int × Int :=
  if usV c l ≠ 0 then ([], 0, usV c l) else if 4 < l.length ∨ 65536 < volL (lens l) then ([], 0, 4) else (alnW c l, lstV c l, 0)
theorem usV_ok {c : Costs} {l : List TS} (h : usV c l = 0) : 1 ≤ l.length ∧ costE c = 0 ∧ badS l = false := by
  unfold usV at h
  by_cases h1 : l.length = 0
  · rw [if_pos h1] at h; omega
  · rw [if_neg h1] at h
    unfold ck21 at h
    by_cases h2 : costE c = 0 ∧ badS l = false
    · exact ⟨by omega, h2⟩
    · rw [if_neg h2] at h; omega
theorem rdAt {w : World} {b : Nat} {L : List Int} (h : RdC w b 0 (L.map (Value.int .i64))) {q off : Nat} {z : Int} (ho : off = q) (hz : L[q]? = some z) : RdC w b off [.int .i64 z] := by
  subst ho
  refine RdC.one ?_
  have := h off _ (by rw [List.getElem?_map, hz]; rfl)
  rw [Nat.zero_add] at this
  exact this
theorem stp_pos {ls m : List Nat} (h : m ≠ []) (hm : ∀ s ∈ m, s < ls.length) : 0 < (m.map (stpL ls)).sum := by
  cases m with
  | nil => exact absurd rfl h
  | cons s m =>
    have := stpL_pos (hm s (.head _))
    rw [List.map_cons, List.sum_cons]; omega
theorem numL_zero : ∀ (ls : List Nat) (n : Nat), numL ls (List.replicate n 0) = 0
  | [], n => by cases n <;> rfl
  | _ :: ls, 0 => rfl
  | _ :: ls, n + 1 => by
    show 0 * _ + numL ls (List.replicate n 0) = 0
    rw [numL_zero ls n]; simp
theorem align19_spec (c : Costs) (A : Option Addr) (n ca : Nat) (l : List TS) (w : World) (hg : Grp w A n l) :
    Spec Tryz.prog 57 [c.val, .slice A n ca] w (fun v R => ∃ x : Value, True ∧ v = .tuple #[x, .int .i64 (aln19 c l).2.1, .int .i64 (aln19 c l).2.2] ∧ R = [dat [x] [rowsD (aln19 c l).1]]) := by
  have hn := hg.hn
  have hll := lens_len l
  have hb := hg.hb
  refine spec_of sg Tryz.func57 rfl rfl rfl ?_
  refine T_op (OpT.box (cs := c.cells) rfl rfl rfl rfl rfl rfl rfl (fun pc => ?_))
  refine T_op (OpT.box (cs := [.slice A n ca]) rfl rfl rfl rfl rfl rfl rfl (fun pl => ?_))
  repeat' (first | refine d1 ?_ | refine dd ?_ | (show T _ (.ops _ (_ :: _) :: _) _ _ _; first | refine T_call rfl rfl rfl rfl rfl (fun w hw => usable19_spec c A n ca l w (hg.cls hw)) ?_ | refine T_callC rfl rfl rfl rfl rfl rfl rfl (fun hg w hw => usable19_spec c A n ca l w (hg.cls hw)) ?_) | (show T _ (.run _ _ (_ :: _) _ _ :: _) _ _ _; first | refine rc rfl rfl rfl rfl rfl rfl rfl (fun w hw => usable19_spec c A n ca l w (hg.cls hw)) ?_ | refine rcG rfl rfl rfl rfl rfl rfl rfl rfl rfl (fun hg w hw => usable19_spec c A n ca l w (hg.cls hw)) ?_) | (show ∀ _ : Nat, T _ _ _ _ _; intro _))
  refine T_if rfl (fun h => ?_) (fun h => ?_)
  · have h0 : usV c l ≠ 0 := by simpa using h
    unfold aln19
    rw [if_pos h0]
    repeat' (first | refine d1 ?_ | refine dd ?_ | (show ∀ _ : Nat, T _ _ _ _ _; intro _) | (show T _ (.code .ret :: _) _ _ _; refine T_retV _ rfl (nilC _ |>.trans (Hle.nth 0 rfl)) ⟨_, trivial, rfl, rfl⟩))
  have h0 : usV c l = 0 := by simpa using h
  obtain ⟨h1, hc, hbs⟩ := usV_ok h0
  repeat' (first | refine d1 ?_ | refine dd ?_ | (show ∀ _ : Nat, T _ _ _ _ _; intro _))
  refine T_callC rfl rfl rfl rfl rfl rfl rfl (fun _ w hw => size19_spec A n ca l 65536 w (hg.cls hw) ⟨by omega, by omega⟩) ?_
  repeat' (first | refine d1 ?_ | refine dd ?_ | (show ∀ _ : Nat, T _ _ _ _ _; intro _))
  refine T_if rfl (fun h2 => ?_) (fun h2 => ?_)
  · have hbig : 4 < l.length ∨ 65536 < volL (lens l) := by
      unfold capV at h2
      simp only [Bool.or_eq_true, decide_eq_true_eq] at h2
      split at h2 <;> omega
    unfold aln19
    rw [if_neg (by simpa using h0), if_pos hbig]
    repeat' (first | refine d1 ?_ | refine dd ?_ | (show ∀ _ : Nat, T _ _ _ _ _; intro _) | (show T _ (.code .ret :: _) _ _ _; refine T_retV _ rfl (nilC _ |>.trans (Hle.nth 0 rfl)) ⟨_, trivial, rfl, rfl⟩))
  have hsm : l.length ≤ 4 ∧ volL (lens l) ≤ 65536 := by
    unfold capV at h2
    simp only [Bool.or_eq_false_iff, decide_eq_false_iff_not] at h2
    split at h2 <;> omega
  have h4 : n ≤ 4 := by omega
  have hv := hsm.2
  have hv0 : volL ((lens l).drop 0) ≤ 65536 := hv
  have ha : aln19 c l = (alnW c l, lstV c l, 0) := by
    unfold aln19
    rw [if_neg (by simpa using h0), if_neg (by omega)]
  rw [ha]
  refine rsH [blk pl [.slice A n ca] 24, blk pc c.cells 23] 1000 [0, 2, 3, 1, 4, 5, 6] ?_
  repeat' (first | refine d1 ?_ | refine dd ?_ | (show T _ (.run _ _ (_ :: _) _ _ :: _) _ _ _; refine ro rfl rfl (OpT.call rfl rfl rfl rfl rfl (fun w hw => newGrid_spec A n ca l w (hg.cls hw) h4 hv) (fun u R hR => ?_))) | (show ∀ _ : Nat, T _ _ _ _ _; intro _))
  obtain ⟨pg, -, rfl, rfl⟩ := hR
  refine ⟨fun _ => Hle.tail _ _, ?_⟩
  show T _ _ _ _ (blk pg (gridL A n ca (lens l) 0) 130 :: blk pl [.slice A n ca] 24 :: blk pc c.cells 23 :: [])
  repeat' (first | refine d1 ?_ | refine dd ?_ | (show T _ (.run _ _ (_ :: _) _ _ :: _) _ _ _; refine ro rfl rfl (OpT.call rfl rfl rfl rfl rfl (fun w hw => moves19_spec (n : Int) w) (fun xm R hR => ?_))) | (show ∀ _ : Nat, T _ _ _ _ _; intro _))
  obtain ⟨_, -, rfl, rfl⟩ := hR
  refine ⟨fun _ => (Hle.tail _ _).trans (Hle.tail _ _), ?_⟩
  show T _ _ _ _ (dat [xm] [rowsD ((mvL n).map intN)] :: blk pg (gridL A n ca (lens l) 0) 130 :: blk pl [.slice A n ca] 24 :: blk pc c.cells 23 :: [])
  refine T_open fun pm hM => ?_
  obtain ⟨Am, cm, csm, rfl, -⟩ := hM.tab
  rw [List.length_map] at hM ⊢
  repeat' (first | refine d1 ?_ | refine dd ?_ | (show T _ (.ops _ (_ :: _) :: _) _ _ _; first | refine T_val rfl (Val.nilc rfl) rfl rfl rfl ?_ | refine T_valC rfl (Val.nilc rfl) rfl rfl rfl rfl rfl ?_ | refine T_op (OpT.make rfl rfl rfl rfl rfl rfl rfl rfl rfl (by dsimp only; omega) (fun b1 => ?_))) | (show T _ (.run _ _ (_ :: _) _ _ :: _) _ _ _; first | refine rv rfl rfl rfl (Val.nilc rfl) rfl rfl rfl ?_ | refine rg rfl rfl rfl (Val.nilc rfl) rfl rfl rfl rfl rfl ?_) | (show ∀ _ : Nat, T _ _ _ _ _; intro _))
  rename_i p10 p11
  obtain ⟨V, hV⟩ : ∃ V, V = volL (lens l) := ⟨_, rfl⟩
  have hVd : volL ((lens l).drop 0) = V := hV.symm
  have hVp : 0 < V := by rw [hV]; exact volL_pos _
  rw [hVd]
  have hall := num_all (lens l)
  rw [← hV] at hall hv
  have hself := at_num (InB.self (lens l))
  have hno := mvL_ok (show 1 ≤ n by omega) h4
  have hn4 : l.length ≤ 4 := by omega
  have hlsn : (lens l).length = n := by omega
  obtain ⟨F, hF⟩ : ∃ F : Nat → Int, F = fun q => rsV (colZ c l) (lens l) (mvL n) (atL (lens l) q) := ⟨_, rfl⟩
  have hFb : ∀ q, 0 ≤ F q ∧ F q ≤ 4096000000 := fun q => by rw [hF]; exact rsV_ub hc hn4 hg.nb _ _
  refine T_keep [(2, .pointer (some ⟨pc, 0, none⟩)), (3, .pointer (some ⟨pl, 0, none⟩)), (8, .pointer (some ⟨pg, 0, none⟩)), (9, .slice Am (mvL n).length cm), (10, .pointer (some ⟨p10, 0, none⟩)), (11, .pointer (some ⟨p11, 0, none⟩))] ⟨rfl, rfl, rfl, rfl, rfl, rfl, trivial⟩ ?_
  refine T_le (H' := blk p11 [.int .i64 (((V - 1 : Nat) : Int) - 1)] 3 :: blk p10 [.slice (some ⟨b1, 0, none⟩) V V] 27 :: blk b1 ((List.replicate V 0).map (Value.int .i64)) 3 :: fz pm :: blk pg (gridL A n ca (lens l) 0) 130 :: blk pl [.slice A n ca] 24 :: blk pc c.cells 23 :: []) ?_ ?_
  · rw [show ((V - 1 : Nat) : Int) - 1 = (V : Int) - 2 by omega, List.map_replicate]
    exact Hle.refl _
  show T (FC _ _ (([] : List Nat).map mkD) _ _ _) _ _ _ _
  refine T_loopDX (fun s : Nat × Nat × List Int × List Nat => [(11, .pointer (some ⟨s.2.1, 0, none⟩))]) (fun s => blk s.2.1 [.int .i64 ((s.1 : Int) - 1)] 3 :: blk p10 [.slice (some ⟨b1, 0, none⟩) V V] 27 :: blk b1 ((s.2.2.1).map (Value.int .i64)) 3 :: fz pm :: blk pg (gridL A n ca (lens l) 0) 130 :: blk pl [.slice A n ca] 24 :: blk pc c.cells 23 :: []) (fun s => s.2.2.2) (fun s => s.1 ≤ V - 1 ∧ s.2.2.1.length = V ∧ ∀ q, s.1 ≤ q → q < V → s.2.2.1[q]? = some (F q)) (fun s => s.1) (V - 1, p11, List.replicate V 0, []) ⟨Nat.le_refl _, by simp, fun q h5 h6 => ?_⟩ rfl ?_
  · dsimp only at h5
    rw [show q = V - 1 by omega, hF]
    dsimp only
    rw [show V - 1 = numL (lens l) (lens l) by omega, hself, rsV_end, List.getElem?_replicate, if_pos (by omega)]
  rintro ⟨r, q11, L, Dl⟩ ⟨hr, hL, hLF⟩
  dsimp only at hr hL hLF ⊢
  refine T_le (H' := blk q11 [.int .i64 ((r : Int) - 1)] 3 :: blk p10 [.slice (some ⟨b1, 0, none⟩) V V] 27 :: blk b1 ((L).map (Value.int .i64)) 3 :: fz pm :: blk pg (gridL A n ca (lens l) 0) 130 :: blk pl [.slice A n ca] 24 :: blk pc c.cells 23 :: dfrs Dl) (Hle.refl _) ?_
  have hLm : (L.map (Value.int .i64)).length = V := by rw [List.length_map, hL]
  rcases r with _ | p
  · repeat' (first | refine d1 ?_ | refine dd ?_ | (show ∀ _ : Nat, T _ _ _ _ _; intro _))
    refine T_if rfl (fun h5 => by exfalso; simp at h5) (fun _ => ?_)
    repeat' (first | refine d1 ?_ | refine dd ?_ | (show ∀ _ : Nat, T _ _ _ _ _; intro _))
    rename_i p15 p16
    have hz0 : numL (lens l) (List.replicate n 0) = 0 := numL_zero _ _
    refine T_keep [(2, .pointer (some ⟨pc, 0, none⟩)), (3, .pointer (some ⟨pl, 0, none⟩)), (8, .pointer (some ⟨pg, 0, none⟩)), (9, .slice Am (mvL n).length cm), (10, .pointer (some ⟨p10, 0, none⟩)), (15, .pointer (some ⟨p15, 0, none⟩)), (16, .pointer (some ⟨p16, 0, none⟩))] ⟨rfl, rfl, rfl, rfl, rfl, rfl, rfl, trivial⟩ ?_
    refine T_le (H' := blk p16 [.int .i64 ((0 : Nat) : Int)] 3 :: blk p15 [.slice none 0 0] 31 :: blk p10 [.slice (some ⟨b1, 0, none⟩) V V] 27 :: blk b1 (L.map (Value.int .i64)) 3 :: fz pm :: blk pg (gridL A n ca (lens l) 0) 130 :: blk pl [.slice A n ca] 24 :: blk pc c.cells 23 :: dfrs Dl) (Hle.drop3 _ _ _ _) ?_
    refine T_le (dat_nil _) ?_
    refine T_nilrow 27 1 ?_
    refine T_loopDX (fun s : List Nat × Nat × (Option Addr × Nat) × List Value × List (List Int) × List Nat => [(16, .pointer (some ⟨s.2.1, 0, none⟩))]) (fun s => blk s.2.1 [.int .i64 (numL (lens l) s.1 : Nat)] 3 :: blk p15 [.slice s.2.2.1.1 s.2.2.2.2.1.length s.2.2.1.2] 31 :: row 27 1 s.2.2.1.1 s.2.2.1.2 s.2.2.2.2.1.length s.2.2.2.1 :: dat s.2.2.2.1 (s.2.2.2.2.1.map intsD) :: blk p10 [.slice (some ⟨b1, 0, none⟩) V V] 27 :: blk b1 (L.map (Value.int .i64)) 3 :: fz pm :: blk pg (gridL A n ca (lens l) 0) 130 :: blk pl [.slice A n ca] 24 :: blk pc c.cells 23 :: []) (fun s => s.2.2.2.2.2) (fun s => InB (lens l) s.1 ∧ s.2.2.2.2.1.length ≤ sumL s.1 ∧ alnW c l = s.2.2.2.2.1 ++ (alV19 (colZ c l) (lens l) (mvL n) s.1)) (fun s => sumL (lens l) - sumL s.1) (List.replicate n 0, p16, (none, 0), [], [], Dl) ⟨by rw [← hlsn]; exact InB.zero _, Nat.zero_le _, by dsimp only; rw [List.nil_append, ← hn]; rfl⟩ rfl ?_ (hG := by dsimp only; rw [hz0]; exact Hle.srtT (A := [row 27 1 none 0 0 [], dat [] [], blk p16 [.int .i64 ((0 : Nat) : Int)] 3, blk p15 [.slice none 0 0] 31, blk p10 [.slice (some ⟨b1, 0, none⟩) V V] 27, blk b1 (L.map (Value.int .i64)) 3, fz pm, blk pg (gridL A n ca (lens l) 0) 130, blk pl [.slice A n ca] 24, blk pc c.cells 23]) (K := [blk p16 [.int .i64 ((0 : Nat) : Int)] 3, blk p15 [.slice none 0 0] 31, row 27 1 none 0 0 [], dat [] [], blk p10 [.slice (some ⟨b1, 0, none⟩) V V] 27, blk b1 (L.map (Value.int .i64)) 3, fz pm, blk pg (gridL A n ca (lens l) 0) 130, blk pl [.slice A n ca] 24, blk pc c.cells 23]) (dfrs Dl))
    rintro ⟨v, q16, ⟨Ao, capo⟩, hs, out, Dl⟩ ⟨hvi, hol, hout⟩
    dsimp only at hvi hol hout ⊢
    obtain ⟨p, hp⟩ : ∃ p, p = numL (lens l) v := ⟨_, rfl⟩
    have hat := at_num hvi
    have hpl := numL_lt hvi
    rw [← hp] at hat hpl ⊢
    rw [← hV] at hpl
    refine T_le (H' := blk q16 [.int .i64 (p : Nat)] 3 :: blk p15 [.slice Ao out.length capo] 31 :: row 27 1 Ao capo out.length hs :: dat hs (out.map intsD) :: blk p10 [.slice (some ⟨b1, 0, none⟩) V V] 27 :: blk b1 (L.map (Value.int .i64)) 3 :: fz pm :: blk pg (gridL A n ca (lens l) 0) 130 :: blk pl [.slice A n ca] 24 :: blk pc c.cells 23 :: dfrs Dl) (Hle.refl _) ?_
    have hg5 : ∀ w, RdC w pg 0 (gridL A n ca (lens l) 0) → RdC w pg (0 + 5) [.int .i64 (V : Nat)] := fun w h9 => RdC.one (by have := h9 5 _ (show (gridL A n ca (lens l) 0)[5]? = some (.int .i64 (V : Nat)) by rw [hV]; rfl); exact this)
    repeat' (first | refine d1 ?_ | refine dd ?_ | (show T _ (.ops _ (_ :: _) :: _) _ _ _; first | refine T_val rfl (Val.nilc rfl) rfl rfl rfl ?_ | refine T_valC rfl (Val.nilc rfl) rfl rfl rfl rfl rfl ?_ | refine T_val rfl (Val.load rfl (fun hg => (fun w hw => hg5 w (rdAll w hw)))) rfl rfl rfl ?_ | refine T_valC rfl (Val.load rfl (fun hg => (fun w hw => hg5 w (rdAll w hw)))) rfl rfl rfl rfl rfl ?_) | (show T _ (.run _ _ (_ :: _) _ _ :: _) _ _ _; first | refine rv rfl rfl rfl (Val.nilc rfl) rfl rfl rfl ?_ | refine rg rfl rfl rfl (Val.nilc rfl) rfl rfl rfl rfl rfl ?_ | refine rv rfl rfl rfl (Val.load rfl (fun hg => (fun w hw => hg5 w (rdAll w hw)))) rfl rfl rfl ?_ | refine rg rfl rfl rfl (Val.load rfl (fun hg => (fun w hw => hg5 w (rdAll w hw)))) rfl rfl rfl rfl rfl ?_) | (show ∀ _ : Nat, T _ _ _ _ _; intro _))
    refine T_if rfl (fun h5 => ?_) (fun h5 => ?_)
    · have hpV : p + 1 < V := by simp at h5; omega
      obtain rfl : v = atL (lens l) p := hat.symm
      repeat' (first | refine d1 ?_ | refine dd ?_ | (show T _ (.ops _ (_ :: _) :: _) _ _ _; first | refine T_val rfl (Val.nilc rfl) rfl rfl rfl ?_ | refine T_valC rfl (Val.nilc rfl) rfl rfl rfl rfl rfl ?_ | refine T_op (OpT.call rfl rfl rfl rfl rfl (fun w hw => moves19_fn pg p Am (mvL n).length cm w) (fun u R hR => ?_))) | (show T _ (.run _ _ (_ :: _) _ _ :: _) _ _ _; first | refine rv rfl rfl rfl (Val.nilc rfl) rfl rfl rfl ?_ | refine rg rfl rfl rfl (Val.nilc rfl) rfl rfl rfl rfl rfl ?_) | (show ∀ _ : Nat, T _ _ _ _ _; intro _))
      obtain ⟨⟨g1, g2, g3⟩, -, rfl, rfl⟩ := hR
      have hvl : (atL (lens l) p).length = l.length := by rw [atL_len, hll]
      have hne : (atL (lens l) p) ≠ lens l := fun e => by rw [e] at hp; omega
      have hsub := sumL_le hvi
      have hlen4 := sumL_lens hg.nb
      refine T_rangeO (moves_iter hg (by omega) h4 (by omega) (p := p) (by omega) pg g1 g2 g3 hM) rfl (fun j x B hj hQ => by obtain ⟨m, b, _, rfl, _⟩ := hQ; exact ⟨rfl, rfl⟩)
        (fun jj H => H = blk q16 [.int .i64 (p : Nat)] 3 :: blk p15 [.slice Ao out.length capo] 31 :: row 27 1 Ao capo out.length hs :: dat hs (out.map intsD) :: blk p10 [.slice (some ⟨b1, 0, none⟩) V V] 27 :: blk b1 (L.map (Value.int .i64)) 3 :: blk pl [.slice A n ca] 24 :: blk pc c.cells 23 :: dfrs Dl ∧ ∀ j' y, j' < jj → (posL (lens l) (atL (lens l) p) (mvL n))[j']? = some y → fitM (colZ c l) (lens l) (mvL n) (atL (lens l) p) y = false) (fun _ => False)
        (fun id H => id = 6 ∧ ∃ (m : List Nat) (x : Option Addr × Nat × Value), (mvL n).find? (fitM (colZ c l) (lens l) (mvL n) (atL (lens l) p)) = some m ∧ H = blk q16 [.int .i64 ((numL (lens l) (toM (atL (lens l) p) m)) : Nat)] 3 :: blk p15 [.slice x.1 (out.length + 1) x.2.1] 31 :: row 27 1 x.1 x.2.1 (out.length + 1) (hs ++ [x.2.2]) :: dat (hs ++ [x.2.2]) ((out ++ [colT (atL (lens l) p) m]).map intsD) :: blk p10 [.slice (some ⟨b1, 0, none⟩) V V] 27 :: blk b1 (L.map (Value.int .i64)) 3 :: blk pl [.slice A n ca] 24 :: blk pc c.cells 23 :: dfrs Dl) (blk q16 [.int .i64 (p : Nat)] 3 :: blk p15 [.slice Ao out.length capo] 31 :: row 27 1 Ao capo out.length hs :: dat hs (out.map intsD) :: blk p10 [.slice (some ⟨b1, 0, none⟩) V V] 27 :: blk b1 (L.map (Value.int .i64)) 3 :: blk pl [.slice A n ca] 24 :: blk pc c.cells 23 :: dfrs Dl) ⟨rfl, fun _ _ h => by omega⟩
        (Hle.srtT (A := [blk g2 [.int .i64 (p : Nat)] 3, blk g3 [.slice Am (mvL n).length cm] 31, blk g1 [.pointer (some ⟨pg, 0, none⟩)] 125, blk q16 [.int .i64 (p : Nat)] 3, blk p15 [.slice Ao out.length capo] 31, row 27 1 Ao capo out.length hs, dat hs (out.map intsD), blk p10 [.slice (some ⟨b1, 0, none⟩) V V] 27, blk b1 (L.map (Value.int .i64)) 3, fz pm, blk pg (gridL A n ca (lens l) 0) 130, blk pl [.slice A n ca] 24, blk pc c.cells 23]) (K := [blk g2 [.int .i64 (p : Nat)] 3, blk g3 [.slice Am (mvL n).length cm] 31, blk g1 [.pointer (some ⟨pg, 0, none⟩)] 125, blk pg (gridL A n ca (lens l) 0) 130, fz pm, blk q16 [.int .i64 (p : Nat)] 3, blk p15 [.slice Ao out.length capo] 31, row 27 1 Ao capo out.length hs, dat hs (out.map intsD), blk p10 [.slice (some ⟨b1, 0, none⟩) V V] 27, blk b1 (L.map (Value.int .i64)) 3, blk pl [.slice A n ca] 24, blk pc c.cells 23]) (dfrs Dl)) ?_ ?_ (fun _ _ h => h.elim) ?_
      · rintro Lp r5 jj x B Hj K2 hr5 hj hQ ⟨rfl, hnf⟩
        obtain ⟨m, b, hm, rfl, rfl⟩ := hQ
        obtain ⟨hmm, hpo⟩ := posL_mem (List.mem_of_getElem? hm)
        have hti := (toM_rem hno hlsn hvi hmm hpo).1
        have hqV := numL_lt hti
        rw [← hV] at hqV
        have hFq : F (numL (lens l) (toM (atL (lens l) p) m)) = rsV (colZ c l) (lens l) (mvL n) (toM (atL (lens l) p) m) := by rw [hF]; dsimp only; rw [at_num hti]
        have hFp : F p = rsV (colZ c l) (lens l) (mvL n) (atL (lens l) p) := by rw [hF]
        have hfit : fitM (colZ c l) (lens l) (mvL n) (atL (lens l) p) m = decide (colZ c l (colT (atL (lens l) p) m) + F (numL (lens l) (toM (atL (lens l) p) m)) = F p) := by
          rw [hFq, hFp]
          unfold fitM
          rw [hpo, Bool.true_and]; rfl
        obtain ⟨q, hq⟩ : ∃ q, q = (numL (lens l) (toM (atL (lens l) p) m)) := ⟨_, rfl⟩
        rw [← hq] at hqV hfit
        show T _ _ ((100, .int .i64 ((numL (lens l) (toM (atL (lens l) p) m)) : Nat)) :: (99, .slice (some ⟨b, 0, none⟩) n n) :: _) _ (lrec Lp r5 :: blk q16 [.int .i64 (p : Nat)] 3 :: blk p15 [.slice Ao out.length capo] 31 :: row 27 1 Ao capo out.length hs :: dat hs (out.map intsD) :: blk p10 [.slice (some ⟨b1, 0, none⟩) V V] 27 :: blk b1 (L.map (Value.int .i64)) 3 :: blk pl [.slice A n ca] 24 :: blk pc c.cells 23 :: (dfrs Dl ++ (row 3 1 (some ⟨b, 0, none⟩) n n ((colT (atL (lens l) p) m).map (Value.int .i64)) :: K2)))
        rw [← hq]
        repeat' (first | refine d1 ?_ | (show ∀ _ : Nat, T _ _ _ _ _; intro _) | (show T _ _ _ _ _; refine T_begin hr5 rfl ?_))
        refine T_le (H' := row 3 1 (some ⟨b, 0, none⟩) n n ((colT (atL (lens l) p) m).map (Value.int .i64)) :: lrec Lp (busy r5) :: blk q16 [.int .i64 (p : Nat)] 3 :: blk p15 [.slice Ao out.length capo] 31 :: row 27 1 Ao capo out.length hs :: dat hs (out.map intsD) :: blk p10 [.slice (some ⟨b1, 0, none⟩) V V] 27 :: blk b1 (L.map (Value.int .i64)) 3 :: blk pl [.slice A n ca] 24 :: blk pc c.cells 23 :: (dfrs Dl ++ K2)) (Hle.perm (List.perm_middle (l₁ := lrec Lp (busy r5) :: blk q16 [.int .i64 (p : Nat)] 3 :: blk p15 [.slice Ao out.length capo] 31 :: row 27 1 Ao capo out.length hs :: dat hs (out.map intsD) :: blk p10 [.slice (some ⟨b1, 0, none⟩) V V] 27 :: blk b1 (L.map (Value.int .i64)) 3 :: blk pl [.slice A n ca] 24 :: blk pc c.cells 23 :: dfrs Dl) (l₂ := K2))) ?_
        have hcq : ∀ w, RdC w b1 0 (L.map (Value.int .i64)) → RdC w b1 (0 + (q : Int).toNat * 1) [.int .i64 (F q)] := fun w h9 => rdAt h9 (by omega) (hLF q (by omega) (by omega))
        have hcp : ∀ w, RdC w b1 0 (L.map (Value.int .i64)) → RdC w b1 (0 + (p : Int).toNat * 1) [.int .i64 (F p)] := fun w h9 => rdAt h9 (by omega) (hLF p (by omega) (by omega))
        have hKb := colZ_bd hc (show l.length ≤ 32 by omega) (colT (atL (lens l) p) m)
        have hFq2 := hFb q
        refine rsH [row 3 1 (some ⟨b, 0, none⟩) n n ((colT (atL (lens l) p) m).map (Value.int .i64)), lrec Lp (busy r5), blk q16 [.int .i64 (p : Nat)] 3, blk p15 [.slice Ao out.length capo] 31, row 27 1 Ao capo out.length hs, dat hs (out.map intsD), blk p10 [.slice (some ⟨b1, 0, none⟩) V V] 27, blk b1 (L.map (Value.int .i64)) 3, blk pl [.slice A n ca] 24, blk pc c.cells 23] 1000 [0, 1, 2, 4, 5, 6, 7, 9, 10, 11, 12, 3, 8, 13] ?_
        repeat' (first | refine d1 ?_ | refine dd ?_ | (show T _ (.ops _ (_ :: _) :: _) _ _ _; first | refine T_call rfl rfl rfl rfl rfl (fun w hw => cost19_spec c A (some ⟨b, 0, none⟩) n ca n l (colT (atL (lens l) p) m) w (hg.cls hw) hc hbs (srcRw w hw) (colT_ok hvl (fun s hs => by rw [hn]; exact hno.lt m hmm s hs) hpo)) ?_ | refine T_callC rfl rfl rfl rfl rfl rfl rfl (fun hg w hw => cost19_spec c A (some ⟨b, 0, none⟩) n ca n l (colT (atL (lens l) p) m) w (hg.cls hw) hc hbs (srcRw w hw) (colT_ok hvl (fun s hs => by rw [hn]; exact hno.lt m hmm s hs) hpo)) ?_ | refine T_val rfl (Val.load rfl (fun hg => (fun w hw => hcq w (rdAll w hw)))) rfl rfl rfl ?_ | refine T_valC rfl (Val.load rfl (fun hg => (fun w hw => hcq w (rdAll w hw)))) rfl rfl rfl rfl rfl ?_ | refine T_val rfl (Val.load rfl (fun hg => (fun w hw => hcp w (rdAll w hw)))) rfl rfl rfl ?_ | refine T_valC rfl (Val.load rfl (fun hg => (fun w hw => hcp w (rdAll w hw)))) rfl rfl rfl rfl rfl ?_) | (show T _ (.run _ _ (_ :: _) _ _ :: _) _ _ _; first | refine rc rfl rfl rfl rfl rfl rfl rfl (fun w hw => cost19_spec c A (some ⟨b, 0, none⟩) n ca n l (colT (atL (lens l) p) m) w (hg.cls hw) hc hbs (srcRw w hw) (colT_ok hvl (fun s hs => by rw [hn]; exact hno.lt m hmm s hs) hpo)) ?_ | refine rcG rfl rfl rfl rfl rfl rfl rfl rfl rfl (fun hg w hw => cost19_spec c A (some ⟨b, 0, none⟩) n ca n l (colT (atL (lens l) p) m) w (hg.cls hw) hc hbs (srcRw w hw) (colT_ok hvl (fun s hs => by rw [hn]; exact hno.lt m hmm s hs) hpo)) ?_ | refine rv rfl rfl rfl (Val.load rfl (fun hg => (fun w hw => hcq w (rdAll w hw)))) rfl rfl rfl ?_ | refine rg rfl rfl rfl (Val.load rfl (fun hg => (fun w hw => hcq w (rdAll w hw)))) rfl rfl rfl rfl rfl ?_ | refine rv rfl rfl rfl (Val.load rfl (fun hg => (fun w hw => hcp w (rdAll w hw)))) rfl rfl rfl ?_ | refine rg rfl rfl rfl (Val.load rfl (fun hg => (fun w hw => hcp w (rdAll w hw)))) rfl rfl rfl rfl rfl ?_) | (show ∀ _ : Nat, T _ _ _ _ _; intro _))
        refine T_if rfl (fun h6 => ?_) (fun h6 => ?_)
        · rw [h6] at hfit
          have hf : (mvL n).find? (fitM (colZ c l) (lens l) (mvL n) (atL (lens l) p)) = some m := by rw [← find_posL]; exact find_at hm hfit hnf
          have hov : out.length ≤ 200000 := by omega
          repeat' (first | refine d1 ?_ | refine dd ?_ | (show T _ (.ops _ (_ :: _) :: _) _ _ _; refine T_op (OpT.append rfl rfl rfl rfl rfl rfl rfl rfl rfl rfl (fun w hw => Src.own hw rfl) rfl (by dsimp only; omega) (by omega) (fun A' cap' hA' => ?_))) | (show ∀ _ : Nat, T _ _ _ _ _; intro _))
          rename_i blit2
          show T _ (.code (.exit 6) :: _) _ _ _
          refine T_rexit (id := 6) (blk q16 [.int .i64 ((numL (lens l) (toM (atL (lens l) p) m)) : Nat)] 3 :: blk p15 [.slice A' (out.length + 1) cap'] 31 :: row 27 1 A' cap' (out.length + 1) (hs ++ [(.slice (some ⟨b, 0, none⟩) n n)]) :: dat (hs ++ [(.slice (some ⟨b, 0, none⟩) n n)]) ((out ++ [colT (atL (lens l) p) m]).map intsD) :: blk p10 [.slice (some ⟨b1, 0, none⟩) V V] 27 :: blk b1 (L.map (Value.int .i64)) 3 :: blk pl [.slice A n ca] 24 :: blk pc c.cells 23 :: dfrs Dl) (fun _ => rfl) ⟨rfl, m, (A', cap', (.slice (some ⟨b, 0, none⟩) n n)), hf, rfl⟩ ?_
          rw [← hq]
          refine (Hle.srtT (A := [blk blit2 _ _, row 3 1 (some ⟨b, 0, none⟩) n n ((colT (atL (lens l) p) m).map (Value.int .i64)), lrec Lp (busy r5), blk q16 [.int .i64 (q : Nat)] 3, blk p15 [.slice A' (out.length + 1) cap'] 31, row 27 1 A' cap' (out.length + 1) (hs ++ [(.slice (some ⟨b, 0, none⟩) n n)]), dat hs (out.map intsD), blk p10 [.slice (some ⟨b1, 0, none⟩) V V] 27, blk b1 (L.map (Value.int .i64)) 3, blk pl [.slice A n ca] 24, blk pc c.cells 23]) (K := [row 3 1 (some ⟨b, 0, none⟩) n n ((colT (atL (lens l) p) m).map (Value.int .i64)), dat hs (out.map intsD), lrec Lp (busy r5), blk q16 [.int .i64 (q : Nat)] 3, blk p15 [.slice A' (out.length + 1) cap'] 31, row 27 1 A' cap' (out.length + 1) (hs ++ [(.slice (some ⟨b, 0, none⟩) n n)]), blk p10 [.slice (some ⟨b1, 0, none⟩) V V] 27, blk b1 (L.map (Value.int .i64)) 3, blk pl [.slice A n ca] 24, blk pc c.cells 23]) (dfrs Dl ++ K2)).trans ?_
          refine dat_rowV.trans (dat_join.trans ?_)
          have ej : out.map intsD ++ [D.s 1 (((colT (atL (lens l) p) m).map (Value.int .i64)).map .v)] = (out ++ [colT (atL (lens l) p) m]).map intsD := by
            rw [List.map_append, List.map_map]; rfl
          rw [ej]
          exact Hle.perm ((List.perm_append_comm (l₁ := [_]) (l₂ := [_, _, _, _])).append_right (blk p10 [.slice (some ⟨b1, 0, none⟩) V V] 27 :: blk b1 (L.map (Value.int .i64)) 3 :: blk pl [.slice A n ca] 24 :: blk pc c.cells 23 :: (dfrs Dl ++ K2)))
        · rw [h6] at hfit
          refine T_next (blk q16 [.int .i64 (p : Nat)] 3 :: blk p15 [.slice Ao out.length capo] 31 :: row 27 1 Ao capo out.length hs :: dat hs (out.map intsD) :: blk p10 [.slice (some ⟨b1, 0, none⟩) V V] 27 :: blk b1 (L.map (Value.int .i64)) 3 :: blk pl [.slice A n ca] 24 :: blk pc c.cells 23 :: dfrs Dl) ⟨rfl, fun j' y hj hy => ?_⟩ (Hle.tail _ _)
          rcases Nat.lt_or_ge j' jj with h7 | h7
          · exact hnf j' y h7 hy
          · rw [show j' = jj by omega, hm] at hy
            cases hy
            exact hfit
      · rintro D Hn ⟨rfl, hnf⟩
        exfalso
        obtain ⟨m, hf, -⟩ := fit_some (K := colZ c l) (colZ_nn hc hn4) hno hlsn hvi hne
        rw [← find_posL] at hf
        have h7 := List.find?_some hf
        obtain ⟨j', hj', e9⟩ := List.getElem_of_mem (List.mem_of_find?_eq_some hf)
        have h8 := hnf j' m hj' (by rw [List.getElem?_eq_getElem hj', e9])
        rw [h8] at h7; cases h7
      · rintro D id Hx ⟨rfl, m, ⟨A', cap', hv9⟩, hf, rfl⟩
        dsimp only
        have h7 := List.find?_some hf
        unfold fitM at h7
        rw [Bool.and_eq_true] at h7
        obtain ⟨hti, hs1, hs2, hs3⟩ := toM_rem hno hlsn hvi (List.mem_of_find?_eq_some hf) h7.1
        have hstep := alV_step hno hlsn hvi hf
        show T (FC _ _ ((D :: Dl).map mkD) _ _ _) _ _ _ (dfr D :: blk g2 [.int .i64 (p : Nat)] 3 :: blk g3 [.slice Am (mvL n).length cm] 31 :: blk g1 [.pointer (some ⟨pg, 0, none⟩)] 125 :: blk pg (gridL A n ca (lens l) 0) 130 :: fz pm :: blk q16 [.int .i64 ((numL (lens l) (toM (atL (lens l) p) m)) : Nat)] 3 :: blk p15 [.slice A' (out.length + 1) cap'] 31 :: row 27 1 A' cap' (out.length + 1) (hs ++ [hv9]) :: dat (hs ++ [hv9]) ((out ++ [colT (atL (lens l) p) m]).map intsD) :: blk p10 [.slice (some ⟨b1, 0, none⟩) V V] 27 :: blk b1 (L.map (Value.int .i64)) 3 :: blk pl [.slice A n ca] 24 :: blk pc c.cells 23 :: dfrs Dl)
        repeat' (first | refine d1 ?_ | refine dd ?_ | (show ∀ _ : Nat, T _ _ _ _ _; intro _))
        rename_i n16
        show T _ (.mark _ :: _) _ _ _
        refine T_backD (toM (atL (lens l) p) m, n16, (A', cap'), hs ++ [hv9], out ++ [colT (atL (lens l) p) m], D :: Dl) ⟨hti, by dsimp only; rw [List.length_append]; simp; omega, by dsimp only; rw [hout, hstep, List.append_assoc]; rfl⟩ (by dsimp only; omega) rfl (hG := ?_)
        dsimp only
        rw [List.length_append]
        exact Hle.srtT (A := [blk n16 [.int .i64 ((numL (lens l) (toM (atL (lens l) p) m)) : Nat)] 3, dfr D, blk g2 [.int .i64 (p : Nat)] 3, blk g3 [.slice Am (mvL n).length cm] 31, blk g1 [.pointer (some ⟨pg, 0, none⟩)] 125, blk pg (gridL A n ca (lens l) 0) 130, fz pm, blk q16 [.int .i64 ((numL (lens l) (toM (atL (lens l) p) m)) : Nat)] 3, blk p15 [.slice A' (out.length + 1) cap'] 31, row 27 1 A' cap' (out.length + 1) (hs ++ [hv9]), dat (hs ++ [hv9]) ((out ++ [colT (atL (lens l) p) m]).map intsD), blk p10 [.slice (some ⟨b1, 0, none⟩) V V] 27, blk b1 (L.map (Value.int .i64)) 3, blk pl [.slice A n ca] 24, blk pc c.cells 23]) (K := [blk n16 [.int .i64 ((numL (lens l) (toM (atL (lens l) p) m)) : Nat)] 3, blk p15 [.slice A' (out.length + 1) cap'] 31, row 27 1 A' cap' (out.length + 1) (hs ++ [hv9]), dat (hs ++ [hv9]) ((out ++ [colT (atL (lens l) p) m]).map intsD), blk p10 [.slice (some ⟨b1, 0, none⟩) V V] 27, blk b1 (L.map (Value.int .i64)) 3, fz pm, blk pg (gridL A n ca (lens l) 0) 130, blk pl [.slice A n ca] 24, blk pc c.cells 23, dfr D]) (dfrs Dl)
    · have hpV : p + 1 = V := by simp at h5; omega
      obtain rfl : v = lens l := by rw [← hat, ← hself]; congr 1; omega
      rw [alV_end, List.append_nil] at hout
      subst hout
      have hF0 : F 0 = lstV c l := by
        rw [hF]
        dsimp only
        rw [show (0 : Nat) = numL (lens l) (List.replicate (lens l).length 0) from (numL_zero _ _).symm, at_num (InB.zero _), hll, ← hn]
        rfl
      have hc0 : ∀ w, RdC w b1 0 (L.map (Value.int .i64)) → RdC w b1 (0 + (0 : Int).toNat * 1) [.int .i64 (lstV c l)] := fun w h9 => rdAt (q := 0) h9 (by omega) (by rw [← hF0]; exact hLF 0 (Nat.zero_le _) hVp)
      repeat' (first | refine d1 ?_ | refine dd ?_ | (show T _ (.ops _ (_ :: _) :: _) _ _ _; first | refine T_val rfl (Val.load rfl (fun hg => (fun w hw => hc0 w (rdAll w hw)))) rfl rfl rfl ?_ | refine T_valC rfl (Val.load rfl (fun hg => (fun w hw => hc0 w (rdAll w hw)))) rfl rfl rfl rfl rfl ?_) | (show T _ (.run _ _ (_ :: _) _ _ :: _) _ _ _; first | refine rv rfl rfl rfl (Val.load rfl (fun hg => (fun w hw => hc0 w (rdAll w hw)))) rfl rfl rfl ?_ | refine rg rfl rfl rfl (Val.load rfl (fun hg => (fun w hw => hc0 w (rdAll w hw)))) rfl rfl rfl rfl rfl ?_) | (show ∀ _ : Nat, T _ _ _ _ _; intro _))
      refine T_retDs [dat [.slice Ao (alnW c l).length capo] [rowsD (alnW c l)]] ?_ (rf_V (vs := [.slice Ao (alnW c l).length capo, .int .i64 (lstV c l), .int .i64 0]) _ rfl (Hle.refl _) ⟨_, trivial, rfl, rfl⟩)
      refine (Hle.tail _ _).trans ((Hle.tail _ _).trans (dat_row.trans ?_))
      exact Hle.srtT (A := [dat [.slice Ao (alnW c l).length capo] [.s 1 ((alnW c l).map intsD)], _, _, _, _, _, _]) (K := [dat [.slice Ao (alnW c l).length capo] [.s 1 ((alnW c l).map intsD)]]) (dfrs Dl)
  · rw [show ((p + 1 : Nat) : Int) - 1 = (p : Nat) by omega]
    repeat' (first | refine d1 ?_ | refine dd ?_ | (show ∀ _ : Nat, T _ _ _ _ _; intro _))
    refine T_if rfl (fun _ => ?_) (fun h5 => by exfalso; simp at h5)
    repeat' (first | refine d1 ?_ | refine dd ?_ | (show T _ (.ops _ (_ :: _) :: _) _ _ _; first | refine T_val rfl (Val.nilc rfl) rfl rfl rfl ?_ | refine T_valC rfl (Val.nilc rfl) rfl rfl rfl rfl rfl ?_ | refine T_op (OpT.store rfl rfl rfl rfl (by rw [hLm]; omega) ?_) | refine T_op (OpT.call rfl rfl rfl rfl rfl (fun w hw => moves19_fn pg p Am (mvL n).length cm w) (fun u R hR => ?_))) | (show T _ (.run _ _ (_ :: _) _ _ :: _) _ _ _; first | refine rv rfl rfl rfl (Val.nilc rfl) rfl rfl rfl ?_ | refine rg rfl rfl rfl (Val.nilc rfl) rfl rfl rfl rfl rfl ?_) | (show ∀ _ : Nat, T _ _ _ _ _; intro _))
    obtain ⟨⟨g1, g2, g3⟩, -, rfl, rfl⟩ := hR
    have hpV : p + 1 < V := by omega
    have hvi := atL_in (lens l) p
    have hvl : (atL (lens l) p).length = l.length := by rw [atL_len, hll]
    have hvn := num_at (lens l) p (by omega)
    have hne : (atL (lens l) p) ≠ lens l := fun e => by rw [e] at hvn; omega
    have hstep := rsV_step (K := colZ c l) (colZ_nn hc hn4) hno hlsn hvi hne
    have hset : (L.map (Value.int .i64)).set (0 + (p : Int).toNat * 1) (.int .i64 (-1)) = (L.set p (foldB (possM (lens l) (atL (lens l) p)) (mcV (colZ c l) (lens l) (mvL n) (atL (lens l) p)) ((posL (lens l) (atL (lens l) p) (mvL n)).take 0) (-1))).map (Value.int .i64) := by
      rw [List.take_zero, List.map_set, show 0 + (p : Int).toNat * 1 = p by omega]; rfl
    rw [hset]
    refine T_rangeO (moves_iter hg (by omega) h4 (by omega) (p := p) (by omega) pg g1 g2 g3 hM) rfl (fun j x B hj hQ => by obtain ⟨m, b, _, rfl, _⟩ := hQ; exact ⟨rfl, rfl⟩)
      (fun jj H => H = blk q11 [.int .i64 ((p : Nat))] 3 :: blk p10 [.slice (some ⟨b1, 0, none⟩) V V] 27 :: blk b1 ((L.set p (foldB (possM (lens l) (atL (lens l) p)) (mcV (colZ c l) (lens l) (mvL n) (atL (lens l) p)) ((posL (lens l) (atL (lens l) p) (mvL n)).take jj) (-1))).map (Value.int .i64)) 3 :: blk pl [.slice A n ca] 24 :: blk pc c.cells 23 :: dfrs Dl) (fun _ => False) (fun _ _ => False) (blk q11 [.int .i64 ((p : Nat))] 3 :: blk p10 [.slice (some ⟨b1, 0, none⟩) V V] 27 :: blk b1 ((L.set p (foldB (possM (lens l) (atL (lens l) p)) (mcV (colZ c l) (lens l) (mvL n) (atL (lens l) p)) ((posL (lens l) (atL (lens l) p) (mvL n)).take 0) (-1))).map (Value.int .i64)) 3 :: blk pl [.slice A n ca] 24 :: blk pc c.cells 23 :: dfrs Dl) rfl
      (Hle.srtT (A := [blk g2 [.int .i64 (p : Nat)] 3, blk g3 [.slice Am (mvL n).length cm] 31, blk g1 [.pointer (some ⟨pg, 0, none⟩)] 125, blk q11 [.int .i64 ((p : Nat))] 3, blk p10 [.slice (some ⟨b1, 0, none⟩) V V] 27, blk b1 ((L.set p (foldB (possM (lens l) (atL (lens l) p)) (mcV (colZ c l) (lens l) (mvL n) (atL (lens l) p)) ((posL (lens l) (atL (lens l) p) (mvL n)).take 0) (-1))).map (Value.int .i64)) 3, fz pm, blk pg (gridL A n ca (lens l) 0) 130, blk pl [.slice A n ca] 24, blk pc c.cells 23]) (K := [blk g2 [.int .i64 (p : Nat)] 3, blk g3 [.slice Am (mvL n).length cm] 31, blk g1 [.pointer (some ⟨pg, 0, none⟩)] 125, blk pg (gridL A n ca (lens l) 0) 130, fz pm, blk q11 [.int .i64 ((p : Nat))] 3, blk p10 [.slice (some ⟨b1, 0, none⟩) V V] 27, blk b1 ((L.set p (foldB (possM (lens l) (atL (lens l) p)) (mcV (colZ c l) (lens l) (mvL n) (atL (lens l) p)) ((posL (lens l) (atL (lens l) p) (mvL n)).take 0) (-1))).map (Value.int .i64)) 3, blk pl [.slice A n ca] 24, blk pc c.cells 23]) (dfrs Dl)) ?_ ?_ (fun _ _ h => h.elim) (fun _ _ _ h => h.elim)
    · rintro Lp r5 jj x B Hj K2 hr5 hj hQ rfl
      obtain ⟨m, b, hm, rfl, rfl⟩ := hQ
      obtain ⟨hmm, hpo⟩ := posL_mem (List.mem_of_getElem? hm)
      have hti := (toM_rem hno hlsn hvi hmm hpo).1
      have hqV := numL_lt hti
      rw [← hV] at hqV
      have hqn := toM_num (lens l) m (atL (lens l) p) (by omega) (fun s hs => by rw [hvl, hn]; exact hno.lt m hmm s hs)
      have hqs := stp_pos (ls := lens l) (hno.ne m hmm) (fun s hs => by rw [hlsn]; exact hno.lt m hmm s hs)
      have hFq : F (numL (lens l) (toM (atL (lens l) p) m)) = rsV (colZ c l) (lens l) (mvL n) (toM (atL (lens l) p) m) := by rw [hF]; dsimp only; rw [at_num hti]
      obtain ⟨q, hq⟩ : ∃ q, q = (numL (lens l) (toM (atL (lens l) p) m)) := ⟨_, rfl⟩
      obtain ⟨X, hX⟩ : ∃ X, X = foldB (possM (lens l) (atL (lens l) p)) (mcV (colZ c l) (lens l) (mvL n) (atL (lens l) p)) ((posL (lens l) (atL (lens l) p) (mvL n)).take jj) (-1) := ⟨_, rfl⟩
      have hXs : foldB (possM (lens l) (atL (lens l) p)) (mcV (colZ c l) (lens l) (mvL n) (atL (lens l) p)) ((posL (lens l) (atL (lens l) p) (mvL n)).take (jj + 1)) (-1) = bst X (colZ c l (colT (atL (lens l) p) m) + F q) := by
        rw [take_snoc _ _ _ hm, foldB_app, ← hX, hq, hFq]
        show cond (possM (lens l) (atL (lens l) p) m) _ _ = _
        rw [hpo]; rfl
      rw [← hq] at hqV hqn hFq
      show T _ _ ((60, .int .i64 ((numL (lens l) (toM (atL (lens l) p) m)) : Nat)) :: (59, .slice (some ⟨b, 0, none⟩) n n) :: _) _ (lrec Lp r5 :: blk q11 [.int .i64 ((p : Nat))] 3 :: blk p10 [.slice (some ⟨b1, 0, none⟩) V V] 27 :: blk b1 ((L.set p (foldB (possM (lens l) (atL (lens l) p)) (mcV (colZ c l) (lens l) (mvL n) (atL (lens l) p)) ((posL (lens l) (atL (lens l) p) (mvL n)).take jj) (-1))).map (Value.int .i64)) 3 :: blk pl [.slice A n ca] 24 :: blk pc c.cells 23 :: (dfrs Dl ++ (row 3 1 (some ⟨b, 0, none⟩) n n ((colT (atL (lens l) p) m).map (Value.int .i64)) :: K2)))
      rw [← hX, ← hq]
      repeat' (first | refine d1 ?_ | (show ∀ _ : Nat, T _ _ _ _ _; intro _) | (show T _ _ _ _ _; refine T_begin hr5 rfl ?_))
      refine T_le (H' := row 3 1 (some ⟨b, 0, none⟩) n n ((colT (atL (lens l) p) m).map (Value.int .i64)) :: lrec Lp (busy r5) :: blk q11 [.int .i64 ((p : Nat))] 3 :: blk p10 [.slice (some ⟨b1, 0, none⟩) V V] 27 :: blk b1 ((L.set p X).map (Value.int .i64)) 3 :: blk pl [.slice A n ca] 24 :: blk pc c.cells 23 :: (dfrs Dl ++ K2)) (Hle.perm (List.perm_middle (l₁ := lrec Lp (busy r5) :: blk q11 [.int .i64 ((p : Nat))] 3 :: blk p10 [.slice (some ⟨b1, 0, none⟩) V V] 27 :: blk b1 ((L.set p X).map (Value.int .i64)) 3 :: blk pl [.slice A n ca] 24 :: blk pc c.cells 23 :: dfrs Dl) (l₂ := K2))) ?_
      have hLq : (L.set p X)[q]? = some (F q) := by rw [List.getElem?_set_ne (by omega)]; exact hLF q (by omega) (by omega)
      have hLp : (L.set p X)[p]? = some X := by rw [List.getElem?_set_self (by omega)]
      have hLl : ((L.set p X).map (Value.int .i64)).length = V := by rw [List.length_map, List.length_set, hL]
      have hcq : ∀ w, RdC w b1 0 ((L.set p X).map (Value.int .i64)) → RdC w b1 (0 + (q : Int).toNat * 1) [.int .i64 (F q)] := fun w h9 => rdAt h9 (by omega) hLq
      have hcp : ∀ w, RdC w b1 0 ((L.set p X).map (Value.int .i64)) → RdC w b1 (0 + (p : Int).toNat * 1) [.int .i64 X] := fun w h9 => rdAt h9 (by omega) hLp
      have hKb := colZ_bd hc (show l.length ≤ 32 by omega) (colT (atL (lens l) p) m)
      have hFq2 := hFb q
      refine rsH [row 3 1 (some ⟨b, 0, none⟩) n n ((colT (atL (lens l) p) m).map (Value.int .i64)), lrec Lp (busy r5), blk q11 [.int .i64 ((p : Nat))] 3, blk p10 [.slice (some ⟨b1, 0, none⟩) V V] 27, blk b1 ((L.set p X).map (Value.int .i64)) 3, blk pl [.slice A n ca] 24, blk pc c.cells 23] 1000 [0, 1, 2, 4, 5, 6, 7, 3, 8, 9] ?_
      repeat' (first | refine d1 ?_ | refine dd ?_ | (show T _ (.ops _ (_ :: _) :: _) _ _ _; first | refine T_call rfl rfl rfl rfl rfl (fun w hw => cost19_spec c A (some ⟨b, 0, none⟩) n ca n l (colT (atL (lens l) p) m) w (hg.cls hw) hc hbs (srcRw w hw) (colT_ok hvl (fun s hs => by rw [hn]; exact hno.lt m hmm s hs) hpo)) ?_ | refine T_callC rfl rfl rfl rfl rfl rfl rfl (fun hg w hw => cost19_spec c A (some ⟨b, 0, none⟩) n ca n l (colT (atL (lens l) p) m) w (hg.cls hw) hc hbs (srcRw w hw) (colT_ok hvl (fun s hs => by rw [hn]; exact hno.lt m hmm s hs) hpo)) ?_ | refine T_val rfl (Val.load rfl (fun hg => (fun w hw => hcq w (rdAll w hw)))) rfl rfl rfl ?_ | refine T_valC rfl (Val.load rfl (fun hg => (fun w hw => hcq w (rdAll w hw)))) rfl rfl rfl rfl rfl ?_ | refine T_val rfl (Val.load rfl (fun hg => (fun w hw => hcp w (rdAll w hw)))) rfl rfl rfl ?_ | refine T_valC rfl (Val.load rfl (fun hg => (fun w hw => hcp w (rdAll w hw)))) rfl rfl rfl rfl rfl ?_) | (show T _ (.run _ _ (_ :: _) _ _ :: _) _ _ _; first | refine rc rfl rfl rfl rfl rfl rfl rfl (fun w hw => cost19_spec c A (some ⟨b, 0, none⟩) n ca n l (colT (atL (lens l) p) m) w (hg.cls hw) hc hbs (srcRw w hw) (colT_ok hvl (fun s hs => by rw [hn]; exact hno.lt m hmm s hs) hpo)) ?_ | refine rcG rfl rfl rfl rfl rfl rfl rfl rfl rfl (fun hg w hw => cost19_spec c A (some ⟨b, 0, none⟩) n ca n l (colT (atL (lens l) p) m) w (hg.cls hw) hc hbs (srcRw w hw) (colT_ok hvl (fun s hs => by rw [hn]; exact hno.lt m hmm s hs) hpo)) ?_ | refine rv rfl rfl rfl (Val.load rfl (fun hg => (fun w hw => hcq w (rdAll w hw)))) rfl rfl rfl ?_ | refine rg rfl rfl rfl (Val.load rfl (fun hg => (fun w hw => hcq w (rdAll w hw)))) rfl rfl rfl rfl rfl ?_ | refine rv rfl rfl rfl (Val.load rfl (fun hg => (fun w hw => hcp w (rdAll w hw)))) rfl rfl rfl ?_ | refine rg rfl rfl rfl (Val.load rfl (fun hg => (fun w hw => hcp w (rdAll w hw)))) rfl rfl rfl rfl rfl ?_) | (show ∀ _ : Nat, T _ _ _ _ _; intro _))
      refine T_if rfl (fun h5 => ?_) (fun h5 => ?_)
      · have hbs9 : bst X (colZ c l (colT (atL (lens l) p) m) + F q) = colZ c l (colT (atL (lens l) p) m) + F q := by unfold bst; rw [if_pos (by simpa using h5)]
        repeat' (first | refine d1 ?_ | refine dd ?_ | (show T _ (.ops _ (_ :: _) :: _) _ _ _; refine T_op (OpT.store rfl rfl rfl rfl (by rw [hLl]; omega) ?_)) | (show ∀ _ : Nat, T _ _ _ _ _; intro _))
        have e9 : ((L.set p X).map (Value.int .i64)).set (0 + (p : Int).toNat * 1) (.int .i64 (colZ c l (colT (atL (lens l) p) m) + F q)) = (L.set p (colZ c l (colT (atL (lens l) p) m) + F q)).map (Value.int .i64) := by
          rw [show 0 + (p : Int).toNat * 1 = p by omega, ← List.map_set, List.set_set]
        rw [e9]
        refine T_next (blk q11 [.int .i64 ((p : Nat))] 3 :: blk p10 [.slice (some ⟨b1, 0, none⟩) V V] 27 :: blk b1 ((L.set p (foldB (possM (lens l) (atL (lens l) p)) (mcV (colZ c l) (lens l) (mvL n) (atL (lens l) p)) ((posL (lens l) (atL (lens l) p) (mvL n)).take (jj + 1)) (-1))).map (Value.int .i64)) 3 :: blk pl [.slice A n ca] 24 :: blk pc c.cells 23 :: dfrs Dl) rfl ?_
        rw [hXs, hbs9]
        exact Hle.tail _ _
      · have hbs9 : bst X (colZ c l (colT (atL (lens l) p) m) + F q) = X := by unfold bst; rw [if_neg (by simpa using h5)]
        refine T_next (blk q11 [.int .i64 ((p : Nat))] 3 :: blk p10 [.slice (some ⟨b1, 0, none⟩) V V] 27 :: blk b1 ((L.set p (foldB (possM (lens l) (atL (lens l) p)) (mcV (colZ c l) (lens l) (mvL n) (atL (lens l) p)) ((posL (lens l) (atL (lens l) p) (mvL n)).take (jj + 1)) (-1))).map (Value.int .i64)) 3 :: blk pl [.slice A n ca] 24 :: blk pc c.cells 23 :: dfrs Dl) rfl ?_
        rw [hXs, hbs9]
        exact Hle.tail _ _
    · rintro D Hn rfl
      have hFp : foldB (possM (lens l) (atL (lens l) p)) (mcV (colZ c l) (lens l) (mvL n) (atL (lens l) p)) ((posL (lens l) (atL (lens l) p) (mvL n)).take (posL (lens l) (atL (lens l) p) (mvL n)).length) (-1) = F p := by rw [List.take_length, foldB_posL, ← hstep, hF]
      rw [hFp]
      show T (FC _ _ ((D :: Dl).map mkD) _ _ _) _ _ _ (dfr D :: blk g2 [.int .i64 (p : Nat)] 3 :: blk g3 [.slice Am (mvL n).length cm] 31 :: blk g1 [.pointer (some ⟨pg, 0, none⟩)] 125 :: blk pg (gridL A n ca (lens l) 0) 130 :: fz pm :: blk q11 [.int .i64 ((p : Nat))] 3 :: blk p10 [.slice (some ⟨b1, 0, none⟩) V V] 27 :: blk b1 ((L.set p (F p)).map (Value.int .i64)) 3 :: blk pl [.slice A n ca] 24 :: blk pc c.cells 23 :: dfrs Dl)
      repeat' (first | refine d1 ?_ | refine dd ?_ | (show ∀ _ : Nat, T _ _ _ _ _; intro _))
      rename_i n11
      show T _ (.mark _ :: _) _ _ _
      refine T_backD (p, n11, L.set p (F p), D :: Dl) ⟨by dsimp only; omega, by dsimp only; rw [List.length_set, hL], fun q h5 h6 => ?_⟩ (by dsimp only; omega) rfl (hG := ?_)
      · dsimp only at h5 ⊢
        by_cases hqp : q = p
        · rw [hqp, List.getElem?_set_self (by omega)]
        · rw [List.getElem?_set_ne (by omega)]; exact hLF q (by omega) h6
      · dsimp only
        exact Hle.srtT (A := [blk n11 [.int .i64 ((p : Int) - 1)] 3, dfr D, blk g2 [.int .i64 (p : Nat)] 3, blk g3 [.slice Am (mvL n).length cm] 31, blk g1 [.pointer (some ⟨pg, 0, none⟩)] 125, blk pg (gridL A n ca (lens l) 0) 130, fz pm, blk q11 [.int .i64 ((p : Nat))] 3, blk p10 [.slice (some ⟨b1, 0, none⟩) V V] 27, blk b1 ((L.set p (F p)).map (Value.int .i64)) 3, blk pl [.slice A n ca] 24, blk pc c.cells 23]) (K := [blk n11 [.int .i64 ((p : Int) - 1)] 3, blk p10 [.slice (some ⟨b1, 0, none⟩) V V] 27, blk b1 ((L.set p (F p)).map (Value.int .i64)) 3, fz pm, blk pg (gridL A n ca (lens l) 0) 130, blk pl [.slice A n ca] 24, blk pc c.cells 23, dfr D]) (dfrs Dl)
end Go.Proofs.YtofikdpbagnjbaaGreatDoor
namespace Go.Proofs.YtofikdpbagnjbaaGreatDoor
open Go.RowKit Go.Shelf Go.Proofs
set_option maxRecDepth 100000
set_option maxHeartbeats 1000000

theorem sameCols19_spec (x y : Value) (a b : List (List Int)) (w : World) (hx : Rd (wr w) [x] [rowsD a]) (hy : Rd (wr w) [y] [rowsD b]) :
    Spec Tryz.prog 59 [x, y] w (fun v R => v = .bool (decide (a = b)) ∧ R = []) := by
  obtain ⟨A, ca, cs, rfl, ha1, ha2, hcs, hA, hrA⟩ := hx.tab
  obtain ⟨B, cb, ds, rfl, hb1, hb2, hds, hB, hrB⟩ := hy.tab
  refine spec_of sg Tryz.func59 rfl rfl rfl ?_
  repeat' (first | refine d1 ?_ | refine dd ?_ | (show ∀ _ : Nat, T _ _ _ _ _; intro _))
  refine T_if rfl (fun h => ?_) (fun h => ?_)
  · simp only [Bool.not_eq_true', decide_eq_false_iff_not] at h
    repeat' (first | refine d1 ?_ | refine dd ?_ | (show ∀ _ : Nat, T _ _ _ _ _; intro _) | (show T _ (.code .ret :: _) _ _ _; refine T_retV [] rfl (Hle.none _) ⟨?_, rfl⟩))
    rw [decide_eq_false (fun e => h (by rw [e]))]; rfl
  simp only [Bool.not_eq_false', decide_eq_true_eq] at h
  repeat' (first | refine d1 ?_ | refine dd ?_ | (show ∀ _ : Nat, T _ _ _ _ _; intro _))
  refine T_loopX (fun k : Nat => [(5, .int .i64 k)]) (fun _ => []) (fun k => k ≤ a.length ∧ ∀ j, j < k → a[j]? = b[j]?) (fun k => a.length - k) 0 ⟨by omega, fun j h => by omega⟩ ?_
  rintro k ⟨hk, hok⟩
  repeat' (first | refine d1 ?_ | refine dd ?_ | (show ∀ _ : Nat, T _ _ _ _ _; intro _))
  refine T_if rfl (fun h3 => ?_) (fun h3 => ?_)
  · simp only [decide_eq_true_eq] at h3
    obtain ⟨b1, o1, rfl, hA2⟩ := hA (by omega)
    obtain ⟨b2, o2, rfl, hB2⟩ := hB (by omega)
    obtain ⟨p, hp⟩ : ∃ u, a[k]? = some u := ⟨_, List.getElem?_eq_getElem (by omega)⟩
    obtain ⟨q, hq⟩ : ∃ v, b[k]? = some v := ⟨_, List.getElem?_eq_getElem (by omega)⟩
    obtain ⟨A', capA, hcA, hlA, hmA, hA3⟩ := hrA.tabRow hp
    obtain ⟨B', capB, hcB, hlB, hmB, hB3⟩ := hrB.tabRow hq
    have hr1 : RdC w b1 (o1 + (k : Int).toNat * 1) [.slice A' p.length capA] := RdC.one (by rw [off1]; exact hA2 k _ hcA)
    have hr2 : RdC w b2 (o2 + (k : Int).toNat * 1) [.slice B' q.length capB] := RdC.one (by rw [off1]; exact hB2 k _ hcB)
    repeat' (first | refine d1 ?_ | refine dd ?_ | (show ∀ _ : Nat, T _ _ _ _ _; intro _))
    refine T_if rfl (fun h4 => ?_) (fun h4 => ?_)
    · simp only [Bool.not_eq_true', decide_eq_false_iff_not] at h4
      repeat' (first | refine d1 ?_ | refine dd ?_ | (show ∀ _ : Nat, T _ _ _ _ _; intro _) | (show T _ (.code .ret :: _) _ _ _; refine T_retV [] rfl (Hle.none _) ⟨?_, rfl⟩))
      rw [decide_eq_false (fun e => h4 (by rw [e, hq] at hp; rw [Option.some.inj hp]))]; rfl
    simp only [Bool.not_eq_false', decide_eq_true_eq] at h4
    repeat' (first | refine d1 ?_ | refine dd ?_ | (show ∀ _ : Nat, T _ _ _ _ _; intro _))
    refine T_loopX (fun i : Nat => [(6, .int .i64 i)]) (fun _ => []) (fun i => i ≤ p.length ∧ ∀ j, j < i → p[j]? = q[j]?) (fun i => p.length - i) 0 ⟨by omega, fun j h => by omega⟩ ?_
    rintro i ⟨hi, hoki⟩
    repeat' (first | refine d1 ?_ | refine dd ?_ | (show ∀ _ : Nat, T _ _ _ _ _; intro _))
    refine T_if rfl (fun h5 => ?_) (fun h5 => ?_)
    · simp only [decide_eq_true_eq] at h5
      obtain ⟨b3, o3, rfl, hA4⟩ := hA3 (by omega)
      obtain ⟨b4, o4, rfl, hB4⟩ := hB3 (by omega)
      obtain ⟨u, hu⟩ : ∃ u, p[i]? = some u := ⟨_, List.getElem?_eq_getElem (by omega)⟩
      obtain ⟨v, hv⟩ : ∃ v, q[i]? = some v := ⟨_, List.getElem?_eq_getElem (by omega)⟩
      have hr3 : RdC w b3 (o3 + (i : Int).toNat * 1) [.int .i64 u] := RdC.one (by rw [off1]; exact hA4 i _ hu)
      have hr4 : RdC w b4 (o4 + (i : Int).toNat * 1) [.int .i64 v] := RdC.one (by rw [off1]; exact hB4 i _ hv)
      repeat' (first | refine d1 ?_ | refine dd ?_ | (show ∀ _ : Nat, T _ _ _ _ _; intro _))
      refine T_if rfl (fun h6 => ?_) (fun h6 => ?_)
      · simp only [Bool.not_eq_true', decide_eq_false_iff_not] at h6
        repeat' (first | refine d1 ?_ | refine dd ?_ | (show ∀ _ : Nat, T _ _ _ _ _; intro _) | (show T _ (.code .ret :: _) _ _ _; refine T_retV [] rfl (Hle.none _) ⟨?_, rfl⟩))
        rw [decide_eq_false (fun e => h6 (by rw [e, hq] at hp; rw [Option.some.inj hp, hu] at hv; exact Option.some.inj hv))]; rfl
      · simp only [Bool.not_eq_false', decide_eq_true_eq] at h6
        repeat' (first | refine d1 ?_ | refine dd ?_ | (show ∀ _ : Nat, T _ _ _ _ _; intro _))
        refine T_backX (i + 1) ⟨by omega, fun j hj => ?_⟩ (by omega)
        rcases Nat.lt_or_ge j i with h7 | h7
        · exact hoki j h7
        · rw [show j = i by omega, hu, hv, h6]
    · simp only [decide_eq_false_iff_not] at h5
      repeat' (first | refine d1 ?_ | refine dd ?_ | (show ∀ _ : Nat, T _ _ _ _ _; intro _))
      refine T_backX (k + 1) ⟨by omega, fun j hj => ?_⟩ (by omega)
      rcases Nat.lt_or_ge j k with h7 | h7
      · exact hok j h7
      · rw [show j = k by omega, hp, hq, list_eq_of (by omega) fun j hj => hoki j (by omega)]
  · simp only [decide_eq_false_iff_not] at h3
    repeat' (first | refine d1 ?_ | refine dd ?_ | (show ∀ _ : Nat, T _ _ _ _ _; intro _) | (show T _ (.code .ret :: _) _ _ _; refine T_retV [] rfl (Hle.none _) ⟨?_, rfl⟩))
    rw [decide_eq_true (list_eq_of (by omega) fun j hj => hok j (by omega))]; rfl
theorem words19_spec (A : Option Addr) (n ca : Nat) (l : List ByteArray) (w : World) (hs : Src w 1 A n (l.map Value.string)) (hn : l.length = n) (hnb : n ≤ 1000) :
    Spec Tryz.prog 118 [.slice A n ca] w (fun v R => ∃ x : Option Addr × Nat, True ∧ v = .slice x.1 n x.2 ∧ R = [row 80 6 x.1 x.2 n ((l.map tokS).flatMap Tok.cells)]) := by
  refine spec_of sg Tryz.func118 rfl rfl rfl ?_
  repeat' (first | refine d1 ?_ | refine dd ?_ | (show ∀ _ : Nat, T _ _ _ _ _; intro _))
  refine T_nilrow 80 6 ?_
  refine T_loopX (fun s : Nat × (Option Addr × Nat) => [(8, .int .i64 (s.1 : Nat)), (3, .slice s.2.1 s.1 s.2.2)]) (fun s => [row 80 6 s.2.1 s.2.2 s.1 (((l.take s.1).map tokS).flatMap Tok.cells)]) (fun s => s.1 ≤ n) (fun s => n - s.1) (0, (none, 0)) (Nat.zero_le _) ?_
  rintro ⟨k, ⟨A3, c3⟩⟩ hk
  dsimp only at hk ⊢
  repeat' (first | refine d1 ?_ | refine dd ?_ | (show ∀ _ : Nat, T _ _ _ _ _; intro _))
  refine T_if rfl (fun h => ?_) (fun h => ?_)
  · simp only [decide_eq_true_eq] at h
    obtain ⟨b, o, rfl⟩ := hs.base (by omega)
    obtain ⟨s, hsk⟩ : ∃ s, l[k]? = some s := ⟨_, List.getElem?_eq_getElem (by omega)⟩
    have hr : RdC w b (o + (k : Int).toNat * 1) [.string s] := by
      have h9 := (hs.get1 (i := k) (by omega) (by rw [List.getElem?_map, hsk]; rfl)).2
      rw [Nat.mul_one] at h9
      rw [off1]; exact h9
    repeat' (first | refine d1 ?_ | refine dd ?_ | (show T _ (.ops _ (_ :: _) :: _) _ _ _; refine T_op (OpT.append (A := A3) rfl rfl rfl rfl rfl rfl rfl rfl rfl rfl (fun w hw => Src.own hw rfl) rfl (by dsimp only; omega) (by omega) (fun A' cap' hA' => ?_))) | (show ∀ _ : Nat, T _ _ _ _ _; intro _))
    refine T_backX (k + 1, (A', cap')) (by dsimp only; omega) (by dsimp only; omega) (hG := ?_)
    dsimp only
    rw [take_snoc _ _ _ hsk, List.map_append, List.flatMap_append]
    exact Hle.tail _ _
  · simp only [decide_eq_false_iff_not] at h
    obtain rfl : k = n := by omega
    rw [← hn, List.take_length]
    repeat' (first | refine d1 ?_ | refine dd ?_ | (show ∀ _ : Nat, T _ _ _ _ _; intro _) | (show T _ (.code .ret :: _) _ _ _; refine T_retV _ rfl (Hle.refl _) ⟨(A3, c3), trivial, rfl, rfl⟩))
end Go.Proofs.YtofikdpbagnjbaaGreatDoor
namespace Go.Proofs.YtofikdpbagnjbaaGreatDoor
open Go.RowKit Go.Shelf Go.Proofs
set_option maxRecDepth 100000
set_option maxHeartbeats 1000000

def awS19 (x1 x2 x3 : Option Addr × Nat) : List TS := [⟨x1.1, 2, x1.2, [tokS sA, tokS sB]⟩, ⟨x2.1, 1, x2.2, [tokS sA]⟩, ⟨x3.1, 1, x3.2, [tokS sB]⟩]
theorem aln19_aw (x1 x2 x3 : Option Addr × Nat) : aln19 awC19 (awS19 x1 x2 x3) = ([[0, 0, -1], [1, -1, 0]], 16, 0) := by
  have e1 : usV awC19 (awS19 x1 x2 x3) = 0 := aw19U
  have e2 : lstV awC19 (awS19 x1 x2 x3) = 16 := aw19L
  have e3 : alnW awC19 (awS19 x1 x2 x3) = [[0, 0, -1], [1, -1, 0]] := aw19W
  unfold aln19
  rw [if_neg (by rw [e1]; simp), if_neg (by show ¬ (4 < 3 ∨ 65536 < volL [2, 1, 1]); decide), e2, e3]
theorem grp19_aw {w : World} (hst : Std w) {b : Nat} (x1 x2 x3 : Option Addr × Nat) (h0 : Src w 1 (some ⟨b, 0, none⟩) 3 ((awS19 x1 x2 x3).map TS.val)) (h1 : Src w 6 x1.1 2 ([tokS sA, tokS sB].flatMap Tok.cells)) (h2 : Src w 6 x2.1 1 ([tokS sA].flatMap Tok.cells)) (h3 : Src w 6 x3.1 1 ([tokS sB].flatMap Tok.cells)) : Grp w (some ⟨b, 0, none⟩) 3 (awS19 x1 x2 x3) :=
  ⟨hst, h0, rfl, by omega, ⟨List.forall_mem_cons.2 ⟨h1, List.forall_mem_cons.2 ⟨h2, List.forall_mem_cons.2 ⟨h3, fun t h => by cases h⟩⟩⟩, List.forall_mem_cons.2 ⟨rfl, List.forall_mem_cons.2 ⟨rfl, List.forall_mem_cons.2 ⟨rfl, fun t h => by cases h⟩⟩⟩, List.forall_mem_cons.2 ⟨Nat.le_of_ble_eq_true rfl, List.forall_mem_cons.2 ⟨Nat.le_of_ble_eq_true rfl, List.forall_mem_cons.2 ⟨Nat.le_of_ble_eq_true rfl, fun t h => by cases h⟩⟩⟩⟩,
      List.forall_mem_cons.2 ⟨Nat.le_of_ble_eq_true rfl, List.forall_mem_cons.2 ⟨Nat.le_of_ble_eq_true rfl, List.forall_mem_cons.2 ⟨Nat.le_of_ble_eq_true rfl, fun t h => by cases h⟩⟩⟩, List.forall_mem_cons.2 ⟨aw19s.1, List.forall_mem_cons.2 ⟨aw19s.2.1, List.forall_mem_cons.2 ⟨aw19s.2.2, fun t h => by cases h⟩⟩⟩⟩
theorem alignAw_spec (x1 x2 x3 : Option Addr × Nat) (b ca : Nat) (w : World) (hg : Grp w (some ⟨b, 0, none⟩) 3 (awS19 x1 x2 x3)) :
    Spec Tryz.prog 57 [awC19.val, .slice (some ⟨b, 0, none⟩) 3 ca] w (fun v R => ∃ x : Value, True ∧ v = .tuple #[x, .int .i64 16, .int .i64 0] ∧ R = [dat [x] [rowsD [[0, 0, -1], [1, -1, 0]]]]) := by
  have h := align19_spec awC19 (some ⟨b, 0, none⟩) 3 ca (awS19 x1 x2 x3) w hg
  rw [aln19_aw] at h
  exact h
theorem awake19_spec (w : World) (hst : Std w) : Spec Tryz.prog 56 [] w (fun v R => v = .bool true ∧ R = []) := by
  refine spec_of sg Tryz.func56 rfl rfl rfl ?_
  repeat' (first | refine d1 ?_ | (show ∀ _ : Nat, T _ _ _ _ _; intro _))
  rename_i pc
  refine T_le (H' := [blk pc awC19.cells 23]) (Hle.refl _) ?_
  refine T_cutX 1 [2, 3, 4] (fun x : Value => [(2, x), (3, .int .i64 16), (4, .int .i64 0)]) (fun x => [dat [x] [rowsD [[0, 0, -1], [1, -1, 0]]]]) (fun _ => True) ?_ ?_
  · refine dw0 1000 [blk pc awC19.cells 23] ?_
    repeat' (first | (show T _ (.draw _ _ _ _ _ :: _) _ _ _; first | refine dw1 ?_ | refine dwb rfl (by decide +kernel) ?_) | (show AllL _ []; exact True.intro) | (show AllL _ (_ :: _); refine ⟨?_, ?_⟩) | (show OpT _ _ _ _ _ _ _; first | refine dwx ?_ | refine OpT.litW rfl rfl rfl rfl rfl rfl rfl rfl rfl rfl rfl (fun b3 => ⟨fun _ => (by first | exact Hle.none _ | exact Hle.sub | exact absurd ‹_› (by decide +kernel)), ?_⟩) | refine OpT.callE1 rfl rfl rfl rfl rfl (fun w hw => words19_spec (some ⟨_, 0, none⟩) 2 2 [sA, sB] w (Src.own hw rfl) rfl (by omega)) (fun x1 _ => ⟨fun _ => (by first | exact Hle.none _ | exact Hle.sub | exact absurd ‹_› (by decide +kernel)), ?_⟩) | refine OpT.callE1 rfl rfl rfl rfl rfl (fun w hw => words19_spec (some ⟨_, 0, none⟩) 1 1 [sA] w (Src.own hw rfl) rfl (by omega)) (fun x2 _ => ⟨fun _ => (by first | exact Hle.none _ | exact Hle.sub | exact absurd ‹_› (by decide +kernel)), ?_⟩) | refine OpT.callE1 rfl rfl rfl rfl rfl (fun w hw => words19_spec (some ⟨_, 0, none⟩) 1 1 [sB] w (Src.own hw rfl) rfl (by omega)) (fun x3 _ => ⟨fun _ => (by first | exact Hle.none _ | exact Hle.sub | exact absurd ‹_› (by decide +kernel)), ?_⟩) | refine OpT.callE1 rfl rfl rfl rfl rfl (fun w hw => alignAw_spec x1 x2 x3 _ 3 w (grp19_aw (hst.cls hw) x1 x2 x3 (Src.own hw rfl) (srcRw w hw) (srcRw w hw) (srcRw w hw))) (fun x4 _ => ⟨fun _ => (by first | exact Hle.none _ | exact Hle.sub | exact absurd ‹_› (by decide +kernel)), ?_⟩)) | (show ∀ _ : Nat, T _ _ _ _ _; intro _) | (show T _ (.mark _ :: _) _ _ _; exact T_meetX x4 trivial (hG := Hle.nth 0 rfl)))
  rintro x -
  refine T_open fun q hq => ?_
  repeat' (first | refine d1 ?_ | refine dd ?_ | (show T _ (.ops _ (_ :: _) :: _) _ _ _; refine T_op (OpT.sure (p := true) rfl rfl rfl (OpT.litW rfl rfl rfl rfl rfl rfl rfl rfl rfl rfl rfl (fun _ => ?_)))) | (show ∀ _ : Nat, T _ _ _ _ _; intro _))
  rename_i c1 c2 c3
  refine T_le (H' := [blk c3 [.slice (some ⟨c1, 0, none⟩) 3 3, .slice (some ⟨c2, 0, none⟩) 3 3] 27, blk c2 [.int .i64 1, .int .i64 (-1), .int .i64 0] 3, blk c1 [.int .i64 0, .int .i64 0, .int .i64 (-1)] 3, fz q]) (Hle.refl _) ?_
  refine T_callC rfl rfl rfl rfl rfl rfl rfl (fun _ w hw => sameCols19_spec x _ [[0, 0, -1], [1, -1, 0]] [[0, 0, -1], [1, -1, 0]] w (hq.own hw) (rd_lit (n := 2) (Src.own (b := c3) hw rfl) (by omega) ((rd_ints (b := c1) (n := 3) (r := [0, 0, -1]) (Src.own hw rfl) (by omega)).append (rd_ints (b := c2) (n := 3) (r := [1, -1, 0]) (Src.own hw rfl) (by omega))))) ?_
  refine T_le (H' := []) (Hle.none _) ?_
  repeat' (first | refine d1 ?_ | refine dd ?_ | (show T _ (.ops _ (_ :: _) :: _) _ _ _; refine T_op (OpT.sure (p := true) rfl rfl rfl (OpT.call rfl rfl rfl rfl rfl (fun w hw => moves19_spec 2 w) (fun y R hR => ?_)))) | (show ∀ _ : Nat, T _ _ _ _ _; intro _))
  obtain ⟨_, -, rfl, rfl⟩ := hR
  refine T_le (H' := [dat [y] [rowsD [[0, 1], [0], [1]]]]) (Hle.refl _) ?_
  refine T_open fun q2 hq2 => ?_
  repeat' (first | refine d1 ?_ | refine dd ?_ | (show T _ (.ops _ (_ :: _) :: _) _ _ _; refine T_op (OpT.sure (p := true) rfl rfl rfl (OpT.litW rfl rfl rfl rfl rfl rfl rfl rfl rfl rfl rfl (fun _ => ?_)))) | (show ∀ _ : Nat, T _ _ _ _ _; intro _))
  rename_i f1 f2 f3 f4
  refine T_le (H' := [blk f4 [.slice (some ⟨f1, 0, none⟩) 2 2, .slice (some ⟨f2, 0, none⟩) 1 1, .slice (some ⟨f3, 0, none⟩) 1 1] 27, blk f3 [.int .i64 1] 3, blk f2 [.int .i64 0] 3, blk f1 [.int .i64 0, .int .i64 1] 3, fz q2]) (Hle.refl _) ?_
  refine T_callC rfl rfl rfl rfl rfl rfl rfl (fun _ w hw => sameCols19_spec y _ [[0, 1], [0], [1]] [[0, 1], [0], [1]] w (hq2.own hw) (rd_lit (n := 3) (Src.own (b := f4) hw rfl) (by omega) ((rd_ints (b := f1) (n := 2) (r := [0, 1]) (Src.own hw rfl) (by omega)).append ((rd_ints (b := f2) (n := 1) (r := [0]) (Src.own hw rfl) (by omega)).append (rd_ints (b := f3) (n := 1) (r := [1]) (Src.own hw rfl) (by omega)))))) ?_
  repeat' (first | refine d1 ?_ | refine dd ?_ | (show ∀ _ : Nat, T _ _ _ _ _; intro _) | (show T _ (.code .ret :: _) _ _ _; refine T_retV [] rfl (Hle.none _) ⟨rfl, rfl⟩))
end Go.Proofs.YtofikdpbagnjbaaGreatDoor
namespace Go.Proofs.YtofikdpbagnjbaaGreatDoor
open Go.RowKit Go.Shelf Go.Proofs
set_option maxRecDepth 100000
set_option maxHeartbeats 1000000

def long15 (s : ByteArray) : Bool := decide (12 < s.size ∧ s.size ≤ 64 ∨ 66 < s.size)
theorem long15_spec (s : ByteArray) (w : World) : Spec Tryz.prog 172 [.string s] w (fun v R => v = .bool (long15 s) ∧ R = []) := by
  refine spec_of sg Tryz.func172 rfl rfl rfl ?_
  repeat' (first | refine d1 ?_ | refine dd ?_ | (show ∀ _ : Nat, T _ _ _ _ _; intro _) | (show T _ (.code .ret :: _) _ _ _; refine T_retV [] rfl (Hle.none _) ⟨congrArg Value.bool ?_, rfl⟩))
  unfold long15
  rw [Bool.eq_iff_iff]
  simp
  omega
def long15T (t : Tok) : Bool := long15 t.text || long15 t.norm || long15 t.name || long15 t.page
theorem long15T_small {t : Tok} (h : long15T t = false) : t.small := by
  simp only [long15T, long15, Bool.or_eq_false_iff, decide_eq_false_iff_not] at h
  unfold Tok.small; omega
def great15B (l : List Tok) (m : Nat) : Bool := decide (m < l.length ∧ l.length ≤ 1024 ∨ 1026 < l.length) || l.any long15T
theorem great15_spec (A : Option Addr) (n ca : Nat) (l : List Tok) (m : Nat) (w : World) (hs : Src w 6 A n (l.flatMap Tok.cells)) (hn : l.length = n) (hb : n ≤ 9223372036854775807) (hm : m ≤ 1000) :
    Spec Tryz.prog 116 [.slice A n ca, .int .i64 (m : Nat)] w (fun v R => v = .bool (great15B l m) ∧ R = []) := by
  refine spec_of sg Tryz.func116 rfl rfl rfl ?_
  repeat' (first | refine d1 ?_ | refine dd ?_ | (show ∀ _ : Nat, T _ _ _ _ _; intro _))
  refine T_if rfl (fun h => ?_) (fun h => ?_)
  · have h9 : m < l.length ∧ l.length ≤ 1024 ∨ 1026 < l.length := by simp at h; omega
    repeat' (first | refine d1 ?_ | refine dd ?_ | (show ∀ _ : Nat, T _ _ _ _ _; intro _) | (show T _ (.code .ret :: _) _ _ _; refine T_retV [] rfl (Hle.none _) ⟨congrArg Value.bool ?_, rfl⟩))
    unfold great15B; rw [decide_eq_true h9]; rfl
  have h9 : ¬ (m < l.length ∧ l.length ≤ 1024 ∨ 1026 < l.length) := by simp at h; omega
  repeat' (first | refine d1 ?_ | refine dd ?_ | (show ∀ _ : Nat, T _ _ _ _ _; intro _))
  refine T_loopX (fun k : Nat => [(5, .int .i64 k)]) (fun _ => []) (fun k => k ≤ n ∧ ∀ j, j < k → long15T (tkA l j) = false) (fun k => n - k) 0 ⟨by omega, fun j h => by omega⟩ ?_
  rintro k ⟨hk, hok⟩
  repeat' (first | refine d1 ?_ | refine dd ?_ | (show ∀ _ : Nat, T _ _ _ _ _; intro _))
  refine T_if rfl (fun h => ?_) (fun h => ?_)
  · simp only [decide_eq_true_eq] at h
    obtain ⟨b, o, rfl⟩ := hs.base (by omega)
    have hr : RdC w b (o + (k : Int).toNat * 6) (tkA l k).cells := hs.getT (by omega) (tkA_get (by omega))
    repeat' (first | refine d1 ?_ | refine dd ?_ | (show T _ (.ops _ (_ :: _) :: _) _ _ _; first | refine T_call rfl rfl rfl rfl rfl (fun w hw => long15_spec (tkA l k).text w) ?_ | refine T_callC rfl rfl rfl rfl rfl rfl rfl (fun hg w hw => long15_spec (tkA l k).text w) ?_ | refine T_call rfl rfl rfl rfl rfl (fun w hw => long15_spec (tkA l k).norm w) ?_ | refine T_callC rfl rfl rfl rfl rfl rfl rfl (fun hg w hw => long15_spec (tkA l k).norm w) ?_ | refine T_call rfl rfl rfl rfl rfl (fun w hw => long15_spec (tkA l k).name w) ?_ | refine T_callC rfl rfl rfl rfl rfl rfl rfl (fun hg w hw => long15_spec (tkA l k).name w) ?_ | refine T_call rfl rfl rfl rfl rfl (fun w hw => long15_spec (tkA l k).page w) ?_ | refine T_callC rfl rfl rfl rfl rfl rfl rfl (fun hg w hw => long15_spec (tkA l k).page w) ?_) | (show T _ (.run _ _ (_ :: _) _ _ :: _) _ _ _; first | refine rc rfl rfl rfl rfl rfl rfl rfl (fun w hw => long15_spec (tkA l k).text w) ?_ | refine rcG rfl rfl rfl rfl rfl rfl rfl rfl rfl (fun hg w hw => long15_spec (tkA l k).text w) ?_ | refine rc rfl rfl rfl rfl rfl rfl rfl (fun w hw => long15_spec (tkA l k).norm w) ?_ | refine rcG rfl rfl rfl rfl rfl rfl rfl rfl rfl (fun hg w hw => long15_spec (tkA l k).norm w) ?_ | refine rc rfl rfl rfl rfl rfl rfl rfl (fun w hw => long15_spec (tkA l k).name w) ?_ | refine rcG rfl rfl rfl rfl rfl rfl rfl rfl rfl (fun hg w hw => long15_spec (tkA l k).name w) ?_ | refine rc rfl rfl rfl rfl rfl rfl rfl (fun w hw => long15_spec (tkA l k).page w) ?_ | refine rcG rfl rfl rfl rfl rfl rfl rfl rfl rfl (fun hg w hw => long15_spec (tkA l k).page w) ?_) | (show ∀ _ : Nat, T _ _ _ _ _; intro _))
    refine T_if rfl (fun h2 => ?_) (fun h2 => ?_)
    · repeat' (first | refine d1 ?_ | refine dd ?_ | (show ∀ _ : Nat, T _ _ _ _ _; intro _) | (show T _ (.code .ret :: _) _ _ _; refine T_retV [] rfl (Hle.none _) ⟨congrArg Value.bool ?_, rfl⟩))
      have h8 : long15T (tkA l k) = true := h2
      have : l.any long15T = true := List.any_eq_true.2 ⟨_, tkA_mem (by omega), h8⟩
      unfold great15B; rw [this, Bool.or_true]
    · repeat' (first | refine d1 ?_ | refine dd ?_ | (show ∀ _ : Nat, T _ _ _ _ _; intro _))
      refine T_backX (k + 1) ⟨by omega, fun j hj => ?_⟩ (by omega)
      rcases Nat.lt_or_ge j k with h3 | h3
      · exact hok j h3
      · rw [show j = k by omega]; exact h2
  · simp only [decide_eq_false_iff_not] at h
    have : l.any long15T = false := List.any_eq_false.2 fun t ht => by
      obtain ⟨i, hi, e⟩ := List.getElem_of_mem ht
      have h3 := hok i (by omega)
      have e2 := tkA_get hi
      rw [List.getElem?_eq_getElem hi, e] at e2
      rw [Option.some.inj e2, h3]; simp
    repeat' (first | refine d1 ?_ | refine dd ?_ | (show ∀ _ : Nat, T _ _ _ _ _; intro _) | (show T _ (.code .ret :: _) _ _ _; refine T_retV [] rfl (Hle.none _) ⟨congrArg Value.bool ?_, rfl⟩))
    unfold great15B; rw [this, decide_eq_false h9]; rfl
def great19B (l : List TS) (n m : Nat) : Bool := decide (n < l.length ∧ l.length ≤ 32 ∨ 34 < l.length) || l.any fun t => great15B t.l m
theorem great19_spec (A : Option Addr) (n c : Nat) (l : List TS) (q m : Nat) (w : World) (hs : Src w 1 A n (l.map TS.val)) (hn : l.length = n) (hb : n ≤ 9223372036854775807) (hl : TsOk w l) (hq : q ≤ 1000) (hm : m ≤ 1000) :
    Spec Tryz.prog 54 [.slice A n c, .int .i64 (q : Nat), .int .i64 (m : Nat)] w (fun v R => v = .bool (great19B l q m) ∧ R = []) := by
  refine spec_of sg Tryz.func54 rfl rfl rfl ?_
  repeat' (first | refine d1 ?_ | refine dd ?_ | (show ∀ _ : Nat, T _ _ _ _ _; intro _))
  refine T_if rfl (fun h => ?_) (fun h => ?_)
  · have h9 : q < l.length ∧ l.length ≤ 32 ∨ 34 < l.length := by simp at h; omega
    repeat' (first | refine d1 ?_ | refine dd ?_ | (show ∀ _ : Nat, T _ _ _ _ _; intro _) | (show T _ (.code .ret :: _) _ _ _; refine T_retV [] rfl (Hle.none _) ⟨congrArg Value.bool ?_, rfl⟩))
    unfold great19B; rw [decide_eq_true h9]; rfl
  have h9 : ¬ (q < l.length ∧ l.length ≤ 32 ∨ 34 < l.length) := by simp at h; omega
  repeat' (first | refine d1 ?_ | refine dd ?_ | (show ∀ _ : Nat, T _ _ _ _ _; intro _))
  refine T_loopX (fun k : Nat => [(7, .int .i64 k)]) (fun _ => []) (fun k => k ≤ n ∧ ∀ i x, i < k → l[i]? = some x → great15B x.l m = false) (fun k => n - k) 0 ⟨Nat.zero_le _, fun i x h => by omega⟩ ?_
  rintro k ⟨hk, hok⟩
  repeat' (first | refine d1 ?_ | refine dd ?_ | (show ∀ _ : Nat, T _ _ _ _ _; intro _))
  refine T_if rfl (fun h => ?_) (fun h => ?_)
  · simp only [decide_eq_true_eq] at h
    have hkn : k < n := by omega
    obtain ⟨b, o, rfl⟩ := hs.base (by omega)
    obtain ⟨t, ht⟩ : ∃ t, l[k]? = some t := ⟨_, List.getElem?_eq_getElem (by omega)⟩
    have htm := List.mem_of_getElem? ht
    have hr : RdC w b (o + (k : Int).toNat * 1) [.slice t.A t.n t.cap] := by
      have h9 := (hs.get1 (i := k) hkn (by rw [List.getElem?_map, ht]; rfl)).2
      rw [Nat.mul_one] at h9
      rw [off1]
      exact h9
    repeat' (first | refine d1 ?_ | refine dd ?_ | (show T _ (.ops _ (_ :: _) :: _) _ _ _; first | refine T_call rfl rfl rfl rfl rfl (fun w hw => great15_spec t.A t.n t.cap t.l m w (rdSrc (hl.src t htm) w hw) (hl.len t htm) (hl.bd t htm) hm) ?_ | refine T_callC rfl rfl rfl rfl rfl rfl rfl (fun hg w hw => great15_spec t.A t.n t.cap t.l m w (rdSrc (hl.src t htm) w hw) (hl.len t htm) (hl.bd t htm) hm) ?_) | (show T _ (.run _ _ (_ :: _) _ _ :: _) _ _ _; first | refine rc rfl rfl rfl rfl rfl rfl rfl (fun w hw => great15_spec t.A t.n t.cap t.l m w (rdSrc (hl.src t htm) w hw) (hl.len t htm) (hl.bd t htm) hm) ?_ | refine rcG rfl rfl rfl rfl rfl rfl rfl rfl rfl (fun hg w hw => great15_spec t.A t.n t.cap t.l m w (rdSrc (hl.src t htm) w hw) (hl.len t htm) (hl.bd t htm) hm) ?_) | (show ∀ _ : Nat, T _ _ _ _ _; intro _))
    refine T_if rfl (fun h1 => ?_) (fun h1 => ?_)
    · repeat' (first | refine d1 ?_ | refine dd ?_ | (show ∀ _ : Nat, T _ _ _ _ _; intro _) | (show T _ (.code .ret :: _) _ _ _; refine T_retV [] rfl (Hle.refl _) ⟨congrArg Value.bool ?_, rfl⟩))
      unfold great19B
      rw [List.any_eq_true.2 ⟨t, htm, h1⟩, Bool.or_true]
    · repeat' (first | refine d1 ?_ | refine dd ?_ | (show ∀ _ : Nat, T _ _ _ _ _; intro _))
      refine T_backX (k + 1) ⟨by omega, fun i y hi hy => ?_⟩ (by omega)
      rcases Nat.lt_or_ge i k with h2 | h2
      · exact hok i y h2 hy
      · rw [show i = k by omega, ht] at hy
        cases hy
        exact h1
  · simp only [decide_eq_false_iff_not] at h
    repeat' (first | refine d1 ?_ | refine dd ?_ | (show ∀ _ : Nat, T _ _ _ _ _; intro _) | (show T _ (.code .ret :: _) _ _ _; refine T_retV [] rfl (Hle.refl _) ⟨congrArg Value.bool ?_, rfl⟩))
    have e : (l.any fun t => great15B t.l m) = false := List.any_eq_false.2 fun t ht => by
      obtain ⟨i, hi, e⟩ := List.getElem_of_mem ht
      rw [Bool.not_eq_true]
      exact hok i t (by omega) (by rw [List.getElem?_eq_getElem hi, e])
    unfold great19B
    rw [e, decide_eq_false h9]; rfl
theorem great19_no {w : World} {l : List TS} (hl : TsOk w l) {n m : Nat} (h : great19B l n m = false) : (l.length ≤ n ∨ 32 < l.length ∧ l.length ≤ 34) ∧ (∀ t ∈ l, t.n ≤ m ∨ 1024 < t.n ∧ t.n ≤ 1026) ∧ ∀ t ∈ l, ∀ x ∈ t.l, x.small := by
  unfold great19B at h
  rw [Bool.or_eq_false_iff, decide_eq_false_iff_not, List.any_eq_false] at h
  refine ⟨by omega, fun t ht => ?_, fun t ht x hx => ?_⟩
  · have h1 := h.2 t ht
    have h2 := hl.len t ht
    rw [Bool.not_eq_true] at h1
    unfold great15B at h1
    rw [Bool.or_eq_false_iff, decide_eq_false_iff_not] at h1
    omega
  · have h1 := h.2 t ht
    rw [Bool.not_eq_true] at h1
    unfold great15B at h1
    rw [Bool.or_eq_false_iff, List.any_eq_false] at h1
    exact long15T_small (by simpa using h1.2 x hx)
def sizV : Nat → List Nat → Nat
  | a, [] => a
  | a, n :: ls => if 1073741824 < a * (n + 1) then a * (n + 1) else sizV (a * (n + 1)) ls
theorem sizV_cons (a n : Nat) (ls : List Nat) : sizV a (n :: ls) = if 1073741824 < a * (n + 1) then a * (n + 1) else sizV (a * (n + 1)) ls := rfl
theorem sizV_small : ∀ (ls : List Nat) (a : Nat), a * volL ls ≤ 1073741824 → sizV a ls = a * volL ls
  | [], a, _ => (Nat.mul_one a).symm
  | n :: ls, a, h => by
    have h1 : volL (n :: ls) = (n + 1) * volL ls := rfl
    rw [h1, ← Nat.mul_assoc] at h ⊢
    have h2 := Nat.le_mul_of_pos_right (a * (n + 1)) (volL_pos ls)
    unfold sizV
    rw [if_neg (by omega)]
    exact sizV_small ls _ h
theorem sizV_great : ∀ (ls : List Nat) (a : Nat), 1073741824 < a * volL ls → 1073741824 < sizV a ls
  | [], a, h => by have : a * volL [] = a := Nat.mul_one a; rw [this] at h; exact h
  | n :: ls, a, h => by
    have h1 : volL (n :: ls) = (n + 1) * volL ls := rfl
    rw [h1, ← Nat.mul_assoc] at h
    unfold sizV
    split
    · assumption
    · exact sizV_great ls _ h
theorem size19R_spec (A : Option Addr) (n ca : Nat) (l : List TS) (w : World) (hs : Src w 1 A n (l.map TS.val)) (hn : l.length = n) (hb : n ≤ 34) (hq : ∀ t ∈ l, t.n ≤ 1026) :
    Spec Tryz.prog 117 [.slice A n ca] w (fun v R => v = .int .i64 (sizV 1 (lens l) : Nat) ∧ R = []) := by
  have hll := lens_len l
  refine spec_of sg Tryz.func117 rfl rfl rfl ?_
  repeat' (first | refine d1 ?_ | refine dd ?_ | (show ∀ _ : Nat, T _ _ _ _ _; intro _))
  refine T_loopX (fun s : Nat × Nat => [(4, .int .i64 (s.1 : Nat)), (3, .int .i64 (s.2 : Nat))]) (fun _ => []) (fun s => s.1 ≤ n ∧ s.2 ≤ 1073741824 ∧ sizV s.2 ((lens l).drop s.1) = sizV 1 (lens l)) (fun s => n - s.1) (0, 1) ⟨Nat.zero_le _, by decide, rfl⟩ ?_
  rintro ⟨k, a⟩ ⟨hk, ha, hv⟩
  dsimp only at hk ha hv ⊢
  repeat' (first | refine d1 ?_ | refine dd ?_ | (show ∀ _ : Nat, T _ _ _ _ _; intro _))
  refine T_if rfl (fun h => ?_) (fun h => ?_)
  · simp only [decide_eq_true_eq] at h
    have hkn : k < n := by omega
    obtain ⟨b, o, rfl⟩ := hs.base (by omega)
    obtain ⟨t, ht⟩ : ∃ t, l[k]? = some t := ⟨_, List.getElem?_eq_getElem (by omega)⟩
    have htq := hq t (List.mem_of_getElem? ht)
    have hr : RdC w b (o + (k : Int).toNat * 1) [.slice t.A t.n t.cap] := by
      have h9 := (hs.get1 (i := k) hkn (by rw [List.getElem?_map, ht]; rfl)).2
      rw [Nat.mul_one] at h9
      rw [off1]
      exact h9
    have hd : (lens l).drop k = t.n :: (lens l).drop (k + 1) := by
      obtain ⟨h1, e⟩ := List.getElem?_eq_some_iff.1 (lens_get ht)
      rw [List.drop_eq_getElem_cons h1, e]
    have e : (a : Int) * ((t.n : Int) + 1) = ((a * (t.n + 1) : Nat) : Int) := by simp
    have hbd : a * (t.n + 1) ≤ 1073741824 * 1027 := Nat.mul_le_mul ha (by omega)
    rw [hd, sizV_cons] at hv
    repeat' (first | refine d1 ?_ | refine dd ?_ | (show ∀ _ : Nat, T _ _ _ _ _; intro _))
    rw [e]
    refine T_if rfl (fun h1 => ?_) (fun h1 => ?_)
    · simp only [decide_eq_true_eq] at h1
      rw [if_pos (by omega)] at hv
      repeat' (first | refine d1 ?_ | refine dd ?_ | (show ∀ _ : Nat, T _ _ _ _ _; intro _) | (show T _ (.code .ret :: _) _ _ _; refine T_retV [] rfl (Hle.none _) ⟨by rw [← hv]; rfl, rfl⟩))
    · simp only [decide_eq_false_iff_not] at h1
      rw [if_neg (by omega)] at hv
      repeat' (first | refine d1 ?_ | refine dd ?_ | (show ∀ _ : Nat, T _ _ _ _ _; intro _))
      exact T_backX (k + 1, a * (t.n + 1)) ⟨by dsimp only; omega, by dsimp only; omega, hv⟩ (by dsimp only; omega)
  · simp only [decide_eq_false_iff_not] at h
    rw [List.drop_of_length_le (by omega)] at hv
    have hv2 : a = sizV 1 (lens l) := hv
    repeat' (first | refine d1 ?_ | refine dd ?_ | (show ∀ _ : Nat, T _ _ _ _ _; intro _) | (show T _ (.code .ret :: _) _ _ _; refine T_retV [] rfl (Hle.none _) ⟨by rw [← hv2]; rfl, rfl⟩))
theorem srcsBig_spec (A : Option Addr) (n ca : Nat) (l : List TS) (w : World) (hs : Src w 1 A n (l.map TS.val)) (hn : l.length = n) (hb : n ≤ 1000) (h0 : n ≠ 0) (hbig : 32 < n ∨ ∃ t ∈ l, 1024 < t.n) :
    Spec Tryz.prog 91 [.slice A n ca] w (fun v R => v = .int .i64 4 ∧ R = []) := by
  refine spec_of sg Tryz.func91 rfl rfl rfl ?_
  have hyes : 32 < n ∨ (l.any fun t => decide ((1024 : Int) < t.n)) = true := hbig.imp id fun ⟨t, ht, h⟩ => List.any_eq_true.2 ⟨t, ht, decide_eq_true (by omega)⟩
  repeat' (first | refine d1 ?_ | refine dd ?_ | (show ∀ _ : Nat, T _ _ _ _ _; intro _))
  refine T_if rfl (fun h => ?_) (fun h => ?_)
  · exfalso; simp at h; omega
  simp only [decide_eq_false_iff_not] at h
  repeat' (first | refine d1 ?_ | refine dd ?_ | (show T _ (.ops _ (_ :: _) :: _) _ _ _; first | refine T_call rfl rfl rfl rfl rfl (fun w hw => containsFuncS_spec A n ca l _ [] [] (fun t => decide ((1024 : Int) < t.n)) w (rdSrc hs w hw) hn (by omega) (fun x hx w' hb' => srcs19a_spec x w')) ?_ | refine T_callC rfl rfl rfl rfl rfl rfl rfl (fun hg w hw => containsFuncS_spec A n ca l _ [] [] (fun t => decide ((1024 : Int) < t.n)) w (rdSrc hs w hw) hn (by omega) (fun x hx w' hb' => srcs19a_spec x w')) ?_) | (show T _ (.run _ _ (_ :: _) _ _ :: _) _ _ _; first | refine rc rfl rfl rfl rfl rfl rfl rfl (fun w hw => containsFuncS_spec A n ca l _ [] [] (fun t => decide ((1024 : Int) < t.n)) w (rdSrc hs w hw) hn (by omega) (fun x hx w' hb' => srcs19a_spec x w')) ?_ | refine rcG rfl rfl rfl rfl rfl rfl rfl rfl rfl (fun hg w hw => containsFuncS_spec A n ca l _ [] [] (fun t => decide ((1024 : Int) < t.n)) w (rdSrc hs w hw) hn (by omega) (fun x hx w' hb' => srcs19a_spec x w')) ?_) | (show ∀ _ : Nat, T _ _ _ _ _; intro _))
  refine T_if rfl (fun h1 => ?_) (fun h1 => ?_)
  · repeat' (first | refine d1 ?_ | refine dd ?_ | (show ∀ _ : Nat, T _ _ _ _ _; intro _) | (show T _ (.code .ret :: _) _ _ _; refine T_retV [] rfl (Hle.refl _) ⟨rfl, rfl⟩))
  · exfalso
    rcases hyes with h2 | h2
    · simp at h1; omega
    · rw [h2] at h1; simp at h1
theorem usableBig_spec (c : Costs) (A : Option Addr) (n ca : Nat) (l : List TS) (w : World) (hs : Src w 1 A n (l.map TS.val)) (hn : l.length = n) (hb : n ≤ 1000) (h0 : n ≠ 0) (hbig : 32 < n ∨ ∃ t ∈ l, 1024 < t.n) :
    Spec Tryz.prog 95 [c.val, .slice A n ca] w (fun v R => v = .int .i64 4 ∧ R = []) := by
  refine spec_of sg Tryz.func95 rfl rfl rfl ?_
  repeat' (first | (show T _ (.ops _ (⟨_, .box _ _, _, _, _, _⟩ :: _) :: _) _ _ _; refine T_op (OpT.box (cs := c.cells) rfl rfl rfl rfl rfl rfl rfl (fun _ => ?_))) | refine d1 ?_ | refine dd ?_ | (show T _ (.ops _ (_ :: _) :: _) _ _ _; first | refine T_call rfl rfl rfl rfl rfl (fun w hw => srcsBig_spec A n ca l w (rdSrc hs w hw) hn hb h0 hbig) ?_ | refine T_callC rfl rfl rfl rfl rfl rfl rfl (fun hg w hw => srcsBig_spec A n ca l w (rdSrc hs w hw) hn hb h0 hbig) ?_) | (show T _ (.run _ _ (_ :: _) _ _ :: _) _ _ _; first | refine rc rfl rfl rfl rfl rfl rfl rfl (fun w hw => srcsBig_spec A n ca l w (rdSrc hs w hw) hn hb h0 hbig) ?_ | refine rcG rfl rfl rfl rfl rfl rfl rfl rfl rfl (fun hg w hw => srcsBig_spec A n ca l w (rdSrc hs w hw) hn hb h0 hbig) ?_) | (show ∀ _ : Nat, T _ _ _ _ _; intro _))
  refine T_if rfl (fun h => ?_) (fun h => by exfalso; simp at h)
  repeat' (first | refine d1 ?_ | refine dd ?_ | (show ∀ _ : Nat, T _ _ _ _ _; intro _) | (show T _ (.code .ret :: _) _ _ _; refine T_retV [] rfl (Hle.none _) ⟨rfl, rfl⟩))
end Go.Proofs.YtofikdpbagnjbaaGreatDoor
namespace Go.Proofs.YtofikdpbagnjbaaGreatDoor
open Go.RowKit Go.Shelf Go.Proofs
set_option maxRecDepth 100000
set_option maxHeartbeats 1000000

def greatC19 (cols : List (List Int)) (q : Nat) : Bool := decide (q < cols.length) || cols.any fun r => decide (36 < r.length)
theorem greatC19_no {cols : List (List Int)} {q : Nat} (h : greatC19 cols q = false) : (∀ r ∈ cols, r.length ≤ 36) ∧ cols.length ≤ q := by
  unfold greatC19 at h
  rw [Bool.or_eq_false_iff, List.any_eq_false, decide_eq_false_iff_not] at h
  exact ⟨fun r hr => by have := h.2 r hr; simp at this; omega, by omega⟩
theorem greatC19_spec (x : Value) (cols : List (List Int)) (q : Nat) (w : World) (hx : Rd (wr w) [x] [rowsD cols]) : Spec Tryz.prog 66 [x, .int .i64 (q : Nat)] w (fun v R => v = .bool (greatC19 cols q) ∧ R = []) := by
  obtain ⟨Ak, ck, csk, rfl, hck1, hck2, hcs, hrows⟩ := hx.tabS
  refine spec_of sg Tryz.func66 rfl rfl rfl ?_
  repeat' (first | refine d1 ?_ | refine dd ?_ | (show ∀ _ : Nat, T _ _ _ _ _; intro _))
  refine T_if rfl (fun h => ?_) (fun h => ?_)
  · simp only [decide_eq_true_eq] at h
    repeat' (first | refine d1 ?_ | refine dd ?_ | (show ∀ _ : Nat, T _ _ _ _ _; intro _) | (show T _ (.code .ret :: _) _ _ _; refine T_retV [] rfl (Hle.none _) ⟨congrArg Value.bool ?_, rfl⟩))
    unfold greatC19; rw [decide_eq_true (by omega)]; rfl
  simp only [decide_eq_false_iff_not] at h
  repeat' (first | refine d1 ?_ | refine dd ?_ | (show ∀ _ : Nat, T _ _ _ _ _; intro _))
  refine T_loopX (fun k : Nat => [(5, .int .i64 k)]) (fun _ => []) (fun k => k ≤ cols.length ∧ ∀ r ∈ cols.take k, r.length ≤ 36) (fun k => cols.length - k) 0 ⟨Nat.zero_le _, fun r h => by simp at h⟩ ?_
  rintro k ⟨hk, hok⟩
  repeat' (first | refine d1 ?_ | refine dd ?_ | (show ∀ _ : Nat, T _ _ _ _ _; intro _))
  refine T_if rfl (fun h => ?_) (fun h => ?_)
  · simp only [decide_eq_true_eq] at h
    have hkn : k < cols.length := by omega
    obtain ⟨b, o, rfl⟩ := hcs.base (by omega)
    obtain ⟨r, hr⟩ : ∃ r, cols[k]? = some r := ⟨_, List.getElem?_eq_getElem hkn⟩
    obtain ⟨Au, capu, hu, hcap1, hcap2, hA⟩ := hrows.tabRow hr
    have hr0 := rowHd hcs hkn hu
    have htk := take_snoc _ _ _ hr
    repeat' (first | refine d1 ?_ | refine dd ?_ | (show ∀ _ : Nat, T _ _ _ _ _; intro _))
    refine T_if rfl (fun h1 => ?_) (fun h1 => ?_)
    · simp only [decide_eq_true_eq] at h1
      repeat' (first | refine d1 ?_ | refine dd ?_ | (show ∀ _ : Nat, T _ _ _ _ _; intro _) | (show T _ (.code .ret :: _) _ _ _; refine T_retV [] rfl (Hle.none _) ⟨congrArg Value.bool ?_, rfl⟩))
      unfold greatC19
      have h9 : (cols.any fun r => decide (36 < r.length)) = true := List.any_eq_true.2 ⟨r, List.mem_of_getElem? hr, by simp; omega⟩
      rw [h9, Bool.or_true]
    · simp only [decide_eq_false_iff_not] at h1
      repeat' (first | refine d1 ?_ | refine dd ?_ | (show ∀ _ : Nat, T _ _ _ _ _; intro _))
      refine T_backX (k + 1) ⟨by omega, fun y hy => ?_⟩ (by omega)
      rw [htk, List.mem_append, List.mem_singleton] at hy
      rcases hy with hy | rfl
      · exact hok y hy
      · omega
  · simp only [decide_eq_false_iff_not] at h
    obtain rfl : k = cols.length := by omega
    rw [List.take_of_length_le (Nat.le_refl _)] at hok
    repeat' (first | refine d1 ?_ | refine dd ?_ | (show ∀ _ : Nat, T _ _ _ _ _; intro _) | (show T _ (.code .ret :: _) _ _ _; refine T_retV [] rfl (Hle.none _) ⟨congrArg Value.bool ?_, rfl⟩))
    unfold greatC19
    have h9 : (cols.any fun r => decide (36 < r.length)) = false := List.any_eq_false.2 fun r hr => by have := hok r hr; simp; omega
    rw [h9, Bool.or_false]
    exact (decide_eq_false (by omega)).symm
end Go.Proofs.YtofikdpbagnjbaaGreatDoor
namespace Go.Proofs.YtofikdpbagnjbaaGreatDoor
open Go.RowKit Go.Shelf Go.Proofs

end Go.Proofs.YtofikdpbagnjbaaGreatDoor
namespace Go.Proofs.YtofikdpbagnjbaaGreatDoor
open Go.RowKit Go.Shelf Go.Proofs

def subsL : Nat → Nat → Nat → List (List Nat)
  | 0, _, _ => [[]]
  | k + 1, a, b => (List.range' a (b - a)).flatMap fun i => (subsL k (i + 1) b).map (i :: ·)
end Go.Proofs.YtofikdpbagnjbaaGreatDoor
namespace Go.Proofs.YtofikdpbagnjbaaGreatDoor
open Go.RowKit Go.Shelf Go.Proofs

def keepG (n : Nat) : Int → List Int → Int
  | _, [] => 0
  | p, s :: ks => if s < 0 ∨ (n : Int) ≤ s then 2 else if s ≤ p then 10 else keepG n s ks
def prvK (ks : List Int) : Nat → Int
  | 0 => -1
  | i + 1 => ks.getD i 0
theorem keepG_ok {n : Nat} : ∀ {ks : List Int} {p : Int}, keepG n p ks = 0 → ∃ kk : List Nat, ks = intN kk ∧ (∀ s ∈ kk, s < n) ∧ kk.Pairwise (· < ·) ∧ ∀ s ∈ kk, p < (s : Int)
  | [], p, _ => ⟨[], rfl, fun s h => (by cases h), .nil, fun s h => (by cases h)⟩
  | s :: ks, p, h => by
    unfold keepG at h
    by_cases h1 : s < 0 ∨ (n : Int) ≤ s
    · rw [if_pos h1] at h; omega
    rw [if_neg h1] at h
    by_cases h2 : s ≤ p
    · rw [if_pos h2] at h; omega
    rw [if_neg h2] at h
    obtain ⟨kk, e, g1, g2, g3⟩ := keepG_ok h
    refine ⟨s.toNat :: kk, ?_, ?_, ?_, ?_⟩
    · rw [e]
      show s :: intN kk = ((s.toNat : Nat) : Int) :: intN kk
      rw [show ((s.toNat : Nat) : Int) = s by omega]
    · intro x hx
      rcases List.mem_cons.1 hx with rfl | hx
      · omega
      · exact g1 x hx
    · refine List.pairwise_cons.2 ⟨fun x hx => ?_, g2⟩
      have := g3 x hx
      omega
    · intro x hx
      rcases List.mem_cons.1 hx with rfl | hx
      · omega
      · have := g3 x hx; omega
theorem keepG_asc {n : Nat} : ∀ {kk : List Nat} {p : Int}, (∀ s ∈ kk, s < n) → kk.Pairwise (· < ·) → (∀ s ∈ kk, p < (s : Int)) → keepG n p (intN kk) = 0
  | [], _, _, _, _ => rfl
  | s :: kk, p, h1, h2, h3 => by
    show keepG n p ((s : Int) :: intN kk) = 0
    have hs := h1 s (.head _)
    have hp := h3 s (.head _)
    unfold keepG
    rw [if_neg (by omega), if_neg (by omega)]
    obtain ⟨h4, h5⟩ := List.pairwise_cons.1 h2
    exact keepG_asc (fun x hx => h1 x (.tail _ hx)) h5 fun x hx => by have := h4 x hx; omega
theorem keepG_drop {n : Nat} {ks : List Int} {i : Nat} {s : Int} (hs : ks[i]? = some s) : keepG n (prvK ks i) (ks.drop i) = if s < 0 ∨ (n : Int) ≤ s then 2 else if s ≤ prvK ks i then 10 else keepG n (prvK ks (i + 1)) (ks.drop (i + 1)) := by
  obtain ⟨h1, e⟩ := List.getElem?_eq_some_iff.1 hs
  rw [List.drop_eq_getElem_cons h1, e, keepG]
  have e2 : prvK ks (i + 1) = s := by show ks.getD i 0 = s; rw [List.getD_eq_getElem?_getD, hs]; rfl
  rw [e2]
noncomputable def prjV (l : List TS) (cols : List (List Int)) (keep : List Int) : List (List Int) × Int :=
  if chkC l cols ≠ 0 then ([], chkC l cols) else if keep.length = 0 then ([], 5) else if keepG l.length (-1) keep ≠ 0 then ([], keepG l.length (-1) keep) else (prjC (keep.map Int.toNat) cols, 0)
theorem intN_back : ∀ kk : List Nat, (intN kk).map Int.toNat = kk
  | [] => rfl
  | s :: kk => by
    show ((s : Int)).toNat :: (intN kk).map Int.toNat = s :: kk
    rw [intN_back kk, Int.toNat_natCast]
theorem prjV_ok {l : List TS} {cols : List (List Int)} (hc : chkC l cols = 0) {kk : List Nat} (h0 : kk ≠ []) (h1 : ∀ s ∈ kk, s < l.length) (h2 : kk.Pairwise (· < ·)) : prjV l cols (intN kk) = (prjC kk cols, 0) := by
  have hk := keepG_asc (p := -1) h1 h2 fun s _ => by omega
  have hl : (intN kk).length ≠ 0 := by
    cases kk with
    | nil => exact absurd rfl h0
    | cons s kk => simp [intN]
  unfold prjV
  rw [if_neg (by simpa using hc), if_neg hl, if_neg (by simpa using hk), intN_back]
theorem prjC_snoc (keep : List Nat) (cols : List (List Int)) (x : List Int) : prjC keep (cols ++ [x]) = prjC keep cols ++ if anyP (prjR keep x) = true then [prjR keep x] else [] := by
  unfold prjC
  rw [List.map_append, List.filter_append]
  show _ ++ List.filter anyP [prjR keep x] = _
  rw [List.filter_cons]
  rfl
theorem prjR_snoc (keep : List Nat) (s : Nat) (x : List Int) : prjR (keep ++ [s]) x = prjR keep x ++ [x.getD s (-1)] := by unfold prjR; rw [List.map_append]; rfl
def mxOf : Int → List Int → Int
  | a, [] => a
  | a, x :: l => mxOf (max a x) l
theorem mxOf_any : ∀ (l : List Int) (a : Int), (0 ≤ mxOf a l) ↔ 0 ≤ a ∨ anyP l = true
  | [], a => by show 0 ≤ a ↔ _; unfold anyP; simp
  | x :: l, a => by
    show 0 ≤ mxOf (max a x) l ↔ _
    rw [mxOf_any l (max a x)]
    unfold anyP
    rw [List.any_cons, Bool.or_eq_true, decide_eq_true_eq]
    constructor
    · rintro (h | h)
      · rcases Int.le_total a x with h1 | h1
        · rw [Int.max_eq_right h1] at h; exact .inr (.inl h)
        · rw [Int.max_eq_left h1] at h; exact .inl h
      · exact .inr (.inr h)
    · rintro (h | h | h)
      · exact .inl (by omega)
      · exact .inl (by omega)
      · exact .inr h
end Go.Proofs.YtofikdpbagnjbaaGreatDoor
namespace Go.Proofs.YtofikdpbagnjbaaGreatDoor
open Go.RowKit Go.Shelf Go.Proofs
set_option maxRecDepth 100000
set_option maxHeartbeats 1000000

theorem checkBig_spec (A : Option Addr) (n ca : Nat) (l : List TS) (x : Value) (w : World) (hs : Src w 1 A n (l.map TS.val)) (hn : l.length = n) (hb : n ≤ 1000) (h0 : n ≠ 0) (hbig : 32 < n ∨ ∃ t ∈ l, 1024 < t.n) :
    Spec Tryz.prog 30 [.slice A n ca, x] w (fun v R => v = .int .i64 4 ∧ R = []) := by
  refine spec_of sg Tryz.func30 rfl rfl rfl ?_
  repeat' (first | refine d1 ?_ | refine dd ?_ | (show T _ (.ops _ (_ :: _) :: _) _ _ _; first | refine T_call rfl rfl rfl rfl rfl (fun w hw => srcsBig_spec A n ca l w (rdSrc hs w hw) hn hb h0 hbig) ?_ | refine T_callC rfl rfl rfl rfl rfl rfl rfl (fun hg w hw => srcsBig_spec A n ca l w (rdSrc hs w hw) hn hb h0 hbig) ?_) | (show T _ (.run _ _ (_ :: _) _ _ :: _) _ _ _; first | refine rc rfl rfl rfl rfl rfl rfl rfl (fun w hw => srcsBig_spec A n ca l w (rdSrc hs w hw) hn hb h0 hbig) ?_ | refine rcG rfl rfl rfl rfl rfl rfl rfl rfl rfl (fun hg w hw => srcsBig_spec A n ca l w (rdSrc hs w hw) hn hb h0 hbig) ?_) | (show ∀ _ : Nat, T _ _ _ _ _; intro _))
  refine T_if rfl (fun h => ?_) (fun h => by exfalso; simp at h)
  repeat' (first | refine d1 ?_ | refine dd ?_ | (show ∀ _ : Nat, T _ _ _ _ _; intro _) | (show T _ (.code .ret :: _) _ _ _; refine T_retV [] rfl (Hle.none _) ⟨rfl, rfl⟩))
open Classical in
noncomputable def chkT (l : List TS) (cols : List (List Int)) : Int := if l.length ≠ 0 ∧ (32 < l.length ∨ ∃ t ∈ l, 1024 < t.n) then 4 else chkC l cols
theorem check19T_spec (A : Option Addr) (n ca : Nat) (l : List TS) (x : Value) (cols : List (List Int)) (p q : Nat) (w : World) (hst : Std w) (hs : Src w 1 A n (l.map TS.val)) (hn : l.length = n) (hl : TsOk w l) (hx : Rd (wr w) [x] [rowsD cols]) (hgr : great19B l p q = false) (hp : p ≤ 32) (hq : q ≤ 1000) :
    Spec Tryz.prog 30 [.slice A n ca, x] w (fun v R => v = .int .i64 (chkT l cols) ∧ R = []) := by
  obtain ⟨g1, g2, g3⟩ := great19_no hl hgr
  by_cases h : l.length ≠ 0 ∧ (32 < l.length ∨ ∃ t ∈ l, 1024 < t.n)
  · have e : chkT l cols = 4 := if_pos h
    rw [e]
    exact checkBig_spec A n ca l x w hs hn (by omega) (by omega) (h.2.imp (fun h => by omega) id)
  · have e : chkT l cols = chkC l cols := if_neg h
    rw [e]
    refine check19_spec A n ca l x cols w ⟨hst, hs, hn, ?_, hl, fun t ht => ?_, g3⟩ hx
    · refine Classical.byContradiction fun h9 => h ⟨by omega, .inl (by omega)⟩
    · rcases g2 t ht with h9 | h9
      · omega
      · exact absurd ⟨by have := List.length_pos_of_mem ht; omega, .inr ⟨t, ht, h9.1⟩⟩ h
theorem chkT_ok {w : World} {A : Option Addr} {n : Nat} {l : List TS} {cols : List (List Int)} {p q : Nat} (hst : Std w) (hs : Src w 1 A n (l.map TS.val)) (hn : l.length = n) (hl : TsOk w l) (hgr : great19B l p q = false) (hp : p ≤ 32) (hq : q ≤ 1000) (h : chkT l cols = 0) :
    Grp w A n l ∧ l.length ≠ 0 ∧ ColsOk (lens l) cols ∧ ∀ t ∈ l, t.n ≤ q := by
  obtain ⟨g1, g2, g3⟩ := great19_no hl hgr
  unfold chkT at h
  by_cases h1 : l.length ≠ 0 ∧ (32 < l.length ∨ ∃ t ∈ l, 1024 < t.n)
  · rw [if_pos h1] at h; omega
  rw [if_neg h1] at h
  have h0 : l.length ≠ 0 := fun h9 => by rw [chkC_zero h9] at h; omega
  have hq9 : ∀ t ∈ l, t.n ≤ q := fun t ht => by
    rcases g2 t ht with h9 | h9
    · exact h9
    · exact absurd ⟨h0, .inr ⟨t, ht, h9.1⟩⟩ h1
  refine ⟨⟨hst, hs, hn, ?_, hl, fun t ht => by have := hq9 t ht; omega, g3⟩, h0, ?_, hq9⟩
  · refine Classical.byContradiction fun h9 => h1 ⟨h0, .inl (by omega)⟩
  · exact Classical.byContradiction fun h9 => by rw [chkC_bad h0 h9] at h; omega
theorem costBig_spec (c : Costs) (A : Option Addr) (n ca : Nat) (l : List TS) (x : Value) (w : World) (hs : Src w 1 A n (l.map TS.val)) (hn : l.length = n) (hb : n ≤ 1000) (h0 : n ≠ 0) (hbig : 32 < n ∨ ∃ t ∈ l, 1024 < t.n) :
    Spec Tryz.prog 34 [c.val, .slice A n ca, x] w (fun v R => v = .tuple #[.int .i64 0, .int .i64 4] ∧ R = []) := by
  refine spec_of sg Tryz.func34 rfl rfl rfl ?_
  repeat' (first | (show T _ (.ops _ (⟨_, .box _ _, _, _, _, _⟩ :: _) :: _) _ _ _; refine T_op (OpT.box (cs := c.cells) rfl rfl rfl rfl rfl rfl rfl (fun _ => ?_))) | refine d1 ?_ | refine dd ?_ | (show T _ (.ops _ (_ :: _) :: _) _ _ _; first | refine T_call rfl rfl rfl rfl rfl (fun w hw => usableBig_spec c A n ca l w (rdSrc hs w hw) hn hb h0 hbig) ?_ | refine T_callC rfl rfl rfl rfl rfl rfl rfl (fun hg w hw => usableBig_spec c A n ca l w (rdSrc hs w hw) hn hb h0 hbig) ?_) | (show T _ (.run _ _ (_ :: _) _ _ :: _) _ _ _; first | refine rc rfl rfl rfl rfl rfl rfl rfl (fun w hw => usableBig_spec c A n ca l w (rdSrc hs w hw) hn hb h0 hbig) ?_ | refine rcG rfl rfl rfl rfl rfl rfl rfl rfl rfl (fun hg w hw => usableBig_spec c A n ca l w (rdSrc hs w hw) hn hb h0 hbig) ?_) | (show ∀ _ : Nat, T _ _ _ _ _; intro _))
  refine T_if rfl (fun h => ?_) (fun h => by exfalso; simp at h)
  repeat' (first | refine d1 ?_ | refine dd ?_ | (show ∀ _ : Nat, T _ _ _ _ _; intro _) | (show T _ (.code .ret :: _) _ _ _; refine T_retV [] rfl (Hle.none _) ⟨rfl, rfl⟩))
theorem boundBig_spec (c : Costs) (A : Option Addr) (n ca : Nat) (l : List TS) (w : World) (hs : Src w 1 A n (l.map TS.val)) (hn : l.length = n) (hb : n ≤ 1000) (h0 : n ≠ 0) (hbig : 32 < n ∨ ∃ t ∈ l, 1024 < t.n) :
    Spec Tryz.prog 38 [c.val, .slice A n ca] w (fun v R => v = .tuple #[.int .i64 0, .int .i64 4] ∧ R = []) := by
  refine spec_of sg Tryz.func38 rfl rfl rfl ?_
  repeat' (first | (show T _ (.ops _ (⟨_, .box _ _, _, _, _, _⟩ :: _) :: _) _ _ _; refine T_op (OpT.box (cs := c.cells) rfl rfl rfl rfl rfl rfl rfl (fun _ => ?_))) | refine d1 ?_ | refine dd ?_ | (show T _ (.ops _ (_ :: _) :: _) _ _ _; first | refine T_call rfl rfl rfl rfl rfl (fun w hw => usableBig_spec c A n ca l w (rdSrc hs w hw) hn hb h0 hbig) ?_ | refine T_callC rfl rfl rfl rfl rfl rfl rfl (fun hg w hw => usableBig_spec c A n ca l w (rdSrc hs w hw) hn hb h0 hbig) ?_) | (show T _ (.run _ _ (_ :: _) _ _ :: _) _ _ _; first | refine rc rfl rfl rfl rfl rfl rfl rfl (fun w hw => usableBig_spec c A n ca l w (rdSrc hs w hw) hn hb h0 hbig) ?_ | refine rcG rfl rfl rfl rfl rfl rfl rfl rfl rfl (fun hg w hw => usableBig_spec c A n ca l w (rdSrc hs w hw) hn hb h0 hbig) ?_) | (show ∀ _ : Nat, T _ _ _ _ _; intro _))
  refine T_if rfl (fun h => ?_) (fun h => by exfalso; simp at h)
  repeat' (first | refine d1 ?_ | refine dd ?_ | (show ∀ _ : Nat, T _ _ _ _ _; intro _) | (show T _ (.code .ret :: _) _ _ _; refine T_retV [] rfl (Hle.none _) ⟨rfl, rfl⟩))
theorem mxOfnt_spec (A : Option Addr) (n ca : Nat) (a : Int) (r : List Int) (w : World) (hs : Src w 1 A n ((a :: r).map (Value.int .i64))) (hn : (a :: r).length = n) (hb : n ≤ 1000) :
    Spec Tryz.prog 131 [.slice A n ca] w (fun v R => v = .int .i64 (mxOf a r) ∧ R = []) := by
  have hn2 : r.length + 1 = n := hn
  obtain ⟨b, o, rfl⟩ := hs.base (by omega)
  have hr0 := src_int hs (k := 0) (x := a) (by omega) rfl
  refine spec_of sg Tryz.func131 rfl rfl rfl ?_
  repeat' (first | refine d1 ?_ | refine dd ?_ | (show ∀ _ : Nat, T _ _ _ _ _; intro _))
  refine T_if rfl (fun h => by exfalso; simp at h; omega) (fun _ => ?_)
  repeat' (first | refine d1 ?_ | refine dd ?_ | (show T _ (.ops _ (_ :: _) :: _) _ _ _; first | refine T_val rfl (Val.load rfl (fun hg => rdOld hr0)) rfl rfl rfl ?_ | refine T_valC rfl (Val.load rfl (fun hg => rdOld hr0)) rfl rfl rfl rfl rfl ?_) | (show T _ (.run _ _ (_ :: _) _ _ :: _) _ _ _; first | refine rv rfl rfl rfl (Val.load rfl (fun hg => rdOld hr0)) rfl rfl rfl ?_ | refine rg rfl rfl rfl (Val.load rfl (fun hg => rdOld hr0)) rfl rfl rfl rfl rfl ?_) | (show ∀ _ : Nat, T _ _ _ _ _; intro _))
  refine T_loopX (fun s : Nat × Int => [(4, .int .i64 (s.1 : Nat)), (3, .int .i64 s.2)]) (fun _ => []) (fun s => 1 ≤ s.1 ∧ s.1 ≤ n ∧ mxOf s.2 (r.drop (s.1 - 1)) = mxOf a r) (fun s => n - s.1) (1, a) ⟨Nat.le_refl _, by dsimp only; omega, rfl⟩ ?_
  rintro ⟨k, m⟩ ⟨hk1, hk, hm⟩
  dsimp only at hk1 hk hm ⊢
  repeat' (first | refine d1 ?_ | refine dd ?_ | (show ∀ _ : Nat, T _ _ _ _ _; intro _))
  refine T_if rfl (fun h => ?_) (fun h => ?_)
  · simp only [decide_eq_true_eq] at h
    have hkn : k < n := by omega
    obtain ⟨z, hz⟩ : ∃ z, r[k - 1]? = some z := ⟨_, List.getElem?_eq_getElem (by omega)⟩
    have hz2 : (a :: r)[k]? = some z := by
      obtain ⟨j, rfl⟩ : ∃ j, k = j + 1 := ⟨k - 1, by omega⟩
      exact hz
    have hr1 := src_int hs hkn hz2
    have hd : r.drop (k - 1) = z :: r.drop (k - 1 + 1) := by
      obtain ⟨h1, e⟩ := List.getElem?_eq_some_iff.1 hz
      rw [List.drop_eq_getElem_cons h1, e]
    rw [hd] at hm
    repeat' (first | refine d1 ?_ | refine dd ?_ | (show ∀ _ : Nat, T _ _ _ _ _; intro _))
    refine T_backX (k + 1, max m z) ⟨by dsimp only; omega, by dsimp only; omega, ?_⟩ (by dsimp only; omega)
    dsimp only
    rw [show k + 1 - 1 = k - 1 + 1 by omega]
    exact hm
  · simp only [decide_eq_false_iff_not] at h
    rw [List.drop_of_length_le (by omega)] at hm
    have hm2 : m = mxOf a r := hm
    repeat' (first | refine d1 ?_ | refine dd ?_ | (show ∀ _ : Nat, T _ _ _ _ _; intro _) | (show T _ (.code .ret :: _) _ _ _; refine T_retV [] rfl (Hle.none _) ⟨by rw [hm2]; rfl, rfl⟩))
theorem project19_spec (A : Option Addr) (n ca : Nat) (l : List TS) (x y : Value) (cols : List (List Int)) (keep : List Int) (w : World) (hg : Grp w A n l) (hx : Rd (wr w) [x] [rowsD cols]) (hy : Rd (wr w) [y] [intsD keep]) (hk : keep.length ≤ 1000) (hsz : cols.length ≤ 100000) :
    Spec Tryz.prog 68 [.slice A n ca, x, y] w (fun v R => ∃ z : Value, True ∧ v = .tuple #[z, .int .i64 (prjV l cols keep).2] ∧ R = [dat [z] [rowsD (prjV l cols keep).1]]) := by
  have hx0 := hx
  have hy0 := hy
  obtain ⟨Ac, cc, csc, rfl, hc1, hc2, hcs, hrows⟩ := hx.tabS
  obtain ⟨Ak, ck, rfl, hkb, hks⟩ := hy.ints
  have hn := hg.hn
  have hb := hg.hb
  subst hn
  refine spec_of sg Tryz.func68 rfl rfl rfl ?_
  repeat' (first | refine d1 ?_ | refine dd ?_ | (show T _ (.ops _ (_ :: _) :: _) _ _ _; first | refine T_call rfl rfl rfl rfl rfl (fun w hw => check19_spec A l.length ca l _ cols w (hg.cls hw) (hx0.old hw)) ?_ | refine T_callC rfl rfl rfl rfl rfl rfl rfl (fun hg w hw => check19_spec A l.length ca l _ cols w (hg.cls hw) (hx0.old hw)) ?_) | (show T _ (.run _ _ (_ :: _) _ _ :: _) _ _ _; first | refine rc rfl rfl rfl rfl rfl rfl rfl (fun w hw => check19_spec A l.length ca l _ cols w (hg.cls hw) (hx0.old hw)) ?_ | refine rcG rfl rfl rfl rfl rfl rfl rfl rfl rfl (fun hg w hw => check19_spec A l.length ca l _ cols w (hg.cls hw) (hx0.old hw)) ?_) | (show ∀ _ : Nat, T _ _ _ _ _; intro _))
  refine T_if rfl (fun h => ?_) (fun h => ?_)
  · have e : prjV l cols keep = ([], chkC l cols) := if_pos (by simpa using h)
    rw [e]
    repeat' (first | refine d1 ?_ | refine dd ?_ | (show ∀ _ : Nat, T _ _ _ _ _; intro _) | (show T _ (.code .ret :: _) _ _ _; refine T_retV _ rfl (nilC _ |>.trans (Hle.nth 0 rfl)) ⟨_, trivial, rfl, rfl⟩))
  have hchk : chkC l cols = 0 := by simpa using h
  clear h
  repeat' (first | refine d1 ?_ | refine dd ?_ | (show ∀ _ : Nat, T _ _ _ _ _; intro _))
  refine T_if rfl (fun h2 => ?_) (fun h2 => ?_)
  · have e : prjV l cols keep = ([], 5) := by
      simp only [decide_eq_true_eq] at h2
      unfold prjV
      rw [if_neg (by simpa using hchk), if_pos (by omega)]
    rw [e]
    repeat' (first | refine d1 ?_ | refine dd ?_ | (show ∀ _ : Nat, T _ _ _ _ _; intro _) | (show T _ (.code .ret :: _) _ _ _; refine T_retV _ rfl (nilC _ |>.trans (Hle.nth 0 rfl)) ⟨_, trivial, rfl, rfl⟩))
  have hk0 : 0 < keep.length := by simp only [decide_eq_false_iff_not] at h2; omega
  clear h2
  have hbad : ∀ q, q ≠ 0 → keepG l.length (-1) keep = q → prjV l cols keep = ([], q) := fun q hq e => by
    unfold prjV
    rw [if_neg (by simpa using hchk), if_neg (by omega), if_pos (by rw [e]; exact hq), e]
  obtain ⟨bk9, ok9, rfl⟩ := hks.base hk0
  repeat' (first | refine d1 ?_ | refine dd ?_ | (show ∀ _ : Nat, T _ _ _ _ _; intro _))
  refine T_loopX (fun i : Nat => [(28, .int .i64 (i : Nat))]) (fun _ => []) (fun i => i ≤ keep.length ∧ keepG l.length (prvK keep i) (keep.drop i) = keepG l.length (-1) keep) (fun i => keep.length - i) 0 ⟨Nat.zero_le _, rfl⟩ ?_
  rintro i ⟨hi, hkg⟩
  repeat' (first | refine d1 ?_ | refine dd ?_ | (show ∀ _ : Nat, T _ _ _ _ _; intro _))
  refine T_if rfl (fun h3 => ?_) (fun h3 => ?_)
  · simp only [decide_eq_true_eq] at h3
    have hin : i < keep.length := by omega
    obtain ⟨s, hs⟩ : ∃ s, keep[i]? = some s := ⟨_, List.getElem?_eq_getElem hin⟩
    have hr1 := src_int hks hin hs
    have hdr := keepG_drop (n := l.length) hs
    rw [hkg] at hdr
    obtain ⟨p, hp⟩ : ∃ p, 0 < i → keep[i - 1]? = some p := by
      by_cases h0 : 0 < i
      · exact ⟨keep[i - 1]'(by omega), fun _ => List.getElem?_eq_getElem (by omega)⟩
      · exact ⟨0, fun h => absurd h h0⟩
    have hpv : prvK keep i = if 0 < i then p else -1 := by
      rcases i with _ | j
      · rfl
      · rw [if_pos (by omega)]
        show keep.getD j 0 = p
        rw [List.getD_eq_getElem?_getD, show keep[j]? = some p from hp (by omega)]; rfl
    repeat' (first | refine d1 ?_ | refine dd ?_ | (show ∀ _ : Nat, T _ _ _ _ _; intro _))
    refine T_if rfl (fun h4 => ?_) (fun h4 => ?_)
    · have h5 : s < 0 ∨ (l.length : Int) ≤ s := by simpa using h4
      rw [if_pos h5] at hdr
      rw [hbad 2 (by decide) hdr]
      repeat' (first | refine d1 ?_ | refine dd ?_ | (show ∀ _ : Nat, T _ _ _ _ _; intro _) | (show T _ (.code .ret :: _) _ _ _; refine T_retV _ rfl (nilC _ |>.trans (Hle.nth 0 rfl)) ⟨_, trivial, rfl, rfl⟩))
    have h5 : ¬ (s < 0 ∨ (l.length : Int) ≤ s) := by
      intro h9
      have : (decide (s < 0) || decide ((l.length : Int) ≤ s)) = true := by simpa using h9
      rw [this] at h4; cases h4
    rw [if_neg h5] at hdr
    repeat' (first | refine d1 ?_ | refine dd ?_ | (show T _ (.ops _ (_ :: _) :: _) _ _ _; first | refine T_val rfl (Val.load (v := .int .i64 p) rfl (fun hg9 => rdOld (by (have hg := hg9; (simp only [List.cons_append, List.nil_append, GP, dstL, lookE, Nat.beq, cond, List.getElem?_cons_zero, List.getElem?_cons_succ, Option.bind_some, and_true, Bool.and_eq_true, Bool.or_eq_true, Bool.and_eq_false_iff, Bool.or_eq_false_iff, Bool.not_eq_true', Bool.not_eq_false', decide_eq_true_eq, decide_eq_false_iff_not] at hg); have h8 := src_int hks (k := i - 1) (by omega) (hp (by omega)); rw [show ok9 + ((i : Int) - 1).toNat * 1 = ok9 + ((i - 1 : Nat) : Int).toNat * 1 by omega]; exact h8)))) rfl rfl rfl ?_ | refine T_valC rfl (Val.load (v := .int .i64 p) rfl (fun hg9 => rdOld (by (have hg := hg9; (simp only [List.cons_append, List.nil_append, GP, dstL, lookE, Nat.beq, cond, List.getElem?_cons_zero, List.getElem?_cons_succ, Option.bind_some, and_true, Bool.and_eq_true, Bool.or_eq_true, Bool.and_eq_false_iff, Bool.or_eq_false_iff, Bool.not_eq_true', Bool.not_eq_false', decide_eq_true_eq, decide_eq_false_iff_not] at hg); have h8 := src_int hks (k := i - 1) (by omega) (hp (by omega)); rw [show ok9 + ((i : Int) - 1).toNat * 1 = ok9 + ((i - 1 : Nat) : Int).toNat * 1 by omega]; exact h8)))) rfl rfl rfl rfl rfl ?_) | (show T _ (.run _ _ (_ :: _) _ _ :: _) _ _ _; first | refine rv rfl rfl rfl (Val.load (v := .int .i64 p) rfl (fun hg9 => rdOld (by (have hg := hg9; (simp only [List.cons_append, List.nil_append, GP, dstL, lookE, Nat.beq, cond, List.getElem?_cons_zero, List.getElem?_cons_succ, Option.bind_some, and_true, Bool.and_eq_true, Bool.or_eq_true, Bool.and_eq_false_iff, Bool.or_eq_false_iff, Bool.not_eq_true', Bool.not_eq_false', decide_eq_true_eq, decide_eq_false_iff_not] at hg); have h8 := src_int hks (k := i - 1) (by omega) (hp (by omega)); rw [show ok9 + ((i : Int) - 1).toNat * 1 = ok9 + ((i - 1 : Nat) : Int).toNat * 1 by omega]; exact h8)))) rfl rfl rfl ?_ | refine rg rfl rfl rfl (Val.load (v := .int .i64 p) rfl (fun hg9 => rdOld (by (have hg := hg9; (simp only [List.cons_append, List.nil_append, GP, dstL, lookE, Nat.beq, cond, List.getElem?_cons_zero, List.getElem?_cons_succ, Option.bind_some, and_true, Bool.and_eq_true, Bool.or_eq_true, Bool.and_eq_false_iff, Bool.or_eq_false_iff, Bool.not_eq_true', Bool.not_eq_false', decide_eq_true_eq, decide_eq_false_iff_not] at hg); have h8 := src_int hks (k := i - 1) (by omega) (hp (by omega)); rw [show ok9 + ((i : Int) - 1).toNat * 1 = ok9 + ((i - 1 : Nat) : Int).toNat * 1 by omega]; exact h8)))) rfl rfl rfl rfl rfl ?_) | (show ∀ _ : Nat, T _ _ _ _ _; intro _))
    refine T_if rfl (fun h6 => ?_) (fun h6 => ?_)
    · have h7 : 0 < i ∧ s ≤ p := by
        simp only [Bool.and_eq_true, decide_eq_true_eq] at h6
        omega
      rw [hpv, if_pos h7.1, if_pos h7.2] at hdr
      rw [hbad 10 (by decide) hdr]
      repeat' (first | refine d1 ?_ | refine dd ?_ | (show ∀ _ : Nat, T _ _ _ _ _; intro _) | (show T _ (.code .ret :: _) _ _ _; refine T_retV _ rfl (nilC _ |>.trans (Hle.nth 0 rfl)) ⟨_, trivial, rfl, rfl⟩))
    have h7 : ¬ (s ≤ prvK keep i) := by
      rw [hpv]
      split
      · intro h8
        rw [decide_eq_true h8, decide_eq_true (show (0 : Int) < (i : Int) by omega)] at h6
        cases h6
      · omega
    rw [if_neg h7] at hdr
    repeat' (first | refine d1 ?_ | refine dd ?_ | (show ∀ _ : Nat, T _ _ _ _ _; intro _))
    exact T_backX (i + 1) ⟨by omega, hdr.symm⟩ (by omega)
  simp only [decide_eq_false_iff_not] at h3
  obtain rfl : i = keep.length := by omega
  rw [List.drop_of_length_le (Nat.le_refl _)] at hkg
  have hk9 : keepG l.length (-1) keep = 0 := hkg.symm
  obtain ⟨kk, rfl, hkn, hasc, -⟩ := keepG_ok hk9
  have hkl : (intN kk).length = kk.length := by unfold intN; rw [List.length_map]
  rw [hkl] at hk hk0 hks ⊢
  have hne : kk ≠ [] := fun h9 => by rw [h9] at hk0; exact absurd hk0 (Nat.lt_irrefl 0)
  have hpj : prjV l cols (intN kk) = (prjC kk cols, 0) := prjV_ok hchk hne hkn hasc
  rw [hpj]
  have h0 : l.length ≠ 0 := fun h9 => by unfold chkC at hchk; rw [if_pos h9] at hchk; omega
  have hok : ColsOk (lens l) cols := Classical.byContradiction fun h9 => by rw [chkC_bad h0 h9] at hchk; omega
  repeat' (first | refine d1 ?_ | refine dd ?_ | (show ∀ _ : Nat, T _ _ _ _ _; intro _))
  refine T_le (dat_nil _) ?_
  refine T_nilrow 27 1 ?_
  refine T_loopX (fun s : Nat × (Option Addr × Nat) × List Value => [(55, .int .i64 (s.1 : Nat)), (11, .slice s.2.1.1 (prjC kk (cols.take s.1)).length s.2.1.2)]) (fun s => [row 27 1 s.2.1.1 s.2.1.2 (prjC kk (cols.take s.1)).length s.2.2, dat s.2.2 ((prjC kk (cols.take s.1)).map intsD)]) (fun s => s.1 ≤ cols.length) (fun s => cols.length - s.1) (0, (none, 0), []) (Nat.zero_le _) ?_
  rintro ⟨q, ⟨Ao, capo⟩, hs9⟩ hq
  dsimp only at hq ⊢
  repeat' (first | refine d1 ?_ | refine dd ?_ | (show ∀ _ : Nat, T _ _ _ _ _; intro _))
  refine T_if rfl (fun h4 => ?_) (fun h4 => ?_)
  · simp only [decide_eq_true_eq] at h4
    have hqn : q < cols.length := by omega
    obtain ⟨b, o, rfl⟩ := hcs.base (by omega)
    obtain ⟨r, hr⟩ : ∃ r, cols[q]? = some r := ⟨_, List.getElem?_eq_getElem hqn⟩
    have hrm := List.mem_of_getElem? hr
    obtain ⟨Au, capu, hu, -, -, hA⟩ := hrows.tabRow hr
    have hco : ColOk l r := ColsOk.colOk (l := l) hok hrm
    have hrl : r.length = l.length := hco.1
    have hr0 := rowHd hcs hqn hu
    have hsr := rowSrc hA
    have htk := take_snoc _ _ _ hr
    have hps : prjC kk (cols.take (q + 1)) = prjC kk (cols.take q) ++ if anyP (prjR kk r) = true then [prjR kk r] else [] := by rw [htk, prjC_snoc]
    have hpl : (prjC kk (cols.take q)).length ≤ q := by
      unfold prjC
      have h9 := List.length_filter_le anyP ((cols.take q).map (prjR kk))
      rw [List.length_map, List.length_take] at h9
      omega
    repeat' (first | refine d1 ?_ | refine dd ?_ | (show ∀ _ : Nat, T _ _ _ _ _; intro _))
    refine T_nilrow 3 1 ?_
    refine T_loopX (fun s : Nat × (Option Addr × Nat) => [(61, .int .i64 (s.1 : Nat)), (14, .slice s.2.1 s.1 s.2.2)]) (fun s => [row 3 1 s.2.1 s.2.2 s.1 ((prjR (kk.take s.1) r).map (Value.int .i64)), row 27 1 Ao capo (prjC kk (cols.take q)).length hs9, dat hs9 ((prjC kk (cols.take q)).map intsD)]) (fun s => s.1 ≤ kk.length) (fun s => kk.length - s.1) (0, (none, 0)) (Nat.zero_le _) ?_
    rintro ⟨j, ⟨A5, cap5⟩⟩ hj
    dsimp only at hj ⊢
    repeat' (first | refine d1 ?_ | refine dd ?_ | (show ∀ _ : Nat, T _ _ _ _ _; intro _))
    refine T_if rfl (fun h5 => ?_) (fun h5 => ?_)
    · simp only [decide_eq_true_eq] at h5
      have hjn : j < kk.length := by omega
      obtain ⟨s, hs⟩ : ∃ s, kk[j]? = some s := ⟨_, List.getElem?_eq_getElem hjn⟩
      have hsl := hkn s (List.mem_of_getElem? hs)
      have hr1 := src_int hks hjn (show (intN kk)[j]? = some (s : Int) by unfold intN; rw [List.getElem?_map, hs]; rfl)
      obtain ⟨bu, ou, rfl⟩ := hsr.base (by omega)
      obtain ⟨z, hz⟩ : ∃ z, r[s]? = some z := ⟨_, List.getElem?_eq_getElem (by omega)⟩
      have hr2 := src_int hsr (by omega) hz
      have hsn : (prjR (kk.take (j + 1)) r).map (Value.int .i64) = (prjR (kk.take j) r).map (Value.int .i64) ++ flatP [(0, .int .i64 z)] := by
        rw [take_snoc _ _ _ hs, prjR_snoc, List.map_append, show r.getD s (-1) = z by rw [List.getD_eq_getElem?_getD, hz]; rfl]
        rfl
      repeat' (first | refine d1 ?_ | refine dd ?_ | (show T _ (.ops _ (_ :: _) :: _) _ _ _; refine T_op (OpT.append (A := A5) rfl rfl rfl rfl rfl rfl rfl rfl rfl rfl (fun w hw => Src.own hw rfl) rfl (by dsimp only; omega) (by omega) (fun A' cap' hA' => ?_))) | (show ∀ _ : Nat, T _ _ _ _ _; intro _))
      refine T_backX (j + 1, (A', cap')) (by dsimp only; omega) (by dsimp only; omega) (hG := ?_)
      dsimp only
      rw [hsn]
      exact Hle.srt
    · simp only [decide_eq_false_iff_not] at h5
      obtain rfl : j = kk.length := by omega
      rw [List.take_of_length_le (Nat.le_refl _)]
      obtain ⟨z0, zr, hzr⟩ : ∃ a b, prjR kk r = a :: b := by
        cases hc : prjR kk r with
        | nil => have := congrArg List.length hc; rw [prjR_len] at this; simp at this; exact absurd this hne
        | cons a b => exact ⟨a, b, rfl⟩
      have hany : anyP (prjR kk r) = decide (0 ≤ mxOf z0 zr) := by
        rw [Bool.eq_iff_iff, decide_eq_true_eq, mxOf_any, hzr]
        unfold anyP
        rw [List.any_cons, Bool.or_eq_true, decide_eq_true_eq]
      repeat' (first | refine d1 ?_ | refine dd ?_ | (show T _ (.ops _ (_ :: _) :: _) _ _ _; first | refine T_call rfl rfl rfl rfl rfl (fun w hw => mxOfnt_spec A5 kk.length cap5 z0 zr w (by have h9 := srcRw (A := A5) (xs := (prjR kk r).map (Value.int .i64)) w hw; rw [hzr] at h9; exact h9) (by rw [← hzr, prjR_len]) (by omega)) ?_ | refine T_callC rfl rfl rfl rfl rfl rfl rfl (fun hg w hw => mxOfnt_spec A5 kk.length cap5 z0 zr w (by have h9 := srcRw (A := A5) (xs := (prjR kk r).map (Value.int .i64)) w hw; rw [hzr] at h9; exact h9) (by rw [← hzr, prjR_len]) (by omega)) ?_) | (show T _ (.run _ _ (_ :: _) _ _ :: _) _ _ _; first | refine rc rfl rfl rfl rfl rfl rfl rfl (fun w hw => mxOfnt_spec A5 kk.length cap5 z0 zr w (by have h9 := srcRw (A := A5) (xs := (prjR kk r).map (Value.int .i64)) w hw; rw [hzr] at h9; exact h9) (by rw [← hzr, prjR_len]) (by omega)) ?_ | refine rcG rfl rfl rfl rfl rfl rfl rfl rfl rfl (fun hg w hw => mxOfnt_spec A5 kk.length cap5 z0 zr w (by have h9 := srcRw (A := A5) (xs := (prjR kk r).map (Value.int .i64)) w hw; rw [hzr] at h9; exact h9) (by rw [← hzr, prjR_len]) (by omega)) ?_) | (show ∀ _ : Nat, T _ _ _ _ _; intro _))
      refine T_if rfl (fun h6 => ?_) (fun h6 => ?_)
      · rw [hany, if_pos h6] at hps
        repeat' (first | refine d1 ?_ | refine dd ?_ | (show T _ (.ops _ (_ :: _) :: _) _ _ _; refine T_op (OpT.append (A := Ao) rfl rfl rfl rfl rfl rfl rfl rfl rfl rfl (fun w hw => Src.own hw rfl) rfl (by dsimp only; omega) (by omega) (fun A' cap' hA' => ?_))) | (show ∀ _ : Nat, T _ _ _ _ _; intro _))
        refine T_backX (q + 1, (A', cap'), hs9 ++ [.slice A5 kk.length cap5]) (by dsimp only; omega) (by dsimp only; omega) (hE := ⟨rfl, by dsimp only; rw [hps, List.length_append]; rfl, trivial⟩) (hG := ?_)
        dsimp only
        rw [hps, List.length_append, show [prjR kk r].length = 1 from rfl]
        exact (Hle.srt (K := [row 3 1 A5 cap5 kk.length ((prjR kk r).map (Value.int .i64)), dat hs9 ((prjC kk (cols.take q)).map intsD), row 27 1 A' cap' ((prjC kk (cols.take q)).length + 1) (hs9 ++ flatP [(0, .slice A5 kk.length cap5)])])).trans (out_hle (cl := prjR kk r) rfl)
      · rw [hany, if_neg (by rw [h6]; simp), List.append_nil] at hps
        repeat' (first | refine d1 ?_ | refine dd ?_ | (show ∀ _ : Nat, T _ _ _ _ _; intro _))
        exact T_backX (q + 1, (Ao, capo), hs9) (by dsimp only; omega) (by dsimp only; omega) (hE := ⟨rfl, by dsimp only; rw [hps]; rfl, trivial⟩) (hG := by dsimp only; rw [hps]; exact Hle.tail _ _)
  · simp only [decide_eq_false_iff_not] at h4
    obtain rfl : q = cols.length := by omega
    rw [List.take_of_length_le (Nat.le_refl _)]
    repeat' (first | refine d1 ?_ | refine dd ?_ | (show ∀ _ : Nat, T _ _ _ _ _; intro _) | (show T _ (.code .ret :: _) _ _ _; refine T_retV _ rfl dat_row ⟨_, trivial, rfl, by rfl⟩))
end Go.Proofs.YtofikdpbagnjbaaGreatDoor
namespace Go.Proofs.YtofikdpbagnjbaaGreatDoor
open Go.RowKit Go.Shelf Go.Proofs
set_option maxRecDepth 100000
set_option maxHeartbeats 1000000

theorem srcsRBig_spec (A : Option Addr) (n ca : Nat) (l : List TS) (w : World) (hs : Src w 1 A n (l.map TS.val)) (hn : l.length = n) (hb : n ≤ 1000) (h0 : n ≠ 0) (hbig : 32 < n ∨ ∃ t ∈ l, 1024 < t.n) :
    Spec Tryz.prog 132 [.slice A n ca] w (fun v R => v = .int .i64 4 ∧ R = []) := by
  refine spec_of sg Tryz.func132 rfl rfl rfl ?_
  repeat' (first | refine d1 ?_ | refine dd ?_ | (show ∀ _ : Nat, T _ _ _ _ _; intro _))
  refine T_if rfl (fun h => by exfalso; simp at h; omega) (fun _ => ?_)
  repeat' (first | refine d1 ?_ | refine dd ?_ | (show ∀ _ : Nat, T _ _ _ _ _; intro _))
  refine T_if rfl (fun h => ?_) (fun h => ?_)
  · repeat' (first | refine d1 ?_ | refine dd ?_ | (show ∀ _ : Nat, T _ _ _ _ _; intro _) | (show T _ (.code .ret :: _) _ _ _; refine T_retV [] rfl (Hle.refl _) ⟨rfl, rfl⟩))
  simp only [decide_eq_false_iff_not] at h
  repeat' (first | refine d1 ?_ | refine dd ?_ | (show ∀ _ : Nat, T _ _ _ _ _; intro _))
  refine T_loopX (fun k : Nat => [(3, .int .i64 k)]) (fun _ => []) (fun k => k ≤ n ∧ ∀ j t, j < k → l[j]? = some t → t.n ≤ 1024) (fun k => n - k) 0 ⟨Nat.zero_le _, fun j t h => by omega⟩ ?_
  rintro k ⟨hk, hok⟩
  repeat' (first | refine d1 ?_ | refine dd ?_ | (show ∀ _ : Nat, T _ _ _ _ _; intro _))
  refine T_if rfl (fun h1 => ?_) (fun h1 => ?_)
  · simp only [decide_eq_true_eq] at h1
    have hkn : k < n := by omega
    obtain ⟨b, o, rfl⟩ := hs.base (by omega)
    obtain ⟨t, ht⟩ : ∃ t, l[k]? = some t := ⟨_, List.getElem?_eq_getElem (by omega)⟩
    have hr : RdC w b (o + (k : Int).toNat * 1) [.slice t.A t.n t.cap] := by
      have h9 := (hs.get1 (i := k) hkn (by rw [List.getElem?_map, ht]; rfl)).2
      rw [Nat.mul_one] at h9
      rw [off1]
      exact h9
    repeat' (first | refine d1 ?_ | refine dd ?_ | (show ∀ _ : Nat, T _ _ _ _ _; intro _))
    refine T_if rfl (fun h2 => ?_) (fun h2 => ?_)
    · repeat' (first | refine d1 ?_ | refine dd ?_ | (show ∀ _ : Nat, T _ _ _ _ _; intro _) | (show T _ (.code .ret :: _) _ _ _; refine T_retV [] rfl (Hle.refl _) ⟨rfl, rfl⟩))
    · simp only [decide_eq_false_iff_not] at h2
      repeat' (first | refine d1 ?_ | refine dd ?_ | (show ∀ _ : Nat, T _ _ _ _ _; intro _))
      refine T_backX (k + 1) ⟨by omega, fun j u hj hu => ?_⟩ (by omega)
      rcases Nat.lt_or_ge j k with h3 | h3
      · exact hok j u h3 hu
      · rw [show j = k by omega, ht] at hu
        cases hu
        omega
  · simp only [decide_eq_false_iff_not] at h1
    exfalso
    rcases hbig with h9 | ⟨t, ht, h9⟩
    · omega
    · obtain ⟨i, hi, e⟩ := List.getElem_of_mem ht
      have := hok i t (by omega) (by rw [List.getElem?_eq_getElem hi, e])
      omega
theorem checkRBig_spec (A : Option Addr) (n ca : Nat) (l : List TS) (x : Value) (w : World) (hs : Src w 1 A n (l.map TS.val)) (hn : l.length = n) (hb : n ≤ 1000) (h0 : n ≠ 0) (hbig : 32 < n ∨ ∃ t ∈ l, 1024 < t.n) :
    Spec Tryz.prog 72 [.slice A n ca, x] w (fun v R => v = .int .i64 4 ∧ R = []) := by
  refine spec_of sg Tryz.func72 rfl rfl rfl ?_
  repeat' (first | refine d1 ?_ | refine dd ?_ | (show T _ (.ops _ (_ :: _) :: _) _ _ _; first | refine T_call rfl rfl rfl rfl rfl (fun w hw => srcsRBig_spec A n ca l w (rdSrc hs w hw) hn hb h0 hbig) ?_ | refine T_callC rfl rfl rfl rfl rfl rfl rfl (fun hg w hw => srcsRBig_spec A n ca l w (rdSrc hs w hw) hn hb h0 hbig) ?_) | (show T _ (.run _ _ (_ :: _) _ _ :: _) _ _ _; first | refine rc rfl rfl rfl rfl rfl rfl rfl (fun w hw => srcsRBig_spec A n ca l w (rdSrc hs w hw) hn hb h0 hbig) ?_ | refine rcG rfl rfl rfl rfl rfl rfl rfl rfl rfl (fun hg w hw => srcsRBig_spec A n ca l w (rdSrc hs w hw) hn hb h0 hbig) ?_) | (show ∀ _ : Nat, T _ _ _ _ _; intro _))
  refine T_if rfl (fun h => ?_) (fun h => by exfalso; simp at h)
  repeat' (first | refine d1 ?_ | refine dd ?_ | (show ∀ _ : Nat, T _ _ _ _ _; intro _) | (show T _ (.code .ret :: _) _ _ _; refine T_retV [] rfl (Hle.none _) ⟨rfl, rfl⟩))
theorem check19RT_spec (A : Option Addr) (n ca : Nat) (l : List TS) (x : Value) (cols : List (List Int)) (p q : Nat) (w : World) (hst : Std w) (hs : Src w 1 A n (l.map TS.val)) (hn : l.length = n) (hl : TsOk w l) (hx : Rd (wr w) [x] [rowsD cols]) (hgr : great19B l p q = false) (hp : p ≤ 32) (hq : q ≤ 1000) :
    Spec Tryz.prog 72 [.slice A n ca, x] w (fun v R => v = .int .i64 (chkT l cols) ∧ R = []) := by
  obtain ⟨g1, g2, g3⟩ := great19_no hl hgr
  by_cases h : l.length ≠ 0 ∧ (32 < l.length ∨ ∃ t ∈ l, 1024 < t.n)
  · have e : chkT l cols = 4 := if_pos h
    rw [e]
    exact checkRBig_spec A n ca l x w hs hn (by omega) (by omega) (h.2.imp (fun h => by omega) id)
  · have e : chkT l cols = chkC l cols := if_neg h
    rw [e]
    refine check19R_spec A n ca l x cols w ⟨hst, hs, hn, ?_, hl, fun t ht => ?_, g3⟩ hx
    · refine Classical.byContradiction fun h9 => h ⟨by omega, .inl (by omega)⟩
    · rcases g2 t ht with h9 | h9
      · omega
      · exact absurd ⟨by have := List.length_pos_of_mem ht; omega, .inr ⟨t, ht, h9.1⟩⟩ h
noncomputable def prjT (l : List TS) (cols : List (List Int)) (keep : List Int) : List (List Int) × Int := if chkT l cols ≠ 0 then ([], chkT l cols) else prjV l cols keep
theorem projectBig_spec (A : Option Addr) (n ca : Nat) (l : List TS) (x y : Value) (w : World) (hs : Src w 1 A n (l.map TS.val)) (hn : l.length = n) (hb : n ≤ 1000) (h0 : n ≠ 0) (hbig : 32 < n ∨ ∃ t ∈ l, 1024 < t.n) :
    Spec Tryz.prog 68 [.slice A n ca, x, y] w (fun v R => ∃ z : Value, True ∧ v = .tuple #[z, .int .i64 4] ∧ R = [dat [z] [rowsD []]]) := by
  refine spec_of sg Tryz.func68 rfl rfl rfl ?_
  repeat' (first | refine d1 ?_ | refine dd ?_ | (show T _ (.ops _ (_ :: _) :: _) _ _ _; first | refine T_call rfl rfl rfl rfl rfl (fun w hw => checkBig_spec A n ca l x w (rdSrc hs w hw) hn hb h0 hbig) ?_ | refine T_callC rfl rfl rfl rfl rfl rfl rfl (fun hg w hw => checkBig_spec A n ca l x w (rdSrc hs w hw) hn hb h0 hbig) ?_) | (show T _ (.run _ _ (_ :: _) _ _ :: _) _ _ _; first | refine rc rfl rfl rfl rfl rfl rfl rfl (fun w hw => checkBig_spec A n ca l x w (rdSrc hs w hw) hn hb h0 hbig) ?_ | refine rcG rfl rfl rfl rfl rfl rfl rfl rfl rfl (fun hg w hw => checkBig_spec A n ca l x w (rdSrc hs w hw) hn hb h0 hbig) ?_) | (show ∀ _ : Nat, T _ _ _ _ _; intro _))
  refine T_if rfl (fun h => ?_) (fun h => by exfalso; simp at h)
  repeat' (first | refine d1 ?_ | refine dd ?_ | (show ∀ _ : Nat, T _ _ _ _ _; intro _) | (show T _ (.code .ret :: _) _ _ _; refine T_retV _ rfl (nilC _ |>.trans (Hle.nth 0 rfl)) ⟨_, trivial, rfl, rfl⟩))
theorem project19T_spec (A : Option Addr) (n ca : Nat) (l : List TS) (x y : Value) (cols : List (List Int)) (keep : List Int) (p q : Nat) (w : World) (hst : Std w) (hs : Src w 1 A n (l.map TS.val)) (hn : l.length = n) (hl : TsOk w l) (hx : Rd (wr w) [x] [rowsD cols]) (hy : Rd (wr w) [y] [intsD keep]) (hk : keep.length ≤ 1000) (hsz : cols.length ≤ 100000) (hgr : great19B l p q = false) (hp : p ≤ 32) (hq : q ≤ 1000) :
    Spec Tryz.prog 68 [.slice A n ca, x, y] w (fun v R => ∃ z : Value, True ∧ v = .tuple #[z, .int .i64 (prjT l cols keep).2] ∧ R = [dat [z] [rowsD (prjT l cols keep).1]]) := by
  obtain ⟨g1, g2, g3⟩ := great19_no hl hgr
  by_cases h : l.length ≠ 0 ∧ (32 < l.length ∨ ∃ t ∈ l, 1024 < t.n)
  · have e : chkT l cols = 4 := if_pos h
    have e2 : prjT l cols keep = ([], 4) := by unfold prjT; rw [if_pos (by rw [e]; decide), e]
    rw [e2]
    exact projectBig_spec A n ca l x y w hs hn (by omega) (by omega) (h.2.imp (fun h => by omega) id)
  · have e : chkT l cols = chkC l cols := if_neg h
    have e2 : prjT l cols keep = prjV l cols keep := by
      unfold prjT
      by_cases h9 : chkT l cols ≠ 0
      · rw [if_pos h9]
        rw [e] at h9 ⊢
        exact (if_pos h9).symm
      · rw [if_neg h9]
    rw [e2]
    refine project19_spec A n ca l x y cols keep w ⟨hst, hs, hn, ?_, hl, fun t ht => ?_, g3⟩ hx hy hk hsz
    · refine Classical.byContradiction fun h9 => h ⟨by omega, .inl (by omega)⟩
    · rcases g2 t ht with h9 | h9
      · omega
      · exact absurd ⟨by have := List.length_pos_of_mem ht; omega, .inr ⟨t, ht, h9.1⟩⟩ h
theorem anyP_snoc (a : List Int) (z : Int) : anyP (a ++ [z]) = (anyP a || decide (0 ≤ z)) := by unfold anyP; rw [List.any_append]; simp
theorem projR19_spec (A : Option Addr) (n ca : Nat) (l : List TS) (x y : Value) (cols : List (List Int)) (keep : List Int) (p q : Nat) (w : World) (hst : Std w) (hs : Src w 1 A n (l.map TS.val)) (hn : l.length = n) (hl : TsOk w l) (hx : Rd (wr w) [x] [rowsD cols]) (hy : Rd (wr w) [y] [intsD keep]) (hk : keep.length ≤ 1000) (hsz : cols.length ≤ 100000) (hgr : great19B l p q = false) (hp : p ≤ 32) (hq : q ≤ 1000) :
    Spec Tryz.prog 69 [.slice A n ca, x, y] w (fun v R => ∃ z : Value, True ∧ v = .tuple #[z, .int .i64 (prjT l cols keep).2] ∧ R = [dat [z] [rowsD (prjT l cols keep).1]]) := by
  have hx0 := hx
  have hy0 := hy
  obtain ⟨Ac, cc, csc, rfl, hc1, hc2, hcs, hrows⟩ := hx.tabS
  obtain ⟨Ak, ck, rfl, hkb, hks⟩ := hy.ints
  subst hn
  refine spec_of sg Tryz.func69 rfl rfl rfl ?_
  repeat' (first | refine d1 ?_ | refine dd ?_ | (show T _ (.ops _ (_ :: _) :: _) _ _ _; first | refine T_call rfl rfl rfl rfl rfl (fun w hw => check19RT_spec A l.length ca l _ cols p q w (hst.cls hw) (rdSrc hs w hw) rfl ⟨fun t ht => src_below (hl.src t ht) hw.below, hl.len, hl.bd⟩ (hx0.old hw) hgr hp hq) ?_ | refine T_callC rfl rfl rfl rfl rfl rfl rfl (fun hg w hw => check19RT_spec A l.length ca l _ cols p q w (hst.cls hw) (rdSrc hs w hw) rfl ⟨fun t ht => src_below (hl.src t ht) hw.below, hl.len, hl.bd⟩ (hx0.old hw) hgr hp hq) ?_) | (show T _ (.run _ _ (_ :: _) _ _ :: _) _ _ _; first | refine rc rfl rfl rfl rfl rfl rfl rfl (fun w hw => check19RT_spec A l.length ca l _ cols p q w (hst.cls hw) (rdSrc hs w hw) rfl ⟨fun t ht => src_below (hl.src t ht) hw.below, hl.len, hl.bd⟩ (hx0.old hw) hgr hp hq) ?_ | refine rcG rfl rfl rfl rfl rfl rfl rfl rfl rfl (fun hg w hw => check19RT_spec A l.length ca l _ cols p q w (hst.cls hw) (rdSrc hs w hw) rfl ⟨fun t ht => src_below (hl.src t ht) hw.below, hl.len, hl.bd⟩ (hx0.old hw) hgr hp hq) ?_) | (show ∀ _ : Nat, T _ _ _ _ _; intro _))
  refine T_if rfl (fun h => ?_) (fun h => ?_)
  · have e : prjT l cols keep = ([], chkT l cols) := if_pos (by simpa using h)
    rw [e]
    repeat' (first | refine d1 ?_ | refine dd ?_ | (show ∀ _ : Nat, T _ _ _ _ _; intro _) | (show T _ (.code .ret :: _) _ _ _; refine T_retV _ rfl (nilC _ |>.trans (Hle.nth 0 rfl)) ⟨_, trivial, rfl, rfl⟩))
  have hchT : chkT l cols = 0 := by simpa using h
  clear h
  obtain ⟨hgp, hl0, hok, -⟩ := chkT_ok hst hs rfl hl hgr hp hq hchT
  have hchk : chkC l cols = 0 := chkC_ok hl0 hok
  have eT : prjT l cols keep = prjV l cols keep := if_neg (by simpa using hchT)
  rw [eT]
  have hb := hgp.hb
  repeat' (first | refine d1 ?_ | refine dd ?_ | (show ∀ _ : Nat, T _ _ _ _ _; intro _))
  refine T_if rfl (fun h2 => ?_) (fun h2 => ?_)
  · have e : prjV l cols keep = ([], 5) := by
      simp only [decide_eq_true_eq] at h2
      unfold prjV
      rw [if_neg (by simpa using hchk), if_pos (by omega)]
    rw [e]
    repeat' (first | refine d1 ?_ | refine dd ?_ | (show ∀ _ : Nat, T _ _ _ _ _; intro _) | (show T _ (.code .ret :: _) _ _ _; refine T_retV _ rfl (nilC _ |>.trans (Hle.nth 0 rfl)) ⟨_, trivial, rfl, rfl⟩))
  have hk0 : 0 < keep.length := by simp only [decide_eq_false_iff_not] at h2; omega
  clear h2
  have hbad : ∀ q, q ≠ 0 → keepG l.length (-1) keep = q → prjV l cols keep = ([], q) := fun q hq e => by
    unfold prjV
    rw [if_neg (by simpa using hchk), if_neg (by omega), if_pos (by rw [e]; exact hq), e]
  obtain ⟨bk9, ok9, rfl⟩ := hks.base hk0
  repeat' (first | refine d1 ?_ | refine dd ?_ | (show ∀ _ : Nat, T _ _ _ _ _; intro _))
  refine T_loopX (fun i : Nat => [(9, .int .i64 (i : Nat))]) (fun _ => []) (fun i => i ≤ keep.length ∧ keepG l.length (prvK keep i) (keep.drop i) = keepG l.length (-1) keep) (fun i => keep.length - i) 0 ⟨Nat.zero_le _, rfl⟩ ?_
  rintro i ⟨hi, hkg⟩
  repeat' (first | refine d1 ?_ | refine dd ?_ | (show ∀ _ : Nat, T _ _ _ _ _; intro _))
  refine T_if rfl (fun h3 => ?_) (fun h3 => ?_)
  · simp only [decide_eq_true_eq] at h3
    have hin : i < keep.length := by omega
    obtain ⟨s, hs9⟩ : ∃ s, keep[i]? = some s := ⟨_, List.getElem?_eq_getElem hin⟩
    have hr1 := src_int hks hin hs9
    have hdr := keepG_drop (n := l.length) hs9
    rw [hkg] at hdr
    obtain ⟨p9, hp9⟩ : ∃ p, 0 < i → keep[i - 1]? = some p := by
      by_cases h0 : 0 < i
      · exact ⟨keep[i - 1]'(by omega), fun _ => List.getElem?_eq_getElem (by omega)⟩
      · exact ⟨0, fun h => absurd h h0⟩
    have hpv : prvK keep i = if 0 < i then p9 else -1 := by
      rcases i with _ | j
      · rfl
      · rw [if_pos (by omega)]
        show keep.getD j 0 = p9
        rw [List.getD_eq_getElem?_getD, show keep[j]? = some p9 from hp9 (by omega)]; rfl
    repeat' (first | refine d1 ?_ | refine dd ?_ | (show ∀ _ : Nat, T _ _ _ _ _; intro _))
    refine T_if rfl (fun h4 => ?_) (fun h4 => ?_)
    · have h5 : s < 0 ∨ (l.length : Int) ≤ s := by simpa using h4
      rw [if_pos h5] at hdr
      rw [hbad 2 (by decide) hdr]
      repeat' (first | refine d1 ?_ | refine dd ?_ | (show ∀ _ : Nat, T _ _ _ _ _; intro _) | (show T _ (.code .ret :: _) _ _ _; refine T_retV _ rfl (nilC _ |>.trans (Hle.nth 0 rfl)) ⟨_, trivial, rfl, rfl⟩))
    have h5 : ¬ (s < 0 ∨ (l.length : Int) ≤ s) := by
      intro h9
      have : (decide (s < 0) || decide ((l.length : Int) ≤ s)) = true := by simpa using h9
      rw [this] at h4; cases h4
    rw [if_neg h5] at hdr
    have hld : 0 < i → RdC w bk9 (ok9 + ((i : Int) - 1).toNat * 1) [.int .i64 p9] := fun h0 => by
      have h8 := src_int hks (k := i - 1) (by omega) (hp9 h0)
      rw [show ok9 + ((i : Int) - 1).toNat * 1 = ok9 + ((i - 1 : Nat) : Int).toNat * 1 by omega]
      exact h8
    repeat' (first | refine d1 ?_ | refine dd ?_ | (show T _ (.ops _ (_ :: _) :: _) _ _ _; first | refine T_val rfl (Val.load (v := .int .i64 p9) rfl (fun hg => rdOld (hld (by ((simp only [List.cons_append, List.nil_append, GP, dstL, lookE, Nat.beq, cond, List.getElem?_cons_zero, List.getElem?_cons_succ, Option.bind_some, and_true, Bool.and_eq_true, Bool.or_eq_true, Bool.and_eq_false_iff, Bool.or_eq_false_iff, Bool.not_eq_true', Bool.not_eq_false', decide_eq_true_eq, decide_eq_false_iff_not] at hg); omega))))) rfl rfl rfl ?_ | refine T_valC rfl (Val.load (v := .int .i64 p9) rfl (fun hg => rdOld (hld (by ((simp only [List.cons_append, List.nil_append, GP, dstL, lookE, Nat.beq, cond, List.getElem?_cons_zero, List.getElem?_cons_succ, Option.bind_some, and_true, Bool.and_eq_true, Bool.or_eq_true, Bool.and_eq_false_iff, Bool.or_eq_false_iff, Bool.not_eq_true', Bool.not_eq_false', decide_eq_true_eq, decide_eq_false_iff_not] at hg); omega))))) rfl rfl rfl rfl rfl ?_) | (show T _ (.run _ _ (_ :: _) _ _ :: _) _ _ _; first | refine rv rfl rfl rfl (Val.load (v := .int .i64 p9) rfl (fun hg => rdOld (hld (by ((simp only [List.cons_append, List.nil_append, GP, dstL, lookE, Nat.beq, cond, List.getElem?_cons_zero, List.getElem?_cons_succ, Option.bind_some, and_true, Bool.and_eq_true, Bool.or_eq_true, Bool.and_eq_false_iff, Bool.or_eq_false_iff, Bool.not_eq_true', Bool.not_eq_false', decide_eq_true_eq, decide_eq_false_iff_not] at hg); omega))))) rfl rfl rfl ?_ | refine rg rfl rfl rfl (Val.load (v := .int .i64 p9) rfl (fun hg => rdOld (hld (by ((simp only [List.cons_append, List.nil_append, GP, dstL, lookE, Nat.beq, cond, List.getElem?_cons_zero, List.getElem?_cons_succ, Option.bind_some, and_true, Bool.and_eq_true, Bool.or_eq_true, Bool.and_eq_false_iff, Bool.or_eq_false_iff, Bool.not_eq_true', Bool.not_eq_false', decide_eq_true_eq, decide_eq_false_iff_not] at hg); omega))))) rfl rfl rfl rfl rfl ?_) | (show ∀ _ : Nat, T _ _ _ _ _; intro _))
    refine T_if rfl (fun h6 => ?_) (fun h6 => ?_)
    · have h7 : 0 < i ∧ s ≤ p9 := by
        simp only [Bool.and_eq_true, decide_eq_true_eq] at h6
        omega
      rw [hpv, if_pos h7.1, if_pos h7.2] at hdr
      rw [hbad 10 (by decide) hdr]
      repeat' (first | refine d1 ?_ | refine dd ?_ | (show ∀ _ : Nat, T _ _ _ _ _; intro _) | (show T _ (.code .ret :: _) _ _ _; refine T_retV _ rfl (nilC _ |>.trans (Hle.nth 0 rfl)) ⟨_, trivial, rfl, rfl⟩))
    have h7 : ¬ (s ≤ prvK keep i) := by
      rw [hpv]
      split
      · intro h8
        rw [decide_eq_true h8, decide_eq_true (show (0 : Int) < (i : Int) by omega)] at h6
        cases h6
      · omega
    rw [if_neg h7] at hdr
    repeat' (first | refine d1 ?_ | refine dd ?_ | (show ∀ _ : Nat, T _ _ _ _ _; intro _))
    exact T_backX (i + 1) ⟨by omega, hdr.symm⟩ (by omega)
  simp only [decide_eq_false_iff_not] at h3
  obtain rfl : i = keep.length := by omega
  rw [List.drop_of_length_le (Nat.le_refl _)] at hkg
  have hk9 : keepG l.length (-1) keep = 0 := hkg.symm
  obtain ⟨kk, rfl, hkn, hasc, -⟩ := keepG_ok hk9
  have hkl : (intN kk).length = kk.length := by unfold intN; rw [List.length_map]
  rw [hkl] at hk hk0 hks ⊢
  have hne : kk ≠ [] := fun h9 => by rw [h9] at hk0; exact absurd hk0 (Nat.lt_irrefl 0)
  have hpj : prjV l cols (intN kk) = (prjC kk cols, 0) := prjV_ok hchk hne hkn hasc
  rw [hpj]
  repeat' (first | refine d1 ?_ | refine dd ?_ | (show ∀ _ : Nat, T _ _ _ _ _; intro _))
  refine T_le (dat_nil _) ?_
  refine T_nilrow 27 1 ?_
  refine T_loopX (fun s : Nat × (Option Addr × Nat) × List Value => [(11, .int .i64 (s.1 : Nat)), (10, .slice s.2.1.1 (prjC kk (cols.take s.1)).length s.2.1.2)]) (fun s => [row 27 1 s.2.1.1 s.2.1.2 (prjC kk (cols.take s.1)).length s.2.2, dat s.2.2 ((prjC kk (cols.take s.1)).map intsD)]) (fun s => s.1 ≤ cols.length) (fun s => cols.length - s.1) (0, (none, 0), []) (Nat.zero_le _) ?_
  rintro ⟨q9, ⟨Ao, capo⟩, hs9⟩ hq9
  dsimp only at hq9 ⊢
  repeat' (first | refine d1 ?_ | refine dd ?_ | (show ∀ _ : Nat, T _ _ _ _ _; intro _))
  refine T_if rfl (fun h4 => ?_) (fun h4 => ?_)
  · simp only [decide_eq_true_eq] at h4
    have hqn : q9 < cols.length := by omega
    obtain ⟨b, o, rfl⟩ := hcs.base (by omega)
    obtain ⟨r, hr⟩ : ∃ r, cols[q9]? = some r := ⟨_, List.getElem?_eq_getElem hqn⟩
    have hrm := List.mem_of_getElem? hr
    obtain ⟨Au, capu, hu, -, -, hA⟩ := hrows.tabRow hr
    have hco : ColOk l r := ColsOk.colOk (l := l) hok hrm
    have hrl : r.length = l.length := hco.1
    have hr0 := rowHd hcs hqn hu
    have hsr := rowSrc hA
    have htk := take_snoc _ _ _ hr
    have hps : prjC kk (cols.take (q9 + 1)) = prjC kk (cols.take q9) ++ if anyP (prjR kk r) = true then [prjR kk r] else [] := by rw [htk, prjC_snoc]
    have hpl : (prjC kk (cols.take q9)).length ≤ q9 := by
      unfold prjC
      have h9 := List.length_filter_le anyP ((cols.take q9).map (prjR kk))
      rw [List.length_map, List.length_take] at h9
      omega
    repeat' (first | refine d1 ?_ | refine dd ?_ | (show ∀ _ : Nat, T _ _ _ _ _; intro _))
    refine T_nilrow 3 1 ?_
    refine T_loopX (fun s : Nat × (Option Addr × Nat) => [(14, .int .i64 (s.1 : Nat)), (12, .slice s.2.1 s.1 s.2.2), (13, .bool (anyP (prjR (kk.take s.1) r)))]) (fun s => [row 3 1 s.2.1 s.2.2 s.1 ((prjR (kk.take s.1) r).map (Value.int .i64)), row 27 1 Ao capo (prjC kk (cols.take q9)).length hs9, dat hs9 ((prjC kk (cols.take q9)).map intsD)]) (fun s => s.1 ≤ kk.length) (fun s => kk.length - s.1) (0, (none, 0)) (Nat.zero_le _) ?_
    rintro ⟨j, ⟨A5, cap5⟩⟩ hj
    dsimp only at hj ⊢
    repeat' (first | refine d1 ?_ | refine dd ?_ | (show ∀ _ : Nat, T _ _ _ _ _; intro _))
    refine T_if rfl (fun h5 => ?_) (fun h5 => ?_)
    · simp only [decide_eq_true_eq] at h5
      have hjn : j < kk.length := by omega
      obtain ⟨s, hs8⟩ : ∃ s, kk[j]? = some s := ⟨_, List.getElem?_eq_getElem hjn⟩
      have hsl := hkn s (List.mem_of_getElem? hs8)
      have hr1 := src_int hks hjn (show (intN kk)[j]? = some (s : Int) by unfold intN; rw [List.getElem?_map, hs8]; rfl)
      obtain ⟨bu, ou, rfl⟩ := hsr.base (by omega)
      obtain ⟨z, hz⟩ : ∃ z, r[s]? = some z := ⟨_, List.getElem?_eq_getElem (by omega)⟩
      have hr2 := src_int hsr (by omega) hz
      have hzd : r.getD s (-1) = z := by rw [List.getD_eq_getElem?_getD, hz]; rfl
      have hsn : (prjR (kk.take (j + 1)) r).map (Value.int .i64) = (prjR (kk.take j) r).map (Value.int .i64) ++ flatP [(0, .int .i64 z)] := by
        rw [take_snoc _ _ _ hs8, prjR_snoc, List.map_append, hzd]
        rfl
      have hsa : anyP (prjR (kk.take (j + 1)) r) = (anyP (prjR (kk.take j) r) || decide (0 ≤ z)) := by rw [take_snoc _ _ _ hs8, prjR_snoc, anyP_snoc, hzd]
      repeat' (first | refine d1 ?_ | (show ∀ _ : Nat, T _ _ _ _ _; intro _))
      refine rsH [row 27 1 Ao capo (prjC kk (cols.take q9)).length hs9, dat hs9 ((prjC kk (cols.take q9)).map intsD)] 1000 [0, 1, 2, 3, 4, 5, 6, 7, 8, 9, 10, 11, 12, 13] ?_
      repeat' (first | refine d1 ?_ | refine dd ?_ | (show T _ (.run _ _ (_ :: _) _ _ :: _) _ _ _; first | refine ro rfl rfl (OpT.litW rfl rfl rfl rfl rfl rfl rfl rfl rfl rfl rfl (fun b3 => ⟨fun _ => Hle.sub, ?_⟩)) | refine ro rfl rfl (OpT.append (A := A5) rfl rfl rfl rfl rfl rfl rfl rfl rfl rfl (fun w hw => Src.own hw rfl) rfl (by dsimp only; omega) (by omega) (fun A' cap' hA' => ⟨fun _ => Hle.sub, ?_⟩))) | (show ∀ _ : Nat, T _ _ _ _ _; intro _))
      refine T_backX (j + 1, (A', cap')) (by dsimp only; omega) (by dsimp only; omega) (hE := ⟨rfl, rfl, by dsimp only; rw [hsa]; rfl, trivial⟩) (hG := ?_)
      dsimp only
      rw [hsn]
      exact Hle.srt
    · simp only [decide_eq_false_iff_not] at h5
      obtain rfl : j = kk.length := by omega
      rw [List.take_of_length_le (Nat.le_refl _)]
      repeat' (first | refine d1 ?_ | refine dd ?_ | (show ∀ _ : Nat, T _ _ _ _ _; intro _))
      refine T_if rfl (fun h6 => ?_) (fun h6 => ?_)
      · rw [if_pos h6] at hps
        repeat' (first | refine d1 ?_ | refine dd ?_ | (show T _ (.ops _ (_ :: _) :: _) _ _ _; refine T_op (OpT.append (A := Ao) rfl rfl rfl rfl rfl rfl rfl rfl rfl rfl (fun w hw => Src.own hw rfl) rfl (by dsimp only; omega) (by omega) (fun A' cap' hA' => ?_))) | (show ∀ _ : Nat, T _ _ _ _ _; intro _))
        refine T_backX (q9 + 1, (A', cap'), hs9 ++ [.slice A5 kk.length cap5]) (by dsimp only; omega) (by dsimp only; omega) (hE := ⟨rfl, by dsimp only; rw [hps, List.length_append]; rfl, trivial⟩) (hG := ?_)
        dsimp only
        rw [hps, List.length_append, show [prjR kk r].length = 1 from rfl]
        exact (Hle.srt (K := [row 3 1 A5 cap5 kk.length ((prjR kk r).map (Value.int .i64)), dat hs9 ((prjC kk (cols.take q9)).map intsD), row 27 1 A' cap' ((prjC kk (cols.take q9)).length + 1) (hs9 ++ flatP [(0, .slice A5 kk.length cap5)])])).trans (out_hle (cl := prjR kk r) rfl)
      · rw [if_neg (by rw [h6]; simp), List.append_nil] at hps
        repeat' (first | refine d1 ?_ | refine dd ?_ | (show ∀ _ : Nat, T _ _ _ _ _; intro _))
        exact T_backX (q9 + 1, (Ao, capo), hs9) (by dsimp only; omega) (by dsimp only; omega) (hE := ⟨rfl, by dsimp only; rw [hps]; rfl, trivial⟩) (hG := by dsimp only; rw [hps]; exact Hle.tail _ _)
  · simp only [decide_eq_false_iff_not] at h4
    obtain rfl : q9 = cols.length := by omega
    rw [List.take_of_length_le (Nat.le_refl _)]
    repeat' (first | refine d1 ?_ | refine dd ?_ | (show ∀ _ : Nat, T _ _ _ _ _; intro _) | (show T _ (.code .ret :: _) _ _ _; refine T_retV _ rfl dat_row ⟨_, trivial, rfl, by rfl⟩))
end Go.Proofs.YtofikdpbagnjbaaGreatDoor
namespace Go.Proofs.YtofikdpbagnjbaaGreatDoor
open Go.RowKit Go.Shelf Go.Proofs
set_option maxRecDepth 100000
set_option maxHeartbeats 1000000

end Go.Proofs.YtofikdpbagnjbaaGreatDoor
namespace Go.Proofs.YtofikdpbagnjbaaGreatDoor
open Go.RowKit Go.Shelf Go.Proofs
set_option maxRecDepth 100000
set_option maxHeartbeats 1000000

end Go.Proofs.YtofikdpbagnjbaaGreatDoor
namespace Go.Proofs.YtofikdpbagnjbaaGreatDoor
open Go.RowKit Go.Shelf Go.Proofs
set_option maxRecDepth 100000
set_option maxHeartbeats 1000000

def RvIn (l r : List Tok) (i : Nat) : Prop := r.length = l.length ∧ ∀ k, k < l.length → r[k]? = if k < i ∨ l.length ≤ k + i then l[l.length - 1 - k]? else l[k]?
theorem RvIn.zero (l : List Tok) : RvIn l l 0 := ⟨rfl, fun k hk => by rw [if_neg (by omega)]⟩
theorem RvIn.step {l r : List Tok} {i : Nat} (h : RvIn l r i) (hi : 2 * i + 1 < l.length) : RvIn l ((r.set i (tkA r (l.length - 1 - i))).set (l.length - 1 - i) (tkA r i)) (i + 1) := by
  obtain ⟨h1, h2⟩ := h
  have e1 : r[l.length - 1 - i]? = l[l.length - 1 - i]? := by rw [h2 _ (by omega), if_neg (by omega)]
  have e2 : r[i]? = l[i]? := by rw [h2 _ (by omega), if_neg (by omega)]
  refine ⟨by simp [h1], fun k hk => ?_⟩
  rw [List.getElem?_set, List.getElem?_set, List.length_set]
  by_cases hk1 : l.length - 1 - i = k
  · rw [if_pos hk1, if_pos (by omega), if_pos (by omega), show l.length - 1 - k = i by omega, ← e2, tkA_get (by omega)]
  · rw [if_neg hk1]
    by_cases hk2 : i = k
    · subst hk2
      rw [if_pos rfl, if_pos (by omega), if_pos (by omega), ← e1, tkA_get (by omega)]
    · rw [if_neg hk2, h2 k hk]
      by_cases h3 : k < i ∨ l.length ≤ k + i
      · rw [if_pos h3, if_pos (by omega)]
      · rw [if_neg h3, if_neg (by omega)]
theorem RvIn.all {l r : List Tok} {i : Nat} (h : RvIn l r i) (hi : l.length ≤ 2 * i + 1) : r = l.reverse := by
  obtain ⟨h1, h2⟩ := h
  apply List.ext_getElem?
  intro k
  by_cases hk : k < l.length
  · rw [h2 k hk, List.getElem?_reverse hk]
    split
    · rfl
    · rw [show l.length - 1 - k = k by omega]
  · rw [List.getElem?_eq_none (by omega), List.getElem?_eq_none (by simp; omega)]
end Go.Proofs.YtofikdpbagnjbaaGreatDoor
namespace Go.Proofs.YtofikdpbagnjbaaGreatDoor
open Go.RowKit Go.Shelf Go.Proofs
set_option maxRecDepth 100000
set_option maxHeartbeats 1000000

end Go.Proofs.YtofikdpbagnjbaaGreatDoor
namespace Go.Proofs.YtofikdpbagnjbaaGreatDoor
open Go.RowKit Go.Shelf Go.Proofs
set_option maxRecDepth 100000
set_option maxHeartbeats 1000000

theorem oneRows {R : Rdr} : ∀ {m : List (List Int)} {cs : List Value}, Rd R cs (m.map intsD) → oneCells cs = true
  | [], cs, h => by cases h; rfl
  | r :: m, [], h => by cases h
  | r :: m, x :: cs, h => by
    obtain ⟨h1, h2⟩ := Rd.cons_inv (d := intsD r) h
    obtain ⟨A, cap, rfl, -⟩ := h1.row1
    show (true && oneCells cs) = true
    rw [oneRows h2]; rfl
def RvS (l r : List TS) (i : Nat) : Prop := r.length = l.length ∧ ∀ k, k < l.length → r[k]? = if k < i ∨ l.length ≤ k + i then l[l.length - 1 - k]? else l[k]?
theorem RvS.zero (l : List TS) : RvS l l 0 := ⟨rfl, fun k hk => by rw [if_neg (by omega)]⟩
theorem tsA_get2 {l : List TS} {i : Nat} (h : i < l.length) : l[i]? = some (tsA l i) := by unfold tsA; rw [List.getD_eq_getElem?_getD, List.getElem?_eq_getElem h]; rfl
theorem RvS.step {l r : List TS} {i : Nat} (h : RvS l r i) (hi : 2 * i + 1 < l.length) : RvS l ((r.set i (tsA r (l.length - 1 - i))).set (l.length - 1 - i) (tsA r i)) (i + 1) := by
  obtain ⟨h1, h2⟩ := h
  have e1 : r[l.length - 1 - i]? = l[l.length - 1 - i]? := by rw [h2 _ (by omega), if_neg (by omega)]
  have e2 : r[i]? = l[i]? := by rw [h2 _ (by omega), if_neg (by omega)]
  refine ⟨by simp [h1], fun k hk => ?_⟩
  rw [List.getElem?_set, List.getElem?_set, List.length_set]
  by_cases hk1 : l.length - 1 - i = k
  · rw [if_pos hk1, if_pos (by omega), if_pos (by omega), show l.length - 1 - k = i by omega, ← e2, tsA_get2 (by omega)]
  · rw [if_neg hk1]
    by_cases hk2 : i = k
    · subst hk2
      rw [if_pos rfl, if_pos (by omega), if_pos (by omega), ← e1, tsA_get2 (by omega)]
    · rw [if_neg hk2, h2 k hk]
      by_cases h3 : k < i ∨ l.length ≤ k + i
      · rw [if_pos h3, if_pos (by omega)]
      · rw [if_neg h3, if_neg (by omega)]
theorem RvS.all {l r : List TS} {i : Nat} (h : RvS l r i) (hi : l.length ≤ 2 * i + 1) : r = l.reverse := by
  obtain ⟨h1, h2⟩ := h
  apply List.ext_getElem?
  intro k
  by_cases hk : k < l.length
  · rw [h2 k hk, List.getElem?_reverse hk]
    split
    · rfl
    · rw [show l.length - 1 - k = k by omega]
  · rw [List.getElem?_eq_none (by omega), List.getElem?_eq_none (by simp; omega)]
end Go.Proofs.YtofikdpbagnjbaaGreatDoor
namespace Go.Proofs.YtofikdpbagnjbaaGreatDoor
open Go.RowKit Go.Shelf Go.Proofs
set_option maxRecDepth 100000
set_option maxHeartbeats 1000000

open Classical in
noncomputable def sizT (l : List TS) : Int × Int := if l.length = 0 then (0, 5) else if 32 < l.length ∨ ∃ t ∈ l, 1024 < t.n then (0, 4) else if volL (lens l) ≤ 1073741824 then (((volL (lens l) : Nat) : Int), 0) else (0, 4)
theorem sizeT_spec (A : Option Addr) (n ca : Nat) (l : List TS) (p q : Nat) (w : World) (hst : Std w) (hs : Src w 1 A n (l.map TS.val)) (hn : l.length = n) (hl : TsOk w l) (hgr : great19B l p q = false) (hp : p ≤ 32) (hq : q ≤ 1000) :
    Spec Tryz.prog 70 [.slice A n ca] w (fun v R => v = .tuple #[.int .i64 (sizT l).1, .int .i64 (sizT l).2] ∧ R = []) := by
  subst hn
  obtain ⟨g1, g2, g3⟩ := great19_no hl hgr
  refine spec_of sg Tryz.func70 rfl rfl rfl ?_
  by_cases h : l.length ≠ 0 ∧ (32 < l.length ∨ ∃ t ∈ l, 1024 < t.n)
  · have e : sizT l = (0, 4) := by unfold sizT; rw [if_neg h.1, if_pos h.2]
    rw [e]
    repeat' (first | refine d1 ?_ | refine dd ?_ | (show T _ (.ops _ (_ :: _) :: _) _ _ _; first | refine T_call rfl rfl rfl rfl rfl (fun w hw => srcsBig_spec A l.length ca l w (rdSrc hs w hw) rfl (by omega) h.1 h.2) ?_ | refine T_callC rfl rfl rfl rfl rfl rfl rfl (fun hg w hw => srcsBig_spec A l.length ca l w (rdSrc hs w hw) rfl (by omega) h.1 h.2) ?_) | (show T _ (.run _ _ (_ :: _) _ _ :: _) _ _ _; first | refine rc rfl rfl rfl rfl rfl rfl rfl (fun w hw => srcsBig_spec A l.length ca l w (rdSrc hs w hw) rfl (by omega) h.1 h.2) ?_ | refine rcG rfl rfl rfl rfl rfl rfl rfl rfl rfl (fun hg w hw => srcsBig_spec A l.length ca l w (rdSrc hs w hw) rfl (by omega) h.1 h.2) ?_) | (show ∀ _ : Nat, T _ _ _ _ _; intro _))
    refine T_if rfl (fun h => ?_) (fun h => by exfalso; simp at h)
    repeat' (first | refine d1 ?_ | refine dd ?_ | (show ∀ _ : Nat, T _ _ _ _ _; intro _) | (show T _ (.code .ret :: _) _ _ _; refine T_retV [] rfl (Hle.none _) ⟨rfl, rfl⟩))
  have hgp : Grp w A l.length l := by
    refine ⟨hst, hs, rfl, ?_, hl, fun t ht => ?_, g3⟩
    · refine Classical.byContradiction fun h9 => h ⟨by omega, .inl (by omega)⟩
    · rcases g2 t ht with h9 | h9
      · omega
      · exact absurd ⟨by have := List.length_pos_of_mem ht; omega, .inr ⟨t, ht, h9.1⟩⟩ h
  repeat' (first | refine d1 ?_ | refine dd ?_ | (show T _ (.ops _ (_ :: _) :: _) _ _ _; first | refine T_call rfl rfl rfl rfl rfl (fun w hw => srcs19_spec A l.length ca l w (hgp.cls hw)) ?_ | refine T_callC rfl rfl rfl rfl rfl rfl rfl (fun hg w hw => srcs19_spec A l.length ca l w (hgp.cls hw)) ?_) | (show T _ (.run _ _ (_ :: _) _ _ :: _) _ _ _; first | refine rc rfl rfl rfl rfl rfl rfl rfl (fun w hw => srcs19_spec A l.length ca l w (hgp.cls hw)) ?_ | refine rcG rfl rfl rfl rfl rfl rfl rfl rfl rfl (fun hg w hw => srcs19_spec A l.length ca l w (hgp.cls hw)) ?_) | (show ∀ _ : Nat, T _ _ _ _ _; intro _))
  by_cases h0 : l.length = 0
  · have e : sizT l = (0, 5) := if_pos h0
    rw [e, if_pos h0]
    refine T_if rfl (fun h => ?_) (fun h => by exfalso; simp at h)
    repeat' (first | refine d1 ?_ | refine dd ?_ | (show ∀ _ : Nat, T _ _ _ _ _; intro _) | (show T _ (.code .ret :: _) _ _ _; refine T_retV [] rfl (Hle.none _) ⟨rfl, rfl⟩))
  rw [if_neg h0]
  have hno : ¬ (32 < l.length ∨ ∃ t ∈ l, 1024 < t.n) := fun h9 => h ⟨h0, h9⟩
  refine T_if rfl (fun h => by exfalso; simp at h) (fun _ => ?_)
  repeat' (first | refine d1 ?_ | refine dd ?_ | (show T _ (.ops _ (_ :: _) :: _) _ _ _; first | refine T_call rfl rfl rfl rfl rfl (fun w hw => size19_spec A l.length ca l 1073741824 w (hgp.cls hw) ⟨by omega, by omega⟩) ?_ | refine T_callC rfl rfl rfl rfl rfl rfl rfl (fun hg w hw => size19_spec A l.length ca l 1073741824 w (hgp.cls hw) ⟨by omega, by omega⟩) ?_) | (show T _ (.run _ _ (_ :: _) _ _ :: _) _ _ _; first | refine rc rfl rfl rfl rfl rfl rfl rfl (fun w hw => size19_spec A l.length ca l 1073741824 w (hgp.cls hw) ⟨by omega, by omega⟩) ?_ | refine rcG rfl rfl rfl rfl rfl rfl rfl rfl rfl (fun hg w hw => size19_spec A l.length ca l 1073741824 w (hgp.cls hw) ⟨by omega, by omega⟩) ?_) | (show ∀ _ : Nat, T _ _ _ _ _; intro _))
  by_cases h2 : volL (lens l) ≤ 1073741824
  · have e : sizT l = (((volL (lens l) : Nat) : Int), 0) := by unfold sizT; rw [if_neg h0, if_neg hno, if_pos h2]
    have ec : capV (volL (lens l)) 1073741824 = volL (lens l) := if_pos h2
    rw [e, ec]
    refine T_if rfl (fun h => by exfalso; simp at h; omega) (fun _ => ?_)
    repeat' (first | refine d1 ?_ | refine dd ?_ | (show ∀ _ : Nat, T _ _ _ _ _; intro _) | (show T _ (.code .ret :: _) _ _ _; refine T_retV [] rfl (Hle.none _) ⟨rfl, rfl⟩))
  · have e : sizT l = (0, 4) := by unfold sizT; rw [if_neg h0, if_neg hno, if_neg h2]
    have ec : capV (volL (lens l)) 1073741824 = 1073741824 + 1 := if_neg h2
    rw [e, ec]
    refine T_if rfl (fun _ => ?_) (fun h => by exfalso; simp at h)
    repeat' (first | refine d1 ?_ | refine dd ?_ | (show ∀ _ : Nat, T _ _ _ _ _; intro _) | (show T _ (.code .ret :: _) _ _ _; refine T_retV [] rfl (Hle.none _) ⟨rfl, rfl⟩))
theorem sizeRT_spec (A : Option Addr) (n ca : Nat) (l : List TS) (p q : Nat) (w : World) (hst : Std w) (hs : Src w 1 A n (l.map TS.val)) (hn : l.length = n) (hl : TsOk w l) (hgr : great19B l p q = false) (hp : p ≤ 32) (hq : q ≤ 1000) :
    Spec Tryz.prog 71 [.slice A n ca] w (fun v R => v = .tuple #[.int .i64 (sizT l).1, .int .i64 (sizT l).2] ∧ R = []) := by
  subst hn
  obtain ⟨g1, g2, g3⟩ := great19_no hl hgr
  refine spec_of sg Tryz.func71 rfl rfl rfl ?_
  by_cases h : l.length ≠ 0 ∧ (32 < l.length ∨ ∃ t ∈ l, 1024 < t.n)
  · have e : sizT l = (0, 4) := by unfold sizT; rw [if_neg h.1, if_pos h.2]
    rw [e]
    repeat' (first | refine d1 ?_ | refine dd ?_ | (show T _ (.ops _ (_ :: _) :: _) _ _ _; first | refine T_call rfl rfl rfl rfl rfl (fun w hw => srcsRBig_spec A l.length ca l w (rdSrc hs w hw) rfl (by omega) h.1 h.2) ?_ | refine T_callC rfl rfl rfl rfl rfl rfl rfl (fun hg w hw => srcsRBig_spec A l.length ca l w (rdSrc hs w hw) rfl (by omega) h.1 h.2) ?_) | (show T _ (.run _ _ (_ :: _) _ _ :: _) _ _ _; first | refine rc rfl rfl rfl rfl rfl rfl rfl (fun w hw => srcsRBig_spec A l.length ca l w (rdSrc hs w hw) rfl (by omega) h.1 h.2) ?_ | refine rcG rfl rfl rfl rfl rfl rfl rfl rfl rfl (fun hg w hw => srcsRBig_spec A l.length ca l w (rdSrc hs w hw) rfl (by omega) h.1 h.2) ?_) | (show ∀ _ : Nat, T _ _ _ _ _; intro _))
    refine T_if rfl (fun h => ?_) (fun h => by exfalso; simp at h)
    repeat' (first | refine d1 ?_ | refine dd ?_ | (show ∀ _ : Nat, T _ _ _ _ _; intro _) | (show T _ (.code .ret :: _) _ _ _; refine T_retV [] rfl (Hle.none _) ⟨rfl, rfl⟩))
  have hgp : Grp w A l.length l := by
    refine ⟨hst, hs, rfl, ?_, hl, fun t ht => ?_, g3⟩
    · refine Classical.byContradiction fun h9 => h ⟨by omega, .inl (by omega)⟩
    · rcases g2 t ht with h9 | h9
      · omega
      · exact absurd ⟨by have := List.length_pos_of_mem ht; omega, .inr ⟨t, ht, h9.1⟩⟩ h
  repeat' (first | refine d1 ?_ | refine dd ?_ | (show T _ (.ops _ (_ :: _) :: _) _ _ _; first | refine T_call rfl rfl rfl rfl rfl (fun w hw => srcs19R_spec A l.length ca l w (hgp.cls hw)) ?_ | refine T_callC rfl rfl rfl rfl rfl rfl rfl (fun hg w hw => srcs19R_spec A l.length ca l w (hgp.cls hw)) ?_) | (show T _ (.run _ _ (_ :: _) _ _ :: _) _ _ _; first | refine rc rfl rfl rfl rfl rfl rfl rfl (fun w hw => srcs19R_spec A l.length ca l w (hgp.cls hw)) ?_ | refine rcG rfl rfl rfl rfl rfl rfl rfl rfl rfl (fun hg w hw => srcs19R_spec A l.length ca l w (hgp.cls hw)) ?_) | (show ∀ _ : Nat, T _ _ _ _ _; intro _))
  by_cases h0 : l.length = 0
  · have e : sizT l = (0, 5) := if_pos h0
    rw [e, if_pos h0]
    refine T_if rfl (fun h => ?_) (fun h => by exfalso; simp at h)
    repeat' (first | refine d1 ?_ | refine dd ?_ | (show ∀ _ : Nat, T _ _ _ _ _; intro _) | (show T _ (.code .ret :: _) _ _ _; refine T_retV [] rfl (Hle.none _) ⟨rfl, rfl⟩))
  rw [if_neg h0]
  have hno : ¬ (32 < l.length ∨ ∃ t ∈ l, 1024 < t.n) := fun h9 => h ⟨h0, h9⟩
  have hnb := hgp.nb
  refine T_if rfl (fun h => by exfalso; simp at h) (fun _ => ?_)
  repeat' (first | refine d1 ?_ | refine dd ?_ | (show T _ (.ops _ (_ :: _) :: _) _ _ _; first | refine T_call rfl rfl rfl rfl rfl (fun w hw => size19R_spec A l.length ca l w (rdSrc hs w hw) rfl (by omega) (fun t ht => by have := hnb t ht; omega)) ?_ | refine T_callC rfl rfl rfl rfl rfl rfl rfl (fun hg w hw => size19R_spec A l.length ca l w (rdSrc hs w hw) rfl (by omega) (fun t ht => by have := hnb t ht; omega)) ?_) | (show T _ (.run _ _ (_ :: _) _ _ :: _) _ _ _; first | refine rc rfl rfl rfl rfl rfl rfl rfl (fun w hw => size19R_spec A l.length ca l w (rdSrc hs w hw) rfl (by omega) (fun t ht => by have := hnb t ht; omega)) ?_ | refine rcG rfl rfl rfl rfl rfl rfl rfl rfl rfl (fun hg w hw => size19R_spec A l.length ca l w (rdSrc hs w hw) rfl (by omega) (fun t ht => by have := hnb t ht; omega)) ?_) | (show ∀ _ : Nat, T _ _ _ _ _; intro _))
  by_cases h2 : volL (lens l) ≤ 1073741824
  · have e : sizT l = (((volL (lens l) : Nat) : Int), 0) := by unfold sizT; rw [if_neg h0, if_neg hno, if_pos h2]
    have ec : sizV 1 (lens l) = volL (lens l) := by rw [sizV_small _ _ (by omega), Nat.one_mul]
    rw [e, ec]
    refine T_if rfl (fun h => by exfalso; simp at h; omega) (fun _ => ?_)
    repeat' (first | refine d1 ?_ | refine dd ?_ | (show ∀ _ : Nat, T _ _ _ _ _; intro _) | (show T _ (.code .ret :: _) _ _ _; refine T_retV [] rfl (Hle.none _) ⟨rfl, rfl⟩))
  · have e : sizT l = (0, 4) := by unfold sizT; rw [if_neg h0, if_neg hno, if_neg h2]
    have hgt := sizV_great (lens l) 1 (by omega)
    rw [e]
    refine T_if rfl (fun _ => ?_) (fun h => by exfalso; simp at h; omega)
    repeat' (first | refine d1 ?_ | refine dd ?_ | (show ∀ _ : Nat, T _ _ _ _ _; intro _) | (show T _ (.code .ret :: _) _ _ _; refine T_retV [] rfl (Hle.none _) ⟨rfl, rfl⟩))
def subsI (k i : Nat) (b : Nat) : List (List Nat) := (subsL k (i + 1) b).map (i :: ·)
def subsP (k a b j : Nat) : List (List Nat) := (List.range' a j).flatMap fun i => subsI k i b
theorem subsP_succ (k a b j : Nat) : subsP k a b (j + 1) = subsP k a b j ++ subsI k (a + j) b := by
  unfold subsP
  rw [List.range'_concat, List.flatMap_append]
  simp
theorem subsL_P (k a b : Nat) : subsL (k + 1) a b = subsP k a b (b - a) := rfl
theorem subsP_len {k b : Nat} (h : ∀ a, (subsL k a b).length ≤ 5 ^ k) (a : Nat) : ∀ j, (subsP k a b j).length ≤ j * 5 ^ k
  | 0 => by simp [subsP]
  | j + 1 => by
    have h1 := subsP_len h a j
    have h2 := h (a + j + 1)
    rw [subsP_succ, List.length_append, Nat.succ_mul, subsI, List.length_map]
    omega
theorem subsL_len {b : Nat} (hb : b ≤ 4) : ∀ k a, (subsL k a b).length ≤ 5 ^ k
  | 0, a => Nat.le_refl _
  | k + 1, a => by
    have h1 := subsP_len (fun a => subsL_len hb k a) a (b - a)
    have h2 : (b - a) * 5 ^ k ≤ 5 * 5 ^ k := Nat.mul_le_mul_right _ (by omega)
    rw [subsL_P, Nat.pow_succ, Nat.mul_comm (5 ^ k) 5]
    omega
theorem subsL_mem : ∀ (k a b : Nat), ∀ r ∈ subsL k a b, r.length = k
  | 0, _, _, r, h => by rw [List.mem_singleton.1 h]; rfl
  | k + 1, a, b, r, h => by
    obtain ⟨i, hi, hr⟩ := List.mem_flatMap.1 h
    obtain ⟨s, hs, rfl⟩ := List.mem_map.1 hr
    rw [List.length_cons, subsL_mem k _ _ s hs]
theorem subsets_spec : ∀ (k a b : Nat) (w : World), k ≤ 4 → a ≤ 5 → b ≤ 4 → Spec Tryz.prog 133 [.int .i64 (a : Nat), .int .i64 (b : Nat), .int .i64 (k : Nat)] w (fun v R => ∃ x : Value, True ∧ v = x ∧ R = [dat [x] [rowsD ((subsL k a b).map intN)]]) := by
  intro k
  induction k with
  | zero =>
    intro a b w _ ha hb
    refine spec_of sg Tryz.func133 rfl rfl rfl ?_
    repeat' (first | refine d1 ?_ | refine dd ?_ | (show ∀ _ : Nat, T _ _ _ _ _; intro _))
    refine T_if rfl (fun _ => ?_) (fun h => by exfalso; simp at h)
    repeat' (first | refine d1 ?_ | refine dd ?_ | (show ∀ _ : Nat, T _ _ _ _ _; intro _))
    rename_i b9
    repeat' (first | refine d1 ?_ | refine dd ?_ | (show ∀ _ : Nat, T _ _ _ _ _; intro _) | (show T _ (.code .ret :: _) _ _ _; refine T_retV _ rfl ((hle_unit (B := dat [.slice none 0 0] [intsD []]) (.s none 0 0 1 [] rfl (Nat.le_refl _) (by omega) (fun h => absurd h (by omega)) .nil .nil)).trans ((Hle.perm (List.Perm.swap _ _ _)).trans (dat_blk (sz := 1) (n := 1) (cs := [.slice none 0 0]) rfl (by omega)))) ⟨_, trivial, rfl, rfl⟩))
  | succ k ih =>
    intro a b w hk ha hb
    have hp5 : 5 ^ k ≤ 625 := Nat.le_trans (Nat.pow_le_pow_right (by omega) (show k ≤ 4 by omega)) (by decide)
    refine spec_of sg Tryz.func133 rfl rfl rfl ?_
    repeat' (first | refine d1 ?_ | refine dd ?_ | (show ∀ _ : Nat, T _ _ _ _ _; intro _))
    refine T_if rfl (fun h => by exfalso; simp at h; omega) (fun _ => ?_)
    repeat' (first | refine d1 ?_ | refine dd ?_ | (show ∀ _ : Nat, T _ _ _ _ _; intro _))
    refine T_le (dat_nil _) ?_
    refine T_nilrow 27 1 ?_
    refine T_loopX (fun s : Nat × (Option Addr × Nat) × List Value => [(8, .int .i64 ((a + s.1 : Nat) : Int)), (7, .slice s.2.1.1 (subsP k a b s.1).length s.2.1.2)]) (fun s => [row 27 1 s.2.1.1 s.2.1.2 (subsP k a b s.1).length s.2.2, dat s.2.2 (((subsP k a b s.1).map intN).map intsD)]) (fun s => s.1 ≤ b - a) (fun s => b - a - s.1) (0, (none, 0), []) (Nat.zero_le _) ?_
    rintro ⟨j, ⟨A, c⟩, hs⟩ hj
    dsimp only at hj ⊢
    have hPl := subsP_len (fun a => subsL_len hb k a) a j
    have hPj : j * 5 ^ k ≤ 4 * 625 := Nat.mul_le_mul (by omega) hp5
    have hLl := subsL_len hb k (a + j + 1)
    repeat' (first | refine d1 ?_ | refine dd ?_ | (show ∀ _ : Nat, T _ _ _ _ _; intro _))
    refine T_if rfl (fun h => ?_) (fun h => ?_)
    · simp only [decide_eq_true_eq] at h
      have hjb : j < b - a := by omega
      repeat' (first | refine d1 ?_ | refine dd ?_ | (show ∀ _ : Nat, T _ _ _ _ _; intro _))
      rw [show (((a + j : Nat) : Int) + 1) = ((a + j + 1 : Nat) : Int) by omega, show (((k + 1 : Nat) : Int) - 1) = ((k : Nat) : Int) by omega]
      repeat' (first | refine d1 ?_ | refine dd ?_ | (show T _ (.ops _ (_ :: _) :: _) _ _ _; refine T_op (OpT.call rfl rfl rfl rfl rfl (fun w hw => ih (a + j + 1) b w (by omega) (by omega) hb) ?_)) | (show ∀ _ : Nat, T _ _ _ _ _; intro _))
      rintro x R ⟨_, -, rfl, rfl⟩
      refine T_le (H' := [dat [x] [rowsD ((subsL k (a + j + 1) b).map intN)], row 27 1 A c (subsP k a b j).length hs, dat hs (((subsP k a b j).map intN).map intsD)]) (Hle.refl _) ?_
      refine T_open fun p hp => ?_
      obtain ⟨Ax, cx, csx, rfl, hx1, hx2, hxl, hxr, hxrows⟩ := hp.tab
      rw [List.length_map] at hx1 hxl hxr ⊢
      refine T_le (H' := [row 27 1 A c (subsP k a b j).length hs, dat hs (((subsP k a b j).map intN).map intsD), fz p]) Hle.srt ?_
      repeat' (first | refine d1 ?_ | refine dd ?_ | (show ∀ _ : Nat, T _ _ _ _ _; intro _))
      refine T_loopX (fun s : Nat × (Option Addr × Nat) × List Value => [(10, .int .i64 (s.1 : Nat)), (7, .slice s.2.1.1 ((subsP k a b j).length + s.1) s.2.1.2)]) (fun s => [row 27 1 s.2.1.1 s.2.1.2 ((subsP k a b j).length + s.1) s.2.2, dat s.2.2 (((subsP k a b j ++ (subsI k (a + j) b).take s.1).map intN).map intsD), fz p]) (fun s => s.1 ≤ (subsL k (a + j + 1) b).length) (fun s => (subsL k (a + j + 1) b).length - s.1) (0, (A, c), hs) (Nat.zero_le _) ?_ (hG := by rw [List.take_zero, List.append_nil]; exact Hle.refl _)
      rintro ⟨m, ⟨A2, c2⟩, hs2⟩ hm
      dsimp only at hm ⊢
      repeat' (first | refine d1 ?_ | refine dd ?_ | (show ∀ _ : Nat, T _ _ _ _ _; intro _))
      refine T_if rfl (fun h3 => ?_) (fun h3 => ?_)
      · simp only [decide_eq_true_eq] at h3
        have hmn : m < (subsL k (a + j + 1) b).length := by omega
        obtain ⟨bx, ox, rfl, hrx⟩ := hxr (by omega)
        obtain ⟨r, hr⟩ : ∃ r, (subsL k (a + j + 1) b)[m]? = some r := ⟨_, List.getElem?_eq_getElem hmn⟩
        obtain ⟨Ar, capr, hcs, hr1, hr2, -⟩ := hxrows.tabRow (i := m) (r := intN r) (by rw [List.getElem?_map, hr]; rfl)
        have hsr : ∀ {w' : World} {H : List HA} [FocusZ H p], Cls w w' H → Src w' 1 Ar (intN r).length ((intN r).map (Value.int .i64)) := fun {w' H} _ hw => ((rd_one hxrows hcs (by rw [List.getElem?_map, List.getElem?_map, hr]; rfl)).own hw).intsAt
        have hrl : (intN r).length ≤ 4 := by
          have h9 := subsL_mem k (a + j + 1) b r (List.mem_of_getElem? hr)
          unfold intN
          rw [List.length_map]; omega
        repeat' (first | refine d1 ?_ | refine dd ?_ | (show T _ (.ops _ (_ :: _) :: _) _ _ _; first | refine T_val rfl (Val.load rfl (fun hg => rdFz (p := p) (u := .slice Ar (intN r).length capr) (b := bx) (by rw [off1]; exact hrx m _ hcs))) rfl rfl rfl ?_ | refine T_valC rfl (Val.load rfl (fun hg => rdFz (p := p) (u := .slice Ar (intN r).length capr) (b := bx) (by rw [off1]; exact hrx m _ hcs))) rfl rfl rfl rfl rfl ?_) | (show T _ (.run _ _ (_ :: _) _ _ :: _) _ _ _; first | refine rv rfl rfl rfl (Val.load rfl (fun hg => rdFz (p := p) (u := .slice Ar (intN r).length capr) (b := bx) (by rw [off1]; exact hrx m _ hcs))) rfl rfl rfl ?_ | refine rg rfl rfl rfl (Val.load rfl (fun hg => rdFz (p := p) (u := .slice Ar (intN r).length capr) (b := bx) (by rw [off1]; exact hrx m _ hcs))) rfl rfl rfl rfl rfl ?_) | (show ∀ _ : Nat, T _ _ _ _ _; intro _))
        rename_i bl
        refine T_blk_rowh 1 1 rfl (by omega) ?_
        refine T_op (OpT.append (A := some ⟨bl, 0, none⟩) rfl rfl rfl rfl rfl rfl rfl rfl rfl rfl (fun w hw => hsr hw) (oneInts _) (by dsimp only; omega) (by omega) (fun A' cap' hA' => ?_))
        repeat' (first | refine d1 ?_ | refine dd ?_ | (show T _ (.ops _ (_ :: _) :: _) _ _ _; refine T_op (OpT.append (A := A2) rfl rfl rfl rfl rfl rfl rfl rfl rfl rfl (fun w hw => Src.own hw rfl) rfl (by dsimp only; omega) (by omega) (fun A'' cap'' hA'' => ?_))) | (show ∀ _ : Nat, T _ _ _ _ _; intro _))
        have hri : (intN ((a + j) :: r)).map (Value.int .i64) = flatP [(0, .int .i64 ((a + j : Nat) : Int))] ++ (intN r).map (Value.int .i64) := rfl
        have hst : (subsI k (a + j) b).take (m + 1) = (subsI k (a + j) b).take m ++ [(a + j) :: r] := take_snoc _ _ _ (by unfold subsI; rw [List.getElem?_map, hr]; rfl)
        refine T_backX (m + 1, (A'', cap''), hs2 ++ [.slice A' (1 + (intN r).length) cap']) (by dsimp only; omega) (by dsimp only; omega) (hE := ⟨rfl, rfl, trivial⟩) (hG := ?_)
        dsimp only
        obtain ⟨X, hX⟩ : ∃ X, X = subsP k a b j ++ (subsI k (a + j) b).take m := ⟨_, rfl⟩
        rw [hst, ← List.append_assoc, ← hX, List.map_append]
        exact (Hle.srt (K := [row 3 1 A' cap' (1 + (intN r).length) (flatP [(0, .int .i64 ((a + j : Nat) : Int))] ++ (intN r).map (Value.int .i64)), dat hs2 ((X.map intN).map intsD), row 27 1 A'' cap'' ((subsP k a b j).length + m + 1) (hs2 ++ flatP [(0, .slice A' (1 + (intN r).length) cap')]), fz p])).trans (out_hle (cl := intN ((a + j) :: r)) rfl)
      · simp only [decide_eq_false_iff_not] at h3
        have hme : m = (subsL k (a + j + 1) b).length := by omega
        have hps : subsP k a b (j + 1) = subsP k a b j ++ (subsI k (a + j) b).take m := by
          rw [subsP_succ, List.take_of_length_le (by unfold subsI; rw [List.length_map]; omega)]
        have hpsl : (subsP k a b (j + 1)).length = (subsP k a b j).length + m := by
          rw [hps, List.length_append, List.length_take, subsI, List.length_map]; omega
        repeat' (first | refine d1 ?_ | refine dd ?_ | (show ∀ _ : Nat, T _ _ _ _ _; intro _))
        exact T_backX (j + 1, (A2, c2), hs2) (by dsimp only; omega) (by dsimp only; omega) (hE := ⟨by dsimp only; rw [show ((a + (j + 1) : Nat) : Int) = ((a + j : Nat) : Int) + 1 by omega]; rfl, by dsimp only; rw [hpsl]; rfl, trivial⟩) (hG := by dsimp only; rw [hpsl, hps]; exact Hle.sub)
    · simp only [decide_eq_false_iff_not] at h
      obtain rfl : j = b - a := by omega
      rw [← subsL_P]
      repeat' (first | refine d1 ?_ | refine dd ?_ | (show ∀ _ : Nat, T _ _ _ _ _; intro _) | (show T _ (.code .ret :: _) _ _ _; refine T_retV _ rfl dat_row ⟨_, trivial, rfl, by rfl⟩))
def refJ19 (n : Nat) : Nat → List (List Nat)
  | 0 => []
  | j + 1 => refJ19 n j ++ subsL (n - j) 0 n
theorem refJ19_all {n : Nat} (h1 : 1 ≤ n) (h4 : n ≤ 4) : refJ19 n n = mvL n := by
  obtain rfl | rfl | rfl | rfl : n = 1 ∨ n = 2 ∨ n = 3 ∨ n = 4 := by omega
  all_goals decide
theorem refJ19_len {n : Nat} (h4 : n ≤ 4) : ∀ j, (refJ19 n j).length ≤ j * 625
  | 0 => Nat.le_refl _
  | j + 1 => by
    have h1 := refJ19_len h4 j
    have h2 := subsL_len h4 (n - j) 0
    have h3 : 5 ^ (n - j) ≤ 5 ^ 4 := Nat.pow_le_pow_right (by omega) (by omega)
    have h5 : 5 ^ 4 = 625 := by decide
    rw [refJ19, List.length_append]
    omega
theorem movesR_spec (z : Int) (w : World) : Spec Tryz.prog 73 [.int .i64 z] w (fun v R => ∃ x : Value, True ∧ v = x ∧ R = [dat [x] [rowsD ((mvL z.toNat).map intN)]]) := by
  refine spec_of sg Tryz.func73 rfl rfl rfl ?_
  repeat' (first | refine d1 ?_ | refine dd ?_ | (show ∀ _ : Nat, T _ _ _ _ _; intro _))
  refine T_if rfl (fun h => ?_) (fun h => ?_)
  · simp only [Bool.or_eq_true, decide_eq_true_eq] at h
    rw [mvL_none (by omega)]
    repeat' (first | refine d1 ?_ | refine dd ?_ | (show ∀ _ : Nat, T _ _ _ _ _; intro _) | (show T _ (.code .ret :: _) _ _ _; refine T_retV _ rfl (nilC _ |>.trans (Hle.nth 0 rfl)) ⟨_, trivial, rfl, rfl⟩))
  simp only [Bool.or_eq_false_iff, decide_eq_false_iff_not] at h
  obtain ⟨n, rfl⟩ : ∃ n : Nat, z = n := ⟨z.toNat, by omega⟩
  have h1 : 1 ≤ n := by omega
  have h4 : n ≤ 4 := by omega
  rw [Int.toNat_natCast]
  repeat' (first | refine d1 ?_ | refine dd ?_ | (show ∀ _ : Nat, T _ _ _ _ _; intro _))
  refine T_le (dat_nil _) ?_
  refine T_nilrow 27 1 ?_
  refine T_loopX (fun s : Nat × (Option Addr × Nat) × List Value => [(4, .int .i64 ((n : Int) - (s.1 : Nat))), (3, .slice s.2.1.1 (refJ19 n s.1).length s.2.1.2)]) (fun s => [row 27 1 s.2.1.1 s.2.1.2 (refJ19 n s.1).length s.2.2, dat s.2.2 (((refJ19 n s.1).map intN).map intsD)]) (fun s => s.1 ≤ n) (fun s => n - s.1) (0, (none, 0), []) (Nat.zero_le _) ?_ (hE := ⟨by dsimp only; rw [show ((n : Int) - ((0 : Nat) : Int)) = (n : Int) by omega]; rfl, rfl, trivial⟩)
  rintro ⟨j, ⟨A, c⟩, hs⟩ hj
  dsimp only at hj ⊢
  have hjl := refJ19_len h4 j
  repeat' (first | refine d1 ?_ | refine dd ?_ | (show ∀ _ : Nat, T _ _ _ _ _; intro _))
  refine T_if rfl (fun h2 => ?_) (fun h2 => ?_)
  · simp only [decide_eq_true_eq] at h2
    have hjn : j < n := by omega
    rw [show ((n : Int) - ((j : Nat) : Int)) = ((n - j : Nat) : Int) by omega]
    have hsl := subsL_len h4 (n - j) 0
    have h3 : 5 ^ (n - j) ≤ 5 ^ 4 := Nat.pow_le_pow_right (by omega) (by omega)
    have h5 : 5 ^ 4 = 625 := by decide
    repeat' (first | refine d1 ?_ | refine dd ?_ | (show T _ (.ops _ (_ :: _) :: _) _ _ _; refine T_op (OpT.call rfl rfl rfl rfl rfl (fun w hw => subsets_spec (n - j) 0 n w (by omega) (by omega) h4) ?_)) | (show ∀ _ : Nat, T _ _ _ _ _; intro _))
    rintro x R ⟨_, -, rfl, rfl⟩
    refine T_le (H' := [dat [x] [rowsD ((subsL (n - j) 0 n).map intN)], row 27 1 A c (refJ19 n j).length hs, dat hs (((refJ19 n j).map intN).map intsD)]) (Hle.refl _) ?_
    refine T_open fun p hp => ?_
    obtain ⟨Ax, cx, csx, rfl, hx1, hx2, hxl, hxr, hxrows⟩ := hp.tab
    rw [List.length_map] at hx1 hxl hxr ⊢
    have hsr : ∀ {w' : World} {H : List HA} [FocusZ H p], Cls w w' H → Src w' 1 Ax (subsL (n - j) 0 n).length csx := fun {w' H} _ hw => ⟨by omega, fun hn9 => by
      obtain ⟨bx, ox, rfl, hrx⟩ := hxr hn9
      exact ⟨rfl, fun q u hu => hw.fz (p := p) _ _ _ (hrx q u hu)⟩⟩
    refine T_le (H' := [row 27 1 A c (refJ19 n j).length hs, dat hs (((refJ19 n j).map intN).map intsD), fz p]) Hle.srt ?_
    repeat' (first | refine d1 ?_ | refine dd ?_ | (show T _ (.ops _ (_ :: _) :: _) _ _ _; refine T_op (OpT.append (A := A) rfl rfl rfl rfl rfl rfl rfl rfl rfl rfl (fun w hw => hsr hw) (oneRows hxrows) (by dsimp only; omega) (by omega) (fun A' cap' hA' => ?_))) | (show ∀ _ : Nat, T _ _ _ _ _; intro _))
    refine T_backX (j + 1, (A', cap'), hs ++ csx) (by dsimp only; omega) (by dsimp only; omega) (hE := ⟨by dsimp only; rw [show ((n : Int) - ((j + 1 : Nat) : Int)) = ((n - j : Nat) : Int) - 1 by omega]; rfl, by dsimp only; rw [refJ19, List.length_append]; rfl, trivial⟩) (hG := ?_)
    dsimp only
    rw [refJ19, List.length_append, List.map_append, List.map_append]
    exact (Hle.srt (K := [fz p, dat hs (((refJ19 n j).map intN).map intsD), row 27 1 A' cap' ((refJ19 n j).length + (subsL (n - j) 0 n).length) (hs ++ csx)])).trans ((Hle.weaken (i := 0) rfl (fz_dat hxrows) rfl).trans (dat_join.trans (Hle.perm (List.Perm.swap _ _ _))))
  · simp only [decide_eq_false_iff_not] at h2
    obtain rfl : j = n := by omega
    rw [refJ19_all h1 h4]
    repeat' (first | refine d1 ?_ | refine dd ?_ | (show ∀ _ : Nat, T _ _ _ _ _; intro _) | (show T _ (.code .ret :: _) _ _ _; refine T_retV _ rfl dat_row ⟨_, trivial, rfl, by rfl⟩))
end Go.Proofs.YtofikdpbagnjbaaGreatDoor
namespace Go.Proofs.YtofikdpbagnjbaaGreatDoor
open Go.RowKit Go.Shelf Go.Proofs
set_option maxRecDepth 100000
set_option maxHeartbeats 1000000

theorem usableR_spec (c : Costs) (A : Option Addr) (n ca : Nat) (l : List TS) (w : World) (hg : Grp w A n l) : Spec Tryz.prog 122 [c.val, .slice A n ca] w (fun v R => v = .int .i64 (usV c l) ∧ R = []) := by
  have hn := hg.hn
  have hb := hg.hb
  refine spec_of sg Tryz.func122 rfl rfl rfl ?_
  refine T_op (OpT.box (cs := c.cells) rfl rfl rfl rfl rfl rfl rfl (fun pc => ?_))
  repeat' (first | refine d1 ?_ | refine dd ?_ | (show T _ (.ops _ (_ :: _) :: _) _ _ _; first | refine T_call rfl rfl rfl rfl rfl (fun w hw => srcs19R_spec A n ca l w (hg.cls hw)) ?_ | refine T_callC rfl rfl rfl rfl rfl rfl rfl (fun hg w hw => srcs19R_spec A n ca l w (hg.cls hw)) ?_) | (show T _ (.run _ _ (_ :: _) _ _ :: _) _ _ _; first | refine rc rfl rfl rfl rfl rfl rfl rfl (fun w hw => srcs19R_spec A n ca l w (hg.cls hw)) ?_ | refine rcG rfl rfl rfl rfl rfl rfl rfl rfl rfl (fun hg w hw => srcs19R_spec A n ca l w (hg.cls hw)) ?_) | (show ∀ _ : Nat, T _ _ _ _ _; intro _))
  by_cases h0 : n = 0
  · rw [if_pos h0]
    refine T_if rfl (fun h => ?_) (fun h => by exfalso; simp at h)
    repeat' (first | refine d1 ?_ | refine dd ?_ | (show ∀ _ : Nat, T _ _ _ _ _; intro _) | (show T _ (.code .ret :: _) _ _ _; refine T_retV [] rfl (Hle.none _) ⟨congrArg (Value.int .i64) (if_pos (by omega)).symm, rfl⟩))
  rw [if_neg h0]
  refine T_if rfl (fun h => by exfalso; simp at h) (fun _ => ?_)
  repeat' (first | refine d1 ?_ | refine dd ?_ | (show T _ (.ops _ (_ :: _) :: _) _ _ _; first | refine T_call rfl rfl rfl rfl rfl (fun w hw => costRef_spec c w) ?_ | refine T_callC rfl rfl rfl rfl rfl rfl rfl (fun hg w hw => costRef_spec c w) ?_) | (show T _ (.run _ _ (_ :: _) _ _ :: _) _ _ _; first | refine rc rfl rfl rfl rfl rfl rfl rfl (fun w hw => costRef_spec c w) ?_ | refine rcG rfl rfl rfl rfl rfl rfl rfl rfl rfl (fun hg w hw => costRef_spec c w) ?_) | (show ∀ _ : Nat, T _ _ _ _ _; intro _))
  refine T_if rfl (fun h => ?_) (fun h => ?_)
  · have h1 : costE c ≠ 0 := by simpa using h
    repeat' (first | refine d1 ?_ | refine dd ?_ | (show ∀ _ : Nat, T _ _ _ _ _; intro _) | (show T _ (.code .ret :: _) _ _ _; refine T_retV [] rfl (Hle.none _) ⟨congrArg (Value.int .i64) ?_, rfl⟩))
    unfold usV ck21
    rw [if_neg (by omega), if_neg (fun h9 => h1 h9.1)]
  have hc : costE c = 0 := by simpa using h
  clear h
  repeat' (first | refine d1 ?_ | refine dd ?_ | (show ∀ _ : Nat, T _ _ _ _ _; intro _))
  refine T_loopX (fun i : Nat => [(6, .int .i64 (i : Nat))]) (fun _ => [blk pc c.cells 23]) (fun i => i ≤ n ∧ ∀ j t, j < i → l[j]? = some t → badL t.l = false) (fun i => n - i) 0 ⟨Nat.zero_le _, fun j t h => by omega⟩ ?_
  rintro i ⟨hi, hok⟩
  repeat' (first | refine d1 ?_ | refine dd ?_ | (show ∀ _ : Nat, T _ _ _ _ _; intro _))
  refine T_if rfl (fun h1 => ?_) (fun h1 => ?_)
  · simp only [decide_eq_true_eq] at h1
    have hin : i < n := by omega
    obtain ⟨b, o, rfl⟩ := hg.hs.base (by omega)
    obtain ⟨t, ht, htm, hr⟩ := hg.get hin
    have htl := hg.ok.len t htm
    have htn := hg.nb t htm
    repeat' (first | refine d1 ?_ | refine dd ?_ | (show ∀ _ : Nat, T _ _ _ _ _; intro _))
    refine T_loopX (fun k : Nat => [(7, .int .i64 (k : Nat))]) (fun _ => [blk pc c.cells 23]) (fun k => k ≤ t.n ∧ ∀ q x, q < k → t.l[q]? = some x → tokE x = 0) (fun k => t.n - k) 0 ⟨Nat.zero_le _, fun j t h => by omega⟩ ?_
    rintro k ⟨hk, hokk⟩
    repeat' (first | refine d1 ?_ | refine dd ?_ | (show ∀ _ : Nat, T _ _ _ _ _; intro _))
    refine T_if rfl (fun h2 => ?_) (fun h2 => ?_)
    · simp only [decide_eq_true_eq] at h2
      have hkn : k < t.n := by omega
      obtain ⟨b4, o4, hsA⟩ := (hg.ok.src t htm).base (by omega)
      have hsr : RdC w b4 (o4 + (k : Int).toNat * 6) (tkA t.l k).cells := (hsA ▸ hg.ok.src t htm : Src w 6 (some ⟨b4, o4, none⟩) t.n (t.l.flatMap Tok.cells)).getT (k := k) (by omega) (tkA_get (by omega))
      rw [hsA] at hr
      repeat' (first | refine d1 ?_ | refine dd ?_ | (show T _ (.ops _ (_ :: _) :: _) _ _ _; first | refine T_call rfl rfl rfl rfl rfl (fun w hw => tokRef_spec (tkA t.l k) w) ?_ | refine T_callC rfl rfl rfl rfl rfl rfl rfl (fun hg w hw => tokRef_spec (tkA t.l k) w) ?_) | (show T _ (.run _ _ (_ :: _) _ _ :: _) _ _ _; first | refine rc rfl rfl rfl rfl rfl rfl rfl (fun w hw => tokRef_spec (tkA t.l k) w) ?_ | refine rcG rfl rfl rfl rfl rfl rfl rfl rfl rfl (fun hg w hw => tokRef_spec (tkA t.l k) w) ?_) | (show ∀ _ : Nat, T _ _ _ _ _; intro _))
      refine T_if rfl (fun h3 => ?_) (fun h3 => ?_)
      · have h4 : tokE (tkA t.l k) ≠ 0 := by simpa using h3
        have hbt : badS l = true := List.any_eq_true.2 ⟨t, htm, List.any_eq_true.2 ⟨tkA t.l k, tkA_mem (by omega), by simpa using h4⟩⟩
        repeat' (first | refine d1 ?_ | refine dd ?_ | (show ∀ _ : Nat, T _ _ _ _ _; intro _) | (show T _ (.code .ret :: _) _ _ _; refine T_retV [] rfl (Hle.none _) ⟨congrArg (Value.int .i64) ?_, rfl⟩))
        unfold usV ck21
        rw [if_neg (by omega), if_neg (fun h9 => by rw [hbt] at h9; exact absurd h9.2 (by decide))]
      · have h4 : tokE (tkA t.l k) = 0 := by simpa using h3
        repeat' (first | refine d1 ?_ | refine dd ?_ | (show ∀ _ : Nat, T _ _ _ _ _; intro _))
        refine T_backX (k + 1) ⟨by omega, fun q x hq hx => ?_⟩ (by omega)
        rcases Nat.lt_or_ge q k with h5 | h5
        · exact hokk q x h5 hx
        · rw [show q = k by omega, tkA_get (by omega)] at hx
          cases hx
          exact h4
    · simp only [decide_eq_false_iff_not] at h2
      repeat' (first | refine d1 ?_ | refine dd ?_ | (show ∀ _ : Nat, T _ _ _ _ _; intro _))
      refine T_backX (i + 1) ⟨by omega, fun j u hj hu => ?_⟩ (by omega)
      rcases Nat.lt_or_ge j i with h5 | h5
      · exact hok j u h5 hu
      · rw [show j = i by omega, ht] at hu
        cases hu
        refine badL_false.2 fun x hx => ?_
        obtain ⟨q, hq, e⟩ := List.getElem_of_mem hx
        exact hokk q x (by omega) (by rw [List.getElem?_eq_getElem hq, e])
  · simp only [decide_eq_false_iff_not] at h1
    have hbs : badS l = false := List.any_eq_false.2 fun t ht => by
      obtain ⟨q, hq, e⟩ := List.getElem_of_mem ht
      rw [hok q t (by omega) (by rw [List.getElem?_eq_getElem hq, e])]; simp
    repeat' (first | refine d1 ?_ | refine dd ?_ | (show ∀ _ : Nat, T _ _ _ _ _; intro _) | (show T _ (.code .ret :: _) _ _ _; refine T_retV [] rfl (Hle.none _) ⟨congrArg (Value.int .i64) ?_, rfl⟩))
    unfold usV ck21
    rw [if_neg (by omega), if_pos ⟨hc, hbs⟩]
theorem usableRBig_spec (c : Costs) (A : Option Addr) (n ca : Nat) (l : List TS) (w : World) (hs : Src w 1 A n (l.map TS.val)) (hn : l.length = n) (hb : n ≤ 1000) (h0 : n ≠ 0) (hbig : 32 < n ∨ ∃ t ∈ l, 1024 < t.n) :
    Spec Tryz.prog 122 [c.val, .slice A n ca] w (fun v R => v = .int .i64 4 ∧ R = []) := by
  refine spec_of sg Tryz.func122 rfl rfl rfl ?_
  repeat' (first | (show T _ (.ops _ (⟨_, .box _ _, _, _, _, _⟩ :: _) :: _) _ _ _; refine T_op (OpT.box (cs := c.cells) rfl rfl rfl rfl rfl rfl rfl (fun _ => ?_))) | refine d1 ?_ | refine dd ?_ | (show T _ (.ops _ (_ :: _) :: _) _ _ _; first | refine T_call rfl rfl rfl rfl rfl (fun w hw => srcsRBig_spec A n ca l w (rdSrc hs w hw) hn hb h0 hbig) ?_ | refine T_callC rfl rfl rfl rfl rfl rfl rfl (fun hg w hw => srcsRBig_spec A n ca l w (rdSrc hs w hw) hn hb h0 hbig) ?_) | (show T _ (.run _ _ (_ :: _) _ _ :: _) _ _ _; first | refine rc rfl rfl rfl rfl rfl rfl rfl (fun w hw => srcsRBig_spec A n ca l w (rdSrc hs w hw) hn hb h0 hbig) ?_ | refine rcG rfl rfl rfl rfl rfl rfl rfl rfl rfl (fun hg w hw => srcsRBig_spec A n ca l w (rdSrc hs w hw) hn hb h0 hbig) ?_) | (show ∀ _ : Nat, T _ _ _ _ _; intro _))
  refine T_if rfl (fun h => ?_) (fun h => by exfalso; simp at h)
  repeat' (first | refine d1 ?_ | refine dd ?_ | (show ∀ _ : Nat, T _ _ _ _ _; intro _) | (show T _ (.code .ret :: _) _ _ _; refine T_retV [] rfl (Hle.none _) ⟨rfl, rfl⟩))
theorem costRBig_spec (c : Costs) (A : Option Addr) (n ca : Nat) (l : List TS) (x : Value) (w : World) (hs : Src w 1 A n (l.map TS.val)) (hn : l.length = n) (hb : n ≤ 1000) (h0 : n ≠ 0) (hbig : 32 < n ∨ ∃ t ∈ l, 1024 < t.n) :
    Spec Tryz.prog 74 [c.val, .slice A n ca, x] w (fun v R => v = .tuple #[.int .i64 0, .int .i64 4] ∧ R = []) := by
  refine spec_of sg Tryz.func74 rfl rfl rfl ?_
  repeat' (first | (show T _ (.ops _ (⟨_, .box _ _, _, _, _, _⟩ :: _) :: _) _ _ _; refine T_op (OpT.box (cs := c.cells) rfl rfl rfl rfl rfl rfl rfl (fun _ => ?_))) | refine d1 ?_ | refine dd ?_ | (show T _ (.ops _ (_ :: _) :: _) _ _ _; first | refine T_call rfl rfl rfl rfl rfl (fun w hw => usableRBig_spec c A n ca l w (rdSrc hs w hw) hn hb h0 hbig) ?_ | refine T_callC rfl rfl rfl rfl rfl rfl rfl (fun hg w hw => usableRBig_spec c A n ca l w (rdSrc hs w hw) hn hb h0 hbig) ?_) | (show T _ (.run _ _ (_ :: _) _ _ :: _) _ _ _; first | refine rc rfl rfl rfl rfl rfl rfl rfl (fun w hw => usableRBig_spec c A n ca l w (rdSrc hs w hw) hn hb h0 hbig) ?_ | refine rcG rfl rfl rfl rfl rfl rfl rfl rfl rfl (fun hg w hw => usableRBig_spec c A n ca l w (rdSrc hs w hw) hn hb h0 hbig) ?_) | (show ∀ _ : Nat, T _ _ _ _ _; intro _))
  refine T_if rfl (fun h => ?_) (fun h => by exfalso; simp at h)
  repeat' (first | refine d1 ?_ | refine dd ?_ | (show ∀ _ : Nat, T _ _ _ _ _; intro _) | (show T _ (.code .ret :: _) _ _ _; refine T_retV [] rfl (Hle.none _) ⟨rfl, rfl⟩))
theorem boundRBig_spec (c : Costs) (A : Option Addr) (n ca : Nat) (l : List TS) (w : World) (hs : Src w 1 A n (l.map TS.val)) (hn : l.length = n) (hb : n ≤ 1000) (h0 : n ≠ 0) (hbig : 32 < n ∨ ∃ t ∈ l, 1024 < t.n) :
    Spec Tryz.prog 75 [c.val, .slice A n ca] w (fun v R => v = .tuple #[.int .i64 0, .int .i64 4] ∧ R = []) := by
  refine spec_of sg Tryz.func75 rfl rfl rfl ?_
  repeat' (first | (show T _ (.ops _ (⟨_, .box _ _, _, _, _, _⟩ :: _) :: _) _ _ _; refine T_op (OpT.box (cs := c.cells) rfl rfl rfl rfl rfl rfl rfl (fun _ => ?_))) | refine d1 ?_ | refine dd ?_ | (show T _ (.ops _ (_ :: _) :: _) _ _ _; first | refine T_call rfl rfl rfl rfl rfl (fun w hw => usableRBig_spec c A n ca l w (rdSrc hs w hw) hn hb h0 hbig) ?_ | refine T_callC rfl rfl rfl rfl rfl rfl rfl (fun hg w hw => usableRBig_spec c A n ca l w (rdSrc hs w hw) hn hb h0 hbig) ?_) | (show T _ (.run _ _ (_ :: _) _ _ :: _) _ _ _; first | refine rc rfl rfl rfl rfl rfl rfl rfl (fun w hw => usableRBig_spec c A n ca l w (rdSrc hs w hw) hn hb h0 hbig) ?_ | refine rcG rfl rfl rfl rfl rfl rfl rfl rfl rfl (fun hg w hw => usableRBig_spec c A n ca l w (rdSrc hs w hw) hn hb h0 hbig) ?_) | (show ∀ _ : Nat, T _ _ _ _ _; intro _))
  refine T_if rfl (fun h => ?_) (fun h => by exfalso; simp at h)
  repeat' (first | refine d1 ?_ | refine dd ?_ | (show ∀ _ : Nat, T _ _ _ _ _; intro _) | (show T _ (.code .ret :: _) _ _ _; refine T_retV [] rfl (Hle.none _) ⟨rfl, rfl⟩))
def ownR (l : List TS) (col : List Int) (a : Tok) (k : Nat) : List Tok := (List.range l.length).map fun s => if s < k then (if 0 ≤ col.getD s (-1) then tkA (tsA l s).l (col.getD s (-1)).toNat else a) else noTok
theorem ownR_len (l : List TS) (col : List Int) (a : Tok) (k : Nat) : (ownR l col a k).length = l.length := by simp [ownR]
theorem ownR_zero (l : List TS) (col : List Int) (a : Tok) : ownR l col a 0 = List.replicate l.length noTok := by
  refine List.ext_getElem? fun s => ?_
  unfold ownR
  rw [List.getElem?_map, List.getElem?_replicate]
  rcases Nat.lt_or_ge s l.length with h | h
  · rw [List.getElem?_range h, if_pos h]; simp
  · rw [if_neg (by omega), List.getElem?_eq_none (by simp; omega)]; rfl
theorem ownR_set {l : List TS} {col : List Int} {a x : Tok} {k : Nat} (hk : k < l.length) (hx : x = if 0 ≤ col.getD k (-1) then tkA (tsA l k).l (col.getD k (-1)).toNat else a) : (ownR l col a k).set k x = ownR l col a (k + 1) := by
  refine List.ext_getElem? fun s => ?_
  unfold ownR
  rw [List.getElem?_set, List.getElem?_map, List.getElem?_map, List.length_map, List.length_range]
  by_cases e : k = s
  · subst e
    rw [if_pos rfl, if_pos hk, List.getElem?_range hk, Option.map_some, if_pos (by omega), hx]
  · rw [if_neg e]
    rcases Nat.lt_or_ge s l.length with h2 | h2
    · rw [List.getElem?_range h2, Option.map_some, Option.map_some]
      by_cases h3 : s < k
      · rw [if_pos h3, if_pos (show s < k + 1 by omega)]
      · rw [if_neg h3, if_neg (show ¬ s < k + 1 by omega)]
    · rw [List.getElem?_eq_none (by simp; omega)]; rfl
theorem ownR_colV {w : World} {A : Option Addr} {n : Nat} {l : List TS} (hg : Grp w A n l) {c : Costs} (hc : costE c = 0) (hbs : badS l = false) {col : List Int} (hco : ColOk l col) (a : Tok) : columnV c (ownR l col a l.length) (thJ l col l.length) = (colZ c l col, 0) := by
  have hb := hg.hb
  have hn := hg.hn
  refine columnV_Z hc hbs hg.ok.len (by omega) hco (ownR_len _ _ _ _) (thJ_len _ _ _) (fun i hi => ?_) (fun i hi h0 => ?_)
  · unfold thA thJ
    rw [List.getD_eq_getElem?_getD, List.getElem?_map, List.getElem?_range hi]
    show decide (i < l.length ∧ 0 ≤ col.getD i (-1)) = _
    by_cases h : 0 ≤ col.getD i (-1)
    · rw [decide_eq_true h, decide_eq_true ⟨hi, h⟩]
    · rw [decide_eq_false h, decide_eq_false (fun h9 => h h9.2)]
  · have e : (ownR l col a l.length)[i]? = some (tkA (tsA l i).l (col.getD i (-1)).toNat) := by
      unfold ownR
      rw [List.getElem?_map, List.getElem?_range hi, Option.map_some, if_pos hi, if_pos h0]
    unfold tkA at e ⊢
    rw [List.getD_eq_getElem?_getD (l := ownR l col a l.length), e]
    rfl
theorem columnCostR_spec (c : Costs) (A Ac : Option Addr) (n ca cc : Nat) (l : List TS) (col : List Int) (w : World) (hg : Grp w A n l) (hc : costE c = 0) (hbs : badS l = false) (hcs : Src w 1 Ac n (col.map (Value.int .i64))) (hco : ColOk l col) :
    Spec Tryz.prog 126 [c.val, .slice A n ca, .slice Ac n cc] w (fun v R => v = .int .i64 (colZ c l col) ∧ R = []) := by
  have hn := hg.hn
  subst hn
  have hb := hg.hb
  refine spec_of sg Tryz.func126 rfl rfl rfl ?_
  refine T_op (OpT.box (cs := c.cells) rfl rfl rfl rfl rfl rfl rfl (fun pc => ?_))
  repeat' (first | refine d1 ?_ | (show ∀ _ : Nat, T _ _ _ _ _; intro _))
  refine T_cutX 1 [7, 8] (fun s : Nat × Nat => [(7, .slice (some ⟨s.1, 0, none⟩) l.length l.length), (8, .slice (some ⟨s.2, 0, none⟩) l.length l.length)]) (fun s => [blk s.1 (madeCells (noTok.val).cells (l.length * (noTok.val).cells.size)).toList 80, blk s.2 (List.replicate l.length (.bool false)) 4, blk pc c.cells 23]) (fun _ => True) ?_ ?_
  · refine dw0 1000 [blk pc c.cells 23] ?_
    repeat' (first | (show T _ (.draw _ _ _ _ _ :: _) _ _ _; first | refine dw1 ?_ | refine dwb rfl (by decide +kernel) ?_) | (show AllL _ []; exact True.intro) | (show AllL _ (_ :: _); refine ⟨?_, ?_⟩) | (show OpT _ _ _ _ _ _ _; first | refine dwx ?_ | refine OpT.makeC rfl rfl rfl rfl rfl rfl (by dsimp only; omega) (fun b2 => ⟨fun _ => (by first | exact Hle.none _ | exact Hle.sub | exact absurd ‹_› (by decide +kernel)), ?_⟩) | refine OpT.make rfl rfl rfl rfl rfl rfl rfl rfl rfl (by dsimp only; omega) (fun b3 => ⟨fun _ => (by first | exact Hle.none _ | exact Hle.sub | exact absurd ‹_› (by decide +kernel)), ?_⟩)) | (show ∀ _ : Nat, T _ _ _ _ _; intro _) | (show T _ (.mark _ :: _) _ _ _; exact T_meetX (_, _) trivial (hG := by exact Hle.srt)))
  rintro ⟨b2, b3⟩ _
  dsimp only
  refine T_le (H' := [blk b2 ((List.replicate l.length noTok).flatMap Tok.cells) 80, blk b3 ((thJ l col 0).map Value.bool) 4, blk pc c.cells 23]) (by rw [thJ_zero, made_toks, List.map_replicate]; exact Hle.refl _) ?_
  repeat' (first | refine d1 ?_ | refine dd ?_ | (show ∀ _ : Nat, T _ _ _ _ _; intro _))
  rename_i b9
  refine T_loopX (fun s : Nat × Tok => [(10, .int .i64 (s.1 : Nat))]) (fun s => [blk b9 s.2.cells 80, blk b2 ((List.replicate l.length noTok).flatMap Tok.cells) 80, blk b3 ((thJ l col 0).map Value.bool) 4, blk pc c.cells 23]) (fun s => s.1 ≤ l.length) (fun s => l.length - s.1) (0, noTok) (Nat.zero_le _) ?_
  rintro ⟨k, a⟩ hk
  dsimp only at hk ⊢
  repeat' (first | refine d1 ?_ | refine dd ?_ | (show ∀ _ : Nat, T _ _ _ _ _; intro _))
  refine T_if rfl (fun h => ?_) (fun h => ?_)
  · simp only [decide_eq_true_eq] at h
    have hkn : k < l.length := by omega
    obtain ⟨b1, o1, rfl⟩ := hcs.base (by omega)
    obtain ⟨b, o, rfl⟩ := hg.hs.base (by omega)
    obtain ⟨s, hs, hsmem, hr⟩ := hg.get hkn
    obtain ⟨z, hz⟩ : ∃ z, col[k]? = some z := ⟨_, List.getElem?_eq_getElem (by have := hco.1; omega)⟩
    have hr1 := src_int hcs hkn hz
    obtain ⟨hz1, hz2⟩ := hco.2 k z s hz hs
    have hsl := hg.ok.len s hsmem
    have hsn := hg.nb s hsmem
    repeat' (first | refine d1 ?_ | refine dd ?_ | (show ∀ _ : Nat, T _ _ _ _ _; intro _))
    refine T_if rfl (fun h1 => ?_) (fun h1 => ?_)
    · simp only [decide_eq_true_eq] at h1
      obtain ⟨b4, o4, hsA⟩ := (hg.ok.src s hsmem).base (by omega)
      have hsr : RdC w b4 (o4 + z.toNat * 6) (tkA s.l z.toNat).cells := (hsA ▸ hg.ok.src s hsmem : Src w 6 (some ⟨b4, o4, none⟩) s.n (s.l.flatMap Tok.cells)).getT (k := z.toNat) (by omega) (tkA_get (by omega))
      rw [hsA] at hr
      repeat' (first | refine d1 ?_ | refine dd ?_ | (show T _ (.run _ _ (_ :: _) _ _ :: _) _ _ _; refine ro rfl rfl (OpT.storeA (us := (tkA s.l z.toNat).cells) rfl rfl rfl rfl rfl rfl (by show 0 + 6 ≤ 6; omega) ⟨fun hlv => absurd hlv (by decide +kernel), ?_⟩)) | (show ∀ _ : Nat, T _ _ _ _ _; intro _))
      exact T_backX (k + 1, tkA s.l z.toNat) (by dsimp only; omega) (by dsimp only; omega)
    · repeat' (first | refine d1 ?_ | refine dd ?_ | (show ∀ _ : Nat, T _ _ _ _ _; intro _))
      exact T_backX (k + 1, a) (by dsimp only; omega) (by dsimp only; omega)
  simp only [decide_eq_false_iff_not] at h
  clear h hk
  repeat' (first | refine d1 ?_ | refine dd ?_ | (show ∀ _ : Nat, T _ _ _ _ _; intro _))
  refine T_loopX (fun q : Nat => [(11, .int .i64 (q : Nat))]) (fun q => [blk b9 a.cells 80, blk b2 ((ownR l col a q).flatMap Tok.cells) 80, blk b3 ((thJ l col q).map Value.bool) 4, blk pc c.cells 23]) (fun q => q ≤ l.length) (fun q => l.length - q) 0 (Nat.zero_le _) ?_ (hG := by rw [ownR_zero]; exact Hle.refl _)
  rintro q hq
  repeat' (first | refine d1 ?_ | refine dd ?_ | (show ∀ _ : Nat, T _ _ _ _ _; intro _))
  refine T_if rfl (fun h => ?_) (fun h => ?_)
  · simp only [decide_eq_true_eq] at h
    have hqn : q < l.length := by omega
    obtain ⟨b1, o1, rfl⟩ := hcs.base (by omega)
    obtain ⟨b, o, rfl⟩ := hg.hs.base (by omega)
    obtain ⟨s, hs, hsmem, hr⟩ := hg.get hqn
    obtain ⟨z, hz⟩ : ∃ z, col[q]? = some z := ⟨_, List.getElem?_eq_getElem (by have := hco.1; omega)⟩
    have hr1 := src_int hcs hqn hz
    obtain ⟨hz1, hz2⟩ := hco.2 q z s hz hs
    have hsl := hg.ok.len s hsmem
    have hsn := hg.nb s hsmem
    have hzd : col.getD q (-1) = z := by rw [List.getD_eq_getElem?_getD, hz]; rfl
    repeat' (first | refine d1 ?_ | refine dd ?_ | (show T _ (.ops _ (_ :: _) :: _) _ _ _; refine T_op (OpT.storeA (us := a.cells) rfl rfl rfl rfl rfl rfl (by rw [flatT_length, ownR_len, show a.cells.length = 6 from rfl]; omega) ?_)) | (show ∀ _ : Nat, T _ _ _ _ _; intro _))
    have e1 : setL ((ownR l col a q).flatMap Tok.cells) (0 + (q : Int).toNat * 6) a.cells = ((ownR l col a q).set q a).flatMap Tok.cells := by rw [show 0 + (q : Int).toNat * 6 = q * 6 by omega, flatTok_set _ _ _ (by rw [ownR_len]; exact hqn)]
    rw [e1]
    refine T_if rfl (fun h1 => ?_) (fun h1 => ?_)
    · simp only [decide_eq_true_eq] at h1
      obtain ⟨b4, o4, hsA⟩ := (hg.ok.src s hsmem).base (by omega)
      have hsr : RdC w b4 (o4 + z.toNat * 6) (tkA s.l z.toNat).cells := (hsA ▸ hg.ok.src s hsmem : Src w 6 (some ⟨b4, o4, none⟩) s.n (s.l.flatMap Tok.cells)).getT (k := z.toNat) (by omega) (tkA_get (by omega))
      rw [hsA] at hr
      have e2 := ownR_set (l := l) (col := col) (a := a) (x := tkA s.l z.toNat) hqn (by rw [hzd, if_pos h1, tsA_eq hs])
      have e3 := thJ_tok (l := l) (col := col) hqn (by rw [hzd]; exact h1)
      have e4 : setL (((ownR l col a q).set q a).flatMap Tok.cells) (0 + (q : Int).toNat * 6) (tkA s.l z.toNat).cells = (ownR l col a (q + 1)).flatMap Tok.cells := by rw [show 0 + (q : Int).toNat * 6 = q * 6 by omega, flatTok_set _ _ _ (by rw [List.length_set, ownR_len]; exact hqn), List.set_set, e2]
      have e5 : ((thJ l col q).map Value.bool).set (0 + (q : Int).toNat * 1) (.bool true) = (thJ l col (q + 1)).map Value.bool := by rw [← e3, List.map_set, show 0 + (q : Int).toNat * 1 = q by omega]
      refine T_cutX 1 [] (fun _ : Unit => []) (fun _ => [blk b9 a.cells 80, blk b2 ((ownR l col a (q + 1)).flatMap Tok.cells) 80, blk b3 ((thJ l col (q + 1)).map Value.bool) 4, blk pc c.cells 23]) (fun _ => True) ?_ ?_
      · refine dw0 1000 [] ?_
        repeat' (first | (show T _ (.draw _ _ _ _ _ :: _) _ _ _; first | refine dw1 ?_ | refine dwv rfl (by decide +kernel) rfl rfl (Val.load rfl (fun hg => rdOld hr)) rfl rfl rfl ?_ | refine dwg rfl (by decide +kernel) rfl rfl (Val.load rfl (fun hg => rdOld hr)) rfl rfl rfl rfl rfl ?_ | refine dwv rfl (by decide +kernel) rfl rfl (Val.load rfl (fun hg => rdOld hr1)) rfl rfl rfl ?_ | refine dwg rfl (by decide +kernel) rfl rfl (Val.load rfl (fun hg => rdOld hr1)) rfl rfl rfl rfl rfl ?_ | refine dwv rfl (by decide +kernel) rfl rfl (Val.loadA (vs := (tkA s.l z.toNat).cells) rfl (fun _ => rdOld hsr) rfl) rfl rfl rfl ?_ | refine dwg rfl (by decide +kernel) rfl rfl (Val.loadA (vs := (tkA s.l z.toNat).cells) rfl (fun _ => rdOld hsr) rfl) rfl rfl rfl rfl rfl ?_ | refine dwb rfl (by decide +kernel) ?_) | (show AllL _ []; exact True.intro) | (show AllL _ (_ :: _); refine ⟨?_, ?_⟩) | (show OpT _ _ _ _ _ _ _; first | refine dwx ?_ | refine OpT.ofVal rfl (Val.load rfl (fun hg => rdOld hr)) rfl rfl rfl ⟨fun _ => (by first | exact Hle.none _ | exact Hle.sub | exact absurd ‹_› (by decide +kernel)), ?_⟩ | refine OpT.ofVal rfl (Val.load rfl (fun hg => rdOld hr1)) rfl rfl rfl ⟨fun _ => (by first | exact Hle.none _ | exact Hle.sub | exact absurd ‹_› (by decide +kernel)), ?_⟩ | refine OpT.ofVal rfl (Val.loadA (vs := (tkA s.l z.toNat).cells) rfl (fun _ => rdOld hsr) rfl) rfl rfl rfl ⟨fun _ => (by first | exact Hle.none _ | exact Hle.sub | exact absurd ‹_› (by decide +kernel)), ?_⟩ | refine OpT.storeA (us := (tkA s.l z.toNat).cells) rfl rfl rfl rfl rfl rfl (by rw [flatT_length, List.length_set, ownR_len, show (tkA s.l z.toNat).cells.length = 6 from rfl]; omega) ⟨fun _ => Hle.none _, ?_⟩ | refine OpT.store rfl rfl rfl rfl (by rw [List.length_map, thJ_len]; omega) ⟨fun _ => Hle.none _, ?_⟩) | (show ∀ _ : Nat, T _ _ _ _ _; intro _) | (show T _ (.mark _ :: _) _ _ _; exact T_meetX () trivial (hG := by rw [e4, e5]; exact Hle.refl _)))
      rintro - -
      repeat' (first | refine d1 ?_ | refine dd ?_ | (show ∀ _ : Nat, T _ _ _ _ _; intro _))
      exact T_backX (q + 1) (by omega) (by omega)
    · simp only [decide_eq_false_iff_not] at h1
      have e2 := ownR_set (l := l) (col := col) (a := a) (x := a) hqn (by rw [hzd, if_neg h1])
      repeat' (first | refine d1 ?_ | refine dd ?_ | (show ∀ _ : Nat, T _ _ _ _ _; intro _))
      exact T_backX (q + 1) (by omega) (by omega) (hG := by rw [e2, thJ_gap (by rw [hzd]; exact h1)]; exact Hle.refl _)
  · simp only [decide_eq_false_iff_not] at h
    obtain rfl : q = l.length := by omega
    repeat' (first | refine d1 ?_ | refine dd ?_ | (show T _ (.ops _ (_ :: _) :: _) _ _ _; first | refine T_call rfl rfl rfl rfl rfl (fun w hw => columnRef_spec c (some ⟨b2, 0, none⟩) (some ⟨b3, 0, none⟩) l.length l.length l.length l.length (ownR l col a l.length) (thJ l col l.length) w (Src.own hw (by rw [flatT_length, ownR_len])) (ownR_len _ _ _ _) (by omega) (Src.own hw (by rw [List.length_map, thJ_len, Nat.mul_one])) (thJ_len _ _ _) (by omega)) ?_ | refine T_callC rfl rfl rfl rfl rfl rfl rfl (fun hg w hw => columnRef_spec c (some ⟨b2, 0, none⟩) (some ⟨b3, 0, none⟩) l.length l.length l.length l.length (ownR l col a l.length) (thJ l col l.length) w (Src.own hw (by rw [flatT_length, ownR_len])) (ownR_len _ _ _ _) (by omega) (Src.own hw (by rw [List.length_map, thJ_len, Nat.mul_one])) (thJ_len _ _ _) (by omega)) ?_) | (show T _ (.run _ _ (_ :: _) _ _ :: _) _ _ _; first | refine rc rfl rfl rfl rfl rfl rfl rfl (fun w hw => columnRef_spec c (some ⟨b2, 0, none⟩) (some ⟨b3, 0, none⟩) l.length l.length l.length l.length (ownR l col a l.length) (thJ l col l.length) w (Src.own hw (by rw [flatT_length, ownR_len])) (ownR_len _ _ _ _) (by omega) (Src.own hw (by rw [List.length_map, thJ_len, Nat.mul_one])) (thJ_len _ _ _) (by omega)) ?_ | refine rcG rfl rfl rfl rfl rfl rfl rfl rfl rfl (fun hg w hw => columnRef_spec c (some ⟨b2, 0, none⟩) (some ⟨b3, 0, none⟩) l.length l.length l.length l.length (ownR l col a l.length) (thJ l col l.length) w (Src.own hw (by rw [flatT_length, ownR_len])) (ownR_len _ _ _ _) (by omega) (Src.own hw (by rw [List.length_map, thJ_len, Nat.mul_one])) (thJ_len _ _ _) (by omega)) ?_) | (show ∀ _ : Nat, T _ _ _ _ _; intro _))
    rw [ownR_colV hg hc hbs hco]
    repeat' (first | refine d1 ?_ | refine dd ?_ | (show ∀ _ : Nat, T _ _ _ _ _; intro _) | (show T _ (.code .ret :: _) _ _ _; refine T_retV [] rfl (Hle.none _) ⟨rfl, rfl⟩))
theorem costSumR_spec (c : Costs) (A : Option Addr) (n ca : Nat) (l : List TS) (x : Value) (cols : List (List Int)) (w : World) (hg : Grp w A n l) (hx : Rd (wr w) [x] [rowsD cols]) (hsz : cols.length ≤ 1000) :
    Spec Tryz.prog 74 [c.val, .slice A n ca, x] w (fun v R => v = .tuple #[.int .i64 (costW c l cols).1, .int .i64 (costW c l cols).2] ∧ R = []) := by
  have hx0 := hx
  have hn := hg.hn
  have hb := hg.hb
  obtain ⟨Ak, ck, csk, rfl, hck1, hck2, hcs, hrows⟩ := hx.tabS
  refine spec_of sg Tryz.func74 rfl rfl rfl ?_
  refine T_op (OpT.box (cs := c.cells) rfl rfl rfl rfl rfl rfl rfl (fun pc => ?_))
  repeat' (first | refine d1 ?_ | refine dd ?_ | (show T _ (.ops _ (_ :: _) :: _) _ _ _; first | refine T_call rfl rfl rfl rfl rfl (fun w hw => usableR_spec c A n ca l w (hg.cls hw)) ?_ | refine T_callC rfl rfl rfl rfl rfl rfl rfl (fun hg w hw => usableR_spec c A n ca l w (hg.cls hw)) ?_) | (show T _ (.run _ _ (_ :: _) _ _ :: _) _ _ _; first | refine rc rfl rfl rfl rfl rfl rfl rfl (fun w hw => usableR_spec c A n ca l w (hg.cls hw)) ?_ | refine rcG rfl rfl rfl rfl rfl rfl rfl rfl rfl (fun hg w hw => usableR_spec c A n ca l w (hg.cls hw)) ?_) | (show ∀ _ : Nat, T _ _ _ _ _; intro _))
  refine T_if rfl (fun h => ?_) (fun h => ?_)
  · simp only [Bool.not_eq_true', decide_eq_false_iff_not] at h
    have e : costW c l cols = (0, usV c l) := if_pos h
    rw [e]
    repeat' (first | refine d1 ?_ | refine dd ?_ | (show ∀ _ : Nat, T _ _ _ _ _; intro _) | (show T _ (.code .ret :: _) _ _ _; refine T_retV [] rfl (Hle.none _) ⟨rfl, rfl⟩))
  simp only [Bool.not_eq_false', decide_eq_true_eq] at h
  have h0 : l.length ≠ 0 := fun h9 => by unfold usV at h; rw [if_pos h9] at h; omega
  repeat' (first | refine d1 ?_ | refine dd ?_ | (show T _ (.ops _ (_ :: _) :: _) _ _ _; first | refine T_call rfl rfl rfl rfl rfl (fun w hw => check19R_spec A n ca l _ cols w (hg.cls hw) (hx0.old hw)) ?_ | refine T_callC rfl rfl rfl rfl rfl rfl rfl (fun hg w hw => check19R_spec A n ca l _ cols w (hg.cls hw) (hx0.old hw)) ?_) | (show T _ (.run _ _ (_ :: _) _ _ :: _) _ _ _; first | refine rc rfl rfl rfl rfl rfl rfl rfl (fun w hw => check19R_spec A n ca l _ cols w (hg.cls hw) (hx0.old hw)) ?_ | refine rcG rfl rfl rfl rfl rfl rfl rfl rfl rfl (fun hg w hw => check19R_spec A n ca l _ cols w (hg.cls hw) (hx0.old hw)) ?_) | (show ∀ _ : Nat, T _ _ _ _ _; intro _))
  rw [chkC_okC h0]
  by_cases h1 : okC l cols = true
  case neg =>
    have e : costW c l cols = (0, 19) := by unfold costW; rw [if_neg (by simpa using h), if_neg h1]
    rw [e, if_neg h1]
    refine T_if rfl (fun _ => ?_) (fun h => by exfalso; simp at h)
    repeat' (first | refine d1 ?_ | refine dd ?_ | (show ∀ _ : Nat, T _ _ _ _ _; intro _) | (show T _ (.code .ret :: _) _ _ _; refine T_retV [] rfl (Hle.none _) ⟨rfl, rfl⟩))
  rw [if_pos h1]
  refine T_if rfl (fun h => by exfalso; simp at h) (fun _ => ?_)
  have hok : ColsOk (lens l) cols := Classical.byContradiction fun h9 => by rw [okC_false h9] at h1; cases h1
  have hck : ck21 c l = 0 := by unfold usV at h; rwa [if_neg h0] at h
  obtain ⟨hc, hbs⟩ := ck21_ok hck
  have e : costW c l cols = (totZ c l cols, 0) := by unfold costW; rw [if_neg (by simpa using h), if_pos h1]
  rw [e]
  repeat' (first | refine d1 ?_ | refine dd ?_ | (show ∀ _ : Nat, T _ _ _ _ _; intro _))
  refine T_loopX (fun i : Nat => [(11, .int .i64 (i : Nat)), (10, .int .i64 (totZ c l (cols.take i)))]) (fun _ => [blk pc c.cells 23]) (fun i => i ≤ cols.length) (fun i => cols.length - i) 0 (Nat.zero_le _) ?_
  intro i hi
  repeat' (first | refine d1 ?_ | refine dd ?_ | (show ∀ _ : Nat, T _ _ _ _ _; intro _))
  refine T_if rfl (fun h3 => ?_) (fun h3 => ?_)
  · simp only [decide_eq_true_eq] at h3
    have hin : i < cols.length := by omega
    obtain ⟨b, o, rfl⟩ := hcs.base (by omega)
    obtain ⟨r, hr⟩ : ∃ r, cols[i]? = some r := ⟨_, List.getElem?_eq_getElem hin⟩
    have hrm := List.mem_of_getElem? hr
    obtain ⟨Au, capu, hu, -, -, hA⟩ := hrows.tabRow hr
    have hco : ColOk l r := ColsOk.colOk (l := l) hok hrm
    have hrl : r.length = n := by rw [hco.1, hn]
    have hr0 := rowHd hcs hin hu
    have hsr := rowSrc hA
    rw [hrl] at hr0 hsr
    have htk := take_snoc _ _ _ hr
    have hs : totZ c l (cols.take (i + 1)) = totZ c l (cols.take i) + colZ c l r := by rw [htk, totZ_app, totZ_cons]; show _ = totZ c l (cols.take i) + colZ c l r; unfold totZ; simp
    have b1 := totZ_bd hc (l := l) (by omega) (cols.take i)
    have b2 := colZ_bd hc (l := l) (by omega) r
    have b3 : ((cols.take i).length : Int) ≤ 999 := by rw [List.length_take]; omega
    repeat' (first | refine d1 ?_ | refine dd ?_ | (show T _ (.ops _ (_ :: _) :: _) _ _ _; first | refine T_call rfl rfl rfl rfl rfl (fun w hw => columnCostR_spec c A Au n ca capu l r w (hg.cls hw) hc hbs (src_below hsr hw.below) hco) ?_ | refine T_callC rfl rfl rfl rfl rfl rfl rfl (fun hg w hw => columnCostR_spec c A Au n ca capu l r w (hg.cls hw) hc hbs (src_below hsr hw.below) hco) ?_) | (show T _ (.run _ _ (_ :: _) _ _ :: _) _ _ _; first | refine rc rfl rfl rfl rfl rfl rfl rfl (fun w hw => columnCostR_spec c A Au n ca capu l r w (hg.cls hw) hc hbs (src_below hsr hw.below) hco) ?_ | refine rcG rfl rfl rfl rfl rfl rfl rfl rfl rfl (fun hg w hw => columnCostR_spec c A Au n ca capu l r w (hg.cls hw) hc hbs (src_below hsr hw.below) hco) ?_) | (show ∀ _ : Nat, T _ _ _ _ _; intro _))
    refine T_if rfl (fun h4 => by exfalso; simp at h4; omega) (fun _ => ?_)
    repeat' (first | refine d1 ?_ | refine dd ?_ | (show ∀ _ : Nat, T _ _ _ _ _; intro _))
    exact T_backX (i + 1) (by omega) (by omega) (hE := ⟨rfl, by rw [hs]; rfl, trivial⟩)
  · simp only [decide_eq_false_iff_not] at h3
    obtain rfl : i = cols.length := by omega
    rw [List.take_of_length_le (Nat.le_refl _)]
    repeat' (first | refine d1 ?_ | refine dd ?_ | (show ∀ _ : Nat, T _ _ _ _ _; intro _) | (show T _ (.code .ret :: _) _ _ _; refine T_retV [] rfl (Hle.none _) ⟨rfl, rfl⟩))
theorem boundR_spec (c : Costs) (A : Option Addr) (n ca : Nat) (l : List TS) (w : World) (hg : Grp w A n l) (hq : ∀ t ∈ l, t.n ≤ 100) :
    Spec Tryz.prog 75 [c.val, .slice A n ca] w (fun v R => v = .tuple #[.int .i64 (boundW c l).1, .int .i64 (boundW c l).2] ∧ R = []) := by
  have hn := hg.hn
  have hb := hg.hb
  refine spec_of sg Tryz.func75 rfl rfl rfl ?_
  refine T_op (OpT.box (cs := c.cells) rfl rfl rfl rfl rfl rfl rfl (fun pc => ?_))
  repeat' (first | refine d1 ?_ | refine dd ?_ | (show T _ (.ops _ (_ :: _) :: _) _ _ _; first | refine T_call rfl rfl rfl rfl rfl (fun w hw => usableR_spec c A n ca l w (hg.cls hw)) ?_ | refine T_callC rfl rfl rfl rfl rfl rfl rfl (fun hg w hw => usableR_spec c A n ca l w (hg.cls hw)) ?_) | (show T _ (.run _ _ (_ :: _) _ _ :: _) _ _ _; first | refine rc rfl rfl rfl rfl rfl rfl rfl (fun w hw => usableR_spec c A n ca l w (hg.cls hw)) ?_ | refine rcG rfl rfl rfl rfl rfl rfl rfl rfl rfl (fun hg w hw => usableR_spec c A n ca l w (hg.cls hw)) ?_) | (show ∀ _ : Nat, T _ _ _ _ _; intro _))
  refine T_if rfl (fun h => ?_) (fun h => ?_)
  · simp only [Bool.not_eq_true', decide_eq_false_iff_not] at h
    have e : boundW c l = (0, usV c l) := if_pos h
    rw [e]
    repeat' (first | refine d1 ?_ | refine dd ?_ | (show ∀ _ : Nat, T _ _ _ _ _; intro _) | (show T _ (.code .ret :: _) _ _ _; refine T_retV [] rfl (Hle.none _) ⟨rfl, rfl⟩))
  simp only [Bool.not_eq_false', decide_eq_true_eq] at h
  have h0 : l.length ≠ 0 := fun h9 => by unfold usV at h; rw [if_pos h9] at h; omega
  have hck : ck21 c l = 0 := by unfold usV at h; rwa [if_neg h0] at h
  obtain ⟨hc, hbs⟩ := ck21_ok hck
  have e : boundW c l = (ssum (dstT c l) n n, 0) := by unfold boundW; rw [if_neg (by simpa using h), hn]
  rw [e]
  have hbd := dstT_bd2 hc (l := l) (fun t ht => by rw [hg.ok.len t ht]; exact hq t ht)
  have hsb : ∀ i : Nat, i ≤ n → 0 ≤ ssum (dstT c l) n i ∧ ssum (dstT c l) n i ≤ 204800000 := fun i hi => by
    have h1 := ssum_bd (M := 200000) (by omega) hbd n i
    have h2 : (200000 * (n : Int)) * (i : Int) ≤ (200000 * 32) * 32 := Int.mul_le_mul (by omega) (by omega) (by omega) (by omega)
    omega
  have hrb : ∀ i k : Nat, k ≤ n → 0 ≤ rsum (dstT c l) i k ∧ rsum (dstT c l) i k ≤ 6400000 := fun i k hk => by
    have h1 := rsum_bd (M := 200000) (by omega) hbd i k
    omega
  repeat' (first | refine d1 ?_ | refine dd ?_ | (show ∀ _ : Nat, T _ _ _ _ _; intro _))
  refine T_loopX (fun i : Nat => [(8, .int .i64 (i : Nat)), (7, .int .i64 (ssum (dstT c l) n i))]) (fun _ => [blk pc c.cells 23]) (fun i => i ≤ n) (fun i => n - i) 0 (Nat.zero_le _) ?_
  intro i hi
  repeat' (first | refine d1 ?_ | refine dd ?_ | (show ∀ _ : Nat, T _ _ _ _ _; intro _))
  refine T_if rfl (fun h3 => ?_) (fun h3 => ?_)
  · simp only [decide_eq_true_eq] at h3
    have hin : i < n := by omega
    have hs1 := hsb i hi
    repeat' (first | refine d1 ?_ | refine dd ?_ | (show ∀ _ : Nat, T _ _ _ _ _; intro _))
    refine T_loopX (fun k : Nat => [(9, .int .i64 (k : Nat)), (7, .int .i64 (ssum (dstT c l) n i + rsum (dstT c l) i k))]) (fun _ => [blk pc c.cells 23]) (fun k => i + 1 ≤ k ∧ k ≤ n) (fun k => n - k) (i + 1) ⟨Nat.le_refl _, hin⟩ ?_ (hE := ⟨rfl, by rw [rsum_low _ _ _ (Nat.le_refl _), Int.add_zero]; rfl, trivial⟩)
    rintro k ⟨hk1, hk2⟩
    repeat' (first | refine d1 ?_ | refine dd ?_ | (show ∀ _ : Nat, T _ _ _ _ _; intro _))
    refine T_if rfl (fun h4 => ?_) (fun h4 => ?_)
    · simp only [decide_eq_true_eq] at h4
      have hkn : k < n := by omega
      obtain ⟨b, o, rfl⟩ := hg.hs.base (by omega)
      obtain ⟨s, hs, hsm, hrs⟩ := hg.get hin
      obtain ⟨t, ht, htm, hrt⟩ := hg.get hkn
      have hd := dst_V hc hbs hs ht (show i < k by omega)
      have hbk := hbd i k
      have hr1 := hrb i k hk2
      have hst : rsum (dstT c l) i (k + 1) = rsum (dstT c l) i k + dstT c l i k := by rw [rsum, if_pos (by omega)]
      repeat' (first | refine d1 ?_ | refine dd ?_ | (show T _ (.ops _ (_ :: _) :: _) _ _ _; first | refine T_val rfl (Val.load rfl (fun hg => rdOld hrs)) rfl rfl rfl ?_ | refine T_valC rfl (Val.load rfl (fun hg => rdOld hrs)) rfl rfl rfl rfl rfl ?_ | refine T_val rfl (Val.load rfl (fun hg => rdOld hrt)) rfl rfl rfl ?_ | refine T_valC rfl (Val.load rfl (fun hg => rdOld hrt)) rfl rfl rfl rfl rfl ?_ | refine T_call rfl rfl rfl rfl rfl (fun w hw => distanceRef18_spec c s.A t.A s.n t.n s.cap t.cap s.l t.l w ((hg.cls hw).two hsm htm)) ?_ | refine T_callC rfl rfl rfl rfl rfl rfl rfl (fun hg w hw => distanceRef18_spec c s.A t.A s.n t.n s.cap t.cap s.l t.l w ((hg.cls hw).two hsm htm)) ?_) | (show T _ (.run _ _ (_ :: _) _ _ :: _) _ _ _; first | refine rv rfl rfl rfl (Val.load rfl (fun hg => rdOld hrs)) rfl rfl rfl ?_ | refine rg rfl rfl rfl (Val.load rfl (fun hg => rdOld hrs)) rfl rfl rfl rfl rfl ?_ | refine rv rfl rfl rfl (Val.load rfl (fun hg => rdOld hrt)) rfl rfl rfl ?_ | refine rg rfl rfl rfl (Val.load rfl (fun hg => rdOld hrt)) rfl rfl rfl rfl rfl ?_ | refine rc rfl rfl rfl rfl rfl rfl rfl (fun w hw => distanceRef18_spec c s.A t.A s.n t.n s.cap t.cap s.l t.l w ((hg.cls hw).two hsm htm)) ?_ | refine rcG rfl rfl rfl rfl rfl rfl rfl rfl rfl (fun hg w hw => distanceRef18_spec c s.A t.A s.n t.n s.cap t.cap s.l t.l w ((hg.cls hw).two hsm htm)) ?_) | (show ∀ _ : Nat, T _ _ _ _ _; intro _))
      rw [hd]
      refine T_if rfl (fun h5 => by exfalso; simp at h5) (fun _ => ?_)
      repeat' (first | refine d1 ?_ | refine dd ?_ | (show ∀ _ : Nat, T _ _ _ _ _; intro _))
      exact T_backX (k + 1) ⟨by omega, hkn⟩ (by omega) (hE := ⟨rfl, by rw [hst, ← Int.add_assoc]; rfl, trivial⟩)
    · simp only [decide_eq_false_iff_not] at h4
      obtain rfl : k = n := by omega
      repeat' (first | refine d1 ?_ | refine dd ?_ | (show ∀ _ : Nat, T _ _ _ _ _; intro _))
      exact T_backX (i + 1) hin (by omega)
  · simp only [decide_eq_false_iff_not] at h3
    obtain rfl : i = n := by omega
    have hs1 := hsb i (Nat.le_refl _)
    repeat' (first | refine d1 ?_ | refine dd ?_ | (show ∀ _ : Nat, T _ _ _ _ _; intro _))
    refine T_if rfl (fun h4 => by exfalso; simp at h4; omega) (fun _ => ?_)
    repeat' (first | refine d1 ?_ | refine dd ?_ | (show ∀ _ : Nat, T _ _ _ _ _; intro _) | (show T _ (.code .ret :: _) _ _ _; refine T_retV [] rfl (Hle.none _) ⟨rfl, rfl⟩))
end Go.Proofs.YtofikdpbagnjbaaGreatDoor
