/- Walks: matrices of costs. -/
import Derived.Test.YtiglobijdegjdaaDoorWalkP
import Derived.Test.YtiglobijdegjdaaDoorWalkH
import Derived.Test.YtiglobijdegjdaaDoorSpecQ
import Derived.Test.YtiglobijdegjdaaDoorEngM
namespace Go.Proofs.YtiglobijdegjdaaDoor
open Go.RowKit Go.Shelf Go.Proofs
set_option maxRecDepth 100000
set_option maxHeartbeats 1000000

theorem matrix_spec (c : Costs) (A : Option Addr) (n ca : Nat) (l : List Tok) (w : World) (hc : costE c = 0) (hl : Src w 6 A n (l.flatMap Tok.cells)) (hn : l.length = n) (hnb : n ≤ 256) (hv : ∀ t ∈ l, tokE t = 0) :
    Spec Tryd.prog 38 [c.val, .slice A n ca] w (fun v R => ∃ (x : Nat × List (Nat × List Value)), x.2.length = n + 1 ∧ RowsOk (matC c l) (n + 1) x.2 ∧ v = .slice (some ⟨x.1, 0, none⟩) (n + 1) (n + 1) ∧ R = [blk x.1 (x.2.map (slv n)) 42, blks 3 x.2]) := by
  refine spec_of sg Tryd.func38 rfl rfl rfl ?_
  refine T_op (OpT.box (cs := c.cells) rfl rfl rfl rfl rfl rfl rfl (fun pc => ?_))
  refine T_op (OpT.box (cs := [.slice A n ca]) rfl rfl rfl rfl rfl rfl rfl (fun pl => ?_))
  repeat' (first | refine d1 ?_ | refine dd ?_ | (show T _ (.ops _ (_ :: _) :: _) _ _ _; refine T_op (OpT.make rfl rfl rfl rfl rfl rfl rfl rfl rfl (by dsimp only; omega) (fun b1 => ?_))) | (show ∀ _ : Nat, T _ _ _ _ _; intro _))
  rename_i pn po
  refine T_nilblks 3 ?_
  refine T_loopX (fun L : List (Nat × List Value) => [(18, .int .i64 L.length)]) (fun L => [blks 3 L, blk po [.slice (some ⟨b1, 0, none⟩) (n + 1) (n + 1)] 39, blk b1 (L.map (slv n) ++ List.replicate (n + 1 - L.length) (.slice none 0 0)) 42, blk pn [.int .i64 n] 3, blk pl [.slice A n ca] 29, blk pc c.cells 23])
    (fun L => L.length ≤ n + 1 ∧ RowsOk (fun _ _ => 0) (n + 1) L) (fun L => n + 1 - L.length) [] ⟨Nat.zero_le _, fun i x h => by simp at h⟩ ?_
  rintro L ⟨hL, hR⟩
  repeat' (first | refine d1 ?_ | refine dd ?_ | (show ∀ _ : Nat, T _ _ _ _ _; intro _))
  refine T_if rfl (fun h => ?_) (fun h => ?_)
  · simp only [decide_eq_true_eq] at h
    have hlt : L.length < n + 1 := by omega
    repeat' (first | refine d1 ?_ | refine dd ?_ | (show T _ (.run _ _ (_ :: _) _ _ :: _) _ _ _; refine ro rfl rfl (OpT.make rfl rfl rfl rfl rfl rfl rfl rfl rfl (by dsimp only; omega) (fun b2 => ⟨fun _ => Hle.sub, ?_⟩))) | (show ∀ _ : Nat, T _ _ _ _ _; intro _))
    refine T_backX (L ++ [(b2, List.replicate (n + 1) (.int .i64 0))]) ⟨by simp; omega, fun i x hx => ?_⟩ (by simp; omega) (hE := ⟨by rw [List.length_append]; rfl, trivial⟩) (hG := ?_)
    · rcases Nat.lt_or_ge i L.length with h1 | h1
      · rw [List.getElem?_append_left h1] at hx; exact hR i x hx
      · rw [List.getElem?_append_right h1] at hx
        have h2 : i - L.length = 0 := by have := (List.getElem?_eq_some_iff.1 hx).1; simp at this; omega
        rw [h2] at hx
        simp at hx
        subst hx
        exact valV_replicate _
    · show Hle [blk b2 (List.replicate (n + 1) (.int .i64 0)) 3, blks 3 L, blk po _ _, blk b1 ((L.map (slv n) ++ List.replicate (n + 1 - L.length) (Value.slice none 0 0)).set (0 + (L.length : Int).toNat * 1) (Value.slice (some ⟨b2, 0, none⟩) (n + 1) (n + 1))) _, _, _, _] _
      rw [set_boundary _ _ _ _ _ (by omega) (by simp)]
      have e : L.map (slv n) ++ [Value.slice (some ⟨b2, 0, none⟩) (n + 1) (n + 1)] ++ List.replicate (n + 1 - L.length - 1) (Value.slice none 0 0) = (L ++ [(b2, List.replicate (n + 1) (Value.int .i64 0))]).map (slv n) ++ List.replicate (n + 1 - (L ++ [(b2, List.replicate (n + 1) (Value.int .i64 0))]).length) (Value.slice none 0 0) := by
        rw [List.map_append, List.length_append, show n + 1 - L.length - 1 = n + 1 - (L.length + 1) by omega]; rfl
      rw [e]
      exact blks_snoc
  · simp only [decide_eq_false_iff_not] at h
    have hLn : L.length = n + 1 := by omega
    have e : L.map (slv n) ++ List.replicate (n + 1 - L.length) (Value.slice none 0 0) = L.map (slv n) := by rw [hLn, Nat.sub_self]; simp
    rw [e]
    have hR0 : RowsOk (matJ c l 0) (n + 1) L := fun i x hx => by rw [hR i x hx, matJ_zero]
    repeat' (first | refine d1 ?_ | refine dd ?_ | (show T _ (.ops _ (_ :: _) :: _) _ _ _; refine T_callE rfl rfl rfl rfl rfl (fun w hw => pairs_spec (n + 1) w) (fun g _ => ?_)) | (show ∀ _ : Nat, T _ _ _ _ _; intro _))
    have hps : ∀ (j : Nat) (y : List Value), (pairVs (n + 1))[j]? = some y → ∃ p, (pairsL (n + 1))[j]? = some p ∧ y = [.int .i64 (p.1 : Nat), .int .i64 (p.2 : Nat)] := by
      intro j y hy
      unfold pairVs at hy
      rw [List.getElem?_map] at hy
      cases hp : (pairsL (n + 1))[j]? with
      | none => rw [hp] at hy; cases hy
      | some p => rw [hp] at hy; exact ⟨p, rfl, (Option.some.inj hy).symm⟩
    refine T_range (pairs_iter (n + 1) g (by omega)) rfl (fun j y hy => by obtain ⟨p, _, rfl⟩ := hps j y hy; exact ⟨rfl, rfl⟩)
      (fun j H => ∃ L, L.length = n + 1 ∧ RowsOk (matJ c l j) (n + 1) L ∧ H = [blks 3 L, blk po [.slice (some ⟨b1, 0, none⟩) (n + 1) (n + 1)] 39, blk b1 (L.map (slv n)) 42, blk pn [.int .i64 n] 3, blk pl [.slice A n ca] 29, blk pc c.cells 23]) (fun _ => False) (fun _ _ => False)
      [blks 3 L, blk po [.slice (some ⟨b1, 0, none⟩) (n + 1) (n + 1)] 39, blk b1 (L.map (slv n)) 42, blk pn [.int .i64 n] 3, blk pl [.slice A n ca] 29, blk pc c.cells 23] ⟨L, hLn, hR0, rfl⟩ (Hle.refl _) ?_ ?_ (fun _ _ h => h.elim) (fun _ _ _ h => h.elim)
    · rintro Lp r j y Hj K hr hy ⟨M, hM, hR2, rfl⟩
      obtain ⟨⟨i, q⟩, hp, rfl⟩ := hps j y hy
      have hmem := pairsL_mem.1 (List.mem_of_getElem? hp)
      obtain ⟨⟨gi, ci⟩, hLi⟩ : ∃ x, M[i]? = some x := ⟨_, List.getElem?_eq_getElem (by omega)⟩
      obtain ⟨⟨gq, cq⟩, hLq⟩ : ∃ x, M[q]? = some x := ⟨_, List.getElem?_eq_getElem (by omega)⟩
      have hci := hR2 _ _ hLi
      have hcq := hR2 _ _ hLq
      dsimp only at hci hcq
      have hcil : ci.length = n + 1 := by rw [hci, valV_length]
      have hcql : cq.length = n + 1 := by rw [hcq, valV_length]
      obtain ⟨ba, oa, rfl⟩ := hl.base (by omega)
      have hr1 : RdC w ba (oa + (i : Int).toNat * 6) (tkA l i).cells := hl.getT (by omega) (tkA_get (by omega))
      have hvi := tokE_ok (hv _ (tkA_mem (l := l) (i := i) (by omega)))
      have ck := costE_ok hc
      show T _ _ ((32, .int .i64 (q : Nat)) :: (31, .int .i64 (i : Nat)) :: _) _ (lrec Lp r :: blks 3 M :: blk po [.slice (some ⟨b1, 0, none⟩) (n + 1) (n + 1)] 39 :: blk b1 (M.map (slv n)) 42 :: blk pn [.int .i64 n] 3 :: blk pl [.slice _ n ca] 29 :: blk pc c.cells 23 :: K)
      repeat' (first | refine d1 ?_ | refine dd ?_ | (show ∀ _ : Nat, T _ _ _ _ _; intro _) | (show T _ _ _ _ _; refine T_begin hr rfl ?_))
      show T _ [_, _, _] _ _ _
      have hx : matC c l i q = if q = n then gapC c (tkA l i) else pairC c (tkA l i) (tkA l q) := by
        unfold matC
        rw [if_neg (by omega), Nat.max_eq_right (by omega), Nat.min_eq_left (by omega), hn]
      refine T_cutX 1 [10] (fun _ : Unit => [(10, .int .i64 (matC c l i q))]) (fun _ => lrec Lp (busy r) :: blks 3 M :: blk po [.slice (some ⟨b1, 0, none⟩) (n + 1) (n + 1)] 39 :: blk b1 (M.map (slv n)) 42 :: blk pn [.int .i64 n] 3 :: blk pl [.slice (some ⟨ba, oa, none⟩) n ca] 29 :: blk pc c.cells 23 :: K) (fun _ => True) ?_ ?_
      · refine T_if rfl (fun h5 => ?_) (fun h5 => ?_)
        · simp only [decide_eq_true_eq] at h5
          rw [if_pos (by omega)] at hx
          repeat' (first | refine d1 ?_ | refine dd ?_ | (show T _ (.ops _ (_ :: _) :: _) _ _ _; first | refine T_call rfl rfl rfl rfl rfl (fun w hw => gapPrgC_spec c (tkA l i) ck.1 hvi.1 w) ?_ | refine T_callC rfl rfl rfl rfl rfl rfl rfl (fun hg w hw => gapPrgC_spec c (tkA l i) ck.1 hvi.1 w) ?_) | (show T _ (.run _ _ (_ :: _) _ _ :: _) _ _ _; first | refine rc rfl rfl rfl rfl rfl rfl rfl (fun w hw => gapPrgC_spec c (tkA l i) ck.1 hvi.1 w) ?_ | refine rcG rfl rfl rfl rfl rfl rfl rfl rfl rfl (fun hg w hw => gapPrgC_spec c (tkA l i) ck.1 hvi.1 w) ?_) | (show ∀ _ : Nat, T _ _ _ _ _; intro _))
          exact T_meetX () trivial (hE := ⟨by rw [hx]; rfl, trivial⟩)
        · simp only [decide_eq_false_iff_not] at h5
          rw [if_neg (by omega)] at hx
          have hr2 : RdC w ba (oa + (q : Int).toNat * 6) (tkA l q).cells := hl.getT (by omega) (tkA_get (by omega))
          have hvq := tokE_ok (hv _ (tkA_mem (l := l) (i := q) (by omega)))
          repeat' (first | refine d1 ?_ | refine dd ?_ | (show T _ (.ops _ (_ :: _) :: _) _ _ _; first | refine T_call rfl rfl rfl rfl rfl (fun w hw => pairPrg_spec c (tkA l i) (tkA l q) hc hvi.1 hvq.1 (by omega) (by omega) w) ?_ | refine T_callC rfl rfl rfl rfl rfl rfl rfl (fun hg w hw => pairPrg_spec c (tkA l i) (tkA l q) hc hvi.1 hvq.1 (by omega) (by omega) w) ?_) | (show T _ (.run _ _ (_ :: _) _ _ :: _) _ _ _; first | refine rc rfl rfl rfl rfl rfl rfl rfl (fun w hw => pairPrg_spec c (tkA l i) (tkA l q) hc hvi.1 hvq.1 (by omega) (by omega) w) ?_ | refine rcG rfl rfl rfl rfl rfl rfl rfl rfl rfl (fun hg w hw => pairPrg_spec c (tkA l i) (tkA l q) hc hvi.1 hvq.1 (by omega) (by omega) w) ?_) | (show ∀ _ : Nat, T _ _ _ _ _; intro _))
          exact T_meetX () trivial (hE := ⟨by rw [hx]; rfl, trivial⟩)
      · rintro ⟨⟩ _
        have hne : i ≠ q := by omega
        refine rsH [blk po [.slice (some ⟨b1, 0, none⟩) (n + 1) (n + 1)] 39, blk b1 (M.map (slv n)) 42] 1000 [0, 1, 2, 3, 4, 5, 6, 7, 8, 9, 10, 11, 12, 13, 14, 15] ?_
        repeat' (first | refine d1 ?_ | refine dd ?_ | (show T _ (.ops _ (_ :: _) :: _) _ _ _; first | refine T_val rfl (Val.load rfl (fun hg => rdOwn1 (u := .slice (some ⟨gi, 0, none⟩) (n + 1) (n + 1)) (b := b1) (by rw [show 0 + (i : Int).toNat * 1 = i by omega, List.getElem?_map, hLi]; rfl))) rfl rfl rfl ?_ | refine T_valC rfl (Val.load rfl (fun hg => rdOwn1 (u := .slice (some ⟨gi, 0, none⟩) (n + 1) (n + 1)) (b := b1) (by rw [show 0 + (i : Int).toNat * 1 = i by omega, List.getElem?_map, hLi]; rfl))) rfl rfl rfl rfl rfl ?_ | refine T_val rfl (Val.load rfl (fun hg => rdOwn1 (u := .slice (some ⟨gq, 0, none⟩) (n + 1) (n + 1)) (b := b1) (by rw [show 0 + (q : Int).toNat * 1 = q by omega, List.getElem?_map, hLq]; rfl))) rfl rfl rfl ?_ | refine T_valC rfl (Val.load rfl (fun hg => rdOwn1 (u := .slice (some ⟨gq, 0, none⟩) (n + 1) (n + 1)) (b := b1) (by rw [show 0 + (q : Int).toNat * 1 = q by omega, List.getElem?_map, hLq]; rfl))) rfl rfl rfl rfl rfl ?_) | (show T _ (.run _ _ (_ :: _) _ _ :: _) _ _ _; first | refine rv rfl rfl rfl (Val.load rfl (fun hg => rdOwn1 (u := .slice (some ⟨gi, 0, none⟩) (n + 1) (n + 1)) (b := b1) (by rw [show 0 + (i : Int).toNat * 1 = i by omega, List.getElem?_map, hLi]; rfl))) rfl rfl rfl ?_ | refine rg rfl rfl rfl (Val.load rfl (fun hg => rdOwn1 (u := .slice (some ⟨gi, 0, none⟩) (n + 1) (n + 1)) (b := b1) (by rw [show 0 + (i : Int).toNat * 1 = i by omega, List.getElem?_map, hLi]; rfl))) rfl rfl rfl rfl rfl ?_ | refine rv rfl rfl rfl (Val.load rfl (fun hg => rdOwn1 (u := .slice (some ⟨gq, 0, none⟩) (n + 1) (n + 1)) (b := b1) (by rw [show 0 + (q : Int).toNat * 1 = q by omega, List.getElem?_map, hLq]; rfl))) rfl rfl rfl ?_ | refine rg rfl rfl rfl (Val.load rfl (fun hg => rdOwn1 (u := .slice (some ⟨gq, 0, none⟩) (n + 1) (n + 1)) (b := b1) (by rw [show 0 + (q : Int).toNat * 1 = q by omega, List.getElem?_map, hLq]; rfl))) rfl rfl rfl rfl rfl ?_ | refine ro rfl rfl (OpT.storeM rfl rfl rfl hLi rfl (by omega) ⟨fun _ => Hle.sub, ?_⟩) | refine ro rfl rfl (OpT.storeM rfl rfl rfl (k := q) (cs := cq) (by rw [List.getElem?_set_ne hne]; exact hLq) rfl (by omega) ⟨fun _ => Hle.sub, ?_⟩)) | (show ∀ _ : Nat, T _ _ _ _ _; intro _))
        rw [show 0 + (q : Int).toNat * 1 = q by omega, show 0 + (i : Int).toNat * 1 = i by omega]
        refine T_next (blks 3 _ :: blk po [.slice (some ⟨b1, 0, none⟩) (n + 1) (n + 1)] 39 :: blk b1 (((M.set i (gi, ci.set q (.int .i64 (matC c l i q)))).set q (gq, cq.set i (.int .i64 (matC c l i q)))).map (slv n)) 42 :: blk pn [.int .i64 n] 3 :: blk pl [.slice (some ⟨ba, oa, none⟩) n ca] 29 :: blk pc c.cells 23 :: []) ⟨_, by rw [List.length_set, List.length_set]; exact hM, rows_step hR2 hLi hLq hmem.1 (by rw [hn]; exact hp), rfl⟩ ?_
        have e : ((M.set i (gi, ci.set q (Value.int .i64 (matC c l i q)))).set q (gq, cq.set i (Value.int .i64 (matC c l i q)))).map (slv n) = M.map (slv n) := by
          have e0 : ∀ L : List (Nat × List Value), L.map (slv n) = (L.map Prod.fst).map fun g => Value.slice (some ⟨g, 0, none⟩) (n + 1) (n + 1) := fun L => by rw [List.map_map]; rfl
          rw [e0, e0 M, fst_set (k := q) (cs := cq) (by rw [List.getElem?_set_ne hne]; exact hLq), fst_set hLi]
        rw [e]
        exact Hle.refl _
    · rintro D Hn ⟨M, hM, hR2, rfl⟩
      have hR3 := rows_all hn hM hR2 (by unfold pairVs; rw [List.length_map]; exact Nat.le_refl _)
      show T _ _ _ _ (dfr D :: blk g [.int .i64 ((n + 1 : Nat) : Int)] 3 :: blks 3 M :: blk po [.slice (some ⟨b1, 0, none⟩) (n + 1) (n + 1)] 39 :: blk b1 (M.map (slv n)) 42 :: _)
      repeat' (first | refine d1 ?_ | refine dd ?_ | (show ∀ _ : Nat, T _ _ _ _ _; intro _) | (show T _ (.code .ret :: _) _ _ _; refine T_retD (Hle.refl _) (rf_V (vs := [.slice (some ⟨b1, 0, none⟩) (n + 1) (n + 1)]) [blk b1 (M.map (slv n)) 42, blks 3 M] rfl (Hle.trans (Hle.perm (List.Perm.refl _)) ?_) ⟨(b1, M), hM, hR3, rfl, rfl⟩)))
      exact (Hle.sub (K := [blks 3 M, blk b1 (M.map (slv n)) 42])).trans (Hle.perm (List.Perm.swap _ _ _))

noncomputable def metricV (c : Costs) (l : List Tok) : Bool × Int := if costE c ≠ 0 then (false, 1) else if 32 < l.length then (false, 4) else if tokErr c l ≠ 0 then (false, 1) else (metB c l, 0)
theorem metricPrg_spec (c : Costs) (A : Option Addr) (n ca : Nat) (l : List Tok) (w : World) (hst : Std w) (hl : Src w 6 A n (l.flatMap Tok.cells)) (hn : l.length = n) (hnb : n ≤ 9223372036854775807) (hsm : ∀ t ∈ l, t.small) :
    Spec Tryd.prog 25 [c.val, .slice A n ca] w (fun v R => v = .tuple #[.bool (metricV c l).1, .int .i64 (metricV c l).2] ∧ R = []) := by
  refine spec_of sg Tryd.func25 rfl rfl rfl ?_
  refine T_op (OpT.box (cs := c.cells) rfl rfl rfl rfl rfl rfl rfl (fun pc => ?_))
  repeat' (first | refine d1 ?_ | refine dd ?_ | (show T _ (.ops _ (_ :: _) :: _) _ _ _; first | refine T_call rfl rfl rfl rfl rfl (fun w hw => costPrg_spec c w) ?_ | refine T_callC rfl rfl rfl rfl rfl rfl rfl (fun hg w hw => costPrg_spec c w) ?_) | (show T _ (.run _ _ (_ :: _) _ _ :: _) _ _ _; first | refine rc rfl rfl rfl rfl rfl rfl rfl (fun w hw => costPrg_spec c w) ?_ | refine rcG rfl rfl rfl rfl rfl rfl rfl rfl rfl (fun hg w hw => costPrg_spec c w) ?_) | (show ∀ _ : Nat, T _ _ _ _ _; intro _))
  rename_i p4 p5
  refine T_if rfl (fun h => ?_) (fun h => ?_)
  · simp only [Bool.not_eq_true', decide_eq_false_iff_not] at h
    repeat' (first | refine d1 ?_ | refine dd ?_ | (show ∀ _ : Nat, T _ _ _ _ _; intro _) | (show T _ (.code .ret :: _) _ _ _; refine T_retM (vs := [.bool false, .int .i64 1]) [] ⟨⟨p4, _, [.bool false], rfl, rfl, rfl, rfl, (fun _ => rfl), rfl, rdOwn1 rfl⟩, ⟨p5, _, [.int .i64 1], rfl, rfl, rfl, rfl, (fun _ => rfl), rfl, rdOwn1 rfl⟩, trivial⟩ (Hle.none _) ⟨?_, rfl⟩))
    unfold metricV; rw [if_pos h]; rfl
  simp only [Bool.not_eq_false', decide_eq_true_eq] at h
  repeat' (first | refine d1 ?_ | refine dd ?_ | (show ∀ _ : Nat, T _ _ _ _ _; intro _))
  refine T_if rfl (fun h1 => ?_) (fun h1 => ?_)
  · simp only [decide_eq_true_eq] at h1
    repeat' (first | refine d1 ?_ | refine dd ?_ | (show ∀ _ : Nat, T _ _ _ _ _; intro _) | (show T _ (.code .ret :: _) _ _ _; refine T_retM (vs := [.bool false, .int .i64 4]) [] ⟨⟨p4, _, [.bool false], rfl, rfl, rfl, rfl, (fun _ => rfl), rfl, rdOwn1 rfl⟩, ⟨p5, _, [.int .i64 4], rfl, rfl, rfl, rfl, (fun _ => rfl), rfl, rdOwn1 rfl⟩, trivial⟩ (Hle.none _) ⟨?_, rfl⟩))
    unfold metricV; rw [if_neg (by omega), if_pos (by omega)]; rfl
  simp only [decide_eq_false_iff_not] at h1
  repeat' (first | refine d1 ?_ | refine dd ?_ | (show T _ (.ops _ (_ :: _) :: _) _ _ _; first | refine T_call rfl rfl rfl rfl rfl (fun w hw => checkTC_spec c A n ca l w (hst.cls hw) (rdSrc hl w hw) hn hnb hsm) ?_ | refine T_callC rfl rfl rfl rfl rfl rfl rfl (fun hg w hw => checkTC_spec c A n ca l w (hst.cls hw) (rdSrc hl w hw) hn hnb hsm) ?_) | (show T _ (.run _ _ (_ :: _) _ _ :: _) _ _ _; first | refine rc rfl rfl rfl rfl rfl rfl rfl (fun w hw => checkTC_spec c A n ca l w (hst.cls hw) (rdSrc hl w hw) hn hnb hsm) ?_ | refine rcG rfl rfl rfl rfl rfl rfl rfl rfl rfl (fun hg w hw => checkTC_spec c A n ca l w (hst.cls hw) (rdSrc hl w hw) hn hnb hsm) ?_) | (show ∀ _ : Nat, T _ _ _ _ _; intro _))
  refine T_if rfl (fun h2 => ?_) (fun h2 => ?_)
  · simp only [Bool.not_eq_true', decide_eq_false_iff_not] at h2
    have h3 := (tokErr_01 c l).resolve_left h2
    repeat' (first | refine d1 ?_ | refine dd ?_ | (show ∀ _ : Nat, T _ _ _ _ _; intro _) | (show T _ (.code .ret :: _) _ _ _; refine T_retM (vs := [.bool false, .int .i64 (tokErr c l)]) [] ⟨⟨p4, _, [.bool false], rfl, rfl, rfl, rfl, (fun _ => rfl), rfl, rdOwn1 rfl⟩, ⟨p5, _, [.int .i64 (tokErr c l)], rfl, rfl, rfl, rfl, (fun _ => rfl), rfl, rdOwn1 rfl⟩, trivial⟩ (Hle.none _) ⟨?_, rfl⟩))
    unfold metricV; rw [if_neg (by omega), if_neg (by omega), if_pos h2, h3]; rfl
  simp only [Bool.not_eq_false', decide_eq_true_eq] at h2
  have hok := tokErr_ok h2
  have hmv : metricV c l = (metB c l, 0) := by unfold metricV; rw [if_neg (by omega), if_neg (by omega), if_neg (by omega)]
  repeat' (first | refine d1 ?_ | refine dd ?_ | (show T _ (.ops _ (_ :: _) :: _) _ _ _; refine T_op (OpT.call rfl rfl rfl rfl rfl (fun w hw => matrix_spec c A n ca l w h (rdSrc hl w hw) hn (by omega) hok.2) ?_)) | (show ∀ _ : Nat, T _ _ _ _ _; intro _))
  rintro v R ⟨⟨g, L⟩, hL, hR, rfl, rfl⟩
  dsimp only at hL hR ⊢
  repeat' (first | refine d1 ?_ | refine dd ?_ | (show T _ (.ops _ (_ :: _) :: _) _ _ _; refine T_callE rfl rfl rfl rfl rfl (fun w hw => pairs_spec (n + 1) w) (fun pg _ => ?_)) | (show ∀ _ : Nat, T _ _ _ _ _; intro _))
  rename_i p7 _
  have hps : ∀ (j : Nat) (y : List Value), (pairVs (n + 1))[j]? = some y → ∃ p, (pairsL (n + 1))[j]? = some p ∧ y = [.int .i64 (p.1 : Nat), .int .i64 (p.2 : Nat)] := by
    intro j y hy
    unfold pairVs at hy
    rw [List.getElem?_map] at hy
    cases hp : (pairsL (n + 1))[j]? with
    | none => rw [hp] at hy; cases hy
    | some p => rw [hp] at hy; exact ⟨p, rfl, (Option.some.inj hy).symm⟩
  refine T_range (pairs_iter (n + 1) pg (by omega)) rfl (fun j y hy => by obtain ⟨p, _, rfl⟩ := hps j y hy; exact ⟨rfl, rfl⟩)
    (fun j H => H = [blk p7 [.slice (some ⟨g, 0, none⟩) (n + 1) (n + 1)] 39, blk g (L.map (slv n)) 42, blks 3 L, blk p5 [.int .i64 0] 31, blk p4 [.bool false] 4, blk pc c.cells 23] ∧ ∀ a, a < j → ∀ p, (pairsL (n + 1))[a]? = some p → ∀ m, m ≤ n → matC c l p.1 p.2 ≤ matC c l p.1 m + matC c l m p.2)
    (fun H => H = [blk p7 [.slice (some ⟨g, 0, none⟩) (n + 1) (n + 1)] 39, blk g (L.map (slv n)) 42, blks 3 L, blk p5 [.int .i64 0] 31, blk p4 [.bool false] 4, blk pc c.cells 23] ∧ ¬ metP c l) (fun _ _ => False)
    [blk p7 [.slice (some ⟨g, 0, none⟩) (n + 1) (n + 1)] 39, blk g (L.map (slv n)) 42, blks 3 L, blk p5 [.int .i64 0] 31, blk p4 [.bool false] 4, blk pc c.cells 23] ⟨rfl, fun a h => by omega⟩ (Hle.refl _) ?_ ?_ ?_ (fun _ _ _ h => h.elim)
  · rintro Lp r j y Hj K hr hy ⟨rfl, hG⟩
    obtain ⟨⟨i, q⟩, hp, rfl⟩ := hps j y hy
    have hmem := pairsL_mem.1 (List.mem_of_getElem? hp)
    obtain ⟨⟨gi, ci⟩, hLi⟩ : ∃ x, L[i]? = some x := ⟨_, List.getElem?_eq_getElem (by omega)⟩
    have hci := hR _ _ hLi
    dsimp only at hci
    show T _ _ ((30, .int .i64 (q : Nat)) :: (29, .int .i64 (i : Nat)) :: _) _ (lrec Lp r :: blk p7 [.slice (some ⟨g, 0, none⟩) (n + 1) (n + 1)] 39 :: blk g (L.map (slv n)) 42 :: blks 3 L :: blk p5 [.int .i64 0] 31 :: blk p4 [.bool false] 4 :: blk pc c.cells 23 :: K)
    repeat' (first | refine d1 ?_ | refine dd ?_ | (show ∀ _ : Nat, T _ _ _ _ _; intro _) | (show T _ _ _ _ _; refine T_begin hr rfl ?_))
    refine T_loopX (fun m : Nat => [(33, .int .i64 m)]) (fun _ => lrec Lp (busy r) :: blk p7 [.slice (some ⟨g, 0, none⟩) (n + 1) (n + 1)] 39 :: blk g (L.map (slv n)) 42 :: blks 3 L :: blk p5 [.int .i64 0] 31 :: blk p4 [.bool false] 4 :: blk pc c.cells 23 :: K) (fun m => m ≤ n + 1 ∧ ∀ z, z < m → matC c l i q ≤ matC c l i z + matC c l z q) (fun m => n + 1 - m) 0 ⟨by omega, fun z h => by omega⟩ ?_
    rintro m ⟨hm, hz⟩
    repeat' (first | refine d1 ?_ | refine dd ?_ | (show ∀ _ : Nat, T _ _ _ _ _; intro _))
    refine T_if rfl (fun h5 => ?_) (fun h5 => ?_)
    · simp only [decide_eq_true_eq] at h5
      obtain ⟨⟨gm, cm⟩, hLm⟩ : ∃ x, L[m]? = some x := ⟨_, List.getElem?_eq_getElem (by omega)⟩
      have hcm := hR _ _ hLm
      dsimp only at hcm
      have b1 := matC_bd h l i q
      have b2 := matC_bd h l i m
      have b3 := matC_bd h l m q
      repeat' (first | refine d1 ?_ | refine dd ?_ | (show T _ (.ops _ (_ :: _) :: _) _ _ _; first | refine T_val rfl (Val.load rfl (fun hg => rdOwn1 (u := .slice (some ⟨gi, 0, none⟩) (n + 1) (n + 1)) (b := g) (by rw [show 0 + (i : Int).toNat * 1 = i by omega, List.getElem?_map, hLi]; rfl))) rfl rfl rfl ?_ | refine T_valC rfl (Val.load rfl (fun hg => rdOwn1 (u := .slice (some ⟨gi, 0, none⟩) (n + 1) (n + 1)) (b := g) (by rw [show 0 + (i : Int).toNat * 1 = i by omega, List.getElem?_map, hLi]; rfl))) rfl rfl rfl rfl rfl ?_ | refine T_val rfl (Val.load rfl (fun hg => rdOwn1 (u := .slice (some ⟨gm, 0, none⟩) (n + 1) (n + 1)) (b := g) (by rw [show 0 + (m : Int).toNat * 1 = m by omega, List.getElem?_map, hLm]; rfl))) rfl rfl rfl ?_ | refine T_valC rfl (Val.load rfl (fun hg => rdOwn1 (u := .slice (some ⟨gm, 0, none⟩) (n + 1) (n + 1)) (b := g) (by rw [show 0 + (m : Int).toNat * 1 = m by omega, List.getElem?_map, hLm]; rfl))) rfl rfl rfl rfl rfl ?_ | refine T_val rfl (Val.load rfl (fun hg => rdM (l := L) (k := i) (g := gi) (vs := [.int .i64 (matC c l i q)]) hLi (get1 (by rw [hci]; exact vget q (by omega) (by omega))))) rfl rfl rfl ?_ | refine T_valC rfl (Val.load rfl (fun hg => rdM (l := L) (k := i) (g := gi) (vs := [.int .i64 (matC c l i q)]) hLi (get1 (by rw [hci]; exact vget q (by omega) (by omega))))) rfl rfl rfl rfl rfl ?_ | refine T_val rfl (Val.load rfl (fun hg => rdM (l := L) (k := i) (g := gi) (vs := [.int .i64 (matC c l i m)]) hLi (get1 (by rw [hci]; exact vget m (by omega) (by omega))))) rfl rfl rfl ?_ | refine T_valC rfl (Val.load rfl (fun hg => rdM (l := L) (k := i) (g := gi) (vs := [.int .i64 (matC c l i m)]) hLi (get1 (by rw [hci]; exact vget m (by omega) (by omega))))) rfl rfl rfl rfl rfl ?_ | refine T_val rfl (Val.load rfl (fun hg => rdM (l := L) (k := m) (g := gm) (vs := [.int .i64 (matC c l m q)]) hLm (get1 (by rw [hcm]; exact vget q (by omega) (by omega))))) rfl rfl rfl ?_ | refine T_valC rfl (Val.load rfl (fun hg => rdM (l := L) (k := m) (g := gm) (vs := [.int .i64 (matC c l m q)]) hLm (get1 (by rw [hcm]; exact vget q (by omega) (by omega))))) rfl rfl rfl rfl rfl ?_) | (show T _ (.run _ _ (_ :: _) _ _ :: _) _ _ _; first | refine rv rfl rfl rfl (Val.load rfl (fun hg => rdOwn1 (u := .slice (some ⟨gi, 0, none⟩) (n + 1) (n + 1)) (b := g) (by rw [show 0 + (i : Int).toNat * 1 = i by omega, List.getElem?_map, hLi]; rfl))) rfl rfl rfl ?_ | refine rg rfl rfl rfl (Val.load rfl (fun hg => rdOwn1 (u := .slice (some ⟨gi, 0, none⟩) (n + 1) (n + 1)) (b := g) (by rw [show 0 + (i : Int).toNat * 1 = i by omega, List.getElem?_map, hLi]; rfl))) rfl rfl rfl rfl rfl ?_ | refine rv rfl rfl rfl (Val.load rfl (fun hg => rdOwn1 (u := .slice (some ⟨gm, 0, none⟩) (n + 1) (n + 1)) (b := g) (by rw [show 0 + (m : Int).toNat * 1 = m by omega, List.getElem?_map, hLm]; rfl))) rfl rfl rfl ?_ | refine rg rfl rfl rfl (Val.load rfl (fun hg => rdOwn1 (u := .slice (some ⟨gm, 0, none⟩) (n + 1) (n + 1)) (b := g) (by rw [show 0 + (m : Int).toNat * 1 = m by omega, List.getElem?_map, hLm]; rfl))) rfl rfl rfl rfl rfl ?_ | refine rv rfl rfl rfl (Val.load rfl (fun hg => rdM (l := L) (k := i) (g := gi) (vs := [.int .i64 (matC c l i q)]) hLi (get1 (by rw [hci]; exact vget q (by omega) (by omega))))) rfl rfl rfl ?_ | refine rg rfl rfl rfl (Val.load rfl (fun hg => rdM (l := L) (k := i) (g := gi) (vs := [.int .i64 (matC c l i q)]) hLi (get1 (by rw [hci]; exact vget q (by omega) (by omega))))) rfl rfl rfl rfl rfl ?_ | refine rv rfl rfl rfl (Val.load rfl (fun hg => rdM (l := L) (k := i) (g := gi) (vs := [.int .i64 (matC c l i m)]) hLi (get1 (by rw [hci]; exact vget m (by omega) (by omega))))) rfl rfl rfl ?_ | refine rg rfl rfl rfl (Val.load rfl (fun hg => rdM (l := L) (k := i) (g := gi) (vs := [.int .i64 (matC c l i m)]) hLi (get1 (by rw [hci]; exact vget m (by omega) (by omega))))) rfl rfl rfl rfl rfl ?_ | refine rv rfl rfl rfl (Val.load rfl (fun hg => rdM (l := L) (k := m) (g := gm) (vs := [.int .i64 (matC c l m q)]) hLm (get1 (by rw [hcm]; exact vget q (by omega) (by omega))))) rfl rfl rfl ?_ | refine rg rfl rfl rfl (Val.load rfl (fun hg => rdM (l := L) (k := m) (g := gm) (vs := [.int .i64 (matC c l m q)]) hLm (get1 (by rw [hcm]; exact vget q (by omega) (by omega))))) rfl rfl rfl rfl rfl ?_) | (show ∀ _ : Nat, T _ _ _ _ _; intro _))
      refine T_if rfl (fun h6 => ?_) (fun h6 => ?_)
      · simp only [decide_eq_true_eq] at h6
        repeat' (first | refine d1 ?_ | refine dd ?_ | (show ∀ _ : Nat, T _ _ _ _ _; intro _) | (show T _ (.code .ret :: _) _ _ _; refine T_rret _ ⟨rfl, fun hh => ?_⟩ (Hle.refl _)))
        have := hh i q m (by omega) (by omega) (by omega)
        omega
      · simp only [decide_eq_false_iff_not] at h6
        repeat' (first | refine d1 ?_ | refine dd ?_ | (show ∀ _ : Nat, T _ _ _ _ _; intro _))
        refine T_backX (m + 1) ⟨by omega, fun z hz2 => ?_⟩ (by omega)
        rcases Nat.lt_or_ge z m with h7 | h7
        · exact hz z h7
        · rw [show z = m by omega]; omega
    · simp only [decide_eq_false_iff_not] at h5
      repeat' (first | refine d1 ?_ | refine dd ?_ | (show ∀ _ : Nat, T _ _ _ _ _; intro _))
      refine T_next _ ⟨rfl, fun a ha p hpa m' hm' => ?_⟩ (Hle.refl _)
      rcases Nat.lt_or_ge a j with h6 | h6
      · exact hG a h6 p hpa m' hm'
      · rw [show a = j by omega, hp] at hpa
        cases hpa
        exact hz m' (by omega)
  · rintro D Hn ⟨rfl, hG⟩
    show T _ _ _ _ (dfr D :: blk pg [.int .i64 ((n + 1 : Nat) : Int)] 3 :: blk p7 [.slice (some ⟨g, 0, none⟩) (n + 1) (n + 1)] 39 :: blk g (L.map (slv n)) 42 :: blks 3 L :: blk p5 [.int .i64 0] 31 :: blk p4 [.bool false] 4 :: blk pc c.cells 23 :: [])
    repeat' (first | refine d1 ?_ | refine dd ?_ | (show ∀ _ : Nat, T _ _ _ _ _; intro _) | (show T _ (.code .ret :: _) _ _ _; refine T_retD (Hle.refl _) (rf_M (ds := []) (vs := [.bool true, .int .i64 0]) [] ⟨⟨p4, _, [.bool true], rfl, rfl, rfl, rfl, (fun _ => rfl), rfl, rdOwn1 rfl⟩, ⟨p5, _, [.int .i64 0], rfl, rfl, rfl, rfl, (fun _ => rfl), rfl, rdOwn1 rfl⟩, trivial⟩ (Hle.none _) ⟨?_, rfl⟩)))
    rw [hmv, metB_true (metP_of h fun i q m h5 h6 h7 => ?_)]
    · rfl
    · have hp := pairsL_get (n := n + 1) (k := q) (i := i) (by omega) h5
      exact hG _ (by unfold pairVs; rw [List.length_map]; exact (List.getElem?_eq_some_iff.1 hp).1) _ hp m (by omega)
  · rintro D Hx ⟨rfl, hno⟩
    show T _ _ _ _ (dfr D :: blk pg [.int .i64 ((n + 1 : Nat) : Int)] 3 :: blk p7 [.slice (some ⟨g, 0, none⟩) (n + 1) (n + 1)] 39 :: blk g (L.map (slv n)) 42 :: blks 3 L :: blk p5 [.int .i64 0] 31 :: blk p4 [.bool false] 4 :: blk pc c.cells 23 :: [])
    refine T_retD (Hle.refl _) (rf_M (ds := []) (vs := [.bool false, .int .i64 0]) [] ⟨⟨p4, _, [.bool false], rfl, rfl, rfl, rfl, (fun _ => rfl), rfl, rdOwn1 rfl⟩, ⟨p5, _, [.int .i64 0], rfl, rfl, rfl, rfl, (fun _ => rfl), rfl, rdOwn1 rfl⟩, trivial⟩ (Hle.none _) ⟨?_, rfl⟩)
    rw [hmv, metB_false hno]; rfl

/-- The matrix of the tokens. -/
def matRows (c : Costs) (l : List Tok) : List (List Int) := (List.range l.length).map fun i => (List.range l.length).map fun k => matC c l i k
def matrixV (c : Costs) (l : List Tok) : List (List Int) × Int := if costE c ≠ 0 then ([], 1) else if 256 < l.length then ([], 4) else if tokErr c l ≠ 0 then ([], 1) else (matRows c l, 0)
def hdr (n : Nat) (x : Nat × List Value) : Value := .slice (some ⟨x.1, 0, none⟩) n (n + 1)
theorem rows_mat {c : Costs} {l : List Tok} {n : Nat} {L : List (Nat × List Value)} (hn : l.length = n) (hL : L.length = n + 1) (hR : RowsOk (matC c l) (n + 1) L) :
    (L.map fun x => D.s 1 ((x.2.take n).map .v)).take n = (matRows c l).map intsD := by
  apply List.ext_getElem?
  intro i
  unfold matRows
  rw [List.getElem?_take, List.getElem?_map, List.getElem?_map, List.getElem?_map, hn]
  by_cases hi : i < n
  · rw [if_pos hi]
    obtain ⟨x, hx⟩ : ∃ x, L[i]? = some x := ⟨_, List.getElem?_eq_getElem (by omega)⟩
    rw [hx, List.getElem?_range hi]
    simp only [Option.map_some]
    rw [hR _ _ hx]
    congr 2
    unfold valV
    rw [← List.map_take, List.take_range, Nat.min_eq_left (by omega), List.map_map, List.map_map]
    rfl
  · rw [if_neg hi, List.getElem?_eq_none (by simp; omega)]
    rfl
theorem matrixTop_spec (c : Costs) (A : Option Addr) (n ca : Nat) (l : List Tok) (w : World) (hst : Std w) (hl : Src w 6 A n (l.flatMap Tok.cells)) (hn : l.length = n) (hnb : n ≤ 9223372036854775807) (hsm : ∀ t ∈ l, t.small) :
    Spec Tryd.prog 21 [c.val, .slice A n ca] w (fun v R => ∃ x : Value, True ∧ v = .tuple #[x, .int .i64 (matrixV c l).2] ∧ R = [dat [x] [rowsD (matrixV c l).1]]) := by
  refine spec_of sg Tryd.func21 rfl rfl rfl ?_
  refine T_op (OpT.box (cs := c.cells) rfl rfl rfl rfl rfl rfl rfl (fun pc => ?_))
  have hnil : ∀ H : List HA, Hle H [dat [.slice none 0 0] [rowsD []]] := fun H => (hle_unit (B := dat [.slice none 0 0] [rowsD []]) (.s none 0 0 1 [] rfl (Nat.le_refl _) (by omega) (fun h => absurd h (by omega)) .nil .nil)).trans Hle.sub
  repeat' (first | refine d1 ?_ | refine dd ?_ | (show T _ (.ops _ (_ :: _) :: _) _ _ _; first | refine T_call rfl rfl rfl rfl rfl (fun w hw => costPrg_spec c w) ?_ | refine T_callC rfl rfl rfl rfl rfl rfl rfl (fun hg w hw => costPrg_spec c w) ?_) | (show T _ (.run _ _ (_ :: _) _ _ :: _) _ _ _; first | refine rc rfl rfl rfl rfl rfl rfl rfl (fun w hw => costPrg_spec c w) ?_ | refine rcG rfl rfl rfl rfl rfl rfl rfl rfl rfl (fun hg w hw => costPrg_spec c w) ?_) | (show ∀ _ : Nat, T _ _ _ _ _; intro _))
  refine T_if rfl (fun h => ?_) (fun h => ?_)
  · simp only [Bool.not_eq_true', decide_eq_false_iff_not] at h
    have e : matrixV c l = ([], 1) := by unfold matrixV; rw [if_pos h]
    repeat' (first | refine d1 ?_ | refine dd ?_ | (show ∀ _ : Nat, T _ _ _ _ _; intro _) | (show T _ (.code .ret :: _) _ _ _; refine T_retV _ rfl (hnil _) ⟨_, trivial, by rw [e]; rfl, by rw [e]⟩))
  simp only [Bool.not_eq_false', decide_eq_true_eq] at h
  repeat' (first | refine d1 ?_ | refine dd ?_ | (show ∀ _ : Nat, T _ _ _ _ _; intro _))
  refine T_if rfl (fun h1 => ?_) (fun h1 => ?_)
  · simp only [decide_eq_true_eq] at h1
    have e : matrixV c l = ([], 4) := by unfold matrixV; rw [if_neg (by omega), if_pos (by omega)]
    repeat' (first | refine d1 ?_ | refine dd ?_ | (show ∀ _ : Nat, T _ _ _ _ _; intro _) | (show T _ (.code .ret :: _) _ _ _; refine T_retV _ rfl (hnil _) ⟨_, trivial, by rw [e]; rfl, by rw [e]⟩))
  simp only [decide_eq_false_iff_not] at h1
  repeat' (first | refine d1 ?_ | refine dd ?_ | (show T _ (.ops _ (_ :: _) :: _) _ _ _; first | refine T_call rfl rfl rfl rfl rfl (fun w hw => checkTC_spec c A n ca l w (hst.cls hw) (rdSrc hl w hw) hn hnb hsm) ?_ | refine T_callC rfl rfl rfl rfl rfl rfl rfl (fun hg w hw => checkTC_spec c A n ca l w (hst.cls hw) (rdSrc hl w hw) hn hnb hsm) ?_) | (show T _ (.run _ _ (_ :: _) _ _ :: _) _ _ _; first | refine rc rfl rfl rfl rfl rfl rfl rfl (fun w hw => checkTC_spec c A n ca l w (hst.cls hw) (rdSrc hl w hw) hn hnb hsm) ?_ | refine rcG rfl rfl rfl rfl rfl rfl rfl rfl rfl (fun hg w hw => checkTC_spec c A n ca l w (hst.cls hw) (rdSrc hl w hw) hn hnb hsm) ?_) | (show ∀ _ : Nat, T _ _ _ _ _; intro _))
  refine T_if rfl (fun h2 => ?_) (fun h2 => ?_)
  · simp only [Bool.not_eq_true', decide_eq_false_iff_not] at h2
    have e : matrixV c l = ([], tokErr c l) := by unfold matrixV; rw [if_neg (by omega), if_neg (by omega), if_pos h2, (tokErr_01 c l).resolve_left h2]
    repeat' (first | refine d1 ?_ | refine dd ?_ | (show ∀ _ : Nat, T _ _ _ _ _; intro _) | (show T _ (.code .ret :: _) _ _ _; refine T_retV _ rfl (hnil _) ⟨_, trivial, by rw [e]; rfl, by rw [e]⟩))
  simp only [Bool.not_eq_false', decide_eq_true_eq] at h2
  have hok := tokErr_ok h2
  have hmv : matrixV c l = (matRows c l, 0) := by unfold matrixV; rw [if_neg (by omega), if_neg (by omega), if_neg (by omega)]
  repeat' (first | refine d1 ?_ | refine dd ?_ | (show T _ (.ops _ (_ :: _) :: _) _ _ _; refine T_op (OpT.call rfl rfl rfl rfl rfl (fun w hw => matrix_spec c A n ca l w h (rdSrc hl w hw) hn (by omega) hok.2) ?_)) | (show ∀ _ : Nat, T _ _ _ _ _; intro _))
  rintro v R ⟨⟨g, L⟩, hL, hR, rfl, rfl⟩
  dsimp only at hL hR ⊢
  repeat' (first | refine d1 ?_ | refine dd ?_ | (show ∀ _ : Nat, T _ _ _ _ _; intro _))
  refine T_loopX (fun i : Nat => [(30, .int .i64 i)]) (fun i => [blk g ((L.take i).map (hdr n) ++ (L.drop i).map (slv n)) 42, blks 3 L, blk pc c.cells 23]) (fun i => i ≤ n) (fun i => n - i) 0 (Nat.zero_le _) ?_
  intro i hi
  repeat' (first | refine d1 ?_ | refine dd ?_ | (show ∀ _ : Nat, T _ _ _ _ _; intro _))
  refine T_if rfl (fun h3 => ?_) (fun h3 => ?_)
  · simp only [decide_eq_true_eq] at h3
    have hiL : i < L.length := by omega
    obtain ⟨⟨gi, ci⟩, hLi⟩ : ∃ x, L[i]? = some x := ⟨_, List.getElem?_eq_getElem hiL⟩
    have hd : L.drop i = (gi, ci) :: L.drop (i + 1) := by rw [List.drop_eq_getElem_cons hiL]; congr 1; rw [List.getElem?_eq_getElem hiL] at hLi; exact Option.some.inj hLi
    have hlen : ((L.take i).map (hdr n)).length = i := by rw [List.length_map, List.length_take]; omega
    rw [hd]
    repeat' (first | refine d1 ?_ | refine dd ?_ | (show T _ (.ops _ (_ :: _) :: _) _ _ _; first | refine T_val rfl (Val.load rfl (fun hg => rdOwn1 (u := .slice (some ⟨gi, 0, none⟩) (n + 1) (n + 1)) (b := g) (by rw [show 0 + (i : Int).toNat * 1 = i by omega, List.getElem?_append_right (by omega), hlen, Nat.sub_self]; rfl))) rfl rfl rfl ?_ | refine T_valC rfl (Val.load rfl (fun hg => rdOwn1 (u := .slice (some ⟨gi, 0, none⟩) (n + 1) (n + 1)) (b := g) (by rw [show 0 + (i : Int).toNat * 1 = i by omega, List.getElem?_append_right (by omega), hlen, Nat.sub_self]; rfl))) rfl rfl rfl rfl rfl ?_) | (show T _ (.run _ _ (_ :: _) _ _ :: _) _ _ _; first | refine rv rfl rfl rfl (Val.load rfl (fun hg => rdOwn1 (u := .slice (some ⟨gi, 0, none⟩) (n + 1) (n + 1)) (b := g) (by rw [show 0 + (i : Int).toNat * 1 = i by omega, List.getElem?_append_right (by omega), hlen, Nat.sub_self]; rfl))) rfl rfl rfl ?_ | refine rg rfl rfl rfl (Val.load rfl (fun hg => rdOwn1 (u := .slice (some ⟨gi, 0, none⟩) (n + 1) (n + 1)) (b := g) (by rw [show 0 + (i : Int).toNat * 1 = i by omega, List.getElem?_append_right (by omega), hlen, Nat.sub_self]; rfl))) rfl rfl rfl rfl rfl ?_) | (show ∀ _ : Nat, T _ _ _ _ _; intro _))
    refine T_backX (i + 1) (by omega) (by omega) (hG := ?_)
    rw [show ((L.take i).map (hdr n) ++ ((gi, ci) :: L.drop (i + 1)).map (slv n)).set (0 + (i : Int).toNat * 1) (Value.slice (some ⟨gi, 0, none⟩) (n : Int).toNat (n + 1)) = (L.take (i + 1)).map (hdr n) ++ (L.drop (i + 1)).map (slv n) from ?_]
    · exact Hle.refl _
    · rw [show 0 + (i : Int).toNat * 1 = i by omega, List.set_append_right _ _ (by omega), hlen, Nat.sub_self, List.take_add_one, hLi, List.map_append, List.append_assoc]
      rfl
  · simp only [decide_eq_false_iff_not] at h3
    have hin : i = n := by omega
    subst hin
    repeat' (first | refine d1 ?_ | refine dd ?_ | (show ∀ _ : Nat, T _ _ _ _ _; intro _))
    have hcl : ((L.take i).map (hdr i) ++ (L.drop i).map (slv i)).length = i + 1 := by simp; omega
    have htk : ((L.take i).map (hdr i) ++ (L.drop i).map (slv i)).take i = (L.take i).map (hdr i) := List.take_left' (by simp; omega)
    have hrow := blk_row_take (b := g) (cs := (L.take i).map (hdr i) ++ (L.drop i).map (slv i)) (e := 42) (n := i) (by omega) (by rw [hcl]; simp only [maxLen]; omega)
    rw [hcl, htk] at hrow
    have hle : Hle [blk g ((L.take i).map (hdr i) ++ (L.drop i).map (slv i)) 42, blks 3 L, blk pc c.cells 23] [dat [.slice (some ⟨g, 0, none⟩) i (i + 1)] [rowsD (matRows c l)]] := by
      refine (Hle.perm (List.Perm.swap _ _ _)).trans ?_
      refine (dat_blks (L := L) i (i + 1) (by omega) (by omega) fun x hx => ?_).trans ?_
      · obtain ⟨q, hq, e⟩ := List.getElem_of_mem hx
        rw [hR q x (by rw [List.getElem?_eq_getElem hq, e])]
        simp [valV]
      refine (dat_take i).trans ?_
      refine (Hle.perm (List.Perm.swap _ _ _)).trans ?_
      refine (Hle.weaken (i := 0) rfl hrow rfl).trans ?_
      rw [rows_mat hn hL hR, ← List.map_take]
      exact dat_row.trans (show Hle _ [dat [.slice (some ⟨g, 0, none⟩) i (i + 1)] [D.s 1 ((matRows c l).map intsD)]] from Hle.sub)
    refine T_retV _ rfl hle ⟨.slice (some ⟨g, 0, none⟩) i (i + 1), trivial, ?_, ?_⟩
    · rw [hmv]; rfl
    · rw [hmv]
end Go.Proofs.YtiglobijdegjdaaDoor
