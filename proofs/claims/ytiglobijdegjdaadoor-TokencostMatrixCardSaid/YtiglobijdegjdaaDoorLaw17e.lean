/- The law TokencostMatrix holds for whatever costs and tokens: the tied card of its row. No condition beyond the row's own. -/
import Derived.Test.YtiglobijdegjdaaDoorWalkN
import Derived.Test.YtiglobijdegjdaaDoorWalkQ
import Derived.Test.YtiglobijdegjdaaDoorWalkR
import Derived.Test.YtiglobijdegjdaaDoorEngV
import Derived.Test.YtiglobijdegjdaaDoorSpecR
import Derived.Test.YtiglobijdegjdaaDoorLiftB
import Derived.Test.YtiglobijdegjdaaDoorCards
import Derived.Test.YtiglobijdegjdaaDoorTie
namespace Go.Proofs.YtiglobijdegjdaaDoor
open Go.RowKit Go.Shelf Go.ChangeShapes Go.WideShapes Go.Proofs
set_option maxRecDepth 100000
set_option maxHeartbeats 1000000

def matRow (c : Costs) (l : List Tok) (i : Nat) : List Int := (List.range l.length).map fun k => matC c l i k
theorem matRows_get {c : Costs} {l : List Tok} {i : Nat} (h : i < l.length) : (matRows c l)[i]? = some (matRow c l i) := by unfold matRows matRow; simp [h]
theorem matRow_get {c : Costs} {l : List Tok} {i k : Nat} (h : k < l.length) : (matRow c l i)[k]? = some (matC c l i k) := by unfold matRow; simp [h]
theorem matRow_length (c : Costs) (l : List Tok) (i : Nat) : (matRow c l i).length = l.length := by simp [matRow]
theorem matC_pairs {c : Costs} {l : List Tok} {i k : Nat} (hi : i < l.length) (hk : k < l.length) : matC c l i k = pairC c (tkA l i) (tkA l k) := by
  by_cases h : i = k
  · subst h; unfold matC; rw [if_pos rfl, pairC_self _ _ _ rfl]
  · unfold matC
    rw [if_neg h]
    rcases Nat.lt_or_ge i k with h1 | h1
    · rw [Nat.max_eq_right (by omega), Nat.min_eq_left (by omega), if_neg (by omega)]
    · rw [Nat.max_eq_left (by omega), Nat.min_eq_right (by omega), if_neg (by omega), pairC_swap]
theorem tokErr_fine {c : Costs} {l : List Tok} (hc : costE c = 0) (h : ∀ t ∈ l, tokE t = 0) : tokErr c l = 0 := tokErr_all hc fun _ hj => h _ (tkA_mem hj)
theorem matrixLaw_spec (c : Costs) (A : Option Addr) (ca : Nat) (l : List Tok) (w : World) (hst : Std w) (hl : Src w 6 A l.length (l.flatMap Tok.cells)) (hnb : l.length ≤ 9223372036854775807) :
    Spec Tryd.prog 6 [c.val, .slice A l.length ca] w (fun v R => v = .bool true ∧ R = []) := by
  refine spec_of sg Tryd.func6 rfl rfl rfl ?_
  refine T_op (OpT.box (cs := c.cells) rfl rfl rfl rfl rfl rfl rfl (fun pc => ?_))
  repeat' (first | refine d1 ?_ | refine dd ?_ | (show T _ (.ops _ (_ :: _) :: _) _ _ _; first | refine T_call rfl rfl rfl rfl rfl (fun w hw => fine_spec c A _ ca l w (rdSrc hl w ‹_›) rfl hnb) ?_ | refine T_callC rfl rfl rfl rfl rfl rfl rfl (fun hg w hw => fine_spec c A _ ca l w (rdSrc hl w ‹_›) rfl hnb) ?_) | (show T _ (.run _ _ (_ :: _) _ _ :: _) _ _ _; first | refine rc rfl rfl rfl rfl rfl rfl rfl (fun w hw => fine_spec c A _ ca l w (rdSrc hl w ‹_›) rfl hnb) ?_ | refine rcG rfl rfl rfl rfl rfl rfl rfl rfl rfl (fun hg w hw => fine_spec c A _ ca l w (rdSrc hl w ‹_›) rfl hnb) ?_) | (show ∀ _ : Nat, T _ _ _ _ _; intro _))
  refine T_if rfl (fun h1 => ?_) (fun h1 => ?_)
  · repeat' (first | refine d1 ?_ | refine dd ?_ | (show T _ (.ops _ (_ :: _) :: _) _ _ _; first | refine T_call rfl rfl rfl rfl rfl (fun w hw => awake17_spec w (hst.cls ‹_›)) ?_ | refine T_callC rfl rfl rfl rfl rfl rfl rfl (fun hg w hw => awake17_spec w (hst.cls ‹_›)) ?_) | (show T _ (.run _ _ (_ :: _) _ _ :: _) _ _ _; first | refine rc rfl rfl rfl rfl rfl rfl rfl (fun w hw => awake17_spec w (hst.cls ‹_›)) ?_ | refine rcG rfl rfl rfl rfl rfl rfl rfl rfl rfl (fun hg w hw => awake17_spec w (hst.cls ‹_›)) ?_) | (show ∀ _ : Nat, T _ _ _ _ _; intro _) | (show T _ (.code .ret :: _) _ _ _; refine T_retV [] rfl (Hle.none _) ⟨rfl, rfl⟩))
  obtain ⟨hc, h8, hg, hk⟩ := fineB_ok (by simpa using h1)
  have hsm : ∀ t ∈ l, t.small := fun t ht => (longT_small (hg t ht)).1
  have hmv : matrixV c l = (matRows c l, 0) := by
    unfold matrixV
    rw [if_neg (by rw [hc]; omega), if_neg (by omega), tokErr_fine hc hk, if_neg (by omega)]
  repeat' (first | refine d1 ?_ | refine dd ?_ | (show ∀ _ : Nat, T _ _ _ _ _; intro _))
  refine T_op (OpT.call rfl rfl rfl rfl rfl (fun w hw => matrixTop_spec c A _ ca l w (hst.cls ‹_›) (rdSrc hl w ‹_›) rfl hnb hsm) ?_)
  rintro v R ⟨x, -, rfl, rfl⟩
  rw [hmv]
  refine T_le (H' := [dat [x] [rowsD (matRows c l)], blk pc c.cells 23]) (Hle.refl _) ?_
  refine T_open fun p hx => ?_
  have hml : (matRows c l).length = l.length := by simp [matRows]
  obtain ⟨M, cap, cs, rfl, -, -, hcs, hM, hrows⟩ := hx.tab
  rw [hml] at hM hcs
  rw [hml]
  repeat' (first | refine d1 ?_ | refine dd ?_ | (show ∀ _ : Nat, T _ _ _ _ _; intro _))
  refine T_if rfl (fun h2 => ?_) (fun h2 => ?_)
  · simp at h2
  repeat' (first | refine d1 ?_ | refine dd ?_ | (show ∀ _ : Nat, T _ _ _ _ _; intro _))
  refine T_loopX (fun i : Nat => [(35, .int .i64 i)]) (fun _ => [fz p, blk pc c.cells 23]) (fun i => i ≤ l.length) (fun i => l.length - i) 0 (by omega) ?_
  intro i hi
  repeat' (first | refine d1 ?_ | refine dd ?_ | (show ∀ _ : Nat, T _ _ _ _ _; intro _))
  refine T_if rfl (fun h3 => ?_) (fun h3 => ?_)
  · simp only [decide_eq_true_eq] at h3
    obtain ⟨ba, oa, rfl⟩ := hl.base (by omega)
    obtain ⟨bm, om, rfl, hM2⟩ := hM (by omega)
    obtain ⟨Ai, capi, hci, -, -, hri⟩ := hrows.tabRow (matRows_get (i := i) (by omega))
    rw [matRow_length] at hci hri
    obtain ⟨bi, oi, rfl, hri2⟩ := hri (by omega)
    have hr1 : RdC w ba (oa + (i : Int).toNat * 6) (tkA l i).cells := hl.getT (by omega) (tkA_get (by omega))
    repeat' (first | refine d1 ?_ | refine dd ?_ | (show T _ (.ops _ (_ :: _) :: _) _ _ _; first | refine T_val rfl (Val.load rfl (fun hg => rdFz (p := p) (u := .slice (some ⟨bi, oi, none⟩) l.length capi) (b := bm) (by rw [off1]; exact hM2 i _ hci))) rfl rfl rfl ?_ | refine T_valC rfl (Val.load rfl (fun hg => rdFz (p := p) (u := .slice (some ⟨bi, oi, none⟩) l.length capi) (b := bm) (by rw [off1]; exact hM2 i _ hci))) rfl rfl rfl rfl rfl ?_ | refine T_val rfl (Val.load rfl (fun hg => rdFz (p := p) (b := bi) (o := oi + (i : Int).toNat * 1) (u := .int .i64 (matC c l i i)) (by rw [off1]; exact hri2 i _ (matRow_get (by omega))))) rfl rfl rfl ?_ | refine T_valC rfl (Val.load rfl (fun hg => rdFz (p := p) (b := bi) (o := oi + (i : Int).toNat * 1) (u := .int .i64 (matC c l i i)) (by rw [off1]; exact hri2 i _ (matRow_get (by omega))))) rfl rfl rfl rfl rfl ?_) | (show T _ (.run _ _ (_ :: _) _ _ :: _) _ _ _; first | refine rv rfl rfl rfl (Val.load rfl (fun hg => rdFz (p := p) (u := .slice (some ⟨bi, oi, none⟩) l.length capi) (b := bm) (by rw [off1]; exact hM2 i _ hci))) rfl rfl rfl ?_ | refine rg rfl rfl rfl (Val.load rfl (fun hg => rdFz (p := p) (u := .slice (some ⟨bi, oi, none⟩) l.length capi) (b := bm) (by rw [off1]; exact hM2 i _ hci))) rfl rfl rfl rfl rfl ?_ | refine rv rfl rfl rfl (Val.load rfl (fun hg => rdFz (p := p) (b := bi) (o := oi + (i : Int).toNat * 1) (u := .int .i64 (matC c l i i)) (by rw [off1]; exact hri2 i _ (matRow_get (by omega))))) rfl rfl rfl ?_ | refine rg rfl rfl rfl (Val.load rfl (fun hg => rdFz (p := p) (b := bi) (o := oi + (i : Int).toNat * 1) (u := .int .i64 (matC c l i i)) (by rw [off1]; exact hri2 i _ (matRow_get (by omega))))) rfl rfl rfl rfl rfl ?_) | (show ∀ _ : Nat, T _ _ _ _ _; intro _))
    have hii : matC c l i i = 0 := by unfold matC; rw [if_pos rfl]
    rw [hii]
    refine T_if rfl (fun h4 => ?_) (fun h4 => ?_)
    · simp at h4
    repeat' (first | refine d1 ?_ | refine dd ?_ | (show ∀ _ : Nat, T _ _ _ _ _; intro _))
    refine T_loopX (fun k : Nat => [(54, .int .i64 k)]) (fun _ => [fz p, blk pc c.cells 23]) (fun k => k ≤ l.length) (fun k => l.length - k) 0 (by omega) ?_
    intro k hk2
    repeat' (first | refine d1 ?_ | refine dd ?_ | (show ∀ _ : Nat, T _ _ _ _ _; intro _))
    refine T_if rfl (fun h5 => ?_) (fun h5 => ?_)
    · simp only [decide_eq_true_eq] at h5
      obtain ⟨Ak, capk, hck, -, -, hrk⟩ := hrows.tabRow (matRows_get (i := k) (by omega))
      rw [matRow_length] at hck hrk
      obtain ⟨bk', ok, rfl, hrk2⟩ := hrk (by omega)
      have hr2 : RdC w ba (oa + (k : Int).toNat * 6) (tkA l k).cells := hl.getT (by omega) (tkA_get (by omega))
      have hp : pairV c (tkA l i) (tkA l k) = (matC c l i k, 0) := by
        unfold pairV
        rw [if_pos ⟨hc, hk _ (tkA_mem (by omega)), hk _ (tkA_mem (by omega))⟩, matC_pairs (by omega) (by omega)]
      repeat' (first | refine d1 ?_ | refine dd ?_ | (show T _ (.ops _ (_ :: _) :: _) _ _ _; first | refine T_val rfl (Val.load rfl (fun hg => rdFz (p := p) (b := bi) (o := oi + (k : Int).toNat * 1) (u := .int .i64 (matC c l i k)) (by rw [off1]; exact hri2 k _ (matRow_get (by omega))))) rfl rfl rfl ?_ | refine T_valC rfl (Val.load rfl (fun hg => rdFz (p := p) (b := bi) (o := oi + (k : Int).toNat * 1) (u := .int .i64 (matC c l i k)) (by rw [off1]; exact hri2 k _ (matRow_get (by omega))))) rfl rfl rfl rfl rfl ?_ | refine T_val rfl (Val.load rfl (fun hg => rdFz (p := p) (u := .slice (some ⟨bk', ok, none⟩) l.length capk) (b := bm) (by rw [off1]; exact hM2 k _ hck))) rfl rfl rfl ?_ | refine T_valC rfl (Val.load rfl (fun hg => rdFz (p := p) (u := .slice (some ⟨bk', ok, none⟩) l.length capk) (b := bm) (by rw [off1]; exact hM2 k _ hck))) rfl rfl rfl rfl rfl ?_ | refine T_val rfl (Val.load rfl (fun hg => rdFz (p := p) (b := bk') (o := ok + (i : Int).toNat * 1) (u := .int .i64 (matC c l k i)) (by rw [off1]; exact hrk2 i _ (matRow_get (by omega))))) rfl rfl rfl ?_ | refine T_valC rfl (Val.load rfl (fun hg => rdFz (p := p) (b := bk') (o := ok + (i : Int).toNat * 1) (u := .int .i64 (matC c l k i)) (by rw [off1]; exact hrk2 i _ (matRow_get (by omega))))) rfl rfl rfl rfl rfl ?_ | refine T_call rfl rfl rfl rfl rfl (fun w hw => pairTop_spec c (tkA l i) (tkA l k) (hsm _ (tkA_mem (by omega))) (hsm _ (tkA_mem (by omega))) w (hst.cls ‹_›)) ?_ | refine T_callC rfl rfl rfl rfl rfl rfl rfl (fun hg w hw => pairTop_spec c (tkA l i) (tkA l k) (hsm _ (tkA_mem (by omega))) (hsm _ (tkA_mem (by omega))) w (hst.cls ‹_›)) ?_) | (show T _ (.run _ _ (_ :: _) _ _ :: _) _ _ _; first | refine rv rfl rfl rfl (Val.load rfl (fun hg => rdFz (p := p) (b := bi) (o := oi + (k : Int).toNat * 1) (u := .int .i64 (matC c l i k)) (by rw [off1]; exact hri2 k _ (matRow_get (by omega))))) rfl rfl rfl ?_ | refine rg rfl rfl rfl (Val.load rfl (fun hg => rdFz (p := p) (b := bi) (o := oi + (k : Int).toNat * 1) (u := .int .i64 (matC c l i k)) (by rw [off1]; exact hri2 k _ (matRow_get (by omega))))) rfl rfl rfl rfl rfl ?_ | refine rv rfl rfl rfl (Val.load rfl (fun hg => rdFz (p := p) (u := .slice (some ⟨bk', ok, none⟩) l.length capk) (b := bm) (by rw [off1]; exact hM2 k _ hck))) rfl rfl rfl ?_ | refine rg rfl rfl rfl (Val.load rfl (fun hg => rdFz (p := p) (u := .slice (some ⟨bk', ok, none⟩) l.length capk) (b := bm) (by rw [off1]; exact hM2 k _ hck))) rfl rfl rfl rfl rfl ?_ | refine rv rfl rfl rfl (Val.load rfl (fun hg => rdFz (p := p) (b := bk') (o := ok + (i : Int).toNat * 1) (u := .int .i64 (matC c l k i)) (by rw [off1]; exact hrk2 i _ (matRow_get (by omega))))) rfl rfl rfl ?_ | refine rg rfl rfl rfl (Val.load rfl (fun hg => rdFz (p := p) (b := bk') (o := ok + (i : Int).toNat * 1) (u := .int .i64 (matC c l k i)) (by rw [off1]; exact hrk2 i _ (matRow_get (by omega))))) rfl rfl rfl rfl rfl ?_ | refine rc rfl rfl rfl rfl rfl rfl rfl (fun w hw => pairTop_spec c (tkA l i) (tkA l k) (hsm _ (tkA_mem (by omega))) (hsm _ (tkA_mem (by omega))) w (hst.cls ‹_›)) ?_ | refine rcG rfl rfl rfl rfl rfl rfl rfl rfl rfl (fun hg w hw => pairTop_spec c (tkA l i) (tkA l k) (hsm _ (tkA_mem (by omega))) (hsm _ (tkA_mem (by omega))) w (hst.cls ‹_›)) ?_) | (show ∀ _ : Nat, T _ _ _ _ _; intro _))
      rw [hp, matC_swap c l k i]
      refine T_if rfl (fun h6 => ?_) (fun h6 => ?_)
      · simp at h6
      repeat' (first | refine d1 ?_ | refine dd ?_ | (show ∀ _ : Nat, T _ _ _ _ _; intro _))
      exact T_backX (k + 1) (by omega) (by omega)
    · repeat' (first | refine d1 ?_ | refine dd ?_ | (show ∀ _ : Nat, T _ _ _ _ _; intro _))
      exact T_backX (i + 1) (by omega) (by omega)
  · repeat' (first | refine d1 ?_ | refine dd ?_ | (show T _ (.ops _ (_ :: _) :: _) _ _ _; first | refine T_call rfl rfl rfl rfl rfl (fun w hw => awake17_spec w (hst.cls ‹_›)) ?_ | refine T_callC rfl rfl rfl rfl rfl rfl rfl (fun hg w hw => awake17_spec w (hst.cls ‹_›)) ?_) | (show T _ (.run _ _ (_ :: _) _ _ :: _) _ _ _; first | refine rc rfl rfl rfl rfl rfl rfl rfl (fun w hw => awake17_spec w (hst.cls ‹_›)) ?_ | refine rcG rfl rfl rfl rfl rfl rfl rfl rfl rfl (fun hg w hw => awake17_spec w (hst.cls ‹_›)) ?_) | (show ∀ _ : Nat, T _ _ _ _ _; intro _) | (show T _ (.code .ret :: _) _ _ _; refine T_retV [] rfl (Hle.none _) ⟨rfl, rfl⟩))
theorem matrix_met (os : Os) (args : Array Value) : laidMetH Tryd.prog Rows.tokencostMatrixRow.laid ((World.doorLaid Tryd.prog 400 os).forCall (fun _ _ => 0) ⟨#[], args, []⟩).memory :=
  laidMetH_of_parts3 (fuel := 8) (laidMet_of_run' 8 (by kernel_rfl) (by kernel_rfl)) (by kernel_rfl) (by kernel_rfl)
theorem matrix_lifted (os : Os) (started : os.Started) (H : Type) (enc : TypeId × Value → H) :
    ReturnsInHanded {} Tryd.checked os 6 .any (fun w args => (Rows.tokencostMatrixSpec.pre enc Tryd.prog Tryd.f6 [] false w args ∧ laidMetH Tryd.prog Rows.tokencostMatrixRow.laid w) ∧ sizedMet enc Tryd.prog Tryd.f6 (OpenSpec.ofChange Rows.tokencostMatrixSpec) false w args)
      (Rows.tokencostMatrixSpec.post enc Tryd.prog Tryd.f6 false true false false) := by
  refine returnsInHanded_of_change_and (C := Tryd.checked) (X := fun w _ => laidMetH Tryd.prog Rows.tokencostMatrixRow.laid w) (fun _ _ _ hh h => h.of_heap hh) knob started (by kernel_rfl) Tryd.func6
    (ChangeSpec.witness_shaped (enc := enc) (C := Tryd.checked) (os := os) (X := fun w _ => laidMetH Tryd.prog Rows.tokencostMatrixRow.laid w) false (World.doorLaid Tryd.prog 400 os) #[(⟨0, 0, 0, 0⟩ : Costs).val, .slice none 0 0] 8 rfl (World.shaped_of_RefB (by kernel_rfl) (by kernel_rfl)) (by kernel_rfl) (by kernel_rfl) (by kernel_rfl) (matrix_met os _)) ?_
  intro W base args ds gs before hval0 hW _ _ hL _
  have hval : ∀ (j : Nat) t v, Tryd.f6.params[j]? = some t → args[j]? = some v → Value.okWide Tryd.prog W .any base t v := hval0
  have hstd := std_of (show laidMetH Tryd.prog laids W from hL)
  have hW' := hW
  obtain ⟨p, q, hA0, hV, rfl, hfz, hnd⟩ := hW
  have hA : DataW.TrodAll enc Tryd.prog W 0 (fun _ => true) true Tryd.f6.params.toList args.toList ds p := hA0
  obtain ⟨v0, vs0, d0, ds0, p0, q0, e0, rfl, rfl, h0, hA⟩ := trodAll_cons hA
  obtain ⟨v1, vs1, d1, ds1, p1, q1, rfl, rfl, rfl, h1, hA⟩ := trodAll_cons hA
  obtain ⟨rfl, rfl, rfl⟩ := trodAll_nil hA
  have ea : args = #[v0, v1] := Array.ext' e0
  subst ea
  obtain ⟨c, rfl⟩ := arg_costs (hval 0 _ v0 rfl rfl) h0
  obtain ⟨A_l, cap_l, l, rfl, hb_l, hs_l⟩ := arg_toks (hval 1 _ v1 rfl rfl) h1
  refine (matrixLaw_spec c A_l cap_l l W hstd hs_l hb_l).calls.mono ?_
  rintro e W' ⟨v, A, rfl, ⟨rfl, _⟩, hb, _⟩
  exact ⟨_, rfl, law_post hW' rfl rfl laidOk (by intro t ht; simp only [show Tryd.f6.params.toList = [23, 29] from rfl, List.mem_cons, List.mem_nil_iff, or_false] at ht; rcases ht with rfl | rfl <;> exact ⟨by kernel_rfl, of_decide_eq_true (by kernel_rfl)⟩) rfl Tryd.underlying4 hb⟩
theorem matrix_holds : Rows.TokencostMatrixSaid :=
  OpenClaim.holds_of_wide 6 Tryd.f6 rfl rfl rfl rfl rfl rfl rfl ⟨rfl, rfl, rfl, rfl, rfl⟩ rfl rfl rfl rfl rfl (by kernel_rfl) Tryd.func6 (by kernel_rfl)
    (of_decide_eq_true (by kernel_rfl)) (by unfold Func.isWrapper; first | (rw [if_pos (by decide +kernel)]; kernel_rfl) | (rw [if_neg (by decide +kernel)]; exact ⟨rfl, rfl⟩))
    (fun os started H enc _ => matrix_lifted os started H enc)
theorem matrix_card : Rows.TokencostMatrixCardSaid :=
  Claim7.holds_tied_plain_at .later [] [.data, .data, .data, .sentinel, .sentinel] true (true, "28692782097a374b4e0f7a632efec21f45e145e988e45c574558877b0063dbc4") true
    matrix_holds (fun _ h => by cases h) (by kernel_rfl) (fun _ h => by cases h) tokencostMatrix_row_tie rfl ⟨rfl, rfl⟩ (by kernel_rfl) rfl
    (fun f fn hf hfn => by
      obtain rfl : f = 6 := Option.some.inj ((show Tryd.prog.funcNamed "apograph/apographlaw17.TokencostMatrix" = some 6 by kernel_rfl).symm.trans hf) |>.symm
      obtain rfl : fn = Tryd.f6 := (Option.some.inj (Tryd.func6.symm.trans hfn)).symm
      exact ⟨by kernel_rfl, fun j t ht => by
        have ht' : [23, 29][j]? = some t := by rw [Tryd.params6] at ht; simpa using ht
        have hm := List.mem_of_getElem? ht'
        simp only [List.mem_cons, List.mem_nil_iff, or_false] at hm
        rcases hm with rfl | rfl <;> exact (show Tryd.prog.wantsStandIn _ = false by kernel_rfl)⟩)
    (by kernel_rfl)
#print axioms matrix_card
end Go.Proofs.YtiglobijdegjdaaDoor
