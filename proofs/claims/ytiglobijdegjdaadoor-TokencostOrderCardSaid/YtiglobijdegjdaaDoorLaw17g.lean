/- The law TokencostOrder holds for whatever costs, tokens and numbers: the tied card of its row. No condition beyond the row's own. -/
import Derived.Test.YtiglobijdegjdaaDoorWalkO
import Derived.Test.YtiglobijdegjdaaDoorWalkP
import Derived.Test.YtiglobijdegjdaaDoorLiftB
import Derived.Test.YtiglobijdegjdaaDoorCards
import Derived.Test.YtiglobijdegjdaaDoorTie
namespace Go.Proofs.YtiglobijdegjdaaDoor
open Go.RowKit Go.Shelf Go.ChangeShapes Go.WideShapes Go.Proofs
set_option maxRecDepth 100000
set_option maxHeartbeats 1000000

def bitB (q : Int) (j : Nat) : Bool := decide (andV .u8 (shrV .u8 q (j : Nat)) 1 = 1)
def thereJ (q : Int) (n j : Nat) : List Bool := (List.range n).map fun x => if x < j then bitB q x else false
def thereL (q : Int) (n : Nat) : List Bool := thereJ q n n
theorem thereJ_zero (q : Int) (n : Nat) : (thereJ q n 0).map Value.bool = List.replicate n (.bool false) := by
  unfold thereJ
  rw [List.map_map, show (Value.bool ∘ fun x => if x < 0 then bitB q x else false) = fun _ => Value.bool false from rfl, List.map_const']
  simp
theorem thereJ_step (q : Int) (n j : Nat) (h : j < n) : ((thereJ q n j).map Value.bool).set j (.bool (bitB q j)) = (thereJ q n (j + 1)).map Value.bool := by
  unfold thereJ
  apply List.ext_getElem?
  intro i
  simp only [List.getElem?_set, List.getElem?_map, List.length_map, List.length_range]
  by_cases hi : i < n
  · rw [List.getElem?_range hi]
    by_cases e : j = i
    · subst e; simp [h]
    · rw [if_neg e]
      simp only [Option.map_some]
      by_cases h2 : i < j
      · rw [if_pos h2, if_pos (by omega)]
      · rw [if_neg h2, if_neg (by omega)]
  · rw [if_neg (by omega)]
    simp [hi]
theorem columnV_ok {c : Costs} {l : List Tok} {b : List Bool} (hc : costE c = 0) (hl : l.length = b.length) (h32 : l.length ≤ 32) (h : ∀ j, j < l.length → tokE (tkA l j) = 0) : columnV c l b = (psum (cellC c l b) (pairsL l.length), 0) := by
  unfold columnV
  rw [if_neg (by rw [hc]; omega), if_neg (by omega), if_neg (by omega), badCol_false (fun j hj _ => h j hj)]
  rfl
theorem order_spec (c : Costs) (A : Option Addr) (ca : Nat) (l : List Tok) (q i k : Int) (w : World) (hst : Std w) (hl : Src w 6 A l.length (l.flatMap Tok.cells)) (hnb : l.length ≤ 9223372036854775807) (hq : 0 ≤ q ∧ q ≤ 255) (hi : 0 ≤ i ∧ i ≤ 255) (hk : 0 ≤ k ∧ k ≤ 255) :
    Spec Tryd.prog 7 [c.val, .slice A l.length ca, .int .u8 q, .int .u8 i, .int .u8 k] w (fun v R => v = .bool true ∧ R = []) := by
  refine spec_of sg Tryd.func7 rfl rfl rfl ?_
  refine T_op (OpT.box (cs := c.cells) rfl rfl rfl rfl rfl rfl rfl (fun pc => ?_))
  repeat' (first | refine d1 ?_ | refine dd ?_ | (show T _ (.ops _ (_ :: _) :: _) _ _ _; first | refine T_call rfl rfl rfl rfl rfl (fun w hw => fine_spec c A _ ca l w (rdSrc hl w ‹_›) rfl hnb) ?_ | refine T_callC rfl rfl rfl rfl rfl rfl rfl (fun hg w hw => fine_spec c A _ ca l w (rdSrc hl w ‹_›) rfl hnb) ?_) | (show T _ (.run _ _ (_ :: _) _ _ :: _) _ _ _; first | refine rc rfl rfl rfl rfl rfl rfl rfl (fun w hw => fine_spec c A _ ca l w (rdSrc hl w ‹_›) rfl hnb) ?_ | refine rcG rfl rfl rfl rfl rfl rfl rfl rfl rfl (fun hg w hw => fine_spec c A _ ca l w (rdSrc hl w ‹_›) rfl hnb) ?_) | (show ∀ _ : Nat, T _ _ _ _ _; intro _))
  refine T_if rfl (fun h1 => ?_) (fun h1 => ?_)
  · repeat' (first | refine d1 ?_ | refine dd ?_ | (show T _ (.ops _ (_ :: _) :: _) _ _ _; first | refine T_call rfl rfl rfl rfl rfl (fun w hw => awake17_spec w (hst.cls ‹_›)) ?_ | refine T_callC rfl rfl rfl rfl rfl rfl rfl (fun hg w hw => awake17_spec w (hst.cls ‹_›)) ?_) | (show T _ (.run _ _ (_ :: _) _ _ :: _) _ _ _; first | refine rc rfl rfl rfl rfl rfl rfl rfl (fun w hw => awake17_spec w (hst.cls ‹_›)) ?_ | refine rcG rfl rfl rfl rfl rfl rfl rfl rfl rfl (fun hg w hw => awake17_spec w (hst.cls ‹_›)) ?_) | (show ∀ _ : Nat, T _ _ _ _ _; intro _) | (show T _ (.code .ret :: _) _ _ _; refine T_retV [] rfl (Hle.none _) ⟨rfl, rfl⟩))
  simp only [Bool.or_eq_false_iff, Bool.not_eq_false', decide_eq_false_iff_not] at h1
  obtain ⟨⟨h1, h0⟩, h7⟩ := h1
  obtain ⟨hc, h8, hg, hkk⟩ := fineB_ok h1
  have hsm : ∀ t ∈ l, t.small := fun t ht => (longT_small (hg t ht)).1
  obtain ⟨n, hn⟩ : ∃ n, n = l.length := ⟨_, rfl⟩
  have hn1 : 0 < n := by omega
  have hn7 : n ≤ 7 := by omega
  rw [← hn] at hl hnb
  have hgap : ∀ t ∈ l, gapV c t = (gapC c t, 0) := fun t ht => by unfold gapV; rw [if_pos ⟨hc, hkk t ht⟩]
  repeat' (first | refine d1 ?_ | refine dd ?_ | (show T _ (.ops _ (_ :: _) :: _) _ _ _; refine T_op (OpT.make rfl rfl rfl rfl rfl rfl rfl rfl rfl (by dsimp only; omega) (fun b1 => ?_))) | (show ∀ _ : Nat, T _ _ _ _ _; intro _))
  rw [← hn]
  refine T_loopX (fun j : Nat => [(46, .int .i64 j), (12, .int .i64 (gapsC c l (thereL q n) j))]) (fun j => [blk b1 ((thereJ q n j).map Value.bool) 4, blk pc c.cells 23]) (fun j => j ≤ n) (fun j => n - j) 0 (by omega) ?_ (hG := by rw [thereJ_zero]; exact Hle.refl _)
  intro j hj
  repeat' (first | refine d1 ?_ | refine dd ?_ | (show ∀ _ : Nat, T _ _ _ _ _; intro _))
  refine T_if rfl (fun h3 => ?_) (fun h3 => ?_)
  · simp only [decide_eq_true_eq] at h3
    obtain ⟨ba, oa, rfl⟩ := hl.base (by omega)
    have hr1 : RdC w ba (oa + (j : Int).toNat * 6) (tkA l j).cells := hl.getT (by omega) (tkA_get (by omega))
    have hjl : (thereJ q n j).length = n := by simp [thereJ]
    have e1 : gapsC c l (thereL q n) (j + 1) = gapsC c l (thereL q n) j + if bitB q j then gapC c (tkA l j) else 0 := by
      have : thA (thereL q n) j = bitB q j := by unfold thA thereL thereJ; simp [show j < n by omega]
      rw [← this]; rfl
    have g1 := gapsC_bd hc l (thereL q n) j
    have g2 := gapC_bd hc (tkA l j)
    have c1 := costE_ok hc
    repeat' (first | refine d1 ?_ | refine dd ?_ | (show T _ (.ops _ (_ :: _) :: _) _ _ _; first | refine T_val rfl (Val.bits rfl (fun _ => by first | exact True.intro | omega)) rfl rfl rfl ?_ | refine T_valC rfl (Val.bits rfl (fun _ => by first | exact True.intro | omega)) rfl rfl rfl rfl rfl ?_ | refine T_op (OpT.store rfl rfl rfl rfl (by rw [List.length_map, hjl]; omega) ?_)) | (show T _ (.run _ _ (_ :: _) _ _ :: _) _ _ _; first | refine rv rfl rfl rfl (Val.bits rfl (fun _ => by first | exact True.intro | omega)) rfl rfl rfl ?_ | refine rg rfl rfl rfl (Val.bits rfl (fun _ => by first | exact True.intro | omega)) rfl rfl rfl rfl rfl ?_) | (show ∀ _ : Nat, T _ _ _ _ _; intro _))
    refine T_le (H' := [blk b1 ((thereJ q n (j + 1)).map Value.bool) 4, blk pc c.cells 23]) (by rw [← thereJ_step q n j (by omega), show 0 + (j : Int).toNat * 1 = j by omega]; exact Hle.refl _) ?_
    repeat' (first | refine d1 ?_ | refine dd ?_ | (show T _ (.ops _ (_ :: _) :: _) _ _ _; first | refine T_val rfl (Val.load rfl (fun hg => rdOwn1 (b := b1) (u := .bool (bitB q j)) (by rw [show 0 + (j : Int).toNat * 1 = j by omega, ← thereJ_step q n j (by omega), List.getElem?_set_self (by rw [List.length_map, hjl]; omega)]))) rfl rfl rfl ?_ | refine T_valC rfl (Val.load rfl (fun hg => rdOwn1 (b := b1) (u := .bool (bitB q j)) (by rw [show 0 + (j : Int).toNat * 1 = j by omega, ← thereJ_step q n j (by omega), List.getElem?_set_self (by rw [List.length_map, hjl]; omega)]))) rfl rfl rfl rfl rfl ?_) | (show T _ (.run _ _ (_ :: _) _ _ :: _) _ _ _; first | refine rv rfl rfl rfl (Val.load rfl (fun hg => rdOwn1 (b := b1) (u := .bool (bitB q j)) (by rw [show 0 + (j : Int).toNat * 1 = j by omega, ← thereJ_step q n j (by omega), List.getElem?_set_self (by rw [List.length_map, hjl]; omega)]))) rfl rfl rfl ?_ | refine rg rfl rfl rfl (Val.load rfl (fun hg => rdOwn1 (b := b1) (u := .bool (bitB q j)) (by rw [show 0 + (j : Int).toNat * 1 = j by omega, ← thereJ_step q n j (by omega), List.getElem?_set_self (by rw [List.length_map, hjl]; omega)]))) rfl rfl rfl rfl rfl ?_) | (show ∀ _ : Nat, T _ _ _ _ _; intro _))
    refine T_if rfl (fun h4 => ?_) (fun h4 => ?_)
    · rw [h4, if_pos rfl] at e1
      repeat' (first | refine d1 ?_ | refine dd ?_ | (show T _ (.ops _ (_ :: _) :: _) _ _ _; first | refine T_call rfl rfl rfl rfl rfl (fun w hw => gapTop_spec c (tkA l j) (hsm _ (tkA_mem (by omega))) w (hst.cls ‹_›)) ?_ | refine T_callC rfl rfl rfl rfl rfl rfl rfl (fun hg w hw => gapTop_spec c (tkA l j) (hsm _ (tkA_mem (by omega))) w (hst.cls ‹_›)) ?_) | (show T _ (.run _ _ (_ :: _) _ _ :: _) _ _ _; first | refine rc rfl rfl rfl rfl rfl rfl rfl (fun w hw => gapTop_spec c (tkA l j) (hsm _ (tkA_mem (by omega))) w (hst.cls ‹_›)) ?_ | refine rcG rfl rfl rfl rfl rfl rfl rfl rfl rfl (fun hg w hw => gapTop_spec c (tkA l j) (hsm _ (tkA_mem (by omega))) w (hst.cls ‹_›)) ?_) | (show ∀ _ : Nat, T _ _ _ _ _; intro _))
      rw [hgap _ (tkA_mem (by omega))]
      refine T_if rfl (fun h5 => ?_) (fun h5 => ?_)
      · simp at h5
      repeat' (first | refine d1 ?_ | refine dd ?_ | (show ∀ _ : Nat, T _ _ _ _ _; intro _))
      exact T_backX (j + 1) (by omega) (by omega) (hE := ⟨rfl, by rw [e1]; rfl, trivial⟩)
    · rw [h4, if_neg (by simp), Int.add_zero] at e1
      repeat' (first | refine d1 ?_ | refine dd ?_ | (show ∀ _ : Nat, T _ _ _ _ _; intro _))
      exact T_backX (j + 1) (by omega) (by omega) (hE := ⟨rfl, by rw [e1]; rfl, trivial⟩)
  simp only [decide_eq_false_iff_not] at h3
  obtain rfl : j = n := by omega
  have hth : (thereL q j).length = j := by simp [thereL, thereJ]
  have hcv1 : columnV c l (thereL q j) = (psum (cellC c l (thereL q j)) (pairsL j), 0) := by rw [columnV_ok hc (by omega) (by omega) (fun i hi => hkk _ (tkA_mem hi)), ← hn]
  repeat' (first | refine d1 ?_ | refine dd ?_ | (show T _ (.ops _ (_ :: _) :: _) _ _ _; first | refine T_call rfl rfl rfl rfl rfl (fun w hw => columnPrg_spec c A (some ⟨b1, 0, none⟩) j j ca j l (thereL q j) w (hst.cls ‹_›) (rdSrc hl w ‹_›) hn.symm hnb (Src.own ‹_› (by rw [List.length_map]; exact (hth.trans (Nat.mul_one j).symm))) hth (by omega) hsm) ?_ | refine T_callC rfl rfl rfl rfl rfl rfl rfl (fun hg w hw => columnPrg_spec c A (some ⟨b1, 0, none⟩) j j ca j l (thereL q j) w (hst.cls ‹_›) (rdSrc hl w ‹_›) hn.symm hnb (Src.own ‹_› (by rw [List.length_map]; exact (hth.trans (Nat.mul_one j).symm))) hth (by omega) hsm) ?_) | (show T _ (.run _ _ (_ :: _) _ _ :: _) _ _ _; first | refine rc rfl rfl rfl rfl rfl rfl rfl (fun w hw => columnPrg_spec c A (some ⟨b1, 0, none⟩) j j ca j l (thereL q j) w (hst.cls ‹_›) (rdSrc hl w ‹_›) hn.symm hnb (Src.own ‹_› (by rw [List.length_map]; exact (hth.trans (Nat.mul_one j).symm))) hth (by omega) hsm) ?_ | refine rcG rfl rfl rfl rfl rfl rfl rfl rfl rfl (fun hg w hw => columnPrg_spec c A (some ⟨b1, 0, none⟩) j j ca j l (thereL q j) w (hst.cls ‹_›) (rdSrc hl w ‹_›) hn.symm hnb (Src.own ‹_› (by rw [List.length_map]; exact (hth.trans (Nat.mul_one j).symm))) hth (by omega) hsm) ?_) | (show ∀ _ : Nat, T _ _ _ _ _; intro _))
  rw [hcv1]
  repeat' (first | refine d1 ?_ | refine dd ?_ | (show T _ (.ops _ (_ :: _) :: _) _ _ _; first | refine T_callE rfl rfl rfl rfl rfl (fun w hw => cloneT_spec A j ca l w (rdSrc hl w hw) (by omega)) (fun x1 _ => ?_) | refine T_callE rfl rfl rfl rfl rfl (fun w hw => cloneB_spec (some ⟨b1, 0, none⟩) j j (thereL q j) w (Src.own hw (by rw [List.length_map]; exact (hth.trans (Nat.mul_one j).symm))) (by omega)) (fun x2 _ => ?_)) | (show ∀ _ : Nat, T _ _ _ _ _; intro _))
  obtain ⟨A1, cap1⟩ := x1
  obtain ⟨A2, cap2⟩ := x2
  dsimp only
  refine T_rowpos (A := A1) hn1 (fun g1 e => ?_)
  subst e
  refine T_rowpos (A := A2) hn1 (fun g2 e => ?_)
  subst e
  obtain ⟨x, hx, hxn⟩ : ∃ x : Nat, i % (j : Int) = x ∧ x < j := ⟨(i % (j : Int)).toNat, by have := Int.emod_nonneg i (show (j : Int) ≠ 0 by omega); omega, by have := Int.emod_lt_of_pos i (show 0 < (j : Int) by omega); omega⟩
  obtain ⟨y, hy, hyn⟩ : ∃ y : Nat, k % (j : Int) = y ∧ y < j := ⟨(k % (j : Int)).toNat, by have := Int.emod_nonneg k (show (j : Int) ≠ 0 by omega); omega, by have := Int.emod_lt_of_pos k (show 0 < (j : Int) by omega); omega⟩
  rw [hx, hy]
  have gx : ∀ z, z < j → ∀ (r : Nat) u, (tkA l z).cells[r]? = some u → (l.flatMap Tok.cells)[0 + (z : Int).toNat * 6 + r]? = some u := fun z hz r u hu => by rw [show 0 + (z : Int).toNat * 6 = z * 6 by omega]; exact flatT_get (tkA_get (by omega)) r u hu
  have sw : ∀ z, setL (setL (l.flatMap Tok.cells) (0 + (x : Int).toNat * 6) (tkA l y).cells) (0 + (y : Int).toNat * 6) (tkA l x).cells = z → z = (swpL l x y noTok).flatMap Tok.cells := by
    rintro z rfl
    rw [show 0 + (x : Int).toNat * 6 = x * 6 by omega, show 0 + (y : Int).toNat * 6 = y * 6 by omega, flatTok_set _ _ _ (by omega), flatTok_set _ _ _ (by rw [List.length_set]; omega)]
    rfl
  refine dw0 13 [row 4 1 (some ⟨g2, 0, none⟩) cap2 j ((thereL q j).map Value.bool), row 27 6 (some ⟨g1, 0, none⟩) cap1 j (l.flatMap Tok.cells), blk b1 ((thereL q j).map Value.bool) 4, blk pc c.cells 23] ?_
  repeat' (first | (show T _ (.draw _ _ _ _ _ :: _) _ _ _; first | refine dw1 ?_ | refine dwv rfl (by decide +kernel) rfl rfl (Val.loadA (vs := (tkA l y).cells) rfl (fun hg => rdRow (A := some ⟨g1, 0, none⟩) hn1 (gx y hyn)) rfl) rfl rfl rfl ?_ | refine dwg rfl (by decide +kernel) rfl rfl (Val.loadA (vs := (tkA l y).cells) rfl (fun hg => rdRow (A := some ⟨g1, 0, none⟩) hn1 (gx y hyn)) rfl) rfl rfl rfl rfl rfl ?_ | refine dwv rfl (by decide +kernel) rfl rfl (Val.loadA (vs := (tkA l x).cells) rfl (fun hg => rdRow (A := some ⟨g1, 0, none⟩) hn1 (gx x hxn)) rfl) rfl rfl rfl ?_ | refine dwg rfl (by decide +kernel) rfl rfl (Val.loadA (vs := (tkA l x).cells) rfl (fun hg => rdRow (A := some ⟨g1, 0, none⟩) hn1 (gx x hxn)) rfl) rfl rfl rfl rfl rfl ?_ | refine dwb rfl (by decide +kernel) ?_) | (show AllL _ []; exact True.intro) | (show AllL _ (_ :: _); refine ⟨?_, ?_⟩) | (show OpT _ _ _ _ _ _ _; first | refine dwx ?_ | refine OpT.ofVal rfl (Val.loadA (vs := (tkA l y).cells) rfl (fun hg => rdRow (A := some ⟨g1, 0, none⟩) hn1 (gx y hyn)) rfl) rfl rfl rfl ⟨fun _ => (by first | exact Hle.none _ | exact Hle.sub | exact absurd ‹_› (by decide +kernel)), ?_⟩ | refine OpT.ofVal rfl (Val.loadA (vs := (tkA l x).cells) rfl (fun hg => rdRow (A := some ⟨g1, 0, none⟩) hn1 (gx x hxn)) rfl) rfl rfl rfl ⟨fun _ => (by first | exact Hle.none _ | exact Hle.sub | exact absurd ‹_› (by decide +kernel)), ?_⟩ | refine OpT.storeR rfl rfl rfl rfl rfl rfl (by show 0 + (x : Int).toNat * 6 + 6 ≤ j * 6; omega) ⟨fun _ => (by first | exact Hle.none _ | exact Hle.sub | exact absurd ‹_› (by decide +kernel)), ?_⟩ | refine OpT.storeR rfl rfl rfl rfl rfl rfl (by show 0 + (y : Int).toNat * 6 + 6 ≤ j * 6; omega) ⟨fun _ => (by first | exact Hle.none _ | exact Hle.sub | exact absurd ‹_› (by decide +kernel)), ?_⟩) | (show ∀ _ : Nat, T _ _ _ _ _; intro _))
  refine T_le (H' := [row 4 1 (some ⟨g2, 0, none⟩) cap2 j ((thereL q j).map Value.bool), row 27 6 (some ⟨g1, 0, none⟩) cap1 j ((swpL l x y noTok).flatMap Tok.cells), blk b1 ((thereL q j).map Value.bool) 4, blk pc c.cells 23]) (by rw [← sw _ rfl]; exact Hle.refl _) ?_
  have bx : ∀ z, z < j → ((thereL q j).map Value.bool)[0 + (z : Int).toNat * 1]? = some (.bool (thA (thereL q j) z)) := fun z hz => by rw [show 0 + (z : Int).toNat * 1 = z by omega, List.getElem?_map, thA_get (by omega)]; rfl
  have sb : ∀ z, setL (setL ((thereL q j).map Value.bool) (0 + (x : Int).toNat * 1) [.bool (thA (thereL q j) y)]) (0 + (y : Int).toNat * 1) [.bool (thA (thereL q j) x)] = z → z = (swpL (thereL q j) x y false).map Value.bool := by
    rintro z rfl
    rw [show 0 + (x : Int).toNat * 1 = x * 1 by omega, show 0 + (y : Int).toNat * 1 = y * 1 by omega, map_set1, map_set1]
    rfl
  refine dw0 13 [row 4 1 (some ⟨g2, 0, none⟩) cap2 j ((thereL q j).map Value.bool), row 27 6 (some ⟨g1, 0, none⟩) cap1 j ((swpL l x y noTok).flatMap Tok.cells), blk b1 ((thereL q j).map Value.bool) 4, blk pc c.cells 23] ?_
  repeat' (first | (show T _ (.draw _ _ _ _ _ :: _) _ _ _; first | refine dw1 ?_ | refine dwv rfl (by decide +kernel) rfl rfl (Val.load rfl (fun hg => rdRow (A := some ⟨g2, 0, none⟩) (vs := [.bool (thA (thereL q j) y)]) hn1 (get1 (bx y hyn)))) rfl rfl rfl ?_ | refine dwg rfl (by decide +kernel) rfl rfl (Val.load rfl (fun hg => rdRow (A := some ⟨g2, 0, none⟩) (vs := [.bool (thA (thereL q j) y)]) hn1 (get1 (bx y hyn)))) rfl rfl rfl rfl rfl ?_ | refine dwv rfl (by decide +kernel) rfl rfl (Val.load rfl (fun hg => rdRow (A := some ⟨g2, 0, none⟩) (vs := [.bool (thA (thereL q j) x)]) hn1 (get1 (bx x hxn)))) rfl rfl rfl ?_ | refine dwg rfl (by decide +kernel) rfl rfl (Val.load rfl (fun hg => rdRow (A := some ⟨g2, 0, none⟩) (vs := [.bool (thA (thereL q j) x)]) hn1 (get1 (bx x hxn)))) rfl rfl rfl rfl rfl ?_ | refine dwb rfl (by decide +kernel) ?_) | (show AllL _ []; exact True.intro) | (show AllL _ (_ :: _); refine ⟨?_, ?_⟩) | (show OpT _ _ _ _ _ _ _; first | refine dwx ?_ | refine OpT.ofVal rfl (Val.load rfl (fun hg => rdRow (A := some ⟨g2, 0, none⟩) (vs := [.bool (thA (thereL q j) y)]) hn1 (get1 (bx y hyn)))) rfl rfl rfl ⟨fun _ => (by first | exact Hle.none _ | exact Hle.sub | exact absurd ‹_› (by decide +kernel)), ?_⟩ | refine OpT.ofVal rfl (Val.load rfl (fun hg => rdRow (A := some ⟨g2, 0, none⟩) (vs := [.bool (thA (thereL q j) x)]) hn1 (get1 (bx x hxn)))) rfl rfl rfl ⟨fun _ => (by first | exact Hle.none _ | exact Hle.sub | exact absurd ‹_› (by decide +kernel)), ?_⟩ | refine OpT.storeR rfl rfl rfl rfl rfl rfl (by show 0 + (x : Int).toNat * 1 + 1 ≤ j * 1; omega) ⟨fun _ => (by first | exact Hle.none _ | exact Hle.sub | exact absurd ‹_› (by decide +kernel)), ?_⟩ | refine OpT.storeR rfl rfl rfl rfl rfl rfl (by show 0 + (y : Int).toNat * 1 + 1 ≤ j * 1; omega) ⟨fun _ => (by first | exact Hle.none _ | exact Hle.sub | exact absurd ‹_› (by decide +kernel)), ?_⟩) | (show ∀ _ : Nat, T _ _ _ _ _; intro _))
  refine T_le (H' := [row 4 1 (some ⟨g2, 0, none⟩) cap2 j ((swpL (thereL q j) x y false).map Value.bool), row 27 6 (some ⟨g1, 0, none⟩) cap1 j ((swpL l x y noTok).flatMap Tok.cells), blk b1 ((thereL q j).map Value.bool) 4, blk pc c.cells 23]) (by rw [← sb _ rfl]; exact Hle.refl _) ?_
  have hml : (swpL l x y noTok).length = j := by rw [swpL_length]; omega
  have hmb : (swpL (thereL q j) x y false).length = j := by rw [swpL_length]; omega
  have hmem : ∀ t, t ∈ swpL l x y noTok → t ∈ l := by
    intro t ht
    unfold swpL at ht
    rcases List.mem_or_eq_of_mem_set ht with ht | rfl
    · rcases List.mem_or_eq_of_mem_set ht with ht | rfl
      · exact ht
      · exact tkA_mem (l := l) (by omega)
    · exact tkA_mem (l := l) (by omega)
  have hcv2 : columnV c (swpL l x y noTok) (swpL (thereL q j) x y false) = (psum (cellC c l (thereL q j)) (pairsL j), 0) := by
    rw [columnV_ok hc (by omega) (by omega) (fun i hi => hkk _ (hmem _ (tkA_mem hi))), hml, column_swp c l (thereL q j) j x y hn.symm hth hxn hyn]
  repeat' (first | refine d1 ?_ | refine dd ?_ | (show T _ (.ops _ (_ :: _) :: _) _ _ _; first | refine T_call rfl rfl rfl rfl rfl (fun w hw => columnPrg_spec c (some ⟨g1, 0, none⟩) (some ⟨g2, 0, none⟩) j j cap1 cap2 (swpL l x y noTok) (swpL (thereL q j) x y false) w (hst.cls ‹_›) (srcRw w ‹_›) hml hnb (srcRw w ‹_›) hmb (by omega) (fun t ht => hsm t (hmem t ht))) ?_ | refine T_callC rfl rfl rfl rfl rfl rfl rfl (fun hg w hw => columnPrg_spec c (some ⟨g1, 0, none⟩) (some ⟨g2, 0, none⟩) j j cap1 cap2 (swpL l x y noTok) (swpL (thereL q j) x y false) w (hst.cls ‹_›) (srcRw w ‹_›) hml hnb (srcRw w ‹_›) hmb (by omega) (fun t ht => hsm t (hmem t ht))) ?_) | (show T _ (.run _ _ (_ :: _) _ _ :: _) _ _ _; first | refine rc rfl rfl rfl rfl rfl rfl rfl (fun w hw => columnPrg_spec c (some ⟨g1, 0, none⟩) (some ⟨g2, 0, none⟩) j j cap1 cap2 (swpL l x y noTok) (swpL (thereL q j) x y false) w (hst.cls ‹_›) (srcRw w ‹_›) hml hnb (srcRw w ‹_›) hmb (by omega) (fun t ht => hsm t (hmem t ht))) ?_ | refine rcG rfl rfl rfl rfl rfl rfl rfl rfl rfl (fun hg w hw => columnPrg_spec c (some ⟨g1, 0, none⟩) (some ⟨g2, 0, none⟩) j j cap1 cap2 (swpL l x y noTok) (swpL (thereL q j) x y false) w (hst.cls ‹_›) (srcRw w ‹_›) hml hnb (srcRw w ‹_›) hmb (by omega) (fun t ht => hsm t (hmem t ht))) ?_) | (show ∀ _ : Nat, T _ _ _ _ _; intro _))
  rw [hcv2]
  repeat' (first | refine d1 ?_ | (show ∀ _ : Nat, T _ _ _ _ _; intro _))
  have hcv3 : columnV c (l ++ [noTok]) (thereL q j ++ [false]) = (psum (cellC c l (thereL q j)) (pairsL j) + gapsC c l (thereL q j) j, 0) := by
    unfold columnV
    rw [if_neg (by rw [hc]; omega), if_neg (by simp; omega), if_neg (by simp; omega), badCol_false, if_neg (by simp)]
    · rw [List.length_append, List.length_singleton, ← hn, column_more c l (thereL q j) j hn.symm hth]
    · intro i hi hti
      rw [List.length_append, List.length_singleton] at hi
      rcases Nat.lt_or_ge i j with h | h
      · rw [tkA_left (by omega)]; exact hkk _ (tkA_mem (by omega))
      · rw [show i = (thereL q j).length by omega, thA_out] at hti; cases hti
  have hm3 : ∀ t, t ∈ l ++ [noTok] → t.small := by
    intro t ht
    rcases List.mem_append.1 ht with ht | ht
    · exact hsm t ht
    · rw [List.mem_singleton.1 ht]; decide
  have hl3 : (l ++ [noTok]).length = j + 1 := by simp; omega
  have hb3 : (thereL q j ++ [false]).length = j + 1 := by simp; omega
  refine T_cutX 1 [24, 25] (fun _ : Unit => [(24, .int .i64 (psum (cellC c l (thereL q j)) (pairsL j) + gapsC c l (thereL q j) j)), (25, .int .i64 0)]) (fun _ => []) (fun _ => True) ?_ ?_
  · refine dw0 1000 [blk b1 ((thereL q j).map Value.bool) 4, blk pc c.cells 23] ?_
    repeat' (first | (show T _ (.draw _ _ _ _ _ :: _) _ _ _; first | refine dw1 ?_ | refine dwb rfl (by decide +kernel) ?_) | (show AllL _ []; exact True.intro) | (show AllL _ (_ :: _); refine ⟨?_, ?_⟩) | (show OpT _ _ _ _ _ _ _; first | refine dwx ?_ | refine OpT.callE1 rfl rfl rfl rfl rfl (fun w hw => cloneT_spec A j ca l w (rdSrc hl w hw) (by omega)) (fun x1 _ => ⟨fun _ => (by first | exact Hle.none _ | exact Hle.sub | exact absurd ‹_› (by decide +kernel)), ?_⟩) | refine OpT.callE1 rfl rfl rfl rfl rfl (fun w hw => cloneB_spec (some ⟨b1, 0, none⟩) j j (thereL q j) w (Src.own hw (by rw [List.length_map]; exact (hth.trans (Nat.mul_one j).symm))) (by omega)) (fun x2 _ => ⟨fun _ => (by first | exact Hle.none _ | exact Hle.sub | exact absurd ‹_› (by decide +kernel)), ?_⟩) | refine OpT.append rfl rfl rfl rfl rfl rfl rfl rfl rfl rfl (fun w hw => Src.own hw rfl) rfl (by dsimp only; omega) (by omega) (fun A' cap' hA' => ⟨fun _ => (by first | exact Hle.none _ | exact Hle.sub | exact absurd ‹_› (by decide +kernel)), ?_⟩) | refine OpT.callV rfl rfl rfl rfl rfl (fun w hw => columnPrg_spec c _ _ (j + 1) (j + 1) _ _ (l ++ [noTok]) (thereL q j ++ [false]) w (hst.cls ‹_›) (by rw [List.flatMap_append]; exact srcRw w ‹_›) hl3 (by omega) (by rw [List.map_append]; exact srcRw w ‹_›) hb3 (by omega) hm3) ⟨fun _ => (by first | exact Hle.none _ | exact Hle.sub | exact absurd ‹_› (by decide +kernel)), ?_⟩ | refine OpT.callC rfl rfl rfl rfl rfl rfl rfl (fun hg w hw => columnPrg_spec c _ _ (j + 1) (j + 1) _ _ (l ++ [noTok]) (thereL q j ++ [false]) w (hst.cls ‹_›) (by rw [List.flatMap_append]; exact srcRw w ‹_›) hl3 (by omega) (by rw [List.map_append]; exact srcRw w ‹_›) hb3 (by omega) hm3) ⟨fun _ => (by first | exact Hle.none _ | exact Hle.sub | exact absurd ‹_› (by decide +kernel)), ?_⟩) | (show ∀ _ : Nat, T _ _ _ _ _; intro _) | (show T _ (.mark _ :: _) _ _ _; exact T_meetX () trivial (hE := ⟨by rw [hcv3]; rfl, by rw [hcv3]; rfl, trivial⟩)))
  rintro ⟨⟩ _
  have q1 := gapsC_bd hc l (thereL q j) j
  have q2 := psum_cell hc l (thereL q j) (pairsL j)
  have q3 := pairsL_len j
  have q4 : j * j ≤ 7 * 7 := Nat.mul_le_mul hn7 hn7
  repeat' (first | refine d1 ?_ | refine dd ?_ | (show T _ (.ops _ (_ :: _) :: _) _ _ _; first | refine T_call rfl rfl rfl rfl rfl (fun w hw => awake17_spec w (hst.cls ‹_›)) ?_ | refine T_callC rfl rfl rfl rfl rfl rfl rfl (fun hg w hw => awake17_spec w (hst.cls ‹_›)) ?_) | (show T _ (.run _ _ (_ :: _) _ _ :: _) _ _ _; first | refine rc rfl rfl rfl rfl rfl rfl rfl (fun w hw => awake17_spec w (hst.cls ‹_›)) ?_ | refine rcG rfl rfl rfl rfl rfl rfl rfl rfl rfl (fun hg w hw => awake17_spec w (hst.cls ‹_›)) ?_) | (show ∀ _ : Nat, T _ _ _ _ _; intro _) | (show T _ (.code .ret :: _) _ _ _; refine T_retV [] rfl (Hle.none _) ⟨congrArg Value.bool (by simp), rfl⟩))
theorem order_met (os : Os) (args : Array Value) : laidMetH Tryd.prog Rows.tokencostOrderRow.laid ((World.doorLaid Tryd.prog 400 os).forCall (fun _ _ => 0) ⟨#[], args, []⟩).memory :=
  laidMetH_of_parts3 (fuel := 8) (laidMet_of_run' 8 (by kernel_rfl) (by kernel_rfl)) (by kernel_rfl) (by kernel_rfl)
theorem order_lifted (os : Os) (started : os.Started) (H : Type) (enc : TypeId × Value → H) :
    ReturnsInHanded {} Tryd.checked os 7 .any (fun w args => (Rows.tokencostOrderSpec.pre enc Tryd.prog Tryd.f7 [] false w args ∧ laidMetH Tryd.prog Rows.tokencostOrderRow.laid w) ∧ sizedMet enc Tryd.prog Tryd.f7 (OpenSpec.ofChange Rows.tokencostOrderSpec) false w args)
      (Rows.tokencostOrderSpec.post enc Tryd.prog Tryd.f7 false true false false) := by
  refine returnsInHanded_of_change_and (C := Tryd.checked) (X := fun w _ => laidMetH Tryd.prog Rows.tokencostOrderRow.laid w) (fun _ _ _ hh h => h.of_heap hh) knob started (by kernel_rfl) Tryd.func7
    (ChangeSpec.witness_shaped (enc := enc) (C := Tryd.checked) (os := os) (X := fun w _ => laidMetH Tryd.prog Rows.tokencostOrderRow.laid w) false (World.doorLaid Tryd.prog 400 os) #[(⟨0, 0, 0, 0⟩ : Costs).val, .slice none 0 0, .int .u8 0, .int .u8 0, .int .u8 0] 8 rfl (World.shaped_of_RefB (by kernel_rfl) (by kernel_rfl)) (by kernel_rfl) (by kernel_rfl) (by kernel_rfl) (order_met os _)) ?_
  intro W base args ds gs before hval0 hW _ _ hL _
  have hval : ∀ (j : Nat) t v, Tryd.f7.params[j]? = some t → args[j]? = some v → Value.okWide Tryd.prog W .any base t v := hval0
  have hstd := std_of (show laidMetH Tryd.prog laids W from hL)
  have hW' := hW
  obtain ⟨p, q, hA0, hV, rfl, hfz, hnd⟩ := hW
  have hA : DataW.TrodAll enc Tryd.prog W 0 (fun _ => true) true Tryd.f7.params.toList args.toList ds p := hA0
  obtain ⟨v0, vs0, d0, ds0, p0, q0, e0, rfl, rfl, h0, hA⟩ := trodAll_cons hA
  obtain ⟨v1, vs1, d1, ds1, p1, q1, rfl, rfl, rfl, h1, hA⟩ := trodAll_cons hA
  obtain ⟨v2, vs2, d2, ds2, p2, q2, rfl, rfl, rfl, h2, hA⟩ := trodAll_cons hA
  obtain ⟨v3, vs3, d3, ds3, p3, q3, rfl, rfl, rfl, h3, hA⟩ := trodAll_cons hA
  obtain ⟨v4, vs4, d4, ds4, p4, q4, rfl, rfl, rfl, h4, hA⟩ := trodAll_cons hA
  obtain ⟨rfl, rfl, rfl⟩ := trodAll_nil hA
  have ea : args = #[v0, v1, v2, v3, v4] := Array.ext' e0
  subst ea
  obtain ⟨c, rfl⟩ := arg_costs (hval 0 _ v0 rfl rfl) h0
  obtain ⟨A_l, cap_l, l, rfl, hb_l, hs_l⟩ := arg_toks (hval 1 _ v1 rfl rfl) h1
  obtain ⟨q, rfl, hb_q⟩ := arg_u8 (hval 2 _ v2 rfl rfl) h2
  obtain ⟨i, rfl, hb_i⟩ := arg_u8 (hval 3 _ v3 rfl rfl) h3
  obtain ⟨k, rfl, hb_k⟩ := arg_u8 (hval 4 _ v4 rfl rfl) h4
  refine (order_spec c A_l cap_l l q i k W hstd hs_l hb_l hb_q hb_i hb_k).calls.mono ?_
  rintro e W' ⟨v, A, rfl, ⟨rfl, _⟩, hb, _⟩
  exact ⟨_, rfl, law_post hW' rfl rfl laidOk (by intro t ht; simp only [show Tryd.f7.params.toList = [23, 29, 5, 5, 5] from rfl, List.mem_cons, List.mem_nil_iff, or_false] at ht; rcases ht with rfl | rfl | rfl | rfl | rfl <;> exact ⟨by kernel_rfl, of_decide_eq_true (by kernel_rfl)⟩) rfl Tryd.underlying4 hb⟩
theorem order_holds : Rows.TokencostOrderSaid :=
  OpenClaim.holds_of_wide 7 Tryd.f7 rfl rfl rfl rfl rfl rfl rfl ⟨rfl, rfl, rfl, rfl, rfl⟩ rfl rfl rfl rfl rfl (by kernel_rfl) Tryd.func7 (by kernel_rfl)
    (of_decide_eq_true (by kernel_rfl)) (by unfold Func.isWrapper; first | (rw [if_pos (by decide +kernel)]; kernel_rfl) | (rw [if_neg (by decide +kernel)]; exact ⟨rfl, rfl⟩))
    (fun os started H enc _ => order_lifted os started H enc)
theorem order_card : Rows.TokencostOrderCardSaid :=
  Claim7.holds_tied_plain_at .later [] [.data, .data, .data, .sentinel, .sentinel] true (true, "28692782097a374b4e0f7a632efec21f45e145e988e45c574558877b0063dbc4") true
    order_holds (fun _ h => by cases h) (by kernel_rfl) (fun _ h => by cases h) tokencostOrder_row_tie rfl ⟨rfl, rfl⟩ (by kernel_rfl) rfl
    (fun f fn hf hfn => by
      obtain rfl : f = 7 := Option.some.inj ((show Tryd.prog.funcNamed "apograph/apographlaw17.TokencostOrder" = some 7 by kernel_rfl).symm.trans hf) |>.symm
      obtain rfl : fn = Tryd.f7 := (Option.some.inj (Tryd.func7.symm.trans hfn)).symm
      exact ⟨by kernel_rfl, fun j t ht => by
        have ht' : [23, 29, 5, 5, 5][j]? = some t := by rw [Tryd.params7] at ht; simpa using ht
        have hm := List.mem_of_getElem? ht'
        simp only [List.mem_cons, List.mem_nil_iff, or_false] at hm
        rcases hm with rfl | rfl | rfl | rfl | rfl <;> exact (show Tryd.prog.wantsStandIn _ = false by kernel_rfl)⟩)
    (by kernel_rfl)
#print axioms order_card
end Go.Proofs.YtiglobijdegjdaaDoor
