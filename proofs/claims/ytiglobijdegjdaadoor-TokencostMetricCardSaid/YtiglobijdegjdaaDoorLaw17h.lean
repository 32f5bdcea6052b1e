/- The law TokencostMetric holds for whatever costs and tokens: the tied card of its row. No condition beyond the row's own. -/
import Derived.Test.YtiglobijdegjdaaDoorWalkO
import Derived.Test.YtiglobijdegjdaaDoorWalkQ
import Derived.Test.YtiglobijdegjdaaDoorWalkR
import Derived.Test.YtiglobijdegjdaaDoorSpecR
import Derived.Test.YtiglobijdegjdaaDoorEngU
import Derived.Test.YtiglobijdegjdaaDoorLiftB
import Derived.Test.YtiglobijdegjdaaDoorCards
import Derived.Test.YtiglobijdegjdaaDoorTie
namespace Go.Proofs.YtiglobijdegjdaaDoor
open Go.RowKit Go.Shelf Go.ChangeShapes Go.WideShapes Go.Proofs
set_option maxRecDepth 100000
set_option maxHeartbeats 1000000

def ptrV (b o : Nat) : Option Nat → Value
  | none => .pointer none
  | some i => .pointer (some ⟨b, o + i * 6, none⟩)
def elt (l : List Tok) (i : Option Nat) : Option Tok := i.map (tkA l)
theorem metric1_spec (c : Costs) (l : List Tok) (b o : Nat) (i k : Option Nat) (g : Nat) (w : World) (hst : Std w) (hc : costE c = 0) (hk : ∀ t ∈ l, tokE t = 0) (hsm : ∀ t ∈ l, t.small)
    (hr : ∀ j, j < l.length → RdC w b (o + j * 6) (tkA l j).cells) (hi : ∀ x, i = some x → x < l.length) (hkk : ∀ x, k = some x → x < l.length) (hg : RdC w g 0 c.cells) :
    Spec Tryd.prog 26 [ptrV b o i, ptrV b o k, .pointer (some ⟨g, 0, none⟩)] w (fun v R => v = .int .i64 (costO c (elt l i) (elt l k)) ∧ R = []) := by
  have hpair : ∀ x y, x < l.length → y < l.length → pairV c (tkA l x) (tkA l y) = (pairC c (tkA l x) (tkA l y), 0) := fun x y hx hy => by unfold pairV; rw [if_pos ⟨hc, hk _ (tkA_mem hx), hk _ (tkA_mem hy)⟩]
  have hgap : ∀ x, x < l.length → gapV c (tkA l x) = (gapC c (tkA l x), 0) := fun x hx => by unfold gapV; rw [if_pos ⟨hc, hk _ (tkA_mem hx)⟩]
  refine spec_of sg Tryd.func26 rfl rfl rfl ?_
  cases i with
  | none =>
    cases k with
    | none =>
      repeat' (first | refine d1 ?_ | refine dd ?_ | (show T _ (.ops _ (_ :: _) :: _) _ _ _; first | refine T_val rfl (Val.nilS rfl) rfl rfl rfl ?_ | refine T_valC rfl (Val.nilS rfl) rfl rfl rfl rfl rfl ?_) | (show T _ (.run _ _ (_ :: _) _ _ :: _) _ _ _; first | refine rv rfl rfl rfl (Val.nilS rfl) rfl rfl rfl ?_ | refine rg rfl rfl rfl (Val.nilS rfl) rfl rfl rfl rfl rfl ?_) | (show ∀ _ : Nat, T _ _ _ _ _; intro _))
      refine T_if rfl (fun h => ?_) (fun h => ?_)
      · cases h
      repeat' (first | refine d1 ?_ | refine dd ?_ | (show T _ (.ops _ (_ :: _) :: _) _ _ _; first | refine T_val rfl (Val.nilS rfl) rfl rfl rfl ?_ | refine T_valC rfl (Val.nilS rfl) rfl rfl rfl rfl rfl ?_) | (show T _ (.run _ _ (_ :: _) _ _ :: _) _ _ _; first | refine rv rfl rfl rfl (Val.nilS rfl) rfl rfl rfl ?_ | refine rg rfl rfl rfl (Val.nilS rfl) rfl rfl rfl rfl rfl ?_) | (show ∀ _ : Nat, T _ _ _ _ _; intro _))
      refine T_if rfl (fun h => ?_) (fun h => ?_)
      · cases h
      repeat' (first | refine d1 ?_ | refine dd ?_ | (show T _ (.ops _ (_ :: _) :: _) _ _ _; first | refine T_val rfl (Val.nilS rfl) rfl rfl rfl ?_ | refine T_valC rfl (Val.nilS rfl) rfl rfl rfl rfl rfl ?_) | (show T _ (.run _ _ (_ :: _) _ _ :: _) _ _ _; first | refine rv rfl rfl rfl (Val.nilS rfl) rfl rfl rfl ?_ | refine rg rfl rfl rfl (Val.nilS rfl) rfl rfl rfl rfl rfl ?_) | (show ∀ _ : Nat, T _ _ _ _ _; intro _))
      refine T_if rfl (fun h => ?_) (fun h => ?_)
      · cases h
      repeat' (first | refine d1 ?_ | refine dd ?_ | (show ∀ _ : Nat, T _ _ _ _ _; intro _))
      refine T_if rfl (fun h => ?_) (fun h => ?_)
      · cases h
      repeat' (first | refine d1 ?_ | refine dd ?_ | (show ∀ _ : Nat, T _ _ _ _ _; intro _) | (show T _ (.code .ret :: _) _ _ _; refine T_retV [] rfl (Hle.none _) ⟨rfl, rfl⟩))
    | some y =>
      have hy := hkk y rfl
      have hry := hr y hy
      repeat' (first | refine d1 ?_ | refine dd ?_ | (show T _ (.ops _ (_ :: _) :: _) _ _ _; first | refine T_val rfl (Val.nilS rfl) rfl rfl rfl ?_ | refine T_valC rfl (Val.nilS rfl) rfl rfl rfl rfl rfl ?_) | (show T _ (.run _ _ (_ :: _) _ _ :: _) _ _ _; first | refine rv rfl rfl rfl (Val.nilS rfl) rfl rfl rfl ?_ | refine rg rfl rfl rfl (Val.nilS rfl) rfl rfl rfl rfl rfl ?_) | (show ∀ _ : Nat, T _ _ _ _ _; intro _))
      refine T_if rfl (fun h => ?_) (fun h => ?_)
      · cases h
      repeat' (first | refine d1 ?_ | refine dd ?_ | (show T _ (.ops _ (_ :: _) :: _) _ _ _; first | refine T_val rfl (Val.nilS rfl) rfl rfl rfl ?_ | refine T_valC rfl (Val.nilS rfl) rfl rfl rfl rfl rfl ?_) | (show T _ (.run _ _ (_ :: _) _ _ :: _) _ _ _; first | refine rv rfl rfl rfl (Val.nilS rfl) rfl rfl rfl ?_ | refine rg rfl rfl rfl (Val.nilS rfl) rfl rfl rfl rfl rfl ?_) | (show ∀ _ : Nat, T _ _ _ _ _; intro _))
      refine T_if rfl (fun h => ?_) (fun h => ?_)
      · cases h
      repeat' (first | refine d1 ?_ | refine dd ?_ | (show T _ (.ops _ (_ :: _) :: _) _ _ _; first | refine T_val rfl (Val.nilS rfl) rfl rfl rfl ?_ | refine T_valC rfl (Val.nilS rfl) rfl rfl rfl rfl rfl ?_) | (show T _ (.run _ _ (_ :: _) _ _ :: _) _ _ _; first | refine rv rfl rfl rfl (Val.nilS rfl) rfl rfl rfl ?_ | refine rg rfl rfl rfl (Val.nilS rfl) rfl rfl rfl rfl rfl ?_) | (show ∀ _ : Nat, T _ _ _ _ _; intro _))
      refine T_if rfl (fun h => ?_) (fun h => ?_)
      · repeat' (first | refine d1 ?_ | refine dd ?_ | (show T _ (.ops _ (_ :: _) :: _) _ _ _; first | refine T_val rfl (Val.nilc rfl) rfl rfl rfl ?_ | refine T_valC rfl (Val.nilc rfl) rfl rfl rfl rfl rfl ?_ | refine T_call rfl rfl rfl rfl rfl (fun w hw => gapTop_spec c (tkA l y) (hsm _ (tkA_mem hy)) w (hst.cls ‹_›)) ?_ | refine T_callC rfl rfl rfl rfl rfl rfl rfl (fun hg w hw => gapTop_spec c (tkA l y) (hsm _ (tkA_mem hy)) w (hst.cls ‹_›)) ?_) | (show T _ (.run _ _ (_ :: _) _ _ :: _) _ _ _; first | refine rv rfl rfl rfl (Val.nilc rfl) rfl rfl rfl ?_ | refine rg rfl rfl rfl (Val.nilc rfl) rfl rfl rfl rfl rfl ?_ | refine rc rfl rfl rfl rfl rfl rfl rfl (fun w hw => gapTop_spec c (tkA l y) (hsm _ (tkA_mem hy)) w (hst.cls ‹_›)) ?_ | refine rcG rfl rfl rfl rfl rfl rfl rfl rfl rfl (fun hg w hw => gapTop_spec c (tkA l y) (hsm _ (tkA_mem hy)) w (hst.cls ‹_›)) ?_) | (show ∀ _ : Nat, T _ _ _ _ _; intro _))
        rw [hgap y hy]
        refine T_if rfl (fun h => ?_) (fun h => ?_)
        · cases h
        repeat' (first | refine d1 ?_ | refine dd ?_ | (show ∀ _ : Nat, T _ _ _ _ _; intro _) | (show T _ (.code .ret :: _) _ _ _; refine T_retV [] rfl (Hle.none _) ⟨rfl, rfl⟩))
      · cases h
  | some x =>
    have hx := hi x rfl
    have hrx := hr x hx
    cases k with
    | none =>
      repeat' (first | refine d1 ?_ | refine dd ?_ | (show T _ (.ops _ (_ :: _) :: _) _ _ _; first | refine T_val rfl (Val.nilS rfl) rfl rfl rfl ?_ | refine T_valC rfl (Val.nilS rfl) rfl rfl rfl rfl rfl ?_) | (show T _ (.run _ _ (_ :: _) _ _ :: _) _ _ _; first | refine rv rfl rfl rfl (Val.nilS rfl) rfl rfl rfl ?_ | refine rg rfl rfl rfl (Val.nilS rfl) rfl rfl rfl rfl rfl ?_) | (show ∀ _ : Nat, T _ _ _ _ _; intro _))
      refine T_if rfl (fun h => ?_) (fun h => ?_)
      · cases h
      repeat' (first | refine d1 ?_ | refine dd ?_ | (show T _ (.ops _ (_ :: _) :: _) _ _ _; first | refine T_val rfl (Val.nilS rfl) rfl rfl rfl ?_ | refine T_valC rfl (Val.nilS rfl) rfl rfl rfl rfl rfl ?_) | (show T _ (.run _ _ (_ :: _) _ _ :: _) _ _ _; first | refine rv rfl rfl rfl (Val.nilS rfl) rfl rfl rfl ?_ | refine rg rfl rfl rfl (Val.nilS rfl) rfl rfl rfl rfl rfl ?_) | (show ∀ _ : Nat, T _ _ _ _ _; intro _))
      refine T_if rfl (fun h => ?_) (fun h => ?_)
      · repeat' (first | refine d1 ?_ | refine dd ?_ | (show T _ (.ops _ (_ :: _) :: _) _ _ _; first | refine T_val rfl (Val.nilc rfl) rfl rfl rfl ?_ | refine T_valC rfl (Val.nilc rfl) rfl rfl rfl rfl rfl ?_ | refine T_call rfl rfl rfl rfl rfl (fun w hw => gapTop_spec c (tkA l x) (hsm _ (tkA_mem hx)) w (hst.cls ‹_›)) ?_ | refine T_callC rfl rfl rfl rfl rfl rfl rfl (fun hg w hw => gapTop_spec c (tkA l x) (hsm _ (tkA_mem hx)) w (hst.cls ‹_›)) ?_) | (show T _ (.run _ _ (_ :: _) _ _ :: _) _ _ _; first | refine rv rfl rfl rfl (Val.nilc rfl) rfl rfl rfl ?_ | refine rg rfl rfl rfl (Val.nilc rfl) rfl rfl rfl rfl rfl ?_ | refine rc rfl rfl rfl rfl rfl rfl rfl (fun w hw => gapTop_spec c (tkA l x) (hsm _ (tkA_mem hx)) w (hst.cls ‹_›)) ?_ | refine rcG rfl rfl rfl rfl rfl rfl rfl rfl rfl (fun hg w hw => gapTop_spec c (tkA l x) (hsm _ (tkA_mem hx)) w (hst.cls ‹_›)) ?_) | (show ∀ _ : Nat, T _ _ _ _ _; intro _))
        rw [hgap x hx]
        refine T_if rfl (fun h => ?_) (fun h => ?_)
        · cases h
        repeat' (first | refine d1 ?_ | refine dd ?_ | (show ∀ _ : Nat, T _ _ _ _ _; intro _) | (show T _ (.code .ret :: _) _ _ _; refine T_retV [] rfl (Hle.none _) ⟨rfl, rfl⟩))
      · cases h
    | some y =>
      have hy := hkk y rfl
      have hry := hr y hy
      repeat' (first | refine d1 ?_ | refine dd ?_ | (show T _ (.ops _ (_ :: _) :: _) _ _ _; first | refine T_val rfl (Val.nilS rfl) rfl rfl rfl ?_ | refine T_valC rfl (Val.nilS rfl) rfl rfl rfl rfl rfl ?_) | (show T _ (.run _ _ (_ :: _) _ _ :: _) _ _ _; first | refine rv rfl rfl rfl (Val.nilS rfl) rfl rfl rfl ?_ | refine rg rfl rfl rfl (Val.nilS rfl) rfl rfl rfl rfl rfl ?_) | (show ∀ _ : Nat, T _ _ _ _ _; intro _))
      refine T_if rfl (fun h => ?_) (fun h => ?_)
      · repeat' (first | refine d1 ?_ | refine dd ?_ | (show T _ (.ops _ (_ :: _) :: _) _ _ _; first | refine T_val rfl (Val.nilc rfl) rfl rfl rfl ?_ | refine T_valC rfl (Val.nilc rfl) rfl rfl rfl rfl rfl ?_ | refine T_call rfl rfl rfl rfl rfl (fun w hw => pairTop_spec c (tkA l x) (tkA l y) (hsm _ (tkA_mem hx)) (hsm _ (tkA_mem hy)) w (hst.cls ‹_›)) ?_ | refine T_callC rfl rfl rfl rfl rfl rfl rfl (fun hg w hw => pairTop_spec c (tkA l x) (tkA l y) (hsm _ (tkA_mem hx)) (hsm _ (tkA_mem hy)) w (hst.cls ‹_›)) ?_) | (show T _ (.run _ _ (_ :: _) _ _ :: _) _ _ _; first | refine rv rfl rfl rfl (Val.nilc rfl) rfl rfl rfl ?_ | refine rg rfl rfl rfl (Val.nilc rfl) rfl rfl rfl rfl rfl ?_ | refine rc rfl rfl rfl rfl rfl rfl rfl (fun w hw => pairTop_spec c (tkA l x) (tkA l y) (hsm _ (tkA_mem hx)) (hsm _ (tkA_mem hy)) w (hst.cls ‹_›)) ?_ | refine rcG rfl rfl rfl rfl rfl rfl rfl rfl rfl (fun hg w hw => pairTop_spec c (tkA l x) (tkA l y) (hsm _ (tkA_mem hx)) (hsm _ (tkA_mem hy)) w (hst.cls ‹_›)) ?_) | (show ∀ _ : Nat, T _ _ _ _ _; intro _))
        rw [hpair x y hx hy]
        refine T_if rfl (fun h => ?_) (fun h => ?_)
        · cases h
        repeat' (first | refine d1 ?_ | refine dd ?_ | (show ∀ _ : Nat, T _ _ _ _ _; intro _) | (show T _ (.code .ret :: _) _ _ _; refine T_retV [] rfl (Hle.none _) ⟨rfl, rfl⟩))
      · cases h
def idxL (n : Nat) : List (Option Nat) := none :: (List.range n).map some
theorem idxL_length (n : Nat) : (idxL n).length = n + 1 := by simp [idxL]
theorem idxL_succ (n : Nat) : idxL (n + 1) = idxL n ++ [some n] := by simp [idxL, List.range_succ]
theorem idxL_lt {n x : Nat} {a : Option Nat} (h : a ∈ idxL n) (e : a = some x) : x < n := by
  subst e
  simp [idxL] at h; exact h
theorem idxL_get {n i : Nat} (h : i < n + 1) : ∃ a, (idxL n)[i]? = some a ∧ a ∈ idxL n := by
  have h1 : i < (idxL n).length := by rw [idxL_length]; exact h
  exact ⟨_, List.getElem?_eq_getElem h1, List.getElem_mem h1⟩
theorem idxL_elt (l : List Tok) : (idxL l.length).map (elt l) = none :: l.map some := by
  unfold idxL elt
  simp only [List.map_cons, Option.map_none, List.map_map, List.cons.injEq, true_and]
  apply List.ext_getElem?
  intro i
  simp only [List.getElem?_map]
  by_cases hi : i < l.length
  · rw [List.getElem?_range hi, tkA_get hi]; rfl
  · rw [List.getElem?_eq_none (by simp; omega), List.getElem?_eq_none (by omega)]; rfl
def tri (c : Costs) (l : List Tok) (a b x : Option Nat) : Bool := decide (costO c (elt l a) (elt l b) ≤ costO c (elt l a) (elt l x) + costO c (elt l x) (elt l b))
def w1 (c : Costs) (l : List Tok) (i : Nat) : Bool := ((idxL l.length).take i).all fun a => (idxL l.length).all fun b => (idxL l.length).all (tri c l a b)
theorem all_snoc {α : Type} {l : List α} {i : Nat} {a : α} (p : α → Bool) (h : l[i]? = some a) : (l.take (i + 1)).all p = ((l.take i).all p && p a) := by
  rw [take_snoc _ _ _ h, List.all_append]; simp
theorem w1_all (c : Costs) (l : List Tok) : w1 c l (l.length + 1) = metB c l := by
  have e : (idxL l.length).take (l.length + 1) = idxL l.length := List.take_of_length_le (by rw [idxL_length]; omega)
  have h : w1 c l (l.length + 1) = true ↔ metP c l := by
    rw [metP_O]
    unfold w1 metO
    rw [e, ← idxL_elt]
    simp only [List.all_eq_true, tri, decide_eq_true_eq, List.mem_map, forall_exists_index, and_imp, forall_apply_eq_imp_iff₂]
  by_cases hm : metP c l
  · rw [metB_true hm, h.2 hm]
  · rw [metB_false hm, Bool.eq_false_iff]; exact fun hh => hm (h.1 hh)
theorem costO_bd {c : Costs} (hc : costE c = 0) (a b : Option Tok) : 0 ≤ costO c a b ∧ costO c a b ≤ 1000 := by
  obtain ⟨c1, c2, c3, c4, c5⟩ := costE_ok hc
  cases a <;> cases b <;> unfold costO
  · simp
  · have := gapC_bd hc; simp only; rename_i t; have := this t; omega
  · have := gapC_bd hc; simp only; rename_i t; have := this t; omega
  · simp only; rename_i t u; have := pairC_bd hc t u; omega
theorem src_tail {w : World} {A : Option Addr} {ca : Nat} {t : Tok} {l : List Tok} (h : Src w 6 A (l.length + 1) ((t :: l).flatMap Tok.cells)) (hca : l.length + 1 ≤ ca) : Src w 6 (cutA A ca 1 6) l.length (l.flatMap Tok.cells) := by
  refine ⟨flatT_length l, fun hn => ?_⟩
  obtain ⟨hA, hr⟩ := h.2 (by omega)
  unfold isAt at hA
  have e : cutA A ca 1 6 = some ⟨bk A, ofs A + 6, none⟩ := by
    unfold cutA
    rw [if_neg (by omega), hA]
    simp only [Option.map_some, bk, ofs, Addr.add]
    rfl
  rw [e]
  refine ⟨rfl, fun j u hu => ?_⟩
  have := hr (6 + j) u (by rw [List.flatMap_cons, List.getElem?_append_right (by simp [Tok.cells])]; simpa [Tok.cells] using hu)
  show w.cell? ⟨bk A, ofs A + 6 + j, none⟩ = _
  rw [Nat.add_assoc]; exact this
theorem metricLaw_spec (c : Costs) (A : Option Addr) (ca : Nat) (l : List Tok) (w : World) (hst : Std w) (hl : Src w 6 A l.length (l.flatMap Tok.cells)) (hnb : l.length ≤ 9223372036854775807) (hca : l.length ≤ ca ∧ ca ≤ 9223372036854775807) :
    Spec Tryd.prog 8 [c.val, .slice A l.length ca] w (fun v R => v = .bool true ∧ R = []) := by
  refine spec_of sg Tryd.func8 rfl rfl rfl ?_
  refine T_op (OpT.box (cs := c.cells) rfl rfl rfl rfl rfl rfl rfl (fun pc => ?_))
  repeat' (first | refine d1 ?_ | refine dd ?_ | (show T _ (.ops _ (_ :: _) :: _) _ _ _; first | refine T_call rfl rfl rfl rfl rfl (fun w hw => fine_spec c A _ ca l w (rdSrc hl w ‹_›) rfl hnb) ?_ | refine T_callC rfl rfl rfl rfl rfl rfl rfl (fun hg w hw => fine_spec c A _ ca l w (rdSrc hl w ‹_›) rfl hnb) ?_) | (show T _ (.run _ _ (_ :: _) _ _ :: _) _ _ _; first | refine rc rfl rfl rfl rfl rfl rfl rfl (fun w hw => fine_spec c A _ ca l w (rdSrc hl w ‹_›) rfl hnb) ?_ | refine rcG rfl rfl rfl rfl rfl rfl rfl rfl rfl (fun hg w hw => fine_spec c A _ ca l w (rdSrc hl w ‹_›) rfl hnb) ?_) | (show ∀ _ : Nat, T _ _ _ _ _; intro _))
  refine T_if rfl (fun h1 => ?_) (fun h1 => ?_)
  · repeat' (first | refine d1 ?_ | refine dd ?_ | (show T _ (.ops _ (_ :: _) :: _) _ _ _; first | refine T_call rfl rfl rfl rfl rfl (fun w hw => awake17_spec w (hst.cls ‹_›)) ?_ | refine T_callC rfl rfl rfl rfl rfl rfl rfl (fun hg w hw => awake17_spec w (hst.cls ‹_›)) ?_) | (show T _ (.run _ _ (_ :: _) _ _ :: _) _ _ _; first | refine rc rfl rfl rfl rfl rfl rfl rfl (fun w hw => awake17_spec w (hst.cls ‹_›)) ?_ | refine rcG rfl rfl rfl rfl rfl rfl rfl rfl rfl (fun hg w hw => awake17_spec w (hst.cls ‹_›)) ?_) | (show ∀ _ : Nat, T _ _ _ _ _; intro _) | (show T _ (.code .ret :: _) _ _ _; refine T_retV [] rfl (Hle.none _) ⟨rfl, rfl⟩))
  simp only [Bool.or_eq_false_iff, Bool.not_eq_false', decide_eq_false_iff_not] at h1
  obtain ⟨hc, h8, hg, hk⟩ := fineB_ok h1.1
  have hsm : ∀ t ∈ l, t.small := fun t ht => (longT_small (hg t ht)).1
  have hmv : metricV c l = (metB c l, 0) := by
    unfold metricV
    rw [if_neg (by rw [hc]; omega), if_neg (by omega), tokErr_all hc (fun _ hj => hk _ (tkA_mem hj)), if_neg (by omega)]
  repeat' (first | refine d1 ?_ | refine dd ?_ | (show T _ (.ops _ (_ :: _) :: _) _ _ _; first | refine T_call rfl rfl rfl rfl rfl (fun w hw => metricPrg_spec c A _ ca l w (hst.cls ‹_›) (rdSrc hl w ‹_›) rfl hnb hsm) ?_ | refine T_callC rfl rfl rfl rfl rfl rfl rfl (fun hg w hw => metricPrg_spec c A _ ca l w (hst.cls ‹_›) (rdSrc hl w ‹_›) rfl hnb hsm) ?_) | (show T _ (.run _ _ (_ :: _) _ _ :: _) _ _ _; first | refine rc rfl rfl rfl rfl rfl rfl rfl (fun w hw => metricPrg_spec c A _ ca l w (hst.cls ‹_›) (rdSrc hl w ‹_›) rfl hnb hsm) ?_ | refine rcG rfl rfl rfl rfl rfl rfl rfl rfl rfl (fun hg w hw => metricPrg_spec c A _ ca l w (hst.cls ‹_›) (rdSrc hl w ‹_›) rfl hnb hsm) ?_) | (show ∀ _ : Nat, T _ _ _ _ _; intro _))
  rw [hmv]
  refine T_if rfl (fun h2 => ?_) (fun h2 => ?_)
  · cases h2
  have hrA : ∀ {w' : World} {H : List HA}, Cls w w' H → ∀ j, j < l.length → RdC w' (bk A) (ofs A + j * 6) (tkA l j).cells := fun hw j hj => by
    exact (rdSrc (C := ⟨sg, ⟨0, []⟩, w, none, fun _ _ => True, fun _ _ => True, fun _ _ _ => True⟩) hl _ hw).getT hj (tkA_get hj)
  repeat' (first | refine d1 ?_ | refine dd ?_ | (show ∀ _ : Nat, T _ _ _ _ _; intro _))
  rename_i b2
  refine T_le (H' := [row 51 1 (some ⟨b2, 0, none⟩) 1 1 ((idxL 0).map (ptrV (bk A) (ofs A))), blk pc c.cells 23]) (Hle.weaken (i := 0) rfl (blk_row (sz := 1) (n := 1) rfl (by simp only [maxLen]; omega)) rfl) ?_
  refine T_loopX (fun x : Nat × Nat × Nat => [(44, .int .i64 x.1), (8, .slice (some ⟨x.2.1, 0, none⟩) (x.1 + 1) x.2.2)]) (fun x => [row 51 1 (some ⟨x.2.1, 0, none⟩) x.2.2 (x.1 + 1) ((idxL x.1).map (ptrV (bk A) (ofs A))), blk pc c.cells 23]) (fun x => x.1 ≤ l.length) (fun x => l.length - x.1) (0, b2, 1) (Nat.zero_le _) ?_
  rintro ⟨j, g, cap⟩ hj
  dsimp only at hj ⊢
  repeat' (first | refine d1 ?_ | refine dd ?_ | (show ∀ _ : Nat, T _ _ _ _ _; intro _))
  refine T_if rfl (fun h3 => ?_) (fun h3 => ?_)
  · simp only [decide_eq_true_eq] at h3
    obtain ⟨ba, oa, rfl⟩ := hl.base (by omega)
    repeat' (first | refine d1 ?_ | refine dd ?_ | (show T _ (.ops _ (_ :: _) :: _) _ _ _; refine T_op (OpT.append rfl rfl rfl rfl rfl rfl rfl rfl rfl rfl (fun w hw => Src.own hw rfl) rfl (by dsimp only; omega) (by omega) (fun A' cap' hA' => ?_))) | (show ∀ _ : Nat, T _ _ _ _ _; intro _))
    obtain ⟨g', rfl⟩ := hA' (by omega)
    repeat' (first | refine d1 ?_ | refine dd ?_ | (show ∀ _ : Nat, T _ _ _ _ _; intro _))
    refine T_backX (j + 1, g', cap') (Nat.succ_le_of_lt (by omega)) (by dsimp only; omega) (hG := ?_)
    dsimp only
    rw [idxL_succ, List.map_append]
    refine Hle.trans (Hle.tail _ _) ?_
    rw [show oa + (j : Int).toNat * 6 = oa + j * 6 by omega]
    exact Hle.refl _
  simp only [decide_eq_false_iff_not] at h3
  obtain rfl : j = l.length := by omega
  have hget : ∀ {i : Nat} {a : Option Nat}, (idxL l.length)[i]? = some a → ((idxL l.length).map (ptrV (bk A) (ofs A)))[0 + (i : Int).toNat * 1]? = some (ptrV (bk A) (ofs A) a) := fun {i a} h => by
    rw [show 0 + (i : Int).toNat * 1 = i by omega, List.getElem?_map, h]; rfl
  repeat' (first | refine d1 ?_ | refine dd ?_ | (show ∀ _ : Nat, T _ _ _ _ _; intro _))
  refine T_loopX (fun i : Nat => [(56, .int .i64 i), (10, .bool (w1 c l i))]) (fun _ => [row 51 1 (some ⟨g, 0, none⟩) cap (l.length + 1) ((idxL l.length).map (ptrV (bk A) (ofs A))), blk pc c.cells 23]) (fun i => i ≤ l.length + 1) (fun i => l.length + 1 - i) 0 (Nat.zero_le _) ?_
  intro i hi
  repeat' (first | refine d1 ?_ | refine dd ?_ | (show ∀ _ : Nat, T _ _ _ _ _; intro _))
  refine T_if rfl (fun h4 => ?_) (fun h4 => ?_)
  · simp only [decide_eq_true_eq] at h4
    obtain ⟨a, ha, hma⟩ := idxL_get (n := l.length) (i := i) (by omega)
    repeat' (first | refine d1 ?_ | refine dd ?_ | (show T _ (.ops _ (_ :: _) :: _) _ _ _; first | refine T_val rfl (Val.load rfl (fun hg => rdRow (A := some ⟨g, 0, none⟩) (vs := [ptrV (bk A) (ofs A) a]) (by omega) (get1 (hget ha)))) rfl rfl rfl ?_ | refine T_valC rfl (Val.load rfl (fun hg => rdRow (A := some ⟨g, 0, none⟩) (vs := [ptrV (bk A) (ofs A) a]) (by omega) (get1 (hget ha)))) rfl rfl rfl rfl rfl ?_) | (show T _ (.run _ _ (_ :: _) _ _ :: _) _ _ _; first | refine rv rfl rfl rfl (Val.load rfl (fun hg => rdRow (A := some ⟨g, 0, none⟩) (vs := [ptrV (bk A) (ofs A) a]) (by omega) (get1 (hget ha)))) rfl rfl rfl ?_ | refine rg rfl rfl rfl (Val.load rfl (fun hg => rdRow (A := some ⟨g, 0, none⟩) (vs := [ptrV (bk A) (ofs A) a]) (by omega) (get1 (hget ha)))) rfl rfl rfl rfl rfl ?_) | (show ∀ _ : Nat, T _ _ _ _ _; intro _))
    refine T_loopX (fun k : Nat => [(62, .int .i64 k), (10, .bool (w1 c l i && ((idxL l.length).take k).all fun b => (idxL l.length).all (tri c l a b)))]) (fun _ => [row 51 1 (some ⟨g, 0, none⟩) cap (l.length + 1) ((idxL l.length).map (ptrV (bk A) (ofs A))), blk pc c.cells 23]) (fun k => k ≤ l.length + 1) (fun k => l.length + 1 - k) 0 (Nat.zero_le _) ?_ (hE := ⟨rfl, by rw [List.take_zero, List.all_nil, Bool.and_true]; rfl, trivial⟩)
    intro k hk2
    repeat' (first | refine d1 ?_ | refine dd ?_ | (show ∀ _ : Nat, T _ _ _ _ _; intro _))
    refine T_if rfl (fun h5 => ?_) (fun h5 => ?_)
    · simp only [decide_eq_true_eq] at h5
      obtain ⟨b, hb, hmb⟩ := idxL_get (n := l.length) (i := k) (by omega)
      repeat' (first | refine d1 ?_ | refine dd ?_ | (show T _ (.ops _ (_ :: _) :: _) _ _ _; first | refine T_val rfl (Val.load rfl (fun hg => rdRow (A := some ⟨g, 0, none⟩) (vs := [ptrV (bk A) (ofs A) b]) (by omega) (get1 (hget hb)))) rfl rfl rfl ?_ | refine T_valC rfl (Val.load rfl (fun hg => rdRow (A := some ⟨g, 0, none⟩) (vs := [ptrV (bk A) (ofs A) b]) (by omega) (get1 (hget hb)))) rfl rfl rfl rfl rfl ?_) | (show T _ (.run _ _ (_ :: _) _ _ :: _) _ _ _; first | refine rv rfl rfl rfl (Val.load rfl (fun hg => rdRow (A := some ⟨g, 0, none⟩) (vs := [ptrV (bk A) (ofs A) b]) (by omega) (get1 (hget hb)))) rfl rfl rfl ?_ | refine rg rfl rfl rfl (Val.load rfl (fun hg => rdRow (A := some ⟨g, 0, none⟩) (vs := [ptrV (bk A) (ofs A) b]) (by omega) (get1 (hget hb)))) rfl rfl rfl rfl rfl ?_) | (show ∀ _ : Nat, T _ _ _ _ _; intro _))
      refine T_loopX (fun j : Nat => [(68, .int .i64 j), (10, .bool ((w1 c l i && ((idxL l.length).take k).all fun b => (idxL l.length).all (tri c l a b)) && ((idxL l.length).take j).all (tri c l a b)))]) (fun _ => [row 51 1 (some ⟨g, 0, none⟩) cap (l.length + 1) ((idxL l.length).map (ptrV (bk A) (ofs A))), blk pc c.cells 23]) (fun k => k ≤ l.length + 1) (fun k => l.length + 1 - k) 0 (Nat.zero_le _) ?_ (hE := ⟨rfl, by rw [List.take_zero, List.all_nil, Bool.and_true]; rfl, trivial⟩)
      intro j hj3
      repeat' (first | refine d1 ?_ | refine dd ?_ | (show ∀ _ : Nat, T _ _ _ _ _; intro _))
      refine T_if rfl (fun h6 => ?_) (fun h6 => ?_)
      · simp only [decide_eq_true_eq] at h6
        obtain ⟨x, hx, hmx⟩ := idxL_get (n := l.length) (i := j) (by omega)
        have q1 := costO_bd hc (elt l a) (elt l b)
        have q2 := costO_bd hc (elt l a) (elt l x)
        have q3 := costO_bd hc (elt l x) (elt l b)
        repeat' (first | refine d1 ?_ | refine dd ?_ | (show T _ (.ops _ (_ :: _) :: _) _ _ _; first | refine T_val rfl (Val.load rfl (fun hg => rdRow (A := some ⟨g, 0, none⟩) (vs := [ptrV (bk A) (ofs A) x]) (by omega) (get1 (hget hx)))) rfl rfl rfl ?_ | refine T_valC rfl (Val.load rfl (fun hg => rdRow (A := some ⟨g, 0, none⟩) (vs := [ptrV (bk A) (ofs A) x]) (by omega) (get1 (hget hx)))) rfl rfl rfl rfl rfl ?_ | refine T_call rfl rfl rfl rfl rfl (fun w hw => metric1_spec c l _ _ a b pc w (hst.cls ‹_›) hc hk hsm (hrA ‹_›) (fun _ => idxL_lt hma) (fun _ => idxL_lt hmb) (rdAll w ‹_›)) ?_ | refine T_callC rfl rfl rfl rfl rfl rfl rfl (fun hg w hw => metric1_spec c l _ _ a b pc w (hst.cls ‹_›) hc hk hsm (hrA ‹_›) (fun _ => idxL_lt hma) (fun _ => idxL_lt hmb) (rdAll w ‹_›)) ?_ | refine T_call rfl rfl rfl rfl rfl (fun w hw => metric1_spec c l _ _ a x pc w (hst.cls ‹_›) hc hk hsm (hrA ‹_›) (fun _ => idxL_lt hma) (fun _ => idxL_lt hmx) (rdAll w ‹_›)) ?_ | refine T_callC rfl rfl rfl rfl rfl rfl rfl (fun hg w hw => metric1_spec c l _ _ a x pc w (hst.cls ‹_›) hc hk hsm (hrA ‹_›) (fun _ => idxL_lt hma) (fun _ => idxL_lt hmx) (rdAll w ‹_›)) ?_ | refine T_call rfl rfl rfl rfl rfl (fun w hw => metric1_spec c l _ _ x b pc w (hst.cls ‹_›) hc hk hsm (hrA ‹_›) (fun _ => idxL_lt hmx) (fun _ => idxL_lt hmb) (rdAll w ‹_›)) ?_ | refine T_callC rfl rfl rfl rfl rfl rfl rfl (fun hg w hw => metric1_spec c l _ _ x b pc w (hst.cls ‹_›) hc hk hsm (hrA ‹_›) (fun _ => idxL_lt hmx) (fun _ => idxL_lt hmb) (rdAll w ‹_›)) ?_) | (show T _ (.run _ _ (_ :: _) _ _ :: _) _ _ _; first | refine rv rfl rfl rfl (Val.load rfl (fun hg => rdRow (A := some ⟨g, 0, none⟩) (vs := [ptrV (bk A) (ofs A) x]) (by omega) (get1 (hget hx)))) rfl rfl rfl ?_ | refine rg rfl rfl rfl (Val.load rfl (fun hg => rdRow (A := some ⟨g, 0, none⟩) (vs := [ptrV (bk A) (ofs A) x]) (by omega) (get1 (hget hx)))) rfl rfl rfl rfl rfl ?_ | refine rc rfl rfl rfl rfl rfl rfl rfl (fun w hw => metric1_spec c l _ _ a b pc w (hst.cls ‹_›) hc hk hsm (hrA ‹_›) (fun _ => idxL_lt hma) (fun _ => idxL_lt hmb) (rdAll w ‹_›)) ?_ | refine rcG rfl rfl rfl rfl rfl rfl rfl rfl rfl (fun hg w hw => metric1_spec c l _ _ a b pc w (hst.cls ‹_›) hc hk hsm (hrA ‹_›) (fun _ => idxL_lt hma) (fun _ => idxL_lt hmb) (rdAll w ‹_›)) ?_ | refine rc rfl rfl rfl rfl rfl rfl rfl (fun w hw => metric1_spec c l _ _ a x pc w (hst.cls ‹_›) hc hk hsm (hrA ‹_›) (fun _ => idxL_lt hma) (fun _ => idxL_lt hmx) (rdAll w ‹_›)) ?_ | refine rcG rfl rfl rfl rfl rfl rfl rfl rfl rfl (fun hg w hw => metric1_spec c l _ _ a x pc w (hst.cls ‹_›) hc hk hsm (hrA ‹_›) (fun _ => idxL_lt hma) (fun _ => idxL_lt hmx) (rdAll w ‹_›)) ?_ | refine rc rfl rfl rfl rfl rfl rfl rfl (fun w hw => metric1_spec c l _ _ x b pc w (hst.cls ‹_›) hc hk hsm (hrA ‹_›) (fun _ => idxL_lt hmx) (fun _ => idxL_lt hmb) (rdAll w ‹_›)) ?_ | refine rcG rfl rfl rfl rfl rfl rfl rfl rfl rfl (fun hg w hw => metric1_spec c l _ _ x b pc w (hst.cls ‹_›) hc hk hsm (hrA ‹_›) (fun _ => idxL_lt hmx) (fun _ => idxL_lt hmb) (rdAll w ‹_›)) ?_) | (show ∀ _ : Nat, T _ _ _ _ _; intro _))
        refine T_if rfl (fun h7 => ?_) (fun h7 => ?_)
        · exfalso; simp only [decide_eq_true_eq] at h7; omega
        repeat' (first | refine d1 ?_ | refine dd ?_ | (show ∀ _ : Nat, T _ _ _ _ _; intro _))
        exact T_backX (j + 1) (Nat.succ_le_of_lt (by omega)) (by omega) (hE := ⟨rfl, by rw [all_snoc _ hx, ← Bool.and_assoc]; rfl, trivial⟩)
      · simp only [decide_eq_false_iff_not] at h6
        obtain rfl : j = l.length + 1 := by omega
        repeat' (first | refine d1 ?_ | refine dd ?_ | (show ∀ _ : Nat, T _ _ _ _ _; intro _))
        exact T_backX (k + 1) (Nat.succ_le_of_lt (by omega)) (by omega) (hE := ⟨rfl, by rw [all_snoc _ hb, ← Bool.and_assoc, List.take_of_length_le (l := idxL l.length) (i := l.length + 1) (by rw [idxL_length]; omega)]; rfl, trivial⟩)
    · simp only [decide_eq_false_iff_not] at h5
      obtain rfl : k = l.length + 1 := by omega
      repeat' (first | refine d1 ?_ | refine dd ?_ | (show ∀ _ : Nat, T _ _ _ _ _; intro _))
      exact T_backX (i + 1) (Nat.succ_le_of_lt (by omega)) (by omega) (hE := ⟨rfl, by rw [show w1 c l (i + 1) = (w1 c l i && ((idxL l.length).take (l.length + 1)).all fun b => (idxL l.length).all (tri c l a b)) from by rw [List.take_of_length_le (l := idxL l.length) (i := l.length + 1) (by rw [idxL_length]; omega)]; exact all_snoc _ ha]; rfl, trivial⟩)
  simp only [decide_eq_false_iff_not] at h4
  obtain rfl : i = l.length + 1 := by omega
  rw [w1_all]
  repeat' (first | refine d1 ?_ | refine dd ?_ | (show T _ (.ops _ (_ :: _) :: _) _ _ _; first | refine T_val rfl (Val.eqB rfl) rfl rfl rfl ?_ | refine T_valC rfl (Val.eqB rfl) rfl rfl rfl rfl rfl ?_) | (show T _ (.run _ _ (_ :: _) _ _ :: _) _ _ _; first | refine rv rfl rfl rfl (Val.eqB rfl) rfl rfl rfl ?_ | refine rg rfl rfl rfl (Val.eqB rfl) rfl rfl rfl rfl rfl ?_) | (show ∀ _ : Nat, T _ _ _ _ _; intro _))
  refine T_if rfl (fun h5 => ?_) (fun h5 => ?_)
  · simp at h5
  repeat' (first | refine d1 ?_ | refine dd ?_ | (show ∀ _ : Nat, T _ _ _ _ _; intro _))
  refine T_if rfl (fun h6 => ?_) (fun h6 => ?_)
  · repeat' (first | refine d1 ?_ | refine dd ?_ | (show T _ (.ops _ (_ :: _) :: _) _ _ _; first | refine T_call rfl rfl rfl rfl rfl (fun w hw => awake17_spec w (hst.cls ‹_›)) ?_ | refine T_callC rfl rfl rfl rfl rfl rfl rfl (fun hg w hw => awake17_spec w (hst.cls ‹_›)) ?_) | (show T _ (.run _ _ (_ :: _) _ _ :: _) _ _ _; first | refine rc rfl rfl rfl rfl rfl rfl rfl (fun w hw => awake17_spec w (hst.cls ‹_›)) ?_ | refine rcG rfl rfl rfl rfl rfl rfl rfl rfl rfl (fun hg w hw => awake17_spec w (hst.cls ‹_›)) ?_) | (show ∀ _ : Nat, T _ _ _ _ _; intro _) | (show T _ (.code .ret :: _) _ _ _; refine T_retV [] rfl (Hle.none _) ⟨rfl, rfl⟩))
  simp only [Bool.or_eq_false_iff, Bool.not_eq_false', decide_eq_false_iff_not] at h6
  obtain ⟨t, l', rfl⟩ : ∃ t l', l = t :: l' := by
    cases l with
    | nil => simp at h6
    | cons t l' => exact ⟨t, l', rfl⟩
  have hm1 : metP c (t :: l') := by
    by_cases hm : metP c (t :: l')
    · exact hm
    · rw [metB_false hm] at h6; simp at h6
  have hmv2 : metricV c l' = (true, 0) := by
    unfold metricV
    simp only [List.length_cons] at h8
    rw [if_neg (by rw [hc]; omega), if_neg (by omega), tokErr_all hc (fun _ hj => hk _ (List.mem_cons_of_mem _ (tkA_mem hj))), if_neg (by omega), metB_true (metP_tail hm1)]
  repeat' (first | refine d1 ?_ | refine dd ?_ | (show T _ (.ops _ (_ :: _) :: _) _ _ _; first | refine T_call rfl rfl rfl rfl rfl (fun w hw => metricPrg_spec c (cutA A ca 1 6) l'.length (ca - 1) l' w (hst.cls ‹_›) (rdSrc (src_tail hl hca.1) w ‹_›) rfl (by simp only [List.length_cons] at hnb; omega) (fun t ht => hsm t (List.mem_cons_of_mem _ ht))) ?_ | refine T_callC rfl rfl rfl rfl rfl rfl rfl (fun hg w hw => metricPrg_spec c (cutA A ca 1 6) l'.length (ca - 1) l' w (hst.cls ‹_›) (rdSrc (src_tail hl hca.1) w ‹_›) rfl (by simp only [List.length_cons] at hnb; omega) (fun t ht => hsm t (List.mem_cons_of_mem _ ht))) ?_) | (show T _ (.run _ _ (_ :: _) _ _ :: _) _ _ _; first | refine rc rfl rfl rfl rfl rfl rfl rfl (fun w hw => metricPrg_spec c (cutA A ca 1 6) l'.length (ca - 1) l' w (hst.cls ‹_›) (rdSrc (src_tail hl hca.1) w ‹_›) rfl (by simp only [List.length_cons] at hnb; omega) (fun t ht => hsm t (List.mem_cons_of_mem _ ht))) ?_ | refine rcG rfl rfl rfl rfl rfl rfl rfl rfl rfl (fun hg w hw => metricPrg_spec c (cutA A ca 1 6) l'.length (ca - 1) l' w (hst.cls ‹_›) (rdSrc (src_tail hl hca.1) w ‹_›) rfl (by simp only [List.length_cons] at hnb; omega) (fun t ht => hsm t (List.mem_cons_of_mem _ ht))) ?_) | (show ∀ _ : Nat, T _ _ _ _ _; intro _))
  rw [hmv2]
  repeat' (first | refine d1 ?_ | refine dd ?_ | (show T _ (.ops _ (_ :: _) :: _) _ _ _; first | refine T_call rfl rfl rfl rfl rfl (fun w hw => awake17_spec w (hst.cls ‹_›)) ?_ | refine T_callC rfl rfl rfl rfl rfl rfl rfl (fun hg w hw => awake17_spec w (hst.cls ‹_›)) ?_) | (show T _ (.run _ _ (_ :: _) _ _ :: _) _ _ _; first | refine rc rfl rfl rfl rfl rfl rfl rfl (fun w hw => awake17_spec w (hst.cls ‹_›)) ?_ | refine rcG rfl rfl rfl rfl rfl rfl rfl rfl rfl (fun hg w hw => awake17_spec w (hst.cls ‹_›)) ?_) | (show ∀ _ : Nat, T _ _ _ _ _; intro _) | (show T _ (.code .ret :: _) _ _ _; refine T_retV [] rfl (Hle.none _) ⟨rfl, rfl⟩))
theorem metric_met (os : Os) (args : Array Value) : laidMetH Tryd.prog Rows.tokencostMetricRow.laid ((World.doorLaid Tryd.prog 400 os).forCall (fun _ _ => 0) ⟨#[], args, []⟩).memory :=
  laidMetH_of_parts3 (fuel := 8) (laidMet_of_run' 8 (by kernel_rfl) (by kernel_rfl)) (by kernel_rfl) (by kernel_rfl)
theorem metric_lifted (os : Os) (started : os.Started) (H : Type) (enc : TypeId × Value → H) :
    ReturnsInHanded {} Tryd.checked os 8 .any (fun w args => (Rows.tokencostMetricSpec.pre enc Tryd.prog Tryd.f8 [] false w args ∧ laidMetH Tryd.prog Rows.tokencostMetricRow.laid w) ∧ sizedMet enc Tryd.prog Tryd.f8 (OpenSpec.ofChange Rows.tokencostMetricSpec) false w args)
      (Rows.tokencostMetricSpec.post enc Tryd.prog Tryd.f8 false true false false) := by
  refine returnsInHanded_of_change_and (C := Tryd.checked) (X := fun w _ => laidMetH Tryd.prog Rows.tokencostMetricRow.laid w) (fun _ _ _ hh h => h.of_heap hh) knob started (by kernel_rfl) Tryd.func8
    (ChangeSpec.witness_shaped (enc := enc) (C := Tryd.checked) (os := os) (X := fun w _ => laidMetH Tryd.prog Rows.tokencostMetricRow.laid w) false (World.doorLaid Tryd.prog 400 os) #[(⟨0, 0, 0, 0⟩ : Costs).val, .slice none 0 0] 8 rfl (World.shaped_of_RefB (by kernel_rfl) (by kernel_rfl)) (by kernel_rfl) (by kernel_rfl) (by kernel_rfl) (metric_met os _)) ?_
  intro W base args ds gs before hval0 hW _ _ hL _
  have hval : ∀ (j : Nat) t v, Tryd.f8.params[j]? = some t → args[j]? = some v → Value.okWide Tryd.prog W .any base t v := hval0
  have hstd := std_of (show laidMetH Tryd.prog laids W from hL)
  have hW' := hW
  obtain ⟨p, q, hA0, hV, rfl, hfz, hnd⟩ := hW
  have hA : DataW.TrodAll enc Tryd.prog W 0 (fun _ => true) true Tryd.f8.params.toList args.toList ds p := hA0
  obtain ⟨v0, vs0, d0, ds0, p0, q0, e0, rfl, rfl, h0, hA⟩ := trodAll_cons hA
  obtain ⟨v1, vs1, d1, ds1, p1, q1, rfl, rfl, rfl, h1, hA⟩ := trodAll_cons hA
  obtain ⟨rfl, rfl, rfl⟩ := trodAll_nil hA
  have ea : args = #[v0, v1] := Array.ext' e0
  subst ea
  obtain ⟨c, rfl⟩ := arg_costs (hval 0 _ v0 rfl rfl) h0
  obtain ⟨A_l, cap_l, l, rfl, hb_l, hs_l, hc_l⟩ := arg_toksC (hval 1 _ v1 rfl rfl) h1
  refine (metricLaw_spec c A_l cap_l l W hstd hs_l hb_l hc_l).calls.mono ?_
  rintro e W' ⟨v, A, rfl, ⟨rfl, _⟩, hb, _⟩
  exact ⟨_, rfl, law_post hW' rfl rfl laidOk (by intro t ht; simp only [show Tryd.f8.params.toList = [23, 29] from rfl, List.mem_cons, List.mem_nil_iff, or_false] at ht; rcases ht with rfl | rfl <;> exact ⟨by kernel_rfl, of_decide_eq_true (by kernel_rfl)⟩) rfl Tryd.underlying4 hb⟩
theorem metric_holds : Rows.TokencostMetricSaid :=
  OpenClaim.holds_of_wide 8 Tryd.f8 rfl rfl rfl rfl rfl rfl rfl ⟨rfl, rfl, rfl, rfl, rfl⟩ rfl rfl rfl rfl rfl (by kernel_rfl) Tryd.func8 (by kernel_rfl)
    (of_decide_eq_true (by kernel_rfl)) (by unfold Func.isWrapper; first | (rw [if_pos (by decide +kernel)]; kernel_rfl) | (rw [if_neg (by decide +kernel)]; exact ⟨rfl, rfl⟩))
    (fun os started H enc _ => metric_lifted os started H enc)
theorem metric_card : Rows.TokencostMetricCardSaid :=
  Claim7.holds_tied_plain_at .later [] [.data, .data, .data, .sentinel, .sentinel] true (true, "28692782097a374b4e0f7a632efec21f45e145e988e45c574558877b0063dbc4") true
    metric_holds (fun _ h => by cases h) (by kernel_rfl) (fun _ h => by cases h) tokencostMetric_row_tie rfl ⟨rfl, rfl⟩ (by kernel_rfl) rfl
    (fun f fn hf hfn => by
      obtain rfl : f = 8 := Option.some.inj ((show Tryd.prog.funcNamed "apograph/apographlaw17.TokencostMetric" = some 8 by kernel_rfl).symm.trans hf) |>.symm
      obtain rfl : fn = Tryd.f8 := (Option.some.inj (Tryd.func8.symm.trans hfn)).symm
      exact ⟨by kernel_rfl, fun j t ht => by
        have ht' : [23, 29][j]? = some t := by rw [Tryd.params8] at ht; simpa using ht
        have hm := List.mem_of_getElem? ht'
        simp only [List.mem_cons, List.mem_nil_iff, or_false] at hm
        rcases hm with rfl | rfl <;> exact (show Tryd.prog.wantsStandIn _ = false by kernel_rfl)⟩)
    (by kernel_rfl)
#print axioms metric_card
end Go.Proofs.YtiglobijdegjdaaDoor
