/- Walks: pairs of sources: the reference's distances and tables; what the laws of chapter 18 take for valid. -/
import Derived.Test.YtmcgificpaeipaaGreatDoorJ2
import Derived.Deep.Slices
import Derived.OpenShut
import Derived.ChangeSame
import Derived.ProofKit
import Derived.Stop.LaidErr
import Derived.LaidMore
import Derived.Below
import Derived.Stop.Joined
import Derived.Test.YtmcgificpaeipaaGreatDoorRows
set_option linter.unusedVariables false
set_option linter.unusedSimpArgs false
namespace Go.Proofs.YtmcgificpaeipaaGreatDoor
open Go.RowKit Go.Shelf Go.Proofs
set_option maxRecDepth 100000
set_option maxHeartbeats 1000000

theorem distanceRef18_spec (c : Costs) (A B : Option Addr) (n m ca cb : Nat) (a b : List Tok) (w : World) (h2 : Two w A B n m a b) :
    Spec Tryz.prog 18 [c.val, .slice A n ca, .slice B m cb] w (fun v R => v = .tuple #[.int .i64 (distV c a b).1, .int .i64 (distV c a b).2] ∧ R = []) := by
  refine spec_of sg Tryz.func18 rfl rfl rfl ?_
  refine T_op (OpT.box (cs := c.cells) rfl rfl rfl rfl rfl rfl rfl (fun pc => ?_))
  repeat' (first | refine d1 ?_ | refine dd ?_ | (show T _ (.ops _ (_ :: _) :: _) _ _ _; first | refine T_call rfl rfl rfl rfl rfl (fun w hw => ck18_spec c A B n m ca cb a b w (h2.cls hw)) ?_ | refine T_callC rfl rfl rfl rfl rfl rfl rfl (fun hg w hw => ck18_spec c A B n m ca cb a b w (h2.cls hw)) ?_) | (show T _ (.run _ _ (_ :: _) _ _ :: _) _ _ _; first | refine rc rfl rfl rfl rfl rfl rfl rfl (fun w hw => ck18_spec c A B n m ca cb a b w (h2.cls hw)) ?_ | refine rcG rfl rfl rfl rfl rfl rfl rfl rfl rfl (fun hg w hw => ck18_spec c A B n m ca cb a b w (h2.cls hw)) ?_) | (show ∀ _ : Nat, T _ _ _ _ _; intro _))
  refine T_if rfl (fun h => ?_) (fun h => ?_)
  · simp only [Bool.not_eq_true', decide_eq_false_iff_not] at h
    have e : distV c a b = (0, 1) := if_neg h
    have e1 := (ckV_01 c a b).resolve_left h
    rw [e, e1]
    repeat' (first | refine d1 ?_ | refine dd ?_ | (show ∀ _ : Nat, T _ _ _ _ _; intro _) | (show T _ (.code .ret :: _) _ _ _; refine T_retV [] rfl (Hle.none _) ⟨rfl, rfl⟩))
  · simp only [Bool.not_eq_false', decide_eq_true_eq] at h
    have e : distV c a b = (rst (grdOf c a b) 0 0, 0) := if_pos h
    rw [e]
    repeat' (first | refine d1 ?_ | refine dd ?_ | (show T _ (.ops _ (_ :: _) :: _) _ _ _; refine T_op (OpT.call rfl rfl rfl rfl rfl (fun w hw => table18_spec c A B n m ca cb a b w (h2.cls hw) h) ?_)) | (show ∀ _ : Nat, T _ _ _ _ _; intro _))
    rintro v R ⟨x, -, rfl, rfl⟩
    refine T_le (H' := [dat [v] [rowsD (tabR n m (rst (grdOf c a b)))], blk pc c.cells 23]) (Hle.refl _) ?_
    refine T_open fun p hp => ?_
    obtain ⟨At, capt, cs, rfl, -, -, -, hA, hrows⟩ := hp.tab
    rw [tabR_length] at hA ⊢
    obtain ⟨bt, ot, rfl, hb⟩ := hA (by omega)
    obtain ⟨Ar, capr, hcs, -, -, hA'⟩ := hrows.tabRow (tabR_get (Nat.zero_le n))
    rw [List.length_map, List.length_range] at hcs hA'
    obtain ⟨br, orr, rfl, hb'⟩ := hA' (by omega)
    repeat' (first | refine d1 ?_ | refine dd ?_ | (show T _ (.ops _ (_ :: _) :: _) _ _ _; first | refine T_val rfl (Val.load rfl (fun hg => rdFz (p := p) (u := .slice (some ⟨br, orr, none⟩) (m + 1) capr) (b := bt) (hb 0 _ hcs))) rfl rfl rfl ?_ | refine T_valC rfl (Val.load rfl (fun hg => rdFz (p := p) (u := .slice (some ⟨br, orr, none⟩) (m + 1) capr) (b := bt) (hb 0 _ hcs))) rfl rfl rfl rfl rfl ?_ | refine T_val rfl (Val.load rfl (fun hg => rdFz (p := p) (u := .int .i64 (rst (grdOf c a b) 0 0)) (b := br) (hb' 0 _ (tabR_cell (Nat.zero_le m))))) rfl rfl rfl ?_ | refine T_valC rfl (Val.load rfl (fun hg => rdFz (p := p) (u := .int .i64 (rst (grdOf c a b) 0 0)) (b := br) (hb' 0 _ (tabR_cell (Nat.zero_le m))))) rfl rfl rfl rfl rfl ?_) | (show T _ (.run _ _ (_ :: _) _ _ :: _) _ _ _; first | refine rv rfl rfl rfl (Val.load rfl (fun hg => rdFz (p := p) (u := .slice (some ⟨br, orr, none⟩) (m + 1) capr) (b := bt) (hb 0 _ hcs))) rfl rfl rfl ?_ | refine rg rfl rfl rfl (Val.load rfl (fun hg => rdFz (p := p) (u := .slice (some ⟨br, orr, none⟩) (m + 1) capr) (b := bt) (hb 0 _ hcs))) rfl rfl rfl rfl rfl ?_ | refine rv rfl rfl rfl (Val.load rfl (fun hg => rdFz (p := p) (u := .int .i64 (rst (grdOf c a b) 0 0)) (b := br) (hb' 0 _ (tabR_cell (Nat.zero_le m))))) rfl rfl rfl ?_ | refine rg rfl rfl rfl (Val.load rfl (fun hg => rdFz (p := p) (u := .int .i64 (rst (grdOf c a b) 0 0)) (b := br) (hb' 0 _ (tabR_cell (Nat.zero_le m))))) rfl rfl rfl rfl rfl ?_) | (show ∀ _ : Nat, T _ _ _ _ _; intro _) | (show T _ (.code .ret :: _) _ _ _; refine T_retV [] rfl (Hle.none _) ⟨rfl, rfl⟩))
theorem tableRef18_spec (c : Costs) (A B : Option Addr) (n m ca cb : Nat) (a b : List Tok) (w : World) (h2 : Two w A B n m a b) :
    Spec Tryz.prog 19 [c.val, .slice A n ca, .slice B m cb] w (fun v R => ∃ x : Value, True ∧ v = .tuple #[x, .int .i64 (tableV c a b).2] ∧ R = [dat [x] [rowsD (tableV c a b).1]]) := by
  refine spec_of sg Tryz.func19 rfl rfl rfl ?_
  refine T_op (OpT.box (cs := c.cells) rfl rfl rfl rfl rfl rfl rfl (fun pc => ?_))
  have hnil : ∀ H : List HA, Hle H [dat [.slice none 0 0] [rowsD []]] := fun H => (hle_unit (B := dat [.slice none 0 0] [rowsD []]) (.s none 0 0 1 [] rfl (Nat.le_refl _) (by omega) (fun h => absurd h (by omega)) .nil .nil)).trans Hle.sub
  repeat' (first | refine d1 ?_ | refine dd ?_ | (show T _ (.ops _ (_ :: _) :: _) _ _ _; first | refine T_call rfl rfl rfl rfl rfl (fun w hw => ck18_spec c A B n m ca cb a b w (h2.cls hw)) ?_ | refine T_callC rfl rfl rfl rfl rfl rfl rfl (fun hg w hw => ck18_spec c A B n m ca cb a b w (h2.cls hw)) ?_) | (show T _ (.run _ _ (_ :: _) _ _ :: _) _ _ _; first | refine rc rfl rfl rfl rfl rfl rfl rfl (fun w hw => ck18_spec c A B n m ca cb a b w (h2.cls hw)) ?_ | refine rcG rfl rfl rfl rfl rfl rfl rfl rfl rfl (fun hg w hw => ck18_spec c A B n m ca cb a b w (h2.cls hw)) ?_) | (show ∀ _ : Nat, T _ _ _ _ _; intro _))
  refine T_if rfl (fun h => ?_) (fun h => ?_)
  · simp only [Bool.not_eq_true', decide_eq_false_iff_not] at h
    have e : tableV c a b = ([], 1) := if_neg h
    have e1 := (ckV_01 c a b).resolve_left h
    rw [e, e1]
    repeat' (first | refine d1 ?_ | refine dd ?_ | (show ∀ _ : Nat, T _ _ _ _ _; intro _) | (show T _ (.code .ret :: _) _ _ _; refine T_retV _ rfl (hnil _) ⟨_, trivial, rfl, rfl⟩))
  · simp only [Bool.not_eq_false', decide_eq_true_eq] at h
    have e : tableV c a b = (tabR n m (rst (grdOf c a b)), 0) := by unfold tableV; rw [if_pos h, h2.hn, h2.hm]
    rw [e]
    repeat' (first | refine d1 ?_ | refine dd ?_ | (show T _ (.ops _ (_ :: _) :: _) _ _ _; refine T_op (OpT.call rfl rfl rfl rfl rfl (fun w hw => table18_spec c A B n m ca cb a b w (h2.cls hw) h) ?_)) | (show ∀ _ : Nat, T _ _ _ _ _; intro _))
    rintro v R ⟨x, -, rfl, rfl⟩
    repeat' (first | refine d1 ?_ | refine dd ?_ | (show ∀ _ : Nat, T _ _ _ _ _; intro _) | (show T _ (.code .ret :: _) _ _ _; refine T_retV _ rfl (Hle.nth 0 rfl) ⟨_, trivial, rfl, rfl⟩))
/-- A slice of tokens, with what it holds. -/
structure TS where
  A : Option Addr
  n : Nat
  cap : Nat
  l : List Tok
@[reducible] def TS.val (t : TS) : Value := .slice t.A t.n t.cap
theorem indexFuncS_spec (A : Option Addr) (n c : Nat) (l : List TS) (f : FuncId) (fs cs : List Value) (p : TS → Bool) (w : World) (hs : Src w 1 A n (l.map TS.val)) (hn : l.length = n) (hb : n ≤ 9223372036854775807)
    (hf : ∀ x ∈ l, ∀ w', Below w.heap.size w w' → Spec Tryz.prog f (fs ++ (x.val :: cs)) w' (fun v A => v = .bool (p x) ∧ A = [])) :
    Spec Tryz.prog 69 [.slice A n c, .func (.func f) fs.toArray cs.toArray] w (fun v A => v = .int .i64 (findI p l) ∧ A = []) := by
  refine spec_of sg Tryz.func69 rfl rfl rfl ?_
  repeat' (first | refine d1 ?_ | refine dd ?_ | (show ∀ _ : Nat, T _ _ _ _ _; intro _))
  refine T_loop (fun k : Nat => [(0, .slice A n c), (1, .func (.func f) fs.toArray cs.toArray), (7, .int .i64 n), (8, .int .i64 k)]) (fun _ => []) (fun k => k ≤ n ∧ ∀ i x, i < k → l[i]? = some x → p x = false) (fun k => n - k) 0 ⟨Nat.zero_le _, fun i x h => by omega⟩ ⟨rfl, rfl, rfl, rfl, trivial⟩ (Hle.refl _) ?_
  rintro k ⟨hk, hok⟩
  repeat' (first | refine d1 ?_ | refine dd ?_ | (show ∀ _ : Nat, T _ _ _ _ _; intro _))
  refine T_if rfl (fun h => ?_) (fun h => ?_)
  · simp only [decide_eq_true_eq] at h
    have hkn : k < n := by omega
    obtain ⟨b, o, rfl⟩ := hs.base (by omega)
    obtain ⟨x, hx⟩ : ∃ x, l[k]? = some x := ⟨_, List.getElem?_eq_getElem (by omega)⟩
    repeat' (first | refine d1 ?_ | refine dd ?_ | (show ∀ _ : Nat, T _ _ _ _ _; intro _))
    refine T_load (v := x.val) rfl rfl rfl rfl rfl (rdOld ?_) ?_
    · exact (hs.get1 hkn (by rw [List.getElem?_map, hx]; rfl)).2
    repeat' (first | refine d1 ?_ | refine dd ?_ | (show T _ (.ops _ (_ :: _) :: _) _ _ _; first | refine T_call rfl rfl rfl rfl rfl (fun w hw => hf x (List.mem_of_getElem? hx) w hw.below) ?_ | refine T_callC rfl rfl rfl rfl rfl rfl rfl (fun hg w hw => hf x (List.mem_of_getElem? hx) w hw.below) ?_) | (show T _ (.run _ _ (_ :: _) _ _ :: _) _ _ _; first | refine rc rfl rfl rfl rfl rfl rfl rfl (fun w hw => hf x (List.mem_of_getElem? hx) w hw.below) ?_ | refine rcG rfl rfl rfl rfl rfl rfl rfl rfl rfl (fun hg w hw => hf x (List.mem_of_getElem? hx) w hw.below) ?_) | (show ∀ _ : Nat, T _ _ _ _ _; intro _))
    refine T_if rfl (fun h1 => ?_) (fun h1 => ?_)
    · repeat' (first | refine d1 ?_ | refine dd ?_ | (show ∀ _ : Nat, T _ _ _ _ _; intro _) | (show T _ (.code .ret :: _) _ _ _; refine T_retV [] rfl (Hle.refl _) ⟨congrArg (Value.int .i64) ?_, rfl⟩))
      exact (findI_some hx h1 hok).symm
    · repeat' (first | refine d1 ?_ | refine dd ?_ | (show ∀ _ : Nat, T _ _ _ _ _; intro _))
      refine T_back (k + 1) ⟨by omega, fun i y hi hy => ?_⟩ (by omega) ⟨rfl, rfl, rfl, rfl, trivial⟩ (Hle.refl _)
      rcases Nat.lt_or_ge i k with h2 | h2
      · exact hok i y h2 hy
      · rw [show i = k by omega, hx] at hy
        cases hy
        exact h1
  · simp only [decide_eq_false_iff_not] at h
    repeat' (first | refine d1 ?_ | refine dd ?_ | (show ∀ _ : Nat, T _ _ _ _ _; intro _) | (show T _ (.code .ret :: _) _ _ _; refine T_retV [] rfl (Hle.refl _) ⟨congrArg (Value.int .i64) ?_, rfl⟩))
    exact (findI_none (fun i x hi => hok i x (by have := (List.getElem?_eq_some_iff.1 hi).1; omega) hi)).symm
theorem containsFuncS_spec (A : Option Addr) (n c : Nat) (l : List TS) (f : FuncId) (fs cs : List Value) (p : TS → Bool) (w : World) (hs : Src w 1 A n (l.map TS.val)) (hn : l.length = n) (hb : n ≤ 9223372036854775807)
    (hf : ∀ x ∈ l, ∀ w', Below w.heap.size w w' → Spec Tryz.prog f (fs ++ (x.val :: cs)) w' (fun v A => v = .bool (p x) ∧ A = [])) :
    Spec Tryz.prog 40 [.slice A n c, .func (.func f) fs.toArray cs.toArray] w (fun v A => v = .bool (l.any p) ∧ A = []) := by
  refine spec_of sg Tryz.func40 rfl rfl rfl ?_
  repeat' (first | refine d1 ?_ | refine dd ?_ | (show T _ (.ops _ (_ :: _) :: _) _ _ _; first | refine T_call rfl rfl rfl rfl rfl (fun w hw => indexFuncS_spec A n c l f fs cs p w (rdSrc hs w hw) hn hb (fun x hx w' hb' => hf x hx w' (hw.below.trans (hb'.mono hw.below.size)))) ?_ | refine T_callC rfl rfl rfl rfl rfl rfl rfl (fun hg w hw => indexFuncS_spec A n c l f fs cs p w (rdSrc hs w hw) hn hb (fun x hx w' hb' => hf x hx w' (hw.below.trans (hb'.mono hw.below.size)))) ?_) | (show T _ (.run _ _ (_ :: _) _ _ :: _) _ _ _; first | refine rc rfl rfl rfl rfl rfl rfl rfl (fun w hw => indexFuncS_spec A n c l f fs cs p w (rdSrc hs w hw) hn hb (fun x hx w' hb' => hf x hx w' (hw.below.trans (hb'.mono hw.below.size)))) ?_ | refine rcG rfl rfl rfl rfl rfl rfl rfl rfl rfl (fun hg w hw => indexFuncS_spec A n c l f fs cs p w (rdSrc hs w hw) hn hb (fun x hx w' hb' => hf x hx w' (hw.below.trans (hb'.mono hw.below.size)))) ?_) | (show ∀ _ : Nat, T _ _ _ _ _; intro _) | (show T _ (.code .ret :: _) _ _ _; refine T_retV [] rfl (Hle.refl _) ⟨congrArg Value.bool ?_, rfl⟩))
  exact findI_any p l
/-- What is known of slices of tokens. -/
structure TsOk (w : World) (l : List TS) : Prop where
  src : ∀ t ∈ l, Src w 6 t.A t.n (t.l.flatMap Tok.cells)
  len : ∀ t ∈ l, t.l.length = t.n
  bd : ∀ t ∈ l, t.n ≤ 9223372036854775807
theorem src_below {w w' : World} {sz n : Nat} {A : Option Addr} {xs : List Value} (h : Src w sz A n xs) (hb : Below w.heap.size w w') : Src w' sz A n xs := ⟨h.1, fun q => ⟨(h.2 q).1, (h.2 q).2.below hb⟩⟩
theorem great18L_spec (A : Option Addr) (n c : Nat) (l : List TS) (w : World) (hs : Src w 1 A n (l.map TS.val)) (hn : l.length = n) (hb : n ≤ 9223372036854775807) (hl : TsOk w l) :
    Spec Tryz.prog 15 [.slice A n c] w (fun v R => v = .bool (l.any fun t => great18B t.l) ∧ R = []) := by
  refine spec_of sg Tryz.func15 rfl rfl rfl ?_
  repeat' (first | refine d1 ?_ | refine dd ?_ | (show T _ (.ops _ (_ :: _) :: _) _ _ _; first | refine T_call rfl rfl rfl rfl rfl (fun w hw => containsFuncS_spec A n c l _ [] [] (fun t => great18B t.l) w (rdSrc hs w hw) hn hb (fun x hx w' hb' => great18_spec x.A x.n x.cap x.l w' (src_below (hl.src x hx) (hw.below.trans (hb'.mono hw.below.size))) (hl.len x hx) (hl.bd x hx))) ?_ | refine T_callC rfl rfl rfl rfl rfl rfl rfl (fun hg w hw => containsFuncS_spec A n c l _ [] [] (fun t => great18B t.l) w (rdSrc hs w hw) hn hb (fun x hx w' hb' => great18_spec x.A x.n x.cap x.l w' (src_below (hl.src x hx) (hw.below.trans (hb'.mono hw.below.size))) (hl.len x hx) (hl.bd x hx))) ?_) | (show T _ (.run _ _ (_ :: _) _ _ :: _) _ _ _; first | refine rc rfl rfl rfl rfl rfl rfl rfl (fun w hw => containsFuncS_spec A n c l _ [] [] (fun t => great18B t.l) w (rdSrc hs w hw) hn hb (fun x hx w' hb' => great18_spec x.A x.n x.cap x.l w' (src_below (hl.src x hx) (hw.below.trans (hb'.mono hw.below.size))) (hl.len x hx) (hl.bd x hx))) ?_ | refine rcG rfl rfl rfl rfl rfl rfl rfl rfl rfl (fun hg w hw => containsFuncS_spec A n c l _ [] [] (fun t => great18B t.l) w (rdSrc hs w hw) hn hb (fun x hx w' hb' => great18_spec x.A x.n x.cap x.l w' (src_below (hl.src x hx) (hw.below.trans (hb'.mono hw.below.size))) (hl.len x hx) (hl.bd x hx))) ?_) | (show ∀ _ : Nat, T _ _ _ _ _; intro _) | (show T _ (.code .ret :: _) _ _ _; refine T_retV [] rfl (Hle.none _) ⟨rfl, rfl⟩))
theorem fine18aa_spec (t : Tok) (w : World) : Spec Tryz.prog 42 [t.val] w (fun v A => v = .bool (!decide (tokE t = 0)) ∧ A = []) := by
  refine spec_of sg Tryz.func42 rfl rfl rfl ?_
  repeat' (first | (show T _ (.ops _ (⟨_, .box _ _, _, _, _, _⟩ :: _) :: _) _ _ _; refine T_op (OpT.box (cs := t.cells) rfl rfl rfl rfl rfl rfl rfl (fun _ => ?_))) | refine d1 ?_ | refine dd ?_ | (show T _ (.ops _ (_ :: _) :: _) _ _ _; first | refine T_call rfl rfl rfl rfl rfl (fun w hw => tokRef_spec t w) ?_ | refine T_callC rfl rfl rfl rfl rfl rfl rfl (fun hg w hw => tokRef_spec t w) ?_) | (show T _ (.run _ _ (_ :: _) _ _ :: _) _ _ _; first | refine rc rfl rfl rfl rfl rfl rfl rfl (fun w hw => tokRef_spec t w) ?_ | refine rcG rfl rfl rfl rfl rfl rfl rfl rfl rfl (fun hg w hw => tokRef_spec t w) ?_) | (show ∀ _ : Nat, T _ _ _ _ _; intro _) | (show T _ (.code .ret :: _) _ _ _; refine T_retV [] rfl (Hle.none _) ⟨rfl, rfl⟩))
theorem fine18a_spec (A : Option Addr) (n c : Nat) (l : List Tok) (w : World) (hs : Src w 6 A n (l.flatMap Tok.cells)) (hn : l.length = n) (hb : n ≤ 9223372036854775807) :
    Spec Tryz.prog 41 [.slice A n c] w (fun v R => v = .bool (badL l) ∧ R = []) := by
  refine spec_of sg Tryz.func41 rfl rfl rfl ?_
  repeat' (first | refine d1 ?_ | refine dd ?_ | (show T _ (.ops _ (_ :: _) :: _) _ _ _; first | refine T_call rfl rfl rfl rfl rfl (fun w hw => containsFuncT_spec A n c l _ [] [] (fun t => !decide (tokE t = 0)) w (rdSrc hs w hw) hn hb (fun x hx w' hb' => fine18aa_spec x w')) ?_ | refine T_callC rfl rfl rfl rfl rfl rfl rfl (fun hg w hw => containsFuncT_spec A n c l _ [] [] (fun t => !decide (tokE t = 0)) w (rdSrc hs w hw) hn hb (fun x hx w' hb' => fine18aa_spec x w')) ?_) | (show T _ (.run _ _ (_ :: _) _ _ :: _) _ _ _; first | refine rc rfl rfl rfl rfl rfl rfl rfl (fun w hw => containsFuncT_spec A n c l _ [] [] (fun t => !decide (tokE t = 0)) w (rdSrc hs w hw) hn hb (fun x hx w' hb' => fine18aa_spec x w')) ?_ | refine rcG rfl rfl rfl rfl rfl rfl rfl rfl rfl (fun hg w hw => containsFuncT_spec A n c l _ [] [] (fun t => !decide (tokE t = 0)) w (rdSrc hs w hw) hn hb (fun x hx w' hb' => fine18aa_spec x w')) ?_) | (show ∀ _ : Nat, T _ _ _ _ _; intro _) | (show T _ (.code .ret :: _) _ _ _; refine T_retV [] rfl (Hle.none _) ⟨rfl, rfl⟩))
def fine18B (c : Costs) (l : List TS) : Bool := !(l.any fun t => great18B t.l) && decide (costE c = 0) && !(l.any fun t => badL t.l)
theorem fine18_spec (c : Costs) (A : Option Addr) (n ca : Nat) (l : List TS) (w : World) (hs : Src w 1 A n (l.map TS.val)) (hn : l.length = n) (hb : n ≤ 9223372036854775807) (hl : TsOk w l) :
    Spec Tryz.prog 11 [c.val, .slice A n ca] w (fun v R => v = .bool (fine18B c l) ∧ R = []) := by
  refine spec_of sg Tryz.func11 rfl rfl rfl ?_
  repeat' (first | (show T _ (.ops _ (⟨_, .box _ _, _, _, _, _⟩ :: _) :: _) _ _ _; refine T_op (OpT.box (cs := c.cells) rfl rfl rfl rfl rfl rfl rfl (fun _ => ?_))) | refine d1 ?_ | refine dd ?_ | (show T _ (.ops _ (_ :: _) :: _) _ _ _; first | refine T_call rfl rfl rfl rfl rfl (fun w hw => costRef_spec c w) ?_ | refine T_callC rfl rfl rfl rfl rfl rfl rfl (fun hg w hw => costRef_spec c w) ?_ | refine T_call rfl rfl rfl rfl rfl (fun w hw => great18L_spec A n ca l w (rdSrc hs w hw) hn hb ⟨fun t ht => src_below (hl.src t ht) hw.below, hl.len, hl.bd⟩) ?_ | refine T_callC rfl rfl rfl rfl rfl rfl rfl (fun hg w hw => great18L_spec A n ca l w (rdSrc hs w hw) hn hb ⟨fun t ht => src_below (hl.src t ht) hw.below, hl.len, hl.bd⟩) ?_ | refine T_call rfl rfl rfl rfl rfl (fun w hw => containsFuncS_spec A n ca l _ [] [] (fun t => badL t.l) w (rdSrc hs w hw) hn hb (fun x hx w' hb' => fine18a_spec x.A x.n x.cap x.l w' (src_below (hl.src x hx) (hw.below.trans (hb'.mono hw.below.size))) (hl.len x hx) (hl.bd x hx))) ?_ | refine T_callC rfl rfl rfl rfl rfl rfl rfl (fun hg w hw => containsFuncS_spec A n ca l _ [] [] (fun t => badL t.l) w (rdSrc hs w hw) hn hb (fun x hx w' hb' => fine18a_spec x.A x.n x.cap x.l w' (src_below (hl.src x hx) (hw.below.trans (hb'.mono hw.below.size))) (hl.len x hx) (hl.bd x hx))) ?_) | (show T _ (.run _ _ (_ :: _) _ _ :: _) _ _ _; first | refine rc rfl rfl rfl rfl rfl rfl rfl (fun w hw => costRef_spec c w) ?_ | refine rcG rfl rfl rfl rfl rfl rfl rfl rfl rfl (fun hg w hw => costRef_spec c w) ?_ | refine rc rfl rfl rfl rfl rfl rfl rfl (fun w hw => great18L_spec A n ca l w (rdSrc hs w hw) hn hb ⟨fun t ht => src_below (hl.src t ht) hw.below, hl.len, hl.bd⟩) ?_ | refine rcG rfl rfl rfl rfl rfl rfl rfl rfl rfl (fun hg w hw => great18L_spec A n ca l w (rdSrc hs w hw) hn hb ⟨fun t ht => src_below (hl.src t ht) hw.below, hl.len, hl.bd⟩) ?_ | refine rc rfl rfl rfl rfl rfl rfl rfl (fun w hw => containsFuncS_spec A n ca l _ [] [] (fun t => badL t.l) w (rdSrc hs w hw) hn hb (fun x hx w' hb' => fine18a_spec x.A x.n x.cap x.l w' (src_below (hl.src x hx) (hw.below.trans (hb'.mono hw.below.size))) (hl.len x hx) (hl.bd x hx))) ?_ | refine rcG rfl rfl rfl rfl rfl rfl rfl rfl rfl (fun hg w hw => containsFuncS_spec A n ca l _ [] [] (fun t => badL t.l) w (rdSrc hs w hw) hn hb (fun x hx w' hb' => fine18a_spec x.A x.n x.cap x.l w' (src_below (hl.src x hx) (hw.below.trans (hb'.mono hw.below.size))) (hl.len x hx) (hl.bd x hx))) ?_) | (show ∀ _ : Nat, T _ _ _ _ _; intro _) | (show T _ (.code .ret :: _) _ _ _; refine T_retV [] rfl (Hle.none _) ⟨rfl, rfl⟩))
end Go.Proofs.YtmcgificpaeipaaGreatDoor
/- Walks: chapter 18: words. -/
namespace Go.Proofs.YtmcgificpaeipaaGreatDoor
open Go.RowKit Go.Shelf Go.Proofs
set_option maxRecDepth 100000
set_option maxHeartbeats 1000000

theorem word18_spec (s : ByteArray) (w : World) : Spec Tryz.prog 44 [.string s] w (fun v R => v = (tokS s).val ∧ R = []) := by
  refine spec_of sg Tryz.func44 rfl rfl rfl ?_
  repeat' (first | refine d1 ?_ | refine dd ?_ | (show ∀ _ : Nat, T _ _ _ _ _; intro _))
  rename_i b
  exact T_retM (vs := [(tokS s).val]) [] ⟨⟨b, _, (tokS s).cells, rfl, rfl, rfl, rfl, (fun h => by cases h), rfl, rdAll⟩, trivial⟩ (Hle.none _) ⟨rfl, rfl⟩
end Go.Proofs.YtmcgificpaeipaaGreatDoor
/- Pairs of sources: the first optimal alignment: plain functions and laws. -/
namespace Go.Proofs.YtmcgificpaeipaaGreatDoor

/-- The first move that is least. -/
def fstM (G : Grd) (i k : Nat) : Option Mv := (mvs G i k).find? fun x => decide (via G i k x = rst G i k)
theorem fstM_ex {G : Grd} {i k : Nat} (h : i < G.n ∨ k < G.m) : ∃ x, fstM G i k = some x := by
  have key : ∃ x ∈ mvs G i k, via G i k x = rst G i k := by
    by_cases hi : i < G.n
    · by_cases hk : k < G.m
      · rw [mvs_both hi hk, rst_both hi hk]
        have e : ∀ x y z : Int, min (min x y) z = x ∨ min (min x y) z = y ∨ min (min x y) z = z := by omega
        rcases e (G.p i k + rst G (i + 1) (k + 1)) (G.g i + rst G (i + 1) k) (G.h k + rst G i (k + 1)) with h | h | h
        · exact ⟨_, List.mem_cons_self .., h.symm⟩
        · exact ⟨_, List.mem_cons_of_mem _ (List.mem_cons_self ..), h.symm⟩
        · exact ⟨_, List.mem_cons_of_mem _ (List.mem_cons_of_mem _ (List.mem_cons_self ..)), h.symm⟩
      · rw [mvs_fst hi hk, rst_fst hi hk]; exact ⟨_, List.mem_cons_self .., rfl⟩
    · have hk : k < G.m := h.resolve_left hi
      rw [mvs_snd hi hk, rst_snd hi hk]; exact ⟨_, List.mem_cons_self .., rfl⟩
  obtain ⟨x, hx, e⟩ := key
  unfold fstM
  cases hf : (mvs G i k).find? (fun x => decide (via G i k x = rst G i k)) with
  | some y => exact ⟨y, rfl⟩
  | none => exact absurd (decide_eq_true e) (by simpa using List.find?_eq_none.1 hf x hx)
theorem fstM_mem {G : Grd} {i k : Nat} {x : Mv} (h : fstM G i k = some x) : x ∈ mvs G i k ∧ via G i k x = rst G i k := by
  unfold fstM at h
  exact ⟨List.mem_of_find?_eq_some h, by simpa using List.find?_some h⟩
def alnF (G : Grd) : Nat → Nat → Nat → List (List Int)
  | 0, _, _ => []
  | f + 1, i, k => match fstM G i k with
    | some x => mvCol i k x :: alnF G f (i + x.fst) (k + x.snd)
    | none => []
/-- The alignment from a place on. -/
def aln (G : Grd) (i k : Nat) : List (List Int) := alnF G ((G.n - i) + (G.m - k)) i k
theorem alnF_end {G : Grd} {i k : Nat} (h : ¬ (i < G.n ∨ k < G.m)) : ∀ f, alnF G f i k = []
  | 0 => rfl
  | f + 1 => by
    unfold alnF
    have : fstM G i k = none := by unfold fstM; rw [mvs_none (by omega) (by omega)]; rfl
    rw [this]
theorem alnF_more {G : Grd} : ∀ (f : Nat) (i k : Nat), (G.n - i) + (G.m - k) ≤ f → alnF G f i k = aln G i k
  | 0, i, k, h => by unfold aln; rw [show (G.n - i) + (G.m - k) = 0 by omega]
  | f + 1, i, k, h => by
    by_cases he : i < G.n ∨ k < G.m
    · obtain ⟨x, hx⟩ := fstM_ex he
      obtain ⟨d, hd⟩ : ∃ d, (G.n - i) + (G.m - k) = d + 1 := ⟨(G.n - i) + (G.m - k) - 1, by omega⟩
      unfold aln
      rw [hd]
      unfold alnF
      rw [hx]
      have hm := mvs_to (fstM_mem hx).1
      simp only
      rw [alnF_more f _ _ (by omega), alnF_more d _ _ (by omega)]
    · rw [alnF_end he]; unfold aln; rw [alnF_end he]
  termination_by f => f
  decreasing_by all_goals omega
theorem aln_step {G : Grd} {i k : Nat} {x : Mv} (h : fstM G i k = some x) : aln G i k = mvCol i k x :: aln G (i + x.fst) (k + x.snd) := by
  have hm := mvs_to (fstM_mem h).1
  rw [← alnF_more ((G.n - i) + (G.m - k) + 1) i k (by omega)]
  unfold alnF
  rw [h]
  simp only
  rw [alnF_more _ _ _ (by omega)]
theorem aln_end {G : Grd} {i k : Nat} (h : ¬ (i < G.n ∨ k < G.m)) : aln G i k = [] := by unfold aln; exact alnF_end h _
end Go.Proofs.YtmcgificpaeipaaGreatDoor
/- Pairs of sources: alignments as lists of columns: what they cost, that none costs less than the least, that tables prove it. No program in sight. -/
namespace Go.Proofs.YtmcgificpaeipaaGreatDoor

/-- The move that a column is. -/
def mvOf (G : Grd) (i k : Nat) (x : List Int) : Option Mv := (mvs G i k).find? fun y => decide (mvCol i k y = x)
theorem mvOf_some {G : Grd} {i k : Nat} {x : List Int} {y : Mv} (h : mvOf G i k x = some y) : y ∈ mvs G i k ∧ mvCol i k y = x := by
  unfold mvOf at h
  exact ⟨List.mem_of_find?_eq_some h, by simpa using List.find?_some h⟩
theorem mvOf_both {G : Grd} {i k : Nat} (hi : i < G.n) (hk : k < G.m) : mvOf G i k [(i : Int), (k : Int)] = some ⟨1, 1, G.p i k⟩ := by
  unfold mvOf; rw [mvs_both hi hk, List.find?_cons_of_pos (by simp [mvCol])]
theorem mvOf_fst {G : Grd} {i k : Nat} (hi : i < G.n) : mvOf G i k [(i : Int), -1] = some ⟨1, 0, G.g i⟩ := by
  unfold mvOf
  by_cases hk : k < G.m
  · rw [mvs_both hi hk, List.find?_cons_of_neg (by simp [mvCol]), List.find?_cons_of_pos (by simp [mvCol])]
  · rw [mvs_fst hi hk, List.find?_cons_of_pos (by simp [mvCol])]
theorem mvOf_snd {G : Grd} {i k : Nat} (hk : k < G.m) : mvOf G i k [-1, (k : Int)] = some ⟨0, 1, G.h k⟩ := by
  unfold mvOf
  by_cases hi : i < G.n
  · rw [mvs_both hi hk, List.find?_cons_of_neg (by simp [mvCol]), List.find?_cons_of_neg (by simp [mvCol]), List.find?_cons_of_pos (by simp [mvCol])]
  · rw [mvs_snd hi hk, List.find?_cons_of_pos (by simp [mvCol])]
theorem mvs_form {G : Grd} {i k : Nat} {y : Mv} (h : y ∈ mvs G i k) : (y = ⟨1, 1, G.p i k⟩ ∧ i < G.n ∧ k < G.m) ∨ (y = ⟨1, 0, G.g i⟩ ∧ i < G.n) ∨ (y = ⟨0, 1, G.h k⟩ ∧ k < G.m) := by
  obtain ⟨f, s, c⟩ := y
  rcases mvs_to h with ⟨h1, h2, h3, h4, h5⟩ | ⟨h1, h2, h3, h5⟩ | ⟨h1, h2, h3, h5⟩
  · exact .inl ⟨by rw [show f = 1 from h1, show s = 1 from h2, show c = _ from h5], h3, h4⟩
  · exact .inr (.inl ⟨by rw [show f = 1 from h1, show s = 0 from h2, show c = _ from h5], h3⟩)
  · exact .inr (.inr ⟨by rw [show f = 0 from h1, show s = 1 from h2, show c = _ from h5], h3⟩)
theorem mvCol11 (i k : Nat) (c : Int) : mvCol i k ⟨1, 1, c⟩ = [(i : Int), (k : Int)] := by simp [mvCol]
theorem mvCol10 (i k : Nat) (c : Int) : mvCol i k ⟨1, 0, c⟩ = [(i : Int), -1] := by simp [mvCol]
theorem mvCol01 (i k : Nat) (c : Int) : mvCol i k ⟨0, 1, c⟩ = [-1, (k : Int)] := by simp [mvCol]
theorem mvOf_mv {G : Grd} {i k : Nat} {y : Mv} (h : y ∈ mvs G i k) : mvOf G i k (mvCol i k y) = some y := by
  rcases mvs_form h with ⟨rfl, h1, h2⟩ | ⟨rfl, h1⟩ | ⟨rfl, h1⟩
  · rw [mvCol11]; exact mvOf_both h1 h2
  · rw [mvCol10]; exact mvOf_fst h1
  · rw [mvCol01]; exact mvOf_snd h1
theorem mvOf_none {G : Grd} {i k : Nat} {x : List Int} (h : ∀ u v : Int, x = [u, v] → (u = i ∧ i < G.n ∨ u = -1) → (v = k ∧ k < G.m ∨ v = -1) → u = -1 ∧ v = -1) : mvOf G i k x = none := by
  cases hs : mvOf G i k x with
  | none => rfl
  | some y =>
    exfalso
    obtain ⟨hm, rfl⟩ := mvOf_some hs
    rcases mvs_form hm with ⟨rfl, h1, h2⟩ | ⟨rfl, h1⟩ | ⟨rfl, h1⟩
    · have := h _ _ (mvCol11 _ _ _) (.inl ⟨rfl, h1⟩) (.inl ⟨rfl, h2⟩); omega
    · have := h _ _ (mvCol10 _ _ _) (.inl ⟨rfl, h1⟩) (.inr rfl); omega
    · have := h _ _ (mvCol01 _ _ _) (.inr rfl) (.inl ⟨rfl, h1⟩); omega
/-- What columns cost that lead from a place to the end; none if they do not. -/
def alnd (G : Grd) : List (List Int) → Nat → Nat → Option Int
  | [], i, k => if i = G.n ∧ k = G.m then some 0 else none
  | x :: l, i, k => match mvOf G i k x with
    | some y => (alnd G l (i + y.fst) (k + y.snd)).map (y.cost + ·)
    | none => none
theorem alnd_cons {G : Grd} {x : List Int} {l : List (List Int)} {i k : Nat} {y : Mv} (h : mvOf G i k x = some y) : alnd G (x :: l) i k = (alnd G l (i + y.fst) (k + y.snd)).map (y.cost + ·) := by
  show (match mvOf G i k x with | some y => _ | none => _) = _
  rw [h]
theorem alnd_bad {G : Grd} {x : List Int} {l : List (List Int)} {i k : Nat} (h : mvOf G i k x = none) : alnd G (x :: l) i k = none := by
  show (match mvOf G i k x with | some y => _ | none => _) = _
  rw [h]
theorem rst_via {G : Grd} {i k : Nat} {y : Mv} (h : y ∈ mvs G i k) : rst G i k ≤ via G i k y := by
  unfold via
  rcases mvs_form h with ⟨rfl, h1, h2⟩ | ⟨rfl, h1⟩ | ⟨rfl, h1⟩
  · exact rst_le_p h1 h2
  · exact rst_le_g h1
  · exact rst_le_h h1
theorem mvs_in {G : Grd} {i k : Nat} {y : Mv} (h : y ∈ mvs G i k) (hi : i ≤ G.n) (hk : k ≤ G.m) : i + y.fst ≤ G.n ∧ k + y.snd ≤ G.m ∧ i + k < i + y.fst + (k + y.snd) := by
  rcases mvs_form h with ⟨rfl, h1, h2⟩ | ⟨rfl, h1⟩ | ⟨rfl, h1⟩ <;> simp only <;> omega
theorem alnd_ge {G : Grd} : ∀ (l : List (List Int)) (i k : Nat) (s : Int), i ≤ G.n → k ≤ G.m → alnd G l i k = some s → rst G i k ≤ s
  | [], i, k, s, hi, hk, h => by
    unfold alnd at h
    split at h
    · rename_i he
      rw [rst_none (by omega) (by omega)]
      have := Option.some.inj h; omega
    · cases h
  | x :: l, i, k, s, hi, hk, h => by
    cases hs : mvOf G i k x with
    | none => rw [alnd_bad hs] at h; cases h
    | some y =>
      rw [alnd_cons hs] at h
      obtain ⟨t, ht, rfl⟩ := Option.map_eq_some_iff.1 h
      have hm := (mvOf_some hs).1
      have hin := mvs_in hm hi hk
      have ih := alnd_ge l _ _ t hin.1 hin.2.1 ht
      have hv := rst_via hm
      unfold via at hv
      omega
theorem alnd_aln (G : Grd) (i k : Nat) (hi : i ≤ G.n) (hk : k ≤ G.m) : alnd G (aln G i k) i k = some (rst G i k) := by
  revert hi hk
  have key : ∀ d i k, (G.n - i) + (G.m - k) ≤ d → i ≤ G.n → k ≤ G.m → alnd G (aln G i k) i k = some (rst G i k) := by
    intro d
    induction d with
    | zero =>
      intro i k hd hi hk
      rw [aln_end (by omega), rst_none (by omega) (by omega)]
      exact if_pos ⟨by omega, by omega⟩
    | succ d ih =>
      intro i k hd hi hk
      by_cases he : i < G.n ∨ k < G.m
      · obtain ⟨x, hx⟩ := fstM_ex he
        obtain ⟨hm, hv⟩ := fstM_mem hx
        have hin := mvs_in hm hi hk
        rw [aln_step hx, alnd_cons (mvOf_mv hm), ih _ _ (by omega) hin.1 hin.2.1]
        show some (x.cost + rst G (i + x.fst) (k + x.snd)) = _
        exact congrArg some hv
      · rw [aln_end he, rst_none (by omega) (by omega)]
        exact if_pos ⟨by omega, by omega⟩
  exact fun hi hk => key _ i k (Nat.le_refl _) hi hk
theorem aln_len (G : Grd) (i k : Nat) : (aln G i k).length ≤ (G.n - i) + (G.m - k) := by
  unfold aln
  have key : ∀ (f i k : Nat), (alnF G f i k).length ≤ f := by
    intro f
    induction f with
    | zero => intro i k; exact Nat.le_refl _
    | succ f ih =>
      intro i k
      unfold alnF
      split
      · rw [List.length_cons]; have := ih (i + (by assumption : Mv).fst) (k + (by assumption : Mv).snd); omega
      · exact Nat.zero_le _
  exact key _ i k
/-- What the program's cost returns. -/
def costP (G : Grd) : List (List Int) → Nat → Nat → Int → Int × Bool
  | [], i, k, s => (s, decide (i = G.n) && decide (k = G.m))
  | x :: l, i, k, s => match mvOf G i k x with
    | some y => costP G l (i + y.fst) (k + y.snd) (s + y.cost)
    | none => (0, false)
theorem costP_cons {G : Grd} {x : List Int} {l : List (List Int)} {i k : Nat} {s : Int} {y : Mv} (h : mvOf G i k x = some y) : costP G (x :: l) i k s = costP G l (i + y.fst) (k + y.snd) (s + y.cost) := by
  show (match mvOf G i k x with | some y => _ | none => _) = _
  rw [h]
theorem costP_bad {G : Grd} {x : List Int} {l : List (List Int)} {i k : Nat} {s : Int} (h : mvOf G i k x = none) : costP G (x :: l) i k s = (0, false) := by
  show (match mvOf G i k x with | some y => _ | none => _) = _
  rw [h]
theorem costP_none {G : Grd} : ∀ {l : List (List Int)} {i k : Nat} {s : Int}, alnd G l i k = none → (costP G l i k s).2 = false
  | [], i, k, s, h => by
    unfold alnd at h
    split at h
    · cases h
    · rename_i hn
      show (decide (i = G.n) && decide (k = G.m)) = false
      by_cases h1 : i = G.n
      · rw [decide_eq_false (p := k = G.m) (fun h2 => hn ⟨h1, h2⟩), Bool.and_false]
      · rw [decide_eq_false h1, Bool.false_and]
  | x :: l, i, k, s, h => by
    cases hs : mvOf G i k x with
    | none => rw [costP_bad hs]
    | some y =>
      rw [alnd_cons hs] at h
      rw [costP_cons hs]
      exact costP_none (by simpa using h)
theorem costP_some {G : Grd} : ∀ {l : List (List Int)} {i k : Nat} {s t : Int}, alnd G l i k = some t → costP G l i k s = (s + t, true)
  | [], i, k, s, t, h => by
    unfold alnd at h
    split at h
    · rename_i he
      obtain rfl := Option.some.inj h
      show (s, decide (i = G.n) && decide (k = G.m)) = _
      rw [decide_eq_true he.1, decide_eq_true he.2, Int.add_zero]; rfl
    · cases h
  | x :: l, i, k, s, t, h => by
    cases hs : mvOf G i k x with
    | none => rw [alnd_bad hs] at h; cases h
    | some y =>
      rw [alnd_cons hs] at h
      obtain ⟨u, hu, rfl⟩ := Option.map_eq_some_iff.1 h
      rw [costP_cons hs, costP_some hu]
      exact Prod.ext (by dsimp only; omega) rfl
/-- A table's numbers. -/
def tabF (t : List (List Int)) (i k : Nat) : Int := ((t[i]?).getD [])[k]?.getD 0
def shpP (n m : Nat) (t : List (List Int)) : Prop := t.length = n + 1 ∧ ∀ r ∈ t, r.length = m + 1
instance (n m : Nat) (t : List (List Int)) : Decidable (shpP n m t) := by unfold shpP; infer_instance
theorem shp_row {n m i : Nat} {t : List (List Int)} (h : shpP n m t) (hi : i ≤ n) : ∃ r, t[i]? = some r ∧ r.length = m + 1 ∧ ∀ k, k ≤ m → r[k]? = some (tabF t i k) := by
  have hl : i < t.length := by have := h.1; omega
  have hr := h.2 _ (List.getElem_mem hl)
  refine ⟨t[i], List.getElem?_eq_getElem hl, hr, fun k hk => ?_⟩
  unfold tabF
  rw [List.getElem?_eq_getElem hl, Option.getD_some, List.getElem?_eq_getElem (by omega), Option.getD_some]
/-- Whether a table proves that nothing costs less than z. -/
def rngP (G : Grd) (t : Nat → Nat → Int) : Prop := ∀ i, i < G.n + 1 → ∀ k, k < G.m + 1 → 0 ≤ t i k ∧ t i k ≤ big
def stpP (G : Grd) (t : Nat → Nat → Int) (i k : Nat) : Prop := ∀ y ∈ mvs G i k, t i k ≤ y.cost + t (i + y.fst) (k + y.snd)
def stpsP (G : Grd) (t : Nat → Nat → Int) : Prop := ∀ i, i < G.n + 1 → ∀ k, k < G.m + 1 → stpP G t i k
instance (G : Grd) (t : Nat → Nat → Int) : Decidable (rngP G t) := by unfold rngP; infer_instance
instance (G : Grd) (t : Nat → Nat → Int) (i k : Nat) : Decidable (stpP G t i k) := by unfold stpP; infer_instance
instance (G : Grd) (t : Nat → Nat → Int) : Decidable (stpsP G t) := by unfold stpsP; infer_instance
def certP (G : Grd) (t : Nat → Nat → Int) (z : Int) : Prop := (t G.n G.m = 0 ∧ t 0 0 = z) ∧ rngP G t ∧ stpsP G t
instance (G : Grd) (t : Nat → Nat → Int) (z : Int) : Decidable (certP G t z) := by unfold certP; infer_instance
theorem certP_le {G : Grd} {t : Nat → Nat → Int} {z : Int} (h : certP G t z) (i k : Nat) (hi : i ≤ G.n) (hk : k ≤ G.m) : t i k ≤ rst G i k := by
  revert hi hk
  refine grd_ind G (P := fun i k => i ≤ G.n → k ≤ G.m → t i k ≤ rst G i k) (fun i k h1 h2 h3 hi hk => ?_) i k
  have hs := h.2.2 i (by omega) k (by omega)
  unfold stpP at hs
  by_cases hi2 : i < G.n
  · have e1 := h1 hi2 hi2 hk
    by_cases hk2 : k < G.m
    · have e2 := h2 hk2 hi hk2
      have e3 := h3 hi2 hk2 hi2 hk2
      rw [mvs_both hi2 hk2] at hs
      rw [rst_both hi2 hk2]
      have q1 := hs ⟨1, 1, G.p i k⟩ (by simp)
      have q2 := hs ⟨1, 0, G.g i⟩ (by simp)
      have q3 := hs ⟨0, 1, G.h k⟩ (by simp)
      simp only [Nat.add_zero] at q1 q2 q3
      omega
    · rw [mvs_fst hi2 hk2] at hs
      rw [rst_fst hi2 hk2]
      have q2 := hs ⟨1, 0, G.g i⟩ (by simp)
      simp only [Nat.add_zero] at q2
      omega
  · by_cases hk2 : k < G.m
    · have e2 := h2 hk2 hi hk2
      rw [mvs_snd hi2 hk2] at hs
      rw [rst_snd hi2 hk2]
      have q3 := hs ⟨0, 1, G.h k⟩ (by simp)
      simp only [Nat.add_zero] at q3
      omega
    · rw [rst_none hi2 hk2, show i = G.n by omega, show k = G.m by omega, h.1.1]; omega
theorem certP_cost {G : Grd} {t : Nat → Nat → Int} {z : Int} {l : List (List Int)} (h : certP G t z) (ha : alnd G l 0 0 = some z) : z = rst G 0 0 := by
  have h1 := certP_le h 0 0 (Nat.zero_le _) (Nat.zero_le _)
  have h2 := alnd_ge l 0 0 z (Nat.zero_le _) (Nat.zero_le _) ha
  have h3 := h.1.2
  omega
theorem certP_rst {G : Grd} (hb : ∀ i k, 0 ≤ rst G i k ∧ rst G i k ≤ big) : certP G (rst G) (rst G 0 0) :=
  ⟨⟨rst_none (by omega) (by omega), rfl⟩, fun i _ k _ => hb i k, fun i _ k _ y hy => rst_via hy⟩
end Go.Proofs.YtmcgificpaeipaaGreatDoor
/- Pairs of sources: alignments as ways: how many are least; sources exchanged, and reversed. No program in sight. -/
namespace Go.Proofs.YtmcgificpaeipaaGreatDoor

/-- What a column has: both, of the first, of the second. -/
inductive Dir where
  | b
  | f
  | s
deriving DecidableEq
def Dir.x : Dir → Nat
  | .b => 1
  | .f => 1
  | .s => 0
def Dir.y : Dir → Nat
  | .b => 1
  | .f => 0
  | .s => 1
def dcost (G : Grd) (i k : Nat) : Dir → Int
  | .b => G.p i k
  | .f => G.g i
  | .s => G.h k
def xs : List Dir → Nat
  | [] => 0
  | d :: l => d.x + xs l
def ys : List Dir → Nat
  | [] => 0
  | d :: l => d.y + ys l
def wcost (G : Grd) : List Dir → Nat → Nat → Int
  | [], _, _ => 0
  | d :: l, i, k => dcost G i k d + wcost G l (i + d.x) (k + d.y)
theorem xs_append : ∀ l m : List Dir, xs (l ++ m) = xs l + xs m
  | [], m => by simp [xs]
  | d :: l, m => by show d.x + xs (l ++ m) = d.x + xs l + xs m; rw [xs_append l m]; omega
theorem ys_append : ∀ l m : List Dir, ys (l ++ m) = ys l + ys m
  | [], m => by simp [ys]
  | d :: l, m => by show d.y + ys (l ++ m) = d.y + ys l + ys m; rw [ys_append l m]; omega
theorem xs_rev : ∀ l : List Dir, xs l.reverse = xs l
  | [] => rfl
  | d :: l => by rw [List.reverse_cons, xs_append, xs_rev l]; simp [xs]; omega
theorem ys_rev : ∀ l : List Dir, ys l.reverse = ys l
  | [] => rfl
  | d :: l => by rw [List.reverse_cons, ys_append, ys_rev l]; simp [ys]; omega
theorem wcost_append (G : Grd) : ∀ (l m : List Dir) (i k : Nat), wcost G (l ++ m) i k = wcost G l i k + wcost G m (i + xs l) (k + ys l)
  | [], m, i, k => by simp [wcost, xs, ys]
  | d :: l, m, i, k => by
    show dcost G i k d + wcost G (l ++ m) (i + d.x) (k + d.y) = dcost G i k d + wcost G l (i + d.x) (k + d.y) + wcost G m (i + (d.x + xs l)) (k + (d.y + ys l))
    rw [wcost_append G l m, Nat.add_assoc, Nat.add_assoc]; omega
/-- All ways of so many of the first, and of the second. -/
def wayF : Nat → Nat → Nat → List (List Dir)
  | 0, _, _ => [[]]
  | f + 1, a, b => match a, b with
    | 0, 0 => [[]]
    | 0, b + 1 => (wayF f 0 b).map (.s :: ·)
    | a + 1, 0 => (wayF f a 0).map (.f :: ·)
    | a + 1, b + 1 => (wayF f a b).map (.b :: ·) ++ ((wayF f a (b + 1)).map (.f :: ·) ++ (wayF f (a + 1) b).map (.s :: ·))
def ways (a b : Nat) : List (List Dir) := wayF (a + b) a b
theorem wayF_more : ∀ (f a b : Nat), a + b ≤ f → wayF f a b = ways a b
  | 0, a, b, h => by rw [show a = 0 by omega, show b = 0 by omega]; rfl
  | f + 1, 0, 0, h => rfl
  | f + 1, 0, b + 1, h => by
    show (wayF f 0 b).map (.s :: ·) = (wayF (0 + b) 0 b).map (.s :: ·)
    rw [wayF_more f 0 b (by omega)]; rfl
  | f + 1, a + 1, 0, h => by
    show (wayF f a 0).map (.f :: ·) = (wayF (a + 0) a 0).map (.f :: ·)
    rw [wayF_more f a 0 (by omega)]; rfl
  | f + 1, a + 1, b + 1, h => by
    unfold ways
    rw [show a + 1 + (b + 1) = (a + b + 1) + 1 by omega]
    show _ = (wayF (a + b + 1) a b).map (.b :: ·) ++ ((wayF (a + b + 1) a (b + 1)).map (.f :: ·) ++ (wayF (a + b + 1) (a + 1) b).map (.s :: ·))
    rw [wayF_more (a + b + 1) a b (by omega), wayF_more (a + b + 1) a (b + 1) (by omega), wayF_more (a + b + 1) (a + 1) b (by omega)]
    show (wayF f a b).map (.b :: ·) ++ ((wayF f a (b + 1)).map (.f :: ·) ++ (wayF f (a + 1) b).map (.s :: ·)) = _
    rw [wayF_more f a b (by omega), wayF_more f a (b + 1) (by omega), wayF_more f (a + 1) b (by omega)]
  termination_by f => f
  decreasing_by all_goals omega
theorem ways_s (b : Nat) : ways 0 (b + 1) = (ways 0 b).map (.s :: ·) := by
  rw [← wayF_more (0 + b + 1) 0 (b + 1) (by omega)]
  show (wayF (0 + b) 0 b).map (.s :: ·) = _
  rfl
theorem ways_f (a : Nat) : ways (a + 1) 0 = (ways a 0).map (.f :: ·) := by
  rw [← wayF_more (a + 0 + 1) (a + 1) 0 (by omega)]
  show (wayF (a + 0) a 0).map (.f :: ·) = _
  rfl
theorem ways_b (a b : Nat) : ways (a + 1) (b + 1) = (ways a b).map (.b :: ·) ++ ((ways a (b + 1)).map (.f :: ·) ++ (ways (a + 1) b).map (.s :: ·)) := by
  rw [← wayF_more (a + b + 1 + 1) (a + 1) (b + 1) (by omega)]
  show (wayF (a + b + 1) a b).map (.b :: ·) ++ ((wayF (a + b + 1) a (b + 1)).map (.f :: ·) ++ (wayF (a + b + 1) (a + 1) b).map (.s :: ·)) = _
  rw [wayF_more _ _ _ (by omega), wayF_more _ _ _ (by omega), wayF_more _ _ _ (by omega)]
theorem ways_ind {P : Nat → Nat → Prop} (h0 : P 0 0) (hs : ∀ b, P 0 b → P 0 (b + 1)) (hf : ∀ a, P a 0 → P (a + 1) 0) (hb : ∀ a b, P a b → P a (b + 1) → P (a + 1) b → P (a + 1) (b + 1)) (a b : Nat) : P a b := by
  have key : ∀ d a b, a + b ≤ d → P a b := by
    intro d
    induction d with
    | zero => intro a b h; rw [show a = 0 by omega, show b = 0 by omega]; exact h0
    | succ d ih =>
      intro a b h
      rcases a with _ | a <;> rcases b with _ | b
      · exact h0
      · exact hs b (ih _ _ (by omega))
      · exact hf a (ih _ _ (by omega))
      · exact hb a b (ih _ _ (by omega)) (ih _ _ (by omega)) (ih _ _ (by omega))
  exact key _ a b (Nat.le_refl _)
theorem mem_ways : ∀ (l : List Dir) (a b : Nat), l ∈ ways a b ↔ xs l = a ∧ ys l = b
  | [], a, b => by
    rcases a with _ | a <;> rcases b with _ | b
    · simp [ways, wayF, xs, ys]
    · rw [ways_s]; simp [ys]
    · rw [ways_f]; simp [xs]
    · rw [ways_b]; simp [xs]
  | d :: l, a, b => by
    have ih := mem_ways l
    rcases a with _ | a <;> rcases b with _ | b
    · cases d <;> simp [ways, wayF, xs, ys, Dir.x, Dir.y]
    · rw [ways_s]
      cases d <;> simp [xs, ys, Dir.x, Dir.y, ih] <;> omega
    · rw [ways_f]
      cases d <;> simp [xs, ys, Dir.x, Dir.y, ih] <;> omega
    · rw [ways_b]
      cases d <;> simp [xs, ys, Dir.x, Dir.y, ih] <;> omega
theorem nodup_map_cons {d : Dir} {L : List (List Dir)} (h : L.Nodup) : (L.map (d :: ·)).Nodup := by
  rw [List.nodup_iff_pairwise_ne] at *
  rw [List.pairwise_map]
  exact h.imp fun h1 h2 => h1 (List.cons.inj h2).2
theorem ways_nodup (a b : Nat) : (ways a b).Nodup := by
  refine ways_ind (P := fun a b => (ways a b).Nodup) (by simp [ways, wayF]) (fun b h => ?_) (fun a h => ?_) (fun a b h1 h2 h3 => ?_) a b
  · rw [ways_s]; exact nodup_map_cons h
  · rw [ways_f]; exact nodup_map_cons h
  · rw [ways_b, List.nodup_append, List.nodup_append]
    refine ⟨nodup_map_cons h1, ⟨nodup_map_cons h2, nodup_map_cons h3, ?_⟩, ?_⟩
    · intro x hx y hy e
      simp only [List.mem_map] at hx hy
      obtain ⟨u, _, rfl⟩ := hx
      obtain ⟨v, _, rfl⟩ := hy
      cases e
    · intro x hx y hy e
      simp only [List.mem_map, List.mem_append] at hx hy
      obtain ⟨u, _, rfl⟩ := hx
      rcases hy with ⟨v, _, rfl⟩ | ⟨v, _, rfl⟩ <;> cases e
theorem ways_len (a b : Nat) : (ways a b).length ≤ 3 ^ (a + b) := by
  refine ways_ind (P := fun a b => (ways a b).length ≤ 3 ^ (a + b)) (by simp [ways, wayF]) (fun b h => ?_) (fun a h => ?_) (fun a b h1 h2 h3 => ?_) a b
  · rw [ways_s, List.length_map, show 0 + (b + 1) = 0 + b + 1 by omega, Nat.pow_succ]; omega
  · rw [ways_f, List.length_map, show a + 1 + 0 = a + 0 + 1 by omega, Nat.pow_succ]; have := h; rw [Nat.add_zero] at *; omega
  · have e1 : 3 ^ (a + 1 + (b + 1)) = 3 ^ (a + b) * 9 := by rw [show a + 1 + (b + 1) = a + b + 1 + 1 by omega, Nat.pow_succ, Nat.pow_succ]; omega
    have e2 : 3 ^ (a + (b + 1)) = 3 ^ (a + b) * 3 := by rw [show a + (b + 1) = a + b + 1 by omega, Nat.pow_succ]
    have e3 : 3 ^ (a + 1 + b) = 3 ^ (a + b) * 3 := by rw [show a + 1 + b = a + b + 1 by omega, Nat.pow_succ]
    rw [ways_b, List.length_append, List.length_append, List.length_map, List.length_map, List.length_map]
    omega
/-- How many ways cost so much. -/
def cnt (G : Grd) (a b i k : Nat) (z : Int) : Nat := (ways a b).countP fun l => decide (wcost G l i k = z)
theorem countP_cons_map (G : Grd) (L : List (List Dir)) (d : Dir) (i k : Nat) (z : Int) : (L.map (d :: ·)).countP (fun l => decide (wcost G l i k = z)) = L.countP fun l => decide (wcost G l (i + d.x) (k + d.y) = z - dcost G i k d) := by
  rw [List.countP_map]
  congr 1
  funext l
  show decide (dcost G i k d + wcost G l (i + d.x) (k + d.y) = z) = _
  exact decide_eq_decide.2 ⟨fun h => by omega, fun h => by omega⟩
theorem cnt_b (G : Grd) (a b i k : Nat) (z : Int) : ((ways a b).map (.b :: ·)).countP (fun l => decide (wcost G l i k = z)) = cnt G a b (i + 1) (k + 1) (z - G.p i k) := countP_cons_map G (ways a b) .b i k z
theorem cnt_f (G : Grd) (a b i k : Nat) (z : Int) : ((ways a b).map (.f :: ·)).countP (fun l => decide (wcost G l i k = z)) = cnt G a b (i + 1) k (z - G.g i) := countP_cons_map G (ways a b) .f i k z
theorem cnt_s (G : Grd) (a b i k : Nat) (z : Int) : ((ways a b).map (.s :: ·)).countP (fun l => decide (wcost G l i k = z)) = cnt G a b i (k + 1) (z - G.h k) := countP_cons_map G (ways a b) .s i k z
theorem rst_way (G : Grd) : ∀ (l : List Dir) (i k : Nat), i + xs l = G.n → k + ys l = G.m → rst G i k ≤ wcost G l i k
  | [], i, k, hi, hk => by
    simp only [xs, ys] at hi hk
    rw [rst_none (by omega) (by omega)]; exact Int.le_refl _
  | d :: l, i, k, hi, hk => by
    have ih := rst_way G l (i + d.x) (k + d.y) (by simp only [xs] at hi; omega) (by simp only [ys] at hk; omega)
    show rst G i k ≤ dcost G i k d + _
    cases d <;> simp only [xs, ys, Dir.x, Dir.y] at hi hk ih ⊢
    · have := rst_le_p (G := G) (i := i) (k := k) (by omega) (by omega); show _ ≤ G.p i k + _; omega
    · have := rst_le_g (G := G) (i := i) (k := k) (by omega); show _ ≤ G.g i + _; simp only [Nat.add_zero] at ih ⊢; omega
    · have := rst_le_h (G := G) (i := i) (k := k) (by omega); show _ ≤ G.h k + _; simp only [Nat.add_zero] at ih ⊢; omega
theorem cnt_zero {G : Grd} {a b i k : Nat} {z : Int} (hi : i + a = G.n) (hk : k + b = G.m) (h : z < rst G i k) : cnt G a b i k z = 0 := by
  unfold cnt
  rw [List.countP_eq_zero]
  intro l hl
  obtain ⟨h1, h2⟩ := (mem_ways l a b).1 hl
  have := rst_way G l i k (by omega) (by omega)
  simp only [decide_eq_true_eq]; omega
theorem cnt_len (G : Grd) (a b i k : Nat) (z : Int) : cnt G a b i k z ≤ 3 ^ (a + b) := Nat.le_trans (List.countP_le_length) (ways_len a b)
theorem wys_cnt (G : Grd) (a b : Nat) (hab : a + b ≤ 14) (i k : Nat) (hi : i + a = G.n) (hk : k + b = G.m) : wys G i k = (cnt G a b i k (rst G i k) : Int) := by
  revert hab i k
  have hbig : ∀ a b i k z, a + b ≤ 14 → (cnt G a b i k z : Int) ≤ 4782969 := fun a b i k z h => by
    have h1 := cnt_len G a b i k z
    have h2 : 3 ^ (a + b) ≤ 3 ^ 14 := Nat.pow_le_pow_right (by omega) h
    have h3 : (3 : Nat) ^ 14 = 4782969 := by decide
    omega
  refine ways_ind (P := fun a b => a + b ≤ 14 → ∀ i k, i + a = G.n → k + b = G.m → wys G i k = (cnt G a b i k (rst G i k) : Int)) ?_ ?_ ?_ ?_ a b
  · intro _ i k hi hk
    rw [wys_none (by omega) (by omega), rst_none (by omega) (by omega)]; rfl
  · intro b ih hab i k hi hk
    have e := ih (by omega) i (k + 1) hi (by omega)
    have hb := hbig 0 b i (k + 1) (rst G i (k + 1)) (by omega)
    rw [wys_snd (by omega) (by omega), rst_snd (by omega) (by omega)]
    unfold addW big
    rw [if_pos rfl, e]
    have e2 : cnt G 0 (b + 1) i k (G.h k + rst G i (k + 1)) = cnt G 0 b i (k + 1) (rst G i (k + 1)) := by
      rw [cnt, ways_s, cnt_s, show G.h k + rst G i (k + 1) - G.h k = rst G i (k + 1) by omega]
    rw [e2]; omega
  · intro a ih hab i k hi hk
    have e := ih (by omega) (i + 1) k (by omega) hk
    have hb := hbig a 0 (i + 1) k (rst G (i + 1) k) (by omega)
    rw [wys_fst (by omega) (by omega), rst_fst (by omega) (by omega)]
    unfold addW big
    rw [if_pos rfl, e]
    have e2 : cnt G (a + 1) 0 i k (G.g i + rst G (i + 1) k) = cnt G a 0 (i + 1) k (rst G (i + 1) k) := by
      rw [cnt, ways_f, cnt_f, show G.g i + rst G (i + 1) k - G.g i = rst G (i + 1) k by omega]
    rw [e2]; omega
  · intro a b ih1 ih2 ih3 hab i k hi hk
    have e1 := ih1 (by omega) (i + 1) (k + 1) (by omega) (by omega)
    have e2 := ih2 (by omega) (i + 1) k (by omega) (by omega)
    have e3 := ih3 (by omega) i (k + 1) (by omega) (by omega)
    have hb1 := hbig a b (i + 1) (k + 1) (rst G (i + 1) (k + 1)) (by omega)
    have hb2 := hbig a (b + 1) (i + 1) k (rst G (i + 1) k) (by omega)
    have hb3 := hbig (a + 1) b i (k + 1) (rst G i (k + 1)) (by omega)
    have l1 := rst_le_p (G := G) (i := i) (k := k) (by omega) (by omega)
    have l2 := rst_le_g (G := G) (i := i) (k := k) (by omega)
    have l3 := rst_le_h (G := G) (i := i) (k := k) (by omega)
    rw [wys_both (by omega) (by omega), e1, e2, e3]
    generalize hr : rst G i k = r at *
    have key : cnt G (a + 1) (b + 1) i k r = (if G.p i k + rst G (i + 1) (k + 1) = r then cnt G a b (i + 1) (k + 1) (rst G (i + 1) (k + 1)) else 0) + ((if G.g i + rst G (i + 1) k = r then cnt G a (b + 1) (i + 1) k (rst G (i + 1) k) else 0) + (if G.h k + rst G i (k + 1) = r then cnt G (a + 1) b i (k + 1) (rst G i (k + 1)) else 0)) := by
      rw [cnt, ways_b, List.countP_append, List.countP_append, cnt_b, cnt_f, cnt_s]
      have c1 : cnt G a b (i + 1) (k + 1) (r - G.p i k) = if G.p i k + rst G (i + 1) (k + 1) = r then cnt G a b (i + 1) (k + 1) (rst G (i + 1) (k + 1)) else 0 := by
        split
        · rename_i h; rw [← h, show G.p i k + rst G (i + 1) (k + 1) - G.p i k = rst G (i + 1) (k + 1) by omega]
        · exact cnt_zero (by omega) (by omega) (by omega)
      have c2 : cnt G a (b + 1) (i + 1) k (r - G.g i) = if G.g i + rst G (i + 1) k = r then cnt G a (b + 1) (i + 1) k (rst G (i + 1) k) else 0 := by
        split
        · rename_i h; rw [← h, show G.g i + rst G (i + 1) k - G.g i = rst G (i + 1) k by omega]
        · exact cnt_zero (by omega) (by omega) (by omega)
      have c3 : cnt G (a + 1) b i (k + 1) (r - G.h k) = if G.h k + rst G i (k + 1) = r then cnt G (a + 1) b i (k + 1) (rst G i (k + 1)) else 0 := by
        split
        · rename_i h; rw [← h, show G.h k + rst G i (k + 1) - G.h k = rst G i (k + 1) by omega]
        · exact cnt_zero (by omega) (by omega) (by omega)
      rw [c1, c2, c3]
    rw [key]
    unfold addW big
    generalize cnt G a b (i + 1) (k + 1) (rst G (i + 1) (k + 1)) = x at *
    generalize cnt G a (b + 1) (i + 1) k (rst G (i + 1) k) = y at *
    generalize cnt G (a + 1) b i (k + 1) (rst G i (k + 1)) = z at *
    (repeat' split) <;> push_cast <;> omega
/-- There is a way that costs the least. -/
theorem way_ex (G : Grd) (i k : Nat) (hi : i ≤ G.n) (hk : k ≤ G.m) : ∃ l, i + xs l = G.n ∧ k + ys l = G.m ∧ wcost G l i k = rst G i k := by
  revert hi hk
  have key : ∀ d i k, (G.n - i) + (G.m - k) ≤ d → i ≤ G.n → k ≤ G.m → ∃ l, i + xs l = G.n ∧ k + ys l = G.m ∧ wcost G l i k = rst G i k := by
    intro d
    induction d with
    | zero => intro i k hd hi hk; exact ⟨[], by simp [xs]; omega, by simp [ys]; omega, by rw [rst_none (by omega) (by omega)]; rfl⟩
    | succ d ih =>
      intro i k hd hi hk
      by_cases he : i < G.n ∨ k < G.m
      · obtain ⟨x, hx⟩ := fstM_ex he
        obtain ⟨hm, hv⟩ := fstM_mem hx
        have hin := mvs_in hm hi hk
        obtain ⟨l, h1, h2, h3⟩ := ih _ _ (by omega) hin.1 hin.2.1
        unfold via at hv
        rcases mvs_form hm with ⟨rfl, _⟩ | ⟨rfl, _⟩ | ⟨rfl, _⟩ <;> simp only at h1 h2
        · exact ⟨.b :: l, by simp only [xs, Dir.x]; omega, by simp only [ys, Dir.y]; omega, by rw [← hv, ← h3]; rfl⟩
        · exact ⟨.f :: l, by simp only [xs, Dir.x]; omega, by simp only [ys, Dir.y]; omega, by rw [← hv, ← h3]; rfl⟩
        · exact ⟨.s :: l, by simp only [xs, Dir.x]; omega, by simp only [ys, Dir.y]; omega, by rw [← hv, ← h3]; rfl⟩
      · exact ⟨[], by simp [xs]; omega, by simp [ys]; omega, by rw [rst_none (by omega) (by omega)]; rfl⟩
  exact fun hi hk => key _ i k (Nat.le_refl _) hi hk
/-- Reversed. -/
structure Rvs (G F : Grd) : Prop where
  n : F.n = G.n
  m : F.m = G.m
  p : ∀ i k, i < G.n → k < G.m → F.p (G.n - 1 - i) (G.m - 1 - k) = G.p i k
  g : ∀ i, i < G.n → F.g (G.n - 1 - i) = G.g i
  h : ∀ k, k < G.m → F.h (G.m - 1 - k) = G.h k
theorem Rvs.symm {G F : Grd} (r : Rvs G F) : Rvs F G where
  n := r.n.symm
  m := r.m.symm
  p := fun i k hi hk => by
    rw [r.n] at hi ⊢; rw [r.m] at hk ⊢
    have := r.p (G.n - 1 - i) (G.m - 1 - k) (by omega) (by omega)
    rw [show G.n - 1 - (G.n - 1 - i) = i by omega, show G.m - 1 - (G.m - 1 - k) = k by omega] at this
    exact this.symm
  g := fun i hi => by
    rw [r.n] at hi ⊢
    have := r.g (G.n - 1 - i) (by omega)
    rw [show G.n - 1 - (G.n - 1 - i) = i by omega] at this
    exact this.symm
  h := fun k hk => by
    rw [r.m] at hk ⊢
    have := r.h (G.m - 1 - k) (by omega)
    rw [show G.m - 1 - (G.m - 1 - k) = k by omega] at this
    exact this.symm
theorem wcost_rev {G F : Grd} (r : Rvs G F) : ∀ (l : List Dir) (i k : Nat), i + xs l ≤ G.n → k + ys l ≤ G.m → wcost F l.reverse (G.n - i - xs l) (G.m - k - ys l) = wcost G l i k
  | [], i, k, _, _ => rfl
  | d :: l, i, k, hi, hk => by
    simp only [xs, ys] at hi hk
    have ih := wcost_rev r l (i + d.x) (k + d.y) (by omega) (by omega)
    rw [List.reverse_cons, wcost_append, xs_rev, ys_rev]
    simp only [xs, ys]
    rw [show G.n - i - (d.x + xs l) = G.n - (i + d.x) - xs l by omega, show G.m - k - (d.y + ys l) = G.m - (k + d.y) - ys l by omega, ih]
    show _ + (dcost F _ _ d + 0) = dcost G i k d + _
    rw [show G.n - (i + d.x) - xs l + xs l = G.n - (i + d.x) by omega, show G.m - (k + d.y) - ys l + ys l = G.m - (k + d.y) by omega]
    have e : dcost F (G.n - (i + d.x)) (G.m - (k + d.y)) d = dcost G i k d := by
      cases d <;> simp only [Dir.x, Dir.y] at hi hk ⊢
      · show F.p _ _ = G.p i k
        rw [← r.p i k (by omega) (by omega), show G.n - (i + 1) = G.n - 1 - i by omega, show G.m - (k + 1) = G.m - 1 - k by omega]
      · show F.g _ = G.g i
        rw [← r.g i (by omega), show G.n - (i + 1) = G.n - 1 - i by omega]
      · show F.h _ = G.h k
        rw [← r.h k (by omega), show G.m - (k + 1) = G.m - 1 - k by omega]
    rw [e]; omega
theorem wcost_rev0 {G F : Grd} (r : Rvs G F) {l : List Dir} (h1 : xs l = G.n) (h2 : ys l = G.m) : wcost F l.reverse 0 0 = wcost G l 0 0 := by
  have := wcost_rev r l 0 0 (by omega) (by omega)
  rwa [show G.n - 0 - xs l = 0 by omega, show G.m - 0 - ys l = 0 by omega] at this
theorem rst_rev {G F : Grd} (r : Rvs G F) : rst F 0 0 = rst G 0 0 := by
  have key : ∀ {G F : Grd}, Rvs G F → rst F 0 0 ≤ rst G 0 0 := fun {G F} r => by
    obtain ⟨l, h1, h2, h3⟩ := way_ex G 0 0 (Nat.zero_le _) (Nat.zero_le _)
    rw [← h3, ← wcost_rev0 r (by omega) (by omega)]
    exact rst_way F l.reverse 0 0 (by rw [xs_rev, r.n]; exact h1) (by rw [ys_rev, r.m]; exact h2)
  exact Int.le_antisymm (key r) (key r.symm)
theorem wys_rev {G F : Grd} (r : Rvs G F) (h : G.n + G.m ≤ 14) : wys F 0 0 = wys G 0 0 := by
  rw [wys_cnt F G.n G.m h 0 0 (by rw [r.n]; omega) (by rw [r.m]; omega), wys_cnt G G.n G.m h 0 0 (by omega) (by omega), rst_rev r]
  congr 1
  unfold cnt
  have hp : ((ways G.n G.m).map List.reverse).Perm (ways G.n G.m) := by
    refine (List.perm_ext_iff_of_nodup ?_ (ways_nodup _ _)).2 fun l => ?_
    · rw [List.nodup_iff_pairwise_ne, List.pairwise_map]
      exact (List.nodup_iff_pairwise_ne.1 (ways_nodup G.n G.m)).imp fun h1 h2 => h1 (List.reverse_inj.1 h2)
    · rw [List.mem_map]
      constructor
      · rintro ⟨y, hy, rfl⟩
        rw [mem_ways] at hy ⊢
        rw [xs_rev, ys_rev]; exact hy
      · intro hl
        rw [mem_ways] at hl
        exact ⟨l.reverse, (mem_ways _ _ _).2 (by rw [xs_rev, ys_rev]; exact hl), List.reverse_reverse l⟩
  rw [← hp.countP_eq, List.countP_map]
  refine List.countP_congr fun l hl => ?_
  obtain ⟨h1, h2⟩ := (mem_ways _ _ _).1 hl
  show decide (wcost F l.reverse 0 0 = _) = true ↔ _
  rw [wcost_rev0 r h1 h2]
/-- Exchanged. -/
structure Xch (G F : Grd) : Prop where
  n : F.n = G.m
  m : F.m = G.n
  p : ∀ i k, i < G.n → k < G.m → F.p k i = G.p i k
  g : ∀ k, k < G.m → F.g k = G.h k
  h : ∀ i, i < G.n → F.h i = G.g i
theorem rst_xch {G F : Grd} (x : Xch G F) (i k : Nat) : rst F k i = rst G i k := by
  refine grd_ind G (P := fun i k => rst F k i = rst G i k) (fun i k h1 h2 h3 => ?_) i k
  by_cases hi : i < G.n
  · have e1 := h1 hi
    by_cases hk : k < G.m
    · have e2 := h2 hk
      have e3 := h3 hi hk
      rw [rst_both (G := F) (by rw [x.n]; exact hk) (by rw [x.m]; exact hi), rst_both hi hk, x.p i k hi hk, x.g k hk, x.h i hi, e1, e2, e3]; omega
    · rw [rst_snd (G := F) (by rw [x.n]; exact hk) (by rw [x.m]; exact hi), rst_fst hi hk, x.h i hi, e1]
  · by_cases hk : k < G.m
    · have e2 := h2 hk
      rw [rst_fst (G := F) (by rw [x.n]; exact hk) (by rw [x.m]; exact hi), rst_snd hi hk, x.g k hk, e2]
    · rw [rst_none (G := F) (by rw [x.n]; exact hk) (by rw [x.m]; exact hi), rst_none hi hk]
theorem wys_xch {G F : Grd} (x : Xch G F) (i k : Nat) : wys F k i = wys G i k := by
  refine grd_ind G (P := fun i k => wys F k i = wys G i k) (fun i k h1 h2 h3 => ?_) i k
  have er := rst_xch x i k
  by_cases hi : i < G.n
  · have e1 := h1 hi
    by_cases hk : k < G.m
    · have e2 := h2 hk
      have e3 := h3 hi hk
      rw [wys_both (G := F) (by rw [x.n]; exact hk) (by rw [x.m]; exact hi), wys_both hi hk, x.p i k hi hk, x.g k hk, x.h i hi, e1, e2, e3, er, rst_xch x, rst_xch x, rst_xch x]
      have w1 := wys_bd G (i + 1) (k + 1)
      have w2 := wys_bd G (i + 1) k
      have w3 := wys_bd G i (k + 1)
      unfold addW big at *
      (repeat' split) <;> omega
    · rw [wys_snd (G := F) (by rw [x.n]; exact hk) (by rw [x.m]; exact hi), wys_fst hi hk, x.h i hi, e1, er, rst_xch x]
  · by_cases hk : k < G.m
    · have e2 := h2 hk
      rw [wys_fst (G := F) (by rw [x.n]; exact hk) (by rw [x.m]; exact hi), wys_snd hi hk, x.g k hk, e2, er, rst_xch x]
    · rw [wys_none (G := F) (by rw [x.n]; exact hk) (by rw [x.m]; exact hi), wys_none hi hk]
end Go.Proofs.YtmcgificpaeipaaGreatDoor
/- Pairs of sources: costs that are doubled; equal sources; gaps; one token more. Plain laws, no program in sight. -/
namespace Go.Proofs.YtmcgificpaeipaaGreatDoor

structure Dbl (G F : Grd) : Prop where
  n : F.n = G.n
  m : F.m = G.m
  p : ∀ i k, i < G.n → k < G.m → F.p i k = 2 * G.p i k
  g : ∀ i, i < G.n → F.g i = 2 * G.g i
  h : ∀ k, k < G.m → F.h k = 2 * G.h k
theorem rst_dbl {G F : Grd} (x : Dbl G F) (i k : Nat) : rst F i k = 2 * rst G i k := by
  refine grd_ind G (P := fun i k => rst F i k = 2 * rst G i k) (fun i k h1 h2 h3 => ?_) i k
  by_cases hi : i < G.n
  · have e1 := h1 hi
    by_cases hk : k < G.m
    · have e2 := h2 hk
      have e3 := h3 hi hk
      rw [rst_both (G := F) (by rw [x.n]; exact hi) (by rw [x.m]; exact hk), rst_both hi hk, x.p i k hi hk, x.g i hi, x.h k hk, e1, e2, e3]; omega
    · rw [rst_fst (G := F) (by rw [x.n]; exact hi) (by rw [x.m]; exact hk), rst_fst hi hk, x.g i hi, e1]; omega
  · by_cases hk : k < G.m
    · have e2 := h2 hk
      rw [rst_snd (G := F) (by rw [x.n]; exact hi) (by rw [x.m]; exact hk), rst_snd hi hk, x.h k hk, e2]; omega
    · rw [rst_none (G := F) (by rw [x.n]; exact hi) (by rw [x.m]; exact hk), rst_none hi hk]; rfl
theorem addW_dbl (t s x w : Int) : addW (2 * t) s (2 * x) w = addW t s x w := by
  unfold addW
  by_cases h : x = t
  · rw [if_pos h, if_pos (by omega)]
  · rw [if_neg h, if_neg (by omega)]
theorem wys_dbl {G F : Grd} (x : Dbl G F) (i k : Nat) : wys F i k = wys G i k := by
  refine grd_ind G (P := fun i k => wys F i k = wys G i k) (fun i k h1 h2 h3 => ?_) i k
  have er := rst_dbl x
  by_cases hi : i < G.n
  · have e1 := h1 hi
    by_cases hk : k < G.m
    · have e2 := h2 hk
      have e3 := h3 hi hk
      rw [wys_both (G := F) (by rw [x.n]; exact hi) (by rw [x.m]; exact hk), wys_both hi hk, x.p i k hi hk, x.g i hi, x.h k hk, e1, e2, e3, er, er, er, er, ← Int.mul_add, ← Int.mul_add, ← Int.mul_add, addW_dbl, addW_dbl, addW_dbl]
    · rw [wys_fst (G := F) (by rw [x.n]; exact hi) (by rw [x.m]; exact hk), wys_fst hi hk, x.g i hi, e1, er, er, ← Int.mul_add, addW_dbl]
  · by_cases hk : k < G.m
    · have e2 := h2 hk
      rw [wys_snd (G := F) (by rw [x.n]; exact hi) (by rw [x.m]; exact hk), wys_snd hi hk, x.h k hk, e2, er, er, ← Int.mul_add, addW_dbl]
    · rw [wys_none (G := F) (by rw [x.n]; exact hi) (by rw [x.m]; exact hk), wys_none hi hk]
def Mv.dbl (x : Mv) : Mv := ⟨x.fst, x.snd, 2 * x.cost⟩
theorem mvs_dbl {G F : Grd} (x : Dbl G F) (i k : Nat) : mvs F i k = (mvs G i k).map Mv.dbl := by
  by_cases hi : i < G.n
  · by_cases hk : k < G.m
    · rw [mvs_both (G := F) (by rw [x.n]; exact hi) (by rw [x.m]; exact hk), mvs_both hi hk, x.p i k hi hk, x.g i hi, x.h k hk]; rfl
    · rw [mvs_fst (G := F) (by rw [x.n]; exact hi) (by rw [x.m]; exact hk), mvs_fst hi hk, x.g i hi]; rfl
  · by_cases hk : k < G.m
    · rw [mvs_snd (G := F) (by rw [x.n]; exact hi) (by rw [x.m]; exact hk), mvs_snd hi hk, x.h k hk]; rfl
    · rw [mvs_none (G := F) (by rw [x.n]; exact hi) (by rw [x.m]; exact hk), mvs_none hi hk]; rfl
theorem fstM_dbl {G F : Grd} (x : Dbl G F) (i k : Nat) : fstM F i k = (fstM G i k).map Mv.dbl := by
  unfold fstM
  rw [mvs_dbl x, List.find?_map]
  congr 2
  funext y
  show decide (2 * y.cost + rst F (i + y.fst) (k + y.snd) = rst F i k) = decide (y.cost + rst G (i + y.fst) (k + y.snd) = rst G i k)
  rw [rst_dbl x, rst_dbl x]
  exact decide_eq_decide.2 ⟨fun h => by omega, fun h => by omega⟩
theorem aln_dbl {G F : Grd} (x : Dbl G F) (i k : Nat) : aln F i k = aln G i k := by
  have key : ∀ d i k, (G.n - i) + (G.m - k) ≤ d → aln F i k = aln G i k := by
    intro d
    induction d with
    | zero =>
      intro i k hd
      rw [aln_end (G := F) (by rw [x.n, x.m]; omega), aln_end (by omega)]
    | succ d ih =>
      intro i k hd
      by_cases he : i < G.n ∨ k < G.m
      · obtain ⟨y, hy⟩ := fstM_ex he
        have hm := mvs_to (fstM_mem hy).1
        rw [aln_step hy, aln_step (show fstM F i k = some y.dbl by rw [fstM_dbl x, hy]; rfl)]
        show mvCol i k y :: aln F (i + y.fst) (k + y.snd) = _
        rw [ih _ _ (by omega)]
      · rw [aln_end (G := F) (by rw [x.n, x.m]; exact he), aln_end he]
  exact key _ i k (Nat.le_refl _)
/-- Nothing of the first: one way alone. -/
theorem wys_one {G : Grd} (hn : G.n = 0) (k : Nat) : wys G 0 k = 1 := by
  refine grd_ind G (P := fun i k => i = 0 → wys G i k = 1) (fun i k _ h2 _ hi => ?_) 0 k rfl
  by_cases hk : k < G.m
  · rw [wys_snd (by omega) hk, rst_snd (by omega) hk, h2 hk hi]
    unfold addW big
    rw [if_pos rfl]; omega
  · rw [wys_none (by omega) hk]
/-- Equal sources cost nothing. -/
theorem rst_same {G : Grd} (hn : G.n = G.m) (hp : ∀ i, i < G.n → G.p i i = 0) (i : Nat) (hi : i ≤ G.n) : rst G i i ≤ 0 := by
  have key : ∀ d i, G.n - i ≤ d → i ≤ G.n → rst G i i ≤ 0 := by
    intro d
    induction d with
    | zero => intro i hd hi; rw [rst_none (by omega) (by omega)]; exact Int.le_refl _
    | succ d ih =>
      intro i hd hi
      by_cases h : i < G.n
      · have h1 := rst_le_p (G := G) (i := i) (k := i) h (by omega)
        have h2 := ih (i + 1) (by omega) (by omega)
        rw [hp i h] at h1; omega
      · rw [rst_none (by omega) (by omega)]; exact Int.le_refl _
  exact key _ i (Nat.le_refl _) hi
/-- Gaps alone. -/
theorem rst_gaps {G : Grd} {la lb : List Int} (ha : la.length = G.n) (hb : lb.length = G.m) (hg : ∀ i, i < G.n → la[i]? = some (G.g i)) (hh : ∀ k, k < G.m → lb[k]? = some (G.h k)) (i k : Nat) : rst G i k ≤ (la.drop i).sum + (lb.drop k).sum := by
  refine grd_ind G (P := fun i k => rst G i k ≤ (la.drop i).sum + (lb.drop k).sum) (fun i k h1 h2 h3 => ?_) i k
  have hdr : ∀ {l : List Int} {i : Nat} {z : Int}, l[i]? = some z → (l.drop i).sum = z + (l.drop (i + 1)).sum := fun {l i z} h => by
    obtain ⟨hl, e⟩ := List.getElem?_eq_some_iff.1 h
    rw [List.drop_eq_getElem_cons hl, List.sum_cons, e]
  by_cases hi : i < G.n
  · have e1 := h1 hi
    have := rst_le_g (G := G) (i := i) (k := k) hi
    rw [hdr (hg i hi)]; omega
  · by_cases hk : k < G.m
    · have e2 := h2 hk
      have := rst_le_h (G := G) (i := i) (k := k) hk
      rw [hdr (hh k hk)]; omega
    · rw [rst_none hi hk, List.drop_of_length_le (by omega), List.drop_of_length_le (by omega)]; simp
/-- One token more in the first, at the place q. -/
structure One (G F : Grd) (q : Nat) (z : Int) : Prop where
  hq : q ≤ G.n
  n : F.n = G.n + 1
  m : F.m = G.m
  p : ∀ i k, i < q → k < G.m → F.p i k = G.p i k
  g : ∀ i, i < q → F.g i = G.g i
  z : F.g q = z
  p2 : ∀ i k, q ≤ i → i < G.n → k < G.m → F.p (i + 1) k = G.p i k
  g2 : ∀ i, q ≤ i → i < G.n → F.g (i + 1) = G.g i
  h : ∀ k, k < G.m → F.h k = G.h k
theorem rst_one2 {G F : Grd} {q : Nat} {z : Int} (x : One G F q z) (i k : Nat) : q ≤ i → rst F (i + 1) k = rst G i k := by
  refine grd_ind G (P := fun i k => q ≤ i → rst F (i + 1) k = rst G i k) (fun i k h1 h2 h3 hq => ?_) i k
  by_cases hi : i < G.n
  · have e1 := h1 hi (by omega)
    by_cases hk : k < G.m
    · have e2 := h2 hk hq
      have e3 := h3 hi hk (by omega)
      rw [rst_both (G := F) (by rw [x.n]; omega) (by rw [x.m]; exact hk), rst_both hi hk, x.p2 i k hq hi hk, x.g2 i hq hi, x.h k hk, e1, e2, e3]
    · rw [rst_fst (G := F) (by rw [x.n]; omega) (by rw [x.m]; exact hk), rst_fst hi hk, x.g2 i hq hi, e1]
  · by_cases hk : k < G.m
    · have e2 := h2 hk hq
      rw [rst_snd (G := F) (by rw [x.n]; omega) (by rw [x.m]; exact hk), rst_snd hi hk, x.h k hk, e2]
    · rw [rst_none (G := F) (by rw [x.n]; omega) (by rw [x.m]; exact hk), rst_none hi hk]
theorem rst_one {G F : Grd} {q : Nat} {z : Int} (x : One G F q z) (i k : Nat) : i ≤ q → rst F i k ≤ rst G i k + z := by
  refine grd_ind G (P := fun i k => i ≤ q → rst F i k ≤ rst G i k + z) (fun i k h1 h2 h3 hq => ?_) i k
  have hqn := x.hq
  by_cases he : i = q
  · subst he
    have h4 := rst_le_g (G := F) (i := i) (k := k) (by rw [x.n]; omega)
    rw [x.z, rst_one2 x i k (Nat.le_refl _)] at h4; omega
  · have hi : i < G.n := by omega
    have e1 := h1 hi (by omega)
    have q1 := rst_le_g (G := F) (i := i) (k := k) (by rw [x.n]; omega)
    rw [x.g i (by omega)] at q1
    by_cases hk : k < G.m
    · have e2 := h2 hk hq
      have e3 := h3 hi hk (by omega)
      have q2 := rst_le_h (G := F) (i := i) (k := k) (by rw [x.m]; exact hk)
      have q3 := rst_le_p (G := F) (i := i) (k := k) (by rw [x.n]; omega) (by rw [x.m]; exact hk)
      rw [x.h k hk] at q2
      rw [x.p i k (by omega) hk] at q3
      rw [rst_both hi hk]; omega
    · rw [rst_fst hi hk]; omega
/-! ### Numbers of a table, found by going on (for examples) -/
def rstF (G : Grd) : Nat → Nat → Nat → Int
  | 0, _, _ => 0
  | f + 1, i, k =>
    if i < G.n then
      if k < G.m then min (min (G.p i k + rstF G f (i + 1) (k + 1)) (G.g i + rstF G f (i + 1) k)) (G.h k + rstF G f i (k + 1))
      else G.g i + rstF G f (i + 1) k
    else if k < G.m then G.h k + rstF G f i (k + 1)
    else 0
theorem rstF_eq {G : Grd} : ∀ (f i k : Nat), (G.n - i) + (G.m - k) ≤ f → rstF G f i k = rst G i k
  | 0, i, k, h => by rw [rst_none (by omega) (by omega)]; rfl
  | f + 1, i, k, h => by
    unfold rstF
    by_cases hi : i < G.n
    · rw [if_pos hi]
      by_cases hk : k < G.m
      · rw [if_pos hk, rst_both hi hk, rstF_eq f _ _ (by omega), rstF_eq f _ _ (by omega), rstF_eq f _ _ (by omega)]
      · rw [if_neg hk, rst_fst hi hk, rstF_eq f _ _ (by omega)]
    · rw [if_neg hi]
      by_cases hk : k < G.m
      · rw [if_pos hk, rst_snd hi hk, rstF_eq f _ _ (by omega)]
      · rw [if_neg hk, rst_none hi hk]
def fstK (G : Grd) (f i k : Nat) : Option Mv := (mvs G i k).find? fun x => decide (x.cost + rstF G f (i + x.fst) (k + x.snd) = rstF G f i k)
theorem fstK_eq {G : Grd} {f i k : Nat} (h : (G.n - i) + (G.m - k) ≤ f) : fstK G f i k = fstM G i k := by
  unfold fstK fstM
  congr 1
  funext x
  rw [rstF_eq f i k h, rstF_eq f _ _ (by omega)]
  rfl
def alnK (G : Grd) (f : Nat) : Nat → Nat → Nat → List (List Int)
  | 0, _, _ => []
  | g + 1, i, k => match fstK G f i k with
    | some x => mvCol i k x :: alnK G f g (i + x.fst) (k + x.snd)
    | none => []
theorem alnK_eq {G : Grd} {f : Nat} : ∀ (g i k : Nat), (G.n - i) + (G.m - k) ≤ f → alnK G f g i k = alnF G g i k
  | 0, _, _, _ => rfl
  | g + 1, i, k, h => by
    unfold alnK alnF
    rw [fstK_eq h]
    cases hx : fstM G i k with
    | none => rfl
    | some x => simp only; rw [alnK_eq g _ _ (by omega)]
theorem aln_eval (G : Grd) : aln G 0 0 = alnK G (G.n + G.m) (G.n + G.m) 0 0 := by
  rw [alnK_eq _ _ _ (by omega)]; rfl
end Go.Proofs.YtmcgificpaeipaaGreatDoor
/- The engine: operations whose guard is known to hold. It speaks of any program. -/
namespace Go.Proofs.YtmcgificpaeipaaGreatDoor
open Go.RowKit Go.Shelf

/-- The guard is known: the operation is carried out. -/
theorem OpT.sure {C : Cx} {all : Array Oper} {o : Oper} {env : Env} {ec : EnvC} {H : List HA} {Φ : Env → EnvC → List HA → Prop} {i s : Nat} {p : Bool} (hgd : o.guard = some (i, p)) (hs : dstL all i = some s) (hv : lookE env s = some (.bool p))
    (h : OpT C all { o with guard := none } env ec H Φ) : OpT C all o env ec H Φ := by
  intro a w ha hw K Q hK
  have h1 := h a w ha hw K Q hK
  have hw0 : Region.wanted { o with guard := none } (yielded all a.tmps) = true := by simp [Region.wanted]
  have ht := ha.at_ s _ hv
  have hy : yielded all a.tmps i = some p := by
    unfold yielded
    rw [← dstL_eq, hs]
    simp only [Option.bind_some]
    rw [Array.getD_eq_getD_getElem?] at ht
    cases hq : a.tmps[s]? with
    | none => rw [hq] at ht; simp [undef] at ht
    | some u => rw [hq] at ht; simp only [Option.getD_some] at ht; subst ht; rfl
  have hwn : Region.wanted o (yielded all a.tmps) = true := by
    unfold Region.wanted
    rw [hgd]
    simp [hy]
  exact ⟨fun _ => h1.1 hw0, fun hn => by rw [hwn] at hn; cases hn⟩
/-! The guards cannot hold: whatever value is taken. -/
def isIx : Op → Bool
  | .indexAddr _ _ _ => true
  | _ => false
def isLd : Op → Bool
  | .load _ _ => true
  | _ => false
theorem Val.neverP {C : Cx} {all : Array Oper} {o : Oper} {env : Env} {ec : EnvC} {Hs : List HA} {G : GId} (_ : isIx o.op = true) (hn : GP all env ec G → False) : Val C all o env ec Hs G (.pointer (some ⟨0, 0, none⟩)) := fun _ _ ha _ hH => (hn (hH.gp ha)).elim
theorem Val.neverI {C : Cx} {all : Array Oper} {o : Oper} {env : Env} {ec : EnvC} {Hs : List HA} {G : GId} (_ : isLd o.op = true) (hn : GP all env ec G → False) : Val C all o env ec Hs G (.int .i64 0) := fun _ _ ha _ hH => (hn (hH.gp ha)).elim
end Go.Proofs.YtmcgificpaeipaaGreatDoor
/- The engine: slices that are cut out of slices. It speaks of any program. -/
namespace Go.Proofs.YtmcgificpaeipaaGreatDoor
open Go.RowKit Go.Shelf

theorem Rm.r {e : TypeId} {sz cap n cap' n' : Nat} {A : Option Addr} {xs xs' : List Value} {H : List HA} (h1 : cap' = cap) (h2 : n' = n) (h : xs' = xs) : Rm (row e sz A cap n xs) (row e sz A cap' n' xs' :: H) H := by subst h; subst h1; subst h2; exact .here
/-- Entries in whatever order; rows and blocks by their names. -/
theorem Hle.srt2 {H K : List HA} (h : Pk H K := by repeat' (first | exact Pk.nil _ | apply Pk.cons | with_reducible exact Rm.here | ((with_reducible apply Rm.b); rfl) | ((with_reducible apply Rm.r) <;> rfl) | apply Rm.there)) : Hle H K := Hle.any (h := h.spec)
theorem flat_len {α : Type} (cells : α → List Value) (sz : Nat) (h : ∀ t, (cells t).length = sz) : ∀ l : List α, (l.flatMap cells).length = l.length * sz
  | [] => by simp
  | t :: l => by rw [List.flatMap_cons, List.length_append, h, flat_len cells sz h l, List.length_cons, Nat.succ_mul]; omega
theorem flat_sub {α : Type} (cells : α → List Value) (sz : Nat) (h : ∀ t, (cells t).length = sz) (l : List α) (lo hi j : Nat) (u : Value) (hu : (((l.take hi).drop lo).flatMap cells)[j]? = some u) : (l.flatMap cells)[lo * sz + j]? = some u := by
  have hlo : lo ≤ (l.take hi).length := by
    rcases Nat.lt_or_ge (l.take hi).length lo with h1 | h1
    · rw [List.drop_of_length_le (by omega)] at hu; simp at hu
    · exact h1
  have e1 : ((l.take hi).flatMap cells)[lo * sz + j]? = some u := by
    rw [← List.take_append_drop lo (l.take hi), List.flatMap_append, List.getElem?_append_right (by rw [flat_len cells sz h, List.length_take]; have := Nat.mul_le_mul_right sz (Nat.min_le_left lo (l.take hi).length); omega), flat_len cells sz h, List.length_take, Nat.min_eq_left hlo, Nat.add_sub_cancel_left]
    exact hu
  rw [← List.take_append_drop hi l, List.flatMap_append, List.getElem?_append_left (List.getElem?_eq_some_iff.1 e1).1]
  exact e1
/-- A slice that is cut out of another one. -/
theorem src_sub {α : Type} (cells : α → List Value) (sz : Nat) (h : ∀ t, (cells t).length = sz) {w : World} {A : Option Addr} {n ca : Nat} {l : List α} (hs : Src w sz A n (l.flatMap cells)) (hl : l.length = n) (lo hi : Nat) (h1 : lo ≤ hi) (h2 : hi ≤ n) (h3 : n ≤ ca) :
    Src w sz (cutA A ca lo sz) (hi - lo) (((l.take hi).drop lo).flatMap cells) := by
  refine ⟨by rw [flat_len cells sz h, List.length_drop, List.length_take]; congr 1; omega, fun hn => ?_⟩
  obtain ⟨hA, hr⟩ := hs.2 (by omega)
  unfold isAt at hA
  have e : cutA A ca lo sz = some ⟨bk A, ofs A + lo * sz, none⟩ := by
    unfold cutA
    rw [if_neg (by omega), hA]
    simp only [Option.map_some, Addr.add]
    congr 1
    split
    · rename_i hz; rw [hz]; rfl
    · rfl
  rw [e]
  refine ⟨rfl, fun j u hu => ?_⟩
  have := hr (lo * sz + j) u (flat_sub cells sz h l lo hi j u hu)
  show w.cell? ⟨bk A, ofs A + lo * sz + j, none⟩ = _
  rw [Nat.add_assoc]; exact this
/-- A slice's beginning. -/
theorem src_take {α : Type} (cells : α → List Value) (sz : Nat) (h : ∀ t, (cells t).length = sz) {w : World} {A : Option Addr} {n : Nat} {l : List α} (hs : Src w sz A n (l.flatMap cells)) (hl : l.length = n) (hi : Nat) (h2 : hi ≤ n) :
    Src w sz A hi ((l.take hi).flatMap cells) := by
  refine ⟨by rw [flat_len cells sz h, List.length_take]; congr 1; omega, fun hn => ?_⟩
  obtain ⟨hA, hr⟩ := hs.2 (by omega)
  refine ⟨hA, fun j u hu => hr j u ?_⟩
  have := flat_sub cells sz h l 0 hi j u (by rw [List.drop_zero]; exact hu)
  rwa [Nat.zero_mul, Nat.zero_add] at this
end Go.Proofs.YtmcgificpaeipaaGreatDoor
/- Walks: pairs of sources: what an alignment costs (the program). -/
namespace Go.Proofs.YtmcgificpaeipaaGreatDoor
open Go.RowKit Go.Shelf Go.Proofs
set_option maxRecDepth 100000
set_option maxHeartbeats 1000000

theorem drop_get {α : Type} {l : List α} {j : Nat} {x : α} (h : l[j]? = some x) : l.drop j = x :: l.drop (j + 1) := by
  obtain ⟨hl, e⟩ := List.getElem?_eq_some_iff.1 h
  rw [List.drop_eq_getElem_cons hl, e]
theorem len2 {r : List Int} (h : r.length = 2) : ∃ u v, r = [u, v] := by
  match r, h with
  | [u, v], _ => exact ⟨u, v, rfl⟩
theorem Two.pair {w : World} {A B : Option Addr} {n m : Nat} {a b : List Tok} (h : Two w A B n m a b) (c : Costs) (ca cb : Nat) (x y : Value) (hk : ckV c a b = 0) (i k : Nat) (hi : i < n) (hkk : k < m) :
    Spec Tryz.prog 79 [.agg (srcsL c A B n m ca cb x y).toArray, .int .i64 (i : Nat), .int .i64 (k : Nat)] w (fun v R => v = .int .i64 ((grdOf c a b).p i k) ∧ R = []) :=
  ppair_spec c A B n m ca cb a b x y i k w h.hst h.ha h.hn h.hb h.hm h.hsa h.hsb hk hi hkk
theorem pcost_spec (c : Costs) (A B : Option Addr) (n m ca cb : Nat) (a b : List Tok) (x y z : Value) (cols : List (List Int)) (w : World) (h2 : Two w A B n m a b) (hk : ckV c a b = 0) (hx : Rd (wr w) [x] [intsD (gaL c a)]) (hy : Rd (wr w) [y] [intsD (gaL c b)]) (hz : Rd (wr w) [z] [rowsD cols]) :
    Spec Tryz.prog 54 [.agg (srcsL c A B n m ca cb x y).toArray, z] w (fun v R => v = .tuple #[.int .i64 (costP (grdOf c a b) cols 0 0 0).1, .bool (costP (grdOf c a b) cols 0 0 0).2] ∧ R = []) := by
  have hG := grdOf_ok (ckV_ok hk).1 a b
  have e1 : (grdOf c a b).n = n := h2.hn
  have e2 : (grdOf c a b).m = m := h2.hm
  have hnb := h2.hnb
  have hmb := h2.hmb
  obtain ⟨A1, cap1, rfl, -, -, hA1⟩ := hx.row1
  obtain ⟨A2, cap2, rfl, -, -, hA2⟩ := hy.row1
  rw [gaL_length, h2.hn] at hA1
  rw [gaL_length, h2.hm] at hA2
  obtain ⟨At, capt, cs, rfl, ht1, ht2, hcs, hA, hrows⟩ := hz.tab
  refine spec_of sg Tryz.func54 rfl rfl rfl ?_
  refine T_op (OpT.box (cs := srcsL c A B n m ca cb (.slice A1 (gaL c a).length cap1) (.slice A2 (gaL c b).length cap2)) rfl rfl rfl rfl rfl rfl rfl (fun pc => ?_))
  rw [gaL_length, gaL_length, h2.hn, h2.hm]
  repeat' (first | refine d1 ?_ | refine dd ?_ | (show ∀ _ : Nat, T _ _ _ _ _; intro _))
  refine T_loopX (fun s : Nat × Nat × Nat × Int => [(13, .int .i64 s.1), (6, .int .i64 s.2.2.2), (7, .int .i64 s.2.1), (8, .int .i64 s.2.2.1)]) (fun _ => [blk pc (srcsL c A B n m ca cb (.slice A1 n cap1) (.slice A2 m cap2)) 75]) (fun s => s.1 ≤ cols.length ∧ s.2.1 ≤ n ∧ s.2.2.1 ≤ m ∧ 0 ≤ s.2.2.2 ∧ s.2.2.2 ≤ 1000 * ((s.2.1 : Int) + s.2.2.1) ∧ costP (grdOf c a b) cols 0 0 0 = costP (grdOf c a b) (cols.drop s.1) s.2.1 s.2.2.1 s.2.2.2) (fun s => cols.length - s.1) (0, 0, 0, 0) ⟨Nat.zero_le _, Nat.zero_le _, Nat.zero_le _, Int.le_refl _, by simp, rfl⟩ ?_
  rintro ⟨j, i, k, s⟩ ⟨hj, hi, hkm, hs0, hs1, hc⟩
  dsimp only at hj hi hkm hs0 hs1 hc ⊢
  repeat' (first | refine d1 ?_ | refine dd ?_ | (show ∀ _ : Nat, T _ _ _ _ _; intro _))
  refine T_if rfl (fun h => ?_) (fun h => ?_)
  · simp only [decide_eq_true_eq] at h
    obtain ⟨bt, ot, rfl, hb⟩ := hA (by omega)
    obtain ⟨r, hr⟩ : ∃ u, cols[j]? = some u := ⟨_, List.getElem?_eq_getElem (by omega)⟩
    obtain ⟨A', cap', hc1, hl1, hm1, hA3⟩ := hrows.tabRow hr
    have hr1 : RdC w bt (ot + (j : Int).toNat * 1) [.slice A' r.length cap'] := RdC.one (by rw [off1]; exact hb j _ hc1)
    rw [drop_get hr] at hc
    by_cases hl : r.length = 2
    · obtain ⟨u, v, rfl⟩ := len2 hl
      obtain ⟨br, orr, rfl, hb2⟩ := hA3 (by simp)
      have hr2 : RdC w br (orr + (0 : Int).toNat * 1) [.int .i64 u] := RdC.one (hb2 0 _ rfl)
      have hr3 : RdC w br (orr + (1 : Int).toNat * 1) [.int .i64 v] := RdC.one (hb2 1 _ rfl)
      repeat' (first | refine d1 ?_ | refine dd ?_ | (show ∀ _ : Nat, T _ _ _ _ _; intro _))
      refine T_if rfl (fun h3 => ?_) (fun h3 => ?_)
      · have hbad : mvOf (grdOf c a b) i k [u, v] = none := mvOf_none fun u' v' e hu hv => by
          cases e
          rw [e1] at hu
          rw [e2] at hv
          simp at h3
          omega
        rw [costP_bad hbad] at hc
        repeat' (first | refine d1 ?_ | refine dd ?_ | (show ∀ _ : Nat, T _ _ _ _ _; intro _) | (show T _ (.code .ret :: _) _ _ _; refine T_retV [] rfl (Hle.none _) ⟨by rw [hc]; rfl, rfl⟩))
      · simp at h3
        repeat' (first | refine d1 ?_ | refine dd ?_ | (show ∀ _ : Nat, T _ _ _ _ _; intro _))
        refine T_if rfl (fun h4 => ?_) (fun h4 => ?_)
        · simp only [Bool.and_eq_true, decide_eq_true_eq] at h4
          obtain rfl : u = i := by omega
          obtain rfl : v = k := by omega
          have hin : i < n := by omega
          have hkn : k < m := by omega
          have hp := hG.p i k
          rw [costP_cons (mvOf_both (by rw [e1]; exact hin) (by rw [e2]; exact hkn))] at hc
          repeat' (first | refine d1 ?_ | refine dd ?_ | (show T _ (.ops _ (_ :: _) :: _) _ _ _; first | refine T_call rfl rfl rfl rfl rfl (fun w hw => (h2.cls hw).pair c ca cb _ _ hk i k hin hkn) ?_ | refine T_callC rfl rfl rfl rfl rfl rfl rfl (fun hg w hw => (h2.cls hw).pair c ca cb _ _ hk i k hin hkn) ?_) | (show T _ (.run _ _ (_ :: _) _ _ :: _) _ _ _; first | refine rc rfl rfl rfl rfl rfl rfl rfl (fun w hw => (h2.cls hw).pair c ca cb _ _ hk i k hin hkn) ?_ | refine rcG rfl rfl rfl rfl rfl rfl rfl rfl rfl (fun hg w hw => (h2.cls hw).pair c ca cb _ _ hk i k hin hkn) ?_) | (show ∀ _ : Nat, T _ _ _ _ _; intro _))
          exact T_backX (j + 1, i + 1, k + 1, s + (grdOf c a b).p i k) ⟨by dsimp only; omega, by dsimp only; omega, by dsimp only; omega, by dsimp only; omega, by dsimp only; omega, hc⟩ (by dsimp only; omega)
        · have h4' : ¬ (0 ≤ u ∧ 0 ≤ v) := fun hh => by rw [decide_eq_true hh.1, decide_eq_true hh.2] at h4; cases h4
          repeat' (first | refine d1 ?_ | refine dd ?_ | (show ∀ _ : Nat, T _ _ _ _ _; intro _))
          refine T_if rfl (fun h5 => ?_) (fun h5 => ?_)
          · simp only [decide_eq_true_eq] at h5
            obtain rfl : u = i := by omega
            obtain rfl : v = -1 := by omega
            have hin : i < n := by omega
            have hg := hG.g i
            rw [costP_cons (mvOf_fst (by rw [e1]; exact hin))] at hc
            obtain ⟨g1, o1, rfl, hg1⟩ := hA1 (by omega)
            have hr4 : RdC w g1 (o1 + (i : Int).toNat * 1) [.int .i64 ((grdOf c a b).g i)] := RdC.one (by rw [off1]; exact hg1 i _ (gaL_get (by rw [h2.hn]; exact hin)))
            repeat' (first | refine d1 ?_ | refine dd ?_ | (show T _ (.ops _ (_ :: _) :: _) _ _ _; first | refine T_val rfl (Val.indexA rfl (fun _ => by omega)) rfl rfl rfl ?_ | refine T_valC rfl (Val.indexA rfl (fun _ => by omega)) rfl rfl rfl rfl rfl ?_) | (show T _ (.run _ _ (_ :: _) _ _ :: _) _ _ _; first | refine rv rfl rfl rfl (Val.indexA rfl (fun _ => by omega)) rfl rfl rfl ?_ | refine rg rfl rfl rfl (Val.indexA rfl (fun _ => by omega)) rfl rfl rfl rfl rfl ?_) | (show ∀ _ : Nat, T _ _ _ _ _; intro _))
            exact T_backX (j + 1, i + 1, k, s + (grdOf c a b).g i) ⟨by dsimp only; omega, by dsimp only; omega, by dsimp only; omega, by dsimp only; omega, by dsimp only; omega, hc⟩ (by dsimp only; omega)
          · simp only [decide_eq_false_iff_not] at h5
            repeat' (first | refine d1 ?_ | refine dd ?_ | (show ∀ _ : Nat, T _ _ _ _ _; intro _))
            refine T_if rfl (fun h6 => ?_) (fun h6 => ?_)
            · simp only [decide_eq_true_eq] at h6
              obtain rfl : u = -1 := by omega
              obtain rfl : v = k := by omega
              have hkn : k < m := by omega
              have hg := hG.h k
              rw [costP_cons (mvOf_snd (by rw [e2]; exact hkn))] at hc
              obtain ⟨g2, o2, rfl, hg2⟩ := hA2 (by omega)
              have hr4 : RdC w g2 (o2 + (k : Int).toNat * 1) [.int .i64 ((grdOf c a b).h k)] := RdC.one (by rw [off1]; exact hg2 k _ (gaL_get (by rw [h2.hm]; exact hkn)))
              repeat' (first | refine d1 ?_ | refine dd ?_ | (show T _ (.ops _ (_ :: _) :: _) _ _ _; first | refine T_val rfl (Val.indexA rfl (fun _ => by omega)) rfl rfl rfl ?_ | refine T_valC rfl (Val.indexA rfl (fun _ => by omega)) rfl rfl rfl rfl rfl ?_) | (show T _ (.run _ _ (_ :: _) _ _ :: _) _ _ _; first | refine rv rfl rfl rfl (Val.indexA rfl (fun _ => by omega)) rfl rfl rfl ?_ | refine rg rfl rfl rfl (Val.indexA rfl (fun _ => by omega)) rfl rfl rfl rfl rfl ?_) | (show ∀ _ : Nat, T _ _ _ _ _; intro _))
              exact T_backX (j + 1, i, k + 1, s + (grdOf c a b).h k) ⟨by dsimp only; omega, by dsimp only; omega, by dsimp only; omega, by dsimp only; omega, by dsimp only; omega, hc⟩ (by dsimp only; omega)
            · simp only [decide_eq_false_iff_not] at h6
              have hbad : mvOf (grdOf c a b) i k [u, v] = none := mvOf_none fun u' v' e hu hv => by
                cases e
                omega
              rw [costP_bad hbad] at hc
              repeat' (first | refine d1 ?_ | refine dd ?_ | (show ∀ _ : Nat, T _ _ _ _ _; intro _) | (show T _ (.code .ret :: _) _ _ _; refine T_retV [] rfl (Hle.none _) ⟨by rw [hc]; rfl, rfl⟩))
    · have hbad : mvOf (grdOf c a b) i k r = none := mvOf_none fun u' v' e hu hv => by subst e; exact absurd rfl hl
      rw [costP_bad hbad] at hc
      repeat' (first | refine d1 ?_ | refine dd ?_ | (show T _ (.ops _ (_ :: _) :: _) _ _ _; first | refine T_val rfl (Val.neverP rfl (fun hg => by exfalso; first | ((simp only [List.cons_append, List.nil_append, GP, dstL, lookE, Nat.beq, cond, List.getElem?_cons_zero, List.getElem?_cons_succ, Option.bind_some, and_true, Bool.and_eq_true, Bool.or_eq_true, Bool.and_eq_false_iff, Bool.or_eq_false_iff, Bool.not_eq_true', Bool.not_eq_false', decide_eq_true_eq, decide_eq_false_iff_not] at hg); done) | ((simp only [List.cons_append, List.nil_append, GP, dstL, lookE, Nat.beq, cond, List.getElem?_cons_zero, List.getElem?_cons_succ, Option.bind_some, and_true, Bool.and_eq_true, Bool.or_eq_true, Bool.and_eq_false_iff, Bool.or_eq_false_iff, Bool.not_eq_true', Bool.not_eq_false', decide_eq_true_eq, decide_eq_false_iff_not] at hg); omega))) rfl rfl rfl ?_ | refine T_valC rfl (Val.neverP rfl (fun hg => by exfalso; first | ((simp only [List.cons_append, List.nil_append, GP, dstL, lookE, Nat.beq, cond, List.getElem?_cons_zero, List.getElem?_cons_succ, Option.bind_some, and_true, Bool.and_eq_true, Bool.or_eq_true, Bool.and_eq_false_iff, Bool.or_eq_false_iff, Bool.not_eq_true', Bool.not_eq_false', decide_eq_true_eq, decide_eq_false_iff_not] at hg); done) | ((simp only [List.cons_append, List.nil_append, GP, dstL, lookE, Nat.beq, cond, List.getElem?_cons_zero, List.getElem?_cons_succ, Option.bind_some, and_true, Bool.and_eq_true, Bool.or_eq_true, Bool.and_eq_false_iff, Bool.or_eq_false_iff, Bool.not_eq_true', Bool.not_eq_false', decide_eq_true_eq, decide_eq_false_iff_not] at hg); omega))) rfl rfl rfl rfl rfl ?_ | refine T_val rfl (Val.neverI rfl (fun hg => by exfalso; first | ((simp only [List.cons_append, List.nil_append, GP, dstL, lookE, Nat.beq, cond, List.getElem?_cons_zero, List.getElem?_cons_succ, Option.bind_some, and_true, Bool.and_eq_true, Bool.or_eq_true, Bool.and_eq_false_iff, Bool.or_eq_false_iff, Bool.not_eq_true', Bool.not_eq_false', decide_eq_true_eq, decide_eq_false_iff_not] at hg); done) | ((simp only [List.cons_append, List.nil_append, GP, dstL, lookE, Nat.beq, cond, List.getElem?_cons_zero, List.getElem?_cons_succ, Option.bind_some, and_true, Bool.and_eq_true, Bool.or_eq_true, Bool.and_eq_false_iff, Bool.or_eq_false_iff, Bool.not_eq_true', Bool.not_eq_false', decide_eq_true_eq, decide_eq_false_iff_not] at hg); omega))) rfl rfl rfl ?_ | refine T_valC rfl (Val.neverI rfl (fun hg => by exfalso; first | ((simp only [List.cons_append, List.nil_append, GP, dstL, lookE, Nat.beq, cond, List.getElem?_cons_zero, List.getElem?_cons_succ, Option.bind_some, and_true, Bool.and_eq_true, Bool.or_eq_true, Bool.and_eq_false_iff, Bool.or_eq_false_iff, Bool.not_eq_true', Bool.not_eq_false', decide_eq_true_eq, decide_eq_false_iff_not] at hg); done) | ((simp only [List.cons_append, List.nil_append, GP, dstL, lookE, Nat.beq, cond, List.getElem?_cons_zero, List.getElem?_cons_succ, Option.bind_some, and_true, Bool.and_eq_true, Bool.or_eq_true, Bool.and_eq_false_iff, Bool.or_eq_false_iff, Bool.not_eq_true', Bool.not_eq_false', decide_eq_true_eq, decide_eq_false_iff_not] at hg); omega))) rfl rfl rfl rfl rfl ?_) | (show T _ (.run _ _ (_ :: _) _ _ :: _) _ _ _; first | refine rv rfl rfl rfl (Val.neverP rfl (fun hg => by exfalso; first | ((simp only [List.cons_append, List.nil_append, GP, dstL, lookE, Nat.beq, cond, List.getElem?_cons_zero, List.getElem?_cons_succ, Option.bind_some, and_true, Bool.and_eq_true, Bool.or_eq_true, Bool.and_eq_false_iff, Bool.or_eq_false_iff, Bool.not_eq_true', Bool.not_eq_false', decide_eq_true_eq, decide_eq_false_iff_not] at hg); done) | ((simp only [List.cons_append, List.nil_append, GP, dstL, lookE, Nat.beq, cond, List.getElem?_cons_zero, List.getElem?_cons_succ, Option.bind_some, and_true, Bool.and_eq_true, Bool.or_eq_true, Bool.and_eq_false_iff, Bool.or_eq_false_iff, Bool.not_eq_true', Bool.not_eq_false', decide_eq_true_eq, decide_eq_false_iff_not] at hg); omega))) rfl rfl rfl ?_ | refine rg rfl rfl rfl (Val.neverP rfl (fun hg => by exfalso; first | ((simp only [List.cons_append, List.nil_append, GP, dstL, lookE, Nat.beq, cond, List.getElem?_cons_zero, List.getElem?_cons_succ, Option.bind_some, and_true, Bool.and_eq_true, Bool.or_eq_true, Bool.and_eq_false_iff, Bool.or_eq_false_iff, Bool.not_eq_true', Bool.not_eq_false', decide_eq_true_eq, decide_eq_false_iff_not] at hg); done) | ((simp only [List.cons_append, List.nil_append, GP, dstL, lookE, Nat.beq, cond, List.getElem?_cons_zero, List.getElem?_cons_succ, Option.bind_some, and_true, Bool.and_eq_true, Bool.or_eq_true, Bool.and_eq_false_iff, Bool.or_eq_false_iff, Bool.not_eq_true', Bool.not_eq_false', decide_eq_true_eq, decide_eq_false_iff_not] at hg); omega))) rfl rfl rfl rfl rfl ?_ | refine rv rfl rfl rfl (Val.neverI rfl (fun hg => by exfalso; first | ((simp only [List.cons_append, List.nil_append, GP, dstL, lookE, Nat.beq, cond, List.getElem?_cons_zero, List.getElem?_cons_succ, Option.bind_some, and_true, Bool.and_eq_true, Bool.or_eq_true, Bool.and_eq_false_iff, Bool.or_eq_false_iff, Bool.not_eq_true', Bool.not_eq_false', decide_eq_true_eq, decide_eq_false_iff_not] at hg); done) | ((simp only [List.cons_append, List.nil_append, GP, dstL, lookE, Nat.beq, cond, List.getElem?_cons_zero, List.getElem?_cons_succ, Option.bind_some, and_true, Bool.and_eq_true, Bool.or_eq_true, Bool.and_eq_false_iff, Bool.or_eq_false_iff, Bool.not_eq_true', Bool.not_eq_false', decide_eq_true_eq, decide_eq_false_iff_not] at hg); omega))) rfl rfl rfl ?_ | refine rg rfl rfl rfl (Val.neverI rfl (fun hg => by exfalso; first | ((simp only [List.cons_append, List.nil_append, GP, dstL, lookE, Nat.beq, cond, List.getElem?_cons_zero, List.getElem?_cons_succ, Option.bind_some, and_true, Bool.and_eq_true, Bool.or_eq_true, Bool.and_eq_false_iff, Bool.or_eq_false_iff, Bool.not_eq_true', Bool.not_eq_false', decide_eq_true_eq, decide_eq_false_iff_not] at hg); done) | ((simp only [List.cons_append, List.nil_append, GP, dstL, lookE, Nat.beq, cond, List.getElem?_cons_zero, List.getElem?_cons_succ, Option.bind_some, and_true, Bool.and_eq_true, Bool.or_eq_true, Bool.and_eq_false_iff, Bool.or_eq_false_iff, Bool.not_eq_true', Bool.not_eq_false', decide_eq_true_eq, decide_eq_false_iff_not] at hg); omega))) rfl rfl rfl rfl rfl ?_) | (show ∀ _ : Nat, T _ _ _ _ _; intro _))
      refine T_if rfl (fun h3 => ?_) (fun h3 => ?_)
      · repeat' (first | refine d1 ?_ | refine dd ?_ | (show ∀ _ : Nat, T _ _ _ _ _; intro _) | (show T _ (.code .ret :: _) _ _ _; refine T_retV [] rfl (Hle.none _) ⟨by rw [hc]; rfl, rfl⟩))
      · exfalso
        simp at h3
        omega
  · simp only [decide_eq_false_iff_not] at h
    obtain rfl : j = cols.length := by omega
    rw [List.drop_of_length_le (Nat.le_refl _)] at hc
    have q1 : decide ((i : Int) = n) = decide (i = n) := decide_eq_decide.2 ⟨fun h => by omega, fun h => by omega⟩
    have q2 : decide ((k : Int) = m) = decide (k = m) := decide_eq_decide.2 ⟨fun h => by omega, fun h => by omega⟩
    repeat' (first | refine d1 ?_ | refine dd ?_ | (show ∀ _ : Nat, T _ _ _ _ _; intro _) | (show T _ (.code .ret :: _) _ _ _; refine T_retV [] rfl (Hle.none _) ⟨?_, rfl⟩))
    rw [hc]
    show Value.tuple #[.int .i64 s, .bool (decide ((i : Int) = n) && decide ((k : Int) = m))] = .tuple #[.int .i64 s, .bool (decide (i = (grdOf c a b).n) && decide (k = (grdOf c a b).m))]
    rw [q1, q2, e1, e2]
/-- What Cost returns. -/
def costV (c : Costs) (a b : List Tok) (cols : List (List Int)) : Int × Int := if ckV c a b = 0 then (match alnd (grdOf c a b) cols 0 0 with | some s => (s, 0) | none => (0, 19)) else (0, 1)
theorem costTop18_spec (c : Costs) (A B : Option Addr) (n m ca cb : Nat) (a b : List Tok) (z : Value) (cols : List (List Int)) (w : World) (h2 : Two w A B n m a b) (hz : Rd (wr w) [z] [rowsD cols]) :
    Spec Tryz.prog 23 [c.val, .slice A n ca, .slice B m cb, z] w (fun v R => v = .tuple #[.int .i64 (costV c a b cols).1, .int .i64 (costV c a b cols).2] ∧ R = []) := by
  refine spec_of sg Tryz.func23 rfl rfl rfl ?_
  refine T_op (OpT.box (cs := c.cells) rfl rfl rfl rfl rfl rfl rfl (fun pc => ?_))
  by_cases hk : ckV c a b = 0
  · repeat' (first | refine d1 ?_ | refine dd ?_ | (show T _ (.ops _ (_ :: _) :: _) _ _ _; refine T_op (OpT.call rfl rfl rfl rfl rfl (fun w hw => (h2.cls hw).ok c ca cb hk) ?_)) | (show ∀ _ : Nat, T _ _ _ _ _; intro _))
    rintro v R ⟨⟨x, y⟩, rfl, rfl⟩
    dsimp only
    refine T_le (H' := [dat [x] [intsD (gaL c a)], dat [y] [intsD (gaL c b)], blk pc c.cells 23]) (Hle.refl _) ?_
    refine T_open2 fun p q hp hq => ?_
    obtain ⟨A1, cap1, rfl, -, -, -⟩ := hp.row1
    obtain ⟨A2, cap2, rfl, -, -, -⟩ := hq.row1
    repeat' (first | refine d1 ?_ | refine dd ?_ | (show T _ (.ops _ (_ :: _) :: _) _ _ _; refine T_op (OpT.storeA rfl rfl rfl rfl rfl rfl (by decide) ?_)) | (show ∀ _ : Nat, T _ _ _ _ _; intro _))
    rename_i p8
    refine T_le (H' := [blk p8 (srcsL c A B n m ca cb (.slice A1 (gaL c a).length cap1) (.slice A2 (gaL c b).length cap2)) 75, fz p, fz q, blk pc c.cells 23]) (Hle.refl _) ?_
    refine T_if rfl (fun h => ?_) (fun h => ?_)
    · cases h
    repeat' (first | refine d1 ?_ | refine dd ?_ | (show T _ (.ops _ (_ :: _) :: _) _ _ _; first | refine T_call rfl rfl rfl rfl rfl (fun w hw => pcost_spec c A B n m ca cb a b _ _ z cols w (h2.cls hw) hk (hp.own hw) (hq.own hw) (hz.old hw)) ?_ | refine T_callC rfl rfl rfl rfl rfl rfl rfl (fun hg w hw => pcost_spec c A B n m ca cb a b _ _ z cols w (h2.cls hw) hk (hp.own hw) (hq.own hw) (hz.old hw)) ?_) | (show T _ (.run _ _ (_ :: _) _ _ :: _) _ _ _; first | refine rc rfl rfl rfl rfl rfl rfl rfl (fun w hw => pcost_spec c A B n m ca cb a b _ _ z cols w (h2.cls hw) hk (hp.own hw) (hq.own hw) (hz.old hw)) ?_ | refine rcG rfl rfl rfl rfl rfl rfl rfl rfl rfl (fun hg w hw => pcost_spec c A B n m ca cb a b _ _ z cols w (h2.cls hw) hk (hp.own hw) (hq.own hw) (hz.old hw)) ?_) | (show ∀ _ : Nat, T _ _ _ _ _; intro _))
    cases ha : alnd (grdOf c a b) cols 0 0 with
    | none =>
      have e : costV c a b cols = (0, 19) := by unfold costV; rw [if_pos hk, ha]
      rw [e, costP_none ha]
      refine T_if rfl (fun h => ?_) (fun h => ?_)
      · repeat' (first | refine d1 ?_ | refine dd ?_ | (show ∀ _ : Nat, T _ _ _ _ _; intro _) | (show T _ (.code .ret :: _) _ _ _; refine T_retV [] rfl (Hle.none _) ⟨rfl, rfl⟩))
      · cases h
    | some s =>
      have e : costV c a b cols = (s, 0) := by unfold costV; rw [if_pos hk, ha]
      rw [e, costP_some ha, Int.zero_add]
      refine T_if rfl (fun h => ?_) (fun h => ?_)
      · cases h
      · repeat' (first | refine d1 ?_ | refine dd ?_ | (show ∀ _ : Nat, T _ _ _ _ _; intro _) | (show T _ (.code .ret :: _) _ _ _; refine T_retV [] rfl (Hle.none _) ⟨rfl, rfl⟩))
  · have e : costV c a b cols = (0, 1) := if_neg hk
    rw [e]
    repeat' (first | refine d1 ?_ | refine dd ?_ | (show T _ (.ops _ (_ :: _) :: _) _ _ _; first | refine T_call rfl rfl rfl rfl rfl (fun w hw => (h2.cls hw).bad c ca cb hk) ?_ | refine T_callC rfl rfl rfl rfl rfl rfl rfl (fun hg w hw => (h2.cls hw).bad c ca cb hk) ?_ | refine T_op (OpT.storeA rfl rfl rfl rfl rfl rfl (by decide) ?_)) | (show T _ (.run _ _ (_ :: _) _ _ :: _) _ _ _; first | refine rc rfl rfl rfl rfl rfl rfl rfl (fun w hw => (h2.cls hw).bad c ca cb hk) ?_ | refine rcG rfl rfl rfl rfl rfl rfl rfl rfl rfl (fun hg w hw => (h2.cls hw).bad c ca cb hk) ?_) | (show ∀ _ : Nat, T _ _ _ _ _; intro _))
    refine T_if rfl (fun h => ?_) (fun h => ?_)
    · repeat' (first | refine d1 ?_ | refine dd ?_ | (show ∀ _ : Nat, T _ _ _ _ _; intro _) | (show T _ (.code .ret :: _) _ _ _; refine T_retV [] rfl (Hle.none _) ⟨rfl, rfl⟩))
    · cases h
end Go.Proofs.YtmcgificpaeipaaGreatDoor
/- Walks: pairs of sources: the first optimal alignment (the program). -/
namespace Go.Proofs.YtmcgificpaeipaaGreatDoor
open Go.RowKit Go.Shelf Go.Proofs
set_option maxRecDepth 100000
set_option maxHeartbeats 1000000

theorem find_at {α : Type} {p : α → Bool} : ∀ {l : List α} {j : Nat} {v : α}, l[j]? = some v → p v = true → (∀ j' y, j' < j → l[j']? = some y → p y = false) → l.find? p = some v
  | x :: l, 0, v, h, hp, _ => by simp at h; subst h; rw [List.find?_cons_of_pos hp]
  | x :: l, j + 1, v, h, hp, hn => by
    rw [List.find?_cons_of_neg (by rw [hn 0 x (by omega) rfl]; simp)]
    exact find_at (l := l) (j := j) (by simpa using h) hp (fun j' y hj hy => hn (j' + 1) y (by omega) (by simpa using hy))
theorem Two.moves {w : World} {A B : Option Addr} {n m : Nat} {a b : List Tok} (h : Two w A B n m a b) (c : Costs) (ca cb : Nat) (x y : Value) (hk : ckV c a b = 0) (hx : Rd (wr w) [x] [intsD (gaL c a)]) (hy : Rd (wr w) [y] [intsD (gaL c b)]) (i k : Nat) (hi : i ≤ n) (hkk : k ≤ m) :
    Spec Tryz.prog 49 [.agg (srcsL c A B n m ca cb x y).toArray, .int .i64 (i : Nat), .int .i64 (k : Nat)] w (fun v R => ∃ z : Option Addr × Nat, True ∧ v = .slice z.1 (mvs (grdOf c a b) i k).length z.2 ∧ R = [row 85 3 z.1 z.2 (mvs (grdOf c a b) i k).length ((mvs (grdOf c a b) i k).flatMap Mv.cells)]) :=
  pmoves_spec c A B n m ca cb a b x y i k w h.hst h.ha h.hn h.hnb h.hb h.hm h.hmb h.hsa h.hsb hk hx hy hi hkk
/-- What Align returns. -/
def alignV (c : Costs) (a b : List Tok) : List (List Int) × Int × Int := if ckV c a b = 0 then (aln (grdOf c a b) 0 0, rst (grdOf c a b) 0 0, 0) else ([], 0, 1)
theorem alignPrg_spec (c : Costs) (A B : Option Addr) (n m ca cb : Nat) (a b : List Tok) (w : World) (h2 : Two w A B n m a b) :
    Spec Tryz.prog 16 [c.val, .slice A n ca, .slice B m cb] w (fun v R => ∃ x : Value, True ∧ v = .tuple #[x, .int .i64 (alignV c a b).2.1, .int .i64 (alignV c a b).2.2] ∧ R = [dat [x] [rowsD (alignV c a b).1]]) := by
  refine spec_of sg Tryz.func16 rfl rfl rfl ?_
  refine T_op (OpT.box (cs := c.cells) rfl rfl rfl rfl rfl rfl rfl (fun pc => ?_))
  by_cases hk : ckV c a b = 0
  · have e : alignV c a b = (aln (grdOf c a b) 0 0, rst (grdOf c a b) 0 0, 0) := if_pos hk
    have hG := grdOf_ok (ckV_ok hk).1 a b
    have e1 : (grdOf c a b).n = n := h2.hn
    have e2 : (grdOf c a b).m = m := h2.hm
    have hnb := h2.hnb
    have hmb := h2.hmb
    rw [e]
    repeat' (first | refine d1 ?_ | refine dd ?_ | (show T _ (.ops _ (_ :: _) :: _) _ _ _; refine T_op (OpT.call rfl rfl rfl rfl rfl (fun w hw => (h2.cls hw).ok c ca cb hk) ?_)) | (show ∀ _ : Nat, T _ _ _ _ _; intro _))
    rintro v R ⟨⟨x, y⟩, rfl, rfl⟩
    dsimp only
    refine T_le (H' := [dat [x] [intsD (gaL c a)], dat [y] [intsD (gaL c b)], blk pc c.cells 23]) (Hle.refl _) ?_
    refine T_open2 fun p q hp hq => ?_
    obtain ⟨A1, cap1, rfl, -, -, -⟩ := hp.row1
    obtain ⟨A2, cap2, rfl, -, -, -⟩ := hq.row1
    repeat' (first | refine d1 ?_ | refine dd ?_ | (show T _ (.ops _ (_ :: _) :: _) _ _ _; refine T_op (OpT.storeA rfl rfl rfl rfl rfl rfl (by decide) ?_)) | (show ∀ _ : Nat, T _ _ _ _ _; intro _))
    rename_i p8
    refine T_le (H' := [blk p8 (srcsL c A B n m ca cb (.slice A1 (gaL c a).length cap1) (.slice A2 (gaL c b).length cap2)) 75, fz p, fz q, blk pc c.cells 23]) (Hle.refl _) ?_
    refine T_if rfl (fun h => ?_) (fun h => ?_)
    · cases h
    repeat' (first | refine d1 ?_ | refine dd ?_ | (show T _ (.ops _ (_ :: _) :: _) _ _ _; refine T_op (OpT.call rfl rfl rfl rfl rfl (fun w hw => (h2.cls hw).grid c ca cb _ _ hk (hp.own hw) (hq.own hw)) ?_)) | (show ∀ _ : Nat, T _ _ _ _ _; intro _))
    rintro v R ⟨⟨s, t⟩, rfl, rfl⟩
    dsimp only [List.cons_append, List.nil_append]
    refine T_le (H' := [dat [s] [rowsD (tabR n m (rst (grdOf c a b)))], dat [t] [rowsD (tabR n m (wys (grdOf c a b)))], fz p, fz q, blk p8 (srcsL c A B n m ca cb (.slice A1 (gaL c a).length cap1) (.slice A2 (gaL c b).length cap2)) 75]) Hle.srt ?_
    refine T_open2 fun p' q' hp' hq' => ?_
    repeat' (first | refine d1 ?_ | refine dd ?_ | (show ∀ _ : Nat, T _ _ _ _ _; intro _))
    refine T_le (H' := [fz p', fz p, fz q, blk p8 (srcsL c A B n m ca cb (.slice A1 (gaL c a).length cap1) (.slice A2 (gaL c b).length cap2)) 75]) Hle.srt ?_
    refine T_le (dat_nil _) ?_
    refine T_nilrow 33 1 ?_
    refine T_loopX (fun x : Nat × Nat × (Option Addr × Nat) × List Value × List (List Int) => [(15, .int .i64 x.1), (16, .int .i64 x.2.1), (14, .slice x.2.2.1.1 x.2.2.2.2.length x.2.2.1.2)]) (fun x => [row 33 1 x.2.2.1.1 x.2.2.1.2 x.2.2.2.2.length x.2.2.2.1, dat x.2.2.2.1 (x.2.2.2.2.map intsD), fz p', fz p, fz q, blk p8 (srcsL c A B n m ca cb (.slice A1 (gaL c a).length cap1) (.slice A2 (gaL c b).length cap2)) 75]) (fun x => x.1 ≤ n ∧ x.2.1 ≤ m ∧ x.2.2.2.2.length ≤ x.1 + x.2.1 ∧ aln (grdOf c a b) 0 0 = x.2.2.2.2 ++ aln (grdOf c a b) x.1 x.2.1) (fun x => (n - x.1) + (m - x.2.1)) (0, 0, (none, 0), [], []) ⟨Nat.zero_le _, Nat.zero_le _, Nat.zero_le _, rfl⟩ ?_
    rintro ⟨i, k, ⟨Ao, capo⟩, hs, out⟩ ⟨hi, hkm, hlo, hout⟩
    dsimp only at hi hkm hlo hout ⊢
    repeat' (first | refine d1 ?_ | refine dd ?_ | (show ∀ _ : Nat, T _ _ _ _ _; intro _))
    refine T_if rfl (fun h3 => ?_) (fun h3 => ?_)
    · have h3' : i < n ∨ k < m := by simpa using h3
      obtain ⟨fm, hfm⟩ := fstM_ex (G := grdOf c a b) (i := i) (k := k) (by rw [e1, e2]; exact h3')
      obtain ⟨hfm1, hfm2⟩ := fstM_mem hfm
      repeat' (first | refine d1 ?_ | refine dd ?_ | (show T _ (.ops _ (_ :: _) :: _) _ _ _; refine T_callE rfl rfl rfl rfl rfl (fun w hw => (h2.cls hw).moves c ca cb _ _ hk (hp.own hw) (hq.own hw) i k hi hkm) (fun z _ => ?_)) | (show ∀ _ : Nat, T _ _ _ _ _; intro _))
      obtain ⟨Az, capz⟩ := z
      dsimp only
      repeat' (first | refine d1 ?_ | refine dd ?_ | (show ∀ _ : Nat, T _ _ _ _ _; intro _))
      refine T_loopX (fun jj : Nat => [(52, .int .i64 jj)]) (fun _ => [row 85 3 Az capz (mvs (grdOf c a b) i k).length ((mvs (grdOf c a b) i k).flatMap Mv.cells), row 33 1 Ao capo out.length hs, dat hs (out.map intsD), fz p', fz p, fz q, blk p8 (srcsL c A B n m ca cb (.slice A1 (gaL c a).length cap1) (.slice A2 (gaL c b).length cap2)) 75]) (fun jj => jj ≤ (mvs (grdOf c a b) i k).length ∧ ∀ j' y, j' < jj → (mvs (grdOf c a b) i k)[j']? = some y → via (grdOf c a b) i k y ≠ rst (grdOf c a b) i k) (fun jj => (mvs (grdOf c a b) i k).length - jj) 0 ⟨Nat.zero_le _, fun _ _ h => by omega⟩ ?_
      rintro jj ⟨hjj, hno⟩
      have hm3 := mvs_len (grdOf c a b) i k
      repeat' (first | refine d1 ?_ | refine dd ?_ | (show ∀ _ : Nat, T _ _ _ _ _; intro _))
      refine T_if rfl (fun h4 => ?_) (fun h4 => ?_)
      · simp only [decide_eq_true_eq] at h4
        have hjl : jj < (mvs (grdOf c a b) i k).length := by omega
        obtain ⟨v, hv⟩ : ∃ v, (mvs (grdOf c a b) i k)[jj]? = some v := ⟨_, List.getElem?_eq_getElem hjl⟩
        refine T_rowpos (A := Az) (by omega) (fun gz e => ?_)
        subst e
        have hb1 := mv_to hG h2.hn h2.hm hi hkm hv
        have hrb := rst_bd2 hG h2.hn h2.hm hnb hmb (i + v.fst) (k + v.snd)
        repeat' (first | refine d1 ?_ | refine dd ?_ | (show T _ (.ops _ (_ :: _) :: _) _ _ _; first | refine T_val rfl (Val.loadA (vs := v.cells) rfl (fun _ => rdRow (A := some ⟨gz, 0, none⟩) (by omega) (fun r u hu => by rw [show 0 + (jj : Int).toNat * 3 = jj * 3 by omega]; exact flat_get Mv.cells 3 (fun _ => rfl) hv r u hu)) rfl) rfl rfl rfl ?_ | refine T_valC rfl (Val.loadA (vs := v.cells) rfl (fun _ => rdRow (A := some ⟨gz, 0, none⟩) (by omega) (fun r u hu => by rw [show 0 + (jj : Int).toNat * 3 = jj * 3 by omega]; exact flat_get Mv.cells 3 (fun _ => rfl) hv r u hu)) rfl) rfl rfl rfl rfl rfl ?_ | refine T_op (OpT.storeA rfl rfl rfl rfl rfl rfl (by decide) ?_) | refine T_call rfl rfl rfl rfl rfl (fun w hw => gridAt_rd (i := i + v.fst) (k := k + v.snd) (hp'.own hw) (by omega) (by omega)) ?_ | refine T_callC rfl rfl rfl rfl rfl rfl rfl (fun hg w hw => gridAt_rd (i := i + v.fst) (k := k + v.snd) (hp'.own hw) (by omega) (by omega)) ?_ | refine T_call rfl rfl rfl rfl rfl (fun w hw => gridAt_rd (i := i) (k := k) (hp'.own hw) (by omega) (by omega)) ?_ | refine T_callC rfl rfl rfl rfl rfl rfl rfl (fun hg w hw => gridAt_rd (i := i) (k := k) (hp'.own hw) (by omega) (by omega)) ?_) | (show T _ (.run _ _ (_ :: _) _ _ :: _) _ _ _; first | refine rv rfl rfl rfl (Val.loadA (vs := v.cells) rfl (fun _ => rdRow (A := some ⟨gz, 0, none⟩) (by omega) (fun r u hu => by rw [show 0 + (jj : Int).toNat * 3 = jj * 3 by omega]; exact flat_get Mv.cells 3 (fun _ => rfl) hv r u hu)) rfl) rfl rfl rfl ?_ | refine rg rfl rfl rfl (Val.loadA (vs := v.cells) rfl (fun _ => rdRow (A := some ⟨gz, 0, none⟩) (by omega) (fun r u hu => by rw [show 0 + (jj : Int).toNat * 3 = jj * 3 by omega]; exact flat_get Mv.cells 3 (fun _ => rfl) hv r u hu)) rfl) rfl rfl rfl rfl rfl ?_ | refine rc rfl rfl rfl rfl rfl rfl rfl (fun w hw => gridAt_rd (i := i + v.fst) (k := k + v.snd) (hp'.own hw) (by omega) (by omega)) ?_ | refine rcG rfl rfl rfl rfl rfl rfl rfl rfl rfl (fun hg w hw => gridAt_rd (i := i + v.fst) (k := k + v.snd) (hp'.own hw) (by omega) (by omega)) ?_ | refine rc rfl rfl rfl rfl rfl rfl rfl (fun w hw => gridAt_rd (i := i) (k := k) (hp'.own hw) (by omega) (by omega)) ?_ | refine rcG rfl rfl rfl rfl rfl rfl rfl rfl rfl (fun hg w hw => gridAt_rd (i := i) (k := k) (hp'.own hw) (by omega) (by omega)) ?_) | (show ∀ _ : Nat, T _ _ _ _ _; intro _))
        rename_i pm
        refine T_if rfl (fun h5 => ?_) (fun h5 => ?_)
        · simp only [Bool.not_eq_true', decide_eq_false_iff_not] at h5
          repeat' (first | refine d1 ?_ | refine dd ?_ | (show ∀ _ : Nat, T _ _ _ _ _; intro _))
          refine T_backX (jj + 1) ⟨Nat.succ_le_of_lt hjl, fun j' y hj hy => ?_⟩ (by omega) (hG := Hle.tail _ _)
          rcases Nat.lt_or_ge j' jj with h6 | h6
          · exact hno j' y h6 hy
          · rw [show j' = jj by omega, hv] at hy
            cases hy
            exact h5
        · simp only [Bool.not_eq_false', decide_eq_true_eq] at h5
          have hf : fstM (grdOf c a b) i k = some v := find_at hv (decide_eq_true h5) fun j' y hj hy => decide_eq_false (hno j' y hj hy)
          rcases mvs_form (fstM_mem hf).1 with ⟨rfl, f1, f2⟩ | ⟨rfl, f1⟩ | ⟨rfl, f1⟩
          · have hst := aln_step hf
            rw [mvCol11] at hst
            rw [hst] at hout
            repeat' (first | refine d1 ?_ | refine dd ?_ | (show ∀ _ : Nat, T _ _ _ _ _; intro _))
            rename_i b1
            refine T_if rfl (fun h6 => ?_) (fun h6 => by cases h6)
            repeat' (first | refine d1 ?_ | refine dd ?_ | (show ∀ _ : Nat, T _ _ _ _ _; intro _))
            refine T_if rfl (fun h7 => ?_) (fun h7 => by cases h7)
            repeat' (first | refine d1 ?_ | refine dd ?_ | (show T _ (.ops _ (_ :: _) :: _) _ _ _; refine T_op (OpT.append rfl rfl rfl rfl rfl rfl rfl rfl rfl rfl (fun w hw => Src.own hw rfl) rfl (by dsimp only; omega) (by omega) (fun A' cap' hA' => ?_))) | (show ∀ _ : Nat, T _ _ _ _ _; intro _))
            rename_i b2
            refine T_le (H' := [blk b2 [.slice (some ⟨b1, 0, none⟩) 2 2] 33, blk b1 [.int .i64 (i : Nat), .int .i64 (k : Nat)] 3, row 33 1 A' cap' (out.length + 1) (hs ++ [.slice (some ⟨b1, 0, none⟩) 2 2]), dat hs (out.map intsD), fz p', fz p, fz q, blk p8 (srcsL c A B n m ca cb (.slice A1 (gaL c a).length cap1) (.slice A2 (gaL c b).length cap2)) 75]) Hle.srt2 ?_
            refine T_le (mv_join rfl) ?_
            refine T_backX (i + 1, k + 1, (A', cap'), hs ++ [.slice (some ⟨b1, 0, none⟩) 2 2], out ++ [[(i : Int), (k : Int)]]) ⟨by dsimp only; omega, by dsimp only; omega, by dsimp only; rw [List.length_append]; simp; omega, by dsimp only; rw [List.append_assoc]; exact hout⟩ (by dsimp only; omega) (hE := ⟨rfl, rfl, by dsimp only; rw [List.length_append]; rfl, trivial⟩) (hG := ?_)
            dsimp only
            rw [List.length_append, List.map_append]
            exact Hle.refl _
          · have hst := aln_step hf
            rw [mvCol10] at hst
            rw [hst] at hout
            repeat' (first | refine d1 ?_ | refine dd ?_ | (show ∀ _ : Nat, T _ _ _ _ _; intro _))
            rename_i b1
            refine T_if rfl (fun h6 => ?_) (fun h6 => by cases h6)
            repeat' (first | refine d1 ?_ | refine dd ?_ | (show ∀ _ : Nat, T _ _ _ _ _; intro _))
            refine T_if rfl (fun h7 => by cases h7) (fun h7 => ?_)
            repeat' (first | refine d1 ?_ | refine dd ?_ | (show T _ (.ops _ (_ :: _) :: _) _ _ _; refine T_op (OpT.append rfl rfl rfl rfl rfl rfl rfl rfl rfl rfl (fun w hw => Src.own hw rfl) rfl (by dsimp only; omega) (by omega) (fun A' cap' hA' => ?_))) | (show ∀ _ : Nat, T _ _ _ _ _; intro _))
            rename_i b2
            refine T_le (H' := [blk b2 [.slice (some ⟨b1, 0, none⟩) 2 2] 33, blk b1 [.int .i64 (i : Nat), .int .i64 (-1)] 3, row 33 1 A' cap' (out.length + 1) (hs ++ [.slice (some ⟨b1, 0, none⟩) 2 2]), dat hs (out.map intsD), fz p', fz p, fz q, blk p8 (srcsL c A B n m ca cb (.slice A1 (gaL c a).length cap1) (.slice A2 (gaL c b).length cap2)) 75]) Hle.srt2 ?_
            refine T_le (mv_join rfl) ?_
            refine T_backX (i + 1, k, (A', cap'), hs ++ [.slice (some ⟨b1, 0, none⟩) 2 2], out ++ [[(i : Int), -1]]) ⟨by dsimp only; omega, by dsimp only; omega, by dsimp only; rw [List.length_append]; simp; omega, by dsimp only; rw [List.append_assoc]; exact hout⟩ (by dsimp only; omega) (hE := ⟨rfl, rfl, by dsimp only; rw [List.length_append]; rfl, trivial⟩) (hG := ?_)
            dsimp only
            rw [List.length_append, List.map_append]
            exact Hle.refl _
          · have hst := aln_step hf
            rw [mvCol01] at hst
            rw [hst] at hout
            repeat' (first | refine d1 ?_ | refine dd ?_ | (show ∀ _ : Nat, T _ _ _ _ _; intro _))
            rename_i b1
            refine T_if rfl (fun h6 => by cases h6) (fun h6 => ?_)
            repeat' (first | refine d1 ?_ | refine dd ?_ | (show ∀ _ : Nat, T _ _ _ _ _; intro _))
            refine T_if rfl (fun h7 => ?_) (fun h7 => by cases h7)
            repeat' (first | refine d1 ?_ | refine dd ?_ | (show T _ (.ops _ (_ :: _) :: _) _ _ _; refine T_op (OpT.append rfl rfl rfl rfl rfl rfl rfl rfl rfl rfl (fun w hw => Src.own hw rfl) rfl (by dsimp only; omega) (by omega) (fun A' cap' hA' => ?_))) | (show ∀ _ : Nat, T _ _ _ _ _; intro _))
            rename_i b2
            refine T_le (H' := [blk b2 [.slice (some ⟨b1, 0, none⟩) 2 2] 33, blk b1 [.int .i64 (-1), .int .i64 (k : Nat)] 3, row 33 1 A' cap' (out.length + 1) (hs ++ [.slice (some ⟨b1, 0, none⟩) 2 2]), dat hs (out.map intsD), fz p', fz p, fz q, blk p8 (srcsL c A B n m ca cb (.slice A1 (gaL c a).length cap1) (.slice A2 (gaL c b).length cap2)) 75]) Hle.srt2 ?_
            refine T_le (mv_join rfl) ?_
            refine T_backX (i, k + 1, (A', cap'), hs ++ [.slice (some ⟨b1, 0, none⟩) 2 2], out ++ [[-1, (k : Int)]]) ⟨by dsimp only; omega, by dsimp only; omega, by dsimp only; rw [List.length_append]; simp; omega, by dsimp only; rw [List.append_assoc]; exact hout⟩ (by dsimp only; omega) (hE := ⟨rfl, rfl, by dsimp only; rw [List.length_append]; rfl, trivial⟩) (hG := ?_)
            dsimp only
            rw [List.length_append, List.map_append]
            exact Hle.refl _
      · exfalso
        simp only [decide_eq_false_iff_not] at h4
        obtain ⟨j', hj', e9⟩ := List.getElem_of_mem hfm1
        exact hno j' fm (by omega) (by rw [List.getElem?_eq_getElem hj', e9]) hfm2
    · have h3' : ¬ (i < n ∨ k < m) := by simpa using h3
      rw [aln_end (i := i) (k := k) (by rw [e1, e2]; exact h3'), List.append_nil] at hout
      rw [hout]
      repeat' (first | refine d1 ?_ | refine dd ?_ | (show T _ (.ops _ (_ :: _) :: _) _ _ _; first | refine T_call rfl rfl rfl rfl rfl (fun w hw => gridAt_rd (i := 0) (k := 0) (hp'.own hw) (by omega) (by omega)) ?_ | refine T_callC rfl rfl rfl rfl rfl rfl rfl (fun hg w hw => gridAt_rd (i := 0) (k := 0) (hp'.own hw) (by omega) (by omega)) ?_) | (show T _ (.run _ _ (_ :: _) _ _ :: _) _ _ _; first | refine rc rfl rfl rfl rfl rfl rfl rfl (fun w hw => gridAt_rd (i := 0) (k := 0) (hp'.own hw) (by omega) (by omega)) ?_ | refine rcG rfl rfl rfl rfl rfl rfl rfl rfl rfl (fun hg w hw => gridAt_rd (i := 0) (k := 0) (hp'.own hw) (by omega) (by omega)) ?_) | (show ∀ _ : Nat, T _ _ _ _ _; intro _) | (show T _ (.code .ret :: _) _ _ _; refine T_retV _ rfl (dat_row.trans (Hle.nth 0 rfl)) ⟨_, trivial, rfl, rfl⟩))
  · have e : alignV c a b = ([], 0, 1) := if_neg hk
    rw [e]
    repeat' (first | refine d1 ?_ | refine dd ?_ | (show T _ (.ops _ (_ :: _) :: _) _ _ _; first | refine T_call rfl rfl rfl rfl rfl (fun w hw => (h2.cls hw).bad c ca cb hk) ?_ | refine T_callC rfl rfl rfl rfl rfl rfl rfl (fun hg w hw => (h2.cls hw).bad c ca cb hk) ?_ | refine T_op (OpT.storeA rfl rfl rfl rfl rfl rfl (by decide) ?_)) | (show T _ (.run _ _ (_ :: _) _ _ :: _) _ _ _; first | refine rc rfl rfl rfl rfl rfl rfl rfl (fun w hw => (h2.cls hw).bad c ca cb hk) ?_ | refine rcG rfl rfl rfl rfl rfl rfl rfl rfl rfl (fun hg w hw => (h2.cls hw).bad c ca cb hk) ?_) | (show ∀ _ : Nat, T _ _ _ _ _; intro _))
    refine T_if rfl (fun h => ?_) (fun h => ?_)
    · have hnil : ∀ H : List HA, Hle H [dat [.slice none 0 0] [rowsD []]] := fun H => (hle_unit (B := dat [.slice none 0 0] [rowsD []]) (.s none 0 0 1 [] rfl (Nat.le_refl _) (by omega) (fun h => absurd h (by omega)) .nil .nil)).trans Hle.sub
      repeat' (first | refine d1 ?_ | refine dd ?_ | (show ∀ _ : Nat, T _ _ _ _ _; intro _) | (show T _ (.code .ret :: _) _ _ _; refine T_retV _ rfl (hnil _) ⟨_, trivial, rfl, rfl⟩))
    · cases h
end Go.Proofs.YtmcgificpaeipaaGreatDoor
/- Walks: chapter 18: parts of sources; what the laws know of fine arguments. -/
namespace Go.Proofs.YtmcgificpaeipaaGreatDoor
open Go.RowKit Go.Shelf Go.Proofs
set_option maxRecDepth 100000
set_option maxHeartbeats 1000000

theorem tok6 (t : Tok) : t.cells.length = 6 := rfl
/-- Parts of two sources. -/
theorem Two.sub {w : World} {A B : Option Addr} {n m : Nat} {a b : List Tok} (h : Two w A B n m a b) {ca cb : Nat} (hca : n ≤ ca) (hcb : m ≤ cb) (lo hi lo' hi' : Nat) (h1 : lo ≤ hi) (h2 : hi ≤ n) (h3 : lo' ≤ hi') (h4 : hi' ≤ m) :
    Two w (cutA A ca lo 6) (cutA B cb lo' 6) (hi - lo) (hi' - lo') ((a.take hi).drop lo) ((b.take hi').drop lo') :=
  ⟨h.hst, src_sub Tok.cells 6 tok6 h.ha h.hn lo hi h1 h2 hca, by rw [List.length_drop, List.length_take, h.hn]; omega, by have := h.hnb; omega, src_sub Tok.cells 6 tok6 h.hb h.hm lo' hi' h3 h4 hcb, by rw [List.length_drop, List.length_take, h.hm]; omega, by have := h.hmb; omega,
    fun t ht => h.hsa t (List.mem_of_mem_take (List.mem_of_mem_drop ht)), fun t ht => h.hsb t (List.mem_of_mem_take (List.mem_of_mem_drop ht))⟩
/-- Beginnings of two sources. -/
theorem Two.pre {w : World} {A B : Option Addr} {n m : Nat} {a b : List Tok} (h : Two w A B n m a b) (hi hi' : Nat) (h2 : hi ≤ n) (h4 : hi' ≤ m) :
    Two w A B hi hi' (a.take hi) (b.take hi') :=
  ⟨h.hst, src_take Tok.cells 6 tok6 h.ha h.hn hi h2, by rw [List.length_take, h.hn]; omega, by have := h.hnb; omega, src_take Tok.cells 6 tok6 h.hb h.hm hi' h4, by rw [List.length_take, h.hm]; omega, by have := h.hmb; omega,
    fun t ht => h.hsa t (List.mem_of_mem_take ht), fun t ht => h.hsb t (List.mem_of_mem_take ht)⟩
theorem ckV_of {c : Costs} {a b : List Tok} (hc : costE c = 0) (ha : ∀ t ∈ a, tokE t = 0) (hb : ∀ t ∈ b, tokE t = 0) : ckV c a b = 0 := by
  unfold ckV
  rw [if_neg]
  rw [badL_false.2 ha, badL_false.2 hb, hc]; simp
theorem great18_false {l : List Tok} (h : great18B l = false) : l.length ≤ 7 ∧ ∀ t ∈ l, t.small := by
  unfold great18B at h
  simp only [Bool.or_eq_false_iff, decide_eq_false_iff_not, List.any_eq_false] at h
  exact ⟨by omega, fun t ht => (longT_small (by simpa using h.1 t ht)).1⟩
theorem badL_ok {l : List Tok} (h : badL l = false) : ∀ t ∈ l, tokE t = 0 := badL_false.1 h
theorem fine18_ok {c : Costs} {l : List TS} (h : fine18B c l = true) : costE c = 0 ∧ ∀ t ∈ l, t.l.length ≤ 7 ∧ (∀ x ∈ t.l, x.small) ∧ ∀ x ∈ t.l, tokE x = 0 := by
  unfold fine18B at h
  simp only [Bool.and_eq_true, Bool.not_eq_true', decide_eq_true_eq, List.any_eq_false] at h
  refine ⟨h.1.2, fun t ht => ?_⟩
  obtain ⟨h1, h2⟩ := great18_false (by simpa using h.1.1 t ht)
  exact ⟨h1, h2, badL_ok (by simpa using h.2 t ht)⟩
/-- Two slices of tokens. -/
theorem tsOk2 {w : World} {A B : Option Addr} {ca cb : Nat} {a b : List Tok} (ha : Src w 6 A a.length (a.flatMap Tok.cells)) (hna : a.length ≤ 9223372036854775807) (hb : Src w 6 B b.length (b.flatMap Tok.cells)) (hnb : b.length ≤ 9223372036854775807) :
    TsOk w [⟨A, a.length, ca, a⟩, ⟨B, b.length, cb, b⟩] :=
  ⟨fun t ht => by simp at ht; rcases ht with rfl | rfl <;> assumption, fun t ht => by simp at ht; rcases ht with rfl | rfl <;> rfl, fun t ht => by simp at ht; rcases ht with rfl | rfl <;> assumption⟩
theorem two_of {w : World} {A B : Option Addr} {ca cb : Nat} {a b : List Tok} {c : Costs} (hst : Std w) (ha : Src w 6 A a.length (a.flatMap Tok.cells)) (hb : Src w 6 B b.length (b.flatMap Tok.cells)) (h : fine18B c [⟨A, a.length, ca, a⟩, ⟨B, b.length, cb, b⟩] = true) :
    Two w A B a.length b.length a b ∧ ckV c a b = 0 ∧ a.length ≤ 7 ∧ b.length ≤ 7 := by
  obtain ⟨hc, hl⟩ := fine18_ok h
  obtain ⟨h1, h2, h3⟩ := hl _ (List.mem_cons_self ..)
  obtain ⟨h4, h5, h6⟩ := hl _ (List.mem_cons_of_mem _ (List.mem_cons_self ..))
  simp only at h1 h2 h3 h4 h5 h6
  exact ⟨⟨hst, ha, rfl, by omega, hb, rfl, by omega, h2, h5⟩, ckV_of hc h3 h6, h1, h4⟩
theorem two_great {w : World} {A B : Option Addr} {ca cb : Nat} {a b : List Tok} (hst : Std w) (ha : Src w 6 A a.length (a.flatMap Tok.cells)) (hb : Src w 6 B b.length (b.flatMap Tok.cells)) (h : ([⟨A, a.length, ca, a⟩, ⟨B, b.length, cb, b⟩] : List TS).any (fun t => great18B t.l) = false) :
    Two w A B a.length b.length a b := by
  rw [List.any_eq_false] at h
  obtain ⟨h1, h2⟩ := great18_false (by simpa using h _ (List.mem_cons_self ..))
  obtain ⟨h3, h4⟩ := great18_false (by simpa using h _ (List.mem_cons_of_mem _ (List.mem_cons_self ..)))
  exact ⟨hst, ha, rfl, by omega, hb, rfl, by omega, h2, h4⟩
theorem tkA_drop (a : List Tok) (m i : Nat) : tkA (a.drop m) i = tkA a (m + i) := by
  unfold tkA; rw [List.getD_eq_getElem?_getD, List.getD_eq_getElem?_getD, List.getElem?_drop]
theorem tkA_take {a : List Tok} {m i : Nat} (h : i < m) : tkA (a.take m) i = tkA a i := by
  unfold tkA; rw [List.getD_eq_getElem?_getD, List.getD_eq_getElem?_getD, List.getElem?_take_of_lt h]
/-- Two parts of both, one after the other. -/
theorem joins_law (c : Costs) (a b : List Tok) {m n : Nat} (hm : m ≤ a.length) (hn : n ≤ b.length) :
    rst (grdOf c a b) 0 0 ≤ rst (grdOf c (a.take m) (b.take n)) 0 0 + rst (grdOf c (a.drop m) (b.drop n)) 0 0 ∧ rst (grdOf c a b) m n = rst (grdOf c (a.drop m) (b.drop n)) 0 0 := by
  have e1 : rst (grdOf c a b) (m + 0) (n + 0) = rst (grdOf c (a.drop m) (b.drop n)) 0 0 :=
    rst_shift (G := grdOf c a b) (F := grdOf c (a.drop m) (b.drop n)) (by show a.length = m + (a.drop m).length; rw [List.length_drop]; omega) (by show b.length = n + (b.drop n).length; rw [List.length_drop]; omega)
      (fun i k _ _ => by show pairC c _ _ = pairC c _ _; rw [tkA_drop, tkA_drop]) (fun i _ => by show gapC c _ = gapC c _; rw [tkA_drop]) (fun k _ => by show gapC c _ = gapC c _; rw [tkA_drop]) 0 0
  have e2 := rst_begin (G := grdOf c a b) (F := grdOf c (a.take m) (b.take n)) (by show (a.take m).length ≤ a.length; rw [List.length_take]; omega) (by show (b.take n).length ≤ b.length; rw [List.length_take]; omega)
    (fun i k hi hk => by have hi' : i < (a.take m).length := hi; have hk' : k < (b.take n).length := hk; rw [List.length_take] at hi' hk'; show pairC c _ _ = pairC c _ _; rw [tkA_take (by omega), tkA_take (by omega)])
    (fun i hi => by have hi' : i < (a.take m).length := hi; rw [List.length_take] at hi'; show gapC c _ = gapC c _; rw [tkA_take (by omega)])
    (fun k hk => by have hk' : k < (b.take n).length := hk; rw [List.length_take] at hk'; show gapC c _ = gapC c _; rw [tkA_take (by omega)]) 0 0 (Nat.zero_le _) (Nat.zero_le _)
  have e3 : (grdOf c (a.take m) (b.take n)).n = m := by show (a.take m).length = m; rw [List.length_take]; omega
  have e4 : (grdOf c (a.take m) (b.take n)).m = n := by show (b.take n).length = n; rw [List.length_take]; omega
  rw [e3, e4] at e2
  rw [Nat.add_zero, Nat.add_zero] at e1
  exact ⟨by rw [← e1]; exact e2, e1⟩
end Go.Proofs.YtmcgificpaeipaaGreatDoor
/- Walks: pairs of sources: how many columns have equal Norms (the program). -/
namespace Go.Proofs.YtmcgificpaeipaaGreatDoor
open Go.RowKit Go.Shelf Go.Proofs
set_option maxRecDepth 100000
set_option maxHeartbeats 1000000

def zeroC : Costs := ⟨0, 0, 0, 0⟩
theorem ck_zero (a b : List Tok) : ckV zeroC a b = fitsV a b := by
  have h : costE zeroC = 0 := by decide
  unfold ckV fitsV
  rw [h]
  simp
/-- Whether a column has equal Norms. -/
def mtC (a b : List Tok) : List Int → Bool
  | [u, v] => decide (0 ≤ u) && decide (0 ≤ v) && decide ((tkA a u.toNat).norm = (tkA b v.toNat).norm)
  | _ => false
def matchV (a b : List Tok) (cols : List (List Int)) : Int × Int := if fitsV a b = 0 then (if (alnd (grdOf zeroC a b) cols 0 0).isSome then (((cols.countP (mtC a b) : Nat) : Int), 0) else (0, 19)) else (0, 1)
theorem countP_snoc {α : Type} (p : α → Bool) {l : List α} {j : Nat} {x : α} (h : l[j]? = some x) : (l.take (j + 1)).countP p = (l.take j).countP p + if p x then 1 else 0 := by
  rw [take_snoc _ _ _ h, List.countP_append]
  simp [List.countP_cons]
theorem countP_take_le {α : Type} (p : α → Bool) (l : List α) (j : Nat) : (l.take j).countP p ≤ j := Nat.le_trans List.countP_le_length (by rw [List.length_take]; omega)
theorem matches18_spec (A B : Option Addr) (n m ca cb : Nat) (a b : List Tok) (z : Value) (cols : List (List Int)) (w : World) (h2 : Two w A B n m a b) (hz : Rd (wr w) [z] [rowsD cols]) :
    Spec Tryz.prog 33 [.slice A n ca, .slice B m cb, z] w (fun v R => v = .tuple #[.int .i64 (matchV a b cols).1, .int .i64 (matchV a b cols).2] ∧ R = []) := by
  have hck := ck_zero a b
  refine spec_of sg Tryz.func33 rfl rfl rfl ?_
  by_cases hk0 : fitsV a b = 0
  · have hk : ckV zeroC a b = 0 := by rw [hck, hk0]
    have e1 : (grdOf zeroC a b).n = n := h2.hn
    have e2 : (grdOf zeroC a b).m = m := h2.hm
    repeat' (first | refine d1 ?_ | refine dd ?_ | (show T _ (.ops _ (_ :: _) :: _) _ _ _; refine T_op (OpT.call rfl rfl rfl rfl rfl (fun w hw => (h2.cls hw).ok zeroC ca cb hk) ?_)) | (show ∀ _ : Nat, T _ _ _ _ _; intro _))
    rintro v R ⟨⟨x, y⟩, rfl, rfl⟩
    dsimp only
    refine T_le (H' := [dat [x] [intsD (gaL zeroC a)], dat [y] [intsD (gaL zeroC b)]]) (Hle.refl _) ?_
    refine T_open2 fun p q hp hq => ?_
    obtain ⟨A1, cap1, rfl, -, -, -⟩ := hp.row1
    obtain ⟨A2, cap2, rfl, -, -, -⟩ := hq.row1
    repeat' (first | refine d1 ?_ | refine dd ?_ | (show T _ (.ops _ (_ :: _) :: _) _ _ _; refine T_op (OpT.storeA rfl rfl rfl rfl rfl rfl (by decide) ?_)) | (show ∀ _ : Nat, T _ _ _ _ _; intro _))
    rename_i p8
    refine T_le (H' := [blk p8 (srcsL zeroC A B n m ca cb (.slice A1 (gaL zeroC a).length cap1) (.slice A2 (gaL zeroC b).length cap2)) 75, fz p, fz q]) (Hle.refl _) ?_
    refine T_if rfl (fun h => ?_) (fun h => ?_)
    · cases h
    repeat' (first | refine d1 ?_ | refine dd ?_ | (show T _ (.ops _ (_ :: _) :: _) _ _ _; first | refine T_call rfl rfl rfl rfl rfl (fun w hw => pcost_spec zeroC A B n m ca cb a b _ _ z cols w (h2.cls hw) hk (hp.own hw) (hq.own hw) (hz.old hw)) ?_ | refine T_callC rfl rfl rfl rfl rfl rfl rfl (fun hg w hw => pcost_spec zeroC A B n m ca cb a b _ _ z cols w (h2.cls hw) hk (hp.own hw) (hq.own hw) (hz.old hw)) ?_) | (show T _ (.run _ _ (_ :: _) _ _ :: _) _ _ _; first | refine rc rfl rfl rfl rfl rfl rfl rfl (fun w hw => pcost_spec zeroC A B n m ca cb a b _ _ z cols w (h2.cls hw) hk (hp.own hw) (hq.own hw) (hz.old hw)) ?_ | refine rcG rfl rfl rfl rfl rfl rfl rfl rfl rfl (fun hg w hw => pcost_spec zeroC A B n m ca cb a b _ _ z cols w (h2.cls hw) hk (hp.own hw) (hq.own hw) (hz.old hw)) ?_) | (show ∀ _ : Nat, T _ _ _ _ _; intro _))
    obtain ⟨At, capt, cs, rfl, ht1, ht2, hcs, hA, hrows⟩ := hz.tab
    cases ha : alnd (grdOf zeroC a b) cols 0 0 with
    | none =>
      have e : matchV a b cols = (0, 19) := by unfold matchV; rw [if_pos hk0, ha]; rfl
      rw [e, costP_none ha]
      refine T_if rfl (fun h => ?_) (fun h => ?_)
      · repeat' (first | refine d1 ?_ | refine dd ?_ | (show ∀ _ : Nat, T _ _ _ _ _; intro _) | (show T _ (.code .ret :: _) _ _ _; refine T_retV [] rfl (Hle.none _) ⟨rfl, rfl⟩))
      · cases h
    | some s =>
      have e : matchV a b cols = (((cols.countP (mtC a b) : Nat) : Int), 0) := by unfold matchV; rw [if_pos hk0, ha]; rfl
      rw [e, costP_some ha]
      refine T_if rfl (fun h => ?_) (fun h => ?_)
      · cases h
      repeat' (first | refine d1 ?_ | refine dd ?_ | (show ∀ _ : Nat, T _ _ _ _ _; intro _))
      refine T_loopX (fun s : Nat × Nat × Nat => [(35, .int .i64 s.1), (12, .int .i64 ((cols.take s.1).countP (mtC a b) : Nat))]) (fun _ => []) (fun s => s.1 ≤ cols.length ∧ s.2.1 ≤ n ∧ s.2.2 ≤ m ∧ alnd (grdOf zeroC a b) (cols.drop s.1) s.2.1 s.2.2 ≠ none) (fun s => cols.length - s.1) (0, 0, 0) ⟨Nat.zero_le _, Nat.zero_le _, Nat.zero_le _, by rw [List.drop_zero, ha]; simp⟩ ?_
      rintro ⟨j, i, k⟩ ⟨hj, hi, hkm, hne⟩
      dsimp only at hj hi hkm hne ⊢
      have hcb := countP_take_le (mtC a b) cols j
      repeat' (first | refine d1 ?_ | refine dd ?_ | (show ∀ _ : Nat, T _ _ _ _ _; intro _))
      refine T_if rfl (fun h3 => ?_) (fun h3 => ?_)
      · simp only [decide_eq_true_eq] at h3
        obtain ⟨bt, ot, rfl, hb⟩ := hA (by omega)
        obtain ⟨r, hr⟩ : ∃ u, cols[j]? = some u := ⟨_, List.getElem?_eq_getElem (by omega)⟩
        obtain ⟨A', cap', hc1, hl1, hm1, hA3⟩ := hrows.tabRow hr
        have hr1 : RdC w bt (ot + (j : Int).toNat * 1) [.slice A' r.length cap'] := RdC.one (by rw [off1]; exact hb j _ hc1)
        rw [drop_get hr] at hne
        have hcp := countP_snoc (mtC a b) hr
        cases hs : mvOf (grdOf zeroC a b) i k r with
        | none => exact absurd (alnd_bad hs) hne
        | some yv =>
          obtain ⟨hm1, rfl⟩ := mvOf_some hs
          have hin := mvs_in hm1 (by rw [e1]; exact hi) (by rw [e2]; exact hkm)
          rw [e1, e2] at hin
          have hne2 : alnd (grdOf zeroC a b) (cols.drop (j + 1)) (i + yv.fst) (k + yv.snd) ≠ none := by
            rw [alnd_cons hs] at hne
            intro h9; rw [h9] at hne; exact hne rfl
          rcases mvs_form hm1 with ⟨rfl, f1, f2⟩ | ⟨rfl, f1⟩ | ⟨rfl, f1⟩
          · rw [mvCol11] at hr hr1 hA3 hcp
            obtain ⟨br, orr, rfl, hb2⟩ := hA3 (by simp)
            have hr2 : RdC w br (orr + (0 : Int).toNat * 1) [.int .i64 (i : Nat)] := RdC.one (hb2 0 _ rfl)
            have hr3 : RdC w br (orr + (1 : Int).toNat * 1) [.int .i64 (k : Nat)] := RdC.one (hb2 1 _ rfl)
            obtain ⟨ba, oa, rfl⟩ := h2.ha.base (by omega)
            obtain ⟨bb, ob, rfl⟩ := h2.hb.base (by omega)
            have hr4 : RdC w ba (oa + (i : Int).toNat * 6) (tkA a i).cells := h2.ha.getT (by omega) (tkA_get (by have := h2.hn; omega))
            have hr5 : RdC w bb (ob + (k : Int).toNat * 6) (tkA b k).cells := h2.hb.getT (by omega) (tkA_get (by have := h2.hm; omega))
            have hl2 : [(i : Int), (k : Int)].length = 2 := rfl
            repeat' (first | refine d1 ?_ | refine dd ?_ | (show ∀ _ : Nat, T _ _ _ _ _; intro _))
            refine T_if rfl (fun h4 => ?_) (fun h4 => ?_)
            · have h4' : mtC a b [(i : Int), (k : Int)] = true := h4
              repeat' (first | refine d1 ?_ | refine dd ?_ | (show ∀ _ : Nat, T _ _ _ _ _; intro _))
              exact T_backX (j + 1, i + 1, k + 1) ⟨by dsimp only; omega, by dsimp only at hin ⊢; omega, by dsimp only at hin ⊢; omega, hne2⟩ (by dsimp only; omega) (hE := ⟨rfl, by dsimp only; rw [hcp, if_pos h4']; rfl, trivial⟩)
            · have h4' : mtC a b [(i : Int), (k : Int)] = false := h4
              repeat' (first | refine d1 ?_ | refine dd ?_ | (show ∀ _ : Nat, T _ _ _ _ _; intro _))
              exact T_backX (j + 1, i + 1, k + 1) ⟨by dsimp only; omega, by dsimp only at hin ⊢; omega, by dsimp only at hin ⊢; omega, hne2⟩ (by dsimp only; omega) (hE := ⟨rfl, by dsimp only; rw [hcp, h4']; rfl, trivial⟩)
          · rw [mvCol10] at hr hr1 hA3 hcp
            obtain ⟨br, orr, rfl, hb2⟩ := hA3 (by simp)
            have hr2 : RdC w br (orr + (0 : Int).toNat * 1) [.int .i64 (i : Nat)] := RdC.one (hb2 0 _ rfl)
            have hr3 : RdC w br (orr + (1 : Int).toNat * 1) [.int .i64 (-1)] := RdC.one (hb2 1 _ rfl)
            have hl2 : [(i : Int), -1].length = 2 := rfl
            repeat' (first | refine d1 ?_ | refine dd ?_ | (show T _ (.ops _ (_ :: _) :: _) _ _ _; first | refine T_val rfl (Val.neverP rfl (fun hg => by exfalso; first | ((simp only [List.cons_append, List.nil_append, GP, dstL, lookE, Nat.beq, cond, List.getElem?_cons_zero, List.getElem?_cons_succ, Option.bind_some, and_true, Bool.and_eq_true, Bool.or_eq_true, Bool.and_eq_false_iff, Bool.or_eq_false_iff, Bool.not_eq_true', Bool.not_eq_false', decide_eq_true_eq, decide_eq_false_iff_not] at hg); done) | ((simp only [List.cons_append, List.nil_append, GP, dstL, lookE, Nat.beq, cond, List.getElem?_cons_zero, List.getElem?_cons_succ, Option.bind_some, and_true, Bool.and_eq_true, Bool.or_eq_true, Bool.and_eq_false_iff, Bool.or_eq_false_iff, Bool.not_eq_true', Bool.not_eq_false', decide_eq_true_eq, decide_eq_false_iff_not] at hg); omega))) rfl rfl rfl ?_ | refine T_valC rfl (Val.neverP rfl (fun hg => by exfalso; first | ((simp only [List.cons_append, List.nil_append, GP, dstL, lookE, Nat.beq, cond, List.getElem?_cons_zero, List.getElem?_cons_succ, Option.bind_some, and_true, Bool.and_eq_true, Bool.or_eq_true, Bool.and_eq_false_iff, Bool.or_eq_false_iff, Bool.not_eq_true', Bool.not_eq_false', decide_eq_true_eq, decide_eq_false_iff_not] at hg); done) | ((simp only [List.cons_append, List.nil_append, GP, dstL, lookE, Nat.beq, cond, List.getElem?_cons_zero, List.getElem?_cons_succ, Option.bind_some, and_true, Bool.and_eq_true, Bool.or_eq_true, Bool.and_eq_false_iff, Bool.or_eq_false_iff, Bool.not_eq_true', Bool.not_eq_false', decide_eq_true_eq, decide_eq_false_iff_not] at hg); omega))) rfl rfl rfl rfl rfl ?_ | refine T_val rfl (Val.neverI rfl (fun hg => by exfalso; first | ((simp only [List.cons_append, List.nil_append, GP, dstL, lookE, Nat.beq, cond, List.getElem?_cons_zero, List.getElem?_cons_succ, Option.bind_some, and_true, Bool.and_eq_true, Bool.or_eq_true, Bool.and_eq_false_iff, Bool.or_eq_false_iff, Bool.not_eq_true', Bool.not_eq_false', decide_eq_true_eq, decide_eq_false_iff_not] at hg); done) | ((simp only [List.cons_append, List.nil_append, GP, dstL, lookE, Nat.beq, cond, List.getElem?_cons_zero, List.getElem?_cons_succ, Option.bind_some, and_true, Bool.and_eq_true, Bool.or_eq_true, Bool.and_eq_false_iff, Bool.or_eq_false_iff, Bool.not_eq_true', Bool.not_eq_false', decide_eq_true_eq, decide_eq_false_iff_not] at hg); omega))) rfl rfl rfl ?_ | refine T_valC rfl (Val.neverI rfl (fun hg => by exfalso; first | ((simp only [List.cons_append, List.nil_append, GP, dstL, lookE, Nat.beq, cond, List.getElem?_cons_zero, List.getElem?_cons_succ, Option.bind_some, and_true, Bool.and_eq_true, Bool.or_eq_true, Bool.and_eq_false_iff, Bool.or_eq_false_iff, Bool.not_eq_true', Bool.not_eq_false', decide_eq_true_eq, decide_eq_false_iff_not] at hg); done) | ((simp only [List.cons_append, List.nil_append, GP, dstL, lookE, Nat.beq, cond, List.getElem?_cons_zero, List.getElem?_cons_succ, Option.bind_some, and_true, Bool.and_eq_true, Bool.or_eq_true, Bool.and_eq_false_iff, Bool.or_eq_false_iff, Bool.not_eq_true', Bool.not_eq_false', decide_eq_true_eq, decide_eq_false_iff_not] at hg); omega))) rfl rfl rfl rfl rfl ?_) | (show T _ (.run _ _ (_ :: _) _ _ :: _) _ _ _; first | refine rv rfl rfl rfl (Val.neverP rfl (fun hg => by exfalso; first | ((simp only [List.cons_append, List.nil_append, GP, dstL, lookE, Nat.beq, cond, List.getElem?_cons_zero, List.getElem?_cons_succ, Option.bind_some, and_true, Bool.and_eq_true, Bool.or_eq_true, Bool.and_eq_false_iff, Bool.or_eq_false_iff, Bool.not_eq_true', Bool.not_eq_false', decide_eq_true_eq, decide_eq_false_iff_not] at hg); done) | ((simp only [List.cons_append, List.nil_append, GP, dstL, lookE, Nat.beq, cond, List.getElem?_cons_zero, List.getElem?_cons_succ, Option.bind_some, and_true, Bool.and_eq_true, Bool.or_eq_true, Bool.and_eq_false_iff, Bool.or_eq_false_iff, Bool.not_eq_true', Bool.not_eq_false', decide_eq_true_eq, decide_eq_false_iff_not] at hg); omega))) rfl rfl rfl ?_ | refine rg rfl rfl rfl (Val.neverP rfl (fun hg => by exfalso; first | ((simp only [List.cons_append, List.nil_append, GP, dstL, lookE, Nat.beq, cond, List.getElem?_cons_zero, List.getElem?_cons_succ, Option.bind_some, and_true, Bool.and_eq_true, Bool.or_eq_true, Bool.and_eq_false_iff, Bool.or_eq_false_iff, Bool.not_eq_true', Bool.not_eq_false', decide_eq_true_eq, decide_eq_false_iff_not] at hg); done) | ((simp only [List.cons_append, List.nil_append, GP, dstL, lookE, Nat.beq, cond, List.getElem?_cons_zero, List.getElem?_cons_succ, Option.bind_some, and_true, Bool.and_eq_true, Bool.or_eq_true, Bool.and_eq_false_iff, Bool.or_eq_false_iff, Bool.not_eq_true', Bool.not_eq_false', decide_eq_true_eq, decide_eq_false_iff_not] at hg); omega))) rfl rfl rfl rfl rfl ?_ | refine rv rfl rfl rfl (Val.neverI rfl (fun hg => by exfalso; first | ((simp only [List.cons_append, List.nil_append, GP, dstL, lookE, Nat.beq, cond, List.getElem?_cons_zero, List.getElem?_cons_succ, Option.bind_some, and_true, Bool.and_eq_true, Bool.or_eq_true, Bool.and_eq_false_iff, Bool.or_eq_false_iff, Bool.not_eq_true', Bool.not_eq_false', decide_eq_true_eq, decide_eq_false_iff_not] at hg); done) | ((simp only [List.cons_append, List.nil_append, GP, dstL, lookE, Nat.beq, cond, List.getElem?_cons_zero, List.getElem?_cons_succ, Option.bind_some, and_true, Bool.and_eq_true, Bool.or_eq_true, Bool.and_eq_false_iff, Bool.or_eq_false_iff, Bool.not_eq_true', Bool.not_eq_false', decide_eq_true_eq, decide_eq_false_iff_not] at hg); omega))) rfl rfl rfl ?_ | refine rg rfl rfl rfl (Val.neverI rfl (fun hg => by exfalso; first | ((simp only [List.cons_append, List.nil_append, GP, dstL, lookE, Nat.beq, cond, List.getElem?_cons_zero, List.getElem?_cons_succ, Option.bind_some, and_true, Bool.and_eq_true, Bool.or_eq_true, Bool.and_eq_false_iff, Bool.or_eq_false_iff, Bool.not_eq_true', Bool.not_eq_false', decide_eq_true_eq, decide_eq_false_iff_not] at hg); done) | ((simp only [List.cons_append, List.nil_append, GP, dstL, lookE, Nat.beq, cond, List.getElem?_cons_zero, List.getElem?_cons_succ, Option.bind_some, and_true, Bool.and_eq_true, Bool.or_eq_true, Bool.and_eq_false_iff, Bool.or_eq_false_iff, Bool.not_eq_true', Bool.not_eq_false', decide_eq_true_eq, decide_eq_false_iff_not] at hg); omega))) rfl rfl rfl rfl rfl ?_) | (show ∀ _ : Nat, T _ _ _ _ _; intro _))
            refine T_if rfl (fun h4 => ?_) (fun h4 => ?_)
            · exfalso; simp at h4
            · repeat' (first | refine d1 ?_ | refine dd ?_ | (show ∀ _ : Nat, T _ _ _ _ _; intro _))
              exact T_backX (j + 1, i + 1, k) ⟨by dsimp only; omega, by dsimp only at hin ⊢; omega, by dsimp only at hin ⊢; omega, hne2⟩ (by dsimp only; omega) (hE := ⟨rfl, by dsimp only; rw [hcp, show mtC a b [(i : Int), -1] = false by simp [mtC]]; rfl, trivial⟩)
          · rw [mvCol01] at hr hr1 hA3 hcp
            obtain ⟨br, orr, rfl, hb2⟩ := hA3 (by simp)
            have hr2 : RdC w br (orr + (0 : Int).toNat * 1) [.int .i64 (-1)] := RdC.one (hb2 0 _ rfl)
            have hr3 : RdC w br (orr + (1 : Int).toNat * 1) [.int .i64 (k : Nat)] := RdC.one (hb2 1 _ rfl)
            have hl2 : [-1, (k : Int)].length = 2 := rfl
            repeat' (first | refine d1 ?_ | refine dd ?_ | (show T _ (.ops _ (_ :: _) :: _) _ _ _; first | refine T_val rfl (Val.neverP rfl (fun hg => by exfalso; first | ((simp only [List.cons_append, List.nil_append, GP, dstL, lookE, Nat.beq, cond, List.getElem?_cons_zero, List.getElem?_cons_succ, Option.bind_some, and_true, Bool.and_eq_true, Bool.or_eq_true, Bool.and_eq_false_iff, Bool.or_eq_false_iff, Bool.not_eq_true', Bool.not_eq_false', decide_eq_true_eq, decide_eq_false_iff_not] at hg); done) | ((simp only [List.cons_append, List.nil_append, GP, dstL, lookE, Nat.beq, cond, List.getElem?_cons_zero, List.getElem?_cons_succ, Option.bind_some, and_true, Bool.and_eq_true, Bool.or_eq_true, Bool.and_eq_false_iff, Bool.or_eq_false_iff, Bool.not_eq_true', Bool.not_eq_false', decide_eq_true_eq, decide_eq_false_iff_not] at hg); omega))) rfl rfl rfl ?_ | refine T_valC rfl (Val.neverP rfl (fun hg => by exfalso; first | ((simp only [List.cons_append, List.nil_append, GP, dstL, lookE, Nat.beq, cond, List.getElem?_cons_zero, List.getElem?_cons_succ, Option.bind_some, and_true, Bool.and_eq_true, Bool.or_eq_true, Bool.and_eq_false_iff, Bool.or_eq_false_iff, Bool.not_eq_true', Bool.not_eq_false', decide_eq_true_eq, decide_eq_false_iff_not] at hg); done) | ((simp only [List.cons_append, List.nil_append, GP, dstL, lookE, Nat.beq, cond, List.getElem?_cons_zero, List.getElem?_cons_succ, Option.bind_some, and_true, Bool.and_eq_true, Bool.or_eq_true, Bool.and_eq_false_iff, Bool.or_eq_false_iff, Bool.not_eq_true', Bool.not_eq_false', decide_eq_true_eq, decide_eq_false_iff_not] at hg); omega))) rfl rfl rfl rfl rfl ?_ | refine T_val rfl (Val.neverI rfl (fun hg => by exfalso; first | ((simp only [List.cons_append, List.nil_append, GP, dstL, lookE, Nat.beq, cond, List.getElem?_cons_zero, List.getElem?_cons_succ, Option.bind_some, and_true, Bool.and_eq_true, Bool.or_eq_true, Bool.and_eq_false_iff, Bool.or_eq_false_iff, Bool.not_eq_true', Bool.not_eq_false', decide_eq_true_eq, decide_eq_false_iff_not] at hg); done) | ((simp only [List.cons_append, List.nil_append, GP, dstL, lookE, Nat.beq, cond, List.getElem?_cons_zero, List.getElem?_cons_succ, Option.bind_some, and_true, Bool.and_eq_true, Bool.or_eq_true, Bool.and_eq_false_iff, Bool.or_eq_false_iff, Bool.not_eq_true', Bool.not_eq_false', decide_eq_true_eq, decide_eq_false_iff_not] at hg); omega))) rfl rfl rfl ?_ | refine T_valC rfl (Val.neverI rfl (fun hg => by exfalso; first | ((simp only [List.cons_append, List.nil_append, GP, dstL, lookE, Nat.beq, cond, List.getElem?_cons_zero, List.getElem?_cons_succ, Option.bind_some, and_true, Bool.and_eq_true, Bool.or_eq_true, Bool.and_eq_false_iff, Bool.or_eq_false_iff, Bool.not_eq_true', Bool.not_eq_false', decide_eq_true_eq, decide_eq_false_iff_not] at hg); done) | ((simp only [List.cons_append, List.nil_append, GP, dstL, lookE, Nat.beq, cond, List.getElem?_cons_zero, List.getElem?_cons_succ, Option.bind_some, and_true, Bool.and_eq_true, Bool.or_eq_true, Bool.and_eq_false_iff, Bool.or_eq_false_iff, Bool.not_eq_true', Bool.not_eq_false', decide_eq_true_eq, decide_eq_false_iff_not] at hg); omega))) rfl rfl rfl rfl rfl ?_) | (show T _ (.run _ _ (_ :: _) _ _ :: _) _ _ _; first | refine rv rfl rfl rfl (Val.neverP rfl (fun hg => by exfalso; first | ((simp only [List.cons_append, List.nil_append, GP, dstL, lookE, Nat.beq, cond, List.getElem?_cons_zero, List.getElem?_cons_succ, Option.bind_some, and_true, Bool.and_eq_true, Bool.or_eq_true, Bool.and_eq_false_iff, Bool.or_eq_false_iff, Bool.not_eq_true', Bool.not_eq_false', decide_eq_true_eq, decide_eq_false_iff_not] at hg); done) | ((simp only [List.cons_append, List.nil_append, GP, dstL, lookE, Nat.beq, cond, List.getElem?_cons_zero, List.getElem?_cons_succ, Option.bind_some, and_true, Bool.and_eq_true, Bool.or_eq_true, Bool.and_eq_false_iff, Bool.or_eq_false_iff, Bool.not_eq_true', Bool.not_eq_false', decide_eq_true_eq, decide_eq_false_iff_not] at hg); omega))) rfl rfl rfl ?_ | refine rg rfl rfl rfl (Val.neverP rfl (fun hg => by exfalso; first | ((simp only [List.cons_append, List.nil_append, GP, dstL, lookE, Nat.beq, cond, List.getElem?_cons_zero, List.getElem?_cons_succ, Option.bind_some, and_true, Bool.and_eq_true, Bool.or_eq_true, Bool.and_eq_false_iff, Bool.or_eq_false_iff, Bool.not_eq_true', Bool.not_eq_false', decide_eq_true_eq, decide_eq_false_iff_not] at hg); done) | ((simp only [List.cons_append, List.nil_append, GP, dstL, lookE, Nat.beq, cond, List.getElem?_cons_zero, List.getElem?_cons_succ, Option.bind_some, and_true, Bool.and_eq_true, Bool.or_eq_true, Bool.and_eq_false_iff, Bool.or_eq_false_iff, Bool.not_eq_true', Bool.not_eq_false', decide_eq_true_eq, decide_eq_false_iff_not] at hg); omega))) rfl rfl rfl rfl rfl ?_ | refine rv rfl rfl rfl (Val.neverI rfl (fun hg => by exfalso; first | ((simp only [List.cons_append, List.nil_append, GP, dstL, lookE, Nat.beq, cond, List.getElem?_cons_zero, List.getElem?_cons_succ, Option.bind_some, and_true, Bool.and_eq_true, Bool.or_eq_true, Bool.and_eq_false_iff, Bool.or_eq_false_iff, Bool.not_eq_true', Bool.not_eq_false', decide_eq_true_eq, decide_eq_false_iff_not] at hg); done) | ((simp only [List.cons_append, List.nil_append, GP, dstL, lookE, Nat.beq, cond, List.getElem?_cons_zero, List.getElem?_cons_succ, Option.bind_some, and_true, Bool.and_eq_true, Bool.or_eq_true, Bool.and_eq_false_iff, Bool.or_eq_false_iff, Bool.not_eq_true', Bool.not_eq_false', decide_eq_true_eq, decide_eq_false_iff_not] at hg); omega))) rfl rfl rfl ?_ | refine rg rfl rfl rfl (Val.neverI rfl (fun hg => by exfalso; first | ((simp only [List.cons_append, List.nil_append, GP, dstL, lookE, Nat.beq, cond, List.getElem?_cons_zero, List.getElem?_cons_succ, Option.bind_some, and_true, Bool.and_eq_true, Bool.or_eq_true, Bool.and_eq_false_iff, Bool.or_eq_false_iff, Bool.not_eq_true', Bool.not_eq_false', decide_eq_true_eq, decide_eq_false_iff_not] at hg); done) | ((simp only [List.cons_append, List.nil_append, GP, dstL, lookE, Nat.beq, cond, List.getElem?_cons_zero, List.getElem?_cons_succ, Option.bind_some, and_true, Bool.and_eq_true, Bool.or_eq_true, Bool.and_eq_false_iff, Bool.or_eq_false_iff, Bool.not_eq_true', Bool.not_eq_false', decide_eq_true_eq, decide_eq_false_iff_not] at hg); omega))) rfl rfl rfl rfl rfl ?_) | (show ∀ _ : Nat, T _ _ _ _ _; intro _))
            refine T_if rfl (fun h4 => ?_) (fun h4 => ?_)
            · exfalso; simp at h4
            · repeat' (first | refine d1 ?_ | refine dd ?_ | (show ∀ _ : Nat, T _ _ _ _ _; intro _))
              exact T_backX (j + 1, i, k + 1) ⟨by dsimp only; omega, by dsimp only at hin ⊢; omega, by dsimp only at hin ⊢; omega, hne2⟩ (by dsimp only; omega) (hE := ⟨rfl, by dsimp only; rw [hcp, show mtC a b [-1, (k : Int)] = false by simp [mtC]]; rfl, trivial⟩)
      · simp only [decide_eq_false_iff_not] at h3
        obtain rfl : j = cols.length := by omega
        rw [List.take_length]
        repeat' (first | refine d1 ?_ | refine dd ?_ | (show ∀ _ : Nat, T _ _ _ _ _; intro _) | (show T _ (.code .ret :: _) _ _ _; refine T_retV [] rfl (Hle.none _) ⟨rfl, rfl⟩))
  · have hk : ckV zeroC a b ≠ 0 := by rw [hck]; exact hk0
    have e : matchV a b cols = (0, 1) := if_neg hk0
    rw [e]
    repeat' (first | refine d1 ?_ | refine dd ?_ | (show T _ (.ops _ (_ :: _) :: _) _ _ _; first | refine T_call rfl rfl rfl rfl rfl (fun w hw => (h2.cls hw).bad zeroC ca cb hk) ?_ | refine T_callC rfl rfl rfl rfl rfl rfl rfl (fun hg w hw => (h2.cls hw).bad zeroC ca cb hk) ?_ | refine T_op (OpT.storeA rfl rfl rfl rfl rfl rfl (by decide) ?_)) | (show T _ (.run _ _ (_ :: _) _ _ :: _) _ _ _; first | refine rc rfl rfl rfl rfl rfl rfl rfl (fun w hw => (h2.cls hw).bad zeroC ca cb hk) ?_ | refine rcG rfl rfl rfl rfl rfl rfl rfl rfl rfl (fun hg w hw => (h2.cls hw).bad zeroC ca cb hk) ?_) | (show ∀ _ : Nat, T _ _ _ _ _; intro _))
    refine T_if rfl (fun h => ?_) (fun h => ?_)
    · repeat' (first | refine d1 ?_ | refine dd ?_ | (show ∀ _ : Nat, T _ _ _ _ _; intro _) | (show T _ (.code .ret :: _) _ _ _; refine T_retV [] rfl (Hle.none _) ⟨rfl, rfl⟩))
    · cases h
end Go.Proofs.YtmcgificpaeipaaGreatDoor
/- Walks: chapter 18: the examples of the chapter. -/
namespace Go.Proofs.YtmcgificpaeipaaGreatDoor
open Go.RowKit Go.Shelf Go.Proofs
set_option maxRecDepth 100000
set_option maxHeartbeats 1000000

def awC : Costs := ⟨40, 5, 20, 50⟩
def sDeus : ByteArray := ⟨#[100, 101, 117, 115]⟩
def sEst : ByteArray := ⟨#[101, 115, 116]⟩
def sNon : ByteArray := ⟨#[110, 111, 110]⟩
def awA : List Tok := [tokS sDeus, tokS sEst]
def awB : List Tok := [tokS sDeus, tokS sNon, tokS sEst]
theorem awK1 : ckV awC awA awB = 0 := by decide +kernel
theorem awK2 : ckV awC [tokS sDeus] [] = 0 := by decide +kernel
theorem awA1 : alnK (grdOf awC awA awB) 5 5 0 0 = [[0, 0], [-1, 1], [1, 2]] := by decide +kernel
theorem awA2 : rstF (grdOf awC awA awB) 5 0 0 = 40 := by decide +kernel
theorem awV1 : alignV awC awA awB = ([[0, 0], [-1, 1], [1, 2]], 40, 0) := by
  unfold alignV
  rw [if_pos awK1, aln_eval, ← rstF_eq 5 0 0 (Nat.le_refl _), awA2]
  exact congrArg (fun x => (x, (40 : Int), (0 : Int))) awA1
theorem awT1 : (List.range 2).map (fun i => (List.range 1).map fun k => rstF (grdOf awC [tokS sDeus] []) 1 i k) = [[40], [0]] := by decide +kernel
theorem awV2 : tableV awC [tokS sDeus] [] = ([[40], [0]], 0) := by
  unfold tableV
  rw [if_pos awK2]
  refine congrArg (fun x => (x, (0 : Int))) ?_
  rw [← awT1]
  unfold tabR
  refine List.map_congr_left fun i _ => List.map_congr_left fun k _ => ?_
  exact (rstF_eq 1 i k (by show (1 - i) + (0 - k) ≤ 1; omega)).symm
theorem awM1 : matchV awA awB [[0, 0], [-1, 1], [1, 2]] = (2, 0) := by decide +kernel
theorem rd_lit {w : World} {b n : Nat} {cs : List Value} {l : List D} (h : Src w 1 (some ⟨b, 0, none⟩) n cs) (hn : n ≤ 9223372036854775807) (hr : Rd (wr w) cs l) : Rd (wr w) [.slice (some ⟨b, 0, none⟩) n n] [.s 1 l] := h.rdD (Nat.le_refl _) hn hr
theorem rd_ints {w : World} {b n : Nat} {r : List Int} (h : Src w 1 (some ⟨b, 0, none⟩) n (r.map (Value.int .i64))) (hn : n ≤ 9223372036854775807) : Rd (wr w) [.slice (some ⟨b, 0, none⟩) n n] [intsD r] := by
  have := rd_lit h hn (Rd.vals _)
  rw [List.map_map] at this
  exact this
instance (t : Tok) : Decidable t.small := inferInstanceAs (Decidable (_ ∧ _))
theorem awSA : ∀ t ∈ awA, t.small := by decide +kernel
theorem awSB : ∀ t ∈ awB, t.small := by decide +kernel
theorem awake18_spec (w : World) (hst : Std w) : Spec Tryz.prog 12 [] w (fun v R => v = .bool true ∧ R = []) := by
  refine spec_of sg Tryz.func12 rfl rfl rfl ?_
  repeat' (first | refine d1 ?_ | refine dd ?_ | (show T _ (.ops _ (_ :: _) :: _) _ _ _; first | refine T_call rfl rfl rfl rfl rfl (fun w hw => word18_spec sDeus w) ?_ | refine T_callC rfl rfl rfl rfl rfl rfl rfl (fun hg w hw => word18_spec sDeus w) ?_ | refine T_call rfl rfl rfl rfl rfl (fun w hw => word18_spec sEst w) ?_ | refine T_callC rfl rfl rfl rfl rfl rfl rfl (fun hg w hw => word18_spec sEst w) ?_ | refine T_call rfl rfl rfl rfl rfl (fun w hw => word18_spec sNon w) ?_ | refine T_callC rfl rfl rfl rfl rfl rfl rfl (fun hg w hw => word18_spec sNon w) ?_) | (show T _ (.run _ _ (_ :: _) _ _ :: _) _ _ _; first | refine rc rfl rfl rfl rfl rfl rfl rfl (fun w hw => word18_spec sDeus w) ?_ | refine rcG rfl rfl rfl rfl rfl rfl rfl rfl rfl (fun hg w hw => word18_spec sDeus w) ?_ | refine rc rfl rfl rfl rfl rfl rfl rfl (fun w hw => word18_spec sEst w) ?_ | refine rcG rfl rfl rfl rfl rfl rfl rfl rfl rfl (fun hg w hw => word18_spec sEst w) ?_ | refine rc rfl rfl rfl rfl rfl rfl rfl (fun w hw => word18_spec sNon w) ?_ | refine rcG rfl rfl rfl rfl rfl rfl rfl rfl rfl (fun hg w hw => word18_spec sNon w) ?_) | (show ∀ _ : Nat, T _ _ _ _ _; intro _))
  rename_i pc b1 b2
  refine T_le (H' := [blk b2 (awB.flatMap Tok.cells) 48, blk b1 (awA.flatMap Tok.cells) 48, blk pc awC.cells 23]) (Hle.refl _) ?_
  have h2 : ∀ {w' : World} {H : List HA}, Cls w w' (blk b2 (awB.flatMap Tok.cells) 48 :: blk b1 (awA.flatMap Tok.cells) 48 :: H) → Two w' (some ⟨b1, 0, none⟩) (some ⟨b2, 0, none⟩) 2 3 awA awB := fun hw =>
    ⟨hst.cls hw, Src.own hw rfl, rfl, by omega, Src.own hw rfl, rfl, by omega, awSA, awSB⟩
  repeat' (first | refine d1 ?_ | refine dd ?_ | (show T _ (.ops _ (_ :: _) :: _) _ _ _; refine T_op (OpT.call rfl rfl rfl rfl rfl (fun w hw => alignPrg_spec awC (some ⟨b1, 0, none⟩) (some ⟨b2, 0, none⟩) 2 3 2 3 awA awB w (h2 hw)) ?_)) | (show ∀ _ : Nat, T _ _ _ _ _; intro _))
  rintro v R ⟨x, -, rfl, rfl⟩
  rw [awV1]
  refine T_le (H' := [dat [x] [rowsD [[0, 0], [-1, 1], [1, 2]]], blk b2 (awB.flatMap Tok.cells) 48, blk b1 (awA.flatMap Tok.cells) 48, blk pc awC.cells 23]) (Hle.refl _) ?_
  refine T_open fun p hp => ?_
  refine T_le (H' := [blk b2 (awB.flatMap Tok.cells) 48, blk b1 (awA.flatMap Tok.cells) 48, fz p, blk pc awC.cells 23]) Hle.srt ?_
  repeat' (first | refine d1 ?_ | refine dd ?_ | (show ∀ _ : Nat, T _ _ _ _ _; intro _))
  refine rcE rfl rfl rfl rfl rfl rfl rfl (fun w hw => tablePrg_spec awC (some ⟨b1, 0, none⟩) none 1 0 2 0 [tokS sDeus] [] w ⟨hst.cls hw, src_take Tok.cells 6 tok6 (l := awA) (h2 hw).ha rfl 1 (by omega), rfl, by omega, ⟨rfl, fun h => absurd h (by omega)⟩, rfl, by omega, fun t ht => awSA t (by simp at ht; subst ht; exact List.mem_cons_self ..), fun t ht => by simp at ht⟩) (fun y _ => ?_)
  rw [awV2]
  refine T_open fun q hq => ?_
  refine T_le (H' := [blk b2 (awB.flatMap Tok.cells) 48, blk b1 (awA.flatMap Tok.cells) 48, fz q, fz p, blk pc awC.cells 23]) Hle.srt ?_
  repeat' (first | refine d1 ?_ | refine dd ?_ | (show T _ (.ops _ (_ :: _) :: _) _ _ _; first | refine T_call rfl rfl rfl rfl rfl (fun w hw => matches18_spec (some ⟨b1, 0, none⟩) (some ⟨b2, 0, none⟩) 2 3 2 3 awA awB x [[0, 0], [-1, 1], [1, 2]] w (h2 hw) (hp.own hw)) ?_ | refine T_callC rfl rfl rfl rfl rfl rfl rfl (fun hg w hw => matches18_spec (some ⟨b1, 0, none⟩) (some ⟨b2, 0, none⟩) 2 3 2 3 awA awB x [[0, 0], [-1, 1], [1, 2]] w (h2 hw) (hp.own hw)) ?_) | (show T _ (.run _ _ (_ :: _) _ _ :: _) _ _ _; first | refine rc rfl rfl rfl rfl rfl rfl rfl (fun w hw => matches18_spec (some ⟨b1, 0, none⟩) (some ⟨b2, 0, none⟩) 2 3 2 3 awA awB x [[0, 0], [-1, 1], [1, 2]] w (h2 hw) (hp.own hw)) ?_ | refine rcG rfl rfl rfl rfl rfl rfl rfl rfl rfl (fun hg w hw => matches18_spec (some ⟨b1, 0, none⟩) (some ⟨b2, 0, none⟩) 2 3 2 3 awA awB x [[0, 0], [-1, 1], [1, 2]] w (h2 hw) (hp.own hw)) ?_) | (show ∀ _ : Nat, T _ _ _ _ _; intro _))
  rw [awM1]
  repeat' (first | refine d1 ?_ | refine dd ?_ | (show T _ (.ops _ (_ :: _) :: _) _ _ _; refine T_op (OpT.sure (p := true) rfl rfl rfl (OpT.litW rfl rfl rfl rfl rfl rfl rfl rfl rfl rfl rfl (fun _ => ?_)))) | (show ∀ _ : Nat, T _ _ _ _ _; intro _))
  rename_i c3 c4 c5 c6
  refine T_le (H' := [blk c6 [.slice (some ⟨c3, 0, none⟩) 2 2, .slice (some ⟨c4, 0, none⟩) 2 2, .slice (some ⟨c5, 0, none⟩) 2 2] 33, blk c5 [.int .i64 1, .int .i64 2] 3, blk c4 [.int .i64 (-1), .int .i64 1] 3, blk c3 [.int .i64 0, .int .i64 0] 3, fz q, fz p]) Hle.srt ?_
  refine T_callC rfl rfl rfl rfl rfl rfl rfl (fun _ w hw => sameCols_spec x _ [[0, 0], [-1, 1], [1, 2]] [[0, 0], [-1, 1], [1, 2]] w (hp.own hw) (rd_lit (n := 3) (Src.own (b := c6) hw rfl) (by omega) ((rd_ints (b := c3) (n := 2) (r := [0, 0]) (Src.own hw rfl) (by omega)).append ((rd_ints (b := c4) (n := 2) (r := [-1, 1]) (Src.own hw rfl) (by omega)).append (rd_ints (b := c5) (n := 2) (r := [1, 2]) (Src.own hw rfl) (by omega)))))) ?_
  refine T_le (H' := [fz q, fz p]) Hle.srt ?_
  repeat' (first | refine d1 ?_ | refine dd ?_ | (show T _ (.ops _ (_ :: _) :: _) _ _ _; refine T_op (OpT.sure (p := true) rfl rfl rfl (OpT.litW rfl rfl rfl rfl rfl rfl rfl rfl rfl rfl rfl (fun _ => ?_)))) | (show ∀ _ : Nat, T _ _ _ _ _; intro _))
  rename_i d3 d4 d5
  refine T_le (H' := [blk d5 [.slice (some ⟨d3, 0, none⟩) 1 1, .slice (some ⟨d4, 0, none⟩) 1 1] 33, blk d4 [.int .i64 0] 3, blk d3 [.int .i64 40] 3, fz q, fz p]) Hle.srt ?_
  refine T_callC rfl rfl rfl rfl rfl rfl rfl (fun _ w hw => sameCols_spec y _ [[40], [0]] [[40], [0]] w (hq.own hw) (rd_lit (n := 2) (Src.own (b := d5) hw rfl) (by omega) ((rd_ints (b := d3) (n := 1) (r := [40]) (Src.own hw rfl) (by omega)).append (rd_ints (b := d4) (n := 1) (r := [0]) (Src.own hw rfl) (by omega))))) ?_
  repeat' (first | refine d1 ?_ | refine dd ?_ | (show ∀ _ : Nat, T _ _ _ _ _; intro _) | (show T _ (.code .ret :: _) _ _ _; refine T_retV [] rfl (Hle.none _) ⟨rfl, rfl⟩))
end Go.Proofs.YtmcgificpaeipaaGreatDoor
/- The engine: from how the statement reads its arguments to what the walks ask of them; what a law's row asks behind the call. It speaks of any program. -/
namespace Go.Proofs.YtmcgificpaeipaaGreatDoor
open Go.RowKit Go.Shelf Go.ChangeShapes Go.WideShapes Go.Deep

def wtL (p : TypeId → List D → Prop) : List (TypeId × Nat) → List D → Prop
  | [], ds => ds = []
  | (t, _) :: fs, ds => ∃ a b, ds = a ++ b ∧ p t a ∧ wtL p fs b
/-- The cells' data fit the type. -/
def wt (S : Sig) : Nat → TypeId → List D → Prop
  | 0, _, _ => False
  | f + 1, t, ds => match S.ty t with
    | some ⟨.int k, _, _, _⟩ => ∃ n, ds = [.v (.int k n)] ∧ (Lit.int k n).wf = true
    | some ⟨.bool, _, _, _⟩ => ∃ b, ds = [.v (.bool b)]
    | some ⟨.str, _, _, _⟩ => ∃ s : ByteArray, ds = [.v (.string s)] ∧ s.size ≤ maxLen
    | some ⟨.slice e, _, _, _⟩ => match S.ty e with
      | some ⟨_, sz, _, _⟩ => ∃ l n, ds = [.s sz l] ∧ l.length = n * sz ∧ n ≤ maxLen ∧ ∀ i, i < n → wt S f e ((l.drop (i * sz)).take sz)
      | none => False
    | some ⟨.struct fs, _, _, _⟩ => wtL (wt S f) fs ds
    | some ⟨.arr n e, _, _, _⟩ => match S.ty e with
      | some ⟨_, sz, _, _⟩ => ds.length = n * sz ∧ ∀ i, i < n → wt S f e ((ds.drop (i * sz)).take sz)
      | none => False
    | _ => False
def okL (S : Sig) (ok : TypeId → Bool) : Nat → List (TypeId × Nat) → Option Nat
  | acc, [] => some acc
  | acc, (t, off) :: fs => match S.ty t with
    | some ⟨_, sz, _, _⟩ => cond (ok t && Nat.beq off acc) (okL S ok (acc + sz) fs) none
    | none => none
/-- Types that are read so. -/
def okT (S : Sig) : Nat → TypeId → Bool
  | 0, _ => false
  | f + 1, t => match S.ty t with
    | some ⟨.int _, _, _, _⟩ => true
    | some ⟨.bool, _, _, _⟩ => true
    | some ⟨.str, _, _, _⟩ => true
    | some ⟨.slice e, _, _, _⟩ => okT S f e && (match S.ty e with | some ⟨_, _ + 1, _, _⟩ => true | _ => false)
    | some ⟨.struct fs, sz, _, _⟩ => (match okL S (okT S f) 0 fs with | some n => Nat.beq n sz | none => false)
    | some ⟨.arr n e, sz, _, _⟩ => okT S f e && (match S.ty e with | some ⟨_, m, _, _⟩ => Nat.beq (n * m) sz | _ => false)
    | _ => false
theorem cellsOf_ty {S : Sig} {t : TypeId} {i : TyI} (h : S.ty t = some i) : S.P.cellsOf t = i.size := by
  obtain ⟨x, hx, h1, _⟩ := (Sig.tyOk h).info'
  simp [Program.cellsOf, hx, h1]
section
variable {H : Type} {enc : TypeId × Value → H} {S : Sig} {w : World} {base : Nat} {spare : Nat → Bool} {held : Bool}
theorem chunk_app {α : Type} {l m : List α} {sz k : Nat} (hl : l.length = k * sz) (hm : m.length = sz) : (∀ i, i < k → ((l ++ m).drop (i * sz)).take sz = (l.drop (i * sz)).take sz) ∧ ((l ++ m).drop (k * sz)).take sz = m := by
  refine ⟨fun i hi => ?_, ?_⟩
  · have h1 : (i + 1) * sz ≤ k * sz := Nat.mul_le_mul_right sz hi
    rw [Nat.add_mul, Nat.one_mul] at h1
    rw [List.drop_append_of_le_length (by omega), List.take_append_of_le_length (by rw [List.length_drop]; omega)]
  · rw [← hl, List.drop_left, ← hm, List.take_length]
theorem trod_wt : ∀ (f : Nat) {t : TypeId}, okT S f t = true → ∀ {fuel : Nat} {cs : List Value} {x : DataW H × List MemPlace}, DataW.trod enc S.P w base spare held fuel t cs = some x → ∃ ds, Rd (wr w) cs ds ∧ wt S f t ds
  | 0, _, h, _, _, _, _ => by cases h
  | f + 1, t, h, fuel, cs, x, hx => by
    unfold okT at h
    split at h
    · rename_i k q1 q2 q3 ht
      have hf := (Sig.tyOk ht).fits
      obtain ⟨n, rfl, _, hw⟩ := DataW.trod_int hf hx
      exact ⟨[.v (.int k n)], .v _ .nil, by unfold wt; rw [ht]; exact ⟨n, rfl, hw⟩⟩
    · rename_i q1 q2 q3 ht
      have hf := (Sig.tyOk ht).fits
      obtain ⟨b, rfl, _⟩ := DataW.trod_bool hf hx
      exact ⟨[.v (.bool b)], .v _ .nil, by unfold wt; rw [ht]; exact ⟨b, rfl⟩⟩
    · rename_i q1 q2 q3 ht
      have hf := (Sig.tyOk ht).fits
      obtain ⟨s, rfl, _, hw⟩ := DataW.trod_string hf hx
      exact ⟨[.v (.string s)], .v _ .nil, by unfold wt; rw [ht]; exact ⟨s, rfl, hw⟩⟩
    · rename_i e q1 q2 q3 ht
      have hf := (Sig.tyOk ht).fits
      simp only [Bool.and_eq_true] at h
      obtain ⟨h1, h2⟩ := h
      split at h2
      · rename_i d m b z he
        have hC : S.P.cellsOf e = m + 1 := cellsOf_ty he
        rcases open_slice hf hx with ⟨rfl, _⟩ | ⟨a, len, cap, mm, n, Dd, Pl, rfl, hb, hl, hm, hmm, _, hi⟩
        · refine ⟨[.s (m + 1) []], .s none 0 0 (m + 1) [] (by simp) (Nat.le_refl _) (by omega) (fun h => absurd h (by omega)) .nil .nil, ?_⟩
          unfold wt; rw [ht]; simp only [he]
          exact ⟨[], 0, rfl, by simp, by simp [maxLen], fun i hi => by omega⟩
        · have hlm : len ≤ mm := by rw [hmm]; split <;> omega
          have key : ∀ k, k ≤ len → ∃ cs l, cs.length = k * (m + 1) ∧ (∀ j u, cs[j]? = some u → w.cell? (a.add j) = some u) ∧ Rd (wr w) cs l ∧ ∀ i, i < k → wt S f e ((l.drop (i * (m + 1))).take (m + 1)) := by
            intro k
            induction k with
            | zero => exact fun _ => ⟨[], [], by simp, fun j u hu => by simp at hu, .nil, fun i hi => by omega⟩
            | succ k ih =>
              intro hk
              obtain ⟨cs, l, g1, g2, g3, g4⟩ := ih (by omega)
              obtain ⟨cs', hc, hd⟩ := hi k (by omega)
              rw [hC] at hc
              obtain ⟨_, hcl, hat⟩ := World.cells?_some hc
              obtain ⟨ds, r1, r2⟩ := trod_wt f h1 hd
              have hll := g3.length
              have hdl := r1.length
              obtain ⟨c1, c2⟩ := chunk_app (l := l) (m := ds) (sz := m + 1) (k := k) (by omega) (by omega)
              refine ⟨cs ++ cs', l ++ ds, by rw [List.length_append, g1, hcl, Nat.add_mul, Nat.one_mul], fun j u hu => ?_, g3.append r1, fun i hi => ?_⟩
              · by_cases hj : j < cs.length
                · rw [List.getElem?_append_left hj] at hu; exact g2 j u hu
                · rw [List.getElem?_append_right (by omega)] at hu
                  have := hat (j - cs.length) (by have := (List.getElem?_eq_some_iff.1 hu).1; omega)
                  rw [Go.Deep.add_add, hu] at this
                  rw [← this]
                  congr 2
                  omega
              · rcases Nat.lt_or_ge i k with hik | hik
                · rw [c1 i hik]; exact g4 i hik
                · rw [show i = k by omega, c2]; exact r2
          obtain ⟨cs, l, g1, g2, g3, g4⟩ := key len (Nat.le_refl _)
          have hll := g3.length
          refine ⟨[.s (m + 1) l], .s (some a) len cap (m + 1) cs (by omega) hl (by simp only [maxLen] at hm; exact hm) (fun hpos => ?_) g3 .nil, ?_⟩
          · have h0 : 0 < cs.length := by rw [g1]; exact Nat.mul_pos hpos (by omega)
            have hsp : a.spot = none := by
              have := g2 0 _ (List.getElem?_eq_getElem h0)
              have := World.cell?_spot this
              unfold Addr.add at this
              split at this
              · exact this
              · rename_i hne; exact absurd rfl hne
            refine ⟨?_, fun j u hu => ?_⟩
            · unfold isAt bk ofs
              obtain ⟨b', o', s'⟩ := a
              simp only at hsp
              subst hsp
              rfl
            · have := g2 j u hu
              obtain ⟨b', o', s'⟩ := a
              simp only at hsp
              subst hsp
              unfold Addr.add at this
              show w.cell? ⟨b', o' + j, none⟩ = some u
              split at this
              · rename_i e0; rw [e0]; simpa using this
              · exact this
          · unfold wt; rw [ht]; simp only [he]
            exact ⟨l, len, rfl, by rw [← hll, g1], by omega, g4⟩
      · cases h2
    · rename_i fs sz q2 q3 ht
      obtain ⟨fa, hfa, hfs⟩ := (Sig.tyOk ht).fits
      split at h
      · rename_i n0 hok
        have hn0 : n0 = sz := Nat.eq_of_beq_eq_true h
        obtain ⟨xs, n, _, _, hlen, hxl, hfld⟩ := DataW.trod_struct hfa hx
        have hcs : cs.length = sz := hlen.trans (cellsOf_ty ht)
        have key : ∀ (l : List Field) (acc k : Nat), (∀ (i : Nat) (g : Field), l[i]? = some g → fa[k + i]? = some g) → okL S (okT S f) acc (l.map fun g => (g.type, g.offset)) = some sz → acc ≤ cs.length →
            ∃ ds, Rd (wr w) (cs.drop acc) ds ∧ wtL (wt S f) (l.map fun g => (g.type, g.offset)) ds := by
          intro l
          induction l with
          | nil =>
            intro acc k _ ho ha
            simp only [List.map_nil, okL, Option.some.injEq] at ho
            refine ⟨[], ?_, rfl⟩
            rw [List.drop_eq_nil_of_le (by omega)]
            exact .nil
          | cons g l ih =>
            intro acc k hl ho ha
            simp only [List.map_cons, okL] at ho
            split at ho
            · rename_i d gs b z hg
              cases hc : (okT S f g.type && Nat.beq g.offset acc) with
              | false => rw [hc] at ho; cases ho
              | true =>
                rw [hc] at ho
                simp only [cond_true] at ho
                simp only [Bool.and_eq_true] at hc
                have hoff : g.offset = acc := Nat.eq_of_beq_eq_true hc.2
                have h0 := hfld k g (by simpa using hl 0 g rfl)
                have hk : k < xs.length := by
                  have := (Array.getElem?_eq_some_iff.1 (show fa[k]? = some g by simpa using hl 0 g rfl)).1
                  omega
                rw [List.getElem?_eq_getElem hk, cellsOf_ty hg, hoff] at h0
                obtain ⟨ds1, r1, r2⟩ := trod_wt f hc.1 h0
                have hacc : acc + gs ≤ cs.length := by
                  have : ∀ (fs : List (TypeId × Nat)) (a b : Nat), okL S (okT S f) a fs = some b → a ≤ b := by
                    intro fs
                    induction fs with
                    | nil => intro a b h; simp only [okL, Option.some.injEq] at h; omega
                    | cons x fs ih =>
                      intro a b h
                      obtain ⟨t', o'⟩ := x
                      simp only [okL] at h
                      split at h
                      · rename_i d' s' b' z' _
                        cases hq : (okT S f t' && Nat.beq o' a) with
                        | false => rw [hq] at h; cases h
                        | true => rw [hq] at h; have := ih _ _ h; omega
                      · cases h
                  have := this _ _ _ ho
                  omega
                obtain ⟨ds2, r3, r4⟩ := ih (acc + gs) (k + 1) (fun i g' hg' => by have := hl (i + 1) g' (by simpa using hg'); rw [← this]; congr 1; omega) ho hacc
                refine ⟨ds1 ++ ds2, ?_, ds1, ds2, rfl, r2, r4⟩
                have e := List.take_append_drop gs (cs.drop acc)
                rw [List.drop_drop] at e
                rw [← e]
                exact r1.append r3
            · cases ho
        rw [← hfs] at hok
        obtain ⟨ds, r1, r2⟩ := key fa.toList 0 0 (fun i g hg => by simpa using hg) (by rw [hok, hn0]) (Nat.zero_le _)
        refine ⟨ds, by simpa using r1, ?_⟩
        unfold wt; rw [ht]; simp only
        rw [← hfs]
        exact r2
      · cases h
    · rename_i n e sz q2 q3 ht
      have hf := (Sig.tyOk ht).fits
      simp only [Bool.and_eq_true] at h
      obtain ⟨h1, h2⟩ := h
      split at h2
      · rename_i d m b z he
        have hC : S.P.cellsOf e = m := cellsOf_ty he
        have hsz : n * m = sz := Nat.eq_of_beq_eq_true h2
        obtain ⟨xs, mm, _, _, hlen, hxl, hel⟩ := DataW.trod_array hf hx
        have hcs : cs.length = n * m := by rw [hlen, cellsOf_ty ht, hsz]
        rw [hC] at hel
        have key : ∀ k, k ≤ n → ∃ l, Rd (wr w) (cs.take (k * m)) l ∧ ∀ i, i < k → wt S f e ((l.drop (i * m)).take m) := by
          intro k
          induction k with
          | zero => exact fun _ => ⟨[], by rw [Nat.zero_mul, List.take_zero]; exact .nil, fun i hi => by omega⟩
          | succ k ih =>
            intro hk
            obtain ⟨l, g3, g4⟩ := ih (by omega)
            have h0 := hel k (by omega)
            rw [List.getElem?_eq_getElem (by omega)] at h0
            obtain ⟨ds, r1, r2⟩ := trod_wt f h1 h0
            have h9 : (k + 1) * m ≤ n * m := Nat.mul_le_mul_right m hk
            rw [Nat.add_mul, Nat.one_mul] at h9
            have hll := g3.length
            have hdl := r1.length
            rw [List.length_take] at hll
            rw [List.length_take, List.length_drop] at hdl
            obtain ⟨c1, c2⟩ := chunk_app (l := l) (m := ds) (sz := m) (k := k) (by omega) (by omega)
            refine ⟨l ++ ds, ?_, fun i hi => ?_⟩
            · have e := g3.append r1
              rw [Nat.add_mul, Nat.one_mul, List.take_add]
              exact e
            · rcases Nat.lt_or_ge i k with hik | hik
              · rw [c1 i hik]; exact g4 i hik
              · rw [show i = k by omega, c2]; exact r2
        obtain ⟨l, g3, g4⟩ := key n (Nat.le_refl _)
        rw [← hcs, List.take_length] at g3
        refine ⟨l, g3, ?_⟩
        unfold wt; rw [ht]; simp only [he]
        exact ⟨by rw [← g3.length, hcs], g4⟩
      · cases h2
    · cases h
end
/-! ## Behind the call -/
section
variable {H : Type} {enc : TypeId × Value → H} {P : Program}
theorem post_of_below {f : Func} {s : ChangeSpec} {apart fresh handsOn again : Bool} {W W' : World} {args : Array Value} {v : Value} {ds gs : List (DataW H)} {before pa pv : List MemPlace}
    (hW : DataW.Whole enc P f.params.toList s.vars apart W args.toList ds gs before)
    (hres : ∀ (b : Nat) (sp : Nat → Bool) (hd : Bool), DataW.TrodAll enc P W' b sp hd f.resultTypes.toList (v.resultList f.resultTypes.size) (s.fn H (ds ++ gs)).results [])
    (hargs : ∀ sp : Nat → Bool, (∀ p ∈ before, sp p.block = true) → DataW.TrodAll enc P W' 0 sp true f.params.toList args.toList (s.fn H (ds ++ gs)).args pa)
    (hvars : ∀ sp : Nat → Bool, (∀ p ∈ before, sp p.block = true) → DataW.TrodVars enc P W' sp s.vars (s.fn H (ds ++ gs)).vars pv)
    (hps : before = pa ++ pv) (hb : Below W.heap.size W W')
    (hok : ∀ (j : Nat) (t : TypeId) (r : Value), f.resultTypes[j]? = some t → (v.resultList f.resultTypes.size)[j]? = some r → Value.okWide P W' .any 0 t r) :
    s.post enc P f apart fresh handsOn again W args v W' := by
  have hlt : ∀ p ∈ before, p.block < W.heap.size := fun p hp => hW.lt p hp
  have hold : ∀ p ∈ before, (fun b => decide (b < W.heap.size)) p.block = true := fun p hp => by simpa using hlt p hp
  refine ⟨ds, gs, before, [], pa, pv, hW, hres _ _ _, hargs _ hold, hvars _ hold, World.keptBut_mono (fun p hp => ⟨hp, ?_⟩) (hb.frame (· ∈ before)), fun _ => ?_⟩
  · rw [hps, List.mem_append] at hp
    exact Or.inr hp
  · obtain ⟨_, _, _, _, _, hz, hn⟩ := hW
    refine ⟨hok, _, _, ([] ++ pa) ++ pv, ⟨[] ++ pa, pv, trodAll_append (hargs _ (fun _ _ => rfl)) (hres _ _ _), hvars _ (fun _ _ => rfl), rfl, ?_, ?_⟩, ?_⟩
    · intro b off hp
      have hin : MemPlace.cell b off ∈ before := by rw [hps]; simpa using hp
      rw [hb.frozen (hlt _ hin)]
      exact hz b off hin
    · intro ha
      have := hn ha
      rw [hps] at this
      simpa using this
    · intro p hp _
      rw [hps]
      simpa using hp
theorem trodAll_stays (hl : laidOutB P = true) {W W' : World} {sp' : Nat → Bool} : ∀ {ts : List TypeId} {vs : List Value} {ds : List (DataW H)} {ps : List MemPlace}, (∀ t ∈ ts, P.readableRec t = true ∧ t < P.types.size) →
    DataW.TrodAll enc P W 0 (fun _ => true) true ts vs ds ps → (∀ p ∈ ps, W.sameAt W' p) → (∀ p ∈ ps, sp' p.block = true) → DataW.TrodAll enc P W' 0 sp' true ts vs ds ps
  | [], vs, ds, ps, _, h, _, _ => by
    obtain ⟨rfl, rfl, rfl⟩ := trodAll_nil h
    exact trodAll_mk0
  | t :: ts, vs, ds, ps, hr, h, hs, hp => by
    obtain ⟨v, vs', d, ds', p, q, rfl, rfl, rfl, h1, h2⟩ := trodAll_cons h
    have ht := hr t (List.mem_cons_self ..)
    exact trodAll_cons_mk (Go.WideElems.Trod_stays hl ht.1 ht.2 h1 (fun x hx => hs x (List.mem_append_left _ hx)) (fun x hx => hp x (List.mem_append_left _ hx)))
      (trodAll_stays hl (fun t' ht' => hr t' (List.mem_cons_of_mem _ ht')) h2 (fun x hx => hs x (List.mem_append_right _ hx)) (fun x hx => hp x (List.mem_append_right _ hx)))
/-- A law's post: it has returned true, and turned nothing that was there. -/
theorem law_post {f : Func} {s : ChangeSpec} {apart fresh handsOn again : Bool} {W W' : World} {args : Array Value} {ds gs : List (DataW H)} {before : List MemPlace} {tb : TypeId}
    (hW : DataW.Whole enc P f.params.toList s.vars apart W args.toList ds gs before) (hs : s.vars = []) (hfn : s.fn H ds = { results := [.lit (.bool true)], args := ds })
    (hl : laidOutB P = true) (hr : ∀ t ∈ f.params.toList, P.readableRec t = true ∧ t < P.types.size) (hres : f.resultTypes = #[tb]) (htb : P.underlying tb = some .bool) (hb : Below W.heap.size W W') :
    s.post enc P f apart fresh handsOn again W args (.bool true) W' := by
  have hW' := hW
  have hlt : ∀ p ∈ before, p.block < W.heap.size := fun p hp => hW.lt p hp
  obtain ⟨p, q, hA, hV, rfl, hfz, hnd⟩ := hW
  rw [hs] at hV
  obtain ⟨rfl, rfl⟩ := trodVars_none hV
  refine post_of_below (pa := p) (pv := []) hW' (fun b sp hd => ?_) (fun sp hsp => ?_) (fun sp _ => ?_) rfl hb (ok_one hres rfl (okWide_bool_mk htb _))
  · rw [List.append_nil, hfn, hres]; exact trodAll_mk1 (shut_bool htb true)
  · rw [List.append_nil, hfn]
    exact trodAll_stays hl hr hA (fun x hx => hb.same (hlt x (List.mem_append_left _ hx))) (fun x hx => hsp x (List.mem_append_left _ hx))
  · rw [List.append_nil, hfn, hs]; rfl
end
end Go.Proofs.YtmcgificpaeipaaGreatDoor
/- From the statement's own words to the walks: costs, tokens; the library's variables. -/
namespace Go.Proofs.YtmcgificpaeipaaGreatDoor
open Go.RowKit Go.Shelf Go.ChangeShapes Go.WideShapes Go.Proofs
set_option maxRecDepth 100000

theorem knob : ownKnob Tryz.prog.godebug = none := by kernel_rfl
theorem laidOk : laidOutB Tryz.prog = true := by kernel_rfl
theorem costs_wt {f : Nat} {ds : List D} (h : wt sg (f + 2) 23 ds) : ∃ c : Costs, ds = c.cells.map .v := by
  obtain ⟨a0, b0, rfl, h0, a1, b1, rfl, h1, a2, b2, rfl, h2, a3, b3, rfl, h3, rfl⟩ := (show wtL (wt sg (f + 1)) [(3, 0), (3, 1), (3, 2), (3, 3)] ds from h)
  obtain ⟨n0, rfl, _⟩ := (show ∃ n, a0 = [.v (.int .i64 n)] ∧ (Lit.int .i64 n).wf = true from h0)
  obtain ⟨n1, rfl, _⟩ := (show ∃ n, a1 = [.v (.int .i64 n)] ∧ (Lit.int .i64 n).wf = true from h1)
  obtain ⟨n2, rfl, _⟩ := (show ∃ n, a2 = [.v (.int .i64 n)] ∧ (Lit.int .i64 n).wf = true from h2)
  obtain ⟨n3, rfl, _⟩ := (show ∃ n, a3 = [.v (.int .i64 n)] ∧ (Lit.int .i64 n).wf = true from h3)
  exact ⟨⟨n0, n1, n2, n3⟩, rfl⟩
theorem tok_wt {f : Nat} {ds : List D} (h : wt sg (f + 3) 48 ds) : ∃ t : Tok, ds = t.cells.map .v := by
  obtain ⟨a0, b0, rfl, h0, a1, b1, rfl, h1, a2, b2, rfl, h2, a3, b3, rfl, h3, a4, b4, rfl, h4, rfl⟩ := (show wtL (wt sg (f + 2)) [(9, 0), (9, 1), (46, 2), (3, 4), (9, 5)] ds from h)
  obtain ⟨s0, rfl, _⟩ := (show ∃ s : ByteArray, a0 = [.v (.string s)] ∧ s.size ≤ maxLen from h0)
  obtain ⟨s1, rfl, _⟩ := (show ∃ s : ByteArray, a1 = [.v (.string s)] ∧ s.size ≤ maxLen from h1)
  obtain ⟨c0, d0, rfl, g0, c1, d1, rfl, g1, rfl⟩ := (show wtL (wt sg (f + 1)) [(9, 0), (3, 1)] a2 from h2)
  obtain ⟨s2, rfl, _⟩ := (show ∃ s : ByteArray, c0 = [.v (.string s)] ∧ s.size ≤ maxLen from g0)
  obtain ⟨n0, rfl, _⟩ := (show ∃ n, c1 = [.v (.int .i64 n)] ∧ (Lit.int .i64 n).wf = true from g1)
  obtain ⟨n1, rfl, _⟩ := (show ∃ n, a3 = [.v (.int .i64 n)] ∧ (Lit.int .i64 n).wf = true from h3)
  obtain ⟨s3, rfl, _⟩ := (show ∃ s : ByteArray, a4 = [.v (.string s)] ∧ s.size ≤ maxLen from h4)
  exact ⟨⟨s0, s1, s2, n0, n1, s3⟩, rfl⟩
section
variable {H : Type} {enc : TypeId × Value → H} {W : World} {base b0 : Nat} {sp : Nat → Bool} {held : Bool} {r : Reach} {v : Value} {d : DataW H} {ps : List MemPlace}
theorem arg_costs (hv : Value.okWide Tryz.prog W r b0 23 v) (h : DataW.Trod enc Tryz.prog W base sp held 23 v d ps) : ∃ c : Costs, v = c.val := by
  obtain ⟨cs, rfl, _⟩ := okWide_struct Tryz.underlying23 hv
  obtain ⟨fuel, hf⟩ := h
  obtain ⟨ds, h1, h2⟩ := trod_wt (S := sg) 9 rfl hf
  obtain ⟨c, rfl⟩ := costs_wt h2
  exact ⟨c, congrArg Value.agg (Array.ext' h1.vals_inv)⟩
theorem arg_tok (hv : Value.okWide Tryz.prog W r b0 48 v) (h : DataW.Trod enc Tryz.prog W base sp held 48 v d ps) : ∃ t : Tok, v = t.val := by
  obtain ⟨cs, rfl, _⟩ := okWide_struct Tryz.underlying48 hv
  obtain ⟨fuel, hf⟩ := h
  obtain ⟨ds, h1, h2⟩ := trod_wt (S := sg) 9 rfl hf
  obtain ⟨c, rfl⟩ := tok_wt h2
  exact ⟨c, congrArg Value.agg (Array.ext' h1.vals_inv)⟩
end
/-- What the row says of the library's variables. -/
def laids : List (String × DataW Unit) := [("math/bits.deBruijn32tab", Rows.laid_math_bits_deBruijn32tab), ("math/bits.deBruijn64tab", Rows.laid_math_bits_deBruijn64tab), ("internal/strconv.uint64pow10", Rows.laid_internal_strconv_uint64pow10), ("strconv.ErrRange", Rows.laid_strconv_ErrRange), ("strconv.ErrSyntax", Rows.laid_strconv_ErrSyntax)]
theorem iface_var {n : String} {rest : List (String × DataW Unit)} {W : World} {g : Nat} {ti : TypeId} {ms : Array (String × TypeId)} {nm : String} {dd : DataW Unit} (h : laidMet Tryz.prog ((n, .iface nm dd) :: rest) W) (hg : Tryz.prog.globalNamed n = some g)
    (ht : (Tryz.prog.globals[g]?).map (·.type) = some ti) (hi : Tryz.prog.underlying ti = some (.interface ms)) : ∃ tp p, W.var? Tryz.prog n = some #[.iface tp p] := by
  obtain ⟨ps, ⟨g0, t0, cs0, f0, p0, q0, hg0, ht0, hv0, hd0, _, e0⟩, _, hrows⟩ := h
  obtain rfl := Option.some.inj (hg.symm.trans hg0)
  obtain rfl := Option.some.inj (ht.symm.trans ht0)
  obtain ⟨l0⟩ := cs0
  cases f0 with
  | zero => simp [DataW.trod] at hd0
  | succ f0 =>
    unfold DataW.trod at hd0
    rw [hi] at hd0
    split at hd0 <;> simp_all
theorem std_of {W : World} (h : laidMetH Tryz.prog laids W) : Std W := by
  rw [MakeChecks.laidMetH_plain _ _ _ (by kernel_rfl)] at h
  have h1 := h.tail.tail.tail
  obtain ⟨tq, q, hq⟩ := iface_var (g := 2) h1 (by kernel_rfl) (by kernel_rfl) Tryz.underlying123
  obtain ⟨tp, p, hp⟩ := iface_var (g := 1) h1.tail (by kernel_rfl) (by kernel_rfl) Tryz.underlying123
  exact ⟨tp, p, tq, q, hp, hq⟩
end Go.Proofs.YtmcgificpaeipaaGreatDoor
/- From the statement's own words to the walks: slices of tokens, of truths. -/
namespace Go.Proofs.YtmcgificpaeipaaGreatDoor
open Go.RowKit Go.Shelf Go.ChangeShapes Go.WideShapes Go.Proofs
set_option maxRecDepth 100000

theorem chunks {α : Type} (cells : α → List Value) (sz : Nat) : ∀ (n : Nat) (l : List D), l.length = n * sz → (∀ i, i < n → ∃ t : α, (l.drop (i * sz)).take sz = (cells t).map .v) → ∃ ts : List α, ts.length = n ∧ l = (ts.flatMap cells).map .v
  | 0, l, hl, _ => ⟨[], rfl, by simpa using List.eq_nil_of_length_eq_zero (by simpa using hl)⟩
  | n + 1, l, hl, h => by
    obtain ⟨t, ht⟩ := h 0 (by omega)
    rw [Nat.zero_mul, List.drop_zero] at ht
    obtain ⟨ts, h1, h2⟩ := chunks cells sz n (l.drop sz) (by rw [List.length_drop, hl, Nat.succ_mul]; omega) fun i hi => by
      obtain ⟨t, ht⟩ := h (i + 1) (by omega)
      exact ⟨t, by rw [List.drop_drop, ← ht, Nat.succ_mul, Nat.add_comm]⟩
    exact ⟨t :: ts, by simp [h1], by rw [List.flatMap_cons, List.map_append, ← ht, ← h2, List.take_append_drop]⟩
theorem flat1 {α : Type} (f : α → Value) : ∀ l : List α, l.flatMap (fun x => [f x]) = l.map f
  | [] => rfl
  | x :: l => by rw [List.flatMap_cons, List.map_cons, flat1 f l]; rfl
section
variable {H : Type} {enc : TypeId × Value → H} {W : World} {base b0 : Nat} {sp : Nat → Bool} {held : Bool} {r : Reach} {v : Value} {d : DataW H} {ps : List MemPlace}
theorem arg_toks (hv : Value.okWide Tryz.prog W r b0 24 v) (h : DataW.Trod enc Tryz.prog W base sp held 24 v d ps) : ∃ A cap, ∃ l : List Tok, v = .slice A l.length cap ∧ l.length ≤ 9223372036854775807 ∧ Src W 6 A l.length (l.flatMap Tok.cells) := by
  obtain ⟨fuel, hf⟩ := h
  obtain ⟨ds, h1, h2⟩ := trod_wt (S := sg) 9 rfl hf
  obtain ⟨l, n, rfl, hl, _, hi⟩ := (show ∃ l n, ds = [.s 6 l] ∧ l.length = n * 6 ∧ n ≤ maxLen ∧ ∀ i, i < n → wt sg 8 48 ((l.drop (i * 6)).take 6) from h2)
  obtain ⟨ts, e1, e2⟩ := chunks Tok.cells 6 n l hl fun i hin => tok_wt (hi i hin)
  subst e2
  have hc : v.cells.toList = [v] := by
    cases v <;> first | rfl | (exfalso; unfold Value.okWide at hv; simp [Tryz.underlying24] at hv; unfold Cell.okWide at hv; simp [Tryz.underlying24] at hv; unfold Cell.ok at hv; simp [Tryz.underlying24] at hv)
  rw [hc] at h1
  obtain ⟨A, m, cap, rfl, h3, h4, h5, h6⟩ := h1.srcV
  have em : m = ts.length := by rw [List.length_map] at hl; omega
  subst em
  exact ⟨A, cap, ts, rfl, by omega, h6⟩
theorem arg_toksC (hv : Value.okWide Tryz.prog W r b0 24 v) (h : DataW.Trod enc Tryz.prog W base sp held 24 v d ps) : ∃ A cap, ∃ l : List Tok, v = .slice A l.length cap ∧ l.length ≤ 9223372036854775807 ∧ Src W 6 A l.length (l.flatMap Tok.cells) ∧ l.length ≤ cap ∧ cap ≤ 9223372036854775807 := by
  obtain ⟨fuel, hf⟩ := h
  obtain ⟨ds, h1, h2⟩ := trod_wt (S := sg) 9 rfl hf
  obtain ⟨l, n, rfl, hl, _, hi⟩ := (show ∃ l n, ds = [.s 6 l] ∧ l.length = n * 6 ∧ n ≤ maxLen ∧ ∀ i, i < n → wt sg 8 48 ((l.drop (i * 6)).take 6) from h2)
  obtain ⟨ts, e1, e2⟩ := chunks Tok.cells 6 n l hl fun i hin => tok_wt (hi i hin)
  subst e2
  have hc : v.cells.toList = [v] := by
    cases v <;> first | rfl | (exfalso; unfold Value.okWide at hv; simp [Tryz.underlying24] at hv; unfold Cell.okWide at hv; simp [Tryz.underlying24] at hv; unfold Cell.ok at hv; simp [Tryz.underlying24] at hv)
  rw [hc] at h1
  obtain ⟨A, m, cap, rfl, h3, h4, h5, h6⟩ := h1.srcV
  have em : m = ts.length := by rw [List.length_map] at hl; omega
  subst em
  exact ⟨A, cap, ts, rfl, by omega, h6, h4, h5⟩
theorem arg_bools (hv : Value.okWide Tryz.prog W r b0 118 v) (h : DataW.Trod enc Tryz.prog W base sp held 118 v d ps) : ∃ A cap, ∃ l : List Bool, v = .slice A l.length cap ∧ l.length ≤ 9223372036854775807 ∧ Src W 1 A l.length (l.map Value.bool) := by
  obtain ⟨fuel, hf⟩ := h
  obtain ⟨ds, h1, h2⟩ := trod_wt (S := sg) 9 rfl hf
  obtain ⟨l, n, rfl, hl, _, hi⟩ := (show ∃ l n, ds = [.s 1 l] ∧ l.length = n * 1 ∧ n ≤ maxLen ∧ ∀ i, i < n → wt sg 8 4 ((l.drop (i * 1)).take 1) from h2)
  obtain ⟨ts, e1, e2⟩ := chunks (fun x : Bool => [Value.bool x]) 1 n l hl fun i hin => (show ∃ b, _ = [D.v (.bool b)] from hi i hin)
  subst e2
  have hc : v.cells.toList = [v] := by
    cases v <;> first | rfl | (exfalso; unfold Value.okWide at hv; simp [Tryz.underlying118] at hv; unfold Cell.okWide at hv; simp [Tryz.underlying118] at hv; unfold Cell.ok at hv; simp [Tryz.underlying118] at hv)
  rw [hc] at h1
  obtain ⟨A, m, cap, rfl, h3, h4, h5, h6⟩ := h1.srcV
  have em : m = ts.length := by rw [List.length_map] at hl; omega
  subst em
  exact ⟨A, cap, ts, rfl, by omega, by rw [← flat1]; exact h6⟩
theorem arg_u8 (hv : Value.okWide Tryz.prog W r b0 5 v) (h : DataW.Trod enc Tryz.prog W base sp held 5 v d ps) : ∃ n : Int, v = .int .u8 n ∧ 0 ≤ n ∧ n ≤ 255 := by
  obtain ⟨fuel, hf⟩ := h
  obtain ⟨ds, h1, h2⟩ := trod_wt (S := sg) 9 rfl hf
  obtain ⟨n, rfl, hn⟩ := (show ∃ n, ds = [.v (.int .u8 n)] ∧ (Lit.int .u8 n).wf = true from h2)
  have hc : v.cells.toList = [v] := by
    cases v <;> first | rfl | (exfalso; unfold Value.okWide at hv; simp [Tryz.underlying5] at hv; unfold Cell.okWide at hv; simp [Tryz.underlying5] at hv; unfold Cell.ok at hv; simp [Tryz.underlying5] at hv)
  rw [hc] at h1
  refine ⟨n, h1.val, ?_⟩
  simp only [Lit.wf, Bool.and_eq_true, decide_eq_true_eq] at hn
  exact ⟨by have := hn.1; simpa [IntKind.min, IntKind.signed] using this, by have := hn.2; simpa [IntKind.max, IntKind.signed, IntKind.bits] using this⟩
end
end Go.Proofs.YtmcgificpaeipaaGreatDoor
/- From the statement's own words to the walks: tables of numbers, lists of sources, cases. -/
namespace Go.Proofs.YtmcgificpaeipaaGreatDoor
open Go.RowKit Go.Shelf Go.ChangeShapes Go.WideShapes Go.Proofs
set_option maxRecDepth 100000

theorem chunksD {α : Type} (g : α → List D) (sz : Nat) : ∀ (n : Nat) (l : List D), l.length = n * sz → (∀ i, i < n → ∃ t : α, (l.drop (i * sz)).take sz = g t) → ∃ ts : List α, ts.length = n ∧ l = ts.flatMap g
  | 0, l, hl, _ => ⟨[], rfl, by simpa using List.eq_nil_of_length_eq_zero (by simpa using hl)⟩
  | n + 1, l, hl, h => by
    obtain ⟨t, ht⟩ := h 0 (by omega)
    rw [Nat.zero_mul, List.drop_zero] at ht
    obtain ⟨ts, h1, h2⟩ := chunksD g sz n (l.drop sz) (by rw [List.length_drop, hl, Nat.succ_mul]; omega) fun i hi => by
      obtain ⟨t, ht⟩ := h (i + 1) (by omega)
      exact ⟨t, by rw [List.drop_drop, ← ht, Nat.succ_mul, Nat.add_comm]⟩
    exact ⟨t :: ts, by simp [h1], by rw [List.flatMap_cons, ← ht, ← h2, List.take_append_drop]⟩
theorem flat1D {α : Type} (f : α → D) : ∀ l : List α, l.flatMap (fun x => [f x]) = l.map f
  | [] => rfl
  | x :: l => by rw [List.flatMap_cons, List.map_cons, flat1D f l]; rfl
def toksD (l : List Tok) : D := .s 6 ((l.flatMap Tok.cells).map .v)
theorem ints_wt {f : Nat} {ds : List D} (h : wt sg (f + 2) 33 ds) : ∃ l : List Int, ds = [intsD l] := by
  obtain ⟨l, n, rfl, hl, _, hi⟩ := (show ∃ l n, ds = [.s 1 l] ∧ l.length = n * 1 ∧ n ≤ maxLen ∧ ∀ i, i < n → wt sg (f + 1) 3 ((l.drop (i * 1)).take 1) from h)
  obtain ⟨ts, e1, e2⟩ := chunksD (fun z : Int => [D.v (.int .i64 z)]) 1 n l hl fun i hin => by
    obtain ⟨z, hz, _⟩ := (show ∃ z, _ = [D.v (.int .i64 z)] ∧ (Lit.int .i64 z).wf = true from hi i hin)
    exact ⟨z, hz⟩
  subst e2
  exact ⟨ts, by rw [flat1D]; rfl⟩
theorem rows_wt {f : Nat} {ds : List D} (h : wt sg (f + 3) 30 ds) : ∃ m : List (List Int), ds = [rowsD m] := by
  obtain ⟨l, n, rfl, hl, _, hi⟩ := (show ∃ l n, ds = [.s 1 l] ∧ l.length = n * 1 ∧ n ≤ maxLen ∧ ∀ i, i < n → wt sg (f + 2) 33 ((l.drop (i * 1)).take 1) from h)
  obtain ⟨ts, e1, e2⟩ := chunksD (fun z : List Int => [intsD z]) 1 n l hl fun i hin => ints_wt (hi i hin)
  subst e2
  exact ⟨ts, by rw [flat1D]; rfl⟩
theorem toks_wt {f : Nat} {ds : List D} (h : wt sg (f + 4) 24 ds) : ∃ l : List Tok, ds = [toksD l] := by
  obtain ⟨l, n, rfl, hl, _, hi⟩ := (show ∃ l n, ds = [.s 6 l] ∧ l.length = n * 6 ∧ n ≤ maxLen ∧ ∀ i, i < n → wt sg (f + 3) 48 ((l.drop (i * 6)).take 6) from h)
  obtain ⟨ts, e1, e2⟩ := chunks Tok.cells 6 n l hl fun i hin => tok_wt (hi i hin)
  subst e2
  exact ⟨ts, rfl⟩
theorem toksL_wt {f : Nat} {ds : List D} (h : wt sg (f + 5) 67 ds) : ∃ m : List (List Tok), ds = [.s 1 (m.map toksD)] := by
  obtain ⟨l, n, rfl, hl, _, hi⟩ := (show ∃ l n, ds = [.s 1 l] ∧ l.length = n * 1 ∧ n ≤ maxLen ∧ ∀ i, i < n → wt sg (f + 4) 24 ((l.drop (i * 1)).take 1) from h)
  obtain ⟨ts, e1, e2⟩ := chunksD (fun z : List Tok => [toksD z]) 1 n l hl fun i hin => toks_wt (hi i hin)
  subst e2
  exact ⟨ts, by rw [flat1D]⟩
/-- A slice of tokens, read. -/
theorem Rd.toks {w : World} {x : Value} {l : List Tok} (h : Rd (wr w) [x] [toksD l]) : ∃ A cap, x = .slice A l.length cap ∧ l.length ≤ 9223372036854775807 ∧ Src w 6 A l.length (l.flatMap Tok.cells) ∧ l.length ≤ cap ∧ cap ≤ 9223372036854775807 := by
  obtain ⟨A, m, cap, rfl, h3, h4, h5, h6⟩ := h.srcV
  have em : m = l.length := by
    have : (l.flatMap Tok.cells).length = l.length * 6 := flatT_length l
    omega
  subst em
  exact ⟨A, cap, rfl, by omega, h6, h4, h5⟩
section
variable {H : Type} {enc : TypeId × Value → H} {W : World} {base b0 : Nat} {sp : Nat → Bool} {held : Bool} {r : Reach} {v : Value} {d : DataW H} {ps : List MemPlace}
theorem arg_rows (hv : Value.okWide Tryz.prog W r b0 30 v) (h : DataW.Trod enc Tryz.prog W base sp held 30 v d ps) : ∃ m : List (List Int), Rd (wr W) [v] [rowsD m] := by
  obtain ⟨fuel, hf⟩ := h
  obtain ⟨ds, h1, h2⟩ := trod_wt (S := sg) 9 rfl hf
  obtain ⟨m, rfl⟩ := rows_wt h2
  have hc : v.cells.toList = [v] := by
    cases v <;> first | rfl | (exfalso; unfold Value.okWide at hv; simp [Tryz.underlying30] at hv; unfold Cell.okWide at hv; simp [Tryz.underlying30] at hv; unfold Cell.ok at hv; simp [Tryz.underlying30] at hv)
  rw [hc] at h1
  exact ⟨m, h1⟩
theorem arg_ints (hv : Value.okWide Tryz.prog W r b0 33 v) (h : DataW.Trod enc Tryz.prog W base sp held 33 v d ps) : ∃ m : List Int, Rd (wr W) [v] [intsD m] := by
  obtain ⟨fuel, hf⟩ := h
  obtain ⟨ds, h1, h2⟩ := trod_wt (S := sg) 9 rfl hf
  obtain ⟨m, rfl⟩ := ints_wt h2
  have hc : v.cells.toList = [v] := by
    cases v <;> first | rfl | (exfalso; unfold Value.okWide at hv; simp [Tryz.underlying33] at hv; unfold Cell.okWide at hv; simp [Tryz.underlying33] at hv; unfold Cell.ok at hv; simp [Tryz.underlying33] at hv)
  rw [hc] at h1
  exact ⟨m, h1⟩
theorem arg_u8s (hv : Value.okWide Tryz.prog W r b0 40 v) (h : DataW.Trod enc Tryz.prog W base sp held 40 v d ps) : ∃ A cap, ∃ l : List Int, v = .slice A l.length cap ∧ l.length ≤ 9223372036854775807 ∧ Src W 1 A l.length (l.map (Value.int .u8)) ∧ ∀ z ∈ l, 0 ≤ z ∧ z ≤ 255 := by
  obtain ⟨fuel, hf⟩ := h
  obtain ⟨ds, h1, h2⟩ := trod_wt (S := sg) 9 rfl hf
  obtain ⟨l, n, rfl, hl, _, hi⟩ := (show ∃ l n, ds = [.s 1 l] ∧ l.length = n * 1 ∧ n ≤ maxLen ∧ ∀ i, i < n → wt sg 8 5 ((l.drop (i * 1)).take 1) from h2)
  obtain ⟨ts, e1, e2⟩ := chunks (fun x : {z : Int // 0 ≤ z ∧ z ≤ 255} => [Value.int .u8 x.1]) 1 n l hl fun i hin => by
    obtain ⟨z, hz, hn⟩ := (show ∃ z, _ = [D.v (.int .u8 z)] ∧ (Lit.int .u8 z).wf = true from hi i hin)
    simp only [Lit.wf, Bool.and_eq_true, decide_eq_true_eq] at hn
    exact ⟨⟨z, by have := hn.1; simpa [IntKind.min, IntKind.signed] using this, by have := hn.2; simpa [IntKind.max, IntKind.signed, IntKind.bits] using this⟩, hz⟩
  subst e2
  have hc : v.cells.toList = [v] := by
    cases v <;> first | rfl | (exfalso; unfold Value.okWide at hv; simp [Tryz.underlying40] at hv; unfold Cell.okWide at hv; simp [Tryz.underlying40] at hv; unfold Cell.ok at hv; simp [Tryz.underlying40] at hv)
  rw [hc] at h1
  obtain ⟨A, m, cap, rfl, h3, h4, h5, h6⟩ := h1.srcV
  have em : m = (ts.map Subtype.val).length := by rw [List.length_map] at hl ⊢; omega
  subst em
  refine ⟨A, cap, ts.map Subtype.val, rfl, by omega, ?_, fun z hz => ?_⟩
  · rw [flat1] at h6
    rw [List.map_map]
    exact h6
  · obtain ⟨y, _, rfl⟩ := List.mem_map.1 hz
    exact y.2
theorem arg_toksL (hv : Value.okWide Tryz.prog W r b0 67 v) (h : DataW.Trod enc Tryz.prog W base sp held 67 v d ps) : ∃ m : List (List Tok), Rd (wr W) [v] [.s 1 (m.map toksD)] := by
  obtain ⟨fuel, hf⟩ := h
  obtain ⟨ds, h1, h2⟩ := trod_wt (S := sg) 9 rfl hf
  obtain ⟨m, rfl⟩ := toksL_wt h2
  have hc : v.cells.toList = [v] := by
    cases v <;> first | rfl | (exfalso; unfold Value.okWide at hv; simp [Tryz.underlying67] at hv; unfold Cell.okWide at hv; simp [Tryz.underlying67] at hv; unfold Cell.ok at hv; simp [Tryz.underlying67] at hv)
  rw [hc] at h1
  exact ⟨m, h1⟩
end
end Go.Proofs.YtmcgificpaeipaaGreatDoor
/- Walks: pairs of sources: the reference: what is an alignment, what it costs, its equal Norms. -/
namespace Go.Proofs.YtmcgificpaeipaaGreatDoor
open Go.RowKit Go.Shelf Go.Proofs
set_option maxRecDepth 100000
set_option maxHeartbeats 1000000

theorem aligned18_spec (G : Grd) (n m : Nat) (hn : G.n = n) (hm : G.m = m) (hnb : n ≤ 1000) (hmb : m ≤ 1000) (z : Value) (cols : List (List Int)) (w : World) (hz : Rd (wr w) [z] [rowsD cols]) :
    Spec Tryz.prog 58 [.int .i64 (n : Nat), .int .i64 (m : Nat), z] w (fun v R => v = .bool (alnd G cols 0 0).isSome ∧ R = []) := by
  obtain ⟨At, capt, cs, rfl, ht1, ht2, hcs, hA, hrows⟩ := hz.tab
  refine spec_of sg Tryz.func58 rfl rfl rfl ?_
  repeat' (first | refine d1 ?_ | refine dd ?_ | (show ∀ _ : Nat, T _ _ _ _ _; intro _))
  refine T_loopX (fun s : Nat × Nat × Nat => [(9, .int .i64 s.1), (7, .int .i64 s.2.1), (8, .int .i64 s.2.2)]) (fun _ => []) (fun s => s.1 ≤ cols.length ∧ s.2.1 ≤ n ∧ s.2.2 ≤ m ∧ (alnd G cols 0 0).isSome = (alnd G (cols.drop s.1) s.2.1 s.2.2).isSome) (fun s => cols.length - s.1) (0, 0, 0) ⟨Nat.zero_le _, Nat.zero_le _, Nat.zero_le _, rfl⟩ ?_
  rintro ⟨j, i, k⟩ ⟨hj, hi, hkm, hc⟩
  dsimp only at hj hi hkm hc ⊢
  repeat' (first | refine d1 ?_ | refine dd ?_ | (show ∀ _ : Nat, T _ _ _ _ _; intro _))
  refine T_if rfl (fun h => ?_) (fun h => ?_)
  · simp only [decide_eq_true_eq] at h
    obtain ⟨bt, ot, rfl, hb⟩ := hA (by omega)
    obtain ⟨r, hr⟩ : ∃ u, cols[j]? = some u := ⟨_, List.getElem?_eq_getElem (by omega)⟩
    obtain ⟨A', cap', hc1, hl1, hm1, hA3⟩ := hrows.tabRow hr
    have hr1 : RdC w bt (ot + (j : Int).toNat * 1) [.slice A' r.length cap'] := RdC.one (by rw [off1]; exact hb j _ hc1)
    rw [drop_get hr] at hc
    have hbad : mvOf G i k r = none → (alnd G cols 0 0).isSome = false := fun hh => by rw [hc, alnd_bad hh]; rfl
    have hgood : ∀ y, mvOf G i k r = some y → (alnd G cols 0 0).isSome = (alnd G (cols.drop (j + 1)) (i + y.fst) (k + y.snd)).isSome := fun y hh => by rw [hc, alnd_cons hh, Option.isSome_map]
    by_cases hl : r.length = 2
    · obtain ⟨u, v, rfl⟩ := len2 hl
      obtain ⟨br, orr, rfl, hb2⟩ := hA3 (by simp)
      have hr2 : RdC w br (orr + (0 : Int).toNat * 1) [.int .i64 u] := RdC.one (hb2 0 _ rfl)
      have hr3 : RdC w br (orr + (1 : Int).toNat * 1) [.int .i64 v] := RdC.one (hb2 1 _ rfl)
      repeat' (first | refine d1 ?_ | refine dd ?_ | (show ∀ _ : Nat, T _ _ _ _ _; intro _))
      refine T_if rfl (fun h3 => ?_) (fun h3 => ?_)
      · rw [hbad (mvOf_none fun u' v' e hu hv => by cases e; rw [hn] at hu; rw [hm] at hv; simp at h3; omega)]
        repeat' (first | refine d1 ?_ | refine dd ?_ | (show ∀ _ : Nat, T _ _ _ _ _; intro _) | (show T _ (.code .ret :: _) _ _ _; refine T_retV [] rfl (Hle.none _) ⟨rfl, rfl⟩))
      · simp at h3
        by_cases hu : u = -1
        · subst hu
          obtain rfl : v = k := by omega
          repeat' (first | refine d1 ?_ | refine dd ?_ | (show ∀ _ : Nat, T _ _ _ _ _; intro _))
          refine T_if rfl (fun h4 => by exfalso; simp at h4) (fun h4 => ?_)
          repeat' (first | refine d1 ?_ | refine dd ?_ | (show ∀ _ : Nat, T _ _ _ _ _; intro _))
          refine T_if rfl (fun h5 => ?_) (fun h5 => by exfalso; first | (simp at h5; done) | (simp at h5; omega))
          repeat' (first | refine d1 ?_ | refine dd ?_ | (show ∀ _ : Nat, T _ _ _ _ _; intro _))
          refine T_if rfl (fun h6 => ?_) (fun h6 => ?_)
          · rw [hbad (mvOf_none fun u' v' e hu hv => by cases e; rw [hn] at hu; rw [hm] at hv; simp at h6; omega)]
            repeat' (first | refine d1 ?_ | refine dd ?_ | (show ∀ _ : Nat, T _ _ _ _ _; intro _) | (show T _ (.code .ret :: _) _ _ _; refine T_retV [] rfl (Hle.none _) ⟨rfl, rfl⟩))
          · simp at h6
            repeat' (first | refine d1 ?_ | refine dd ?_ | (show ∀ _ : Nat, T _ _ _ _ _; intro _))
            exact T_backX (j + 1, i, k + 1) ⟨by dsimp only; omega, by dsimp only; omega, by dsimp only; omega, hgood _ (mvOf_snd (by rw [hm]; omega))⟩ (by dsimp only; omega)
        · obtain rfl : u = i := by omega
          by_cases hv : v = -1
          · subst hv
            repeat' (first | refine d1 ?_ | refine dd ?_ | (show ∀ _ : Nat, T _ _ _ _ _; intro _))
            refine T_if rfl (fun h4 => ?_) (fun h4 => by exfalso; first | (simp at h4; done) | (simp at h4; omega))
            repeat' (first | refine d1 ?_ | refine dd ?_ | (show ∀ _ : Nat, T _ _ _ _ _; intro _))
            refine T_if rfl (fun h5 => by exfalso; simp at h5) (fun h5 => ?_)
            repeat' (first | refine d1 ?_ | refine dd ?_ | (show ∀ _ : Nat, T _ _ _ _ _; intro _))
            refine T_if rfl (fun h6 => ?_) (fun h6 => ?_)
            · rw [hbad (mvOf_none fun u' v' e hu hv => by cases e; rw [hn] at hu; rw [hm] at hv; simp at h6; omega)]
              repeat' (first | refine d1 ?_ | refine dd ?_ | (show ∀ _ : Nat, T _ _ _ _ _; intro _) | (show T _ (.code .ret :: _) _ _ _; refine T_retV [] rfl (Hle.none _) ⟨rfl, rfl⟩))
            · simp at h6
              repeat' (first | refine d1 ?_ | refine dd ?_ | (show ∀ _ : Nat, T _ _ _ _ _; intro _))
              exact T_backX (j + 1, i + 1, k) ⟨by dsimp only; omega, by dsimp only; omega, by dsimp only; omega, hgood _ (mvOf_fst (by rw [hn]; omega))⟩ (by dsimp only; omega)
          · obtain rfl : v = k := by omega
            repeat' (first | refine d1 ?_ | refine dd ?_ | (show ∀ _ : Nat, T _ _ _ _ _; intro _))
            refine T_if rfl (fun h4 => ?_) (fun h4 => by exfalso; first | (simp at h4; done) | (simp at h4; omega))
            repeat' (first | refine d1 ?_ | refine dd ?_ | (show ∀ _ : Nat, T _ _ _ _ _; intro _))
            refine T_if rfl (fun h5 => ?_) (fun h5 => by exfalso; first | (simp at h5; done) | (simp at h5; omega))
            repeat' (first | refine d1 ?_ | refine dd ?_ | (show ∀ _ : Nat, T _ _ _ _ _; intro _))
            refine T_if rfl (fun h6 => ?_) (fun h6 => ?_)
            · rw [hbad (mvOf_none fun u' v' e hu hv => by cases e; rw [hn] at hu; rw [hm] at hv; simp at h6; omega)]
              repeat' (first | refine d1 ?_ | refine dd ?_ | (show ∀ _ : Nat, T _ _ _ _ _; intro _) | (show T _ (.code .ret :: _) _ _ _; refine T_retV [] rfl (Hle.none _) ⟨rfl, rfl⟩))
            · simp at h6
              repeat' (first | refine d1 ?_ | refine dd ?_ | (show ∀ _ : Nat, T _ _ _ _ _; intro _))
              exact T_backX (j + 1, i + 1, k + 1) ⟨by dsimp only; omega, by dsimp only; omega, by dsimp only; omega, hgood _ (mvOf_both (by rw [hn]; omega) (by rw [hm]; omega))⟩ (by dsimp only; omega)
    · rw [hbad (mvOf_none fun u' v' e hu hv => by subst e; exact absurd rfl hl)]
      repeat' (first | refine d1 ?_ | refine dd ?_ | (show T _ (.ops _ (_ :: _) :: _) _ _ _; first | refine T_val rfl (Val.neverP rfl (fun hg => by exfalso; first | ((simp only [List.cons_append, List.nil_append, GP, dstL, lookE, Nat.beq, cond, List.getElem?_cons_zero, List.getElem?_cons_succ, Option.bind_some, and_true, Bool.and_eq_true, Bool.or_eq_true, Bool.and_eq_false_iff, Bool.or_eq_false_iff, Bool.not_eq_true', Bool.not_eq_false', decide_eq_true_eq, decide_eq_false_iff_not] at hg); done) | ((simp only [List.cons_append, List.nil_append, GP, dstL, lookE, Nat.beq, cond, List.getElem?_cons_zero, List.getElem?_cons_succ, Option.bind_some, and_true, Bool.and_eq_true, Bool.or_eq_true, Bool.and_eq_false_iff, Bool.or_eq_false_iff, Bool.not_eq_true', Bool.not_eq_false', decide_eq_true_eq, decide_eq_false_iff_not] at hg); omega))) rfl rfl rfl ?_ | refine T_valC rfl (Val.neverP rfl (fun hg => by exfalso; first | ((simp only [List.cons_append, List.nil_append, GP, dstL, lookE, Nat.beq, cond, List.getElem?_cons_zero, List.getElem?_cons_succ, Option.bind_some, and_true, Bool.and_eq_true, Bool.or_eq_true, Bool.and_eq_false_iff, Bool.or_eq_false_iff, Bool.not_eq_true', Bool.not_eq_false', decide_eq_true_eq, decide_eq_false_iff_not] at hg); done) | ((simp only [List.cons_append, List.nil_append, GP, dstL, lookE, Nat.beq, cond, List.getElem?_cons_zero, List.getElem?_cons_succ, Option.bind_some, and_true, Bool.and_eq_true, Bool.or_eq_true, Bool.and_eq_false_iff, Bool.or_eq_false_iff, Bool.not_eq_true', Bool.not_eq_false', decide_eq_true_eq, decide_eq_false_iff_not] at hg); omega))) rfl rfl rfl rfl rfl ?_ | refine T_val rfl (Val.neverI rfl (fun hg => by exfalso; first | ((simp only [List.cons_append, List.nil_append, GP, dstL, lookE, Nat.beq, cond, List.getElem?_cons_zero, List.getElem?_cons_succ, Option.bind_some, and_true, Bool.and_eq_true, Bool.or_eq_true, Bool.and_eq_false_iff, Bool.or_eq_false_iff, Bool.not_eq_true', Bool.not_eq_false', decide_eq_true_eq, decide_eq_false_iff_not] at hg); done) | ((simp only [List.cons_append, List.nil_append, GP, dstL, lookE, Nat.beq, cond, List.getElem?_cons_zero, List.getElem?_cons_succ, Option.bind_some, and_true, Bool.and_eq_true, Bool.or_eq_true, Bool.and_eq_false_iff, Bool.or_eq_false_iff, Bool.not_eq_true', Bool.not_eq_false', decide_eq_true_eq, decide_eq_false_iff_not] at hg); omega))) rfl rfl rfl ?_ | refine T_valC rfl (Val.neverI rfl (fun hg => by exfalso; first | ((simp only [List.cons_append, List.nil_append, GP, dstL, lookE, Nat.beq, cond, List.getElem?_cons_zero, List.getElem?_cons_succ, Option.bind_some, and_true, Bool.and_eq_true, Bool.or_eq_true, Bool.and_eq_false_iff, Bool.or_eq_false_iff, Bool.not_eq_true', Bool.not_eq_false', decide_eq_true_eq, decide_eq_false_iff_not] at hg); done) | ((simp only [List.cons_append, List.nil_append, GP, dstL, lookE, Nat.beq, cond, List.getElem?_cons_zero, List.getElem?_cons_succ, Option.bind_some, and_true, Bool.and_eq_true, Bool.or_eq_true, Bool.and_eq_false_iff, Bool.or_eq_false_iff, Bool.not_eq_true', Bool.not_eq_false', decide_eq_true_eq, decide_eq_false_iff_not] at hg); omega))) rfl rfl rfl rfl rfl ?_) | (show T _ (.run _ _ (_ :: _) _ _ :: _) _ _ _; first | refine rv rfl rfl rfl (Val.neverP rfl (fun hg => by exfalso; first | ((simp only [List.cons_append, List.nil_append, GP, dstL, lookE, Nat.beq, cond, List.getElem?_cons_zero, List.getElem?_cons_succ, Option.bind_some, and_true, Bool.and_eq_true, Bool.or_eq_true, Bool.and_eq_false_iff, Bool.or_eq_false_iff, Bool.not_eq_true', Bool.not_eq_false', decide_eq_true_eq, decide_eq_false_iff_not] at hg); done) | ((simp only [List.cons_append, List.nil_append, GP, dstL, lookE, Nat.beq, cond, List.getElem?_cons_zero, List.getElem?_cons_succ, Option.bind_some, and_true, Bool.and_eq_true, Bool.or_eq_true, Bool.and_eq_false_iff, Bool.or_eq_false_iff, Bool.not_eq_true', Bool.not_eq_false', decide_eq_true_eq, decide_eq_false_iff_not] at hg); omega))) rfl rfl rfl ?_ | refine rg rfl rfl rfl (Val.neverP rfl (fun hg => by exfalso; first | ((simp only [List.cons_append, List.nil_append, GP, dstL, lookE, Nat.beq, cond, List.getElem?_cons_zero, List.getElem?_cons_succ, Option.bind_some, and_true, Bool.and_eq_true, Bool.or_eq_true, Bool.and_eq_false_iff, Bool.or_eq_false_iff, Bool.not_eq_true', Bool.not_eq_false', decide_eq_true_eq, decide_eq_false_iff_not] at hg); done) | ((simp only [List.cons_append, List.nil_append, GP, dstL, lookE, Nat.beq, cond, List.getElem?_cons_zero, List.getElem?_cons_succ, Option.bind_some, and_true, Bool.and_eq_true, Bool.or_eq_true, Bool.and_eq_false_iff, Bool.or_eq_false_iff, Bool.not_eq_true', Bool.not_eq_false', decide_eq_true_eq, decide_eq_false_iff_not] at hg); omega))) rfl rfl rfl rfl rfl ?_ | refine rv rfl rfl rfl (Val.neverI rfl (fun hg => by exfalso; first | ((simp only [List.cons_append, List.nil_append, GP, dstL, lookE, Nat.beq, cond, List.getElem?_cons_zero, List.getElem?_cons_succ, Option.bind_some, and_true, Bool.and_eq_true, Bool.or_eq_true, Bool.and_eq_false_iff, Bool.or_eq_false_iff, Bool.not_eq_true', Bool.not_eq_false', decide_eq_true_eq, decide_eq_false_iff_not] at hg); done) | ((simp only [List.cons_append, List.nil_append, GP, dstL, lookE, Nat.beq, cond, List.getElem?_cons_zero, List.getElem?_cons_succ, Option.bind_some, and_true, Bool.and_eq_true, Bool.or_eq_true, Bool.and_eq_false_iff, Bool.or_eq_false_iff, Bool.not_eq_true', Bool.not_eq_false', decide_eq_true_eq, decide_eq_false_iff_not] at hg); omega))) rfl rfl rfl ?_ | refine rg rfl rfl rfl (Val.neverI rfl (fun hg => by exfalso; first | ((simp only [List.cons_append, List.nil_append, GP, dstL, lookE, Nat.beq, cond, List.getElem?_cons_zero, List.getElem?_cons_succ, Option.bind_some, and_true, Bool.and_eq_true, Bool.or_eq_true, Bool.and_eq_false_iff, Bool.or_eq_false_iff, Bool.not_eq_true', Bool.not_eq_false', decide_eq_true_eq, decide_eq_false_iff_not] at hg); done) | ((simp only [List.cons_append, List.nil_append, GP, dstL, lookE, Nat.beq, cond, List.getElem?_cons_zero, List.getElem?_cons_succ, Option.bind_some, and_true, Bool.and_eq_true, Bool.or_eq_true, Bool.and_eq_false_iff, Bool.or_eq_false_iff, Bool.not_eq_true', Bool.not_eq_false', decide_eq_true_eq, decide_eq_false_iff_not] at hg); omega))) rfl rfl rfl rfl rfl ?_) | (show ∀ _ : Nat, T _ _ _ _ _; intro _))
      refine T_if rfl (fun h3 => ?_) (fun h3 => ?_)
      · repeat' (first | refine d1 ?_ | refine dd ?_ | (show ∀ _ : Nat, T _ _ _ _ _; intro _) | (show T _ (.code .ret :: _) _ _ _; refine T_retV [] rfl (Hle.none _) ⟨rfl, rfl⟩))
      · exfalso
        simp at h3
        omega
  · simp only [decide_eq_false_iff_not] at h
    obtain rfl : j = cols.length := by omega
    rw [List.drop_of_length_le (Nat.le_refl _)] at hc
    repeat' (first | refine d1 ?_ | refine dd ?_ | (show ∀ _ : Nat, T _ _ _ _ _; intro _) | (show T _ (.code .ret :: _) _ _ _; refine T_retV [] rfl (Hle.none _) ⟨congrArg Value.bool ?_, rfl⟩))
    rw [hc]
    show (decide ((i : Int) = n) && decide ((k : Int) = m)) = (if i = G.n ∧ k = G.m then some 0 else none).isSome
    rw [hn, hm]
    by_cases h1 : i = n
    · by_cases h2 : k = m
      · rw [if_pos ⟨h1, h2⟩, h1, h2]; simp
      · rw [if_neg (fun h => h2 h.2), decide_eq_false (p := (k : Int) = m) (by omega), Bool.and_false]; rfl
    · rw [if_neg (fun h => h1 h.1), decide_eq_false (p := (i : Int) = n) (by omega), Bool.false_and]; rfl
theorem cost18_spec (c : Costs) (A B : Option Addr) (n m ca cb : Nat) (a b : List Tok) (z : Value) (cols : List (List Int)) (s : Int) (w : World) (h2 : Two w A B n m a b) (hk : ckV c a b = 0) (hz : Rd (wr w) [z] [rowsD cols]) (hs : alnd (grdOf c a b) cols 0 0 = some s) :
    Spec Tryz.prog 59 [c.val, .slice A n ca, .slice B m cb, z] w (fun v R => v = .int .i64 s ∧ R = []) := by
  have hG := grdOf_ok (ckV_ok hk).1 a b
  have e1 : (grdOf c a b).n = n := h2.hn
  have e2 : (grdOf c a b).m = m := h2.hm
  have hnb := h2.hnb
  have hmb := h2.hmb
  obtain ⟨At, capt, cs, rfl, ht1, ht2, hcs, hA, hrows⟩ := hz.tab
  refine spec_of sg Tryz.func59 rfl rfl rfl ?_
  refine T_op (OpT.box (cs := c.cells) rfl rfl rfl rfl rfl rfl rfl (fun pc => ?_))
  repeat' (first | refine d1 ?_ | refine dd ?_ | (show ∀ _ : Nat, T _ _ _ _ _; intro _))
  refine T_loopX (fun x : Nat × Nat × Nat × Int => [(10, .int .i64 x.1), (9, .int .i64 x.2.2.2)]) (fun _ => [blk pc c.cells 23]) (fun x => x.1 ≤ cols.length ∧ x.2.1 ≤ n ∧ x.2.2.1 ≤ m ∧ 0 ≤ x.2.2.2 ∧ x.2.2.2 ≤ 1000 * ((x.2.1 : Int) + x.2.2.1) ∧ ∃ t, alnd (grdOf c a b) (cols.drop x.1) x.2.1 x.2.2.1 = some t ∧ s = x.2.2.2 + t) (fun x => cols.length - x.1) (0, 0, 0, 0) ⟨Nat.zero_le _, Nat.zero_le _, Nat.zero_le _, Int.le_refl _, by simp, s, hs, by simp⟩ ?_
  rintro ⟨j, i, k, u⟩ ⟨hj, hi, hkm, hu0, hu1, t, ht, hst⟩
  dsimp only at hj hi hkm hu0 hu1 ht hst ⊢
  repeat' (first | refine d1 ?_ | refine dd ?_ | (show ∀ _ : Nat, T _ _ _ _ _; intro _))
  refine T_if rfl (fun h => ?_) (fun h => ?_)
  · simp only [decide_eq_true_eq] at h
    obtain ⟨bt, ot, rfl, hb⟩ := hA (by omega)
    obtain ⟨r, hr⟩ : ∃ u, cols[j]? = some u := ⟨_, List.getElem?_eq_getElem (by omega)⟩
    obtain ⟨A', cap', hc1, hl1, hm1, hA3⟩ := hrows.tabRow hr
    have hr1 : RdC w bt (ot + (j : Int).toNat * 1) [.slice A' r.length cap'] := RdC.one (by rw [off1]; exact hb j _ hc1)
    rw [drop_get hr] at ht
    cases hs : mvOf (grdOf c a b) i k r with
    | none => rw [alnd_bad hs] at ht; cases ht
    | some y =>
      rw [alnd_cons hs] at ht
      obtain ⟨t', ht', rfl⟩ := Option.map_eq_some_iff.1 ht
      obtain ⟨hm1, rfl⟩ := mvOf_some hs
      have hin := mvs_in hm1 (by rw [e1]; exact hi) (by rw [e2]; exact hkm)
      rw [e1, e2] at hin
      have hcv := colV_mv hm1
      obtain ⟨br, orr, rfl, hb2⟩ := hA3 (by show 0 < 2; omega)
      rcases mvs_form hm1 with ⟨rfl, f1, f2⟩ | ⟨rfl, f1⟩ | ⟨rfl, f1⟩
      · rw [mvCol11] at hr1 hb2
        have hp := hG.p i k
        rw [if_pos rfl, if_pos rfl] at hcv
        have hr2 : RdC w br (orr + (0 : Int).toNat * 1) [.int .i64 (i : Nat)] := RdC.one (hb2 0 _ rfl)
        have hr3 : RdC w br (orr + (1 : Int).toNat * 1) [.int .i64 (k : Nat)] := RdC.one (hb2 1 _ rfl)
        have hl2 : [(i : Int), (k : Int)].length = 2 := rfl
        dsimp only at hcv hin hst ht'
        have hcb : 0 ≤ colV (grdOf c a b) (i : Int) (k : Int) ∧ colV (grdOf c a b) (i : Int) (k : Int) ≤ 1000 := by rw [hcv]; exact hp
        repeat' (first | refine d1 ?_ | refine dd ?_ | (show T _ (.ops _ (_ :: _) :: _) _ _ _; first | refine T_call rfl rfl rfl rfl rfl (fun w hw => column18_spec c A B n m ca cb a b (i : Int) (k : Int) w (h2.cls hw) hk (by omega) (by omega) (by omega)) ?_ | refine T_callC rfl rfl rfl rfl rfl rfl rfl (fun hg w hw => column18_spec c A B n m ca cb a b (i : Int) (k : Int) w (h2.cls hw) hk (by omega) (by omega) (by omega)) ?_) | (show T _ (.run _ _ (_ :: _) _ _ :: _) _ _ _; first | refine rc rfl rfl rfl rfl rfl rfl rfl (fun w hw => column18_spec c A B n m ca cb a b (i : Int) (k : Int) w (h2.cls hw) hk (by omega) (by omega) (by omega)) ?_ | refine rcG rfl rfl rfl rfl rfl rfl rfl rfl rfl (fun hg w hw => column18_spec c A B n m ca cb a b (i : Int) (k : Int) w (h2.cls hw) hk (by omega) (by omega) (by omega)) ?_) | (show ∀ _ : Nat, T _ _ _ _ _; intro _))
        exact T_backX (j + 1, i + 1, k + 1, u + (grdOf c a b).p i k) ⟨by dsimp only; omega, by dsimp only; omega, by dsimp only; omega, by dsimp only; omega, by dsimp only; omega, t', ht', by dsimp only; omega⟩ (by dsimp only; omega) (hE := ⟨rfl, by rw [← hcv]; rfl, trivial⟩)
      · rw [mvCol10] at hr1 hb2
        have hp := hG.g i
        rw [if_pos rfl, if_neg (show ¬ (0 : Nat) = 1 by omega)] at hcv
        have hr2 : RdC w br (orr + (0 : Int).toNat * 1) [.int .i64 (i : Nat)] := RdC.one (hb2 0 _ rfl)
        have hr3 : RdC w br (orr + (1 : Int).toNat * 1) [.int .i64 (-1)] := RdC.one (hb2 1 _ rfl)
        have hl2 : [(i : Int), -1].length = 2 := rfl
        dsimp only at hcv hin hst ht'
        have hcb : 0 ≤ colV (grdOf c a b) (i : Int) (-1) ∧ colV (grdOf c a b) (i : Int) (-1) ≤ 1000 := by rw [hcv]; exact hp
        repeat' (first | refine d1 ?_ | refine dd ?_ | (show T _ (.ops _ (_ :: _) :: _) _ _ _; first | refine T_call rfl rfl rfl rfl rfl (fun w hw => column18_spec c A B n m ca cb a b (i : Int) (-1) w (h2.cls hw) hk (by omega) (by omega) (by omega)) ?_ | refine T_callC rfl rfl rfl rfl rfl rfl rfl (fun hg w hw => column18_spec c A B n m ca cb a b (i : Int) (-1) w (h2.cls hw) hk (by omega) (by omega) (by omega)) ?_) | (show T _ (.run _ _ (_ :: _) _ _ :: _) _ _ _; first | refine rc rfl rfl rfl rfl rfl rfl rfl (fun w hw => column18_spec c A B n m ca cb a b (i : Int) (-1) w (h2.cls hw) hk (by omega) (by omega) (by omega)) ?_ | refine rcG rfl rfl rfl rfl rfl rfl rfl rfl rfl (fun hg w hw => column18_spec c A B n m ca cb a b (i : Int) (-1) w (h2.cls hw) hk (by omega) (by omega) (by omega)) ?_) | (show ∀ _ : Nat, T _ _ _ _ _; intro _))
        exact T_backX (j + 1, i + 1, k, u + (grdOf c a b).g i) ⟨by dsimp only; omega, by dsimp only; omega, by dsimp only; omega, by dsimp only; omega, by dsimp only; omega, t', ht', by dsimp only; omega⟩ (by dsimp only; omega) (hE := ⟨rfl, by rw [← hcv]; rfl, trivial⟩)
      · rw [mvCol01] at hr1 hb2
        have hp := hG.h k
        rw [if_neg (show ¬ (0 : Nat) = 1 by omega), if_pos rfl] at hcv
        have hr2 : RdC w br (orr + (0 : Int).toNat * 1) [.int .i64 (-1)] := RdC.one (hb2 0 _ rfl)
        have hr3 : RdC w br (orr + (1 : Int).toNat * 1) [.int .i64 (k : Nat)] := RdC.one (hb2 1 _ rfl)
        have hl2 : [-1, (k : Int)].length = 2 := rfl
        dsimp only at hcv hin hst ht'
        have hcb : 0 ≤ colV (grdOf c a b) (-1) (k : Int) ∧ colV (grdOf c a b) (-1) (k : Int) ≤ 1000 := by rw [hcv]; exact hp
        repeat' (first | refine d1 ?_ | refine dd ?_ | (show T _ (.ops _ (_ :: _) :: _) _ _ _; first | refine T_call rfl rfl rfl rfl rfl (fun w hw => column18_spec c A B n m ca cb a b (-1) (k : Int) w (h2.cls hw) hk (by omega) (by omega) (by omega)) ?_ | refine T_callC rfl rfl rfl rfl rfl rfl rfl (fun hg w hw => column18_spec c A B n m ca cb a b (-1) (k : Int) w (h2.cls hw) hk (by omega) (by omega) (by omega)) ?_) | (show T _ (.run _ _ (_ :: _) _ _ :: _) _ _ _; first | refine rc rfl rfl rfl rfl rfl rfl rfl (fun w hw => column18_spec c A B n m ca cb a b (-1) (k : Int) w (h2.cls hw) hk (by omega) (by omega) (by omega)) ?_ | refine rcG rfl rfl rfl rfl rfl rfl rfl rfl rfl (fun hg w hw => column18_spec c A B n m ca cb a b (-1) (k : Int) w (h2.cls hw) hk (by omega) (by omega) (by omega)) ?_) | (show ∀ _ : Nat, T _ _ _ _ _; intro _))
        exact T_backX (j + 1, i, k + 1, u + (grdOf c a b).h k) ⟨by dsimp only; omega, by dsimp only; omega, by dsimp only; omega, by dsimp only; omega, by dsimp only; omega, t', ht', by dsimp only; omega⟩ (by dsimp only; omega) (hE := ⟨rfl, by rw [← hcv]; rfl, trivial⟩)
  · simp only [decide_eq_false_iff_not] at h
    obtain rfl : j = cols.length := by omega
    rw [List.drop_of_length_le (Nat.le_refl _)] at ht
    have ht0 : t = 0 := by
      unfold alnd at ht
      split at ht
      · exact (Option.some.inj ht).symm
      · cases ht
    repeat' (first | refine d1 ?_ | refine dd ?_ | (show ∀ _ : Nat, T _ _ _ _ _; intro _) | (show T _ (.code .ret :: _) _ _ _; refine T_retV [] rfl (Hle.none _) ⟨?_, rfl⟩))
    rw [hst, ht0, Int.add_zero]; rfl
theorem costRef18_spec (c : Costs) (A B : Option Addr) (n m ca cb : Nat) (a b : List Tok) (z : Value) (cols : List (List Int)) (w : World) (h2 : Two w A B n m a b) (hz : Rd (wr w) [z] [rowsD cols]) :
    Spec Tryz.prog 32 [c.val, .slice A n ca, .slice B m cb, z] w (fun v R => v = .tuple #[.int .i64 (costV c a b cols).1, .int .i64 (costV c a b cols).2] ∧ R = []) := by
  refine spec_of sg Tryz.func32 rfl rfl rfl ?_
  refine T_op (OpT.box (cs := c.cells) rfl rfl rfl rfl rfl rfl rfl (fun pc => ?_))
  repeat' (first | refine d1 ?_ | refine dd ?_ | (show T _ (.ops _ (_ :: _) :: _) _ _ _; first | refine T_call rfl rfl rfl rfl rfl (fun w hw => ck18_spec c A B n m ca cb a b w (h2.cls hw)) ?_ | refine T_callC rfl rfl rfl rfl rfl rfl rfl (fun hg w hw => ck18_spec c A B n m ca cb a b w (h2.cls hw)) ?_) | (show T _ (.run _ _ (_ :: _) _ _ :: _) _ _ _; first | refine rc rfl rfl rfl rfl rfl rfl rfl (fun w hw => ck18_spec c A B n m ca cb a b w (h2.cls hw)) ?_ | refine rcG rfl rfl rfl rfl rfl rfl rfl rfl rfl (fun hg w hw => ck18_spec c A B n m ca cb a b w (h2.cls hw)) ?_) | (show ∀ _ : Nat, T _ _ _ _ _; intro _))
  refine T_if rfl (fun h => ?_) (fun h => ?_)
  · simp only [Bool.not_eq_true', decide_eq_false_iff_not] at h
    have e : costV c a b cols = (0, 1) := if_neg h
    have e1 := (ckV_01 c a b).resolve_left h
    rw [e, e1]
    repeat' (first | refine d1 ?_ | refine dd ?_ | (show ∀ _ : Nat, T _ _ _ _ _; intro _) | (show T _ (.code .ret :: _) _ _ _; refine T_retV [] rfl (Hle.none _) ⟨rfl, rfl⟩))
  · simp only [Bool.not_eq_false', decide_eq_true_eq] at h
    cases ha : alnd (grdOf c a b) cols 0 0 with
    | none =>
      have e : costV c a b cols = (0, 19) := by unfold costV; rw [if_pos h, ha]
      rw [e]
      repeat' (first | refine d1 ?_ | refine dd ?_ | (show T _ (.ops _ (_ :: _) :: _) _ _ _; first | refine T_call rfl rfl rfl rfl rfl (fun w hw => aligned18_spec (grdOf c a b) n m h2.hn h2.hm h2.hnb h2.hmb z cols w (hz.old hw)) ?_ | refine T_callC rfl rfl rfl rfl rfl rfl rfl (fun hg w hw => aligned18_spec (grdOf c a b) n m h2.hn h2.hm h2.hnb h2.hmb z cols w (hz.old hw)) ?_) | (show T _ (.run _ _ (_ :: _) _ _ :: _) _ _ _; first | refine rc rfl rfl rfl rfl rfl rfl rfl (fun w hw => aligned18_spec (grdOf c a b) n m h2.hn h2.hm h2.hnb h2.hmb z cols w (hz.old hw)) ?_ | refine rcG rfl rfl rfl rfl rfl rfl rfl rfl rfl (fun hg w hw => aligned18_spec (grdOf c a b) n m h2.hn h2.hm h2.hnb h2.hmb z cols w (hz.old hw)) ?_) | (show ∀ _ : Nat, T _ _ _ _ _; intro _))
      rw [ha]
      refine T_if rfl (fun h => ?_) (fun h => ?_)
      · repeat' (first | refine d1 ?_ | refine dd ?_ | (show ∀ _ : Nat, T _ _ _ _ _; intro _) | (show T _ (.code .ret :: _) _ _ _; refine T_retV [] rfl (Hle.none _) ⟨rfl, rfl⟩))
      · cases h
    | some s =>
      have e : costV c a b cols = (s, 0) := by unfold costV; rw [if_pos h, ha]
      rw [e]
      repeat' (first | refine d1 ?_ | refine dd ?_ | (show T _ (.ops _ (_ :: _) :: _) _ _ _; first | refine T_call rfl rfl rfl rfl rfl (fun w hw => aligned18_spec (grdOf c a b) n m h2.hn h2.hm h2.hnb h2.hmb z cols w (hz.old hw)) ?_ | refine T_callC rfl rfl rfl rfl rfl rfl rfl (fun hg w hw => aligned18_spec (grdOf c a b) n m h2.hn h2.hm h2.hnb h2.hmb z cols w (hz.old hw)) ?_) | (show T _ (.run _ _ (_ :: _) _ _ :: _) _ _ _; first | refine rc rfl rfl rfl rfl rfl rfl rfl (fun w hw => aligned18_spec (grdOf c a b) n m h2.hn h2.hm h2.hnb h2.hmb z cols w (hz.old hw)) ?_ | refine rcG rfl rfl rfl rfl rfl rfl rfl rfl rfl (fun hg w hw => aligned18_spec (grdOf c a b) n m h2.hn h2.hm h2.hnb h2.hmb z cols w (hz.old hw)) ?_) | (show ∀ _ : Nat, T _ _ _ _ _; intro _))
      rw [ha]
      refine T_if rfl (fun h => ?_) (fun h => ?_)
      · cases h
      · repeat' (first | refine d1 ?_ | refine dd ?_ | (show T _ (.ops _ (_ :: _) :: _) _ _ _; first | refine T_call rfl rfl rfl rfl rfl (fun w hw => cost18_spec c A B n m ca cb a b z cols s w (h2.cls hw) ‹_› (hz.old hw) ha) ?_ | refine T_callC rfl rfl rfl rfl rfl rfl rfl (fun hg w hw => cost18_spec c A B n m ca cb a b z cols s w (h2.cls hw) ‹_› (hz.old hw) ha) ?_) | (show T _ (.run _ _ (_ :: _) _ _ :: _) _ _ _; first | refine rc rfl rfl rfl rfl rfl rfl rfl (fun w hw => cost18_spec c A B n m ca cb a b z cols s w (h2.cls hw) ‹_› (hz.old hw) ha) ?_ | refine rcG rfl rfl rfl rfl rfl rfl rfl rfl rfl (fun hg w hw => cost18_spec c A B n m ca cb a b z cols s w (h2.cls hw) ‹_› (hz.old hw) ha) ?_) | (show ∀ _ : Nat, T _ _ _ _ _; intro _) | (show T _ (.code .ret :: _) _ _ _; refine T_retV [] rfl (Hle.none _) ⟨rfl, rfl⟩))
theorem matchesRef18_spec (A B : Option Addr) (n m ca cb : Nat) (a b : List Tok) (z : Value) (cols : List (List Int)) (w : World) (h2 : Two w A B n m a b) (hz : Rd (wr w) [z] [rowsD cols]) :
    Spec Tryz.prog 34 [.slice A n ca, .slice B m cb, z] w (fun v R => v = .tuple #[.int .i64 (matchV a b cols).1, .int .i64 (matchV a b cols).2] ∧ R = []) := by
  refine spec_of sg Tryz.func34 rfl rfl rfl ?_
  repeat' (first | refine d1 ?_ | refine dd ?_ | (show T _ (.ops _ (_ :: _) :: _) _ _ _; first | refine T_call rfl rfl rfl rfl rfl (fun w hw => fits18_spec A B n m ca cb a b w (h2.cls hw)) ?_ | refine T_callC rfl rfl rfl rfl rfl rfl rfl (fun hg w hw => fits18_spec A B n m ca cb a b w (h2.cls hw)) ?_) | (show T _ (.run _ _ (_ :: _) _ _ :: _) _ _ _; first | refine rc rfl rfl rfl rfl rfl rfl rfl (fun w hw => fits18_spec A B n m ca cb a b w (h2.cls hw)) ?_ | refine rcG rfl rfl rfl rfl rfl rfl rfl rfl rfl (fun hg w hw => fits18_spec A B n m ca cb a b w (h2.cls hw)) ?_) | (show ∀ _ : Nat, T _ _ _ _ _; intro _))
  refine T_if rfl (fun h => ?_) (fun h => ?_)
  · simp only [Bool.not_eq_true', decide_eq_false_iff_not] at h
    have e : matchV a b cols = (0, 1) := if_neg h
    have e1 : fitsV a b = 1 := by unfold fitsV at h ⊢; split at h <;> simp_all
    rw [e, e1]
    repeat' (first | refine d1 ?_ | refine dd ?_ | (show ∀ _ : Nat, T _ _ _ _ _; intro _) | (show T _ (.code .ret :: _) _ _ _; refine T_retV [] rfl (Hle.none _) ⟨rfl, rfl⟩))
  simp only [Bool.not_eq_false', decide_eq_true_eq] at h
  have e1 : (grdOf zeroC a b).n = n := h2.hn
  have e2 : (grdOf zeroC a b).m = m := h2.hm
  repeat' (first | refine d1 ?_ | refine dd ?_ | (show T _ (.ops _ (_ :: _) :: _) _ _ _; first | refine T_call rfl rfl rfl rfl rfl (fun w hw => aligned18_spec (grdOf zeroC a b) n m h2.hn h2.hm h2.hnb h2.hmb z cols w (hz.old hw)) ?_ | refine T_callC rfl rfl rfl rfl rfl rfl rfl (fun hg w hw => aligned18_spec (grdOf zeroC a b) n m h2.hn h2.hm h2.hnb h2.hmb z cols w (hz.old hw)) ?_) | (show T _ (.run _ _ (_ :: _) _ _ :: _) _ _ _; first | refine rc rfl rfl rfl rfl rfl rfl rfl (fun w hw => aligned18_spec (grdOf zeroC a b) n m h2.hn h2.hm h2.hnb h2.hmb z cols w (hz.old hw)) ?_ | refine rcG rfl rfl rfl rfl rfl rfl rfl rfl rfl (fun hg w hw => aligned18_spec (grdOf zeroC a b) n m h2.hn h2.hm h2.hnb h2.hmb z cols w (hz.old hw)) ?_) | (show ∀ _ : Nat, T _ _ _ _ _; intro _))
  obtain ⟨At, capt, cs, rfl, ht1, ht2, hcs, hA, hrows⟩ := hz.tab
  cases ha : alnd (grdOf zeroC a b) cols 0 0 with
  | none =>
    have e : matchV a b cols = (0, 19) := by unfold matchV; rw [if_pos h, ha]; rfl
    rw [e]
    refine T_if rfl (fun h => ?_) (fun h => ?_)
    · repeat' (first | refine d1 ?_ | refine dd ?_ | (show ∀ _ : Nat, T _ _ _ _ _; intro _) | (show T _ (.code .ret :: _) _ _ _; refine T_retV [] rfl (Hle.none _) ⟨rfl, rfl⟩))
    · cases h
  | some s =>
    have e : matchV a b cols = (((cols.countP (mtC a b) : Nat) : Int), 0) := by unfold matchV; rw [if_pos h, ha]; rfl
    rw [e]
    refine T_if rfl (fun h => ?_) (fun h => ?_)
    · cases h
    repeat' (first | refine d1 ?_ | refine dd ?_ | (show ∀ _ : Nat, T _ _ _ _ _; intro _))
    refine T_loopX (fun s : Nat × Nat × Nat => [(10, .int .i64 s.1), (9, .int .i64 ((cols.take s.1).countP (mtC a b) : Nat))]) (fun _ => []) (fun s => s.1 ≤ cols.length ∧ s.2.1 ≤ n ∧ s.2.2 ≤ m ∧ alnd (grdOf zeroC a b) (cols.drop s.1) s.2.1 s.2.2 ≠ none) (fun s => cols.length - s.1) (0, 0, 0) ⟨Nat.zero_le _, Nat.zero_le _, Nat.zero_le _, by rw [List.drop_zero, ha]; simp⟩ ?_
    rintro ⟨j, i, k⟩ ⟨hj, hi, hkm, hne⟩
    dsimp only at hj hi hkm hne ⊢
    have hcb := countP_take_le (mtC a b) cols j
    repeat' (first | refine d1 ?_ | refine dd ?_ | (show ∀ _ : Nat, T _ _ _ _ _; intro _))
    refine T_if rfl (fun h3 => ?_) (fun h3 => ?_)
    · simp only [decide_eq_true_eq] at h3
      obtain ⟨bt, ot, rfl, hb⟩ := hA (by omega)
      obtain ⟨r, hr⟩ : ∃ u, cols[j]? = some u := ⟨_, List.getElem?_eq_getElem (by omega)⟩
      obtain ⟨A', cap', hc1, hl1, hm1, hA3⟩ := hrows.tabRow hr
      have hr1 : RdC w bt (ot + (j : Int).toNat * 1) [.slice A' r.length cap'] := RdC.one (by rw [off1]; exact hb j _ hc1)
      rw [drop_get hr] at hne
      have hcp := countP_snoc (mtC a b) hr
      cases hs : mvOf (grdOf zeroC a b) i k r with
      | none => exact absurd (alnd_bad hs) hne
      | some yv =>
        obtain ⟨hm1, rfl⟩ := mvOf_some hs
        have hin := mvs_in hm1 (by rw [e1]; exact hi) (by rw [e2]; exact hkm)
        rw [e1, e2] at hin
        have hne2 : alnd (grdOf zeroC a b) (cols.drop (j + 1)) (i + yv.fst) (k + yv.snd) ≠ none := by
          rw [alnd_cons hs] at hne
          intro h9; rw [h9] at hne; exact hne rfl
        rcases mvs_form hm1 with ⟨rfl, f1, f2⟩ | ⟨rfl, f1⟩ | ⟨rfl, f1⟩
        · rw [mvCol11] at hr hr1 hA3 hcp
          obtain ⟨br, orr, rfl, hb2⟩ := hA3 (by simp)
          have hr2 : RdC w br (orr + (0 : Int).toNat * 1) [.int .i64 (i : Nat)] := RdC.one (hb2 0 _ rfl)
          have hr3 : RdC w br (orr + (1 : Int).toNat * 1) [.int .i64 (k : Nat)] := RdC.one (hb2 1 _ rfl)
          obtain ⟨ba, oa, rfl⟩ := h2.ha.base (by omega)
          obtain ⟨bb, ob, rfl⟩ := h2.hb.base (by omega)
          have hr4 : RdC w ba (oa + (i : Int).toNat * 6) (tkA a i).cells := h2.ha.getT (by omega) (tkA_get (by have := h2.hn; omega))
          have hr5 : RdC w bb (ob + (k : Int).toNat * 6) (tkA b k).cells := h2.hb.getT (by omega) (tkA_get (by have := h2.hm; omega))
          have hl2 : [(i : Int), (k : Int)].length = 2 := rfl
          repeat' (first | refine d1 ?_ | refine dd ?_ | (show ∀ _ : Nat, T _ _ _ _ _; intro _))
          refine T_if rfl (fun h4 => ?_) (fun h4 => ?_)
          · have h4' : mtC a b [(i : Int), (k : Int)] = true := h4
            repeat' (first | refine d1 ?_ | refine dd ?_ | (show ∀ _ : Nat, T _ _ _ _ _; intro _))
            exact T_backX (j + 1, i + 1, k + 1) ⟨by dsimp only; omega, by dsimp only at hin ⊢; omega, by dsimp only at hin ⊢; omega, hne2⟩ (by dsimp only; omega) (hE := ⟨rfl, by dsimp only; rw [hcp, if_pos h4']; rfl, trivial⟩)
          · have h4' : mtC a b [(i : Int), (k : Int)] = false := h4
            repeat' (first | refine d1 ?_ | refine dd ?_ | (show ∀ _ : Nat, T _ _ _ _ _; intro _))
            exact T_backX (j + 1, i + 1, k + 1) ⟨by dsimp only; omega, by dsimp only at hin ⊢; omega, by dsimp only at hin ⊢; omega, hne2⟩ (by dsimp only; omega) (hE := ⟨rfl, by dsimp only; rw [hcp, h4']; rfl, trivial⟩)
        · rw [mvCol10] at hr hr1 hA3 hcp
          obtain ⟨br, orr, rfl, hb2⟩ := hA3 (by simp)
          have hr2 : RdC w br (orr + (0 : Int).toNat * 1) [.int .i64 (i : Nat)] := RdC.one (hb2 0 _ rfl)
          have hr3 : RdC w br (orr + (1 : Int).toNat * 1) [.int .i64 (-1)] := RdC.one (hb2 1 _ rfl)
          have hl2 : [(i : Int), -1].length = 2 := rfl
          repeat' (first | refine d1 ?_ | refine dd ?_ | (show T _ (.ops _ (_ :: _) :: _) _ _ _; first | refine T_val rfl (Val.neverP rfl (fun hg => by exfalso; first | ((simp only [List.cons_append, List.nil_append, GP, dstL, lookE, Nat.beq, cond, List.getElem?_cons_zero, List.getElem?_cons_succ, Option.bind_some, and_true, Bool.and_eq_true, Bool.or_eq_true, Bool.and_eq_false_iff, Bool.or_eq_false_iff, Bool.not_eq_true', Bool.not_eq_false', decide_eq_true_eq, decide_eq_false_iff_not] at hg); done) | ((simp only [List.cons_append, List.nil_append, GP, dstL, lookE, Nat.beq, cond, List.getElem?_cons_zero, List.getElem?_cons_succ, Option.bind_some, and_true, Bool.and_eq_true, Bool.or_eq_true, Bool.and_eq_false_iff, Bool.or_eq_false_iff, Bool.not_eq_true', Bool.not_eq_false', decide_eq_true_eq, decide_eq_false_iff_not] at hg); omega))) rfl rfl rfl ?_ | refine T_valC rfl (Val.neverP rfl (fun hg => by exfalso; first | ((simp only [List.cons_append, List.nil_append, GP, dstL, lookE, Nat.beq, cond, List.getElem?_cons_zero, List.getElem?_cons_succ, Option.bind_some, and_true, Bool.and_eq_true, Bool.or_eq_true, Bool.and_eq_false_iff, Bool.or_eq_false_iff, Bool.not_eq_true', Bool.not_eq_false', decide_eq_true_eq, decide_eq_false_iff_not] at hg); done) | ((simp only [List.cons_append, List.nil_append, GP, dstL, lookE, Nat.beq, cond, List.getElem?_cons_zero, List.getElem?_cons_succ, Option.bind_some, and_true, Bool.and_eq_true, Bool.or_eq_true, Bool.and_eq_false_iff, Bool.or_eq_false_iff, Bool.not_eq_true', Bool.not_eq_false', decide_eq_true_eq, decide_eq_false_iff_not] at hg); omega))) rfl rfl rfl rfl rfl ?_ | refine T_val rfl (Val.neverI rfl (fun hg => by exfalso; first | ((simp only [List.cons_append, List.nil_append, GP, dstL, lookE, Nat.beq, cond, List.getElem?_cons_zero, List.getElem?_cons_succ, Option.bind_some, and_true, Bool.and_eq_true, Bool.or_eq_true, Bool.and_eq_false_iff, Bool.or_eq_false_iff, Bool.not_eq_true', Bool.not_eq_false', decide_eq_true_eq, decide_eq_false_iff_not] at hg); done) | ((simp only [List.cons_append, List.nil_append, GP, dstL, lookE, Nat.beq, cond, List.getElem?_cons_zero, List.getElem?_cons_succ, Option.bind_some, and_true, Bool.and_eq_true, Bool.or_eq_true, Bool.and_eq_false_iff, Bool.or_eq_false_iff, Bool.not_eq_true', Bool.not_eq_false', decide_eq_true_eq, decide_eq_false_iff_not] at hg); omega))) rfl rfl rfl ?_ | refine T_valC rfl (Val.neverI rfl (fun hg => by exfalso; first | ((simp only [List.cons_append, List.nil_append, GP, dstL, lookE, Nat.beq, cond, List.getElem?_cons_zero, List.getElem?_cons_succ, Option.bind_some, and_true, Bool.and_eq_true, Bool.or_eq_true, Bool.and_eq_false_iff, Bool.or_eq_false_iff, Bool.not_eq_true', Bool.not_eq_false', decide_eq_true_eq, decide_eq_false_iff_not] at hg); done) | ((simp only [List.cons_append, List.nil_append, GP, dstL, lookE, Nat.beq, cond, List.getElem?_cons_zero, List.getElem?_cons_succ, Option.bind_some, and_true, Bool.and_eq_true, Bool.or_eq_true, Bool.and_eq_false_iff, Bool.or_eq_false_iff, Bool.not_eq_true', Bool.not_eq_false', decide_eq_true_eq, decide_eq_false_iff_not] at hg); omega))) rfl rfl rfl rfl rfl ?_) | (show T _ (.run _ _ (_ :: _) _ _ :: _) _ _ _; first | refine rv rfl rfl rfl (Val.neverP rfl (fun hg => by exfalso; first | ((simp only [List.cons_append, List.nil_append, GP, dstL, lookE, Nat.beq, cond, List.getElem?_cons_zero, List.getElem?_cons_succ, Option.bind_some, and_true, Bool.and_eq_true, Bool.or_eq_true, Bool.and_eq_false_iff, Bool.or_eq_false_iff, Bool.not_eq_true', Bool.not_eq_false', decide_eq_true_eq, decide_eq_false_iff_not] at hg); done) | ((simp only [List.cons_append, List.nil_append, GP, dstL, lookE, Nat.beq, cond, List.getElem?_cons_zero, List.getElem?_cons_succ, Option.bind_some, and_true, Bool.and_eq_true, Bool.or_eq_true, Bool.and_eq_false_iff, Bool.or_eq_false_iff, Bool.not_eq_true', Bool.not_eq_false', decide_eq_true_eq, decide_eq_false_iff_not] at hg); omega))) rfl rfl rfl ?_ | refine rg rfl rfl rfl (Val.neverP rfl (fun hg => by exfalso; first | ((simp only [List.cons_append, List.nil_append, GP, dstL, lookE, Nat.beq, cond, List.getElem?_cons_zero, List.getElem?_cons_succ, Option.bind_some, and_true, Bool.and_eq_true, Bool.or_eq_true, Bool.and_eq_false_iff, Bool.or_eq_false_iff, Bool.not_eq_true', Bool.not_eq_false', decide_eq_true_eq, decide_eq_false_iff_not] at hg); done) | ((simp only [List.cons_append, List.nil_append, GP, dstL, lookE, Nat.beq, cond, List.getElem?_cons_zero, List.getElem?_cons_succ, Option.bind_some, and_true, Bool.and_eq_true, Bool.or_eq_true, Bool.and_eq_false_iff, Bool.or_eq_false_iff, Bool.not_eq_true', Bool.not_eq_false', decide_eq_true_eq, decide_eq_false_iff_not] at hg); omega))) rfl rfl rfl rfl rfl ?_ | refine rv rfl rfl rfl (Val.neverI rfl (fun hg => by exfalso; first | ((simp only [List.cons_append, List.nil_append, GP, dstL, lookE, Nat.beq, cond, List.getElem?_cons_zero, List.getElem?_cons_succ, Option.bind_some, and_true, Bool.and_eq_true, Bool.or_eq_true, Bool.and_eq_false_iff, Bool.or_eq_false_iff, Bool.not_eq_true', Bool.not_eq_false', decide_eq_true_eq, decide_eq_false_iff_not] at hg); done) | ((simp only [List.cons_append, List.nil_append, GP, dstL, lookE, Nat.beq, cond, List.getElem?_cons_zero, List.getElem?_cons_succ, Option.bind_some, and_true, Bool.and_eq_true, Bool.or_eq_true, Bool.and_eq_false_iff, Bool.or_eq_false_iff, Bool.not_eq_true', Bool.not_eq_false', decide_eq_true_eq, decide_eq_false_iff_not] at hg); omega))) rfl rfl rfl ?_ | refine rg rfl rfl rfl (Val.neverI rfl (fun hg => by exfalso; first | ((simp only [List.cons_append, List.nil_append, GP, dstL, lookE, Nat.beq, cond, List.getElem?_cons_zero, List.getElem?_cons_succ, Option.bind_some, and_true, Bool.and_eq_true, Bool.or_eq_true, Bool.and_eq_false_iff, Bool.or_eq_false_iff, Bool.not_eq_true', Bool.not_eq_false', decide_eq_true_eq, decide_eq_false_iff_not] at hg); done) | ((simp only [List.cons_append, List.nil_append, GP, dstL, lookE, Nat.beq, cond, List.getElem?_cons_zero, List.getElem?_cons_succ, Option.bind_some, and_true, Bool.and_eq_true, Bool.or_eq_true, Bool.and_eq_false_iff, Bool.or_eq_false_iff, Bool.not_eq_true', Bool.not_eq_false', decide_eq_true_eq, decide_eq_false_iff_not] at hg); omega))) rfl rfl rfl rfl rfl ?_) | (show ∀ _ : Nat, T _ _ _ _ _; intro _))
          refine T_if rfl (fun h4 => ?_) (fun h4 => ?_)
          · exfalso; simp at h4
          · repeat' (first | refine d1 ?_ | refine dd ?_ | (show ∀ _ : Nat, T _ _ _ _ _; intro _))
            exact T_backX (j + 1, i + 1, k) ⟨by dsimp only; omega, by dsimp only at hin ⊢; omega, by dsimp only at hin ⊢; omega, hne2⟩ (by dsimp only; omega) (hE := ⟨rfl, by dsimp only; rw [hcp, show mtC a b [(i : Int), -1] = false by simp [mtC]]; rfl, trivial⟩)
        · rw [mvCol01] at hr hr1 hA3 hcp
          obtain ⟨br, orr, rfl, hb2⟩ := hA3 (by simp)
          have hr2 : RdC w br (orr + (0 : Int).toNat * 1) [.int .i64 (-1)] := RdC.one (hb2 0 _ rfl)
          have hr3 : RdC w br (orr + (1 : Int).toNat * 1) [.int .i64 (k : Nat)] := RdC.one (hb2 1 _ rfl)
          have hl2 : [-1, (k : Int)].length = 2 := rfl
          repeat' (first | refine d1 ?_ | refine dd ?_ | (show T _ (.ops _ (_ :: _) :: _) _ _ _; first | refine T_val rfl (Val.neverP rfl (fun hg => by exfalso; first | ((simp only [List.cons_append, List.nil_append, GP, dstL, lookE, Nat.beq, cond, List.getElem?_cons_zero, List.getElem?_cons_succ, Option.bind_some, and_true, Bool.and_eq_true, Bool.or_eq_true, Bool.and_eq_false_iff, Bool.or_eq_false_iff, Bool.not_eq_true', Bool.not_eq_false', decide_eq_true_eq, decide_eq_false_iff_not] at hg); done) | ((simp only [List.cons_append, List.nil_append, GP, dstL, lookE, Nat.beq, cond, List.getElem?_cons_zero, List.getElem?_cons_succ, Option.bind_some, and_true, Bool.and_eq_true, Bool.or_eq_true, Bool.and_eq_false_iff, Bool.or_eq_false_iff, Bool.not_eq_true', Bool.not_eq_false', decide_eq_true_eq, decide_eq_false_iff_not] at hg); omega))) rfl rfl rfl ?_ | refine T_valC rfl (Val.neverP rfl (fun hg => by exfalso; first | ((simp only [List.cons_append, List.nil_append, GP, dstL, lookE, Nat.beq, cond, List.getElem?_cons_zero, List.getElem?_cons_succ, Option.bind_some, and_true, Bool.and_eq_true, Bool.or_eq_true, Bool.and_eq_false_iff, Bool.or_eq_false_iff, Bool.not_eq_true', Bool.not_eq_false', decide_eq_true_eq, decide_eq_false_iff_not] at hg); done) | ((simp only [List.cons_append, List.nil_append, GP, dstL, lookE, Nat.beq, cond, List.getElem?_cons_zero, List.getElem?_cons_succ, Option.bind_some, and_true, Bool.and_eq_true, Bool.or_eq_true, Bool.and_eq_false_iff, Bool.or_eq_false_iff, Bool.not_eq_true', Bool.not_eq_false', decide_eq_true_eq, decide_eq_false_iff_not] at hg); omega))) rfl rfl rfl rfl rfl ?_ | refine T_val rfl (Val.neverI rfl (fun hg => by exfalso; first | ((simp only [List.cons_append, List.nil_append, GP, dstL, lookE, Nat.beq, cond, List.getElem?_cons_zero, List.getElem?_cons_succ, Option.bind_some, and_true, Bool.and_eq_true, Bool.or_eq_true, Bool.and_eq_false_iff, Bool.or_eq_false_iff, Bool.not_eq_true', Bool.not_eq_false', decide_eq_true_eq, decide_eq_false_iff_not] at hg); done) | ((simp only [List.cons_append, List.nil_append, GP, dstL, lookE, Nat.beq, cond, List.getElem?_cons_zero, List.getElem?_cons_succ, Option.bind_some, and_true, Bool.and_eq_true, Bool.or_eq_true, Bool.and_eq_false_iff, Bool.or_eq_false_iff, Bool.not_eq_true', Bool.not_eq_false', decide_eq_true_eq, decide_eq_false_iff_not] at hg); omega))) rfl rfl rfl ?_ | refine T_valC rfl (Val.neverI rfl (fun hg => by exfalso; first | ((simp only [List.cons_append, List.nil_append, GP, dstL, lookE, Nat.beq, cond, List.getElem?_cons_zero, List.getElem?_cons_succ, Option.bind_some, and_true, Bool.and_eq_true, Bool.or_eq_true, Bool.and_eq_false_iff, Bool.or_eq_false_iff, Bool.not_eq_true', Bool.not_eq_false', decide_eq_true_eq, decide_eq_false_iff_not] at hg); done) | ((simp only [List.cons_append, List.nil_append, GP, dstL, lookE, Nat.beq, cond, List.getElem?_cons_zero, List.getElem?_cons_succ, Option.bind_some, and_true, Bool.and_eq_true, Bool.or_eq_true, Bool.and_eq_false_iff, Bool.or_eq_false_iff, Bool.not_eq_true', Bool.not_eq_false', decide_eq_true_eq, decide_eq_false_iff_not] at hg); omega))) rfl rfl rfl rfl rfl ?_) | (show T _ (.run _ _ (_ :: _) _ _ :: _) _ _ _; first | refine rv rfl rfl rfl (Val.neverP rfl (fun hg => by exfalso; first | ((simp only [List.cons_append, List.nil_append, GP, dstL, lookE, Nat.beq, cond, List.getElem?_cons_zero, List.getElem?_cons_succ, Option.bind_some, and_true, Bool.and_eq_true, Bool.or_eq_true, Bool.and_eq_false_iff, Bool.or_eq_false_iff, Bool.not_eq_true', Bool.not_eq_false', decide_eq_true_eq, decide_eq_false_iff_not] at hg); done) | ((simp only [List.cons_append, List.nil_append, GP, dstL, lookE, Nat.beq, cond, List.getElem?_cons_zero, List.getElem?_cons_succ, Option.bind_some, and_true, Bool.and_eq_true, Bool.or_eq_true, Bool.and_eq_false_iff, Bool.or_eq_false_iff, Bool.not_eq_true', Bool.not_eq_false', decide_eq_true_eq, decide_eq_false_iff_not] at hg); omega))) rfl rfl rfl ?_ | refine rg rfl rfl rfl (Val.neverP rfl (fun hg => by exfalso; first | ((simp only [List.cons_append, List.nil_append, GP, dstL, lookE, Nat.beq, cond, List.getElem?_cons_zero, List.getElem?_cons_succ, Option.bind_some, and_true, Bool.and_eq_true, Bool.or_eq_true, Bool.and_eq_false_iff, Bool.or_eq_false_iff, Bool.not_eq_true', Bool.not_eq_false', decide_eq_true_eq, decide_eq_false_iff_not] at hg); done) | ((simp only [List.cons_append, List.nil_append, GP, dstL, lookE, Nat.beq, cond, List.getElem?_cons_zero, List.getElem?_cons_succ, Option.bind_some, and_true, Bool.and_eq_true, Bool.or_eq_true, Bool.and_eq_false_iff, Bool.or_eq_false_iff, Bool.not_eq_true', Bool.not_eq_false', decide_eq_true_eq, decide_eq_false_iff_not] at hg); omega))) rfl rfl rfl rfl rfl ?_ | refine rv rfl rfl rfl (Val.neverI rfl (fun hg => by exfalso; first | ((simp only [List.cons_append, List.nil_append, GP, dstL, lookE, Nat.beq, cond, List.getElem?_cons_zero, List.getElem?_cons_succ, Option.bind_some, and_true, Bool.and_eq_true, Bool.or_eq_true, Bool.and_eq_false_iff, Bool.or_eq_false_iff, Bool.not_eq_true', Bool.not_eq_false', decide_eq_true_eq, decide_eq_false_iff_not] at hg); done) | ((simp only [List.cons_append, List.nil_append, GP, dstL, lookE, Nat.beq, cond, List.getElem?_cons_zero, List.getElem?_cons_succ, Option.bind_some, and_true, Bool.and_eq_true, Bool.or_eq_true, Bool.and_eq_false_iff, Bool.or_eq_false_iff, Bool.not_eq_true', Bool.not_eq_false', decide_eq_true_eq, decide_eq_false_iff_not] at hg); omega))) rfl rfl rfl ?_ | refine rg rfl rfl rfl (Val.neverI rfl (fun hg => by exfalso; first | ((simp only [List.cons_append, List.nil_append, GP, dstL, lookE, Nat.beq, cond, List.getElem?_cons_zero, List.getElem?_cons_succ, Option.bind_some, and_true, Bool.and_eq_true, Bool.or_eq_true, Bool.and_eq_false_iff, Bool.or_eq_false_iff, Bool.not_eq_true', Bool.not_eq_false', decide_eq_true_eq, decide_eq_false_iff_not] at hg); done) | ((simp only [List.cons_append, List.nil_append, GP, dstL, lookE, Nat.beq, cond, List.getElem?_cons_zero, List.getElem?_cons_succ, Option.bind_some, and_true, Bool.and_eq_true, Bool.or_eq_true, Bool.and_eq_false_iff, Bool.or_eq_false_iff, Bool.not_eq_true', Bool.not_eq_false', decide_eq_true_eq, decide_eq_false_iff_not] at hg); omega))) rfl rfl rfl rfl rfl ?_) | (show ∀ _ : Nat, T _ _ _ _ _; intro _))
          refine T_if rfl (fun h4 => ?_) (fun h4 => ?_)
          · exfalso; simp at h4
          · repeat' (first | refine d1 ?_ | refine dd ?_ | (show ∀ _ : Nat, T _ _ _ _ _; intro _))
            exact T_backX (j + 1, i, k + 1) ⟨by dsimp only; omega, by dsimp only at hin ⊢; omega, by dsimp only at hin ⊢; omega, hne2⟩ (by dsimp only; omega) (hE := ⟨rfl, by dsimp only; rw [hcp, show mtC a b [-1, (k : Int)] = false by simp [mtC]]; rfl, trivial⟩)
    · simp only [decide_eq_false_iff_not] at h3
      obtain rfl : j = cols.length := by omega
      rw [List.take_length]
      repeat' (first | refine d1 ?_ | refine dd ?_ | (show ∀ _ : Nat, T _ _ _ _ _; intro _) | (show T _ (.code .ret :: _) _ _ _; refine T_retV [] rfl (Hle.none _) ⟨rfl, rfl⟩))
end Go.Proofs.YtmcgificpaeipaaGreatDoor
/- Walks: pairs of sources: the reference: the first optimal alignment, how many there are. -/
namespace Go.Proofs.YtmcgificpaeipaaGreatDoor
open Go.RowKit Go.Shelf Go.Proofs
set_option maxRecDepth 100000
set_option maxHeartbeats 1000000

/-- A cell's data out of what is frozen. -/
theorem rd_one {R : Rdr} {vs : List Value} {ds : List D} (h : Rd R vs ds) {i : Nat} {x : Value} {d : D} (hx : vs[i]? = some x) (hd : ds[i]? = some d) : Rd R [x] [d] := by
  obtain ⟨y, hy, hr⟩ := h.get hd
  rw [hx] at hy
  cases hy
  exact hr
theorem alignRef18_spec (c : Costs) (A B : Option Addr) (n m ca cb : Nat) (a b : List Tok) (w : World) (h2 : Two w A B n m a b) :
    Spec Tryz.prog 17 [c.val, .slice A n ca, .slice B m cb] w (fun v R => ∃ x : Value, True ∧ v = .tuple #[x, .int .i64 (alignV c a b).2.1, .int .i64 (alignV c a b).2.2] ∧ R = [dat [x] [rowsD (alignV c a b).1]]) := by
  refine spec_of sg Tryz.func17 rfl rfl rfl ?_
  refine T_op (OpT.box (cs := c.cells) rfl rfl rfl rfl rfl rfl rfl (fun pc => ?_))
  have hnil : ∀ H : List HA, Hle H [dat [.slice none 0 0] [rowsD []]] := fun H => (hle_unit (B := dat [.slice none 0 0] [rowsD []]) (.s none 0 0 1 [] rfl (Nat.le_refl _) (by omega) (fun h => absurd h (by omega)) .nil .nil)).trans Hle.sub
  repeat' (first | refine d1 ?_ | refine dd ?_ | (show T _ (.ops _ (_ :: _) :: _) _ _ _; first | refine T_call rfl rfl rfl rfl rfl (fun w hw => ck18_spec c A B n m ca cb a b w (h2.cls hw)) ?_ | refine T_callC rfl rfl rfl rfl rfl rfl rfl (fun hg w hw => ck18_spec c A B n m ca cb a b w (h2.cls hw)) ?_) | (show T _ (.run _ _ (_ :: _) _ _ :: _) _ _ _; first | refine rc rfl rfl rfl rfl rfl rfl rfl (fun w hw => ck18_spec c A B n m ca cb a b w (h2.cls hw)) ?_ | refine rcG rfl rfl rfl rfl rfl rfl rfl rfl rfl (fun hg w hw => ck18_spec c A B n m ca cb a b w (h2.cls hw)) ?_) | (show ∀ _ : Nat, T _ _ _ _ _; intro _))
  refine T_if rfl (fun h => ?_) (fun hk => ?_)
  · simp only [Bool.not_eq_true', decide_eq_false_iff_not] at h
    have e : alignV c a b = ([], 0, 1) := if_neg h
    have e1 := (ckV_01 c a b).resolve_left h
    rw [e, e1]
    repeat' (first | refine d1 ?_ | refine dd ?_ | (show ∀ _ : Nat, T _ _ _ _ _; intro _) | (show T _ (.code .ret :: _) _ _ _; refine T_retV _ rfl (hnil _) ⟨_, trivial, rfl, rfl⟩))
  simp only [Bool.not_eq_false', decide_eq_true_eq] at hk
  have e : alignV c a b = (aln (grdOf c a b) 0 0, rst (grdOf c a b) 0 0, 0) := if_pos hk
  have hG := grdOf_ok (ckV_ok hk).1 a b
  have e1 : (grdOf c a b).n = n := h2.hn
  have e2 : (grdOf c a b).m = m := h2.hm
  have hnb := h2.hnb
  have hmb := h2.hmb
  rw [e]
  repeat' (first | refine d1 ?_ | refine dd ?_ | (show T _ (.ops _ (_ :: _) :: _) _ _ _; refine T_op (OpT.call rfl rfl rfl rfl rfl (fun w hw => table18_spec c A B n m ca cb a b w (h2.cls hw) hk) ?_)) | (show ∀ _ : Nat, T _ _ _ _ _; intro _))
  rintro v R ⟨x, -, rfl, rfl⟩
  refine T_le (H' := [dat [v] [rowsD (tabR n m (rst (grdOf c a b)))], blk pc c.cells 23]) (Hle.refl _) ?_
  refine T_open fun pt hpt => ?_
  obtain ⟨At, capt, cst, rfl, -, -, -, hAt, hrt⟩ := hpt.tab
  rw [tabR_length] at hAt ⊢
  obtain ⟨bt, ot, rfl, hbt⟩ := hAt (by omega)
  repeat' (first | refine d1 ?_ | refine dd ?_ | (show ∀ _ : Nat, T _ _ _ _ _; intro _))
  rename_i b0
  refine T_le (H' := [row 33 1 (some ⟨b0, 0, none⟩) 0 0 [], dat [] [], fz pt, blk pc c.cells 23]) ((Hle.weaken (i := 0) rfl (blk_row (sz := 1) (n := 0) rfl (by simp only [maxLen]; omega)) rfl).trans ((dat_nil _).trans (Hle.perm (List.Perm.swap _ _ _)))) ?_
  refine T_loopX (fun x : Nat × Nat × (Option Addr × Nat) × List Value × List (List Int) => [(12, .int .i64 x.1), (13, .int .i64 x.2.1), (11, .slice x.2.2.1.1 x.2.2.2.2.length x.2.2.1.2)]) (fun x => [row 33 1 x.2.2.1.1 x.2.2.1.2 x.2.2.2.2.length x.2.2.2.1, dat x.2.2.2.1 (x.2.2.2.2.map intsD), fz pt, blk pc c.cells 23]) (fun x => x.1 ≤ n ∧ x.2.1 ≤ m ∧ x.2.2.2.2.length ≤ x.1 + x.2.1 ∧ aln (grdOf c a b) 0 0 = x.2.2.2.2 ++ aln (grdOf c a b) x.1 x.2.1) (fun x => (n - x.1) + (m - x.2.1)) (0, 0, (some ⟨b0, 0, none⟩, 0), [], []) ⟨Nat.zero_le _, Nat.zero_le _, Nat.zero_le _, rfl⟩ ?_
  rintro ⟨i, k, ⟨Ao, capo⟩, hs, out⟩ ⟨hi, hkm, hlo, hout⟩
  dsimp only at hi hkm hlo hout ⊢
  obtain ⟨Ari, capri, hcsi, -, -, hAri⟩ := hrt.tabRow (tabR_get hi)
  rw [List.length_map, List.length_range] at hcsi hAri
  obtain ⟨bri, ori, rfl, hbri⟩ := hAri (by omega)
  repeat' (first | refine d1 ?_ | refine dd ?_ | (show ∀ _ : Nat, T _ _ _ _ _; intro _))
  refine T_if rfl (fun h3 => ?_) (fun h3 => ?_)
  · have h3' : i < n ∨ k < m := by simpa using h3
    obtain ⟨fm, hfm⟩ := fstM_ex (G := grdOf c a b) (i := i) (k := k) (by rw [e1, e2]; exact h3')
    obtain ⟨hfm1, hfm2⟩ := fstM_mem hfm
    repeat' (first | refine d1 ?_ | refine dd ?_ | (show T _ (.ops _ (_ :: _) :: _) _ _ _; refine T_op (OpT.call rfl rfl rfl rfl rfl (fun w hw => moves18_spec c A B n m ca cb a b i k w h2.hn hnb h2.hm hmb hi hkm) ?_)) | (show ∀ _ : Nat, T _ _ _ _ _; intro _))
    rintro v R ⟨x, -, rfl, rfl⟩
    refine T_le (H' := [dat [v] [rowsD (mvR (grdOf c a b) i k)], row 33 1 Ao capo out.length hs, dat hs (out.map intsD), fz pt, blk pc c.cells 23]) (Hle.refl _) ?_
    refine T_open fun pm hpm => ?_
    obtain ⟨Am, capm, csm, rfl, -, -, hcsm, hAm, hrm⟩ := hpm.tab
    have hlen : (mvR (grdOf c a b) i k).length = (mvs (grdOf c a b) i k).length := by unfold mvR; rw [List.length_map]
    have hm3 := mvs_len (grdOf c a b) i k
    have hmpos : 0 < (mvs (grdOf c a b) i k).length := List.length_pos_of_mem hfm1
    rw [hlen] at hAm ⊢
    obtain ⟨bm, om, rfl, hbm⟩ := hAm hmpos
    repeat' (first | refine d1 ?_ | refine dd ?_ | (show ∀ _ : Nat, T _ _ _ _ _; intro _))
    refine T_loopX (fun jj : Nat => [(15, .int .i64 jj)]) (fun _ => [fz pm, row 33 1 Ao capo out.length hs, dat hs (out.map intsD), fz pt, blk pc c.cells 23]) (fun jj => jj < (mvs (grdOf c a b) i k).length ∧ ∀ j' y, j' < jj → (mvs (grdOf c a b) i k)[j']? = some y → via (grdOf c a b) i k y ≠ rst (grdOf c a b) i k) (fun jj => (mvs (grdOf c a b) i k).length - jj) 0 ⟨hmpos, fun _ _ h => by omega⟩ ?_
    rintro jj ⟨hjl, hno⟩
    obtain ⟨v, hv⟩ : ∃ v, (mvs (grdOf c a b) i k)[jj]? = some v := ⟨_, List.getElem?_eq_getElem hjl⟩
    have hb1 := mv_to hG h2.hn h2.hm hi hkm hv
    have hrb := rst_bd2 hG h2.hn h2.hm hnb hmb (i + v.fst) (k + v.snd)
    have hmR : (mvR (grdOf c a b) i k)[jj]? = some (mvCol i k v) := by unfold mvR; rw [List.getElem?_map, hv]; rfl
    obtain ⟨Ar, capr, hcr, -, -, hAr⟩ := hrm.tabRow hmR
    obtain ⟨bx, ox, rfl, hbx⟩ := hAr (show 0 < 2 by omega)
    obtain ⟨Art, caprt, hcrt, -, -, hArt⟩ := hrt.tabRow (tabR_get (show i + v.fst ≤ n by omega))
    rw [List.length_map, List.length_range] at hcrt hArt
    obtain ⟨brt, ort, rfl, hbrt⟩ := hArt (by omega)
    repeat' (first | refine d1 ?_ | refine dd ?_ | (show T _ (.ops _ (_ :: _) :: _) _ _ _; first | refine T_val rfl (Val.load rfl (fun hg => rdFz (p := pm) (u := .slice (some ⟨bx, ox, none⟩) 2 capr) (b := bm) (by rw [off1]; exact hbm jj _ hcr))) rfl rfl rfl ?_ | refine T_valC rfl (Val.load rfl (fun hg => rdFz (p := pm) (u := .slice (some ⟨bx, ox, none⟩) 2 capr) (b := bm) (by rw [off1]; exact hbm jj _ hcr))) rfl rfl rfl rfl rfl ?_ | refine T_call rfl rfl rfl rfl rfl (fun w hw => behind18_spec c A B n m ca cb a b i k v bt ot (n + 1) capt brt ort (m + 1) caprt bx ox capr (rst (grdOf c a b) (i + v.fst) (k + v.snd)) w (h2.cls hw) hk hi hkm (List.mem_of_getElem? hv) (rdFz (p := pm) (hbx 0 _ rfl) w hw) (rdFz (p := pm) (hbx 1 _ rfl) w hw) (rdFz (p := pt) (hbt (i + v.fst) _ hcrt) w hw) (rdFz (p := pt) (hbrt (k + v.snd) _ (tabR_cell (by omega))) w hw) (by omega) (by omega) hrb) ?_ | refine T_callC rfl rfl rfl rfl rfl rfl rfl (fun hg w hw => behind18_spec c A B n m ca cb a b i k v bt ot (n + 1) capt brt ort (m + 1) caprt bx ox capr (rst (grdOf c a b) (i + v.fst) (k + v.snd)) w (h2.cls hw) hk hi hkm (List.mem_of_getElem? hv) (rdFz (p := pm) (hbx 0 _ rfl) w hw) (rdFz (p := pm) (hbx 1 _ rfl) w hw) (rdFz (p := pt) (hbt (i + v.fst) _ hcrt) w hw) (rdFz (p := pt) (hbrt (k + v.snd) _ (tabR_cell (by omega))) w hw) (by omega) (by omega) hrb) ?_ | refine T_val rfl (Val.load rfl (fun hg => rdFz (p := pt) (u := .slice (some ⟨bri, ori, none⟩) (m + 1) capri) (b := bt) (by rw [off1]; exact hbt i _ hcsi))) rfl rfl rfl ?_ | refine T_valC rfl (Val.load rfl (fun hg => rdFz (p := pt) (u := .slice (some ⟨bri, ori, none⟩) (m + 1) capri) (b := bt) (by rw [off1]; exact hbt i _ hcsi))) rfl rfl rfl rfl rfl ?_ | refine T_val rfl (Val.load rfl (fun hg => rdFz (p := pt) (u := .int .i64 (rst (grdOf c a b) i k)) (b := bri) (by rw [off1]; exact hbri k _ (tabR_cell hkm)))) rfl rfl rfl ?_ | refine T_valC rfl (Val.load rfl (fun hg => rdFz (p := pt) (u := .int .i64 (rst (grdOf c a b) i k)) (b := bri) (by rw [off1]; exact hbri k _ (tabR_cell hkm)))) rfl rfl rfl rfl rfl ?_) | (show T _ (.run _ _ (_ :: _) _ _ :: _) _ _ _; first | refine rv rfl rfl rfl (Val.load rfl (fun hg => rdFz (p := pm) (u := .slice (some ⟨bx, ox, none⟩) 2 capr) (b := bm) (by rw [off1]; exact hbm jj _ hcr))) rfl rfl rfl ?_ | refine rg rfl rfl rfl (Val.load rfl (fun hg => rdFz (p := pm) (u := .slice (some ⟨bx, ox, none⟩) 2 capr) (b := bm) (by rw [off1]; exact hbm jj _ hcr))) rfl rfl rfl rfl rfl ?_ | refine rc rfl rfl rfl rfl rfl rfl rfl (fun w hw => behind18_spec c A B n m ca cb a b i k v bt ot (n + 1) capt brt ort (m + 1) caprt bx ox capr (rst (grdOf c a b) (i + v.fst) (k + v.snd)) w (h2.cls hw) hk hi hkm (List.mem_of_getElem? hv) (rdFz (p := pm) (hbx 0 _ rfl) w hw) (rdFz (p := pm) (hbx 1 _ rfl) w hw) (rdFz (p := pt) (hbt (i + v.fst) _ hcrt) w hw) (rdFz (p := pt) (hbrt (k + v.snd) _ (tabR_cell (by omega))) w hw) (by omega) (by omega) hrb) ?_ | refine rcG rfl rfl rfl rfl rfl rfl rfl rfl rfl (fun hg w hw => behind18_spec c A B n m ca cb a b i k v bt ot (n + 1) capt brt ort (m + 1) caprt bx ox capr (rst (grdOf c a b) (i + v.fst) (k + v.snd)) w (h2.cls hw) hk hi hkm (List.mem_of_getElem? hv) (rdFz (p := pm) (hbx 0 _ rfl) w hw) (rdFz (p := pm) (hbx 1 _ rfl) w hw) (rdFz (p := pt) (hbt (i + v.fst) _ hcrt) w hw) (rdFz (p := pt) (hbrt (k + v.snd) _ (tabR_cell (by omega))) w hw) (by omega) (by omega) hrb) ?_ | refine rv rfl rfl rfl (Val.load rfl (fun hg => rdFz (p := pt) (u := .slice (some ⟨bri, ori, none⟩) (m + 1) capri) (b := bt) (by rw [off1]; exact hbt i _ hcsi))) rfl rfl rfl ?_ | refine rg rfl rfl rfl (Val.load rfl (fun hg => rdFz (p := pt) (u := .slice (some ⟨bri, ori, none⟩) (m + 1) capri) (b := bt) (by rw [off1]; exact hbt i _ hcsi))) rfl rfl rfl rfl rfl ?_ | refine rv rfl rfl rfl (Val.load rfl (fun hg => rdFz (p := pt) (u := .int .i64 (rst (grdOf c a b) i k)) (b := bri) (by rw [off1]; exact hbri k _ (tabR_cell hkm)))) rfl rfl rfl ?_ | refine rg rfl rfl rfl (Val.load rfl (fun hg => rdFz (p := pt) (u := .int .i64 (rst (grdOf c a b) i k)) (b := bri) (by rw [off1]; exact hbri k _ (tabR_cell hkm)))) rfl rfl rfl rfl rfl ?_) | (show ∀ _ : Nat, T _ _ _ _ _; intro _))
    refine T_if rfl (fun h5 => ?_) (fun h5 => ?_)
    · simp only [Bool.not_eq_true', decide_eq_false_iff_not] at h5
      have hno' : ∀ j' y, j' < jj + 1 → (mvs (grdOf c a b) i k)[j']? = some y → via (grdOf c a b) i k y ≠ rst (grdOf c a b) i k := fun j' y hj hy => by
        rcases Nat.lt_or_ge j' jj with h6 | h6
        · exact hno j' y h6 hy
        · rw [show j' = jj by omega, hv] at hy
          cases hy
          exact h5
      have hjl2 : jj + 1 < (mvs (grdOf c a b) i k).length := by
        rcases Nat.lt_or_ge (jj + 1) (mvs (grdOf c a b) i k).length with h6 | h6
        · exact h6
        · exfalso
          obtain ⟨j', hj', e9⟩ := List.getElem_of_mem hfm1
          exact hno' j' fm (by omega) (by rw [List.getElem?_eq_getElem hj', e9]) hfm2
      repeat' (first | refine d1 ?_ | refine dd ?_ | (show ∀ _ : Nat, T _ _ _ _ _; intro _))
      exact T_backX (jj + 1) ⟨hjl2, hno'⟩ (by omega)
    · simp only [Bool.not_eq_false', decide_eq_true_eq] at h5
      have hf : fstM (grdOf c a b) i k = some v := find_at hv (decide_eq_true h5) fun j' y hj hy => decide_eq_false (hno j' y hj hy)
      have hst := aln_step hf
      rw [hst] at hout
      have hrd : Rd (fr pm) [.slice (some ⟨bx, ox, none⟩) 2 capr] [intsD (mvCol i k v)] := rd_one hrm hcr (by rw [List.getElem?_map, hmR]; rfl)
      have hfz : ∀ H : List HA, Hle (fz pm :: dat hs (out.map intsD) :: H) (dat (hs ++ [.slice (some ⟨bx, ox, none⟩) 2 capr]) ((out ++ [mvCol i k v]).map intsD) :: H) := fun H => by
        rw [List.map_append]
        exact (hle_map (fz_dat hrd)).trans dat_join
      have hx0 : ∀ w' H, Cls w w' (fz pm :: H) → RdC w' bx (ox + (0 : Int).toNat * 1) [.int .i64 (if v.fst = 1 then (i : Int) else -1)] := fun w' H hw => rdFz (C := ⟨sg, ⟨0, []⟩, w, none, fun _ _ => True, fun _ _ => True, fun _ _ _ => True⟩) (p := pm) (hbx 0 _ rfl) w' hw
      repeat' (first | refine d1 ?_ | refine dd ?_ | (show T _ (.ops _ (_ :: _) :: _) _ _ _; first | refine T_val rfl (Val.load rfl (fun hg => rdFz (p := pm) (u := .slice (some ⟨bx, ox, none⟩) 2 capr) (b := bm) (by rw [off1]; exact hbm jj _ hcr))) rfl rfl rfl ?_ | refine T_valC rfl (Val.load rfl (fun hg => rdFz (p := pm) (u := .slice (some ⟨bx, ox, none⟩) 2 capr) (b := bm) (by rw [off1]; exact hbm jj _ hcr))) rfl rfl rfl rfl rfl ?_ | refine T_op (OpT.append rfl rfl rfl rfl rfl rfl rfl rfl rfl rfl (fun w hw => Src.own hw rfl) rfl (by dsimp only; omega) (by omega) (fun A' cap' hA' => ?_)) | refine T_val rfl (Val.load rfl (fun hg => rdFz (p := pm) (u := .int .i64 (if v.fst = 1 then (i : Int) else -1)) (b := bx) (hbx 0 _ rfl))) rfl rfl rfl ?_ | refine T_valC rfl (Val.load rfl (fun hg => rdFz (p := pm) (u := .int .i64 (if v.fst = 1 then (i : Int) else -1)) (b := bx) (hbx 0 _ rfl))) rfl rfl rfl rfl rfl ?_) | (show T _ (.run _ _ (_ :: _) _ _ :: _) _ _ _; first | refine rv rfl rfl rfl (Val.load rfl (fun hg => rdFz (p := pm) (u := .slice (some ⟨bx, ox, none⟩) 2 capr) (b := bm) (by rw [off1]; exact hbm jj _ hcr))) rfl rfl rfl ?_ | refine rg rfl rfl rfl (Val.load rfl (fun hg => rdFz (p := pm) (u := .slice (some ⟨bx, ox, none⟩) 2 capr) (b := bm) (by rw [off1]; exact hbm jj _ hcr))) rfl rfl rfl rfl rfl ?_ | refine rv rfl rfl rfl (Val.load rfl (fun hg => rdFz (p := pm) (u := .int .i64 (if v.fst = 1 then (i : Int) else -1)) (b := bx) (hbx 0 _ rfl))) rfl rfl rfl ?_ | refine rg rfl rfl rfl (Val.load rfl (fun hg => rdFz (p := pm) (u := .int .i64 (if v.fst = 1 then (i : Int) else -1)) (b := bx) (hbx 0 _ rfl))) rfl rfl rfl rfl rfl ?_) | (show ∀ _ : Nat, T _ _ _ _ _; intro _))
      rename_i bl
      refine T_le (H' := [fz pm, row 33 1 A' cap' (out.length + 1) (hs ++ [.slice (some ⟨bx, ox, none⟩) 2 capr]), dat hs (out.map intsD), fz pt, blk pc c.cells 23]) Hle.srt2 ?_
      have hfin : Hle [fz pm, row 33 1 A' cap' (out.length + 1) (hs ++ [.slice (some ⟨bx, ox, none⟩) 2 capr]), dat hs (out.map intsD), fz pt, blk pc c.cells 23] [row 33 1 A' cap' (out ++ [mvCol i k v]).length (hs ++ [.slice (some ⟨bx, ox, none⟩) 2 capr]), dat (hs ++ [.slice (some ⟨bx, ox, none⟩) 2 capr]) ((out ++ [mvCol i k v]).map intsD), fz pt, blk pc c.cells 23] := by
        rw [List.length_append]
        exact (Hle.perm ((List.Perm.swap _ _ _).trans (List.Perm.cons _ (List.Perm.refl _)))).trans ((Hle.perm (by exact List.Perm.swap _ _ _)).trans ((Hle.perm (List.Perm.cons _ (List.Perm.refl _))).trans (by
          refine (Hle.srt2 (K := [fz pm, dat hs (out.map intsD), row 33 1 A' cap' (out.length + 1) (hs ++ [.slice (some ⟨bx, ox, none⟩) 2 capr]), fz pt, blk pc c.cells 23])).trans ((hfz _).trans (Hle.perm (List.Perm.swap _ _ _))))))
      have hcase : ∀ (i' k' : Nat), i + v.fst = i' → k + v.snd = k' → ((out ++ [mvCol i k v]).length ≤ i' + k') ∧ aln (grdOf c a b) 0 0 = (out ++ [mvCol i k v]) ++ aln (grdOf c a b) i' k' := fun i' k' hi' hk' => by
        subst hi'; subst hk'
        exact ⟨by rw [List.length_append]; simp; omega, by rw [List.append_assoc]; exact hout⟩
      rcases mvs_form (fstM_mem hf).1 with ⟨hve, f1, f2⟩ | ⟨hve, f1⟩ | ⟨hve, f1⟩
      · have hv1 : v.fst = 1 := by rw [hve]
        have hv2 : v.snd = 1 := by rw [hve]
        obtain ⟨q1, q2⟩ := hcase (i + 1) (k + 1) (by omega) (by omega)
        rw [if_pos hv1]
        refine T_if rfl (fun h6 => ?_) (fun h6 => by exfalso; first | (simp at h6; done) | (simp at h6; omega))
        repeat' (first | refine d1 ?_ | refine dd ?_ | (show T _ (.ops _ (_ :: _) :: _) _ _ _; first | refine T_val rfl (Val.load rfl (fun hg => rdFz (p := pm) (u := .slice (some ⟨bx, ox, none⟩) 2 capr) (b := bm) (by rw [off1]; exact hbm jj _ hcr))) rfl rfl rfl ?_ | refine T_valC rfl (Val.load rfl (fun hg => rdFz (p := pm) (u := .slice (some ⟨bx, ox, none⟩) 2 capr) (b := bm) (by rw [off1]; exact hbm jj _ hcr))) rfl rfl rfl rfl rfl ?_ | refine T_val rfl (Val.load rfl (fun hg => rdFz (p := pm) (u := .int .i64 (if v.snd = 1 then (k : Int) else -1)) (b := bx) (hbx 1 _ rfl))) rfl rfl rfl ?_ | refine T_valC rfl (Val.load rfl (fun hg => rdFz (p := pm) (u := .int .i64 (if v.snd = 1 then (k : Int) else -1)) (b := bx) (hbx 1 _ rfl))) rfl rfl rfl rfl rfl ?_) | (show T _ (.run _ _ (_ :: _) _ _ :: _) _ _ _; first | refine rv rfl rfl rfl (Val.load rfl (fun hg => rdFz (p := pm) (u := .slice (some ⟨bx, ox, none⟩) 2 capr) (b := bm) (by rw [off1]; exact hbm jj _ hcr))) rfl rfl rfl ?_ | refine rg rfl rfl rfl (Val.load rfl (fun hg => rdFz (p := pm) (u := .slice (some ⟨bx, ox, none⟩) 2 capr) (b := bm) (by rw [off1]; exact hbm jj _ hcr))) rfl rfl rfl rfl rfl ?_ | refine rv rfl rfl rfl (Val.load rfl (fun hg => rdFz (p := pm) (u := .int .i64 (if v.snd = 1 then (k : Int) else -1)) (b := bx) (hbx 1 _ rfl))) rfl rfl rfl ?_ | refine rg rfl rfl rfl (Val.load rfl (fun hg => rdFz (p := pm) (u := .int .i64 (if v.snd = 1 then (k : Int) else -1)) (b := bx) (hbx 1 _ rfl))) rfl rfl rfl rfl rfl ?_) | (show ∀ _ : Nat, T _ _ _ _ _; intro _))
        rw [if_pos hv2]
        refine T_if rfl (fun h6 => ?_) (fun h6 => by exfalso; first | (simp at h6; done) | (simp at h6; omega))
        repeat' (first | refine d1 ?_ | refine dd ?_ | (show ∀ _ : Nat, T _ _ _ _ _; intro _))
        exact T_backX (i + 1, k + 1, (A', cap'), hs ++ [.slice (some ⟨bx, ox, none⟩) 2 capr], out ++ [mvCol i k v]) ⟨by dsimp only; omega, by dsimp only; omega, q1, q2⟩ (by dsimp only; omega) (hE := ⟨rfl, rfl, by dsimp only; rw [List.length_append]; rfl, trivial⟩) (hG := hfin)
      · have hv1 : v.fst = 1 := by rw [hve]
        have hv2 : v.snd = 0 := by rw [hve]
        obtain ⟨q1, q2⟩ := hcase (i + 1) k (by omega) (by omega)
        rw [if_pos hv1]
        refine T_if rfl (fun h6 => ?_) (fun h6 => by exfalso; first | (simp at h6; done) | (simp at h6; omega))
        repeat' (first | refine d1 ?_ | refine dd ?_ | (show T _ (.ops _ (_ :: _) :: _) _ _ _; first | refine T_val rfl (Val.load rfl (fun hg => rdFz (p := pm) (u := .slice (some ⟨bx, ox, none⟩) 2 capr) (b := bm) (by rw [off1]; exact hbm jj _ hcr))) rfl rfl rfl ?_ | refine T_valC rfl (Val.load rfl (fun hg => rdFz (p := pm) (u := .slice (some ⟨bx, ox, none⟩) 2 capr) (b := bm) (by rw [off1]; exact hbm jj _ hcr))) rfl rfl rfl rfl rfl ?_ | refine T_val rfl (Val.load rfl (fun hg => rdFz (p := pm) (u := .int .i64 (if v.snd = 1 then (k : Int) else -1)) (b := bx) (hbx 1 _ rfl))) rfl rfl rfl ?_ | refine T_valC rfl (Val.load rfl (fun hg => rdFz (p := pm) (u := .int .i64 (if v.snd = 1 then (k : Int) else -1)) (b := bx) (hbx 1 _ rfl))) rfl rfl rfl rfl rfl ?_) | (show T _ (.run _ _ (_ :: _) _ _ :: _) _ _ _; first | refine rv rfl rfl rfl (Val.load rfl (fun hg => rdFz (p := pm) (u := .slice (some ⟨bx, ox, none⟩) 2 capr) (b := bm) (by rw [off1]; exact hbm jj _ hcr))) rfl rfl rfl ?_ | refine rg rfl rfl rfl (Val.load rfl (fun hg => rdFz (p := pm) (u := .slice (some ⟨bx, ox, none⟩) 2 capr) (b := bm) (by rw [off1]; exact hbm jj _ hcr))) rfl rfl rfl rfl rfl ?_ | refine rv rfl rfl rfl (Val.load rfl (fun hg => rdFz (p := pm) (u := .int .i64 (if v.snd = 1 then (k : Int) else -1)) (b := bx) (hbx 1 _ rfl))) rfl rfl rfl ?_ | refine rg rfl rfl rfl (Val.load rfl (fun hg => rdFz (p := pm) (u := .int .i64 (if v.snd = 1 then (k : Int) else -1)) (b := bx) (hbx 1 _ rfl))) rfl rfl rfl rfl rfl ?_) | (show ∀ _ : Nat, T _ _ _ _ _; intro _))
        rw [if_neg (show ¬ v.snd = 1 by omega)]
        refine T_if rfl (fun h6 => by exfalso; simp at h6) (fun h6 => ?_)
        repeat' (first | refine d1 ?_ | refine dd ?_ | (show ∀ _ : Nat, T _ _ _ _ _; intro _))
        exact T_backX (i + 1, k, (A', cap'), hs ++ [.slice (some ⟨bx, ox, none⟩) 2 capr], out ++ [mvCol i k v]) ⟨by dsimp only; omega, by dsimp only; omega, q1, q2⟩ (by dsimp only; omega) (hE := ⟨rfl, rfl, by dsimp only; rw [List.length_append]; rfl, trivial⟩) (hG := hfin)
      · have hv1 : v.fst = 0 := by rw [hve]
        have hv2 : v.snd = 1 := by rw [hve]
        obtain ⟨q1, q2⟩ := hcase i (k + 1) (by omega) (by omega)
        rw [if_neg (show ¬ v.fst = 1 by omega)]
        refine T_if rfl (fun h6 => by exfalso; simp at h6) (fun h6 => ?_)
        repeat' (first | refine d1 ?_ | refine dd ?_ | (show T _ (.ops _ (_ :: _) :: _) _ _ _; first | refine T_val rfl (Val.load rfl (fun hg => rdFz (p := pm) (u := .slice (some ⟨bx, ox, none⟩) 2 capr) (b := bm) (by rw [off1]; exact hbm jj _ hcr))) rfl rfl rfl ?_ | refine T_valC rfl (Val.load rfl (fun hg => rdFz (p := pm) (u := .slice (some ⟨bx, ox, none⟩) 2 capr) (b := bm) (by rw [off1]; exact hbm jj _ hcr))) rfl rfl rfl rfl rfl ?_ | refine T_val rfl (Val.load rfl (fun hg => rdFz (p := pm) (u := .int .i64 (if v.snd = 1 then (k : Int) else -1)) (b := bx) (hbx 1 _ rfl))) rfl rfl rfl ?_ | refine T_valC rfl (Val.load rfl (fun hg => rdFz (p := pm) (u := .int .i64 (if v.snd = 1 then (k : Int) else -1)) (b := bx) (hbx 1 _ rfl))) rfl rfl rfl rfl rfl ?_) | (show T _ (.run _ _ (_ :: _) _ _ :: _) _ _ _; first | refine rv rfl rfl rfl (Val.load rfl (fun hg => rdFz (p := pm) (u := .slice (some ⟨bx, ox, none⟩) 2 capr) (b := bm) (by rw [off1]; exact hbm jj _ hcr))) rfl rfl rfl ?_ | refine rg rfl rfl rfl (Val.load rfl (fun hg => rdFz (p := pm) (u := .slice (some ⟨bx, ox, none⟩) 2 capr) (b := bm) (by rw [off1]; exact hbm jj _ hcr))) rfl rfl rfl rfl rfl ?_ | refine rv rfl rfl rfl (Val.load rfl (fun hg => rdFz (p := pm) (u := .int .i64 (if v.snd = 1 then (k : Int) else -1)) (b := bx) (hbx 1 _ rfl))) rfl rfl rfl ?_ | refine rg rfl rfl rfl (Val.load rfl (fun hg => rdFz (p := pm) (u := .int .i64 (if v.snd = 1 then (k : Int) else -1)) (b := bx) (hbx 1 _ rfl))) rfl rfl rfl rfl rfl ?_) | (show ∀ _ : Nat, T _ _ _ _ _; intro _))
        rw [if_pos hv2]
        refine T_if rfl (fun h6 => ?_) (fun h6 => by exfalso; first | (simp at h6; done) | (simp at h6; omega))
        repeat' (first | refine d1 ?_ | refine dd ?_ | (show ∀ _ : Nat, T _ _ _ _ _; intro _))
        exact T_backX (i, k + 1, (A', cap'), hs ++ [.slice (some ⟨bx, ox, none⟩) 2 capr], out ++ [mvCol i k v]) ⟨by dsimp only; omega, by dsimp only; omega, q1, q2⟩ (by dsimp only; omega) (hE := ⟨rfl, rfl, by dsimp only; rw [List.length_append]; rfl, trivial⟩) (hG := hfin)
  · have h3' : ¬ (i < n ∨ k < m) := by simpa using h3
    rw [aln_end (i := i) (k := k) (by rw [e1, e2]; exact h3'), List.append_nil] at hout
    rw [hout]
    obtain ⟨Ar0, capr0, hcs0, -, -, hAr0⟩ := hrt.tabRow (tabR_get (Nat.zero_le n))
    rw [List.length_map, List.length_range] at hcs0 hAr0
    obtain ⟨br0, or0, rfl, hbr0⟩ := hAr0 (by omega)
    repeat' (first | refine d1 ?_ | refine dd ?_ | (show T _ (.ops _ (_ :: _) :: _) _ _ _; first | refine T_val rfl (Val.load rfl (fun hg => rdFz (p := pt) (u := .slice (some ⟨br0, or0, none⟩) (m + 1) capr0) (b := bt) (hbt 0 _ hcs0))) rfl rfl rfl ?_ | refine T_valC rfl (Val.load rfl (fun hg => rdFz (p := pt) (u := .slice (some ⟨br0, or0, none⟩) (m + 1) capr0) (b := bt) (hbt 0 _ hcs0))) rfl rfl rfl rfl rfl ?_ | refine T_val rfl (Val.load rfl (fun hg => rdFz (p := pt) (u := .int .i64 (rst (grdOf c a b) 0 0)) (b := br0) (hbr0 0 _ (tabR_cell (Nat.zero_le m))))) rfl rfl rfl ?_ | refine T_valC rfl (Val.load rfl (fun hg => rdFz (p := pt) (u := .int .i64 (rst (grdOf c a b) 0 0)) (b := br0) (hbr0 0 _ (tabR_cell (Nat.zero_le m))))) rfl rfl rfl rfl rfl ?_) | (show T _ (.run _ _ (_ :: _) _ _ :: _) _ _ _; first | refine rv rfl rfl rfl (Val.load rfl (fun hg => rdFz (p := pt) (u := .slice (some ⟨br0, or0, none⟩) (m + 1) capr0) (b := bt) (hbt 0 _ hcs0))) rfl rfl rfl ?_ | refine rg rfl rfl rfl (Val.load rfl (fun hg => rdFz (p := pt) (u := .slice (some ⟨br0, or0, none⟩) (m + 1) capr0) (b := bt) (hbt 0 _ hcs0))) rfl rfl rfl rfl rfl ?_ | refine rv rfl rfl rfl (Val.load rfl (fun hg => rdFz (p := pt) (u := .int .i64 (rst (grdOf c a b) 0 0)) (b := br0) (hbr0 0 _ (tabR_cell (Nat.zero_le m))))) rfl rfl rfl ?_ | refine rg rfl rfl rfl (Val.load rfl (fun hg => rdFz (p := pt) (u := .int .i64 (rst (grdOf c a b) 0 0)) (b := br0) (hbr0 0 _ (tabR_cell (Nat.zero_le m))))) rfl rfl rfl rfl rfl ?_) | (show ∀ _ : Nat, T _ _ _ _ _; intro _) | (show T _ (.code .ret :: _) _ _ _; refine T_retV _ rfl (dat_row.trans (Hle.nth 0 rfl)) ⟨_, trivial, rfl, rfl⟩))
end Go.Proofs.YtmcgificpaeipaaGreatDoor
