/- The law PairwiseTurned holds for whatever costs and tokens: the tied card of its row. No condition beyond the row's own. -/
import Derived.Test.YtmcgificpaeipaaGreatDoorJ4
import Derived.Test.YtmcgificpaeipaaGreatDoorCards
import Derived.Test.YtmcgificpaeipaaGreatDoorTie
set_option linter.unusedVariables false
set_option linter.unusedSimpArgs false
namespace Go.Proofs.YtmcgificpaeipaaGreatDoor
open Go.RowKit Go.Shelf Go.ChangeShapes Go.WideShapes Go.Proofs
set_option maxRecDepth 100000
set_option maxHeartbeats 1000000

theorem grd_xch (c : Costs) (a b : List Tok) : Xch (grdOf c a b) (grdOf c b a) :=
  ⟨rfl, rfl, fun i k _ _ => pairC_swap c (tkA b k) (tkA a i), fun _ _ => rfl, fun _ _ => rfl⟩
theorem tkA_rev {l : List Tok} {i : Nat} (h : i < l.length) : tkA l.reverse (l.length - 1 - i) = tkA l i := by
  unfold tkA
  rw [List.getD_eq_getElem?_getD, List.getD_eq_getElem?_getD, List.getElem?_reverse (by omega), show l.length - 1 - (l.length - 1 - i) = i by omega]
theorem grd_rvs (c : Costs) (a b : List Tok) : Rvs (grdOf c a b) (grdOf c a.reverse b.reverse) :=
  ⟨List.length_reverse, List.length_reverse, fun i k hi hk => by show pairC c _ _ = pairC c _ _; rw [show (grdOf c a b).n = a.length from rfl, show (grdOf c a b).m = b.length from rfl, tkA_rev hi, tkA_rev hk],
    fun i hi => by show gapC c _ = gapC c _; rw [show (grdOf c a b).n = a.length from rfl, tkA_rev hi], fun k hk => by show gapC c _ = gapC c _; rw [show (grdOf c a b).m = b.length from rfl, tkA_rev hk]⟩
theorem srcRowH {w0 w : World} {H : List HA} {A : Option Addr} {e sz cap n : Nat} {xs : List Value} {rb : HA → List HA} [FocusR H A e sz cap n xs rb] (hw : Cls w0 w H) : Src w sz A n xs :=
  srcRw (C := ⟨sg, ⟨0, []⟩, w0, none, fun _ _ => True, fun _ _ => True, fun _ _ _ => True⟩) (e := e) (cap := cap) (rb := rb) w hw
theorem Two.swap {w : World} {A B : Option Addr} {n m : Nat} {a b : List Tok} (h : Two w A B n m a b) : Two w B A m n b a := ⟨h.hst, h.hb, h.hm, h.hmb, h.ha, h.hn, h.hnb, h.hsb, h.hsa⟩
theorem turnedLaw_spec (c : Costs) (A B : Option Addr) (ca cb : Nat) (a b : List Tok) (w : World) (hst : Std w) (ha : Src w 6 A a.length (a.flatMap Tok.cells)) (hna : a.length ≤ 9223372036854775807)
    (hb : Src w 6 B b.length (b.flatMap Tok.cells)) (hnb : b.length ≤ 9223372036854775807) :
    Spec Tryz.prog 6 [c.val, .slice A a.length ca, .slice B b.length cb] w (fun v R => v = .bool true ∧ R = []) := by
  refine spec_of sg Tryz.func6 rfl rfl rfl ?_
  refine T_op (OpT.box (cs := c.cells) rfl rfl rfl rfl rfl rfl rfl (fun pc => ?_))
  repeat' (first | refine d1 ?_ | refine dd ?_ | (show T _ (.ops _ (_ :: _) :: _) _ _ _; first | refine T_call rfl rfl rfl rfl rfl (fun w hw => fine18_spec c _ 2 _ [⟨A, a.length, ca, a⟩, ⟨B, b.length, cb, b⟩] w (Src.own hw rfl) rfl (by omega) (tsOk2 (rdSrc ha w hw) hna (rdSrc hb w hw) hnb)) ?_ | refine T_callC rfl rfl rfl rfl rfl rfl rfl (fun hg w hw => fine18_spec c _ 2 _ [⟨A, a.length, ca, a⟩, ⟨B, b.length, cb, b⟩] w (Src.own hw rfl) rfl (by omega) (tsOk2 (rdSrc ha w hw) hna (rdSrc hb w hw) hnb)) ?_) | (show T _ (.run _ _ (_ :: _) _ _ :: _) _ _ _; first | refine rc rfl rfl rfl rfl rfl rfl rfl (fun w hw => fine18_spec c _ 2 _ [⟨A, a.length, ca, a⟩, ⟨B, b.length, cb, b⟩] w (Src.own hw rfl) rfl (by omega) (tsOk2 (rdSrc ha w hw) hna (rdSrc hb w hw) hnb)) ?_ | refine rcG rfl rfl rfl rfl rfl rfl rfl rfl rfl (fun hg w hw => fine18_spec c _ 2 _ [⟨A, a.length, ca, a⟩, ⟨B, b.length, cb, b⟩] w (Src.own hw rfl) rfl (by omega) (tsOk2 (rdSrc ha w hw) hna (rdSrc hb w hw) hnb)) ?_) | (show ∀ _ : Nat, T _ _ _ _ _; intro _))
  refine T_if rfl (fun h => ?_) (fun h => ?_)
  · repeat' (first | refine d1 ?_ | refine dd ?_ | (show T _ (.ops _ (_ :: _) :: _) _ _ _; first | refine T_call rfl rfl rfl rfl rfl (fun w hw => awake18_spec w (hst.cls hw)) ?_ | refine T_callC rfl rfl rfl rfl rfl rfl rfl (fun hg w hw => awake18_spec w (hst.cls hw)) ?_) | (show T _ (.run _ _ (_ :: _) _ _ :: _) _ _ _; first | refine rc rfl rfl rfl rfl rfl rfl rfl (fun w hw => awake18_spec w (hst.cls hw)) ?_ | refine rcG rfl rfl rfl rfl rfl rfl rfl rfl rfl (fun hg w hw => awake18_spec w (hst.cls hw)) ?_) | (show ∀ _ : Nat, T _ _ _ _ _; intro _) | (show T _ (.code .ret :: _) _ _ _; refine T_retV [] rfl (Hle.none _) ⟨rfl, rfl⟩))
  obtain ⟨h2, hck, hla, hlb⟩ := two_of hst ha hb (by simpa using h)
  obtain ⟨hc, ka, kb⟩ := ckV_ok hck
  refine T_le (H' := [blk pc c.cells 23]) Hle.srt ?_
  repeat' (first | refine d1 ?_ | refine dd ?_ | (show T _ (.ops _ (_ :: _) :: _) _ _ _; refine T_callE rfl rfl rfl rfl rfl (fun w hw => cloneT_spec A a.length ca a w (rdSrc ha w hw) (by omega)) (fun xa _ => ?_)) | (show ∀ _ : Nat, T _ _ _ _ _; intro _))
  obtain ⟨Au, cau⟩ := xa
  repeat' (first | refine d1 ?_ | refine dd ?_ | (show T _ (.ops _ (_ :: _) :: _) _ _ _; refine T_callE rfl rfl rfl rfl rfl (fun w hw => cloneT_spec B b.length cb b w (rdSrc hb w hw) (by omega)) (fun xb _ => ?_)) | (show ∀ _ : Nat, T _ _ _ _ _; intro _))
  obtain ⟨Av, cbv⟩ := xb
  refine T_le (H' := [row 48 6 Au cau a.length (a.flatMap Tok.cells), row 48 6 Av cbv b.length (b.flatMap Tok.cells), blk pc c.cells 23]) Hle.srt ?_
  refine T_op (OpT.callB rfl rfl rfl rfl rfl (reverseT_spec Au a.length cau cau a w [row 48 6 Av cbv b.length (b.flatMap Tok.cells), blk pc c.cells 23] rfl (by omega)) ?_)
  rintro v R ⟨rfl, rfl⟩
  repeat' (first | refine d1 ?_ | refine dd ?_ | (show ∀ _ : Nat, T _ _ _ _ _; intro _))
  refine T_le (H' := [row 48 6 Av cbv b.length (b.flatMap Tok.cells), row 48 6 Au cau a.length (a.reverse.flatMap Tok.cells), blk pc c.cells 23]) Hle.srt ?_
  refine T_op (OpT.callB rfl rfl rfl rfl rfl (reverseT_spec Av b.length cbv cbv b w [row 48 6 Au cau a.length (a.reverse.flatMap Tok.cells), blk pc c.cells 23] rfl (by omega)) ?_)
  rintro v R ⟨rfl, rfl⟩
  have hsa : ∀ t ∈ a.reverse, t.small := fun t ht => h2.hsa t (List.mem_reverse.1 ht)
  have hsb : ∀ t ∈ b.reverse, t.small := fun t ht => h2.hsb t (List.mem_reverse.1 ht)
  have hka : ∀ t ∈ a.reverse, tokE t = 0 := fun t ht => ka t (List.mem_reverse.1 ht)
  have hkb : ∀ t ∈ b.reverse, tokE t = 0 := fun t ht => kb t (List.mem_reverse.1 ht)
  have e0 : distV c a b = (rst (grdOf c a b) 0 0, 0) := if_pos hck
  have n0 : countV c a b = (wys (grdOf c a b) 0 0, 0) := if_pos hck
  have hlen : (grdOf c a b).n + (grdOf c a b).m ≤ 14 := by show a.length + b.length ≤ 14; omega
  have hlen2 : (grdOf c a.reverse b.reverse).n + (grdOf c a.reverse b.reverse).m ≤ 14 := by show a.reverse.length + b.reverse.length ≤ 14; rw [List.length_reverse, List.length_reverse]; omega
  have c1 : ckV c b a = 0 := ckV_of hc kb ka
  have c2 : ckV c a.reverse b.reverse = 0 := ckV_of hc hka hkb
  have c3 : ckV c b.reverse a.reverse = 0 := ckV_of hc hkb hka
  have e1 : distV c b a = distV c a b := by rw [e0]; unfold distV; rw [if_pos c1, rst_xch (grd_xch c a b) 0 0]
  have n1 : countV c b a = countV c a b := by rw [n0]; unfold countV; rw [if_pos c1, wys_xch (grd_xch c a b) 0 0]
  have e2 : distV c a.reverse b.reverse = distV c a b := by rw [e0]; unfold distV; rw [if_pos c2, rst_rev (grd_rvs c a b)]
  have n2 : countV c a.reverse b.reverse = countV c a b := by rw [n0]; unfold countV; rw [if_pos c2, wys_rev (grd_rvs c a b) hlen]
  have e3 : distV c b.reverse a.reverse = distV c a b := by rw [e0]; unfold distV; rw [if_pos c3, rst_xch (grd_xch c a.reverse b.reverse) 0 0, rst_rev (grd_rvs c a b)]
  have n3 : countV c b.reverse a.reverse = countV c a b := by rw [n0]; unfold countV; rw [if_pos c3, wys_xch (grd_xch c a.reverse b.reverse) 0 0, wys_rev (grd_rvs c a b) hlen]
  repeat' (first | refine d1 ?_ | refine dd ?_ | (show T _ (.ops _ (_ :: _) :: _) _ _ _; first | refine T_call rfl rfl rfl rfl rfl (fun w hw => distancePrg_spec c A B a.length b.length ca cb a b w (h2.cls hw)) ?_ | refine T_callC rfl rfl rfl rfl rfl rfl rfl (fun hg w hw => distancePrg_spec c A B a.length b.length ca cb a b w (h2.cls hw)) ?_ | refine T_call rfl rfl rfl rfl rfl (fun w hw => countPrg_spec c A B a.length b.length ca cb a b w (h2.cls hw)) ?_ | refine T_callC rfl rfl rfl rfl rfl rfl rfl (fun hg w hw => countPrg_spec c A B a.length b.length ca cb a b w (h2.cls hw)) ?_ | refine T_val rfl (Val.buildA rfl) rfl rfl rfl ?_ | refine T_valC rfl (Val.buildA rfl) rfl rfl rfl rfl rfl ?_) | (show T _ (.run _ _ (_ :: _) _ _ :: _) _ _ _; first | refine rc rfl rfl rfl rfl rfl rfl rfl (fun w hw => distancePrg_spec c A B a.length b.length ca cb a b w (h2.cls hw)) ?_ | refine rcG rfl rfl rfl rfl rfl rfl rfl rfl rfl (fun hg w hw => distancePrg_spec c A B a.length b.length ca cb a b w (h2.cls hw)) ?_ | refine rc rfl rfl rfl rfl rfl rfl rfl (fun w hw => countPrg_spec c A B a.length b.length ca cb a b w (h2.cls hw)) ?_ | refine rcG rfl rfl rfl rfl rfl rfl rfl rfl rfl (fun hg w hw => countPrg_spec c A B a.length b.length ca cb a b w (h2.cls hw)) ?_ | refine rv rfl rfl rfl (Val.buildA rfl) rfl rfl rfl ?_ | refine rg rfl rfl rfl (Val.buildA rfl) rfl rfl rfl rfl rfl ?_) | (show ∀ _ : Nat, T _ _ _ _ _; intro _))
  rename_i bl
  refine T_le (H' := [blk bl [.slice B b.length cb, .slice A a.length ca, .slice Au a.length cau, .slice Av b.length cbv, .slice Av b.length cbv, .slice Au a.length cau] 50, row 48 6 Av cbv b.length (b.reverse.flatMap Tok.cells), row 48 6 Au cau a.length (a.reverse.flatMap Tok.cells), blk pc c.cells 23]) (Hle.refl _) ?_
  rw [e0, n0]
  refine T_loopX (fun j : Nat => [(59, .int .i64 j)]) (fun _ => [blk bl [.slice B b.length cb, .slice A a.length ca, .slice Au a.length cau, .slice Av b.length cbv, .slice Av b.length cbv, .slice Au a.length cau] 50, row 48 6 Av cbv b.length (b.reverse.flatMap Tok.cells), row 48 6 Au cau a.length (a.reverse.flatMap Tok.cells), blk pc c.cells 23]) (fun j => j ≤ 3) (fun j => 3 - j) 0 (Nat.zero_le _) ?_
  intro j hj
  repeat' (first | refine d1 ?_ | refine dd ?_ | (show ∀ _ : Nat, T _ _ _ _ _; intro _))
  refine T_if rfl (fun h3 => ?_) (fun h3 => ?_)
  · simp only [decide_eq_true_eq] at h3
    rcases (show j = 0 ∨ j = 1 ∨ j = 2 by omega) with rfl | rfl | rfl
    · repeat' (first | refine d1 ?_ | refine dd ?_ | (show T _ (.ops _ (_ :: _) :: _) _ _ _; first | refine T_val rfl (Val.loadA (vs := [.slice B b.length cb, .slice A a.length ca]) rfl (fun _ => rdOwn (b := bl) (fun j u hu => by rcases j with _ | _ | j <;> first | exact hu | (simp at hu))) rfl) rfl rfl rfl ?_ | refine T_valC rfl (Val.loadA (vs := [.slice B b.length cb, .slice A a.length ca]) rfl (fun _ => rdOwn (b := bl) (fun j u hu => by rcases j with _ | _ | j <;> first | exact hu | (simp at hu))) rfl) rfl rfl rfl rfl rfl ?_ | refine T_op (OpT.storeA rfl rfl rfl rfl rfl rfl (by decide) ?_) | refine T_call rfl rfl rfl rfl rfl (fun w hw => distancePrg_spec c B A b.length a.length cb ca b a w (h2.cls hw).swap) ?_ | refine T_callC rfl rfl rfl rfl rfl rfl rfl (fun hg w hw => distancePrg_spec c B A b.length a.length cb ca b a w (h2.cls hw).swap) ?_ | refine T_call rfl rfl rfl rfl rfl (fun w hw => countPrg_spec c B A b.length a.length cb ca b a w (h2.cls hw).swap) ?_ | refine T_callC rfl rfl rfl rfl rfl rfl rfl (fun hg w hw => countPrg_spec c B A b.length a.length cb ca b a w (h2.cls hw).swap) ?_) | (show T _ (.run _ _ (_ :: _) _ _ :: _) _ _ _; first | refine rv rfl rfl rfl (Val.loadA (vs := [.slice B b.length cb, .slice A a.length ca]) rfl (fun _ => rdOwn (b := bl) (fun j u hu => by rcases j with _ | _ | j <;> first | exact hu | (simp at hu))) rfl) rfl rfl rfl ?_ | refine rg rfl rfl rfl (Val.loadA (vs := [.slice B b.length cb, .slice A a.length ca]) rfl (fun _ => rdOwn (b := bl) (fun j u hu => by rcases j with _ | _ | j <;> first | exact hu | (simp at hu))) rfl) rfl rfl rfl rfl rfl ?_ | refine rc rfl rfl rfl rfl rfl rfl rfl (fun w hw => distancePrg_spec c B A b.length a.length cb ca b a w (h2.cls hw).swap) ?_ | refine rcG rfl rfl rfl rfl rfl rfl rfl rfl rfl (fun hg w hw => distancePrg_spec c B A b.length a.length cb ca b a w (h2.cls hw).swap) ?_ | refine rc rfl rfl rfl rfl rfl rfl rfl (fun w hw => countPrg_spec c B A b.length a.length cb ca b a w (h2.cls hw).swap) ?_ | refine rcG rfl rfl rfl rfl rfl rfl rfl rfl rfl (fun hg w hw => countPrg_spec c B A b.length a.length cb ca b a w (h2.cls hw).swap) ?_) | (show ∀ _ : Nat, T _ _ _ _ _; intro _))
      rw [e1, n1, e0, n0]
      refine T_if rfl (fun h4 => by exfalso; simp at h4) (fun h4 => ?_)
      repeat' (first | refine d1 ?_ | refine dd ?_ | (show ∀ _ : Nat, T _ _ _ _ _; intro _))
      exact T_backX 1 (by omega) (by omega) (hG := Hle.tail _ _)
    · repeat' (first | refine d1 ?_ | refine dd ?_ | (show T _ (.ops _ (_ :: _) :: _) _ _ _; first | refine T_val rfl (Val.loadA (vs := [.slice Au a.length cau, .slice Av b.length cbv]) rfl (fun _ => rdOwn (b := bl) (fun j u hu => by rcases j with _ | _ | j <;> first | exact hu | (simp at hu))) rfl) rfl rfl rfl ?_ | refine T_valC rfl (Val.loadA (vs := [.slice Au a.length cau, .slice Av b.length cbv]) rfl (fun _ => rdOwn (b := bl) (fun j u hu => by rcases j with _ | _ | j <;> first | exact hu | (simp at hu))) rfl) rfl rfl rfl rfl rfl ?_ | refine T_op (OpT.storeA rfl rfl rfl rfl rfl rfl (by decide) ?_) | refine T_call rfl rfl rfl rfl rfl (fun w hw => distancePrg_spec c Au Av a.length b.length cau cbv a.reverse b.reverse w ⟨hst.cls hw, srcRowH (e := 48) (cap := cau) hw, List.length_reverse, by omega, srcRowH (e := 48) (cap := cbv) hw, List.length_reverse, by omega, hsa, hsb⟩) ?_ | refine T_callC rfl rfl rfl rfl rfl rfl rfl (fun hg w hw => distancePrg_spec c Au Av a.length b.length cau cbv a.reverse b.reverse w ⟨hst.cls hw, srcRowH (e := 48) (cap := cau) hw, List.length_reverse, by omega, srcRowH (e := 48) (cap := cbv) hw, List.length_reverse, by omega, hsa, hsb⟩) ?_ | refine T_call rfl rfl rfl rfl rfl (fun w hw => countPrg_spec c Au Av a.length b.length cau cbv a.reverse b.reverse w ⟨hst.cls hw, srcRowH (e := 48) (cap := cau) hw, List.length_reverse, by omega, srcRowH (e := 48) (cap := cbv) hw, List.length_reverse, by omega, hsa, hsb⟩) ?_ | refine T_callC rfl rfl rfl rfl rfl rfl rfl (fun hg w hw => countPrg_spec c Au Av a.length b.length cau cbv a.reverse b.reverse w ⟨hst.cls hw, srcRowH (e := 48) (cap := cau) hw, List.length_reverse, by omega, srcRowH (e := 48) (cap := cbv) hw, List.length_reverse, by omega, hsa, hsb⟩) ?_) | (show T _ (.run _ _ (_ :: _) _ _ :: _) _ _ _; first | refine rv rfl rfl rfl (Val.loadA (vs := [.slice Au a.length cau, .slice Av b.length cbv]) rfl (fun _ => rdOwn (b := bl) (fun j u hu => by rcases j with _ | _ | j <;> first | exact hu | (simp at hu))) rfl) rfl rfl rfl ?_ | refine rg rfl rfl rfl (Val.loadA (vs := [.slice Au a.length cau, .slice Av b.length cbv]) rfl (fun _ => rdOwn (b := bl) (fun j u hu => by rcases j with _ | _ | j <;> first | exact hu | (simp at hu))) rfl) rfl rfl rfl rfl rfl ?_ | refine rc rfl rfl rfl rfl rfl rfl rfl (fun w hw => distancePrg_spec c Au Av a.length b.length cau cbv a.reverse b.reverse w ⟨hst.cls hw, srcRowH (e := 48) (cap := cau) hw, List.length_reverse, by omega, srcRowH (e := 48) (cap := cbv) hw, List.length_reverse, by omega, hsa, hsb⟩) ?_ | refine rcG rfl rfl rfl rfl rfl rfl rfl rfl rfl (fun hg w hw => distancePrg_spec c Au Av a.length b.length cau cbv a.reverse b.reverse w ⟨hst.cls hw, srcRowH (e := 48) (cap := cau) hw, List.length_reverse, by omega, srcRowH (e := 48) (cap := cbv) hw, List.length_reverse, by omega, hsa, hsb⟩) ?_ | refine rc rfl rfl rfl rfl rfl rfl rfl (fun w hw => countPrg_spec c Au Av a.length b.length cau cbv a.reverse b.reverse w ⟨hst.cls hw, srcRowH (e := 48) (cap := cau) hw, List.length_reverse, by omega, srcRowH (e := 48) (cap := cbv) hw, List.length_reverse, by omega, hsa, hsb⟩) ?_ | refine rcG rfl rfl rfl rfl rfl rfl rfl rfl rfl (fun hg w hw => countPrg_spec c Au Av a.length b.length cau cbv a.reverse b.reverse w ⟨hst.cls hw, srcRowH (e := 48) (cap := cau) hw, List.length_reverse, by omega, srcRowH (e := 48) (cap := cbv) hw, List.length_reverse, by omega, hsa, hsb⟩) ?_) | (show ∀ _ : Nat, T _ _ _ _ _; intro _))
      rw [e2, n2, e0, n0]
      refine T_if rfl (fun h4 => by exfalso; simp at h4) (fun h4 => ?_)
      repeat' (first | refine d1 ?_ | refine dd ?_ | (show ∀ _ : Nat, T _ _ _ _ _; intro _))
      exact T_backX 2 (by omega) (by omega) (hG := Hle.tail _ _)
    · repeat' (first | refine d1 ?_ | refine dd ?_ | (show T _ (.ops _ (_ :: _) :: _) _ _ _; first | refine T_val rfl (Val.loadA (vs := [.slice Av b.length cbv, .slice Au a.length cau]) rfl (fun _ => rdOwn (b := bl) (fun j u hu => by rcases j with _ | _ | j <;> first | exact hu | (simp at hu))) rfl) rfl rfl rfl ?_ | refine T_valC rfl (Val.loadA (vs := [.slice Av b.length cbv, .slice Au a.length cau]) rfl (fun _ => rdOwn (b := bl) (fun j u hu => by rcases j with _ | _ | j <;> first | exact hu | (simp at hu))) rfl) rfl rfl rfl rfl rfl ?_ | refine T_op (OpT.storeA rfl rfl rfl rfl rfl rfl (by decide) ?_) | refine T_call rfl rfl rfl rfl rfl (fun w hw => distancePrg_spec c Av Au b.length a.length cbv cau b.reverse a.reverse w ⟨hst.cls hw, srcRowH (e := 48) (cap := cbv) hw, List.length_reverse, by omega, srcRowH (e := 48) (cap := cau) hw, List.length_reverse, by omega, hsb, hsa⟩) ?_ | refine T_callC rfl rfl rfl rfl rfl rfl rfl (fun hg w hw => distancePrg_spec c Av Au b.length a.length cbv cau b.reverse a.reverse w ⟨hst.cls hw, srcRowH (e := 48) (cap := cbv) hw, List.length_reverse, by omega, srcRowH (e := 48) (cap := cau) hw, List.length_reverse, by omega, hsb, hsa⟩) ?_ | refine T_call rfl rfl rfl rfl rfl (fun w hw => countPrg_spec c Av Au b.length a.length cbv cau b.reverse a.reverse w ⟨hst.cls hw, srcRowH (e := 48) (cap := cbv) hw, List.length_reverse, by omega, srcRowH (e := 48) (cap := cau) hw, List.length_reverse, by omega, hsb, hsa⟩) ?_ | refine T_callC rfl rfl rfl rfl rfl rfl rfl (fun hg w hw => countPrg_spec c Av Au b.length a.length cbv cau b.reverse a.reverse w ⟨hst.cls hw, srcRowH (e := 48) (cap := cbv) hw, List.length_reverse, by omega, srcRowH (e := 48) (cap := cau) hw, List.length_reverse, by omega, hsb, hsa⟩) ?_) | (show T _ (.run _ _ (_ :: _) _ _ :: _) _ _ _; first | refine rv rfl rfl rfl (Val.loadA (vs := [.slice Av b.length cbv, .slice Au a.length cau]) rfl (fun _ => rdOwn (b := bl) (fun j u hu => by rcases j with _ | _ | j <;> first | exact hu | (simp at hu))) rfl) rfl rfl rfl ?_ | refine rg rfl rfl rfl (Val.loadA (vs := [.slice Av b.length cbv, .slice Au a.length cau]) rfl (fun _ => rdOwn (b := bl) (fun j u hu => by rcases j with _ | _ | j <;> first | exact hu | (simp at hu))) rfl) rfl rfl rfl rfl rfl ?_ | refine rc rfl rfl rfl rfl rfl rfl rfl (fun w hw => distancePrg_spec c Av Au b.length a.length cbv cau b.reverse a.reverse w ⟨hst.cls hw, srcRowH (e := 48) (cap := cbv) hw, List.length_reverse, by omega, srcRowH (e := 48) (cap := cau) hw, List.length_reverse, by omega, hsb, hsa⟩) ?_ | refine rcG rfl rfl rfl rfl rfl rfl rfl rfl rfl (fun hg w hw => distancePrg_spec c Av Au b.length a.length cbv cau b.reverse a.reverse w ⟨hst.cls hw, srcRowH (e := 48) (cap := cbv) hw, List.length_reverse, by omega, srcRowH (e := 48) (cap := cau) hw, List.length_reverse, by omega, hsb, hsa⟩) ?_ | refine rc rfl rfl rfl rfl rfl rfl rfl (fun w hw => countPrg_spec c Av Au b.length a.length cbv cau b.reverse a.reverse w ⟨hst.cls hw, srcRowH (e := 48) (cap := cbv) hw, List.length_reverse, by omega, srcRowH (e := 48) (cap := cau) hw, List.length_reverse, by omega, hsb, hsa⟩) ?_ | refine rcG rfl rfl rfl rfl rfl rfl rfl rfl rfl (fun hg w hw => countPrg_spec c Av Au b.length a.length cbv cau b.reverse a.reverse w ⟨hst.cls hw, srcRowH (e := 48) (cap := cbv) hw, List.length_reverse, by omega, srcRowH (e := 48) (cap := cau) hw, List.length_reverse, by omega, hsb, hsa⟩) ?_) | (show ∀ _ : Nat, T _ _ _ _ _; intro _))
      rw [e3, n3, e0, n0]
      refine T_if rfl (fun h4 => by exfalso; simp at h4) (fun h4 => ?_)
      repeat' (first | refine d1 ?_ | refine dd ?_ | (show ∀ _ : Nat, T _ _ _ _ _; intro _))
      exact T_backX 3 (by omega) (by omega) (hG := Hle.tail _ _)
  · have hw1 := (wys_bd (grdOf c a b) 0 0).1
    repeat' (first | refine d1 ?_ | refine dd ?_ | (show T _ (.ops _ (_ :: _) :: _) _ _ _; first | refine T_call rfl rfl rfl rfl rfl (fun w hw => awake18_spec w (hst.cls hw)) ?_ | refine T_callC rfl rfl rfl rfl rfl rfl rfl (fun hg w hw => awake18_spec w (hst.cls hw)) ?_) | (show T _ (.run _ _ (_ :: _) _ _ :: _) _ _ _; first | refine rc rfl rfl rfl rfl rfl rfl rfl (fun w hw => awake18_spec w (hst.cls hw)) ?_ | refine rcG rfl rfl rfl rfl rfl rfl rfl rfl rfl (fun hg w hw => awake18_spec w (hst.cls hw)) ?_) | (show ∀ _ : Nat, T _ _ _ _ _; intro _) | (show T _ (.code .ret :: _) _ _ _; refine T_retV [] rfl (Hle.none _) ⟨congrArg Value.bool ?_, rfl⟩))
    simp [hw1]
theorem turned_met (os : Os) (args : Array Value) : laidMetH Tryz.prog Rows.pairwiseTurnedRow.laid ((World.doorLaid Tryz.prog 400 os).forCall (fun _ _ => 0) ⟨#[], args, []⟩).memory :=
  laidMetH_of_parts3 (fuel := 8) (laidMet_of_run' 8 (by kernel_rfl) (by kernel_rfl)) (by kernel_rfl) (by kernel_rfl)
theorem turned_lifted (os : Os) (started : os.Started) (H : Type) (enc : TypeId × Value → H) :
    ReturnsInHanded {} Tryz.checked os 6 .any (fun w args => (Rows.pairwiseTurnedSpec.pre enc Tryz.prog Tryz.f6 [] false w args ∧ laidMetH Tryz.prog Rows.pairwiseTurnedRow.laid w) ∧ sizedMet enc Tryz.prog Tryz.f6 (OpenSpec.ofChange Rows.pairwiseTurnedSpec) false w args)
      (Rows.pairwiseTurnedSpec.post enc Tryz.prog Tryz.f6 false true false false) := by
  refine returnsInHanded_of_change_and (C := Tryz.checked) (X := fun w _ => laidMetH Tryz.prog Rows.pairwiseTurnedRow.laid w) (fun _ _ _ hh h => h.of_heap hh) knob started (by kernel_rfl) Tryz.func6
    (ChangeSpec.witness_shaped (enc := enc) (C := Tryz.checked) (os := os) (X := fun w _ => laidMetH Tryz.prog Rows.pairwiseTurnedRow.laid w) false (World.doorLaid Tryz.prog 400 os) #[(⟨0, 0, 0, 0⟩ : Costs).val, .slice none 0 0, .slice none 0 0] 8 rfl (World.shaped_of_RefB (by kernel_rfl) (by kernel_rfl)) (by kernel_rfl) (by kernel_rfl) (by kernel_rfl) (turned_met os _)) ?_
  intro W base args ds gs before hval0 hW _ _ hL _
  have hval : ∀ (j : Nat) t v, Tryz.f6.params[j]? = some t → args[j]? = some v → Value.okWide Tryz.prog W .any base t v := hval0
  have hstd := std_of (show laidMetH Tryz.prog laids W from hL)
  have hW' := hW
  obtain ⟨p, q, hA0, hV, rfl, hfz, hnd⟩ := hW
  have hA : DataW.TrodAll enc Tryz.prog W 0 (fun _ => true) true Tryz.f6.params.toList args.toList ds p := hA0
  obtain ⟨v0, vs0, d0, ds0, p0, q0, e0, rfl, rfl, h0, hA⟩ := trodAll_cons hA
  obtain ⟨v1, vs1, d1, ds1, p1, q1, rfl, rfl, rfl, h1, hA⟩ := trodAll_cons hA
  obtain ⟨v2, vs2, d2, ds2, p2, q2, rfl, rfl, rfl, h2, hA⟩ := trodAll_cons hA
  obtain ⟨rfl, rfl, rfl⟩ := trodAll_nil hA
  have ea : args = #[v0, v1, v2] := Array.ext' e0
  subst ea
  obtain ⟨c, rfl⟩ := arg_costs (hval 0 _ v0 rfl rfl) h0
  obtain ⟨A_a, cap_a, a, rfl, hb_a, hs_a⟩ := arg_toks (hval 1 _ v1 rfl rfl) h1
  obtain ⟨A_b, cap_b, b, rfl, hb_b, hs_b⟩ := arg_toks (hval 2 _ v2 rfl rfl) h2
  refine (turnedLaw_spec c A_a A_b cap_a cap_b a b W hstd hs_a hb_a hs_b hb_b).calls.mono ?_
  rintro e W' ⟨v, A, rfl, ⟨rfl, _⟩, hb, _⟩
  exact ⟨_, rfl, law_post hW' rfl rfl laidOk (by intro t ht; simp only [show Tryz.f6.params.toList = [23, 24, 24] from rfl, List.mem_cons, List.mem_nil_iff, or_false] at ht; rcases ht with rfl | rfl | rfl <;> exact ⟨by kernel_rfl, of_decide_eq_true (by kernel_rfl)⟩) rfl Tryz.underlying4 hb⟩
theorem turned_holds : Rows.PairwiseTurnedSaid :=
  OpenClaim.holds_of_wide 6 Tryz.f6 rfl rfl rfl rfl rfl rfl rfl ⟨rfl, rfl, rfl, rfl, rfl⟩ rfl rfl rfl rfl rfl (by kernel_rfl) Tryz.func6 (by kernel_rfl)
    (of_decide_eq_true (by kernel_rfl)) (by unfold Func.isWrapper; first | (rw [if_pos (by decide +kernel)]; kernel_rfl) | (rw [if_neg (by decide +kernel)]; exact ⟨rfl, rfl⟩))
    (fun os started H enc _ => turned_lifted os started H enc)
theorem turned_card : Rows.PairwiseTurnedCardSaid :=
  Claim7.holds_tied_plain_at .later [] [.data, .data, .data, .sentinel, .sentinel] true (true, "eeeb7ba5f59194c4fb892d9bd69c6f4887df1c3fcf5c3cbcdfbc4827380e6da7") true
    turned_holds (fun _ h => by cases h) (by kernel_rfl) (fun _ h => by cases h) pairwiseTurned_row_tie rfl ⟨rfl, rfl⟩ (by kernel_rfl) rfl
    (fun f fn hf hfn => by
      obtain rfl : f = 6 := Option.some.inj ((show Tryz.prog.funcNamed "apograph/apographlaw18.PairwiseTurned" = some 6 by kernel_rfl).symm.trans hf) |>.symm
      obtain rfl : fn = Tryz.f6 := (Option.some.inj (Tryz.func6.symm.trans hfn)).symm
      exact ⟨by kernel_rfl, fun j t ht => by
        have ht' : [23, 24, 24][j]? = some t := by rw [Tryz.params6] at ht; simpa using ht
        have hm := List.mem_of_getElem? ht'
        simp only [List.mem_cons, List.mem_nil_iff, or_false] at hm
        rcases hm with rfl | rfl | rfl <;> exact (show Tryz.prog.wantsStandIn _ = false by kernel_rfl)⟩)
    (by kernel_rfl)
#print axioms turned_card
end Go.Proofs.YtmcgificpaeipaaGreatDoor
