/- Tables of numbers, compared by the reference. -/
import Derived.Test.YtiglobijdegjdaaGreatDoorEngM
import Derived.Test.YtiglobijdegjdaaGreatDoorWalkB
namespace Go.Proofs.YtiglobijdegjdaaGreatDoor

theorem Rd.ints {w : World} {x : Value} {p : List Int} (h : Rd (wr w) [x] [intsD p]) : ∃ A cap, x = .slice A p.length cap ∧ p.length ≤ 9223372036854775807 ∧ Src w 1 A p.length (p.map (Value.int .i64)) := by
  have h' : Rd (wr w) [x] [.s 1 ((p.map (Value.int .i64)).map .v)] := by rw [List.map_map]; exact h
  obtain ⟨A, n, cap, rfl, h1, h2, h3, h4⟩ := h'.srcV
  have e : n = p.length := by simpa using h1.symm
  subst e
  exact ⟨A, cap, rfl, by omega, h4⟩
theorem list_eq_of {α : Type} {p q : List α} (hl : p.length = q.length) (h : ∀ j, j < p.length → p[j]? = q[j]?) : p = q :=
  List.ext_getElem? fun j => by
    rcases Nat.lt_or_ge j p.length with h1 | h1
    · exact h j h1
    · rw [List.getElem?_eq_none h1, List.getElem?_eq_none (by omega)]
theorem sameInts_spec (x y : Value) (p q : List Int) (w : World) (hx : Rd (wr w) [x] [intsD p]) (hy : Rd (wr w) [y] [intsD q]) :
    Spec Tryz.prog 63 [x, y] w (fun v R => v = .bool (decide (p = q)) ∧ R = []) := by
  obtain ⟨A, ca, rfl, hnb, hl⟩ := hx.ints
  obtain ⟨B, cb, rfl, hmb, hb⟩ := hy.ints
  refine spec_of sg Tryz.func63 rfl rfl rfl ?_
  repeat' (first | refine d1 ?_ | refine dd ?_ | (show ∀ _ : Nat, T _ _ _ _ _; intro _))
  refine T_if rfl (fun h => ?_) (fun h => ?_)
  · simp only [Bool.not_eq_true', decide_eq_false_iff_not] at h
    repeat' (first | refine d1 ?_ | refine dd ?_ | (show ∀ _ : Nat, T _ _ _ _ _; intro _) | (show T _ (.code .ret :: _) _ _ _; refine T_retV [] rfl (Hle.none _) ⟨?_, rfl⟩))
    rw [decide_eq_false (fun e => h (by rw [e]))]; rfl
  simp only [Bool.not_eq_false', decide_eq_true_eq] at h
  repeat' (first | refine d1 ?_ | refine dd ?_ | (show ∀ _ : Nat, T _ _ _ _ _; intro _))
  refine T_loopX (fun k : Nat => [(5, .int .i64 k)]) (fun _ => []) (fun k => k ≤ p.length ∧ ∀ j, j < k → p[j]? = q[j]?) (fun k => p.length - k) 0 ⟨by omega, fun j h => by omega⟩ ?_
  rintro k ⟨hk, hok⟩
  repeat' (first | refine d1 ?_ | refine dd ?_ | (show ∀ _ : Nat, T _ _ _ _ _; intro _))
  refine T_if rfl (fun h3 => ?_) (fun h3 => ?_)
  · simp only [decide_eq_true_eq] at h3
    have hkn : k < p.length := by omega
    have hkq : k < q.length := by omega
    obtain ⟨ba, oa, rfl⟩ := hl.base (by omega)
    obtain ⟨bb, ob, rfl⟩ := hb.base (by omega)
    obtain ⟨u, hu⟩ : ∃ u, p[k]? = some u := ⟨_, List.getElem?_eq_getElem hkn⟩
    obtain ⟨v, hv⟩ : ∃ v, q[k]? = some v := ⟨_, List.getElem?_eq_getElem hkq⟩
    have hr1 : RdC w ba (oa + (k : Int).toNat * 1) [.int .i64 u] := (hl.get1 (by omega) (by rw [Int.toNat_natCast, List.getElem?_map, hu]; rfl)).2
    have hr2 : RdC w bb (ob + (k : Int).toNat * 1) [.int .i64 v] := (hb.get1 (by omega) (by rw [Int.toNat_natCast, List.getElem?_map, hv]; rfl)).2
    repeat' (first | refine d1 ?_ | refine dd ?_ | (show ∀ _ : Nat, T _ _ _ _ _; intro _))
    refine T_if rfl (fun h4 => ?_) (fun h4 => ?_)
    · simp only [Bool.not_eq_true', decide_eq_false_iff_not] at h4
      repeat' (first | refine d1 ?_ | refine dd ?_ | (show ∀ _ : Nat, T _ _ _ _ _; intro _) | (show T _ (.code .ret :: _) _ _ _; refine T_retV [] rfl (Hle.none _) ⟨?_, rfl⟩))
      rw [decide_eq_false (fun e => h4 (by rw [e, hv] at hu; exact (Option.some.inj hu).symm))]; rfl
    · simp only [Bool.not_eq_false', decide_eq_true_eq] at h4
      repeat' (first | refine d1 ?_ | refine dd ?_ | (show ∀ _ : Nat, T _ _ _ _ _; intro _))
      refine T_backX (k + 1) ⟨by omega, fun j hj => ?_⟩ (by omega)
      rcases Nat.lt_or_ge j k with h5 | h5
      · exact hok j h5
      · rw [show j = k by omega, hu, hv, h4]
  · simp only [decide_eq_false_iff_not] at h3
    repeat' (first | refine d1 ?_ | refine dd ?_ | (show ∀ _ : Nat, T _ _ _ _ _; intro _) | (show T _ (.code .ret :: _) _ _ _; refine T_retV [] rfl (Hle.none _) ⟨?_, rfl⟩))
    rw [decide_eq_true (list_eq_of (by omega) fun j hj => hok j (by omega))]; rfl
theorem sameTable_spec (x y : Value) (a b : List (List Int)) (w : World) (hx : Rd (wr w) [x] [rowsD a]) (hy : Rd (wr w) [y] [rowsD b]) :
    Spec Tryz.prog 20 [x, y] w (fun v R => v = .bool (decide (a = b)) ∧ R = []) := by
  obtain ⟨A, n, ca, cs, rfl, hn, hnc, hnb, hl, hcs⟩ := hx.src
  obtain ⟨B, m, cb, ds, rfl, hm, hmc, hmb, hb, hds⟩ := hy.src
  simp only [List.length_map, Nat.mul_one] at hn hm
  refine spec_of sg Tryz.func20 rfl rfl rfl ?_
  repeat' (first | refine d1 ?_ | refine dd ?_ | (show ∀ _ : Nat, T _ _ _ _ _; intro _))
  refine T_if rfl (fun h => ?_) (fun h => ?_)
  · simp only [Bool.not_eq_true', decide_eq_false_iff_not] at h
    repeat' (first | refine d1 ?_ | refine dd ?_ | (show ∀ _ : Nat, T _ _ _ _ _; intro _) | (show T _ (.code .ret :: _) _ _ _; refine T_retV [] rfl (Hle.none _) ⟨?_, rfl⟩))
    rw [decide_eq_false (fun e => h (by rw [← hn, ← hm, e]))]; rfl
  simp only [Bool.not_eq_false', decide_eq_true_eq] at h
  repeat' (first | refine d1 ?_ | refine dd ?_ | (show ∀ _ : Nat, T _ _ _ _ _; intro _))
  refine T_loopX (fun k : Nat => [(5, .int .i64 k)]) (fun _ => []) (fun k => k ≤ n ∧ ∀ j, j < k → a[j]? = b[j]?) (fun k => n - k) 0 ⟨by omega, fun j h => by omega⟩ ?_
  rintro k ⟨hk, hok⟩
  repeat' (first | refine d1 ?_ | refine dd ?_ | (show ∀ _ : Nat, T _ _ _ _ _; intro _))
  refine T_if rfl (fun h3 => ?_) (fun h3 => ?_)
  · simp only [decide_eq_true_eq] at h3
    have hkn : k < a.length := by omega
    have hkq : k < b.length := by omega
    obtain ⟨ba, oa, rfl⟩ := hl.base (by omega)
    obtain ⟨bb, ob, rfl⟩ := hb.base (by omega)
    obtain ⟨p, hp⟩ : ∃ u, a[k]? = some u := ⟨_, List.getElem?_eq_getElem hkn⟩
    obtain ⟨q, hq⟩ : ∃ v, b[k]? = some v := ⟨_, List.getElem?_eq_getElem hkq⟩
    obtain ⟨u, hu, hru⟩ := hcs.get (i := k) (d := intsD p) (by rw [List.getElem?_map, hp]; rfl)
    obtain ⟨v, hv, hrv⟩ := hds.get (i := k) (d := intsD q) (by rw [List.getElem?_map, hq]; rfl)
    have hr1 : RdC w ba (oa + (k : Int).toNat * 1) [u] := (hl.get1 (by omega) hu).2
    have hr2 : RdC w bb (ob + (k : Int).toNat * 1) [v] := (hb.get1 (by omega) hv).2
    obtain ⟨Au, nu, cu, lu, rfl, -⟩ := hru.src
    obtain ⟨Av, nv, cv, lv', rfl, -⟩ := hrv.src
    repeat' (first | refine d1 ?_ | refine dd ?_ | (show T _ (.ops _ (_ :: _) :: _) _ _ _; first | refine T_call rfl rfl rfl rfl rfl (fun w hw => sameInts_spec _ _ p q w (hru.old ‹_›) (hrv.old ‹_›)) ?_ | refine T_callC rfl rfl rfl rfl rfl rfl rfl (fun hg w hw => sameInts_spec _ _ p q w (hru.old ‹_›) (hrv.old ‹_›)) ?_) | (show T _ (.run _ _ (_ :: _) _ _ :: _) _ _ _; first | refine rc rfl rfl rfl rfl rfl rfl rfl (fun w hw => sameInts_spec _ _ p q w (hru.old ‹_›) (hrv.old ‹_›)) ?_ | refine rcG rfl rfl rfl rfl rfl rfl rfl rfl rfl (fun hg w hw => sameInts_spec _ _ p q w (hru.old ‹_›) (hrv.old ‹_›)) ?_) | (show ∀ _ : Nat, T _ _ _ _ _; intro _))
    refine T_if rfl (fun h4 => ?_) (fun h4 => ?_)
    · simp only [Bool.not_eq_true', decide_eq_false_iff_not] at h4
      repeat' (first | refine d1 ?_ | refine dd ?_ | (show ∀ _ : Nat, T _ _ _ _ _; intro _) | (show T _ (.code .ret :: _) _ _ _; refine T_retV [] rfl (Hle.none _) ⟨?_, rfl⟩))
      rw [decide_eq_false (fun e => h4 (by rw [e, hq] at hp; exact (Option.some.inj hp).symm))]; rfl
    · simp only [Bool.not_eq_false', decide_eq_true_eq] at h4
      repeat' (first | refine d1 ?_ | refine dd ?_ | (show ∀ _ : Nat, T _ _ _ _ _; intro _))
      refine T_backX (k + 1) ⟨by omega, fun j hj => ?_⟩ (by omega)
      rcases Nat.lt_or_ge j k with h5 | h5
      · exact hok j h5
      · rw [show j = k by omega, hp, hq, h4]
  · simp only [decide_eq_false_iff_not] at h3
    repeat' (first | refine d1 ?_ | refine dd ?_ | (show ∀ _ : Nat, T _ _ _ _ _; intro _) | (show T _ (.code .ret :: _) _ _ _; refine T_retV [] rfl (Hle.none _) ⟨?_, rfl⟩))
    rw [decide_eq_true (list_eq_of (by omega) fun j hj => hok j (by omega))]; rfl
end Go.Proofs.YtiglobijdegjdaaGreatDoor
