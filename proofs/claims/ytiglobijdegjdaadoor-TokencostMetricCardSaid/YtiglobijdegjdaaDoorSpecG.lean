/- The distance of two sequences, by rows; costs of tokens: plain functions. No program in sight. -/
import Derived.Test.YtiglobijdegjdaaDoorSpecE
namespace Go.Proofs.YtiglobijdegjdaaDoor

def lvRow (e : Nat → Bool) (prev : Nat → Int) (i1 : Int) : Nat → Int
  | 0 => i1
  | j + 1 => min (min (prev (j + 1)) (lvRow e prev i1 j) + 1) (prev j + if e j then 0 else 1)
/-- The distance of the first i and the first j elements. -/
def lv (e : Nat → Nat → Bool) : Nat → Nat → Int
  | 0 => fun j => j
  | i + 1 => lvRow (e i) (lv e i) (i + 1)
theorem lv_zero (e : Nat → Nat → Bool) (j : Nat) : lv e 0 j = j := rfl
theorem lv_left (e : Nat → Nat → Bool) (i : Nat) : lv e (i + 1) 0 = (i : Int) + 1 := rfl
theorem lv_step (e : Nat → Nat → Bool) (i j : Nat) : lv e (i + 1) (j + 1) = min (min (lv e i (j + 1)) (lv e (i + 1) j) + 1) (lv e i j + if e i j then 0 else 1) := rfl
theorem lv_bd (e : Nat → Nat → Bool) : ∀ i j, 0 ≤ lv e i j ∧ lv e i j ≤ i + j
  | 0, j => by rw [lv_zero]; omega
  | i + 1, 0 => by rw [lv_left]; omega
  | i + 1, j + 1 => by
    have h1 := lv_bd e i (j + 1)
    have h2 := lv_bd e (i + 1) j
    have h3 := lv_bd e i j
    rw [lv_step]
    split <;> omega
termination_by i j => (i, j)
/-- Values of a row. -/
def valV (f : Nat → Int) (tot : Nat) : List Value := (List.range tot).map fun q => .int .i64 (f q)
def mx (f g : Nat → Int) (k q : Nat) : Int := if q < k then f q else g q
theorem valV_length (f : Nat → Int) (tot : Nat) : (valV f tot).length = tot := by simp [valV]
theorem valV_get {f : Nat → Int} {tot k : Nat} (h : k < tot) : (valV f tot)[k]? = some (.int .i64 (f k)) := by simp [valV, h]
theorem valV_set {f g : Nat → Int} {tot k : Nat} {x : Int} (hx : x = f k) : (valV (mx f g k) tot).set k (.int .i64 x) = valV (mx f g (k + 1)) tot := by
  subst hx
  apply List.ext_getElem?
  intro q
  rw [List.getElem?_set]
  by_cases hq : q < tot
  · rw [valV_get hq, valV_get hq, valV_length]
    by_cases e : k = q
    · subst e
      rw [if_pos rfl, if_pos hq]
      unfold mx
      rw [if_pos (by omega)]
    · rw [if_neg e]
      unfold mx
      by_cases h1 : q < k
      · rw [if_pos h1, if_pos (by omega)]
      · rw [if_neg h1, if_neg (by omega)]
  · rw [List.getElem?_eq_none (by rw [valV_length]; omega), List.getElem?_eq_none (by rw [valV_length]; omega), valV_length]
    split
    · rw [if_neg (by omega)]
    · rfl
theorem valV_mx_zero (f g : Nat → Int) (tot : Nat) : valV (mx f g 0) tot = valV g tot := by
  unfold valV mx; simp
theorem valV_mx_full (f g : Nat → Int) (tot k : Nat) (h : tot ≤ k) : valV (mx f g k) tot = valV f tot := by
  unfold valV mx
  apply List.map_congr_left
  intro q hq
  rw [if_pos (by have := List.mem_range.1 hq; omega)]
theorem valV_replicate (tot : Nat) : List.replicate tot (Value.int .i64 0) = valV (fun _ => 0) tot := by
  unfold valV
  rw [List.map_const']
  simp
theorem mx_lt {f g : Nat → Int} {k q : Nat} (h : q < k) : mx f g k q = f q := if_pos h
theorem mx_ge {f g : Nat → Int} {k q : Nat} (h : k ≤ q) : mx f g k q = g q := if_neg (by omega)
theorem vget {f : Nat → Int} {tot off : Nat} (k : Nat) (h : k < tot) (ho : off = k) : (valV f tot)[off]? = some (.int .i64 (f k)) := by rw [ho]; exact valV_get h
theorem vgetm {f g : Nat → Int} {tot off n : Nat} (k : Nat) (h : k < tot) (hk : k < n) (ho : off = k) : (valV (mx f g n) tot)[off]? = some (.int .i64 (f k)) := by rw [ho, valV_get h, mx_lt hk]
def strs (s : ByteArray) (n : Nat) : List Value := (List.range n).map fun j => .string (s.extract j (j + 1))
theorem strs_length (s : ByteArray) (n : Nat) : (strs s n).length = n := by simp [strs]
theorem strs_get {s : ByteArray} {n j : Nat} (h : j < n) : (strs s n)[j]? = some (.string (s.extract j (j + 1))) := by simp [strs, h]
theorem strs_succ (s : ByteArray) (n : Nat) : strs s (n + 1) = strs s n ++ [.string (s.extract n (n + 1))] := by simp [strs, List.range_succ]
theorem extract_one {s : ByteArray} {j : Nat} (h : j < s.size) : (s.extract j (j + 1)).data.toList = [byteAt s (j : Int)] := by
  rw [ByteArray.data_extract, Array.toList_extract, List.extract_eq_take_drop]
  have := byteAt_get s j h
  rw [List.drop_eq_getElem_cons (by simpa using h)]
  rw [List.getElem?_eq_getElem (by simpa using h)] at this
  rw [Option.some.inj this, show j + 1 - j = 1 by omega]
  rfl
theorem extract_eq {a b : ByteArray} {i j : Nat} (hi : i < a.size) (hj : j < b.size) : decide (a.extract i (i + 1) = b.extract j (j + 1)) = decide (((byteAt a (i : Int)).toNat : Int) = ((byteAt b (j : Int)).toNat : Int)) := by
  rw [decide_eq_decide]
  constructor
  · intro h
    have h2 := extract_one hi
    rw [h, extract_one hj] at h2
    injection h2 with h2
    rw [h2]
  · intro h
    have h3 : byteAt a (i : Int) = byteAt b (j : Int) := by
      apply UInt8.toNat_inj.1; omega
    have h2 := extract_one hi
    rw [h3, ← extract_one hj] at h2
    exact ByteArray.ext (Array.ext' h2)
end Go.Proofs.YtiglobijdegjdaaDoor
