/- Columns whose sources are exchanged; a further source: plain laws. No program in sight. -/
import Derived.Test.YtiglobijdegjdaaDoorSpecQ
namespace Go.Proofs.YtiglobijdegjdaaDoor

def sumI (g : Nat → Int) : List Nat → Int
  | [] => 0
  | x :: l => g x + sumI g l
theorem sumI_perm {g : Nat → Int} {l m : List Nat} (h : l.Perm m) : sumI g l = sumI g m := by
  induction h with
  | nil => rfl
  | cons x _ ih => unfold sumI; rw [ih]
  | swap x y l => unfold sumI; unfold sumI; omega
  | trans _ _ h1 h2 => rw [h1, h2]
theorem sumI_snoc (g : Nat → Int) (x : Nat) : ∀ l : List Nat, sumI g (l ++ [x]) = sumI g l + g x
  | [] => by simp [sumI]
  | y :: l => by
    rw [List.cons_append]
    unfold sumI
    rw [sumI_snoc g x l]; omega
theorem sumI_map (g : Nat → Int) (s : Nat → Nat) : ∀ l : List Nat, sumI g (l.map s) = sumI (fun x => g (s x)) l
  | [] => rfl
  | y :: l => by rw [List.map_cons]; unfold sumI; rw [sumI_map g s l]
theorem sumI_congr {g h : Nat → Int} : ∀ {l : List Nat}, (∀ x ∈ l, g x = h x) → sumI g l = sumI h l
  | [], _ => rfl
  | y :: l, e => by unfold sumI; rw [e y (List.mem_cons_self ..), sumI_congr (l := l) fun x hx => e x (List.mem_cons_of_mem _ hx)]
/-- The sum over all pairs of a list. -/
def pS (g : Nat → Nat → Int) : List Nat → Int
  | [] => 0
  | a :: l => sumI (fun y => g y a) l + pS g l
theorem pS_perm {g : Nat → Nat → Int} (hg : ∀ i k, g i k = g k i) {l m : List Nat} (h : l.Perm m) : pS g l = pS g m := by
  induction h with
  | nil => rfl
  | cons x hp ih => unfold pS; rw [ih, sumI_perm hp]
  | swap x y l =>
    simp only [pS, sumI]
    rw [hg x y]; omega
  | trans _ _ h1 h2 => rw [h1, h2]
theorem pS_map (g : Nat → Nat → Int) (s : Nat → Nat) : ∀ l : List Nat, pS g (l.map s) = pS (fun x y => g (s x) (s y)) l
  | [] => rfl
  | y :: l => by rw [List.map_cons]; unfold pS; rw [pS_map g s l, sumI_map]
theorem psum_append (f : Nat → Nat → Int) (ps : List (Nat × Nat)) : ∀ qs : List (Nat × Nat), psum f (ps ++ qs) = psum f ps + psum f qs := by
  intro qs
  unfold psum
  rw [List.foldl_append]
  generalize List.foldl (fun s p => s + f p.1 p.2) 0 ps = z
  have key : ∀ (qs : List (Nat × Nat)) (z : Int), qs.foldl (fun s p => s + f p.1 p.2) z = z + qs.foldl (fun s p => s + f p.1 p.2) 0 := by
    intro qs
    induction qs with
    | nil => intro z; simp
    | cons q qs ih => intro z; simp only [List.foldl_cons]; rw [ih, ih (0 + f q.1 q.2)]; omega
  exact key qs z
theorem psum_rowP (f : Nat → Nat → Int) (k : Nat) : ∀ i, psum f (rowP i k) = sumI (fun q => f q k) (List.range i).reverse
  | 0 => rfl
  | i + 1 => by
    rw [rowP_succ, psum_snoc, psum_rowP f k i, List.range_succ, List.reverse_append, List.reverse_singleton, List.singleton_append]
    simp only [sumI]
    omega
theorem psum_pS (f : Nat → Nat → Int) : ∀ n, psum f (pairsL n) = pS f (List.range n).reverse
  | 0 => rfl
  | n + 1 => by
    rw [pairsL_succ, psum_append, psum_pS f n, psum_rowP, List.range_succ, List.reverse_append, List.reverse_singleton, List.singleton_append]
    simp only [pS]
    omega
/-- Two places exchanged. -/
def swp (x y i : Nat) : Nat := if i = x then y else if i = y then x else i
theorem swp_swp (x y i : Nat) : swp x y (swp x y i) = i := by unfold swp; (repeat' split) <;> omega
theorem swp_lt {x y i n : Nat} (hx : x < n) (hy : y < n) (hi : i < n) : swp x y i < n := by unfold swp; (repeat' split) <;> omega
theorem swp_perm {x y n : Nat} (hx : x < n) (hy : y < n) : ((List.range n).map (swp x y)).Perm (List.range n) := by
  refine (List.perm_ext_iff_of_nodup ?_ List.nodup_range).2 fun a => ?_
  · rw [List.Nodup, List.pairwise_map]
    refine List.nodup_range.imp fun {a b} h e => h ?_
    rw [← swp_swp x y a, e, swp_swp]
  · rw [List.mem_map, List.mem_range]
    constructor
    · rintro ⟨i, hi, rfl⟩; exact swp_lt hx hy (List.mem_range.1 hi)
    · intro h; exact ⟨swp x y a, List.mem_range.2 (swp_lt hx hy h), swp_swp x y a⟩
theorem pS_congr {g h : Nat → Nat → Int} : ∀ {l : List Nat}, (∀ x ∈ l, ∀ y ∈ l, g x y = h x y) → pS g l = pS h l
  | [], _ => rfl
  | a :: l, e => by
    unfold pS
    rw [pS_congr (l := l) fun x hx y hy => e x (List.mem_cons_of_mem _ hx) y (List.mem_cons_of_mem _ hy), sumI_congr (h := fun y => h y a) fun x hx => e x (List.mem_cons_of_mem _ hx) a (List.mem_cons_self ..)]
theorem psum_swp {f g : Nat → Nat → Int} {n x y : Nat} (hf : ∀ i k, f i k = f k i) (hx : x < n) (hy : y < n) (h : ∀ i k, i < n → k < n → g i k = f (swp x y i) (swp x y k)) : psum g (pairsL n) = psum f (pairsL n) := by
  rw [psum_pS, psum_pS, pS_congr (h := fun i k => f (swp x y i) (swp x y k)), ← pS_map, List.map_reverse]
  · refine pS_perm hf ?_
    exact (List.reverse_perm _).trans ((swp_perm hx hy).trans (List.reverse_perm _).symm)
  · intro i hi k hk
    rw [List.mem_reverse, List.mem_range] at hi hk
    exact h i k hi hk
theorem cellC_swap (c : Costs) (l : List Tok) (b : List Bool) (i k : Nat) : cellC c l b i k = cellC c l b k i := by
  unfold cellC
  rw [Bool.and_comm (thA b i), pairC_swap]
  cases thA b i <;> cases thA b k <;> simp
/-- The exchange of two entries. -/
def swpL {α : Type} (l : List α) (x y : Nat) (d : α) : List α := (l.set x (l.getD y d)).set y (l.getD x d)
theorem swpL_length {α : Type} (l : List α) (x y : Nat) (d : α) : (swpL l x y d).length = l.length := by simp [swpL]
theorem swpL_get {α : Type} {l : List α} {x y i : Nat} {d : α} (hx : x < l.length) (hy : y < l.length) (hi : i < l.length) : (swpL l x y d).getD i d = l.getD (swp x y i) d := by
  unfold swpL swp
  simp only [List.getD_eq_getElem?_getD, List.getElem?_set, List.length_set]
  by_cases h1 : y = i
  · subst h1
    rw [if_pos rfl, if_pos hy]
    by_cases h2 : y = x
    · subst h2; simp [hy]
    · rw [if_neg h2]; simp
  · rw [if_neg h1]
    by_cases h2 : x = i
    · subst h2
      rw [if_pos rfl, if_pos hx, if_pos rfl]; simp
    · rw [if_neg h2, if_neg (Ne.symm h2), if_neg (Ne.symm h1)]
theorem column_swp (c : Costs) (l : List Tok) (b : List Bool) (n x y : Nat) (hl : l.length = n) (hb : b.length = n) (hx : x < n) (hy : y < n) :
    psum (cellC c (swpL l x y noTok) (swpL b x y false)) (pairsL n) = psum (cellC c l b) (pairsL n) := by
  refine psum_swp (cellC_swap c l b) hx hy fun i k hi hk => ?_
  unfold cellC tkA thA
  rw [swpL_get (by omega) (by omega) (by omega), swpL_get (by omega) (by omega) (by omega), swpL_get (by omega) (by omega) (by omega), swpL_get (by omega) (by omega) (by omega)]
/-- The gaps beside the tokens that are there. -/
def gapsC (c : Costs) (l : List Tok) (b : List Bool) : Nat → Int
  | 0 => 0
  | i + 1 => gapsC c l b i + if thA b i then gapC c (tkA l i) else 0
theorem tkA_left {l m : List Tok} {i : Nat} (h : i < l.length) : tkA (l ++ m) i = tkA l i := by unfold tkA; rw [List.getD_eq_getElem?_getD, List.getElem?_append_left h, ← List.getD_eq_getElem?_getD]
theorem thA_left {l m : List Bool} {i : Nat} (h : i < l.length) : thA (l ++ m) i = thA l i := by unfold thA; rw [List.getD_eq_getElem?_getD, List.getElem?_append_left h, ← List.getD_eq_getElem?_getD]
theorem thA_out (l : List Bool) : thA (l ++ [false]) l.length = false := by unfold thA; simp
theorem psum_congr {f g : Nat → Nat → Int} {n : Nat} (h : ∀ i k, i < n → k < n → f i k = g i k) : psum f (pairsL n) = psum g (pairsL n) := by
  rw [psum_pS, psum_pS]
  refine pS_congr fun i hi k hk => ?_
  rw [List.mem_reverse, List.mem_range] at hi hk
  exact h i k hi hk
theorem column_more (c : Costs) (l : List Tok) (b : List Bool) (n : Nat) (hl : l.length = n) (hb : b.length = n) :
    psum (cellC c (l ++ [noTok]) (b ++ [false])) (pairsL (n + 1)) = psum (cellC c l b) (pairsL n) + gapsC c l b n := by
  rw [pairsL_succ, psum_append, psum_congr (g := cellC c l b), psum_rowP]
  · congr 1
    have key : ∀ i, i ≤ n → sumI (fun q => cellC c (l ++ [noTok]) (b ++ [false]) q n) (List.range i).reverse = gapsC c l b i := by
      intro i
      induction i with
      | zero => intro _; rfl
      | succ i ih =>
        intro hi
        rw [List.range_succ, List.reverse_append, List.reverse_singleton, List.singleton_append]
        simp only [sumI, gapsC]
        rw [ih (by omega)]
        have : cellC c (l ++ [noTok]) (b ++ [false]) i n = if thA b i then gapC c (tkA l i) else 0 := by
          unfold cellC
          rw [← hb, thA_out, thA_left (by omega), tkA_left (by omega)]
          cases thA b i <;> simp
        omega
    exact key n (Nat.le_refl _)
  · intro i k hi hk
    unfold cellC
    rw [thA_left (by omega), thA_left (by omega), tkA_left (by omega), tkA_left (by omega)]
theorem gapsC_bd {c : Costs} (hc : costE c = 0) (l : List Tok) (b : List Bool) : ∀ i, 0 ≤ gapsC c l b i ∧ gapsC c l b i ≤ 1000 * i
  | 0 => by simp [gapsC]
  | i + 1 => by
    have h1 := gapsC_bd hc l b i
    have h2 := gapC_bd hc (tkA l i)
    have h3 := costE_ok hc
    unfold gapsC
    split <;> omega
theorem flat_set {α : Type} (cells : α → List Value) (sz : Nat) (hsz : ∀ t, (cells t).length = sz) : ∀ (l : List α) (i : Nat) (t : α), i < l.length → setL (l.flatMap cells) (i * sz) (cells t) = (l.set i t).flatMap cells
  | [], i, t, h => by simp at h
  | x :: l, 0, t, h => by
    rw [List.set_cons_zero, List.flatMap_cons, List.flatMap_cons, Nat.zero_mul]
    have key : ∀ (us xs ys zs : List Value), us.length = xs.length → setL (zs ++ xs ++ ys) zs.length us = zs ++ us ++ ys := by
      intro us
      induction us with
      | nil =>
        intro xs ys zs h
        have e : xs = [] := List.eq_nil_of_length_eq_zero (by simpa using h.symm)
        subst e; simp [setL]
      | cons u us ih =>
        intro xs ys zs h
        obtain ⟨x, xs, rfl⟩ : ∃ y ys, xs = y :: ys := by cases xs with | nil => simp at h | cons y ys => exact ⟨y, ys, rfl⟩
        simp only [setL]
        have e : (zs ++ x :: xs ++ ys).set zs.length u = (zs ++ [u]) ++ xs ++ ys := by
          rw [List.append_assoc, List.set_append_right _ _ (Nat.le_refl _), Nat.sub_self]; simp
        rw [e, show zs.length + 1 = (zs ++ [u]).length by simp, ih xs ys (zs ++ [u]) (by simpa using h)]
        simp
    have := key (cells t) (cells x) (l.flatMap cells) [] (by rw [hsz, hsz])
    simpa using this
  | x :: l, i + 1, t, h => by
    rw [List.set_cons_succ, List.flatMap_cons, List.flatMap_cons, ← flat_set cells sz hsz l i t (by simpa using h)]
    have key : ∀ (us xs ys : List Value) (k : Nat), setL (xs ++ ys) (xs.length + k) us = xs ++ setL ys k us := by
      intro us
      induction us with
      | nil => intro xs ys k; rfl
      | cons u us ih =>
        intro xs ys k
        simp only [setL]
        rw [List.set_append_right _ _ (by omega), Nat.add_sub_cancel_left, Nat.add_assoc, ih]
    rw [← key, hsz, Nat.succ_mul, Nat.add_comm sz]
theorem flatTok_set (l : List Tok) (i : Nat) (t : Tok) (h : i < l.length) : setL (l.flatMap Tok.cells) (i * 6) t.cells = (l.set i t).flatMap Tok.cells := flat_set Tok.cells 6 (fun _ => rfl) l i t h
theorem map_set1 {α : Type} (f : α → Value) (l : List α) (i : Nat) (t : α) : setL (l.map f) (i * 1) [f t] = (l.set i t).map f := by
  simp only [setL]; rw [Nat.mul_one, List.map_set]
end Go.Proofs.YtiglobijdegjdaaDoor
