/- Joined texts of this claim, part 2. -/
import Derived.Test.YtofikdpbagnjbaaGreatDoorJ1
set_option linter.unusedVariables false
set_option linter.unusedSimpArgs false
namespace Go.Proofs.YtofikdpbagnjbaaGreatDoor
open Go.RowKit Go.Shelf
set_option maxRecDepth 100000
set_option maxHeartbeats 1000000

def evYG (env : Env) (ec : EnvC) (G : GId) (o : Oper) : Option (Nat × List Value) :=
  match o.op with
  | .call { callee := .value x, args := xs, argTypes := _ } => match evX env ec G x, evL env ec G xs.toList with
    | some (.func (.yield l) fs cs), some vs => cond (fs.isEmpty && cs.isEmpty) (some (l, vs)) none
    | _, _ => none
  | _ => none
theorem evYG_spec {P : Program} {N : FK} {all : Array Oper} {env : Env} {ec : EnvC} {G : GId} {o : Oper} {a : Act} (ha : Agrees N all env ec a) (hG : Holds all a G) {l : Nat} {x : List Value}
    (h : evYG env ec G o = some (l, x)) {w : World} {r : Next} (hy : (Instr.yield l x.toArray).run P w = .ok r w) : (execOp a.eval o).run P w = .ok r w := by
  obtain ⟨dst, op, ty, pos, aft, gd⟩ := o
  unfold evYG at h
  dsimp only at h
  split at h
  · rename_i xo xa ts
    split at h
    · rename_i l' fs cs vs hx hvs
      cases hc : (fs.isEmpty && cs.isEmpty) with
      | false => rw [hc] at h; cases h
      | true =>
        rw [hc] at h
        cases h
        simp only [Bool.and_eq_true, Array.isEmpty_iff] at hc
        obtain ⟨rfl, rfl⟩ := hc
        have hx' := evX_spec ha hG hx
        have e1 := evL_spec ha hG hvs
        have e2 : xa.map a.eval = x.toArray := Array.ext' (by rw [Array.toList_map]; exact e1)
        simp only [execOp, resolve, e2, hx', Deferred.ofValue]
        simpa [invoke] using hy
    · cases h
  · cases h
theorem Holds.of1 {N : FK} {all : Array Oper} {env : Env} {ec : EnvC} {i s : Nat} {b p : Bool} (hs : dstL all i = some s) (hv : lookE env s = some (.bool b)) (hb : b = p) : ∀ a, Agrees N all env ec a → Holds all a [(i, p)] := by
  intro a ha x hx
  rw [List.mem_singleton] at hx
  subst hx
  subst hb
  have ht := ha.at_ s _ hv
  unfold yielded
  rw [← dstL_eq, hs]
  simp only [Option.bind_some]
  rw [Array.getD_eq_getD_getElem?] at ht
  cases hq : a.tmps[s]? with
  | none => rw [hq] at ht; simp [undef] at ht
  | some u => rw [hq] at ht; simp only [Option.getD_some] at ht; subst ht; rfl
theorem OpT.never {C : Cx} {all : Array Oper} {o : Oper} {env : Env} {ec : EnvC} {H : List HA} {d : Nat} {G : GId} {Φ : Env → EnvC → List HA → Prop} (v : Value) (hg : gOf all env ec o = some G) (hn : GP all env ec G → False) (hd : o.dst = some d) (hN : Nat.blt d C.N.n = true) (hs : safeC all d ec = true) (hsG : safeG all d G = true) (hl : lookE env d = none)
    (h : Φ env ((d, (G, v)) :: ec) H) : OpT C all o env ec H Φ := by
  intro a w ha hw K Q hK
  have hH : ¬ Holds all a G := fun hh => hn (hh.gp ha)
  refine ⟨fun hwn => absurd ((wanted_iff ha hg).1 hwn) hH, fun _ => ?_⟩
  rw [hd]
  exact hK _ _ _ _ _ h (ha.putC hN hs hsG hl (fun hh => absurd hh hH) (fun _ => rfl)) hw
end Go.Proofs.YtofikdpbagnjbaaGreatDoor
namespace Go.Proofs.YtofikdpbagnjbaaGreatDoor
open Go.RowKit Go.Shelf
set_option maxRecDepth 100000
set_option maxHeartbeats 1000000

def dfrs (l : List Nat) : List HA := l.map dfr
section
variable {S : Sig} {m : Nat} {w0 : World} {fn : Func} {Φ : Value → List HA → Prop} {k : List It} {env : Env} {ec : EnvC} {H : List HA}
theorem leaves_ds {a : Act} {H' : List HA} (h : ∀ w, Cls w0 w H' → LeavesInM (Fr none) 0 S.P fn a.tmps (Ret w0 Φ) [] .returning w) : ∀ (Dl : List Nat) (w : World), Cls w0 w (dfrs Dl ++ H') → LeavesInM (Fr none) 0 S.P fn a.tmps (Ret w0 Φ) (Dl.map mkD) .returning w
  | [], w, hw => h w hw
  | D :: Dl, w, hw => by
    have hc : Cls w0 w (dfr D :: (dfrs Dl ++ H')) := hw
    have hL := (hc.obj (i := 0) rfl).1
    have hc2 := (hc.putObj (i := 0) rfl (.deferred none)).le (Hle.tail _ _)
    exact ⟨(by intro h; cases h), .inl ⟨D, _, rfl, run_takeDeferred hL, leaves_ds h Dl _ hc2⟩⟩
theorem T_retDs {Dl : List Nat} (H' : List HA) (hl : Hle H (H' ++ dfrs Dl)) (h : ∀ a w, Agrees ⟨m, []⟩ #[] env [] a → Cls w0 w H' → RF S.P w0 fn Φ a w) : T (FC S m (Dl.map mkD) w0 fn Φ) (.code .ret :: k) env ec H :=
  T_ret fun a w ha hw => by
    show LeavesInM _ _ _ _ _ _ a.defers _ _
    rw [show a.defers = Dl.map mkD from ha.defers]
    refine leaves_ds (H' := H') (fun w' hw' => ?_) Dl w ((hw.le hl).le (Hle.comm _ _))
    exact h { a with defers := [] } w' ⟨rfl, ha.size, ha.at_, fun _ _ _ h => (by cases h), fun _ _ _ h => (by cases h)⟩ hw'
def BackD (m : Nat) (w0 : World) {σ : Type} (E : σ → Env) (G : σ → List HA) (Ds : σ → List Nat) (I : σ → Prop) (μ : σ → Nat) (s : σ) : Act → World → Prop :=
  fun a w => ∃ s', I s' ∧ μ s' < μ s ∧ Agrees ⟨m, (Ds s').map mkD⟩ #[] (E s') [] a ∧ Cls w0 w (G s' ++ dfrs (Ds s'))
theorem T_loopD {c : Code} {σ : Type} {Dl : List Nat} (E : σ → Env) (G : σ → List HA) (Ds : σ → List Nat) (I : σ → Prop) (μ : σ → Nat) (s0 : σ) (hI : I s0) (hD : Ds s0 = Dl) (hE : EnvLe (E s0) env) (hG : Hle H (G s0 ++ dfrs (Ds s0)))
    (hr : ∀ s, I s → T (FC S m ((Ds s).map mkD) w0 fn Φ) (nf 60 (.code c :: .mark (BackD m w0 E G Ds I μ s) :: k)) (E s) [] (G s ++ dfrs (Ds s))) : T (FC S m (Dl.map mkD) w0 fn Φ) (.code (.loop c) :: k) env ec H := by
  subst hD
  refine T.mk fun a w ha hw => ?_
  refine wpIn_loop_ghost (fun n a w => ∃ s, μ s = n ∧ I s ∧ Agrees ⟨m, (Ds s).map mkD⟩ #[] (E s) [] a ∧ Cls w0 w (G s ++ dfrs (Ds s))) (μ s0) ⟨s0, rfl, hI, ha.le hE, hw.le hG⟩ ?_
  rintro n a w ⟨s, rfl, hs, ha, hw⟩
  have h2 := nf_spec (hr s hs a w ha.plain hw)
  have e := sem_N (FC S m ((Ds s0).map mkD) w0 fn Φ) ⟨m, (Ds s).map mkD⟩ (.code c :: .mark (BackD m w0 E G Ds I μ s) :: k)
  have h3 : (sem (FC S m ((Ds s0).map mkD) w0 fn Φ) (.code c :: .mark (BackD m w0 E G Ds I μ s) :: k)).1 a w := by rw [← e]; exact h2
  simp only [sem] at h3
  refine wpIn_mono h3 fun e a w q => ?_
  cases e <;> first | exact q | exact q.elim | skip
  obtain ⟨s', h1, h2, h3, h4⟩ := q
  exact ⟨μ s', h2, s', rfl, h1, h3, h4⟩
theorem T_loopDX {c : Code} {σ : Type} {Dl : List Nat} {ks : List Nat} {env' : Env} (U : σ → Env) (G : σ → List HA) (Ds : σ → List Nat) (I : σ → Prop) (μ : σ → Nat) (s0 : σ) (hI : I s0) (hD : Ds s0 = Dl)
    (hr : ∀ s, I s → T (FC S m ((Ds s).map mkD) w0 fn Φ) (nf 60 (.code c :: .mark (BackD m w0 (fun s => U s ++ env') G Ds I μ s) :: k)) (U s ++ env') [] (G s ++ dfrs (Ds s)))
    (hks : (U s0).map Prod.fst = ks := by exact rfl)
    (hk : KeepX env ks env' := by repeat' (first | exact KeepX.nil _ | apply KeepX.drop rfl | apply KeepX.keep rfl))
    (hE : EnvLe (U s0) env := by repeat' (first | exact True.intro | refine And.intro rfl ?_)) (hG : Hle H (G s0 ++ dfrs (Ds s0)) := by exact Hle.refl _) : T (FC S m (Dl.map mkD) w0 fn Φ) (.code (.loop c) :: k) env ec H :=
  T_loopD (fun s => U s ++ env') G Ds I μ s0 hI hD (hE.append hk.le) hG hr
theorem T_backD {σ : Type} {U : σ → Env} {env' : Env} {G : σ → List HA} {Ds : σ → List Nat} {I : σ → Prop} {μ : σ → Nat} {s : σ} {ds : List Deferred} (s' : σ) (hI : I s') (hμ : μ s' < μ s) (hd : ds = (Ds s').map mkD)
    (hE : EnvLe (U s') env := by repeat' (first | exact True.intro | refine And.intro rfl ?_)) (hE2 : EnvLe env' env := by repeat' (first | exact True.intro | refine And.intro rfl ?_)) (hG : Hle H (G s' ++ dfrs (Ds s')) := by exact Hle.refl _) :
    T (FC S m ds w0 fn Φ) (.mark (BackD m w0 (fun s => U s ++ env') G Ds I μ s) :: k) env ec H := by
  subst hd
  exact T.mk fun _ _ ha hw => ⟨s', hI, hμ, ha.le (hE.append hE2), hw.le hG⟩
end
theorem Hle.srtT {A K : List HA} (T : List HA) (h : Pk A K := by repeat' (first | exact Pk.nil _ | apply Pk.cons | with_reducible exact Rm.here | ((with_reducible apply Rm.b); rfl) | ((with_reducible apply Rm.r) <;> rfl) | apply Rm.there)) : Hle (A ++ T) (K ++ T) := by
  obtain ⟨p, h1, h2⟩ := h.spec.at_
  have hp : ∀ i, i < K.length → p i < A.length := fun i hi => by
    have := h1 i K[i] (List.getElem?_eq_getElem hi)
    exact (List.getElem?_eq_some_iff.1 this).1
  refine Hle.pick (fun i => if i < K.length then p i else i - K.length + A.length) (fun i B hB => ?_) (fun i j hi hj hne => ?_)
  · by_cases hi : i < K.length
    · rw [List.getElem?_append_left hi] at hB
      rw [if_pos hi, List.getElem?_append_left (hp i hi)]
      exact h1 i B hB
    · rw [List.getElem?_append_right (by omega)] at hB
      rw [if_neg hi, List.getElem?_append_right (by omega), show i - K.length + A.length - A.length = i - K.length by omega]
      exact hB
  · by_cases hi : i < K.length
    · have := hp i hi
      by_cases hj : j < K.length
      · rw [if_pos hi, if_pos hj]; exact h2 i j hi hj hne
      · rw [if_pos hi, if_neg hj]; omega
    · by_cases hj : j < K.length
      · have := hp j hj
        rw [if_neg hi, if_pos hj]; omega
      · rw [if_neg hi, if_neg hj]; omega
end Go.Proofs.YtofikdpbagnjbaaGreatDoor
namespace Go.Proofs.YtofikdpbagnjbaaGreatDoor

theorem lv_swap (e : Nat → Nat → Bool) : ∀ i j, lv e i j = lv (fun p q => e q p) j i
  | 0, 0 => rfl
  | 0, j + 1 => by rw [lv_zero, lv_left]; omega
  | i + 1, 0 => by rw [lv_left, lv_zero]; omega
  | i + 1, j + 1 => by
    rw [lv_step, lv_step, lv_swap e i (j + 1), lv_swap e (i + 1) j, lv_swap e i j]
    have : min (lv (fun p q => e q p) (j + 1) i) (lv (fun p q => e q p) j (i + 1)) = min (lv (fun p q => e q p) j (i + 1)) (lv (fun p q => e q p) (j + 1) i) := by omega
    rw [this]
termination_by i j => (i, j)
theorem distS_swap (a b : ByteArray) : distS a b = distS b a := by
  unfold distS
  rw [lv_swap]
  congr 1
  funext p q
  unfold eqS
  rw [decide_eq_decide]; exact eq_comm
theorem distS_ge (a b : ByteArray) : 0 ≤ distS a b ∧ distS a b ≤ a.size + b.size := lv_bd _ _ _
theorem sym3 {α : Type} {a b : α} {p q : Prop} (h : a = b ∨ p ∨ q) : b = a ∨ q ∨ p := by
  rcases h with h | h | h
  · exact .inl h.symm
  · exact .inr (.inr h)
  · exact .inr (.inl h)
theorem pairC_swap (c : Costs) (a b : Tok) : pairC c a b = pairC c b a := by
  unfold pairC
  by_cases h1 : a.text = b.text
  · rw [if_pos h1, if_pos h1.symm]
  rw [if_neg h1, if_neg (Ne.symm h1)]
  by_cases h2 : a.norm = b.norm ∨ hasN a.flags 2 = true ∨ hasN b.flags 2 = true
  · rw [if_pos h2, if_pos (sym3 h2)]
  · rw [if_neg h2, if_neg (fun h => h2 (sym3 h)), distS_swap]
theorem pairC_bd {c : Costs} (hc : costE c = 0) (a b : Tok) : 0 ≤ pairC c a b ∧ pairC c a b ≤ c.most := by
  obtain ⟨c1, c2, c3, c4, c5⟩ := costE_ok hc
  have hd := (distS_ge a.norm b.norm).1
  have hm : 0 ≤ c.letter * distS a.norm b.norm := Int.mul_nonneg c3.1 hd
  unfold pairC
  (repeat' split) <;> omega
theorem gapC_bd {c : Costs} (hc : costE c = 0) (t : Tok) : 0 ≤ gapC c t ∧ gapC c t ≤ c.gap := by
  obtain ⟨c1, c2, c3, c4, c5⟩ := costE_ok hc
  unfold gapC
  split <;> omega
end Go.Proofs.YtofikdpbagnjbaaGreatDoor
namespace Go.Proofs.YtofikdpbagnjbaaGreatDoor

def noTok : Tok := ⟨.empty, .empty, .empty, 0, 0, .empty⟩
def tkA (l : List Tok) (i : Nat) : Tok := l.getD i noTok
def thA (b : List Bool) (i : Nat) : Bool := b.getD i false
theorem tkA_get {l : List Tok} {i : Nat} (h : i < l.length) : l[i]? = some (tkA l i) := by
  unfold tkA; rw [List.getD_eq_getElem?_getD, List.getElem?_eq_getElem h]; rfl
theorem thA_get {l : List Bool} {i : Nat} (h : i < l.length) : l[i]? = some (thA l i) := by
  unfold thA; rw [List.getD_eq_getElem?_getD, List.getElem?_eq_getElem h]; rfl
theorem tkA_mem {l : List Tok} {i : Nat} (h : i < l.length) : tkA l i ∈ l := List.mem_of_getElem? (tkA_get h)
def cellC (c : Costs) (l : List Tok) (b : List Bool) (i k : Nat) : Int :=
  if (thA b i && thA b k) = true then pairC c (tkA l i) (tkA l k) else if thA b i = true then gapC c (tkA l i) else if thA b k = true then gapC c (tkA l k) else 0
def pairsL (n : Nat) : List (Nat × Nat) := (List.range n).flatMap fun k => (List.range k).map fun i => (i, k)
def rowP (i k : Nat) : List (Nat × Nat) := (List.range i).map fun q => (q, k)
theorem pairsL_succ (k : Nat) : pairsL (k + 1) = pairsL k ++ rowP k k := by
  unfold pairsL rowP; rw [List.range_succ, List.flatMap_append]; simp
theorem rowP_succ (i k : Nat) : rowP (i + 1) k = rowP i k ++ [(i, k)] := by unfold rowP; rw [List.range_succ]; simp
theorem rowP_length (i k : Nat) : (rowP i k).length = i := by simp [rowP]
theorem rowP_get {i k n : Nat} (h : i < n) : (rowP n k)[i]? = some (i, k) := by unfold rowP; simp [h]
theorem pairsL_get {n k i : Nat} (hk : k < n) (hi : i < k) : (pairsL n)[(pairsL k).length + i]? = some (i, k) := by
  induction n with
  | zero => omega
  | succ n ih =>
    rw [pairsL_succ]
    rcases Nat.lt_or_ge k n with h | h
    · have := ih h
      rw [List.getElem?_append_left (List.getElem?_eq_some_iff.1 this).1]
      exact this
    · have e : k = n := by omega
      subst e
      rw [List.getElem?_append_right (by omega), Nat.add_sub_cancel_left]
      exact rowP_get hi
theorem pairsL_mem {n i k : Nat} : (i, k) ∈ pairsL n ↔ i < k ∧ k < n := by
  unfold pairsL
  simp only [List.mem_flatMap, List.mem_range, List.mem_map, Prod.mk.injEq]
  constructor
  · rintro ⟨a, ha, b, hb, rfl, rfl⟩; exact ⟨hb, ha⟩
  · rintro ⟨h1, h2⟩; exact ⟨k, h2, i, h1, rfl, rfl⟩
theorem pairsL_len (n : Nat) : (pairsL n).length ≤ n * n := by
  induction n with
  | zero => simp [pairsL]
  | succ n ih =>
    rw [pairsL_succ, List.length_append, rowP_length]
    have : (n + 1) * (n + 1) = n * n + 2 * n + 1 := by rw [Nat.add_mul, Nat.mul_add]; omega
    omega
def psum (f : Nat → Nat → Int) (ps : List (Nat × Nat)) : Int := ps.foldl (fun s p => s + f p.1 p.2) 0
theorem psum_snoc (f : Nat → Nat → Int) (ps : List (Nat × Nat)) (p : Nat × Nat) : psum f (ps ++ [p]) = psum f ps + f p.1 p.2 := by unfold psum; rw [List.foldl_append]; rfl
theorem psum_bd {f : Nat → Nat → Int} {M : Int} (hM : 0 ≤ M) (ps : List (Nat × Nat)) (h : ∀ p ∈ ps, 0 ≤ f p.1 p.2 ∧ f p.1 p.2 ≤ M) : 0 ≤ psum f ps ∧ psum f ps ≤ M * ps.length := by
  have key : ∀ (ps : List (Nat × Nat)) (s : Int), (∀ p ∈ ps, 0 ≤ f p.1 p.2 ∧ f p.1 p.2 ≤ M) → s ≤ ps.foldl (fun s p => s + f p.1 p.2) s ∧ ps.foldl (fun s p => s + f p.1 p.2) s ≤ s + M * ps.length := by
    intro ps
    induction ps with
    | nil => intro s _; simp
    | cons p ps ih =>
      intro s h
      have h1 := ih (s + f p.1 p.2) (fun q hq => h q (List.mem_cons_of_mem _ hq))
      have h2 := h p (List.mem_cons_self ..)
      simp only [List.foldl_cons, List.length_cons]
      have : M * ((ps.length : Int) + 1) = M * ps.length + M := by rw [Int.mul_add, Int.mul_one]
      push_cast
      omega
  have := key ps 0 h
  unfold psum
  omega
def badCol (l : List Tok) (b : List Bool) : Bool := (List.range l.length).any fun j => thA b j && !decide (tokE (tkA l j) = 0)
theorem badCol_true {l : List Tok} {b : List Bool} {j : Nat} (hj : j < l.length) (h1 : thA b j = true) (h2 : tokE (tkA l j) ≠ 0) : badCol l b = true := by
  unfold badCol
  rw [List.any_eq_true]
  exact ⟨j, List.mem_range.2 hj, by simp [h1, h2]⟩
theorem badCol_false {l : List Tok} {b : List Bool} (h : ∀ j, j < l.length → thA b j = true → tokE (tkA l j) = 0) : badCol l b = false := by
  unfold badCol
  rw [List.any_eq_false]
  intro j hj hh
  simp only [Bool.and_eq_true, Bool.not_eq_true', decide_eq_false_iff_not] at hh
  exact hh.2 (h j (List.mem_range.1 hj) hh.1)
def columnV (c : Costs) (l : List Tok) (b : List Bool) : Int × Int :=
  if costE c ≠ 0 then (0, 1) else if l.length ≠ b.length then (0, 9) else if 32 < l.length then (0, 4) else if badCol l b = true then (0, 1) else (psum (cellC c l b) (pairsL l.length), 0)
theorem cellC_bd {c : Costs} (hc : costE c = 0) (l : List Tok) (b : List Bool) (i k : Nat) : 0 ≤ cellC c l b i k ∧ cellC c l b i k ≤ 1000 := by
  obtain ⟨c1, c2, c3, c4, c5⟩ := costE_ok hc
  have h1 := pairC_bd hc (tkA l i) (tkA l k)
  have h2 := gapC_bd hc (tkA l i)
  have h3 := gapC_bd hc (tkA l k)
  unfold cellC
  (repeat' split) <;> omega
theorem psum_cell {c : Costs} (hc : costE c = 0) (l : List Tok) (b : List Bool) (ps : List (Nat × Nat)) : 0 ≤ psum (cellC c l b) ps ∧ psum (cellC c l b) ps ≤ 1000 * ps.length := psum_bd (by omega) ps fun p _ => cellC_bd hc l b p.1 p.2

end Go.Proofs.YtofikdpbagnjbaaGreatDoor
namespace Go.Proofs.YtofikdpbagnjbaaGreatDoor

theorem valV_put (f : Nat → Int) (tot k : Nat) (x : Int) : (valV f tot).set k (.int .i64 x) = valV (fun q => if q = k then x else f q) tot := by
  apply List.ext_getElem?
  intro q
  rw [List.getElem?_set]
  by_cases hq : q < tot
  · rw [valV_get hq, valV_get hq, valV_length]
    by_cases e : k = q
    · rw [if_pos e, if_pos (by omega), if_pos e.symm]
    · rw [if_neg e, if_neg (Ne.symm e)]
  · rw [List.getElem?_eq_none (by rw [valV_length]; omega), List.getElem?_eq_none (by rw [valV_length]; omega), valV_length]
    split
    · rw [if_neg (by omega)]
    · rfl
theorem valV_ext {f g : Nat → Int} {tot : Nat} (h : ∀ q, q < tot → f q = g q) : valV f tot = valV g tot := by
  unfold valV
  apply List.map_congr_left
  intro q hq
  rw [h q (List.mem_range.1 hq)]
theorem set_boundary {α : Type} (A : List α) (m k : Nat) (z x : α) (hm : 0 < m) (hk : k = A.length) : (A ++ List.replicate m z).set k x = (A ++ [x]) ++ List.replicate (m - 1) z := by
  subst hk
  obtain ⟨m, rfl⟩ : ∃ m', m = m' + 1 := ⟨m - 1, by omega⟩
  rw [List.set_append_right _ _ (Nat.le_refl _), Nat.sub_self, List.replicate_succ, List.set_cons_zero, Nat.add_sub_cancel]
  simp
def RowsOk (f : Nat → Nat → Int) (tot : Nat) (L : List (Nat × List Value)) : Prop := ∀ (i : Nat) x, L[i]? = some x → x.2 = valV (f i) tot
end Go.Proofs.YtofikdpbagnjbaaGreatDoor
namespace Go.Proofs.YtofikdpbagnjbaaGreatDoor

end Go.Proofs.YtofikdpbagnjbaaGreatDoor
namespace Go.Proofs.YtofikdpbagnjbaaGreatDoor

structure Grd where
  n : Nat
  m : Nat
  p : Nat → Nat → Int
  g : Nat → Int
  h : Nat → Int
structure Mv where
  fst : Nat
  snd : Nat
  cost : Int
@[reducible] def Mv.cells (x : Mv) : List Value := [.int .i64 (x.fst : Nat), .int .i64 (x.snd : Nat), .int .i64 x.cost]
def mvs (G : Grd) (i k : Nat) : List Mv :=
  (if i < G.n ∧ k < G.m then [⟨1, 1, G.p i k⟩] else []) ++ ((if i < G.n then [⟨1, 0, G.g i⟩] else []) ++ (if k < G.m then [⟨0, 1, G.h k⟩] else []))
theorem mvs_both {G : Grd} {i k : Nat} (hi : i < G.n) (hk : k < G.m) : mvs G i k = [⟨1, 1, G.p i k⟩, ⟨1, 0, G.g i⟩, ⟨0, 1, G.h k⟩] := by unfold mvs; rw [if_pos ⟨hi, hk⟩, if_pos hi, if_pos hk]; rfl
theorem mvs_fst {G : Grd} {i k : Nat} (hi : i < G.n) (hk : ¬ k < G.m) : mvs G i k = [⟨1, 0, G.g i⟩] := by unfold mvs; rw [if_neg (fun h => hk h.2), if_pos hi, if_neg hk]; rfl
theorem mvs_snd {G : Grd} {i k : Nat} (hi : ¬ i < G.n) (hk : k < G.m) : mvs G i k = [⟨0, 1, G.h k⟩] := by unfold mvs; rw [if_neg (fun h => hi h.1), if_neg hi, if_pos hk]; rfl
theorem mvs_none {G : Grd} {i k : Nat} (hi : ¬ i < G.n) (hk : ¬ k < G.m) : mvs G i k = [] := by unfold mvs; rw [if_neg (fun h => hi h.1), if_neg hi, if_neg hk]; rfl
theorem mvs_to {G : Grd} {i k : Nat} {x : Mv} (h : x ∈ mvs G i k) : (x.fst = 1 ∧ x.snd = 1 ∧ i < G.n ∧ k < G.m ∧ x.cost = G.p i k) ∨ (x.fst = 1 ∧ x.snd = 0 ∧ i < G.n ∧ x.cost = G.g i) ∨ (x.fst = 0 ∧ x.snd = 1 ∧ k < G.m ∧ x.cost = G.h k) := by
  unfold mvs at h
  simp only [List.mem_append] at h
  rcases h with h | h | h
  · split at h
    · rename_i hh; simp at h; subst h; exact .inl ⟨rfl, rfl, hh.1, hh.2, rfl⟩
    · simp at h
  · split at h
    · rename_i hh; simp at h; subst h; exact .inr (.inl ⟨rfl, rfl, hh, rfl⟩)
    · simp at h
  · split at h
    · rename_i hh; simp at h; subst h; exact .inr (.inr ⟨rfl, rfl, hh, rfl⟩)
    · simp at h
def rst (G : Grd) (i k : Nat) : Int :=
  if _ : i < G.n ∧ k < G.m then min (min (G.p i k + rst G (i + 1) (k + 1)) (G.g i + rst G (i + 1) k)) (G.h k + rst G i (k + 1))
  else if _ : i < G.n then G.g i + rst G (i + 1) k
  else if _ : k < G.m then G.h k + rst G i (k + 1)
  else 0
termination_by (G.n - i) + (G.m - k)
theorem rst_both {G : Grd} {i k : Nat} (hi : i < G.n) (hk : k < G.m) : rst G i k = min (min (G.p i k + rst G (i + 1) (k + 1)) (G.g i + rst G (i + 1) k)) (G.h k + rst G i (k + 1)) := by
  rw [rst, dif_pos ⟨hi, hk⟩]
theorem rst_fst {G : Grd} {i k : Nat} (hi : i < G.n) (hk : ¬ k < G.m) : rst G i k = G.g i + rst G (i + 1) k := by rw [rst, dif_neg (fun h => hk h.2), dif_pos hi]
theorem rst_snd {G : Grd} {i k : Nat} (hi : ¬ i < G.n) (hk : k < G.m) : rst G i k = G.h k + rst G i (k + 1) := by rw [rst, dif_neg (fun h => hi h.1), dif_neg hi, dif_pos hk]
theorem rst_none {G : Grd} {i k : Nat} (hi : ¬ i < G.n) (hk : ¬ k < G.m) : rst G i k = 0 := by rw [rst, dif_neg (fun h => hi h.1), dif_neg hi, dif_neg hk]
def via (G : Grd) (i k : Nat) (x : Mv) : Int := x.cost + rst G (i + x.fst) (k + x.snd)
def big : Int := 1073741824
def addW (t s x w : Int) : Int := if x = t then min big (s + w) else s
def wys (G : Grd) (i k : Nat) : Int :=
  if _ : i < G.n ∧ k < G.m then
    addW (rst G i k) (addW (rst G i k) (addW (rst G i k) 0 (G.p i k + rst G (i + 1) (k + 1)) (wys G (i + 1) (k + 1))) (G.g i + rst G (i + 1) k) (wys G (i + 1) k)) (G.h k + rst G i (k + 1)) (wys G i (k + 1))
  else if _ : i < G.n then addW (rst G i k) 0 (G.g i + rst G (i + 1) k) (wys G (i + 1) k)
  else if _ : k < G.m then addW (rst G i k) 0 (G.h k + rst G i (k + 1)) (wys G i (k + 1))
  else 1
termination_by (G.n - i) + (G.m - k)
theorem wys_both {G : Grd} {i k : Nat} (hi : i < G.n) (hk : k < G.m) : wys G i k = addW (rst G i k) (addW (rst G i k) (addW (rst G i k) 0 (G.p i k + rst G (i + 1) (k + 1)) (wys G (i + 1) (k + 1))) (G.g i + rst G (i + 1) k) (wys G (i + 1) k)) (G.h k + rst G i (k + 1)) (wys G i (k + 1)) := by
  rw [wys, dif_pos ⟨hi, hk⟩]
theorem wys_fst {G : Grd} {i k : Nat} (hi : i < G.n) (hk : ¬ k < G.m) : wys G i k = addW (rst G i k) 0 (G.g i + rst G (i + 1) k) (wys G (i + 1) k) := by rw [wys, dif_neg (fun h => hk h.2), dif_pos hi]
theorem wys_snd {G : Grd} {i k : Nat} (hi : ¬ i < G.n) (hk : k < G.m) : wys G i k = addW (rst G i k) 0 (G.h k + rst G i (k + 1)) (wys G i (k + 1)) := by rw [wys, dif_neg (fun h => hi h.1), dif_neg hi, dif_pos hk]
theorem wys_none {G : Grd} {i k : Nat} (hi : ¬ i < G.n) (hk : ¬ k < G.m) : wys G i k = 1 := by rw [wys, dif_neg (fun h => hi h.1), dif_neg hi, dif_neg hk]
theorem grd_ind (G : Grd) {P : Nat → Nat → Prop} (h : ∀ i k, (i < G.n → P (i + 1) k) → (k < G.m → P i (k + 1)) → (i < G.n → k < G.m → P (i + 1) (k + 1)) → P i k) (i k : Nat) : P i k := by
  have key : ∀ d i k, (G.n - i) + (G.m - k) ≤ d → P i k := by
    intro d
    induction d with
    | zero => intro i k hd; exact h i k (fun h => by omega) (fun h => by omega) (fun h => by omega)
    | succ d ih => intro i k hd; exact h i k (fun h => ih _ _ (by omega)) (fun h => ih _ _ (by omega)) (fun h h2 => ih _ _ (by omega))
  exact key _ i k (Nat.le_refl _)
structure GOk (G : Grd) (M : Int) : Prop where
  p : ∀ i k, 0 ≤ G.p i k ∧ G.p i k ≤ M
  g : ∀ i, 0 ≤ G.g i ∧ G.g i ≤ M
  h : ∀ k, 0 ≤ G.h k ∧ G.h k ≤ M
theorem rst_bd {G : Grd} {M : Int} (hG : GOk G M) (i k : Nat) : 0 ≤ rst G i k ∧ rst G i k ≤ M * ((G.n - i : Nat) + (G.m - k : Nat) : Nat) := by
  refine grd_ind G (P := fun i k => 0 ≤ rst G i k ∧ rst G i k ≤ M * ((G.n - i : Nat) + (G.m - k : Nat) : Nat)) (fun i k h1 h2 h3 => ?_) i k
  have m0 : 0 ≤ M := by have := hG.g 0; omega
  have q1 := hG.p i k
  have q2 := hG.g i
  have q3 := hG.h k
  by_cases hi : i < G.n
  · have e1 : M * ((G.n - i : Nat) + (G.m - k : Nat) : Nat) = M * ((G.n - (i + 1) : Nat) + (G.m - k : Nat) : Nat) + M := by
      rw [show (G.n - i) + (G.m - k) = (G.n - (i + 1)) + (G.m - k) + 1 by omega]; push_cast; rw [Int.mul_add]; omega
    have r1 := h1 hi
    by_cases hk : k < G.m
    · rw [rst_both hi hk]
      have r2 := h2 hk
      have r3 := h3 hi hk
      omega
    · rw [rst_fst hi hk]; omega
  · by_cases hk : k < G.m
    · have e1 : M * ((G.n - i : Nat) + (G.m - k : Nat) : Nat) = M * ((G.n - i : Nat) + (G.m - (k + 1) : Nat) : Nat) + M := by
        rw [show (G.n - i) + (G.m - k) = (G.n - i) + (G.m - (k + 1)) + 1 by omega]; push_cast; rw [Int.mul_add]; omega
      have r2 := h2 hk
      rw [rst_snd hi hk]; omega
    · rw [rst_none hi hk]
      exact ⟨Int.le_refl _, Int.mul_nonneg m0 (by omega)⟩
theorem wys_bd (G : Grd) (i k : Nat) : 1 ≤ wys G i k ∧ wys G i k ≤ big := by
  refine grd_ind G (P := fun i k => 1 ≤ wys G i k ∧ wys G i k ≤ big) (fun i k h1 h2 h3 => ?_) i k
  by_cases hi : i < G.n
  · have r1 := h1 hi
    by_cases hk : k < G.m
    · have r2 := h2 hk
      have r3 := h3 hi hk
      rw [wys_both hi hk, rst_both hi hk]
      generalize G.p i k + rst G (i + 1) (k + 1) = x
      generalize G.g i + rst G (i + 1) k = y
      generalize G.h k + rst G i (k + 1) = z
      unfold addW big at *
      (repeat' split) <;> omega
    · rw [wys_fst hi hk, rst_fst hi hk]; unfold addW big at *; rw [if_pos rfl]; omega
  · by_cases hk : k < G.m
    · have r2 := h2 hk
      rw [wys_snd hi hk, rst_snd hi hk]; unfold addW big at *; rw [if_pos rfl]; omega
    · rw [wys_none hi hk]; unfold big; omega
def stepW (G : Grd) (i k : Nat) (s : Int × Int) (j : Nat) (x : Mv) : Int × Int :=
  if j = 0 ∨ via G i k x < s.1 then (via G i k x, wys G (i + x.fst) (k + x.snd))
  else if via G i k x = s.1 then (s.1, min (s.2 + wys G (i + x.fst) (k + x.snd)) big) else s
def accW (G : Grd) (i k : Nat) : Nat → Int × Int
  | 0 => (0, 1)
  | j + 1 => match (mvs G i k)[j]? with
    | some x => stepW G i k (accW G i k j) j x
    | none => accW G i k j
theorem stepW_fst (G : Grd) (i k : Nat) (s : Int × Int) (j : Nat) (x : Mv) : (stepW G i k s j x).1 = if j = 0 then via G i k x else min s.1 (via G i k x) := by
  unfold stepW
  (repeat' split) <;> first | omega | (dsimp only; omega)
theorem stepW_snd (G : Grd) (i k : Nat) (s : Int × Int) (j : Nat) (x : Mv) : (stepW G i k s j x).2 = if j = 0 ∨ via G i k x < s.1 then wys G (i + x.fst) (k + x.snd) else if via G i k x = s.1 then min (s.2 + wys G (i + x.fst) (k + x.snd)) big else s.2 := by
  unfold stepW
  (repeat' split) <;> rfl
theorem accW_all (G : Grd) (i k : Nat) : accW G i k (mvs G i k).length = (rst G i k, wys G i k) := by
  by_cases hi : i < G.n
  · have w1 := wys_bd G (i + 1) k
    by_cases hk : k < G.m
    · have w2 := wys_bd G i (k + 1)
      have w3 := wys_bd G (i + 1) (k + 1)
      rw [mvs_both hi hk, rst_both hi hk, wys_both hi hk, rst_both hi hk]
      show accW G i k 3 = _
      simp only [accW, mvs_both hi hk, List.getElem?_cons_zero, List.getElem?_cons_succ]
      refine Prod.ext ?_ ?_
      · simp only [stepW_fst, via, Nat.add_zero, if_true, Nat.one_ne_zero, if_false, show ¬ (2 : Nat) = 0 by omega]
      · simp only [stepW_snd, stepW_fst, via, Nat.add_zero, if_true, true_or, Nat.one_ne_zero, if_false, show ¬ (2 : Nat) = 0 by omega, false_or]
        generalize G.p i k + rst G (i + 1) (k + 1) = x
        generalize G.g i + rst G (i + 1) k = y
        generalize G.h k + rst G i (k + 1) = z
        generalize wys G (i + 1) (k + 1) = a at *
        generalize wys G (i + 1) k = b at *
        generalize wys G i (k + 1) = c at *
        unfold addW big at *
        (repeat' split) <;> omega
    · rw [mvs_fst hi hk, rst_fst hi hk, wys_fst hi hk, rst_fst hi hk]
      show accW G i k 1 = _
      simp only [accW, mvs_fst hi hk, List.getElem?_cons_zero, stepW, via, Nat.add_zero, true_or, if_true]
      unfold addW big at *
      rw [if_pos rfl]
      refine Prod.ext rfl ?_
      dsimp only; omega
  · by_cases hk : k < G.m
    · have w2 := wys_bd G i (k + 1)
      rw [mvs_snd hi hk, rst_snd hi hk, wys_snd hi hk, rst_snd hi hk]
      show accW G i k 1 = _
      simp only [accW, mvs_snd hi hk, List.getElem?_cons_zero, stepW, via, Nat.add_zero, true_or, if_true]
      unfold addW big at *
      rw [if_pos rfl]
      refine Prod.ext rfl ?_
      dsimp only; omega
    · rw [mvs_none hi hk, rst_none hi hk, wys_none hi hk]; rfl
def placesL (n m : Nat) : List (Nat × Nat) := (List.range (n + 1)).flatMap fun p => (List.range (m + 1)).map fun q => (n - p, m - q)
theorem block_get {α : Type} (f : Nat → Nat → α) (M : Nat) : ∀ N, ((List.range N).flatMap fun p => (List.range M).map (f p)).length = N * M ∧ ∀ p q, p < N → q < M → ((List.range N).flatMap fun p => (List.range M).map (f p))[p * M + q]? = some (f p q)
  | 0 => ⟨by simp, fun p q h => by omega⟩
  | N + 1 => by
    obtain ⟨h1, h2⟩ := block_get f M N
    rw [List.range_succ, List.flatMap_append]
    refine ⟨by rw [List.length_append, h1]; simp [Nat.succ_mul], fun p q hp hq => ?_⟩
    rcases Nat.lt_or_ge p N with h | h
    · have := Nat.mul_le_mul_right M (show p + 1 ≤ N from h)
      rw [Nat.succ_mul] at this
      rw [List.getElem?_append_left (by omega)]
      exact h2 p q h hq
    · obtain rfl : p = N := by omega
      rw [List.getElem?_append_right (by omega), h1, Nat.add_sub_cancel_left]
      simp [hq]
theorem placesL_len (n m : Nat) : (placesL n m).length = (n + 1) * (m + 1) := (block_get (fun p q => (n - p, m - q)) (m + 1) (n + 1)).1
theorem placesL_get {n m p q : Nat} (hp : p ≤ n) (hq : q ≤ m) : (placesL n m)[p * (m + 1) + q]? = some (n - p, m - q) := (block_get (fun p q => (n - p, m - q)) (m + 1) (n + 1)).2 p q (by omega) (by omega)
theorem placesL_at {n m j i k : Nat} (h : (placesL n m)[j]? = some (i, k)) : ∃ p q, p ≤ n ∧ q ≤ m ∧ j = p * (m + 1) + q ∧ i = n - p ∧ k = m - q := by
  have hj := (List.getElem?_eq_some_iff.1 h).1
  rw [placesL_len] at hj
  have h1 : j / (m + 1) ≤ n := by have := Nat.div_lt_of_lt_mul (show j < (m + 1) * (n + 1) by rw [Nat.mul_comm]; exact hj); omega
  have h2 : j % (m + 1) ≤ m := by have := Nat.mod_lt j (show 0 < m + 1 by omega); omega
  have e : j = j / (m + 1) * (m + 1) + j % (m + 1) := by rw [Nat.mul_comm]; exact (Nat.div_add_mod j (m + 1)).symm
  refine ⟨j / (m + 1), j % (m + 1), h1, h2, e, ?_⟩
  rw [e, placesL_get h1 h2] at h
  cases h
  exact ⟨rfl, rfl⟩
theorem placesL_done {n m j i k i' k' : Nat} (h : (placesL n m)[j]? = some (i, k)) (hi : i' ≤ n) (hk : k' ≤ m) (hlt : i < i' ∨ (i = i' ∧ k < k')) : (i', k') ∈ (placesL n m).take j := by
  obtain ⟨p, q, hp, hq, rfl, rfl, rfl⟩ := placesL_at h
  have hg := placesL_get (n := n) (m := m) (p := n - i') (q := m - k') (by omega) (by omega)
  rw [show n - (n - i') = i' by omega, show m - (m - k') = k' by omega] at hg
  refine List.mem_of_getElem? (i := (n - i') * (m + 1) + (m - k')) ?_
  rw [List.getElem?_take_of_lt, hg]
  rcases hlt with h1 | ⟨rfl, h1⟩
  · have := Nat.mul_le_mul_right (m + 1) (show n - i' + 1 ≤ p by omega)
    rw [Nat.succ_mul] at this
    omega
  · rw [show n - (n - p) = p by omega]; omega
def soFar (n m j : Nat) (f : Nat → Nat → Int) (i k : Nat) : Int := if (i, k) ∈ (placesL n m).take j then f i k else 0
theorem soFar_zero (n m : Nat) (f : Nat → Nat → Int) (i : Nat) : soFar n m 0 f i = fun _ => 0 := by funext k; unfold soFar; simp
theorem soFar_step {n m j i k : Nat} (h : (placesL n m)[j]? = some (i, k)) (f : Nat → Nat → Int) (i' k' : Nat) : soFar n m (j + 1) f i' k' = if i' = i ∧ k' = k then f i k else soFar n m j f i' k' := by
  unfold soFar
  rw [take_snoc _ _ _ h]
  by_cases e : i' = i ∧ k' = k
  · obtain ⟨rfl, rfl⟩ := e
    rw [if_pos (by simp), if_pos ⟨rfl, rfl⟩]
  · rw [if_neg e]
    congr 1
    rw [List.mem_append, List.mem_singleton, Prod.mk.injEq]
    simp [e]
theorem soFar_all {n m j i k : Nat} (hj : (placesL n m).length ≤ j) (f : Nat → Nat → Int) (hi : i ≤ n) (hk : k ≤ m) : soFar n m j f i k = f i k := by
  unfold soFar
  rw [List.take_of_length_le hj, if_pos]
  have := placesL_get (n := n) (m := m) (p := n - i) (q := m - k) (by omega) (by omega)
  rw [show n - (n - i) = i by omega, show m - (m - k) = k by omega] at this
  exact List.mem_of_getElem? this
theorem soFar_get {n m j i k i' k' : Nat} (h : (placesL n m)[j]? = some (i, k)) (f : Nat → Nat → Int) (hi : i' ≤ n) (hk : k' ≤ m) (hlt : i < i' ∨ (i = i' ∧ k < k')) : soFar n m j f i' k' = f i' k' := if_pos (placesL_done h hi hk hlt)
theorem rows_put {f g : Nat → Nat → Int} {tot i k gi : Nat} {x : Int} {ci : List Value} {M : List (Nat × List Value)} (hR : RowsOk f tot M) (hi : M[i]? = some (gi, ci)) (hg : ∀ i' k', g i' k' = if i' = i ∧ k' = k then x else f i' k') : RowsOk g tot (M.set i (gi, ci.set k (.int .i64 x))) := by
  intro r y hy
  rw [List.getElem?_set] at hy
  by_cases h1 : i = r
  · subst h1
    rw [if_pos rfl, if_pos (List.getElem?_eq_some_iff.1 hi).1] at hy
    cases hy
    dsimp only
    rw [show ci = _ from hR _ _ hi, valV_put]
    refine valV_ext fun q _ => ?_
    rw [hg]
    by_cases e : q = k
    · rw [if_pos e, if_pos ⟨rfl, e⟩]
    · rw [if_neg e, if_neg (fun h => e h.2)]
  · rw [if_neg h1] at hy
    rw [hR _ _ hy]
    refine valV_ext fun q _ => ?_
    rw [hg, if_neg (fun h => h1 h.1.symm)]
theorem accW_step {G : Grd} {i k j : Nat} {x : Mv} (h : (mvs G i k)[j]? = some x) : accW G i k (j + 1) = stepW G i k (accW G i k j) j x := by
  simp only [accW, h]
theorem accW_bd (G : Grd) (i k : Nat) : ∀ j, 0 ≤ (accW G i k j).2 ∧ (accW G i k j).2 ≤ big
  | 0 => by simp [accW, big]
  | j + 1 => by
    have ih := accW_bd G i k j
    cases h : (mvs G i k)[j]? with
    | none => simp only [accW, h]; exact ih
    | some x =>
      rw [accW_step h, stepW_snd]
      have hw := wys_bd G (i + x.fst) (k + x.snd)
      unfold big at *
      (repeat' split) <;> omega
theorem flat_get {α : Type} (cells : α → List Value) (sz : Nat) (hsz : ∀ t, (cells t).length = sz) : ∀ {l : List α} {k : Nat} {x : α}, l[k]? = some x → ∀ (j : Nat) u, (cells x)[j]? = some u → (l.flatMap cells)[k * sz + j]? = some u
  | y :: l, 0, x, hx, j, u, hu => by
    simp at hx; subst hx
    rw [List.flatMap_cons, Nat.zero_mul, Nat.zero_add, List.getElem?_append_left (List.getElem?_eq_some_iff.1 hu).1]
    exact hu
  | y :: l, k + 1, x, hx, j, u, hu => by
    have ih := flat_get cells sz hsz (l := l) (k := k) (by simpa using hx) j u hu
    rw [List.flatMap_cons, List.getElem?_append_right (by rw [hsz, Nat.succ_mul]; omega), hsz]
    rw [show (k + 1) * sz + j - sz = k * sz + j by rw [Nat.succ_mul]; omega]
    exact ih
def tabR (n m : Nat) (f : Nat → Nat → Int) : List (List Int) := (List.range (n + 1)).map fun i => (List.range (m + 1)).map fun k => f i k
theorem tabR_get {n m i : Nat} {f : Nat → Nat → Int} (h : i ≤ n) : (tabR n m f)[i]? = some ((List.range (m + 1)).map fun k => f i k) := by unfold tabR; rw [List.getElem?_map, List.getElem?_range (by omega)]; rfl
theorem tabR_cell {m k : Nat} {g : Nat → Int} (h : k ≤ m) : ((List.range (m + 1)).map g)[k]? = some (g k) := by rw [List.getElem?_map, List.getElem?_range (by omega)]; rfl
theorem tabR_length (n m : Nat) (f : Nat → Nat → Int) : (tabR n m f).length = n + 1 := by simp [tabR]
end Go.Proofs.YtofikdpbagnjbaaGreatDoor
namespace Go.Proofs.YtofikdpbagnjbaaGreatDoor

theorem rst_le_g {G : Grd} {i k : Nat} (hi : i < G.n) : rst G i k ≤ G.g i + rst G (i + 1) k := by
  by_cases hk : k < G.m
  · rw [rst_both hi hk]; omega
  · rw [rst_fst hi hk]; omega
theorem rst_le_h {G : Grd} {i k : Nat} (hk : k < G.m) : rst G i k ≤ G.h k + rst G i (k + 1) := by
  by_cases hi : i < G.n
  · rw [rst_both hi hk]; omega
  · rw [rst_snd hi hk]; omega
theorem rst_le_p {G : Grd} {i k : Nat} (hi : i < G.n) (hk : k < G.m) : rst G i k ≤ G.p i k + rst G (i + 1) (k + 1) := by
  rw [rst_both hi hk]; omega
end Go.Proofs.YtofikdpbagnjbaaGreatDoor
namespace Go.Proofs.YtofikdpbagnjbaaGreatDoor
open Go.RowKit Go.Shelf Go.Proofs
set_option maxRecDepth 100000
set_option maxHeartbeats 1000000

theorem pairs_spec (n : Nat) (w : World) : Spec Tryz.prog 195 [.int .i64 n] w (fun v A => ∃ b : Nat, True ∧ v = .func (.func 235) #[] #[.pointer (some ⟨b, 0, none⟩)] ∧ A = [blk b [.int .i64 n] 3]) := by
  refine spec_of sg Tryz.func195 rfl rfl rfl ?_
  repeat' (first | (show T _ (.ops _ (⟨_, .box _ _, _, _, _, _⟩ :: _) :: _) _ _ _; refine T_op (OpT.box (cs := [.int .i64 n]) rfl rfl rfl rfl rfl rfl rfl (fun _ => ?_))) | refine d1 ?_ | refine dd ?_ | (show ∀ _ : Nat, T _ _ _ _ _; intro _) | (show T _ (.code .ret :: _) _ _ _; refine T_retV _ rfl (Hle.refl _) ⟨_, trivial, rfl, rfl⟩))
def pairVs (n : Nat) : List (List Value) := (pairsL n).map fun p => [.int .i64 p.1, .int .i64 p.2]
theorem pairs_iter (n : Nat) (b : Nat) (hn : n ≤ 65536) : Iter Tryz.prog 235 [] [.pointer (some ⟨b, 0, none⟩)] [blk b [.int .i64 n] 3] (pairVs n) := by
  refine iter_of sg Tryz.func235 rfl rfl rfl ?_
  intro w0 l GQ X Hj hY h0
  show T _ _ _ _ (blk b [.int .i64 n] 3 :: Hj)
  repeat' (first | refine d1 ?_ | refine dd ?_ | (show ∀ _ : Nat, T _ _ _ _ _; intro _))
  refine T_loopX (fun x : Nat × List HA => [(6, .int .i64 x.1)]) (fun x => blk b [.int .i64 n] 3 :: x.2) (fun x => x.1 ≤ n ∧ GQ (pairsL x.1).length x.2) (fun x => n - x.1) (0, Hj) ⟨Nat.zero_le _, h0⟩ ?_
  rintro ⟨k, H1⟩ ⟨hk, hG⟩
  dsimp only at hk hG ⊢
  repeat' (first | refine d1 ?_ | refine dd ?_ | (show ∀ _ : Nat, T _ _ _ _ _; intro _))
  refine T_if rfl (fun h => ?_) (fun h => ?_)
  · simp only [decide_eq_true_eq] at h
    repeat' (first | refine d1 ?_ | refine dd ?_ | (show ∀ _ : Nat, T _ _ _ _ _; intro _))
    refine T_loopX (fun x : Nat × List HA => [(10, .int .i64 x.1)]) (fun x => blk b [.int .i64 n] 3 :: x.2) (fun x => x.1 ≤ k ∧ GQ ((pairsL k).length + x.1) x.2) (fun x => k - x.1) (0, H1) ⟨Nat.zero_le _, hG⟩ ?_
    rintro ⟨i, H2⟩ ⟨hi, hG2⟩
    dsimp only at hi hG2 ⊢
    repeat' (first | refine d1 ?_ | refine dd ?_ | (show ∀ _ : Nat, T _ _ _ _ _; intro _))
    refine T_if rfl (fun h1 => ?_) (fun h1 => ?_)
    · simp only [decide_eq_true_eq] at h1
      have hy : (pairVs n)[(pairsL k).length + i]? = some [.int .i64 (i : Nat), .int .i64 (k : Nat)] := by
        unfold pairVs; rw [List.getElem?_map, pairsL_get (by omega) (by omega)]; rfl
      repeat' (first | refine d1 ?_ | refine dd ?_ | (show ∀ _ : Nat, T _ _ _ _ _; intro _))
      refine T_yield (K := [blk b [.int .i64 n] 3]) hY rfl rfl rfl rfl hy hG2 (Hle.comm [_] H2) (fun J => Hle.comm J [_]) (fun H3 hG3 => ?_) (fun Y hX => ?_)
      · show T _ _ _ _ (blk b [.int .i64 n] 3 :: H3)
        repeat' (first | refine d1 ?_ | refine dd ?_ | (show ∀ _ : Nat, T _ _ _ _ _; intro _) | (show T _ (.code (.cond _ _ _) :: _) _ _ _; refine T_if rfl (fun h => ?_) (fun h => ?_)))
        · exact absurd h (by decide)
        · exact T_backX (i + 1, H3) ⟨by dsimp only; omega, hG3⟩ (by dsimp only; omega)
      · show T _ _ _ _ (blk b [.int .i64 n] 3 :: Y)
        repeat' (first | refine d1 ?_ | refine dd ?_ | (show ∀ _ : Nat, T _ _ _ _ _; intro _) | (show T _ (.code (.cond _ _ _) :: _) _ _ _; refine T_if rfl (fun h => ?_) (fun h => ?_)) | (show T _ (.code .ret :: _) _ _ _; refine T_istop rfl Y hX (Hle.refl _)))
        exact absurd h (by decide)
    · simp only [decide_eq_false_iff_not] at h1
      have hik : i = k := by omega
      subst hik
      repeat' (first | refine d1 ?_ | refine dd ?_ | (show ∀ _ : Nat, T _ _ _ _ _; intro _))
      refine T_backX (i + 1, H2) ⟨by dsimp only; omega, ?_⟩ (by dsimp only; omega)
      dsimp only
      rw [pairsL_succ, List.length_append, rowP_length]
      exact hG2
  · simp only [decide_eq_false_iff_not] at h
    have hkn : k = n := by omega
    subst hkn
    repeat' (first | refine d1 ?_ | refine dd ?_ | (show ∀ _ : Nat, T _ _ _ _ _; intro _))
    refine T_ifall rfl H1 ?_ (Hle.refl _)
    unfold pairVs; rw [List.length_map]; exact hG

theorem columnPrg_spec (c : Costs) (A B : Option Addr) (n m ca cb : Nat) (l : List Tok) (b : List Bool) (w : World) (hst : Std w) (hl : Src w 6 A n (l.flatMap Tok.cells)) (hn : l.length = n) (hnb : n ≤ 9223372036854775807)
    (hb : Src w 1 B m (b.map Value.bool)) (hm : b.length = m) (hmb : m ≤ 9223372036854775807) (hsm : ∀ t ∈ l, t.small) :
    Spec Tryz.prog 157 [c.val, .slice A n ca, .slice B m cb] w (fun v A => v = .tuple #[.int .i64 (columnV c l b).1, .int .i64 (columnV c l b).2] ∧ A = []) := by
  refine spec_of sg Tryz.func157 rfl rfl rfl ?_
  refine T_op (OpT.box (cs := c.cells) rfl rfl rfl rfl rfl rfl rfl (fun pc => ?_))
  refine T_op (OpT.box (cs := [.slice A n ca]) rfl rfl rfl rfl rfl rfl rfl (fun pl => ?_))
  refine T_op (OpT.box (cs := [.slice B m cb]) rfl rfl rfl rfl rfl rfl rfl (fun pb => ?_))
  repeat' (first | refine d1 ?_ | refine dd ?_ | (show T _ (.ops _ (_ :: _) :: _) _ _ _; first | refine T_call rfl rfl rfl rfl rfl (fun w hw => costPrg_spec c w) ?_ | refine T_callC rfl rfl rfl rfl rfl rfl rfl (fun hg w hw => costPrg_spec c w) ?_) | (show T _ (.run _ _ (_ :: _) _ _ :: _) _ _ _; first | refine rc rfl rfl rfl rfl rfl rfl rfl (fun w hw => costPrg_spec c w) ?_ | refine rcG rfl rfl rfl rfl rfl rfl rfl rfl rfl (fun hg w hw => costPrg_spec c w) ?_) | (show ∀ _ : Nat, T _ _ _ _ _; intro _))
  refine T_if rfl (fun h => ?_) (fun h => ?_)
  · simp only [Bool.not_eq_true', decide_eq_false_iff_not] at h
    repeat' (first | refine d1 ?_ | refine dd ?_ | (show ∀ _ : Nat, T _ _ _ _ _; intro _) | (show T _ (.code .ret :: _) _ _ _; refine T_retV [] rfl (Hle.none _) ⟨?_, rfl⟩))
    unfold columnV; rw [if_pos h]; rfl
  simp only [Bool.not_eq_false', decide_eq_true_eq] at h
  repeat' (first | refine d1 ?_ | refine dd ?_ | (show ∀ _ : Nat, T _ _ _ _ _; intro _))
  refine T_if rfl (fun h1 => ?_) (fun h1 => ?_)
  · simp only [Bool.not_eq_true', decide_eq_false_iff_not] at h1
    repeat' (first | refine d1 ?_ | refine dd ?_ | (show ∀ _ : Nat, T _ _ _ _ _; intro _) | (show T _ (.code .ret :: _) _ _ _; refine T_retV [] rfl (Hle.none _) ⟨?_, rfl⟩))
    unfold columnV; rw [if_neg (by omega), if_pos (by omega)]; rfl
  simp only [Bool.not_eq_false', decide_eq_true_eq] at h1
  repeat' (first | refine d1 ?_ | refine dd ?_ | (show ∀ _ : Nat, T _ _ _ _ _; intro _))
  refine T_if rfl (fun h2 => ?_) (fun h2 => ?_)
  · simp only [decide_eq_true_eq] at h2
    repeat' (first | refine d1 ?_ | refine dd ?_ | (show ∀ _ : Nat, T _ _ _ _ _; intro _) | (show T _ (.code .ret :: _) _ _ _; refine T_retV [] rfl (Hle.none _) ⟨?_, rfl⟩))
    unfold columnV; rw [if_neg (by omega), if_neg (by omega), if_pos (by omega)]; rfl
  simp only [decide_eq_false_iff_not] at h2
  repeat' (first | refine d1 ?_ | refine dd ?_ | (show ∀ _ : Nat, T _ _ _ _ _; intro _))
  refine T_loopX (fun k : Nat => [(26, .int .i64 k)]) (fun _ => [blk pb [.slice B m cb] 90, blk pl [.slice A n ca] 40, blk pc c.cells 23]) (fun k => k ≤ n ∧ ∀ j, j < k → thA b j = true → tokE (tkA l j) = 0) (fun k => n - k) 0 ⟨by omega, fun j h => by omega⟩ ?_
  rintro k ⟨hk, hok⟩
  repeat' (first | refine d1 ?_ | refine dd ?_ | (show ∀ _ : Nat, T _ _ _ _ _; intro _))
  refine T_if rfl (fun h3 => ?_) (fun h3 => ?_)
  · simp only [decide_eq_true_eq] at h3
    have hkn : k < n := by omega
    obtain ⟨ba, oa, rfl⟩ := hl.base (by omega)
    obtain ⟨bb, ob, rfl⟩ := hb.base (by omega)
    have hx := tkA_get (l := l) (i := k) (by omega)
    have hr1 : RdC w ba (oa + (k : Int).toNat * 6) (tkA l k).cells := hl.getT hkn hx
    have hr2 : RdC w bb (ob + (k : Int).toNat * 1) [.bool (thA b k)] := (hb.get1 (by omega) (by rw [List.getElem?_map, thA_get (by omega)]; rfl)).2
    repeat' (first | refine d1 ?_ | refine dd ?_ | (show T _ (.ops _ (_ :: _) :: _) _ _ _; first | refine T_call rfl rfl rfl rfl rfl (fun w hw => tokPrg_spec (tkA l k) (hsm _ (tkA_mem (by omega))) w (hst.cls hw)) ?_ | refine T_callC rfl rfl rfl rfl rfl rfl rfl (fun hg w hw => tokPrg_spec (tkA l k) (hsm _ (tkA_mem (by omega))) w (hst.cls hw)) ?_) | (show T _ (.run _ _ (_ :: _) _ _ :: _) _ _ _; first | refine rc rfl rfl rfl rfl rfl rfl rfl (fun w hw => tokPrg_spec (tkA l k) (hsm _ (tkA_mem (by omega))) w (hst.cls hw)) ?_ | refine rcG rfl rfl rfl rfl rfl rfl rfl rfl rfl (fun hg w hw => tokPrg_spec (tkA l k) (hsm _ (tkA_mem (by omega))) w (hst.cls hw)) ?_) | (show ∀ _ : Nat, T _ _ _ _ _; intro _))
    refine T_if rfl (fun h4 => ?_) (fun h4 => ?_)
    · simp only [Bool.and_eq_true, Bool.not_eq_true', decide_eq_false_iff_not] at h4
      repeat' (first | refine d1 ?_ | refine dd ?_ | (show ∀ _ : Nat, T _ _ _ _ _; intro _) | (show T _ (.code .ret :: _) _ _ _; refine T_retV [] rfl (Hle.none _) ⟨?_, rfl⟩))
      unfold columnV; rw [if_neg (by omega), if_neg (by omega), if_neg (by omega), if_pos (badCol_true (by omega) h4.1 h4.2)]; rfl
    · repeat' (first | refine d1 ?_ | refine dd ?_ | (show ∀ _ : Nat, T _ _ _ _ _; intro _))
      refine T_backX (k + 1) ⟨by omega, fun j hj ht => ?_⟩ (by omega) (hG := Hle.tail _ _)
      rcases Nat.lt_or_ge j k with h5 | h5
      · exact hok j h5 ht
      · rw [show j = k by omega] at ht ⊢
        rw [ht] at h4
        simpa using h4
  · simp only [decide_eq_false_iff_not] at h3
    have hkn : k = n := by omega
    subst hkn
    have hbad := badCol_false (l := l) (b := b) (fun j hj ht => hok j (by omega) ht)
    have hcv : columnV c l b = (psum (cellC c l b) (pairsL l.length), 0) := by unfold columnV; rw [if_neg (by omega), if_neg (by omega), if_neg (by omega), if_neg (by rw [hbad]; simp)]
    repeat' (first | refine d1 ?_ | refine dd ?_ | (show T _ (.ops _ (_ :: _) :: _) _ _ _; refine T_callE rfl rfl rfl rfl rfl (fun w hw => pairs_spec k w) (fun g _ => ?_)) | (show ∀ _ : Nat, T _ _ _ _ _; intro _))
    rename_i ps _
    have hps : ∀ (j : Nat) (y : List Value), (pairVs k)[j]? = some y → ∃ p, (pairsL k)[j]? = some p ∧ y = [.int .i64 (p.1 : Nat), .int .i64 (p.2 : Nat)] := by
      intro j y hy
      unfold pairVs at hy
      rw [List.getElem?_map] at hy
      cases hp : (pairsL k)[j]? with
      | none => rw [hp] at hy; cases hy
      | some p => rw [hp] at hy; exact ⟨p, rfl, (Option.some.inj hy).symm⟩
    refine T_range (pairs_iter k g (by omega)) rfl (fun j y hy => by obtain ⟨p, _, rfl⟩ := hps j y hy; exact ⟨rfl, rfl⟩)
      (fun j H => H = [blk ps [.int .i64 (psum (cellC c l b) ((pairsL k).take j))] 3, blk pb [.slice B m cb] 90, blk pl [.slice A k ca] 40, blk pc c.cells 23]) (fun _ => False) (fun _ _ => False)
      [blk ps [.int .i64 0] 3, blk pb [.slice B m cb] 90, blk pl [.slice A k ca] 40, blk pc c.cells 23] rfl (Hle.refl _) ?_ ?_ (fun _ _ h => h.elim) (fun _ _ _ h => h.elim)
    · rintro L r j y Hj K hr hy rfl
      obtain ⟨⟨i, q⟩, hp, rfl⟩ := hps j y hy
      have hmem := pairsL_mem.1 (List.mem_of_getElem? hp)
      have hlen := pairsL_len k
      have hjl : j < (pairsL k).length := (List.getElem?_eq_some_iff.1 hp).1
      have h9 : k * k ≤ 32 * 32 := Nat.mul_le_mul (by omega) (by omega)
      have hsum := psum_cell h l b ((pairsL k).take j)
      have hcell := cellC_bd h l b i q
      rw [List.length_take] at hsum
      have hnext : psum (cellC c l b) ((pairsL k).take (j + 1)) = psum (cellC c l b) ((pairsL k).take j) + cellC c l b i q := by
        rw [take_snoc _ _ _ hp, psum_snoc]
      obtain ⟨ba, oa, rfl⟩ := hl.base (by omega)
      obtain ⟨bb, ob, rfl⟩ := hb.base (by omega)
      have hr1 : RdC w ba (oa + (i : Int).toNat * 6) (tkA l i).cells := hl.getT (by omega) (tkA_get (by omega))
      have hr2 : RdC w ba (oa + (q : Int).toNat * 6) (tkA l q).cells := hl.getT (by omega) (tkA_get (by omega))
      have hr3 : RdC w bb (ob + (i : Int).toNat * 1) [.bool (thA b i)] := (hb.get1 (by omega) (by rw [List.getElem?_map, thA_get (by omega)]; rfl)).2
      have hr4 : RdC w bb (ob + (q : Int).toNat * 1) [.bool (thA b q)] := (hb.get1 (by omega) (by rw [List.getElem?_map, thA_get (by omega)]; rfl)).2
      show T _ _ ((45, .int .i64 (q : Nat)) :: (44, .int .i64 (i : Nat)) :: _) _ (lrec L r :: blk ps [.int .i64 (psum (cellC c l b) ((pairsL k).take j))] 3 :: blk pb [.slice _ m cb] 90 :: blk pl [.slice _ k ca] 40 :: blk pc c.cells 23 :: K)
      repeat' (first | refine d1 ?_ | refine dd ?_ | (show ∀ _ : Nat, T _ _ _ _ _; intro _) | (show T _ _ _ _ _; refine T_begin hr rfl ?_))
      have hnorm : (tkA l i).norm.size ≤ 65536 ∧ (tkA l q).norm.size ≤ 65536 := ⟨(hsm _ (tkA_mem (by omega))).2.1, (hsm _ (tkA_mem (by omega))).2.1⟩
      refine T_if rfl (fun h5 => ?_) (fun h5 => ?_)
      · have h6 := h5
        simp only [Bool.and_eq_true] at h6
        have k1 := tokE_ok (hok i (by omega) h6.1)
        have k2 := tokE_ok (hok q (by omega) h6.2)
        have e : cellC c l b i q = pairC c (tkA l i) (tkA l q) := by unfold cellC; rw [if_pos h5]
        rw [e] at hcell hnext
        repeat' (first | refine d1 ?_ | refine dd ?_ | (show T _ (.ops _ (_ :: _) :: _) _ _ _; first | refine T_call rfl rfl rfl rfl rfl (fun w hw => pairPrg_spec c (tkA l i) (tkA l q) h k1.1 k2.1 (by omega) (by omega) w) ?_ | refine T_callC rfl rfl rfl rfl rfl rfl rfl (fun hg w hw => pairPrg_spec c (tkA l i) (tkA l q) h k1.1 k2.1 (by omega) (by omega) w) ?_) | (show T _ (.run _ _ (_ :: _) _ _ :: _) _ _ _; first | refine rc rfl rfl rfl rfl rfl rfl rfl (fun w hw => pairPrg_spec c (tkA l i) (tkA l q) h k1.1 k2.1 (by omega) (by omega) w) ?_ | refine rcG rfl rfl rfl rfl rfl rfl rfl rfl rfl (fun hg w hw => pairPrg_spec c (tkA l i) (tkA l q) h k1.1 k2.1 (by omega) (by omega) w) ?_) | (show ∀ _ : Nat, T _ _ _ _ _; intro _))
        refine T_next _ rfl ?_
        rw [hnext]
        exact Hle.refl _
      · repeat' (first | refine d1 ?_ | refine dd ?_ | (show ∀ _ : Nat, T _ _ _ _ _; intro _))
        refine T_if rfl (fun h6 => ?_) (fun h6 => ?_)
        · have k1 := tokE_ok (hok i (by omega) h6)
          have e : cellC c l b i q = gapC c (tkA l i) := by unfold cellC; rw [if_neg (by rw [h5]; simp), if_pos h6]
          rw [e] at hcell hnext
          repeat' (first | refine d1 ?_ | refine dd ?_ | (show T _ (.ops _ (_ :: _) :: _) _ _ _; first | refine T_call rfl rfl rfl rfl rfl (fun w hw => gapPrgC_spec c (tkA l i) (costE_ok h).1 k1.1 w) ?_ | refine T_callC rfl rfl rfl rfl rfl rfl rfl (fun hg w hw => gapPrgC_spec c (tkA l i) (costE_ok h).1 k1.1 w) ?_) | (show T _ (.run _ _ (_ :: _) _ _ :: _) _ _ _; first | refine rc rfl rfl rfl rfl rfl rfl rfl (fun w hw => gapPrgC_spec c (tkA l i) (costE_ok h).1 k1.1 w) ?_ | refine rcG rfl rfl rfl rfl rfl rfl rfl rfl rfl (fun hg w hw => gapPrgC_spec c (tkA l i) (costE_ok h).1 k1.1 w) ?_) | (show ∀ _ : Nat, T _ _ _ _ _; intro _))
          refine T_next _ rfl ?_
          rw [hnext]
          exact Hle.refl _
        · repeat' (first | refine d1 ?_ | refine dd ?_ | (show ∀ _ : Nat, T _ _ _ _ _; intro _))
          refine T_if rfl (fun h7 => ?_) (fun h7 => ?_)
          · have k2 := tokE_ok (hok q (by omega) h7)
            have e : cellC c l b i q = gapC c (tkA l q) := by unfold cellC; rw [if_neg (by rw [h5]; simp), if_neg (by rw [h6]; simp), if_pos h7]
            rw [e] at hcell hnext
            repeat' (first | refine d1 ?_ | refine dd ?_ | (show T _ (.ops _ (_ :: _) :: _) _ _ _; first | refine T_call rfl rfl rfl rfl rfl (fun w hw => gapPrgC_spec c (tkA l q) (costE_ok h).1 k2.1 w) ?_ | refine T_callC rfl rfl rfl rfl rfl rfl rfl (fun hg w hw => gapPrgC_spec c (tkA l q) (costE_ok h).1 k2.1 w) ?_) | (show T _ (.run _ _ (_ :: _) _ _ :: _) _ _ _; first | refine rc rfl rfl rfl rfl rfl rfl rfl (fun w hw => gapPrgC_spec c (tkA l q) (costE_ok h).1 k2.1 w) ?_ | refine rcG rfl rfl rfl rfl rfl rfl rfl rfl rfl (fun hg w hw => gapPrgC_spec c (tkA l q) (costE_ok h).1 k2.1 w) ?_) | (show ∀ _ : Nat, T _ _ _ _ _; intro _))
            refine T_next _ rfl ?_
            rw [hnext]
            exact Hle.refl _
          · have e : cellC c l b i q = 0 := by unfold cellC; rw [if_neg (by rw [h5]; simp), if_neg (by rw [h6]; simp), if_neg (by rw [h7]; simp)]
            rw [e, Int.add_zero] at hnext
            repeat' (first | refine d1 ?_ | refine dd ?_ | (show ∀ _ : Nat, T _ _ _ _ _; intro _))
            refine T_next _ rfl ?_
            rw [hnext]
            exact Hle.refl _
    · rintro D Hn rfl
      show T _ _ _ _ (dfr D :: blk g [.int .i64 k] 3 :: blk ps _ 3 :: _)
      have e : psum (cellC c l b) ((pairsL k).take (pairVs k).length) = (columnV c l b).1 := by
        rw [hcv, show (pairVs k).length = (pairsL k).length by unfold pairVs; rw [List.length_map], List.take_length, hn]
      rw [e]
      repeat' (first | refine d1 ?_ | refine dd ?_ | (show ∀ _ : Nat, T _ _ _ _ _; intro _) | (show T _ (.code .ret :: _) _ _ _; refine T_retD (Hle.refl _) (rf_V (vs := [.int .i64 (columnV c l b).1, .int .i64 0]) [] rfl (Hle.none _) ⟨?_, rfl⟩)))
      rw [hcv]; rfl

end Go.Proofs.YtofikdpbagnjbaaGreatDoor
namespace Go.Proofs.YtofikdpbagnjbaaGreatDoor
open Go.RowKit Go.Shelf Go.Proofs
set_option maxRecDepth 100000
set_option maxHeartbeats 1000000

def hdr (n : Nat) (x : Nat × List Value) : Value := .slice (some ⟨x.1, 0, none⟩) n (n + 1)
end Go.Proofs.YtofikdpbagnjbaaGreatDoor
namespace Go.Proofs.YtofikdpbagnjbaaGreatDoor

end Go.Proofs.YtofikdpbagnjbaaGreatDoor
namespace Go.Proofs.YtofikdpbagnjbaaGreatDoor

theorem Rd.ints {w : World} {x : Value} {p : List Int} (h : Rd (wr w) [x] [intsD p]) : ∃ A cap, x = .slice A p.length cap ∧ p.length ≤ 9223372036854775807 ∧ Src w 1 A p.length (p.map (Value.int .i64)) := by
  have h' : Rd (wr w) [x] [.s 1 ((p.map (Value.int .i64)).map .v)] := by rw [List.map_map]; exact h
  obtain ⟨A, n, cap, rfl, h1, h2, h3, h4⟩ := h'.srcV
  have e : n = p.length := by simpa using h1.symm
  subst e
  exact ⟨A, cap, rfl, by omega, h4⟩
theorem list_eq_of {α : Type} {p q : List α} (hl : p.length = q.length) (h : ∀ j, j < p.length → p[j]? = q[j]?) : p = q :=
  List.ext_getElem? fun j => by
    rcases Nat.lt_or_ge j p.length with h1 | h1
    · exact h j h1
    · rw [List.getElem?_eq_none h1, List.getElem?_eq_none (by omega)]
end Go.Proofs.YtofikdpbagnjbaaGreatDoor
namespace Go.Proofs.YtofikdpbagnjbaaGreatDoor
open Go.RowKit Go.Shelf Go.Proofs
set_option maxRecDepth 100000
set_option maxHeartbeats 1000000

def grdOf (c : Costs) (a b : List Tok) : Grd := ⟨a.length, b.length, fun i k => pairC c (tkA a i) (tkA b k), fun i => gapC c (tkA a i), fun k => gapC c (tkA b k)⟩
theorem grdOf_ok {c : Costs} (hc : costE c = 0) (a b : List Tok) : GOk (grdOf c a b) 1000 := by
  obtain ⟨c1, c2, c3, c4, c5⟩ := costE_ok hc
  refine ⟨fun i k => ?_, fun i => ?_, fun k => ?_⟩
  · have := pairC_bd hc (tkA a i) (tkA b k); show 0 ≤ pairC _ _ _ ∧ pairC _ _ _ ≤ 1000; omega
  · have := gapC_bd hc (tkA a i); show 0 ≤ gapC _ _ ∧ gapC _ _ ≤ 1000; omega
  · have := gapC_bd hc (tkA b k); show 0 ≤ gapC _ _ ∧ gapC _ _ ≤ 1000; omega
def gaL (c : Costs) (a : List Tok) : List Int := a.map (gapC c)
theorem gaL_get {c : Costs} {a : List Tok} {i : Nat} (h : i < a.length) : (gaL c a)[i]? = some (gapC c (tkA a i)) := by unfold gaL; rw [List.getElem?_map, tkA_get h]; rfl
def ckV (c : Costs) (a b : List Tok) : Int := if costE c ≠ 0 ∨ badL a = true ∨ badL b = true then 1 else 0
theorem badL_false {l : List Tok} : badL l = false ↔ ∀ t ∈ l, tokE t = 0 := by
  unfold badL; rw [List.any_eq_false]; simp
theorem ckV_ok {c : Costs} {a b : List Tok} (h : ckV c a b = 0) : costE c = 0 ∧ (∀ t ∈ a, tokE t = 0) ∧ ∀ t ∈ b, tokE t = 0 := by
  unfold ckV at h
  by_cases hh : costE c ≠ 0 ∨ badL a = true ∨ badL b = true
  · rw [if_pos hh] at h; omega
  · simp only [not_or, Bool.not_eq_true, Classical.not_not] at hh
    exact ⟨hh.1, badL_false.1 hh.2.1, badL_false.1 hh.2.2⟩
def srcsL (c : Costs) (A B : Option Addr) (n m ca cb : Nat) (x y : Value) : List Value := [.int .i64 c.gap, .int .i64 c.norm, .int .i64 c.letter, .int .i64 c.most, .slice A n ca, .slice B m cb, x, y]
theorem pcheck1_spec (t : Tok) (ht : t.small) (w : World) (hst : Std w) : Spec Tryz.prog 158 [t.val] w (fun v A => v = .bool (!decide (tokE t = 0)) ∧ A = []) := by
  refine spec_of sg Tryz.func158 rfl rfl rfl ?_
  repeat' (first | (show T _ (.ops _ (⟨_, .box _ _, _, _, _, _⟩ :: _) :: _) _ _ _; refine T_op (OpT.box (cs := t.cells) rfl rfl rfl rfl rfl rfl rfl (fun _ => ?_))) | refine d1 ?_ | refine dd ?_ | (show T _ (.ops _ (_ :: _) :: _) _ _ _; first | refine T_call rfl rfl rfl rfl rfl (fun w hw => tokPrg_spec t ht w (hst.cls ‹_›)) ?_ | refine T_callC rfl rfl rfl rfl rfl rfl rfl (fun hg w hw => tokPrg_spec t ht w (hst.cls ‹_›)) ?_) | (show T _ (.run _ _ (_ :: _) _ _ :: _) _ _ _; first | refine rc rfl rfl rfl rfl rfl rfl rfl (fun w hw => tokPrg_spec t ht w (hst.cls ‹_›)) ?_ | refine rcG rfl rfl rfl rfl rfl rfl rfl rfl rfl (fun hg w hw => tokPrg_spec t ht w (hst.cls ‹_›)) ?_) | (show ∀ _ : Nat, T _ _ _ _ _; intro _) | (show T _ (.code .ret :: _) _ _ _; refine T_retV [] rfl (Hle.none _) ⟨rfl, rfl⟩))
theorem pcheck_bad (c : Costs) (A B : Option Addr) (n m ca cb : Nat) (a b : List Tok) (w : World) (hst : Std w) (ha : Src w 6 A n (a.flatMap Tok.cells)) (hn : a.length = n) (hnb : n ≤ 1000)
    (hb : Src w 6 B m (b.flatMap Tok.cells)) (hm : b.length = m) (hmb : m ≤ 1000) (hsa : ∀ t ∈ a, t.small) (hsb : ∀ t ∈ b, t.small) (hk : ckV c a b ≠ 0) :
    Spec Tryz.prog 97 [c.val, .slice A n ca, .slice B m cb] w (fun v R => v = .tuple #[.agg (srcsL ⟨0, 0, 0, 0⟩ none none 0 0 0 0 (.slice none 0 0) (.slice none 0 0)).toArray, .int .i64 1] ∧ R = []) := by
  refine spec_of sg Tryz.func97 rfl rfl rfl ?_
  refine T_op (OpT.box (cs := c.cells) rfl rfl rfl rfl rfl rfl rfl (fun pc => ?_))
  repeat' (first | refine d1 ?_ | refine dd ?_ | (show T _ (.ops _ (_ :: _) :: _) _ _ _; first | refine T_call rfl rfl rfl rfl rfl (fun w hw => costPrg_spec c w) ?_ | refine T_callC rfl rfl rfl rfl rfl rfl rfl (fun hg w hw => costPrg_spec c w) ?_ | refine T_call rfl rfl rfl rfl rfl (fun w hw => containsFuncT_spec A n ca a _ [] [] (fun t => !decide (tokE t = 0)) w (rdSrc ha w ‹_›) hn (by omega) (fun x hx w' hb' => pcheck1_spec x (hsa x hx) w' ((hst.cls ‹_›).below hb'))) ?_ | refine T_callC rfl rfl rfl rfl rfl rfl rfl (fun hg w hw => containsFuncT_spec A n ca a _ [] [] (fun t => !decide (tokE t = 0)) w (rdSrc ha w ‹_›) hn (by omega) (fun x hx w' hb' => pcheck1_spec x (hsa x hx) w' ((hst.cls ‹_›).below hb'))) ?_ | refine T_call rfl rfl rfl rfl rfl (fun w hw => containsFuncT_spec B m cb b _ [] [] (fun t => !decide (tokE t = 0)) w (rdSrc hb w ‹_›) hm (by omega) (fun x hx w' hb' => pcheck1_spec x (hsb x hx) w' ((hst.cls ‹_›).below hb'))) ?_ | refine T_callC rfl rfl rfl rfl rfl rfl rfl (fun hg w hw => containsFuncT_spec B m cb b _ [] [] (fun t => !decide (tokE t = 0)) w (rdSrc hb w ‹_›) hm (by omega) (fun x hx w' hb' => pcheck1_spec x (hsb x hx) w' ((hst.cls ‹_›).below hb'))) ?_) | (show T _ (.run _ _ (_ :: _) _ _ :: _) _ _ _; first | refine rc rfl rfl rfl rfl rfl rfl rfl (fun w hw => costPrg_spec c w) ?_ | refine rcG rfl rfl rfl rfl rfl rfl rfl rfl rfl (fun hg w hw => costPrg_spec c w) ?_ | refine rc rfl rfl rfl rfl rfl rfl rfl (fun w hw => containsFuncT_spec A n ca a _ [] [] (fun t => !decide (tokE t = 0)) w (rdSrc ha w ‹_›) hn (by omega) (fun x hx w' hb' => pcheck1_spec x (hsa x hx) w' ((hst.cls ‹_›).below hb'))) ?_ | refine rcG rfl rfl rfl rfl rfl rfl rfl rfl rfl (fun hg w hw => containsFuncT_spec A n ca a _ [] [] (fun t => !decide (tokE t = 0)) w (rdSrc ha w ‹_›) hn (by omega) (fun x hx w' hb' => pcheck1_spec x (hsa x hx) w' ((hst.cls ‹_›).below hb'))) ?_ | refine rc rfl rfl rfl rfl rfl rfl rfl (fun w hw => containsFuncT_spec B m cb b _ [] [] (fun t => !decide (tokE t = 0)) w (rdSrc hb w ‹_›) hm (by omega) (fun x hx w' hb' => pcheck1_spec x (hsb x hx) w' ((hst.cls ‹_›).below hb'))) ?_ | refine rcG rfl rfl rfl rfl rfl rfl rfl rfl rfl (fun hg w hw => containsFuncT_spec B m cb b _ [] [] (fun t => !decide (tokE t = 0)) w (rdSrc hb w ‹_›) hm (by omega) (fun x hx w' hb' => pcheck1_spec x (hsb x hx) w' ((hst.cls ‹_›).below hb'))) ?_) | (show ∀ _ : Nat, T _ _ _ _ _; intro _))
  rename_i p6
  refine T_if rfl (fun h => ?_) (fun h => ?_)
  · repeat' (first | refine d1 ?_ | refine dd ?_ | (show T _ (.ops _ (_ :: _) :: _) _ _ _; refine T_op (OpT.storeA rfl rfl rfl rfl rfl rfl (by decide) ?_)) | (show ∀ _ : Nat, T _ _ _ _ _; intro _))
    exact T_retM (vs := [.agg (srcsL ⟨0, 0, 0, 0⟩ none none 0 0 0 0 (.slice none 0 0) (.slice none 0 0)).toArray, .int .i64 1]) [] ⟨⟨p6, _, srcsL ⟨0, 0, 0, 0⟩ none none 0 0 0 0 (.slice none 0 0) (.slice none 0 0), rfl, rfl, rfl, rfl, (fun h => by cases h), rfl, rdAll⟩, rfl, trivial⟩ (Hle.none _) ⟨rfl, rfl⟩
  · exfalso
    apply hk
    simp only [Bool.or_eq_false_iff, Bool.not_eq_false', decide_eq_true_eq] at h
    unfold ckV badL
    rw [if_neg]
    rw [h.1.2, h.2]
    simp [h.1.1]
theorem size_law {n m : Nat} (h : n ≤ 1000) (k : m ≤ 1000) : 0 ≤ ((n : Int) + 1) * ((m : Int) + 1) ∧ ((n : Int) + 1) * ((m : Int) + 1) ≤ 1048576 := by
  have := Nat.mul_le_mul (show n + 1 ≤ 1001 by omega) (show m + 1 ≤ 1001 by omega)
  have e : ((n : Int) + 1) * ((m : Int) + 1) = ((n + 1) * (m + 1) : Nat) := by push_cast; rfl
  omega
theorem gaL_take {c : Costs} {a : List Tok} {k : Nat} (h : k < a.length) : ((gaL c a).take (k + 1)).map (Value.int .i64) = ((gaL c a).take k).map (Value.int .i64) ++ [.int .i64 (gapC c (tkA a k))] := by
  rw [take_snoc _ _ _ (gaL_get h), List.map_append]; rfl
theorem gaL_length (c : Costs) (a : List Tok) : (gaL c a).length = a.length := by simp [gaL]
theorem pcheck_ok (c : Costs) (A B : Option Addr) (n m ca cb : Nat) (a b : List Tok) (w : World) (hst : Std w) (ha : Src w 6 A n (a.flatMap Tok.cells)) (hn : a.length = n) (hnb : n ≤ 1000)
    (hb : Src w 6 B m (b.flatMap Tok.cells)) (hm : b.length = m) (hmb : m ≤ 1000) (hsa : ∀ t ∈ a, t.small) (hsb : ∀ t ∈ b, t.small) (hk : ckV c a b = 0) :
    Spec Tryz.prog 97 [c.val, .slice A n ca, .slice B m cb] w (fun v R => ∃ x : Value × Value, v = .tuple #[.agg (srcsL c A B n m ca cb x.1 x.2).toArray, .int .i64 0] ∧ R = [dat [x.1] [intsD (gaL c a)], dat [x.2] [intsD (gaL c b)]]) := by
  obtain ⟨hc, ka, kb⟩ := ckV_ok hk
  obtain ⟨c1, c2, c3, c4, c5⟩ := costE_ok hc
  have hga : ∀ i, i < n → gapV c (tkA a i) = (gapC c (tkA a i), 0) := fun i hi => by unfold gapV; rw [if_pos ⟨hc, ka _ (tkA_mem (by omega))⟩]
  have hgb : ∀ i, i < m → gapV c (tkA b i) = (gapC c (tkA b i), 0) := fun i hi => by unfold gapV; rw [if_pos ⟨hc, kb _ (tkA_mem (by omega))⟩]
  have hsz := size_law hnb hmb
  refine spec_of sg Tryz.func97 rfl rfl rfl ?_
  refine T_op (OpT.box (cs := c.cells) rfl rfl rfl rfl rfl rfl rfl (fun pc => ?_))
  repeat' (first | refine d1 ?_ | refine dd ?_ | (show T _ (.ops _ (_ :: _) :: _) _ _ _; first | refine T_call rfl rfl rfl rfl rfl (fun w hw => costPrg_spec c w) ?_ | refine T_callC rfl rfl rfl rfl rfl rfl rfl (fun hg w hw => costPrg_spec c w) ?_ | refine T_call rfl rfl rfl rfl rfl (fun w hw => containsFuncT_spec A n ca a _ [] [] (fun t => !decide (tokE t = 0)) w (rdSrc ha w ‹_›) hn (by omega) (fun x hx w' hb' => pcheck1_spec x (hsa x hx) w' ((hst.cls ‹_›).below hb'))) ?_ | refine T_callC rfl rfl rfl rfl rfl rfl rfl (fun hg w hw => containsFuncT_spec A n ca a _ [] [] (fun t => !decide (tokE t = 0)) w (rdSrc ha w ‹_›) hn (by omega) (fun x hx w' hb' => pcheck1_spec x (hsa x hx) w' ((hst.cls ‹_›).below hb'))) ?_ | refine T_call rfl rfl rfl rfl rfl (fun w hw => containsFuncT_spec B m cb b _ [] [] (fun t => !decide (tokE t = 0)) w (rdSrc hb w ‹_›) hm (by omega) (fun x hx w' hb' => pcheck1_spec x (hsb x hx) w' ((hst.cls ‹_›).below hb'))) ?_ | refine T_callC rfl rfl rfl rfl rfl rfl rfl (fun hg w hw => containsFuncT_spec B m cb b _ [] [] (fun t => !decide (tokE t = 0)) w (rdSrc hb w ‹_›) hm (by omega) (fun x hx w' hb' => pcheck1_spec x (hsb x hx) w' ((hst.cls ‹_›).below hb'))) ?_) | (show T _ (.run _ _ (_ :: _) _ _ :: _) _ _ _; first | refine rc rfl rfl rfl rfl rfl rfl rfl (fun w hw => costPrg_spec c w) ?_ | refine rcG rfl rfl rfl rfl rfl rfl rfl rfl rfl (fun hg w hw => costPrg_spec c w) ?_ | refine rc rfl rfl rfl rfl rfl rfl rfl (fun w hw => containsFuncT_spec A n ca a _ [] [] (fun t => !decide (tokE t = 0)) w (rdSrc ha w ‹_›) hn (by omega) (fun x hx w' hb' => pcheck1_spec x (hsa x hx) w' ((hst.cls ‹_›).below hb'))) ?_ | refine rcG rfl rfl rfl rfl rfl rfl rfl rfl rfl (fun hg w hw => containsFuncT_spec A n ca a _ [] [] (fun t => !decide (tokE t = 0)) w (rdSrc ha w ‹_›) hn (by omega) (fun x hx w' hb' => pcheck1_spec x (hsa x hx) w' ((hst.cls ‹_›).below hb'))) ?_ | refine rc rfl rfl rfl rfl rfl rfl rfl (fun w hw => containsFuncT_spec B m cb b _ [] [] (fun t => !decide (tokE t = 0)) w (rdSrc hb w ‹_›) hm (by omega) (fun x hx w' hb' => pcheck1_spec x (hsb x hx) w' ((hst.cls ‹_›).below hb'))) ?_ | refine rcG rfl rfl rfl rfl rfl rfl rfl rfl rfl (fun hg w hw => containsFuncT_spec B m cb b _ [] [] (fun t => !decide (tokE t = 0)) w (rdSrc hb w ‹_›) hm (by omega) (fun x hx w' hb' => pcheck1_spec x (hsb x hx) w' ((hst.cls ‹_›).below hb'))) ?_) | (show ∀ _ : Nat, T _ _ _ _ _; intro _))
  rename_i p6
  refine T_if rfl (fun h => ?_) (fun h => ?_)
  · exfalso
    rw [hc] at h
    have e1 := badL_false.2 ka
    have e2 := badL_false.2 kb
    unfold badL at e1 e2
    rw [e1, e2] at h
    simp at h
  repeat' (first | refine d1 ?_ | refine dd ?_ | (show ∀ _ : Nat, T _ _ _ _ _; intro _))
  refine T_if rfl (fun h2 => ?_) (fun h2 => ?_)
  · exfalso
    simp only [Bool.or_eq_true, decide_eq_true_eq] at h2
    omega
  repeat' (first | refine d1 ?_ | refine dd ?_ | (show T _ (.ops _ (_ :: _) :: _) _ _ _; first | refine T_val rfl (Val.buildA rfl) rfl rfl rfl ?_ | refine T_valC rfl (Val.buildA rfl) rfl rfl rfl rfl rfl ?_ | refine T_op (OpT.storeA rfl rfl rfl rfl rfl rfl (by decide) ?_)) | (show T _ (.run _ _ (_ :: _) _ _ :: _) _ _ _; first | refine rv rfl rfl rfl (Val.buildA rfl) rfl rfl rfl ?_ | refine rg rfl rfl rfl (Val.buildA rfl) rfl rfl rfl rfl rfl ?_) | (show ∀ _ : Nat, T _ _ _ _ _; intro _))
  rename_i p9
  refine T_le (H' := [blk p9 (srcsL c A B n m ca cb (.slice none 0 0) (.slice none 0 0)) 106, blk p6 _ 106, blk pc c.cells 23]) (Hle.refl _) ?_
  refine T_nilrow 3 1 ?_
  refine T_nilrow 3 1 ?_
  refine T_loopX (fun x : Nat × (Option Addr × Nat) × (Option Addr × Nat) => [(56, .int .i64 x.1)]) (fun x => [row 3 1 x.2.1.1 x.2.1.2 (if 0 < x.1 then n else 0) (if 0 < x.1 then (gaL c a).map (Value.int .i64) else []), row 3 1 x.2.2.1 x.2.2.2 (if 1 < x.1 then m else 0) (if 1 < x.1 then (gaL c b).map (Value.int .i64) else []), blk p9 (srcsL c A B n m ca cb (.slice x.2.1.1 (if 0 < x.1 then n else 0) x.2.1.2) (.slice x.2.2.1 (if 1 < x.1 then m else 0) x.2.2.2)) 106, blk p6 (srcsL ⟨0, 0, 0, 0⟩ none none 0 0 0 0 (.slice none 0 0) (.slice none 0 0)) 106, blk pc c.cells 23]) (fun x => x.1 ≤ 2) (fun x => 2 - x.1) (0, (none, 0), (none, 0)) (Nat.zero_le _) ?_
  rintro ⟨i, ⟨A1, cap1⟩, ⟨A2, cap2⟩⟩ hi
  dsimp only at hi ⊢
  repeat' (first | refine d1 ?_ | refine dd ?_ | (show ∀ _ : Nat, T _ _ _ _ _; intro _))
  refine T_if rfl (fun h3 => ?_) (fun h3 => ?_)
  · simp only [decide_eq_true_eq] at h3
    rcases (show i = 0 ∨ i = 1 by omega) with rfl | rfl
    · refine T_le (H' := [row 3 1 A1 cap1 0 [], row 3 1 A2 cap2 0 [], blk p9 (srcsL c A B n m ca cb (.slice A1 0 cap1) (.slice A2 0 cap2)) 106, blk p6 _ 106, blk pc c.cells 23]) (Hle.refl _) ?_
      repeat' (first | refine d1 ?_ | refine dd ?_ | (show T _ (.ops _ (_ :: _) :: _) _ _ _; first | refine T_val rfl (Val.indexA rfl (fun _ => by omega)) rfl rfl rfl ?_ | refine T_valC rfl (Val.indexA rfl (fun _ => by omega)) rfl rfl rfl rfl rfl ?_) | (show T _ (.run _ _ (_ :: _) _ _ :: _) _ _ _; first | refine rv rfl rfl rfl (Val.indexA rfl (fun _ => by omega)) rfl rfl rfl ?_ | refine rg rfl rfl rfl (Val.indexA rfl (fun _ => by omega)) rfl rfl rfl rfl rfl ?_) | (show ∀ _ : Nat, T _ _ _ _ _; intro _))
      refine T_loopX (fun x : Nat × Option Addr × Nat => [(62, .int .i64 x.1)]) (fun x => [row 3 1 x.2.1 x.2.2 x.1 (((gaL c a).take x.1).map (Value.int .i64)), row 3 1 A2 cap2 0 [], blk p9 (srcsL c A B n m ca cb (.slice x.2.1 x.1 x.2.2) (.slice A2 0 cap2)) 106, blk p6 (srcsL ⟨0, 0, 0, 0⟩ none none 0 0 0 0 (.slice none 0 0) (.slice none 0 0)) 106, blk pc c.cells 23]) (fun x => x.1 ≤ n) (fun x => n - x.1) (0, A1, cap1) (Nat.zero_le _) ?_
      rintro ⟨k, A1', cap1'⟩ hk1
      dsimp only at hk1 ⊢
      repeat' (first | refine d1 ?_ | refine dd ?_ | (show ∀ _ : Nat, T _ _ _ _ _; intro _))
      refine T_if rfl (fun h4 => ?_) (fun h4 => ?_)
      · simp only [decide_eq_true_eq] at h4
        obtain ⟨bx, ox, rfl⟩ := ha.base (by omega)
        have hr1 : RdC w bx (ox + (k : Int).toNat * 6) (tkA a k).cells := ha.getT (by omega) (tkA_get (by omega))
        repeat' (first | refine d1 ?_ | refine dd ?_ | (show T _ (.ops _ (_ :: _) :: _) _ _ _; first | refine T_call rfl rfl rfl rfl rfl (fun w hw => gapTop_spec c (tkA a k) (hsa _ (tkA_mem (by omega))) w (hst.cls ‹_›)) ?_ | refine T_callC rfl rfl rfl rfl rfl rfl rfl (fun hg w hw => gapTop_spec c (tkA a k) (hsa _ (tkA_mem (by omega))) w (hst.cls ‹_›)) ?_) | (show T _ (.run _ _ (_ :: _) _ _ :: _) _ _ _; first | refine rc rfl rfl rfl rfl rfl rfl rfl (fun w hw => gapTop_spec c (tkA a k) (hsa _ (tkA_mem (by omega))) w (hst.cls ‹_›)) ?_ | refine rcG rfl rfl rfl rfl rfl rfl rfl rfl rfl (fun hg w hw => gapTop_spec c (tkA a k) (hsa _ (tkA_mem (by omega))) w (hst.cls ‹_›)) ?_) | (show ∀ _ : Nat, T _ _ _ _ _; intro _))
        rw [hga k (by omega)]
        refine T_if rfl (fun h5 => ?_) (fun h5 => ?_)
        · cases h5
        repeat' (first | refine d1 ?_ | refine dd ?_ | (show T _ (.ops _ (_ :: _) :: _) _ _ _; refine T_op (OpT.append rfl rfl rfl rfl rfl rfl rfl rfl rfl rfl (fun w hw => Src.own hw rfl) rfl (by dsimp only; omega) (by omega) (fun A' cap' hA' => ?_))) | (show ∀ _ : Nat, T _ _ _ _ _; intro _))
        refine T_backX (k + 1, A', cap') (Nat.succ_le_of_lt (by omega)) (by dsimp only; omega) (hG := ?_)
        dsimp only
        rw [gaL_take (by omega)]
        exact (Hle.tail _ _).trans (Hle.tail _ _)
      · simp only [decide_eq_false_iff_not] at h4
        obtain rfl : k = n := by omega
        repeat' (first | refine d1 ?_ | refine dd ?_ | (show ∀ _ : Nat, T _ _ _ _ _; intro _))
        refine T_backX (1, (A1', cap1'), (A2, cap2)) (show 1 ≤ 2 by omega) (show 2 - 1 < 2 - 0 by omega) (hG := ?_)
        rw [List.take_of_length_le (by rw [gaL_length]; omega)]
        exact Hle.refl _
    · refine T_le (H' := [row 3 1 A1 cap1 n ((gaL c a).map (Value.int .i64)), row 3 1 A2 cap2 0 [], blk p9 (srcsL c A B n m ca cb (.slice A1 n cap1) (.slice A2 0 cap2)) 106, blk p6 _ 106, blk pc c.cells 23]) (Hle.refl _) ?_
      repeat' (first | refine d1 ?_ | refine dd ?_ | (show T _ (.ops _ (_ :: _) :: _) _ _ _; first | refine T_val rfl (Val.indexA rfl (fun _ => by omega)) rfl rfl rfl ?_ | refine T_valC rfl (Val.indexA rfl (fun _ => by omega)) rfl rfl rfl rfl rfl ?_) | (show T _ (.run _ _ (_ :: _) _ _ :: _) _ _ _; first | refine rv rfl rfl rfl (Val.indexA rfl (fun _ => by omega)) rfl rfl rfl ?_ | refine rg rfl rfl rfl (Val.indexA rfl (fun _ => by omega)) rfl rfl rfl rfl rfl ?_) | (show ∀ _ : Nat, T _ _ _ _ _; intro _))
      refine T_loopX (fun x : Nat × Option Addr × Nat => [(62, .int .i64 x.1)]) (fun x => [row 3 1 A1 cap1 n ((gaL c a).map (Value.int .i64)), row 3 1 x.2.1 x.2.2 x.1 (((gaL c b).take x.1).map (Value.int .i64)), blk p9 (srcsL c A B n m ca cb (.slice A1 n cap1) (.slice x.2.1 x.1 x.2.2)) 106, blk p6 (srcsL ⟨0, 0, 0, 0⟩ none none 0 0 0 0 (.slice none 0 0) (.slice none 0 0)) 106, blk pc c.cells 23]) (fun x => x.1 ≤ m) (fun x => m - x.1) (0, A2, cap2) (Nat.zero_le _) ?_
      rintro ⟨k, A1', cap1'⟩ hk1
      dsimp only at hk1 ⊢
      repeat' (first | refine d1 ?_ | refine dd ?_ | (show ∀ _ : Nat, T _ _ _ _ _; intro _))
      refine T_if rfl (fun h4 => ?_) (fun h4 => ?_)
      · simp only [decide_eq_true_eq] at h4
        obtain ⟨bx, ox, rfl⟩ := hb.base (by omega)
        have hr1 : RdC w bx (ox + (k : Int).toNat * 6) (tkA b k).cells := hb.getT (by omega) (tkA_get (by omega))
        repeat' (first | refine d1 ?_ | refine dd ?_ | (show T _ (.ops _ (_ :: _) :: _) _ _ _; first | refine T_call rfl rfl rfl rfl rfl (fun w hw => gapTop_spec c (tkA b k) (hsb _ (tkA_mem (by omega))) w (hst.cls ‹_›)) ?_ | refine T_callC rfl rfl rfl rfl rfl rfl rfl (fun hg w hw => gapTop_spec c (tkA b k) (hsb _ (tkA_mem (by omega))) w (hst.cls ‹_›)) ?_) | (show T _ (.run _ _ (_ :: _) _ _ :: _) _ _ _; first | refine rc rfl rfl rfl rfl rfl rfl rfl (fun w hw => gapTop_spec c (tkA b k) (hsb _ (tkA_mem (by omega))) w (hst.cls ‹_›)) ?_ | refine rcG rfl rfl rfl rfl rfl rfl rfl rfl rfl (fun hg w hw => gapTop_spec c (tkA b k) (hsb _ (tkA_mem (by omega))) w (hst.cls ‹_›)) ?_) | (show ∀ _ : Nat, T _ _ _ _ _; intro _))
        rw [hgb k (by omega)]
        refine T_if rfl (fun h5 => ?_) (fun h5 => ?_)
        · cases h5
        repeat' (first | refine d1 ?_ | refine dd ?_ | (show T _ (.ops _ (_ :: _) :: _) _ _ _; refine T_op (OpT.append rfl rfl rfl rfl rfl rfl rfl rfl rfl rfl (fun w hw => Src.own hw rfl) rfl (by dsimp only; omega) (by omega) (fun A' cap' hA' => ?_))) | (show ∀ _ : Nat, T _ _ _ _ _; intro _))
        refine T_backX (k + 1, A', cap') (Nat.succ_le_of_lt (by omega)) (by dsimp only; omega) (hG := ?_)
        dsimp only
        rw [gaL_take (by omega)]
        exact (Hle.tail _ _).trans (Hle.tail _ _)
      · simp only [decide_eq_false_iff_not] at h4
        obtain rfl : k = m := by omega
        repeat' (first | refine d1 ?_ | refine dd ?_ | (show ∀ _ : Nat, T _ _ _ _ _; intro _))
        refine T_backX (2, (A1, cap1), (A1', cap1')) (show 2 ≤ 2 by omega) (show 2 - 2 < 2 - 1 by omega) (hG := ?_)
        rw [List.take_of_length_le (by rw [gaL_length]; omega)]
        exact Hle.refl _
  simp only [decide_eq_false_iff_not] at h3
  obtain rfl : i = 2 := by omega
  refine T_le (H' := [row 3 1 A1 cap1 n ((gaL c a).map (Value.int .i64)), row 3 1 A2 cap2 m ((gaL c b).map (Value.int .i64)), blk p9 (srcsL c A B n m ca cb (.slice A1 n cap1) (.slice A2 m cap2)) 106, blk p6 (srcsL ⟨0, 0, 0, 0⟩ none none 0 0 0 0 (.slice none 0 0) (.slice none 0 0)) 106, blk pc c.cells 23]) (Hle.refl _) ?_
  repeat' (first | refine d1 ?_ | refine dd ?_ | (show T _ (.ops _ (_ :: _) :: _) _ _ _; refine T_op (OpT.storeA rfl rfl rfl rfl rfl rfl (by decide) ?_)) | (show ∀ _ : Nat, T _ _ _ _ _; intro _))
  have e : ∀ (l : List Int), (l.map (Value.int .i64)).map D.v = l.map fun z => D.v (.int .i64 z) := fun l => by rw [List.map_map]; rfl
  refine T_retM (vs := [.agg (srcsL c A B n m ca cb (.slice A1 n cap1) (.slice A2 m cap2)).toArray, .int .i64 0]) [dat [.slice A1 n cap1] [intsD (gaL c a)], dat [.slice A2 m cap2] [intsD (gaL c b)]] ⟨⟨p6, _, srcsL c A B n m ca cb (.slice A1 n cap1) (.slice A2 m cap2), rfl, rfl, rfl, rfl, (fun h => by cases h), rfl, rdAll⟩, rfl, trivial⟩ ?_ ⟨(.slice A1 n cap1, .slice A2 m cap2), rfl, rfl⟩
  refine (Hle.sub (K := [row 3 1 A1 cap1 n ((gaL c a).map (Value.int .i64)), row 3 1 A2 cap2 m ((gaL c b).map (Value.int .i64))])).trans ?_
  unfold intsD
  rw [← e, ← e]
  exact (Hle.perm (List.Perm.swap _ _ _)).trans (dat_rowV.trans ((Hle.perm (List.Perm.swap _ _ _)).trans dat_rowV))
theorem ppair_spec (c : Costs) (A B : Option Addr) (n m ca cb : Nat) (a b : List Tok) (x y : Value) (i k : Nat) (w : World) (hst : Std w) (ha : Src w 6 A n (a.flatMap Tok.cells)) (hn : a.length = n)
    (hb : Src w 6 B m (b.flatMap Tok.cells)) (hm : b.length = m) (hsa : ∀ t ∈ a, t.small) (hsb : ∀ t ∈ b, t.small) (hk : ckV c a b = 0) (hi : i < n) (hkk : k < m) :
    Spec Tryz.prog 200 [.agg (srcsL c A B n m ca cb x y).toArray, .int .i64 (i : Nat), .int .i64 (k : Nat)] w (fun v R => v = .int .i64 ((grdOf c a b).p i k) ∧ R = []) := by
  obtain ⟨hc, ka, kb⟩ := ckV_ok hk
  obtain ⟨ba, oa, rfl⟩ := ha.base (by omega)
  obtain ⟨bb, ob, rfl⟩ := hb.base (by omega)
  have hr1 : RdC w ba (oa + (i : Int).toNat * 6) (tkA a i).cells := ha.getT (by omega) (tkA_get (by omega))
  have hr2 : RdC w bb (ob + (k : Int).toNat * 6) (tkA b k).cells := hb.getT (by omega) (tkA_get (by omega))
  have hp : pairV c (tkA a i) (tkA b k) = (pairC c (tkA a i) (tkA b k), 0) := by unfold pairV; rw [if_pos ⟨hc, ka _ (tkA_mem (by omega)), kb _ (tkA_mem (by omega))⟩]
  refine spec_of sg Tryz.func200 rfl rfl rfl ?_
  refine T_op (OpT.box (cs := srcsL c (some ⟨ba, oa, none⟩) (some ⟨bb, ob, none⟩) n m ca cb x y) rfl rfl rfl rfl rfl rfl rfl (fun pc => ?_))
  repeat' (first | refine d1 ?_ | refine dd ?_ | (show T _ (.ops _ (_ :: _) :: _) _ _ _; first | refine T_val rfl (Val.loadA (vs := c.cells) rfl (fun _ => rdOwn (fun j u hu => by rcases j with _ | _ | _ | _ | j <;> first | exact hu | (simp at hu))) rfl) rfl rfl rfl ?_ | refine T_valC rfl (Val.loadA (vs := c.cells) rfl (fun _ => rdOwn (fun j u hu => by rcases j with _ | _ | _ | _ | j <;> first | exact hu | (simp at hu))) rfl) rfl rfl rfl rfl rfl ?_ | refine T_call rfl rfl rfl rfl rfl (fun w hw => pairTop_spec c (tkA a i) (tkA b k) (hsa _ (tkA_mem (by omega))) (hsb _ (tkA_mem (by omega))) w (hst.cls ‹_›)) ?_ | refine T_callC rfl rfl rfl rfl rfl rfl rfl (fun hg w hw => pairTop_spec c (tkA a i) (tkA b k) (hsa _ (tkA_mem (by omega))) (hsb _ (tkA_mem (by omega))) w (hst.cls ‹_›)) ?_) | (show T _ (.run _ _ (_ :: _) _ _ :: _) _ _ _; first | refine rv rfl rfl rfl (Val.loadA (vs := c.cells) rfl (fun _ => rdOwn (fun j u hu => by rcases j with _ | _ | _ | _ | j <;> first | exact hu | (simp at hu))) rfl) rfl rfl rfl ?_ | refine rg rfl rfl rfl (Val.loadA (vs := c.cells) rfl (fun _ => rdOwn (fun j u hu => by rcases j with _ | _ | _ | _ | j <;> first | exact hu | (simp at hu))) rfl) rfl rfl rfl rfl rfl ?_ | refine rc rfl rfl rfl rfl rfl rfl rfl (fun w hw => pairTop_spec c (tkA a i) (tkA b k) (hsa _ (tkA_mem (by omega))) (hsb _ (tkA_mem (by omega))) w (hst.cls ‹_›)) ?_ | refine rcG rfl rfl rfl rfl rfl rfl rfl rfl rfl (fun hg w hw => pairTop_spec c (tkA a i) (tkA b k) (hsa _ (tkA_mem (by omega))) (hsb _ (tkA_mem (by omega))) w (hst.cls ‹_›)) ?_) | (show ∀ _ : Nat, T _ _ _ _ _; intro _) | (show T _ (.code .ret :: _) _ _ _; refine T_retV [] rfl (Hle.none _) ⟨by rw [hp]; rfl, rfl⟩))
theorem pmoves_spec (c : Costs) (A B : Option Addr) (n m ca cb : Nat) (a b : List Tok) (x y : Value) (i k : Nat) (w : World) (hst : Std w) (ha : Src w 6 A n (a.flatMap Tok.cells)) (hn : a.length = n) (hnb : n ≤ 1000)
    (hb : Src w 6 B m (b.flatMap Tok.cells)) (hm : b.length = m) (hmb : m ≤ 1000) (hsa : ∀ t ∈ a, t.small) (hsb : ∀ t ∈ b, t.small) (hk : ckV c a b = 0) (hx : Rd (wr w) [x] [intsD (gaL c a)]) (hy : Rd (wr w) [y] [intsD (gaL c b)]) (hi : i ≤ n) (hkk : k ≤ m) :
    Spec Tryz.prog 161 [.agg (srcsL c A B n m ca cb x y).toArray, .int .i64 (i : Nat), .int .i64 (k : Nat)] w (fun v R => ∃ z : Option Addr × Nat, True ∧ v = .slice z.1 (mvs (grdOf c a b) i k).length z.2 ∧ R = [row 176 3 z.1 z.2 (mvs (grdOf c a b) i k).length ((mvs (grdOf c a b) i k).flatMap Mv.cells)]) := by
  obtain ⟨A1, cap1, rfl, -, -, hA1⟩ := hx.row1
  obtain ⟨A2, cap2, rfl, -, -, hA2⟩ := hy.row1
  rw [gaL_length] at hA1 hA2
  refine spec_of sg Tryz.func161 rfl rfl rfl ?_
  refine T_op (OpT.box (cs := srcsL c A B n m ca cb (.slice A1 (gaL c a).length cap1) (.slice A2 (gaL c b).length cap2)) rfl rfl rfl rfl rfl rfl rfl (fun pc => ?_))
  rw [gaL_length, gaL_length, hn, hm]
  refine T_nilrow 176 3 ?_
  by_cases hi2 : i < n
  · by_cases hk2 : k < m
    · have em : mvs (grdOf c a b) i k = _ := mvs_both (by show i < a.length; omega) (by show k < b.length; omega)
      rw [em]
      obtain ⟨g1, o1, rfl, hg1⟩ := hA1 (by omega)
      have hr1 : RdC w g1 (o1 + (i : Int).toNat * 1) [.int .i64 (gapC c (tkA a i))] := RdC.one (by rw [off1]; exact hg1 i _ (gaL_get (by omega)))
      obtain ⟨g2, o2, rfl, hg2⟩ := hA2 (by omega)
      have hr2 : RdC w g2 (o2 + (k : Int).toNat * 1) [.int .i64 (gapC c (tkA b k))] := RdC.one (by rw [off1]; exact hg2 k _ (gaL_get (by omega)))
      repeat' (first | refine d1 ?_ | refine dd ?_ | (show ∀ _ : Nat, T _ _ _ _ _; intro _))
      refine T_if rfl (fun h => ?_) (fun h => by exfalso; simp only [Bool.and_eq_false_iff, decide_eq_false_iff_not] at h; omega)
      repeat' (first | refine d1 ?_ | refine dd ?_ | (show T _ (.ops _ (_ :: _) :: _) _ _ _; first | refine T_call rfl rfl rfl rfl rfl (fun w hw => ppair_spec c A B n m ca cb a b _ _ i k w (hst.cls ‹_›) (rdSrc ha w ‹_›) hn (rdSrc hb w ‹_›) hm hsa hsb hk (by omega) (by omega)) ?_ | refine T_callC rfl rfl rfl rfl rfl rfl rfl (fun hg w hw => ppair_spec c A B n m ca cb a b _ _ i k w (hst.cls ‹_›) (rdSrc ha w ‹_›) hn (rdSrc hb w ‹_›) hm hsa hsb hk (by omega) (by omega)) ?_ | refine T_op (OpT.append rfl rfl rfl rfl rfl rfl rfl rfl rfl rfl (fun w hw => Src.own hw rfl) rfl (by dsimp only; omega) (by omega) (fun A' cap' hA' => ?_))) | (show T _ (.run _ _ (_ :: _) _ _ :: _) _ _ _; first | refine rc rfl rfl rfl rfl rfl rfl rfl (fun w hw => ppair_spec c A B n m ca cb a b _ _ i k w (hst.cls ‹_›) (rdSrc ha w ‹_›) hn (rdSrc hb w ‹_›) hm hsa hsb hk (by omega) (by omega)) ?_ | refine rcG rfl rfl rfl rfl rfl rfl rfl rfl rfl (fun hg w hw => ppair_spec c A B n m ca cb a b _ _ i k w (hst.cls ‹_›) (rdSrc ha w ‹_›) hn (rdSrc hb w ‹_›) hm hsa hsb hk (by omega) (by omega)) ?_) | (show ∀ _ : Nat, T _ _ _ _ _; intro _))
      refine T_if rfl (fun h => ?_) (fun h => by exfalso; simp only [Bool.and_eq_false_iff, decide_eq_false_iff_not] at h; omega)
      repeat' (first | refine d1 ?_ | refine dd ?_ | (show T _ (.ops _ (_ :: _) :: _) _ _ _; first | refine T_call rfl rfl rfl rfl rfl (fun w hw => ppair_spec c A B n m ca cb a b _ _ i k w (hst.cls ‹_›) (rdSrc ha w ‹_›) hn (rdSrc hb w ‹_›) hm hsa hsb hk (by omega) (by omega)) ?_ | refine T_callC rfl rfl rfl rfl rfl rfl rfl (fun hg w hw => ppair_spec c A B n m ca cb a b _ _ i k w (hst.cls ‹_›) (rdSrc ha w ‹_›) hn (rdSrc hb w ‹_›) hm hsa hsb hk (by omega) (by omega)) ?_ | refine T_op (OpT.append rfl rfl rfl rfl rfl rfl rfl rfl rfl rfl (fun w hw => Src.own hw rfl) rfl (by dsimp only; omega) (by omega) (fun A' cap' hA' => ?_))) | (show T _ (.run _ _ (_ :: _) _ _ :: _) _ _ _; first | refine rc rfl rfl rfl rfl rfl rfl rfl (fun w hw => ppair_spec c A B n m ca cb a b _ _ i k w (hst.cls ‹_›) (rdSrc ha w ‹_›) hn (rdSrc hb w ‹_›) hm hsa hsb hk (by omega) (by omega)) ?_ | refine rcG rfl rfl rfl rfl rfl rfl rfl rfl rfl (fun hg w hw => ppair_spec c A B n m ca cb a b _ _ i k w (hst.cls ‹_›) (rdSrc ha w ‹_›) hn (rdSrc hb w ‹_›) hm hsa hsb hk (by omega) (by omega)) ?_) | (show ∀ _ : Nat, T _ _ _ _ _; intro _))
      refine T_if rfl (fun h => ?_) (fun h => by exfalso; simp only [Bool.and_eq_false_iff, decide_eq_false_iff_not] at h; omega)
      repeat' (first | refine d1 ?_ | refine dd ?_ | (show T _ (.ops _ (_ :: _) :: _) _ _ _; first | refine T_call rfl rfl rfl rfl rfl (fun w hw => ppair_spec c A B n m ca cb a b _ _ i k w (hst.cls ‹_›) (rdSrc ha w ‹_›) hn (rdSrc hb w ‹_›) hm hsa hsb hk (by omega) (by omega)) ?_ | refine T_callC rfl rfl rfl rfl rfl rfl rfl (fun hg w hw => ppair_spec c A B n m ca cb a b _ _ i k w (hst.cls ‹_›) (rdSrc ha w ‹_›) hn (rdSrc hb w ‹_›) hm hsa hsb hk (by omega) (by omega)) ?_ | refine T_op (OpT.append rfl rfl rfl rfl rfl rfl rfl rfl rfl rfl (fun w hw => Src.own hw rfl) rfl (by dsimp only; omega) (by omega) (fun A' cap' hA' => ?_))) | (show T _ (.run _ _ (_ :: _) _ _ :: _) _ _ _; first | refine rc rfl rfl rfl rfl rfl rfl rfl (fun w hw => ppair_spec c A B n m ca cb a b _ _ i k w (hst.cls ‹_›) (rdSrc ha w ‹_›) hn (rdSrc hb w ‹_›) hm hsa hsb hk (by omega) (by omega)) ?_ | refine rcG rfl rfl rfl rfl rfl rfl rfl rfl rfl (fun hg w hw => ppair_spec c A B n m ca cb a b _ _ i k w (hst.cls ‹_›) (rdSrc ha w ‹_›) hn (rdSrc hb w ‹_›) hm hsa hsb hk (by omega) (by omega)) ?_) | (show ∀ _ : Nat, T _ _ _ _ _; intro _))
      exact T_retV _ rfl (Hle.nth 3 rfl) ⟨(_, _), trivial, rfl, rfl⟩
    · have em : mvs (grdOf c a b) i k = _ := mvs_fst (by show i < a.length; omega) (by show ¬ k < b.length; omega)
      rw [em]
      obtain ⟨g1, o1, rfl, hg1⟩ := hA1 (by omega)
      have hr1 : RdC w g1 (o1 + (i : Int).toNat * 1) [.int .i64 (gapC c (tkA a i))] := RdC.one (by rw [off1]; exact hg1 i _ (gaL_get (by omega)))
      repeat' (first | refine d1 ?_ | refine dd ?_ | (show ∀ _ : Nat, T _ _ _ _ _; intro _))
      refine T_if rfl (fun h => by exfalso; simp only [Bool.and_eq_true, decide_eq_true_eq] at h; omega) (fun h => ?_)
      repeat' (first | refine d1 ?_ | refine dd ?_ | (show ∀ _ : Nat, T _ _ _ _ _; intro _))
      refine T_if rfl (fun h => ?_) (fun h => by exfalso; simp only [Bool.and_eq_false_iff, decide_eq_false_iff_not] at h; omega)
      repeat' (first | refine d1 ?_ | refine dd ?_ | (show T _ (.ops _ (_ :: _) :: _) _ _ _; first | refine T_call rfl rfl rfl rfl rfl (fun w hw => ppair_spec c A B n m ca cb a b _ _ i k w (hst.cls ‹_›) (rdSrc ha w ‹_›) hn (rdSrc hb w ‹_›) hm hsa hsb hk (by omega) (by omega)) ?_ | refine T_callC rfl rfl rfl rfl rfl rfl rfl (fun hg w hw => ppair_spec c A B n m ca cb a b _ _ i k w (hst.cls ‹_›) (rdSrc ha w ‹_›) hn (rdSrc hb w ‹_›) hm hsa hsb hk (by omega) (by omega)) ?_ | refine T_op (OpT.append rfl rfl rfl rfl rfl rfl rfl rfl rfl rfl (fun w hw => Src.own hw rfl) rfl (by dsimp only; omega) (by omega) (fun A' cap' hA' => ?_))) | (show T _ (.run _ _ (_ :: _) _ _ :: _) _ _ _; first | refine rc rfl rfl rfl rfl rfl rfl rfl (fun w hw => ppair_spec c A B n m ca cb a b _ _ i k w (hst.cls ‹_›) (rdSrc ha w ‹_›) hn (rdSrc hb w ‹_›) hm hsa hsb hk (by omega) (by omega)) ?_ | refine rcG rfl rfl rfl rfl rfl rfl rfl rfl rfl (fun hg w hw => ppair_spec c A B n m ca cb a b _ _ i k w (hst.cls ‹_›) (rdSrc ha w ‹_›) hn (rdSrc hb w ‹_›) hm hsa hsb hk (by omega) (by omega)) ?_) | (show ∀ _ : Nat, T _ _ _ _ _; intro _))
      refine T_if rfl (fun h => by exfalso; simp only [Bool.and_eq_true, decide_eq_true_eq] at h; omega) (fun h => ?_)
      repeat' (first | refine d1 ?_ | refine dd ?_ | (show ∀ _ : Nat, T _ _ _ _ _; intro _))
      exact T_retV _ rfl (Hle.nth 1 rfl) ⟨(_, _), trivial, rfl, rfl⟩
  · by_cases hk2 : k < m
    · have em : mvs (grdOf c a b) i k = _ := mvs_snd (by show ¬ i < a.length; omega) (by show k < b.length; omega)
      rw [em]
      obtain ⟨g2, o2, rfl, hg2⟩ := hA2 (by omega)
      have hr2 : RdC w g2 (o2 + (k : Int).toNat * 1) [.int .i64 (gapC c (tkA b k))] := RdC.one (by rw [off1]; exact hg2 k _ (gaL_get (by omega)))
      repeat' (first | refine d1 ?_ | refine dd ?_ | (show ∀ _ : Nat, T _ _ _ _ _; intro _))
      refine T_if rfl (fun h => by exfalso; simp only [Bool.and_eq_true, decide_eq_true_eq] at h; omega) (fun h => ?_)
      repeat' (first | refine d1 ?_ | refine dd ?_ | (show ∀ _ : Nat, T _ _ _ _ _; intro _))
      refine T_if rfl (fun h => by exfalso; simp only [Bool.and_eq_true, decide_eq_true_eq] at h; omega) (fun h => ?_)
      repeat' (first | refine d1 ?_ | refine dd ?_ | (show ∀ _ : Nat, T _ _ _ _ _; intro _))
      refine T_if rfl (fun h => ?_) (fun h => by exfalso; simp only [Bool.and_eq_false_iff, decide_eq_false_iff_not] at h; omega)
      repeat' (first | refine d1 ?_ | refine dd ?_ | (show T _ (.ops _ (_ :: _) :: _) _ _ _; first | refine T_call rfl rfl rfl rfl rfl (fun w hw => ppair_spec c A B n m ca cb a b _ _ i k w (hst.cls ‹_›) (rdSrc ha w ‹_›) hn (rdSrc hb w ‹_›) hm hsa hsb hk (by omega) (by omega)) ?_ | refine T_callC rfl rfl rfl rfl rfl rfl rfl (fun hg w hw => ppair_spec c A B n m ca cb a b _ _ i k w (hst.cls ‹_›) (rdSrc ha w ‹_›) hn (rdSrc hb w ‹_›) hm hsa hsb hk (by omega) (by omega)) ?_ | refine T_op (OpT.append rfl rfl rfl rfl rfl rfl rfl rfl rfl rfl (fun w hw => Src.own hw rfl) rfl (by dsimp only; omega) (by omega) (fun A' cap' hA' => ?_))) | (show T _ (.run _ _ (_ :: _) _ _ :: _) _ _ _; first | refine rc rfl rfl rfl rfl rfl rfl rfl (fun w hw => ppair_spec c A B n m ca cb a b _ _ i k w (hst.cls ‹_›) (rdSrc ha w ‹_›) hn (rdSrc hb w ‹_›) hm hsa hsb hk (by omega) (by omega)) ?_ | refine rcG rfl rfl rfl rfl rfl rfl rfl rfl rfl (fun hg w hw => ppair_spec c A B n m ca cb a b _ _ i k w (hst.cls ‹_›) (rdSrc ha w ‹_›) hn (rdSrc hb w ‹_›) hm hsa hsb hk (by omega) (by omega)) ?_) | (show ∀ _ : Nat, T _ _ _ _ _; intro _))
      exact T_retV _ rfl (Hle.nth 1 rfl) ⟨(_, _), trivial, rfl, rfl⟩
    · have em : mvs (grdOf c a b) i k = _ := mvs_none (by show ¬ i < a.length; omega) (by show ¬ k < b.length; omega)
      rw [em]
      repeat' (first | refine d1 ?_ | refine dd ?_ | (show ∀ _ : Nat, T _ _ _ _ _; intro _))
      refine T_if rfl (fun h => by exfalso; simp only [Bool.and_eq_true, decide_eq_true_eq] at h; omega) (fun h => ?_)
      repeat' (first | refine d1 ?_ | refine dd ?_ | (show ∀ _ : Nat, T _ _ _ _ _; intro _))
      refine T_if rfl (fun h => by exfalso; simp only [Bool.and_eq_true, decide_eq_true_eq] at h; omega) (fun h => ?_)
      repeat' (first | refine d1 ?_ | refine dd ?_ | (show ∀ _ : Nat, T _ _ _ _ _; intro _))
      refine T_if rfl (fun h => by exfalso; simp only [Bool.and_eq_true, decide_eq_true_eq] at h; omega) (fun h => ?_)
      repeat' (first | refine d1 ?_ | refine dd ?_ | (show ∀ _ : Nat, T _ _ _ _ _; intro _))
      exact T_retV _ rfl (Hle.nth 0 rfl) ⟨(_, _), trivial, rfl, rfl⟩
end Go.Proofs.YtofikdpbagnjbaaGreatDoor
namespace Go.Proofs.YtofikdpbagnjbaaGreatDoor
open Go.RowKit Go.Shelf Go.Proofs
set_option maxRecDepth 100000
set_option maxHeartbeats 1000000

theorem gridAt_spec (b o n cap b' o' n' cap' : Nat) (i k : Nat) (z : Int) (w : World) (h1 : RdC w b (o + i) [.slice (some ⟨b', o', none⟩) n' cap']) (h2 : RdC w b' (o' + k) [.int .i64 z]) (hi : i < n) (hk : k < n') :
    Spec Tryz.prog 99 [.slice (some ⟨b, o, none⟩) n cap, .int .i64 (i : Nat), .int .i64 (k : Nat)] w (fun v R => v = .int .i64 z ∧ R = []) := by
  refine spec_of sg Tryz.func99 rfl rfl rfl ?_
  rw [← off1] at h1 h2
  repeat' (first | refine d1 ?_ | refine dd ?_ | (show ∀ _ : Nat, T _ _ _ _ _; intro _) | (show T _ (.code .ret :: _) _ _ _; refine T_retV [] rfl (Hle.none _) ⟨rfl, rfl⟩))
theorem places_spec (s : List Value) (c : Costs) (A B : Option Addr) (n m ca cb : Nat) (x y : Value) (hs : s = srcsL c A B n m ca cb x y) (w : World) : Spec Tryz.prog 160 [.agg (srcsL c A B n m ca cb x y).toArray] w (fun v R => ∃ g : Nat, True ∧ v = .func (.func 199) #[] #[.pointer (some ⟨g, 0, none⟩)] ∧ R = [blk g s 106]) := by
  subst hs
  refine spec_of sg Tryz.func160 rfl rfl rfl ?_
  refine T_op (OpT.box (cs := srcsL c A B n m ca cb x y) rfl rfl rfl rfl rfl rfl rfl (fun g => ?_))
  repeat' (first | refine d1 ?_ | refine dd ?_ | (show ∀ _ : Nat, T _ _ _ _ _; intro _) | (show T _ (.code .ret :: _) _ _ _; refine T_retV _ rfl (Hle.refl _) ⟨g, trivial, rfl, rfl⟩))
def placeVs (n m : Nat) : List (List Value) := (placesL n m).map fun p => [.int .i64 (p.1 : Nat), .int .i64 (p.2 : Nat)]
theorem placeVs_at {n m j : Nat} {y : List Value} (h : (placeVs n m)[j]? = some y) : ∃ i k, (placesL n m)[j]? = some (i, k) ∧ y = [.int .i64 (i : Nat), .int .i64 (k : Nat)] := by
  unfold placeVs at h
  rw [List.getElem?_map] at h
  cases hp : (placesL n m)[j]? with
  | none => rw [hp] at h; cases h
  | some p => rw [hp] at h; exact ⟨p.1, p.2, rfl, (Option.some.inj h).symm⟩
theorem places_iter (c : Costs) (A B : Option Addr) (n m ca cb : Nat) (x y : Value) (b : Nat) (hn : n ≤ 1000) (hm : m ≤ 1000) : Iter Tryz.prog 199 [] [.pointer (some ⟨b, 0, none⟩)] [blk b (srcsL c A B n m ca cb x y) 106] (placeVs n m) := by
  refine iter_of sg Tryz.func199 rfl rfl rfl ?_
  intro w0 l GQ X Hj hY h0
  show T _ _ _ _ (blk b (srcsL c A B n m ca cb x y) 106 :: Hj)
  repeat' (first | refine d1 ?_ | refine dd ?_ | (show ∀ _ : Nat, T _ _ _ _ _; intro _))
  refine T_loopX (fun s : Nat × List HA => [(3, .int .i64 ((n : Int) - s.1))]) (fun s => blk b (srcsL c A B n m ca cb x y) 106 :: s.2) (fun s => s.1 ≤ n + 1 ∧ GQ (s.1 * (m + 1)) s.2) (fun s => n + 1 - s.1) (0, Hj) ⟨Nat.zero_le _, by rw [Nat.zero_mul]; exact h0⟩ ?_ (hE := ⟨by rw [show (n : Int) - ((0 : Nat) : Int) = n by omega]; rfl, trivial⟩)
  rintro ⟨p, H1⟩ ⟨hp, hG⟩
  dsimp only at hp hG ⊢
  repeat' (first | refine d1 ?_ | refine dd ?_ | (show ∀ _ : Nat, T _ _ _ _ _; intro _))
  refine T_if rfl (fun h => ?_) (fun h => ?_)
  · simp only [decide_eq_true_eq] at h
    repeat' (first | refine d1 ?_ | refine dd ?_ | (show ∀ _ : Nat, T _ _ _ _ _; intro _))
    refine T_loopX (fun s : Nat × List HA => [(4, .int .i64 ((m : Int) - s.1))]) (fun s => blk b (srcsL c A B n m ca cb x y) 106 :: s.2) (fun s => s.1 ≤ m + 1 ∧ GQ (p * (m + 1) + s.1) s.2) (fun s => m + 1 - s.1) (0, H1) ⟨Nat.zero_le _, hG⟩ ?_ (hE := ⟨by rw [show (m : Int) - ((0 : Nat) : Int) = m by omega]; rfl, trivial⟩)
    rintro ⟨q, H2⟩ ⟨hq, hG2⟩
    dsimp only at hq hG2 ⊢
    repeat' (first | refine d1 ?_ | refine dd ?_ | (show ∀ _ : Nat, T _ _ _ _ _; intro _))
    refine T_if rfl (fun h1 => ?_) (fun h1 => ?_)
    · simp only [decide_eq_true_eq] at h1
      have hy : (placeVs n m)[p * (m + 1) + q]? = some [.int .i64 ((n : Int) - p), .int .i64 ((m : Int) - q)] := by
        unfold placeVs; rw [List.getElem?_map, placesL_get (by omega) (by omega)]
        simp only [Option.map_some]
        rw [show ((n - p : Nat) : Int) = (n : Int) - p by omega, show ((m - q : Nat) : Int) = (m : Int) - q by omega]
      repeat' (first | refine d1 ?_ | refine dd ?_ | (show ∀ _ : Nat, T _ _ _ _ _; intro _))
      refine T_yield (K := [blk b (srcsL c A B n m ca cb x y) 106]) hY rfl rfl rfl rfl hy hG2 (Hle.comm [_] H2) (fun J => Hle.comm J [_]) (fun H3 hG3 => ?_) (fun Y hX => ?_)
      · show T _ _ _ _ (blk b (srcsL c A B n m ca cb x y) 106 :: H3)
        repeat' (first | refine d1 ?_ | refine dd ?_ | (show ∀ _ : Nat, T _ _ _ _ _; intro _) | (show T _ (.code (.cond _ _ _) :: _) _ _ _; refine T_if rfl (fun h => ?_) (fun h => ?_)))
        · exact absurd h (by decide)
        · exact T_backX (q + 1, H3) ⟨by dsimp only; omega, hG3⟩ (by dsimp only; omega) (hE := ⟨by dsimp only; rw [show (m : Int) - ((q + 1 : Nat) : Int) = (m : Int) - q - 1 by omega]; rfl, trivial⟩)
      · show T _ _ _ _ (blk b (srcsL c A B n m ca cb x y) 106 :: Y)
        repeat' (first | refine d1 ?_ | refine dd ?_ | (show ∀ _ : Nat, T _ _ _ _ _; intro _) | (show T _ (.code (.cond _ _ _) :: _) _ _ _; refine T_if rfl (fun h => ?_) (fun h => ?_)) | (show T _ (.code .ret :: _) _ _ _; refine T_istop rfl Y hX (Hle.refl _)))
        exact absurd h (by decide)
    · simp only [decide_eq_false_iff_not] at h1
      have hqm : q = m + 1 := by omega
      subst hqm
      repeat' (first | refine d1 ?_ | refine dd ?_ | (show ∀ _ : Nat, T _ _ _ _ _; intro _))
      refine T_backX (p + 1, H2) ⟨by dsimp only; omega, ?_⟩ (by dsimp only; omega) (hE := ⟨by dsimp only; rw [show (n : Int) - ((p + 1 : Nat) : Int) = (n : Int) - p - 1 by omega]; rfl, trivial⟩)
      dsimp only
      rw [Nat.succ_mul]
      exact hG2
  · simp only [decide_eq_false_iff_not] at h
    have hpn : p = n + 1 := by omega
    subst hpn
    repeat' (first | refine d1 ?_ | refine dd ?_ | (show ∀ _ : Nat, T _ _ _ _ _; intro _))
    refine T_ifall rfl H1 ?_ (Hle.refl _)
    unfold placeVs; rw [List.length_map, placesL_len]; exact hG
theorem tab_rows {n m : Nat} {f : Nat → Nat → Int} {L : List (Nat × List Value)} (hL : L.length = n + 1) (hR : RowsOk f (m + 1) L) : (L.map fun x => D.s 1 ((x.2.take (m + 1)).map .v)) = (tabR n m f).map intsD := by
  apply List.ext_getElem?
  intro i
  rw [List.getElem?_map, List.getElem?_map]
  by_cases hi : i < n + 1
  · obtain ⟨x, hx⟩ : ∃ x, L[i]? = some x := ⟨_, List.getElem?_eq_getElem (by omega)⟩
    rw [hx, tabR_get (by omega)]
    simp only [Option.map_some]
    rw [hR _ _ hx]
    congr 2
    unfold valV
    rw [List.take_of_length_le (by simp), List.map_map, List.map_map]
    rfl
  · rw [List.getElem?_eq_none (by omega), List.getElem?_eq_none (by rw [tabR_length]; omega)]; rfl
theorem RowsOk.ext {f g : Nat → Nat → Int} {n tot : Nat} {L : List (Nat × List Value)} (hL : L.length = n) (hR : RowsOk f tot L) (h : ∀ i k, i < n → k < tot → f i k = g i k) : RowsOk g tot L := by
  intro i x hx
  rw [hR i x hx]
  exact valV_ext fun k hk => h i k (by have := (List.getElem?_eq_some_iff.1 hx).1; omega) hk
theorem slv_set {m k g : Nat} {cs cs' : List Value} {M : List (Nat × List Value)} (h : M[k]? = some (g, cs)) : (M.set k (g, cs')).map (slv m) = M.map (slv m) := by
  have e0 : ∀ L : List (Nat × List Value), L.map (slv m) = (L.map Prod.fst).map fun g => Value.slice (some ⟨g, 0, none⟩) (m + 1) (m + 1) := fun L => by rw [List.map_map]; rfl
  rw [e0, e0 M, fst_set h]
theorem mvs_len (G : Grd) (i k : Nat) : (mvs G i k).length ≤ 3 := by
  unfold mvs
  (repeat' split) <;> simp
theorem mv_to {c : Costs} {a b : List Tok} {n m i k jj : Nat} {v : Mv} (hG : GOk (grdOf c a b) 1000) (hn : a.length = n) (hm : b.length = m) (hi : i ≤ n) (hk : k ≤ m) (h : (mvs (grdOf c a b) i k)[jj]? = some v) :
    i + v.fst ≤ n ∧ k + v.snd ≤ m ∧ (i < i + v.fst ∨ (i = i + v.fst ∧ k < k + v.snd)) ∧ (0 ≤ v.cost ∧ v.cost ≤ 1000) ∧ v.fst ≤ 1 ∧ v.snd ≤ 1 := by
  have q1 := hG.p i k
  have q2 := hG.g i
  have q3 := hG.h k
  have e1 : (grdOf c a b).n = n := hn
  have e2 : (grdOf c a b).m = m := hm
  rcases mvs_to (List.mem_of_getElem? h) with ⟨h1, h2, h3, h4, h5⟩ | ⟨h1, h2, h3, h5⟩ | ⟨h1, h2, h3, h5⟩
  · rw [e1] at h3; rw [e2] at h4; omega
  · rw [e1] at h3; omega
  · rw [e2] at h3; omega
theorem rst_bd2 {c : Costs} {a b : List Tok} {n m : Nat} (hG : GOk (grdOf c a b) 1000) (hn : a.length = n) (hm : b.length = m) (hnb : n ≤ 1000) (hmb : m ≤ 1000) (i k : Nat) : 0 ≤ rst (grdOf c a b) i k ∧ rst (grdOf c a b) i k ≤ 2000000 := by
  have h := rst_bd hG i k
  have e1 : (grdOf c a b).n = n := hn
  have e2 : (grdOf c a b).m = m := hm
  rw [e1, e2] at h
  omega
theorem tables_hle {n m b1 b2 : Nat} {f g : Nat → Nat → Int} {M1 M2 : List (Nat × List Value)} (hnb : n ≤ 1000) (hmb : m ≤ 1000) (hM1 : M1.length = n + 1) (hM2 : M2.length = n + 1) (hR1 : RowsOk f (m + 1) M1) (hR2 : RowsOk g (m + 1) M2) :
    Hle [blk b1 (M1.map (slv m)) 27, blks 3 M1, blk b2 (M2.map (slv m)) 27, blks 3 M2] [dat [.slice (some ⟨b1, 0, none⟩) (n + 1) (n + 1)] [rowsD (tabR n m f)], dat [.slice (some ⟨b2, 0, none⟩) (n + 1) (n + 1)] [rowsD (tabR n m g)]] := by
  have key : ∀ {b : Nat} {M : List (Nat × List Value)} {f : Nat → Nat → Int} {H : List HA}, M.length = n + 1 → RowsOk f (m + 1) M → Hle (blk b (M.map (slv m)) 27 :: blks 3 M :: H) (dat [.slice (some ⟨b, 0, none⟩) (n + 1) (n + 1)] [rowsD (tabR n m f)] :: H) := fun {b M f H} hM hR => by
    have q1 : ∀ x ∈ M, m + 1 ≤ x.2.length := fun x hx => by obtain ⟨i, hi, e⟩ := List.getElem_of_mem hx; rw [hR i x (by rw [List.getElem?_eq_getElem hi, e]), valV_length]; omega
    refine (Hle.perm (List.Perm.swap _ _ _)).trans ?_
    refine (dat_blks (L := M) (m + 1) (m + 1) (by omega) (by omega) q1).trans ?_
    refine (Hle.perm (List.Perm.swap _ _ _)).trans ?_
    rw [tab_rows hM hR]
    exact dat_blk (sz := 1) (n := n + 1) (by rw [List.length_map, hM]; omega) (by omega)
  refine (key hM1 hR1).trans ?_
  refine (Hle.perm (List.perm_append_comm (l₁ := [_]) (l₂ := [_, _]))).trans ?_
  exact (key hM2 hR2).trans (Hle.perm (List.Perm.swap _ _ _))
theorem rows_snoc0 {L : List (Nat × List Value)} {g tot : Nat} (h : RowsOk (fun _ _ => 0) tot L) : RowsOk (fun _ _ => 0) tot (L ++ [(g, List.replicate tot (.int .i64 0))]) := by
  intro i x hx
  rcases Nat.lt_or_ge i L.length with h1 | h1
  · rw [List.getElem?_append_left h1] at hx; exact h i x hx
  · rw [List.getElem?_append_right h1] at hx
    have h2 : i - L.length = 0 := by have := (List.getElem?_eq_some_iff.1 hx).1; simp at this; omega
    rw [h2] at hx
    simp at hx
    subst hx
    exact valV_replicate _
theorem pgrid_spec (c : Costs) (A B : Option Addr) (n m ca cb : Nat) (a b : List Tok) (x y : Value) (w : World) (hst : Std w) (ha : Src w 6 A n (a.flatMap Tok.cells)) (hn : a.length = n) (hnb : n ≤ 1000)
    (hb : Src w 6 B m (b.flatMap Tok.cells)) (hm : b.length = m) (hmb : m ≤ 1000) (hsa : ∀ t ∈ a, t.small) (hsb : ∀ t ∈ b, t.small) (hk : ckV c a b = 0) (hx : Rd (wr w) [x] [intsD (gaL c a)]) (hy : Rd (wr w) [y] [intsD (gaL c b)]) :
    Spec Tryz.prog 98 [.agg (srcsL c A B n m ca cb x y).toArray] w (fun v R => ∃ z : Value × Value, v = .tuple #[z.1, z.2] ∧ R = [dat [z.1] [rowsD (tabR n m (rst (grdOf c a b)))], dat [z.2] [rowsD (tabR n m (wys (grdOf c a b)))]]) := by
  obtain ⟨hc, ka, kb⟩ := ckV_ok hk
  have hG := grdOf_ok hc a b
  refine spec_of sg Tryz.func98 rfl rfl rfl ?_
  refine T_op (OpT.box (cs := srcsL c A B n m ca cb x y) rfl rfl rfl rfl rfl rfl rfl (fun pc => ?_))
  repeat' (first | refine d1 ?_ | (show ∀ _ : Nat, T _ _ _ _ _; intro _))
  refine T_cutX 1 [4, 5] (fun s : Nat × Nat × Nat × Nat => [(4, .pointer (some ⟨s.1, 0, none⟩)), (5, .pointer (some ⟨s.2.1, 0, none⟩))]) (fun s => [blk s.1 [.slice (some ⟨s.2.2.1, 0, none⟩) (n + 1) (n + 1)] 109, blk s.2.1 [.slice (some ⟨s.2.2.2, 0, none⟩) (n + 1) (n + 1)] 109, blk s.2.2.1 (List.replicate (n + 1) (.slice none 0 0)) 27, blk s.2.2.2 (List.replicate (n + 1) (.slice none 0 0)) 27, blk pc (srcsL c A B n m ca cb x y) 106]) (fun _ => True) ?_ ?_
  · refine dw0 1000 [blk pc (srcsL c A B n m ca cb x y) 106] ?_
    repeat' (first | (show T _ (.draw _ _ _ _ _ :: _) _ _ _; first | refine dw1 ?_ | refine dwb rfl (by decide +kernel) ?_) | (show AllL _ []; exact True.intro) | (show AllL _ (_ :: _); refine ⟨?_, ?_⟩) | (show OpT _ _ _ _ _ _ _; first | refine dwx ?_) | (show ∀ _ : Nat, T _ _ _ _ _; intro _) | (show T _ (.mark _ :: _) _ _ _; exact T_meetX (_, _, _, _) trivial (hG := by exact Hle.srt)))
  rintro ⟨p4, p5, b1, b2⟩ _
  dsimp only
  repeat' (first | refine d1 ?_ | (show ∀ _ : Nat, T _ _ _ _ _; intro _))
  refine T_nilblks 3 ?_
  refine T_nilblks 3 ?_
  refine T_loopX (fun L : List (Nat × List Value) × List (Nat × List Value) => [(27, .int .i64 L.1.length)]) (fun L => [blks 3 L.1, blks 3 L.2, blk p4 [.slice (some ⟨b1, 0, none⟩) (n + 1) (n + 1)] 109, blk p5 [.slice (some ⟨b2, 0, none⟩) (n + 1) (n + 1)] 109, blk b1 (L.1.map (slv m) ++ List.replicate (n + 1 - L.1.length) (.slice none 0 0)) 27, blk b2 (L.2.map (slv m) ++ List.replicate (n + 1 - L.1.length) (.slice none 0 0)) 27, blk pc (srcsL c A B n m ca cb x y) 106])
    (fun L => L.1.length ≤ n + 1 ∧ L.2.length = L.1.length ∧ RowsOk (fun _ _ => 0) (m + 1) L.1 ∧ RowsOk (fun _ _ => 0) (m + 1) L.2) (fun L => n + 1 - L.1.length) ([], []) ⟨Nat.zero_le _, rfl, fun i x h => by simp at h, fun i x h => by simp at h⟩ ?_
  rintro ⟨L1, L2⟩ ⟨hl1, hl2, hR1, hR2⟩
  dsimp only at hl1 hl2 hR1 hR2 ⊢
  repeat' (first | refine d1 ?_ | refine dd ?_ | (show ∀ _ : Nat, T _ _ _ _ _; intro _))
  refine T_if rfl (fun h => ?_) (fun h => ?_)
  · simp only [decide_eq_true_eq] at h
    have hlt : L1.length < n + 1 := by omega
    repeat' (first | refine d1 ?_ | (show ∀ _ : Nat, T _ _ _ _ _; intro _))
    refine T_cutX 1 [] (fun _ : Nat × Nat => []) (fun g => [blk b1 ((L1.map (slv m) ++ List.replicate (n + 1 - L1.length) (Value.slice none 0 0)).set (0 + (L1.length : Int).toNat * 1) (Value.slice (some ⟨g.1, 0, none⟩) (m + 1) (m + 1))) 27, blk b2 ((L2.map (slv m) ++ List.replicate (n + 1 - L1.length) (Value.slice none 0 0)).set (0 + (L1.length : Int).toNat * 1) (Value.slice (some ⟨g.2, 0, none⟩) (m + 1) (m + 1))) 27, blk g.1 (List.replicate (m + 1) (.int .i64 0)) 3, blks 3 L1, blk g.2 (List.replicate (m + 1) (.int .i64 0)) 3, blks 3 L2, blk p4 [.slice (some ⟨b1, 0, none⟩) (n + 1) (n + 1)] 109, blk p5 [.slice (some ⟨b2, 0, none⟩) (n + 1) (n + 1)] 109, blk pc (srcsL c A B n m ca cb x y) 106]) (fun _ => True) ?_ ?_
    · refine dw0 1000 [blk p4 [.slice (some ⟨b1, 0, none⟩) (n + 1) (n + 1)] 109, blk p5 [.slice (some ⟨b2, 0, none⟩) (n + 1) (n + 1)] 109, blk pc (srcsL c A B n m ca cb x y) 106] ?_
      repeat' (first | (show T _ (.draw _ _ _ _ _ :: _) _ _ _; first | refine dw1 ?_ | refine dwb rfl (by decide +kernel) ?_) | (show AllL _ []; exact True.intro) | (show AllL _ (_ :: _); refine ⟨?_, ?_⟩) | (show OpT _ _ _ _ _ _ _; first | refine dwx ?_ | refine OpT.store rfl rfl rfl rfl (by simp; omega) ⟨fun _ => (by first | exact Hle.none _ | exact Hle.sub | exact absurd ‹_› (by decide +kernel)), ?_⟩) | (show ∀ _ : Nat, T _ _ _ _ _; intro _) | (show T _ (.mark _ :: _) _ _ _; exact T_meetX (_, _) trivial (hG := by exact Hle.srt)))
    rintro ⟨g1, g2⟩ _
    dsimp only
    repeat' (first | refine d1 ?_ | refine dd ?_ | (show ∀ _ : Nat, T _ _ _ _ _; intro _))
    refine T_backX (L1 ++ [(g1, List.replicate (m + 1) (.int .i64 0))], L2 ++ [(g2, List.replicate (m + 1) (.int .i64 0))]) ⟨by dsimp only; rw [List.length_append]; exact Nat.succ_le_of_lt hlt, by simp [hl2], rows_snoc0 hR1, rows_snoc0 hR2⟩ (by dsimp only; rw [List.length_append]; simp; omega) (hE := ⟨by dsimp only; rw [List.length_append]; rfl, trivial⟩) (hG := ?_)
    dsimp only
    rw [show 0 + (L1.length : Int).toNat * 1 = L1.length by omega, set_boundary _ _ _ _ _ (by omega) (by simp), set_boundary _ _ _ _ _ (by omega) (by simp [hl2])]
    have e : ∀ (L : List (Nat × List Value)) (g : Nat), L.map (slv m) ++ [Value.slice (some ⟨g, 0, none⟩) (m + 1) (m + 1)] ++ List.replicate (n + 1 - L1.length - 1) (Value.slice none 0 0) = (L ++ [(g, List.replicate (m + 1) (Value.int .i64 0))]).map (slv m) ++ List.replicate (n + 1 - (L1 ++ [(g1, List.replicate (m + 1) (Value.int .i64 0))]).length) (Value.slice none 0 0) := fun L g => by
      rw [List.map_append, List.length_append, show n + 1 - L1.length - 1 = n + 1 - (L1.length + 1) by omega]; rfl
    rw [e, e]
    refine (Hle.srt (K := [blk g1 (List.replicate (m + 1) (Value.int .i64 0)) 3, blks 3 L1, blk g2 (List.replicate (m + 1) (Value.int .i64 0)) 3, blks 3 L2, blk p4 [.slice (some ⟨b1, 0, none⟩) (n + 1) (n + 1)] 109, blk p5 [.slice (some ⟨b2, 0, none⟩) (n + 1) (n + 1)] 109, blk b1 ((L1 ++ [(g1, (List.replicate (m + 1) (Value.int .i64 0)))]).map (slv m) ++ List.replicate (n + 1 - (L1 ++ [(g1, (List.replicate (m + 1) (Value.int .i64 0)))]).length) (Value.slice none 0 0)) 27, blk b2 ((L2 ++ [(g2, (List.replicate (m + 1) (Value.int .i64 0)))]).map (slv m) ++ List.replicate (n + 1 - (L1 ++ [(g1, (List.replicate (m + 1) (Value.int .i64 0)))]).length) (Value.slice none 0 0)) 27, blk pc (srcsL c A B n m ca cb x y) 106])).trans (blks_snoc.trans ?_)
    refine (Hle.srt (K := [blk g2 (List.replicate (m + 1) (Value.int .i64 0)) 3, blks 3 L2, blks 3 (L1 ++ [(g1, (List.replicate (m + 1) (Value.int .i64 0)))]), blk p4 [.slice (some ⟨b1, 0, none⟩) (n + 1) (n + 1)] 109, blk p5 [.slice (some ⟨b2, 0, none⟩) (n + 1) (n + 1)] 109, blk b1 ((L1 ++ [(g1, (List.replicate (m + 1) (Value.int .i64 0)))]).map (slv m) ++ List.replicate (n + 1 - (L1 ++ [(g1, (List.replicate (m + 1) (Value.int .i64 0)))]).length) (Value.slice none 0 0)) 27, blk b2 ((L2 ++ [(g2, (List.replicate (m + 1) (Value.int .i64 0)))]).map (slv m) ++ List.replicate (n + 1 - (L1 ++ [(g1, (List.replicate (m + 1) (Value.int .i64 0)))]).length) (Value.slice none 0 0)) 27, blk pc (srcsL c A B n m ca cb x y) 106])).trans (blks_snoc.trans Hle.srt)
  simp only [decide_eq_false_iff_not] at h
  have hLn : L1.length = n + 1 := by omega
  have er : ∀ L : List (Nat × List Value), L.map (slv m) ++ List.replicate (n + 1 - L1.length) (Value.slice none 0 0) = L.map (slv m) := fun L => by rw [hLn, Nat.sub_self]; simp
  rw [er, er]
  have hz : ∀ (f : Nat → Nat → Int) {L : List (Nat × List Value)}, RowsOk (fun _ _ => 0) (m + 1) L → RowsOk (soFar n m 0 f) (m + 1) L := fun f L hR i x hx => by rw [hR i x hx, soFar_zero]
  repeat' (first | refine d1 ?_ | refine dd ?_ | (show T _ (.ops _ (_ :: _) :: _) _ _ _; refine T_callE rfl rfl rfl rfl rfl (fun w hw => places_spec _ c A B n m ca cb x y rfl w) (fun g _ => ?_)) | (show ∀ _ : Nat, T _ _ _ _ _; intro _))
  rename_i p7 _
  refine T_range (places_iter c A B n m ca cb x y g hnb hmb) rfl (fun j y hy => by obtain ⟨i, k, _, rfl⟩ := placeVs_at hy; exact ⟨rfl, rfl⟩)
    (fun j H => ∃ M1 M2, M1.length = n + 1 ∧ M2.length = n + 1 ∧ RowsOk (soFar n m j (rst (grdOf c a b))) (m + 1) M1 ∧ RowsOk (soFar n m j (wys (grdOf c a b))) (m + 1) M2 ∧ H = [blks 3 M1, blks 3 M2, blk p4 [.slice (some ⟨b1, 0, none⟩) (n + 1) (n + 1)] 109, blk p5 [.slice (some ⟨b2, 0, none⟩) (n + 1) (n + 1)] 109, blk b1 (M1.map (slv m)) 27, blk b2 (M2.map (slv m)) 27, blk p7 [.func (.func 99) #[.slice (some ⟨b1, 0, none⟩) (n + 1) (n + 1)] #[]] 66, blk pc (srcsL c A B n m ca cb x y) 106]) (fun _ => False) (fun _ _ => False)
    [blks 3 L1, blks 3 L2, blk p4 [.slice (some ⟨b1, 0, none⟩) (n + 1) (n + 1)] 109, blk p5 [.slice (some ⟨b2, 0, none⟩) (n + 1) (n + 1)] 109, blk b1 (L1.map (slv m)) 27, blk b2 (L2.map (slv m)) 27, blk p7 [.func (.func 99) #[.slice (some ⟨b1, 0, none⟩) (n + 1) (n + 1)] #[]] 66, blk pc (srcsL c A B n m ca cb x y) 106] ⟨L1, L2, hLn, by omega, hz _ hR1, hz _ hR2, rfl⟩ Hle.srt ?_ ?_ (fun _ _ h => h.elim) (fun _ _ _ h => h.elim)
  · rintro Lp r j yv Hj K hr hyv ⟨M1, M2, hM1, hM2, hS1, hS2, rfl⟩
    obtain ⟨i, k, hp, rfl⟩ := placeVs_at hyv
    obtain ⟨p, q, hpn, hqm, -, hip, hkq⟩ := placesL_at hp
    have hin : i ≤ n := by omega
    have hkm : k ≤ m := by omega
    show T _ _ ((52, .int .i64 (k : Nat)) :: (51, .int .i64 (i : Nat)) :: _) _ (lrec Lp r :: blks 3 M1 :: blks 3 M2 :: blk p4 [.slice (some ⟨b1, 0, none⟩) (n + 1) (n + 1)] 109 :: blk p5 [.slice (some ⟨b2, 0, none⟩) (n + 1) (n + 1)] 109 :: blk b1 (M1.map (slv m)) 27 :: blk b2 (M2.map (slv m)) 27 :: blk p7 [.func (.func 99) #[.slice (some ⟨b1, 0, none⟩) (n + 1) (n + 1)] #[]] 66 :: blk pc (srcsL c A B n m ca cb x y) 106 :: K)
    repeat' (first | refine d1 ?_ | refine dd ?_ | (show T _ (.ops _ (_ :: _) :: _) _ _ _; refine T_callE rfl rfl rfl rfl rfl (fun w hw => pmoves_spec c A B n m ca cb a b x y i k w (hst.cls ‹_›) (rdSrc ha w ‹_›) hn hnb (rdSrc hb w ‹_›) hm hmb hsa hsb hk (hx.old ‹_›) (hy.old ‹_›) hin hkm) (fun z _ => ?_)) | (show ∀ _ : Nat, T _ _ _ _ _; intro _) | (show T _ _ _ _ _; refine T_begin hr rfl ?_))
    obtain ⟨Az, capz⟩ := z
    dsimp only
    repeat' (first | refine d1 ?_ | refine dd ?_ | (show ∀ _ : Nat, T _ _ _ _ _; intro _))
    refine T_loopX (fun jj : Nat => [(58, .int .i64 jj), (10, .int .i64 (accW (grdOf c a b) i k jj).1), (11, .int .i64 (accW (grdOf c a b) i k jj).2)]) (fun _ => row 176 3 Az capz (mvs (grdOf c a b) i k).length ((mvs (grdOf c a b) i k).flatMap Mv.cells) :: lrec Lp (busy r) :: blks 3 M1 :: blks 3 M2 :: blk p4 [.slice (some ⟨b1, 0, none⟩) (n + 1) (n + 1)] 109 :: blk p5 [.slice (some ⟨b2, 0, none⟩) (n + 1) (n + 1)] 109 :: blk b1 (M1.map (slv m)) 27 :: blk b2 (M2.map (slv m)) 27 :: blk p7 [.func (.func 99) #[.slice (some ⟨b1, 0, none⟩) (n + 1) (n + 1)] #[]] 66 :: blk pc (srcsL c A B n m ca cb x y) 106 :: K) (fun jj => jj ≤ (mvs (grdOf c a b) i k).length) (fun jj => (mvs (grdOf c a b) i k).length - jj) 0 (Nat.zero_le _) ?_
    intro jj hjj
    have hm3 := mvs_len (grdOf c a b) i k
    repeat' (first | refine d1 ?_ | refine dd ?_ | (show ∀ _ : Nat, T _ _ _ _ _; intro _))
    refine T_if rfl (fun h => ?_) (fun h => ?_)
    · simp only [decide_eq_true_eq] at h
      have hjl : jj < (mvs (grdOf c a b) i k).length := by omega
      obtain ⟨v, hv⟩ : ∃ v, (mvs (grdOf c a b) i k)[jj]? = some v := ⟨_, List.getElem?_eq_getElem hjl⟩
      refine T_rowpos (A := Az) (by omega) (fun gz e => ?_)
      subst e
      have hb1 := mv_to hG hn hm hin hkm hv
      obtain ⟨⟨g1, c1⟩, hV1⟩ : ∃ x, M1[i + v.fst]? = some x := ⟨_, List.getElem?_eq_getElem (by omega)⟩
      obtain ⟨⟨g2, c2⟩, hV2⟩ : ∃ x, M2[i + v.fst]? = some x := ⟨_, List.getElem?_eq_getElem (by omega)⟩
      have hc1 : c1 = valV (soFar n m j (rst (grdOf c a b)) (i + v.fst)) (m + 1) := hS1 _ _ hV1
      have hc2 : c2 = valV (soFar n m j (wys (grdOf c a b)) (i + v.fst)) (m + 1) := hS2 _ _ hV2
      have er := soFar_get hp (rst (grdOf c a b)) (i' := i + v.fst) (k' := k + v.snd) (by omega) (by omega) (by omega)
      have ew := soFar_get hp (wys (grdOf c a b)) (i' := i + v.fst) (k' := k + v.snd) (by omega) (by omega) (by omega)
      have hrb := rst_bd2 hG hn hm hnb hmb (i + v.fst) (k + v.snd)
      have hwb := wys_bd (grdOf c a b) (i + v.fst) (k + v.snd)
      have hab := accW_bd (grdOf c a b) i k jj
      unfold big at hwb hab
      have es : accW (grdOf c a b) i k (jj + 1) = stepW (grdOf c a b) i k (accW (grdOf c a b) i k jj) jj v := accW_step hv
      repeat' (first | refine d1 ?_ | refine dd ?_ | (show T _ (.ops _ (_ :: _) :: _) _ _ _; first | refine T_val rfl (Val.loadA (vs := v.cells) rfl (fun _ => rdRow (A := some ⟨gz, 0, none⟩) (by omega) (fun r u hu => by rw [show 0 + (jj : Int).toNat * 3 = jj * 3 by omega]; exact flat_get Mv.cells 3 (fun _ => rfl) hv r u hu)) rfl) rfl rfl rfl ?_ | refine T_valC rfl (Val.loadA (vs := v.cells) rfl (fun _ => rdRow (A := some ⟨gz, 0, none⟩) (by omega) (fun r u hu => by rw [show 0 + (jj : Int).toNat * 3 = jj * 3 by omega]; exact flat_get Mv.cells 3 (fun _ => rfl) hv r u hu)) rfl) rfl rfl rfl rfl rfl ?_ | refine T_call rfl rfl rfl rfl rfl (fun w hw => gridAt_spec b1 0 (n + 1) (n + 1) g1 0 (m + 1) (m + 1) (i + v.fst) (k + v.snd) (rst (grdOf c a b) (i + v.fst) (k + v.snd)) w (rdOwn1 (b := b1) (by rw [Nat.zero_add, List.getElem?_map, hV1]; rfl) w hw) (rdM hV1 (get1 (by rw [hc1, ← er]; exact vget (k + v.snd) (by omega) (by omega))) w hw) (by omega) (by omega)) ?_ | refine T_callC rfl rfl rfl rfl rfl rfl rfl (fun hg w hw => gridAt_spec b1 0 (n + 1) (n + 1) g1 0 (m + 1) (m + 1) (i + v.fst) (k + v.snd) (rst (grdOf c a b) (i + v.fst) (k + v.snd)) w (rdOwn1 (b := b1) (by rw [Nat.zero_add, List.getElem?_map, hV1]; rfl) w hw) (rdM hV1 (get1 (by rw [hc1, ← er]; exact vget (k + v.snd) (by omega) (by omega))) w hw) (by omega) (by omega)) ?_) | (show T _ (.run _ _ (_ :: _) _ _ :: _) _ _ _; first | refine rv rfl rfl rfl (Val.loadA (vs := v.cells) rfl (fun _ => rdRow (A := some ⟨gz, 0, none⟩) (by omega) (fun r u hu => by rw [show 0 + (jj : Int).toNat * 3 = jj * 3 by omega]; exact flat_get Mv.cells 3 (fun _ => rfl) hv r u hu)) rfl) rfl rfl rfl ?_ | refine rg rfl rfl rfl (Val.loadA (vs := v.cells) rfl (fun _ => rdRow (A := some ⟨gz, 0, none⟩) (by omega) (fun r u hu => by rw [show 0 + (jj : Int).toNat * 3 = jj * 3 by omega]; exact flat_get Mv.cells 3 (fun _ => rfl) hv r u hu)) rfl) rfl rfl rfl rfl rfl ?_ | refine rc rfl rfl rfl rfl rfl rfl rfl (fun w hw => gridAt_spec b1 0 (n + 1) (n + 1) g1 0 (m + 1) (m + 1) (i + v.fst) (k + v.snd) (rst (grdOf c a b) (i + v.fst) (k + v.snd)) w (rdOwn1 (b := b1) (by rw [Nat.zero_add, List.getElem?_map, hV1]; rfl) w hw) (rdM hV1 (get1 (by rw [hc1, ← er]; exact vget (k + v.snd) (by omega) (by omega))) w hw) (by omega) (by omega)) ?_ | refine rcG rfl rfl rfl rfl rfl rfl rfl rfl rfl (fun hg w hw => gridAt_spec b1 0 (n + 1) (n + 1) g1 0 (m + 1) (m + 1) (i + v.fst) (k + v.snd) (rst (grdOf c a b) (i + v.fst) (k + v.snd)) w (rdOwn1 (b := b1) (by rw [Nat.zero_add, List.getElem?_map, hV1]; rfl) w hw) (rdM hV1 (get1 (by rw [hc1, ← er]; exact vget (k + v.snd) (by omega) (by omega))) w hw) (by omega) (by omega)) ?_) | (show ∀ _ : Nat, T _ _ _ _ _; intro _))
      refine T_if rfl (fun h2 => ?_) (fun h2 => ?_)
      · simp only [Bool.or_eq_true, decide_eq_true_eq] at h2
        have es2 : accW (grdOf c a b) i k (jj + 1) = (via (grdOf c a b) i k v, wys (grdOf c a b) (i + v.fst) (k + v.snd)) := by
          rw [es]; unfold stepW; rw [if_pos]
          rcases h2 with h2 | h2
          · exact .inl (by omega)
          · exact .inr h2
        repeat' (first | refine d1 ?_ | refine dd ?_ | (show T _ (.ops _ (_ :: _) :: _) _ _ _; first | refine T_call rfl rfl rfl rfl rfl (fun w hw => gridAt_spec b2 0 (n + 1) (n + 1) g2 0 (m + 1) (m + 1) (i + v.fst) (k + v.snd) (wys (grdOf c a b) (i + v.fst) (k + v.snd)) w (rdOwn1 (b := b2) (by rw [Nat.zero_add, List.getElem?_map, hV2]; rfl) w hw) (rdM hV2 (get1 (by rw [hc2, ← ew]; exact vget (k + v.snd) (by omega) (by omega))) w hw) (by omega) (by omega)) ?_ | refine T_callC rfl rfl rfl rfl rfl rfl rfl (fun hg w hw => gridAt_spec b2 0 (n + 1) (n + 1) g2 0 (m + 1) (m + 1) (i + v.fst) (k + v.snd) (wys (grdOf c a b) (i + v.fst) (k + v.snd)) w (rdOwn1 (b := b2) (by rw [Nat.zero_add, List.getElem?_map, hV2]; rfl) w hw) (rdM hV2 (get1 (by rw [hc2, ← ew]; exact vget (k + v.snd) (by omega) (by omega))) w hw) (by omega) (by omega)) ?_) | (show T _ (.run _ _ (_ :: _) _ _ :: _) _ _ _; first | refine rc rfl rfl rfl rfl rfl rfl rfl (fun w hw => gridAt_spec b2 0 (n + 1) (n + 1) g2 0 (m + 1) (m + 1) (i + v.fst) (k + v.snd) (wys (grdOf c a b) (i + v.fst) (k + v.snd)) w (rdOwn1 (b := b2) (by rw [Nat.zero_add, List.getElem?_map, hV2]; rfl) w hw) (rdM hV2 (get1 (by rw [hc2, ← ew]; exact vget (k + v.snd) (by omega) (by omega))) w hw) (by omega) (by omega)) ?_ | refine rcG rfl rfl rfl rfl rfl rfl rfl rfl rfl (fun hg w hw => gridAt_spec b2 0 (n + 1) (n + 1) g2 0 (m + 1) (m + 1) (i + v.fst) (k + v.snd) (wys (grdOf c a b) (i + v.fst) (k + v.snd)) w (rdOwn1 (b := b2) (by rw [Nat.zero_add, List.getElem?_map, hV2]; rfl) w hw) (rdM hV2 (get1 (by rw [hc2, ← ew]; exact vget (k + v.snd) (by omega) (by omega))) w hw) (by omega) (by omega)) ?_) | (show ∀ _ : Nat, T _ _ _ _ _; intro _))
        exact T_backX (jj + 1) (Nat.succ_le_of_lt hjl) (by omega) (hE := ⟨rfl, by rw [es2]; rfl, by rw [es2]; rfl, trivial⟩) (hG := Hle.tail _ _)
      · simp only [Bool.or_eq_false_iff, decide_eq_false_iff_not] at h2
        have hn2 : ¬ (jj = 0 ∨ via (grdOf c a b) i k v < (accW (grdOf c a b) i k jj).1) := fun hh => hh.elim (fun h3 => h2.1 (by omega)) (fun h3 => h2.2 h3)
        repeat' (first | refine d1 ?_ | refine dd ?_ | (show ∀ _ : Nat, T _ _ _ _ _; intro _))
        refine T_if rfl (fun h3 => ?_) (fun h3 => ?_)
        · simp only [decide_eq_true_eq] at h3
          have es2 : accW (grdOf c a b) i k (jj + 1) = ((accW (grdOf c a b) i k jj).1, min ((accW (grdOf c a b) i k jj).2 + wys (grdOf c a b) (i + v.fst) (k + v.snd)) big) := by
            rw [es]; unfold stepW; rw [if_neg hn2, if_pos (show via (grdOf c a b) i k v = (accW (grdOf c a b) i k jj).1 from h3)]
          repeat' (first | refine d1 ?_ | refine dd ?_ | (show T _ (.ops _ (_ :: _) :: _) _ _ _; first | refine T_call rfl rfl rfl rfl rfl (fun w hw => gridAt_spec b2 0 (n + 1) (n + 1) g2 0 (m + 1) (m + 1) (i + v.fst) (k + v.snd) (wys (grdOf c a b) (i + v.fst) (k + v.snd)) w (rdOwn1 (b := b2) (by rw [Nat.zero_add, List.getElem?_map, hV2]; rfl) w hw) (rdM hV2 (get1 (by rw [hc2, ← ew]; exact vget (k + v.snd) (by omega) (by omega))) w hw) (by omega) (by omega)) ?_ | refine T_callC rfl rfl rfl rfl rfl rfl rfl (fun hg w hw => gridAt_spec b2 0 (n + 1) (n + 1) g2 0 (m + 1) (m + 1) (i + v.fst) (k + v.snd) (wys (grdOf c a b) (i + v.fst) (k + v.snd)) w (rdOwn1 (b := b2) (by rw [Nat.zero_add, List.getElem?_map, hV2]; rfl) w hw) (rdM hV2 (get1 (by rw [hc2, ← ew]; exact vget (k + v.snd) (by omega) (by omega))) w hw) (by omega) (by omega)) ?_) | (show T _ (.run _ _ (_ :: _) _ _ :: _) _ _ _; first | refine rc rfl rfl rfl rfl rfl rfl rfl (fun w hw => gridAt_spec b2 0 (n + 1) (n + 1) g2 0 (m + 1) (m + 1) (i + v.fst) (k + v.snd) (wys (grdOf c a b) (i + v.fst) (k + v.snd)) w (rdOwn1 (b := b2) (by rw [Nat.zero_add, List.getElem?_map, hV2]; rfl) w hw) (rdM hV2 (get1 (by rw [hc2, ← ew]; exact vget (k + v.snd) (by omega) (by omega))) w hw) (by omega) (by omega)) ?_ | refine rcG rfl rfl rfl rfl rfl rfl rfl rfl rfl (fun hg w hw => gridAt_spec b2 0 (n + 1) (n + 1) g2 0 (m + 1) (m + 1) (i + v.fst) (k + v.snd) (wys (grdOf c a b) (i + v.fst) (k + v.snd)) w (rdOwn1 (b := b2) (by rw [Nat.zero_add, List.getElem?_map, hV2]; rfl) w hw) (rdM hV2 (get1 (by rw [hc2, ← ew]; exact vget (k + v.snd) (by omega) (by omega))) w hw) (by omega) (by omega)) ?_) | (show ∀ _ : Nat, T _ _ _ _ _; intro _))
          exact T_backX (jj + 1) (Nat.succ_le_of_lt hjl) (by omega) (hE := ⟨rfl, by rw [es2]; rfl, by rw [es2]; rfl, trivial⟩) (hG := Hle.tail _ _)
        · simp only [decide_eq_false_iff_not] at h3
          have es2 : accW (grdOf c a b) i k (jj + 1) = accW (grdOf c a b) i k jj := by
            rw [es]; unfold stepW; rw [if_neg hn2, if_neg (show ¬ via (grdOf c a b) i k v = (accW (grdOf c a b) i k jj).1 from h3)]
          repeat' (first | refine d1 ?_ | refine dd ?_ | (show ∀ _ : Nat, T _ _ _ _ _; intro _))
          exact T_backX (jj + 1) (Nat.succ_le_of_lt hjl) (by omega) (hE := ⟨rfl, by rw [es2]; rfl, by rw [es2]; rfl, trivial⟩) (hG := Hle.tail _ _)
    · simp only [decide_eq_false_iff_not] at h
      obtain rfl : jj = (mvs (grdOf c a b) i k).length := by omega
      rw [accW_all]
      obtain ⟨⟨g1, c1⟩, hV1⟩ : ∃ x, M1[i]? = some x := ⟨_, List.getElem?_eq_getElem (by omega)⟩
      obtain ⟨⟨g2, c2⟩, hV2⟩ : ∃ x, M2[i]? = some x := ⟨_, List.getElem?_eq_getElem (by omega)⟩
      have hl1 : c1.length = m + 1 := by rw [show c1 = _ from hS1 _ _ hV1, valV_length]
      have hl2 : c2.length = m + 1 := by rw [show c2 = _ from hS2 _ _ hV2, valV_length]
      repeat' (first | refine d1 ?_ | (show ∀ _ : Nat, T _ _ _ _ _; intro _))
      refine dw0 1000 [blk p4 [.slice (some ⟨b1, 0, none⟩) (n + 1) (n + 1)] 109, blk p5 [.slice (some ⟨b2, 0, none⟩) (n + 1) (n + 1)] 109, blk b1 (M1.map (slv m)) 27, blk b2 (M2.map (slv m)) 27] ?_
      repeat' (first | (show T _ (.draw _ _ _ _ _ :: _) _ _ _; first | refine dw1 ?_ | refine dwv rfl (by decide +kernel) rfl rfl (Val.load rfl (fun hg => rdOwn1 (u := .slice (some ⟨g1, 0, none⟩) (m + 1) (m + 1)) (b := b1) (by rw [show 0 + (i : Int).toNat * 1 = i by omega, List.getElem?_map, hV1]; rfl))) rfl rfl rfl ?_ | refine dwg rfl (by decide +kernel) rfl rfl (Val.load rfl (fun hg => rdOwn1 (u := .slice (some ⟨g1, 0, none⟩) (m + 1) (m + 1)) (b := b1) (by rw [show 0 + (i : Int).toNat * 1 = i by omega, List.getElem?_map, hV1]; rfl))) rfl rfl rfl rfl rfl ?_ | refine dwv rfl (by decide +kernel) rfl rfl (Val.load rfl (fun hg => rdOwn1 (u := .slice (some ⟨g2, 0, none⟩) (m + 1) (m + 1)) (b := b2) (by rw [show 0 + (i : Int).toNat * 1 = i by omega, List.getElem?_map, hV2]; rfl))) rfl rfl rfl ?_ | refine dwg rfl (by decide +kernel) rfl rfl (Val.load rfl (fun hg => rdOwn1 (u := .slice (some ⟨g2, 0, none⟩) (m + 1) (m + 1)) (b := b2) (by rw [show 0 + (i : Int).toNat * 1 = i by omega, List.getElem?_map, hV2]; rfl))) rfl rfl rfl rfl rfl ?_ | refine dwb rfl (by decide +kernel) ?_) | (show AllL _ []; exact True.intro) | (show AllL _ (_ :: _); refine ⟨?_, ?_⟩) | (show OpT _ _ _ _ _ _ _; first | refine dwx ?_ | refine OpT.ofVal rfl (Val.load rfl (fun hg => rdOwn1 (u := .slice (some ⟨g1, 0, none⟩) (m + 1) (m + 1)) (b := b1) (by rw [show 0 + (i : Int).toNat * 1 = i by omega, List.getElem?_map, hV1]; rfl))) rfl rfl rfl ⟨fun _ => (by first | exact Hle.none _ | exact Hle.sub | exact absurd ‹_› (by decide +kernel)), ?_⟩ | refine OpT.ofVal rfl (Val.load rfl (fun hg => rdOwn1 (u := .slice (some ⟨g2, 0, none⟩) (m + 1) (m + 1)) (b := b2) (by rw [show 0 + (i : Int).toNat * 1 = i by omega, List.getElem?_map, hV2]; rfl))) rfl rfl rfl ⟨fun _ => (by first | exact Hle.none _ | exact Hle.sub | exact absurd ‹_› (by decide +kernel)), ?_⟩ | refine OpT.storeM rfl rfl rfl hV1 rfl (by rw [hl1]; omega) ⟨fun _ => (by first | exact Hle.none _ | exact Hle.sub | exact absurd ‹_› (by decide +kernel)), ?_⟩ | refine OpT.storeM (hf := @FocusMW.tail _ _ _ _ _ (@FocusMW.tail _ _ _ _ _ (@FocusMW.tail _ _ _ _ _ (FocusMW.head _ _ _)))) rfl rfl rfl hV2 rfl (by rw [hl2]; omega) ⟨fun _ => (by first | exact Hle.none _ | exact Hle.sub | exact absurd ‹_› (by decide +kernel)), ?_⟩) | (show ∀ _ : Nat, T _ _ _ _ _; intro _))
      rw [show 0 + (k : Int).toNat * 1 = k by omega]
      refine T_next [blks 3 (M1.set i (g1, c1.set k (.int .i64 (rst (grdOf c a b) i k)))), blks 3 (M2.set i (g2, c2.set k (.int .i64 (wys (grdOf c a b) i k)))), blk p4 [.slice (some ⟨b1, 0, none⟩) (n + 1) (n + 1)] 109, blk p5 [.slice (some ⟨b2, 0, none⟩) (n + 1) (n + 1)] 109, blk b1 ((M1.set i (g1, c1.set k (.int .i64 (rst (grdOf c a b) i k)))).map (slv m)) 27, blk b2 ((M2.set i (g2, c2.set k (.int .i64 (wys (grdOf c a b) i k)))).map (slv m)) 27, blk p7 [.func (.func 99) #[.slice (some ⟨b1, 0, none⟩) (n + 1) (n + 1)] #[]] 66, blk pc (srcsL c A B n m ca cb x y) 106] ⟨_, _, by rw [List.length_set]; exact hM1, by rw [List.length_set]; exact hM2, rows_put hS1 hV1 (soFar_step hp _), rows_put hS2 hV2 (soFar_step hp _), rfl⟩ ?_
      rw [slv_set hV1, slv_set hV2]
      exact Hle.tail _ _
  · rintro D Hn ⟨M1, M2, hM1, hM2, hS1, hS2, rfl⟩
    have hR1' : RowsOk (rst (grdOf c a b)) (m + 1) M1 := hS1.ext hM1 fun i k hi hk => soFar_all (by unfold placeVs; rw [List.length_map]; exact Nat.le_refl _) _ (by omega) (by omega)
    have hR2' : RowsOk (wys (grdOf c a b)) (m + 1) M2 := hS2.ext hM2 fun i k hi hk => soFar_all (by unfold placeVs; rw [List.length_map]; exact Nat.le_refl _) _ (by omega) (by omega)
    show T _ _ _ _ (dfr D :: blk g _ 106 :: blks 3 M1 :: blks 3 M2 :: blk p4 [.slice (some ⟨b1, 0, none⟩) (n + 1) (n + 1)] 109 :: blk p5 [.slice (some ⟨b2, 0, none⟩) (n + 1) (n + 1)] 109 :: blk b1 (M1.map (slv m)) 27 :: blk b2 (M2.map (slv m)) 27 :: blk p7 [.func (.func 99) #[.slice (some ⟨b1, 0, none⟩) (n + 1) (n + 1)] #[]] 66 :: blk pc (srcsL c A B n m ca cb x y) 106 :: [])
    have hle : Hle [blks 3 M1, blks 3 M2, blk p4 [.slice (some ⟨b1, 0, none⟩) (n + 1) (n + 1)] 109, blk p5 [.slice (some ⟨b2, 0, none⟩) (n + 1) (n + 1)] 109, blk b1 (M1.map (slv m)) 27, blk b2 (M2.map (slv m)) 27, blk p7 [.func (.func 99) #[.slice (some ⟨b1, 0, none⟩) (n + 1) (n + 1)] #[]] 66, blk pc (srcsL c A B n m ca cb x y) 106] [dat [.slice (some ⟨b1, 0, none⟩) (n + 1) (n + 1)] [rowsD (tabR n m (rst (grdOf c a b)))], dat [.slice (some ⟨b2, 0, none⟩) (n + 1) (n + 1)] [rowsD (tabR n m (wys (grdOf c a b)))]] := (Hle.srt (K := [blk b1 (M1.map (slv m)) 27, blks 3 M1, blk b2 (M2.map (slv m)) 27, blks 3 M2])).trans (tables_hle hnb hmb hM1 hM2 hR1' hR2')
    repeat' (first | refine d1 ?_ | refine dd ?_ | (show ∀ _ : Nat, T _ _ _ _ _; intro _) | (show T _ (.code .ret :: _) _ _ _; refine T_retD (Hle.refl _) (rf_V (vs := [.slice (some ⟨b1, 0, none⟩) (n + 1) (n + 1), .slice (some ⟨b2, 0, none⟩) (n + 1) (n + 1)]) _ rfl ((Hle.tail _ _).trans hle) ⟨(_, _), rfl, rfl⟩)))
end Go.Proofs.YtofikdpbagnjbaaGreatDoor
namespace Go.Proofs.YtofikdpbagnjbaaGreatDoor
open Go.RowKit Go.Shelf Go.Proofs
set_option maxRecDepth 100000
set_option maxHeartbeats 1000000

structure Two (w : World) (A B : Option Addr) (n m : Nat) (a b : List Tok) : Prop where
  hst : Std w
  ha : Src w 6 A n (a.flatMap Tok.cells)
  hn : a.length = n
  hnb : n ≤ 1000
  hb : Src w 6 B m (b.flatMap Tok.cells)
  hm : b.length = m
  hmb : m ≤ 1000
  hsa : ∀ t ∈ a, t.small
  hsb : ∀ t ∈ b, t.small
theorem Two.cls {w0 w : World} {H : List HA} {A B : Option Addr} {n m : Nat} {a b : List Tok} (h : Two w0 A B n m a b) (hw : Cls w0 w H) : Two w A B n m a b :=
  ⟨h.hst.cls hw, ⟨h.ha.1, fun q => ⟨(h.ha.2 q).1, (h.ha.2 q).2.old hw⟩⟩, h.hn, h.hnb, ⟨h.hb.1, fun q => ⟨(h.hb.2 q).1, (h.hb.2 q).2.old hw⟩⟩, h.hm, h.hmb, h.hsa, h.hsb⟩
theorem Two.bad {w : World} {A B : Option Addr} {n m : Nat} {a b : List Tok} (h : Two w A B n m a b) (c : Costs) (ca cb : Nat) (hk : ckV c a b ≠ 0) :
    Spec Tryz.prog 97 [c.val, .slice A n ca, .slice B m cb] w (fun v R => v = .tuple #[.agg (srcsL ⟨0, 0, 0, 0⟩ none none 0 0 0 0 (.slice none 0 0) (.slice none 0 0)).toArray, .int .i64 1] ∧ R = []) :=
  pcheck_bad c A B n m ca cb a b w h.hst h.ha h.hn h.hnb h.hb h.hm h.hmb h.hsa h.hsb hk
theorem Two.ok {w : World} {A B : Option Addr} {n m : Nat} {a b : List Tok} (h : Two w A B n m a b) (c : Costs) (ca cb : Nat) (hk : ckV c a b = 0) :
    Spec Tryz.prog 97 [c.val, .slice A n ca, .slice B m cb] w (fun v R => ∃ x : Value × Value, v = .tuple #[.agg (srcsL c A B n m ca cb x.1 x.2).toArray, .int .i64 0] ∧ R = [dat [x.1] [intsD (gaL c a)], dat [x.2] [intsD (gaL c b)]]) :=
  pcheck_ok c A B n m ca cb a b w h.hst h.ha h.hn h.hnb h.hb h.hm h.hmb h.hsa h.hsb hk
theorem Two.grid {w : World} {A B : Option Addr} {n m : Nat} {a b : List Tok} (h : Two w A B n m a b) (c : Costs) (ca cb : Nat) (x y : Value) (hk : ckV c a b = 0) (hx : Rd (wr w) [x] [intsD (gaL c a)]) (hy : Rd (wr w) [y] [intsD (gaL c b)]) :
    Spec Tryz.prog 98 [.agg (srcsL c A B n m ca cb x y).toArray] w (fun v R => ∃ z : Value × Value, v = .tuple #[z.1, z.2] ∧ R = [dat [z.1] [rowsD (tabR n m (rst (grdOf c a b)))], dat [z.2] [rowsD (tabR n m (wys (grdOf c a b)))]]) :=
  pgrid_spec c A B n m ca cb a b x y w h.hst h.ha h.hn h.hnb h.hb h.hm h.hmb h.hsa h.hsb hk hx hy
def distV (c : Costs) (a b : List Tok) : Int × Int := if ckV c a b = 0 then (rst (grdOf c a b) 0 0, 0) else (0, 1)
theorem T_open2 {C : Cx} {k : List It} {env : Env} {ec : EnvC} {H : List HA} {vs us : List Value} {ds es : List D} (h : ∀ p q, Rd (fr p) vs ds → Rd (fr q) us es → T C k env ec (fz p :: fz q :: H)) : T C k env ec (dat vs ds :: dat us es :: H) := by
  refine T_open fun p hp => ?_
  refine T_le (H' := dat us es :: fz p :: H) (Hle.perm (List.Perm.swap _ _ _)) ?_
  refine T_open fun q hq => ?_
  exact T_le (Hle.perm (List.Perm.swap _ _ _)) (h p q hp hq)
theorem gridAt_rd {w : World} {x : Value} {n m i k : Nat} {f : Nat → Nat → Int} (h : Rd (wr w) [x] [rowsD (tabR n m f)]) (hi : i ≤ n) (hk : k ≤ m) :
    Spec Tryz.prog 99 [x, .int .i64 (i : Nat), .int .i64 (k : Nat)] w (fun v R => v = .int .i64 (f i k) ∧ R = []) := by
  obtain ⟨A, cap, cs, rfl, -, -, -, hA, hrows⟩ := h.tab
  rw [tabR_length] at hA ⊢
  obtain ⟨b, o, rfl, hb⟩ := hA (by omega)
  obtain ⟨A', cap', hcs, -, -, hA'⟩ := hrows.tabRow (tabR_get hi)
  rw [List.length_map, List.length_range] at hcs hA'
  obtain ⟨b', o', rfl, hb'⟩ := hA' (by omega)
  exact gridAt_spec b o _ cap b' o' _ cap' i k _ w (RdC.one (hb i _ hcs)) (RdC.one (hb' k _ (tabR_cell hk))) (by omega) (by omega)
theorem distancePrg_spec (c : Costs) (A B : Option Addr) (n m ca cb : Nat) (a b : List Tok) (w : World) (h2 : Two w A B n m a b) :
    Spec Tryz.prog 35 [c.val, .slice A n ca, .slice B m cb] w (fun v R => v = .tuple #[.int .i64 (distV c a b).1, .int .i64 (distV c a b).2] ∧ R = []) := by
  refine spec_of sg Tryz.func35 rfl rfl rfl ?_
  refine T_op (OpT.box (cs := c.cells) rfl rfl rfl rfl rfl rfl rfl (fun pc => ?_))
  by_cases hk : ckV c a b = 0
  · have e : distV c a b = (rst (grdOf c a b) 0 0, 0) := if_pos hk
    rw [e]
    repeat' (first | refine d1 ?_ | refine dd ?_ | (show T _ (.ops _ (_ :: _) :: _) _ _ _; refine T_op (OpT.call rfl rfl rfl rfl rfl (fun w hw => (h2.cls hw).ok c ca cb hk) ?_)) | (show ∀ _ : Nat, T _ _ _ _ _; intro _))
    rintro v R ⟨⟨x, y⟩, rfl, rfl⟩
    dsimp only
    refine T_le (H' := [dat [x] [intsD (gaL c a)], dat [y] [intsD (gaL c b)], blk pc c.cells 23]) (Hle.refl _) ?_
    refine T_open2 fun p q hp hq => ?_
    obtain ⟨A1, cap1, rfl, -, -, -⟩ := hp.row1
    obtain ⟨A2, cap2, rfl, -, -, -⟩ := hq.row1
    repeat' (first | refine d1 ?_ | refine dd ?_ | (show T _ (.ops _ (_ :: _) :: _) _ _ _; refine T_op (OpT.storeA rfl rfl rfl rfl rfl rfl (by decide) ?_)) | (show ∀ _ : Nat, T _ _ _ _ _; intro _))
    rename_i p8
    refine T_le (H' := [blk p8 (srcsL c A B n m ca cb (.slice A1 (gaL c a).length cap1) (.slice A2 (gaL c b).length cap2)) 106, fz p, fz q, blk pc c.cells 23]) (Hle.refl _) ?_
    refine T_if rfl (fun h => ?_) (fun h => ?_)
    · cases h
    repeat' (first | refine d1 ?_ | refine dd ?_ | (show T _ (.ops _ (_ :: _) :: _) _ _ _; refine T_op (OpT.call rfl rfl rfl rfl rfl (fun w hw => (h2.cls hw).grid c ca cb _ _ hk (hp.own hw) (hq.own hw)) ?_)) | (show ∀ _ : Nat, T _ _ _ _ _; intro _))
    rintro v R ⟨⟨s, t⟩, rfl, rfl⟩
    dsimp only [List.cons_append, List.nil_append]
    refine T_le (H' := [dat [s] [rowsD (tabR n m (rst (grdOf c a b)))], dat [t] [rowsD (tabR n m (wys (grdOf c a b)))]]) Hle.srt ?_
    refine T_open2 fun p' q' hp' hq' => ?_
    repeat' (first | refine d1 ?_ | refine dd ?_ | (show T _ (.ops _ (_ :: _) :: _) _ _ _; first | refine T_call rfl rfl rfl rfl rfl (fun w hw => gridAt_rd (i := 0) (k := 0) (hp'.own hw) (by omega) (by omega)) ?_ | refine T_callC rfl rfl rfl rfl rfl rfl rfl (fun hg w hw => gridAt_rd (i := 0) (k := 0) (hp'.own hw) (by omega) (by omega)) ?_) | (show T _ (.run _ _ (_ :: _) _ _ :: _) _ _ _; first | refine rc rfl rfl rfl rfl rfl rfl rfl (fun w hw => gridAt_rd (i := 0) (k := 0) (hp'.own hw) (by omega) (by omega)) ?_ | refine rcG rfl rfl rfl rfl rfl rfl rfl rfl rfl (fun hg w hw => gridAt_rd (i := 0) (k := 0) (hp'.own hw) (by omega) (by omega)) ?_) | (show ∀ _ : Nat, T _ _ _ _ _; intro _) | (show T _ (.code .ret :: _) _ _ _; refine T_retV [] rfl (Hle.none _) ⟨rfl, rfl⟩))
  · have e : distV c a b = (0, 1) := if_neg hk
    rw [e]
    repeat' (first | refine d1 ?_ | refine dd ?_ | (show T _ (.ops _ (_ :: _) :: _) _ _ _; first | refine T_call rfl rfl rfl rfl rfl (fun w hw => (h2.cls hw).bad c ca cb hk) ?_ | refine T_callC rfl rfl rfl rfl rfl rfl rfl (fun hg w hw => (h2.cls hw).bad c ca cb hk) ?_ | refine T_op (OpT.storeA rfl rfl rfl rfl rfl rfl (by decide) ?_)) | (show T _ (.run _ _ (_ :: _) _ _ :: _) _ _ _; first | refine rc rfl rfl rfl rfl rfl rfl rfl (fun w hw => (h2.cls hw).bad c ca cb hk) ?_ | refine rcG rfl rfl rfl rfl rfl rfl rfl rfl rfl (fun hg w hw => (h2.cls hw).bad c ca cb hk) ?_) | (show ∀ _ : Nat, T _ _ _ _ _; intro _))
    refine T_if rfl (fun h => ?_) (fun h => ?_)
    · repeat' (first | refine d1 ?_ | refine dd ?_ | (show ∀ _ : Nat, T _ _ _ _ _; intro _) | (show T _ (.code .ret :: _) _ _ _; refine T_retV [] rfl (Hle.none _) ⟨rfl, rfl⟩))
    · cases h
end Go.Proofs.YtofikdpbagnjbaaGreatDoor
namespace Go.Proofs.YtofikdpbagnjbaaGreatDoor
open Go.RowKit Go.Shelf Go.Proofs
set_option maxRecDepth 100000
set_option maxHeartbeats 1000000

end Go.Proofs.YtofikdpbagnjbaaGreatDoor
namespace Go.Proofs.YtofikdpbagnjbaaGreatDoor
open Go.RowKit Go.Shelf Go.Proofs
set_option maxRecDepth 100000
set_option maxHeartbeats 1000000

def mvCol (i k : Nat) (x : Mv) : List Int := [if x.fst = 1 then (i : Int) else -1, if x.snd = 1 then (k : Int) else -1]
end Go.Proofs.YtofikdpbagnjbaaGreatDoor
namespace Go.Proofs.YtofikdpbagnjbaaGreatDoor
open Go.RowKit Go.Shelf Go.Proofs
set_option maxRecDepth 100000
set_option maxHeartbeats 1000000

end Go.Proofs.YtofikdpbagnjbaaGreatDoor
namespace Go.Proofs.YtofikdpbagnjbaaGreatDoor
open Go.RowKit Go.Shelf Go.Proofs
set_option maxRecDepth 100000
set_option maxHeartbeats 1000000

structure TS where
  A : Option Addr
  n : Nat
  cap : Nat
  l : List Tok
@[reducible] def TS.val (t : TS) : Value := .slice t.A t.n t.cap
theorem indexFuncS_spec (A : Option Addr) (n c : Nat) (l : List TS) (f : FuncId) (fs cs : List Value) (p : TS → Bool) (w : World) (hs : Src w 1 A n (l.map TS.val)) (hn : l.length = n) (hb : n ≤ 9223372036854775807)
    (hf : ∀ x ∈ l, ∀ w', Below w.heap.size w w' → Spec Tryz.prog f (fs ++ (x.val :: cs)) w' (fun v A => v = .bool (p x) ∧ A = [])) :
    Spec Tryz.prog 143 [.slice A n c, .func (.func f) fs.toArray cs.toArray] w (fun v A => v = .int .i64 (findI p l) ∧ A = []) := by
  refine spec_of sg Tryz.func143 rfl rfl rfl ?_
  repeat' (first | refine d1 ?_ | refine dd ?_ | (show ∀ _ : Nat, T _ _ _ _ _; intro _))
  refine T_loop (fun k : Nat => [(0, .slice A n c), (1, .func (.func f) fs.toArray cs.toArray), (7, .int .i64 n), (8, .int .i64 k)]) (fun _ => []) (fun k => k ≤ n ∧ ∀ i x, i < k → l[i]? = some x → p x = false) (fun k => n - k) 0 ⟨Nat.zero_le _, fun i x h => by omega⟩ ⟨rfl, rfl, rfl, rfl, trivial⟩ (Hle.refl _) ?_
  rintro k ⟨hk, hok⟩
  repeat' (first | refine d1 ?_ | refine dd ?_ | (show ∀ _ : Nat, T _ _ _ _ _; intro _))
  refine T_if rfl (fun h => ?_) (fun h => ?_)
  · simp only [decide_eq_true_eq] at h
    have hkn : k < n := by omega
    obtain ⟨b, o, rfl⟩ := hs.base (by omega)
    obtain ⟨x, hx⟩ : ∃ x, l[k]? = some x := ⟨_, List.getElem?_eq_getElem (by omega)⟩
    repeat' (first | refine d1 ?_ | refine dd ?_ | (show ∀ _ : Nat, T _ _ _ _ _; intro _))
    refine T_load (v := x.val) rfl rfl rfl rfl rfl (rdOld ?_) ?_
    · exact (hs.get1 hkn (by rw [List.getElem?_map, hx]; rfl)).2
    repeat' (first | refine d1 ?_ | refine dd ?_ | (show T _ (.ops _ (_ :: _) :: _) _ _ _; first | refine T_call rfl rfl rfl rfl rfl (fun w hw => hf x (List.mem_of_getElem? hx) w hw.below) ?_ | refine T_callC rfl rfl rfl rfl rfl rfl rfl (fun hg w hw => hf x (List.mem_of_getElem? hx) w hw.below) ?_) | (show T _ (.run _ _ (_ :: _) _ _ :: _) _ _ _; first | refine rc rfl rfl rfl rfl rfl rfl rfl (fun w hw => hf x (List.mem_of_getElem? hx) w hw.below) ?_ | refine rcG rfl rfl rfl rfl rfl rfl rfl rfl rfl (fun hg w hw => hf x (List.mem_of_getElem? hx) w hw.below) ?_) | (show ∀ _ : Nat, T _ _ _ _ _; intro _))
    refine T_if rfl (fun h1 => ?_) (fun h1 => ?_)
    · repeat' (first | refine d1 ?_ | refine dd ?_ | (show ∀ _ : Nat, T _ _ _ _ _; intro _) | (show T _ (.code .ret :: _) _ _ _; refine T_retV [] rfl (Hle.refl _) ⟨congrArg (Value.int .i64) ?_, rfl⟩))
      exact (findI_some hx h1 hok).symm
    · repeat' (first | refine d1 ?_ | refine dd ?_ | (show ∀ _ : Nat, T _ _ _ _ _; intro _))
      refine T_back (k + 1) ⟨by omega, fun i y hi hy => ?_⟩ (by omega) ⟨rfl, rfl, rfl, rfl, trivial⟩ (Hle.refl _)
      rcases Nat.lt_or_ge i k with h2 | h2
      · exact hok i y h2 hy
      · rw [show i = k by omega, hx] at hy
        cases hy
        exact h1
  · simp only [decide_eq_false_iff_not] at h
    repeat' (first | refine d1 ?_ | refine dd ?_ | (show ∀ _ : Nat, T _ _ _ _ _; intro _) | (show T _ (.code .ret :: _) _ _ _; refine T_retV [] rfl (Hle.refl _) ⟨congrArg (Value.int .i64) ?_, rfl⟩))
    exact (findI_none (fun i x hi => hok i x (by have := (List.getElem?_eq_some_iff.1 hi).1; omega) hi)).symm
theorem containsFuncS_spec (A : Option Addr) (n c : Nat) (l : List TS) (f : FuncId) (fs cs : List Value) (p : TS → Bool) (w : World) (hs : Src w 1 A n (l.map TS.val)) (hn : l.length = n) (hb : n ≤ 9223372036854775807)
    (hf : ∀ x ∈ l, ∀ w', Below w.heap.size w w' → Spec Tryz.prog f (fs ++ (x.val :: cs)) w' (fun v A => v = .bool (p x) ∧ A = [])) :
    Spec Tryz.prog 86 [.slice A n c, .func (.func f) fs.toArray cs.toArray] w (fun v A => v = .bool (l.any p) ∧ A = []) := by
  refine spec_of sg Tryz.func86 rfl rfl rfl ?_
  repeat' (first | refine d1 ?_ | refine dd ?_ | (show T _ (.ops _ (_ :: _) :: _) _ _ _; first | refine T_call rfl rfl rfl rfl rfl (fun w hw => indexFuncS_spec A n c l f fs cs p w (rdSrc hs w hw) hn hb (fun x hx w' hb' => hf x hx w' (hw.below.trans (hb'.mono hw.below.size)))) ?_ | refine T_callC rfl rfl rfl rfl rfl rfl rfl (fun hg w hw => indexFuncS_spec A n c l f fs cs p w (rdSrc hs w hw) hn hb (fun x hx w' hb' => hf x hx w' (hw.below.trans (hb'.mono hw.below.size)))) ?_) | (show T _ (.run _ _ (_ :: _) _ _ :: _) _ _ _; first | refine rc rfl rfl rfl rfl rfl rfl rfl (fun w hw => indexFuncS_spec A n c l f fs cs p w (rdSrc hs w hw) hn hb (fun x hx w' hb' => hf x hx w' (hw.below.trans (hb'.mono hw.below.size)))) ?_ | refine rcG rfl rfl rfl rfl rfl rfl rfl rfl rfl (fun hg w hw => indexFuncS_spec A n c l f fs cs p w (rdSrc hs w hw) hn hb (fun x hx w' hb' => hf x hx w' (hw.below.trans (hb'.mono hw.below.size)))) ?_) | (show ∀ _ : Nat, T _ _ _ _ _; intro _) | (show T _ (.code .ret :: _) _ _ _; refine T_retV [] rfl (Hle.refl _) ⟨congrArg Value.bool ?_, rfl⟩))
  exact findI_any p l
structure TsOk (w : World) (l : List TS) : Prop where
  src : ∀ t ∈ l, Src w 6 t.A t.n (t.l.flatMap Tok.cells)
  len : ∀ t ∈ l, t.l.length = t.n
  bd : ∀ t ∈ l, t.n ≤ 9223372036854775807
theorem src_below {w w' : World} {sz n : Nat} {A : Option Addr} {xs : List Value} (h : Src w sz A n xs) (hb : Below w.heap.size w w') : Src w' sz A n xs := ⟨h.1, fun q => ⟨(h.2 q).1, (h.2 q).2.below hb⟩⟩
end Go.Proofs.YtofikdpbagnjbaaGreatDoor
namespace Go.Proofs.YtofikdpbagnjbaaGreatDoor
open Go.RowKit Go.Shelf Go.Proofs
set_option maxRecDepth 100000
set_option maxHeartbeats 1000000

end Go.Proofs.YtofikdpbagnjbaaGreatDoor
namespace Go.Proofs.YtofikdpbagnjbaaGreatDoor

def fstM (G : Grd) (i k : Nat) : Option Mv := (mvs G i k).find? fun x => decide (via G i k x = rst G i k)
theorem fstM_ex {G : Grd} {i k : Nat} (h : i < G.n ∨ k < G.m) : ∃ x, fstM G i k = some x := by
  have key : ∃ x ∈ mvs G i k, via G i k x = rst G i k := by
    by_cases hi : i < G.n
    · by_cases hk : k < G.m
      · rw [mvs_both hi hk, rst_both hi hk]
        have e : ∀ x y z : Int, min (min x y) z = x ∨ min (min x y) z = y ∨ min (min x y) z = z := by omega
        rcases e (G.p i k + rst G (i + 1) (k + 1)) (G.g i + rst G (i + 1) k) (G.h k + rst G i (k + 1)) with h | h | h
        · exact ⟨_, List.mem_cons_self .., h.symm⟩
        · exact ⟨_, List.mem_cons_of_mem _ (List.mem_cons_self ..), h.symm⟩
        · exact ⟨_, List.mem_cons_of_mem _ (List.mem_cons_of_mem _ (List.mem_cons_self ..)), h.symm⟩
      · rw [mvs_fst hi hk, rst_fst hi hk]; exact ⟨_, List.mem_cons_self .., rfl⟩
    · have hk : k < G.m := h.resolve_left hi
      rw [mvs_snd hi hk, rst_snd hi hk]; exact ⟨_, List.mem_cons_self .., rfl⟩
  obtain ⟨x, hx, e⟩ := key
  unfold fstM
  cases hf : (mvs G i k).find? (fun x => decide (via G i k x = rst G i k)) with
  | some y => exact ⟨y, rfl⟩
  | none => exact absurd (decide_eq_true e) (by simpa using List.find?_eq_none.1 hf x hx)
theorem fstM_mem {G : Grd} {i k : Nat} {x : Mv} (h : fstM G i k = some x) : x ∈ mvs G i k ∧ via G i k x = rst G i k := by
  unfold fstM at h
  exact ⟨List.mem_of_find?_eq_some h, by simpa using List.find?_some h⟩
def alnF (G : Grd) : Nat → Nat → Nat → List (List Int)
  | 0, _, _ => []
  | f + 1, i, k => match fstM G i k with
    | some x => mvCol i k x :: alnF G f (i + x.fst) (k + x.snd)
    | none => []
def aln (G : Grd) (i k : Nat) : List (List Int) := alnF G ((G.n - i) + (G.m - k)) i k
theorem alnF_end {G : Grd} {i k : Nat} (h : ¬ (i < G.n ∨ k < G.m)) : ∀ f, alnF G f i k = []
  | 0 => rfl
  | f + 1 => by
    unfold alnF
    have : fstM G i k = none := by unfold fstM; rw [mvs_none (by omega) (by omega)]; rfl
    rw [this]
theorem alnF_more {G : Grd} : ∀ (f : Nat) (i k : Nat), (G.n - i) + (G.m - k) ≤ f → alnF G f i k = aln G i k
  | 0, i, k, h => by unfold aln; rw [show (G.n - i) + (G.m - k) = 0 by omega]
  | f + 1, i, k, h => by
    by_cases he : i < G.n ∨ k < G.m
    · obtain ⟨x, hx⟩ := fstM_ex he
      obtain ⟨d, hd⟩ : ∃ d, (G.n - i) + (G.m - k) = d + 1 := ⟨(G.n - i) + (G.m - k) - 1, by omega⟩
      unfold aln
      rw [hd]
      unfold alnF
      rw [hx]
      have hm := mvs_to (fstM_mem hx).1
      simp only
      rw [alnF_more f _ _ (by omega), alnF_more d _ _ (by omega)]
    · rw [alnF_end he]; unfold aln; rw [alnF_end he]
  termination_by f => f
  decreasing_by all_goals omega
theorem aln_step {G : Grd} {i k : Nat} {x : Mv} (h : fstM G i k = some x) : aln G i k = mvCol i k x :: aln G (i + x.fst) (k + x.snd) := by
  have hm := mvs_to (fstM_mem h).1
  rw [← alnF_more ((G.n - i) + (G.m - k) + 1) i k (by omega)]
  unfold alnF
  rw [h]
  simp only
  rw [alnF_more _ _ _ (by omega)]
theorem aln_end {G : Grd} {i k : Nat} (h : ¬ (i < G.n ∨ k < G.m)) : aln G i k = [] := by unfold aln; exact alnF_end h _
end Go.Proofs.YtofikdpbagnjbaaGreatDoor
namespace Go.Proofs.YtofikdpbagnjbaaGreatDoor

theorem mvs_form {G : Grd} {i k : Nat} {y : Mv} (h : y ∈ mvs G i k) : (y = ⟨1, 1, G.p i k⟩ ∧ i < G.n ∧ k < G.m) ∨ (y = ⟨1, 0, G.g i⟩ ∧ i < G.n) ∨ (y = ⟨0, 1, G.h k⟩ ∧ k < G.m) := by
  obtain ⟨f, s, c⟩ := y
  rcases mvs_to h with ⟨h1, h2, h3, h4, h5⟩ | ⟨h1, h2, h3, h5⟩ | ⟨h1, h2, h3, h5⟩
  · exact .inl ⟨by rw [show f = 1 from h1, show s = 1 from h2, show c = _ from h5], h3, h4⟩
  · exact .inr (.inl ⟨by rw [show f = 1 from h1, show s = 0 from h2, show c = _ from h5], h3⟩)
  · exact .inr (.inr ⟨by rw [show f = 0 from h1, show s = 1 from h2, show c = _ from h5], h3⟩)
theorem aln_len (G : Grd) (i k : Nat) : (aln G i k).length ≤ (G.n - i) + (G.m - k) := by
  unfold aln
  have key : ∀ (f i k : Nat), (alnF G f i k).length ≤ f := by
    intro f
    induction f with
    | zero => intro i k; exact Nat.le_refl _
    | succ f ih =>
      intro i k
      unfold alnF
      split
      · rw [List.length_cons]; have := ih (i + (by assumption : Mv).fst) (k + (by assumption : Mv).snd); omega
      · exact Nat.zero_le _
  exact key _ i k
def shpP (n m : Nat) (t : List (List Int)) : Prop := t.length = n + 1 ∧ ∀ r ∈ t, r.length = m + 1
instance (n m : Nat) (t : List (List Int)) : Decidable (shpP n m t) := by unfold shpP; infer_instance
def rngP (G : Grd) (t : Nat → Nat → Int) : Prop := ∀ i, i < G.n + 1 → ∀ k, k < G.m + 1 → 0 ≤ t i k ∧ t i k ≤ big
def stpP (G : Grd) (t : Nat → Nat → Int) (i k : Nat) : Prop := ∀ y ∈ mvs G i k, t i k ≤ y.cost + t (i + y.fst) (k + y.snd)
def stpsP (G : Grd) (t : Nat → Nat → Int) : Prop := ∀ i, i < G.n + 1 → ∀ k, k < G.m + 1 → stpP G t i k
instance (G : Grd) (t : Nat → Nat → Int) : Decidable (rngP G t) := by unfold rngP; infer_instance
instance (G : Grd) (t : Nat → Nat → Int) (i k : Nat) : Decidable (stpP G t i k) := by unfold stpP; infer_instance
instance (G : Grd) (t : Nat → Nat → Int) : Decidable (stpsP G t) := by unfold stpsP; infer_instance
def certP (G : Grd) (t : Nat → Nat → Int) (z : Int) : Prop := (t G.n G.m = 0 ∧ t 0 0 = z) ∧ rngP G t ∧ stpsP G t
instance (G : Grd) (t : Nat → Nat → Int) (z : Int) : Decidable (certP G t z) := by unfold certP; infer_instance
end Go.Proofs.YtofikdpbagnjbaaGreatDoor
namespace Go.Proofs.YtofikdpbagnjbaaGreatDoor

inductive Dir where
  | b
  | f
  | s
deriving DecidableEq
def Dir.x : Dir → Nat
  | .b => 1
  | .f => 1
  | .s => 0
def Dir.y : Dir → Nat
  | .b => 1
  | .f => 0
  | .s => 1
def xs : List Dir → Nat
  | [] => 0
  | d :: l => d.x + xs l
def ys : List Dir → Nat
  | [] => 0
  | d :: l => d.y + ys l
structure Rvs (G F : Grd) : Prop where
  n : F.n = G.n
  m : F.m = G.m
  p : ∀ i k, i < G.n → k < G.m → F.p (G.n - 1 - i) (G.m - 1 - k) = G.p i k
  g : ∀ i, i < G.n → F.g (G.n - 1 - i) = G.g i
  h : ∀ k, k < G.m → F.h (G.m - 1 - k) = G.h k
theorem Rvs.symm {G F : Grd} (r : Rvs G F) : Rvs F G where
  n := r.n.symm
  m := r.m.symm
  p := fun i k hi hk => by
    rw [r.n] at hi ⊢; rw [r.m] at hk ⊢
    have := r.p (G.n - 1 - i) (G.m - 1 - k) (by omega) (by omega)
    rw [show G.n - 1 - (G.n - 1 - i) = i by omega, show G.m - 1 - (G.m - 1 - k) = k by omega] at this
    exact this.symm
  g := fun i hi => by
    rw [r.n] at hi ⊢
    have := r.g (G.n - 1 - i) (by omega)
    rw [show G.n - 1 - (G.n - 1 - i) = i by omega] at this
    exact this.symm
  h := fun k hk => by
    rw [r.m] at hk ⊢
    have := r.h (G.m - 1 - k) (by omega)
    rw [show G.m - 1 - (G.m - 1 - k) = k by omega] at this
    exact this.symm
structure Xch (G F : Grd) : Prop where
  n : F.n = G.m
  m : F.m = G.n
  p : ∀ i k, i < G.n → k < G.m → F.p k i = G.p i k
  g : ∀ k, k < G.m → F.g k = G.h k
  h : ∀ i, i < G.n → F.h i = G.g i
end Go.Proofs.YtofikdpbagnjbaaGreatDoor
namespace Go.Proofs.YtofikdpbagnjbaaGreatDoor

def IsMin (d : Nat → Int) (S : Nat → Prop) (m : Int) : Prop := (∃ k, S k ∧ d k = m) ∧ ∀ k, S k → m ≤ d k
theorem IsMin.uniq {d : Nat → Int} {S : Nat → Prop} {m m' : Int} (h : IsMin d S m) (h' : IsMin d S m') : m = m' := by
  obtain ⟨⟨k, hk, rfl⟩, h2⟩ := h
  obtain ⟨⟨k', hk', rfl⟩, h2'⟩ := h'
  have := h2 k' hk'
  have := h2' k hk
  omega
def rowR (d : Nat → Int) (i : Nat) (tk : Nat → Bool) (st : Int × Int) : Nat → Int × Int
  | 0 => st
  | k + 1 => if tk k = true ∧ ((rowR d i tk st k).1 < 0 ∨ d k < (rowR d i tk st k).1) then (d k, (i : Int)) else rowR d i tk st k
theorem rowR_law {d : Nat → Int} {i : Nat} {tk : Nat → Bool} {st : Int × Int} (hd : ∀ k, 0 ≤ d k) : ∀ k, ((∀ j, j < k → tk j = false) ∧ rowR d i tk st k = st) ∨
    ∃ m, IsMin d (fun j => j < k ∧ tk j = true) m ∧ rowR d i tk st k = if st.1 < 0 ∨ m < st.1 then (m, (i : Int)) else st
  | 0 => .inl ⟨fun j h => by omega, rfl⟩
  | k + 1 => by
    have hk := hd k
    cases ht : tk k with
    | false =>
      have e : rowR d i tk st (k + 1) = rowR d i tk st k := by simp [rowR, ht]
      rw [e]
      rcases rowR_law (i := i) (tk := tk) (st := st) hd k with ⟨h1, h2⟩ | ⟨m, ⟨⟨k0, h1, h2⟩, h3⟩, h4⟩
      · refine .inl ⟨fun j hj => ?_, h2⟩
        rcases Nat.lt_or_ge j k with h | h
        · exact h1 j h
        · rw [show j = k by omega]; exact ht
      · refine .inr ⟨m, ⟨⟨k0, ⟨by omega, h1.2⟩, h2⟩, fun j hj => h3 j ⟨?_, hj.2⟩⟩, h4⟩
        rcases Nat.lt_or_ge j k with h | h
        · exact h
        · have := hj.2; rw [show j = k by omega, ht] at this; cases this
    | true =>
      have e : rowR d i tk st (k + 1) = if (rowR d i tk st k).1 < 0 ∨ d k < (rowR d i tk st k).1 then (d k, (i : Int)) else rowR d i tk st k := by simp [rowR, ht]
      rw [e]
      rcases rowR_law (i := i) (tk := tk) (st := st) hd k with ⟨h1, h2⟩ | ⟨m, ⟨⟨k0, h1, h2⟩, h3⟩, h4⟩
      · refine .inr ⟨d k, ⟨⟨k, ⟨by omega, ht⟩, rfl⟩, fun j hj => ?_⟩, by rw [h2]⟩
        rcases Nat.lt_or_ge j k with h | h
        · have := hj.2; rw [h1 j h] at this; cases this
        · rw [show j = k by omega]; exact Int.le_refl _
      · have hm0 : 0 ≤ m := h2 ▸ hd k0
        rcases Int.lt_or_le (d k) m with hlt | hge
        · refine .inr ⟨d k, ⟨⟨k, ⟨by omega, ht⟩, rfl⟩, fun j hj => ?_⟩, ?_⟩
          · rcases Nat.lt_or_ge j k with h | h
            · have := h3 j ⟨h, hj.2⟩; omega
            · rw [show j = k by omega]; exact Int.le_refl _
          · rw [h4]
            by_cases hc : st.1 < 0 ∨ m < st.1
            · rw [if_pos hc, if_pos (.inr hlt), if_pos (by omega)]
            · rw [if_neg hc]
        · refine .inr ⟨m, ⟨⟨k0, ⟨by omega, h1.2⟩, h2⟩, fun j hj => ?_⟩, ?_⟩
          · rcases Nat.lt_or_ge j k with h | h
            · exact h3 j ⟨h, hj.2⟩
            · rw [show j = k by omega]; exact hge
          · rw [h4]
            by_cases hc : st.1 < 0 ∨ m < st.1
            · rw [if_pos hc, if_neg (by dsimp only; omega)]
            · rw [if_neg hc, if_neg (by omega)]
def scanR (n : Nat) (d : Nat → Nat → Int) (tk : Nat → Bool) : Nat → Int × Int
  | 0 => (-1, -1)
  | i + 1 => if tk i = true then scanR n d tk i else rowR (d i) i tk (scanR n d tk i) n
def scanP (near : Nat → Int) (tk : Nat → Bool) : Nat → Int × Int
  | 0 => (-1, 0)
  | i + 1 => if tk i = true then scanP near tk i else if (scanP near tk i).1 < 0 ∨ near i < (scanP near tk i).2 then ((i : Int), near i) else scanP near tk i
theorem scan_law {n : Nat} {d : Nat → Nat → Int} {tk : Nat → Bool} {near : Nat → Int} (hd : ∀ i k, 0 ≤ d i k) (hn : ∀ i, i < n → tk i = false → IsMin (d i) (fun j => j < n ∧ tk j = true) (near i)) :
    ∀ i, i ≤ n → (scanP near tk i = (-1, 0) ∧ scanR n d tk i = (-1, -1) ∧ ∀ j, j < i → tk j = true) ∨
      (∃ q : Nat, q < i ∧ tk q = false ∧ scanP near tk i = ((q : Int), near q) ∧ scanR n d tk i = (near q, (q : Int)) ∧ 0 ≤ near q ∧ ∀ j, j < i → tk j = false → near q ≤ near j)
  | 0, _ => .inl ⟨rfl, rfl, fun j h => by omega⟩
  | i + 1, hi => by
    cases ht : tk i with
    | true =>
      have e1 : scanP near tk (i + 1) = scanP near tk i := by simp [scanP, ht]
      have e2 : scanR n d tk (i + 1) = scanR n d tk i := by simp [scanR, ht]
      rw [e1, e2]
      rcases scan_law hd hn i (by omega) with ⟨h1, h2, h3⟩ | ⟨q, h1, h2, h3, h4, h5, h6⟩
      · refine .inl ⟨h1, h2, fun j hj => ?_⟩
        rcases Nat.lt_or_ge j i with h | h
        · exact h3 j h
        · rw [show j = i by omega]; exact ht
      · refine .inr ⟨q, by omega, h2, h3, h4, h5, fun j hj hf => h6 j ?_ hf⟩
        rcases Nat.lt_or_ge j i with h | h
        · exact h
        · rw [show j = i by omega, ht] at hf; cases hf
    | false =>
      have hm := hn i (by omega) ht
      have h0 : 0 ≤ near i := by obtain ⟨⟨k, _, e⟩, _⟩ := hm; rw [← e]; exact hd i k
      have e1 : scanP near tk (i + 1) = if (scanP near tk i).1 < 0 ∨ near i < (scanP near tk i).2 then ((i : Int), near i) else scanP near tk i := by simp [scanP, ht]
      have e2 : scanR n d tk (i + 1) = if (scanR n d tk i).1 < 0 ∨ near i < (scanR n d tk i).1 then (near i, (i : Int)) else scanR n d tk i := by
        simp only [scanR, ht, Bool.false_eq_true, if_false]
        rcases rowR_law (i := i) (tk := tk) (st := scanR n d tk i) (hd i) n with ⟨h1, _⟩ | ⟨m, h1, h2⟩
        · obtain ⟨⟨k, ⟨hk, hk2⟩, _⟩, _⟩ := hm
          rw [h1 k hk] at hk2; cases hk2
        · rw [h2, h1.uniq hm]
      rw [e1, e2]
      rcases scan_law hd hn i (by omega) with ⟨h1, h2, h3⟩ | ⟨q, h1, h2, h3, h4, h5, h6⟩
      · rw [h1, h2, if_pos (by dsimp only; omega), if_pos (by dsimp only; omega)]
        refine .inr ⟨i, by omega, ht, rfl, rfl, h0, fun j hj hf => ?_⟩
        rcases Nat.lt_or_ge j i with h | h
        · rw [h3 j h] at hf; cases hf
        · rw [show j = i by omega]; exact Int.le_refl _
      · rw [h3, h4]
        dsimp only
        by_cases hc : near i < near q
        · rw [if_pos (.inr hc), if_pos (.inr hc)]
          refine .inr ⟨i, by omega, ht, rfl, rfl, h0, fun j hj hf => ?_⟩
          rcases Nat.lt_or_ge j i with h | h
          · have := h6 j h hf; omega
          · rw [show j = i by omega]; exact Int.le_refl _
        · rw [if_neg (by omega), if_neg (by omega)]
          refine .inr ⟨q, by omega, h2, rfl, rfl, h5, fun j hj hf => ?_⟩
          rcases Nat.lt_or_ge j i with h | h
          · exact h6 j h hf
          · rw [show j = i by omega]; omega
end Go.Proofs.YtofikdpbagnjbaaGreatDoor
namespace Go.Proofs.YtofikdpbagnjbaaGreatDoor
open Go.RowKit Go.Shelf Go.Proofs
set_option maxRecDepth 100000
set_option maxHeartbeats 1000000

structure Grp (w : World) (A : Option Addr) (n : Nat) (l : List TS) : Prop where
  hst : Std w
  hs : Src w 1 A n (l.map TS.val)
  hn : l.length = n
  hb : n ≤ 32
  ok : TsOk w l
  nb : ∀ t ∈ l, t.n ≤ 1000
  sm : ∀ t ∈ l, ∀ x ∈ t.l, x.small
theorem Grp.cls {w0 w : World} {H : List HA} {A : Option Addr} {n : Nat} {l : List TS} (h : Grp w0 A n l) (hw : Cls w0 w H) : Grp w A n l :=
  ⟨h.hst.cls hw, ⟨h.hs.1, fun q => ⟨(h.hs.2 q).1, (h.hs.2 q).2.old hw⟩⟩, h.hn, h.hb, ⟨fun t ht => src_below (h.ok.src t ht) hw.below, h.ok.len, h.ok.bd⟩, h.nb, h.sm⟩
theorem Grp.get {w : World} {b o n : Nat} {l : List TS} (h : Grp w (some ⟨b, o, none⟩) n l) {k : Nat} (hk : k < n) : ∃ t, l[k]? = some t ∧ t ∈ l ∧ RdC w b (o + (k : Int).toNat * 1) [.slice t.A t.n t.cap] := by
  obtain ⟨t, ht⟩ : ∃ t, l[k]? = some t := ⟨_, List.getElem?_eq_getElem (by have := h.hn; omega)⟩
  refine ⟨t, ht, List.mem_of_getElem? ht, ?_⟩
  have h9 := (h.hs.get1 (i := k) hk (by rw [List.getElem?_map, ht]; rfl)).2
  rw [Nat.mul_one] at h9
  rw [off1]
  exact h9
def badS (l : List TS) : Bool := l.any fun t => badL t.l
def ck21 (c : Costs) (l : List TS) : Int := if costE c = 0 ∧ badS l = false then 0 else 1
noncomputable def great21B (l : List TS) : Bool := l.any (fun t => decide (5 < t.l.length) || greatB t.l) || decide (4 < l.length)
theorem Grp.of {w : World} {A : Option Addr} {n : Nat} {l : List TS} (hst : Std w) (hs : Src w 1 A n (l.map TS.val)) (hn : l.length = n) (hl : TsOk w l) (h : great21B l = false) : Grp w A n l ∧ n ≤ 4 ∧ ∀ t ∈ l, t.n ≤ 5 := by
  unfold great21B at h
  rw [Bool.or_eq_false_iff, decide_eq_false_iff_not, List.any_eq_false] at h
  have h5 : ∀ t ∈ l, t.n ≤ 5 := fun t ht => by
    have := h.1 t ht
    have := hl.len t ht
    simp at *
    omega
  refine ⟨⟨hst, hs, hn, by omega, hl, fun t ht => by have := h5 t ht; omega, fun t ht x hx => ?_⟩, by omega, h5⟩
  have h9 : greatB t.l = false := by
    have := h.1 t ht
    simp at this
    exact this.2
  exact (longT_small ((greatB_false h9).1 x hx)).1
end Go.Proofs.YtofikdpbagnjbaaGreatDoor
namespace Go.Proofs.YtofikdpbagnjbaaGreatDoor
open Go.RowKit Go.Shelf Go.Proofs
set_option maxRecDepth 100000
set_option maxHeartbeats 1000000

theorem src_int {w : World} {b o n : Nat} {xs : List Int} (hs : Src w 1 (some ⟨b, o, none⟩) n (xs.map (Value.int .i64))) {k : Nat} (hk : k < n) {x : Int} (hx : xs[k]? = some x) : RdC w b (o + (k : Int).toNat * 1) [.int .i64 x] := by
  have h9 := (hs.get1 (i := k) hk (by rw [List.getElem?_map, hx]; rfl)).2
  rw [Nat.mul_one] at h9
  rw [off1]
  exact h9
def minF (key : Int → Int) (x : Int) (l : List Int) : Int := l.foldl (fun m y => if key y < key m then y else m) x
theorem minF_mem (key : Int → Int) : ∀ (x : Int) (l : List Int), minF key x l ∈ x :: l
  | x, [] => List.mem_cons_self ..
  | x, y :: l => by
    have e : minF key x (y :: l) = minF key (if key y < key x then y else x) l := rfl
    rw [e]
    split
    · exact List.mem_cons_of_mem _ (minF_mem key y l)
    · rcases List.mem_cons.1 (minF_mem key x l) with h | h
      · rw [h]; exact List.mem_cons_self ..
      · exact List.mem_cons_of_mem _ (List.mem_cons_of_mem _ h)
end Go.Proofs.YtofikdpbagnjbaaGreatDoor
namespace Go.Proofs.YtofikdpbagnjbaaGreatDoor

def stp2 (D : Nat → Nat → Int) (fs p : Nat × Nat) : Nat × Nat := if D p.1 p.2 < D fs.1 fs.2 then p else fs
def selK (D : Nat → Nat → Int) (i : Nat) (fs : Nat × Nat) : Nat → Nat × Nat
  | 0 => fs
  | k + 1 => if i < k then stp2 D (selK D i fs k) (i, k) else selK D i fs k
def selI (D : Nat → Nat → Int) (n : Nat) : Nat → Nat × Nat
  | 0 => (0, 1)
  | i + 1 => selK D i (selI D n i) n
theorem selK_low (D : Nat → Nat → Int) (i : Nat) (fs : Nat × Nat) : ∀ k, k ≤ i + 1 → selK D i fs k = fs
  | 0, _ => rfl
  | k + 1, h => by rw [selK, if_neg (by omega)]; exact selK_low D i fs k (by omega)
theorem selK_step {D : Nat → Nat → Int} {i k : Nat} {fs : Nat × Nat} (h : i < k) : selK D i fs (k + 1) = stp2 D (selK D i fs k) (i, k) := if_pos h
def InP (n i k : Nat) (p : Nat × Nat) : Prop := p.1 < p.2 ∧ p.2 < n ∧ (p = (0, 1) ∨ p.1 < i ∨ (p.1 = i ∧ p.2 < k))
theorem selK_in {D : Nat → Nat → Int} {n i : Nat} {fs : Nat × Nat} (h : InP n i 0 fs) : ∀ k, k ≤ n → InP n i k (selK D i fs k)
  | 0, _ => h
  | k + 1, hk => by
    have ih := selK_in (D := D) h k (by omega)
    obtain ⟨h1, h2, h3⟩ := ih
    by_cases hik : i < k
    · rw [selK_step hik]
      unfold stp2
      split
      · exact ⟨hik, by dsimp only; omega, .inr (.inr ⟨rfl, by dsimp only; omega⟩)⟩
      · refine ⟨h1, h2, ?_⟩
        rcases h3 with h3 | h3 | h3
        · exact .inl h3
        · exact .inr (.inl h3)
        · exact .inr (.inr ⟨h3.1, by omega⟩)
    · rw [selK, if_neg hik]
      refine ⟨h1, h2, ?_⟩
      rcases h3 with h3 | h3 | h3
      · exact .inl h3
      · exact .inr (.inl h3)
      · exact .inr (.inr ⟨h3.1, by omega⟩)
theorem selI_in {D : Nat → Nat → Int} {n : Nat} (h2 : 2 ≤ n) : ∀ i, i ≤ n → InP n i 0 (selI D n i)
  | 0, _ => ⟨Nat.zero_lt_one, by show 1 < n; omega, .inl rfl⟩
  | i + 1, hi => by
    obtain ⟨g1, g2, g3⟩ := selK_in (D := D) (selI_in (D := D) h2 i (by omega)) n (Nat.le_refl _)
    show InP n (i + 1) 0 (selK D i (selI D n i) n)
    refine ⟨g1, g2, ?_⟩
    rcases g3 with g3 | g3 | g3
    · exact .inl g3
    · exact .inr (.inl (by omega))
    · exact .inr (.inl (by omega))
structure Sym (D : Nat → Nat → Int) : Prop where
  z : ∀ i, D i i = 0
  s : ∀ i k, D i k = D k i
def tkOf (out : List Nat) (i : Nat) : Bool := out.any fun x => decide (i = x)
theorem tkOf_iff {out : List Nat} {i : Nat} : tkOf out i = true ↔ i ∈ out := by
  unfold tkOf; rw [List.any_eq_true]; simp
theorem tkOf_no {out : List Nat} {i : Nat} : tkOf out i = false ↔ i ∉ out := by
  rw [← tkOf_iff, Bool.not_eq_true]
def keyD (D : Nat → Nat → Int) (i : Nat) (x : Int) : Int := D i x.toNat
def minO (D : Nat → Nat → Int) (out : List Nat) (i : Nat) : Int := minF (keyD D i) (out.headD 0 : Nat) (out.tail.map fun (x : Nat) => (x : Int))
def nearV (D : Nat → Nat → Int) (out : List Nat) (i : Nat) : Int := D i (minO D out i).toNat
theorem minF_le (key : Int → Int) : ∀ (l : List Int) (x : Int), ∀ y ∈ x :: l, key (minF key x l) ≤ key y
  | [], x, y, h => by
    rw [List.mem_singleton] at h; subst h; exact Int.le_refl _
  | z :: l, x, y, h => by
    have e : minF key x (z :: l) = minF key (if key z < key x then z else x) l := rfl
    rw [e]
    by_cases hlt : key z < key x
    · rw [if_pos hlt]
      have h0 := minF_le key l z _ (List.mem_cons_self ..)
      rcases List.mem_cons.1 h with h | h
      · rw [h]; omega
      · rcases List.mem_cons.1 h with h | h
        · rw [h]; omega
        · exact minF_le key l z y (List.mem_cons_of_mem _ h)
    · rw [if_neg hlt]
      have h0 := minF_le key l x _ (List.mem_cons_self ..)
      rcases List.mem_cons.1 h with h | h
      · rw [h]; omega
      · rcases List.mem_cons.1 h with h | h
        · rw [h]; omega
        · exact minF_le key l x y (List.mem_cons_of_mem _ h)
theorem minO_mem (D : Nat → Nat → Int) {out : List Nat} (h : out ≠ []) (i : Nat) : ∃ q : Nat, q ∈ out ∧ minO D out i = (q : Int) := by
  cases out with
  | nil => exact absurd rfl h
  | cons x l =>
    have := minF_mem (keyD D i) (x : Nat) (l.map fun (x : Nat) => (x : Int))
    show ∃ q : Nat, q ∈ x :: l ∧ minF (keyD D i) (x : Nat) (l.map fun (x : Nat) => (x : Int)) = (q : Int)
    rcases List.mem_cons.1 this with h9 | h9
    · exact ⟨x, List.mem_cons_self .., h9⟩
    · obtain ⟨q, hq, e⟩ := List.mem_map.1 h9
      exact ⟨q, List.mem_cons_of_mem _ hq, e.symm⟩
theorem nearV_min (D : Nat → Nat → Int) {out : List Nat} (h : out ≠ []) (i : Nat) {n : Nat} (hn : ∀ x ∈ out, x < n) : IsMin (D i) (fun j => j < n ∧ tkOf out j = true) (nearV D out i) := by
  obtain ⟨q, hq, e⟩ := minO_mem D h i
  refine ⟨⟨q, ⟨hn q hq, tkOf_iff.2 hq⟩, by unfold nearV; rw [e]; rfl⟩, fun k hk => ?_⟩
  have hk2 := tkOf_iff.1 hk.2
  cases out with
  | nil => exact absurd rfl h
  | cons x l =>
    have := minF_le (keyD D i) (l.map fun (x : Nat) => (x : Int)) (x : Nat) (k : Nat) (by
      rcases List.mem_cons.1 hk2 with rfl | h9
      · exact List.mem_cons_self ..
      · exact List.mem_cons_of_mem _ (List.mem_map.2 ⟨k, h9, rfl⟩))
    exact this
def nxtO (D : Nat → Nat → Int) (n : Nat) (out : List Nat) : Nat := (scanP (nearV D out) (tkOf out) n).1.toNat
def ordJ (D : Nat → Nat → Int) (n : Nat) : Nat → List Nat
  | 0 => [(selI D n n).1, (selI D n n).2]
  | j + 1 => ordJ D n j ++ [nxtO D n (ordJ D n j)]
def orderV (D : Nat → Nat → Int) (n : Nat) : List Nat := if n = 0 then [] else if n = 1 then [0] else ordJ D n (n - 2)
theorem ordJ_len (D : Nat → Nat → Int) (n : Nat) : ∀ j, (ordJ D n j).length = j + 2
  | 0 => rfl
  | j + 1 => by rw [ordJ, List.length_append, ordJ_len D n j]; rfl
theorem pigeon : ∀ (n : Nat) (l : List Nat), (∀ i, i < n → i ∈ l) → n ≤ l.length
  | 0, l, _ => Nat.zero_le _
  | n + 1, l, h => by
    have h1 := pigeon n (l.erase n) (fun i hi => (List.mem_erase_of_ne (by omega)).2 (h i (by omega)))
    have h2 := List.length_erase_of_mem (h n (by omega))
    have h3 := List.length_pos_of_mem (h n (by omega))
    omega
theorem nxtO_law {D : Nat → Nat → Int} (hD : ∀ i k, 0 ≤ D i k) {n : Nat} {out : List Nat} (h : out ≠ []) (hn : ∀ x ∈ out, x < n) (hl : out.length < n) :
    nxtO D n out < n ∧ nxtO D n out ∉ out ∧ scanP (nearV D out) (tkOf out) n = (((nxtO D n out : Nat) : Int), nearV D out (nxtO D n out)) ∧ scanR n D (tkOf out) n = (nearV D out (nxtO D n out), ((nxtO D n out : Nat) : Int)) ∧ 0 ≤ nearV D out (nxtO D n out) ∧ ∀ j, j < n → j ∉ out → nearV D out (nxtO D n out) ≤ nearV D out j := by
  rcases scan_law (near := nearV D out) (tk := tkOf out) hD (fun i _ _ => nearV_min D h i hn) n (Nat.le_refl _) with ⟨h1, h2, h3⟩ | ⟨q, h1, h2, h3, h4, h5, h6⟩
  · exfalso
    have := pigeon n out fun i hi => tkOf_iff.1 (h3 i hi)
    omega
  · have e : nxtO D n out = q := by unfold nxtO; rw [h3]; rfl
    rw [e]
    exact ⟨h1, tkOf_no.1 h2, h3, h4, h5, fun j hj hjo => h6 j hj (tkOf_no.2 hjo)⟩
theorem ordJ_ok {D : Nat → Nat → Int} (hD : ∀ i k, 0 ≤ D i k) {n : Nat} (h2 : 2 ≤ n) : ∀ j, j + 2 ≤ n → (ordJ D n j).Nodup ∧ ∀ x ∈ ordJ D n j, x < n
  | 0, _ => by
    obtain ⟨g1, g2, _⟩ := selI_in (D := D) h2 n (Nat.le_refl _)
    refine ⟨?_, fun x hx => ?_⟩
    · show [(selI D n n).1, (selI D n n).2].Nodup
      simp; omega
    · have hx : x = (selI D n n).1 ∨ x = (selI D n n).2 := by simpa [ordJ] using hx
      omega
  | j + 1, hj => by
    obtain ⟨g1, g2⟩ := ordJ_ok hD h2 j (by omega)
    have hne : ordJ D n j ≠ [] := fun h => by have := ordJ_len D n j; rw [h] at this; simp at this
    obtain ⟨q1, q2, _⟩ := nxtO_law hD hne g2 (by rw [ordJ_len]; omega)
    refine ⟨?_, fun x hx => ?_⟩
    · rw [ordJ, List.nodup_append]
      refine ⟨g1, by simp, fun a ha b hb => ?_⟩
      rw [List.mem_singleton] at hb
      subst hb
      exact fun e => q2 (e ▸ ha)
    · rw [ordJ, List.mem_append, List.mem_singleton] at hx
      rcases hx with hx | rfl
      · exact g2 x hx
      · exact q1
theorem orderV_len (D : Nat → Nat → Int) (n : Nat) : (orderV D n).length = n := by
  unfold orderV
  split
  · rename_i h; rw [h]; rfl
  · split
    · rename_i h; rw [h]; rfl
    · rw [ordJ_len]; omega
theorem orderV_ok {D : Nat → Nat → Int} (hD : ∀ i k, 0 ≤ D i k) (n : Nat) : (orderV D n).Nodup ∧ ∀ x ∈ orderV D n, x < n := by
  unfold orderV
  split
  · simp
  · split
    · simp; omega
    · exact ordJ_ok hD (by omega) _ (by omega)
end Go.Proofs.YtofikdpbagnjbaaGreatDoor
namespace Go.Proofs.YtofikdpbagnjbaaGreatDoor

structure Dbl (G F : Grd) : Prop where
  n : F.n = G.n
  m : F.m = G.m
  p : ∀ i k, i < G.n → k < G.m → F.p i k = 2 * G.p i k
  g : ∀ i, i < G.n → F.g i = 2 * G.g i
  h : ∀ k, k < G.m → F.h k = 2 * G.h k
structure One (G F : Grd) (q : Nat) (z : Int) : Prop where
  hq : q ≤ G.n
  n : F.n = G.n + 1
  m : F.m = G.m
  p : ∀ i k, i < q → k < G.m → F.p i k = G.p i k
  g : ∀ i, i < q → F.g i = G.g i
  z : F.g q = z
  p2 : ∀ i k, q ≤ i → i < G.n → k < G.m → F.p (i + 1) k = G.p i k
  g2 : ∀ i, q ≤ i → i < G.n → F.g (i + 1) = G.g i
  h : ∀ k, k < G.m → F.h k = G.h k
end Go.Proofs.YtofikdpbagnjbaaGreatDoor
namespace Go.Proofs.YtofikdpbagnjbaaGreatDoor
open Go.RowKit Go.Shelf Go.Proofs
set_option maxRecDepth 100000
set_option maxHeartbeats 1000000

def entC (c : Costs) (l : List Tok) (z : Int) (t : List Tok) (k : Int) : Int :=
  if 0 ≤ z ∧ 0 ≤ k then pairC c (tkA l z.toNat) (tkA t k.toNat) else if 0 ≤ z then gapC c (tkA l z.toNat) else if 0 ≤ k then gapC c (tkA t k.toNat) else 0
theorem entC_bd {c : Costs} (hc : costE c = 0) (l : List Tok) (z : Int) (t : List Tok) (k : Int) : 0 ≤ entC c l z t k ∧ entC c l z t k ≤ 1000 := by
  obtain ⟨c1, c2, c3, c4, c5⟩ := costE_ok hc
  have h1 := pairC_bd hc (tkA l z.toNat) (tkA t k.toNat)
  have h2 := gapC_bd hc (tkA l z.toNat)
  have h3 := gapC_bd hc (tkA t k.toNat)
  unfold entC
  (repeat' split) <;> omega
def putS (c : Costs) (l : List TS) (col : List Int) (t : List Tok) (k : Int) (j : Nat) : Int := (((l.zip col).take j).map fun p => entC c p.1.l p.2 t k).sum
def putC (c : Costs) (l : List TS) (col : List Int) (t : List Tok) (k : Int) : Int := ((l.zip col).map fun p => entC c p.1.l p.2 t k).sum
theorem putS_succ (c : Costs) {l : List TS} {col : List Int} (t : List Tok) (k : Int) {j : Nat} {s : TS} {z : Int} (h1 : l[j]? = some s) (h2 : col[j]? = some z) : putS c l col t k (j + 1) = putS c l col t k j + entC c s.l z t k := by
  have h : (l.zip col)[j]? = some (s, z) := by rw [List.getElem?_zip_eq_some]; exact ⟨h1, h2⟩
  unfold putS; rw [take_snoc _ _ _ h, List.map_append, List.sum_append]; simp
theorem putS_bd {c : Costs} (hc : costE c = 0) (l : List TS) (col : List Int) (t : List Tok) (k : Int) : ∀ j, 0 ≤ putS c l col t k j ∧ putS c l col t k j ≤ 1000 * (j : Int)
  | 0 => by simp [putS]
  | j + 1 => by
    have ih := putS_bd hc l col t k j
    cases h : (l.zip col)[j]? with
    | none =>
      have hl : (l.zip col).length ≤ j := List.getElem?_eq_none_iff.1 h
      have e : putS c l col t k (j + 1) = putS c l col t k j := by unfold putS; rw [List.take_of_length_le hl, List.take_of_length_le (by omega)]
      rw [e]; omega
    | some p =>
      obtain ⟨h1, h2⟩ := List.getElem?_zip_eq_some.1 h
      have := entC_bd hc p.1.l p.2 t k
      rw [putS_succ c t k h1 h2]; omega
theorem putS_all (c : Costs) {l : List TS} {col : List Int} (t : List Tok) (k : Int) {n : Nat} (h : l.length ≤ n) : putS c l col t k n = putC c l col t k := by
  unfold putS putC; rw [List.take_of_length_le (by rw [List.length_zip]; omega)]
def ColOk (l : List TS) (col : List Int) : Prop := col.length = l.length ∧ ∀ (j : Nat) (z : Int) (s : TS), col[j]? = some z → l[j]? = some s → -1 ≤ z ∧ z < (s.n : Int)
theorem badS_ok {l : List TS} (h : badS l = false) : ∀ s ∈ l, ∀ x ∈ s.l, tokE x = 0 := fun s hs => badL_false.1 (by
  unfold badS at h
  rw [List.any_eq_false] at h
  simpa using h s hs)
theorem tkA_mem2 {l : List Tok} {z : Int} (h0 : 0 ≤ z) (h1 : z < (l.length : Nat)) : tkA l z.toNat ∈ l := List.mem_of_getElem? (tkA_get (l := l) (i := z.toNat) (by omega))
end Go.Proofs.YtofikdpbagnjbaaGreatDoor
namespace Go.Proofs.YtofikdpbagnjbaaGreatDoor
open Go.RowKit Go.Shelf Go.Proofs

def bst (best x : Int) : Int := if best < 0 ∨ x < best then x else best
def noneC (n : Nat) : List Int := List.replicate n (-1)
def grdA (c : Costs) (l : List TS) (cols : List (List Int)) (t : List Tok) : Grd :=
  ⟨cols.length, t.length, fun i k => putC c l (cols.getD i []) t (k : Nat), fun i => putC c l (cols.getD i []) t (-1), fun k => putC c l (noneC l.length) t (k : Nat)⟩
theorem putC_bd {c : Costs} (hc : costE c = 0) (l : List TS) (col : List Int) (t : List Tok) (k : Int) : 0 ≤ putC c l col t k ∧ putC c l col t k ≤ 1000 * (l.length : Int) := by
  rw [← putS_all c (l := l) (col := col) t k (Nat.le_refl _)]
  exact putS_bd hc l col t k l.length
theorem grdA_ok {c : Costs} (hc : costE c = 0) (l : List TS) (cols : List (List Int)) (t : List Tok) : GOk (grdA c l cols t) (1000 * (l.length : Int)) :=
  ⟨fun i k => putC_bd hc l _ t _, fun i => putC_bd hc l _ t _, fun k => putC_bd hc l _ t _⟩
def colM (n : Nat) (cols : List (List Int)) (i k : Nat) (v : Mv) : List Int := (if v.fst = 1 then cols.getD i [] else noneC n) ++ [if v.snd = 1 then (k : Int) else -1]
def colA (n : Nat) (cols : List (List Int)) (r : List Int) : List Int := (if r.headD 0 < 0 then noneC n else cols.getD (r.headD 0).toNat []) ++ [r.getD 1 0]
theorem colA_mv (n : Nat) (cols : List (List Int)) (i k : Nat) (v : Mv) : colA n cols (mvCol i k v) = colM n cols i k v := by
  unfold colA colM mvCol
  by_cases h : v.fst = 1
  · simp [h]; intro h9; omega
  · simp [h]
def addV (c : Costs) (l : List TS) (cols : List (List Int)) (t : List Tok) (i k : Nat) : List (List Int) := (aln (grdA c l cols t) i k).map (colA l.length cols)
theorem addV_step {c : Costs} {l : List TS} {cols : List (List Int)} {t : List Tok} {i k : Nat} {x : Mv} (h : fstM (grdA c l cols t) i k = some x) : addV c l cols t i k = colM l.length cols i k x :: addV c l cols t (i + x.fst) (k + x.snd) := by
  unfold addV; rw [aln_step h, List.map_cons, colA_mv]
theorem addV_end {c : Costs} {l : List TS} {cols : List (List Int)} {t : List Tok} {i k : Nat} (h : ¬ (i < cols.length ∨ k < t.length)) : addV c l cols t i k = [] := by
  unfold addV; rw [aln_end (by exact h)]; rfl
theorem addV_len (c : Costs) (l : List TS) (cols : List (List Int)) (t : List Tok) : (addV c l cols t 0 0).length ≤ cols.length + t.length := by
  unfold addV; rw [List.length_map]; exact aln_len _ 0 0
def srcC (cols : List (List Int)) (s : Nat) : List Int := (cols.map fun x => x.getD s (-1)).filter fun z => decide (z ≠ -1)
def upto (n : Nat) : List Int := (List.range n).map fun (x : Nat) => (x : Int)
theorem upto_len (n : Nat) : (upto n).length = n := by simp [upto]
theorem upto_get {n i : Nat} (h : i < n) : (upto n)[i]? = some (i : Int) := by unfold upto; rw [List.getElem?_map, List.getElem?_range h]; rfl
theorem upto_succ (n : Nat) : upto (n + 1) = upto n ++ [(n : Int)] := by unfold upto; rw [List.range_succ, List.map_append]; rfl
theorem upto_mem {n : Nat} {z : Int} : z ∈ upto n ↔ 0 ≤ z ∧ z < (n : Int) := by
  unfold upto
  rw [List.mem_map]
  constructor
  · rintro ⟨a, ha, rfl⟩
    rw [List.mem_range] at ha
    omega
  · rintro ⟨h1, h2⟩
    exact ⟨z.toNat, List.mem_range.2 (by omega), by omega⟩
structure ColsOk (ls : List Nat) (cols : List (List Int)) : Prop where
  len : ∀ x ∈ cols, x.length = ls.length
  some_ : ∀ x ∈ cols, ∃ z ∈ x, z ≠ -1
  src : ∀ s n, ls[s]? = some n → srcC cols s = upto n
theorem srcC_app (a b : List (List Int)) (s : Nat) : srcC (a ++ b) s = srcC a s ++ srcC b s := by unfold srcC; rw [List.map_append, List.filter_append]
theorem srcC_cons (x : List Int) (b : List (List Int)) (s : Nat) : srcC (x :: b) s = (if x.getD s (-1) = -1 then [] else [x.getD s (-1)]) ++ srcC b s := by
  unfold srcC
  rw [List.map_cons, List.filter_cons]
  by_cases h : x.getD s (-1) = -1
  · rw [if_pos h, h]; simp
  · rw [if_neg h, if_pos (by simpa using h)]; rfl
theorem srcC_mem {cols : List (List Int)} {s : Nat} {x : List Int} {z : Int} (hx : x ∈ cols) (hz : x[s]? = some z) (h : z ≠ -1) : z ∈ srcC cols s := by
  unfold srcC
  rw [List.mem_filter]
  refine ⟨List.mem_map.2 ⟨x, hx, ?_⟩, by simpa using h⟩
  rw [List.getD_eq_getElem?_getD, hz]; rfl
theorem ColsOk.entry {ls : List Nat} {cols : List (List Int)} (h : ColsOk ls cols) {x : List Int} (hx : x ∈ cols) {s n : Nat} {z : Int} (hs : ls[s]? = some n) (hz : x[s]? = some z) : -1 ≤ z ∧ z < (n : Int) := by
  by_cases h1 : z = -1
  · subst h1; omega
  · have := srcC_mem hx hz h1
    rw [h.src s n hs, upto_mem] at this
    omega
theorem ColsOk.colOk {l : List TS} {cols : List (List Int)} (h : ColsOk (l.map fun t => t.n) cols) {x : List Int} (hx : x ∈ cols) : ColOk l x := by
  refine ⟨by rw [h.len x hx, List.length_map], fun j z s hz hs => ?_⟩
  exact h.entry hx (s := j) (by rw [List.getElem?_map, hs]; rfl) hz
theorem ColsOk.nil : ColsOk [] [] := ⟨fun x h => (by cases h), fun x h => (by cases h), fun s n h => (by simp at h)⟩
theorem srcC_drop {cols : List (List Int)} {i : Nat} (h : i < cols.length) (s : Nat) : srcC (cols.drop i) s = (if (cols.getD i []).getD s (-1) = -1 then [] else [(cols.getD i []).getD s (-1)]) ++ srcC (cols.drop (i + 1)) s := by
  have e : cols.getD i [] = cols[i] := by rw [List.getD_eq_getElem?_getD, List.getElem?_eq_getElem h]; rfl
  rw [List.drop_eq_getElem_cons h, srcC_cons, e]
theorem addV_rest {c : Costs} {l : List TS} {cols : List (List Int)} {t : List Tok} (hlen : ∀ x ∈ cols, x.length = l.length) : ∀ i k, i ≤ cols.length → k ≤ t.length →
    (∀ s, s < l.length → srcC (addV c l cols t i k) s = srcC (cols.drop i) s) ∧ srcC (addV c l cols t i k) l.length = (upto t.length).drop k := by
  refine grd_ind (grdA c l cols t) fun i k h1 h2 h3 hi hk => ?_
  have e1 : (grdA c l cols t).n = cols.length := rfl
  have e2 : (grdA c l cols t).m = t.length := rfl
  have hr : ∀ i, i < cols.length → (cols.getD i []).length = l.length := fun i h => by
    rw [List.getD_eq_getElem?_getD, List.getElem?_eq_getElem h]; exact hlen _ (List.getElem_mem h)
  have hlow : ∀ i s (z : Int), i < cols.length → s < l.length → (cols.getD i [] ++ [z]).getD s (-1) = (cols.getD i []).getD s (-1) := fun i s z h h9 => by
    rw [List.getD_eq_getElem?_getD, List.getElem?_append_left (by rw [hr i h]; exact h9), ← List.getD_eq_getElem?_getD]
  have hlast : ∀ (a : List Int) (z : Int), a.length = l.length → (a ++ [z]).getD l.length (-1) = z := fun a z h => by
    rw [List.getD_eq_getElem?_getD, List.getElem?_append_right (by omega), h, Nat.sub_self]; rfl
  have hnl : (noneC l.length).length = l.length := by simp [noneC]
  have hnone : ∀ s (z : Int), s < l.length → (noneC l.length ++ [z]).getD s (-1) = -1 := fun s z h => by
    rw [List.getD_eq_getElem?_getD, List.getElem?_append_left (by rw [hnl]; exact h)]
    unfold noneC; rw [List.getElem?_replicate, if_pos h]; rfl
  have hd : k < t.length → (upto t.length).drop k = (k : Int) :: (upto t.length).drop (k + 1) := fun h => by
    have hg : (upto t.length)[k]'(by rw [upto_len]; exact h) = (k : Int) := by
      have := upto_get h
      rw [List.getElem?_eq_getElem (by rw [upto_len]; exact h)] at this
      exact Option.some.inj this
    rw [List.drop_eq_getElem_cons (by rw [upto_len]; exact h), hg]
  by_cases he : i < cols.length ∨ k < t.length
  · obtain ⟨x, hx⟩ := fstM_ex (G := grdA c l cols t) (i := i) (k := k) he
    rw [addV_step hx]
    rcases mvs_form (fstM_mem hx).1 with ⟨rfl, f1, f2⟩ | ⟨rfl, f1⟩ | ⟨rfl, f1⟩
    · obtain ⟨g1, g2⟩ := h3 f1 f2 (by omega) (by omega)
      have f1' : i < cols.length := f1
      have f2' : k < t.length := f2
      refine ⟨fun s hs => ?_, ?_⟩
      · rw [srcC_cons]
        simp only [colM, if_true]
        rw [hlow i s _ f1' hs, g1 s hs, srcC_drop f1' s]
      · rw [srcC_cons]
        simp only [colM, if_true]
        rw [hlast _ _ (hr i f1'), g2, if_neg (by omega), hd f2']; rfl
    · obtain ⟨g1, g2⟩ := h1 f1 (by omega) hk
      have f1' : i < cols.length := f1
      refine ⟨fun s hs => ?_, ?_⟩
      · rw [srcC_cons]
        simp only [colM, if_true, Nat.add_zero]
        rw [hlow i s _ f1' hs, g1 s hs, srcC_drop f1' s]
      · rw [srcC_cons]
        simp only [colM, if_true, Nat.add_zero, show ¬ (0 : Nat) = 1 by omega, if_false]
        rw [hlast _ _ (hr i f1'), if_pos rfl, g2]; rfl
    · obtain ⟨g1, g2⟩ := h2 f1 hi (by omega)
      have f1' : k < t.length := f1
      refine ⟨fun s hs => ?_, ?_⟩
      · rw [srcC_cons]
        simp only [colM, show ¬ (0 : Nat) = 1 by omega, if_false, Nat.add_zero]
        rw [hnone s _ hs, if_pos rfl, g1 s hs]; rfl
      · rw [srcC_cons]
        simp only [colM, show ¬ (0 : Nat) = 1 by omega, if_false, if_true, Nat.add_zero]
        rw [hlast _ _ hnl, g2, if_neg (by omega), hd f1']; rfl
  · rw [addV_end he]
    have hi2 : i = cols.length := by omega
    have hk2 : k = t.length := by omega
    refine ⟨fun s hs => ?_, ?_⟩
    · rw [List.drop_of_length_le (by omega)]
    · rw [List.drop_of_length_le (by rw [upto_len]; omega)]; rfl
theorem addV_all {c : Costs} {l : List TS} {cols : List (List Int)} {t : List Tok} {P : List Int → Prop} (h10 : ∀ x ∈ cols, ∀ z : Int, P (x ++ [z])) (h01 : ∀ k : Nat, P (noneC l.length ++ [(k : Int)])) : ∀ i k, ∀ x ∈ addV c l cols t i k, P x := by
  refine grd_ind (grdA c l cols t) fun i k h1 h2 h3 x hx => ?_
  by_cases he : i < cols.length ∨ k < t.length
  · obtain ⟨y, hy⟩ := fstM_ex (G := grdA c l cols t) (i := i) (k := k) he
    rw [addV_step hy] at hx
    have hc : ∀ i, i < cols.length → cols.getD i [] ∈ cols := fun i h => by rw [List.getD_eq_getElem?_getD, List.getElem?_eq_getElem h]; exact List.getElem_mem h
    rcases mvs_form (fstM_mem hy).1 with ⟨rfl, f1, f2⟩ | ⟨rfl, f1⟩ | ⟨rfl, f1⟩
    · rcases List.mem_cons.1 hx with rfl | hx
      · simp only [colM, if_true]; exact h10 _ (hc i f1) _
      · exact h3 f1 f2 x hx
    · rcases List.mem_cons.1 hx with rfl | hx
      · simp only [colM, if_true]; exact h10 _ (hc i f1) _
      · exact h1 f1 x hx
    · rcases List.mem_cons.1 hx with rfl | hx
      · simp only [colM, show ¬ (0 : Nat) = 1 by omega, if_false, if_true]; exact h01 k
      · exact h2 f1 x hx
  · rw [addV_end he] at hx; cases hx
theorem addV_ok {c : Costs} {l : List TS} {cols : List (List Int)} {t : List Tok} {ls : List Nat} (hl : ls.length = l.length) (h : ColsOk ls cols) : ColsOk (ls ++ [t.length]) (addV c l cols t 0 0) := by
  have hlen : ∀ x ∈ cols, x.length = l.length := fun x hx => by rw [h.len x hx, hl]
  obtain ⟨r1, r2⟩ := addV_rest (c := c) (t := t) hlen 0 0 (Nat.zero_le _) (Nat.zero_le _)
  refine ⟨?_, ?_, fun s n hs => ?_⟩
  · refine addV_all (P := fun x => x.length = (ls ++ [t.length]).length) (fun x hx z => ?_) (fun k => ?_) 0 0
    · rw [List.length_append, List.length_append, h.len x hx]; rfl
    · rw [List.length_append, List.length_append, hl]; simp [noneC]
  · refine addV_all (P := fun x => ∃ z ∈ x, z ≠ -1) (fun x hx z => ?_) (fun k => ?_) 0 0
    · obtain ⟨y, hy, hy2⟩ := h.some_ x hx
      exact ⟨y, List.mem_append_left _ hy, hy2⟩
    · exact ⟨k, List.mem_append_right _ (List.mem_singleton.2 rfl), by omega⟩
  · rcases Nat.lt_or_ge s ls.length with h1 | h1
    · rw [List.getElem?_append_left h1] at hs
      rw [r1 s (by omega), List.drop_zero, h.src s n hs]
    · rw [List.getElem?_append_right h1] at hs
      have h2 : s - ls.length = 0 := by have := (List.getElem?_eq_some_iff.1 hs).1; simp at this; omega
      rw [h2] at hs
      simp only [List.getElem?_cons_zero, Option.some.injEq] at hs
      rw [show s = l.length by omega, r2, List.drop_zero, hs]
end Go.Proofs.YtofikdpbagnjbaaGreatDoor
namespace Go.Proofs.YtofikdpbagnjbaaGreatDoor

end Go.Proofs.YtofikdpbagnjbaaGreatDoor
namespace Go.Proofs.YtofikdpbagnjbaaGreatDoor
open Go.RowKit Go.Shelf Go.Proofs
set_option maxRecDepth 100000
set_option maxHeartbeats 1000000

end Go.Proofs.YtofikdpbagnjbaaGreatDoor
namespace Go.Proofs.YtofikdpbagnjbaaGreatDoor
open Go.RowKit Go.Shelf Go.Proofs
set_option maxRecDepth 100000
set_option maxHeartbeats 1000000

theorem find_at {α : Type} {p : α → Bool} : ∀ {l : List α} {j : Nat} {v : α}, l[j]? = some v → p v = true → (∀ j' y, j' < j → l[j']? = some y → p y = false) → l.find? p = some v
  | x :: l, 0, v, h, hp, _ => by simp at h; subst h; rw [List.find?_cons_of_pos hp]
  | x :: l, j + 1, v, h, hp, hn => by
    rw [List.find?_cons_of_neg (by rw [hn 0 x (by omega) rfl]; simp)]
    exact find_at (l := l) (j := j) (by simpa using h) hp (fun j' y hj hy => hn (j' + 1) y (by omega) (by simpa using hy))
end Go.Proofs.YtofikdpbagnjbaaGreatDoor
namespace Go.Proofs.YtofikdpbagnjbaaGreatDoor
open Go.RowKit Go.Shelf Go.Proofs
set_option maxRecDepth 100000
set_option maxHeartbeats 1000000

theorem tok6 (t : Tok) : t.cells.length = 6 := rfl
theorem Two.sub {w : World} {A B : Option Addr} {n m : Nat} {a b : List Tok} (h : Two w A B n m a b) {ca cb : Nat} (hca : n ≤ ca) (hcb : m ≤ cb) (lo hi lo' hi' : Nat) (h1 : lo ≤ hi) (h2 : hi ≤ n) (h3 : lo' ≤ hi') (h4 : hi' ≤ m) :
    Two w (cutA A ca lo 6) (cutA B cb lo' 6) (hi - lo) (hi' - lo') ((a.take hi).drop lo) ((b.take hi').drop lo') :=
  ⟨h.hst, src_sub Tok.cells 6 tok6 h.ha h.hn lo hi h1 h2 hca, by rw [List.length_drop, List.length_take, h.hn]; omega, by have := h.hnb; omega, src_sub Tok.cells 6 tok6 h.hb h.hm lo' hi' h3 h4 hcb, by rw [List.length_drop, List.length_take, h.hm]; omega, by have := h.hmb; omega,
    fun t ht => h.hsa t (List.mem_of_mem_take (List.mem_of_mem_drop ht)), fun t ht => h.hsb t (List.mem_of_mem_take (List.mem_of_mem_drop ht))⟩
theorem Two.pre {w : World} {A B : Option Addr} {n m : Nat} {a b : List Tok} (h : Two w A B n m a b) (hi hi' : Nat) (h2 : hi ≤ n) (h4 : hi' ≤ m) :
    Two w A B hi hi' (a.take hi) (b.take hi') :=
  ⟨h.hst, src_take Tok.cells 6 tok6 h.ha h.hn hi h2, by rw [List.length_take, h.hn]; omega, by have := h.hnb; omega, src_take Tok.cells 6 tok6 h.hb h.hm hi' h4, by rw [List.length_take, h.hm]; omega, by have := h.hmb; omega,
    fun t ht => h.hsa t (List.mem_of_mem_take ht), fun t ht => h.hsb t (List.mem_of_mem_take ht)⟩
theorem tsOk2 {w : World} {A B : Option Addr} {ca cb : Nat} {a b : List Tok} (ha : Src w 6 A a.length (a.flatMap Tok.cells)) (hna : a.length ≤ 9223372036854775807) (hb : Src w 6 B b.length (b.flatMap Tok.cells)) (hnb : b.length ≤ 9223372036854775807) :
    TsOk w [⟨A, a.length, ca, a⟩, ⟨B, b.length, cb, b⟩] :=
  ⟨fun t ht => by simp at ht; rcases ht with rfl | rfl <;> assumption, fun t ht => by simp at ht; rcases ht with rfl | rfl <;> rfl, fun t ht => by simp at ht; rcases ht with rfl | rfl <;> assumption⟩
end Go.Proofs.YtofikdpbagnjbaaGreatDoor
namespace Go.Proofs.YtofikdpbagnjbaaGreatDoor
open Go.RowKit Go.Shelf Go.Proofs
set_option maxRecDepth 100000
set_option maxHeartbeats 1000000

end Go.Proofs.YtofikdpbagnjbaaGreatDoor
namespace Go.Proofs.YtofikdpbagnjbaaGreatDoor
open Go.RowKit Go.Shelf Go.Proofs
set_option maxRecDepth 100000
set_option maxHeartbeats 1000000

theorem rd_lit {w : World} {b n : Nat} {cs : List Value} {l : List D} (h : Src w 1 (some ⟨b, 0, none⟩) n cs) (hn : n ≤ 9223372036854775807) (hr : Rd (wr w) cs l) : Rd (wr w) [.slice (some ⟨b, 0, none⟩) n n] [.s 1 l] := h.rdD (Nat.le_refl _) hn hr
theorem rd_ints {w : World} {b n : Nat} {r : List Int} (h : Src w 1 (some ⟨b, 0, none⟩) n (r.map (Value.int .i64))) (hn : n ≤ 9223372036854775807) : Rd (wr w) [.slice (some ⟨b, 0, none⟩) n n] [intsD r] := by
  have := rd_lit h hn (Rd.vals _)
  rw [List.map_map] at this
  exact this
instance (t : Tok) : Decidable t.small := inferInstanceAs (Decidable (_ ∧ _))
end Go.Proofs.YtofikdpbagnjbaaGreatDoor
namespace Go.Proofs.YtofikdpbagnjbaaGreatDoor
open Go.RowKit Go.Shelf Go.Proofs
set_option maxRecDepth 100000
set_option maxHeartbeats 1000000

end Go.Proofs.YtofikdpbagnjbaaGreatDoor
namespace Go.Proofs.YtofikdpbagnjbaaGreatDoor
open Go.RowKit Go.Shelf Go.Proofs
set_option maxRecDepth 100000
set_option maxHeartbeats 1000000

theorem Rd.tabS {w : World} {x : Value} {m : List (List Int)} (h : Rd (wr w) [x] [rowsD m]) : ∃ A cap cs, x = .slice A m.length cap ∧ m.length ≤ cap ∧ cap ≤ 9223372036854775807 ∧ Src w 1 A m.length cs ∧ Rd (wr w) cs (m.map intsD) := by
  obtain ⟨A, n, cap, cs, rfl, h1, h2, h3, h4, h5⟩ := h.src
  rw [List.length_map, Nat.mul_one] at h1
  subst h1
  exact ⟨A, cap, cs, rfl, h2, h3, h4, h5⟩
end Go.Proofs.YtofikdpbagnjbaaGreatDoor
namespace Go.Proofs.YtofikdpbagnjbaaGreatDoor
open Go.RowKit Go.Shelf Go.Proofs
set_option maxRecDepth 100000
set_option maxHeartbeats 1000000

def arrJ (ord : List Nat) (r : List Int) : Nat → List Int
  | 0 => List.replicate r.length 0
  | j + 1 => (arrJ ord r j).set (ord.getD j 0) (r.getD j 0)
def arrR (ord : List Nat) (r : List Int) : List Int := arrJ ord r r.length
theorem arrJ_len (ord : List Nat) (r : List Int) : ∀ j, (arrJ ord r j).length = r.length
  | 0 => by simp [arrJ]
  | j + 1 => by rw [arrJ, List.length_set, arrJ_len ord r j]
end Go.Proofs.YtofikdpbagnjbaaGreatDoor
namespace Go.Proofs.YtofikdpbagnjbaaGreatDoor
open Go.RowKit Go.Shelf Go.Proofs
set_option maxRecDepth 100000
set_option maxHeartbeats 1000000

theorem equalI_spec (x y : Value) (p q : List Int) (w : World) (hx : Rd (wr w) [x] [intsD p]) (hy : Rd (wr w) [y] [intsD q]) :
    Spec Tryz.prog 27 [x, y] w (fun v R => v = .bool (decide (p = q)) ∧ R = []) := by
  obtain ⟨A, ca, rfl, hnb, hl⟩ := hx.ints
  obtain ⟨B, cb, rfl, hmb, hb⟩ := hy.ints
  refine spec_of sg Tryz.func27 rfl rfl rfl ?_
  repeat' (first | refine d1 ?_ | refine dd ?_ | (show ∀ _ : Nat, T _ _ _ _ _; intro _))
  refine T_if rfl (fun h => ?_) (fun h => ?_)
  · simp only [Bool.not_eq_true', decide_eq_false_iff_not] at h
    repeat' (first | refine d1 ?_ | refine dd ?_ | (show ∀ _ : Nat, T _ _ _ _ _; intro _) | (show T _ (.code .ret :: _) _ _ _; refine T_retV [] rfl (Hle.none _) ⟨?_, rfl⟩))
    rw [decide_eq_false (fun e => h (by rw [e]))]; rfl
  simp only [Bool.not_eq_false', decide_eq_true_eq] at h
  repeat' (first | refine d1 ?_ | refine dd ?_ | (show ∀ _ : Nat, T _ _ _ _ _; intro _))
  refine T_loopX (fun k : Nat => [(13, .int .i64 k)]) (fun _ => []) (fun k => k ≤ p.length ∧ ∀ j, j < k → p[j]? = q[j]?) (fun k => p.length - k) 0 ⟨by omega, fun j h => by omega⟩ ?_
  rintro k ⟨hk, hok⟩
  repeat' (first | refine d1 ?_ | refine dd ?_ | (show ∀ _ : Nat, T _ _ _ _ _; intro _))
  refine T_if rfl (fun h3 => ?_) (fun h3 => ?_)
  · simp only [decide_eq_true_eq] at h3
    have hkn : k < p.length := by omega
    have hkq : k < q.length := by omega
    obtain ⟨ba, oa, rfl⟩ := hl.base (by omega)
    obtain ⟨bb, ob, rfl⟩ := hb.base (by omega)
    obtain ⟨u, hu⟩ : ∃ u, p[k]? = some u := ⟨_, List.getElem?_eq_getElem hkn⟩
    obtain ⟨v, hv⟩ : ∃ v, q[k]? = some v := ⟨_, List.getElem?_eq_getElem hkq⟩
    have hr1 : RdC w ba (oa + (k : Int).toNat * 1) [.int .i64 u] := (hl.get1 (by omega) (by rw [Int.toNat_natCast, List.getElem?_map, hu]; rfl)).2
    have hr2 : RdC w bb (ob + (k : Int).toNat * 1) [.int .i64 v] := (hb.get1 (by omega) (by rw [Int.toNat_natCast, List.getElem?_map, hv]; rfl)).2
    repeat' (first | refine d1 ?_ | refine dd ?_ | (show ∀ _ : Nat, T _ _ _ _ _; intro _))
    refine T_if rfl (fun h4 => ?_) (fun h4 => ?_)
    · simp only [Bool.not_eq_true', decide_eq_false_iff_not] at h4
      repeat' (first | refine d1 ?_ | refine dd ?_ | (show ∀ _ : Nat, T _ _ _ _ _; intro _) | (show T _ (.code .ret :: _) _ _ _; refine T_retV [] rfl (Hle.none _) ⟨?_, rfl⟩))
      rw [decide_eq_false (fun e => h4 (by rw [e, hv] at hu; exact (Option.some.inj hu).symm))]; rfl
    · simp only [Bool.not_eq_false', decide_eq_true_eq] at h4
      repeat' (first | refine d1 ?_ | refine dd ?_ | (show ∀ _ : Nat, T _ _ _ _ _; intro _))
      refine T_backX (k + 1) ⟨by omega, fun j hj => ?_⟩ (by omega)
      rcases Nat.lt_or_ge j k with h5 | h5
      · exact hok j h5
      · rw [show j = k by omega, hu, hv, h4]
  · simp only [decide_eq_false_iff_not] at h3
    repeat' (first | refine d1 ?_ | refine dd ?_ | (show ∀ _ : Nat, T _ _ _ _ _; intro _) | (show T _ (.code .ret :: _) _ _ _; refine T_retV [] rfl (Hle.none _) ⟨?_, rfl⟩))
    rw [decide_eq_true (list_eq_of (by omega) fun j hj => hok j (by omega))]; rfl
end Go.Proofs.YtofikdpbagnjbaaGreatDoor
namespace Go.Proofs.YtofikdpbagnjbaaGreatDoor
open Go.RowKit Go.Shelf Go.Proofs
set_option maxRecDepth 100000
set_option maxHeartbeats 1000000

end Go.Proofs.YtofikdpbagnjbaaGreatDoor
namespace Go.Proofs.YtofikdpbagnjbaaGreatDoor
open Go.RowKit Go.Shelf Go.Proofs
set_option maxRecDepth 100000
set_option maxHeartbeats 1000000

def addL (c : Costs) (L K T B : Value) : List Value := c.cells ++ [L, K, T, B]
theorem noTok_small : noTok.small := by decide +kernel
end Go.Proofs.YtofikdpbagnjbaaGreatDoor
namespace Go.Proofs.YtofikdpbagnjbaaGreatDoor
open Go.RowKit Go.Shelf Go.Proofs
set_option maxRecDepth 100000
set_option maxHeartbeats 1000000

def tsA (l : List TS) (i : Nat) : TS := l.getD i ⟨none, 0, 0, []⟩
theorem tsA_eq {l : List TS} {i : Nat} {t : TS} (h : l[i]? = some t) : tsA l i = t := by unfold tsA; rw [List.getD_eq_getElem?_getD, h]; rfl
theorem tsA_len {l : List TS} (h : ∀ t ∈ l, t.l.length ≤ 1000) (i : Nat) : (tsA l i).l.length ≤ 1000 := by
  unfold tsA
  rw [List.getD_eq_getElem?_getD]
  cases hi : l[i]? with
  | none => exact Nat.zero_le _
  | some t => exact h t (List.mem_of_getElem? hi)
def dstT (c : Costs) (l : List TS) (i k : Nat) : Int := if i < k then rst (grdOf c (tsA l i).l (tsA l k).l) 0 0 else if k < i then rst (grdOf c (tsA l k).l (tsA l i).l) 0 0 else 0
theorem dstT_bd {c : Costs} (hc : costE c = 0) {l : List TS} (h : ∀ t ∈ l, t.l.length ≤ 1000) (i k : Nat) : 0 ≤ dstT c l i k ∧ dstT c l i k ≤ 2000000 := by
  unfold dstT
  (repeat' split)
  · exact rst_bd2 (grdOf_ok hc _ _) rfl rfl (tsA_len h _) (tsA_len h _) 0 0
  · exact rst_bd2 (grdOf_ok hc _ _) rfl rfl (tsA_len h _) (tsA_len h _) 0 0
  · omega
theorem Grp.len {w : World} {A : Option Addr} {n : Nat} {l : List TS} (hg : Grp w A n l) : ∀ t ∈ l, t.l.length ≤ 1000 := fun t ht => by
  have := hg.ok.len t ht
  have := hg.nb t ht
  omega
theorem Grp.two {w : World} {A : Option Addr} {n : Nat} {l : List TS} (hg : Grp w A n l) {s t : TS} (hs : s ∈ l) (ht : t ∈ l) : Two w s.A t.A s.n t.n s.l t.l :=
  ⟨hg.hst, hg.ok.src s hs, hg.ok.len s hs, hg.nb s hs, hg.ok.src t ht, hg.ok.len t ht, hg.nb t ht, hg.sm s hs, hg.sm t ht⟩
theorem dst_V {c : Costs} {l : List TS} (hc : costE c = 0) (hbs : badS l = false) {i k : Nat} {s t : TS} (hs : l[i]? = some s) (ht : l[k]? = some t) (h : i < k) : distV c s.l t.l = (dstT c l i k, 0) := by
  have e : ckV c s.l t.l = 0 := by
    unfold ckV
    rw [if_neg]
    have h1 := badL_false.2 (badS_ok hbs s (List.mem_of_getElem? hs))
    have h2 := badL_false.2 (badS_ok hbs t (List.mem_of_getElem? ht))
    rw [h1, h2]
    simp [hc]
  unfold distV dstT
  rw [if_pos e, if_pos h, tsA_eq hs, tsA_eq ht]
def natV (x : Nat) : Value := .int .i64 (x : Nat)
def intN (l : List Nat) : List Int := l.map fun (x : Nat) => (x : Int)
theorem intN_val (l : List Nat) : (intN l).map (Value.int .i64) = l.map natV := by unfold intN natV; rw [List.map_map]; rfl
theorem intN_D (l : List Nat) : intsD (intN l) = .s 1 ((l.map natV).map .v) := by
  unfold intsD; rw [← intN_val, List.map_map]; rfl
def OutOk (D : Nat → Nat → Int) (n : Nat) (out : List Nat) : Prop := (n < 2 ∧ out = orderV D n) ∨ (2 ≤ n ∧ ∃ j, out = ordJ D n j)
theorem OutOk.start (D : Nat → Nat → Int) (n : Nat) : OutOk D n ([(selI D n n).1, (selI D n n).2].take (min n 2)) := by
  rcases Nat.lt_or_ge n 2 with h | h
  · refine .inl ⟨h, ?_⟩
    rcases (show n = 0 ∨ n = 1 by omega) with rfl | rfl
    · rfl
    · have e : selI D 1 1 = (0, 1) := selK_low D 0 (0, 1) 1 (by omega)
      rw [e]; rfl
  · refine .inr ⟨h, 0, ?_⟩
    rw [Nat.min_eq_right h]; rfl
theorem OutOk.all {D : Nat → Nat → Int} {n : Nat} {out : List Nat} (h : OutOk D n out) (hl : out.length = n) : out = orderV D n := by
  rcases h with h | ⟨h, j, rfl⟩
  · exact h.2
  · rw [ordJ_len] at hl
    unfold orderV
    rw [if_neg (by omega), if_neg (by omega), show n - 2 = j by omega]
end Go.Proofs.YtofikdpbagnjbaaGreatDoor
namespace Go.Proofs.YtofikdpbagnjbaaGreatDoor
open Go.RowKit Go.Shelf Go.Proofs
set_option maxRecDepth 100000
set_option maxHeartbeats 1000000

def ordV (c : Costs) (l : List TS) : List Nat × Int := if ck21 c l = 0 then (orderV (dstT c l) l.length, 0) else ([], 1)
theorem ck21_ok {c : Costs} {l : List TS} (h : ck21 c l = 0) : costE c = 0 ∧ badS l = false := by
  unfold ck21 at h
  by_cases hh : costE c = 0 ∧ badS l = false
  · exact hh
  · rw [if_neg hh] at h; omega
end Go.Proofs.YtofikdpbagnjbaaGreatDoor
namespace Go.Proofs.YtofikdpbagnjbaaGreatDoor
open Go.RowKit Go.Shelf Go.Proofs
set_option maxRecDepth 100000
set_option maxHeartbeats 1000000

theorem mulOne_spec (n : Nat) (hn : n ≤ 1000000) (w : World) : Spec Tryz.prog 93 [.int .u64 1, .int .u64 (n : Nat)] w (fun v R => v = .tuple #[.int .u64 0, .int .u64 (n : Nat)] ∧ R = []) := by
  have h := Calls.spec (enters_of rfl rfl rfl) (Tryz.bits_Mul 1 n (by omega) (by omega) w)
  have e1 : 1 * n / 18446744073709551616 = 0 := by omega
  have e2 : 1 * n % 18446744073709551616 = n := by omega
  rw [e1, e2] at h
  exact h
theorem oneInts : ∀ xs : List Int, oneCells (xs.map (Value.int .i64)) = true
  | [] => rfl
  | x :: xs => oneInts xs
def repL (n m : Nat) (z : Int) : List Value := List.replicate m (.int .i64 z) ++ List.replicate (n - m) (.int .i64 0)
theorem repL_len {n m : Nat} (z : Int) (h : m ≤ n) : (repL n m z).length = n := by simp [repL]; omega
theorem repL_all (n : Nat) (z : Int) : repL n n z = List.replicate n (.int .i64 z) := by simp [repL]
theorem oneRep (k : Nat) (z : Int) : oneCells (List.replicate k (Value.int .i64 z)) = true := by
  have e : List.replicate k (Value.int .i64 z) = (List.replicate k z).map (Value.int .i64) := by rw [List.map_replicate]
  rw [e]; exact oneInts _
theorem repL_set {n m k : Nat} (z : Int) (h : m + k ≤ n) : setL (repL n m z) m (List.replicate k (.int .i64 z)) = repL n (m + k) z := by
  rw [setL_eq _ _ _ (by rw [List.length_replicate, repL_len z (by omega)]; exact h)]
  unfold repL
  rw [List.take_append_of_le_length (by simp), List.take_of_length_le (by simp), List.length_replicate, List.drop_append, List.drop_eq_nil_of_le (by simp), List.nil_append, List.length_replicate, List.drop_replicate, ← List.append_assoc, List.replicate_append_replicate, show n - m - (m + k - m) = n - (m + k) by omega]
theorem repL_pre {n m k : Nat} (z : Int) (h : k ≤ m) : ∀ j u, (List.replicate k (Value.int .i64 z))[j]? = some u → (repL n m z)[0 + j]? = some u := by
  intro j u hu
  have hj : j < k := by have := (List.getElem?_eq_some_iff.1 hu).1; simpa using this
  rw [List.getElem?_replicate, if_pos hj] at hu
  unfold repL
  rw [Nat.zero_add, List.getElem?_append_left (by simp; omega), List.getElem?_replicate, if_pos (by omega)]
  exact hu
theorem repeatI_spec (z : Int) (A : Option Addr) (ca n : Nat) (w : World) (hs : Src w 1 A 1 [.int .i64 z]) (hn : n ≤ 1000) :
    Spec Tryz.prog 44 [.slice A 1 ca, .int .i64 (n : Nat)] w (fun v R => ∃ b : Nat, True ∧ v = .slice (some ⟨b, 0, none⟩) n n ∧ R = [row 3 1 (some ⟨b, 0, none⟩) n n (List.replicate n (.int .i64 z))]) := by
  refine spec_of sg Tryz.func44 rfl rfl rfl ?_
  repeat' (first | refine d1 ?_ | refine dd ?_ | (show ∀ _ : Nat, T _ _ _ _ _; intro _))
  refine T_if rfl (fun h => by exfalso; simp at h; omega) (fun h => ?_)
  repeat' (first | refine d1 ?_ | refine dd ?_ | (show T _ (.ops _ (_ :: _) :: _) _ _ _; first | refine T_call rfl rfl rfl rfl rfl (fun w hw => mulOne_spec n (by omega) w) ?_ | refine T_callC rfl rfl rfl rfl rfl rfl rfl (fun hg w hw => mulOne_spec n (by omega) w) ?_) | (show T _ (.run _ _ (_ :: _) _ _ :: _) _ _ _; first | refine rc rfl rfl rfl rfl rfl rfl rfl (fun w hw => mulOne_spec n (by omega) w) ?_ | refine rcG rfl rfl rfl rfl rfl rfl rfl rfl rfl (fun hg w hw => mulOne_spec n (by omega) w) ?_) | (show ∀ _ : Nat, T _ _ _ _ _; intro _))
  refine T_if rfl (fun h => ?_) (fun h => ?_)
  · exfalso
    simp at h
    omega
  repeat' (first | refine d1 ?_ | refine dd ?_ | (show T _ (.ops _ (_ :: _) :: _) _ _ _; refine T_op (OpT.make rfl rfl rfl rfl rfl rfl rfl rfl rfl (by dsimp only; omega) (fun b => ?_))) | (show ∀ _ : Nat, T _ _ _ _ _; intro _))
  refine T_le (H' := [row 3 1 (some ⟨b, 0, none⟩) n n (repL n 0 z)]) (Hle.weaken (i := 0) rfl (blk_row (sz := 1) (n := n) (by simp) (by simp only [maxLen]; omega)) rfl) ?_
  have hs1 : ∀ w', Cls w w' [row 3 1 (some ⟨b, 0, none⟩) n n (repL n 0 z)] → Src w' 1 A (min 1 n) (List.replicate (min 1 n) (Value.int .i64 z)) := fun w' hw' => by
    rcases Nat.eq_zero_or_pos n with h9 | h9
    · rw [h9]; exact ⟨rfl, fun h => absurd h (by simp)⟩
    · rw [Nat.min_eq_left h9]; exact src_below hs hw'.below
  repeat' (first | refine d1 ?_ | refine dd ?_ | (show T _ (.ops _ (_ :: _) :: _) _ _ _; refine T_op (OpT.copyR (g := b) (k := min 1 n) (us := List.replicate (min 1 n) (.int .i64 z)) rfl rfl rfl rfl rfl rfl rfl rfl rfl hs1 (oneRep _ _) (by rw [List.length_replicate]; omega) ?_)) | (show ∀ _ : Nat, T _ _ _ _ _; intro _))
  rw [repL_set z (by omega), Nat.zero_add]
  refine T_loopX (fun m : Nat => [(8, .int .i64 m)]) (fun m => [row 3 1 (some ⟨b, 0, none⟩) n n (repL n m z)]) (fun m => m ≤ n ∧ (0 < n → 0 < m)) (fun m => n - m) (min 1 n) ⟨by omega, fun h => by omega⟩ ?_
  rintro m ⟨hm, hm0⟩
  repeat' (first | refine d1 ?_ | refine dd ?_ | (show ∀ _ : Nat, T _ _ _ _ _; intro _))
  refine T_if rfl (fun h1 => ?_) (fun h1 => ?_)
  · simp only [decide_eq_true_eq] at h1
    have hmn : m < n := by omega
    have hmp := hm0 (by omega)
    refine rsH [] 1000 [0, 1, 2, 3, 4, 5, 6, 7, 8, 9] ?_
    repeat' (first | refine d1 ?_ | refine dd ?_ | (show T _ (.run _ _ (_ :: _) _ _ :: _) _ _ _; refine ro rfl rfl (OpT.copyR (g := b) (k := min m (n - m)) (us := List.replicate (min m (n - m)) (.int .i64 z)) rfl rfl rfl rfl rfl rfl rfl (cutA_at (by omega)) rfl (fun w hw => ⟨by simp, fun h9 => ⟨rfl, rdRow (A := some ⟨b, 0, none⟩) (by omega) (repL_pre z (by omega)) w hw⟩⟩) (oneRep _ _) (by rw [List.length_replicate]; omega) ⟨fun _ => Hle.none _, ?_⟩)) | (show ∀ _ : Nat, T _ _ _ _ _; intro _))
    rw [show (m : Int).toNat * 1 = m by omega, repL_set (n := n) (m := m) (k := min m (n - m)) z (by omega)]
    exact T_backX (m + min m (n - m)) ⟨by omega, fun _ => by omega⟩ (by omega)
  · simp only [decide_eq_false_iff_not] at h1
    obtain rfl : m = n := by omega
    rw [repL_all]
    repeat' (first | refine d1 ?_ | refine dd ?_ | (show ∀ _ : Nat, T _ _ _ _ _; intro _) | (show T _ (.code .ret :: _) _ _ _; refine T_retV _ rfl (Hle.refl _) ⟨b, trivial, rfl, rfl⟩))
end Go.Proofs.YtofikdpbagnjbaaGreatDoor
namespace Go.Proofs.YtofikdpbagnjbaaGreatDoor
open Go.RowKit Go.Shelf Go.Proofs
set_option maxRecDepth 100000
set_option maxHeartbeats 1000000

structure AddW (w : World) (c : Costs) (A : Option Addr) (n : Nat) (l : List TS) (K : Value) (cols : List (List Int)) (At : Option Addr) (m : Nat) (t : List Tok) : Prop where
  hg : Grp w A n l
  hc : costE c = 0
  hbs : badS l = false
  hx : Rd (wr w) [K] [rowsD cols]
  hok : ∀ col ∈ cols, ColOk l col
  hts : Src w 6 At m (t.flatMap Tok.cells)
  htl : t.length = m
  hm : m ≤ 1000
  hte : ∀ x ∈ t, tokE x = 0
  hsm : ∀ x ∈ t, x.small
  hsz : cols.length ≤ 100000
end Go.Proofs.YtofikdpbagnjbaaGreatDoor
namespace Go.Proofs.YtofikdpbagnjbaaGreatDoor
open Go.RowKit Go.Shelf Go.Proofs
set_option maxRecDepth 100000
set_option maxHeartbeats 1000000

theorem AddW.ok {w : World} {c : Costs} {A : Option Addr} {n : Nat} {l : List TS} {K : Value} {cols : List (List Int)} {At : Option Addr} {m : Nat} {t : List Tok} (h : AddW w c A n l K cols At m t) : GOk (grdA c l cols t) 32000 := by
  have := grdA_ok h.hc l cols t
  have h1 := h.hg.hn
  have h2 := h.hg.hb
  exact ⟨fun i k => by have := this.p i k; omega, fun i => by have := this.g i; omega, fun k => by have := this.h k; omega⟩
theorem AddW.rst {w : World} {c : Costs} {A : Option Addr} {n : Nat} {l : List TS} {K : Value} {cols : List (List Int)} {At : Option Addr} {m : Nat} {t : List Tok} (h : AddW w c A n l K cols At m t) (i k : Nat) : 0 ≤ rst (grdA c l cols t) i k ∧ rst (grdA c l cols t) i k ≤ 10000000000 := by
  have h1 := rst_bd h.ok i k
  have e1 : (grdA c l cols t).n = cols.length := rfl
  have e2 : (grdA c l cols t).m = m := h.htl
  have h2 := h.hsz
  have h3 := h.hm
  rw [e1, e2] at h1
  omega
@[reducible] def fillH (c : Costs) (L K T' : Value) (pb pa g cap N m : Nat) (M : List (Nat × List Value)) (Kr : List HA) : List HA :=
  blks 3 M :: row 27 1 (some ⟨g, 0, none⟩) cap (N + 1) (M.map (slv m)) :: blk pb [.pointer (some ⟨pa, 0, none⟩)] 147 :: blk pa (addL c L K T' (.slice (some ⟨g, 0, none⟩) (N + 1) cap)) 149 :: Kr
end Go.Proofs.YtofikdpbagnjbaaGreatDoor
namespace Go.Proofs.YtofikdpbagnjbaaGreatDoor
open Go.RowKit Go.Shelf Go.Proofs
set_option maxRecDepth 100000
set_option maxHeartbeats 1000000

theorem Hle.drop3 (A B C : HA) (K : List HA) : Hle (A :: B :: C :: K) (A :: B :: K) := by
  refine Hle.pick (fun i => if i < 2 then i else i + 1) (fun i X h => ?_) (fun i j _ _ h => by show (if i < 2 then i else i + 1) ≠ (if j < 2 then j else j + 1); split <;> split <;> omega)
  rcases i with _ | _ | i
  · simpa using h
  · simpa using h
  · rw [if_neg (by omega)]; simpa using h
end Go.Proofs.YtofikdpbagnjbaaGreatDoor
namespace Go.Proofs.YtofikdpbagnjbaaGreatDoor
open Go.RowKit Go.Shelf Go.Proofs
set_option maxRecDepth 100000
set_option maxHeartbeats 1000000

theorem rd_one {R : Rdr} {vs : List Value} {ds : List D} (h : Rd R vs ds) {i : Nat} {x : Value} {d : D} (hx : vs[i]? = some x) (hd : ds[i]? = some d) : Rd R [x] [d] := by
  obtain ⟨y, hy, hr⟩ := h.get hd
  rw [hx] at hy
  cases hy
  exact hr
end Go.Proofs.YtofikdpbagnjbaaGreatDoor
namespace Go.Proofs.YtofikdpbagnjbaaGreatDoor
open Go.RowKit Go.Shelf Go.Proofs
set_option maxRecDepth 100000
set_option maxHeartbeats 1000000

end Go.Proofs.YtofikdpbagnjbaaGreatDoor
namespace Go.Proofs.YtofikdpbagnjbaaGreatDoor
open Go.RowKit Go.Shelf Go.Proofs
set_option maxRecDepth 100000
set_option maxHeartbeats 1000000

def lens (l : List TS) : List Nat := l.map fun t => t.n
theorem lens_get {l : List TS} {s : Nat} {t : TS} (h : l[s]? = some t) : (lens l)[s]? = some t.n := by unfold lens; rw [List.getElem?_map, h]; rfl
theorem lens_len (l : List TS) : (lens l).length = l.length := by simp [lens]
def atC (cols : List (List Int)) (i k s : Nat) : Nat := (srcC (cols.take (if s < k then i + 1 else i)) s).length
def PreOk (ls : List Nat) (cols : List (List Int)) (i k : Nat) : Prop := ∀ s n, ls[s]? = some n → srcC (cols.take (if s < k then i + 1 else i)) s = upto (atC cols i k s) ∧ atC cols i k s ≤ n
theorem PreOk.start (ls : List Nat) (cols : List (List Int)) : PreOk ls cols 0 0 := fun s n _ => by
  unfold atC
  rw [if_neg (by omega)]
  exact ⟨rfl, Nat.zero_le _⟩
theorem atC_zero (cols : List (List Int)) (s : Nat) : atC cols 0 0 s = 0 := by unfold atC; rw [if_neg (by omega)]; rfl
theorem atC_row {cols : List (List Int)} {i n s : Nat} (h : s < n) : atC cols i n s = atC cols (i + 1) 0 s := by unfold atC; rw [if_pos h, if_neg (by omega)]
theorem PreOk.row {ls : List Nat} {cols : List (List Int)} {i : Nat} (h : PreOk ls cols i ls.length) : PreOk ls cols (i + 1) 0 := fun s n hs => by
  have hl := (List.getElem?_eq_some_iff.1 hs).1
  have := h s n hs
  rw [atC_row hl, if_pos hl] at this
  rw [if_neg (by omega)]
  exact this
theorem srcC_take {cols : List (List Int)} {i : Nat} {r : List Int} (h : cols[i]? = some r) (s : Nat) : srcC (cols.take (i + 1)) s = srcC (cols.take i) s ++ (if r.getD s (-1) = -1 then [] else [r.getD s (-1)]) := by
  rw [take_snoc _ _ _ h, srcC_app, srcC_cons]
  simp [srcC]
theorem atC_other {cols : List (List Int)} {i k s : Nat} (h : s ≠ k) : atC cols i (k + 1) s = atC cols i k s := by
  unfold atC
  by_cases h1 : s < k
  · rw [if_pos h1, if_pos (by omega)]
  · rw [if_neg h1, if_neg (by omega)]
theorem atC_gap {cols : List (List Int)} {i k : Nat} {r : List Int} (hr : cols[i]? = some r) (hz : r[k]? = some (-1)) : atC cols i (k + 1) k = atC cols i k k := by
  unfold atC
  rw [if_pos (by omega), if_neg (by omega), srcC_take hr, List.getD_eq_getElem?_getD, hz]
  simp
theorem atC_tok {cols : List (List Int)} {i k : Nat} {r : List Int} {z : Int} (hr : cols[i]? = some r) (hz : r[k]? = some z) (h : z ≠ -1) : atC cols i (k + 1) k = atC cols i k k + 1 := by
  unfold atC
  rw [if_pos (by omega), if_neg (by omega), srcC_take hr, List.getD_eq_getElem?_getD, hz]
  simp [h]
theorem PreOk.gap {ls : List Nat} {cols : List (List Int)} {i k : Nat} {r : List Int} (h : PreOk ls cols i k) (hr : cols[i]? = some r) (hz : r[k]? = some (-1)) : PreOk ls cols i (k + 1) := fun s n hs => by
  have := h s n hs
  by_cases e : s = k
  · subst e
    rw [atC_gap hr hz]
    rw [if_neg (by omega)] at this
    rw [if_pos (by omega), srcC_take hr, List.getD_eq_getElem?_getD, hz]
    simpa using this
  · rw [atC_other e]
    by_cases h1 : s < k
    · rw [if_pos h1] at this; rw [if_pos (by omega)]; exact this
    · rw [if_neg h1] at this; rw [if_neg (by omega)]; exact this
theorem PreOk.tok {ls : List Nat} {cols : List (List Int)} {i k : Nat} {r : List Int} {z : Int} (h : PreOk ls cols i k) (hr : cols[i]? = some r) (hz : r[k]? = some z) (hz0 : z ≠ -1) (he : z = (atC cols i k k : Nat)) (hlt : ∀ n, ls[k]? = some n → atC cols i k k < n) : PreOk ls cols i (k + 1) := fun s n hs => by
  have := h s n hs
  by_cases e : s = k
  · subst e
    have hl := hlt n hs
    rw [atC_tok hr hz hz0]
    rw [if_neg (by omega)] at this
    rw [if_pos (by omega), srcC_take hr, List.getD_eq_getElem?_getD, hz, this.1]
    refine ⟨?_, hl⟩
    simp only [Option.getD_some]
    rw [if_neg hz0, upto_succ, he]
  · rw [atC_other e]
    by_cases h1 : s < k
    · rw [if_pos h1] at this; rw [if_pos (by omega)]; exact this
    · rw [if_neg h1] at this; rw [if_neg (by omega)]; exact this
theorem PreOk.bad {ls : List Nat} {cols : List (List Int)} {i k n : Nat} {r : List Int} {z : Int} (h : PreOk ls cols i k) (hr : cols[i]? = some r) (hz : r[k]? = some z) (hz0 : z ≠ -1) (hk : ls[k]? = some n) (hc : ColsOk ls cols) : z = (atC cols i k k : Nat) ∧ atC cols i k k < n := by
  have h1 := (h k n hk).1
  rw [if_neg (by omega)] at h1
  have h2 := hc.src k n hk
  have h3 : srcC cols k = srcC (cols.take i) k ++ ([z] ++ srcC (cols.drop (i + 1)) k) := by
    have e : cols = cols.take (i + 1) ++ cols.drop (i + 1) := (List.take_append_drop _ _).symm
    rw [← List.append_assoc]
    conv => lhs; rw [e, srcC_app, srcC_take hr, List.getD_eq_getElem?_getD, hz]
    simp [hz0]
  rw [h2, h1] at h3
  have h4 : (upto n)[atC cols i k k]? = some z := by
    rw [h3, List.getElem?_append_right (by rw [upto_len]; exact Nat.le_refl _), upto_len, Nat.sub_self]
    rfl
  have h5 : atC cols i k k < n := by
    have := (List.getElem?_eq_some_iff.1 h4).1
    rwa [upto_len] at this
  rw [upto_get h5] at h4
  exact ⟨(Option.some.inj h4).symm, h5⟩
theorem PreOk.all {ls : List Nat} {cols : List (List Int)} (h : PreOk ls cols cols.length 0) (hlen : ∀ x ∈ cols, x.length = ls.length) (hsome : ∀ x ∈ cols, ∃ z ∈ x, z ≠ -1) (hn : ∀ s n, ls[s]? = some n → atC cols cols.length 0 s = n) : ColsOk ls cols := by
  refine ⟨hlen, hsome, fun s n hs => ?_⟩
  have := (h s n hs).1
  rw [if_neg (by omega), List.take_of_length_le (Nat.le_refl _), hn s n hs] at this
  exact this
open Classical in
noncomputable def chkC (l : List TS) (cols : List (List Int)) : Int := if l.length = 0 then 5 else if ColsOk (lens l) cols then 0 else 19
theorem chkC_ok {l : List TS} {cols : List (List Int)} (h0 : l.length ≠ 0) (h : ColsOk (lens l) cols) : chkC l cols = 0 := by unfold chkC; rw [if_neg h0, if_pos h]
theorem chkC_bad {l : List TS} {cols : List (List Int)} (h0 : l.length ≠ 0) (h : ¬ ColsOk (lens l) cols) : chkC l cols = 19 := by unfold chkC; rw [if_neg h0, if_neg h]
theorem chkC_zero {l : List TS} {cols : List (List Int)} (h0 : l.length = 0) : chkC l cols = 5 := if_pos h0
theorem rowSrc {w : World} {Au : Option Addr} {r : List Int} (h : 0 < r.length → ∃ b o, Au = some ⟨b, o, none⟩ ∧ ∀ (k : Nat) z, r[k]? = some z → wr w b (o + k) = some (.int .i64 z)) : Src w 1 Au r.length (r.map (Value.int .i64)) := ⟨by rw [List.length_map, Nat.mul_one], fun h9 => by
  obtain ⟨bu, ou, rfl, hbu⟩ := h h9
  refine ⟨rfl, fun j u hu => ?_⟩
  rw [List.getElem?_map] at hu
  cases hz : r[j]? with
  | none => rw [hz] at hu; cases hu
  | some z => rw [hz] at hu; cases hu; exact hbu j z hz⟩
theorem rowHd {w : World} {b o n i : Nat} {Au : Option Addr} {m cap : Nat} {cs : List Value} (hcs : Src w 1 (some ⟨b, o, none⟩) n cs) (hi : i < n) (hu : cs[i]? = some (.slice Au m cap)) : RdC w b (o + (i : Int).toNat * 1) [.slice Au m cap] := by
  have h9 := (hcs.get1 (i := i) hi hu).2
  rw [Nat.mul_one] at h9
  rw [off1]
  exact h9
end Go.Proofs.YtofikdpbagnjbaaGreatDoor
namespace Go.Proofs.YtofikdpbagnjbaaGreatDoor
open Go.RowKit Go.Shelf Go.Proofs
set_option maxRecDepth 100000
set_option maxHeartbeats 4000000

theorem out_hle {A2 X : Option Addr} {c2 nn Y o : Nat} {cs HS hs : List Value} {cl : List Int} {out : List (List Int)} {J : List HA} (hcs : cs = cl.map (Value.int .i64)) :
    Hle (row 3 1 A2 c2 nn cs :: dat hs (out.map intsD) :: row 27 1 X Y o HS :: J) (row 27 1 X Y o HS :: dat (hs ++ [.slice A2 nn c2]) ((out ++ [cl]).map intsD) :: J) := by
  subst hcs
  refine dat_rowV.trans (dat_join.trans ?_)
  have ej : out.map intsD ++ [D.s 1 ((cl.map (Value.int .i64)).map .v)] = (out ++ [cl]).map intsD := by
    rw [List.map_append, List.map_map]; rfl
  rw [ej]
  exact Hle.perm (List.Perm.swap _ _ _)
theorem fst_01 {G : Grd} {i k : Nat} (he : i < G.n ∨ k < G.m) (h1 : ¬ ((i < G.n ∧ k < G.m) ∧ G.p i k + rst G (i + 1) (k + 1) = rst G i k)) (h2 : ¬ (i < G.n ∧ G.g i + rst G (i + 1) k = rst G i k)) : fstM G i k = some ⟨0, 1, G.h k⟩ ∧ k < G.m := by
  obtain ⟨x, hx⟩ := fstM_ex he
  obtain ⟨hm, hv⟩ := fstM_mem hx
  unfold via at hv
  rcases mvs_form hm with ⟨rfl, f1, f2⟩ | ⟨rfl, f1⟩ | ⟨rfl, f1⟩
  · exact absurd ⟨⟨f1, f2⟩, hv⟩ h1
  · exact absurd ⟨f1, hv⟩ h2
  · exact ⟨hx, f1⟩
end Go.Proofs.YtofikdpbagnjbaaGreatDoor
namespace Go.Proofs.YtofikdpbagnjbaaGreatDoor
open Go.RowKit Go.Shelf Go.Proofs

def takS (l : List TS) (ord : List Nat) (j : Nat) : List TS := (ord.take j).map (tsA l)
def stgV (c : Costs) (l : List TS) (ord : List Nat) : Nat → List (List Int)
  | 0 => []
  | j + 1 => addV c (takS l ord j) (stgV c l ord j) (tsA l (ord.getD j 0)).l 0 0
theorem ord_get {ord : List Nat} {j : Nat} (h : j < ord.length) : ord[j]? = some (ord.getD j 0) := by
  rw [List.getD_eq_getElem?_getD, List.getElem?_eq_getElem h]; rfl
theorem takS_succ {l : List TS} {ord : List Nat} {j : Nat} (h : j < ord.length) : takS l ord (j + 1) = takS l ord j ++ [tsA l (ord.getD j 0)] := by
  unfold takS; rw [take_snoc _ _ _ (ord_get h), List.map_append]; rfl
theorem takS_len {l : List TS} {ord : List Nat} {j : Nat} (h : j ≤ ord.length) : (takS l ord j).length = j := by
  unfold takS; rw [List.length_map, List.length_take]; omega
theorem tsA_mem {l : List TS} {i : Nat} (h : i < l.length) : tsA l i ∈ l := by
  have e : l[i]? = some l[i] := List.getElem?_eq_getElem h
  rw [tsA_eq e]; exact List.getElem_mem h
theorem takS_mem {l : List TS} {ord : List Nat} (hlt : ∀ k ∈ ord, k < l.length) {j : Nat} : ∀ t ∈ takS l ord j, t ∈ l := fun t ht => by
  unfold takS at ht
  obtain ⟨k, hk, rfl⟩ := List.mem_map.1 ht
  exact tsA_mem (hlt k (List.mem_of_mem_take hk))
theorem ord_lt {l : List TS} {ord : List Nat} (hlt : ∀ k ∈ ord, k < l.length) {j : Nat} (h : j < ord.length) : ord.getD j 0 < l.length := hlt _ (List.mem_of_getElem? (ord_get h))
theorem lens_app (a b : List TS) : lens (a ++ b) = lens a ++ lens b := by unfold lens; rw [List.map_append]
theorem stgV_ok {c : Costs} {l : List TS} {ord : List Nat} (hlt : ∀ k ∈ ord, k < l.length) (hln : ∀ t ∈ l, t.l.length = t.n) : ∀ j, j ≤ ord.length → ColsOk (lens (takS l ord j)) (stgV c l ord j)
  | 0, _ => ColsOk.nil
  | j + 1, h => by
    have ih := stgV_ok (c := c) hlt hln j (by omega)
    rw [takS_succ (by omega), lens_app]
    have e := hln _ (tsA_mem (ord_lt hlt (show j < ord.length by omega)))
    have := addV_ok (c := c) (l := takS l ord j) (t := (tsA l (ord.getD j 0)).l) (by rw [lens_len]) ih
    rw [e] at this
    exact this
theorem stgV_len {c : Costs} {l : List TS} {ord : List Nat} (hlt : ∀ k ∈ ord, k < l.length) {M : Nat} (hln : ∀ t ∈ l, t.l.length ≤ M) : ∀ j, j ≤ ord.length → (stgV c l ord j).length ≤ j * M
  | 0, _ => Nat.zero_le _
  | j + 1, h => by
    have ih := stgV_len (c := c) hlt hln j (by omega)
    have h1 := addV_len c (takS l ord j) (stgV c l ord j) (tsA l (ord.getD j 0)).l
    have h2 := hln _ (tsA_mem (ord_lt hlt (show j < ord.length by omega)))
    rw [Nat.succ_mul]
    show (addV c (takS l ord j) (stgV c l ord j) (tsA l (ord.getD j 0)).l 0 0).length ≤ _
    omega
theorem badS_tak {l : List TS} {ord : List Nat} (hlt : ∀ k ∈ ord, k < l.length) (h : badS l = false) (j : Nat) : badS (takS l ord j) = false := by
  unfold badS at h ⊢
  rw [List.any_eq_false] at h ⊢
  exact fun t ht => h t (takS_mem hlt t ht)
theorem Grp.tak {w : World} {A A' : Option Addr} {n : Nat} {l : List TS} {ord : List Nat} (hg : Grp w A n l) (hlt : ∀ k ∈ ord, k < l.length) {j : Nat} (hj : j ≤ ord.length) (hjb : j ≤ 32) (hs : Src w 1 A' j ((takS l ord j).map TS.val)) : Grp w A' j (takS l ord j) :=
  ⟨hg.hst, hs, takS_len hj, hjb, ⟨fun t ht => hg.ok.src t (takS_mem hlt t ht), fun t ht => hg.ok.len t (takS_mem hlt t ht), fun t ht => hg.ok.bd t (takS_mem hlt t ht)⟩, fun t ht => hg.nb t (takS_mem hlt t ht), fun t ht => hg.sm t (takS_mem hlt t ht)⟩
def alnP (c : Costs) (l : List TS) : List (List Int) := (stgV c l (orderV (dstT c l) l.length) l.length).map (arrR (orderV (dstT c l) l.length))
def alnA (c : Costs) (l : List TS) : List (List Int) × Int := if ck21 c l = 0 then (alnP c l, 0) else ([], 1)
end Go.Proofs.YtofikdpbagnjbaaGreatDoor
namespace Go.Proofs.YtofikdpbagnjbaaGreatDoor
open Go.RowKit Go.Shelf Go.Proofs

def SameL (l l' : List TS) : Prop := l.map TS.l = l'.map TS.l
theorem SameL.len {l l' : List TS} (h : SameL l l') : l.length = l'.length := by
  have := congrArg List.length h
  rwa [List.length_map, List.length_map] at this
theorem SameL.get {l l' : List TS} (h : SameL l l') (i : Nat) : (tsA l i).l = (tsA l' i).l := by
  have e := congrArg (fun x : List (List Tok) => x[i]?) h
  simp only [List.getElem?_map] at e
  unfold tsA
  rw [List.getD_eq_getElem?_getD, List.getD_eq_getElem?_getD]
  cases h1 : l[i]? with
  | none =>
    cases h2 : l'[i]? with
    | none => rfl
    | some y => rw [h1, h2] at e; cases e
  | some x =>
    cases h2 : l'[i]? with
    | none => rw [h1, h2] at e; cases e
    | some y => rw [h1, h2] at e; exact Option.some.inj e
theorem SameL.dst {l l' : List TS} (h : SameL l l') (c : Costs) : dstT c l = dstT c l' := by
  funext i k
  unfold dstT
  rw [h.get, h.get]
theorem SameL.put {l l' : List TS} (h : SameL l l') (c : Costs) (col : List Int) (t : List Tok) (k : Int) : putC c l col t k = putC c l' col t k := by
  have e : ∀ m : List TS, putC c m col t k = (((m.map TS.l).zip col).map fun p => entC c p.1 p.2 t k).sum := fun m => by
    unfold putC
    rw [List.zip_map_left, List.map_map]
    rfl
  rw [e l, e l', h]
theorem SameL.add {l l' : List TS} (h : SameL l l') (c : Costs) (cols : List (List Int)) (t : List Tok) : addV c l cols t = addV c l' cols t := by
  funext i k
  have e : grdA c l cols t = grdA c l' cols t := by
    unfold grdA
    simp only [h.put, h.len]
  unfold addV
  rw [e, h.len]
theorem SameL.tak {l l' : List TS} (h : SameL l l') (ord : List Nat) (j : Nat) : SameL (takS l ord j) (takS l' ord j) := by
  unfold SameL takS
  rw [List.map_map, List.map_map]
  exact List.map_congr_left fun i _ => h.get i
theorem SameL.stg {l l' : List TS} (h : SameL l l') (c : Costs) (ord : List Nat) : ∀ j, stgV c l ord j = stgV c l' ord j
  | 0 => rfl
  | j + 1 => by
    unfold stgV
    rw [(h.tak ord j).add, SameL.stg h c ord j, h.get]
theorem SameL.bad {l l' : List TS} (h : SameL l l') : badS l = badS l' := by
  have e : ∀ m : List TS, badS m = (m.map TS.l).any badL := fun m => by unfold badS; rw [List.any_map]; rfl
  rw [e, e, h]
theorem SameL.ck {l l' : List TS} (h : SameL l l') (c : Costs) : ck21 c l = ck21 c l' := by unfold ck21; rw [h.bad]
theorem SameL.ord {l l' : List TS} (h : SameL l l') (c : Costs) : ordV c l = ordV c l' := by unfold ordV; rw [h.ck, h.dst, h.len]
theorem SameL.aln {l l' : List TS} (h : SameL l l') (c : Costs) : alnA c l = alnA c l' := by unfold alnA alnP; rw [h.ck, h.dst, h.len, h.stg]
end Go.Proofs.YtofikdpbagnjbaaGreatDoor
namespace Go.Proofs.YtofikdpbagnjbaaGreatDoor
open Go.RowKit Go.Shelf Go.Proofs
set_option maxRecDepth 100000

def sA : ByteArray := ⟨#[97]⟩
def sB : ByteArray := ⟨#[98]⟩
end Go.Proofs.YtofikdpbagnjbaaGreatDoor
namespace Go.Proofs.YtofikdpbagnjbaaGreatDoor
open Go.RowKit Go.Shelf Go.Proofs

theorem pigeon2 : ∀ (n : Nat) (l : List Nat), l.Nodup → (∀ x ∈ l, x < n) → l.length ≤ n
  | 0, l, _, h => by
    cases l with
    | nil => simp
    | cons x l => exact absurd (h x (List.mem_cons_self ..)) (by omega)
  | n + 1, l, hd, h => by
    have h1 := pigeon2 n (l.erase n) (hd.erase n) (fun x hx => by
      have h2 := (hd.mem_erase_iff).1 hx
      have := h x h2.2
      have := h2.1
      omega)
    have h2 : l.length ≤ (l.erase n).length + 1 := by
      by_cases hm : n ∈ l
      · rw [List.length_erase_of_mem hm]; omega
      · rw [List.erase_of_not_mem hm]; omega
    omega
theorem ord_surj {ord : List Nat} {n : Nat} (hd : ord.Nodup) (hlt : ∀ x ∈ ord, x < n) (hl : ord.length = n) {s : Nat} (hs : s < n) : ∃ k, k < n ∧ ord.getD k 0 = s := by
  have hm : s ∈ ord := Classical.byContradiction fun h => by
    have := pigeon2 n (s :: ord) (List.nodup_cons.2 ⟨h, hd⟩) (fun x hx => by
      rcases List.mem_cons.1 hx with rfl | hx
      · exact hs
      · exact hlt x hx)
    simp only [List.length_cons] at this
    omega
  obtain ⟨k, hk, e⟩ := List.getElem_of_mem hm
  exact ⟨k, by omega, by rw [List.getD_eq_getElem?_getD, List.getElem?_eq_getElem hk]; exact e⟩
theorem ord_inj {ord : List Nat} (hd : ord.Nodup) {i k : Nat} (hi : i < ord.length) (hk : k < ord.length) (h : ord.getD i 0 = ord.getD k 0) : i = k := by
  rw [List.getD_eq_getElem?_getD, List.getElem?_eq_getElem hi, List.getD_eq_getElem?_getD, List.getElem?_eq_getElem hk] at h
  exact (List.getElem_inj hd).1 h
theorem arrJ_get {ord : List Nat} {r : List Int} (hd : ord.Nodup) (hl : ord.length = r.length) (hlt : ∀ x ∈ ord, x < r.length) {k : Nat} (hk : k < r.length) : ∀ j, j ≤ r.length → (arrJ ord r j)[ord.getD k 0]? = some (if k < j then r.getD k 0 else 0)
  | 0, _ => by
    have := hlt _ (List.mem_of_getElem? (ord_get (show k < ord.length by omega)))
    rw [if_neg (by omega), arrJ, List.getElem?_replicate, if_pos this]
  | j + 1, h => by
    have ih := arrJ_get hd hl hlt hk j (by omega)
    have hj := hlt _ (List.mem_of_getElem? (ord_get (show j < ord.length by omega)))
    rw [arrJ, List.getElem?_set, arrJ_len]
    by_cases e : ord.getD j 0 = ord.getD k 0
    · have e2 := ord_inj hd (by omega) (by omega) e
      subst e2
      rw [if_pos rfl, if_pos hj, if_pos (by omega)]
    · rw [if_neg e, ih]
      have : j ≠ k := fun h9 => e (by rw [h9])
      by_cases h1 : k < j
      · rw [if_pos h1, if_pos (by omega)]
      · rw [if_neg h1, if_neg (by omega)]
theorem arrR_len (ord : List Nat) (r : List Int) : (arrR ord r).length = r.length := arrJ_len ord r _
theorem arrR_get {ord : List Nat} {r : List Int} (hd : ord.Nodup) (hl : ord.length = r.length) (hlt : ∀ x ∈ ord, x < r.length) {k : Nat} (hk : k < r.length) : (arrR ord r)[ord.getD k 0]? = r[k]? := by
  unfold arrR
  rw [arrJ_get hd hl hlt hk _ (Nat.le_refl _), if_pos hk, List.getD_eq_getElem?_getD, List.getElem?_eq_getElem hk]
  rfl
theorem arr_ok {ord : List Nat} {n : Nat} (hd : ord.Nodup) (hl : ord.length = n) (hlt : ∀ x ∈ ord, x < n) {ls : List Nat} (hls : ls.length = n) {cols : List (List Int)} (h : ColsOk (ord.map fun k => ls.getD k 0) cols) : ColsOk ls (cols.map (arrR ord)) := by
  have hrl : ∀ r ∈ cols, r.length = n := fun r hr => by rw [h.len r hr, List.length_map, hl]
  refine ⟨fun x hx => ?_, fun x hx => ?_, fun s m hs => ?_⟩
  · obtain ⟨r, hr, rfl⟩ := List.mem_map.1 hx
    rw [arrR_len, hrl r hr, hls]
  · obtain ⟨r, hr, rfl⟩ := List.mem_map.1 hx
    obtain ⟨z, hz, hz1⟩ := h.some_ r hr
    obtain ⟨k, hk, e⟩ := List.getElem_of_mem hz
    have hrn := hrl r hr
    have := arrR_get hd (by omega) (fun x hx => by rw [hrn]; exact hlt x hx) hk
    rw [List.getElem?_eq_getElem hk, e] at this
    exact ⟨z, List.mem_of_getElem? this, hz1⟩
  · have hsn : s < n := by have := (List.getElem?_eq_some_iff.1 hs).1; omega
    obtain ⟨k, hk, rfl⟩ := ord_surj hd hlt hl hsn
    have h1 := h.src k m (by
      rw [List.getElem?_map, ord_get (show k < ord.length by omega)]
      show some (ls.getD (ord.getD k 0) 0) = some m
      rw [List.getD_eq_getElem?_getD, hs]
      rfl)
    rw [← h1]
    unfold srcC
    rw [List.map_map]
    refine congrArg _ (List.map_congr_left fun r hr => ?_)
    have hrn := hrl r hr
    show (arrR ord r).getD (ord.getD k 0) (-1) = r.getD k (-1)
    rw [List.getD_eq_getElem?_getD, arrR_get hd (by omega) (fun x hx => by rw [hrn]; exact hlt x hx) (by omega), List.getD_eq_getElem?_getD]
theorem lens_ord (l : List TS) {ord : List Nat} (hlt : ∀ k ∈ ord, k < l.length) : lens (takS l ord ord.length) = ord.map fun k => (lens l).getD k 0 := by
  unfold takS lens
  rw [List.take_of_length_le (Nat.le_refl _), List.map_map]
  refine List.map_congr_left fun k hk => ?_
  have e : l[k]? = some (l[k]'(hlt k hk)) := List.getElem?_eq_getElem (hlt k hk)
  show (tsA l k).n = _
  rw [tsA_eq e, List.getD_eq_getElem?_getD, List.getElem?_map, e]
  rfl
theorem alnP_ok {c : Costs} {l : List TS} (h : ck21 c l = 0) (hln : ∀ t ∈ l, t.l.length = t.n) (hb : ∀ t ∈ l, t.l.length ≤ 1000) : ColsOk (lens l) (alnP c l) := by
  have hbd := dstT_bd (ck21_ok h).1 hb
  obtain ⟨hd, hlt⟩ := orderV_ok (fun i k => (hbd i k).1) l.length
  have hol := orderV_len (dstT c l) l.length
  have h1 := stgV_ok (c := c) hlt hln (orderV (dstT c l) l.length).length (Nat.le_refl _)
  rw [lens_ord l hlt] at h1
  have h2 := arr_ok hd hol hlt (by rw [lens_len]) h1
  unfold alnP
  rw [hol] at h2
  exact h2
def diag (j n : Nat) : List (List Int) := (List.range n).map fun (i : Nat) => List.replicate j (i : Int)
theorem diag_get {j n i : Nat} (h : i < n) : (diag j n).getD i [] = List.replicate j (i : Int) := by
  unfold diag; rw [List.getD_eq_getElem?_getD, List.getElem?_map, List.getElem?_range h]; rfl
theorem diag_len (j n : Nat) : (diag j n).length = n := by simp [diag]
theorem diag_drop {j n i : Nat} (h : i < n) : (diag j n).drop i = List.replicate j (i : Int) :: (diag j n).drop (i + 1) := by
  rw [List.drop_eq_getElem_cons (by rw [diag_len]; exact h)]
  simp [diag]
theorem add_first {c : Costs} {l : List TS} (h0 : l.length = 0) {t : List Tok} : ∀ q i, i + q = t.length → addV c l [] t 0 i = (diag 1 t.length).drop i
  | 0, i, h => by
    rw [addV_end (by simp; omega), List.drop_of_length_le (by rw [diag_len]; omega)]
  | q + 1, i, h => by
    have hi : ¬ 0 < (grdA c l [] t).n := by show ¬ 0 < ([] : List (List Int)).length; simp
    have hk : i < (grdA c l [] t).m := by show i < t.length; omega
    have hf : fstM (grdA c l [] t) 0 i = some ⟨0, 1, (grdA c l [] t).h i⟩ := (fst_01 (.inr hk) (fun h9 => hi h9.1.1) (fun h9 => hi h9.1)).1
    rw [addV_step hf]
    dsimp only
    rw [Nat.add_zero, add_first h0 q (i + 1) (by omega), diag_drop (j := 1) (n := t.length) (i := i) (by omega)]
    have e9 : colM l.length [] 0 i ⟨0, 1, (grdA c l [] t).h i⟩ = List.replicate 1 (i : Int) := by
      unfold colM noneC
      rw [if_neg (show ¬ (0 : Nat) = 1 by omega), if_pos rfl, h0]
      rfl
    rw [e9]
end Go.Proofs.YtofikdpbagnjbaaGreatDoor
namespace Go.Proofs.YtofikdpbagnjbaaGreatDoor

def sumI (g : Nat → Int) : List Nat → Int
  | [] => 0
  | x :: l => g x + sumI g l
theorem sumI_congr {g h : Nat → Int} : ∀ {l : List Nat}, (∀ x ∈ l, g x = h x) → sumI g l = sumI h l
  | [], _ => rfl
  | y :: l, e => by unfold sumI; rw [e y (List.mem_cons_self ..), sumI_congr (l := l) fun x hx => e x (List.mem_cons_of_mem _ hx)]
def pS (g : Nat → Nat → Int) : List Nat → Int
  | [] => 0
  | a :: l => sumI (fun y => g y a) l + pS g l
theorem psum_append (f : Nat → Nat → Int) (ps : List (Nat × Nat)) : ∀ qs : List (Nat × Nat), psum f (ps ++ qs) = psum f ps + psum f qs := by
  intro qs
  unfold psum
  rw [List.foldl_append]
  generalize List.foldl (fun s p => s + f p.1 p.2) 0 ps = z
  have key : ∀ (qs : List (Nat × Nat)) (z : Int), qs.foldl (fun s p => s + f p.1 p.2) z = z + qs.foldl (fun s p => s + f p.1 p.2) 0 := by
    intro qs
    induction qs with
    | nil => intro z; simp
    | cons q qs ih => intro z; simp only [List.foldl_cons]; rw [ih, ih (0 + f q.1 q.2)]; omega
  exact key qs z
theorem psum_rowP (f : Nat → Nat → Int) (k : Nat) : ∀ i, psum f (rowP i k) = sumI (fun q => f q k) (List.range i).reverse
  | 0 => rfl
  | i + 1 => by
    rw [rowP_succ, psum_snoc, psum_rowP f k i, List.range_succ, List.reverse_append, List.reverse_singleton, List.singleton_append]
    simp only [sumI]
    omega
theorem psum_pS (f : Nat → Nat → Int) : ∀ n, psum f (pairsL n) = pS f (List.range n).reverse
  | 0 => rfl
  | n + 1 => by
    rw [pairsL_succ, psum_append, psum_pS f n, psum_rowP, List.range_succ, List.reverse_append, List.reverse_singleton, List.singleton_append]
    simp only [pS]
    omega
theorem pS_congr {g h : Nat → Nat → Int} : ∀ {l : List Nat}, (∀ x ∈ l, ∀ y ∈ l, g x y = h x y) → pS g l = pS h l
  | [], _ => rfl
  | a :: l, e => by
    unfold pS
    rw [pS_congr (l := l) fun x hx y hy => e x (List.mem_cons_of_mem _ hx) y (List.mem_cons_of_mem _ hy), sumI_congr (h := fun y => h y a) fun x hx => e x (List.mem_cons_of_mem _ hx) a (List.mem_cons_self ..)]
theorem psum_congr {f g : Nat → Nat → Int} {n : Nat} (h : ∀ i k, i < n → k < n → f i k = g i k) : psum f (pairsL n) = psum g (pairsL n) := by
  rw [psum_pS, psum_pS]
  refine pS_congr fun i hi k hk => ?_
  rw [List.mem_reverse, List.mem_range] at hi hk
  exact h i k hi hk
theorem flat_set {α : Type} (cells : α → List Value) (sz : Nat) (hsz : ∀ t, (cells t).length = sz) : ∀ (l : List α) (i : Nat) (t : α), i < l.length → setL (l.flatMap cells) (i * sz) (cells t) = (l.set i t).flatMap cells
  | [], i, t, h => by simp at h
  | x :: l, 0, t, h => by
    rw [List.set_cons_zero, List.flatMap_cons, List.flatMap_cons, Nat.zero_mul]
    have key : ∀ (us xs ys zs : List Value), us.length = xs.length → setL (zs ++ xs ++ ys) zs.length us = zs ++ us ++ ys := by
      intro us
      induction us with
      | nil =>
        intro xs ys zs h
        have e : xs = [] := List.eq_nil_of_length_eq_zero (by simpa using h.symm)
        subst e; simp [setL]
      | cons u us ih =>
        intro xs ys zs h
        obtain ⟨x, xs, rfl⟩ : ∃ y ys, xs = y :: ys := by cases xs with | nil => simp at h | cons y ys => exact ⟨y, ys, rfl⟩
        simp only [setL]
        have e : (zs ++ x :: xs ++ ys).set zs.length u = (zs ++ [u]) ++ xs ++ ys := by
          rw [List.append_assoc, List.set_append_right _ _ (Nat.le_refl _), Nat.sub_self]; simp
        rw [e, show zs.length + 1 = (zs ++ [u]).length by simp, ih xs ys (zs ++ [u]) (by simpa using h)]
        simp
    have := key (cells t) (cells x) (l.flatMap cells) [] (by rw [hsz, hsz])
    simpa using this
  | x :: l, i + 1, t, h => by
    rw [List.set_cons_succ, List.flatMap_cons, List.flatMap_cons, ← flat_set cells sz hsz l i t (by simpa using h)]
    have key : ∀ (us xs ys : List Value) (k : Nat), setL (xs ++ ys) (xs.length + k) us = xs ++ setL ys k us := by
      intro us
      induction us with
      | nil => intro xs ys k; rfl
      | cons u us ih =>
        intro xs ys k
        simp only [setL]
        rw [List.set_append_right _ _ (by omega), Nat.add_sub_cancel_left, Nat.add_assoc, ih]
    rw [← key, hsz, Nat.succ_mul, Nat.add_comm sz]
theorem flatTok_set (l : List Tok) (i : Nat) (t : Tok) (h : i < l.length) : setL (l.flatMap Tok.cells) (i * 6) t.cells = (l.set i t).flatMap Tok.cells := flat_set Tok.cells 6 (fun _ => rfl) l i t h
end Go.Proofs.YtofikdpbagnjbaaGreatDoor
namespace Go.Proofs.YtofikdpbagnjbaaGreatDoor
open Go.RowKit Go.Shelf Go.Proofs

def zC (c : Costs) (l : List TS) (col : List Int) (i k : Nat) : Int := entC c (tsA l i).l (col.getD i (-1)) (tsA l k).l (col.getD k (-1))
def colZ (c : Costs) (l : List TS) (col : List Int) : Int := psum (zC c l col) (pairsL l.length)
def totZ (c : Costs) (l : List TS) (cols : List (List Int)) : Int := (cols.map (colZ c l)).sum
theorem totZ_cons (c : Costs) (l : List TS) (x : List Int) (cols : List (List Int)) : totZ c l (x :: cols) = colZ c l x + totZ c l cols := by unfold totZ; rw [List.map_cons, List.sum_cons]
theorem totZ_app (c : Costs) (l : List TS) (a b : List (List Int)) : totZ c l (a ++ b) = totZ c l a + totZ c l b := by unfold totZ; rw [List.map_append, List.sum_append]
theorem colZ_bd {c : Costs} (hc : costE c = 0) {l : List TS} (hl : l.length ≤ 32) (col : List Int) : 0 ≤ colZ c l col ∧ colZ c l col ≤ 1024000 := by
  have h1 := psum_bd (f := zC c l col) (M := 1000) (by omega) (pairsL l.length) fun p _ => entC_bd hc _ _ _ _
  have h2 := pairsL_len l.length
  have h3 : l.length * l.length ≤ 32 * 32 := Nat.mul_le_mul hl hl
  unfold colZ
  omega
theorem totZ_bd {c : Costs} (hc : costE c = 0) {l : List TS} (hl : l.length ≤ 32) : ∀ cols : List (List Int), 0 ≤ totZ c l cols ∧ totZ c l cols ≤ 1024000 * (cols.length : Int)
  | [] => by simp [totZ]
  | x :: cols => by
    have h1 := colZ_bd hc hl x
    have h2 := totZ_bd hc hl cols
    rw [totZ_cons, List.length_cons]
    omega
theorem columnV_Z {c : Costs} (hc : costE c = 0) {l : List TS} (hbs : badS l = false) (hln : ∀ t ∈ l, t.l.length = t.n) (hn : l.length ≤ 32) {col : List Int} (hcol : ColOk l col) {own : List Tok} {th : List Bool} (ho : own.length = l.length) (ht : th.length = l.length)
    (h1 : ∀ i, i < l.length → thA th i = decide (0 ≤ col.getD i (-1))) (h2 : ∀ i, i < l.length → 0 ≤ col.getD i (-1) → tkA own i = tkA (tsA l i).l (col.getD i (-1)).toNat) : columnV c own th = (colZ c l col, 0) := by
  have hmem : ∀ i, i < l.length → 0 ≤ col.getD i (-1) → tkA (tsA l i).l (col.getD i (-1)).toNat ∈ (tsA l i).l := fun i hi h0 => by
    have hci : col[i]? = some (col.getD i (-1)) := by rw [List.getD_eq_getElem?_getD, List.getElem?_eq_getElem (by rw [hcol.1]; exact hi)]; rfl
    have hli : l[i]? = some (tsA l i) := by rw [tsA_eq (List.getElem?_eq_getElem hi)]; exact List.getElem?_eq_getElem hi
    have := hcol.2 i _ _ hci hli
    exact tkA_mem2 h0 (by rw [hln _ (tsA_mem hi)]; exact this.2)
  have hbad : badCol own th = false := badCol_false fun j hj hth => by
    rw [ho] at hj
    rw [h1 j hj] at hth
    have h0 : 0 ≤ col.getD j (-1) := of_decide_eq_true hth
    rw [h2 j hj h0]
    exact badS_ok hbs _ (tsA_mem hj) _ (hmem j hj h0)
  unfold columnV colZ
  rw [if_neg (by simp [hc]), if_neg (by omega), if_neg (by omega), if_neg (by rw [hbad]; simp), ho]
  refine congrArg (fun x => (x, (0 : Int))) (psum_congr fun i k hi hk => ?_)
  unfold cellC zC entC
  rw [h1 i hi, h1 k hk]
  have e1 := h2 i hi
  have e2 := h2 k hk
  generalize col.getD i (-1) = x at e1 ⊢
  generalize col.getD k (-1) = y at e2 ⊢
  by_cases hi0 : 0 ≤ x
  · by_cases hk0 : 0 ≤ y
    · rw [e1 hi0, e2 hk0]; simp [hi0, hk0]
    · rw [e1 hi0]; simp [hi0, hk0]
  · by_cases hk0 : 0 ≤ y
    · rw [e2 hk0]; simp [hi0, hk0]
    · simp [hi0, hk0]
theorem tsA_left {l m : List TS} {i : Nat} (h : i < l.length) : tsA (l ++ m) i = tsA l i := by unfold tsA; rw [List.getD_eq_getElem?_getD, List.getElem?_append_left h, ← List.getD_eq_getElem?_getD]
theorem tsA_end (l : List TS) (t : TS) : tsA (l ++ [t]) l.length = t := by unfold tsA; rw [List.getD_eq_getElem?_getD, List.getElem?_append_right (Nat.le_refl _), Nat.sub_self]; rfl
theorem getD_left {a b : List Int} {i : Nat} (h : i < a.length) : (a ++ b).getD i (-1) = a.getD i (-1) := by rw [List.getD_eq_getElem?_getD, List.getElem?_append_left h, ← List.getD_eq_getElem?_getD]
theorem getD_end (a : List Int) (z : Int) : (a ++ [z]).getD a.length (-1) = z := by rw [List.getD_eq_getElem?_getD, List.getElem?_append_right (Nat.le_refl _), Nat.sub_self]; rfl
theorem colZ_app (c : Costs) {l : List TS} {col : List Int} (hl : col.length = l.length) (t : TS) (z : Int) : colZ c (l ++ [t]) (col ++ [z]) = colZ c l col + putC c l col t.l z := by
  unfold colZ
  rw [List.length_append]
  show psum _ (pairsL (l.length + 1)) = _
  rw [pairsL_succ, psum_append]
  congr 1
  · refine psum_congr fun i k hi hk => ?_
    unfold zC
    rw [tsA_left hi, tsA_left hk, getD_left (by omega), getD_left (by omega)]
  · rw [← putS_all c (l := l) (col := col) t.l z (Nat.le_refl _)]
    have key : ∀ j, j ≤ l.length → psum (zC c (l ++ [t]) (col ++ [z])) (rowP j l.length) = putS c l col t.l z j := by
      intro j
      induction j with
      | zero => intro _; rfl
      | succ j ih =>
        intro hj
        have e1 : l[j]? = some (tsA l j) := by rw [tsA_eq (List.getElem?_eq_getElem (show j < l.length by omega))]; exact List.getElem?_eq_getElem _
        have e2 : col[j]? = some (col.getD j (-1)) := by rw [List.getD_eq_getElem?_getD, List.getElem?_eq_getElem (show j < col.length by omega)]; rfl
        rw [rowP_succ, psum_snoc, ih (by omega), putS_succ c t.l z e1 e2]
        congr 1
        show zC c (l ++ [t]) (col ++ [z]) j l.length = _
        unfold zC
        rw [tsA_left (by omega), tsA_end, getD_left (by omega), show l.length = col.length by omega, getD_end]
    exact key _ (Nat.le_refl _)
theorem psum_zero {f : Nat → Nat → Int} (h : ∀ i k, f i k = 0) (ps : List (Nat × Nat)) : psum f ps = 0 := by
  have := psum_bd (f := f) (M := 0) (Int.le_refl _) ps fun p _ => by rw [h]; omega
  omega
theorem colZ_none (c : Costs) (l : List TS) : colZ c l (noneC l.length) = 0 := by
  refine psum_zero (fun i k => ?_) _
  have e : ∀ i, (noneC l.length).getD i (-1) = -1 := fun i => by
    unfold noneC
    rw [List.getD_eq_getElem?_getD, List.getElem?_replicate]
    split <;> rfl
  unfold zC entC
  rw [e, e]
  rfl
theorem totZ_add {c : Costs} {l : List TS} {cols : List (List Int)} (hlen : ∀ x ∈ cols, x.length = l.length) (t : TS) : ∀ i k, i ≤ cols.length → k ≤ t.l.length → totZ c (l ++ [t]) (addV c l cols t.l i k) = totZ c l (cols.drop i) + rst (grdA c l cols t.l) i k := by
  intro i k
  induction i, k using grd_ind (grdA c l cols t.l) with
  | h i k h10 h01 h11 =>
    intro hi hk
    by_cases he : i < cols.length ∨ k < t.l.length
    · obtain ⟨x, hx⟩ := fstM_ex (G := grdA c l cols t.l) (i := i) (k := k) he
      obtain ⟨hm, hv⟩ := fstM_mem hx
      unfold via at hv
      rw [addV_step hx, totZ_cons, ← hv]
      have hcol : ∀ (hi : i < cols.length), (cols.getD i []).length = l.length := fun hi => by
        rw [List.getD_eq_getElem?_getD, List.getElem?_eq_getElem hi]
        exact hlen _ (List.getElem_mem hi)
      have hdr : ∀ (hi : i < cols.length), totZ c l (cols.drop i) = colZ c l (cols.getD i []) + totZ c l (cols.drop (i + 1)) := fun hi => by
        rw [List.drop_eq_getElem_cons hi, totZ_cons, List.getD_eq_getElem?_getD, List.getElem?_eq_getElem hi]; rfl
      rcases mvs_form hm with ⟨rfl, f1, f2⟩ | ⟨rfl, f1⟩ | ⟨rfl, f1⟩
      · have f1' : i < cols.length := f1
        have f2' : k < t.l.length := f2
        dsimp only
        rw [h11 f1 f2 (by omega) (by omega), hdr f1']
        unfold colM
        rw [if_pos rfl, if_pos rfl, colZ_app c (hcol f1')]
        show _ = _ + (putC c l (cols.getD i []) t.l (k : Nat) + _)
        omega
      · have f1' : i < cols.length := f1
        dsimp only
        simp only [Nat.add_zero]
        rw [h10 f1 (by omega) hk, hdr f1']
        unfold colM
        rw [if_pos rfl, if_neg (show ¬ (0 : Nat) = 1 by omega), colZ_app c (hcol f1')]
        show _ = _ + (putC c l (cols.getD i []) t.l (-1) + _)
        omega
      · have f1' : k < t.l.length := f1
        dsimp only
        simp only [Nat.add_zero]
        rw [h01 f1 hi (by omega)]
        unfold colM
        rw [if_neg (show ¬ (0 : Nat) = 1 by omega), if_pos rfl, colZ_app c (by unfold noneC; rw [List.length_replicate]), colZ_none]
        show _ = _ + (putC c l (noneC l.length) t.l (k : Nat) + _)
        omega
    · rw [addV_end he, List.drop_of_length_le (by omega), rst_none (fun h => he (.inl h)) (fun h => he (.inr h))]
      rfl
theorem psum_add (f g : Nat → Nat → Int) : ∀ ps : List (Nat × Nat), psum (fun i k => f i k + g i k) ps = psum f ps + psum g ps := by
  intro ps
  have key : ∀ (ps : List (Nat × Nat)) (a b : Int), ps.foldl (fun s p => s + (f p.1 p.2 + g p.1 p.2)) (a + b) = ps.foldl (fun s p => s + f p.1 p.2) a + ps.foldl (fun s p => s + g p.1 p.2) b := by
    intro ps
    induction ps with
    | nil => intro a b; rfl
    | cons p ps ih =>
      intro a b
      simp only [List.foldl_cons]
      rw [← ih, show a + b + (f p.1 p.2 + g p.1 p.2) = a + f p.1 p.2 + (b + g p.1 p.2) by omega]
  exact key ps 0 0
theorem psum_le {f g : Nat → Nat → Int} : ∀ {ps : List (Nat × Nat)}, (∀ p ∈ ps, f p.1 p.2 ≤ g p.1 p.2) → psum f ps ≤ psum g ps := by
  intro ps
  have key : ∀ (ps : List (Nat × Nat)) (a b : Int), a ≤ b → (∀ p ∈ ps, f p.1 p.2 ≤ g p.1 p.2) → ps.foldl (fun s p => s + f p.1 p.2) a ≤ ps.foldl (fun s p => s + g p.1 p.2) b := by
    intro ps
    induction ps with
    | nil => intro a b h _; exact h
    | cons p ps ih =>
      intro a b h hp
      simp only [List.foldl_cons]
      have := hp p (List.mem_cons_self ..)
      exact ih _ _ (by omega) fun q hq => hp q (List.mem_cons_of_mem _ hq)
  exact key ps 0 0 (Int.le_refl _)
theorem totZ_pairs (c : Costs) (l : List TS) : ∀ cols : List (List Int), totZ c l cols = psum (fun i k => (cols.map fun x => zC c l x i k).sum) (pairsL l.length)
  | [] => (psum_zero (f := fun i k => (([] : List (List Int)).map fun x => zC c l x i k).sum) (fun _ _ => rfl) (pairsL l.length)).symm
  | x :: cols => by
    rw [totZ_cons, totZ_pairs c l cols]
    unfold colZ
    rw [← psum_add]
    rfl
theorem upto_drop {n p : Nat} (h : p < n) : (upto n).drop p = (p : Int) :: (upto n).drop (p + 1) := by
  rw [List.drop_eq_getElem_cons (by rw [upto_len]; exact h)]
  have e := upto_get h
  rw [List.getElem?_eq_getElem (by rw [upto_len]; exact h)] at e
  rw [Option.some.inj e]
theorem upto_end {n p : Nat} (h : n ≤ p) : (upto n).drop p = [] := List.drop_of_length_le (by rw [upto_len]; exact h)
theorem upto_cons {n p : Nat} {z : Int} {r : List Int} (h : z :: r = (upto n).drop p) : p < n ∧ z = (p : Int) ∧ r = (upto n).drop (p + 1) := by
  rcases Nat.lt_or_ge p n with h1 | h1
  · rw [upto_drop h1] at h
    exact ⟨h1, (List.cons.inj h).1, (List.cons.inj h).2⟩
  · rw [upto_end h1] at h; cases h
theorem pair_rst (c : Costs) (a b : List Tok) (s u : Nat) : ∀ (cols : List (List Int)) (p q : Nat), srcC cols s = (upto a.length).drop p → srcC cols u = (upto b.length).drop q → p ≤ a.length → q ≤ b.length →
    rst (grdOf c a b) p q ≤ (cols.map fun x => entC c a (x.getD s (-1)) b (x.getD u (-1))).sum
  | [], p, q, h1, h2, hp, hq => by
    have e1 : ¬ p < a.length := fun h => by rw [upto_drop h] at h1; cases h1
    have e2 : ¬ q < b.length := fun h => by rw [upto_drop h] at h2; cases h2
    rw [rst_none (G := grdOf c a b) e1 e2]
    exact Int.le_refl _
  | x :: cols, p, q, h1, h2, hp, hq => by
    rw [srcC_cons] at h1 h2
    rw [List.map_cons, List.sum_cons]
    by_cases hs : x.getD s (-1) = -1
    · rw [if_pos hs, List.nil_append] at h1
      by_cases hu : x.getD u (-1) = -1
      · rw [if_pos hu, List.nil_append] at h2
        have ih := pair_rst c a b s u cols p q h1 h2 hp hq
        rw [hs, hu]
        have e : entC c a (-1) b (-1) = 0 := rfl
        omega
      · rw [if_neg hu, List.singleton_append] at h2
        obtain ⟨g1, g2, g3⟩ := upto_cons h2
        have ih := pair_rst c a b s u cols p (q + 1) h1 g3 hp (by omega)
        have hr := rst_le_h (G := grdOf c a b) (i := p) (k := q) g1
        have e : entC c a (-1) b (q : Int) = (grdOf c a b).h q := by
          unfold entC; rw [if_neg (by omega), if_neg (by omega), if_pos (by omega)]; rfl
        rw [hs, g2, e]
        omega
    · rw [if_neg hs, List.singleton_append] at h1
      obtain ⟨f1, f2, f3⟩ := upto_cons h1
      by_cases hu : x.getD u (-1) = -1
      · rw [if_pos hu, List.nil_append] at h2
        have ih := pair_rst c a b s u cols (p + 1) q f3 h2 (by omega) hq
        have hr := rst_le_g (G := grdOf c a b) (i := p) (k := q) f1
        have e : entC c a (p : Int) b (-1) = (grdOf c a b).g p := by
          unfold entC; rw [if_neg (by omega), if_pos (by omega)]; rfl
        rw [hu, f2, e]
        omega
      · rw [if_neg hu, List.singleton_append] at h2
        obtain ⟨g1, g2, g3⟩ := upto_cons h2
        have ih := pair_rst c a b s u cols (p + 1) (q + 1) f3 g3 (by omega) (by omega)
        have hr := rst_le_p (G := grdOf c a b) (i := p) (k := q) f1 g1
        have e : entC c a (p : Int) b (q : Int) = (grdOf c a b).p p q := by
          unfold entC; rw [if_pos (by omega)]; rfl
        rw [f2, g2, e]
        omega
theorem totZ_ge {c : Costs} {l : List TS} (hln : ∀ t ∈ l, t.l.length = t.n) {cols : List (List Int)} (h : ColsOk (lens l) cols) : psum (dstT c l) (pairsL l.length) ≤ totZ c l cols := by
  rw [totZ_pairs]
  refine psum_le fun p hp => ?_
  obtain ⟨i, k⟩ := p
  obtain ⟨hik, hk⟩ := pairsL_mem.1 hp
  show dstT c l i k ≤ _
  have hs : ∀ s, s < l.length → srcC cols s = upto (tsA l s).l.length := fun s hs => by
    rw [hln _ (tsA_mem hs)]
    refine h.src s _ (lens_get ?_)
    rw [tsA_eq (List.getElem?_eq_getElem hs)]
    exact List.getElem?_eq_getElem hs
  unfold dstT
  rw [if_pos hik]
  exact pair_rst c (tsA l i).l (tsA l k).l i k cols 0 0 (hs i (by omega)) (hs k hk) (Nat.zero_le _) (Nat.zero_le _)
def rsum (D : Nat → Nat → Int) (i : Nat) : Nat → Int
  | 0 => 0
  | k + 1 => rsum D i k + if i < k then D i k else 0
def ssum (D : Nat → Nat → Int) (n : Nat) : Nat → Int
  | 0 => 0
  | i + 1 => ssum D n i + rsum D i n
theorem rsum_low (D : Nat → Nat → Int) (i : Nat) : ∀ k, k ≤ i + 1 → rsum D i k = 0
  | 0, _ => rfl
  | k + 1, h => by rw [rsum, rsum_low D i k (by omega), if_neg (by omega)]; rfl
theorem ssum_succ (D : Nat → Nat → Int) (n : Nat) : ∀ i, i ≤ n → ssum D (n + 1) i = ssum D n i + psum D (rowP i n)
  | 0, _ => rfl
  | i + 1, h => by
    rw [ssum, ssum_succ D n i (by omega), ssum, rsum, if_pos (by omega), rowP_succ, psum_snoc]
    dsimp only
    omega
theorem ssum_eq (D : Nat → Nat → Int) : ∀ n, ssum D n n = psum D (pairsL n)
  | 0 => rfl
  | n + 1 => by
    rw [ssum, ssum_succ D n n (Nat.le_refl _), ssum_eq D n, pairsL_succ, psum_append, rsum_low D n (n + 1) (Nat.le_refl _)]
    omega
theorem rsum_bd {D : Nat → Nat → Int} {M : Int} (h0 : 0 ≤ M) (h : ∀ i k, 0 ≤ D i k ∧ D i k ≤ M) (i : Nat) : ∀ k : Nat, 0 ≤ rsum D i k ∧ rsum D i k ≤ M * (k : Int)
  | 0 => by simp [rsum]
  | k + 1 => by
    have h1 := rsum_bd h0 h i k
    have h2 := h i k
    have e : M * ((k + 1 : Nat) : Int) = M * (k : Int) + M := by rw [Int.natCast_succ, Int.mul_add, Int.mul_one]
    rw [e, rsum]
    split <;> omega
theorem ssum_bd {D : Nat → Nat → Int} {M : Int} (h0 : 0 ≤ M) (h : ∀ i k, 0 ≤ D i k ∧ D i k ≤ M) (n : Nat) : ∀ i : Nat, 0 ≤ ssum D n i ∧ ssum D n i ≤ M * (n : Int) * (i : Int)
  | 0 => by simp [ssum]
  | i + 1 => by
    have h1 := ssum_bd h0 h n i
    have h2 := rsum_bd h0 h i n
    have e : M * (n : Int) * ((i + 1 : Nat) : Int) = M * (n : Int) * (i : Int) + M * (n : Int) := by rw [Int.natCast_succ, Int.mul_add, Int.mul_one]
    rw [e, ssum]
    omega
theorem order_two (D : Nat → Nat → Int) : orderV D 2 = [0, 1] := by
  obtain ⟨h1, h2, -⟩ := selI_in (D := D) (n := 2) (by omega) 2 (Nat.le_refl _)
  show [(selI D 2 2).1, (selI D 2 2).2] = [0, 1]
  have e1 : (selI D 2 2).1 = 0 := by omega
  have e2 : (selI D 2 2).2 = 1 := by omega
  rw [e1, e2]
theorem arr_two {r : List Int} (h : r.length = 2) : arrR [0, 1] r = r := by
  match r, h with
  | [x, y], _ => rfl
theorem grdA_one {c : Costs} {t : TS} {b : List Tok} : ∀ i k, rst (grdA c [t] (diag 1 t.l.length) b) i k = rst (grdOf c t.l b) i k := by
  intro i k
  have hp : ∀ i k, i < t.l.length → (grdA c [t] (diag 1 t.l.length) b).p i k = (grdOf c t.l b).p i k := fun i k hi => by
    show putC c [t] ((diag 1 t.l.length).getD i []) b (k : Nat) = pairC c (tkA t.l i) (tkA b k)
    rw [diag_get hi]
    show (entC c t.l (i : Nat) b (k : Nat) + 0 : Int) = _
    unfold entC
    rw [if_pos (by omega), Int.add_zero]; rfl
  have hg : ∀ i, i < t.l.length → (grdA c [t] (diag 1 t.l.length) b).g i = (grdOf c t.l b).g i := fun i hi => by
    show putC c [t] ((diag 1 t.l.length).getD i []) b (-1) = gapC c (tkA t.l i)
    rw [diag_get hi]
    show (entC c t.l (i : Nat) b (-1) + 0 : Int) = _
    unfold entC
    rw [if_neg (by omega), if_pos (by omega), Int.add_zero]; rfl
  have hh : ∀ k, (grdA c [t] (diag 1 t.l.length) b).h k = (grdOf c t.l b).h k := fun k => by
    show putC c [t] (noneC 1) b (k : Nat) = gapC c (tkA b k)
    show (entC c t.l (-1) b (k : Nat) + 0 : Int) = _
    unfold entC
    rw [if_neg (by omega), if_neg (by omega), if_pos (by omega), Int.add_zero]; rfl
  have en : (grdA c [t] (diag 1 t.l.length) b).n = t.l.length := diag_len _ _
  have em : (grdA c [t] (diag 1 t.l.length) b).m = b.length := rfl
  induction i, k using grd_ind (grdOf c t.l b) with
  | h i k h10 h01 h11 =>
    by_cases hi : i < t.l.length
    · by_cases hk : k < b.length
      · rw [rst_both (by rw [en]; exact hi) (by rw [em]; exact hk), rst_both (G := grdOf c t.l b) hi hk, hp i k hi, hg i hi, hh, h10 hi, h01 hk, h11 hi hk]
      · rw [rst_fst (by rw [en]; exact hi) (by rw [em]; exact hk), rst_fst (G := grdOf c t.l b) hi hk, hg i hi, h10 hi]
    · by_cases hk : k < b.length
      · rw [rst_snd (by rw [en]; exact hi) (by rw [em]; exact hk), rst_snd (G := grdOf c t.l b) hi hk, hh, h01 hk]
      · rw [rst_none (by rw [en]; exact hi) (by rw [em]; exact hk), rst_none (G := grdOf c t.l b) hi hk]
theorem alnP_two {c : Costs} {s t : TS} (h : ck21 c [s, t] = 0) (hln : ∀ x ∈ [s, t], x.l.length = x.n) : totZ c [s, t] (alnP c [s, t]) = rst (grdOf c s.l t.l) 0 0 := by
  have h1 : stgV c [s, t] [0, 1] 1 = diag 1 s.l.length := by
    show addV c [] [] s.l 0 0 = _
    rw [add_first (l := []) rfl s.l.length 0 (by omega)]
    rfl
  have h2 : stgV c [s, t] [0, 1] 2 = addV c [s] (diag 1 s.l.length) t.l 0 0 := by
    show addV c [s] (stgV c [s, t] [0, 1] 1) t.l 0 0 = _
    rw [h1]
  have hok : ∀ r ∈ stgV c [s, t] [0, 1] 2, r.length = 2 := fun r hr => by
    have := (stgV_ok (c := c) (l := [s, t]) (ord := [0, 1]) (by simp) hln 2 (Nat.le_refl _)).len r hr
    rw [this]; rfl
  have e : alnP c [s, t] = stgV c [s, t] [0, 1] 2 := by
    unfold alnP
    show (stgV c [s, t] (orderV (dstT c [s, t]) 2) 2).map (arrR (orderV (dstT c [s, t]) 2)) = _
    rw [order_two]
    conv => rhs; rw [← List.map_id (stgV c [s, t] [0, 1] 2)]
    exact List.map_congr_left fun r hr => arr_two (hok r hr)
  have hz : ∀ r, colZ c [s] r = 0 := fun r => rfl
  have hz2 : ∀ cols : List (List Int), totZ c [s] cols = 0 := by
    intro cols
    induction cols with
    | nil => rfl
    | cons x cols ih => rw [totZ_cons, ih, hz]; rfl
  rw [e, h2]
  have h3 := totZ_add (c := c) (l := [s]) (cols := diag 1 s.l.length) (fun x hx => by
    unfold diag at hx
    obtain ⟨i, -, rfl⟩ := List.mem_map.1 hx
    simp) t 0 0 (Nat.zero_le _) (Nat.zero_le _)
  rw [hz2, Int.zero_add, grdA_one] at h3
  exact h3
end Go.Proofs.YtofikdpbagnjbaaGreatDoor
namespace Go.Proofs.YtofikdpbagnjbaaGreatDoor

def prjR (keep : List Nat) (x : List Int) : List Int := keep.map fun s => x.getD s (-1)
def anyP (x : List Int) : Bool := x.any fun z => decide (0 ≤ z)
def prjC (keep : List Nat) (cols : List (List Int)) : List (List Int) := (cols.map (prjR keep)).filter anyP
theorem prjR_len (keep : List Nat) (x : List Int) : (prjR keep x).length = keep.length := by simp [prjR]
theorem prjR_get (keep : List Nat) (x : List Int) (j : Nat) : (prjR keep x)[j]? = (keep[j]?).map fun s => x.getD s (-1) := by unfold prjR; rw [List.getElem?_map]
theorem prjR_getD {keep : List Nat} {x : List Int} {j : Nat} (h : j < keep.length) : (prjR keep x).getD j (-1) = x.getD (keep.getD j 0) (-1) := by
  rw [List.getD_eq_getElem?_getD, prjR_get, List.getElem?_eq_getElem h, List.getD_eq_getElem?_getD (l := keep), List.getElem?_eq_getElem h]; rfl
theorem prjC_cons (keep : List Nat) (x : List Int) (cols : List (List Int)) : prjC keep (x :: cols) = if anyP (prjR keep x) = true then prjR keep x :: prjC keep cols else prjC keep cols := by
  unfold prjC
  rw [List.map_cons, List.filter_cons]
theorem anyP_iff {x : List Int} : anyP x = true ↔ ∃ z ∈ x, 0 ≤ z := by unfold anyP; rw [List.any_eq_true]; simp
theorem ColsOk.ge {ls : List Nat} {cols : List (List Int)} (h : ColsOk ls cols) {x : List Int} (hx : x ∈ cols) (s : Nat) : -1 ≤ x.getD s (-1) := by
  rw [List.getD_eq_getElem?_getD]
  cases hz : x[s]? with
  | none => simp
  | some z =>
    have hs : s < ls.length := by rw [← h.len x hx]; exact (List.getElem?_eq_some_iff.1 hz).1
    exact (h.entry hx (List.getElem?_eq_getElem hs) hz).1
theorem prj_src {keep : List Nat} {j : Nat} (hj : j < keep.length) : ∀ {cols : List (List Int)}, (∀ x ∈ cols, ∀ s, -1 ≤ x.getD s (-1)) → srcC (prjC keep cols) j = srcC cols (keep.getD j 0)
  | [], _ => rfl
  | x :: cols, h => by
    have ih := prj_src hj (cols := cols) fun y hy => h y (.tail _ hy)
    rw [prjC_cons, srcC_cons]
    by_cases hp : anyP (prjR keep x) = true
    · rw [if_pos hp, srcC_cons, ih, prjR_getD hj]
    · rw [if_neg hp, ih]
      have hz : x.getD (keep.getD j 0) (-1) = -1 := by
        have h1 := h x (.head _) (keep.getD j 0)
        refine Classical.byContradiction fun hne => hp (anyP_iff.2 ⟨(prjR keep x).getD j (-1), ?_, by rw [prjR_getD hj]; omega⟩)
        rw [List.getD_eq_getElem?_getD, List.getElem?_eq_getElem (by rw [prjR_len]; exact hj)]
        exact List.getElem_mem _
      rw [if_pos hz]; rfl
theorem prjC_ok {ls : List Nat} {cols : List (List Int)} (h : ColsOk ls cols) {keep : List Nat} (hk : ∀ s ∈ keep, s < ls.length) : ColsOk (keep.map fun s => ls.getD s 0) (prjC keep cols) := by
  refine ⟨fun x hx => ?_, fun x hx => ?_, fun j n hj => ?_⟩
  · unfold prjC at hx
    obtain ⟨y, -, rfl⟩ := List.mem_map.1 (List.mem_filter.1 hx).1
    rw [prjR_len, List.length_map]
  · unfold prjC at hx
    obtain ⟨z, hz, h0⟩ := anyP_iff.1 (List.mem_filter.1 hx).2
    exact ⟨z, hz, by omega⟩
  · have hjl : j < keep.length := by simpa using (List.getElem?_eq_some_iff.1 hj).1
    rw [List.getElem?_map, List.getElem?_eq_getElem hjl] at hj
    have e : keep.getD j 0 = keep[j] := by rw [List.getD_eq_getElem?_getD, List.getElem?_eq_getElem hjl]; rfl
    have hlt := hk _ (List.getElem_mem hjl)
    have hn : ls.getD keep[j] 0 = n := by simpa using hj
    rw [prj_src hjl fun x hx s => h.ge hx s, e]
    refine h.src _ n ?_
    rw [List.getD_eq_getElem?_getD, List.getElem?_eq_getElem hlt] at hn
    rw [List.getElem?_eq_getElem hlt]
    exact congrArg some hn
theorem prjR_prjR {keep last : List Nat} (h : ∀ j ∈ last, j < keep.length) (x : List Int) : prjR last (prjR keep x) = prjR (last.map fun j => keep.getD j 0) x := by
  unfold prjR
  rw [List.map_map]
  exact List.map_congr_left fun j hj => prjR_getD (h j hj)
theorem prjC_prjC {keep last : List Nat} (h : ∀ j ∈ last, j < keep.length) : ∀ cols : List (List Int), prjC last (prjC keep cols) = prjC (last.map fun j => keep.getD j 0) cols
  | [] => rfl
  | x :: cols => by
    have ih := prjC_prjC h cols
    rw [prjC_cons, prjC_cons]
    have e := prjR_prjR h x
    by_cases hp : anyP (prjR keep x) = true
    · rw [if_pos hp, prjC_cons, ih, e]
    · rw [if_neg hp, ih, if_neg]
      intro h2
      obtain ⟨z, hz, h0⟩ := anyP_iff.1 h2
      rw [← e] at hz
      obtain ⟨j, hj, rfl⟩ := List.mem_map.1 hz
      refine hp (anyP_iff.2 ⟨_, ?_, h0⟩)
      rw [List.getD_eq_getElem?_getD, List.getElem?_eq_getElem (by rw [prjR_len]; exact h j hj)]
      exact List.getElem_mem _
theorem prjR_all (x : List Int) : prjR (List.range x.length) x = x := by
  refine List.ext_getElem? fun s => ?_
  rw [prjR_get]
  by_cases hs : s < x.length
  · rw [List.getElem?_range hs, List.getElem?_eq_getElem hs, Option.map_some, List.getD_eq_getElem?_getD, List.getElem?_eq_getElem hs]; rfl
  · rw [List.getElem?_eq_none (by rw [List.length_range]; omega), List.getElem?_eq_none (by omega)]; rfl
theorem prjC_all {ls : List Nat} : ∀ {cols : List (List Int)}, (∀ x ∈ cols, x.length = ls.length) → (∀ x ∈ cols, ∃ z ∈ x, z ≠ -1) → (∀ x ∈ cols, ∀ s, -1 ≤ x.getD s (-1)) → prjC (List.range ls.length) cols = cols
  | [], _, _, _ => rfl
  | x :: cols, h1, h2, h3 => by
    rw [prjC_cons, prjC_all (cols := cols) (fun y hy => h1 y (.tail _ hy)) (fun y hy => h2 y (.tail _ hy)) (fun y hy => h3 y (.tail _ hy)), ← h1 x (.head _), prjR_all, if_pos]
    obtain ⟨z, hz, hne⟩ := h2 x (.head _)
    refine anyP_iff.2 ⟨z, hz, ?_⟩
    obtain ⟨s, hs, rfl⟩ := List.getElem_of_mem hz
    have := h3 x (.head _) s
    rw [List.getD_eq_getElem?_getD, List.getElem?_eq_getElem hs] at this
    have h4 : -1 ≤ x[s] := this
    omega
theorem prjC_one (s : Nat) : ∀ {cols : List (List Int)}, (∀ x ∈ cols, ∀ s, -1 ≤ x.getD s (-1)) → prjC [s] cols = (srcC cols s).map fun z => [z]
  | [], _ => rfl
  | x :: cols, h => by
    rw [prjC_cons, srcC_cons, prjC_one s fun y hy => h y (.tail _ hy)]
    have h1 := h x (.head _) s
    have e : prjR [s] x = [x.getD s (-1)] := rfl
    rw [e]
    by_cases hz : x.getD s (-1) = -1
    · rw [if_pos hz, if_neg (by rw [anyP_iff, hz]; rintro ⟨z, h2, h3⟩; rw [List.mem_singleton] at h2; omega)]; rfl
    · rw [if_neg hz, if_pos (anyP_iff.2 ⟨_, List.mem_singleton_self _, by omega⟩)]; rfl
theorem prjC_last {ls : List Nat} {cols : List (List Int)} (h : ColsOk ls cols) {s : Nat} (hs : s < ls.length) : (prjC [s] cols).length = ls.getD s 0 := by
  rw [prjC_one s fun x hx s => h.ge hx s, List.length_map, h.src s _ (List.getElem?_eq_getElem hs), upto_len, List.getD_eq_getElem?_getD, List.getElem?_eq_getElem hs]; rfl
end Go.Proofs.YtofikdpbagnjbaaGreatDoor
namespace Go.Proofs.YtofikdpbagnjbaaGreatDoor

def volL : List Nat → Nat
  | [] => 1
  | n :: ls => (n + 1) * volL ls
def numL : List Nat → List Nat → Nat
  | _ :: ls, a :: v => a * volL ls + numL ls v
  | _, _ => 0
def atL : List Nat → Nat → List Nat
  | [], _ => []
  | n :: ls, p => (p / volL ls % (n + 1)) :: atL ls p
def stpL : List Nat → Nat → Nat
  | [], _ => 0
  | _ :: ls, 0 => volL ls
  | _ :: ls, s + 1 => stpL ls s
def InB : List Nat → List Nat → Prop
  | [], [] => True
  | n :: ls, a :: v => a ≤ n ∧ InB ls v
  | _, _ => False
theorem volL_pos : ∀ ls : List Nat, 0 < volL ls
  | [] => Nat.one_pos
  | n :: ls => Nat.mul_pos (Nat.succ_pos n) (volL_pos ls)
theorem InB.len : ∀ {ls v : List Nat}, InB ls v → v.length = ls.length
  | [], [], _ => rfl
  | n :: ls, a :: v, h => by simp [InB.len h.2]
  | [], a :: v, h => h.elim
  | n :: ls, [], h => h.elim
theorem numL_lt : ∀ {ls v : List Nat}, InB ls v → numL ls v < volL ls
  | [], [], _ => Nat.one_pos
  | n :: ls, a :: v, h => by
    have h1 := numL_lt h.2
    have h2 : a * volL ls ≤ n * volL ls := Nat.mul_le_mul_right _ h.1
    have h3 : (n + 1) * volL ls = n * volL ls + volL ls := by rw [Nat.add_mul, Nat.one_mul]
    show a * volL ls + numL ls v < (n + 1) * volL ls
    omega
  | [], a :: v, h => h.elim
  | n :: ls, [], h => h.elim
theorem atL_mod : ∀ (ls : List Nat) (p : Nat), atL ls (p % volL ls) = atL ls p
  | [], p => rfl
  | n :: ls, p => by
    show (p % ((n + 1) * volL ls) / volL ls % (n + 1)) :: atL ls (p % ((n + 1) * volL ls)) = (p / volL ls % (n + 1)) :: atL ls p
    have h1 : p % ((n + 1) * volL ls) / volL ls % (n + 1) = p / volL ls % (n + 1) := by
      rw [Nat.mod_mul_left_div_self, Nat.mod_mod]
    have h2 : atL ls (p % ((n + 1) * volL ls)) = atL ls p := by
      rw [← atL_mod ls (p % _), ← atL_mod ls p, Nat.mod_mul_left_mod]
    rw [h1, h2]
theorem atL_in : ∀ (ls : List Nat) (p : Nat), InB ls (atL ls p)
  | [], _ => trivial
  | n :: ls, p => ⟨Nat.le_of_lt_succ (Nat.mod_lt _ (Nat.succ_pos n)), atL_in ls p⟩
theorem atL_len (ls : List Nat) (p : Nat) : (atL ls p).length = ls.length := (atL_in ls p).len
theorem num_at : ∀ (ls : List Nat) (p : Nat), p < volL ls → numL ls (atL ls p) = p
  | [], p, h => by have : p < 1 := h; show 0 = p; omega
  | n :: ls, p, h => by
    show (p / volL ls % (n + 1)) * volL ls + numL ls (atL ls p) = p
    have hp := volL_pos ls
    have h1 : p / volL ls < n + 1 := (Nat.div_lt_iff_lt_mul hp).2 h
    rw [Nat.mod_eq_of_lt h1, ← atL_mod ls p, num_at ls _ (Nat.mod_lt _ hp)]
    exact Nat.div_add_mod' p (volL ls)
theorem at_num : ∀ {ls v : List Nat}, InB ls v → atL ls (numL ls v) = v
  | [], [], _ => rfl
  | n :: ls, a :: v, h => by
    have hp := volL_pos ls
    have h1 := numL_lt h.2
    show ((a * volL ls + numL ls v) / volL ls % (n + 1)) :: atL ls (a * volL ls + numL ls v) = a :: v
    have e1 : (a * volL ls + numL ls v) / volL ls = a := by
      rw [Nat.add_comm, Nat.add_mul_div_right _ _ hp, Nat.div_eq_of_lt h1, Nat.zero_add]
    have e2 : (a * volL ls + numL ls v) % volL ls = numL ls v := by
      rw [Nat.add_comm, Nat.add_mul_mod_self_right, Nat.mod_eq_of_lt h1]
    rw [e1, Nat.mod_eq_of_lt (Nat.lt_succ_of_le h.1), ← atL_mod ls (_ + _), e2, at_num h.2]
  | [], a :: v, h => h.elim
  | n :: ls, [], h => h.elim
theorem atL_get : ∀ {ls : List Nat} {s n : Nat} (p : Nat), ls[s]? = some n → (atL ls p)[s]? = some (p / stpL ls s % (n + 1))
  | m :: ls, 0, n, p, h => by
    simp at h; subst h; rfl
  | m :: ls, s + 1, n, p, h => by
    have := atL_get (ls := ls) (s := s) (n := n) p (by simpa using h)
    simpa [atL, stpL] using this
theorem num_set : ∀ {ls v : List Nat} {s : Nat}, v.length = ls.length → s < v.length → numL ls (v.set s (v.getD s 0 + 1)) = numL ls v + stpL ls s
  | n :: ls, a :: v, 0, _, _ => by
    show (a + 1) * volL ls + numL ls v = a * volL ls + numL ls v + volL ls
    rw [Nat.add_mul, Nat.one_mul]; omega
  | n :: ls, a :: v, s + 1, hl, hs => by
    have := num_set (ls := ls) (v := v) (s := s) (by simpa using hl) (by simpa using hs)
    show a * volL ls + numL ls (v.set s ((a :: v).getD (s + 1) 0 + 1)) = a * volL ls + numL ls v + stpL ls s
    rw [show (a :: v).getD (s + 1) 0 = v.getD s 0 by simp, this]; omega
  | [], a :: v, s, hl, _ => by simp at hl
theorem num_all : ∀ ls : List Nat, numL ls ls + 1 = volL ls
  | [] => rfl
  | n :: ls => by
    have := num_all ls
    show n * volL ls + numL ls ls + 1 = (n + 1) * volL ls
    rw [Nat.add_mul, Nat.one_mul]; omega
theorem InB.self : ∀ ls : List Nat, InB ls ls
  | [] => trivial
  | n :: ls => ⟨Nat.le_refl n, InB.self ls⟩
theorem InB.get : ∀ {ls v : List Nat}, InB ls v → ∀ s, v.getD s 0 ≤ ls.getD s 0
  | [], [], _, s => by simp
  | n :: ls, a :: v, h, 0 => h.1
  | n :: ls, a :: v, h, s + 1 => by simpa using InB.get h.2 s
  | [], a :: v, h, _ => h.elim
  | n :: ls, [], h, _ => h.elim
theorem InB.of : ∀ {ls v : List Nat}, v.length = ls.length → (∀ s, v.getD s 0 ≤ ls.getD s 0) → InB ls v
  | [], [], _, _ => trivial
  | n :: ls, a :: v, hl, h => ⟨h 0, InB.of (by simpa using hl) fun s => by simpa using h (s + 1)⟩
  | [], a :: v, hl, _ => by simp at hl
  | n :: ls, [], hl, _ => by simp at hl
theorem InB.some : ∀ {ls v : List Nat}, InB ls v → v ≠ ls → ∃ s, s < ls.length ∧ v.getD s 0 < ls.getD s 0
  | [], [], _, h => (h rfl).elim
  | n :: ls, a :: v, h, hne => by
    by_cases e : a = n
    · subst e
      obtain ⟨s, h1, h2⟩ := InB.some h.2 (fun e2 => hne (by rw [e2]))
      exact ⟨s + 1, by simp; omega, by simpa using h2⟩
    · exact ⟨0, by simp, by have := h.1; show a < n; omega⟩
  | [], a :: v, h, _ => h.elim
  | n :: ls, [], h, _ => h.elim
def sumL : List Nat → Nat
  | [] => 0
  | n :: ls => n + sumL ls
theorem sumL_le : ∀ {ls v : List Nat}, InB ls v → sumL v ≤ sumL ls
  | [], [], _ => Nat.le_refl _
  | n :: ls, a :: v, h => by have := sumL_le h.2; have := h.1; show a + sumL v ≤ n + sumL ls; omega
  | [], a :: v, h => h.elim
  | n :: ls, [], h => h.elim
theorem sumL_set : ∀ {v : List Nat} {s : Nat}, s < v.length → sumL (v.set s (v.getD s 0 + 1)) = sumL v + 1
  | a :: v, 0, _ => by show a + 1 + sumL v = a + sumL v + 1; omega
  | a :: v, s + 1, h => by
    have := sumL_set (v := v) (s := s) (by simpa using h)
    show a + sumL (v.set s ((a :: v).getD (s + 1) 0 + 1)) = a + sumL v + 1
    rw [show (a :: v).getD (s + 1) 0 = v.getD s 0 by simp, this]; omega
def toM (v : List Nat) : List Nat → List Nat
  | [] => v
  | s :: m => toM (v.set s (v.getD s 0 + 1)) m
theorem toM_len : ∀ (m v : List Nat), (toM v m).length = v.length
  | [], v => rfl
  | s :: m, v => by unfold toM; rw [toM_len m, List.length_set]
theorem set_other {v : List Nat} {s u x : Nat} (h : s ≠ u) : (v.set s x).getD u 0 = v.getD u 0 := by
  rw [List.getD_eq_getElem?_getD, List.getElem?_set_ne h, ← List.getD_eq_getElem?_getD]
theorem set_self {v : List Nat} {s x : Nat} (h : s < v.length) : (v.set s x).getD s 0 = x := by
  rw [List.getD_eq_getElem?_getD, List.getElem?_set_self h]; rfl
theorem toM_get : ∀ (m v : List Nat), m.Nodup → (∀ s ∈ m, s < v.length) → ∀ s, (toM v m).getD s 0 = v.getD s 0 + if s ∈ m then 1 else 0
  | [], v, _, _, s => by simp [toM]
  | u :: m, v, hd, hl, s => by
    have hu := List.nodup_cons.1 hd
    unfold toM
    rw [toM_get m _ hu.2 (fun s hs => by rw [List.length_set]; exact hl s (.tail _ hs)) s]
    by_cases e : u = s
    · subst e
      rw [set_self (hl u (.head _)), if_neg hu.1, if_pos (.head _)]
    · rw [set_other e]
      have : (s ∈ u :: m) ↔ s ∈ m := by rw [List.mem_cons]; exact ⟨fun h => h.resolve_left (fun h => e h.symm), .inr⟩
      simp only [this]
theorem toM_num : ∀ (ls m v : List Nat), v.length = ls.length → (∀ s ∈ m, s < v.length) → numL ls (toM v m) = numL ls v + (m.map (stpL ls)).sum
  | ls, [], v, _, _ => by simp [toM]
  | ls, s :: m, v, hl, hm => by
    unfold toM
    rw [toM_num ls m _ (by rw [List.length_set]; exact hl) (fun s hs => by rw [List.length_set]; exact hm s (.tail _ hs)), num_set hl (hm s (.head _)), List.map_cons, List.sum_cons]
    omega
theorem toM_sum : ∀ (m v : List Nat), (∀ s ∈ m, s < v.length) → sumL (toM v m) = sumL v + m.length
  | [], v, _ => by simp [toM]
  | s :: m, v, hm => by
    unfold toM
    rw [toM_sum m _ (fun s hs => by rw [List.length_set]; exact hm s (.tail _ hs)), sumL_set (hm s (.head _)), List.length_cons]
    omega
theorem toM_in {ls v m : List Nat} (h : InB ls v) (hd : m.Nodup) (hm : ∀ s ∈ m, s < ls.length ∧ v.getD s 0 < ls.getD s 0) : InB ls (toM v m) := by
  have hlen := h.len
  refine InB.of (by rw [toM_len, hlen]) fun s => ?_
  rw [toM_get m v hd (fun s hs => by rw [hlen]; exact (hm s hs).1) s]
  have h1 := h.get s
  split
  · rename_i hs; have := (hm s hs).2; omega
  · omega
end Go.Proofs.YtofikdpbagnjbaaGreatDoor
namespace Go.Proofs.YtofikdpbagnjbaaGreatDoor

def possM (ls v m : List Nat) : Bool := m.all fun s => decide (v.getD s 0 < ls.getD s 0)
theorem possM_iff {ls v m : List Nat} : possM ls v m = true ↔ ∀ s ∈ m, v.getD s 0 < ls.getD s 0 := by unfold possM; rw [List.all_eq_true]; simp
def colMv (v : List Nat) : List Nat → List Int → List Int
  | [], c => c
  | s :: m, c => colMv v m (c.set s (v.getD s 0 : Nat))
def colT (v m : List Nat) : List Int := colMv v m (List.replicate v.length (-1))
theorem colMv_len (v : List Nat) : ∀ (m : List Nat) (c : List Int), (colMv v m c).length = c.length
  | [], c => rfl
  | s :: m, c => by unfold colMv; rw [colMv_len v m, List.length_set]
theorem colT_len (v m : List Nat) : (colT v m).length = v.length := by unfold colT; rw [colMv_len, List.length_replicate]
theorem colMv_get (v : List Nat) : ∀ (m : List Nat) (c : List Int) (s : Nat), s < c.length → (colMv v m c).getD s (-1) = if s ∈ m then ((v.getD s 0 : Nat) : Int) else c.getD s (-1)
  | [], c, s, _ => by simp [colMv]
  | u :: m, c, s, h => by
    unfold colMv
    rw [colMv_get v m _ s (by rw [List.length_set]; exact h)]
    by_cases h1 : s ∈ m
    · rw [if_pos h1, if_pos (List.mem_cons_of_mem _ h1)]
    · rw [if_neg h1]
      by_cases e : u = s
      · subst e
        rw [if_pos List.mem_cons_self, List.getD_eq_getElem?_getD, List.getElem?_set_self h]; rfl
      · rw [if_neg (by rw [List.mem_cons]; rintro (h | h); exact e h.symm; exact h1 h), List.getD_eq_getElem?_getD, List.getElem?_set_ne e, ← List.getD_eq_getElem?_getD]
theorem colT_get {v m : List Nat} {s : Nat} (h : s < v.length) : (colT v m).getD s (-1) = if s ∈ m then ((v.getD s 0 : Nat) : Int) else -1 := by
  unfold colT
  rw [colMv_get v m _ s (by rw [List.length_replicate]; exact h)]
  simp [List.getD_eq_getElem?_getD, List.getElem?_replicate, h]
structure MvsOk (n : Nat) (Ms : List (List Nat)) : Prop where
  nd : ∀ m ∈ Ms, m.Nodup
  lt : ∀ m ∈ Ms, ∀ s ∈ m, s < n
  ne : ∀ m ∈ Ms, m ≠ []
  one : ∀ s, s < n → [s] ∈ Ms
def foldB (p : List Nat → Bool) (f : List Nat → Int) : List (List Nat) → Int → Int
  | [], a => a
  | m :: ms, a => foldB p f ms (cond (p m) (bst a (f m)) a)
theorem foldB_app (p : List Nat → Bool) (f : List Nat → Int) : ∀ (ms ks : List (List Nat)) (a : Int), foldB p f (ms ++ ks) a = foldB p f ks (foldB p f ms a)
  | [], ks, a => rfl
  | m :: ms, ks, a => foldB_app p f ms ks _
theorem foldB_congr {p : List Nat → Bool} {f g : List Nat → Int} : ∀ {ms : List (List Nat)} {a : Int}, (∀ m ∈ ms, p m = true → f m = g m) → foldB p f ms a = foldB p g ms a
  | [], a, _ => rfl
  | m :: ms, a, h => by
    show foldB p f ms _ = foldB p g ms _
    rw [foldB_congr (a := cond (p m) (bst a (f m)) a) fun k hk => h k (.tail _ hk)]
    cases hp : p m with
    | true => rw [h m (.head _) hp]
    | false => rfl
theorem foldB_none {p : List Nat → Bool} {f : List Nat → Int} : ∀ {ms : List (List Nat)} {a : Int}, (∀ m ∈ ms, p m = false) → foldB p f ms a = a
  | [], a, _ => rfl
  | m :: ms, a, h => by
    show foldB p f ms (cond (p m) _ _) = a
    rw [h m (.head _)]
    exact foldB_none fun k hk => h k (.tail _ hk)
theorem bst_le {a x : Int} : (0 ≤ a → bst a x ≤ a) ∧ bst a x ≤ max a x := by unfold bst; split <;> omega
theorem foldB_spec {p : List Nat → Bool} {f : List Nat → Int} (hf : ∀ m, 0 ≤ f m) : ∀ (ms : List (List Nat)) (a : Int), -1 ≤ a → -1 ≤ foldB p f ms a ∧ (0 ≤ a → 0 ≤ foldB p f ms a ∧ foldB p f ms a ≤ a) ∧ (∀ m ∈ ms, p m = true → 0 ≤ foldB p f ms a ∧ foldB p f ms a ≤ f m) ∧ (foldB p f ms a = a ∨ ∃ m ∈ ms, p m = true ∧ foldB p f ms a = f m)
  | [], a, ha => ⟨ha, fun h => ⟨h, Int.le_refl _⟩, fun m hm => (by cases hm), .inl rfl⟩
  | m :: ms, a, ha => by
    have hfm := hf m
    have hb : -1 ≤ bst a (f m) ∧ 0 ≤ bst a (f m) ∧ bst a (f m) ≤ f m ∧ (0 ≤ a → bst a (f m) ≤ a) ∧ (bst a (f m) = a ∨ bst a (f m) = f m) := by unfold bst; split <;> omega
    show -1 ≤ foldB p f ms (cond (p m) (bst a (f m)) a) ∧ (0 ≤ a → 0 ≤ foldB p f ms (cond (p m) (bst a (f m)) a) ∧ foldB p f ms (cond (p m) (bst a (f m)) a) ≤ a) ∧ (∀ k ∈ m :: ms, p k = true → 0 ≤ foldB p f ms (cond (p m) (bst a (f m)) a) ∧ foldB p f ms (cond (p m) (bst a (f m)) a) ≤ f k) ∧ (foldB p f ms (cond (p m) (bst a (f m)) a) = a ∨ ∃ k ∈ m :: ms, p k = true ∧ foldB p f ms (cond (p m) (bst a (f m)) a) = f k)
    cases hp : p m with
    | false =>
      obtain ⟨h1, h2, h3, h4⟩ := foldB_spec hf ms a ha
      refine ⟨h1, h2, fun k hk hpk => ?_, h4.imp id fun ⟨k, hk, h5⟩ => ⟨k, .tail _ hk, h5⟩⟩
      rcases List.mem_cons.1 hk with rfl | hk
      · rw [hp] at hpk; cases hpk
      · exact h3 k hk hpk
    | true =>
      obtain ⟨h1, h2, h3, h4⟩ := foldB_spec hf ms (bst a (f m)) hb.1
      have h5 := h2 hb.2.1
      refine ⟨h1, fun h => ⟨h5.1, Int.le_trans h5.2 (hb.2.2.2.1 h)⟩, fun k hk hpk => ?_, ?_⟩
      · rcases List.mem_cons.1 hk with rfl | hk
        · exact ⟨h5.1, Int.le_trans h5.2 hb.2.2.1⟩
        · exact h3 k hk hpk
      · rcases h4 with h4 | ⟨k, hk, h6⟩
        · rcases hb.2.2.2.2 with h7 | h7
          · exact .inl (h4.trans h7)
          · exact .inr ⟨m, .head _, hp, h4.trans h7⟩
        · exact .inr ⟨k, .tail _ hk, h6⟩
def rsM (K : List Int → Int) (ls : List Nat) (Ms : List (List Nat)) : Nat → List Nat → Int
  | 0, _ => 0
  | f + 1, v => max (foldB (possM ls v) (fun m => K (colT v m) + rsM K ls Ms f (toM v m)) Ms (-1)) 0
def rsV (K : List Int → Int) (ls : List Nat) (Ms : List (List Nat)) (v : List Nat) : Int := rsM K ls Ms (sumL ls - sumL v) v
theorem rsM_nn (K : List Int → Int) (ls : List Nat) (Ms : List (List Nat)) : ∀ f v, 0 ≤ rsM K ls Ms f v
  | 0, _ => Int.le_refl _
  | f + 1, v => by unfold rsM; omega
theorem toM_rem {ls v m : List Nat} {n : Nat} {Ms : List (List Nat)} (hM : MvsOk n Ms) (hn : ls.length = n) (hv : InB ls v) (hm : m ∈ Ms) (hp : possM ls v m = true) : InB ls (toM v m) ∧ sumL v + m.length = sumL (toM v m) ∧ 0 < m.length ∧ sumL (toM v m) ≤ sumL ls := by
  have h1 := hM.lt m hm
  have h2 := possM_iff.1 hp
  have hi := toM_in hv (hM.nd m hm) fun s hs => ⟨by rw [hn]; exact h1 s hs, h2 s hs⟩
  exact ⟨hi, (toM_sum m v fun s hs => by rw [hv.len, hn]; exact h1 s hs).symm, List.length_pos_iff.2 (hM.ne m hm), sumL_le hi⟩
theorem rsM_fuel (K : List Int → Int) {ls : List Nat} {n : Nat} {Ms : List (List Nat)} (hM : MvsOk n Ms) (hn : ls.length = n) : ∀ f v, InB ls v → sumL ls - sumL v ≤ f → ∀ g, sumL ls - sumL v ≤ g → rsM K ls Ms f v = rsM K ls Ms g v := by
  have none0 : ∀ v, InB ls v → sumL ls - sumL v = 0 → ∀ m ∈ Ms, possM ls v m = false := fun v hv h0 m hm => by
    cases hp : possM ls v m with
    | false => rfl
    | true =>
      obtain ⟨h1, h2, h3, h4⟩ := toM_rem hM hn hv hm hp
      omega
  intro f
  induction f with
  | zero =>
    intro v hv h0 g hg
    cases g with
    | zero => rfl
    | succ g =>
      show 0 = max (foldB _ _ Ms (-1)) 0
      rw [foldB_none (none0 v hv (by omega))]; rfl
  | succ f ih =>
    intro v hv hf g hg
    cases g with
    | zero =>
      show max (foldB _ _ Ms (-1)) 0 = 0
      rw [foldB_none (none0 v hv (by omega))]; rfl
    | succ g =>
      show max (foldB _ _ Ms (-1)) 0 = max (foldB _ _ Ms (-1)) 0
      rw [foldB_congr fun m hm hp => ?_]
      obtain ⟨h1, h2, h3, h4⟩ := toM_rem hM hn hv hm hp
      rw [ih (toM v m) h1 (by omega) g (by omega)]
theorem rsV_nn (K : List Int → Int) (ls : List Nat) (Ms : List (List Nat)) (v : List Nat) : 0 ≤ rsV K ls Ms v := rsM_nn _ _ _ _ _
theorem rsV_end (K : List Int → Int) (ls : List Nat) (Ms : List (List Nat)) : rsV K ls Ms ls = 0 := by unfold rsV; rw [Nat.sub_self]; rfl
theorem eq_of_sum : ∀ {ls v : List Nat}, InB ls v → sumL ls ≤ sumL v → v = ls
  | [], [], _, _ => rfl
  | n :: ls, a :: v, h, hs => by
    have h1 := sumL_le h.2
    have h2 := h.1
    have h3 : n + sumL ls ≤ a + sumL v := hs
    rw [eq_of_sum h.2 (by omega), show a = n by omega]
  | [], a :: v, h, _ => h.elim
  | n :: ls, [], h, _ => h.elim
def mcV (K : List Int → Int) (ls : List Nat) (Ms : List (List Nat)) (v m : List Nat) : Int := K (colT v m) + rsV K ls Ms (toM v m)
theorem rsV_step {K : List Int → Int} (hK : ∀ x, 0 ≤ K x) {ls : List Nat} {n : Nat} {Ms : List (List Nat)} (hM : MvsOk n Ms) (hn : ls.length = n) {v : List Nat} (hv : InB ls v) (hne : v ≠ ls) :
    rsV K ls Ms v = foldB (possM ls v) (mcV K ls Ms v) Ms (-1) := by
  have hs : sumL v < sumL ls := Nat.lt_of_not_le fun h => hne (eq_of_sum hv h)
  obtain ⟨f, hf⟩ : ∃ f, sumL ls - sumL v = f + 1 := ⟨sumL ls - sumL v - 1, by omega⟩
  unfold rsV
  rw [hf]
  show max (foldB _ _ Ms (-1)) 0 = _
  rw [foldB_congr (g := mcV K ls Ms v) fun m hm hp => ?_]
  · obtain ⟨s, hs1, hs2⟩ := hv.some hne
    have h0 : ∀ m, 0 ≤ mcV K ls Ms v m := fun m => by have := hK (colT v m); have := rsV_nn K ls Ms (toM v m); unfold mcV; omega
    have := ((foldB_spec (p := possM ls v) h0 Ms (-1) (by omega)).2.2.1 [s] (hM.one s (by omega)) (possM_iff.2 fun u hu => by rw [List.mem_singleton] at hu; subst hu; exact hs2)).1
    omega
  · obtain ⟨h1, h2, h3, h4⟩ := toM_rem hM hn hv hm hp
    show K (colT v m) + _ = K (colT v m) + rsM K ls Ms (sumL ls - sumL (toM v m)) (toM v m)
    rw [rsM_fuel K hM hn f (toM v m) h1 (by omega) (sumL ls - sumL (toM v m)) (by omega)]
theorem mcV_nn {K : List Int → Int} (hK : ∀ x, 0 ≤ K x) (ls : List Nat) (Ms : List (List Nat)) (v m : List Nat) : 0 ≤ mcV K ls Ms v m := by
  have := hK (colT v m); have := rsV_nn K ls Ms (toM v m); unfold mcV; omega
def fitM (K : List Int → Int) (ls : List Nat) (Ms : List (List Nat)) (v m : List Nat) : Bool := possM ls v m && decide (mcV K ls Ms v m = rsV K ls Ms v)
def alM (K : List Int → Int) (ls : List Nat) (Ms : List (List Nat)) : Nat → List Nat → List (List Int)
  | 0, _ => []
  | f + 1, v => match Ms.find? (fitM K ls Ms v) with
    | some m => colT v m :: alM K ls Ms f (toM v m)
    | none => []
def alV19 (K : List Int → Int) (ls : List Nat) (Ms : List (List Nat)) (v : List Nat) : List (List Int) := alM K ls Ms (sumL ls - sumL v) v
theorem fit_some {K : List Int → Int} (hK : ∀ x, 0 ≤ K x) {ls : List Nat} {n : Nat} {Ms : List (List Nat)} (hM : MvsOk n Ms) (hn : ls.length = n) {v : List Nat} (hv : InB ls v) (hne : v ≠ ls) :
    ∃ m, Ms.find? (fitM K ls Ms v) = some m ∧ m ∈ Ms ∧ possM ls v m = true ∧ mcV K ls Ms v m = rsV K ls Ms v := by
  have hst := rsV_step hK hM hn hv hne
  obtain ⟨s, hs1, hs2⟩ := hv.some hne
  have h0 := mcV_nn hK ls Ms v
  obtain ⟨-, -, h3, h4⟩ := foldB_spec (p := possM ls v) h0 Ms (-1) (by omega)
  have h5 := (h3 [s] (hM.one s (by omega)) (possM_iff.2 fun u hu => by rw [List.mem_singleton] at hu; subst hu; exact hs2)).1
  rcases h4 with h4 | ⟨m, hm, hp, he⟩
  · omega
  · have hfit : fitM K ls Ms v m = true := by unfold fitM; rw [hp, hst, he]; simp
    cases hf : Ms.find? (fitM K ls Ms v) with
    | none => exact absurd hfit (by have := List.find?_eq_none.1 hf m hm; simpa using this)
    | some k =>
      have h6 := List.find?_some hf
      unfold fitM at h6
      rw [Bool.and_eq_true, decide_eq_true_eq] at h6
      exact ⟨k, rfl, List.mem_of_find?_eq_some hf, h6.1, h6.2⟩
theorem alM_fuel (K : List Int → Int) {ls : List Nat} {n : Nat} {Ms : List (List Nat)} (hM : MvsOk n Ms) (hn : ls.length = n) : ∀ f v, InB ls v → sumL ls - sumL v ≤ f → ∀ g, sumL ls - sumL v ≤ g → alM K ls Ms f v = alM K ls Ms g v := by
  have none0 : ∀ v, InB ls v → sumL ls - sumL v = 0 → ∀ m ∈ Ms, fitM K ls Ms v m = false := fun v hv h0 m hm => by
    cases hp : fitM K ls Ms v m with
    | false => rfl
    | true =>
      unfold fitM at hp
      rw [Bool.and_eq_true] at hp
      obtain ⟨h1, h2, h3, h4⟩ := toM_rem hM hn hv hm hp.1
      omega
  have nf : ∀ v, InB ls v → sumL ls - sumL v = 0 → Ms.find? (fitM K ls Ms v) = none := fun v hv h0 => List.find?_eq_none.2 fun m hm => by rw [none0 v hv h0 m hm]; simp
  intro f
  induction f with
  | zero =>
    intro v hv h0 g hg
    cases g with
    | zero => rfl
    | succ g => unfold alM; rw [nf v hv (by omega)]
  | succ f ih =>
    intro v hv hf g hg
    cases g with
    | zero => unfold alM; rw [nf v hv (by omega)]
    | succ g =>
      unfold alM
      cases hF : Ms.find? (fitM K ls Ms v) with
      | none => rfl
      | some m =>
        have h6 := List.find?_some hF
        unfold fitM at h6
        rw [Bool.and_eq_true] at h6
        obtain ⟨h1, h2, h3, h4⟩ := toM_rem hM hn hv (List.mem_of_find?_eq_some hF) h6.1
        simp only
        rw [ih (toM v m) h1 (by omega) g (by omega)]
theorem alV_step {K : List Int → Int} {ls : List Nat} {n : Nat} {Ms : List (List Nat)} (hM : MvsOk n Ms) (hn : ls.length = n) {v m : List Nat} (hv : InB ls v) (hf : Ms.find? (fitM K ls Ms v) = some m) : alV19 K ls Ms v = colT v m :: alV19 K ls Ms (toM v m) := by
  have h6 := List.find?_some hf
  unfold fitM at h6
  rw [Bool.and_eq_true] at h6
  obtain ⟨h1, h2, h3, h4⟩ := toM_rem hM hn hv (List.mem_of_find?_eq_some hf) h6.1
  obtain ⟨f, hf2⟩ : ∃ f, sumL ls - sumL v = f + 1 := ⟨sumL ls - sumL v - 1, by omega⟩
  unfold alV19
  rw [hf2, alM, hf]
  simp only
  rw [alM_fuel K hM hn f (toM v m) h1 (by omega) (sumL ls - sumL (toM v m)) (by omega)]
theorem alV_end (K : List Int → Int) (ls : List Nat) (Ms : List (List Nat)) : alV19 K ls Ms ls = [] := by unfold alV19; rw [Nat.sub_self]; rfl
def RestOk (ls v : List Nat) (cols : List (List Int)) : Prop := (∀ x ∈ cols, x.length = ls.length) ∧ (∀ x ∈ cols, ∃ z ∈ x, z ≠ -1) ∧ ∀ s n, ls[s]? = some n → srcC cols s = (upto n).drop (v.getD s 0)
theorem RestOk.cons {ls v m : List Nat} {cols : List (List Int)} (hv : InB ls v) (hm : m ≠ []) (hd : m.Nodup) (hlt : ∀ s ∈ m, s < ls.length) (hp : possM ls v m = true) (h : RestOk ls (toM v m) cols) : RestOk ls v (colT v m :: cols) := by
  have hlen := hv.len
  obtain ⟨h1, h2, h3⟩ := h
  refine ⟨fun x hx => ?_, fun x hx => ?_, fun s n hs => ?_⟩
  · rcases List.mem_cons.1 hx with rfl | hx
    · rw [colT_len, hlen]
    · exact h1 x hx
  · rcases List.mem_cons.1 hx with rfl | hx
    · obtain ⟨s, ms, rfl⟩ := List.exists_cons_of_ne_nil hm
      have hs : s < v.length := by rw [hlen]; exact hlt s (.head _)
      have hg := colT_get (m := s :: ms) hs
      rw [if_pos List.mem_cons_self] at hg
      refine ⟨_, ?_, show ((v.getD s 0 : Nat) : Int) ≠ -1 by omega⟩
      rw [← hg, List.getD_eq_getElem?_getD, List.getElem?_eq_getElem (by rw [colT_len]; exact hs)]
      exact List.getElem_mem _
    · exact h2 x hx
  · have hsl : s < ls.length := (List.getElem?_eq_some_iff.1 hs).1
    rw [srcC_cons, h3 s n hs, colT_get (by rw [hlen]; exact hsl), toM_get m v hd (fun u hu => by rw [hlen]; exact hlt u hu)]
    by_cases hsm : s ∈ m
    · rw [if_pos hsm, if_pos hsm, if_neg (by omega)]
      have := possM_iff.1 hp s hsm
      rw [List.getD_eq_getElem?_getD (l := ls), hs] at this
      rw [upto_drop (show v.getD s 0 < n from this)]; rfl
    · rw [if_neg hsm, if_neg hsm, if_pos rfl]; rfl
theorem RestOk.nil (ls : List Nat) : RestOk ls ls [] := ⟨fun x h => (by cases h), fun x h => (by cases h), fun s n hs => by
  rw [List.getD_eq_getElem?_getD, hs]
  show [] = (upto n).drop n
  rw [List.drop_of_length_le (by rw [upto_len]; exact Nat.le_refl _)]⟩
theorem alV_rest {K : List Int → Int} (hK : ∀ x, 0 ≤ K x) {ls : List Nat} {n : Nat} {Ms : List (List Nat)} (hM : MvsOk n Ms) (hn : ls.length = n) : ∀ f v, InB ls v → sumL ls - sumL v = f → RestOk ls v (alV19 K ls Ms v) ∧ ((alV19 K ls Ms v).map K).sum = rsV K ls Ms v ∧ (alV19 K ls Ms v).length ≤ f := by
  intro f
  induction f using Nat.strongRecOn with
  | _ f ih =>
    intro v hv hf
    by_cases he : v = ls
    · subst he
      rw [alV_end, rsV_end]
      exact ⟨RestOk.nil _, rfl, Nat.zero_le _⟩
    · obtain ⟨m, h1, hm, hp, hc⟩ := fit_some hK hM hn hv he
      obtain ⟨g1, g2, g3, g4⟩ := toM_rem hM hn hv hm hp
      obtain ⟨i1, i2, i3⟩ := ih (sumL ls - sumL (toM v m)) (by omega) (toM v m) g1 rfl
      rw [alV_step hM hn hv h1]
      refine ⟨RestOk.cons hv (hM.ne m hm) (hM.nd m hm) (fun s hs => by rw [hn]; exact hM.lt m hm s hs) hp i1, ?_, ?_⟩
      · rw [List.map_cons, List.sum_cons, i2]; exact hc
      · rw [List.length_cons]; omega
theorem RestOk.colsOk {ls : List Nat} {cols : List (List Int)} : RestOk ls (List.replicate ls.length 0) cols ↔ ColsOk ls cols := by
  have e : ∀ s, (List.replicate ls.length 0).getD s 0 = 0 := fun s => by
    rw [List.getD_eq_getElem?_getD, List.getElem?_replicate]; split <;> rfl
  constructor
  · rintro ⟨h1, h2, h3⟩
    exact ⟨h1, h2, fun s n hs => by rw [h3 s n hs, e, List.drop_zero]⟩
  · rintro ⟨h1, h2, h3⟩
    exact ⟨h1, h2, fun s n hs => by rw [h3 s n hs, e, List.drop_zero]⟩
theorem InB.zero : ∀ ls : List Nat, InB ls (List.replicate ls.length 0)
  | [] => trivial
  | n :: ls => ⟨Nat.zero_le _, InB.zero ls⟩
end Go.Proofs.YtofikdpbagnjbaaGreatDoor
