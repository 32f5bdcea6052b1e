/- The engine, eighth part: slices that the call makes and appends to; literals. It speaks of any program. -/
import Derived.Test.YtiglobijdegjdaaDoorEngG
import Derived.Maps.AppendAt
import Derived.Laws.OwnMore
import Derived.Laws.MakeOwn
import Derived.Great.FillDense
namespace Go.Proofs.YtiglobijdegjdaaDoor
open Go.RowKit Go.Shelf

/-- One entry's blocks turn. -/
theorem Sep.swap {n0 : Nat} {w w' : World} {H : List HA} {k : Nat} {A A' : HA} (h : Sep n0 w H) (hk : H[k]? = some A)
    (step : ∀ f, A f → (∀ b o, f b = some o → n0 ≤ b ∧ w.heap[b]? = some o) → ∃ f', A' f' ∧ (∀ b o, f' b = some o → n0 ≤ b ∧ w'.heap[b]? = some o ∧ (f b ≠ none ∨ w.heap.size ≤ b)) ∧
      (∀ c, c < w.heap.size → f c = none → w'.heap[c]? = w.heap[c]?)) : Sep n0 w' (H.set k A') := by
  obtain ⟨F, h1, h2, h3⟩ := h
  have hkl : k < H.length := (List.getElem?_eq_some_iff.1 hk).1
  obtain ⟨f', g1, g2, g3⟩ := step (F k) (h1 k A hk) (fun b o hf => h2 k b o hkl hf)
  have apart : ∀ j b, j < H.length → j ≠ k → f' b = none ∨ F j b = none := by
    intro j b hj hne
    cases hf : f' b with
    | none => exact .inl rfl
    | some o =>
      right
      rcases (g2 b o hf).2.2 with h | h
      · exact (h3 j k b hj hkl hne).resolve_right h
      · cases hg : F j b with
        | none => rfl
        | some o' => have := lt_of_heap (h2 j b o' hj hg).2; omega
  refine ⟨fun i => if i = k then f' else F i, fun i B hi => ?_, fun i c o' hi hf => ?_, fun i j c hi hj hne => ?_⟩
  · dsimp only
    by_cases e : i = k
    · subst e; rw [if_pos rfl]; rw [List.getElem?_set_self hkl] at hi; injection hi with hi; subst hi; exact g1
    · rw [if_neg e]; rw [List.getElem?_set_ne (Ne.symm e)] at hi; exact h1 i B hi
  · dsimp only at hf
    rw [List.length_set] at hi
    by_cases e : i = k
    · subst e; rw [if_pos rfl] at hf; exact ⟨(g2 c o' hf).1, (g2 c o' hf).2.1⟩
    · rw [if_neg e] at hf
      have := h2 i c o' hi hf
      refine ⟨this.1, (g3 c (lt_of_heap this.2) ?_).trans this.2⟩
      rcases h3 i k c hi hkl e with h | h
      · rw [hf] at h; cases h
      · exact h
  · rw [List.length_set] at hi hj
    dsimp only
    by_cases e : i = k
    · subst e; rw [if_pos rfl, if_neg (Ne.symm hne)]; exact apart j c hj (Ne.symm hne)
    · rw [if_neg e]
      by_cases e2 : j = k
      · subst e2; rw [if_pos rfl]; exact (apart i c hi e).symm
      · rw [if_neg e2]; exact h3 i j c hi hj hne

/-- A slice of the call's own that it appends to: '.slice A n cap'; its elements' cells. -/
def row (e : TypeId) (sz : Nat) (A : Option Addr) (cap n : Nat) (xs : List Value) : HA := fun f =>
  xs.length = n * sz ∧ ((A = none ∧ cap = 0 ∧ n = 0 ∧ f = fun _ => none) ∨
    ∃ g cur, A = some ⟨g, 0, none⟩ ∧ f = one g (.cells cur e (0, 0)) ∧ n ≤ cap ∧ cap ≤ maxLen ∧ cur.size = cap * sz ∧ cur.toList.take (n * sz) = xs)
class FocusR (H : List HA) (A : Option Addr) (e sz cap n : outParam Nat) (xs : outParam (List Value)) (rb : outParam (HA → List HA)) : Prop where
  at_ : ∃ i, H[i]? = some (row e sz A cap n xs) ∧ ∀ B, rb B = H.set i B
instance FocusR.head (H : List HA) (A : Option Addr) (e sz cap n : Nat) (xs : List Value) : FocusR (row e sz A cap n xs :: H) A e sz cap n xs (fun B => B :: H) := ⟨0, rfl, fun _ => rfl⟩
instance FocusR.tail (A0 : HA) (H : List HA) (A : Option Addr) (e sz cap n : Nat) (xs : List Value) (rb : HA → List HA) [h : FocusR H A e sz cap n xs rb] : FocusR (A0 :: H) A e sz cap n xs (fun B => A0 :: rb B) :=
  ⟨by obtain ⟨i, h1, h2⟩ := h.at_; exact ⟨i + 1, by simpa using h1, fun B => by simp [h2]⟩⟩
theorem row.own {n0 : Nat} {w : World} {f : Frag} {e : TypeId} {sz cap n : Nat} {A : Option Addr} {xs : List Value} (h : row e sz A cap n xs f) (hf : ∀ b o, f b = some o → n0 ≤ b ∧ w.heap[b]? = some o) :
    w.ownsRow n0 e sz (.slice A n cap) n xs := by
  obtain ⟨h1, h2⟩ := h
  refine ⟨h1, ?_⟩
  rcases h2 with ⟨rfl, rfl, rfl, _⟩ | ⟨g, cur, rfl, rfl, h3, h4, h5, h6⟩
  · exact .inl ⟨rfl, rfl⟩
  · have := hf g (.cells cur e (0, 0)) (by simp [one])
    exact .inr ⟨g, cap, cur, rfl, this.1, this.2, h3, h4, h5, h6⟩
theorem row.of_own {n0 : Nat} {w : World} {e : TypeId} {sz n : Nat} {v : Value} {xs : List Value} (h : w.ownsRow n0 e sz v n xs) :
    ∃ A cap, v = .slice A n cap ∧ ∃ f, row e sz A cap n xs f ∧ (∀ b o, f b = some o → n0 ≤ b ∧ w.heap[b]? = some o ∧ v.ownBlock = some b) := by
  obtain ⟨h1, h2⟩ := h
  rcases h2 with ⟨rfl, rfl⟩ | ⟨g, cap, cur, rfl, h3, h4, h5, h6, h7, h8⟩
  · exact ⟨none, 0, rfl, fun _ => none, ⟨h1, .inl ⟨rfl, rfl, rfl, rfl⟩⟩, fun b o h => by cases h⟩
  · refine ⟨some ⟨g, 0, none⟩, cap, rfl, one g (.cells cur e (0, 0)), ⟨h1, .inr ⟨g, cur, rfl, rfl, h5, h6, h7, h8⟩⟩, fun b o h => ?_⟩
    simp only [one] at h
    split at h
    · rename_i e; subst e; injection h with h; subst h; exact ⟨h3, h4, rfl⟩
    · cases h

/-- The cells of what is appended. -/
def Src (w : World) (sz : Nat) (A : Option Addr) (m : Nat) (news : List Value) : Prop := news.length = m * sz ∧ (0 < m → isAt A ∧ RdC w (bk A) (ofs A) news)
def evApp (S : Sig) (env : Env) (ec : EnvC) (o : Oper) : Option (Option Addr × Nat × Nat × Option Addr × Nat × TypeId) :=
  match o.op with
  | .call { callee := .builtin .append, args := xs, argTypes := ts } => match evL env ec [] xs.toList, ts.toList with
    | some [.slice A n c, .slice B m _], [t, u] => match S.ty t with
      | some ⟨.slice e, _, _, _⟩ => cond (Nat.beq t u) (some (A, n, c, B, m, e)) none
      | _ => none
    | _, _ => none
  | _ => none
theorem run_append_nil (P : Program) (w : World) (base : Nat) (t ty e : TypeId) (i : TypeInfo) (size : Nat) (ht : P.underlying t = some (.slice e)) (hi : P.info? e = some i)
    (v : Value) (n : Nat) (xs : List Value) (hown : w.ownsRow base e size v n xs) (c : Nat) : (Builtin.append_ #[t, t] ty #[v, .slice none 0 c]).run P w = .ok v w := by
  rcases hown.2 with ⟨rfl, rfl⟩ | ⟨g, cap, cur, rfl, _, _, hnc, _⟩
  · simp [Builtin.append_, run_underlying ht, sizeOf, typeInfo, hi, Builtin.lenOf, Builtin.firstCells]
  · simp [Builtin.append_, run_underlying ht, sizeOf, typeInfo, hi, Builtin.lenOf, Builtin.firstCells, hnc, storeCells]
section
variable {C : Cx} {all : Array Oper} {o : Oper} {env : Env} {ec : EnvC} {H : List HA} {d : Nat} {Φ : Env → EnvC → List HA → Prop}
theorem OpT.append {A B : Option Addr} {n c m : Nat} {e : TypeId} {ty : TyI} {sz cap : Nat} {xs news : List Value} {rb : HA → List HA} (hg : gOf all env ec o = some []) (he : evApp C.S env ec o = some (A, n, c, B, m, e)) (hd : o.dst = some d) (hN : Nat.blt d C.N.n = true) (hs : safeC all d ec = true)
    [hf : FocusR H A e sz cap n xs rb] (hcap : c = cap) (ht : C.S.ty e = some ty) (hsz : Nat.beq ty.size sz = true) (hzs : Nat.beq ty.zero.cells.size sz = true) (hpos : Nat.blt 0 sz = true)
    (hsrc : ∀ w, Cls C.w0 w H → Src w sz B m news) (h1 : oneCells news = true) (hb : (n + m) * ty.bytes ≤ 140737488355328) (hb2 : n + m ≤ 9223372036854775807)
    (h : ∀ A' cap', (0 < n + m → ∃ g, A' = some ⟨g, 0, none⟩) → Φ ((d, .slice A' (n + m) cap') :: env) ec (rb (row e sz A' cap' (n + m) (xs ++ news)))) : OpT C all o env ec H Φ := by
  subst hcap
  obtain ⟨i, hi, hrb⟩ := hf.at_
  have hsz' : ty.size = sz := Nat.eq_of_beq_eq_true hsz
  have hzs' : ty.zero.cells.size = sz := Nat.eq_of_beq_eq_true hzs
  have hpos' : 0 < sz := by rw [Nat.blt_eq] at hpos; exact hpos
  obtain ⟨x, hx, hx1, hx2, hx3⟩ := (Sig.tyOk ht).info'
  refine OpT.eff hg fun a w ha hw => ?_
  obtain ⟨F, f1, f2, f3⟩ := hw.sep
  have hil : i < H.length := (List.getElem?_eq_some_iff.1 hi).1
  have hown := (f1 i _ hi).own (w := w) (fun b o hf => f2 i b o hil hf)
  have hone : ∀ u ∈ news, u.oneCell' = true := by
    clear hsrc h hf hi hrb f1 hown
    induction news with
    | nil => intro u hu; cases hu
    | cons y l ih =>
      simp only [oneCells, Bool.and_eq_true] at h1
      intro u hu
      cases hu with
      | head => exact h1.1
      | tail _ hu => exact ih h1.2 u hu
  obtain ⟨hl, hat⟩ := hsrc w hw
  have hrun : ∀ t ty0, C.S.P.underlying t = some (.slice e) → ∀ cc, ∃ v' w', (Builtin.append_ #[t, t] ty0 #[.slice A n c, .slice B m cc]).run C.S.P w = .ok v' w' ∧ w'.ownsRow C.w0.heap.size e sz v' (n + m) (xs ++ news) ∧ w.grownBy w' (Value.slice A n c).ownBlock ∧
      (v'.ownBlock = (Value.slice A n c).ownBlock ∨ v'.ownBlock = some w.heap.size) := by
    intro t ty0 hut cc
    by_cases hm : 0 < m
    · obtain ⟨hA, hr⟩ := hat hm
      unfold isAt at hA
      rw [hA]
      obtain ⟨v', w', g1, g2, g3, _, g5⟩ := run_append_own_at (P := C.S.P) w C.w0.heap.size t ty0 e x ty.zero sz ty.bytes hut hx hx3 (hx1.trans hsz') hx2 hzs' hpos' _ n xs hown ⟨bk B, ofs B, none⟩ m cc news hl
        (fun j u hu => by
          have := hr j u hu
          unfold Addr.add
          split
          · rename_i e0; subst e0; simpa using this
          · exact this) hone (by simp only [maxLen]; omega) hb hw.below.size
      exact ⟨v', w', g1, g2, g3, g5⟩
    · have hm0 : m = 0 := by omega
      subst hm0
      have hnews : news = [] := List.eq_nil_of_length_eq_zero (by simpa using hl)
      subst hnews
      rcases B with _ | ad
      · exact ⟨_, w, run_append_nil C.S.P w _ t ty0 e x sz hut hx _ n xs hown cc, by simpa using hown, World.grownBy.refl w _, .inl rfl⟩
      · obtain ⟨v', w', g1, g2, g3, _, g5⟩ := run_append_own_at (P := C.S.P) w C.w0.heap.size t ty0 e x ty.zero sz ty.bytes hut hx hx3 (hx1.trans hsz') hx2 hzs' hpos' _ n xs hown ad 0 cc [] hl
          (fun j u hu => by simp at hu) hone (by simp only [maxLen]; omega) hb hw.below.size
        exact ⟨v', w', g1, g2, g3, g5⟩
  obtain ⟨dst, op, ty0, pos, aft, gd⟩ := o
  unfold evApp at he
  dsimp only at he
  split at he
  · rename_i ps ts
    split at he
    · rename_i A1 n1 c1 B1 m1 c2 t u hps hts
      split at he
      · rename_i e1 q1 q2 q3 hty
        cases htu : Nat.beq t u with
        | false => rw [htu] at he; cases he
        | true =>
          rw [htu] at he
          have et : t = u := Nat.eq_of_beq_eq_true htu
          subst et
          cases he
          have hut := (Sig.tyOk hty).fits
          simp only [Ty.fits] at hut
          obtain ⟨v', w', g1, g2, g3, g5⟩ := hrun t ty0 hut c2
          obtain ⟨A', cap', rfl, f', r1, r2⟩ := row.of_own g2
          have hargs : ps.map a.eval = #[.slice A n c, .slice B m c2] := Array.ext' (by rw [Array.toList_map]; exact evL_spec ha (Holds.nil _ _) hps)
          have hts' : ts = #[t, t] := Array.ext' hts
          refine ⟨.slice A' (n + m) cap', w', _, ?_, ⟨?_, ?_⟩, d, hd, hN, hs, h A' cap' ?_⟩
          · simp [execOp, resolve, invoke, builtin, hargs, hts', g1]
          · refine hw.below.grown g3 hw.below.size fun b hbk => ?_
            cases hA : A with
            | none => rw [hA] at hbk; simp [Value.ownBlock] at hbk
            | some ad =>
              rcases hown.2 with ⟨h9, _⟩ | ⟨g, cap9, cur, h9, h10, _⟩
              · rw [hA] at h9; cases h9
              · rw [h9] at hbk; simp [Value.ownBlock] at hbk; subst hbk; exact h10
          · rw [hrb]
            refine Sep.swap ⟨F, f1, f2, f3⟩ hi fun f hrow hf => ⟨f', r1, fun b o hb' => ?_, fun c' hc' hfc => ?_⟩
            · obtain ⟨s1, s2, s3⟩ := r2 b o hb'
              refine ⟨s1, s2, ?_⟩
              rw [s3] at g5
              rcases g5 with g5 | g5
              · left
                obtain ⟨_, hrow2⟩ := hrow
                rcases hrow2 with ⟨rfl, _⟩ | ⟨g, cur, rfl, rfl, _⟩
                · simp [Value.ownBlock] at g5
                · simp [Value.ownBlock] at g5; subst g5; simp [one]
              · right
                injection g5 with g5
                omega
            · refine g3.block c' hc' fun e9 => ?_
              obtain ⟨_, hrow2⟩ := hrow
              rcases hrow2 with ⟨rfl, _⟩ | ⟨g, cur, rfl, rfl, _⟩
              · simp [Value.ownBlock] at e9
              · simp [Value.ownBlock] at e9; subst e9; simp [one] at hfc
          · intro hpos2
            obtain ⟨_, hrow2⟩ := r1
            rcases hrow2 with ⟨_, _, h9, _⟩ | ⟨g, cur, rfl, _⟩
            · omega
            · exact ⟨g, rfl⟩
      · cases he
    · cases he
  · cases he
/-- From a block of the call's own. -/
theorem Src.own {w0 w : World} {b : Nat} {cs : List Value} {t : TypeId} {rb : HA → List HA} {sz m : Nat} (hw : Cls w0 w H) [hf : Focus H b cs t rb] (hl : cs.length = m * sz) : Src w sz (some ⟨b, 0, none⟩) m cs := by
  obtain ⟨i, hi, _⟩ := hf.at_
  exact ⟨hl, fun _ => ⟨rfl, RdC.own hw hi (fun j u hu => by simpa [ofs] using hu)⟩⟩
/-- A nil slice, before anything is appended. -/
theorem T_nilrow {k : List It} (e sz : Nat) (h : T C k env ec (row e sz none 0 0 [] :: H)) : T C k env ec H := by
  refine T.mk fun a w ha hw => ?_
  refine h a w ha ⟨hw.below, ?_⟩
  obtain ⟨F, h1, h2, h3⟩ := hw.sep
  refine ⟨fun i => match i with | 0 => fun _ => none | i + 1 => F i, fun i B hi => ?_, fun i b o hi hf => ?_, fun i j b hi hj hne => ?_⟩
  · cases i with
    | zero => simp at hi; subst hi; exact ⟨by simp, .inl ⟨rfl, rfl, rfl, rfl⟩⟩
    | succ i => exact h1 i B (by simpa using hi)
  · cases i with
    | zero => cases hf
    | succ i => exact h2 i b o (by simpa using hi) hf
  · cases i with
    | zero => exact .inl rfl
    | succ i =>
      cases j with
      | zero => exact .inr rfl
      | succ j => exact h3 i j b (by simpa using hi) (by simpa using hj) (by omega)
/-- Where a row has an element its base is known. -/
theorem T_rowpos {k : List It} {A : Option Addr} {e sz cap n : Nat} {xs : List Value} {rb : HA → List HA} [hf : FocusR H A e sz cap n xs rb] (hn : 0 < n) (h : ∀ g, A = some ⟨g, 0, none⟩ → T C k env ec H) : T C k env ec H := by
  refine T.mk fun a w ha hw => ?_
  obtain ⟨i, hi, _⟩ := hf.at_
  obtain ⟨F, h1, h2, h3⟩ := hw.sep
  obtain ⟨_, hr⟩ := h1 i _ hi
  rcases hr with ⟨_, _, h9, _⟩ | ⟨g, cur, hA, _⟩
  · omega
  · exact h g hA a w ha hw
theorem rdRow {A : Option Addr} {e sz cap n : Nat} {xs : List Value} {rb : HA → List HA} [hf : FocusR H A e sz cap n xs rb] {off : Nat} {vs : List Value} (hA : 0 < n) (hv : ∀ j u, vs[j]? = some u → xs[off + j]? = some u) : ∀ w, Cls C.w0 w H → RdC w (bk A) off vs := by
  intro w hw j u hu
  obtain ⟨i, hi, _⟩ := hf.at_
  obtain ⟨F, h1, h2, h3⟩ := hw.sep
  have hil : i < H.length := (List.getElem?_eq_some_iff.1 hi).1
  obtain ⟨_, hr⟩ := h1 i _ hi
  rcases hr with ⟨_, _, h9, _⟩ | ⟨g, cur, rfl, hF, g1, g2, g3, g4⟩
  · omega
  · have hb := (h2 i g (.cells cur e (0, 0)) hil (by rw [hF]; simp [one])).2
    have := hv j u hu
    rw [← g4] at this
    rw [show bk (some ⟨g, 0, none⟩) = g from rfl, cell_of_row w g (off + j) cur e (0, 0) hb]
    have h8 := (List.getElem?_eq_some_iff.1 this).1
    rw [List.getElem?_take] at this
    split at this
    · simpa using this
    · cases this
/-- A block that is known whole, as a row. -/
theorem blk_row {b : Nat} {cs : List Value} {e sz n : Nat} (hl : cs.length = n * sz) (hn : n ≤ maxLen) : ∀ f, blk b cs e f → row e sz (some ⟨b, 0, none⟩) n n cs f :=
  fun f hf => ⟨hl, .inr ⟨b, cs.toArray, rfl, hf, Nat.le_refl _, hn, by simpa using hl, by rw [← hl]; simp⟩⟩
theorem T_blk_row {k : List It} {b : Nat} {cs : List Value} {e : TypeId} {rb : HA → List HA} [hf : Focus H b cs e rb] (sz n : Nat) (hl : cs.length = n * sz) (hn : n ≤ 9223372036854775807) (h : T C k env ec (rb (row e sz (some ⟨b, 0, none⟩) n n cs))) : T C k env ec H := by
  obtain ⟨i, hi, hrb⟩ := hf.at_
  refine T_le (Hle.weaken hi (blk_row (sz := sz) hl (by simp only [maxLen]; exact hn)) rfl) ?_
  rw [hrb] at h
  exact h

theorem T_blk_rowh {k : List It} {b : Nat} {cs : List Value} {e : TypeId} (sz n : Nat) (hl : cs.length = n * sz) (hn : n ≤ 9223372036854775807) (h : T C k env ec (row e sz (some ⟨b, 0, none⟩) n n cs :: H)) : T C k env ec (blk b cs e :: H) :=
  T_le (Hle.weaken (i := 0) rfl (blk_row (sz := sz) hl (by simp only [maxLen]; exact hn)) rfl) h

/-! ## make, literals -/
def evMk (S : Sig) (env : Env) (ec : EnvC) (o : Oper) : Option (TypeId × Int × Int) :=
  match o.op with
  | .makeSlice t x y => match S.ty t, evX env ec [] x, evX env ec [] y with
    | some ⟨.slice e, _, _, _⟩, some (.int _ l), some (.int _ c) => some (e, l, c)
    | _, _, _ => none
  | _ => none
theorem OpT.make {e : TypeId} {l c : Int} {ty : TyI} {z : Value} (hg : gOf all env ec o = some []) (he : evMk C.S env ec o = some (e, l, c)) (ht : C.S.ty e = some ty) (h1 : ty.zero = z) (hz1 : z.cells = #[z]) (hs1 : Nat.beq ty.size 1 = true) (hd : o.dst = some d) (hN : Nat.blt d C.N.n = true) (hs : safeC all d ec = true)
    (hb : (0 ≤ l ∧ l ≤ c) ∧ (ty.bytes : Int) * c ≤ 281474976710656 ∧ c ≤ 9223372036854775807) (h : ∀ b, Φ ((d, .slice (some ⟨b, 0, none⟩) l.toNat c.toNat) :: env) ec (blk b (List.replicate c.toNat z) e :: H)) : OpT C all o env ec H Φ := by
  obtain ⟨x, hx, hx1, hx2, hx3⟩ := (Sig.tyOk ht).info'
  have hs1' : ty.size = 1 := Nat.eq_of_beq_eq_true hs1
  refine OpT.eff hg fun a w ha hw => ⟨.slice (some ⟨w.heap.size, 0, none⟩) l.toNat c.toNat, w.alloc (.cells (madeCells z.cells (c.toNat * x.size)) e), _, ?_, hw.alloc _ ?_, d, hd, hN, hs, h w.heap.size⟩
  · obtain ⟨dst, op, ty0, pos, aft, gd⟩ := o
    unfold evMk at he
    dsimp only at he
    split at he
    · rename_i t p q
      split at he
      · rename_i e' q1 q2 q3 kl l' kc c' hty hl hc
        cases he
        have hut := (Sig.tyOk hty).fits
        simp only [Ty.fits] at hut
        have hr := run_make (P := C.S.P) w t e x z hut hx (by rw [hx3, h1]) kl kc l c hb.1.1 hb.1.2 (by rw [hx2]; exact hb.2.1) hb.2.2
        simp only [execOp, evX_spec ha (Holds.nil _ _) hl, evX_spec ha (Holds.nil _ _) hc]
        simp [hr]
      · cases he
    · cases he
  · unfold blk
    rw [hz1, hx1, hs1', Nat.mul_one]
    congr 1
    exact congrArg (fun x => Obj.cells x e (0, 0)) (Array.ext' (by rw [toList_madeCells_one]))
def evParts (env : Env) (ec : EnvC) : List (Nat × Operand) → Option (List (Nat × Value))
  | [] => some []
  | (i, x) :: l => match evX env ec [] x with
    | some v => match evParts env ec l with
      | some vs => some ((i, v) :: vs)
      | none => none
    | none => none
theorem evParts_spec {N : FK} {a : Act} (ha : Agrees N all env ec a) : ∀ {l : List (Nat × Operand)} {vs : List (Nat × Value)}, evParts env ec l = some vs → l.map (fun (i, x) => (i, a.eval x)) = vs
  | [], vs, h => by cases h; rfl
  | (i, x) :: l, vs, h => by
    unfold evParts at h
    split at h
    · rename_i v hv
      split at h
      · rename_i us hus
        cases h
        rw [List.map_cons, evParts_spec ha hus]
        simp only [evX_spec ha (Holds.nil _ _) hv]
      · cases h
    · cases h
def evLit (S : Sig) (env : Env) (ec : EnvC) (o : Oper) : Option (TypeId × Nat × List (Nat × Value)) :=
  match o.op with
  | .buildSlice t n ps => match S.ty t, evParts env ec ps.toList with
    | some ⟨.slice e, _, _, _⟩, some vs => some (e, n, vs)
    | _, _ => none
  | _ => none
theorem OpT.lit {e : TypeId} {n : Nat} {vs : List (Nat × Value)} {ty : TyI} {cs : List Value} (hg : gOf all env ec o = some []) (he : evLit C.S env ec o = some (e, n, vs)) (ht : C.S.ty e = some ty)
    (hfill : Instr.fill (fun i => some (i * ty.size, ty.size)) (madeCells (if n * ty.size = 0 then #[] else ty.zero.cells) (n * ty.size)) vs = some cs.toArray) (hle : Nat.ble (n * ty.size) 16777216 = true) (hd : o.dst = some d) (hN : Nat.blt d C.N.n = true) (hs : safeC all d ec = true)
    (h : ∀ b, Φ ((d, .slice (some ⟨b, 0, none⟩) n n) :: env) ec (blk b cs e :: H)) : OpT C all o env ec H Φ := by
  refine OpT.eff hg fun a w ha hw => ⟨.slice (some ⟨w.heap.size, 0, none⟩) n n, w.alloc (.cells cs.toArray e), _, ?_, hw.alloc _ (A := blk w.heap.size cs e) rfl, d, hd, hN, hs, h w.heap.size⟩
  obtain ⟨dst, op, ty0, pos, aft, gd⟩ := o
  unfold evLit at he
  dsimp only at he
  split at he
  · rename_i t n' ps
    split at he
    · rename_i e' q1 q2 q3 us hty hps
      cases he
      have hut := (Sig.tyOk hty).fits
      simp only [Ty.fits] at hut
      have hsz := (Sig.tyOk ht).sizeOf w
      have hz := (Sig.tyOk ht).zeroValue w
      have hparts : (Array.map (fun x : Nat × Operand => (x.1, a.eval x.2)) ps).toList = vs := by rw [Array.toList_map]; exact evParts_spec ha hps
      have hle' : ¬ n * ty.size > 2 ^ 24 := by have := Nat.le_of_ble_eq_true hle; omega
      unfold madeCells at hfill
      simp only [execOp, Instr.buildSlice, Sem.run_bind, run_underlying hut, Result.andThen_ok, hsz]
      rw [if_neg hle']
      by_cases h0 : n * ty.size = 0
      · rw [if_pos h0] at hfill ⊢
        simp only [Sem.run_bind, Sem.run_pure, Result.andThen_ok]
        rw [hparts, hfill]
        rfl
      · rw [if_neg h0] at hfill ⊢
        simp only [Sem.run_bind, Sem.run_pure, Result.andThen_ok, hz]
        rw [hparts, hfill]
        rfl
    · cases he
  · cases he
def isSeq : Nat → List (Nat × Value) → Bool
  | _, [] => true
  | n, (i, _) :: l => Nat.beq i n && isSeq (n + 1) l
theorem isSeq_spec : ∀ {n : Nat} {l : List (Nat × Value)}, isSeq n l = true → l = ((l.map Prod.snd).zipIdx n).map fun x => (x.2, x.1)
  | n, [], _ => rfl
  | n, (i, v) :: l, h => by
    simp only [isSeq, Bool.and_eq_true] at h
    have e : i = n := Nat.eq_of_beq_eq_true h.1
    subst e
    simp only [List.map_cons, List.zipIdx_cons]
    rw [← isSeq_spec h.2]
def allSz (sz : Nat) : List (Nat × Value) → Bool
  | [] => true
  | (_, v) :: l => Nat.beq v.cells.size sz && allSz sz l
theorem allSz_spec {sz : Nat} : ∀ {l : List (Nat × Value)}, allSz sz l = true → ∀ v ∈ l.map Prod.snd, v.cells.size = sz
  | (i, u) :: l, h, v, hv => by
    simp only [allSz, Bool.and_eq_true] at h
    simp only [List.map_cons, List.mem_cons] at hv
    rcases hv with rfl | hv
    · exact Nat.eq_of_beq_eq_true h.1
    · exact allSz_spec h.2 v hv
def flatP : List (Nat × Value) → List Value
  | [] => []
  | (_, v) :: l => v.cells.toList ++ flatP l
theorem flatP_eq : ∀ l : List (Nat × Value), flatP l = (l.map Prod.snd).flatMap fun v => v.cells.toList
  | [] => rfl
  | (_, v) :: l => by simp [flatP, flatP_eq l]
/-- A literal of n parts, in their order. -/
theorem OpT.litW {e : TypeId} {n sz : Nat} {vs : List (Nat × Value)} {ty : TyI} {cs : List Value} (hg : gOf all env ec o = some []) (he : evLit C.S env ec o = some (e, n, vs)) (ht : C.S.ty e = some ty) (hsz : ty.size = sz) (h0 : Nat.blt 0 sz = true)
    (hseq : (isSeq 0 vs && (Nat.beq vs.length n && allSz sz vs)) = true) (hcs : flatP vs = cs) (hle : Nat.ble (n * sz) 16777216 = true) (hd : o.dst = some d) (hN : Nat.blt d C.N.n = true) (hs : safeC all d ec = true)
    (h : ∀ b, Φ ((d, .slice (some ⟨b, 0, none⟩) n n) :: env) ec (blk b cs e :: H)) : OpT C all o env ec H Φ := by
  subst hsz; subst hcs
  simp only [Bool.and_eq_true] at hseq
  obtain ⟨s1, s2, s3⟩ := hseq
  have hn : vs.length = n := Nat.eq_of_beq_eq_true s2
  have h0' : 0 < ty.size := by rw [Nat.blt_eq] at h0; exact h0
  refine OpT.lit hg he ht ?_ hle hd hN hs h
  have := Go.Great.fill_whole (s := ty.size) h0' (vs.map Prod.snd) (madeCells (if n * ty.size = 0 then #[] else ty.zero.cells) (n * ty.size)) (allSz_spec s3) (by rw [size_madeCells, List.length_map, hn])
  rw [← isSeq_spec s1] at this
  rw [this, flatP_eq]
end
end Go.Proofs.YtiglobijdegjdaaDoor
