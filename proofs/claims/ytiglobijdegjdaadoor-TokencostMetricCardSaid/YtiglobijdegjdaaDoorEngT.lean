/- The engine: from how the statement reads its arguments to what the walks ask of them; what a law's row asks behind the call. It speaks of any program. -/
import Derived.Test.YtiglobijdegjdaaDoorEngL
import Derived.Deep.Slices
import Derived.OpenShut
import Derived.ChangeSame
import Derived.ProofKit
import Derived.Stop.LaidErr
import Derived.LaidMore
import Derived.Below
import Derived.Stop.Joined
namespace Go.Proofs.YtiglobijdegjdaaDoor
open Go.RowKit Go.Shelf Go.ChangeShapes Go.WideShapes Go.Deep

def wtL (p : TypeId → List D → Prop) : List (TypeId × Nat) → List D → Prop
  | [], ds => ds = []
  | (t, _) :: fs, ds => ∃ a b, ds = a ++ b ∧ p t a ∧ wtL p fs b
/-- The cells' data fit the type. -/
def wt (S : Sig) : Nat → TypeId → List D → Prop
  | 0, _, _ => False
  | f + 1, t, ds => match S.ty t with
    | some ⟨.int k, _, _, _⟩ => ∃ n, ds = [.v (.int k n)] ∧ (Lit.int k n).wf = true
    | some ⟨.bool, _, _, _⟩ => ∃ b, ds = [.v (.bool b)]
    | some ⟨.str, _, _, _⟩ => ∃ s : ByteArray, ds = [.v (.string s)] ∧ s.size ≤ maxLen
    | some ⟨.slice e, _, _, _⟩ => match S.ty e with
      | some ⟨_, sz, _, _⟩ => ∃ l n, ds = [.s sz l] ∧ l.length = n * sz ∧ n ≤ maxLen ∧ ∀ i, i < n → wt S f e ((l.drop (i * sz)).take sz)
      | none => False
    | some ⟨.struct fs, _, _, _⟩ => wtL (wt S f) fs ds
    | some ⟨.arr n e, _, _, _⟩ => match S.ty e with
      | some ⟨_, sz, _, _⟩ => ds.length = n * sz ∧ ∀ i, i < n → wt S f e ((ds.drop (i * sz)).take sz)
      | none => False
    | _ => False
def okL (S : Sig) (ok : TypeId → Bool) : Nat → List (TypeId × Nat) → Option Nat
  | acc, [] => some acc
  | acc, (t, off) :: fs => match S.ty t with
    | some ⟨_, sz, _, _⟩ => cond (ok t && Nat.beq off acc) (okL S ok (acc + sz) fs) none
    | none => none
/-- Types that are read so. -/
def okT (S : Sig) : Nat → TypeId → Bool
  | 0, _ => false
  | f + 1, t => match S.ty t with
    | some ⟨.int _, _, _, _⟩ => true
    | some ⟨.bool, _, _, _⟩ => true
    | some ⟨.str, _, _, _⟩ => true
    | some ⟨.slice e, _, _, _⟩ => okT S f e && (match S.ty e with | some ⟨_, _ + 1, _, _⟩ => true | _ => false)
    | some ⟨.struct fs, sz, _, _⟩ => (match okL S (okT S f) 0 fs with | some n => Nat.beq n sz | none => false)
    | some ⟨.arr n e, sz, _, _⟩ => okT S f e && (match S.ty e with | some ⟨_, m, _, _⟩ => Nat.beq (n * m) sz | _ => false)
    | _ => false
theorem cellsOf_ty {S : Sig} {t : TypeId} {i : TyI} (h : S.ty t = some i) : S.P.cellsOf t = i.size := by
  obtain ⟨x, hx, h1, _⟩ := (Sig.tyOk h).info'
  simp [Program.cellsOf, hx, h1]
section
variable {H : Type} {enc : TypeId × Value → H} {S : Sig} {w : World} {base : Nat} {spare : Nat → Bool} {held : Bool}
theorem chunk_app {α : Type} {l m : List α} {sz k : Nat} (hl : l.length = k * sz) (hm : m.length = sz) : (∀ i, i < k → ((l ++ m).drop (i * sz)).take sz = (l.drop (i * sz)).take sz) ∧ ((l ++ m).drop (k * sz)).take sz = m := by
  refine ⟨fun i hi => ?_, ?_⟩
  · have h1 : (i + 1) * sz ≤ k * sz := Nat.mul_le_mul_right sz hi
    rw [Nat.add_mul, Nat.one_mul] at h1
    rw [List.drop_append_of_le_length (by omega), List.take_append_of_le_length (by rw [List.length_drop]; omega)]
  · rw [← hl, List.drop_left, ← hm, List.take_length]
theorem trod_wt : ∀ (f : Nat) {t : TypeId}, okT S f t = true → ∀ {fuel : Nat} {cs : List Value} {x : DataW H × List MemPlace}, DataW.trod enc S.P w base spare held fuel t cs = some x → ∃ ds, Rd (wr w) cs ds ∧ wt S f t ds
  | 0, _, h, _, _, _, _ => by cases h
  | f + 1, t, h, fuel, cs, x, hx => by
    unfold okT at h
    split at h
    · rename_i k q1 q2 q3 ht
      have hf := (Sig.tyOk ht).fits
      obtain ⟨n, rfl, _, hw⟩ := DataW.trod_int hf hx
      exact ⟨[.v (.int k n)], .v _ .nil, by unfold wt; rw [ht]; exact ⟨n, rfl, hw⟩⟩
    · rename_i q1 q2 q3 ht
      have hf := (Sig.tyOk ht).fits
      obtain ⟨b, rfl, _⟩ := DataW.trod_bool hf hx
      exact ⟨[.v (.bool b)], .v _ .nil, by unfold wt; rw [ht]; exact ⟨b, rfl⟩⟩
    · rename_i q1 q2 q3 ht
      have hf := (Sig.tyOk ht).fits
      obtain ⟨s, rfl, _, hw⟩ := DataW.trod_string hf hx
      exact ⟨[.v (.string s)], .v _ .nil, by unfold wt; rw [ht]; exact ⟨s, rfl, hw⟩⟩
    · rename_i e q1 q2 q3 ht
      have hf := (Sig.tyOk ht).fits
      simp only [Bool.and_eq_true] at h
      obtain ⟨h1, h2⟩ := h
      split at h2
      · rename_i d m b z he
        have hC : S.P.cellsOf e = m + 1 := cellsOf_ty he
        rcases open_slice hf hx with ⟨rfl, _⟩ | ⟨a, len, cap, mm, n, Dd, Pl, rfl, hb, hl, hm, hmm, _, hi⟩
        · refine ⟨[.s (m + 1) []], .s none 0 0 (m + 1) [] (by simp) (Nat.le_refl _) (by omega) (fun h => absurd h (by omega)) .nil .nil, ?_⟩
          unfold wt; rw [ht]; simp only [he]
          exact ⟨[], 0, rfl, by simp, by simp [maxLen], fun i hi => by omega⟩
        · have hlm : len ≤ mm := by rw [hmm]; split <;> omega
          have key : ∀ k, k ≤ len → ∃ cs l, cs.length = k * (m + 1) ∧ (∀ j u, cs[j]? = some u → w.cell? (a.add j) = some u) ∧ Rd (wr w) cs l ∧ ∀ i, i < k → wt S f e ((l.drop (i * (m + 1))).take (m + 1)) := by
            intro k
            induction k with
            | zero => exact fun _ => ⟨[], [], by simp, fun j u hu => by simp at hu, .nil, fun i hi => by omega⟩
            | succ k ih =>
              intro hk
              obtain ⟨cs, l, g1, g2, g3, g4⟩ := ih (by omega)
              obtain ⟨cs', hc, hd⟩ := hi k (by omega)
              rw [hC] at hc
              obtain ⟨_, hcl, hat⟩ := World.cells?_some hc
              obtain ⟨ds, r1, r2⟩ := trod_wt f h1 hd
              have hll := g3.length
              have hdl := r1.length
              obtain ⟨c1, c2⟩ := chunk_app (l := l) (m := ds) (sz := m + 1) (k := k) (by omega) (by omega)
              refine ⟨cs ++ cs', l ++ ds, by rw [List.length_append, g1, hcl, Nat.add_mul, Nat.one_mul], fun j u hu => ?_, g3.append r1, fun i hi => ?_⟩
              · by_cases hj : j < cs.length
                · rw [List.getElem?_append_left hj] at hu; exact g2 j u hu
                · rw [List.getElem?_append_right (by omega)] at hu
                  have := hat (j - cs.length) (by have := (List.getElem?_eq_some_iff.1 hu).1; omega)
                  rw [Go.Deep.add_add, hu] at this
                  rw [← this]
                  congr 2
                  omega
              · rcases Nat.lt_or_ge i k with hik | hik
                · rw [c1 i hik]; exact g4 i hik
                · rw [show i = k by omega, c2]; exact r2
          obtain ⟨cs, l, g1, g2, g3, g4⟩ := key len (Nat.le_refl _)
          have hll := g3.length
          refine ⟨[.s (m + 1) l], .s (some a) len cap (m + 1) cs (by omega) hl (by simp only [maxLen] at hm; exact hm) (fun hpos => ?_) g3 .nil, ?_⟩
          · have h0 : 0 < cs.length := by rw [g1]; exact Nat.mul_pos hpos (by omega)
            have hsp : a.spot = none := by
              have := g2 0 _ (List.getElem?_eq_getElem h0)
              have := World.cell?_spot this
              unfold Addr.add at this
              split at this
              · exact this
              · rename_i hne; exact absurd rfl hne
            refine ⟨?_, fun j u hu => ?_⟩
            · unfold isAt bk ofs
              obtain ⟨b', o', s'⟩ := a
              simp only at hsp
              subst hsp
              rfl
            · have := g2 j u hu
              obtain ⟨b', o', s'⟩ := a
              simp only at hsp
              subst hsp
              unfold Addr.add at this
              show w.cell? ⟨b', o' + j, none⟩ = some u
              split at this
              · rename_i e0; rw [e0]; simpa using this
              · exact this
          · unfold wt; rw [ht]; simp only [he]
            exact ⟨l, len, rfl, by rw [← hll, g1], by omega, g4⟩
      · cases h2
    · rename_i fs sz q2 q3 ht
      obtain ⟨fa, hfa, hfs⟩ := (Sig.tyOk ht).fits
      split at h
      · rename_i n0 hok
        have hn0 : n0 = sz := Nat.eq_of_beq_eq_true h
        obtain ⟨xs, n, _, _, hlen, hxl, hfld⟩ := DataW.trod_struct hfa hx
        have hcs : cs.length = sz := hlen.trans (cellsOf_ty ht)
        have key : ∀ (l : List Field) (acc k : Nat), (∀ (i : Nat) (g : Field), l[i]? = some g → fa[k + i]? = some g) → okL S (okT S f) acc (l.map fun g => (g.type, g.offset)) = some sz → acc ≤ cs.length →
            ∃ ds, Rd (wr w) (cs.drop acc) ds ∧ wtL (wt S f) (l.map fun g => (g.type, g.offset)) ds := by
          intro l
          induction l with
          | nil =>
            intro acc k _ ho ha
            simp only [List.map_nil, okL, Option.some.injEq] at ho
            refine ⟨[], ?_, rfl⟩
            rw [List.drop_eq_nil_of_le (by omega)]
            exact .nil
          | cons g l ih =>
            intro acc k hl ho ha
            simp only [List.map_cons, okL] at ho
            split at ho
            · rename_i d gs b z hg
              cases hc : (okT S f g.type && Nat.beq g.offset acc) with
              | false => rw [hc] at ho; cases ho
              | true =>
                rw [hc] at ho
                simp only [cond_true] at ho
                simp only [Bool.and_eq_true] at hc
                have hoff : g.offset = acc := Nat.eq_of_beq_eq_true hc.2
                have h0 := hfld k g (by simpa using hl 0 g rfl)
                have hk : k < xs.length := by
                  have := (Array.getElem?_eq_some_iff.1 (show fa[k]? = some g by simpa using hl 0 g rfl)).1
                  omega
                rw [List.getElem?_eq_getElem hk, cellsOf_ty hg, hoff] at h0
                obtain ⟨ds1, r1, r2⟩ := trod_wt f hc.1 h0
                have hacc : acc + gs ≤ cs.length := by
                  have : ∀ (fs : List (TypeId × Nat)) (a b : Nat), okL S (okT S f) a fs = some b → a ≤ b := by
                    intro fs
                    induction fs with
                    | nil => intro a b h; simp only [okL, Option.some.injEq] at h; omega
                    | cons x fs ih =>
                      intro a b h
                      obtain ⟨t', o'⟩ := x
                      simp only [okL] at h
                      split at h
                      · rename_i d' s' b' z' _
                        cases hq : (okT S f t' && Nat.beq o' a) with
                        | false => rw [hq] at h; cases h
                        | true => rw [hq] at h; have := ih _ _ h; omega
                      · cases h
                  have := this _ _ _ ho
                  omega
                obtain ⟨ds2, r3, r4⟩ := ih (acc + gs) (k + 1) (fun i g' hg' => by have := hl (i + 1) g' (by simpa using hg'); rw [← this]; congr 1; omega) ho hacc
                refine ⟨ds1 ++ ds2, ?_, ds1, ds2, rfl, r2, r4⟩
                have e := List.take_append_drop gs (cs.drop acc)
                rw [List.drop_drop] at e
                rw [← e]
                exact r1.append r3
            · cases ho
        rw [← hfs] at hok
        obtain ⟨ds, r1, r2⟩ := key fa.toList 0 0 (fun i g hg => by simpa using hg) (by rw [hok, hn0]) (Nat.zero_le _)
        refine ⟨ds, by simpa using r1, ?_⟩
        unfold wt; rw [ht]; simp only
        rw [← hfs]
        exact r2
      · cases h
    · rename_i n e sz q2 q3 ht
      have hf := (Sig.tyOk ht).fits
      simp only [Bool.and_eq_true] at h
      obtain ⟨h1, h2⟩ := h
      split at h2
      · rename_i d m b z he
        have hC : S.P.cellsOf e = m := cellsOf_ty he
        have hsz : n * m = sz := Nat.eq_of_beq_eq_true h2
        obtain ⟨xs, mm, _, _, hlen, hxl, hel⟩ := DataW.trod_array hf hx
        have hcs : cs.length = n * m := by rw [hlen, cellsOf_ty ht, hsz]
        rw [hC] at hel
        have key : ∀ k, k ≤ n → ∃ l, Rd (wr w) (cs.take (k * m)) l ∧ ∀ i, i < k → wt S f e ((l.drop (i * m)).take m) := by
          intro k
          induction k with
          | zero => exact fun _ => ⟨[], by rw [Nat.zero_mul, List.take_zero]; exact .nil, fun i hi => by omega⟩
          | succ k ih =>
            intro hk
            obtain ⟨l, g3, g4⟩ := ih (by omega)
            have h0 := hel k (by omega)
            rw [List.getElem?_eq_getElem (by omega)] at h0
            obtain ⟨ds, r1, r2⟩ := trod_wt f h1 h0
            have h9 : (k + 1) * m ≤ n * m := Nat.mul_le_mul_right m hk
            rw [Nat.add_mul, Nat.one_mul] at h9
            have hll := g3.length
            have hdl := r1.length
            rw [List.length_take] at hll
            rw [List.length_take, List.length_drop] at hdl
            obtain ⟨c1, c2⟩ := chunk_app (l := l) (m := ds) (sz := m) (k := k) (by omega) (by omega)
            refine ⟨l ++ ds, ?_, fun i hi => ?_⟩
            · have e := g3.append r1
              rw [Nat.add_mul, Nat.one_mul, List.take_add]
              exact e
            · rcases Nat.lt_or_ge i k with hik | hik
              · rw [c1 i hik]; exact g4 i hik
              · rw [show i = k by omega, c2]; exact r2
        obtain ⟨l, g3, g4⟩ := key n (Nat.le_refl _)
        rw [← hcs, List.take_length] at g3
        refine ⟨l, g3, ?_⟩
        unfold wt; rw [ht]; simp only [he]
        exact ⟨by rw [← g3.length, hcs], g4⟩
      · cases h2
    · cases h
end
/-! ## Behind the call -/
section
variable {H : Type} {enc : TypeId × Value → H} {P : Program}
theorem post_of_below {f : Func} {s : ChangeSpec} {apart fresh handsOn again : Bool} {W W' : World} {args : Array Value} {v : Value} {ds gs : List (DataW H)} {before pa pv : List MemPlace}
    (hW : DataW.Whole enc P f.params.toList s.vars apart W args.toList ds gs before)
    (hres : ∀ (b : Nat) (sp : Nat → Bool) (hd : Bool), DataW.TrodAll enc P W' b sp hd f.resultTypes.toList (v.resultList f.resultTypes.size) (s.fn H (ds ++ gs)).results [])
    (hargs : ∀ sp : Nat → Bool, (∀ p ∈ before, sp p.block = true) → DataW.TrodAll enc P W' 0 sp true f.params.toList args.toList (s.fn H (ds ++ gs)).args pa)
    (hvars : ∀ sp : Nat → Bool, (∀ p ∈ before, sp p.block = true) → DataW.TrodVars enc P W' sp s.vars (s.fn H (ds ++ gs)).vars pv)
    (hps : before = pa ++ pv) (hb : Below W.heap.size W W')
    (hok : ∀ (j : Nat) (t : TypeId) (r : Value), f.resultTypes[j]? = some t → (v.resultList f.resultTypes.size)[j]? = some r → Value.okWide P W' .any 0 t r) :
    s.post enc P f apart fresh handsOn again W args v W' := by
  have hlt : ∀ p ∈ before, p.block < W.heap.size := fun p hp => hW.lt p hp
  have hold : ∀ p ∈ before, (fun b => decide (b < W.heap.size)) p.block = true := fun p hp => by simpa using hlt p hp
  refine ⟨ds, gs, before, [], pa, pv, hW, hres _ _ _, hargs _ hold, hvars _ hold, World.keptBut_mono (fun p hp => ⟨hp, ?_⟩) (hb.frame (· ∈ before)), fun _ => ?_⟩
  · rw [hps, List.mem_append] at hp
    exact Or.inr hp
  · obtain ⟨_, _, _, _, _, hz, hn⟩ := hW
    refine ⟨hok, _, _, ([] ++ pa) ++ pv, ⟨[] ++ pa, pv, trodAll_append (hargs _ (fun _ _ => rfl)) (hres _ _ _), hvars _ (fun _ _ => rfl), rfl, ?_, ?_⟩, ?_⟩
    · intro b off hp
      have hin : MemPlace.cell b off ∈ before := by rw [hps]; simpa using hp
      rw [hb.frozen (hlt _ hin)]
      exact hz b off hin
    · intro ha
      have := hn ha
      rw [hps] at this
      simpa using this
    · intro p hp _
      rw [hps]
      simpa using hp
theorem trodAll_stays (hl : laidOutB P = true) {W W' : World} {sp' : Nat → Bool} : ∀ {ts : List TypeId} {vs : List Value} {ds : List (DataW H)} {ps : List MemPlace}, (∀ t ∈ ts, P.readableRec t = true ∧ t < P.types.size) →
    DataW.TrodAll enc P W 0 (fun _ => true) true ts vs ds ps → (∀ p ∈ ps, W.sameAt W' p) → (∀ p ∈ ps, sp' p.block = true) → DataW.TrodAll enc P W' 0 sp' true ts vs ds ps
  | [], vs, ds, ps, _, h, _, _ => by
    obtain ⟨rfl, rfl, rfl⟩ := trodAll_nil h
    exact trodAll_mk0
  | t :: ts, vs, ds, ps, hr, h, hs, hp => by
    obtain ⟨v, vs', d, ds', p, q, rfl, rfl, rfl, h1, h2⟩ := trodAll_cons h
    have ht := hr t (List.mem_cons_self ..)
    exact trodAll_cons_mk (Go.WideElems.Trod_stays hl ht.1 ht.2 h1 (fun x hx => hs x (List.mem_append_left _ hx)) (fun x hx => hp x (List.mem_append_left _ hx)))
      (trodAll_stays hl (fun t' ht' => hr t' (List.mem_cons_of_mem _ ht')) h2 (fun x hx => hs x (List.mem_append_right _ hx)) (fun x hx => hp x (List.mem_append_right _ hx)))
/-- A law's post: it has returned true, and turned nothing that was there. -/
theorem law_post {f : Func} {s : ChangeSpec} {apart fresh handsOn again : Bool} {W W' : World} {args : Array Value} {ds gs : List (DataW H)} {before : List MemPlace} {tb : TypeId}
    (hW : DataW.Whole enc P f.params.toList s.vars apart W args.toList ds gs before) (hs : s.vars = []) (hfn : s.fn H ds = { results := [.lit (.bool true)], args := ds })
    (hl : laidOutB P = true) (hr : ∀ t ∈ f.params.toList, P.readableRec t = true ∧ t < P.types.size) (hres : f.resultTypes = #[tb]) (htb : P.underlying tb = some .bool) (hb : Below W.heap.size W W') :
    s.post enc P f apart fresh handsOn again W args (.bool true) W' := by
  have hW' := hW
  have hlt : ∀ p ∈ before, p.block < W.heap.size := fun p hp => hW.lt p hp
  obtain ⟨p, q, hA, hV, rfl, hfz, hnd⟩ := hW
  rw [hs] at hV
  obtain ⟨rfl, rfl⟩ := trodVars_none hV
  refine post_of_below (pa := p) (pv := []) hW' (fun b sp hd => ?_) (fun sp hsp => ?_) (fun sp _ => ?_) rfl hb (ok_one hres rfl (okWide_bool_mk htb _))
  · rw [List.append_nil, hfn, hres]; exact trodAll_mk1 (shut_bool htb true)
  · rw [List.append_nil, hfn]
    exact trodAll_stays hl hr hA (fun x hx => hb.same (hlt x (List.mem_append_left _ hx))) (fun x hx => hsp x (List.mem_append_left _ hx))
  · rw [List.append_nil, hfn, hs]; rfl
end
end Go.Proofs.YtiglobijdegjdaaDoor
