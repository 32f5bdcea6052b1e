/- The engine: a store into one of many blocks. It speaks of any program. -/
import Derived.Test.YtiglobijdegjdaaDoorEngL
namespace Go.Proofs.YtiglobijdegjdaaDoor
open Go.RowKit Go.Shelf

class FocusMW (H : List HA) (t : outParam TypeId) (l : outParam (List (Nat × List Value))) (rb : outParam (HA → List HA)) : Prop where
  at_ : ∃ i, H[i]? = some (blks t l) ∧ ∀ B, rb B = H.set i B
instance FocusMW.head (H : List HA) (t : TypeId) (l : List (Nat × List Value)) : FocusMW (blks t l :: H) t l (fun B => B :: H) := ⟨0, rfl, fun _ => rfl⟩
instance FocusMW.tail (A0 : HA) (H : List HA) (t : TypeId) (l : List (Nat × List Value)) (rb : HA → List HA) [h : FocusMW H t l rb] : FocusMW (A0 :: H) t l (fun B => A0 :: rb B) :=
  ⟨by obtain ⟨i, h1, h2⟩ := h.at_; exact ⟨i + 1, by simpa using h1, fun B => by simp [h2]⟩⟩
theorem lookB_set {l : List (Nat × List Value)} (hn : (l.map Prod.fst).Nodup) {k g : Nat} {cs cs' : List Value} (h : l[k]? = some (g, cs)) (x : Nat) : lookB (l.set k (g, cs')) x = if x = g then some cs' else lookB l x := by
  induction l generalizing k with
  | nil => simp at h
  | cons y l ih =>
    obtain ⟨g0, c0⟩ := y
    simp only [List.map_cons, List.nodup_cons] at hn
    cases k with
    | zero =>
      simp at h
      obtain ⟨rfl, rfl⟩ := h
      simp only [List.set_cons_zero, lookB]
      by_cases e : x = g0
      · simp [e]
      · simp [e]
    | succ k =>
      simp only [List.getElem?_cons_succ] at h
      simp only [List.set_cons_succ, lookB]
      have hne : g ≠ g0 := fun e => hn.1 (by rw [← e]; exact List.mem_map.2 ⟨(g, cs), List.mem_of_getElem? h, rfl⟩)
      by_cases e : x = g0
      · subst e; rw [if_pos rfl, if_neg (Ne.symm hne), if_pos rfl]
      · rw [if_neg e, if_neg e]; exact ih hn.2 h
theorem fst_set {l : List (Nat × List Value)} {k g : Nat} {cs cs' : List Value} (h : l[k]? = some (g, cs)) : (l.set k (g, cs')).map Prod.fst = l.map Prod.fst := by
  rw [List.map_set]
  apply List.ext_getElem?
  intro i
  rw [List.getElem?_set]
  split
  · rename_i e; subst e
    split
    · rw [List.getElem?_map, h]; rfl
    · rename_i h2; rw [List.getElem?_eq_none (by omega)]
  · rfl
section
variable {C : Cx} {all : Array Oper} {o : Oper} {env : Env} {ec : EnvC} {H : List HA} {d : Nat} {Φ : Env → EnvC → List HA → Prop}
theorem OpT.storeM {b off k : Nat} {u : Value} {t : TypeId} {l : List (Nat × List Value)} {cs : List Value} {rb : HA → List HA} (hg : gOf all env ec o = some []) (hd : o.dst = none) (he : evSt C.S env ec o = some (b, off, 1, u)) [hf : FocusMW H t l rb]
    (hk : l[k]? = some (b, cs)) (h1 : u.oneCell' = true) (hl : off < cs.length) (h : Φ env ec (rb (blks t (l.set k (b, cs.set off u))))) : OpT C all o env ec H Φ := by
  obtain ⟨i, hi, hrb⟩ := hf.at_
  have hcu : u.cells.toList = [u] := by cases u <;> first | rfl | (simp [Value.oneCell'] at h1)
  refine OpT.skip hg hd fun a w ha hw => ?_
  have hb := hw.blks hi hk
  have hbn : C.w0.heap.size ≤ b := by
    obtain ⟨F, f1, f2, f3⟩ := hw.sep
    have hil : i < H.length := (List.getElem?_eq_some_iff.1 hi).1
    obtain ⟨hn, hF⟩ := f1 i _ hi
    exact (f2 i b _ hil (by rw [hF, lookB_get hn hk]; rfl)).1
  obtain ⟨w', g1, g2, g3, g4, g5, g6, g7⟩ := run_storeL C.S.P b t [u] 0 off cs w hb (by simp; omega) (by simp [oneCells, h1])
  refine ⟨w', _, ?_, ⟨?_, ?_⟩, h⟩
  · obtain ⟨dst, op, ty, pos, aft, gd⟩ := o
    unfold evSt at he
    dsimp only at he
    split at he
    · rename_i t' x y
      split at he
      · rename_i d0 n' m z b' off' v' ht hx hy
        cases he
        have hsz := (Sig.tyOk ht).sizeOf w
        dsimp only at hsz
        have hsize : u.cells.size = 1 := by have := congrArg List.length hcu; simpa using this
        simp only [execOp, evX_spec ha (Holds.nil _ _) hx, evX_spec ha (Holds.nil _ _) hy, Instr.storeAt, Instr.sureAddr, storeVar]
        simp [hsz, hsize, hcu, g1]
      · cases he
    · cases he
  · exact hw.below.trans ⟨g4, g5, g6, by omega, fun c hc => g3 c (by omega)⟩
  · rw [hrb]
    refine hw.sep.swap hi fun f hF hfw => ?_
    obtain ⟨hn, hF⟩ := hF
    refine ⟨fun x => if x = b then some (.cells (cs.set off u).toArray t (0, 0)) else f x, ⟨by rw [fst_set hk]; exact hn, fun x => ?_⟩, fun x ob hx => ?_, fun c hc hfc => ?_⟩
    · rw [lookB_set hn hk]
      dsimp only
      by_cases e : x = b
      · rw [if_pos e, if_pos e]; rfl
      · rw [if_neg e, if_neg e]; exact hF x
    · dsimp only at hx
      by_cases e : x = b
      · subst e
        rw [if_pos rfl] at hx
        cases hx
        refine ⟨hbn, by simpa [setL] using g2, .inl ?_⟩
        rw [hF, lookB_get hn hk]; simp
      · rw [if_neg e] at hx
        have := hfw x ob hx
        refine ⟨this.1, (g3 x e).trans this.2, .inl ?_⟩
        rw [hx]; simp
    · refine g3 c fun e => ?_
      subst e
      rw [hF, lookB_get hn hk] at hfc
      cases hfc
end
/-! ## Rows of numbers, frozen -/
def intsD (l : List Int) : D := .s 1 (l.map fun n => .v (.int .i64 n))
def rowsD (m : List (List Int)) : D := .s 1 (m.map intsD)
theorem rd_blks {f : Frag} {t : TypeId} {k cap : Nat} (hk : k ≤ cap) (hcap : cap ≤ 9223372036854775807) : ∀ {L : List (Nat × List Value)}, (∀ x ∈ L, f x.1 = some (.cells x.2.toArray t (0, 0)) ∧ k ≤ x.2.length) →
    Rd (fr f) (L.map fun x => .slice (some ⟨x.1, 0, none⟩) k cap) (L.map fun x => D.s 1 ((x.2.take k).map .v))
  | [], _ => .nil
  | x :: L, h => by
    obtain ⟨h1, h2⟩ := h x (List.mem_cons_self ..)
    refine Rd.s (some ⟨x.1, 0, none⟩) k cap 1 (x.2.take k) (by simp; omega) hk hcap (fun _ => ⟨rfl, fun j u hu => ?_⟩) (Rd.vals _) (rd_blks hk hcap fun y hy => h y (List.mem_cons_of_mem _ hy))
    show fr f x.1 (0 + j) = some u
    unfold fr
    rw [h1, Nat.zero_add]
    rw [List.getElem?_take] at hu
    split at hu
    · simpa using hu
    · cases hu
/-- Many blocks, read as rows of k numbers each. -/
theorem dat_blks {t : TypeId} {L : List (Nat × List Value)} {H : List HA} (k cap : Nat) (hk : k ≤ cap) (hcap : cap ≤ 9223372036854775807) (hL : ∀ x ∈ L, k ≤ x.2.length) :
    Hle (blks t L :: H) (dat (L.map fun x => .slice (some ⟨x.1, 0, none⟩) k cap) (L.map fun x => D.s 1 ((x.2.take k).map .v)) :: H) :=
  hle_map fun f ⟨hn, hf⟩ => rd_blks hk hcap fun x hx => by
    obtain ⟨i, hi, e⟩ := List.getElem_of_mem hx
    refine ⟨?_, hL x hx⟩
    rw [hf, lookB_get hn (k := i) (cs := x.2) (by rw [List.getElem?_eq_getElem hi, e])]
    rfl
theorem dat_take {vs : List Value} {ds : List D} {H : List HA} (n : Nat) : Hle (dat vs ds :: H) (dat (vs.take n) (ds.take n) :: H) := hle_map fun _ h => (Rd.take h n).1
theorem blk_row_take {b : Nat} {cs : List Value} {e : TypeId} {n : Nat} (hn : n ≤ cs.length) (hm : cs.length ≤ maxLen) : ∀ f, blk b cs e f → row e 1 (some ⟨b, 0, none⟩) cs.length n (cs.take n) f :=
  fun f hf => ⟨by simp; omega, .inr ⟨b, cs.toArray, rfl, hf, hn, hm, by simp, by simp⟩⟩
end Go.Proofs.YtiglobijdegjdaaDoor
