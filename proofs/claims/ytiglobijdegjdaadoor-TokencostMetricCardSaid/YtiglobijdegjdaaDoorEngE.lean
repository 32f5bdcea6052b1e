/- The engine, fifth part: that operations give what is reckoned. It speaks of any program. -/
import Derived.Test.YtiglobijdegjdaaDoorEngD
namespace Go.Proofs.YtiglobijdegjdaaDoor
open Go.RowKit Go.Shelf

theorem run_minI (k : IntKind) (P : Program) (w : World) : ∀ (l : List Value) (a : Int) (v : Value), minI k a l = some v → (l.foldlM Builtin.min2 (.int k a)).run P w = .ok v w
  | [], a, v, h => by cases h; rfl
  | x :: l, a, v, h => by
    cases x <;> simp only [minI] at h <;> try (cases h; done)
    rename_i k' b
    cases hk : sameK k k' with
    | false => rw [hk] at h; cases h
    | true =>
      rw [hk] at h
      have e := sameK_eq hk
      subst e
      simp only [cond_true] at h
      have hm : (if b < a then b else a) = min a b := by rw [Int.min_def]; split <;> split <;> omega
      have ih := run_minI k P w l _ v h
      simp only [List.foldlM_cons, Builtin.min2, hm]
      simpa using ih
theorem run_maxI (k : IntKind) (P : Program) (w : World) : ∀ (l : List Value) (a : Int) (v : Value), maxI k a l = some v → (l.foldlM Builtin.max2 (.int k a)).run P w = .ok v w
  | [], a, v, h => by cases h; rfl
  | x :: l, a, v, h => by
    cases x <;> simp only [maxI] at h <;> try (cases h; done)
    rename_i k' b
    cases hk : sameK k k' with
    | false => rw [hk] at h; cases h
    | true =>
      rw [hk] at h
      have e := sameK_eq hk
      subst e
      simp only [cond_true] at h
      have ih := run_maxI k P w l _ v h
      simp only [List.foldlM_cons]
      have hm : (Builtin.max2 (.int k a) (.int k b)) = pure (.int k (max a b)) := by
        simp only [Builtin.max2]
        congr 2
        rw [Int.max_def]; split <;> split <;> omega
      rw [hm]
      simpa using ih
theorem plain_of_struct (fs : List (TypeId × Nat)) : (Ty.struct fs).plain = true := rfl

theorem evP_spec {S : Sig} {N : FK} {all : Array Oper} {env : Env} {ec : EnvC} {G : GId} {o : Oper} {v : Value} {a : Act} (ha : Agrees N all env ec a) (hG : Holds all a G)
    (h : evP S all env ec G o = some v) (w : World) : (execOp a.eval o).run S.P w = .ok (.value v) w := by
  obtain ⟨dst, op, ty, pos, aft, gd⟩ := o
  unfold evP at h
  dsimp only at h
  split at h
  · -- move
    simp only [execOp]; rw [evX_spec ha hG h]; rfl
  · simp only [execOp]; rw [evX_spec ha hG h]; rfl
  · -- pick
    rename_i c x y
    split at h
    · rename_i b hc
      have hc' := evX_spec ha hG hc
      split at h
      · rename_i u v' hu hv
        have e1 : b = true → a.eval x = .bool u := fun e => evArm_spec ha hG hu (by rw [hc', e])
        have e2 : b = false → a.eval y = .bool v' := fun e => evArm_spec ha hG hv (by rw [hc', e])
        have key : (execOp a.eval ⟨dst, .pick c x y, ty, pos, aft, gd⟩).run S.P w = .ok (.value (.bool (cond b u v'))) w := by
          simp only [execOp, hc']
          cases b with
          | true => simp [asBool, e1 rfl]
          | false => simp [asBool, e2 rfl]
        rw [key]
        split at h
        · cases h
          have : v' = false := by
            have h9 : evArm all env ec G c false (.const (.bool false)) = some (.bool false) := rfl
            rw [h9] at hv; cases hv; rfl
          subst this
          cases b <;> rfl
        · cases h
          have : u = true := by
            have h9 : evArm all env ec G c true (.const (.bool true)) = some (.bool true) := rfl
            rw [h9] at hu; cases hu; rfl
          subst this
          cases b <;> rfl
        · cases h; rfl
      · cases h
    · cases h
  · -- binOp
    rename_i op t x y t2
    split at h
    · rename_i u u' hu hv
      have := evBin_spec (P := S.P) (t := t) (p := x) (q := y) h w
      simp only [execOp, evX_spec ha hG hu, evX_spec ha hG hv]
      rw [Sem.run_bind, this]; rfl
    · cases h
  · -- not
    split at h
    · rename_i b hb; cases h; simp [execOp, evX_spec ha hG hb, Op.unary]
    · cases h
  · -- extract
    split at h
    · rename_i vs hx
      simp only [execOp, evX_spec ha hG hx, Instr.extract]
      rw [Array.getElem?_toList] at h
      rw [h]; rfl
    · cases h
  · -- fieldAddr
    rename_i s x f
    split at h
    · rename_i fs n1 n2 n3 b o' hs hx
      have hk := Sig.tyOk hs
      obtain ⟨fa, hfa, hfs⟩ := hk.fits
      split at h
      · rename_i t off hf
        split at h
        · rename_i d n m z ht
          cases h
          have hkt := Sig.tyOk ht
          have hget : ∃ F : Field, fa[f]? = some F ∧ F.type = t ∧ F.offset = off := by
            rw [← hfs, List.getElem?_map, Array.getElem?_toList] at hf
            cases hq : fa[f]? with
            | none => rw [hq] at hf; cases hf
            | some F => rw [hq] at hf; simp at hf; exact ⟨F, rfl, hf.1, hf.2⟩
          obtain ⟨F, hF, e1, e2⟩ := hget
          have hsz : (sizeOf F.type).run S.P w = .ok (n + 1) w := by rw [e1]; exact hkt.sizeOf w
          simp only [execOp, evX_spec ha hG hx, Instr.fieldAt]
          simp [run_underlying hfa, hF, Instr.sureAddr, fieldPlace, hsz, e2, Addr.add]
          try (split <;> simp_all)
        · cases h
      · cases h
    · cases h
  · -- field
    rename_i s x f
    split at h
    · rename_i fs n1 n2 n3 cs hs hx
      have hk := Sig.tyOk hs
      obtain ⟨fa, hfa, hfs⟩ := hk.fits
      split at h
      · rename_i t off hf
        split at h
        · rename_i d n m z ht
          have hkt := Sig.tyOk ht
          have hget : ∃ F : Field, fa[f]? = some F ∧ F.type = t ∧ F.offset = off := by
            rw [← hfs, List.getElem?_map, Array.getElem?_toList] at hf
            cases hq : fa[f]? with
            | none => rw [hq] at hf; cases hf
            | some F => rw [hq] at hf; simp at hf; exact ⟨F, rfl, hf.1, hf.2⟩
          obtain ⟨F, hF, e1, e2⟩ := hget
          cases hp : d.plain with
          | false => rw [hp] at h; cases h
          | true =>
            rw [hp] at h
            simp only [cond_true] at h
            have hsz : (sizeOf F.type).run S.P w = .ok n w := by rw [e1]; exact hkt.sizeOf w
            have hia : (isAgg F.type).run S.P w = .ok d.isAgg w := by rw [e1]; exact hkt.isAgg w hp
            simp only [execOp, evX_spec ha hG hx, Instr.field]
            cases hd : d.isAgg with
            | true =>
              rw [hd] at h hia
              simp only [cond_true, Option.some.injEq] at h
              subst h
              simp [run_underlying hfa, hF, asAgg, part, hia, hsz, e2]
              apply Array.ext'
              simp only [Array.toList_extract, List.extract_eq_take_drop, Nat.add_sub_cancel_left]
            | false =>
              rw [hd] at h hia
              simp only [cond_false] at h
              rw [Array.getElem?_toList] at h
              simp [run_underlying hfa, hF, asAgg, part, hia, e2, h]
        · cases h
      · cases h
    · cases h
  · -- makeFunc
    split at h
    · rename_i us vs hu hv
      cases h
      have e1 := evL_spec ha hG hu
      have e2 := evL_spec ha hG hv
      simp only [execOp, Instr.makeFunc]
      have e3 : Array.map a.eval _ = us.toArray := Array.ext' (by rw [Array.toList_map]; exact e1)
      have e4 : Array.map a.eval _ = vs.toArray := Array.ext' (by rw [Array.toList_map]; exact e2)
      rw [e3, e4]
      rfl
    · cases h
  · -- makeInterface
    rename_i t x
    split at h
    · rename_i d n1 n2 n3 u ht hx
      have hk := (Sig.tyOk ht).fits
      cases hi : isIface d with
      | true => rw [hi] at h; cases h
      | false =>
        rw [hi] at h
        simp only [cond_false, Option.some.injEq] at h
        subst h
        simp only [execOp, evX_spec ha hG hx, Instr.makeInterface]
        revert hk hi
        cases d <;> simp only [isIface, Ty.fits] <;> intro hk hi <;> first
          | (cases hi; done)
          | (obtain ⟨_, hk, _⟩ := hk; simp [run_underlying hk]; done)
          | (obtain ⟨_, _, _, hk⟩ := hk; simp [run_underlying hk]; done)
          | (simp [run_underlying hk]; done)
    · cases h
  · -- builtins
    rename_i b xs ts
    have hargs : ∀ {l}, evL env ec G xs.toList = some l → (xs.map a.eval) = l.toArray := by
      intro l hl
      have := evL_spec ha hG hl
      apply Array.ext'
      simp [this]
    have hts : ∀ {t}, ts.toList = [t] → ts = #[t] := fun e => Array.ext' (by simpa using e)
    split at h
    · rename_i s t hl e
      split at h
      · rename_i m1 m2 m3 ht
        cases h
        have hk := (Sig.tyOk ht).fits
        simp only [Ty.fits] at hk
        simp [execOp, resolve, invoke, builtin, hargs hl, hts e, Builtin.len_, run_underlying hk, goInt]
      · cases h
    · rename_i a0 n c t hl e
      split at h
      · rename_i m0 m1 m2 m3 ht
        cases h
        have hk := (Sig.tyOk ht).fits
        simp only [Ty.fits] at hk
        simp [execOp, resolve, invoke, builtin, hargs hl, hts e, Builtin.len_, run_underlying hk, goInt]
      · cases h
    · rename_i a0 n c t hl e
      split at h
      · rename_i m0 m1 m2 m3 ht
        cases h
        have hk := (Sig.tyOk ht).fits
        simp only [Ty.fits] at hk
        simp [execOp, resolve, invoke, builtin, hargs hl, hts e, Builtin.cap_, run_underlying hk, goInt]
      · cases h
    · rename_i k n l hl
      have := run_minI k S.P w l n v h
      simp [execOp, resolve, invoke, builtin, hargs hl, Builtin.min_, this]
    · rename_i k n l hl
      have := run_maxI k S.P w l n v h
      simp [execOp, resolve, invoke, builtin, hargs hl, Builtin.max_, this]
    · cases h
  · cases h
end Go.Proofs.YtiglobijdegjdaaDoor
