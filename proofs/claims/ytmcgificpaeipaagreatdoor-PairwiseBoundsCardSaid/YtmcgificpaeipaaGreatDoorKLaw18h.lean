/- The law PairwiseBounds holds for whatever costs and tokens: the tied card of its row. No condition beyond the row's own. -/
import Derived.Test.YtmcgificpaeipaaGreatDoorJ4
import Derived.Laws.IdiomCopy
import Derived.Lib.Overlaps
import Derived.Laws.Externs
import Derived.Test.YtmcgificpaeipaaGreatDoorCards
import Derived.Test.YtmcgificpaeipaaGreatDoorTie
set_option linter.unusedVariables false
set_option linter.unusedSimpArgs false
/- The engine: 'copy' into a row of the call's own; a row whose whole room is known; a row that grows by zeros into a new block; calls of a function without a body. It speaks of any program. -/
namespace Go.Proofs.YtmcgificpaeipaaGreatDoor
open Go.RowKit Go.Shelf
set_option maxRecDepth 100000
set_option maxHeartbeats 1000000

/-! ## The whole room of a row -/
theorem row_len {e : TypeId} {sz cap n : Nat} {A : Option Addr} {xs : List Value} {f : Frag} (h : row e sz A cap n xs f) : n ≤ cap := by
  obtain ⟨_, h⟩ := h
  rcases h with ⟨_, rfl, rfl, _⟩ | ⟨g, cur, _, _, h, _⟩
  · exact Nat.le_refl _
  · exact h
theorem row_all {e : TypeId} {sz cap n : Nat} {A : Option Addr} {xs : List Value} {f : Frag} (h : row e sz A cap n xs f) : ∃ ys, xs.length + ys.length = cap * sz ∧ row e sz A cap cap (xs ++ ys) f := by
  obtain ⟨h1, h2⟩ := h
  rcases h2 with ⟨rfl, rfl, rfl, rfl⟩ | ⟨g, cur, rfl, rfl, h3, h4, h5, h6⟩
  · exact ⟨[], by simpa using h1, by simpa using h1, .inl ⟨rfl, rfl, rfl, rfl⟩⟩
  · have hl : cur.toList.length = cap * sz := by simpa using h5
    have hs : n * sz ≤ cap * sz := Nat.mul_le_mul_right _ h3
    have hcur : xs ++ cur.toList.drop (n * sz) = cur.toList := by rw [← h6]; exact List.take_append_drop _ _
    refine ⟨cur.toList.drop (n * sz), by rw [List.length_drop, hl, h1]; omega, by rw [hcur]; exact hl, .inr ⟨g, cur, rfl, rfl, Nat.le_refl _, h4, h5, ?_⟩⟩
    rw [hcur, List.take_of_length_le (by omega)]
theorem row_cut {e : TypeId} {sz cap n k : Nat} {A : Option Addr} {xs : List Value} {f : Frag} (hk : k ≤ n) (h : row e sz A cap n xs f) : row e sz A cap k (xs.take (k * sz)) f := by
  obtain ⟨h1, h2⟩ := h
  have hs : k * sz ≤ n * sz := Nat.mul_le_mul_right _ hk
  refine ⟨by rw [List.length_take, h1]; omega, ?_⟩
  rcases h2 with ⟨rfl, rfl, rfl, rfl⟩ | ⟨g, cur, rfl, rfl, h3, h4, h5, h6⟩
  · exact .inl ⟨rfl, rfl, by omega, rfl⟩
  · exact .inr ⟨g, cur, rfl, rfl, by omega, h4, h5, by rw [← h6, List.take_take, Nat.min_eq_left hs]⟩
section
variable {C : Cx} {env : Env} {ec : EnvC} {H : List HA}
theorem T_rowAll {k : List It} {A : Option Addr} {e sz cap n : Nat} {xs : List Value} {rb : HA → List HA} [hf : FocusR H A e sz cap n xs rb] (h : ∀ ys, n ≤ cap → xs.length = n * sz → xs.length + ys.length = cap * sz → T C k env ec (rb (row e sz A cap cap (xs ++ ys)))) : T C k env ec H := by
  refine T.mk fun a w ha hw => ?_
  obtain ⟨i, hi, hrb⟩ := hf.at_
  obtain ⟨F, h1, h2, h3⟩ := hw.sep
  obtain ⟨ys, hy, hr⟩ := row_all (h1 i _ hi)
  refine (h ys (row_len (h1 i _ hi)) (h1 i _ hi).1 hy) a w ha ⟨hw.below, ?_⟩
  rw [hrb]
  have hil : i < H.length := (List.getElem?_eq_some_iff.1 hi).1
  refine ⟨F, fun j A' hj => ?_, fun j b o hj => h2 j b o (by simpa using hj), fun j1 j2 b ha hb => h3 j1 j2 b (by simpa using ha) (by simpa using hb)⟩
  rw [List.getElem?_set] at hj
  by_cases hij : i = j
  · subst hij
    rw [if_pos rfl, if_pos hil] at hj
    cases hj
    exact hr
  · rw [if_neg hij] at hj
    exact h1 j A' hj
theorem T_rowLe {k : List It} {A : Option Addr} {e sz cap n : Nat} {xs : List Value} {rb : HA → List HA} [hf : FocusR H A e sz cap n xs rb] (h : n ≤ cap → T C k env ec H) : T C k env ec H := by
  refine T.mk fun a w ha hw => ?_
  obtain ⟨i, hi, hrb⟩ := hf.at_
  obtain ⟨F, h1, h2, h3⟩ := hw.sep
  exact (h (row_len (h1 i _ hi))) a w ha hw
theorem Hle.drop2 (A B : HA) (K : List HA) : Hle (A :: B :: K) (A :: K) := by
  refine Hle.pick (fun i => if i = 0 then 0 else i + 1) (fun i X h => ?_) (fun i j _ _ h => by show (if i = 0 then 0 else i + 1) ≠ (if j = 0 then 0 else j + 1); split <;> split <;> omega)
  cases i with
  | zero => simpa using h
  | succ i => simpa using h
theorem Hle.rowCut {e : TypeId} {sz cap n k : Nat} {A : Option Addr} {xs ys : List Value} {K : List HA} (hk : k ≤ n) (he : xs.take (k * sz) = ys) : Hle (row e sz A cap n xs :: K) (row e sz A cap k ys :: K) :=
  Hle.weaken (i := 0) rfl (fun _ h => he ▸ row_cut hk h) rfl
end

/-! ## copy -/
def evCp (S : Sig) (env : Env) (ec : EnvC) (o : Oper) : Option (Option Addr × Nat × Option Addr × Nat × TypeId) :=
  match o.op with
  | .call { callee := .builtin .copy, args := xs, argTypes := ts } => match evL env ec [] xs.toList, ts.toList with
    | some [.slice A n _, .slice B m _], [t, _] => match S.ty t with
      | some ⟨.slice e, _, _, _⟩ => some (A, n, B, m, e)
      | _ => none
    | _, _ => none
  | _ => none
section
variable {C : Cx} {all : Array Oper} {o : Oper} {env : Env} {ec : EnvC} {H : List HA} {d : Nat} {Φ : Env → EnvC → List HA → Prop}
/-- 'copy' into a row of the call's own, whatever lies in the place from which it copies. -/
theorem OpT.copyR {g off dl sl k : Nat} {A' B : Option Addr} {e : TypeId} {ty : TyI} {sz cap n : Nat} {xs us : List Value} {rb : HA → List HA} (hg : gOf all env ec o = some []) (he : evCp C.S env ec o = some (A', dl, B, sl, e)) (hd : o.dst = some d) (hN : Nat.blt d C.N.n = true) (hs : safeC all d ec = true)
    (ht : C.S.ty e = some ty) (hsz : Nat.beq ty.size sz = true) [hf : FocusR H (some ⟨g, 0, none⟩) e sz cap n xs rb] (hA' : A' = some ⟨g, off, none⟩) (hk : min sl dl = k) (hsrc : ∀ w, Cls C.w0 w H → Src w sz B k us) (h1 : oneCells us = true) (hl : off + us.length ≤ n * sz)
    (h : Φ ((d, .int .i64 k) :: env) ec (rb (row e sz (some ⟨g, 0, none⟩) cap n (setL xs off us)))) : OpT C all o env ec H Φ := by
  subst hA'
  have hsz' : ty.size = sz := Nat.eq_of_beq_eq_true hsz
  obtain ⟨i, hi, hrb⟩ := hf.at_
  obtain ⟨x, hx, hx1, hx2, hx3⟩ := (Sig.tyOk ht).info'
  refine OpT.eff hg fun a w ha hw => ?_
  obtain ⟨F, f1, f2, f3⟩ := hw.sep
  have hil : i < H.length := (List.getElem?_eq_some_iff.1 hi).1
  obtain ⟨hxl, hrow⟩ := f1 i _ hi
  rcases hrow with ⟨h9, _⟩ | ⟨g', cur, hA, hF, g1, g2, g3, g4⟩
  · cases h9
  cases hA
  obtain ⟨hbn, hb⟩ := f2 i g (.cells cur e (0, 0)) hil (by rw [hF]; simp [one])
  have hsn : n * sz ≤ cap * sz := Nat.mul_le_mul_right _ g1
  have hcl : cur.toList.length = cap * sz := by simpa using g3
  obtain ⟨w', k1, k2, k3, k4, k5, k6, k7⟩ := run_storeL C.S.P g e us 0 off cur.toList w (by simpa using hb) (by rw [hcl]; omega) h1
  obtain ⟨hul, hat⟩ := hsrc w hw
  have hload : ∀ cc, (Builtin.firstCells x.size k (.slice B sl cc)).run C.S.P w = .ok us.toArray w := fun cc => by
    rw [hx1, hsz']
    rcases B with _ | ad
    · have hk0 : ¬ 0 < k := fun h9 => by
        have := (hat h9).1
        simp [isAt] at this
      have hu0 : us = [] := List.eq_nil_of_length_eq_zero (by rw [hul, show k = 0 by omega, Nat.zero_mul])
      subst hu0
      simp [Builtin.firstCells]
    · simp only [Builtin.firstCells]
      rw [← hul]
      refine run_loadCells_list (P := C.S.P) w ad us fun j u hu => ?_
      have hj : j < us.length := (List.getElem?_eq_some_iff.1 hu).1
      have hk0 : 0 < k := by
        rcases Nat.eq_zero_or_pos k with h9 | h9
        · rw [h9, Nat.zero_mul] at hul; omega
        · exact h9
      obtain ⟨h8, h9⟩ := hat hk0
      obtain ⟨ab, ao, ap⟩ := ad
      have h7 : ap = none := by simpa [isAt, bk, ofs] using h8
      subst h7
      have := h9 j u hu
      unfold Addr.add
      split
      · rename_i e0; subst e0; simpa [bk, ofs] using this
      · simpa [bk, ofs] using this
  obtain ⟨dst, op, ty0, pos, aft, gd⟩ := o
  unfold evCp at he
  dsimp only at he
  split at he
  · rename_i ps ts
    split at he
    · rename_i A1 n1 c1 B1 m1 c2 t u hps hts
      split at he
      · rename_i e1 q1 q2 q3 hty
        cases he
        have hut := (Sig.tyOk hty).fits
        simp only [Ty.fits] at hut
        have hargs : ps.map a.eval = #[.slice (some ⟨g, off, none⟩) dl c1, .slice B sl c2] := Array.ext' (by rw [Array.toList_map]; exact evL_spec ha (Holds.nil _ _) hps)
        have hts' : ts = #[t, u] := Array.ext' hts
        have hcp : (Builtin.copy_ #[t, u] ty0 #[.slice (some ⟨g, off, none⟩) dl c1, .slice B sl c2]).run C.S.P w = .ok (goInt k) w' := by
          have hk' : Nat.min sl dl = k := hk
          simp [Builtin.copy_, run_underlying hut, Builtin.lenOf, sizeOf, typeInfo, hx, hk', hload, k1]
        refine ⟨.int .i64 k, w', rb (row e sz (some ⟨g, 0, none⟩) cap n (setL xs off us)), ?_, ⟨?_, ?_⟩, d, hd, hN, hs, h⟩
        · simp [execOp, resolve, invoke, builtin, hargs, hts', hcp, goInt]
        · exact hw.below.trans ⟨k4, k5, k6, by omega, fun c hc => k3 c (by omega)⟩
        · rw [hrb]
          refine hw.sep.turn hi (fun f hf => ?_) (fun c hc _ => k3 c hc) k2 ?_
          · obtain ⟨_, hr⟩ := hf
            rcases hr with ⟨h9, _⟩ | ⟨g', cur', hA', hF', _⟩
            · cases h9
            · cases hA'; exact ⟨_, hF'⟩
          · refine ⟨by rw [setL_length]; exact hxl, .inr ⟨g, _, rfl, rfl, g1, g2, by rw [List.size_toArray, setL_length]; exact hcl, ?_⟩⟩
            rw [Nat.add_zero]
            show (setL cur.toList off us).take (n * sz) = _
            rw [setL_take _ _ _ (by omega), g4]
      · cases he
    · cases he
  · cases he

/-! ## A row that grows by zeros: a new block; the old one stays. -/
def evAppG (S : Sig) (env : Env) (ec : EnvC) (o : Oper) : Option (Option Addr × Nat × Nat × TypeId × Int) :=
  match o.op with
  | .call { callee := .builtin .append, args := xs, argTypes := ts } => match evL env ec [] xs.toList, ts.toList with
    | some [.slice A n c, .int _ z], [t, u] => match S.ty t, S.ty u with
      | some ⟨.slice e, _, _, _⟩, some ⟨.int _, _, _, _⟩ => some (A, n, c, e, z)
      | _, _ => none
    | _, _ => none
  | _ => none
theorem OpT.appendG {A : Option Addr} {m k c : Nat} {e sz : Nat} {ty : TyI} {us : List Value} {z : Int} (hg : gOf all env ec o = some []) (he : evAppG C.S env ec o = some (A, m, c, e, z)) (hd : o.dst = some d) (hN : Nat.blt d C.N.n = true) (hs : safeC all d ec = true)
    (ht : C.S.ty e = some ty) (hsz : Nat.beq ty.size sz = true) (hzs : Nat.beq ty.zero.cells.size sz = true) (hpos : Nat.blt 0 sz = true) (hsrc : ∀ w, Cls C.w0 w H → Src w sz A m us) (hz0 : z = ((k : Nat) : Int)) (hk : 0 < k) (hgr : c < m + k) (hc : c < 256) (hb : 2 * ((m + k) * ty.bytes) ≤ 140737488355328) (hb2 : m + k ≤ 4611686018427387904)
    (h : ∀ b cap' zs, m + k ≤ cap' → zs.length = k * sz → Φ ((d, .slice (some ⟨b, 0, none⟩) (m + k) cap') :: env) ec (row e sz (some ⟨b, 0, none⟩) cap' (m + k) (us ++ zs) :: H)) : OpT C all o env ec H Φ := by
  subst hz0
  have hsz' : ty.size = sz := Nat.eq_of_beq_eq_true hsz
  have hzs' : ty.zero.cells.size = sz := Nat.eq_of_beq_eq_true hzs
  have hpos' : 0 < sz := by rw [Nat.blt_eq] at hpos; exact hpos
  obtain ⟨x, hx, hx1, hx2, hx3⟩ := (Sig.tyOk ht).info'
  refine OpT.eff hg fun a w ha hw => ?_
  obtain ⟨hul, hat⟩ := hsrc w hw
  have hload : (Builtin.firstCells x.size m (.slice A m c)).run C.S.P w.drew = .ok us.toArray w.drew := by
    rw [hx1, hsz']
    rcases A with _ | ad
    · have hk0 : ¬ 0 < m := fun h9 => by
        have := (hat h9).1
        simp [isAt] at this
      have hu0 : us = [] := List.eq_nil_of_length_eq_zero (by rw [hul, show m = 0 by omega, Nat.zero_mul])
      subst hu0
      simp [Builtin.firstCells]
    · simp only [Builtin.firstCells]
      rw [← hul]
      refine run_loadCells_list (P := C.S.P) w.drew ad us fun j u hu => ?_
      have hj : j < us.length := (List.getElem?_eq_some_iff.1 hu).1
      have hk0 : 0 < m := by
        rcases Nat.eq_zero_or_pos m with h9 | h9
        · rw [h9, Nat.zero_mul] at hul; omega
        · exact h9
      obtain ⟨h8, h9⟩ := hat hk0
      obtain ⟨ab, ao, ap⟩ := ad
      have h7 : ap = none := by simpa [isAt, bk, ofs] using h8
      subst h7
      have := h9 j u hu
      unfold Addr.add
      split
      · rename_i e0; subst e0; simpa [bk, ofs] using this
      · simpa [bk, ofs] using this
  obtain ⟨dst, op, ty0, pos, aft, gd⟩ := o
  unfold evAppG at he
  dsimp only at he
  split at he
  · rename_i ps ts
    split at he
    · rename_i A1 n1 c1 kq k0 t u hps hts
      split at he
      · rename_i e1 q1 q2 q3 kn q4 q5 q6 hty htu
        cases he
        have hut := (Sig.tyOk hty).fits
        simp only [Ty.fits] at hut
        have hun := (Sig.tyOk htu).fits
        simp only [Ty.fits] at hun
        have hle2 : Builtin.nextslicecap (m + k) c ≤ 2 * (m + k) := by
          unfold Builtin.nextslicecap
          (repeat' split) <;> omega
        have hcap : Builtin.nextslicecap (m + k) c * x.bytes ≤ 281474976710656 := by
          rw [hx2]
          refine Nat.le_trans (Nat.mul_le_mul_right _ hle2) ?_
          rw [Nat.mul_assoc]
          omega
        have hkb : k * ty.bytes ≤ (m + k) * ty.bytes := Nat.mul_le_mul_right _ (by omega)
        have hrun := Go.Lib.run_append_grow_zeros (P := C.S.P) w t u ty0 e x ty.zero kq kn hut hun hx hx3 A m c us hload k hk (by rw [hx1, hsz']; exact hpos') hgr (by omega) (by rw [hx2]; omega) hcap
        have hge := grownCap_ge w (m + k) c e
        have hle := grownCap_le_maxLen w (m + k) c e (by simp only [maxLen]; omega)
        have hargs : ps.map a.eval = #[.slice A m c, .int kq k] := Array.ext' (by rw [Array.toList_map]; exact evL_spec ha (Holds.nil _ _) hps)
        have hts' : ts = #[t, u] := Array.ext' hts
        have hz : ∀ n, (Builtin.zeroCells ty.zero.cells n).size = n * sz := fun n => by
          unfold Builtin.zeroCells
          rw [← hzs']
          simp
        refine ⟨.slice (some ⟨w.heap.size, 0, none⟩) (m + k) (grownCap w (m + k) c e), w.drew.alloc (.cells (us.toArray ++ Builtin.zeroCells ty.zero.cells k ++ Builtin.zeroCells ty.zero.cells (grownCap w (m + k) c e - (m + k))) e), row e sz (some ⟨w.heap.size, 0, none⟩) (grownCap w (m + k) c e) (m + k) (us ++ (Builtin.zeroCells ty.zero.cells k).toList) :: H, ?_, ?_, d, hd, hN, hs, h _ _ _ hge (by rw [Array.length_toList, hz])⟩
        · simp [execOp, resolve, invoke, builtin, hargs, hts', hrun]
        · refine Cls.alloc (w := w.drew) hw.drew _ ?_
          have hzl : (Builtin.zeroCells ty.zero.cells k).toList.length = k * sz := by rw [Array.length_toList, hz]
          refine ⟨by rw [List.length_append, hul, hzl, Nat.add_mul], .inr ⟨w.heap.size, _, rfl, rfl, hge, hle, ?_, ?_⟩⟩
          · simp only [Array.size_append, hz, List.size_toArray, hul]
            rw [← Nat.add_mul, ← Nat.add_mul]
            congr 1
            omega
          · simp only [Array.toList_append]
            rw [List.take_append_of_le_length (by simp [hul, hz, Nat.add_mul]), List.take_of_length_le (by simp [hul, hz, Nat.add_mul])]
      · cases he
    · cases he
  · cases he

/-! ## Calls of functions without a body -/
theorem evCall_run {P : Program} {N : FK} {all : Array Oper} {env : Env} {ec : EnvC} {G : GId} {o : Oper} {a : Act} (ha : Agrees N all env ec a) (hG : Holds all a G) {f : FuncId} {args : List Value}
    (h : evCall env ec G o = some (f, args)) (w : World) : (execOp a.eval o).run P w = (callFunc f args.toArray).run P w := by
  obtain ⟨dst, op, ty, pos, aft, gd⟩ := o
  unfold evCall at h
  dsimp only at h
  split at h
  · rename_i x xs ts
    split at h
    · rename_i g fs cs vs hx hvs
      cases h
      have e1 := evL_spec ha hG hvs
      have e2 : xs.map a.eval = vs.toArray := Array.ext' (by rw [Array.toList_map]; exact e1)
      have e3 : (fs.toList ++ (vs ++ cs.toList)).toArray = fs ++ vs.toArray ++ cs := Array.ext' (by simp)
      simp only [execOp, resolve, e2, evX_spec ha hG hx, Deferred.ofValue]
      rw [e3]
      simp [invoke]
    · cases h
  · cases h
theorem OpT.callX {f : FuncId} {args : List Value} {v : Value} (hg : gOf all env ec o = some []) (he : evCall env ec [] o = some (f, args)) (hd : o.dst = some d) (hN : Nat.blt d C.N.n = true) (hs : safeC all d ec = true)
    (hrun : ∀ w, Cls C.w0 w H → (callFunc f args.toArray).run C.S.P w = .ok (.value v) w) (h : Φ ((d, v) :: env) ec H) : OpT C all o env ec H Φ :=
  OpT.eff hg fun _ w ha hw => ⟨v, w, H, by rw [evCall_run ha (Holds.nil _ _) he w]; exact hrun w hw, hw, d, hd, hN, hs, h⟩
end
theorem setL_eq : ∀ (us cs : List Value) (off : Nat), off + us.length ≤ cs.length → setL cs off us = cs.take off ++ (us ++ cs.drop (off + us.length))
  | [], cs, off, h => by simp [setL]
  | u :: us, cs, off, h => by
    simp only [List.length_cons] at h
    have e : cs.set off u = cs.take off ++ u :: cs.drop (off + 1) := by rw [List.set_eq_take_append_cons_drop, if_pos (by omega)]
    have hl : (cs.take off).length = off := by rw [List.length_take]; omega
    simp only [setL]
    rw [setL_eq us (cs.set off u) (off + 1) (by simp; omega), e, List.take_append, List.drop_append, hl, show off + 1 - off = 1 by omega, List.take_of_length_le (l := cs.take off) (by rw [hl]; omega), show (cs.take off).drop (off + 1 + us.length) = [] from List.drop_eq_nil_of_le (by rw [hl]; omega),
      show off + 1 + us.length - off = us.length + 1 by omega]
    simp [Nat.add_assoc, Nat.add_comm 1]
theorem cutA_at {a ca lo sz : Nat} (h : lo < ca) : cutA (some ⟨a, 0, none⟩) ca lo sz = some ⟨a, lo * sz, none⟩ := by
  unfold cutA
  rw [if_neg (by omega)]
  simp only [Option.map_some, Addr.add]
  split
  · rename_i e; rw [e]
  · simp
/-- The shape of a row's block. -/
theorem rowShape {C : Cx} {H : List HA} {g : Nat} {e sz cap n : Nat} {xs : List Value} {rb : HA → List HA} [hf : FocusR H (some ⟨g, 0, none⟩) e sz cap n xs rb] : ∀ w, Cls C.w0 w H → w.shape? g = some (e, cap * sz) ∧ ∀ off, w.frozen? ⟨g, off, none⟩ = false := by
  intro w hw
  obtain ⟨i, hi, _⟩ := hf.at_
  obtain ⟨F, h1, h2, h3⟩ := hw.sep
  have hil : i < H.length := (List.getElem?_eq_some_iff.1 hi).1
  obtain ⟨hl, hr⟩ := h1 i _ hi
  rcases hr with ⟨h9, _⟩ | ⟨g', cur, hA, hF, g1, g2, g3, g4⟩
  · cases h9
  · cases hA
    have hb := (h2 i g (.cells cur e (0, 0)) hil (by rw [hF]; simp [one])).2
    refine ⟨by simp [World.shape?, hb, g3], fun off => by simp [World.frozen?, hb]⟩
/-- Two rows lie in two blocks. -/
theorem rows_ne {n0 : Nat} {w : World} {H : List HA} {i j g1 g2 : Nat} {e1 z1 c1 n1 e2 z2 c2 n2 : Nat} {x1 x2 : List Value} (hw : Sep n0 w H) (hi : H[i]? = some (row e1 z1 (some ⟨g1, 0, none⟩) c1 n1 x1)) (hj : H[j]? = some (row e2 z2 (some ⟨g2, 0, none⟩) c2 n2 x2)) (hij : i ≠ j) : g1 ≠ g2 := by
  obtain ⟨F, h1, h2, h3⟩ := hw
  have hil : i < H.length := (List.getElem?_eq_some_iff.1 hi).1
  have hjl : j < H.length := (List.getElem?_eq_some_iff.1 hj).1
  obtain ⟨_, hr⟩ := h1 i _ hi
  obtain ⟨_, hs⟩ := h1 j _ hj
  intro e
  subst e
  rcases hr with ⟨h9, _⟩ | ⟨g', cur, hA, hF, _⟩
  · cases h9
  rcases hs with ⟨h9, _⟩ | ⟨g'', cur', hA', hF', _⟩
  · cases h9
  cases hA; cases hA'
  rcases h3 i j g1 hil hjl hij with h | h
  · rw [hF] at h; simp [one] at h
  · rw [hF'] at h; simp [one] at h
end Go.Proofs.YtmcgificpaeipaaGreatDoor
/- Walks: slices.Insert of one token. -/
namespace Go.Proofs.YtmcgificpaeipaaGreatDoor
open Go.RowKit Go.Shelf Go.Proofs
set_option maxRecDepth 100000
set_option maxHeartbeats 1000000

theorem setL_mid {P X R T : List Value} {p : Nat} (hp : P.length = p) (hx : X.length = T.length) : setL (P ++ (X ++ R)) p T = P ++ (T ++ R) := by
  subst hp
  rw [setL_eq _ _ _ (by simp [hx]), List.take_left]
  congr 2
  rw [← List.drop_drop, List.drop_left, ← hx, List.drop_left]
theorem ins_place {P Q ys T : List Value} {p m : Nat} (hp : P.length = p) (hm : T.length = m) (hy : m ≤ ys.length) : (setL (setL ((P ++ Q) ++ ys) (p + m) Q) p T).take (p + m + Q.length) = P ++ (T ++ Q) := by
  have e1 : Q ++ ys = (Q ++ ys).take m ++ (((Q ++ ys).drop m).take Q.length ++ ((Q ++ ys).drop m).drop Q.length) := by rw [List.take_append_drop, List.take_append_drop]
  have hz : ((Q ++ ys).take m).length = m := by rw [List.length_take, List.length_append]; omega
  have hx : (((Q ++ ys).drop m).take Q.length).length = Q.length := by rw [List.length_take, List.length_drop, List.length_append]; omega
  rw [List.append_assoc, e1, ← List.append_assoc P, setL_mid (by rw [List.length_append, hz, hp]) hx, List.append_assoc, setL_mid hp (by rw [hz, hm])]
  rw [← List.append_assoc T, ← List.append_assoc P]
  exact List.take_left' (by simp [hp, hm]; omega)
theorem ins_grow {P Q Z T : List Value} {p m : Nat} (hp : P.length = p) (hm : T.length = m) (hz : Z.length = m + Q.length) : setL (setL (P ++ Z) p T) (p + m) Q = P ++ (T ++ Q) := by
  have h1 : (Z.take m).length = T.length := by rw [List.length_take]; omega
  rw [show P ++ Z = P ++ (Z.take m ++ Z.drop m) by rw [List.take_append_drop], setL_mid hp h1, ← List.append_assoc, show Z.drop m = Z.drop m ++ [] by simp, setL_mid (by simp [hp, hm]) (by rw [List.length_drop]; omega)]
  simp
/-- A list with one token more. -/
def insT (l : List Tok) (i : Nat) (t : Tok) : List Tok := l.take i ++ (t :: l.drop i)
theorem insT_flat (l : List Tok) (i : Nat) (t : Tok) : (insT l i t).flatMap Tok.cells = (l.take i).flatMap Tok.cells ++ (t.cells ++ (l.drop i).flatMap Tok.cells) := by
  unfold insT; rw [List.flatMap_append, List.flatMap_cons]
theorem flat_cut (l : List Tok) (i : Nat) : l.flatMap Tok.cells = (l.take i).flatMap Tok.cells ++ (l.drop i).flatMap Tok.cells := by rw [← List.flatMap_append, List.take_append_drop]
theorem src_front {w : World} {sz n cap : Nat} {A : Option Addr} {xs ys : List Value} (h : Src w sz A cap (xs ++ ys)) (hx : xs.length = n * sz) (hn : n ≤ cap) : Src w sz A n xs :=
  ⟨hx, fun h0 => ⟨(h.2 (by omega)).1, fun j u hu => (h.2 (by omega)).2 j u (by rw [List.getElem?_append_left (List.getElem?_eq_some_iff.1 hu).1]; exact hu)⟩⟩
theorem insertT_spec (A : Option Addr) (n c g : Nat) (l : List Tok) (t : Tok) (i : Nat) (w0 : World) (K : List HA) (hl : l.length = n) (hi : i ≤ n) (hb : n ≤ 100) :
    SpecB Tryz.prog 38 [.slice A n c, .int .i64 i, .slice (some ⟨g, 0, none⟩) 1 1] w0 (row 48 6 A c n (l.flatMap Tok.cells) :: row 48 6 (some ⟨g, 0, none⟩) 1 1 t.cells :: K)
      (fun v R => ∃ x : Option Addr × Nat, True ∧ v = .slice x.1 (n + 1) x.2 ∧ R = row 48 6 x.1 x.2 (n + 1) ((insT l i t).flatMap Tok.cells) :: K) := by
  refine specB_of sg Tryz.func38 rfl rfl rfl ?_
  refine T_rowLe (A := A) (fun hnc => ?_)
  repeat' (first | refine d1 ?_ | refine dd ?_ | (show ∀ _ : Nat, T _ _ _ _ _; intro _))
  refine T_if rfl (fun h => ?_) (fun h => ?_)
  · exfalso; simp at h
  repeat' (first | refine d1 ?_ | refine dd ?_ | (show ∀ _ : Nat, T _ _ _ _ _; intro _))
  refine T_if rfl (fun h => ?_) (fun h => ?_)
  · simp only [decide_eq_true_eq] at h
    obtain rfl : i = n := by omega
    have hfin : (insT l i t).flatMap Tok.cells = l.flatMap Tok.cells ++ t.cells := by
      rw [insT_flat, List.take_of_length_le (by omega), List.drop_eq_nil_of_le (by omega)]; simp
    repeat' (first | refine d1 ?_ | refine dd ?_ | (show T _ (.ops _ (_ :: _) :: _) _ _ _; refine T_op (OpT.append rfl rfl rfl rfl rfl rfl rfl rfl rfl rfl (fun w hw => srcRw w hw) rfl (by dsimp only; omega) (by omega) (fun A' cap' hA' => ?_))) | (show ∀ _ : Nat, T _ _ _ _ _; intro _) | (show T _ (.code .ret :: _) _ _ _; refine T_retV _ rfl (Hle.drop2 _ _ _) ⟨(A', cap'), trivial, rfl, by rw [hfin]⟩))
  · simp only [decide_eq_false_iff_not] at h
    have hin : i < n := by omega
    have htc : t.cells.length = 6 := rfl
    have hpl : ((l.take i).flatMap Tok.cells).length = i * 6 := by rw [flatT_length, List.length_take]; omega
    have hql : ((l.drop i).flatMap Tok.cells).length = (n - i) * 6 := by rw [flatT_length, List.length_drop, hl]
    refine T_rowpos (A := A) (by omega) (fun a e => ?_)
    subst e
    repeat' (first | refine d1 ?_ | refine dd ?_ | (show ∀ _ : Nat, T _ _ _ _ _; intro _))
    refine T_if rfl (fun h => ?_) (fun h => ?_)
    · simp only [decide_eq_true_eq] at h
      repeat' (first | refine d1 ?_ | (show T _ (.ops _ (_ :: _) :: _) _ _ _; first | refine T_op (OpT.appendG (k := n + 1 - i) (sz := 6) (us := (l.take i).flatMap Tok.cells) rfl rfl rfl rfl rfl rfl rfl rfl rfl (fun w hw => src_take Tok.cells 6 (fun _ => rfl) (srcRw (A := some ⟨a, 0, none⟩) w hw) hl i hi) (by omega) (by omega) (by omega) (by omega) (by dsimp only; omega) (by omega) (fun b cap' zs hc' hzs' => ?_)) | refine T_op (OpT.copyR (g := b) (k := 1) (us := t.cells) rfl rfl rfl rfl rfl rfl rfl (cutA_at (by omega)) (by omega) (fun w hw => srcRw (A := some ⟨g, 0, none⟩) w hw) rfl (by omega) ?_)) | (show ∀ _ : Nat, T _ _ _ _ _; intro _))
      have hg : setL (setL ((l.take i).flatMap Tok.cells ++ zs) ((i : Int).toNat * 6) t.cells) (((i : Int) + ((1 : Nat) : Int)).toNat * 6) ((l.drop i).flatMap Tok.cells) = (insT l i t).flatMap Tok.cells := by
        rw [insT_flat, show ((i : Int) + ((1 : Nat) : Int)).toNat * 6 = i * 6 + 6 by omega]
        exact ins_grow hpl htc (by rw [hql]; omega)
      refine rsH [] 1000 [0, 1, 2, 3, 4, 5, 6, 7, 8] ?_
      repeat' (first | refine d1 ?_ | refine dd ?_ | (show T _ (.run _ _ (_ :: _) _ _ :: _) _ _ _; refine ro rfl rfl (OpT.copyR (g := b) (k := n - i) (us := (l.drop i).flatMap Tok.cells) rfl rfl rfl rfl rfl rfl rfl (cutA_at (by omega)) (by omega) (fun w hw => by have h9 := src_sub (A := some ⟨a, 0, none⟩) (ca := c) Tok.cells 6 (fun _ => rfl) (srcRw (A := some ⟨a, 0, none⟩) w hw) hl i n hi (Nat.le_refl _) hnc; rwa [List.take_of_length_le (l := l) (by omega)] at h9) (oneToks _) (by omega) ⟨fun _ => Hle.none _, ?_⟩)) | (show ∀ _ : Nat, T _ _ _ _ _; intro _))
      rw [show (i : Int).toNat + (n + 1 - i) = n + 1 by omega, hg]
      refine T_retV _ rfl ((Hle.drop2 _ _ _).trans (Hle.drop2 _ _ _)) ⟨(some ⟨b, 0, none⟩, cap'), trivial, rfl, rfl⟩
    · simp only [decide_eq_false_iff_not] at h
      refine T_rowAll (A := some ⟨a, 0, none⟩) (fun ys hnc2 hx1 hx2 => ?_)
      have hp : (setL (setL (l.flatMap Tok.cells ++ ys) (((i : Int) + ((1 : Nat) : Int)).toNat * 6) ((l.drop i).flatMap Tok.cells)) ((i : Int).toNat * 6) t.cells).take ((n + 1) * 6) = (insT l i t).flatMap Tok.cells := by
        have h9 := ins_place (P := (l.take i).flatMap Tok.cells) (Q := (l.drop i).flatMap Tok.cells) (ys := ys) (T := t.cells) hpl htc (by omega)
        rw [insT_flat, ← h9, ← flat_cut, hql, show ((i : Int) + ((1 : Nat) : Int)).toNat * 6 = i * 6 + 6 by omega, show i * 6 + 6 + (n - i) * 6 = (n + 1) * 6 by omega]
        rfl
      have hov : ∀ w, Cls w0 w (row 48 6 (some ⟨a, 0, none⟩) c c (l.flatMap Tok.cells ++ ys) :: row 48 6 (some ⟨g, 0, none⟩) 1 1 t.cells :: K) → ∀ la lb ca cb, (callFunc 67 #[.slice (some ⟨g, 0, none⟩) la ca, .slice (some ⟨a, (i + 1) * 6, none⟩) lb cb]).run Tryz.prog w = .ok (.value (.bool false)) w := by
        intro w hw la lb ca cb
        obtain ⟨s1, z1⟩ := rowShape (C := FC sg 0 [] w0 Tryz.f38 (fun _ _ => True)) (g := g) w hw
        obtain ⟨s2, z2⟩ := rowShape (C := FC sg 0 [] w0 Tryz.f38 (fun _ _ => True)) (g := a) w hw
        have hne : g ≠ a := rows_ne hw.sep (i := 1) (j := 0) rfl rfl (by decide)
        rw [run_callFunc_extern Tryz.func67 (by kernel_rfl) (by kernel_rfl) (by kernel_rfl) (e := Extern.SlicesOverlaps.overlaps #[24, 24] #[4]) (by kernel_rfl),
          Go.Lib.run_overlaps_apart (P := Tryz.prog) w 24 4 48 (Sig.tyOk (S := sg) (t := 24) rfl).fits 6 (Sig.tyOk (S := sg) (t := 48) rfl).sizeOf ⟨g, 0, none⟩ ⟨a, (i + 1) * 6, none⟩ la ca lb cb hne _ _ _ _ s1 s2 (by omega) (z1 _) (z1 _)]
        rfl
      repeat' (first | refine d1 ?_ | refine dd ?_ | (show ∀ _ : Nat, T _ _ _ _ _; intro _))
      refine T_op (OpT.callX (v := .bool false) rfl rfl rfl rfl rfl (fun w hw => by have h9 := hov w hw; rw [show cutA (some ⟨a, 0, none⟩) c ((i : Int) + ((1 : Nat) : Int)).toNat 6 = some ⟨a, (i + 1) * 6, none⟩ from cutA_at (by omega)]; exact h9 _ _ _ _) ?_)
      repeat' (first | refine d1 ?_ | refine dd ?_ | (show ∀ _ : Nat, T _ _ _ _ _; intro _))
      refine T_if rfl (fun h => ?_) (fun h => ?_)
      · repeat' (first | refine d1 ?_ | (show ∀ _ : Nat, T _ _ _ _ _; intro _))
        refine rsH [] 1000 [0, 1, 2, 3, 4, 5, 6, 7, 8] ?_
        repeat' (first | refine d1 ?_ | refine dd ?_ | (show T _ (.ops _ (_ :: _) :: _) _ _ _; refine T_op (OpT.copyR (g := a) (k := 1) (us := t.cells) rfl rfl rfl rfl rfl rfl rfl (cutA_at (by omega)) (by omega) (fun w hw => srcRw (A := some ⟨g, 0, none⟩) w hw) rfl (by omega) ?_)) | (show T _ (.run _ _ (_ :: _) _ _ :: _) _ _ _; refine ro rfl rfl (OpT.copyR (g := a) (k := n - i) (us := (l.drop i).flatMap Tok.cells) rfl rfl rfl rfl rfl rfl rfl (cutA_at (by omega)) (by omega) (fun w hw => by have h9 := src_sub (A := some ⟨a, 0, none⟩) (ca := c) Tok.cells 6 (fun _ => rfl) (src_front (srcRw (A := some ⟨a, 0, none⟩) w hw) hx1 hnc2) hl i n hi (Nat.le_refl _) hnc; rwa [List.take_of_length_le (l := l) (by omega)] at h9) (oneToks _) (by omega) ⟨fun _ => Hle.none _, ?_⟩)) | (show ∀ _ : Nat, T _ _ _ _ _; intro _))
        refine T_retV _ rfl ((Hle.drop2 _ _ _).trans (Hle.rowCut (k := n + 1) (by omega) (ys := (insT l i t).flatMap Tok.cells) hp)) ⟨(some ⟨a, 0, none⟩, c), trivial, rfl, rfl⟩
      · cases h
end Go.Proofs.YtmcgificpaeipaaGreatDoor
namespace Go.Proofs.YtmcgificpaeipaaGreatDoor
open Go.RowKit Go.Shelf Go.ChangeShapes Go.WideShapes Go.Proofs
set_option maxRecDepth 100000
set_option maxHeartbeats 1000000

theorem insT_len {l : List Tok} {q : Nat} {t : Tok} (hq : q ≤ l.length) : (insT l q t).length = l.length + 1 := by
  unfold insT; rw [List.length_append, List.length_cons, List.length_take, List.length_drop]; omega
theorem insT_lo {l : List Tok} {q i : Nat} {t : Tok} (hq : q ≤ l.length) (h : i < q) : tkA (insT l q t) i = tkA l i := by
  unfold tkA insT
  rw [List.getD_eq_getElem?_getD, List.getD_eq_getElem?_getD, List.getElem?_append_left (by rw [List.length_take]; omega), List.getElem?_take_of_lt h]
theorem insT_at {l : List Tok} {q : Nat} {t : Tok} (hq : q ≤ l.length) : tkA (insT l q t) q = t := by
  unfold tkA insT
  have e : (l.take q).length = q := by rw [List.length_take]; omega
  rw [List.getD_eq_getElem?_getD, List.getElem?_append_right (by omega), e, Nat.sub_self]
  rfl
theorem insT_hi {l : List Tok} {q i : Nat} {t : Tok} (hq : q ≤ l.length) (h : q ≤ i) : tkA (insT l q t) (i + 1) = tkA l i := by
  unfold tkA insT
  have e : (l.take q).length = q := by rw [List.length_take]; omega
  rw [List.getD_eq_getElem?_getD, List.getD_eq_getElem?_getD, List.getElem?_append_right (by omega), e, show i + 1 - q = (i - q) + 1 by omega, List.getElem?_cons_succ, List.getElem?_drop, show q + (i - q) = i by omega]
theorem insT_mem {l : List Tok} {q : Nat} {t x : Tok} (h : x ∈ insT l q t) : x ∈ l ∨ x = t := by
  unfold insT at h
  rcases List.mem_append.1 h with h | h
  · exact .inl (List.mem_of_mem_take h)
  · rcases List.mem_cons.1 h with h | h
    · exact .inr h
    · exact .inl (List.mem_of_mem_drop h)
theorem grd_one (c : Costs) (a b : List Tok) {q : Nat} (t : Tok) (hq : q ≤ a.length) : One (grdOf c a b) (grdOf c (insT a q t) b) q (gapC c t) :=
  ⟨hq, insT_len hq, rfl, fun i k hi _ => by show pairC c _ _ = pairC c _ _; rw [insT_lo hq hi], fun i hi => by show gapC c _ = gapC c _; rw [insT_lo hq hi], by show gapC c _ = _; rw [insT_at hq],
    fun i k hi _ _ => by show pairC c _ _ = pairC c _ _; rw [insT_hi hq hi], fun i hi _ => by show gapC c _ = gapC c _; rw [insT_hi hq hi], fun _ _ => rfl⟩
/-- The gaps beside the first of some tokens. -/
def gapS (c : Costs) (l : List Tok) (j : Nat) : Int := ((l.take j).map (gapC c)).sum
theorem gapS_succ (c : Costs) {l : List Tok} {j : Nat} {t : Tok} (h : l[j]? = some t) : gapS c l (j + 1) = gapS c l j + gapC c t := by
  unfold gapS; rw [take_snoc _ _ _ h, List.map_append, List.sum_append]; simp
theorem gapS_bd {c : Costs} (hc : costE c = 0) (l : List Tok) : ∀ j, 0 ≤ gapS c l j ∧ gapS c l j ≤ 1000 * (j : Int)
  | 0 => by simp [gapS]
  | j + 1 => by
    have ih := gapS_bd hc l j
    obtain ⟨c1, _⟩ := costE_ok hc
    cases h : l[j]? with
    | none =>
      have hl : l.length ≤ j := List.getElem?_eq_none_iff.1 h
      have e : gapS c l (j + 1) = gapS c l j := by unfold gapS; rw [List.take_of_length_le hl, List.take_of_length_le (by omega)]
      rw [e]; omega
    | some t =>
      have := gapC_bd hc t
      rw [gapS_succ c h]; omega
theorem gaps_dist {c : Costs} (hc : costE c = 0) (a b : List Tok) : rst (grdOf c a b) 0 0 ≤ gapS c (a ++ b) (a.length + b.length) := by
  have h := rst_gaps (G := grdOf c a b) (la := a.map (gapC c)) (lb := b.map (gapC c)) (by simp; rfl) (by simp; rfl)
    (fun i hi => by rw [List.getElem?_map, tkA_get (l := a) (i := i) hi]; rfl) (fun k hk => by rw [List.getElem?_map, tkA_get (l := b) (i := k) hk]; rfl) 0 0
  unfold gapS
  rw [List.take_of_length_le (by simp), List.map_append, List.sum_append]
  simpa using h
theorem gaps_none {c : Costs} (hc : costE c = 0) (a b : List Tok) : rst (grdOf c a []) 0 0 ≤ gapS c (a ++ b) (a.length + b.length) := by
  have h := gaps_dist hc a []
  have h2 := (gapS_bd hc b b.length).1
  unfold gapS at h h2 ⊢
  rw [List.take_of_length_le (by simp), List.map_append, List.sum_append]
  rw [List.take_of_length_le (by simp)] at h h2
  simp at h
  omega
theorem same_zero {c : Costs} (hc : costE c = 0) {a : List Tok} (hl : a.length ≤ 1000) : rst (grdOf c a a) 0 0 = 0 := by
  have h1 := (rst_bd2 (grdOf_ok hc a a) rfl rfl hl hl 0 0).1
  have h2 := rst_same (G := grdOf c a a) rfl (fun i _ => pairC_self c _ _ rfl) 0 (Nat.zero_le _)
  omega
theorem tsOk3 {w : World} {A B D : Option Addr} {ca cb cd : Nat} {a b d : List Tok} (ha : Src w 6 A a.length (a.flatMap Tok.cells)) (hna : a.length ≤ 9223372036854775807) (hb : Src w 6 B b.length (b.flatMap Tok.cells)) (hnb : b.length ≤ 9223372036854775807)
    (hd : Src w 6 D d.length (d.flatMap Tok.cells)) (hnd : d.length ≤ 9223372036854775807) : TsOk w [⟨A, a.length, ca, a⟩, ⟨B, b.length, cb, b⟩, ⟨D, d.length, cd, d⟩] :=
  ⟨fun t ht => by simp at ht; rcases ht with rfl | rfl | rfl <;> assumption, fun t ht => by simp at ht; rcases ht with rfl | rfl | rfl <;> rfl, fun t ht => by simp at ht; rcases ht with rfl | rfl | rfl <;> assumption⟩
theorem insA {A : Option Addr} {b n cap : Nat} {t : Tok} {xs : List Value} {K : List HA} : Hle (blk b (flatP [(0, t.val)]) 48 :: row 48 6 A cap n xs :: K) (row 48 6 A cap n xs :: row 48 6 (some ⟨b, 0, none⟩) 1 1 t.cells :: K) :=
  (Hle.perm (List.Perm.swap _ _ _)).trans (Hle.weaken (i := 1) rfl (blk_row (n := 1) rfl (by simp [maxLen])) rfl)
theorem insB {A : Option Addr} {b n cap : Nat} {t : Tok} {xs : List Value} {K : List HA} : Hle (row 48 6 A cap n xs :: blk b (flatP [(0, t.val)]) 48 :: K) (row 48 6 A cap n xs :: row 48 6 (some ⟨b, 0, none⟩) 1 1 t.cells :: K) :=
  Hle.weaken (i := 1) rfl (blk_row (n := 1) rfl (by simp [maxLen])) rfl
theorem OpT.le {C : Cx} {all : Array Oper} {o : Oper} {env : Env} {ec : EnvC} {H H' : List HA} {Φ : Env → EnvC → List HA → Prop} (h : Hle H H') (hp : OpT C all o env ec H' Φ) : OpT C all o env ec H Φ := fun a w ha hw K Q hK => hp a w ha (hw.le h) K Q hK
theorem OpT.callBE {C : Cx} {all : Array Oper} {o : Oper} {env : Env} {ec : EnvC} {H : List HA} {d : Nat} {Φ : Env → EnvC → List HA → Prop} {f : FuncId} {args : List Value} {α : Type} {p : α → Prop} {val : α → Value} {own : α → List HA} (hg : gOf all env ec o = some []) (he : evCall env ec [] o = some (f, args)) (hd : o.dst = some d) (hN : Nat.blt d C.N.n = true) (hs : safeC all d ec = true)
    (hc : SpecB C.S.P f args C.w0 H (fun u A => ∃ x, p x ∧ u = val x ∧ A = own x)) (h : ∀ x, p x → Φ ((d, val x) :: env) ec (own x)) : OpT C all o env ec H Φ :=
  OpT.callB hg he hd hN hs hc (by rintro u A ⟨x, hp, rfl, rfl⟩; exact h x hp)
theorem insertT_spec' (A : Option Addr) (n c g : Nat) (l : List Tok) (t : Tok) (i : Nat) (z : Int) (w0 : World) (K : List HA) (hl : l.length = n) (hi : i ≤ n) (hb : n ≤ 100) (hz : z = ((i : Nat) : Int)) :
    SpecB Tryz.prog 38 [.slice A n c, .int .i64 z, .slice (some ⟨g, 0, none⟩) 1 1] w0 (row 48 6 A c n (l.flatMap Tok.cells) :: row 48 6 (some ⟨g, 0, none⟩) 1 1 t.cells :: K)
      (fun v R => ∃ x : Option Addr × Nat, True ∧ v = .slice x.1 (n + 1) x.2 ∧ R = row 48 6 x.1 x.2 (n + 1) ((insT l i t).flatMap Tok.cells) :: K) := hz ▸ insertT_spec A n c g l t i w0 K hl hi hb
theorem boundsLaw_spec (c : Costs) (A B : Option Addr) (ca cb : Nat) (a b : List Tok) (z : Int) (t : Tok) (w : World) (hst : Std w) (ha : Src w 6 A a.length (a.flatMap Tok.cells)) (hna : a.length ≤ 9223372036854775807)
    (hb : Src w 6 B b.length (b.flatMap Tok.cells)) (hnb : b.length ≤ 9223372036854775807) (hz : 0 ≤ z ∧ z ≤ 255) :
    Spec Tryz.prog 10 [c.val, .slice A a.length ca, .slice B b.length cb, .int .u8 z, t.val] w (fun v R => v = .bool true ∧ R = []) := by
  refine spec_of sg Tryz.func10 rfl rfl rfl ?_
  refine T_op (OpT.box (cs := c.cells) rfl rfl rfl rfl rfl rfl rfl (fun pc => ?_))
  refine T_op (OpT.box (cs := t.cells) rfl rfl rfl rfl rfl rfl rfl (fun pt => ?_))
  repeat' (first | refine d1 ?_ | refine dd ?_ | (show ∀ _ : Nat, T _ _ _ _ _; intro _))
  rename_i bt bl
  refine T_le (H' := [blk bl ([⟨A, a.length, ca, a⟩, ⟨B, b.length, cb, b⟩, ⟨some ⟨bt, 0, none⟩, 1, 1, [t]⟩].map TS.val) 24, blk bt ([t].flatMap Tok.cells) 48, blk pt t.cells 48, blk pc c.cells 23]) (Hle.refl _) ?_
  repeat' (first | refine d1 ?_ | refine dd ?_ | (show T _ (.ops _ (_ :: _) :: _) _ _ _; first | refine T_call rfl rfl rfl rfl rfl (fun w hw => fine18_spec c _ 3 _ [⟨A, a.length, ca, a⟩, ⟨B, b.length, cb, b⟩, ⟨some ⟨bt, 0, none⟩, [t].length, 1, [t]⟩] w (Src.own hw rfl) rfl (by omega) (tsOk3 (rdSrc ha w hw) hna (rdSrc hb w hw) hnb (Src.own (m := 1) hw rfl) (by simp))) ?_ | refine T_callC rfl rfl rfl rfl rfl rfl rfl (fun hg w hw => fine18_spec c _ 3 _ [⟨A, a.length, ca, a⟩, ⟨B, b.length, cb, b⟩, ⟨some ⟨bt, 0, none⟩, [t].length, 1, [t]⟩] w (Src.own hw rfl) rfl (by omega) (tsOk3 (rdSrc ha w hw) hna (rdSrc hb w hw) hnb (Src.own (m := 1) hw rfl) (by simp))) ?_) | (show T _ (.run _ _ (_ :: _) _ _ :: _) _ _ _; first | refine rc rfl rfl rfl rfl rfl rfl rfl (fun w hw => fine18_spec c _ 3 _ [⟨A, a.length, ca, a⟩, ⟨B, b.length, cb, b⟩, ⟨some ⟨bt, 0, none⟩, [t].length, 1, [t]⟩] w (Src.own hw rfl) rfl (by omega) (tsOk3 (rdSrc ha w hw) hna (rdSrc hb w hw) hnb (Src.own (m := 1) hw rfl) (by simp))) ?_ | refine rcG rfl rfl rfl rfl rfl rfl rfl rfl rfl (fun hg w hw => fine18_spec c _ 3 _ [⟨A, a.length, ca, a⟩, ⟨B, b.length, cb, b⟩, ⟨some ⟨bt, 0, none⟩, [t].length, 1, [t]⟩] w (Src.own hw rfl) rfl (by omega) (tsOk3 (rdSrc ha w hw) hna (rdSrc hb w hw) hnb (Src.own (m := 1) hw rfl) (by simp))) ?_) | (show ∀ _ : Nat, T _ _ _ _ _; intro _))
  refine T_if rfl (fun h => ?_) (fun h => ?_)
  · repeat' (first | refine d1 ?_ | refine dd ?_ | (show T _ (.ops _ (_ :: _) :: _) _ _ _; first | refine T_call rfl rfl rfl rfl rfl (fun w hw => awake18_spec w (hst.cls hw)) ?_ | refine T_callC rfl rfl rfl rfl rfl rfl rfl (fun hg w hw => awake18_spec w (hst.cls hw)) ?_) | (show T _ (.run _ _ (_ :: _) _ _ :: _) _ _ _; first | refine rc rfl rfl rfl rfl rfl rfl rfl (fun w hw => awake18_spec w (hst.cls hw)) ?_ | refine rcG rfl rfl rfl rfl rfl rfl rfl rfl rfl (fun hg w hw => awake18_spec w (hst.cls hw)) ?_) | (show ∀ _ : Nat, T _ _ _ _ _; intro _) | (show T _ (.code .ret :: _) _ _ _; refine T_retV [] rfl (Hle.none _) ⟨rfl, rfl⟩))
  simp only [Bool.or_eq_false_iff, Bool.not_eq_false', decide_eq_false_iff_not] at h
  obtain ⟨hc, hl⟩ := fine18_ok h.1
  obtain ⟨h1, h2, h3⟩ := hl _ (List.mem_cons_self ..)
  obtain ⟨h4, h5, h6⟩ := hl _ (List.mem_cons_of_mem _ (List.mem_cons_self ..))
  obtain ⟨h7, h8, h9⟩ := hl _ (List.mem_cons_of_mem _ (List.mem_cons_of_mem _ (List.mem_cons_self ..)))
  simp only at h1 h2 h3 h4 h5 h6 h8 h9
  have hts : t.small := h8 t (List.mem_singleton.2 rfl)
  have hte : tokE t = 0 := h9 t (List.mem_singleton.2 rfl)
  have hla : a.length ≤ 6 := by have := h.2; omega
  have h2w : Two w A B a.length b.length a b := ⟨hst, ha, rfl, by omega, hb, rfl, by omega, h2, h5⟩
  have h2s : Two w A A a.length a.length a a := ⟨hst, ha, rfl, by omega, ha, rfl, by omega, h2, h2⟩
  have h2n : Two w A none a.length 0 a [] := ⟨hst, ha, rfl, by omega, ⟨rfl, fun h => absurd h (by omega)⟩, rfl, by omega, h2, fun t ht => by simp at ht⟩
  have d0 : distV c a b = (rst (grdOf c a b) 0 0, 0) := if_pos (ckV_of hc h3 h6)
  have ds : distV c a a = (0, 0) := by unfold distV; rw [if_pos (ckV_of hc h3 h3), same_zero hc (by omega)]
  have dn : distV c a [] = (rst (grdOf c a []) 0 0, 0) := if_pos (ckV_of hc h3 (fun t ht => by simp at ht))
  have hgt : gapV c t = (gapC c t, 0) := if_pos ⟨hc, hte⟩
  have hsum : sumT [⟨A, a.length, ca, a⟩, ⟨B, b.length, cb, b⟩] = a.length + b.length := by simp [sumT]
  have hcat : catT [⟨A, a.length, ca, a⟩, ⟨B, b.length, cb, b⟩] = a ++ b := by simp [catT]
  refine T_le (H' := [blk pt t.cells 48, blk pc c.cells 23]) Hle.srt ?_
  repeat' (first | refine d1 ?_ | refine dd ?_ | (show T _ (.ops _ (_ :: _) :: _) _ _ _; refine T_callE rfl rfl rfl rfl rfl (fun w hw => concatT_spec _ 2 _ [⟨A, a.length, ca, a⟩, ⟨B, b.length, cb, b⟩] w (Src.own hw rfl) rfl (by omega) (tsOk2 (rdSrc ha w hw) hna (rdSrc hb w hw) hnb) (by rw [hsum]; omega)) (fun x _ => ?_)) | (show ∀ _ : Nat, T _ _ _ _ _; intro _))
  obtain ⟨Ac, cc⟩ := x
  rw [hsum, hcat]
  repeat' (first | refine d1 ?_ | refine dd ?_ | (show ∀ _ : Nat, T _ _ _ _ _; intro _))
  refine T_loopX (fun j : Nat => [(45, .int .i64 j), (11, .int .i64 (gapS c (a ++ b) j))]) (fun _ => [row 48 6 Ac cc (a.length + b.length) ((a ++ b).flatMap Tok.cells), blk pt t.cells 48, blk pc c.cells 23]) (fun j => j ≤ a.length + b.length) (fun j => a.length + b.length - j) 0 (Nat.zero_le _) ?_ (hG := by exact Hle.srt2)
  intro j hj
  repeat' (first | refine d1 ?_ | refine dd ?_ | (show ∀ _ : Nat, T _ _ _ _ _; intro _))
  refine T_if rfl (fun h => ?_) (fun h => ?_)
  · simp only [decide_eq_true_eq] at h
    obtain ⟨x, hx⟩ : ∃ x, (a ++ b)[j]? = some x := ⟨_, List.getElem?_eq_getElem (by rw [List.length_append]; omega)⟩
    have hxm : x ∈ a ∨ x ∈ b := List.mem_append.1 (List.mem_of_getElem? hx)
    have hxs : x.small := hxm.elim (h2 x) (h5 x)
    have hxe : tokE x = 0 := hxm.elim (h3 x) (h6 x)
    have hgx : gapV c x = (gapC c x, 0) := if_pos ⟨hc, hxe⟩
    have hbx := gapS_bd hc (a ++ b) j
    have hcx := gapC_bd hc x
    obtain ⟨c1, _⟩ := costE_ok hc
    refine T_rowpos (A := Ac) (by omega) (fun g e => ?_)
    subst e
    repeat' (first | refine d1 ?_ | refine dd ?_ | (show T _ (.ops _ (_ :: _) :: _) _ _ _; first | refine T_val rfl (Val.loadA (vs := x.cells) rfl (fun _ => rdRow (A := some ⟨g, 0, none⟩) (by omega) (fun q u hu => by rw [show 0 + (j : Int).toNat * 6 = j * 6 by omega]; exact flat_get Tok.cells 6 (fun _ => rfl) hx q u hu)) rfl) rfl rfl rfl ?_ | refine T_valC rfl (Val.loadA (vs := x.cells) rfl (fun _ => rdRow (A := some ⟨g, 0, none⟩) (by omega) (fun q u hu => by rw [show 0 + (j : Int).toNat * 6 = j * 6 by omega]; exact flat_get Tok.cells 6 (fun _ => rfl) hx q u hu)) rfl) rfl rfl rfl rfl rfl ?_ | refine T_call rfl rfl rfl rfl rfl (fun w hw => gapTop_spec c x hxs w (hst.cls hw)) ?_ | refine T_callC rfl rfl rfl rfl rfl rfl rfl (fun hg w hw => gapTop_spec c x hxs w (hst.cls hw)) ?_) | (show T _ (.run _ _ (_ :: _) _ _ :: _) _ _ _; first | refine rv rfl rfl rfl (Val.loadA (vs := x.cells) rfl (fun _ => rdRow (A := some ⟨g, 0, none⟩) (by omega) (fun q u hu => by rw [show 0 + (j : Int).toNat * 6 = j * 6 by omega]; exact flat_get Tok.cells 6 (fun _ => rfl) hx q u hu)) rfl) rfl rfl rfl ?_ | refine rg rfl rfl rfl (Val.loadA (vs := x.cells) rfl (fun _ => rdRow (A := some ⟨g, 0, none⟩) (by omega) (fun q u hu => by rw [show 0 + (j : Int).toNat * 6 = j * 6 by omega]; exact flat_get Tok.cells 6 (fun _ => rfl) hx q u hu)) rfl) rfl rfl rfl rfl rfl ?_ | refine rc rfl rfl rfl rfl rfl rfl rfl (fun w hw => gapTop_spec c x hxs w (hst.cls hw)) ?_ | refine rcG rfl rfl rfl rfl rfl rfl rfl rfl rfl (fun hg w hw => gapTop_spec c x hxs w (hst.cls hw)) ?_) | (show ∀ _ : Nat, T _ _ _ _ _; intro _))
    rw [hgx]
    refine T_if rfl (fun h4 => by exfalso; simp at h4) (fun h4 => ?_)
    repeat' (first | refine d1 ?_ | refine dd ?_ | (show ∀ _ : Nat, T _ _ _ _ _; intro _))
    exact T_backX (j + 1) (by omega) (by omega) (hE := ⟨rfl, by dsimp only; rw [gapS_succ c hx]; rfl, trivial⟩) (hG := by exact Hle.srt2)
  · simp only [decide_eq_false_iff_not] at h
    obtain rfl : j = a.length + b.length := by omega
    obtain ⟨q, hq0⟩ := Int.eq_ofNat_of_zero_le (Int.emod_nonneg z (show ((a.length : Int) + 1) ≠ 0 by omega))
    have hq1 := Int.emod_lt_of_pos z (show (0 : Int) < (a.length : Int) + 1 by omega)
    have hq : q ≤ a.length := by omega
    have hsi : ∀ x ∈ insT a q t, x.small := fun x hx => (insT_mem hx).elim (h2 x) (fun e => e ▸ hts)
    have hki : ∀ x ∈ insT a q t, tokE x = 0 := fun x hx => (insT_mem hx).elim (h3 x) (fun e => e ▸ hte)
    have di : distV c (insT a q t) b = (rst (grdOf c (insT a q t) b) 0 0, 0) := if_pos (ckV_of hc hki h6)
    repeat' (first | refine d1 ?_ | (show T _ (.ops _ (_ :: _) :: _) _ _ _; first | refine T_call rfl rfl rfl rfl rfl (fun w hw => distancePrg_spec c A A a.length a.length ca ca a a w (h2s.cls hw)) ?_ | refine T_callC rfl rfl rfl rfl rfl rfl rfl (fun hg w hw => distancePrg_spec c A A a.length a.length ca ca a a w (h2s.cls hw)) ?_ | refine T_call rfl rfl rfl rfl rfl (fun w hw => distancePrg_spec c A B a.length b.length ca cb a b w (h2w.cls hw)) ?_ | refine T_callC rfl rfl rfl rfl rfl rfl rfl (fun hg w hw => distancePrg_spec c A B a.length b.length ca cb a b w (h2w.cls hw)) ?_ | refine T_call rfl rfl rfl rfl rfl (fun w hw => distancePrg_spec c A none a.length 0 ca 0 a [] w (h2n.cls hw)) ?_ | refine T_callC rfl rfl rfl rfl rfl rfl rfl (fun hg w hw => distancePrg_spec c A none a.length 0 ca 0 a [] w (h2n.cls hw)) ?_) | (show T _ (.run _ _ (_ :: _) _ _ :: _) _ _ _; first | refine rc rfl rfl rfl rfl rfl rfl rfl (fun w hw => distancePrg_spec c A A a.length a.length ca ca a a w (h2s.cls hw)) ?_ | refine rcG rfl rfl rfl rfl rfl rfl rfl rfl rfl (fun hg w hw => distancePrg_spec c A A a.length a.length ca ca a a w (h2s.cls hw)) ?_ | refine rc rfl rfl rfl rfl rfl rfl rfl (fun w hw => distancePrg_spec c A B a.length b.length ca cb a b w (h2w.cls hw)) ?_ | refine rcG rfl rfl rfl rfl rfl rfl rfl rfl rfl (fun hg w hw => distancePrg_spec c A B a.length b.length ca cb a b w (h2w.cls hw)) ?_ | refine rc rfl rfl rfl rfl rfl rfl rfl (fun w hw => distancePrg_spec c A none a.length 0 ca 0 a [] w (h2n.cls hw)) ?_ | refine rcG rfl rfl rfl rfl rfl rfl rfl rfl rfl (fun hg w hw => distancePrg_spec c A none a.length 0 ca 0 a [] w (h2n.cls hw)) ?_) | (show ∀ _ : Nat, T _ _ _ _ _; intro _))
    refine T_le (H' := [blk pt t.cells 48, blk pc c.cells 23]) Hle.srt2 ?_
    refine T_cutX 1 [] (fun _ : Unit => [(22, .int .i64 (distV c (insT a q t) b).1), (23, .int .i64 (distV c (insT a q t) b).2)]) (fun _ => [blk pt t.cells 48, blk pc c.cells 23]) (fun _ => True) ?_ ?_
    · refine dw0 1000 [blk pt t.cells 48, blk pc c.cells 23] ?_
      repeat' (first | (show T _ (.draw _ _ _ _ _ :: _) _ _ _; first | refine dw1 ?_ | refine dwb rfl (by decide +kernel) ?_) | (show AllL _ []; exact True.intro) | (show AllL _ (_ :: _); refine ⟨?_, ?_⟩) | (show OpT _ _ _ _ _ _ _; first | refine dwx ?_ | refine OpT.callE1 rfl rfl rfl rfl rfl (fun w hw => cloneT_spec A a.length ca a w (rdSrc ha w hw) (by omega)) (fun xa _ => ⟨fun _ => (by first | exact Hle.none _ | exact Hle.sub | exact absurd ‹_› (by decide +kernel)), ?_⟩) | refine OpT.le (insA (n := a.length)) (OpT.callBE rfl rfl rfl rfl rfl (insertT_spec' _ a.length _ _ a t q _ w _ rfl hq (by omega) hq0) (fun x _ => ⟨fun _ => (by first | exact Hle.none _ | exact Hle.sub | exact absurd ‹_› (by decide +kernel)), ?_⟩)) | refine OpT.le (insB (n := a.length)) (OpT.callBE rfl rfl rfl rfl rfl (insertT_spec' _ a.length _ _ a t q _ w _ rfl hq (by omega) hq0) (fun x _ => ⟨fun _ => (by first | exact Hle.none _ | exact Hle.sub | exact absurd ‹_› (by decide +kernel)), ?_⟩)) | refine OpT.callV rfl rfl rfl rfl rfl (fun w hw => distancePrg_spec c _ B (a.length + 1) b.length _ cb (insT a q t) b w ⟨hst.cls hw, srcRowH (e := 48) hw, insT_len hq, by omega, rdSrc hb w hw, rfl, by omega, hsi, h5⟩) ⟨fun _ => (by first | exact Hle.none _ | exact Hle.sub | exact absurd ‹_› (by decide +kernel)), ?_⟩ | refine OpT.callC rfl rfl rfl rfl rfl rfl rfl (fun hg w hw => distancePrg_spec c _ B (a.length + 1) b.length _ cb (insT a q t) b w ⟨hst.cls hw, srcRowH (e := 48) hw, insT_len hq, by omega, rdSrc hb w hw, rfl, by omega, hsi, h5⟩) ⟨fun _ => (by first | exact Hle.none _ | exact Hle.sub | exact absurd ‹_› (by decide +kernel)), ?_⟩) | (show ∀ _ : Nat, T _ _ _ _ _; intro _) | (show T _ (.mark _ :: _) _ _ _; exact T_meetX () trivial (hG := by exact Hle.srt2)))
    rintro - -
    have b0 := rst_bd2 (grdOf_ok hc a b) rfl rfl (by omega) (by omega) 0 0
    have b1 := gaps_dist hc a b
    have b2 := gaps_none hc a b
    have b3 := rst_one (grd_one c a b t hq) 0 0 (Nat.zero_le _)
    have hcx := gapC_bd hc t
    obtain ⟨c1, _⟩ := costE_ok hc
    have hgv : 0 ≤ (gapV c t).1 ∧ (gapV c t).1 ≤ 1000 := by rw [hgt]; exact ⟨hcx.1, by have := hcx.2; show gapC c t ≤ 1000; omega⟩
    rw [di, ds, d0, dn]
    repeat' (first | refine d1 ?_ | refine dd ?_ | (show T _ (.ops _ (_ :: _) :: _) _ _ _; first | refine T_call rfl rfl rfl rfl rfl (fun w hw => gapTop_spec c t hts w (hst.cls hw)) ?_ | refine T_callC rfl rfl rfl rfl rfl rfl rfl (fun hg w hw => gapTop_spec c t hts w (hst.cls hw)) ?_ | refine T_call rfl rfl rfl rfl rfl (fun w hw => awake18_spec w (hst.cls hw)) ?_ | refine T_callC rfl rfl rfl rfl rfl rfl rfl (fun hg w hw => awake18_spec w (hst.cls hw)) ?_) | (show T _ (.run _ _ (_ :: _) _ _ :: _) _ _ _; first | refine rc rfl rfl rfl rfl rfl rfl rfl (fun w hw => gapTop_spec c t hts w (hst.cls hw)) ?_ | refine rcG rfl rfl rfl rfl rfl rfl rfl rfl rfl (fun hg w hw => gapTop_spec c t hts w (hst.cls hw)) ?_ | refine rc rfl rfl rfl rfl rfl rfl rfl (fun w hw => awake18_spec w (hst.cls hw)) ?_ | refine rcG rfl rfl rfl rfl rfl rfl rfl rfl rfl (fun hg w hw => awake18_spec w (hst.cls hw)) ?_) | (show ∀ _ : Nat, T _ _ _ _ _; intro _) | (show T _ (.code .ret :: _) _ _ _; refine T_retV [] rfl (Hle.none _) ⟨congrArg Value.bool ?_, rfl⟩))
    rw [hgt]
    simp [b0.1, b1, b2, b3]
theorem bounds_met (os : Os) (args : Array Value) : laidMetH Tryz.prog Rows.pairwiseBoundsRow.laid ((World.doorLaid Tryz.prog 400 os).forCall (fun _ _ => 0) ⟨#[], args, []⟩).memory :=
  laidMetH_of_parts3 (fuel := 8) (laidMet_of_run' 8 (by kernel_rfl) (by kernel_rfl)) (by kernel_rfl) (by kernel_rfl)
theorem bounds_lifted (os : Os) (started : os.Started) (H : Type) (enc : TypeId × Value → H) :
    ReturnsInHanded {} Tryz.checked os 10 .any (fun w args => (Rows.pairwiseBoundsSpec.pre enc Tryz.prog Tryz.f10 [] false w args ∧ laidMetH Tryz.prog Rows.pairwiseBoundsRow.laid w) ∧ sizedMet enc Tryz.prog Tryz.f10 (OpenSpec.ofChange Rows.pairwiseBoundsSpec) false w args)
      (Rows.pairwiseBoundsSpec.post enc Tryz.prog Tryz.f10 false true false false) := by
  refine returnsInHanded_of_change_and (C := Tryz.checked) (X := fun w _ => laidMetH Tryz.prog Rows.pairwiseBoundsRow.laid w) (fun _ _ _ hh h => h.of_heap hh) knob started (by kernel_rfl) Tryz.func10
    (ChangeSpec.witness_shaped (enc := enc) (C := Tryz.checked) (os := os) (X := fun w _ => laidMetH Tryz.prog Rows.pairwiseBoundsRow.laid w) false (World.doorLaid Tryz.prog 400 os) #[(⟨0, 0, 0, 0⟩ : Costs).val, .slice none 0 0, .slice none 0 0, .int .u8 0, (⟨.empty, .empty, .empty, 0, 0, .empty⟩ : Tok).val] 8 rfl (World.shaped_of_RefB (by kernel_rfl) (by kernel_rfl)) (by kernel_rfl) (by kernel_rfl) (by kernel_rfl) (bounds_met os _)) ?_
  intro W base args ds gs before hval0 hW _ _ hL _
  have hval : ∀ (j : Nat) t v, Tryz.f10.params[j]? = some t → args[j]? = some v → Value.okWide Tryz.prog W .any base t v := hval0
  have hstd := std_of (show laidMetH Tryz.prog laids W from hL)
  have hW' := hW
  obtain ⟨p, q, hA0, hV, rfl, hfz, hnd⟩ := hW
  have hA : DataW.TrodAll enc Tryz.prog W 0 (fun _ => true) true Tryz.f10.params.toList args.toList ds p := hA0
  obtain ⟨v0, vs0, d0, ds0, p0, q0, e0, rfl, rfl, h0, hA⟩ := trodAll_cons hA
  obtain ⟨v1, vs1, d1, ds1, p1, q1, rfl, rfl, rfl, h1, hA⟩ := trodAll_cons hA
  obtain ⟨v2, vs2, d2, ds2, p2, q2, rfl, rfl, rfl, h2, hA⟩ := trodAll_cons hA
  obtain ⟨v3, vs3, d3, ds3, p3, q3, rfl, rfl, rfl, h3, hA⟩ := trodAll_cons hA
  obtain ⟨v4, vs4, d4, ds4, p4, q4, rfl, rfl, rfl, h4, hA⟩ := trodAll_cons hA
  obtain ⟨rfl, rfl, rfl⟩ := trodAll_nil hA
  have ea : args = #[v0, v1, v2, v3, v4] := Array.ext' e0
  subst ea
  obtain ⟨c, rfl⟩ := arg_costs (hval 0 _ v0 rfl rfl) h0
  obtain ⟨A_a, cap_a, a, rfl, hb_a, hs_a⟩ := arg_toks (hval 1 _ v1 rfl rfl) h1
  obtain ⟨A_b, cap_b, b, rfl, hb_b, hs_b⟩ := arg_toks (hval 2 _ v2 rfl rfl) h2
  obtain ⟨z, rfl, hb_z⟩ := arg_u8 (hval 3 _ v3 rfl rfl) h3
  obtain ⟨t, rfl⟩ := arg_tok (hval 4 _ v4 rfl rfl) h4
  refine (boundsLaw_spec c A_a A_b cap_a cap_b a b z t W hstd hs_a hb_a hs_b hb_b hb_z).calls.mono ?_
  rintro e W' ⟨v, A, rfl, ⟨rfl, _⟩, hb, _⟩
  exact ⟨_, rfl, law_post hW' rfl rfl laidOk (by intro t ht; simp only [show Tryz.f10.params.toList = [23, 24, 24, 5, 48] from rfl, List.mem_cons, List.mem_nil_iff, or_false] at ht; rcases ht with rfl | rfl | rfl | rfl | rfl <;> exact ⟨by kernel_rfl, of_decide_eq_true (by kernel_rfl)⟩) rfl Tryz.underlying4 hb⟩
theorem bounds_holds : Rows.PairwiseBoundsSaid :=
  OpenClaim.holds_of_wide 10 Tryz.f10 rfl rfl rfl rfl rfl rfl rfl ⟨rfl, rfl, rfl, rfl, rfl⟩ rfl rfl rfl rfl rfl (by kernel_rfl) Tryz.func10 (by kernel_rfl)
    (of_decide_eq_true (by kernel_rfl)) (by unfold Func.isWrapper; first | (rw [if_pos (by decide +kernel)]; kernel_rfl) | (rw [if_neg (by decide +kernel)]; exact ⟨rfl, rfl⟩))
    (fun os started H enc _ => bounds_lifted os started H enc)
theorem bounds_card : Rows.PairwiseBoundsCardSaid :=
  Claim7.holds_tied_plain_at .later [] [.data, .data, .data, .sentinel, .sentinel] true (true, "eeeb7ba5f59194c4fb892d9bd69c6f4887df1c3fcf5c3cbcdfbc4827380e6da7") true
    bounds_holds (fun _ h => by cases h) (by kernel_rfl) (fun _ h => by cases h) pairwiseBounds_row_tie rfl ⟨rfl, rfl⟩ (by kernel_rfl) rfl
    (fun f fn hf hfn => by
      obtain rfl : f = 10 := Option.some.inj ((show Tryz.prog.funcNamed "apograph/apographlaw18.PairwiseBounds" = some 10 by kernel_rfl).symm.trans hf) |>.symm
      obtain rfl : fn = Tryz.f10 := (Option.some.inj (Tryz.func10.symm.trans hfn)).symm
      exact ⟨by kernel_rfl, fun j t ht => by
        have ht' : [23, 24, 24, 5, 48][j]? = some t := by rw [Tryz.params10] at ht; simpa using ht
        have hm := List.mem_of_getElem? ht'
        simp only [List.mem_cons, List.mem_nil_iff, or_false] at hm
        rcases hm with rfl | rfl | rfl | rfl | rfl <;> exact (show Tryz.prog.wantsStandIn _ = false by kernel_rfl)⟩)
    (by kernel_rfl)
#print axioms bounds_card
end Go.Proofs.YtmcgificpaeipaaGreatDoor
