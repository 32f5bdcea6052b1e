/- Walks: characters, words, names, by the program. -/
import Derived.Test.YtiglobijdegjdaaDoorWalkB
import Derived.Test.YtiglobijdegjdaaDoorEngS
import Derived.Test.YtiglobijdegjdaaDoorSpecC
namespace Go.Proofs.YtiglobijdegjdaaDoor
open Go.RowKit Go.Shelf Go.Proofs
set_option maxRecDepth 100000
set_option maxHeartbeats 1000000

theorem indexByte_spec (s : ByteArray) (c : Int) (w : World) : Spec Tryd.prog 83 [.string s, .int .u8 c] w (fun v A => v = .int .i64 (Lib.indexByte s.data.toList c.toNat.toUInt8) ∧ A = []) :=
  Calls.spec (enters_of rfl rfl rfl) (Tryd.strings_IndexByte s c w)

theorem kindPrg_spec (c : Int) (hc : 0 ≤ c ∧ c ≤ 255) (w : World) : Spec Tryd.prog 70 [.int .u8 c] w (fun v A => v = .int .i64 (kindI c) ∧ A = []) := by
  refine spec_of sg Tryd.func70 rfl rfl rfl ?_
  have hp := punct_all c.toNat (by omega)
  repeat' (first | refine d1 ?_ | refine dd ?_ | (show T _ (.ops _ (_ :: _) :: _) _ _ _; first | refine T_call rfl rfl rfl rfl rfl (fun w hw => indexByte_spec _ _ w) ?_ | refine T_callC rfl rfl rfl rfl rfl rfl rfl (fun hg w hw => indexByte_spec _ _ w) ?_) | (show T _ (.run _ _ (_ :: _) _ _ :: _) _ _ _; first | refine rc rfl rfl rfl rfl rfl rfl rfl (fun w hw => indexByte_spec _ _ w) ?_ | refine rcG rfl rfl rfl rfl rfl rfl rfl rfl rfl (fun hg w hw => indexByte_spec _ _ w) ?_) | (show ∀ _ : Nat, T _ _ _ _ _; intro _) | (show T _ (.code (.cond _ _ _) :: _) _ _ _; refine T_if rfl (fun h => ?_) (fun h => ?_)) | (show T _ (.code .ret :: _) _ _ _; refine T_retV [] rfl (Hle.refl _) ?_))
  all_goals refine ⟨congrArg (Value.int .i64) ?_, rfl⟩
  all_goals unfold punctL at hp
  all_goals simp only [Bool.or_eq_true, Bool.and_eq_true, decide_eq_true_eq, Bool.or_eq_false_iff, Bool.and_eq_false_iff, decide_eq_false_iff_not, Bool.not_eq_true', Bool.not_eq_false'] at *
  all_goals (generalize Lib.indexByte [46, 44, 59, 58, 33, 63, 40, 41, 45] c.toNat.toUInt8 = q at *; unfold kindI; (repeat' split) <;> omega)
theorem byteAt_bd (s : ByteArray) (i : Int) : 0 ≤ ((byteAt s i).toNat : Int) ∧ ((byteAt s i).toNat : Int) ≤ 255 := by
  have := (byteAt s i).toNat_lt
  omega

theorem lettersPrg_spec (s : ByteArray) (w : World) (hs : s.size ≤ 9223372036854775807) : Spec Tryd.prog 88 [.string s] w (fun v A => v = .int .i64 (lettersN s.data.toList) ∧ A = []) := by
  refine spec_of sg Tryd.func88 rfl rfl rfl ?_
  repeat' (first | refine d1 ?_ | refine dd ?_ | (show ∀ _ : Nat, T _ _ _ _ _; intro _))
  refine T_loop (fun k : Nat => [(0, .string s), (7, .int .i64 s.size), (3, .int .i64 (lettersN (s.data.toList.take k))), (8, .int .i64 k)]) (fun _ => []) (fun k => k ≤ s.size) (fun k => s.size - k) 0 (by omega) ⟨rfl, rfl, rfl, rfl, trivial⟩ (Hle.refl _) ?_
  intro k hk
  repeat' (first | refine d1 ?_ | refine dd ?_ | (show ∀ _ : Nat, T _ _ _ _ _; intro _))
  refine T_if rfl (fun h => ?_) (fun h => ?_)
  · simp only [decide_eq_true_eq] at h
    have hl := lettersN_le (s.data.toList.take k)
    have hl2 : (s.data.toList.take k).length ≤ k := by rw [List.length_take]; omega
    have hst := lettersN_take s k (by omega)
    repeat' (first | refine d1 ?_ | refine dd ?_ | (show T _ (.ops _ (_ :: _) :: _) _ _ _; first | refine T_call rfl rfl rfl rfl rfl (fun w hw => kindPrg_spec _ (byteAt_bd _ _) w) ?_ | refine T_callC rfl rfl rfl rfl rfl rfl rfl (fun hg w hw => kindPrg_spec _ (byteAt_bd _ _) w) ?_) | (show T _ (.run _ _ (_ :: _) _ _ :: _) _ _ _; first | refine rc rfl rfl rfl rfl rfl rfl rfl (fun w hw => kindPrg_spec _ (byteAt_bd _ _) w) ?_ | refine rcG rfl rfl rfl rfl rfl rfl rfl rfl rfl (fun hg w hw => kindPrg_spec _ (byteAt_bd _ _) w) ?_) | (show ∀ _ : Nat, T _ _ _ _ _; intro _) | (show T _ (.code (.cond _ _ _) :: _) _ _ _; refine T_if rfl (fun h => ?_) (fun h => ?_)) | (show T _ _ _ _ _; refine T_back (k + 1) (by omega) (by omega) ⟨rfl, rfl, ?_, rfl, trivial⟩ (Hle.refl _)))
    all_goals (refine congrArg (fun z : Int => some (Value.int .i64 z)) ?_; simp only [Bool.or_eq_true, Bool.or_eq_false_iff, decide_eq_true_eq, decide_eq_false_iff_not] at h; rw [hst]; unfold kAt; split <;> omega)
  · simp only [decide_eq_false_iff_not] at h
    have hk2 : k = s.size := by omega
    subst hk2
    repeat' (first | refine d1 ?_ | refine dd ?_ | (show ∀ _ : Nat, T _ _ _ _ _; intro _) | (show T _ (.code .ret :: _) _ _ _; refine T_retV [] rfl (Hle.refl _) ⟨?_, rfl⟩))
    rw [List.take_of_length_le (by simp)]
    rfl
theorem isNamePrg_spec (s : ByteArray) (hs : s.size ≤ 9223372036854775807) (w : World) : Spec Tryd.prog 75 [.string s] w (fun v A => v = .bool (isNameB s) ∧ A = []) := by
  refine spec_of sg Tryd.func75 rfl rfl rfl ?_
  repeat' (first | refine d1 ?_ | refine dd ?_ | (show T _ (.ops _ (_ :: _) :: _) _ _ _; first | refine T_call rfl rfl rfl rfl rfl (fun w hw => lettersPrg_spec s w hs) ?_ | refine T_callC rfl rfl rfl rfl rfl rfl rfl (fun hg w hw => lettersPrg_spec s w hs) ?_) | (show T _ (.run _ _ (_ :: _) _ _ :: _) _ _ _; first | refine rc rfl rfl rfl rfl rfl rfl rfl (fun w hw => lettersPrg_spec s w hs) ?_ | refine rcG rfl rfl rfl rfl rfl rfl rfl rfl rfl (fun hg w hw => lettersPrg_spec s w hs) ?_) | (show ∀ _ : Nat, T _ _ _ _ _; intro _) | (show T _ (.code .ret :: _) _ _ _; refine T_retV [] rfl (Hle.refl _) ⟨congrArg Value.bool ?_, rfl⟩))
  exact name_law s
theorem namedPrg_spec (s : ByteArray) (hs : s.size ≤ 9223372036854775807) (w : World) : Spec Tryd.prog 58 [.string s] w (fun v A => v = .bool (namedB s) ∧ A = []) := by
  refine spec_of sg Tryd.func58 rfl rfl rfl ?_
  repeat' (first | refine d1 ?_ | refine dd ?_ | (show T _ (.ops _ (_ :: _) :: _) _ _ _; first | refine T_call rfl rfl rfl rfl rfl (fun w hw => isNamePrg_spec s hs w) ?_ | refine T_callC rfl rfl rfl rfl rfl rfl rfl (fun hg w hw => isNamePrg_spec s hs w) ?_) | (show T _ (.run _ _ (_ :: _) _ _ :: _) _ _ _; first | refine rc rfl rfl rfl rfl rfl rfl rfl (fun w hw => isNamePrg_spec s hs w) ?_ | refine rcG rfl rfl rfl rfl rfl rfl rfl rfl rfl (fun hg w hw => isNamePrg_spec s hs w) ?_) | (show ∀ _ : Nat, T _ _ _ _ _; intro _) | (show T _ (.code .ret :: _) _ _ _; refine T_retV [] rfl (Hle.refl _) ⟨rfl, rfl⟩))
theorem beginsPrg_spec (c : Int) (hc : 0 ≤ c ∧ c ≤ 255) (w : World) : Spec Tryd.prog 87 [.int .u8 c] w (fun v A => v = .bool (beginsK (kindI c)) ∧ A = []) := by
  refine spec_of sg Tryd.func87 rfl rfl rfl ?_
  repeat' (first | refine d1 ?_ | refine dd ?_ | (show T _ (.ops _ (_ :: _) :: _) _ _ _; first | refine T_call rfl rfl rfl rfl rfl (fun w hw => kindPrg_spec c hc w) ?_ | refine T_callC rfl rfl rfl rfl rfl rfl rfl (fun hg w hw => kindPrg_spec c hc w) ?_) | (show T _ (.run _ _ (_ :: _) _ _ :: _) _ _ _; first | refine rc rfl rfl rfl rfl rfl rfl rfl (fun w hw => kindPrg_spec c hc w) ?_ | refine rcG rfl rfl rfl rfl rfl rfl rfl rfl rfl (fun hg w hw => kindPrg_spec c hc w) ?_) | (show ∀ _ : Nat, T _ _ _ _ _; intro _) | (show T _ (.code .ret :: _) _ _ _; refine T_retV [] rfl (Hle.refl _) ⟨rfl, rfl⟩))
theorem innerPrg_spec (c : Int) (hc : 0 ≤ c ∧ c ≤ 255) (w : World) : Spec Tryd.prog 74 [.int .u8 c] w (fun v A => v = .bool (wordlyK (kindI c)) ∧ A = []) := by
  refine spec_of sg Tryd.func74 rfl rfl rfl ?_
  repeat' (first | refine d1 ?_ | refine dd ?_ | (show T _ (.ops _ (_ :: _) :: _) _ _ _; first | refine T_call rfl rfl rfl rfl rfl (fun w hw => kindPrg_spec c hc w) ?_ | refine T_callC rfl rfl rfl rfl rfl rfl rfl (fun hg w hw => kindPrg_spec c hc w) ?_ | refine T_call rfl rfl rfl rfl rfl (fun w hw => beginsPrg_spec c hc w) ?_ | refine T_callC rfl rfl rfl rfl rfl rfl rfl (fun hg w hw => beginsPrg_spec c hc w) ?_) | (show T _ (.run _ _ (_ :: _) _ _ :: _) _ _ _; first | refine rc rfl rfl rfl rfl rfl rfl rfl (fun w hw => kindPrg_spec c hc w) ?_ | refine rcG rfl rfl rfl rfl rfl rfl rfl rfl rfl (fun hg w hw => kindPrg_spec c hc w) ?_ | refine rc rfl rfl rfl rfl rfl rfl rfl (fun w hw => beginsPrg_spec c hc w) ?_ | refine rcG rfl rfl rfl rfl rfl rfl rfl rfl rfl (fun hg w hw => beginsPrg_spec c hc w) ?_) | (show ∀ _ : Nat, T _ _ _ _ _; intro _) | (show T _ (.code .ret :: _) _ _ _; refine T_retV [] rfl (Hle.refl _) ⟨congrArg Value.bool (inner_law (kindI c)), rfl⟩))
theorem markPrg_spec (s : ByteArray) (w : World) : Spec Tryd.prog 55 [.string s] w (fun v A => v = .bool (decide ((s.size : Int) = 1) && (decide (kAt s 0 = 5) || decide (kAt s 0 = 4))) ∧ A = []) := by
  refine spec_of sg Tryd.func55 rfl rfl rfl ?_
  repeat' (first | refine d1 ?_ | refine dd ?_ | (show ∀ _ : Nat, T _ _ _ _ _; intro _))
  refine T_if rfl (fun h => ?_) (fun h => ?_)
  · repeat' (first | refine d1 ?_ | refine dd ?_ | (show ∀ _ : Nat, T _ _ _ _ _; intro _) | (show T _ (.code .ret :: _) _ _ _; refine T_retV [] rfl (Hle.refl _) ⟨congrArg Value.bool ?_, rfl⟩))
    rw [Bool.not_eq_true'] at h
    rw [h]; rfl
  · rw [Bool.not_eq_false'] at h
    have h1 : (s.size : Int) = 1 := by simpa using h
    repeat' (first | refine d1 ?_ | refine dd ?_ | (show T _ (.ops _ (_ :: _) :: _) _ _ _; first | refine T_call rfl rfl rfl rfl rfl (fun w hw => kindPrg_spec _ (byteAt_bd _ _) w) ?_ | refine T_callC rfl rfl rfl rfl rfl rfl rfl (fun hg w hw => kindPrg_spec _ (byteAt_bd _ _) w) ?_) | (show T _ (.run _ _ (_ :: _) _ _ :: _) _ _ _; first | refine rc rfl rfl rfl rfl rfl rfl rfl (fun w hw => kindPrg_spec _ (byteAt_bd _ _) w) ?_ | refine rcG rfl rfl rfl rfl rfl rfl rfl rfl rfl (fun hg w hw => kindPrg_spec _ (byteAt_bd _ _) w) ?_) | (show ∀ _ : Nat, T _ _ _ _ _; intro _) | (show T _ (.code .ret :: _) _ _ _; refine T_retV [] rfl (Hle.refl _) ⟨congrArg Value.bool ?_, rfl⟩))
    rw [h]; rfl
theorem normPrg_spec (s : ByteArray) (hs : s.size ≤ 9223372036854775807) (w : World) : Spec Tryd.prog 57 [.string s] w (fun v A => v = .bool (normB s && (!decide (s = ByteArray.mk #[]) && decide ((s.size : Int) ≤ 64))) ∧ A = []) := by
  refine spec_of sg Tryd.func57 rfl rfl rfl ?_
  repeat' (first | refine d1 ?_ | refine dd ?_ | (show ∀ _ : Nat, T _ _ _ _ _; intro _))
  refine T_loop (fun k : Nat => [(0, .string s), (5, .int .i64 s.size), (6, .int .i64 k)]) (fun _ => []) (fun k => k ≤ s.size ∧ ∀ j, j < k → wordlyK (kAt s j) = true) (fun k => s.size - k) 0 ⟨by omega, fun j h => by omega⟩ ⟨rfl, rfl, rfl, trivial⟩ (Hle.refl _) ?_
  rintro k ⟨hk, hok⟩
  repeat' (first | refine d1 ?_ | refine dd ?_ | (show ∀ _ : Nat, T _ _ _ _ _; intro _))
  refine T_if rfl (fun h => ?_) (fun h => ?_)
  · simp only [decide_eq_true_eq] at h
    repeat' (first | refine d1 ?_ | refine dd ?_ | (show T _ (.ops _ (_ :: _) :: _) _ _ _; first | refine T_call rfl rfl rfl rfl rfl (fun w hw => innerPrg_spec _ (byteAt_bd _ _) w) ?_ | refine T_callC rfl rfl rfl rfl rfl rfl rfl (fun hg w hw => innerPrg_spec _ (byteAt_bd _ _) w) ?_) | (show T _ (.run _ _ (_ :: _) _ _ :: _) _ _ _; first | refine rc rfl rfl rfl rfl rfl rfl rfl (fun w hw => innerPrg_spec _ (byteAt_bd _ _) w) ?_ | refine rcG rfl rfl rfl rfl rfl rfl rfl rfl rfl (fun hg w hw => innerPrg_spec _ (byteAt_bd _ _) w) ?_) | (show ∀ _ : Nat, T _ _ _ _ _; intro _))
    refine T_if rfl (fun h8 => ?_) (fun h8 => ?_)
    · repeat' (first | refine d1 ?_ | refine dd ?_ | (show ∀ _ : Nat, T _ _ _ _ _; intro _) | (show T _ (.code .ret :: _) _ _ _; refine T_retV [] rfl (Hle.refl _) ⟨congrArg Value.bool ?_, rfl⟩))
      rw [Bool.not_eq_true'] at h8
      have : normB s = false := by
        unfold normB
        rw [decide_eq_false_iff_not]
        intro hh
        have h9 := hh k (by omega)
        unfold kAt at h9
        rw [h8] at h9; cases h9
      rw [this]; rfl
    · rw [Bool.not_eq_false'] at h8
      repeat' (first | refine d1 ?_ | refine dd ?_ | (show ∀ _ : Nat, T _ _ _ _ _; intro _))
      refine T_back (k + 1) ⟨by omega, fun j hj => ?_⟩ (by omega) ⟨rfl, rfl, rfl, trivial⟩ (Hle.refl _)
      rcases Nat.lt_or_ge j k with h9 | h9
      · exact hok j h9
      · rw [show j = k by omega]; exact h8
  · simp only [decide_eq_false_iff_not] at h
    have h8 : normB s = true := decide_eq_true (fun j hj => hok j (by omega))
    repeat' (first | refine d1 ?_ | refine dd ?_ | (show ∀ _ : Nat, T _ _ _ _ _; intro _) | (show T _ (.code .ret :: _) _ _ _; refine T_retV [] rfl (Hle.refl _) ⟨congrArg Value.bool ?_, rfl⟩))
    rw [h8]; rfl
theorem isWordTok_spec (t : Tok) (h0 : 0 ≤ t.flags ∧ t.flags ≤ 31) (w : World) : Spec Tryd.prog 56 [t.val] w (fun v A => v = .bool (!hasN t.flags 2 && !hasN t.flags 8) ∧ A = []) := by
  refine spec_of sg Tryd.func56 rfl rfl rfl ?_
  repeat' (first | (show T _ (.ops _ (⟨_, .box _ _, _, _, _, _⟩ :: _) :: _) _ _ _; refine T_op (OpT.box (cs := t.cells) rfl rfl rfl rfl rfl rfl rfl (fun _ => ?_))) | refine d1 ?_ | refine dd ?_ | (show ∀ _ : Nat, T _ _ _ _ _; intro _) | (show T _ (.code .ret :: _) _ _ _; refine T_retV [] rfl (Hle.none _) ⟨congrArg Value.bool ?_, rfl⟩))
  exact (flags_law t.flags h0).2.2
theorem rightPrg_spec (s : ByteArray) (f i : Int) (hf : 0 ≤ f ∧ f < s.size) (w : World) : Spec Tryd.prog 93 [.string s, .int .i64 f, .int .i64 i] w (fun v A => v = .bool (decide (kindI (byteAt s f).toNat = 1) && decide (f < i)) ∧ A = []) := by
  refine spec_of sg Tryd.func93 rfl rfl rfl ?_
  repeat' (first | refine d1 ?_ | refine dd ?_ | (show T _ (.ops _ (_ :: _) :: _) _ _ _; first | refine T_call rfl rfl rfl rfl rfl (fun w hw => kindPrg_spec _ (byteAt_bd _ _) w) ?_ | refine T_callC rfl rfl rfl rfl rfl rfl rfl (fun hg w hw => kindPrg_spec _ (byteAt_bd _ _) w) ?_) | (show T _ (.run _ _ (_ :: _) _ _ :: _) _ _ _; first | refine rc rfl rfl rfl rfl rfl rfl rfl (fun w hw => kindPrg_spec _ (byteAt_bd _ _) w) ?_ | refine rcG rfl rfl rfl rfl rfl rfl rfl rfl rfl (fun hg w hw => kindPrg_spec _ (byteAt_bd _ _) w) ?_) | (show ∀ _ : Nat, T _ _ _ _ _; intro _) | (show T _ (.code .ret :: _) _ _ _; refine T_retV [] rfl (Hle.refl _) ⟨rfl, rfl⟩))

/-! ### Atoi -/
/-- What the library's own variables hold. -/
def Std (w : World) : Prop := ∃ tp p tq q, w.var? Tryd.prog "strconv.ErrSyntax" = some #[.iface tp p] ∧ w.var? Tryd.prog "strconv.ErrRange" = some #[.iface tq q]
theorem var_below {P : Program} {w w' : World} {n : String} {cs : Array Value} (hb : Below w.heap.size w w') (h : w.var? P n = some cs) : w'.var? P n = some cs := by
  unfold World.var? at h ⊢
  cases hg : P.globalNamed n with
  | none => rw [hg] at h; cases h
  | some g =>
    rw [hg] at h
    simp only [Option.bind_some] at h ⊢
    cases ho : w.heap[g]? with
    | none => rw [ho] at h; cases h
    | some o =>
      rw [hb.block g (lt_of_heap ho)]
      exact h
theorem Std.below {w w' : World} (h : Std w) (hb : Below w.heap.size w w') : Std w' := by
  obtain ⟨tp, p, tq, q, h1, h2⟩ := h
  exact ⟨tp, p, tq, q, var_below hb h1, var_below hb h2⟩
theorem Std.cls {w0 w : World} {H : List HA} (h : Std w0) (hw : Cls w0 w H) : Std w := h.below hw.below
theorem atoi_spec (s : ByteArray) (hs : s.size ≤ 281474976710656) (w : World) (hw : Std w) : Spec Tryd.prog 73 [.string s] w (fun v A =>
    (∃ n, Lib.atoiAll s.data.toList = .ok n ∧ v = .tuple #[.int .i64 n, .nilIface]) ∧ A = [] ∨ (∀ n, Lib.atoiAll s.data.toList ≠ .ok n) ∧ (∃ n tp p, v = .tuple #[.int .i64 n, .iface tp p]) ∧ A = []) := by
  refine ⟨enters_of rfl rfl rfl, ?_⟩
  obtain ⟨tp, p, tq, q, h1, h2⟩ := hw
  cases h : Lib.atoiAll s.data.toList
  · rename_i n
    refine (Tryd.strconv_Atoi_ok s (by omega) n h w).mono ?_
    rintro e w' ⟨rfl, hw'⟩
    refine ⟨_, [], rfl, .inl ⟨⟨n, rfl, rfl⟩, rfl⟩, ?_, Sep.nil _ _⟩
    rcases hw' with rfl | ⟨t, rfl⟩
    · exact Below.refl _ _
    · exact Lib.bytesWorld_below _ _ _
  · refine (Tryd.strconv_Atoi_syntax_var s hs h tp p w h1).mono ?_
    rintro e w' ⟨N, rfl, _, _, hb⟩
    exact ⟨_, [], rfl, .inr ⟨fun n hn => (by cases hn), ⟨_, _, _, rfl⟩, rfl⟩, hb, Sep.nil _ _⟩
  · refine (Tryd.strconv_Atoi_range_var s hs h tq q w h2).mono ?_
    rintro e w' ⟨N, rfl, _, _, hb⟩
    exact ⟨_, [], rfl, .inr ⟨fun n hn => (by cases hn), ⟨_, _, _, rfl⟩, rfl⟩, hb, Sep.nil _ _⟩
end Go.Proofs.YtiglobijdegjdaaDoor
