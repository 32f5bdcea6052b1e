/- The engine, fourth part: operations that only reckon. It speaks of any program. -/
import Derived.Test.YtiglobijdegjdaaDoorEngC
import Derived.Lib.Strings
import Derived.WalkSpells
namespace Go.Proofs.YtiglobijdegjdaaDoor
open Go.RowKit Go.Shelf

/-- ONE OPERATION, from every state of which this is known: behind it Φ is known. -/
def OpT (C : Cx) (all : Array Oper) (o : Oper) (env : Env) (ec : EnvC) (H : List HA) (Φ : Env → EnvC → List HA → Prop) : Prop :=
  ∀ a w, Agrees C.N all env ec a → Cls C.w0 w H → ∀ (K : Act → World → Prop) (Q : Exit → Act → World → Prop),
    (∀ env' ec' H' a' w', Φ env' ec' H' → Agrees C.N all env' ec' a' → Cls C.w0 w' H' → K a' w') →
    (Region.wanted o (yielded all a.tmps) = true → o.wpIn (Fr C.rd) 0 C.S.P a w K Q) ∧ (Region.wanted o (yielded all a.tmps) = false → K (a.put o.dst undef) w)

theorem T_op {C : Cx} {all : Array Oper} {o : Oper} {rest : List Oper} {k : List It} {env : Env} {ec : EnvC} {H : List HA}
    (h : OpT C all o env ec H (fun env' ec' H' => T C (.ops all rest :: k) env' ec' H')) : T C (.ops all (o :: rest) :: k) env ec H := by
  refine T.mk fun a w ha hw => ?_
  have := h a w ha hw _ (post (sem C k).1 (sem C k).2 C.Rr) (fun env' ec' H' a' w' hT ha' hw' => hT a' w' ha' hw')
  show wpListIn _ _ _ _ _ (o :: rest) a w
  refine wpListIn_step fun K hK => ?_
  split
  · rename_i hwn
    exact (h a w ha hw K _ (fun env' ec' H' a' w' hT ha' hw' => hK _ _ (hT a' w' ha' hw'))).1 hwn
  · rename_i hwn
    exact ⟨about_Fr o _ w _, hK _ _ (this.2 (by simpa using hwn))⟩

section
variable {C : Cx} {all : Array Oper} {o : Oper} {env : Env} {ec : EnvC} {H : List HA} {Φ : Env → EnvC → List HA → Prop}
/-- It yields v and leaves the world. -/
theorem OpT.val {d : Nat} {v : Value} (hg : gOf all env ec o = some []) (hd : o.dst = some d) (hN : Nat.blt d C.N.n = true) (hs : safeC all d ec = true)
    (hrun : ∀ a w, Agrees C.N all env ec a → Cls C.w0 w H → (execOp a.eval o).run C.S.P w = .ok (.value v) w) (h : Φ ((d, v) :: env) ec H) : OpT C all o env ec H Φ := by
  intro a w ha hw K Q hK
  have hwn := (wanted_iff ha hg).2 (Holds.nil _ _)
  refine ⟨fun _ => ?_, fun hn => (by rw [hwn] at hn; cases hn)⟩
  unfold Oper.wpIn
  refine ⟨about_Fr o _ w _, ?_⟩
  rw [Oper.semAt_eq _ _ _ (gOf_def hg)]
  rw [hrun a w ha hw]
  exact hK _ _ _ _ _ h (by rw [hd]; exact ha.put hN hs) hw
theorem OpT.valC {d : Nat} {v : Value} {G : GId} (hg : gOf all env ec o = some G) (hd : o.dst = some d) (hN : Nat.blt d C.N.n = true) (hs : safeC all d ec = true) (hsG : safeG all d G = true) (hl : lookE env d = none)
    (hrun : ∀ a w, Agrees C.N all env ec a → Cls C.w0 w H → Holds all a G → GP all env ec G → (execOp a.eval o).run C.S.P w = .ok (.value v) w) (h : Φ env ((d, (G, v)) :: ec) H) : OpT C all o env ec H Φ := by
  intro a w ha hw K Q hK
  refine ⟨fun hwn => ?_, fun hn => ?_⟩
  · have hH := (wanted_iff ha hg).1 hwn
    unfold Oper.wpIn
    refine ⟨about_Fr o _ w _, ?_⟩
    rw [Oper.semAt_eq _ _ _ (gOf_def hg)]
    rw [hrun a w ha hw hH (hH.gp ha)]
    exact hK _ _ _ _ _ h (by rw [hd]; exact ha.putC hN hs hsG hl (fun _ => rfl) (fun hh => absurd hH hh)) hw
  · have hH : ¬ Holds all a G := fun hh => by rw [(wanted_iff ha hg).2 hh] at hn; cases hn
    rw [hd]
    exact hK _ _ _ _ _ h (ha.putC hN hs hsG hl (fun hh => absurd hh hH) (fun _ => rfl)) hw
/-- It turns the world. -/
theorem OpT.eff (hg : gOf all env ec o = some [])
    (hrun : ∀ a w, Agrees C.N all env ec a → Cls C.w0 w H → ∃ v w' H', (execOp a.eval o).run C.S.P w = .ok (.value v) w' ∧ Cls C.w0 w' H' ∧ ∃ d, o.dst = some d ∧ Nat.blt d C.N.n = true ∧ safeC all d ec = true ∧ Φ ((d, v) :: env) ec H') : OpT C all o env ec H Φ := by
  intro a w ha hw K Q hK
  have hwn := (wanted_iff ha hg).2 (Holds.nil _ _)
  refine ⟨fun _ => ?_, fun hn => (by rw [hwn] at hn; cases hn)⟩
  obtain ⟨v, w', H', h1, h2, d, hd, hN, hs, h3⟩ := hrun a w ha hw
  unfold Oper.wpIn
  refine ⟨about_Fr o _ w _, ?_⟩
  rw [Oper.semAt_eq _ _ _ (gOf_def hg)]
  rw [h1]
  exact hK _ _ _ _ _ h3 (by rw [hd]; exact ha.put hN hs) h2
theorem OpT.skip (hg : gOf all env ec o = some []) (hd : o.dst = none)
    (hrun : ∀ a w, Agrees C.N all env ec a → Cls C.w0 w H → ∃ w' H', (execOp a.eval o).run C.S.P w = .ok .skip w' ∧ Cls C.w0 w' H' ∧ Φ env ec H') : OpT C all o env ec H Φ := by
  intro a w ha hw K Q hK
  have hwn := (wanted_iff ha hg).2 (Holds.nil _ _)
  refine ⟨fun _ => ?_, fun hn => (by rw [hwn] at hn; cases hn)⟩
  obtain ⟨w', H', h1, h2, h3⟩ := hrun a w ha hw
  unfold Oper.wpIn
  refine ⟨about_Fr o _ w _, ?_⟩
  rw [Oper.semAt_eq _ _ _ (gOf_def hg)]
  rw [h1]
  exact hK _ _ _ _ _ h3 (by rw [hd]; exact ha) h2
end

/-! ## What operations reckon -/
def inK : IntKind → Int → Prop
  | .i64, n => -9223372036854775808 ≤ n ∧ n ≤ 9223372036854775807
  | .u8, n => 0 ≤ n ∧ n ≤ 255
  | .i32, n => -2147483648 ≤ n ∧ n ≤ 2147483647
  | .u64, n => 0 ≤ n ∧ n ≤ 18446744073709551615
  | .u32, n => 0 ≤ n ∧ n ≤ 4294967295
  | _, _ => False
theorem inK.wrap {k : IntKind} {n : Int} (h : inK k n) : k.wrap n = n := by
  cases k <;> simp only [inK] at h
  case i64 => exact IntWalk.i64_in _ h
  case u8 => exact IntWalk.u8_in _ h
  case i32 => exact IntWalk.i32_in _ h
  case u64 => exact IntWalk.u64_in _ h
  case u32 => exact IntWalk.u32_in _ h
def sameK (k k' : IntKind) : Bool := decide (k = k')
theorem sameK_eq {k k' : IntKind} (h : sameK k k' = true) : k = k' := by simpa [sameK] using h

/-- Two values and an operation: what it gives, where nothing is owed. -/
def evBin (op : BinOp) (x y : Value) : Option Value :=
  match op, x, y with
  | .lss, .int k a, .int k' b => cond (sameK k k') (some (.bool (decide (a < b)))) none
  | .leq, .int k a, .int k' b => cond (sameK k k') (some (.bool (decide (a ≤ b)))) none
  | .gtr, .int k a, .int k' b => cond (sameK k k') (some (.bool (decide (b < a)))) none
  | .geq, .int k a, .int k' b => cond (sameK k k') (some (.bool (decide (b ≤ a)))) none
  | .eql, .int k a, .int k' b => cond (sameK k k') (some (.bool (decide (a = b)))) none
  | .neq, .int k a, .int k' b => cond (sameK k k') (some (.bool (!decide (a = b)))) none
  | .eql, .string a, .string b => some (.bool (decide (a = b)))
  | .neq, .string a, .string b => some (.bool (!decide (a = b)))
  | .lss, .string a, .string b => some (.bool (Op.bytesLess a.toList b.toList))
  | .gtr, .string a, .string b => some (.bool (!(Op.bytesLess a.toList b.toList || decide (a = b))))
  | _, _, _ => none
theorem eq_toList (a b : ByteArray) : (a.toList == b.toList) = decide (a = b) := by
  rw [Bool.eq_iff_iff]
  simp only [beq_iff_eq, decide_eq_true_eq]
  constructor
  · intro h
    rw [Lib.toList_data, Lib.toList_data] at h
    exact ByteArray.ext (Array.ext' h)
  · intro h; rw [h]
theorem evBin_spec {P : Program} {op : BinOp} {t : TypeId} {x y v : Value} {p q : Operand} (h : evBin op x y = some v) (w : World) :
    (do eqGuard op t p q x y; binOp op t x y : Sem Value).run P w = .ok v w := by
  cases x <;> cases y <;> cases op <;> simp only [evBin] at h <;> try (cases h; done)
  all_goals first
    | (rename_i k a k' b
       cases hk : sameK k k' with
       | false => rw [hk] at h; cases h
       | true =>
         rw [hk] at h
         have e := sameK_eq hk
         subst e
         simp only [cond_true, Option.some.injEq] at h
         subst h
         simp [eqGuard, binOp, Op.intCmp, pure, Sem.run]
         try rfl)
    | (injection h with h; subst h; simp [eqGuard, binOp, Op.stringOp, eq_toList, pure, Sem.run])

/-- What an arm of 'pick' holds, where it is the one that is picked. -/
def subP (all : Array Oper) (s : Nat) (p : Bool) (G : GId) : GId → Bool
  | [] => true
  | (i, q) :: l => (memG (i, q) G || ((q == p) && (match dstL all i with | some d => Nat.beq d s | none => false))) && subP all s p G l
def evArm (all : Array Oper) (env : Env) (ec : EnvC) (G : GId) (c : Operand) (p : Bool) : Operand → Option Value
  | .tmp t => match lookE env t with
    | some v => some v
    | none => match lookE ec t, c with
      | some (g, v), .tmp s => cond (subP all s p G g) (some v) none
      | _, _ => none
  | x => evX env ec G x
theorem yielded_of {all : Array Oper} {a : Act} {i s : Nat} {p : Bool} (hs : dstL all i = some s) (h : a.tmps.getD s undef = .bool p) : yielded all a.tmps i = some p := by
  rw [dstL_eq] at hs
  unfold yielded
  rw [hs]
  simp only [Option.bind_some]
  cases hq : a.tmps[s]? with
  | none => simp [Array.getD_eq_getD_getElem?, hq, undef] at h
  | some u => simp [Array.getD_eq_getD_getElem?, hq] at h; subst h; rfl
theorem evArm_spec {N : FK} {all : Array Oper} {env : Env} {ec : EnvC} {a : Act} {G : GId} (ha : Agrees N all env ec a) (hG : Holds all a G) {c x : Operand} {p : Bool} {v : Value}
    (h : evArm all env ec G c p x = some v) (hc : a.eval c = .bool p) : a.eval x = v := by
  unfold evArm at h
  split at h
  · rename_i t
    split at h
    · rename_i u hl; cases h; exact ha.at_ t _ hl
    · split at h
      · rename_i g u s hl
        cases hs : subP all s p G g with
        | false => rw [hs] at h; cases h
        | true =>
          rw [hs] at h; simp at h; subst h
          refine ha.yes t g u hl ?_
          have hc' : a.tmps.getD s undef = .bool p := hc
          clear hl
          induction g with
          | nil => exact Holds.nil _ _
          | cons y l ih =>
            obtain ⟨i, q⟩ := y
            simp only [subP, Bool.and_eq_true, Bool.or_eq_true] at hs
            intro z hz
            cases hz with
            | head =>
              rcases hs.1 with h1 | ⟨h1, h2⟩
              · exact hG _ (memG_spec h1)
              · have hq : q = p := by simpa using h1
                subst hq
                split at h2
                · rename_i d hd
                  have e : d = s := Nat.eq_of_beq_eq_true h2
                  subst e
                  exact yielded_of hd hc'
                · cases h2
            | tail _ hz => exact ih hs.2 z hz
      · cases h
  · exact evX_spec ha hG h

def minI (k : IntKind) : Int → List Value → Option Value
  | a, [] => some (.int k a)
  | a, .int k' b :: l => cond (sameK k k') (minI k (min a b) l) none
  | _, _ => none
def maxI (k : IntKind) : Int → List Value → Option Value
  | a, [] => some (.int k a)
  | a, .int k' b :: l => cond (sameK k k') (maxI k (max a b) l) none
  | _, _ => none
def evL (env : Env) (ec : EnvC) (G : GId) : List Operand → Option (List Value)
  | [] => some []
  | x :: l => match evX env ec G x with
    | some v => match evL env ec G l with
      | some vs => some (v :: vs)
      | none => none
    | none => none
theorem evL_spec {N : FK} {all : Array Oper} {env : Env} {ec : EnvC} {a : Act} {G : GId} (ha : Agrees N all env ec a) (hG : Holds all a G) : ∀ {l : List Operand} {vs : List Value}, evL env ec G l = some vs → l.map a.eval = vs
  | [], vs, h => by cases h; rfl
  | x :: l, vs, h => by
    unfold evL at h
    split at h
    · rename_i v hv
      split at h
      · rename_i us hus
        cases h
        rw [List.map_cons, evX_spec ha hG hv, evL_spec ha hG hus]
      · cases h
    · cases h

def isIface : Ty → Bool
  | .iface => true
  | .other => true
  | _ => false
/-- The operations that owe nothing. -/
def evP (S : Sig) (all : Array Oper) (env : Env) (ec : EnvC) (G : GId) (o : Oper) : Option Value :=
  match o.op with
  | .move x => evX env ec G x
  | .assign x => evX env ec G x
  | .pick c x y => match evX env ec G c with
    | some (.bool b) => match evArm all env ec G c true x, evArm all env ec G c false y with
      | some (.bool u), some (.bool v) => match x, y with
        | _, .const (.bool false) => some (.bool (b && u))
        | .const (.bool true), _ => some (.bool (b || v))
        | _, _ => some (.bool (cond b u v))
      | _, _ => none
    | _ => none
  | .binOp op _ x y _ => match evX env ec G x, evX env ec G y with
    | some u, some v => evBin op u v
    | _, _ => none
  | .unOp .not _ x => match evX env ec G x with
    | some (.bool b) => some (.bool (!b))
    | _ => none
  | .extract x i => match evX env ec G x with
    | some (.tuple vs) => vs.toList[i]?
    | _ => none
  | .fieldAddr s x f => match S.ty s, evX env ec G x with
    | some ⟨.struct fs, _, _, _⟩, some (.pointer (some ⟨b, o, none⟩)) => match fs[f]? with
      | some (t, off) => match S.ty t with
        | some ⟨_, _ + 1, _, _⟩ => some (.pointer (some ⟨b, o + off, none⟩))
        | _ => none
      | none => none
    | _, _ => none
  | .field s x f => match S.ty s, evX env ec G x with
    | some ⟨.struct fs, _, _, _⟩, some (.agg cs) => match fs[f]? with
      | some (t, off) => match S.ty t with
        | some ⟨d, n, _, _⟩ => cond d.plain (cond d.isAgg (some (.agg ((cs.toList.drop off).take n).toArray)) (cs.toList[off]?)) none
        | none => none
      | none => none
    | _, _ => none
  | .makeFunc fn fs cs => match evL env ec G fs.toList, evL env ec G cs.toList with
    | some us, some vs => some (.func fn us.toArray vs.toArray)
    | _, _ => none
  | .makeInterface t x => match S.ty t, evX env ec G x with
    | some ⟨d, _, _, _⟩, some v => cond (isIface d) none (some (.iface t v))
    | _, _ => none
  | .call { callee := .builtin b, args := xs, argTypes := ts } => match b, evL env ec G xs.toList, ts.toList with
    | .len, some [.string s], [t] => match S.ty t with
      | some ⟨.str, _, _, _⟩ => some (.int .i64 (s.size : Nat))
      | _ => none
    | .len, some [.slice _ n _], [t] => match S.ty t with
      | some ⟨.slice _, _, _, _⟩ => some (.int .i64 (n : Nat))
      | _ => none
    | .cap, some [.slice _ _ n], [t] => match S.ty t with
      | some ⟨.slice _, _, _, _⟩ => some (.int .i64 (n : Nat))
      | _ => none
    | .min, some (.int k a :: l), _ => minI k a l
    | .max, some (.int k a :: l), _ => maxI k a l
    | _, _, _ => none
  | _ => none
end Go.Proofs.YtiglobijdegjdaaDoor
