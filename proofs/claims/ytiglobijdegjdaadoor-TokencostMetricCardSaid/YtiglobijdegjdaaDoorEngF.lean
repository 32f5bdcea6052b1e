/- The engine, sixth part: operations that owe a bound. It speaks of any program. -/
import Derived.Test.YtiglobijdegjdaaDoorEngE
import Derived.Laws.BitsAllLaws
import Derived.Laws.BitsLemmas
namespace Go.Proofs.YtiglobijdegjdaaDoor
open Go.RowKit Go.Shelf

def bk (A : Option Addr) : Nat := match A with | some a => a.block | none => 0
def ofs (A : Option Addr) : Nat := match A with | some a => a.off | none => 0
/-- The base of a slice whose elements are asked for. -/
def isAt (A : Option Addr) : Prop := A = some ⟨bk A, ofs A, none⟩
def byteAt (s : ByteArray) (i : Int) : UInt8 := s.data.toList.getD i.toNat 0
def andI (a b : Int) : Int := ((a.toNat &&& b.toNat : Nat) : Int)
def orI (a b : Int) : Int := ((a.toNat ||| b.toNat : Nat) : Int)
def cutA (A : Option Addr) (cap l size : Nat) : Option Addr := if cap = l then A else A.map fun a => a.add (l * size)

def evO (env : Env) (ec : EnvC) (G : GId) (dflt : Int) : Option Operand → Option Int
  | none => some dflt
  | some x => match evX env ec G x with
    | some (.int _ n) => some n
    | _ => none
/-- The operations that owe a bound, and what they owe. -/
def evV (S : Sig) (env : Env) (ec : EnvC) (G : GId) (o : Oper) : Option (Value × Prop) :=
  match o.op with
  | .binOp op _ x y _ => match op, evX env ec G x, evX env ec G y with
    | .add, some (.int k a), some (.int k' b) => cond (sameK k k') (some (.int k (a + b), inK k (a + b))) none
    | .sub, some (.int k a), some (.int k' b) => cond (sameK k k') (some (.int k (a - b), inK k (a - b))) none
    | .mul, some (.int k a), some (.int k' b) => cond (sameK k k') (some (.int k (a * b), inK k (a * b))) none
    | .quo, some (.int k a), some (.int k' b) => cond (sameK k k') (some (.int k (a / b), 0 ≤ a ∧ 0 < b ∧ inK k (a / b))) none
    | .rem, some (.int k a), some (.int k' b) => cond (sameK k k') (some (.int k (a % b), 0 ≤ a ∧ 0 < b)) none
    | .and, some (.int .i64 a), some (.int .i64 b) => some (.int .i64 (andI a b), (0 ≤ a ∧ a < 9223372036854775808) ∧ (0 ≤ b ∧ b < 9223372036854775808))
    | .or, some (.int .i64 a), some (.int .i64 b) => some (.int .i64 (orI a b), (0 ≤ a ∧ a < 9223372036854775808) ∧ (0 ≤ b ∧ b < 9223372036854775808))
    | .add, some (.string a), some (.string b) => some (.string (a ++ b), (a.size + b.size : Int) ≤ 9223372036854775807)
    | _, _, _ => none
  | .unOp .neg _ x => match evX env ec G x with
    | some (.int k a) => some (.int k (0 - a), inK k (0 - a))
    | _ => none
  | .indexAddr t x i => match S.ty t, evX env ec G x, evX env ec G i with
    | some ⟨.slice e, _, _, _⟩, some (.slice A n _), some (.int _ i) => match S.ty e with
      | some ⟨_, sz, _, _⟩ => match A with
        | some ⟨b, o, none⟩ => some (.pointer (some ⟨b, o + i.toNat * sz, none⟩), 0 ≤ i ∧ i < (n : Int))
        | A => some (.pointer (some ⟨bk A, ofs A + i.toNat * sz, none⟩), (0 ≤ i ∧ i < (n : Int)) ∧ isAt A)
      | none => none
    | some ⟨.arr n e, _, _, _⟩, some (.pointer (some ⟨b, o, none⟩)), some (.int _ i) => match S.ty e with
      | some ⟨_, sz, _, _⟩ => some (.pointer (some ⟨b, o + i.toNat * sz, none⟩), (0 ≤ i ∧ i < (n : Int)))
      | none => none
    | _, _, _ => none
  | .index t x i => match S.ty t, evX env ec G x, evX env ec G i with
    | some ⟨.str, _, _, _⟩, some (.string s), some (.int _ i) => some (.int .u8 ((byteAt s i).toNat : Nat), 0 ≤ i ∧ i < (s.size : Int))
    | _, _, _ => none
  | .slice t x lo hi none => match S.ty t, evX env ec G x, evO env ec G 0 lo with
    | some ⟨.str, _, _, _⟩, some (.string s), some l => match evO env ec G (s.size : Nat) hi with
      | some h => some (.string (s.extract l.toNat h.toNat), (0 ≤ l ∧ l ≤ h) ∧ h ≤ (s.size : Int))
      | none => none
    | some ⟨.slice e, _, _, _⟩, some (.slice A n c), some l => match S.ty e, evO env ec G (n : Nat) hi with
      | some ⟨_, sz, _, _⟩, some h => match lo with
        | none => some (.slice A h.toNat c, (0 ≤ h ∧ h ≤ (c : Int)) ∧ (n : Int) ≤ (c : Int))
        | some _ => some (.slice (cutA A c l.toNat sz) (h.toNat - l.toNat) (c - l.toNat), (0 ≤ l ∧ l ≤ h) ∧ h ≤ (c : Int))
      | _, _ => none
    | _, _, _ => none
  | .convert s d x => match S.ty s, S.ty d, evX env ec G x with
    | some ⟨.int _, _, _, _⟩, some ⟨.int k, _, _, _⟩, some (.int _ n) => some (.int k n, inK k n)
    | some ⟨.str, _, _, _⟩, some ⟨.str, _, _, _⟩, some (.string s) => some (.string s, True)
    | _, _, _ => none
  | _ => none

theorem ofInt_i64 (a : Int) (h : 0 ≤ a ∧ a < 9223372036854775808) : (BitVec.ofInt 64 a).toNat = a.toNat := by
  obtain ⟨n, rfl⟩ := Int.eq_ofNat_of_zero_le h.1
  rw [BitVec.ofInt_natCast, BitVec.toNat_ofNat]
  simp only [Int.toNat_natCast]
  exact Nat.mod_eq_of_lt (by omega)
theorem and_i64 (a b : Int) (ha : 0 ≤ a ∧ a < 9223372036854775808) (hb : 0 ≤ b ∧ b < 9223372036854775808) :
    IntKind.i64.wrap ((BitVec.ofInt 64 a &&& BitVec.ofInt 64 b).toNat : Int) = andI a b := by
  have hx : a.toNat &&& b.toNat < 2 ^ 63 := Nat.and_lt_two_pow _ (by omega)
  rw [BitVec.toNat_and, ofInt_i64 a ha, ofInt_i64 b hb, IntKind.wrap_i64]
  unfold andI
  omega
theorem or_i64 (a b : Int) (ha : 0 ≤ a ∧ a < 9223372036854775808) (hb : 0 ≤ b ∧ b < 9223372036854775808) :
    IntKind.i64.wrap ((BitVec.ofInt 64 a ||| BitVec.ofInt 64 b).toNat : Int) = orI a b := by
  have hx : a.toNat ||| b.toNat < 2 ^ 63 := Nat.or_lt_two_pow (by omega) (by omega)
  rw [BitVec.toNat_or, ofInt_i64 a ha, ofInt_i64 b hb, IntKind.wrap_i64]
  unfold orI
  omega

theorem evO_none {env : Env} {ec : EnvC} {G : GId} {d n : Int} (h : evO env ec G d none = some n) : n = d := by cases h; rfl
theorem evO_some {N : FK} {all : Array Oper} {env : Env} {ec : EnvC} {G : GId} {a : Act} (ha : Agrees N all env ec a) (hG : Holds all a G) {d n : Int} {x : Operand} (h : evO env ec G d (some x) = some n) : ∃ k, a.eval x = .int k n := by
  simp only [evO] at h
  split at h
  · rename_i k m hx; cases h; exact ⟨k, evX_spec ha hG hx⟩
  · cases h
theorem run_sliceBound (P : Program) (w : World) (k : IntKind) (i : Int) (y : Nat) (c : BoundsCode) (h0 : 0 ≤ i) (h1 : i ≤ y) : (Instr.sliceBound (.int k i) y c).run P w = .ok i.toNat w := by
  simp [Instr.sliceBound, asIntOf, h0, h1]
theorem run_sliceBounds {S : Sig} {N : FK} {all : Array Oper} {env : Env} {ec : EnvC} {G : GId} {a : Act} (ha : Agrees N all env ec a) (hG : Holds all a G) (w : World) (isS : Bool) (len cap : Nat) {lo hi : Option Operand} {l h : Int}
    (hl : evO env ec G 0 lo = some l) (hh : evO env ec G (len : Nat) hi = some h) (h1 : 0 ≤ l) (h2 : l ≤ h) (h3 : h ≤ (cap : Int)) :
    (Instr.sliceBounds isS len cap (lo.map a.eval) (hi.map a.eval) none).run S.P w = .ok (l.toNat, h.toNat, cap) w := by
  have hc : h ≤ ((cap : Nat) : Int) := h3
  have hlh : l ≤ ((h.toNat : Nat) : Int) := by omega
  unfold Instr.sliceBounds
  cases hi with
  | none =>
    have e := evO_none hh
    subst e
    have hlh' : l ≤ ((len : Nat) : Int) := by omega
    cases lo with
    | none => have e := evO_none hl; subst e; simp
    | some x =>
      obtain ⟨k, hx⟩ := evO_some ha hG hl
      simp [hx, run_sliceBound _ _ _ _ _ _ h1 hlh']
  | some y =>
    obtain ⟨k, hy⟩ := evO_some ha hG hh
    have h0 : 0 ≤ h := by omega
    cases lo with
    | none => have e := evO_none hl; subst e; simp [hy, run_sliceBound _ _ _ _ _ _ h0 hc]
    | some x =>
      obtain ⟨k2, hx⟩ := evO_some ha hG hl
      simp [hx, hy, run_sliceBound _ _ _ _ _ _ h0 hc, run_sliceBound _ _ _ _ _ _ h1 hlh]
theorem byteAt_spec (s : ByteArray) (i : Int) (h : 0 ≤ i ∧ i < (s.size : Int)) : s[i.toNat]? = some (byteAt s i) := by
  have hi : i.toNat < s.size := by omega
  have hi2 : i.toNat < s.data.toList.length := by simpa using hi
  unfold byteAt
  rw [List.getD_eq_getElem?_getD, List.getElem?_eq_getElem hi2]
  simp [hi]
  rfl

set_option maxHeartbeats 1000000 in
theorem evV_spec {S : Sig} {N : FK} {all : Array Oper} {env : Env} {ec : EnvC} {G : GId} {o : Oper} {v : Value} {p : Prop} {a : Act} (ha : Agrees N all env ec a) (hG : Holds all a G)
    (h : evV S env ec G o = some (v, p)) (hp : p) (w : World) : (execOp a.eval o).run S.P w = .ok (.value v) w := by
  obtain ⟨dst, op, ty, pos, aft, gd⟩ := o
  unfold evV at h
  dsimp only at h
  split at h
  · -- binOp
    rename_i op t x y t2
    split at h
    all_goals try (cases h; done)
    all_goals rename_i hx hy
    all_goals have ex := evX_spec ha hG hx
    all_goals have ey := evX_spec ha hG hy
    case _ =>
      rename_i k a' k' b
      cases hk : sameK k k' with
      | false => rw [hk] at h; cases h
      | true =>
        rw [hk] at h; have e := sameK_eq hk; subst e
        simp only [cond_true, Option.some.injEq, Prod.mk.injEq] at h
        obtain ⟨rfl, rfl⟩ := h
        simp [execOp, ex, ey, eqGuard, binOp, Op.intArith, hp.wrap]
    case _ =>
      rename_i k a' k' b
      cases hk : sameK k k' with
      | false => rw [hk] at h; cases h
      | true =>
        rw [hk] at h; have e := sameK_eq hk; subst e
        simp only [cond_true, Option.some.injEq, Prod.mk.injEq] at h
        obtain ⟨rfl, rfl⟩ := h
        simp [execOp, ex, ey, eqGuard, binOp, Op.intArith, hp.wrap]
    case _ =>
      rename_i k a' k' b
      cases hk : sameK k k' with
      | false => rw [hk] at h; cases h
      | true =>
        rw [hk] at h; have e := sameK_eq hk; subst e
        simp only [cond_true, Option.some.injEq, Prod.mk.injEq] at h
        obtain ⟨rfl, rfl⟩ := h
        simp [execOp, ex, ey, eqGuard, binOp, Op.intArith, hp.wrap]
    case _ =>
      rename_i k a' k' b
      cases hk : sameK k k' with
      | false => rw [hk] at h; cases h
      | true =>
        rw [hk] at h; have e := sameK_eq hk; subst e
        simp only [cond_true, Option.some.injEq, Prod.mk.injEq] at h
        obtain ⟨rfl, rfl⟩ := h
        have hb : b ≠ 0 := by omega
        have hd : a'.tdiv b = a' / b := Int.tdiv_eq_ediv_of_nonneg hp.1
        simp [execOp, ex, ey, eqGuard, binOp, Op.intDiv, hb, hd, hp.2.2.wrap]
    case _ =>
      rename_i k a' k' b
      cases hk : sameK k k' with
      | false => rw [hk] at h; cases h
      | true =>
        rw [hk] at h; have e := sameK_eq hk; subst e
        simp only [cond_true, Option.some.injEq, Prod.mk.injEq] at h
        obtain ⟨rfl, rfl⟩ := h
        have hb : b ≠ 0 := by omega
        have hd : a'.tmod b = a' % b := Int.tmod_eq_emod_of_nonneg hp.1
        simp [execOp, ex, ey, eqGuard, binOp, Op.intDiv, hb, hd]
    case _ =>
      cases h
      have := and_i64 _ _ hp.1 hp.2
      simp only [execOp, ex, ey, eqGuard, binOp, Op.intBits]
      simp [IntKind.bits]
      exact this
    case _ =>
      cases h
      have := or_i64 _ _ hp.1 hp.2
      simp only [execOp, ex, ey, eqGuard, binOp, Op.intBits]
      simp [IntKind.bits]
      exact this
    case _ =>
      cases h
      rename_i a' b
      simp only [execOp, ex, ey, eqGuard, binOp, Op.stringOp]
      simp
      exact hp
  · -- neg
    split at h
    · rename_i k n hx; cases h; have hw := hp.wrap; simp [execOp, evX_spec ha hG hx, Op.unary, Op.intArith] at hw ⊢; exact hw
    · cases h
  · -- indexAddr
    rename_i t x i
    split at h
    · rename_i e m1 m2 m3 A n c k j ht hx hi
      have hk := (Sig.tyOk ht).fits
      simp only [Ty.fits] at hk
      split at h
      · rename_i d sz b2 z he
        have hsz := (Sig.tyOk he).sizeOf w
        dsimp only at hsz
        split at h
        · cases h
          simp only [execOp, evX_spec ha hG hx, evX_spec ha hG hi, Instr.indexAt]
          simp [asIntOf, run_underlying hk, hsz, hp.1, hp.2, Addr.add]
          try (split <;> simp_all)
        · cases h
          obtain ⟨h1, h2⟩ := hp
          unfold isAt at h2
          simp only [execOp, evX_spec ha hG hx, evX_spec ha hG hi, Instr.indexAt]
          rw [h2]
          simp [asIntOf, run_underlying hk, hsz, h1.1, h1.2, Addr.add, bk, ofs]
          try (split <;> simp_all)
      · cases h
    · rename_i n e m1 m2 m3 b o' k j ht hx hi
      have hk := (Sig.tyOk ht).fits
      simp only [Ty.fits] at hk
      split at h
      · rename_i d sz b2 z he
        have hsz := (Sig.tyOk he).sizeOf w
        dsimp only at hsz
        cases h
        simp only [execOp, evX_spec ha hG hx, evX_spec ha hG hi, Instr.indexAt]
        simp [asIntOf, run_underlying hk, hsz, hp.1, hp.2, Addr.add, Instr.sureAddr]
        try (split <;> simp_all)
      · cases h
    · cases h
  · -- index
    rename_i t x i
    split at h
    · rename_i m1 m2 m3 s k j ht hx hi
      have hk := (Sig.tyOk ht).fits
      simp only [Ty.fits] at hk
      cases h
      have hb := byteAt_spec s j hp
      simp only [execOp, evX_spec ha hG hx, evX_spec ha hG hi, Instr.index]
      simp [asIntOf, run_underlying hk, hp.1, hb]
    · cases h
  · -- slice
    rename_i t x lo hi
    split at h
    · rename_i m1 m2 m3 s l ht hx hl
      have hk := (Sig.tyOk ht).fits
      simp only [Ty.fits] at hk
      split at h
      · rename_i hv hh
        cases h
        have hb := run_sliceBounds (S := S) ha hG w false s.size s.size hl hh hp.1.1 hp.1.2 hp.2
        simp only [execOp, evX_spec ha hG hx, Instr.sliceAt]
        simp [run_underlying hk, Instr.slice, hb]
      · cases h
    · rename_i e m1 m2 m3 A n c l ht hx hl
      have hk := (Sig.tyOk ht).fits
      simp only [Ty.fits] at hk
      split at h
      · rename_i d sz b2 z hv he hh
        have hsz := (Sig.tyOk he).sizeOf w
        dsimp only at hsz
        split at h
        · cases h
          have e0 := evO_none hl
          subst e0
          have hb := run_sliceBounds (S := S) ha hG w true n c (lo := none) (l := 0) rfl hh (Int.le_refl 0) hp.1.1 hp.1.2
          simp only [execOp, evX_spec ha hG hx, Instr.sliceAt]
          simp only [Option.map_none] at hb ⊢
          simp [run_underlying hk, Instr.slice, hb, hsz]
          intro _
          cases A <;> simp [Addr.add]
        · rename_i y
          cases h
          have hb := run_sliceBounds (S := S) ha hG w true n c hl hh hp.1.1 hp.1.2 hp.2
          simp only [execOp, evX_spec ha hG hx, Instr.sliceAt]
          simp only [Option.map_some, Option.map_none] at hb ⊢
          simp [run_underlying hk, Instr.slice, hb, hsz, cutA]
      · cases h
    · cases h
  · -- convert
    rename_i s d x
    split at h
    · rename_i k1 m1 m2 m3 k n1 n2 n3 k2 n hs hd hx
      have h1 := (Sig.tyOk hs).fits
      have h2 := (Sig.tyOk hd).fits
      simp only [Ty.fits] at h1 h2
      cases h
      simp only [execOp, evX_spec ha hG hx, convert]
      simp [run_underlying h1, run_underlying h2, Conv.intToInt, hp.wrap]
    · rename_i m1 m2 m3 n1 n2 n3 b hs hd hx
      have h1 := (Sig.tyOk hs).fits
      have h2 := (Sig.tyOk hd).fits
      simp only [Ty.fits] at h1 h2
      cases h
      simp only [execOp, evX_spec ha hG hx, convert]
      simp [run_underlying h1, run_underlying h2]
    · cases h
  · cases h
end Go.Proofs.YtiglobijdegjdaaDoor
