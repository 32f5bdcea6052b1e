/- The engine: short words: the driver of straight-line code as default arguments; loops and meetings that keep what is not named. It speaks of any program. -/
import Derived.Test.YtiglobijdegjdaaDoorEngJ
import Derived.Laws.StructEq
import Derived.Laws.Tables
namespace Go.Proofs.YtiglobijdegjdaaDoor
open Go.RowKit Go.Shelf

/-! ## Aggregates that are built -/
def fillL (pl : List (Nat × Nat)) (cs : List Value) : List (Nat × Value) → Option (List Value)
  | [] => some cs
  | (i, v) :: r => match pl[i]? with
    | none => none
    | some (off, size) => cond (Nat.beq v.cells.size size && Nat.ble (off + size) cs.length) (fillL pl (setL cs off v.cells.toList) r) none
theorem foldl_setL : ∀ (us cs : List Value) (off n : Nat), (us.zipIdx n).foldl (fun (cs : Array Value) (x : Value × Nat) => cs.setIfInBounds (off + x.2) x.1) cs.toArray = (setL cs (off + n) us).toArray
  | [], cs, off, n => rfl
  | u :: us, cs, off, n => by
    simp only [List.zipIdx_cons, List.foldl_cons, List.setIfInBounds_toArray, setL]
    exact foldl_setL us (cs.set (off + n) u) off (n + 1)
theorem fillL_spec {pl : List (Nat × Nat)} : ∀ {ps : List (Nat × Value)} {cs cs' : List Value}, fillL pl cs ps = some cs' → Instr.fill (fun i => pl.toArray[i]?) cs.toArray ps = some cs'.toArray
  | [], cs, cs', h => by cases h; rfl
  | (i, v) :: r, cs, cs', h => by
    unfold fillL at h
    split at h
    · cases h
    · rename_i off size hi
      cases hc : (Nat.beq v.cells.size size && Nat.ble (off + size) cs.length) with
      | false => rw [hc] at h; cases h
      | true =>
        rw [hc] at h
        simp only [cond_true] at h
        simp only [Bool.and_eq_true] at hc
        have h1 : v.cells.size = size := Nat.eq_of_beq_eq_true hc.1
        have h2 : off + size ≤ cs.length := Nat.le_of_ble_eq_true hc.2
        have ih := fillL_spec h
        unfold Instr.fill
        simp only [List.getElem?_toArray, hi]
        rw [if_neg (by simp [h1]; omega)]
        have e := foldl_setL v.cells.toList cs off 0
        rw [← Array.foldl_toList, Array.toList_zipIdx]
        rw [e, Nat.add_zero]
        simpa only [List.getElem?_toArray] using ih
def placesOf (S : Sig) : List (TypeId × Nat) → Option (List (Nat × Nat))
  | [] => some []
  | (t, off) :: l => match S.ty t with
    | some ⟨_, sz, _, _⟩ => match placesOf S l with
      | some r => some ((off, sz) :: r)
      | none => none
    | none => none
theorem placesOf_spec {S : Sig} : ∀ {fs : List Field} {pl : List (Nat × Nat)}, placesOf S (fs.map fun f => (f.type, f.offset)) = some pl → fs.mapM (fun f => (S.P.info? f.type).map fun i => (f.offset, i.size)) = some pl
  | [], pl, h => by cases h; rfl
  | f :: fs, pl, h => by
    simp only [List.map_cons, placesOf] at h
    split at h
    · rename_i d sz b z ht
      split at h
      · rename_i r hr
        cases h
        obtain ⟨x, hx, h1, _⟩ := (Sig.tyOk ht).info'
        have ih := placesOf_spec hr
        simp only [List.mapM_cons, hx, Option.map_some, ih]
        simp [h1]
      · cases h
    · cases h
def evPartsG (env : Env) (ec : EnvC) (G : GId) : List (Nat × Operand) → Option (List (Nat × Value))
  | [] => some []
  | (i, x) :: l => match evX env ec G x with
    | some v => match evPartsG env ec G l with
      | some vs => some ((i, v) :: vs)
      | none => none
    | none => none
theorem evPartsG_spec {N : FK} {all : Array Oper} {env : Env} {ec : EnvC} {a : Act} {G : GId} (ha : Agrees N all env ec a) (hG : Holds all a G) : ∀ {l : List (Nat × Operand)} {vs : List (Nat × Value)}, evPartsG env ec G l = some vs → l.map (fun (i, x) => (i, a.eval x)) = vs
  | [], vs, h => by cases h; rfl
  | (i, x) :: l, vs, h => by
    unfold evPartsG at h
    split at h
    · rename_i v hv
      split at h
      · rename_i us hus
        cases h
        rw [List.map_cons, evPartsG_spec ha hG hus]
        simp only [evX_spec ha hG hv]
      · cases h
    · cases h
def arrPl (sz : Nat) : Nat → Nat → List (Nat × Nat)
  | 0, _ => []
  | n + 1, i => (i * sz, sz) :: arrPl sz n (i + 1)
def evBd (S : Sig) (env : Env) (ec : EnvC) (G : GId) (o : Oper) : Option (List Value) :=
  match o.op with
  | .build t ps => match S.ty t, evPartsG env ec G ps.toList with
    | some ⟨.struct fs, _, _, z⟩, some vs => match placesOf S fs with
      | some pl => fillL pl z.cells.toList vs
      | none => none
    | _, _ => none
  | _ => none
theorem evBd_spec {S : Sig} {N : FK} {all : Array Oper} {env : Env} {ec : EnvC} {G : GId} {o : Oper} {a : Act} (ha : Agrees N all env ec a) (hG : Holds all a G) {cs : List Value}
    (h : evBd S env ec G o = some cs) (w : World) : (execOp a.eval o).run S.P w = .ok (.value (.agg cs.toArray)) w := by
  obtain ⟨dst, op, ty, pos, aft, gd⟩ := o
  unfold evBd at h
  dsimp only at h
  split at h
  · rename_i t ps
    split at h
    · rename_i fs q1 q2 z vs ht hvs
      split at h
      · rename_i pl hpl
        have hk := Sig.tyOk ht
        obtain ⟨fa, hfa, hfs⟩ := hk.fits
        have hz := hk.zeroValue w
        dsimp only at hz
        rw [← hfs] at hpl
        have hpl2 := run_places (P := S.P) w fa.toList pl (placesOf_spec hpl)
        have hpl3 : (fa.mapM fun f => do pure (f.offset, ← sizeOf f.type) : Sem (Array (Nat × Nat))).run S.P w = .ok pl.toArray w := by
          rw [Array.mapM_eq_mapM_toList]
          have h3 : (List.toArray <$> List.mapM (fun f => do pure (f.offset, ← sizeOf f.type)) fa.toList : Sem (Array (Nat × Nat))) = (do let l ← List.mapM (fun f => do pure (f.offset, ← sizeOf f.type)) fa.toList; pure l.toArray) := map_eq_pure_bind _ _
          rw [h3]
          have h4 : (fun f : Field => Prod.mk f.offset <$> sizeOf f.type) = (fun f : Field => (do pure (f.offset, ← sizeOf f.type) : Sem (Nat × Nat))) := by
            funext f; exact map_eq_pure_bind _ _
          rw [h4] at hpl2
          simp only [Sem.run_bind, hpl2, Result.andThen_ok, Sem.run_pure]
        have hparts : (Array.map (fun x : Nat × Operand => (x.1, a.eval x.2)) ps).toList = vs := by rw [Array.toList_map]; exact evPartsG_spec ha hG hvs
        have hf := fillL_spec h
        have hf' : Instr.fill (fun i => pl.toArray[i]?) z.cells vs = some cs.toArray := hf
        simp only [execOp, Instr.build, Sem.run_bind, hz, Result.andThen_ok, run_underlying hfa, hpl3]
        rw [hparts, hf']
        rfl
      · cases h
    · cases h
  · cases h
theorem Val.build {C : Cx} {all : Array Oper} {o : Oper} {env : Env} {ec : EnvC} {Hs : List HA} {G : GId} {cs : List Value} (hv : evBd C.S env ec G o = some cs) : Val C all o env ec Hs G (.agg cs.toArray) := fun _ w ha _ hH => evBd_spec ha hH hv w
/-- Two structs that are compared. -/
def evQ (env : Env) (ec : EnvC) (G : GId) (o : Oper) : Option (Bool × TypeId × Array Value × Array Value) :=
  match o.op with
  | .binOp op t x y _ => match op, evX env ec G x, evX env ec G y with
    | .eql, some (.agg xs), some (.agg ys) => some (true, t, xs, ys)
    | .neq, some (.agg xs), some (.agg ys) => some (false, t, xs, ys)
    | _, _, _ => none
  | _ => none
theorem Val.eqS {C : Cx} {all : Array Oper} {o : Oper} {env : Env} {ec : EnvC} {Hs : List HA} {G : GId} {p : Bool} {t : TypeId} {xs ys : Array Value} {r : Bool} (hv : evQ env ec G o = some (p, t, xs, ys))
    (he : ∀ w, (Op.equalIn 10000 t (.agg xs) (.agg ys)).run C.S.P w = .ok r w) (hg : C.S.P.eqGuardType C.S.P.depth t = false) : Val C all o env ec Hs G (.bool (cond p r (!r))) := by
  intro a w ha _ hH
  obtain ⟨dst, op, ty, pos, aft, gd⟩ := o
  unfold evQ at hv
  dsimp only at hv
  split at hv
  · rename_i op t' x y t2
    split at hv
    · rename_i xs' ys' hx hy
      cases hv
      have e1 := evX_spec ha hH hx
      have e2 := evX_spec ha hH hy
      simp only [execOp, e1, e2]
      rw [Sem.run_bind, Sem.run_bind, run_eqGuard_agg w _ _ _ _ _ _ hg, Result.andThen_ok, run_eql_struct, he w]
      rfl
    · rename_i xs' ys' hx hy
      cases hv
      have e1 := evX_spec ha hH hx
      have e2 := evX_spec ha hH hy
      simp only [execOp, e1, e2]
      rw [Sem.run_bind, Sem.run_bind, run_eqGuard_agg w _ _ _ _ _ _ hg, Result.andThen_ok, run_neq_struct, he w]
      rfl
    · cases hv
  · cases hv

theorem RdC.at {w : World} {b off i : Nat} {vs : List Value} {u : Value} (h : RdC w b off vs) (hv : vs[i]? = some u) : RdC w b (off + i) [u] := by
  intro j x hx
  cases j with
  | zero => simp at hx; subst hx; exact h i u hv
  | succ j => simp at hx
theorem RdC.at2 {w : World} {b off i j : Nat} {vs : List Value} {u : Value} (h : RdC w b off vs) (hv : vs[i + j]? = some u) : RdC w b (off + i + j) [u] := by
  rw [Nat.add_assoc]; exact h.at hv
theorem Hle.cons {A : HA} {H K : List HA} (h : ∃ p : Nat → Nat, (∀ (i : Nat) (B : HA), K[i]? = some B → H[p i]? = some B) ∧ ∀ i j, i < K.length → j < K.length → i ≠ j → p i ≠ p j) : ∃ p : Nat → Nat, (∀ (i : Nat) (B : HA), (A :: K)[i]? = some B → (A :: H)[p i]? = some B) ∧ ∀ i j, i < (A :: K).length → j < (A :: K).length → i ≠ j → p i ≠ p j := by
  obtain ⟨p, h1, h2⟩ := h
  refine ⟨fun i => match i with | 0 => 0 | i + 1 => p i + 1, fun i B hi => ?_, fun i j hi hj hne => ?_⟩
  · cases i with
    | zero => simpa using hi
    | succ i => simpa using h1 i B (by simpa using hi)
  · cases i <;> cases j <;> dsimp only <;> try omega
    rename_i i j
    have := h2 i j (by simpa using hi) (by simpa using hj) (by omega)
    omega
/-- Some of the entries, in their order. -/
class SubP (H K : List HA) : Prop where
  at_ : ∃ p : Nat → Nat, (∀ (i : Nat) (B : HA), K[i]? = some B → H[p i]? = some B) ∧ ∀ i j, i < K.length → j < K.length → i ≠ j → p i ≠ p j
instance SubP.nil (H : List HA) : SubP H [] := ⟨id, fun i B h => by simp at h, fun i j h => by simp at h⟩
instance (priority := low) SubP.drop (A : HA) (H K : List HA) [h : SubP H K] : SubP (A :: H) K := ⟨by
  obtain ⟨p, h1, h2⟩ := h.at_
  exact ⟨fun i => p i + 1, fun i B hi => by simpa using h1 i B hi, fun i j hi hj hne => by have := h2 i j hi hj hne; dsimp only; omega⟩⟩
instance SubP.keep (A : HA) (H K : List HA) [h : SubP H K] : SubP (A :: H) (A :: K) := ⟨Hle.cons h.at_⟩
theorem Hle.sub {H K : List HA} [h : SubP H K] : Hle H K := by
  obtain ⟨p, h1, h2⟩ := h.at_
  exact Hle.pick p h1 h2
/-! ## The order in which a region's operations are taken -/
def nums : List Nat := 0 :: 1 :: 2 :: 3 :: 4 :: 5 :: 6 :: 7 :: 8 :: 9 :: 10 :: 11 :: 12 :: 13 :: 14 :: 15 :: 16 :: 17 :: 18 :: 19 :: 20 :: 21 :: 22 :: 23 :: 24 :: 25 :: 26 :: 27 :: 28 :: 29 :: 30 :: 31 :: 32 :: 33 :: 34 :: 35 :: 36 :: 37 :: 38 :: 39 :: 40 :: 41 :: 42 :: 43 :: 44 :: 45 :: 46 :: 47 :: 48 :: 49 :: 50 :: 51 :: 52 :: 53 :: 54 :: 55 :: 56 :: 57 :: 58 :: 59 :: 60 :: 61 :: 62 :: 63 :: 64 :: 65 :: 66 :: 67 :: 68 :: 69 :: 70 :: 71 :: 72 :: 73 :: 74 :: 75 :: 76 :: 77 :: 78 :: 79 :: 80 :: 81 :: 82 :: 83 :: 84 :: 85 :: 86 :: 87 :: 88 :: 89 :: 90 :: 91 :: 92 :: 93 :: 94 :: 95 :: 96 :: 97 :: 98 :: 99 :: 100 :: 101 :: 102 :: 103 :: 104 :: 105 :: 106 :: 107 :: 108 :: 109 :: 110 :: 111 :: 112 :: 113 :: 114 :: 115 :: 116 :: 117 :: 118 :: 119 :: 120 :: 121 :: 122 :: 123 :: 124 :: 125 :: 126 :: 127 :: 128 :: 129 :: []
def isNum (x : Nat) : List Nat → Bool
  | [] => false
  | y :: l => Nat.beq x y || isNum x l
def bindsA (e : Edge) : Bool := match e.ground with
  | .textOnly _ => false
  | .gcOnly _ => false
  | _ => true
/-- The numbers, as they stand. -/
def ordL : List Nat → List Oper → List Nat
  | n :: ns, _ :: os => n :: ordL ns os
  | _, _ => []
/-- None of what it waits for is still to come. -/
def freeL (rem : List (Nat × Oper)) : List Edge → Bool
  | [] => true
  | e :: l => (cond (bindsA e) (!(isNum e.on (rem.map Prod.fst))) true) && freeL rem l
def zipN : List Nat → List Oper → List (Nat × Oper)
  | n :: ns, o :: os => (n, o) :: zipN ns os
  | _, _ => []
def pickV (rem : List (Nat × Oper)) : List (Nat × Oper) → Option Nat
  | (n, o) :: l => cond (quietO o.op && freeL rem o.after.toList) (some n) (pickV rem l)
  | [] => none
def pickC (rem : List (Nat × Oper)) : List (Nat × Oper) → Option Nat
  | (n, o) :: l => cond (freeL rem o.after.toList) (some n) (pickC rem l)
  | [] => none
def dropN (i : Nat) : List (Nat × Oper) → List (Nat × Oper)
  | (n, o) :: l => cond (Nat.beq n i) l ((n, o) :: dropN i l)
  | [] => []
/-- What turns nothing comes first. -/
def ordS : Nat → List (Nat × Oper) → List Nat
  | f + 1, rem => match pickV rem rem with
    | some i => i :: ordS f (dropN i rem)
    | none => match pickC rem rem with
      | some i => i :: ordS f (dropN i rem)
      | none => []
  | 0, _ => []
/-- The first operation that turns something that is there. -/
def effZ : List (Nat × Oper) → Nat
  | (n, o) :: l => match o.op with
    | .store _ _ _ => n
    | .call { callee := .builtin .append, args := _, argTypes := _ } => n
    | _ => effZ l
  | [] => 1000
section
variable {C : Cx} {all : Array Oper} {o : Oper} {rest : List Oper} {k : List It} {env : Env} {ec : EnvC} {H Hs : List HA} {d : Nat} {v : Value} {done ord : List Nat} {G : GId} {z : Nat} {i : Nat}
theorem chkR_cons {all : Array Oper} {z i : Nat} {done ord : List Nat} (h : chkR all z done (i :: ord) = true) : chkR all z (i :: done) ord = true ∧ noDef all = true ∧ Region.noSelect all = true ∧ ∃ o, all[i]? = some o ∧
    ((quietO o.op = true ∧ Region.free .any all (lst all done) i = true ∧ (Region.ready .any all (lst all done)).contains i = true ∧ waits .any all z i = true ∧ live z (lst all done) = true) ∨ (quietO o.op = false ∧ Region.ready .any all (lst all done) = [i])) := by
  simp only [chkR, chkOrd, Bool.and_eq_true] at h
  obtain ⟨h1, h2, h3, h4⟩ := h
  refine ⟨by simp only [chkR, Bool.and_eq_true]; exact ⟨h1, h2, h4⟩, h1, h2, ?_⟩
  cases ho : all[i]? with
  | none => rw [ho] at h3; cases h3
  | some o =>
    rw [ho] at h3
    simp only at h3
    cases hq : quietO o.op with
    | true => rw [hq] at h3; simp only [cond_true, Bool.and_eq_true] at h3; exact ⟨o, rfl, .inl ⟨hq, h3.1, h3.2.1, h3.2.2.1, h3.2.2.2⟩⟩
    | false => rw [hq] at h3; simp only [cond_false, decide_eq_true_eq] at h3; exact ⟨o, rfl, .inr ⟨hq, h3⟩⟩
/-- The region begins. -/
theorem rs0 {id : Nat} (z : Nat) (ord : List Nat) (hn : Nat.beq all.size ord.length = true) (hc : chkR all z [] ord = true) (h : T C (.run all [] ord H z :: k) env [] H) : T C (.code (.region id all true) :: k) env ec H := by
  refine T.mk fun a w ha hw => ?_
  have := h a _ ha.plain hw.drew hc
  have e : all.size = ord.length := Nat.eq_of_beq_eq_true hn
  rw [← e] at this
  exact wpIn_region_heldR C.S.mixed this
/-- .. with what stays as it is all through it. -/
theorem rsH {id : Nat} (Hs : List HA) (z : Nat) (ord : List Nat) (h : T C (.run all [] ord Hs z :: k) env [] H) (hn : Nat.beq all.size ord.length = true := by exact rfl) (hc : chkR all z [] ord = true := by decide +kernel) : T C (.code (.region id all true) :: k) env ec H := by
  refine T.mk fun a w ha hw => ?_
  have := h a _ ha.plain hw.drew hc
  have e : all.size = ord.length := Nat.eq_of_beq_eq_true hn
  rw [← e] at this
  exact wpIn_region_heldR C.S.mixed this
theorem rsL {id : Nat} (hn : Nat.beq all.size (ordL nums all.toList).length = true) (hc : chkR all (effZ (zipN nums all.toList)) [] (ordL nums all.toList) = true) (h : T C (.run all [] (ordL nums all.toList) H (effZ (zipN nums all.toList)) :: k) env [] H) : T C (.code (.region id all true) :: k) env ec H := rs0 _ _ hn hc h
theorem rsS {id : Nat} (hn : Nat.beq all.size (ordS 130 (zipN nums all.toList)).length = true) (hc : chkR all (effZ (zipN nums all.toList)) [] (ordS 130 (zipN nums all.toList)) = true) (h : T C (.run all [] (ordS 130 (zipN nums all.toList)) H (effZ (zipN nums all.toList)) :: k) env [] H) : T C (.code (.region id all true) :: k) env ec H := rs0 _ _ hn hc h
theorem re (hord : ord = []) (h : T C (nf 60 k) env [] H) : T C (.run all done ord Hs z :: k) env ec H := by
  refine T.mk fun a w ha hw hc => ?_
  subst hord
  simp only [chkR, chkOrd, Bool.and_eq_true, List.isEmpty_iff] at hc
  exact wpAnyHR_done hc.2.2 (nf_spec (n := 60) (h a w ha.plain hw)) _
/-- One that turns nothing is taken first. -/
theorem rv (hi : all[i]? = some o) (hq : quietO o.op = true) (hg : gOf all env ec o = some []) (hv : Val C all o env ec Hs [] v) (hd : o.dst = some d) (hN : Nat.blt d C.N.n = true) (hs : safeC all d ec = true)
    (h : T C (.run all (i :: done) ord Hs z :: k) ((d, v) :: env) ec H) (hle : Hle H Hs := by first | exact Hle.refl _ | exact Hle.none _ | exact Hle.append_right _ | exact Hle.sub) : T C (.run all done (i :: ord) Hs z :: k) env ec H := by
  refine T.mk fun a w ha hw hc => ?_
  obtain ⟨hc', hnd, hns, o', hi', hcase⟩ := chkR_cons hc
  rw [hi] at hi'; cases hi'
  obtain ⟨_, hf, hr, hz, hlv⟩ := hcase.resolve_right (fun h => by rw [hq] at h; cases h.1)
  have hwn := (wanted_iff ha hg).2 (Holds.nil _ _)
  refine wpAnyHR_take hnd hi hns hf hr hz hlv (fun c a w q => q) (.inl ⟨hwn, fun w' hw' => hv a w' ha hw' (Holds.nil _ _)⟩) (hw.le hle) ?_
  rw [hd]
  exact h _ w (ha.put hN hs) hw hc'
theorem rg (hi : all[i]? = some o) (hq : quietO o.op = true) (hg : gOf all env ec o = some G) (hv : Val C all o env ec Hs G v) (hd : o.dst = some d) (hN : Nat.blt d C.N.n = true) (hs : safeC all d ec = true) (hsG : safeG all d G = true) (hl : lookE env d = none)
    (h : T C (.run all (i :: done) ord Hs z :: k) env ((d, (G, v)) :: ec) H) (hle : Hle H Hs := by first | exact Hle.refl _ | exact Hle.none _ | exact Hle.append_right _ | exact Hle.sub) : T C (.run all done (i :: ord) Hs z :: k) env ec H := by
  refine T.mk fun a w ha hw hc => ?_
  obtain ⟨hc', hnd, hns, o', hi', hcase⟩ := chkR_cons hc
  rw [hi] at hi'; cases hi'
  obtain ⟨_, hf, hr, hz, hlv⟩ := hcase.resolve_right (fun h => by rw [hq] at h; cases h.1)
  by_cases hH : Holds all a G
  · have hwn := (wanted_iff ha hg).2 hH
    refine wpAnyHR_take hnd hi hns hf hr hz hlv (fun c a w q => q) (.inl ⟨hwn, fun w' hw' => hv a w' ha hw' hH⟩) (hw.le hle) ?_
    rw [hd]
    exact h _ w (ha.putC hN hs hsG hl (fun _ => rfl) (fun hh => absurd hH hh)) hw hc'
  · have hwn : Region.wanted o (yielded all a.tmps) = false := by
      cases hq : Region.wanted o (yielded all a.tmps) with
      | false => rfl
      | true => exact absurd ((wanted_iff ha hg).1 hq) hH
    refine wpAnyHR_take hnd hi hns hf hr hz hlv (fun c a w q => q) (.inr ⟨hwn, rfl⟩) (hw.le hle) ?_
    rw [hd]
    exact h _ w (ha.putC hN hs hsG hl (fun hh => absurd hh hH) (fun _ => rfl)) hw hc'
/-- One that is the only one that can come up. -/
theorem ro (hi : all[i]? = some o) (hq : quietO o.op = false)
    (h : OpT C all o env ec H (fun env' ec' H' => (live z (lst all (i :: done)) = true → Hle H' Hs) ∧ T C (.run all (i :: done) ord Hs z :: k) env' ec' H')) : T C (.run all done (i :: ord) Hs z :: k) env ec H := by
  refine T.mk fun a w ha hw hc => ?_
  obtain ⟨hc', hnd, hns, o', hi', hcase⟩ := chkR_cons hc
  rw [hi] at hi'; cases hi'
  obtain ⟨_, hr⟩ := hcase.resolve_left (fun h => by rw [hq] at h; cases h.1)
  refine wpAnyHR_all hr (by simp) fun j hj => ?_
  have : j = i := by simpa using hj
  subst this
  have := h a w ha hw (fun a' w' => (live z (lst all (j :: done)) = true → Cls C.w0 w' Hs) ∧ wpAnyHR C.rd 0 C.S.P .any all (post (sem C k).1 (sem C k).2 C.Rr) (fun w => Cls C.w0 w Hs) z ord.length (lst all (j :: done)) a' w') (post (sem C k).1 (sem C k).2 C.Rr)
    (fun env' ec' H' a' w' hT ha' hw' => ⟨fun hl => hw'.le (hT.1 hl), hT.2 a' w' ha' hw' hc'⟩)
  unfold wpOpIn
  rw [hi]
  simp only
  split
  · rename_i hwn; exact this.1 hwn
  · rename_i hwn; exact ⟨about_Fr o _ w _, this.2 (by simpa using hwn)⟩
theorem rc {f : FuncId} {args : List Value} (hi : all[i]? = some o) (hq : quietO o.op = false) (hg : gOf all env ec o = some []) (he : evCall env ec [] o = some (f, args)) (hd : o.dst = some d) (hN : Nat.blt d C.N.n = true) (hs : safeC all d ec = true)
    (hc : ∀ w, Cls C.w0 w H → Spec C.S.P f args w (fun u A => u = v ∧ A = [])) (h : T C (.run all (i :: done) ord Hs z :: k) ((d, v) :: env) ec H)
    (hle : Hle H Hs := by first | exact Hle.refl _ | exact Hle.none _ | exact Hle.append_right _ | exact Hle.sub) : T C (.run all done (i :: ord) Hs z :: k) env ec H :=
  ro hi hq (OpT.callV hg he hd hN hs hc ⟨fun _ => hle, h⟩)
theorem rcG {f : FuncId} {args : List Value} (hi : all[i]? = some o) (hq : quietO o.op = false) (hg : gOf all env ec o = some G) (he : evCall env ec G o = some (f, args)) (hd : o.dst = some d) (hN : Nat.blt d C.N.n = true) (hs : safeC all d ec = true) (hsG : safeG all d G = true) (hl : lookE env d = none)
    (hc : GP all env ec G → ∀ w, Cls C.w0 w H → Spec C.S.P f args w (fun u A => u = v ∧ A = [])) (h : T C (.run all (i :: done) ord Hs z :: k) env ((d, (G, v)) :: ec) H)
    (hle : Hle H Hs := by first | exact Hle.refl _ | exact Hle.none _ | exact Hle.append_right _ | exact Hle.sub) : T C (.run all done (i :: ord) Hs z :: k) env ec H :=
  ro hi hq (OpT.callC hg he hd hN hs hsG hl hc ⟨fun _ => hle, h⟩)
/-- A call with blocks of its own. -/
theorem rcE {f : FuncId} {args : List Value} {α : Type} {p : α → Prop} {val : α → Value} {own : α → HA} (hi : all[i]? = some o) (hq : quietO o.op = false) (hg : gOf all env ec o = some []) (he : evCall env ec [] o = some (f, args)) (hd : o.dst = some d) (hN : Nat.blt d C.N.n = true) (hs : safeC all d ec = true)
    (hc : ∀ w, Cls C.w0 w H → Spec C.S.P f args w (fun u A => ∃ x, p x ∧ u = val x ∧ A = [own x])) (h : ∀ x, p x → T C (.run all (i :: done) ord Hs z :: k) ((d, val x) :: env) ec (own x :: H))
    (hle : ∀ x, Hle (own x :: H) Hs := by intro x; first | exact Hle.tail _ _ | exact Hle.none _ | exact (Hle.tail _ _).trans (Hle.append_right _)) : T C (.run all done (i :: ord) Hs z :: k) env ec H :=
  ro hi hq (OpT.call hg he hd hN hs hc (by rintro u A ⟨x, hp, rfl, rfl⟩; exact ⟨fun _ => hle x, h x hp⟩))
end

/-- One step of whatever kind that needs no word of ours. -/
theorem d1 {A B : Prop} (h : B) (hab : B → A := by
  intro hh
  first
  | ((show T _ (.ops _ (⟨_, .load _ _, _, _, _, none⟩ :: _) :: _) _ _ _)
     first
     | exact T_load rfl rfl rfl rfl rfl (rdOwn1 rfl) hh
     | exact T_loadA rfl rfl rfl rfl rfl rdAll rfl hh
     | exact T_load rfl rfl rfl rfl rfl (rdOld ‹RdC _ _ _ [_]›) hh
     | exact T_load rfl rfl rfl rfl rfl (rdOld (RdC.at ‹RdC _ _ _ _› rfl)) hh
     | exact T_load rfl rfl rfl rfl rfl (rdOld (RdC.at2 ‹RdC _ _ _ _› rfl)) hh
     | exact T_loadA rfl rfl rfl rfl rfl (rdOld ‹RdC _ _ _ _›) rfl hh)
  | ((show T _ (.ops _ (⟨_, .load _ _, _, _, _, some _⟩ :: _) :: _) _ _ _)
     first
     | exact T_loadC rfl rfl rfl rfl rfl rfl rfl (fun _ => rdOwn1 rfl) hh
     | exact T_loadAC rfl rfl rfl rfl rfl rfl rfl (fun _ => rdAll) rfl hh
     | exact T_loadC rfl rfl rfl rfl rfl rfl rfl (fun _ => rdOld ‹RdC _ _ _ [_]›) hh
     | exact T_loadC rfl rfl rfl rfl rfl rfl rfl (fun _ => rdOld (RdC.at ‹RdC _ _ _ _› rfl)) hh
     | exact T_loadC rfl rfl rfl rfl rfl rfl rfl (fun _ => rdOld (RdC.at2 ‹RdC _ _ _ _› rfl)) hh
     | exact T_loadAC rfl rfl rfl rfl rfl rfl rfl (fun _ => rdOld ‹RdC _ _ _ _›) rfl hh)
  | ((show T _ (.ops _ (⟨_, .store _ _ _, _, _, _, _⟩ :: _) :: _) _ _ _)
     first
     | exact T_op (OpT.store rfl rfl rfl rfl (by first | exact Nat.le_of_ble_eq_true rfl | decide | (simp; omega)) hh)
     | exact T_op (OpT.storeA rfl rfl rfl rfl rfl rfl (by first | exact Nat.le_of_ble_eq_true rfl | decide | (simp; omega)) hh))
  | ((show T _ (.ops _ (⟨_, .box _ _, _, _, _, _⟩ :: _) :: _) _ _ _)
     exact T_op (OpT.box rfl rfl rfl rfl rfl rfl rfl hh))
  | ((show T _ (.ops _ (⟨_, .alloc _, _, _, _, _⟩ :: _) :: _) _ _ _)
     exact T_op (OpT.alloc rfl rfl rfl rfl rfl rfl rfl hh))
  | ((show T _ (.ops _ (⟨_, .buildSlice _ _ _, _, _, _, _⟩ :: _) :: _) _ _ _)
     exact T_op (OpT.litW rfl rfl rfl rfl rfl rfl rfl rfl rfl rfl rfl hh))
  | ((show T _ (.ops _ (⟨_, .build _ _, _, _, _, none⟩ :: _) :: _) _ _ _)
     exact T_val rfl (Val.build rfl) rfl rfl rfl hh)
  | ((show T _ (.ops _ (⟨_, .build _ _, _, _, _, some _⟩ :: _) :: _) _ _ _)
     exact T_valC rfl (Val.build rfl) rfl rfl rfl rfl rfl hh)
  | ((show T _ (.ops _ (⟨_, _, _, _, _, none⟩ :: _) :: _) _ _ _)
     first
     | exact T_pure rfl rfl rfl rfl rfl hh
     | exact T_vc rfl rfl rfl rfl rfl (by first | (simp only [inK]; omega) | omega | with_reducible exact True.intro | with_reducible assumption) hh)
  | ((show T _ (.ops _ (⟨_, _, _, _, _, some _⟩ :: _) :: _) _ _ _)
     first
     | exact T_pureC rfl rfl rfl rfl rfl rfl rfl hh
     | exact T_vcC rfl rfl rfl rfl rfl rfl rfl (fun hg => by
         (simp only [List.cons_append, List.nil_append, GP, dstL, lookE, Nat.beq, cond, List.getElem?_cons_zero, List.getElem?_cons_succ, Option.bind_some, and_true, Bool.and_eq_true, Bool.or_eq_true, Bool.and_eq_false_iff, Bool.or_eq_false_iff, Bool.not_eq_true', Bool.not_eq_false', decide_eq_true_eq, decide_eq_false_iff_not] at hg)
         first | (simp only [inK]; omega) | omega | with_reducible exact True.intro | with_reducible assumption) hh)
  | ((show T _ (.ops _ [] :: _) _ _ _)
     exact T_end hh)) : A := hab h
/-- One step of a region. -/
theorem dd {A B : Prop} (h : B) (hab : B → A := by
  intro hh
  first
  | ((show T _ (.code (.region _ _ true) :: _) _ _ _)
     first
     | exact rsL rfl (by decide +kernel) hh
     | exact rsS rfl (by decide +kernel) hh)
  | ((show T _ (.run _ _ [] _ _ :: _) _ _ _)
     exact re rfl hh)
  | ((show T _ (.run _ _ (_ :: _) _ _ :: _) _ _ _)
     first
     | exact rv rfl rfl rfl (by
         first
         | exact Val.pure rfl
         | exact Val.load rfl (fun _ => rdOwn1 rfl)
         | exact Val.loadA rfl (fun _ => rdAll) rfl
         | exact Val.build rfl
         | exact Val.load rfl (fun _ => rdOld ‹RdC _ _ _ [_]›)
         | exact Val.load rfl (fun _ => rdOld (RdC.at ‹RdC _ _ _ _› rfl))
         | exact Val.load rfl (fun _ => rdOld (RdC.at2 ‹RdC _ _ _ _› rfl))
         | exact Val.loadA rfl (fun _ => rdOld ‹RdC _ _ _ _›) rfl
         | exact Val.vc rfl (fun hg => by first | (simp only [inK]; omega) | omega | with_reducible exact True.intro | with_reducible assumption)) rfl rfl rfl hh
     | exact rg rfl rfl rfl (by
         first
         | exact Val.pure rfl
         | exact Val.load rfl (fun _ => rdOwn1 rfl)
         | exact Val.loadA rfl (fun _ => rdAll) rfl
         | exact Val.build rfl
         | exact Val.load rfl (fun _ => rdOld ‹RdC _ _ _ [_]›)
         | exact Val.load rfl (fun _ => rdOld (RdC.at ‹RdC _ _ _ _› rfl))
         | exact Val.load rfl (fun _ => rdOld (RdC.at2 ‹RdC _ _ _ _› rfl))
         | exact Val.loadA rfl (fun _ => rdOld ‹RdC _ _ _ _›) rfl
         | exact Val.vc rfl (fun hg => by
             (simp only [List.cons_append, List.nil_append, GP, dstL, lookE, Nat.beq, cond, List.getElem?_cons_zero, List.getElem?_cons_succ, Option.bind_some, and_true, Bool.and_eq_true, Bool.or_eq_true, Bool.and_eq_false_iff, Bool.or_eq_false_iff, Bool.not_eq_true', Bool.not_eq_false', decide_eq_true_eq, decide_eq_false_iff_not] at hg)
             first | (simp only [inK]; omega) | omega | with_reducible exact True.intro | with_reducible assumption)) rfl rfl rfl rfl rfl hh
     | exact ro rfl rfl (OpT.store rfl rfl rfl rfl (by first | exact Nat.le_of_ble_eq_true rfl | decide | (simp; omega)) ⟨fun h => by first | exact absurd h (by decide +kernel) | exact Hle.sub, hh⟩))) : A := hab h

/-! ## What is not named is kept -/
def memN (s : Nat) : List Nat → Bool
  | [] => false
  | x :: l => Nat.beq x s || memN s l
inductive KeepX : Env → List Nat → Env → Prop where
  | nil (ks : List Nat) : KeepX [] ks []
  | drop {s : Nat} {v : Value} {env env' : Env} {ks : List Nat} (h : memN s ks = true) (r : KeepX env ks env') : KeepX ((s, v) :: env) ks env'
  | keep {s : Nat} {v : Value} {env env' : Env} {ks : List Nat} (h : memN s ks = false) (r : KeepX env (s :: ks) env') : KeepX ((s, v) :: env) ks ((s, v) :: env')
theorem memN_spec {s : Nat} : ∀ {l : List Nat}, memN s l = true ↔ s ∈ l
  | [] => by simp [memN]
  | x :: l => by
    simp only [memN, Bool.or_eq_true, List.mem_cons, memN_spec (l := l)]
    rw [show (Nat.beq x s = true) ↔ s = x from ⟨fun h => (Nat.eq_of_beq_eq_true h).symm, fun h => by subst h; simp⟩]
theorem EnvLe.of {l env : Env} (h : ∀ s v, (s, v) ∈ l → lookE env s = some v) : EnvLe l env := by
  induction l with
  | nil => trivial
  | cons x l ih => exact ⟨h x.1 x.2 (.head _), ih fun s v hm => h s v (.tail _ hm)⟩
theorem KeepX.mem {env env' : Env} {ks : List Nat} (h : KeepX env ks env') : ∀ s v, (s, v) ∈ env' → s ∉ ks ∧ lookE env s = some v := by
  induction h with
  | nil ks => intro s v h; cases h
  | drop h r ih =>
    rename_i s' v' env env' ks
    intro s v hl
    obtain ⟨h1, h2⟩ := ih s v hl
    refine ⟨h1, ?_⟩
    have hne := memN_spec.1 h
    unfold lookE
    have : Nat.beq s' s = false := by
      cases hb : Nat.beq s' s with
      | false => rfl
      | true => have e := Nat.eq_of_beq_eq_true hb; subst e; exact absurd hne h1
    rw [this]; exact h2
  | keep h r ih =>
    rename_i s' v' env env' ks
    intro s v hl
    rcases List.mem_cons.1 hl with e | hl
    · cases e
      refine ⟨fun hm => ?_, ?_⟩
      · rw [memN_spec.2 hm] at h; cases h
      · unfold lookE; simp
    · obtain ⟨h1, h2⟩ := ih s v hl
      refine ⟨fun hm => h1 (.tail _ hm), ?_⟩
      unfold lookE
      have : Nat.beq s' s = false := by
        cases hb : Nat.beq s' s with
        | false => rfl
        | true => have e := Nat.eq_of_beq_eq_true hb; subst e; exact absurd List.mem_cons_self h1
      rw [this]; exact h2
theorem KeepX.le {env env' : Env} {ks : List Nat} (h : KeepX env ks env') : EnvLe env' env := EnvLe.of fun s v hm => (h.mem s v hm).2
theorem EnvLe.append {l m env : Env} (h1 : EnvLe l env) (h2 : EnvLe m env) : EnvLe (l ++ m) env := by
  induction l with
  | nil => exact h2
  | cons x l ih => exact ⟨h1.1, ih h1.2⟩
section
variable {C : Cx} {k : List It} {env : Env} {ec : EnvC} {H : List HA}
/-- A loop; what the family does not name is as before. -/
theorem T_loopX {c : Code} {σ : Type} {ks : List Nat} {env' : Env} (U : σ → Env) (G : σ → List HA) (I : σ → Prop) (μ : σ → Nat) (s0 : σ) (hI : I s0)
    (hr : ∀ s, I s → T C (nf 60 (.code c :: .mark (Back C (fun s => U s ++ env') G I μ s) :: k)) (U s ++ env') [] (G s))
    (hks : (U s0).map Prod.fst = ks := by exact rfl)
    (hk : KeepX env ks env' := by repeat' (first | exact KeepX.nil _ | apply KeepX.drop rfl | apply KeepX.keep rfl))
    (hE : EnvLe (U s0) env := by repeat' (first | exact True.intro | refine And.intro rfl ?_)) (hG : Hle H (G s0) := by first | exact Hle.refl _ | exact Hle.none _) : T C (.code (.loop c) :: k) env ec H :=
  T_loop (fun s => U s ++ env') G I μ s0 hI (hE.append hk.le) hG hr
theorem T_backX {σ : Type} {U : σ → Env} {env' : Env} {G : σ → List HA} {I : σ → Prop} {μ : σ → Nat} {s : σ} (s' : σ) (hI : I s') (hμ : μ s' < μ s)
    (hE : EnvLe (U s') env := by repeat' (first | exact True.intro | refine And.intro rfl ?_)) (hE2 : EnvLe env' env := by repeat' (first | exact True.intro | refine And.intro rfl ?_)) (hG : Hle H (G s') := by first | exact Hle.refl _ | exact Hle.none _) :
    T C (.mark (Back C (fun s => U s ++ env') G I μ s) :: k) env ec H := T_back s' hI hμ (hE.append hE2) hG
/-- Where ways meet again; what is not named is as before. -/
theorem T_cutX {σ : Type} {env' : Env} (m : Nat) (ks : List Nat) (U : σ → Env) (G : σ → List HA) (I : σ → Prop)
    (h1 : T C (k.take m ++ .mark (Meets C (fun s => U s ++ env') G I) :: k.drop m) env ec H) (h2 : ∀ s, I s → T C (nf 60 (k.drop m)) (U s ++ env') [] (G s))
    (hm : allOf (k.take m ++ .mark (Meets C (fun s => U s ++ env') G I) :: k.drop m) = allOf k := by exact rfl)
    (hk : KeepX env ks env' := by repeat' (first | exact KeepX.nil _ | apply KeepX.drop rfl | apply KeepX.keep rfl)) : T C k env ec H :=
  T_cutAt m (fun s => U s ++ env') G I hm h1 h2
theorem T_meetX {σ : Type} {U : σ → Env} {env' : Env} {G : σ → List HA} {I : σ → Prop} (s' : σ) (hI : I s')
    (hE : EnvLe (U s') env := by repeat' (first | exact True.intro | refine And.intro rfl ?_)) (hE2 : EnvLe env' env := by repeat' (first | exact True.intro | refine And.intro rfl ?_)) (hG : Hle H (G s') := by first | exact Hle.refl _ | exact Hle.none _) :
    T C (.mark (Meets C (fun s => U s ++ env') G I) :: k) env ec H := T_meet s' hI (hE.append hE2) hG
end
end Go.Proofs.YtiglobijdegjdaaDoor
