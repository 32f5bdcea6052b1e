/- The engine: ranges over functions: the loop, its rounds, the iterator. It speaks of any program. -/
import Derived.Test.YtiglobijdegjdaaDoorEngI
namespace Go.Proofs.YtiglobijdegjdaaDoor
open Go.RowKit Go.Shelf

def mkD (D : Nat) : Deferred := { target := .collected D, args := #[] }
def dfr (D : Nat) : HA := fun f => f = one D (.deferred (some []))
def lrec (L : Nat) (r : Loop) : HA := fun f => f = one L (.loop r)
@[reducible] def yv (l : Nat) : Value := .func (.yield l) #[] #[]

theorem Cls.obj {w0 w : World} {H : List HA} {i b : Nat} {o : Obj} (hw : Cls w0 w H) (hk : H[i]? = some (fun f => f = one b o)) : w.heap[b]? = some o ∧ w0.heap.size ≤ b := by
  obtain ⟨F, h1, h2, h3⟩ := hw.sep
  have hl : i < H.length := (List.getElem?_eq_some_iff.1 hk).1
  have h := h1 i _ hk
  have hf : F i b = some o := by rw [show F i = _ from h]; simp [one]
  exact ⟨(h2 i b _ hl hf).2, (h2 i b _ hl hf).1⟩
theorem Cls.putObj {w0 w : World} {H : List HA} {i b : Nat} {o : Obj} (hw : Cls w0 w H) (hk : H[i]? = some (fun f => f = one b o)) (o' : Obj) : Cls w0 (w.putObj b o') (H.set i (fun f => f = one b o')) := by
  obtain ⟨g1, g2⟩ := hw.obj hk
  have hb : b < w.heap.size := lt_of_heap g1
  refine ⟨hw.below.trans ⟨rfl, rfl, rfl, by exact Nat.le_of_eq World.putObj_size.symm, fun c hc => ?_⟩, ?_⟩
  · exact World.putObj_heap_other (by omega)
  · exact hw.sep.turn hk (fun f hf => ⟨_, hf⟩) (fun c hc _ => World.putObj_heap_other hc) (World.putObj_heap_same hb) rfl

/-! ## The iterator's side -/
/-- What a call of yield does: the rounds, one after the other. -/
def Yields (P : Program) (w0 : World) (l : Nat) (GP : Nat → List HA → Prop) (X : List HA → Prop) (xs : List (List Value)) : Prop :=
  ∀ (j : Nat) (x : List Value) (Hj K : List HA) (w : World), xs[j]? = some x → GP j Hj → Cls w0 w (Hj ++ K) →
    ∃ f tmps assign body, (Instr.yield l x.toArray).run P w = .ok (.round l f tmps assign body) w ∧ RoundIn (Fr none) 0 P l f tmps assign body w fun e w' =>
      (e = .returned (.bool true) ∧ ∃ H', GP (j + 1) H' ∧ Cls w0 w' (H' ++ K)) ∨ (e = .returned (.bool false) ∧ ∃ Y, X Y ∧ Cls w0 w' (Y ++ K))
/-- What is owed at the iterator's end. -/
def RIt (w0 : World) (cap : List HA) (GP : Nat → List HA → Prop) (X : List HA → Prop) (n : Nat) : Ending → World → Prop :=
  fun e w' => (∃ v, e = .returned v) ∧ ((∃ H', GP n H' ∧ Cls w0 w' (cap ++ H')) ∨ ∃ Y, X Y ∧ Cls w0 w' (cap ++ Y))
/-- AN ITERATOR'S CONTRACT: what it yields, one after the other. -/
def Iter (P : Program) (f : FuncId) (fs cs : List Value) (cap : List HA) (xs : List (List Value)) : Prop :=
  Enters P f ∧ ∀ w0 l GP X w Hj, Yields P w0 l GP X xs → GP 0 Hj → Cls w0 w (cap ++ Hj) →
    CallsIn (Fr none) 0 P f (fs ++ (yv l :: cs)).toArray w (RIt w0 cap GP X xs.length)
@[reducible] def IC (S : Sig) (m : Nat) (w0 : World) (fn : Func) (R : Ending → World → Prop) : Cx :=
  ⟨S, ⟨m, []⟩, w0, none, fun a w => LeavesInM (Fr none) 0 S.P fn a.tmps R a.defers .returning w, fun a w => LeavesInM (Fr none) 0 S.P fn a.tmps R a.defers .returning w, fun _ _ _ => False⟩
theorem iter_of (S : Sig) {f : FuncId} {fn : Func} {c : Code} {fs cs : List Value} {cap : List HA} {xs : List (List Value)} (hf : S.P.funcs[f]? = some fn) (hn : (fn.name == "runtime.NumGoroutine") = false) (hb : fn.body = some c)
    (hlen : Nat.ble (fs.length + (1 + cs.length)) fn.ntmps = true)
    (h : ∀ w0 l GP X Hj, Yields S.P w0 l GP X xs → GP 0 Hj → T (IC S fn.ntmps w0 fn (RIt w0 cap GP X xs.length)) (nf 60 [.code c]) (zipE 0 (fs ++ (yv l :: cs))) [] (cap ++ Hj)) : Iter S.P f fs cs cap xs := by
  refine ⟨enters_of hf hn hb, fun w0 l GP X w Hj hY h0 hw => callsIn_of_wp_marks (n := 0) hf hb trivial ?_⟩
  generalize hargs : fs ++ (yv l :: cs) = args
  have hlen' : args.length ≤ fn.ntmps := by
    have := Nat.le_of_ble_eq_true hlen
    rw [← hargs]; simp; omega
  have ha : Agrees ⟨fn.ntmps, []⟩ (allOf (nf 60 [.code c])) (zipE 0 args) [] { tmps := args.toArray ++ Array.replicate (fn.ntmps - args.toArray.size) undef, defers := [] } := by
    refine ⟨rfl, by simp; omega, fun s v hv => ?_, fun _ _ _ h => (by cases h), fun _ _ _ h => (by cases h)⟩
    obtain ⟨_, h2⟩ := zipE_spec args 0 s v hv
    simp only [Nat.sub_zero] at h2
    have hs : s < args.length := (List.getElem?_eq_some_iff.1 h2).1
    simp [Array.getD_eq_getD_getElem?, Array.getElem?_append, hs]
    rw [List.getElem?_eq_getElem hs] at h2
    simpa using h2
  have h1 := h w0 l GP X Hj hY h0
  rw [hargs] at h1
  have := nf_spec (h1 _ _ ha hw)
  simp only [sem] at this
  refine wpIn_mono this fun e a w' q => ?_
  cases e <;> first | exact q | exact q.elim
section
variable {S : Sig} {m : Nat} {w0 : World} {fn : Func} {cap : List HA} {GP : Nat → List HA → Prop} {X : List HA → Prop} {n : Nat} {k : List It} {env : Env} {ec : EnvC} {H : List HA}
theorem ri_of (hr : fn.results = #[]) (h : (∃ H', GP n H' ∧ Hle H (cap ++ H')) ∨ ∃ Y, X Y ∧ Hle H (cap ++ Y)) {a : Act} {w : World} (hd : a.defers = []) (hw : Cls w0 w H) :
    LeavesInM (Fr none) 0 S.P fn a.tmps (RIt w0 cap GP X n) a.defers .returning w := by
  rw [hd]
  refine ⟨.tuple #[], ?_, ⟨_, rfl⟩, ?_⟩
  · have := run_results (P := S.P) (fn := fn) (tmps := a.tmps) (w := w) (vs := []) (by rw [hr]; rfl) (fun i r v h => by rw [hr] at h; simp at h)
    exact this
  · rcases h with ⟨H', h1, h2⟩ | ⟨Y, h1, h2⟩
    · exact .inl ⟨H', h1, hw.le h2⟩
    · exact .inr ⟨Y, h1, hw.le h2⟩
/-- The iterator comes to its end. -/
theorem T_ifall (hr : fn.results = #[]) (H' : List HA) (h1 : GP n H') (h2 : Hle H (cap ++ H')) : T (IC S m w0 fn (RIt w0 cap GP X n)) [] env ec H := T_fall fun _ _ ha hw => ri_of hr (.inl ⟨H', h1, h2⟩) ha.defers hw
theorem T_iret (hr : fn.results = #[]) (H' : List HA) (h1 : GP n H') (h2 : Hle H (cap ++ H')) : T (IC S m w0 fn (RIt w0 cap GP X n)) (.code .ret :: k) env ec H := T_ret fun _ _ ha hw => ri_of hr (.inl ⟨H', h1, h2⟩) ha.defers hw
/-- .. where a round has told it to stop. -/
theorem T_istop (hr : fn.results = #[]) (Y : List HA) (h1 : X Y) (h2 : Hle H (cap ++ Y)) : T (IC S m w0 fn (RIt w0 cap GP X n)) (.code .ret :: k) env ec H := T_ret fun _ _ ha hw => ri_of hr (.inr ⟨Y, h1, h2⟩) ha.defers hw
theorem T_istopf (hr : fn.results = #[]) (Y : List HA) (h1 : X Y) (h2 : Hle H (cap ++ Y)) : T (IC S m w0 fn (RIt w0 cap GP X n)) [] env ec H := T_fall fun _ _ ha hw => ri_of hr (.inr ⟨Y, h1, h2⟩) ha.defers hw
end
def evY (env : Env) (o : Oper) : Option (Nat × List Value) :=
  match o.op with
  | .call { callee := .value x, args := xs, argTypes := _ } => match evX env [] [] x, evL env [] [] xs.toList with
    | some (.func (.yield l) fs cs), some vs => cond (fs.isEmpty && cs.isEmpty) (some (l, vs)) none
    | _, _ => none
  | _ => none
theorem evY_spec {P : Program} {N : FK} {all : Array Oper} {env : Env} {o : Oper} {a : Act} (ha : Agrees N all env [] a) {l : Nat} {x : List Value}
    (h : evY env o = some (l, x)) {w : World} {r : Next} (hy : (Instr.yield l x.toArray).run P w = .ok r w) : (execOp a.eval o).run P w = .ok r w := by
  obtain ⟨dst, op, ty, pos, aft, gd⟩ := o
  unfold evY at h
  dsimp only at h
  split at h
  · rename_i xo xa ts
    split at h
    · rename_i l' fs cs vs hx hvs
      cases hc : (fs.isEmpty && cs.isEmpty) with
      | false => rw [hc] at h; cases h
      | true =>
        rw [hc] at h
        cases h
        simp only [Bool.and_eq_true, Array.isEmpty_iff] at hc
        obtain ⟨rfl, rfl⟩ := hc
        have hx' := evX_spec ha (Holds.nil _ _) hx
        have e1 := evL_spec ha (Holds.nil _ _) hvs
        have e2 : xa.map a.eval = x.toArray := Array.ext' (by rw [Array.toList_map]; exact e1)
        simp only [execOp, resolve, e2, hx', Deferred.ofValue]
        simpa [invoke] using hy
    · cases h
  · cases h
/-- A call of yield. -/
theorem T_yield {S : Sig} {m : Nat} {w0 : World} {fn : Func} {R : Ending → World → Prop} {all : Array Oper} {o : Oper} {rest : List Oper} {k : List It} {env : Env} {H : List HA} {d l j : Nat} {x : List Value}
    {GP : Nat → List HA → Prop} {X : List HA → Prop} {xs : List (List Value)} {Hj K : List HA}
    (hY : Yields S.P w0 l GP X xs) (hg : gOf all env [] o = some []) (he : evY env o = some (l, x)) (hd : o.dst = some d) (hN : Nat.blt d m = true) (hj : xs[j]? = some x) (hGP : GP j Hj) (hl : Hle H (Hj ++ K)) (hback : ∀ J, Hle (J ++ K) (K ++ J))
    (ht : ∀ H', GP (j + 1) H' → T (IC S m w0 fn R) (.ops all rest :: k) ((d, .bool true) :: env) [] (K ++ H'))
    (hf : ∀ Y, X Y → T (IC S m w0 fn R) (.ops all rest :: k) ((d, .bool false) :: env) [] (K ++ Y)) : T (IC S m w0 fn R) (.ops all (o :: rest) :: k) env [] H := by
  refine T_op (C := IC S m w0 fn R) fun a w ha hw K' Q hK => ?_
  have hwn := (wanted_iff ha hg).2 (Holds.nil _ _)
  refine ⟨fun _ => ?_, fun hn => (by rw [hwn] at hn; cases hn)⟩
  obtain ⟨f, tmps, assign, body, hy, hr⟩ := hY j x Hj K w hj hGP (hw.le hl)
  have hdef := gOf_def hg
  have hex := evY_spec ha he hy
  unfold Oper.wpIn
  refine ⟨about_Fr o _ w _, ?_⟩
  rw [Oper.semAt_eq _ _ _ hdef, hex]
  refine ⟨fun h => (by cases h), RoundIn.mono hr ?_⟩
  rintro e w' (⟨rfl, H', h1, h2⟩ | ⟨rfl, Y, h1, h2⟩)
  · exact hK _ _ _ _ _ (ht H' h1) (by rw [hd]; exact ha.put hN rfl) (h2.le (hback _))
  · exact hK _ _ _ _ _ (hf Y h1) (by rw [hd]; exact ha.put hN rfl) (h2.le (hback _))

/-! ## The loop's side -/
def envP : List (Nat × Value) → Env → Env
  | [], env => env
  | (t, v) :: l, env => envP l ((t, v) :: env)
def inP (n : Nat) : List (Nat × Value) → Bool
  | [] => true
  | (t, _) :: l => Nat.blt t n && inP n l
theorem Agrees.putAll {N : FK} {all : Array Oper} : ∀ {l : List (Nat × Value)} {env : Env} {a : Act}, inP N.n l = true → Agrees N all env [] a →
    Agrees N all (envP l env) [] { a with tmps := l.foldl (fun tmps (p : Nat × Value) => tmps.setIfInBounds p.1 p.2) a.tmps }
  | [], _, _, _, ha => ha
  | (t, v) :: l, env, a, hi, ha => by
    simp only [inP, Bool.and_eq_true] at hi
    have := Agrees.putAll (l := l) hi.2 (ha.put (d := t) (v := v) hi.1 rfl)
    exact this
/-- A round's context: what is owed at its end, at a return, at a jump out of it. -/
@[reducible] def RC (S : Sig) (m : Nat) (w0 : World) (L : Nat) (r : Loop) (GP : Nat → List HA → Prop) (XR : List HA → Prop) (XE : Nat → List HA → Prop) (j : Nat) (K : List HA) : Cx :=
  ⟨S, ⟨m, []⟩, w0, some L, fun _ w => ∃ H', GP (j + 1) H' ∧ Cls w0 w (lrec L r :: (H' ++ K)), fun _ w => ∃ H', XR H' ∧ Cls w0 w (lrec L r :: (H' ++ K)), fun id _ w => ∃ H', XE id H' ∧ Cls w0 w (lrec L r :: (H' ++ K))⟩
/-- .. before the round has begun: the left sides are assigned. -/
@[reducible] def RA (C : Cx) (L : Nat) (body : Code) : Cx :=
  ⟨C.S, C.N, C.w0, some L, fun a w => ∃ w2, (Instr.beginRound L).run C.S.P w = .ok () w2 ∧ body.wpIn (Fr (some L)) 0 C.S.P (post C.Rn C.Rx C.Rr) a w2, fun _ _ => False, fun _ _ _ => False⟩
def busy (r : Loop) : Loop := { r with state := .busy }
section
variable {S : Sig} {m : Nat} {w0 : World} {L : Nat} {r : Loop} {GP : Nat → List HA → Prop} {XR : List HA → Prop} {XE : Nat → List HA → Prop} {j : Nat} {K : List HA} {k : List It} {env : Env} {ec : EnvC} {H : List HA} {body : Code}
theorem T_begin {r' : Loop} (hr : r'.state = .ready) (hrd : r = busy r') (h : T (RC S m w0 L r GP XR XE j K) (nf 60 [.code body]) env [] (lrec L r :: H)) : T (RA (RC S m w0 L r GP XR XE j K) L body) [] env ec (lrec L r' :: H) := by
  refine T.mk fun a w ha hw => ?_
  have hL := (hw.obj (i := 0) rfl).1
  subst hrd
  refine ⟨_, run_beginRound hL hr, ?_⟩
  have hw' := hw.putObj (i := 0) rfl (.loop (busy r'))
  have ha' : Agrees ⟨m, []⟩ (allOf (nf 60 [.code body])) env [] a := ⟨ha.defers, ha.size, ha.at_, fun _ _ _ h => (by cases h), fun _ _ _ h => (by cases h)⟩
  have := nf_spec (h a _ ha' hw')
  exact this
theorem T_next (H' : List HA) (h : GP (j + 1) H') (hl : Hle H (lrec L r :: (H' ++ K))) : T (RC S m w0 L r GP XR XE j K) [] env ec H := T.mk fun _ _ _ hw => ⟨H', h, hw.le hl⟩
theorem T_rret (H' : List HA) (h : XR H') (hl : Hle H (lrec L r :: (H' ++ K))) : T (RC S m w0 L r GP XR XE j K) (.code .ret :: k) env ec H := T.mk fun _ _ _ hw => wpIn_ret ⟨H', h, hw.le hl⟩
theorem T_rexit {id : Nat} (H' : List HA) (hx : ∀ C : Cx, (sem C k).2 id = C.Rx id) (h : XE id H') (hl : Hle H (lrec L r :: (H' ++ K))) : T (RC S m w0 L r GP XR XE j K) (.code (.exit id) :: k) env ec H :=
  T.mk fun _ _ _ hw => by
    simp only [sem]
    refine wpIn_exit ?_
    show (sem _ k).2 id _ _
    rw [hx]
    exact ⟨H', h, hw.le hl⟩
end
theorem sem_N (C : Cx) (N : FK) : ∀ k : List It, sem { C with N := N } k = sem C k
  | [] => rfl
  | .code c :: k => by simp only [sem, sem_N C N k]
  | .ops _ _ :: k => by simp only [sem, sem_N C N k]
  | .draw _ _ _ _ _ :: k => by simp only [sem, sem_N C N k]
  | .run _ _ _ _ _ :: k => by simp only [sem, sem_N C N k]
  | .out _ :: k => by simp only [sem, sem_N C N k]
  | .mark _ :: k => by simp only [sem, sem_N C N k]
/-- A RANGE OVER A FUNCTION. -/
theorem T_range {S : Sig} {m : Nat} {ds : List Deferred} {w0 : World} {fn : Func} {Φ : Value → List HA → Prop} {g : Operand} {ps : Array Tmp} {assign body : Code} {k : List It} {env : Env} {ec : EnvC} {H : List HA}
    {f : FuncId} {fs cs : List Value} {cap : List HA} {xs : List (List Value)} (hit : Iter S.P f fs cs cap xs)
    (hg : evX env [] [] g = some (.func (.func f) fs.toArray cs.toArray)) (hps : ∀ (j : Nat) (x : List Value), xs[j]? = some x → x.length = ps.size ∧ inP m (ps.toList.zip x) = true)
    (GP : Nat → List HA → Prop) (XR : List HA → Prop) (XE : Nat → List HA → Prop) (H0 : List HA) (h0 : GP 0 H0) (hH : Hle H (cap ++ H0))
    (hround : ∀ (L : Nat) (r : Loop) (j : Nat) (x : List Value) (Hj K : List HA), r.state = .ready → xs[j]? = some x → GP j Hj → T (RA (RC S m w0 L (busy r) GP XR XE j K) L body) (nf 60 [.code assign]) (envP (ps.toList.zip x) env) [] (lrec L r :: (Hj ++ K)))
    (hn : ∀ D Hn, GP xs.length Hn → T (FC S m (mkD D :: ds) w0 fn Φ) (nf 60 k) env [] (dfr D :: (cap ++ Hn)))
    (hret : ∀ D Hx, XR Hx → T (FC S m (mkD D :: ds) w0 fn Φ) (.code .ret :: k) env [] (dfr D :: (cap ++ Hx)))
    (hex : ∀ D id Hx, XE id Hx → T (FC S m (mkD D :: ds) w0 fn Φ) (nf 60 (.code (.exit id) :: k)) env [] (dfr D :: (cap ++ Hx))) :
    T (FC S m ds w0 fn Φ) (.code (.rangeFunc g ps assign body) :: k) env ec H := by
  refine T.mk fun a w ha hw => ?_
  have ha0 : Agrees ⟨m, ds⟩ #[] env [] a := ha.plain
  replace hw := Cls.le hw hH
  refine wpIn_rangeFunc fun fn' _ => ?_
  -- the two blocks
  have hw1 := (hw.alloc (.deferred (some [])) (A := dfr w.heap.size) rfl)
  have hsz : (w.alloc (.deferred (some []))).heap.size = w.heap.size + 1 := World.size_alloc _ _
  generalize hD : w.heap.size = D at hw1 hsz
  generalize hr0 : ({ state := .ready, pending := none, fn := fn', tmps := a.tmps, params := ps, assign, body, defers := D } : Loop) = r
  have hrdy : r.state = .ready := by rw [← hr0]
  have hpd : r.pending = none := by rw [← hr0]
  have hw2 := (hw1.alloc (.loop r) (A := lrec (D + 1) r) (by rw [hsz]; rfl))
  have hen := run_enterLoop_outer (P := S.P) (w := w) fn' a.tmps ps assign body
  rw [hD, hr0] at hen
  have hgv := evX_spec (all := #[]) ha0 (Holds.nil _ _) hg
  have hargs : (fs.toArray ++ #[yv (D + 1)] ++ cs.toArray) = (fs ++ (yv (D + 1) :: cs)).toArray := Array.ext' (by simp)
  refine ⟨D + 1, [mkD D], _, ⟨.fn (.func f) cs.toArray, fs.toArray ++ #[yv (D + 1)]⟩, (w.alloc (.deferred (some []))).alloc (.loop r), f, (fs ++ (yv (D + 1) :: cs)).toArray, (w.alloc (.deferred (some []))).alloc (.loop r), hen, ?_, fun _ _ => trivial, ?_, fun h => (by cases h), ?_⟩
  · simp [resolve, hgv, Deferred.ofValue, yv]
    rfl
  · have := hit.1 (fs ++ (yv (D + 1) :: cs)).toArray ((w.alloc (.deferred (some []))).alloc (.loop r))
    rw [← hargs] at this ⊢
    simpa [invoke] using this
  · -- the rounds
    have hYd : Yields S.P w0 (D + 1) (fun j H' => ∃ Hj, H' = lrec (D + 1) r :: dfr D :: Hj ∧ GP j Hj) (fun Y => ∃ Hx jump, Y = lrec (D + 1) { r with state := .done, pending := some jump } :: dfr D :: Hx ∧ ((jump = .ret ∧ XR Hx) ∨ ∃ id, jump = .exit id ∧ XE id Hx)) xs := by
      rintro j x _ K w1 hj ⟨Hj, rfl, hGj⟩ hc
      have hL := (hc.obj (i := 0) rfl).1
      obtain ⟨hxl, hin⟩ := hps j x hj
      have hy := run_yield (P := S.P) (args := x.toArray) hL (by rw [← hr0]; simp [hxl])
      refine ⟨_, _, _, _, hy, roundIn_of_wpIn trivial ?_⟩
      have hc' : Cls w0 w1 (lrec (D + 1) r :: (Hj ++ (dfr D :: K))) := hc.le (Hle.perm ((List.perm_middle (a := dfr D) (l₁ := Hj) (l₂ := K)).symm.cons _))
      have hT := hround (D + 1) r j x Hj (dfr D :: K) hrdy hj hGj
      have hag : Agrees ⟨m, []⟩ #[] env [] { tmps := r.tmps, defers := [] } := by
        rw [← hr0]
        exact ⟨rfl, ha0.size, ha0.at_, fun _ _ _ h => (by cases h), fun _ _ _ h => (by cases h)⟩
      have hag2 := Agrees.putAll (N := ⟨m, []⟩) (l := ps.toList.zip x) hin hag
      have htm : (r.params.zip x.toArray).foldl (fun tmps (p : Tmp × Value) => tmps.setIfInBounds p.1 p.2) r.tmps = (ps.toList.zip x).foldl (fun tmps (p : Nat × Value) => tmps.setIfInBounds p.1 p.2) r.tmps := by
        rw [← hr0, ← Array.foldl_toList, Array.toList_zip]
      rw [htm]
      have h1 := nf_spec (hT _ w1 ⟨hag2.defers, hag2.size, hag2.at_, fun _ _ _ h => (by cases h), fun _ _ _ h => (by cases h)⟩ hc')
      simp only [sem] at h1
      have hra : r.assign = assign := by rw [← hr0]
      have hrb : r.body = body := by rw [← hr0]
      rw [← hra, ← hrb] at h1
      refine wpIn_mono (F := Fr (some (D + 1))) h1 fun e a1 w2 q => ?_
      cases e <;> first | exact q.elim | skip
      obtain ⟨w3, hb, hbody⟩ := q
      refine ⟨w3, hb, wpIn_mono hbody fun e a2 w4 q => ?_⟩
      have fin : ∀ H' : List HA, Cls w0 w4 (lrec (D + 1) (busy r) :: (H' ++ (dfr D :: K))) → ∀ jump, ∃ w', (Instr.endRound (D + 1) jump).run S.P w4 = .ok (.bool jump.isNone) w' ∧ Cls w0 w' (lrec (D + 1) { r with state := if jump.isNone then .ready else .done, pending := jump } :: dfr D :: (H' ++ K)) := by
        intro H' hcl jump
        have hL4 := (hcl.obj (i := 0) rfl).1
        refine ⟨_, run_endRound jump hL4, ?_⟩
        have := hcl.putObj (i := 0) rfl (.loop { r with state := if jump.isNone then .ready else .done, pending := jump })
        exact this.le (Hle.perm ((List.perm_middle (a := dfr D) (l₁ := H') (l₂ := K)).cons _))
      cases e with
      | normal =>
        obtain ⟨H', g1, g2⟩ := q
        obtain ⟨w', e1, e2⟩ := fin H' g2 none
        refine ⟨_, w', e1, .inl ⟨rfl, _, ⟨H', rfl, g1⟩, ?_⟩⟩
        have er : ({ r with state := .ready, pending := none } : Loop) = r := by rw [← hr0]
        simp only [Option.isNone_none, if_true] at e2
        rw [er] at e2
        exact e2
      | ret =>
        obtain ⟨H', g1, g2⟩ := q
        obtain ⟨w', e1, e2⟩ := fin H' g2 (some .ret)
        exact ⟨_, w', e1, .inr ⟨rfl, _, ⟨H', .ret, rfl, .inl ⟨rfl, g1⟩⟩, e2⟩⟩
      | exit id =>
        obtain ⟨H', g1, g2⟩ := q
        obtain ⟨w', e1, e2⟩ := fin H' g2 (some (.exit id))
        exact ⟨_, w', e1, .inr ⟨rfl, _, ⟨H', .exit id, rfl, .inr ⟨id, rfl, g1⟩⟩, e2⟩⟩
      | goto t => exact q.elim
      | panic c => exact q.elim
      | outgrown => exact q.elim
    have hstart : Cls w0 ((w.alloc (.deferred (some []))).alloc (.loop r)) (cap ++ (lrec (D + 1) r :: dfr D :: H0)) := by
      have h1 : Cls w0 ((w.alloc (.deferred (some []))).alloc (.loop r)) (lrec (D + 1) r :: dfr D :: (cap ++ H0)) := hw2
      exact h1.le (Hle.rot2 _ _ cap H0)
    have hcall := hit.2 w0 (D + 1) _ _ _ _ hYd ⟨H0, rfl, h0⟩ hstart
    have hcall' : CallsIn (Fr none) 0 S.P f (fs ++ (yv (D + 1) :: cs)).toArray ((w.alloc (.deferred (some []))).alloc (.loop r)) _ := hcall
    refine CallsIn.mono hcall' ?_
    rintro e w3 ⟨⟨v, rfl⟩, hend⟩
    have hsem := sem_N (FC S m ds w0 fn Φ) ⟨m, mkD D :: ds⟩ k
    have hag : ∀ all, Agrees ⟨m, mkD D :: ds⟩ all env [] { a with defers := [mkD D] ++ a.defers } := fun all =>
      ⟨by simp [ha0.defers], ha0.size, ha0.at_, fun _ _ _ h => (by cases h), fun _ _ _ h => (by cases h)⟩
    rcases hend with ⟨_, ⟨Hn, rfl, hGn⟩, hc⟩ | ⟨_, ⟨Hx, jump, rfl, hj⟩, hc⟩
    · have hc := hc.le (Hle.unrot2 _ _ cap Hn)
      have hL := (hc.obj (i := 0) rfl).1
      refine ⟨none, w3.putObj (D + 1) (.loop { r with state := .exhausted }), (run_endLoop hL (by rw [hrdy]; intro h; cases h)).trans (by rw [hpd]), ?_⟩
      have hc2 := (hc.putObj (i := 0) rfl (.loop { r with state := .exhausted })).le (Hle.tail _ _)
      have := nf_spec (hn D Hn hGn _ _ (hag _) hc2)
      show (sem (FC S m ds w0 fn Φ) k).1 _ _
      rw [← hsem]
      exact this
    · have hc := hc.le (Hle.unrot2 _ _ cap Hx)
      have hL := (hc.obj (i := 0) rfl).1
      refine ⟨_, _, run_endLoop hL (by intro h; cases h), ?_⟩
      have hc2 := (hc.putObj (i := 0) rfl (.loop { ({ r with state := .done, pending := some jump } : Loop) with state := .exhausted })).le (Hle.tail _ _)
      rcases hj with ⟨rfl, hX⟩ | ⟨id, rfl, hX⟩
      · have := hret D Hx hX _ _ (hag _) hc2
        have h9 : (sem (FC S m (mkD D :: ds) w0 fn Φ) (.code .ret :: k)).1 _ _ := this
        simp only [sem] at h9
        have h10 : sem (FC S m (mkD D :: ds) w0 fn Φ) k = sem (FC S m ds w0 fn Φ) k := hsem
        rw [h10] at h9
        exact h9
      · have := nf_spec (hex D id Hx hX _ _ (hag _) hc2)
        simp only [sem] at this
        have h10 : sem (FC S m (mkD D :: ds) w0 fn Φ) k = sem (FC S m ds w0 fn Φ) k := hsem
        rw [h10] at this
        exact this

/-- A return behind such a loop. -/
theorem T_retD {S : Sig} {m : Nat} {w0 : World} {fn : Func} {Φ : Value → List HA → Prop} {k : List It} {env : Env} {ec : EnvC} {H H' : List HA} {D : Nat} (hl : Hle H (dfr D :: H'))
    (h : ∀ a w, Agrees ⟨m, []⟩ #[] env [] a → Cls w0 w H' → RF S.P w0 fn Φ a w) : T (FC S m [mkD D] w0 fn Φ) (.code .ret :: k) env ec H :=
  T_ret fun a w ha hw => by
    have hc := hw.le hl
    have hL := (hc.obj (i := 0) rfl).1
    have hc2 := (hc.putObj (i := 0) rfl (.deferred none)).le (Hle.tail _ _)
    have h1 := h { a with defers := [] } _ ⟨rfl, ha.size, ha.at_, fun _ _ _ h => (by cases h), fun _ _ _ h => (by cases h)⟩ hc2
    show LeavesInM _ _ _ _ _ _ a.defers _ _
    rw [show a.defers = [mkD D] from ha.defers]
    exact ⟨(by intro h; cases h), .inl ⟨D, _, rfl, run_takeDeferred hL, h1⟩⟩
theorem T_fallD {S : Sig} {m : Nat} {w0 : World} {fn : Func} {Φ : Value → List HA → Prop} {env : Env} {ec : EnvC} {H H' : List HA} {D : Nat} (hl : Hle H (dfr D :: H'))
    (h : ∀ a w, Agrees ⟨m, []⟩ #[] env [] a → Cls w0 w H' → RF S.P w0 fn Φ a w) : T (FC S m [mkD D] w0 fn Φ) [] env ec H :=
  T_fall fun a w ha hw => by
    have hc := hw.le hl
    have hL := (hc.obj (i := 0) rfl).1
    have hc2 := (hc.putObj (i := 0) rfl (.deferred none)).le (Hle.tail _ _)
    have h1 := h { a with defers := [] } _ ⟨rfl, ha.size, ha.at_, fun _ _ _ h => (by cases h), fun _ _ _ h => (by cases h)⟩ hc2
    show LeavesInM _ _ _ _ _ _ a.defers _ _
    rw [show a.defers = [mkD D] from ha.defers]
    exact ⟨(by intro h; cases h), .inl ⟨D, _, rfl, run_takeDeferred hL, h1⟩⟩
end Go.Proofs.YtiglobijdegjdaaDoor
