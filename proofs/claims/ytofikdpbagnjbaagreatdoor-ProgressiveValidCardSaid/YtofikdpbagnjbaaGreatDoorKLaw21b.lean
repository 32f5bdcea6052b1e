/- The law ProgressiveValid holds for whatever costs, sources and number: the tied card of its row. No condition beyond the row's own. -/
import Derived.Test.YtofikdpbagnjbaaGreatDoorQ4
import Derived.Test.YtofikdpbagnjbaaGreatDoorCards
import Derived.Test.YtofikdpbagnjbaaGreatDoorTie
set_option linter.unusedVariables false
set_option linter.unusedSimpArgs false
namespace Go.Proofs.YtofikdpbagnjbaaGreatDoor
open Go.RowKit Go.Shelf Go.ChangeShapes Go.WideShapes Go.Proofs
set_option maxRecDepth 100000
set_option maxHeartbeats 1000000

theorem valid1_spec (z : Int) (p : Nat) (i : Int) (w : World) (hp : RdC w p 0 [.int .i64 i]) : Spec Tryz.prog 33 [.int .i64 z, .pointer (some ⟨p, 0, none⟩)] w (fun v A => v = .bool (!decide (z = i)) ∧ A = []) := by
  refine spec_of sg Tryz.func33 rfl rfl rfl ?_
  repeat' (first | refine d1 ?_ | refine dd ?_ | (show ∀ _ : Nat, T _ _ _ _ _; intro _) | (show T _ (.code .ret :: _) _ _ _; refine T_retV [] rfl (Hle.none _) ⟨rfl, rfl⟩))
theorem alnP_nil (c : Costs) {l : List TS} (h : l.length = 0) : alnP c l = [] := by unfold alnP; rw [h]; rfl
theorem validLaw_spec (c : Costs) (x : Value) (m : List (List Tok)) (z : Int) (hz : 0 ≤ z ∧ z ≤ 255) (w : World) (hst : Std w) (hx : Rd (wr w) [x] [.s 1 (m.map toksD)]) :
    Spec Tryz.prog 4 [c.val, x, .int .u8 z] w (fun v R => v = .bool true ∧ R = []) := by
  obtain ⟨A, ca, l, rfl, hnb, hs, hl, -⟩ := hx.toksL
  refine spec_of sg Tryz.func4 rfl rfl rfl ?_
  refine T_op (OpT.box (cs := c.cells) rfl rfl rfl rfl rfl rfl rfl (fun pc => ?_))
  repeat' (first | refine d1 ?_ | refine dd ?_ | (show T _ (.ops _ (_ :: _) :: _) _ _ _; first | refine T_call rfl rfl rfl rfl rfl (fun w hw => fine21_spec c A l.length ca l w (rdSrc hs w hw) rfl hnb ⟨fun t ht => src_below (hl.src t ht) hw.below, hl.len, hl.bd⟩) ?_ | refine T_callC rfl rfl rfl rfl rfl rfl rfl (fun hg w hw => fine21_spec c A l.length ca l w (rdSrc hs w hw) rfl hnb ⟨fun t ht => src_below (hl.src t ht) hw.below, hl.len, hl.bd⟩) ?_) | (show T _ (.run _ _ (_ :: _) _ _ :: _) _ _ _; first | refine rc rfl rfl rfl rfl rfl rfl rfl (fun w hw => fine21_spec c A l.length ca l w (rdSrc hs w hw) rfl hnb ⟨fun t ht => src_below (hl.src t ht) hw.below, hl.len, hl.bd⟩) ?_ | refine rcG rfl rfl rfl rfl rfl rfl rfl rfl rfl (fun hg w hw => fine21_spec c A l.length ca l w (rdSrc hs w hw) rfl hnb ⟨fun t ht => src_below (hl.src t ht) hw.below, hl.len, hl.bd⟩) ?_) | (show ∀ _ : Nat, T _ _ _ _ _; intro _))
  refine T_if rfl (fun h => ?_) (fun h => ?_)
  · repeat' (first | refine d1 ?_ | refine dd ?_ | (show T _ (.ops _ (_ :: _) :: _) _ _ _; first | refine T_call rfl rfl rfl rfl rfl (fun w hw => awake21_spec w (hst.cls hw)) ?_ | refine T_callC rfl rfl rfl rfl rfl rfl rfl (fun hg w hw => awake21_spec w (hst.cls hw)) ?_) | (show T _ (.run _ _ (_ :: _) _ _ :: _) _ _ _; first | refine rc rfl rfl rfl rfl rfl rfl rfl (fun w hw => awake21_spec w (hst.cls hw)) ?_ | refine rcG rfl rfl rfl rfl rfl rfl rfl rfl rfl (fun hg w hw => awake21_spec w (hst.cls hw)) ?_) | (show ∀ _ : Nat, T _ _ _ _ _; intro _) | (show T _ (.code .ret :: _) _ _ _; refine T_retV [] rfl (Hle.none _) ⟨rfl, rfl⟩))
  obtain ⟨hc, hgr, hbs, hck⟩ := fineV_ok (by simpa using h)
  obtain ⟨hgp, hn4, hq⟩ := Grp.of hst hs rfl hl hgr
  have hq' : ∀ t ∈ l, t.n ≤ 100 := fun t ht => by have := hq t ht; omega
  have ea : alnA c l = (alnP c l, 0) := if_pos hck
  repeat' (first | refine d1 ?_ | refine dd ?_ | (show T _ (.ops _ (_ :: _) :: _) _ _ _; refine T_op (OpT.call rfl rfl rfl rfl rfl (fun w hw => alignPrg21_spec c A l.length ca l w (hgp.cls hw) hq') ?_)) | (show ∀ _ : Nat, T _ _ _ _ _; intro _))
  rintro v R ⟨a, -, rfl, rfl⟩
  rw [ea]
  have hok := alnP_ok hck hl.len hgp.len
  have hnil := alnP_nil c (l := l)
  generalize alnP c l = cols at hok hnil ⊢
  refine T_le (H' := [dat [a] [rowsD cols], blk pc c.cells 23]) (Hle.refl _) ?_
  refine T_open fun p hp => ?_
  have hp2 := hp
  obtain ⟨Ak, capk, csk, rfl, hk1, hk2, hkl, hkr, hrows⟩ := hp.tab
  repeat' (first | refine d1 ?_ | refine dd ?_ | (show ∀ _ : Nat, T _ _ _ _ _; intro _))
  refine T_if rfl (fun h1 => ?_) (fun h1 => ?_)
  · simp only [decide_eq_true_eq] at h1
    rw [hnil (by omega)]
    repeat' (first | refine d1 ?_ | refine dd ?_ | (show T _ (.ops _ (_ :: _) :: _) _ _ _; first | refine T_call rfl rfl rfl rfl rfl (fun w hw => awake21_spec w (hst.cls hw)) ?_ | refine T_callC rfl rfl rfl rfl rfl rfl rfl (fun hg w hw => awake21_spec w (hst.cls hw)) ?_) | (show T _ (.run _ _ (_ :: _) _ _ :: _) _ _ _; first | refine rc rfl rfl rfl rfl rfl rfl rfl (fun w hw => awake21_spec w (hst.cls hw)) ?_ | refine rcG rfl rfl rfl rfl rfl rfl rfl rfl rfl (fun hg w hw => awake21_spec w (hst.cls hw)) ?_) | (show ∀ _ : Nat, T _ _ _ _ _; intro _) | (show T _ (.code .ret :: _) _ _ _; refine T_retV [] rfl (Hle.none _) ⟨rfl, rfl⟩))
  simp only [decide_eq_false_iff_not] at h1
  have h0 : 0 < l.length := by omega
  repeat' (first | refine d1 ?_ | refine dd ?_ | (show T _ (.ops _ (_ :: _) :: _) _ _ _; first | refine T_call rfl rfl rfl rfl rfl (fun w hw => check19_spec A l.length ca l _ cols w (hgp.cls hw) (hp2.own hw)) ?_ | refine T_callC rfl rfl rfl rfl rfl rfl rfl (fun hg w hw => check19_spec A l.length ca l _ cols w (hgp.cls hw) (hp2.own hw)) ?_) | (show T _ (.run _ _ (_ :: _) _ _ :: _) _ _ _; first | refine rc rfl rfl rfl rfl rfl rfl rfl (fun w hw => check19_spec A l.length ca l _ cols w (hgp.cls hw) (hp2.own hw)) ?_ | refine rcG rfl rfl rfl rfl rfl rfl rfl rfl rfl (fun hg w hw => check19_spec A l.length ca l _ cols w (hgp.cls hw) (hp2.own hw)) ?_) | (show ∀ _ : Nat, T _ _ _ _ _; intro _))
  rw [chkC_ok (by omega) hok]
  refine T_if rfl (fun h2 => by exfalso; simp at h2) (fun _ => ?_)
  repeat' (first | refine d1 ?_ | refine dd ?_ | (show ∀ _ : Nat, T _ _ _ _ _; intro _))
  refine T_if rfl (fun h2 => ?_) (fun h2 => ?_)
  · repeat' (first | refine d1 ?_ | refine dd ?_ | (show T _ (.ops _ (_ :: _) :: _) _ _ _; first | refine T_call rfl rfl rfl rfl rfl (fun w hw => awake21_spec w (hst.cls hw)) ?_ | refine T_callC rfl rfl rfl rfl rfl rfl rfl (fun hg w hw => awake21_spec w (hst.cls hw)) ?_) | (show T _ (.run _ _ (_ :: _) _ _ :: _) _ _ _; first | refine rc rfl rfl rfl rfl rfl rfl rfl (fun w hw => awake21_spec w (hst.cls hw)) ?_ | refine rcG rfl rfl rfl rfl rfl rfl rfl rfl rfl (fun hg w hw => awake21_spec w (hst.cls hw)) ?_) | (show ∀ _ : Nat, T _ _ _ _ _; intro _) | (show T _ (.code .ret :: _) _ _ _; refine T_retV [] rfl (Hle.none _) ⟨rfl, rfl⟩))
  obtain ⟨b, o, rfl⟩ := hs.base h0
  obtain ⟨t, ht, htm, hrt⟩ := hgp.get (k := 0) h0
  have htn := hq t htm
  have hzr : (z % 4 : Int) = ((z.toNat % 4 : Nat) : Int) := by omega
  repeat' (first | refine d1 ?_ | refine dd ?_ | (show T _ (.ops _ (_ :: _) :: _) _ _ _; refine T_op (OpT.litW rfl rfl rfl rfl rfl rfl rfl rfl rfl rfl rfl (fun g1 => ?_))) | (show ∀ _ : Nat, T _ _ _ _ _; intro _))
  rename_i g1
  obtain ⟨q, hq9⟩ : ∃ q : Nat, (1 + z % 4 : Int) = (q : Int) := ⟨(1 + z % 4).toNat, by omega⟩
  have hq1 : 1 ≤ q ∧ q ≤ 4 := by omega
  rw [hq9]
  repeat' (first | refine d1 ?_ | refine dd ?_ | (show T _ (.ops _ (_ :: _) :: _) _ _ _; refine T_op (OpT.call rfl rfl rfl rfl rfl (fun w hw => repeatS_spec t.val rfl _ 1 q w (Src.own hw rfl) (by omega)) ?_)) | (show ∀ _ : Nat, T _ _ _ _ _; intro _))
  rintro v R ⟨br, -, rfl, rfl⟩
  have hrep : List.replicate q t.val = (List.replicate q t).map TS.val := by rw [List.map_replicate]
  rw [hrep]
  refine T_le (H' := [row 40 1 (some ⟨br, 0, none⟩) q q ((List.replicate q t).map TS.val), fz p, blk pc c.cells 23]) (Hle.drop2 _ _ _) ?_
  have hall : ∀ x ∈ List.replicate q t, x = t := fun x hx => List.eq_of_mem_replicate hx
  have hgs : ∀ {w' : World} {H : List HA}, Cls w w' H → Src w' 1 (some ⟨br, 0, none⟩) q ((List.replicate q t).map TS.val) → Grp w' (some ⟨br, 0, none⟩) q (List.replicate q t) := fun {w' H} hw h9 => by
    have hg9 := hgp.cls hw
    exact ⟨hg9.hst, h9, by rw [List.length_replicate], by omega, ⟨fun x hx => by rw [hall x hx]; exact hg9.ok.src t htm, fun x hx => by rw [hall x hx]; exact hg9.ok.len t htm, fun x hx => by rw [hall x hx]; exact hg9.ok.bd t htm⟩, fun x hx => by rw [hall x hx]; exact hg9.nb t htm, fun x hx => by rw [hall x hx]; exact hg9.sm t htm⟩
  have hbs2 : badS (List.replicate q t) = false := by
    unfold badS at hbs ⊢
    rw [List.any_eq_false] at hbs ⊢
    exact fun x hx => by rw [hall x hx]; exact hbs t htm
  have hck2 : ck21 c (List.replicate q t) = 0 := if_pos ⟨hc, hbs2⟩
  have ea2 : alnA c (List.replicate q t) = (alnP c (List.replicate q t), 0) := if_pos hck2
  have htl := hl.len t htm
  have hsame : alnP c (List.replicate q t) = diag q t.n := by
    have h9 := alnP_same (l := List.replicate q t) hck2 (fun x hx => by rw [hall x hx, htl]; omega) (t := t.l) (fun x hx => by rw [hall x hx]) (by rw [List.length_replicate]; omega)
    rw [List.length_replicate, htl] at h9
    exact h9
  repeat' (first | refine d1 ?_ | refine dd ?_ | (show T _ (.ops _ (_ :: _) :: _) _ _ _; refine T_op (OpT.call rfl rfl rfl rfl rfl (fun w hw => alignPrg21_spec c (some ⟨br, 0, none⟩) q q (List.replicate q t) w (hgs hw (srcRw w hw)) (fun x hx => by rw [hall x hx]; omega)) ?_)) | (show ∀ _ : Nat, T _ _ _ _ _; intro _))
  rintro v R ⟨y, -, rfl, rfl⟩
  rw [ea2, hsame]
  refine T_le (H' := [dat [y] [rowsD (diag q t.n)], row 40 1 (some ⟨br, 0, none⟩) q q ((List.replicate q t).map TS.val), fz p, blk pc c.cells 23]) (Hle.refl _) ?_
  refine T_open fun p2 hp9 => ?_
  obtain ⟨Ay, capy, csy, rfl, hy1, hy2, hyl, hyr, hyrows⟩ := hp9.tab
  rw [diag_len] at hyr hyl hy1 ⊢
  repeat' (first | refine d1 ?_ | refine dd ?_ | (show ∀ _ : Nat, T _ _ _ _ _; intro _))
  refine T_if rfl (fun h => by exfalso; simp at h) (fun _ => ?_)
  repeat' (first | refine d1 ?_ | refine dd ?_ | (show ∀ _ : Nat, T _ _ _ _ _; intro _))
  refine T_loopX (fun k : Nat => [(78, .int .i64 (k : Nat))]) (fun _ => [fz p2, row 40 1 (some ⟨br, 0, none⟩) q q ((List.replicate q t).map TS.val), fz p, blk pc c.cells 23]) (fun k => k ≤ t.n) (fun k => t.n - k) 0 (Nat.zero_le _) ?_
  rintro k hk
  repeat' (first | refine d1 ?_ | refine dd ?_ | (show ∀ _ : Nat, T _ _ _ _ _; intro _))
  refine T_if rfl (fun h3 => ?_) (fun h3 => ?_)
  · simp only [decide_eq_true_eq] at h3
    have hkn : k < t.n := by omega
    obtain ⟨by9, oy, rfl, hyr9⟩ := hyr (by omega)
    have hrow : (diag q t.n)[k]? = some (List.replicate q (k : Int)) := by unfold diag; rw [List.getElem?_map, List.getElem?_range hkn]; rfl
    obtain ⟨Ar, capr, hcs, -, -, -⟩ := hyrows.tabRow hrow
    rw [List.length_replicate] at hcs
    have hsr : ∀ {w' : World} {H : List HA} [FocusZ H p2], Cls w w' H → Src w' 1 Ar q ((List.replicate q (k : Int)).map (Value.int .i64)) := fun {w' H} _ hw => ((rd_one hyrows hcs (by rw [List.getElem?_map, hrow]; rfl)).own hw).intsAt
    have hany : ((List.replicate q (k : Int)).any fun x => !decide (x = (k : Int))) = false := List.any_eq_false.2 fun x hx => by rw [List.eq_of_mem_replicate hx]; simp
    repeat' (first | refine d1 ?_ | refine dd ?_ | (show T _ (.ops _ (_ :: _) :: _) _ _ _; first | refine T_val rfl (Val.load rfl (fun hg => rdFz (p := p2) (u := .slice Ar q capr) (b := by9) (by rw [off1]; exact hyr9 k _ hcs))) rfl rfl rfl ?_ | refine T_valC rfl (Val.load rfl (fun hg => rdFz (p := p2) (u := .slice Ar q capr) (b := by9) (by rw [off1]; exact hyr9 k _ hcs))) rfl rfl rfl rfl rfl ?_ | refine T_call rfl rfl rfl rfl rfl (fun w hw => containsFuncI_spec Ar q capr (List.replicate q (k : Int)) _ [] [_] (fun x => !decide (x = (k : Int))) w (hsr hw) (by rw [List.length_replicate]) (by omega) (fun x hx w' hb' => valid1_spec x _ (k : Int) w' ((rdOwn1 (u := .int .i64 (k : Nat)) rfl w hw).below hb'))) ?_ | refine T_callC rfl rfl rfl rfl rfl rfl rfl (fun hg w hw => containsFuncI_spec Ar q capr (List.replicate q (k : Int)) _ [] [_] (fun x => !decide (x = (k : Int))) w (hsr hw) (by rw [List.length_replicate]) (by omega) (fun x hx w' hb' => valid1_spec x _ (k : Int) w' ((rdOwn1 (u := .int .i64 (k : Nat)) rfl w hw).below hb'))) ?_) | (show T _ (.run _ _ (_ :: _) _ _ :: _) _ _ _; first | refine rv rfl rfl rfl (Val.load rfl (fun hg => rdFz (p := p2) (u := .slice Ar q capr) (b := by9) (by rw [off1]; exact hyr9 k _ hcs))) rfl rfl rfl ?_ | refine rg rfl rfl rfl (Val.load rfl (fun hg => rdFz (p := p2) (u := .slice Ar q capr) (b := by9) (by rw [off1]; exact hyr9 k _ hcs))) rfl rfl rfl rfl rfl ?_ | refine rc rfl rfl rfl rfl rfl rfl rfl (fun w hw => containsFuncI_spec Ar q capr (List.replicate q (k : Int)) _ [] [_] (fun x => !decide (x = (k : Int))) w (hsr hw) (by rw [List.length_replicate]) (by omega) (fun x hx w' hb' => valid1_spec x _ (k : Int) w' ((rdOwn1 (u := .int .i64 (k : Nat)) rfl w hw).below hb'))) ?_ | refine rcG rfl rfl rfl rfl rfl rfl rfl rfl rfl (fun hg w hw => containsFuncI_spec Ar q capr (List.replicate q (k : Int)) _ [] [_] (fun x => !decide (x = (k : Int))) w (hsr hw) (by rw [List.length_replicate]) (by omega) (fun x hx w' hb' => valid1_spec x _ (k : Int) w' ((rdOwn1 (u := .int .i64 (k : Nat)) rfl w hw).below hb'))) ?_) | (show ∀ _ : Nat, T _ _ _ _ _; intro _))
    rw [hany]
    refine T_if rfl (fun h => by exfalso; simp at h) (fun _ => ?_)
    repeat' (first | refine d1 ?_ | refine dd ?_ | (show ∀ _ : Nat, T _ _ _ _ _; intro _))
    exact T_backX (k + 1) (by omega) (by omega) (hG := Hle.tail _ _)
  · repeat' (first | refine d1 ?_ | refine dd ?_ | (show T _ (.ops _ (_ :: _) :: _) _ _ _; first | refine T_call rfl rfl rfl rfl rfl (fun w hw => awake21_spec w (hst.cls hw)) ?_ | refine T_callC rfl rfl rfl rfl rfl rfl rfl (fun hg w hw => awake21_spec w (hst.cls hw)) ?_) | (show T _ (.run _ _ (_ :: _) _ _ :: _) _ _ _; first | refine rc rfl rfl rfl rfl rfl rfl rfl (fun w hw => awake21_spec w (hst.cls hw)) ?_ | refine rcG rfl rfl rfl rfl rfl rfl rfl rfl rfl (fun hg w hw => awake21_spec w (hst.cls hw)) ?_) | (show ∀ _ : Nat, T _ _ _ _ _; intro _) | (show T _ (.code .ret :: _) _ _ _; refine T_retV [] rfl (Hle.none _) ⟨rfl, rfl⟩))
theorem valid_met (os : Os) (args : Array Value) : laidMetH Tryz.prog Rows.progressiveValidRow.laid ((World.doorLaid Tryz.prog 400 os).forCall (fun _ _ => 0) ⟨#[], args, []⟩).memory :=
  io_met os args
theorem valid_lifted (os : Os) (started : os.Started) (H : Type) (enc : TypeId × Value → H) :
    ReturnsInHanded {} Tryz.checked os 4 .any (fun w args => (Rows.progressiveValidSpec.pre enc Tryz.prog Tryz.f4 [] false w args ∧ laidMetH Tryz.prog Rows.progressiveValidRow.laid w) ∧ sizedMet enc Tryz.prog Tryz.f4 (OpenSpec.ofChange Rows.progressiveValidSpec) false w args)
      (Rows.progressiveValidSpec.post enc Tryz.prog Tryz.f4 false true false false) := by
  refine returnsInHanded_of_change_and (C := Tryz.checked) (X := fun w _ => laidMetH Tryz.prog Rows.progressiveValidRow.laid w) (fun _ _ _ hh h => h.of_heap hh) knob started (by as_aux_lemma => kernel_rfl) Tryz.func4
    (ChangeSpec.witness_shaped (enc := enc) (C := Tryz.checked) (os := os) (X := fun w _ => laidMetH Tryz.prog Rows.progressiveValidRow.laid w) false (World.doorLaid Tryz.prog 400 os) #[(⟨0, 0, 0, 0⟩ : Costs).val, .slice none 0 0, .int .u8 0] 8 rfl (World.shaped_of_RefB (by as_aux_lemma => kernel_rfl) (by as_aux_lemma => kernel_rfl)) (by as_aux_lemma => kernel_rfl) (by as_aux_lemma => kernel_rfl) (by as_aux_lemma => kernel_rfl) (valid_met os _)) ?_
  intro W base args ds gs before hval0 hW _ _ hL _
  have hval : ∀ (j : Nat) t v, Tryz.f4.params[j]? = some t → args[j]? = some v → Value.okWide Tryz.prog W .any base t v := hval0
  have hstd := std_of (show laidMetH Tryz.prog laids W from hL)
  have hW' := hW
  obtain ⟨p, q, hA0, hV, rfl, hfz, hnd⟩ := hW
  have hA : DataW.TrodAll enc Tryz.prog W 0 (fun _ => true) true Tryz.f4.params.toList args.toList ds p := hA0
  obtain ⟨v0, vs0, d0, ds0, p0, q0, e0, rfl, rfl, h0, hA⟩ := trodAll_cons hA
  obtain ⟨v1, vs1, d1, ds1, p1, q1, rfl, rfl, rfl, h1, hA⟩ := trodAll_cons hA
  obtain ⟨v2, vs2, d2, ds2, p2, q2, rfl, rfl, rfl, h2, hA⟩ := trodAll_cons hA
  obtain ⟨rfl, rfl, rfl⟩ := trodAll_nil hA
  have ea : args = #[v0, v1, v2] := Array.ext' e0
  subst ea
  obtain ⟨c, rfl⟩ := arg_costs (hval 0 _ v0 rfl rfl) h0
  obtain ⟨l, hr_l⟩ := arg_toksL (hval 1 _ v1 rfl rfl) h1
  obtain ⟨z, rfl, hb_z⟩ := arg_u8 (hval 2 _ v2 rfl rfl) h2
  refine (validLaw_spec c v1 l z hb_z W hstd hr_l).calls.mono ?_
  rintro e W' ⟨v, A, rfl, ⟨rfl, _⟩, hb, _⟩
  exact ⟨_, rfl, law_post hW' rfl rfl laidOk (by intro t ht; simp only [show Tryz.f4.params.toList = [23, 24, 5] from rfl, List.mem_cons, List.mem_nil_iff, or_false] at ht; rcases ht with rfl | rfl | rfl <;> exact ⟨by as_aux_lemma => kernel_rfl, of_decide_eq_true (by as_aux_lemma => kernel_rfl)⟩) rfl Tryz.underlying4 hb⟩
theorem valid_j0 : Tryz.prog.inPlace 4 = Rows.progressiveValidRow.inPlace := by as_aux_lemma => kernel_rfl
theorem valid_j1 : Tryz.prog.unfollowed 4 = Rows.progressiveValidRow.unfollowed := by as_aux_lemma => kernel_rfl
theorem valid_j2 : Tryz.prog.recurses 4 = Rows.progressiveValidRow.recurses := by as_aux_lemma => kernel_rfl
theorem valid_j3 : Tryz.prog.varsNamed 4 = Rows.progressiveValidRow.named := by as_aux_lemma => kernel_rfl
theorem valid_joined : joinedFacts Tryz.prog 4 Tryz.f4 Rows.progressiveValidSpec Rows.progressiveValidRow = true := by
  unfold joinedFacts
  rw [valid_j0, valid_j1, valid_j2, valid_j3, io_enter, io_lifts, io_make]
  kernel_rfl
theorem valid_holds : Rows.ProgressiveValidSaid :=
  OpenClaim.holds_of_wide 4 Tryz.f4 rfl rfl rfl rfl rfl rfl rfl ⟨rfl, rfl, rfl, rfl, rfl⟩ rfl rfl rfl rfl rfl (by as_aux_lemma => kernel_rfl) Tryz.func4 valid_joined
    (of_decide_eq_true (by as_aux_lemma => kernel_rfl)) (by unfold Func.isWrapper; first | (rw [if_pos (by decide +kernel)]; kernel_rfl) | (rw [if_neg (by decide +kernel)]; exact ⟨rfl, rfl⟩))
    (fun os started H enc _ => valid_lifted os started H enc)
theorem valid_card : Rows.ProgressiveValidCardSaid :=
  Claim7.holds_tied_plain_at .later [] [.data, .data, .data, .sentinel, .sentinel] true (true, "8da3727bd41b5459b46e191c9a7204ac1b54c7258f68ddd1a33546be5efdd15c") true
    valid_holds (fun _ h => by cases h) (by as_aux_lemma => kernel_rfl) (fun _ h => by cases h) progressiveValid_row_tie rfl ⟨rfl, rfl⟩ io_main rfl
    (fun f fn hf hfn => by
      obtain rfl : f = 4 := Option.some.inj ((show Tryz.prog.funcNamed "apograph/apographlaw21.ProgressiveValid" = some 4 by as_aux_lemma => kernel_rfl).symm.trans hf) |>.symm
      obtain rfl : fn = Tryz.f4 := (Option.some.inj (Tryz.func4.symm.trans hfn)).symm
      exact ⟨by as_aux_lemma => kernel_rfl, fun j t ht => by
        have ht' : [23, 24, 5][j]? = some t := by rw [Tryz.params4] at ht; simpa using ht
        have hm := List.mem_of_getElem? ht'
        simp only [List.mem_cons, List.mem_nil_iff, or_false] at hm
        rcases hm with rfl | rfl | rfl <;> exact (show Tryz.prog.wantsStandIn _ = false by as_aux_lemma => kernel_rfl)⟩)
    (by as_aux_lemma => kernel_rfl)
#print axioms valid_card
end Go.Proofs.YtofikdpbagnjbaaGreatDoor
