/- The law ProgressiveAdds holds for whatever costs, sources, added source and numbers: the tied card of its row. No condition beyond the row's own. -/
import Derived.Test.YtofikdpbagnjbaaGreatDoorQ4
import Derived.Test.YtofikdpbagnjbaaGreatDoorCards
import Derived.Test.YtofikdpbagnjbaaGreatDoorTie
set_option linter.unusedVariables false
set_option linter.unusedSimpArgs false
namespace Go.Proofs.YtofikdpbagnjbaaGreatDoor
open Go.RowKit Go.Shelf Go.ChangeShapes Go.WideShapes Go.Proofs
set_option maxRecDepth 100000
set_option maxHeartbeats 1000000

theorem addsLaw_spec (c : Costs) (x : Value) (m : List (List Tok)) (tt : TS) (Ap : Option Addr) (cp : Nat) (us : List Int) (w : World) (hst : Std w) (hx : Rd (wr w) [x] [.s 1 (m.map toksD)]) (hts : Src w 6 tt.A tt.n (tt.l.flatMap Tok.cells)) (htl : tt.l.length = tt.n) (htb : tt.n ≤ 9223372036854775807) (hps : Src w 1 Ap us.length (us.map (Value.int .u8))) (hpb : us.length ≤ 9223372036854775807) (hpz : ∀ z ∈ us, 0 ≤ z ∧ z ≤ 255) (hpc : us.length ≤ cp) :
    Spec Tryz.prog 7 [c.val, x, tt.val, .slice Ap us.length cp] w (fun v R => v = .bool true ∧ R = []) := by
  obtain ⟨A, ca, l, rfl, hnb, hs, hl, -⟩ := hx.toksL
  refine spec_of sg Tryz.func7 rfl rfl rfl ?_
  refine T_op (OpT.box (cs := c.cells) rfl rfl rfl rfl rfl rfl rfl (fun pc => ?_))
  refine T_op (OpT.box (cs := [.slice Ap us.length cp]) rfl rfl rfl rfl rfl rfl rfl (fun pk => ?_))
  have hT1 : ∀ {w' : World} {H : List HA}, Cls w w' H → TsOk w' [tt] := fun hw =>
    ⟨List.forall_mem_cons.2 ⟨src_below hts hw.below, fun t h => (by cases h)⟩, List.forall_mem_cons.2 ⟨htl, fun t h => (by cases h)⟩, List.forall_mem_cons.2 ⟨htb, fun t h => (by cases h)⟩⟩
  cases hf : fineV c l with
  | false =>
    repeat' (first | refine d1 ?_ | refine dd ?_ | (show T _ (.ops _ (_ :: _) :: _) _ _ _; first | refine T_call rfl rfl rfl rfl rfl (fun w hw => fine21_spec c A l.length ca l w (rdSrc hs w hw) rfl hnb ⟨fun t ht => src_below (hl.src t ht) hw.below, hl.len, hl.bd⟩) ?_ | refine T_callC rfl rfl rfl rfl rfl rfl rfl (fun hg w hw => fine21_spec c A l.length ca l w (rdSrc hs w hw) rfl hnb ⟨fun t ht => src_below (hl.src t ht) hw.below, hl.len, hl.bd⟩) ?_ | refine T_op (OpT.never (.bool false) rfl (fun hg => by (simp only [List.cons_append, List.nil_append, GP, dstL, lookE, Nat.beq, cond, List.getElem?_cons_zero, List.getElem?_cons_succ, Option.bind_some, and_true, Bool.and_eq_true, Bool.or_eq_true, Bool.and_eq_false_iff, Bool.or_eq_false_iff, Bool.not_eq_true', Bool.not_eq_false', decide_eq_true_eq, decide_eq_false_iff_not] at hg); simp [hf] at hg) rfl rfl rfl rfl rfl ?_)) | (show T _ (.run _ _ (_ :: _) _ _ :: _) _ _ _; first | refine rc rfl rfl rfl rfl rfl rfl rfl (fun w hw => fine21_spec c A l.length ca l w (rdSrc hs w hw) rfl hnb ⟨fun t ht => src_below (hl.src t ht) hw.below, hl.len, hl.bd⟩) ?_ | refine rcG rfl rfl rfl rfl rfl rfl rfl rfl rfl (fun hg w hw => fine21_spec c A l.length ca l w (rdSrc hs w hw) rfl hnb ⟨fun t ht => src_below (hl.src t ht) hw.below, hl.len, hl.bd⟩) ?_) | (show ∀ _ : Nat, T _ _ _ _ _; intro _))
    rw [hf]
    refine T_if rfl (fun h => ?_) (fun h => by exfalso; simp at h)
    repeat' (first | refine d1 ?_ | refine dd ?_ | (show T _ (.ops _ (_ :: _) :: _) _ _ _; first | refine T_call rfl rfl rfl rfl rfl (fun w hw => awake21_spec w (hst.cls hw)) ?_ | refine T_callC rfl rfl rfl rfl rfl rfl rfl (fun hg w hw => awake21_spec w (hst.cls hw)) ?_) | (show T _ (.run _ _ (_ :: _) _ _ :: _) _ _ _; first | refine rc rfl rfl rfl rfl rfl rfl rfl (fun w hw => awake21_spec w (hst.cls hw)) ?_ | refine rcG rfl rfl rfl rfl rfl rfl rfl rfl rfl (fun hg w hw => awake21_spec w (hst.cls hw)) ?_) | (show ∀ _ : Nat, T _ _ _ _ _; intro _) | (show T _ (.code .ret :: _) _ _ _; refine T_retV [] rfl (Hle.none _) ⟨rfl, rfl⟩))
  | true =>
    obtain ⟨hc, hgr, hbs, hck⟩ := fineV_ok hf
    obtain ⟨hgp, hn4, hq⟩ := Grp.of hst hs rfl hl hgr
    have hq' : ∀ t ∈ l, t.n ≤ 100 := fun t ht => by have := hq t ht; omega
    repeat' (first | refine d1 ?_ | refine dd ?_ | (show T _ (.ops _ (_ :: _) :: _) _ _ _; first | refine T_call rfl rfl rfl rfl rfl (fun w hw => fine21_spec c A l.length ca l w (rdSrc hs w hw) rfl hnb ⟨fun t ht => src_below (hl.src t ht) hw.below, hl.len, hl.bd⟩) ?_ | refine T_callC rfl rfl rfl rfl rfl rfl rfl (fun hg w hw => fine21_spec c A l.length ca l w (rdSrc hs w hw) rfl hnb ⟨fun t ht => src_below (hl.src t ht) hw.below, hl.len, hl.bd⟩) ?_) | (show T _ (.run _ _ (_ :: _) _ _ :: _) _ _ _; first | refine rc rfl rfl rfl rfl rfl rfl rfl (fun w hw => fine21_spec c A l.length ca l w (rdSrc hs w hw) rfl hnb ⟨fun t ht => src_below (hl.src t ht) hw.below, hl.len, hl.bd⟩) ?_ | refine rcG rfl rfl rfl rfl rfl rfl rfl rfl rfl (fun hg w hw => fine21_spec c A l.length ca l w (rdSrc hs w hw) rfl hnb ⟨fun t ht => src_below (hl.src t ht) hw.below, hl.len, hl.bd⟩) ?_) | (show ∀ _ : Nat, T _ _ _ _ _; intro _))
    rw [hf]
    refine T_known 30 rfl rfl ?_
    refine T_known 31 rfl rfl ?_
    refine T_op (OpT.sure (p := false) rfl rfl rfl (OpT.litW rfl rfl rfl rfl rfl rfl rfl rfl rfl rfl rfl (fun b1 => ?_)))
    refine T_op (OpT.sure (p := false) rfl rfl rfl (OpT.call rfl rfl rfl rfl rfl (fun w hw => fine21_spec c _ 1 1 [tt] w (Src.own hw rfl) rfl (by omega) (hT1 hw)) (fun v R hR => ?_)))
    obtain ⟨rfl, rfl⟩ := hR
    refine T_le (H' := [blk pk [.slice Ap us.length cp] 51, blk pc c.cells 23]) (Hle.tail _ _) ?_
    repeat' (first | refine d1 ?_ | refine dd ?_ | (show ∀ _ : Nat, T _ _ _ _ _; intro _))
    refine T_if rfl (fun h => ?_) (fun h => ?_)
    · repeat' (first | refine d1 ?_ | refine dd ?_ | (show T _ (.ops _ (_ :: _) :: _) _ _ _; first | refine T_call rfl rfl rfl rfl rfl (fun w hw => awake21_spec w (hst.cls hw)) ?_ | refine T_callC rfl rfl rfl rfl rfl rfl rfl (fun hg w hw => awake21_spec w (hst.cls hw)) ?_) | (show T _ (.run _ _ (_ :: _) _ _ :: _) _ _ _; first | refine rc rfl rfl rfl rfl rfl rfl rfl (fun w hw => awake21_spec w (hst.cls hw)) ?_ | refine rcG rfl rfl rfl rfl rfl rfl rfl rfl rfl (fun hg w hw => awake21_spec w (hst.cls hw)) ?_) | (show ∀ _ : Nat, T _ _ _ _ _; intro _) | (show T _ (.code .ret :: _) _ _ _; refine T_retV [] rfl (Hle.none _) ⟨rfl, rfl⟩))
    have hh : fineV c [tt] = true ∧ l.length ≤ 3 ∧ l.length ≠ 0 := by
      simp only [Bool.not_true, Bool.false_or, Bool.or_eq_false_iff, decide_eq_false_iff_not, Bool.not_eq_false'] at h
      exact ⟨h.1.1.1, by omega, by omega⟩
    clear h
    obtain ⟨hf2, hn3, hn0⟩ := hh
    obtain ⟨-, hgr2, hbs2, -⟩ := fineV_ok hf2
    have ht5 : tt.n ≤ 5 ∧ ∀ x ∈ tt.l, x.small := by
      unfold great21B at hgr2
      rw [Bool.or_eq_false_iff, List.any_eq_false] at hgr2
      have h1 := hgr2.1 tt (.head _)
      simp at h1
      exact ⟨by omega, fun x hx => (longT_small ((greatB_false h1.2).1 x hx)).1⟩
    obtain ⟨ht5, hsm⟩ := ht5
    have hbt : badL tt.l = false := by
      unfold badS at hbs2
      simpa using hbs2
    have ea : alnA c l = (alnP c l, 0) := if_pos hck
    repeat' (first | refine d1 ?_ | refine dd ?_ | (show T _ (.ops _ (_ :: _) :: _) _ _ _; refine T_op (OpT.call rfl rfl rfl rfl rfl (fun w hw => alignPrg21_spec c A l.length ca l w (hgp.cls hw) hq') ?_)) | (show ∀ _ : Nat, T _ _ _ _ _; intro _))
    rintro v R ⟨a, -, rfl, rfl⟩
    rw [ea]
    have hok := alnP_ok hck hl.len hgp.len
    generalize alnP c l = cols at hok ⊢
    refine T_le (H' := [dat [a] [rowsD cols], blk pk [.slice Ap us.length cp] 51, blk pc c.cells 23]) (Hle.refl _) ?_
    refine T_open fun p hp => ?_
    have hp0 := hp
    have hcl : ∀ x ∈ cols, x.length = l.length := fun x hx => by rw [hok.len x hx, lens_len]
    have hlen : cols.length ≤ 20 := by
      have h1 := hok.short
      have h2 : ∀ l : List TS, (∀ t ∈ l, t.n ≤ 5) → sumL (lens l) ≤ 5 * l.length := by
        intro l
        induction l with
        | nil => intro _; exact Nat.zero_le _
        | cons t l ih =>
          intro h
          have h1 := h t (.head _)
          have h2 := ih fun x hx => h x (.tail _ hx)
          show t.n + sumL (lens l) ≤ _
          rw [List.length_cons, Nat.mul_add]
          omega
      have h3 := h2 l hq
      omega
    have hal : alV l cols = 0 := by unfold alV; rw [if_neg (fun h9 => hn0 h9.1), if_pos (chkC_ok hn0 hok)]
    have e1 : addTV c l cols tt.l = (addV c l cols tt.l 0 0, 0) := by
      unfold addTV
      rw [if_neg (by simpa using hck), if_neg (by simpa using hal), if_neg (by omega), if_neg (by rw [hbt]; decide)]
    have hxl := addV_len c l cols tt.l
    have hoX : ColsOk (lens (l ++ [tt])) (addV c l cols tt.l 0 0) := by
      have h9 := addV_ok (c := c) (t := tt.l) (lens_len l) hok
      rw [htl] at h9
      rw [lens_app]
      exact h9
    have hback : wthC (addV c l cols tt.l 0 0) l.length = cols := by
      have h9 := wthC_add (c := c) (t := tt.l) hcl hok.anyP_ 0 0 (Nat.zero_le _) (Nat.zero_le _)
      rwa [List.drop_zero] at h9
    have hfin : ∀ oth, OthP c l cols tt cols.length tt.l.length oth → ColsOk (lens (l ++ [tt])) oth ∧ totZ c (l ++ [tt]) (addV c l cols tt.l 0 0) ≤ totZ c (l ++ [tt]) oth := fun oth h9 => h9.fin hok htl rfl rfl
    repeat' (first | refine d1 ?_ | refine dd ?_ | (show T _ (.ops _ (_ :: _) :: _) _ _ _; refine T_op (OpT.call rfl rfl rfl rfl rfl (fun w hw => addT21_spec c A tt.A l.length ca tt.n tt.cap l a cols tt.l w (hgp.cls hw) hq' (hp.own hw) (src_below hts hw.below) htl (by omega) hsm) ?_)) | (show ∀ _ : Nat, T _ _ _ _ _; intro _))
    rintro v R ⟨x1, -, rfl, rfl⟩
    rw [e1]
    generalize addV c l cols tt.l 0 0 = X at hxl hoX hback hfin ⊢
    refine T_le (H' := [dat [x1] [rowsD X], fz p, blk pk [.slice Ap us.length cp] 51, blk pc c.cells 23]) (Hle.refl _) ?_
    refine T_open fun p1 hp1 => ?_
    repeat' (first | refine d1 ?_ | refine dd ?_ | (show ∀ _ : Nat, T _ _ _ _ _; intro _))
    refine T_if rfl (fun h => by exfalso; simp at h) (fun _ => ?_)
    have hgt : ∀ {w' : World} {H : List HA} {A9 : Option Addr}, Cls w w' H → Src w' 1 A9 (l.length + 1) ((l ++ [tt]).map TS.val) → Grp w' A9 (l.length + 1) (l ++ [tt]) := fun {w' H A9} hw h9 => by
      have hg9 := hgp.cls hw
      have hm9 : ∀ {P : TS → Prop}, (∀ t ∈ l, P t) → P tt → ∀ t ∈ l ++ [tt], P t := fun ha hb t ht => by
        rcases List.mem_append.1 ht with ht | ht
        · exact ha t ht
        · rw [List.mem_singleton] at ht; subst ht; exact hb
      exact ⟨hg9.hst, h9, by rw [List.length_append]; rfl, by omega, ⟨hm9 hg9.ok.src (src_below hts hw.below), hm9 hg9.ok.len htl, hm9 hg9.ok.bd htb⟩, hm9 hg9.nb (by omega), hm9 hg9.sm hsm⟩
    have happ : (l ++ [tt]).map TS.val = l.map TS.val ++ flatP [(0, .slice tt.A tt.n tt.cap)] := by rw [List.map_append]; rfl
    have hL0 : (l ++ [tt]).length ≠ 0 := by rw [List.length_append]; simp
    have hbsX : badS (l ++ [tt]) = false := by
      unfold badS at hbs ⊢
      rw [List.any_append, hbs, List.any_cons, hbt]; rfl
    have eR : remV (l ++ [tt]) X (l.length : Nat) = (cols, 0) := by
      unfold remV
      rw [if_neg (by unfold srcE; rw [hbsX]; simp), if_neg (by unfold alV; rw [if_neg (fun h9 => hL0 h9.1), if_pos (chkC_ok hL0 hoX)]; simp), if_neg (by rw [List.length_append]; simp; omega), Int.toNat_natCast, hback]
    repeat' (first | refine d1 ?_ | refine dd ?_ | (show T _ (.ops _ (_ :: _) :: _) _ _ _; refine T_callE rfl rfl rfl rfl rfl (fun w hw => cloneS_spec A l.length ca l w (rdSrc hs w hw) (by omega)) (fun xo _ => ?_)) | (show ∀ _ : Nat, T _ _ _ _ _; intro _))
    obtain ⟨Ac, cc⟩ := xo
    dsimp only
    repeat' (first | refine d1 ?_ | refine dd ?_ | (show T _ (.ops _ (_ :: _) :: _) _ _ _; refine T_op (OpT.append (A := Ac) rfl rfl rfl rfl rfl rfl rfl rfl rfl rfl (fun w hw => Src.own hw rfl) rfl (by dsimp only; omega) (by omega) (fun A1 c1 hA1 => ?_))) | (show ∀ _ : Nat, T _ _ _ _ _; intro _))
    rename_i b2
    refine T_le (H' := [row 40 1 A1 c1 (l.length + 1) ((l ++ [tt]).map TS.val), fz p1, fz p, blk pk [.slice Ap us.length cp] 51, blk pc c.cells 23]) (by rw [happ]; exact Hle.tail _ _) ?_
    repeat' (first | refine d1 ?_ | refine dd ?_ | (show T _ (.ops _ (_ :: _) :: _) _ _ _; refine T_op (OpT.call rfl rfl rfl rfl rfl (fun w hw => remove21_spec A1 (l.length + 1) c1 (l ++ [tt]) x1 X (l.length : Nat) w (hgt hw (srcRw w hw)) (hp1.own hw)) ?_)) | (show ∀ _ : Nat, T _ _ _ _ _; intro _))
    rintro v R ⟨y1, -, rfl, rfl⟩
    rw [eR]
    refine T_le (H' := [dat [y1] [rowsD cols], fz p1, fz p, blk pk [.slice Ap us.length cp] 51, blk pc c.cells 23]) (Hle.drop2 _ _ _) ?_
    refine T_open fun p2 hp2 => ?_
    repeat' (first | refine d1 ?_ | refine dd ?_ | (show T _ (.ops _ (_ :: _) :: _) _ _ _; first | refine T_call rfl rfl rfl rfl rfl (fun w hw => sameTable_spec y1 a cols cols w (hp2.own hw) (hp0.own hw)) ?_ | refine T_callC rfl rfl rfl rfl rfl rfl rfl (fun hg w hw => sameTable_spec y1 a cols cols w (hp2.own hw) (hp0.own hw)) ?_) | (show T _ (.run _ _ (_ :: _) _ _ :: _) _ _ _; first | refine rc rfl rfl rfl rfl rfl rfl rfl (fun w hw => sameTable_spec y1 a cols cols w (hp2.own hw) (hp0.own hw)) ?_ | refine rcG rfl rfl rfl rfl rfl rfl rfl rfl rfl (fun hg w hw => sameTable_spec y1 a cols cols w (hp2.own hw) (hp0.own hw)) ?_) | (show ∀ _ : Nat, T _ _ _ _ _; intro _))
    refine T_if rfl (fun h => by exfalso; simp at h) (fun _ => ?_)
    refine T_le (H' := [blk pk [.slice Ap us.length cp] 51, fz p1, fz p, blk pc c.cells 23]) (Hle.srt (K := [blk pk [.slice Ap us.length cp] 51, fz p1, fz p, blk pc c.cells 23])) ?_
    repeat' (first | refine d1 ?_ | refine dd ?_ | (show ∀ _ : Nat, T _ _ _ _ _; intro _))
    refine T_nilrow 27 1 ?_
    refine T_le (dat_nil _) ?_
    refine T_le (H' := [row 27 1 none 0 0 [], dat [] [], blk pk [.slice Ap us.length cp] 51, fz p1, fz p, blk pc c.cells 23]) (Hle.srt (K := [row 27 1 none 0 0 [], dat [] [], blk pk [.slice Ap us.length cp] 51, fz p1, fz p, blk pc c.cells 23])) ?_
    obtain ⟨Ak, capk, csk, rfl, hk1, hk2, hkl, hkr, hrows⟩ := hp.tab
    refine T_loopX (fun s : (Nat × Nat) × (Option Addr × Nat) × List Value × List (List Int) × Option Addr × List Int × Nat => [(16, .int .i64 (s.1.1 : Nat)), (17, .int .i64 (s.1.2 : Nat)), (15, .slice s.2.1.1 s.2.2.2.1.length s.2.1.2)])
      (fun s => [row 27 1 s.2.1.1 s.2.1.2 s.2.2.2.1.length s.2.2.1, dat s.2.2.1 (s.2.2.2.1.map intsD), blk pk [.slice s.2.2.2.2.1 s.2.2.2.2.2.1.length s.2.2.2.2.2.2] 51, fz p1, fz p, blk pc c.cells 23])
      (fun s => s.1.1 ≤ cols.length ∧ s.1.2 ≤ tt.l.length ∧ OthP c l cols tt s.1.1 s.1.2 s.2.2.2.1 ∧ s.2.2.2.1.length ≤ s.1.1 + s.1.2 ∧ Src w 1 s.2.2.2.2.1 s.2.2.2.2.2.1.length (s.2.2.2.2.2.1.map (Value.int .u8)) ∧ (∀ z ∈ s.2.2.2.2.2.1, 0 ≤ z ∧ z ≤ 255) ∧ s.2.2.2.2.2.1.length ≤ s.2.2.2.2.2.2)
      (fun s => cols.length - s.1.1 + (tt.l.length - s.1.2)) ((0, 0), (none, 0), [], [], Ap, us, cp) ⟨Nat.zero_le _, Nat.zero_le _, OthP.start c l cols tt, Nat.zero_le _, hps, hpz, hpc⟩ ?_
    rintro ⟨⟨i, k⟩, ⟨X9, Y9⟩, hs9, oth, Aq, uq, cq⟩ ⟨hi, hk, hO, hol, hsq, hzq, hcq⟩
    dsimp only at hi hk hO hol hsq hzq hcq ⊢
    have eG1 : (grdA c l cols tt.l).n = cols.length := rfl
    have eG2 : (grdA c l cols tt.l).m = tt.l.length := rfl
    repeat' (first | refine d1 ?_ | refine dd ?_ | (show ∀ _ : Nat, T _ _ _ _ _; intro _))
    refine T_if rfl (fun h3 => ?_) (fun h3 => ?_)
    · have h3' : i < cols.length ∨ k < tt.n := by simpa using h3
      clear h3
      refine T_le (H' := [blk pk [.slice Aq uq.length cq] 51, row 27 1 X9 Y9 oth.length hs9, dat hs9 (oth.map intsD), fz p1, fz p, blk pc c.cells 23]) (Hle.srt (K := [blk pk [.slice Aq uq.length cq] 51, row 27 1 X9 Y9 oth.length hs9, dat hs9 (oth.map intsD), fz p1, fz p, blk pc c.cells 23])) ?_
      repeat' (first | refine d1 ?_ | refine dd ?_ | (show T _ (.ops _ (_ :: _) :: _) _ _ _; refine T_op (OpT.callB rfl rfl rfl rfl rfl (next21_spec pk cq Aq uq _ _ hsq hzq hcq) (fun v R hR => ?_))) | (show ∀ _ : Nat, T _ _ _ _ _; intro _))
      obtain ⟨q, Aq', uq', cq', ⟨⟨hq0, hq2⟩, hsq', hzq', hcq'⟩, rfl, rfl⟩ := hR
      have hcolr : i < cols.length → ∃ b o r Ar capr, Ak = some ⟨b, o, none⟩ ∧ cols.getD i [] = r ∧ r.length = l.length ∧ csk[i]? = some (.slice Ar r.length capr) ∧ cols[i]? = some r ∧ fr p b (o + i) = some (.slice Ar r.length capr) := fun hin => by
        obtain ⟨b, o, e, hb⟩ := hkr (by omega)
        have hr : cols[i]? = some cols[i] := List.getElem?_eq_getElem hin
        obtain ⟨Ar, capr, hcs, -⟩ := hrows.tabRow hr
        exact ⟨b, o, cols[i], Ar, capr, e, by rw [List.getD_eq_getElem?_getD, hr]; rfl, hcl _ (List.getElem_mem hin), hcs, hr, hb i _ hcs⟩
      repeat' (first | refine d1 ?_ | refine dd ?_ | (show ∀ _ : Nat, T _ _ _ _ _; intro _))
      refine T_if rfl (fun h4 => ?_) (fun h4 => ?_)
      · have h4' : (i < cols.length ∧ k < tt.n) ∧ q = 0 := by simpa using h4
        obtain ⟨⟨hin, hkn⟩, -⟩ := h4'
        obtain ⟨b, o, r, Ar, capr, rfl, hgd, hrl, hcs, hr, hld⟩ := hcolr hin
        have hst9 := hO.step hcl hok.some_ (y := ⟨1, 1, _⟩) (by rw [mvs_both (by rw [eG1]; exact hin) (by rw [eG2]; omega)]; exact .head _)
        have ecl : colM l.length cols i k ⟨1, 1, (grdA c l cols tt.l).p i k⟩ = r ++ [(k : Int)] := by unfold colM; rw [if_pos rfl, if_pos rfl, hgd]
        rw [ecl] at hst9
        have hsr : ∀ {w' : World} {H : List HA} [FocusZ H p], Cls w w' H → Src w' 1 Ar r.length (r.map (Value.int .i64)) := fun {w' H} _ hw => ((rd_one hrows hcs (by rw [List.getElem?_map, hr]; rfl)).own hw).intsAt
        repeat' (first | refine d1 ?_ | refine dd ?_ | (show T _ (.ops _ (_ :: _) :: _) _ _ _; first | refine T_val rfl (Val.load rfl (fun hg => rdFz (p := p) (u := .slice Ar r.length capr) (b := b) (by rw [off1]; exact hld))) rfl rfl rfl ?_ | refine T_valC rfl (Val.load rfl (fun hg => rdFz (p := p) (u := .slice Ar r.length capr) (b := b) (by rw [off1]; exact hld))) rfl rfl rfl rfl rfl ?_ | refine T_callE rfl rfl rfl rfl rfl (fun w hw => cloneI_spec Ar r.length capr r w (hsr hw) (by omega)) (fun xo _ => ?_)) | (show T _ (.run _ _ (_ :: _) _ _ :: _) _ _ _; first | refine rv rfl rfl rfl (Val.load rfl (fun hg => rdFz (p := p) (u := .slice Ar r.length capr) (b := b) (by rw [off1]; exact hld))) rfl rfl rfl ?_ | refine rg rfl rfl rfl (Val.load rfl (fun hg => rdFz (p := p) (u := .slice Ar r.length capr) (b := b) (by rw [off1]; exact hld))) rfl rfl rfl rfl rfl ?_) | (show ∀ _ : Nat, T _ _ _ _ _; intro _))
        obtain ⟨A5, c5⟩ := xo
        dsimp only
        repeat' (first | refine d1 ?_ | refine dd ?_ | (show T _ (.ops _ (_ :: _) :: _) _ _ _; first | refine T_op (OpT.append (A := A5) rfl rfl rfl rfl rfl rfl rfl rfl rfl rfl (fun w hw => Src.own hw rfl) rfl (by dsimp only; omega) (by omega) (fun A6 c6 hA6 => ?_)) | refine T_op (OpT.append (A := X9) rfl rfl rfl rfl rfl rfl rfl rfl rfl rfl (fun w hw => Src.own hw rfl) rfl (by dsimp only; omega) (by omega) (fun A8 c8 hA8 => ?_))) | (show ∀ _ : Nat, T _ _ _ _ _; intro _))
        refine T_backX ((i + 1, k + 1), (A8, c8), hs9 ++ [.slice A6 (r.length + 1) c6], oth ++ [r ++ [(k : Int)]], Aq', uq', cq') ⟨by dsimp only; omega, by dsimp only; omega, hst9, by dsimp only; rw [List.length_append]; simp; omega, hsq', hzq', hcq'⟩ (by dsimp only; omega) (hE := ⟨rfl, rfl, by dsimp only; rw [List.length_append]; rfl, trivial⟩) (hG := ?_)
        dsimp only
        rw [List.length_append]
        exact (Hle.srt (K := [row 3 1 A6 c6 (r.length + 1) (r.map (Value.int .i64) ++ flatP [(0, .int .i64 (k : Nat))]), dat hs9 (oth.map intsD), row 27 1 A8 c8 (oth.length + 1) (hs9 ++ flatP [(0, .slice A6 (r.length + 1) c6)]), blk pk [.slice Aq' uq'.length cq'] 51, fz p1, fz p, blk pc c.cells 23])).trans (out_hle (cl := r ++ [(k : Int)]) (by rw [List.map_append]; rfl))
      · repeat' (first | refine d1 ?_ | refine dd ?_ | (show ∀ _ : Nat, T _ _ _ _ _; intro _))
        refine T_if rfl (fun h5 => ?_) (fun h5 => ?_)
        · have hin : i < cols.length := by
            simp only [Bool.and_eq_true, decide_eq_true_eq] at h5
            omega
          obtain ⟨b, o, r, Ar, capr, rfl, hgd, hrl, hcs, hr, hld⟩ := hcolr hin
          have hst9 := hO.step hcl hok.some_ (y := ⟨1, 0, _⟩) (by
            by_cases h9 : k < tt.l.length
            · rw [mvs_both (by rw [eG1]; exact hin) (by rw [eG2]; exact h9)]; exact .tail _ (.head _)
            · rw [mvs_fst (by rw [eG1]; exact hin) (by rw [eG2]; exact h9)]; exact .head _)
          have ecl : colM l.length cols i k ⟨1, 0, (grdA c l cols tt.l).g i⟩ = r ++ [-1] := by unfold colM; rw [if_pos rfl, if_neg (show ¬ (0 : Nat) = 1 by omega), hgd]
          rw [ecl] at hst9
          have hsr : ∀ {w' : World} {H : List HA} [FocusZ H p], Cls w w' H → Src w' 1 Ar r.length (r.map (Value.int .i64)) := fun {w' H} _ hw => ((rd_one hrows hcs (by rw [List.getElem?_map, hr]; rfl)).own hw).intsAt
          repeat' (first | refine d1 ?_ | refine dd ?_ | (show T _ (.ops _ (_ :: _) :: _) _ _ _; first | refine T_val rfl (Val.load rfl (fun hg => rdFz (p := p) (u := .slice Ar r.length capr) (b := b) (by rw [off1]; exact hld))) rfl rfl rfl ?_ | refine T_valC rfl (Val.load rfl (fun hg => rdFz (p := p) (u := .slice Ar r.length capr) (b := b) (by rw [off1]; exact hld))) rfl rfl rfl rfl rfl ?_ | refine T_callE rfl rfl rfl rfl rfl (fun w hw => cloneI_spec Ar r.length capr r w (hsr hw) (by omega)) (fun xo _ => ?_)) | (show T _ (.run _ _ (_ :: _) _ _ :: _) _ _ _; first | refine rv rfl rfl rfl (Val.load rfl (fun hg => rdFz (p := p) (u := .slice Ar r.length capr) (b := b) (by rw [off1]; exact hld))) rfl rfl rfl ?_ | refine rg rfl rfl rfl (Val.load rfl (fun hg => rdFz (p := p) (u := .slice Ar r.length capr) (b := b) (by rw [off1]; exact hld))) rfl rfl rfl rfl rfl ?_) | (show ∀ _ : Nat, T _ _ _ _ _; intro _))
          obtain ⟨A5, c5⟩ := xo
          dsimp only
          repeat' (first | refine d1 ?_ | refine dd ?_ | (show T _ (.ops _ (_ :: _) :: _) _ _ _; first | refine T_op (OpT.append (A := A5) rfl rfl rfl rfl rfl rfl rfl rfl rfl rfl (fun w hw => Src.own hw rfl) rfl (by dsimp only; omega) (by omega) (fun A6 c6 hA6 => ?_)) | refine T_op (OpT.append (A := X9) rfl rfl rfl rfl rfl rfl rfl rfl rfl rfl (fun w hw => Src.own hw rfl) rfl (by dsimp only; omega) (by omega) (fun A8 c8 hA8 => ?_))) | (show ∀ _ : Nat, T _ _ _ _ _; intro _))
          refine T_backX ((i + 1, k), (A8, c8), hs9 ++ [.slice A6 (r.length + 1) c6], oth ++ [r ++ [-1]], Aq', uq', cq') ⟨by dsimp only; omega, by dsimp only; omega, hst9, by dsimp only; rw [List.length_append]; simp; omega, hsq', hzq', hcq'⟩ (by dsimp only; omega) (hE := ⟨rfl, rfl, by dsimp only; rw [List.length_append]; rfl, trivial⟩) (hG := ?_)
          dsimp only
          rw [List.length_append]
          exact (Hle.srt (K := [row 3 1 A6 c6 (r.length + 1) (r.map (Value.int .i64) ++ flatP [(0, .int .i64 (-1))]), dat hs9 (oth.map intsD), row 27 1 A8 c8 (oth.length + 1) (hs9 ++ flatP [(0, .slice A6 (r.length + 1) c6)]), blk pk [.slice Aq' uq'.length cq'] 51, fz p1, fz p, blk pc c.cells 23])).trans (out_hle (cl := r ++ [-1]) (by rw [List.map_append]; rfl))
        · have hkn : k < tt.n := by
            by_cases h9 : k < tt.n
            · exact h9
            · have h8 : i < cols.length ∧ k = tt.n := ⟨by omega, by omega⟩
              exfalso
              simp [h8.1, h8.2] at h5
          have hst9 := hO.step hcl hok.some_ (y := ⟨0, 1, _⟩) (by
            by_cases h9 : i < cols.length
            · rw [mvs_both (by rw [eG1]; exact h9) (by rw [eG2]; omega)]; exact .tail _ (.tail _ (.head _))
            · rw [mvs_snd (by rw [eG1]; exact h9) (by rw [eG2]; omega)]; exact .head _)
          have ecl : colM l.length cols i k ⟨0, 1, (grdA c l cols tt.l).h k⟩ = noneC l.length ++ [(k : Int)] := by unfold colM; rw [if_neg (show ¬ (0 : Nat) = 1 by omega), if_pos rfl]
          rw [ecl] at hst9
          have hnn : (noneC l.length).map (Value.int .i64) = List.replicate l.length (.int .i64 (-1)) := by unfold noneC; rw [List.map_replicate]
          have hnl : (noneC l.length).length = l.length := by unfold noneC; rw [List.length_replicate]
          repeat' (first | refine d1 ?_ | refine dd ?_ | (show T _ (.ops _ (_ :: _) :: _) _ _ _; refine T_callE rfl rfl rfl rfl rfl (fun w hw => repeatI_spec (-1) _ 1 l.length w (Src.own hw rfl) (by omega)) (fun bR _ => ?_)) | (show ∀ _ : Nat, T _ _ _ _ _; intro _))
          repeat' (first | refine d1 ?_ | refine dd ?_ | (show T _ (.ops _ (_ :: _) :: _) _ _ _; first | refine T_op (OpT.append (A := some ⟨bR, 0, none⟩) rfl rfl rfl rfl rfl rfl rfl rfl rfl rfl (fun w hw => Src.own hw rfl) rfl (by dsimp only; omega) (by omega) (fun A6 c6 hA6 => ?_)) | refine T_op (OpT.append (A := X9) rfl rfl rfl rfl rfl rfl rfl rfl rfl rfl (fun w hw => Src.own hw rfl) rfl (by dsimp only; omega) (by omega) (fun A8 c8 hA8 => ?_))) | (show ∀ _ : Nat, T _ _ _ _ _; intro _))
          refine T_backX ((i, k + 1), (A8, c8), hs9 ++ [.slice A6 (l.length + 1) c6], oth ++ [noneC l.length ++ [(k : Int)]], Aq', uq', cq') ⟨by dsimp only; omega, by dsimp only; omega, hst9, by dsimp only; rw [List.length_append]; simp; omega, hsq', hzq', hcq'⟩ (by dsimp only; omega) (hE := ⟨rfl, rfl, by dsimp only; rw [List.length_append]; rfl, trivial⟩) (hG := ?_)
          dsimp only
          rw [List.length_append]
          exact (Hle.srt (K := [row 3 1 A6 c6 (l.length + 1) (List.replicate l.length (.int .i64 (-1)) ++ flatP [(0, .int .i64 (k : Nat))]), dat hs9 (oth.map intsD), row 27 1 A8 c8 (oth.length + 1) (hs9 ++ flatP [(0, .slice A6 (l.length + 1) c6)]), blk pk [.slice Aq' uq'.length cq'] 51, fz p1, fz p, blk pc c.cells 23])).trans (out_hle (cl := noneC l.length ++ [(k : Int)]) (by rw [List.map_append, hnn]; rfl))
    · have h3' : ¬ (i < cols.length ∨ k < tt.n) := by simpa using h3
      obtain rfl : i = cols.length := by omega
      obtain rfl : k = tt.l.length := by omega
      obtain ⟨hokO, hcost⟩ := hfin oth hO
      have hckX : ck21 c (l ++ [tt]) = 0 := if_pos ⟨hc, hbsX⟩
      have hus : usV c (l ++ [tt]) = 0 := by unfold usV; rw [if_neg hL0, hckX]
      have e3 : costW c (l ++ [tt]) X = (totZ c (l ++ [tt]) X, 0) := by unfold costW; rw [if_neg (by simpa using hus), if_pos (okC_true hoX)]
      have e4 : costW c (l ++ [tt]) oth = (totZ c (l ++ [tt]) oth, 0) := by unfold costW; rw [if_neg (by simpa using hus), if_pos (okC_true hokO)]
      refine T_le (H' := [dat [.slice X9 oth.length Y9] [rowsD oth], fz p1, fz p, blk pc c.cells 23]) (dat_row.trans (Hle.drop2 _ _ _)) ?_
      refine T_open fun p3 hp3 => ?_
      repeat' (first | refine d1 ?_ | refine dd ?_ | (show T _ (.ops _ (_ :: _) :: _) _ _ _; refine T_callE rfl rfl rfl rfl rfl (fun w hw => cloneS_spec A l.length ca l w (rdSrc hs w hw) (by omega)) (fun xo _ => ?_)) | (show ∀ _ : Nat, T _ _ _ _ _; intro _))
      obtain ⟨Ad, cd⟩ := xo
      dsimp only
      repeat' (first | refine d1 ?_ | refine dd ?_ | (show T _ (.ops _ (_ :: _) :: _) _ _ _; refine T_op (OpT.append (A := Ad) rfl rfl rfl rfl rfl rfl rfl rfl rfl rfl (fun w hw => Src.own hw rfl) rfl (by dsimp only; omega) (by omega) (fun A2 c2 hA2 => ?_))) | (show ∀ _ : Nat, T _ _ _ _ _; intro _))
      rename_i b4
      refine T_le (H' := [row 40 1 A2 c2 (l.length + 1) ((l ++ [tt]).map TS.val), fz p3, fz p1, fz p, blk pc c.cells 23]) (by rw [happ]; exact Hle.tail _ _) ?_
      repeat' (first | refine d1 ?_ | refine dd ?_ | (show T _ (.ops _ (_ :: _) :: _) _ _ _; first | refine T_call rfl rfl rfl rfl rfl (fun w hw => costSum19_spec c A2 (l.length + 1) c2 (l ++ [tt]) x1 X w (hgt hw (srcRw w hw)) (hp1.own hw) (by omega)) ?_ | refine T_callC rfl rfl rfl rfl rfl rfl rfl (fun hg w hw => costSum19_spec c A2 (l.length + 1) c2 (l ++ [tt]) x1 X w (hgt hw (srcRw w hw)) (hp1.own hw) (by omega)) ?_ | refine T_call rfl rfl rfl rfl rfl (fun w hw => costSum19_spec c A2 (l.length + 1) c2 (l ++ [tt]) _ oth w (hgt hw (srcRw w hw)) (hp3.own hw) (by omega)) ?_ | refine T_callC rfl rfl rfl rfl rfl rfl rfl (fun hg w hw => costSum19_spec c A2 (l.length + 1) c2 (l ++ [tt]) _ oth w (hgt hw (srcRw w hw)) (hp3.own hw) (by omega)) ?_ | refine T_call rfl rfl rfl rfl rfl (fun w hw => awake21_spec w (hst.cls hw)) ?_ | refine T_callC rfl rfl rfl rfl rfl rfl rfl (fun hg w hw => awake21_spec w (hst.cls hw)) ?_) | (show T _ (.run _ _ (_ :: _) _ _ :: _) _ _ _; first | refine rc rfl rfl rfl rfl rfl rfl rfl (fun w hw => costSum19_spec c A2 (l.length + 1) c2 (l ++ [tt]) x1 X w (hgt hw (srcRw w hw)) (hp1.own hw) (by omega)) ?_ | refine rcG rfl rfl rfl rfl rfl rfl rfl rfl rfl (fun hg w hw => costSum19_spec c A2 (l.length + 1) c2 (l ++ [tt]) x1 X w (hgt hw (srcRw w hw)) (hp1.own hw) (by omega)) ?_ | refine rc rfl rfl rfl rfl rfl rfl rfl (fun w hw => costSum19_spec c A2 (l.length + 1) c2 (l ++ [tt]) _ oth w (hgt hw (srcRw w hw)) (hp3.own hw) (by omega)) ?_ | refine rcG rfl rfl rfl rfl rfl rfl rfl rfl rfl (fun hg w hw => costSum19_spec c A2 (l.length + 1) c2 (l ++ [tt]) _ oth w (hgt hw (srcRw w hw)) (hp3.own hw) (by omega)) ?_ | refine rc rfl rfl rfl rfl rfl rfl rfl (fun w hw => awake21_spec w (hst.cls hw)) ?_ | refine rcG rfl rfl rfl rfl rfl rfl rfl rfl rfl (fun hg w hw => awake21_spec w (hst.cls hw)) ?_) | (show ∀ _ : Nat, T _ _ _ _ _; intro _) | (show T _ (.code .ret :: _) _ _ _; refine T_retV [] rfl (Hle.none _) ⟨congrArg Value.bool ?_, rfl⟩))
      rw [e3, e4]
      simp [hcost]
section
variable {H : Type} {enc : TypeId × Value → H} {W : World} {base b0 : Nat} {sp : Nat → Bool} {held : Bool} {r : Reach} {v : Value} {d : DataW H} {ps : List MemPlace}
theorem arg_toksF (hv : Value.okWide Tryz.prog W r b0 40 v) (h : DataW.Trod enc Tryz.prog W base sp held 40 v d ps) : ∃ A cap, ∃ l : List Tok, v = .slice A l.length cap ∧ l.length ≤ 9223372036854775807 ∧ Src W 6 A l.length (l.flatMap Tok.cells) := by
  obtain ⟨fuel, hf⟩ := h
  obtain ⟨ds, h1, h2⟩ := trod_wt (S := sg) 9 rfl hf
  obtain ⟨l, n, rfl, hl, _, hi⟩ := (show ∃ l n, ds = [.s 6 l] ∧ l.length = n * 6 ∧ n ≤ maxLen ∧ ∀ i, i < n → wt sg 8 80 ((l.drop (i * 6)).take 6) from h2)
  obtain ⟨ts, e1, e2⟩ := chunks Tok.cells 6 n l hl fun i hin => tok_wt (hi i hin)
  subst e2
  have hc : v.cells.toList = [v] := by
    cases v <;> first | rfl | (exfalso; unfold Value.okWide at hv; simp [Tryz.underlying40] at hv; unfold Cell.okWide at hv; simp [Tryz.underlying40] at hv; unfold Cell.ok at hv; simp [Tryz.underlying40] at hv)
  rw [hc] at h1
  obtain ⟨A, m, cap, rfl, h3, h4, h5, h6⟩ := h1.srcV
  have em : m = ts.length := by rw [List.length_map] at hl; omega
  subst em
  exact ⟨A, cap, ts, rfl, by omega, h6⟩
end
theorem adds_met (os : Os) (args : Array Value) : laidMetH Tryz.prog Rows.progressiveAddsRow.laid ((World.doorLaid Tryz.prog 400 os).forCall (fun _ _ => 0) ⟨#[], args, []⟩).memory :=
  io_met os args
theorem adds_lifted (os : Os) (started : os.Started) (H : Type) (enc : TypeId × Value → H) :
    ReturnsInHanded {} Tryz.checked os 7 .any (fun w args => (Rows.progressiveAddsSpec.pre enc Tryz.prog Tryz.f7 [] false w args ∧ laidMetH Tryz.prog Rows.progressiveAddsRow.laid w) ∧ sizedMet enc Tryz.prog Tryz.f7 (OpenSpec.ofChange Rows.progressiveAddsSpec) false w args)
      (Rows.progressiveAddsSpec.post enc Tryz.prog Tryz.f7 false true false false) := by
  refine returnsInHanded_of_change_and (C := Tryz.checked) (X := fun w _ => laidMetH Tryz.prog Rows.progressiveAddsRow.laid w) (fun _ _ _ hh h => h.of_heap hh) knob started (by as_aux_lemma => kernel_rfl) Tryz.func7
    (ChangeSpec.witness_shaped (enc := enc) (C := Tryz.checked) (os := os) (X := fun w _ => laidMetH Tryz.prog Rows.progressiveAddsRow.laid w) false (World.doorLaid Tryz.prog 400 os) #[(⟨0, 0, 0, 0⟩ : Costs).val, .slice none 0 0, .slice none 0 0, .slice none 0 0] 8 rfl (World.shaped_of_RefB (by as_aux_lemma => kernel_rfl) (by as_aux_lemma => kernel_rfl)) (by as_aux_lemma => kernel_rfl) (by as_aux_lemma => kernel_rfl) (by as_aux_lemma => kernel_rfl) (adds_met os _)) ?_
  intro W base args ds gs before hval0 hW _ _ hL _
  have hval : ∀ (j : Nat) t v, Tryz.f7.params[j]? = some t → args[j]? = some v → Value.okWide Tryz.prog W .any base t v := hval0
  have hstd := std_of (show laidMetH Tryz.prog laids W from hL)
  have hW' := hW
  obtain ⟨p, q, hA0, hV, rfl, hfz, hnd⟩ := hW
  have hA : DataW.TrodAll enc Tryz.prog W 0 (fun _ => true) true Tryz.f7.params.toList args.toList ds p := hA0
  obtain ⟨v0, vs0, d0, ds0, p0, q0, e0, rfl, rfl, h0, hA⟩ := trodAll_cons hA
  obtain ⟨v1, vs1, d1, ds1, p1, q1, rfl, rfl, rfl, h1, hA⟩ := trodAll_cons hA
  obtain ⟨v2, vs2, d2, ds2, p2, q2, rfl, rfl, rfl, h2, hA⟩ := trodAll_cons hA
  obtain ⟨v3, vs3, d3, ds3, p3, q3, rfl, rfl, rfl, h3, hA⟩ := trodAll_cons hA
  obtain ⟨rfl, rfl, rfl⟩ := trodAll_nil hA
  have ea : args = #[v0, v1, v2, v3] := Array.ext' e0
  subst ea
  obtain ⟨c, rfl⟩ := arg_costs (hval 0 _ v0 rfl rfl) h0
  obtain ⟨l, hr_l⟩ := arg_toksL (hval 1 _ v1 rfl rfl) h1
  obtain ⟨A_t, cap_t, t, rfl, hb_t, hs_t⟩ := arg_toksF (hval 2 _ v2 rfl rfl) h2
  obtain ⟨A_picks, cap_picks, picks, rfl, hb_picks, hs_picks, hz_picks, hc_picks⟩ := arg_u8sC (hval 3 _ v3 rfl rfl) h3
  refine (addsLaw_spec c v1 l ⟨A_t, t.length, cap_t, t⟩ A_picks cap_picks picks W hstd hr_l hs_t rfl hb_t hs_picks hb_picks hz_picks hc_picks).calls.mono ?_
  rintro e W' ⟨v, A, rfl, ⟨rfl, _⟩, hb, _⟩
  exact ⟨_, rfl, law_post hW' rfl rfl laidOk (by intro t ht; simp only [show Tryz.f7.params.toList = [23, 24, 40, 51] from rfl, List.mem_cons, List.mem_nil_iff, or_false] at ht; rcases ht with rfl | rfl | rfl | rfl <;> exact ⟨by as_aux_lemma => kernel_rfl, of_decide_eq_true (by as_aux_lemma => kernel_rfl)⟩) rfl Tryz.underlying4 hb⟩
theorem adds_j0 : Tryz.prog.inPlace 7 = Rows.progressiveAddsRow.inPlace := by as_aux_lemma => kernel_rfl
theorem adds_j1 : Tryz.prog.unfollowed 7 = Rows.progressiveAddsRow.unfollowed := by as_aux_lemma => kernel_rfl
theorem adds_j2 : Tryz.prog.recurses 7 = Rows.progressiveAddsRow.recurses := by as_aux_lemma => kernel_rfl
theorem adds_j3 : Tryz.prog.varsNamed 7 = Rows.progressiveAddsRow.named := by as_aux_lemma => kernel_rfl
theorem adds_joined : joinedFacts Tryz.prog 7 Tryz.f7 Rows.progressiveAddsSpec Rows.progressiveAddsRow = true := by
  unfold joinedFacts
  rw [adds_j0, adds_j1, adds_j2, adds_j3, io_enter, io_lifts, io_make]
  kernel_rfl
theorem adds_holds : Rows.ProgressiveAddsSaid :=
  OpenClaim.holds_of_wide 7 Tryz.f7 rfl rfl rfl rfl rfl rfl rfl ⟨rfl, rfl, rfl, rfl, rfl⟩ rfl rfl rfl rfl rfl (by as_aux_lemma => kernel_rfl) Tryz.func7 adds_joined
    (of_decide_eq_true (by as_aux_lemma => kernel_rfl)) (by unfold Func.isWrapper; first | (rw [if_pos (by decide +kernel)]; kernel_rfl) | (rw [if_neg (by decide +kernel)]; exact ⟨rfl, rfl⟩))
    (fun os started H enc _ => adds_lifted os started H enc)
theorem adds_card : Rows.ProgressiveAddsCardSaid :=
  Claim7.holds_tied_plain_at .later [] [.data, .data, .data, .sentinel, .sentinel] true (true, "8da3727bd41b5459b46e191c9a7204ac1b54c7258f68ddd1a33546be5efdd15c") true
    adds_holds (fun _ h => by cases h) (by as_aux_lemma => kernel_rfl) (fun _ h => by cases h) progressiveAdds_row_tie rfl ⟨rfl, rfl⟩ io_main rfl
    (fun f fn hf hfn => by
      obtain rfl : f = 7 := Option.some.inj ((show Tryz.prog.funcNamed "apograph/apographlaw21.ProgressiveAdds" = some 7 by as_aux_lemma => kernel_rfl).symm.trans hf) |>.symm
      obtain rfl : fn = Tryz.f7 := (Option.some.inj (Tryz.func7.symm.trans hfn)).symm
      exact ⟨by as_aux_lemma => kernel_rfl, fun j t ht => by
        have ht' : [23, 24, 40, 51][j]? = some t := by rw [Tryz.params7] at ht; simpa using ht
        have hm := List.mem_of_getElem? ht'
        simp only [List.mem_cons, List.mem_nil_iff, or_false] at hm
        rcases hm with rfl | rfl | rfl | rfl <;> exact (show Tryz.prog.wantsStandIn _ = false by as_aux_lemma => kernel_rfl)⟩)
    (by as_aux_lemma => kernel_rfl)
#print axioms adds_card
end Go.Proofs.YtofikdpbagnjbaaGreatDoor
