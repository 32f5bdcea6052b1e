/- Joined texts of this claim, part 5. -/
import Derived.Test.YthadgaboakipoaaGreatDoorR4
set_option linter.unusedSectionVars false
set_option linter.unusedVariables false
set_option linter.unusedSimpArgs false
namespace Go.Proofs.YthadgaboakipoaaGreatDoor
open Go.RowKit Go.Shelf Go.Proofs
set_option maxRecDepth 100000
set_option maxHeartbeats 1000000

def great20B (l:List TS):Bool:=great19B l 5 6 || wideB l 300
theorem great20_spec (A:Option Addr) (n ca:Nat) (l:List TS) (w:World) (hs:Src w 1 A n (l.map TS.val)) (hn:l.length=n) (hb:n≤9223372036854775807) (hl:TsOk w l) :
  Spec Tryz.prog 14 [.slice A n ca] w (fun v R=>v = .bool (great20B l)∧R=[]):=by
 refine spec_of sg Tryz.func14 rfl rfl rfl ?_
 unfold great20B
 cases hgr:great19B l 5 6 with
 | true =>
  repeat' (first|refine d1 ?_|refine dd ?_|(show T _ (.ops _ (_::_)::_) _ _ _;first|refine T_call rfl rfl rfl rfl rfl (fun w hw=>great19_spec A n ca l 5 6 w (rdSrc hs w hw) hn hb ⟨fun t ht=>src_below (hl.src t ht) hw.below,hl.len,hl.bd⟩ (by omega) (by omega)) ?_|refine T_callC rfl rfl rfl rfl rfl rfl rfl (fun hg w hw=>great19_spec A n ca l 5 6 w (rdSrc hs w hw) hn hb ⟨fun t ht=>src_below (hl.src t ht) hw.below,hl.len,hl.bd⟩ (by omega) (by omega)) ?_)|(show T _ (.run _ _ (_::_) _ _::_) _ _ _;first|refine rc rfl rfl rfl rfl rfl rfl rfl (fun w hw=>great19_spec A n ca l 5 6 w (rdSrc hs w hw) hn hb ⟨fun t ht=>src_below (hl.src t ht) hw.below,hl.len,hl.bd⟩ (by omega) (by omega)) ?_|refine rcG rfl rfl rfl rfl rfl rfl rfl rfl rfl (fun hg w hw=>great19_spec A n ca l 5 6 w (rdSrc hs w hw) hn hb ⟨fun t ht=>src_below (hl.src t ht) hw.below,hl.len,hl.bd⟩ (by omega) (by omega)) ?_)|(show ∀ _:Nat,T _ _ _ _ _;intro _))
  rw [hgr]
  repeat' (first|refine d1 ?_|refine dd ?_|(show T _ (.ops _ (_::_)::_) _ _ _;refine T_op (OpT.never (.bool false) rfl (fun hg9=>by have h10:(true:Bool)=false:=hg9.1;cases h10) rfl rfl rfl rfl rfl ?_))|(show ∀ _:Nat,T _ _ _ _ _;intro _))
  repeat' (first|refine d1 ?_|refine dd ?_|(show ∀ _:Nat,T _ _ _ _ _;intro _)|(show T _ (.code .ret::_) _ _ _;refine T_retV [] rfl (Hle.none _) ⟨rfl,rfl⟩))
 | false =>
  obtain⟨g1,g2,g3⟩:=great19_no hl hgr
  repeat' (first|refine d1 ?_|refine dd ?_|(show T _ (.ops _ (_::_)::_) _ _ _;first|refine T_call rfl rfl rfl rfl rfl (fun w hw=>great19_spec A n ca l 5 6 w (rdSrc hs w hw) hn hb ⟨fun t ht=>src_below (hl.src t ht) hw.below,hl.len,hl.bd⟩ (by omega) (by omega)) ?_|refine T_callC rfl rfl rfl rfl rfl rfl rfl (fun hg w hw=>great19_spec A n ca l 5 6 w (rdSrc hs w hw) hn hb ⟨fun t ht=>src_below (hl.src t ht) hw.below,hl.len,hl.bd⟩ (by omega) (by omega)) ?_)|(show T _ (.run _ _ (_::_) _ _::_) _ _ _;first|refine rc rfl rfl rfl rfl rfl rfl rfl (fun w hw=>great19_spec A n ca l 5 6 w (rdSrc hs w hw) hn hb ⟨fun t ht=>src_below (hl.src t ht) hw.below,hl.len,hl.bd⟩ (by omega) (by omega)) ?_|refine rcG rfl rfl rfl rfl rfl rfl rfl rfl rfl (fun hg w hw=>great19_spec A n ca l 5 6 w (rdSrc hs w hw) hn hb ⟨fun t ht=>src_below (hl.src t ht) hw.below,hl.len,hl.bd⟩ (by omega) (by omega)) ?_)|(show ∀ _:Nat,T _ _ _ _ _;intro _))
  rw [hgr]
  repeat' (first|refine d1 ?_|refine dd ?_|(show T _ (.ops _ (_::_)::_) _ _ _;first|refine T_call rfl rfl rfl rfl rfl (fun w hw=>wide19_spec A n ca l 300 w (rdSrc hs w hw) hn (by omega) (fun t ht=>by have:=g2 t ht;omega) (by omega)) ?_|refine T_callC rfl rfl rfl rfl rfl rfl rfl (fun hg w hw=>wide19_spec A n ca l 300 w (rdSrc hs w hw) hn (by omega) (fun t ht=>by have:=g2 t ht;omega) (by omega)) ?_)|(show T _ (.run _ _ (_::_) _ _::_) _ _ _;first|refine rc rfl rfl rfl rfl rfl rfl rfl (fun w hw=>wide19_spec A n ca l 300 w (rdSrc hs w hw) hn (by omega) (fun t ht=>by have:=g2 t ht;omega) (by omega)) ?_|refine rcG rfl rfl rfl rfl rfl rfl rfl rfl rfl (fun hg w hw=>wide19_spec A n ca l 300 w (rdSrc hs w hw) hn (by omega) (fun t ht=>by have:=g2 t ht;omega) (by omega)) ?_)|(show ∀ _:Nat,T _ _ _ _ _;intro _)|(show T _ (.code .ret::_) _ _ _;refine T_retV [] rfl (Hle.none _) ⟨rfl,rfl⟩))
theorem fit_of {w:World} {A:Option Addr} {n:Nat} {l:List TS} (hst:Std w) (hs:Src w 1 A n (l.map TS.val)) (hn:l.length=n) (hl:TsOk w l) (h:great20B l=false):Fit w A n l :=
 ⟨hst,hs,hn,hl,(Bool.or_eq_false_iff.1 h).1⟩
def sD20:ByteArray:=⟨#[100,101,117,115]⟩
def sE20:ByteArray:=⟨#[101,115,116]⟩
def awC20:Costs:=⟨4,1,2,6⟩
def awS20 (x1 x2:Option Addr × Nat):List TS:=[⟨x1.1,2,x1.2,[tokS sD20,tokS sE20]⟩,⟨x2.1,1,x2.2,[tokS sD20]⟩]
def aw20:List TS:=awS20 (none,2) (none,1)
theorem aw20U0:ck21 awC20 aw20=0:=by decide +kernel
theorem aw20P0:potL (colZ awC20 aw20) (lens aw20) (mvL 2)=[4,8,6,4,4,0]:=by decide +kernel
theorem aw20A0:alnW awC20 aw20=[[0,0],[1,-1]]:=by decide +kernel
theorem aw20G0:great20B aw20=false:=by decide +kernel
section
variable (x1 x2:Option Addr × Nat)
theorem aw20Pl:plE (awS20 x1 x2)=0:=by
 unfold plE
 rw [if_neg (by show ¬ (2=0);omega),if_neg ?_,if_neg (by show ¬ (4<2∨65536<6);omega)]
 rintro⟨-,h|⟨t,ht,h⟩⟩
 ·have h':32<2:=h
  omega
 ·rcases List.mem_cons.1 ht with rfl|ht
  ·have h':1024<2:=h
   omega
  ·rcases List.mem_cons.1 ht with rfl|ht
   ·have h':1024<1:=h
    omega
   ·cases ht
theorem aw20U:Use20 awC20 (awS20 x1 x2):=by
 have hck:ck21 awC20 (awS20 x1 x2)=0:=aw20U0
 obtain⟨hc,hbs⟩:=ck21_ok hck
 obtain⟨h1,hb,h4,hv⟩:=plE_ok (aw20Pl x1 x2)
 exact⟨by rw [opE_pl hck,aw20Pl],h1,h4,hv,hc,hbs,List.forall_mem_cons.2 ⟨Nat.le_of_ble_eq_true rfl,List.forall_mem_cons.2 ⟨Nat.le_of_ble_eq_true rfl,fun t h=>by cases h⟩⟩,List.forall_mem_cons.2 ⟨rfl,List.forall_mem_cons.2 ⟨rfl,fun t h=>by cases h⟩⟩⟩
theorem aw20P:potL (colZ awC20 (awS20 x1 x2)) (lens (awS20 x1 x2)) (mvL (awS20 x1 x2).length)=[4,8,6,4,4,0]:=aw20P0
theorem aw20A:alnW awC20 (awS20 x1 x2)=[[0,0],[1,-1]]:=aw20A0
theorem fit20_aw {w:World} (hst:Std w) {b:Nat} (h0:Src w 1 (some ⟨b,0,none⟩) 2 ((awS20 x1 x2).map TS.val)) (h1:Src w 6 x1.1 2 ([tokS sD20,tokS sE20].flatMap Tok.cells)) (h2:Src w 6 x2.1 1 ([tokS sD20].flatMap Tok.cells)):Fit w (some ⟨b,0,none⟩) 2 (awS20 x1 x2) :=
 fit_of hst h0 rfl ⟨List.forall_mem_cons.2 ⟨h1,List.forall_mem_cons.2 ⟨h2,fun t h=>by cases h⟩⟩,List.forall_mem_cons.2 ⟨rfl,List.forall_mem_cons.2 ⟨rfl,fun t h=>by cases h⟩⟩,List.forall_mem_cons.2 ⟨Nat.le_of_ble_eq_true rfl,List.forall_mem_cons.2 ⟨Nat.le_of_ble_eq_true rfl,fun t h=>by cases h⟩⟩⟩ aw20G0
variable (b ca:Nat) (w:World) (hf:Fit w (some ⟨b,0,none⟩) 2 (awS20 x1 x2))
include hf
theorem pot20_aw:Spec Tryz.prog 16 [awC20.val, .slice (some ⟨b,0,none⟩) 2 ca] w (fun v R=>∃ x:Value,True∧v = .tuple #[x, .int .i64 0]∧R=[dat [x] [intsD [4,8,6,4,4,0]]]):=by
 have h:=potentials20_spec awC20 _ 2 ca (awS20 x1 x2) w hf
 rw [(aw20U x1 x2).pot,aw20P x1 x2] at h
 exact h
theorem prs20_aw:Spec Tryz.prog 18 [awC20.val, .slice (some ⟨b,0,none⟩) 2 ca] w (fun v R=>∃ x:Value,True∧v = .tuple #[x, .int .i64 0]∧R=[dat [x] [intsD [4,8,6,4,4,0]]]):=by
 have h:=pairs20_spec awC20 _ 2 ca (awS20 x1 x2) w hf
 rw [(aw20U x1 x2).prs,(aw20U x1 x2).two rfl,aw20P x1 x2] at h
 exact h
theorem tgt20_aw (Ap:Option Addr) (cp:Nat) (hp:Src w 1 Ap 6 (([4,8,6,4,4,0]:List Int).map (Value.int .i64))):Spec Tryz.prog 26 [awC20.val, .slice (some ⟨b,0,none⟩) 2 ca, .slice Ap 6 cp] w (fun v R=>∃ x:Value,True∧v = .tuple #[x, .int .i64 0]∧R=[dat [x] [rowsD [[0,0],[1,-1]]]]):=by
 have h:=tight20_spec awC20 _ 2 ca (awS20 x1 x2) Ap 6 cp [4,8,6,4,4,0] w hf hp rfl (by omega)
 have e:tgtV awC20 (awS20 x1 x2) [4,8,6,4,4,0]=([[0,0],[1,-1]],0):=by
  have h9:=(aw20U x1 x2).tgtPot
  rw [aw20P x1 x2,aw20A x1 x2] at h9
  exact h9
 rw [e] at h
 exact h
theorem plc20_aw (At:Option Addr) (ct:Nat) (hs:Src w 1 At 2 (([1,0]:List Int).map (Value.int .i64))):Spec Tryz.prog 20 [.slice (some ⟨b,0,none⟩) 2 ca, .slice At 2 ct] w (fun v R=>v = .tuple #[.int .i64 2, .int .i64 0]∧R=[]):=by
 have h:=place20_spec (some ⟨b,0,none⟩) 2 ca (awS20 x1 x2) At 2 ct [1,0] w hf hs rfl (by omega)
 have e:plcV (awS20 x1 x2) [1,0]=(2,0):=by
  unfold plcV
  rw [if_neg fun h9=>h9 (aw20Pl x1 x2),if_neg fun h9=>h9 rfl,if_neg (show ¬ ((List.range (awS20 x1 x2).length).any (rngB (awS20 x1 x2) [1,0])=true) from (by decide +kernel:¬ ((List.range 2).any (rngB aw20 [1,0])=true)))]
  rfl
 rw [e] at h
 exact h
end
theorem costs20_spec (w:World):Spec Tryz.prog 53 [] w (fun v R=>v=awC20.val∧R=[]):=by
 refine spec_of sg Tryz.func53 rfl rfl rfl ?_
 repeat' (first|refine d1 ?_|refine dd ?_|(show ∀ _:Nat,T _ _ _ _ _;intro _))
 rename_i b
 exact T_retM (vs:=[awC20.val]) [] ⟨⟨b,_,awC20.cells,rfl,rfl,rfl,rfl,(fun h=>by cases h),rfl,rdAll⟩,trivial⟩ (Hle.none _) ⟨rfl,rfl⟩
theorem two20_spec (w:World):Spec Tryz.prog 54 [] w (fun v R=>∃ g:Nat × Nat × Nat,True∧v = .slice (some ⟨g.1,0,none⟩) 2 2∧R=[blk g.1 ((awS20 (some ⟨g.2.1,0,none⟩,2) (some ⟨g.2.2,0,none⟩,1)).map TS.val) 37,blk g.2.1 ([tokS sD20,tokS sE20].flatMap Tok.cells) 62,blk g.2.2 ([tokS sD20].flatMap Tok.cells) 62]):=by
 refine spec_of sg Tryz.func54 rfl rfl rfl ?_
 repeat' (first|refine d1 ?_|refine dd ?_|(show ∀ _:Nat,T _ _ _ _ _;intro _))
 rename_i b1 b2 b7 b9 b10
 refine T_le (H':=[blk b10 ((awS20 (some ⟨b7,0,none⟩,2) (some ⟨b9,0,none⟩,1)).map TS.val) 37,blk b9 ([tokS sD20].flatMap Tok.cells) 62,blk b7 ([tokS sD20,tokS sE20].flatMap Tok.cells) 62,blk b2 (tokS sE20).cells 62,blk b1 (tokS sD20).cells 62]) (Hle.refl _) ?_
 exact T_retV [blk b10 ((awS20 (some ⟨b7,0,none⟩,2) (some ⟨b9,0,none⟩,1)).map TS.val) 37,blk b7 ([tokS sD20,tokS sE20].flatMap Tok.cells) 62,blk b9 ([tokS sD20].flatMap Tok.cells) 62] rfl Hle.srt ⟨(b10,b7,b9),trivial,rfl,rfl⟩
theorem awake20_spec (w:World) (hst:Std w):Spec Tryz.prog 15 [] w (fun v R=>v = .bool true∧R=[]):=by
 refine spec_of sg Tryz.func15 rfl rfl rfl ?_
 repeat' (first|refine d1 ?_|refine dd ?_|(show T _ (.ops _ (_::_)::_) _ _ _;first|refine T_call rfl rfl rfl rfl rfl (fun w hw=>costs20_spec w) ?_|refine T_callC rfl rfl rfl rfl rfl rfl rfl (fun hg w hw=>costs20_spec w) ?_|refine T_op (OpT.call rfl rfl rfl rfl rfl (fun w hw=>two20_spec w) ?_))|(show T _ (.run _ _ (_::_) _ _::_) _ _ _;first|refine rc rfl rfl rfl rfl rfl rfl rfl (fun w hw=>costs20_spec w) ?_|refine rcG rfl rfl rfl rfl rfl rfl rfl rfl rfl (fun hg w hw=>costs20_spec w) ?_)|(show ∀ _:Nat,T _ _ _ _ _;intro _))
 rintro v R ⟨⟨g,g1,g2⟩,-,rfl,rfl⟩
 dsimp only
 refine T_le (H':=[blk g ((awS20 (some ⟨g1,0,none⟩,2) (some ⟨g2,0,none⟩,1)).map TS.val) 37,blk g1 ([tokS sD20,tokS sE20].flatMap Tok.cells) 62,blk g2 ([tokS sD20].flatMap Tok.cells) 62]) (Hle.refl _) ?_
 refine T_op (OpT.call rfl rfl rfl rfl rfl (fun w hw=>pot20_aw (some ⟨g1,0,none⟩,2) (some ⟨g2,0,none⟩,1) g 2 w (fit20_aw _ _ (hst.cls hw) (Src.own hw rfl) (Src.own hw rfl) (Src.own hw rfl))) ?_)
 rintro v R ⟨xp,-,rfl,rfl⟩
 refine T_le (H':=[dat [xp] [intsD [4,8,6,4,4,0]]]) (Hle.nth 0 rfl) ?_
 refine T_open fun pp hpp=>?_
 repeat' (first|refine d1 ?_|refine dd ?_|(show T _ (.ops _ (_::_)::_) _ _ _;first|refine T_call rfl rfl rfl rfl rfl (fun w hw=>costs20_spec w) ?_|refine T_callC rfl rfl rfl rfl rfl rfl rfl (fun hg w hw=>costs20_spec w) ?_|refine T_op (OpT.call rfl rfl rfl rfl rfl (fun w hw=>two20_spec w) ?_))|(show T _ (.run _ _ (_::_) _ _::_) _ _ _;first|refine rc rfl rfl rfl rfl rfl rfl rfl (fun w hw=>costs20_spec w) ?_|refine rcG rfl rfl rfl rfl rfl rfl rfl rfl rfl (fun hg w hw=>costs20_spec w) ?_)|(show ∀ _:Nat,T _ _ _ _ _;intro _))
 rintro v R ⟨⟨g,g1,g2⟩,-,rfl,rfl⟩
 dsimp only
 refine T_le (H':=[blk g ((awS20 (some ⟨g1,0,none⟩,2) (some ⟨g2,0,none⟩,1)).map TS.val) 37,blk g1 ([tokS sD20,tokS sE20].flatMap Tok.cells) 62,blk g2 ([tokS sD20].flatMap Tok.cells) 62,fz pp]) (Hle.refl _) ?_
 refine T_op (OpT.call rfl rfl rfl rfl rfl (fun w hw=>prs20_aw (some ⟨g1,0,none⟩,2) (some ⟨g2,0,none⟩,1) g 2 w (fit20_aw _ _ (hst.cls hw) (Src.own hw rfl) (Src.own hw rfl) (Src.own hw rfl))) ?_)
 rintro v R ⟨xq,-,rfl,rfl⟩
 refine T_le (H':=[dat [xq] [intsD [4,8,6,4,4,0]],blk g ((awS20 (some ⟨g1,0,none⟩,2) (some ⟨g2,0,none⟩,1)).map TS.val) 37,blk g1 ([tokS sD20,tokS sE20].flatMap Tok.cells) 62,blk g2 ([tokS sD20].flatMap Tok.cells) 62,fz pp]) (Hle.refl _) ?_
 refine T_le (H':=[dat [xq] [intsD [4,8,6,4,4,0]],fz pp]) Hle.srt ?_
 refine T_open fun pq hqq=>?_
 repeat' (first|refine d1 ?_|refine dd ?_|(show T _ (.ops _ (_::_)::_) _ _ _;first|refine T_call rfl rfl rfl rfl rfl (fun w hw=>costs20_spec w) ?_|refine T_callC rfl rfl rfl rfl rfl rfl rfl (fun hg w hw=>costs20_spec w) ?_|refine T_op (OpT.call rfl rfl rfl rfl rfl (fun w hw=>two20_spec w) ?_))|(show T _ (.run _ _ (_::_) _ _::_) _ _ _;first|refine rc rfl rfl rfl rfl rfl rfl rfl (fun w hw=>costs20_spec w) ?_|refine rcG rfl rfl rfl rfl rfl rfl rfl rfl rfl (fun hg w hw=>costs20_spec w) ?_)|(show ∀ _:Nat,T _ _ _ _ _;intro _))
 rintro v R ⟨⟨g,g1,g2⟩,-,rfl,rfl⟩
 dsimp only
 refine T_le (H':=[blk g ((awS20 (some ⟨g1,0,none⟩,2) (some ⟨g2,0,none⟩,1)).map TS.val) 37,blk g1 ([tokS sD20,tokS sE20].flatMap Tok.cells) 62,blk g2 ([tokS sD20].flatMap Tok.cells) 62,fz pq,fz pp]) (Hle.refl _) ?_
 repeat' (first|refine d1 ?_|refine dd ?_|(show T _ (.ops _ (_::_)::_) _ _ _;first|refine T_op (OpT.litW rfl rfl rfl rfl rfl rfl rfl rfl rfl rfl rfl (fun b4=>?_))|refine T_op (OpT.call rfl rfl rfl rfl rfl (fun w hw=>tgt20_aw (some ⟨g1,0,none⟩,2) (some ⟨g2,0,none⟩,1) g 2 w (fit20_aw _ _ (hst.cls hw) (Src.own hw rfl) (Src.own hw rfl) (Src.own hw rfl)) (some ⟨_,0,none⟩) 6 (Src.own hw rfl)) ?_))|(show ∀ _:Nat,T _ _ _ _ _;intro _))
 rintro v R ⟨xc,-,rfl,rfl⟩
 rename_i b4
 refine T_le (H':=[dat [xc] [rowsD [[0,0],[1,-1]]],blk b4 (([4,8,6,4,4,0]:List Int).map (Value.int .i64)) 3,blk g ((awS20 (some ⟨g1,0,none⟩,2) (some ⟨g2,0,none⟩,1)).map TS.val) 37,blk g1 ([tokS sD20,tokS sE20].flatMap Tok.cells) 62,blk g2 ([tokS sD20].flatMap Tok.cells) 62,fz pq,fz pp]) (Hle.refl _) ?_
 refine T_le (H':=[dat [xc] [rowsD [[0,0],[1,-1]]],fz pq,fz pp]) Hle.srt ?_
 refine T_open fun pk hkk=>?_
 repeat' (first|refine d1 ?_|refine dd ?_|(show T _ (.ops _ (_::_)::_) _ _ _;refine T_op (OpT.call rfl rfl rfl rfl rfl (fun w hw=>two20_spec w) ?_))|(show ∀ _:Nat,T _ _ _ _ _;intro _))
 rintro v R ⟨⟨g,g1,g2⟩,-,rfl,rfl⟩
 dsimp only
 refine T_le (H':=[blk g ((awS20 (some ⟨g1,0,none⟩,2) (some ⟨g2,0,none⟩,1)).map TS.val) 37,blk g1 ([tokS sD20,tokS sE20].flatMap Tok.cells) 62,blk g2 ([tokS sD20].flatMap Tok.cells) 62,fz pk,fz pq,fz pp]) (Hle.refl _) ?_
 repeat' (first|refine d1 ?_|refine dd ?_|(show T _ (.ops _ (_::_)::_) _ _ _;first|refine T_op (OpT.litW rfl rfl rfl rfl rfl rfl rfl rfl rfl rfl rfl (fun b5=>?_))|refine T_call rfl rfl rfl rfl rfl (fun w hw=>plc20_aw (some ⟨g1,0,none⟩,2) (some ⟨g2,0,none⟩,1) g 2 w (fit20_aw _ _ (hst.cls hw) (Src.own hw rfl) (Src.own hw rfl) (Src.own hw rfl)) (some ⟨_,0,none⟩) 2 (Src.own hw rfl)) ?_|refine T_callC rfl rfl rfl rfl rfl rfl rfl (fun hg w hw=>plc20_aw (some ⟨g1,0,none⟩,2) (some ⟨g2,0,none⟩,1) g 2 w (fit20_aw _ _ (hst.cls hw) (Src.own hw rfl) (Src.own hw rfl) (Src.own hw rfl)) (some ⟨_,0,none⟩) 2 (Src.own hw rfl)) ?_|refine T_op (OpT.sure (p:=true) rfl rfl rfl (OpT.litW rfl rfl rfl rfl rfl rfl rfl rfl rfl rfl rfl (fun _=>?_)))|refine T_call rfl rfl rfl rfl rfl (fun w hw=>equalI_spec xp _ [4,8,6,4,4,0] [4,8,6,4,4,0] w (hpp.own hw) (rd_ints (n:=6) (r:=[4,8,6,4,4,0]) (Src.own hw rfl) (by omega))) ?_|refine T_callC rfl rfl rfl rfl rfl rfl rfl (fun hg w hw=>equalI_spec xp _ [4,8,6,4,4,0] [4,8,6,4,4,0] w (hpp.own hw) (rd_ints (n:=6) (r:=[4,8,6,4,4,0]) (Src.own hw rfl) (by omega))) ?_|refine T_call rfl rfl rfl rfl rfl (fun w hw=>equalI_spec xq xp [4,8,6,4,4,0] [4,8,6,4,4,0] w (hqq.own hw) (hpp.own hw)) ?_|refine T_callC rfl rfl rfl rfl rfl rfl rfl (fun hg w hw=>equalI_spec xq xp [4,8,6,4,4,0] [4,8,6,4,4,0] w (hqq.own hw) (hpp.own hw)) ?_)|(show T _ (.run _ _ (_::_) _ _::_) _ _ _;first|refine rc rfl rfl rfl rfl rfl rfl rfl (fun w hw=>plc20_aw (some ⟨g1,0,none⟩,2) (some ⟨g2,0,none⟩,1) g 2 w (fit20_aw _ _ (hst.cls hw) (Src.own hw rfl) (Src.own hw rfl) (Src.own hw rfl)) (some ⟨_,0,none⟩) 2 (Src.own hw rfl)) ?_|refine rcG rfl rfl rfl rfl rfl rfl rfl rfl rfl (fun hg w hw=>plc20_aw (some ⟨g1,0,none⟩,2) (some ⟨g2,0,none⟩,1) g 2 w (fit20_aw _ _ (hst.cls hw) (Src.own hw rfl) (Src.own hw rfl) (Src.own hw rfl)) (some ⟨_,0,none⟩) 2 (Src.own hw rfl)) ?_|refine rc rfl rfl rfl rfl rfl rfl rfl (fun w hw=>equalI_spec xp _ [4,8,6,4,4,0] [4,8,6,4,4,0] w (hpp.own hw) (rd_ints (n:=6) (r:=[4,8,6,4,4,0]) (Src.own hw rfl) (by omega))) ?_|refine rcG rfl rfl rfl rfl rfl rfl rfl rfl rfl (fun hg w hw=>equalI_spec xp _ [4,8,6,4,4,0] [4,8,6,4,4,0] w (hpp.own hw) (rd_ints (n:=6) (r:=[4,8,6,4,4,0]) (Src.own hw rfl) (by omega))) ?_|refine rc rfl rfl rfl rfl rfl rfl rfl (fun w hw=>equalI_spec xq xp [4,8,6,4,4,0] [4,8,6,4,4,0] w (hqq.own hw) (hpp.own hw)) ?_|refine rcG rfl rfl rfl rfl rfl rfl rfl rfl rfl (fun hg w hw=>equalI_spec xq xp [4,8,6,4,4,0] [4,8,6,4,4,0] w (hqq.own hw) (hpp.own hw)) ?_)|(show ∀ _:Nat,T _ _ _ _ _;intro _))
 rename_i c1 c2 c3
 refine T_le (H':=[blk c3 [.slice (some ⟨c1,0,none⟩) 2 2, .slice (some ⟨c2,0,none⟩) 2 2] 27,blk c2 [.int .i64 1, .int .i64 (-1)] 3,blk c1 [.int .i64 0, .int .i64 0] 3,fz pk]) Hle.srtV ?_
 refine T_callC rfl rfl rfl rfl rfl rfl rfl (fun _ w hw=>sameCols19_spec xc _ [[0,0],[1,-1]] [[0,0],[1,-1]] w (hkk.own hw) (rd_lit (n:=2) (Src.own (b:=c3) hw rfl) (by omega) ((rd_ints (b:=c1) (n:=2) (r:=[0,0]) (Src.own hw rfl) (by omega)).append (rd_ints (b:=c2) (n:=2) (r:=[1,-1]) (Src.own hw rfl) (by omega))))) ?_
 repeat' (first|refine d1 ?_|refine dd ?_|(show ∀ _:Nat,T _ _ _ _ _;intro _)|(show T _ (.code .ret::_) _ _ _;refine T_retV [] rfl (Hle.none _) ⟨rfl,rfl⟩))
end Go.Proofs.YthadgaboakipoaaGreatDoor
namespace Go.Proofs.YthadgaboakipoaaGreatDoor
open Go.RowKit Go.Shelf Go.Proofs
set_option maxRecDepth 100000
set_option maxHeartbeats 1000000

end Go.Proofs.YthadgaboakipoaaGreatDoor
namespace Go.Proofs.YthadgaboakipoaaGreatDoor
open Go.RowKit Go.Shelf Go.Proofs

theorem mvL_15 {n:Nat} (h1:1≤n) (h4:n≤4):(mvL n).length≤15:=by
 obtain rfl|rfl|rfl|rfl:n=1∨n=2∨n=3∨n=4:=by omega
 all_goals decide
end Go.Proofs.YthadgaboakipoaaGreatDoor
namespace Go.Proofs.YthadgaboakipoaaGreatDoor
open Go.RowKit Go.Shelf Go.Proofs
set_option maxRecDepth 100000
set_option maxHeartbeats 1000000

open Classical in
noncomputable def srcE20 (l:List TS):Int:=if l.length=0 then 5 else if bigS l then 4 else 0
def fewE (l:List TS):Int:=if 4<l.length∨65536<volL (lens l) then 4 else 0
theorem srcE20_ok {l:List TS} (h:srcE20 l=0):1≤l.length∧¬ bigS l:=by
 unfold srcE20 at h
 by_cases h1:l.length=0
 ·rw [if_pos h1] at h;omega
 ·rw [if_neg h1] at h
  by_cases h2:bigS l
  ·rw [if_pos h2] at h;omega
  ·exact⟨by omega,h2⟩
theorem opE_src {c:Costs} {l:List TS} (h:srcE20 l≠0):opE c l=srcE20 l∧plE l=srcE20 l:=by
 unfold srcE20 at h ⊢
 unfold opE plE
 by_cases h1:l.length=0
 ·rw [if_pos h1,if_pos h1,if_pos h1];exact⟨rfl,rfl⟩
 ·rw [if_neg h1] at h
  rw [if_neg h1,if_neg h1,if_neg h1]
  by_cases h2:bigS l
  ·rw [if_pos h2,if_pos h2,if_pos h2];exact⟨rfl,rfl⟩
  ·rw [if_neg h2] at h
   exact absurd rfl h
theorem opE_few {c:Costs} {l:List TS} (h:srcE20 l=0):opE c l=(if ck21 c l≠0 then 1 else fewE l)∧plE l=fewE l:=by
 obtain⟨h1,h2⟩:=srcE20_ok h
 have h3:¬ l.length=0:=by omega
 unfold opE plE fewE
 refine ⟨?_,?_⟩
 ·rw [if_neg h3,if_neg h2]
 ·rw [if_neg h3,if_neg h2]
theorem Fit.get {w:World} {b o n:Nat} {l:List TS} (h:Fit w (some ⟨b,o,none⟩) n l) {k:Nat} (hk:k<n):∃ t,l[k]?=some t∧t∈l∧RdC w b (o+(k:Int).toNat * 1) [.slice t.A t.n t.cap]:=by
 obtain⟨t,ht⟩:∃ t,l[k]?=some t:=⟨_,List.getElem?_eq_getElem (by have:=h.hn;omega)⟩
 refine ⟨t,ht,List.mem_of_getElem? ht,?_⟩
 have h9:=(h.hs.get1 (i:=k) hk (by rw [List.getElem?_map,ht];rfl)).2
 rw [Nat.mul_one] at h9
 rw [off1]
 exact h9
theorem srcs20R_spec (A:Option Addr) (n ca:Nat) (l:List TS) (w:World) (hf:Fit w A n l):Spec Tryz.prog 66 [.slice A n ca] w (fun v R=>v = .int .i64 (srcE20 l)∧R=[]):=by
 have hn:=hf.hn
 have h34:=hf.b34
 have hqq:=hf.q
 refine spec_of sg Tryz.func66 rfl rfl rfl ?_
 repeat' (first|refine d1 ?_|refine dd ?_|(show ∀ _:Nat,T _ _ _ _ _;intro _))
 refine T_if rfl (fun h=>?_) (fun h=>?_)
 ·simp only [decide_eq_true_eq] at h
  have e:srcE20 l=5:=if_pos (by omega)
  rw [e]
  repeat' (first|refine d1 ?_|refine dd ?_|(show ∀ _:Nat,T _ _ _ _ _;intro _)|(show T _ (.code .ret::_) _ _ _;refine T_retV [] rfl (Hle.none _) ⟨rfl,rfl⟩))
 simp only [decide_eq_false_iff_not] at h
 have hn0:l.length≠0:=by omega
 repeat' (first|refine d1 ?_|refine dd ?_|(show ∀ _:Nat,T _ _ _ _ _;intro _))
 refine T_if rfl (fun h2=>?_) (fun h2=>?_)
 ·simp only [decide_eq_true_eq] at h2
  have e:srcE20 l=4:=by unfold srcE20;rw [if_neg hn0,if_pos ⟨hn0, .inl (by omega)⟩]
  rw [e]
  repeat' (first|refine d1 ?_|refine dd ?_|(show ∀ _:Nat,T _ _ _ _ _;intro _)|(show T _ (.code .ret::_) _ _ _;refine T_retV [] rfl (Hle.none _) ⟨rfl,rfl⟩))
 simp only [decide_eq_false_iff_not] at h2
 repeat' (first|refine d1 ?_|refine dd ?_|(show ∀ _:Nat,T _ _ _ _ _;intro _))
 refine T_loopX (fun k:Nat=>[(3, .int .i64 (k:Nat))]) (fun _=>[]) (fun k=>k≤n∧∀ j t,j<k→l[j]?=some t→t.n≤1024) (fun k=>n - k) 0 ⟨Nat.zero_le _,fun j t h=>absurd h (Nat.not_lt_zero j)⟩ ?_
 rintro k ⟨hk,hall⟩
 repeat' (first|refine d1 ?_|refine dd ?_|(show ∀ _:Nat,T _ _ _ _ _;intro _))
 refine T_if rfl (fun h1=>?_) (fun h1=>?_)
 ·simp only [decide_eq_true_eq] at h1
  have hkn:k<n:=by omega
  obtain⟨b,o,rfl⟩:=hf.hs.base (by omega)
  obtain⟨t,ht,htm,hr⟩:=hf.get hkn
  have htb:=hqq t htm
  repeat' (first|refine d1 ?_|refine dd ?_|(show ∀ _:Nat,T _ _ _ _ _;intro _))
  refine T_if rfl (fun h3=>?_) (fun h3=>?_)
  ·simp only [decide_eq_true_eq] at h3
   have e:srcE20 l=4:=by unfold srcE20;rw [if_neg hn0,if_pos ⟨hn0, .inr ⟨t,htm,by omega⟩⟩]
   rw [e]
   repeat' (first|refine d1 ?_|refine dd ?_|(show ∀ _:Nat,T _ _ _ _ _;intro _)|(show T _ (.code .ret::_) _ _ _;refine T_retV [] rfl (Hle.none _) ⟨rfl,rfl⟩))
  ·simp only [decide_eq_false_iff_not] at h3
   repeat' (first|refine d1 ?_|refine dd ?_|(show ∀ _:Nat,T _ _ _ _ _;intro _))
   refine T_backX (k+1) ⟨by omega,fun j u hj hu=>?_⟩ (by omega)
   rcases Nat.lt_or_ge j k with h5|h5
   ·exact hall j u h5 hu
   ·rw [show j=k by omega,ht] at hu
    cases hu
    omega
 ·simp only [decide_eq_false_iff_not] at h1
  have e:srcE20 l=0:=by
   unfold srcE20
   rw [if_neg hn0,if_neg ?_]
   rintro⟨-,h9|⟨t,ht,h9⟩⟩
   ·omega
   ·obtain⟨q,hq,e⟩:=List.getElem_of_mem ht
    have:=hall q t (by omega) (by rw [List.getElem?_eq_getElem hq,e])
    omega
  rw [e]
  repeat' (first|refine d1 ?_|refine dd ?_|(show ∀ _:Nat,T _ _ _ _ _;intro _)|(show T _ (.code .ret::_) _ _ _;refine T_retV [] rfl (Hle.none _) ⟨rfl,rfl⟩))
theorem volP_succ {ls:List Nat} {k m:Nat} (h:ls[k]?=some m):volL (ls.take (k+1))=volL (ls.take k) * (m+1):=by
 rw [take_snoc _ _ _ h,volL_app]
 show _ * ((m+1) * 1)=_
 rw [Nat.mul_one]
theorem few20R_spec (A:Option Addr) (n ca:Nat) (l:List TS) (w:World) (hg:Grp w A n l):Spec Tryz.prog 67 [.slice A n ca] w (fun v R=>v = .int .i64 (fewE l)∧R=[]):=by
 have hn:=hg.hn
 have hb:=hg.hb
 have hll:=lens_len l
 refine spec_of sg Tryz.func67 rfl rfl rfl ?_
 repeat' (first|refine d1 ?_|refine dd ?_|(show ∀ _:Nat,T _ _ _ _ _;intro _))
 refine T_if rfl (fun h=>?_) (fun h=>?_)
 ·simp only [decide_eq_true_eq] at h
  have e:fewE l=4:=if_pos (.inl (by omega))
  rw [e]
  repeat' (first|refine d1 ?_|refine dd ?_|(show ∀ _:Nat,T _ _ _ _ _;intro _)|(show T _ (.code .ret::_) _ _ _;refine T_retV [] rfl (Hle.none _) ⟨rfl,rfl⟩))
 simp only [decide_eq_false_iff_not] at h
 repeat' (first|refine d1 ?_|refine dd ?_|(show ∀ _:Nat,T _ _ _ _ _;intro _))
 refine T_loopX (fun k:Nat=>[(4, .int .i64 (k:Nat)),(3, .int .i64 (volL ((lens l).take k):Nat))]) (fun _=>[]) (fun k=>k≤n∧volL ((lens l).take k)≤65536) (fun k=>n - k) 0 ⟨Nat.zero_le _,by rw [List.take_zero];show 1≤65536;omega⟩ ?_
 rintro k ⟨hk,hv⟩
 repeat' (first|refine d1 ?_|refine dd ?_|(show ∀ _:Nat,T _ _ _ _ _;intro _))
 refine T_if rfl (fun h1=>?_) (fun h1=>?_)
 ·simp only [decide_eq_true_eq] at h1
  have hkn:k<n:=by omega
  obtain⟨b,o,rfl⟩:=hg.hs.base (by omega)
  obtain⟨t,ht,htm,hr⟩:=hg.get hkn
  have htb:=hg.nb t htm
  have hst:=volP_succ (lens_get ht)
  have hle:=volL_take (lens l) (k+1)
  have e:((volL ((lens l).take k):Nat):Int) * ((t.n:Int)+1)=((volL ((lens l).take (k+1)):Nat):Int):=by rw [hst];simp
  have hub:volL ((lens l).take (k+1))≤65536 * 1001:=by rw [hst];exact Nat.mul_le_mul hv (by omega)
  have e0:((volL ((lens l).take k):Nat):Int) * ((t.n:Int)+1)≤65601536:=by rw [e];omega
  have e1:0≤((volL ((lens l).take k):Nat):Int) * ((t.n:Int)+1):=by rw [e];omega
  repeat' (first|refine d1 ?_|refine dd ?_|(show ∀ _:Nat,T _ _ _ _ _;intro _))
  rw [e]
  refine T_if rfl (fun h3=>?_) (fun h3=>?_)
  ·simp only [decide_eq_true_eq] at h3
   have e9:fewE l=4:=if_pos (.inr (by omega))
   rw [e9]
   repeat' (first|refine d1 ?_|refine dd ?_|(show ∀ _:Nat,T _ _ _ _ _;intro _)|(show T _ (.code .ret::_) _ _ _;refine T_retV [] rfl (Hle.none _) ⟨rfl,rfl⟩))
  ·simp only [decide_eq_false_iff_not] at h3
   repeat' (first|refine d1 ?_|refine dd ?_|(show ∀ _:Nat,T _ _ _ _ _;intro _))
   exact T_backX (k+1) ⟨by omega,by omega⟩ (by omega)
 ·simp only [decide_eq_false_iff_not] at h1
  rw [List.take_of_length_le (by omega)] at hv
  have e:fewE l=0:=if_neg (by omega)
  rw [e]
  repeat' (first|refine d1 ?_|refine dd ?_|(show ∀ _:Nat,T _ _ _ _ _;intro _)|(show T _ (.code .ret::_) _ _ _;refine T_retV [] rfl (Hle.none _) ⟨rfl,rfl⟩))
theorem check20R_spec (c:Costs) (A:Option Addr) (n ca:Nat) (l:List TS) (w:World) (hf:Fit w A n l):Spec Tryz.prog 57 [c.val, .slice A n ca] w (fun v R=>v = .int .i64 (opE c l)∧R=[]):=by
 have hn:=hf.hn
 refine spec_of sg Tryz.func57 rfl rfl rfl ?_
 refine T_op (OpT.box (cs:=c.cells) rfl rfl rfl rfl rfl rfl rfl (fun pc=>?_))
 repeat' (first|refine d1 ?_|refine dd ?_|(show T _ (.ops _ (_::_)::_) _ _ _;first|refine T_call rfl rfl rfl rfl rfl (fun w hw=>srcs20R_spec A n ca l w (hf.cls hw)) ?_|refine T_callC rfl rfl rfl rfl rfl rfl rfl (fun hg w hw=>srcs20R_spec A n ca l w (hf.cls hw)) ?_)|(show T _ (.run _ _ (_::_) _ _::_) _ _ _;first|refine rc rfl rfl rfl rfl rfl rfl rfl (fun w hw=>srcs20R_spec A n ca l w (hf.cls hw)) ?_|refine rcG rfl rfl rfl rfl rfl rfl rfl rfl rfl (fun hg w hw=>srcs20R_spec A n ca l w (hf.cls hw)) ?_)|(show ∀ _:Nat,T _ _ _ _ _;intro _))
 by_cases hs0:srcE20 l≠0
 ·rw [(opE_src (c:=c) hs0).1]
  refine T_if rfl (fun _=>?_) (fun h=>by exfalso;simp at h;exact hs0 h)
  repeat' (first|refine d1 ?_|refine dd ?_|(show ∀ _:Nat,T _ _ _ _ _;intro _)|(show T _ (.code .ret::_) _ _ _;refine T_retV [] rfl (Hle.none _) ⟨rfl,rfl⟩))
 have hs0:srcE20 l=0:=by simpa using hs0
 obtain⟨h1n,hbg⟩:=srcE20_ok hs0
 have hg:=hf.grp hbg
 have hb:=hg.hb
 rw [(opE_few (c:=c) hs0).1,hs0]
 refine T_if rfl (fun h=>by exfalso;simp at h) (fun _=>?_)
 repeat' (first|refine d1 ?_|refine dd ?_|(show T _ (.ops _ (_::_)::_) _ _ _;first|refine T_call rfl rfl rfl rfl rfl (fun w hw=>costRef_spec c w) ?_|refine T_callC rfl rfl rfl rfl rfl rfl rfl (fun hg w hw=>costRef_spec c w) ?_)|(show T _ (.run _ _ (_::_) _ _::_) _ _ _;first|refine rc rfl rfl rfl rfl rfl rfl rfl (fun w hw=>costRef_spec c w) ?_|refine rcG rfl rfl rfl rfl rfl rfl rfl rfl rfl (fun hg w hw=>costRef_spec c w) ?_)|(show ∀ _:Nat,T _ _ _ _ _;intro _))
 refine T_if rfl (fun h=>?_) (fun h=>?_)
 ·have h1:costE c≠0:=by simpa using h
  have hk:ck21 c l=1:=by unfold ck21;rw [if_neg (fun h9=>h1 h9.1)]
  rw [hk,if_pos (by decide)]
  repeat' (first|refine d1 ?_|refine dd ?_|(show ∀ _:Nat,T _ _ _ _ _;intro _)|(show T _ (.code .ret::_) _ _ _;refine T_retV [] rfl (Hle.none _) ⟨rfl,rfl⟩))
 have hc:costE c=0:=by simpa using h
 clear h
 repeat' (first|refine d1 ?_|refine dd ?_|(show ∀ _:Nat,T _ _ _ _ _;intro _))
 refine T_loopX (fun i:Nat=>[(6, .int .i64 (i:Nat))]) (fun _=>[blk pc c.cells 23]) (fun i=>i≤n∧∀ j t,j<i→l[j]?=some t→badL t.l=false) (fun i=>n - i) 0 ⟨Nat.zero_le _,fun j t h=>by omega⟩ ?_
 rintro i ⟨hi,hok⟩
 repeat' (first|refine d1 ?_|refine dd ?_|(show ∀ _:Nat,T _ _ _ _ _;intro _))
 refine T_if rfl (fun h1=>?_) (fun h1=>?_)
 ·simp only [decide_eq_true_eq] at h1
  have hin:i<n:=by omega
  obtain⟨b,o,rfl⟩:=hg.hs.base (by omega)
  obtain⟨t,ht,htm,hr⟩:=hg.get hin
  have htl:=hg.ok.len t htm
  have htn:=hg.nb t htm
  repeat' (first|refine d1 ?_|refine dd ?_|(show ∀ _:Nat,T _ _ _ _ _;intro _))
  refine T_loopX (fun k:Nat=>[(7, .int .i64 (k:Nat))]) (fun _=>[blk pc c.cells 23]) (fun k=>k≤t.n∧∀ q x,q<k→t.l[q]?=some x→tokE x=0) (fun k=>t.n - k) 0 ⟨Nat.zero_le _,fun j t h=>by omega⟩ ?_
  rintro k ⟨hk,hokk⟩
  repeat' (first|refine d1 ?_|refine dd ?_|(show ∀ _:Nat,T _ _ _ _ _;intro _))
  refine T_if rfl (fun h2=>?_) (fun h2=>?_)
  ·simp only [decide_eq_true_eq] at h2
   have hkn:k<t.n:=by omega
   obtain⟨b4,o4,hsA⟩:=(hg.ok.src t htm).base (by omega)
   have hsr:RdC w b4 (o4+(k:Int).toNat * 6) (tkA t.l k).cells:=(hsA ▸ hg.ok.src t htm:Src w 6 (some ⟨b4,o4,none⟩) t.n (t.l.flatMap Tok.cells)).getT (k:=k) (by omega) (tkA_get (by omega))
   rw [hsA] at hr
   repeat' (first|refine d1 ?_|refine dd ?_|(show T _ (.ops _ (_::_)::_) _ _ _;first|refine T_call rfl rfl rfl rfl rfl (fun w hw=>tokRef_spec (tkA t.l k) w) ?_|refine T_callC rfl rfl rfl rfl rfl rfl rfl (fun hg w hw=>tokRef_spec (tkA t.l k) w) ?_)|(show T _ (.run _ _ (_::_) _ _::_) _ _ _;first|refine rc rfl rfl rfl rfl rfl rfl rfl (fun w hw=>tokRef_spec (tkA t.l k) w) ?_|refine rcG rfl rfl rfl rfl rfl rfl rfl rfl rfl (fun hg w hw=>tokRef_spec (tkA t.l k) w) ?_)|(show ∀ _:Nat,T _ _ _ _ _;intro _))
   refine T_if rfl (fun h3=>?_) (fun h3=>?_)
   ·have h4:tokE (tkA t.l k)≠0:=by simpa using h3
    have hbt:badS l=true:=List.any_eq_true.2 ⟨t,htm,List.any_eq_true.2 ⟨tkA t.l k,tkA_mem (by omega),by simpa using h4⟩⟩
    have hk9:ck21 c l=1:=by unfold ck21;rw [if_neg (fun h9=>by rw [hbt] at h9;exact absurd h9.2 (by decide))]
    rw [hk9,if_pos (by decide)]
    repeat' (first|refine d1 ?_|refine dd ?_|(show ∀ _:Nat,T _ _ _ _ _;intro _)|(show T _ (.code .ret::_) _ _ _;refine T_retV [] rfl (Hle.none _) ⟨rfl,rfl⟩))
   ·have h4:tokE (tkA t.l k)=0:=by simpa using h3
    repeat' (first|refine d1 ?_|refine dd ?_|(show ∀ _:Nat,T _ _ _ _ _;intro _))
    refine T_backX (k+1) ⟨by omega,fun q x hq hx=>?_⟩ (by omega)
    rcases Nat.lt_or_ge q k with h5|h5
    ·exact hokk q x h5 hx
    ·rw [show q=k by omega,tkA_get (by omega)] at hx
     cases hx
     exact h4
  ·simp only [decide_eq_false_iff_not] at h2
   repeat' (first|refine d1 ?_|refine dd ?_|(show ∀ _:Nat,T _ _ _ _ _;intro _))
   refine T_backX (i+1) ⟨by omega,fun j u hj hu=>?_⟩ (by omega)
   rcases Nat.lt_or_ge j i with h5|h5
   ·exact hok j u h5 hu
   ·rw [show j=i by omega,ht] at hu
    cases hu
    refine badL_false.2 fun x hx=>?_
    obtain⟨q,hq,e⟩:=List.getElem_of_mem hx
    exact hokk q x (by omega) (by rw [List.getElem?_eq_getElem hq,e])
 ·simp only [decide_eq_false_iff_not] at h1
  have hbs:badS l=false:=List.any_eq_false.2 fun t ht=>by
   obtain⟨q,hq,e⟩:=List.getElem_of_mem ht
   rw [hok q t (by omega) (by rw [List.getElem?_eq_getElem hq,e])];simp
  have hk9:ck21 c l=0:=if_pos ⟨hc,hbs⟩
  rw [hk9,if_neg (by decide)]
  repeat' (first|refine d1 ?_|refine dd ?_|(show T _ (.ops _ (_::_)::_) _ _ _;first|refine T_call rfl rfl rfl rfl rfl (fun w hw=>few20R_spec A n ca l w (hg.cls hw)) ?_|refine T_callC rfl rfl rfl rfl rfl rfl rfl (fun hg w hw=>few20R_spec A n ca l w (hg.cls hw)) ?_)|(show T _ (.run _ _ (_::_) _ _::_) _ _ _;first|refine rc rfl rfl rfl rfl rfl rfl rfl (fun w hw=>few20R_spec A n ca l w (hg.cls hw)) ?_|refine rcG rfl rfl rfl rfl rfl rfl rfl rfl rfl (fun hg w hw=>few20R_spec A n ca l w (hg.cls hw)) ?_)|(show ∀ _:Nat,T _ _ _ _ _;intro _)|(show T _ (.code .ret::_) _ _ _;refine T_retV [] rfl (Hle.none _) ⟨rfl,rfl⟩))
theorem size20R_spec (A:Option Addr) (n ca:Nat) (l:List TS) (w:World) (hg:Grp w A n l) (hV:volL (lens l)≤65536):Spec Tryz.prog 58 [.slice A n ca] w (fun v R=>v = .int .i64 (volL (lens l):Nat)∧R=[]):=by
 have hn:=hg.hn
 have hb:=hg.hb
 have hll:=lens_len l
 refine spec_of sg Tryz.func58 rfl rfl rfl ?_
 repeat' (first|refine d1 ?_|refine dd ?_|(show ∀ _:Nat,T _ _ _ _ _;intro _))
 refine T_loopX (fun k:Nat=>[(4, .int .i64 (k:Nat)),(3, .int .i64 (volL ((lens l).take k):Nat))]) (fun _=>[]) (fun k=>k≤n) (fun k=>n - k) 0 (Nat.zero_le _) ?_
 rintro k hk
 have hv:=volL_take (lens l) k
 repeat' (first|refine d1 ?_|refine dd ?_|(show ∀ _:Nat,T _ _ _ _ _;intro _))
 refine T_if rfl (fun h1=>?_) (fun h1=>?_)
 ·simp only [decide_eq_true_eq] at h1
  have hkn:k<n:=by omega
  obtain⟨b,o,rfl⟩:=hg.hs.base (by omega)
  obtain⟨t,ht,htm,hr⟩:=hg.get hkn
  have htb:=hg.nb t htm
  have hst:=volP_succ (lens_get ht)
  have hle:=volL_take (lens l) (k+1)
  have e:((volL ((lens l).take (k+1)):Nat):Int)=((volL ((lens l).take k):Nat):Int) * ((t.n:Int)+1):=by rw [hst];simp
  have e0:((volL ((lens l).take k):Nat):Int) * ((t.n:Int)+1)≤65536:=by rw [← e];omega
  have e1:0≤((volL ((lens l).take k):Nat):Int) * ((t.n:Int)+1):=by rw [← e];omega
  repeat' (first|refine d1 ?_|refine dd ?_|(show ∀ _:Nat,T _ _ _ _ _;intro _))
  exact T_backX (k+1) (by omega) (by omega) (hE:=⟨rfl,by rw [e];rfl,trivial⟩)
 ·simp only [decide_eq_false_iff_not] at h1
  rw [List.take_of_length_le (by omega)]
  repeat' (first|refine d1 ?_|refine dd ?_|(show ∀ _:Nat,T _ _ _ _ _;intro _)|(show T _ (.code .ret::_) _ _ _;refine T_retV [] rfl (Hle.none _) ⟨rfl,rfl⟩))
theorem number20R_spec (A At:Option Addr) (n ca ct:Nat) (l:List TS) (v:List Nat) (w:World) (hg:Grp w A n l) (hv:InB (lens l) v) (hV:volL (lens l)≤1000000) (hs:Src w 1 At n ((intN v).map (Value.int .i64))) :
  Spec Tryz.prog 68 [.slice A n ca, .slice At n ct] w (fun u R=>u = .int .i64 (numL (lens l) v:Nat)∧R=[]):=by
 have hn:=hg.hn
 have hb:=hg.hb
 have hll:=lens_len l
 have hvl:=hv.len
 refine spec_of sg Tryz.func68 rfl rfl rfl ?_
 repeat' (first|refine d1 ?_|refine dd ?_|(show ∀ _:Nat,T _ _ _ _ _;intro _))
 refine T_loopX (fun k:Nat=>[(6, .int .i64 (k:Nat)),(5, .int .i64 (numL ((lens l).take k) (v.take k):Nat))]) (fun _=>[]) (fun k=>k≤n) (fun k=>n - k) 0 (Nat.zero_le _) ?_
 intro k hk
 have hlt:=numP_lt hv k
 repeat' (first|refine d1 ?_|refine dd ?_|(show ∀ _:Nat,T _ _ _ _ _;intro _))
 refine T_if rfl (fun h=>?_) (fun h=>?_)
 ·simp only [decide_eq_true_eq] at h
  have hkn:k<n:=by omega
  obtain⟨b,o,rfl⟩:=hg.hs.base (by omega)
  obtain⟨ba,oa,rfl⟩:=hs.base (by omega)
  obtain⟨t,ht,htm,hrt⟩:=hg.get (k:=k) hkn
  obtain⟨a,ha⟩:∃ a,v[k]?=some a:=⟨_,List.getElem?_eq_getElem (by omega)⟩
  have hra:=src_int hs hkn (intN_get ha)
  have htb:=hg.nb t htm
  have hst:=numP_succ hv (lens_get ht) ha
  have hlt2:=numP_lt hv (k+1)
  have e:((numL ((lens l).take k) (v.take k):Nat):Int) * ((t.n:Int)+1)=((numL ((lens l).take k) (v.take k) * (t.n+1):Nat):Int):=by simp
  have e2:((numL ((lens l).take (k+1)) (v.take (k+1)):Nat):Int)=((numL ((lens l).take k) (v.take k):Nat):Int) * ((t.n:Int)+1)+(a:Int):=by rw [hst];simp
  generalize numL ((lens l).take k) (v.take k)=q at hlt hst e e2 ⊢
  repeat' (first|refine d1 ?_|refine dd ?_|(show ∀ _:Nat,T _ _ _ _ _;intro _))
  exact T_backX (k+1) (by omega) (by omega) (hE:=⟨rfl,by rw [e2];rfl,trivial⟩)
 ·simp only [decide_eq_false_iff_not] at h
  obtain rfl:k=n:=by omega
  rw [List.take_of_length_le (by omega),List.take_of_length_le (by omega)]
  repeat' (first|refine d1 ?_|refine dd ?_|(show ∀ _:Nat,T _ _ _ _ _;intro _)|(show T _ (.code .ret::_) _ _ _;refine T_retV [] rfl (Hle.none _) ⟨rfl,rfl⟩))
def atR (v:List Nat) (s:Nat):List Int:=(List.range v.length).map fun i=>if s≤i then ((v.getD i 0:Nat):Int) else 0
theorem atR_all (v:List Nat):atR v 0=intN v:=by
 unfold atR intN
 refine List.ext_getElem? fun i=>?_
 rw [List.getElem?_map,List.getElem?_map]
 by_cases h:i<v.length
 ·rw [List.getElem?_range h,List.getElem?_eq_getElem h]
  simp only [Option.map_some,Nat.zero_le,if_true]
  rw [List.getD_eq_getElem?_getD,List.getElem?_eq_getElem h];rfl
 ·rw [List.getElem?_eq_none (by simp;omega),List.getElem?_eq_none (by omega)]
  rfl
theorem atR_none {v:List Nat} {n:Nat} (h:v.length=n):(atR v n).map (Value.int .i64)=List.replicate n (.int .i64 0):=by
 refine List.eq_replicate_iff.2 ⟨by simp [atR,h],fun x hx=>?_⟩
 unfold atR at hx
 rw [List.map_map] at hx
 obtain⟨i,hi,rfl⟩:=List.mem_map.1 hx
 rw [List.mem_range] at hi
 show Value.int .i64 (if n≤i then _ else _)=_
 rw [if_neg (by omega)]
theorem atR_len (v:List Nat) (s:Nat):(atR v s).length=v.length:=by simp [atR]
theorem atR_set {v:List Nat} {s:Nat} (h:s<v.length):(atR v (s+1)).set s ((v.getD s 0:Nat):Int)=atR v s:=by
 refine List.ext_getElem? fun i=>?_
 rw [List.getElem?_set,atR_len]
 unfold atR
 rw [List.getElem?_map,List.getElem?_map]
 by_cases e:s=i
 ·subst e
  rw [if_pos rfl,if_pos h,List.getElem?_range h]
  simp
 ·rw [if_neg e]
  by_cases hi:i<v.length
  ·rw [List.getElem?_range hi]
   simp only [Option.map_some]
   by_cases e2:s+1≤i
   ·rw [if_pos e2,if_pos (by omega)]
   ·rw [if_neg e2,if_neg (by omega)]
  ·rw [List.getElem?_eq_none (by simp;omega)]
   rfl
theorem offsets20R_spec (A:Option Addr) (n ca:Nat) (l:List TS) (p:Nat) (w:World) (hg:Grp w A n l) (h1:1≤n) (hv:volL (lens l)≤1000000) (hp:p<volL (lens l)) :
  Spec Tryz.prog 63 [.slice A n ca, .int .i64 (p:Nat)] w (fun u R=>∃ b:Nat,True∧u = .slice (some ⟨b,0,none⟩) n n∧R=[blk b ((intN (atL (lens l) p)).map (Value.int .i64)) 3]):=by
 have hn:=hg.hn
 have hb:=hg.hb
 have hll:=lens_len l
 have hal:=atL_len (lens l) p
 refine spec_of sg Tryz.func63 rfl rfl rfl ?_
 repeat' (first|refine d1 ?_|refine dd ?_|(show T _ (.ops _ (_::_)::_) _ _ _;refine T_op (OpT.make rfl rfl rfl rfl rfl rfl rfl rfl rfl (by dsimp only;omega) (fun b5=>?_)))|(show ∀ _:Nat,T _ _ _ _ _;intro _))
 refine T_le (H':=[blk b5 (List.replicate n (.int .i64 0)) 3]) (Hle.refl _) ?_
 rw [← atR_none (v:=atL (lens l) p) (n:=n) (by omega)]
 refine T_loopX (fun s:Nat=>[(6, .int .i64 ((s:Int) - 1)),(1, .int .i64 (p / volL ((lens l).drop s):Nat))]) (fun s=>[blk b5 ((atR (atL (lens l) p) s).map (Value.int .i64)) 3]) (fun s=>s≤n) (fun s=>s) n (Nat.le_refl _) ?_ (hE:=⟨rfl,by rw [List.drop_of_length_le (by omega)];show lookE _ 1=some (Value.int .i64 (p / 1:Nat));rw [Nat.div_one];rfl,trivial⟩)
 rintro s hs
 repeat' (first|refine d1 ?_|refine dd ?_|(show ∀ _:Nat,T _ _ _ _ _;intro _))
 refine T_if rfl (fun h=>?_) (fun h=>?_)
 ·simp only [decide_eq_true_eq] at h
  obtain⟨s,rfl⟩:∃ r,s=r+1:=⟨s - 1,by omega⟩
  have hsn:s<n:=by omega
  obtain⟨b,o,rfl⟩:=hg.hs.base (by omega)
  obtain⟨t,ht,htm,hr⟩:=hg.get (k:=s) hsn
  have htn:=hg.nb t htm
  have hr9:RdC w b (o+(((s+1:Nat):Int) - 1).toNat * 1) [.slice t.A t.n t.cap]:=by rw [show (((s+1:Nat):Int) - 1)=(s:Int) by omega];exact hr
  obtain⟨q,hq⟩:∃ q,q=p / volL ((lens l).drop (s+1)):=⟨_,rfl⟩
  have hdl:q≤p:=by rw [hq];exact Nat.div_le_self _ _
  have hdv:p / volL ((lens l).drop s)=q / (t.n+1):=by rw [vol_drop (lens_get ht),hq,Nat.div_div_eq_div_mul,Nat.mul_comm]
  have hat:=atL_get p (lens_get ht)
  rw [stp_drop (by omega), ← hq] at hat
  have hgd:(atL (lens l) p).getD s 0=q % (t.n+1):=by rw [List.getD_eq_getElem?_getD,hat];rfl
  rw [← hq]
  obtain⟨y,hy⟩:∃ y,y=q / (t.n+1):=⟨_,rfl⟩
  have e1:((q:Int) / ((t.n:Int)+1))=(y:Int):=by rw [hy];simp
  have e2:((q:Int) % ((t.n:Int)+1))=((q % (t.n+1):Nat):Int):=by simp
  have hdl2:y≤q:=by rw [hy];exact Nat.div_le_self _ _
  have hset:((atR (atL (lens l) p) (s+1)).map (Value.int .i64)).set (0+(((s+1:Nat):Int) - 1).toNat * 1) (.int .i64 ((atL (lens l) p).getD s 0:Nat))=(atR (atL (lens l) p) s).map (Value.int .i64):=by
   rw [show 0+(((s+1:Nat):Int) - 1).toNat * 1=s by omega, ← atR_set (show s<(atL (lens l) p).length by omega),List.map_set]
  have hjl:((atR (atL (lens l) p) (s+1)).map (Value.int .i64)).length=n:=by rw [List.length_map,atR_len];omega
  repeat' (first|refine d1 ?_|refine dd ?_|(show T _ (.ops _ (_::_)::_) _ _ _;first|refine T_val rfl (Val.nilc rfl) rfl rfl rfl ?_|refine T_valC rfl (Val.nilc rfl) rfl rfl rfl rfl rfl ?_|refine T_val rfl (Val.vc rfl (fun _=>⟨by omega,by omega,by rw [e1];simp only [inK];omega⟩)) rfl rfl rfl ?_|refine T_valC rfl (Val.vc rfl (fun _=>⟨by omega,by omega,by rw [e1];simp only [inK];omega⟩)) rfl rfl rfl rfl rfl ?_|refine T_val rfl (Val.vc rfl (fun _=>⟨by omega,by omega⟩)) rfl rfl rfl ?_|refine T_valC rfl (Val.vc rfl (fun _=>⟨by omega,by omega⟩)) rfl rfl rfl rfl rfl ?_|refine T_op (OpT.store rfl rfl rfl rfl (by rw [hjl];omega) ?_))|(show T _ (.run _ _ (_::_) _ _::_) _ _ _;first|refine rv rfl rfl rfl (Val.nilc rfl) rfl rfl rfl ?_|refine rg rfl rfl rfl (Val.nilc rfl) rfl rfl rfl rfl rfl ?_|refine rv rfl rfl rfl (Val.vc rfl (fun _=>⟨by omega,by omega,by rw [e1];simp only [inK];omega⟩)) rfl rfl rfl ?_|refine rg rfl rfl rfl (Val.vc rfl (fun _=>⟨by omega,by omega,by rw [e1];simp only [inK];omega⟩)) rfl rfl rfl rfl rfl ?_|refine rv rfl rfl rfl (Val.vc rfl (fun _=>⟨by omega,by omega⟩)) rfl rfl rfl ?_|refine rg rfl rfl rfl (Val.vc rfl (fun _=>⟨by omega,by omega⟩)) rfl rfl rfl rfl rfl ?_)|(show ∀ _:Nat,T _ _ _ _ _;intro _))
  refine T_backX s (by omega) (by omega) (hE:=⟨by rw [show ((s:Nat):Int) - 1=(((s+1:Nat):Int) - 1) - 1 by omega];rfl,by rw [hdv, ← hy, ← e1];rfl,trivial⟩) (hG:=?_)
  rw [← hset,hgd, ← e2]
  exact Hle.refl _
 ·simp only [decide_eq_false_iff_not] at h
  obtain rfl:s=0:=by omega
  rw [atR_all]
  repeat' (first|refine d1 ?_|refine dd ?_|(show ∀ _:Nat,T _ _ _ _ _;intro _)|(show T _ (.code .ret::_) _ _ _;refine T_retV _ rfl (Hle.refl _) ⟨b5,trivial,rfl,rfl⟩))
end Go.Proofs.YthadgaboakipoaaGreatDoor
namespace Go.Proofs.YthadgaboakipoaaGreatDoor
open Go.RowKit Go.Shelf Go.Proofs
set_option maxRecDepth 100000
set_option maxHeartbeats 1000000

def stepD (K:List Int→Int) (ls v m:List Nat):List D:=[.v (.int .i64 (numL ls (toM v m):Nat)), .v (.int .i64 (K (colT v m))),intsD (colT v m)]
def stepsD (K:List Int→Int) (ls v:List Nat) (L:List (List Nat)):D := .s 3 (L.flatMap (stepD K ls v))
theorem flat3 {α β:Type} (f:α→List β) (hf:∀ a,(f a).length=3):∀ (L:List α) (j:Nat) (m:α) (i:Nat),L[j]?=some m→i<3→(L.flatMap f)[j * 3+i]?=(f m)[i]?
 | [],j,m,i,h,_=>by simp at h
 | a::L,0,m,i,h,hi=>by
  have e:a=m:=by simpa using h
  subst e
  rw [List.flatMap_cons,Nat.zero_mul,Nat.zero_add,List.getElem?_append_left (by rw [hf];exact hi)]
 | a::L,j+1,m,i,h,hi=>by
  rw [List.flatMap_cons,List.getElem?_append_right (by rw [hf];omega),hf,show (j+1) * 3+i - 3=j * 3+i by omega]
  exact flat3 f hf L j m i (by simpa using h) hi
theorem flat3_len {α β:Type} (f:α→List β) (hf:∀ a,(f a).length=3):∀ L:List α,(L.flatMap f).length=L.length * 3
 | []=>rfl
 | a::L=>by rw [List.flatMap_cons,List.length_append,hf,flat3_len f hf L,List.length_cons];omega
theorem Rd.steps {R:Rdr} {x:Value} {K:List Int→Int} {ls v:List Nat} {L:List (List Nat)} (h:Rd R [x] [stepsD K ls v L]):∃ A cap,x = .slice A L.length cap∧L.length≤cap∧cap≤9223372036854775807∧(0<L.length→∃ b o,A=some ⟨b,o,none⟩∧∀ (j:Nat) m,L[j]?=some m →
  R b (o+j * 3)=some (.int .i64 (numL ls (toM v m):Nat))∧R b (o+j * 3+1)=some (.int .i64 (K (colT v m)))∧∃ Ac cc,R b (o+j * 3+2)=some (.slice Ac (colT v m).length cc)∧Rd R [.slice Ac (colT v m).length cc] [intsD (colT v m)]):=by
 have hf:∀ m,(stepD K ls v m).length=3:=fun m=>rfl
 obtain⟨A,n,cap,cs,rfl,h1,h2,h3,h4,h5,h6⟩:=Rd.slice h
 rw [flat3_len _ hf] at h1
 obtain rfl:n=L.length:=by omega
 refine ⟨A,cap,rfl,h3,h4,fun h0=>⟨bk A,ofs A,(h5 h0).1,fun j m hm=>?_⟩⟩
 have g:∀ i,i<3→∀ d,(stepD K ls v m)[i]?=some d→∃ y,R (bk A) (ofs A+(j * 3+i))=some y∧Rd R [y] [d]:=fun i hi d hd=>by
  obtain⟨y,hy,hr⟩:=h6.get (i:=j * 3+i) (d:=d) (by rw [flat3 _ hf L j m i hm hi];exact hd)
  exact⟨y,(h5 h0).2 _ _ hy,hr⟩
 obtain⟨y0,e0,r0⟩:=g 0 (by omega) _ rfl
 obtain⟨y1,e1,r1⟩:=g 1 (by omega) _ rfl
 obtain⟨y2,e2,r2⟩:=g 2 (by omega) _ rfl
 have k0:=r0.val
 have k1:=r1.val
 subst k0 k1
 obtain⟨Ac,cc,rfl,-⟩:=r2.row1
 exact⟨e0,e1,Ac,cc,e2,r2⟩
theorem step_hle {b n:Nat} {x y:Value} {r:List Int} {hs:List Value} {ds:List D} {J:List HA} (hr:r.length=n) (hn:n≤9223372036854775807) :
  Hle (blk b (r.map (Value.int .i64)) 3::dat hs ds::J) (dat (hs++[x,y, .slice (some ⟨b,0,none⟩) n n]) (ds++[.v x, .v y,intsD r])::J):=by
 refine (dat_blkV (sz:=1) (n:=n) (by rw [List.length_map,hr,Nat.mul_one]) hn).trans ?_
 refine (hle_map (B:=dat [x,y, .slice (some ⟨b,0,none⟩) n n] [.v x, .v y,intsD r]) fun f hf=>?_).trans dat_join
 refine Rd.v x (Rd.v y ?_)
 have h9:Rd (fr f) [.slice (some ⟨b,0,none⟩) n n] [.s 1 ((r.map (Value.int .i64)).map .v)]:=hf
 rw [List.map_map] at h9
 exact h9
theorem valV_neg1 (n:Nat):valV (fun _=>(-1:Int)) n=(List.replicate n (-1:Int)).map (Value.int .i64):=by
 rw [List.map_replicate]
 refine List.eq_replicate_iff.2 ⟨valV_length _ _,fun x hx=>?_⟩
 unfold valV at hx
 obtain⟨q,-,rfl⟩:=List.mem_map.1 hx
 rfl
theorem valV_at {v:List Nat} {n:Nat} (h:v.length=n):valV (fun q=>((v.getD q 0:Nat):Int)) n=(intN v).map (Value.int .i64):=by
 refine List.ext_getElem? fun q=>?_
 by_cases hq:q<n
 ·rw [valV_get hq,List.getElem?_map,intN_get (List.getElem?_eq_getElem (by omega)),List.getD_eq_getElem?_getD,List.getElem?_eq_getElem (by omega)];rfl
 ·rw [List.getElem?_eq_none (by rw [valV_length];omega),List.getElem?_eq_none (by rw [List.length_map,intN_len];omega)]
def dnM (ls v m:List Nat):List Nat:=m.filter fun u=>decide (v.getD u 0<ls.getD u 0)
theorem dnM_yes {ls v m:List Nat} {u:Nat} (h:v.getD u 0<ls.getD u 0):dnM ls v (m++[u])=dnM ls v m++[u]:=by
 unfold dnM
 rw [List.filter_append,List.filter_cons,decide_eq_true h];rfl
theorem dnM_no {ls v m:List Nat} {u:Nat} (h:¬ v.getD u 0<ls.getD u 0):dnM ls v (m++[u])=dnM ls v m:=by
 unfold dnM
 rw [List.filter_append,List.filter_cons,decide_eq_false h]
 exact List.append_nil _
theorem dnM_all {ls v m:List Nat} (h:possM ls v m=true):dnM ls v m=m:=by
 unfold dnM
 refine List.filter_eq_self.2 fun u hu=>decide_eq_true (possM_iff.1 h u hu)
theorem steps20R_spec (c:Costs) (A:Option Addr) (n ca:Nat) (l:List TS) (p:Nat) (w:World) (hg:Grp w A n l) (hc:costE c=0) (hbs:badS l=false) (h1:1≤n) (h4:n≤4) (hv:volL (lens l)≤65536) (hp:p<volL (lens l)) :
  Spec Tryz.prog 59 [c.val, .slice A n ca, .int .i64 (p:Nat)] w (fun u R=>∃ x:Value,True∧u=x∧R=[dat [x] [stepsD (colZ c l) (lens l) (atL (lens l) p) (posL (lens l) (atL (lens l) p) (mvL n))]]):=by
 have hn:=hg.hn
 have hll:=lens_len l
 have hvl:=atL_len (lens l) p
 have hin:=atL_in (lens l) p
 have hmo:=mvL_ok h1 h4
 have hlsn:(lens l).length=n:=by omega
 have hm15:(mvL n).length≤15:=by
  obtain rfl|rfl|rfl|rfl:n=1∨n=2∨n=3∨n=4:=by omega
  all_goals decide
 refine spec_of sg Tryz.func59 rfl rfl rfl ?_
 refine T_op (OpT.box (cs:=c.cells) rfl rfl rfl rfl rfl rfl rfl (fun pc=>?_))
 repeat' (first|refine d1 ?_|refine dd ?_|(show T _ (.ops _ (_::_)::_) _ _ _;refine T_op (OpT.call rfl rfl rfl rfl rfl (fun w hw=>offsets20R_spec A n ca l p w (hg.cls hw) h1 (by omega) hp) (fun u R hR=>?_)))|(show ∀ _:Nat,T _ _ _ _ _;intro _))
 obtain⟨b7,-,rfl,rfl⟩:=hR
 obtain⟨v,hve⟩:∃ v,v=atL (lens l) p:=⟨_,rfl⟩
 rw [← hve] at hvl hin ⊢
 have hvn:v.length=n:=by omega
 repeat' (first|refine d1 ?_|refine dd ?_|(show ∀ _:Nat,T _ _ _ _ _;intro _))
 refine T_op (OpT.call rfl rfl rfl rfl rfl (fun w hw=>movesR_spec (n:Int) w) (fun xm R hR=>?_))
 obtain⟨_,-,rfl,rfl⟩:=hR
 refine T_le (H':=dat [xm] [rowsD ((mvL n).map intN)]::blk b7 ((intN v).map (Value.int .i64)) 3::blk pc c.cells 23::[]) (Hle.refl _) ?_
 refine T_open fun pm hM=>?_
 obtain⟨Am,cm,csm,rfl,hm1,hm2,hml,hmr,hrows⟩:=hM.tab
 rw [List.length_map] at hm1 hml hmr ⊢
 repeat' (first|refine d1 ?_|refine dd ?_|(show ∀ _:Nat,T _ _ _ _ _;intro _))
 rename_i b9
 refine T_le (H':=row 96 3 (some ⟨b9,0,none⟩) 0 0 []::fz pm::blk b7 ((intN v).map (Value.int .i64)) 3::blk pc c.cells 23::[]) (Hle.weaken (i:=0) rfl (blk_row (sz:=3) (n:=0) rfl (by simp only [maxLen];omega)) rfl) ?_
 refine T_le (dat_nil _) ?_
 refine T_loopX (fun s:Nat × (Option Addr × Nat) × List Value × List (List Nat)=>[(10, .int .i64 (s.1:Nat)),(9, .slice s.2.1.1 s.2.2.2.length s.2.1.2)]) (fun s=>[row 96 3 s.2.1.1 s.2.1.2 s.2.2.2.length s.2.2.1,dat s.2.2.1 (s.2.2.2.flatMap (stepD (colZ c l) (lens l) v)),fz pm,blk b7 ((intN v).map (Value.int .i64)) 3,blk pc c.cells 23]) (fun s=>s.1≤(mvL n).length∧s.2.2.2=posL (lens l) v ((mvL n).take s.1)) (fun s=>(mvL n).length - s.1) (0,(some ⟨b9,0,none⟩,0),[],[]) ⟨Nat.zero_le _,by rw [List.take_zero];rfl⟩ ?_ (hG:=by show Hle _ [row 96 3 (some ⟨b9,0,none⟩) 0 0 [],dat [] [],fz pm,blk b7 ((intN v).map (Value.int .i64)) 3,blk pc c.cells 23];exact Hle.srt)
 rintro⟨i,⟨Ao,co⟩,hs,out⟩ ⟨hi,hout⟩
 dsimp only at hi hout ⊢
 have hol:out.length≤15:=by
  rw [hout]
  unfold posL
  have h9:=List.length_filter_le (possM (lens l) v) ((mvL n).take i)
  rw [List.length_take] at h9
  omega
 repeat' (first|refine d1 ?_|refine dd ?_|(show ∀ _:Nat,T _ _ _ _ _;intro _))
 refine T_if rfl (fun h=>?_) (fun h=>?_)
 ·simp only [decide_eq_true_eq] at h
  obtain⟨m,hm⟩:∃ m,(mvL n)[i]?=some m:=⟨_,List.getElem?_eq_getElem (by omega)⟩
  have hmm:=List.mem_of_getElem? hm
  have hml4:=pigeon2 n m (hmo.nd m hmm) (hmo.lt m hmm)
  have hmpos:0<m.length:=List.length_pos_iff.2 (hmo.ne m hmm)
  obtain⟨bt,ot,rfl,hrd⟩:=hmr (by omega)
  obtain⟨Ar,capr,hcs,hr1,hr2,hAr⟩:=hrows.tabRow (i:=i) (r:=intN m) (by rw [List.getElem?_map,hm];rfl)
  rw [intN_len] at hcs hr1 hAr
  obtain⟨br,orr,rfl,hAr9⟩:=hAr hmpos
  have hld:fr pm bt (ot+(i:Int).toNat * 1)=some (.slice (some ⟨br,orr,none⟩) m.length capr):=by rw [off1];exact hrd i _ hcs
  repeat' (first|refine d1 ?_|refine dd ?_|(show T _ (.ops _ (_::_)::_) _ _ _;first|refine T_op (OpT.make rfl rfl rfl rfl rfl rfl rfl rfl rfl (by dsimp only;omega) (fun _=>?_))|refine T_op (OpT.makeC rfl rfl rfl rfl rfl rfl (by dsimp only;omega) (fun _=>?_)))|(show ∀ _:Nat,T _ _ _ _ _;intro _))
  rename_i b12 b13 b14 b15
  refine T_le (H':=[blk b15 (List.replicate n (.int .i64 0)) 3,blk b14 (List.replicate n (.bool false)) 4,blk b13 (madeCells (noTok.val).cells (n * (noTok.val).cells.size)).toList 62,blk b12 (List.replicate n (.int .i64 0)) 3,row 96 3 Ao co out.length hs,dat hs (out.flatMap (stepD (colZ c l) (lens l) v)),fz pm,blk b7 ((intN v).map (Value.int .i64)) 3,blk pc c.cells 23]) (Hle.refl _) ?_
  refine T_le (H':=[blk b12 (valV (mx (fun _=>(-1:Int)) (fun _=>0) 0) n) 3,blk b13 ((ownJ l (List.replicate n (-1)) l.length).flatMap Tok.cells) 62,blk b14 ((thJ l (List.replicate n (-1)) l.length).map Value.bool) 4,blk b15 (valV (mx (fun q=>((v.getD q 0:Nat):Int)) (fun _=>0) 0) n) 3,row 96 3 Ao co out.length hs,dat hs (out.flatMap (stepD (colZ c l) (lens l) v)),fz pm,blk b7 ((intN v).map (Value.int .i64)) 3,blk pc c.cells 23]) (by rw [ownJ_none,thJ_none,ownJ_zero,thJ_zero,hn,made_toks,List.map_replicate,valV_mx_zero,valV_mx_zero, ← valV_replicate];exact Hle.srt) ?_
  refine T_loopX (fun s:Nat=>[(16, .int .i64 (s:Nat))]) (fun s=>[blk b12 (valV (mx (fun _=>(-1:Int)) (fun _=>0) s) n) 3,blk b13 ((ownJ l (List.replicate n (-1)) l.length).flatMap Tok.cells) 62,blk b14 ((thJ l (List.replicate n (-1)) l.length).map Value.bool) 4,blk b15 (valV (mx (fun q=>((v.getD q 0:Nat):Int)) (fun _=>0) s) n) 3,row 96 3 Ao co out.length hs,dat hs (out.flatMap (stepD (colZ c l) (lens l) v)),fz pm,blk b7 ((intN v).map (Value.int .i64)) 3,blk pc c.cells 23]) (fun s=>s≤n) (fun s=>n - s) 0 (Nat.zero_le _) ?_
  intro s hsn
  repeat' (first|refine d1 ?_|refine dd ?_|(show ∀ _:Nat,T _ _ _ _ _;intro _))
  refine T_if rfl (fun h5=>?_) (fun h5=>?_)
  ·simp only [decide_eq_true_eq] at h5
   have hsn':s<n:=by omega
   have hav:((intN v).map (Value.int .i64))[0+(s:Int).toNat * 1]?=some (.int .i64 (v.getD s 0:Nat)):=by rw [show 0+(s:Int).toNat * 1=s by omega, ← valV_at hvn,valV_get hsn']
   repeat' (first|refine d1 ?_|refine dd ?_|(show T _ (.ops _ (_::_)::_) _ _ _;first|refine T_val rfl (Val.load rfl (fun hg=>rdOwn1 (b:=b7) hav)) rfl rfl rfl ?_|refine T_valC rfl (Val.load rfl (fun hg=>rdOwn1 (b:=b7) hav)) rfl rfl rfl rfl rfl ?_|refine T_op (OpT.store rfl rfl rfl rfl (by rw [valV_length];omega) ?_))|(show T _ (.run _ _ (_::_) _ _::_) _ _ _;first|refine rv rfl rfl rfl (Val.load rfl (fun hg=>rdOwn1 (b:=b7) hav)) rfl rfl rfl ?_|refine rg rfl rfl rfl (Val.load rfl (fun hg=>rdOwn1 (b:=b7) hav)) rfl rfl rfl rfl rfl ?_)|(show ∀ _:Nat,T _ _ _ _ _;intro _))
   refine T_backX (s+1) (by omega) (by omega) (hG:=?_)
   rw [show 0+(s:Int).toNat * 1=s by omega,valV_set (f:=fun _=>(-1:Int)) (g:=fun _=>0) (x := -1) rfl,valV_set (f:=fun q=>((v.getD q 0:Nat):Int)) (g:=fun _=>0) (x:=((v.getD s 0:Nat):Int)) rfl]
   exact Hle.refl _
  simp only [decide_eq_false_iff_not] at h5
  obtain rfl:n=s:=by omega
  rw [valV_mx_full _ _ _ _ (Nat.le_refl _),valV_mx_full _ _ _ _ (Nat.le_refl _),valV_neg1,valV_at hvn]
  have hd0:dnM (lens l) v (m.take 0)=[]:=by rw [List.take_zero];rfl
  repeat' (first|refine d1 ?_|refine dd ?_|(show ∀ _:Nat,T _ _ _ _ _;intro _))
  refine T_loopX (fun s:Nat=>[(17, .int .i64 (s:Nat)),(11, .bool (possM (lens l) v (m.take s)))]) (fun s=>[blk b12 ((colMv v (dnM (lens l) v (m.take s)) (List.replicate n (-1))).map (Value.int .i64)) 3,blk b13 ((ownJ l (colMv v (dnM (lens l) v (m.take s)) (List.replicate n (-1))) l.length).flatMap Tok.cells) 62,blk b14 ((thJ l (colMv v (dnM (lens l) v (m.take s)) (List.replicate n (-1))) l.length).map Value.bool) 4,blk b15 ((intN (toM v (dnM (lens l) v (m.take s)))).map (Value.int .i64)) 3,row 96 3 Ao co out.length hs,dat hs (out.flatMap (stepD (colZ c l) (lens l) v)),fz pm,blk b7 ((intN v).map (Value.int .i64)) 3,blk pc c.cells 23]) (fun s=>s≤m.length) (fun s=>m.length - s) 0 (Nat.zero_le _) ?_ (hE:=⟨rfl,by (try dsimp only);rw [List.take_zero];rfl,trivial⟩) (hG:=by (try dsimp only);rw [hd0];exact Hle.refl _)
  intro s hsm
  obtain⟨dn,hdn⟩:∃ dn,dn=dnM (lens l) v (m.take s):=⟨_,rfl⟩
  rw [← hdn]
  repeat' (first|refine d1 ?_|refine dd ?_|(show T _ (.ops _ (_::_)::_) _ _ _;first|refine T_val rfl (Val.load rfl (fun hg=>rdFz (p:=pm) hld)) rfl rfl rfl ?_|refine T_valC rfl (Val.load rfl (fun hg=>rdFz (p:=pm) hld)) rfl rfl rfl rfl rfl ?_)|(show T _ (.run _ _ (_::_) _ _::_) _ _ _;first|refine rv rfl rfl rfl (Val.load rfl (fun hg=>rdFz (p:=pm) hld)) rfl rfl rfl ?_|refine rg rfl rfl rfl (Val.load rfl (fun hg=>rdFz (p:=pm) hld)) rfl rfl rfl rfl rfl ?_)|(show ∀ _:Nat,T _ _ _ _ _;intro _))
  refine T_if rfl (fun h6=>?_) (fun h6=>?_)
  ·simp only [decide_eq_true_eq] at h6
   obtain⟨u,hu⟩:∃ u,m[s]?=some u:=⟨_,List.getElem?_eq_getElem (by omega)⟩
   have hum:=List.mem_of_getElem? hu
   have hun:=hmo.lt m hmm u hum
   have htk:=take_snoc _ _ _ hu
   obtain⟨ba,oa,rfl⟩:=hg.hs.base (by omega)
   obtain⟨t,ht,htm,htr⟩:=hg.get (k:=u) hun
   have htl:=hg.ok.len t htm
   have htb:=hg.nb t htm
   have hgl:(lens l).getD u 0=t.n:=by rw [List.getD_eq_getElem?_getD,lens_get ht];rfl
   have hvg:=hin.get u
   rw [hgl] at hvg
   obtain⟨a,hae⟩:∃ a,a=v.getD u 0:=⟨_,rfl⟩
   rw [← hae] at hvg
   have hmu:fr pm br (orr+(s:Int).toNat * 1)=some (.int .i64 (u:Nat)):=by rw [off1];exact hAr9 s _ (intN_get hu)
   have hav:((intN v).map (Value.int .i64))[0+(u:Int).toNat * 1]?=some (.int .i64 (a:Nat)):=by rw [show 0+(u:Int).toNat * 1=u by omega, ← valV_at hvn,valV_get hun,hae]
   have hps:=possM_snoc (lens l) v (m.take s) u
   rw [← htk,hgl, ← hae] at hps
   repeat' (first|refine d1 ?_|refine dd ?_|(show T _ (.ops _ (_::_)::_) _ _ _;first|refine T_val rfl (Val.load rfl (fun hg=>rdFz (p:=pm) hld)) rfl rfl rfl ?_|refine T_valC rfl (Val.load rfl (fun hg=>rdFz (p:=pm) hld)) rfl rfl rfl rfl rfl ?_|refine T_val rfl (Val.load rfl (fun hg=>rdFz (p:=pm) hmu)) rfl rfl rfl ?_|refine T_valC rfl (Val.load rfl (fun hg=>rdFz (p:=pm) hmu)) rfl rfl rfl rfl rfl ?_|refine T_val rfl (Val.load rfl (fun hg=>rdOwn1 (b:=b7) hav)) rfl rfl rfl ?_|refine T_valC rfl (Val.load rfl (fun hg=>rdOwn1 (b:=b7) hav)) rfl rfl rfl rfl rfl ?_)|(show T _ (.run _ _ (_::_) _ _::_) _ _ _;first|refine rv rfl rfl rfl (Val.load rfl (fun hg=>rdFz (p:=pm) hld)) rfl rfl rfl ?_|refine rg rfl rfl rfl (Val.load rfl (fun hg=>rdFz (p:=pm) hld)) rfl rfl rfl rfl rfl ?_|refine rv rfl rfl rfl (Val.load rfl (fun hg=>rdFz (p:=pm) hmu)) rfl rfl rfl ?_|refine rg rfl rfl rfl (Val.load rfl (fun hg=>rdFz (p:=pm) hmu)) rfl rfl rfl rfl rfl ?_|refine rv rfl rfl rfl (Val.load rfl (fun hg=>rdOwn1 (b:=b7) hav)) rfl rfl rfl ?_|refine rg rfl rfl rfl (Val.load rfl (fun hg=>rdOwn1 (b:=b7) hav)) rfl rfl rfl rfl rfl ?_)|(show ∀ _:Nat,T _ _ _ _ _;intro _))
   refine T_if rfl (fun h7=>?_) (fun h7=>?_)
   ·simp only [decide_eq_true_eq] at h7
    have hno:¬ v.getD u 0<(lens l).getD u 0:=by rw [hgl, ← hae];omega
    have hdn1:dnM (lens l) v (m.take (s+1))=dn:=by rw [htk,dnM_no hno,hdn]
    have hpf:possM (lens l) v (m.take (s+1))=false:=by rw [hps,decide_eq_false (by omega),Bool.and_false]
    repeat' (first|refine d1 ?_|refine dd ?_|(show ∀ _:Nat,T _ _ _ _ _;intro _))
    exact T_backX (s+1) (by omega) (by omega) (hE:=⟨rfl,by (try dsimp only);rw [hpf];rfl,trivial⟩) (hG:=by (try dsimp only);rw [hdn1];exact Hle.refl _)
   simp only [decide_eq_false_iff_not] at h7
   have hvu:a<t.n:=by omega
   have hyes:v.getD u 0<(lens l).getD u 0:=by rw [hgl, ← hae];exact hvu
   have hdn1:dnM (lens l) v (m.take (s+1))=dn++[u]:=by rw [htk,dnM_yes hyes,hdn]
   have hpt:possM (lens l) v (m.take (s+1))=possM (lens l) v (m.take s):=by rw [hps,decide_eq_true hvu,Bool.and_true]
   have hnin:u ∉ dn:=fun h9=>by
    rw [hdn] at h9
    have h8:=(List.mem_filter.1 h9).1
    have h10:=hmo.nd m hmm
    rw [← List.take_append_drop s m] at h10
    have h11:u∈m.drop s:=by
     have:m.drop s=u::m.drop (s+1):=by rw [List.drop_eq_getElem_cons (by omega)];congr 1;exact Option.some.inj ((List.getElem?_eq_getElem (by omega)).symm.trans hu)
     rw [this];exact .head _
    exact (List.nodup_append.1 h10).2.2 u h8 u h11 rfl
   have hdlt:∀ x∈dn,x<v.length:=fun x hx=>by
    rw [hdn] at hx
    rw [hvn]
    exact hmo.lt m hmm x (List.mem_of_mem_take (List.mem_filter.1 hx).1)
   have hdnd:dn.Nodup:=by rw [hdn];exact ((List.take_sublist s m).nodup (hmo.nd m hmm)).filter _
   have hnx:(toM v dn).getD u 0=a:=by rw [toM_get dn v hdnd hdlt u,if_neg hnin,hae];rfl
   obtain⟨b4,o4,htA⟩:=(hg.ok.src t htm).base (by omega)
   have htok:RdC w b4 (o4+(a:Int).toNat * 6) (tkA t.l (a:Int).toNat).cells:=(htA ▸ hg.ok.src t htm:Src w 6 (some ⟨b4,o4,none⟩) t.n (t.l.flatMap Tok.cells)).getT (k:=(a:Int).toNat) (by omega) (tkA_get (by omega))
   rw [htA] at htr
   have hcl:(colMv v dn (List.replicate n (-1))).length=l.length:=by rw [colMv_len,List.length_replicate,hn]
   have hl12:((colMv v dn (List.replicate n (-1))).map (Value.int .i64)).length=n:=by rw [List.length_map,hcl,hn]
   have hl13:((ownJ l (colMv v dn (List.replicate n (-1))) l.length).flatMap Tok.cells).length=n * 6:=by rw [flatT_length,ownJ_len,hn]
   have hl14:((thJ l (colMv v dn (List.replicate n (-1))) l.length).map Value.bool).length=n:=by rw [List.length_map,thJ_len,hn]
   have hl15:((intN (toM v dn)).map (Value.int .i64)).length=n:=by rw [List.length_map,intN_len,toM_len,hvn]
   have e0:(colMv v (dn++[u]) (List.replicate n (-1)))=(colMv v dn (List.replicate n (-1))).set u (a:Int):=by rw [colMv_snoc,hae]
   have e1:=ownJ_set (l:=l) (col:=(colMv v dn (List.replicate n (-1)))) (i:=u) (z:=(a:Int)) (by omega) hcl (by omega)
   have e2:=thJ_set (l:=l) (col:=(colMv v dn (List.replicate n (-1)))) (i:=u) (z:=(a:Int)) (by omega) hcl (by omega)
   have e3:(intN (toM v (dn++[u]))).map (Value.int .i64)=((intN (toM v dn)).map (Value.int .i64)).set (0+(u:Int).toNat * 1) (.int .i64 ((a:Int)+1)):=by
    rw [toM_snoc,hnx,intN_set,List.map_set,show 0+(u:Int).toNat * 1=u by omega];rfl
   rw [tsA_eq ht] at e1
   repeat' (first|refine d1 ?_|(show ∀ _:Nat,T _ _ _ _ _;intro _))
   refine rsH [fz pm,blk b7 ((intN v).map (Value.int .i64)) 3,blk pc c.cells 23] 1000 [0,1,2,3,4,5,6,7,8,9,10,11,12,13,14,15,16,17,18,19,20,21,22,23,24,25,26,27,28,29,30,31,32,33,34] ?_
   repeat' (first|refine d1 ?_|refine dd ?_|(show T _ (.ops _ (_::_)::_) _ _ _;first|refine T_val rfl (Val.load rfl (fun hg=>rdOwn1 (b:=b7) hav)) rfl rfl rfl ?_|refine T_valC rfl (Val.load rfl (fun hg=>rdOwn1 (b:=b7) hav)) rfl rfl rfl rfl rfl ?_|refine T_val rfl (Val.loadA rfl (fun _=>rdOld htok) rfl) rfl rfl rfl ?_|refine T_valC rfl (Val.loadA rfl (fun _=>rdOld htok) rfl) rfl rfl rfl rfl rfl ?_)|(show T _ (.run _ _ (_::_) _ _::_) _ _ _;first|refine rv rfl rfl rfl (Val.load rfl (fun hg=>rdOwn1 (b:=b7) hav)) rfl rfl rfl ?_|refine rg rfl rfl rfl (Val.load rfl (fun hg=>rdOwn1 (b:=b7) hav)) rfl rfl rfl rfl rfl ?_|refine rv rfl rfl rfl (Val.loadA rfl (fun _=>rdOld htok) rfl) rfl rfl rfl ?_|refine rg rfl rfl rfl (Val.loadA rfl (fun _=>rdOld htok) rfl) rfl rfl rfl rfl rfl ?_|refine ro rfl rfl (OpT.storeA (us:=(tkA t.l (a:Int).toNat).cells) rfl rfl rfl rfl rfl rfl (by rw [hl13,show (tkA t.l (a:Int).toNat).cells.length=6 from rfl];omega) ⟨fun _=>Hle.sub,?_⟩)|refine ro rfl rfl (OpT.store rfl rfl rfl rfl (by first|(rw [hl12];omega)|(rw [hl14];omega)|(rw [hl15];omega)) ⟨fun _=>Hle.sub,?_⟩))|(show ∀ _:Nat,T _ _ _ _ _;intro _))
   refine T_backX (s+1) (by omega) (by omega) (hE:=⟨rfl,by (try dsimp only);rw [hpt];rfl,trivial⟩) (hG:=?_)
   (try dsimp only)
   rw [hdn1,e0,e1,e2,e3, ← flatTok_set _ _ _ (by rw [ownJ_len];omega),List.map_set,List.map_set,show 0+(u:Int).toNat * 6=u * 6 by omega]
   rw [show 0+(u:Int).toNat * 1=u by omega]
   exact Hle.refl _
  simp only [decide_eq_false_iff_not] at h6
  obtain rfl:s=m.length:=by omega
  rw [List.take_length] at hdn ⊢
  repeat' (first|refine d1 ?_|refine dd ?_|(show ∀ _:Nat,T _ _ _ _ _;intro _))
  cases hpo:possM (lens l) v m with
  | false =>
   refine T_if rfl (fun h7=>by exfalso;simp at h7) (fun _=>?_)
   repeat' (first|refine d1 ?_|refine dd ?_|(show ∀ _:Nat,T _ _ _ _ _;intro _))
   exact T_backX (i+1,(Ao,co),hs,out) ⟨by dsimp only;omega,by (try dsimp only);rw [posL_no hm hpo];exact hout⟩ (by dsimp only;omega) (hG:=Hle.sub)
  | true =>
   refine T_if rfl (fun _=>?_) (fun h7=>by exfalso;simp at h7)
   have hdm:dn=m:=by rw [hdn,dnM_all hpo]
   subst hdm
   have hct:colMv v dn (List.replicate n (-1))=colT v dn:=by unfold colT;rw [hvn]
   rw [hct]
   have hco:=colT_ok (l:=l) (v:=v) (m:=dn) (by rw [hvl,hll]) (fun s hs=>by rw [hn];exact hmo.lt dn hmm s hs) hpo
   have hti:=(toM_rem hmo hlsn hin hmm hpo).1
   have hKb:=colZ_bd hc (show l.length≤32 by omega) (colT v dn)
   repeat' (first|refine d1 ?_|refine dd ?_|(show T _ (.ops _ (_::_)::_) _ _ _;first|refine T_call rfl rfl rfl rfl rfl (fun w hw=>columnRef_spec c (some ⟨b13,0,none⟩) (some ⟨b14,0,none⟩) n n n n (ownJ l (colT v dn) l.length) (thJ l (colT v dn) l.length) w (Src.own hw (by rw [flatT_length,ownJ_len,hn])) (by rw [ownJ_len,hn]) (by omega) (Src.own hw (by rw [List.length_map,thJ_len,hn,Nat.mul_one])) (by rw [thJ_len,hn]) (by omega)) ?_|refine T_callC rfl rfl rfl rfl rfl rfl rfl (fun hg w hw=>columnRef_spec c (some ⟨b13,0,none⟩) (some ⟨b14,0,none⟩) n n n n (ownJ l (colT v dn) l.length) (thJ l (colT v dn) l.length) w (Src.own hw (by rw [flatT_length,ownJ_len,hn])) (by rw [ownJ_len,hn]) (by omega) (Src.own hw (by rw [List.length_map,thJ_len,hn,Nat.mul_one])) (by rw [thJ_len,hn]) (by omega)) ?_)|(show T _ (.run _ _ (_::_) _ _::_) _ _ _;first|refine rc rfl rfl rfl rfl rfl rfl rfl (fun w hw=>columnRef_spec c (some ⟨b13,0,none⟩) (some ⟨b14,0,none⟩) n n n n (ownJ l (colT v dn) l.length) (thJ l (colT v dn) l.length) w (Src.own hw (by rw [flatT_length,ownJ_len,hn])) (by rw [ownJ_len,hn]) (by omega) (Src.own hw (by rw [List.length_map,thJ_len,hn,Nat.mul_one])) (by rw [thJ_len,hn]) (by omega)) ?_|refine rcG rfl rfl rfl rfl rfl rfl rfl rfl rfl (fun hg w hw=>columnRef_spec c (some ⟨b13,0,none⟩) (some ⟨b14,0,none⟩) n n n n (ownJ l (colT v dn) l.length) (thJ l (colT v dn) l.length) w (Src.own hw (by rw [flatT_length,ownJ_len,hn])) (by rw [ownJ_len,hn]) (by omega) (Src.own hw (by rw [List.length_map,thJ_len,hn,Nat.mul_one])) (by rw [thJ_len,hn]) (by omega)) ?_)|(show ∀ _:Nat,T _ _ _ _ _;intro _))
   rw [own_colV hg hc hbs hco]
   have hnlt:=numL_lt hti
   obtain⟨q,hq⟩:∃ q,q=numL (lens l) (toM v dn):=⟨_,rfl⟩
   have hnum:∀ w',Below w.heap.size w w'→Src w' 1 (some ⟨b15,0,none⟩) n ((intN (toM v dn)).map (Value.int .i64))→Spec Tryz.prog 68 [.slice A n ca, .slice (some ⟨b15,0,none⟩) n n] w' (fun u R=>u = .int .i64 (q:Nat)∧R=[]):=fun w' hw' h9=>by rw [hq];exact number20R_spec A (some ⟨b15,0,none⟩) n ca n l (toM v dn) w' (hg.blw hw') hti (by omega) h9
   repeat' (first|refine d1 ?_|refine dd ?_|(show T _ (.ops _ (_::_)::_) _ _ _;first|refine T_call rfl rfl rfl rfl rfl (fun w hw=>hnum w hw.below (Src.own hw (by rw [List.length_map,intN_len,toM_len,hvn,Nat.mul_one]))) ?_|refine T_callC rfl rfl rfl rfl rfl rfl rfl (fun hg w hw=>hnum w hw.below (Src.own hw (by rw [List.length_map,intN_len,toM_len,hvn,Nat.mul_one]))) ?_|refine T_op (OpT.append (A:=Ao) rfl rfl rfl rfl rfl rfl rfl rfl rfl rfl (fun w hw=>Src.own hw rfl) rfl (by dsimp only;omega) (by omega) (fun A' cap' hA'=>?_)))|(show T _ (.run _ _ (_::_) _ _::_) _ _ _;first|refine rc rfl rfl rfl rfl rfl rfl rfl (fun w hw=>hnum w hw.below (Src.own hw (by rw [List.length_map,intN_len,toM_len,hvn,Nat.mul_one]))) ?_|refine rcG rfl rfl rfl rfl rfl rfl rfl rfl rfl (fun hg w hw=>hnum w hw.below (Src.own hw (by rw [List.length_map,intN_len,toM_len,hvn,Nat.mul_one]))) ?_)|(show ∀ _:Nat,T _ _ _ _ _;intro _))
   rename_i blit
   refine T_le (H':=[blk blit _ _,blk b12 ((colT v dn).map (Value.int .i64)) 3,blk b13 _ _,blk b14 _ _,blk b15 _ _,row 96 3 A' cap' (out.length+1) (hs++[.int .i64 (q:Nat), .int .i64 (colZ c l (colT v dn)), .slice (some ⟨b12,0,none⟩) n n]),dat hs (out.flatMap (stepD (colZ c l) (lens l) v)),fz pm,blk b7 ((intN v).map (Value.int .i64)) 3,blk pc c.cells 23]) (Hle.refl _) ?_
   refine T_backX (i+1,(A',cap'),hs++[Value.int .i64 (q:Nat),Value.int .i64 (colZ c l (colT v dn)),Value.slice (some ⟨b12,0,none⟩) n n],out++[dn]) ⟨by dsimp only;omega,by (try dsimp only);rw [posL_yes hm hpo,hout]⟩ (by dsimp only;omega) (hE:=⟨rfl,by (try dsimp only);rw [List.length_append];rfl,trivial⟩) (hG:=?_)
   (try dsimp only)
   rw [List.length_append,List.flatMap_append,List.length_singleton]
   refine (Hle.srt (K:=[blk b12 ((colT v dn).map (Value.int .i64)) 3,dat hs (out.flatMap (stepD (colZ c l) (lens l) v)),row 96 3 A' cap' (out.length+1) (hs++[.int .i64 (q:Nat), .int .i64 (colZ c l (colT v dn)), .slice (some ⟨b12,0,none⟩) n n]),fz pm,blk b7 ((intN v).map (Value.int .i64)) 3,blk pc c.cells 23])).trans ?_
   refine (step_hle (x := .int .i64 (q:Nat)) (y := .int .i64 (colZ c l (colT v dn))) (by rw [colT_len,hvn]) (by omega)).trans ?_
   have e9:[dn].flatMap (stepD (colZ c l) (lens l) v)=[.v (.int .i64 (q:Nat)), .v (.int .i64 (colZ c l (colT v dn))),intsD (colT v dn)]:=by rw [hq];rfl
   rw [e9]
   exact Hle.srt
 ·simp only [decide_eq_false_iff_not] at h
  obtain rfl:i=(mvL n).length:=by omega
  rw [List.take_length] at hout
  repeat' (first|refine d1 ?_|refine dd ?_|(show ∀ _:Nat,T _ _ _ _ _;intro _)|(show T _ (.code .ret::_) _ _ _;refine T_retV _ rfl ((Hle.srt (K:=[row 96 3 Ao co out.length hs,dat hs (out.flatMap (stepD (colZ c l) (lens l) v))])).trans dat_row) ⟨.slice Ao out.length co,trivial,rfl,by rw [← hout];rfl⟩))
end Go.Proofs.YthadgaboakipoaaGreatDoor
namespace Go.Proofs.YthadgaboakipoaaGreatDoor
open Go.RowKit Go.Shelf Go.Proofs
set_option maxRecDepth 100000
set_option maxHeartbeats 1000000

theorem potentialsR20_spec (c:Costs) (A:Option Addr) (n ca:Nat) (l:List TS) (w:World) (hf:Fit w A n l) :
  Spec Tryz.prog 17 [c.val, .slice A n ca] w (fun v R=>∃ x:Value,True∧v = .tuple #[x, .int .i64 (potV c l).2]∧R=[dat [x] [intsD (potV c l).1]]):=by
 have hn:=hf.hn
 refine spec_of sg Tryz.func17 rfl rfl rfl ?_
 refine T_op (OpT.box (cs:=c.cells) rfl rfl rfl rfl rfl rfl rfl (fun pc=>?_))
 repeat' (first|refine d1 ?_|refine dd ?_|(show T _ (.ops _ (_::_)::_) _ _ _;first|refine T_call rfl rfl rfl rfl rfl (fun w hw=>check20R_spec c A n ca l w (hf.cls hw)) ?_|refine T_callC rfl rfl rfl rfl rfl rfl rfl (fun hg w hw=>check20R_spec c A n ca l w (hf.cls hw)) ?_)|(show T _ (.run _ _ (_::_) _ _::_) _ _ _;first|refine rc rfl rfl rfl rfl rfl rfl rfl (fun w hw=>check20R_spec c A n ca l w (hf.cls hw)) ?_|refine rcG rfl rfl rfl rfl rfl rfl rfl rfl rfl (fun hg w hw=>check20R_spec c A n ca l w (hf.cls hw)) ?_)|(show ∀ _:Nat,T _ _ _ _ _;intro _))
 by_cases hop:opE c l≠0
 ·have e:potV c l=([],opE c l):=if_pos hop
  rw [e]
  refine T_if rfl (fun _=>?_) (fun h=>by exfalso;simp at h;exact hop h)
  repeat' (first|refine d1 ?_|refine dd ?_|(show ∀ _:Nat,T _ _ _ _ _;intro _)|(show T _ (.code .ret::_) _ _ _;refine T_retV _ rfl ((hle_unit (B:=dat [.slice none 0 0] [intsD []]) (.s none 0 0 1 [] rfl (Nat.le_refl _) (by omega) (fun h=>absurd h (by omega)) .nil .nil)).trans (Hle.nth 0 rfl)) ⟨_,trivial,rfl,rfl⟩))
 have hop:opE c l=0:=by simpa using hop
 have hu:=hf.use hop
 rw [hu.pot,hop]
 refine T_if rfl (fun h=>by exfalso;simp at h) (fun _=>?_)
 have hg:=hf.grp (plE_ok (opE_ok hop).1).2.1
 have hc:=hu.hc
 have hbs:=hu.hbs
 have hll:=lens_len l
 have hlsn:(lens l).length=n:=by omega
 have h1n:1≤n:=by have:=hu.h1;omega
 have h4n:n≤4:=by have:=hu.h4;omega
 have hno:=mvL_ok h1n h4n
 have hKn:=colZ_nn hc hu.h4
 have hv:=hu.hv
 have hub:=hu.ub
 rw [hn] at hub ⊢
 repeat' (first|refine d1 ?_|refine dd ?_|(show T _ (.ops _ (_::_)::_) _ _ _;first|refine T_call rfl rfl rfl rfl rfl (fun w hw=>size20R_spec A n ca l w (hg.cls hw) hv) ?_|refine T_callC rfl rfl rfl rfl rfl rfl rfl (fun hg w hw=>size20R_spec A n ca l w (hg.cls hw) hv) ?_)|(show T _ (.run _ _ (_::_) _ _::_) _ _ _;first|refine rc rfl rfl rfl rfl rfl rfl rfl (fun w hw=>size20R_spec A n ca l w (hg.cls hw) hv) ?_|refine rcG rfl rfl rfl rfl rfl rfl rfl rfl rfl (fun hg w hw=>size20R_spec A n ca l w (hg.cls hw) hv) ?_)|(show ∀ _:Nat,T _ _ _ _ _;intro _))
 obtain⟨V,hV⟩:∃ V,V=volL (lens l):=⟨_,rfl⟩
 have hVp:0<V:=by rw [hV];exact volL_pos _
 rw [← hV] at hv ⊢
 repeat' (first|refine d1 ?_|refine dd ?_|(show T _ (.ops _ (_::_)::_) _ _ _;refine T_op (OpT.make rfl rfl rfl rfl rfl rfl rfl rfl rfl (by dsimp only;omega) (fun b7=>?_)))|(show ∀ _:Nat,T _ _ _ _ _;intro _))
 obtain⟨F,hF⟩:∃ F:Nat→Int,F=fun q=>rsV (colZ c l) (lens l) (mvL n) (atL (lens l) q):=⟨_,rfl⟩
 have hFb:∀ q,0≤F q∧F q≤24576000:=fun q=>by rw [hF];exact⟨rsV_nn _ _ _ _,hub _⟩
 refine T_loopX (fun s:Nat × List Int=>[(8, .int .i64 ((s.1:Int) - 1))]) (fun s=>[blk b7 (s.2.map (Value.int .i64)) 3,blk pc c.cells 23]) (fun s=>s.1≤V - 1∧s.2.length=V∧∀ q,s.1≤q→q<V→s.2[q]?=some (F q)) (fun s=>s.1) (V - 1,List.replicate V 0) ⟨Nat.le_refl _,by simp,fun q h5 h6=>?_⟩ ?_ (hE:=⟨by (try dsimp only);rw [show ((V - 1:Nat):Int) - 1=(V:Int) - 2 by omega];rfl,trivial⟩) (hG:=by (try dsimp only);rw [List.map_replicate];exact Hle.refl _)
 ·dsimp only at h5 ⊢
  rw [show q=V - 1 by omega,hF]
  dsimp only
  rw [hV,at_last,rsV_end,List.getElem?_replicate,if_pos (by rw [← hV];omega)]
 rintro⟨r,L⟩ ⟨hr,hL,hLF⟩
 dsimp only at hr hL hLF ⊢
 repeat' (first|refine d1 ?_|refine dd ?_|(show ∀ _:Nat,T _ _ _ _ _;intro _))
 rcases r with _|p
 ·refine T_if rfl (fun h5=>by exfalso;simp at h5) (fun _=>?_)
  have hLe:L=potL (colZ c l) (lens l) (mvL n):=by
   refine List.ext_getElem? fun q=>?_
   by_cases hq:q<V
   ·rw [hLF q (by omega) hq,potL_get _ _ _ (by rw [← hV];exact hq),hF]
   ·rw [List.getElem?_eq_none (by omega),List.getElem?_eq_none (by rw [potL_len, ← hV];omega)]
  have hd:=dat_blkV (e:=3) (sz:=1) (n:=V) (b:=b7) (cs:=L.map (Value.int .i64)) (H:=[blk pc c.cells 23]) (by rw [List.length_map,hL,Nat.mul_one]) (by omega)
  rw [List.map_map,hLe] at hd
  rw [hLe]
  repeat' (first|refine d1 ?_|refine dd ?_|(show ∀ _:Nat,T _ _ _ _ _;intro _)|(show T _ (.code .ret::_) _ _ _;refine T_retV [dat [.slice (some ⟨b7,0,none⟩) V V] [intsD (potL (colZ c l) (lens l) (mvL n))]] rfl (hd.trans (Hle.nth 0 rfl)) ⟨_,trivial,rfl,rfl⟩))
 have hpV:p+1<V:=by omega
 refine T_if rfl (fun _=>?_) (fun h5=>by have h9:=of_decide_eq_false h5;omega)
 rw [show (((p+1:Nat):Int) - 1)=(p:Int) by omega]
 have hin:=atL_in (lens l) p
 have hne:=at_ne_last (ls:=lens l) (q:=p) (by omega) (by omega)
 have hstep:=rsV_step hKn hno hlsn hin hne
 have hnum:=num_at (lens l) p (by omega)
 obtain⟨mf,-,hmf,hpf,-⟩:=fit_some hKn hno hlsn hin hne
 repeat' (first|refine d1 ?_|refine dd ?_|(show T _ (.ops _ (_::_)::_) _ _ _;refine T_op (OpT.call rfl rfl rfl rfl rfl (fun w hw=>steps20R_spec c A n ca l p w (hg.cls hw) hc hbs h1n h4n (by omega) (by omega)) (fun xs R hR=>?_)))|(show ∀ _:Nat,T _ _ _ _ _;intro _))
 obtain⟨_,-,rfl,rfl⟩:=hR
 obtain⟨S,hS⟩:∃ S,S=posL (lens l) (atL (lens l) p) (mvL n):=⟨_,rfl⟩
 have hSp:0<S.length:=by
  rw [hS]
  exact List.length_pos_of_mem (List.mem_filter.2 ⟨hmf,hpf⟩)
 have hSF:foldB (possM (lens l) (atL (lens l) p)) (mcV (colZ c l) (lens l) (mvL n) (atL (lens l) p)) S (-1)=F p:=by rw [hS,foldB_posL, ← hstep,hF]
 rw [← hS]
 refine T_le (H':=dat [xs] [stepsD (colZ c l) (lens l) (atL (lens l) p) S]::blk b7 (L.map (Value.int .i64)) 3::blk pc c.cells 23::[]) (Hle.refl _) ?_
 refine T_open fun ps hps=>?_
 obtain⟨As,cs9,rfl,hs1,hs2,hsr⟩:=hps.steps
 obtain⟨bs,os,rfl,hsq⟩:=hsr hSp
 have hSb:S.length≤1000:=by
  rw [hS]
  unfold posL
  have h9:=List.length_filter_le (possM (lens l) (atL (lens l) p)) (mvL n)
  have h8:=mvL_15 h1n h4n
  omega
 repeat' (first|refine d1 ?_|refine dd ?_|(show ∀ _:Nat,T _ _ _ _ _;intro _))
 refine T_loopX (fun s:Nat × List Int=>[(10, .int .i64 (s.1:Nat))]) (fun s=>[fz ps,blk b7 (s.2.map (Value.int .i64)) 3,blk pc c.cells 23]) (fun s=>s.1≤S.length∧s.2.length=V∧(∀ q,p+1≤q→q<V→s.2[q]?=some (F q))∧(0<s.1→s.2[p]?=some (foldB (possM (lens l) (atL (lens l) p)) (mcV (colZ c l) (lens l) (mvL n) (atL (lens l) p)) (S.take s.1) (-1)))) (fun s=>S.length - s.1) (0,L) ⟨Nat.zero_le _,hL,hLF,fun h=>absurd h (Nat.lt_irrefl _)⟩ ?_
 rintro⟨k,L2⟩ ⟨hk,hL2,hLF2,hLp⟩
 dsimp only at hk hL2 hLF2 hLp ⊢
 have hLm:(L2.map (Value.int .i64)).length=V:=by rw [List.length_map,hL2]
 repeat' (first|refine d1 ?_|refine dd ?_|(show ∀ _:Nat,T _ _ _ _ _;intro _))
 refine T_if rfl (fun h6=>?_) (fun h6=>?_)
 ·simp only [decide_eq_true_eq] at h6
  have hkS:k<S.length:=by omega
  obtain⟨m,hm⟩:∃ m,S[k]?=some m:=⟨_,List.getElem?_eq_getElem hkS⟩
  obtain⟨hmm,hpo⟩:=posL_mem (hS ▸ List.mem_of_getElem? hm)
  obtain⟨hti,ht1,ht2,ht3⟩:=toM_rem hno hlsn hin hmm hpo
  have hqV:=numL_lt hti
  have hqn:p<numL (lens l) (toM (atL (lens l) p) m):=by
   rw [toM_num _ _ _ (by rw [atL_len]) (fun s hs=>by rw [atL_len,hlsn];exact hno.lt m hmm s hs),hnum]
   have:=stp_pos (ls:=lens l) (hno.ne m hmm) (fun s hs=>by rw [hlsn];exact hno.lt m hmm s hs)
   omega
  have hFq:F (numL (lens l) (toM (atL (lens l) p) m))=rsV (colZ c l) (lens l) (mvL n) (toM (atL (lens l) p) m):=by rw [hF];dsimp only;rw [at_num hti]
  obtain⟨r0,r1,Ac,cc,r2,r3⟩:=hsq k m hm
  obtain⟨q,hq⟩:∃ q,q=numL (lens l) (toM (atL (lens l) p) m):=⟨_,rfl⟩
  rw [← hq, ← hV] at hqV
  rw [← hq] at hqn hFq r0
  have f0:fr ps bs (os+(k:Int).toNat * 3+0)=some (.int .i64 (q:Nat)):=r0
  have f1:fr ps bs (os+(k:Int).toNat * 3+1)=some (.int .i64 (colZ c l (colT (atL (lens l) p) m))):=r1
  have hKb:=colZ_bd hc (show l.length≤32 by omega) (colT (atL (lens l) p) m)
  have hFq2:=hFb q
  obtain⟨X,hX⟩:∃ X,X=foldB (possM (lens l) (atL (lens l) p)) (mcV (colZ c l) (lens l) (mvL n) (atL (lens l) p)) (S.take k) (-1):=⟨_,rfl⟩
  have hXs:foldB (possM (lens l) (atL (lens l) p)) (mcV (colZ c l) (lens l) (mvL n) (atL (lens l) p)) (S.take (k+1)) (-1)=bst X (colZ c l (colT (atL (lens l) p) m)+F q):=by
   rw [take_snoc _ _ _ hm,foldB_app, ← hX,hFq]
   show cond (possM (lens l) (atL (lens l) p) m) _ _=_
   rw [hpo];rfl
  have hX0:k=0→X = -1:=fun h=>by rw [hX,h,List.take_zero];rfl
  have hX1:0<k→0≤X:=fun h=>by
   have h9:=(foldB_spec (p:=possM (lens l) (atL (lens l) p)) (mcV_nn hKn (lens l) (mvL n) (atL (lens l) p)) (S.take k) (-1) (by omega)).2.2.1
   obtain⟨m0,hm0⟩:∃ m0,S[0]?=some m0:=⟨_,List.getElem?_eq_getElem (by omega)⟩
   have hm1:m0∈S.take k:=by
    refine List.mem_of_getElem? (i:=0) ?_
    rw [List.getElem?_take_of_lt h];exact hm0
   rw [hX]
   exact (h9 m0 hm1 (posL_mem (hS ▸ List.mem_of_getElem? hm0)).2).1
  rw [← hX] at hLp
  obtain⟨z,hz,hzX⟩:∃ z,L2[p]?=some z∧(0<k→z=X):=by
   obtain⟨z,hz⟩:∃ z,L2[p]?=some z:=⟨_,List.getElem?_eq_getElem (by omega)⟩
   exact⟨z,hz,fun h=>by have:=hLp h;rw [hz] at this;exact Option.some.inj this⟩
  have hcq:∀ w,RdC w b7 0 (L2.map (Value.int .i64))→RdC w b7 (0+(q:Int).toNat * 1) [.int .i64 (F q)]:=fun w h9=>rdAt h9 (by omega) (hLF2 q (by omega) (by omega))
  have hcp:∀ w,RdC w b7 0 (L2.map (Value.int .i64))→RdC w b7 (0+(p:Int).toNat * 1) [.int .i64 z]:=fun w h9=>rdAt h9 (by omega) hz
  repeat' (first|refine d1 ?_|refine dd ?_|(show T _ (.ops _ (_::_)::_) _ _ _;first|refine T_val rfl (Val.load rfl (fun hg=>rdFz (p:=ps) f0)) rfl rfl rfl ?_|refine T_valC rfl (Val.load rfl (fun hg=>rdFz (p:=ps) f0)) rfl rfl rfl rfl rfl ?_|refine T_val rfl (Val.load rfl (fun hg=>rdFz (p:=ps) f1)) rfl rfl rfl ?_|refine T_valC rfl (Val.load rfl (fun hg=>rdFz (p:=ps) f1)) rfl rfl rfl rfl rfl ?_|refine T_val rfl (Val.load rfl (fun hg=>(fun w hw=>hcq w (rdAll w hw)))) rfl rfl rfl ?_|refine T_valC rfl (Val.load rfl (fun hg=>(fun w hw=>hcq w (rdAll w hw)))) rfl rfl rfl rfl rfl ?_|refine T_val rfl (Val.load rfl (fun hg=>(fun w hw=>hcp w (rdAll w hw)))) rfl rfl rfl ?_|refine T_valC rfl (Val.load rfl (fun hg=>(fun w hw=>hcp w (rdAll w hw)))) rfl rfl rfl rfl rfl ?_)|(show T _ (.run _ _ (_::_) _ _::_) _ _ _;first|refine rv rfl rfl rfl (Val.load rfl (fun hg=>rdFz (p:=ps) f0)) rfl rfl rfl ?_|refine rg rfl rfl rfl (Val.load rfl (fun hg=>rdFz (p:=ps) f0)) rfl rfl rfl rfl rfl ?_|refine rv rfl rfl rfl (Val.load rfl (fun hg=>rdFz (p:=ps) f1)) rfl rfl rfl ?_|refine rg rfl rfl rfl (Val.load rfl (fun hg=>rdFz (p:=ps) f1)) rfl rfl rfl rfl rfl ?_|refine rv rfl rfl rfl (Val.load rfl (fun hg=>(fun w hw=>hcq w (rdAll w hw)))) rfl rfl rfl ?_|refine rg rfl rfl rfl (Val.load rfl (fun hg=>(fun w hw=>hcq w (rdAll w hw)))) rfl rfl rfl rfl rfl ?_|refine rv rfl rfl rfl (Val.load rfl (fun hg=>(fun w hw=>hcp w (rdAll w hw)))) rfl rfl rfl ?_|refine rg rfl rfl rfl (Val.load rfl (fun hg=>(fun w hw=>hcp w (rdAll w hw)))) rfl rfl rfl rfl rfl ?_)|(show ∀ _:Nat,T _ _ _ _ _;intro _))
  refine T_if rfl (fun h7=>?_) (fun h7=>?_)
  ·have hb9:bst X (colZ c l (colT (atL (lens l) p) m)+F q)=colZ c l (colT (atL (lens l) p) m)+F q:=by
    unfold bst
    rw [if_pos]
    simp only [Bool.or_eq_true,decide_eq_true_eq] at h7
    rcases h7 with h7|h7
    ·have:=hX0 (by omega);omega
    ·by_cases hk0:k=0
     ·have:=hX0 hk0;omega
     ·have:=hzX (by omega);omega
   repeat' (first|refine d1 ?_|refine dd ?_|(show T _ (.ops _ (_::_)::_) _ _ _;first|refine T_val rfl (Val.load rfl (fun hg=>rdFz (p:=ps) f0)) rfl rfl rfl ?_|refine T_valC rfl (Val.load rfl (fun hg=>rdFz (p:=ps) f0)) rfl rfl rfl rfl rfl ?_|refine T_val rfl (Val.load rfl (fun hg=>rdFz (p:=ps) f1)) rfl rfl rfl ?_|refine T_valC rfl (Val.load rfl (fun hg=>rdFz (p:=ps) f1)) rfl rfl rfl rfl rfl ?_|refine T_val rfl (Val.load rfl (fun hg=>(fun w hw=>hcq w (rdAll w hw)))) rfl rfl rfl ?_|refine T_valC rfl (Val.load rfl (fun hg=>(fun w hw=>hcq w (rdAll w hw)))) rfl rfl rfl rfl rfl ?_)|(show T _ (.run _ _ (_::_) _ _::_) _ _ _;first|refine rv rfl rfl rfl (Val.load rfl (fun hg=>rdFz (p:=ps) f0)) rfl rfl rfl ?_|refine rg rfl rfl rfl (Val.load rfl (fun hg=>rdFz (p:=ps) f0)) rfl rfl rfl rfl rfl ?_|refine rv rfl rfl rfl (Val.load rfl (fun hg=>rdFz (p:=ps) f1)) rfl rfl rfl ?_|refine rg rfl rfl rfl (Val.load rfl (fun hg=>rdFz (p:=ps) f1)) rfl rfl rfl rfl rfl ?_|refine rv rfl rfl rfl (Val.load rfl (fun hg=>(fun w hw=>hcq w (rdAll w hw)))) rfl rfl rfl ?_|refine rg rfl rfl rfl (Val.load rfl (fun hg=>(fun w hw=>hcq w (rdAll w hw)))) rfl rfl rfl rfl rfl ?_|refine ro rfl rfl (OpT.store rfl rfl rfl rfl (by rw [hLm];omega) ⟨fun hlv=>absurd hlv (by decide +kernel),?_⟩))|(show ∀ _:Nat,T _ _ _ _ _;intro _))
   refine T_backX (k+1,L2.set p (colZ c l (colT (atL (lens l) p) m)+F q)) ⟨by dsimp only;omega,by (try dsimp only);rw [List.length_set,hL2],fun q' h8 h9=>?_,fun _=>?_⟩ (by dsimp only;omega) (hG:=?_)
   ·dsimp only
    rw [List.getElem?_set_ne (by omega)];exact hLF2 q' h8 h9
   ·dsimp only
    rw [hXs,hb9,List.getElem?_set_self (by omega)]
   ·dsimp only
    rw [List.map_set,show 0+(p:Int).toNat * 1=p by omega]
    exact Hle.refl _
  ·have hb9:bst X (colZ c l (colT (atL (lens l) p) m)+F q)=X∧0<k:=by
    simp only [Bool.or_eq_false_iff,decide_eq_false_iff_not] at h7
    have hk0:0<k:=by omega
    have h1:=hzX hk0
    have h2:=hX1 hk0
    unfold bst
    rw [if_neg (by omega)]
    exact⟨rfl,hk0⟩
   repeat' (first|refine d1 ?_|refine dd ?_|(show ∀ _:Nat,T _ _ _ _ _;intro _))
   exact T_backX (k+1,L2) ⟨by dsimp only;omega,hL2,hLF2,fun _=>by (try dsimp only);rw [hXs,hb9.1];exact hLp hb9.2⟩ (by dsimp only;omega)
 ·simp only [decide_eq_false_iff_not] at h6
  obtain rfl:k=S.length:=by omega
  have hFp:=hLp hSp
  rw [List.take_length,hSF] at hFp
  repeat' (first|refine d1 ?_|refine dd ?_|(show ∀ _:Nat,T _ _ _ _ _;intro _))
  refine T_backX (p,L2) ⟨by dsimp only;omega,hL2,fun q h8 h9=>?_⟩ (by dsimp only;omega) (hE:=⟨rfl,trivial⟩) (hG:=Hle.sub)
  dsimp only at h8 ⊢
  by_cases e:q=p
  ·rw [e];exact hFp
  ·exact hLF2 q (by omega) h9
theorem feaE_18 {K:List Int→Int} {ls:List Nat} {Ms:List (List Nat)} {p:List Int} (hl:p.length=volL ls) (h:pg p (volL ls - 1)≠0∨p.any outP=true∨(List.range (volL ls)).any (badQ K ls Ms p)=true):feaE K ls Ms p=18:=by
 unfold feaE
 rw [if_neg (fun h9=>h9 hl),if_pos h]
theorem feasibleR20_spec (c:Costs) (A:Option Addr) (n ca:Nat) (l:List TS) (Ap:Option Addr) (np cp:Nat) (p:List Int) (w:World) (hg:Grp w A n l) (hc:costE c=0) (hbs:badS l=false) (h1n:1≤n) (h4n:n≤4) (hv:volL (lens l)≤65536) (hp:Src w 1 Ap np (p.map (Value.int .i64))) (hnp:p.length=np) (hpb:np≤1000) :
  Spec Tryz.prog 73 [c.val, .slice A n ca, .slice Ap np cp] w (fun v R=>v = .int .i64 (feaE (colZ c l) (lens l) (mvL n) p)∧R=[]):=by
 have hn:=hg.hn
 have hll:=lens_len l
 have hlsn:(lens l).length=n:=by omega
 have hno:=mvL_ok h1n h4n
 refine spec_of sg Tryz.func73 rfl rfl rfl ?_
 refine T_op (OpT.box (cs:=c.cells) rfl rfl rfl rfl rfl rfl rfl (fun pc=>?_))
 obtain⟨V,hV⟩:∃ V,V=volL (lens l):=⟨_,rfl⟩
 have hVp:0<V:=by rw [hV];exact volL_pos _
 repeat' (first|refine d1 ?_|refine dd ?_|(show T _ (.ops _ (_::_)::_) _ _ _;first|refine T_call rfl rfl rfl rfl rfl (fun w hw=>size20R_spec A n ca l w (hg.cls hw) hv) ?_|refine T_callC rfl rfl rfl rfl rfl rfl rfl (fun hg w hw=>size20R_spec A n ca l w (hg.cls hw) hv) ?_)|(show T _ (.run _ _ (_::_) _ _::_) _ _ _;first|refine rc rfl rfl rfl rfl rfl rfl rfl (fun w hw=>size20R_spec A n ca l w (hg.cls hw) hv) ?_|refine rcG rfl rfl rfl rfl rfl rfl rfl rfl rfl (fun hg w hw=>size20R_spec A n ca l w (hg.cls hw) hv) ?_)|(show ∀ _:Nat,T _ _ _ _ _;intro _))
 rw [← hV] at hv ⊢
 refine T_if rfl (fun h=>?_) (fun h=>?_)
 ·have e:feaE (colZ c l) (lens l) (mvL n) p=9:=if_pos (by rw [hnp, ← hV];simp at h;omega)
  rw [e]
  repeat' (first|refine d1 ?_|refine dd ?_|(show ∀ _:Nat,T _ _ _ _ _;intro _)|(show T _ (.code .ret::_) _ _ _;refine T_retV [] rfl (Hle.none _) ⟨rfl,rfl⟩))
 have hnV:np=V:=by simp at h;omega
 clear h
 have hplV:p.length=volL (lens l):=by omega
 obtain⟨b,o,rfl⟩:=hp.base (by omega)
 have hrd:∀ q,q<np→RdC w b (o+(q:Int).toNat * 1) [.int .i64 (pg p q)]:=fun q hq=>src_int hp hq (pg_some (by omega))
 repeat' (first|refine d1 ?_|refine dd ?_|(show ∀ _:Nat,T _ _ _ _ _;intro _))
 refine T_loopX (fun k:Nat=>[(7, .int .i64 (k:Nat))]) (fun _=>[blk pc c.cells 23]) (fun k=>k≤np∧∀ j,j<k→outP (pg p j)=false∧(j=np - 1→pg p j=0)) (fun k=>np - k) 0 ⟨Nat.zero_le _,fun j h=>absurd h (Nat.not_lt_zero j)⟩ ?_
 rintro k ⟨hk,hok⟩
 repeat' (first|refine d1 ?_|refine dd ?_|(show ∀ _:Nat,T _ _ _ _ _;intro _))
 refine T_if rfl (fun h1=>?_) (fun h1=>?_)
 ·simp only [decide_eq_true_eq] at h1
  have hkn:k<np:=by omega
  have hr:=hrd k hkn
  repeat' (first|refine d1 ?_|refine dd ?_|(show ∀ _:Nat,T _ _ _ _ _;intro _))
  refine T_if rfl (fun h2=>?_) (fun h2=>?_)
  ·have e:feaE (colZ c l) (lens l) (mvL n) p=18:=by
    refine feaE_18 hplV ?_
    simp only [Bool.or_eq_true,Bool.and_eq_true,decide_eq_true_eq,Bool.not_eq_true',decide_eq_false_iff_not] at h2
    by_cases ho:outP (pg p k)=true
    ·exact .inr (.inl (List.any_eq_true.2 ⟨pg p k,List.mem_of_getElem? (pg_some (by omega)),ho⟩))
    ·unfold outP at ho
     simp only [Bool.or_eq_true,decide_eq_true_eq] at ho
     refine .inl ?_
     rw [← hV,show V - 1=k by omega]
     omega
   rw [e]
   repeat' (first|refine d1 ?_|refine dd ?_|(show ∀ _:Nat,T _ _ _ _ _;intro _)|(show T _ (.code .ret::_) _ _ _;refine T_retV [] rfl (Hle.none _) ⟨rfl,rfl⟩))
  ·simp only [Bool.or_eq_false_iff,Bool.and_eq_false_iff,decide_eq_false_iff_not,Bool.not_eq_false',decide_eq_true_eq] at h2
   repeat' (first|refine d1 ?_|refine dd ?_|(show ∀ _:Nat,T _ _ _ _ _;intro _))
   refine T_backX (k+1) ⟨by omega,fun j hj=>?_⟩ (by omega)
   by_cases e:j=k
   ·subst e
    refine ⟨?_,fun h9=>?_⟩
    ·unfold outP
     rw [Bool.or_eq_false_iff,decide_eq_false_iff_not,decide_eq_false_iff_not]
     omega
    ·omega
   ·exact hok j (by omega)
 simp only [decide_eq_false_iff_not] at h1
 obtain rfl:k=np:=by omega
 have hlast:pg p (volL (lens l) - 1)=0:=(hok (volL (lens l) - 1) (by omega)).2 (by omega)
 have hnout:p.any outP=false:=List.any_eq_false.2 fun z hz=>by
  obtain⟨q,hq,e⟩:=List.getElem_of_mem hz
  have h9:=(hok q (by omega)).1
  have h8:=pg_some hq
  rw [List.getElem?_eq_getElem hq,e] at h8
  rw [Option.some.inj h8,h9];simp
 have hpb2:∀ q,q<k→0≤pg p q∧pg p q≤1073741824:=fun q hq=>by
  have h9:=(hok q hq).1
  unfold outP at h9
  rw [Bool.or_eq_false_iff,decide_eq_false_iff_not,decide_eq_false_iff_not] at h9
  omega
 clear hok h1 hk
 repeat' (first|refine d1 ?_|refine dd ?_|(show ∀ _:Nat,T _ _ _ _ _;intro _))
 refine T_loopX (fun q:Nat=>[(8, .int .i64 (q:Nat))]) (fun _=>[blk pc c.cells 23]) (fun q=>q≤k∧∀ j,j<q→badQ (colZ c l) (lens l) (mvL n) p j=false) (fun q=>k - q) 0 ⟨Nat.zero_le _,fun j h=>absurd h (Nat.not_lt_zero j)⟩ ?_
 rintro q ⟨hq,hok⟩
 repeat' (first|refine d1 ?_|refine dd ?_|(show ∀ _:Nat,T _ _ _ _ _;intro _))
 refine T_if rfl (fun h1=>?_) (fun h1=>?_)
 ·simp only [decide_eq_true_eq] at h1
  have hqk:q<k:=by omega
  have hin:=atL_in (lens l) q
  repeat' (first|refine d1 ?_|refine dd ?_|(show T _ (.ops _ (_::_)::_) _ _ _;refine T_op (OpT.call rfl rfl rfl rfl rfl (fun w hw=>steps20R_spec c A n ca l q w (hg.cls hw) hc hbs h1n h4n (by omega) (by omega)) (fun xs R hR=>?_)))|(show ∀ _:Nat,T _ _ _ _ _;intro _))
  obtain⟨_,-,rfl,rfl⟩:=hR
  obtain⟨S,hS⟩:∃ S,S=posL (lens l) (atL (lens l) q) (mvL n):=⟨_,rfl⟩
  rw [← hS]
  refine T_le (H':=dat [xs] [stepsD (colZ c l) (lens l) (atL (lens l) q) S]::blk pc c.cells 23::[]) (Hle.refl _) ?_
  refine T_open fun ps hps=>?_
  obtain⟨As,cs9,rfl,hs1,hs2,hsr⟩:=hps.steps
  have hSb:S.length≤1000:=by
   rw [hS]
   unfold posL
   have h9:=List.length_filter_le (possM (lens l) (atL (lens l) q)) (mvL n)
   have h8:=mvL_15 h1n h4n
   omega
  repeat' (first|refine d1 ?_|refine dd ?_|(show ∀ _:Nat,T _ _ _ _ _;intro _))
  refine T_loopX (fun s:Nat=>[(10, .int .i64 (s:Nat))]) (fun _=>[fz ps,blk pc c.cells 23]) (fun s=>s≤S.length∧∀ j y,j<s→S[j]?=some y→¬ viaP (colZ c l) (lens l) p (atL (lens l) q) y<pg p q) (fun s=>S.length - s) 0 ⟨Nat.zero_le _,fun j y h=>absurd h (Nat.not_lt_zero j)⟩ ?_
  rintro s ⟨hs,hnf⟩
  repeat' (first|refine d1 ?_|refine dd ?_|(show ∀ _:Nat,T _ _ _ _ _;intro _))
  refine T_if rfl (fun h6=>?_) (fun h6=>?_)
  ·simp only [decide_eq_true_eq] at h6
   have hsS:s<S.length:=by omega
   obtain⟨bs,os,rfl,hsq⟩:=hsr (by omega)
   obtain⟨m,hm⟩:∃ m,S[s]?=some m:=⟨_,List.getElem?_eq_getElem hsS⟩
   obtain⟨hmm,hpo⟩:=posL_mem (hS ▸ List.mem_of_getElem? hm)
   obtain⟨hti,ht1,ht2,ht3⟩:=toM_rem hno hlsn hin hmm hpo
   have huV:=numL_lt hti
   obtain⟨r0,r1,Ac,cc,r2,r3⟩:=hsq s m hm
   obtain⟨u,hu⟩:∃ u,u=numL (lens l) (toM (atL (lens l) q) m):=⟨_,rfl⟩
   rw [← hu] at huV r0
   have hvia:viaP (colZ c l) (lens l) p (atL (lens l) q) m=colZ c l (colT (atL (lens l) q) m)+pg p u:=by unfold viaP;rw [hu]
   have f0:fr ps bs (os+(s:Int).toNat * 3+0)=some (.int .i64 (u:Nat)):=r0
   have f1:fr ps bs (os+(s:Int).toNat * 3+1)=some (.int .i64 (colZ c l (colT (atL (lens l) q) m))):=r1
   have hKb:=colZ_bd hc (show l.length≤32 by omega) (colT (atL (lens l) q) m)
   have hru:=hrd u (by omega)
   have hrq:=hrd q (by omega)
   have hpu:=hpb2 u (by omega)
   repeat' (first|refine d1 ?_|refine dd ?_|(show T _ (.ops _ (_::_)::_) _ _ _;first|refine T_val rfl (Val.load rfl (fun hg=>rdFz (p:=ps) f0)) rfl rfl rfl ?_|refine T_valC rfl (Val.load rfl (fun hg=>rdFz (p:=ps) f0)) rfl rfl rfl rfl rfl ?_|refine T_val rfl (Val.load rfl (fun hg=>rdFz (p:=ps) f1)) rfl rfl rfl ?_|refine T_valC rfl (Val.load rfl (fun hg=>rdFz (p:=ps) f1)) rfl rfl rfl rfl rfl ?_|refine T_val rfl (Val.load rfl (fun hg=>rdOld hru)) rfl rfl rfl ?_|refine T_valC rfl (Val.load rfl (fun hg=>rdOld hru)) rfl rfl rfl rfl rfl ?_|refine T_val rfl (Val.load rfl (fun hg=>rdOld hrq)) rfl rfl rfl ?_|refine T_valC rfl (Val.load rfl (fun hg=>rdOld hrq)) rfl rfl rfl rfl rfl ?_)|(show T _ (.run _ _ (_::_) _ _::_) _ _ _;first|refine rv rfl rfl rfl (Val.load rfl (fun hg=>rdFz (p:=ps) f0)) rfl rfl rfl ?_|refine rg rfl rfl rfl (Val.load rfl (fun hg=>rdFz (p:=ps) f0)) rfl rfl rfl rfl rfl ?_|refine rv rfl rfl rfl (Val.load rfl (fun hg=>rdFz (p:=ps) f1)) rfl rfl rfl ?_|refine rg rfl rfl rfl (Val.load rfl (fun hg=>rdFz (p:=ps) f1)) rfl rfl rfl rfl rfl ?_|refine rv rfl rfl rfl (Val.load rfl (fun hg=>rdOld hru)) rfl rfl rfl ?_|refine rg rfl rfl rfl (Val.load rfl (fun hg=>rdOld hru)) rfl rfl rfl rfl rfl ?_|refine rv rfl rfl rfl (Val.load rfl (fun hg=>rdOld hrq)) rfl rfl rfl ?_|refine rg rfl rfl rfl (Val.load rfl (fun hg=>rdOld hrq)) rfl rfl rfl rfl rfl ?_)|(show ∀ _:Nat,T _ _ _ _ _;intro _))
   refine T_if rfl (fun h7=>?_) (fun h7=>?_)
   ·have e:feaE (colZ c l) (lens l) (mvL n) p=18:=by
     refine feaE_18 hplV (.inr (.inr (List.any_eq_true.2 ⟨q,List.mem_range.2 (by omega),?_⟩)))
     unfold badQ
     rw [List.any_eq_true]
     refine ⟨m,hS ▸ List.mem_of_getElem? hm,?_⟩
     rw [hvia]
     simpa using h7
    rw [e]
    repeat' (first|refine d1 ?_|refine dd ?_|(show ∀ _:Nat,T _ _ _ _ _;intro _)|(show T _ (.code .ret::_) _ _ _;refine T_retV [] rfl (Hle.none _) ⟨rfl,rfl⟩))
   ·repeat' (first|refine d1 ?_|refine dd ?_|(show ∀ _:Nat,T _ _ _ _ _;intro _))
    refine T_backX (s+1) ⟨by omega,fun j y hj hy=>?_⟩ (by omega)
    by_cases e:j=s
    ·subst e
     rw [hm] at hy
     cases hy
     rw [hvia]
     simpa using h7
    ·exact hnf j y (by omega) hy
  ·simp only [decide_eq_false_iff_not] at h6
   obtain rfl:s=S.length:=by omega
   repeat' (first|refine d1 ?_|refine dd ?_|(show ∀ _:Nat,T _ _ _ _ _;intro _))
   refine T_backX (q+1) ⟨by omega,fun j hj=>?_⟩ (by omega) (hG:=Hle.sub)
   by_cases e:j=q
   ·subst e
    unfold badQ
    rw [List.any_eq_false]
    intro y hy
    rw [← hS] at hy
    obtain⟨i,hi,hie⟩:=List.getElem_of_mem hy
    have h9:=hnf i y hi (by rw [List.getElem?_eq_getElem hi,hie])
    rw [decide_eq_true_eq]
    exact h9
   ·exact hok j (by omega)
 ·simp only [decide_eq_false_iff_not] at h1
  obtain rfl:q=k:=by omega
  have e:feaE (colZ c l) (lens l) (mvL n) p=0:=by
   unfold feaE
   rw [if_neg (fun h9=>h9 hplV),if_neg]
   rintro (h9|h9|h9)
   ·exact h9 hlast
   ·rw [hnout] at h9;cases h9
   ·obtain⟨j,hj,hb9⟩:=List.any_eq_true.1 h9
    rw [hok j (by have:=List.mem_range.1 hj;omega)] at hb9
    cases hb9
  rw [e]
  repeat' (first|refine d1 ?_|refine dd ?_|(show ∀ _:Nat,T _ _ _ _ _;intro _)|(show T _ (.code .ret::_) _ _ _;refine T_retV [] rfl (Hle.none _) ⟨rfl,rfl⟩))
theorem checkR20_spec (c:Costs) (A:Option Addr) (n ca:Nat) (l:List TS) (Ap:Option Addr) (np cp:Nat) (p:List Int) (w:World) (hf:Fit w A n l) (hp:Src w 1 Ap np (p.map (Value.int .i64))) (hnp:p.length=np) (hpb:np≤1000) :
  Spec Tryz.prog 29 [c.val, .slice A n ca, .slice Ap np cp] w (fun v R=>v = .int .i64 (chkV20 c l p)∧R=[]):=by
 have hn:=hf.hn
 refine spec_of sg Tryz.func29 rfl rfl rfl ?_
 refine T_op (OpT.box (cs:=c.cells) rfl rfl rfl rfl rfl rfl rfl (fun pc=>?_))
 repeat' (first|refine d1 ?_|refine dd ?_|(show T _ (.ops _ (_::_)::_) _ _ _;first|refine T_call rfl rfl rfl rfl rfl (fun w hw=>check20R_spec c A n ca l w (hf.cls hw)) ?_|refine T_callC rfl rfl rfl rfl rfl rfl rfl (fun hg w hw=>check20R_spec c A n ca l w (hf.cls hw)) ?_)|(show T _ (.run _ _ (_::_) _ _::_) _ _ _;first|refine rc rfl rfl rfl rfl rfl rfl rfl (fun w hw=>check20R_spec c A n ca l w (hf.cls hw)) ?_|refine rcG rfl rfl rfl rfl rfl rfl rfl rfl rfl (fun hg w hw=>check20R_spec c A n ca l w (hf.cls hw)) ?_)|(show ∀ _:Nat,T _ _ _ _ _;intro _))
 by_cases hop:opE c l≠0
 ·have e:chkV20 c l p=opE c l:=if_pos hop
  rw [e]
  refine T_if rfl (fun _=>?_) (fun h=>by exfalso;simp at h;exact hop h)
  repeat' (first|refine d1 ?_|refine dd ?_|(show ∀ _:Nat,T _ _ _ _ _;intro _)|(show T _ (.code .ret::_) _ _ _;refine T_retV [] rfl (Hle.none _) ⟨rfl,rfl⟩))
 have hop:opE c l=0:=by simpa using hop
 have hu:=hf.use hop
 have h1:=hu.h1
 have h4:=hu.h4
 have hg:=hf.grp (plE_ok (opE_ok hop).1).2.1
 rw [hu.chk,hop,hn]
 refine T_if rfl (fun h=>by exfalso;simp at h) (fun _=>?_)
 repeat' (first|refine d1 ?_|refine dd ?_|(show T _ (.ops _ (_::_)::_) _ _ _;first|refine T_call rfl rfl rfl rfl rfl (fun w hw=>feasibleR20_spec c A n ca l Ap np cp p w (hg.cls hw) hu.hc hu.hbs (by omega) (by omega) hu.hv (rdSrc hp w hw) hnp hpb) ?_|refine T_callC rfl rfl rfl rfl rfl rfl rfl (fun hg w hw=>feasibleR20_spec c A n ca l Ap np cp p w (hg.cls hw) hu.hc hu.hbs (by omega) (by omega) hu.hv (rdSrc hp w hw) hnp hpb) ?_)|(show T _ (.run _ _ (_::_) _ _::_) _ _ _;first|refine rc rfl rfl rfl rfl rfl rfl rfl (fun w hw=>feasibleR20_spec c A n ca l Ap np cp p w (hg.cls hw) hu.hc hu.hbs (by omega) (by omega) hu.hv (rdSrc hp w hw) hnp hpb) ?_|refine rcG rfl rfl rfl rfl rfl rfl rfl rfl rfl (fun hg w hw=>feasibleR20_spec c A n ca l Ap np cp p w (hg.cls hw) hu.hc hu.hbs (by omega) (by omega) hu.hv (rdSrc hp w hw) hnp hpb) ?_)|(show ∀ _:Nat,T _ _ _ _ _;intro _)|(show T _ (.code .ret::_) _ _ _;refine T_retV [] rfl (Hle.none _) ⟨rfl,rfl⟩))
theorem slackR20_spec (c:Costs) (A:Option Addr) (n ca:Nat) (l:List TS) (x:Value) (cols:List (List Int)) (Ap:Option Addr) (np cp:Nat) (p:List Int) (w:World) (hf:Fit w A n l) (hx:Rd (wr w) [x] [rowsD cols]) (hcl:cols.length≤1000) (hp:Src w 1 Ap np (p.map (Value.int .i64))) (hnp:p.length=np) (hpb:np≤1000) :
  Spec Tryz.prog 25 [c.val, .slice A n ca,x, .slice Ap np cp] w (fun v R=>v = .tuple #[.int .i64 (slkV c l cols p).1, .int .i64 (slkV c l cols p).2]∧R=[]):=by
 have hn:=hf.hn
 refine spec_of sg Tryz.func25 rfl rfl rfl ?_
 refine T_op (OpT.box (cs:=c.cells) rfl rfl rfl rfl rfl rfl rfl (fun pc=>?_))
 repeat' (first|refine d1 ?_|refine dd ?_|(show T _ (.ops _ (_::_)::_) _ _ _;first|refine T_call rfl rfl rfl rfl rfl (fun w hw=>check20R_spec c A n ca l w (hf.cls hw)) ?_|refine T_callC rfl rfl rfl rfl rfl rfl rfl (fun hg w hw=>check20R_spec c A n ca l w (hf.cls hw)) ?_)|(show T _ (.run _ _ (_::_) _ _::_) _ _ _;first|refine rc rfl rfl rfl rfl rfl rfl rfl (fun w hw=>check20R_spec c A n ca l w (hf.cls hw)) ?_|refine rcG rfl rfl rfl rfl rfl rfl rfl rfl rfl (fun hg w hw=>check20R_spec c A n ca l w (hf.cls hw)) ?_)|(show ∀ _:Nat,T _ _ _ _ _;intro _))
 by_cases hop:opE c l≠0
 ·have e:slkV c l cols p=(0,opE c l):=if_pos hop
  rw [e]
  refine T_if rfl (fun _=>?_) (fun h=>by exfalso;simp at h;exact hop h)
  repeat' (first|refine d1 ?_|refine dd ?_|(show ∀ _:Nat,T _ _ _ _ _;intro _)|(show T _ (.code .ret::_) _ _ _;refine T_retV [] rfl (Hle.none _) ⟨rfl,rfl⟩))
 have hop:opE c l=0:=by simpa using hop
 have hu:=hf.use hop
 have h1:=hu.h1
 have h4:=hu.h4
 have hg:=hf.grp (plE_ok (opE_ok hop).1).2.1
 rw [hop]
 refine T_if rfl (fun h=>by exfalso;simp at h) (fun _=>?_)
 repeat' (first|refine d1 ?_|refine dd ?_|(show T _ (.ops _ (_::_)::_) _ _ _;first|refine T_call rfl rfl rfl rfl rfl (fun w hw=>check19R_spec A n ca l x cols w (hg.cls hw) (hx.old hw)) ?_|refine T_callC rfl rfl rfl rfl rfl rfl rfl (fun hg w hw=>check19R_spec A n ca l x cols w (hg.cls hw) (hx.old hw)) ?_)|(show T _ (.run _ _ (_::_) _ _::_) _ _ _;first|refine rc rfl rfl rfl rfl rfl rfl rfl (fun w hw=>check19R_spec A n ca l x cols w (hg.cls hw) (hx.old hw)) ?_|refine rcG rfl rfl rfl rfl rfl rfl rfl rfl rfl (fun hg w hw=>check19R_spec A n ca l x cols w (hg.cls hw) (hx.old hw)) ?_)|(show ∀ _:Nat,T _ _ _ _ _;intro _))
 refine T_if rfl (fun h=>?_) (fun h=>?_)
 ·have e:slkV c l cols p=(0,19):=by unfold slkV;rw [if_neg (by simpa using hop),if_pos (by simpa using h)]
  rw [e]
  repeat' (first|refine d1 ?_|refine dd ?_|(show ∀ _:Nat,T _ _ _ _ _;intro _)|(show T _ (.code .ret::_) _ _ _;refine T_retV [] rfl (Hle.none _) ⟨rfl,rfl⟩))
 have hal:chkC l cols=0:=by simpa using h
 clear h
 repeat' (first|refine d1 ?_|refine dd ?_|(show T _ (.ops _ (_::_)::_) _ _ _;first|refine T_call rfl rfl rfl rfl rfl (fun w hw=>feasibleR20_spec c A n ca l Ap np cp p w (hg.cls hw) hu.hc hu.hbs (by omega) (by omega) hu.hv (rdSrc hp w hw) hnp hpb) ?_|refine T_callC rfl rfl rfl rfl rfl rfl rfl (fun hg w hw=>feasibleR20_spec c A n ca l Ap np cp p w (hg.cls hw) hu.hc hu.hbs (by omega) (by omega) hu.hv (rdSrc hp w hw) hnp hpb) ?_)|(show T _ (.run _ _ (_::_) _ _::_) _ _ _;first|refine rc rfl rfl rfl rfl rfl rfl rfl (fun w hw=>feasibleR20_spec c A n ca l Ap np cp p w (hg.cls hw) hu.hc hu.hbs (by omega) (by omega) hu.hv (rdSrc hp w hw) hnp hpb) ?_|refine rcG rfl rfl rfl rfl rfl rfl rfl rfl rfl (fun hg w hw=>feasibleR20_spec c A n ca l Ap np cp p w (hg.cls hw) hu.hc hu.hbs (by omega) (by omega) hu.hv (rdSrc hp w hw) hnp hpb) ?_)|(show ∀ _:Nat,T _ _ _ _ _;intro _))
 refine T_if rfl (fun h=>?_) (fun h=>?_)
 ·have e:slkV c l cols p=(0,feaE (colZ c l) (lens l) (mvL n) p):=by unfold slkV;rw [if_neg (by simpa using hop),if_neg (by simpa using hal),hn,if_pos (by simpa using h)]
  rw [e]
  repeat' (first|refine d1 ?_|refine dd ?_|(show ∀ _:Nat,T _ _ _ _ _;intro _)|(show T _ (.code .ret::_) _ _ _;refine T_retV [] rfl (Hle.none _) ⟨rfl,rfl⟩))
 have hfe:feaE (colZ c l) (lens l) (mvL n) p=0:=by simpa using h
 clear h
 have hfe':feaE (colZ c l) (lens l) (mvL l.length) p=0:=by rw [hn];exact hfe
 have hok:=chkC_cols hal
 rw [hu.slk hok hfe']
 have hus:=hu.us
 have hcw:costW c l cols=(totZ c l cols,0):=by unfold costW;rw [if_neg (by simpa using hus),if_pos (okC_true hok)]
 obtain⟨f1,f2,f3,f4⟩:=feaE_ok.1 hfe
 have hVp:=volL_pos (lens l)
 obtain⟨b,o,rfl⟩:=hp.base (by omega)
 have hp0:RdC w b (o+(0:Int).toNat * 1) [.int .i64 (pg p 0)]:=src_int hp (k:=0) (by omega) (pg_some (by omega))
 have hpz:=f3 (pg p 0) (List.mem_of_getElem? (pg_some (p:=p) (q:=0) (by omega)))
 have htz:=totZ_bd hu.hc (l:=l) (by omega) cols
 repeat' (first|refine d1 ?_|refine dd ?_|(show T _ (.ops _ (_::_)::_) _ _ _;first|refine T_call rfl rfl rfl rfl rfl (fun w hw=>costSumR_spec c A n ca l x cols w (hg.cls hw) (hx.old hw) hcl) ?_|refine T_callC rfl rfl rfl rfl rfl rfl rfl (fun hg w hw=>costSumR_spec c A n ca l x cols w (hg.cls hw) (hx.old hw) hcl) ?_)|(show T _ (.run _ _ (_::_) _ _::_) _ _ _;first|refine rc rfl rfl rfl rfl rfl rfl rfl (fun w hw=>costSumR_spec c A n ca l x cols w (hg.cls hw) (hx.old hw) hcl) ?_|refine rcG rfl rfl rfl rfl rfl rfl rfl rfl rfl (fun hg w hw=>costSumR_spec c A n ca l x cols w (hg.cls hw) (hx.old hw) hcl) ?_)|(show ∀ _:Nat,T _ _ _ _ _;intro _))
 rw [hcw]
 repeat' (first|refine d1 ?_|refine dd ?_|(show ∀ _:Nat,T _ _ _ _ _;intro _))
 refine T_if rfl (fun h=>by exfalso;simp at h) (fun _=>?_)
 repeat' (first|refine d1 ?_|refine dd ?_|(show T _ (.ops _ (_::_)::_) _ _ _;first|refine T_val rfl (Val.load rfl (fun hg=>rdOld hp0)) rfl rfl rfl ?_|refine T_valC rfl (Val.load rfl (fun hg=>rdOld hp0)) rfl rfl rfl rfl rfl ?_)|(show T _ (.run _ _ (_::_) _ _::_) _ _ _;first|refine rv rfl rfl rfl (Val.load rfl (fun hg=>rdOld hp0)) rfl rfl rfl ?_|refine rg rfl rfl rfl (Val.load rfl (fun hg=>rdOld hp0)) rfl rfl rfl rfl rfl ?_)|(show ∀ _:Nat,T _ _ _ _ _;intro _)|(show T _ (.code .ret::_) _ _ _;refine T_retV [] rfl (Hle.none _) ⟨rfl,rfl⟩))
theorem verifyR20_spec (c:Costs) (A:Option Addr) (n ca:Nat) (l:List TS) (x:Value) (cols:List (List Int)) (Ap:Option Addr) (np cp:Nat) (p:List Int) (w:World) (hf:Fit w A n l) (hx:Rd (wr w) [x] [rowsD cols]) (hcl:cols.length≤1000) (hp:Src w 1 Ap np (p.map (Value.int .i64))) (hnp:p.length=np) (hpb:np≤1000) :
  Spec Tryz.prog 31 [c.val, .slice A n ca,x, .slice Ap np cp] w (fun v R=>v = .int .i64 (verV20 c l cols p)∧R=[]):=by
 refine spec_of sg Tryz.func31 rfl rfl rfl ?_
 refine T_op (OpT.box (cs:=c.cells) rfl rfl rfl rfl rfl rfl rfl (fun pc=>?_))
 repeat' (first|refine d1 ?_|refine dd ?_|(show T _ (.ops _ (_::_)::_) _ _ _;first|refine T_call rfl rfl rfl rfl rfl (fun w hw=>slackR20_spec c A n ca l x cols Ap np cp p w (hf.cls hw) (hx.old hw) hcl (rdSrc hp w hw) hnp hpb) ?_|refine T_callC rfl rfl rfl rfl rfl rfl rfl (fun hg w hw=>slackR20_spec c A n ca l x cols Ap np cp p w (hf.cls hw) (hx.old hw) hcl (rdSrc hp w hw) hnp hpb) ?_)|(show T _ (.run _ _ (_::_) _ _::_) _ _ _;first|refine rc rfl rfl rfl rfl rfl rfl rfl (fun w hw=>slackR20_spec c A n ca l x cols Ap np cp p w (hf.cls hw) (hx.old hw) hcl (rdSrc hp w hw) hnp hpb) ?_|refine rcG rfl rfl rfl rfl rfl rfl rfl rfl rfl (fun hg w hw=>slackR20_spec c A n ca l x cols Ap np cp p w (hf.cls hw) (hx.old hw) hcl (rdSrc hp w hw) hnp hpb) ?_)|(show ∀ _:Nat,T _ _ _ _ _;intro _))
 refine T_if rfl (fun h=>?_) (fun h=>?_)
 ·have e:verV20 c l cols p=(slkV c l cols p).2:=if_pos (by simpa using h)
  rw [e]
  repeat' (first|refine d1 ?_|refine dd ?_|(show ∀ _:Nat,T _ _ _ _ _;intro _)|(show T _ (.code .ret::_) _ _ _;refine T_retV [] rfl (Hle.none _) ⟨rfl,rfl⟩))
 ·have h0:(slkV c l cols p).2=0:=by simpa using h
  repeat' (first|refine d1 ?_|refine dd ?_|(show ∀ _:Nat,T _ _ _ _ _;intro _))
  refine T_if rfl (fun h=>?_) (fun h=>?_)
  ·have e:verV20 c l cols p=18:=by unfold verV20;rw [if_neg (by simpa using h0),if_pos (by simpa using h)]
   rw [e]
   repeat' (first|refine d1 ?_|refine dd ?_|(show ∀ _:Nat,T _ _ _ _ _;intro _)|(show T _ (.code .ret::_) _ _ _;refine T_retV [] rfl (Hle.none _) ⟨rfl,rfl⟩))
  ·have e:verV20 c l cols p=0:=by unfold verV20;rw [if_neg (by simpa using h0),if_neg (by simpa using h)]
   rw [e]
   repeat' (first|refine d1 ?_|refine dd ?_|(show ∀ _:Nat,T _ _ _ _ _;intro _)|(show T _ (.code .ret::_) _ _ _;refine T_retV [] rfl (Hle.none _) ⟨rfl,rfl⟩))
theorem placeR20_spec (A:Option Addr) (n ca:Nat) (l:List TS) (At:Option Addr) (nt ct:Nat) (v:List Int) (w:World) (hf:Fit w A n l) (hs:Src w 1 At nt (v.map (Value.int .i64))) (hnt:v.length=nt) (hb9:nt≤1000) :
  Spec Tryz.prog 21 [.slice A n ca, .slice At nt ct] w (fun u R=>u = .tuple #[.int .i64 (plcV l v).1, .int .i64 (plcV l v).2]∧R=[]):=by
 have hn:=hf.hn
 refine spec_of sg Tryz.func21 rfl rfl rfl ?_
 repeat' (first|refine d1 ?_|refine dd ?_|(show T _ (.ops _ (_::_)::_) _ _ _;first|refine T_call rfl rfl rfl rfl rfl (fun w hw=>srcs20R_spec A n ca l w (hf.cls hw)) ?_|refine T_callC rfl rfl rfl rfl rfl rfl rfl (fun hg w hw=>srcs20R_spec A n ca l w (hf.cls hw)) ?_)|(show T _ (.run _ _ (_::_) _ _::_) _ _ _;first|refine rc rfl rfl rfl rfl rfl rfl rfl (fun w hw=>srcs20R_spec A n ca l w (hf.cls hw)) ?_|refine rcG rfl rfl rfl rfl rfl rfl rfl rfl rfl (fun hg w hw=>srcs20R_spec A n ca l w (hf.cls hw)) ?_)|(show ∀ _:Nat,T _ _ _ _ _;intro _))
 by_cases hs0:srcE20 l≠0
 ·have e:plcV l v=(0,srcE20 l):=by unfold plcV;rw [(opE_src (c:=c0) hs0).2,if_pos hs0]
  rw [e]
  refine T_if rfl (fun _=>?_) (fun h=>by exfalso;simp at h;exact hs0 h)
  repeat' (first|refine d1 ?_|refine dd ?_|(show ∀ _:Nat,T _ _ _ _ _;intro _)|(show T _ (.code .ret::_) _ _ _;refine T_retV [] rfl (Hle.none _) ⟨rfl,rfl⟩))
 have hs0:srcE20 l=0:=by simpa using hs0
 obtain⟨h1,hbg⟩:=srcE20_ok hs0
 have hpf:=(opE_few (c:=c0) hs0).2
 have hg:=hf.grp hbg
 have hll:=lens_len l
 rw [hs0]
 refine T_if rfl (fun h=>by exfalso;simp at h) (fun _=>?_)
 repeat' (first|refine d1 ?_|refine dd ?_|(show T _ (.ops _ (_::_)::_) _ _ _;first|refine T_call rfl rfl rfl rfl rfl (fun w hw=>few20R_spec A n ca l w (hg.cls hw)) ?_|refine T_callC rfl rfl rfl rfl rfl rfl rfl (fun hg w hw=>few20R_spec A n ca l w (hg.cls hw)) ?_)|(show T _ (.run _ _ (_::_) _ _::_) _ _ _;first|refine rc rfl rfl rfl rfl rfl rfl rfl (fun w hw=>few20R_spec A n ca l w (hg.cls hw)) ?_|refine rcG rfl rfl rfl rfl rfl rfl rfl rfl rfl (fun hg w hw=>few20R_spec A n ca l w (hg.cls hw)) ?_)|(show ∀ _:Nat,T _ _ _ _ _;intro _))
 by_cases hf0:fewE l≠0
 ·have e:plcV l v=(0,fewE l):=by unfold plcV;rw [hpf,if_pos hf0]
  rw [e]
  refine T_if rfl (fun _=>?_) (fun h=>by exfalso;simp at h;exact hf0 h)
  repeat' (first|refine d1 ?_|refine dd ?_|(show ∀ _:Nat,T _ _ _ _ _;intro _)|(show T _ (.code .ret::_) _ _ _;refine T_retV [] rfl (Hle.none _) ⟨rfl,rfl⟩))
 have hf0:fewE l=0:=by simpa using hf0
 have hpl:plE l=0:=by rw [hpf,hf0]
 obtain⟨-,-,h4,hv⟩:=plE_ok hpl
 rw [hf0]
 refine T_if rfl (fun h=>by exfalso;simp at h) (fun _=>?_)
 repeat' (first|refine d1 ?_|refine dd ?_|(show ∀ _:Nat,T _ _ _ _ _;intro _))
 refine T_if rfl (fun h=>?_) (fun h=>?_)
 ·have e:plcV l v=(0,9):=by unfold plcV;rw [if_neg (by simpa using hpl),if_pos (by simp at h;omega)]
  rw [e]
  repeat' (first|refine d1 ?_|refine dd ?_|(show ∀ _:Nat,T _ _ _ _ _;intro _)|(show T _ (.code .ret::_) _ _ _;refine T_retV [] rfl (Hle.none _) ⟨rfl,rfl⟩))
 have hlen:v.length=l.length:=by simp at h;omega
 clear h
 obtain rfl:nt=n:=by omega
 repeat' (first|refine d1 ?_|refine dd ?_|(show ∀ _:Nat,T _ _ _ _ _;intro _))
 refine T_loopX (fun k:Nat=>[(8, .int .i64 (k:Nat))]) (fun _=>[]) (fun k=>k≤nt∧∀ i,i<k→rngB l v i=false) (fun k=>nt - k) 0 ⟨Nat.zero_le _,fun i h=>absurd h (Nat.not_lt_zero i)⟩ ?_
 rintro k ⟨hk,hok⟩
 repeat' (first|refine d1 ?_|refine dd ?_|(show ∀ _:Nat,T _ _ _ _ _;intro _))
 refine T_if rfl (fun h=>?_) (fun h=>?_)
 ·simp only [decide_eq_true_eq] at h
  have hkn:k<nt:=by omega
  obtain⟨b,o,rfl⟩:=hg.hs.base (by omega)
  obtain⟨ba,oa,rfl⟩:=hs.base (by omega)
  obtain⟨t,ht,htm,hrt⟩:=hg.get (k:=k) hkn
  obtain⟨z,hz⟩:∃ z,v[k]?=some z:=⟨_,List.getElem?_eq_getElem (by omega)⟩
  have hra:=src_int hs hkn hz
  have hgz:v.getD k 0=z:=by rw [List.getD_eq_getElem?_getD,hz];rfl
  have hgl:(lens l).getD k 0=t.n:=by rw [List.getD_eq_getElem?_getD,lens_get ht];rfl
  have hrb:rngB l v k=(decide (z<0) || decide ((t.n:Int)<z)):=by unfold rngB;rw [hgz,hgl]
  repeat' (first|refine d1 ?_|refine dd ?_|(show T _ (.ops _ (_::_)::_) _ _ _;first|refine T_val rfl (Val.load rfl (fun hg=>rdOld hra)) rfl rfl rfl ?_|refine T_valC rfl (Val.load rfl (fun hg=>rdOld hra)) rfl rfl rfl rfl rfl ?_|refine T_val rfl (Val.load rfl (fun hg=>rdOld hrt)) rfl rfl rfl ?_|refine T_valC rfl (Val.load rfl (fun hg=>rdOld hrt)) rfl rfl rfl rfl rfl ?_)|(show T _ (.run _ _ (_::_) _ _::_) _ _ _;first|refine rv rfl rfl rfl (Val.load rfl (fun hg=>rdOld hra)) rfl rfl rfl ?_|refine rg rfl rfl rfl (Val.load rfl (fun hg=>rdOld hra)) rfl rfl rfl rfl rfl ?_|refine rv rfl rfl rfl (Val.load rfl (fun hg=>rdOld hrt)) rfl rfl rfl ?_|refine rg rfl rfl rfl (Val.load rfl (fun hg=>rdOld hrt)) rfl rfl rfl rfl rfl ?_)|(show ∀ _:Nat,T _ _ _ _ _;intro _))
  refine T_if rfl (fun h2=>?_) (fun h2=>?_)
  ·have e:plcV l v=(0,2):=by
    unfold plcV
    rw [if_neg (by simpa using hpl),if_neg (by simpa using hlen),if_pos (List.any_eq_true.2 ⟨k,List.mem_range.2 (by omega),by rw [hrb];exact h2⟩)]
   rw [e]
   repeat' (first|refine d1 ?_|refine dd ?_|(show ∀ _:Nat,T _ _ _ _ _;intro _)|(show T _ (.code .ret::_) _ _ _;refine T_retV [] rfl (Hle.none _) ⟨rfl,rfl⟩))
  ·repeat' (first|refine d1 ?_|refine dd ?_|(show ∀ _:Nat,T _ _ _ _ _;intro _))
   refine T_backX (k+1) ⟨by omega,fun i hi=>?_⟩ (by omega)
   by_cases e:i=k
   ·rw [e,hrb];exact h2
   ·exact hok i (by omega)
 ·simp only [decide_eq_false_iff_not] at h
  obtain rfl:k=nt:=by omega
  obtain⟨hin,hvi⟩:=rng_in hlen (fun i hi=>hok i (by omega))
  have hvI:v=intN (v.map Int.toNat):=by
   refine List.ext_getElem? fun i=>?_
   by_cases hi:i<v.length
   ·have h9:=hvi i (by omega)
    rw [intN_get (a:=(v.map Int.toNat).getD i 0) (by rw [List.getD_eq_getElem?_getD,List.getElem?_map,List.getElem?_eq_getElem hi];rfl), ← h9,List.getD_eq_getElem?_getD,List.getElem?_eq_getElem hi];rfl
   ·rw [List.getElem?_eq_none (by omega),List.getElem?_eq_none (by rw [intN_len,List.length_map];omega)]
  have e:plcV l v=(((numL (lens l) (v.map Int.toNat):Nat):Int),0):=by
   unfold plcV
   rw [if_neg (by simpa using hpl),if_neg (by simpa using hlen),if_neg]
   rw [Bool.not_eq_true,List.any_eq_false]
   intro i hi
   rw [hok i (by have:=List.mem_range.1 hi;omega)]
   simp
  rw [e]
  have hs9:Src w 1 At k ((intN (v.map Int.toNat)).map (Value.int .i64)):=by rw [← hvI];exact hs
  repeat' (first|refine d1 ?_|refine dd ?_|(show T _ (.ops _ (_::_)::_) _ _ _;first|refine T_call rfl rfl rfl rfl rfl (fun w hw=>number20R_spec A At k ca ct l (v.map Int.toNat) w (hg.cls hw) hin (by omega) (rdSrc hs9 w hw)) ?_|refine T_callC rfl rfl rfl rfl rfl rfl rfl (fun hg w hw=>number20R_spec A At k ca ct l (v.map Int.toNat) w (hg.cls hw) hin (by omega) (rdSrc hs9 w hw)) ?_)|(show T _ (.run _ _ (_::_) _ _::_) _ _ _;first|refine rc rfl rfl rfl rfl rfl rfl rfl (fun w hw=>number20R_spec A At k ca ct l (v.map Int.toNat) w (hg.cls hw) hin (by omega) (rdSrc hs9 w hw)) ?_|refine rcG rfl rfl rfl rfl rfl rfl rfl rfl rfl (fun hg w hw=>number20R_spec A At k ca ct l (v.map Int.toNat) w (hg.cls hw) hin (by omega) (rdSrc hs9 w hw)) ?_)|(show ∀ _:Nat,T _ _ _ _ _;intro _)|(show T _ (.code .ret::_) _ _ _;refine T_retV [] rfl (Hle.none _) ⟨rfl,rfl⟩))
end Go.Proofs.YthadgaboakipoaaGreatDoor
namespace Go.Proofs.YthadgaboakipoaaGreatDoor
open Go.RowKit Go.Shelf Go.Proofs
set_option maxRecDepth 100000
set_option maxHeartbeats 1000000

def prsG (c:Costs) (l:List TS) (n i k q:Nat):Int:=ssum (prV c l (atL (lens l) q)) n i+rsum (prV c l (atL (lens l) q)) i k
theorem prsG_succ (c:Costs) (l:List TS) (n:Nat) {i k:Nat} (q:Nat) (h:i<k):prsG c l n i (k+1) q=prsG c l n i k q+prV c l (atL (lens l) q) i k:=by
 unfold prsG
 rw [rsum,if_pos h];omega
theorem prsG_low (c:Costs) (l:List TS) (n i q:Nat):prsG c l n i (i+1) q=ssum (prV c l (atL (lens l) q)) n i:=by
 unfold prsG
 rw [rsum_low _ _ _ (Nat.le_refl _),Int.add_zero]
theorem prsG_row (c:Costs) (l:List TS) (n i q:Nat):prsG c l n i n q=ssum (prV c l (atL (lens l) q)) n (i+1):=rfl
theorem prsG_bd {c:Costs} (hc:costE c=0) {l:List TS} (hb:∀ t∈l,t.l.length≤1000) {n:Nat} (h4:n≤4) (q:Nat) {i k:Nat} (hi:i≤n) (hk:k≤n):0≤prsG c l n i k q∧prsG c l n i k q≤40000000:=by
 have h:=fun i k=>prV_bd hc hb (atL (lens l) q) i k
 have h1:=ssum_bd (D:=prV c l (atL (lens l) q)) (M:=2000000) (by omega) h n i
 have h2:=rsum_bd (D:=prV c l (atL (lens l) q)) (M:=2000000) (by omega) h i k
 have h3:(2000000 * (n:Int)) * (i:Int)≤(2000000 * 4) * 4:=Int.mul_le_mul (by omega) (by omega) (by omega) (by omega)
 unfold prsG
 omega
theorem prsG_all (c:Costs) (l:List TS):valV (fun q=>ssum (prV c l (atL (lens l) q)) l.length l.length) (volL (lens l))=(prsL c l).map (Value.int .i64):=by
 unfold prsL valV
 rw [List.map_map]
 refine List.map_congr_left fun q _=>?_
 show Value.int .i64 (ssum (prV c l (atL (lens l) q)) l.length l.length)=Value.int .i64 (prsV c l (atL (lens l) q))
 rw [ssum_eq];rfl
theorem pairsR20_spec (c:Costs) (A:Option Addr) (n ca:Nat) (l:List TS) (w:World) (hf:Fit w A n l) :
  Spec Tryz.prog 19 [c.val, .slice A n ca] w (fun v R=>∃ x:Value,True∧v = .tuple #[x, .int .i64 (prsW c l).2]∧R=[dat [x] [intsD (prsW c l).1]]):=by
 have hn:=hf.hn
 refine spec_of sg Tryz.func19 rfl rfl rfl ?_
 refine T_op (OpT.box (cs:=c.cells) rfl rfl rfl rfl rfl rfl rfl (fun pc=>?_))
 repeat' (first|refine d1 ?_|refine dd ?_|(show T _ (.ops _ (_::_)::_) _ _ _;first|refine T_call rfl rfl rfl rfl rfl (fun w hw=>check20R_spec c A n ca l w (hf.cls hw)) ?_|refine T_callC rfl rfl rfl rfl rfl rfl rfl (fun hg w hw=>check20R_spec c A n ca l w (hf.cls hw)) ?_)|(show T _ (.run _ _ (_::_) _ _::_) _ _ _;first|refine rc rfl rfl rfl rfl rfl rfl rfl (fun w hw=>check20R_spec c A n ca l w (hf.cls hw)) ?_|refine rcG rfl rfl rfl rfl rfl rfl rfl rfl rfl (fun hg w hw=>check20R_spec c A n ca l w (hf.cls hw)) ?_)|(show ∀ _:Nat,T _ _ _ _ _;intro _))
 by_cases hop:opE c l≠0
 ·have e:prsW c l=([],opE c l):=if_pos hop
  rw [e]
  refine T_if rfl (fun _=>?_) (fun h=>by exfalso;simp at h;exact hop h)
  repeat' (first|refine d1 ?_|refine dd ?_|(show ∀ _:Nat,T _ _ _ _ _;intro _)|(show T _ (.code .ret::_) _ _ _;refine T_retV _ rfl ((hle_unit (B:=dat [.slice none 0 0] [intsD []]) (.s none 0 0 1 [] rfl (Nat.le_refl _) (by omega) (fun h=>absurd h (by omega)) .nil .nil)).trans (Hle.nth 0 rfl)) ⟨_,trivial,rfl,rfl⟩))
 have hop:opE c l=0:=by simpa using hop
 have hu:=hf.use hop
 rw [hu.prs,hop]
 refine T_if rfl (fun h=>by exfalso;simp at h) (fun _=>?_)
 have hg:=hf.grp (plE_ok (opE_ok hop).1).2.1
 have hc:=hu.hc
 have hbs:=hu.hbs
 have hll:=lens_len l
 have h1n:1≤n:=by have:=hu.h1;omega
 have h4n:n≤4:=by have:=hu.h4;omega
 have hv:=hu.hv
 have hall:=prsG_all c l
 rw [hn] at hall
 repeat' (first|refine d1 ?_|refine dd ?_|(show T _ (.ops _ (_::_)::_) _ _ _;first|refine T_call rfl rfl rfl rfl rfl (fun w hw=>size20R_spec A n ca l w (hg.cls hw) hv) ?_|refine T_callC rfl rfl rfl rfl rfl rfl rfl (fun hg w hw=>size20R_spec A n ca l w (hg.cls hw) hv) ?_)|(show T _ (.run _ _ (_::_) _ _::_) _ _ _;first|refine rc rfl rfl rfl rfl rfl rfl rfl (fun w hw=>size20R_spec A n ca l w (hg.cls hw) hv) ?_|refine rcG rfl rfl rfl rfl rfl rfl rfl rfl rfl (fun hg w hw=>size20R_spec A n ca l w (hg.cls hw) hv) ?_)|(show ∀ _:Nat,T _ _ _ _ _;intro _))
 obtain⟨V,hV⟩:∃ V,V=volL (lens l):=⟨_,rfl⟩
 have hVp:0<V:=by rw [hV];exact volL_pos _
 rw [← hV] at hv hall ⊢
 repeat' (first|refine d1 ?_|refine dd ?_|(show T _ (.ops _ (_::_)::_) _ _ _;refine T_op (OpT.make rfl rfl rfl rfl rfl rfl rfl rfl rfl (by dsimp only;omega) (fun b7=>?_)))|(show ∀ _:Nat,T _ _ _ _ _;intro _))
 have hz0:List.replicate V (Value.int .i64 0)=valV (fun q=>ssum (prV c l (atL (lens l) q)) n 0) V:=by
  rw [valV_replicate];exact valV_ext fun q _=>rfl
 have hnb:∀ t∈l,t.l.length≤1000:=hu.hb
 refine T_loopX (fun i:Nat=>[(8, .int .i64 (i:Nat))]) (fun i=>[blk b7 (valV (fun q=>ssum (prV c l (atL (lens l) q)) n i) V) 3,blk pc c.cells 23]) (fun i=>i≤n) (fun i=>n - i) 0 (Nat.zero_le _) ?_ (hG:=by rw [← hz0];exact Hle.refl _)
 intro i hi
 repeat' (first|refine d1 ?_|refine dd ?_|(show ∀ _:Nat,T _ _ _ _ _;intro _))
 refine T_if rfl (fun h=>?_) (fun h=>?_)
 ·simp only [decide_eq_true_eq] at h
  have hin:i<n:=by omega
  have hlow:valV (fun q=>ssum (prV c l (atL (lens l) q)) n i) V=valV (prsG c l n i (i+1)) V:=valV_ext fun q _=>(prsG_low c l n i q).symm
  rw [hlow]
  repeat' (first|refine d1 ?_|refine dd ?_|(show ∀ _:Nat,T _ _ _ _ _;intro _))
  refine T_loopX (fun k:Nat=>[(9, .int .i64 (k:Nat))]) (fun k=>[blk b7 (valV (prsG c l n i k) V) 3,blk pc c.cells 23]) (fun k=>i+1≤k∧k≤n) (fun k=>n - k) (i+1) ⟨Nat.le_refl _,hin⟩ ?_
  rintro k ⟨hk1,hk2⟩
  repeat' (first|refine d1 ?_|refine dd ?_|(show ∀ _:Nat,T _ _ _ _ _;intro _))
  refine T_if rfl (fun h2=>?_) (fun h2=>?_)
  ·simp only [decide_eq_true_eq] at h2
   have hkn:k<n:=by omega
   obtain⟨b,o,rfl⟩:=hg.hs.base (by omega)
   obtain⟨s,hs,hsm,hrs⟩:=hg.get (k:=i) (by omega)
   obtain⟨t,ht,htm,hrt⟩:=hg.get (k:=k) hkn
   have hsl:=hg.ok.len s hsm
   have htl:=hg.ok.len t htm
   have hsn:=hg.nb s hsm
   have htn:=hg.nb t htm
   have hgs:(lens l).getD i 0=s.n:=by rw [List.getD_eq_getElem?_getD,lens_get hs];rfl
   have hgt:(lens l).getD k 0=t.n:=by rw [List.getD_eq_getElem?_getD,lens_get ht];rfl
   have htv:tableV c s.l t.l=(tabR s.n t.n (rst (grdOf c s.l t.l)),0):=by
    unfold tableV
    rw [if_pos (ck18 hc hbs hsm htm),hsl,htl]
   repeat' (first|refine d1 ?_|(show ∀ _:Nat,T _ _ _ _ _;intro _))
   refine rsH [blk b7 (valV (prsG c l n i k) V) 3,blk pc c.cells 23] 1000 [0,1,2,3,4,5,6,7,8,9,10,11,12,13,14] ?_
   repeat' (first|refine d1 ?_|refine dd ?_|(show T _ (.ops _ (_::_)::_) _ _ _;first|refine T_val rfl (Val.load rfl (fun hg=>rdOld hrs)) rfl rfl rfl ?_|refine T_valC rfl (Val.load rfl (fun hg=>rdOld hrs)) rfl rfl rfl rfl rfl ?_|refine T_val rfl (Val.load rfl (fun hg=>rdOld hrt)) rfl rfl rfl ?_|refine T_valC rfl (Val.load rfl (fun hg=>rdOld hrt)) rfl rfl rfl rfl rfl ?_)|(show T _ (.run _ _ (_::_) _ _::_) _ _ _;first|refine rv rfl rfl rfl (Val.load rfl (fun hg=>rdOld hrs)) rfl rfl rfl ?_|refine rg rfl rfl rfl (Val.load rfl (fun hg=>rdOld hrs)) rfl rfl rfl rfl rfl ?_|refine rv rfl rfl rfl (Val.load rfl (fun hg=>rdOld hrt)) rfl rfl rfl ?_|refine rg rfl rfl rfl (Val.load rfl (fun hg=>rdOld hrt)) rfl rfl rfl rfl rfl ?_|refine ro rfl rfl (OpT.call rfl rfl rfl rfl rfl (fun w hw=>tableRef18_spec c s.A t.A s.n t.n s.cap t.cap s.l t.l w ((hg.cls hw).two hsm htm)) (fun u R hR=>?_)))|(show ∀ _:Nat,T _ _ _ _ _;intro _))
   rw [htv] at hR
   obtain⟨x,-,rfl,rfl⟩:=hR
   refine ⟨fun _=>Hle.tail _ _,?_⟩
   refine T_le (H':=dat [x] [rowsD (tabR s.n t.n (rst (grdOf c s.l t.l)))]::blk b7 (valV (prsG c l n i k) V) 3::blk pc c.cells 23::[]) (Hle.refl _) ?_
   refine T_open fun pt hT=>?_
   obtain⟨At,ct,cst,rfl,ht1,ht2,htc,htr,htrows⟩:=hT.tab
   rw [tabR_length] at ht1 htc htr ⊢
   repeat' (first|refine d1 ?_|refine dd ?_|(show ∀ _:Nat,T _ _ _ _ _;intro _))
   refine T_if rfl (fun h=>by exfalso;simp at h) (fun _=>?_)
   obtain⟨bt,ot,rfl,hrd⟩:=htr (by omega)
   repeat' (first|refine d1 ?_|refine dd ?_|(show ∀ _:Nat,T _ _ _ _ _;intro _))
   refine T_loopX (fun q:Nat=>[(12, .int .i64 (q:Nat))]) (fun q=>[blk b7 (valV (fun q'=>if q'<q then prsG c l n i (k+1) q' else prsG c l n i k q') V) 3,fz pt,blk pc c.cells 23]) (fun q=>q≤V) (fun q=>V - q) 0 (Nat.zero_le _) ?_ (hG:=by
    have e9:valV (fun q'=>if q'<0 then prsG c l n i (k+1) q' else prsG c l n i k q') V=valV (prsG c l n i k) V:=valV_ext fun q _=>if_neg (by omega)
    rw [e9];exact Hle.srt)
   intro q hq
   repeat' (first|refine d1 ?_|refine dd ?_|(show ∀ _:Nat,T _ _ _ _ _;intro _))
   refine T_if rfl (fun h3=>?_) (fun h3=>?_)
   ·simp only [decide_eq_true_eq] at h3
    have hqV:q<V:=by omega
    have hinb:=atL_in (lens l) q
    have hal:=atL_len (lens l) q
    have hai:=hinb.get i
    have hak:=hinb.get k
    rw [hgs] at hai
    rw [hgt] at hak
    obtain⟨u,hu9⟩:∃ u,u=(atL (lens l) q).getD i 0:=⟨_,rfl⟩
    obtain⟨v,hve⟩:∃ v,v=(atL (lens l) q).getD k 0:=⟨_,rfl⟩
    have hprv:prV c l (atL (lens l) q) i k=rst (grdOf c s.l t.l) u v:=by unfold prV;rw [tsA_eq hs,tsA_eq ht, ← hu9, ← hve]
    have havi:((intN (atL (lens l) q)).map (Value.int .i64))[0+(i:Int).toNat * 1]?=some (.int .i64 (u:Nat)):=by rw [show 0+(i:Int).toNat * 1=i by omega, ← valV_at (n:=n) (by omega),valV_get hin,hu9]
    have havk:((intN (atL (lens l) q)).map (Value.int .i64))[0+(k:Int).toNat * 1]?=some (.int .i64 (v:Nat)):=by rw [show 0+(k:Int).toNat * 1=k by omega, ← valV_at (n:=n) (by omega),valV_get hkn,hve]
    rw [← hu9] at hai
    rw [← hve] at hak
    obtain⟨Ar,capr,hcs,hr1,hr2,hAr⟩:=htrows.tabRow (i:=u) (tabR_get (n:=s.n) (m:=t.n) (f:=rst (grdOf c s.l t.l)) hai)
    rw [List.length_map,List.length_range] at hcs hr1 hAr
    obtain⟨br,orr,rfl,hb'⟩:=hAr (by omega)
    have hb1v:(valV (fun q'=>if q'<q then prsG c l n i (k+1) q' else prsG c l n i k q') V)[0+(q:Int).toNat * 1]?=some (.int .i64 (prsG c l n i k q)):=by
     rw [show 0+(q:Int).toNat * 1=q by omega,valV_get hqV,if_neg (Nat.lt_irrefl q)]
    have hpb:=prsG_bd hc hnb h4n q (show i≤n by omega) (show k≤n by omega)
    have hpb2:=prV_bd hc hnb (atL (lens l) q) i k
    rw [hprv] at hpb2
    have hvl:(valV (fun q'=>if q'<q then prsG c l n i (k+1) q' else prsG c l n i k q') V).length=V:=valV_length _ _
    repeat' (first|refine d1 ?_|(show T _ (.ops _ (_::_)::_) _ _ _;refine T_op (OpT.call rfl rfl rfl rfl rfl (fun w hw=>offsets20R_spec (some ⟨b,o,none⟩) n ca l q w (hg.cls hw) h1n (by omega) (by omega)) (fun u R hR=>?_)))|(show ∀ _:Nat,T _ _ _ _ _;intro _))
    obtain⟨b13,-,rfl,rfl⟩:=hR
    refine T_le (H':=[blk b13 ((intN (atL (lens l) q)).map (Value.int .i64)) 3,blk b7 (valV (fun q'=>if q'<q then prsG c l n i (k+1) q' else prsG c l n i k q') V) 3,fz pt,blk pc c.cells 23]) (Hle.refl _) ?_
    repeat' (first|refine d1 ?_|refine dd ?_|(show T _ (.ops _ (_::_)::_) _ _ _;first|refine T_val rfl (Val.nilc rfl) rfl rfl rfl ?_|refine T_valC rfl (Val.nilc rfl) rfl rfl rfl rfl rfl ?_|refine T_val rfl (Val.load rfl (fun hg=>rdOwn1 (b:=b13) havi)) rfl rfl rfl ?_|refine T_valC rfl (Val.load rfl (fun hg=>rdOwn1 (b:=b13) havi)) rfl rfl rfl rfl rfl ?_|refine T_val rfl (Val.load rfl (fun hg=>rdOwn1 (b:=b13) havk)) rfl rfl rfl ?_|refine T_valC rfl (Val.load rfl (fun hg=>rdOwn1 (b:=b13) havk)) rfl rfl rfl rfl rfl ?_|refine T_val rfl (Val.load rfl (fun hg=>rdOwn1 (b:=b7) hb1v)) rfl rfl rfl ?_|refine T_valC rfl (Val.load rfl (fun hg=>rdOwn1 (b:=b7) hb1v)) rfl rfl rfl rfl rfl ?_|refine T_val rfl (Val.load rfl (fun hg=>rdFz (p:=pt) (u := .slice (some ⟨br,orr,none⟩) (t.n+1) capr) (b:=bt) (by rw [off1];exact hrd u _ hcs))) rfl rfl rfl ?_|refine T_valC rfl (Val.load rfl (fun hg=>rdFz (p:=pt) (u := .slice (some ⟨br,orr,none⟩) (t.n+1) capr) (b:=bt) (by rw [off1];exact hrd u _ hcs))) rfl rfl rfl rfl rfl ?_|refine T_val rfl (Val.load rfl (fun hg=>rdFz (p:=pt) (u := .int .i64 (rst (grdOf c s.l t.l) u v)) (b:=br) (by rw [off1];exact hb' v _ (tabR_cell hak)))) rfl rfl rfl ?_|refine T_valC rfl (Val.load rfl (fun hg=>rdFz (p:=pt) (u := .int .i64 (rst (grdOf c s.l t.l) u v)) (b:=br) (by rw [off1];exact hb' v _ (tabR_cell hak)))) rfl rfl rfl rfl rfl ?_)|(show T _ (.run _ _ (_::_) _ _::_) _ _ _;first|refine rv rfl rfl rfl (Val.nilc rfl) rfl rfl rfl ?_|refine rg rfl rfl rfl (Val.nilc rfl) rfl rfl rfl rfl rfl ?_|refine rv rfl rfl rfl (Val.load rfl (fun hg=>rdOwn1 (b:=b13) havi)) rfl rfl rfl ?_|refine rg rfl rfl rfl (Val.load rfl (fun hg=>rdOwn1 (b:=b13) havi)) rfl rfl rfl rfl rfl ?_|refine rv rfl rfl rfl (Val.load rfl (fun hg=>rdOwn1 (b:=b13) havk)) rfl rfl rfl ?_|refine rg rfl rfl rfl (Val.load rfl (fun hg=>rdOwn1 (b:=b13) havk)) rfl rfl rfl rfl rfl ?_|refine rv rfl rfl rfl (Val.load rfl (fun hg=>rdOwn1 (b:=b7) hb1v)) rfl rfl rfl ?_|refine rg rfl rfl rfl (Val.load rfl (fun hg=>rdOwn1 (b:=b7) hb1v)) rfl rfl rfl rfl rfl ?_|refine rv rfl rfl rfl (Val.load rfl (fun hg=>rdFz (p:=pt) (u := .slice (some ⟨br,orr,none⟩) (t.n+1) capr) (b:=bt) (by rw [off1];exact hrd u _ hcs))) rfl rfl rfl ?_|refine rg rfl rfl rfl (Val.load rfl (fun hg=>rdFz (p:=pt) (u := .slice (some ⟨br,orr,none⟩) (t.n+1) capr) (b:=bt) (by rw [off1];exact hrd u _ hcs))) rfl rfl rfl rfl rfl ?_|refine rv rfl rfl rfl (Val.load rfl (fun hg=>rdFz (p:=pt) (u := .int .i64 (rst (grdOf c s.l t.l) u v)) (b:=br) (by rw [off1];exact hb' v _ (tabR_cell hak)))) rfl rfl rfl ?_|refine rg rfl rfl rfl (Val.load rfl (fun hg=>rdFz (p:=pt) (u := .int .i64 (rst (grdOf c s.l t.l) u v)) (b:=br) (by rw [off1];exact hb' v _ (tabR_cell hak)))) rfl rfl rfl rfl rfl ?_|refine ro rfl rfl (OpT.store rfl rfl rfl rfl (by rw [hvl];omega) ⟨fun hlv=>absurd hlv (by decide +kernel),?_⟩))|(show ∀ _:Nat,T _ _ _ _ _;intro _))
    refine T_backX (q+1) (by omega) (by omega) (hG:=?_)
    rw [show 0+(q:Int).toNat * 1=q by omega,valV_put]
    have e9:valV (fun q'=>if q'=q then prsG c l n i k q+rst (grdOf c s.l t.l) u v else if q'<q then prsG c l n i (k+1) q' else prsG c l n i k q') V=valV (fun q'=>if q'<q+1 then prsG c l n i (k+1) q' else prsG c l n i k q') V:=valV_ext fun q' _=>by
     by_cases e:q'=q
     ·subst e;rw [if_pos rfl,if_pos (by omega),prsG_succ c l n _ (by omega),hprv]
     ·rw [if_neg e]
      by_cases e2:q'<q
      ·rw [if_pos e2,if_pos (by omega)]
      ·rw [if_neg e2,if_neg (by omega)]
    rw [e9]
    exact Hle.srt
   ·simp only [decide_eq_false_iff_not] at h3
    obtain rfl:q=V:=by omega
    have e9:valV (fun q'=>if q'<q then prsG c l n i (k+1) q' else prsG c l n i k q') q=valV (prsG c l n i (k+1)) q:=valV_ext fun q' h9=>if_pos h9
    rw [e9]
    repeat' (first|refine d1 ?_|refine dd ?_|(show ∀ _:Nat,T _ _ _ _ _;intro _))
    exact T_backX (k+1) ⟨by omega,hkn⟩ (by omega) (hG:=Hle.srt)
  ·simp only [decide_eq_false_iff_not] at h2
   obtain rfl:k=n:=by omega
   have e9:valV (prsG c l k i k) V=valV (fun q=>ssum (prV c l (atL (lens l) q)) k (i+1)) V:=valV_ext fun q' _=>prsG_row c l k i q'
   rw [e9]
   repeat' (first|refine d1 ?_|refine dd ?_|(show ∀ _:Nat,T _ _ _ _ _;intro _))
   exact T_backX (i+1) (by omega) (by omega)
 ·simp only [decide_eq_false_iff_not] at h
  obtain rfl:i=n:=by omega
  rw [hall]
  have hlm:((prsL c l).map (Value.int .i64)).length=V:=by rw [List.length_map,prsL_len,hV]
  have hd:=dat_blkV (e:=3) (sz:=1) (n:=V) (b:=b7) (cs:=(prsL c l).map (Value.int .i64)) (H:=[]) (by rw [hlm,Nat.mul_one]) (by omega)
  rw [List.map_map] at hd
  repeat' (first|refine d1 ?_|refine dd ?_|(show ∀ _:Nat,T _ _ _ _ _;intro _)|(show T _ (.code .ret::_) _ _ _;refine T_retV _ rfl ((Hle.nth 0 rfl).trans hd) ⟨_,trivial,rfl,rfl⟩))
end Go.Proofs.YthadgaboakipoaaGreatDoor
namespace Go.Proofs.YthadgaboakipoaaGreatDoor
open Go.RowKit Go.Shelf Go.Proofs
set_option maxRecDepth 100000
set_option maxHeartbeats 1000000

def greatC19 (cols:List (List Int)) (q:Nat):Bool:=decide (q<cols.length) || cols.any fun r=>decide (36<r.length)
theorem greatC19_no {cols:List (List Int)} {q:Nat} (h:greatC19 cols q=false):(∀ r∈cols,r.length≤36)∧cols.length≤q:=by
 unfold greatC19 at h
 rw [Bool.or_eq_false_iff,List.any_eq_false,decide_eq_false_iff_not] at h
 exact⟨fun r hr=>by have:=h.2 r hr;simp at this;omega,by omega⟩
theorem greatC19_spec (x:Value) (cols:List (List Int)) (q:Nat) (w:World) (hx:Rd (wr w) [x] [rowsD cols]):Spec Tryz.prog 23 [x, .int .i64 (q:Nat)] w (fun v R=>v = .bool (greatC19 cols q)∧R=[]):=by
 obtain⟨Ak,ck,csk,rfl,hck1,hck2,hcs,hrows⟩:=hx.tabS
 refine spec_of sg Tryz.func23 rfl rfl rfl ?_
 repeat' (first|refine d1 ?_|refine dd ?_|(show ∀ _:Nat,T _ _ _ _ _;intro _))
 refine T_if rfl (fun h=>?_) (fun h=>?_)
 ·simp only [decide_eq_true_eq] at h
  repeat' (first|refine d1 ?_|refine dd ?_|(show ∀ _:Nat,T _ _ _ _ _;intro _)|(show T _ (.code .ret::_) _ _ _;refine T_retV [] rfl (Hle.none _) ⟨congrArg Value.bool ?_,rfl⟩))
  unfold greatC19;rw [decide_eq_true (by omega)];rfl
 simp only [decide_eq_false_iff_not] at h
 repeat' (first|refine d1 ?_|refine dd ?_|(show ∀ _:Nat,T _ _ _ _ _;intro _))
 refine T_loopX (fun k:Nat=>[(5, .int .i64 k)]) (fun _=>[]) (fun k=>k≤cols.length∧∀ r∈cols.take k,r.length≤36) (fun k=>cols.length - k) 0 ⟨Nat.zero_le _,fun r h=>by simp at h⟩ ?_
 rintro k ⟨hk,hok⟩
 repeat' (first|refine d1 ?_|refine dd ?_|(show ∀ _:Nat,T _ _ _ _ _;intro _))
 refine T_if rfl (fun h=>?_) (fun h=>?_)
 ·simp only [decide_eq_true_eq] at h
  have hkn:k<cols.length:=by omega
  obtain⟨b,o,rfl⟩:=hcs.base (by omega)
  obtain⟨r,hr⟩:∃ r,cols[k]?=some r:=⟨_,List.getElem?_eq_getElem hkn⟩
  obtain⟨Au,capu,hu,hcap1,hcap2,hA⟩:=hrows.tabRow hr
  have hr0:=rowHd hcs hkn hu
  have htk:=take_snoc _ _ _ hr
  repeat' (first|refine d1 ?_|refine dd ?_|(show ∀ _:Nat,T _ _ _ _ _;intro _))
  refine T_if rfl (fun h1=>?_) (fun h1=>?_)
  ·simp only [decide_eq_true_eq] at h1
   repeat' (first|refine d1 ?_|refine dd ?_|(show ∀ _:Nat,T _ _ _ _ _;intro _)|(show T _ (.code .ret::_) _ _ _;refine T_retV [] rfl (Hle.none _) ⟨congrArg Value.bool ?_,rfl⟩))
   unfold greatC19
   have h9:(cols.any fun r=>decide (36<r.length))=true:=List.any_eq_true.2 ⟨r,List.mem_of_getElem? hr,by simp;omega⟩
   rw [h9,Bool.or_true]
  ·simp only [decide_eq_false_iff_not] at h1
   repeat' (first|refine d1 ?_|refine dd ?_|(show ∀ _:Nat,T _ _ _ _ _;intro _))
   refine T_backX (k+1) ⟨by omega,fun y hy=>?_⟩ (by omega)
   rw [htk,List.mem_append,List.mem_singleton] at hy
   rcases hy with hy|rfl
   ·exact hok y hy
   ·omega
 ·simp only [decide_eq_false_iff_not] at h
  obtain rfl:k=cols.length:=by omega
  rw [List.take_of_length_le (Nat.le_refl _)] at hok
  repeat' (first|refine d1 ?_|refine dd ?_|(show ∀ _:Nat,T _ _ _ _ _;intro _)|(show T _ (.code .ret::_) _ _ _;refine T_retV [] rfl (Hle.none _) ⟨congrArg Value.bool ?_,rfl⟩))
  unfold greatC19
  have h9:(cols.any fun r=>decide (36<r.length))=false:=List.any_eq_false.2 fun r hr=>by have:=hok r hr;simp;omega
  rw [h9,Bool.or_false]
  exact (decide_eq_false (by omega)).symm
end Go.Proofs.YthadgaboakipoaaGreatDoor
namespace Go.Proofs.YthadgaboakipoaaGreatDoor
open Go.RowKit Go.Shelf Go.Proofs
set_option maxRecDepth 100000
set_option maxHeartbeats 1000000

def stpC (K:List Int→Int) (ls v:List Nat):Option (List Nat)→Value→List Value
 | none,_=>[.int .i64 (-1), .int .i64 0, .slice none 0 0]
 | some m,x=>[.int .i64 (numL ls (toM v m):Nat), .int .i64 (K (colT v m)),x]
theorem find_drop {α:Type} {f:α→Bool} {L:List α} {k:Nat} {m:α} (hm:L[k]?=some m):(L.drop k).find? f=if f m=true then some m else (L.drop (k+1)).find? f:=by
 have hk:k<L.length:=(List.getElem?_eq_some_iff.1 hm).1
 have e:L.drop k=m::L.drop (k+1):=by rw [List.drop_eq_getElem_cons hk];congr 1;exact Option.some.inj ((List.getElem?_eq_getElem hk).symm.trans hm)
 rw [e,List.find?_cons]
 cases f m <;> rfl
theorem colOf_hle {ps:Frag} {b:Nat} {x:Value} {r:List Int} {hs:List Value} {ds:List D} {J:List HA} (h:Rd (fr ps) [x] [intsD r]) :
  Hle (fz ps::dat hs ds::J) (dat (hs++[x]) (ds++[intsD r])::J) :=
 (hle_map (fz_dat h)).trans dat_join
theorem tightR20_spec (c:Costs) (A:Option Addr) (n ca:Nat) (l:List TS) (Ap:Option Addr) (np cp:Nat) (p:List Int) (w:World) (hf:Fit w A n l) (hp:Src w 1 Ap np (p.map (Value.int .i64))) (hnp:p.length=np) (hpb:np≤1000) :
  Spec Tryz.prog 27 [c.val, .slice A n ca, .slice Ap np cp] w (fun v R=>∃ x:Value,True∧v = .tuple #[x, .int .i64 (tgtV c l p).2]∧R=[dat [x] [rowsD (tgtV c l p).1]]):=by
 have hn:=hf.hn
 refine spec_of sg Tryz.func27 rfl rfl rfl ?_
 refine T_op (OpT.box (cs:=c.cells) rfl rfl rfl rfl rfl rfl rfl (fun pc=>?_))
 repeat' (first|refine d1 ?_|refine dd ?_|(show T _ (.ops _ (_::_)::_) _ _ _;first|refine T_call rfl rfl rfl rfl rfl (fun w hw=>checkR20_spec c A n ca l Ap np cp p w (hf.cls hw) (rdSrc hp w hw) hnp hpb) ?_|refine T_callC rfl rfl rfl rfl rfl rfl rfl (fun hg w hw=>checkR20_spec c A n ca l Ap np cp p w (hf.cls hw) (rdSrc hp w hw) hnp hpb) ?_)|(show T _ (.run _ _ (_::_) _ _::_) _ _ _;first|refine rc rfl rfl rfl rfl rfl rfl rfl (fun w hw=>checkR20_spec c A n ca l Ap np cp p w (hf.cls hw) (rdSrc hp w hw) hnp hpb) ?_|refine rcG rfl rfl rfl rfl rfl rfl rfl rfl rfl (fun hg w hw=>checkR20_spec c A n ca l Ap np cp p w (hf.cls hw) (rdSrc hp w hw) hnp hpb) ?_)|(show ∀ _:Nat,T _ _ _ _ _;intro _))
 by_cases hck:chkV20 c l p≠0
 ·have e:tgtV c l p=([],chkV20 c l p):=by
   unfold chkV20 at hck ⊢
   unfold tgtV
   by_cases hop:opE c l≠0
   ·rw [if_pos hop,if_pos hop]
   ·rw [if_neg hop] at hck
    rw [if_neg hop,if_neg hop,if_pos hck]
  rw [e]
  refine T_if rfl (fun _=>?_) (fun h=>by exfalso;simp at h;exact hck h)
  repeat' (first|refine d1 ?_|refine dd ?_|(show ∀ _:Nat,T _ _ _ _ _;intro _)|(show T _ (.code .ret::_) _ _ _;refine T_retV _ rfl (nilC _ |>.trans (Hle.nth 0 rfl)) ⟨_,trivial,rfl,rfl⟩))
 have hck:chkV20 c l p=0:=by simpa using hck
 have hop:opE c l=0:=by
  unfold chkV20 at hck
  by_cases hop:opE c l≠0
  ·rw [if_pos hop] at hck;exact absurd hck hop
  ·simpa using hop
 have hu:=hf.use hop
 have hfe:feaE (colZ c l) (lens l) (mvL n) p=0:=by rw [hu.chk,hn] at hck;exact hck
 rw [hck]
 refine T_if rfl (fun h=>by exfalso;simp at h) (fun _=>?_)
 have hg:=hf.grp (plE_ok (opE_ok hop).1).2.1
 have hc:=hu.hc
 have hbs:=hu.hbs
 have hll:=lens_len l
 have hlsn:(lens l).length=n:=by omega
 have h1n:1≤n:=by have:=hu.h1;omega
 have h4n:n≤4:=by have:=hu.h4;omega
 have hno:=mvL_ok h1n h4n
 have hv:=hu.hv
 obtain⟨V,hV⟩:∃ V,V=volL (lens l):=⟨_,rfl⟩
 have hVp:0<V:=by rw [hV];exact volL_pos _
 obtain⟨f1,f2,f3,f4⟩:=feaE_ok.1 hfe
 have hnpV:np=V:=by omega
 subst hnpV
 have hpb2:∀ q,0≤pg p q∧pg p q≤1073741824:=fun q=>by
  unfold pg
  rw [List.getD_eq_getElem?_getD]
  cases hq:p[q]? with
  | none=>simp
  | some z=>exact f3 z (List.mem_of_getElem? hq)
 obtain⟨b,o,rfl⟩:=hp.base (by omega)
 have hrd:∀ q,q<np→RdC w b (o+(q:Int).toNat * 1) [.int .i64 (pg p q)]:=fun q hq=>src_int hp hq (pg_some (by omega))
 have et:tgtV c l p=if ldV (colZ c l) (lens l) (mvL n) p (List.replicate n 0)=true then (tgV (colZ c l) (lens l) (mvL n) p (List.replicate n 0),0) else ([],6):=by
  rw [hu.tgt,hn,if_neg (by simpa using hfe)]
 rw [et]
 obtain⟨F,hF⟩:∃ F:Nat→Bool,F=fun q=>ldV (colZ c l) (lens l) (mvL n) p (atL (lens l) q):=⟨_,rfl⟩
 repeat' (first|refine d1 ?_|refine dd ?_|(show T _ (.ops _ (_::_)::_) _ _ _;refine T_op (OpT.make rfl rfl rfl rfl rfl rfl rfl rfl rfl (by dsimp only;omega) (fun b9=>?_)))|(show ∀ _:Nat,T _ _ _ _ _;intro _))
 have hset:(List.replicate np (Value.bool false)).set (0+((np:Int) - 1).toNat * 1) (.bool true)=((List.replicate np false).set (np - 1) true).map Value.bool:=by
  rw [show 0+((np:Int) - 1).toNat * 1=np - 1 by omega,List.map_set,List.map_replicate]
 refine T_le (H':=[blk b9 ((List.replicate np (Value.bool false)).set (0+((np:Int) - 1).toNat * 1) (.bool true)) 4,blk pc c.cells 23]) (Hle.refl _) ?_
 rw [hset]
 have hlastF:F (np - 1)=true:=by rw [hF];dsimp only;rw [hV,at_last];exact ldV_end hno hlsn
 refine T_loopX (fun s:Nat × List Bool=>[(10, .int .i64 ((s.1:Int) - 1))]) (fun s=>[blk b9 (s.2.map Value.bool) 4,blk pc c.cells 23]) (fun s=>s.1≤np - 1∧s.2.length=np∧∀ q,q<np→s.2.getD q false=if s.1≤q then F q else false) (fun s=>s.1) (np - 1,(List.replicate np false).set (np - 1) true) ⟨Nat.le_refl _,by simp,fun q h5=>?_⟩ ?_ (hE:=⟨by (try dsimp only);rw [show ((np - 1:Nat):Int) - 1=(np:Int) - 2 by omega];rfl,trivial⟩)
 ·dsimp only
  rw [set_getB (by rw [List.length_replicate];omega)]
  by_cases e:np - 1=q
  ·rw [if_pos e,if_pos (by omega), ← e,hlastF]
  ·rw [if_neg e,if_neg (by omega),List.getD_eq_getElem?_getD,List.getElem?_replicate,if_pos h5];rfl
 rintro⟨r,L⟩ ⟨hr,hL,hLF⟩
 dsimp only at hr hL hLF ⊢
 repeat' (first|refine d1 ?_|refine dd ?_|(show ∀ _:Nat,T _ _ _ _ _;intro _))
 rcases r with _|q
 ·refine T_if rfl (fun h5=>by exfalso;simp at h5) (fun _=>?_)
  have hLall:∀ q,q<np→L.getD q false=F q:=fun q hq=>by rw [hLF q hq,if_pos (Nat.zero_le _)]
  have hl0:=lead_get hL hVp
  have hF0:F 0=ldV (colZ c l) (lens l) (mvL n) p (List.replicate n 0):=by
   rw [hF]
   dsimp only
   have h9:=at_num (InB.zero (lens l))
   rw [numL_zero,hlsn] at h9
   rw [h9]
  rw [hLall 0 hVp,hF0] at hl0
  repeat' (first|refine d1 ?_|refine dd ?_|(show T _ (.ops _ (_::_)::_) _ _ _;first|refine T_val rfl (Val.load rfl (fun hg=>(fun w hw=>hl0 w b9 (rdAll w hw)))) rfl rfl rfl ?_|refine T_valC rfl (Val.load rfl (fun hg=>(fun w hw=>hl0 w b9 (rdAll w hw)))) rfl rfl rfl rfl rfl ?_)|(show T _ (.run _ _ (_::_) _ _::_) _ _ _;first|refine rv rfl rfl rfl (Val.load rfl (fun hg=>(fun w hw=>hl0 w b9 (rdAll w hw)))) rfl rfl rfl ?_|refine rg rfl rfl rfl (Val.load rfl (fun hg=>(fun w hw=>hl0 w b9 (rdAll w hw)))) rfl rfl rfl rfl rfl ?_)|(show ∀ _:Nat,T _ _ _ _ _;intro _))
  refine T_if rfl (fun h5=>?_) (fun h5=>?_)
  ·rw [if_neg (by simpa using h5)]
   repeat' (first|refine d1 ?_|refine dd ?_|(show ∀ _:Nat,T _ _ _ _ _;intro _)|(show T _ (.code .ret::_) _ _ _;refine T_retV _ rfl (nilC _ |>.trans (Hle.nth 0 rfl)) ⟨_,trivial,rfl,rfl⟩))
  have hld:ldV (colZ c l) (lens l) (mvL n) p (List.replicate n 0)=true:=by simpa using h5
  rw [if_pos hld]
  have hz0:numL (lens l) (List.replicate n 0)=0:=numL_zero _ _
  have hin0:InB (lens l) (List.replicate n 0):=by rw [← hlsn];exact InB.zero _
  repeat' (first|refine d1 ?_|refine dd ?_|(show ∀ _:Nat,T _ _ _ _ _;intro _))
  rename_i b13
  refine T_le (H':=row 27 1 (some ⟨b13,0,none⟩) 0 0 []::blk b9 (L.map Value.bool) 4::blk pc c.cells 23::[]) (Hle.weaken (i:=0) rfl (blk_row (sz:=1) (n:=0) rfl (by simp only [maxLen];omega)) rfl) ?_
  refine T_le (dat_nil _) ?_
  refine T_loopX (fun s:List Nat × (Option Addr × Nat) × List Value × List (List Int)=>[(14, .int .i64 (numL (lens l) s.1:Nat)),(13, .slice s.2.1.1 s.2.2.2.length s.2.1.2)]) (fun s=>[row 27 1 s.2.1.1 s.2.1.2 s.2.2.2.length s.2.2.1,dat s.2.2.1 (s.2.2.2.map intsD),blk b9 (L.map Value.bool) 4,blk pc c.cells 23]) (fun s=>InB (lens l) s.1∧ldV (colZ c l) (lens l) (mvL n) p s.1=true∧s.2.2.2.length≤sumL s.1∧tgV (colZ c l) (lens l) (mvL n) p (List.replicate n 0)=s.2.2.2++tgV (colZ c l) (lens l) (mvL n) p s.1) (fun s=>sumL (lens l) - sumL s.1) (List.replicate n 0,(some ⟨b13,0,none⟩,0),[],[]) ⟨hin0,hld,Nat.zero_le _,rfl⟩ ?_ (hE:=⟨by (try dsimp only);rw [hz0];rfl,rfl,trivial⟩) (hG:=by show Hle _ [row 27 1 (some ⟨b13,0,none⟩) 0 0 [],dat [] [],blk b9 (L.map Value.bool) 4,blk pc c.cells 23];exact Hle.srt)
  rintro⟨v,⟨Ao,co⟩,hs,out⟩ ⟨hvi,hvl2,hol,hout⟩
  dsimp only at hvi hvl2 hol hout ⊢
  obtain⟨q,hq⟩:∃ q,q=numL (lens l) v:=⟨_,rfl⟩
  have hat:=at_num hvi
  have hqV:=numL_lt hvi
  rw [← hq] at hat hqV ⊢
  rw [← hV] at hqV
  have hsub:=sumL_le hvi
  have hlen4:=sumL_lens hg.nb
  repeat' (first|refine d1 ?_|refine dd ?_|(show ∀ _:Nat,T _ _ _ _ _;intro _))
  refine T_if rfl (fun h6=>?_) (fun h6=>?_)
  ·simp only [decide_eq_true_eq] at h6
   have hne:v≠lens l:=fun e=>by
    have h9:=num_all (lens l)
    rw [e] at hq
    omega
   obtain rfl:v=atL (lens l) q:=hat.symm
   obtain⟨mf,hfind,hmfm,hmfp,-,hmfl⟩:=fitT_some hno hlsn hvi hne hvl2
   repeat' (first|refine d1 ?_|refine dd ?_|(show ∀ _:Nat,T _ _ _ _ _;intro _))
   refine T_op (OpT.call rfl rfl rfl rfl rfl (fun w hw=>steps20R_spec c A n ca l q w (hg.cls hw) hc hbs h1n h4n (by omega) (by omega)) (fun xs R hR=>?_))
   obtain⟨_,-,rfl,rfl⟩:=hR
   obtain⟨S,hS⟩:∃ S,S=posL (lens l) (atL (lens l) q) (mvL n):=⟨_,rfl⟩
   rw [← hS]
   refine T_le (H':=dat [xs] [stepsD (colZ c l) (lens l) (atL (lens l) q) S]::row 27 1 Ao co out.length hs::dat hs (out.map intsD)::blk b9 (L.map Value.bool) 4::blk pc c.cells 23::[]) (Hle.refl _) ?_
   refine T_open fun ps hps=>?_
   obtain⟨As,cs9,rfl,hs1,hs2,hsr⟩:=hps.steps
   have hSb:S.length≤1000:=by
    rw [hS]
    unfold posL
    have h9:=List.length_filter_le (possM (lens l) (atL (lens l) q)) (mvL n)
    have h8:=mvL_15 h1n h4n
    omega
   have hSf:S.find? (fitT (colZ c l) (lens l) (mvL n) p (atL (lens l) q))=some mf:=by rw [hS,find_posT];exact hfind
   repeat' (first|refine d1 ?_|refine dd ?_|(show ∀ _:Nat,T _ _ _ _ _;intro _))
   rename_i b16
   refine T_loopX (fun s:Nat × Option (List Nat) × Value=>[(17, .int .i64 ((s.1:Int) - 1))]) (fun s=>[blk b16 (stpC (colZ c l) (lens l) (atL (lens l) q) s.2.1 s.2.2) 96,fz ps,row 27 1 Ao co out.length hs,dat hs (out.map intsD),blk b9 (L.map Value.bool) 4,blk pc c.cells 23]) (fun s=>s.1≤S.length∧s.2.1=(S.drop s.1).find? (fitT (colZ c l) (lens l) (mvL n) p (atL (lens l) q))∧∀ m,s.2.1=some m→∃ Ac cc,s.2.2 = .slice Ac (colT (atL (lens l) q) m).length cc∧Rd (fr ps) [s.2.2] [intsD (colT (atL (lens l) q) m)]) (fun s=>s.1) (S.length,none, .slice none 0 0) ⟨Nat.le_refl _,by (try dsimp only);rw [List.drop_length];rfl,fun m h=>by cases h⟩ ?_ (hG:=Hle.refl _)
   rintro⟨k,om,xo⟩ ⟨hk,hom,hxo⟩
   dsimp only at hk hom hxo ⊢
   repeat' (first|refine d1 ?_|refine dd ?_|(show ∀ _:Nat,T _ _ _ _ _;intro _))
   rcases k with _|k
   ·refine T_if rfl (fun h7=>by exfalso;simp at h7) (fun _=>?_)
    rw [List.drop_zero,hSf] at hom
    subst hom
    obtain⟨Ac,cc,rfl,hxr⟩:=hxo mf rfl
    obtain⟨g1,g2,g3,g4⟩:=toM_rem hno hlsn hvi hmfm hmfp
    have hcl:(colT (atL (lens l) q) mf).length=n:=by rw [colT_len,atL_len,hlsn]
    have hstp:=tgV_step hno hlsn hvi hfind
    have hov:out.length≤200000:=by omega
    have e16:stpC (colZ c l) (lens l) (atL (lens l) q) (some mf) (.slice Ac (colT (atL (lens l) q) mf).length cc)=[.int .i64 (numL (lens l) (toM (atL (lens l) q) mf):Nat), .int .i64 (colZ c l (colT (atL (lens l) q) mf)), .slice Ac (colT (atL (lens l) q) mf).length cc]:=rfl
    rw [e16]
    repeat' (first|refine d1 ?_|refine dd ?_|(show T _ (.ops _ (_::_)::_) _ _ _;refine T_op (OpT.append (A:=Ao) rfl rfl rfl rfl rfl rfl rfl rfl rfl rfl (fun w hw=>Src.own hw rfl) rfl (by dsimp only;omega) (by omega) (fun A' cap' hA'=>?_)))|(show ∀ _:Nat,T _ _ _ _ _;intro _))
    rename_i blit
    refine T_le (H':=[blk blit _ _,blk b16 _ _,fz ps,row 27 1 A' cap' (out.length+1) (hs++[.slice Ac (colT (atL (lens l) q) mf).length cc]),dat hs (out.map intsD),blk b9 (L.map Value.bool) 4,blk pc c.cells 23]) (Hle.refl _) ?_
    refine T_backX (toM (atL (lens l) q) mf,(A',cap'),hs++[Value.slice Ac (colT (atL (lens l) q) mf).length cc],out++[colT (atL (lens l) q) mf]) ⟨g1,hmfl,?_,?_⟩ (by dsimp only;omega) (hE:=⟨rfl,by (try dsimp only);rw [List.length_append];rfl,trivial⟩) (hG:=?_)
    ·dsimp only;rw [List.length_append,List.length_singleton];omega
    ·dsimp only;rw [hout,hstp,List.append_assoc];rfl
    ·dsimp only
     rw [List.length_append,List.map_append,List.length_singleton,List.map_cons,List.map_nil]
     exact (Hle.srt (K:=[fz ps,dat hs (out.map intsD),row 27 1 A' cap' (out.length+1) (hs++[.slice Ac (colT (atL (lens l) q) mf).length cc]),blk b9 (L.map Value.bool) 4,blk pc c.cells 23])).trans ((colOf_hle (b:=0) hxr).trans Hle.srt)
   have hkS:k<S.length:=by omega
   refine T_if rfl (fun _=>?_) (fun h7=>by have h9:=of_decide_eq_false h7;omega)
   rw [show (((k+1:Nat):Int) - 1)=(k:Int) by omega]
   obtain⟨bs,os,rfl,hsq⟩:=hsr (by omega)
   obtain⟨m,hm⟩:∃ m,S[k]?=some m:=⟨_,List.getElem?_eq_getElem hkS⟩
   obtain⟨hmm,hpo⟩:=posL_mem (hS ▸ List.mem_of_getElem? hm)
   obtain⟨hti,ht1,ht2,ht3⟩:=toM_rem hno hlsn hvi hmm hpo
   have huV:=numL_lt hti
   have hnq:=num_at (lens l) q (by omega)
   obtain⟨r0,r1,Ac,cc,r2,r3⟩:=hsq k m hm
   have hfit:fitT (colZ c l) (lens l) (mvL n) p (atL (lens l) q) m=(decide (pg p q=colZ c l (colT (atL (lens l) q) m)+pg p (numL (lens l) (toM (atL (lens l) q) m))) && L.getD (numL (lens l) (toM (atL (lens l) q) m)) false):=by
    rw [hLall _ (by omega),hF]
    dsimp only
    unfold fitT viaP
    rw [hpo,Bool.true_and,hnq,at_num hti]
   obtain⟨u,hu9⟩:∃ u,u=numL (lens l) (toM (atL (lens l) q) m):=⟨_,rfl⟩
   rw [← hu9, ← hV] at huV
   rw [← hu9] at hfit r0
   have f0:fr ps bs (os+(k:Int).toNat * 3+0)=some (.int .i64 (u:Nat)):=r0
   have f1:fr ps bs (os+(k:Int).toNat * 3+1)=some (.int .i64 (colZ c l (colT (atL (lens l) q) m))):=r1
   have hKb:=colZ_bd hc (show l.length≤32 by omega) (colT (atL (lens l) q) m)
   have hru:=hrd u (by omega)
   have hrq:=hrd q (by omega)
   have hpu:=hpb2 u
   have hlu:=lead_get hL huV
   have hfd:=find_drop (f:=fitT (colZ c l) (lens l) (mvL n) p (atL (lens l) q)) hm
   have hall3:∀ w',Cls w w' [fz ps]→RdC w' bs (os+(k:Int).toNat * 3) [.int .i64 (u:Nat), .int .i64 (colZ c l (colT (atL (lens l) q) m)), .slice Ac (colT (atL (lens l) q) m).length cc]:=fun w' hw' j y hy=>by
    have h9:=hw'.fz (p:=ps)
    rcases j with _|_|_|j
    ·cases hy;exact h9 _ _ _ f0
    ·cases hy;exact h9 _ _ _ f1
    ·cases hy;exact h9 _ _ _ r2
    ·simp at hy
   repeat' (first|refine d1 ?_|refine dd ?_|(show T _ (.ops _ (_::_)::_) _ _ _;first|refine T_val rfl (Val.load rfl (fun hg=>rdFz (p:=ps) f0)) rfl rfl rfl ?_|refine T_valC rfl (Val.load rfl (fun hg=>rdFz (p:=ps) f0)) rfl rfl rfl rfl rfl ?_|refine T_val rfl (Val.load rfl (fun hg=>rdFz (p:=ps) f1)) rfl rfl rfl ?_|refine T_valC rfl (Val.load rfl (fun hg=>rdFz (p:=ps) f1)) rfl rfl rfl rfl rfl ?_|refine T_val rfl (Val.load rfl (fun hg=>rdOld hru)) rfl rfl rfl ?_|refine T_valC rfl (Val.load rfl (fun hg=>rdOld hru)) rfl rfl rfl rfl rfl ?_|refine T_val rfl (Val.load rfl (fun hg=>rdOld hrq)) rfl rfl rfl ?_|refine T_valC rfl (Val.load rfl (fun hg=>rdOld hrq)) rfl rfl rfl rfl rfl ?_|refine T_val rfl (Val.load rfl (fun hg=>(fun w hw=>hlu w b9 (rdAll w hw)))) rfl rfl rfl ?_|refine T_valC rfl (Val.load rfl (fun hg=>(fun w hw=>hlu w b9 (rdAll w hw)))) rfl rfl rfl rfl rfl ?_)|(show T _ (.run _ _ (_::_) _ _::_) _ _ _;first|refine rv rfl rfl rfl (Val.load rfl (fun hg=>rdFz (p:=ps) f0)) rfl rfl rfl ?_|refine rg rfl rfl rfl (Val.load rfl (fun hg=>rdFz (p:=ps) f0)) rfl rfl rfl rfl rfl ?_|refine rv rfl rfl rfl (Val.load rfl (fun hg=>rdFz (p:=ps) f1)) rfl rfl rfl ?_|refine rg rfl rfl rfl (Val.load rfl (fun hg=>rdFz (p:=ps) f1)) rfl rfl rfl rfl rfl ?_|refine rv rfl rfl rfl (Val.load rfl (fun hg=>rdOld hru)) rfl rfl rfl ?_|refine rg rfl rfl rfl (Val.load rfl (fun hg=>rdOld hru)) rfl rfl rfl rfl rfl ?_|refine rv rfl rfl rfl (Val.load rfl (fun hg=>rdOld hrq)) rfl rfl rfl ?_|refine rg rfl rfl rfl (Val.load rfl (fun hg=>rdOld hrq)) rfl rfl rfl rfl rfl ?_|refine rv rfl rfl rfl (Val.load rfl (fun hg=>(fun w hw=>hlu w b9 (rdAll w hw)))) rfl rfl rfl ?_|refine rg rfl rfl rfl (Val.load rfl (fun hg=>(fun w hw=>hlu w b9 (rdAll w hw)))) rfl rfl rfl rfl rfl ?_)|(show ∀ _:Nat,T _ _ _ _ _;intro _))
   have hcond:(decide (colZ c l (colT (atL (lens l) q) m)+pg p u=pg p q) && L.getD u false)=fitT (colZ c l) (lens l) (mvL n) p (atL (lens l) q) m:=by rw [hfit];congr 1;exact decide_eq_decide.2 eq_comm
   refine T_if rfl (fun h7=>?_) (fun h7=>?_)
   ·have hft:fitT (colZ c l) (lens l) (mvL n) p (atL (lens l) q) m=true:=by rw [← hcond];exact h7
    rw [if_pos hft] at hfd
    have h16:(stpC (colZ c l) (lens l) (atL (lens l) q) om xo).length=3:=by cases om <;> rfl
    repeat' (first|refine d1 ?_|refine dd ?_|(show T _ (.ops _ (_::_)::_) _ _ _;first|refine T_val rfl (Val.loadA (vs:=[.int .i64 (u:Nat), .int .i64 (colZ c l (colT (atL (lens l) q) m)), .slice Ac (colT (atL (lens l) q) m).length cc]) rfl (fun _ w hw=>hall3 w (hw.le Hle.sub)) rfl) rfl rfl rfl ?_|refine T_valC rfl (Val.loadA (vs:=[.int .i64 (u:Nat), .int .i64 (colZ c l (colT (atL (lens l) q) m)), .slice Ac (colT (atL (lens l) q) m).length cc]) rfl (fun _ w hw=>hall3 w (hw.le Hle.sub)) rfl) rfl rfl rfl rfl rfl ?_|refine T_op (OpT.storeA rfl rfl rfl rfl rfl rfl (by rw [h16];exact Nat.le_refl 3) ?_))|(show T _ (.run _ _ (_::_) _ _::_) _ _ _;first|refine rv rfl rfl rfl (Val.loadA (vs:=[.int .i64 (u:Nat), .int .i64 (colZ c l (colT (atL (lens l) q) m)), .slice Ac (colT (atL (lens l) q) m).length cc]) rfl (fun _ w hw=>hall3 w (hw.le Hle.sub)) rfl) rfl rfl rfl ?_|refine rg rfl rfl rfl (Val.loadA (vs:=[.int .i64 (u:Nat), .int .i64 (colZ c l (colT (atL (lens l) q) m)), .slice Ac (colT (atL (lens l) q) m).length cc]) rfl (fun _ w hw=>hall3 w (hw.le Hle.sub)) rfl) rfl rfl rfl rfl rfl ?_)|(show ∀ _:Nat,T _ _ _ _ _;intro _))
    refine T_backX (k,some m,Value.slice Ac (colT (atL (lens l) q) m).length cc) ⟨by dsimp only;omega,by (try dsimp only);rw [hfd],fun m' h9=>?_⟩ (by dsimp only;omega) (hE:=⟨rfl,trivial⟩) (hG:=?_)
    ·cases h9
     exact⟨Ac,cc,rfl,r3⟩
    ·dsimp only
     rw [show stpC (colZ c l) (lens l) (atL (lens l) q) (some m) (.slice Ac (colT (atL (lens l) q) m).length cc)=[.int .i64 (u:Nat), .int .i64 (colZ c l (colT (atL (lens l) q) m)), .slice Ac (colT (atL (lens l) q) m).length cc] by rw [hu9];rfl]
     cases om <;> exact Hle.refl _
   ·have hft:fitT (colZ c l) (lens l) (mvL n) p (atL (lens l) q) m=false:=by rw [← hcond];exact h7
    rw [if_neg (by rw [hft];decide)] at hfd
    repeat' (first|refine d1 ?_|refine dd ?_|(show ∀ _:Nat,T _ _ _ _ _;intro _))
    exact T_backX (k,om,xo) ⟨by dsimp only;omega,by (try dsimp only);rw [hfd];exact hom,hxo⟩ (by dsimp only;omega) (hE:=⟨rfl,trivial⟩)
  ·have he:v=lens l:=by
    rw [← hat]
    simp at h6
    rw [show q=volL (lens l) - 1 by omega,at_last]
   rw [he,tgV_end hno hlsn,List.append_nil] at hout
   rw [hout]
   repeat' (first|refine d1 ?_|refine dd ?_|(show ∀ _:Nat,T _ _ _ _ _;intro _)|(show T _ (.code .ret::_) _ _ _;refine T_retV _ rfl ((Hle.srt (K:=[row 27 1 Ao co out.length hs,dat hs (out.map intsD)])).trans dat_row) ⟨_,trivial,rfl,by rfl⟩))
 ·have hqV:q+1<np:=by omega
  refine T_if rfl (fun _=>?_) (fun h5=>by have h9:=of_decide_eq_false h5;omega)
  rw [show (((q+1:Nat):Int) - 1)=(q:Int) by omega]
  have hin:=atL_in (lens l) q
  have hne:=at_ne_last (ls:=lens l) (q:=q) (by omega) (by omega)
  have hnq:=num_at (lens l) q (by omega)
  have hLq:L.getD q false=false:=by rw [hLF q (by omega),if_neg (by omega)]
  have hFq:F q=(posL (lens l) (atL (lens l) q) (mvL n)).any (fitT (colZ c l) (lens l) (mvL n) p (atL (lens l) q)):=by
   rw [any_fit,hF]
   dsimp only
   rw [ldV_step hno hlsn hin]
   simp [hne]
  repeat' (first|refine d1 ?_|refine dd ?_|(show T _ (.ops _ (_::_)::_) _ _ _;refine T_op (OpT.call rfl rfl rfl rfl rfl (fun w hw=>steps20R_spec c A n ca l q w (hg.cls hw) hc hbs h1n h4n (by omega) (by omega)) (fun xs R hR=>?_)))|(show ∀ _:Nat,T _ _ _ _ _;intro _))
  obtain⟨_,-,rfl,rfl⟩:=hR
  obtain⟨S,hS⟩:∃ S,S=posL (lens l) (atL (lens l) q) (mvL n):=⟨_,rfl⟩
  rw [← hS] at hFq ⊢
  refine T_le (H':=dat [xs] [stepsD (colZ c l) (lens l) (atL (lens l) q) S]::blk b9 (L.map Value.bool) 4::blk pc c.cells 23::[]) (Hle.refl _) ?_
  refine T_open fun ps hps=>?_
  obtain⟨As,cs9,rfl,hs1,hs2,hsr⟩:=hps.steps
  have hSb:S.length≤1000:=by
   rw [hS]
   unfold posL
   have h9:=List.length_filter_le (possM (lens l) (atL (lens l) q)) (mvL n)
   have h8:=mvL_15 h1n h4n
   omega
  have hL0:L.set q ((S.take 0).any (fitT (colZ c l) (lens l) (mvL n) p (atL (lens l) q)))=L:=by rw [List.take_zero];exact set_sameB hLq (by omega)
  repeat' (first|refine d1 ?_|refine dd ?_|(show ∀ _:Nat,T _ _ _ _ _;intro _))
  refine T_loopX (fun s:Nat=>[(12, .int .i64 (s:Nat))]) (fun s=>[fz ps,blk b9 ((L.set q ((S.take s).any (fitT (colZ c l) (lens l) (mvL n) p (atL (lens l) q)))).map Value.bool) 4,blk pc c.cells 23]) (fun s=>s≤S.length) (fun s=>S.length - s) 0 (Nat.zero_le _) ?_ (hG:=by (try dsimp only);rw [hL0];exact Hle.refl _)
  intro s hs
  repeat' (first|refine d1 ?_|refine dd ?_|(show ∀ _:Nat,T _ _ _ _ _;intro _))
  refine T_if rfl (fun h6=>?_) (fun h6=>?_)
  ·simp only [decide_eq_true_eq] at h6
   have hsS:s<S.length:=by omega
   obtain⟨bs,os,rfl,hsq⟩:=hsr (by omega)
   obtain⟨m,hm⟩:∃ m,S[s]?=some m:=⟨_,List.getElem?_eq_getElem hsS⟩
   obtain⟨hmm,hpo⟩:=posL_mem (hS ▸ List.mem_of_getElem? hm)
   obtain⟨hti,ht1,ht2,ht3⟩:=toM_rem hno hlsn hin hmm hpo
   have huV:=numL_lt hti
   obtain⟨r0,r1,-⟩:=hsq s m hm
   have hqn:q<numL (lens l) (toM (atL (lens l) q) m):=by
    rw [toM_num _ _ _ (by rw [atL_len]) (fun s hs=>by rw [atL_len,hlsn];exact hno.lt m hmm s hs),hnq]
    have:=stp_pos (ls:=lens l) (hno.ne m hmm) (fun s hs=>by rw [hlsn];exact hno.lt m hmm s hs)
    omega
   obtain⟨X,hX⟩:∃ X,X=(S.take s).any (fitT (colZ c l) (lens l) (mvL n) p (atL (lens l) q)):=⟨_,rfl⟩
   have hXs:(S.take (s+1)).any (fitT (colZ c l) (lens l) (mvL n) p (atL (lens l) q))=(X || fitT (colZ c l) (lens l) (mvL n) p (atL (lens l) q) m):=by
    rw [take_snoc _ _ _ hm,List.any_append, ← hX];simp
   have hfit:fitT (colZ c l) (lens l) (mvL n) p (atL (lens l) q) m=(decide (colZ c l (colT (atL (lens l) q) m)+pg p (numL (lens l) (toM (atL (lens l) q) m))=pg p q) && (L.set q X).getD (numL (lens l) (toM (atL (lens l) q) m)) false):=by
    rw [set_getB (by omega),if_neg (by omega),hLF _ (by omega),if_pos (by omega),hF]
    dsimp only
    unfold fitT viaP
    rw [hpo,Bool.true_and,hnq,at_num hti]
    congr 1
    exact decide_eq_decide.2 eq_comm
   obtain⟨u,hu9⟩:∃ u,u=numL (lens l) (toM (atL (lens l) q) m):=⟨_,rfl⟩
   rw [← hu9, ← hV] at huV
   rw [← hu9] at hfit hqn r0
   have f0:fr ps bs (os+(s:Int).toNat * 3+0)=some (.int .i64 (u:Nat)):=r0
   have f1:fr ps bs (os+(s:Int).toNat * 3+1)=some (.int .i64 (colZ c l (colT (atL (lens l) q) m))):=r1
   have hKb:=colZ_bd hc (show l.length≤32 by omega) (colT (atL (lens l) q) m)
   have hru:=hrd u (by omega)
   have hrq:=hrd q (by omega)
   have hpu:=hpb2 u
   have hLs:(L.set q X).length=np:=by rw [List.length_set,hL]
   have hLsm:((L.set q X).map Value.bool).length=np:=by rw [List.length_map,hLs]
   have hlu:=lead_get hLs huV
   rw [← hX]
   repeat' (first|refine d1 ?_|refine dd ?_|(show T _ (.ops _ (_::_)::_) _ _ _;first|refine T_val rfl (Val.load rfl (fun hg=>rdFz (p:=ps) f0)) rfl rfl rfl ?_|refine T_valC rfl (Val.load rfl (fun hg=>rdFz (p:=ps) f0)) rfl rfl rfl rfl rfl ?_|refine T_val rfl (Val.load rfl (fun hg=>rdFz (p:=ps) f1)) rfl rfl rfl ?_|refine T_valC rfl (Val.load rfl (fun hg=>rdFz (p:=ps) f1)) rfl rfl rfl rfl rfl ?_|refine T_val rfl (Val.load rfl (fun hg=>rdOld hru)) rfl rfl rfl ?_|refine T_valC rfl (Val.load rfl (fun hg=>rdOld hru)) rfl rfl rfl rfl rfl ?_|refine T_val rfl (Val.load rfl (fun hg=>rdOld hrq)) rfl rfl rfl ?_|refine T_valC rfl (Val.load rfl (fun hg=>rdOld hrq)) rfl rfl rfl rfl rfl ?_|refine T_val rfl (Val.load rfl (fun hg=>(fun w hw=>hlu w b9 (rdAll w hw)))) rfl rfl rfl ?_|refine T_valC rfl (Val.load rfl (fun hg=>(fun w hw=>hlu w b9 (rdAll w hw)))) rfl rfl rfl rfl rfl ?_)|(show T _ (.run _ _ (_::_) _ _::_) _ _ _;first|refine rv rfl rfl rfl (Val.load rfl (fun hg=>rdFz (p:=ps) f0)) rfl rfl rfl ?_|refine rg rfl rfl rfl (Val.load rfl (fun hg=>rdFz (p:=ps) f0)) rfl rfl rfl rfl rfl ?_|refine rv rfl rfl rfl (Val.load rfl (fun hg=>rdFz (p:=ps) f1)) rfl rfl rfl ?_|refine rg rfl rfl rfl (Val.load rfl (fun hg=>rdFz (p:=ps) f1)) rfl rfl rfl rfl rfl ?_|refine rv rfl rfl rfl (Val.load rfl (fun hg=>rdOld hru)) rfl rfl rfl ?_|refine rg rfl rfl rfl (Val.load rfl (fun hg=>rdOld hru)) rfl rfl rfl rfl rfl ?_|refine rv rfl rfl rfl (Val.load rfl (fun hg=>rdOld hrq)) rfl rfl rfl ?_|refine rg rfl rfl rfl (Val.load rfl (fun hg=>rdOld hrq)) rfl rfl rfl rfl rfl ?_|refine rv rfl rfl rfl (Val.load rfl (fun hg=>(fun w hw=>hlu w b9 (rdAll w hw)))) rfl rfl rfl ?_|refine rg rfl rfl rfl (Val.load rfl (fun hg=>(fun w hw=>hlu w b9 (rdAll w hw)))) rfl rfl rfl rfl rfl ?_)|(show ∀ _:Nat,T _ _ _ _ _;intro _))
   refine T_if rfl (fun h7=>?_) (fun h7=>?_)
   ·have hft:fitT (colZ c l) (lens l) (mvL n) p (atL (lens l) q) m=true:=by rw [hfit];exact h7
    rw [hft,Bool.or_true] at hXs
    repeat' (first|refine d1 ?_|refine dd ?_|(show T _ (.ops _ (_::_)::_) _ _ _;refine T_op (OpT.store rfl rfl rfl rfl (by rw [hLsm];omega) ?_))|(show ∀ _:Nat,T _ _ _ _ _;intro _))
    refine T_backX (s+1) (by omega) (by omega) (hG:=?_)
    try dsimp only
    rw [hXs,show 0+(q:Int).toNat * 1=q by omega, ← List.map_set,List.set_set]
    exact Hle.refl _
   ·have hft:fitT (colZ c l) (lens l) (mvL n) p (atL (lens l) q) m=false:=by rw [hfit];exact h7
    rw [hft,Bool.or_false] at hXs
    repeat' (first|refine d1 ?_|refine dd ?_|(show ∀ _:Nat,T _ _ _ _ _;intro _))
    exact T_backX (s+1) (by omega) (by omega) (hG:=by (try dsimp only);rw [hXs];exact Hle.refl _)
  ·simp only [decide_eq_false_iff_not] at h6
   obtain rfl:s=S.length:=by omega
   rw [List.take_length, ← hFq]
   repeat' (first|refine d1 ?_|refine dd ?_|(show ∀ _:Nat,T _ _ _ _ _;intro _))
   refine T_backX (q,L.set q (F q)) ⟨by dsimp only;omega,by (try dsimp only);rw [List.length_set,hL],fun q' h5=>?_⟩ (by dsimp only;omega) (hE:=⟨rfl,trivial⟩) (hG:=Hle.sub)
   dsimp only
   rw [set_getB (by omega)]
   by_cases e:q=q'
   ·rw [if_pos e,if_pos (by omega),e]
   ·rw [if_neg e,hLF q' h5]
    by_cases e2:q+1≤q'
    ·rw [if_pos e2,if_pos (by omega)]
    ·rw [if_neg e2,if_neg (by omega)]
end Go.Proofs.YthadgaboakipoaaGreatDoor
