/- The law AlignproofGreatest holds for whatever costs, sources, potentials and number: the tied card of its row. No condition beyond the row's own. -/
import Derived.Test.YtmenjpmikhajfaaGreatDoorJ5
import Derived.Test.YtmenjpmikhajfaaGreatDoorCards
import Derived.Test.YtmenjpmikhajfaaGreatDoorTie
set_option linter.unusedVariables false
set_option linter.unusedSimpArgs false
namespace Go.Proofs.YtmenjpmikhajfaaGreatDoor
open Go.RowKit Go.Shelf Go.ChangeShapes Go.WideShapes Go.Proofs
set_option maxRecDepth 100000
set_option maxHeartbeats 1000000

theorem T_rowSome {C:Cx} {k:List It} {env:Env} {ec:EnvC} {H:List HA} {A:Option Addr} {e:TypeId} {sz cap n:Nat} {xs:List Value} (hn:0<n) (h:∀ g,A=some ⟨g,0,none⟩→T C k env ec (row e sz A cap n xs::H)):T C k env ec (row e sz A cap n xs::H):=by
 refine T.mk fun a w ha hw=>?_
 obtain⟨F,h1,h2,h3⟩:=hw.sep
 obtain⟨hl,hr⟩:=h1 0 _ rfl
 rcases hr with⟨e1,e2,e3,e4⟩|⟨b,cur,e1,_⟩
 ·omega
 ·exact (h b e1).go a w ha hw
theorem greatestL20_spec (c:Costs) (x:Value) (m:List (List Tok)) (z:Value) (q:List Int) (a:Int) (w:World) (hst:Std w) (hx:Rd (wr w) [x] [.s 1 (m.map toksD)]) (hz:Rd (wr w) [z] [intsD q]) (ha:0≤a∧a≤65535) :
  Spec Tryz.prog 8 [.agg (case20L c x).toArray,z, .int .u16 a] w (fun v R=>v = .bool true∧R=[]):=by
 obtain⟨A,ca,l,rfl,hnb,hs,hl,-⟩:=hx.toksL
 obtain⟨Aq,cq,rfl,hq1,hq2⟩:=hz.ints
 refine spec_of sg Tryz.func8 rfl rfl rfl ?_
 refine T_op (OpT.box (cs:=case20L c (.slice A l.length ca)) rfl rfl rfl rfl rfl rfl rfl (fun pc=>?_))
 have hT:∀ {w':World} {H:List HA},Cls w w' H→TsOk w' l:=fun hw=>⟨fun t ht=>src_below (hl.src t ht) hw.below,hl.len,hl.bd⟩
 repeat' (first|refine d1 ?_|refine dd ?_|(show T _ (.ops _ (_::_)::_) _ _ _;first|refine T_call rfl rfl rfl rfl rfl (fun w hw=>great20_spec A l.length ca l w (rdSrc hs w hw) rfl hnb (hT hw)) ?_|refine T_callC rfl rfl rfl rfl rfl rfl rfl (fun hg w hw=>great20_spec A l.length ca l w (rdSrc hs w hw) rfl hnb (hT hw)) ?_)|(show T _ (.run _ _ (_::_) _ _::_) _ _ _;first|refine rc rfl rfl rfl rfl rfl rfl rfl (fun w hw=>great20_spec A l.length ca l w (rdSrc hs w hw) rfl hnb (hT hw)) ?_|refine rcG rfl rfl rfl rfl rfl rfl rfl rfl rfl (fun hg w hw=>great20_spec A l.length ca l w (rdSrc hs w hw) rfl hnb (hT hw)) ?_)|(show ∀ _:Nat,T _ _ _ _ _;intro _))
 refine T_if rfl (fun _=>?_) (fun h=>?_)
 ·repeat' (first|refine d1 ?_|refine dd ?_|(show T _ (.ops _ (_::_)::_) _ _ _;first|refine T_call rfl rfl rfl rfl rfl (fun w hw=>awake20_spec w (hst.cls hw)) ?_|refine T_callC rfl rfl rfl rfl rfl rfl rfl (fun hg w hw=>awake20_spec w (hst.cls hw)) ?_)|(show T _ (.run _ _ (_::_) _ _::_) _ _ _;first|refine rc rfl rfl rfl rfl rfl rfl rfl (fun w hw=>awake20_spec w (hst.cls hw)) ?_|refine rcG rfl rfl rfl rfl rfl rfl rfl rfl rfl (fun hg w hw=>awake20_spec w (hst.cls hw)) ?_)|(show ∀ _:Nat,T _ _ _ _ _;intro _)|(show T _ (.code .ret::_) _ _ _;refine T_retV [] rfl (Hle.none _) ⟨rfl,rfl⟩))
 have hh:great20B l=false∧q.length≤310:=by
  simp only [Bool.or_eq_false_iff,decide_eq_false_iff_not] at h
  exact⟨h.1,by omega⟩
 clear h
 obtain⟨hgr,hq310⟩:=hh
 have hf:=fit_of hst hs rfl hl hgr
 repeat' (first|refine d1 ?_|refine dd ?_|(show T _ (.ops _ (_::_)::_) _ _ _;first|refine T_val rfl (Val.loadA (vs:=c.cells) rfl (fun _=>rdPart rfl) rfl) rfl rfl rfl ?_|refine T_valC rfl (Val.loadA (vs:=c.cells) rfl (fun _=>rdPart rfl) rfl) rfl rfl rfl rfl rfl ?_|refine T_op (OpT.call rfl rfl rfl rfl rfl (fun w hw=>potentials20_spec c A l.length ca l w (hf.cls hw)) ?_))|(show T _ (.run _ _ (_::_) _ _::_) _ _ _;first|refine rv rfl rfl rfl (Val.loadA (vs:=c.cells) rfl (fun _=>rdPart rfl) rfl) rfl rfl rfl ?_|refine rg rfl rfl rfl (Val.loadA (vs:=c.cells) rfl (fun _=>rdPart rfl) rfl) rfl rfl rfl rfl rfl ?_)|(show ∀ _:Nat,T _ _ _ _ _;intro _))
 rintro v R ⟨xp,-,rfl,rfl⟩
 by_cases hop:opE c l≠0
 ·have e:potV c l=([],opE c l):=if_pos hop
  rw [e]
  refine T_le (H':=[dat [xp] [intsD []],blk pc (case20L c (.slice A l.length ca)) 56]) (Hle.refl _) ?_
  refine T_open fun pp hpp=>?_
  obtain⟨Ap,cp,rfl,-⟩:=hpp.row1
  repeat' (first|refine d1 ?_|refine dd ?_|(show ∀ _:Nat,T _ _ _ _ _;intro _))
  refine T_if rfl (fun _=>?_) (fun h=>by exfalso;simp [hop] at h)
  repeat' (first|refine d1 ?_|refine dd ?_|(show T _ (.ops _ (_::_)::_) _ _ _;first|refine T_call rfl rfl rfl rfl rfl (fun w hw=>awake20_spec w (hst.cls hw)) ?_|refine T_callC rfl rfl rfl rfl rfl rfl rfl (fun hg w hw=>awake20_spec w (hst.cls hw)) ?_)|(show T _ (.run _ _ (_::_) _ _::_) _ _ _;first|refine rc rfl rfl rfl rfl rfl rfl rfl (fun w hw=>awake20_spec w (hst.cls hw)) ?_|refine rcG rfl rfl rfl rfl rfl rfl rfl rfl rfl (fun hg w hw=>awake20_spec w (hst.cls hw)) ?_)|(show ∀ _:Nat,T _ _ _ _ _;intro _)|(show T _ (.code .ret::_) _ _ _;refine T_retV [] rfl (Hle.none _) ⟨rfl,rfl⟩))
 have hop:opE c l=0:=by simpa using hop
 have hu:=hf.use hop
 have hV3:=vol_of hgr hu
 have hVp:=volL_pos (lens l)
 rw [hu.pot]
 obtain⟨P,hP⟩:∃ P,P=potL (colZ c l) (lens l) (mvL l.length):=⟨_,rfl⟩
 have hPl:P.length=volL (lens l):=by rw [hP,potL_len]
 have hchk:chkV20 c l P=0:=by rw [hP];exact hu.chkPot
 have hbel:chkV20 c l q=0→q.length=volL (lens l)∧∀ k,k<volL (lens l)→pg q k≤pg P k:=fun h9=>by rw [hP];exact hu.below h9
 have hrs:∀ k,k<volL (lens l)→chkV20 c l (P.set k (pg P k+1))=18:=fun k hk=>by rw [hP];exact hu.raise hk
 have hPb:∀ k,k<volL (lens l)→0≤pg P k∧pg P k≤1073741824:=fun k hk=>by
  have h9:=hchk
  rw [hu.chk] at h9
  exact (feaE_ok.1 h9).2.2.1 _ (List.mem_of_getElem? (pg_some (by omega)))
 rw [← hP]
 clear hP
 refine T_le (H':=[dat [xp] [intsD P],blk pc (case20L c (.slice A l.length ca)) 56]) (Hle.refl _) ?_
 refine T_open fun pp hpp=>?_
 have hpp0:=hpp
 obtain⟨Ap,cp,rfl,hp1,hp2,hpA⟩:=hpp.row1
 obtain⟨bp,op,rfl,hpB⟩:=hpA (by omega)
 repeat' (first|refine d1 ?_|refine dd ?_|(show ∀ _:Nat,T _ _ _ _ _;intro _))
 refine T_if rfl (fun h=>by exfalso;simp at h) (fun _=>?_)
 repeat' (first|refine d1 ?_|refine dd ?_|(show T _ (.ops _ (_::_)::_) _ _ _;first|refine T_val rfl (Val.loadA (vs:=c.cells) rfl (fun _=>rdPart rfl) rfl) rfl rfl rfl ?_|refine T_valC rfl (Val.loadA (vs:=c.cells) rfl (fun _=>rdPart rfl) rfl) rfl rfl rfl rfl rfl ?_|refine T_call rfl rfl rfl rfl rfl (fun w hw=>checkP20_spec c A l.length ca l (some ⟨bp,op,none⟩) P.length cp P w (hf.cls hw) (hpp0.own hw).intsAt rfl (by omega)) ?_|refine T_callC rfl rfl rfl rfl rfl rfl rfl (fun hg w hw=>checkP20_spec c A l.length ca l (some ⟨bp,op,none⟩) P.length cp P w (hf.cls hw) (hpp0.own hw).intsAt rfl (by omega)) ?_)|(show T _ (.run _ _ (_::_) _ _::_) _ _ _;first|refine rv rfl rfl rfl (Val.loadA (vs:=c.cells) rfl (fun _=>rdPart rfl) rfl) rfl rfl rfl ?_|refine rg rfl rfl rfl (Val.loadA (vs:=c.cells) rfl (fun _=>rdPart rfl) rfl) rfl rfl rfl rfl rfl ?_|refine rc rfl rfl rfl rfl rfl rfl rfl (fun w hw=>checkP20_spec c A l.length ca l (some ⟨bp,op,none⟩) P.length cp P w (hf.cls hw) (hpp0.own hw).intsAt rfl (by omega)) ?_|refine rcG rfl rfl rfl rfl rfl rfl rfl rfl rfl (fun hg w hw=>checkP20_spec c A l.length ca l (some ⟨bp,op,none⟩) P.length cp P w (hf.cls hw) (hpp0.own hw).intsAt rfl (by omega)) ?_)|(show ∀ _:Nat,T _ _ _ _ _;intro _))
 have hP0:P≠[]:=fun h0=>by rw [h0] at hPl;simp at hPl;omega
 refine T_if rfl (fun h=>by exfalso;simp [hchk,hP0] at h) (fun _=>?_)
 repeat' (first|refine d1 ?_|refine dd ?_|(show T _ (.ops _ (_::_)::_) _ _ _;first|refine T_val rfl (Val.loadA (vs:=c.cells) rfl (fun _=>rdPart rfl) rfl) rfl rfl rfl ?_|refine T_valC rfl (Val.loadA (vs:=c.cells) rfl (fun _=>rdPart rfl) rfl) rfl rfl rfl rfl rfl ?_|refine T_call rfl rfl rfl rfl rfl (fun w hw=>checkP20_spec c A l.length ca l Aq q.length cq q w (hf.cls hw) (rdSrc hq2 w hw) rfl (by omega)) ?_|refine T_callC rfl rfl rfl rfl rfl rfl rfl (fun hg w hw=>checkP20_spec c A l.length ca l Aq q.length cq q w (hf.cls hw) (rdSrc hq2 w hw) rfl (by omega)) ?_)|(show T _ (.run _ _ (_::_) _ _::_) _ _ _;first|refine rv rfl rfl rfl (Val.loadA (vs:=c.cells) rfl (fun _=>rdPart rfl) rfl) rfl rfl rfl ?_|refine rg rfl rfl rfl (Val.loadA (vs:=c.cells) rfl (fun _=>rdPart rfl) rfl) rfl rfl rfl rfl rfl ?_|refine rc rfl rfl rfl rfl rfl rfl rfl (fun w hw=>checkP20_spec c A l.length ca l Aq q.length cq q w (hf.cls hw) (rdSrc hq2 w hw) rfl (by omega)) ?_|refine rcG rfl rfl rfl rfl rfl rfl rfl rfl rfl (fun hg w hw=>checkP20_spec c A l.length ca l Aq q.length cq q w (hf.cls hw) (rdSrc hq2 w hw) rfl (by omega)) ?_)|(show ∀ _:Nat,T _ _ _ _ _;intro _))
 refine T_cutX 1 [] (fun _:Unit=>[]) (fun _=>[fz pp,blk pc (case20L c (.slice A l.length ca)) 56]) (fun _=>True) ?_ ?_
 ·refine T_if rfl (fun h=>?_) (fun _=>?_)
  ·obtain⟨hql,hle⟩:=hbel (by simpa using h)
   clear h
   obtain⟨bq,oq,rfl⟩:=hq2.base (by omega)
   repeat' (first|refine d1 ?_|refine dd ?_|(show ∀ _:Nat,T _ _ _ _ _;intro _))
   refine T_if rfl (fun h=>by exfalso;simp at h;omega) (fun _=>?_)
   repeat' (first|refine d1 ?_|refine dd ?_|(show ∀ _:Nat,T _ _ _ _ _;intro _))
   refine T_loopX (fun k:Nat=>[(62, .int .i64 (k:Nat))]) (fun _=>[fz pp,blk pc (case20L c (.slice A l.length ca)) 56]) (fun k=>k≤q.length) (fun k=>q.length - k) 0 (Nat.zero_le _) ?_
   intro k hk
   repeat' (first|refine d1 ?_|refine dd ?_|(show ∀ _:Nat,T _ _ _ _ _;intro _))
   refine T_if rfl (fun h=>?_) (fun h=>?_)
   ·simp only [decide_eq_true_eq] at h
    have hkq:k<q.length:=by omega
    have hr1:RdC w bq (oq+(k:Int).toNat * 1) [.int .i64 (pg q k)]:=src_int hq2 hkq (pg_some hkq)
    have hpk:=hpB k _ (pg_some (p:=P) (q:=k) (by omega))
    have hlk:=hle k (by omega)
    repeat' (first|refine d1 ?_|refine dd ?_|(show T _ (.ops _ (_::_)::_) _ _ _;first|refine T_val rfl (Val.load rfl (fun hg=>rdOld hr1)) rfl rfl rfl ?_|refine T_valC rfl (Val.load rfl (fun hg=>rdOld hr1)) rfl rfl rfl rfl rfl ?_|refine T_val rfl (Val.load rfl (fun hg=>rdFz (p:=pp) (u := .int .i64 (pg P k)) (b:=bp) (by rw [off1];exact hpk))) rfl rfl rfl ?_|refine T_valC rfl (Val.load rfl (fun hg=>rdFz (p:=pp) (u := .int .i64 (pg P k)) (b:=bp) (by rw [off1];exact hpk))) rfl rfl rfl rfl rfl ?_)|(show T _ (.run _ _ (_::_) _ _::_) _ _ _;first|refine rv rfl rfl rfl (Val.load rfl (fun hg=>rdOld hr1)) rfl rfl rfl ?_|refine rg rfl rfl rfl (Val.load rfl (fun hg=>rdOld hr1)) rfl rfl rfl rfl rfl ?_|refine rv rfl rfl rfl (Val.load rfl (fun hg=>rdFz (p:=pp) (u := .int .i64 (pg P k)) (b:=bp) (by rw [off1];exact hpk))) rfl rfl rfl ?_|refine rg rfl rfl rfl (Val.load rfl (fun hg=>rdFz (p:=pp) (u := .int .i64 (pg P k)) (b:=bp) (by rw [off1];exact hpk))) rfl rfl rfl rfl rfl ?_)|(show ∀ _:Nat,T _ _ _ _ _;intro _))
    refine T_if rfl (fun h9=>by exfalso;simp at h9;omega) (fun _=>?_)
    repeat' (first|refine d1 ?_|refine dd ?_|(show ∀ _:Nat,T _ _ _ _ _;intro _))
    exact T_backX (k+1) (by omega) (by omega)
   ·repeat' (first|refine d1 ?_|refine dd ?_|(show ∀ _:Nat,T _ _ _ _ _;intro _))
    exact T_meetX () trivial
  ·repeat' (first|refine d1 ?_|refine dd ?_|(show ∀ _:Nat,T _ _ _ _ _;intro _))
   exact T_meetX () trivial
 rintro - -
 dsimp only
 repeat' (first|refine d1 ?_|refine dd ?_|(show T _ (.ops _ (_::_)::_) _ _ _;refine T_op (OpT.call rfl rfl rfl rfl rfl (fun w hw=>cloneI_spec (some ⟨bp,op,none⟩) P.length cp P w (hpp0.own hw).intsAt (by omega)) ?_))|(show ∀ _:Nat,T _ _ _ _ _;intro _))
 rintro v R ⟨⟨Ar,cr⟩,-,rfl,rfl⟩
 refine T_le (H':=row 3 1 Ar cr P.length (P.map (Value.int .i64))::[fz pp,blk pc (case20L c (.slice A l.length ca)) 56]) (Hle.refl _) ?_
 refine T_rowSome (by omega) ?_
 rintro g rfl
 dsimp only
 obtain⟨k,hk⟩:=Int.eq_ofNat_of_zero_le (Int.emod_nonneg a (show (P.length:Int)≠0 by omega))
 have hk1:=Int.emod_lt_of_pos a (show (0:Int)<(P.length:Int) by omega)
 have hkV:k<volL (lens l):=by omega
 have hPk:=hPb k hkV
 have hset:∀ off,off=k→setL (P.map (Value.int .i64)) off [.int .i64 (pg P k+1)]=(P.set k (pg P k+1)).map (Value.int .i64):=fun off ho=>by
  subst ho
  rw [List.map_set];rfl
 have hgk:(P.map (Value.int .i64))[k]?=some (.int .i64 (pg P k)):=by rw [List.getElem?_map,pg_some (by omega)];rfl
 have hck:=hrs k hkV
 have hg1:∀ (j:Nat) u,[Value.int .i64 (pg P k)][j]?=some u→(P.map (Value.int .i64))[k+j]?=some u:=fun j u hu=>by
  rcases j with _|j
  ·cases hu;exact hgk
  ·simp at hu
 repeat' (first|refine d1 ?_|refine dd ?_|(show T _ (.ops _ (_::_)::_) _ _ _;first|refine T_val rfl (Val.load rfl (fun hg=>rdRow (A:=some ⟨g,0,none⟩) (by omega) (fun j u hu=>by rw [show 0+(a % (P.length:Int)).toNat * 1=k by omega];exact hg1 j u hu))) rfl rfl rfl ?_|refine T_valC rfl (Val.load rfl (fun hg=>rdRow (A:=some ⟨g,0,none⟩) (by omega) (fun j u hu=>by rw [show 0+(a % (P.length:Int)).toNat * 1=k by omega];exact hg1 j u hu))) rfl rfl rfl rfl rfl ?_|refine T_op (OpT.storeR (us:=[.int .i64 (pg P k+1)]) rfl rfl rfl rfl rfl rfl (by show 0+(a % (P.length:Int)).toNat * 1+1≤P.length * 1;omega) ?_))|(show T _ (.run _ _ (_::_) _ _::_) _ _ _;first|refine rv rfl rfl rfl (Val.load rfl (fun hg=>rdRow (A:=some ⟨g,0,none⟩) (by omega) (fun j u hu=>by rw [show 0+(a % (P.length:Int)).toNat * 1=k by omega];exact hg1 j u hu))) rfl rfl rfl ?_|refine rg rfl rfl rfl (Val.load rfl (fun hg=>rdRow (A:=some ⟨g,0,none⟩) (by omega) (fun j u hu=>by rw [show 0+(a % (P.length:Int)).toNat * 1=k by omega];exact hg1 j u hu))) rfl rfl rfl rfl rfl ?_)|(show ∀ _:Nat,T _ _ _ _ _;intro _))
 rw [hset _ (show 0+(a % (P.length:Int)).toNat * 1=k by omega)]
 repeat' (first|refine d1 ?_|refine dd ?_|(show T _ (.ops _ (_::_)::_) _ _ _;first|refine T_val rfl (Val.loadA (vs:=c.cells) rfl (fun _=>rdPart rfl) rfl) rfl rfl rfl ?_|refine T_valC rfl (Val.loadA (vs:=c.cells) rfl (fun _=>rdPart rfl) rfl) rfl rfl rfl rfl rfl ?_|refine T_call rfl rfl rfl rfl rfl (fun w hw=>checkP20_spec c A l.length ca l (some ⟨g,0,none⟩) P.length cr (P.set k (pg P k+1)) w (hf.cls hw) (srcRw w hw) (by rw [List.length_set]) (by omega)) ?_|refine T_callC rfl rfl rfl rfl rfl rfl rfl (fun hg w hw=>checkP20_spec c A l.length ca l (some ⟨g,0,none⟩) P.length cr (P.set k (pg P k+1)) w (hf.cls hw) (srcRw w hw) (by rw [List.length_set]) (by omega)) ?_|refine T_call rfl rfl rfl rfl rfl (fun w hw=>awake20_spec w (hst.cls hw)) ?_|refine T_callC rfl rfl rfl rfl rfl rfl rfl (fun hg w hw=>awake20_spec w (hst.cls hw)) ?_)|(show T _ (.run _ _ (_::_) _ _::_) _ _ _;first|refine rv rfl rfl rfl (Val.loadA (vs:=c.cells) rfl (fun _=>rdPart rfl) rfl) rfl rfl rfl ?_|refine rg rfl rfl rfl (Val.loadA (vs:=c.cells) rfl (fun _=>rdPart rfl) rfl) rfl rfl rfl rfl rfl ?_|refine rc rfl rfl rfl rfl rfl rfl rfl (fun w hw=>checkP20_spec c A l.length ca l (some ⟨g,0,none⟩) P.length cr (P.set k (pg P k+1)) w (hf.cls hw) (srcRw w hw) (by rw [List.length_set]) (by omega)) ?_|refine rcG rfl rfl rfl rfl rfl rfl rfl rfl rfl (fun hg w hw=>checkP20_spec c A l.length ca l (some ⟨g,0,none⟩) P.length cr (P.set k (pg P k+1)) w (hf.cls hw) (srcRw w hw) (by rw [List.length_set]) (by omega)) ?_|refine rc rfl rfl rfl rfl rfl rfl rfl (fun w hw=>awake20_spec w (hst.cls hw)) ?_|refine rcG rfl rfl rfl rfl rfl rfl rfl rfl rfl (fun hg w hw=>awake20_spec w (hst.cls hw)) ?_)|(show ∀ _:Nat,T _ _ _ _ _;intro _)|(show T _ (.code .ret::_) _ _ _;refine T_retV [] rfl (Hle.none _) ⟨congrArg Value.bool ?_,rfl⟩))
 simp [hck]
theorem greatest20_met (os:Os) (args:Array Value):laidMetH Tryz.prog Rows.alignproofGreatestRow.laid ((World.doorLaid Tryz.prog 400 os).forCall (fun _ _=>0) ⟨#[],args,[]⟩).memory :=
 io_met os args
theorem greatest20_lifted (os:Os) (started:os.Started) (H:Type) (enc:TypeId × Value→H) :
  ReturnsInHanded {} Tryz.checked os 8 .any (fun w args=>(Rows.alignproofGreatestSpec.pre enc Tryz.prog Tryz.f8 [] false w args∧laidMetH Tryz.prog Rows.alignproofGreatestRow.laid w)∧sizedMet enc Tryz.prog Tryz.f8 (OpenSpec.ofChange Rows.alignproofGreatestSpec) false w args)
   (Rows.alignproofGreatestSpec.post enc Tryz.prog Tryz.f8 false true false false):=by
 refine returnsInHanded_of_change_and (C:=Tryz.checked) (X:=fun w _=>laidMetH Tryz.prog Rows.alignproofGreatestRow.laid w) (fun _ _ _ hh h=>h.of_heap hh) knob started (by as_aux_lemma=>kernel_rfl) Tryz.func8
  (ChangeSpec.witness_shaped (enc:=enc) (C:=Tryz.checked) (os:=os) (X:=fun w _=>laidMetH Tryz.prog Rows.alignproofGreatestRow.laid w) false (World.doorLaid Tryz.prog 400 os) #[(.agg #[.int .i64 0, .int .i64 0, .int .i64 0, .int .i64 0, .slice none 0 0]), .slice none 0 0, .int .u16 0] 8 rfl (World.shaped_of_RefB (by as_aux_lemma=>kernel_rfl) (by as_aux_lemma=>kernel_rfl)) (by as_aux_lemma=>kernel_rfl) (by as_aux_lemma=>kernel_rfl) (by as_aux_lemma=>kernel_rfl) (greatest20_met os _)) ?_
 intro W base args ds gs before hval0 hW _ _ hL _
 have hval:∀ (j:Nat) t v,Tryz.f8.params[j]?=some t→args[j]?=some v→Value.okWide Tryz.prog W .any base t v:=hval0
 have hstd:=std_of (show laidMetH Tryz.prog laids W from hL)
 have hW':=hW
 obtain⟨p,q,hA0,hV,rfl,hfz,hnd⟩:=hW
 have hA:DataW.TrodAll enc Tryz.prog W 0 (fun _=>true) true Tryz.f8.params.toList args.toList ds p:=hA0
 obtain⟨v0,vs0,d0,ds0,p0,q0,e0,rfl,rfl,h0,hA⟩:=trodAll_cons hA
 obtain⟨v1,vs1,d1,ds1,p1,q1,rfl,rfl,rfl,h1,hA⟩:=trodAll_cons hA
 obtain⟨v2,vs2,d2,ds2,p2,q2,rfl,rfl,rfl,h2,hA⟩:=trodAll_cons hA
 obtain⟨rfl,rfl,rfl⟩:=trodAll_nil hA
 have ea:args = #[v0,v1,v2]:=Array.ext' e0
 subst ea
 obtain⟨c_x,z_x,m_x,rfl,hr_x⟩:=arg_case20 (hval 0 _ v0 rfl rfl) h0
 obtain⟨p,hr_p⟩:=arg_ints (hval 1 _ v1 rfl rfl) h1
 obtain⟨n,rfl,hb_n⟩:=arg_u16 (hval 2 _ v2 rfl rfl) h2
 refine (greatestL20_spec c_x z_x m_x v1 p n W hstd hr_x hr_p hb_n).calls.mono ?_
 rintro e W' ⟨v,A,rfl,⟨rfl,_⟩,hb,_⟩
 exact⟨_,rfl,law_post hW' rfl rfl laidOk (by intro t ht;simp only [show Tryz.f8.params.toList=[56,40,65] from rfl,List.mem_cons,List.mem_nil_iff,or_false] at ht;rcases ht with rfl|rfl|rfl <;> exact⟨by as_aux_lemma=>kernel_rfl,of_decide_eq_true (by as_aux_lemma=>kernel_rfl)⟩) rfl Tryz.underlying4 hb⟩
theorem greatest20_j0:Tryz.prog.inPlace 8=Rows.alignproofGreatestRow.inPlace:=by as_aux_lemma=>kernel_rfl
theorem greatest20_j1:Tryz.prog.unfollowed 8=Rows.alignproofGreatestRow.unfollowed:=by as_aux_lemma=>kernel_rfl
theorem greatest20_j2:Tryz.prog.recurses 8=Rows.alignproofGreatestRow.recurses:=by as_aux_lemma=>kernel_rfl
theorem greatest20_j3:Tryz.prog.varsNamed 8=Rows.alignproofGreatestRow.named:=by as_aux_lemma=>kernel_rfl
theorem greatest20_joined:joinedFacts Tryz.prog 8 Tryz.f8 Rows.alignproofGreatestSpec Rows.alignproofGreatestRow=true:=by
 unfold joinedFacts
 rw [greatest20_j0,greatest20_j1,greatest20_j2,greatest20_j3,io_enter,io_lifts,io_make]
 kernel_rfl
theorem greatest20_holds:Rows.AlignproofGreatestSaid :=
 OpenClaim.holds_of_wide 8 Tryz.f8 rfl rfl rfl rfl rfl rfl rfl ⟨rfl,rfl,rfl,rfl,rfl⟩ rfl rfl rfl rfl rfl (by as_aux_lemma=>kernel_rfl) Tryz.func8 greatest20_joined
  (of_decide_eq_true (by as_aux_lemma=>kernel_rfl)) (by unfold Func.isWrapper;first|(rw [if_pos (by decide +kernel)];kernel_rfl)|(rw [if_neg (by decide +kernel)];exact⟨rfl,rfl⟩))
  (fun os started H enc _=>greatest20_lifted os started H enc)
theorem greatest20_card:Rows.AlignproofGreatestCardSaid :=
 Claim7.holds_tied_plain_at .later [] [.data, .data, .data, .sentinel, .sentinel] true (true, "a99cdf59d6efa606f87a5bb4c7fcc05d64041f068a1803fa1d9ac2571df2b43a") true
  greatest20_holds (fun _ h=>by cases h) (by as_aux_lemma=>kernel_rfl) (fun _ h=>by cases h) alignproofGreatest_row_tie rfl ⟨rfl,rfl⟩ io_main rfl
  (fun f fn hf hfn=>by
   obtain rfl : f = 8 := Option.some.inj ((show Tryz.prog.funcNamed "apograph/apographlaw20.AlignproofGreatest" = some 8 by as_aux_lemma => kernel_rfl).symm.trans hf) |>.symm
   obtain rfl:fn=Tryz.f8:=(Option.some.inj (Tryz.func8.symm.trans hfn)).symm
   exact⟨by as_aux_lemma=>kernel_rfl,fun j t ht=>by
    have ht':[56,40,65][j]?=some t:=by rw [Tryz.params8] at ht;simpa using ht
    have hm:=List.mem_of_getElem? ht'
    simp only [List.mem_cons,List.mem_nil_iff,or_false] at hm
    rcases hm with rfl|rfl|rfl <;> exact (show Tryz.prog.wantsStandIn _=false by as_aux_lemma=>kernel_rfl)⟩)
  (by as_aux_lemma=>kernel_rfl)
#print axioms greatest20_card
end Go.Proofs.YtmenjpmikhajfaaGreatDoor
