/- The law CollationFinds holds for whatever collation: the tied card of its row. No condition beyond the row's own. -/
import Derived.Test.YtblnhdnogjijiaaGreatDoorU5
import Derived.Test.YtblnhdnogjijiaaGreatDoorCards
import Derived.Test.YtblnhdnogjijiaaGreatDoorTie
set_option linter.unusedSectionVars false
set_option linter.unusedVariables false
set_option linter.unusedSimpArgs false
namespace Go.Proofs.YtblnhdnogjijiaaGreatDoor
open Go.RowKit Go.Shelf Go.ChangeShapes Go.WideShapes Go.Proofs
set_option maxRecDepth 100000
set_option maxHeartbeats 1000000

noncomputable def last22 (x:Co) (s:Nat):Nat→Int
 | 0 => -1
 | k+1=>(findV22 x (s:Int) (k:Int)).1
theorem last22_lt {x:Co} (h:Ok22 x) {s k:Nat} (hs:s<x.sg.length) (hk:k<(x.m.getD s []).length):∃ i,i<x.cols.length∧findV22 x (s:Int) (k:Int)=((i:Int),0)∧(x.cols.getD i []).getD s (-1)=(k:Int)∧last22 x s k<(i:Int):=by
 obtain⟨i,h1,h2,h3,h4⟩:=finds22 h hs hk
 refine ⟨i,h1,h2,h3,?_⟩
 cases k with
 | zero=>show (-1:Int)<_;omega
 | succ k =>
  obtain⟨j,g1,g2,g3,g4⟩:=finds22 h hs (k:=k) (by omega)
  show (findV22 x (s:Int) (k:Int)).1<_
  rw [g2]
  show (j:Int)<_
  rcases Nat.lt_trichotomy j i with h5|rfl|h5
  ·omega
  ·rw [h3] at g3;omega
  ·have:=g4 i h5;rw [h3] at this;omega
theorem colV22_ok {x:Co} (h:Ok22 x) {i:Nat} (hi:i<x.cols.length):colV22 x (i:Int)=(col22 x i,0):=by
 unfold colV22
 rw [if_neg (by rw [chk22_iff.2 h];simp),if_neg (by omega),Int.toNat_natCast]
theorem finds22Law_spec (x:Co) (y1 y2 y3:Value) (w:World) (hst:Std w) (hx:CoRd w y1 y2 y3 x) :
  Spec Tryz.prog 4 [.agg (coL x.sec y1 y2 y3).toArray] w (fun v R=>v = .bool true∧R=[]):=by
 obtain⟨A1,c1,l,A2,c2,rfl,rfl,h⟩:=co_arg hx
 obtain⟨Ak,ck,csk,rfl,hck1,hck2,hcs,hrows⟩:=h.cols.tabS
 refine spec_of sg Tryz.func4 rfl rfl rfl ?_
 refine T_op (OpT.box (cs:=coL x.sec (.slice A1 x.sg.length c1) (.slice A2 l.length c2) (.slice Ak x.cols.length ck)) rfl rfl rfl rfl rfl rfl rfl (fun pc=>?_))
 repeat' (first|refine d1 ?_|refine dd ?_|(show T _ (.ops _ (_::_)::_) _ _ _;first|refine T_call rfl rfl rfl rfl rfl (fun w hw=>fine22_spec x A1 c1 l A2 c2 (.slice Ak x.cols.length ck) w (hst.cls hw) (h.cls hw)) ?_|refine T_callC rfl rfl rfl rfl rfl rfl rfl (fun hg w hw=>fine22_spec x A1 c1 l A2 c2 (.slice Ak x.cols.length ck) w (hst.cls hw) (h.cls hw)) ?_)|(show T _ (.run _ _ (_::_) _ _::_) _ _ _;first|refine rc rfl rfl rfl rfl rfl rfl rfl (fun w hw=>fine22_spec x A1 c1 l A2 c2 (.slice Ak x.cols.length ck) w (hst.cls hw) (h.cls hw)) ?_|refine rcG rfl rfl rfl rfl rfl rfl rfl rfl rfl (fun hg w hw=>fine22_spec x A1 c1 l A2 c2 (.slice Ak x.cols.length ck) w (hst.cls hw) (h.cls hw)) ?_)|(show ∀ _:Nat,T _ _ _ _ _;intro _))
 refine T_if rfl (fun hg=>?_) (fun hg=>?_)
 ·repeat' (first|refine d1 ?_|refine dd ?_|(show T _ (.ops _ (_::_)::_) _ _ _;first|refine T_call rfl rfl rfl rfl rfl (fun w hw=>awake22_spec w (hst.cls hw)) ?_|refine T_callC rfl rfl rfl rfl rfl rfl rfl (fun hg w hw=>awake22_spec w (hst.cls hw)) ?_)|(show T _ (.run _ _ (_::_) _ _::_) _ _ _;first|refine rc rfl rfl rfl rfl rfl rfl rfl (fun w hw=>awake22_spec w (hst.cls hw)) ?_|refine rcG rfl rfl rfl rfl rfl rfl rfl rfl rfl (fun hg w hw=>awake22_spec w (hst.cls hw)) ?_)|(show ∀ _:Nat,T _ _ _ _ _;intro _)|(show T _ (.code .ret::_) _ _ _;refine T_retV [] rfl (Hle.none _) ⟨rfl,rfl⟩))
 obtain⟨hs,hok,-⟩:=fine22_iff.1 (by simpa using hg)
 have hat:=h.at hst hs
 obtain⟨hr1,hr2,hr3⟩:=hat.row hok
 obtain⟨b2,o2,rfl⟩:=h.s2.base (by omega)
 repeat' (first|refine d1 ?_|refine dd ?_|(show ∀ _:Nat,T _ _ _ _ _;intro _))
 refine T_loopX (fun k:Nat=>[(21, .int .i64 (k:Nat))]) (fun _=>[blk pc (coL x.sec (.slice A1 x.sg.length c1) (.slice (some ⟨b2,o2,none⟩) l.length c2) (.slice Ak x.cols.length ck)) 32]) (fun k=>k≤l.length) (fun k=>l.length - k) 0 (Nat.zero_le _) ?_
 rintro s hsl
 repeat' (first|refine d1 ?_|refine dd ?_|(show ∀ _:Nat,T _ _ _ _ _;intro _))
 refine T_if rfl (fun h3=>?_) (fun h3=>?_)
 ·simp only [decide_eq_true_eq] at h3
  obtain⟨t,ht⟩:∃ t,l[s]?=some t:=⟨_,List.getElem?_eq_getElem (by omega)⟩
  have htm:=List.mem_of_getElem? ht
  have hrt:=hat.hd.hdr ht
  have htn:=(hat.hd.tok t htm).1
  have htl:t.l.length=t.n:=h.ok.len t htm
  have hmt:x.m.getD s []=t.l:=by rw [← h.m,List.getD_eq_getElem?_getD,List.getElem?_map,ht];rfl
  repeat' (first|refine d1 ?_|refine dd ?_|(show ∀ _:Nat,T _ _ _ _ _;intro _))
  refine T_loopX (fun k:Nat=>[(28, .int .i64 (k:Nat)),(5, .int .i64 (last22 x s k))]) (fun _=>[blk pc (coL x.sec (.slice A1 x.sg.length c1) (.slice (some ⟨b2,o2,none⟩) l.length c2) (.slice Ak x.cols.length ck)) 32]) (fun k=>k≤t.n) (fun k=>t.n - k) 0 (Nat.zero_le _) ?_
  rintro k hk
  repeat' (first|refine d1 ?_|refine dd ?_|(show ∀ _:Nat,T _ _ _ _ _;intro _))
  refine T_if rfl (fun h4=>?_) (fun h4=>?_)
  ·simp only [decide_eq_true_eq] at h4
   have hkn:k<t.n:=by omega
   obtain⟨i,hi,hfe,hci,hlt⟩:=last22_lt hok (s:=s) (k:=k) (by omega) (by rw [hmt];omega)
   obtain⟨u,hu⟩:∃ u,t.l[k]?=some u:=⟨_,List.getElem?_eq_getElem (by omega)⟩
   obtain⟨b3,o3,hA⟩:=(h.ok.src t htm).base (by omega)
   have hur:RdC w b3 (o3+(k:Int).toNat * 6) u.cells:=(hA ▸ h.ok.src t htm:Src w 6 (some ⟨b3,o3,none⟩) t.n (t.l.flatMap Tok.cells)).getT (k:=k) hkn hu
   rw [hA]
   repeat' (first|refine d1 ?_|refine dd ?_|(show T _ (.ops _ (_::_)::_) _ _ _;first|refine T_op (OpT.storeA rfl rfl rfl rfl rfl rfl (by decide) ?_)|refine T_call rfl rfl rfl rfl rfl (fun w hw=>findP22_spec x A1 c1 l (some ⟨b2,o2,none⟩) c2 (.slice Ak x.cols.length ck) (s:Int) (k:Int) w (hat.cls hw)) ?_|refine T_callC rfl rfl rfl rfl rfl rfl rfl (fun hg w hw=>findP22_spec x A1 c1 l (some ⟨b2,o2,none⟩) c2 (.slice Ak x.cols.length ck) (s:Int) (k:Int) w (hat.cls hw)) ?_)|(show T _ (.run _ _ (_::_) _ _::_) _ _ _;first|refine rc rfl rfl rfl rfl rfl rfl rfl (fun w hw=>findP22_spec x A1 c1 l (some ⟨b2,o2,none⟩) c2 (.slice Ak x.cols.length ck) (s:Int) (k:Int) w (hat.cls hw)) ?_|refine rcG rfl rfl rfl rfl rfl rfl rfl rfl rfl (fun hg w hw=>findP22_spec x A1 c1 l (some ⟨b2,o2,none⟩) c2 (.slice Ak x.cols.length ck) (s:Int) (k:Int) w (hat.cls hw)) ?_)|(show ∀ _:Nat,T _ _ _ _ _;intro _))
   rename_i bt
   rw [hfe]
   dsimp only
   repeat' (first|refine d1 ?_|refine dd ?_|(show T _ (.ops _ (_::_)::_) _ _ _;refine T_op (OpT.call rfl rfl rfl rfl rfl (fun w hw=>columnP22_spec x A1 c1 l (some ⟨b2,o2,none⟩) c2 (.slice Ak x.cols.length ck) (i:Int) w (hat.cls hw)) ?_))|(show ∀ _:Nat,T _ _ _ _ _;intro _))
   rintro v R ⟨y,-,rfl,rfl⟩
   rw [colV22_ok hok hi]
   refine T_open fun p hp=>?_
   refine T_le (H':=[fz p,blk bt u.cells 42,blk pc (coL x.sec (.slice A1 x.sg.length c1) (.slice (some ⟨b2,o2,none⟩) l.length c2) (.slice Ak x.cols.length ck)) 32]) (Hle.refl _) ?_
   obtain⟨Ay,cy,rfl,-,-,hy8⟩:=hp.rowS
   rw [col22_len] at hy8 ⊢
   obtain⟨by9,oy,rfl,hyr⟩:=hy8 (by omega)
   have hys:=hyr s _ (col22_get (by omega))
   obtain⟨r,hr⟩:∃ r,x.cols[i]?=some r:=⟨_,List.getElem?_eq_getElem hi⟩
   obtain⟨e1,t',z,e2,e3,-,-,e4,-⟩:=hat.entry hok hr (k:=s) (by omega)
   rw [ht] at e2;cases e2
   have hz:z=(k:Int):=by
    rw [← hci,show x.cols.getD i []=r by rw [List.getD_eq_getElem?_getD,hr];rfl,List.getD_eq_getElem?_getD,e3];rfl
   subst hz
   rw [txt22_get hu] at e4
   rw [e4] at hys
   obtain⟨b6,o6,rfl⟩:=hcs.base (by omega)
   obtain⟨Au,capu,hu2,-,-,hA8⟩:=hrows.tabRow hr
   obtain⟨b7,o7,rfl,hA9⟩:=hA8 (by omega)
   have hxr:RdC w b6 (o6+(i:Int).toNat * 1) [.slice (some ⟨b7,o7,none⟩) r.length capu]:=by
    have h9:=(hcs.get1 (i:=i) (by omega) hu2).2
    rw [Nat.mul_one] at h9
    rw [off1];exact h9
   have hxz:RdC w b7 (o7+(s:Int).toNat * 1) [.int .i64 (k:Int)]:=by rw [off1];exact RdC.one (hA9 s _ e3)
   repeat' (first|refine d1 ?_|refine dd ?_|(show T _ (.ops _ (_::_)::_) _ _ _;first|refine T_val rfl (Val.load rfl (fun hg=>rdFz (p:=p) (u := .string u.text) (b:=by9) (by rw [off1];exact hys))) rfl rfl rfl ?_|refine T_valC rfl (Val.load rfl (fun hg=>rdFz (p:=p) (u := .string u.text) (b:=by9) (by rw [off1];exact hys))) rfl rfl rfl rfl rfl ?_)|(show T _ (.run _ _ (_::_) _ _::_) _ _ _;first|refine rv rfl rfl rfl (Val.load rfl (fun hg=>rdFz (p:=p) (u := .string u.text) (b:=by9) (by rw [off1];exact hys))) rfl rfl rfl ?_|refine rg rfl rfl rfl (Val.load rfl (fun hg=>rdFz (p:=p) (u := .string u.text) (b:=by9) (by rw [off1];exact hys))) rfl rfl rfl rfl rfl ?_)|(show ∀ _:Nat,T _ _ _ _ _;intro _))
   refine T_if rfl (fun h=>by exfalso;simp at h;omega) (fun _=>?_)
   repeat' (first|refine d1 ?_|refine dd ?_|(show ∀ _:Nat,T _ _ _ _ _;intro _))
   refine T_backX (k+1) (by omega) (by omega) (hE:=⟨rfl,by rw [show last22 x s (k+1)=(i:Int) from congrArg Prod.fst hfe];rfl,trivial⟩) (hG:=Hle.nth 2 rfl)
  ·simp only [decide_eq_false_iff_not] at h4
   repeat' (first|refine d1 ?_|refine dd ?_|(show T _ (.ops _ (_::_)::_) _ _ _;first|refine T_call rfl rfl rfl rfl rfl (fun w hw=>findP22_spec x A1 c1 l (some ⟨b2,o2,none⟩) c2 (.slice Ak x.cols.length ck) (s:Int) (t.n:Int) w (hat.cls hw)) ?_|refine T_callC rfl rfl rfl rfl rfl rfl rfl (fun hg w hw=>findP22_spec x A1 c1 l (some ⟨b2,o2,none⟩) c2 (.slice Ak x.cols.length ck) (s:Int) (t.n:Int) w (hat.cls hw)) ?_)|(show T _ (.run _ _ (_::_) _ _::_) _ _ _;first|refine rc rfl rfl rfl rfl rfl rfl rfl (fun w hw=>findP22_spec x A1 c1 l (some ⟨b2,o2,none⟩) c2 (.slice Ak x.cols.length ck) (s:Int) (t.n:Int) w (hat.cls hw)) ?_|refine rcG rfl rfl rfl rfl rfl rfl rfl rfl rfl (fun hg w hw=>findP22_spec x A1 c1 l (some ⟨b2,o2,none⟩) c2 (.slice Ak x.cols.length ck) (s:Int) (t.n:Int) w (hat.cls hw)) ?_)|(show ∀ _:Nat,T _ _ _ _ _;intro _))
   rw [show findV22 x (s:Int) (t.n:Int)=(0,2) by rw [← htl, ← hmt];exact finds22_end hok]
   refine T_if rfl (fun h=>by exfalso;simp at h) (fun _=>?_)
   repeat' (first|refine d1 ?_|refine dd ?_|(show ∀ _:Nat,T _ _ _ _ _;intro _))
   refine T_backX (s+1) (by omega) (by omega) (hG:=by exact Hle.refl _)
 ·repeat' (first|refine d1 ?_|refine dd ?_|(show T _ (.ops _ (_::_)::_) _ _ _;first|refine T_call rfl rfl rfl rfl rfl (fun w hw=>awake22_spec w (hst.cls hw)) ?_|refine T_callC rfl rfl rfl rfl rfl rfl rfl (fun hg w hw=>awake22_spec w (hst.cls hw)) ?_)|(show T _ (.run _ _ (_::_) _ _::_) _ _ _;first|refine rc rfl rfl rfl rfl rfl rfl rfl (fun w hw=>awake22_spec w (hst.cls hw)) ?_|refine rcG rfl rfl rfl rfl rfl rfl rfl rfl rfl (fun hg w hw=>awake22_spec w (hst.cls hw)) ?_)|(show ∀ _:Nat,T _ _ _ _ _;intro _)|(show T _ (.code .ret::_) _ _ _;refine T_retV [] rfl (Hle.none _) ⟨rfl,rfl⟩))
theorem finds22_met (os:Os) (args:Array Value):laidMetH Tryz.prog Rows.collationFindsRow.laid ((World.doorLaid Tryz.prog 400 os).forCall (fun _ _=>0) ⟨#[],args,[]⟩).memory :=
 io_met os args
theorem finds22_lifted (os:Os) (started:os.Started) (H:Type) (enc:TypeId × Value→H) :
  ReturnsInHanded {} Tryz.checked os 4 .any (fun w args=>(Rows.collationFindsSpec.pre enc Tryz.prog Tryz.f4 [] false w args∧laidMetH Tryz.prog Rows.collationFindsRow.laid w)∧sizedMet enc Tryz.prog Tryz.f4 (OpenSpec.ofChange Rows.collationFindsSpec) false w args)
   (Rows.collationFindsSpec.post enc Tryz.prog Tryz.f4 false true false false):=by
 refine returnsInHanded_of_change_and (C:=Tryz.checked) (X:=fun w _=>laidMetH Tryz.prog Rows.collationFindsRow.laid w) (fun _ _ _ hh h=>h.of_heap hh) knob started (by as_aux_lemma=>kernel_rfl) Tryz.func4
  (ChangeSpec.witness_shaped (enc:=enc) (C:=Tryz.checked) (os:=os) (X:=fun w _=>laidMetH Tryz.prog Rows.collationFindsRow.laid w) false (World.doorLaid Tryz.prog 400 os) #[(.agg #[.string .empty, .slice none 0 0, .slice none 0 0, .slice none 0 0])] 8 rfl (World.shaped_of_RefB (by as_aux_lemma=>kernel_rfl) (by as_aux_lemma=>kernel_rfl)) (by as_aux_lemma=>kernel_rfl) (by as_aux_lemma=>kernel_rfl) (by as_aux_lemma=>kernel_rfl) (finds22_met os _)) ?_
 intro W base args ds gs before hval0 hW _ _ hL _
 have hval:∀ (j:Nat) t v,Tryz.f4.params[j]?=some t→args[j]?=some v→Value.okWide Tryz.prog W .any base t v:=hval0
 have hstd:=std_of (show laidMetH Tryz.prog laids W from hL)
 have hW':=hW
 obtain⟨p,q,hA0,hV,rfl,hfz,hnd⟩:=hW
 have hA:DataW.TrodAll enc Tryz.prog W 0 (fun _=>true) true Tryz.f4.params.toList args.toList ds p:=hA0
 obtain⟨v0,vs0,d0,ds0,p0,q0,e0,rfl,rfl,h0,hA⟩:=trodAll_cons hA
 obtain⟨rfl,rfl,rfl⟩:=trodAll_nil hA
 have ea:args = #[v0]:=Array.ext' e0
 subst ea
 obtain⟨x,y1_x,y2_x,y3_x,rfl,hr_x⟩:=arg_coll (hval 0 _ v0 rfl rfl) h0
 refine (finds22Law_spec x y1_x y2_x y3_x W hstd hr_x).calls.mono ?_
 rintro e W' ⟨v,A,rfl,⟨rfl,_⟩,hb,_⟩
 exact⟨_,rfl,law_post hW' rfl rfl laidOk (by intro t ht;simp only [show Tryz.f4.params.toList=[32] from rfl,List.mem_cons,List.mem_nil_iff,or_false] at ht;rcases ht with rfl <;> exact⟨by as_aux_lemma=>kernel_rfl,of_decide_eq_true (by as_aux_lemma=>kernel_rfl)⟩) rfl Tryz.underlying4 hb⟩
theorem finds22_j0:Tryz.prog.inPlace 4=Rows.collationFindsRow.inPlace:=by as_aux_lemma=>kernel_rfl
theorem finds22_j1:Tryz.prog.unfollowed 4=Rows.collationFindsRow.unfollowed:=by as_aux_lemma=>kernel_rfl
theorem finds22_j2:Tryz.prog.recurses 4=Rows.collationFindsRow.recurses:=by as_aux_lemma=>kernel_rfl
theorem finds22_j3:Tryz.prog.varsNamed 4=Rows.collationFindsRow.named:=by as_aux_lemma=>kernel_rfl
theorem finds22_joined:joinedFacts Tryz.prog 4 Tryz.f4 Rows.collationFindsSpec Rows.collationFindsRow=true:=by
 unfold joinedFacts
 rw [finds22_j0,finds22_j1,finds22_j2,finds22_j3,io_enter,io_lifts,io_make]
 kernel_rfl
theorem finds22_holds:Rows.CollationFindsSaid :=
 OpenClaim.holds_of_wide 4 Tryz.f4 rfl rfl rfl rfl rfl rfl rfl ⟨rfl,rfl,rfl,rfl,rfl⟩ rfl rfl rfl rfl rfl (by as_aux_lemma=>kernel_rfl) Tryz.func4 finds22_joined
  (of_decide_eq_true (by as_aux_lemma=>kernel_rfl)) (by unfold Func.isWrapper;first|(rw [if_pos (by decide +kernel)];kernel_rfl)|(rw [if_neg (by decide +kernel)];exact⟨rfl,rfl⟩))
  (fun os started H enc _=>finds22_lifted os started H enc)
theorem finds22_card:Rows.CollationFindsCardSaid :=
 Claim7.holds_tied_plain_at .later [] [.data, .data, .data, .sentinel, .sentinel] true (true, "a33e9cbe7952f7f382826246a114ee55385dea5ab4652de37f5d8544d92e8eb8") true
  finds22_holds (fun _ h=>by cases h) (by as_aux_lemma=>kernel_rfl) (fun _ h=>by cases h) collationFinds_row_tie rfl ⟨rfl,rfl⟩ io_main rfl
  (fun f fn hf hfn=>by
   obtain rfl : f = 4 := Option.some.inj ((show Tryz.prog.funcNamed "apograph/apographlaw22.CollationFinds" = some 4 by as_aux_lemma => kernel_rfl).symm.trans hf) |>.symm
   obtain rfl:fn=Tryz.f4:=(Option.some.inj (Tryz.func4.symm.trans hfn)).symm
   exact⟨by as_aux_lemma=>kernel_rfl,fun j t ht=>by
    have ht':[32][j]?=some t:=by rw [Tryz.params4] at ht;simpa using ht
    have hm:=List.mem_of_getElem? ht'
    simp only [List.mem_cons,List.mem_nil_iff,or_false] at hm
    rcases hm with rfl <;> exact (show Tryz.prog.wantsStandIn _=false by as_aux_lemma=>kernel_rfl)⟩)
  (by as_aux_lemma=>kernel_rfl)
#print axioms finds22_card
end Go.Proofs.YtblnhdnogjijiaaGreatDoor
