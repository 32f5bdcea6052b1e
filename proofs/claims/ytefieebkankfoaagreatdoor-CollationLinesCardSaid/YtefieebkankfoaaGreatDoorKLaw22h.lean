/- The law CollationLines holds for whatever collation: the tied card of its row. No condition beyond the row's own. -/
import Derived.Test.YtefieebkankfoaaGreatDoorW4
import Derived.Test.YtefieebkankfoaaGreatDoorCards
import Derived.Test.YtefieebkankfoaaGreatDoorTie
set_option linter.unusedSectionVars false
set_option linter.unusedVariables false
set_option linter.unusedSimpArgs false
namespace Go.Proofs.YtefieebkankfoaaGreatDoor
open Go.RowKit Go.Shelf Go.ChangeShapes Go.WideShapes Go.Proofs
set_option maxRecDepth 100000
set_option maxHeartbeats 2000000

theorem textL22_spec (x:Co) (A1:Option Addr) (c1:Nat) (l:List TS) (A2:Option Addr) (c2:Nat) (y3:Value) (i:Nat) (w:World) (hx:CoAt w x A1 c1 l A2 c2 y3) (hok:Ok22 x) (hi:i<x.sg.length) :
  Spec Tryz.prog 11 [.agg (coL x.sec (.slice A1 x.sg.length c1) (.slice A2 l.length c2) y3).toArray, .int .i64 (i:Int)] w (fun v R=>∃ y:Value,True∧v = .tuple #[y, .int .i64 0]∧R=[dat [y] [strsD (words22 x i)]]):=by
 have h:=textP22_spec x A1 c1 l A2 c2 y3 (i:Int) w hx
 rw [textV22_val hok hi] at h
 exact h
theorem ofB_list (l:List UInt8):(ofB l).data.toList=l:=rfl
theorem lines22_pcs {x:Co} (h:Ok22 x):pcs22 10 (ofB (print22 x))=(List.range x.sg.length).map (fun k=>ofB (bare22 x k))++[ByteArray.empty]:=by
 unfold pcs22
 rw [ofB_list,lines22 h,List.map_append,List.map_map]
 rfl
theorem bars22_pcs {x:Co} (h:Ok22 x) {k:Nat} (hk:k<x.sg.length):pcs22 124 (ofB (bare22 x k))=x.sg.getD k ByteArray.empty::row22 x k:=by
 unfold pcs22
 rw [ofB_list,bars22 h hk,List.map_cons,List.map_map]
 exact congrArg (_ :: ·) ((List.map_congr_left (fun t _=>rfl)).trans (List.map_id _))
theorem full22_row {x:Co} (h:Ok22 x) {k:Nat} (hk:k<x.sg.length):full22 (row22 x k)=words22 x k:=row22_words h hk
theorem bare22_len {x:Co} (hs:Small22 x) {k:Nat} (hk:k<x.sg.length):(bare22 x k).length≤1000:=by
 have h:=line22_le hs hk
 have e:line22 (x.sg.getD k ByteArray.empty) (row22 x k)=bare22 x k++[10]:=rfl
 rw [e,List.length_append] at h
 omega
theorem print22_len {x:Co} (hs:Small22 x):(print22 x).length≤100000:=by
 have h:=part22N_le hs x.sg.length (Nat.le_refl _)
 have:=hs.sg
 rw [part22N_all] at h
 omega
theorem ofB_size (l:List UInt8):(ofB l).size=l.length:=by unfold ofB;simp [ByteArray.size]
theorem getStr22 {l:List ByteArray} {k off:Nat} {v:ByteArray} (h:off=k) (hv:l[k]?=some v):∀ (q:Nat) u,[Value.string v][q]?=some u→(l.map Value.string)[off+q]?=some u:=fun q u hu=>by
 subst h
 rcases q with _|q
 ·cases hu
  rw [Nat.add_zero,List.getElem?_map,hv];rfl
 ·simp at hu
theorem ownStr22 {w0 w:World} {H:List HA} {g n m:Nat} {x0:ByteArray} {ks r:List ByteArray} {rb:HA→List HA} [FocusR H (some ⟨g,0,none⟩) 9 1 (n+1) (n+1) ((x0::(ks++r)).map Value.string) rb] (hw:Cls w0 w H) (hn:n≤100000) (hm:ks.length=m) (hmn:m≤n) :
  Rd (wr w) [.slice (cutA (some ⟨g,0,none⟩) (n+1) 1 1) m (n+1 - 1)] [strsD ks]:=by
 have h9:=src_drop1 (ca:=n+1) (srcRow22 (A:=some ⟨g,0,none⟩) (e:=9) (cap:=n+1) (xs:=(x0::(ks++r)).map Value.string) hw) 1 (by omega) (Nat.le_refl _)
 rw [Nat.add_sub_cancel] at h9
 have h10:=src_take1 h9 m hmn
 rw [List.map_cons,List.drop_succ_cons,List.drop_zero, ← List.map_take, ← hm,List.take_left,hm] at h10
 exact h10.rd (by omega) (by omega)
theorem lines22Law_spec (x:Co) (x1 x2 x3:Value) (w:World) (hst:Std w) (hx:CoRd w x1 x2 x3 x) :
  Spec Tryz.prog 5 [.agg (coL x.sec x1 x2 x3).toArray] w (fun v R=>v = .bool true∧R=[]):=by
 obtain⟨A1,c1,l,A2,c2,rfl,rfl,h⟩:=co_arg hx
 obtain⟨Ak,ck,csk,rfl,-⟩:=h.cols.tabS
 refine spec_of sg Tryz.func5 rfl rfl rfl ?_
 refine T_op (OpT.box (cs:=coL x.sec (.slice A1 x.sg.length c1) (.slice A2 l.length c2) (.slice Ak x.cols.length ck)) rfl rfl rfl rfl rfl rfl rfl (fun px=>?_))
 repeat' (first|refine d1 ?_|refine dd ?_|(show T _ (.ops _ (_::_)::_) _ _ _;first|refine T_call rfl rfl rfl rfl rfl (fun w hw=>fine22_spec x A1 c1 l A2 c2 (.slice Ak x.cols.length ck) w (hst.cls hw) (h.cls hw)) ?_|refine T_callC rfl rfl rfl rfl rfl rfl rfl (fun hg w hw=>fine22_spec x A1 c1 l A2 c2 (.slice Ak x.cols.length ck) w (hst.cls hw) (h.cls hw)) ?_)|(show T _ (.run _ _ (_::_) _ _::_) _ _ _;first|refine rc rfl rfl rfl rfl rfl rfl rfl (fun w hw=>fine22_spec x A1 c1 l A2 c2 (.slice Ak x.cols.length ck) w (hst.cls hw) (h.cls hw)) ?_|refine rcG rfl rfl rfl rfl rfl rfl rfl rfl rfl (fun hg w hw=>fine22_spec x A1 c1 l A2 c2 (.slice Ak x.cols.length ck) w (hst.cls hw) (h.cls hw)) ?_)|(show ∀ _:Nat,T _ _ _ _ _;intro _))
 refine T_if rfl (fun hg=>?_) (fun hg=>?_)
 ·repeat' (first|refine d1 ?_|refine dd ?_|(show T _ (.ops _ (_::_)::_) _ _ _;first|refine T_call rfl rfl rfl rfl rfl (fun w hw=>awake22_spec w (hst.cls hw)) ?_|refine T_callC rfl rfl rfl rfl rfl rfl rfl (fun hg w hw=>awake22_spec w (hst.cls hw)) ?_)|(show T _ (.run _ _ (_::_) _ _::_) _ _ _;first|refine rc rfl rfl rfl rfl rfl rfl rfl (fun w hw=>awake22_spec w (hst.cls hw)) ?_|refine rcG rfl rfl rfl rfl rfl rfl rfl rfl rfl (fun hg w hw=>awake22_spec w (hst.cls hw)) ?_)|(show ∀ _:Nat,T _ _ _ _ _;intro _)|(show T _ (.code .ret::_) _ _ _;refine T_retV [] rfl (Hle.none _) ⟨rfl,rfl⟩))
 obtain⟨hs,hok,-⟩:=fine22_iff.1 (by simpa using hg)
 have hat:=h.at hst hs
 obtain⟨hr1,hr2,hr3⟩:=hat.row hok
 have hcn:=hs.cols
 have hsn:=hs.sg
 have hpl:=print22_len hs
 have hpp:=lines22_pcs hok
 have hll:(pcs22 10 (ofB (print22 x))).length=x.sg.length+1:=by rw [hpp,List.length_append,List.length_map,List.length_range];rfl
 repeat' (first|refine d1 ?_|(show T _ (.ops _ (_::_)::_) _ _ _;first|refine T_call rfl rfl rfl rfl rfl (fun w hw=>printP22_spec x A1 c1 l A2 c2 (.slice Ak x.cols.length ck) w (hat.cls hw) hs) ?_|refine T_callC rfl rfl rfl rfl rfl rfl rfl (fun hg w hw=>printP22_spec x A1 c1 l A2 c2 (.slice Ak x.cols.length ck) w (hat.cls hw) hs) ?_)|(show T _ (.run _ _ (_::_) _ _::_) _ _ _;first|refine rc rfl rfl rfl rfl rfl rfl rfl (fun w hw=>printP22_spec x A1 c1 l A2 c2 (.slice Ak x.cols.length ck) w (hat.cls hw) hs) ?_|refine rcG rfl rfl rfl rfl rfl rfl rfl rfl rfl (fun hg w hw=>printP22_spec x A1 c1 l A2 c2 (.slice Ak x.cols.length ck) w (hat.cls hw) hs) ?_)|(show ∀ _:Nat,T _ _ _ _ _;intro _))
 rw [printV22_ok hs hok]
 repeat' (first|refine d1 ?_|(show T _ (.ops _ (_::_)::_) _ _ _;refine T_callE rfl rfl rfl rfl rfl (fun w hw=>split_spec (ofB (print22 x)) 10 w (by rw [ofB_size];omega)) (fun g _=>?_))|(show ∀ _:Nat,T _ _ _ _ _;intro _))
 rw [hll,hpp]
 have hlast:((List.range x.sg.length).map (fun k=>ofB (bare22 x k))++[ByteArray.empty])[x.sg.length]?=some ByteArray.empty:=by
  rw [List.getElem?_append_right (by rw [List.length_map,List.length_range];exact Nat.le_refl _),List.length_map,List.length_range,Nat.sub_self];rfl
 obtain⟨b1',o1',rfl⟩:=h.s1.base (by omega)
 repeat' (first|refine d1 ?_|refine dd ?_|(show T _ (.ops _ (_::_)::_) _ _ _;first|refine T_val rfl (Val.load rfl (fun hg=>rdRow (A:=some ⟨g,0,none⟩) (vs:=[.string ByteArray.empty]) (by omega) (getStr22 (by omega) hlast))) rfl rfl rfl ?_|refine T_valC rfl (Val.load rfl (fun hg=>rdRow (A:=some ⟨g,0,none⟩) (vs:=[.string ByteArray.empty]) (by omega) (getStr22 (by omega) hlast))) rfl rfl rfl rfl rfl ?_)|(show T _ (.run _ _ (_::_) _ _::_) _ _ _;first|refine rv rfl rfl rfl (Val.load rfl (fun hg=>rdRow (A:=some ⟨g,0,none⟩) (vs:=[.string ByteArray.empty]) (by omega) (getStr22 (by omega) hlast))) rfl rfl rfl ?_|refine rg rfl rfl rfl (Val.load rfl (fun hg=>rdRow (A:=some ⟨g,0,none⟩) (vs:=[.string ByteArray.empty]) (by omega) (getStr22 (by omega) hlast))) rfl rfl rfl rfl rfl ?_)|(show ∀ _:Nat,T _ _ _ _ _;intro _))
 refine T_if rfl (fun h9=>by exfalso;rw [show ((x.sg.length+1:Nat):Int)=(x.sg.length:Int)+1 from rfl] at h9;simp at h9;exact h9 rfl) (fun _=>?_)
 repeat' (first|refine d1 ?_|refine dd ?_|(show ∀ _:Nat,T _ _ _ _ _;intro _))
 rw [Int.toNat_natCast]
 refine T_loopX (fun i:Nat=>[(49, .int .i64 (i:Nat))]) (fun _=>[row 9 1 (some ⟨g,0,none⟩) (x.sg.length+1) (x.sg.length+1) (((List.range x.sg.length).map (fun k=>ofB (bare22 x k))++[ByteArray.empty]).map Value.string),blk px (coL x.sec (.slice (some ⟨b1',o1',none⟩) x.sg.length c1) (.slice A2 l.length c2) (.slice Ak x.cols.length ck)) 26]) (fun i=>i≤x.sg.length) (fun i=>x.sg.length - i) 0 (Nat.zero_le _) ?_
 rintro i hi
 repeat' (first|refine d1 ?_|refine dd ?_|(show ∀ _:Nat,T _ _ _ _ _;intro _))
 refine T_if rfl (fun h5=>?_) (fun h5=>?_)
 ·simp only [decide_eq_true_eq] at h5
  have hin:i<x.sg.length:=by omega
  have hli:((List.range x.sg.length).map (fun k=>ofB (bare22 x k))++[ByteArray.empty])[i]?=some (ofB (bare22 x i)):=by
   rw [List.getElem?_append_left (by rw [List.length_map,List.length_range];exact hin),List.getElem?_map,List.getElem?_range hin];rfl
  obtain⟨s9,hs9⟩:∃ s9,x.sg[i]?=some s9:=⟨_,List.getElem?_eq_getElem hin⟩
  have hsg9:x.sg.getD i ByteArray.empty=s9:=by rw [List.getD_eq_getElem?_getD,hs9];rfl
  have hsx:=src_str h.s1 hin hs9
  have hbp:=bars22_pcs hok hin
  rw [hsg9] at hbp
  have hrl:=row22_len x i
  have hbn:(pcs22 124 (ofB (bare22 x i))).length=x.cols.length+1:=by rw [hbp,List.length_cons,hrl]
  have hbl:=bare22_len hs hin
  repeat' (first|refine d1 ?_|(show T _ (.ops _ (_::_)::_) _ _ _;first|refine T_val rfl (Val.load rfl (fun hg=>rdRow (A:=some ⟨g,0,none⟩) (vs:=[.string (ofB (bare22 x i))]) (by omega) (getStr22 (by omega) hli))) rfl rfl rfl ?_|refine T_valC rfl (Val.load rfl (fun hg=>rdRow (A:=some ⟨g,0,none⟩) (vs:=[.string (ofB (bare22 x i))]) (by omega) (getStr22 (by omega) hli))) rfl rfl rfl rfl rfl ?_|refine T_callE rfl rfl rfl rfl rfl (fun w hw=>split_spec (ofB (bare22 x i)) 124 w (by rw [ofB_size];omega)) (fun g2 _=>?_))|(show T _ (.run _ _ (_::_) _ _::_) _ _ _;first|refine rv rfl rfl rfl (Val.load rfl (fun hg=>rdRow (A:=some ⟨g,0,none⟩) (vs:=[.string (ofB (bare22 x i))]) (by omega) (getStr22 (by omega) hli))) rfl rfl rfl ?_|refine rg rfl rfl rfl (Val.load rfl (fun hg=>rdRow (A:=some ⟨g,0,none⟩) (vs:=[.string (ofB (bare22 x i))]) (by omega) (getStr22 (by omega) hli))) rfl rfl rfl rfl rfl ?_)|(show ∀ _:Nat,T _ _ _ _ _;intro _))
  rw [hbn,hbp]
  repeat' (first|refine d1 ?_|refine dd ?_|(show T _ (.ops _ (_::_)::_) _ _ _;first|refine T_val rfl (Val.load rfl (fun hg=>rdOld hsx)) rfl rfl rfl ?_|refine T_valC rfl (Val.load rfl (fun hg=>rdOld hsx)) rfl rfl rfl rfl rfl ?_|refine T_val rfl (Val.load rfl (fun hg=>rdRow (A:=some ⟨g2,0,none⟩) (vs:=[.string s9]) (by omega) (getStr22 (k:=0) rfl rfl))) rfl rfl rfl ?_|refine T_valC rfl (Val.load rfl (fun hg=>rdRow (A:=some ⟨g2,0,none⟩) (vs:=[.string s9]) (by omega) (getStr22 (k:=0) rfl rfl))) rfl rfl rfl rfl rfl ?_)|(show T _ (.run _ _ (_::_) _ _::_) _ _ _;first|refine rv rfl rfl rfl (Val.load rfl (fun hg=>rdOld hsx)) rfl rfl rfl ?_|refine rg rfl rfl rfl (Val.load rfl (fun hg=>rdOld hsx)) rfl rfl rfl rfl rfl ?_|refine rv rfl rfl rfl (Val.load rfl (fun hg=>rdRow (A:=some ⟨g2,0,none⟩) (vs:=[.string s9]) (by omega) (getStr22 (k:=0) rfl rfl))) rfl rfl rfl ?_|refine rg rfl rfl rfl (Val.load rfl (fun hg=>rdRow (A:=some ⟨g2,0,none⟩) (vs:=[.string s9]) (by omega) (getStr22 (k:=0) rfl rfl))) rfl rfl rfl rfl rfl ?_)|(show ∀ _:Nat,T _ _ _ _ _;intro _))
  refine T_if rfl (fun h9=>by exfalso;simp at h9) (fun _=>?_)
  repeat' (first|refine d1 ?_|(show T _ (.ops _ (_::_)::_) _ _ _;refine T_callE rfl rfl rfl rfl rfl (fun w hw=>textL22_spec x (some ⟨b1',o1',none⟩) c1 l A2 c2 (.slice Ak x.cols.length ck) i w (hat.cls hw) hok hin) (fun t1 _=>?_))|(show ∀ _:Nat,T _ _ _ _ _;intro _))
  refine T_open fun r1 hr1=>?_
  refine T_le (H':=row 9 1 (some ⟨g2,0,none⟩) (x.cols.length+1) (x.cols.length+1) ((s9::row22 x i).map Value.string)::[fz r1,row 9 1 (some ⟨g,0,none⟩) (x.sg.length+1) (x.sg.length+1) (((List.range x.sg.length).map (fun k=>ofB (bare22 x k))++[ByteArray.empty]).map Value.string),blk px (coL x.sec (.slice (some ⟨b1',o1',none⟩) x.sg.length c1) (.slice A2 l.length c2) (.slice Ak x.cols.length ck)) 26]) (by exact Hle.srt) ?_
  have hfr:=full22_row hok hin
  have hfl:=full22_len (row22 x i)
  rw [hfr,hrl] at hfl
  repeat' (first|refine d1 ?_|(show ∀ _:Nat,T _ _ _ _ _;intro _))
  refine T_op (OpT.callB rfl rfl rfl rfl rfl (delStr_spec g2 (x.cols.length+1) x.cols.length s9 (row22 x i) w [fz r1,row 9 1 (some ⟨g,0,none⟩) (x.sg.length+1) (x.sg.length+1) (((List.range x.sg.length).map (fun k=>ofB (bare22 x k))++[ByteArray.empty]).map Value.string),blk px (coL x.sec (.slice (some ⟨b1',o1',none⟩) x.sg.length c1) (.slice A2 l.length c2) (.slice Ak x.cols.length ck)) 26] hrl (Nat.le_refl _) (by omega)) ?_)
  rintro u R ⟨rfl,rfl⟩
  rw [hfr]
  repeat' (first|refine d1 ?_|refine dd ?_|(show T _ (.ops _ (_::_)::_) _ _ _;first|refine T_call rfl rfl rfl rfl rfl (fun w hw=>equalStr_spec _ _ (words22 x i) (words22 x i) w (ownStr22 (x0:=s9) (r:=List.replicate (x.cols.length - (words22 x i).length) ByteArray.empty) hw (by omega) rfl hfl) (hr1.own hw)) ?_|refine T_callC rfl rfl rfl rfl rfl rfl rfl (fun hg w hw=>equalStr_spec _ _ (words22 x i) (words22 x i) w (ownStr22 (x0:=s9) (r:=List.replicate (x.cols.length - (words22 x i).length) ByteArray.empty) hw (by omega) rfl hfl) (hr1.own hw)) ?_)|(show T _ (.run _ _ (_::_) _ _::_) _ _ _;first|refine rc rfl rfl rfl rfl rfl rfl rfl (fun w hw=>equalStr_spec _ _ (words22 x i) (words22 x i) w (ownStr22 (x0:=s9) (r:=List.replicate (x.cols.length - (words22 x i).length) ByteArray.empty) hw (by omega) rfl hfl) (hr1.own hw)) ?_|refine rcG rfl rfl rfl rfl rfl rfl rfl rfl rfl (fun hg w hw=>equalStr_spec _ _ (words22 x i) (words22 x i) w (ownStr22 (x0:=s9) (r:=List.replicate (x.cols.length - (words22 x i).length) ByteArray.empty) hw (by omega) rfl hfl) (hr1.own hw)) ?_)|(show ∀ _:Nat,T _ _ _ _ _;intro _))
  refine T_if rfl (fun h9=>by exfalso;simp at h9) (fun _=>?_)
  repeat' (first|refine d1 ?_|refine dd ?_|(show ∀ _:Nat,T _ _ _ _ _;intro _))
  exact T_backX (i+1) (by omega) (by omega) (hG:=by exact Hle.sub)
 ·repeat' (first|refine d1 ?_|refine dd ?_|(show T _ (.ops _ (_::_)::_) _ _ _;first|refine T_call rfl rfl rfl rfl rfl (fun w hw=>awake22_spec w (hst.cls hw)) ?_|refine T_callC rfl rfl rfl rfl rfl rfl rfl (fun hg w hw=>awake22_spec w (hst.cls hw)) ?_)|(show T _ (.run _ _ (_::_) _ _::_) _ _ _;first|refine rc rfl rfl rfl rfl rfl rfl rfl (fun w hw=>awake22_spec w (hst.cls hw)) ?_|refine rcG rfl rfl rfl rfl rfl rfl rfl rfl rfl (fun hg w hw=>awake22_spec w (hst.cls hw)) ?_)|(show ∀ _:Nat,T _ _ _ _ _;intro _)|(show T _ (.code .ret::_) _ _ _;refine T_retV [] rfl (Hle.none _) ⟨rfl,rfl⟩))
theorem lines22_met (os:Os) (args:Array Value):laidMetH Tryz.prog Rows.collationLinesRow.laid ((World.laidAll Tryz.prog os laidsL).forCall (fun _ _=>0) ⟨#[],args,[]⟩).memory :=
 io_metL os args
theorem lines22_lifted (os:Os) (started:os.Started) (H:Type) (enc:TypeId × Value→H) :
  ReturnsInHanded {} Tryz.checked os 5 .any (fun w args=>(Rows.collationLinesSpec.pre enc Tryz.prog Tryz.f5 [] false w args∧laidMetH Tryz.prog Rows.collationLinesRow.laid w)∧sizedMet enc Tryz.prog Tryz.f5 (OpenSpec.ofChange Rows.collationLinesSpec) false w args)
   (Rows.collationLinesSpec.post enc Tryz.prog Tryz.f5 false true false false):=by
 refine returnsInHanded_of_change_and (C:=Tryz.checked) (X:=fun w _=>laidMetH Tryz.prog Rows.collationLinesRow.laid w) (fun _ _ _ hh h=>h.of_heap hh) knob started (by as_aux_lemma=>kernel_rfl) Tryz.func5
  (ChangeSpec.witness_shaped (enc:=enc) (C:=Tryz.checked) (os:=os) (X:=fun w _=>laidMetH Tryz.prog Rows.collationLinesRow.laid w) false (World.laidAll Tryz.prog os laidsL) #[(.agg #[.string .empty, .slice none 0 0, .slice none 0 0, .slice none 0 0])] 8 (World.laidAll_os _ _ _) (World.shaped_of_ZipB (by as_aux_lemma=>kernel_rfl) (by as_aux_lemma=>kernel_rfl)) (by as_aux_lemma=>kernel_rfl) (by as_aux_lemma=>kernel_rfl) (by as_aux_lemma=>kernel_rfl) (lines22_met os _)) ?_
 intro W base args ds gs before hval0 hW _ _ hL _
 have hval:∀ (j:Nat) t v,Tryz.f5.params[j]?=some t→args[j]?=some v→Value.okWide Tryz.prog W .any base t v:=hval0
 have hstd:=std_ofL (show laidMetH Tryz.prog laidsL W from hL)
 have hW':=hW
 obtain⟨p,q,hA0,hV,rfl,hfz,hnd⟩:=hW
 have hA:DataW.TrodAll enc Tryz.prog W 0 (fun _=>true) true Tryz.f5.params.toList args.toList ds p:=hA0
 obtain⟨v0,vs0,d0,ds0,p0,q0,e0,rfl,rfl,h0,hA⟩:=trodAll_cons hA
 obtain⟨rfl,rfl,rfl⟩:=trodAll_nil hA
 have ea:args = #[v0]:=Array.ext' e0
 subst ea
 obtain⟨x,y1_x,y2_x,y3_x,rfl,hr_x⟩:=arg_coll (hval 0 _ v0 rfl rfl) h0
 refine (lines22Law_spec x y1_x y2_x y3_x W hstd hr_x).calls.mono ?_
 rintro e W' ⟨v,A,rfl,⟨rfl,_⟩,hb,_⟩
 exact⟨_,rfl,law_post hW' rfl rfl laidOk (by intro t ht;simp only [show Tryz.f5.params.toList=[26] from rfl,List.mem_cons,List.mem_nil_iff,or_false] at ht;rcases ht with rfl <;> exact⟨by as_aux_lemma=>kernel_rfl,of_decide_eq_true (by as_aux_lemma=>kernel_rfl)⟩) rfl Tryz.underlying4 hb⟩
theorem lines22_j0:Tryz.prog.inPlace 5=Rows.collationLinesRow.inPlace:=by as_aux_lemma=>kernel_rfl
theorem lines22_j1:Tryz.prog.unfollowed 5=Rows.collationLinesRow.unfollowed:=by as_aux_lemma=>kernel_rfl
theorem lines22_j2:Tryz.prog.recurses 5=Rows.collationLinesRow.recurses:=by as_aux_lemma=>kernel_rfl
theorem lines22_j3:Tryz.prog.varsNamed 5=Rows.collationLinesRow.named:=by as_aux_lemma=>kernel_rfl
theorem lines22_joined:joinedFacts Tryz.prog 5 Tryz.f5 Rows.collationLinesSpec Rows.collationLinesRow=true:=by
 unfold joinedFacts
 rw [lines22_j0,lines22_j1,lines22_j2,lines22_j3,io_enter,io_lifts,io_make]
 kernel_rfl
theorem lines22_holds:Rows.CollationLinesSaid :=
 OpenClaim.holds_of_wide 5 Tryz.f5 rfl rfl rfl rfl rfl rfl rfl ⟨rfl,rfl,rfl,rfl,rfl⟩ rfl rfl rfl rfl rfl (by as_aux_lemma=>kernel_rfl) Tryz.func5 lines22_joined
  (of_decide_eq_true (by as_aux_lemma=>kernel_rfl)) (by unfold Func.isWrapper;first|(rw [if_pos (by decide +kernel)];kernel_rfl)|(rw [if_neg (by decide +kernel)];exact⟨rfl,rfl⟩))
  (fun os started H enc _=>lines22_lifted os started H enc)
theorem lines22_card:Rows.CollationLinesCardSaid :=
 Claim7.holds_tied_plain_at .later [] [.data, .data, .data, .data, .sentinel, .sentinel, .pinned] true (true, "27597454c744800805070ea993a6c7ef5f1435d54266d0de058cda0719a2f829") true
  lines22_holds (fun _ h=>by cases h) (by as_aux_lemma=>kernel_rfl) (fun _ h=>by cases h) collationLines_row_tie rfl ⟨rfl,rfl⟩ io_main rfl
  (fun f fn hf hfn=>by
   obtain rfl : f = 5 := Option.some.inj ((show Tryz.prog.funcNamed "apograph/apographlaw22.CollationLines" = some 5 by as_aux_lemma => kernel_rfl).symm.trans hf) |>.symm
   obtain rfl:fn=Tryz.f5:=(Option.some.inj (Tryz.func5.symm.trans hfn)).symm
   exact⟨by as_aux_lemma=>kernel_rfl,fun j t ht=>by
    have ht':[26][j]?=some t:=by rw [Tryz.params5] at ht;simpa using ht
    have hm:=List.mem_of_getElem? ht'
    simp only [List.mem_cons,List.mem_nil_iff,or_false] at hm
    rcases hm with rfl <;> exact (show Tryz.prog.wantsStandIn _=false by as_aux_lemma=>kernel_rfl)⟩)
  (by as_aux_lemma=>kernel_rfl)
#print axioms lines22_card
end Go.Proofs.YtefieebkankfoaaGreatDoor
