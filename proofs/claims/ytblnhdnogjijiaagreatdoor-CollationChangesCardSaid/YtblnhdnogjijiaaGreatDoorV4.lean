/- Joined texts of this claim, part 4. -/
import Derived.Test.YtblnhdnogjijiaaGreatDoorV3
import Derived.Lib.AppendStr
import Derived.Laws.BytesArg
import Derived.Lib.Builder
import Derived.Lib.UnsafeStr
import Derived.Laws.Externs
set_option linter.unusedSectionVars false
set_option linter.unusedVariables false
set_option linter.unusedSimpArgs false
namespace Go.Proofs.YtblnhdnogjijiaaGreatDoor
open Go.RowKit Go.Shelf

theorem run_append_str_at {P:Program} (w:World) (base:Nat) (t u ty e:TypeId) (i:TypeInfo) (ht:P.underlying t=some (.slice e)) (hu:P.underlying u=some .string) (hi:P.info? e=some i) (hz:i.zero=some (.int .u8 0))
  (hsize:i.size=1) (hby:i.bytes=1) (v:Value) (n:Nat) (xs:List Value) (hown:w.ownsRow base e 1 v n xs) (s:ByteArray) (hb:n+s.size≤140737488355328) (hbase:base≤w.heap.size) :
  ∃ v' w',(Builtin.append_ #[t,u] ty #[v, .string s]).run P w = .ok v' w'∧w'.ownsRow base e 1 v' (n+s.size) (xs++byteVals s)∧w.grownBy w' v.ownBlock∧(v'.ownBlock=v.ownBlock∨v'.ownBlock=some w.heap.size):=by
 have h63:n+s.size≤maxLen:=by simp only [maxLen];omega
 obtain⟨v',w',hr,h1,h2,-⟩:=Lib.run_append_own_string (P:=P) w base t u ty e i ht hu hi hz hsize hby v n xs hown s h63 hb hbase
 refine ⟨v',w',hr,h1,h2,?_⟩
 have hxl:xs.length=n:=by simpa using hown.1
 rcases hown.2 with⟨rfl,rfl⟩|⟨g,cap,cur,rfl,hbg,hg,hnc,hcm,hcs,htake⟩
 ·by_cases hm:s.size=0
  ·have hf:=Lib.run_firstCells_string (P:=P) w 1 s
   rw [hm] at hf
   have hq:(Builtin.append_ #[t,u] ty #[.slice none 0 0, .string s]).run P w = .ok (.slice none 0 0) w:=by
    simp [Builtin.append_,run_underlying ht,run_underlying hu,sizeOf,typeInfo,hi,hsize,Builtin.lenOf,hm,hf]
   rw [hq] at hr
   cases hr
   exact .inl rfl
  ·have hq:=run_append_nil_string (P:=P) w t u ty e i (.int .u8 0) ht hu hi hz s (by omega) (by omega) (by rw [hby];omega)
   rw [hq] at hr
   cases hr
   exact .inr rfl
 ·by_cases hroom:n+s.size≤cap
  ·have hcs':cur.size=cap:=by simpa using hcs
   have hq:=Lib.run_append_room_string (P:=P) w t u ty e i ht hu hi hsize g n cap cur hg s hroom (by omega)
   rw [hq] at hr
   cases hr
   exact .inl rfl
  ·have holds:∀ j u,xs[j]?=some u→w.cell? ((⟨g,0,none⟩:Addr).add j)=some u:=hown.cells (g:=g) rfl
   have hq:=Lib.run_append_grow_string (P:=P) w t u ty e i (.int .u8 0) ht hu hi hz ⟨g,0,none⟩ n cap xs (by rw [hsize];simpa using hxl) holds s (by omega) (by omega) (by rw [hby];exact growslice_fits (by omega) (by omega))
   rw [hq] at hr
   cases hr
   exact .inr rfl
def evAppS (S:Sig) (env:Env) (ec:EnvC) (o:Oper):Option (Option Addr × Nat × Nat × ByteArray × TypeId) :=
 match o.op with
 | .call { callee := .builtin .append,args:=xs,argTypes:=ts }=>match evL env ec [] xs.toList,ts.toList with
  | some [.slice A n c, .string s],[t,u]=>match S.ty t,S.ty u with
   | some ⟨.slice e,_,_,_⟩,some ⟨.str,_,_,_⟩=>some (A,n,c,s,e)
   | _,_=>none
  | _,_=>none
 | _=>none
section
variable {C:Cx} {all:Array Oper} {o:Oper} {env:Env} {ec:EnvC} {H:List HA} {d:Nat} {Φ:Env→EnvC→List HA→Prop}
theorem OpT.appendS {A:Option Addr} {n c:Nat} {s:ByteArray} {e:TypeId} {ty:TyI} {cap:Nat} {xs:List Value} {rb:HA→List HA} (hg:gOf all env ec o=some []) (he:evAppS C.S env ec o=some (A,n,c,s,e)) (hd:o.dst=some d) (hN:Nat.blt d C.N.n=true) (hs:safeC all d ec=true)
  [hf:FocusR H A e 1 cap n xs rb] (hcap:c=cap) (ht:C.S.ty e=some ty) (hz:ty.zero = .int .u8 0) (hsz:Nat.beq ty.size 1=true) (hby:Nat.beq ty.bytes 1=true) (hb:n+s.size≤140737488355328)
  (h:∀ A' cap',(0<n+s.size→∃ g,A'=some ⟨g,0,none⟩)→Φ ((d, .slice A' (n+s.size) cap')::env) ec (rb (row e 1 A' cap' (n+s.size) (xs++byteVals s)))):OpT C all o env ec H Φ:=by
 subst hcap
 obtain⟨i,hi,hrb⟩:=hf.at_
 have hsz':ty.size=1:=Nat.eq_of_beq_eq_true hsz
 have hby':ty.bytes=1:=Nat.eq_of_beq_eq_true hby
 obtain⟨x,hx,hx1,hx2,hx3⟩:=(Sig.tyOk ht).info'
 refine OpT.eff hg fun a w ha hw=>?_
 obtain⟨F,f1,f2,f3⟩:=hw.sep
 have hil:i<H.length:=(List.getElem?_eq_some_iff.1 hi).1
 have hown:=(f1 i _ hi).own (w:=w) (fun b o hf=>f2 i b o hil hf)
 obtain⟨dst,op,ty0,pos,aft,gd⟩:=o
 unfold evAppS at he
 dsimp only at he
 split at he
 ·rename_i ps ts
  split at he
  ·rename_i A1 n1 c1 s1 t u hps hts
   split at he
   ·rename_i e1 q1 q2 q3 q4 q5 q6 hty hty2
    cases he
    have hut:=(Sig.tyOk hty).fits
    have huu:=(Sig.tyOk hty2).fits
    simp only [Ty.fits] at hut huu
    obtain⟨v',w',g1,g2,g3,g5⟩:=run_append_str_at (P:=C.S.P) w C.w0.heap.size t u ty0 e x hut huu hx (by rw [hx3,hz]) (hx1.trans hsz') (hx2.trans hby') _ n xs hown s hb hw.below.size
    obtain⟨A',cap',rfl,f',r1,r2⟩:=row.of_own g2
    have hargs:ps.map a.eval = #[.slice A n c, .string s]:=Array.ext' (by rw [Array.toList_map];exact evL_spec ha (Holds.nil _ _) hps)
    have hts':ts = #[t,u]:=Array.ext' hts
    refine ⟨.slice A' (n+s.size) cap',w',_,?_,⟨?_,?_⟩,d,hd,hN,hs,h A' cap' ?_⟩
    ·simp [execOp,resolve,invoke,builtin,hargs,hts',g1]
    ·refine hw.below.grown g3 hw.below.size fun b hbk=>?_
     cases hA:A with
     | none=>rw [hA] at hbk;simp [Value.ownBlock] at hbk
     | some ad =>
      rcases hown.2 with⟨h9,_⟩|⟨g,cap9,cur,h9,h10,_⟩
      ·rw [hA] at h9;cases h9
      ·rw [h9] at hbk;simp [Value.ownBlock] at hbk;subst hbk;exact h10
    ·rw [hrb]
     refine Sep.swap ⟨F,f1,f2,f3⟩ hi fun f hrow hf=>⟨f',r1,fun b o hb'=>?_,fun c' hc' hfc=>?_⟩
     ·obtain⟨s1,s2,s3⟩:=r2 b o hb'
      refine ⟨s1,s2,?_⟩
      rw [s3] at g5
      rcases g5 with g5|g5
      ·left
       obtain⟨_,hrow2⟩:=hrow
       rcases hrow2 with⟨rfl,_⟩|⟨g,cur,rfl,rfl,_⟩
       ·simp [Value.ownBlock] at g5
       ·simp [Value.ownBlock] at g5;subst g5;simp [one]
      ·right
       injection g5 with g5
       omega
     ·refine g3.block c' hc' fun e9=>?_
      obtain⟨_,hrow2⟩:=hrow
      rcases hrow2 with⟨rfl,_⟩|⟨g,cur,rfl,rfl,_⟩
      ·simp [Value.ownBlock] at e9
      ·simp [Value.ownBlock] at e9;subst e9;simp [one] at hfc
    ·intro hpos2
     obtain⟨_,hrow2⟩:=r1
     rcases hrow2 with⟨_,_,h9,_⟩|⟨g,cur,rfl,_⟩
     ·omega
     ·exact⟨g,rfl⟩
   ·cases he
  ·cases he
 ·cases he
def evStr (S:Sig) (env:Env) (ec:EnvC) (G:GId) (o:Oper):Option (Option Addr × Nat) :=
 match o.op with
 | .convert s d x=>match S.ty s,S.ty d,evX env ec G x with
  | some ⟨.slice e,_,_,_⟩,some ⟨.str,_,_,_⟩,some (.slice A n _)=>match S.ty e with
   | some ⟨.int .u8,_,_,_⟩=>some (A,n)
   | _=>none
  | _,_,_=>none
 | _=>none
def ints8 (s:List UInt8):List Int:=s.map fun c=>((c.toNat:Nat):Int)
theorem strOf_ints8 (s:List UInt8):strOfNums (ints8 s)=⟨s.toArray⟩:=by
 unfold strOfNums ints8
 congr 1
 apply Array.ext'
 simp only [List.map_map]
 have:((fun n:Int=>UInt8.ofNat n.toNat) ∘ fun c:UInt8=>((c.toNat:Nat):Int))=id:=by
  funext c;simp
 rw [this];simp
theorem run_str0 {P:Program} (w:World) (src dst e:TypeId) (hs:P.underlying src=some (.slice e)) (he:P.underlying e=some (.int .u8)) (hd:P.underlying dst=some .string) (A:Option Addr) (c:Nat) :
  (convert src dst (.slice A 0 c)).run P w = .ok (.string ByteArray.empty) w:=by
 rw [run_convert_bytes_string w src dst e A 0 c hs he hd]
 cases A with
 | none=>simp [Conv.bytesToString]
 | some a =>
  have h:=run_bytesToString (P:=P) w a 0 c [] (by simp [loadCells];rfl)
  simpa using h
theorem Val.str {G:GId} {Hs:List HA} {A:Option Addr} {n:Nat} {bs:List UInt8} (hv:evStr C.S env ec G o=some (A,n)) (hr:∀ w,Cls C.w0 w Hs→Src w 1 A n (bs.map fun c=>Value.int .u8 ((c.toNat:Nat):Int))):Val C all o env ec Hs G (.string ⟨bs.toArray⟩):=by
 intro a w ha hw hH
 obtain⟨h1,h2⟩:=hr w hw
 have hl:bs.length=n:=by simpa using h1
 obtain⟨dst,op,ty,pos,aft,gd⟩:=o
 unfold evStr at hv
 dsimp only at hv
 split at hv
 ·rename_i ts td x
  split at hv
  ·rename_i e q1 q2 q3 q4 q5 q6 A1 n1 c1 hts htd hx
   split at hv
   ·rename_i q7 q8 q9 hte
    cases hv
    have f1:=(Sig.tyOk hts).fits
    have f2:=(Sig.tyOk htd).fits
    have f3:=(Sig.tyOk hte).fits
    simp only [Ty.fits] at f1 f2 f3
    have key:(convert ts td (.slice A n c1)).run C.S.P w = .ok (.string ⟨bs.toArray⟩) w:=by
     by_cases hn:n=0
     ·subst hn
      have hb:bs=[]:=List.eq_nil_of_length_eq_zero hl
      subst hb
      exact run_str0 w ts td e f1 f3 f2 A c1
     ·obtain⟨g1,g2⟩:=h2 (by omega)
      unfold isAt at g1
      rw [g1]
      have h:=run_convert_bytes_arg (P:=C.S.P) w ts e f1 f3 (bk A) (ofs A) n c1 (ints8 bs) (by simp [ints8,hl]) (fun i hi=>by
       have e1:=g2 i (.int .u8 ((ints8 bs).getD i 0)) (by
        have hib:i<bs.length:=by omega
        simp [ints8,List.getD,List.getElem?_eq_getElem hib])
       exact e1) td f2
      rw [h,strOf_ints8]
    simp only [execOp,evX_spec ha hH hx]
    simp [key]
   ·cases hv
  ·cases hv
 ·cases hv
end
def strsD (l:List ByteArray):D := .s 1 ((l.map Value.string).map .v)
theorem Rd.strs {w:World} {x:Value} {l:List ByteArray} (h:Rd (wr w) [x] [strsD l]):∃ A cap,x = .slice A l.length cap∧l.length≤cap∧cap≤9223372036854775807∧Src w 1 A l.length (l.map Value.string):=by
 obtain⟨A,m,cap,rfl,h3,h4,h5,h6⟩:=h.srcV
 have em:m=l.length:=by simpa using h3.symm
 subst em
 exact⟨A,cap,rfl,h4,h5,h6⟩
theorem src_str {w:World} {b o n:Nat} {xs:List ByteArray} (h:Src w 1 (some ⟨b,o,none⟩) n (xs.map Value.string)) {k:Nat} {s:ByteArray} (hk:k<n) (hs:xs[k]?=some s):RdC w b (o+(k:Int).toNat * 1) [.string s]:=by
 have h9:=(h.get1 (i:=k) hk (by rw [List.getElem?_map,hs];rfl)).2
 rw [Nat.mul_one] at h9
 rw [off1]
 exact h9
end Go.Proofs.YtblnhdnogjijiaaGreatDoor
namespace Go.Proofs.YtblnhdnogjijiaaGreatDoor
open Go.RowKit Go.Shelf Go.ChangeShapes Go.WideShapes Go.Proofs
set_option maxRecDepth 100000

@[reducible] def coL (sec:ByteArray) (y1 y2 y3:Value):List Value:=[.string sec,y1,y2,y3]
structure CoRd (w:World) (y1 y2 y3:Value) (x:Co):Prop where
 sg:Rd (wr w) [y1] [strsD x.sg]
 m:Rd (wr w) [y2] [.s 1 (x.m.map toksD)]
 cols:Rd (wr w) [y3] [rowsD x.cols]
theorem strs_wt {f:Nat} {ds:List D} (h:wt sg (f+2) 24 ds):∃ l:List ByteArray,ds=[strsD l]:=by
 obtain⟨l,n,rfl,hl,_,hi⟩:=(show ∃ l n,ds=[.s 1 l]∧l.length=n * 1∧n≤maxLen∧∀ i,i<n→wt sg (f+1) 9 ((l.drop (i * 1)).take 1) from h)
 obtain⟨ts,e1,e2⟩:=chunksD (fun z:ByteArray=>[D.v (.string z)]) 1 n l hl fun i hin=>by
  obtain⟨z,hz,_⟩:=(show ∃ s:ByteArray,_=[D.v (.string s)]∧s.size≤maxLen from hi i hin)
  exact⟨z,hz⟩
 subst e2
 exact⟨ts,by rw [flat1D];unfold strsD;rw [List.map_map];rfl⟩
theorem co_wt {f:Nat} {ds:List D} (h:wt sg (f+6) 32 ds):∃ x:Co,ds=[.v (.string x.sec),strsD x.sg, .s 1 (x.m.map toksD),rowsD x.cols]:=by
 obtain⟨a0,b0,rfl,h0,a1,b1,rfl,h1,a2,b2,rfl,h2,a3,b3,rfl,h3,rfl⟩:=(show wtL (wt sg (f+5)) [(9,0),(24,1),(25,2),(30,3)] ds from h)
 obtain⟨s0,rfl,_⟩:=(show ∃ s:ByteArray,a0=[.v (.string s)]∧s.size≤maxLen from h0)
 obtain⟨l1,rfl⟩:=strs_wt (f:=f+3) h1
 obtain⟨l2,rfl⟩:=toksL_wt (f:=f) h2
 obtain⟨l3,rfl⟩:=rows_wt (f:=f+2) h3
 exact⟨⟨s0,l1,l2,l3⟩,rfl⟩
section
variable {H:Type} {enc:TypeId × Value→H} {W:World} {base b0:Nat} {sp:Nat→Bool} {held:Bool} {r:Reach} {v:Value} {d:DataW H} {ps:List MemPlace}
theorem arg_coll (hv:Value.okWide Tryz.prog W r b0 32 v) (h:DataW.Trod enc Tryz.prog W base sp held 32 v d ps):∃ (x:Co) (y1 y2 y3:Value),v = .agg (coL x.sec y1 y2 y3).toArray∧CoRd W y1 y2 y3 x:=by
 obtain⟨cs,rfl,_⟩:=okWide_struct Tryz.underlying32 hv
 obtain⟨fuel,hf⟩:=h
 obtain⟨ds,h1,h2⟩:=trod_wt (S:=sg) 9 rfl hf
 obtain⟨x,rfl⟩:=co_wt (f:=3) h2
 have h3:Rd (wr W) cs.toList [.v (.string x.sec),strsD x.sg, .s 1 (x.m.map toksD),rowsD x.cols]:=h1
 obtain⟨z0,z1,z2,z3,e⟩:∃ z0 z1 z2 z3,cs.toList=[z0,z1,z2,z3]:=by
  have hl:=h3.length
  match cs.toList,hl with
  | [a,b,c,d],_=>exact⟨a,b,c,d,rfl⟩
 rw [e] at h3
 obtain⟨k0,h3⟩:=h3.cons_inv
 obtain⟨k1,h3⟩:=h3.cons_inv
 obtain⟨k2,k3⟩:=h3.cons_inv
 refine ⟨x,z1,z2,z3,congrArg Value.agg (Array.ext' ?_),⟨k1,k2,k3⟩⟩
 rw [e,k0.val]
@[reducible] def case22L (c:Costs) (sec:ByteArray) (y1 y2:Value):List Value:=[.int .i64 c.gap, .int .i64 c.norm, .int .i64 c.letter, .int .i64 c.most, .string sec,y1,y2]
theorem arg_case22 (hv:Value.okWide Tryz.prog W r b0 27 v) (h:DataW.Trod enc Tryz.prog W base sp held 27 v d ps):∃ (c:Costs) (sec:ByteArray) (l:List ByteArray) (m:List (List Tok)) (y1 y2:Value),v = .agg (case22L c sec y1 y2).toArray∧Rd (wr W) [y1] [strsD l]∧Rd (wr W) [y2] [.s 1 (m.map toksD)]:=by
 obtain⟨cs,rfl,_⟩:=okWide_struct Tryz.underlying27 hv
 obtain⟨fuel,hf⟩:=h
 obtain⟨ds,h1,h2⟩:=trod_wt (S:=sg) 9 rfl hf
 obtain⟨a0,b0',rfl,h3,a1,b1,rfl,h4,a2,b2,rfl,h5,a3,b3,rfl,h6,rfl⟩:=(show wtL (wt sg 8) [(23,0),(9,4),(24,5),(25,6)] ds from h2)
 obtain⟨c,rfl⟩:=costs_wt (f:=6) h3
 obtain⟨s0,rfl,_⟩:=(show ∃ s:ByteArray,a1=[.v (.string s)]∧s.size≤maxLen from h4)
 obtain⟨l1,rfl⟩:=strs_wt (f:=6) h5
 obtain⟨m,rfl⟩:=toksL_wt (f:=3) h6
 have h1':Rd (wr W) cs.toList (c.cells.map .v++[.v (.string s0),strsD l1, .s 1 (m.map toksD)]):=h1
 obtain⟨ws,us,e,k1,k2⟩:=h1'.split
 have e1:=k1.vals_inv
 obtain⟨z0,z1,z2,rfl⟩:∃ z0 z1 z2,us=[z0,z1,z2]:=by
  have hu:=k2.length
  match us,hu with
  | [p,q,r],_=>exact⟨p,q,r,rfl⟩
 obtain⟨k3,k2⟩:=k2.cons_inv
 obtain⟨k4,k5⟩:=k2.cons_inv
 refine ⟨c,s0,l1,m,z1,z2,congrArg Value.agg (Array.ext' ?_),k4,k5⟩
 rw [e,e1,k3.val]
 rfl
end
end Go.Proofs.YtblnhdnogjijiaaGreatDoor
namespace Go.Proofs.YtblnhdnogjijiaaGreatDoor
open Go.RowKit Go.Shelf Go.Proofs

end Go.Proofs.YtblnhdnogjijiaaGreatDoor
namespace Go.Proofs.YtblnhdnogjijiaaGreatDoor
open Go.RowKit Go.Shelf Go.Proofs
set_option maxRecDepth 100000
set_option maxHeartbeats 1000000

theorem flat_one:∀ xs:List Value,xs.flatMap (fun v=>[v])=xs
 | []=>rfl
 | x::xs=>by rw [List.flatMap_cons,flat_one xs];rfl
theorem src_take1 {w:World} {A:Option Addr} {n:Nat} {xs:List Value} (hs:Src w 1 A n xs) (hi:Nat) (h:hi≤n):Src w 1 A hi (xs.take hi):=by
 have h9:=src_take (fun v:Value=>[v]) 1 (fun _=>rfl) (l:=xs) (by rw [flat_one];exact hs) (by have:=hs.1;omega) hi h
 rwa [flat_one] at h9
structure PS where
 A:Option Addr
 n:Nat
 cap:Nat
 vs:List Value
@[reducible] def PS.val (p:PS):Value := .slice p.A p.n p.cap
end Go.Proofs.YtblnhdnogjijiaaGreatDoor
namespace Go.Proofs.YtblnhdnogjijiaaGreatDoor
open Go.RowKit Go.Shelf Go.Proofs
set_option maxRecDepth 100000
set_option maxHeartbeats 1000000

theorem equalStr_spec (x y:Value) (p q:List ByteArray) (w:World) (hx:Rd (wr w) [x] [strsD p]) (hy:Rd (wr w) [y] [strsD q]) :
  Spec Tryz.prog 29 [x,y] w (fun v R=>v = .bool (decide (p=q))∧R=[]):=by
 obtain⟨A,ca,rfl,hnc,hnb,hl⟩:=hx.strs
 obtain⟨B,cb,rfl,hmc,hmb,hb⟩:=hy.strs
 refine spec_of sg Tryz.func29 rfl rfl rfl ?_
 repeat' (first|refine d1 ?_|fail)
 refine T_if rfl (fun h=>?_) (fun h=>?_)
 ·simp only [Bool.not_eq_true',decide_eq_false_iff_not] at h
  repeat' (first|refine d1 ?_|(show T _ (.code .ret::_) _ _ _;refine T_retV [] rfl (Hle.none _) ⟨?_,rfl⟩))
  rw [decide_eq_false (fun e=>h (by rw [e]))];rfl
 simp only [Bool.not_eq_false',decide_eq_true_eq] at h
 repeat' (first|refine d1 ?_|fail)
 refine T_loopX (fun k:Nat=>[(13, .int .i64 k)]) (fun _=>[]) (fun k=>k≤p.length∧∀ j,j<k→p[j]?=q[j]?) (fun k=>p.length - k) 0 ⟨by omega,fun j h=>by omega⟩ ?_
 rintro k ⟨hk,hok⟩
 repeat' (first|refine d1 ?_|fail)
 refine T_if rfl (fun h3=>?_) (fun h3=>?_)
 ·simp only [decide_eq_true_eq] at h3
  have hkn:k<p.length:=by omega
  have hkq:k<q.length:=by omega
  obtain⟨ba,oa,rfl⟩:=hl.base (by omega)
  obtain⟨bb,ob,rfl⟩:=hb.base (by omega)
  obtain⟨u,hu⟩:∃ u,p[k]?=some u:=⟨_,List.getElem?_eq_getElem hkn⟩
  obtain⟨v,hv⟩:∃ v,q[k]?=some v:=⟨_,List.getElem?_eq_getElem hkq⟩
  have hr1:RdC w ba (oa+(k:Int).toNat * 1) [.string u]:=(hl.get1 (by omega) (by rw [Int.toNat_natCast,List.getElem?_map,hu];rfl)).2
  have hr2:RdC w bb (ob+(k:Int).toNat * 1) [.string v]:=(hb.get1 (by omega) (by rw [Int.toNat_natCast,List.getElem?_map,hv];rfl)).2
  repeat' (first|refine d1 ?_|refine dd ?_|fail)
  refine T_if rfl (fun h4=>?_) (fun h4=>?_)
  ·simp only [Bool.not_eq_true',decide_eq_false_iff_not] at h4
   repeat' (first|refine d1 ?_|(show T _ (.code .ret::_) _ _ _;refine T_retV [] rfl (Hle.none _) ⟨?_,rfl⟩))
   rw [decide_eq_false (fun e=>h4 (by rw [e,hv] at hu;exact (Option.some.inj hu).symm))];rfl
  ·simp only [Bool.not_eq_false',decide_eq_true_eq] at h4
   repeat' (first|refine d1 ?_|fail)
   refine T_backX (k+1) ⟨by omega,fun j hj=>?_⟩ (by omega)
   rcases Nat.lt_or_ge j k with h5|h5
   ·exact hok j h5
   ·rw [show j=k by omega,hu,hv,h4]
 ·simp only [decide_eq_false_iff_not] at h3
  repeat' (first|refine d1 ?_|(show T _ (.code .ret::_) _ _ _;refine T_retV [] rfl (Hle.none _) ⟨?_,rfl⟩))
  rw [decide_eq_true (list_eq_of (by omega) fun j hj=>hok j (by omega))];rfl
theorem equalTok_spec (A B:Option Addr) (n m ca cb:Nat) (p q:List Tok) (w:World) (ha:Src w 6 A n (p.flatMap Tok.cells)) (hn:p.length=n) (hnb:n≤9223372036854775807) (hb:Src w 6 B m (q.flatMap Tok.cells)) (hm:q.length=m) (hmb:m≤9223372036854775807) :
  Spec Tryz.prog 75 [.slice A n ca, .slice B m cb] w (fun v R=>v = .bool (decide (p=q))∧R=[]):=by
 refine spec_of sg Tryz.func75 rfl rfl rfl ?_
 repeat' (first|refine d1 ?_|fail)
 refine T_if rfl (fun h=>?_) (fun h=>?_)
 ·simp only [Bool.not_eq_true',decide_eq_false_iff_not] at h
  repeat' (first|refine d1 ?_|(show T _ (.code .ret::_) _ _ _;refine T_retV [] rfl (Hle.none _) ⟨?_,rfl⟩))
  rw [decide_eq_false (fun e=>h (by rw [← hn, ← hm,e]))];rfl
 simp only [Bool.not_eq_false',decide_eq_true_eq] at h
 repeat' (first|refine d1 ?_|fail)
 refine T_loopX (fun k:Nat=>[(13, .int .i64 k)]) (fun _=>[]) (fun k=>k≤p.length∧∀ j,j<k→p[j]?=q[j]?) (fun k=>p.length - k) 0 ⟨by omega,fun j h=>by omega⟩ ?_
 rintro k ⟨hk,hok⟩
 repeat' (first|refine d1 ?_|fail)
 refine T_if rfl (fun h3=>?_) (fun h3=>?_)
 ·simp only [decide_eq_true_eq] at h3
  have hkn:k<p.length:=by omega
  have hkq:k<q.length:=by omega
  obtain⟨b1,o1,rfl⟩:=ha.base (by omega)
  obtain⟨b2,o2,rfl⟩:=hb.base (by omega)
  obtain⟨u,hu⟩:∃ u,p[k]?=some u:=⟨_,List.getElem?_eq_getElem hkn⟩
  obtain⟨v,hv⟩:∃ v,q[k]?=some v:=⟨_,List.getElem?_eq_getElem hkq⟩
  have hr1:RdC w b1 (o1+(k:Int).toNat * 6) u.cells:=ha.getT (by omega) hu
  have hr2:RdC w b2 (o2+(k:Int).toNat * 6) v.cells:=hb.getT (by omega) hv
  repeat' (first|refine d1 ?_|refine dd ?_|(show T _ (.run _ _ (_::_) _ _::_) _ _ _;refine rv rfl rfl rfl (Val.eqS (r:=decide (u=v)) rfl (fun w=>eqTok u v w) Tryz.eqGuardType42) rfl rfl rfl ?_)|fail)
  refine T_if rfl (fun h4=>?_) (fun h4=>?_)
  ·have h4:decide (u=v)=false:=by simpa using h4
   rw [decide_eq_false_iff_not] at h4
   repeat' (first|refine d1 ?_|(show T _ (.code .ret::_) _ _ _;refine T_retV [] rfl (Hle.none _) ⟨?_,rfl⟩))
   rw [decide_eq_false (fun e=>h4 (by rw [e,hv] at hu;exact (Option.some.inj hu).symm))];rfl
  ·have h4:decide (u=v)=true:=by simpa using h4
   rw [decide_eq_true_eq] at h4
   repeat' (first|refine d1 ?_|fail)
   refine T_backX (k+1) ⟨by omega,fun j hj=>?_⟩ (by omega)
   rcases Nat.lt_or_ge j k with h5|h5
   ·exact hok j h5
   ·rw [show j=k by omega,hu,hv,h4]
 ·simp only [decide_eq_false_iff_not] at h3
  repeat' (first|refine d1 ?_|(show T _ (.code .ret::_) _ _ _;refine T_retV [] rfl (Hle.none _) ⟨?_,rfl⟩))
  rw [decide_eq_true (list_eq_of (by omega) fun j hj=>hok j (by omega))];rfl
def sStar:ByteArray:=⟨#[42]⟩
def star22 (s:ByteArray):Bool:=decide (0<s.size∧byteAt s ((s.size:Int) - 1)=42)
def bare1_22 (s:ByteArray):ByteArray:=if star22 s=true then s.extract 0 (s.size - 1) else s
theorem star22_eq {s:ByteArray} (h:0<s.size):decide (s.extract (s.size - 1) s.size=sStar)=star22 s:=by
 have h1:(s.extract (s.size - 1) s.size).data.toList=[byteAt s ((s.size:Int) - 1)]:=by
  have:=extract_one (s:=s) (j:=s.size - 1) (by omega)
  rw [show s.size - 1+1=s.size by omega,show ((s.size - 1:Nat):Int)=(s.size:Int) - 1 by omega] at this
  exact this
 unfold star22
 rw [decide_eq_decide]
 constructor
 ·intro e
  rw [e] at h1
  exact⟨h,(List.cons.inj h1).1.symm⟩
 ·rintro⟨-,e⟩
  rw [e] at h1
  exact ByteArray.ext (Array.ext' h1)
theorem siglum22_eq (s:ByteArray):(isNameB (bare1_22 s) && (!star22 s || decide ((s.size:Int)≤16)))=siglum22 s:=by
 unfold siglum22 bare1_22
 by_cases h:star22 s=true
 ·have h2:0<s.size∧byteAt s ((s.size:Int) - 1)=42:=by simpa [star22] using h
  rw [if_pos h,if_pos h2,h]
  rw [show decide ((s.size:Int)≤16)=decide (s.size≤16) from decide_eq_decide.2 (by omega)]
  rfl
 ·have h2:¬ (0<s.size∧byteAt s ((s.size:Int) - 1)=42):=by simpa [star22] using h
  rw [if_neg h,if_neg h2]
  simp [h]
theorem hasStar_spec (s:ByteArray) (hs:s.size≤9223372036854775807) (w:World):Spec Tryz.prog 250 [.string s, .string sStar] w (fun v R=>v = .bool (star22 s)∧R=[]):=by
 refine spec_of sg Tryz.func250 rfl rfl rfl ?_
 have e1:sStar.size=1:=rfl
 repeat' (first|refine d1 ?_|(show T _ (.code .ret::_) _ _ _;refine T_retV [] rfl (Hle.none _) ⟨congrArg Value.bool ?_,rfl⟩))
 rw [e1]
 by_cases h:0<s.size
 ·rw [show ((s.size:Int) - ((1:Nat):Int)).toNat=s.size - 1 by omega,Int.toNat_natCast,star22_eq h,decide_eq_true (by omega),Bool.true_and]
 ·rw [decide_eq_false (by omega),Bool.false_and]
  unfold star22
  rw [decide_eq_false (fun hh=>h hh.1)]
theorem cutStar1_spec (s:ByteArray) (hs:s.size≤9223372036854775807) (w:World):Spec Tryz.prog 209 [.string s, .string sStar] w (fun v R=>v = .tuple #[.string (bare1_22 s), .bool (star22 s)]∧R=[]):=by
 refine spec_of sg Tryz.func209 rfl rfl rfl ?_
 have e1:sStar.size=1:=rfl
 repeat' (first|refine d1 ?_|(show T _ (.ops _ (_::_)::_) _ _ _;refine T_call rfl rfl rfl rfl rfl (fun w hw=>hasStar_spec s hs w) ?_)|fail)
 refine T_if rfl (fun h=>?_) (fun h=>?_)
 ·simp only [Bool.not_eq_true'] at h
  repeat' (first|refine d1 ?_|(show T _ (.code .ret::_) _ _ _;refine T_retV [] rfl (Hle.none _) ⟨by unfold bare1_22;rw [h];rfl,rfl⟩))
 ·simp only [Bool.not_eq_false'] at h
  have h2:0<s.size:=by simp only [star22,decide_eq_true_eq] at h;exact h.1
  repeat' (first|refine d1 ?_|(show T _ (.code .ret::_) _ _ _;refine T_retV [] rfl (Hle.none _) ⟨by unfold bare1_22;rw [h,show ((s.size:Int) - (sStar.size:Int)).toNat=s.size - 1 by omega];rfl,rfl⟩))
theorem cutStar_spec (s:ByteArray) (hs:s.size≤9223372036854775807) (w:World):Spec Tryz.prog 165 [.string s, .string sStar] w (fun v R=>v = .tuple #[.string (bare1_22 s), .bool (star22 s)]∧R=[]):=by
 refine spec_of sg Tryz.func165 rfl rfl rfl ?_
 repeat' (first|refine d1 ?_|(show T _ (.ops _ (_::_)::_) _ _ _;refine T_call rfl rfl rfl rfl rfl (fun w hw=>cutStar1_spec s hs w) ?_)|(show T _ (.code .ret::_) _ _ _;refine T_retV [] rfl (Hle.none _) ⟨rfl,rfl⟩))
theorem indexStr_spec (A:Option Addr) (n c:Nat) (l:List ByteArray) (x:ByteArray) (w:World) (hs:Src w 1 A n (l.map Value.string)) (hn:l.length=n) (hb:n≤9223372036854775807) :
  Spec Tryz.prog 166 [.slice A n c, .string x] w (fun v R=>v = .int .i64 (findI (fun y=>decide (x=y)) l)∧R=[]):=by
 refine spec_of sg Tryz.func166 rfl rfl rfl ?_
 repeat' (first|refine d1 ?_|fail)
 refine T_loopX (fun k:Nat=>[(8, .int .i64 k)]) (fun _=>[]) (fun k=>k≤n∧∀ i y,i<k→l[i]?=some y→decide (x=y)=false) (fun k=>n - k) 0 ⟨Nat.zero_le _,fun i y h=>by omega⟩ ?_
 rintro k ⟨hk,hok⟩
 repeat' (first|refine d1 ?_|fail)
 refine T_if rfl (fun h=>?_) (fun h=>?_)
 ·simp only [decide_eq_true_eq] at h
  have hkn:k<n:=by omega
  obtain⟨b,o,rfl⟩:=hs.base (by omega)
  obtain⟨y,hy⟩:∃ y,l[k]?=some y:=⟨_,List.getElem?_eq_getElem (by omega)⟩
  have hr:=src_str hs hkn hy
  repeat' (first|refine d1 ?_|fail)
  refine T_if rfl (fun h1=>?_) (fun h1=>?_)
  ·repeat' (first|refine d1 ?_|(show T _ (.code .ret::_) _ _ _;refine T_retV [] rfl (Hle.none _) ⟨congrArg (Value.int .i64) (findI_some hy h1 hok).symm,rfl⟩))
  ·repeat' (first|refine d1 ?_|fail)
   refine T_backX (k+1) ⟨by omega,fun i z hi hz=>?_⟩ (by omega)
   rcases Nat.lt_or_ge i k with h2|h2
   ·exact hok i z h2 hz
   ·rw [show i=k by omega,hy] at hz
    cases hz
    exact h1
 ·simp only [decide_eq_false_iff_not] at h
  repeat' (first|refine d1 ?_|(show T _ (.code .ret::_) _ _ _;refine T_retV [] rfl (Hle.none _) ⟨congrArg (Value.int .i64) (findI_none (fun i z hi=>hok i z (by have:=(List.getElem?_eq_some_iff.1 hi).1;omega) hi)).symm,rfl⟩))
theorem containsStr_spec (A:Option Addr) (n c:Nat) (l:List ByteArray) (x:ByteArray) (w:World) (hs:Src w 1 A n (l.map Value.string)) (hn:l.length=n) (hb:n≤9223372036854775807) :
  Spec Tryz.prog 110 [.slice A n c, .string x] w (fun v R=>v = .bool (has22 l x)∧R=[]):=by
 refine spec_of sg Tryz.func110 rfl rfl rfl ?_
 repeat' (first|refine d1 ?_|(show T _ (.ops _ (_::_)::_) _ _ _;refine T_call rfl rfl rfl rfl rfl (fun w hw=>indexStr_spec A n c l x w (rdSrc hs w hw) hn hb) ?_)|(show T _ (.code .ret::_) _ _ _;refine T_retV [] rfl (Hle.none _) ⟨congrArg Value.bool (findI_any _ l),rfl⟩))
theorem oneStr:∀ l:List ByteArray,oneCells (l.map Value.string)=true
 | []=>rfl
 | x::l=>by show (true && oneCells (l.map Value.string))=true;rw [oneStr l];rfl
theorem cloneStr_spec (A:Option Addr) (n c:Nat) (l:List ByteArray) (w:World) (hs:Src w 1 A n (l.map Value.string)) (hb:n≤1000000) :
  Spec Tryz.prog 53 [.slice A n c] w (fun v R=>∃ x:Option Addr × Nat,True∧v = .slice x.1 n x.2∧R=[row 9 1 x.1 x.2 n (l.map Value.string)]):=by
 refine spec_of sg Tryz.func53 rfl rfl rfl ?_
 repeat' (first|refine d1 ?_|(show T _ (.ops _ (_::_)::_) _ _ _;refine T_val rfl (Val.nilS rfl) rfl rfl rfl ?_)|fail)
 refine T_if rfl (fun h=>?_) (fun h=>?_)
 ·obtain rfl:=isNone_true h
  obtain⟨rfl,e⟩:=src_none hs
  rw [e]
  repeat' (first|refine d1 ?_|fail)
  refine T_nilrow 9 1 ?_
  repeat' (first|(show T _ (.code .ret::_) _ _ _;refine T_retV _ rfl Hle.sub ⟨(none,0),trivial,rfl,rfl⟩))
 ·repeat' (first|refine d1 ?_|(show ∀ _:Nat,T _ _ _ _ _;intro _))
  refine T_blk_rowh 1 0 rfl (by omega) ?_
  refine T_op (OpT.append rfl rfl rfl rfl rfl rfl rfl rfl rfl rfl (rdSrc hs) (oneStr l) (by dsimp only;omega) (by omega) (fun A' cap' hA'=>?_))
  rw [show 0+n=n by omega,show flatP []++(l.map Value.string)=(l.map Value.string) from rfl]
  repeat' (first|refine d1 ?_|(show T _ (.code .ret::_) _ _ _;refine T_retV _ rfl (Hle.refl _) ⟨(A',cap'),trivial,rfl,rfl⟩))
end Go.Proofs.YtblnhdnogjijiaaGreatDoor
namespace Go.Proofs.YtblnhdnogjijiaaGreatDoor
open Go.RowKit Go.Shelf Go.Proofs
set_option maxRecDepth 100000
set_option maxHeartbeats 1000000

structure HdAt (w:World) (sec:ByteArray) (sg:List ByteArray) (A1:Option Addr) (c1:Nat) (l:List TS) (A2:Option Addr) (c2:Nat):Prop where
 hst:Std w
 s1:Src w 1 A1 sg.length (sg.map Value.string)
 b1:sg.length≤c1
 s2:Src w 1 A2 l.length (l.map TS.val)
 ok:TsOk w l
 sec:sec.size≤20
 sig:∀ s∈sg,s.size≤20
 n1:sg.length≤36
 n2:l.length≤36
 tok:∀ t∈l,t.n≤6∧∀ x∈t.l,x.small
 txt:∀ t∈l,∀ x∈t.l,x.text.size≤12
theorem Src.old {w0 w:World} {H:List HA} {sz n:Nat} {A:Option Addr} {xs:List Value} (h:Src w0 sz A n xs) (hw:Cls w0 w H):Src w sz A n xs:=⟨h.1,fun q=>⟨(h.2 q).1,(h.2 q).2.old hw⟩⟩
theorem HdAt.cls {w0 w:World} {H:List HA} {sec:ByteArray} {sg:List ByteArray} {A1 A2:Option Addr} {c1 c2:Nat} {l:List TS} (h:HdAt w0 sec sg A1 c1 l A2 c2) (hw:Cls w0 w H):HdAt w sec sg A1 c1 l A2 c2 :=
 ⟨h.hst.cls hw,h.s1.old hw,h.b1,h.s2.old hw,⟨fun t ht=>src_below (h.ok.src t ht) hw.below,h.ok.len,h.ok.bd⟩,h.sec,h.sig,h.n1,h.n2,h.tok,h.txt⟩
theorem HdAt.len {w:World} {sec:ByteArray} {sg:List ByteArray} {A1 A2:Option Addr} {c1 c2:Nat} {l:List TS} (h:HdAt w sec sg A1 c1 l A2 c2) (k:Nat) {t:TS} (ht:l[k]?=some t):(l.map TS.l)[k]?=some t.l∧t.l.length=t.n∧t.n≤6 :=
 ⟨by rw [List.getElem?_map,ht];rfl,h.ok.len t (List.mem_of_getElem? ht),(h.tok t (List.mem_of_getElem? ht)).1⟩
theorem HdAt.hdr {w:World} {sec:ByteArray} {sg:List ByteArray} {A1:Option Addr} {b o:Nat} {c1 c2:Nat} {l:List TS} (h:HdAt w sec sg A1 c1 l (some ⟨b,o,none⟩) c2) {k:Nat} {t:TS} (ht:l[k]?=some t):RdC w b (o+(k:Int).toNat * 1) [.slice t.A t.n t.cap]:=by
 have hk:=(List.getElem?_eq_some_iff.1 ht).1
 have h9:=(h.s2.get1 (i:=k) hk (by rw [List.getElem?_map,ht];rfl)).2
 rw [Nat.mul_one] at h9
 rw [off1]
 exact h9
theorem src_takeStr {w:World} {A:Option Addr} {n:Nat} {l:List ByteArray} (hs:Src w 1 A n (l.map Value.string)) (i:Nat) (h:i≤n):Src w 1 A i ((l.take i).map Value.string):=by
 have:=src_take1 hs i h
 rwa [← List.map_take] at this
theorem siglumP_spec (s:ByteArray) (hs:s.size≤20) (w:World):Spec Tryz.prog 109 [.string s] w (fun v R=>v = .bool (siglum22 s)∧R=[]):=by
 have hb:(bare1_22 s).size≤9223372036854775807:=by
  unfold bare1_22
  split
  ·rw [ByteArray.size_extract];omega
  ·omega
 refine spec_of sg Tryz.func109 rfl rfl rfl ?_
 repeat' (first|refine d1 ?_|(show T _ (.ops _ (_::_)::_) _ _ _;first|refine T_call rfl rfl rfl rfl rfl (fun w hw=>cutStar_spec s (by omega) w) ?_|refine T_call rfl rfl rfl rfl rfl (fun w hw=>isNamePrg_spec (bare1_22 s) hb w) ?_)|(show T _ (.code .ret::_) _ _ _;refine T_retV [] rfl (Hle.none _) ⟨congrArg Value.bool (siglum22_eq s),rfl⟩))
theorem siglumR_spec (s:ByteArray) (hs:s.size≤20) (w:World):Spec Tryz.prog 115 [.string s] w (fun v R=>v = .bool (siglum22 s)∧R=[]):=by
 refine spec_of sg Tryz.func115 rfl rfl rfl ?_
 repeat' (first|refine d1 ?_|fail)
 refine T_if rfl (fun h=>?_) (fun h=>?_)
 ·have h2:0<s.size∧byteAt s ((s.size:Int) - 1)=42:=by
   simp only [Bool.and_eq_true,decide_eq_true_eq] at h
   exact⟨by omega,UInt8.toNat_inj.1 (by rw [show (42:UInt8).toNat=42 from rfl];have:=h.2;omega)⟩
  repeat' (first|refine d1 ?_|(show T _ (.ops _ (_::_)::_) _ _ _;refine T_callC rfl rfl rfl rfl rfl rfl rfl (fun hg w hw=>isNameRef_spec _ w) ?_)|(show T _ (.code .ret::_) _ _ _;refine T_retV [] rfl (Hle.none _) ⟨congrArg Value.bool ?_,rfl⟩))
  unfold siglum22
  rw [if_pos h2,Bool.and_comm,show ((s.size:Int) - 1).toNat=s.size - 1 by omega,show decide ((s.size:Int)≤16)=decide (s.size≤16) from decide_eq_decide.2 (by omega)]
  rfl
 ·have h2:¬ (0<s.size∧byteAt s ((s.size:Int) - 1)=42):=by
   rintro⟨h3,h4⟩
   rw [h4] at h
   simp only [Bool.and_eq_false_iff,decide_eq_false_iff_not] at h
   rcases h with h|h
   ·omega
   ·exact h rfl
  repeat' (first|refine d1 ?_|(show T _ (.ops _ (_::_)::_) _ _ _;refine T_call rfl rfl rfl rfl rfl (fun w hw=>isNameRef_spec s w) ?_)|(show T _ (.code .ret::_) _ _ _;refine T_retV [] rfl (Hle.none _) ⟨congrArg Value.bool (by unfold siglum22;rw [if_neg h2]),rfl⟩))
theorem sources1_22_spec (t:Tok) (ht:t.small) (w:World) (hst:Std w):Spec Tryz.prog 111 [t.val] w (fun v A=>v = .bool (!decide (tokE t=0))∧A=[]):=by
 refine spec_of sg Tryz.func111 rfl rfl rfl ?_
 repeat' (first|(show T _ (.ops _ (⟨_, .box _ _,_,_,_,_⟩::_)::_) _ _ _;refine T_op (OpT.box (cs:=t.cells) rfl rfl rfl rfl rfl rfl rfl (fun _=>?_)))|refine d1 ?_|(show T _ (.ops _ (_::_)::_) _ _ _;refine T_call rfl rfl rfl rfl rfl (fun w hw=>tokPrg_spec t ht w (hst.cls hw)) ?_)|(show T _ (.code .ret::_) _ _ _;refine T_retV [] rfl (Hle.none _) ⟨rfl,rfl⟩))
section
variable {sec:ByteArray} {sg:List ByteArray} {m:List (List Tok)}
theorem head22_a (h:isNameB sec=false):head22 sec sg m=14:=if_pos h
theorem head22_b (h1:isNameB sec=true) (h:sg.length=0):head22 sec sg m=5:=by unfold head22;rw [if_neg (by rw [h1];simp),if_pos h]
theorem head22_c (h1:isNameB sec=true) (h2:sg.length≠0) (h:32<sg.length):head22 sec sg m=4:=by unfold head22;rw [if_neg (by rw [h1];simp),if_neg h2,if_pos h]
theorem head22_d (h1:isNameB sec=true) (h2:sg.length≠0) (h3:¬ 32<sg.length) (h:sgE22 [] sg≠0):head22 sec sg m=sgE22 [] sg:=by unfold head22;rw [if_neg (by rw [h1];simp),if_neg h2,if_neg h3,if_pos h]
theorem head22_e (h1:isNameB sec=true) (h2:sg.length≠0) (h3:¬ 32<sg.length) (h4:sgE22 [] sg=0) (h:m.length≠sg.length):head22 sec sg m=9:=by unfold head22;rw [if_neg (by rw [h1];simp),if_neg h2,if_neg h3,if_neg (by rw [h4];simp),if_pos h]
theorem head22_f (h1:isNameB sec=true) (h2:sg.length≠0) (h3:¬ 32<sg.length) (h4:sgE22 [] sg=0) (h5:m.length=sg.length):head22 sec sg m=tkE22 m:=by unfold head22;rw [if_neg (by rw [h1];simp),if_neg h2,if_neg h3,if_neg (by rw [h4];simp),if_neg (by omega)]
end
theorem sources22_spec (sec:ByteArray) (sg':List ByteArray) (A1:Option Addr) (c1:Nat) (l:List TS) (A2:Option Addr) (c2:Nat) (w:World) (hh:HdAt w sec sg' A1 c1 l A2 c2) :
  Spec Tryz.prog 52 [.string sec, .slice A1 sg'.length c1, .slice A2 l.length c2] w (fun v R=>v = .int .i64 (head22 sec sg' (l.map TS.l))∧R=[]):=by
 obtain⟨hst,hs1,hb1,hs2,hok,hsec,hsig,hn1,hn2,htok,htxt⟩:=hh
 have hh:HdAt w sec sg' A1 c1 l A2 c2:=⟨hst,hs1,hb1,hs2,hok,hsec,hsig,hn1,hn2,htok,htxt⟩
 refine spec_of sg Tryz.func52 rfl rfl rfl ?_
 repeat' (first|refine d1 ?_|(show T _ (.ops _ (_::_)::_) _ _ _;refine T_call rfl rfl rfl rfl rfl (fun w hw=>isNamePrg_spec sec (by omega) w) ?_)|fail)
 refine T_if rfl (fun h=>?_) (fun h=>?_)
 ·simp only [Bool.not_eq_true'] at h
  repeat' (first|refine d1 ?_|(show T _ (.code .ret::_) _ _ _;refine T_retV [] rfl (Hle.none _) ⟨congrArg (Value.int .i64) (head22_a h).symm,rfl⟩))
 simp only [Bool.not_eq_false'] at h
 repeat' (first|refine d1 ?_|fail)
 refine T_if rfl (fun h2=>?_) (fun h2=>?_)
 ·simp only [decide_eq_true_eq] at h2
  repeat' (first|refine d1 ?_|(show T _ (.code .ret::_) _ _ _;refine T_retV [] rfl (Hle.none _) ⟨congrArg (Value.int .i64) (head22_b h (by omega)).symm,rfl⟩))
 simp only [decide_eq_false_iff_not] at h2
 have h2':sg'.length≠0:=by omega
 repeat' (first|refine d1 ?_|fail)
 refine T_if rfl (fun h3=>?_) (fun h3=>?_)
 ·simp only [decide_eq_true_eq] at h3
  repeat' (first|refine d1 ?_|(show T _ (.code .ret::_) _ _ _;refine T_retV [] rfl (Hle.none _) ⟨congrArg (Value.int .i64) (head22_c h h2' (by omega)).symm,rfl⟩))
 simp only [decide_eq_false_iff_not] at h3
 have h3':¬ 32<sg'.length:=by omega
 repeat' (first|refine d1 ?_|fail)
 refine T_loopX (fun k:Nat=>[(25, .int .i64 k)]) (fun _=>[]) (fun k=>k≤sg'.length∧sgE22 [] sg'=sgE22 (sg'.take k) (sg'.drop k)) (fun k=>sg'.length - k) 0 ⟨Nat.zero_le _,by simp⟩ ?_
 rintro k ⟨hk,hE⟩
 repeat' (first|refine d1 ?_|fail)
 refine T_if rfl (fun h4=>?_) (fun h4=>?_)
 ·simp only [decide_eq_true_eq] at h4
  have hkn:k<sg'.length:=by omega
  obtain⟨b,o,rfl⟩:=hs1.base (by omega)
  obtain⟨s,hs⟩:∃ s,sg'[k]?=some s:=⟨_,List.getElem?_eq_getElem hkn⟩
  have hr:=src_str hs1 hkn hs
  have hs20:=hsig s (List.mem_of_getElem? hs)
  rw [sgE22_step hs] at hE
  repeat' (first|refine d1 ?_|(show T _ (.ops _ (_::_)::_) _ _ _;refine T_call rfl rfl rfl rfl rfl (fun w hw=>siglumP_spec s hs20 w) ?_)|fail)
  refine T_if rfl (fun h5=>?_) (fun h5=>?_)
  ·simp only [Bool.not_eq_true'] at h5
   rw [if_pos h5] at hE
   repeat' (first|refine d1 ?_|(show T _ (.code .ret::_) _ _ _;refine T_retV [] rfl (Hle.none _) ⟨congrArg (Value.int .i64) (by rw [head22_d h h2' h3' (by omega),hE]),rfl⟩))
  simp only [Bool.not_eq_false'] at h5
  rw [if_neg (by rw [h5];simp)] at hE
  repeat' (first|refine d1 ?_|(show T _ (.ops _ (_::_)::_) _ _ _;refine T_call rfl rfl rfl rfl rfl (fun w hw=>containsStr_spec (some ⟨b,o,none⟩) k c1 (sg'.take k) s w (src_takeStr (rdSrc hs1 w hw) k (by omega)) (by rw [List.length_take];omega) (by omega)) ?_)|fail)
  refine T_if rfl (fun h6=>?_) (fun h6=>?_)
  ·rw [if_pos (show has22 (sg'.take k) s=true from h6)] at hE
   repeat' (first|refine d1 ?_|(show T _ (.code .ret::_) _ _ _;refine T_retV [] rfl (Hle.none _) ⟨congrArg (Value.int .i64) (by rw [head22_d h h2' h3' (by omega),hE]),rfl⟩))
  rw [if_neg (show ¬ has22 (sg'.take k) s=true by rw [show has22 (sg'.take k) s=false from h6];simp)] at hE
  repeat' (first|refine d1 ?_|fail)
  exact T_backX (k+1) ⟨by omega,hE⟩ (by omega)
 simp only [decide_eq_false_iff_not] at h4
 rw [sgE22_end (by omega)] at hE
 repeat' (first|refine d1 ?_|fail)
 refine T_if rfl (fun h5=>?_) (fun h5=>?_)
 ·simp only [Bool.not_eq_true',decide_eq_false_iff_not] at h5
  repeat' (first|refine d1 ?_|(show T _ (.code .ret::_) _ _ _;refine T_retV [] rfl (Hle.none _) ⟨congrArg (Value.int .i64) (by rw [head22_e h h2' h3' hE (by rw [List.length_map];omega)]),rfl⟩))
 simp only [Bool.not_eq_false',decide_eq_true_eq] at h5
 have hF:=head22_f (m:=l.map TS.l) h h2' h3' hE (by rw [List.length_map];omega)
 repeat' (first|refine d1 ?_|fail)
 refine T_loopX (fun k:Nat=>[(46, .int .i64 k)]) (fun _=>[]) (fun k=>k≤l.length∧tkE22 (l.map TS.l)=tkE22 ((l.map TS.l).drop k)) (fun k=>l.length - k) 0 ⟨Nat.zero_le _,by simp⟩ ?_
 rintro k ⟨hk,hE2⟩
 repeat' (first|refine d1 ?_|fail)
 refine T_if rfl (fun h6=>?_) (fun h6=>?_)
 ·simp only [decide_eq_true_eq] at h6
  have hkn:k<l.length:=by omega
  obtain⟨b,o,rfl⟩:=hs2.base (by omega)
  obtain⟨t,ht⟩:∃ t,l[k]?=some t:=⟨_,List.getElem?_eq_getElem hkn⟩
  have hr:=hh.hdr ht
  have htm:=List.mem_of_getElem? ht
  obtain⟨e1,e2,e3⟩:=hh.len k ht
  rw [tkE22_step e1] at hE2
  repeat' (first|refine d1 ?_|fail)
  refine T_if rfl (fun h7=>by exfalso;simp at h7;omega) (fun _=>?_)
  rw [if_neg (by omega)] at hE2
  repeat' (first|refine d1 ?_|(show T _ (.ops _ (_::_)::_) _ _ _;refine T_call rfl rfl rfl rfl rfl (fun w hw=>containsFuncT_spec t.A t.n t.cap t.l _ [] [] (fun t => !decide (tokE t=0)) w (rdSrc (hok.src t htm) w hw) e2 (by omega) (fun x hx w' hb'=>sources1_22_spec x ((htok t htm).2 x hx) w' ((hst.cls hw).below hb'))) ?_)|fail)
  refine T_if rfl (fun h7=>?_) (fun h7=>?_)
  ·rw [if_pos (show badL t.l=true from h7)] at hE2
   repeat' (first|refine d1 ?_|(show T _ (.code .ret::_) _ _ _;refine T_retV [] rfl (Hle.none _) ⟨congrArg (Value.int .i64) (by rw [hF,hE2]),rfl⟩))
  rw [if_neg (show ¬ badL t.l=true by rw [show badL t.l=false from h7];simp)] at hE2
  repeat' (first|refine d1 ?_|fail)
  exact T_backX (k+1) ⟨by omega,hE2⟩ (by omega)
 simp only [decide_eq_false_iff_not] at h6
 rw [List.drop_eq_nil_of_le (by rw [List.length_map];omega)] at hE2
 repeat' (first|refine d1 ?_|(show T _ (.code .ret::_) _ _ _;refine T_retV [] rfl (Hle.none _) ⟨congrArg (Value.int .i64) (by rw [hF,hE2];rfl),rfl⟩))
end Go.Proofs.YtblnhdnogjijiaaGreatDoor
namespace Go.Proofs.YtblnhdnogjijiaaGreatDoor
open Go.RowKit Go.Shelf Go.Proofs
set_option maxRecDepth 100000
set_option maxHeartbeats 1000000

structure CoAt (w:World) (x:Co) (A1:Option Addr) (c1:Nat) (l:List TS) (A2:Option Addr) (c2:Nat) (y3:Value):Prop where
 hd:HdAt w x.sec x.sg A1 c1 l A2 c2
 m:l.map TS.l=x.m
 cols:Rd (wr w) [y3] [rowsD x.cols]
theorem CoAt.cls {w0 w:World} {H:List HA} {x:Co} {A1 A2:Option Addr} {c1 c2:Nat} {l:List TS} {y3:Value} (h:CoAt w0 x A1 c1 l A2 c2 y3) (hw:Cls w0 w H):CoAt w x A1 c1 l A2 c2 y3:=⟨h.hd.cls hw,h.m,h.cols.old hw⟩
theorem headR22_spec (sec:ByteArray) (sg':List ByteArray) (A1:Option Addr) (c1:Nat) (l:List TS) (A2:Option Addr) (c2:Nat) (w:World) (hh:HdAt w sec sg' A1 c1 l A2 c2) :
  Spec Tryz.prog 56 [.string sec, .slice A1 sg'.length c1, .slice A2 l.length c2] w (fun v R=>v = .int .i64 (head22 sec sg' (l.map TS.l))∧R=[]):=by
 obtain⟨hst,hs1,hb1,hs2,hok,hsec,hsig,hn1,hn2,htok,htxt⟩:=hh
 have hh:HdAt w sec sg' A1 c1 l A2 c2:=⟨hst,hs1,hb1,hs2,hok,hsec,hsig,hn1,hn2,htok,htxt⟩
 refine spec_of sg Tryz.func56 rfl rfl rfl ?_
 repeat' (first|refine d1 ?_|(show T _ (.ops _ (_::_)::_) _ _ _;refine T_call rfl rfl rfl rfl rfl (fun w hw=>isNameRef_spec sec w) ?_)|fail)
 refine T_if rfl (fun h=>?_) (fun h=>?_)
 ·simp only [Bool.not_eq_true'] at h
  repeat' (first|refine d1 ?_|(show T _ (.code .ret::_) _ _ _;refine T_retV [] rfl (Hle.none _) ⟨congrArg (Value.int .i64) (head22_a h).symm,rfl⟩))
 simp only [Bool.not_eq_false'] at h
 repeat' (first|refine d1 ?_|fail)
 refine T_if rfl (fun h2=>?_) (fun h2=>?_)
 ·simp only [decide_eq_true_eq] at h2
  repeat' (first|refine d1 ?_|(show T _ (.code .ret::_) _ _ _;refine T_retV [] rfl (Hle.none _) ⟨congrArg (Value.int .i64) (head22_b h (by omega)).symm,rfl⟩))
 simp only [decide_eq_false_iff_not] at h2
 have h2':sg'.length≠0:=by omega
 repeat' (first|refine d1 ?_|fail)
 refine T_if rfl (fun h3=>?_) (fun h3=>?_)
 ·simp only [decide_eq_true_eq] at h3
  repeat' (first|refine d1 ?_|(show T _ (.code .ret::_) _ _ _;refine T_retV [] rfl (Hle.none _) ⟨congrArg (Value.int .i64) (head22_c h h2' (by omega)).symm,rfl⟩))
 simp only [decide_eq_false_iff_not] at h3
 have h3':¬ 32<sg'.length:=by omega
 repeat' (first|refine d1 ?_|fail)
 refine T_loopX (fun k:Nat=>[(7, .int .i64 k)]) (fun _=>[]) (fun k=>k≤sg'.length∧sgE22 [] sg'=sgE22 (sg'.take k) (sg'.drop k)) (fun k=>sg'.length - k) 0 ⟨Nat.zero_le _,by simp⟩ ?_
 rintro k ⟨hk,hE⟩
 repeat' (first|refine d1 ?_|fail)
 refine T_if rfl (fun h4=>?_) (fun h4=>?_)
 ·simp only [decide_eq_true_eq] at h4
  have hkn:k<sg'.length:=by omega
  obtain⟨b,o,rfl⟩:=hs1.base (by omega)
  obtain⟨s,hs⟩:∃ s,sg'[k]?=some s:=⟨_,List.getElem?_eq_getElem hkn⟩
  have hr:=src_str hs1 hkn hs
  have hs20:=hsig s (List.mem_of_getElem? hs)
  rw [sgE22_step hs] at hE
  repeat' (first|refine d1 ?_|(show T _ (.ops _ (_::_)::_) _ _ _;refine T_call rfl rfl rfl rfl rfl (fun w hw=>siglumR_spec s hs20 w) ?_)|fail)
  refine T_if rfl (fun h5=>?_) (fun h5=>?_)
  ·simp only [Bool.not_eq_true'] at h5
   rw [if_pos h5] at hE
   repeat' (first|refine d1 ?_|(show T _ (.code .ret::_) _ _ _;refine T_retV [] rfl (Hle.none _) ⟨congrArg (Value.int .i64) (by rw [head22_d h h2' h3' (by omega),hE]),rfl⟩))
  simp only [Bool.not_eq_false'] at h5
  rw [if_neg (by rw [h5];simp)] at hE
  repeat' (first|refine d1 ?_|fail)
  refine T_loopX (fun j:Nat=>[(8, .int .i64 j)]) (fun _=>[]) (fun j=>j≤k∧s ∉ sg'.take j) (fun j=>k - j) 0 ⟨Nat.zero_le _,by simp⟩ ?_
  rintro j ⟨hj,hnot⟩
  repeat' (first|refine d1 ?_|fail)
  refine T_if rfl (fun h6=>?_) (fun h6=>?_)
  ·simp only [decide_eq_true_eq] at h6
   have hjk:j<k:=by omega
   obtain⟨y,hy⟩:∃ y,sg'[j]?=some y:=⟨_,List.getElem?_eq_getElem (by omega)⟩
   have hr2:=src_str hs1 (k:=j) (by omega) hy
   have htk:=take_snoc _ _ _ hy
   repeat' (first|refine dd ?_|fail)
   refine T_if rfl (fun h7=>?_) (fun h7=>?_)
   ·simp only [decide_eq_true_eq] at h7
    have hmem:s∈sg'.take k:=by
     rw [← h7]
     exact List.mem_iff_getElem?.2 ⟨j,by rw [List.getElem?_take_of_lt hjk];exact hy⟩
    rw [if_pos (has22_iff.2 hmem)] at hE
    repeat' (first|refine d1 ?_|(show T _ (.code .ret::_) _ _ _;refine T_retV [] rfl (Hle.none _) ⟨congrArg (Value.int .i64) (by rw [head22_d h h2' h3' (by omega),hE]),rfl⟩))
   simp only [decide_eq_false_iff_not] at h7
   repeat' (first|refine d1 ?_|fail)
   refine T_backX (j+1) ⟨by omega,?_⟩ (by omega)
   rw [htk,List.mem_append,List.mem_singleton]
   rintro (hm|rfl)
   ·exact hnot hm
   ·exact h7 rfl
  simp only [decide_eq_false_iff_not] at h6
  obtain rfl:j=k:=by omega
  rw [if_neg (fun hh=>hnot (has22_iff.1 hh))] at hE
  repeat' (first|refine d1 ?_|fail)
  exact T_backX (j+1) ⟨by omega,hE⟩ (by omega)
 simp only [decide_eq_false_iff_not] at h4
 rw [sgE22_end (by omega)] at hE
 repeat' (first|refine d1 ?_|fail)
 refine T_if rfl (fun h5=>?_) (fun h5=>?_)
 ·simp only [Bool.not_eq_true',decide_eq_false_iff_not] at h5
  repeat' (first|refine d1 ?_|(show T _ (.code .ret::_) _ _ _;refine T_retV [] rfl (Hle.none _) ⟨congrArg (Value.int .i64) (by rw [head22_e h h2' h3' hE (by rw [List.length_map];omega)]),rfl⟩))
 simp only [Bool.not_eq_false',decide_eq_true_eq] at h5
 have hF:=head22_f (m:=l.map TS.l) h h2' h3' hE (by rw [List.length_map];omega)
 repeat' (first|refine d1 ?_|fail)
 refine T_loopX (fun k:Nat=>[(9, .int .i64 k)]) (fun _=>[]) (fun k=>k≤l.length∧tkE22 (l.map TS.l)=tkE22 ((l.map TS.l).drop k)) (fun k=>l.length - k) 0 ⟨Nat.zero_le _,by simp⟩ ?_
 rintro k ⟨hk,hE2⟩
 repeat' (first|refine d1 ?_|fail)
 refine T_if rfl (fun h6=>?_) (fun h6=>?_)
 ·simp only [decide_eq_true_eq] at h6
  have hkn:k<l.length:=by omega
  obtain⟨b,o,rfl⟩:=hs2.base (by omega)
  obtain⟨t,ht⟩:∃ t,l[k]?=some t:=⟨_,List.getElem?_eq_getElem hkn⟩
  have hr:=hh.hdr ht
  have htm:=List.mem_of_getElem? ht
  obtain⟨e1,e2,e3⟩:=hh.len k ht
  rw [tkE22_step e1] at hE2
  repeat' (first|refine d1 ?_|fail)
  refine T_if rfl (fun h7=>by exfalso;simp at h7;omega) (fun _=>?_)
  rw [if_neg (by omega)] at hE2
  have hst2:=hok.src t htm
  repeat' (first|refine d1 ?_|fail)
  refine T_loopX (fun j:Nat=>[(10, .int .i64 j)]) (fun _=>[]) (fun j=>j≤t.n∧∀ i y,i<j→t.l[i]?=some y→tokE y=0) (fun j=>t.n - j) 0 ⟨Nat.zero_le _,fun i y h=>by omega⟩ ?_
  rintro j ⟨hj,hall⟩
  repeat' (first|refine d1 ?_|fail)
  refine T_if rfl (fun h7=>?_) (fun h7=>?_)
  ·simp only [decide_eq_true_eq] at h7
   have hjn:j<t.n:=by omega
   obtain⟨b2,o2,eA⟩:=hst2.base (by omega)
   obtain⟨y,hy⟩:∃ y,t.l[j]?=some y:=⟨_,List.getElem?_eq_getElem (by omega)⟩
   have hr2:RdC w b2 (o2+(j:Int).toNat * 6) y.cells:=by have:=hst2.getT hjn hy;rw [eA] at this;exact this
   rw [eA] at hr
   repeat' (first|refine d1 ?_|(show T _ (.ops _ (_::_)::_) _ _ _;refine T_call rfl rfl rfl rfl rfl (fun w hw=>tokRef_spec y w) ?_)|fail)
   refine T_if rfl (fun h8=>?_) (fun h8=>?_)
   ·simp only [Bool.not_eq_true',decide_eq_false_iff_not] at h8
    have hbad:badL t.l=true:=List.any_eq_true.2 ⟨y,List.mem_of_getElem? hy,by simpa using h8⟩
    rw [if_pos hbad] at hE2
    repeat' (first|refine d1 ?_|(show T _ (.code .ret::_) _ _ _;refine T_retV [] rfl (Hle.none _) ⟨congrArg (Value.int .i64) (by rw [hF,hE2]),rfl⟩))
   simp only [Bool.not_eq_false',decide_eq_true_eq] at h8
   repeat' (first|refine d1 ?_|fail)
   refine T_backX (j+1) ⟨by omega,fun i z hi hz=>?_⟩ (by omega)
   rcases Nat.lt_or_ge i j with h9|h9
   ·exact hall i z h9 hz
   ·rw [show i=j by omega,hy] at hz
    cases hz
    exact h8
  simp only [decide_eq_false_iff_not] at h7
  have hgood:badL t.l=false:=List.any_eq_false.2 fun y hy=>by
   obtain⟨i,hi,e⟩:=List.getElem_of_mem hy
   rw [hall i y (by omega) (by rw [List.getElem?_eq_getElem hi,e])]
   simp
  rw [if_neg (by rw [hgood];simp)] at hE2
  repeat' (first|refine d1 ?_|fail)
  exact T_backX (k+1) ⟨by omega,hE2⟩ (by omega)
 simp only [decide_eq_false_iff_not] at h6
 rw [List.drop_eq_nil_of_le (by rw [List.length_map];omega)] at hE2
 repeat' (first|refine d1 ?_|(show T _ (.code .ret::_) _ _ _;refine T_retV [] rfl (Hle.none _) ⟨congrArg (Value.int .i64) (by rw [hF,hE2];rfl),rfl⟩))
theorem chk22_19 {x:Co} {l:List TS} (hl:∀ t∈l,t.l.length=t.n) (hm:l.map TS.l=x.m) (h:head22 x.sec x.sg x.m=0) (hc:¬ ColsOk (lens l) x.cols):chk22 x=19:=by
 unfold chk22
 rw [if_neg (by rw [h];simp),if_neg (by rw [← hm, ← lens22_of hl];exact hc)]
theorem chk22_0 {x:Co} {l:List TS} (hl:∀ t∈l,t.l.length=t.n) (hm:l.map TS.l=x.m) (h:head22 x.sec x.sg x.m=0) (hc:ColsOk (lens l) x.cols):chk22 x=0:=by
 unfold chk22
 rw [if_neg (by rw [h];simp),if_pos (by rw [← hm, ← lens22_of hl];exact hc)]
theorem chk22_h {x:Co} (h:head22 x.sec x.sg x.m≠0):chk22 x=head22 x.sec x.sg x.m:=if_pos h
theorem HdAt.grp {w:World} {sec:ByteArray} {sg':List ByteArray} {A1 A2:Option Addr} {c1 c2:Nat} {l:List TS} (h:HdAt w sec sg' A1 c1 l A2 c2) (hn:l.length≤32):Grp w A2 l.length l :=
 ⟨h.hst,h.s2,rfl,hn,h.ok,fun t ht=>by have:=(h.tok t ht).1;omega,fun t ht=>(h.tok t ht).2⟩
theorem checkP22_spec (x:Co) (A1:Option Addr) (c1:Nat) (l:List TS) (A2:Option Addr) (c2:Nat) (y3:Value) (w:World) (hx:CoAt w x A1 c1 l A2 c2 y3) :
  Spec Tryz.prog 27 [.agg (coL x.sec (.slice A1 x.sg.length c1) (.slice A2 l.length c2) y3).toArray] w (fun v R=>v = .int .i64 (chk22 x)∧R=[]):=by
 refine spec_of sg Tryz.func27 rfl rfl rfl ?_
 have hm:=hx.m
 repeat' (first|(show T _ (.ops _ (⟨_, .box _ _,_,_,_,_⟩::_)::_) _ _ _;refine T_op (OpT.box (cs:=coL x.sec (.slice A1 x.sg.length c1) (.slice A2 l.length c2) y3) rfl rfl rfl rfl rfl rfl rfl (fun _=>?_)))|refine d1 ?_|(show T _ (.ops _ (_::_)::_) _ _ _;refine T_call rfl rfl rfl rfl rfl (fun w hw=>sources22_spec x.sec x.sg A1 c1 l A2 c2 w (hx.hd.cls hw)) ?_)|fail)
 rw [hm]
 refine T_if rfl (fun h=>?_) (fun h=>?_)
 ·simp only [Bool.not_eq_true',decide_eq_false_iff_not] at h
  repeat' (first|refine d1 ?_|(show T _ (.code .ret::_) _ _ _;refine T_retV [] rfl (Hle.none _) ⟨congrArg (Value.int .i64) (chk22_h h).symm,rfl⟩))
 simp only [Bool.not_eq_false',decide_eq_true_eq] at h
 have hh:=head22_iff.1 h
 have hll:l.length=x.sg.length:=by rw [← hh.len, ← hm,List.length_map]
 have h32:=hh.le
 have hpos:=hh.pos
 repeat' (first|refine d1 ?_|(show T _ (.ops _ (_::_)::_) _ _ _;refine T_call rfl rfl rfl rfl rfl (fun w hw=>check19_spec A2 l.length c2 l y3 x.cols w ((hx.hd.cls hw).grp (by omega)) (hx.cols.old hw)) ?_)|fail)
 refine T_if rfl (fun h2=>?_) (fun h2=>?_)
 ·simp only [Bool.not_eq_true',decide_eq_false_iff_not] at h2
  repeat' (first|refine d1 ?_|(show T _ (.code .ret::_) _ _ _;refine T_retV [] rfl (Hle.none _) ⟨congrArg (Value.int .i64) (chk22_19 hx.hd.ok.len hm h fun hc=>h2 (chkC_ok (by omega) hc)).symm,rfl⟩))
 simp only [Bool.not_eq_false',decide_eq_true_eq] at h2
 repeat' (first|refine d1 ?_|(show T _ (.code .ret::_) _ _ _;refine T_retV [] rfl (Hle.none _) ⟨congrArg (Value.int .i64) (chk22_0 hx.hd.ok.len hm h (Classical.byContradiction fun hc=>by rw [chkC_bad (by omega) hc] at h2;omega)).symm,rfl⟩))
theorem checkR22_spec (x:Co) (A1:Option Addr) (c1:Nat) (l:List TS) (A2:Option Addr) (c2:Nat) (y3:Value) (w:World) (hx:CoAt w x A1 c1 l A2 c2 y3) :
  Spec Tryz.prog 28 [.agg (coL x.sec (.slice A1 x.sg.length c1) (.slice A2 l.length c2) y3).toArray] w (fun v R=>v = .int .i64 (chk22 x)∧R=[]):=by
 have hm:=hx.m
 obtain⟨Ak,ck,csk,rfl,hck1,hck2,hcs,hrows⟩:=hx.cols.tabS
 obtain⟨n1,hn1⟩:∃ n1,x.sg.length=n1:=⟨_,rfl⟩
 obtain⟨n2,hn2⟩:∃ n2,l.length=n2:=⟨_,rfl⟩
 have hsp:∀ w',HdAt w' x.sec x.sg A1 c1 l A2 c2→Spec Tryz.prog 56 [.string x.sec, .slice A1 n1 c1, .slice A2 n2 c2] w' (fun v R=>v = .int .i64 (head22 x.sec x.sg x.m)∧R=[]):=fun w' h'=>by
  have:=headR22_spec x.sec x.sg A1 c1 l A2 c2 w' h'
  rw [hn1,hn2,hm] at this
  exact this
 rw [hn1,hn2]
 refine spec_of sg Tryz.func28 rfl rfl rfl ?_
 refine T_op (OpT.box (cs:=coL x.sec (.slice A1 n1 c1) (.slice A2 n2 c2) (.slice Ak x.cols.length ck)) rfl rfl rfl rfl rfl rfl rfl (fun pc=>?_))
 repeat' (first|refine d1 ?_|(show T _ (.ops _ (_::_)::_) _ _ _;refine T_call rfl rfl rfl rfl rfl (fun w hw=>hsp w (hx.hd.cls hw)) ?_)|fail)
 refine T_if rfl (fun h=>?_) (fun h=>?_)
 ·simp only [Bool.not_eq_true',decide_eq_false_iff_not] at h
  repeat' (first|refine d1 ?_|(show T _ (.code .ret::_) _ _ _;refine T_retV [] rfl (Hle.none _) ⟨congrArg (Value.int .i64) (chk22_h h).symm,rfl⟩))
 simp only [Bool.not_eq_false',decide_eq_true_eq] at h
 have hh:=head22_iff.1 h
 have h12:n2=n1:=by rw [← hn2, ← hn1, ← hh.len, ← hm,List.length_map]
 subst h12
 have hb:=hh.le
 have h0:=hh.pos
 rw [hn1] at hb h0
 have hg:Grp w A2 n2 l:=by have:=hx.hd.grp (by omega);rw [hn2] at this;exact this
 have hbad:∀ (H:¬ ColsOk (lens l) x.cols),chk22 x=19:=fun H=>chk22_19 hx.hd.ok.len hm h H
 have hgood:ColsOk (lens l) x.cols→chk22 x=0:=fun H=>chk22_0 hx.hd.ok.len hm h H
 have hn:l.length=n2:=hn2
 repeat' (first|refine d1 ?_|(show T _ (.ops _ (_::_)::_) _ _ _;refine T_op (OpT.make rfl rfl rfl rfl rfl rfl rfl rfl rfl (by dsimp only;omega) (fun b1=>?_)))|fail)
 have hz:List.replicate n2 (Value.int .i64 0)=valV (fun s=>(atC x.cols 0 0 s:Nat)) n2:=by
  rw [valV_replicate];exact valV_ext fun q _=>by rw [atC_zero];rfl
 refine T_loopX (fun i:Nat=>[(5, .int .i64 i)]) (fun i=>[blk b1 (valV (fun s=>(atC x.cols i 0 s:Nat)) n2) 3,blk pc (coL x.sec (.slice A1 n2 c1) (.slice A2 n2 c2) (.slice Ak x.cols.length ck)) 32]) (fun i=>i≤x.cols.length∧PreOk (lens l) x.cols i 0∧(∀ y∈x.cols.take i,y.length=n2)∧∀ y∈x.cols.take i,∃ z∈y,z ≠ -1) (fun i=>x.cols.length - i) 0 ⟨Nat.zero_le _,PreOk.start _ _,fun y h=>by simp at h,fun y h=>by simp at h⟩ ?_ (hG:=by rw [← hz];exact Hle.refl _)
 rintro i ⟨hi,hpre,hlen,hsome⟩
 repeat' (first|refine d1 ?_|fail)
 refine T_if rfl (fun h1=>?_) (fun h1=>?_)
 ·simp only [decide_eq_true_eq] at h1
  have hin:i<x.cols.length:=by omega
  obtain⟨b,o,rfl⟩:=hcs.base (by omega)
  obtain⟨r,hr⟩:∃ r,x.cols[i]?=some r:=⟨_,List.getElem?_eq_getElem hin⟩
  have hrm:=List.mem_of_getElem? hr
  obtain⟨Au,capu,hu,-,-,hA⟩:=hrows.tabRow hr
  have hr0:=rowHd hcs hin hu
  have hsr:=rowSrc hA
  repeat' (first|refine d1 ?_|fail)
  refine T_if rfl (fun h2=>?_) (fun h2=>?_)
  ·simp only [Bool.not_eq_true',decide_eq_false_iff_not] at h2
   repeat' (first|refine d1 ?_|(show T _ (.code .ret::_) _ _ _;refine T_retV [] rfl (Hle.none _) ⟨by rw [hbad fun hc=>h2 (by have:=hc.len r hrm;rw [lens_len] at this;omega)];rfl,rfl⟩))
  simp only [Bool.not_eq_false',decide_eq_true_eq] at h2
  have hrl:r.length=n2:=by omega
  repeat' (first|refine d1 ?_|fail)
  refine T_loopX (fun k:Nat=>[(8, .int .i64 k),(7, .bool ((r.take k).any fun z=>decide (z ≠ -1)))]) (fun k=>[blk b1 (valV (fun s=>(atC x.cols i k s:Nat)) n2) 3,blk pc (coL x.sec (.slice A1 n2 c1) (.slice A2 n2 c2) (.slice (some ⟨b,o,none⟩) x.cols.length ck)) 32]) (fun k=>k≤n2∧PreOk (lens l) x.cols i k) (fun k=>n2 - k) 0 ⟨Nat.zero_le _,hpre⟩ ?_
  rintro k ⟨hk,hp⟩
  repeat' (first|refine d1 ?_|fail)
  refine T_if rfl (fun h3=>?_) (fun h3=>?_)
  ·simp only [decide_eq_true_eq] at h3
   have hkn:k<n2:=by omega
   obtain⟨bu,ou,rfl⟩:=hsr.base (by omega)
   obtain⟨z,hzk⟩:∃ z,r[k]?=some z:=⟨_,List.getElem?_eq_getElem (by omega)⟩
   have hr1:=src_int hsr (by omega) hzk
   have htk:=take_snoc _ _ _ hzk
   repeat' (first|refine d1 ?_|fail)
   refine T_if rfl (fun h4=>?_) (fun h4=>?_)
   ·simp only [decide_eq_true_eq] at h4
    subst h4
    repeat' (first|refine d1 ?_|fail)
    refine T_backX (k+1) ⟨hkn,hp.gap hr hzk⟩ (by omega) (hE:=⟨rfl,by rw [show ((r.take (k+1)).any fun z=>decide (z ≠ -1))=(r.take k).any fun z=>decide (z ≠ -1) by rw [htk,List.any_append];simp];rfl,trivial⟩) (hG:=?_)
    have e:valV (fun s=>(atC x.cols i (k+1) s:Nat)) n2=valV (fun s=>(atC x.cols i k s:Nat)) n2:=valV_ext fun q _=>by
     by_cases e:q=k
     ·rw [e,atC_gap hr hzk]
     ·rw [atC_other e]
    rw [e]
    exact Hle.refl _
   simp only [decide_eq_false_iff_not] at h4
   obtain⟨bs,os,rfl⟩:=hg.hs.base (by omega)
   obtain⟨t,ht,htm,hrt⟩:=hg.get hkn
   have htb:=hg.nb t htm
   repeat' (first|refine dd ?_|(show T _ (.run _ _ (_::_) _ _::_) _ _ _;refine rv rfl rfl rfl (Val.load rfl (fun hg=>rdOwn1 (b:=b1) (u := .int .i64 (atC x.cols i k k:Nat)) (by rw [show 0+(k:Int).toNat * 1=k by omega];exact valV_get hkn))) rfl rfl rfl ?_)|fail)
   refine T_if rfl (fun h5=>?_) (fun h5=>?_)
   ·simp only [Bool.or_eq_true,Bool.not_eq_true',decide_eq_false_iff_not,decide_eq_true_eq] at h5
    repeat' (first|refine d1 ?_|(show T _ (.code .ret::_) _ _ _;refine T_retV [] rfl (Hle.none _) ⟨by rw [hbad fun hc=>by have:=hp.bad hr hzk h4 (lens_get ht) hc;omega];rfl,rfl⟩))
   simp only [Bool.or_eq_false_iff,Bool.not_eq_false',decide_eq_true_eq,decide_eq_false_iff_not] at h5
   repeat' (first|refine d1 ?_|(show T _ (.ops _ (_::_)::_) _ _ _;first|refine T_val rfl (Val.load rfl (fun hg=>rdOwn1 (b:=b1) (u := .int .i64 (atC x.cols i k k:Nat)) (by rw [show 0+(k:Int).toNat * 1=k by omega];exact valV_get hkn))) rfl rfl rfl ?_|refine T_op (OpT.store rfl rfl rfl rfl (by rw [valV_length];omega) ?_))|fail)
   refine T_backX (k+1) ⟨hkn,hp.tok hr hzk h4 h5.1 (fun m hm=>by rw [lens_get ht] at hm;cases hm;omega)⟩ (by omega) (hE:=⟨rfl,by rw [show ((r.take (k+1)).any fun z=>decide (z ≠ -1))=true by rw [htk,List.any_append];simp [h4]];rfl,trivial⟩) (hG:=?_)
   rw [show 0+(k:Int).toNat * 1=k by omega,valV_put]
   have e:valV (fun s=>(atC x.cols i (k+1) s:Nat)) n2=valV (fun q=>if q=k then (atC x.cols i k k:Int)+1 else (atC x.cols i k q:Nat)) n2:=valV_ext fun q _=>by
    by_cases e:q=k
    ·subst e;rw [if_pos rfl,atC_tok hr hzk h4];rfl
    ·rw [if_neg e,atC_other e]
   rw [e]
   exact Hle.refl _
  ·simp only [decide_eq_false_iff_not] at h3
   obtain rfl:k=n2:=by omega
   rw [List.take_of_length_le (by omega)]
   repeat' (first|refine d1 ?_|fail)
   refine T_if rfl (fun h4=>?_) (fun h4=>?_)
   ·simp only [Bool.not_eq_true'] at h4
    repeat' (first|refine d1 ?_|(show T _ (.code .ret::_) _ _ _;refine T_retV [] rfl (Hle.none _) ⟨by rw [hbad fun hc=>by obtain⟨z,hz1,hz2⟩:=hc.some_ r hrm;rw [List.any_eq_false] at h4;exact h4 z hz1 (by simpa using hz2)];rfl,rfl⟩))
   simp only [Bool.not_eq_false'] at h4
   rw [List.any_eq_true] at h4
   obtain⟨z,hz1,hz2⟩:=h4
   repeat' (first|refine d1 ?_|fail)
   have htk:=take_snoc _ _ _ hr
   refine T_backX (i+1) ⟨hin,PreOk.row (by rw [lens_len,hn];exact hp),fun y hy=>?_,fun y hy=>?_⟩ (by omega) (hG:=?_)
   ·rw [htk,List.mem_append,List.mem_singleton] at hy
    rcases hy with hy|rfl
    ·exact hlen y hy
    ·exact hrl
   ·rw [htk,List.mem_append,List.mem_singleton] at hy
    rcases hy with hy|rfl
    ·exact hsome y hy
    ·exact⟨z,hz1,by simpa using hz2⟩
   ·have e:valV (fun s=>(atC x.cols i k s:Nat)) k=valV (fun s=>(atC x.cols (i+1) 0 s:Nat)) k:=valV_ext fun q hq=>by rw [atC_row hq]
    rw [e]
    exact Hle.refl _
 simp only [decide_eq_false_iff_not] at h1
 obtain rfl:i=x.cols.length:=by omega
 rw [List.take_of_length_le (Nat.le_refl _)] at hlen hsome
 repeat' (first|refine d1 ?_|fail)
 refine T_loopX (fun k:Nat=>[(9, .int .i64 k)]) (fun _=>[blk b1 (valV (fun s=>(atC x.cols x.cols.length 0 s:Nat)) n2) 3,blk pc (coL x.sec (.slice A1 n2 c1) (.slice A2 n2 c2) (.slice Ak x.cols.length ck)) 32]) (fun k=>k≤n2∧∀ s m,s<k→(lens l)[s]?=some m→atC x.cols x.cols.length 0 s=m) (fun k=>n2 - k) 0 ⟨Nat.zero_le _,fun s m h=>by omega⟩ ?_
 rintro k ⟨hk,hall⟩
 repeat' (first|refine d1 ?_|fail)
 refine T_if rfl (fun h3=>?_) (fun h3=>?_)
 ·simp only [decide_eq_true_eq] at h3
  have hkn:k<n2:=by omega
  obtain⟨bs,os,rfl⟩:=hg.hs.base (by omega)
  obtain⟨t,ht,htm,hrt⟩:=hg.get hkn
  repeat' (first|refine dd ?_|(show T _ (.run _ _ (_::_) _ _::_) _ _ _;refine rv rfl rfl rfl (Val.load rfl (fun hg=>rdOwn1 (b:=b1) (u := .int .i64 (atC x.cols x.cols.length 0 k:Nat)) (by rw [show 0+(k:Int).toNat * 1=k by omega];exact valV_get hkn))) rfl rfl rfl ?_)|fail)
  refine T_if rfl (fun h4=>?_) (fun h4=>?_)
  ·simp only [Bool.not_eq_true',decide_eq_false_iff_not] at h4
   repeat' (first|refine d1 ?_|(show T _ (.code .ret::_) _ _ _;refine T_retV [] rfl (Hle.none _) ⟨by rw [hbad fun hc=>h4 (by have h5:=hc.src k t.n (lens_get ht);have h6:=(hpre k t.n (lens_get ht)).1;rw [if_neg (by omega),List.take_of_length_le (Nat.le_refl _),h5] at h6;have:=congrArg List.length h6;rw [upto_len,upto_len] at this;omega)];rfl,rfl⟩))
  simp only [Bool.not_eq_false',decide_eq_true_eq] at h4
  repeat' (first|refine d1 ?_|fail)
  refine T_backX (k+1) ⟨hkn,fun s m hs hm=>?_⟩ (by omega)
  rcases Nat.lt_or_ge s k with h5|h5
  ·exact hall s m h5 hm
  ·rw [show s=k by omega] at hm ⊢
   rw [lens_get ht] at hm
   cases hm
   omega
 ·simp only [decide_eq_false_iff_not] at h3
  have hok:ColsOk (lens l) x.cols:=hpre.all (fun y hy=>by rw [lens_len,hn];exact hlen y hy) hsome fun s m hm=>hall s m (by have:=(List.getElem?_eq_some_iff.1 hm).1;rw [lens_len] at this;omega) hm
  repeat' (first|refine d1 ?_|(show T _ (.code .ret::_) _ _ _;refine T_retV [] rfl (Hle.none _) ⟨by rw [hgood hok];rfl,rfl⟩))
end Go.Proofs.YtblnhdnogjijiaaGreatDoor
namespace Go.Proofs.YtblnhdnogjijiaaGreatDoor
open Go.RowKit Go.Shelf Go.Proofs
set_option maxRecDepth 100000
set_option maxHeartbeats 1000000

theorem greatNames_spec (sec:ByteArray) (sg':List ByteArray) (A1:Option Addr) (c1:Nat) (w:World) (hs:Src w 1 A1 sg'.length (sg'.map Value.string)) (hb:sg'.length≤9223372036854775807) :
  Spec Tryz.prog 49 [.string sec, .slice A1 sg'.length c1] w (fun v R=>v = .bool (grN22 sec sg')∧R=[]):=by
 refine spec_of sg Tryz.func49 rfl rfl rfl ?_
 repeat' (first|refine d1 ?_|fail)
 refine T_loopX (fun k:Nat=>[(5, .int .i64 k)]) (fun _=>[]) (fun k=>k≤sg'.length∧∀ j s,j<k→sg'[j]?=some s→s.size≤20) (fun k=>sg'.length - k) 0 ⟨Nat.zero_le _,fun j s h=>by omega⟩ ?_
 rintro k ⟨hk,hall⟩
 repeat' (first|refine d1 ?_|fail)
 refine T_if rfl (fun h=>?_) (fun h=>?_)
 ·simp only [decide_eq_true_eq] at h
  have hkn:k<sg'.length:=by omega
  obtain⟨b,o,rfl⟩:=hs.base (by omega)
  obtain⟨s,hs9⟩:∃ s,sg'[k]?=some s:=⟨_,List.getElem?_eq_getElem hkn⟩
  have hr:=src_str hs hkn hs9
  repeat' (first|refine d1 ?_|fail)
  refine T_if rfl (fun h2=>?_) (fun h2=>?_)
  ·simp only [decide_eq_true_eq] at h2
   have:sg'.any (fun s=>decide (20<s.size))=true:=List.any_eq_true.2 ⟨s,List.mem_of_getElem? hs9,by simp;omega⟩
   repeat' (first|refine d1 ?_|(show T _ (.code .ret::_) _ _ _;refine T_retV [] rfl (Hle.none _) ⟨congrArg Value.bool (by unfold grN22;rw [this];rfl),rfl⟩))
  simp only [decide_eq_false_iff_not] at h2
  repeat' (first|refine d1 ?_|fail)
  refine T_backX (k+1) ⟨by omega,fun j z hj hz=>?_⟩ (by omega)
  rcases Nat.lt_or_ge j k with h9|h9
  ·exact hall j z h9 hz
  ·rw [show j=k by omega,hs9] at hz
   cases hz
   omega
 simp only [decide_eq_false_iff_not] at h
 have:sg'.any (fun s=>decide (20<s.size))=false:=List.any_eq_false.2 fun y hy=>by
  obtain⟨i,hi,e⟩:=List.getElem_of_mem hy
  have:=hall i y (by omega) (by rw [List.getElem?_eq_getElem hi,e])
  simp;omega
 repeat' (first|refine d1 ?_|(show T _ (.code .ret::_) _ _ _;refine T_retV [] rfl (Hle.none _) ⟨congrArg Value.bool (by unfold grN22;rw [this,Bool.false_or];exact decide_eq_decide.2 (by omega)),rfl⟩))
theorem grL22_step {m:List (List Tok)} {k n:Nat} {l:List Tok} (h:m[k]?=some l):grL22 k n (m.drop k)=((decide (6<l.length) || (decide (4≤k) && decide (1<l.length)) || l.any big22) || grL22 (k+1) (if k<4 then n * (l.length+1) else n) (m.drop (k+1))):=by
 obtain⟨hl,e⟩:=List.getElem?_eq_some_iff.1 h
 rw [List.drop_eq_getElem_cons hl,e]
 rfl
theorem greatTokens_spec (A2:Option Addr) (c2:Nat) (l:List TS) (w:World) (hs:Src w 1 A2 l.length (l.map TS.val)) (hl:TsOk w l) (hb:l.length≤9223372036854775807) :
  Spec Tryz.prog 48 [.slice A2 l.length c2] w (fun v R=>v = .bool (grT22 (l.map TS.l))∧R=[]):=by
 refine spec_of sg Tryz.func48 rfl rfl rfl ?_
 repeat' (first|refine d1 ?_|fail)
 refine T_loopX (fun s:Nat × Nat=>[(4, .int .i64 (s.1:Nat)),(3, .int .i64 (s.2:Nat))]) (fun _=>[]) (fun s=>s.1≤l.length∧grL22 0 1 (l.map TS.l)=grL22 s.1 s.2 ((l.map TS.l).drop s.1)∧s.2 * 7 ^ (4 - s.1)≤2401) (fun s=>l.length - s.1) (0,1) ⟨Nat.zero_le _,by simp,by decide⟩ ?_
 rintro⟨k,n⟩ ⟨hk,hE,hN⟩
 dsimp only at hk hE hN ⊢
 have hn:n≤2401:=Nat.le_trans (Nat.le_mul_of_pos_right n (Nat.pow_pos (by omega))) hN
 repeat' (first|refine d1 ?_|fail)
 refine T_if rfl (fun h=>?_) (fun h=>?_)
 ·simp only [decide_eq_true_eq] at h
  have hkn:k<l.length:=by omega
  obtain⟨b,o,rfl⟩:=hs.base (by omega)
  obtain⟨t,ht⟩:∃ t,l[k]?=some t:=⟨_,List.getElem?_eq_getElem hkn⟩
  have htm:=List.mem_of_getElem? ht
  have htl:=hl.len t htm
  have htb:=hl.bd t htm
  have hts:=hl.src t htm
  have hr:RdC w b (o+(k:Int).toNat * 1) [.slice t.A t.n t.cap]:=by
   have h9:=(hs.get1 (i:=k) hkn (by rw [List.getElem?_map,ht];rfl)).2
   rw [Nat.mul_one] at h9
   rw [off1]
   exact h9
  rw [grL22_step (by rw [List.getElem?_map,ht];rfl)] at hE
  repeat' (first|refine d1 ?_|fail)
  refine T_if rfl (fun h2=>?_) (fun h2=>?_)
  ·have h3:(decide (6<t.l.length) || (decide (4≤k) && decide (1<t.l.length)))=true:=by
    simp only [Bool.or_eq_true,Bool.and_eq_true,decide_eq_true_eq] at h2 ⊢
    omega
   rw [h3,Bool.true_or,Bool.true_or] at hE
   repeat' (first|refine d1 ?_|(show T _ (.code .ret::_) _ _ _;refine T_retV [] rfl (Hle.none _) ⟨congrArg Value.bool (by unfold grT22;rw [hE];rfl),rfl⟩))
  have h3:(decide (6<t.l.length) || (decide (4≤k) && decide (1<t.l.length)))=false:=by
   simp only [Bool.or_eq_false_iff,Bool.and_eq_false_iff,decide_eq_false_iff_not] at h2 ⊢
   omega
  have h6:t.n≤6:=by
   simp only [Bool.or_eq_false_iff,decide_eq_false_iff_not] at h3
   omega
  rw [h3,Bool.false_or] at hE
  repeat' (first|refine d1 ?_|fail)
  refine T_cutX 1 [3] (fun _:Unit=>[(3, .int .i64 ((if k<4 then n * (t.l.length+1) else n:Nat):Nat))]) (fun _=>[]) (fun _=>True) ?_ ?_
  ·refine T_if rfl (fun h4=>?_) (fun h4=>?_)
   ·simp only [decide_eq_true_eq] at h4
    have h5:n * (t.n+1)≤2401 * 7:=Nat.mul_le_mul hn (by omega)
    have h7:(n:Int) * ((t.n:Int)+1)=((n * (t.n+1):Nat):Int):=by push_cast;rfl
    repeat' (first|refine d1 ?_|fail)
    refine T_meetX () trivial (hE:=⟨by rw [if_pos (by omega),htl, ← h7];rfl,trivial⟩)
   ·simp only [decide_eq_false_iff_not] at h4
    skip
    exact T_meetX () trivial (hE:=⟨by rw [if_neg (by omega)];rfl,trivial⟩)
  rintro⟨⟩ -
  repeat' (first|refine d1 ?_|fail)
  refine T_loopX (fun j:Nat=>[(5, .int .i64 j)]) (fun _=>[]) (fun j=>j≤t.n∧∀ i y,i<j→t.l[i]?=some y→big22 y=false) (fun j=>t.n - j) 0 ⟨Nat.zero_le _,fun i y h=>by omega⟩ ?_
  rintro j ⟨hj,hall⟩
  repeat' (first|refine d1 ?_|fail)
  refine T_if rfl (fun h4=>?_) (fun h4=>?_)
  ·simp only [decide_eq_true_eq] at h4
   have hjn:j<t.n:=by omega
   obtain⟨b2,o2,eA⟩:=hts.base (by omega)
   obtain⟨y,hy⟩:∃ y,t.l[j]?=some y:=⟨_,List.getElem?_eq_getElem (by omega)⟩
   have hr2:RdC w b2 (o2+(j:Int).toNat * 6) y.cells:=by have:=hts.getT hjn hy;rw [eA] at this;exact this
   rw [eA] at hr
   repeat' (first|refine d1 ?_|(show ∀ _:Nat,T _ _ _ _ _;intro _))
   refine T_if rfl (fun h5=>?_) (fun h5=>?_)
   ·have hbig:big22 y=true:=by
     simp only [Bool.or_eq_true,decide_eq_true_eq] at h5
     simp only [big22,Bool.or_eq_true,decide_eq_true_eq]
     omega
    rw [List.any_eq_true.2 ⟨y,List.mem_of_getElem? hy,hbig⟩,Bool.true_or] at hE
    repeat' (first|refine d1 ?_|(show T _ (.code .ret::_) _ _ _;refine T_retV [] rfl (Hle.none _) ⟨congrArg Value.bool (by unfold grT22;rw [hE];rfl),rfl⟩))
   have hbig:big22 y=false:=by
    simp only [Bool.or_eq_false_iff,decide_eq_false_iff_not] at h5
    simp only [big22,Bool.or_eq_false_iff,decide_eq_false_iff_not]
    omega
   repeat' (first|refine d1 ?_|fail)
   refine T_backX (j+1) ⟨by omega,fun i z hi hz=>?_⟩ (by omega)
   rcases Nat.lt_or_ge i j with h9|h9
   ·exact hall i z h9 hz
   ·rw [show i=j by omega,hy] at hz
    cases hz
    exact hbig
  simp only [decide_eq_false_iff_not] at h4
  have hgood:t.l.any big22=false:=List.any_eq_false.2 fun y hy=>by
   obtain⟨i,hi,e⟩:=List.getElem_of_mem hy
   rw [hall i y (by omega) (by rw [List.getElem?_eq_getElem hi,e])]
   simp
  rw [hgood,Bool.false_or] at hE
  repeat' (first|refine d1 ?_|fail)
  refine T_backX (k+1,if k<4 then n * (t.l.length+1) else n) ⟨by dsimp only;omega,hE,?_⟩ (by dsimp only;omega)
  show (if k<4 then n * (t.l.length+1) else n) * 7 ^ (4 - (k+1))≤2401
  by_cases h7:k<4
  ·rw [if_pos h7]
   rw [show 4 - k=(4 - (k+1))+1 by omega,Nat.pow_succ] at hN
   have h8:n * (t.l.length+1) * 7 ^ (4 - (k+1))≤n * 7 * 7 ^ (4 - (k+1)):=Nat.mul_le_mul_right _ (Nat.mul_le_mul_left _ (by omega))
   have e9:n * 7 * 7 ^ (4 - (k+1))=n * (7 ^ (4 - (k+1)) * 7):=by rw [Nat.mul_assoc,Nat.mul_comm 7]
   rw [e9] at h8
   exact Nat.le_trans h8 hN
  ·rw [if_neg h7,show 4 - (k+1)=4 - k by omega]
   exact hN
 simp only [decide_eq_false_iff_not] at h
 rw [List.drop_eq_nil_of_le (by rw [List.length_map];omega)] at hE
 have hE2:grL22 0 1 (l.map TS.l)=decide (400<n):=hE
 repeat' (first|refine d1 ?_|(show T _ (.code .ret::_) _ _ _;refine T_retV [] rfl (Hle.none _) ⟨congrArg Value.bool ?_,rfl⟩))
 unfold grT22
 rw [hE2,List.length_map,Bool.eq_iff_iff]
 simp only [Bool.or_eq_true,Bool.and_eq_true,decide_eq_true_eq]
 omega
theorem great22_spec (x:Co) (A1:Option Addr) (c1:Nat) (l:List TS) (A2:Option Addr) (c2:Nat) (y3:Value) (w:World) (hs1:Src w 1 A1 x.sg.length (x.sg.map Value.string)) (hb1:x.sg.length≤9223372036854775807)
  (hs2:Src w 1 A2 l.length (l.map TS.val)) (hl:TsOk w l) (hb2:l.length≤9223372036854775807) (hm:l.map TS.l=x.m) (hc:Rd (wr w) [y3] [rowsD x.cols]) :
  Spec Tryz.prog 20 [.agg (coL x.sec (.slice A1 x.sg.length c1) (.slice A2 l.length c2) y3).toArray] w (fun v R=>v = .bool (great22 x)∧R=[]):=by
 obtain⟨Ak,ck,csk,rfl,hck1,hck2,hcs,hrows⟩:=hc.tabS
 refine spec_of sg Tryz.func20 rfl rfl rfl ?_
 refine T_op (OpT.box (cs:=coL x.sec (.slice A1 x.sg.length c1) (.slice A2 l.length c2) (.slice Ak x.cols.length ck)) rfl rfl rfl rfl rfl rfl rfl (fun pc=>?_))
 repeat' (first|refine d1 ?_|fail)
 refine T_loopX (fun k:Nat=>[(3, .int .i64 k)]) (fun _=>[blk pc (coL x.sec (.slice A1 x.sg.length c1) (.slice A2 l.length c2) (.slice Ak x.cols.length ck)) 32]) (fun k=>k≤x.cols.length∧∀ j c,j<k→x.cols[j]?=some c→c.length≤36) (fun k=>x.cols.length - k) 0 ⟨Nat.zero_le _,fun j s h=>by omega⟩ ?_
 rintro k ⟨hk,hall⟩
 repeat' (first|refine d1 ?_|fail)
 refine T_if rfl (fun h=>?_) (fun h=>?_)
 ·simp only [decide_eq_true_eq] at h
  have hkn:k<x.cols.length:=by omega
  obtain⟨b,o,rfl⟩:=hcs.base (by omega)
  obtain⟨r,hr⟩:∃ r,x.cols[k]?=some r:=⟨_,List.getElem?_eq_getElem hkn⟩
  obtain⟨Au,capu,hu,-,-,hA⟩:=hrows.tabRow hr
  have hr0:=rowHd hcs hkn hu
  repeat' (first|refine d1 ?_|fail)
  refine T_if rfl (fun h2=>?_) (fun h2=>?_)
  ·simp only [decide_eq_true_eq] at h2
   have:x.cols.any (fun c=>decide (36<c.length))=true:=List.any_eq_true.2 ⟨r,List.mem_of_getElem? hr,by simp;omega⟩
   repeat' (first|refine d1 ?_|(show T _ (.code .ret::_) _ _ _;refine T_retV [] rfl (Hle.none _) ⟨congrArg Value.bool (by unfold great22;rw [this];rfl),rfl⟩))
  simp only [decide_eq_false_iff_not] at h2
  repeat' (first|refine d1 ?_|fail)
  refine T_backX (k+1) ⟨by omega,fun j z hj hz=>?_⟩ (by omega)
  rcases Nat.lt_or_ge j k with h9|h9
  ·exact hall j z h9 hz
  ·rw [show j=k by omega,hr] at hz
   cases hz
   omega
 simp only [decide_eq_false_iff_not] at h
 have:x.cols.any (fun s=>decide (36<s.length))=false:=List.any_eq_false.2 fun y hy=>by
  obtain⟨i,hi,e⟩:=List.getElem_of_mem hy
  have:=hall i y (by omega) (by rw [List.getElem?_eq_getElem hi,e])
  simp;omega
 repeat' (first|refine d1 ?_|(show T _ (.ops _ (_::_)::_) _ _ _;first|refine T_call rfl rfl rfl rfl rfl (fun w hw=>greatTokens_spec A2 c2 l w (rdSrc hs2 w hw) ⟨fun t ht=>src_below (hl.src t ht) hw.below,hl.len,hl.bd⟩ hb2) ?_|refine T_callC rfl rfl rfl rfl rfl rfl rfl (fun hg w hw=>greatNames_spec x.sec x.sg A1 c1 w (rdSrc hs1 w hw) hb1) ?_)|(show T _ (.code .ret::_) _ _ _;refine T_retV [] rfl (Hle.none _) ⟨congrArg Value.bool ?_,rfl⟩))
 rw [hm]
 unfold great22
 rw [this,show decide ((24:Int)<(x.cols.length:Nat))=decide (24<x.cols.length) from decide_eq_decide.2 (by omega),show decide ((36:Int)<(x.sg.length:Nat))=decide (36<x.sg.length) from decide_eq_decide.2 (by omega),Bool.false_or,Bool.or_assoc,Bool.or_assoc]
end Go.Proofs.YtblnhdnogjijiaaGreatDoor
namespace Go.Proofs.YtblnhdnogjijiaaGreatDoor
open Go.RowKit Go.Shelf Go.Proofs
set_option maxRecDepth 100000
set_option maxHeartbeats 1000000

theorem CoAt.row {w:World} {x:Co} {A1 A2:Option Addr} {c1 c2:Nat} {l:List TS} {y3:Value} (hx:CoAt w x A1 c1 l A2 c2 y3) (hok:Ok22 x):l.length=x.sg.length∧x.sg.length≤32∧1≤x.sg.length:=⟨by rw [← hok.head.len, ← hx.m,List.length_map],hok.head.le,hok.head.pos⟩
theorem CoAt.entry {w:World} {x:Co} {A1 A2:Option Addr} {c1 c2:Nat} {l:List TS} {y3:Value} (hx:CoAt w x A1 c1 l A2 c2 y3) (hok:Ok22 x) {i k:Nat} {r:List Int} (hr:x.cols[i]?=some r) (hk:k<x.sg.length) :
  r.length=x.sg.length∧∃ t z,l[k]?=some t∧r[k]?=some z ∧ -1≤z∧z<(t.n:Int)∧cell22 x k i=txt22 t.l z∧t.l.length=t.n:=by
 obtain⟨h1,h2,h3⟩:=hx.row hok
 have hm:=hx.m
 obtain⟨t,ht⟩:∃ t,l[k]?=some t:=⟨_,List.getElem?_eq_getElem (by omega)⟩
 have htl:=hx.hd.ok.len t (List.mem_of_getElem? ht)
 have hmk:x.m[k]?=some t.l:=by rw [← hm,List.getElem?_map,ht];rfl
 have hls:(lens22 x.m)[k]?=some t.n:=by unfold lens22;rw [List.getElem?_map,hmk, ← htl];rfl
 have hrl:r.length=x.sg.length:=by rw [hok.cols.len r (List.mem_of_getElem? hr)];unfold lens22;rw [List.length_map];exact hok.head.len
 obtain⟨z,hz⟩:∃ z,r[k]?=some z:=⟨_,List.getElem?_eq_getElem (by omega)⟩
 obtain⟨e1,e2⟩:=hok.cols.entry (List.mem_of_getElem? hr) hls hz
 refine ⟨hrl,t,z,ht,hz,e1,e2,?_,htl⟩
 unfold cell22
 rw [List.getD_eq_getElem?_getD,hmk,List.getD_eq_getElem?_getD,List.getD_eq_getElem?_getD,hr,Option.getD_some,Option.getD_some,hz,Option.getD_some]
def pre22 (l:List ByteArray) (n k:Nat):List Value:=(List.range n).map fun q => .string (if q<k then l.getD q ByteArray.empty else ByteArray.empty)
theorem pre22_len (l:List ByteArray) (n k:Nat):(pre22 l n k).length=n:=by simp [pre22]
theorem pre22_zero (l:List ByteArray) (n:Nat):List.replicate n (Value.string ByteArray.empty)=pre22 l n 0:=by
 unfold pre22
 refine List.ext_getElem? fun j=>?_
 rw [List.getElem?_map,List.getElem?_replicate]
 by_cases hj:j<n
 ·rw [List.getElem?_range hj,if_pos hj,Option.map_some,if_neg (by omega)]
 ·rw [List.getElem?_eq_none (by rw [List.length_range];omega),if_neg hj];rfl
theorem pre22_set {l:List ByteArray} {n k:Nat} (h:k<n):(pre22 l n k).set k (.string (l.getD k ByteArray.empty))=pre22 l n (k+1):=by
 refine List.ext_getElem? fun j=>?_
 unfold pre22
 rw [List.getElem?_set,List.getElem?_map,List.getElem?_map,List.length_map,List.length_range]
 by_cases hj:j<n
 ·rw [List.getElem?_range hj,Option.map_some,Option.map_some]
  by_cases e:k=j
  ·subst e
   rw [if_pos rfl,if_pos h,if_pos (by omega)]
  ·rw [if_neg e]
   by_cases h2:j<k
   ·rw [if_pos h2,if_pos (by omega)]
   ·rw [if_neg h2,if_neg (by omega)]
 ·rw [if_neg (by omega),List.getElem?_eq_none (by rw [List.length_range];omega)]
  rfl
theorem pre22_gap {l:List ByteArray} {n k:Nat} (h:l.getD k ByteArray.empty=ByteArray.empty):pre22 l n k=pre22 l n (k+1):=by
 unfold pre22
 refine List.map_congr_left fun q _=>?_
 by_cases h1:q<k
 ·rw [if_pos h1,if_pos (by omega)]
 ·by_cases h2:q=k
  ·subst h2;rw [if_neg h1,if_pos (by omega),h]
  ·rw [if_neg h1,if_neg (by omega)]
theorem pre22_all (l:List ByteArray):pre22 l l.length l.length=l.map Value.string:=by
 unfold pre22
 refine List.ext_getElem? fun j=>?_
 rw [List.getElem?_map,List.getElem?_map]
 by_cases hj:j<l.length
 ·rw [List.getElem?_range hj,Option.map_some,if_pos hj,List.getD_eq_getElem?_getD,List.getElem?_eq_getElem hj];rfl
 ·rw [List.getElem?_eq_none (by rw [List.length_range];omega),List.getElem?_eq_none (by omega)];rfl
theorem column22_spec (x:Co) (A1:Option Addr) (c1:Nat) (l:List TS) (A2:Option Addr) (c2:Nat) (y3:Value) (i:Nat) (w:World) (hx:CoAt w x A1 c1 l A2 c2 y3) (hok:Ok22 x) (hi:i<x.cols.length) :
  Spec Tryz.prog 64 [.agg (coL x.sec (.slice A1 x.sg.length c1) (.slice A2 l.length c2) y3).toArray, .int .i64 (i:Nat)] w (fun v R=>∃ b:Nat,True∧v = .slice (some ⟨b,0,none⟩) x.sg.length x.sg.length∧R=[blk b ((col22 x i).map Value.string) 9]):=by
 obtain⟨Ak,ck,csk,rfl,hck1,hck2,hcs,hrows⟩:=hx.cols.tabS
 obtain⟨h1,h2,h3⟩:=hx.row hok
 obtain⟨bk3,ok3,rfl⟩:=hcs.base (by omega)
 obtain⟨r,hr⟩:∃ r,x.cols[i]?=some r:=⟨_,List.getElem?_eq_getElem hi⟩
 obtain⟨Au,capu,hu,-,-,hA⟩:=hrows.tabRow hr
 have hr0:=rowHd hcs hi hu
 have hsr:=rowSrc hA
 have hrl:=(hx.entry hok hr (k:=0) (by omega)).1
 obtain⟨n,hn⟩:∃ n,x.sg.length=n:=⟨_,rfl⟩
 have hcl:(col22 x i).length=n:=by rw [col22_len];exact hn
 have hS:Spec Tryz.prog 64 [.agg (coL x.sec (.slice A1 n c1) (.slice A2 l.length c2) (.slice (some ⟨bk3,ok3,none⟩) x.cols.length ck)).toArray, .int .i64 (i:Nat)] w (fun v R=>∃ b:Nat,True∧v = .slice (some ⟨b,0,none⟩) n n∧R=[blk b ((col22 x i).map Value.string) 9]):=by
  refine spec_of sg Tryz.func64 rfl rfl rfl ?_
  refine T_op (OpT.box (cs:=coL x.sec (.slice A1 n c1) (.slice A2 l.length c2) (.slice (some ⟨bk3,ok3,none⟩) x.cols.length ck)) rfl rfl rfl rfl rfl rfl rfl (fun pc=>?_))
  repeat' (first|refine d1 ?_|(show T _ (.ops _ (_::_)::_) _ _ _;refine T_op (OpT.make rfl rfl rfl rfl rfl rfl rfl rfl rfl (by dsimp only;omega) (fun b1=>?_)))|fail)
  have hz:List.replicate n (Value.string ByteArray.empty)=pre22 (col22 x i) n 0:=pre22_zero _ _
  refine T_loopX (fun k:Nat=>[(18, .int .i64 k)]) (fun k=>[blk b1 (pre22 (col22 x i) n k) 9,blk pc (coL x.sec (.slice A1 n c1) (.slice A2 l.length c2) (.slice (some ⟨bk3,ok3,none⟩) x.cols.length ck)) 32]) (fun k=>k≤n) (fun k=>n - k) 0 (Nat.zero_le _) ?_ (hG:=by rw [← hz];exact Hle.refl _)
  intro k hk
  repeat' (first|refine d1 ?_|fail)
  refine T_if rfl (fun h=>?_) (fun h=>?_)
  ·simp only [decide_eq_true_eq] at h
   have hkn:k<n:=by omega
   obtain⟨-,t,z,ht,hz,g1,g2,g3,g4⟩:=hx.entry hok hr (k:=k) (by omega)
   obtain⟨bu,ou,rfl⟩:=hsr.base (by omega)
   have hr1:=src_int hsr (by omega) hz
   have hcg:(col22 x i).getD k ByteArray.empty=txt22 t.l z:=by rw [List.getD_eq_getElem?_getD,col22_get (by omega),Option.getD_some,g3]
   repeat' (first|refine d1 ?_|fail)
   refine T_if rfl (fun h4=>?_) (fun h4=>?_)
   ·simp only [decide_eq_true_eq] at h4
    obtain⟨p,rfl⟩:=Int.eq_ofNat_of_zero_le h4
    obtain⟨y,hy⟩:∃ y,t.l[p]?=some y:=⟨_,List.getElem?_eq_getElem (by omega)⟩
    obtain⟨b2,o2,rfl⟩:=hx.hd.s2.base (by omega)
    have hrt:=hx.hd.hdr ht
    have hts:=hx.hd.ok.src t (List.mem_of_getElem? ht)
    obtain⟨b4,o4,eA⟩:=hts.base (by omega)
    rw [eA] at hrt
    have hr2:RdC w b4 (o4+(p:Int).toNat * 6) y.cells:=by have:=hts.getT (k:=p) (by omega) hy;rw [eA] at this;exact this
    rw [txt22_get hy] at hcg
    repeat' (first|refine d1 ?_|(show T _ (.ops _ (_::_)::_) _ _ _;refine T_op (OpT.store rfl rfl rfl rfl (by rw [pre22_len];omega) ?_))|fail)
    refine T_backX (k+1) hkn (by omega) (hG:=?_)
    rw [show 0+(k:Int).toNat * 1=k by omega, ← hcg,pre22_set hkn]
    exact Hle.refl _
   ·simp only [decide_eq_false_iff_not] at h4
    repeat' (first|refine d1 ?_|fail)
    refine T_backX (k+1) hkn (by omega) (hG:=?_)
    rw [← pre22_gap (by rw [hcg,txt22_neg22 _ (by omega)])]
    exact Hle.refl _
  ·simp only [decide_eq_false_iff_not] at h
   obtain rfl:k=n:=by omega
   have e:pre22 (col22 x i) k k=(col22 x i).map Value.string:=by rw [← hcl];exact pre22_all _
   rw [e]
   repeat' (first|refine d1 ?_|(show T _ (.code .ret::_) _ _ _;refine T_retV _ rfl Hle.sub ⟨b1,trivial,rfl,rfl⟩))
 rw [hn]
 exact hS
end Go.Proofs.YtblnhdnogjijiaaGreatDoor
namespace Go.Proofs.YtblnhdnogjijiaaGreatDoor
open Go.RowKit Go.Shelf Go.Proofs
set_option maxRecDepth 100000
set_option maxHeartbeats 1000000

end Go.Proofs.YtblnhdnogjijiaaGreatDoor
namespace Go.Proofs.YtblnhdnogjijiaaGreatDoor
open Go.RowKit Go.Shelf Go.Proofs
set_option maxRecDepth 100000
set_option maxHeartbeats 1000000

theorem sameStr22_spec (x y:Value) (p q:List ByteArray) (w:World) (hx:Rd (wr w) [x] [strsD p]) (hy:Rd (wr w) [y] [strsD q]) :
  Spec Tryz.prog 60 [x,y] w (fun v R=>v = .bool (decide (p=q))∧R=[]):=by
 obtain⟨A,ca,rfl,hnc,hnb,hl⟩:=hx.strs
 obtain⟨B,cb,rfl,hmc,hmb,hb⟩:=hy.strs
 refine spec_of sg Tryz.func60 rfl rfl rfl ?_
 repeat' (first|refine d1 ?_|fail)
 refine T_if rfl (fun h=>?_) (fun h=>?_)
 ·simp only [Bool.not_eq_true',decide_eq_false_iff_not] at h
  repeat' (first|refine d1 ?_|(show T _ (.code .ret::_) _ _ _;refine T_retV [] rfl (Hle.none _) ⟨?_,rfl⟩))
  rw [decide_eq_false (fun e=>h (by rw [e]))];rfl
 simp only [Bool.not_eq_false',decide_eq_true_eq] at h
 repeat' (first|refine d1 ?_|fail)
 refine T_loopX (fun k:Nat=>[(5, .int .i64 k)]) (fun _=>[]) (fun k=>k≤p.length∧∀ j,j<k→p[j]?=q[j]?) (fun k=>p.length - k) 0 ⟨by omega,fun j h=>by omega⟩ ?_
 rintro k ⟨hk,hok⟩
 repeat' (first|refine d1 ?_|fail)
 refine T_if rfl (fun h3=>?_) (fun h3=>?_)
 ·simp only [decide_eq_true_eq] at h3
  have hkn:k<p.length:=by omega
  have hkq:k<q.length:=by omega
  obtain⟨ba,oa,rfl⟩:=hl.base (by omega)
  obtain⟨bb,ob,rfl⟩:=hb.base (by omega)
  obtain⟨u,hu⟩:∃ u,p[k]?=some u:=⟨_,List.getElem?_eq_getElem hkn⟩
  obtain⟨v,hv⟩:∃ v,q[k]?=some v:=⟨_,List.getElem?_eq_getElem hkq⟩
  have hr1:RdC w ba (oa+(k:Int).toNat * 1) [.string u]:=(hl.get1 (by omega) (by rw [Int.toNat_natCast,List.getElem?_map,hu];rfl)).2
  have hr2:RdC w bb (ob+(k:Int).toNat * 1) [.string v]:=(hb.get1 (by omega) (by rw [Int.toNat_natCast,List.getElem?_map,hv];rfl)).2
  repeat' (first|refine dd ?_|fail)
  refine T_if rfl (fun h4=>?_) (fun h4=>?_)
  ·simp only [Bool.not_eq_true',decide_eq_false_iff_not] at h4
   repeat' (first|refine d1 ?_|(show T _ (.code .ret::_) _ _ _;refine T_retV [] rfl (Hle.none _) ⟨?_,rfl⟩))
   rw [decide_eq_false (fun e=>h4 (by rw [e,hv] at hu;exact (Option.some.inj hu).symm))];rfl
  ·simp only [Bool.not_eq_false',decide_eq_true_eq] at h4
   repeat' (first|refine d1 ?_|fail)
   refine T_backX (k+1) ⟨by omega,fun j hj=>?_⟩ (by omega)
   rcases Nat.lt_or_ge j k with h5|h5
   ·exact hok j h5
   ·rw [show j=k by omega,hu,hv,h4]
 ·simp only [decide_eq_false_iff_not] at h3
  repeat' (first|refine d1 ?_|(show T _ (.code .ret::_) _ _ _;refine T_retV [] rfl (Hle.none _) ⟨?_,rfl⟩))
  rw [decide_eq_true (list_eq_of (by omega) fun j hj=>hok j (by omega))];rfl
theorem sameCols22_spec (x y:Value) (a b:List (List Int)) (w:World) (hx:Rd (wr w) [x] [rowsD a]) (hy:Rd (wr w) [y] [rowsD b]) :
  Spec Tryz.prog 61 [x,y] w (fun v R=>v = .bool (decide (a=b))∧R=[]):=by
 obtain⟨A,ca,cs,rfl,ha1,ha2,hcs,hA,hrA⟩:=hx.tab
 obtain⟨B,cb,ds,rfl,hb1,hb2,hds,hB,hrB⟩:=hy.tab
 refine spec_of sg Tryz.func61 rfl rfl rfl ?_
 repeat' (first|refine d1 ?_|fail)
 refine T_if rfl (fun h=>?_) (fun h=>?_)
 ·simp only [Bool.not_eq_true',decide_eq_false_iff_not] at h
  repeat' (first|refine d1 ?_|(show T _ (.code .ret::_) _ _ _;refine T_retV [] rfl (Hle.none _) ⟨?_,rfl⟩))
  rw [decide_eq_false (fun e=>h (by rw [e]))];rfl
 simp only [Bool.not_eq_false',decide_eq_true_eq] at h
 repeat' (first|refine d1 ?_|fail)
 refine T_loopX (fun k:Nat=>[(5, .int .i64 k)]) (fun _=>[]) (fun k=>k≤a.length∧∀ j,j<k→a[j]?=b[j]?) (fun k=>a.length - k) 0 ⟨by omega,fun j h=>by omega⟩ ?_
 rintro k ⟨hk,hok⟩
 repeat' (first|refine d1 ?_|fail)
 refine T_if rfl (fun h3=>?_) (fun h3=>?_)
 ·simp only [decide_eq_true_eq] at h3
  obtain⟨b1,o1,rfl,hA2⟩:=hA (by omega)
  obtain⟨b2,o2,rfl,hB2⟩:=hB (by omega)
  obtain⟨p,hp⟩:∃ u,a[k]?=some u:=⟨_,List.getElem?_eq_getElem (by omega)⟩
  obtain⟨q,hq⟩:∃ v,b[k]?=some v:=⟨_,List.getElem?_eq_getElem (by omega)⟩
  obtain⟨A',capA,hcA,hlA,hmA,hA3⟩:=hrA.tabRow hp
  obtain⟨B',capB,hcB,hlB,hmB,hB3⟩:=hrB.tabRow hq
  have hr1:RdC w b1 (o1+(k:Int).toNat * 1) [.slice A' p.length capA]:=RdC.one (by rw [off1];exact hA2 k _ hcA)
  have hr2:RdC w b2 (o2+(k:Int).toNat * 1) [.slice B' q.length capB]:=RdC.one (by rw [off1];exact hB2 k _ hcB)
  repeat' (first|refine dd ?_|fail)
  refine T_if rfl (fun h4=>?_) (fun h4=>?_)
  ·simp only [Bool.not_eq_true',decide_eq_false_iff_not] at h4
   repeat' (first|refine d1 ?_|(show T _ (.code .ret::_) _ _ _;refine T_retV [] rfl (Hle.none _) ⟨?_,rfl⟩))
   rw [decide_eq_false (fun e=>h4 (by rw [e,hq] at hp;rw [Option.some.inj hp]))];rfl
  simp only [Bool.not_eq_false',decide_eq_true_eq] at h4
  repeat' (first|refine d1 ?_|fail)
  refine T_loopX (fun i:Nat=>[(6, .int .i64 i)]) (fun _=>[]) (fun i=>i≤p.length∧∀ j,j<i→p[j]?=q[j]?) (fun i=>p.length - i) 0 ⟨by omega,fun j h=>by omega⟩ ?_
  rintro i ⟨hi,hoki⟩
  repeat' (first|refine d1 ?_|fail)
  refine T_if rfl (fun h5=>?_) (fun h5=>?_)
  ·simp only [decide_eq_true_eq] at h5
   obtain⟨b3,o3,rfl,hA4⟩:=hA3 (by omega)
   obtain⟨b4,o4,rfl,hB4⟩:=hB3 (by omega)
   obtain⟨u,hu⟩:∃ u,p[i]?=some u:=⟨_,List.getElem?_eq_getElem (by omega)⟩
   obtain⟨v,hv⟩:∃ v,q[i]?=some v:=⟨_,List.getElem?_eq_getElem (by omega)⟩
   have hr3:RdC w b3 (o3+(i:Int).toNat * 1) [.int .i64 u]:=RdC.one (by rw [off1];exact hA4 i _ hu)
   have hr4:RdC w b4 (o4+(i:Int).toNat * 1) [.int .i64 v]:=RdC.one (by rw [off1];exact hB4 i _ hv)
   repeat' (first|refine dd ?_|fail)
   refine T_if rfl (fun h6=>?_) (fun h6=>?_)
   ·simp only [Bool.not_eq_true',decide_eq_false_iff_not] at h6
    repeat' (first|refine d1 ?_|(show T _ (.code .ret::_) _ _ _;refine T_retV [] rfl (Hle.none _) ⟨?_,rfl⟩))
    rw [decide_eq_false (fun e=>h6 (by rw [e,hq] at hp;rw [Option.some.inj hp,hu] at hv;exact Option.some.inj hv))];rfl
   ·simp only [Bool.not_eq_false',decide_eq_true_eq] at h6
    repeat' (first|refine d1 ?_|fail)
    refine T_backX (i+1) ⟨by omega,fun j hj=>?_⟩ (by omega)
    rcases Nat.lt_or_ge j i with h7|h7
    ·exact hoki j h7
    ·rw [show j=i by omega,hu,hv,h6]
  ·simp only [decide_eq_false_iff_not] at h5
   repeat' (first|refine d1 ?_|fail)
   refine T_backX (k+1) ⟨by omega,fun j hj=>?_⟩ (by omega)
   rcases Nat.lt_or_ge j k with h7|h7
   ·exact hok j h7
   ·rw [show j=k by omega,hp,hq,list_eq_of (by omega) fun j hj=>hoki j (by omega)]
 ·simp only [decide_eq_false_iff_not] at h3
  repeat' (first|refine d1 ?_|(show T _ (.code .ret::_) _ _ _;refine T_retV [] rfl (Hle.none _) ⟨?_,rfl⟩))
  rw [decide_eq_true (list_eq_of (by omega) fun j hj=>hok j (by omega))];rfl
theorem sameToks22_spec (A B:Option Addr) (ca cb:Nat) (a b:List TS) (w:World) (ha:Src w 1 A a.length (a.map TS.val)) (hal:TsOk w a) (han:a.length≤9223372036854775807) (hb:Src w 1 B b.length (b.map TS.val)) (hbl:TsOk w b) (hbn:b.length≤9223372036854775807) :
  Spec Tryz.prog 31 [.slice A a.length ca, .slice B b.length cb] w (fun v R=>v = .bool (decide (a.map TS.l=b.map TS.l))∧R=[]):=by
 refine spec_of sg Tryz.func31 rfl rfl rfl ?_
 repeat' (first|refine d1 ?_|fail)
 refine T_if rfl (fun h=>?_) (fun h=>?_)
 ·simp only [Bool.not_eq_true',decide_eq_false_iff_not] at h
  repeat' (first|refine d1 ?_|(show T _ (.code .ret::_) _ _ _;refine T_retV [] rfl (Hle.none _) ⟨?_,rfl⟩))
  rw [decide_eq_false (fun e=>h (by have:=congrArg List.length e;rw [List.length_map,List.length_map] at this;omega))];rfl
 simp only [Bool.not_eq_false',decide_eq_true_eq] at h
 repeat' (first|refine d1 ?_|fail)
 refine T_loopX (fun k:Nat=>[(5, .int .i64 k)]) (fun _=>[]) (fun k=>k≤a.length∧∀ j,j<k→(a.map TS.l)[j]?=(b.map TS.l)[j]?) (fun k=>a.length - k) 0 ⟨by omega,fun j h=>by omega⟩ ?_
 rintro k ⟨hk,hok⟩
 repeat' (first|refine d1 ?_|fail)
 refine T_if rfl (fun h3=>?_) (fun h3=>?_)
 ·simp only [decide_eq_true_eq] at h3
  obtain⟨b1,o1,rfl⟩:=ha.base (by omega)
  obtain⟨b2,o2,rfl⟩:=hb.base (by omega)
  obtain⟨p,hp⟩:∃ u,a[k]?=some u:=⟨_,List.getElem?_eq_getElem (by omega)⟩
  obtain⟨q,hq⟩:∃ v,b[k]?=some v:=⟨_,List.getElem?_eq_getElem (by omega)⟩
  have hp2:(a.map TS.l)[k]?=some p.l:=by rw [List.getElem?_map,hp];rfl
  have hq2:(b.map TS.l)[k]?=some q.l:=by rw [List.getElem?_map,hq];rfl
  have hpm:=List.mem_of_getElem? hp
  have hqm:=List.mem_of_getElem? hq
  have hpl:=hal.len p hpm
  have hql:=hbl.len q hqm
  have hpb:=hal.bd p hpm
  have hqb:=hbl.bd q hqm
  have hps:=hal.src p hpm
  have hqs:=hbl.src q hqm
  have hr1:RdC w b1 (o1+(k:Int).toNat * 1) [.slice p.A p.n p.cap]:=by
   have h9:=(ha.get1 (i:=k) (by omega) (by rw [List.getElem?_map,hp];rfl)).2
   rw [Nat.mul_one] at h9
   rw [off1]
   exact h9
  have hr2:RdC w b2 (o2+(k:Int).toNat * 1) [.slice q.A q.n q.cap]:=by
   have h9:=(hb.get1 (i:=k) (by omega) (by rw [List.getElem?_map,hq];rfl)).2
   rw [Nat.mul_one] at h9
   rw [off1]
   exact h9
  repeat' (first|refine dd ?_|fail)
  refine T_if rfl (fun h4=>?_) (fun h4=>?_)
  ·simp only [Bool.not_eq_true',decide_eq_false_iff_not] at h4
   repeat' (first|refine d1 ?_|(show T _ (.code .ret::_) _ _ _;refine T_retV [] rfl (Hle.none _) ⟨?_,rfl⟩))
   rw [decide_eq_false (fun e=>h4 (by rw [e,hq2] at hp2;rw [← hpl, ← hql,Option.some.inj hp2]))];rfl
  simp only [Bool.not_eq_false',decide_eq_true_eq] at h4
  repeat' (first|refine d1 ?_|fail)
  refine T_loopX (fun i:Nat=>[(6, .int .i64 i)]) (fun _=>[]) (fun i=>i≤p.n∧∀ j,j<i→p.l[j]?=q.l[j]?) (fun i=>p.n - i) 0 ⟨by omega,fun j h=>by omega⟩ ?_
  rintro i ⟨hi,hoki⟩
  repeat' (first|refine d1 ?_|fail)
  refine T_if rfl (fun h5=>?_) (fun h5=>?_)
  ·simp only [decide_eq_true_eq] at h5
   obtain⟨b3,o3,eA⟩:=hps.base (by omega)
   obtain⟨b4,o4,eB⟩:=hqs.base (by omega)
   obtain⟨u,hu⟩:∃ u,p.l[i]?=some u:=⟨_,List.getElem?_eq_getElem (by omega)⟩
   obtain⟨v,hv⟩:∃ v,q.l[i]?=some v:=⟨_,List.getElem?_eq_getElem (by omega)⟩
   have hr3:RdC w b3 (o3+(i:Int).toNat * 6) u.cells:=by have:=hps.getT (k:=i) (by omega) hu;rw [eA] at this;exact this
   have hr4:RdC w b4 (o4+(i:Int).toNat * 6) v.cells:=by have:=hqs.getT (k:=i) (by omega) hv;rw [eB] at this;exact this
   rw [eA] at hr1
   rw [eB] at hr2
   repeat' (first|refine dd ?_|(show T _ (.run _ _ (_::_) _ _::_) _ _ _;refine rv rfl rfl rfl (Val.eqS (r:=decide (u=v)) rfl (fun w=>eqTok u v w) Tryz.eqGuardType42) rfl rfl rfl ?_)|fail)
   refine T_if rfl (fun h6=>?_) (fun h6=>?_)
   ·have h6:decide (u=v)=false:=by simpa using h6
    rw [decide_eq_false_iff_not] at h6
    repeat' (first|refine d1 ?_|(show T _ (.code .ret::_) _ _ _;refine T_retV [] rfl (Hle.none _) ⟨?_,rfl⟩))
    rw [decide_eq_false (fun e=>h6 (by rw [e,hq2] at hp2;rw [← Option.some.inj hp2,hv] at hu;exact (Option.some.inj hu).symm))];rfl
   ·have h6:decide (u=v)=true:=by simpa using h6
    rw [decide_eq_true_eq] at h6
    repeat' (first|refine d1 ?_|fail)
    refine T_backX (i+1) ⟨by omega,fun j hj=>?_⟩ (by omega)
    rcases Nat.lt_or_ge j i with h7|h7
    ·exact hoki j h7
    ·rw [show j=i by omega,hu,hv,h6]
  ·simp only [decide_eq_false_iff_not] at h5
   repeat' (first|refine d1 ?_|fail)
   refine T_backX (k+1) ⟨by omega,fun j hj=>?_⟩ (by omega)
   rcases Nat.lt_or_ge j k with h7|h7
   ·exact hok j h7
   ·rw [show j=k by omega,hp2,hq2,list_eq_of (by omega) fun j hj=>hoki j (by omega)]
 ·simp only [decide_eq_false_iff_not] at h3
  repeat' (first|refine d1 ?_|(show T _ (.code .ret::_) _ _ _;refine T_retV [] rfl (Hle.none _) ⟨?_,rfl⟩))
  rw [decide_eq_true (list_eq_of (by rw [List.length_map,List.length_map];omega) fun j hj=>hok j (by rw [List.length_map] at hj;omega))];rfl
structure CoSm (w:World) (x:Co) (A1:Option Addr) (c1:Nat) (l:List TS) (A2:Option Addr) (c2:Nat) (y3:Value):Prop where
 s1:Rd (wr w) [.slice A1 x.sg.length c1] [strsD x.sg]
 s2:Src w 1 A2 l.length (l.map TS.val)
 b2:l.length≤9223372036854775807
 ok:TsOk w l
 m:l.map TS.l=x.m
 cols:Rd (wr w) [y3] [rowsD x.cols]
theorem CoSm.cls {w0 w:World} {H:List HA} {x:Co} {A1 A2:Option Addr} {c1 c2:Nat} {l:List TS} {y3:Value} (h:CoSm w0 x A1 c1 l A2 c2 y3) (hw:Cls w0 w H):CoSm w x A1 c1 l A2 c2 y3:=⟨h.s1.old hw,h.s2.old hw,h.b2,⟨fun t ht=>src_below (h.ok.src t ht) hw.below,h.ok.len,h.ok.bd⟩,h.m,h.cols.old hw⟩
theorem sameR22_spec (x y:Co) (A1 B1:Option Addr) (c1 d1':Nat) (l k:List TS) (A2 B2:Option Addr) (c2 d2:Nat) (y3 z3:Value) (w:World) (hx:CoSm w x A1 c1 l A2 c2 y3) (hy:CoSm w y B1 d1' k B2 d2 z3) :
  Spec Tryz.prog 16 [.agg (coL x.sec (.slice A1 x.sg.length c1) (.slice A2 l.length c2) y3).toArray, .agg (coL y.sec (.slice B1 y.sg.length d1') (.slice B2 k.length d2) z3).toArray] w (fun v R=>v = .bool (same22 x y)∧R=[]):=by
 refine spec_of sg Tryz.func16 rfl rfl rfl ?_
 refine T_op (OpT.box (cs:=coL x.sec (.slice A1 x.sg.length c1) (.slice A2 l.length c2) y3) rfl rfl rfl rfl rfl rfl rfl (fun pc=>?_))
 refine T_op (OpT.box (cs:=coL y.sec (.slice B1 y.sg.length d1') (.slice B2 k.length d2) z3) rfl rfl rfl rfl rfl rfl rfl (fun pd=>?_))
 have hmx:=hx.m
 have hmy:=hy.m
 repeat' (first|refine d1 ?_|(show T _ (.ops _ (_::_)::_) _ _ _;first|refine T_callC rfl rfl rfl rfl rfl rfl rfl (fun hg w hw=>sameStr22_spec _ _ x.sg y.sg w ((hx.cls hw).s1) ((hy.cls hw).s1)) ?_|refine T_callC rfl rfl rfl rfl rfl rfl rfl (fun hg w hw=>sameToks22_spec A2 B2 c2 d2 l k w ((hx.cls hw).s2) ((hx.cls hw).ok) hx.b2 ((hy.cls hw).s2) ((hy.cls hw).ok) hy.b2) ?_|refine T_callC rfl rfl rfl rfl rfl rfl rfl (fun hg w hw=>sameCols22_spec _ _ x.cols y.cols w ((hx.cls hw).cols) ((hy.cls hw).cols)) ?_)|(show T _ (.code .ret::_) _ _ _;refine T_retV [] rfl (Hle.none _) ⟨congrArg Value.bool ?_,rfl⟩))
 rw [hmx,hmy]
 unfold same22
 cases decide (x.sec=y.sec) <;> cases decide (x.sg=y.sg) <;> cases decide (x.m=y.m) <;> rfl
end Go.Proofs.YtblnhdnogjijiaaGreatDoor
namespace Go.Proofs.YtblnhdnogjijiaaGreatDoor
open Go.RowKit Go.Shelf Go.Proofs
set_option maxRecDepth 100000
set_option maxHeartbeats 1000000

theorem eqFuncT_spec (A B:Option Addr) (ca cb:Nat) (a b:List TS) (w:World) (ha:Src w 1 A a.length (a.map TS.val)) (hal:TsOk w a) (han:a.length≤9223372036854775807) (hb:Src w 1 B b.length (b.map TS.val)) (hbl:TsOk w b) (hbn:b.length≤9223372036854775807) :
  Spec Tryz.prog 74 [.slice A a.length ca, .slice B b.length cb, .func (.func 75) #[] #[]] w (fun v R=>v = .bool (decide (a.map TS.l=b.map TS.l))∧R=[]):=by
 refine spec_of sg Tryz.func74 rfl rfl rfl ?_
 repeat' (first|refine d1 ?_|fail)
 refine T_if rfl (fun h=>?_) (fun h=>?_)
 ·simp only [Bool.not_eq_true',decide_eq_false_iff_not] at h
  repeat' (first|refine d1 ?_|(show T _ (.code .ret::_) _ _ _;refine T_retV [] rfl (Hle.none _) ⟨?_,rfl⟩))
  rw [decide_eq_false (fun e=>h (by have:=congrArg List.length e;rw [List.length_map,List.length_map] at this;omega))];rfl
 simp only [Bool.not_eq_false',decide_eq_true_eq] at h
 repeat' (first|refine d1 ?_|fail)
 refine T_loopX (fun k:Nat=>[(17, .int .i64 k)]) (fun _=>[]) (fun k=>k≤a.length∧∀ j,j<k→(a.map TS.l)[j]?=(b.map TS.l)[j]?) (fun k=>a.length - k) 0 ⟨by omega,fun j h=>by omega⟩ ?_
 rintro k ⟨hk,hok⟩
 repeat' (first|refine d1 ?_|fail)
 refine T_if rfl (fun h3=>?_) (fun h3=>?_)
 ·simp only [decide_eq_true_eq] at h3
  obtain⟨b1,o1,rfl⟩:=ha.base (by omega)
  obtain⟨b2,o2,rfl⟩:=hb.base (by omega)
  obtain⟨p,hp⟩:∃ u,a[k]?=some u:=⟨_,List.getElem?_eq_getElem (by omega)⟩
  obtain⟨q,hq⟩:∃ v,b[k]?=some v:=⟨_,List.getElem?_eq_getElem (by omega)⟩
  have hp2:(a.map TS.l)[k]?=some p.l:=by rw [List.getElem?_map,hp];rfl
  have hq2:(b.map TS.l)[k]?=some q.l:=by rw [List.getElem?_map,hq];rfl
  have hpm:=List.mem_of_getElem? hp
  have hqm:=List.mem_of_getElem? hq
  have hpl:=hal.len p hpm
  have hql:=hbl.len q hqm
  have hpb:=hal.bd p hpm
  have hqb:=hbl.bd q hqm
  have hps:=hal.src p hpm
  have hqs:=hbl.src q hqm
  have hr1:RdC w b1 (o1+(k:Int).toNat * 1) [.slice p.A p.n p.cap]:=by
   have h9:=(ha.get1 (i:=k) (by omega) (by rw [List.getElem?_map,hp];rfl)).2
   rw [Nat.mul_one] at h9
   rw [off1]
   exact h9
  have hr2:RdC w b2 (o2+(k:Int).toNat * 1) [.slice q.A q.n q.cap]:=by
   have h9:=(hb.get1 (i:=k) (by omega) (by rw [List.getElem?_map,hq];rfl)).2
   rw [Nat.mul_one] at h9
   rw [off1]
   exact h9
  repeat' (first|refine d1 ?_|(show T _ (.ops _ (_::_)::_) _ _ _;refine T_call rfl rfl rfl rfl rfl (fun w hw=>equalTok_spec p.A q.A p.n q.n p.cap q.cap p.l q.l w (rdSrc hps w hw) hpl hpb (rdSrc hqs w hw) hql hqb) ?_)|fail)
  refine T_if rfl (fun h4=>?_) (fun h4=>?_)
  ·simp only [Bool.not_eq_true',decide_eq_false_iff_not] at h4
   repeat' (first|refine d1 ?_|(show T _ (.code .ret::_) _ _ _;refine T_retV [] rfl (Hle.none _) ⟨?_,rfl⟩))
   rw [decide_eq_false (fun e=>h4 (by rw [e,hq2] at hp2;rw [Option.some.inj hp2]))];rfl
  simp only [Bool.not_eq_false',decide_eq_true_eq] at h4
  repeat' (first|refine d1 ?_|fail)
  refine T_backX (k+1) ⟨by omega,fun j hj=>?_⟩ (by omega)
  rcases Nat.lt_or_ge j k with h7|h7
  ·exact hok j h7
  ·rw [show j=k by omega,hp2,hq2,h4]
 ·simp only [decide_eq_false_iff_not] at h3
  repeat' (first|refine d1 ?_|(show T _ (.code .ret::_) _ _ _;refine T_retV [] rfl (Hle.none _) ⟨?_,rfl⟩))
  rw [decide_eq_true (list_eq_of (by rw [List.length_map,List.length_map];omega) fun j hj=>hok j (by rw [List.length_map] at hj;omega))];rfl
theorem eqFuncC_spec (x y:Value) (a b:List (List Int)) (w:World) (hx:Rd (wr w) [x] [rowsD a]) (hy:Rd (wr w) [y] [rowsD b]) :
  Spec Tryz.prog 76 [x,y, .func (.func 77) #[] #[]] w (fun v R=>v = .bool (decide (a=b))∧R=[]):=by
 obtain⟨A,ca,cs,rfl,ha1,ha2,hcs,hA,hrA⟩:=hx.tab
 obtain⟨B,cb,ds,rfl,hb1,hb2,hds,hB,hrB⟩:=hy.tab
 refine spec_of sg Tryz.func76 rfl rfl rfl ?_
 repeat' (first|refine d1 ?_|fail)
 refine T_if rfl (fun h=>?_) (fun h=>?_)
 ·simp only [Bool.not_eq_true',decide_eq_false_iff_not] at h
  repeat' (first|refine d1 ?_|(show T _ (.code .ret::_) _ _ _;refine T_retV [] rfl (Hle.none _) ⟨?_,rfl⟩))
  rw [decide_eq_false (fun e=>h (by rw [e]))];rfl
 simp only [Bool.not_eq_false',decide_eq_true_eq] at h
 repeat' (first|refine d1 ?_|fail)
 refine T_loopX (fun k:Nat=>[(17, .int .i64 k)]) (fun _=>[]) (fun k=>k≤a.length∧∀ j,j<k→a[j]?=b[j]?) (fun k=>a.length - k) 0 ⟨by omega,fun j h=>by omega⟩ ?_
 rintro k ⟨hk,hok⟩
 repeat' (first|refine d1 ?_|fail)
 refine T_if rfl (fun h3=>?_) (fun h3=>?_)
 ·simp only [decide_eq_true_eq] at h3
  obtain⟨b1,o1,rfl,hA2⟩:=hA (by omega)
  obtain⟨b2,o2,rfl,hB2⟩:=hB (by omega)
  obtain⟨p,hp⟩:∃ u,a[k]?=some u:=⟨_,List.getElem?_eq_getElem (by omega)⟩
  obtain⟨q,hq⟩:∃ v,b[k]?=some v:=⟨_,List.getElem?_eq_getElem (by omega)⟩
  obtain⟨A',capA,hcA,hlA,hmA,hA3⟩:=hrA.tabRow hp
  obtain⟨B',capB,hcB,hlB,hmB,hB3⟩:=hrB.tabRow hq
  have hr1:RdC w b1 (o1+(k:Int).toNat * 1) [.slice A' p.length capA]:=RdC.one (by rw [off1];exact hA2 k _ hcA)
  have hr2:RdC w b2 (o2+(k:Int).toNat * 1) [.slice B' q.length capB]:=RdC.one (by rw [off1];exact hB2 k _ hcB)
  have hq1:Rd (wr w) [.slice A' p.length capA] [intsD p]:=by
   obtain⟨u,hu,hru⟩:=hrA.get (i:=k) (d:=intsD p) (by rw [List.getElem?_map,hp];rfl)
   rw [hcA] at hu
   cases hu
   exact hru
  have hq2:Rd (wr w) [.slice B' q.length capB] [intsD q]:=by
   obtain⟨u,hu,hru⟩:=hrB.get (i:=k) (d:=intsD q) (by rw [List.getElem?_map,hq];rfl)
   rw [hcB] at hu
   cases hu
   exact hru
  repeat' (first|refine d1 ?_|(show T _ (.ops _ (_::_)::_) _ _ _;refine T_call rfl rfl rfl rfl rfl (fun w hw=>equalI_spec _ _ p q w (hq1.old hw) (hq2.old hw)) ?_)|fail)
  refine T_if rfl (fun h4=>?_) (fun h4=>?_)
  ·simp only [Bool.not_eq_true',decide_eq_false_iff_not] at h4
   repeat' (first|refine d1 ?_|(show T _ (.code .ret::_) _ _ _;refine T_retV [] rfl (Hle.none _) ⟨?_,rfl⟩))
   rw [decide_eq_false (fun e=>h4 (by rw [e,hq] at hp;exact (Option.some.inj hp).symm))];rfl
  simp only [Bool.not_eq_false',decide_eq_true_eq] at h4
  repeat' (first|refine d1 ?_|fail)
  refine T_backX (k+1) ⟨by omega,fun j hj=>?_⟩ (by omega)
  rcases Nat.lt_or_ge j k with h7|h7
  ·exact hok j h7
  ·rw [show j=k by omega,hp,hq,h4]
 ·simp only [decide_eq_false_iff_not] at h3
  repeat' (first|refine d1 ?_|(show T _ (.code .ret::_) _ _ _;refine T_retV [] rfl (Hle.none _) ⟨?_,rfl⟩))
  rw [decide_eq_true (list_eq_of (by omega) fun j hj=>hok j (by omega))];rfl
theorem sameP22_spec (x y:Co) (A1 B1:Option Addr) (c1 d1':Nat) (l k:List TS) (A2 B2:Option Addr) (c2 d2:Nat) (y3 z3:Value) (w:World) (hx:CoSm w x A1 c1 l A2 c2 y3) (hy:CoSm w y B1 d1' k B2 d2 z3) :
  Spec Tryz.prog 37 [.agg (coL x.sec (.slice A1 x.sg.length c1) (.slice A2 l.length c2) y3).toArray, .agg (coL y.sec (.slice B1 y.sg.length d1') (.slice B2 k.length d2) z3).toArray] w (fun v R=>v = .bool (same22 x y)∧R=[]):=by
 refine spec_of sg Tryz.func37 rfl rfl rfl ?_
 refine T_op (OpT.box (cs:=coL x.sec (.slice A1 x.sg.length c1) (.slice A2 l.length c2) y3) rfl rfl rfl rfl rfl rfl rfl (fun pc=>?_))
 refine T_op (OpT.box (cs:=coL y.sec (.slice B1 y.sg.length d1') (.slice B2 k.length d2) z3) rfl rfl rfl rfl rfl rfl rfl (fun pd=>?_))
 have hmx:=hx.m
 have hmy:=hy.m
 repeat' (first|refine d1 ?_|(show T _ (.ops _ (_::_)::_) _ _ _;first|refine T_callC rfl rfl rfl rfl rfl rfl rfl (fun hg w hw=>equalStr_spec _ _ x.sg y.sg w ((hx.cls hw).s1) ((hy.cls hw).s1)) ?_|refine T_callC rfl rfl rfl rfl rfl rfl rfl (fun hg w hw=>eqFuncT_spec A2 B2 c2 d2 l k w ((hx.cls hw).s2) ((hx.cls hw).ok) hx.b2 ((hy.cls hw).s2) ((hy.cls hw).ok) hy.b2) ?_|refine T_callC rfl rfl rfl rfl rfl rfl rfl (fun hg w hw=>eqFuncC_spec _ _ x.cols y.cols w ((hx.cls hw).cols) ((hy.cls hw).cols)) ?_)|(show T _ (.code .ret::_) _ _ _;refine T_retV [] rfl (Hle.none _) ⟨congrArg Value.bool ?_,rfl⟩))
 rw [hmx,hmy]
 unfold same22
 cases decide (x.sec=y.sec) <;> cases decide (x.sg=y.sg) <;> cases decide (x.m=y.m) <;> rfl
end Go.Proofs.YtblnhdnogjijiaaGreatDoor
namespace Go.Proofs.YtblnhdnogjijiaaGreatDoor
open Go.RowKit Go.Shelf Go.Proofs
set_option maxRecDepth 100000
set_option maxHeartbeats 1000000

theorem co_join {p:Frag} {y3:Value} {cols:List (List Int)} {A1 A2:Option Addr} {c1 c2 n m:Nat} {sg':List ByteArray} {cs:List Value} {H:List HA} (hp:Rd (fr p) [y3] [rowsD cols]) :
  Hle (fz p::row 38 1 A2 c2 m cs::row 9 1 A1 c1 n (sg'.map Value.string)::H) (dat [.slice A1 n c1, .slice A2 m c2,y3] [strsD sg', .s 1 (cs.map .v),rowsD cols]::H):=by
 refine (hle_map (fz_dat hp)).trans ?_
 refine (Hle.perm (List.Perm.swap _ _ _)).trans ?_
 refine dat_rowV.trans ?_
 refine (Hle.perm (List.Perm.swap _ _ _)).trans ?_
 refine dat_join.trans ?_
 refine (Hle.perm (List.Perm.swap _ _ _)).trans ?_
 refine dat_rowV.trans ?_
 refine (Hle.perm (List.Perm.swap _ _ _)).trans ?_
 exact dat_join
theorem co_nil (H:List HA):Hle H (dat [.slice none 0 0, .slice none 0 0, .slice none 0 0] [strsD [], .s 1 (([]:List Value).map .v),rowsD []]::H) :=
 hle_unit (Rd.s none 0 0 1 [] rfl (Nat.le_refl _) (by omega) (fun h=>absurd h (by omega)) .nil (Rd.s none 0 0 1 [] rfl (Nat.le_refl _) (by omega) (fun h=>absurd h (by omega)) .nil (Rd.s none 0 0 1 [] rfl (Nat.le_refl _) (by omega) (fun h=>absurd h (by omega)) .nil .nil)))
theorem co_nil1 (H:List HA):Hle H [dat [.slice none 0 0, .slice none 0 0, .slice none 0 0] [strsD [], .s 1 (([]:List Value).map .v),rowsD []]]:=(co_nil H).trans (Hle.nth 0 rfl)
def resP22 (x:Co) (l:List TS) (e:Int) (v:Value) (R:List HA):Prop :=
 ∃ y:(Option Addr × Nat) × (Option Addr × Nat) × Value,True∧v = .tuple #[.agg (coL x.sec (.slice y.1.1 x.sg.length y.1.2) (.slice y.2.1.1 l.length y.2.1.2) y.2.2).toArray, .int .i64 e]∧R=[dat [.slice y.1.1 x.sg.length y.1.2, .slice y.2.1.1 l.length y.2.1.2,y.2.2] [strsD x.sg, .s 1 ((l.map TS.val).map .v),rowsD x.cols]]
def resR22 (x:Co) (e:Int) (v:Value) (R:List HA):Prop :=
 ∃ y:(Option Addr × Nat) × (Option Addr × Nat) × Value,True∧v = .tuple #[.agg (coL x.sec (.slice y.1.1 x.sg.length y.1.2) (.slice y.2.1.1 x.m.length y.2.1.2) y.2.2).toArray, .int .i64 e]∧R=[dat [.slice y.1.1 x.sg.length y.1.2, .slice y.2.1.1 x.m.length y.2.1.2,y.2.2] [strsD x.sg, .s 1 (x.m.map toksD),rowsD x.cols]]
theorem ofP22 {p:Frag} {x:Co} {l:List TS} {A1 A2:Option Addr} {c1 c2:Nat} {y3:Value} (hp:Rd (fr p) [.slice A1 x.sg.length c1, .slice A2 l.length c2,y3] [strsD x.sg, .s 1 ((l.map TS.val).map .v),rowsD x.cols]) (hm:l.map TS.l=x.m)
  {w0 w:World} {H:List HA} [FocusZ H p] (hw:Cls w0 w H) (hl:TsOk w l):CoSm w x A1 c1 l A2 c2 y3:=by
 obtain⟨k1,k2⟩:=hp.cons_inv
 obtain⟨k2,k3⟩:=k2.cons_inv
 obtain⟨A,n,cap,e,g1,g2,g3,g4⟩:=(k2.own hw).srcV
 cases e
 exact⟨k1.own hw,g4,by omega,hl,hm,k3.own hw⟩
theorem ofR22 {p:Frag} {x:Co} {A1 A2:Option Addr} {c1 c2:Nat} {y3:Value} (hp:Rd (fr p) [.slice A1 x.sg.length c1, .slice A2 x.m.length c2,y3] [strsD x.sg, .s 1 (x.m.map toksD),rowsD x.cols]) :
  ∃ l:List TS,l.length=x.m.length∧l.map TS.l=x.m∧∀ {w0 w:World} {H:List HA} [FocusZ H p],Cls w0 w H→CoSm w x A1 c1 l A2 c2 y3:=by
 obtain⟨k1,k2⟩:=hp.cons_inv
 obtain⟨k2,k3⟩:=k2.cons_inv
 obtain⟨A,cap,l,e,g1,g2,g3,g4⟩:=k2.toksF
 injection e with e1 e2 e3
 subst e1
 subst e3
 have hl:l.length=x.m.length:=by rw [← g2,List.length_map]
 exact⟨l,hl,g2,fun hw=>⟨k1.own hw,(g4 hw).1,g1,(g4 hw).2,g2,k3.own hw⟩⟩
theorem vol_7:∀ {l:List TS},(∀ t∈l,t.n≤6)→volL (lens l)≤7 ^ l.length
 | [],_=>Nat.le_refl _
 | t::l,h=>by
  have h1:=vol_7 (l:=l) fun x hx=>h x (List.mem_cons_of_mem _ hx)
  have h2:=h t (List.mem_cons_self ..)
  show (t.n+1) * volL (lens l)≤7 ^ (l.length+1)
  rw [Nat.pow_succ,Nat.mul_comm]
  exact Nat.mul_le_mul h1 (by omega)
theorem size22_spec (A:Option Addr) (n ca:Nat) (l:List TS) (w:World) (hg:Grp w A n l) (h1:1≤n) (h6:n≤6) (ht:∀ t∈l,t.n≤6) :
  Spec Tryz.prog 55 [.slice A n ca] w (fun v R=>v = .tuple #[.int .i64 (volL (lens l):Nat), .int .i64 0]∧R=[]):=by
 have hn:=hg.hn
 have hv:=vol_7 ht
 have hv2:7 ^ l.length≤7 ^ 6:=Nat.pow_le_pow_right (by omega) (by omega)
 have ec:capV (volL (lens l)) 1073741824=volL (lens l):=if_pos (by omega)
 refine spec_of sg Tryz.func55 rfl rfl rfl ?_
 repeat' (first|refine d1 ?_|(show T _ (.ops _ (_::_)::_) _ _ _;refine T_call rfl rfl rfl rfl rfl (fun w hw=>srcs19_spec A n ca l w (hg.cls hw)) ?_)|fail)
 rw [if_neg (by omega)]
 refine T_if rfl (fun h=>by exfalso;simp at h) (fun _=>?_)
 repeat' (first|refine d1 ?_|(show T _ (.ops _ (_::_)::_) _ _ _;refine T_call rfl rfl rfl rfl rfl (fun w hw=>size19_spec A n ca l 1073741824 w (hg.cls hw) ⟨by omega,by omega⟩) ?_)|fail)
 rw [ec]
 refine T_if rfl (fun h=>by exfalso;simp at h;omega) (fun _=>?_)
 repeat' (first|refine d1 ?_|(show T _ (.code .ret::_) _ _ _;refine T_retV [] rfl (Hle.none _) ⟨rfl,rfl⟩))
noncomputable def colsC22 (c:Costs) (l:List TS):List (List Int):=if l.length≤4 then alnW c l else alnP c l
noncomputable def made22 (c:Costs) (sec:ByteArray) (sg':List ByteArray) (l:List TS):Co × Int :=
 if costE c≠0 then (co0,1) else if head22 sec sg' (l.map TS.l)≠0 then (co0,head22 sec sg' (l.map TS.l)) else (⟨sec,sg',l.map TS.l,colsC22 c l⟩,0)
noncomputable def toks22 (c:Costs) (sec:ByteArray) (sg':List ByteArray) (l:List TS):List TS:=if costE c≠0 then [] else if head22 sec sg' (l.map TS.l)≠0 then [] else l
theorem made22_facts {c:Costs} {sec:ByteArray} {sg':List ByteArray} {l:List TS} (hc:costE c=0) (hh:head22 sec sg' (l.map TS.l)=0) (hln:∀ t∈l,t.l.length=t.n) (h6:∀ t∈l,t.n≤6) :
  1≤l.length∧l.length=sg'.length∧ck21 c l=0∧(l.length≤4→aln19 c l=(alnW c l,lstV c l,0))∧alnA c l=(alnP c l,0)∧ColsOk (lens l) (colsC22 c l)∧made22 c sec sg' l=(⟨sec,sg',l.map TS.l,colsC22 c l⟩,0)∧toks22 c sec sg' l=l:=by
 obtain⟨g1,g2,g3,g4,g5,g6,g7⟩:=head22_iff.1 hh
 have hl:l.length=sg'.length:=by rw [← g6,List.length_map]
 have hbs:badS l=false:=List.any_eq_false.2 fun t ht=>by rw [(g7 t.l (List.mem_map.2 ⟨t,ht,rfl⟩)).2];simp
 have hck:ck21 c l=0:=if_pos ⟨hc,hbs⟩
 have hus:usV c l=0:=by unfold usV;rw [if_neg (by omega),hck]
 have hv:=vol_7 h6
 refine ⟨by omega,hl,hck,fun h4=>?_,if_pos hck,?_,?_,?_⟩
 ·have hv2:7 ^ l.length≤7 ^ 4:=Nat.pow_le_pow_right (by omega) h4
  unfold aln19
  rw [if_neg (by rw [hus];simp),if_neg (by omega)]
 ·unfold colsC22
  split
  ·exact (alnW_ok hc (by omega) (by omega)).1
  ·exact alnP_ok hck hln fun t ht=>by have:=h6 t ht;have:=hln t ht;omega
 ·unfold made22
  rw [if_neg (by rw [hc];simp),if_neg (by rw [hh];simp)]
 ·unfold toks22
  rw [if_neg (by rw [hc];simp),if_neg (by rw [hh];simp)]
theorem collateP22_spec (c:Costs) (sec:ByteArray) (sg':List ByteArray) (A1:Option Addr) (c1:Nat) (l:List TS) (A2:Option Addr) (c2:Nat) (w:World) (hh:HdAt w sec sg' A1 c1 l A2 c2) (hl6:l.length≤6∨32<l.length) :
  Spec Tryz.prog 14 [c.val, .string sec, .slice A1 sg'.length c1, .slice A2 l.length c2] w (resP22 (made22 c sec sg' l).1 (toks22 c sec sg' l) (made22 c sec sg' l).2):=by
 refine spec_of sg Tryz.func14 rfl rfl rfl ?_
 refine T_op (OpT.box (cs:=c.cells) rfl rfl rfl rfl rfl rfl rfl (fun pc=>?_))
 repeat' (first|refine d1 ?_|(show T _ (.ops _ (_::_)::_) _ _ _;refine T_call rfl rfl rfl rfl rfl (fun w hw=>costPrg_spec c w) ?_)|(show ∀ _:Nat,T _ _ _ _ _;intro _))
 rename_i pr
 refine T_if rfl (fun h=>?_) (fun h=>?_)
 ·have hc:costE c≠0:=by simpa using h
  have e1:made22 c sec sg' l=(co0,1):=if_pos hc
  have e2:toks22 c sec sg' l=[]:=if_pos hc
  rw [e1,e2]
  repeat' (first|refine d1 ?_|fail)
  exact T_retM (vs:=[.agg (coL ByteArray.empty (.slice none 0 0) (.slice none 0 0) (.slice none 0 0)).toArray, .int .i64 1]) _ ⟨⟨pr,_,coL ByteArray.empty (.slice none 0 0) (.slice none 0 0) (.slice none 0 0),rfl,rfl,rfl,rfl,(fun h=>by cases h),rfl,rdAll⟩,rfl,trivial⟩ (co_nil1 _) ⟨((none,0),(none,0), .slice none 0 0),trivial,rfl,rfl⟩
 have hc:costE c=0:=by simpa using h
 repeat' (first|refine d1 ?_|(show T _ (.ops _ (_::_)::_) _ _ _;refine T_call rfl rfl rfl rfl rfl (fun w hw=>sources22_spec sec sg' A1 c1 l A2 c2 w (hh.cls hw)) ?_)|fail)
 refine T_if rfl (fun h2=>?_) (fun h2=>?_)
 ·have hd:head22 sec sg' (l.map TS.l)≠0:=by simpa using h2
  have e1:made22 c sec sg' l=(co0,head22 sec sg' (l.map TS.l)):=by unfold made22;rw [if_neg (by rw [hc];simp),if_pos hd]
  have e2:toks22 c sec sg' l=[]:=by unfold toks22;rw [if_neg (by rw [hc];simp),if_pos hd]
  rw [e1,e2]
  repeat' (first|refine d1 ?_|fail)
  exact T_retM (vs:=[.agg (coL ByteArray.empty (.slice none 0 0) (.slice none 0 0) (.slice none 0 0)).toArray, .int .i64 (head22 sec sg' (l.map TS.l))]) _ ⟨⟨pr,_,coL ByteArray.empty (.slice none 0 0) (.slice none 0 0) (.slice none 0 0),rfl,rfl,rfl,rfl,(fun h=>by cases h),rfl,rdAll⟩,rfl,trivial⟩ (co_nil1 _) ⟨((none,0),(none,0), .slice none 0 0),trivial,rfl,rfl⟩
 have hd:head22 sec sg' (l.map TS.l)=0:=by simpa using h2
 obtain⟨f1,f2,f3,f4,f5,f6,f7,f8⟩:=made22_facts hc hd hh.ok.len (fun t ht=>(hh.tok t ht).1)
 have hle:=(head22_iff.1 hd).le
 have hg:Grp w A2 l.length l:=hh.grp (by omega)
 have h6:l.length≤6:=by omega
 have ht6:∀ t∈l,t.n≤6:=fun t ht=>(hh.tok t ht).1
 have hv:=vol_7 ht6
 rw [f7,f8]
 repeat' (first|refine d1 ?_|(show T _ (.ops _ (_::_)::_) _ _ _;first|refine T_callE rfl rfl rfl rfl rfl (fun w hw=>cloneStr_spec A1 sg'.length c1 sg' w (rdSrc hh.s1 w hw) (by omega)) (fun x1 _=>?_)|refine T_callE rfl rfl rfl rfl rfl (fun w hw=>cloneS_spec A2 l.length c2 l w (rdSrc hh.s2 w hw) (by omega)) (fun x2 _=>?_)|refine T_call rfl rfl rfl rfl rfl (fun w hw=>size22_spec A2 l.length c2 l w (hg.cls hw) f1 h6 ht6) ?_)|(show ∀ _:Nat,T _ _ _ _ _;intro _))
 rename_i pt
 refine T_if rfl (fun h4=>?_) (fun h4=>?_)
 ·have hb:l.length≤4:=by simp only [Bool.and_eq_true,decide_eq_true_eq] at h4;omega
  have eC:colsC22 c l=alnW c l:=if_pos hb
  rw [eC]
  repeat' (first|refine d1 ?_|(show T _ (.ops _ (_::_)::_) _ _ _;refine T_op (OpT.call rfl rfl rfl rfl rfl (fun w hw=>align19_spec c A2 l.length c2 l w (hg.cls hw)) ?_))|fail)
  rintro v R ⟨y,-,rfl,rfl⟩
  rw [f4 hb]
  refine T_le (H':=[dat [y] [rowsD (alnW c l)],blk pt (coL sec (.slice x1.1 sg'.length x1.2) (.slice x2.1 l.length x2.2) (.slice none 0 0)) 32,row 38 1 x2.1 x2.2 l.length (l.map TS.val),row 9 1 x1.1 x1.2 sg'.length (sg'.map Value.string),blk pr (coL ByteArray.empty (.slice none 0 0) (.slice none 0 0) (.slice none 0 0)) 32,blk pc c.cells 23]) (Hle.refl _) ?_
  refine T_open fun p hp=>?_
  obtain⟨Ay,cy,csy,rfl,-⟩:=hp.tab
  refine T_le (H':=[blk pt (coL sec (.slice x1.1 sg'.length x1.2) (.slice x2.1 l.length x2.2) (.slice none 0 0)) 32,blk pr (coL ByteArray.empty (.slice none 0 0) (.slice none 0 0) (.slice none 0 0)) 32,fz p,row 38 1 x2.1 x2.2 l.length (l.map TS.val),row 9 1 x1.1 x1.2 sg'.length (sg'.map Value.string)]) Hle.srt ?_
  repeat' (first|refine d1 ?_|fail)
  refine T_if rfl (fun h5=>by exfalso;simp at h5) (fun _=>?_)
  repeat' (first|refine d1 ?_|fail)
  exact T_retM (vs:=[.agg (coL sec (.slice x1.1 sg'.length x1.2) (.slice x2.1 l.length x2.2) (.slice Ay (alnW c l).length cy)).toArray, .int .i64 0]) _ ⟨⟨pr,_,coL sec (.slice x1.1 sg'.length x1.2) (.slice x2.1 l.length x2.2) (.slice Ay (alnW c l).length cy),rfl,rfl,rfl,rfl,(fun h=>by cases h),rfl,rdAll⟩,rfl,trivial⟩ (((Hle.tail _ _).trans (Hle.tail _ _)).trans ((co_join hp).trans (Hle.nth 0 rfl))) ⟨(x1,x2, .slice Ay (alnW c l).length cy),trivial,rfl,rfl⟩
 ·have hb:¬ l.length≤4:=by intro h9;have hv2:7 ^ l.length≤7 ^ 4:=Nat.pow_le_pow_right (by omega) h9;exact absurd h4 (by simp;omega)
  have eC:colsC22 c l=alnP c l:=if_neg hb
  rw [eC]
  repeat' (first|refine d1 ?_|(show T _ (.ops _ (_::_)::_) _ _ _;refine T_op (OpT.call rfl rfl rfl rfl rfl (fun w hw=>alignPrg21_spec c A2 l.length c2 l w (hg.cls hw) (fun t ht=>by have:=ht6 t ht;omega)) ?_))|fail)
  rintro v R ⟨y,-,rfl,rfl⟩
  rw [f5]
  refine T_le (H':=[dat [y] [rowsD (alnP c l)],blk pt (coL sec (.slice x1.1 sg'.length x1.2) (.slice x2.1 l.length x2.2) (.slice none 0 0)) 32,row 38 1 x2.1 x2.2 l.length (l.map TS.val),row 9 1 x1.1 x1.2 sg'.length (sg'.map Value.string),blk pr (coL ByteArray.empty (.slice none 0 0) (.slice none 0 0) (.slice none 0 0)) 32,blk pc c.cells 23]) (Hle.refl _) ?_
  refine T_open fun p hp=>?_
  obtain⟨Ay,cy,csy,rfl,-⟩:=hp.tab
  refine T_le (H':=[blk pt (coL sec (.slice x1.1 sg'.length x1.2) (.slice x2.1 l.length x2.2) (.slice none 0 0)) 32,blk pr (coL ByteArray.empty (.slice none 0 0) (.slice none 0 0) (.slice none 0 0)) 32,fz p,row 38 1 x2.1 x2.2 l.length (l.map TS.val),row 9 1 x1.1 x1.2 sg'.length (sg'.map Value.string)]) Hle.srt ?_
  repeat' (first|refine d1 ?_|fail)
  refine T_if rfl (fun h5=>by exfalso;simp at h5) (fun _=>?_)
  repeat' (first|refine d1 ?_|fail)
  exact T_retM (vs:=[.agg (coL sec (.slice x1.1 sg'.length x1.2) (.slice x2.1 l.length x2.2) (.slice Ay (alnP c l).length cy)).toArray, .int .i64 0]) _ ⟨⟨pr,_,coL sec (.slice x1.1 sg'.length x1.2) (.slice x2.1 l.length x2.2) (.slice Ay (alnP c l).length cy),rfl,rfl,rfl,rfl,(fun h=>by cases h),rfl,rdAll⟩,rfl,trivial⟩ (((Hle.tail _ _).trans (Hle.tail _ _)).trans ((co_join hp).trans (Hle.nth 0 rfl))) ⟨(x1,x2, .slice Ay (alnP c l).length cy),trivial,rfl,rfl⟩
end Go.Proofs.YtblnhdnogjijiaaGreatDoor
namespace Go.Proofs.YtblnhdnogjijiaaGreatDoor
open Go.RowKit Go.Shelf Go.Proofs
set_option maxRecDepth 100000
set_option maxHeartbeats 1000000

theorem co_nilR (H:List HA):Hle H [dat [.slice none 0 0, .slice none 0 0, .slice none 0 0] [strsD [], .s 1 (([]:List (List Tok)).map toksD),rowsD []]]:=co_nil1 H
theorem toksD_row {l:List Tok} {A:Option Addr} {n c:Nat} {H:List HA}:Hle (row 42 6 A c n (l.flatMap Tok.cells)::H) (dat [.slice A n c] [toksD l]::H):=dat_rowV
end Go.Proofs.YtblnhdnogjijiaaGreatDoor
namespace Go.Proofs.YtblnhdnogjijiaaGreatDoor
open Go.RowKit Go.Shelf Go.Proofs
set_option maxRecDepth 100000
set_option maxHeartbeats 1000000

theorem find1_22_spec (A:Option Addr) (n ca p4 p5:Nat) (r:List Int) (s:Nat) (k:Int) (w:World) (hs:Src w 1 A n (r.map (Value.int .i64))) (hn:r.length=n) (hsn:s<n) (h4:RdC w p4 0 [.int .i64 (s:Nat)]) (h5:RdC w p5 0 [.int .i64 k]) :
  Spec Tryz.prog 63 [.slice A n ca, .pointer (some ⟨p4,0,none⟩), .pointer (some ⟨p5,0,none⟩)] w (fun v R=>v = .bool (decide (r.getD s (-1)=k))∧R=[]):=by
 obtain⟨b,o,rfl⟩:=hs.base (by omega)
 obtain⟨z,hz⟩:∃ z,r[s]?=some z:=⟨_,List.getElem?_eq_getElem (by omega)⟩
 have hr:=src_int hs hsn hz
 refine spec_of sg Tryz.func63 rfl rfl rfl ?_
 repeat' (first|refine d1 ?_|refine dd ?_|(show T _ (.code .ret::_) _ _ _;refine T_retV [] rfl (Hle.none _) ⟨congrArg Value.bool (by rw [List.getD_eq_getElem?_getD,hz];rfl),rfl⟩))
theorem findI_range22 {α:Type} (f:α→Bool) (d:α):∀ l:List α,findI (fun i=>f (l.getD i d)) (List.range l.length)=findI f l:=by
 intro l
 by_cases h:∃ i,i<l.length∧f (l.getD i d)=true∧∀ j,j<i→f (l.getD j d)=false
 ·obtain⟨i,hi,h1,h2⟩:=h
  have e:l[i]?=some (l.getD i d):=by rw [List.getD_eq_getElem?_getD,List.getElem?_eq_getElem hi];rfl
  rw [findI_some e h1 fun j y hj hy=>by have:=h2 j hj;rw [List.getD_eq_getElem?_getD,hy] at this;exact this]
  refine findI_some (List.getElem?_range hi) h1 fun j y hj hy=>?_
  have hjl:j<l.length:=by omega
  rw [List.getElem?_range hjl] at hy
  cases hy
  exact h2 j hj
 ·have key:∀ n j,j<n→j<l.length→f (l.getD j d)=false:=by
   intro n
   induction n with
   | zero=>intro j hj;omega
   | succ n ih =>
    intro j hj hl
    cases hf:f (l.getD j d) with
    | false=>rfl
    | true=>exact absurd ⟨j,hl,hf,fun i hi=>ih i (by omega) (by omega)⟩ h
  rw [findI_none fun i y hy=>?_,findI_none fun i y hy=>?_]
  ·have hi:=(List.getElem?_eq_some_iff.1 hy).1
   have:=key (i+1) i (by omega) hi
   rw [List.getD_eq_getElem?_getD,hy] at this
   exact this
  ·have hi:=(List.getElem?_eq_some_iff.1 hy).1
   rw [List.length_range] at hi
   rw [List.getElem?_range hi] at hy
   cases hy
   exact key (i+1) i (by omega) hi
theorem findP22_spec (x:Co) (A1:Option Addr) (c1:Nat) (l:List TS) (A2:Option Addr) (c2:Nat) (y3:Value) (s k:Int) (w:World) (hx:CoAt w x A1 c1 l A2 c2 y3) :
  Spec Tryz.prog 18 [.agg (coL x.sec (.slice A1 x.sg.length c1) (.slice A2 l.length c2) y3).toArray, .int .i64 s, .int .i64 k] w (fun v R=>v = .tuple #[.int .i64 (findV22 x s k).1, .int .i64 (findV22 x s k).2]∧R=[]):=by
 obtain⟨Ak,ck,csk,rfl,hck1,hck2,hcs,hrows⟩:=hx.cols.tabS
 refine spec_of sg Tryz.func18 rfl rfl rfl ?_
 refine T_op (OpT.box (cs:=coL x.sec (.slice A1 x.sg.length c1) (.slice A2 l.length c2) (.slice Ak x.cols.length ck)) rfl rfl rfl rfl rfl rfl rfl (fun pc=>?_))
 refine T_op (OpT.box (cs:=[.int .i64 s]) rfl rfl rfl rfl rfl rfl rfl (fun p4=>?_))
 refine T_op (OpT.box (cs:=[.int .i64 k]) rfl rfl rfl rfl rfl rfl rfl (fun p5=>?_))
 repeat' (first|refine d1 ?_|(show T _ (.ops _ (_::_)::_) _ _ _;refine T_call rfl rfl rfl rfl rfl (fun w hw=>checkP22_spec x A1 c1 l A2 c2 _ w (hx.cls hw)) ?_)|fail)
 refine T_if rfl (fun h=>?_) (fun h=>?_)
 ·simp only [Bool.not_eq_true',decide_eq_false_iff_not] at h
  have e:findV22 x s k=(0,1):=if_pos h
  rw [e]
  repeat' (first|refine d1 ?_|(show T _ (.code .ret::_) _ _ _;refine T_retV [] rfl (Hle.none _) ⟨rfl,rfl⟩))
 simp only [Bool.not_eq_false',decide_eq_true_eq] at h
 have hok:=chk22_iff.1 h
 obtain⟨h1,h2,h3⟩:=hx.row hok
 obtain⟨b2,o2,rfl⟩:=hx.hd.s2.base (by omega)
 have hT:∃ t:TS,(0≤s∧s<(l.length:Int)→l[s.toNat]?=some t∧RdC w b2 (o2+s.toNat * 1) [.slice t.A t.n t.cap]∧(x.m.getD s.toNat []).length=t.n):=by
  by_cases hs:0≤s∧s<(l.length:Int)
  ·obtain⟨p,rfl⟩:=Int.eq_ofNat_of_zero_le hs.1
   obtain⟨t,ht⟩:∃ t,l[p]?=some t:=⟨_,List.getElem?_eq_getElem (by omega)⟩
   refine ⟨t,fun _=>⟨by rw [Int.toNat_natCast];exact ht,hx.hd.hdr ht,?_⟩⟩
   rw [Int.toNat_natCast, ← hx.m,List.getD_eq_getElem?_getD,List.getElem?_map,ht]
   exact hx.hd.ok.len t (List.mem_of_getElem? ht)
  ·exact⟨⟨none,0,0,[]⟩,fun h9=>absurd h9 hs⟩
 obtain⟨t,hT⟩:=hT
 repeat' (first|refine dd ?_|(show T _ (.run _ _ (_::_) _ _::_) _ _ _;refine rg rfl rfl rfl (Val.load rfl (fun hg=>rdOld (hT (by ((simp only [List.cons_append,List.nil_append,GP,dstL,lookE,Nat.beq,cond,List.getElem?_cons_zero,List.getElem?_cons_succ,Option.bind_some,and_true,Bool.and_eq_true,Bool.or_eq_true,Bool.and_eq_false_iff,Bool.or_eq_false_iff,Bool.not_eq_true',Bool.not_eq_false',decide_eq_true_eq,decide_eq_false_iff_not] at hg);omega))).2.1)) rfl rfl rfl rfl rfl ?_)|fail)
 have hcond:(s<0∨(x.sg.length:Int)≤s)∨(k<0∨((x.m.getD s.toNat []).length:Int)≤k)↔(((s<0∨(x.sg.length:Int)≤s)∨k<0)∨(t.n:Int)≤k):=by
  by_cases hs:0≤s∧s<(l.length:Int)
  ·rw [(hT hs).2.2];omega
  ·omega
 refine T_if rfl (fun h4=>?_) (fun h4=>?_)
 ·simp only [Bool.or_eq_true,decide_eq_true_eq] at h4
  have e:findV22 x s k=(0,2):=by unfold findV22;rw [if_neg (by rw [h];simp),if_pos (hcond.2 h4)]
  rw [e]
  repeat' (first|refine d1 ?_|(show T _ (.code .ret::_) _ _ _;refine T_retV [] rfl (Hle.none _) ⟨rfl,rfl⟩))
 have h4:¬ (((s<0∨(x.sg.length:Int)≤s)∨k<0)∨(t.n:Int)≤k):=by
  simp only [Bool.or_eq_false_iff,decide_eq_false_iff_not] at h4
  omega
 have e:findV22 x s k=(at22 x s.toNat k,0):=by unfold findV22;rw [if_neg (by rw [h];simp),if_neg (fun hh=>h4 (hcond.1 hh))]
 rw [e]
 obtain⟨p,rfl⟩:=Int.eq_ofNat_of_zero_le (by omega:0≤s)
 rw [Int.toNat_natCast]
 have hf:∀ w1:World,RdC w1 p4 0 [.int .i64 (p:Nat)]→RdC w1 p5 0 [.int .i64 k]→(∀ A n xs,Src w 1 A n xs→Src w1 1 A n xs)→∀ (i:Nat) u,csk[i]?=some u→∀ w',Below w1.heap.size w1 w' →
   Spec Tryz.prog 63 ([]++(u::[.pointer (some ⟨p4,0,none⟩), .pointer (some ⟨p5,0,none⟩)])) w' (fun v R=>v = .bool (decide ((x.cols.getD i []).getD p (-1)=k))∧R=[]):=by
  intro w1 g4 g5 gs i u hu w' hb'
  obtain⟨r,hr⟩:∃ r,x.cols[i]?=some r:=⟨_,List.getElem?_eq_getElem (by have:=(List.getElem?_eq_some_iff.1 hu).1;have:=hcs.1;omega)⟩
  obtain⟨Au,capu,hu2,-,-,hA⟩:=hrows.tabRow hr
  rw [hu2] at hu
  cases hu
  have hrl:=(hx.entry hok hr (k:=0) (by omega)).1
  have hg:x.cols.getD i []=r:=by rw [List.getD_eq_getElem?_getD,hr];rfl
  rw [hg]
  exact find1_22_spec Au r.length capu p4 p5 r p k w' (src_below (gs _ _ _ (rowSrc hA)) hb') rfl (by omega) (g4.below hb') (g5.below hb')
 repeat' (first|refine d1 ?_|(show T _ (.ops _ (_::_)::_) _ _ _;refine T_call rfl rfl rfl rfl rfl (fun w hw=>indexFuncR_spec Ak x.cols.length ck csk _ [] [.pointer (some ⟨p4,0,none⟩), .pointer (some ⟨p5,0,none⟩)] (fun i=>decide ((x.cols.getD i []).getD p (-1)=k)) w (rdSrc hcs w hw) (by omega) (hf w (rdAll w hw) (rdAll w hw) (fun _ _ _ hs=>rdSrc hs w hw))) ?_)|(show T _ (.code .ret::_) _ _ _;refine T_retV [] rfl (Hle.none _) ⟨?_,rfl⟩))
 rw [findI_range22 (fun c:List Int=>decide (c.getD p (-1)=k)) []]
 rfl
end Go.Proofs.YtblnhdnogjijiaaGreatDoor
namespace Go.Proofs.YtblnhdnogjijiaaGreatDoor
open Go.RowKit Go.Shelf
set_option linter.unusedSectionVars false

def evCvP (env:Env) (ec:EnvC) (G:GId) (o:Oper):Option (TypeId × TypeId × Nat) :=
 match o.op with
 | .convert s d x=>match evX env ec G x with
  | some (.pointer (some ⟨b,0,none⟩))=>some (s,d,b)
  | _=>none
 | _=>none
section
variable {C:Cx} {all:Array Oper} {o:Oper} {env:Env} {ec:EnvC} {H Hs:List HA} {G:GId} {d:Nat} {Φ:Env→EnvC→List HA→Prop}
theorem evCvP_spec {N:FK} {a:Act} (ha:Agrees N all env ec a) (hG:Holds all a G) {s d':TypeId} {b:Nat} (h:evCvP env ec G o=some (s,d',b)):∃ x,o.op = .convert s d' x∧a.eval x = .pointer (some ⟨b,0,none⟩):=by
 unfold evCvP at h
 split at h
 ·rename_i s' d'' x ho
  split at h
  ·rename_i b' hx
   cases h
   exact⟨x,ho,evX_spec ha hG hx⟩
  ·cases h
 ·cases h
theorem Val.toUnsafe {s d' t e:TypeId} {j:TypeInfo} {b:Nat} {cs:List Value} {rb:HA→List HA} (hv:evCvP env ec G o=some (s,d',b)) [hf:Focus Hs b cs e rb] (hs:C.S.P.underlying s=some (.pointer t)) (hd:C.S.P.underlying d'=some .unsafePointer)
  (ht:C.S.P.info? t=some j) (hj:j.size≠0) (hl:0<cs.length):Val C all o env ec Hs G (.pointer (some ⟨b,0,none⟩)):=by
 intro a w ha hw hH
 obtain⟨i,hi,_⟩:=hf.at_
 have hb:=(hw.heap hi).1
 have hsh:w.shape? b=some (e,cs.length):=by simp [World.shape?,hb]
 obtain⟨x,ho,hx⟩:=evCvP_spec ha hH hv
 have hr:=Lib.run_to_unsafe (P:=C.S.P) w ⟨b,0,none⟩ hs hd ht hj hsh hl
 unfold execOp
 rw [ho]
 simp only [hx]
 simp [hr]
theorem Val.fromUnsafe {s d' u e:TypeId} {j:TypeInfo} {b:Nat} {cs:List Value} {rb:HA→List HA} (hv:evCvP env ec G o=some (s,d',b)) [hf:Focus Hs b cs e rb] (hs:C.S.P.underlying s=some .unsafePointer) (hd:C.S.P.underlying d'=some (.pointer u))
  (hu:C.S.P.info? u=some j) (hlies:liesAt C.S.P C.S.P.depth e (cs.length / C.S.P.cellsOf e) 0 u 1=true):Val C all o env ec Hs G (.pointer (some ⟨b,0,none⟩)):=by
 intro a w ha hw hH
 obtain⟨i,hi,_⟩:=hf.at_
 have hb:=(hw.heap hi).1
 have hsh:w.shape? b=some (e,cs.length):=by simp [World.shape?,hb]
 obtain⟨x,ho,hx⟩:=evCvP_spec ha hH hv
 have hr:=Lib.run_from_unsafe (P:=C.S.P) w ⟨b,0,none⟩ hs hd hu hsh hlies
 unfold execOp
 rw [ho]
 simp only [hx]
 simp [hr]
def evPP (env:Env) (ec:EnvC) (G:GId) (o:Oper):Option (TypeId × Nat × Nat) :=
 match o.op with
 | .binOp .neq t x y _=>match evX env ec G x,evX env ec G y with
  | some (.pointer (some ⟨b,0,none⟩)),some (.pointer (some ⟨c,0,none⟩))=>some (t,b,c)
  | _,_=>none
 | _=>none
theorem Val.ptrSame {t te:TypeId} {j:TypeInfo} {b c:Nat} (hv:evPP env ec G o=some (t,b,c)) (hbc:b=c) (hp:C.S.P.underlying t=some (.pointer te)) (hte:C.S.P.info? te=some j):Val C all o env ec Hs G (.bool false):=by
 subst hbc
 intro a w ha hw hH
 obtain⟨dst,op,ty,pos,aft,gd⟩:=o
 unfold evPP at hv
 dsimp only at hv
 split at hv
 ·rename_i t' x y t2
  split at hv
  ·rename_i b' c' hx hy
   cases hv
   have hr:=Lib.run_neq_ptr_same (P:=C.S.P) w ⟨b,0,none⟩ hp hte
   simp only [execOp,evX_spec ha hH hx,evX_spec ha hH hy]
   simp [eqGuard,hr]
  ·cases hv
 ·cases hv
def evSD (env:Env) (ec:EnvC) (G:GId) (o:Oper):Option (Addr × Nat) :=
 match o.op with
 | .call { callee := .builtin .unsafeSliceData,args:=xs,argTypes:=_ }=>match evL env ec G xs.toList with
  | some [.slice (some a) _ c]=>some (a,c)
  | _=>none
 | _=>none
theorem Val.sliceData {A:Addr} {c:Nat} (hv:evSD env ec G o=some (A,c)) (hc:c≠0):Val C all o env ec Hs G (.pointer (some A)):=by
 intro a w ha hw hH
 obtain⟨dst,op,ty,pos,aft,gd⟩:=o
 unfold evSD at hv
 dsimp only at hv
 split at hv
 ·rename_i xs ts
  split at hv
  ·rename_i a' n' c' hxs
   cases hv
   have hargs:xs.map a.eval = #[.slice (some A) n' c]:=Array.ext' (by rw [Array.toList_map];exact evL_spec ha hH hxs)
   have hr:=Lib.run_unsafeSliceData_row (P:=C.S.P) w ts ty A n' c hc
   simp [execOp,resolve,invoke,builtin,hargs,hr]
  ·cases hv
 ·cases hv
def evUS (S:Sig) (env:Env) (ec:EnvC) (o:Oper):Option (Nat × Nat × TypeId) :=
 match o.op with
 | .call { callee := .builtin .unsafeString,args:=xs,argTypes:=ts }=>match evL env ec [] xs.toList,ts.toList with
  | some [.pointer (some ⟨g,0,none⟩), .int .i64 n],[pt,_]=>match S.ty pt with
   | some ⟨.ptr e,_,_,_⟩=>some (g,n.toNat,e)
   | _=>none
  | _,_=>none
 | _=>none
def u8s (l:List UInt8):List Value:=l.map fun c=>Value.int .u8 ((c.toNat:Nat):Int)
theorem u8s_len (l:List UInt8):(u8s l).length=l.length:=by simp [u8s]
theorem u8s_app (a b:List UInt8):u8s (a++b)=u8s a++u8s b:=by simp [u8s]
theorem OpT.unsafeStr {g n:Nat} {e:TypeId} {cap:Nat} {bs:List UInt8} {rb:HA→List HA} (hg:gOf all env ec o=some []) (he:evUS C.S env ec o=some (g,n,e)) (hd:o.dst=some d) (hN:Nat.blt d C.N.n=true) (hs:safeC all d ec=true)
  [hf:FocusR H (some ⟨g,0,none⟩) e 1 cap n (u8s bs) rb] (hc1:C.S.P.cellsOf e=1) (h0:bs≠[]) (h:Φ ((d, .string ⟨bs.toArray⟩)::env) ec (rb (fz fun _=>none))):OpT C all o env ec H Φ:=by
 obtain⟨i,hi,hrb⟩:=hf.at_
 refine OpT.eff hg fun a w ha hw=>?_
 obtain⟨F,f1,f2,f3⟩:=hw.sep
 have hil:i<H.length:=(List.getElem?_eq_some_iff.1 hi).1
 obtain⟨hln,hrow⟩:=f1 i _ hi
 have hn:bs.length=n:=by rw [u8s_len,Nat.mul_one] at hln;exact hln
 have hn0:bs.length≠0:=by simpa using h0
 rcases hrow with⟨e1,_⟩|⟨g',cur,e1,hF,g3,g4,g5,g6⟩
 ·cases e1
 cases e1
 have hob:=f2 i g (.cells cur e (0,0)) hil (by rw [hF];simp [one])
 have hsh:w.shape? g=some (e,cur.size):=by simp [World.shape?,hob.2]
 have hcell:∀ j x,bs[j]?=some x→w.cell? ((⟨g,0,none⟩:Addr).add j)=some (.int .u8 x.toNat):=by
  intro j x hx
  have hj:=(List.getElem?_eq_some_iff.1 hx).1
  have h9:(u8s bs)[j]?=some (.int .u8 ((x.toNat:Nat):Int)):=by unfold u8s;rw [List.getElem?_map,hx];rfl
  rw [← g6,List.getElem?_take_of_lt (by omega)] at h9
  have h8:w.cell? ⟨g,j,none⟩=cur[j]?:=cell_of_row w g j cur e (0,0) hob.2
  have h7:(⟨g,0,none⟩:Addr).add j=⟨g,j,none⟩:=by unfold Addr.add;split <;> simp_all
  rw [h7,h8]
  simpa using h9
 have hmax:maxLen=9223372036854775807:=rfl
 obtain⟨dst,op,ty,pos,aft,gd⟩:=o
 unfold evUS at he
 dsimp only at he
 split at he
 ·rename_i xs ts
  split at he
  ·rename_i g1 n1 pt it hxs hts
   split at he
   ·rename_i e' q1 q2 q3 hpt
    cases he
    have hp:=(Sig.tyOk hpt).fits
    simp only [Ty.fits] at hp
    have hn1:n1=(bs.length:Int):=by omega
    subst hn1
    have hargs:xs.map a.eval = #[.pointer (some ⟨g,0,none⟩), .int _ (bs.length:Int)]:=Array.ext' (by rw [Array.toList_map];exact evL_spec ha (Holds.nil _ _) hxs)
    have hts':ts = #[pt,it]:=Array.ext' hts
    have hr:=Lib.run_unsafeString_row (P:=C.S.P) w pt it ty e hp hc1 g cur.size hsh bs h0 (by omega) (by omega) hcell
    refine ⟨.string ⟨bs.toArray⟩,w.freeze ⟨g,0,none⟩ bs.length,_,?_,⟨Lib.below_freeze hw.below (p:=⟨g,0,none⟩) hob.1 _,?_⟩,d,hd,hN,hs,h⟩
    ·simp [execOp,resolve,invoke,builtin,hargs,hts',hr]
    ·rw [hrb]
     refine Sep.swap ⟨F,f1,f2,f3⟩ hi fun f hrow hf=>⟨fun _=>none,rfl,(fun b o h=>by cases h),fun c hc hfc=>?_⟩
     have hne:c≠g:=by
      rintro rfl
      obtain⟨_,hrow⟩:=hrow
      rcases hrow with⟨e1,_⟩|⟨g',cur',e1,hF',_⟩
      ·cases e1
      ·cases e1
       rw [hF'] at hfc
       simp [one] at hfc
     unfold World.freeze
     split
     ·rfl
     ·simp only [Array.getElem?_modify]
      rw [if_neg (Ne.symm hne)]
   ·cases he
  ·cases he
 ·cases he
end
end Go.Proofs.YtblnhdnogjijiaaGreatDoor
namespace Go.Proofs.YtblnhdnogjijiaaGreatDoor
open Go.RowKit Go.Shelf Go.Proofs
set_option maxRecDepth 100000
set_option maxHeartbeats 1000000

abbrev bld22 (pb:Nat) (q A:Option Addr) (c:Nat) (bs:List UInt8) (K:List HA):List HA:=blk pb [.pointer q, .slice A bs.length c] 91::row 5 1 A c bs.length (u8s bs)::K
theorem info_builder:∃ j,Tryz.prog.info? 89=some j∧j.size=2:=by
 obtain⟨x,hx,h1,_⟩:=(Sig.tyOk (S:=sg) (t:=89) rfl).info'
 exact⟨x,hx,h1⟩
theorem lies_builder:liesAt Tryz.prog Tryz.prog.depth 91 (2 / Tryz.prog.cellsOf 91) 0 89 1=true:=by kernel_rfl
theorem noEscape_run (x:Value) (w:World):(callFunc 223 #[x]).run Tryz.prog w = .ok (.value x) w:=by
 rw [run_callFunc_extern Tryz.func223 (by kernel_rfl) (by kernel_rfl) (by kernel_rfl) (e:=Extern.AbiNoEscape.same) (by kernel_rfl),Lib.run_noEscape]
 rfl
theorem copyCheck_spec (w0:World) (pb:Nat) (q:Option Addr) (hq:q=none∨q=some ⟨pb,0,none⟩) (A:Option Addr) (n c:Nat) (K:List HA) :
  SpecB Tryz.prog 183 [.pointer (some ⟨pb,0,none⟩)] w0 (blk pb [.pointer q, .slice A n c] 91::K) (fun u R=>u = .tuple #[]∧R=blk pb [.pointer (some ⟨pb,0,none⟩), .slice A n c] 91::K):=by
 obtain⟨j,hj,hj2⟩:=info_builder
 refine specB_of sg Tryz.func183 rfl rfl rfl ?_
 rcases hq with rfl|rfl
 ·repeat' (first|refine d1 ?_|(show T _ (.ops _ (_::_)::_) _ _ _;first|refine T_val rfl (Val.nilc rfl) rfl rfl rfl ?_|refine T_val rfl (Val.nilS rfl) rfl rfl rfl ?_)|fail)
  refine T_if rfl (fun h=>?_) (fun h=>by cases h)
  repeat' (first|refine d1 ?_|(show T _ (.ops _ (_::_)::_) _ _ _;first|refine T_val rfl (Val.nilc rfl) rfl rfl rfl ?_|refine T_val rfl (Val.toUnsafe rfl Tryz.underlying86 Tryz.underlying229 hj (by omega) (by simp)) rfl rfl rfl ?_|refine T_val rfl (Val.fromUnsafe rfl Tryz.underlying229 Tryz.underlying86 hj (by exact lies_builder)) rfl rfl rfl ?_|refine T_op (OpT.callX (v := .pointer (some ⟨pb,0,none⟩)) rfl rfl rfl rfl rfl (fun w hw=>noEscape_run _ w) ?_))|fail)
  exact T_fallV _ rfl (Hle.refl _) ⟨rfl,rfl⟩
 ·repeat' (first|refine d1 ?_|(show T _ (.ops _ (_::_)::_) _ _ _;first|refine T_val rfl (Val.nilc rfl) rfl rfl rfl ?_|refine T_val rfl (Val.nilS rfl) rfl rfl rfl ?_)|fail)
  refine T_if rfl (fun h=>by cases h) (fun h=>?_)
  repeat' (first|refine d1 ?_|(show T _ (.ops _ (_::_)::_) _ _ _;first|refine T_val rfl (Val.nilc rfl) rfl rfl rfl ?_|refine T_val rfl (Val.ptrSame rfl rfl Tryz.underlying86 hj) rfl rfl rfl ?_)|fail)
  refine T_if rfl (fun h=>by cases h) (fun h=>?_)
  skip
  exact T_fallV _ rfl (Hle.refl _) ⟨rfl,rfl⟩
theorem writeString_spec (w0:World) (pb:Nat) (q:Option Addr) (hq:q=none∨q=some ⟨pb,0,none⟩) (A:Option Addr) (c:Nat) (bs:List UInt8) (s:ByteArray) (hb:bs.length+s.size≤1000000) (K:List HA) :
  SpecB Tryz.prog 126 [.pointer (some ⟨pb,0,none⟩), .string s] w0 (bld22 pb q A c bs K) (fun u R=>∃ x:Option Addr × Nat,u = .tuple #[.int .i64 (s.size:Nat), .nilIface]∧R=bld22 pb (some ⟨pb,0,none⟩) x.1 x.2 (bs++s.data.toList) K):=by
 refine specB_of sg Tryz.func126 rfl rfl rfl ?_
 repeat' (first|refine d1 ?_|(show T _ (.ops _ (_::_)::_) _ _ _;refine T_op (OpT.callB rfl rfl rfl rfl rfl (copyCheck_spec _ pb q hq A bs.length c _) (fun u R hR=>?_)))|fail)
 obtain⟨rfl,rfl⟩:=hR
 have e:(bs++s.data.toList).length=bs.length+s.size:=by rw [List.length_append];simp
 repeat' (first|refine d1 ?_|(show T _ (.ops _ (_::_)::_) _ _ _;first|refine T_val rfl (Val.nilc rfl) rfl rfl rfl ?_|refine T_op (OpT.appendS rfl rfl rfl rfl rfl rfl rfl rfl rfl rfl (by omega) (fun A' cap' hA'=>?_)))|fail)
 exact T_retV (bld22 pb (some ⟨pb,0,none⟩) A' cap' (bs++s.data.toList) K) rfl (by unfold bld22;rw [e,u8s_app];exact Hle.refl _) ⟨(A',cap'),rfl,rfl⟩
theorem writeByte_spec (w0:World) (pb:Nat) (q:Option Addr) (hq:q=none∨q=some ⟨pb,0,none⟩) (A:Option Addr) (c:Nat) (bs:List UInt8) (b:UInt8) (hb:bs.length+1≤1000000) (K:List HA) :
  SpecB Tryz.prog 127 [.pointer (some ⟨pb,0,none⟩), .int .u8 ((b.toNat:Nat):Int)] w0 (bld22 pb q A c bs K) (fun u R=>∃ x:Option Addr × Nat,u = .nilIface∧R=bld22 pb (some ⟨pb,0,none⟩) x.1 x.2 (bs++[b]) K):=by
 refine specB_of sg Tryz.func127 rfl rfl rfl ?_
 repeat' (first|refine d1 ?_|(show T _ (.ops _ (_::_)::_) _ _ _;refine T_op (OpT.callB rfl rfl rfl rfl rfl (copyCheck_spec _ pb q hq A bs.length c _) (fun u R hR=>?_)))|fail)
 obtain⟨rfl,rfl⟩:=hR
 have e:(bs++[b]).length=bs.length+1:=by rw [List.length_append];rfl
 repeat' (first|refine d1 ?_|(show T _ (.ops _ (_::_)::_) _ _ _;first|refine T_val rfl (Val.nilc rfl) rfl rfl rfl ?_|refine T_op (OpT.append (A:=A) rfl rfl rfl rfl rfl rfl rfl rfl rfl rfl (fun w hw=>Src.own hw rfl) rfl (by dsimp only;omega) (by omega) (fun A' cap' hA'=>?_)))|(show ∀ _:Nat,T _ _ _ _ _;intro _))
 exact T_retV (bld22 pb (some ⟨pb,0,none⟩) A' cap' (bs++[b]) K) rfl (by unfold bld22;rw [e,u8s_app];exact Hle.tail _ _) ⟨(A',cap'),rfl,rfl⟩
theorem line22_spec (w0:World) (pb:Nat) (q:Option Addr) (hq:q=none∨q=some ⟨pb,0,none⟩) (A:Option Addr) (c:Nat) (bs:List UInt8) (s:ByteArray) (y:Value) (l:List ByteArray) (p:Frag) (K:List HA) [FocusZ K p] (hy:Rd (fr p) [y] [strsD l]) (hs:s.size≤100) (hl:l.length≤100) (ht:∀ t∈l,t.size≤100) (hb:bs.length≤900000) :
  SpecB Tryz.prog 67 [.pointer (some ⟨pb,0,none⟩), .string s,y] w0 (bld22 pb q A c bs K) (fun u R=>∃ x:Option Addr × Nat,u = .tuple #[]∧R=bld22 pb (some ⟨pb,0,none⟩) x.1 x.2 (bs++line22 s l) K):=by
 obtain⟨Ay,cy,rfl,hyc,hym,hyr⟩:∃ Ay cy,y = .slice Ay l.length cy∧l.length≤cy∧cy≤9223372036854775807∧(0<l.length→∃ b o,Ay=some ⟨b,o,none⟩∧∀ (k:Nat) t,l[k]?=some t→fr p b (o+k)=some (.string t)):=by
  obtain⟨A,n,cap,rfl,h1,h2,h3,h4⟩:=hy.vals_one
  have e:n=l.length:=by simpa using h1.symm
  subst e
  exact⟨A,cap,rfl,h2,h3,fun h0=>⟨bk A,ofs A,(h4 h0).1,fun k t ht=>(h4 h0).2 k _ (by rw [List.getElem?_map,ht];rfl)⟩⟩
 refine specB_of sg Tryz.func67 rfl rfl rfl ?_
 repeat' (first|refine d1 ?_|(show T _ (.ops _ (_::_)::_) _ _ _;first|refine T_val rfl (Val.nilc rfl) rfl rfl rfl ?_|refine T_op (OpT.callB rfl rfl rfl rfl rfl (writeString_spec _ pb q hq A c bs s (by omega) _) (fun u R hR=>?_)))|fail)
 obtain⟨⟨A0,c0⟩,rfl,rfl⟩:=hR
 have hsl:s.data.toList.length=s.size:=by simp
 have hcl:∀ k,k≤l.length→(cells22 (l.take k)).length≤101 * k:=by
  intro k
  induction k with
  | zero=>intro _;exact Nat.le_refl _
  | succ k ih =>
   intro hk
   obtain⟨t,hg⟩:∃ t,l[k]?=some t:=⟨_,List.getElem?_eq_getElem (by omega)⟩
   have h1:=ih (by omega)
   have h2:=ht t (List.mem_of_getElem? hg)
   have h3:t.data.toList.length=t.size:=by simp
   rw [take_snoc _ _ _ hg]
   unfold cells22 at h1 ⊢
   rw [List.flatMap_append,List.length_append]
   simp only [List.flatMap_cons,List.flatMap_nil,List.append_nil,List.length_cons]
   omega
 skip
 refine T_loopX (fun z:Nat × Option Addr × Nat=>[(15, .int .i64 (z.1:Nat))]) (fun z=>bld22 pb (some ⟨pb,0,none⟩) z.2.1 z.2.2 (bs++s.data.toList++cells22 (l.take z.1)) K) (fun z=>z.1≤l.length) (fun z=>l.length - z.1) (0,A0,c0) (Nat.zero_le _) ?_ (hG:=by show Hle (bld22 pb _ A0 c0 (bs++s.data.toList) K) (bld22 pb _ A0 c0 (bs++s.data.toList++[]) K);rw [List.append_nil];exact Hle.refl _)
 rintro⟨k,A1,c1⟩ hk
 dsimp only at hk ⊢
 have h101:=hcl k hk
 have hlen:(bs++s.data.toList++cells22 (l.take k)).length=bs.length+s.size+(cells22 (l.take k)).length:=by rw [List.length_append,List.length_append,hsl]
 repeat' (first|refine d1 ?_|fail)
 refine T_if rfl (fun h=>?_) (fun h=>?_)
 ·simp only [decide_eq_true_eq] at h
  have hkn:k<l.length:=by omega
  obtain⟨b,o,rfl,hyk⟩:=hyr (by omega)
  obtain⟨t,hg⟩:∃ t,l[k]?=some t:=⟨_,List.getElem?_eq_getElem hkn⟩
  have hts:=ht t (List.mem_of_getElem? hg)
  have hr:fr p b (o+(k:Int).toNat * 1)=some (.string t):=by rw [off1];exact hyk k t hg
  have hz1:(ByteArray.mk #[124]).size=1:=rfl
  have hz:((ByteArray.mk #[124])++t).size=1+t.size:=by rw [ByteArray.size_append];rfl
  repeat' (first|refine d1 ?_|(show T _ (.ops _ (_::_)::_) _ _ _;first|refine T_val rfl (Val.load rfl (fun hg=>rdFz (p:=p) hr)) rfl rfl rfl ?_|refine T_val rfl (Val.nilc rfl) rfl rfl rfl ?_|refine T_op (OpT.callB rfl rfl rfl rfl rfl (writeString_spec _ pb _ (.inr rfl) A1 c1 _ ((ByteArray.mk #[124])++t) (by rw [hlen,hz];omega) _) (fun u R hR=>?_)))|fail)
  obtain⟨⟨A2,c2⟩,rfl,rfl⟩:=hR
  skip
  refine T_backX (k+1,A2,c2) (by dsimp only;omega) (by dsimp only;omega) (hG:=?_)
  have e:bs++s.data.toList++cells22 (l.take k)++((ByteArray.mk #[124])++t).data.toList=bs++s.data.toList++cells22 (l.take (k+1)):=by
   have hd:((ByteArray.mk #[124])++t).data.toList=124::t.data.toList:=by rw [ByteArray.data_append,Array.toList_append];rfl
   rw [take_snoc _ _ _ hg,hd]
   unfold cells22
   rw [List.flatMap_append,List.append_assoc,List.append_assoc,List.append_assoc,List.flatMap_cons,List.flatMap_nil,List.append_nil]
  rw [e]
  exact Hle.refl _
 ·simp only [decide_eq_false_iff_not] at h
  obtain rfl:k=l.length:=by omega
  rw [List.take_length] at hlen h101 ⊢
  repeat' (first|refine d1 ?_|(show T _ (.ops _ (_::_)::_) _ _ _;first|refine T_val rfl (Val.nilc rfl) rfl rfl rfl ?_|refine T_op (OpT.callB rfl rfl rfl rfl rfl (writeByte_spec _ pb _ (.inr rfl) A1 c1 _ 10 (by rw [hlen];omega) _) (fun u R hR=>?_)))|fail)
  obtain⟨⟨A2,c2⟩,rfl,rfl⟩:=hR
  skip
  refine T_fallV _ rfl (Hle.refl _) ⟨(A2,c2),rfl,?_⟩
  unfold line22
  rw [List.append_assoc,List.append_assoc,List.append_assoc]
theorem len22_spec (pb:Nat) (q A:Option Addr) (n c:Nat) (w:World) (h:RdC w pb 0 [.pointer q, .slice A n c]):Spec Tryz.prog 68 [.pointer (some ⟨pb,0,none⟩)] w (fun v R=>v = .int .i64 (n:Nat)∧R=[]):=by
 have h1:RdC w pb (0+1) [.slice A n c]:=RdC.at h rfl
 refine spec_of sg Tryz.func68 rfl rfl rfl ?_
 repeat' (first|refine d1 ?_|(show T _ (.ops _ (_::_)::_) _ _ _;refine T_val rfl (Val.nilc rfl) rfl rfl rfl ?_)|(show T _ (.code .ret::_) _ _ _;refine T_retV [] rfl (Hle.none _) ⟨rfl,rfl⟩))
end Go.Proofs.YtblnhdnogjijiaaGreatDoor
namespace Go.Proofs.YtblnhdnogjijiaaGreatDoor
open Go.RowKit Go.Shelf Go.Proofs
set_option maxRecDepth 100000
set_option maxHeartbeats 1000000

theorem rows_out {n k:Nat} (pre:List HA) (f:Nat→HA) (hk:k<n):Hle (pre++(List.range n).map f) (f k::(pre++((List.range n).erase k).map f)):=by
 refine Hle.perm ?_
 have h1:(List.range n).Perm (k::(List.range n).erase k):=List.perm_cons_erase (List.mem_range.2 hk)
 have h2:=(h1.map f).append_left pre
 exact h2.trans (List.perm_middle (a:=f k))
theorem rows_in {n k:Nat} (pre:List HA) (f g:Nat→HA) (hk:k<n) (hg:∀ j,j≠k→f j=g j):Hle (g k::(pre++((List.range n).erase k).map f)) (pre++(List.range n).map g):=by
 refine Hle.perm ?_
 have h1:(List.range n).Perm (k::(List.range n).erase k):=List.perm_cons_erase (List.mem_range.2 hk)
 have e:((List.range n).erase k).map f=((List.range n).erase k).map g:=List.map_congr_left fun j hj=>hg j fun e=>by
  subst e
  exact absurd hj (List.Nodup.not_mem_erase List.nodup_range)
 rw [e]
 have h2:=(h1.map g).append_left pre
 exact (h2.trans (List.perm_middle (a:=g k))).symm
theorem rows_nil {e sz:Nat} (H:List HA):∀ n:Nat,Hle H ((List.range n).map (fun _=>row e sz none 0 0 [])++H)
 | 0=>Hle.refl _
 | n+1=>by
  have e1:(List.range (n+1)).map (fun _=>row e sz none 0 0 [])=row e sz none 0 0 []::(List.range n).map (fun _=>row e sz none 0 0 []):=by
   rw [List.range_succ_eq_map,List.map_cons,List.map_map];rfl
  rw [e1]
  exact (rows_nil H n).trans (hle_unit (B:=row e sz none 0 0 []) ⟨by simp, .inl ⟨rfl,rfl,rfl,rfl⟩⟩)
theorem rows_acc {e:TypeId} (ρ:Nat→Option Addr × Nat) (m:Nat) (cs:Nat→List Value) (H:List HA):∀ (L:List Nat) (vs:List Value) (ds:List D),
  Hle (dat vs ds::(L.map (fun j=>row e 1 (ρ j).1 (ρ j).2 m (cs j))++H)) (dat (vs++L.map fun j => .slice (ρ j).1 m (ρ j).2) (ds++L.map fun j => .s 1 ((cs j).map .v))::H)
 | [],vs,ds=>by simp only [List.map_nil,List.append_nil,List.nil_append];exact Hle.refl _
 | j::L,vs,ds=>by
  have h1:Hle (dat vs ds::row e 1 (ρ j).1 (ρ j).2 m (cs j)::(L.map (fun j=>row e 1 (ρ j).1 (ρ j).2 m (cs j))++H)) (dat (vs++[.slice (ρ j).1 m (ρ j).2]) (ds++[.s 1 ((cs j).map .v)])::(L.map (fun j=>row e 1 (ρ j).1 (ρ j).2 m (cs j))++H)) :=
   (Hle.perm (List.Perm.swap _ _ _)).trans (dat_rowV.trans dat_join)
  have h2:=rows_acc (e:=e) ρ m cs H L (vs++[.slice (ρ j).1 m (ρ j).2]) (ds++[.s 1 ((cs j).map .v)])
  rw [List.append_assoc,List.append_assoc] at h2
  exact h1.trans h2
def cn22 (i k j:Nat):Nat:=if j<k then i+1 else i
def hd22 (ρ:Nat→Option Addr × Nat) (cnt:Nat→Nat) (n:Nat):List Value:=(List.range n).map fun j => .slice (ρ j).1 (cnt j) (ρ j).2
def rw22 (x:Co) (ρ:Nat→Option Addr × Nat) (cnt:Nat→Nat) (j:Nat):HA:=row 9 1 (ρ j).1 (ρ j).2 (cnt j) (((row22 x j).take (cnt j)).map Value.string)
theorem hd22_len (ρ:Nat→Option Addr × Nat) (cnt:Nat→Nat) (n:Nat):(hd22 ρ cnt n).length=n:=by simp [hd22]
theorem hd22_get {ρ:Nat→Option Addr × Nat} {cnt:Nat→Nat} {n k:Nat} (h:k<n):(hd22 ρ cnt n)[k]?=some (.slice (ρ k).1 (cnt k) (ρ k).2):=by simp [hd22,h]
def up22 (ρ:Nat→Option Addr × Nat) (k:Nat) (a:Option Addr × Nat) (j:Nat):Option Addr × Nat:=if j=k then a else ρ j
theorem hd22_set {ρ:Nat→Option Addr × Nat} {i n k:Nat} (a:Option Addr × Nat) (h:k<n):(hd22 ρ (cn22 i k) n).set k (.slice a.1 (i+1) a.2)=hd22 (up22 ρ k a) (cn22 i (k+1)) n:=by
 refine List.ext_getElem? fun j=>?_
 rw [List.getElem?_set,hd22_len]
 by_cases hj:j<n
 ·rw [hd22_get hj,hd22_get hj]
  by_cases e:k=j
  ·subst e
   rw [if_pos rfl,if_pos h]
   unfold up22 cn22
   rw [if_pos rfl,if_pos (by omega)]
  ·rw [if_neg e]
   unfold up22 cn22
   rw [if_neg (Ne.symm e)]
   by_cases h2:j<k
   ·rw [if_pos h2,if_pos (by omega)]
   ·rw [if_neg h2,if_neg (by omega)]
 ·rw [if_neg (by omega),List.getElem?_eq_none (by rw [hd22_len];omega),List.getElem?_eq_none (by rw [hd22_len];omega)]
theorem cn22_full {i n j:Nat} (h:j<n):cn22 i n j=cn22 (i+1) 0 j:=by unfold cn22;rw [if_pos h,if_neg (by omega)]
theorem hd22_full (ρ:Nat→Option Addr × Nat) (i n:Nat):hd22 ρ (cn22 i n) n=hd22 ρ (cn22 (i+1) 0) n:=List.map_congr_left fun j hj=>by rw [cn22_full (List.mem_range.1 hj)]
theorem rw22_full (x:Co) (ρ:Nat→Option Addr × Nat) (i n:Nat):(List.range n).map (rw22 x ρ (cn22 i n))=(List.range n).map (rw22 x ρ (cn22 (i+1) 0)):=List.map_congr_left fun j hj=>by unfold rw22;rw [cn22_full (List.mem_range.1 hj)]
theorem T_rowcap {C:Cx} {k:List It} {env:Env} {ec:EnvC} {H:List HA} {A:Option Addr} {e sz cap n:Nat} {xs:List Value} {rb:HA→List HA} [hf:FocusR H A e sz cap n xs rb] (h:n≤cap→T C k env ec H):T C k env ec H:=by
 refine T.mk fun a w ha hw=>?_
 obtain⟨i,hi,_⟩:=hf.at_
 obtain⟨F,h1,h2,h3⟩:=hw.sep
 obtain⟨_,hr⟩:=h1 i _ hi
 refine h ?_ a w ha hw
 rcases hr with⟨_,rfl,rfl,_⟩|⟨g,cur,_,_,h5,_⟩
 ·exact Nat.le_refl _
 ·exact h5
theorem string22_spec (w0:World) (pb:Nat) (q A:Option Addr) (c:Nat) (bs:List UInt8) (h0:bs≠[]) (K:List HA) :
  SpecB Tryz.prog 69 [.pointer (some ⟨pb,0,none⟩)] w0 (bld22 pb q A c bs K) (fun u R=>u = .string ⟨bs.toArray⟩∧R=[]):=by
 refine specB_of sg Tryz.func69 rfl rfl rfl ?_
 have hl:0<bs.length:=List.length_pos_iff.2 h0
 refine T_rowcap (e:=5) (sz:=1) (A:=A) (cap:=c) (n:=bs.length) (xs:=u8s bs) fun hc=>?_
 refine T_rowpos (e:=5) (sz:=1) (A:=A) (cap:=c) (n:=bs.length) (xs:=u8s bs) hl fun g hA=>?_
 subst hA
 repeat' (first|refine d1 ?_|fail)
 refine rsH [blk pb [.pointer q, .slice (some ⟨g,0,none⟩) bs.length c] 91] 1000 [0,1,2,3,5,6,7,8,9,4,10,11] ?_
 repeat' (first|refine dd ?_|(show T _ (.run _ _ (_::_) _ _::_) _ _ _;first|refine rv rfl rfl rfl (Val.nilc rfl) rfl rfl rfl ?_|refine ro rfl rfl (OpT.ofVal rfl (Val.sliceData rfl (by omega)) rfl rfl rfl ⟨fun _=>Hle.sub,?_⟩)|refine ro rfl rfl (OpT.unsafeStr rfl rfl rfl rfl rfl (by kernel_rfl) h0 ⟨fun _=>Hle.sub,?_⟩))|(show T _ (.code .ret::_) _ _ _;refine T_retV _ rfl (Hle.none _) ⟨rfl,rfl⟩))
theorem cells22_le {l:List ByteArray} {b:Nat} (h:∀ t∈l,t.size≤b):(cells22 l).length≤(b+1) * l.length:=by
 induction l with
 | nil=>exact Nat.le_refl _
 | cons t l ih =>
  have h1:=h t (.head _)
  have h2:=ih fun y hy=>h y (.tail _ hy)
  have h3:t.data.toList.length=t.size:=by simp
  unfold cells22 at h2 ⊢
  rw [List.flatMap_cons,List.length_append,List.length_cons,List.length_cons,Nat.mul_succ]
  omega
def part22N (x:Co) (k:Nat):List UInt8:=(List.range k).flatMap fun k=>line22 (x.sg.getD k ByteArray.empty) (row22 x k)
theorem part22N_succ (x:Co) (k:Nat):part22N x (k+1)=part22N x k++line22 (x.sg.getD k ByteArray.empty) (row22 x k):=by unfold part22N;rw [List.range_succ,List.flatMap_append];simp
theorem part22N_all (x:Co):part22N x x.sg.length=print22 x:=rfl
theorem cell22_le {x:Co} (hs:Small22 x) (k i:Nat):(cell22 x k i).size≤12:=by
 unfold cell22 txt22
 split
 ·exact Nat.zero_le _
 ·split
  ·rename_i t ht
   have hm:=List.mem_of_getElem? ht
   rw [List.getD_eq_getElem?_getD] at hm
   cases hq:x.m[k]? with
   | none=>rw [hq] at hm;cases hm
   | some l=>rw [hq] at hm;exact hs.txt l (List.mem_of_getElem? hq) t hm
  ·exact Nat.zero_le _
theorem line22_le {x:Co} (hs:Small22 x) {k:Nat} (hk:k<x.sg.length):(line22 (x.sg.getD k ByteArray.empty) (row22 x k)).length≤333:=by
 have h1:=hs.sig _ (getD_mem22 ByteArray.empty hk)
 have h2:=cells22_le (l:=row22 x k) (b:=12) fun t ht=>by
  obtain⟨i,-,rfl⟩:=List.mem_map.1 ht
  exact cell22_le hs k i
 have h3:=hs.cols
 rw [row22_len] at h2
 have h4:(x.sg.getD k ByteArray.empty).data.toList.length=(x.sg.getD k ByteArray.empty).size:=by simp
 unfold line22
 rw [List.length_append,List.length_append,h4,List.length_singleton]
 omega
theorem part22N_le {x:Co} (hs:Small22 x):∀ k,k≤x.sg.length→(part22N x k).length≤333 * k
 | 0,_=>Nat.le_refl _
 | k+1,hk=>by
  have h1:=part22N_le hs k (by omega)
  have h2:=line22_le hs (k:=k) (by omega)
  rw [part22N_succ,List.length_append]
  omega
theorem printV22_ok {x:Co} (hs:Small22 x) (h:Ok22 x):printV22 x=(⟨(print22 x).toArray⟩,0):=by
 have h1:=part22N_le hs x.sg.length (Nat.le_refl _)
 have h2:=hs.sg
 rw [part22N_all] at h1
 unfold printV22
 rw [if_neg (by rw [chk22_iff.2 h];simp),if_neg (by omega)]
theorem row22_get {x:Co} {k i:Nat} (h:i<x.cols.length):(row22 x k)[i]?=some (cell22 x k i):=by unfold row22;rw [List.getElem?_map,List.getElem?_range h];rfl
theorem printP22_spec (x:Co) (A1:Option Addr) (c1:Nat) (l:List TS) (A2:Option Addr) (c2:Nat) (y3:Value) (w:World) (hx:CoAt w x A1 c1 l A2 c2 y3) (hs:Small22 x) :
  Spec Tryz.prog 25 [.agg (coL x.sec (.slice A1 x.sg.length c1) (.slice A2 l.length c2) y3).toArray] w (fun v R=>v = .tuple #[.string (printV22 x).1, .int .i64 (printV22 x).2]∧R=[]):=by
 obtain⟨Ak,ck,csk,rfl,hck1,hck2,hcs,hrows⟩:=hx.cols.tabS
 obtain⟨n,hn⟩:∃ n,x.sg.length=n:=⟨_,rfl⟩
 have hchk:∀ w',CoAt w' x A1 c1 l A2 c2 (.slice Ak x.cols.length ck)→Spec Tryz.prog 27 [.agg (coL x.sec (.slice A1 n c1) (.slice A2 l.length c2) (.slice Ak x.cols.length ck)).toArray] w' (fun v R=>v = .int .i64 (chk22 x)∧R=[]):=fun w' h'=>by
  have:=checkP22_spec x A1 c1 l A2 c2 _ w' h'
  rw [hn] at this
  exact this
 have hcolS:∀ (i:Nat) w',CoAt w' x A1 c1 l A2 c2 (.slice Ak x.cols.length ck)→Ok22 x→i<x.cols.length→Spec Tryz.prog 64 [.agg (coL x.sec (.slice A1 n c1) (.slice A2 l.length c2) (.slice Ak x.cols.length ck)).toArray, .int .i64 (i:Nat)] w' (fun v R=>∃ b:Nat,True∧v = .slice (some ⟨b,0,none⟩) n n∧R=[blk b ((col22 x i).map Value.string) 9]):=fun i w' h' h2 h3=>by
  have:=column22_spec x A1 c1 l A2 c2 _ i w' h' h2 h3
  rw [hn] at this
  exact this
 rw [hn]
 refine spec_of sg Tryz.func25 rfl rfl rfl ?_
 refine T_op (OpT.box (cs:=coL x.sec (.slice A1 n c1) (.slice A2 l.length c2) (.slice Ak x.cols.length ck)) rfl rfl rfl rfl rfl rfl rfl (fun pc=>?_))
 repeat' (first|refine d1 ?_|(show T _ (.ops _ (_::_)::_) _ _ _;refine T_call rfl rfl rfl rfl rfl (fun w hw=>hchk w (hx.cls hw)) ?_)|fail)
 refine T_if rfl (fun h=>?_) (fun h=>?_)
 ·simp only [Bool.not_eq_true',decide_eq_false_iff_not] at h
  have e:printV22 x=(ByteArray.empty,1):=if_pos h
  rw [e]
  repeat' (first|refine d1 ?_|(show T _ (.code .ret::_) _ _ _;refine T_retV [] rfl (Hle.none _) ⟨rfl,rfl⟩))
 simp only [Bool.not_eq_false',decide_eq_true_eq] at h
 have hok:=chk22_iff.1 h
 obtain⟨h1,h2,h3⟩:=hx.row hok
 have hs1:=hx.hd.s1
 have hcols:=hs.cols
 rw [hn] at h1 h2 h3 hs1
 rw [printV22_ok hs hok]
 obtain⟨bs1,os1,rfl⟩:=hs1.base (by omega)
 repeat' (first|refine d1 ?_|(show T _ (.ops _ (_::_)::_) _ _ _;refine T_op (OpT.make rfl rfl rfl rfl rfl rfl rfl rfl rfl (by dsimp only;omega) (fun b1=>?_)))|fail)
 have hz:List.replicate n (Value.slice none 0 0)=hd22 (fun _=>(none,0)) (cn22 0 0) n:=by
  refine List.ext_getElem? fun j=>?_
  rw [List.getElem?_replicate]
  by_cases hj:j<n
  ·rw [if_pos hj,hd22_get hj];rfl
  ·rw [if_neg hj,List.getElem?_eq_none (by rw [hd22_len];omega)]
 refine T_loopX (fun s:Nat × (Nat→Option Addr × Nat)=>[(21, .int .i64 (s.1:Nat))]) (fun s=>blk b1 (hd22 s.2 (cn22 s.1 0) n) 24::blk pc (coL x.sec (.slice (some ⟨bs1,os1,none⟩) n c1) (.slice A2 l.length c2) (.slice Ak x.cols.length ck)) 32::(List.range n).map (rw22 x s.2 (cn22 s.1 0))) (fun s=>s.1≤x.cols.length) (fun s=>x.cols.length - s.1) (0,fun _=>(none,0)) (Nat.zero_le _) ?_ (hG:=?_)
 rotate_left
 ·dsimp only
  refine Hle.trans (rows_nil (e:=9) (sz:=1) _ n) ?_
  rw [← hz]
  exact Hle.perm List.perm_append_comm
 rintro⟨i,ρ⟩ hi
 dsimp only at hi ⊢
 repeat' (first|refine d1 ?_|fail)
 refine T_if rfl (fun h5=>?_) (fun h5=>?_)
 ·simp only [decide_eq_true_eq] at h5
  have hin:i<x.cols.length:=by omega
  repeat' (first|refine d1 ?_|(show T _ (.ops _ (_::_)::_) _ _ _;refine T_callE rfl rfl rfl rfl rfl (fun w hw=>hcolS i w (hx.cls hw) hok hin) (fun b2 _=>?_))|fail)
  refine T_loopX (fun s:Nat × (Nat→Option Addr × Nat)=>[(28, .int .i64 (s.1:Nat))]) (fun s=>blk b1 (hd22 s.2 (cn22 i s.1) n) 24::blk b2 ((col22 x i).map Value.string) 9::blk pc (coL x.sec (.slice (some ⟨bs1,os1,none⟩) n c1) (.slice A2 l.length c2) (.slice Ak x.cols.length ck)) 32::(List.range n).map (rw22 x s.2 (cn22 i s.1))) (fun s=>s.1≤n) (fun s=>n - s.1) (0,ρ) (Nat.zero_le _) ?_ (hG:=Hle.perm (List.Perm.swap _ _ _))
  rintro⟨k,ρ⟩ hk
  dsimp only at hk ⊢
  repeat' (first|refine d1 ?_|fail)
  refine T_if rfl (fun h6=>?_) (fun h6=>?_)
  ·simp only [decide_eq_true_eq] at h6
   have hkn:k<n:=by omega
   refine T_le (H':=rw22 x ρ (cn22 i k) k::blk b1 (hd22 ρ (cn22 i k) n) 24::blk b2 ((col22 x i).map Value.string) 9::blk pc (coL x.sec (.slice (some ⟨bs1,os1,none⟩) n c1) (.slice A2 l.length c2) (.slice Ak x.cols.length ck)) 32::((List.range n).erase k).map (rw22 x ρ (cn22 i k))) (rows_out [_,_,_] _ hkn) ?_
   have hci:cn22 i k k=i:=by unfold cn22;rw [if_neg (by omega)]
   have hrk:rw22 x ρ (cn22 i k) k=row 9 1 (ρ k).1 (ρ k).2 i (((row22 x k).take i).map Value.string):=by unfold rw22;rw [hci]
   have hcg:((col22 x i).map Value.string)[k]?=some (.string (cell22 x k i)):=by rw [List.getElem?_map,col22_get (by omega)];rfl
   have hhg:(hd22 ρ (cn22 i k) n)[k]?=some (.slice (ρ k).1 i (ρ k).2):=by rw [hd22_get hkn,hci]
   rw [hrk]
   repeat' (first|refine d1 ?_|(show T _ (.ops _ (_::_)::_) _ _ _;first|refine T_val rfl (Val.load rfl (fun hg=>rdOwn1 (b:=b2) (u := .string (cell22 x k i)) (by rw [show 0+(k:Int).toNat * 1=k by omega];exact hcg))) rfl rfl rfl ?_|refine T_val rfl (Val.load rfl (fun hg=>rdOwn1 (b:=b1) (u := .slice (ρ k).1 i (ρ k).2) (by rw [show 0+(k:Int).toNat * 1=k by omega];exact hhg))) rfl rfl rfl ?_|refine T_op (OpT.append (A:=(ρ k).1) rfl rfl rfl rfl rfl rfl rfl rfl rfl rfl (fun w hw=>Src.own hw rfl) rfl (by dsimp only;omega) (by omega) (fun A5 c5 hA5=>?_))|refine T_op (OpT.store rfl rfl rfl rfl (by rw [hd22_len];omega) ?_))|(show ∀ _:Nat,T _ _ _ _ _;intro _))
   refine T_backX (k+1,up22 ρ k (A5,c5)) (by dsimp only;omega) (by dsimp only;omega) (hG:=?_)
   dsimp only
   rw [show 0+(k:Int).toNat * 1=k by omega,hd22_set (A5,c5) hkn]
   have htk:=take_snoc _ _ _ (row22_get (k:=k) hin)
   have e1:row 9 1 A5 c5 (i+1) (((row22 x k).take i).map Value.string++flatP [(0, .string (cell22 x k i))])=rw22 x (up22 ρ k (A5,c5)) (cn22 i (k+1)) k:=by
    unfold rw22 up22 cn22
    rw [if_pos rfl,if_pos (by omega),htk,List.map_append]
    rfl
   rw [e1]
   refine (Hle.tail _ _).trans ?_
   exact rows_in [_,_,_] _ _ hkn fun j hj=>by
    unfold rw22 up22 cn22
    rw [if_neg hj]
    by_cases h9:j<k
    ·rw [if_pos h9,if_pos (by omega)]
    ·rw [if_neg h9,if_neg (by omega)]
  ·simp only [decide_eq_false_iff_not] at h6
   obtain rfl:k=n:=by omega
   repeat' (first|refine d1 ?_|fail)
   refine T_backX (i+1,ρ) (by dsimp only;omega) (by dsimp only;omega) (hG:=?_)
   dsimp only
   rw [← hd22_full, ← rw22_full]
   exact Hle.perm (List.Perm.cons _ (List.Perm.refl _)) |>.trans (Hle.drop2 _ _ _)
 simp only [decide_eq_false_iff_not] at h5
 obtain rfl:i=x.cols.length:=by omega
 have hcn:∀ j,cn22 x.cols.length 0 j=x.cols.length:=fun j=>by unfold cn22;rw [if_neg (by omega)]
 refine T_le (H':=dat (hd22 ρ (cn22 x.cols.length 0) n) ((List.range n).map fun j=>strsD (row22 x j))::blk b1 (hd22 ρ (cn22 x.cols.length 0) n) 24::blk pc (coL x.sec (.slice (some ⟨bs1,os1,none⟩) n c1) (.slice A2 l.length c2) (.slice Ak x.cols.length ck)) 32::[]) ?_ ?_
 ·have e1:(List.range n).map (rw22 x ρ (cn22 x.cols.length 0))=(List.range n).map (fun j=>row 9 1 (ρ j).1 (ρ j).2 x.cols.length ((row22 x j).map Value.string)):=List.map_congr_left fun j _=>by
   unfold rw22
   rw [hcn,List.take_of_length_le (by rw [row22_len];omega)]
  have e2:hd22 ρ (cn22 x.cols.length 0) n=(List.range n).map fun j => .slice (ρ j).1 x.cols.length (ρ j).2:=List.map_congr_left fun j _=>by rw [hcn]
  rw [e1,e2]
  refine (Hle.perm (List.perm_append_comm (l₁:=[_,_]))).trans ((dat_nil _).trans ?_)
  have h9:=rows_acc (e:=9) ρ x.cols.length (fun j=>(row22 x j).map Value.string) [blk b1 ((List.range n).map fun j => .slice (ρ j).1 x.cols.length (ρ j).2) 24,blk pc (coL x.sec (.slice (some ⟨bs1,os1,none⟩) n c1) (.slice A2 l.length c2) (.slice Ak x.cols.length ck)) 32] (List.range n) [] []
  exact h9
 refine T_open fun p hp=>?_
 refine T_le (H':=blk b1 (hd22 ρ (cn22 x.cols.length 0) n) 24::fz p::blk pc (coL x.sec (.slice (some ⟨bs1,os1,none⟩) n c1) (.slice A2 l.length c2) (.slice Ak x.cols.length ck)) 32::[]) (Hle.perm (List.Perm.swap _ _ _)) ?_
 repeat' (first|refine d1 ?_|(show ∀ _:Nat,T _ _ _ _ _;intro _))
 rename_i pb
 refine T_nilrow 5 1 ?_
 refine T_loopX (fun s:Nat × Option Addr × Option Addr × Nat=>[(48, .int .i64 (s.1:Nat))]) (fun s=>bld22 pb s.2.1 s.2.2.1 s.2.2.2 (part22N x s.1) [blk b1 (hd22 ρ (cn22 x.cols.length 0) n) 24,fz p,blk pc (coL x.sec (.slice (some ⟨bs1,os1,none⟩) n c1) (.slice A2 l.length c2) (.slice Ak x.cols.length ck)) 32]) (fun s=>s.1≤n∧(s.2.1=none∨s.2.1=some ⟨pb,0,none⟩)) (fun s=>n - s.1) (0,none,none,0) ⟨Nat.zero_le _, .inl rfl⟩ ?_ (hG:=Hle.perm (List.Perm.swap _ _ _))
 rintro⟨k,q,A5,c5⟩ ⟨hk,hq⟩
 dsimp only at hk hq ⊢
 have hpl:=part22N_le hs k (by omega)
 have hsg36:=hs.sg
 repeat' (first|refine d1 ?_|fail)
 refine T_if rfl (fun h6=>?_) (fun h6=>?_)
 ·simp only [decide_eq_true_eq] at h6
  have hkn:k<n:=by omega
  obtain⟨s,hsk⟩:∃ s,x.sg[k]?=some s:=⟨_,List.getElem?_eq_getElem (by omega)⟩
  have hr:=src_str hs1 hkn hsk
  have hs20:=hs.sig s (List.mem_of_getElem? hsk)
  have hsd:x.sg.getD k ByteArray.empty=s:=by rw [List.getD_eq_getElem?_getD,hsk];rfl
  have hhg:(hd22 ρ (cn22 x.cols.length 0) n)[k]?=some (.slice (ρ k).1 x.cols.length (ρ k).2):=by rw [hd22_get hkn,hcn]
  have hyk:Rd (fr p) [.slice (ρ k).1 x.cols.length (ρ k).2] [strsD (row22 x k)]:=by
   obtain⟨u,hu,hru⟩:=hp.get (i:=k) (d:=strsD (row22 x k)) (by rw [List.getElem?_map,List.getElem?_range hkn];rfl)
   rw [hhg] at hu
   cases hu
   exact hru
  repeat' (first|refine d1 ?_|(show T _ (.ops _ (_::_)::_) _ _ _;first|refine T_val rfl (Val.load rfl (fun hg=>rdOwn1 (b:=b1) (u := .slice (ρ k).1 x.cols.length (ρ k).2) (by rw [show 0+(k:Int).toNat * 1=k by omega];exact hhg))) rfl rfl rfl ?_|refine T_op (OpT.callB rfl rfl rfl rfl rfl (line22_spec _ pb q hq A5 c5 (part22N x k) s _ (row22 x k) p _ hyk (by omega) (by rw [row22_len];omega) (fun t ht=>by obtain⟨j,-,rfl⟩:=List.mem_map.1 ht;have:=cell22_le hs k j;omega) (by omega)) (fun u R hR=>?_)))|fail)
  obtain⟨⟨A6,c6⟩,rfl,rfl⟩:=hR
  have hpl2:=part22N_le hs (k+1) (by omega)
  have e9:part22N x k++line22 s (row22 x k)=part22N x (k+1):=by rw [part22N_succ,hsd]
  rw [e9]
  dsimp only
  repeat' (first|refine d1 ?_|(show T _ (.ops _ (_::_)::_) _ _ _;refine T_call rfl rfl rfl rfl rfl (fun w hw=>len22_spec pb (some ⟨pb,0,none⟩) A6 (part22N x (k+1)).length c6 w (rdAll w hw)) ?_)|fail)
  refine T_if rfl (fun h7=>?_) (fun _=>?_)
  ·exfalso
   have h8:=of_decide_eq_true h7
   omega
  repeat' (first|refine d1 ?_|fail)
  exact T_backX (k+1,_,A6,c6) ⟨by dsimp only;omega, .inr rfl⟩ (by dsimp only;omega)
 ·simp only [decide_eq_false_iff_not] at h6
  obtain rfl:k=n:=by omega
  have hne:part22N x k≠[]:=by
   obtain⟨m,rfl⟩:∃ m,k=m+1:=⟨k - 1,by omega⟩
   rw [part22N_succ]
   unfold line22
   simp
  repeat' (first|refine d1 ?_|(show T _ (.ops _ (_::_)::_) _ _ _;refine T_op (OpT.callB rfl rfl rfl rfl rfl (string22_spec _ pb q A5 c5 (part22N x k) hne _) (fun u R hR=>?_)))|fail)
  obtain⟨rfl,rfl⟩:=hR
  have e9:print22 x=part22N x k:=by rw [← hn];rfl
  rw [e9]
  repeat' (first|(show T _ (.code .ret::_) _ _ _;refine T_retV [] rfl (Hle.none _) ⟨rfl,rfl⟩))
end Go.Proofs.YtblnhdnogjijiaaGreatDoor
namespace Go.Proofs.YtblnhdnogjijiaaGreatDoor
open Go.RowKit Go.Shelf Go.Proofs
set_option maxRecDepth 100000
set_option maxHeartbeats 1000000

theorem words22_spec (A:Option Addr) (n ca:Nat) (l:List ByteArray) (w:World) (hs:Src w 1 A n (l.map Value.string)) (hn:l.length=n) (hnb:n≤1000) :
  Spec Tryz.prog 50 [.slice A n ca] w (fun v R=>∃ x:Option Addr × Nat,True∧v = .slice x.1 n x.2∧R=[row 42 6 x.1 x.2 n ((l.map tokS).flatMap Tok.cells)]):=by
 refine spec_of sg Tryz.func50 rfl rfl rfl ?_
 repeat' (first|refine d1 ?_|fail)
 refine T_nilrow 42 6 ?_
 refine T_loopX (fun s:Nat × (Option Addr × Nat)=>[(8, .int .i64 (s.1:Nat)),(3, .slice s.2.1 s.1 s.2.2)]) (fun s=>[row 42 6 s.2.1 s.2.2 s.1 (((l.take s.1).map tokS).flatMap Tok.cells)]) (fun s=>s.1≤n) (fun s=>n - s.1) (0,(none,0)) (Nat.zero_le _) ?_
 rintro⟨k,⟨A3,c3⟩⟩ hk
 dsimp only at hk ⊢
 repeat' (first|refine d1 ?_|fail)
 refine T_if rfl (fun h=>?_) (fun h=>?_)
 ·simp only [decide_eq_true_eq] at h
  obtain⟨b,o,rfl⟩:=hs.base (by omega)
  obtain⟨s,hsk⟩:∃ s,l[k]?=some s:=⟨_,List.getElem?_eq_getElem (by omega)⟩
  have hr:RdC w b (o+(k:Int).toNat * 1) [.string s]:=by
   have h9:=(hs.get1 (i:=k) (by omega) (by rw [List.getElem?_map,hsk];rfl)).2
   rw [Nat.mul_one] at h9
   rw [off1];exact h9
  repeat' (first|refine d1 ?_|(show T _ (.ops _ (_::_)::_) _ _ _;refine T_op (OpT.append (A:=A3) rfl rfl rfl rfl rfl rfl rfl rfl rfl rfl (fun w hw=>Src.own hw rfl) rfl (by dsimp only;omega) (by omega) (fun A' cap' hA'=>?_)))|(show ∀ _:Nat,T _ _ _ _ _;intro _))
  refine T_backX (k+1,(A',cap')) (by dsimp only;omega) (by dsimp only;omega) (hG:=?_)
  dsimp only
  rw [take_snoc _ _ _ hsk,List.map_append,List.flatMap_append]
  exact Hle.tail _ _
 ·simp only [decide_eq_false_iff_not] at h
  obtain rfl:k=n:=by omega
  rw [← hn,List.take_length]
  repeat' (first|refine d1 ?_|(show T _ (.code .ret::_) _ _ _;refine T_retV _ rfl (Hle.refl _) ⟨(A3,c3),trivial,rfl,rfl⟩))
def s22d:ByteArray:=⟨#[100,101,117,115]⟩
def s22e:ByteArray:=⟨#[101,115,116]⟩
def s22n:ByteArray:=⟨#[110,111,110]⟩
def s22A:ByteArray:=⟨#[65]⟩
def s22B:ByteArray:=⟨#[66]⟩
def s22P:ByteArray:=⟨#[65,124,100,101,117,115,124,124,101,115,116,10,66,124,100,101,117,115,124,110,111,110,124,101,115,116,10]⟩
def aw22C:Costs:=⟨40,5,20,50⟩
def aw22a:List Tok:=[s22d,s22e].map tokS
def aw22b:List Tok:=[s22d,s22n,s22e].map tokS
def aw22l (x1 x2:Option Addr × Nat):List TS:=[⟨x1.1,2,x1.2,aw22a⟩,⟨x2.1,3,x2.2,aw22b⟩]
def aw22c:List (List Int):=[[0,0],[-1,1],[1,2]]
def aw22x:Co:=⟨sA,[s22A,s22B],[aw22a,aw22b],aw22c⟩
theorem aw22K:costE aw22C=0:=by decide +kernel
theorem aw22H:head22 sA [s22A,s22B] [aw22a,aw22b]=0:=by decide +kernel
theorem aw22W:alnW aw22C (aw22l (none,0) (none,0))=aw22c:=by decide +kernel
theorem aw22s:(∀ x∈aw22a,x.small)∧(∀ x∈aw22b,x.small):=by decide +kernel
theorem aw22t:(∀ x∈aw22a,x.text.size≤12)∧(∀ x∈aw22b,x.text.size≤12):=by decide +kernel
theorem aw22M (x1 x2:Option Addr × Nat):made22 aw22C sA [s22A,s22B] (aw22l x1 x2)=(aw22x,0)∧toks22 aw22C sA [s22A,s22B] (aw22l x1 x2)=aw22l x1 x2∧Ok22 aw22x:=by
 have hh:head22 sA [s22A,s22B] ((aw22l x1 x2).map TS.l)=0:=aw22H
 obtain⟨f1,f2,f3,f4,f5,f6,f7,f8⟩:=made22_facts (l:=aw22l x1 x2) aw22K hh (List.forall_mem_cons.2 ⟨rfl,List.forall_mem_cons.2 ⟨rfl,fun t h=>by cases h⟩⟩) (List.forall_mem_cons.2 ⟨Nat.le_of_ble_eq_true rfl,List.forall_mem_cons.2 ⟨Nat.le_of_ble_eq_true rfl,fun t h=>by cases h⟩⟩)
 have eC:colsC22 aw22C (aw22l x1 x2)=aw22c:=by
  unfold colsC22
  rw [if_pos (by show 2≤4;omega)]
  exact aw22W
 rw [eC] at f6 f7
 exact⟨f7,f8,⟨head22_iff.1 aw22H,f6⟩⟩
theorem aw22S:Small22 aw22x :=
 ⟨List.forall_mem_cons.2 ⟨⟨Nat.le_of_ble_eq_true rfl,aw22s.1⟩,List.forall_mem_cons.2 ⟨⟨Nat.le_of_ble_eq_true rfl,aw22s.2⟩,fun t h=>by cases h⟩⟩, .inl (Nat.le_of_ble_eq_true rfl),by decide,by decide,by decide,by decide,by decide,
  List.forall_mem_cons.2 ⟨aw22t.1,List.forall_mem_cons.2 ⟨aw22t.2,fun t h=>by cases h⟩⟩⟩
theorem aw22P:printV22 aw22x=(s22P,0):=by
 rw [printV22_ok aw22S (aw22M (none,0) (none,0)).2.2]
 have e:print22 aw22x=s22P.data.toList:=by decide +kernel
 rw [e]
theorem aw22F:findV22 aw22x 0 1=(2,0):=by
 have h1:=chk22_iff.2 (aw22M (none,0) (none,0)).2.2
 have h2:at22 aw22x 0 1=2:=by decide +kernel
 unfold findV22
 rw [if_neg (by rw [h1];simp),if_neg (by decide)]
 exact congrArg (fun z=>(z,(0:Int))) h2
theorem aw22N:chk22 ⟨sA,[],[],[]⟩=5:=by
 have e:head22 sA [] []=5:=by decide +kernel
 unfold chk22
 show (if head22 sA [] []≠0 then head22 sA [] [] else _)=_
 rw [e]
 rfl
theorem srcRow22 {w0 w:World} {H:List HA} {A:Option Addr} {e sz cap n:Nat} {xs:List Value} {rb:HA→List HA} [FocusR H A e sz cap n xs rb] (hw:Cls w0 w H):Src w sz A n xs :=
 srcRw (C:=⟨sg,⟨0,[]⟩,w0,none,fun _ _=>True,fun _ _=>True,fun _ _ _=>True⟩) (e:=e) (cap:=cap) (rb:=rb) w hw
theorem aw22_hd {w w':World} (hst:Std w) {b4 bS:Nat} {x1 x2:Option Addr × Nat} {H:List HA}
  (hw:Cls w w' (blk b4 ((aw22l x1 x2).map TS.val) 38::blk bS ([s22A,s22B].map Value.string) 9::row 42 6 x1.1 x1.2 2 (aw22a.flatMap Tok.cells)::row 42 6 x2.1 x2.2 3 (aw22b.flatMap Tok.cells)::H)) :
  HdAt w' sA [s22A,s22B] (some ⟨bS,0,none⟩) 2 (aw22l x1 x2) (some ⟨b4,0,none⟩) 2 :=
 ⟨hst.cls hw,Src.own (b:=bS) hw rfl,Nat.le_refl _,Src.own (b:=b4) hw rfl,
  ⟨List.forall_mem_cons.2 ⟨srcRow22 hw,List.forall_mem_cons.2 ⟨srcRow22 hw,fun t h=>by cases h⟩⟩,List.forall_mem_cons.2 ⟨rfl,List.forall_mem_cons.2 ⟨rfl,fun t h=>by cases h⟩⟩,List.forall_mem_cons.2 ⟨Nat.le_of_ble_eq_true rfl,List.forall_mem_cons.2 ⟨Nat.le_of_ble_eq_true rfl,fun t h=>by cases h⟩⟩⟩,
  by decide,by decide,by decide,Nat.le_of_ble_eq_true rfl,
  List.forall_mem_cons.2 ⟨⟨Nat.le_of_ble_eq_true rfl,aw22s.1⟩,List.forall_mem_cons.2 ⟨⟨Nat.le_of_ble_eq_true rfl,aw22s.2⟩,fun t h=>by cases h⟩⟩,
  List.forall_mem_cons.2 ⟨aw22t.1,List.forall_mem_cons.2 ⟨aw22t.2,fun t h=>by cases h⟩⟩⟩
theorem coNone {w:World} (hst:Std w):CoAt w ⟨sA,[],[],[]⟩ none 0 [] none 0 (.slice none 0 0) :=
 ⟨⟨hst,⟨rfl,fun h=>absurd h (Nat.not_lt_zero _)⟩,Nat.le_refl _,⟨rfl,fun h=>absurd h (Nat.not_lt_zero _)⟩,⟨fun t h=>(by cases h),fun t h=>(by cases h),fun t h=>(by cases h)⟩,by decide,fun t h=>(by cases h),Nat.zero_le _,Nat.zero_le _,fun t h=>(by cases h),fun t h=>(by cases h)⟩,rfl,
  Rd.s none 0 0 1 [] rfl (Nat.le_refl _) (by omega) (fun h=>absurd h (by omega)) .nil .nil⟩
theorem awake22_spec (w:World) (hst:Std w):Spec Tryz.prog 13 [] w (fun v R=>v = .bool true∧R=[]):=by
 refine spec_of sg Tryz.func13 rfl rfl rfl ?_
 repeat' (first|refine d1 ?_|(show T _ (.ops _ (_::_)::_) _ _ _;first|refine T_callE rfl rfl rfl rfl rfl (fun w hw=>words22_spec (some ⟨_,0,none⟩) 2 2 [s22d,s22e] w (Src.own hw rfl) rfl (by omega)) (fun x1 _=>?_)|refine T_callE rfl rfl rfl rfl rfl (fun w hw=>words22_spec (some ⟨_,0,none⟩) 3 3 [s22d,s22n,s22e] w (Src.own hw rfl) rfl (by omega)) (fun x2 _=>?_))|(show ∀ _:Nat,T _ _ _ _ _;intro _))
 rename_i b1 _ b2 _ b4 bS
 refine T_le (H':=[blk bS ([s22A,s22B].map Value.string) 9,blk b4 ((aw22l x1 x2).map TS.val) 38,row 42 6 x2.1 x2.2 3 (aw22b.flatMap Tok.cells),blk b2 ([s22d,s22n,s22e].map Value.string) 9,row 42 6 x1.1 x1.2 2 (aw22a.flatMap Tok.cells),blk b1 ([s22d,s22e].map Value.string) 9]) (Hle.refl _) ?_
 refine T_le (H':=[blk b4 ((aw22l x1 x2).map TS.val) 38,blk bS ([s22A,s22B].map Value.string) 9,row 42 6 x1.1 x1.2 2 (aw22a.flatMap Tok.cells),row 42 6 x2.1 x2.2 3 (aw22b.flatMap Tok.cells)]) Hle.srt2 ?_
 refine T_op (OpT.call rfl rfl rfl rfl rfl (fun w hw=>collateP22_spec aw22C sA [s22A,s22B] (some ⟨bS,0,none⟩) 2 (aw22l x1 x2) (some ⟨b4,0,none⟩) 2 w (aw22_hd hst hw) (.inl (Nat.le_of_ble_eq_true rfl))) ?_)
 rintro v R ⟨⟨y1,y2,y3⟩,-,rfl,rfl⟩
 rw [(aw22M x1 x2).1,(aw22M x1 x2).2.1]
 dsimp only
 refine T_open fun p hp=>?_
 obtain⟨Ak,ck,csk,rfl,-⟩:=hp.cons_inv.2.cons_inv.2.tab
 repeat' (first|refine d1 ?_|(show ∀ _:Nat,T _ _ _ _ _;intro _))
 rename_i c0 sS r0 r1 r2 tb pw
 refine T_le (H':=[blk pw (coL sA (.slice (some ⟨sS,0,none⟩) 2 2) (.slice (some ⟨b4,0,none⟩) 2 2) (.slice (some ⟨tb,0,none⟩) 3 3)) 32,blk tb [.slice (some ⟨r0,0,none⟩) 2 2, .slice (some ⟨r1,0,none⟩) 2 2, .slice (some ⟨r2,0,none⟩) 2 2] 47,blk r2 [.int .i64 1, .int .i64 2] 3,blk r1 [.int .i64 (-1), .int .i64 1] 3,blk r0 [.int .i64 0, .int .i64 0] 3,blk sS ([s22A,s22B].map Value.string) 9,blk c0 (coL aw22x.sec (.slice y1.1 aw22x.sg.length y1.2) (.slice y2.1 (aw22l x1 x2).length y2.2) (.slice Ak aw22x.cols.length ck)) 32,fz p,blk b4 ((aw22l x1 x2).map TS.val) 38,blk bS ([s22A,s22B].map Value.string) 9,row 42 6 x1.1 x1.2 2 (aw22a.flatMap Tok.cells),row 42 6 x2.1 x2.2 3 (aw22b.flatMap Tok.cells)]) (Hle.refl _) ?_
 refine T_le (H':=[blk b4 ((aw22l x1 x2).map TS.val) 38,blk sS ([s22A,s22B].map Value.string) 9,row 42 6 x1.1 x1.2 2 (aw22a.flatMap Tok.cells),row 42 6 x2.1 x2.2 3 (aw22b.flatMap Tok.cells),blk tb [.slice (some ⟨r0,0,none⟩) 2 2, .slice (some ⟨r1,0,none⟩) 2 2, .slice (some ⟨r2,0,none⟩) 2 2] 47,blk r0 [.int .i64 0, .int .i64 0] 3,blk r1 [.int .i64 (-1), .int .i64 1] 3,blk r2 [.int .i64 1, .int .i64 2] 3,blk pw (coL sA (.slice (some ⟨sS,0,none⟩) 2 2) (.slice (some ⟨b4,0,none⟩) 2 2) (.slice (some ⟨tb,0,none⟩) 3 3)) 32,blk c0 (coL aw22x.sec (.slice y1.1 aw22x.sg.length y1.2) (.slice y2.1 (aw22l x1 x2).length y2.2) (.slice Ak aw22x.cols.length ck)) 32,fz p]) Hle.srt2 ?_
 have hX:∀ {w':World} {H:List HA},Cls w w' (blk b4 ((aw22l x1 x2).map TS.val) 38::blk sS ([s22A,s22B].map Value.string) 9::row 42 6 x1.1 x1.2 2 (aw22a.flatMap Tok.cells)::row 42 6 x2.1 x2.2 3 (aw22b.flatMap Tok.cells)::blk tb [.slice (some ⟨r0,0,none⟩) 2 2, .slice (some ⟨r1,0,none⟩) 2 2, .slice (some ⟨r2,0,none⟩) 2 2] 47::blk r0 [.int .i64 0, .int .i64 0] 3::blk r1 [.int .i64 (-1), .int .i64 1] 3::blk r2 [.int .i64 1, .int .i64 2] 3::H)→CoAt w' aw22x (some ⟨sS,0,none⟩) 2 (aw22l x1 x2) (some ⟨b4,0,none⟩) 2 (.slice (some ⟨tb,0,none⟩) 3 3):=fun hw =>
  ⟨aw22_hd hst hw,rfl,rd_lit (n:=3) (Src.own (b:=tb) hw rfl) (by omega) ((rd_ints (b:=r0) (n:=2) (r:=[0,0]) (Src.own (b:=r0) hw rfl) (by omega)).append ((rd_ints (b:=r1) (n:=2) (r:=[-1,1]) (Src.own (b:=r1) hw rfl) (by omega)).append (rd_ints (b:=r2) (n:=2) (r:=[1,2]) (Src.own (b:=r2) hw rfl) (by omega))))⟩
 repeat' (first|refine d1 ?_|(show T _ (.ops _ (_::_)::_) _ _ _;first|refine T_call rfl rfl rfl rfl rfl (fun w hw=>printP22_spec aw22x (some ⟨sS,0,none⟩) 2 (aw22l x1 x2) (some ⟨b4,0,none⟩) 2 (.slice (some ⟨tb,0,none⟩) 3 3) w (hX hw) aw22S) ?_|refine T_call rfl rfl rfl rfl rfl (fun w hw=>findP22_spec aw22x (some ⟨sS,0,none⟩) 2 (aw22l x1 x2) (some ⟨b4,0,none⟩) 2 (.slice (some ⟨tb,0,none⟩) 3 3) 0 1 w (hX hw)) ?_)|fail)
 rw [aw22P,aw22F]
 have hY:∀ {w':World} {H:List HA},Cls w w' (blk b4 ((aw22l x1 x2).map TS.val) 38::blk sS ([s22A,s22B].map Value.string) 9::row 42 6 x1.1 x1.2 2 (aw22a.flatMap Tok.cells)::row 42 6 x2.1 x2.2 3 (aw22b.flatMap Tok.cells)::blk tb [.slice (some ⟨r0,0,none⟩) 2 2, .slice (some ⟨r1,0,none⟩) 2 2, .slice (some ⟨r2,0,none⟩) 2 2] 47::blk r0 [.int .i64 0, .int .i64 0] 3::blk r1 [.int .i64 (-1), .int .i64 1] 3::blk r2 [.int .i64 1, .int .i64 2] 3::H)→CoSm w' aw22x (some ⟨sS,0,none⟩) 2 (aw22l x1 x2) (some ⟨b4,0,none⟩) 2 (.slice (some ⟨tb,0,none⟩) 3 3):=fun hw =>
  ⟨rd_lit (n:=2) (hX hw).hd.s1 (by omega) (Rd.vals _),(hX hw).hd.s2,Nat.le_of_ble_eq_true rfl,(hX hw).hd.ok,rfl,(hX hw).cols⟩
 repeat' (first|refine d1 ?_|(show T _ (.ops _ (_::_)::_) _ _ _;first|refine T_callC rfl rfl rfl rfl rfl rfl rfl (fun _ w hw=>sameR22_spec aw22x aw22x y1.1 (some ⟨sS,0,none⟩) y1.2 2 (aw22l x1 x2) (aw22l x1 x2) y2.1 (some ⟨b4,0,none⟩) y2.2 2 _ _ w (ofP22 hp rfl hw (hX hw).hd.ok) (hY hw)) ?_|refine T_callC rfl rfl rfl rfl rfl rfl rfl (fun _ w hw=>sameP22_spec aw22x aw22x y1.1 (some ⟨sS,0,none⟩) y1.2 2 (aw22l x1 x2) (aw22l x1 x2) y2.1 (some ⟨b4,0,none⟩) y2.2 2 _ _ w (ofP22 hp rfl hw (hX hw).hd.ok) (hY hw)) ?_|refine T_callC rfl rfl rfl rfl rfl rfl rfl (fun _ w hw=>checkP22_spec ⟨sA,[],[],[]⟩ none 0 [] none 0 (.slice none 0 0) w (coNone (hst.cls hw))) ?_)|fail)
 rw [same22_refl,aw22N,show decide ((s22P,(0:Int)).1=(⟨#[65,124,100,101,117,115,124,124,101,115,116,10,66,124,100,101,117,115,124,110,111,110,124,101,115,116,10]⟩:ByteArray))=true from decide_eq_true rfl]
 exact T_retM (vs:=[.bool true]) [] ⟨rfl,trivial⟩ (Hle.none _) ⟨rfl,rfl⟩
end Go.Proofs.YtblnhdnogjijiaaGreatDoor
namespace Go.Proofs.YtblnhdnogjijiaaGreatDoor
open Go.RowKit Go.Shelf Go.Proofs
set_option maxRecDepth 100000
set_option maxHeartbeats 1000000

structure CoAr (w:World) (x:Co) (A1:Option Addr) (c1:Nat) (l:List TS) (A2:Option Addr) (c2:Nat) (y3:Value):Prop where
 r1:Rd (wr w) [.slice A1 x.sg.length c1] [strsD x.sg]
 s1:Src w 1 A1 x.sg.length (x.sg.map Value.string)
 b1:x.sg.length≤c1
 b1':x.sg.length≤9223372036854775807
 s2:Src w 1 A2 l.length (l.map TS.val)
 b2:l.length≤9223372036854775807
 ok:TsOk w l
 m:l.map TS.l=x.m
 cols:Rd (wr w) [y3] [rowsD x.cols]
theorem co_arg {w:World} {x:Co} {y1 y2 y3:Value} (h:CoRd w y1 y2 y3 x):∃ (A1:Option Addr) (c1:Nat) (l:List TS) (A2:Option Addr) (c2:Nat),y1 = .slice A1 x.sg.length c1∧y2 = .slice A2 l.length c2∧CoAr w x A1 c1 l A2 c2 y3:=by
 obtain⟨h1,h2,h3⟩:=h
 obtain⟨A1,c1,rfl,g1,g2,g3⟩:=h1.strs
 obtain⟨A2,c2,l,rfl,g4,g5,g6,g7⟩:=h2.toksL
 exact⟨A1,c1,l,A2,c2,rfl,rfl,⟨h1,g3,g1,by omega,g5,g4,g6,g7,h3⟩⟩
theorem CoAr.cls {w0 w:World} {H:List HA} {x:Co} {A1 A2:Option Addr} {c1 c2:Nat} {l:List TS} {y3:Value} (h:CoAr w0 x A1 c1 l A2 c2 y3) (hw:Cls w0 w H):CoAr w x A1 c1 l A2 c2 y3 :=
 ⟨h.r1.old hw,h.s1.old hw,h.b1,h.b1',h.s2.old hw,h.b2,⟨fun t ht=>src_below (h.ok.src t ht) hw.below,h.ok.len,h.ok.bd⟩,h.m,h.cols.old hw⟩
theorem CoAr.sm {w:World} {x:Co} {A1 A2:Option Addr} {c1 c2:Nat} {l:List TS} {y3:Value} (h:CoAr w x A1 c1 l A2 c2 y3):CoSm w x A1 c1 l A2 c2 y3:=⟨h.r1,h.s2,h.b2,h.ok,h.m,h.cols⟩
theorem CoAr.at {w:World} {x:Co} {A1 A2:Option Addr} {c1 c2:Nat} {l:List TS} {y3:Value} (h:CoAr w x A1 c1 l A2 c2 y3) (hst:Std w) (hs:Small22 x):CoAt w x A1 c1 l A2 c2 y3 :=
 have hl:x.m.length=l.length:=by rw [← h.m,List.length_map]
 have hm:∀ t∈l,t.l∈x.m:=fun t ht=>by rw [← h.m];exact List.mem_map_of_mem ht
 ⟨⟨hst,h.s1,h.b1,h.s2,h.ok,hs.sec,hs.sig,hs.sg,by have:=hs.len;omega,fun t ht=>⟨by have:=(hs.tok _ (hm t ht)).1;rw [h.ok.len t ht] at this;exact this,(hs.tok _ (hm t ht)).2⟩,fun t ht=>hs.txt _ (hm t ht)⟩,h.m,h.cols⟩
theorem CoAr.great {w:World} {x:Co} {A1 A2:Option Addr} {c1 c2:Nat} {l:List TS} {y3:Value} (h:CoAr w x A1 c1 l A2 c2 y3) :
  Spec Tryz.prog 20 [.agg (coL x.sec (.slice A1 x.sg.length c1) (.slice A2 l.length c2) y3).toArray] w (fun v R=>v = .bool (great22 x)∧R=[]) :=
 great22_spec x A1 c1 l A2 c2 y3 w h.s1 h.b1' h.s2 h.ok h.b2 h.m h.cols
end Go.Proofs.YtblnhdnogjijiaaGreatDoor
namespace Go.Proofs.YtblnhdnogjijiaaGreatDoor
open Go.RowKit Go.Shelf Go.Proofs
set_option maxRecDepth 100000
set_option maxHeartbeats 1000000

end Go.Proofs.YtblnhdnogjijiaaGreatDoor
namespace Go.Proofs.YtblnhdnogjijiaaGreatDoor
open Go.RowKit Go.Shelf Go.Proofs
set_option maxRecDepth 100000
set_option maxHeartbeats 1000000

theorem columns22_fn (sec:ByteArray) (y1 y2:Value) (n:Nat) (Ak Al:Option Addr) (ck nl cl:Nat) (A1 A2:Option Addr) (c1 c2 n1 n2:Nat) (w:World) (e1:y1 = .slice A1 n1 c1) (e2:y2 = .slice A2 n2 c2):Spec Tryz.prog 128 [.agg (coL sec y1 y2 (.slice Ak n ck)).toArray, .slice Al nl cl] w
  (fun v R=>∃ g:Nat × Nat,True∧v = .func (.func 184) #[] #[.pointer (some ⟨g.1,0,none⟩), .pointer (some ⟨g.2,0,none⟩)]∧R=[blk g.2 [.slice Al nl cl] 47,blk g.1 (coL sec y1 y2 (.slice Ak n ck)) 32]):=by
 subst e1 e2
 refine spec_of sg Tryz.func128 rfl rfl rfl ?_
 refine T_op (OpT.box (cs:=coL sec (.slice A1 n1 c1) (.slice A2 n2 c2) (.slice Ak n ck)) rfl rfl rfl rfl rfl rfl rfl (fun g1=>?_))
 refine T_op (OpT.box (cs:=[.slice Al nl cl]) rfl rfl rfl rfl rfl rfl rfl (fun g2=>?_))
 repeat' (first|refine d1 ?_|(show T _ (.code .ret::_) _ _ _;refine T_retV _ rfl (Hle.refl _) ⟨(g1,g2),trivial,rfl,rfl⟩))
theorem prjC_yes {ks:List Nat} {r:List Int} {cols:List (List Int)} {i:Nat} (h:cols[i]?=some r) (hp:anyP (prjR ks r)=true):prjC ks (cols.take (i+1))=prjC ks (cols.take i)++[prjR ks r]:=by
 unfold prjC
 rw [take_snoc _ _ _ h,List.map_append,List.filter_append]
 congr 1
 show List.filter anyP [prjR ks r]=_
 rw [List.filter_cons,if_pos hp,List.filter_nil]
theorem prjC_no {ks:List Nat} {r:List Int} {cols:List (List Int)} {i:Nat} (h:cols[i]?=some r) (hp:anyP (prjR ks r)=false):prjC ks (cols.take (i+1))=prjC ks (cols.take i):=by
 unfold prjC
 rw [take_snoc _ _ _ h,List.map_append,List.filter_append]
 show _++List.filter anyP [prjR ks r]=_
 rw [List.filter_cons,if_neg (by rw [hp];simp),List.filter_nil,List.append_nil]
theorem prjC_get {ks:List Nat} {r:List Int} {cols:List (List Int)} {i:Nat} (h:cols[i]?=some r) (hp:anyP (prjR ks r)=true):(prjC ks cols)[(prjC ks (cols.take i)).length]?=some (prjR ks r):=by
 have h1:prjC ks cols=prjC ks (cols.take (i+1))++prjC ks (cols.drop (i+1)):=by
  unfold prjC
  rw [← List.filter_append, ← List.map_append,List.take_append_drop]
 rw [h1,prjC_yes h hp,List.append_assoc,List.getElem?_append_right (Nat.le_refl _),Nat.sub_self];rfl
def Q22 (ks:List Nat) (cols:List (List Int)) (j:Nat) (x:List Value) (B:List HA):Prop :=
 ∃ (i:Int) (r:List Int) (A:Option Addr) (c:Nat),(prjC ks cols)[j]?=some r∧x=[.int .i64 i, .slice A r.length c]∧B=[row 3 1 A c r.length (r.map (Value.int .i64))]
theorem columns22_iter {w0:World} {x:Co} {A1 A2 Ak Al:Option Addr} {c1 c2 ck cl:Nat} {l:List TS} (hx:CoAt w0 x A1 c1 l A2 c2 (.slice Ak x.cols.length ck)) (hok:Ok22 x) {ks:List Nat} (hks:Src w0 1 Al ks.length ((intN ks).map (Value.int .i64))) (hlt:∀ k∈ks,k<x.sg.length) (hkn:ks.length≤1000) (p1 p2:Nat) :
  IterO Tryz.prog w0 184 [] [.pointer (some ⟨p1,0,none⟩), .pointer (some ⟨p2,0,none⟩)]
   [blk p2 [.slice Al ks.length cl] 47,blk p1 (coL x.sec (.slice A1 x.sg.length c1) (.slice A2 l.length c2) (.slice Ak x.cols.length ck)) 32]
   (Q22 ks x.cols) (prjC ks x.cols).length:=by
 obtain⟨Ak',ck',csk,e,hck1,hck2,hcs,hrows⟩:=hx.cols.tabS
 cases e
 obtain⟨h1,h2,h3⟩:=hx.row hok
 refine iterO_of sg Tryz.func184 rfl rfl rfl ?_
 intro l' GQ X Hj hY h0
 show T _ _ _ _ (blk p2 [.slice Al ks.length cl] 47::blk p1 (coL x.sec (.slice A1 x.sg.length c1) (.slice A2 l.length c2) (.slice Ak x.cols.length ck)) 32::Hj)
 repeat' (first|refine d1 ?_|fail)
 refine T_loopX (fun s:Nat × List HA=>[(13, .int .i64 (s.1:Nat))]) (fun s=>blk p2 [.slice Al ks.length cl] 47::blk p1 (coL x.sec (.slice A1 x.sg.length c1) (.slice A2 l.length c2) (.slice Ak x.cols.length ck)) 32::s.2) (fun s=>s.1≤x.cols.length∧GQ (prjC ks (x.cols.take s.1)).length s.2) (fun s=>x.cols.length - s.1) (0,Hj) ⟨Nat.zero_le _,h0⟩ ?_
 rintro⟨i,H1⟩ ⟨hi,hG⟩
 dsimp only at hi hG ⊢
 repeat' (first|refine d1 ?_|fail)
 refine T_if rfl (fun h=>?_) (fun h=>?_)
 ·simp only [decide_eq_true_eq] at h
  obtain⟨r,hr⟩:∃ r,x.cols[i]?=some r:=⟨_,List.getElem?_eq_getElem (by omega)⟩
  obtain⟨b6,o6,rfl⟩:=hcs.base (by omega)
  obtain⟨Au,capu,hu2,-,-,hA8⟩:=hrows.tabRow hr
  have hrl:=(hx.entry hok hr (k:=0) (by omega)).1
  obtain⟨b7,o7,rfl,hA9⟩:=hA8 (by omega)
  have hxr:RdC w0 b6 (o6+(i:Int).toNat * 1) [.slice (some ⟨b7,o7,none⟩) r.length capu]:=by
   have h9:=(hcs.get1 (i:=i) (by omega) hu2).2
   rw [Nat.mul_one] at h9
   rw [off1];exact h9
  repeat' (first|refine d1 ?_|fail)
  refine T_nilrow 3 1 ?_
  refine T_loopX (fun s:Nat × Option Addr × Nat=>[(20, .int .i64 (s.1:Nat)),(6, .slice s.2.1 s.1 s.2.2),(7, .bool (anyP (prjR (ks.take s.1) r)))]) (fun s=>row 3 1 s.2.1 s.2.2 s.1 ((prjR (ks.take s.1) r).map (Value.int .i64))::blk p2 [.slice Al ks.length cl] 47::blk p1 (coL x.sec (.slice A1 x.sg.length c1) (.slice A2 l.length c2) (.slice (some ⟨b6,o6,none⟩) x.cols.length ck)) 32::H1) (fun s=>s.1≤ks.length) (fun s=>ks.length - s.1) (0,none,0) (Nat.zero_le _) ?_
  rintro⟨k,A',c'⟩ hk
  dsimp only at hk ⊢
  repeat' (first|refine d1 ?_|fail)
  refine T_if rfl (fun h5=>?_) (fun h5=>?_)
  ·simp only [decide_eq_true_eq] at h5
   obtain⟨s,hs⟩:∃ s,ks[k]?=some s:=⟨_,List.getElem?_eq_getElem (by omega)⟩
   have hsn:=hlt s (List.mem_of_getElem? hs)
   obtain⟨bl,ol,rfl⟩:=hks.base (by omega)
   have hls:RdC w0 bl (ol+(k:Int).toNat * 1) [.int .i64 (s:Int)]:=by
    have h9:=(hks.get1 (i:=k) (by omega) (by unfold intN;rw [List.getElem?_map,List.getElem?_map,hs];rfl)).2
    rw [Nat.mul_one] at h9
    rw [off1];exact h9
   obtain⟨z,hz⟩:∃ z,r[s]?=some z:=⟨_,List.getElem?_eq_getElem (by omega)⟩
   have hrz:RdC w0 b7 (o7+(s:Int).toNat * 1) [.int .i64 z]:=by rw [off1];exact RdC.one (hA9 s _ hz)
   have hp:prjR (ks.take (k+1)) r=prjR (ks.take k) r++[z]:=by
    unfold prjR
    rw [take_snoc _ _ _ hs,List.map_append]
    show _++[r.getD s (-1)]=_
    rw [List.getD_eq_getElem?_getD,hz];rfl
   repeat' (first|refine d1 ?_|(show T _ (.ops _ (_::_)::_) _ _ _;refine T_op (OpT.append (A:=A') rfl rfl rfl rfl rfl rfl rfl rfl rfl rfl (fun w hw=>Src.own hw rfl) rfl (by dsimp only;omega) (by omega) (fun A9 c9 hA=>?_)))|(show ∀ _:Nat,T _ _ _ _ _;intro _))
   have ha:anyP (prjR (ks.take (k+1)) r)=(anyP (prjR (ks.take k) r) || decide (0≤z)):=by
    rw [hp];unfold anyP;rw [List.any_append,List.any_cons,List.any_nil,Bool.or_false]
   refine T_backX (k+1,A9,c9) (by dsimp only;omega) (by dsimp only;omega) (hE:=⟨rfl,rfl,by dsimp only;rw [ha];rfl,trivial⟩) (hG:=?_)
   dsimp only
   rw [hp,List.map_append]
   exact Hle.tail _ _
  ·simp only [decide_eq_false_iff_not] at h5
   obtain rfl:k=ks.length:=by omega
   rw [List.take_length]
   cases hpo:anyP (prjR ks r) with
   | true =>
    have hpg:=prjC_get hr hpo
    have hy:=prjC_yes hr hpo
    repeat' (first|refine d1 ?_|(show T _ (.ops _ (_::_)::_) _ _ _;refine T_op (OpT.yieldO [row 3 1 A' c' ks.length ((prjR ks r).map (Value.int .i64))] [blk p2 [.slice Al ks.length cl] 47,blk p1 (coL x.sec (.slice A1 x.sg.length c1) (.slice A2 l.length c2) (.slice (some ⟨b6,o6,none⟩) x.cols.length ck)) 32] hY rfl rfl (Holds.of1 rfl rfl rfl) rfl rfl rfl (List.getElem?_eq_some_iff.1 hpg).1 ⟨(i:Int),prjR ks r,A',c',hpg,by rw [prjR_len],by rw [prjR_len]⟩ hG (Hle.comm [_,_,_] H1) (fun H2 hG2=>?_) (fun Y hX=>?_)))|fail)
    ·show T _ _ _ _ (blk p2 [.slice Al ks.length cl] 47::blk p1 (coL x.sec (.slice A1 x.sg.length c1) (.slice A2 l.length c2) (.slice (some ⟨b6,o6,none⟩) x.cols.length ck)) 32::H2)
     skip
     refine T_if rfl (fun h3=>by exfalso;simp at h3) (fun _=>?_)
     repeat' (first|refine d1 ?_|fail)
     exact T_backX (i+1,H2) ⟨by dsimp only;omega,by dsimp only;rw [hy,List.length_append];exact hG2⟩ (by dsimp only;omega)
    ·show T _ _ _ _ (blk p2 [.slice Al ks.length cl] 47::blk p1 (coL x.sec (.slice A1 x.sg.length c1) (.slice A2 l.length c2) (.slice (some ⟨b6,o6,none⟩) x.cols.length ck)) 32::Y)
     skip
     refine T_if rfl (fun _=>?_) (fun h3=>by exfalso;simp at h3)
     repeat' (first|(show T _ (.code .ret::_) _ _ _;refine T_istop rfl Y hX (Hle.refl _)))
   | false =>
    have hy:=prjC_no hr hpo
    repeat' (first|refine d1 ?_|(show T _ (.ops _ (_::_)::_) _ _ _;refine T_op (OpT.never (.bool false) rfl (fun hg9=>by have h10:(false:Bool)=true:=hg9.1;cases h10) rfl rfl rfl rfl rfl ?_))|fail)
    refine T_if rfl (fun h3=>by exfalso;simp at h3) (fun _=>?_)
    repeat' (first|refine d1 ?_|fail)
    exact T_backX (i+1,H1) ⟨by dsimp only;omega,by dsimp only;rw [hy];exact hG⟩ (by dsimp only;omega) (hG:=Hle.tail _ _)
 ·simp only [decide_eq_false_iff_not] at h
  obtain rfl:i=x.cols.length:=by omega
  rw [List.take_length] at hG
  skip
  exact T_ifall rfl H1 hG (Hle.refl _)
end Go.Proofs.YtblnhdnogjijiaaGreatDoor
namespace Go.Proofs.YtblnhdnogjijiaaGreatDoor
open Go.RowKit Go.Shelf Go.Proofs
set_option maxRecDepth 100000
set_option maxHeartbeats 2000000

def TS0:TS:=⟨none,0,0,[]⟩
def resC22 (x:Co) (l:List TS) (v:Value) (R:List HA):Prop :=
 ∃ y:(Option Addr × Nat) × (Option Addr × Nat) × Value,True∧v = .agg (coL x.sec (.slice y.1.1 x.sg.length y.1.2) (.slice y.2.1.1 l.length y.2.1.2) y.2.2).toArray∧R=[dat [.slice y.1.1 x.sg.length y.1.2, .slice y.2.1.1 l.length y.2.1.2,y.2.2] [strsD x.sg, .s 1 ((l.map TS.val).map .v),rowsD x.cols]]
def tks22 (l:List TS) (ks:List Nat):List TS:=ks.map fun k=>l.getD k TS0
theorem tks22_len (l:List TS) (ks:List Nat):(tks22 l ks).length=ks.length:=List.length_map ..
theorem pick22_len (x:Co) (ks:List Nat):(pick22 x ks).sg.length=ks.length:=List.length_map ..
theorem co_join2 {Ac:Option Addr} {cc q:Nat} {hs:List Value} {cols:List (List Int)} {A1 A2:Option Addr} {c1 c2 n m:Nat} {sg':List ByteArray} {cs:List Value} {H:List HA} :
  Hle (row 47 1 Ac cc q hs::dat hs (cols.map intsD)::row 38 1 A2 c2 m cs::row 9 1 A1 c1 n (sg'.map Value.string)::H) (dat [.slice A1 n c1, .slice A2 m c2, .slice Ac q cc] [strsD sg', .s 1 (cs.map .v),rowsD cols]::H):=by
 refine dat_row.trans ?_
 refine (Hle.perm (List.Perm.swap _ _ _)).trans ?_
 refine dat_rowV.trans ?_
 refine (Hle.perm (List.Perm.swap _ _ _)).trans ?_
 refine dat_join.trans ?_
 refine (Hle.perm (List.Perm.swap _ _ _)).trans ?_
 refine dat_rowV.trans ?_
 refine (Hle.perm (List.Perm.swap _ _ _)).trans ?_
 exact dat_join
theorem choose22_spec (x:Co) (A1:Option Addr) (c1:Nat) (l:List TS) (A2:Option Addr) (c2:Nat) (Ak:Option Addr) (ck:Nat) (ks:List Nat) (Al:Option Addr) (cl:Nat) (w:World) (hx:CoAt w x A1 c1 l A2 c2 (.slice Ak x.cols.length ck)) (hok:Ok22 x)
  (hks:Src w 1 Al ks.length ((intN ks).map (Value.int .i64))) (hlt:∀ k∈ks,k<x.sg.length) (hkn:ks.length≤1000) (hcn:x.cols.length≤1000) :
  Spec Tryz.prog 71 [.agg (coL x.sec (.slice A1 x.sg.length c1) (.slice A2 l.length c2) (.slice Ak x.cols.length ck)).toArray, .slice Al ks.length cl] w (resC22 (pick22 x ks) (tks22 l ks)):=by
 obtain⟨h1,h2,h3⟩:=hx.row hok
 refine spec_of sg Tryz.func71 rfl rfl rfl ?_
 refine T_op (OpT.box (cs:=coL x.sec (.slice A1 x.sg.length c1) (.slice A2 l.length c2) (.slice Ak x.cols.length ck)) rfl rfl rfl rfl rfl rfl rfl (fun p2=>?_))
 repeat' (first|refine d1 ?_|(show ∀ _:Nat,T _ _ _ _ _;intro _))
 rename_i pr p5
 refine T_nilrow 9 1 ?_
 refine T_nilrow 38 1 ?_
 refine T_loopX (fun s:Nat × (Option Addr × Nat) × (Option Addr × Nat)=>[(15, .int .i64 (s.1:Nat))]) (fun s=>[blk p5 (coL x.sec (.slice s.2.1.1 s.1 s.2.1.2) (.slice s.2.2.1 s.1 s.2.2.2) (.slice none 0 0)) 32,row 9 1 s.2.1.1 s.2.1.2 s.1 (((ks.take s.1).map fun k=>x.sg.getD k ByteArray.empty).map Value.string),row 38 1 s.2.2.1 s.2.2.2 s.1 (((ks.take s.1).map fun k=>l.getD k TS0).map TS.val),blk pr (coL ByteArray.empty (.slice none 0 0) (.slice none 0 0) (.slice none 0 0)) 32,blk p2 (coL x.sec (.slice A1 x.sg.length c1) (.slice A2 l.length c2) (.slice Ak x.cols.length ck)) 32]) (fun s=>s.1≤ks.length) (fun s=>ks.length - s.1) (0,(none,0),(none,0)) (Nat.zero_le _) ?_ (hG:=by exact Hle.srt2)
 rintro⟨k,⟨Aa,ca⟩,⟨Ab,cb⟩⟩ hk
 dsimp only at hk ⊢
 repeat' (first|refine d1 ?_|fail)
 refine T_if rfl (fun h=>?_) (fun h=>?_)
 ·simp only [decide_eq_true_eq] at h
  obtain⟨s,hs⟩:∃ s,ks[k]?=some s:=⟨_,List.getElem?_eq_getElem (by omega)⟩
  have hsn:=hlt s (List.mem_of_getElem? hs)
  obtain⟨bl,ol,rfl⟩:=hks.base (by omega)
  have hls:RdC w bl (ol+(k:Int).toNat * 1) [.int .i64 (s:Int)]:=by
   have h9:=(hks.get1 (i:=k) (by omega) (by unfold intN;rw [List.getElem?_map,List.getElem?_map,hs];rfl)).2
   rw [Nat.mul_one] at h9
   rw [off1];exact h9
  obtain⟨t,ht⟩:∃ t,l[s]?=some t:=⟨_,List.getElem?_eq_getElem (by omega)⟩
  obtain⟨g,hg⟩:∃ g,x.sg[s]?=some g:=⟨_,List.getElem?_eq_getElem (by omega)⟩
  obtain⟨b2,o2,rfl⟩:=hx.hd.s2.base (by omega)
  obtain⟨b1,o1,rfl⟩:=hx.hd.s1.base (by omega)
  have hrt:=hx.hd.hdr ht
  have hrg:=src_str hx.hd.s1 hsn hg
  repeat' (first|refine d1 ?_|fail)
  refine T_cutX 1 [] (fun _:(Option Addr × Nat) × (Option Addr × Nat)=>[]) (fun s=>[blk p5 (coL x.sec (.slice s.1.1 (k+1) s.1.2) (.slice s.2.1 (k+1) s.2.2) (.slice none 0 0)) 32,row 9 1 s.1.1 s.1.2 (k+1) (((ks.take k).map fun k=>x.sg.getD k ByteArray.empty).map Value.string++flatP [(0, .string g)]),row 38 1 s.2.1 s.2.2 (k+1) (((ks.take k).map fun k=>l.getD k TS0).map TS.val++flatP [(0, .slice t.A t.n t.cap)]),blk pr (coL ByteArray.empty (.slice none 0 0) (.slice none 0 0) (.slice none 0 0)) 32,blk p2 (coL x.sec (.slice (some ⟨b1,o1,none⟩) x.sg.length c1) (.slice (some ⟨b2,o2,none⟩) l.length c2) (.slice Ak x.cols.length ck)) 32]) (fun _=>True) ?_ ?_
  ·refine dw0 19 [blk p5 (coL x.sec (.slice Aa k ca) (.slice Ab k cb) (.slice none 0 0)) 32,blk p2 (coL x.sec (.slice (some ⟨b1,o1,none⟩) x.sg.length c1) (.slice (some ⟨b2,o2,none⟩) l.length c2) (.slice Ak x.cols.length ck)) 32] ?_
   repeat' (first|(show T _ (.draw _ _ _ _ _::_) _ _ _;first|refine dw1 ?_|refine dwb rfl (by decide +kernel) ?_)|(show AllL _ [];exact True.intro)|(show AllL _ (_::_);refine ⟨?_,?_⟩)|(show OpT _ _ _ _ _ _ _;first|refine dwx ?_|refine OpT.ofVal rfl (Val.load rfl (fun hg=>rdOwn1 rfl)) rfl rfl rfl ⟨fun _=>(by first|exact Hle.none _|exact Hle.sub|exact absurd ‹_› (by decide +kernel)),?_⟩|refine OpT.ofVal rfl (Val.load rfl (fun hg=>rdOld hrt)) rfl rfl rfl ⟨fun _=>(by first|exact Hle.none _|exact Hle.sub|exact absurd ‹_› (by decide +kernel)),?_⟩|refine OpT.append (A:=Aa) rfl rfl rfl rfl rfl rfl rfl rfl rfl rfl (fun w hw=>Src.own hw rfl) rfl (by dsimp only;omega) (by omega) (fun _ _ _=>⟨fun _=>(by first|exact Hle.none _|exact Hle.sub|exact absurd ‹_› (by decide +kernel)),?_⟩)|refine OpT.append (A:=Ab) rfl rfl rfl rfl rfl rfl rfl rfl rfl rfl (fun w hw=>Src.own hw rfl) rfl (by dsimp only;omega) (by omega) (fun _ _ _=>⟨fun _=>(by first|exact Hle.none _|exact Hle.sub|exact absurd ‹_› (by decide +kernel)),?_⟩))|(show ∀ _:Nat,T _ _ _ _ _;intro _)|(show T _ (.mark _::_) _ _ _;exact T_meetX ((_,_),(_,_)) trivial (hG:=by exact Hle.srt2)))
  rintro⟨⟨Aa',ca'⟩,⟨Ab',cb'⟩⟩ -
  dsimp only
  repeat' (first|refine d1 ?_|fail)
  refine T_backX (k+1,(Aa',ca'),(Ab',cb')) (by dsimp only;omega) (by dsimp only;omega) (hG:=?_)
  dsimp only
  rw [take_snoc _ _ _ hs,List.map_append,List.map_append,List.map_append,List.map_append]
  have e1:x.sg.getD s ByteArray.empty=g:=by rw [List.getD_eq_getElem?_getD,hg];rfl
  have e2:l.getD s TS0=t:=by rw [List.getD_eq_getElem?_getD,ht];rfl
  show Hle _ [_,row _ _ _ _ _ (_++[.string (x.sg.getD s ByteArray.empty)]),row _ _ _ _ _ (_++[(l.getD s TS0).val]),_,_]
  rw [e1,e2]
  exact Hle.refl _
 ·simp only [decide_eq_false_iff_not] at h
  obtain rfl:k=ks.length:=by omega
  rw [List.take_length]
  repeat' (first|refine d1 ?_|(show T _ (.ops _ (_::_)::_) _ _ _;refine T_op (OpT.call rfl rfl rfl rfl rfl (fun w hw=>columns22_fn x.sec _ _ x.cols.length Ak Al ck ks.length cl A1 A2 c1 c2 x.sg.length l.length w rfl rfl) (fun u R hR=>?_)))|fail)
  obtain⟨⟨g1,g2⟩,-,rfl,rfl⟩:=hR
  refine T_le (H':=[blk g2 [.slice Al ks.length cl] 47,blk g1 (coL x.sec (.slice A1 x.sg.length c1) (.slice A2 l.length c2) (.slice Ak x.cols.length ck)) 32,blk p5 (coL x.sec (.slice Aa ks.length ca) (.slice Ab ks.length cb) (.slice none 0 0)) 32,row 9 1 Aa ca ks.length ((ks.map fun k=>x.sg.getD k ByteArray.empty).map Value.string),row 38 1 Ab cb ks.length ((ks.map fun k=>l.getD k TS0).map TS.val),blk pr (coL ByteArray.empty (.slice none 0 0) (.slice none 0 0) (.slice none 0 0)) 32,blk p2 (coL x.sec (.slice A1 x.sg.length c1) (.slice A2 l.length c2) (.slice Ak x.cols.length ck)) 32]) (Hle.refl _) ?_
  refine T_le (H':=[blk g2 [.slice Al ks.length cl] 47,blk g1 (coL x.sec (.slice A1 x.sg.length c1) (.slice A2 l.length c2) (.slice Ak x.cols.length ck)) 32,blk p5 (coL x.sec (.slice Aa ks.length ca) (.slice Ab ks.length cb) (.slice none 0 0)) 32,row 9 1 Aa ca ks.length ((ks.map fun k=>x.sg.getD k ByteArray.empty).map Value.string),row 38 1 Ab cb ks.length ((ks.map fun k=>l.getD k TS0).map TS.val),blk pr (coL ByteArray.empty (.slice none 0 0) (.slice none 0 0) (.slice none 0 0)) 32]) Hle.srt2 ?_
  refine T_nilrow 47 1 ?_
  refine T_le (H':=dat [] []::[row 47 1 none 0 0 [],blk g2 [.slice Al ks.length cl] 47,blk g1 (coL x.sec (.slice A1 x.sg.length c1) (.slice A2 l.length c2) (.slice Ak x.cols.length ck)) 32,blk p5 (coL x.sec (.slice Aa ks.length ca) (.slice Ab ks.length cb) (.slice none 0 0)) 32,row 9 1 Aa ca ks.length ((ks.map fun k=>x.sg.getD k ByteArray.empty).map Value.string),row 38 1 Ab cb ks.length ((ks.map fun k=>l.getD k TS0).map TS.val),blk pr (coL ByteArray.empty (.slice none 0 0) (.slice none 0 0) (.slice none 0 0)) 32]) (hle_unit Rd.nil) ?_
  have hpl:(prjC ks x.cols).length≤x.cols.length:=by
   unfold prjC
   exact Nat.le_trans (List.length_filter_le _ _) (by rw [List.length_map];exact Nat.le_refl _)
  refine T_rangeO (columns22_iter hx hok hks hlt hkn g1 g2) rfl (fun j y B hj hQ=>by obtain⟨i,r,A,c,_,rfl,_⟩:=hQ;exact⟨rfl,rfl⟩)
   (fun jj H=>∃ (Ac:Option Addr) (cc:Nat) (hs:List Value),hs.length=jj∧H=[blk p5 (coL x.sec (.slice Aa ks.length ca) (.slice Ab ks.length cb) (.slice Ac jj cc)) 32,row 47 1 Ac cc jj hs,dat hs (((prjC ks x.cols).take jj).map intsD),row 9 1 Aa ca ks.length ((ks.map fun k=>x.sg.getD k ByteArray.empty).map Value.string),row 38 1 Ab cb ks.length ((ks.map fun k=>l.getD k TS0).map TS.val),blk pr (coL ByteArray.empty (.slice none 0 0) (.slice none 0 0) (.slice none 0 0)) 32]) (fun _=>False) (fun _ _=>False) [blk p5 (coL x.sec (.slice Aa ks.length ca) (.slice Ab ks.length cb) (.slice none 0 0)) 32,row 47 1 none 0 0 [],dat [] [],row 9 1 Aa ca ks.length ((ks.map fun k=>x.sg.getD k ByteArray.empty).map Value.string),row 38 1 Ab cb ks.length ((ks.map fun k=>l.getD k TS0).map TS.val),blk pr (coL ByteArray.empty (.slice none 0 0) (.slice none 0 0) (.slice none 0 0)) 32] ⟨none,0,[],rfl,rfl⟩
   (by show Hle _ [blk g2 [.slice Al ks.length cl] 47,blk g1 (coL x.sec (.slice A1 x.sg.length c1) (.slice A2 l.length c2) (.slice Ak x.cols.length ck)) 32,blk p5 (coL x.sec (.slice Aa ks.length ca) (.slice Ab ks.length cb) (.slice none 0 0)) 32,row 47 1 none 0 0 [],dat [] [],row 9 1 Aa ca ks.length ((ks.map fun k=>x.sg.getD k ByteArray.empty).map Value.string),row 38 1 Ab cb ks.length ((ks.map fun k=>l.getD k TS0).map TS.val),blk pr (coL ByteArray.empty (.slice none 0 0) (.slice none 0 0) (.slice none 0 0)) 32];exact Hle.srt2) ?_ ?_ (fun _ _ h=>h.elim) (fun _ _ _ h=>h.elim)
  ·rintro Lp r5 jj y B Hj K2 hr5 hj hQ ⟨Ac,cc,hs,hl,rfl⟩
   obtain⟨i,r,Ar,cr,hr,rfl,rfl⟩:=hQ
   show T _ _ ((44, .slice Ar r.length cr)::(43, .int .i64 i)::_) _ (lrec Lp r5::([blk p5 (coL x.sec (.slice Aa ks.length ca) (.slice Ab ks.length cb) (.slice Ac jj cc)) 32,row 47 1 Ac cc jj hs,dat hs (((prjC ks x.cols).take jj).map intsD),row 9 1 Aa ca ks.length ((ks.map fun k=>x.sg.getD k ByteArray.empty).map Value.string),row 38 1 Ab cb ks.length ((ks.map fun k=>l.getD k TS0).map TS.val),blk pr (coL ByteArray.empty (.slice none 0 0) (.slice none 0 0) (.slice none 0 0)) 32]++([row 3 1 Ar cr r.length (r.map (Value.int .i64))]++K2)))
   repeat' (first|refine d1 ?_|fail)
   refine T_begin hr5 rfl ?_
   have hjc:jj<x.cols.length:=by omega
   refine T_le (H':=lrec Lp (busy r5)::blk p5 (coL x.sec (.slice Aa ks.length ca) (.slice Ab ks.length cb) (.slice Ac jj cc)) 32::row 47 1 Ac cc jj hs::dat hs (((prjC ks x.cols).take jj).map intsD)::row 9 1 Aa ca ks.length ((ks.map fun k=>x.sg.getD k ByteArray.empty).map Value.string)::row 38 1 Ab cb ks.length ((ks.map fun k=>l.getD k TS0).map TS.val)::blk pr (coL ByteArray.empty (.slice none 0 0) (.slice none 0 0) (.slice none 0 0)) 32::row 3 1 Ar cr r.length (r.map (Value.int .i64))::K2) (Hle.refl _) ?_
   repeat' (first|refine d1 ?_|(show T _ (.ops _ (_::_)::_) _ _ _;refine T_op (OpT.append (A:=Ac) rfl rfl rfl rfl rfl rfl rfl rfl rfl rfl (fun w hw=>Src.own hw rfl) rfl (by dsimp only;omega) (by omega) (fun A9 c9 hA9=>?_)))|(show ∀ _:Nat,T _ _ _ _ _;intro _))
   rename_i bl
   refine T_next [blk p5 (coL x.sec (.slice Aa ks.length ca) (.slice Ab ks.length cb) (.slice A9 (jj+1) c9)) 32,row 47 1 A9 c9 (jj+1) (hs++[.slice Ar r.length cr]),dat (hs++[.slice Ar r.length cr]) (((prjC ks x.cols).take (jj+1)).map intsD),row 9 1 Aa ca ks.length ((ks.map fun k=>x.sg.getD k ByteArray.empty).map Value.string),row 38 1 Ab cb ks.length ((ks.map fun k=>l.getD k TS0).map TS.val),blk pr (coL ByteArray.empty (.slice none 0 0) (.slice none 0 0) (.slice none 0 0)) 32] ⟨A9,c9,hs++[.slice Ar r.length cr],by rw [List.length_append,hl];rfl,rfl⟩ ?_
   have hdn:∀ H:List HA,Hle (row 3 1 Ar cr r.length (r.map (Value.int .i64))::dat hs (((prjC ks x.cols).take jj).map intsD)::H) (dat (hs++[.slice Ar r.length cr]) (((prjC ks x.cols).take (jj+1)).map intsD)::H):=fun H=>by
    refine dat_rowV.trans (dat_join.trans ?_)
    rw [take_snoc _ _ _ hr,List.map_append]
    show Hle (dat _ (_++[.s 1 ((r.map (Value.int .i64)).map .v)])::H) _
    rw [List.map_map]
    exact Hle.refl _
   exact (show Hle ([blk bl (flatP [(0, .slice Ar r.length cr)]) 47,lrec Lp (busy r5),blk p5 (coL x.sec (.slice Aa ks.length ca) (.slice Ab ks.length cb) (.slice A9 (jj+1) c9)) 32,row 47 1 A9 c9 (jj+1) (hs++[.slice Ar r.length cr]),dat hs (((prjC ks x.cols).take jj).map intsD),row 9 1 Aa ca ks.length ((ks.map fun k=>x.sg.getD k ByteArray.empty).map Value.string),row 38 1 Ab cb ks.length ((ks.map fun k=>l.getD k TS0).map TS.val),blk pr (coL ByteArray.empty (.slice none 0 0) (.slice none 0 0) (.slice none 0 0)) 32,row 3 1 Ar cr r.length (r.map (Value.int .i64))]++K2) ([row 3 1 Ar cr r.length (r.map (Value.int .i64)),dat hs (((prjC ks x.cols).take jj).map intsD),lrec Lp (busy r5),blk p5 (coL x.sec (.slice Aa ks.length ca) (.slice Ab ks.length cb) (.slice A9 (jj+1) c9)) 32,row 47 1 A9 c9 (jj+1) (hs++[.slice Ar r.length cr]),row 9 1 Aa ca ks.length ((ks.map fun k=>x.sg.getD k ByteArray.empty).map Value.string),row 38 1 Ab cb ks.length ((ks.map fun k=>l.getD k TS0).map TS.val),blk pr (coL ByteArray.empty (.slice none 0 0) (.slice none 0 0) (.slice none 0 0)) 32]++K2) from Hle.srtT K2).trans ((hdn _).trans (show Hle ([dat (hs++[.slice Ar r.length cr]) (((prjC ks x.cols).take (jj+1)).map intsD),lrec Lp (busy r5),blk p5 (coL x.sec (.slice Aa ks.length ca) (.slice Ab ks.length cb) (.slice A9 (jj+1) c9)) 32,row 47 1 A9 c9 (jj+1) (hs++[.slice Ar r.length cr]),row 9 1 Aa ca ks.length ((ks.map fun k=>x.sg.getD k ByteArray.empty).map Value.string),row 38 1 Ab cb ks.length ((ks.map fun k=>l.getD k TS0).map TS.val),blk pr (coL ByteArray.empty (.slice none 0 0) (.slice none 0 0) (.slice none 0 0)) 32]++K2) ([lrec Lp (busy r5),blk p5 (coL x.sec (.slice Aa ks.length ca) (.slice Ab ks.length cb) (.slice A9 (jj+1) c9)) 32,row 47 1 A9 c9 (jj+1) (hs++[.slice Ar r.length cr]),dat (hs++[.slice Ar r.length cr]) (((prjC ks x.cols).take (jj+1)).map intsD),row 9 1 Aa ca ks.length ((ks.map fun k=>x.sg.getD k ByteArray.empty).map Value.string),row 38 1 Ab cb ks.length ((ks.map fun k=>l.getD k TS0).map TS.val),blk pr (coL ByteArray.empty (.slice none 0 0) (.slice none 0 0) (.slice none 0 0)) 32]++K2) from Hle.srtT K2))
  ·rintro D Hn ⟨Ac,cc,hs,hl,rfl⟩
   rw [List.take_length]
   show T _ _ _ _ (dfr D::blk g2 [.slice Al ks.length cl] 47::blk g1 (coL x.sec (.slice A1 x.sg.length c1) (.slice A2 l.length c2) (.slice Ak x.cols.length ck)) 32::[blk p5 (coL x.sec (.slice Aa ks.length ca) (.slice Ab ks.length cb) (.slice Ac (prjC ks x.cols).length cc)) 32,row 47 1 Ac cc (prjC ks x.cols).length hs,dat hs ((prjC ks x.cols).map intsD),row 9 1 Aa ca ks.length ((ks.map fun k=>x.sg.getD k ByteArray.empty).map Value.string),row 38 1 Ab cb ks.length ((tks22 l ks).map TS.val),blk pr (coL ByteArray.empty (.slice none 0 0) (.slice none 0 0) (.slice none 0 0)) 32])
   repeat' (first|refine d1 ?_|fail)
   refine T_le (H':=dfr D::[blk pr (coL x.sec (.slice Aa ks.length ca) (.slice Ab ks.length cb) (.slice Ac (prjC ks x.cols).length cc)) 32,row 47 1 Ac cc (prjC ks x.cols).length hs,dat hs ((prjC ks x.cols).map intsD),row 38 1 Ab cb ks.length ((tks22 l ks).map TS.val),row 9 1 Aa ca ks.length ((ks.map fun k=>x.sg.getD k ByteArray.empty).map Value.string)]) Hle.srtV ?_
   exact T_retD (H':=[blk pr (coL x.sec (.slice Aa ks.length ca) (.slice Ab ks.length cb) (.slice Ac (prjC ks x.cols).length cc)) 32,row 47 1 Ac cc (prjC ks x.cols).length hs,dat hs ((prjC ks x.cols).map intsD),row 38 1 Ab cb ks.length ((tks22 l ks).map TS.val),row 9 1 Aa ca ks.length ((ks.map fun k=>x.sg.getD k ByteArray.empty).map Value.string)]) (Hle.refl _) (rf_M (ds:=[]) (vs:=[.agg (coL x.sec (.slice Aa ks.length ca) (.slice Ab ks.length cb) (.slice Ac (prjC ks x.cols).length cc)).toArray]) _ ⟨⟨pr,_,coL x.sec (.slice Aa ks.length ca) (.slice Ab ks.length cb) (.slice Ac (prjC ks x.cols).length cc),rfl,rfl,rfl,rfl,(fun h=>by cases h),rfl,rdAll⟩,trivial⟩ ((Hle.tail _ _).trans (co_join2.trans (Hle.nth 0 rfl))) ⟨((Aa,ca),(Ab,cb), .slice Ac (prjC ks x.cols).length cc),trivial,by rw [pick22_len,tks22_len];rfl,by rw [pick22_len,tks22_len];rfl⟩)
end Go.Proofs.YtblnhdnogjijiaaGreatDoor
namespace Go.Proofs.YtblnhdnogjijiaaGreatDoor
open Go.RowKit Go.Shelf Go.Proofs
set_option maxRecDepth 100000
set_option maxHeartbeats 2000000

noncomputable def keepT22 (x:Co) (l:List TS) (z:List Int):List TS:=if (keepV22 x z).2≠0 then [] else tks22 l (z.map Int.toNat)
noncomputable def turnT22 (x:Co) (l:List TS) (z:List Int):List TS:=if (turnV22 x z).2≠0 then [] else tks22 l (z.map Int.toNat)
theorem intN_of {z:List Int} (h:∀ k∈z,0≤k):intN (z.map Int.toNat)=z:=by
 unfold intN
 rw [List.map_map]
 refine (List.map_congr_left fun k hk=>?_).trans (List.map_id _)
 have:=h k hk
 show ((k.toNat:Nat):Int)=k
 omega
theorem lt_of22 {z:List Int} {n:Nat} (h:∀ k∈z,0≤k∧k<(n:Int)):∀ k∈z.map Int.toNat,k<n:=by
 intro k hk
 obtain⟨y,hy,rfl⟩:=List.mem_map.1 hk
 have:=h y hy
 omega
theorem src_int1 {w:World} {b o n:Nat} {z:List Int} (hs:Src w 1 (some ⟨b,o,none⟩) n (z.map (Value.int .i64))) {k:Nat} {i:Int} (hk:k<n) (h:z[k]?=some i):RdC w b (o+(k:Int).toNat * 1) [.int .i64 i]:=by
 have h9:=(hs.get1 (i:=k) hk (by rw [List.getElem?_map,h];rfl)).2
 rw [Nat.mul_one] at h9
 rw [off1];exact h9
theorem keepP22_spec (x:Co) (A1:Option Addr) (c1:Nat) (l:List TS) (A2:Option Addr) (c2:Nat) (Ak:Option Addr) (ck:Nat) (z:List Int) (Al:Option Addr) (n cl:Nat) (w:World) (hx:CoAt w x A1 c1 l A2 c2 (.slice Ak x.cols.length ck))
  (hz:Src w 1 Al n (z.map (Value.int .i64))) (hn:z.length=n) (hkn:n≤1000) (hcn:x.cols.length≤1000) :
  Spec Tryz.prog 33 [.agg (coL x.sec (.slice A1 x.sg.length c1) (.slice A2 l.length c2) (.slice Ak x.cols.length ck)).toArray, .slice Al n cl] w (resP22 (keepV22 x z).1 (keepT22 x l z) (keepV22 x z).2):=by
 refine spec_of sg Tryz.func33 rfl rfl rfl ?_
 refine T_op (OpT.box (cs:=coL x.sec (.slice A1 x.sg.length c1) (.slice A2 l.length c2) (.slice Ak x.cols.length ck)) rfl rfl rfl rfl rfl rfl rfl (fun p2=>?_))
 repeat' (first|refine d1 ?_|(show T _ (.ops _ (_::_)::_) _ _ _;refine T_call rfl rfl rfl rfl rfl (fun w hw=>checkP22_spec x A1 c1 l A2 c2 _ w (hx.cls hw)) ?_)|(show ∀ _:Nat,T _ _ _ _ _;intro _))
 rename_i pr
 have herr:∀ e:Int,e≠0→keepV22 x z=(co0,e)→keepT22 x l z=[]:=fun e he h=>by unfold keepT22;rw [h];exact if_pos he
 refine T_if rfl (fun h=>?_) (fun h=>?_)
 ·have hc:chk22 x≠0:=by simpa using h
  have e1:keepV22 x z=(co0,1):=if_pos hc
  rw [herr 1 (by decide) e1,e1]
  repeat' (first|refine d1 ?_|fail)
  exact T_retM (vs:=[.agg (coL ByteArray.empty (.slice none 0 0) (.slice none 0 0) (.slice none 0 0)).toArray, .int .i64 1]) _ ⟨⟨pr,_,coL ByteArray.empty (.slice none 0 0) (.slice none 0 0) (.slice none 0 0),rfl,rfl,rfl,rfl,(fun h=>by cases h),rfl,rdAll⟩,rfl,trivial⟩ (co_nil1 _) ⟨((none,0),(none,0), .slice none 0 0),trivial,rfl,rfl⟩
 have hc:chk22 x=0:=by simpa using h
 have hok:=chk22_iff.1 hc
 obtain⟨h1,h2,h3⟩:=hx.row hok
 repeat' (first|refine d1 ?_|fail)
 refine T_if rfl (fun h4=>?_) (fun h4=>?_)
 ·have h5:z.length=0:=by simp at h4;omega
  have e1:keepV22 x z=(co0,5):=by unfold keepV22;rw [if_neg (by rw [hc];simp),if_pos h5]
  rw [herr 5 (by decide) e1,e1]
  repeat' (first|refine d1 ?_|fail)
  exact T_retM (vs:=[.agg (coL ByteArray.empty (.slice none 0 0) (.slice none 0 0) (.slice none 0 0)).toArray, .int .i64 5]) _ ⟨⟨pr,_,coL ByteArray.empty (.slice none 0 0) (.slice none 0 0) (.slice none 0 0),rfl,rfl,rfl,rfl,(fun h=>by cases h),rfl,rdAll⟩,rfl,trivial⟩ (co_nil1 _) ⟨((none,0),(none,0), .slice none 0 0),trivial,rfl,rfl⟩
 have h5:z.length≠0:=by simp at h4;omega
 obtain⟨bl,ol,rfl⟩:=hz.base (by omega)
 have hE:∀ e:Int,e≠0→kpE22 x.sg.length none z=e→keepV22 x z=(co0,e):=fun e he h=>by unfold keepV22;rw [if_neg (by rw [hc];simp),if_neg h5,if_pos (by rw [h];exact he),h]
 repeat' (first|refine d1 ?_|fail)
 refine T_loopX (fun s:Nat=>[(18, .int .i64 (s:Nat))]) (fun _=>[blk pr (coL ByteArray.empty (.slice none 0 0) (.slice none 0 0) (.slice none 0 0)) 32,blk p2 (coL x.sec (.slice A1 x.sg.length c1) (.slice A2 l.length c2) (.slice Ak x.cols.length ck)) 32]) (fun s=>s≤n∧kpE22 x.sg.length none z=kpE22 x.sg.length (prev22 z s) (z.drop s)) (fun s=>n - s) 0 ⟨Nat.zero_le _,rfl⟩ ?_
 rintro k ⟨hk,hke⟩
 try dsimp only at hk hke
 repeat' (first|refine d1 ?_|fail)
 refine T_if rfl (fun h=>?_) (fun h=>?_)
 ·simp only [decide_eq_true_eq] at h
  obtain⟨i,hi⟩:∃ i,z[k]?=some i:=⟨_,List.getElem?_eq_getElem (by omega)⟩
  have hri:=src_int1 hz (k:=k) (by omega) hi
  rw [kpE22_step hi] at hke
  repeat' (first|refine d1 ?_|fail)
  refine T_if rfl (fun h6=>?_) (fun h6=>?_)
  ·have h7:i<0∨(x.sg.length:Int)≤i:=by simpa using h6
   have e1:=hE 2 (by decide) (hke.trans (if_pos h7))
   rw [herr 2 (by decide) e1,e1]
   repeat' (first|refine d1 ?_|fail)
   exact T_retM (vs:=[.agg (coL ByteArray.empty (.slice none 0 0) (.slice none 0 0) (.slice none 0 0)).toArray, .int .i64 2]) _ ⟨⟨pr,_,coL ByteArray.empty (.slice none 0 0) (.slice none 0 0) (.slice none 0 0),rfl,rfl,rfl,rfl,(fun h=>by cases h),rfl,rdAll⟩,rfl,trivial⟩ (co_nil1 _) ⟨((none,0),(none,0), .slice none 0 0),trivial,rfl,rfl⟩
  have h7:¬ (i<0∨(x.sg.length:Int)≤i):=by simp only [Bool.or_eq_false_iff,decide_eq_false_iff_not] at h6;omega
  rw [if_neg h7] at hke
  obtain⟨q,hq⟩:∃ q:Int,0<(k:Int)→RdC w bl (ol+((k:Int) - 1).toNat * 1) [.int .i64 q]∧prev22 z k=some q:=by
   cases k with
   | zero=>exact⟨0,fun h=>absurd h (by decide)⟩
   | succ k =>
    obtain⟨q,hq⟩:∃ q,z[k]?=some q:=⟨_,List.getElem?_eq_getElem (by omega)⟩
    exact⟨q,fun _=>⟨by rw [show ((k+1:Nat):Int) - 1=(k:Int) by omega];exact src_int1 hz (by omega) hq,hq⟩⟩
  have hle:leP22 (prev22 z k) i=(decide (0<(k:Int)) && decide (i≤q)):=by
   cases k with
   | zero=>rfl
   | succ k =>
    have h8:(0:Int)<((k+1:Nat):Int):=by omega
    rw [(hq h8).2,decide_eq_true h8];rfl
  repeat' (first|refine d1 ?_|(show T _ (.ops _ (_::_)::_) _ _ _;refine T_valC rfl (Val.load rfl (fun hg=>rdOld (hq (by ((simp only [List.cons_append,List.nil_append,GP,dstL,lookE,Nat.beq,cond,List.getElem?_cons_zero,List.getElem?_cons_succ,Option.bind_some,and_true,Bool.and_eq_true,Bool.or_eq_true,Bool.and_eq_false_iff,Bool.or_eq_false_iff,Bool.not_eq_true',Bool.not_eq_false',decide_eq_true_eq,decide_eq_false_iff_not] at hg);omega))).1)) rfl rfl rfl rfl rfl ?_)|fail)
  refine T_if rfl (fun h8=>?_) (fun h8=>?_)
  ·rw [if_pos (by rw [hle];exact h8)] at hke
   have e1:=hE 10 (by decide) hke
   rw [herr 10 (by decide) e1,e1]
   repeat' (first|refine d1 ?_|fail)
   exact T_retM (vs:=[.agg (coL ByteArray.empty (.slice none 0 0) (.slice none 0 0) (.slice none 0 0)).toArray, .int .i64 10]) _ ⟨⟨pr,_,coL ByteArray.empty (.slice none 0 0) (.slice none 0 0) (.slice none 0 0),rfl,rfl,rfl,rfl,(fun h=>by cases h),rfl,rdAll⟩,rfl,trivial⟩ (co_nil1 _) ⟨((none,0),(none,0), .slice none 0 0),trivial,rfl,rfl⟩
  rw [if_neg (by rw [hle,h8];decide)] at hke
  repeat' (first|refine d1 ?_|fail)
  exact T_backX (k+1) (by exact⟨by omega,hke⟩) (by omega) (hG:=by exact Hle.refl _)
 ·simp only [decide_eq_false_iff_not] at h
  obtain rfl:k=n:=by omega
  rw [kpE22_end (by omega)] at hke
  have hz2:=kpE22_zero hke
  have e1:keepV22 x z=(pick22 x (z.map Int.toNat),0):=by unfold keepV22;rw [if_neg (by rw [hc];simp),if_neg h5,if_neg (by rw [hke];simp)]
  have e2:keepT22 x l z=tks22 l (z.map Int.toNat):=by unfold keepT22;rw [e1];exact if_neg (fun h=>h rfl)
  rw [e1,e2]
  have hni:=intN_of fun k hk=>(hz2 k hk).1
  have hlt:=lt_of22 hz2
  have hln:(z.map Int.toNat).length=k:=by rw [List.length_map];exact hn
  generalize z.map Int.toNat=ks at hni hlt hln ⊢
  subst hni hln
  repeat' (first|refine d1 ?_|(show T _ (.ops _ (_::_)::_) _ _ _;refine T_op (OpT.call rfl rfl rfl rfl rfl (fun w hw=>choose22_spec x A1 c1 l A2 c2 Ak ck ks (some ⟨bl,ol,none⟩) cl w (hx.cls hw) hok (hz.old hw) hlt hkn hcn) ?_))|fail)
  rintro v R ⟨⟨y1,y2,y3⟩,-,rfl,rfl⟩
  dsimp only
  refine T_open fun p hp=>?_
  obtain⟨Ay,cy,csy,rfl,-⟩:=hp.cons_inv.2.cons_inv.2.tab
  refine T_le (H':=[fz p,blk pr (coL ByteArray.empty (.slice none 0 0) (.slice none 0 0) (.slice none 0 0)) 32,blk p2 (coL x.sec (.slice A1 x.sg.length c1) (.slice A2 l.length c2) (.slice Ak x.cols.length ck)) 32]) (Hle.refl _) ?_
  repeat' (first|refine d1 ?_|fail)
  exact T_retM (vs:=[.agg (coL (pick22 x ks).sec (.slice y1.1 (pick22 x ks).sg.length y1.2) (.slice y2.1 (tks22 l ks).length y2.2) (.slice Ay (pick22 x ks).cols.length cy)).toArray, .int .i64 0]) _ ⟨⟨pr,_,coL (pick22 x ks).sec (.slice y1.1 (pick22 x ks).sg.length y1.2) (.slice y2.1 (tks22 l ks).length y2.2) (.slice Ay (pick22 x ks).cols.length cy),rfl,rfl,rfl,rfl,(fun h=>by cases h),rfl,rdAll⟩,rfl,trivial⟩ ((Hle.nth 0 rfl).trans (hle_map (fz_dat hp))) ⟨(y1,y2, .slice Ay (pick22 x ks).cols.length cy),trivial,rfl,rfl⟩
theorem turnP22_spec (x:Co) (A1:Option Addr) (c1:Nat) (l:List TS) (A2:Option Addr) (c2:Nat) (Ak:Option Addr) (ck:Nat) (z:List Int) (Al:Option Addr) (n cl:Nat) (w:World) (hx:CoAt w x A1 c1 l A2 c2 (.slice Ak x.cols.length ck))
  (hz:Src w 1 Al n (z.map (Value.int .i64))) (hn:z.length=n) (hkn:n≤1000) (hcl:n≤cl) (hcn:x.cols.length≤1000) :
  Spec Tryz.prog 35 [.agg (coL x.sec (.slice A1 x.sg.length c1) (.slice A2 l.length c2) (.slice Ak x.cols.length ck)).toArray, .slice Al n cl] w (resP22 (turnV22 x z).1 (turnT22 x l z) (turnV22 x z).2):=by
 refine spec_of sg Tryz.func35 rfl rfl rfl ?_
 refine T_op (OpT.box (cs:=coL x.sec (.slice A1 x.sg.length c1) (.slice A2 l.length c2) (.slice Ak x.cols.length ck)) rfl rfl rfl rfl rfl rfl rfl (fun p2=>?_))
 repeat' (first|refine d1 ?_|(show T _ (.ops _ (_::_)::_) _ _ _;refine T_call rfl rfl rfl rfl rfl (fun w hw=>checkP22_spec x A1 c1 l A2 c2 _ w (hx.cls hw)) ?_)|(show ∀ _:Nat,T _ _ _ _ _;intro _))
 rename_i pr
 have herr:∀ e:Int,e≠0→turnV22 x z=(co0,e)→turnT22 x l z=[]:=fun e he h=>by unfold turnT22;rw [h];exact if_pos he
 refine T_if rfl (fun h=>?_) (fun h=>?_)
 ·have hc:chk22 x≠0:=by simpa using h
  have e1:turnV22 x z=(co0,1):=if_pos hc
  rw [herr 1 (by decide) e1,e1]
  repeat' (first|refine d1 ?_|fail)
  exact T_retM (vs:=[.agg (coL ByteArray.empty (.slice none 0 0) (.slice none 0 0) (.slice none 0 0)).toArray, .int .i64 1]) _ ⟨⟨pr,_,coL ByteArray.empty (.slice none 0 0) (.slice none 0 0) (.slice none 0 0),rfl,rfl,rfl,rfl,(fun h=>by cases h),rfl,rdAll⟩,rfl,trivial⟩ (co_nil1 _) ⟨((none,0),(none,0), .slice none 0 0),trivial,rfl,rfl⟩
 have hc:chk22 x=0:=by simpa using h
 have hok:=chk22_iff.1 hc
 obtain⟨h1,h2,h3⟩:=hx.row hok
 repeat' (first|refine d1 ?_|fail)
 refine T_if rfl (fun h4=>?_) (fun h4=>?_)
 ·have h5:z.length≠x.sg.length:=by have:=h4;simp at this;omega
  have e1:turnV22 x z=(co0,9):=by unfold turnV22;rw [if_neg (by rw [hc];simp),if_pos h5]
  rw [herr 9 (by decide) e1,e1]
  repeat' (first|refine d1 ?_|fail)
  exact T_retM (vs:=[.agg (coL ByteArray.empty (.slice none 0 0) (.slice none 0 0) (.slice none 0 0)).toArray, .int .i64 9]) _ ⟨⟨pr,_,coL ByteArray.empty (.slice none 0 0) (.slice none 0 0) (.slice none 0 0),rfl,rfl,rfl,rfl,(fun h=>by cases h),rfl,rdAll⟩,rfl,trivial⟩ (co_nil1 _) ⟨((none,0),(none,0), .slice none 0 0),trivial,rfl,rfl⟩
 have h5:¬ z.length≠x.sg.length:=by have:=h4;simp at this;omega
 obtain⟨bl,ol,rfl⟩:=hz.base (by omega)
 have hE:∀ e:Int,e≠0→roE22 x.sg.length [] z=e→turnV22 x z=(co0,e):=fun e he h=>by unfold turnV22;rw [if_neg (by rw [hc];simp),if_neg h5,if_pos (by rw [h];exact he),h]
 repeat' (first|refine d1 ?_|fail)
 refine T_loopX (fun s:Nat=>[(21, .int .i64 (s:Nat))]) (fun _=>[blk pr (coL ByteArray.empty (.slice none 0 0) (.slice none 0 0) (.slice none 0 0)) 32,blk p2 (coL x.sec (.slice A1 x.sg.length c1) (.slice A2 l.length c2) (.slice Ak x.cols.length ck)) 32]) (fun s=>s≤n∧roE22 x.sg.length [] z=roE22 x.sg.length (z.take s) (z.drop s)) (fun s=>n - s) 0 ⟨Nat.zero_le _,rfl⟩ ?_
 rintro k ⟨hk,hke⟩
 try dsimp only at hk hke
 repeat' (first|refine d1 ?_|fail)
 refine T_if rfl (fun h=>?_) (fun h=>?_)
 ·simp only [decide_eq_true_eq] at h
  obtain⟨i,hi⟩:∃ i,z[k]?=some i:=⟨_,List.getElem?_eq_getElem (by omega)⟩
  have hri:=src_int1 hz (k:=k) (by omega) hi
  rw [roE22_step hi] at hke
  repeat' (first|refine d1 ?_|fail)
  refine T_if rfl (fun h6=>?_) (fun h6=>?_)
  ·have h7:i<0∨(x.sg.length:Int)≤i:=by simpa using h6
   have e1:=hE 2 (by decide) (hke.trans (if_pos h7))
   rw [herr 2 (by decide) e1,e1]
   repeat' (first|refine d1 ?_|fail)
   exact T_retM (vs:=[.agg (coL ByteArray.empty (.slice none 0 0) (.slice none 0 0) (.slice none 0 0)).toArray, .int .i64 2]) _ ⟨⟨pr,_,coL ByteArray.empty (.slice none 0 0) (.slice none 0 0) (.slice none 0 0),rfl,rfl,rfl,rfl,(fun h=>by cases h),rfl,rdAll⟩,rfl,trivial⟩ (co_nil1 _) ⟨((none,0),(none,0), .slice none 0 0),trivial,rfl,rfl⟩
  have h7:¬ (i<0∨(x.sg.length:Int)≤i):=by simp only [Bool.or_eq_false_iff,decide_eq_false_iff_not] at h6;omega
  rw [if_neg h7] at hke
  have hle:((z.take k).any fun x=>decide (i=x))=decide (i∈z.take k):=by
   rw [Bool.eq_iff_iff,List.any_eq_true,decide_eq_true_eq]
   exact⟨fun⟨y,hy,e⟩=>by rw [of_decide_eq_true e];exact hy,fun h=>⟨i,h,decide_eq_true rfl⟩⟩
  repeat' (first|refine d1 ?_|(show T _ (.ops _ (_::_)::_) _ _ _;refine T_call rfl rfl rfl rfl rfl (fun w hw=>containsI_spec (some ⟨bl,ol,none⟩) k cl (z.take k) i w (by have h9:=src_take1 (hz.old hw) k (by omega);rw [← List.map_take] at h9;exact h9) (by rw [List.length_take];omega) (by omega)) ?_)|fail)
  rw [hle]
  refine T_if rfl (fun h8=>?_) (fun h8=>?_)
  ·rw [if_pos (of_decide_eq_true h8)] at hke
   have e1:=hE 7 (by decide) hke
   rw [herr 7 (by decide) e1,e1]
   repeat' (first|refine d1 ?_|fail)
   exact T_retM (vs:=[.agg (coL ByteArray.empty (.slice none 0 0) (.slice none 0 0) (.slice none 0 0)).toArray, .int .i64 7]) _ ⟨⟨pr,_,coL ByteArray.empty (.slice none 0 0) (.slice none 0 0) (.slice none 0 0),rfl,rfl,rfl,rfl,(fun h=>by cases h),rfl,rdAll⟩,rfl,trivial⟩ (co_nil1 _) ⟨((none,0),(none,0), .slice none 0 0),trivial,rfl,rfl⟩
  rw [if_neg (of_decide_eq_false h8)] at hke
  repeat' (first|refine d1 ?_|fail)
  exact T_backX (k+1) (by exact⟨by omega,hke⟩) (by omega) (hG:=by exact Hle.refl _)
 ·simp only [decide_eq_false_iff_not] at h
  obtain rfl:k=n:=by omega
  rw [roE22_end (by omega)] at hke
  have hz2:=roE22_zero hke
  have e1:turnV22 x z=(pick22 x (z.map Int.toNat),0):=by unfold turnV22;rw [if_neg (by rw [hc];simp),if_neg h5,if_neg (by rw [hke];simp)]
  have e2:turnT22 x l z=tks22 l (z.map Int.toNat):=by unfold turnT22;rw [e1];exact if_neg (fun h=>h rfl)
  rw [e1,e2]
  have hni:=intN_of fun k hk=>(hz2 k hk).1
  have hlt:=lt_of22 hz2
  have hln:(z.map Int.toNat).length=k:=by rw [List.length_map];exact hn
  generalize z.map Int.toNat=ks at hni hlt hln ⊢
  subst hni hln
  repeat' (first|refine d1 ?_|(show T _ (.ops _ (_::_)::_) _ _ _;refine T_op (OpT.call rfl rfl rfl rfl rfl (fun w hw=>choose22_spec x A1 c1 l A2 c2 Ak ck ks (some ⟨bl,ol,none⟩) cl w (hx.cls hw) hok (hz.old hw) hlt hkn hcn) ?_))|fail)
  rintro v R ⟨⟨y1,y2,y3⟩,-,rfl,rfl⟩
  dsimp only
  refine T_open fun p hp=>?_
  obtain⟨Ay,cy,csy,rfl,-⟩:=hp.cons_inv.2.cons_inv.2.tab
  refine T_le (H':=[fz p,blk pr (coL ByteArray.empty (.slice none 0 0) (.slice none 0 0) (.slice none 0 0)) 32,blk p2 (coL x.sec (.slice A1 x.sg.length c1) (.slice A2 l.length c2) (.slice Ak x.cols.length ck)) 32]) (Hle.refl _) ?_
  repeat' (first|refine d1 ?_|fail)
  exact T_retM (vs:=[.agg (coL (pick22 x ks).sec (.slice y1.1 (pick22 x ks).sg.length y1.2) (.slice y2.1 (tks22 l ks).length y2.2) (.slice Ay (pick22 x ks).cols.length cy)).toArray, .int .i64 0]) _ ⟨⟨pr,_,coL (pick22 x ks).sec (.slice y1.1 (pick22 x ks).sg.length y1.2) (.slice y2.1 (tks22 l ks).length y2.2) (.slice Ay (pick22 x ks).cols.length cy),rfl,rfl,rfl,rfl,(fun h=>by cases h),rfl,rdAll⟩,rfl,trivial⟩ ((Hle.nth 0 rfl).trans (hle_map (fz_dat hp))) ⟨(y1,y2, .slice Ay (pick22 x ks).cols.length cy),trivial,rfl,rfl⟩
end Go.Proofs.YtblnhdnogjijiaaGreatDoor
namespace Go.Proofs.YtblnhdnogjijiaaGreatDoor
open Go.RowKit Go.Shelf Go.Proofs
set_option maxRecDepth 100000
set_option maxHeartbeats 2000000

def resD22 (x:Co) (v:Value) (R:List HA):Prop :=
 ∃ y:(Option Addr × Nat) × (Option Addr × Nat) × Value,True∧v = .agg (coL x.sec (.slice y.1.1 x.sg.length y.1.2) (.slice y.2.1.1 x.m.length y.2.1.2) y.2.2).toArray∧R=[dat [.slice y.1.1 x.sg.length y.1.2, .slice y.2.1.1 x.m.length y.2.1.2,y.2.2] [strsD x.sg, .s 1 (x.m.map toksD),rowsD x.cols]]
theorem co_join3 {Ac:Option Addr} {cc q:Nat} {hc:List Value} {cols:List (List Int)} {A1 A2:Option Addr} {c1 c2 n m:Nat} {sg':List ByteArray} {hs:List Value} {ds:List D} {H:List HA} :
  Hle (row 47 1 Ac cc q hc::dat hc (cols.map intsD)::row 38 1 A2 c2 m hs::dat hs ds::row 9 1 A1 c1 n (sg'.map Value.string)::H) (dat [.slice A1 n c1, .slice A2 m c2, .slice Ac q cc] [strsD sg', .s 1 ds,rowsD cols]::H):=by
 refine dat_row.trans ?_
 refine (Hle.perm ((List.perm_append_comm (l₁:=[_]) (l₂:=[_,_])).append_right _)).trans ?_
 refine dat_row.trans ?_
 refine (Hle.perm (List.Perm.swap _ _ _)).trans ?_
 refine dat_join.trans ?_
 refine (Hle.perm (List.Perm.swap _ _ _)).trans ?_
 refine dat_rowV.trans ?_
 refine (Hle.perm (List.Perm.swap _ _ _)).trans ?_
 exact dat_join
theorem pick22_mlen (x:Co) (ks:List Nat):(pick22 x ks).m.length=ks.length:=List.length_map ..
theorem eD22 (x:Co) (ks:List Nat):(ks.map fun k=>toksD (x.m.getD k []))=(pick22 x ks).m.map toksD:=by unfold pick22;rw [List.map_map];rfl
theorem pickR22_spec (x:Co) (A1:Option Addr) (c1:Nat) (l:List TS) (A2:Option Addr) (c2:Nat) (Ak:Option Addr) (ck:Nat) (ks:List Nat) (Al:Option Addr) (cl:Nat) (w:World) (hx:CoAt w x A1 c1 l A2 c2 (.slice Ak x.cols.length ck)) (hok:Ok22 x)
  (hks:Src w 1 Al ks.length ((intN ks).map (Value.int .i64))) (hlt:∀ k∈ks,k<x.sg.length) (hkn:ks.length≤1000) (hcn:x.cols.length≤1000) :
  Spec Tryz.prog 72 [.agg (coL x.sec (.slice A1 x.sg.length c1) (.slice A2 l.length c2) (.slice Ak x.cols.length ck)).toArray, .slice Al ks.length cl] w (resD22 (pick22 x ks)):=by
 obtain⟨h1,h2,h3⟩:=hx.row hok
 obtain⟨Ak',ck',csk,e,hck1,hck2,hcs,hrows⟩:=hx.cols.tabS
 cases e
 refine spec_of sg Tryz.func72 rfl rfl rfl ?_
 refine T_op (OpT.box (cs:=coL x.sec (.slice A1 x.sg.length c1) (.slice A2 l.length c2) (.slice Ak x.cols.length ck)) rfl rfl rfl rfl rfl rfl rfl (fun p2=>?_))
 repeat' (first|refine d1 ?_|(show ∀ _:Nat,T _ _ _ _ _;intro _))
 rename_i pr p5
 refine T_nilrow 9 1 ?_
 refine T_nilrow 38 1 ?_
 refine T_le (dat_nil _) ?_
 refine T_loopX (fun s:Nat × (Option Addr × Nat) × (Option Addr × Nat) × List Value=>[(6, .int .i64 (s.1:Nat))]) (fun s=>[blk p5 (coL x.sec (.slice s.2.1.1 s.1 s.2.1.2) (.slice s.2.2.1.1 s.1 s.2.2.1.2) (.slice none 0 0)) 32,row 9 1 s.2.1.1 s.2.1.2 s.1 (((ks.take s.1).map fun k=>x.sg.getD k ByteArray.empty).map Value.string),row 38 1 s.2.2.1.1 s.2.2.1.2 s.1 s.2.2.2,dat s.2.2.2 ((ks.take s.1).map fun k=>toksD (x.m.getD k [])),blk pr (coL ByteArray.empty (.slice none 0 0) (.slice none 0 0) (.slice none 0 0)) 32,blk p2 (coL x.sec (.slice A1 x.sg.length c1) (.slice A2 l.length c2) (.slice Ak x.cols.length ck)) 32]) (fun s=>s.1≤ks.length) (fun s=>ks.length - s.1) (0,(none,0),(none,0),[]) (Nat.zero_le _) ?_ (hG:=by show Hle _ [blk p5 (coL x.sec (.slice none 0 0) (.slice none 0 0) (.slice none 0 0)) 32,row 9 1 none 0 0 [],row 38 1 none 0 0 [],dat [] [],blk pr (coL ByteArray.empty (.slice none 0 0) (.slice none 0 0) (.slice none 0 0)) 32,blk p2 (coL x.sec (.slice A1 x.sg.length c1) (.slice A2 l.length c2) (.slice Ak x.cols.length ck)) 32];exact Hle.srt2)
 rintro⟨k,⟨Aa,ca⟩,⟨Ab,cb⟩,hs⟩ hk
 dsimp only at hk ⊢
 repeat' (first|refine d1 ?_|fail)
 refine T_if rfl (fun h=>?_) (fun h=>?_)
 ·simp only [decide_eq_true_eq] at h
  obtain⟨s,hsk⟩:∃ s,ks[k]?=some s:=⟨_,List.getElem?_eq_getElem (by omega)⟩
  have hsn:=hlt s (List.mem_of_getElem? hsk)
  obtain⟨bl,ol,rfl⟩:=hks.base (by omega)
  have hls:RdC w bl (ol+(k:Int).toNat * 1) [.int .i64 (s:Int)]:=src_int1 hks (by omega) (by unfold intN;rw [List.getElem?_map,hsk];rfl)
  obtain⟨t,ht⟩:∃ t,l[s]?=some t:=⟨_,List.getElem?_eq_getElem (by omega)⟩
  obtain⟨g,hg⟩:∃ g,x.sg[s]?=some g:=⟨_,List.getElem?_eq_getElem (by omega)⟩
  obtain⟨b2,o2,rfl⟩:=hx.hd.s2.base (by omega)
  obtain⟨b1,o1,rfl⟩:=hx.hd.s1.base (by omega)
  have hrt:=hx.hd.hdr ht
  have htm:=List.mem_of_getElem? ht
  have htn:=(hx.hd.tok t htm).1
  have hrg:=src_str hx.hd.s1 hsn hg
  have htk:=take_snoc _ _ _ hsk
  refine rsH [blk p5 (coL x.sec (.slice Aa k ca) (.slice Ab k cb) (.slice none 0 0)) 32,blk p2 (coL x.sec (.slice (some ⟨b1,o1,none⟩) x.sg.length c1) (.slice (some ⟨b2,o2,none⟩) l.length c2) (.slice Ak x.cols.length ck)) 32] 13 [0,1,2,3,4,5,6,7,8,9,10,11,12,13] ?_
  repeat' (first|refine dd ?_|(show T _ (.run _ _ (_::_) _ _::_) _ _ _;first|refine ro rfl rfl (OpT.litW rfl rfl rfl rfl rfl rfl rfl rfl rfl rfl rfl (fun b4=>⟨fun _=>Hle.sub,?_⟩))|refine ro rfl rfl (OpT.append (A:=Aa) rfl rfl rfl rfl rfl rfl rfl rfl rfl rfl (fun w hw=>Src.own hw rfl) rfl (by dsimp only;omega) (by omega) (fun A9 c9 hA9=>⟨fun _=>Hle.sub,?_⟩)))|fail)
  refine T_le (H':=[blk p5 (coL x.sec (.slice A9 (k+1) c9) (.slice Ab k cb) (.slice none 0 0)) 32,row 9 1 A9 c9 (k+1) (((ks.take k).map fun k=>x.sg.getD k ByteArray.empty).map Value.string++[.string g]),row 38 1 Ab cb k hs,dat hs ((ks.take k).map fun k=>toksD (x.m.getD k [])),blk pr (coL ByteArray.empty (.slice none 0 0) (.slice none 0 0) (.slice none 0 0)) 32,blk p2 (coL x.sec (.slice (some ⟨b1,o1,none⟩) x.sg.length c1) (.slice (some ⟨b2,o2,none⟩) l.length c2) (.slice Ak x.cols.length ck)) 32]) (by exact Hle.srt2) ?_
  refine rsH [blk p5 (coL x.sec (.slice A9 (k+1) c9) (.slice Ab k cb) (.slice none 0 0)) 32,blk p2 (coL x.sec (.slice (some ⟨b1,o1,none⟩) x.sg.length c1) (.slice (some ⟨b2,o2,none⟩) l.length c2) (.slice Ak x.cols.length ck)) 32] 15 [0,1,3,4,5,6,7,8,9,10,2,11,12,13,14,15] ?_
  repeat' (first|refine dd ?_|(show T _ (.run _ _ (_::_) _ _::_) _ _ _;refine ro rfl rfl (OpT.litW rfl rfl rfl rfl rfl rfl rfl rfl rfl rfl rfl (fun b3=>⟨fun _=>Hle.sub,?_⟩)))|fail)
  refine T_blk_rowh 6 0 rfl (by omega) ?_
  refine ro rfl rfl (OpT.append rfl rfl rfl rfl rfl rfl rfl rfl rfl rfl (rdSrc (hx.hd.ok.src t htm)) (oneToks t.l) (by dsimp only;omega) (by omega) (fun A3 c3 hA3=>⟨fun _=>Hle.sub,?_⟩))
  rw [show 0+t.n=t.n by omega,show flatP []++t.l.flatMap Tok.cells=t.l.flatMap Tok.cells from rfl]
  repeat' (first|refine d1 ?_|refine dd ?_|(show T _ (.run _ _ (_::_) _ _::_) _ _ _;first|refine ro rfl rfl (OpT.litW rfl rfl rfl rfl rfl rfl rfl rfl rfl rfl rfl (fun b4=>⟨fun _=>Hle.sub,?_⟩))|refine ro rfl rfl (OpT.append (A:=Ab) rfl rfl rfl rfl rfl rfl rfl rfl rfl rfl (fun w hw=>Src.own hw rfl) rfl (by dsimp only;omega) (by omega) (fun A4 c4 hA4=>⟨fun _=>Hle.sub,?_⟩)))|fail)
  refine T_le (H':=[row 42 6 A3 c3 t.n (t.l.flatMap Tok.cells),dat hs ((ks.take k).map fun k=>toksD (x.m.getD k [])),blk p5 (coL x.sec (.slice A9 (k+1) c9) (.slice A4 (k+1) c4) (.slice none 0 0)) 32,row 9 1 A9 c9 (k+1) (((ks.take k).map fun k=>x.sg.getD k ByteArray.empty).map Value.string++[.string g]),row 38 1 A4 c4 (k+1) (hs++[.slice A3 t.n c3]),blk pr (coL ByteArray.empty (.slice none 0 0) (.slice none 0 0) (.slice none 0 0)) 32,blk p2 (coL x.sec (.slice (some ⟨b1,o1,none⟩) x.sg.length c1) (.slice (some ⟨b2,o2,none⟩) l.length c2) (.slice Ak x.cols.length ck)) 32]) (by exact Hle.srt2) ?_
  refine T_le (toksD_row.trans dat_join) ?_
  refine T_backX (k+1,(A9,c9),(A4,c4),hs++[.slice A3 t.n c3]) (by dsimp only;omega) (by dsimp only;omega) (hG:=?_)
  dsimp only
  have e3:x.m.getD s []=t.l:=by rw [← hx.m,List.getD_eq_getElem?_getD,List.getElem?_map,ht];rfl
  have e1:x.sg.getD s ByteArray.empty=g:=by rw [List.getD_eq_getElem?_getD,hg];rfl
  have eD:((ks.take (k+1)).map fun k=>toksD (x.m.getD k []))=((ks.take k).map fun k=>toksD (x.m.getD k []))++[toksD t.l]:=by rw [htk,List.map_append, ← e3];rfl
  have eS:(((ks.take (k+1)).map fun k=>x.sg.getD k ByteArray.empty).map Value.string)=((ks.take k).map fun k=>x.sg.getD k ByteArray.empty).map Value.string++[.string g]:=by rw [htk,List.map_append,List.map_append, ← e1];rfl
  rw [eD,eS]
  exact Hle.srt2
 ·simp only [decide_eq_false_iff_not] at h
  obtain rfl:k=ks.length:=by omega
  rw [List.take_length]
  repeat' (first|refine d1 ?_|fail)
  refine T_nilrow 47 1 ?_
  refine T_le (dat_nil _) ?_
  refine T_loopX (fun s:Nat × (Option Addr × Nat) × List Value=>[(7, .int .i64 (s.1:Nat))]) (fun s=>[blk p5 (coL x.sec (.slice Aa ks.length ca) (.slice Ab ks.length cb) (.slice s.2.1.1 (prjC ks (x.cols.take s.1)).length s.2.1.2)) 32,row 47 1 s.2.1.1 s.2.1.2 (prjC ks (x.cols.take s.1)).length s.2.2,dat s.2.2 ((prjC ks (x.cols.take s.1)).map intsD),row 9 1 Aa ca ks.length (((ks).map fun k=>x.sg.getD k ByteArray.empty).map Value.string),row 38 1 Ab cb ks.length hs,dat hs ((ks).map fun k=>toksD (x.m.getD k [])),blk pr (coL ByteArray.empty (.slice none 0 0) (.slice none 0 0) (.slice none 0 0)) 32,blk p2 (coL x.sec (.slice A1 x.sg.length c1) (.slice A2 l.length c2) (.slice Ak x.cols.length ck)) 32]) (fun s=>s.1≤x.cols.length) (fun s=>x.cols.length - s.1) (0,(none,0),[]) (Nat.zero_le _) ?_ (hG:=by show Hle _ [blk p5 (coL x.sec (.slice Aa ks.length ca) (.slice Ab ks.length cb) (.slice none 0 0)) 32,row 47 1 none 0 0 [],dat [] [],row 9 1 Aa ca ks.length (((ks).map fun k=>x.sg.getD k ByteArray.empty).map Value.string),row 38 1 Ab cb ks.length hs,dat hs ((ks).map fun k=>toksD (x.m.getD k [])),blk pr (coL ByteArray.empty (.slice none 0 0) (.slice none 0 0) (.slice none 0 0)) 32,blk p2 (coL x.sec (.slice A1 x.sg.length c1) (.slice A2 l.length c2) (.slice Ak x.cols.length ck)) 32];exact Hle.srt2)
  rintro⟨i,⟨Ac,cc⟩,hc⟩ hi
  dsimp only at hi ⊢
  repeat' (first|refine d1 ?_|fail)
  refine T_if rfl (fun h=>?_) (fun h=>?_)
  ·simp only [decide_eq_true_eq] at h
   obtain⟨r,hr⟩:∃ r,x.cols[i]?=some r:=⟨_,List.getElem?_eq_getElem (by omega)⟩
   obtain⟨b6,o6,rfl⟩:=hcs.base (by omega)
   obtain⟨Au,capu,hu2,-,-,hA8⟩:=hrows.tabRow hr
   have hrl:=(hx.entry hok hr (k:=0) (by omega)).1
   obtain⟨b7,o7,rfl,hA9⟩:=hA8 (by omega)
   have hxr:RdC w b6 (o6+(i:Int).toNat * 1) [.slice (some ⟨b7,o7,none⟩) r.length capu]:=by
    have h9:=(hcs.get1 (i:=i) (by omega) hu2).2
    rw [Nat.mul_one] at h9
    rw [off1];exact h9
   have hpl:(prjC ks (x.cols.take i)).length≤1000:=by
    unfold prjC
    exact Nat.le_trans (List.length_filter_le _ _) (by rw [List.length_map,List.length_take];omega)
   repeat' (first|refine d1 ?_|(show ∀ _:Nat,T _ _ _ _ _;intro _))
   rename_i b0
   refine T_blk_rowh 1 0 rfl (by omega) ?_
   refine T_loopX (fun s:Nat × Option Addr × Nat=>[(10, .int .i64 (s.1:Nat)),(8, .slice s.2.1 s.1 s.2.2),(9, .bool (anyP (prjR (ks.take s.1) r)))]) (fun s=>[row 3 1 s.2.1 s.2.2 s.1 ((prjR (ks.take s.1) r).map (Value.int .i64)),blk p5 (coL x.sec (.slice Aa ks.length ca) (.slice Ab ks.length cb) (.slice Ac (prjC ks (x.cols.take i)).length cc)) 32,row 47 1 Ac cc (prjC ks (x.cols.take i)).length hc,dat hc ((prjC ks (x.cols.take i)).map intsD),row 9 1 Aa ca ks.length (((ks).map fun k=>x.sg.getD k ByteArray.empty).map Value.string),row 38 1 Ab cb ks.length hs,dat hs ((ks).map fun k=>toksD (x.m.getD k [])),blk pr (coL ByteArray.empty (.slice none 0 0) (.slice none 0 0) (.slice none 0 0)) 32,blk p2 (coL x.sec (.slice A1 x.sg.length c1) (.slice A2 l.length c2) (.slice (some ⟨b6,o6,none⟩) x.cols.length ck)) 32]) (fun s=>s.1≤ks.length) (fun s=>ks.length - s.1) (0,some ⟨b0,0,none⟩,0) (Nat.zero_le _) ?_
   rintro⟨k,A',c'⟩ hk
   dsimp only at hk ⊢
   repeat' (first|refine d1 ?_|fail)
   refine T_if rfl (fun h5=>?_) (fun h5=>?_)
   ·simp only [decide_eq_true_eq] at h5
    obtain⟨s,hs2⟩:∃ s,ks[k]?=some s:=⟨_,List.getElem?_eq_getElem (by omega)⟩
    have hsn:=hlt s (List.mem_of_getElem? hs2)
    obtain⟨bl,ol,rfl⟩:=hks.base (by omega)
    have hls:RdC w bl (ol+(k:Int).toNat * 1) [.int .i64 (s:Int)]:=src_int1 hks (by omega) (by unfold intN;rw [List.getElem?_map,hs2];rfl)
    obtain⟨z,hz⟩:∃ z,r[s]?=some z:=⟨_,List.getElem?_eq_getElem (by omega)⟩
    have hrz:RdC w b7 (o7+(s:Int).toNat * 1) [.int .i64 z]:=by rw [off1];exact RdC.one (hA9 s _ hz)
    have hp:prjR (ks.take (k+1)) r=prjR (ks.take k) r++[z]:=by
     unfold prjR
     rw [take_snoc _ _ _ hs2,List.map_append]
     show _++[r.getD s (-1)]=_
     rw [List.getD_eq_getElem?_getD,hz];rfl
    repeat' (first|refine d1 ?_|refine dd ?_|(show T _ (.ops _ (_::_)::_) _ _ _;refine T_op (OpT.append (A:=A') rfl rfl rfl rfl rfl rfl rfl rfl rfl rfl (fun w hw=>Src.own hw rfl) rfl (by dsimp only;omega) (by omega) (fun A9 c9 hA=>?_)))|(show ∀ _:Nat,T _ _ _ _ _;intro _))
    have ha:anyP (prjR (ks.take (k+1)) r)=(anyP (prjR (ks.take k) r) || decide (0≤z)):=by
     rw [hp];unfold anyP;rw [List.any_append,List.any_cons,List.any_nil,Bool.or_false]
    refine T_backX (k+1,A9,c9) (by dsimp only;omega) (by dsimp only;omega) (hE:=⟨rfl,rfl,by dsimp only;rw [ha];rfl,trivial⟩) (hG:=?_)
    dsimp only
    rw [hp,List.map_append]
    exact Hle.tail _ _
   ·simp only [decide_eq_false_iff_not] at h5
    obtain rfl:k=ks.length:=by omega
    rw [List.take_length]
    repeat' (first|refine d1 ?_|fail)
    refine T_if rfl (fun h6=>?_) (fun h6=>?_)
    ·have hy:=prjC_yes hr h6
     repeat' (first|refine d1 ?_|(show T _ (.ops _ (_::_)::_) _ _ _;refine T_op (OpT.append (A:=Ac) rfl rfl rfl rfl rfl rfl rfl rfl rfl rfl (fun w hw=>Src.own hw rfl) rfl (by dsimp only;omega) (by omega) (fun A8 c8 hA=>?_)))|(show ∀ _:Nat,T _ _ _ _ _;intro _))
     refine T_le (H':=[row 3 1 A' c' ks.length ((prjR ks r).map (Value.int .i64)),dat hc ((prjC ks (x.cols.take i)).map intsD),blk p5 (coL x.sec (.slice Aa ks.length ca) (.slice Ab ks.length cb) (.slice A8 ((prjC ks (x.cols.take i)).length+1) c8)) 32,row 47 1 A8 c8 ((prjC ks (x.cols.take i)).length+1) (hc++[.slice A' ks.length c']),row 9 1 Aa ca ks.length (((ks).map fun k=>x.sg.getD k ByteArray.empty).map Value.string),row 38 1 Ab cb ks.length hs,dat hs ((ks).map fun k=>toksD (x.m.getD k [])),blk pr (coL ByteArray.empty (.slice none 0 0) (.slice none 0 0) (.slice none 0 0)) 32,blk p2 (coL x.sec (.slice A1 x.sg.length c1) (.slice A2 l.length c2) (.slice (some ⟨b6,o6,none⟩) x.cols.length ck)) 32]) (by exact Hle.srt2) ?_
     refine T_le (dat_rowV.trans dat_join) ?_
     have hl9:(prjC ks (x.cols.take (i+1))).length=(prjC ks (x.cols.take i)).length+1:=by rw [hy,List.length_append];rfl
     have hd9:(prjC ks (x.cols.take (i+1))).map intsD=(prjC ks (x.cols.take i)).map intsD++[.s 1 (((prjR ks r).map (Value.int .i64)).map .v)]:=by rw [hy,List.map_append,List.map_map];rfl
     refine T_backX (i+1,(A8,c8),hc++[.slice A' ks.length c']) (by dsimp only;omega) (by dsimp only;omega) (hG:=?_)
     dsimp only
     rw [hl9,hd9]
     exact Hle.srt2
    ·have hy:=prjC_no hr h6
     repeat' (first|refine d1 ?_|fail)
     refine T_backX (i+1,(Ac,cc),hc) (by dsimp only;omega) (by dsimp only;omega) (hG:=?_)
     dsimp only
     rw [hy]
     exact Hle.tail _ _
  ·simp only [decide_eq_false_iff_not] at h
   obtain rfl:i=x.cols.length:=by omega
   rw [List.take_length]
   repeat' (first|refine d1 ?_|fail)
   refine T_le (H':=[blk pr (coL x.sec (.slice Aa ks.length ca) (.slice Ab ks.length cb) (.slice Ac (prjC ks x.cols).length cc)) 32,row 47 1 Ac cc (prjC ks x.cols).length hc,dat hc ((prjC ks x.cols).map intsD),row 38 1 Ab cb ks.length hs,dat hs ((ks).map fun k=>toksD (x.m.getD k [])),row 9 1 Aa ca ks.length (((ks).map fun k=>x.sg.getD k ByteArray.empty).map Value.string)]) (by exact Hle.srt2) ?_
   rw [eD22]
   exact T_retM (vs:=[.agg (coL x.sec (.slice Aa ks.length ca) (.slice Ab ks.length cb) (.slice Ac (prjC ks x.cols).length cc)).toArray]) _ ⟨⟨pr,_,coL x.sec (.slice Aa ks.length ca) (.slice Ab ks.length cb) (.slice Ac (prjC ks x.cols).length cc),rfl,rfl,rfl,rfl,(fun h=>by cases h),rfl,rdAll⟩,trivial⟩ ((Hle.tail _ _).trans (co_join3.trans (Hle.nth 0 rfl))) ⟨((Aa,ca),(Ab,cb), .slice Ac (prjC ks x.cols).length cc),trivial,by rw [pick22_len,pick22_mlen];rfl,by rw [pick22_len,pick22_mlen];rfl⟩
end Go.Proofs.YtblnhdnogjijiaaGreatDoor
namespace Go.Proofs.YtblnhdnogjijiaaGreatDoor
open Go.RowKit Go.Shelf Go.Proofs
set_option maxRecDepth 100000
set_option maxHeartbeats 2000000

theorem keepR22_spec (x:Co) (A1:Option Addr) (c1:Nat) (l:List TS) (A2:Option Addr) (c2:Nat) (Ak:Option Addr) (ck:Nat) (z:List Int) (Al:Option Addr) (n cl:Nat) (w:World) (hx:CoAt w x A1 c1 l A2 c2 (.slice Ak x.cols.length ck))
  (hz:Src w 1 Al n (z.map (Value.int .i64))) (hn:z.length=n) (hkn:n≤1000) (hcn:x.cols.length≤1000) :
  Spec Tryz.prog 34 [.agg (coL x.sec (.slice A1 x.sg.length c1) (.slice A2 l.length c2) (.slice Ak x.cols.length ck)).toArray, .slice Al n cl] w (resR22 (keepV22 x z).1 (keepV22 x z).2):=by
 refine spec_of sg Tryz.func34 rfl rfl rfl ?_
 refine T_op (OpT.box (cs:=coL x.sec (.slice A1 x.sg.length c1) (.slice A2 l.length c2) (.slice Ak x.cols.length ck)) rfl rfl rfl rfl rfl rfl rfl (fun p2=>?_))
 repeat' (first|refine d1 ?_|(show T _ (.ops _ (_::_)::_) _ _ _;refine T_call rfl rfl rfl rfl rfl (fun w hw=>checkR22_spec x A1 c1 l A2 c2 _ w (hx.cls hw)) ?_)|(show ∀ _:Nat,T _ _ _ _ _;intro _))
 rename_i pr
 refine T_if rfl (fun h=>?_) (fun h=>?_)
 ·have hc:chk22 x≠0:=by simpa using h
  have e1:keepV22 x z=(co0,1):=if_pos hc
  rw [e1]
  repeat' (first|refine d1 ?_|fail)
  exact T_retM (vs:=[.agg (coL ByteArray.empty (.slice none 0 0) (.slice none 0 0) (.slice none 0 0)).toArray, .int .i64 1]) _ ⟨⟨pr,_,coL ByteArray.empty (.slice none 0 0) (.slice none 0 0) (.slice none 0 0),rfl,rfl,rfl,rfl,(fun h=>by cases h),rfl,rdAll⟩,rfl,trivial⟩ (co_nilR _) ⟨((none,0),(none,0), .slice none 0 0),trivial,rfl,rfl⟩
 have hc:chk22 x=0:=by simpa using h
 have hok:=chk22_iff.1 hc
 obtain⟨h1,h2,h3⟩:=hx.row hok
 repeat' (first|refine d1 ?_|fail)
 refine T_if rfl (fun h4=>?_) (fun h4=>?_)
 ·have h5:z.length=0:=by simp at h4;omega
  have e1:keepV22 x z=(co0,5):=by unfold keepV22;rw [if_neg (by rw [hc];simp),if_pos h5]
  rw [e1]
  repeat' (first|refine d1 ?_|fail)
  exact T_retM (vs:=[.agg (coL ByteArray.empty (.slice none 0 0) (.slice none 0 0) (.slice none 0 0)).toArray, .int .i64 5]) _ ⟨⟨pr,_,coL ByteArray.empty (.slice none 0 0) (.slice none 0 0) (.slice none 0 0),rfl,rfl,rfl,rfl,(fun h=>by cases h),rfl,rdAll⟩,rfl,trivial⟩ (co_nilR _) ⟨((none,0),(none,0), .slice none 0 0),trivial,rfl,rfl⟩
 have h5:z.length≠0:=by simp at h4;omega
 obtain⟨bl,ol,rfl⟩:=hz.base (by omega)
 have hE:∀ e:Int,e≠0→kpE22 x.sg.length none z=e→keepV22 x z=(co0,e):=fun e he h=>by unfold keepV22;rw [if_neg (by rw [hc];simp),if_neg h5,if_pos (by rw [h];exact he),h]
 repeat' (first|refine d1 ?_|fail)
 refine T_loopX (fun s:Nat=>[(6, .int .i64 (s:Nat))]) (fun _=>[blk pr (coL ByteArray.empty (.slice none 0 0) (.slice none 0 0) (.slice none 0 0)) 32,blk p2 (coL x.sec (.slice A1 x.sg.length c1) (.slice A2 l.length c2) (.slice Ak x.cols.length ck)) 32]) (fun s=>s≤n∧kpE22 x.sg.length none z=kpE22 x.sg.length (prev22 z s) (z.drop s)) (fun s=>n - s) 0 ⟨Nat.zero_le _,rfl⟩ ?_
 rintro k ⟨hk,hke⟩
 try dsimp only at hk hke
 repeat' (first|refine d1 ?_|fail)
 refine T_if rfl (fun h=>?_) (fun h=>?_)
 ·simp only [decide_eq_true_eq] at h
  obtain⟨i,hi⟩:∃ i,z[k]?=some i:=⟨_,List.getElem?_eq_getElem (by omega)⟩
  have hri:=src_int1 hz (k:=k) (by omega) hi
  rw [kpE22_step hi] at hke
  repeat' (first|refine dd ?_|fail)
  refine T_if rfl (fun h6=>?_) (fun h6=>?_)
  ·have h7:i<0∨(x.sg.length:Int)≤i:=by simpa using h6
   have e1:=hE 2 (by decide) (hke.trans (if_pos h7))
   rw [e1]
   repeat' (first|refine d1 ?_|fail)
   exact T_retM (vs:=[.agg (coL ByteArray.empty (.slice none 0 0) (.slice none 0 0) (.slice none 0 0)).toArray, .int .i64 2]) _ ⟨⟨pr,_,coL ByteArray.empty (.slice none 0 0) (.slice none 0 0) (.slice none 0 0),rfl,rfl,rfl,rfl,(fun h=>by cases h),rfl,rdAll⟩,rfl,trivial⟩ (co_nilR _) ⟨((none,0),(none,0), .slice none 0 0),trivial,rfl,rfl⟩
  have h7:¬ (i<0∨(x.sg.length:Int)≤i):=by simp only [Bool.or_eq_false_iff,decide_eq_false_iff_not] at h6;omega
  rw [if_neg h7] at hke
  obtain⟨q,hq⟩:∃ q:Int,0<(k:Int)→RdC w bl (ol+((k:Int) - 1).toNat * 1) [.int .i64 q]∧prev22 z k=some q:=by
   cases k with
   | zero=>exact⟨0,fun h=>absurd h (by decide)⟩
   | succ k =>
    obtain⟨q,hq⟩:∃ q,z[k]?=some q:=⟨_,List.getElem?_eq_getElem (by omega)⟩
    exact⟨q,fun _=>⟨by rw [show ((k+1:Nat):Int) - 1=(k:Int) by omega];exact src_int1 hz (by omega) hq,hq⟩⟩
  have hle:leP22 (prev22 z k) i=(decide (0<(k:Int)) && decide (i≤q)):=by
   cases k with
   | zero=>rfl
   | succ k =>
    have h8:(0:Int)<((k+1:Nat):Int):=by omega
    rw [(hq h8).2,decide_eq_true h8];rfl
  repeat' (first|refine dd ?_|(show T _ (.run _ _ (_::_) _ _::_) _ _ _;refine rg rfl rfl rfl (Val.load rfl (fun hg=>rdOld (hq (by ((simp only [List.cons_append,List.nil_append,GP,dstL,lookE,Nat.beq,cond,List.getElem?_cons_zero,List.getElem?_cons_succ,Option.bind_some,and_true,Bool.and_eq_true,Bool.or_eq_true,Bool.and_eq_false_iff,Bool.or_eq_false_iff,Bool.not_eq_true',Bool.not_eq_false',decide_eq_true_eq,decide_eq_false_iff_not] at hg);omega))).1)) rfl rfl rfl rfl rfl ?_)|fail)
  refine T_if rfl (fun h8=>?_) (fun h8=>?_)
  ·rw [if_pos (by rw [hle];exact h8)] at hke
   have e1:=hE 10 (by decide) hke
   rw [e1]
   repeat' (first|refine d1 ?_|fail)
   exact T_retM (vs:=[.agg (coL ByteArray.empty (.slice none 0 0) (.slice none 0 0) (.slice none 0 0)).toArray, .int .i64 10]) _ ⟨⟨pr,_,coL ByteArray.empty (.slice none 0 0) (.slice none 0 0) (.slice none 0 0),rfl,rfl,rfl,rfl,(fun h=>by cases h),rfl,rdAll⟩,rfl,trivial⟩ (co_nilR _) ⟨((none,0),(none,0), .slice none 0 0),trivial,rfl,rfl⟩
  rw [if_neg (by rw [hle,h8];decide)] at hke
  repeat' (first|refine d1 ?_|fail)
  exact T_backX (k+1) (by exact⟨by omega,hke⟩) (by omega) (hG:=by exact Hle.refl _)
 ·simp only [decide_eq_false_iff_not] at h
  obtain rfl:k=n:=by omega
  rw [kpE22_end (by omega)] at hke
  have hz2:=kpE22_zero hke
  have e1:keepV22 x z=(pick22 x (z.map Int.toNat),0):=by unfold keepV22;rw [if_neg (by rw [hc];simp),if_neg h5,if_neg (by rw [hke];simp)]
  rw [e1]
  have hni:=intN_of fun k hk=>(hz2 k hk).1
  have hlt:=lt_of22 hz2
  have hln:(z.map Int.toNat).length=k:=by rw [List.length_map];exact hn
  generalize z.map Int.toNat=ks at hni hlt hln ⊢
  subst hni hln
  repeat' (first|refine d1 ?_|(show T _ (.ops _ (_::_)::_) _ _ _;refine T_op (OpT.call rfl rfl rfl rfl rfl (fun w hw=>pickR22_spec x A1 c1 l A2 c2 Ak ck ks (some ⟨bl,ol,none⟩) cl w (hx.cls hw) hok (hz.old hw) hlt hkn hcn) ?_))|fail)
  rintro v R ⟨⟨y1,y2,y3⟩,-,rfl,rfl⟩
  dsimp only
  refine T_open fun p hp=>?_
  obtain⟨Ay,cy,csy,rfl,-⟩:=hp.cons_inv.2.cons_inv.2.tab
  refine T_le (H':=[fz p,blk pr (coL ByteArray.empty (.slice none 0 0) (.slice none 0 0) (.slice none 0 0)) 32,blk p2 (coL x.sec (.slice A1 x.sg.length c1) (.slice A2 l.length c2) (.slice Ak x.cols.length ck)) 32]) (Hle.refl _) ?_
  repeat' (first|refine d1 ?_|fail)
  exact T_retM (vs:=[.agg (coL (pick22 x ks).sec (.slice y1.1 (pick22 x ks).sg.length y1.2) (.slice y2.1 (pick22 x ks).m.length y2.2) (.slice Ay (pick22 x ks).cols.length cy)).toArray, .int .i64 0]) _ ⟨⟨pr,_,coL (pick22 x ks).sec (.slice y1.1 (pick22 x ks).sg.length y1.2) (.slice y2.1 (pick22 x ks).m.length y2.2) (.slice Ay (pick22 x ks).cols.length cy),rfl,rfl,rfl,rfl,(fun h=>by cases h),rfl,rdAll⟩,rfl,trivial⟩ ((Hle.nth 0 rfl).trans (hle_map (fz_dat hp))) ⟨(y1,y2, .slice Ay (pick22 x ks).cols.length cy),trivial,rfl,rfl⟩
theorem turnR22_spec (x:Co) (A1:Option Addr) (c1:Nat) (l:List TS) (A2:Option Addr) (c2:Nat) (Ak:Option Addr) (ck:Nat) (z:List Int) (Al:Option Addr) (n cl:Nat) (w:World) (hx:CoAt w x A1 c1 l A2 c2 (.slice Ak x.cols.length ck))
  (hz:Src w 1 Al n (z.map (Value.int .i64))) (hn:z.length=n) (hkn:n≤1000) (hcl:n≤cl) (hcn:x.cols.length≤1000) :
  Spec Tryz.prog 36 [.agg (coL x.sec (.slice A1 x.sg.length c1) (.slice A2 l.length c2) (.slice Ak x.cols.length ck)).toArray, .slice Al n cl] w (resR22 (turnV22 x z).1 (turnV22 x z).2):=by
 refine spec_of sg Tryz.func36 rfl rfl rfl ?_
 refine T_op (OpT.box (cs:=coL x.sec (.slice A1 x.sg.length c1) (.slice A2 l.length c2) (.slice Ak x.cols.length ck)) rfl rfl rfl rfl rfl rfl rfl (fun p2=>?_))
 repeat' (first|refine d1 ?_|(show T _ (.ops _ (_::_)::_) _ _ _;refine T_call rfl rfl rfl rfl rfl (fun w hw=>checkR22_spec x A1 c1 l A2 c2 _ w (hx.cls hw)) ?_)|(show ∀ _:Nat,T _ _ _ _ _;intro _))
 rename_i pr
 refine T_if rfl (fun h=>?_) (fun h=>?_)
 ·have hc:chk22 x≠0:=by simpa using h
  have e1:turnV22 x z=(co0,1):=if_pos hc
  rw [e1]
  repeat' (first|refine d1 ?_|fail)
  exact T_retM (vs:=[.agg (coL ByteArray.empty (.slice none 0 0) (.slice none 0 0) (.slice none 0 0)).toArray, .int .i64 1]) _ ⟨⟨pr,_,coL ByteArray.empty (.slice none 0 0) (.slice none 0 0) (.slice none 0 0),rfl,rfl,rfl,rfl,(fun h=>by cases h),rfl,rdAll⟩,rfl,trivial⟩ (co_nilR _) ⟨((none,0),(none,0), .slice none 0 0),trivial,rfl,rfl⟩
 have hc:chk22 x=0:=by simpa using h
 have hok:=chk22_iff.1 hc
 obtain⟨h1,h2,h3⟩:=hx.row hok
 repeat' (first|refine d1 ?_|fail)
 refine T_if rfl (fun h4=>?_) (fun h4=>?_)
 ·have h5:z.length≠x.sg.length:=by have:=h4;simp at this;omega
  have e1:turnV22 x z=(co0,9):=by unfold turnV22;rw [if_neg (by rw [hc];simp),if_pos h5]
  rw [e1]
  repeat' (first|refine d1 ?_|fail)
  exact T_retM (vs:=[.agg (coL ByteArray.empty (.slice none 0 0) (.slice none 0 0) (.slice none 0 0)).toArray, .int .i64 9]) _ ⟨⟨pr,_,coL ByteArray.empty (.slice none 0 0) (.slice none 0 0) (.slice none 0 0),rfl,rfl,rfl,rfl,(fun h=>by cases h),rfl,rdAll⟩,rfl,trivial⟩ (co_nilR _) ⟨((none,0),(none,0), .slice none 0 0),trivial,rfl,rfl⟩
 have h5:¬ z.length≠x.sg.length:=by have:=h4;simp at this;omega
 obtain⟨bl,ol,rfl⟩:=hz.base (by omega)
 have hE:∀ e:Int,e≠0→roE22 x.sg.length [] z=e→turnV22 x z=(co0,e):=fun e he h=>by unfold turnV22;rw [if_neg (by rw [hc];simp),if_neg h5,if_pos (by rw [h];exact he),h]
 repeat' (first|refine d1 ?_|fail)
 refine T_loopX (fun s:Nat=>[(6, .int .i64 (s:Nat))]) (fun _=>[blk pr (coL ByteArray.empty (.slice none 0 0) (.slice none 0 0) (.slice none 0 0)) 32,blk p2 (coL x.sec (.slice A1 x.sg.length c1) (.slice A2 l.length c2) (.slice Ak x.cols.length ck)) 32]) (fun s=>s≤n∧roE22 x.sg.length [] z=roE22 x.sg.length (z.take s) (z.drop s)) (fun s=>n - s) 0 ⟨Nat.zero_le _,rfl⟩ ?_
 rintro k ⟨hk,hke⟩
 try dsimp only at hk hke
 repeat' (first|refine d1 ?_|fail)
 refine T_if rfl (fun h=>?_) (fun h=>?_)
 ·simp only [decide_eq_true_eq] at h
  obtain⟨i,hi⟩:∃ i,z[k]?=some i:=⟨_,List.getElem?_eq_getElem (by omega)⟩
  have hri:=src_int1 hz (k:=k) (by omega) hi
  rw [roE22_step hi] at hke
  repeat' (first|refine dd ?_|fail)
  refine T_if rfl (fun h6=>?_) (fun h6=>?_)
  ·have h7:i<0∨(x.sg.length:Int)≤i:=by simpa using h6
   have e1:=hE 2 (by decide) (hke.trans (if_pos h7))
   rw [e1]
   repeat' (first|refine d1 ?_|fail)
   exact T_retM (vs:=[.agg (coL ByteArray.empty (.slice none 0 0) (.slice none 0 0) (.slice none 0 0)).toArray, .int .i64 2]) _ ⟨⟨pr,_,coL ByteArray.empty (.slice none 0 0) (.slice none 0 0) (.slice none 0 0),rfl,rfl,rfl,rfl,(fun h=>by cases h),rfl,rdAll⟩,rfl,trivial⟩ (co_nilR _) ⟨((none,0),(none,0), .slice none 0 0),trivial,rfl,rfl⟩
  have h7:¬ (i<0∨(x.sg.length:Int)≤i):=by simp only [Bool.or_eq_false_iff,decide_eq_false_iff_not] at h6;omega
  rw [if_neg h7] at hke
  repeat' (first|refine d1 ?_|fail)
  refine T_loopX (fun m:Nat=>[(7, .int .i64 (m:Nat))]) (fun _=>[blk pr (coL ByteArray.empty (.slice none 0 0) (.slice none 0 0) (.slice none 0 0)) 32,blk p2 (coL x.sec (.slice A1 x.sg.length c1) (.slice A2 l.length c2) (.slice Ak x.cols.length ck)) 32]) (fun m=>m≤k∧¬ i∈z.take m) (fun m=>k - m) 0 ⟨Nat.zero_le _,by simp⟩ ?_
  rintro m ⟨hm,hne⟩
  try dsimp only at hm hne
  repeat' (first|refine d1 ?_|fail)
  refine T_if rfl (fun h8=>?_) (fun h8=>?_)
  ·simp only [decide_eq_true_eq] at h8
   obtain⟨q,hq⟩:∃ q,z[m]?=some q:=⟨_,List.getElem?_eq_getElem (by omega)⟩
   have hrq:=src_int1 hz (k:=m) (by omega) hq
   have htm:=take_snoc _ _ _ hq
   repeat' (first|refine dd ?_|fail)
   refine T_if rfl (fun h9=>?_) (fun h9=>?_)
   ·have hqi:q=i:=of_decide_eq_true h9
    have hmem:i∈z.take k:=by
     rw [← hqi]
     refine List.mem_iff_getElem?.2 ⟨m,?_⟩
     rw [List.getElem?_take,if_pos (by omega)];exact hq
    rw [if_pos hmem] at hke
    have e1:=hE 7 (by decide) hke
    rw [e1]
    repeat' (first|refine d1 ?_|fail)
    exact T_retM (vs:=[.agg (coL ByteArray.empty (.slice none 0 0) (.slice none 0 0) (.slice none 0 0)).toArray, .int .i64 7]) _ ⟨⟨pr,_,coL ByteArray.empty (.slice none 0 0) (.slice none 0 0) (.slice none 0 0),rfl,rfl,rfl,rfl,(fun h=>by cases h),rfl,rdAll⟩,rfl,trivial⟩ (co_nilR _) ⟨((none,0),(none,0), .slice none 0 0),trivial,rfl,rfl⟩
   ·have hqi:q≠i:=of_decide_eq_false h9
    repeat' (first|refine d1 ?_|fail)
    exact T_backX (m+1) (by exact⟨by omega,by rw [htm,List.mem_append];rintro (h9|h9);exact hne h9;exact hqi (List.mem_singleton.1 h9).symm⟩) (by omega) (hG:=by exact Hle.refl _)
  ·simp only [decide_eq_false_iff_not] at h8
   obtain rfl:m=k:=by omega
   rw [if_neg hne] at hke
   repeat' (first|refine d1 ?_|fail)
   exact T_backX (m+1) (by exact⟨by omega,hke⟩) (by omega) (hG:=by exact Hle.refl _)
 ·simp only [decide_eq_false_iff_not] at h
  obtain rfl:k=n:=by omega
  rw [roE22_end (by omega)] at hke
  have hz2:=roE22_zero hke
  have e1:turnV22 x z=(pick22 x (z.map Int.toNat),0):=by unfold turnV22;rw [if_neg (by rw [hc];simp),if_neg h5,if_neg (by rw [hke];simp)]
  rw [e1]
  have hni:=intN_of fun k hk=>(hz2 k hk).1
  have hlt:=lt_of22 hz2
  have hln:(z.map Int.toNat).length=k:=by rw [List.length_map];exact hn
  generalize z.map Int.toNat=ks at hni hlt hln ⊢
  subst hni hln
  repeat' (first|refine d1 ?_|(show T _ (.ops _ (_::_)::_) _ _ _;refine T_op (OpT.call rfl rfl rfl rfl rfl (fun w hw=>pickR22_spec x A1 c1 l A2 c2 Ak ck ks (some ⟨bl,ol,none⟩) cl w (hx.cls hw) hok (hz.old hw) hlt hkn hcn) ?_))|fail)
  rintro v R ⟨⟨y1,y2,y3⟩,-,rfl,rfl⟩
  dsimp only
  refine T_open fun p hp=>?_
  obtain⟨Ay,cy,csy,rfl,-⟩:=hp.cons_inv.2.cons_inv.2.tab
  refine T_le (H':=[fz p,blk pr (coL ByteArray.empty (.slice none 0 0) (.slice none 0 0) (.slice none 0 0)) 32,blk p2 (coL x.sec (.slice A1 x.sg.length c1) (.slice A2 l.length c2) (.slice Ak x.cols.length ck)) 32]) (Hle.refl _) ?_
  repeat' (first|refine d1 ?_|fail)
  exact T_retM (vs:=[.agg (coL (pick22 x ks).sec (.slice y1.1 (pick22 x ks).sg.length y1.2) (.slice y2.1 (pick22 x ks).m.length y2.2) (.slice Ay (pick22 x ks).cols.length cy)).toArray, .int .i64 0]) _ ⟨⟨pr,_,coL (pick22 x ks).sec (.slice y1.1 (pick22 x ks).sg.length y1.2) (.slice y2.1 (pick22 x ks).m.length y2.2) (.slice Ay (pick22 x ks).cols.length cy),rfl,rfl,rfl,rfl,(fun h=>by cases h),rfl,rdAll⟩,rfl,trivial⟩ ((Hle.nth 0 rfl).trans (hle_map (fz_dat hp))) ⟨(y1,y2, .slice Ay (pick22 x ks).cols.length cy),trivial,rfl,rfl⟩
end Go.Proofs.YtblnhdnogjijiaaGreatDoor
