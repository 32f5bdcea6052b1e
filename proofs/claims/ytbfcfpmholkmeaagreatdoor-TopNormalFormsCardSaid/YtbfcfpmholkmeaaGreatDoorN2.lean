/- Joined texts of this claim, part 2. -/
import Derived.Test.YtbfcfpmholkmeaaGreatDoorN1
import Derived.Laws.IdiomCopy
import Derived.Lib.Overlaps
import Derived.Laws.Externs
import Derived.LaidEql
import Derived.MapKept
import Derived.ArgAppend
import Derived.Maps.RangeRun
import Derived.Lay
set_option linter.unusedSectionVars false
set_option linter.unusedVariables false
set_option linter.unusedSimpArgs false
namespace Go.Proofs.YtbfcfpmholkmeaaGreatDoor
open Go.RowKit Go.Shelf
set_option maxRecDepth 100000
set_option maxHeartbeats 1000000

section
variable {C:Cx} {env:Env} {ec:EnvC} {H:List HA}
theorem Hle.drop2 (A B:HA) (K:List HA):Hle (A::B::K) (A::K):=by
 refine Hle.pick (fun i=>if i=0 then 0 else i+1) (fun i X h=>?_) (fun i j _ _ h=>by show (if i=0 then 0 else i+1)≠(if j=0 then 0 else j+1);split <;> split <;> omega)
 cases i with
 | zero=>simpa using h
 | succ i=>simpa using h
end

def evCp (S:Sig) (env:Env) (ec:EnvC) (o:Oper):Option (Option Addr × Nat × Option Addr × Nat × TypeId) :=
 match o.op with
 | .call { callee := .builtin .copy,args:=xs,argTypes:=ts }=>match evL env ec [] xs.toList,ts.toList with
  | some [.slice A n _, .slice B m _],[t,_]=>match S.ty t with
   | some ⟨.slice e,_,_,_⟩=>some (A,n,B,m,e)
   | _=>none
  | _,_=>none
 | _=>none
section
variable {C:Cx} {all:Array Oper} {o:Oper} {env:Env} {ec:EnvC} {H:List HA} {d:Nat} {Φ:Env→EnvC→List HA→Prop}
theorem OpT.copyR {g off dl sl k:Nat} {A' B:Option Addr} {e:TypeId} {ty:TyI} {sz cap n:Nat} {xs us:List Value} {rb:HA→List HA} (hg:gOf all env ec o=some []) (he:evCp C.S env ec o=some (A',dl,B,sl,e)) (hd:o.dst=some d) (hN:Nat.blt d C.N.n=true) (hs:safeC all d ec=true)
  (ht:C.S.ty e=some ty) (hsz:Nat.beq ty.size sz=true) [hf:FocusR H (some ⟨g,0,none⟩) e sz cap n xs rb] (hA':A'=some ⟨g,off,none⟩) (hk:min sl dl=k) (hsrc:∀ w,Cls C.w0 w H→Src w sz B k us) (h1:oneCells us=true) (hl:off+us.length≤n * sz)
  (h:Φ ((d, .int .i64 k)::env) ec (rb (row e sz (some ⟨g,0,none⟩) cap n (setL xs off us)))):OpT C all o env ec H Φ:=by
 subst hA'
 have hsz':ty.size=sz:=Nat.eq_of_beq_eq_true hsz
 obtain⟨i,hi,hrb⟩:=hf.at_
 obtain⟨x,hx,hx1,hx2,hx3⟩:=(Sig.tyOk ht).info'
 refine OpT.eff hg fun a w ha hw=>?_
 obtain⟨F,f1,f2,f3⟩:=hw.sep
 have hil:i<H.length:=(List.getElem?_eq_some_iff.1 hi).1
 obtain⟨hxl,hrow⟩:=f1 i _ hi
 rcases hrow with⟨h9,_⟩|⟨g',cur,hA,hF,g1,g2,g3,g4⟩
 ·cases h9
 cases hA
 obtain⟨hbn,hb⟩:=f2 i g (.cells cur e (0,0)) hil (by rw [hF];simp [one])
 have hsn:n * sz≤cap * sz:=Nat.mul_le_mul_right _ g1
 have hcl:cur.toList.length=cap * sz:=by simpa using g3
 obtain⟨w',k1,k2,k3,k4,k5,k6,k7⟩:=run_storeL C.S.P g e us 0 off cur.toList w (by simpa using hb) (by rw [hcl];omega) h1
 obtain⟨hul,hat⟩:=hsrc w hw
 have hload:∀ cc,(Builtin.firstCells x.size k (.slice B sl cc)).run C.S.P w = .ok us.toArray w:=fun cc=>by
  rw [hx1,hsz']
  rcases B with _|ad
  ·have hk0:¬ 0<k:=fun h9=>by
    have:=(hat h9).1
    simp [isAt] at this
   have hu0:us=[]:=List.eq_nil_of_length_eq_zero (by rw [hul,show k=0 by omega,Nat.zero_mul])
   subst hu0
   simp [Builtin.firstCells]
  ·simp only [Builtin.firstCells]
   rw [← hul]
   refine run_loadCells_list (P:=C.S.P) w ad us fun j u hu=>?_
   have hj:j<us.length:=(List.getElem?_eq_some_iff.1 hu).1
   have hk0:0<k:=by
    rcases Nat.eq_zero_or_pos k with h9|h9
    ·rw [h9,Nat.zero_mul] at hul;omega
    ·exact h9
   obtain⟨h8,h9⟩:=hat hk0
   obtain⟨ab,ao,ap⟩:=ad
   have h7:ap=none:=by simpa [isAt,bk,ofs] using h8
   subst h7
   have:=h9 j u hu
   unfold Addr.add
   split
   ·rename_i e0;subst e0;simpa [bk,ofs] using this
   ·simpa [bk,ofs] using this
 obtain⟨dst,op,ty0,pos,aft,gd⟩:=o
 unfold evCp at he
 dsimp only at he
 split at he
 ·rename_i ps ts
  split at he
  ·rename_i A1 n1 c1 B1 m1 c2 t u hps hts
   split at he
   ·rename_i e1 q1 q2 q3 hty
    cases he
    have hut:=(Sig.tyOk hty).fits
    simp only [Ty.fits] at hut
    have hargs:ps.map a.eval = #[.slice (some ⟨g,off,none⟩) dl c1, .slice B sl c2]:=Array.ext' (by rw [Array.toList_map];exact evL_spec ha (Holds.nil _ _) hps)
    have hts':ts = #[t,u]:=Array.ext' hts
    have hcp:(Builtin.copy_ #[t,u] ty0 #[.slice (some ⟨g,off,none⟩) dl c1, .slice B sl c2]).run C.S.P w = .ok (goInt k) w':=by
     have hk':Nat.min sl dl=k:=hk
     simp [Builtin.copy_,run_underlying hut,Builtin.lenOf,sizeOf,typeInfo,hx,hk',hload,k1]
    refine ⟨.int .i64 k,w',rb (row e sz (some ⟨g,0,none⟩) cap n (setL xs off us)),?_,⟨?_,?_⟩,d,hd,hN,hs,h⟩
    ·simp [execOp,resolve,invoke,builtin,hargs,hts',hcp,goInt]
    ·exact hw.below.trans ⟨k4,k5,k6,by omega,fun c hc=>k3 c (by omega)⟩
    ·rw [hrb]
     refine hw.sep.turn hi (fun f hf=>?_) (fun c hc _=>k3 c hc) k2 ?_
     ·obtain⟨_,hr⟩:=hf
      rcases hr with⟨h9,_⟩|⟨g',cur',hA',hF',_⟩
      ·cases h9
      ·cases hA';exact⟨_,hF'⟩
     ·refine ⟨by rw [setL_length];exact hxl, .inr ⟨g,_,rfl,rfl,g1,g2,by rw [List.size_toArray,setL_length];exact hcl,?_⟩⟩
      rw [Nat.add_zero]
      show (setL cur.toList off us).take (n * sz)=_
      rw [setL_take _ _ _ (by omega),g4]
   ·cases he
  ·cases he
 ·cases he

theorem evCall_run {P:Program} {N:FK} {all:Array Oper} {env:Env} {ec:EnvC} {G:GId} {o:Oper} {a:Act} (ha:Agrees N all env ec a) (hG:Holds all a G) {f:FuncId} {args:List Value}
  (h:evCall env ec G o=some (f,args)) (w:World):(execOp a.eval o).run P w=(callFunc f args.toArray).run P w:=by
 obtain⟨dst,op,ty,pos,aft,gd⟩:=o
 unfold evCall at h
 dsimp only at h
 split at h
 ·rename_i x xs ts
  split at h
  ·rename_i g fs cs vs hx hvs
   cases h
   have e1:=evL_spec ha hG hvs
   have e2:xs.map a.eval=vs.toArray:=Array.ext' (by rw [Array.toList_map];exact e1)
   have e3:(fs.toList++(vs++cs.toList)).toArray=fs++vs.toArray++cs:=Array.ext' (by simp)
   simp only [execOp,resolve,e2,evX_spec ha hG hx,Deferred.ofValue]
   rw [e3]
   simp [invoke]
  ·cases h
 ·cases h
theorem OpT.callX {f:FuncId} {args:List Value} {v:Value} (hg:gOf all env ec o=some []) (he:evCall env ec [] o=some (f,args)) (hd:o.dst=some d) (hN:Nat.blt d C.N.n=true) (hs:safeC all d ec=true)
  (hrun:∀ w,Cls C.w0 w H→(callFunc f args.toArray).run C.S.P w = .ok (.value v) w) (h:Φ ((d,v)::env) ec H):OpT C all o env ec H Φ :=
 OpT.eff hg fun _ w ha hw=>⟨v,w,H,by rw [evCall_run ha (Holds.nil _ _) he w];exact hrun w hw,hw,d,hd,hN,hs,h⟩
end
theorem setL_eq:∀ (us cs:List Value) (off:Nat),off+us.length≤cs.length→setL cs off us=cs.take off++(us++cs.drop (off+us.length))
 | [],cs,off,h=>by simp [setL]
 | u::us,cs,off,h=>by
  simp only [List.length_cons] at h
  have e:cs.set off u=cs.take off++u::cs.drop (off+1):=by rw [List.set_eq_take_append_cons_drop,if_pos (by omega)]
  have hl:(cs.take off).length=off:=by rw [List.length_take];omega
  simp only [setL]
  rw [setL_eq us (cs.set off u) (off+1) (by simp;omega),e,List.take_append,List.drop_append,hl,show off+1 - off=1 by omega,List.take_of_length_le (l:=cs.take off) (by rw [hl];omega),show (cs.take off).drop (off+1+us.length)=[] from List.drop_eq_nil_of_le (by rw [hl];omega),
   show off+1+us.length - off=us.length+1 by omega]
  simp [Nat.add_assoc,Nat.add_comm 1]
theorem cutA_at {a ca lo sz:Nat} (h:lo<ca):cutA (some ⟨a,0,none⟩) ca lo sz=some ⟨a,lo * sz,none⟩:=by
 unfold cutA
 rw [if_neg (by omega)]
 simp only [Option.map_some,Addr.add]
 split
 ·rename_i e;rw [e]
 ·simp
end Go.Proofs.YtbfcfpmholkmeaaGreatDoor
namespace Go.Proofs.YtbfcfpmholkmeaaGreatDoor
open Go.RowKit Go.Shelf
set_option maxRecDepth 100000
set_option maxHeartbeats 1000000
theorem made_flat (z:Array Value):∀ n,(madeCells z (n * z.size)).toList=(List.replicate n z.toList).flatten
 | 0=>by simp [madeCells]
 | n+1=>by
  have ih:=made_flat z n
  have e:∀ m,(madeCells z m).toList=(List.range m).map fun i=>z[i % z.size]!:=fun m=>by simp [madeCells,Array.toList_range]
  rw [e] at ih
  rw [e,show (n+1) * z.size=z.size+n * z.size by rw [Nat.add_mul];omega,List.range_add,List.map_append,List.replicate_succ,List.flatten_cons, ← ih,List.map_map]
  congr 1
  ·apply List.ext_getElem?
   intro j
   by_cases hj:j<z.size
   ·rw [List.getElem?_map,List.getElem?_range hj]
    simp [Nat.mod_eq_of_lt hj,hj]
   ·rw [List.getElem?_eq_none (by simp;omega),List.getElem?_eq_none (by simp;omega)]
  ·apply List.map_congr_left
   intro i _
   simp [Nat.add_mod_left]
section
variable {C:Cx} {all:Array Oper} {o:Oper} {env:Env} {ec:EnvC} {H:List HA} {d:Nat} {Φ:Env→EnvC→List HA→Prop}
theorem OpT.makeC {e:TypeId} {l c:Int} {ty:TyI} (hg:gOf all env ec o=some []) (he:evMk C.S env ec o=some (e,l,c)) (ht:C.S.ty e=some ty) (hd:o.dst=some d) (hN:Nat.blt d C.N.n=true) (hs:safeC all d ec=true)
  (hb:(0≤l∧l≤c)∧(ty.bytes:Int) * c≤281474976710656∧c≤9223372036854775807) (h:∀ b,Φ ((d, .slice (some ⟨b,0,none⟩) l.toNat c.toNat)::env) ec (blk b (madeCells ty.zero.cells (c.toNat * ty.size)).toList e::H)):OpT C all o env ec H Φ:=by
 obtain⟨x,hx,hx1,hx2,hx3⟩:=(Sig.tyOk ht).info'
 refine OpT.eff hg fun a w ha hw=>⟨.slice (some ⟨w.heap.size,0,none⟩) l.toNat c.toNat,w.alloc (.cells (madeCells ty.zero.cells (c.toNat * x.size)) e),_,?_,hw.alloc _ ?_,d,hd,hN,hs,h w.heap.size⟩
 ·obtain⟨dst,op,ty0,pos,aft,gd⟩:=o
  unfold evMk at he
  dsimp only at he
  split at he
  ·rename_i t p q
   split at he
   ·rename_i e' q1 q2 q3 kl l' kc c' hty hl hc
    cases he
    have hut:=(Sig.tyOk hty).fits
    simp only [Ty.fits] at hut
    have hr:=run_make (P:=C.S.P) w t e x ty.zero hut hx hx3 kl kc l c hb.1.1 hb.1.2 (by rw [hx2];exact hb.2.1) hb.2.2
    simp only [execOp,evX_spec ha (Holds.nil _ _) hl,evX_spec ha (Holds.nil _ _) hc]
    simp [hr]
   ·cases he
  ·cases he
 ·unfold blk
  rw [hx1]
end
end Go.Proofs.YtbfcfpmholkmeaaGreatDoor
namespace Go.Proofs.YtbfcfpmholkmeaaGreatDoor
open Go.RowKit Go.Shelf
set_option maxRecDepth 100000
set_option maxHeartbeats 1000000

def evYG (env:Env) (ec:EnvC) (G:GId) (o:Oper):Option (Nat × List Value) :=
 match o.op with
 | .call { callee := .value x,args:=xs,argTypes:=_ }=>match evX env ec G x,evL env ec G xs.toList with
  | some (.func (.yield l) fs cs),some vs=>cond (fs.isEmpty && cs.isEmpty) (some (l,vs)) none
  | _,_=>none
 | _=>none
theorem evYG_spec {P:Program} {N:FK} {all:Array Oper} {env:Env} {ec:EnvC} {G:GId} {o:Oper} {a:Act} (ha:Agrees N all env ec a) (hG:Holds all a G) {l:Nat} {x:List Value}
  (h:evYG env ec G o=some (l,x)) {w:World} {r:Next} (hy:(Instr.yield l x.toArray).run P w = .ok r w):(execOp a.eval o).run P w = .ok r w:=by
 obtain⟨dst,op,ty,pos,aft,gd⟩:=o
 unfold evYG at h
 dsimp only at h
 split at h
 ·rename_i xo xa ts
  split at h
  ·rename_i l' fs cs vs hx hvs
   cases hc:(fs.isEmpty && cs.isEmpty) with
   | false=>rw [hc] at h;cases h
   | true =>
    rw [hc] at h
    cases h
    simp only [Bool.and_eq_true,Array.isEmpty_iff] at hc
    obtain⟨rfl,rfl⟩:=hc
    have hx':=evX_spec ha hG hx
    have e1:=evL_spec ha hG hvs
    have e2:xa.map a.eval=x.toArray:=Array.ext' (by rw [Array.toList_map];exact e1)
    simp only [execOp,resolve,e2,hx',Deferred.ofValue]
    simpa [invoke] using hy
  ·cases h
 ·cases h
theorem Holds.of1 {N:FK} {all:Array Oper} {env:Env} {ec:EnvC} {i s:Nat} {b p:Bool} (hs:dstL all i=some s) (hv:lookE env s=some (.bool b)) (hb:b=p):∀ a,Agrees N all env ec a→Holds all a [(i,p)]:=by
 intro a ha x hx
 rw [List.mem_singleton] at hx
 subst hx
 subst hb
 have ht:=ha.at_ s _ hv
 unfold yielded
 rw [← dstL_eq,hs]
 simp only [Option.bind_some]
 rw [Array.getD_eq_getD_getElem?] at ht
 cases hq:a.tmps[s]? with
 | none=>rw [hq] at ht;simp [undef] at ht
 | some u=>rw [hq] at ht;simp only [Option.getD_some] at ht;subst ht;rfl
theorem OpT.never {C:Cx} {all:Array Oper} {o:Oper} {env:Env} {ec:EnvC} {H:List HA} {d:Nat} {G:GId} {Φ:Env→EnvC→List HA→Prop} (v:Value) (hg:gOf all env ec o=some G) (hn:GP all env ec G→False) (hd:o.dst=some d) (hN:Nat.blt d C.N.n=true) (hs:safeC all d ec=true) (hsG:safeG all d G=true) (hl:lookE env d=none)
  (h:Φ env ((d,(G,v))::ec) H):OpT C all o env ec H Φ:=by
 intro a w ha hw K Q hK
 have hH:¬ Holds all a G:=fun hh=>hn (hh.gp ha)
 refine ⟨fun hwn=>absurd ((wanted_iff ha hg).1 hwn) hH,fun _=>?_⟩
 rw [hd]
 exact hK _ _ _ _ _ h (ha.putC hN hs hsG hl (fun hh=>absurd hh hH) (fun _=>rfl)) hw
end Go.Proofs.YtbfcfpmholkmeaaGreatDoor
namespace Go.Proofs.YtbfcfpmholkmeaaGreatDoor
open Go.RowKit Go.Shelf
set_option maxRecDepth 100000
set_option maxHeartbeats 1000000

def dfrs (l:List Nat):List HA:=l.map dfr
section
variable {S:Sig} {m:Nat} {w0:World} {fn:Func} {Φ:Value→List HA→Prop} {k:List It} {env:Env} {ec:EnvC} {H:List HA}
theorem leaves_ds {a:Act} {H':List HA} (h:∀ w,Cls w0 w H'→LeavesInM (Fr none) 0 S.P fn a.tmps (Ret w0 Φ) [] .returning w):∀ (Dl:List Nat) (w:World),Cls w0 w (dfrs Dl++H')→LeavesInM (Fr none) 0 S.P fn a.tmps (Ret w0 Φ) (Dl.map mkD) .returning w
 | [],w,hw=>h w hw
 | D::Dl,w,hw=>by
  have hc:Cls w0 w (dfr D::(dfrs Dl++H')):=hw
  have hL:=(hc.obj (i:=0) rfl).1
  have hc2:=(hc.putObj (i:=0) rfl (.deferred none)).le (Hle.tail _ _)
  exact⟨(by intro h;cases h), .inl ⟨D,_,rfl,run_takeDeferred hL,leaves_ds h Dl _ hc2⟩⟩
theorem T_retDs {Dl:List Nat} (H':List HA) (hl:Hle H (H'++dfrs Dl)) (h:∀ a w,Agrees ⟨m,[]⟩ #[] env [] a→Cls w0 w H'→RF S.P w0 fn Φ a w):T (FC S m (Dl.map mkD) w0 fn Φ) (.code .ret::k) env ec H :=
 T_ret fun a w ha hw=>by
  show LeavesInM _ _ _ _ _ _ a.defers _ _
  rw [show a.defers=Dl.map mkD from ha.defers]
  refine leaves_ds (H':=H') (fun w' hw'=>?_) Dl w ((hw.le hl).le (Hle.comm _ _))
  exact h { a with defers:=[] } w' ⟨rfl,ha.size,ha.at_,fun _ _ _ h=>(by cases h),fun _ _ _ h=>(by cases h)⟩ hw'
def BackD (m:Nat) (w0:World) {σ:Type} (E:σ→Env) (G:σ→List HA) (Ds:σ→List Nat) (I:σ→Prop) (μ:σ→Nat) (s:σ):Act→World→Prop :=
 fun a w=>∃ s',I s'∧μ s'<μ s∧Agrees ⟨m,(Ds s').map mkD⟩ #[] (E s') [] a∧Cls w0 w (G s'++dfrs (Ds s'))
theorem T_loopD {c:Code} {σ:Type} {Dl:List Nat} (E:σ→Env) (G:σ→List HA) (Ds:σ→List Nat) (I:σ→Prop) (μ:σ→Nat) (s0:σ) (hI:I s0) (hD:Ds s0=Dl) (hE:EnvLe (E s0) env) (hG:Hle H (G s0++dfrs (Ds s0)))
  (hr:∀ s,I s→T (FC S m ((Ds s).map mkD) w0 fn Φ) (nf 60 (.code c :: .mark (BackD m w0 E G Ds I μ s)::k)) (E s) [] (G s++dfrs (Ds s))):T (FC S m (Dl.map mkD) w0 fn Φ) (.code (.loop c)::k) env ec H:=by
 subst hD
 refine T.mk fun a w ha hw=>?_
 refine wpIn_loop_ghost (fun n a w=>∃ s,μ s=n∧I s∧Agrees ⟨m,(Ds s).map mkD⟩ #[] (E s) [] a∧Cls w0 w (G s++dfrs (Ds s))) (μ s0) ⟨s0,rfl,hI,ha.le hE,hw.le hG⟩ ?_
 rintro n a w ⟨s,rfl,hs,ha,hw⟩
 have h2:=nf_spec (hr s hs a w ha.plain hw)
 have e:=sem_N (FC S m ((Ds s0).map mkD) w0 fn Φ) ⟨m,(Ds s).map mkD⟩ (.code c :: .mark (BackD m w0 E G Ds I μ s)::k)
 have h3:(sem (FC S m ((Ds s0).map mkD) w0 fn Φ) (.code c :: .mark (BackD m w0 E G Ds I μ s)::k)).1 a w:=by rw [← e];exact h2
 simp only [sem] at h3
 refine wpIn_mono h3 fun e a w q=>?_
 cases e <;> first|exact q|exact q.elim|skip
 obtain⟨s',h1,h2,h3,h4⟩:=q
 exact⟨μ s',h2,s',rfl,h1,h3,h4⟩
theorem T_loopDX {c:Code} {σ:Type} {Dl:List Nat} {ks:List Nat} {env':Env} (U:σ→Env) (G:σ→List HA) (Ds:σ→List Nat) (I:σ→Prop) (μ:σ→Nat) (s0:σ) (hI:I s0) (hD:Ds s0=Dl)
  (hr:∀ s,I s→T (FC S m ((Ds s).map mkD) w0 fn Φ) (nf 60 (.code c :: .mark (BackD m w0 (fun s=>U s++env') G Ds I μ s)::k)) (U s++env') [] (G s++dfrs (Ds s)))
  (hks:(U s0).map Prod.fst=ks:=by exact rfl)
  (hk:KeepX env ks env':=by repeat' (first|exact KeepX.nil _|apply KeepX.drop rfl|apply KeepX.keep rfl))
  (hE:EnvLe (U s0) env:=by repeat' (first|exact True.intro|refine And.intro rfl ?_)) (hG:Hle H (G s0++dfrs (Ds s0)):=by exact Hle.refl _):T (FC S m (Dl.map mkD) w0 fn Φ) (.code (.loop c)::k) env ec H :=
 T_loopD (fun s=>U s++env') G Ds I μ s0 hI hD (hE.append hk.le) hG hr
theorem T_backD {σ:Type} {U:σ→Env} {env':Env} {G:σ→List HA} {Ds:σ→List Nat} {I:σ→Prop} {μ:σ→Nat} {s:σ} {ds:List Deferred} (s':σ) (hI:I s') (hμ:μ s'<μ s) (hd:ds=(Ds s').map mkD)
  (hE:EnvLe (U s') env:=by repeat' (first|exact True.intro|refine And.intro rfl ?_)) (hE2:EnvLe env' env:=by repeat' (first|exact True.intro|refine And.intro rfl ?_)) (hG:Hle H (G s'++dfrs (Ds s')):=by exact Hle.refl _) :
  T (FC S m ds w0 fn Φ) (.mark (BackD m w0 (fun s=>U s++env') G Ds I μ s)::k) env ec H:=by
 subst hd
 exact T.mk fun _ _ ha hw=>⟨s',hI,hμ,ha.le (hE.append hE2),hw.le hG⟩
end
theorem Hle.srtT {A K:List HA} (T:List HA) (h:Pk A K:=by repeat' (first|exact Pk.nil _|apply Pk.cons|with_reducible exact Rm.here|((with_reducible apply Rm.b);rfl)|((with_reducible apply Rm.r) <;> rfl)|apply Rm.there)):Hle (A++T) (K++T):=by
 obtain⟨p,h1,h2⟩:=h.spec.at_
 have hp:∀ i,i<K.length→p i<A.length:=fun i hi=>by
  have:=h1 i K[i] (List.getElem?_eq_getElem hi)
  exact (List.getElem?_eq_some_iff.1 this).1
 refine Hle.pick (fun i=>if i<K.length then p i else i - K.length+A.length) (fun i B hB=>?_) (fun i j hi hj hne=>?_)
 ·by_cases hi:i<K.length
  ·rw [List.getElem?_append_left hi] at hB
   rw [if_pos hi,List.getElem?_append_left (hp i hi)]
   exact h1 i B hB
  ·rw [List.getElem?_append_right (by omega)] at hB
   rw [if_neg hi,List.getElem?_append_right (by omega),show i - K.length+A.length - A.length=i - K.length by omega]
   exact hB
 ·by_cases hi:i<K.length
  ·have:=hp i hi
   by_cases hj:j<K.length
   ·rw [if_pos hi,if_pos hj];exact h2 i j hi hj hne
   ·rw [if_pos hi,if_neg hj];omega
  ·by_cases hj:j<K.length
   ·have:=hp j hj
    rw [if_neg hi,if_pos hj];omega
   ·rw [if_neg hi,if_neg hj];omega
end Go.Proofs.YtbfcfpmholkmeaaGreatDoor
namespace Go.Proofs.YtbfcfpmholkmeaaGreatDoor
open Go.RowKit Go.Shelf
set_option maxRecDepth 100000
set_option maxHeartbeats 1000000

def YieldsO (P:Program) (w0:World) (l:Nat) (GP:Nat→List HA→Prop) (X:List HA→Prop) (Q:Nat→List Value→List HA→Prop) (n:Nat):Prop :=
 ∀ (j:Nat) (x:List Value) (B Hj K:List HA) (w:World),j<n→Q j x B→GP j Hj→Cls w0 w (Hj++(B++K)) →
  ∃ f tmps assign body,(Instr.yield l x.toArray).run P w = .ok (.round l f tmps assign body) w∧RoundIn (Fr none) 0 P l f tmps assign body w fun e w' =>
   (e = .returned (.bool true)∧∃ H',GP (j+1) H'∧Cls w0 w' (H'++K))∨(e = .returned (.bool false)∧∃ Y,X Y∧Cls w0 w' (Y++K))
def IterO (P:Program) (w0:World) (f:FuncId) (fs cs:List Value) (cap:List HA) (Q:Nat→List Value→List HA→Prop) (n:Nat):Prop :=
 Enters P f∧∀ l GP X w Hj,YieldsO P w0 l GP X Q n→GP 0 Hj→Cls w0 w (cap++Hj) →
  CallsIn (Fr none) 0 P f (fs++(yv l::cs)).toArray w (RIt w0 cap GP X n)
theorem iterO_of (S : Sig) {w0 : World} {f : FuncId} {fn : Func} {c : Code} {fs cs : List Value} {cap : List HA} {Q : Nat → List Value → List HA → Prop} {n : Nat} (hf : S.P.funcs[f]? = some fn) (hn : (fn.name == "runtime.NumGoroutine") = false) (hb : fn.body = some c)
  (hlen:Nat.ble (fs.length+(1+cs.length)) fn.ntmps=true)
  (h:∀ l GP X Hj,YieldsO S.P w0 l GP X Q n→GP 0 Hj→T (IC S fn.ntmps w0 fn (RIt w0 cap GP X n)) (nf 60 [.code c]) (zipE 0 (fs++(yv l::cs))) [] (cap++Hj)):IterO S.P w0 f fs cs cap Q n:=by
 refine ⟨enters_of hf hn hb,fun l GP X w Hj hY h0 hw=>callsIn_of_wp_marks (n:=0) hf hb trivial ?_⟩
 generalize hargs:fs++(yv l::cs)=args
 have hlen':args.length≤fn.ntmps:=by
  have:=Nat.le_of_ble_eq_true hlen
  rw [← hargs];simp;omega
 have ha:Agrees ⟨fn.ntmps,[]⟩ (allOf (nf 60 [.code c])) (zipE 0 args) [] { tmps:=args.toArray++Array.replicate (fn.ntmps - args.toArray.size) undef,defers:=[] }:=by
  refine ⟨rfl,by simp;omega,fun s v hv=>?_,fun _ _ _ h=>(by cases h),fun _ _ _ h=>(by cases h)⟩
  obtain⟨_,h2⟩:=zipE_spec args 0 s v hv
  simp only [Nat.sub_zero] at h2
  have hs:s<args.length:=(List.getElem?_eq_some_iff.1 h2).1
  simp [Array.getD_eq_getD_getElem?,Array.getElem?_append,hs]
  rw [List.getElem?_eq_getElem hs] at h2
  simpa using h2
 have h1:=h l GP X Hj hY h0
 rw [hargs] at h1
 have:=nf_spec (h1 _ _ ha hw)
 simp only [sem] at this
 refine wpIn_mono this fun e a w' q=>?_
 cases e <;> first|exact q|exact q.elim
theorem T_rangeO {S:Sig} {m:Nat} {ds:List Deferred} {w0:World} {fn:Func} {Φ:Value→List HA→Prop} {g:Operand} {ps:Array Tmp} {assign body:Code} {k:List It} {env:Env} {ec:EnvC} {H:List HA}
  {f:FuncId} {fs cs:List Value} {cap:List HA} {Q:Nat→List Value→List HA→Prop} {n:Nat} (hit:IterO S.P w0 f fs cs cap Q n)
  (hg:evX env [] [] g=some (.func (.func f) fs.toArray cs.toArray)) (hps:∀ (j:Nat) (x:List Value) (B:List HA),j<n→Q j x B→x.length=ps.size∧inP m (ps.toList.zip x)=true)
  (GP:Nat→List HA→Prop) (XR:List HA→Prop) (XE:Nat→List HA→Prop) (H0:List HA) (h0:GP 0 H0) (hH:Hle H (cap++H0))
  (hround:∀ (L:Nat) (r:Loop) (j:Nat) (x:List Value) (B Hj K:List HA),r.state = .ready→j<n→Q j x B→GP j Hj→T (RA (RC S m w0 L (busy r) GP XR XE j K) L body) (nf 60 [.code assign]) (envP (ps.toList.zip x) env) [] (lrec L r::(Hj++(B++K))))
  (hn:∀ D Hn,GP n Hn→T (FC S m (mkD D::ds) w0 fn Φ) (nf 60 k) env [] (dfr D::(cap++Hn)))
  (hret:∀ D Hx,XR Hx→T (FC S m (mkD D::ds) w0 fn Φ) (.code .ret::k) env [] (dfr D::(cap++Hx)))
  (hex:∀ D id Hx,XE id Hx→T (FC S m (mkD D::ds) w0 fn Φ) (nf 60 (.code (.exit id)::k)) env [] (dfr D::(cap++Hx))) :
  T (FC S m ds w0 fn Φ) (.code (.rangeFunc g ps assign body)::k) env ec H:=by
 refine T.mk fun a w ha hw=>?_
 have ha0:Agrees ⟨m,ds⟩ #[] env [] a:=ha.plain
 replace hw:=Cls.le hw hH
 refine wpIn_rangeFunc fun fn' _=>?_
 -- the two blocks
 have hw1:=(hw.alloc (.deferred (some [])) (A:=dfr w.heap.size) rfl)
 have hsz:(w.alloc (.deferred (some []))).heap.size=w.heap.size+1:=World.size_alloc _ _
 generalize hD:w.heap.size=D at hw1 hsz
 generalize hr0:({ state := .ready,pending:=none,fn:=fn',tmps:=a.tmps,params:=ps,assign,body,defers:=D }:Loop)=r
 have hrdy:r.state = .ready:=by rw [← hr0]
 have hpd:r.pending=none:=by rw [← hr0]
 have hw2:=(hw1.alloc (.loop r) (A:=lrec (D+1) r) (by rw [hsz];rfl))
 have hen:=run_enterLoop_outer (P:=S.P) (w:=w) fn' a.tmps ps assign body
 rw [hD,hr0] at hen
 have hgv:=evX_spec (all := #[]) ha0 (Holds.nil _ _) hg
 have hargs:(fs.toArray ++ #[yv (D+1)]++cs.toArray)=(fs++(yv (D+1)::cs)).toArray:=Array.ext' (by simp)
 refine ⟨D+1,[mkD D],_,⟨.fn (.func f) cs.toArray,fs.toArray ++ #[yv (D+1)]⟩,(w.alloc (.deferred (some []))).alloc (.loop r),f,(fs++(yv (D+1)::cs)).toArray,(w.alloc (.deferred (some []))).alloc (.loop r),hen,?_,fun _ _=>trivial,?_,fun h=>(by cases h),?_⟩
 ·simp [resolve,hgv,Deferred.ofValue,yv]
  rfl
 ·have:=hit.1 (fs++(yv (D+1)::cs)).toArray ((w.alloc (.deferred (some []))).alloc (.loop r))
  rw [← hargs] at this ⊢
  simpa [invoke] using this
 · -- the rounds
  have hYd:YieldsO S.P w0 (D+1) (fun j H'=>∃ Hj,H'=lrec (D+1) r::dfr D::Hj∧GP j Hj) (fun Y=>∃ Hx jump,Y=lrec (D+1) { r with state := .done,pending:=some jump }::dfr D::Hx∧((jump = .ret∧XR Hx)∨∃ id,jump = .exit id∧XE id Hx)) Q n:=by
   rintro j x B _ K w1 hj hQ ⟨Hj,rfl,hGj⟩ hc
   have hL:=(hc.obj (i:=0) rfl).1
   obtain⟨hxl,hin⟩:=hps j x B hj hQ
   have hy:=run_yield (P:=S.P) (args:=x.toArray) hL (by rw [← hr0];simp [hxl])
   refine ⟨_,_,_,_,hy,roundIn_of_wpIn trivial ?_⟩
   have hc':Cls w0 w1 (lrec (D+1) r::(Hj++(B++(dfr D::K)))):=hc.le (Hle.perm (.cons _ (by
    have h1:=(List.perm_middle (a:=dfr D) (l₁:=Hj++B) (l₂:=K)).symm
    rw [List.append_assoc,List.append_assoc] at h1
    exact h1)))
   have hT:=hround (D+1) r j x B Hj (dfr D::K) hrdy hj hQ hGj
   have hag:Agrees ⟨m,[]⟩ #[] env [] { tmps:=r.tmps,defers:=[] }:=by
    rw [← hr0]
    exact⟨rfl,ha0.size,ha0.at_,fun _ _ _ h=>(by cases h),fun _ _ _ h=>(by cases h)⟩
   have hag2:=Agrees.putAll (N:=⟨m,[]⟩) (l:=ps.toList.zip x) hin hag
   have htm:(r.params.zip x.toArray).foldl (fun tmps (p:Tmp × Value)=>tmps.setIfInBounds p.1 p.2) r.tmps=(ps.toList.zip x).foldl (fun tmps (p:Nat × Value)=>tmps.setIfInBounds p.1 p.2) r.tmps:=by
    rw [← hr0, ← Array.foldl_toList,Array.toList_zip]
   rw [htm]
   have h1:=nf_spec (hT _ w1 ⟨hag2.defers,hag2.size,hag2.at_,fun _ _ _ h=>(by cases h),fun _ _ _ h=>(by cases h)⟩ hc')
   simp only [sem] at h1
   have hra:r.assign=assign:=by rw [← hr0]
   have hrb:r.body=body:=by rw [← hr0]
   rw [← hra, ← hrb] at h1
   refine wpIn_mono (F:=Fr (some (D+1))) h1 fun e a1 w2 q=>?_
   cases e <;> first|exact q.elim|skip
   obtain⟨w3,hb,hbody⟩:=q
   refine ⟨w3,hb,wpIn_mono hbody fun e a2 w4 q=>?_⟩
   have fin:∀ H':List HA,Cls w0 w4 (lrec (D+1) (busy r)::(H'++(dfr D::K)))→∀ jump,∃ w',(Instr.endRound (D+1) jump).run S.P w4 = .ok (.bool jump.isNone) w'∧Cls w0 w' (lrec (D+1) { r with state:=if jump.isNone then .ready else .done,pending:=jump }::dfr D::(H'++K)):=by
    intro H' hcl jump
    have hL4:=(hcl.obj (i:=0) rfl).1
    refine ⟨_,run_endRound jump hL4,?_⟩
    have:=hcl.putObj (i:=0) rfl (.loop { r with state:=if jump.isNone then .ready else .done,pending:=jump })
    exact this.le (Hle.perm ((List.perm_middle (a:=dfr D) (l₁:=H') (l₂:=K)).cons _))
   cases e with
   | normal =>
    obtain⟨H',g1,g2⟩:=q
    obtain⟨w',e1,e2⟩:=fin H' g2 none
    refine ⟨_,w',e1, .inl ⟨rfl,_,⟨H',rfl,g1⟩,?_⟩⟩
    have er:({ r with state := .ready,pending:=none }:Loop)=r:=by rw [← hr0]
    simp only [Option.isNone_none,if_true] at e2
    rw [er] at e2
    exact e2
   | ret =>
    obtain⟨H',g1,g2⟩:=q
    obtain⟨w',e1,e2⟩:=fin H' g2 (some .ret)
    exact⟨_,w',e1, .inr ⟨rfl,_,⟨H', .ret,rfl, .inl ⟨rfl,g1⟩⟩,e2⟩⟩
   | exit id =>
    obtain⟨H',g1,g2⟩:=q
    obtain⟨w',e1,e2⟩:=fin H' g2 (some (.exit id))
    exact⟨_,w',e1, .inr ⟨rfl,_,⟨H', .exit id,rfl, .inr ⟨id,rfl,g1⟩⟩,e2⟩⟩
   | goto t=>exact q.elim
   | panic c=>exact q.elim
   | outgrown=>exact q.elim
  have hstart:Cls w0 ((w.alloc (.deferred (some []))).alloc (.loop r)) (cap++(lrec (D+1) r::dfr D::H0)):=by
   have h1:Cls w0 ((w.alloc (.deferred (some []))).alloc (.loop r)) (lrec (D+1) r::dfr D::(cap++H0)):=hw2
   exact h1.le (Hle.rot2 _ _ cap H0)
  have hcall:=hit.2 (D+1) _ _ _ _ hYd ⟨H0,rfl,h0⟩ hstart
  have hcall':CallsIn (Fr none) 0 S.P f (fs++(yv (D+1)::cs)).toArray ((w.alloc (.deferred (some []))).alloc (.loop r)) _:=hcall
  refine CallsIn.mono hcall' ?_
  rintro e w3 ⟨⟨v,rfl⟩,hend⟩
  have hsem:=sem_N (FC S m ds w0 fn Φ) ⟨m,mkD D::ds⟩ k
  have hag:∀ all,Agrees ⟨m,mkD D::ds⟩ all env [] { a with defers:=[mkD D]++a.defers }:=fun all =>
   ⟨by simp [ha0.defers],ha0.size,ha0.at_,fun _ _ _ h=>(by cases h),fun _ _ _ h=>(by cases h)⟩
  rcases hend with⟨_,⟨Hn,rfl,hGn⟩,hc⟩|⟨_,⟨Hx,jump,rfl,hj⟩,hc⟩
  ·have hc:=hc.le (Hle.unrot2 _ _ cap Hn)
   have hL:=(hc.obj (i:=0) rfl).1
   refine ⟨none,w3.putObj (D+1) (.loop { r with state := .exhausted }),(run_endLoop hL (by rw [hrdy];intro h;cases h)).trans (by rw [hpd]),?_⟩
   have hc2:=(hc.putObj (i:=0) rfl (.loop { r with state := .exhausted })).le (Hle.tail _ _)
   have:=nf_spec (hn D Hn hGn _ _ (hag _) hc2)
   show (sem (FC S m ds w0 fn Φ) k).1 _ _
   rw [← hsem]
   exact this
  ·have hc:=hc.le (Hle.unrot2 _ _ cap Hx)
   have hL:=(hc.obj (i:=0) rfl).1
   refine ⟨_,_,run_endLoop hL (by intro h;cases h),?_⟩
   have hc2:=(hc.putObj (i:=0) rfl (.loop { ({ r with state := .done,pending:=some jump }:Loop) with state := .exhausted })).le (Hle.tail _ _)
   rcases hj with⟨rfl,hX⟩|⟨id,rfl,hX⟩
   ·have:=hret D Hx hX _ _ (hag _) hc2
    have h9:(sem (FC S m (mkD D::ds) w0 fn Φ) (.code .ret::k)).1 _ _:=this
    simp only [sem] at h9
    have h10:sem (FC S m (mkD D::ds) w0 fn Φ) k=sem (FC S m ds w0 fn Φ) k:=hsem
    rw [h10] at h9
    exact h9
   ·have:=nf_spec (hex D id Hx hX _ _ (hag _) hc2)
    simp only [sem] at this
    have h10:sem (FC S m (mkD D::ds) w0 fn Φ) k=sem (FC S m ds w0 fn Φ) k:=hsem
    rw [h10] at this
    exact this

theorem OpT.yieldO {S:Sig} {m:Nat} {w0:World} {fn:Func} {R:Ending→World→Prop} {all:Array Oper} {o:Oper} {env:Env} {ec:EnvC} {H:List HA} {d l j:Nat} {x:List Value} {G:GId} {Φ:Env→EnvC→List HA→Prop}
  {GP:Nat→List HA→Prop} {X:List HA→Prop} {Q:Nat→List Value→List HA→Prop} {n:Nat} {Hj:List HA} (B K:List HA)
  (hY:YieldsO S.P w0 l GP X Q n) (hg:gOf all env ec o=some G) (he:evYG env ec G o=some (l,x)) (hT:∀ a,Agrees ⟨m,[]⟩ all env ec a→Holds all a G) (hd:o.dst=some d) (hN:Nat.blt d m=true) (hs:safeC all d ec=true) (hj:j<n) (hQ:Q j x B) (hGP:GP j Hj) (hl:Hle H (Hj++(B++K)))
  (ht:∀ H',GP (j+1) H'→Φ ((d, .bool true)::env) ec (K++H'))
  (hf:∀ Y,X Y→Φ ((d, .bool false)::env) ec (K++Y)):OpT (IC S m w0 fn R) all o env ec H Φ:=by
 intro a w ha hw K' Q' hK
 have hH:=hT a ha
 have hwn:=(wanted_iff ha hg).2 hH
 refine ⟨fun _=>?_,fun hn=>(by rw [hwn] at hn;cases hn)⟩
 obtain⟨f,tmps,assign,body,hy,hr⟩:=hY j x B Hj K w hj hQ hGP (hw.le hl)
 have hdef:=gOf_def hg
 have hex:=evYG_spec ha hH he hy
 unfold Oper.wpIn
 refine ⟨about_Fr o _ w _,?_⟩
 rw [Oper.semAt_eq _ _ _ hdef,hex]
 refine ⟨fun h=>(by cases h),RoundIn.mono hr ?_⟩
 rintro e w' (⟨rfl,H',h1,h2⟩|⟨rfl,Y,h1,h2⟩)
 ·exact hK _ _ _ _ _ (ht H' h1) (by rw [hd];exact ha.put hN hs) (h2.le (Hle.comm _ _))
 ·exact hK _ _ _ _ _ (hf Y h1) (by rw [hd];exact ha.put hN hs) (h2.le (Hle.comm _ _))
end Go.Proofs.YtbfcfpmholkmeaaGreatDoor
namespace Go.Proofs.YtbfcfpmholkmeaaGreatDoor
open Go.RowKit Go.Shelf

instance (priority:=low) SubP.same (H:List HA):SubP H H:=⟨id,fun i B h=>h,fun i j _ _ h=>h⟩
inductive Pq:List HA→List HA→Prop where
 | nil (H:List HA):Pq H []
 | same (H:List HA):Pq H H
 | cons {A:HA} {H H' K:List HA} (h:Rm A H H') (k:Pq H' K):Pq H (A::K)
 | drop {A:HA} {H K:List HA} (k:Pq H K):Pq (A::H) K
theorem Pq.spec {H K:List HA} (h:Pq H K):PickP H K:=by
 induction h with
 | nil H=>exact PickP.nil H
 | same H=>exact⟨id,fun i B h=>h,fun i j _ _ h=>h⟩
 | cons h _ ih=>exact PickP.cons _ _ _ _ (h:=h.spec) (k:=ih)
 | drop _ ih =>
  obtain⟨p,h1,h2⟩:=ih.at_
  exact⟨fun i=>p i+1,fun i B hi=>by simpa using h1 i B hi,fun i j hi hj hne=>by have:=h2 i j hi hj hne;dsimp only;omega⟩
theorem Hle.srtV {H K:List HA} (h:Pq H K:=by repeat' (first|exact Pq.nil _|with_reducible exact Pq.same _|apply Pq.cons|with_reducible exact Rm.here|((with_reducible apply Rm.b);rfl)|((with_reducible apply Rm.r) <;> rfl)|apply Rm.there|apply Pq.drop)):Hle H K:=Hle.any (h:=h.spec)
end Go.Proofs.YtbfcfpmholkmeaaGreatDoor
namespace Go.Proofs.YtbfcfpmholkmeaaGreatDoor
open Go.RowKit Go.Shelf
set_option maxRecDepth 100000
set_option maxHeartbeats 1000000

end Go.Proofs.YtbfcfpmholkmeaaGreatDoor
namespace Go.Proofs.YtbfcfpmholkmeaaGreatDoor
open Go.RowKit Go.Shelf

def sureG (all:Array Oper) (env:Env):GId→Bool
  | []=>true
  | (i,p)::G=>(match dstL all i with
    | some s=>(match lookE env s with
      | some (.bool q)=>(match q,p with
        | true,true=>true
        | false,false=>true
        | _,_=>false)
      | _=>false)
    | none=>false) && sureG all env G
theorem sureG_holds {N:FK} {all:Array Oper} {env:Env} {ec:EnvC} {a:Act} (ha:Agrees N all env ec a):∀ {G:GId},sureG all env G=true→Holds all a G
  | [],_=>Holds.nil _ _
  | (i,p)::G,h=>by
    unfold sureG at h
    rw [Bool.and_eq_true] at h
    obtain⟨h1,h2⟩:=h
    intro x hx
    rcases List.mem_cons.1 hx with rfl|hx
    · split at h1
      · rename_i s hs
        split at h1
        · rename_i q hv
          have hqp:q=p:=by cases q <;> cases p <;> first|rfl|cases h1
          subst hqp
          have ht:=ha.at_ s _ hv
          show yielded all a.tmps i=some q
          unfold yielded
          rw [← dstL_eq,hs]
          simp only [Option.bind_some]
          rw [Array.getD_eq_getD_getElem?] at ht
          cases hq:a.tmps[s]? with
          | none=>rw [hq] at ht;simp [undef] at ht
          | some u=>rw [hq] at ht;simp only [Option.getD_some] at ht;subst ht;rfl
        · cases h1
      · cases h1
    · exact sureG_holds ha h2 x hx
theorem T_known {C:Cx} {k:List It} {env:Env} {ec:EnvC} {H:List HA} (d:Nat) {G:GId} {v:Value} (hl:lookE ec d=some (G,v)) (hg:sureG (allOf k) env G=true) (h:T C k ((d,v)::env) ec H):T C k env ec H :=
 T.mk fun a w ha hw=>h.go a w ⟨ha.defers,ha.size,fun s u hs=>by
  rcases lookE_cons hs with⟨rfl,rfl⟩|⟨_,hs⟩
  ·exact ha.yes _ _ _ hl (sureG_holds ha hg)
  ·exact ha.at_ s u hs,ha.yes,ha.no⟩ hw
end Go.Proofs.YtbfcfpmholkmeaaGreatDoor
namespace Go.Proofs.YtbfcfpmholkmeaaGreatDoor
open Go.RowKit Go.Shelf
set_option maxRecDepth 100000
set_option maxHeartbeats 1000000

def jn (A B:HA):HA:=fun f=>∃ g h:Frag,(∀ b,g b=none∨h b=none)∧f=(fun b=>(g b).or (h b))∧A g∧B h
def em:HA:=fun _=>True
section
variable {α:Type} [DecidableEq α]
def fndL (a:α):List (α × Value)→Nat→Option (Nat × Value)
 | [],_=>none
 | p::l,i=>if a=p.1 then some (i,p.2) else fndL a l (i+1)
def mget (l:List (α × Value)) (a:α):Option Value:=(fndL a l 0).map Prod.snd
def mput:List (α × Value)→α→Value→List (α × Value)
 | [],a,v=>[(a,v)]
 | p::l,a,v=>if a=p.1 then (p.1,v)::l else p::mput l a v
theorem fndL_snd (a:α):∀ (l:List (α × Value)) (i j:Nat),(fndL a l i).map Prod.snd=(fndL a l j).map Prod.snd
 | [],_,_=>rfl
 | p::l,i,j=>by
  unfold fndL
  by_cases h:a=p.1
  ·rw [if_pos h,if_pos h];rfl
  ·rw [if_neg h,if_neg h];exact fndL_snd a l _ _
theorem fndL_cons (a:α) (p:α × Value) (l:List (α × Value)) (i:Nat):fndL a (p::l) i=if a=p.1 then some (i,p.2) else fndL a l (i+1):=rfl
theorem mget_cons (p:α × Value) (l:List (α × Value)) (a:α):mget (p::l) a=if a=p.1 then some p.2 else mget l a:=by
 unfold mget
 rw [fndL_cons]
 by_cases h:a=p.1
 ·rw [if_pos h,if_pos h];rfl
 ·rw [if_neg h,if_neg h];exact fndL_snd a l _ _
theorem mput_new {a:α} {v:Value}:∀ {l:List (α × Value)} {i:Nat},fndL a l i=none→mput l a v=l++[(a,v)]
 | [],_,_=>rfl
 | q::l,i,h=>by
  unfold fndL at h
  split at h
  ·cases h
  ·rename_i hne
   unfold mput
   rw [if_neg hne,mput_new h];rfl
theorem mput_old {a:α} {v u:Value}:∀ {l:List (α × Value)} {i j:Nat},fndL a l i=some (j,u)→i≤j∧(∃ p,l[j - i]?=some p∧p.1=a)∧mput l a v=l.set (j - i) (a,v)
 | q::l,i,j,h=>by
  unfold fndL at h
  split at h
  ·rename_i e
   simp only [Option.some.injEq,Prod.mk.injEq] at h
   obtain⟨rfl,_⟩:=h
   rw [Nat.sub_self]
   refine ⟨Nat.le_refl _,⟨q,rfl,e.symm⟩,?_⟩
   unfold mput
   rw [if_pos e, ← e];rfl
  ·rename_i hne
   obtain⟨h1,⟨p,h2,h3⟩,h4⟩:=mput_old (v:=v) h
   have e:j - i=(j - (i+1))+1:=by omega
   refine ⟨by omega,⟨p,by rw [e];exact h2,h3⟩,?_⟩
   unfold mput
   rw [if_neg hne,h4,e];rfl
structure MKey (P:Program) (kt:TypeId) (inj:α→Value) (good:World→α→Prop):Prop where
 check:∀ em a w,(Instr.checkKey em 10000 kt (inj a)).run P w = .ok () w
 find:∀ w a (es:List MapEntry) (l:List (α × Value)),es.map (fun e=>(e.key,e.val))=l.map (fun p=>(inj p.1,p.2))→good w a→(∀ p∈l,good w p.1)→(Instr.findKey kt (inj a) es).run P w = .ok (fndL a l 0) w
 stays:∀ a w,(Instr.keyThatStays (inj a) (inj a)).run P w = .ok (inj a) w
def bornOk (es:Array MapEntry) (clock:Nat):Prop:=(∀ x∈es.toList,x.born<clock)∧(es.toList.map (·.born)).Nodup
theorem bornOk_push {es:Array MapEntry} {clock:Nat} (h:bornOk es clock) (key val:Value):bornOk (es.push { key,val,born:=clock }) (clock+1):=by
 obtain⟨h1,h2⟩:=h
 refine ⟨?_,?_⟩
 ·intro x hx
  simp only [Array.toList_push,List.mem_append,List.mem_singleton] at hx
  rcases hx with hx|rfl
  ·exact Nat.lt_succ_of_lt (h1 x hx)
  ·exact Nat.lt_succ_self _
 ·simp only [Array.toList_push,List.map_append,List.map_cons,List.map_nil]
  refine List.nodup_append.2 ⟨h2,by simp,?_⟩
  intro a ha b hb
  simp only [List.mem_singleton] at hb
  subst hb
  obtain⟨x,hx,rfl⟩:=List.mem_map.1 ha
  exact Nat.ne_of_lt (h1 x hx)
theorem bornOk_modify {es:Array MapEntry} {clock:Nat} (h:bornOk es clock) (i:Nat) (f:MapEntry→MapEntry) (hb:∀ e,(f e).born=e.born):bornOk (es.modify i f) clock:=by
 have hborn:(es.modify i f).toList.map (·.born)=es.toList.map (·.born):=by
  apply List.ext_getElem?
  intro j
  simp only [List.getElem?_map,Array.getElem?_toList,Array.getElem?_modify]
  by_cases hij:i=j
  ·subst hij
   cases he:es[i]? with
   | none=>simp
   | some e=>simp [hb e]
  ·simp [hij]
 refine ⟨fun x hx=>?_,by rw [hborn];exact h.2⟩
 have h9:x.born∈(es.modify i f).toList.map (·.born):=List.mem_map_of_mem (f:=fun e:MapEntry=>e.born) hx
 rw [hborn] at h9
 obtain⟨y,hy,e9⟩:=List.mem_map.1 h9
 rw [← e9]
 exact h.1 y hy
def mph (inj:α→Value) (b:Nat) (l:List (α × Value)):HA:=fun f=>∃ es clock,f=one b (.map es clock)∧es.toList.map (fun e=>(e.key,e.val))=l.map (fun p=>(inj p.1,p.2))∧bornOk es clock
end
theorem findNow_str (a:ByteArray):∀ (es:List MapEntry) (l:List (ByteArray × Value)) (i:Nat),es.map (fun e=>(e.key,e.val))=l.map (fun p=>(Value.string p.1,p.2))→Instr.findNow .string (.string a) es i=some (fndL a l i)
 | [],[],_,_=>rfl
 | [],_::_,_,h=>by simp at h
 | _::_,[],_,h=>by simp at h
 | e::es,p::l,i,h=>by
  simp only [List.map_cons,List.cons.injEq,Prod.mk.injEq] at h
  obtain⟨⟨h1,h2⟩,h3⟩:=h
  unfold Instr.findNow fndL
  rw [h1]
  have e9:Instr.sameNow .string (.string a) (.string p.1)=some (decide (a=p.1)):=by
   show some (a == p.1)=_
   refine congrArg some ?_
   rw [Bool.eq_iff_iff,MapKept.bytes_beq,decide_eq_true_eq]
  rw [e9]
  by_cases h9:a=p.1
  ·rw [if_pos h9,h2];simp [h9]
  ·rw [if_neg h9];simp only [h9,decide_false];exact findNow_str a es l (i+1) h3
theorem key_str {P:Program} {kt:TypeId} (h:P.underlying kt=some .string):MKey P kt Value.string (fun _ _=>True):=by
 have hck:∀ n em a w,(Instr.checkKey em (n+1) kt (.string a)).run P w = .ok () w:=fun n em a w=>by
  unfold Instr.checkKey
  simp [run_underlying h]
 have hsb:∀ n a,Instr.sameBits n (.string a) (.string a)=true:=fun n a=>by
  have:(a == a)=true:=(MapKept.bytes_beq a a).2 rfl
  cases n <;> (unfold Instr.sameBits;exact this)
 refine ⟨fun em a w=>hck 9999 em a w,fun w a es l he _ _=>?_,fun a w=>?_⟩
 ·simp [Instr.findKey,run_underlying h,findNow_str a es l 0 he]
 ·have:=hsb 10000 a
  simp [Instr.keyThatStays,this]
def isC (w:World) (b:Nat):Prop:=∃ cs t,w.heap[b]?=some (.cells cs t (0,0))
def goodP (w:World):Option Nat→Prop
 | none=>True
 | some b=>isC w b
class FocusMp (H:List HA) (b:Nat) {α:outParam Type} (inj:outParam (α→Value)) (l:outParam (List (α × Value))) (rb:outParam (HA→List HA)):Prop where
 at_:∃ i:Nat,H[i]?=some (mph inj b l)∧∀ B,rb B=H.set i B
instance FocusMp.head (H:List HA) (b:Nat) {α:Type} (inj:α→Value) (l:List (α × Value)):FocusMp (mph inj b l::H) b inj l (fun B=>B::H):=⟨0,rfl,fun _=>rfl⟩
instance FocusMp.tail (A0:HA) (H:List HA) (b:Nat) {α:Type} (inj:α→Value) (l:List (α × Value)) (rb:HA→List HA) [h:FocusMp H b inj l rb]:FocusMp (A0::H) b inj l (fun B=>A0::rb B) :=
 ⟨by obtain⟨i,h1,h2⟩:=h.at_;exact⟨i+1,by simpa using h1,fun B=>by simp [h2]⟩⟩
def mapAt {α:Type} (w:World) (inj:α→Value) (b:Nat) (l:List (α × Value)):Prop:=∃ es clock,w.heap[b]?=some (.map es clock)∧es.toList.map (fun e=>(e.key,e.val))=l.map (fun p=>(inj p.1,p.2))
theorem mapAt.old {α:Type} {w0 w:World} {H:List HA} {inj:α→Value} {b:Nat} {l:List (α × Value)} (h:mapAt w0 inj b l) (hw:Cls w0 w H):mapAt w inj b l:=by
 obtain⟨es,clock,h1,h2⟩:=h
 exact⟨es,clock,(hw.below.block b (lt_of_heap h1)).trans h1,h2⟩
theorem isC.old {w0 w:World} {H:List HA} {b:Nat} (h:isC w0 b) (hw:Cls w0 w H):isC w b:=by
 obtain⟨cs,t,h⟩:=h
 exact⟨cs,t,(hw.below.block b (lt_of_heap h)).trans h⟩
theorem goodP.old {w0 w:World} {H:List HA} {a:Option Nat} (h:goodP w0 a) (hw:Cls w0 w H):goodP w a:=by
 cases a with
 | none=>trivial
 | some b=>exact isC.old h hw
theorem Cls.mapOf {w0 w:World} {H:List HA} {b:Nat} {α:Type} {inj:α→Value} {l:List (α × Value)} {rb:HA→List HA} (hw:Cls w0 w H) [hf:FocusMp H b inj l rb]:mapAt w inj b l:=by
 obtain⟨i,hi,_⟩:=hf.at_
 obtain⟨F,h1,h2,_⟩:=hw.sep
 have hil:i<H.length:=(List.getElem?_eq_some_iff.1 hi).1
 obtain⟨es,clock,he,hl,_⟩:=h1 i _ hi
 exact⟨es,clock,(h2 i b _ hil (by rw [he];simp [one])).2,hl⟩
def mapB {α:Type} (w:World) (inj:α→Value) (b:Nat) (l:List (α × Value)):Prop:=∃ es clock,w.heap[b]?=some (.map es clock)∧es.toList.map (fun e=>(e.key,e.val))=l.map (fun p=>(inj p.1,p.2))∧bornOk es clock
theorem mapB.old {α:Type} {w0 w:World} {H:List HA} {inj:α→Value} {b:Nat} {l:List (α × Value)} (h:mapB w0 inj b l) (hw:Cls w0 w H):mapB w inj b l:=by
 obtain⟨es,clock,hb,hl,ho⟩:=h
 have hlt:b<w0.heap.size:=lt_of_heap hb
 exact⟨es,clock,(hw.below.block b hlt).trans hb,hl,ho⟩
theorem Cls.mapOfB {w0 w:World} {H:List HA} {b:Nat} {α:Type} {inj:α→Value} {l:List (α × Value)} {rb:HA→List HA} (hw:Cls w0 w H) [hf:FocusMp H b inj l rb]:mapB w inj b l:=by
 obtain⟨i,hi,_⟩:=hf.at_
 obtain⟨F,h1,h2,_⟩:=hw.sep
 have hil:i<H.length:=(List.getElem?_eq_some_iff.1 hi).1
 obtain⟨es,clock,he,hl,ho⟩:=h1 i _ hi
 exact⟨es,clock,(h2 i b _ hil (by rw [he];simp [one])).2,hl,ho⟩
def evMM (o:Oper):Bool :=
 match o.op with
 | .makeMap _ none=>true
 | _=>false
def evLk (S:Sig) (env:Env) (ec:EnvC) (G:GId) (o:Oper):Option (TypeId × Nat × Value × Bool) :=
 match o.op with
 | .lookup t m x ok=>match evX env ec G m,evX env ec G x with
  | some (.map (some b)),some k=>some (t,b,k,ok)
  | _,_=>none
 | _=>none
def evUp (env:Env) (ec:EnvC) (o:Oper):Option (TypeId × Nat × Value × Value) :=
 match o.op with
 | .mapUpdate t m x y=>match evX env ec [] m,evX env ec [] x,evX env ec [] y with
  | some (.map (some b)),some k,some v=>some (t,b,k,v)
  | _,_,_=>none
 | .insert t m x y=>match evX env ec [] m,evX env ec [] x,evX env ec [] y with
  | some (.map (some b)),some k,some v=>some (t,b,k,v)
  | _,_,_=>none
 | _=>none
def evLm (env:Env) (ec:EnvC) (G:GId) (o:Oper):Option (TypeId × Nat) :=
 match o.op with
 | .call { callee := .builtin .len,args:=xs,argTypes:=ts }=>match evL env ec G xs.toList,ts.toList with
  | some [.map (some b)],[t]=>some (t,b)
  | _,_=>none
 | _=>none
section
variable {C:Cx} {all:Array Oper} {o:Oper} {rest:List Oper} {k:List It} {env:Env} {ec:EnvC} {H Hs:List HA} {d:Nat} {Φ:Env→EnvC→List HA→Prop} {G:GId}
theorem OpT.makeMap {α:Type} {inj:α→Value} (hg:gOf all env ec o=some []) (he:evMM o=true) (hd:o.dst=some d) (hN:Nat.blt d C.N.n=true) (hs:safeC all d ec=true)
  (h:∀ b,Φ ((d, .map (some b))::env) ec (mph inj b []::H)):OpT C all o env ec H Φ:=by
 refine OpT.eff hg fun a w ha hw=>⟨.map (some w.heap.size),w.alloc (.map #[] 0),_,?_,hw.alloc _ ⟨#[],0,rfl,rfl,⟨by simp,by simp⟩⟩,d,hd,hN,hs,h w.heap.size⟩
 obtain⟨dst,op,ty0,pos,aft,gd⟩:=o
 unfold evMM at he
 dsimp only at he
 split at he
 ·simp [execOp,run_makeMap]
 ·cases he
theorem Val.lookupO {α:Type} [DecidableEq α] {inj:α→Value} {good:World→α→Prop} {l:List (α × Value)} {t kt e:TypeId} {ty:TyI} {z:Value} {b:Nat} {a:α} {ok:Bool} (hv:evLk C.S env ec G o=some (t,b,inj a,ok))
  (hm:C.S.P.underlying t=some (.map kt e)) (hk:MKey C.S.P kt inj good) (he:C.S.ty e=some ty) (hz:ty.zero=z) (hold:∀ w,Cls C.w0 w Hs→mapAt w inj b l) (hga:∀ w,Cls C.w0 w Hs→good w a∧∀ p∈l,good w p.1) :
  Val C all o env ec Hs G (cond ok (.tuple #[(mget l a).getD z, .bool (mget l a).isSome]) ((mget l a).getD z)):=by
 intro a' w ha hw hH
 obtain⟨es,clock,hb,hes⟩:=hold w hw
 obtain⟨g1,g2⟩:=hga w hw
 have hfd:=hk.find w a es.toList l hes g1 g2
 have hzv:=(Sig.tyOk he).zeroValue w
 rw [hz] at hzv
 obtain⟨dst,op,ty0,pos,aft,gd⟩:=o
 unfold evLk at hv
 dsimp only at hv
 split at hv
 ·rename_i t' m x ok'
  split at hv
  ·rename_i b' k' hx hy
   simp only [Option.some.injEq,Prod.mk.injEq] at hv
   obtain⟨rfl,rfl,rfl,rfl⟩:=hv
   have e1:=evX_spec ha hH hx
   have e2:=evX_spec ha hH hy
   have hgo:∀ w,w.heap[b']?=some (.map es clock)→(getObj b').run C.S.P w = .ok (.map es clock) w:=fun w h=>by simp [getObj,Sem.run,h]
   simp only [execOp,e1,e2,Instr.lookup]
   unfold mget
   cases hq:fndL a l 0 with
   | none =>
    rw [hq] at hfd
    cases ok' <;> simp [run_underlying hm,hgo w hb,hk.check,hfd,hzv]
   | some r =>
    obtain⟨j,u⟩:=r
    rw [hq] at hfd
    cases ok' <;> simp [run_underlying hm,hgo w hb,hk.check,hfd]
  ·cases hv
 ·cases hv
theorem Val.lookup {α:Type} [DecidableEq α] {inj:α→Value} {good:World→α→Prop} {l:List (α × Value)} {rb:HA→List HA} {t kt e:TypeId} {ty:TyI} {z:Value} {b:Nat} {a:α} {ok:Bool} (hv:evLk C.S env ec G o=some (t,b,inj a,ok))
  (hm:C.S.P.underlying t=some (.map kt e)) (hk:MKey C.S.P kt inj good) (he:C.S.ty e=some ty) (hz:ty.zero=z) [hf:FocusMp Hs b inj l rb] (hga:∀ w,Cls C.w0 w Hs→good w a∧∀ p∈l,good w p.1) :
  Val C all o env ec Hs G (cond ok (.tuple #[(mget l a).getD z, .bool (mget l a).isSome]) ((mget l a).getD z)) :=
 Val.lookupO hv hm hk he hz (fun _ hw=>hw.mapOf) hga
theorem Val.lenMap {α:Type} {inj:α→Value} {l:List (α × Value)} {rb:HA→List HA} {t kt e:TypeId} {b:Nat} (hv:evLm env ec G o=some (t,b)) (hm:C.S.P.underlying t=some (.map kt e)) [hf:FocusMp Hs b inj l rb]:Val C all o env ec Hs G (.int .i64 (l.length:Nat)):=by
 intro a' w ha hw hH
 obtain⟨es,clock,hb,hes⟩:=hw.mapOf (b:=b)
 have hl:es.size=l.length:=by have:=congrArg List.length hes;simpa using this
 obtain⟨dst,op,ty0,pos,aft,gd⟩:=o
 unfold evLm at hv
 dsimp only at hv
 split at hv
 ·rename_i xs ts
  split at hv
  ·rename_i b' t' hx hts
   cases hv
   have hargs:xs.map a'.eval = #[.map (some b)]:=Array.ext' (by rw [Array.toList_map];exact evL_spec ha hH hx)
   have hts':ts = #[t]:=Array.ext' hts
   have hgo:(getObj b).run C.S.P w = .ok (.map es clock) w:=by simp [getObj,Sem.run,hb]
   simp [execOp,resolve,invoke,builtin,hargs,hts',Builtin.len_,run_underlying hm,hgo,hl,goInt]
  ·cases hv
 ·cases hv
theorem OpT.mapUp {α:Type} [DecidableEq α] {inj:α→Value} {good:World→α→Prop} {l:List (α × Value)} {rb:HA→List HA} {t kt e:TypeId} {b:Nat} {a:α} {v:Value} (hg:gOf all env ec o=some []) (hd:o.dst=none) (he:evUp env ec o=some (t,b,inj a,v))
  (hm:C.S.P.underlying t=some (.map kt e)) (hk:MKey C.S.P kt inj good) [hf:FocusMp H b inj l rb] (hga:∀ w,Cls C.w0 w H→good w a∧∀ p∈l,good w p.1)
  (h:Φ env ec (rb (mph inj b (mput l a v)))):OpT C all o env ec H Φ:=by
 obtain⟨i,hi,hrb⟩:=hf.at_
 refine OpT.skip hg hd fun a' w ha hw=>?_
 obtain⟨F,f1,f2,f3⟩:=hw.sep
 have hil:i<H.length:=(List.getElem?_eq_some_iff.1 hi).1
 obtain⟨es,clock,hF,hes,hbo⟩:=f1 i _ hi
 obtain⟨hbn,hb⟩:=f2 i b (.map es clock) hil (by rw [hF];simp [one])
 obtain⟨g1,g2⟩:=hga w hw
 have hfd:=hk.find w a es.toList l hes g1 g2
 have hgo:(getObj b).run C.S.P w = .ok (.map es clock) w:=by simp [getObj,Sem.run,hb]
 have hso:∀ ob,(setObj b ob).run C.S.P w = .ok () (w.putObj b ob):=fun ob=>by simp [setObj,Sem.run,hb,World.putObj]
 have hup:∃ es' clock',(Instr.mapUpdate t (.map (some b)) (inj a) v).run C.S.P w = .ok () (w.putObj b (.map es' clock'))∧es'.toList.map (fun e=>(e.key,e.val))=(mput l a v).map (fun p=>(inj p.1,p.2))∧bornOk es' clock':=by
  cases hq:fndL a l 0 with
  | none =>
   rw [hq] at hfd
   refine ⟨es.push { key:=inj a,val:=v,born:=clock },clock+1,?_,?_,bornOk_push hbo _ _⟩
   ·simp [Instr.mapUpdate,run_underlying hm,hgo,hk.check,hfd,hso]
   ·rw [mput_new hq,Array.toList_push,List.map_append,List.map_append,hes];rfl
  | some r =>
   obtain⟨j,u⟩:=r
   rw [hq] at hfd
   obtain⟨-,⟨p,hp,hpa⟩,hset⟩:=mput_old (v:=v) hq
   rw [Nat.sub_zero] at hp hset
   have hlen:es.toList.length=l.length:=by have:=congrArg List.length hes;simpa using this
   have hjl:j<l.length:=(List.getElem?_eq_some_iff.1 hp).1
   have hje:j<es.size:=by simpa using (show j<es.toList.length by omega)
   have hkey:(es[j]).key=inj a:=by
    have h9:(es.toList.map (fun e=>(e.key,e.val)))[j]?=(l.map (fun p=>(inj p.1,p.2)))[j]?:=by rw [hes]
    rw [List.getElem?_map,List.getElem?_map,hp,List.getElem?_eq_getElem (by omega)] at h9
    simp only [Option.map_some,Option.some.injEq,Prod.mk.injEq] at h9
    rw [hpa] at h9
    simpa using h9.1
   refine ⟨es.modify j fun e=>{ e with key:=inj a,val:=v },clock,?_,?_,bornOk_modify hbo _ _ fun _=>rfl⟩
   ·simp [Instr.mapUpdate,run_underlying hm,hgo,hk.check,hfd,hso,hje,hkey,hk.stays]
   ·rw [hset,List.map_set, ← hes]
    apply List.ext_getElem?
    intro i
    simp only [List.getElem?_map,Array.getElem?_toList,Array.getElem?_modify,List.getElem?_set,List.length_map,Array.length_toList]
    by_cases hij:j=i
    ·subst hij
     simp [hje]
    ·simp [hij]
 obtain⟨es',clock',hrun,hes',hbo'⟩:=hup
 have hbs:b<w.heap.size:=lt_of_heap hb
 refine ⟨w.putObj b (.map es' clock'),_,?_,⟨?_,?_⟩,h⟩
 ·obtain⟨dst,op,ty0,pos,aft,gd⟩:=o
  unfold evUp at he
  dsimp only at he
  split at he
  ·rename_i t' m x y
   split at he
   ·rename_i b' k' v' hx hy hz
    simp only [Option.some.injEq,Prod.mk.injEq] at he
    obtain⟨rfl,rfl,rfl,rfl⟩:=he
    simp [execOp,evX_spec ha (Holds.nil _ _) hx,evX_spec ha (Holds.nil _ _) hy,evX_spec ha (Holds.nil _ _) hz,hrun]
   ·cases he
  ·rename_i t' m x y
   split at he
   ·rename_i b' k' v' hx hy hz
    simp only [Option.some.injEq,Prod.mk.injEq] at he
    obtain⟨rfl,rfl,rfl,rfl⟩:=he
    simp [execOp,evX_spec ha (Holds.nil _ _) hx,evX_spec ha (Holds.nil _ _) hy,evX_spec ha (Holds.nil _ _) hz,hrun]
   ·cases he
  ·cases he
 ·exact hw.below.trans ⟨rfl,rfl,rfl,by exact Nat.le_of_eq World.putObj_size.symm,fun c hc=>World.putObj_heap_other (by omega)⟩
 ·rw [hrb]
  exact hw.sep.turn hi (fun f hf=>by obtain⟨_,_,hf,_⟩:=hf;exact⟨_,hf⟩) (fun c hc _=>World.putObj_heap_other hc) (World.putObj_heap_same hbs) ⟨es',clock',rfl,hes',hbo'⟩
end
end Go.Proofs.YtbfcfpmholkmeaaGreatDoor
namespace Go.Proofs.YtbfcfpmholkmeaaGreatDoor
open Go.RowKit Go.Shelf

inductive Nd where
 | mk (nm:ByteArray) (old:Int) (ks:List Nd)
section
variable {n:Nat} {r q:Nat→Int}
end

section
variable (n:Nat) (σ:ByteArray→Int)
end
section
variable {n:Nat} {σ:ByteArray→Int}
end

section
variable {n:Nat} {σ:ByteArray→Int}
end

section
variable {p:Int→Bool}
section
variable {n:Nat} {σ:ByteArray→Int}
end
end
end Go.Proofs.YtbfcfpmholkmeaaGreatDoor
namespace Go.Proofs.YtbfcfpmholkmeaaGreatDoor
open Go.RowKit Go.Shelf
set_option maxRecDepth 100000
set_option maxHeartbeats 1000000

inductive Ln where
 | mk (b:Nat) (A:Option Addr) (c:Nat) (nm:ByteArray) (old:Int) (ks:List Ln)
def lnB:Ln→Nat
 | .mk b _ _ _ _ _=>b
def lnV (x:Ln):Value := .pointer (some ⟨lnB x,0,none⟩)
theorem ln_ind {p:Ln→Prop} (h:∀ b A c a o ks,(∀ k∈ks,p k)→p (.mk b A c a o ks)) (x:Ln):p x :=
 Ln.rec (motive_1:=p) (motive_2:=fun ks=>∀ k∈ks,p k) (fun b A c a o ks ih=>h b A c a o ks ih) (fun k hk=>(by cases hk)) (fun k ks h1 h2 y hy=>by
  cases hy with
  | head=>exact h1
  | tail _ hy=>exact h2 y hy) x
mutual
def er:Ln→Nd
 | .mk _ _ _ a o ks => .mk a o (erL ks)
def erL:List Ln→List Nd
 | []=>[]
 | k::r=>er k::erL r
end
section
variable (tN tP:TypeId)
mutual
def tre:Ln→HA
 | .mk b A c a o ks=>jn (blk b [.string a, .slice A ks.length c, .int .i64 o] tN) (jn (row tP 1 A c ks.length (ks.map lnV)) (trs ks))
def trs:List Ln→HA
 | []=>em
 | k::r=>jn (tre k) (trs r)
end
end
section
variable {tN tP:TypeId}
def pmL (q:List Nat) (A:List HA):List HA:=q.map fun i=>A.getD i em
theorem hle_pm (q:List Nat) (A K:List HA) (hq:q.Nodup:=by decide) (hl9:(q.all fun i=>Nat.blt i A.length)=true:=by rfl):Hle (A++K) (pmL q A++K):=by
 have hlt:∀ i∈q,i<A.length:=fun i hi=>by
  rw [List.all_eq_true] at hl9
  exact Nat.le_of_ble_eq_true (hl9 i hi)
 have hl:(pmL q A).length=q.length:=List.length_map ..
 refine Hle.pick (fun i=>if h:i<q.length then q[i] else i - q.length+A.length) (fun i B hB=>?_) (fun i j hi hj hne=>?_)
 ·by_cases hi:i<q.length
  ·rw [List.getElem?_append_left (by omega)] at hB
   rw [dif_pos hi]
   have hm:=hlt q[i] (List.getElem_mem hi)
   rw [List.getElem?_append_left hm, ← hB]
   unfold pmL
   rw [List.getElem?_map,List.getElem?_eq_getElem hi,Option.map_some,List.getD_eq_getElem?_getD,List.getElem?_eq_getElem hm];rfl
  ·rw [List.getElem?_append_right (by omega),hl] at hB
   rw [dif_neg hi,List.getElem?_append_right (by omega),show i - q.length+A.length - A.length=i - q.length by omega]
   exact hB
 ·by_cases hi:i<q.length
  ·have h1:=hlt q[i] (List.getElem_mem hi)
   by_cases hj:j<q.length
   ·rw [dif_pos hi,dif_pos hj]
    intro e
    exact hne (List.pairwise_iff_getElem.1 hq |> fun hp=>by
     rcases Nat.lt_trichotomy i j with h9|h9|h9
     ·exact absurd e (hp i j hi hj h9)
     ·exact h9
     ·exact absurd e.symm (hp j i hj hi h9))
   ·rw [dif_pos hi,dif_neg hj];omega
  ·by_cases hj:j<q.length
   ·have h1:=hlt q[j] (List.getElem_mem hj)
    rw [dif_neg hi,dif_pos hj];omega
   ·rw [dif_neg hi,dif_neg hj];omega
class FocusTs (H:List HA) (ks:List Ln) (tN tP:outParam TypeId):Prop where
 at_:∃ i:Nat,H[i]?=some (trs tN tP ks)
instance FocusTs.head (H:List HA) (ks:List Ln) (tN tP:TypeId):FocusTs (trs tN tP ks::H) ks tN tP:=⟨0,rfl⟩
instance FocusTs.tail (A0:HA) (H:List HA) (ks:List Ln) (tN tP:TypeId) [h:FocusTs H ks tN tP]:FocusTs (A0::H) ks tN tP:=⟨by obtain⟨i,h1⟩:=h.at_;exact⟨i+1,by simpa using h1⟩⟩
end
end Go.Proofs.YtbfcfpmholkmeaaGreatDoor
namespace Go.Proofs.YtbfcfpmholkmeaaGreatDoor
open Go.RowKit Go.Shelf
set_option maxRecDepth 100000
set_option maxHeartbeats 1000000

mutual
def tR (R:Rdr):Ln→Prop
 | .mk b A c a o ks=>(R b 0=some (.string a)∧R b 1=some (.slice A ks.length c)∧R b 2=some (.int .i64 o))∧ks.length≤maxLen ∧
   (0<ks.length→∃ g,A=some ⟨g,0,none⟩∧∀ (i:Nat) (y:Ln),ks[i]?=some y→R g i=some (lnV y))∧tRL R ks
def tRL (R:Rdr):List Ln→Prop
 | []=>True
 | k::r=>tR R k∧tRL R r
end
theorem tRL_get {R:Rdr}:∀ {ks:List Ln} {y:Ln},tRL R ks→y∈ks→tR R y
 | k::r,y,h,hy=>by
  cases hy with
  | head=>exact h.1
  | tail _ hy=>exact tRL_get h.2 hy
theorem tRL_of {R:Rdr}:∀ {ks:List Ln},(∀ y∈ks,tR R y)→tRL R ks
 | [],_=>trivial
 | k::r,h=>⟨h k (.head _),tRL_of fun y hy=>h y (.tail _ hy)⟩
theorem tR.mono {R S:Rdr} (hRS:R.le S) {x:Ln}:tR R x→tR S x:=by
 refine ln_ind (p:=fun x=>tR R x→tR S x) (fun b A c a o ks ih=>?_) x
 rintro⟨⟨h1,h2,h3⟩,h4,h5,h6⟩
 refine ⟨⟨hRS _ _ _ h1,hRS _ _ _ h2,hRS _ _ _ h3⟩,h4,fun hk=>?_,tRL_of fun y hy=>ih y hy (tRL_get h6 hy)⟩
 obtain⟨g,e,hg⟩:=h5 hk
 exact⟨g,e,fun i y hy=>hRS _ _ _ (hg i y hy)⟩
section
variable {tN tP:TypeId}
end

theorem YieldsO.frame {P:Program} {w0:World} {l:Nat} {GP:Nat→List HA→Prop} {X:List HA→Prop} {Q:Nat→List Value→List HA→Prop} {n:Nat} (E:List HA) (hY:YieldsO P w0 l GP X Q n) :
  YieldsO P w0 l (fun j H=>∃ H',H=E++H'∧GP j H') (fun Y=>∃ Y',Y=E++Y'∧X Y') Q n:=by
 rintro j x B _ K w hj hQ ⟨Hj,rfl,hG⟩ hw
 obtain⟨f,tmps,assign,body,h1,h2⟩:=hY j x B Hj (E++K) w hj hQ hG (hw.le (Hle.perm (by
  rw [List.append_assoc]
  refine (List.perm_append_comm_assoc E Hj (B++K)).trans (List.Perm.append_left _ ?_)
  exact List.perm_append_comm_assoc E B K)))
 refine ⟨f,tmps,assign,body,h1,RoundIn.mono h2 ?_⟩
 rintro e w' (⟨rfl,H',h3,h4⟩|⟨rfl,Y,h3,h4⟩)
 ·exact .inl ⟨rfl,_,⟨H',rfl,h3⟩,h4.le (Hle.perm (by rw [List.append_assoc];exact List.perm_append_comm_assoc H' E K))⟩
 ·exact .inr ⟨rfl,_,⟨Y,rfl,h3⟩,h4.le (Hle.perm (by rw [List.append_assoc];exact List.perm_append_comm_assoc Y E K))⟩
theorem OpT.yieldF {S:Sig} {m:Nat} {w0:World} {fn:Func} {Ψ:Value→List HA→Prop} {all:Array Oper} {o:Oper} {env:Env} {ec:EnvC} {H:List HA} {d l j:Nat} {x:List Value} {G:GId} {Φ:Env→EnvC→List HA→Prop}
  {GP:Nat→List HA→Prop} {X:List HA→Prop} {Q:Nat→List Value→List HA→Prop} {n:Nat} {Hj:List HA} (B K:List HA)
  (hY:YieldsO S.P w0 l GP X Q n) (hg:gOf all env ec o=some G) (he:evYG env ec G o=some (l,x)) (hT:∀ a,Agrees ⟨m,[]⟩ all env ec a→Holds all a G) (hd:o.dst=some d) (hN:Nat.blt d m=true) (hs:safeC all d ec=true) (hj:j<n) (hQ:Q j x B) (hGP:GP j Hj) (hl:Hle H (Hj++(B++K)))
  (ht:∀ H',GP (j+1) H'→Φ ((d, .bool true)::env) ec (K++H'))
  (hf:∀ Y,X Y→Φ ((d, .bool false)::env) ec (K++Y)):OpT (FC S m [] w0 fn Ψ) all o env ec H Φ:=by
 intro a w ha hw K' Q' hK
 have hH:=hT a ha
 have hwn:=(wanted_iff ha hg).2 hH
 refine ⟨fun _=>?_,fun hn=>(by rw [hwn] at hn;cases hn)⟩
 obtain⟨f,tmps,assign,body,hy,hr⟩:=hY j x B Hj K w hj hQ hGP (hw.le hl)
 have hdef:=gOf_def hg
 have hex:=evYG_spec ha hH he hy
 unfold Oper.wpIn
 refine ⟨about_Fr o _ w _,?_⟩
 rw [Oper.semAt_eq _ _ _ hdef,hex]
 refine ⟨fun h=>(by cases h),RoundIn.mono hr ?_⟩
 rintro e w' (⟨rfl,H',h1,h2⟩|⟨rfl,Y,h1,h2⟩)
 ·exact hK _ _ _ _ _ (ht H' h1) (by rw [hd];exact ha.put hN hs) (h2.le (Hle.comm _ _))
 ·exact hK _ _ _ _ _ (hf Y h1) (by rw [hd];exact ha.put hN hs) (h2.le (Hle.comm _ _))
end Go.Proofs.YtbfcfpmholkmeaaGreatDoor
namespace Go.Proofs.YtbfcfpmholkmeaaGreatDoor
open Go.RowKit Go.Shelf
set_option maxRecDepth 100000
set_option maxHeartbeats 1000000

section
variable {C:Cx} {all:Array Oper} {o:Oper} {env:Env} {ec:EnvC} {H:List HA} {Φ:Env→EnvC→List HA→Prop}
end
end Go.Proofs.YtbfcfpmholkmeaaGreatDoor
namespace Go.Proofs.YtbfcfpmholkmeaaGreatDoor
open Go.RowKit Go.Shelf
set_option maxRecDepth 100000
set_option maxHeartbeats 1000000

def que (e:TypeId) (A:Option Addr) (c n:Nat) (xs:List Value):HA:=fun f=>xs.length=n∧n≤c∧c≤maxLen∧∃ g off cur,A=some ⟨g,off,none⟩∧f=one g (.cells cur e (0,0))∧(0<c→off+c=cur.size∧(cur.toList.drop off).take n=xs)
class FocusQ (H:List HA) (A:Option Addr) (e c n:outParam Nat) (xs:outParam (List Value)) (rb:outParam (HA→List HA)):Prop where
 at_:∃ i,H[i]?=some (que e A c n xs)∧∀ B,rb B=H.set i B
instance FocusQ.head (H:List HA) (A:Option Addr) (e c n:Nat) (xs:List Value):FocusQ (que e A c n xs::H) A e c n xs (fun B=>B::H):=⟨0,rfl,fun _=>rfl⟩
instance FocusQ.tail (A0:HA) (H:List HA) (A:Option Addr) (e c n:Nat) (xs:List Value) (rb:HA→List HA) [h:FocusQ H A e c n xs rb]:FocusQ (A0::H) A e c n xs (fun B=>A0::rb B) :=
 ⟨by obtain⟨i,h1,h2⟩:=h.at_;exact⟨i+1,by simpa using h1,fun B=>by simp [h2]⟩⟩
theorem que_of {e b:Nat} {xs:List Value} {H:List HA} (hl:xs.length≤maxLen):Hle (blk b xs e::H) (que e (some ⟨b,0,none⟩) xs.length xs.length xs::H) :=
 hle_map fun f hf=>⟨rfl,Nat.le_refl _,hl,b,0,xs.toArray,rfl,hf,fun _=>⟨by simp,by simp⟩⟩
theorem que_tail {e g off c n:Nat} {x:Value} {xs:List Value} {H:List HA}:Hle (que e (some ⟨g,off,none⟩) c n (x::xs)::H) (que e (cutA (some ⟨g,off,none⟩) c 1 1) (c - 1) (n - 1) xs::H) :=
 hle_map fun f ⟨h1,h2,h3,g',off',cur,h4,h5,h6⟩=>by
  cases h4
  rw [List.length_cons] at h1
  refine ⟨by omega,by omega,by omega,?_⟩
  by_cases hc:c=1
  ·unfold cutA
   rw [if_pos hc]
   exact⟨g,off,cur,rfl,h5,fun h=>by omega⟩
  ·unfold cutA
   rw [if_neg hc]
   refine ⟨g,off+1,cur,by simp [Addr.add],h5,fun h=>?_⟩
   obtain⟨k1,k2⟩:=h6 (by omega)
   refine ⟨by omega,?_⟩
   obtain⟨m,rfl⟩:∃ m,n=m+1:=⟨n - 1,by omega⟩
   rw [Nat.add_sub_cancel]
   cases hd:cur.toList.drop off with
   | nil=>rw [hd] at k2;simp at k2
   | cons y l =>
    rw [hd,List.take_succ_cons] at k2
    have e9:cur.toList.drop (off+1)=l:=by rw [← List.drop_drop,hd];rfl
    rw [e9]
    exact (List.cons.inj k2).2
theorem rdC_one {w:World} {b off:Nat} {cur:Array Value} {e:TypeId} {x:Value} (hb:w.heap[b]?=some (.cells cur e (0,0))) (h:cur.toList[off]?=some x):RdC w b off [x] :=
 RdC.one (by
  have h9:cur[off]?=some x:=by simpa using h
  simp [World.cell?,hb,h9])
section
variable {C:Cx} {all:Array Oper} {o:Oper} {env:Env} {ec:EnvC} {H Hs:List HA} {d:Nat} {Φ:Env→EnvC→List HA→Prop}
theorem T_quecap {k:List It} {A:Option Addr} {e c n:Nat} {xs:List Value} {rb:HA→List HA} [hf:FocusQ H A e c n xs rb] (h:n≤c∧c≤9223372036854775807→T C k env ec H):T C k env ec H:=by
 refine T.mk fun a w ha hw=>?_
 obtain⟨i,hi,_⟩:=hf.at_
 obtain⟨F,h1,h2,h3⟩:=hw.sep
 obtain⟨_,h5,h6,_⟩:=h1 i _ hi
 exact h ⟨h5,by simp only [maxLen] at h6;omega⟩ a w ha hw
theorem rdQue {g off e c n:Nat} {x:Value} {xs:List Value} {rb:HA→List HA} [hf:FocusQ H (some ⟨g,off,none⟩) e c n (x::xs) rb]:∀ w,Cls C.w0 w H→RdC w g off [x]:=fun w hw=>by
 obtain⟨i,hi,hrb⟩:=hf.at_
 obtain⟨F,f1,f2,f3⟩:=hw.sep
 have hil:i<H.length:=(List.getElem?_eq_some_iff.1 hi).1
 obtain⟨h1,h2,h3,g',off',cur,h4,h5,h6⟩:=f1 i _ hi
 cases h4
 obtain⟨-,hb⟩:=f2 i g (.cells cur e (0,0)) hil (by rw [h5];simp [one])
 rw [List.length_cons] at h1
 obtain⟨k1,k2⟩:=h6 (by omega)
 have h9:cur.toList[off]?=some x:=by
  have h8:((cur.toList.drop off).take n)[0]?=some x:=by rw [k2];rfl
  rw [List.getElem?_take_of_lt (by omega),List.getElem?_drop] at h8
  simpa using h8
 exact rdC_one hb h9
theorem OpT.appendQ {g off n c m:Nat} {B:Option Addr} {e:TypeId} {ty:TyI} {xs news:List Value} {rb:HA→List HA} (hg:gOf all env ec o=some []) (he:evApp C.S env ec o=some (some ⟨g,off,none⟩,n,c,B,m,e)) (hd:o.dst=some d) (hN:Nat.blt d C.N.n=true) (hs:safeC all d ec=true)
  (ht:C.S.ty e=some ty) (hsz:Nat.beq ty.size 1=true) (hzs:Nat.beq ty.zero.cells.size 1=true) [hf:FocusQ H (some ⟨g,off,none⟩) e c n xs rb] (hsrc:∀ w,Cls C.w0 w H→Src w 1 B m news) (hm:0<m) (h1:oneCells news=true)
  (hb:(n+m) * ty.bytes≤140737488355328) (hb2:n+m≤9223372036854775807)
  (h:∀ g' off' c',Φ ((d, .slice (some ⟨g',off',none⟩) (n+m) c')::env) ec (rb (que e (some ⟨g',off',none⟩) c' (n+m) (xs++news)))):OpT C all o env ec H Φ:=by
 have hsz':ty.size=1:=Nat.eq_of_beq_eq_true hsz
 have hzs':ty.zero.cells.size=1:=Nat.eq_of_beq_eq_true hzs
 obtain⟨i,hi,hrb⟩:=hf.at_
 obtain⟨x,hx,hx1,hx2,hx3⟩:=(Sig.tyOk ht).info'
 refine OpT.eff hg fun a w ha hw=>?_
 obtain⟨F,f1,f2,f3⟩:=hw.sep
 have hil:i<H.length:=(List.getElem?_eq_some_iff.1 hi).1
 obtain⟨hxl,hnc,hcm,g',off',cur,hA,hF,hcur⟩:=f1 i _ hi
 cases hA
 obtain⟨hbn,hbk⟩:=f2 i g (.cells cur e (0,0)) hil (by rw [hF];simp [one])
 obtain⟨hul,hat⟩:=hsrc w hw
 obtain⟨hBi,hBr⟩:=hat hm
 rw [Nat.mul_one] at hul
 have hone:∀ u∈news,u.oneCell'=true:=by
  clear hsrc h hf hi hrb f1 hul hat hBr
  induction news with
  | nil=>intro u hu;cases hu
  | cons y l ih =>
   simp only [oneCells,Bool.and_eq_true] at h1
   intro u hu
   cases hu with
   | head=>exact h1.1
   | tail _ hu=>exact ih h1.2 u hu
 have hBe:B=some ⟨bk B,ofs B,none⟩:=hBi
 have hnews:∀ j u,news[j]?=some u→w.cell? ((⟨bk B,ofs B,none⟩:Addr).add j)=some u:=fun j u hu=>by
  have:=hBr j u hu
  unfold Addr.add
  split
  ·rename_i e0;subst e0;simpa using this
  ·exact this
 have holds:0<c→∀ j u,xs[j]?=some u→w.cell? ((⟨g,off,none⟩:Addr).add j)=some u:=fun hc j u hu=>by
  obtain⟨k1,k2⟩:=hcur hc
  have hj:=(List.getElem?_eq_some_iff.1 hu).1
  have h9:cur.toList[off+j]?=some u:=by
   rw [← k2,List.getElem?_take_of_lt (by omega),List.getElem?_drop] at hu
   exact hu
  have h8:=rdC_one hbk h9 0 u rfl
  unfold Addr.add
  split
  ·rename_i e0;subst e0;simpa using h8
  ·simpa using h8
 have hrun:∀ t ty0,C.S.P.underlying t=some (.slice e)→∀ cc,∃ g2 off2 c2 w' f',(Builtin.append_ #[t,t] ty0 #[.slice (some ⟨g,off,none⟩) n c, .slice B m cc]).run C.S.P w = .ok (.slice (some ⟨g2,off2,none⟩) (n+m) c2) w' ∧
   Below C.w0.heap.size C.w0 w'∧que e (some ⟨g2,off2,none⟩) c2 (n+m) (xs++news) f'∧(∀ b o,f' b=some o→C.w0.heap.size≤b∧w'.heap[b]?=some o∧(b=g∨w.heap.size≤b))∧(∀ c',c'<w.heap.size→c'≠g→w'.heap[c']?=w.heap[c']?):=by
  intro t ty0 hut cc
  rw [hBe]
  rcases Nat.lt_or_ge c (n+m) with hgr|hro
  ·by_cases hc0:0<c
   ·obtain⟨v',w',r1,r2,r3⟩:=run_append_arg_grows (P:=C.S.P) w t ty0 e x ty.zero 1 ty.bytes hut hx hx3 (hx1.trans hsz') hx2 hzs' (by decide) ⟨g,off,none⟩ n c xs (by omega) (holds hc0) ⟨bk B,ofs B,none⟩ m cc news (by omega) hnews hgr (by simp only [maxLen];omega) hb
    obtain⟨A',cap',rfl,f',s1,s2⟩:=row.of_own r2
    obtain⟨q1,q2⟩:=s1
    rcases q2 with⟨_,_,h9,_⟩|⟨g2,cur2,rfl,rfl,q3,q4,q5,q6⟩
    ·omega
    ·refine ⟨g2,0,cap',w',_,r1,?_,⟨by omega,q3,q4,g2,0,cur2,rfl,rfl,fun _=>⟨by omega,by simpa using q6⟩⟩,fun b o hbo=>?_,fun c' hc' _=>r3.block c' hc' (by simp)⟩
     ·exact hw.below.grown r3 hw.below.size fun b hbk=>by cases hbk
     ·obtain⟨z1,z2,z3⟩:=s2 b o hbo
      exact⟨Nat.le_trans hw.below.size z1,z2, .inr z1⟩
   ·obtain rfl:n=0:=by omega
    obtain rfl:xs=[]:=List.eq_nil_of_length_eq_zero hxl
    obtain⟨v',w',r1,r2,r3⟩:=run_append_arg_grows (P:=C.S.P) w t ty0 e x ty.zero 1 ty.bytes hut hx hx3 (hx1.trans hsz') hx2 hzs' (by decide) ⟨g,off,none⟩ 0 c [] (by simp) (fun j u hu=>by simp at hu) ⟨bk B,ofs B,none⟩ m cc news (by omega) hnews hgr (by simp only [maxLen];omega) hb
    obtain⟨A',cap',rfl,f',s1,s2⟩:=row.of_own r2
    obtain⟨q1,q2⟩:=s1
    rcases q2 with⟨_,_,h9,_⟩|⟨g2,cur2,rfl,rfl,q3,q4,q5,q6⟩
    ·omega
    ·refine ⟨g2,0,cap',w',_,r1,?_,⟨by omega,q3,q4,g2,0,cur2,rfl,rfl,fun _=>⟨by omega,by simpa using q6⟩⟩,fun b o hbo=>?_,fun c' hc' _=>r3.block c' hc' (by simp)⟩
     ·exact hw.below.grown r3 hw.below.size fun b hbk=>by cases hbk
     ·obtain⟨z1,z2,z3⟩:=s2 b o hbo
      exact⟨Nat.le_trans hw.below.size z1,z2, .inr z1⟩
  ·obtain⟨k1,k2⟩:=hcur (by omega)
   obtain⟨w',r1,r2,r3,r4,r5,r6,r7⟩:=run_storeL C.S.P g e news 0 (off+n) cur.toList w (by simpa using hbk) (by simp;omega) h1
   have hfc:=run_firstCells_some (P:=C.S.P) w x.size m ⟨bk B,ofs B,none⟩ m cc news (by rw [hx1,hsz'];omega) hnews
   have hst:(storeCells ((⟨g,off,none⟩:Addr).add (n * x.size)) news).run C.S.P w = .ok () w':=by
    rw [hx1,hsz',Nat.mul_one]
    unfold Addr.add
    split
    ·rename_i e0;subst e0;simpa using r1
    ·simpa using r1
   rw [Nat.add_zero] at r2
   refine ⟨g,off,c,w',one g (.cells (setL cur.toList (off+n) news).toArray e (0,0)),?_,?_,⟨by simp;omega,by omega,hcm,g,off,_,rfl,rfl,fun _=>⟨by rw [List.size_toArray,setL_length];simpa using k1,?_⟩⟩,fun b o hbo=>?_,fun c' _ hc'=>r3 c' hc'⟩
   ·simp [Builtin.append_,run_underlying hut,Builtin.lenOf,sizeOf,typeInfo,hx,hro,hfc,hst]
   ·exact hw.below.trans ⟨r4,r5,r6,by omega,fun c hc=>r3 c (by omega)⟩
   ·have hcl:cur.toList.length=off+c:=by simpa using k1.symm
    rw [setL_eq _ _ _ (by rw [hcl];omega)]
    have hd1:(cur.toList.take (off+n)).drop off=xs:=by
     rw [List.drop_take,Nat.add_sub_cancel_left];exact k2
    rw [List.drop_append_of_le_length (by rw [List.length_take];omega),hd1, ← List.append_assoc,List.take_append_of_le_length (by simp;omega),List.take_of_length_le (by simp;omega)]
   ·simp only [one] at hbo
    split at hbo
    ·rename_i e9;subst e9;cases hbo
     exact⟨hbn,r2, .inl rfl⟩
    ·cases hbo
 obtain⟨dst,op,ty0,pos,aft,gd⟩:=o
 unfold evApp at he
 dsimp only at he
 split at he
 ·rename_i ps ts
  split at he
  ·rename_i A1 n1 c1 B1 m1 c2 t u hps hts
   split at he
   ·rename_i e1 q1 q2 q3 hty
    cases htu:Nat.beq t u with
    | false=>rw [htu] at he;cases he
    | true =>
     rw [htu] at he
     have et:t=u:=Nat.eq_of_beq_eq_true htu
     subst et
     cases he
     have hut:=(Sig.tyOk hty).fits
     simp only [Ty.fits] at hut
     obtain⟨g2,off2,cp2,w',f',r1,r2,r3,r4,r5⟩:=hrun t ty0 hut c2
     have hargs:ps.map a.eval = #[.slice (some ⟨g,off,none⟩) n c, .slice B m c2]:=Array.ext' (by rw [Array.toList_map];exact evL_spec ha (Holds.nil _ _) hps)
     have hts':ts = #[t,t]:=Array.ext' hts
     refine ⟨.slice (some ⟨g2,off2,none⟩) (n+m) cp2,w',_,?_,⟨r2,?_⟩,d,hd,hN,hs,h g2 off2 cp2⟩
     ·simp [execOp,resolve,invoke,builtin,hargs,hts',r1]
     ·rw [hrb]
      refine Sep.swap ⟨F,f1,f2,f3⟩ hi fun f hq hf=>⟨f',r3,fun b o hbo=>?_,fun c' hc' hfc=>r5 c' hc' fun e9=>?_⟩
      ·obtain⟨s1,s2,s3⟩:=r4 b o hbo
       refine ⟨s1,s2,s3.imp (fun e9=>?_) id⟩
       obtain⟨-,-,-,g9,off9,cur9,h9,h8,-⟩:=hq
       cases h9
       rw [h8,e9];simp [one]
      ·obtain⟨-,-,-,g9,off9,cur9,h9,h8,-⟩:=hq
       cases h9
       rw [h8,e9] at hfc
       simp [one] at hfc
   ·cases he
  ·cases he
 ·cases he
end
end Go.Proofs.YtbfcfpmholkmeaaGreatDoor
namespace Go.Proofs.YtbfcfpmholkmeaaGreatDoor
open Go.RowKit Go.Shelf Go.ChangeMaps
set_option maxRecDepth 100000
set_option maxHeartbeats 1000000

theorem left_one {es:Array MapEntry} {clock:Nat} (h:bornOk es clock) (seen:Array Nat) {e:MapEntry} (he:e∈(leftOf es seen).toList):(leftOf es (seen.push e.born)).size+1=(leftOf es seen).size:=by
 obtain⟨h1,h2⟩:=Go.mem_left he
 have e1:∀ p:MapEntry→Bool,(es.filter p).size=(es.toList.filter p).length:=fun p=>by rw [← Array.toList_filter,Array.length_toList]
 unfold leftOf
 rw [e1,e1]
 have key:∀ l:List MapEntry,(l.map (·.born)).Nodup→((e∈l→(l.filter fun x => !(seen.push e.born).contains x.born).length+1=(l.filter fun x => !seen.contains x.born).length)∧(e.born ∉ l.map (·.born)→(l.filter fun x => !(seen.push e.born).contains x.born).length=(l.filter fun x => !seen.contains x.born).length)):=by
  intro l
  induction l with
  | nil=>intro _;exact⟨fun h=>(by cases h),fun _=>rfl⟩
  | cons x l ih =>
   intro hn
   rw [List.map_cons,List.nodup_cons] at hn
   obtain⟨i1,i2⟩:=ih hn.2
   have hp:(!(seen.push e.born).contains x.born)=(!seen.contains x.born && !(x.born == e.born)):=by
    rw [contains_push];cases seen.contains x.born <;> cases (x.born == e.born) <;> rfl
   rw [List.filter_cons,List.filter_cons,hp]
   constructor
   ·intro hm
    rcases List.mem_cons.1 hm with rfl|hm
    ·have h9:=i2 hn.1
     rw [if_neg (by simp),if_pos (by rw [h2];rfl),List.length_cons,h9]
    ·have hne:(x.born == e.born)=false:=by
      rw [beq_eq_false_iff_ne]
      intro e9
      exact hn.1 (by rw [e9];exact List.mem_map_of_mem (f:=fun y:MapEntry=>y.born) hm)
     have h9:=i1 hm
     rw [hne,Bool.not_false,Bool.and_true]
     split
     ·rw [List.length_cons,List.length_cons];omega
     ·exact h9
   ·intro hm
    rw [List.map_cons,List.mem_cons,not_or] at hm
    have hne:(x.born == e.born)=false:=by
     rw [beq_eq_false_iff_ne]
     exact fun e9=>hm.1 e9.symm
    have h9:=i2 hm.2
    rw [hne,Bool.not_false,Bool.and_true]
    split
    ·rw [List.length_cons,List.length_cons,h9]
    ·exact h9
 exact ((key es.toList h.2).1 h1)
def itm (r b:Nat) (es:Array MapEntry) (clock cnt:Nat):HA:=fun f=>∃ seen c0,f=one r (.mapIter (some b) clock seen c0)∧clock≤c0∧(leftOf es seen).size=cnt
class FocusI (H:List HA) (r:Nat) (b:outParam Nat) (es:outParam (Array MapEntry)) (clock cnt:outParam Nat) (rb:outParam (HA→List HA)):Prop where
 at_:∃ i,H[i]?=some (itm r b es clock cnt)∧∀ B,rb B=H.set i B
instance FocusI.head (H:List HA) (r b:Nat) (es:Array MapEntry) (clock cnt:Nat):FocusI (itm r b es clock cnt::H) r b es clock cnt (fun B=>B::H):=⟨0,rfl,fun _=>rfl⟩
instance FocusI.tail (A0:HA) (H:List HA) (r b:Nat) (es:Array MapEntry) (clock cnt:Nat) (rb:HA→List HA) [h:FocusI H r b es clock cnt rb]:FocusI (A0::H) r b es clock cnt (fun B=>A0::rb B) :=
 ⟨by obtain⟨i,h1,h2⟩:=h.at_;exact⟨i+1,by simpa using h1,fun B=>by simp [h2]⟩⟩
def itl (r b:Nat) (es:Array MapEntry) (clock cnt:Nat) (e:MapEntry):HA:=fun f=>∃ seen:Array Nat,f=one r (.mapIter (some b) clock (seen.push e.born) clock)∧(leftOf es (seen.push e.born)).size=cnt
theorem itl_itm {r b:Nat} {es:Array MapEntry} {clock cnt:Nat} {e:MapEntry} {H:List HA}:Hle (itl r b es clock cnt e::H) (itm r b es clock cnt::H):=hle_map fun f ⟨seen,h1,h2⟩=>⟨seen.push e.born,clock,h1,Nat.le_refl _,h2⟩
class FocusL (H:List HA) (r:Nat) (b:outParam Nat) (es:outParam (Array MapEntry)) (clock cnt:outParam Nat) (e:outParam MapEntry):Prop where
 at_:∃ i:Nat,H[i]?=some (itl r b es clock cnt e)
instance FocusL.head (H:List HA) (r b:Nat) (es:Array MapEntry) (clock cnt:Nat) (e:MapEntry):FocusL (itl r b es clock cnt e::H) r b es clock cnt e:=⟨0,rfl⟩
instance FocusL.tail (A0:HA) (H:List HA) (r b:Nat) (es:Array MapEntry) (clock cnt:Nat) (e:MapEntry) [h:FocusL H r b es clock cnt e]:FocusL (A0::H) r b es clock cnt e :=
 ⟨by obtain⟨i,h1⟩:=h.at_;exact⟨i+1,by simpa using h1⟩⟩
def evEn (env:Env) (ec:EnvC) (o:Oper):Option Nat :=
 match o.op with
 | .entry x=>match evX env ec [] x with
  | some (.pointer (some ⟨r,0,none⟩))=>some r
  | _=>none
 | _=>none
def evRg (env:Env) (ec:EnvC) (o:Oper):Option (TypeId × Nat) :=
 match o.op with
 | .range t x=>match evX env ec [] x with
  | some (.map (some b))=>some (t,b)
  | _=>none
 | _=>none
def evNx (env:Env) (ec:EnvC) (o:Oper):Option Nat :=
 match o.op with
 | .next x false=>match evX env ec [] x with
  | some (.pointer (some ⟨r,0,none⟩))=>some r
  | _=>none
 | _=>none
section
variable {C:Cx} {all:Array Oper} {o:Oper} {env:Env} {ec:EnvC} {H Hs:List HA} {d:Nat} {Φ:Env→EnvC→List HA→Prop}
theorem OpT.rangeMap {t kt e:TypeId} {b:Nat} {es:Array MapEntry} {clock:Nat} (hg:gOf all env ec o=some []) (he:evRg env ec o=some (t,b)) (hd:o.dst=some d) (hN:Nat.blt d C.N.n=true) (hs:safeC all d ec=true)
  (hm:C.S.P.underlying t=some (.map kt e)) (hold:∀ w,Cls C.w0 w H→w.heap[b]?=some (.map es clock)) (h:∀ r,Φ ((d, .pointer (some ⟨r,0,none⟩))::env) ec (itm r b es clock es.size::H)):OpT C all o env ec H Φ:=by
 refine OpT.eff hg fun a w ha hw=>⟨.pointer (some ⟨w.heap.size,0,none⟩),w.alloc (.mapIter (some b) clock #[] clock),_,?_,hw.alloc _ ⟨#[],clock,rfl,Nat.le_refl _,by simp [leftOf]⟩,d,hd,hN,hs,h w.heap.size⟩
 obtain⟨dst,op,ty0,pos,aft,gd⟩:=o
 unfold evRg at he
 dsimp only at he
 split at he
 ·rename_i t' x
  split at he
  ·rename_i b' hx
   cases he
   simp [execOp,evX_spec ha (Holds.nil _ _) hx,run_range_map w t kt e b es clock hm (hold w hw)]
  ·cases he
 ·cases he
theorem OpT.nextMap {r b:Nat} {es:Array MapEntry} {clock cnt:Nat} {rb:HA→List HA} (hg:gOf all env ec o=some []) (he:evNx env ec o=some r) (hd:o.dst=some d) (hN:Nat.blt d C.N.n=true) (hs:safeC all d ec=true)
  [hf:FocusI H r b es clock cnt rb] (hold:∀ w,Cls C.w0 w H→w.heap[b]?=some (.map es clock)) (hbo:bornOk es clock)
  (h0:cnt=0→Φ ((d, .tuple #[.bool false])::env) ec H) (h1:∀ e∈es.toList,0<cnt→Φ ((d, .tuple #[.bool true,e.key,e.val])::env) ec (rb (itl r b es clock (cnt - 1) e))):OpT C all o env ec H Φ:=by
 obtain⟨i,hi,hrb⟩:=hf.at_
 refine OpT.eff hg fun a w ha hw=>?_
 obtain⟨F,f1,f2,f3⟩:=hw.sep
 have hil:i<H.length:=(List.getElem?_eq_some_iff.1 hi).1
 obtain⟨seen,c0,hF,hc0,hcnt⟩:=f1 i _ hi
 obtain⟨hrn,hr⟩:=f2 i r (.mapIter (some b) clock seen c0) hil (by rw [hF];simp [one])
 have hrs:r<w.heap.size:=lt_of_heap hr
 obtain⟨dst,op,ty0,pos,aft,gd⟩:=o
 unfold evNx at he
 dsimp only at he
 split at he
 ·rename_i x
  split at he
  ·rename_i r' hx
   cases he
   have ex:=evX_spec ha (Holds.nil _ _) hx
   rcases run_next_at (P:=C.S.P) w ty0 r b clock c0 seen es clock hr (hold w hw) hbo.1 hc0 with⟨z0,hrun⟩|⟨e,hem,w1,hw1,hrun⟩
   ·refine ⟨.tuple #[.bool false],w,H,?_,hw,d,hd,hN,hs,h0 (by omega)⟩
    simp [execOp,ex,hrun]
   ·have h9:=left_one hbo seen hem
    have hob:w1.os=w.os∧w1.tape=w.tape∧w1.output=w.output∧w1.heap=w.heap:=by
     rcases hw1 with rfl|rfl <;> exact⟨rfl,rfl,rfl,rfl⟩
    have hsz:(setBlock w1 r (.mapIter (some b) clock (seen.push e.born) clock)).heap.size=w.heap.size:=by
     rw [← hob.2.2.2];simp [setBlock]
    have hset:=MapKept.heap_set (o' := .mapIter (some b) clock (seen.push e.born) clock) (show w1.heap[r]?=some (.mapIter (some b) clock seen c0) by rw [hob.2.2.2];exact hr)
    refine ⟨.tuple #[.bool true,e.key,e.val],setBlock w1 r (.mapIter (some b) clock (seen.push e.born) clock),rb (itl r b es clock (cnt - 1) e),?_,⟨?_,?_⟩,d,hd,hN,hs,h1 e (Go.mem_left hem).1 (by omega)⟩
    ·simp [execOp,ex,hrun]
    ·exact hw.below.trans ⟨hob.1,hob.2.1,hob.2.2.1,by omega,fun c hc=>(hset.2 c (by omega)).trans (by rw [hob.2.2.2])⟩
    ·rw [hrb]
     refine hw.sep.turn hi (fun f hf=>by obtain⟨_,_,hf,_⟩:=hf;exact⟨_,hf⟩) (fun c hc _=>(hset.2 c hc).trans (by rw [hob.2.2.2])) hset.1 ⟨seen,rfl,by omega⟩
  ·cases he
 ·cases he
theorem OpT.entryMap {r b:Nat} {es:Array MapEntry} {clock cnt:Nat} {e:MapEntry} (hg:gOf all env ec o=some []) (he:evEn env ec o=some r) (hd:o.dst=some d) (hN:Nat.blt d C.N.n=true) (hs:safeC all d ec=true)
  [hf:FocusL H r b es clock cnt e] (hold:∀ w,Cls C.w0 w H→w.heap[b]?=some (.map es clock)) (hbo:bornOk es clock) (hem:e∈es.toList)
  (h:Φ ((d, .tuple #[e.key,e.val])::env) ec H):OpT C all o env ec H Φ:=by
 obtain⟨i,hi⟩:=hf.at_
 refine OpT.eff hg fun a w ha hw=>?_
 obtain⟨F,f1,f2,f3⟩:=hw.sep
 have hil:i<H.length:=(List.getElem?_eq_some_iff.1 hi).1
 obtain⟨seen,hF,hcnt⟩:=f1 i _ hi
 obtain⟨hrn,hr⟩:=f2 i r (.mapIter (some b) clock (seen.push e.born) clock) hil (by rw [hF];simp [one])
 have hrun:=run_entry_at (P:=C.S.P) w r b clock seen es clock e hr (hold w hw) hem hbo.2
 obtain⟨dst,op,ty0,pos,aft,gd⟩:=o
 unfold evEn at he
 dsimp only at he
 split at he
 ·rename_i x
  split at he
  ·rename_i r' hx
   cases he
   have ex:=evX_spec ha (Holds.nil _ _) hx
   exact⟨.tuple #[e.key,e.val],w,H,by simp [execOp,ex,hrun],hw,d,hd,hN,hs,h⟩
  ·cases he
 ·cases he
end
end Go.Proofs.YtbfcfpmholkmeaaGreatDoor
namespace Go.Proofs.YtbfcfpmholkmeaaGreatDoor

abbrev RulW:=List (List UInt8 × List UInt8)
def stpW (rs:RulW) (u v:List UInt8):Prop:=∃ a b f t,(f,t)∈rs∧u=a++f++b∧v=a++t++b
inductive rchW (rs:RulW):List UInt8→List UInt8→Prop where
 | refl (u:List UInt8):rchW rs u u
 | head {u v x:List UInt8} (h:stpW rs u v) (r:rchW rs v x):rchW rs u x
theorem rchW.trans {rs:RulW} {u v x:List UInt8} (h:rchW rs u v) (g:rchW rs v x):rchW rs u x:=by
 induction h with
 | refl u=>exact g
 | head h r ih=>exact .head h (ih g)
theorem rchW.one {rs:RulW} {u v:List UInt8} (h:stpW rs u v):rchW rs u v := .head h (.refl _)
def nrmW (rs:RulW) (u:List UInt8):Prop:=∀ v,¬ stpW rs u v
theorem stpW.ctx {rs:RulW} {u v:List UInt8} (h:stpW rs u v) (p q:List UInt8):stpW rs (p++u++q) (p++v++q):=by
 obtain⟨a,b,f,t,hm,rfl,rfl⟩:=h
 exact⟨p++a,b++q,f,t,hm,by simp,by simp⟩
theorem rchW.ctx {rs:RulW} {u v:List UInt8} (h:rchW rs u v) (p q:List UInt8):rchW rs (p++u++q) (p++v++q):=by
 induction h with
 | refl u=>exact .refl _
 | head h r ih=>exact .head (h.ctx p q) ih
theorem stpW.sub {rs rs':RulW} (hs:∀ x∈rs,x∈rs') {u v:List UInt8} (h:stpW rs u v):stpW rs' u v:=by
 obtain⟨a,b,f,t,hm,e1,e2⟩:=h
 exact⟨a,b,f,t,hs _ hm,e1,e2⟩
theorem rchW.sub {rs rs':RulW} (hs:∀ x∈rs,x∈rs') {u v:List UInt8} (h:rchW rs u v):rchW rs' u v:=by
 induction h with
 | refl u=>exact .refl _
 | head h r ih=>exact .head (h.sub hs) ih
def wgtW:List UInt8→Nat→Nat
 | [],n=>n
 | d::l,n=>wgtW l (n * 257+(d.toNat+1))
theorem wgtW_app (l m:List UInt8):∀ n,wgtW (l++m) n=wgtW m (wgtW l n):=by
 induction l with
 | nil=>intro n;rfl
 | cons d l ih=>intro n;exact ih _
theorem wgtW_eq (l:List UInt8):∀ n,wgtW l n=n * 257 ^ l.length+wgtW l 0:=by
 induction l with
 | nil=>intro n;simp [wgtW]
 | cons d l ih =>
  intro n
  rw [wgtW,ih,wgtW,ih (0 * 257+(d.toNat+1)),List.length_cons,Nat.pow_succ]
  rw [Nat.zero_mul,Nat.zero_add,Nat.add_mul,Nat.add_assoc,Nat.mul_assoc,Nat.mul_comm 257]
theorem wgtW_mono {l:List UInt8} {n m:Nat} (h:n<m):wgtW l n<wgtW l m:=by
 rw [wgtW_eq l n,wgtW_eq l m]
 have:=Nat.mul_lt_mul_of_pos_right h (Nat.pow_pos (n:=l.length) (show 0<257 by decide))
 omega
theorem wgtW_lt (l:List UInt8):wgtW l 0<257 ^ l.length:=by
 induction l with
 | nil=>exact Nat.one_pos
 | cons d l ih =>
  rw [wgtW,wgtW_eq,List.length_cons,Nat.pow_succ,Nat.zero_mul,Nat.zero_add]
  have hd:=d.toNat_lt
  have h1:(d.toNat+1) * 257 ^ l.length≤256 * 257 ^ l.length:=Nat.mul_le_mul_right _ (by omega)
  omega
theorem wgtW_len {l m:List UInt8} (h:l.length<m.length):wgtW l 0<wgtW m 0:=by
 cases m with
 | nil=>simp at h
 | cons d m =>
  rw [wgtW,wgtW_eq m,Nat.zero_mul,Nat.zero_add]
  rw [List.length_cons] at h
  have h1:=wgtW_lt l
  have h2:257 ^ l.length≤257 ^ m.length:=Nat.pow_le_pow_right (by decide) (by omega)
  have h3:1 * 257 ^ m.length≤(d.toNat+1) * 257 ^ m.length:=Nat.mul_le_mul_right _ (by omega)
  omega
def dwnW (rs:RulW):Prop:=∀ x∈rs,x.1≠[]∧x.2.length≤x.1.length∧wgtW x.2 0<wgtW x.1 0
theorem stpW.wgt {rs:RulW} (hd:dwnW rs) {u v:List UInt8} (h:stpW rs u v):wgtW v 0<wgtW u 0∧v.length≤u.length:=by
 obtain⟨a,b,f,t,hm,rfl,rfl⟩:=h
 obtain⟨-,h1,h2⟩:=hd _ hm
 dsimp only at h1 h2
 refine ⟨?_,by simp only [List.length_append];omega⟩
 rw [wgtW_app,wgtW_app,wgtW_app,wgtW_app]
 refine wgtW_mono ?_
 rw [wgtW_eq t,wgtW_eq f]
 have:wgtW a 0 * 257 ^ t.length≤wgtW a 0 * 257 ^ f.length:=Nat.mul_le_mul_left _ (Nat.pow_le_pow_right (by decide) h1)
 omega
theorem nf_exW {rs:RulW} (hd:dwnW rs):∀ (n:Nat) (u:List UInt8),wgtW u 0<n→∃ v,rchW rs u v∧nrmW rs v
 | 0,_,h=>absurd h (Nat.not_lt_zero _)
 | n+1,u,h=>by
  by_cases hn:nrmW rs u
  ·exact⟨u, .refl u,hn⟩
  ·obtain⟨v,hv⟩:∃ v,stpW rs u v:=Classical.byContradiction fun h=>hn fun v hv=>h ⟨v,hv⟩
   have h1:=(hv.wgt hd).1
   obtain⟨x,h2,h3⟩:=nf_exW hd n v (by omega)
   exact⟨x, .head hv h2,h3⟩
def joiW (rs:RulW) (u v:List UInt8):Prop:=∃ x,rchW rs u x∧rchW rs v x
def lcfW (rs:RulW):Prop:=∀ u v x,stpW rs u v→stpW rs u x→joiW rs v x
theorem rchW.nrm {rs:RulW} {u v:List UInt8} (h:rchW rs u v) (hn:nrmW rs u):v=u:=by
 cases h with
 | refl=>rfl
 | head h _=>exact absurd h (hn _)
theorem newmanW {rs:RulW} (hd:dwnW rs) (hl:lcfW rs):∀ (n:Nat) (u:List UInt8),wgtW u 0<n→∀ v x,rchW rs u v→rchW rs u x→nrmW rs v→nrmW rs x→v=x
 | 0,_,h=>absurd h (Nat.not_lt_zero _)
 | n+1,u,h=>by
  intro v x h1 h2 hv hx
  cases h1 with
  | refl=>exact (h2.nrm hv).symm
  | head s1 r1 =>
   rename_i u1
   cases h2 with
   | refl=>exact absurd s1 (hx _)
   | head s2 r2 =>
    rename_i u2
    have w1:=(s1.wgt hd).1
    have w2:=(s2.wgt hd).1
    obtain⟨y,j1,j2⟩:=hl _ _ _ s1 s2
    obtain⟨z,k1,k2⟩:=nf_exW hd _ y (Nat.lt_succ_self _)
    have e1:=newmanW hd hl n u1 (by omega) v z r1 (j1.trans k1) hv k2
    have e2:=newmanW hd hl n u2 (by omega) x z r2 (j2.trans k1) hx k2
    rw [e1,e2]
def uniW (rs:RulW) (w:List UInt8):Prop:=∀ v x,rchW rs w v→rchW rs w x→nrmW rs v→nrmW rs x→v=x
theorem uniW.joi {rs:RulW} (hd:dwnW rs) {w u v:List UInt8} (h:uniW rs w) (h1:rchW rs w u) (h2:rchW rs w v):joiW rs u v:=by
 obtain⟨x,a1,a2⟩:=nf_exW hd _ u (Nat.lt_succ_self _)
 obtain⟨y,b1,b2⟩:=nf_exW hd _ v (Nat.lt_succ_self _)
 obtain rfl:=h x y (h1.trans a1) (h2.trans b1) a2 b2
 exact⟨x,a1,b1⟩
theorem joiW.ctx {rs:RulW} {u v:List UInt8} (h:joiW rs u v) (p q:List UInt8):joiW rs (p++u++q) (p++v++q):=by
 obtain⟨x,h1,h2⟩:=h
 exact⟨p++x++q,h1.ctx p q,h2.ctx p q⟩
theorem joiW.symm {rs:RulW} {u v:List UInt8} (h:joiW rs u v):joiW rs v u:=by
 obtain⟨x,h1,h2⟩:=h
 exact⟨x,h2,h1⟩
structure critW (rs:RulW):Prop where
 ov:∀ x∈rs,∀ y∈rs,∀ h s r,h≠[]→s≠[]→r≠[]→x.1=h++s→y.1=s++r→uniW rs (h++y.1)
 inn:∀ x∈rs,∀ y∈rs,x≠y→∀ h r,x.1=h++y.1++r→uniW rs x.1
theorem crit_inW {rs:RulW} (hd:dwnW rs) (hc:critW rs) {f1 t1 f2 t2 h r:List UInt8} (m1:(f1,t1)∈rs) (m2:(f2,t2)∈rs) (e:f1=h++f2++r):joiW rs t1 (h++t2++r):=by
 by_cases hne:(f1,t1)=(f2,t2)
 ·cases hne
  have hl:=congrArg List.length e
  simp only [List.length_append] at hl
  obtain rfl:h=[]:=List.eq_nil_of_length_eq_zero (by omega)
  obtain rfl:r=[]:=List.eq_nil_of_length_eq_zero (by omega)
  rw [List.nil_append,List.append_nil]
  exact⟨t1, .refl _, .refl _⟩
 ·have hu:=hc.inn _ m1 _ m2 hne h r e
  exact hu.joi hd (.one ⟨[],[],f1,t1,m1,by simp,by simp⟩) (.one ⟨h,r,f2,t2,m2,e,rfl⟩)
theorem lcf_half {rs:RulW} (hd:dwnW rs) (hc:critW rs) {a1 b1 f1 t1 a2 b2 f2 t2:List UInt8} (m1:(f1,t1)∈rs) (m2:(f2,t2)∈rs) (e:a1++f1++b1=a2++f2++b2) (hle:a1.length≤a2.length):joiW rs (a1++t1++b1) (a2++t2++b2):=by
 -- a2 begins with a1
 rw [List.append_assoc,List.append_assoc] at e
 obtain⟨c,rfl,e1⟩:∃ c,a2=a1++c∧f1++b1=c++(f2++b2):=by
  rcases List.append_eq_append_iff.1 e with⟨c,h1,h2⟩|⟨c,h1,h2⟩
  ·exact⟨c,h1,h2⟩
  ·have hl:=congrArg List.length h1
   rw [List.length_append] at hl
   obtain rfl:c=[]:=List.eq_nil_of_length_eq_zero (by omega)
   rw [List.append_nil] at h1
   exact⟨[],by rw [h1,List.append_nil],by rw [List.nil_append] at h2 ⊢;exact h2.symm⟩
 rcases List.append_eq_append_iff.1 e1 with⟨d,h1,h2⟩|⟨d,h1,h2⟩
 · -- apart
  subst h1
  subst h2
  refine ⟨a1++t1++d++t2++b2,?_,?_⟩
  ·refine .one ⟨a1++t1++d,b2,f2,t2,m2,?_,rfl⟩
   simp
  ·refine .one ⟨a1,d++t2++b2,f1,t1,m1,?_,?_⟩ <;> simp
 · -- f1=c++d,f2++b2=d++b1
  rcases List.append_eq_append_iff.1 h2 with⟨g,h3,h4⟩|⟨g,h3,h4⟩
  · -- d=f2++g:within
   subst h3
   subst h4
   have hj:=crit_inW hd hc (h:=c) (r:=g) m1 m2 (by rw [h1,List.append_assoc])
   have:=hj.ctx a1 b1
   simpa using this
  · -- f2=d++g,b1=g++b2
   subst h4
   by_cases hd0:d=[]
   ·subst hd0
    rw [List.append_nil] at h1
    subst h1
    rw [List.nil_append] at h3
    subst h3
    refine ⟨a1++t1++t2++b2,?_,?_⟩
    ·exact .one ⟨a1++t1,b2,f2,t2,m2,by simp,by simp⟩
    ·exact .one ⟨a1,t2++b2,f1,t1,m1,by simp,by simp⟩
   ·by_cases hc0:c=[]
    ·subst hc0
     rw [List.nil_append] at h1
     subst h1
     have hj:=(crit_inW hd hc (h:=[]) (r:=g) m2 m1 (by rw [h3,List.nil_append])).symm
     have:=hj.ctx a1 b2
     simpa using this
    ·by_cases hg0:g=[]
     ·subst hg0
      rw [List.append_nil] at h3
      subst h3
      have hj:=crit_inW hd hc (h:=c) (r:=[]) m1 m2 (by rw [h1,List.append_nil])
      have:=hj.ctx a1 b2
      simpa using this
     ·have hu:=hc.ov _ m1 _ m2 c d g hc0 hd0 hg0 h1 h3
      have hj:=hu.joi hd (u:=t1++g) (v:=c++t2) (.one ⟨[],g,f1,t1,m1,by rw [h1];dsimp only;rw [h3];simp,by simp⟩) (.one ⟨c,[],f2,t2,m2,by simp,by simp⟩)
      have:=hj.ctx a1 b2
      simpa using this
theorem crit_lcfW {rs:RulW} (hd:dwnW rs) (hc:critW rs):lcfW rs:=by
 rintro u v x ⟨a1,b1,f1,t1,m1,rfl,rfl⟩ ⟨a2,b2,f2,t2,m2,e,rfl⟩
 rcases Nat.le_total a1.length a2.length with h|h
 ·exact lcf_half hd hc m1 m2 e h
 ·exact (lcf_half hd hc m2 m1 e.symm h).symm
theorem crit_uniW {rs:RulW} (hd:dwnW rs) (hc:critW rs) (w:List UInt8):uniW rs w:=fun v x=>newmanW hd (crit_lcfW hd hc) _ w (Nat.lt_succ_self _) v x
end Go.Proofs.YtbfcfpmholkmeaaGreatDoor
namespace Go.Proofs.YtbfcfpmholkmeaaGreatDoor

def atW (r:List UInt8 × List UInt8) (w:List UInt8) (i:Nat):Option (List UInt8) :=
 if (w.drop i).take r.1.length=r.1 then some (w.take i++r.2++(w.drop i).drop r.1.length) else none
def resW (rs:RulW) (w:List UInt8):List (List UInt8):=(List.range w.length).flatMap fun i=>rs.filterMap fun r=>atW r w i
theorem resW_iff {rs:RulW} (hd:dwnW rs) {w v:List UInt8}:v∈resW rs w↔stpW rs w v:=by
 unfold resW
 rw [List.mem_flatMap]
 constructor
 ·rintro⟨i,-,h⟩
  obtain⟨r,hr,h⟩:=List.mem_filterMap.1 h
  unfold atW at h
  split at h
  ·rename_i hp
   cases h
   refine ⟨w.take i,(w.drop i).drop r.1.length,r.1,r.2,hr,?_,rfl⟩
   rw [List.append_assoc]
   conv=>lhs;rw [← List.take_append_drop i w]
   congr 1
   conv=>lhs;rw [← List.take_append_drop r.1.length (w.drop i)]
   rw [hp]
  ·cases h
 ·rintro⟨a,b,f,t,hm,rfl,rfl⟩
  have hf:f≠[]:=(hd _ hm).1
  have hfl:0<f.length:=List.length_pos_iff.2 hf
  refine ⟨a.length,List.mem_range.2 (by simp only [List.length_append];omega),List.mem_filterMap.2 ⟨(f,t),hm,?_⟩⟩
  unfold atW
  have e1:(a++f++b).drop a.length=f++b:=by rw [List.append_assoc,List.drop_left]
  have e2:(a++f++b).take a.length=a:=by rw [List.append_assoc,List.take_left]
  dsimp only
  rw [e1,e2,List.take_left,if_pos rfl,List.drop_left]
theorem resW_nil {rs:RulW} (hd:dwnW rs) {w:List UInt8}:resW rs w=[]↔nrmW rs w:=by
 constructor
 ·intro h v hv
  rw [← resW_iff hd,h] at hv
  cases hv
 ·intro h
  rw [List.eq_nil_iff_forall_not_mem]
  exact fun v hv=>h v ((resW_iff hd).1 hv)
theorem bfsW {rs:RulW} {w:List UInt8} {R N:List (List UInt8)} (h0:w∈R) (hc:∀ u∈R,∀ v,stpW rs u v→v∈R) (hn:∀ u∈R,nrmW rs u→u∈N):∀ n,rchW rs w n→nrmW rs n→n∈N:=by
 intro n h
 have h1:∀ {u n},rchW rs u n→u∈R→n∈R:=fun h=>by
  induction h with
  | refl u=>exact id
  | head s _ ih=>exact fun hu=>ih (hc _ hu _ s)
 exact fun h2=>hn n (h1 h h0) h2
theorem uniW_one {rs:RulW} {w:List UInt8} {N:List (List UInt8)} (h:∀ n,rchW rs w n→nrmW rs n→n∈N) (h1:N.length=1):uniW rs w:=by
 obtain⟨a,rfl⟩:=List.length_eq_one_iff.1 h1
 intro v x r1 r2 n1 n2
 have e1:=h v r1 n1
 have e2:=h x r2 n2
 rw [List.mem_singleton] at e1 e2
 rw [e1,e2]
def ovW (x y:List UInt8) (k:Nat):Option (List UInt8):=if y.take k=x.drop (x.length - k) then some (x.take (x.length - k)++y) else none
def inW (x y:List UInt8) (i:Nat):Bool:=decide ((x.drop i).take y.length=y)
structure critI (rs:RulW):Prop where
 ov:∀ (i j:Nat) (x y:List UInt8 × List UInt8),rs[i]?=some x→rs[j]?=some y→∀ k,1≤k→k<x.1.length→k<y.1.length→∀ c,ovW x.1 y.1 k=some c→uniW rs c
 inn:∀ (i j:Nat) (x y:List UInt8 × List UInt8),rs[i]?=some x→rs[j]?=some y→i≠j→∀ p,p<x.1.length→inW x.1 y.1 p=true→uniW rs x.1
theorem critI.crit {rs:RulW} (hd:dwnW rs) (h:critI rs):critW rs:=by
 refine ⟨fun x hx y hy a s r ha hs hr e1 e2=>?_,fun x hx y hy hne a r e=>?_⟩
 ·obtain⟨i,hi⟩:=List.mem_iff_getElem?.1 hx
  obtain⟨j,hj⟩:=List.mem_iff_getElem?.1 hy
  have la:=List.length_pos_iff.2 ha
  have ls:=List.length_pos_iff.2 hs
  have lr:=List.length_pos_iff.2 hr
  refine h.ov i j x y hi hj s.length (by omega) (by rw [e1,List.length_append];omega) (by rw [e2,List.length_append];omega) _ ?_
  unfold ovW
  have e3:x.1.length - s.length=a.length:=by rw [e1,List.length_append];omega
  rw [e3,e1,List.drop_left,e2,List.take_left,List.take_left,if_pos rfl]
 ·obtain⟨i,hi⟩:=List.mem_iff_getElem?.1 hx
  obtain⟨j,hj⟩:=List.mem_iff_getElem?.1 hy
  have hij:i≠j:=fun e9=>by
   subst e9
   rw [hi] at hj
   exact hne (Option.some.inj hj)
  have hy0:=List.length_pos_iff.2 (hd _ hy).1
  refine h.inn i j x y hi hj hij a.length (by rw [e];simp only [List.length_append];omega) ?_
  unfold inW
  rw [e,List.append_assoc,List.drop_left,List.take_left,decide_eq_true_eq]
theorem critI.uni {rs:RulW} (hd:dwnW rs) (h:critI rs) (w:List UInt8):uniW rs w:=crit_uniW hd (h.crit hd) w
theorem stpW.all {rs:RulW} {P:UInt8→Prop} (hr:∀ x∈rs,∀ b∈x.2,P b) {u v:List UInt8} (h:stpW rs u v) (hu:∀ b∈u,P b):∀ b∈v,P b:=by
 obtain⟨a,b,f,t,hm,rfl,rfl⟩:=h
 intro c hc
 simp only [List.mem_append] at hc hu
 rcases hc with (hc|hc)|hc
 ·exact hu c (.inl (.inl hc))
 ·exact hr _ hm c hc
 ·exact hu c (.inr hc)
theorem rchW.all {rs:RulW} {P:UInt8→Prop} (hr:∀ x∈rs,∀ b∈x.2,P b) {u v:List UInt8} (h:rchW rs u v):(∀ b∈u,P b)→∀ b∈v,P b:=by
 induction h with
 | refl u=>exact id
 | head s _ ih=>exact fun hu=>ih (s.all hr hu)
theorem rchW.len {rs:RulW} (hd:dwnW rs) {u v:List UInt8} (h:rchW rs u v):v.length≤u.length:=by
 induction h with
 | refl u=>exact Nat.le_refl _
 | head s _ ih=>exact Nat.le_trans ih (s.wgt hd).2
theorem nrmW.same {rs rs':RulW} (hs:∀ x,x∈rs↔x∈rs') {u:List UInt8} (h:nrmW rs u):nrmW rs' u:=fun v hv=>h v (hv.sub fun x hx=>(hs x).2 hx)
theorem dwnW.same {rs rs':RulW} (hs:∀ x,x∈rs↔x∈rs') (h:dwnW rs):dwnW rs':=fun x hx=>h x ((hs x).2 hx)
theorem uniW.order {rs rs':RulW} (hs:∀ x,x∈rs↔x∈rs') {w v x:List UInt8} (h:uniW rs w) (h1:rchW rs w v) (n1:nrmW rs v) (h2:rchW rs' w x) (n2:nrmW rs' x):v=x :=
 h v x h1 (h2.sub fun x hx=>(hs x).2 hx) n1 (n2.same fun x=>(hs x).symm)
end Go.Proofs.YtbfcfpmholkmeaaGreatDoor
namespace Go.Proofs.YtbfcfpmholkmeaaGreatDoor
open Go.RowKit Go.Shelf
set_option maxRecDepth 100000

abbrev RuB:=ByteArray × ByteArray
def ruC (r:RuB):List Value:=[.string r.1, .string r.2]
def ruL (r:RuB):List UInt8 × List UInt8:=(r.1.data.toList,r.2.data.toList)
theorem ruC_len (r:RuB):(ruC r).length=2:=rfl
def ruBad (r:RuB):Bool:=decide (r.2.size > r.1.size) || (decide (r.2.size=r.1.size) && !Op.bytesLess r.2.toList r.1.toList)
structure ruOk (r:RuB):Prop where
 f0:r.1≠ByteArray.mk #[]
 t0:r.2≠ByteArray.mk #[]
 f64:r.1.size≤64
 t64:r.2.size≤64
 fw:normB r.1=true
 tw:normB r.2=true
 lt:ruBad r=false
def rusOk (rs:List RuB):Prop:=rs.length≤64∧∀ r∈rs,ruOk r
theorem size_list (s:ByteArray):s.data.toList.length=s.size:=by simp
theorem less_wgt:∀ (a b:List UInt8),a.length=b.length→Op.bytesLess a b=true→∀ n,wgtW a n<wgtW b n
 | [],[],_,h,_=>by simp [Op.bytesLess] at h
 | [],_::_,h,_,_=>by simp at h
 | _::_,[],h,_,_=>by simp at h
 | x::a,y::b,hl,h,n=>by
  simp only [Op.bytesLess,Bool.or_eq_true,Bool.and_eq_true,decide_eq_true_eq,beq_iff_eq] at h
  simp only [List.length_cons,Nat.add_right_cancel_iff] at hl
  rw [wgtW,wgtW]
  rcases h with h|⟨rfl,h⟩
  ·have h1:x.toNat<y.toNat:=h
   rw [wgtW_eq a,wgtW_eq b,hl]
   have h2:=wgtW_lt a
   rw [hl] at h2
   have h3:(n * 257+(x.toNat+1)) * 257 ^ b.length+257 ^ b.length=(n * 257+(x.toNat+1)+1) * 257 ^ b.length:=by rw [Nat.add_mul _ 1,Nat.one_mul]
   have h4:(n * 257+(x.toNat+1)+1) * 257 ^ b.length≤(n * 257+(y.toNat+1)) * 257 ^ b.length:=Nat.mul_le_mul_right _ (by omega)
   omega
  ·exact less_wgt a b hl h _
theorem ruOk.dwn {r:RuB} (h:ruOk r):(ruL r).1≠[]∧(ruL r).2.length≤(ruL r).1.length∧wgtW (ruL r).2 0<wgtW (ruL r).1 0:=by
 have hb:=h.lt
 unfold ruBad at hb
 simp only [Bool.or_eq_false_iff,Bool.and_eq_false_iff,decide_eq_false_iff_not,Bool.not_eq_false'] at hb
 have e1:=size_list r.1
 have e2:=size_list r.2
 refine ⟨fun e=>h.f0 (ByteArray.ext (Array.ext' e)),by show r.2.data.toList.length≤r.1.data.toList.length;omega,?_⟩
 show wgtW r.2.data.toList 0<wgtW r.1.data.toList 0
 rcases Nat.lt_or_ge r.2.size r.1.size with hl|hl
 ·exact wgtW_len (by omega)
 ·have hs:r.2.size=r.1.size:=by omega
  have hz:=hb.2.resolve_left (fun h9=>h9 hs)
  rw [Lib.toList_data,Lib.toList_data] at hz
  exact less_wgt _ _ (by omega) hz 0
def rusL (rs:List RuB):RulW:=rs.map ruL
theorem rusOk.dwn {rs:List RuB} (h:rusOk rs):dwnW (rusL rs):=fun x hx=>by
 obtain⟨r,hr,rfl⟩:=List.mem_map.1 hx
 exact (h.2 r hr).dwn
def wlyL (l:List UInt8):Prop:=∀ b∈l,wordlyK (kindB b)=true
theorem normB_wly {s:ByteArray}:normB s=true↔wlyL s.data.toList:=by
 unfold normB wlyL
 rw [decide_eq_true_eq]
 constructor
 ·intro h b hb
  obtain⟨j,hj⟩:=List.mem_iff_getElem?.1 hb
  have hjl:=(List.getElem?_eq_some_iff.1 hj).1
  have h9:=h j (by rw [← size_list];exact hjl)
  unfold kAt at h9
  have e:byteAt s (j:Int)=b:=by unfold byteAt;rw [Int.toNat_natCast,List.getD_eq_getElem?_getD,hj];rfl
  rw [e] at h9
  exact h9
 ·intro h j hj
  unfold kAt
  refine h _ ?_
  unfold byteAt
  rw [Int.toNat_natCast,List.getD_eq_getElem?_getD,List.getElem?_eq_getElem (by rw [size_list];exact hj)]
  exact List.getElem_mem _
theorem rusOk.wly {rs:List RuB} (h:rusOk rs):∀ x∈rusL rs,∀ b∈x.2,wordlyK (kindB b)=true:=fun x hx=>by
 obtain⟨r,hr,rfl⟩:=List.mem_map.1 hx
 exact normB_wly.1 (h.2 r hr).tw
end Go.Proofs.YtbfcfpmholkmeaaGreatDoor
namespace Go.Proofs.YtbfcfpmholkmeaaGreatDoor
open Go.RowKit Go.Shelf
set_option maxRecDepth 100000

def preB (s p:ByteArray):Bool:=decide ((p.size:Int)≤s.size) && decide (s.extract 0 p.size=p)
def atRu (r:RuB) (s:ByteArray) (i:Nat):Option ByteArray:=if preB (s.extract i s.size) r.1 then some (s.extract 0 i++r.2++(s.extract i s.size).extract r.1.size (s.extract i s.size).size) else none
def preR (rs:List RuB) (s:ByteArray) (i k:Nat):List ByteArray:=((List.range i).flatMap fun i=>rs.filterMap fun r=>atRu r s i)++(rs.take k).filterMap fun r=>atRu r s i
def resB (rs:List RuB) (s:ByteArray):List ByteArray:=(List.range s.size).flatMap fun i=>rs.filterMap fun r=>atRu r s i
theorem preR_end (rs:List RuB) (s:ByteArray):preR rs s s.size 0=resB rs s:=by unfold preR resB;simp
theorem preR_row (rs:List RuB) (s:ByteArray) (i:Nat) {k:Nat} (hk:rs.length≤k):preR rs s i k=preR rs s (i+1) 0:=by
 unfold preR
 rw [List.take_of_length_le hk,List.range_succ,List.flatMap_append]
 simp
theorem preR_step {rs:List RuB} {s:ByteArray} {i k:Nat} {r:RuB} (h:rs[k]?=some r):preR rs s i (k+1)=preR rs s i k++(atRu r s i).toList:=by
 unfold preR
 rw [take_snoc _ _ _ h,List.filterMap_append, ← List.append_assoc]
 cases e:atRu r s i <;> simp [e]
theorem preR_pre (rs:List RuB) (s:ByteArray) {i k:Nat} (hi:i<s.size):∃ l,resB rs s=preR rs s i k++l:=by
 obtain⟨d,hd⟩:∃ d,s.size=i+1+d:=⟨s.size - (i+1),by omega⟩
 unfold resB preR
 rw [hd,List.range_add,List.flatMap_append,List.range_succ,List.flatMap_append]
 refine ⟨(rs.drop k).filterMap (fun r=>atRu r s i)++((List.range d).map (i+1 + ·)).flatMap (fun i=>rs.filterMap fun r=>atRu r s i),?_⟩
 have e:rs.filterMap (fun r=>atRu r s i)=(rs.take k).filterMap (fun r=>atRu r s i)++(rs.drop k).filterMap (fun r=>atRu r s i):=by
  conv=>lhs;rw [← List.take_append_drop k rs]
  rw [List.filterMap_append]
 simp only [List.flatMap_cons,List.flatMap_nil,List.append_nil,List.append_assoc]
 rw [e]
 simp only [List.append_assoc]
theorem preR_at {rs:List RuB} {s:ByteArray} {i k:Nat} {r:RuB} {z:ByteArray} (hi:i<s.size) (h:rs[k]?=some r) (hz:atRu r s i=some z):(resB rs s)[(preR rs s i k).length]?=some z:=by
 obtain⟨l,hl⟩:=preR_pre rs s (i:=i) (k:=k+1) hi
 rw [hl,preR_step h,hz]
 simp
theorem ext_listW (s:ByteArray) (i j:Nat):(s.extract i j).data.toList=(s.data.toList.take j).drop i:=by
 rw [ByteArray.data_extract,Array.toList_extract,List.extract_eq_take_drop,List.drop_take]
theorem app_listW (s t:ByteArray):(s++t).data.toList=s.data.toList++t.data.toList:=by rw [ByteArray.data_append,Array.toList_append]
theorem ba_ext {s t:ByteArray}:s=t↔s.data.toList=t.data.toList:=⟨fun h=>by rw [h],fun h=>ByteArray.ext (Array.ext' h)⟩
theorem preB_iff {s p:ByteArray}:preB s p=true↔s.data.toList.take p.data.toList.length=p.data.toList:=by
 unfold preB
 rw [Bool.and_eq_true,decide_eq_true_eq,decide_eq_true_eq,ba_ext,ext_listW,List.drop_zero,size_list]
 constructor
 ·exact fun h=>h.2
 ·intro h
  refine ⟨?_,h⟩
  have:=congrArg List.length h
  rw [List.length_take,size_list,size_list] at this
  omega
theorem atRu_list (r:RuB) (s:ByteArray) (i:Nat):(atRu r s i).map (fun z=>z.data.toList)=atW (ruL r) s.data.toList i:=by
 have hs:=size_list s
 have e1:(s.extract i s.size).data.toList=s.data.toList.drop i:=by rw [ext_listW,List.take_of_length_le (by omega)]
 have e2:(s.extract i s.size).size=(s.data.toList.drop i).length:=by rw [← e1,size_list]
 unfold atRu atW
 by_cases h:preB (s.extract i s.size) r.1=true
 ·rw [if_pos h]
  have h':=preB_iff.1 h
  rw [e1] at h'
  rw [if_pos (show List.take (ruL r).1.length (s.data.toList.drop i)=(ruL r).1 from h')]
  show some _=some _
  congr 1
  dsimp only
  rw [app_listW,app_listW,ext_listW,ext_listW,List.drop_zero,e1,e2,List.take_of_length_le (Nat.le_refl _), ← size_list r.1]
  rfl
 ·rw [if_neg h,if_neg]
  ·rfl
  ·intro h'
   refine h (preB_iff.2 ?_)
   rw [e1]
   exact h'
theorem resB_list (rs:List RuB) (s:ByteArray):(resB rs s).map (fun z=>z.data.toList)=resW (rusL rs) s.data.toList:=by
 unfold resB resW rusL
 rw [List.map_flatMap,size_list]
 have e:(fun i=>(rs.filterMap fun r=>atRu r s i).map (fun z=>z.data.toList))=fun i=>(rs.map ruL).filterMap fun r=>atW r s.data.toList i:=by
  funext i
  rw [List.map_filterMap,List.filterMap_map]
  congr 1
  funext r
  exact atRu_list r s i
 rw [e]
theorem resB_iff {rs:List RuB} (h:rusOk rs) {s t:ByteArray}:t∈resB rs s↔stpW (rusL rs) s.data.toList t.data.toList:=by
 rw [← resW_iff h.dwn, ← resB_list]
 constructor
 ·exact fun h=>List.mem_map_of_mem (f:=fun z:ByteArray=>z.data.toList) h
 ·intro h
  obtain⟨z,hz,e⟩:=List.mem_map.1 h
  rwa [← ba_ext.2 e]
theorem resB_nil {rs:List RuB} (h:rusOk rs) {s:ByteArray}:resB rs s=[]↔nrmW (rusL rs) s.data.toList:=by
 rw [← resW_nil h.dwn, ← resB_list,List.map_eq_nil_iff]
end Go.Proofs.YtbfcfpmholkmeaaGreatDoor
namespace Go.Proofs.YtbfcfpmholkmeaaGreatDoor
open Go.RowKit Go.Shelf Go.Proofs
set_option maxRecDepth 100000
set_option maxHeartbeats 2000000

theorem flat_getW {α:Type} (cells:α→List Value) (sz:Nat) (hsz:∀ t,(cells t).length=sz):∀ {l:List α} {k:Nat} {x:α},l[k]?=some x→∀ (j:Nat) u,(cells x)[j]?=some u→(l.flatMap cells)[k * sz+j]?=some u
 | [],_,_,h,_,_,_=>by simp at h
 | y::l,0,x,h,j,u,hu=>by
  simp only [List.getElem?_cons_zero,Option.some.injEq] at h
  subst h
  have:=(List.getElem?_eq_some_iff.1 hu).1
  rw [Nat.zero_mul,Nat.zero_add,List.flatMap_cons,List.getElem?_append_left this]
  exact hu
 | y::l,k+1,x,h,j,u,hu=>by
  rw [List.flatMap_cons,List.getElem?_append_right (by rw [hsz];simp only [Nat.add_mul];omega),hsz]
  have:=flat_getW cells sz hsz (l:=l) (k:=k) (x:=x) (by simpa using h) j u hu
  rw [show (k+1) * sz+j - sz=k * sz+j by rw [Nat.add_mul];omega]
  exact this
structure RsR (w:World) (A:Option Addr) (n:Nat) (rs:List RuB):Prop where
 s:Src w 2 A n (rs.flatMap ruC)
 len:rs.length=n
 n68:n≤68
 sz:∀ r∈rs,r.1.size≤100∧r.2.size≤100
theorem RsR.cls {w0 w:World} {H:List HA} {A:Option Addr} {n:Nat} {rs:List RuB} (h:RsR w0 A n rs) (hw:Cls w0 w H):RsR w A n rs:=⟨⟨h.s.1,fun q=>⟨(h.s.2 q).1,(h.s.2 q).2.below hw.below⟩⟩,h.len,h.n68,h.sz⟩
theorem RsR.below {w0 w:World} {A:Option Addr} {n:Nat} {rs:List RuB} (h:RsR w0 A n rs) (hw:Below w0.heap.size w0 w):RsR w A n rs:=⟨⟨h.s.1,fun q=>⟨(h.s.2 q).1,(h.s.2 q).2.below hw⟩⟩,h.len,h.n68,h.sz⟩
theorem RsR.at {w:World} {b o n:Nat} {rs:List RuB} (h:RsR w (some ⟨b,o,none⟩) n rs) {k:Nat} {r:RuB} (hk:rs[k]?=some r):RdC w b (o+(k:Int).toNat * 2) [.string r.1, .string r.2]:=by
 have hkl:=(List.getElem?_eq_some_iff.1 hk).1
 have hl:=h.len
 obtain⟨-,h2⟩:=h.s.2 (by omega)
 intro j u hu
 have h9:=h2 (k * 2+j) u (flat_getW ruC 2 ruC_len hk j u hu)
 rw [show o+(k:Int).toNat * 2+j=ofs (some ⟨b,o,none⟩)+(k * 2+j) by show _=o+(k * 2+j);omega]
 exact h9
theorem normB_false {s:ByteArray} {k:Nat} (hk:k<s.size) (h:wordlyK (kAt s k)=false):normB s=false:=by
 unfold normB
 rw [decide_eq_false_iff_not]
 intro h9
 rw [h9 k hk] at h
 cases h
theorem wordlyW_spec (s:ByteArray) (hs:s.size≤1000) (w:World):Spec Tryz.prog 58 [.string s] w (fun v R=>v = .bool (normB s)∧R=[]):=by
 refine spec_of sg Tryz.func58 rfl rfl rfl ?_
 repeat' (first|refine d1 ?_|(show ∀ _:Nat,T _ _ _ _ _;intro _))
 refine T_loopX (fun k:Nat=>[(6, .int .i64 (k:Nat))]) (fun _=>[]) (fun k=>k≤s.size∧∀ j,j<k→wordlyK (kAt s j)=true) (fun k=>s.size - k) 0 ⟨Nat.zero_le _,fun j h=>absurd h (Nat.not_lt_zero _)⟩ ?_
 rintro k ⟨hk,hok⟩
 repeat' (first|refine d1 ?_|(show ∀ _:Nat,T _ _ _ _ _;intro _))
 refine T_if rfl (fun h=>?_) (fun h=>?_)
 ·simp only [decide_eq_true_eq] at h
  have hks:k<s.size:=by omega
  repeat' (first|refine d1 ?_|(show T _ (.ops _ (_::_)::_) _ _ _;first|refine T_call rfl rfl rfl rfl rfl (fun w hw=>kindPrg_spec _ (byteAt_bd _ _) w) ?_|refine T_callC rfl rfl rfl rfl rfl rfl rfl (fun hg w hw=>kindPrg_spec _ (byteAt_bd _ _) w) ?_)|(show T _ (.run _ _ (_::_) _ _::_) _ _ _;first|refine rc rfl rfl rfl rfl rfl rfl rfl (fun w hw=>kindPrg_spec _ (byteAt_bd _ _) w) ?_|refine rcG rfl rfl rfl rfl rfl rfl rfl rfl rfl (fun hg w hw=>kindPrg_spec _ (byteAt_bd _ _) w) ?_)|(show ∀ _:Nat,T _ _ _ _ _;intro _))
  have hkk:kindI ((byteAt s (k:Int)).toNat:Int)=kAt s k:=rfl
  rw [hkk]
  generalize hq:kAt s k=q
  have hstep:wordlyK q=true→∀ j,j<k+1→wordlyK (kAt s j)=true:=fun hw9 j hj=>by
   rcases Nat.lt_or_ge j k with h9|h9
   ·exact hok j h9
   ·rw [show j=k by omega,hq];exact hw9
  have hno:wordlyK q=false→normB s=false:=fun h9=>normB_false hks (by rw [hq];exact h9)
  repeat' (first|refine d1 ?_|refine dd ?_|(show ∀ _:Nat,T _ _ _ _ _;intro _)|(show T _ (.code (.cond _ _ _)::_) _ _ _;refine T_if rfl (fun h=>?_) (fun h=>?_))|(show T _ (.code .ret::_) _ _ _;refine T_retV [] rfl (Hle.none _) ⟨congrArg Value.bool (hno ?_).symm,rfl⟩)|(show T _ _ _ _ _;refine T_backX (k+1) ⟨by omega,hstep ?_⟩ (by omega)))
  all_goals (unfold wordlyK;simp_all)
 ·simp only [decide_eq_false_iff_not] at h
  obtain rfl:k=s.size:=by omega
  repeat' (first|refine d1 ?_|(show ∀ _:Nat,T _ _ _ _ _;intro _)|(show T _ (.code .ret::_) _ _ _;refine T_retV [] rfl (Hle.none _) ⟨congrArg Value.bool ?_,rfl⟩))
  unfold normB
  exact (decide_eq_true hok).symm
theorem right_spec (r:RuB) (hr:r.1.size≤100∧r.2.size≤100) (w:World):Spec Tryz.prog 56 [.agg #[.string r.1, .string r.2]] w (fun v R=>∃ e:Int,(e=0↔ruOk r)∧v = .int .i64 e∧R=[]):=by
 refine spec_of sg Tryz.func56 rfl rfl rfl ?_
 refine T_op (OpT.box (cs:=[.string r.1, .string r.2]) rfl rfl rfl rfl rfl rfl rfl (fun b1=>?_))
 repeat' (first|refine d1 ?_|(show T _ (.ops _ (_::_)::_) _ _ _;first|refine T_call rfl rfl rfl rfl rfl (fun w hw=>wordlyW_spec r.1 (by omega) w) ?_|refine T_callC rfl rfl rfl rfl rfl rfl rfl (fun hg w hw=>wordlyW_spec r.1 (by omega) w) ?_|refine T_call rfl rfl rfl rfl rfl (fun w hw=>wordlyW_spec r.2 (by omega) w) ?_|refine T_callC rfl rfl rfl rfl rfl rfl rfl (fun hg w hw=>wordlyW_spec r.2 (by omega) w) ?_)|(show T _ (.run _ _ (_::_) _ _::_) _ _ _;first|refine rc rfl rfl rfl rfl rfl rfl rfl (fun w hw=>wordlyW_spec r.1 (by omega) w) ?_|refine rcG rfl rfl rfl rfl rfl rfl rfl rfl rfl (fun hg w hw=>wordlyW_spec r.1 (by omega) w) ?_|refine rc rfl rfl rfl rfl rfl rfl rfl (fun w hw=>wordlyW_spec r.2 (by omega) w) ?_|refine rcG rfl rfl rfl rfl rfl rfl rfl rfl rfl (fun hg w hw=>wordlyW_spec r.2 (by omega) w) ?_)|(show ∀ _:Nat,T _ _ _ _ _;intro _))
 refine T_if rfl (fun h1=>?_) (fun h1=>?_)
 ·repeat' (first|refine d1 ?_|(show ∀ _:Nat,T _ _ _ _ _;intro _)|(show T _ (.code .ret::_) _ _ _;refine T_retV [] rfl (Hle.none _) ⟨5,⟨fun h=>by omega,fun h=>absurd h1 (by simp [h.f0,h.t0])⟩,rfl,rfl⟩))
 repeat' (first|refine d1 ?_|(show T _ (.ops _ (_::_)::_) _ _ _;first|refine T_call rfl rfl rfl rfl rfl (fun w hw=>wordlyW_spec r.1 (by omega) w) ?_|refine T_callC rfl rfl rfl rfl rfl rfl rfl (fun hg w hw=>wordlyW_spec r.1 (by omega) w) ?_|refine T_call rfl rfl rfl rfl rfl (fun w hw=>wordlyW_spec r.2 (by omega) w) ?_|refine T_callC rfl rfl rfl rfl rfl rfl rfl (fun hg w hw=>wordlyW_spec r.2 (by omega) w) ?_)|(show T _ (.run _ _ (_::_) _ _::_) _ _ _;first|refine rc rfl rfl rfl rfl rfl rfl rfl (fun w hw=>wordlyW_spec r.1 (by omega) w) ?_|refine rcG rfl rfl rfl rfl rfl rfl rfl rfl rfl (fun hg w hw=>wordlyW_spec r.1 (by omega) w) ?_|refine rc rfl rfl rfl rfl rfl rfl rfl (fun w hw=>wordlyW_spec r.2 (by omega) w) ?_|refine rcG rfl rfl rfl rfl rfl rfl rfl rfl rfl (fun hg w hw=>wordlyW_spec r.2 (by omega) w) ?_)|(show ∀ _:Nat,T _ _ _ _ _;intro _))
 refine T_if rfl (fun h2=>?_) (fun h2=>?_)
 ·repeat' (first|refine d1 ?_|(show ∀ _:Nat,T _ _ _ _ _;intro _)|(show T _ (.code .ret::_) _ _ _;refine T_retV [] rfl (Hle.none _) ⟨4,⟨fun h=>by omega,fun h=>absurd h2 (by have:=h.f64;have:=h.t64;simp;omega)⟩,rfl,rfl⟩))
 repeat' (first|refine d1 ?_|(show T _ (.ops _ (_::_)::_) _ _ _;first|refine T_call rfl rfl rfl rfl rfl (fun w hw=>wordlyW_spec r.1 (by omega) w) ?_|refine T_callC rfl rfl rfl rfl rfl rfl rfl (fun hg w hw=>wordlyW_spec r.1 (by omega) w) ?_|refine T_call rfl rfl rfl rfl rfl (fun w hw=>wordlyW_spec r.2 (by omega) w) ?_|refine T_callC rfl rfl rfl rfl rfl rfl rfl (fun hg w hw=>wordlyW_spec r.2 (by omega) w) ?_)|(show T _ (.run _ _ (_::_) _ _::_) _ _ _;first|refine rc rfl rfl rfl rfl rfl rfl rfl (fun w hw=>wordlyW_spec r.1 (by omega) w) ?_|refine rcG rfl rfl rfl rfl rfl rfl rfl rfl rfl (fun hg w hw=>wordlyW_spec r.1 (by omega) w) ?_|refine rc rfl rfl rfl rfl rfl rfl rfl (fun w hw=>wordlyW_spec r.2 (by omega) w) ?_|refine rcG rfl rfl rfl rfl rfl rfl rfl rfl rfl (fun hg w hw=>wordlyW_spec r.2 (by omega) w) ?_)|(show ∀ _:Nat,T _ _ _ _ _;intro _))
 refine T_if rfl (fun h3=>?_) (fun h3=>?_)
 ·repeat' (first|refine d1 ?_|(show ∀ _:Nat,T _ _ _ _ _;intro _)|(show T _ (.code .ret::_) _ _ _;refine T_retV [] rfl (Hle.none _) ⟨11,⟨fun h=>by omega,fun h=>absurd h3 (by simp [h.fw,h.tw])⟩,rfl,rfl⟩))
 repeat' (first|refine d1 ?_|(show ∀ _:Nat,T _ _ _ _ _;intro _))
 have hb:(decide ((r.1.size:Int)<(r.2.size:Int)) || decide ((r.2.size:Int)=(r.1.size:Int)) && !Op.bytesLess r.2.toList r.1.toList)=ruBad r:=by
  unfold ruBad
  rw [show decide ((r.1.size:Int)<(r.2.size:Int))=decide (r.2.size > r.1.size) from decide_eq_decide.2 (by omega),show decide ((r.2.size:Int)=(r.1.size:Int))=decide (r.2.size=r.1.size) from decide_eq_decide.2 (by omega)]
 refine T_if rfl (fun h4=>?_) (fun h4=>?_)
 ·rw [hb] at h4
  repeat' (first|refine d1 ?_|(show ∀ _:Nat,T _ _ _ _ _;intro _)|(show T _ (.code .ret::_) _ _ _;refine T_retV [] rfl (Hle.none _) ⟨24,⟨fun h=>by omega,fun h=>absurd h4 (by rw [h.lt];simp)⟩,rfl,rfl⟩))
 ·rw [hb] at h4
  simp only [Bool.or_eq_false_iff,decide_eq_false_iff_not,Bool.not_eq_false'] at h1 h2 h3
  repeat' (first|refine d1 ?_|(show ∀ _:Nat,T _ _ _ _ _;intro _)|(show T _ (.code .ret::_) _ _ _;refine T_retV [] rfl (Hle.none _) ⟨0,⟨fun _=>⟨h1.1,h1.2,by omega,by omega,h3.1,h3.2,h4⟩,fun _=>rfl⟩,rfl,rfl⟩))
theorem checkRules_spec (A:Option Addr) (n c:Nat) (rs:List RuB) (w:World) (hs:RsR w A n rs):Spec Tryz.prog 25 [.slice A n c] w (fun v R=>∃ e:Int,(e=0↔rusOk rs)∧v = .int .i64 e∧R=[]):=by
 have hl:=hs.len
 have hn:=hs.n68
 refine spec_of sg Tryz.func25 rfl rfl rfl ?_
 repeat' (first|refine d1 ?_|(show ∀ _:Nat,T _ _ _ _ _;intro _))
 refine T_if rfl (fun h1=>?_) (fun h1=>?_)
 ·simp only [decide_eq_true_eq] at h1
  repeat' (first|refine d1 ?_|(show ∀ _:Nat,T _ _ _ _ _;intro _)|(show T _ (.code .ret::_) _ _ _;refine T_retV [] rfl (Hle.none _) ⟨4,⟨fun h=>by omega,fun h=>by have:=h.1;omega⟩,rfl,rfl⟩))
 simp only [decide_eq_false_iff_not] at h1
 repeat' (first|refine d1 ?_|(show ∀ _:Nat,T _ _ _ _ _;intro _))
 refine T_loopX (fun k:Nat=>[(11, .int .i64 (k:Nat))]) (fun _=>[]) (fun k=>k≤n∧∀ r∈rs.take k,ruOk r) (fun k=>n - k) 0 ⟨Nat.zero_le _,fun r h=>by simp at h⟩ ?_
 rintro k ⟨hk,hok⟩
 repeat' (first|refine d1 ?_|(show ∀ _:Nat,T _ _ _ _ _;intro _))
 refine T_if rfl (fun h2=>?_) (fun h2=>?_)
 ·simp only [decide_eq_true_eq] at h2
  obtain⟨b,o,rfl⟩:=hs.s.base (by omega)
  obtain⟨r,hr⟩:∃ r,rs[k]?=some r:=⟨_,List.getElem?_eq_getElem (by omega)⟩
  have hat:=hs.at hr
  have hrm:=List.mem_of_getElem? hr
  repeat' (first|refine d1 ?_|(show T _ (.ops _ (_::_)::_) _ _ _;first|refine T_val rfl (Val.load rfl (fun hg=>rdOld hat)) rfl rfl rfl ?_|refine T_valC rfl (Val.load rfl (fun hg=>rdOld hat)) rfl rfl rfl rfl rfl ?_)|(show T _ (.run _ _ (_::_) _ _::_) _ _ _;first|refine rv rfl rfl rfl (Val.load rfl (fun hg=>rdOld hat)) rfl rfl rfl ?_|refine rg rfl rfl rfl (Val.load rfl (fun hg=>rdOld hat)) rfl rfl rfl rfl rfl ?_)|(show ∀ _:Nat,T _ _ _ _ _;intro _))
  refine T_op (OpT.call rfl rfl rfl rfl rfl (fun w hw=>right_spec r (hs.sz r hrm) w) ?_)
  rintro u R ⟨e,he,rfl,rfl⟩
  rw [List.nil_append]
  repeat' (first|refine d1 ?_|(show ∀ _:Nat,T _ _ _ _ _;intro _))
  refine T_if rfl (fun h3=>?_) (fun h3=>?_)
  ·have he0:e≠0:=by simpa using h3
   repeat' (first|refine d1 ?_|(show ∀ _:Nat,T _ _ _ _ _;intro _)|(show T _ (.code .ret::_) _ _ _;refine T_retV [] rfl (Hle.none _) ⟨e,⟨fun h=>absurd h he0,fun h=>absurd (he.2 (h.2 r hrm)) he0⟩,rfl,rfl⟩))
  ·have he0:e=0:=by simpa using h3
   repeat' (first|refine d1 ?_|(show ∀ _:Nat,T _ _ _ _ _;intro _))
   refine T_backX (k+1) ⟨by omega,fun r' hr'=>?_⟩ (by omega) (hG:=Hle.none _)
   rw [take_snoc _ _ _ hr,List.mem_append,List.mem_singleton] at hr'
   rcases hr' with hr'|rfl
   ·exact hok r' hr'
   ·exact he.1 he0
 ·simp only [decide_eq_false_iff_not] at h2
  rw [List.take_of_length_le (by omega)] at hok
  repeat' (first|refine d1 ?_|(show ∀ _:Nat,T _ _ _ _ _;intro _)|(show T _ (.code .ret::_) _ _ _;refine T_retV [] rfl (Hle.none _) ⟨0,⟨fun _=>⟨by omega,hok⟩,fun _=>rfl⟩,rfl,rfl⟩))
theorem checkW_spec (A:Option Addr) (n c:Nat) (rs:List RuB) (s:ByteArray) (hsz:s.size≤1000) (w:World) (hs:RsR w A n rs):Spec Tryz.prog 30 [.slice A n c, .string s] w (fun v R=>∃ e:Int,(e=0↔rusOk rs∧s.size≤64∧normB s=true)∧v = .int .i64 e∧R=[]):=by
 refine spec_of sg Tryz.func30 rfl rfl rfl ?_
 repeat' (first|refine d1 ?_|(show ∀ _:Nat,T _ _ _ _ _;intro _))
 refine T_op (OpT.call rfl rfl rfl rfl rfl (fun w hw=>checkRules_spec A n c rs w (hs.cls hw)) ?_)
 rintro u R ⟨e,he,rfl,rfl⟩
 rw [List.nil_append]
 repeat' (first|refine d1 ?_|(show ∀ _:Nat,T _ _ _ _ _;intro _))
 refine T_if rfl (fun h1=>?_) (fun h1=>?_)
 ·have he0:e≠0:=by simpa using h1
  repeat' (first|refine d1 ?_|(show ∀ _:Nat,T _ _ _ _ _;intro _)|(show T _ (.code .ret::_) _ _ _;refine T_retV [] rfl (Hle.none _) ⟨1,⟨fun h=>by omega,fun h=>absurd (he.2 h.1) he0⟩,rfl,rfl⟩))
 have he0:=he.1 (by simpa using h1)
 repeat' (first|refine d1 ?_|(show ∀ _:Nat,T _ _ _ _ _;intro _))
 refine T_if rfl (fun h2=>?_) (fun h2=>?_)
 ·simp only [decide_eq_true_eq] at h2
  repeat' (first|refine d1 ?_|(show ∀ _:Nat,T _ _ _ _ _;intro _)|(show T _ (.code .ret::_) _ _ _;refine T_retV [] rfl (Hle.none _) ⟨4,⟨fun h=>by omega,fun h=>by omega⟩,rfl,rfl⟩))
 simp only [decide_eq_false_iff_not] at h2
 repeat' (first|refine d1 ?_|(show T _ (.ops _ (_::_)::_) _ _ _;first|refine T_call rfl rfl rfl rfl rfl (fun w hw=>wordlyW_spec s hsz w) ?_|refine T_callC rfl rfl rfl rfl rfl rfl rfl (fun hg w hw=>wordlyW_spec s hsz w) ?_)|(show T _ (.run _ _ (_::_) _ _::_) _ _ _;first|refine rc rfl rfl rfl rfl rfl rfl rfl (fun w hw=>wordlyW_spec s hsz w) ?_|refine rcG rfl rfl rfl rfl rfl rfl rfl rfl rfl (fun hg w hw=>wordlyW_spec s hsz w) ?_)|(show ∀ _:Nat,T _ _ _ _ _;intro _))
 refine T_if rfl (fun h3=>?_) (fun h3=>?_)
 ·repeat' (first|refine d1 ?_|(show ∀ _:Nat,T _ _ _ _ _;intro _)|(show T _ (.code .ret::_) _ _ _;refine T_retV [] rfl (Hle.none _) ⟨11,⟨fun h=>by omega,fun h=>absurd h3 (by simp [h.2.2])⟩,rfl,rfl⟩))
 ·repeat' (first|refine d1 ?_|(show ∀ _:Nat,T _ _ _ _ _;intro _)|(show T _ (.code .ret::_) _ _ _;refine T_retV [] rfl (Hle.none _) ⟨0,⟨fun _=>⟨he0,by omega,by simpa using h3⟩,fun _=>rfl⟩,rfl,rfl⟩))
theorem hasPrefixL_spec (s p:ByteArray) (w:World):Spec Tryz.prog 141 [.string s, .string p] w (fun v R=>v = .bool (preB s p)∧R=[]):=by
 refine spec_of sg Tryz.func141 rfl rfl rfl ?_
 repeat' (first|refine d1 ?_|(show ∀ _:Nat,T _ _ _ _ _;intro _)|(show T _ (.code .ret::_) _ _ _;refine T_retV [] rfl (Hle.none _) ⟨rfl,rfl⟩))
theorem hasPrefix_spec (s p:ByteArray) (w:World):Spec Tryz.prog 101 [.string s, .string p] w (fun v R=>v = .bool (preB s p)∧R=[]):=by
 refine spec_of sg Tryz.func101 rfl rfl rfl ?_
 repeat' (first|refine d1 ?_|(show T _ (.ops _ (_::_)::_) _ _ _;first|refine T_call rfl rfl rfl rfl rfl (fun w hw=>hasPrefixL_spec s p w) ?_|refine T_callC rfl rfl rfl rfl rfl rfl rfl (fun hg w hw=>hasPrefixL_spec s p w) ?_)|(show T _ (.run _ _ (_::_) _ _::_) _ _ _;first|refine rc rfl rfl rfl rfl rfl rfl rfl (fun w hw=>hasPrefixL_spec s p w) ?_|refine rcG rfl rfl rfl rfl rfl rfl rfl rfl rfl (fun hg w hw=>hasPrefixL_spec s p w) ?_)|(show ∀ _:Nat,T _ _ _ _ _;intro _)|(show T _ (.code .ret::_) _ _ _;refine T_retV [] rfl (Hle.none _) ⟨rfl,rfl⟩))
theorem cutPrefixL_spec (s p:ByteArray) (w:World):Spec Tryz.prog 140 [.string s, .string p] w (fun v R=>v = .tuple #[.string (if preB s p then s.extract p.size s.size else s), .bool (preB s p)]∧R=[]):=by
 refine spec_of sg Tryz.func140 rfl rfl rfl ?_
 repeat' (first|refine d1 ?_|(show T _ (.ops _ (_::_)::_) _ _ _;first|refine T_call rfl rfl rfl rfl rfl (fun w hw=>hasPrefixL_spec s p w) ?_|refine T_callC rfl rfl rfl rfl rfl rfl rfl (fun hg w hw=>hasPrefixL_spec s p w) ?_)|(show T _ (.run _ _ (_::_) _ _::_) _ _ _;first|refine rc rfl rfl rfl rfl rfl rfl rfl (fun w hw=>hasPrefixL_spec s p w) ?_|refine rcG rfl rfl rfl rfl rfl rfl rfl rfl rfl (fun hg w hw=>hasPrefixL_spec s p w) ?_)|(show ∀ _:Nat,T _ _ _ _ _;intro _))
 refine T_if rfl (fun h=>?_) (fun h=>?_)
 ·have h9:preB s p=false:=by simpa using h
  repeat' (first|refine d1 ?_|(show ∀ _:Nat,T _ _ _ _ _;intro _)|(show T _ (.code .ret::_) _ _ _;refine T_retV [] rfl (Hle.none _) ⟨by rw [h9];rfl,rfl⟩))
 ·have h9:preB s p=true:=by simpa using h
  have hle:(p.size:Int)≤s.size:=by
   unfold preB at h9
   rw [Bool.and_eq_true,decide_eq_true_eq] at h9
   exact h9.1
  repeat' (first|refine d1 ?_|(show ∀ _:Nat,T _ _ _ _ _;intro _)|(show T _ (.code .ret::_) _ _ _;refine T_retV [] rfl (Hle.none _) ⟨by rw [h9];rfl,rfl⟩))
theorem cutPrefix_spec (s p:ByteArray) (w:World):Spec Tryz.prog 99 [.string s, .string p] w (fun v R=>v = .tuple #[.string (if preB s p then s.extract p.size s.size else s), .bool (preB s p)]∧R=[]):=by
 refine spec_of sg Tryz.func99 rfl rfl rfl ?_
 repeat' (first|refine d1 ?_|(show T _ (.ops _ (_::_)::_) _ _ _;first|refine T_call rfl rfl rfl rfl rfl (fun w hw=>cutPrefixL_spec s p w) ?_|refine T_callC rfl rfl rfl rfl rfl rfl rfl (fun hg w hw=>cutPrefixL_spec s p w) ?_)|(show T _ (.run _ _ (_::_) _ _::_) _ _ _;first|refine rc rfl rfl rfl rfl rfl rfl rfl (fun w hw=>cutPrefixL_spec s p w) ?_|refine rcG rfl rfl rfl rfl rfl rfl rfl rfl rfl (fun hg w hw=>cutPrefixL_spec s p w) ?_)|(show ∀ _:Nat,T _ _ _ _ _;intro _)|(show T _ (.code .ret::_) _ _ _;refine T_retV [] rfl (Hle.none _) ⟨rfl,rfl⟩))
end Go.Proofs.YtbfcfpmholkmeaaGreatDoor
namespace Go.Proofs.YtbfcfpmholkmeaaGreatDoor
open Go.RowKit Go.Shelf Go.Proofs
set_option maxRecDepth 100000
set_option maxHeartbeats 2000000

theorem results_spec (A:Option Addr) (n c:Nat) (s:ByteArray) (w:World):Spec Tryz.prog 59 [.slice A n c, .string s] w
  (fun v R=>∃ y:Nat × Nat,True∧v = .func (.func 98) #[] #[.pointer (some ⟨y.1,0,none⟩), .pointer (some ⟨y.2,0,none⟩)]∧R=[blk y.1 [.string s] 9,blk y.2 [.slice A n c] 22]):=by
 refine spec_of sg Tryz.func59 rfl rfl rfl ?_
 repeat' (first|(show T _ (.ops _ (⟨_, .box _ _,_,_,_,_⟩::_)::_) _ _ _;first|refine T_op (OpT.box (cs:=[.slice A n c]) rfl rfl rfl rfl rfl rfl rfl (fun _=>?_))|refine T_op (OpT.box (cs:=[.string s]) rfl rfl rfl rfl rfl rfl rfl (fun _=>?_)))|refine d1 ?_|refine dd ?_|(show ∀ _:Nat,T _ _ _ _ _;intro _)|(show T _ (.code .ret::_) _ _ _;refine T_retV _ rfl (Hle.refl _) ⟨(_,_),trivial,rfl,rfl⟩))
theorem results_iter {w0:World} {A:Option Addr} {n c:Nat} {rs:List RuB} {s:ByteArray} (hs:RsR w0 A n rs) (hss:s.size≤1000) (b3 b2:Nat) :
  IterO Tryz.prog w0 98 [] [.pointer (some ⟨b3,0,none⟩), .pointer (some ⟨b2,0,none⟩)] [blk b3 [.string s] 9,blk b2 [.slice A n c] 22]
   (fun j x B=>∃ z,(resB rs s)[j]?=some z∧x=[.string z]∧B=[]) (resB rs s).length:=by
 have hl:=hs.len
 have hn:=hs.n68
 refine iterO_of sg Tryz.func98 rfl rfl rfl ?_
 intro l' GQ X Hj hY h0
 show T _ _ _ _ (blk b3 [.string s] 9::blk b2 [.slice A n c] 22::Hj)
 repeat' (first|refine d1 ?_|(show ∀ _:Nat,T _ _ _ _ _;intro _))
 refine T_loopX (fun z:Nat × List HA=>[(11, .int .i64 (z.1:Nat))]) (fun z=>blk b3 [.string s] 9::blk b2 [.slice A n c] 22::z.2) (fun z=>z.1≤s.size∧GQ (preR rs s z.1 0).length z.2) (fun z=>s.size - z.1) (0,Hj) ⟨Nat.zero_le _,h0⟩ ?_
 rintro⟨i,H1⟩ ⟨hi,hG1⟩
 dsimp only at hi hG1 ⊢
 repeat' (first|refine d1 ?_|(show ∀ _:Nat,T _ _ _ _ _;intro _))
 refine T_if rfl (fun h=>?_) (fun h=>?_)
 ·simp only [decide_eq_true_eq] at h
  have his:i<s.size:=by omega
  repeat' (first|refine d1 ?_|(show ∀ _:Nat,T _ _ _ _ _;intro _))
  refine T_loopX (fun z:Nat × List HA=>[(16, .int .i64 (z.1:Nat))]) (fun z=>blk b3 [.string s] 9::blk b2 [.slice A n c] 22::z.2) (fun z=>z.1≤n∧GQ (preR rs s i z.1).length z.2) (fun z=>n - z.1) (0,H1) ⟨Nat.zero_le _,hG1⟩ ?_
  rintro⟨k,H2⟩ ⟨hk,hG2⟩
  dsimp only at hk hG2 ⊢
  repeat' (first|refine d1 ?_|(show ∀ _:Nat,T _ _ _ _ _;intro _))
  refine T_if rfl (fun h2=>?_) (fun h2=>?_)
  ·simp only [decide_eq_true_eq] at h2
   obtain⟨b,o,rfl⟩:=hs.s.base (by omega)
   obtain⟨r,hr⟩:∃ r,rs[k]?=some r:=⟨_,List.getElem?_eq_getElem (by omega)⟩
   have hat:=hs.at hr
   repeat' (first|refine d1 ?_|(show T _ (.ops _ (_::_)::_) _ _ _;first|refine T_val rfl (Val.load rfl (fun hg=>rdOld hat)) rfl rfl rfl ?_|refine T_valC rfl (Val.load rfl (fun hg=>rdOld hat)) rfl rfl rfl rfl rfl ?_)|(show T _ (.run _ _ (_::_) _ _::_) _ _ _;first|refine rv rfl rfl rfl (Val.load rfl (fun hg=>rdOld hat)) rfl rfl rfl ?_|refine rg rfl rfl rfl (Val.load rfl (fun hg=>rdOld hat)) rfl rfl rfl rfl rfl ?_)|(show ∀ _:Nat,T _ _ _ _ _;intro _))
   rename_i b6
   refine T_le (H':=blk b6 [.string r.1, .string r.2] 28::blk b3 [.string s] 9::blk b2 [.slice (some ⟨b,o,none⟩) n c] 22::H2) (Hle.refl _) ?_
   have hz1:(s.extract (Int.toNat 0) ((i:Nat):Int).toNat).size≤1000:=by rw [ByteArray.size_extract];omega
   have hz2:(s.extract i s.size).size≤1000:=by rw [ByteArray.size_extract];omega
   have hz3:((s.extract i s.size).extract r.1.size (s.extract i s.size).size).size≤1000:=by rw [ByteArray.size_extract];omega
   have hrz:=hs.sz r (List.mem_of_getElem? hr)
   have hz4:(s.extract (Int.toNat 0) ((i:Nat):Int).toNat++r.2).size≤1100:=by rw [ByteArray.size_append];omega
   by_cases hp:preB (s.extract i s.size) r.1=true
   ·have hcp:∀ w,Spec Tryz.prog 99 [.string (s.extract i s.size), .string r.1] w (fun v R=>v = .tuple #[.string ((s.extract i s.size).extract r.1.size (s.extract i s.size).size), .bool true]∧R=[]):=fun w=>by
     have h9:=cutPrefix_spec (s.extract i s.size) r.1 w
     rw [hp,if_pos rfl] at h9
     exact h9
    have hz:atRu r s i=some (s.extract 0 i++r.2++(s.extract i s.size).extract r.1.size (s.extract i s.size).size):=by unfold atRu;rw [if_pos hp]
    have hkj:=preR_at his hr hz
    refine T_cutX 1 [] (fun _:Unit=>[(7, .string ((s.extract i s.size).extract r.1.size (s.extract i s.size).size)),(8, .bool true)]) (fun _=>blk b6 [.string r.1, .string r.2] 28::blk b3 [.string s] 9::blk b2 [.slice (some ⟨b,o,none⟩) n c] 22::H2) (fun _=>True) ?_ ?_
    ·refine rsH [blk b6 [.string r.1, .string r.2] 28,blk b3 [.string s] 9,blk b2 [.slice (some ⟨b,o,none⟩) n c] 22] 1000 [0,1,2,3,4,5,6,7,8,9,10] ?_
     repeat' (first|refine d1 ?_|refine dd ?_|(show T _ (.ops _ (_::_)::_) _ _ _;first|refine T_call rfl rfl rfl rfl rfl (fun w hw=>hcp w) ?_|refine T_callC rfl rfl rfl rfl rfl rfl rfl (fun hg w hw=>hcp w) ?_)|(show T _ (.run _ _ (_::_) _ _::_) _ _ _;first|refine rc rfl rfl rfl rfl rfl rfl rfl (fun w hw=>hcp w) ?_|refine rcG rfl rfl rfl rfl rfl rfl rfl rfl rfl (fun hg w hw=>hcp w) ?_)|(show ∀ _:Nat,T _ _ _ _ _;intro _)|(show T _ _ _ _ _;exact T_meetX () trivial))
    rintro - -
    refine rsH [blk b6 [.string r.1, .string r.2] 28,blk b3 [.string s] 9,blk b2 [.slice (some ⟨b,o,none⟩) n c] 22] 1000 [0,1,2,3,4,5,6,7,8,9,10,11,12,13] ?_
    repeat' (first|refine d1 ?_|refine dd ?_|(show ∀ _:Nat,T _ _ _ _ _;intro _))
    refine ro rfl rfl (OpT.yieldO [] [blk b6 [.string r.1, .string r.2] 28,blk b3 [.string s] 9,blk b2 [.slice (some ⟨b,o,none⟩) n c] 22] hY rfl rfl (Holds.of1 rfl rfl rfl) rfl rfl rfl (List.getElem?_eq_some_iff.1 hkj).1 ⟨_,hkj,rfl,rfl⟩ hG2 (Hle.comm [_,_,_] H2) (fun H3 hG3=>⟨fun _=>Hle.append_left (A:=[_,_,_]) H3,?_⟩) (fun Y hX=>⟨fun _=>Hle.append_left (A:=[_,_,_]) Y,?_⟩))
    ·show T _ _ _ _ (blk b6 [.string r.1, .string r.2] 28::blk b3 [.string s] 9::blk b2 [.slice (some ⟨b,o,none⟩) n c] 22::H3)
     repeat' (first|refine d1 ?_|refine dd ?_|(show ∀ _:Nat,T _ _ _ _ _;intro _))
     refine T_if rfl (fun h3=>by exfalso;simp at h3) (fun _=>?_)
     repeat' (first|refine d1 ?_|(show ∀ _:Nat,T _ _ _ _ _;intro _))
     exact T_backX (k+1,H3) ⟨by dsimp only;omega,by dsimp only;rw [preR_step hr,hz,List.length_append];exact hG3⟩ (by dsimp only;omega) (hG:=Hle.tail _ _)
    ·show T _ _ _ _ (blk b6 [.string r.1, .string r.2] 28::blk b3 [.string s] 9::blk b2 [.slice (some ⟨b,o,none⟩) n c] 22::Y)
     repeat' (first|refine d1 ?_|refine dd ?_|(show ∀ _:Nat,T _ _ _ _ _;intro _))
     refine T_if rfl (fun _=>?_) (fun h3=>by exfalso;simp at h3)
     repeat' (first|refine d1 ?_|refine dd ?_|(show ∀ _:Nat,T _ _ _ _ _;intro _)|(show T _ (.code .ret::_) _ _ _;refine T_istop rfl Y hX (Hle.tail _ _)))
   ·rw [Bool.not_eq_true] at hp
    have hcp:∀ w,Spec Tryz.prog 99 [.string (s.extract i s.size), .string r.1] w (fun v R=>v = .tuple #[.string (s.extract i s.size), .bool false]∧R=[]):=fun w=>by
     have h9:=cutPrefix_spec (s.extract i s.size) r.1 w
     rw [hp,if_neg (by simp)] at h9
     exact h9
    have hz:atRu r s i=none:=by unfold atRu;rw [if_neg (by rw [hp];simp)]
    refine T_cutX 1 [] (fun _:Unit=>[(7, .string (s.extract i s.size)),(8, .bool false)]) (fun _=>blk b6 [.string r.1, .string r.2] 28::blk b3 [.string s] 9::blk b2 [.slice (some ⟨b,o,none⟩) n c] 22::H2) (fun _=>True) ?_ ?_
    ·refine rsH [blk b6 [.string r.1, .string r.2] 28,blk b3 [.string s] 9,blk b2 [.slice (some ⟨b,o,none⟩) n c] 22] 1000 [0,1,2,3,4,5,6,7,8,9,10] ?_
     repeat' (first|refine d1 ?_|refine dd ?_|(show T _ (.ops _ (_::_)::_) _ _ _;first|refine T_call rfl rfl rfl rfl rfl (fun w hw=>hcp w) ?_|refine T_callC rfl rfl rfl rfl rfl rfl rfl (fun hg w hw=>hcp w) ?_)|(show T _ (.run _ _ (_::_) _ _::_) _ _ _;first|refine rc rfl rfl rfl rfl rfl rfl rfl (fun w hw=>hcp w) ?_|refine rcG rfl rfl rfl rfl rfl rfl rfl rfl rfl (fun hg w hw=>hcp w) ?_)|(show ∀ _:Nat,T _ _ _ _ _;intro _)|(show T _ _ _ _ _;exact T_meetX () trivial))
    rintro - -
    refine rsH [blk b6 [.string r.1, .string r.2] 28,blk b3 [.string s] 9,blk b2 [.slice (some ⟨b,o,none⟩) n c] 22] 1000 [0,1,2,3,4,5,6,7,8,9,10,11,12,13] ?_
    repeat' (first|refine d1 ?_|refine dd ?_|(show ∀ _:Nat,T _ _ _ _ _;intro _))
    refine ro rfl rfl (OpT.never (.bool false) rfl (fun hg9=>by have h10:(false:Bool)=true:=hg9.1;cases h10) rfl rfl rfl rfl rfl ⟨fun _=>Hle.append_left (A:=[_,_,_]) H2,?_⟩)
    repeat' (first|refine d1 ?_|refine dd ?_|(show ∀ _:Nat,T _ _ _ _ _;intro _))
    refine T_if rfl (fun h3=>by exfalso;simp at h3) (fun _=>?_)
    repeat' (first|refine d1 ?_|(show ∀ _:Nat,T _ _ _ _ _;intro _))
    exact T_backX (k+1,H2) ⟨by dsimp only;omega,by dsimp only;rw [preR_step hr,hz];simpa using hG2⟩ (by dsimp only;omega) (hG:=Hle.tail _ _)
  ·simp only [decide_eq_false_iff_not] at h2
   obtain rfl:k=n:=by omega
   repeat' (first|refine d1 ?_|(show ∀ _:Nat,T _ _ _ _ _;intro _))
   exact T_backX (i+1,H2) ⟨by dsimp only;omega,by dsimp only;rw [← preR_row rs s i (by omega:rs.length≤k)];exact hG2⟩ (by dsimp only;omega)
 ·simp only [decide_eq_false_iff_not] at h
  obtain rfl:i=s.size:=by omega
  rw [preR_end] at hG1
  repeat' (first|refine d1 ?_|(show ∀ _:Nat,T _ _ _ _ _;intro _))
  exact T_ifall rfl H1 hG1 (Hle.refl _)
theorem stepW_spec (A:Option Addr) (n c:Nat) (rs:List RuB) (s:ByteArray) (w:World) (hs:RsR w A n rs) (hss:s.size≤1000) :
  Spec Tryz.prog 31 [.slice A n c, .string s] w (fun v R=>v = .tuple #[.string ((resB rs s).head?.getD s), .bool (!(resB rs s).isEmpty)]∧R=[]):=by
 refine spec_of sg Tryz.func31 rfl rfl rfl ?_
 repeat' (first|refine d1 ?_|(show ∀ _:Nat,T _ _ _ _ _;intro _))
 rename_i b4 b5
 refine T_op (OpT.call rfl rfl rfl rfl rfl (fun w hw=>results_spec A n c s w) ?_)
 rintro u R ⟨⟨y1,y2⟩,-,rfl,rfl⟩
 repeat' (first|refine d1 ?_|(show ∀ _:Nat,T _ _ _ _ _;intro _))
 refine T_rangeO (results_iter hs hss y1 y2) rfl (fun j x B hj hQ=>by obtain⟨z,_,rfl,rfl⟩:=hQ;exact⟨rfl,rfl⟩)
  (fun j H=>j=0∧H=[blk b5 [.bool false] 4,blk b4 [.string ByteArray.empty] 9]) (fun H=>∃ z,(resB rs s)[0]?=some z∧H=[blk b5 [.bool true] 4,blk b4 [.string z] 9]) (fun _ _=>False)
  [blk b5 [.bool false] 4,blk b4 [.string ByteArray.empty] 9] ⟨rfl,rfl⟩ (Hle.refl _) ?_ ?_ ?_ (fun _ _ _ h=>h.elim)
 ·rintro Lp r5 j x B Hj K2 hr5 hj hQ ⟨rfl,rfl⟩
  obtain⟨z,hz,rfl,rfl⟩:=hQ
  show T _ _ ((10, .string z)::_) _ (lrec Lp r5::blk b5 [.bool false] 4::blk b4 [.string ByteArray.empty] 9::K2)
  repeat' (first|refine d1 ?_|(show ∀ _:Nat,T _ _ _ _ _;intro _))
  refine T_begin hr5 rfl ?_
  repeat' (first|refine d1 ?_|(show ∀ _:Nat,T _ _ _ _ _;intro _))
  exact T_rret _ ⟨z,hz,rfl⟩ (Hle.refl _)
 ·rintro D Hn ⟨h0,rfl⟩
  have hnil:resB rs s=[]:=List.eq_nil_of_length_eq_zero h0
  show T _ _ _ _ (dfr D::blk y1 [.string s] 9::blk y2 [.slice A n c] 22::blk b5 [.bool false] 4::blk b4 [.string ByteArray.empty] 9::[])
  repeat' (first|refine d1 ?_|(show ∀ _:Nat,T _ _ _ _ _;intro _))
  exact T_retD (Hle.refl _) (rf_M (ds:=[]) (vs:=[.string s, .bool false]) [] ⟨⟨b4,_,[.string s],rfl,rfl,rfl,rfl,fun _=>rfl,rfl,rdOwn1 rfl⟩,⟨b5,_,[.bool false],rfl,rfl,rfl,rfl,fun _=>rfl,rfl,rdOwn1 rfl⟩,trivial⟩ (Hle.none _) ⟨by rw [hnil];rfl,rfl⟩)
 ·rintro D Hx ⟨z,hz,rfl⟩
  have hh:(resB rs s).head?.getD s=z∧(resB rs s).isEmpty=false:=by
   cases hr:resB rs s with
   | nil=>rw [hr] at hz;cases hz
   | cons x l=>rw [hr] at hz;cases hz;exact⟨rfl,rfl⟩
  show T _ _ _ _ (dfr D::blk y1 [.string s] 9::blk y2 [.slice A n c] 22::blk b5 [.bool true] 4::blk b4 [.string z] 9::[])
  exact T_retD (Hle.refl _) (rf_M (ds:=[]) (vs:=[.string z, .bool true]) [] ⟨⟨b4,_,[.string z],rfl,rfl,rfl,rfl,fun _=>rfl,rfl,rdOwn1 rfl⟩,⟨b5,_,[.bool true],rfl,rfl,rfl,rfl,fun _=>rfl,rfl,rdOwn1 rfl⟩,trivial⟩ (Hle.none _) ⟨by rw [hh.1,hh.2];rfl,rfl⟩)
theorem stepE_spec (A:Option Addr) (n c:Nat) (rs:List RuB) (s:ByteArray) (w:World) (hs:RsR w A n rs) (hss:s.size≤1000) :
  Spec Tryz.prog 11 [.slice A n c, .string s] w (fun v R=>(∃ (z:ByteArray) (b:Bool) (e:Int),v = .tuple #[.string z, .bool b, .int .i64 e]∧(rusOk rs∧s.size≤64∧normB s=true→e=0∧z=(resB rs s).head?.getD s))∧R=[]):=by
 refine spec_of sg Tryz.func11 rfl rfl rfl ?_
 repeat' (first|refine d1 ?_|(show ∀ _:Nat,T _ _ _ _ _;intro _))
 refine T_op (OpT.call rfl rfl rfl rfl rfl (fun w hw=>checkW_spec A n c rs s hss w (hs.cls hw)) ?_)
 rintro u R ⟨e,he,rfl,rfl⟩
 rw [List.nil_append]
 repeat' (first|refine d1 ?_|(show ∀ _:Nat,T _ _ _ _ _;intro _))
 refine T_if rfl (fun h1=>?_) (fun h1=>?_)
 ·have he0:e≠0:=by simpa using h1
  repeat' (first|refine d1 ?_|(show ∀ _:Nat,T _ _ _ _ _;intro _)|(show T _ (.code .ret::_) _ _ _;refine T_retV [] rfl (Hle.none _) ⟨⟨_,_,e,rfl,fun h=>absurd (he.2 h) he0⟩,rfl⟩))
 ·repeat' (first|refine d1 ?_|(show T _ (.ops _ (_::_)::_) _ _ _;first|refine T_call rfl rfl rfl rfl rfl (fun w hw=>stepW_spec A n c rs s w (hs.cls hw) hss) ?_|refine T_callC rfl rfl rfl rfl rfl rfl rfl (fun hg w hw=>stepW_spec A n c rs s w (hs.cls hw) hss) ?_)|(show T _ (.run _ _ (_::_) _ _::_) _ _ _;first|refine rc rfl rfl rfl rfl rfl rfl rfl (fun w hw=>stepW_spec A n c rs s w (hs.cls hw) hss) ?_|refine rcG rfl rfl rfl rfl rfl rfl rfl rfl rfl (fun hg w hw=>stepW_spec A n c rs s w (hs.cls hw) hss) ?_)|(show ∀ _:Nat,T _ _ _ _ _;intro _)|(show T _ (.code .ret::_) _ _ _;refine T_retV [] rfl (Hle.none _) ⟨⟨_,_,0,rfl,fun _=>⟨rfl,rfl⟩⟩,rfl⟩))
end Go.Proofs.YtbfcfpmholkmeaaGreatDoor
namespace Go.Proofs.YtbfcfpmholkmeaaGreatDoor
open Go.RowKit Go.Shelf Go.Proofs
set_option maxRecDepth 100000
set_option maxHeartbeats 2000000

theorem resB_head {rs:List RuB} (h:rusOk rs) {s:ByteArray} (hn:resB rs s≠[]):stpW (rusL rs) s.data.toList ((resB rs s).head?.getD s).data.toList:=by
 refine (resB_iff h).1 ?_
 cases e:resB rs s with
 | nil=>exact absurd e hn
 | cons x l=>exact .head _
theorem rch_size {rs:List RuB} (h:rusOk rs) {s t:ByteArray} (hr:rchW (rusL rs) s.data.toList t.data.toList):t.size≤s.size:=by
 have:=hr.len h.dwn
 rw [size_list,size_list] at this
 exact this
theorem row1e {ys:List Value} {v:Value} {k:Int} (hk:k=(ys.length:Nat)):∀ i u,[v][i]?=some u→(ys++[v])[0+k.toNat * 1+i]?=some u:=by
 intro i u hu
 cases i with
 | zero =>
  simp at hu;subst hu
  rw [show 0+k.toNat * 1+0=ys.length by omega,List.getElem?_append_right (Nat.le_refl _),Nat.sub_self];rfl
 | succ i=>simp at hu
def stpN (rs:RulW):Nat→List UInt8→List UInt8→Prop
 | 0,u,v=>u=v
 | n+1,u,v=>∃ x,stpN rs n u x∧stpW rs x v
def lngT (rs:List RuB) (s:ByteArray):Prop:=¬ nrmW (rusL rs) s.data.toList∧∃ z,stpN (rusL rs) 4096 s.data.toList z
theorem trace_spec (A:Option Addr) (n c:Nat) (rs:List RuB) (s:ByteArray) (w:World) (hs:RsR w A n rs) (hok:rusOk rs) (hss:s.size≤64) :
  Spec Tryz.prog 57 [.slice A n c, .string s] w (fun v R =>
   (∃ (x:Option Addr × Nat) (ys:List ByteArray) (z:ByteArray),(rchW (rusL rs) s.data.toList z.data.toList∧nrmW (rusL rs) z.data.toList∧ys.length+1≤4096)∧v = .tuple #[.slice x.1 (ys.length+1) x.2, .int .i64 0]∧R=[row 9 1 x.1 x.2 (ys.length+1) ((ys.map Value.string)++[.string z])]) ∨
   (lngT rs s∧v = .tuple #[.slice none 0 0, .int .i64 4]∧R=[])):=by
 refine spec_of sg Tryz.func57 rfl rfl rfl ?_
 repeat' (first|refine d1 ?_|(show ∀ _:Nat,T _ _ _ _ _;intro _))
 rename_i b10
 refine T_le (H':=[row 9 1 (some ⟨b10,0,none⟩) 1 1 ((([]:List ByteArray).map Value.string)++[.string s])]) (hle_map fun f hf=>blk_row rfl (by decide) f hf) ?_
 refine T_loopX (fun q:(List ByteArray × ByteArray) × (Option Addr × Nat)=>[(6, .slice q.2.1 (q.1.1.length+1) q.2.2)]) (fun q=>[row 9 1 q.2.1 q.2.2 (q.1.1.length+1) ((q.1.1.map Value.string)++[.string q.1.2])]) (fun q=>q.1.1.length+1≤4096∧rchW (rusL rs) s.data.toList q.1.2.data.toList∧stpN (rusL rs) q.1.1.length s.data.toList q.1.2.data.toList∧(q.1.1=[]→q.1.2=s)∧(q.1.1≠[]→¬ nrmW (rusL rs) s.data.toList)) (fun q=>4096 - q.1.1.length) (([],s),(some ⟨b10,0,none⟩,1)) ⟨(show 0+1≤4096 by decide), .refl _,rfl,fun _=>rfl,fun h=>absurd rfl h⟩ ?_
 rintro⟨⟨ys,z⟩,⟨A',c'⟩⟩ ⟨hl,hr,h3,h1,h2⟩
 dsimp only at hl hr h1 h2 h3 ⊢
 have hzs:=rch_size hok hr
 refine T_rowpos (A:=A') (by omega) fun g e=>?_
 subst e
 repeat' (first|refine d1 ?_|(show T _ (.ops _ (_::_)::_) _ _ _;first|refine T_val rfl (Val.load rfl (fun hg=>rdRow (A:=some ⟨g,0,none⟩) (vs:=[.string z]) (by omega) (row1e (by rw [List.length_map];omega)))) rfl rfl rfl ?_|refine T_valC rfl (Val.load rfl (fun hg=>rdRow (A:=some ⟨g,0,none⟩) (vs:=[.string z]) (by omega) (row1e (by rw [List.length_map];omega)))) rfl rfl rfl rfl rfl ?_|refine T_call rfl rfl rfl rfl rfl (fun w hw=>stepW_spec A n c rs z w (hs.cls hw) (by omega)) ?_|refine T_callC rfl rfl rfl rfl rfl rfl rfl (fun hg w hw=>stepW_spec A n c rs z w (hs.cls hw) (by omega)) ?_)|(show T _ (.run _ _ (_::_) _ _::_) _ _ _;first|refine rv rfl rfl rfl (Val.load rfl (fun hg=>rdRow (A:=some ⟨g,0,none⟩) (vs:=[.string z]) (by omega) (row1e (by rw [List.length_map];omega)))) rfl rfl rfl ?_|refine rg rfl rfl rfl (Val.load rfl (fun hg=>rdRow (A:=some ⟨g,0,none⟩) (vs:=[.string z]) (by omega) (row1e (by rw [List.length_map];omega)))) rfl rfl rfl rfl rfl ?_|refine rc rfl rfl rfl rfl rfl rfl rfl (fun w hw=>stepW_spec A n c rs z w (hs.cls hw) (by omega)) ?_|refine rcG rfl rfl rfl rfl rfl rfl rfl rfl rfl (fun hg w hw=>stepW_spec A n c rs z w (hs.cls hw) (by omega)) ?_)|(show ∀ _:Nat,T _ _ _ _ _;intro _))
 by_cases hn:resB rs z=[]
 ·rw [hn]
  refine T_if rfl (fun _=>?_) (fun h=>by exfalso;simp at h)
  repeat' (first|refine d1 ?_|(show ∀ _:Nat,T _ _ _ _ _;intro _))
  exact T_retV [row 9 1 (some ⟨g,0,none⟩) c' (ys.length+1) ((ys.map Value.string)++[.string z])] rfl (Hle.refl _) (.inl ⟨(some ⟨g,0,none⟩,c'),ys,z,⟨hr,(resB_nil hok).1 hn,hl⟩,rfl,rfl⟩)
 ·have hst:=resB_head hok hn
  have hns:¬ nrmW (rusL rs) s.data.toList:=by
   by_cases h0:ys=[]
   ·rw [← h1 h0];exact fun h9=>h9 _ hst
   ·exact h2 h0
  have hem:(resB rs z).isEmpty=false:=by
   cases e:resB rs z with
   | nil=>exact absurd e hn
   | cons x l=>rfl
  rw [hem]
  generalize (resB rs z).head?.getD z=z2 at hst
  refine T_if rfl (fun h=>by exfalso;simp at h) (fun _=>?_)
  repeat' (first|refine d1 ?_|(show ∀ _:Nat,T _ _ _ _ _;intro _))
  refine T_if rfl (fun h=>?_) (fun h=>?_)
  ·repeat' (first|refine d1 ?_|(show ∀ _:Nat,T _ _ _ _ _;intro _))
   have hl4:ys.length+1=4096:=by
    have h9:((ys.length+1:Nat):Int)=4096:=by simpa using h
    omega
   exact T_retV [] rfl (Hle.none _) (.inr ⟨⟨hns,z2.data.toList,by rw [← hl4];exact⟨_,h3,hst⟩⟩,rfl,rfl⟩)
  ·have hl2:¬ (((ys.length+1:Nat):Int)=4096):=by simpa using h
   repeat' (first|refine d1 ?_|(show T _ (.ops _ (_::_)::_) _ _ _;refine T_op (OpT.append (A:=some ⟨g,0,none⟩) rfl rfl rfl rfl rfl rfl rfl rfl rfl rfl (fun w hw=>Src.own hw rfl) rfl (by dsimp only;omega) (by omega) (fun A9 c9 hA9=>?_)))|(show ∀ _:Nat,T _ _ _ _ _;intro _))
   refine T_backX ((ys++[z],z2),(A9,c9)) ⟨?_,?_,?_,?_,fun _=>hns⟩ ?_ (hE:=⟨?_,trivial⟩) (hG:=?_)
   ·dsimp only;rw [List.length_append,List.length_singleton];omega
   ·dsimp only;exact hr.trans (.one hst)
   ·dsimp only;rw [List.length_append,List.length_singleton];exact⟨_,h3,hst⟩
   ·dsimp only;intro h9;simp at h9
   ·dsimp only;rw [List.length_append,List.length_singleton];omega
   ·dsimp only;rw [List.length_append,List.length_singleton];rfl
   ·dsimp only;rw [List.length_append,List.length_singleton,List.map_append];exact Hle.tail _ _
theorem traceE_spec (A:Option Addr) (n c:Nat) (rs:List RuB) (s:ByteArray) (w:World) (hs:RsR w A n rs) (hok:rusOk rs) (hss:s.size≤64) (hnb:normB s=true) :
  Spec Tryz.prog 29 [.slice A n c, .string s] w (fun v R =>
   (∃ (x:Option Addr × Nat) (ys:List ByteArray) (z:ByteArray),(rchW (rusL rs) s.data.toList z.data.toList∧nrmW (rusL rs) z.data.toList∧ys.length+1≤4096)∧v = .tuple #[.slice x.1 (ys.length+1) x.2, .int .i64 0]∧R=[row 9 1 x.1 x.2 (ys.length+1) ((ys.map Value.string)++[.string z])]) ∨
   (lngT rs s∧v = .tuple #[.slice none 0 0, .int .i64 4]∧R=[])):=by
 refine spec_of sg Tryz.func29 rfl rfl rfl ?_
 repeat' (first|refine d1 ?_|(show ∀ _:Nat,T _ _ _ _ _;intro _))
 refine T_op (OpT.call rfl rfl rfl rfl rfl (fun w hw=>checkW_spec A n c rs s (by omega) w (hs.cls hw)) ?_)
 rintro u R ⟨e,he,rfl,rfl⟩
 rw [List.nil_append]
 obtain rfl:=he.2 ⟨hok,hss,hnb⟩
 repeat' (first|refine d1 ?_|(show ∀ _:Nat,T _ _ _ _ _;intro _))
 refine T_if rfl (fun h=>by exfalso;simp at h) (fun _=>?_)
 repeat' (first|refine d1 ?_|(show ∀ _:Nat,T _ _ _ _ _;intro _))
 refine T_op (OpT.call rfl rfl rfl rfl rfl (fun w hw=>trace_spec A n c rs s w (hs.cls hw) hok hss) ?_)
 rintro u R (⟨⟨A',c'⟩,ys,z,hz,rfl,rfl⟩|⟨hns,rfl,rfl⟩)
 ·dsimp only
  repeat' (first|refine d1 ?_|(show ∀ _:Nat,T _ _ _ _ _;intro _))
  exact T_retV [row 9 1 A' c' (ys.length+1) ((ys.map Value.string)++[.string z])] rfl (Hle.refl _) (.inl ⟨(A',c'),ys,z,hz,rfl,rfl⟩)
 ·repeat' (first|refine d1 ?_|(show ∀ _:Nat,T _ _ _ _ _;intro _))
  exact T_retV [] rfl (Hle.none _) (.inr ⟨hns,rfl,rfl⟩)
theorem normalizeW_spec (A:Option Addr) (n c:Nat) (rs:List RuB) (s:ByteArray) (w:World) (hs:RsR w A n rs) (hok:rusOk rs) (hss:s.size≤64) (hnb:normB s=true) :
  Spec Tryz.prog 10 [.slice A n c, .string s] w (fun v R=>∃ (z:ByteArray) (e:Int),((e=0∨e=4)∧(e=0→rchW (rusL rs) s.data.toList z.data.toList∧nrmW (rusL rs) z.data.toList)∧(¬ lngT rs s→e=0))∧v = .tuple #[.string z, .int .i64 e]∧R=[]):=by
 refine spec_of sg Tryz.func10 rfl rfl rfl ?_
 repeat' (first|refine d1 ?_|(show ∀ _:Nat,T _ _ _ _ _;intro _))
 refine T_op (OpT.call rfl rfl rfl rfl rfl (fun w hw=>traceE_spec A n c rs s w (hs.cls hw) hok hss hnb) ?_)
 rintro u R (⟨⟨A',c'⟩,ys,z,⟨hz1,hz2,hz3⟩,rfl,rfl⟩|⟨hns,rfl,rfl⟩)
 ·dsimp only
  rw [List.cons_append,List.nil_append]
  refine T_rowpos (A:=A') (by omega) fun g e=>?_
  subst e
  repeat' (first|refine d1 ?_|(show ∀ _:Nat,T _ _ _ _ _;intro _))
  refine T_if rfl (fun h=>by exfalso;simp at h) (fun _=>?_)
  repeat' (first|refine d1 ?_|(show T _ (.ops _ (_::_)::_) _ _ _;first|refine T_val rfl (Val.load rfl (fun hg=>rdRow (A:=some ⟨g,0,none⟩) (vs:=[.string z]) (by omega) (row1e (by rw [List.length_map];omega)))) rfl rfl rfl ?_|refine T_valC rfl (Val.load rfl (fun hg=>rdRow (A:=some ⟨g,0,none⟩) (vs:=[.string z]) (by omega) (row1e (by rw [List.length_map];omega)))) rfl rfl rfl rfl rfl ?_)|(show T _ (.run _ _ (_::_) _ _::_) _ _ _;first|refine rv rfl rfl rfl (Val.load rfl (fun hg=>rdRow (A:=some ⟨g,0,none⟩) (vs:=[.string z]) (by omega) (row1e (by rw [List.length_map];omega)))) rfl rfl rfl ?_|refine rg rfl rfl rfl (Val.load rfl (fun hg=>rdRow (A:=some ⟨g,0,none⟩) (vs:=[.string z]) (by omega) (row1e (by rw [List.length_map];omega)))) rfl rfl rfl rfl rfl ?_)|(show ∀ _:Nat,T _ _ _ _ _;intro _)|(show T _ (.code .ret::_) _ _ _;refine T_retV [] rfl (Hle.none _) ⟨z,0,⟨.inl rfl,fun _=>⟨hz1,hz2⟩,fun _=>rfl⟩,rfl,rfl⟩))
 ·repeat' (first|refine d1 ?_|(show ∀ _:Nat,T _ _ _ _ _;intro _))
  refine T_if rfl (fun _=>?_) (fun h=>by exfalso;simp at h)
  repeat' (first|refine d1 ?_|(show ∀ _:Nat,T _ _ _ _ _;intro _)|(show T _ (.code .ret::_) _ _ _;refine T_retV [] rfl (Hle.none _) ⟨_,4,⟨.inr rfl,fun h=>by omega,fun h=>absurd hns h⟩,rfl,rfl⟩))
end Go.Proofs.YtbfcfpmholkmeaaGreatDoor
namespace Go.Proofs.YtbfcfpmholkmeaaGreatDoor
open Go.RowKit Go.Shelf Go.Proofs
set_option maxRecDepth 100000
set_option maxHeartbeats 4000000

def FormS (w:World):Prop:=RdC w 0 4 [.string ByteArray.empty, .bool true, .bool false, .bool false]
theorem FormS.below {w w':World} (h:FormS w) (hb:Below w.heap.size w w'):FormS w':=RdC.below h hb
theorem FormS.cls {w w':World} {H:List HA} (h:FormS w) (hw:Cls w w' H):FormS w':=RdC.below h hw.below
def evCvQ (env:Env) (ec:EnvC) (G:GId) (o:Oper):Option (TypeId × TypeId × Nat × Nat) :=
 match o.op with
 | .convert s d x=>match evX env ec G x with
  | some (.pointer (some ⟨b,k,none⟩))=>some (s,d,b,k)
  | _=>none
 | _=>none
section
variable {C:Cx} {all:Array Oper} {o:Oper} {env:Env} {ec:EnvC} {H Hs:List HA} {G:GId} {d:Nat} {Φ:Env→EnvC→List HA→Prop}
theorem evCvQ_spec {N:FK} {a:Act} (ha:Agrees N all env ec a) (hG:Holds all a G) {s d':TypeId} {b k:Nat} (h:evCvQ env ec G o=some (s,d',b,k)):∃ x,o.op = .convert s d' x∧a.eval x = .pointer (some ⟨b,k,none⟩):=by
 unfold evCvQ at h
 split at h
 ·rename_i s' d'' x ho
  split at h
  ·rename_i b' k' hx
   cases h
   exact⟨x,ho,evX_spec ha hG hx⟩
  ·cases h
 ·cases h
theorem Val.toUnsafeQ {s d' t e:TypeId} {j:TypeInfo} {b k:Nat} {cs:List Value} {rb:HA→List HA} (hv:evCvQ env ec G o=some (s,d',b,k)) [hf:Focus Hs b cs e rb] (hs:C.S.P.underlying s=some (.pointer t)) (hd:C.S.P.underlying d'=some .unsafePointer)
  (ht:C.S.P.info? t=some j) (hj:j.size≠0) (hl:k<cs.length):Val C all o env ec Hs G (.pointer (some ⟨b,k,none⟩)):=by
 intro a w ha hw hH
 obtain⟨i,hi,_⟩:=hf.at_
 have hb:=(hw.heap hi).1
 have hsh:w.shape? b=some (e,cs.length):=by simp [World.shape?,hb]
 obtain⟨x,ho,hx⟩:=evCvQ_spec ha hH hv
 have hr:=Lib.run_to_unsafe (P:=C.S.P) w ⟨b,k,none⟩ hs hd ht hj hsh hl
 unfold execOp
 rw [ho]
 simp only [hx]
 simp [hr]
theorem Val.fromUnsafeQ {s d' u e:TypeId} {j:TypeInfo} {b k:Nat} {cs:List Value} {rb:HA→List HA} (hv:evCvQ env ec G o=some (s,d',b,k)) [hf:Focus Hs b cs e rb] (hs:C.S.P.underlying s=some .unsafePointer) (hd:C.S.P.underlying d'=some (.pointer u))
  (hu:C.S.P.info? u=some j) (hlies:liesAt C.S.P C.S.P.depth e (cs.length / C.S.P.cellsOf e) k u 1=true):Val C all o env ec Hs G (.pointer (some ⟨b,k,none⟩)):=by
 intro a w ha hw hH
 obtain⟨i,hi,_⟩:=hf.at_
 have hb:=(hw.heap hi).1
 have hsh:w.shape? b=some (e,cs.length):=by simp [World.shape?,hb]
 obtain⟨x,ho,hx⟩:=evCvQ_spec ha hH hv
 have hr:=Lib.run_from_unsafe (P:=C.S.P) w ⟨b,k,none⟩ hs hd hu hsh hlies
 unfold execOp
 rw [ho]
 simp only [hx]
 simp [hr]
def evPQ (env:Env) (ec:EnvC) (G:GId) (o:Oper):Option (TypeId × Addr × Addr) :=
 match o.op with
 | .binOp .neq t x y _=>match evX env ec G x,evX env ec G y with
  | some (.pointer (some a)),some (.pointer (some b))=>some (t,a,b)
  | _,_=>none
 | _=>none
theorem Val.ptrSameQ {t te:TypeId} {j:TypeInfo} {p q:Addr} (hv:evPQ env ec G o=some (t,p,q)) (hpq:p=q) (hp:C.S.P.underlying t=some (.pointer te)) (hte:C.S.P.info? te=some j):Val C all o env ec Hs G (.bool false):=by
 subst hpq
 intro a w ha hw hH
 obtain⟨dst,op,ty,pos,aft,gd⟩:=o
 unfold evPQ at hv
 dsimp only at hv
 split at hv
 ·rename_i t' x y t2
  split at hv
  ·rename_i b' c' hx hy
   cases hv
   have hr:=Lib.run_neq_ptr_same (P:=C.S.P) w p hp hte
   simp only [execOp,evX_spec ha hH hx,evX_spec ha hH hy]
   simp [eqGuard,hr]
  ·cases hv
 ·cases hv
end
theorem info_bldM:∃ j,Tryz.prog.info? 90=some j∧j.size=2:=by
 obtain⟨x,hx,h1,_⟩:=(Sig.tyOk (S:=sg) (t:=90) rfl).info'
 exact⟨x,hx,h1⟩
theorem noEscapeM_run (x:Value) (w:World):(callFunc 190 #[x]).run Tryz.prog w = .ok (.value x) w:=by
 rw [run_callFunc_extern Tryz.func190 (by kernel_rfl) (by kernel_rfl) (by kernel_rfl) (e:=Extern.AbiNoEscape.same) (by kernel_rfl),Lib.run_noEscape]
 rfl
theorem hle_snd (a b:HA) (K:List HA):Hle (a::b::K) (a::K):=(Hle.perm (List.Perm.swap _ _ _)).trans (Hle.tail _ _)
theorem T_rowcapM {C:Cx} {k:List It} {env:Env} {ec:EnvC} {H:List HA} {A:Option Addr} {e sz cap n:Nat} {xs:List Value} {rb:HA→List HA} [hf:FocusR H A e sz cap n xs rb] (h:n≤cap→T C k env ec H):T C k env ec H:=by
 refine T.mk fun a w ha hw=>?_
 obtain⟨i,hi,_⟩:=hf.at_
 obtain⟨F,h1,h2,h3⟩:=hw.sep
 obtain⟨_,hr⟩:=h1 i _ hi
 refine h ?_ a w ha hw
 rcases hr with⟨_,rfl,rfl,_⟩|⟨g,cur,_,_,h5,_⟩
 ·exact Nat.le_refl _
 ·exact h5
abbrev bldM (pb:Nat) (q A:Option Addr) (c:Nat) (bs:List UInt8) (K:List HA):List HA:=blk pb [.pointer q, .slice A bs.length c] 90::row 5 1 A c bs.length (u8s bs)::K
theorem lies_bldM:liesAt Tryz.prog Tryz.prog.depth 90 (2 / Tryz.prog.cellsOf 90) 0 90 1=true:=by kernel_rfl
theorem copyCheckM_spec (w0:World) (pb:Nat) (q:Option Addr) (hq:q=none∨q=some ⟨pb,0,none⟩) (A:Option Addr) (n c:Nat) (K:List HA) :
  SpecB Tryz.prog 154 [.pointer (some ⟨pb,0,none⟩)] w0 (blk pb [.pointer q, .slice A n c] 90::K) (fun u R=>u = .tuple #[]∧R=blk pb [.pointer (some ⟨pb,0,none⟩), .slice A n c] 90::K):=by
 obtain⟨j,hj,hj2⟩:=info_bldM
 refine specB_of sg Tryz.func154 rfl rfl rfl ?_
 rcases hq with rfl|rfl
 ·repeat' (first|refine d1 ?_|refine dd ?_|(show T _ (.ops _ (_::_)::_) _ _ _;first|refine T_val rfl (Val.nilc rfl) rfl rfl rfl ?_|refine T_valC rfl (Val.nilc rfl) rfl rfl rfl rfl rfl ?_|refine T_val rfl (Val.nilS rfl) rfl rfl rfl ?_|refine T_valC rfl (Val.nilS rfl) rfl rfl rfl rfl rfl ?_)|(show T _ (.run _ _ (_::_) _ _::_) _ _ _;first|refine rv rfl rfl rfl (Val.nilc rfl) rfl rfl rfl ?_|refine rg rfl rfl rfl (Val.nilc rfl) rfl rfl rfl rfl rfl ?_|refine rv rfl rfl rfl (Val.nilS rfl) rfl rfl rfl ?_|refine rg rfl rfl rfl (Val.nilS rfl) rfl rfl rfl rfl rfl ?_)|(show ∀ _:Nat,T _ _ _ _ _;intro _))
  refine T_if rfl (fun h=>?_) (fun h=>by cases h)
  repeat' (first|refine d1 ?_|refine dd ?_|(show T _ (.ops _ (_::_)::_) _ _ _;first|refine T_val rfl (Val.nilc rfl) rfl rfl rfl ?_|refine T_valC rfl (Val.nilc rfl) rfl rfl rfl rfl rfl ?_|refine T_val rfl (Val.toUnsafeQ rfl Tryz.underlying87 Tryz.underlying257 hj (by omega) (by simp)) rfl rfl rfl ?_|refine T_valC rfl (Val.toUnsafeQ rfl Tryz.underlying87 Tryz.underlying257 hj (by omega) (by simp)) rfl rfl rfl rfl rfl ?_|refine T_val rfl (Val.fromUnsafeQ rfl Tryz.underlying257 Tryz.underlying87 hj (by exact lies_bldM)) rfl rfl rfl ?_|refine T_valC rfl (Val.fromUnsafeQ rfl Tryz.underlying257 Tryz.underlying87 hj (by exact lies_bldM)) rfl rfl rfl rfl rfl ?_|refine T_op (OpT.callX (v := .pointer (some ⟨pb,0,none⟩)) rfl rfl rfl rfl rfl (fun w hw=>noEscapeM_run _ w) ?_))|(show T _ (.run _ _ (_::_) _ _::_) _ _ _;first|refine rv rfl rfl rfl (Val.nilc rfl) rfl rfl rfl ?_|refine rg rfl rfl rfl (Val.nilc rfl) rfl rfl rfl rfl rfl ?_|refine rv rfl rfl rfl (Val.toUnsafeQ rfl Tryz.underlying87 Tryz.underlying257 hj (by omega) (by simp)) rfl rfl rfl ?_|refine rg rfl rfl rfl (Val.toUnsafeQ rfl Tryz.underlying87 Tryz.underlying257 hj (by omega) (by simp)) rfl rfl rfl rfl rfl ?_|refine rv rfl rfl rfl (Val.fromUnsafeQ rfl Tryz.underlying257 Tryz.underlying87 hj (by exact lies_bldM)) rfl rfl rfl ?_|refine rg rfl rfl rfl (Val.fromUnsafeQ rfl Tryz.underlying257 Tryz.underlying87 hj (by exact lies_bldM)) rfl rfl rfl rfl rfl ?_)|(show ∀ _:Nat,T _ _ _ _ _;intro _))
  exact T_fallV _ rfl (Hle.refl _) ⟨rfl,rfl⟩
 ·repeat' (first|refine d1 ?_|refine dd ?_|(show T _ (.ops _ (_::_)::_) _ _ _;first|refine T_val rfl (Val.nilc rfl) rfl rfl rfl ?_|refine T_valC rfl (Val.nilc rfl) rfl rfl rfl rfl rfl ?_|refine T_val rfl (Val.nilS rfl) rfl rfl rfl ?_|refine T_valC rfl (Val.nilS rfl) rfl rfl rfl rfl rfl ?_)|(show T _ (.run _ _ (_::_) _ _::_) _ _ _;first|refine rv rfl rfl rfl (Val.nilc rfl) rfl rfl rfl ?_|refine rg rfl rfl rfl (Val.nilc rfl) rfl rfl rfl rfl rfl ?_|refine rv rfl rfl rfl (Val.nilS rfl) rfl rfl rfl ?_|refine rg rfl rfl rfl (Val.nilS rfl) rfl rfl rfl rfl rfl ?_)|(show ∀ _:Nat,T _ _ _ _ _;intro _))
  refine T_if rfl (fun h=>by cases h) (fun h=>?_)
  repeat' (first|refine d1 ?_|refine dd ?_|(show T _ (.ops _ (_::_)::_) _ _ _;first|refine T_val rfl (Val.nilc rfl) rfl rfl rfl ?_|refine T_valC rfl (Val.nilc rfl) rfl rfl rfl rfl rfl ?_|refine T_val rfl (Val.ptrSameQ rfl rfl Tryz.underlying87 hj) rfl rfl rfl ?_|refine T_valC rfl (Val.ptrSameQ rfl rfl Tryz.underlying87 hj) rfl rfl rfl rfl rfl ?_)|(show T _ (.run _ _ (_::_) _ _::_) _ _ _;first|refine rv rfl rfl rfl (Val.nilc rfl) rfl rfl rfl ?_|refine rg rfl rfl rfl (Val.nilc rfl) rfl rfl rfl rfl rfl ?_|refine rv rfl rfl rfl (Val.ptrSameQ rfl rfl Tryz.underlying87 hj) rfl rfl rfl ?_|refine rg rfl rfl rfl (Val.ptrSameQ rfl rfl Tryz.underlying87 hj) rfl rfl rfl rfl rfl ?_)|(show ∀ _:Nat,T _ _ _ _ _;intro _))
  refine T_if rfl (fun h=>by cases h) (fun h=>?_)
  repeat' (first|refine d1 ?_|refine dd ?_|(show ∀ _:Nat,T _ _ _ _ _;intro _))
  exact T_fallV _ rfl (Hle.refl _) ⟨rfl,rfl⟩
theorem writeStringM_spec (w0:World) (pb:Nat) (q:Option Addr) (hq:q=none∨q=some ⟨pb,0,none⟩) (A:Option Addr) (c:Nat) (bs:List UInt8) (s:ByteArray) (hb:bs.length+s.size≤1000000) (K:List HA) :
  SpecB Tryz.prog 116 [.pointer (some ⟨pb,0,none⟩), .string s] w0 (bldM pb q A c bs K) (fun u R=>∃ x:Option Addr × Nat,u = .tuple #[.int .i64 (s.size:Nat), .nilIface]∧R=bldM pb (some ⟨pb,0,none⟩) x.1 x.2 (bs++s.data.toList) K):=by
 refine specB_of sg Tryz.func116 rfl rfl rfl ?_
 repeat' (first|refine d1 ?_|refine dd ?_|(show T _ (.ops _ (_::_)::_) _ _ _;refine T_op (OpT.callB rfl rfl rfl rfl rfl (copyCheckM_spec _ pb q hq A bs.length c _) (fun u R hR=>?_)))|(show ∀ _:Nat,T _ _ _ _ _;intro _))
 obtain⟨rfl,rfl⟩:=hR
 have e:(bs++s.data.toList).length=bs.length+s.size:=by rw [List.length_append];simp
 repeat' (first|refine d1 ?_|refine dd ?_|(show T _ (.ops _ (_::_)::_) _ _ _;first|refine T_val rfl (Val.nilc rfl) rfl rfl rfl ?_|refine T_valC rfl (Val.nilc rfl) rfl rfl rfl rfl rfl ?_|refine T_op (OpT.appendS rfl rfl rfl rfl rfl rfl rfl rfl rfl rfl (by omega) (fun A' cap' hA'=>?_)))|(show T _ (.run _ _ (_::_) _ _::_) _ _ _;first|refine rv rfl rfl rfl (Val.nilc rfl) rfl rfl rfl ?_|refine rg rfl rfl rfl (Val.nilc rfl) rfl rfl rfl rfl rfl ?_)|(show ∀ _:Nat,T _ _ _ _ _;intro _))
 exact T_retV (bldM pb (some ⟨pb,0,none⟩) A' cap' (bs++s.data.toList) K) rfl (by unfold bldM;rw [e,u8s_app];exact Hle.refl _) ⟨(A',cap'),rfl,rfl⟩
theorem stringM_spec (w0:World) (pb:Nat) (q A:Option Addr) (c:Nat) (bs:List UInt8) (h0:bs≠[]) (K:List HA) :
  SpecB Tryz.prog 80 [.pointer (some ⟨pb,0,none⟩)] w0 (bldM pb q A c bs K) (fun u R=>u = .string ⟨bs.toArray⟩∧R=blk pb [.pointer q, .slice A bs.length c] 90::K):=by
 refine specB_of sg Tryz.func80 rfl rfl rfl ?_
 have hl:0<bs.length:=List.length_pos_iff.2 h0
 refine T_rowcapM (e:=5) (sz:=1) (A:=A) (cap:=c) (n:=bs.length) (xs:=u8s bs) fun hc=>?_
 refine T_rowpos (e:=5) (sz:=1) (A:=A) (cap:=c) (n:=bs.length) (xs:=u8s bs) hl fun g hA=>?_
 subst hA
 repeat' (first|refine d1 ?_|(show ∀ _:Nat,T _ _ _ _ _;intro _))
 refine rsH (blk pb [.pointer q, .slice (some ⟨g,0,none⟩) bs.length c] 90::K) 1000 [0,1,2,3,5,6,7,8,9,4,10,11] ?_
 repeat' (first|refine d1 ?_|refine dd ?_|(show T _ (.ops _ (_::_)::_) _ _ _;first|refine T_val rfl (Val.nilc rfl) rfl rfl rfl ?_|refine T_valC rfl (Val.nilc rfl) rfl rfl rfl rfl rfl ?_)|(show T _ (.run _ _ (_::_) _ _::_) _ _ _;first|refine rv rfl rfl rfl (Val.nilc rfl) rfl rfl rfl ?_|refine rg rfl rfl rfl (Val.nilc rfl) rfl rfl rfl rfl rfl ?_|refine ro rfl rfl (OpT.ofVal rfl (Val.sliceData rfl (by omega)) rfl rfl rfl ⟨fun _=>hle_snd _ _ _,?_⟩)|refine ro rfl rfl (OpT.unsafeStr rfl rfl rfl rfl rfl (by kernel_rfl) h0 ⟨fun _=>hle_snd _ _ _,?_⟩))|(show ∀ _:Nat,T _ _ _ _ _;intro _)|(show T _ (.code .ret::_) _ _ _;refine T_retV _ rfl (hle_snd _ _ _) ⟨rfl,rfl⟩))
abbrev bldE (pb:Nat) (t0 x2 x3 x4:Value) (q A:Option Addr) (c:Nat) (bs:List UInt8) (K:List HA):List HA:=blk pb [t0, .pointer q, .slice A bs.length c,x2,x3,x4] 92::row 5 1 A c bs.length (u8s bs)::K
theorem lies_bldE:liesAt Tryz.prog Tryz.prog.depth 92 (6 / Tryz.prog.cellsOf 92) 1 90 1=true:=by kernel_rfl
theorem copyCheckE_spec (w0:World) (pb:Nat) (t0 x2 x3 x4:Value) (q:Option Addr) (hq:q=none∨q=some ⟨pb,1,none⟩) (A:Option Addr) (n c:Nat) (K:List HA) :
  SpecB Tryz.prog 154 [.pointer (some ⟨pb,1,none⟩)] w0 (blk pb [t0, .pointer q, .slice A n c,x2,x3,x4] 92::K) (fun u R=>u = .tuple #[]∧R=blk pb [t0, .pointer (some ⟨pb,1,none⟩), .slice A n c,x2,x3,x4] 92::K):=by
 obtain⟨j,hj,hj2⟩:=info_bldM
 refine specB_of sg Tryz.func154 rfl rfl rfl ?_
 rcases hq with rfl|rfl
 ·repeat' (first|refine d1 ?_|refine dd ?_|(show T _ (.ops _ (_::_)::_) _ _ _;first|refine T_val rfl (Val.nilc rfl) rfl rfl rfl ?_|refine T_valC rfl (Val.nilc rfl) rfl rfl rfl rfl rfl ?_|refine T_val rfl (Val.nilS rfl) rfl rfl rfl ?_|refine T_valC rfl (Val.nilS rfl) rfl rfl rfl rfl rfl ?_)|(show T _ (.run _ _ (_::_) _ _::_) _ _ _;first|refine rv rfl rfl rfl (Val.nilc rfl) rfl rfl rfl ?_|refine rg rfl rfl rfl (Val.nilc rfl) rfl rfl rfl rfl rfl ?_|refine rv rfl rfl rfl (Val.nilS rfl) rfl rfl rfl ?_|refine rg rfl rfl rfl (Val.nilS rfl) rfl rfl rfl rfl rfl ?_)|(show ∀ _:Nat,T _ _ _ _ _;intro _))
  refine T_if rfl (fun h=>?_) (fun h=>by cases h)
  repeat' (first|refine d1 ?_|refine dd ?_|(show T _ (.ops _ (_::_)::_) _ _ _;first|refine T_val rfl (Val.nilc rfl) rfl rfl rfl ?_|refine T_valC rfl (Val.nilc rfl) rfl rfl rfl rfl rfl ?_|refine T_val rfl (Val.toUnsafeQ rfl Tryz.underlying87 Tryz.underlying257 hj (by omega) (by simp)) rfl rfl rfl ?_|refine T_valC rfl (Val.toUnsafeQ rfl Tryz.underlying87 Tryz.underlying257 hj (by omega) (by simp)) rfl rfl rfl rfl rfl ?_|refine T_val rfl (Val.fromUnsafeQ rfl Tryz.underlying257 Tryz.underlying87 hj (by exact lies_bldE)) rfl rfl rfl ?_|refine T_valC rfl (Val.fromUnsafeQ rfl Tryz.underlying257 Tryz.underlying87 hj (by exact lies_bldE)) rfl rfl rfl rfl rfl ?_|refine T_op (OpT.callX (v := .pointer (some ⟨pb,1,none⟩)) rfl rfl rfl rfl rfl (fun w hw=>noEscapeM_run _ w) ?_))|(show T _ (.run _ _ (_::_) _ _::_) _ _ _;first|refine rv rfl rfl rfl (Val.nilc rfl) rfl rfl rfl ?_|refine rg rfl rfl rfl (Val.nilc rfl) rfl rfl rfl rfl rfl ?_|refine rv rfl rfl rfl (Val.toUnsafeQ rfl Tryz.underlying87 Tryz.underlying257 hj (by omega) (by simp)) rfl rfl rfl ?_|refine rg rfl rfl rfl (Val.toUnsafeQ rfl Tryz.underlying87 Tryz.underlying257 hj (by omega) (by simp)) rfl rfl rfl rfl rfl ?_|refine rv rfl rfl rfl (Val.fromUnsafeQ rfl Tryz.underlying257 Tryz.underlying87 hj (by exact lies_bldE)) rfl rfl rfl ?_|refine rg rfl rfl rfl (Val.fromUnsafeQ rfl Tryz.underlying257 Tryz.underlying87 hj (by exact lies_bldE)) rfl rfl rfl rfl rfl ?_)|(show ∀ _:Nat,T _ _ _ _ _;intro _))
  exact T_fallV _ rfl (Hle.refl _) ⟨rfl,rfl⟩
 ·repeat' (first|refine d1 ?_|refine dd ?_|(show T _ (.ops _ (_::_)::_) _ _ _;first|refine T_val rfl (Val.nilc rfl) rfl rfl rfl ?_|refine T_valC rfl (Val.nilc rfl) rfl rfl rfl rfl rfl ?_|refine T_val rfl (Val.nilS rfl) rfl rfl rfl ?_|refine T_valC rfl (Val.nilS rfl) rfl rfl rfl rfl rfl ?_)|(show T _ (.run _ _ (_::_) _ _::_) _ _ _;first|refine rv rfl rfl rfl (Val.nilc rfl) rfl rfl rfl ?_|refine rg rfl rfl rfl (Val.nilc rfl) rfl rfl rfl rfl rfl ?_|refine rv rfl rfl rfl (Val.nilS rfl) rfl rfl rfl ?_|refine rg rfl rfl rfl (Val.nilS rfl) rfl rfl rfl rfl rfl ?_)|(show ∀ _:Nat,T _ _ _ _ _;intro _))
  refine T_if rfl (fun h=>by cases h) (fun h=>?_)
  repeat' (first|refine d1 ?_|refine dd ?_|(show T _ (.ops _ (_::_)::_) _ _ _;first|refine T_val rfl (Val.nilc rfl) rfl rfl rfl ?_|refine T_valC rfl (Val.nilc rfl) rfl rfl rfl rfl rfl ?_|refine T_val rfl (Val.ptrSameQ rfl rfl Tryz.underlying87 hj) rfl rfl rfl ?_|refine T_valC rfl (Val.ptrSameQ rfl rfl Tryz.underlying87 hj) rfl rfl rfl rfl rfl ?_)|(show T _ (.run _ _ (_::_) _ _::_) _ _ _;first|refine rv rfl rfl rfl (Val.nilc rfl) rfl rfl rfl ?_|refine rg rfl rfl rfl (Val.nilc rfl) rfl rfl rfl rfl rfl ?_|refine rv rfl rfl rfl (Val.ptrSameQ rfl rfl Tryz.underlying87 hj) rfl rfl rfl ?_|refine rg rfl rfl rfl (Val.ptrSameQ rfl rfl Tryz.underlying87 hj) rfl rfl rfl rfl rfl ?_)|(show ∀ _:Nat,T _ _ _ _ _;intro _))
  refine T_if rfl (fun h=>by cases h) (fun h=>?_)
  repeat' (first|refine d1 ?_|refine dd ?_|(show ∀ _:Nat,T _ _ _ _ _;intro _))
  exact T_fallV _ rfl (Hle.refl _) ⟨rfl,rfl⟩
theorem writeByteE_spec (w0:World) (pb:Nat) (t0 x2 x3 x4:Value) (q:Option Addr) (hq:q=none∨q=some ⟨pb,1,none⟩) (A:Option Addr) (c:Nat) (bs:List UInt8) (b:UInt8) (hb:bs.length+1≤1000000) (K:List HA) :
  SpecB Tryz.prog 118 [.pointer (some ⟨pb,1,none⟩), .int .u8 ((b.toNat:Nat):Int)] w0 (bldE pb t0 x2 x3 x4 q A c bs K) (fun u R=>∃ x:Option Addr × Nat,u = .nilIface∧R=bldE pb t0 x2 x3 x4 (some ⟨pb,1,none⟩) x.1 x.2 (bs++[b]) K):=by
 refine specB_of sg Tryz.func118 rfl rfl rfl ?_
 repeat' (first|refine d1 ?_|refine dd ?_|(show T _ (.ops _ (_::_)::_) _ _ _;refine T_op (OpT.callB rfl rfl rfl rfl rfl (copyCheckE_spec _ pb t0 x2 x3 x4 q hq A bs.length c _) (fun u R hR=>?_)))|(show ∀ _:Nat,T _ _ _ _ _;intro _))
 obtain⟨rfl,rfl⟩:=hR
 have e:(bs++[b]).length=bs.length+1:=by rw [List.length_append];rfl
 repeat' (first|refine d1 ?_|refine dd ?_|(show T _ (.ops _ (_::_)::_) _ _ _;first|refine T_val rfl (Val.nilc rfl) rfl rfl rfl ?_|refine T_valC rfl (Val.nilc rfl) rfl rfl rfl rfl rfl ?_|refine T_op (OpT.append (A:=A) rfl rfl rfl rfl rfl rfl rfl rfl rfl rfl (fun w hw=>Src.own hw rfl) rfl (by dsimp only;omega) (by omega) (fun A' cap' hA'=>?_)))|(show T _ (.run _ _ (_::_) _ _::_) _ _ _;first|refine rv rfl rfl rfl (Val.nilc rfl) rfl rfl rfl ?_|refine rg rfl rfl rfl (Val.nilc rfl) rfl rfl rfl rfl rfl ?_)|(show ∀ _:Nat,T _ _ _ _ _;intro _))
 exact T_retV (bldE pb t0 x2 x3 x4 (some ⟨pb,1,none⟩) A' cap' (bs++[b]) K) rfl (by unfold bldE;rw [e,u8s_app];exact Hle.tail _ _) ⟨(A',cap'),rfl,rfl⟩
theorem stringE_spec (w0:World) (pb:Nat) (t0 x2 x3 x4:Value) (q A:Option Addr) (c:Nat) (bs:List UInt8) (h0:bs≠[]) (K:List HA) :
  SpecB Tryz.prog 80 [.pointer (some ⟨pb,1,none⟩)] w0 (bldE pb t0 x2 x3 x4 q A c bs K) (fun u R=>u = .string ⟨bs.toArray⟩∧R=blk pb [t0, .pointer q, .slice A bs.length c,x2,x3,x4] 92::K):=by
 refine specB_of sg Tryz.func80 rfl rfl rfl ?_
 have hl:0<bs.length:=List.length_pos_iff.2 h0
 refine T_rowcapM (e:=5) (sz:=1) (A:=A) (cap:=c) (n:=bs.length) (xs:=u8s bs) fun hc=>?_
 refine T_rowpos (e:=5) (sz:=1) (A:=A) (cap:=c) (n:=bs.length) (xs:=u8s bs) hl fun g hA=>?_
 subst hA
 repeat' (first|refine d1 ?_|(show ∀ _:Nat,T _ _ _ _ _;intro _))
 refine rsH (blk pb [t0, .pointer q, .slice (some ⟨g,0,none⟩) bs.length c,x2,x3,x4] 92::K) 1000 [0,1,2,3,5,6,7,8,9,4,10,11] ?_
 repeat' (first|refine d1 ?_|refine dd ?_|(show T _ (.ops _ (_::_)::_) _ _ _;first|refine T_val rfl (Val.nilc rfl) rfl rfl rfl ?_|refine T_valC rfl (Val.nilc rfl) rfl rfl rfl rfl rfl ?_)|(show T _ (.run _ _ (_::_) _ _::_) _ _ _;first|refine rv rfl rfl rfl (Val.nilc rfl) rfl rfl rfl ?_|refine rg rfl rfl rfl (Val.nilc rfl) rfl rfl rfl rfl rfl ?_|refine ro rfl rfl (OpT.ofVal rfl (Val.sliceData rfl (by omega)) rfl rfl rfl ⟨fun _=>hle_snd _ _ _,?_⟩)|refine ro rfl rfl (OpT.unsafeStr rfl rfl rfl rfl rfl (by kernel_rfl) h0 ⟨fun _=>hle_snd _ _ _,?_⟩))|(show ∀ _:Nat,T _ _ _ _ _;intro _)|(show T _ (.code .ret::_) _ _ _;refine T_retV _ rfl (hle_snd _ _ _) ⟨rfl,rfl⟩))
theorem resetE_spec (w0:World) (pb:Nat) (t0 x2 x3 x4:Value) (q A:Option Addr) (n c:Nat) (K:List HA) :
  SpecB Tryz.prog 81 [.pointer (some ⟨pb,1,none⟩)] w0 (blk pb [t0, .pointer q, .slice A n c,x2,x3,x4] 92::K) (fun u R=>u = .tuple #[]∧R=blk pb [t0, .pointer none, .slice none 0 0,x2,x3,x4] 92::K):=by
 refine specB_of sg Tryz.func81 rfl rfl rfl ?_
 repeat' (first|refine d1 ?_|refine dd ?_|(show T _ (.ops _ (_::_)::_) _ _ _;first|refine T_val rfl (Val.nilc rfl) rfl rfl rfl ?_|refine T_valC rfl (Val.nilc rfl) rfl rfl rfl rfl rfl ?_)|(show T _ (.run _ _ (_::_) _ _::_) _ _ _;first|refine rv rfl rfl rfl (Val.nilc rfl) rfl rfl rfl ?_|refine rg rfl rfl rfl (Val.nilc rfl) rfl rfl rfl rfl rfl ?_)|(show ∀ _:Nat,T _ _ _ _ _;intro _))
 exact T_fallV _ rfl (Hle.refl _) ⟨rfl,rfl⟩
end Go.Proofs.YtbfcfpmholkmeaaGreatDoor
namespace Go.Proofs.YtbfcfpmholkmeaaGreatDoor
open Go.RowKit Go.Shelf Go.ChangeShapes Go.WideShapes Go.Proofs
set_option maxRecDepth 100000

theorem ru_wt {f:Nat} {ds:List D} (h:wt sg (f+2) 28 ds):∃ r:RuB,ds=(ruC r).map .v:=by
 obtain⟨a0,b0,rfl,h0,a1,b1,rfl,h1,rfl⟩:=(show wtL (wt sg (f+1)) [(9,0),(9,1)] ds from h)
 obtain⟨s0,rfl,_⟩:=(show ∃ s:ByteArray,a0=[.v (.string s)]∧s.size≤maxLen from h0)
 obtain⟨s1,rfl,_⟩:=(show ∃ s:ByteArray,a1=[.v (.string s)]∧s.size≤maxLen from h1)
 exact⟨(s0,s1),rfl⟩
section
variable {H:Type} {enc:TypeId × Value→H} {W:World} {base b0:Nat} {sp:Nat→Bool} {held:Bool} {r:Reach} {v:Value} {d:DataW H} {ps:List MemPlace}
theorem arg_rules (hv:Value.okWide Tryz.prog W r b0 22 v) (h:DataW.Trod enc Tryz.prog W base sp held 22 v d ps):∃ A cap,∃ l:List RuB,v = .slice A l.length cap∧l.length≤9223372036854775807∧Src W 2 A l.length (l.flatMap ruC)∧l.length≤cap:=by
 obtain⟨fuel,hf⟩:=h
 obtain⟨ds,h1,h2⟩:=trod_wt (S:=sg) 9 rfl hf
 obtain⟨l,n,rfl,hl,_,hi⟩:=(show ∃ l n,ds=[.s 2 l]∧l.length=n * 2∧n≤maxLen∧∀ i,i<n→wt sg 8 28 ((l.drop (i * 2)).take 2) from h2)
 obtain⟨ts,e1,e2⟩:=chunks ruC 2 n l hl fun i hin=>ru_wt (hi i hin)
 subst e2
 have hc:v.cells.toList=[v]:=by
  cases v <;> first|rfl|(exfalso;unfold Value.okWide at hv;simp [Tryz.underlying22] at hv;unfold Cell.okWide at hv;simp [Tryz.underlying22] at hv;unfold Cell.ok at hv;simp [Tryz.underlying22] at hv)
 rw [hc] at h1
 obtain⟨A,m,cap,rfl,h3,h4,h5,h6⟩:=h1.srcV
 have em:m=ts.length:=by rw [List.length_map] at hl;omega
 subst em
 exact⟨A,cap,ts,rfl,by omega,h6,h4⟩
end
theorem mapM_at {α β:Type} {f:α→Option β}:∀ {l:List α} {xs:List β},l.mapM f=some xs→∀ (i:Nat) (a:α),l[i]?=some a→∃ x,xs[i]?=some x∧f a=some x
 | [],_,_,_,_,h=>by simp at h
 | y::l,xs,h,i,a,ha=>by
  rw [List.mapM_cons] at h
  cases hy:f y with
  | none=>rw [hy] at h;cases h
  | some z =>
   rw [hy] at h
   cases hl:l.mapM f with
   | none=>rw [hl] at h;cases h
   | some zs =>
    rw [hl] at h
    obtain rfl:z::zs=xs:=by simpa using h
    cases i with
    | zero =>
     obtain rfl:y=a:=by simpa using ha
     exact⟨z,rfl,hy⟩
    | succ i=>exact mapM_at hl i a (by simpa using ha)
section
variable {enc:TypeId × Value→Unit} {P:Program} {w:World} {base:Nat} {sp:Nat→Bool} {held:Bool}
theorem trod_strE {fuel:Nat} {t:TypeId} {cs:List Value} {s:List UInt8} {p:List MemPlace} (hu:P.underlying t=some .string) (h:DataW.trod enc P w base sp held fuel t cs=some (.lit (.string s),p)):∃ b:ByteArray,cs=[.string b]∧b.data.toList=s:=by
 cases fuel with
 | zero=>simp [DataW.trod] at h
 | succ fuel =>
  unfold DataW.trod at h
  rw [hu] at h
  split at h <;> simp_all
theorem trod_boolE {fuel:Nat} {t:TypeId} {cs:List Value} {b:Bool} {p:List MemPlace} (hu:P.underlying t=some .bool) (h:DataW.trod enc P w base sp held fuel t cs=some (.lit (.bool b),p)):cs=[.bool b]:=by
 cases fuel with
 | zero=>simp [DataW.trod] at h
 | succ fuel =>
  unfold DataW.trod at h
  rw [hu] at h
  split at h <;> simp_all
theorem trod_arrE {fuel n:Nat} {t e:TypeId} {cs:List Value} {ds:List (DataW Unit)} {p:List MemPlace} (hu:P.underlying t=some (.array n e)) (h:DataW.trod enc P w base sp held fuel t cs=some (.agg ds,p)) (i:Nat) (hi:i<n) (d:DataW Unit) (hd:ds[i]?=some d) :
  ∃ f q,DataW.trod enc P w base sp held f e ((cs.drop (i * P.cellsOf e)).take (P.cellsOf e))=some (d,q):=by
 cases fuel with
 | zero=>simp [DataW.trod] at h
 | succ fuel =>
  unfold DataW.trod at h
  rw [hu] at h
  dsimp only at h
  split at h
  ·rw [Option.map_eq_some_iff] at h
   obtain⟨xs,h1,h2⟩:=h
   obtain⟨x,h3,h4⟩:=mapM_at h1 i i (by rw [List.getElem?_range hi])
   injection h2 with h5 h6
   injection h5 with h7
   rw [← h7,List.getElem?_map,h3] at hd
   obtain rfl:x.1=d:=by simpa using hd
   exact⟨fuel,x.2,h4⟩
  ·cases h
theorem trod_structE {fuel:Nat} {t:TypeId} {fs:Array Field} {cs:List Value} {ds:List (DataW Unit)} {p:List MemPlace} (hu:P.underlying t=some (.struct fs)) (h:DataW.trod enc P w base sp held fuel t cs=some (.agg ds,p)) (i:Nat) (fl:Field) (hf:fs.toList[i]?=some fl) (d:DataW Unit) (hd:ds[i]?=some d) :
  ∃ f q,DataW.trod enc P w base sp held f fl.type ((cs.drop fl.offset).take (P.cellsOf fl.type))=some (d,q):=by
 cases fuel with
 | zero=>simp [DataW.trod] at h
 | succ fuel =>
  unfold DataW.trod at h
  rw [hu] at h
  dsimp only at h
  split at h
  ·rw [Option.map_eq_some_iff] at h
   obtain⟨xs,h1,h2⟩:=h
   obtain⟨x,h3,h4⟩:=mapM_at h1 i fl hf
   injection h2 with h5 h6
   injection h5 with h7
   rw [← h7,List.getElem?_map,h3] at hd
   obtain rfl:x.1=d:=by simpa using hd
   exact⟨fuel,x.2,h4⟩
  ·cases h
end
end Go.Proofs.YtbfcfpmholkmeaaGreatDoor
namespace Go.Proofs.YtbfcfpmholkmeaaGreatDoor
open Go.RowKit Go.Shelf Go.ChangeShapes Go.WideShapes Go.Proofs
set_option maxRecDepth 100000

def laidsN : List (String × DataW Unit) := [("math/bits.deBruijn32tab", Rows.laid_math_bits_deBruijn32tab), ("math/bits.deBruijn64tab", Rows.laid_math_bits_deBruijn64tab), ("internal/strconv.uint64pow10", Rows.laid_internal_strconv_uint64pow10), ("strconv.ErrRange", Rows.laid_strconv_ErrRange), ("strconv.ErrSyntax", Rows.laid_strconv_ErrSyntax), ("apograph/transcript.forms", Rows.laid_apograph_transcript_forms)]
theorem std_ofN {W:World} (h:laidMetH Tryz.prog laidsN W):Std W:=by
 rw [MakeChecks.laidMetH_plain _ _ _ (by kernel_rfl)] at h
 have h1:=h.tail.tail.tail
 obtain⟨tq,q,hq⟩:=iface_var (g:=2) h1 (by kernel_rfl) (by kernel_rfl) Tryz.underlying123
 obtain⟨tp,p,hp⟩:=iface_var (g:=1) h1.tail (by kernel_rfl) (by kernel_rfl) Tryz.underlying123
 exact⟨tp,p,tq,q,hp,hq⟩
theorem io_metN (os:Os) (args:Array Value):laidMetH Tryz.prog laidsN ((World.laidAll Tryz.prog os laidsN).forCall (fun _ _=>0) ⟨#[],args,[]⟩).memory:=by
 rw [MakeChecks.laidMetH_plain _ _ _ (by as_aux_lemma=>kernel_rfl)]
 exact laidMet_laidAll _ (by as_aux_lemma=>kernel_rfl) (by as_aux_lemma=>kernel_rfl)
theorem take_oneV {L:List Value} {o:Nat} {v:Value} (h:(L.drop o).take 1=[v]):L[o]?=some v:=by
 have h9:((L.drop o).take 1)[0]?=some v:=by rw [h];rfl
 rw [List.getElem?_take_of_lt (by omega),List.getElem?_drop,Nat.add_zero] at h9
 exact h9
theorem take_inV {L:List Value} {o j n:Nat} {v:Value} (h:((L.drop o).take n)[j]?=some v):L[o+j]?=some v:=by
 have hj:j<n:=by
  have:=(List.getElem?_eq_some_iff.1 h).1
  rw [List.length_take] at this
  omega
 rw [List.getElem?_take_of_lt hj,List.getElem?_drop] at h
 exact h
theorem forms_ofN {W:World} (h:laidMetH Tryz.prog laidsN W):FormS W:=by
 rw [MakeChecks.laidMetH_plain _ _ _ (by kernel_rfl)] at h
 obtain⟨ps,⟨g0,t0,cs0,f0,p0,q0,hg0,ht0,hv0,hd0,_,e0⟩,_,hrows⟩:=h.tail.tail.tail.tail.tail
 obtain rfl := Option.some.inj ((show Tryz.prog.globalNamed "apograph/transcript.forms" = some 0 by kernel_rfl).symm.trans hg0)
 obtain rfl:=Option.some.inj ((show (Tryz.prog.globals[0]?).map (·.type)=some 177 by kernel_rfl).symm.trans ht0)
 obtain⟨f1,q1,h1⟩:=trod_arrE Tryz.underlying177 hd0 1 (by omega) _ rfl
 rw [show Tryz.prog.cellsOf 176=4 by kernel_rfl] at h1
 obtain⟨f2,q2,h2⟩:=trod_structE Tryz.underlying176 h1 0 _ rfl _ rfl
 obtain⟨f3,q3,h3⟩:=trod_structE Tryz.underlying176 h1 1 _ rfl _ rfl
 obtain⟨f4,q4,h4⟩:=trod_structE Tryz.underlying176 h1 2 _ rfl _ rfl
 obtain⟨f5,q5,h5⟩:=trod_structE Tryz.underlying176 h1 3 _ rfl _ rfl
 dsimp only at h2 h3 h4 h5
 rw [show Tryz.prog.cellsOf 9=1 by kernel_rfl] at h2
 rw [show Tryz.prog.cellsOf 4=1 by kernel_rfl] at h3 h4 h5
 obtain⟨b,k1,k2⟩:=trod_strE Tryz.underlying9 h2
 have k3:=trod_boolE Tryz.underlying4 h3
 have k4:=trod_boolE Tryz.underlying4 h4
 have k5:=trod_boolE Tryz.underlying4 h5
 have e1:=take_inV (take_oneV k1)
 have e3:=take_inV (take_oneV k3)
 have e4:=take_inV (take_oneV k4)
 have e5:=take_inV (take_oneV k5)
 obtain rfl:b=ByteArray.empty:=ba_ext.2 k2
 obtain⟨ty,m,hh⟩:∃ ty m,W.heap[0]?=some (.cells cs0 ty m):=by
  unfold World.var? at hv0
  rw [hg0] at hv0
  simp only [Option.bind_some] at hv0
  split at hv0
  ·rename_i c9 t9 m9 h9
   cases hv0
   exact⟨t9,m9,h9⟩
  ·cases hv0
 intro j u hu
 rw [cell_of_row W _ (4+j) cs0 ty m hh]
 rw [← Array.getElem?_toList]
 rcases j with _|_|_|_|j
 ·obtain rfl:=Option.some.inj hu;exact e1
 ·obtain rfl:=Option.some.inj hu;exact e3
 ·obtain rfl:=Option.some.inj hu;exact e4
 ·obtain rfl:=Option.some.inj hu;exact e5
 ·cases hu
end Go.Proofs.YtbfcfpmholkmeaaGreatDoor
namespace Go.Proofs.YtbfcfpmholkmeaaGreatDoor

theorem distS_ge (a b:ByteArray):0≤distS a b∧distS a b≤a.size+b.size:=lv_bd _ _ _
theorem pairC_bd {c:Costs} (hc:costE c=0) (a b:Tok):0≤pairC c a b∧pairC c a b≤c.most:=by
 obtain⟨c1,c2,c3,c4,c5⟩:=costE_ok hc
 have hd:=(distS_ge a.norm b.norm).1
 have hm:0≤c.letter * distS a.norm b.norm:=Int.mul_nonneg c3.1 hd
 unfold pairC
 (repeat' split) <;> omega
theorem gapC_bd {c:Costs} (hc:costE c=0) (t:Tok):0≤gapC c t∧gapC c t≤c.gap:=by
 obtain⟨c1,c2,c3,c4,c5⟩:=costE_ok hc
 unfold gapC
 split <;> omega
end Go.Proofs.YtbfcfpmholkmeaaGreatDoor
namespace Go.Proofs.YtbfcfpmholkmeaaGreatDoor

def noTok:Tok:=⟨.empty, .empty, .empty,0,0, .empty⟩
def tkA (l:List Tok) (i:Nat):Tok:=l.getD i noTok
def thA (b:List Bool) (i:Nat):Bool:=b.getD i false
theorem tkA_get {l:List Tok} {i:Nat} (h:i<l.length):l[i]?=some (tkA l i):=by
 unfold tkA;rw [List.getD_eq_getElem?_getD,List.getElem?_eq_getElem h];rfl
theorem thA_get {l:List Bool} {i:Nat} (h:i<l.length):l[i]?=some (thA l i):=by
 unfold thA;rw [List.getD_eq_getElem?_getD,List.getElem?_eq_getElem h];rfl
theorem tkA_mem {l:List Tok} {i:Nat} (h:i<l.length):tkA l i∈l:=List.mem_of_getElem? (tkA_get h)
def cellC (c:Costs) (l:List Tok) (b:List Bool) (i k:Nat):Int :=
 if (thA b i && thA b k)=true then pairC c (tkA l i) (tkA l k) else if thA b i=true then gapC c (tkA l i) else if thA b k=true then gapC c (tkA l k) else 0
def pairsL (n:Nat):List (Nat × Nat):=(List.range n).flatMap fun k=>(List.range k).map fun i=>(i,k)
def rowP (i k:Nat):List (Nat × Nat):=(List.range i).map fun q=>(q,k)
theorem pairsL_succ (k:Nat):pairsL (k+1)=pairsL k++rowP k k:=by
 unfold pairsL rowP;rw [List.range_succ,List.flatMap_append];simp
theorem rowP_succ (i k:Nat):rowP (i+1) k=rowP i k++[(i,k)]:=by unfold rowP;rw [List.range_succ];simp
theorem rowP_length (i k:Nat):(rowP i k).length=i:=by simp [rowP]
theorem rowP_get {i k n:Nat} (h:i<n):(rowP n k)[i]?=some (i,k):=by unfold rowP;simp [h]
theorem pairsL_get {n k i:Nat} (hk:k<n) (hi:i<k):(pairsL n)[(pairsL k).length+i]?=some (i,k):=by
 induction n with
 | zero=>omega
 | succ n ih =>
  rw [pairsL_succ]
  rcases Nat.lt_or_ge k n with h|h
  ·have:=ih h
   rw [List.getElem?_append_left (List.getElem?_eq_some_iff.1 this).1]
   exact this
  ·have e:k=n:=by omega
   subst e
   rw [List.getElem?_append_right (by omega),Nat.add_sub_cancel_left]
   exact rowP_get hi
theorem pairsL_mem {n i k:Nat}:(i,k)∈pairsL n↔i<k∧k<n:=by
 unfold pairsL
 simp only [List.mem_flatMap,List.mem_range,List.mem_map,Prod.mk.injEq]
 constructor
 ·rintro⟨a,ha,b,hb,rfl,rfl⟩;exact⟨hb,ha⟩
 ·rintro⟨h1,h2⟩;exact⟨k,h2,i,h1,rfl,rfl⟩
theorem pairsL_len (n:Nat):(pairsL n).length≤n * n:=by
 induction n with
 | zero=>simp [pairsL]
 | succ n ih =>
  rw [pairsL_succ,List.length_append,rowP_length]
  have:(n+1) * (n+1)=n * n+2 * n+1:=by rw [Nat.add_mul,Nat.mul_add];omega
  omega
def psum (f:Nat→Nat→Int) (ps:List (Nat × Nat)):Int:=ps.foldl (fun s p=>s+f p.1 p.2) 0
theorem psum_snoc (f:Nat→Nat→Int) (ps:List (Nat × Nat)) (p:Nat × Nat):psum f (ps++[p])=psum f ps+f p.1 p.2:=by unfold psum;rw [List.foldl_append];rfl
theorem psum_bd {f:Nat→Nat→Int} {M:Int} (hM:0≤M) (ps:List (Nat × Nat)) (h:∀ p∈ps,0≤f p.1 p.2∧f p.1 p.2≤M):0≤psum f ps∧psum f ps≤M * ps.length:=by
 have key:∀ (ps:List (Nat × Nat)) (s:Int),(∀ p∈ps,0≤f p.1 p.2∧f p.1 p.2≤M)→s≤ps.foldl (fun s p=>s+f p.1 p.2) s∧ps.foldl (fun s p=>s+f p.1 p.2) s≤s+M * ps.length:=by
  intro ps
  induction ps with
  | nil=>intro s _;simp
  | cons p ps ih =>
   intro s h
   have h1:=ih (s+f p.1 p.2) (fun q hq=>h q (List.mem_cons_of_mem _ hq))
   have h2:=h p (List.mem_cons_self ..)
   simp only [List.foldl_cons,List.length_cons]
   have:M * ((ps.length:Int)+1)=M * ps.length+M:=by rw [Int.mul_add,Int.mul_one]
   push_cast
   omega
 have:=key ps 0 h
 unfold psum
 omega
def badCol (l:List Tok) (b:List Bool):Bool:=(List.range l.length).any fun j=>thA b j && !decide (tokE (tkA l j)=0)
theorem badCol_true {l:List Tok} {b:List Bool} {j:Nat} (hj:j<l.length) (h1:thA b j=true) (h2:tokE (tkA l j)≠0):badCol l b=true:=by
 unfold badCol
 rw [List.any_eq_true]
 exact⟨j,List.mem_range.2 hj,by simp [h1,h2]⟩
theorem badCol_false {l:List Tok} {b:List Bool} (h:∀ j,j<l.length→thA b j=true→tokE (tkA l j)=0):badCol l b=false:=by
 unfold badCol
 rw [List.any_eq_false]
 intro j hj hh
 simp only [Bool.and_eq_true,Bool.not_eq_true',decide_eq_false_iff_not] at hh
 exact hh.2 (h j (List.mem_range.1 hj) hh.1)
def columnV (c:Costs) (l:List Tok) (b:List Bool):Int × Int :=
 if costE c≠0 then (0,1) else if l.length≠b.length then (0,9) else if 32<l.length then (0,4) else if badCol l b=true then (0,1) else (psum (cellC c l b) (pairsL l.length),0)
theorem cellC_bd {c:Costs} (hc:costE c=0) (l:List Tok) (b:List Bool) (i k:Nat):0≤cellC c l b i k∧cellC c l b i k≤1000:=by
 obtain⟨c1,c2,c3,c4,c5⟩:=costE_ok hc
 have h1:=pairC_bd hc (tkA l i) (tkA l k)
 have h2:=gapC_bd hc (tkA l i)
 have h3:=gapC_bd hc (tkA l k)
 unfold cellC
 (repeat' split) <;> omega
theorem psum_cell {c:Costs} (hc:costE c=0) (l:List Tok) (b:List Bool) (ps:List (Nat × Nat)):0≤psum (cellC c l b) ps∧psum (cellC c l b) ps≤1000 * ps.length:=psum_bd (by omega) ps fun p _=>cellC_bd hc l b p.1 p.2

end Go.Proofs.YtbfcfpmholkmeaaGreatDoor
namespace Go.Proofs.YtbfcfpmholkmeaaGreatDoor

theorem valV_ext {f g:Nat→Int} {tot:Nat} (h:∀ q,q<tot→f q=g q):valV f tot=valV g tot:=by
 unfold valV
 apply List.map_congr_left
 intro q hq
 rw [h q (List.mem_range.1 hq)]
def RowsOk (f:Nat→Nat→Int) (tot:Nat) (L:List (Nat × List Value)):Prop:=∀ (i:Nat) x,L[i]?=some x→x.2=valV (f i) tot
end Go.Proofs.YtbfcfpmholkmeaaGreatDoor
namespace Go.Proofs.YtbfcfpmholkmeaaGreatDoor

end Go.Proofs.YtbfcfpmholkmeaaGreatDoor
namespace Go.Proofs.YtbfcfpmholkmeaaGreatDoor

structure Grd where
 n:Nat
 m:Nat
 p:Nat→Nat→Int
 g:Nat→Int
 h:Nat→Int
structure Mv where
 fst:Nat
 snd:Nat
 cost:Int
@[reducible] def Mv.cells (x:Mv):List Value:=[.int .i64 (x.fst:Nat), .int .i64 (x.snd:Nat), .int .i64 x.cost]
def mvs (G:Grd) (i k:Nat):List Mv :=
 (if i<G.n∧k<G.m then [⟨1,1,G.p i k⟩] else [])++((if i<G.n then [⟨1,0,G.g i⟩] else [])++(if k<G.m then [⟨0,1,G.h k⟩] else []))
def rst (G:Grd) (i k:Nat):Int :=
 if _:i<G.n∧k<G.m then min (min (G.p i k+rst G (i+1) (k+1)) (G.g i+rst G (i+1) k)) (G.h k+rst G i (k+1))
 else if _:i<G.n then G.g i+rst G (i+1) k
 else if _:k<G.m then G.h k+rst G i (k+1)
 else 0
termination_by (G.n - i)+(G.m - k)
theorem rst_both {G:Grd} {i k:Nat} (hi:i<G.n) (hk:k<G.m):rst G i k=min (min (G.p i k+rst G (i+1) (k+1)) (G.g i+rst G (i+1) k)) (G.h k+rst G i (k+1)):=by
 rw [rst,dif_pos ⟨hi,hk⟩]
theorem rst_fst {G:Grd} {i k:Nat} (hi:i<G.n) (hk:¬ k<G.m):rst G i k=G.g i+rst G (i+1) k:=by rw [rst,dif_neg (fun h=>hk h.2),dif_pos hi]
theorem rst_snd {G:Grd} {i k:Nat} (hi:¬ i<G.n) (hk:k<G.m):rst G i k=G.h k+rst G i (k+1):=by rw [rst,dif_neg (fun h=>hi h.1),dif_neg hi,dif_pos hk]
theorem rst_none {G:Grd} {i k:Nat} (hi:¬ i<G.n) (hk:¬ k<G.m):rst G i k=0:=by rw [rst,dif_neg (fun h=>hi h.1),dif_neg hi,dif_neg hk]
def via (G:Grd) (i k:Nat) (x:Mv):Int:=x.cost+rst G (i+x.fst) (k+x.snd)
def big:Int:=1073741824
theorem grd_ind (G:Grd) {P:Nat→Nat→Prop} (h:∀ i k,(i<G.n→P (i+1) k)→(k<G.m→P i (k+1))→(i<G.n→k<G.m→P (i+1) (k+1))→P i k) (i k:Nat):P i k:=by
 have key:∀ d i k,(G.n - i)+(G.m - k)≤d→P i k:=by
  intro d
  induction d with
  | zero=>intro i k hd;exact h i k (fun h=>by omega) (fun h=>by omega) (fun h=>by omega)
  | succ d ih=>intro i k hd;exact h i k (fun h=>ih _ _ (by omega)) (fun h=>ih _ _ (by omega)) (fun h h2=>ih _ _ (by omega))
 exact key _ i k (Nat.le_refl _)
structure GOk (G:Grd) (M:Int):Prop where
 p:∀ i k,0≤G.p i k∧G.p i k≤M
 g:∀ i,0≤G.g i∧G.g i≤M
 h:∀ k,0≤G.h k∧G.h k≤M
theorem rst_bd {G:Grd} {M:Int} (hG:GOk G M) (i k:Nat):0≤rst G i k∧rst G i k≤M * ((G.n - i:Nat)+(G.m - k:Nat):Nat):=by
 refine grd_ind G (P:=fun i k=>0≤rst G i k∧rst G i k≤M * ((G.n - i:Nat)+(G.m - k:Nat):Nat)) (fun i k h1 h2 h3=>?_) i k
 have m0:0≤M:=by have:=hG.g 0;omega
 have q1:=hG.p i k
 have q2:=hG.g i
 have q3:=hG.h k
 by_cases hi:i<G.n
 ·have e1:M * ((G.n - i:Nat)+(G.m - k:Nat):Nat)=M * ((G.n - (i+1):Nat)+(G.m - k:Nat):Nat)+M:=by
   rw [show (G.n - i)+(G.m - k)=(G.n - (i+1))+(G.m - k)+1 by omega];push_cast;rw [Int.mul_add];omega
  have r1:=h1 hi
  by_cases hk:k<G.m
  ·rw [rst_both hi hk]
   have r2:=h2 hk
   have r3:=h3 hi hk
   omega
  ·rw [rst_fst hi hk];omega
 ·by_cases hk:k<G.m
  ·have e1:M * ((G.n - i:Nat)+(G.m - k:Nat):Nat)=M * ((G.n - i:Nat)+(G.m - (k+1):Nat):Nat)+M:=by
    rw [show (G.n - i)+(G.m - k)=(G.n - i)+(G.m - (k+1))+1 by omega];push_cast;rw [Int.mul_add];omega
   have r2:=h2 hk
   rw [rst_snd hi hk];omega
  ·rw [rst_none hi hk]
   exact⟨Int.le_refl _,Int.mul_nonneg m0 (by omega)⟩
theorem flat_get {α:Type} (cells:α→List Value) (sz:Nat) (hsz:∀ t,(cells t).length=sz):∀ {l:List α} {k:Nat} {x:α},l[k]?=some x→∀ (j:Nat) u,(cells x)[j]?=some u→(l.flatMap cells)[k * sz+j]?=some u
 | y::l,0,x,hx,j,u,hu=>by
  simp at hx;subst hx
  rw [List.flatMap_cons,Nat.zero_mul,Nat.zero_add,List.getElem?_append_left (List.getElem?_eq_some_iff.1 hu).1]
  exact hu
 | y::l,k+1,x,hx,j,u,hu=>by
  have ih:=flat_get cells sz hsz (l:=l) (k:=k) (by simpa using hx) j u hu
  rw [List.flatMap_cons,List.getElem?_append_right (by rw [hsz,Nat.succ_mul];omega),hsz]
  rw [show (k+1) * sz+j - sz=k * sz+j by rw [Nat.succ_mul];omega]
  exact ih
end Go.Proofs.YtbfcfpmholkmeaaGreatDoor
namespace Go.Proofs.YtbfcfpmholkmeaaGreatDoor

end Go.Proofs.YtbfcfpmholkmeaaGreatDoor
namespace Go.Proofs.YtbfcfpmholkmeaaGreatDoor
open Go.RowKit Go.Shelf Go.Proofs
set_option maxRecDepth 100000
set_option maxHeartbeats 1000000

theorem pairs_spec (n:Nat) (w:World):Spec Tryz.prog 159 [.int .i64 n] w (fun v A=>∃ b:Nat,True∧v = .func (.func 203) #[] #[.pointer (some ⟨b,0,none⟩)]∧A=[blk b [.int .i64 n] 3]):=by
 refine spec_of sg Tryz.func159 rfl rfl rfl ?_
 repeat' (first|(show T _ (.ops _ (⟨_, .box _ _,_,_,_,_⟩::_)::_) _ _ _;refine T_op (OpT.box (cs:=[.int .i64 n]) rfl rfl rfl rfl rfl rfl rfl (fun _=>?_)))|refine d1 ?_|refine dd ?_|(show ∀ _:Nat,T _ _ _ _ _;intro _)|(show T _ (.code .ret::_) _ _ _;refine T_retV _ rfl (Hle.refl _) ⟨_,trivial,rfl,rfl⟩))
def pairVs (n:Nat):List (List Value):=(pairsL n).map fun p=>[.int .i64 p.1, .int .i64 p.2]
theorem pairs_iter (n:Nat) (b:Nat) (hn:n≤65536):Iter Tryz.prog 203 [] [.pointer (some ⟨b,0,none⟩)] [blk b [.int .i64 n] 3] (pairVs n):=by
 refine iter_of sg Tryz.func203 rfl rfl rfl ?_
 intro w0 l GQ X Hj hY h0
 show T _ _ _ _ (blk b [.int .i64 n] 3::Hj)
 repeat' (first|refine d1 ?_|refine dd ?_|(show ∀ _:Nat,T _ _ _ _ _;intro _))
 refine T_loopX (fun x:Nat × List HA=>[(6, .int .i64 x.1)]) (fun x=>blk b [.int .i64 n] 3::x.2) (fun x=>x.1≤n∧GQ (pairsL x.1).length x.2) (fun x=>n - x.1) (0,Hj) ⟨Nat.zero_le _,h0⟩ ?_
 rintro⟨k,H1⟩ ⟨hk,hG⟩
 dsimp only at hk hG ⊢
 repeat' (first|refine d1 ?_|refine dd ?_|(show ∀ _:Nat,T _ _ _ _ _;intro _))
 refine T_if rfl (fun h=>?_) (fun h=>?_)
 ·simp only [decide_eq_true_eq] at h
  repeat' (first|refine d1 ?_|refine dd ?_|(show ∀ _:Nat,T _ _ _ _ _;intro _))
  refine T_loopX (fun x:Nat × List HA=>[(10, .int .i64 x.1)]) (fun x=>blk b [.int .i64 n] 3::x.2) (fun x=>x.1≤k∧GQ ((pairsL k).length+x.1) x.2) (fun x=>k - x.1) (0,H1) ⟨Nat.zero_le _,hG⟩ ?_
  rintro⟨i,H2⟩ ⟨hi,hG2⟩
  dsimp only at hi hG2 ⊢
  repeat' (first|refine d1 ?_|refine dd ?_|(show ∀ _:Nat,T _ _ _ _ _;intro _))
  refine T_if rfl (fun h1=>?_) (fun h1=>?_)
  ·simp only [decide_eq_true_eq] at h1
   have hy:(pairVs n)[(pairsL k).length+i]?=some [.int .i64 (i:Nat), .int .i64 (k:Nat)]:=by
    unfold pairVs;rw [List.getElem?_map,pairsL_get (by omega) (by omega)];rfl
   repeat' (first|refine d1 ?_|refine dd ?_|(show ∀ _:Nat,T _ _ _ _ _;intro _))
   refine T_yield (K:=[blk b [.int .i64 n] 3]) hY rfl rfl rfl rfl hy hG2 (Hle.comm [_] H2) (fun J=>Hle.comm J [_]) (fun H3 hG3=>?_) (fun Y hX=>?_)
   ·show T _ _ _ _ (blk b [.int .i64 n] 3::H3)
    repeat' (first|refine d1 ?_|refine dd ?_|(show ∀ _:Nat,T _ _ _ _ _;intro _)|(show T _ (.code (.cond _ _ _)::_) _ _ _;refine T_if rfl (fun h=>?_) (fun h=>?_)))
    ·exact absurd h (by decide)
    ·exact T_backX (i+1,H3) ⟨by dsimp only;omega,hG3⟩ (by dsimp only;omega)
   ·show T _ _ _ _ (blk b [.int .i64 n] 3::Y)
    repeat' (first|refine d1 ?_|refine dd ?_|(show ∀ _:Nat,T _ _ _ _ _;intro _)|(show T _ (.code (.cond _ _ _)::_) _ _ _;refine T_if rfl (fun h=>?_) (fun h=>?_))|(show T _ (.code .ret::_) _ _ _;refine T_istop rfl Y hX (Hle.refl _)))
    exact absurd h (by decide)
  ·simp only [decide_eq_false_iff_not] at h1
   have hik:i=k:=by omega
   subst hik
   repeat' (first|refine d1 ?_|refine dd ?_|(show ∀ _:Nat,T _ _ _ _ _;intro _))
   refine T_backX (i+1,H2) ⟨by dsimp only;omega,?_⟩ (by dsimp only;omega)
   dsimp only
   rw [pairsL_succ,List.length_append,rowP_length]
   exact hG2
 ·simp only [decide_eq_false_iff_not] at h
  have hkn:k=n:=by omega
  subst hkn
  repeat' (first|refine d1 ?_|refine dd ?_|(show ∀ _:Nat,T _ _ _ _ _;intro _))
  refine T_ifall rfl H1 ?_ (Hle.refl _)
  unfold pairVs;rw [List.length_map];exact hG

theorem columnPrg_spec (c:Costs) (A B:Option Addr) (n m ca cb:Nat) (l:List Tok) (b:List Bool) (w:World) (hst:Std w) (hl:Src w 6 A n (l.flatMap Tok.cells)) (hn:l.length=n) (hnb:n≤9223372036854775807)
  (hb:Src w 1 B m (b.map Value.bool)) (hm:b.length=m) (hmb:m≤9223372036854775807) (hsm:∀ t∈l,t.small) :
  Spec Tryz.prog 131 [c.val, .slice A n ca, .slice B m cb] w (fun v A=>v = .tuple #[.int .i64 (columnV c l b).1, .int .i64 (columnV c l b).2]∧A=[]):=by
 refine spec_of sg Tryz.func131 rfl rfl rfl ?_
 refine T_op (OpT.box (cs:=c.cells) rfl rfl rfl rfl rfl rfl rfl (fun pc=>?_))
 refine T_op (OpT.box (cs:=[.slice A n ca]) rfl rfl rfl rfl rfl rfl rfl (fun pl=>?_))
 refine T_op (OpT.box (cs:=[.slice B m cb]) rfl rfl rfl rfl rfl rfl rfl (fun pb=>?_))
 repeat' (first|refine d1 ?_|refine dd ?_|(show T _ (.ops _ (_::_)::_) _ _ _;first|refine T_call rfl rfl rfl rfl rfl (fun w hw=>costPrg_spec c w) ?_|refine T_callC rfl rfl rfl rfl rfl rfl rfl (fun hg w hw=>costPrg_spec c w) ?_)|(show T _ (.run _ _ (_::_) _ _::_) _ _ _;first|refine rc rfl rfl rfl rfl rfl rfl rfl (fun w hw=>costPrg_spec c w) ?_|refine rcG rfl rfl rfl rfl rfl rfl rfl rfl rfl (fun hg w hw=>costPrg_spec c w) ?_)|(show ∀ _:Nat,T _ _ _ _ _;intro _))
 refine T_if rfl (fun h=>?_) (fun h=>?_)
 ·simp only [Bool.not_eq_true',decide_eq_false_iff_not] at h
  repeat' (first|refine d1 ?_|refine dd ?_|(show ∀ _:Nat,T _ _ _ _ _;intro _)|(show T _ (.code .ret::_) _ _ _;refine T_retV [] rfl (Hle.none _) ⟨?_,rfl⟩))
  unfold columnV;rw [if_pos h];rfl
 simp only [Bool.not_eq_false',decide_eq_true_eq] at h
 repeat' (first|refine d1 ?_|refine dd ?_|(show ∀ _:Nat,T _ _ _ _ _;intro _))
 refine T_if rfl (fun h1=>?_) (fun h1=>?_)
 ·simp only [Bool.not_eq_true',decide_eq_false_iff_not] at h1
  repeat' (first|refine d1 ?_|refine dd ?_|(show ∀ _:Nat,T _ _ _ _ _;intro _)|(show T _ (.code .ret::_) _ _ _;refine T_retV [] rfl (Hle.none _) ⟨?_,rfl⟩))
  unfold columnV;rw [if_neg (by omega),if_pos (by omega)];rfl
 simp only [Bool.not_eq_false',decide_eq_true_eq] at h1
 repeat' (first|refine d1 ?_|refine dd ?_|(show ∀ _:Nat,T _ _ _ _ _;intro _))
 refine T_if rfl (fun h2=>?_) (fun h2=>?_)
 ·simp only [decide_eq_true_eq] at h2
  repeat' (first|refine d1 ?_|refine dd ?_|(show ∀ _:Nat,T _ _ _ _ _;intro _)|(show T _ (.code .ret::_) _ _ _;refine T_retV [] rfl (Hle.none _) ⟨?_,rfl⟩))
  unfold columnV;rw [if_neg (by omega),if_neg (by omega),if_pos (by omega)];rfl
 simp only [decide_eq_false_iff_not] at h2
 repeat' (first|refine d1 ?_|refine dd ?_|(show ∀ _:Nat,T _ _ _ _ _;intro _))
 refine T_loopX (fun k:Nat=>[(26, .int .i64 k)]) (fun _=>[blk pb [.slice B m cb] 189,blk pl [.slice A n ca] 30,blk pc c.cells 65]) (fun k=>k≤n∧∀ j,j<k→thA b j=true→tokE (tkA l j)=0) (fun k=>n - k) 0 ⟨by omega,fun j h=>by omega⟩ ?_
 rintro k ⟨hk,hok⟩
 repeat' (first|refine d1 ?_|refine dd ?_|(show ∀ _:Nat,T _ _ _ _ _;intro _))
 refine T_if rfl (fun h3=>?_) (fun h3=>?_)
 ·simp only [decide_eq_true_eq] at h3
  have hkn:k<n:=by omega
  obtain⟨ba,oa,rfl⟩:=hl.base (by omega)
  obtain⟨bb,ob,rfl⟩:=hb.base (by omega)
  have hx:=tkA_get (l:=l) (i:=k) (by omega)
  have hr1:RdC w ba (oa+(k:Int).toNat * 6) (tkA l k).cells:=hl.getT hkn hx
  have hr2:RdC w bb (ob+(k:Int).toNat * 1) [.bool (thA b k)]:=(hb.get1 (by omega) (by rw [List.getElem?_map,thA_get (by omega)];rfl)).2
  repeat' (first|refine d1 ?_|refine dd ?_|(show T _ (.ops _ (_::_)::_) _ _ _;first|refine T_call rfl rfl rfl rfl rfl (fun w hw=>tokPrg_spec (tkA l k) (hsm _ (tkA_mem (by omega))) w (hst.cls hw)) ?_|refine T_callC rfl rfl rfl rfl rfl rfl rfl (fun hg w hw=>tokPrg_spec (tkA l k) (hsm _ (tkA_mem (by omega))) w (hst.cls hw)) ?_)|(show T _ (.run _ _ (_::_) _ _::_) _ _ _;first|refine rc rfl rfl rfl rfl rfl rfl rfl (fun w hw=>tokPrg_spec (tkA l k) (hsm _ (tkA_mem (by omega))) w (hst.cls hw)) ?_|refine rcG rfl rfl rfl rfl rfl rfl rfl rfl rfl (fun hg w hw=>tokPrg_spec (tkA l k) (hsm _ (tkA_mem (by omega))) w (hst.cls hw)) ?_)|(show ∀ _:Nat,T _ _ _ _ _;intro _))
  refine T_if rfl (fun h4=>?_) (fun h4=>?_)
  ·simp only [Bool.and_eq_true,Bool.not_eq_true',decide_eq_false_iff_not] at h4
   repeat' (first|refine d1 ?_|refine dd ?_|(show ∀ _:Nat,T _ _ _ _ _;intro _)|(show T _ (.code .ret::_) _ _ _;refine T_retV [] rfl (Hle.none _) ⟨?_,rfl⟩))
   unfold columnV;rw [if_neg (by omega),if_neg (by omega),if_neg (by omega),if_pos (badCol_true (by omega) h4.1 h4.2)];rfl
  ·repeat' (first|refine d1 ?_|refine dd ?_|(show ∀ _:Nat,T _ _ _ _ _;intro _))
   refine T_backX (k+1) ⟨by omega,fun j hj ht=>?_⟩ (by omega) (hG:=Hle.tail _ _)
   rcases Nat.lt_or_ge j k with h5|h5
   ·exact hok j h5 ht
   ·rw [show j=k by omega] at ht ⊢
    rw [ht] at h4
    simpa using h4
 ·simp only [decide_eq_false_iff_not] at h3
  have hkn:k=n:=by omega
  subst hkn
  have hbad:=badCol_false (l:=l) (b:=b) (fun j hj ht=>hok j (by omega) ht)
  have hcv:columnV c l b=(psum (cellC c l b) (pairsL l.length),0):=by unfold columnV;rw [if_neg (by omega),if_neg (by omega),if_neg (by omega),if_neg (by rw [hbad];simp)]
  repeat' (first|refine d1 ?_|refine dd ?_|(show T _ (.ops _ (_::_)::_) _ _ _;refine T_callE rfl rfl rfl rfl rfl (fun w hw=>pairs_spec k w) (fun g _=>?_))|(show ∀ _:Nat,T _ _ _ _ _;intro _))
  rename_i ps _
  have hps:∀ (j:Nat) (y:List Value),(pairVs k)[j]?=some y→∃ p,(pairsL k)[j]?=some p∧y=[.int .i64 (p.1:Nat), .int .i64 (p.2:Nat)]:=by
   intro j y hy
   unfold pairVs at hy
   rw [List.getElem?_map] at hy
   cases hp:(pairsL k)[j]? with
   | none=>rw [hp] at hy;cases hy
   | some p=>rw [hp] at hy;exact⟨p,rfl,(Option.some.inj hy).symm⟩
  refine T_range (pairs_iter k g (by omega)) rfl (fun j y hy=>by obtain⟨p,_,rfl⟩:=hps j y hy;exact⟨rfl,rfl⟩)
   (fun j H=>H=[blk ps [.int .i64 (psum (cellC c l b) ((pairsL k).take j))] 3,blk pb [.slice B m cb] 189,blk pl [.slice A k ca] 30,blk pc c.cells 65]) (fun _=>False) (fun _ _=>False)
   [blk ps [.int .i64 0] 3,blk pb [.slice B m cb] 189,blk pl [.slice A k ca] 30,blk pc c.cells 65] rfl (Hle.refl _) ?_ ?_ (fun _ _ h=>h.elim) (fun _ _ _ h=>h.elim)
  ·rintro L r j y Hj K hr hy rfl
   obtain⟨⟨i,q⟩,hp,rfl⟩:=hps j y hy
   have hmem:=pairsL_mem.1 (List.mem_of_getElem? hp)
   have hlen:=pairsL_len k
   have hjl:j<(pairsL k).length:=(List.getElem?_eq_some_iff.1 hp).1
   have h9:k * k≤32 * 32:=Nat.mul_le_mul (by omega) (by omega)
   have hsum:=psum_cell h l b ((pairsL k).take j)
   have hcell:=cellC_bd h l b i q
   rw [List.length_take] at hsum
   have hnext:psum (cellC c l b) ((pairsL k).take (j+1))=psum (cellC c l b) ((pairsL k).take j)+cellC c l b i q:=by
    rw [take_snoc _ _ _ hp,psum_snoc]
   obtain⟨ba,oa,rfl⟩:=hl.base (by omega)
   obtain⟨bb,ob,rfl⟩:=hb.base (by omega)
   have hr1:RdC w ba (oa+(i:Int).toNat * 6) (tkA l i).cells:=hl.getT (by omega) (tkA_get (by omega))
   have hr2:RdC w ba (oa+(q:Int).toNat * 6) (tkA l q).cells:=hl.getT (by omega) (tkA_get (by omega))
   have hr3:RdC w bb (ob+(i:Int).toNat * 1) [.bool (thA b i)]:=(hb.get1 (by omega) (by rw [List.getElem?_map,thA_get (by omega)];rfl)).2
   have hr4:RdC w bb (ob+(q:Int).toNat * 1) [.bool (thA b q)]:=(hb.get1 (by omega) (by rw [List.getElem?_map,thA_get (by omega)];rfl)).2
   show T _ _ ((45, .int .i64 (q:Nat))::(44, .int .i64 (i:Nat))::_) _ (lrec L r::blk ps [.int .i64 (psum (cellC c l b) ((pairsL k).take j))] 3::blk pb [.slice _ m cb] 189::blk pl [.slice _ k ca] 30::blk pc c.cells 65::K)
   repeat' (first|refine d1 ?_|refine dd ?_|(show ∀ _:Nat,T _ _ _ _ _;intro _)|(show T _ _ _ _ _;refine T_begin hr rfl ?_))
   have hnorm:(tkA l i).norm.size≤65536∧(tkA l q).norm.size≤65536:=⟨(hsm _ (tkA_mem (by omega))).2.1,(hsm _ (tkA_mem (by omega))).2.1⟩
   refine T_if rfl (fun h5=>?_) (fun h5=>?_)
   ·have h6:=h5
    simp only [Bool.and_eq_true] at h6
    have k1:=tokE_ok (hok i (by omega) h6.1)
    have k2:=tokE_ok (hok q (by omega) h6.2)
    have e:cellC c l b i q=pairC c (tkA l i) (tkA l q):=by unfold cellC;rw [if_pos h5]
    rw [e] at hcell hnext
    repeat' (first|refine d1 ?_|refine dd ?_|(show T _ (.ops _ (_::_)::_) _ _ _;first|refine T_call rfl rfl rfl rfl rfl (fun w hw=>pairPrg_spec c (tkA l i) (tkA l q) h k1.1 k2.1 (by omega) (by omega) w) ?_|refine T_callC rfl rfl rfl rfl rfl rfl rfl (fun hg w hw=>pairPrg_spec c (tkA l i) (tkA l q) h k1.1 k2.1 (by omega) (by omega) w) ?_)|(show T _ (.run _ _ (_::_) _ _::_) _ _ _;first|refine rc rfl rfl rfl rfl rfl rfl rfl (fun w hw=>pairPrg_spec c (tkA l i) (tkA l q) h k1.1 k2.1 (by omega) (by omega) w) ?_|refine rcG rfl rfl rfl rfl rfl rfl rfl rfl rfl (fun hg w hw=>pairPrg_spec c (tkA l i) (tkA l q) h k1.1 k2.1 (by omega) (by omega) w) ?_)|(show ∀ _:Nat,T _ _ _ _ _;intro _))
    refine T_next _ rfl ?_
    rw [hnext]
    exact Hle.refl _
   ·repeat' (first|refine d1 ?_|refine dd ?_|(show ∀ _:Nat,T _ _ _ _ _;intro _))
    refine T_if rfl (fun h6=>?_) (fun h6=>?_)
    ·have k1:=tokE_ok (hok i (by omega) h6)
     have e:cellC c l b i q=gapC c (tkA l i):=by unfold cellC;rw [if_neg (by rw [h5];simp),if_pos h6]
     rw [e] at hcell hnext
     repeat' (first|refine d1 ?_|refine dd ?_|(show T _ (.ops _ (_::_)::_) _ _ _;first|refine T_call rfl rfl rfl rfl rfl (fun w hw=>gapPrgC_spec c (tkA l i) (costE_ok h).1 k1.1 w) ?_|refine T_callC rfl rfl rfl rfl rfl rfl rfl (fun hg w hw=>gapPrgC_spec c (tkA l i) (costE_ok h).1 k1.1 w) ?_)|(show T _ (.run _ _ (_::_) _ _::_) _ _ _;first|refine rc rfl rfl rfl rfl rfl rfl rfl (fun w hw=>gapPrgC_spec c (tkA l i) (costE_ok h).1 k1.1 w) ?_|refine rcG rfl rfl rfl rfl rfl rfl rfl rfl rfl (fun hg w hw=>gapPrgC_spec c (tkA l i) (costE_ok h).1 k1.1 w) ?_)|(show ∀ _:Nat,T _ _ _ _ _;intro _))
     refine T_next _ rfl ?_
     rw [hnext]
     exact Hle.refl _
    ·repeat' (first|refine d1 ?_|refine dd ?_|(show ∀ _:Nat,T _ _ _ _ _;intro _))
     refine T_if rfl (fun h7=>?_) (fun h7=>?_)
     ·have k2:=tokE_ok (hok q (by omega) h7)
      have e:cellC c l b i q=gapC c (tkA l q):=by unfold cellC;rw [if_neg (by rw [h5];simp),if_neg (by rw [h6];simp),if_pos h7]
      rw [e] at hcell hnext
      repeat' (first|refine d1 ?_|refine dd ?_|(show T _ (.ops _ (_::_)::_) _ _ _;first|refine T_call rfl rfl rfl rfl rfl (fun w hw=>gapPrgC_spec c (tkA l q) (costE_ok h).1 k2.1 w) ?_|refine T_callC rfl rfl rfl rfl rfl rfl rfl (fun hg w hw=>gapPrgC_spec c (tkA l q) (costE_ok h).1 k2.1 w) ?_)|(show T _ (.run _ _ (_::_) _ _::_) _ _ _;first|refine rc rfl rfl rfl rfl rfl rfl rfl (fun w hw=>gapPrgC_spec c (tkA l q) (costE_ok h).1 k2.1 w) ?_|refine rcG rfl rfl rfl rfl rfl rfl rfl rfl rfl (fun hg w hw=>gapPrgC_spec c (tkA l q) (costE_ok h).1 k2.1 w) ?_)|(show ∀ _:Nat,T _ _ _ _ _;intro _))
      refine T_next _ rfl ?_
      rw [hnext]
      exact Hle.refl _
     ·have e:cellC c l b i q=0:=by unfold cellC;rw [if_neg (by rw [h5];simp),if_neg (by rw [h6];simp),if_neg (by rw [h7];simp)]
      rw [e,Int.add_zero] at hnext
      repeat' (first|refine d1 ?_|refine dd ?_|(show ∀ _:Nat,T _ _ _ _ _;intro _))
      refine T_next _ rfl ?_
      rw [hnext]
      exact Hle.refl _
  ·rintro D Hn rfl
   show T _ _ _ _ (dfr D::blk g [.int .i64 k] 3::blk ps _ 3::_)
   have e:psum (cellC c l b) ((pairsL k).take (pairVs k).length)=(columnV c l b).1:=by
    rw [hcv,show (pairVs k).length=(pairsL k).length by unfold pairVs;rw [List.length_map],List.take_length,hn]
   rw [e]
   repeat' (first|refine d1 ?_|refine dd ?_|(show ∀ _:Nat,T _ _ _ _ _;intro _)|(show T _ (.code .ret::_) _ _ _;refine T_retD (Hle.refl _) (rf_V (vs:=[.int .i64 (columnV c l b).1, .int .i64 0]) [] rfl (Hle.none _) ⟨?_,rfl⟩)))
   rw [hcv];rfl

end Go.Proofs.YtbfcfpmholkmeaaGreatDoor
namespace Go.Proofs.YtbfcfpmholkmeaaGreatDoor
open Go.RowKit Go.Shelf Go.Proofs
set_option maxRecDepth 100000
set_option maxHeartbeats 1000000

def hdr (n:Nat) (x:Nat × List Value):Value := .slice (some ⟨x.1,0,none⟩) n (n+1)
end Go.Proofs.YtbfcfpmholkmeaaGreatDoor
namespace Go.Proofs.YtbfcfpmholkmeaaGreatDoor

end Go.Proofs.YtbfcfpmholkmeaaGreatDoor
namespace Go.Proofs.YtbfcfpmholkmeaaGreatDoor

theorem Rd.ints {w:World} {x:Value} {p:List Int} (h:Rd (wr w) [x] [intsD p]):∃ A cap,x = .slice A p.length cap∧p.length≤9223372036854775807∧Src w 1 A p.length (p.map (Value.int .i64)):=by
 have h':Rd (wr w) [x] [.s 1 ((p.map (Value.int .i64)).map .v)]:=by rw [List.map_map];exact h
 obtain⟨A,n,cap,rfl,h1,h2,h3,h4⟩:=h'.srcV
 have e:n=p.length:=by simpa using h1.symm
 subst e
 exact⟨A,cap,rfl,by omega,h4⟩
theorem list_eq_of {α:Type} {p q:List α} (hl:p.length=q.length) (h:∀ j,j<p.length→p[j]?=q[j]?):p=q :=
 List.ext_getElem? fun j=>by
  rcases Nat.lt_or_ge j p.length with h1|h1
  ·exact h j h1
  ·rw [List.getElem?_eq_none h1,List.getElem?_eq_none (by omega)]
end Go.Proofs.YtbfcfpmholkmeaaGreatDoor
namespace Go.Proofs.YtbfcfpmholkmeaaGreatDoor
open Go.RowKit Go.Shelf Go.Proofs
set_option maxRecDepth 100000
set_option maxHeartbeats 1000000

def grdOf (c:Costs) (a b:List Tok):Grd:=⟨a.length,b.length,fun i k=>pairC c (tkA a i) (tkA b k),fun i=>gapC c (tkA a i),fun k=>gapC c (tkA b k)⟩
def gaL (c:Costs) (a:List Tok):List Int:=a.map (gapC c)
theorem gaL_get {c:Costs} {a:List Tok} {i:Nat} (h:i<a.length):(gaL c a)[i]?=some (gapC c (tkA a i)):=by unfold gaL;rw [List.getElem?_map,tkA_get h];rfl
def ckV (c:Costs) (a b:List Tok):Int:=if costE c≠0∨badL a=true∨badL b=true then 1 else 0
theorem badL_false {l:List Tok}:badL l=false↔∀ t∈l,tokE t=0:=by
 unfold badL;rw [List.any_eq_false];simp
theorem ckV_ok {c:Costs} {a b:List Tok} (h:ckV c a b=0):costE c=0∧(∀ t∈a,tokE t=0)∧∀ t∈b,tokE t=0:=by
 unfold ckV at h
 by_cases hh:costE c≠0∨badL a=true∨badL b=true
 ·rw [if_pos hh] at h;omega
 ·simp only [not_or,Bool.not_eq_true,Classical.not_not] at hh
  exact⟨hh.1,badL_false.1 hh.2.1,badL_false.1 hh.2.2⟩
def srcsL (c:Costs) (A B:Option Addr) (n m ca cb:Nat) (x y:Value):List Value:=[.int .i64 c.gap, .int .i64 c.norm, .int .i64 c.letter, .int .i64 c.most, .slice A n ca, .slice B m cb,x,y]
theorem pcheck1_spec (t:Tok) (ht:t.small) (w:World) (hst:Std w):Spec Tryz.prog 205 [t.val] w (fun v A=>v = .bool (!decide (tokE t=0))∧A=[]):=by
 refine spec_of sg Tryz.func205 rfl rfl rfl ?_
 repeat' (first|(show T _ (.ops _ (⟨_, .box _ _,_,_,_,_⟩::_)::_) _ _ _;refine T_op (OpT.box (cs:=t.cells) rfl rfl rfl rfl rfl rfl rfl (fun _=>?_)))|refine d1 ?_|refine dd ?_|(show T _ (.ops _ (_::_)::_) _ _ _;first|refine T_call rfl rfl rfl rfl rfl (fun w hw=>tokPrg_spec t ht w (hst.cls ‹_›)) ?_|refine T_callC rfl rfl rfl rfl rfl rfl rfl (fun hg w hw=>tokPrg_spec t ht w (hst.cls ‹_›)) ?_)|(show T _ (.run _ _ (_::_) _ _::_) _ _ _;first|refine rc rfl rfl rfl rfl rfl rfl rfl (fun w hw=>tokPrg_spec t ht w (hst.cls ‹_›)) ?_|refine rcG rfl rfl rfl rfl rfl rfl rfl rfl rfl (fun hg w hw=>tokPrg_spec t ht w (hst.cls ‹_›)) ?_)|(show ∀ _:Nat,T _ _ _ _ _;intro _)|(show T _ (.code .ret::_) _ _ _;refine T_retV [] rfl (Hle.none _) ⟨rfl,rfl⟩))
theorem pcheck_bad (c:Costs) (A B:Option Addr) (n m ca cb:Nat) (a b:List Tok) (w:World) (hst:Std w) (ha:Src w 6 A n (a.flatMap Tok.cells)) (hn:a.length=n) (hnb:n≤1000)
  (hb:Src w 6 B m (b.flatMap Tok.cells)) (hm:b.length=m) (hmb:m≤1000) (hsa:∀ t∈a,t.small) (hsb:∀ t∈b,t.small) (hk:ckV c a b≠0) :
  Spec Tryz.prog 164 [c.val, .slice A n ca, .slice B m cb] w (fun v R=>v = .tuple #[.agg (srcsL ⟨0,0,0,0⟩ none none 0 0 0 0 (.slice none 0 0) (.slice none 0 0)).toArray, .int .i64 1]∧R=[]):=by
 refine spec_of sg Tryz.func164 rfl rfl rfl ?_
 refine T_op (OpT.box (cs:=c.cells) rfl rfl rfl rfl rfl rfl rfl (fun pc=>?_))
 repeat' (first|refine d1 ?_|refine dd ?_|(show T _ (.ops _ (_::_)::_) _ _ _;first|refine T_call rfl rfl rfl rfl rfl (fun w hw=>costPrg_spec c w) ?_|refine T_callC rfl rfl rfl rfl rfl rfl rfl (fun hg w hw=>costPrg_spec c w) ?_|refine T_call rfl rfl rfl rfl rfl (fun w hw=>containsFuncT_spec A n ca a _ [] [] (fun t => !decide (tokE t=0)) w (rdSrc ha w ‹_›) hn (by omega) (fun x hx w' hb'=>pcheck1_spec x (hsa x hx) w' ((hst.cls ‹_›).below hb'))) ?_|refine T_callC rfl rfl rfl rfl rfl rfl rfl (fun hg w hw=>containsFuncT_spec A n ca a _ [] [] (fun t => !decide (tokE t=0)) w (rdSrc ha w ‹_›) hn (by omega) (fun x hx w' hb'=>pcheck1_spec x (hsa x hx) w' ((hst.cls ‹_›).below hb'))) ?_|refine T_call rfl rfl rfl rfl rfl (fun w hw=>containsFuncT_spec B m cb b _ [] [] (fun t => !decide (tokE t=0)) w (rdSrc hb w ‹_›) hm (by omega) (fun x hx w' hb'=>pcheck1_spec x (hsb x hx) w' ((hst.cls ‹_›).below hb'))) ?_|refine T_callC rfl rfl rfl rfl rfl rfl rfl (fun hg w hw=>containsFuncT_spec B m cb b _ [] [] (fun t => !decide (tokE t=0)) w (rdSrc hb w ‹_›) hm (by omega) (fun x hx w' hb'=>pcheck1_spec x (hsb x hx) w' ((hst.cls ‹_›).below hb'))) ?_)|(show T _ (.run _ _ (_::_) _ _::_) _ _ _;first|refine rc rfl rfl rfl rfl rfl rfl rfl (fun w hw=>costPrg_spec c w) ?_|refine rcG rfl rfl rfl rfl rfl rfl rfl rfl rfl (fun hg w hw=>costPrg_spec c w) ?_|refine rc rfl rfl rfl rfl rfl rfl rfl (fun w hw=>containsFuncT_spec A n ca a _ [] [] (fun t => !decide (tokE t=0)) w (rdSrc ha w ‹_›) hn (by omega) (fun x hx w' hb'=>pcheck1_spec x (hsa x hx) w' ((hst.cls ‹_›).below hb'))) ?_|refine rcG rfl rfl rfl rfl rfl rfl rfl rfl rfl (fun hg w hw=>containsFuncT_spec A n ca a _ [] [] (fun t => !decide (tokE t=0)) w (rdSrc ha w ‹_›) hn (by omega) (fun x hx w' hb'=>pcheck1_spec x (hsa x hx) w' ((hst.cls ‹_›).below hb'))) ?_|refine rc rfl rfl rfl rfl rfl rfl rfl (fun w hw=>containsFuncT_spec B m cb b _ [] [] (fun t => !decide (tokE t=0)) w (rdSrc hb w ‹_›) hm (by omega) (fun x hx w' hb'=>pcheck1_spec x (hsb x hx) w' ((hst.cls ‹_›).below hb'))) ?_|refine rcG rfl rfl rfl rfl rfl rfl rfl rfl rfl (fun hg w hw=>containsFuncT_spec B m cb b _ [] [] (fun t => !decide (tokE t=0)) w (rdSrc hb w ‹_›) hm (by omega) (fun x hx w' hb'=>pcheck1_spec x (hsb x hx) w' ((hst.cls ‹_›).below hb'))) ?_)|(show ∀ _:Nat,T _ _ _ _ _;intro _))
 rename_i p6
 refine T_if rfl (fun h=>?_) (fun h=>?_)
 ·repeat' (first|refine d1 ?_|refine dd ?_|(show T _ (.ops _ (_::_)::_) _ _ _;refine T_op (OpT.storeA rfl rfl rfl rfl rfl rfl (by decide) ?_))|(show ∀ _:Nat,T _ _ _ _ _;intro _))
  exact T_retM (vs:=[.agg (srcsL ⟨0,0,0,0⟩ none none 0 0 0 0 (.slice none 0 0) (.slice none 0 0)).toArray, .int .i64 1]) [] ⟨⟨p6,_,srcsL ⟨0,0,0,0⟩ none none 0 0 0 0 (.slice none 0 0) (.slice none 0 0),rfl,rfl,rfl,rfl,(fun h=>by cases h),rfl,rdAll⟩,rfl,trivial⟩ (Hle.none _) ⟨rfl,rfl⟩
 ·exfalso
  apply hk
  simp only [Bool.or_eq_false_iff,Bool.not_eq_false',decide_eq_true_eq] at h
  unfold ckV badL
  rw [if_neg]
  rw [h.1.2,h.2]
  simp [h.1.1]
theorem size_law {n m:Nat} (h:n≤1000) (k:m≤1000):0≤((n:Int)+1) * ((m:Int)+1)∧((n:Int)+1) * ((m:Int)+1)≤1048576:=by
 have:=Nat.mul_le_mul (show n+1≤1001 by omega) (show m+1≤1001 by omega)
 have e:((n:Int)+1) * ((m:Int)+1)=((n+1) * (m+1):Nat):=by push_cast;rfl
 omega
theorem gaL_take {c:Costs} {a:List Tok} {k:Nat} (h:k<a.length):((gaL c a).take (k+1)).map (Value.int .i64)=((gaL c a).take k).map (Value.int .i64)++[.int .i64 (gapC c (tkA a k))]:=by
 rw [take_snoc _ _ _ (gaL_get h),List.map_append];rfl
theorem gaL_length (c:Costs) (a:List Tok):(gaL c a).length=a.length:=by simp [gaL]
theorem pcheck_ok (c:Costs) (A B:Option Addr) (n m ca cb:Nat) (a b:List Tok) (w:World) (hst:Std w) (ha:Src w 6 A n (a.flatMap Tok.cells)) (hn:a.length=n) (hnb:n≤1000)
  (hb:Src w 6 B m (b.flatMap Tok.cells)) (hm:b.length=m) (hmb:m≤1000) (hsa:∀ t∈a,t.small) (hsb:∀ t∈b,t.small) (hk:ckV c a b=0) :
  Spec Tryz.prog 164 [c.val, .slice A n ca, .slice B m cb] w (fun v R=>∃ x:Value × Value,v = .tuple #[.agg (srcsL c A B n m ca cb x.1 x.2).toArray, .int .i64 0]∧R=[dat [x.1] [intsD (gaL c a)],dat [x.2] [intsD (gaL c b)]]):=by
 obtain⟨hc,ka,kb⟩:=ckV_ok hk
 obtain⟨c1,c2,c3,c4,c5⟩:=costE_ok hc
 have hga:∀ i,i<n→gapV c (tkA a i)=(gapC c (tkA a i),0):=fun i hi=>by unfold gapV;rw [if_pos ⟨hc,ka _ (tkA_mem (by omega))⟩]
 have hgb:∀ i,i<m→gapV c (tkA b i)=(gapC c (tkA b i),0):=fun i hi=>by unfold gapV;rw [if_pos ⟨hc,kb _ (tkA_mem (by omega))⟩]
 have hsz:=size_law hnb hmb
 refine spec_of sg Tryz.func164 rfl rfl rfl ?_
 refine T_op (OpT.box (cs:=c.cells) rfl rfl rfl rfl rfl rfl rfl (fun pc=>?_))
 repeat' (first|refine d1 ?_|refine dd ?_|(show T _ (.ops _ (_::_)::_) _ _ _;first|refine T_call rfl rfl rfl rfl rfl (fun w hw=>costPrg_spec c w) ?_|refine T_callC rfl rfl rfl rfl rfl rfl rfl (fun hg w hw=>costPrg_spec c w) ?_|refine T_call rfl rfl rfl rfl rfl (fun w hw=>containsFuncT_spec A n ca a _ [] [] (fun t => !decide (tokE t=0)) w (rdSrc ha w ‹_›) hn (by omega) (fun x hx w' hb'=>pcheck1_spec x (hsa x hx) w' ((hst.cls ‹_›).below hb'))) ?_|refine T_callC rfl rfl rfl rfl rfl rfl rfl (fun hg w hw=>containsFuncT_spec A n ca a _ [] [] (fun t => !decide (tokE t=0)) w (rdSrc ha w ‹_›) hn (by omega) (fun x hx w' hb'=>pcheck1_spec x (hsa x hx) w' ((hst.cls ‹_›).below hb'))) ?_|refine T_call rfl rfl rfl rfl rfl (fun w hw=>containsFuncT_spec B m cb b _ [] [] (fun t => !decide (tokE t=0)) w (rdSrc hb w ‹_›) hm (by omega) (fun x hx w' hb'=>pcheck1_spec x (hsb x hx) w' ((hst.cls ‹_›).below hb'))) ?_|refine T_callC rfl rfl rfl rfl rfl rfl rfl (fun hg w hw=>containsFuncT_spec B m cb b _ [] [] (fun t => !decide (tokE t=0)) w (rdSrc hb w ‹_›) hm (by omega) (fun x hx w' hb'=>pcheck1_spec x (hsb x hx) w' ((hst.cls ‹_›).below hb'))) ?_)|(show T _ (.run _ _ (_::_) _ _::_) _ _ _;first|refine rc rfl rfl rfl rfl rfl rfl rfl (fun w hw=>costPrg_spec c w) ?_|refine rcG rfl rfl rfl rfl rfl rfl rfl rfl rfl (fun hg w hw=>costPrg_spec c w) ?_|refine rc rfl rfl rfl rfl rfl rfl rfl (fun w hw=>containsFuncT_spec A n ca a _ [] [] (fun t => !decide (tokE t=0)) w (rdSrc ha w ‹_›) hn (by omega) (fun x hx w' hb'=>pcheck1_spec x (hsa x hx) w' ((hst.cls ‹_›).below hb'))) ?_|refine rcG rfl rfl rfl rfl rfl rfl rfl rfl rfl (fun hg w hw=>containsFuncT_spec A n ca a _ [] [] (fun t => !decide (tokE t=0)) w (rdSrc ha w ‹_›) hn (by omega) (fun x hx w' hb'=>pcheck1_spec x (hsa x hx) w' ((hst.cls ‹_›).below hb'))) ?_|refine rc rfl rfl rfl rfl rfl rfl rfl (fun w hw=>containsFuncT_spec B m cb b _ [] [] (fun t => !decide (tokE t=0)) w (rdSrc hb w ‹_›) hm (by omega) (fun x hx w' hb'=>pcheck1_spec x (hsb x hx) w' ((hst.cls ‹_›).below hb'))) ?_|refine rcG rfl rfl rfl rfl rfl rfl rfl rfl rfl (fun hg w hw=>containsFuncT_spec B m cb b _ [] [] (fun t => !decide (tokE t=0)) w (rdSrc hb w ‹_›) hm (by omega) (fun x hx w' hb'=>pcheck1_spec x (hsb x hx) w' ((hst.cls ‹_›).below hb'))) ?_)|(show ∀ _:Nat,T _ _ _ _ _;intro _))
 rename_i p6
 refine T_if rfl (fun h=>?_) (fun h=>?_)
 ·exfalso
  rw [hc] at h
  have e1:=badL_false.2 ka
  have e2:=badL_false.2 kb
  unfold badL at e1 e2
  rw [e1,e2] at h
  simp at h
 repeat' (first|refine d1 ?_|refine dd ?_|(show ∀ _:Nat,T _ _ _ _ _;intro _))
 refine T_if rfl (fun h2=>?_) (fun h2=>?_)
 ·exfalso
  simp only [Bool.or_eq_true,decide_eq_true_eq] at h2
  omega
 repeat' (first|refine d1 ?_|refine dd ?_|(show T _ (.ops _ (_::_)::_) _ _ _;first|refine T_val rfl (Val.buildA rfl) rfl rfl rfl ?_|refine T_valC rfl (Val.buildA rfl) rfl rfl rfl rfl rfl ?_|refine T_op (OpT.storeA rfl rfl rfl rfl rfl rfl (by decide) ?_))|(show T _ (.run _ _ (_::_) _ _::_) _ _ _;first|refine rv rfl rfl rfl (Val.buildA rfl) rfl rfl rfl ?_|refine rg rfl rfl rfl (Val.buildA rfl) rfl rfl rfl rfl rfl ?_)|(show ∀ _:Nat,T _ _ _ _ _;intro _))
 rename_i p9
 refine T_le (H':=[blk p9 (srcsL c A B n m ca cb (.slice none 0 0) (.slice none 0 0)) 226,blk p6 _ 226,blk pc c.cells 65]) (Hle.refl _) ?_
 refine T_nilrow 3 1 ?_
 refine T_nilrow 3 1 ?_
 refine T_loopX (fun x:Nat × (Option Addr × Nat) × (Option Addr × Nat)=>[(56, .int .i64 x.1)]) (fun x=>[row 3 1 x.2.1.1 x.2.1.2 (if 0<x.1 then n else 0) (if 0<x.1 then (gaL c a).map (Value.int .i64) else []),row 3 1 x.2.2.1 x.2.2.2 (if 1<x.1 then m else 0) (if 1<x.1 then (gaL c b).map (Value.int .i64) else []),blk p9 (srcsL c A B n m ca cb (.slice x.2.1.1 (if 0<x.1 then n else 0) x.2.1.2) (.slice x.2.2.1 (if 1<x.1 then m else 0) x.2.2.2)) 226,blk p6 (srcsL ⟨0,0,0,0⟩ none none 0 0 0 0 (.slice none 0 0) (.slice none 0 0)) 226,blk pc c.cells 65]) (fun x=>x.1≤2) (fun x=>2 - x.1) (0,(none,0),(none,0)) (Nat.zero_le _) ?_
 rintro⟨i,⟨A1,cap1⟩,⟨A2,cap2⟩⟩ hi
 dsimp only at hi ⊢
 repeat' (first|refine d1 ?_|refine dd ?_|(show ∀ _:Nat,T _ _ _ _ _;intro _))
 refine T_if rfl (fun h3=>?_) (fun h3=>?_)
 ·simp only [decide_eq_true_eq] at h3
  rcases (show i=0∨i=1 by omega) with rfl|rfl
  ·refine T_le (H':=[row 3 1 A1 cap1 0 [],row 3 1 A2 cap2 0 [],blk p9 (srcsL c A B n m ca cb (.slice A1 0 cap1) (.slice A2 0 cap2)) 226,blk p6 _ 226,blk pc c.cells 65]) (Hle.refl _) ?_
   repeat' (first|refine d1 ?_|refine dd ?_|(show T _ (.ops _ (_::_)::_) _ _ _;first|refine T_val rfl (Val.indexA rfl (fun _=>by omega)) rfl rfl rfl ?_|refine T_valC rfl (Val.indexA rfl (fun _=>by omega)) rfl rfl rfl rfl rfl ?_)|(show T _ (.run _ _ (_::_) _ _::_) _ _ _;first|refine rv rfl rfl rfl (Val.indexA rfl (fun _=>by omega)) rfl rfl rfl ?_|refine rg rfl rfl rfl (Val.indexA rfl (fun _=>by omega)) rfl rfl rfl rfl rfl ?_)|(show ∀ _:Nat,T _ _ _ _ _;intro _))
   refine T_loopX (fun x:Nat × Option Addr × Nat=>[(62, .int .i64 x.1)]) (fun x=>[row 3 1 x.2.1 x.2.2 x.1 (((gaL c a).take x.1).map (Value.int .i64)),row 3 1 A2 cap2 0 [],blk p9 (srcsL c A B n m ca cb (.slice x.2.1 x.1 x.2.2) (.slice A2 0 cap2)) 226,blk p6 (srcsL ⟨0,0,0,0⟩ none none 0 0 0 0 (.slice none 0 0) (.slice none 0 0)) 226,blk pc c.cells 65]) (fun x=>x.1≤n) (fun x=>n - x.1) (0,A1,cap1) (Nat.zero_le _) ?_
   rintro⟨k,A1',cap1'⟩ hk1
   dsimp only at hk1 ⊢
   repeat' (first|refine d1 ?_|refine dd ?_|(show ∀ _:Nat,T _ _ _ _ _;intro _))
   refine T_if rfl (fun h4=>?_) (fun h4=>?_)
   ·simp only [decide_eq_true_eq] at h4
    obtain⟨bx,ox,rfl⟩:=ha.base (by omega)
    have hr1:RdC w bx (ox+(k:Int).toNat * 6) (tkA a k).cells:=ha.getT (by omega) (tkA_get (by omega))
    repeat' (first|refine d1 ?_|refine dd ?_|(show T _ (.ops _ (_::_)::_) _ _ _;first|refine T_call rfl rfl rfl rfl rfl (fun w hw=>gapTop_spec c (tkA a k) (hsa _ (tkA_mem (by omega))) w (hst.cls ‹_›)) ?_|refine T_callC rfl rfl rfl rfl rfl rfl rfl (fun hg w hw=>gapTop_spec c (tkA a k) (hsa _ (tkA_mem (by omega))) w (hst.cls ‹_›)) ?_)|(show T _ (.run _ _ (_::_) _ _::_) _ _ _;first|refine rc rfl rfl rfl rfl rfl rfl rfl (fun w hw=>gapTop_spec c (tkA a k) (hsa _ (tkA_mem (by omega))) w (hst.cls ‹_›)) ?_|refine rcG rfl rfl rfl rfl rfl rfl rfl rfl rfl (fun hg w hw=>gapTop_spec c (tkA a k) (hsa _ (tkA_mem (by omega))) w (hst.cls ‹_›)) ?_)|(show ∀ _:Nat,T _ _ _ _ _;intro _))
    rw [hga k (by omega)]
    refine T_if rfl (fun h5=>?_) (fun h5=>?_)
    ·cases h5
    repeat' (first|refine d1 ?_|refine dd ?_|(show T _ (.ops _ (_::_)::_) _ _ _;refine T_op (OpT.append rfl rfl rfl rfl rfl rfl rfl rfl rfl rfl (fun w hw=>Src.own hw rfl) rfl (by dsimp only;omega) (by omega) (fun A' cap' hA'=>?_)))|(show ∀ _:Nat,T _ _ _ _ _;intro _))
    refine T_backX (k+1,A',cap') (Nat.succ_le_of_lt (by omega)) (by dsimp only;omega) (hG:=?_)
    dsimp only
    rw [gaL_take (by omega)]
    exact (Hle.tail _ _).trans (Hle.tail _ _)
   ·simp only [decide_eq_false_iff_not] at h4
    obtain rfl:k=n:=by omega
    repeat' (first|refine d1 ?_|refine dd ?_|(show ∀ _:Nat,T _ _ _ _ _;intro _))
    refine T_backX (1,(A1',cap1'),(A2,cap2)) (show 1≤2 by omega) (show 2 - 1<2 - 0 by omega) (hG:=?_)
    rw [List.take_of_length_le (by rw [gaL_length];omega)]
    exact Hle.refl _
  ·refine T_le (H':=[row 3 1 A1 cap1 n ((gaL c a).map (Value.int .i64)),row 3 1 A2 cap2 0 [],blk p9 (srcsL c A B n m ca cb (.slice A1 n cap1) (.slice A2 0 cap2)) 226,blk p6 _ 226,blk pc c.cells 65]) (Hle.refl _) ?_
   repeat' (first|refine d1 ?_|refine dd ?_|(show T _ (.ops _ (_::_)::_) _ _ _;first|refine T_val rfl (Val.indexA rfl (fun _=>by omega)) rfl rfl rfl ?_|refine T_valC rfl (Val.indexA rfl (fun _=>by omega)) rfl rfl rfl rfl rfl ?_)|(show T _ (.run _ _ (_::_) _ _::_) _ _ _;first|refine rv rfl rfl rfl (Val.indexA rfl (fun _=>by omega)) rfl rfl rfl ?_|refine rg rfl rfl rfl (Val.indexA rfl (fun _=>by omega)) rfl rfl rfl rfl rfl ?_)|(show ∀ _:Nat,T _ _ _ _ _;intro _))
   refine T_loopX (fun x:Nat × Option Addr × Nat=>[(62, .int .i64 x.1)]) (fun x=>[row 3 1 A1 cap1 n ((gaL c a).map (Value.int .i64)),row 3 1 x.2.1 x.2.2 x.1 (((gaL c b).take x.1).map (Value.int .i64)),blk p9 (srcsL c A B n m ca cb (.slice A1 n cap1) (.slice x.2.1 x.1 x.2.2)) 226,blk p6 (srcsL ⟨0,0,0,0⟩ none none 0 0 0 0 (.slice none 0 0) (.slice none 0 0)) 226,blk pc c.cells 65]) (fun x=>x.1≤m) (fun x=>m - x.1) (0,A2,cap2) (Nat.zero_le _) ?_
   rintro⟨k,A1',cap1'⟩ hk1
   dsimp only at hk1 ⊢
   repeat' (first|refine d1 ?_|refine dd ?_|(show ∀ _:Nat,T _ _ _ _ _;intro _))
   refine T_if rfl (fun h4=>?_) (fun h4=>?_)
   ·simp only [decide_eq_true_eq] at h4
    obtain⟨bx,ox,rfl⟩:=hb.base (by omega)
    have hr1:RdC w bx (ox+(k:Int).toNat * 6) (tkA b k).cells:=hb.getT (by omega) (tkA_get (by omega))
    repeat' (first|refine d1 ?_|refine dd ?_|(show T _ (.ops _ (_::_)::_) _ _ _;first|refine T_call rfl rfl rfl rfl rfl (fun w hw=>gapTop_spec c (tkA b k) (hsb _ (tkA_mem (by omega))) w (hst.cls ‹_›)) ?_|refine T_callC rfl rfl rfl rfl rfl rfl rfl (fun hg w hw=>gapTop_spec c (tkA b k) (hsb _ (tkA_mem (by omega))) w (hst.cls ‹_›)) ?_)|(show T _ (.run _ _ (_::_) _ _::_) _ _ _;first|refine rc rfl rfl rfl rfl rfl rfl rfl (fun w hw=>gapTop_spec c (tkA b k) (hsb _ (tkA_mem (by omega))) w (hst.cls ‹_›)) ?_|refine rcG rfl rfl rfl rfl rfl rfl rfl rfl rfl (fun hg w hw=>gapTop_spec c (tkA b k) (hsb _ (tkA_mem (by omega))) w (hst.cls ‹_›)) ?_)|(show ∀ _:Nat,T _ _ _ _ _;intro _))
    rw [hgb k (by omega)]
    refine T_if rfl (fun h5=>?_) (fun h5=>?_)
    ·cases h5
    repeat' (first|refine d1 ?_|refine dd ?_|(show T _ (.ops _ (_::_)::_) _ _ _;refine T_op (OpT.append rfl rfl rfl rfl rfl rfl rfl rfl rfl rfl (fun w hw=>Src.own hw rfl) rfl (by dsimp only;omega) (by omega) (fun A' cap' hA'=>?_)))|(show ∀ _:Nat,T _ _ _ _ _;intro _))
    refine T_backX (k+1,A',cap') (Nat.succ_le_of_lt (by omega)) (by dsimp only;omega) (hG:=?_)
    dsimp only
    rw [gaL_take (by omega)]
    exact (Hle.tail _ _).trans (Hle.tail _ _)
   ·simp only [decide_eq_false_iff_not] at h4
    obtain rfl:k=m:=by omega
    repeat' (first|refine d1 ?_|refine dd ?_|(show ∀ _:Nat,T _ _ _ _ _;intro _))
    refine T_backX (2,(A1,cap1),(A1',cap1')) (show 2≤2 by omega) (show 2 - 2<2 - 1 by omega) (hG:=?_)
    rw [List.take_of_length_le (by rw [gaL_length];omega)]
    exact Hle.refl _
 simp only [decide_eq_false_iff_not] at h3
 obtain rfl:i=2:=by omega
 refine T_le (H':=[row 3 1 A1 cap1 n ((gaL c a).map (Value.int .i64)),row 3 1 A2 cap2 m ((gaL c b).map (Value.int .i64)),blk p9 (srcsL c A B n m ca cb (.slice A1 n cap1) (.slice A2 m cap2)) 226,blk p6 (srcsL ⟨0,0,0,0⟩ none none 0 0 0 0 (.slice none 0 0) (.slice none 0 0)) 226,blk pc c.cells 65]) (Hle.refl _) ?_
 repeat' (first|refine d1 ?_|refine dd ?_|(show T _ (.ops _ (_::_)::_) _ _ _;refine T_op (OpT.storeA rfl rfl rfl rfl rfl rfl (by decide) ?_))|(show ∀ _:Nat,T _ _ _ _ _;intro _))
 have e:∀ (l:List Int),(l.map (Value.int .i64)).map D.v=l.map fun z=>D.v (.int .i64 z):=fun l=>by rw [List.map_map];rfl
 refine T_retM (vs:=[.agg (srcsL c A B n m ca cb (.slice A1 n cap1) (.slice A2 m cap2)).toArray, .int .i64 0]) [dat [.slice A1 n cap1] [intsD (gaL c a)],dat [.slice A2 m cap2] [intsD (gaL c b)]] ⟨⟨p6,_,srcsL c A B n m ca cb (.slice A1 n cap1) (.slice A2 m cap2),rfl,rfl,rfl,rfl,(fun h=>by cases h),rfl,rdAll⟩,rfl,trivial⟩ ?_ ⟨(.slice A1 n cap1, .slice A2 m cap2),rfl,rfl⟩
 refine (Hle.sub (K:=[row 3 1 A1 cap1 n ((gaL c a).map (Value.int .i64)),row 3 1 A2 cap2 m ((gaL c b).map (Value.int .i64))])).trans ?_
 unfold intsD
 rw [← e, ← e]
 exact (Hle.perm (List.Perm.swap _ _ _)).trans (dat_rowV.trans ((Hle.perm (List.Perm.swap _ _ _)).trans dat_rowV))
end Go.Proofs.YtbfcfpmholkmeaaGreatDoor
namespace Go.Proofs.YtbfcfpmholkmeaaGreatDoor
open Go.RowKit Go.Shelf Go.Proofs
set_option maxRecDepth 100000
set_option maxHeartbeats 1000000

theorem RowsOk.ext {f g:Nat→Nat→Int} {n tot:Nat} {L:List (Nat × List Value)} (hL:L.length=n) (hR:RowsOk f tot L) (h:∀ i k,i<n→k<tot→f i k=g i k):RowsOk g tot L:=by
 intro i x hx
 rw [hR i x hx]
 exact valV_ext fun k hk=>h i k (by have:=(List.getElem?_eq_some_iff.1 hx).1;omega) hk
end Go.Proofs.YtbfcfpmholkmeaaGreatDoor
namespace Go.Proofs.YtbfcfpmholkmeaaGreatDoor
open Go.RowKit Go.Shelf Go.Proofs
set_option maxRecDepth 100000
set_option maxHeartbeats 1000000

structure Two (w:World) (A B:Option Addr) (n m:Nat) (a b:List Tok):Prop where
 hst:Std w
 ha:Src w 6 A n (a.flatMap Tok.cells)
 hn:a.length=n
 hnb:n≤1000
 hb:Src w 6 B m (b.flatMap Tok.cells)
 hm:b.length=m
 hmb:m≤1000
 hsa:∀ t∈a,t.small
 hsb:∀ t∈b,t.small
theorem Two.cls {w0 w:World} {H:List HA} {A B:Option Addr} {n m:Nat} {a b:List Tok} (h:Two w0 A B n m a b) (hw:Cls w0 w H):Two w A B n m a b :=
 ⟨h.hst.cls hw,⟨h.ha.1,fun q=>⟨(h.ha.2 q).1,(h.ha.2 q).2.old hw⟩⟩,h.hn,h.hnb,⟨h.hb.1,fun q=>⟨(h.hb.2 q).1,(h.hb.2 q).2.old hw⟩⟩,h.hm,h.hmb,h.hsa,h.hsb⟩
theorem Two.bad {w:World} {A B:Option Addr} {n m:Nat} {a b:List Tok} (h:Two w A B n m a b) (c:Costs) (ca cb:Nat) (hk:ckV c a b≠0) :
  Spec Tryz.prog 164 [c.val, .slice A n ca, .slice B m cb] w (fun v R=>v = .tuple #[.agg (srcsL ⟨0,0,0,0⟩ none none 0 0 0 0 (.slice none 0 0) (.slice none 0 0)).toArray, .int .i64 1]∧R=[]) :=
 pcheck_bad c A B n m ca cb a b w h.hst h.ha h.hn h.hnb h.hb h.hm h.hmb h.hsa h.hsb hk
theorem Two.ok {w:World} {A B:Option Addr} {n m:Nat} {a b:List Tok} (h:Two w A B n m a b) (c:Costs) (ca cb:Nat) (hk:ckV c a b=0) :
  Spec Tryz.prog 164 [c.val, .slice A n ca, .slice B m cb] w (fun v R=>∃ x:Value × Value,v = .tuple #[.agg (srcsL c A B n m ca cb x.1 x.2).toArray, .int .i64 0]∧R=[dat [x.1] [intsD (gaL c a)],dat [x.2] [intsD (gaL c b)]]) :=
 pcheck_ok c A B n m ca cb a b w h.hst h.ha h.hn h.hnb h.hb h.hm h.hmb h.hsa h.hsb hk
end Go.Proofs.YtbfcfpmholkmeaaGreatDoor
namespace Go.Proofs.YtbfcfpmholkmeaaGreatDoor
open Go.RowKit Go.Shelf Go.Proofs
set_option maxRecDepth 100000
set_option maxHeartbeats 1000000

end Go.Proofs.YtbfcfpmholkmeaaGreatDoor
namespace Go.Proofs.YtbfcfpmholkmeaaGreatDoor
open Go.RowKit Go.Shelf Go.Proofs
set_option maxRecDepth 100000
set_option maxHeartbeats 1000000

def mvCol (i k:Nat) (x:Mv):List Int:=[if x.fst=1 then (i:Int) else -1,if x.snd=1 then (k:Int) else -1]
end Go.Proofs.YtbfcfpmholkmeaaGreatDoor
namespace Go.Proofs.YtbfcfpmholkmeaaGreatDoor
open Go.RowKit Go.Shelf Go.Proofs
set_option maxRecDepth 100000
set_option maxHeartbeats 1000000

end Go.Proofs.YtbfcfpmholkmeaaGreatDoor
namespace Go.Proofs.YtbfcfpmholkmeaaGreatDoor
open Go.RowKit Go.Shelf Go.Proofs
set_option maxRecDepth 100000
set_option maxHeartbeats 1000000

structure TS where
 A:Option Addr
 n:Nat
 cap:Nat
 l:List Tok
@[reducible] def TS.val (t:TS):Value := .slice t.A t.n t.cap
theorem indexFuncS_spec (A:Option Addr) (n c:Nat) (l:List TS) (f:FuncId) (fs cs:List Value) (p:TS→Bool) (w:World) (hs:Src w 1 A n (l.map TS.val)) (hn:l.length=n) (hb:n≤9223372036854775807)
  (hf:∀ x∈l,∀ w',Below w.heap.size w w'→Spec Tryz.prog f (fs++(x.val::cs)) w' (fun v A=>v = .bool (p x)∧A=[])) :
  Spec Tryz.prog 35 [.slice A n c, .func (.func f) fs.toArray cs.toArray] w (fun v A=>v = .int .i64 (findI p l)∧A=[]):=by
 refine spec_of sg Tryz.func35 rfl rfl rfl ?_
 repeat' (first|refine d1 ?_|refine dd ?_|(show ∀ _:Nat,T _ _ _ _ _;intro _))
 refine T_loop (fun k:Nat=>[(0, .slice A n c),(1, .func (.func f) fs.toArray cs.toArray),(7, .int .i64 n),(8, .int .i64 k)]) (fun _=>[]) (fun k=>k≤n∧∀ i x,i<k→l[i]?=some x→p x=false) (fun k=>n - k) 0 ⟨Nat.zero_le _,fun i x h=>by omega⟩ ⟨rfl,rfl,rfl,rfl,trivial⟩ (Hle.refl _) ?_
 rintro k ⟨hk,hok⟩
 repeat' (first|refine d1 ?_|refine dd ?_|(show ∀ _:Nat,T _ _ _ _ _;intro _))
 refine T_if rfl (fun h=>?_) (fun h=>?_)
 ·simp only [decide_eq_true_eq] at h
  have hkn:k<n:=by omega
  obtain⟨b,o,rfl⟩:=hs.base (by omega)
  obtain⟨x,hx⟩:∃ x,l[k]?=some x:=⟨_,List.getElem?_eq_getElem (by omega)⟩
  repeat' (first|refine d1 ?_|refine dd ?_|(show ∀ _:Nat,T _ _ _ _ _;intro _))
  refine T_load (v:=x.val) rfl rfl rfl rfl rfl (rdOld ?_) ?_
  ·exact (hs.get1 hkn (by rw [List.getElem?_map,hx];rfl)).2
  repeat' (first|refine d1 ?_|refine dd ?_|(show T _ (.ops _ (_::_)::_) _ _ _;first|refine T_call rfl rfl rfl rfl rfl (fun w hw=>hf x (List.mem_of_getElem? hx) w hw.below) ?_|refine T_callC rfl rfl rfl rfl rfl rfl rfl (fun hg w hw=>hf x (List.mem_of_getElem? hx) w hw.below) ?_)|(show T _ (.run _ _ (_::_) _ _::_) _ _ _;first|refine rc rfl rfl rfl rfl rfl rfl rfl (fun w hw=>hf x (List.mem_of_getElem? hx) w hw.below) ?_|refine rcG rfl rfl rfl rfl rfl rfl rfl rfl rfl (fun hg w hw=>hf x (List.mem_of_getElem? hx) w hw.below) ?_)|(show ∀ _:Nat,T _ _ _ _ _;intro _))
  refine T_if rfl (fun h1=>?_) (fun h1=>?_)
  ·repeat' (first|refine d1 ?_|refine dd ?_|(show ∀ _:Nat,T _ _ _ _ _;intro _)|(show T _ (.code .ret::_) _ _ _;refine T_retV [] rfl (Hle.refl _) ⟨congrArg (Value.int .i64) ?_,rfl⟩))
   exact (findI_some hx h1 hok).symm
  ·repeat' (first|refine d1 ?_|refine dd ?_|(show ∀ _:Nat,T _ _ _ _ _;intro _))
   refine T_back (k+1) ⟨by omega,fun i y hi hy=>?_⟩ (by omega) ⟨rfl,rfl,rfl,rfl,trivial⟩ (Hle.refl _)
   rcases Nat.lt_or_ge i k with h2|h2
   ·exact hok i y h2 hy
   ·rw [show i=k by omega,hx] at hy
    cases hy
    exact h1
 ·simp only [decide_eq_false_iff_not] at h
  repeat' (first|refine d1 ?_|refine dd ?_|(show ∀ _:Nat,T _ _ _ _ _;intro _)|(show T _ (.code .ret::_) _ _ _;refine T_retV [] rfl (Hle.refl _) ⟨congrArg (Value.int .i64) ?_,rfl⟩))
  exact (findI_none (fun i x hi=>hok i x (by have:=(List.getElem?_eq_some_iff.1 hi).1;omega) hi)).symm
theorem containsFuncS_spec (A:Option Addr) (n c:Nat) (l:List TS) (f:FuncId) (fs cs:List Value) (p:TS→Bool) (w:World) (hs:Src w 1 A n (l.map TS.val)) (hn:l.length=n) (hb:n≤9223372036854775807)
  (hf:∀ x∈l,∀ w',Below w.heap.size w w'→Spec Tryz.prog f (fs++(x.val::cs)) w' (fun v A=>v = .bool (p x)∧A=[])) :
  Spec Tryz.prog 15 [.slice A n c, .func (.func f) fs.toArray cs.toArray] w (fun v A=>v = .bool (l.any p)∧A=[]):=by
 refine spec_of sg Tryz.func15 rfl rfl rfl ?_
 repeat' (first|refine d1 ?_|refine dd ?_|(show T _ (.ops _ (_::_)::_) _ _ _;first|refine T_call rfl rfl rfl rfl rfl (fun w hw=>indexFuncS_spec A n c l f fs cs p w (rdSrc hs w hw) hn hb (fun x hx w' hb'=>hf x hx w' (hw.below.trans (hb'.mono hw.below.size)))) ?_|refine T_callC rfl rfl rfl rfl rfl rfl rfl (fun hg w hw=>indexFuncS_spec A n c l f fs cs p w (rdSrc hs w hw) hn hb (fun x hx w' hb'=>hf x hx w' (hw.below.trans (hb'.mono hw.below.size)))) ?_)|(show T _ (.run _ _ (_::_) _ _::_) _ _ _;first|refine rc rfl rfl rfl rfl rfl rfl rfl (fun w hw=>indexFuncS_spec A n c l f fs cs p w (rdSrc hs w hw) hn hb (fun x hx w' hb'=>hf x hx w' (hw.below.trans (hb'.mono hw.below.size)))) ?_|refine rcG rfl rfl rfl rfl rfl rfl rfl rfl rfl (fun hg w hw=>indexFuncS_spec A n c l f fs cs p w (rdSrc hs w hw) hn hb (fun x hx w' hb'=>hf x hx w' (hw.below.trans (hb'.mono hw.below.size)))) ?_)|(show ∀ _:Nat,T _ _ _ _ _;intro _)|(show T _ (.code .ret::_) _ _ _;refine T_retV [] rfl (Hle.refl _) ⟨congrArg Value.bool ?_,rfl⟩))
 exact findI_any p l
structure TsOk (w:World) (l:List TS):Prop where
 src:∀ t∈l,Src w 6 t.A t.n (t.l.flatMap Tok.cells)
 len:∀ t∈l,t.l.length=t.n
 bd:∀ t∈l,t.n≤9223372036854775807
theorem src_below {w w':World} {sz n:Nat} {A:Option Addr} {xs:List Value} (h:Src w sz A n xs) (hb:Below w.heap.size w w'):Src w' sz A n xs:=⟨h.1,fun q=>⟨(h.2 q).1,(h.2 q).2.below hb⟩⟩
end Go.Proofs.YtbfcfpmholkmeaaGreatDoor
namespace Go.Proofs.YtbfcfpmholkmeaaGreatDoor
open Go.RowKit Go.Shelf Go.Proofs
set_option maxRecDepth 100000
set_option maxHeartbeats 1000000

end Go.Proofs.YtbfcfpmholkmeaaGreatDoor
namespace Go.Proofs.YtbfcfpmholkmeaaGreatDoor

def fstM (G:Grd) (i k:Nat):Option Mv:=(mvs G i k).find? fun x=>decide (via G i k x=rst G i k)
def alnF (G:Grd):Nat→Nat→Nat→List (List Int)
 | 0,_,_=>[]
 | f+1,i,k=>match fstM G i k with
  | some x=>mvCol i k x::alnF G f (i+x.fst) (k+x.snd)
  | none=>[]
def aln (G:Grd) (i k:Nat):List (List Int):=alnF G ((G.n - i)+(G.m - k)) i k
end Go.Proofs.YtbfcfpmholkmeaaGreatDoor
namespace Go.Proofs.YtbfcfpmholkmeaaGreatDoor

def shpP (n m:Nat) (t:List (List Int)):Prop:=t.length=n+1∧∀ r∈t,r.length=m+1
instance (n m:Nat) (t:List (List Int)):Decidable (shpP n m t):=by unfold shpP;infer_instance
def rngP (G:Grd) (t:Nat→Nat→Int):Prop:=∀ i,i<G.n+1→∀ k,k<G.m+1→0≤t i k∧t i k≤big
def stpP (G:Grd) (t:Nat→Nat→Int) (i k:Nat):Prop:=∀ y∈mvs G i k,t i k≤y.cost+t (i+y.fst) (k+y.snd)
def stpsP (G:Grd) (t:Nat→Nat→Int):Prop:=∀ i,i<G.n+1→∀ k,k<G.m+1→stpP G t i k
instance (G:Grd) (t:Nat→Nat→Int):Decidable (rngP G t):=by unfold rngP;infer_instance
instance (G:Grd) (t:Nat→Nat→Int) (i k:Nat):Decidable (stpP G t i k):=by unfold stpP;infer_instance
instance (G:Grd) (t:Nat→Nat→Int):Decidable (stpsP G t):=by unfold stpsP;infer_instance
def certP (G:Grd) (t:Nat→Nat→Int) (z:Int):Prop:=(t G.n G.m=0∧t 0 0=z)∧rngP G t∧stpsP G t
instance (G:Grd) (t:Nat→Nat→Int) (z:Int):Decidable (certP G t z):=by unfold certP;infer_instance
end Go.Proofs.YtbfcfpmholkmeaaGreatDoor
namespace Go.Proofs.YtbfcfpmholkmeaaGreatDoor

inductive Dir where
 | b
 | f
 | s
deriving DecidableEq
def Dir.x:Dir→Nat
 | .b=>1
 | .f=>1
 | .s=>0
def Dir.y:Dir→Nat
 | .b=>1
 | .f=>0
 | .s=>1
def dcost (G:Grd) (i k:Nat):Dir→Int
 | .b=>G.p i k
 | .f=>G.g i
 | .s=>G.h k
def xs:List Dir→Nat
 | []=>0
 | d::l=>d.x+xs l
def ys:List Dir→Nat
 | []=>0
 | d::l=>d.y+ys l
def wcost (G:Grd):List Dir→Nat→Nat→Int
 | [],_,_=>0
 | d::l,i,k=>dcost G i k d+wcost G l (i+d.x) (k+d.y)
def wayF:Nat→Nat→Nat→List (List Dir)
 | 0,_,_=>[[]]
 | f+1,a,b=>match a,b with
  | 0,0=>[[]]
  | 0,b+1=>(wayF f 0 b).map (.s :: ·)
  | a+1,0=>(wayF f a 0).map (.f :: ·)
  | a+1,b+1=>(wayF f a b).map (.b :: ·)++((wayF f a (b+1)).map (.f :: ·)++(wayF f (a+1) b).map (.s :: ·))
def ways (a b:Nat):List (List Dir):=wayF (a+b) a b
def cnt (G:Grd) (a b i k:Nat) (z:Int):Nat:=(ways a b).countP fun l=>decide (wcost G l i k=z)
structure Rvs (G F:Grd):Prop where
 n:F.n=G.n
 m:F.m=G.m
 p:∀ i k,i<G.n→k<G.m→F.p (G.n - 1 - i) (G.m - 1 - k)=G.p i k
 g:∀ i,i<G.n→F.g (G.n - 1 - i)=G.g i
 h:∀ k,k<G.m→F.h (G.m - 1 - k)=G.h k
theorem Rvs.symm {G F:Grd} (r:Rvs G F):Rvs F G where
 n:=r.n.symm
 m:=r.m.symm
 p:=fun i k hi hk=>by
  rw [r.n] at hi ⊢;rw [r.m] at hk ⊢
  have:=r.p (G.n - 1 - i) (G.m - 1 - k) (by omega) (by omega)
  rw [show G.n - 1 - (G.n - 1 - i)=i by omega,show G.m - 1 - (G.m - 1 - k)=k by omega] at this
  exact this.symm
 g:=fun i hi=>by
  rw [r.n] at hi ⊢
  have:=r.g (G.n - 1 - i) (by omega)
  rw [show G.n - 1 - (G.n - 1 - i)=i by omega] at this
  exact this.symm
 h:=fun k hk=>by
  rw [r.m] at hk ⊢
  have:=r.h (G.m - 1 - k) (by omega)
  rw [show G.m - 1 - (G.m - 1 - k)=k by omega] at this
  exact this.symm
structure Xch (G F:Grd):Prop where
 n:F.n=G.m
 m:F.m=G.n
 p:∀ i k,i<G.n→k<G.m→F.p k i=G.p i k
 g:∀ k,k<G.m→F.g k=G.h k
 h:∀ i,i<G.n→F.h i=G.g i
end Go.Proofs.YtbfcfpmholkmeaaGreatDoor
namespace Go.Proofs.YtbfcfpmholkmeaaGreatDoor

def scanP (near:Nat→Int) (tk:Nat→Bool):Nat→Int × Int
 | 0=>(-1,0)
 | i+1=>if tk i=true then scanP near tk i else if (scanP near tk i).1<0∨near i<(scanP near tk i).2 then ((i:Int),near i) else scanP near tk i
end Go.Proofs.YtbfcfpmholkmeaaGreatDoor
namespace Go.Proofs.YtbfcfpmholkmeaaGreatDoor
open Go.RowKit Go.Shelf Go.Proofs
set_option maxRecDepth 100000
set_option maxHeartbeats 1000000

structure Grp (w:World) (A:Option Addr) (n:Nat) (l:List TS):Prop where
 hst:Std w
 hs:Src w 1 A n (l.map TS.val)
 hn:l.length=n
 hb:n≤32
 ok:TsOk w l
 nb:∀ t∈l,t.n≤1000
 sm:∀ t∈l,∀ x∈t.l,x.small
theorem Grp.cls {w0 w:World} {H:List HA} {A:Option Addr} {n:Nat} {l:List TS} (h:Grp w0 A n l) (hw:Cls w0 w H):Grp w A n l :=
 ⟨h.hst.cls hw,⟨h.hs.1,fun q=>⟨(h.hs.2 q).1,(h.hs.2 q).2.old hw⟩⟩,h.hn,h.hb,⟨fun t ht=>src_below (h.ok.src t ht) hw.below,h.ok.len,h.ok.bd⟩,h.nb,h.sm⟩
theorem Grp.get {w:World} {b o n:Nat} {l:List TS} (h:Grp w (some ⟨b,o,none⟩) n l) {k:Nat} (hk:k<n):∃ t,l[k]?=some t∧t∈l∧RdC w b (o+(k:Int).toNat * 1) [.slice t.A t.n t.cap]:=by
 obtain⟨t,ht⟩:∃ t,l[k]?=some t:=⟨_,List.getElem?_eq_getElem (by have:=h.hn;omega)⟩
 refine ⟨t,ht,List.mem_of_getElem? ht,?_⟩
 have h9:=(h.hs.get1 (i:=k) hk (by rw [List.getElem?_map,ht];rfl)).2
 rw [Nat.mul_one] at h9
 rw [off1]
 exact h9
def badS (l:List TS):Bool:=l.any fun t=>badL t.l
def ck21 (c:Costs) (l:List TS):Int:=if costE c=0∧badS l=false then 0 else 1
noncomputable def great21B (l:List TS):Bool:=l.any (fun t=>decide (5<t.l.length) || greatB t.l) || decide (4<l.length)
theorem Grp.of {w:World} {A:Option Addr} {n:Nat} {l:List TS} (hst:Std w) (hs:Src w 1 A n (l.map TS.val)) (hn:l.length=n) (hl:TsOk w l) (h:great21B l=false):Grp w A n l∧n≤4∧∀ t∈l,t.n≤5:=by
 unfold great21B at h
 rw [Bool.or_eq_false_iff,decide_eq_false_iff_not,List.any_eq_false] at h
 have h5:∀ t∈l,t.n≤5:=fun t ht=>by
  have:=h.1 t ht
  have:=hl.len t ht
  simp at *
  omega
 refine ⟨⟨hst,hs,hn,by omega,hl,fun t ht=>by have:=h5 t ht;omega,fun t ht x hx=>?_⟩,by omega,h5⟩
 have h9:greatB t.l=false:=by
  have:=h.1 t ht
  simp at this
  exact this.2
 exact (longT_small ((greatB_false h9).1 x hx)).1
end Go.Proofs.YtbfcfpmholkmeaaGreatDoor
namespace Go.Proofs.YtbfcfpmholkmeaaGreatDoor
open Go.RowKit Go.Shelf Go.Proofs
set_option maxRecDepth 100000
set_option maxHeartbeats 1000000

theorem src_int {w:World} {b o n:Nat} {xs:List Int} (hs:Src w 1 (some ⟨b,o,none⟩) n (xs.map (Value.int .i64))) {k:Nat} (hk:k<n) {x:Int} (hx:xs[k]?=some x):RdC w b (o+(k:Int).toNat * 1) [.int .i64 x]:=by
 have h9:=(hs.get1 (i:=k) hk (by rw [List.getElem?_map,hx];rfl)).2
 rw [Nat.mul_one] at h9
 rw [off1]
 exact h9
def minF (key:Int→Int) (x:Int) (l:List Int):Int:=l.foldl (fun m y=>if key y<key m then y else m) x
end Go.Proofs.YtbfcfpmholkmeaaGreatDoor
namespace Go.Proofs.YtbfcfpmholkmeaaGreatDoor

def stp2 (D:Nat→Nat→Int) (fs p:Nat × Nat):Nat × Nat:=if D p.1 p.2<D fs.1 fs.2 then p else fs
def selK (D:Nat→Nat→Int) (i:Nat) (fs:Nat × Nat):Nat→Nat × Nat
 | 0=>fs
 | k+1=>if i<k then stp2 D (selK D i fs k) (i,k) else selK D i fs k
def selI (D:Nat→Nat→Int) (n:Nat):Nat→Nat × Nat
 | 0=>(0,1)
 | i+1=>selK D i (selI D n i) n
theorem selK_low (D:Nat→Nat→Int) (i:Nat) (fs:Nat × Nat):∀ k,k≤i+1→selK D i fs k=fs
 | 0,_=>rfl
 | k+1,h=>by rw [selK,if_neg (by omega)];exact selK_low D i fs k (by omega)
structure Sym (D:Nat→Nat→Int):Prop where
 z:∀ i,D i i=0
 s:∀ i k,D i k=D k i
def tkOf (out:List Nat) (i:Nat):Bool:=out.any fun x=>decide (i=x)
def keyD (D:Nat→Nat→Int) (i:Nat) (x:Int):Int:=D i x.toNat
def minO (D:Nat→Nat→Int) (out:List Nat) (i:Nat):Int:=minF (keyD D i) (out.headD 0:Nat) (out.tail.map fun (x:Nat)=>(x:Int))
def nearV (D:Nat→Nat→Int) (out:List Nat) (i:Nat):Int:=D i (minO D out i).toNat
def nxtO (D:Nat→Nat→Int) (n:Nat) (out:List Nat):Nat:=(scanP (nearV D out) (tkOf out) n).1.toNat
def ordJ (D:Nat→Nat→Int) (n:Nat):Nat→List Nat
 | 0=>[(selI D n n).1,(selI D n n).2]
 | j+1=>ordJ D n j++[nxtO D n (ordJ D n j)]
def orderV (D:Nat→Nat→Int) (n:Nat):List Nat:=if n=0 then [] else if n=1 then [0] else ordJ D n (n - 2)
theorem ordJ_len (D:Nat→Nat→Int) (n:Nat):∀ j,(ordJ D n j).length=j+2
 | 0=>rfl
 | j+1=>by rw [ordJ,List.length_append,ordJ_len D n j];rfl
theorem orderV_len (D:Nat→Nat→Int) (n:Nat):(orderV D n).length=n:=by
 unfold orderV
 split
 ·rename_i h;rw [h];rfl
 ·split
  ·rename_i h;rw [h];rfl
  ·rw [ordJ_len];omega
end Go.Proofs.YtbfcfpmholkmeaaGreatDoor
namespace Go.Proofs.YtbfcfpmholkmeaaGreatDoor

structure Dbl (G F:Grd):Prop where
 n:F.n=G.n
 m:F.m=G.m
 p:∀ i k,i<G.n→k<G.m→F.p i k=2 * G.p i k
 g:∀ i,i<G.n→F.g i=2 * G.g i
 h:∀ k,k<G.m→F.h k=2 * G.h k
structure One (G F:Grd) (q:Nat) (z:Int):Prop where
 hq:q≤G.n
 n:F.n=G.n+1
 m:F.m=G.m
 p:∀ i k,i<q→k<G.m→F.p i k=G.p i k
 g:∀ i,i<q→F.g i=G.g i
 z:F.g q=z
 p2:∀ i k,q≤i→i<G.n→k<G.m→F.p (i+1) k=G.p i k
 g2:∀ i,q≤i→i<G.n→F.g (i+1)=G.g i
 h:∀ k,k<G.m→F.h k=G.h k
end Go.Proofs.YtbfcfpmholkmeaaGreatDoor
namespace Go.Proofs.YtbfcfpmholkmeaaGreatDoor
open Go.RowKit Go.Shelf Go.Proofs
set_option maxRecDepth 100000
set_option maxHeartbeats 1000000

def entC (c:Costs) (l:List Tok) (z:Int) (t:List Tok) (k:Int):Int :=
 if 0≤z∧0≤k then pairC c (tkA l z.toNat) (tkA t k.toNat) else if 0≤z then gapC c (tkA l z.toNat) else if 0≤k then gapC c (tkA t k.toNat) else 0
theorem entC_bd {c:Costs} (hc:costE c=0) (l:List Tok) (z:Int) (t:List Tok) (k:Int):0≤entC c l z t k∧entC c l z t k≤1000:=by
 obtain⟨c1,c2,c3,c4,c5⟩:=costE_ok hc
 have h1:=pairC_bd hc (tkA l z.toNat) (tkA t k.toNat)
 have h2:=gapC_bd hc (tkA l z.toNat)
 have h3:=gapC_bd hc (tkA t k.toNat)
 unfold entC
 (repeat' split) <;> omega
def putS (c:Costs) (l:List TS) (col:List Int) (t:List Tok) (k:Int) (j:Nat):Int:=(((l.zip col).take j).map fun p=>entC c p.1.l p.2 t k).sum
def putC (c:Costs) (l:List TS) (col:List Int) (t:List Tok) (k:Int):Int:=((l.zip col).map fun p=>entC c p.1.l p.2 t k).sum
theorem putS_succ (c:Costs) {l:List TS} {col:List Int} (t:List Tok) (k:Int) {j:Nat} {s:TS} {z:Int} (h1:l[j]?=some s) (h2:col[j]?=some z):putS c l col t k (j+1)=putS c l col t k j+entC c s.l z t k:=by
 have h:(l.zip col)[j]?=some (s,z):=by rw [List.getElem?_zip_eq_some];exact⟨h1,h2⟩
 unfold putS;rw [take_snoc _ _ _ h,List.map_append,List.sum_append];simp
theorem putS_bd {c:Costs} (hc:costE c=0) (l:List TS) (col:List Int) (t:List Tok) (k:Int):∀ j,0≤putS c l col t k j∧putS c l col t k j≤1000 * (j:Int)
 | 0=>by simp [putS]
 | j+1=>by
  have ih:=putS_bd hc l col t k j
  cases h:(l.zip col)[j]? with
  | none =>
   have hl:(l.zip col).length≤j:=List.getElem?_eq_none_iff.1 h
   have e:putS c l col t k (j+1)=putS c l col t k j:=by unfold putS;rw [List.take_of_length_le hl,List.take_of_length_le (by omega)]
   rw [e];omega
  | some p =>
   obtain⟨h1,h2⟩:=List.getElem?_zip_eq_some.1 h
   have:=entC_bd hc p.1.l p.2 t k
   rw [putS_succ c t k h1 h2];omega
theorem putS_all (c:Costs) {l:List TS} {col:List Int} (t:List Tok) (k:Int) {n:Nat} (h:l.length≤n):putS c l col t k n=putC c l col t k:=by
 unfold putS putC;rw [List.take_of_length_le (by rw [List.length_zip];omega)]
def ColOk (l:List TS) (col:List Int):Prop:=col.length=l.length∧∀ (j:Nat) (z:Int) (s:TS),col[j]?=some z→l[j]?=some s → -1≤z∧z<(s.n:Int)
theorem badS_ok {l:List TS} (h:badS l=false):∀ s∈l,∀ x∈s.l,tokE x=0:=fun s hs=>badL_false.1 (by
 unfold badS at h
 rw [List.any_eq_false] at h
 simpa using h s hs)
theorem tkA_mem2 {l:List Tok} {z:Int} (h0:0≤z) (h1:z<(l.length:Nat)):tkA l z.toNat∈l:=List.mem_of_getElem? (tkA_get (l:=l) (i:=z.toNat) (by omega))
end Go.Proofs.YtbfcfpmholkmeaaGreatDoor
namespace Go.Proofs.YtbfcfpmholkmeaaGreatDoor
open Go.RowKit Go.Shelf Go.Proofs

def bst (best x:Int):Int:=if best<0∨x<best then x else best
def noneC (n:Nat):List Int:=List.replicate n (-1)
def grdA (c:Costs) (l:List TS) (cols:List (List Int)) (t:List Tok):Grd :=
 ⟨cols.length,t.length,fun i k=>putC c l (cols.getD i []) t (k:Nat),fun i=>putC c l (cols.getD i []) t (-1),fun k=>putC c l (noneC l.length) t (k:Nat)⟩
theorem putC_bd {c:Costs} (hc:costE c=0) (l:List TS) (col:List Int) (t:List Tok) (k:Int):0≤putC c l col t k∧putC c l col t k≤1000 * (l.length:Int):=by
 rw [← putS_all c (l:=l) (col:=col) t k (Nat.le_refl _)]
 exact putS_bd hc l col t k l.length
theorem grdA_ok {c:Costs} (hc:costE c=0) (l:List TS) (cols:List (List Int)) (t:List Tok):GOk (grdA c l cols t) (1000 * (l.length:Int)) :=
 ⟨fun i k=>putC_bd hc l _ t _,fun i=>putC_bd hc l _ t _,fun k=>putC_bd hc l _ t _⟩
def colA (n:Nat) (cols:List (List Int)) (r:List Int):List Int:=(if r.headD 0<0 then noneC n else cols.getD (r.headD 0).toNat [])++[r.getD 1 0]
def addV (c:Costs) (l:List TS) (cols:List (List Int)) (t:List Tok) (i k:Nat):List (List Int):=(aln (grdA c l cols t) i k).map (colA l.length cols)
def srcC (cols:List (List Int)) (s:Nat):List Int:=(cols.map fun x=>x.getD s (-1)).filter fun z=>decide (z ≠ -1)
def upto (n:Nat):List Int:=(List.range n).map fun (x:Nat)=>(x:Int)
theorem upto_len (n:Nat):(upto n).length=n:=by simp [upto]
theorem upto_get {n i:Nat} (h:i<n):(upto n)[i]?=some (i:Int):=by unfold upto;rw [List.getElem?_map,List.getElem?_range h];rfl
theorem upto_succ (n:Nat):upto (n+1)=upto n++[(n:Int)]:=by unfold upto;rw [List.range_succ,List.map_append];rfl
theorem upto_mem {n:Nat} {z:Int}:z∈upto n↔0≤z∧z<(n:Int):=by
 unfold upto
 rw [List.mem_map]
 constructor
 ·rintro⟨a,ha,rfl⟩
  rw [List.mem_range] at ha
  omega
 ·rintro⟨h1,h2⟩
  exact⟨z.toNat,List.mem_range.2 (by omega),by omega⟩
structure ColsOk (ls:List Nat) (cols:List (List Int)):Prop where
 len:∀ x∈cols,x.length=ls.length
 some_:∀ x∈cols,∃ z∈x,z ≠ -1
 src:∀ s n,ls[s]?=some n→srcC cols s=upto n
theorem srcC_app (a b:List (List Int)) (s:Nat):srcC (a++b) s=srcC a s++srcC b s:=by unfold srcC;rw [List.map_append,List.filter_append]
theorem srcC_cons (x:List Int) (b:List (List Int)) (s:Nat):srcC (x::b) s=(if x.getD s (-1) = -1 then [] else [x.getD s (-1)])++srcC b s:=by
 unfold srcC
 rw [List.map_cons,List.filter_cons]
 by_cases h:x.getD s (-1) = -1
 ·rw [if_pos h,h];simp
 ·rw [if_neg h,if_pos (by simpa using h)];rfl
theorem srcC_mem {cols:List (List Int)} {s:Nat} {x:List Int} {z:Int} (hx:x∈cols) (hz:x[s]?=some z) (h:z ≠ -1):z∈srcC cols s:=by
 unfold srcC
 rw [List.mem_filter]
 refine ⟨List.mem_map.2 ⟨x,hx,?_⟩,by simpa using h⟩
 rw [List.getD_eq_getElem?_getD,hz];rfl
theorem ColsOk.entry {ls:List Nat} {cols:List (List Int)} (h:ColsOk ls cols) {x:List Int} (hx:x∈cols) {s n:Nat} {z:Int} (hs:ls[s]?=some n) (hz:x[s]?=some z) : -1≤z∧z<(n:Int):=by
 by_cases h1:z = -1
 ·subst h1;omega
 ·have:=srcC_mem hx hz h1
  rw [h.src s n hs,upto_mem] at this
  omega
theorem ColsOk.nil:ColsOk [] []:=⟨fun x h=>(by cases h),fun x h=>(by cases h),fun s n h=>(by simp at h)⟩
end Go.Proofs.YtbfcfpmholkmeaaGreatDoor
namespace Go.Proofs.YtbfcfpmholkmeaaGreatDoor

end Go.Proofs.YtbfcfpmholkmeaaGreatDoor
namespace Go.Proofs.YtbfcfpmholkmeaaGreatDoor
open Go.RowKit Go.Shelf Go.Proofs
set_option maxRecDepth 100000
set_option maxHeartbeats 1000000

end Go.Proofs.YtbfcfpmholkmeaaGreatDoor
namespace Go.Proofs.YtbfcfpmholkmeaaGreatDoor
open Go.RowKit Go.Shelf Go.Proofs
set_option maxRecDepth 100000
set_option maxHeartbeats 1000000

theorem find_at {α:Type} {p:α→Bool}:∀ {l:List α} {j:Nat} {v:α},l[j]?=some v→p v=true→(∀ j' y,j'<j→l[j']?=some y→p y=false)→l.find? p=some v
 | x::l,0,v,h,hp,_=>by simp at h;subst h;rw [List.find?_cons_of_pos hp]
 | x::l,j+1,v,h,hp,hn=>by
  rw [List.find?_cons_of_neg (by rw [hn 0 x (by omega) rfl];simp)]
  exact find_at (l:=l) (j:=j) (by simpa using h) hp (fun j' y hj hy=>hn (j'+1) y (by omega) (by simpa using hy))
end Go.Proofs.YtbfcfpmholkmeaaGreatDoor
namespace Go.Proofs.YtbfcfpmholkmeaaGreatDoor
open Go.RowKit Go.Shelf Go.Proofs
set_option maxRecDepth 100000
set_option maxHeartbeats 1000000

theorem tok6 (t:Tok):t.cells.length=6:=rfl
theorem Two.sub {w:World} {A B:Option Addr} {n m:Nat} {a b:List Tok} (h:Two w A B n m a b) {ca cb:Nat} (hca:n≤ca) (hcb:m≤cb) (lo hi lo' hi':Nat) (h1:lo≤hi) (h2:hi≤n) (h3:lo'≤hi') (h4:hi'≤m) :
  Two w (cutA A ca lo 6) (cutA B cb lo' 6) (hi - lo) (hi' - lo') ((a.take hi).drop lo) ((b.take hi').drop lo') :=
 ⟨h.hst,src_sub Tok.cells 6 tok6 h.ha h.hn lo hi h1 h2 hca,by rw [List.length_drop,List.length_take,h.hn];omega,by have:=h.hnb;omega,src_sub Tok.cells 6 tok6 h.hb h.hm lo' hi' h3 h4 hcb,by rw [List.length_drop,List.length_take,h.hm];omega,by have:=h.hmb;omega,
  fun t ht=>h.hsa t (List.mem_of_mem_take (List.mem_of_mem_drop ht)),fun t ht=>h.hsb t (List.mem_of_mem_take (List.mem_of_mem_drop ht))⟩
theorem Two.pre {w:World} {A B:Option Addr} {n m:Nat} {a b:List Tok} (h:Two w A B n m a b) (hi hi':Nat) (h2:hi≤n) (h4:hi'≤m) :
  Two w A B hi hi' (a.take hi) (b.take hi') :=
 ⟨h.hst,src_take Tok.cells 6 tok6 h.ha h.hn hi h2,by rw [List.length_take,h.hn];omega,by have:=h.hnb;omega,src_take Tok.cells 6 tok6 h.hb h.hm hi' h4,by rw [List.length_take,h.hm];omega,by have:=h.hmb;omega,
  fun t ht=>h.hsa t (List.mem_of_mem_take ht),fun t ht=>h.hsb t (List.mem_of_mem_take ht)⟩
end Go.Proofs.YtbfcfpmholkmeaaGreatDoor
namespace Go.Proofs.YtbfcfpmholkmeaaGreatDoor
open Go.RowKit Go.Shelf Go.Proofs
set_option maxRecDepth 100000
set_option maxHeartbeats 1000000

end Go.Proofs.YtbfcfpmholkmeaaGreatDoor
namespace Go.Proofs.YtbfcfpmholkmeaaGreatDoor
open Go.RowKit Go.Shelf Go.Proofs
set_option maxRecDepth 100000
set_option maxHeartbeats 1000000

theorem rd_lit {w:World} {b n:Nat} {cs:List Value} {l:List D} (h:Src w 1 (some ⟨b,0,none⟩) n cs) (hn:n≤9223372036854775807) (hr:Rd (wr w) cs l):Rd (wr w) [.slice (some ⟨b,0,none⟩) n n] [.s 1 l]:=h.rdD (Nat.le_refl _) hn hr
theorem rd_ints {w:World} {b n:Nat} {r:List Int} (h:Src w 1 (some ⟨b,0,none⟩) n (r.map (Value.int .i64))) (hn:n≤9223372036854775807):Rd (wr w) [.slice (some ⟨b,0,none⟩) n n] [intsD r]:=by
 have:=rd_lit h hn (Rd.vals _)
 rw [List.map_map] at this
 exact this
instance (t:Tok):Decidable t.small:=inferInstanceAs (Decidable (_∧_))
end Go.Proofs.YtbfcfpmholkmeaaGreatDoor
namespace Go.Proofs.YtbfcfpmholkmeaaGreatDoor
open Go.RowKit Go.Shelf Go.Proofs
set_option maxRecDepth 100000
set_option maxHeartbeats 1000000

end Go.Proofs.YtbfcfpmholkmeaaGreatDoor
namespace Go.Proofs.YtbfcfpmholkmeaaGreatDoor
open Go.RowKit Go.Shelf Go.Proofs
set_option maxRecDepth 100000
set_option maxHeartbeats 1000000

end Go.Proofs.YtbfcfpmholkmeaaGreatDoor
namespace Go.Proofs.YtbfcfpmholkmeaaGreatDoor
open Go.RowKit Go.Shelf Go.Proofs
set_option maxRecDepth 100000
set_option maxHeartbeats 1000000

def arrJ (ord:List Nat) (r:List Int):Nat→List Int
 | 0=>List.replicate r.length 0
 | j+1=>(arrJ ord r j).set (ord.getD j 0) (r.getD j 0)
def arrR (ord:List Nat) (r:List Int):List Int:=arrJ ord r r.length
end Go.Proofs.YtbfcfpmholkmeaaGreatDoor
namespace Go.Proofs.YtbfcfpmholkmeaaGreatDoor
open Go.RowKit Go.Shelf Go.Proofs
set_option maxRecDepth 100000
set_option maxHeartbeats 1000000

end Go.Proofs.YtbfcfpmholkmeaaGreatDoor
namespace Go.Proofs.YtbfcfpmholkmeaaGreatDoor
open Go.RowKit Go.Shelf Go.Proofs
set_option maxRecDepth 100000
set_option maxHeartbeats 1000000

end Go.Proofs.YtbfcfpmholkmeaaGreatDoor
namespace Go.Proofs.YtbfcfpmholkmeaaGreatDoor
open Go.RowKit Go.Shelf Go.Proofs
set_option maxRecDepth 100000
set_option maxHeartbeats 1000000

theorem noTok_small:noTok.small:=by decide +kernel
end Go.Proofs.YtbfcfpmholkmeaaGreatDoor
namespace Go.Proofs.YtbfcfpmholkmeaaGreatDoor
open Go.RowKit Go.Shelf Go.Proofs
set_option maxRecDepth 100000
set_option maxHeartbeats 1000000

def tsA (l:List TS) (i:Nat):TS:=l.getD i ⟨none,0,0,[]⟩
theorem tsA_eq {l:List TS} {i:Nat} {t:TS} (h:l[i]?=some t):tsA l i=t:=by unfold tsA;rw [List.getD_eq_getElem?_getD,h];rfl
def dstT (c:Costs) (l:List TS) (i k:Nat):Int:=if i<k then rst (grdOf c (tsA l i).l (tsA l k).l) 0 0 else if k<i then rst (grdOf c (tsA l k).l (tsA l i).l) 0 0 else 0
theorem Grp.len {w:World} {A:Option Addr} {n:Nat} {l:List TS} (hg:Grp w A n l):∀ t∈l,t.l.length≤1000:=fun t ht=>by
 have:=hg.ok.len t ht
 have:=hg.nb t ht
 omega
theorem Grp.two {w:World} {A:Option Addr} {n:Nat} {l:List TS} (hg:Grp w A n l) {s t:TS} (hs:s∈l) (ht:t∈l):Two w s.A t.A s.n t.n s.l t.l :=
 ⟨hg.hst,hg.ok.src s hs,hg.ok.len s hs,hg.nb s hs,hg.ok.src t ht,hg.ok.len t ht,hg.nb t ht,hg.sm s hs,hg.sm t ht⟩
def intN (l:List Nat):List Int:=l.map fun (x:Nat)=>(x:Int)
def OutOk (D:Nat→Nat→Int) (n:Nat) (out:List Nat):Prop:=(n<2∧out=orderV D n)∨(2≤n∧∃ j,out=ordJ D n j)
theorem OutOk.start (D:Nat→Nat→Int) (n:Nat):OutOk D n ([(selI D n n).1,(selI D n n).2].take (min n 2)):=by
 rcases Nat.lt_or_ge n 2 with h|h
 ·refine .inl ⟨h,?_⟩
  rcases (show n=0∨n=1 by omega) with rfl|rfl
  ·rfl
  ·have e:selI D 1 1=(0,1):=selK_low D 0 (0,1) 1 (by omega)
   rw [e];rfl
 ·refine .inr ⟨h,0,?_⟩
  rw [Nat.min_eq_right h];rfl
theorem OutOk.all {D:Nat→Nat→Int} {n:Nat} {out:List Nat} (h:OutOk D n out) (hl:out.length=n):out=orderV D n:=by
 rcases h with h|⟨h,j,rfl⟩
 ·exact h.2
 ·rw [ordJ_len] at hl
  unfold orderV
  rw [if_neg (by omega),if_neg (by omega),show n - 2=j by omega]
theorem OutOk.next {D:Nat→Nat→Int} {n:Nat} {out:List Nat} (h:OutOk D n out) (hl:out.length<n):2≤n∧(∃ j,out=ordJ D n j∧j+2<n)∧OutOk D n (out++[nxtO D n out]):=by
 rcases h with h|⟨h,j,rfl⟩
 ·rw [h.2,orderV_len] at hl;omega
 ·rw [ordJ_len] at hl
  exact⟨h,⟨j,rfl,by omega⟩, .inr ⟨h,j+1,rfl⟩⟩
end Go.Proofs.YtbfcfpmholkmeaaGreatDoor
namespace Go.Proofs.YtbfcfpmholkmeaaGreatDoor
open Go.RowKit Go.Shelf Go.Proofs
set_option maxRecDepth 100000
set_option maxHeartbeats 1000000

def ordV (c:Costs) (l:List TS):List Nat × Int:=if ck21 c l=0 then (orderV (dstT c l) l.length,0) else ([],1)
end Go.Proofs.YtbfcfpmholkmeaaGreatDoor
namespace Go.Proofs.YtbfcfpmholkmeaaGreatDoor
open Go.RowKit Go.Shelf Go.Proofs
set_option maxRecDepth 100000
set_option maxHeartbeats 1000000

theorem mulOne_spec (n:Nat) (hn:n≤1000000) (w:World):Spec Tryz.prog 158 [.int .u64 1, .int .u64 (n:Nat)] w (fun v R=>v = .tuple #[.int .u64 0, .int .u64 (n:Nat)]∧R=[]):=by
 have h:=Calls.spec (enters_of rfl rfl rfl) (Tryz.bits_Mul 1 n (by omega) (by omega) w)
 have e1:1 * n / 18446744073709551616=0:=by omega
 have e2:1 * n % 18446744073709551616=n:=by omega
 rw [e1,e2] at h
 exact h
theorem oneInts:∀ xs:List Int,oneCells (xs.map (Value.int .i64))=true
 | []=>rfl
 | x::xs=>oneInts xs
def repL (n m:Nat) (z:Int):List Value:=List.replicate m (.int .i64 z)++List.replicate (n - m) (.int .i64 0)
theorem repL_len {n m:Nat} (z:Int) (h:m≤n):(repL n m z).length=n:=by simp [repL];omega
theorem repL_all (n:Nat) (z:Int):repL n n z=List.replicate n (.int .i64 z):=by simp [repL]
theorem oneRep (k:Nat) (z:Int):oneCells (List.replicate k (Value.int .i64 z))=true:=by
 have e:List.replicate k (Value.int .i64 z)=(List.replicate k z).map (Value.int .i64):=by rw [List.map_replicate]
 rw [e];exact oneInts _
theorem repL_set {n m k:Nat} (z:Int) (h:m+k≤n):setL (repL n m z) m (List.replicate k (.int .i64 z))=repL n (m+k) z:=by
 rw [setL_eq _ _ _ (by rw [List.length_replicate,repL_len z (by omega)];exact h)]
 unfold repL
 rw [List.take_append_of_le_length (by simp),List.take_of_length_le (by simp),List.length_replicate,List.drop_append,List.drop_eq_nil_of_le (by simp),List.nil_append,List.length_replicate,List.drop_replicate, ← List.append_assoc,List.replicate_append_replicate,show n - m - (m+k - m)=n - (m+k) by omega]
theorem repL_pre {n m k:Nat} (z:Int) (h:k≤m):∀ j u,(List.replicate k (Value.int .i64 z))[j]?=some u→(repL n m z)[0+j]?=some u:=by
 intro j u hu
 have hj:j<k:=by have:=(List.getElem?_eq_some_iff.1 hu).1;simpa using this
 rw [List.getElem?_replicate,if_pos hj] at hu
 unfold repL
 rw [Nat.zero_add,List.getElem?_append_left (by simp;omega),List.getElem?_replicate,if_pos (by omega)]
 exact hu
theorem repeatI_spec (z:Int) (A:Option Addr) (ca n:Nat) (w:World) (hs:Src w 1 A 1 [.int .i64 z]) (hn:n≤1000) :
  Spec Tryz.prog 130 [.slice A 1 ca, .int .i64 (n:Nat)] w (fun v R=>∃ b:Nat,True∧v = .slice (some ⟨b,0,none⟩) n n∧R=[row 3 1 (some ⟨b,0,none⟩) n n (List.replicate n (.int .i64 z))]):=by
 refine spec_of sg Tryz.func130 rfl rfl rfl ?_
 repeat' (first|refine d1 ?_|refine dd ?_|(show ∀ _:Nat,T _ _ _ _ _;intro _))
 refine T_if rfl (fun h=>by exfalso;simp at h;omega) (fun h=>?_)
 repeat' (first|refine d1 ?_|refine dd ?_|(show T _ (.ops _ (_::_)::_) _ _ _;first|refine T_call rfl rfl rfl rfl rfl (fun w hw=>mulOne_spec n (by omega) w) ?_|refine T_callC rfl rfl rfl rfl rfl rfl rfl (fun hg w hw=>mulOne_spec n (by omega) w) ?_)|(show T _ (.run _ _ (_::_) _ _::_) _ _ _;first|refine rc rfl rfl rfl rfl rfl rfl rfl (fun w hw=>mulOne_spec n (by omega) w) ?_|refine rcG rfl rfl rfl rfl rfl rfl rfl rfl rfl (fun hg w hw=>mulOne_spec n (by omega) w) ?_)|(show ∀ _:Nat,T _ _ _ _ _;intro _))
 refine T_if rfl (fun h=>?_) (fun h=>?_)
 ·exfalso
  simp at h
  omega
 repeat' (first|refine d1 ?_|refine dd ?_|(show T _ (.ops _ (_::_)::_) _ _ _;refine T_op (OpT.make rfl rfl rfl rfl rfl rfl rfl rfl rfl (by dsimp only;omega) (fun b=>?_)))|(show ∀ _:Nat,T _ _ _ _ _;intro _))
 refine T_le (H':=[row 3 1 (some ⟨b,0,none⟩) n n (repL n 0 z)]) (Hle.weaken (i:=0) rfl (blk_row (sz:=1) (n:=n) (by simp) (by simp only [maxLen];omega)) rfl) ?_
 have hs1:∀ w',Cls w w' [row 3 1 (some ⟨b,0,none⟩) n n (repL n 0 z)]→Src w' 1 A (min 1 n) (List.replicate (min 1 n) (Value.int .i64 z)):=fun w' hw'=>by
  rcases Nat.eq_zero_or_pos n with h9|h9
  ·rw [h9];exact⟨rfl,fun h=>absurd h (by simp)⟩
  ·rw [Nat.min_eq_left h9];exact src_below hs hw'.below
 repeat' (first|refine d1 ?_|refine dd ?_|(show T _ (.ops _ (_::_)::_) _ _ _;refine T_op (OpT.copyR (g:=b) (k:=min 1 n) (us:=List.replicate (min 1 n) (.int .i64 z)) rfl rfl rfl rfl rfl rfl rfl rfl rfl hs1 (oneRep _ _) (by rw [List.length_replicate];omega) ?_))|(show ∀ _:Nat,T _ _ _ _ _;intro _))
 rw [repL_set z (by omega),Nat.zero_add]
 refine T_loopX (fun m:Nat=>[(8, .int .i64 m)]) (fun m=>[row 3 1 (some ⟨b,0,none⟩) n n (repL n m z)]) (fun m=>m≤n∧(0<n→0<m)) (fun m=>n - m) (min 1 n) ⟨by omega,fun h=>by omega⟩ ?_
 rintro m ⟨hm,hm0⟩
 repeat' (first|refine d1 ?_|refine dd ?_|(show ∀ _:Nat,T _ _ _ _ _;intro _))
 refine T_if rfl (fun h1=>?_) (fun h1=>?_)
 ·simp only [decide_eq_true_eq] at h1
  have hmn:m<n:=by omega
  have hmp:=hm0 (by omega)
  refine rsH [] 1000 [0,1,2,3,4,5,6,7,8,9] ?_
  repeat' (first|refine d1 ?_|refine dd ?_|(show T _ (.run _ _ (_::_) _ _::_) _ _ _;refine ro rfl rfl (OpT.copyR (g:=b) (k:=min m (n - m)) (us:=List.replicate (min m (n - m)) (.int .i64 z)) rfl rfl rfl rfl rfl rfl rfl (cutA_at (by omega)) rfl (fun w hw=>⟨by simp,fun h9=>⟨rfl,rdRow (A:=some ⟨b,0,none⟩) (by omega) (repL_pre z (by omega)) w hw⟩⟩) (oneRep _ _) (by rw [List.length_replicate];omega) ⟨fun _=>Hle.none _,?_⟩))|(show ∀ _:Nat,T _ _ _ _ _;intro _))
  rw [show (m:Int).toNat * 1=m by omega,repL_set (n:=n) (m:=m) (k:=min m (n - m)) z (by omega)]
  exact T_backX (m+min m (n - m)) ⟨by omega,fun _=>by omega⟩ (by omega)
 ·simp only [decide_eq_false_iff_not] at h1
  obtain rfl:m=n:=by omega
  rw [repL_all]
  repeat' (first|refine d1 ?_|refine dd ?_|(show ∀ _:Nat,T _ _ _ _ _;intro _)|(show T _ (.code .ret::_) _ _ _;refine T_retV _ rfl (Hle.refl _) ⟨b,trivial,rfl,rfl⟩))
end Go.Proofs.YtbfcfpmholkmeaaGreatDoor
namespace Go.Proofs.YtbfcfpmholkmeaaGreatDoor
open Go.RowKit Go.Shelf Go.Proofs
set_option maxRecDepth 100000
set_option maxHeartbeats 1000000

structure AddW (w:World) (c:Costs) (A:Option Addr) (n:Nat) (l:List TS) (K:Value) (cols:List (List Int)) (At:Option Addr) (m:Nat) (t:List Tok):Prop where
 hg:Grp w A n l
 hc:costE c=0
 hbs:badS l=false
 hx:Rd (wr w) [K] [rowsD cols]
 hok:∀ col∈cols,ColOk l col
 hts:Src w 6 At m (t.flatMap Tok.cells)
 htl:t.length=m
 hm:m≤1000
 hte:∀ x∈t,tokE x=0
 hsm:∀ x∈t,x.small
 hsz:cols.length≤100000
end Go.Proofs.YtbfcfpmholkmeaaGreatDoor
namespace Go.Proofs.YtbfcfpmholkmeaaGreatDoor
open Go.RowKit Go.Shelf Go.Proofs
set_option maxRecDepth 100000
set_option maxHeartbeats 1000000

theorem AddW.ok {w:World} {c:Costs} {A:Option Addr} {n:Nat} {l:List TS} {K:Value} {cols:List (List Int)} {At:Option Addr} {m:Nat} {t:List Tok} (h:AddW w c A n l K cols At m t):GOk (grdA c l cols t) 32000:=by
 have:=grdA_ok h.hc l cols t
 have h1:=h.hg.hn
 have h2:=h.hg.hb
 exact⟨fun i k=>by have:=this.p i k;omega,fun i=>by have:=this.g i;omega,fun k=>by have:=this.h k;omega⟩
theorem AddW.rst {w:World} {c:Costs} {A:Option Addr} {n:Nat} {l:List TS} {K:Value} {cols:List (List Int)} {At:Option Addr} {m:Nat} {t:List Tok} (h:AddW w c A n l K cols At m t) (i k:Nat):0≤rst (grdA c l cols t) i k∧rst (grdA c l cols t) i k≤10000000000:=by
 have h1:=rst_bd h.ok i k
 have e1:(grdA c l cols t).n=cols.length:=rfl
 have e2:(grdA c l cols t).m=m:=h.htl
 have h2:=h.hsz
 have h3:=h.hm
 rw [e1,e2] at h1
 omega
end Go.Proofs.YtbfcfpmholkmeaaGreatDoor
namespace Go.Proofs.YtbfcfpmholkmeaaGreatDoor
open Go.RowKit Go.Shelf Go.Proofs
set_option maxRecDepth 100000
set_option maxHeartbeats 1000000

theorem Hle.drop3 (A B C:HA) (K:List HA):Hle (A::B::C::K) (A::B::K):=by
 refine Hle.pick (fun i=>if i<2 then i else i+1) (fun i X h=>?_) (fun i j _ _ h=>by show (if i<2 then i else i+1)≠(if j<2 then j else j+1);split <;> split <;> omega)
 rcases i with _|_|i
 ·simpa using h
 ·simpa using h
 ·rw [if_neg (by omega)];simpa using h
end Go.Proofs.YtbfcfpmholkmeaaGreatDoor
namespace Go.Proofs.YtbfcfpmholkmeaaGreatDoor
open Go.RowKit Go.Shelf Go.Proofs
set_option maxRecDepth 100000
set_option maxHeartbeats 1000000

end Go.Proofs.YtbfcfpmholkmeaaGreatDoor
namespace Go.Proofs.YtbfcfpmholkmeaaGreatDoor
open Go.RowKit Go.Shelf Go.Proofs
set_option maxRecDepth 100000
set_option maxHeartbeats 1000000

end Go.Proofs.YtbfcfpmholkmeaaGreatDoor
