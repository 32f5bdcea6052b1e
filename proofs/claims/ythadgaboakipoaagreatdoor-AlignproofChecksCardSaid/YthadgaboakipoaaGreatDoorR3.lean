/- Joined texts of this claim, part 3. -/
import Derived.Test.YthadgaboakipoaaGreatDoorR2
import Derived.Shelf.SlSortCmp.Whole1
set_option linter.unusedSectionVars false
set_option linter.unusedVariables false
set_option linter.unusedSimpArgs false
namespace Go.Proofs.YthadgaboakipoaaGreatDoor

theorem mvs_form {G:Grd} {i k:Nat} {y:Mv} (h:y∈mvs G i k):(y=⟨1,1,G.p i k⟩∧i<G.n∧k<G.m)∨(y=⟨1,0,G.g i⟩∧i<G.n)∨(y=⟨0,1,G.h k⟩∧k<G.m):=by
 obtain⟨f,s,c⟩:=y
 rcases mvs_to h with⟨h1,h2,h3,h4,h5⟩|⟨h1,h2,h3,h5⟩|⟨h1,h2,h3,h5⟩
 ·exact .inl ⟨by rw [show f=1 from h1,show s=1 from h2,show c=_ from h5],h3,h4⟩
 ·exact .inr (.inl ⟨by rw [show f=1 from h1,show s=0 from h2,show c=_ from h5],h3⟩)
 ·exact .inr (.inr ⟨by rw [show f=0 from h1,show s=1 from h2,show c=_ from h5],h3⟩)
theorem aln_len (G:Grd) (i k:Nat):(aln G i k).length≤(G.n - i)+(G.m - k):=by
 unfold aln
 have key:∀ (f i k:Nat),(alnF G f i k).length≤f:=by
  intro f
  induction f with
  | zero=>intro i k;exact Nat.le_refl _
  | succ f ih =>
   intro i k
   unfold alnF
   split
   ·rw [List.length_cons];have:=ih (i+(by assumption:Mv).fst) (k+(by assumption:Mv).snd);omega
   ·exact Nat.zero_le _
 exact key _ i k
def shpP (n m:Nat) (t:List (List Int)):Prop:=t.length=n+1∧∀ r∈t,r.length=m+1
instance (n m:Nat) (t:List (List Int)):Decidable (shpP n m t):=by unfold shpP;infer_instance
def rngP (G:Grd) (t:Nat→Nat→Int):Prop:=∀ i,i<G.n+1→∀ k,k<G.m+1→0≤t i k∧t i k≤big
def stpP (G:Grd) (t:Nat→Nat→Int) (i k:Nat):Prop:=∀ y∈mvs G i k,t i k≤y.cost+t (i+y.fst) (k+y.snd)
def stpsP (G:Grd) (t:Nat→Nat→Int):Prop:=∀ i,i<G.n+1→∀ k,k<G.m+1→stpP G t i k
instance (G:Grd) (t:Nat→Nat→Int):Decidable (rngP G t):=by unfold rngP;infer_instance
instance (G:Grd) (t:Nat→Nat→Int) (i k:Nat):Decidable (stpP G t i k):=by unfold stpP;infer_instance
instance (G:Grd) (t:Nat→Nat→Int):Decidable (stpsP G t):=by unfold stpsP;infer_instance
def certP (G:Grd) (t:Nat→Nat→Int) (z:Int):Prop:=(t G.n G.m=0∧t 0 0=z)∧rngP G t∧stpsP G t
instance (G:Grd) (t:Nat→Nat→Int) (z:Int):Decidable (certP G t z):=by unfold certP;infer_instance
end Go.Proofs.YthadgaboakipoaaGreatDoor
namespace Go.Proofs.YthadgaboakipoaaGreatDoor

inductive Dir where
 | b
 | f
 | s
deriving DecidableEq
def Dir.x:Dir→Nat
 | .b=>1
 | .f=>1
 | .s=>0
def Dir.y:Dir→Nat
 | .b=>1
 | .f=>0
 | .s=>1
def xs:List Dir→Nat
 | []=>0
 | d::l=>d.x+xs l
def ys:List Dir→Nat
 | []=>0
 | d::l=>d.y+ys l
structure Rvs (G F:Grd):Prop where
 n:F.n=G.n
 m:F.m=G.m
 p:∀ i k,i<G.n→k<G.m→F.p (G.n - 1 - i) (G.m - 1 - k)=G.p i k
 g:∀ i,i<G.n→F.g (G.n - 1 - i)=G.g i
 h:∀ k,k<G.m→F.h (G.m - 1 - k)=G.h k
theorem Rvs.symm {G F:Grd} (r:Rvs G F):Rvs F G where
 n:=r.n.symm
 m:=r.m.symm
 p:=fun i k hi hk=>by
  rw [r.n] at hi ⊢;rw [r.m] at hk ⊢
  have:=r.p (G.n - 1 - i) (G.m - 1 - k) (by omega) (by omega)
  rw [show G.n - 1 - (G.n - 1 - i)=i by omega,show G.m - 1 - (G.m - 1 - k)=k by omega] at this
  exact this.symm
 g:=fun i hi=>by
  rw [r.n] at hi ⊢
  have:=r.g (G.n - 1 - i) (by omega)
  rw [show G.n - 1 - (G.n - 1 - i)=i by omega] at this
  exact this.symm
 h:=fun k hk=>by
  rw [r.m] at hk ⊢
  have:=r.h (G.m - 1 - k) (by omega)
  rw [show G.m - 1 - (G.m - 1 - k)=k by omega] at this
  exact this.symm
structure Xch (G F:Grd):Prop where
 n:F.n=G.m
 m:F.m=G.n
 p:∀ i k,i<G.n→k<G.m→F.p k i=G.p i k
 g:∀ k,k<G.m→F.g k=G.h k
 h:∀ i,i<G.n→F.h i=G.g i
end Go.Proofs.YthadgaboakipoaaGreatDoor
namespace Go.Proofs.YthadgaboakipoaaGreatDoor

def scanP (near:Nat→Int) (tk:Nat→Bool):Nat→Int × Int
 | 0=>(-1,0)
 | i+1=>if tk i=true then scanP near tk i else if (scanP near tk i).1<0∨near i<(scanP near tk i).2 then ((i:Int),near i) else scanP near tk i
end Go.Proofs.YthadgaboakipoaaGreatDoor
namespace Go.Proofs.YthadgaboakipoaaGreatDoor
open Go.RowKit Go.Shelf Go.Proofs
set_option maxRecDepth 100000
set_option maxHeartbeats 1000000

structure Grp (w:World) (A:Option Addr) (n:Nat) (l:List TS):Prop where
 hst:Std w
 hs:Src w 1 A n (l.map TS.val)
 hn:l.length=n
 hb:n≤32
 ok:TsOk w l
 nb:∀ t∈l,t.n≤1000
 sm:∀ t∈l,∀ x∈t.l,x.small
theorem Grp.cls {w0 w:World} {H:List HA} {A:Option Addr} {n:Nat} {l:List TS} (h:Grp w0 A n l) (hw:Cls w0 w H):Grp w A n l :=
 ⟨h.hst.cls hw,⟨h.hs.1,fun q=>⟨(h.hs.2 q).1,(h.hs.2 q).2.old hw⟩⟩,h.hn,h.hb,⟨fun t ht=>src_below (h.ok.src t ht) hw.below,h.ok.len,h.ok.bd⟩,h.nb,h.sm⟩
theorem Grp.get {w:World} {b o n:Nat} {l:List TS} (h:Grp w (some ⟨b,o,none⟩) n l) {k:Nat} (hk:k<n):∃ t,l[k]?=some t∧t∈l∧RdC w b (o+(k:Int).toNat * 1) [.slice t.A t.n t.cap]:=by
 obtain⟨t,ht⟩:∃ t,l[k]?=some t:=⟨_,List.getElem?_eq_getElem (by have:=h.hn;omega)⟩
 refine ⟨t,ht,List.mem_of_getElem? ht,?_⟩
 have h9:=(h.hs.get1 (i:=k) hk (by rw [List.getElem?_map,ht];rfl)).2
 rw [Nat.mul_one] at h9
 rw [off1]
 exact h9
def badS (l:List TS):Bool:=l.any fun t=>badL t.l
def ck21 (c:Costs) (l:List TS):Int:=if costE c=0∧badS l=false then 0 else 1
noncomputable def great21B (l:List TS):Bool:=l.any (fun t=>decide (5<t.l.length) || greatB t.l) || decide (4<l.length)
theorem Grp.of {w:World} {A:Option Addr} {n:Nat} {l:List TS} (hst:Std w) (hs:Src w 1 A n (l.map TS.val)) (hn:l.length=n) (hl:TsOk w l) (h:great21B l=false):Grp w A n l∧n≤4∧∀ t∈l,t.n≤5:=by
 unfold great21B at h
 rw [Bool.or_eq_false_iff,decide_eq_false_iff_not,List.any_eq_false] at h
 have h5:∀ t∈l,t.n≤5:=fun t ht=>by
  have:=h.1 t ht
  have:=hl.len t ht
  simp at *
  omega
 refine ⟨⟨hst,hs,hn,by omega,hl,fun t ht=>by have:=h5 t ht;omega,fun t ht x hx=>?_⟩,by omega,h5⟩
 have h9:greatB t.l=false:=by
  have:=h.1 t ht
  simp at this
  exact this.2
 exact (longT_small ((greatB_false h9).1 x hx)).1
end Go.Proofs.YthadgaboakipoaaGreatDoor
namespace Go.Proofs.YthadgaboakipoaaGreatDoor
open Go.RowKit Go.Shelf Go.Proofs
set_option maxRecDepth 100000
set_option maxHeartbeats 1000000

theorem src_int {w:World} {b o n:Nat} {xs:List Int} (hs:Src w 1 (some ⟨b,o,none⟩) n (xs.map (Value.int .i64))) {k:Nat} (hk:k<n) {x:Int} (hx:xs[k]?=some x):RdC w b (o+(k:Int).toNat * 1) [.int .i64 x]:=by
 have h9:=(hs.get1 (i:=k) hk (by rw [List.getElem?_map,hx];rfl)).2
 rw [Nat.mul_one] at h9
 rw [off1]
 exact h9
def minF (key:Int→Int) (x:Int) (l:List Int):Int:=l.foldl (fun m y=>if key y<key m then y else m) x
end Go.Proofs.YthadgaboakipoaaGreatDoor
namespace Go.Proofs.YthadgaboakipoaaGreatDoor

def stp2 (D:Nat→Nat→Int) (fs p:Nat × Nat):Nat × Nat:=if D p.1 p.2<D fs.1 fs.2 then p else fs
def selK (D:Nat→Nat→Int) (i:Nat) (fs:Nat × Nat):Nat→Nat × Nat
 | 0=>fs
 | k+1=>if i<k then stp2 D (selK D i fs k) (i,k) else selK D i fs k
def selI (D:Nat→Nat→Int) (n:Nat):Nat→Nat × Nat
 | 0=>(0,1)
 | i+1=>selK D i (selI D n i) n
theorem selK_low (D:Nat→Nat→Int) (i:Nat) (fs:Nat × Nat):∀ k,k≤i+1→selK D i fs k=fs
 | 0,_=>rfl
 | k+1,h=>by rw [selK,if_neg (by omega)];exact selK_low D i fs k (by omega)
structure Sym (D:Nat→Nat→Int):Prop where
 z:∀ i,D i i=0
 s:∀ i k,D i k=D k i
def tkOf (out:List Nat) (i:Nat):Bool:=out.any fun x=>decide (i=x)
def keyD (D:Nat→Nat→Int) (i:Nat) (x:Int):Int:=D i x.toNat
def minO (D:Nat→Nat→Int) (out:List Nat) (i:Nat):Int:=minF (keyD D i) (out.headD 0:Nat) (out.tail.map fun (x:Nat)=>(x:Int))
def nearV (D:Nat→Nat→Int) (out:List Nat) (i:Nat):Int:=D i (minO D out i).toNat
def nxtO (D:Nat→Nat→Int) (n:Nat) (out:List Nat):Nat:=(scanP (nearV D out) (tkOf out) n).1.toNat
def ordJ (D:Nat→Nat→Int) (n:Nat):Nat→List Nat
 | 0=>[(selI D n n).1,(selI D n n).2]
 | j+1=>ordJ D n j++[nxtO D n (ordJ D n j)]
def orderV (D:Nat→Nat→Int) (n:Nat):List Nat:=if n=0 then [] else if n=1 then [0] else ordJ D n (n - 2)
theorem ordJ_len (D:Nat→Nat→Int) (n:Nat):∀ j,(ordJ D n j).length=j+2
 | 0=>rfl
 | j+1=>by rw [ordJ,List.length_append,ordJ_len D n j];rfl
end Go.Proofs.YthadgaboakipoaaGreatDoor
namespace Go.Proofs.YthadgaboakipoaaGreatDoor

structure Dbl (G F:Grd):Prop where
 n:F.n=G.n
 m:F.m=G.m
 p:∀ i k,i<G.n→k<G.m→F.p i k=2 * G.p i k
 g:∀ i,i<G.n→F.g i=2 * G.g i
 h:∀ k,k<G.m→F.h k=2 * G.h k
structure One (G F:Grd) (q:Nat) (z:Int):Prop where
 hq:q≤G.n
 n:F.n=G.n+1
 m:F.m=G.m
 p:∀ i k,i<q→k<G.m→F.p i k=G.p i k
 g:∀ i,i<q→F.g i=G.g i
 z:F.g q=z
 p2:∀ i k,q≤i→i<G.n→k<G.m→F.p (i+1) k=G.p i k
 g2:∀ i,q≤i→i<G.n→F.g (i+1)=G.g i
 h:∀ k,k<G.m→F.h k=G.h k
end Go.Proofs.YthadgaboakipoaaGreatDoor
namespace Go.Proofs.YthadgaboakipoaaGreatDoor
open Go.RowKit Go.Shelf Go.Proofs
set_option maxRecDepth 100000
set_option maxHeartbeats 1000000

def entC (c:Costs) (l:List Tok) (z:Int) (t:List Tok) (k:Int):Int :=
 if 0≤z∧0≤k then pairC c (tkA l z.toNat) (tkA t k.toNat) else if 0≤z then gapC c (tkA l z.toNat) else if 0≤k then gapC c (tkA t k.toNat) else 0
theorem entC_bd {c:Costs} (hc:costE c=0) (l:List Tok) (z:Int) (t:List Tok) (k:Int):0≤entC c l z t k∧entC c l z t k≤1000:=by
 obtain⟨c1,c2,c3,c4,c5⟩:=costE_ok hc
 have h1:=pairC_bd hc (tkA l z.toNat) (tkA t k.toNat)
 have h2:=gapC_bd hc (tkA l z.toNat)
 have h3:=gapC_bd hc (tkA t k.toNat)
 unfold entC
 (repeat' split) <;> omega
def putS (c:Costs) (l:List TS) (col:List Int) (t:List Tok) (k:Int) (j:Nat):Int:=(((l.zip col).take j).map fun p=>entC c p.1.l p.2 t k).sum
def putC (c:Costs) (l:List TS) (col:List Int) (t:List Tok) (k:Int):Int:=((l.zip col).map fun p=>entC c p.1.l p.2 t k).sum
theorem putS_succ (c:Costs) {l:List TS} {col:List Int} (t:List Tok) (k:Int) {j:Nat} {s:TS} {z:Int} (h1:l[j]?=some s) (h2:col[j]?=some z):putS c l col t k (j+1)=putS c l col t k j+entC c s.l z t k:=by
 have h:(l.zip col)[j]?=some (s,z):=by rw [List.getElem?_zip_eq_some];exact⟨h1,h2⟩
 unfold putS;rw [take_snoc _ _ _ h,List.map_append,List.sum_append];simp
theorem putS_bd {c:Costs} (hc:costE c=0) (l:List TS) (col:List Int) (t:List Tok) (k:Int):∀ j,0≤putS c l col t k j∧putS c l col t k j≤1000 * (j:Int)
 | 0=>by simp [putS]
 | j+1=>by
  have ih:=putS_bd hc l col t k j
  cases h:(l.zip col)[j]? with
  | none =>
   have hl:(l.zip col).length≤j:=List.getElem?_eq_none_iff.1 h
   have e:putS c l col t k (j+1)=putS c l col t k j:=by unfold putS;rw [List.take_of_length_le hl,List.take_of_length_le (by omega)]
   rw [e];omega
  | some p =>
   obtain⟨h1,h2⟩:=List.getElem?_zip_eq_some.1 h
   have:=entC_bd hc p.1.l p.2 t k
   rw [putS_succ c t k h1 h2];omega
theorem putS_all (c:Costs) {l:List TS} {col:List Int} (t:List Tok) (k:Int) {n:Nat} (h:l.length≤n):putS c l col t k n=putC c l col t k:=by
 unfold putS putC;rw [List.take_of_length_le (by rw [List.length_zip];omega)]
def ColOk (l:List TS) (col:List Int):Prop:=col.length=l.length∧∀ (j:Nat) (z:Int) (s:TS),col[j]?=some z→l[j]?=some s → -1≤z∧z<(s.n:Int)
theorem badS_ok {l:List TS} (h:badS l=false):∀ s∈l,∀ x∈s.l,tokE x=0:=fun s hs=>badL_false.1 (by
 unfold badS at h
 rw [List.any_eq_false] at h
 simpa using h s hs)
theorem tkA_mem2 {l:List Tok} {z:Int} (h0:0≤z) (h1:z<(l.length:Nat)):tkA l z.toNat∈l:=List.mem_of_getElem? (tkA_get (l:=l) (i:=z.toNat) (by omega))
end Go.Proofs.YthadgaboakipoaaGreatDoor
namespace Go.Proofs.YthadgaboakipoaaGreatDoor
open Go.RowKit Go.Shelf Go.Proofs

def bst (best x:Int):Int:=if best<0∨x<best then x else best
def noneC (n:Nat):List Int:=List.replicate n (-1)
def grdA (c:Costs) (l:List TS) (cols:List (List Int)) (t:List Tok):Grd :=
 ⟨cols.length,t.length,fun i k=>putC c l (cols.getD i []) t (k:Nat),fun i=>putC c l (cols.getD i []) t (-1),fun k=>putC c l (noneC l.length) t (k:Nat)⟩
theorem putC_bd {c:Costs} (hc:costE c=0) (l:List TS) (col:List Int) (t:List Tok) (k:Int):0≤putC c l col t k∧putC c l col t k≤1000 * (l.length:Int):=by
 rw [← putS_all c (l:=l) (col:=col) t k (Nat.le_refl _)]
 exact putS_bd hc l col t k l.length
theorem grdA_ok {c:Costs} (hc:costE c=0) (l:List TS) (cols:List (List Int)) (t:List Tok):GOk (grdA c l cols t) (1000 * (l.length:Int)) :=
 ⟨fun i k=>putC_bd hc l _ t _,fun i=>putC_bd hc l _ t _,fun k=>putC_bd hc l _ t _⟩
def colM (n:Nat) (cols:List (List Int)) (i k:Nat) (v:Mv):List Int:=(if v.fst=1 then cols.getD i [] else noneC n)++[if v.snd=1 then (k:Int) else -1]
def colA (n:Nat) (cols:List (List Int)) (r:List Int):List Int:=(if r.headD 0<0 then noneC n else cols.getD (r.headD 0).toNat [])++[r.getD 1 0]
theorem colA_mv (n:Nat) (cols:List (List Int)) (i k:Nat) (v:Mv):colA n cols (mvCol i k v)=colM n cols i k v:=by
 unfold colA colM mvCol
 by_cases h:v.fst=1
 ·simp [h];intro h9;omega
 ·simp [h]
def addV (c:Costs) (l:List TS) (cols:List (List Int)) (t:List Tok) (i k:Nat):List (List Int):=(aln (grdA c l cols t) i k).map (colA l.length cols)
theorem addV_step {c:Costs} {l:List TS} {cols:List (List Int)} {t:List Tok} {i k:Nat} {x:Mv} (h:fstM (grdA c l cols t) i k=some x):addV c l cols t i k=colM l.length cols i k x::addV c l cols t (i+x.fst) (k+x.snd):=by
 unfold addV;rw [aln_step h,List.map_cons,colA_mv]
theorem addV_end {c:Costs} {l:List TS} {cols:List (List Int)} {t:List Tok} {i k:Nat} (h:¬ (i<cols.length∨k<t.length)):addV c l cols t i k=[]:=by
 unfold addV;rw [aln_end (by exact h)];rfl
theorem addV_len (c:Costs) (l:List TS) (cols:List (List Int)) (t:List Tok):(addV c l cols t 0 0).length≤cols.length+t.length:=by
 unfold addV;rw [List.length_map];exact aln_len _ 0 0
def srcC (cols:List (List Int)) (s:Nat):List Int:=(cols.map fun x=>x.getD s (-1)).filter fun z=>decide (z ≠ -1)
def upto (n:Nat):List Int:=(List.range n).map fun (x:Nat)=>(x:Int)
theorem upto_len (n:Nat):(upto n).length=n:=by simp [upto]
theorem upto_get {n i:Nat} (h:i<n):(upto n)[i]?=some (i:Int):=by unfold upto;rw [List.getElem?_map,List.getElem?_range h];rfl
theorem upto_succ (n:Nat):upto (n+1)=upto n++[(n:Int)]:=by unfold upto;rw [List.range_succ,List.map_append];rfl
theorem upto_mem {n:Nat} {z:Int}:z∈upto n↔0≤z∧z<(n:Int):=by
 unfold upto
 rw [List.mem_map]
 constructor
 ·rintro⟨a,ha,rfl⟩
  rw [List.mem_range] at ha
  omega
 ·rintro⟨h1,h2⟩
  exact⟨z.toNat,List.mem_range.2 (by omega),by omega⟩
structure ColsOk (ls:List Nat) (cols:List (List Int)):Prop where
 len:∀ x∈cols,x.length=ls.length
 some_:∀ x∈cols,∃ z∈x,z ≠ -1
 src:∀ s n,ls[s]?=some n→srcC cols s=upto n
theorem srcC_app (a b:List (List Int)) (s:Nat):srcC (a++b) s=srcC a s++srcC b s:=by unfold srcC;rw [List.map_append,List.filter_append]
theorem srcC_cons (x:List Int) (b:List (List Int)) (s:Nat):srcC (x::b) s=(if x.getD s (-1) = -1 then [] else [x.getD s (-1)])++srcC b s:=by
 unfold srcC
 rw [List.map_cons,List.filter_cons]
 by_cases h:x.getD s (-1) = -1
 ·rw [if_pos h,h];simp
 ·rw [if_neg h,if_pos (by simpa using h)];rfl
theorem srcC_mem {cols:List (List Int)} {s:Nat} {x:List Int} {z:Int} (hx:x∈cols) (hz:x[s]?=some z) (h:z ≠ -1):z∈srcC cols s:=by
 unfold srcC
 rw [List.mem_filter]
 refine ⟨List.mem_map.2 ⟨x,hx,?_⟩,by simpa using h⟩
 rw [List.getD_eq_getElem?_getD,hz];rfl
theorem ColsOk.entry {ls:List Nat} {cols:List (List Int)} (h:ColsOk ls cols) {x:List Int} (hx:x∈cols) {s n:Nat} {z:Int} (hs:ls[s]?=some n) (hz:x[s]?=some z) : -1≤z∧z<(n:Int):=by
 by_cases h1:z = -1
 ·subst h1;omega
 ·have:=srcC_mem hx hz h1
  rw [h.src s n hs,upto_mem] at this
  omega
theorem ColsOk.colOk {l:List TS} {cols:List (List Int)} (h:ColsOk (l.map fun t=>t.n) cols) {x:List Int} (hx:x∈cols):ColOk l x:=by
 refine ⟨by rw [h.len x hx,List.length_map],fun j z s hz hs=>?_⟩
 exact h.entry hx (s:=j) (by rw [List.getElem?_map,hs];rfl) hz
theorem ColsOk.nil:ColsOk [] []:=⟨fun x h=>(by cases h),fun x h=>(by cases h),fun s n h=>(by simp at h)⟩
theorem srcC_drop {cols:List (List Int)} {i:Nat} (h:i<cols.length) (s:Nat):srcC (cols.drop i) s=(if (cols.getD i []).getD s (-1) = -1 then [] else [(cols.getD i []).getD s (-1)])++srcC (cols.drop (i+1)) s:=by
 have e:cols.getD i []=cols[i]:=by rw [List.getD_eq_getElem?_getD,List.getElem?_eq_getElem h];rfl
 rw [List.drop_eq_getElem_cons h,srcC_cons,e]
theorem addV_rest {c:Costs} {l:List TS} {cols:List (List Int)} {t:List Tok} (hlen:∀ x∈cols,x.length=l.length):∀ i k,i≤cols.length→k≤t.length →
  (∀ s,s<l.length→srcC (addV c l cols t i k) s=srcC (cols.drop i) s)∧srcC (addV c l cols t i k) l.length=(upto t.length).drop k:=by
 refine grd_ind (grdA c l cols t) fun i k h1 h2 h3 hi hk=>?_
 have e1:(grdA c l cols t).n=cols.length:=rfl
 have e2:(grdA c l cols t).m=t.length:=rfl
 have hr:∀ i,i<cols.length→(cols.getD i []).length=l.length:=fun i h=>by
  rw [List.getD_eq_getElem?_getD,List.getElem?_eq_getElem h];exact hlen _ (List.getElem_mem h)
 have hlow:∀ i s (z:Int),i<cols.length→s<l.length→(cols.getD i []++[z]).getD s (-1)=(cols.getD i []).getD s (-1):=fun i s z h h9=>by
  rw [List.getD_eq_getElem?_getD,List.getElem?_append_left (by rw [hr i h];exact h9), ← List.getD_eq_getElem?_getD]
 have hlast:∀ (a:List Int) (z:Int),a.length=l.length→(a++[z]).getD l.length (-1)=z:=fun a z h=>by
  rw [List.getD_eq_getElem?_getD,List.getElem?_append_right (by omega),h,Nat.sub_self];rfl
 have hnl:(noneC l.length).length=l.length:=by simp [noneC]
 have hnone:∀ s (z:Int),s<l.length→(noneC l.length++[z]).getD s (-1) = -1:=fun s z h=>by
  rw [List.getD_eq_getElem?_getD,List.getElem?_append_left (by rw [hnl];exact h)]
  unfold noneC;rw [List.getElem?_replicate,if_pos h];rfl
 have hd:k<t.length→(upto t.length).drop k=(k:Int)::(upto t.length).drop (k+1):=fun h=>by
  have hg:(upto t.length)[k]'(by rw [upto_len];exact h)=(k:Int):=by
   have:=upto_get h
   rw [List.getElem?_eq_getElem (by rw [upto_len];exact h)] at this
   exact Option.some.inj this
  rw [List.drop_eq_getElem_cons (by rw [upto_len];exact h),hg]
 by_cases he:i<cols.length∨k<t.length
 ·obtain⟨x,hx⟩:=fstM_ex (G:=grdA c l cols t) (i:=i) (k:=k) he
  rw [addV_step hx]
  rcases mvs_form (fstM_mem hx).1 with⟨rfl,f1,f2⟩|⟨rfl,f1⟩|⟨rfl,f1⟩
  ·obtain⟨g1,g2⟩:=h3 f1 f2 (by omega) (by omega)
   have f1':i<cols.length:=f1
   have f2':k<t.length:=f2
   refine ⟨fun s hs=>?_,?_⟩
   ·rw [srcC_cons]
    simp only [colM,if_true]
    rw [hlow i s _ f1' hs,g1 s hs,srcC_drop f1' s]
   ·rw [srcC_cons]
    simp only [colM,if_true]
    rw [hlast _ _ (hr i f1'),g2,if_neg (by omega),hd f2'];rfl
  ·obtain⟨g1,g2⟩:=h1 f1 (by omega) hk
   have f1':i<cols.length:=f1
   refine ⟨fun s hs=>?_,?_⟩
   ·rw [srcC_cons]
    simp only [colM,if_true,Nat.add_zero]
    rw [hlow i s _ f1' hs,g1 s hs,srcC_drop f1' s]
   ·rw [srcC_cons]
    simp only [colM,if_true,Nat.add_zero,show ¬ (0:Nat)=1 by omega,if_false]
    rw [hlast _ _ (hr i f1'),if_pos rfl,g2];rfl
  ·obtain⟨g1,g2⟩:=h2 f1 hi (by omega)
   have f1':k<t.length:=f1
   refine ⟨fun s hs=>?_,?_⟩
   ·rw [srcC_cons]
    simp only [colM,show ¬ (0:Nat)=1 by omega,if_false,Nat.add_zero]
    rw [hnone s _ hs,if_pos rfl,g1 s hs];rfl
   ·rw [srcC_cons]
    simp only [colM,show ¬ (0:Nat)=1 by omega,if_false,if_true,Nat.add_zero]
    rw [hlast _ _ hnl,g2,if_neg (by omega),hd f1'];rfl
 ·rw [addV_end he]
  have hi2:i=cols.length:=by omega
  have hk2:k=t.length:=by omega
  refine ⟨fun s hs=>?_,?_⟩
  ·rw [List.drop_of_length_le (by omega)]
  ·rw [List.drop_of_length_le (by rw [upto_len];omega)];rfl
theorem addV_all {c:Costs} {l:List TS} {cols:List (List Int)} {t:List Tok} {P:List Int→Prop} (h10:∀ x∈cols,∀ z:Int,P (x++[z])) (h01:∀ k:Nat,P (noneC l.length++[(k:Int)])):∀ i k,∀ x∈addV c l cols t i k,P x:=by
 refine grd_ind (grdA c l cols t) fun i k h1 h2 h3 x hx=>?_
 by_cases he:i<cols.length∨k<t.length
 ·obtain⟨y,hy⟩:=fstM_ex (G:=grdA c l cols t) (i:=i) (k:=k) he
  rw [addV_step hy] at hx
  have hc:∀ i,i<cols.length→cols.getD i []∈cols:=fun i h=>by rw [List.getD_eq_getElem?_getD,List.getElem?_eq_getElem h];exact List.getElem_mem h
  rcases mvs_form (fstM_mem hy).1 with⟨rfl,f1,f2⟩|⟨rfl,f1⟩|⟨rfl,f1⟩
  ·rcases List.mem_cons.1 hx with rfl|hx
   ·simp only [colM,if_true];exact h10 _ (hc i f1) _
   ·exact h3 f1 f2 x hx
  ·rcases List.mem_cons.1 hx with rfl|hx
   ·simp only [colM,if_true];exact h10 _ (hc i f1) _
   ·exact h1 f1 x hx
  ·rcases List.mem_cons.1 hx with rfl|hx
   ·simp only [colM,show ¬ (0:Nat)=1 by omega,if_false,if_true];exact h01 k
   ·exact h2 f1 x hx
 ·rw [addV_end he] at hx;cases hx
theorem addV_ok {c:Costs} {l:List TS} {cols:List (List Int)} {t:List Tok} {ls:List Nat} (hl:ls.length=l.length) (h:ColsOk ls cols):ColsOk (ls++[t.length]) (addV c l cols t 0 0):=by
 have hlen:∀ x∈cols,x.length=l.length:=fun x hx=>by rw [h.len x hx,hl]
 obtain⟨r1,r2⟩:=addV_rest (c:=c) (t:=t) hlen 0 0 (Nat.zero_le _) (Nat.zero_le _)
 refine ⟨?_,?_,fun s n hs=>?_⟩
 ·refine addV_all (P:=fun x=>x.length=(ls++[t.length]).length) (fun x hx z=>?_) (fun k=>?_) 0 0
  ·rw [List.length_append,List.length_append,h.len x hx];rfl
  ·rw [List.length_append,List.length_append,hl];simp [noneC]
 ·refine addV_all (P:=fun x=>∃ z∈x,z ≠ -1) (fun x hx z=>?_) (fun k=>?_) 0 0
  ·obtain⟨y,hy,hy2⟩:=h.some_ x hx
   exact⟨y,List.mem_append_left _ hy,hy2⟩
  ·exact⟨k,List.mem_append_right _ (List.mem_singleton.2 rfl),by omega⟩
 ·rcases Nat.lt_or_ge s ls.length with h1|h1
  ·rw [List.getElem?_append_left h1] at hs
   rw [r1 s (by omega),List.drop_zero,h.src s n hs]
  ·rw [List.getElem?_append_right h1] at hs
   have h2:s - ls.length=0:=by have:=(List.getElem?_eq_some_iff.1 hs).1;simp at this;omega
   rw [h2] at hs
   simp only [List.getElem?_cons_zero,Option.some.injEq] at hs
   rw [show s=l.length by omega,r2,List.drop_zero,hs]
end Go.Proofs.YthadgaboakipoaaGreatDoor
namespace Go.Proofs.YthadgaboakipoaaGreatDoor

end Go.Proofs.YthadgaboakipoaaGreatDoor
namespace Go.Proofs.YthadgaboakipoaaGreatDoor
open Go.RowKit Go.Shelf Go.Proofs
set_option maxRecDepth 100000
set_option maxHeartbeats 1000000

end Go.Proofs.YthadgaboakipoaaGreatDoor
namespace Go.Proofs.YthadgaboakipoaaGreatDoor
open Go.RowKit Go.Shelf Go.Proofs
set_option maxRecDepth 100000
set_option maxHeartbeats 1000000

theorem find_at {α:Type} {p:α→Bool}:∀ {l:List α} {j:Nat} {v:α},l[j]?=some v→p v=true→(∀ j' y,j'<j→l[j']?=some y→p y=false)→l.find? p=some v
 | x::l,0,v,h,hp,_=>by simp at h;subst h;rw [List.find?_cons_of_pos hp]
 | x::l,j+1,v,h,hp,hn=>by
  rw [List.find?_cons_of_neg (by rw [hn 0 x (by omega) rfl];simp)]
  exact find_at (l:=l) (j:=j) (by simpa using h) hp (fun j' y hj hy=>hn (j'+1) y (by omega) (by simpa using hy))
end Go.Proofs.YthadgaboakipoaaGreatDoor
namespace Go.Proofs.YthadgaboakipoaaGreatDoor
open Go.RowKit Go.Shelf Go.Proofs
set_option maxRecDepth 100000
set_option maxHeartbeats 1000000

theorem tok6 (t:Tok):t.cells.length=6:=rfl
theorem Two.sub {w:World} {A B:Option Addr} {n m:Nat} {a b:List Tok} (h:Two w A B n m a b) {ca cb:Nat} (hca:n≤ca) (hcb:m≤cb) (lo hi lo' hi':Nat) (h1:lo≤hi) (h2:hi≤n) (h3:lo'≤hi') (h4:hi'≤m) :
  Two w (cutA A ca lo 6) (cutA B cb lo' 6) (hi - lo) (hi' - lo') ((a.take hi).drop lo) ((b.take hi').drop lo') :=
 ⟨h.hst,src_sub Tok.cells 6 tok6 h.ha h.hn lo hi h1 h2 hca,by rw [List.length_drop,List.length_take,h.hn];omega,by have:=h.hnb;omega,src_sub Tok.cells 6 tok6 h.hb h.hm lo' hi' h3 h4 hcb,by rw [List.length_drop,List.length_take,h.hm];omega,by have:=h.hmb;omega,
  fun t ht=>h.hsa t (List.mem_of_mem_take (List.mem_of_mem_drop ht)),fun t ht=>h.hsb t (List.mem_of_mem_take (List.mem_of_mem_drop ht))⟩
theorem Two.pre {w:World} {A B:Option Addr} {n m:Nat} {a b:List Tok} (h:Two w A B n m a b) (hi hi':Nat) (h2:hi≤n) (h4:hi'≤m) :
  Two w A B hi hi' (a.take hi) (b.take hi') :=
 ⟨h.hst,src_take Tok.cells 6 tok6 h.ha h.hn hi h2,by rw [List.length_take,h.hn];omega,by have:=h.hnb;omega,src_take Tok.cells 6 tok6 h.hb h.hm hi' h4,by rw [List.length_take,h.hm];omega,by have:=h.hmb;omega,
  fun t ht=>h.hsa t (List.mem_of_mem_take ht),fun t ht=>h.hsb t (List.mem_of_mem_take ht)⟩
end Go.Proofs.YthadgaboakipoaaGreatDoor
namespace Go.Proofs.YthadgaboakipoaaGreatDoor
open Go.RowKit Go.Shelf Go.Proofs
set_option maxRecDepth 100000
set_option maxHeartbeats 1000000

end Go.Proofs.YthadgaboakipoaaGreatDoor
namespace Go.Proofs.YthadgaboakipoaaGreatDoor
open Go.RowKit Go.Shelf Go.Proofs
set_option maxRecDepth 100000
set_option maxHeartbeats 1000000

theorem rd_lit {w:World} {b n:Nat} {cs:List Value} {l:List D} (h:Src w 1 (some ⟨b,0,none⟩) n cs) (hn:n≤9223372036854775807) (hr:Rd (wr w) cs l):Rd (wr w) [.slice (some ⟨b,0,none⟩) n n] [.s 1 l]:=h.rdD (Nat.le_refl _) hn hr
theorem rd_ints {w:World} {b n:Nat} {r:List Int} (h:Src w 1 (some ⟨b,0,none⟩) n (r.map (Value.int .i64))) (hn:n≤9223372036854775807):Rd (wr w) [.slice (some ⟨b,0,none⟩) n n] [intsD r]:=by
 have:=rd_lit h hn (Rd.vals _)
 rw [List.map_map] at this
 exact this
instance (t:Tok):Decidable t.small:=inferInstanceAs (Decidable (_∧_))
end Go.Proofs.YthadgaboakipoaaGreatDoor
namespace Go.Proofs.YthadgaboakipoaaGreatDoor
open Go.RowKit Go.Shelf Go.Proofs
set_option maxRecDepth 100000
set_option maxHeartbeats 1000000

end Go.Proofs.YthadgaboakipoaaGreatDoor
namespace Go.Proofs.YthadgaboakipoaaGreatDoor
open Go.RowKit Go.Shelf Go.Proofs
set_option maxRecDepth 100000
set_option maxHeartbeats 1000000

theorem Rd.tabS {w:World} {x:Value} {m:List (List Int)} (h:Rd (wr w) [x] [rowsD m]):∃ A cap cs,x = .slice A m.length cap∧m.length≤cap∧cap≤9223372036854775807∧Src w 1 A m.length cs∧Rd (wr w) cs (m.map intsD):=by
 obtain⟨A,n,cap,cs,rfl,h1,h2,h3,h4,h5⟩:=h.src
 rw [List.length_map,Nat.mul_one] at h1
 subst h1
 exact⟨A,cap,cs,rfl,h2,h3,h4,h5⟩
end Go.Proofs.YthadgaboakipoaaGreatDoor
namespace Go.Proofs.YthadgaboakipoaaGreatDoor
open Go.RowKit Go.Shelf Go.Proofs
set_option maxRecDepth 100000
set_option maxHeartbeats 1000000

def arrJ (ord:List Nat) (r:List Int):Nat→List Int
 | 0=>List.replicate r.length 0
 | j+1=>(arrJ ord r j).set (ord.getD j 0) (r.getD j 0)
def arrR (ord:List Nat) (r:List Int):List Int:=arrJ ord r r.length
end Go.Proofs.YthadgaboakipoaaGreatDoor
namespace Go.Proofs.YthadgaboakipoaaGreatDoor
open Go.RowKit Go.Shelf Go.Proofs
set_option maxRecDepth 100000
set_option maxHeartbeats 1000000

theorem equalI_spec (x y:Value) (p q:List Int) (w:World) (hx:Rd (wr w) [x] [intsD p]) (hy:Rd (wr w) [y] [intsD q]) :
  Spec Tryz.prog 22 [x,y] w (fun v R=>v = .bool (decide (p=q))∧R=[]):=by
 obtain⟨A,ca,rfl,hnb,hl⟩:=hx.ints
 obtain⟨B,cb,rfl,hmb,hb⟩:=hy.ints
 refine spec_of sg Tryz.func22 rfl rfl rfl ?_
 repeat' (first|refine d1 ?_|refine dd ?_|(show ∀ _:Nat,T _ _ _ _ _;intro _))
 refine T_if rfl (fun h=>?_) (fun h=>?_)
 ·simp only [Bool.not_eq_true',decide_eq_false_iff_not] at h
  repeat' (first|refine d1 ?_|refine dd ?_|(show ∀ _:Nat,T _ _ _ _ _;intro _)|(show T _ (.code .ret::_) _ _ _;refine T_retV [] rfl (Hle.none _) ⟨?_,rfl⟩))
  rw [decide_eq_false (fun e=>h (by rw [e]))];rfl
 simp only [Bool.not_eq_false',decide_eq_true_eq] at h
 repeat' (first|refine d1 ?_|refine dd ?_|(show ∀ _:Nat,T _ _ _ _ _;intro _))
 refine T_loopX (fun k:Nat=>[(13, .int .i64 k)]) (fun _=>[]) (fun k=>k≤p.length∧∀ j,j<k→p[j]?=q[j]?) (fun k=>p.length - k) 0 ⟨by omega,fun j h=>by omega⟩ ?_
 rintro k ⟨hk,hok⟩
 repeat' (first|refine d1 ?_|refine dd ?_|(show ∀ _:Nat,T _ _ _ _ _;intro _))
 refine T_if rfl (fun h3=>?_) (fun h3=>?_)
 ·simp only [decide_eq_true_eq] at h3
  have hkn:k<p.length:=by omega
  have hkq:k<q.length:=by omega
  obtain⟨ba,oa,rfl⟩:=hl.base (by omega)
  obtain⟨bb,ob,rfl⟩:=hb.base (by omega)
  obtain⟨u,hu⟩:∃ u,p[k]?=some u:=⟨_,List.getElem?_eq_getElem hkn⟩
  obtain⟨v,hv⟩:∃ v,q[k]?=some v:=⟨_,List.getElem?_eq_getElem hkq⟩
  have hr1:RdC w ba (oa+(k:Int).toNat * 1) [.int .i64 u]:=(hl.get1 (by omega) (by rw [Int.toNat_natCast,List.getElem?_map,hu];rfl)).2
  have hr2:RdC w bb (ob+(k:Int).toNat * 1) [.int .i64 v]:=(hb.get1 (by omega) (by rw [Int.toNat_natCast,List.getElem?_map,hv];rfl)).2
  repeat' (first|refine d1 ?_|refine dd ?_|(show ∀ _:Nat,T _ _ _ _ _;intro _))
  refine T_if rfl (fun h4=>?_) (fun h4=>?_)
  ·simp only [Bool.not_eq_true',decide_eq_false_iff_not] at h4
   repeat' (first|refine d1 ?_|refine dd ?_|(show ∀ _:Nat,T _ _ _ _ _;intro _)|(show T _ (.code .ret::_) _ _ _;refine T_retV [] rfl (Hle.none _) ⟨?_,rfl⟩))
   rw [decide_eq_false (fun e=>h4 (by rw [e,hv] at hu;exact (Option.some.inj hu).symm))];rfl
  ·simp only [Bool.not_eq_false',decide_eq_true_eq] at h4
   repeat' (first|refine d1 ?_|refine dd ?_|(show ∀ _:Nat,T _ _ _ _ _;intro _))
   refine T_backX (k+1) ⟨by omega,fun j hj=>?_⟩ (by omega)
   rcases Nat.lt_or_ge j k with h5|h5
   ·exact hok j h5
   ·rw [show j=k by omega,hu,hv,h4]
 ·simp only [decide_eq_false_iff_not] at h3
  repeat' (first|refine d1 ?_|refine dd ?_|(show ∀ _:Nat,T _ _ _ _ _;intro _)|(show T _ (.code .ret::_) _ _ _;refine T_retV [] rfl (Hle.none _) ⟨?_,rfl⟩))
  rw [decide_eq_true (list_eq_of (by omega) fun j hj=>hok j (by omega))];rfl
end Go.Proofs.YthadgaboakipoaaGreatDoor
namespace Go.Proofs.YthadgaboakipoaaGreatDoor
open Go.RowKit Go.Shelf Go.Proofs
set_option maxRecDepth 100000
set_option maxHeartbeats 1000000

end Go.Proofs.YthadgaboakipoaaGreatDoor
namespace Go.Proofs.YthadgaboakipoaaGreatDoor
open Go.RowKit Go.Shelf Go.Proofs
set_option maxRecDepth 100000
set_option maxHeartbeats 1000000

def addL (c:Costs) (L K T B:Value):List Value:=c.cells++[L,K,T,B]
theorem noTok_small:noTok.small:=by decide +kernel
end Go.Proofs.YthadgaboakipoaaGreatDoor
namespace Go.Proofs.YthadgaboakipoaaGreatDoor
open Go.RowKit Go.Shelf Go.Proofs
set_option maxRecDepth 100000
set_option maxHeartbeats 1000000

def tsA (l:List TS) (i:Nat):TS:=l.getD i ⟨none,0,0,[]⟩
theorem tsA_eq {l:List TS} {i:Nat} {t:TS} (h:l[i]?=some t):tsA l i=t:=by unfold tsA;rw [List.getD_eq_getElem?_getD,h];rfl
def dstT (c:Costs) (l:List TS) (i k:Nat):Int:=if i<k then rst (grdOf c (tsA l i).l (tsA l k).l) 0 0 else if k<i then rst (grdOf c (tsA l k).l (tsA l i).l) 0 0 else 0
theorem Grp.len {w:World} {A:Option Addr} {n:Nat} {l:List TS} (hg:Grp w A n l):∀ t∈l,t.l.length≤1000:=fun t ht=>by
 have:=hg.ok.len t ht
 have:=hg.nb t ht
 omega
theorem Grp.two {w:World} {A:Option Addr} {n:Nat} {l:List TS} (hg:Grp w A n l) {s t:TS} (hs:s∈l) (ht:t∈l):Two w s.A t.A s.n t.n s.l t.l :=
 ⟨hg.hst,hg.ok.src s hs,hg.ok.len s hs,hg.nb s hs,hg.ok.src t ht,hg.ok.len t ht,hg.nb t ht,hg.sm s hs,hg.sm t ht⟩
def intN (l:List Nat):List Int:=l.map fun (x:Nat)=>(x:Int)
def OutOk (D:Nat→Nat→Int) (n:Nat) (out:List Nat):Prop:=(n<2∧out=orderV D n)∨(2≤n∧∃ j,out=ordJ D n j)
theorem OutOk.start (D:Nat→Nat→Int) (n:Nat):OutOk D n ([(selI D n n).1,(selI D n n).2].take (min n 2)):=by
 rcases Nat.lt_or_ge n 2 with h|h
 ·refine .inl ⟨h,?_⟩
  rcases (show n=0∨n=1 by omega) with rfl|rfl
  ·rfl
  ·have e:selI D 1 1=(0,1):=selK_low D 0 (0,1) 1 (by omega)
   rw [e];rfl
 ·refine .inr ⟨h,0,?_⟩
  rw [Nat.min_eq_right h];rfl
theorem OutOk.all {D:Nat→Nat→Int} {n:Nat} {out:List Nat} (h:OutOk D n out) (hl:out.length=n):out=orderV D n:=by
 rcases h with h|⟨h,j,rfl⟩
 ·exact h.2
 ·rw [ordJ_len] at hl
  unfold orderV
  rw [if_neg (by omega),if_neg (by omega),show n - 2=j by omega]
end Go.Proofs.YthadgaboakipoaaGreatDoor
namespace Go.Proofs.YthadgaboakipoaaGreatDoor
open Go.RowKit Go.Shelf Go.Proofs
set_option maxRecDepth 100000
set_option maxHeartbeats 1000000

def ordV (c:Costs) (l:List TS):List Nat × Int:=if ck21 c l=0 then (orderV (dstT c l) l.length,0) else ([],1)
theorem ck21_ok {c:Costs} {l:List TS} (h:ck21 c l=0):costE c=0∧badS l=false:=by
 unfold ck21 at h
 by_cases hh:costE c=0∧badS l=false
 ·exact hh
 ·rw [if_neg hh] at h;omega
end Go.Proofs.YthadgaboakipoaaGreatDoor
namespace Go.Proofs.YthadgaboakipoaaGreatDoor
open Go.RowKit Go.Shelf Go.Proofs
set_option maxRecDepth 100000
set_option maxHeartbeats 1000000

theorem mulOne_spec (n:Nat) (hn:n≤1000000) (w:World):Spec Tryz.prog 127 [.int .u64 1, .int .u64 (n:Nat)] w (fun v R=>v = .tuple #[.int .u64 0, .int .u64 (n:Nat)]∧R=[]):=by
 have h:=Calls.spec (enters_of rfl rfl rfl) (Tryz.bits_Mul 1 n (by omega) (by omega) w)
 have e1:1 * n / 18446744073709551616=0:=by omega
 have e2:1 * n % 18446744073709551616=n:=by omega
 rw [e1,e2] at h
 exact h
theorem oneInts:∀ xs:List Int,oneCells (xs.map (Value.int .i64))=true
 | []=>rfl
 | x::xs=>oneInts xs
def repL (n m:Nat) (z:Int):List Value:=List.replicate m (.int .i64 z)++List.replicate (n - m) (.int .i64 0)
theorem repL_len {n m:Nat} (z:Int) (h:m≤n):(repL n m z).length=n:=by simp [repL];omega
theorem repL_all (n:Nat) (z:Int):repL n n z=List.replicate n (.int .i64 z):=by simp [repL]
theorem oneRep (k:Nat) (z:Int):oneCells (List.replicate k (Value.int .i64 z))=true:=by
 have e:List.replicate k (Value.int .i64 z)=(List.replicate k z).map (Value.int .i64):=by rw [List.map_replicate]
 rw [e];exact oneInts _
theorem repL_set {n m k:Nat} (z:Int) (h:m+k≤n):setL (repL n m z) m (List.replicate k (.int .i64 z))=repL n (m+k) z:=by
 rw [setL_eq _ _ _ (by rw [List.length_replicate,repL_len z (by omega)];exact h)]
 unfold repL
 rw [List.take_append_of_le_length (by simp),List.take_of_length_le (by simp),List.length_replicate,List.drop_append,List.drop_eq_nil_of_le (by simp),List.nil_append,List.length_replicate,List.drop_replicate, ← List.append_assoc,List.replicate_append_replicate,show n - m - (m+k - m)=n - (m+k) by omega]
theorem repL_pre {n m k:Nat} (z:Int) (h:k≤m):∀ j u,(List.replicate k (Value.int .i64 z))[j]?=some u→(repL n m z)[0+j]?=some u:=by
 intro j u hu
 have hj:j<k:=by have:=(List.getElem?_eq_some_iff.1 hu).1;simpa using this
 rw [List.getElem?_replicate,if_pos hj] at hu
 unfold repL
 rw [Nat.zero_add,List.getElem?_append_left (by simp;omega),List.getElem?_replicate,if_pos (by omega)]
 exact hu
theorem repeatI_spec (z:Int) (A:Option Addr) (ca n:Nat) (w:World) (hs:Src w 1 A 1 [.int .i64 z]) (hn:n≤1000) :
  Spec Tryz.prog 76 [.slice A 1 ca, .int .i64 (n:Nat)] w (fun v R=>∃ b:Nat,True∧v = .slice (some ⟨b,0,none⟩) n n∧R=[row 3 1 (some ⟨b,0,none⟩) n n (List.replicate n (.int .i64 z))]):=by
 refine spec_of sg Tryz.func76 rfl rfl rfl ?_
 repeat' (first|refine d1 ?_|refine dd ?_|(show ∀ _:Nat,T _ _ _ _ _;intro _))
 refine T_if rfl (fun h=>by exfalso;simp at h;omega) (fun h=>?_)
 repeat' (first|refine d1 ?_|refine dd ?_|(show T _ (.ops _ (_::_)::_) _ _ _;first|refine T_call rfl rfl rfl rfl rfl (fun w hw=>mulOne_spec n (by omega) w) ?_|refine T_callC rfl rfl rfl rfl rfl rfl rfl (fun hg w hw=>mulOne_spec n (by omega) w) ?_)|(show T _ (.run _ _ (_::_) _ _::_) _ _ _;first|refine rc rfl rfl rfl rfl rfl rfl rfl (fun w hw=>mulOne_spec n (by omega) w) ?_|refine rcG rfl rfl rfl rfl rfl rfl rfl rfl rfl (fun hg w hw=>mulOne_spec n (by omega) w) ?_)|(show ∀ _:Nat,T _ _ _ _ _;intro _))
 refine T_if rfl (fun h=>?_) (fun h=>?_)
 ·exfalso
  simp at h
  omega
 repeat' (first|refine d1 ?_|refine dd ?_|(show T _ (.ops _ (_::_)::_) _ _ _;refine T_op (OpT.make rfl rfl rfl rfl rfl rfl rfl rfl rfl (by dsimp only;omega) (fun b=>?_)))|(show ∀ _:Nat,T _ _ _ _ _;intro _))
 refine T_le (H':=[row 3 1 (some ⟨b,0,none⟩) n n (repL n 0 z)]) (Hle.weaken (i:=0) rfl (blk_row (sz:=1) (n:=n) (by simp) (by simp only [maxLen];omega)) rfl) ?_
 have hs1:∀ w',Cls w w' [row 3 1 (some ⟨b,0,none⟩) n n (repL n 0 z)]→Src w' 1 A (min 1 n) (List.replicate (min 1 n) (Value.int .i64 z)):=fun w' hw'=>by
  rcases Nat.eq_zero_or_pos n with h9|h9
  ·rw [h9];exact⟨rfl,fun h=>absurd h (by simp)⟩
  ·rw [Nat.min_eq_left h9];exact src_below hs hw'.below
 repeat' (first|refine d1 ?_|refine dd ?_|(show T _ (.ops _ (_::_)::_) _ _ _;refine T_op (OpT.copyR (g:=b) (k:=min 1 n) (us:=List.replicate (min 1 n) (.int .i64 z)) rfl rfl rfl rfl rfl rfl rfl rfl rfl hs1 (oneRep _ _) (by rw [List.length_replicate];omega) ?_))|(show ∀ _:Nat,T _ _ _ _ _;intro _))
 rw [repL_set z (by omega),Nat.zero_add]
 refine T_loopX (fun m:Nat=>[(8, .int .i64 m)]) (fun m=>[row 3 1 (some ⟨b,0,none⟩) n n (repL n m z)]) (fun m=>m≤n∧(0<n→0<m)) (fun m=>n - m) (min 1 n) ⟨by omega,fun h=>by omega⟩ ?_
 rintro m ⟨hm,hm0⟩
 repeat' (first|refine d1 ?_|refine dd ?_|(show ∀ _:Nat,T _ _ _ _ _;intro _))
 refine T_if rfl (fun h1=>?_) (fun h1=>?_)
 ·simp only [decide_eq_true_eq] at h1
  have hmn:m<n:=by omega
  have hmp:=hm0 (by omega)
  refine rsH [] 1000 [0,1,2,3,4,5,6,7,8,9] ?_
  repeat' (first|refine d1 ?_|refine dd ?_|(show T _ (.run _ _ (_::_) _ _::_) _ _ _;refine ro rfl rfl (OpT.copyR (g:=b) (k:=min m (n - m)) (us:=List.replicate (min m (n - m)) (.int .i64 z)) rfl rfl rfl rfl rfl rfl rfl (cutA_at (by omega)) rfl (fun w hw=>⟨by simp,fun h9=>⟨rfl,rdRow (A:=some ⟨b,0,none⟩) (by omega) (repL_pre z (by omega)) w hw⟩⟩) (oneRep _ _) (by rw [List.length_replicate];omega) ⟨fun _=>Hle.none _,?_⟩))|(show ∀ _:Nat,T _ _ _ _ _;intro _))
  rw [show (m:Int).toNat * 1=m by omega,repL_set (n:=n) (m:=m) (k:=min m (n - m)) z (by omega)]
  exact T_backX (m+min m (n - m)) ⟨by omega,fun _=>by omega⟩ (by omega)
 ·simp only [decide_eq_false_iff_not] at h1
  obtain rfl:m=n:=by omega
  rw [repL_all]
  repeat' (first|refine d1 ?_|refine dd ?_|(show ∀ _:Nat,T _ _ _ _ _;intro _)|(show T _ (.code .ret::_) _ _ _;refine T_retV _ rfl (Hle.refl _) ⟨b,trivial,rfl,rfl⟩))
end Go.Proofs.YthadgaboakipoaaGreatDoor
namespace Go.Proofs.YthadgaboakipoaaGreatDoor
open Go.RowKit Go.Shelf Go.Proofs
set_option maxRecDepth 100000
set_option maxHeartbeats 1000000

structure AddW (w:World) (c:Costs) (A:Option Addr) (n:Nat) (l:List TS) (K:Value) (cols:List (List Int)) (At:Option Addr) (m:Nat) (t:List Tok):Prop where
 hg:Grp w A n l
 hc:costE c=0
 hbs:badS l=false
 hx:Rd (wr w) [K] [rowsD cols]
 hok:∀ col∈cols,ColOk l col
 hts:Src w 6 At m (t.flatMap Tok.cells)
 htl:t.length=m
 hm:m≤1000
 hte:∀ x∈t,tokE x=0
 hsm:∀ x∈t,x.small
 hsz:cols.length≤100000
end Go.Proofs.YthadgaboakipoaaGreatDoor
namespace Go.Proofs.YthadgaboakipoaaGreatDoor
open Go.RowKit Go.Shelf Go.Proofs
set_option maxRecDepth 100000
set_option maxHeartbeats 1000000

theorem AddW.ok {w:World} {c:Costs} {A:Option Addr} {n:Nat} {l:List TS} {K:Value} {cols:List (List Int)} {At:Option Addr} {m:Nat} {t:List Tok} (h:AddW w c A n l K cols At m t):GOk (grdA c l cols t) 32000:=by
 have:=grdA_ok h.hc l cols t
 have h1:=h.hg.hn
 have h2:=h.hg.hb
 exact⟨fun i k=>by have:=this.p i k;omega,fun i=>by have:=this.g i;omega,fun k=>by have:=this.h k;omega⟩
theorem AddW.rst {w:World} {c:Costs} {A:Option Addr} {n:Nat} {l:List TS} {K:Value} {cols:List (List Int)} {At:Option Addr} {m:Nat} {t:List Tok} (h:AddW w c A n l K cols At m t) (i k:Nat):0≤rst (grdA c l cols t) i k∧rst (grdA c l cols t) i k≤10000000000:=by
 have h1:=rst_bd h.ok i k
 have e1:(grdA c l cols t).n=cols.length:=rfl
 have e2:(grdA c l cols t).m=m:=h.htl
 have h2:=h.hsz
 have h3:=h.hm
 rw [e1,e2] at h1
 omega
theorem AddW.to {w:World} {c:Costs} {A:Option Addr} {n:Nat} {l:List TS} {K:Value} {cols:List (List Int)} {At:Option Addr} {m:Nat} {t:List Tok} (h:AddW w c A n l K cols At m t) {i k jj:Nat} {v:Mv} (hi:i≤cols.length) (hk:k≤m) (hv:(mvs (grdA c l cols t) i k)[jj]?=some v) :
  i+v.fst≤cols.length∧k+v.snd≤m∧(i<i+v.fst∨(i=i+v.fst∧k<k+v.snd))∧(0≤v.cost∧v.cost≤32000)∧v.fst≤1∧v.snd≤1:=by
 have hG:=h.ok
 have q1:=hG.p i k
 have q2:=hG.g i
 have q3:=hG.h k
 have e1:(grdA c l cols t).n=cols.length:=rfl
 have e2:(grdA c l cols t).m=m:=h.htl
 rcases mvs_to (List.mem_of_getElem? hv) with⟨h1,h2,h3,h4,h5⟩|⟨h1,h2,h3,h5⟩|⟨h1,h2,h3,h5⟩
 ·rw [e1] at h3;rw [e2] at h4;omega
 ·rw [e1] at h3;omega
 ·rw [e2] at h3;omega
@[reducible] def fillH (c:Costs) (L K T':Value) (pb pa g cap N m:Nat) (M:List (Nat × List Value)) (Kr:List HA):List HA :=
 blks 3 M::row 27 1 (some ⟨g,0,none⟩) cap (N+1) (M.map (slv m))::blk pb [.pointer (some ⟨pa,0,none⟩)] 151::blk pa (addL c L K T' (.slice (some ⟨g,0,none⟩) (N+1) cap)) 153::Kr
end Go.Proofs.YthadgaboakipoaaGreatDoor
namespace Go.Proofs.YthadgaboakipoaaGreatDoor
open Go.RowKit Go.Shelf Go.Proofs
set_option maxRecDepth 100000
set_option maxHeartbeats 1000000

end Go.Proofs.YthadgaboakipoaaGreatDoor
namespace Go.Proofs.YthadgaboakipoaaGreatDoor
open Go.RowKit Go.Shelf Go.Proofs
set_option maxRecDepth 100000
set_option maxHeartbeats 1000000

theorem rd_one {R:Rdr} {vs:List Value} {ds:List D} (h:Rd R vs ds) {i:Nat} {x:Value} {d:D} (hx:vs[i]?=some x) (hd:ds[i]?=some d):Rd R [x] [d]:=by
 obtain⟨y,hy,hr⟩:=h.get hd
 rw [hx] at hy
 cases hy
 exact hr
end Go.Proofs.YthadgaboakipoaaGreatDoor
namespace Go.Proofs.YthadgaboakipoaaGreatDoor
open Go.RowKit Go.Shelf Go.Proofs
set_option maxRecDepth 100000
set_option maxHeartbeats 1000000

end Go.Proofs.YthadgaboakipoaaGreatDoor
namespace Go.Proofs.YthadgaboakipoaaGreatDoor
open Go.RowKit Go.Shelf Go.Proofs
set_option maxRecDepth 100000
set_option maxHeartbeats 1000000

def lens (l:List TS):List Nat:=l.map fun t=>t.n
theorem lens_get {l:List TS} {s:Nat} {t:TS} (h:l[s]?=some t):(lens l)[s]?=some t.n:=by unfold lens;rw [List.getElem?_map,h];rfl
theorem lens_len (l:List TS):(lens l).length=l.length:=by simp [lens]
def atC (cols:List (List Int)) (i k s:Nat):Nat:=(srcC (cols.take (if s<k then i+1 else i)) s).length
def PreOk (ls:List Nat) (cols:List (List Int)) (i k:Nat):Prop:=∀ s n,ls[s]?=some n→srcC (cols.take (if s<k then i+1 else i)) s=upto (atC cols i k s)∧atC cols i k s≤n
theorem PreOk.start (ls:List Nat) (cols:List (List Int)):PreOk ls cols 0 0:=fun s n _=>by
 unfold atC
 rw [if_neg (by omega)]
 exact⟨rfl,Nat.zero_le _⟩
theorem atC_zero (cols:List (List Int)) (s:Nat):atC cols 0 0 s=0:=by unfold atC;rw [if_neg (by omega)];rfl
theorem atC_row {cols:List (List Int)} {i n s:Nat} (h:s<n):atC cols i n s=atC cols (i+1) 0 s:=by unfold atC;rw [if_pos h,if_neg (by omega)]
theorem PreOk.row {ls:List Nat} {cols:List (List Int)} {i:Nat} (h:PreOk ls cols i ls.length):PreOk ls cols (i+1) 0:=fun s n hs=>by
 have hl:=(List.getElem?_eq_some_iff.1 hs).1
 have:=h s n hs
 rw [atC_row hl,if_pos hl] at this
 rw [if_neg (by omega)]
 exact this
theorem srcC_take {cols:List (List Int)} {i:Nat} {r:List Int} (h:cols[i]?=some r) (s:Nat):srcC (cols.take (i+1)) s=srcC (cols.take i) s++(if r.getD s (-1) = -1 then [] else [r.getD s (-1)]):=by
 rw [take_snoc _ _ _ h,srcC_app,srcC_cons]
 simp [srcC]
theorem atC_other {cols:List (List Int)} {i k s:Nat} (h:s≠k):atC cols i (k+1) s=atC cols i k s:=by
 unfold atC
 by_cases h1:s<k
 ·rw [if_pos h1,if_pos (by omega)]
 ·rw [if_neg h1,if_neg (by omega)]
theorem atC_gap {cols:List (List Int)} {i k:Nat} {r:List Int} (hr:cols[i]?=some r) (hz:r[k]?=some (-1)):atC cols i (k+1) k=atC cols i k k:=by
 unfold atC
 rw [if_pos (by omega),if_neg (by omega),srcC_take hr,List.getD_eq_getElem?_getD,hz]
 simp
theorem atC_tok {cols:List (List Int)} {i k:Nat} {r:List Int} {z:Int} (hr:cols[i]?=some r) (hz:r[k]?=some z) (h:z ≠ -1):atC cols i (k+1) k=atC cols i k k+1:=by
 unfold atC
 rw [if_pos (by omega),if_neg (by omega),srcC_take hr,List.getD_eq_getElem?_getD,hz]
 simp [h]
theorem PreOk.gap {ls:List Nat} {cols:List (List Int)} {i k:Nat} {r:List Int} (h:PreOk ls cols i k) (hr:cols[i]?=some r) (hz:r[k]?=some (-1)):PreOk ls cols i (k+1):=fun s n hs=>by
 have:=h s n hs
 by_cases e:s=k
 ·subst e
  rw [atC_gap hr hz]
  rw [if_neg (by omega)] at this
  rw [if_pos (by omega),srcC_take hr,List.getD_eq_getElem?_getD,hz]
  simpa using this
 ·rw [atC_other e]
  by_cases h1:s<k
  ·rw [if_pos h1] at this;rw [if_pos (by omega)];exact this
  ·rw [if_neg h1] at this;rw [if_neg (by omega)];exact this
theorem PreOk.tok {ls:List Nat} {cols:List (List Int)} {i k:Nat} {r:List Int} {z:Int} (h:PreOk ls cols i k) (hr:cols[i]?=some r) (hz:r[k]?=some z) (hz0:z ≠ -1) (he:z=(atC cols i k k:Nat)) (hlt:∀ n,ls[k]?=some n→atC cols i k k<n):PreOk ls cols i (k+1):=fun s n hs=>by
 have:=h s n hs
 by_cases e:s=k
 ·subst e
  have hl:=hlt n hs
  rw [atC_tok hr hz hz0]
  rw [if_neg (by omega)] at this
  rw [if_pos (by omega),srcC_take hr,List.getD_eq_getElem?_getD,hz,this.1]
  refine ⟨?_,hl⟩
  simp only [Option.getD_some]
  rw [if_neg hz0,upto_succ,he]
 ·rw [atC_other e]
  by_cases h1:s<k
  ·rw [if_pos h1] at this;rw [if_pos (by omega)];exact this
  ·rw [if_neg h1] at this;rw [if_neg (by omega)];exact this
theorem PreOk.bad {ls:List Nat} {cols:List (List Int)} {i k n:Nat} {r:List Int} {z:Int} (h:PreOk ls cols i k) (hr:cols[i]?=some r) (hz:r[k]?=some z) (hz0:z ≠ -1) (hk:ls[k]?=some n) (hc:ColsOk ls cols):z=(atC cols i k k:Nat)∧atC cols i k k<n:=by
 have h1:=(h k n hk).1
 rw [if_neg (by omega)] at h1
 have h2:=hc.src k n hk
 have h3:srcC cols k=srcC (cols.take i) k++([z]++srcC (cols.drop (i+1)) k):=by
  have e:cols=cols.take (i+1)++cols.drop (i+1):=(List.take_append_drop _ _).symm
  rw [← List.append_assoc]
  conv=>lhs;rw [e,srcC_app,srcC_take hr,List.getD_eq_getElem?_getD,hz]
  simp [hz0]
 rw [h2,h1] at h3
 have h4:(upto n)[atC cols i k k]?=some z:=by
  rw [h3,List.getElem?_append_right (by rw [upto_len];exact Nat.le_refl _),upto_len,Nat.sub_self]
  rfl
 have h5:atC cols i k k<n:=by
  have:=(List.getElem?_eq_some_iff.1 h4).1
  rwa [upto_len] at this
 rw [upto_get h5] at h4
 exact⟨(Option.some.inj h4).symm,h5⟩
theorem PreOk.all {ls:List Nat} {cols:List (List Int)} (h:PreOk ls cols cols.length 0) (hlen:∀ x∈cols,x.length=ls.length) (hsome:∀ x∈cols,∃ z∈x,z ≠ -1) (hn:∀ s n,ls[s]?=some n→atC cols cols.length 0 s=n):ColsOk ls cols:=by
 refine ⟨hlen,hsome,fun s n hs=>?_⟩
 have:=(h s n hs).1
 rw [if_neg (by omega),List.take_of_length_le (Nat.le_refl _),hn s n hs] at this
 exact this
open Classical in
noncomputable def chkC (l:List TS) (cols:List (List Int)):Int:=if l.length=0 then 5 else if ColsOk (lens l) cols then 0 else 19
theorem chkC_ok {l:List TS} {cols:List (List Int)} (h0:l.length≠0) (h:ColsOk (lens l) cols):chkC l cols=0:=by unfold chkC;rw [if_neg h0,if_pos h]
theorem chkC_bad {l:List TS} {cols:List (List Int)} (h0:l.length≠0) (h:¬ ColsOk (lens l) cols):chkC l cols=19:=by unfold chkC;rw [if_neg h0,if_neg h]
theorem chkC_zero {l:List TS} {cols:List (List Int)} (h0:l.length=0):chkC l cols=5:=if_pos h0
theorem srcs19R_spec (A:Option Addr) (n ca:Nat) (l:List TS) (w:World) (hg:Grp w A n l):Spec Tryz.prog 124 [.slice A n ca] w (fun v R=>v = .int .i64 (if n=0 then 5 else 0)∧R=[]):=by
 refine spec_of sg Tryz.func124 rfl rfl rfl ?_
 have hb:=hg.hb
 repeat' (first|refine d1 ?_|refine dd ?_|(show ∀ _:Nat,T _ _ _ _ _;intro _))
 refine T_if rfl (fun h=>?_) (fun h=>?_)
 ·simp only [decide_eq_true_eq] at h
  repeat' (first|refine d1 ?_|refine dd ?_|(show ∀ _:Nat,T _ _ _ _ _;intro _)|(show T _ (.code .ret::_) _ _ _;refine T_retV [] rfl (Hle.refl _) ⟨congrArg (Value.int .i64) (if_pos (by omega)).symm,rfl⟩))
 simp only [decide_eq_false_iff_not] at h
 repeat' (first|refine d1 ?_|refine dd ?_|(show ∀ _:Nat,T _ _ _ _ _;intro _))
 refine T_if rfl (fun h=>by exfalso;simp at h;omega) (fun _=>?_)
 repeat' (first|refine d1 ?_|refine dd ?_|(show ∀ _:Nat,T _ _ _ _ _;intro _))
 refine T_loopX (fun k:Nat=>[(3, .int .i64 k)]) (fun _=>[]) (fun k=>k≤n) (fun k=>n - k) 0 (Nat.zero_le _) ?_
 intro k hk
 repeat' (first|refine d1 ?_|refine dd ?_|(show ∀ _:Nat,T _ _ _ _ _;intro _))
 refine T_if rfl (fun h1=>?_) (fun h1=>?_)
 ·simp only [decide_eq_true_eq] at h1
  have hkn:k<n:=by omega
  obtain⟨b,o,rfl⟩:=hg.hs.base (by omega)
  obtain⟨t,ht,htm,hr⟩:=hg.get hkn
  have htb:=hg.nb t htm
  repeat' (first|refine d1 ?_|refine dd ?_|(show ∀ _:Nat,T _ _ _ _ _;intro _))
  refine T_if rfl (fun h2=>by exfalso;simp at h2;omega) (fun _=>?_)
  repeat' (first|refine d1 ?_|refine dd ?_|(show ∀ _:Nat,T _ _ _ _ _;intro _))
  exact T_backX (k+1) (by omega) (by omega)
 ·repeat' (first|refine d1 ?_|refine dd ?_|(show ∀ _:Nat,T _ _ _ _ _;intro _)|(show T _ (.code .ret::_) _ _ _;refine T_retV [] rfl (Hle.refl _) ⟨congrArg (Value.int .i64) (if_neg (by omega)).symm,rfl⟩))
theorem rowSrc {w:World} {Au:Option Addr} {r:List Int} (h:0<r.length→∃ b o,Au=some ⟨b,o,none⟩∧∀ (k:Nat) z,r[k]?=some z→wr w b (o+k)=some (.int .i64 z)):Src w 1 Au r.length (r.map (Value.int .i64)):=⟨by rw [List.length_map,Nat.mul_one],fun h9=>by
 obtain⟨bu,ou,rfl,hbu⟩:=h h9
 refine ⟨rfl,fun j u hu=>?_⟩
 rw [List.getElem?_map] at hu
 cases hz:r[j]? with
 | none=>rw [hz] at hu;cases hu
 | some z=>rw [hz] at hu;cases hu;exact hbu j z hz⟩
theorem rowHd {w:World} {b o n i:Nat} {Au:Option Addr} {m cap:Nat} {cs:List Value} (hcs:Src w 1 (some ⟨b,o,none⟩) n cs) (hi:i<n) (hu:cs[i]?=some (.slice Au m cap)):RdC w b (o+(i:Int).toNat * 1) [.slice Au m cap]:=by
 have h9:=(hcs.get1 (i:=i) hi hu).2
 rw [Nat.mul_one] at h9
 rw [off1]
 exact h9
theorem check19R_spec (A:Option Addr) (n ca:Nat) (l:List TS) (x:Value) (cols:List (List Int)) (w:World) (hg:Grp w A n l) (hx:Rd (wr w) [x] [rowsD cols]) :
  Spec Tryz.prog 72 [.slice A n ca,x] w (fun v R=>v = .int .i64 (chkC l cols)∧R=[]):=by
 obtain⟨Ak,ck,csk,rfl,hck1,hck2,hcs,hrows⟩:=hx.tabS
 have hb:=hg.hb
 have hn:=hg.hn
 refine spec_of sg Tryz.func72 rfl rfl rfl ?_
 repeat' (first|refine d1 ?_|refine dd ?_|(show T _ (.ops _ (_::_)::_) _ _ _;first|refine T_call rfl rfl rfl rfl rfl (fun w hw=>srcs19R_spec A n ca l w (hg.cls hw)) ?_|refine T_callC rfl rfl rfl rfl rfl rfl rfl (fun hg w hw=>srcs19R_spec A n ca l w (hg.cls hw)) ?_)|(show T _ (.run _ _ (_::_) _ _::_) _ _ _;first|refine rc rfl rfl rfl rfl rfl rfl rfl (fun w hw=>srcs19R_spec A n ca l w (hg.cls hw)) ?_|refine rcG rfl rfl rfl rfl rfl rfl rfl rfl rfl (fun hg w hw=>srcs19R_spec A n ca l w (hg.cls hw)) ?_)|(show ∀ _:Nat,T _ _ _ _ _;intro _))
 refine T_if rfl (fun h=>?_) (fun h=>?_)
 ·simp only [Bool.not_eq_true',decide_eq_false_iff_not] at h
  have h0:n=0:=by
   rcases Nat.eq_zero_or_pos n with h9|h9
   ·exact h9
   ·exact absurd (if_neg (by omega)) h
  rw [if_pos h0]
  repeat' (first|refine d1 ?_|refine dd ?_|(show ∀ _:Nat,T _ _ _ _ _;intro _)|(show T _ (.code .ret::_) _ _ _;refine T_retV [] rfl (Hle.refl _) ⟨by rw [chkC_zero (by omega)];rfl,rfl⟩))
 simp only [Bool.not_eq_false',decide_eq_true_eq] at h
 have h0:n≠0:=fun h9=>by rw [if_pos h9] at h;omega
 clear h
 have hbad:∀ (H:¬ ColsOk (lens l) cols),chkC l cols=19:=fun H=>chkC_bad (by omega) H
 repeat' (first|refine d1 ?_|refine dd ?_|(show T _ (.ops _ (_::_)::_) _ _ _;refine T_op (OpT.make rfl rfl rfl rfl rfl rfl rfl rfl rfl (by dsimp only;omega) (fun b1=>?_)))|(show ∀ _:Nat,T _ _ _ _ _;intro _))
 have hz:List.replicate n (Value.int .i64 0)=valV (fun s=>(atC cols 0 0 s:Nat)) n:=by
  rw [valV_replicate];exact valV_ext fun q _=>by rw [atC_zero];rfl
 refine T_loopX (fun i:Nat=>[(7, .int .i64 i)]) (fun i=>[blk b1 (valV (fun s=>(atC cols i 0 s:Nat)) n) 3]) (fun i=>i≤cols.length∧PreOk (lens l) cols i 0∧(∀ y∈cols.take i,y.length=n)∧∀ y∈cols.take i,∃ z∈y,z ≠ -1) (fun i=>cols.length - i) 0 ⟨Nat.zero_le _,PreOk.start _ _,fun y h=>by simp at h,fun y h=>by simp at h⟩ ?_ (hG:=by rw [← hz];exact Hle.refl _)
 rintro i ⟨hi,hpre,hlen,hsome⟩
 repeat' (first|refine d1 ?_|refine dd ?_|(show ∀ _:Nat,T _ _ _ _ _;intro _))
 refine T_if rfl (fun h1=>?_) (fun h1=>?_)
 ·simp only [decide_eq_true_eq] at h1
  have hin:i<cols.length:=by omega
  obtain⟨b,o,rfl⟩:=hcs.base (by omega)
  obtain⟨r,hr⟩:∃ r,cols[i]?=some r:=⟨_,List.getElem?_eq_getElem hin⟩
  have hrm:=List.mem_of_getElem? hr
  obtain⟨Au,capu,hu,-,-,hA⟩:=hrows.tabRow hr
  have hr0:=rowHd hcs hin hu
  have hsr:=rowSrc hA
  repeat' (first|refine d1 ?_|refine dd ?_|(show ∀ _:Nat,T _ _ _ _ _;intro _))
  refine T_if rfl (fun h2=>?_) (fun h2=>?_)
  ·simp only [Bool.not_eq_true',decide_eq_false_iff_not] at h2
   repeat' (first|refine d1 ?_|refine dd ?_|(show ∀ _:Nat,T _ _ _ _ _;intro _)|(show T _ (.code .ret::_) _ _ _;refine T_retV [] rfl (Hle.none _) ⟨by rw [hbad fun hc=>h2 (by have:=hc.len r hrm;rw [lens_len] at this;omega)];rfl,rfl⟩))
  simp only [Bool.not_eq_false',decide_eq_true_eq] at h2
  have hrl:r.length=n:=by omega
  repeat' (first|refine d1 ?_|refine dd ?_|(show ∀ _:Nat,T _ _ _ _ _;intro _))
  refine T_loopX (fun k:Nat=>[(9, .int .i64 k),(8, .bool ((r.take k).any fun z=>decide (z ≠ -1)))]) (fun k=>[blk b1 (valV (fun s=>(atC cols i k s:Nat)) n) 3]) (fun k=>k≤n∧PreOk (lens l) cols i k) (fun k=>n - k) 0 ⟨Nat.zero_le _,hpre⟩ ?_
  rintro k ⟨hk,hp⟩
  repeat' (first|refine d1 ?_|refine dd ?_|(show ∀ _:Nat,T _ _ _ _ _;intro _))
  refine T_if rfl (fun h3=>?_) (fun h3=>?_)
  ·simp only [decide_eq_true_eq] at h3
   have hkn:k<n:=by omega
   obtain⟨bu,ou,rfl⟩:=hsr.base (by omega)
   obtain⟨z,hzk⟩:∃ z,r[k]?=some z:=⟨_,List.getElem?_eq_getElem (by omega)⟩
   have hr1:=src_int hsr (by omega) hzk
   have htk:=take_snoc _ _ _ hzk
   repeat' (first|refine d1 ?_|refine dd ?_|(show ∀ _:Nat,T _ _ _ _ _;intro _))
   refine T_if rfl (fun h4=>?_) (fun h4=>?_)
   ·simp only [decide_eq_true_eq] at h4
    subst h4
    repeat' (first|refine d1 ?_|refine dd ?_|(show ∀ _:Nat,T _ _ _ _ _;intro _))
    refine T_backX (k+1) ⟨hkn,hp.gap hr hzk⟩ (by omega) (hE:=⟨rfl,by rw [show ((r.take (k+1)).any fun z=>decide (z ≠ -1))=(r.take k).any fun z=>decide (z ≠ -1) by rw [htk,List.any_append];simp];rfl,trivial⟩) (hG:=?_)
    have e:valV (fun s=>(atC cols i (k+1) s:Nat)) n=valV (fun s=>(atC cols i k s:Nat)) n:=valV_ext fun q _=>by
     by_cases e:q=k
     ·rw [e,atC_gap hr hzk]
     ·rw [atC_other e]
    rw [e]
    exact Hle.refl _
   simp only [decide_eq_false_iff_not] at h4
   obtain⟨bs,os,rfl⟩:=hg.hs.base (by omega)
   obtain⟨t,ht,htm,hrt⟩:=hg.get hkn
   have htb:=hg.nb t htm
   repeat' (first|refine d1 ?_|refine dd ?_|(show T _ (.ops _ (_::_)::_) _ _ _;first|refine T_val rfl (Val.load rfl (fun hg=>rdOwn1 (b:=b1) (u := .int .i64 (atC cols i k k:Nat)) (by rw [show 0+(k:Int).toNat * 1=k by omega];exact valV_get hkn))) rfl rfl rfl ?_|refine T_valC rfl (Val.load rfl (fun hg=>rdOwn1 (b:=b1) (u := .int .i64 (atC cols i k k:Nat)) (by rw [show 0+(k:Int).toNat * 1=k by omega];exact valV_get hkn))) rfl rfl rfl rfl rfl ?_)|(show T _ (.run _ _ (_::_) _ _::_) _ _ _;first|refine rv rfl rfl rfl (Val.load rfl (fun hg=>rdOwn1 (b:=b1) (u := .int .i64 (atC cols i k k:Nat)) (by rw [show 0+(k:Int).toNat * 1=k by omega];exact valV_get hkn))) rfl rfl rfl ?_|refine rg rfl rfl rfl (Val.load rfl (fun hg=>rdOwn1 (b:=b1) (u := .int .i64 (atC cols i k k:Nat)) (by rw [show 0+(k:Int).toNat * 1=k by omega];exact valV_get hkn))) rfl rfl rfl rfl rfl ?_)|(show ∀ _:Nat,T _ _ _ _ _;intro _))
   refine T_if rfl (fun h5=>?_) (fun h5=>?_)
   ·simp only [Bool.or_eq_true,Bool.not_eq_true',decide_eq_false_iff_not,decide_eq_true_eq] at h5
    repeat' (first|refine d1 ?_|refine dd ?_|(show ∀ _:Nat,T _ _ _ _ _;intro _)|(show T _ (.code .ret::_) _ _ _;refine T_retV [] rfl (Hle.none _) ⟨by rw [hbad fun hc=>by have:=hp.bad hr hzk h4 (lens_get ht) hc;omega];rfl,rfl⟩))
   simp only [Bool.or_eq_false_iff,Bool.not_eq_false',decide_eq_true_eq,decide_eq_false_iff_not] at h5
   repeat' (first|refine d1 ?_|refine dd ?_|(show T _ (.ops _ (_::_)::_) _ _ _;first|refine T_val rfl (Val.load rfl (fun hg=>rdOwn1 (b:=b1) (u := .int .i64 (atC cols i k k:Nat)) (by rw [show 0+(k:Int).toNat * 1=k by omega];exact valV_get hkn))) rfl rfl rfl ?_|refine T_valC rfl (Val.load rfl (fun hg=>rdOwn1 (b:=b1) (u := .int .i64 (atC cols i k k:Nat)) (by rw [show 0+(k:Int).toNat * 1=k by omega];exact valV_get hkn))) rfl rfl rfl rfl rfl ?_|refine T_op (OpT.store rfl rfl rfl rfl (by rw [valV_length];omega) ?_))|(show T _ (.run _ _ (_::_) _ _::_) _ _ _;first|refine rv rfl rfl rfl (Val.load rfl (fun hg=>rdOwn1 (b:=b1) (u := .int .i64 (atC cols i k k:Nat)) (by rw [show 0+(k:Int).toNat * 1=k by omega];exact valV_get hkn))) rfl rfl rfl ?_|refine rg rfl rfl rfl (Val.load rfl (fun hg=>rdOwn1 (b:=b1) (u := .int .i64 (atC cols i k k:Nat)) (by rw [show 0+(k:Int).toNat * 1=k by omega];exact valV_get hkn))) rfl rfl rfl rfl rfl ?_)|(show ∀ _:Nat,T _ _ _ _ _;intro _))
   refine T_backX (k+1) ⟨hkn,hp.tok hr hzk h4 h5.1 (fun m hm=>by rw [lens_get ht] at hm;cases hm;omega)⟩ (by omega) (hE:=⟨rfl,by rw [show ((r.take (k+1)).any fun z=>decide (z ≠ -1))=true by rw [htk,List.any_append];simp [h4]];rfl,trivial⟩) (hG:=?_)
   rw [show 0+(k:Int).toNat * 1=k by omega,valV_put]
   have e:valV (fun s=>(atC cols i (k+1) s:Nat)) n=valV (fun q=>if q=k then (atC cols i k k:Int)+1 else (atC cols i k q:Nat)) n:=valV_ext fun q _=>by
    by_cases e:q=k
    ·subst e;rw [if_pos rfl,atC_tok hr hzk h4];rfl
    ·rw [if_neg e,atC_other e]
   rw [e]
   exact Hle.refl _
  ·simp only [decide_eq_false_iff_not] at h3
   obtain rfl:k=n:=by omega
   rw [List.take_of_length_le (by omega)]
   repeat' (first|refine d1 ?_|refine dd ?_|(show ∀ _:Nat,T _ _ _ _ _;intro _))
   refine T_if rfl (fun h4=>?_) (fun h4=>?_)
   ·simp only [Bool.not_eq_true'] at h4
    repeat' (first|refine d1 ?_|refine dd ?_|(show ∀ _:Nat,T _ _ _ _ _;intro _)|(show T _ (.code .ret::_) _ _ _;refine T_retV [] rfl (Hle.none _) ⟨by rw [hbad fun hc=>by obtain⟨z,hz1,hz2⟩:=hc.some_ r hrm;rw [List.any_eq_false] at h4;exact h4 z hz1 (by simpa using hz2)];rfl,rfl⟩))
   simp only [Bool.not_eq_false'] at h4
   rw [List.any_eq_true] at h4
   obtain⟨z,hz1,hz2⟩:=h4
   repeat' (first|refine d1 ?_|refine dd ?_|(show ∀ _:Nat,T _ _ _ _ _;intro _))
   have htk:=take_snoc _ _ _ hr
   refine T_backX (i+1) ⟨hin,PreOk.row (by rw [lens_len,hn];exact hp),fun y hy=>?_,fun y hy=>?_⟩ (by omega) (hG:=?_)
   ·rw [htk,List.mem_append,List.mem_singleton] at hy
    rcases hy with hy|rfl
    ·exact hlen y hy
    ·exact hrl
   ·rw [htk,List.mem_append,List.mem_singleton] at hy
    rcases hy with hy|rfl
    ·exact hsome y hy
    ·exact⟨z,hz1,by simpa using hz2⟩
   ·have e:valV (fun s=>(atC cols i k s:Nat)) k=valV (fun s=>(atC cols (i+1) 0 s:Nat)) k:=valV_ext fun q hq=>by rw [atC_row hq]
    rw [e]
    exact Hle.refl _
 simp only [decide_eq_false_iff_not] at h1
 obtain rfl:i=cols.length:=by omega
 rw [List.take_of_length_le (Nat.le_refl _)] at hlen hsome
 repeat' (first|refine d1 ?_|refine dd ?_|(show ∀ _:Nat,T _ _ _ _ _;intro _))
 refine T_loopX (fun k:Nat=>[(10, .int .i64 k)]) (fun _=>[blk b1 (valV (fun s=>(atC cols cols.length 0 s:Nat)) n) 3]) (fun k=>k≤n∧∀ s m,s<k→(lens l)[s]?=some m→atC cols cols.length 0 s=m) (fun k=>n - k) 0 ⟨Nat.zero_le _,fun s m h=>by omega⟩ ?_
 rintro k ⟨hk,hall⟩
 repeat' (first|refine d1 ?_|refine dd ?_|(show ∀ _:Nat,T _ _ _ _ _;intro _))
 refine T_if rfl (fun h3=>?_) (fun h3=>?_)
 ·simp only [decide_eq_true_eq] at h3
  have hkn:k<n:=by omega
  obtain⟨bs,os,rfl⟩:=hg.hs.base (by omega)
  obtain⟨t,ht,htm,hrt⟩:=hg.get hkn
  repeat' (first|refine d1 ?_|refine dd ?_|(show T _ (.ops _ (_::_)::_) _ _ _;first|refine T_val rfl (Val.load rfl (fun hg=>rdOwn1 (b:=b1) (u := .int .i64 (atC cols cols.length 0 k:Nat)) (by rw [show 0+(k:Int).toNat * 1=k by omega];exact valV_get hkn))) rfl rfl rfl ?_|refine T_valC rfl (Val.load rfl (fun hg=>rdOwn1 (b:=b1) (u := .int .i64 (atC cols cols.length 0 k:Nat)) (by rw [show 0+(k:Int).toNat * 1=k by omega];exact valV_get hkn))) rfl rfl rfl rfl rfl ?_)|(show T _ (.run _ _ (_::_) _ _::_) _ _ _;first|refine rv rfl rfl rfl (Val.load rfl (fun hg=>rdOwn1 (b:=b1) (u := .int .i64 (atC cols cols.length 0 k:Nat)) (by rw [show 0+(k:Int).toNat * 1=k by omega];exact valV_get hkn))) rfl rfl rfl ?_|refine rg rfl rfl rfl (Val.load rfl (fun hg=>rdOwn1 (b:=b1) (u := .int .i64 (atC cols cols.length 0 k:Nat)) (by rw [show 0+(k:Int).toNat * 1=k by omega];exact valV_get hkn))) rfl rfl rfl rfl rfl ?_)|(show ∀ _:Nat,T _ _ _ _ _;intro _))
  refine T_if rfl (fun h4=>?_) (fun h4=>?_)
  ·simp only [Bool.not_eq_true',decide_eq_false_iff_not] at h4
   repeat' (first|refine d1 ?_|refine dd ?_|(show ∀ _:Nat,T _ _ _ _ _;intro _)|(show T _ (.code .ret::_) _ _ _;refine T_retV [] rfl (Hle.none _) ⟨by rw [hbad fun hc=>h4 (by have h5:=hc.src k t.n (lens_get ht);have h6:=(hpre k t.n (lens_get ht)).1;rw [if_neg (by omega),List.take_of_length_le (Nat.le_refl _),h5] at h6;have:=congrArg List.length h6;rw [upto_len,upto_len] at this;omega)];rfl,rfl⟩))
  simp only [Bool.not_eq_false',decide_eq_true_eq] at h4
  repeat' (first|refine d1 ?_|refine dd ?_|(show ∀ _:Nat,T _ _ _ _ _;intro _))
  refine T_backX (k+1) ⟨hkn,fun s m hs hm=>?_⟩ (by omega)
  rcases Nat.lt_or_ge s k with h5|h5
  ·exact hall s m h5 hm
  ·rw [show s=k by omega] at hm ⊢
   rw [lens_get ht] at hm
   cases hm
   omega
 ·simp only [decide_eq_false_iff_not] at h3
  have hok:ColsOk (lens l) cols:=hpre.all (fun y hy=>by rw [lens_len,hn];exact hlen y hy) hsome fun s m hm=>hall s m (by have:=(List.getElem?_eq_some_iff.1 hm).1;rw [lens_len] at this;omega) hm
  repeat' (first|refine d1 ?_|refine dd ?_|(show ∀ _:Nat,T _ _ _ _ _;intro _)|(show T _ (.code .ret::_) _ _ _;refine T_retV [] rfl (Hle.none _) ⟨by rw [chkC_ok (by omega) hok];rfl,rfl⟩))
end Go.Proofs.YthadgaboakipoaaGreatDoor
namespace Go.Proofs.YthadgaboakipoaaGreatDoor
open Go.RowKit Go.Shelf Go.Proofs
set_option maxRecDepth 100000
set_option maxHeartbeats 4000000

theorem out_hle {A2 X:Option Addr} {c2 nn Y o:Nat} {cs HS hs:List Value} {cl:List Int} {out:List (List Int)} {J:List HA} (hcs:cs=cl.map (Value.int .i64)) :
  Hle (row 3 1 A2 c2 nn cs::dat hs (out.map intsD)::row 27 1 X Y o HS::J) (row 27 1 X Y o HS::dat (hs++[.slice A2 nn c2]) ((out++[cl]).map intsD)::J):=by
 subst hcs
 refine dat_rowV.trans (dat_join.trans ?_)
 have ej:out.map intsD++[D.s 1 ((cl.map (Value.int .i64)).map .v)]=(out++[cl]).map intsD:=by
  rw [List.map_append,List.map_map];rfl
 rw [ej]
 exact Hle.perm (List.Perm.swap _ _ _)
end Go.Proofs.YthadgaboakipoaaGreatDoor
namespace Go.Proofs.YthadgaboakipoaaGreatDoor
open Go.RowKit Go.Shelf Go.Proofs

def takS (l:List TS) (ord:List Nat) (j:Nat):List TS:=(ord.take j).map (tsA l)
def stgV (c:Costs) (l:List TS) (ord:List Nat):Nat→List (List Int)
 | 0=>[]
 | j+1=>addV c (takS l ord j) (stgV c l ord j) (tsA l (ord.getD j 0)).l 0 0
theorem ord_get {ord:List Nat} {j:Nat} (h:j<ord.length):ord[j]?=some (ord.getD j 0):=by
 rw [List.getD_eq_getElem?_getD,List.getElem?_eq_getElem h];rfl
theorem takS_succ {l:List TS} {ord:List Nat} {j:Nat} (h:j<ord.length):takS l ord (j+1)=takS l ord j++[tsA l (ord.getD j 0)]:=by
 unfold takS;rw [take_snoc _ _ _ (ord_get h),List.map_append];rfl
theorem takS_len {l:List TS} {ord:List Nat} {j:Nat} (h:j≤ord.length):(takS l ord j).length=j:=by
 unfold takS;rw [List.length_map,List.length_take];omega
theorem tsA_mem {l:List TS} {i:Nat} (h:i<l.length):tsA l i∈l:=by
 have e:l[i]?=some l[i]:=List.getElem?_eq_getElem h
 rw [tsA_eq e];exact List.getElem_mem h
theorem takS_mem {l:List TS} {ord:List Nat} (hlt:∀ k∈ord,k<l.length) {j:Nat}:∀ t∈takS l ord j,t∈l:=fun t ht=>by
 unfold takS at ht
 obtain⟨k,hk,rfl⟩:=List.mem_map.1 ht
 exact tsA_mem (hlt k (List.mem_of_mem_take hk))
theorem ord_lt {l:List TS} {ord:List Nat} (hlt:∀ k∈ord,k<l.length) {j:Nat} (h:j<ord.length):ord.getD j 0<l.length:=hlt _ (List.mem_of_getElem? (ord_get h))
theorem lens_app (a b:List TS):lens (a++b)=lens a++lens b:=by unfold lens;rw [List.map_append]
theorem stgV_ok {c:Costs} {l:List TS} {ord:List Nat} (hlt:∀ k∈ord,k<l.length) (hln:∀ t∈l,t.l.length=t.n):∀ j,j≤ord.length→ColsOk (lens (takS l ord j)) (stgV c l ord j)
 | 0,_=>ColsOk.nil
 | j+1,h=>by
  have ih:=stgV_ok (c:=c) hlt hln j (by omega)
  rw [takS_succ (by omega),lens_app]
  have e:=hln _ (tsA_mem (ord_lt hlt (show j<ord.length by omega)))
  have:=addV_ok (c:=c) (l:=takS l ord j) (t:=(tsA l (ord.getD j 0)).l) (by rw [lens_len]) ih
  rw [e] at this
  exact this
theorem stgV_len {c:Costs} {l:List TS} {ord:List Nat} (hlt:∀ k∈ord,k<l.length) {M:Nat} (hln:∀ t∈l,t.l.length≤M):∀ j,j≤ord.length→(stgV c l ord j).length≤j * M
 | 0,_=>Nat.zero_le _
 | j+1,h=>by
  have ih:=stgV_len (c:=c) hlt hln j (by omega)
  have h1:=addV_len c (takS l ord j) (stgV c l ord j) (tsA l (ord.getD j 0)).l
  have h2:=hln _ (tsA_mem (ord_lt hlt (show j<ord.length by omega)))
  rw [Nat.succ_mul]
  show (addV c (takS l ord j) (stgV c l ord j) (tsA l (ord.getD j 0)).l 0 0).length≤_
  omega
theorem badS_tak {l:List TS} {ord:List Nat} (hlt:∀ k∈ord,k<l.length) (h:badS l=false) (j:Nat):badS (takS l ord j)=false:=by
 unfold badS at h ⊢
 rw [List.any_eq_false] at h ⊢
 exact fun t ht=>h t (takS_mem hlt t ht)
theorem Grp.tak {w:World} {A A':Option Addr} {n:Nat} {l:List TS} {ord:List Nat} (hg:Grp w A n l) (hlt:∀ k∈ord,k<l.length) {j:Nat} (hj:j≤ord.length) (hjb:j≤32) (hs:Src w 1 A' j ((takS l ord j).map TS.val)):Grp w A' j (takS l ord j) :=
 ⟨hg.hst,hs,takS_len hj,hjb,⟨fun t ht=>hg.ok.src t (takS_mem hlt t ht),fun t ht=>hg.ok.len t (takS_mem hlt t ht),fun t ht=>hg.ok.bd t (takS_mem hlt t ht)⟩,fun t ht=>hg.nb t (takS_mem hlt t ht),fun t ht=>hg.sm t (takS_mem hlt t ht)⟩
def alnP (c:Costs) (l:List TS):List (List Int):=(stgV c l (orderV (dstT c l) l.length) l.length).map (arrR (orderV (dstT c l) l.length))
def alnA (c:Costs) (l:List TS):List (List Int) × Int:=if ck21 c l=0 then (alnP c l,0) else ([],1)
end Go.Proofs.YthadgaboakipoaaGreatDoor
namespace Go.Proofs.YthadgaboakipoaaGreatDoor
open Go.RowKit Go.Shelf Go.Proofs

def SameL (l l':List TS):Prop:=l.map TS.l=l'.map TS.l
theorem SameL.len {l l':List TS} (h:SameL l l'):l.length=l'.length:=by
 have:=congrArg List.length h
 rwa [List.length_map,List.length_map] at this
theorem SameL.get {l l':List TS} (h:SameL l l') (i:Nat):(tsA l i).l=(tsA l' i).l:=by
 have e:=congrArg (fun x:List (List Tok)=>x[i]?) h
 simp only [List.getElem?_map] at e
 unfold tsA
 rw [List.getD_eq_getElem?_getD,List.getD_eq_getElem?_getD]
 cases h1:l[i]? with
 | none =>
  cases h2:l'[i]? with
  | none=>rfl
  | some y=>rw [h1,h2] at e;cases e
 | some x =>
  cases h2:l'[i]? with
  | none=>rw [h1,h2] at e;cases e
  | some y=>rw [h1,h2] at e;exact Option.some.inj e
theorem SameL.dst {l l':List TS} (h:SameL l l') (c:Costs):dstT c l=dstT c l':=by
 funext i k
 unfold dstT
 rw [h.get,h.get]
theorem SameL.put {l l':List TS} (h:SameL l l') (c:Costs) (col:List Int) (t:List Tok) (k:Int):putC c l col t k=putC c l' col t k:=by
 have e:∀ m:List TS,putC c m col t k=(((m.map TS.l).zip col).map fun p=>entC c p.1 p.2 t k).sum:=fun m=>by
  unfold putC
  rw [List.zip_map_left,List.map_map]
  rfl
 rw [e l,e l',h]
theorem SameL.add {l l':List TS} (h:SameL l l') (c:Costs) (cols:List (List Int)) (t:List Tok):addV c l cols t=addV c l' cols t:=by
 funext i k
 have e:grdA c l cols t=grdA c l' cols t:=by
  unfold grdA
  simp only [h.put,h.len]
 unfold addV
 rw [e,h.len]
theorem SameL.tak {l l':List TS} (h:SameL l l') (ord:List Nat) (j:Nat):SameL (takS l ord j) (takS l' ord j):=by
 unfold SameL takS
 rw [List.map_map,List.map_map]
 exact List.map_congr_left fun i _=>h.get i
theorem SameL.stg {l l':List TS} (h:SameL l l') (c:Costs) (ord:List Nat):∀ j,stgV c l ord j=stgV c l' ord j
 | 0=>rfl
 | j+1=>by
  unfold stgV
  rw [(h.tak ord j).add,SameL.stg h c ord j,h.get]
theorem SameL.bad {l l':List TS} (h:SameL l l'):badS l=badS l':=by
 have e:∀ m:List TS,badS m=(m.map TS.l).any badL:=fun m=>by unfold badS;rw [List.any_map];rfl
 rw [e,e,h]
theorem SameL.ck {l l':List TS} (h:SameL l l') (c:Costs):ck21 c l=ck21 c l':=by unfold ck21;rw [h.bad]
theorem SameL.ord {l l':List TS} (h:SameL l l') (c:Costs):ordV c l=ordV c l':=by unfold ordV;rw [h.ck,h.dst,h.len]
theorem SameL.aln {l l':List TS} (h:SameL l l') (c:Costs):alnA c l=alnA c l':=by unfold alnA alnP;rw [h.ck,h.dst,h.len,h.stg]
end Go.Proofs.YthadgaboakipoaaGreatDoor
namespace Go.Proofs.YthadgaboakipoaaGreatDoor
open Go.RowKit Go.Shelf Go.Proofs
set_option maxRecDepth 100000

end Go.Proofs.YthadgaboakipoaaGreatDoor
namespace Go.Proofs.YthadgaboakipoaaGreatDoor
open Go.RowKit Go.Shelf Go.Proofs

theorem pigeon2:∀ (n:Nat) (l:List Nat),l.Nodup→(∀ x∈l,x<n)→l.length≤n
 | 0,l,_,h=>by
  cases l with
  | nil=>simp
  | cons x l=>exact absurd (h x (List.mem_cons_self ..)) (by omega)
 | n+1,l,hd,h=>by
  have h1:=pigeon2 n (l.erase n) (hd.erase n) (fun x hx=>by
   have h2:=(hd.mem_erase_iff).1 hx
   have:=h x h2.2
   have:=h2.1
   omega)
  have h2:l.length≤(l.erase n).length+1:=by
   by_cases hm:n∈l
   ·rw [List.length_erase_of_mem hm];omega
   ·rw [List.erase_of_not_mem hm];omega
  omega
end Go.Proofs.YthadgaboakipoaaGreatDoor
namespace Go.Proofs.YthadgaboakipoaaGreatDoor

def sumI (g:Nat→Int):List Nat→Int
 | []=>0
 | x::l=>g x+sumI g l
theorem sumI_congr {g h:Nat→Int}:∀ {l:List Nat},(∀ x∈l,g x=h x)→sumI g l=sumI h l
 | [],_=>rfl
 | y::l,e=>by unfold sumI;rw [e y (List.mem_cons_self ..),sumI_congr (l:=l) fun x hx=>e x (List.mem_cons_of_mem _ hx)]
def pS (g:Nat→Nat→Int):List Nat→Int
 | []=>0
 | a::l=>sumI (fun y=>g y a) l+pS g l
theorem psum_append (f:Nat→Nat→Int) (ps:List (Nat × Nat)):∀ qs:List (Nat × Nat),psum f (ps++qs)=psum f ps+psum f qs:=by
 intro qs
 unfold psum
 rw [List.foldl_append]
 generalize List.foldl (fun s p=>s+f p.1 p.2) 0 ps=z
 have key:∀ (qs:List (Nat × Nat)) (z:Int),qs.foldl (fun s p=>s+f p.1 p.2) z=z+qs.foldl (fun s p=>s+f p.1 p.2) 0:=by
  intro qs
  induction qs with
  | nil=>intro z;simp
  | cons q qs ih=>intro z;simp only [List.foldl_cons];rw [ih,ih (0+f q.1 q.2)];omega
 exact key qs z
theorem psum_rowP (f:Nat→Nat→Int) (k:Nat):∀ i,psum f (rowP i k)=sumI (fun q=>f q k) (List.range i).reverse
 | 0=>rfl
 | i+1=>by
  rw [rowP_succ,psum_snoc,psum_rowP f k i,List.range_succ,List.reverse_append,List.reverse_singleton,List.singleton_append]
  simp only [sumI]
  omega
theorem psum_pS (f:Nat→Nat→Int):∀ n,psum f (pairsL n)=pS f (List.range n).reverse
 | 0=>rfl
 | n+1=>by
  rw [pairsL_succ,psum_append,psum_pS f n,psum_rowP,List.range_succ,List.reverse_append,List.reverse_singleton,List.singleton_append]
  simp only [pS]
  omega
theorem pS_congr {g h:Nat→Nat→Int}:∀ {l:List Nat},(∀ x∈l,∀ y∈l,g x y=h x y)→pS g l=pS h l
 | [],_=>rfl
 | a::l,e=>by
  unfold pS
  rw [pS_congr (l:=l) fun x hx y hy=>e x (List.mem_cons_of_mem _ hx) y (List.mem_cons_of_mem _ hy),sumI_congr (h:=fun y=>h y a) fun x hx=>e x (List.mem_cons_of_mem _ hx) a (List.mem_cons_self ..)]
theorem psum_congr {f g:Nat→Nat→Int} {n:Nat} (h:∀ i k,i<n→k<n→f i k=g i k):psum f (pairsL n)=psum g (pairsL n):=by
 rw [psum_pS,psum_pS]
 refine pS_congr fun i hi k hk=>?_
 rw [List.mem_reverse,List.mem_range] at hi hk
 exact h i k hi hk
theorem flat_set {α:Type} (cells:α→List Value) (sz:Nat) (hsz:∀ t,(cells t).length=sz):∀ (l:List α) (i:Nat) (t:α),i<l.length→setL (l.flatMap cells) (i * sz) (cells t)=(l.set i t).flatMap cells
 | [],i,t,h=>by simp at h
 | x::l,0,t,h=>by
  rw [List.set_cons_zero,List.flatMap_cons,List.flatMap_cons,Nat.zero_mul]
  have key:∀ (us xs ys zs:List Value),us.length=xs.length→setL (zs++xs++ys) zs.length us=zs++us++ys:=by
   intro us
   induction us with
   | nil =>
    intro xs ys zs h
    have e:xs=[]:=List.eq_nil_of_length_eq_zero (by simpa using h.symm)
    subst e;simp [setL]
   | cons u us ih =>
    intro xs ys zs h
    obtain⟨x,xs,rfl⟩:∃ y ys,xs=y::ys:=by cases xs with|nil=>simp at h|cons y ys=>exact⟨y,ys,rfl⟩
    simp only [setL]
    have e:(zs++x::xs++ys).set zs.length u=(zs++[u])++xs++ys:=by
     rw [List.append_assoc,List.set_append_right _ _ (Nat.le_refl _),Nat.sub_self];simp
    rw [e,show zs.length+1=(zs++[u]).length by simp,ih xs ys (zs++[u]) (by simpa using h)]
    simp
  have:=key (cells t) (cells x) (l.flatMap cells) [] (by rw [hsz,hsz])
  simpa using this
 | x::l,i+1,t,h=>by
  rw [List.set_cons_succ,List.flatMap_cons,List.flatMap_cons, ← flat_set cells sz hsz l i t (by simpa using h)]
  have key:∀ (us xs ys:List Value) (k:Nat),setL (xs++ys) (xs.length+k) us=xs++setL ys k us:=by
   intro us
   induction us with
   | nil=>intro xs ys k;rfl
   | cons u us ih =>
    intro xs ys k
    simp only [setL]
    rw [List.set_append_right _ _ (by omega),Nat.add_sub_cancel_left,Nat.add_assoc,ih]
  rw [← key,hsz,Nat.succ_mul,Nat.add_comm sz]
theorem flatTok_set (l:List Tok) (i:Nat) (t:Tok) (h:i<l.length):setL (l.flatMap Tok.cells) (i * 6) t.cells=(l.set i t).flatMap Tok.cells:=flat_set Tok.cells 6 (fun _=>rfl) l i t h
end Go.Proofs.YthadgaboakipoaaGreatDoor
namespace Go.Proofs.YthadgaboakipoaaGreatDoor
open Go.RowKit Go.Shelf Go.Proofs

def zC (c:Costs) (l:List TS) (col:List Int) (i k:Nat):Int:=entC c (tsA l i).l (col.getD i (-1)) (tsA l k).l (col.getD k (-1))
def colZ (c:Costs) (l:List TS) (col:List Int):Int:=psum (zC c l col) (pairsL l.length)
def totZ (c:Costs) (l:List TS) (cols:List (List Int)):Int:=(cols.map (colZ c l)).sum
theorem totZ_cons (c:Costs) (l:List TS) (x:List Int) (cols:List (List Int)):totZ c l (x::cols)=colZ c l x+totZ c l cols:=by unfold totZ;rw [List.map_cons,List.sum_cons]
theorem totZ_app (c:Costs) (l:List TS) (a b:List (List Int)):totZ c l (a++b)=totZ c l a+totZ c l b:=by unfold totZ;rw [List.map_append,List.sum_append]
theorem colZ_bd {c:Costs} (hc:costE c=0) {l:List TS} (hl:l.length≤32) (col:List Int):0≤colZ c l col∧colZ c l col≤1024000:=by
 have h1:=psum_bd (f:=zC c l col) (M:=1000) (by omega) (pairsL l.length) fun p _=>entC_bd hc _ _ _ _
 have h2:=pairsL_len l.length
 have h3:l.length * l.length≤32 * 32:=Nat.mul_le_mul hl hl
 unfold colZ
 omega
theorem totZ_bd {c:Costs} (hc:costE c=0) {l:List TS} (hl:l.length≤32):∀ cols:List (List Int),0≤totZ c l cols∧totZ c l cols≤1024000 * (cols.length:Int)
 | []=>by simp [totZ]
 | x::cols=>by
  have h1:=colZ_bd hc hl x
  have h2:=totZ_bd hc hl cols
  rw [totZ_cons,List.length_cons]
  omega
theorem columnV_Z {c:Costs} (hc:costE c=0) {l:List TS} (hbs:badS l=false) (hln:∀ t∈l,t.l.length=t.n) (hn:l.length≤32) {col:List Int} (hcol:ColOk l col) {own:List Tok} {th:List Bool} (ho:own.length=l.length) (ht:th.length=l.length)
  (h1:∀ i,i<l.length→thA th i=decide (0≤col.getD i (-1))) (h2:∀ i,i<l.length→0≤col.getD i (-1)→tkA own i=tkA (tsA l i).l (col.getD i (-1)).toNat):columnV c own th=(colZ c l col,0):=by
 have hmem:∀ i,i<l.length→0≤col.getD i (-1)→tkA (tsA l i).l (col.getD i (-1)).toNat∈(tsA l i).l:=fun i hi h0=>by
  have hci:col[i]?=some (col.getD i (-1)):=by rw [List.getD_eq_getElem?_getD,List.getElem?_eq_getElem (by rw [hcol.1];exact hi)];rfl
  have hli:l[i]?=some (tsA l i):=by rw [tsA_eq (List.getElem?_eq_getElem hi)];exact List.getElem?_eq_getElem hi
  have:=hcol.2 i _ _ hci hli
  exact tkA_mem2 h0 (by rw [hln _ (tsA_mem hi)];exact this.2)
 have hbad:badCol own th=false:=badCol_false fun j hj hth=>by
  rw [ho] at hj
  rw [h1 j hj] at hth
  have h0:0≤col.getD j (-1):=of_decide_eq_true hth
  rw [h2 j hj h0]
  exact badS_ok hbs _ (tsA_mem hj) _ (hmem j hj h0)
 unfold columnV colZ
 rw [if_neg (by simp [hc]),if_neg (by omega),if_neg (by omega),if_neg (by rw [hbad];simp),ho]
 refine congrArg (fun x=>(x,(0:Int))) (psum_congr fun i k hi hk=>?_)
 unfold cellC zC entC
 rw [h1 i hi,h1 k hk]
 have e1:=h2 i hi
 have e2:=h2 k hk
 generalize col.getD i (-1)=x at e1 ⊢
 generalize col.getD k (-1)=y at e2 ⊢
 by_cases hi0:0≤x
 ·by_cases hk0:0≤y
  ·rw [e1 hi0,e2 hk0];simp [hi0,hk0]
  ·rw [e1 hi0];simp [hi0,hk0]
 ·by_cases hk0:0≤y
  ·rw [e2 hk0];simp [hi0,hk0]
  ·simp [hi0,hk0]
theorem psum_zero {f:Nat→Nat→Int} (h:∀ i k,f i k=0) (ps:List (Nat × Nat)):psum f ps=0:=by
 have:=psum_bd (f:=f) (M:=0) (Int.le_refl _) ps fun p _=>by rw [h];omega
 omega
theorem psum_add (f g:Nat→Nat→Int):∀ ps:List (Nat × Nat),psum (fun i k=>f i k+g i k) ps=psum f ps+psum g ps:=by
 intro ps
 have key:∀ (ps:List (Nat × Nat)) (a b:Int),ps.foldl (fun s p=>s+(f p.1 p.2+g p.1 p.2)) (a+b)=ps.foldl (fun s p=>s+f p.1 p.2) a+ps.foldl (fun s p=>s+g p.1 p.2) b:=by
  intro ps
  induction ps with
  | nil=>intro a b;rfl
  | cons p ps ih =>
   intro a b
   simp only [List.foldl_cons]
   rw [← ih,show a+b+(f p.1 p.2+g p.1 p.2)=a+f p.1 p.2+(b+g p.1 p.2) by omega]
 exact key ps 0 0
theorem psum_le {f g:Nat→Nat→Int}:∀ {ps:List (Nat × Nat)},(∀ p∈ps,f p.1 p.2≤g p.1 p.2)→psum f ps≤psum g ps:=by
 intro ps
 have key:∀ (ps:List (Nat × Nat)) (a b:Int),a≤b→(∀ p∈ps,f p.1 p.2≤g p.1 p.2)→ps.foldl (fun s p=>s+f p.1 p.2) a≤ps.foldl (fun s p=>s+g p.1 p.2) b:=by
  intro ps
  induction ps with
  | nil=>intro a b h _;exact h
  | cons p ps ih =>
   intro a b h hp
   simp only [List.foldl_cons]
   have:=hp p (List.mem_cons_self ..)
   exact ih _ _ (by omega) fun q hq=>hp q (List.mem_cons_of_mem _ hq)
 exact key ps 0 0 (Int.le_refl _)
theorem upto_drop {n p:Nat} (h:p<n):(upto n).drop p=(p:Int)::(upto n).drop (p+1):=by
 rw [List.drop_eq_getElem_cons (by rw [upto_len];exact h)]
 have e:=upto_get h
 rw [List.getElem?_eq_getElem (by rw [upto_len];exact h)] at e
 rw [Option.some.inj e]
def rsum (D:Nat→Nat→Int) (i:Nat):Nat→Int
 | 0=>0
 | k+1=>rsum D i k+if i<k then D i k else 0
def ssum (D:Nat→Nat→Int) (n:Nat):Nat→Int
 | 0=>0
 | i+1=>ssum D n i+rsum D i n
theorem rsum_low (D:Nat→Nat→Int) (i:Nat):∀ k,k≤i+1→rsum D i k=0
 | 0,_=>rfl
 | k+1,h=>by rw [rsum,rsum_low D i k (by omega),if_neg (by omega)];rfl
theorem ssum_succ (D:Nat→Nat→Int) (n:Nat):∀ i,i≤n→ssum D (n+1) i=ssum D n i+psum D (rowP i n)
 | 0,_=>rfl
 | i+1,h=>by
  rw [ssum,ssum_succ D n i (by omega),ssum,rsum,if_pos (by omega),rowP_succ,psum_snoc]
  dsimp only
  omega
theorem ssum_eq (D:Nat→Nat→Int):∀ n,ssum D n n=psum D (pairsL n)
 | 0=>rfl
 | n+1=>by
  rw [ssum,ssum_succ D n n (Nat.le_refl _),ssum_eq D n,pairsL_succ,psum_append,rsum_low D n (n+1) (Nat.le_refl _)]
  omega
theorem rsum_bd {D:Nat→Nat→Int} {M:Int} (h0:0≤M) (h:∀ i k,0≤D i k∧D i k≤M) (i:Nat):∀ k:Nat,0≤rsum D i k∧rsum D i k≤M * (k:Int)
 | 0=>by simp [rsum]
 | k+1=>by
  have h1:=rsum_bd h0 h i k
  have h2:=h i k
  have e:M * ((k+1:Nat):Int)=M * (k:Int)+M:=by rw [Int.natCast_succ,Int.mul_add,Int.mul_one]
  rw [e,rsum]
  split <;> omega
theorem ssum_bd {D:Nat→Nat→Int} {M:Int} (h0:0≤M) (h:∀ i k,0≤D i k∧D i k≤M) (n:Nat):∀ i:Nat,0≤ssum D n i∧ssum D n i≤M * (n:Int) * (i:Int)
 | 0=>by simp [ssum]
 | i+1=>by
  have h1:=ssum_bd h0 h n i
  have h2:=rsum_bd h0 h i n
  have e:M * (n:Int) * ((i+1:Nat):Int)=M * (n:Int) * (i:Int)+M * (n:Int):=by rw [Int.natCast_succ,Int.mul_add,Int.mul_one]
  rw [e,ssum]
  omega
end Go.Proofs.YthadgaboakipoaaGreatDoor
namespace Go.Proofs.YthadgaboakipoaaGreatDoor

end Go.Proofs.YthadgaboakipoaaGreatDoor
namespace Go.Proofs.YthadgaboakipoaaGreatDoor

def volL:List Nat→Nat
 | []=>1
 | n::ls=>(n+1) * volL ls
def numL:List Nat→List Nat→Nat
 | _::ls,a::v=>a * volL ls+numL ls v
 | _,_=>0
def atL:List Nat→Nat→List Nat
 | [],_=>[]
 | n::ls,p=>(p / volL ls % (n+1))::atL ls p
def stpL:List Nat→Nat→Nat
 | [],_=>0
 | _::ls,0=>volL ls
 | _::ls,s+1=>stpL ls s
def InB:List Nat→List Nat→Prop
 | [],[]=>True
 | n::ls,a::v=>a≤n∧InB ls v
 | _,_=>False
theorem volL_pos:∀ ls:List Nat,0<volL ls
 | []=>Nat.one_pos
 | n::ls=>Nat.mul_pos (Nat.succ_pos n) (volL_pos ls)
theorem InB.len:∀ {ls v:List Nat},InB ls v→v.length=ls.length
 | [],[],_=>rfl
 | n::ls,a::v,h=>by simp [InB.len h.2]
 | [],a::v,h=>h.elim
 | n::ls,[],h=>h.elim
theorem numL_lt:∀ {ls v:List Nat},InB ls v→numL ls v<volL ls
 | [],[],_=>Nat.one_pos
 | n::ls,a::v,h=>by
  have h1:=numL_lt h.2
  have h2:a * volL ls≤n * volL ls:=Nat.mul_le_mul_right _ h.1
  have h3:(n+1) * volL ls=n * volL ls+volL ls:=by rw [Nat.add_mul,Nat.one_mul]
  show a * volL ls+numL ls v<(n+1) * volL ls
  omega
 | [],a::v,h=>h.elim
 | n::ls,[],h=>h.elim
theorem atL_mod:∀ (ls:List Nat) (p:Nat),atL ls (p % volL ls)=atL ls p
 | [],p=>rfl
 | n::ls,p=>by
  show (p % ((n+1) * volL ls) / volL ls % (n+1))::atL ls (p % ((n+1) * volL ls))=(p / volL ls % (n+1))::atL ls p
  have h1:p % ((n+1) * volL ls) / volL ls % (n+1)=p / volL ls % (n+1):=by
   rw [Nat.mod_mul_left_div_self,Nat.mod_mod]
  have h2:atL ls (p % ((n+1) * volL ls))=atL ls p:=by
   rw [← atL_mod ls (p % _), ← atL_mod ls p,Nat.mod_mul_left_mod]
  rw [h1,h2]
theorem atL_in:∀ (ls:List Nat) (p:Nat),InB ls (atL ls p)
 | [],_=>trivial
 | n::ls,p=>⟨Nat.le_of_lt_succ (Nat.mod_lt _ (Nat.succ_pos n)),atL_in ls p⟩
theorem atL_len (ls:List Nat) (p:Nat):(atL ls p).length=ls.length:=(atL_in ls p).len
theorem num_at:∀ (ls:List Nat) (p:Nat),p<volL ls→numL ls (atL ls p)=p
 | [],p,h=>by have:p<1:=h;show 0=p;omega
 | n::ls,p,h=>by
  show (p / volL ls % (n+1)) * volL ls+numL ls (atL ls p)=p
  have hp:=volL_pos ls
  have h1:p / volL ls<n+1:=(Nat.div_lt_iff_lt_mul hp).2 h
  rw [Nat.mod_eq_of_lt h1, ← atL_mod ls p,num_at ls _ (Nat.mod_lt _ hp)]
  exact Nat.div_add_mod' p (volL ls)
theorem at_num:∀ {ls v:List Nat},InB ls v→atL ls (numL ls v)=v
 | [],[],_=>rfl
 | n::ls,a::v,h=>by
  have hp:=volL_pos ls
  have h1:=numL_lt h.2
  show ((a * volL ls+numL ls v) / volL ls % (n+1))::atL ls (a * volL ls+numL ls v)=a::v
  have e1:(a * volL ls+numL ls v) / volL ls=a:=by
   rw [Nat.add_comm,Nat.add_mul_div_right _ _ hp,Nat.div_eq_of_lt h1,Nat.zero_add]
  have e2:(a * volL ls+numL ls v) % volL ls=numL ls v:=by
   rw [Nat.add_comm,Nat.add_mul_mod_self_right,Nat.mod_eq_of_lt h1]
  rw [e1,Nat.mod_eq_of_lt (Nat.lt_succ_of_le h.1), ← atL_mod ls (_+_),e2,at_num h.2]
 | [],a::v,h=>h.elim
 | n::ls,[],h=>h.elim
theorem atL_get:∀ {ls:List Nat} {s n:Nat} (p:Nat),ls[s]?=some n→(atL ls p)[s]?=some (p / stpL ls s % (n+1))
 | m::ls,0,n,p,h=>by
  simp at h;subst h;rfl
 | m::ls,s+1,n,p,h=>by
  have:=atL_get (ls:=ls) (s:=s) (n:=n) p (by simpa using h)
  simpa [atL,stpL] using this
theorem num_set:∀ {ls v:List Nat} {s:Nat},v.length=ls.length→s<v.length→numL ls (v.set s (v.getD s 0+1))=numL ls v+stpL ls s
 | n::ls,a::v,0,_,_=>by
  show (a+1) * volL ls+numL ls v=a * volL ls+numL ls v+volL ls
  rw [Nat.add_mul,Nat.one_mul];omega
 | n::ls,a::v,s+1,hl,hs=>by
  have:=num_set (ls:=ls) (v:=v) (s:=s) (by simpa using hl) (by simpa using hs)
  show a * volL ls+numL ls (v.set s ((a::v).getD (s+1) 0+1))=a * volL ls+numL ls v+stpL ls s
  rw [show (a::v).getD (s+1) 0=v.getD s 0 by simp,this];omega
 | [],a::v,s,hl,_=>by simp at hl
theorem num_all:∀ ls:List Nat,numL ls ls+1=volL ls
 | []=>rfl
 | n::ls=>by
  have:=num_all ls
  show n * volL ls+numL ls ls+1=(n+1) * volL ls
  rw [Nat.add_mul,Nat.one_mul];omega
theorem InB.self:∀ ls:List Nat,InB ls ls
 | []=>trivial
 | n::ls=>⟨Nat.le_refl n,InB.self ls⟩
theorem InB.get:∀ {ls v:List Nat},InB ls v→∀ s,v.getD s 0≤ls.getD s 0
 | [],[],_,s=>by simp
 | n::ls,a::v,h,0=>h.1
 | n::ls,a::v,h,s+1=>by simpa using InB.get h.2 s
 | [],a::v,h,_=>h.elim
 | n::ls,[],h,_=>h.elim
theorem InB.of:∀ {ls v:List Nat},v.length=ls.length→(∀ s,v.getD s 0≤ls.getD s 0)→InB ls v
 | [],[],_,_=>trivial
 | n::ls,a::v,hl,h=>⟨h 0,InB.of (by simpa using hl) fun s=>by simpa using h (s+1)⟩
 | [],a::v,hl,_=>by simp at hl
 | n::ls,[],hl,_=>by simp at hl
theorem InB.some:∀ {ls v:List Nat},InB ls v→v≠ls→∃ s,s<ls.length∧v.getD s 0<ls.getD s 0
 | [],[],_,h=>(h rfl).elim
 | n::ls,a::v,h,hne=>by
  by_cases e:a=n
  ·subst e
   obtain⟨s,h1,h2⟩:=InB.some h.2 (fun e2=>hne (by rw [e2]))
   exact⟨s+1,by simp;omega,by simpa using h2⟩
  ·exact⟨0,by simp,by have:=h.1;show a<n;omega⟩
 | [],a::v,h,_=>h.elim
 | n::ls,[],h,_=>h.elim
def sumL:List Nat→Nat
 | []=>0
 | n::ls=>n+sumL ls
theorem sumL_le:∀ {ls v:List Nat},InB ls v→sumL v≤sumL ls
 | [],[],_=>Nat.le_refl _
 | n::ls,a::v,h=>by have:=sumL_le h.2;have:=h.1;show a+sumL v≤n+sumL ls;omega
 | [],a::v,h=>h.elim
 | n::ls,[],h=>h.elim
theorem sumL_set:∀ {v:List Nat} {s:Nat},s<v.length→sumL (v.set s (v.getD s 0+1))=sumL v+1
 | a::v,0,_=>by show a+1+sumL v=a+sumL v+1;omega
 | a::v,s+1,h=>by
  have:=sumL_set (v:=v) (s:=s) (by simpa using h)
  show a+sumL (v.set s ((a::v).getD (s+1) 0+1))=a+sumL v+1
  rw [show (a::v).getD (s+1) 0=v.getD s 0 by simp,this];omega
def toM (v:List Nat):List Nat→List Nat
 | []=>v
 | s::m=>toM (v.set s (v.getD s 0+1)) m
theorem toM_len:∀ (m v:List Nat),(toM v m).length=v.length
 | [],v=>rfl
 | s::m,v=>by unfold toM;rw [toM_len m,List.length_set]
theorem set_other {v:List Nat} {s u x:Nat} (h:s≠u):(v.set s x).getD u 0=v.getD u 0:=by
 rw [List.getD_eq_getElem?_getD,List.getElem?_set_ne h, ← List.getD_eq_getElem?_getD]
theorem set_self {v:List Nat} {s x:Nat} (h:s<v.length):(v.set s x).getD s 0=x:=by
 rw [List.getD_eq_getElem?_getD,List.getElem?_set_self h];rfl
theorem toM_get:∀ (m v:List Nat),m.Nodup→(∀ s∈m,s<v.length)→∀ s,(toM v m).getD s 0=v.getD s 0+if s∈m then 1 else 0
 | [],v,_,_,s=>by simp [toM]
 | u::m,v,hd,hl,s=>by
  have hu:=List.nodup_cons.1 hd
  unfold toM
  rw [toM_get m _ hu.2 (fun s hs=>by rw [List.length_set];exact hl s (.tail _ hs)) s]
  by_cases e:u=s
  ·subst e
   rw [set_self (hl u (.head _)),if_neg hu.1,if_pos (.head _)]
  ·rw [set_other e]
   have:(s∈u::m)↔s∈m:=by rw [List.mem_cons];exact⟨fun h=>h.resolve_left (fun h=>e h.symm), .inr⟩
   simp only [this]
theorem toM_num:∀ (ls m v:List Nat),v.length=ls.length→(∀ s∈m,s<v.length)→numL ls (toM v m)=numL ls v+(m.map (stpL ls)).sum
 | ls,[],v,_,_=>by simp [toM]
 | ls,s::m,v,hl,hm=>by
  unfold toM
  rw [toM_num ls m _ (by rw [List.length_set];exact hl) (fun s hs=>by rw [List.length_set];exact hm s (.tail _ hs)),num_set hl (hm s (.head _)),List.map_cons,List.sum_cons]
  omega
theorem toM_sum:∀ (m v:List Nat),(∀ s∈m,s<v.length)→sumL (toM v m)=sumL v+m.length
 | [],v,_=>by simp [toM]
 | s::m,v,hm=>by
  unfold toM
  rw [toM_sum m _ (fun s hs=>by rw [List.length_set];exact hm s (.tail _ hs)),sumL_set (hm s (.head _)),List.length_cons]
  omega
theorem toM_in {ls v m:List Nat} (h:InB ls v) (hd:m.Nodup) (hm:∀ s∈m,s<ls.length∧v.getD s 0<ls.getD s 0):InB ls (toM v m):=by
 have hlen:=h.len
 refine InB.of (by rw [toM_len,hlen]) fun s=>?_
 rw [toM_get m v hd (fun s hs=>by rw [hlen];exact (hm s hs).1) s]
 have h1:=h.get s
 split
 ·rename_i hs;have:=(hm s hs).2;omega
 ·omega
end Go.Proofs.YthadgaboakipoaaGreatDoor
namespace Go.Proofs.YthadgaboakipoaaGreatDoor

def possM (ls v m:List Nat):Bool:=m.all fun s=>decide (v.getD s 0<ls.getD s 0)
theorem possM_iff {ls v m:List Nat}:possM ls v m=true↔∀ s∈m,v.getD s 0<ls.getD s 0:=by unfold possM;rw [List.all_eq_true];simp
def colMv (v:List Nat):List Nat→List Int→List Int
 | [],c=>c
 | s::m,c=>colMv v m (c.set s (v.getD s 0:Nat))
def colT (v m:List Nat):List Int:=colMv v m (List.replicate v.length (-1))
theorem colMv_len (v:List Nat):∀ (m:List Nat) (c:List Int),(colMv v m c).length=c.length
 | [],c=>rfl
 | s::m,c=>by unfold colMv;rw [colMv_len v m,List.length_set]
theorem colT_len (v m:List Nat):(colT v m).length=v.length:=by unfold colT;rw [colMv_len,List.length_replicate]
theorem colMv_get (v:List Nat):∀ (m:List Nat) (c:List Int) (s:Nat),s<c.length→(colMv v m c).getD s (-1)=if s∈m then ((v.getD s 0:Nat):Int) else c.getD s (-1)
 | [],c,s,_=>by simp [colMv]
 | u::m,c,s,h=>by
  unfold colMv
  rw [colMv_get v m _ s (by rw [List.length_set];exact h)]
  by_cases h1:s∈m
  ·rw [if_pos h1,if_pos (List.mem_cons_of_mem _ h1)]
  ·rw [if_neg h1]
   by_cases e:u=s
   ·subst e
    rw [if_pos List.mem_cons_self,List.getD_eq_getElem?_getD,List.getElem?_set_self h];rfl
   ·rw [if_neg (by rw [List.mem_cons];rintro (h|h);exact e h.symm;exact h1 h),List.getD_eq_getElem?_getD,List.getElem?_set_ne e, ← List.getD_eq_getElem?_getD]
theorem colT_get {v m:List Nat} {s:Nat} (h:s<v.length):(colT v m).getD s (-1)=if s∈m then ((v.getD s 0:Nat):Int) else -1:=by
 unfold colT
 rw [colMv_get v m _ s (by rw [List.length_replicate];exact h)]
 simp [List.getD_eq_getElem?_getD,List.getElem?_replicate,h]
structure MvsOk (n:Nat) (Ms:List (List Nat)):Prop where
 nd:∀ m∈Ms,m.Nodup
 lt:∀ m∈Ms,∀ s∈m,s<n
 ne:∀ m∈Ms,m≠[]
 one:∀ s,s<n→[s]∈Ms
def foldB (p:List Nat→Bool) (f:List Nat→Int):List (List Nat)→Int→Int
 | [],a=>a
 | m::ms,a=>foldB p f ms (cond (p m) (bst a (f m)) a)
theorem foldB_app (p:List Nat→Bool) (f:List Nat→Int):∀ (ms ks:List (List Nat)) (a:Int),foldB p f (ms++ks) a=foldB p f ks (foldB p f ms a)
 | [],ks,a=>rfl
 | m::ms,ks,a=>foldB_app p f ms ks _
theorem foldB_congr {p:List Nat→Bool} {f g:List Nat→Int}:∀ {ms:List (List Nat)} {a:Int},(∀ m∈ms,p m=true→f m=g m)→foldB p f ms a=foldB p g ms a
 | [],a,_=>rfl
 | m::ms,a,h=>by
  show foldB p f ms _=foldB p g ms _
  rw [foldB_congr (a:=cond (p m) (bst a (f m)) a) fun k hk=>h k (.tail _ hk)]
  cases hp:p m with
  | true=>rw [h m (.head _) hp]
  | false=>rfl
theorem foldB_none {p:List Nat→Bool} {f:List Nat→Int}:∀ {ms:List (List Nat)} {a:Int},(∀ m∈ms,p m=false)→foldB p f ms a=a
 | [],a,_=>rfl
 | m::ms,a,h=>by
  show foldB p f ms (cond (p m) _ _)=a
  rw [h m (.head _)]
  exact foldB_none fun k hk=>h k (.tail _ hk)
theorem bst_le {a x:Int}:(0≤a→bst a x≤a)∧bst a x≤max a x:=by unfold bst;split <;> omega
theorem foldB_spec {p:List Nat→Bool} {f:List Nat→Int} (hf:∀ m,0≤f m):∀ (ms:List (List Nat)) (a:Int),-1≤a → -1≤foldB p f ms a∧(0≤a→0≤foldB p f ms a∧foldB p f ms a≤a)∧(∀ m∈ms,p m=true→0≤foldB p f ms a∧foldB p f ms a≤f m)∧(foldB p f ms a=a∨∃ m∈ms,p m=true∧foldB p f ms a=f m)
 | [],a,ha=>⟨ha,fun h=>⟨h,Int.le_refl _⟩,fun m hm=>(by cases hm), .inl rfl⟩
 | m::ms,a,ha=>by
  have hfm:=hf m
  have hb : -1≤bst a (f m)∧0≤bst a (f m)∧bst a (f m)≤f m∧(0≤a→bst a (f m)≤a)∧(bst a (f m)=a∨bst a (f m)=f m):=by unfold bst;split <;> omega
  show -1≤foldB p f ms (cond (p m) (bst a (f m)) a)∧(0≤a→0≤foldB p f ms (cond (p m) (bst a (f m)) a)∧foldB p f ms (cond (p m) (bst a (f m)) a)≤a)∧(∀ k∈m::ms,p k=true→0≤foldB p f ms (cond (p m) (bst a (f m)) a)∧foldB p f ms (cond (p m) (bst a (f m)) a)≤f k)∧(foldB p f ms (cond (p m) (bst a (f m)) a)=a∨∃ k∈m::ms,p k=true∧foldB p f ms (cond (p m) (bst a (f m)) a)=f k)
  cases hp:p m with
  | false =>
   obtain⟨h1,h2,h3,h4⟩:=foldB_spec hf ms a ha
   refine ⟨h1,h2,fun k hk hpk=>?_,h4.imp id fun⟨k,hk,h5⟩=>⟨k, .tail _ hk,h5⟩⟩
   rcases List.mem_cons.1 hk with rfl|hk
   ·rw [hp] at hpk;cases hpk
   ·exact h3 k hk hpk
  | true =>
   obtain⟨h1,h2,h3,h4⟩:=foldB_spec hf ms (bst a (f m)) hb.1
   have h5:=h2 hb.2.1
   refine ⟨h1,fun h=>⟨h5.1,Int.le_trans h5.2 (hb.2.2.2.1 h)⟩,fun k hk hpk=>?_,?_⟩
   ·rcases List.mem_cons.1 hk with rfl|hk
    ·exact⟨h5.1,Int.le_trans h5.2 hb.2.2.1⟩
    ·exact h3 k hk hpk
   ·rcases h4 with h4|⟨k,hk,h6⟩
    ·rcases hb.2.2.2.2 with h7|h7
     ·exact .inl (h4.trans h7)
     ·exact .inr ⟨m, .head _,hp,h4.trans h7⟩
    ·exact .inr ⟨k, .tail _ hk,h6⟩
def rsM (K:List Int→Int) (ls:List Nat) (Ms:List (List Nat)):Nat→List Nat→Int
 | 0,_=>0
 | f+1,v=>max (foldB (possM ls v) (fun m=>K (colT v m)+rsM K ls Ms f (toM v m)) Ms (-1)) 0
def rsV (K:List Int→Int) (ls:List Nat) (Ms:List (List Nat)) (v:List Nat):Int:=rsM K ls Ms (sumL ls - sumL v) v
theorem rsM_nn (K:List Int→Int) (ls:List Nat) (Ms:List (List Nat)):∀ f v,0≤rsM K ls Ms f v
 | 0,_=>Int.le_refl _
 | f+1,v=>by unfold rsM;omega
theorem toM_rem {ls v m:List Nat} {n:Nat} {Ms:List (List Nat)} (hM:MvsOk n Ms) (hn:ls.length=n) (hv:InB ls v) (hm:m∈Ms) (hp:possM ls v m=true):InB ls (toM v m)∧sumL v+m.length=sumL (toM v m)∧0<m.length∧sumL (toM v m)≤sumL ls:=by
 have h1:=hM.lt m hm
 have h2:=possM_iff.1 hp
 have hi:=toM_in hv (hM.nd m hm) fun s hs=>⟨by rw [hn];exact h1 s hs,h2 s hs⟩
 exact⟨hi,(toM_sum m v fun s hs=>by rw [hv.len,hn];exact h1 s hs).symm,List.length_pos_iff.2 (hM.ne m hm),sumL_le hi⟩
theorem rsM_fuel (K:List Int→Int) {ls:List Nat} {n:Nat} {Ms:List (List Nat)} (hM:MvsOk n Ms) (hn:ls.length=n):∀ f v,InB ls v→sumL ls - sumL v≤f→∀ g,sumL ls - sumL v≤g→rsM K ls Ms f v=rsM K ls Ms g v:=by
 have none0:∀ v,InB ls v→sumL ls - sumL v=0→∀ m∈Ms,possM ls v m=false:=fun v hv h0 m hm=>by
  cases hp:possM ls v m with
  | false=>rfl
  | true =>
   obtain⟨h1,h2,h3,h4⟩:=toM_rem hM hn hv hm hp
   omega
 intro f
 induction f with
 | zero =>
  intro v hv h0 g hg
  cases g with
  | zero=>rfl
  | succ g =>
   show 0=max (foldB _ _ Ms (-1)) 0
   rw [foldB_none (none0 v hv (by omega))];rfl
 | succ f ih =>
  intro v hv hf g hg
  cases g with
  | zero =>
   show max (foldB _ _ Ms (-1)) 0=0
   rw [foldB_none (none0 v hv (by omega))];rfl
  | succ g =>
   show max (foldB _ _ Ms (-1)) 0=max (foldB _ _ Ms (-1)) 0
   rw [foldB_congr fun m hm hp=>?_]
   obtain⟨h1,h2,h3,h4⟩:=toM_rem hM hn hv hm hp
   rw [ih (toM v m) h1 (by omega) g (by omega)]
theorem rsV_nn (K:List Int→Int) (ls:List Nat) (Ms:List (List Nat)) (v:List Nat):0≤rsV K ls Ms v:=rsM_nn _ _ _ _ _
theorem rsV_end (K:List Int→Int) (ls:List Nat) (Ms:List (List Nat)):rsV K ls Ms ls=0:=by unfold rsV;rw [Nat.sub_self];rfl
theorem eq_of_sum:∀ {ls v:List Nat},InB ls v→sumL ls≤sumL v→v=ls
 | [],[],_,_=>rfl
 | n::ls,a::v,h,hs=>by
  have h1:=sumL_le h.2
  have h2:=h.1
  have h3:n+sumL ls≤a+sumL v:=hs
  rw [eq_of_sum h.2 (by omega),show a=n by omega]
 | [],a::v,h,_=>h.elim
 | n::ls,[],h,_=>h.elim
def mcV (K:List Int→Int) (ls:List Nat) (Ms:List (List Nat)) (v m:List Nat):Int:=K (colT v m)+rsV K ls Ms (toM v m)
theorem rsV_step {K:List Int→Int} (hK:∀ x,0≤K x) {ls:List Nat} {n:Nat} {Ms:List (List Nat)} (hM:MvsOk n Ms) (hn:ls.length=n) {v:List Nat} (hv:InB ls v) (hne:v≠ls) :
  rsV K ls Ms v=foldB (possM ls v) (mcV K ls Ms v) Ms (-1):=by
 have hs:sumL v<sumL ls:=Nat.lt_of_not_le fun h=>hne (eq_of_sum hv h)
 obtain⟨f,hf⟩:∃ f,sumL ls - sumL v=f+1:=⟨sumL ls - sumL v - 1,by omega⟩
 unfold rsV
 rw [hf]
 show max (foldB _ _ Ms (-1)) 0=_
 rw [foldB_congr (g:=mcV K ls Ms v) fun m hm hp=>?_]
 ·obtain⟨s,hs1,hs2⟩:=hv.some hne
  have h0:∀ m,0≤mcV K ls Ms v m:=fun m=>by have:=hK (colT v m);have:=rsV_nn K ls Ms (toM v m);unfold mcV;omega
  have:=((foldB_spec (p:=possM ls v) h0 Ms (-1) (by omega)).2.2.1 [s] (hM.one s (by omega)) (possM_iff.2 fun u hu=>by rw [List.mem_singleton] at hu;subst hu;exact hs2)).1
  omega
 ·obtain⟨h1,h2,h3,h4⟩:=toM_rem hM hn hv hm hp
  show K (colT v m)+_=K (colT v m)+rsM K ls Ms (sumL ls - sumL (toM v m)) (toM v m)
  rw [rsM_fuel K hM hn f (toM v m) h1 (by omega) (sumL ls - sumL (toM v m)) (by omega)]
theorem mcV_nn {K:List Int→Int} (hK:∀ x,0≤K x) (ls:List Nat) (Ms:List (List Nat)) (v m:List Nat):0≤mcV K ls Ms v m:=by
 have:=hK (colT v m);have:=rsV_nn K ls Ms (toM v m);unfold mcV;omega
def fitM (K:List Int→Int) (ls:List Nat) (Ms:List (List Nat)) (v m:List Nat):Bool:=possM ls v m && decide (mcV K ls Ms v m=rsV K ls Ms v)
def alM (K:List Int→Int) (ls:List Nat) (Ms:List (List Nat)):Nat→List Nat→List (List Int)
 | 0,_=>[]
 | f+1,v=>match Ms.find? (fitM K ls Ms v) with
  | some m=>colT v m::alM K ls Ms f (toM v m)
  | none=>[]
def alV19 (K:List Int→Int) (ls:List Nat) (Ms:List (List Nat)) (v:List Nat):List (List Int):=alM K ls Ms (sumL ls - sumL v) v
theorem fit_some {K:List Int→Int} (hK:∀ x,0≤K x) {ls:List Nat} {n:Nat} {Ms:List (List Nat)} (hM:MvsOk n Ms) (hn:ls.length=n) {v:List Nat} (hv:InB ls v) (hne:v≠ls) :
  ∃ m,Ms.find? (fitM K ls Ms v)=some m∧m∈Ms∧possM ls v m=true∧mcV K ls Ms v m=rsV K ls Ms v:=by
 have hst:=rsV_step hK hM hn hv hne
 obtain⟨s,hs1,hs2⟩:=hv.some hne
 have h0:=mcV_nn hK ls Ms v
 obtain⟨-,-,h3,h4⟩:=foldB_spec (p:=possM ls v) h0 Ms (-1) (by omega)
 have h5:=(h3 [s] (hM.one s (by omega)) (possM_iff.2 fun u hu=>by rw [List.mem_singleton] at hu;subst hu;exact hs2)).1
 rcases h4 with h4|⟨m,hm,hp,he⟩
 ·omega
 ·have hfit:fitM K ls Ms v m=true:=by unfold fitM;rw [hp,hst,he];simp
  cases hf:Ms.find? (fitM K ls Ms v) with
  | none=>exact absurd hfit (by have:=List.find?_eq_none.1 hf m hm;simpa using this)
  | some k =>
   have h6:=List.find?_some hf
   unfold fitM at h6
   rw [Bool.and_eq_true,decide_eq_true_eq] at h6
   exact⟨k,rfl,List.mem_of_find?_eq_some hf,h6.1,h6.2⟩
def RestOk (ls v:List Nat) (cols:List (List Int)):Prop:=(∀ x∈cols,x.length=ls.length)∧(∀ x∈cols,∃ z∈x,z ≠ -1)∧∀ s n,ls[s]?=some n→srcC cols s=(upto n).drop (v.getD s 0)
theorem RestOk.cons {ls v m:List Nat} {cols:List (List Int)} (hv:InB ls v) (hm:m≠[]) (hd:m.Nodup) (hlt:∀ s∈m,s<ls.length) (hp:possM ls v m=true) (h:RestOk ls (toM v m) cols):RestOk ls v (colT v m::cols):=by
 have hlen:=hv.len
 obtain⟨h1,h2,h3⟩:=h
 refine ⟨fun x hx=>?_,fun x hx=>?_,fun s n hs=>?_⟩
 ·rcases List.mem_cons.1 hx with rfl|hx
  ·rw [colT_len,hlen]
  ·exact h1 x hx
 ·rcases List.mem_cons.1 hx with rfl|hx
  ·obtain⟨s,ms,rfl⟩:=List.exists_cons_of_ne_nil hm
   have hs:s<v.length:=by rw [hlen];exact hlt s (.head _)
   have hg:=colT_get (m:=s::ms) hs
   rw [if_pos List.mem_cons_self] at hg
   refine ⟨_,?_,show ((v.getD s 0:Nat):Int) ≠ -1 by omega⟩
   rw [← hg,List.getD_eq_getElem?_getD,List.getElem?_eq_getElem (by rw [colT_len];exact hs)]
   exact List.getElem_mem _
  ·exact h2 x hx
 ·have hsl:s<ls.length:=(List.getElem?_eq_some_iff.1 hs).1
  rw [srcC_cons,h3 s n hs,colT_get (by rw [hlen];exact hsl),toM_get m v hd (fun u hu=>by rw [hlen];exact hlt u hu)]
  by_cases hsm:s∈m
  ·rw [if_pos hsm,if_pos hsm,if_neg (by omega)]
   have:=possM_iff.1 hp s hsm
   rw [List.getD_eq_getElem?_getD (l:=ls),hs] at this
   rw [upto_drop (show v.getD s 0<n from this)];rfl
  ·rw [if_neg hsm,if_neg hsm,if_pos rfl];rfl
theorem RestOk.nil (ls:List Nat):RestOk ls ls []:=⟨fun x h=>(by cases h),fun x h=>(by cases h),fun s n hs=>by
 rw [List.getD_eq_getElem?_getD,hs]
 show []=(upto n).drop n
 rw [List.drop_of_length_le (by rw [upto_len];exact Nat.le_refl _)]⟩
theorem InB.zero:∀ ls:List Nat,InB ls (List.replicate ls.length 0)
 | []=>trivial
 | n::ls=>⟨Nat.zero_le _,InB.zero ls⟩
end Go.Proofs.YthadgaboakipoaaGreatDoor
namespace Go.Proofs.YthadgaboakipoaaGreatDoor

def mvOfC (x:List Int):List Nat:=(List.range x.length).filter fun s=>decide (x.getD s (-1) ≠ -1)
theorem mvOfC_mem {x:List Int} {s:Nat}:s∈mvOfC x↔s<x.length∧x.getD s (-1) ≠ -1:=by
 unfold mvOfC;rw [List.mem_filter,List.mem_range];simp
theorem mvOfC_asc (x:List Int):(mvOfC x).Pairwise (· < ·):=(List.pairwise_lt_range).filter _
theorem asc_nodup {m:List Nat} (h:m.Pairwise (· < ·)):m.Nodup:=h.imp fun h=>Nat.ne_of_lt h
theorem ext_getD {a b:List Int} (hl:a.length=b.length) (h:∀ s,s<a.length→a.getD s (-1)=b.getD s (-1)):a=b:=by
 refine List.ext_getElem? fun s=>?_
 by_cases hs:s<a.length
 ·have:=h s hs
  rw [List.getD_eq_getElem?_getD,List.getD_eq_getElem?_getD,List.getElem?_eq_getElem hs,List.getElem?_eq_getElem (hl ▸ hs)] at this
  rw [List.getElem?_eq_getElem hs,List.getElem?_eq_getElem (hl ▸ hs)]
  exact congrArg some this
 ·rw [List.getElem?_eq_none (by omega),List.getElem?_eq_none (by omega)]
theorem drop_cons {n p:Nat} {z:Int} {r:List Int} (h:z::r=(upto n).drop p):p<n∧z=(p:Int)∧r=(upto n).drop (p+1):=by
 by_cases hp:p<n
 ·rw [upto_drop hp] at h
  cases h
  exact⟨hp,rfl,rfl⟩
 ·rw [List.drop_of_length_le (by rw [upto_len];omega)] at h
  cases h
theorem RestOk.step {ls v:List Nat} {x:List Int} {cols:List (List Int)} (hv:InB ls v) (h:RestOk ls v (x::cols)) :
  x=colT v (mvOfC x)∧possM ls v (mvOfC x)=true∧mvOfC x≠[]∧(∀ s∈mvOfC x,s<ls.length)∧RestOk ls (toM v (mvOfC x)) cols:=by
 have hlen:=hv.len
 obtain⟨h1,h2,h3⟩:=h
 have hx:=h1 x (.head _)
 have hmem:∀ s,s∈mvOfC x↔s<x.length∧x.getD s (-1) ≠ -1:=fun s=>mvOfC_mem
 have hent:∀ s,s<ls.length→x.getD s (-1) ≠ -1→v.getD s 0<ls.getD s 0∧x.getD s (-1)=((v.getD s 0:Nat):Int)∧srcC cols s=(upto (ls.getD s 0)).drop (v.getD s 0+1):=fun s hs hne=>by
  have h4:=h3 s _ (List.getElem?_eq_getElem hs)
  rw [srcC_cons,if_neg hne] at h4
  have e:ls.getD s 0=ls[s]:=by rw [List.getD_eq_getElem?_getD,List.getElem?_eq_getElem hs];rfl
  rw [e]
  exact drop_cons h4
 have hlt:∀ s∈mvOfC x,s<ls.length:=fun s hs=>by rw [← hx];exact (hmem s).1 hs |>.1
 have hp:possM ls v (mvOfC x)=true:=possM_iff.2 fun s hs=>(hent s (hlt s hs) ((hmem s).1 hs).2).1
 have hxe:x=colT v (mvOfC x):=ext_getD (by rw [colT_len,hlen,hx]) fun s hs=>by
  rw [colT_get (by omega)]
  by_cases hne:x.getD s (-1) = -1
  ·rw [if_neg (fun hm=>((hmem s).1 hm).2 hne),hne]
  ·rw [if_pos ((hmem s).2 ⟨hs,hne⟩)]
   exact (hent s (by omega) hne).2.1
 refine ⟨hxe,hp,?_,hlt,fun y hy=>h1 y (.tail _ hy),fun y hy=>h2 y (.tail _ hy),fun s n hs=>?_⟩
 ·obtain⟨z,hz,hz2⟩:=h2 x (.head _)
  obtain⟨s,hs,rfl⟩:=List.getElem_of_mem hz
  have:s∈mvOfC x:=(hmem s).2 ⟨hs,by rw [List.getD_eq_getElem?_getD,List.getElem?_eq_getElem hs];exact hz2⟩
  exact List.ne_nil_of_mem this
 ·have hsl:s<ls.length:=(List.getElem?_eq_some_iff.1 hs).1
  have e:ls.getD s 0=n:=by rw [List.getD_eq_getElem?_getD,hs];rfl
  rw [toM_get _ v (asc_nodup (mvOfC_asc x)) (fun u hu=>by rw [hlen];exact hlt u hu)]
  have h4:=h3 s n hs
  rw [srcC_cons] at h4
  by_cases hne:x.getD s (-1) = -1
  ·rw [if_pos hne] at h4
   rw [if_neg (fun hm=>((hmem s).1 hm).2 hne)]
   exact h4
  ·rw [if_pos ((hmem s).2 ⟨by omega,hne⟩)]
   have:=(hent s hsl hne).2.2
   rw [e] at this
   exact this
def mvL:Nat→List (List Nat)
 | 1=>[[0]]
 | 2=>[[0,1],[0],[1]]
 | 3=>[[0,1,2],[0,1],[0,2],[1,2],[0],[1],[2]]
 | 4=>[[0,1,2,3],[0,1,2],[0,1,3],[0,2,3],[1,2,3],[0,1],[0,2],[0,3],[1,2],[1,3],[2,3],[0],[1],[2],[3]]
 | _=>[]
theorem mvL_ok {n:Nat} (h1:1≤n) (h4:n≤4):MvsOk n (mvL n):=by
 obtain rfl|rfl|rfl|rfl:n=1∨n=2∨n=3∨n=4:=by omega
 all_goals exact⟨by decide,by decide,by decide,by decide⟩
end Go.Proofs.YthadgaboakipoaaGreatDoor
namespace Go.Proofs.YthadgaboakipoaaGreatDoor

def cmpL:List Nat→List Nat→Int
 | [],[]=>0
 | [],_::_ => -1
 | _::_,[]=>1
 | a::p,b::q=>if a<b then -1 else if b<a then 1 else cmpL p q
theorem cmpL_self:∀ a:List Nat,cmpL a a=0
 | []=>rfl
 | a::p=>by unfold cmpL;rw [if_neg (Nat.lt_irrefl a),if_neg (Nat.lt_irrefl a),cmpL_self p]
theorem cmpL_zero:∀ {a b:List Nat},cmpL a b=0→a=b
 | [],[],_=>rfl
 | [],_::_,h=>by cases h
 | _::_,[],h=>by cases h
 | a::p,b::q,h=>by
  unfold cmpL at h
  split at h
  ·cases h
  ·split at h
   ·cases h
   ·rw [show a=b by omega,cmpL_zero h]
theorem cmpL_neg:∀ a b:List Nat,cmpL a b = -cmpL b a
 | [],[]=>rfl
 | [],_::_=>rfl
 | _::_,[]=>rfl
 | a::p,b::q=>by
  have ih:=cmpL_neg p q
  unfold cmpL
  by_cases h1:a<b
  ·rw [if_pos h1,if_neg (by omega),if_pos h1]
  ·by_cases h2:b<a
   ·rw [if_neg h1,if_pos h2,if_pos h2];rfl
   ·rw [if_neg h1,if_neg h2,if_neg h2,if_neg h1,ih]
theorem cmpL_trans:∀ {a b c:List Nat},cmpL a b<0→cmpL b c<0→cmpL a c<0
 | [],[],_,h,_=>by simp [cmpL] at h
 | [],_::_,[],_,h=>by simp [cmpL] at h
 | [],_::_,_::_,_,_=>by simp [cmpL]
 | _::_,[],_,h,_=>by simp [cmpL] at h
 | _::_,_::_,[],_,h=>by simp [cmpL] at h
 | a::p,b::q,c::r,h1,h2=>by
  have ih:=@cmpL_trans p q r
  unfold cmpL at h1 h2 ⊢
  by_cases ab:a<b
  ·by_cases bc:b<c
   ·rw [if_pos (by omega)];omega
   ·rw [if_neg bc] at h2
    by_cases cb:c<b
    ·rw [if_pos cb] at h2;omega
    ·rw [if_pos (by omega)];omega
  ·rw [if_neg ab] at h1
   by_cases ba:b<a
   ·rw [if_pos ba] at h1;omega
   ·rw [if_neg ba] at h1
    by_cases bc:b<c
    ·rw [if_pos (by omega)];omega
    ·rw [if_neg bc] at h2
     by_cases cb:c<b
     ·rw [if_pos cb] at h2;omega
     ·rw [if_neg cb] at h2
      rw [if_neg (by omega),if_neg (by omega)]
      exact ih h1 h2
def cmpM (a b:List Nat):Int:=if a.length≠b.length then (b.length:Int) - a.length else cmpL a b
theorem cmpM_self (a:List Nat):cmpM a a=0:=by unfold cmpM;rw [if_neg (by simp),cmpL_self]
theorem cmpM_neg (a b:List Nat):cmpM a b = -cmpM b a:=by
 unfold cmpM
 by_cases h:a.length=b.length
 ·rw [if_neg (by simpa using h),if_neg (by simpa using h.symm),cmpL_neg]
 ·rw [if_pos h,if_pos (fun e=>h e.symm)];omega
theorem cmpM_zero {a b:List Nat} (h:cmpM a b=0):a=b:=by
 unfold cmpM at h
 by_cases e:a.length=b.length
 ·rw [if_neg (by simpa using e)] at h;exact cmpL_zero h
 ·rw [if_pos e] at h;omega
theorem cmpM_trans {a b c:List Nat} (h1:cmpM a b<0) (h2:cmpM b c<0):cmpM a c<0:=by
 unfold cmpM at h1 h2 ⊢
 by_cases ab:a.length=b.length
 ·rw [if_neg (by simpa using ab)] at h1
  by_cases bc:b.length=c.length
  ·rw [if_neg (by simpa using bc)] at h2
   rw [if_neg (by simp;omega)]
   exact cmpL_trans h1 h2
  ·rw [if_pos bc] at h2
   rw [if_pos (by omega)];omega
 ·rw [if_pos ab] at h1
  by_cases bc:b.length=c.length
  ·rw [if_pos (by omega)];omega
  ·rw [if_pos bc] at h2
   rw [if_pos (by omega)];omega
def bitsL (n q:Nat):List Nat:=(List.range n).filter fun s=>q.testBit s
def allL (n:Nat):List (List Nat):=((List.range (2 ^ n)).map (bitsL n)).filter fun m => !m.isEmpty
def ascM:List (List Nat)→Bool
 | []=>true
 | [_]=>true
 | a::b::l=>decide (cmpM a b<0) && ascM (b::l)
theorem mvL_cmp:∀ n,ascM (mvL n)=true
 | 0=>rfl
 | 1=>rfl
 | 2=>by decide
 | 3=>by decide
 | 4=>by decide
 | _+5=>rfl
theorem ascM_pw:∀ {l:List (List Nat)},ascM l=true→l.Pairwise fun a b=>cmpM a b<0
 | [],_ => .nil
 | [a],_ => .cons (fun b h=>by cases h) .nil
 | a::b::l,h=>by
  unfold ascM at h
  rw [Bool.and_eq_true,decide_eq_true_eq] at h
  have ih:=ascM_pw h.2
  refine .cons (fun c hc=>?_) ih
  rcases List.mem_cons.1 hc with rfl|hc
  ·exact h.1
  ·exact cmpM_trans h.1 ((List.pairwise_cons.1 ih).1 c hc)
theorem allL_perm {n:Nat} (h1:1≤n) (h4:n≤4):(allL n).Perm (mvL n):=by
 obtain rfl|rfl|rfl|rfl:n=1∨n=2∨n=3∨n=4:=by omega
 all_goals decide
theorem mvL_sorted {n:Nat} (h1:1≤n) (h4:n≤4) {l:List (List Nat)} (hp:l.Perm (allL n)) (hs:l.Pairwise fun a b=>¬ cmpM b a<0):l=mvL n:=by
 refine List.Perm.eq_of_pairwise (le:=fun a b=>¬ cmpM b a<0) (fun a b _ _ g1 g2=>?_) hs ((ascM_pw (mvL_cmp n)).imp fun {a b} h=>?_) (hp.trans (allL_perm h1 h4))
 ·have:=cmpM_neg a b
  exact cmpM_zero (by omega)
 ·have:=cmpM_neg a b
  omega
end Go.Proofs.YthadgaboakipoaaGreatDoor
namespace Go.Proofs.YthadgaboakipoaaGreatDoor
open Go.RowKit Go.Shelf Go.Proofs

def lstV (c:Costs) (l:List TS):Int:=rsV (colZ c l) (lens l) (mvL l.length) (List.replicate l.length 0)
def alnW (c:Costs) (l:List TS):List (List Int):=alV19 (colZ c l) (lens l) (mvL l.length) (List.replicate l.length 0)
theorem colZ_nn {c:Costs} (hc:costE c=0) {l:List TS} (h4:l.length≤4) (x:List Int):0≤colZ c l x:=(colZ_bd hc (by omega) x).1
theorem ColsOk.lt {ls:List Nat} {cols:List (List Int)} (h:ColsOk ls cols) {x:List Int} (hx:x∈cols) {s:Nat} (hs:s<ls.length):x.getD s (-1)<(ls.getD s 0:Int):=by
 have hl:=h.len x hx
 have:=(h.entry hx (s:=s) (n:=ls[s]) (z:=x[s]'(by omega)) (List.getElem?_eq_getElem hs) (List.getElem?_eq_getElem (by omega))).2
 rw [List.getD_eq_getElem?_getD,List.getElem?_eq_getElem (by omega),List.getD_eq_getElem?_getD (l:=ls),List.getElem?_eq_getElem hs]
 exact this
structure BackS (l l':List TS):Prop where
 len:l'.length=l.length
 toks:∀ s,s<l.length→(tsA l' s).l=(tsA l s).l.reverse
 n:lens l'=lens l
 ok:∀ s,s<l.length→(lens l).getD s 0=(tsA l s).l.length
theorem BackS.swap {l l':List TS} (h:BackS l l'):BackS l' l:=by
 refine ⟨h.len.symm,fun s hs=>?_,h.n.symm,fun s hs=>?_⟩
 ·rw [h.toks s (by rw [← h.len];exact hs),List.reverse_reverse]
 ·rw [h.n,h.toks s (by rw [← h.len];exact hs),List.length_reverse,h.ok s (by rw [← h.len];exact hs)]
end Go.Proofs.YthadgaboakipoaaGreatDoor
namespace Go.Proofs.YthadgaboakipoaaGreatDoor
open Go.RowKit Go.Shelf Go.Proofs
set_option maxRecDepth 100000
set_option maxHeartbeats 1000000

theorem srcs19a_spec (t:TS) (w:World):Spec Tryz.prog 172 [t.val] w (fun v R=>v = .bool (decide ((1024:Int)<t.n))∧R=[]):=by
 refine spec_of sg Tryz.func172 rfl rfl rfl ?_
 repeat' (first|refine d1 ?_|refine dd ?_|(show ∀ _:Nat,T _ _ _ _ _;intro _)|(show T _ (.code .ret::_) _ _ _;refine T_retV [] rfl (Hle.refl _) ⟨rfl,rfl⟩))
theorem srcs19_spec (A:Option Addr) (n ca:Nat) (l:List TS) (w:World) (hgp:Grp w A n l):Spec Tryz.prog 118 [.slice A n ca] w (fun v R=>v = .int .i64 (if n=0 then 5 else 0)∧R=[]):=by
 refine spec_of sg Tryz.func118 rfl rfl rfl ?_
 have hb:=hgp.hb
 have hno:(l.any fun t=>decide ((1024:Int)<t.n))=false:=by
  rw [List.any_eq_false]
  intro t ht
  have:=hgp.nb t ht
  simp;omega
 repeat' (first|refine d1 ?_|refine dd ?_|(show ∀ _:Nat,T _ _ _ _ _;intro _))
 refine T_if rfl (fun h=>?_) (fun h=>?_)
 ·simp only [decide_eq_true_eq] at h
  repeat' (first|refine d1 ?_|refine dd ?_|(show ∀ _:Nat,T _ _ _ _ _;intro _)|(show T _ (.code .ret::_) _ _ _;refine T_retV [] rfl (Hle.refl _) ⟨congrArg (Value.int .i64) (if_pos (by omega)).symm,rfl⟩))
 simp only [decide_eq_false_iff_not] at h
 repeat' (first|refine d1 ?_|refine dd ?_|(show T _ (.ops _ (_::_)::_) _ _ _;first|refine T_call rfl rfl rfl rfl rfl (fun w hw=>containsFuncS_spec A n ca l _ [] [] (fun t=>decide ((1024:Int)<t.n)) w (rdSrc hgp.hs w hw) hgp.hn (by omega) (fun x hx w' hb'=>srcs19a_spec x w')) ?_|refine T_callC rfl rfl rfl rfl rfl rfl rfl (fun hg w hw=>containsFuncS_spec A n ca l _ [] [] (fun t=>decide ((1024:Int)<t.n)) w (rdSrc hgp.hs w hw) hgp.hn (by omega) (fun x hx w' hb'=>srcs19a_spec x w')) ?_)|(show T _ (.run _ _ (_::_) _ _::_) _ _ _;first|refine rc rfl rfl rfl rfl rfl rfl rfl (fun w hw=>containsFuncS_spec A n ca l _ [] [] (fun t=>decide ((1024:Int)<t.n)) w (rdSrc hgp.hs w hw) hgp.hn (by omega) (fun x hx w' hb'=>srcs19a_spec x w')) ?_|refine rcG rfl rfl rfl rfl rfl rfl rfl rfl rfl (fun hg w hw=>containsFuncS_spec A n ca l _ [] [] (fun t=>decide ((1024:Int)<t.n)) w (rdSrc hgp.hs w hw) hgp.hn (by omega) (fun x hx w' hb'=>srcs19a_spec x w')) ?_)|(show ∀ _:Nat,T _ _ _ _ _;intro _))
 refine T_if rfl (fun h1=>?_) (fun h1=>?_)
 ·exfalso
  rw [hno] at h1
  simp at h1
  omega
 ·repeat' (first|refine d1 ?_|refine dd ?_|(show ∀ _:Nat,T _ _ _ _ _;intro _)|(show T _ (.code .ret::_) _ _ _;refine T_retV [] rfl (Hle.refl _) ⟨congrArg (Value.int .i64) (if_neg (by omega)).symm,rfl⟩))
theorem usable1_spec (t:Tok) (ht:t.small) (w:World) (hst:Std w):Spec Tryz.prog 173 [t.val] w (fun v A=>v = .bool (!decide (tokE t=0))∧A=[]):=by
 refine spec_of sg Tryz.func173 rfl rfl rfl ?_
 repeat' (first|(show T _ (.ops _ (⟨_, .box _ _,_,_,_,_⟩::_)::_) _ _ _;refine T_op (OpT.box (cs:=t.cells) rfl rfl rfl rfl rfl rfl rfl (fun _=>?_)))|refine d1 ?_|refine dd ?_|(show T _ (.ops _ (_::_)::_) _ _ _;first|refine T_call rfl rfl rfl rfl rfl (fun w hw=>tokPrg_spec t ht w (hst.cls hw)) ?_|refine T_callC rfl rfl rfl rfl rfl rfl rfl (fun hg w hw=>tokPrg_spec t ht w (hst.cls hw)) ?_)|(show T _ (.run _ _ (_::_) _ _::_) _ _ _;first|refine rc rfl rfl rfl rfl rfl rfl rfl (fun w hw=>tokPrg_spec t ht w (hst.cls hw)) ?_|refine rcG rfl rfl rfl rfl rfl rfl rfl rfl rfl (fun hg w hw=>tokPrg_spec t ht w (hst.cls hw)) ?_)|(show ∀ _:Nat,T _ _ _ _ _;intro _)|(show T _ (.code .ret::_) _ _ _;refine T_retV [] rfl (Hle.none _) ⟨rfl,rfl⟩))
theorem usable2_spec (A:Option Addr) (n c:Nat) (l:List Tok) (p:Nat) (w:World) (hst:Std w) (hs:Src w 6 A n (l.flatMap Tok.cells)) (hn:l.length=n) (hb:n≤9223372036854775807) (hsm:∀ x∈l,x.small) (hp:RdC w p 0 [.func (.func 173) #[] #[]]) :
  Spec Tryz.prog 174 [.slice A n c, .pointer (some ⟨p,0,none⟩)] w (fun v R=>v = .bool (badL l)∧R=[]):=by
 refine spec_of sg Tryz.func174 rfl rfl rfl ?_
 repeat' (first|refine d1 ?_|refine dd ?_|(show T _ (.ops _ (_::_)::_) _ _ _;first|refine T_call rfl rfl rfl rfl rfl (fun w hw=>containsFuncT_spec A n c l _ [] [] (fun t => !decide (tokE t=0)) w (rdSrc hs w hw) hn hb (fun x hx w' hb'=>usable1_spec x (hsm x hx) w' (hst.below (hw.below.trans (hb'.mono hw.below.size))))) ?_|refine T_callC rfl rfl rfl rfl rfl rfl rfl (fun hg w hw=>containsFuncT_spec A n c l _ [] [] (fun t => !decide (tokE t=0)) w (rdSrc hs w hw) hn hb (fun x hx w' hb'=>usable1_spec x (hsm x hx) w' (hst.below (hw.below.trans (hb'.mono hw.below.size))))) ?_)|(show T _ (.run _ _ (_::_) _ _::_) _ _ _;first|refine rc rfl rfl rfl rfl rfl rfl rfl (fun w hw=>containsFuncT_spec A n c l _ [] [] (fun t => !decide (tokE t=0)) w (rdSrc hs w hw) hn hb (fun x hx w' hb'=>usable1_spec x (hsm x hx) w' (hst.below (hw.below.trans (hb'.mono hw.below.size))))) ?_|refine rcG rfl rfl rfl rfl rfl rfl rfl rfl rfl (fun hg w hw=>containsFuncT_spec A n c l _ [] [] (fun t => !decide (tokE t=0)) w (rdSrc hs w hw) hn hb (fun x hx w' hb'=>usable1_spec x (hsm x hx) w' (hst.below (hw.below.trans (hb'.mono hw.below.size))))) ?_)|(show ∀ _:Nat,T _ _ _ _ _;intro _)|(show T _ (.code .ret::_) _ _ _;refine T_retV [] rfl (Hle.none _) ⟨rfl,rfl⟩))
def usV (c:Costs) (l:List TS):Int:=if l.length=0 then 5 else ck21 c l
theorem usable19_spec (c:Costs) (A:Option Addr) (n ca:Nat) (l:List TS) (w:World) (hgp:Grp w A n l):Spec Tryz.prog 122 [c.val, .slice A n ca] w (fun v R=>v = .int .i64 (usV c l)∧R=[]):=by
 refine spec_of sg Tryz.func122 rfl rfl rfl ?_
 have hn:=hgp.hn
 have hb:=hgp.hb
 repeat' (first|(show T _ (.ops _ (⟨_, .box _ _,_,_,_,_⟩::_)::_) _ _ _;refine T_op (OpT.box (cs:=c.cells) rfl rfl rfl rfl rfl rfl rfl (fun _=>?_)))|refine d1 ?_|refine dd ?_|(show T _ (.ops _ (_::_)::_) _ _ _;first|refine T_call rfl rfl rfl rfl rfl (fun w hw=>srcs19_spec A n ca l w (hgp.cls hw)) ?_|refine T_callC rfl rfl rfl rfl rfl rfl rfl (fun hg w hw=>srcs19_spec A n ca l w (hgp.cls hw)) ?_)|(show T _ (.run _ _ (_::_) _ _::_) _ _ _;first|refine rc rfl rfl rfl rfl rfl rfl rfl (fun w hw=>srcs19_spec A n ca l w (hgp.cls hw)) ?_|refine rcG rfl rfl rfl rfl rfl rfl rfl rfl rfl (fun hg w hw=>srcs19_spec A n ca l w (hgp.cls hw)) ?_)|(show ∀ _:Nat,T _ _ _ _ _;intro _))
 refine T_if rfl (fun h=>?_) (fun h=>?_)
 ·simp only [Bool.not_eq_true',decide_eq_false_iff_not] at h
  have h0:n=0:=by
   rcases Nat.eq_zero_or_pos n with h9|h9
   ·exact h9
   ·exact absurd (if_neg (by omega)) h
  rw [if_pos h0]
  repeat' (first|refine d1 ?_|refine dd ?_|(show ∀ _:Nat,T _ _ _ _ _;intro _)|(show T _ (.code .ret::_) _ _ _;refine T_retV [] rfl (Hle.none _) ⟨congrArg (Value.int .i64) (if_pos (by omega)).symm,rfl⟩))
 simp only [Bool.not_eq_false',decide_eq_true_eq] at h
 have h0:n≠0:=fun h9=>by rw [if_pos h9] at h;omega
 clear h
 repeat' (first|refine d1 ?_|refine dd ?_|(show T _ (.ops _ (_::_)::_) _ _ _;first|refine T_call rfl rfl rfl rfl rfl (fun w hw=>costPrg_spec c w) ?_|refine T_callC rfl rfl rfl rfl rfl rfl rfl (fun hg w hw=>costPrg_spec c w) ?_|refine T_call rfl rfl rfl rfl rfl (fun w hw=>containsFuncS_spec A n ca l _ [] [_] (fun t=>badL t.l) w (rdSrc hgp.hs w hw) hgp.hn (by omega) (fun x hx w' hb'=>usable2_spec x.A x.n x.cap x.l _ w' (hgp.hst.below (hw.below.trans (hb'.mono hw.below.size))) (src_below (hgp.ok.src x hx) (hw.below.trans (hb'.mono hw.below.size))) (hgp.ok.len x hx) (hgp.ok.bd x hx) (hgp.sm x hx) ((rdOwn1 (u := .func (.func 173) #[] #[]) rfl w hw).below hb'))) ?_|refine T_callC rfl rfl rfl rfl rfl rfl rfl (fun hg w hw=>containsFuncS_spec A n ca l _ [] [_] (fun t=>badL t.l) w (rdSrc hgp.hs w hw) hgp.hn (by omega) (fun x hx w' hb'=>usable2_spec x.A x.n x.cap x.l _ w' (hgp.hst.below (hw.below.trans (hb'.mono hw.below.size))) (src_below (hgp.ok.src x hx) (hw.below.trans (hb'.mono hw.below.size))) (hgp.ok.len x hx) (hgp.ok.bd x hx) (hgp.sm x hx) ((rdOwn1 (u := .func (.func 173) #[] #[]) rfl w hw).below hb'))) ?_)|(show T _ (.run _ _ (_::_) _ _::_) _ _ _;first|refine rc rfl rfl rfl rfl rfl rfl rfl (fun w hw=>costPrg_spec c w) ?_|refine rcG rfl rfl rfl rfl rfl rfl rfl rfl rfl (fun hg w hw=>costPrg_spec c w) ?_|refine rc rfl rfl rfl rfl rfl rfl rfl (fun w hw=>containsFuncS_spec A n ca l _ [] [_] (fun t=>badL t.l) w (rdSrc hgp.hs w hw) hgp.hn (by omega) (fun x hx w' hb'=>usable2_spec x.A x.n x.cap x.l _ w' (hgp.hst.below (hw.below.trans (hb'.mono hw.below.size))) (src_below (hgp.ok.src x hx) (hw.below.trans (hb'.mono hw.below.size))) (hgp.ok.len x hx) (hgp.ok.bd x hx) (hgp.sm x hx) ((rdOwn1 (u := .func (.func 173) #[] #[]) rfl w hw).below hb'))) ?_|refine rcG rfl rfl rfl rfl rfl rfl rfl rfl rfl (fun hg w hw=>containsFuncS_spec A n ca l _ [] [_] (fun t=>badL t.l) w (rdSrc hgp.hs w hw) hgp.hn (by omega) (fun x hx w' hb'=>usable2_spec x.A x.n x.cap x.l _ w' (hgp.hst.below (hw.below.trans (hb'.mono hw.below.size))) (src_below (hgp.ok.src x hx) (hw.below.trans (hb'.mono hw.below.size))) (hgp.ok.len x hx) (hgp.ok.bd x hx) (hgp.sm x hx) ((rdOwn1 (u := .func (.func 173) #[] #[]) rfl w hw).below hb'))) ?_)|(show ∀ _:Nat,T _ _ _ _ _;intro _))
 refine T_if rfl (fun h1=>?_) (fun h1=>?_)
 ·repeat' (first|refine d1 ?_|refine dd ?_|(show ∀ _:Nat,T _ _ _ _ _;intro _)|(show T _ (.code .ret::_) _ _ _;refine T_retV [] rfl (Hle.none _) ⟨congrArg (Value.int .i64) ?_,rfl⟩))
  unfold usV ck21
  rw [if_neg (by omega),if_neg]
  rintro⟨e1,e2⟩
  unfold badS at e2
  rw [e2] at h1
  simp [e1] at h1
 ·repeat' (first|refine d1 ?_|refine dd ?_|(show ∀ _:Nat,T _ _ _ _ _;intro _)|(show T _ (.code .ret::_) _ _ _;refine T_retV [] rfl (Hle.none _) ⟨congrArg (Value.int .i64) ?_,rfl⟩))
  unfold usV ck21
  rw [if_neg (by omega),if_pos]
  unfold badS
  simpa using h1
noncomputable def okC (l:List TS) (cols:List (List Int)):Bool:=@decide (ColsOk (lens l) cols) (Classical.propDecidable _)
theorem okC_true {l:List TS} {cols:List (List Int)} (h:ColsOk (lens l) cols):okC l cols=true:=by unfold okC;exact @decide_eq_true _ (Classical.propDecidable _) h
theorem okC_false {l:List TS} {cols:List (List Int)} (h:¬ ColsOk (lens l) cols):okC l cols=false:=by unfold okC;exact @decide_eq_false _ (Classical.propDecidable _) h
theorem aligned19_spec (A:Option Addr) (n ca:Nat) (l:List TS) (x:Value) (cols:List (List Int)) (w:World) (hg:Grp w A n l) (hx:Rd (wr w) [x] [rowsD cols]) :
  Spec Tryz.prog 119 [.slice A n ca,x] w (fun v R=>v = .bool (okC l cols)∧R=[]):=by
 obtain⟨Ak,ck,csk,rfl,hck1,hck2,hcs,hrows⟩:=hx.tabS
 have hb:=hg.hb
 have hn:=hg.hn
 refine spec_of sg Tryz.func119 rfl rfl rfl ?_
 have hbad:∀ (H:¬ ColsOk (lens l) cols),okC l cols=false:=fun H=>okC_false H
 repeat' (first|refine d1 ?_|refine dd ?_|(show T _ (.ops _ (_::_)::_) _ _ _;refine T_op (OpT.make rfl rfl rfl rfl rfl rfl rfl rfl rfl (by dsimp only;omega) (fun b1=>?_)))|(show ∀ _:Nat,T _ _ _ _ _;intro _))
 have hz:List.replicate n (Value.int .i64 0)=valV (fun s=>(atC cols 0 0 s:Nat)) n:=by
  rw [valV_replicate];exact valV_ext fun q _=>by rw [atC_zero];rfl
 refine T_loopX (fun i:Nat=>[(17, .int .i64 i)]) (fun i=>[blk b1 (valV (fun s=>(atC cols i 0 s:Nat)) n) 3]) (fun i=>i≤cols.length∧PreOk (lens l) cols i 0∧(∀ y∈cols.take i,y.length=n)∧∀ y∈cols.take i,∃ z∈y,z ≠ -1) (fun i=>cols.length - i) 0 ⟨Nat.zero_le _,PreOk.start _ _,fun y h=>by simp at h,fun y h=>by simp at h⟩ ?_ (hG:=by rw [← hz];exact Hle.refl _)
 rintro i ⟨hi,hpre,hlen,hsome⟩
 repeat' (first|refine d1 ?_|refine dd ?_|(show ∀ _:Nat,T _ _ _ _ _;intro _))
 refine T_if rfl (fun h1=>?_) (fun h1=>?_)
 ·simp only [decide_eq_true_eq] at h1
  have hin:i<cols.length:=by omega
  obtain⟨b,o,rfl⟩:=hcs.base (by omega)
  obtain⟨r,hr⟩:∃ r,cols[i]?=some r:=⟨_,List.getElem?_eq_getElem hin⟩
  have hrm:=List.mem_of_getElem? hr
  obtain⟨Au,capu,hu,hcapu,hcapu2,hA⟩:=hrows.tabRow hr
  have hr0:=rowHd hcs hin hu
  have hsr:=rowSrc hA
  repeat' (first|refine d1 ?_|refine dd ?_|(show ∀ _:Nat,T _ _ _ _ _;intro _))
  refine T_if rfl (fun h2=>?_) (fun h2=>?_)
  ·simp only [Bool.not_eq_true',decide_eq_false_iff_not] at h2
   repeat' (first|refine d1 ?_|refine dd ?_|(show ∀ _:Nat,T _ _ _ _ _;intro _)|(show T _ (.code .ret::_) _ _ _;refine T_retV [] rfl (Hle.none _) ⟨by rw [hbad fun hc=>h2 (by have:=hc.len r hrm;rw [lens_len] at this;omega)];rfl,rfl⟩))
  simp only [Bool.not_eq_false',decide_eq_true_eq] at h2
  have hrl:r.length=n:=by omega
  repeat' (first|refine d1 ?_|refine dd ?_|(show ∀ _:Nat,T _ _ _ _ _;intro _))
  refine T_loopX (fun k:Nat=>[(28, .int .i64 k),(8, .bool ((r.take k).any fun z=>decide (z ≠ -1)))]) (fun k=>[blk b1 (valV (fun s=>(atC cols i k s:Nat)) n) 3]) (fun k=>k≤n∧PreOk (lens l) cols i k) (fun k=>n - k) 0 ⟨Nat.zero_le _,hpre⟩ ?_
  rintro k ⟨hk,hp⟩
  repeat' (first|refine d1 ?_|refine dd ?_|(show ∀ _:Nat,T _ _ _ _ _;intro _))
  refine T_if rfl (fun h3=>?_) (fun h3=>?_)
  ·simp only [decide_eq_true_eq] at h3
   have hkn:k<n:=by omega
   obtain⟨bu,ou,rfl⟩:=hsr.base (by omega)
   obtain⟨z,hzk⟩:∃ z,r[k]?=some z:=⟨_,List.getElem?_eq_getElem (by omega)⟩
   have hr1:=src_int hsr (by omega) hzk
   have htk:=take_snoc _ _ _ hzk
   repeat' (first|refine d1 ?_|refine dd ?_|(show ∀ _:Nat,T _ _ _ _ _;intro _))
   refine T_if rfl (fun h4=>?_) (fun h4=>?_)
   ·simp only [decide_eq_true_eq] at h4
    subst h4
    repeat' (first|refine d1 ?_|refine dd ?_|(show ∀ _:Nat,T _ _ _ _ _;intro _))
    refine T_backX (k+1) ⟨hkn,hp.gap hr hzk⟩ (by omega) (hE:=⟨rfl,by rw [show ((r.take (k+1)).any fun z=>decide (z ≠ -1))=(r.take k).any fun z=>decide (z ≠ -1) by rw [htk,List.any_append];simp];rfl,trivial⟩) (hG:=?_)
    have e:valV (fun s=>(atC cols i (k+1) s:Nat)) n=valV (fun s=>(atC cols i k s:Nat)) n:=valV_ext fun q _=>by
     by_cases e:q=k
     ·rw [e,atC_gap hr hzk]
     ·rw [atC_other e]
    rw [e]
    exact Hle.refl _
   simp only [decide_eq_false_iff_not] at h4
   obtain⟨bs,os,rfl⟩:=hg.hs.base (by omega)
   obtain⟨t,ht,htm,hrt⟩:=hg.get hkn
   have htb:=hg.nb t htm
   repeat' (first|refine d1 ?_|refine dd ?_|(show T _ (.ops _ (_::_)::_) _ _ _;first|refine T_val rfl (Val.load rfl (fun hg=>rdOwn1 (b:=b1) (u := .int .i64 (atC cols i k k:Nat)) (by rw [show 0+(k:Int).toNat * 1=k by omega];exact valV_get hkn))) rfl rfl rfl ?_|refine T_valC rfl (Val.load rfl (fun hg=>rdOwn1 (b:=b1) (u := .int .i64 (atC cols i k k:Nat)) (by rw [show 0+(k:Int).toNat * 1=k by omega];exact valV_get hkn))) rfl rfl rfl rfl rfl ?_)|(show T _ (.run _ _ (_::_) _ _::_) _ _ _;first|refine rv rfl rfl rfl (Val.load rfl (fun hg=>rdOwn1 (b:=b1) (u := .int .i64 (atC cols i k k:Nat)) (by rw [show 0+(k:Int).toNat * 1=k by omega];exact valV_get hkn))) rfl rfl rfl ?_|refine rg rfl rfl rfl (Val.load rfl (fun hg=>rdOwn1 (b:=b1) (u := .int .i64 (atC cols i k k:Nat)) (by rw [show 0+(k:Int).toNat * 1=k by omega];exact valV_get hkn))) rfl rfl rfl rfl rfl ?_)|(show ∀ _:Nat,T _ _ _ _ _;intro _))
   refine T_if rfl (fun h5=>?_) (fun h5=>?_)
   ·simp only [Bool.or_eq_true,Bool.not_eq_true',decide_eq_false_iff_not,decide_eq_true_eq] at h5
    repeat' (first|refine d1 ?_|refine dd ?_|(show ∀ _:Nat,T _ _ _ _ _;intro _)|(show T _ (.code .ret::_) _ _ _;refine T_retV [] rfl (Hle.none _) ⟨by rw [hbad fun hc=>by have:=hp.bad hr hzk h4 (lens_get ht) hc;omega];rfl,rfl⟩))
   simp only [Bool.or_eq_false_iff,Bool.not_eq_false',decide_eq_true_eq,decide_eq_false_iff_not] at h5
   repeat' (first|refine d1 ?_|refine dd ?_|(show T _ (.ops _ (_::_)::_) _ _ _;first|refine T_val rfl (Val.load rfl (fun hg=>rdOwn1 (b:=b1) (u := .int .i64 (atC cols i k k:Nat)) (by rw [show 0+(k:Int).toNat * 1=k by omega];exact valV_get hkn))) rfl rfl rfl ?_|refine T_valC rfl (Val.load rfl (fun hg=>rdOwn1 (b:=b1) (u := .int .i64 (atC cols i k k:Nat)) (by rw [show 0+(k:Int).toNat * 1=k by omega];exact valV_get hkn))) rfl rfl rfl rfl rfl ?_|refine T_op (OpT.store rfl rfl rfl rfl (by rw [valV_length];omega) ?_))|(show T _ (.run _ _ (_::_) _ _::_) _ _ _;first|refine rv rfl rfl rfl (Val.load rfl (fun hg=>rdOwn1 (b:=b1) (u := .int .i64 (atC cols i k k:Nat)) (by rw [show 0+(k:Int).toNat * 1=k by omega];exact valV_get hkn))) rfl rfl rfl ?_|refine rg rfl rfl rfl (Val.load rfl (fun hg=>rdOwn1 (b:=b1) (u := .int .i64 (atC cols i k k:Nat)) (by rw [show 0+(k:Int).toNat * 1=k by omega];exact valV_get hkn))) rfl rfl rfl rfl rfl ?_)|(show ∀ _:Nat,T _ _ _ _ _;intro _))
   refine T_backX (k+1) ⟨hkn,hp.tok hr hzk h4 h5.1 (fun m hm=>by rw [lens_get ht] at hm;cases hm;omega)⟩ (by omega) (hE:=⟨rfl,by rw [show ((r.take (k+1)).any fun z=>decide (z ≠ -1))=true by rw [htk,List.any_append];simp [h4]];rfl,trivial⟩) (hG:=?_)
   rw [show 0+(k:Int).toNat * 1=k by omega,valV_put]
   have e:valV (fun s=>(atC cols i (k+1) s:Nat)) n=valV (fun q=>if q=k then (atC cols i k k:Int)+1 else (atC cols i k q:Nat)) n:=valV_ext fun q _=>by
    by_cases e:q=k
    ·subst e;rw [if_pos rfl,atC_tok hr hzk h4];rfl
    ·rw [if_neg e,atC_other e]
   rw [e]
   exact Hle.refl _
  ·simp only [decide_eq_false_iff_not] at h3
   obtain rfl:k=n:=by omega
   rw [List.take_of_length_le (by omega)]
   repeat' (first|refine d1 ?_|refine dd ?_|(show ∀ _:Nat,T _ _ _ _ _;intro _))
   refine T_if rfl (fun h4=>?_) (fun h4=>?_)
   ·simp only [Bool.not_eq_true'] at h4
    repeat' (first|refine d1 ?_|refine dd ?_|(show ∀ _:Nat,T _ _ _ _ _;intro _)|(show T _ (.code .ret::_) _ _ _;refine T_retV [] rfl (Hle.none _) ⟨by rw [hbad fun hc=>by obtain⟨z,hz1,hz2⟩:=hc.some_ r hrm;rw [List.any_eq_false] at h4;exact h4 z hz1 (by simpa using hz2)];rfl,rfl⟩))
   simp only [Bool.not_eq_false'] at h4
   rw [List.any_eq_true] at h4
   obtain⟨z,hz1,hz2⟩:=h4
   repeat' (first|refine d1 ?_|refine dd ?_|(show ∀ _:Nat,T _ _ _ _ _;intro _))
   have htk:=take_snoc _ _ _ hr
   refine T_backX (i+1) ⟨hin,PreOk.row (by rw [lens_len,hn];exact hp),fun y hy=>?_,fun y hy=>?_⟩ (by omega) (hG:=?_)
   ·rw [htk,List.mem_append,List.mem_singleton] at hy
    rcases hy with hy|rfl
    ·exact hlen y hy
    ·exact hrl
   ·rw [htk,List.mem_append,List.mem_singleton] at hy
    rcases hy with hy|rfl
    ·exact hsome y hy
    ·exact⟨z,hz1,by simpa using hz2⟩
   ·have e:valV (fun s=>(atC cols i k s:Nat)) k=valV (fun s=>(atC cols (i+1) 0 s:Nat)) k:=valV_ext fun q hq=>by rw [atC_row hq]
    rw [e]
    exact Hle.refl _
 simp only [decide_eq_false_iff_not] at h1
 obtain rfl:i=cols.length:=by omega
 rw [List.take_of_length_le (Nat.le_refl _)] at hlen hsome
 repeat' (first|refine d1 ?_|refine dd ?_|(show ∀ _:Nat,T _ _ _ _ _;intro _))
 refine T_loopX (fun k:Nat=>[(62, .int .i64 k)]) (fun _=>[blk b1 (valV (fun s=>(atC cols cols.length 0 s:Nat)) n) 3]) (fun k=>k≤n∧∀ s m,s<k→(lens l)[s]?=some m→atC cols cols.length 0 s=m) (fun k=>n - k) 0 ⟨Nat.zero_le _,fun s m h=>by omega⟩ ?_
 rintro k ⟨hk,hall⟩
 repeat' (first|refine d1 ?_|refine dd ?_|(show ∀ _:Nat,T _ _ _ _ _;intro _))
 refine T_if rfl (fun h3=>?_) (fun h3=>?_)
 ·simp only [decide_eq_true_eq] at h3
  have hkn:k<n:=by omega
  obtain⟨bs,os,rfl⟩:=hg.hs.base (by omega)
  obtain⟨t,ht,htm,hrt⟩:=hg.get hkn
  repeat' (first|refine d1 ?_|refine dd ?_|(show T _ (.ops _ (_::_)::_) _ _ _;first|refine T_val rfl (Val.load rfl (fun hg=>rdOwn1 (b:=b1) (u := .int .i64 (atC cols cols.length 0 k:Nat)) (by rw [show 0+(k:Int).toNat * 1=k by omega];exact valV_get hkn))) rfl rfl rfl ?_|refine T_valC rfl (Val.load rfl (fun hg=>rdOwn1 (b:=b1) (u := .int .i64 (atC cols cols.length 0 k:Nat)) (by rw [show 0+(k:Int).toNat * 1=k by omega];exact valV_get hkn))) rfl rfl rfl rfl rfl ?_)|(show T _ (.run _ _ (_::_) _ _::_) _ _ _;first|refine rv rfl rfl rfl (Val.load rfl (fun hg=>rdOwn1 (b:=b1) (u := .int .i64 (atC cols cols.length 0 k:Nat)) (by rw [show 0+(k:Int).toNat * 1=k by omega];exact valV_get hkn))) rfl rfl rfl ?_|refine rg rfl rfl rfl (Val.load rfl (fun hg=>rdOwn1 (b:=b1) (u := .int .i64 (atC cols cols.length 0 k:Nat)) (by rw [show 0+(k:Int).toNat * 1=k by omega];exact valV_get hkn))) rfl rfl rfl rfl rfl ?_)|(show ∀ _:Nat,T _ _ _ _ _;intro _))
  refine T_if rfl (fun h4=>?_) (fun h4=>?_)
  ·simp only [Bool.not_eq_true',decide_eq_false_iff_not] at h4
   repeat' (first|refine d1 ?_|refine dd ?_|(show ∀ _:Nat,T _ _ _ _ _;intro _)|(show T _ (.code .ret::_) _ _ _;refine T_retV [] rfl (Hle.none _) ⟨by rw [hbad fun hc=>h4 (by have h5:=hc.src k t.n (lens_get ht);have h6:=(hpre k t.n (lens_get ht)).1;rw [if_neg (by omega),List.take_of_length_le (Nat.le_refl _),h5] at h6;have:=congrArg List.length h6;rw [upto_len,upto_len] at this;omega)];rfl,rfl⟩))
  simp only [Bool.not_eq_false',decide_eq_true_eq] at h4
  repeat' (first|refine d1 ?_|refine dd ?_|(show ∀ _:Nat,T _ _ _ _ _;intro _))
  refine T_backX (k+1) ⟨hkn,fun s m hs hm=>?_⟩ (by omega)
  rcases Nat.lt_or_ge s k with h5|h5
  ·exact hall s m h5 hm
  ·rw [show s=k by omega] at hm ⊢
   rw [lens_get ht] at hm
   cases hm
   omega
 ·simp only [decide_eq_false_iff_not] at h3
  have hok:ColsOk (lens l) cols:=hpre.all (fun y hy=>by rw [lens_len,hn];exact hlen y hy) hsome fun s m hm=>hall s m (by have:=(List.getElem?_eq_some_iff.1 hm).1;rw [lens_len] at this;omega) hm
  repeat' (first|refine d1 ?_|refine dd ?_|(show ∀ _:Nat,T _ _ _ _ _;intro _)|(show T _ (.code .ret::_) _ _ _;refine T_retV [] rfl (Hle.none _) ⟨by rw [okC_true hok];rfl,rfl⟩))
theorem chkC_okC {l:List TS} {cols:List (List Int)} (h0:l.length≠0):chkC l cols=if okC l cols=true then 0 else 19:=by
 by_cases h:ColsOk (lens l) cols
 ·rw [chkC_ok h0 h,okC_true h];rfl
 ·rw [chkC_bad h0 h,okC_false h];rfl
theorem check19_spec (A:Option Addr) (n ca:Nat) (l:List TS) (x:Value) (cols:List (List Int)) (w:World) (hg:Grp w A n l) (hx:Rd (wr w) [x] [rowsD cols]) :
  Spec Tryz.prog 69 [.slice A n ca,x] w (fun v R=>v = .int .i64 (chkC l cols)∧R=[]):=by
 have hn:=hg.hn
 refine spec_of sg Tryz.func69 rfl rfl rfl ?_
 repeat' (first|refine d1 ?_|refine dd ?_|(show T _ (.ops _ (_::_)::_) _ _ _;first|refine T_call rfl rfl rfl rfl rfl (fun w hw=>srcs19_spec A n ca l w (hg.cls hw)) ?_|refine T_callC rfl rfl rfl rfl rfl rfl rfl (fun hg w hw=>srcs19_spec A n ca l w (hg.cls hw)) ?_)|(show T _ (.run _ _ (_::_) _ _::_) _ _ _;first|refine rc rfl rfl rfl rfl rfl rfl rfl (fun w hw=>srcs19_spec A n ca l w (hg.cls hw)) ?_|refine rcG rfl rfl rfl rfl rfl rfl rfl rfl rfl (fun hg w hw=>srcs19_spec A n ca l w (hg.cls hw)) ?_)|(show ∀ _:Nat,T _ _ _ _ _;intro _))
 refine T_if rfl (fun h=>?_) (fun h=>?_)
 ·simp only [Bool.not_eq_true',decide_eq_false_iff_not] at h
  have h0:n=0:=by
   rcases Nat.eq_zero_or_pos n with h9|h9
   ·exact h9
   ·exact absurd (if_neg (by omega)) h
  rw [if_pos h0]
  repeat' (first|refine d1 ?_|refine dd ?_|(show ∀ _:Nat,T _ _ _ _ _;intro _)|(show T _ (.code .ret::_) _ _ _;refine T_retV [] rfl (Hle.refl _) ⟨by rw [chkC_zero (by omega)];rfl,rfl⟩))
 simp only [Bool.not_eq_false',decide_eq_true_eq] at h
 have h0:n≠0:=fun h9=>by rw [if_pos h9] at h;omega
 clear h
 repeat' (first|refine d1 ?_|refine dd ?_|(show T _ (.ops _ (_::_)::_) _ _ _;first|refine T_call rfl rfl rfl rfl rfl (fun w hw=>aligned19_spec A n ca l x cols w (hg.cls hw) (hx.old hw)) ?_|refine T_callC rfl rfl rfl rfl rfl rfl rfl (fun hg w hw=>aligned19_spec A n ca l x cols w (hg.cls hw) (hx.old hw)) ?_)|(show T _ (.run _ _ (_::_) _ _::_) _ _ _;first|refine rc rfl rfl rfl rfl rfl rfl rfl (fun w hw=>aligned19_spec A n ca l x cols w (hg.cls hw) (hx.old hw)) ?_|refine rcG rfl rfl rfl rfl rfl rfl rfl rfl rfl (fun hg w hw=>aligned19_spec A n ca l x cols w (hg.cls hw) (hx.old hw)) ?_)|(show ∀ _:Nat,T _ _ _ _ _;intro _))
 refine T_if rfl (fun h1=>?_) (fun h1=>?_)
 ·repeat' (first|refine d1 ?_|refine dd ?_|(show ∀ _:Nat,T _ _ _ _ _;intro _)|(show T _ (.code .ret::_) _ _ _;refine T_retV [] rfl (Hle.refl _) ⟨by rw [chkC_okC (by omega),if_neg (by simpa using h1)];rfl,rfl⟩))
 ·repeat' (first|refine d1 ?_|refine dd ?_|(show ∀ _:Nat,T _ _ _ _ _;intro _)|(show T _ (.code .ret::_) _ _ _;refine T_retV [] rfl (Hle.refl _) ⟨by rw [chkC_okC (by omega),if_pos (by simpa using h1)];rfl,rfl⟩))
end Go.Proofs.YthadgaboakipoaaGreatDoor
namespace Go.Proofs.YthadgaboakipoaaGreatDoor
open Go.RowKit Go.Shelf Go.Proofs
set_option maxRecDepth 100000

end Go.Proofs.YthadgaboakipoaaGreatDoor
namespace Go.Proofs.YthadgaboakipoaaGreatDoor
open Go.RowKit Go.Shelf Go.Proofs
set_option maxRecDepth 100000
set_option maxHeartbeats 1000000

theorem nilC (H:List HA):Hle H (dat [.slice none 0 0] [rowsD []]::H):=hle_unit (B:=dat [.slice none 0 0] [rowsD []]) (.s none 0 0 1 [] rfl (Nat.le_refl _) (by omega) (fun h=>absurd h (by omega)) .nil .nil)
theorem Rd.intsAt {w:World} {A:Option Addr} {n cap:Nat} {p:List Int} (h:Rd (wr w) [.slice A n cap] [intsD p]):Src w 1 A n (p.map (Value.int .i64)):=by
 obtain⟨A',cap',e,-,hs⟩:=h.ints
 cases e
 exact hs
theorem stg_prod {c:Costs} {l:List TS} {ord:List Nat} (hlt:∀ k∈ord,k<l.length) (hln:∀ t∈l,t.l.length≤100) {j m:Nat} (hj:j≤ord.length) (hj2:j≤32) (hm:m≤100):(stgV c l ord j).length≤3200∧(((stgV c l ord j).length:Int)+1) * ((m:Int)+1)≤1048576:=by
 have h1:=stgV_len (c:=c) hlt hln j hj
 have h2:(stgV c l ord j).length≤3200:=by omega
 have h3:=Nat.mul_le_mul (show (stgV c l ord j).length+1≤3201 by omega) (show m+1≤101 by omega)
 have h4:(((stgV c l ord j).length:Int)+1) * ((m:Int)+1)=((((stgV c l ord j).length+1) * (m+1):Nat):Int):=by push_cast;rfl
 exact⟨h2,by rw [h4];omega⟩
theorem Grp.addW {w w':World} {A:Option Addr} {l:List TS} (hg:Grp w A l.length l) (hw:Below w.heap.size w w') (hst:Std w') {c:Costs} (hc:costE c=0) (hbs:badS l=false) (hq:∀ t∈l,t.n≤100) {ord:List Nat} (hlt:∀ k∈ord,k<l.length) {j:Nat} (hj:j<ord.length) (hj2:j≤32) {At:Option Addr} {K:Value}
  (hs:Src w' 1 At j ((takS l ord j).map TS.val)) (hx:Rd (wr w') [K] [rowsD (stgV c l ord j)]) {t:TS} (ht:t∈l):AddW w' c At j (takS l ord j) K (stgV c l ord j) t.A t.n t.l:=by
 have hln:∀ t∈l,t.l.length=t.n:=hg.ok.len
 have hg':Grp w' A l.length l:=⟨hst,src_below hg.hs hw,hg.hn,hg.hb,⟨fun t ht=>src_below (hg.ok.src t ht) hw,hg.ok.len,hg.ok.bd⟩,hg.nb,hg.sm⟩
 refine ⟨hg'.tak hlt (by omega) hj2 hs,hc,badS_tak hlt hbs j,hx,fun col hcol=>ColsOk.colOk (l:=takS l ord j) (stgV_ok hlt hln j (by omega)) hcol,hg'.ok.src t ht,hln t ht,hg.nb t ht,badS_ok hbs t ht,hg.sm t ht,?_⟩
 have:=(stg_prod (c:=c) hlt (fun t ht=>by rw [hln t ht];exact hq t ht) (j:=j) (m:=0) (by omega) hj2 (by omega)).1
 omega
end Go.Proofs.YthadgaboakipoaaGreatDoor
namespace Go.Proofs.YthadgaboakipoaaGreatDoor
open Go.RowKit Go.Shelf Go.Proofs
set_option maxRecDepth 100000
set_option maxHeartbeats 4000000

end Go.Proofs.YthadgaboakipoaaGreatDoor
namespace Go.Proofs.YthadgaboakipoaaGreatDoor
open Go.RowKit Go.Shelf Go.Proofs
set_option maxRecDepth 100000
set_option maxHeartbeats 1000000

end Go.Proofs.YthadgaboakipoaaGreatDoor
namespace Go.Proofs.YthadgaboakipoaaGreatDoor
open Go.RowKit Go.Shelf Go.Proofs
set_option maxRecDepth 100000
set_option maxHeartbeats 1000000

theorem rd_toksL {w:World}:∀ {m:List (List Tok)} {cs:List Value},Rd (wr w) cs (m.map toksD)→∃ l:List TS,cs=l.map TS.val∧TsOk w l∧l.map TS.l=m
 | [],cs,h=>by
  have:=h.length
  obtain rfl:cs=[]:=List.eq_nil_of_length_eq_zero this
  exact⟨[],rfl,⟨fun t ht=>(by cases ht),fun t ht=>(by cases ht),fun t ht=>(by cases ht)⟩,rfl⟩
 | t::m,[],h=>by have:=h.length;simp at this
 | t::m,x::cs,h=>by
  obtain⟨h1,h2⟩:=h.cons_inv
  obtain⟨A,cap,rfl,hb,hs,-,-⟩:=h1.toks
  obtain⟨l,rfl,hl,rfl⟩:=rd_toksL h2
  refine ⟨⟨A,t.length,cap,t⟩::l,rfl,⟨fun y hy=>?_,fun y hy=>?_,fun y hy=>?_⟩,rfl⟩
  ·rcases List.mem_cons.1 hy with rfl|hy
   ·exact hs
   ·exact hl.src y hy
  ·rcases List.mem_cons.1 hy with rfl|hy
   ·rfl
   ·exact hl.len y hy
  ·rcases List.mem_cons.1 hy with rfl|hy
   ·exact hb
   ·exact hl.bd y hy
theorem Rd.toksL {w:World} {x:Value} {m:List (List Tok)} (h:Rd (wr w) [x] [.s 1 (m.map toksD)]):∃ A cap,∃ l:List TS,x = .slice A l.length cap∧l.length≤9223372036854775807∧Src w 1 A l.length (l.map TS.val)∧TsOk w l∧l.map TS.l=m:=by
 obtain⟨A,n,cap,cs,rfl,h1,h2,h3,hs,hr⟩:=h.src
 obtain⟨l,rfl,hl,rfl⟩:=rd_toksL hr
 have hn:n=l.length:=by rw [List.length_map,List.length_map] at h1;omega
 subst hn
 exact⟨A,cap,l,rfl,by omega,hs,hl,rfl⟩
end Go.Proofs.YthadgaboakipoaaGreatDoor
namespace Go.Proofs.YthadgaboakipoaaGreatDoor
open Go.RowKit Go.Shelf
set_option maxRecDepth 100000
set_option maxHeartbeats 1000000

def YieldsO (P:Program) (w0:World) (l:Nat) (GP:Nat→List HA→Prop) (X:List HA→Prop) (Q:Nat→List Value→List HA→Prop) (n:Nat):Prop :=
 ∀ (j:Nat) (x:List Value) (B Hj K:List HA) (w:World),j<n→Q j x B→GP j Hj→Cls w0 w (Hj++(B++K)) →
  ∃ f tmps assign body,(Instr.yield l x.toArray).run P w = .ok (.round l f tmps assign body) w∧RoundIn (Fr none) 0 P l f tmps assign body w fun e w' =>
   (e = .returned (.bool true)∧∃ H',GP (j+1) H'∧Cls w0 w' (H'++K))∨(e = .returned (.bool false)∧∃ Y,X Y∧Cls w0 w' (Y++K))
theorem OpT.yieldO {S:Sig} {m:Nat} {w0:World} {fn:Func} {R:Ending→World→Prop} {all:Array Oper} {o:Oper} {env:Env} {ec:EnvC} {H:List HA} {d l j:Nat} {x:List Value} {G:GId} {Φ:Env→EnvC→List HA→Prop}
  {GP:Nat→List HA→Prop} {X:List HA→Prop} {Q:Nat→List Value→List HA→Prop} {n:Nat} {Hj:List HA} (B K:List HA)
  (hY:YieldsO S.P w0 l GP X Q n) (hg:gOf all env ec o=some G) (he:evYG env ec G o=some (l,x)) (hT:∀ a,Agrees ⟨m,[]⟩ all env ec a→Holds all a G) (hd:o.dst=some d) (hN:Nat.blt d m=true) (hs:safeC all d ec=true) (hj:j<n) (hQ:Q j x B) (hGP:GP j Hj) (hl:Hle H (Hj++(B++K)))
  (ht:∀ H',GP (j+1) H'→Φ ((d, .bool true)::env) ec (K++H'))
  (hf:∀ Y,X Y→Φ ((d, .bool false)::env) ec (K++Y)):OpT (IC S m w0 fn R) all o env ec H Φ:=by
 intro a w ha hw K' Q' hK
 have hH:=hT a ha
 have hwn:=(wanted_iff ha hg).2 hH
 refine ⟨fun _=>?_,fun hn=>(by rw [hwn] at hn;cases hn)⟩
 obtain⟨f,tmps,assign,body,hy,hr⟩:=hY j x B Hj K w hj hQ hGP (hw.le hl)
 have hdef:=gOf_def hg
 have hex:=evYG_spec ha hH he hy
 unfold Oper.wpIn
 refine ⟨about_Fr o _ w _,?_⟩
 rw [Oper.semAt_eq _ _ _ hdef,hex]
 refine ⟨fun h=>(by cases h),RoundIn.mono hr ?_⟩
 rintro e w' (⟨rfl,H',h1,h2⟩|⟨rfl,Y,h1,h2⟩)
 ·exact hK _ _ _ _ _ (ht H' h1) (by rw [hd];exact ha.put hN hs) (h2.le (Hle.comm _ _))
 ·exact hK _ _ _ _ _ (hf Y h1) (by rw [hd];exact ha.put hN hs) (h2.le (Hle.comm _ _))
end Go.Proofs.YthadgaboakipoaaGreatDoor
namespace Go.Proofs.YthadgaboakipoaaGreatDoor
open Go.RowKit Go.Shelf Go.Sort Go.Lib
set_option maxRecDepth 100000
set_option maxHeartbeats 1000000
variable {α:Type} [Inhabited α]

theorem heap_sortWorld {enc:α→Value} {w:World} {g m:Nat} {d':Array α} {os:Array Obj} {b:Nat} (hb:b<w.heap.size):(sortWorld enc w g 0 m d' os).heap[b]?=(w.heap[b]?).map (fun o=>if b=g then onCells (putCells enc 0 d') o else o):=by
 unfold sortWorld putRow mapBlock grow Sort.ahead
 simp only [Array.getElem?_append,Array.size_modify,hb,if_true,Array.getElem?_modify]
 by_cases h:g=b
 ·subst h
  simp
 ·rw [if_neg h]
  have:¬ b=g:=fun e=>h e.symm
  simp [this]
theorem putCells_at {enc:α→Value} {d':Array α} {cur:Array Value} (j:Nat) (hj:j<d'.size) (hc:j<cur.size):(putCells enc 0 d' cur)[j]?=some (enc d'[j]!):=by
 unfold putCells
 rw [Array.getElem?_mapIdx,Array.getElem?_eq_getElem hc]
 simp [hj]
theorem putCells_size {enc:α→Value} {d':Array α} {cur:Array Value}:(putCells enc 0 d' cur).size=cur.size:=by unfold putCells;simp
theorem below_sortWorld {enc:α→Value} {w:World} {B g m:Nat} {d':Array α} {os:Array Obj} (hB:B≤w.heap.size) (hg:B≤g):Below B w (sortWorld enc w g 0 m d' os):=by
 refine ⟨rfl,rfl,rfl,?_,fun k hk=>?_⟩
 ·show w.heap.size≤(grow (putRow enc (Sort.ahead w m) g 0 d') os).heap.size
  rw [size_grow,size_putRow]
  show w.heap.size≤w.heap.size+os.size
  omega
 ·rw [heap_sortWorld (b:=k) (by omega)]
  have:¬ k=g:=by omega
  cases w.heap[k]? <;> simp [this]
theorem sort_cls {w0 w:World} {e cap n g:Nat} {H:List HA} {enc:α→Value} {d d':Array α} {m:Nat} {os:Array Obj} (hw:Cls w0 w (row e 1 (some ⟨g,0,none⟩) cap n (d.toList.map enc)::H)) (hd:d.size=n) (hs:d'.size=d.size) :
  Cls w0 (sortWorld enc w g 0 m d' os) (row e 1 (some ⟨g,0,none⟩) cap n (d'.toList.map enc)::H):=by
 obtain⟨F,h1,h2,h3⟩:=hw.sep
 obtain⟨hxl,hrow⟩:=h1 0 _ rfl
 rcases hrow with⟨h9,-⟩|⟨g',cur,hA,hf,hn,hc,hcs,ht⟩
 ·cases h9
 cases hA
 have hg:=h2 0 g (.cells cur e (0,0)) (by simp) (by rw [hf];simp [one])
 have hgl:=lt_of_heap hg.2
 have hlt:w0.heap.size≤w.heap.size:=hw.below.size
 refine ⟨hw.below.trans (below_sortWorld hlt hg.1),?_⟩
 refine hw.sep.turn (k:=0) (b:=g) (o := .cells (putCells enc 0 d' cur) e (0,0)) rfl (fun f hf=>?_) (fun c hc hcl=>?_) ?_ ?_
 ·rcases hf.2 with⟨h9,-⟩|⟨g',cur',hA',hf',-⟩
  ·cases h9
  ·cases hA';exact⟨_,hf'⟩
 ·rw [heap_sortWorld hcl]
  cases w.heap[c]? with
  | none=>rfl
  | some o=>simp [hc]
 ·rw [heap_sortWorld hgl,hg.2]
  simp [onCells]
 ·refine ⟨by rw [List.length_map,Array.length_toList];omega, .inr ⟨g,_,rfl,rfl,hn,hc,by rw [putCells_size];exact hcs,?_⟩⟩
  refine List.ext_getElem? fun j=>?_
  by_cases hj:j<n * 1
  ·rw [List.getElem?_take_of_lt hj,Array.getElem?_toList,putCells_at j (by omega) (by omega),List.getElem?_map,Array.getElem?_toList,Array.getElem?_eq_getElem (by omega)]
   simp [show j<d'.size by omega]
  ·rw [List.getElem?_eq_none (by rw [List.length_take,Array.length_toList,putCells_size];omega),List.getElem?_eq_none (by rw [List.length_map,Array.length_toList];omega)]
theorem sort_holds {w0 w:World} {e cap n g:Nat} {H:List HA} {enc:α→Value} {d:Array α} (hw:Cls w0 w (row e 1 (some ⟨g,0,none⟩) cap n (d.toList.map enc)::H)) (hd:d.size=n):Go.Sort.Holds enc w g 0 d∧g<w.heap.size:=by
 obtain⟨F,h1,h2,h3⟩:=hw.sep
 obtain⟨hxl,hrow⟩:=h1 0 _ rfl
 rcases hrow with⟨h9,-⟩|⟨g',cur,hA,hf,hn,hc,hcs,ht⟩
 ·cases h9
 cases hA
 have hg:=h2 0 g (.cells cur e (0,0)) (by simp) (by rw [hf];simp [one])
 refine ⟨fun j hj=>⟨?_,?_⟩,lt_of_heap hg.2⟩
 ·have h5:(d.toList.map enc)[j]?=some (enc d[j]!):=by
   rw [List.getElem?_map,Array.getElem?_toList,Array.getElem?_eq_getElem hj];simp [hj]
  rw [← ht,List.getElem?_take_of_lt (by omega),Array.getElem?_toList] at h5
  simp [World.cell?,hg.2,h5]
 ·simp [World.frozen?,hg.2]
theorem permIn_all {d d':Array α} (h:PermIn 0 d.size d d'):d'.size=d.size∧d'.toList.Perm d.toList:=by
 obtain⟨h1,-,h3⟩:=h
 refine ⟨h1,?_⟩
 have e1:d.extract 0 d.size=d:=by simp
 have e2:d'.extract 0 d.size=d':=by rw [← h1];simp
 rw [e1,e2] at h3
 exact h3
theorem sortedIn_all {lt:α→α→Bool} {d:Array α} {n:Nat} (hn:d.size=n) (h:SortedIn lt 0 n d):d.toList.Pairwise fun a b=>lt b a=false:=by
 rw [List.pairwise_iff_getElem]
 intro i j hi hj hij
 rw [Array.length_toList] at hi hj
 have:=h i j (Nat.zero_le _) hij (by omega)
 simpa [hi,hj] using this
end Go.Proofs.YthadgaboakipoaaGreatDoor
namespace Go.Proofs.YthadgaboakipoaaGreatDoor
open Go.RowKit Go.Shelf Go.Proofs
set_option maxRecDepth 100000
set_option maxHeartbeats 1000000

def ownJ (l:List TS) (col:List Int) (k:Nat):List Tok:=(List.range l.length).map fun s=>if s<k∧0≤col.getD s (-1) then tkA (tsA l s).l (col.getD s (-1)).toNat else noTok
def thJ (l:List TS) (col:List Int) (k:Nat):List Bool:=(List.range l.length).map fun s=>decide (s<k∧0≤col.getD s (-1))
theorem ownJ_len (l:List TS) (col:List Int) (k:Nat):(ownJ l col k).length=l.length:=by simp [ownJ]
theorem thJ_len (l:List TS) (col:List Int) (k:Nat):(thJ l col k).length=l.length:=by simp [thJ]
theorem ownJ_zero (l:List TS) (col:List Int):ownJ l col 0=List.replicate l.length noTok:=by
 refine List.ext_getElem? fun s=>?_
 unfold ownJ
 rw [List.getElem?_map,List.getElem?_replicate]
 rcases Nat.lt_or_ge s l.length with h|h
 ·rw [List.getElem?_range h,if_pos h];simp
 ·rw [if_neg (by omega),List.getElem?_eq_none (by simp;omega)];rfl
theorem thJ_zero (l:List TS) (col:List Int):thJ l col 0=List.replicate l.length false:=by
 refine List.ext_getElem? fun s=>?_
 unfold thJ
 rw [List.getElem?_map,List.getElem?_replicate]
 rcases Nat.lt_or_ge s l.length with h|h
 ·rw [List.getElem?_range h,if_pos h];simp
 ·rw [if_neg (by omega),List.getElem?_eq_none (by simp;omega)];rfl
theorem ownJ_gap {l:List TS} {col:List Int} {k:Nat} (h:¬ 0≤col.getD k (-1)):ownJ l col (k+1)=ownJ l col k:=by
 unfold ownJ
 refine List.map_congr_left fun s _=>?_
 by_cases e:s=k
 ·subst e;rw [if_neg (fun h9=>h h9.2),if_neg (fun h9=>h h9.2)]
 ·by_cases h2:s<k∧0≤col.getD s (-1)
  ·rw [if_pos h2,if_pos ⟨by omega,h2.2⟩]
  ·rw [if_neg h2,if_neg (fun h9=>h2 ⟨by omega,h9.2⟩)]
theorem thJ_gap {l:List TS} {col:List Int} {k:Nat} (h:¬ 0≤col.getD k (-1)):thJ l col (k+1)=thJ l col k:=by
 unfold thJ
 refine List.map_congr_left fun s _=>?_
 by_cases e:s=k
 ·subst e;rw [decide_eq_false (fun h9=>h h9.2),decide_eq_false (fun h9=>h h9.2)]
 ·by_cases h2:s<k∧0≤col.getD s (-1)
  ·rw [decide_eq_true h2,decide_eq_true (⟨by omega,h2.2⟩:s<k+1∧_)]
  ·rw [decide_eq_false h2,decide_eq_false (fun h9=>h2 ⟨by omega,h9.2⟩)]
theorem ownJ_tok {l:List TS} {col:List Int} {k:Nat} (hk:k<l.length) (h:0≤col.getD k (-1)):(ownJ l col k).set k (tkA (tsA l k).l (col.getD k (-1)).toNat)=ownJ l col (k+1):=by
 refine List.ext_getElem? fun s=>?_
 unfold ownJ
 rw [List.getElem?_set,List.getElem?_map,List.getElem?_map,List.length_map,List.length_range]
 by_cases e:k=s
 ·subst e
  rw [List.getD_eq_getElem?_getD] at h
  rw [if_pos rfl,if_pos hk,List.getElem?_range hk];simp;intro h9;omega
 ·rw [if_neg e]
  rcases Nat.lt_or_ge s l.length with h2|h2
  ·rw [List.getElem?_range h2]
   simp only [Option.map_some]
   by_cases h3:s<k∧0≤col.getD s (-1)
   ·rw [if_pos h3,if_pos ⟨by omega,h3.2⟩]
   ·rw [if_neg h3,if_neg (fun h9=>h3 ⟨by omega,h9.2⟩)]
  ·rw [List.getElem?_eq_none (by simp;omega)];rfl
theorem thJ_tok {l:List TS} {col:List Int} {k:Nat} (hk:k<l.length) (h:0≤col.getD k (-1)):(thJ l col k).set k true=thJ l col (k+1):=by
 refine List.ext_getElem? fun s=>?_
 unfold thJ
 rw [List.getElem?_set,List.getElem?_map,List.getElem?_map,List.length_map,List.length_range]
 by_cases e:k=s
 ·subst e
  rw [List.getD_eq_getElem?_getD] at h
  rw [if_pos rfl,if_pos hk,List.getElem?_range hk];simp [h]
 ·rw [if_neg e]
  rcases Nat.lt_or_ge s l.length with h2|h2
  ·rw [List.getElem?_range h2]
   simp only [Option.map_some]
   by_cases h3:s<k∧0≤col.getD s (-1)
   ·rw [decide_eq_true h3,decide_eq_true (⟨by omega,h3.2⟩:s<k+1∧_)]
   ·rw [decide_eq_false h3,decide_eq_false (fun h9=>h3 ⟨by omega,h9.2⟩)]
  ·rw [List.getElem?_eq_none (by simp;omega)];rfl
theorem ownJ_small {w:World} {A:Option Addr} {n:Nat} {l:List TS} (hg:Grp w A n l) {col:List Int} (hco:ColOk l col) (k:Nat):∀ t∈ownJ l col k,t.small:=by
 intro t ht
 unfold ownJ at ht
 obtain⟨s,hs,rfl⟩:=List.mem_map.1 ht
 rw [List.mem_range] at hs
 split
 ·rename_i h
  have hci:col[s]?=some (col.getD s (-1)):=by rw [List.getD_eq_getElem?_getD,List.getElem?_eq_getElem (by rw [hco.1];exact hs)];rfl
  have hli:l[s]?=some (tsA l s):=by rw [tsA_eq (List.getElem?_eq_getElem hs)];exact List.getElem?_eq_getElem hs
  exact hg.sm _ (tsA_mem hs) _ (tkA_mem2 h.2 (by rw [hg.ok.len _ (tsA_mem hs)];exact (hco.2 s _ _ hci hli).2))
 ·exact noTok_small
theorem own_colV {w:World} {A:Option Addr} {n:Nat} {l:List TS} (hg:Grp w A n l) {c:Costs} (hc:costE c=0) (hbs:badS l=false) {col:List Int} (hco:ColOk l col):columnV c (ownJ l col l.length) (thJ l col l.length)=(colZ c l col,0):=by
 have hb:=hg.hb
 have hn:=hg.hn
 refine columnV_Z hc hbs hg.ok.len (by omega) hco (ownJ_len _ _ _) (thJ_len _ _ _) (fun i hi=>?_) (fun i hi h0=>?_)
 ·unfold thA thJ
  rw [List.getD_eq_getElem?_getD,List.getElem?_map,List.getElem?_range hi]
  show decide (i<l.length∧0≤col.getD i (-1))=_
  by_cases h:0≤col.getD i (-1)
  ·rw [decide_eq_true h,decide_eq_true ⟨hi,h⟩]
  ·rw [decide_eq_false h,decide_eq_false (fun h9=>h h9.2)]
 ·show tkA (ownJ l col l.length) i=_
  have e:(ownJ l col l.length)[i]?=some (tkA (tsA l i).l (col.getD i (-1)).toNat):=by
   unfold ownJ
   rw [List.getElem?_map,List.getElem?_range hi]
   simp only [Option.map_some]
   rw [if_pos ⟨hi,h0⟩]
  unfold tkA at e ⊢
  rw [List.getD_eq_getElem?_getD (l:=ownJ l col l.length),e]
  rfl
theorem made_toks (n:Nat):(madeCells (noTok.val).cells (n * (noTok.val).cells.size)).toList=(List.replicate n noTok).flatMap Tok.cells:=by
 refine (made_flat (noTok.val).cells n).trans ?_
 induction n with
 | zero=>rfl
 | succ n ih=>rw [List.replicate_succ,List.replicate_succ,List.flatMap_cons,List.flatten_cons,ih];rfl
theorem cost19_spec (c:Costs) (A Ac:Option Addr) (n ca cc:Nat) (l:List TS) (col:List Int) (w:World) (hg:Grp w A n l) (hc:costE c=0) (hbs:badS l=false) (hcs:Src w 1 Ac n (col.map (Value.int .i64))) (hco:ColOk l col) :
  Spec Tryz.prog 123 [c.val, .slice A n ca, .slice Ac n cc] w (fun v R=>v = .int .i64 (colZ c l col)∧R=[]):=by
 have hn:=hg.hn
 subst hn
 have hb:=hg.hb
 refine spec_of sg Tryz.func123 rfl rfl rfl ?_
 refine T_op (OpT.box (cs:=c.cells) rfl rfl rfl rfl rfl rfl rfl (fun pc=>?_))
 repeat' (first|refine d1 ?_|(show ∀ _:Nat,T _ _ _ _ _;intro _))
 refine T_cutX 1 [7,8] (fun s:Nat × Nat=>[(7, .slice (some ⟨s.1,0,none⟩) l.length l.length),(8, .slice (some ⟨s.2,0,none⟩) l.length l.length)]) (fun s=>[blk s.1 (madeCells (noTok.val).cells (l.length * (noTok.val).cells.size)).toList 62,blk s.2 (List.replicate l.length (.bool false)) 4,blk pc c.cells 23]) (fun _=>True) ?_ ?_
 ·refine dw0 1000 [blk pc c.cells 23] ?_
  repeat' (first|(show T _ (.draw _ _ _ _ _::_) _ _ _;first|refine dw1 ?_|refine dwb rfl (by decide +kernel) ?_)|(show AllL _ [];exact True.intro)|(show AllL _ (_::_);refine ⟨?_,?_⟩)|(show OpT _ _ _ _ _ _ _;first|refine dwx ?_|refine OpT.makeC rfl rfl rfl rfl rfl rfl (by dsimp only;omega) (fun b2=>⟨fun _=>(by first|exact Hle.none _|exact Hle.sub|exact absurd ‹_› (by decide +kernel)),?_⟩)|refine OpT.make rfl rfl rfl rfl rfl rfl rfl rfl rfl (by dsimp only;omega) (fun b3=>⟨fun _=>(by first|exact Hle.none _|exact Hle.sub|exact absurd ‹_› (by decide +kernel)),?_⟩))|(show ∀ _:Nat,T _ _ _ _ _;intro _)|(show T _ (.mark _::_) _ _ _;exact T_meetX (_,_) trivial (hG:=by exact Hle.srt)))
 rintro⟨b2,b3⟩ _
 dsimp only
 refine T_le (H':=[blk b2 ((ownJ l col 0).flatMap Tok.cells) 62,blk b3 ((thJ l col 0).map Value.bool) 4,blk pc c.cells 23]) (by rw [ownJ_zero,thJ_zero,made_toks,List.map_replicate];exact Hle.refl _) ?_
 repeat' (first|refine d1 ?_|refine dd ?_|(show ∀ _:Nat,T _ _ _ _ _;intro _))
 refine T_loopX (fun k:Nat=>[(21, .int .i64 k)]) (fun k=>[blk b2 ((ownJ l col k).flatMap Tok.cells) 62,blk b3 ((thJ l col k).map Value.bool) 4,blk pc c.cells 23]) (fun k=>k≤l.length) (fun k=>l.length - k) 0 (Nat.zero_le _) ?_
 intro k hk
 repeat' (first|refine d1 ?_|refine dd ?_|(show ∀ _:Nat,T _ _ _ _ _;intro _))
 refine T_if rfl (fun h=>?_) (fun h=>?_)
 ·simp only [decide_eq_true_eq] at h
  have hkn:k<l.length:=by omega
  obtain⟨b1,o1,rfl⟩:=hcs.base (by omega)
  obtain⟨b,o,rfl⟩:=hg.hs.base (by omega)
  obtain⟨s,hs,hsmem,hr⟩:=hg.get hkn
  obtain⟨z,hz⟩:∃ z,col[k]?=some z:=⟨_,List.getElem?_eq_getElem (by have:=hco.1;omega)⟩
  have hr1:=src_int hcs hkn hz
  obtain⟨hz1,hz2⟩:=hco.2 k z s hz hs
  have hsl:=hg.ok.len s hsmem
  have hsn:=hg.nb s hsmem
  have hzd:col.getD k (-1)=z:=by rw [List.getD_eq_getElem?_getD,hz];rfl
  repeat' (first|refine d1 ?_|refine dd ?_|(show ∀ _:Nat,T _ _ _ _ _;intro _))
  refine T_if rfl (fun h1=>?_) (fun h1=>?_)
  ·simp only [decide_eq_true_eq] at h1
   obtain⟨b4,o4,hsA⟩:=(hg.ok.src s hsmem).base (by omega)
   have hsr:RdC w b4 (o4+z.toNat * 6) (tkA s.l z.toNat).cells:=(hsA ▸ hg.ok.src s hsmem:Src w 6 (some ⟨b4,o4,none⟩) s.n (s.l.flatMap Tok.cells)).getT (k:=z.toNat) (by omega) (tkA_get (by omega))
   rw [hsA] at hr
   repeat' (first|refine d1 ?_|refine dd ?_|(show T _ (.ops _ (_::_)::_) _ _ _;first|refine T_op (OpT.storeA (us:=(tkA s.l z.toNat).cells) rfl rfl rfl rfl rfl rfl (by rw [flatT_length,ownJ_len,show (tkA s.l z.toNat).cells.length=6 from rfl];omega) ?_)|refine T_op (OpT.store rfl rfl rfl rfl (by rw [List.length_map,thJ_len];omega) ?_))|(show ∀ _:Nat,T _ _ _ _ _;intro _))
   refine T_backX (k+1) (by omega) (by omega) (hG:=?_)
   have e1:=ownJ_tok (l:=l) (col:=col) hkn (by rw [hzd];exact h1)
   have e2:=thJ_tok (l:=l) (col:=col) hkn (by rw [hzd];exact h1)
   rw [hzd,tsA_eq hs] at e1
   rw [← e1, ← e2, ← flatTok_set _ _ _ (by rw [ownJ_len];exact hkn),List.map_set,show 0+(k:Int).toNat * 6=k * 6 by omega,show 0+(k:Int).toNat * 1=k by omega]
   exact Hle.refl _
  ·simp only [decide_eq_false_iff_not] at h1
   repeat' (first|refine d1 ?_|refine dd ?_|(show ∀ _:Nat,T _ _ _ _ _;intro _))
   exact T_backX (k+1) (by omega) (by omega) (hG:=by rw [ownJ_gap (by rw [hzd];exact h1),thJ_gap (by rw [hzd];exact h1)];exact Hle.refl _)
 ·simp only [decide_eq_false_iff_not] at h
  obtain rfl:k=l.length:=by omega
  repeat' (first|refine d1 ?_|refine dd ?_|(show T _ (.ops _ (_::_)::_) _ _ _;first|refine T_call rfl rfl rfl rfl rfl (fun w hw=>columnPrg_spec c (some ⟨b2,0,none⟩) (some ⟨b3,0,none⟩) l.length l.length l.length l.length (ownJ l col l.length) (thJ l col l.length) w (hg.hst.cls hw) (Src.own hw (by rw [flatT_length,ownJ_len])) (ownJ_len _ _ _) (by omega) (Src.own hw (by rw [List.length_map,thJ_len,Nat.mul_one])) (thJ_len _ _ _) (by omega) (ownJ_small hg hco _)) ?_|refine T_callC rfl rfl rfl rfl rfl rfl rfl (fun hg w hw=>columnPrg_spec c (some ⟨b2,0,none⟩) (some ⟨b3,0,none⟩) l.length l.length l.length l.length (ownJ l col l.length) (thJ l col l.length) w (hg.hst.cls hw) (Src.own hw (by rw [flatT_length,ownJ_len])) (ownJ_len _ _ _) (by omega) (Src.own hw (by rw [List.length_map,thJ_len,Nat.mul_one])) (thJ_len _ _ _) (by omega) (ownJ_small hg hco _)) ?_)|(show T _ (.run _ _ (_::_) _ _::_) _ _ _;first|refine rc rfl rfl rfl rfl rfl rfl rfl (fun w hw=>columnPrg_spec c (some ⟨b2,0,none⟩) (some ⟨b3,0,none⟩) l.length l.length l.length l.length (ownJ l col l.length) (thJ l col l.length) w (hg.hst.cls hw) (Src.own hw (by rw [flatT_length,ownJ_len])) (ownJ_len _ _ _) (by omega) (Src.own hw (by rw [List.length_map,thJ_len,Nat.mul_one])) (thJ_len _ _ _) (by omega) (ownJ_small hg hco _)) ?_|refine rcG rfl rfl rfl rfl rfl rfl rfl rfl rfl (fun hg w hw=>columnPrg_spec c (some ⟨b2,0,none⟩) (some ⟨b3,0,none⟩) l.length l.length l.length l.length (ownJ l col l.length) (thJ l col l.length) w (hg.hst.cls hw) (Src.own hw (by rw [flatT_length,ownJ_len])) (ownJ_len _ _ _) (by omega) (Src.own hw (by rw [List.length_map,thJ_len,Nat.mul_one])) (thJ_len _ _ _) (by omega) (ownJ_small hg hco _)) ?_)|(show ∀ _:Nat,T _ _ _ _ _;intro _))
  rw [own_colV hg hc hbs hco]
  repeat' (first|refine d1 ?_|refine dd ?_|(show ∀ _:Nat,T _ _ _ _ _;intro _)|(show T _ (.code .ret::_) _ _ _;refine T_retV [] rfl (Hle.none _) ⟨rfl,rfl⟩))
noncomputable def costW (c:Costs) (l:List TS) (cols:List (List Int)):Int × Int:=if usV c l≠0 then (0,usV c l) else if okC l cols=true then (totZ c l cols,0) else (0,19)
theorem costSum19_spec (c:Costs) (A:Option Addr) (n ca:Nat) (l:List TS) (x:Value) (cols:List (List Int)) (w:World) (hg:Grp w A n l) (hx:Rd (wr w) [x] [rowsD cols]) (hsz:cols.length≤1000) :
  Spec Tryz.prog 71 [c.val, .slice A n ca,x] w (fun v R=>v = .tuple #[.int .i64 (costW c l cols).1, .int .i64 (costW c l cols).2]∧R=[]):=by
 have hx0:=hx
 have hn:=hg.hn
 have hb:=hg.hb
 obtain⟨Ak,ck,csk,rfl,hck1,hck2,hcs,hrows⟩:=hx.tabS
 refine spec_of sg Tryz.func71 rfl rfl rfl ?_
 refine T_op (OpT.box (cs:=c.cells) rfl rfl rfl rfl rfl rfl rfl (fun pc=>?_))
 repeat' (first|refine d1 ?_|refine dd ?_|(show T _ (.ops _ (_::_)::_) _ _ _;first|refine T_call rfl rfl rfl rfl rfl (fun w hw=>usable19_spec c A n ca l w (hg.cls hw)) ?_|refine T_callC rfl rfl rfl rfl rfl rfl rfl (fun hg w hw=>usable19_spec c A n ca l w (hg.cls hw)) ?_)|(show T _ (.run _ _ (_::_) _ _::_) _ _ _;first|refine rc rfl rfl rfl rfl rfl rfl rfl (fun w hw=>usable19_spec c A n ca l w (hg.cls hw)) ?_|refine rcG rfl rfl rfl rfl rfl rfl rfl rfl rfl (fun hg w hw=>usable19_spec c A n ca l w (hg.cls hw)) ?_)|(show ∀ _:Nat,T _ _ _ _ _;intro _))
 refine T_if rfl (fun h=>?_) (fun h=>?_)
 ·simp only [Bool.not_eq_true',decide_eq_false_iff_not] at h
  have e:costW c l cols=(0,usV c l):=if_pos h
  rw [e]
  repeat' (first|refine d1 ?_|refine dd ?_|(show ∀ _:Nat,T _ _ _ _ _;intro _)|(show T _ (.code .ret::_) _ _ _;refine T_retV [] rfl (Hle.none _) ⟨rfl,rfl⟩))
 simp only [Bool.not_eq_false',decide_eq_true_eq] at h
 repeat' (first|refine d1 ?_|refine dd ?_|(show T _ (.ops _ (_::_)::_) _ _ _;first|refine T_call rfl rfl rfl rfl rfl (fun w hw=>aligned19_spec A n ca l _ cols w (hg.cls hw) (hx0.old hw)) ?_|refine T_callC rfl rfl rfl rfl rfl rfl rfl (fun hg w hw=>aligned19_spec A n ca l _ cols w (hg.cls hw) (hx0.old hw)) ?_)|(show T _ (.run _ _ (_::_) _ _::_) _ _ _;first|refine rc rfl rfl rfl rfl rfl rfl rfl (fun w hw=>aligned19_spec A n ca l _ cols w (hg.cls hw) (hx0.old hw)) ?_|refine rcG rfl rfl rfl rfl rfl rfl rfl rfl rfl (fun hg w hw=>aligned19_spec A n ca l _ cols w (hg.cls hw) (hx0.old hw)) ?_)|(show ∀ _:Nat,T _ _ _ _ _;intro _))
 refine T_if rfl (fun h1=>?_) (fun h1=>?_)
 ·have e:costW c l cols=(0,19):=by unfold costW;rw [if_neg (by simpa using h),if_neg (by simpa using h1)]
  rw [e]
  repeat' (first|refine d1 ?_|refine dd ?_|(show ∀ _:Nat,T _ _ _ _ _;intro _)|(show T _ (.code .ret::_) _ _ _;refine T_retV [] rfl (Hle.none _) ⟨rfl,rfl⟩))
 have hok1:okC l cols=true:=by simpa using h1
 have hok:ColsOk (lens l) cols:=Classical.byContradiction fun h9=>by rw [okC_false h9] at hok1;cases hok1
 have h0:l.length≠0:=fun h9=>by unfold usV at h;rw [if_pos h9] at h;omega
 have hck:ck21 c l=0:=by unfold usV at h;rwa [if_neg h0] at h
 obtain⟨hc,hbs⟩:=ck21_ok hck
 have e:costW c l cols=(totZ c l cols,0):=by unfold costW;rw [if_neg (by simpa using h),if_pos hok1]
 rw [e]
 repeat' (first|refine d1 ?_|refine dd ?_|(show ∀ _:Nat,T _ _ _ _ _;intro _))
 refine T_loopX (fun i:Nat=>[(24, .int .i64 i),(9, .int .i64 (totZ c l (cols.take i)))]) (fun _=>[blk pc c.cells 23]) (fun i=>i≤cols.length) (fun i=>cols.length - i) 0 (Nat.zero_le _) ?_
 intro i hi
 repeat' (first|refine d1 ?_|refine dd ?_|(show ∀ _:Nat,T _ _ _ _ _;intro _))
 refine T_if rfl (fun h3=>?_) (fun h3=>?_)
 ·simp only [decide_eq_true_eq] at h3
  have hin:i<cols.length:=by omega
  obtain⟨b,o,rfl⟩:=hcs.base (by omega)
  obtain⟨r,hr⟩:∃ r,cols[i]?=some r:=⟨_,List.getElem?_eq_getElem hin⟩
  have hrm:=List.mem_of_getElem? hr
  obtain⟨Au,capu,hu,-,-,hA⟩:=hrows.tabRow hr
  have hco:ColOk l r:=ColsOk.colOk (l:=l) hok hrm
  have hrl:r.length=n:=by rw [hco.1,hn]
  have hr0:=rowHd hcs hin hu
  have hsr:=rowSrc hA
  rw [hrl] at hr0 hsr
  have htk:=take_snoc _ _ _ hr
  have hs:totZ c l (cols.take (i+1))=totZ c l (cols.take i)+colZ c l r:=by rw [htk,totZ_app,totZ_cons];show _=totZ c l (cols.take i)+colZ c l r;unfold totZ;simp
  have b1:=totZ_bd hc (l:=l) (by omega) (cols.take i)
  have b2:=colZ_bd hc (l:=l) (by omega) r
  have b3:((cols.take i).length:Int)≤999:=by rw [List.length_take];omega
  repeat' (first|refine d1 ?_|refine dd ?_|(show T _ (.ops _ (_::_)::_) _ _ _;first|refine T_call rfl rfl rfl rfl rfl (fun w hw=>cost19_spec c A Au n ca capu l r w (hg.cls hw) hc hbs (src_below hsr hw.below) hco) ?_|refine T_callC rfl rfl rfl rfl rfl rfl rfl (fun hg w hw=>cost19_spec c A Au n ca capu l r w (hg.cls hw) hc hbs (src_below hsr hw.below) hco) ?_)|(show T _ (.run _ _ (_::_) _ _::_) _ _ _;first|refine rc rfl rfl rfl rfl rfl rfl rfl (fun w hw=>cost19_spec c A Au n ca capu l r w (hg.cls hw) hc hbs (src_below hsr hw.below) hco) ?_|refine rcG rfl rfl rfl rfl rfl rfl rfl rfl rfl (fun hg w hw=>cost19_spec c A Au n ca capu l r w (hg.cls hw) hc hbs (src_below hsr hw.below) hco) ?_)|(show ∀ _:Nat,T _ _ _ _ _;intro _))
  refine T_if rfl (fun h4=>by exfalso;simp at h4;omega) (fun _=>?_)
  repeat' (first|refine d1 ?_|refine dd ?_|(show ∀ _:Nat,T _ _ _ _ _;intro _))
  exact T_backX (i+1) (by omega) (by omega) (hE:=⟨rfl,by rw [hs];rfl,trivial⟩)
 ·simp only [decide_eq_false_iff_not] at h3
  obtain rfl:i=cols.length:=by omega
  rw [List.take_of_length_le (Nat.le_refl _)]
  repeat' (first|refine d1 ?_|refine dd ?_|(show ∀ _:Nat,T _ _ _ _ _;intro _)|(show T _ (.code .ret::_) _ _ _;refine T_retV [] rfl (Hle.none _) ⟨rfl,rfl⟩))
end Go.Proofs.YthadgaboakipoaaGreatDoor
namespace Go.Proofs.YthadgaboakipoaaGreatDoor
open Go.RowKit Go.Shelf Go.Proofs
set_option maxRecDepth 100000
set_option maxHeartbeats 1000000

end Go.Proofs.YthadgaboakipoaaGreatDoor
namespace Go.Proofs.YthadgaboakipoaaGreatDoor
open Go.RowKit Go.Shelf Go.Lib Go.Sort Go.Proofs
set_option maxRecDepth 100000
set_option maxHeartbeats 2000000
def cmpI (a b:Int):Int:=if a<b then -1 else if b<a then 1 else 0
def cmpLI:List Int→List Int→Int
 | [],[]=>0
 | [],_::_ => -1
 | _::_,[]=>1
 | a::p,b::q=>if cmpI a b≠0 then cmpI a b else cmpLI p q
theorem isNaN_calls (x:Int) (W:World):Calls Tryz.prog 188 #[.int .i64 x] W fun e w'=>e = .returned (.bool false)∧w'=W:=by
 go_enter Tryz.func188,Tryz.ntmps188
 go_wp2
 go_ret
 exact⟨rfl,rfl⟩
theorem cmpI_calls (x y:Int) (W:World):Calls Tryz.prog 204 #[.int .i64 x, .int .i64 y] W fun e w'=>e = .returned (.int .i64 (cmpI x y))∧w'=W:=by
 have h1:=isNaN_calls x
 have h2:=isNaN_calls y
 go_enter Tryz.func204,Tryz.ntmps204
 go_wp2_with (first|(go_at_call 188;refine (h1 _).mono ?_;rintro e w' ⟨rfl,rfl⟩)|(go_at_call 188;refine (h2 _).mono ?_;rintro e w' ⟨rfl,rfl⟩))
 ·rename_i h;go_ret;exact⟨by unfold cmpI;rw [if_pos h];rfl,rfl⟩
 ·rename_i h9 _ _ h;go_ret;exact⟨by unfold cmpI;rw [if_neg (by omega),if_pos h];rfl,rfl⟩
 ·rename_i h;go_ret;exact⟨by unfold cmpI;rw [if_neg (by omega),if_neg (by omega)];rfl,rfl⟩
theorem cmpLI_drop {a b:List Int} {k:Nat} (ha:k<a.length) (hb:k<b.length):cmpLI (a.drop k) (b.drop k)=if cmpI (a.getD k 0) (b.getD k 0)≠0 then cmpI (a.getD k 0) (b.getD k 0) else cmpLI (a.drop (k+1)) (b.drop (k+1)):=by
 rw [List.drop_eq_getElem_cons ha,List.drop_eq_getElem_cons hb,cmpLI,List.getD_eq_getElem?_getD,List.getElem?_eq_getElem ha,List.getD_eq_getElem?_getD,List.getElem?_eq_getElem hb];rfl
theorem cmpLI_end1 {a b:List Int} {k:Nat} (ha:k<a.length) (hb:b.length≤k):cmpLI (a.drop k) (b.drop k)=1:=by
 rw [List.drop_eq_getElem_cons ha,List.drop_of_length_le hb];rfl
theorem cmpLI_end2 {a b:List Int} {k:Nat} (ha:a.length≤k) (hb:k<b.length):cmpLI (a.drop k) (b.drop k) = -1:=by
 rw [List.drop_eq_getElem_cons hb,List.drop_of_length_le ha];rfl
theorem cmpLI_end {a b:List Int} {k:Nat} (ha:a.length≤k) (hb:b.length≤k):cmpLI (a.drop k) (b.drop k)=0:=by
 rw [List.drop_of_length_le ha,List.drop_of_length_le hb];rfl
theorem compare_calls (ba oa ca bb ob cb:Nat) (a b:List Int) (W:World) (hla:a.length≤1000) (hlb:b.length≤1000) (ha:∀ j,j<a.length→W.cell? ⟨ba,oa+j,none⟩=some (.int .i64 (a.getD j 0))) (hb:∀ j,j<b.length→W.cell? ⟨bb,ob+j,none⟩=some (.int .i64 (b.getD j 0))) :
  Calls Tryz.prog 171 #[.slice (some ⟨ba,oa,none⟩) a.length ca, .slice (some ⟨bb,ob,none⟩) b.length cb] W fun e w'=>e = .returned (.int .i64 (cmpLI a b))∧w'=W:=by
 generalize hna:a.length=na at *
 generalize hnb:b.length=nb at *
 go_enter Tryz.func171,Tryz.ntmps171
 go_wp2
 go_loop [5,6,7,8,11] (fun _ _ _ _ i=>∃ k:Nat,k≤na∧k≤nb∧i = .int .i64 k∧cmpLI a b=cmpLI (a.drop k) (b.drop k)) (fun _ _ _ _ i=>match i with | .int _ m=>na - m.toNat|_=>0)
 case atStart=>exact⟨0,Nat.zero_le _,Nat.zero_le _,rfl,rfl⟩
 case round =>
  obtain⟨k,hk,hkb,rfl,he⟩:=hrel
  by_cases hka:k<na
  ·have hkz:(k:Int)<(na:Int):=by omega
   have hca:=ha k hka
   have hwr:IntKind.i64.wrap ((k:Int)+1)=(k:Int)+1:=by rw [IntKind.wrap_i64];omega
   by_cases hkb2:k<nb
   ·have hkz2:¬ (nb:Int)≤(k:Int):=by omega
    have hkz3:(k:Int)<(nb:Int):=by omega
    have hcb:=hb k hkb2
    have hc:=cmpI_calls (a.getD k 0) (b.getD k 0) W
    rw [cmpLI_drop (by omega) (by omega)] at he
    clear ha hb
    generalize a.getD k 0=x at *
    generalize b.getD k 0=y at *
    generalize cmpI x y=z at *
    by_cases hz:z=0
    ·subst hz
     rw [if_neg (by simp)] at he
     go_wp2_with (go_at_call 204;refine hc.mono ?_;rintro e w' ⟨rfl,rfl⟩)
     refine ⟨⟨k+1,by omega,by omega,rfl,he⟩,?_⟩
     show na - ((k:Int)+1).toNat<na - (k:Int).toNat
     omega
    ·have hzd:decide (z=0)=false:=decide_eq_false hz
     rw [if_pos hz] at he
     go_wp2_with (go_at_call 204;refine hc.mono ?_;rintro e w' ⟨rfl,rfl⟩)
     go_ret
     exact⟨by first|rfl|(rw [he];rfl),rfl⟩
   ·have hkz2:(nb:Int)≤(k:Int):=by omega
    rw [cmpLI_end1 (by omega) (by omega)] at he
    clear ha hb
    go_wp2
    go_ret
    exact⟨by first|rfl|(rw [he];rfl),rfl⟩
  ·have hkz:¬ (k:Int)<(na:Int):=by omega
   clear ha hb
   by_cases hab:na<nb
   ·have habz:(na:Int)<(nb:Int):=by omega
    rw [cmpLI_end2 (by omega) (by omega)] at he
    go_wp2
    go_ret
    exact⟨by first|rfl|(rw [he];rfl),rfl⟩
   ·have habz:¬ (na:Int)<(nb:Int):=by omega
    rw [cmpLI_end (by omega) (by omega)] at he
    go_wp2
    go_ret
    exact⟨by first|rfl|(rw [he];rfl),rfl⟩
theorem moves1_calls (cf:Int) (ba oa ca bb ob cb:Nat) (a b:List Int) (W:World) (hla:a.length≤1000) (hlb:b.length≤1000) (ha:∀ j,j<a.length→W.cell? ⟨ba,oa+j,none⟩=some (.int .i64 (a.getD j 0))) (hb:∀ j,j<b.length→W.cell? ⟨bb,ob+j,none⟩=some (.int .i64 (b.getD j 0)))
  (hcf:cf=if a.length≠b.length then (b.length:Int) - a.length else cmpLI a b) :
  Calls Tryz.prog 170 #[.slice (some ⟨ba,oa,none⟩) a.length ca, .slice (some ⟨bb,ob,none⟩) b.length cb] W fun e w'=>e = .returned (.int .i64 cf)∧w'=W:=by
 have hc:=compare_calls ba oa ca bb ob cb a b W hla hlb ha hb
 clear ha hb
 generalize cmpLI a b=r at *
 generalize a.length=na at *
 generalize b.length=nb at *
 by_cases hab:na=nb
 ·rw [if_neg (by simpa using hab)] at hcf
  subst hcf
  subst hab
  go_enter Tryz.func170,Tryz.ntmps170
  go_wp2_with (go_at_call 171;refine hc.mono ?_;rintro e w' ⟨rfl,rfl⟩)
  go_ret
  exact⟨rfl,rfl⟩
 ·rw [if_pos hab] at hcf
  have hd:¬ (na:Int)=(nb:Int):=by omega
  have hw:IntKind.i64.wrap ((nb:Int) - (na:Int))=(nb:Int) - (na:Int):=by rw [IntKind.wrap_i64];omega
  go_enter Tryz.func170,Tryz.ntmps170
  go_wp2
  go_ret
  exact⟨by rw [hcf];rfl,rfl⟩
end Go.Proofs.YthadgaboakipoaaGreatDoor
namespace Go.Proofs.YthadgaboakipoaaGreatDoor
open Go.RowKit Go.Shelf Go.Proofs
set_option maxRecDepth 100000
set_option maxHeartbeats 1000000

theorem cmpI_nat (a b:Nat):cmpI (a:Int) (b:Int)=if a<b then -1 else if b<a then 1 else 0:=by
 unfold cmpI
 by_cases h1:a<b
 ·rw [if_pos (by omega),if_pos h1]
 ·rw [if_neg (by omega),if_neg h1]
  by_cases h2:b<a
  ·rw [if_pos (by omega),if_pos h2]
  ·rw [if_neg (by omega),if_neg h2]
theorem cmpLI_nat:∀ a b:List Nat,cmpLI (intN a) (intN b)=cmpL a b
 | [],[]=>rfl
 | [],_::_=>rfl
 | _::_,[]=>rfl
 | a::p,b::q=>by
  have ih:=cmpLI_nat p q
  show (if cmpI (a:Int) (b:Int)≠0 then cmpI (a:Int) (b:Int) else cmpLI (intN p) (intN q))=_
  rw [cmpI_nat,ih,cmpL]
  by_cases h1:a<b
  ·rw [if_pos h1,if_pos h1,if_pos (by omega)]
  ·by_cases h2:b<a
   ·rw [if_neg h1,if_pos h2,if_neg h1,if_pos h2,if_pos (by omega)]
   ·rw [if_neg h1,if_neg h2,if_neg h1,if_neg h2,if_neg (by omega)]
end Go.Proofs.YthadgaboakipoaaGreatDoor
namespace Go.Proofs.YthadgaboakipoaaGreatDoor
open Go.RowKit Go.Shelf Go.Proofs
set_option maxRecDepth 100000
set_option maxHeartbeats 1000000

theorem volL_app:∀ a b:List Nat,volL (a++b)=volL a * volL b
 | [],b=>by show volL b=1 * volL b;omega
 | n::a,b=>by
  show (n+1) * volL (a++b)=(n+1) * volL a * volL b
  rw [volL_app a b,Nat.mul_assoc]
theorem volL_snoc {ls:List Nat} {k n:Nat} (h:ls[k]?=some n):volL (ls.take (k+1))=volL (ls.take k) * (n+1):=by
 rw [take_snoc _ _ _ h,volL_app]
 show _ * ((n+1) * 1)=_
 rw [Nat.mul_one]
theorem volL_take (ls:List Nat) (k:Nat):volL (ls.take k)≤volL ls:=by
 have h:=volL_app (ls.take k) (ls.drop k)
 rw [List.take_append_drop] at h
 rw [h]
 exact Nat.le_mul_of_pos_right _ (volL_pos _)
theorem stpL_drop:∀ {ls:List Nat} {s:Nat},s<ls.length→stpL ls s=volL (ls.drop (s+1))
 | _::ls,0,_=>rfl
 | _::ls,s+1,h=>by
  have:=stpL_drop (ls:=ls) (s:=s) (by simpa using h)
  simpa [stpL] using this
theorem stpL_pos {ls:List Nat} {s:Nat} (h:s<ls.length):0<stpL ls s:=by rw [stpL_drop h];exact volL_pos _
def capV (v lim:Nat):Nat:=if v≤lim then v else lim+1
theorem size19_spec (A:Option Addr) (n ca:Nat) (l:List TS) (lim:Nat) (w:World) (hg:Grp w A n l) (hlim:1≤lim∧lim≤1000000000000):Spec Tryz.prog 168 [.slice A n ca, .int .i64 (lim:Nat)] w (fun v R=>v = .int .i64 (capV (volL (lens l)) lim:Nat)∧R=[]):=by
 have hn:=hg.hn
 have hb:=hg.hb
 have hll:=lens_len l
 refine spec_of sg Tryz.func168 rfl rfl rfl ?_
 repeat' (first|refine d1 ?_|refine dd ?_|(show ∀ _:Nat,T _ _ _ _ _;intro _))
 refine T_loopX (fun k:Nat=>[(10, .int .i64 k),(5, .int .i64 (volL ((lens l).take k):Nat))]) (fun _=>[]) (fun k=>k≤n∧volL ((lens l).take k)≤lim) (fun k=>n - k) 0 ⟨Nat.zero_le _,hlim.1⟩ ?_
 rintro k ⟨hk,hv⟩
 repeat' (first|refine d1 ?_|refine dd ?_|(show ∀ _:Nat,T _ _ _ _ _;intro _))
 refine T_if rfl (fun h=>?_) (fun h=>?_)
 ·simp only [decide_eq_true_eq] at h
  have hkn:k<n:=by omega
  obtain⟨b,o,rfl⟩:=hg.hs.base (by omega)
  obtain⟨t,ht,htm,hr⟩:=hg.get hkn
  have htn:=hg.nb t htm
  have hs:=volL_snoc (lens_get ht)
  have hle:=volL_take (lens l) (k+1)
  have e:((volL ((lens l).take k):Nat):Int) * ((t.n:Int)+1)=(volL ((lens l).take (k+1)):Nat):=by rw [hs];simp
  have hbd:volL ((lens l).take (k+1))≤1000000000000 * 1001:=by rw [hs];exact Nat.mul_le_mul (by omega) (by omega)
  repeat' (first|refine d1 ?_|refine dd ?_|(show ∀ _:Nat,T _ _ _ _ _;intro _))
  rw [e]
  refine T_if rfl (fun h1=>?_) (fun h1=>?_)
  ·simp only [decide_eq_true_eq] at h1
   repeat' (first|refine d1 ?_|refine dd ?_|(show ∀ _:Nat,T _ _ _ _ _;intro _)|(show T _ (.code .ret::_) _ _ _;refine T_retV [] rfl (Hle.none _) ⟨by unfold capV;rw [if_neg (by omega)];rfl,rfl⟩))
  ·simp only [decide_eq_false_iff_not] at h1
   repeat' (first|refine d1 ?_|refine dd ?_|(show ∀ _:Nat,T _ _ _ _ _;intro _))
   exact T_backX (k+1) ⟨by omega,by omega⟩ (by omega)
 ·simp only [decide_eq_false_iff_not] at h
  obtain rfl:k=n:=by omega
  rw [List.take_of_length_le (by omega)] at hv ⊢
  repeat' (first|refine d1 ?_|refine dd ?_|(show ∀ _:Nat,T _ _ _ _ _;intro _)|(show T _ (.code .ret::_) _ _ _;refine T_retV [] rfl (Hle.none _) ⟨by unfold capV;rw [if_pos hv];rfl,rfl⟩))
end Go.Proofs.YthadgaboakipoaaGreatDoor
namespace Go.Proofs.YthadgaboakipoaaGreatDoor
open Go.RowKit Go.Shelf Go.Proofs
set_option maxRecDepth 100000
set_option maxHeartbeats 1000000

def atJ (v:List Nat) (s:Nat):List Value:=[.int .i64 (if 0<s then v.getD 0 0 else 0:Nat), .int .i64 (if 1<s then v.getD 1 0 else 0:Nat), .int .i64 (if 2<s then v.getD 2 0 else 0:Nat), .int .i64 (if 3<s then v.getD 3 0 else 0:Nat)]
def atV (v:List Nat):List Value:=[.int .i64 (v.getD 0 0:Nat), .int .i64 (v.getD 1 0:Nat), .int .i64 (v.getD 2 0:Nat), .int .i64 (v.getD 3 0:Nat)]
theorem atJ_all {v:List Nat} {n:Nat} (hv:v.length=n) (h4:n≤4):atJ v n=atV v:=by
 have h:∀ s,(if s<n then v.getD s 0 else 0)=v.getD s 0:=fun s=>by
  by_cases hs:s<n
  ·rw [if_pos hs]
  ·rw [if_neg hs,List.getD_eq_getElem?_getD,List.getElem?_eq_none (by omega)];rfl
 unfold atJ atV
 rw [h,h,h,h]
end Go.Proofs.YthadgaboakipoaaGreatDoor
namespace Go.Proofs.YthadgaboakipoaaGreatDoor
open Go.RowKit Go.Shelf Go.Proofs Go.Sort Go.Lib
set_option maxRecDepth 100000
set_option maxHeartbeats 1000000

structure MvAt (p:Frag) where
 v:Value
 m:List Nat
 rd:Rd (fr p) [v] [intsD (intN m)]
 ne:m≠[]
 le:m.length≤1000
theorem mvAt_list {p:Frag}:∀ {ms:List (List Nat)} {hs:List Value},Rd (fr p) hs (ms.map fun m=>intsD (intN m))→(∀ m∈ms,m≠[]∧m.length≤1000)→∃ L:List (MvAt p),L.map MvAt.v=hs∧L.map MvAt.m=ms
 | [],hs,h,_=>by cases h;exact⟨[],rfl,rfl⟩
 | m::ms,[],h,_=>by have:=h.length;simp at this
 | m::ms,x::hs,h,hm=>by
  obtain⟨h1,h2⟩:=h.cons_inv
  obtain⟨L,e1,e2⟩:=mvAt_list h2 fun k hk=>hm k (.tail _ hk)
  have hmm:=hm m (.head _)
  exact⟨⟨x,m,h1,hmm.1,hmm.2⟩::L,by rw [List.map_cons,e1],by rw [List.map_cons,e2]⟩
theorem mvAt_rd {p:Frag}:∀ L:List (MvAt p),Rd (fr p) (L.map MvAt.v) ((L.map MvAt.m).map fun m=>intsD (intN m))
 | [] => .nil
 | x::L=>x.rd.append (mvAt_rd L)
def cfM {p:Frag} (x y:MvAt p):Int:=cmpM x.m y.m
theorem cmpM_le {a b c:List Nat} (h1:¬ cmpM a b<0) (h2:¬ cmpM b c<0):¬ cmpM a c<0:=fun h=>by
 have a1:=cmpM_neg a b
 have a2:=cmpM_neg b c
 by_cases e1:cmpM a b=0
 ·rw [cmpM_zero e1] at h;exact h2 h
 ·by_cases e2:cmpM b c=0
  ·rw [← cmpM_zero e2] at h;exact h1 h
  ·have h3:=cmpM_trans (a:=b) (b:=a) (c:=c) (by omega) h
   exact h2 h3
theorem swoM (p:Frag):SWO (ltOf (cfM (p:=p))):=by
 refine ⟨fun x=>?_,fun x y z h1 h2=>?_,fun x y z h1 h2=>?_⟩
 ·unfold ltOf cfM
  rw [cmpM_self];rfl
 ·unfold ltOf cfM at *
  exact decide_eq_true (cmpM_trans (of_decide_eq_true h1) (of_decide_eq_true h2))
 ·unfold ltOf cfM at *
  exact decide_eq_false (cmpM_le (of_decide_eq_false h1) (of_decide_eq_false h2))
theorem sortM_spec {w0:World} {cap g n:Nat} {hs:List Value} {ms:List (List Nat)} {p:Frag} (hp:Rd (fr p) hs (ms.map fun m=>intsD (intN m))) (hn:ms.length=n) (h0:0<n) (hn2:n≤1000) (hms:∀ m∈ms,m≠[]∧m.length≤1000) :
  SpecB Tryz.prog 169 [.slice (some ⟨g,0,none⟩) n cap, .func (.func 170) #[] #[]] w0 [row 27 1 (some ⟨g,0,none⟩) cap n hs,fz p]
   (fun v R=>v = .tuple #[]∧∃ (hs':List Value) (ms':List (List Nat)),Rd (fr p) hs' (ms'.map fun m=>intsD (intN m))∧ms'.Perm ms∧(ms'.Pairwise fun a b=>¬ cmpM b a<0)∧R=[row 27 1 (some ⟨g,0,none⟩) cap n hs',fz p]):=by
 refine ⟨enters_of rfl rfl rfl,fun w hw=>?_⟩
 obtain⟨L,e1,e2⟩:=mvAt_list hp hms
 have hL:L.length=n:=by rw [← hn, ← e2,List.length_map]
 have:Inhabited (MvAt p):=⟨L[0]'(by omega)⟩
 have hw2:Cls w0 w [row 27 1 (some ⟨g,0,none⟩) cap n (L.toArray.toList.map MvAt.v),fz p]:=by rw [List.toList_toArray,e1];exact hw
 obtain⟨hH,hblk⟩:=sort_holds hw2 (by simpa using hL)
 have hcmp:CmpLays1 Tryz.prog 170 #[] (MvAt.v (p:=p)) cfM g 0 L.toArray.size w:=by
  intro k os dk hdk x y
  have hW:=sort_cls (d':=dk) (m:=k) (os:=os) hw2 (by simpa using hL) hdk
  obtain⟨A,ca,hxv,hx1,hx2,hx3⟩:=(x.rd.own hW).row1
  obtain⟨B,cb,hyv,hy1,hy2,hy3⟩:=(y.rd.own hW).row1
  have l1:(intN x.m).length=x.m.length:=by simp [intN]
  have l2:(intN y.m).length=y.m.length:=by simp [intN]
  have p1:=List.length_pos_iff.2 x.ne
  have p2:=List.length_pos_iff.2 y.ne
  have q1:=x.le
  have q2:=y.le
  obtain⟨ba,oa,rfl,hca⟩:=hx3 (by omega)
  obtain⟨bb,ob,rfl,hcb⟩:=hy3 (by omega)
  have hc:=moves1_calls (cmpM x.m y.m) ba oa ca bb ob cb (intN x.m) (intN y.m) (sortWorld (MvAt.v (p:=p)) w g 0 k dk os) (by omega) (by omega)
   (fun j hj=>hca j _ (by rw [List.getElem?_eq_getElem hj,List.getD_eq_getElem?_getD,List.getElem?_eq_getElem hj];rfl)) (fun j hj=>hcb j _ (by rw [List.getElem?_eq_getElem hj,List.getD_eq_getElem?_getD,List.getElem?_eq_getElem hj];rfl))
   (by rw [cmpLI_nat,l1,l2];rfl)
  rw [← hxv, ← hyv] at hc
  exact hc.mono fun e w' ⟨h1,h2⟩=>⟨h1,0, #[],by rw [h2,grow_empty];rfl⟩
 have hS:=Tryz.slices_SortFunc (MvAt.v (p:=p)) (fun x=>by obtain⟨A,ca,h,-⟩:=x.rd.row1;rw [h];rfl) cfM (swoM p) 170 #[] g 0 cap L.toArray w (enters_of rfl rfl rfl) hcmp hH hblk (by simp;omega)
 rw [show L.toArray.size=n by simpa using hL] at hS
 refine hS.mono fun e w' hh=>?_
 obtain⟨rfl,d',k,os,hpm,hso,rfl⟩:=hh
 obtain⟨hsz,hpe⟩:=permIn_all (d:=L.toArray) (by rw [show L.toArray.size=n by simpa using hL];exact hpm)
 have hso2:=sortedIn_all (d:=d') (by rw [hsz];simpa using hL) hso
 have hfin:=sort_cls (d':=d') (m:=k) (os:=os) hw2 (by simpa using hL) hsz
 refine ⟨.tuple #[],_,rfl,⟨rfl,d'.toList.map MvAt.v,d'.toList.map MvAt.m,mvAt_rd _,?_,?_,rfl⟩,hfin.below,hfin.sep⟩
 ·have:=hpe.map MvAt.m
  rw [List.toList_toArray,e2] at this
  exact this
 ·refine List.pairwise_map.2 (hso2.imp fun {a b} h=>?_)
  exact of_decide_eq_false h
end Go.Proofs.YthadgaboakipoaaGreatDoor
namespace Go.Proofs.YthadgaboakipoaaGreatDoor
open Go.RowKit Go.Shelf Go.Proofs
set_option maxRecDepth 100000
set_option maxHeartbeats 1000000

def allP (n c:Nat):List (List Nat):=((List.range c).map (bitsL n)).filter fun m => !m.isEmpty
theorem allP_all (n:Nat):allP n (2 ^ n)=allL n:=rfl
theorem allP_yes {n c:Nat} (h:0<(bitsL n c).length):allP n (c+1)=allP n c++[bitsL n c]:=by
 unfold allP
 rw [List.range_succ,List.map_append,List.filter_append]
 have:(bitsL n c).isEmpty=false:=by cases hb:bitsL n c with
  | nil=>rw [hb] at h;simp at h
  | cons a l=>rfl
 show _++List.filter _ [bitsL n c]=_
 rw [List.filter_cons,this];rfl
theorem allP_no {n c:Nat} (h:¬ 0<(bitsL n c).length):allP n (c+1)=allP n c:=by
 unfold allP
 rw [List.range_succ,List.map_append,List.filter_append]
 have:bitsL n c=[]:=List.eq_nil_of_length_eq_zero (by omega)
 show _++List.filter _ [bitsL n c]=_
 rw [this]
 exact List.append_nil _
def bitsP (c s:Nat):List Nat:=(List.range s).filter fun k=>c.testBit k
theorem bitsP_succ (c s:Nat):bitsP c (s+1)=bitsP c s++if c.testBit s=true then [s] else []:=by
 unfold bitsP
 rw [List.range_succ,List.filter_append,List.filter_cons]
 rfl
theorem bitsP_len (c s:Nat):(bitsP c s).length≤s:=by
 unfold bitsP
 have:=List.length_filter_le (fun k=>c.testBit k) (List.range s)
 rwa [List.length_range] at this
theorem allP_len (n c:Nat):(allP n c).length≤c:=by
 unfold allP
 have:=List.length_filter_le (fun m:List Nat => !m.isEmpty) ((List.range c).map (bitsL n))
 rwa [List.length_map,List.length_range] at this
theorem bit_law:∀ c:Nat,c<16→∀ s:Nat,s<4→decide (andV .i64 (shrV .i64 (c:Int) (s:Int)) 1=1)=Nat.testBit c s:=by decide +kernel
theorem shl_law {n:Nat} (h4:n≤4):shlV .i64 1 (n:Int)=((2 ^ n:Nat):Int):=by
 obtain rfl|rfl|rfl|rfl|rfl:n=0∨n=1∨n=2∨n=3∨n=4:=by omega
 all_goals decide +kernel
theorem mvL_none {n:Nat} (h:n<1∨4<n):mvL n=[]:=by
 match n,h with
 | 0,_=>rfl
 | 1,h=>omega
 | 2,h=>omega
 | 3,h=>omega
 | 4,h=>omega
 | n+5,_=>rfl
theorem intN_snoc (a:List Nat) (s:Nat):(intN (a++[s])).map (Value.int .i64)=(intN a).map (Value.int .i64)++flatP [(0, .int .i64 (s:Nat))]:=by unfold intN;rw [List.map_append,List.map_append];rfl
theorem moves19_spec (z:Int) (w:World):Spec Tryz.prog 117 [.int .i64 z] w (fun v R=>∃ x:Value,True∧v=x∧R=[dat [x] [rowsD ((mvL z.toNat).map intN)]]):=by
 refine spec_of sg Tryz.func117 rfl rfl rfl ?_
 repeat' (first|refine d1 ?_|refine dd ?_|(show ∀ _:Nat,T _ _ _ _ _;intro _))
 refine T_if rfl (fun h=>?_) (fun h=>?_)
 ·simp only [Bool.or_eq_true,decide_eq_true_eq] at h
  rw [mvL_none (by omega)]
  repeat' (first|refine d1 ?_|refine dd ?_|(show ∀ _:Nat,T _ _ _ _ _;intro _)|(show T _ (.code .ret::_) _ _ _;refine T_retV _ rfl (nilC _ |>.trans (Hle.nth 0 rfl)) ⟨_,trivial,rfl,rfl⟩))
 simp only [Bool.or_eq_false_iff,decide_eq_false_iff_not] at h
 obtain⟨n,rfl⟩:∃ n:Nat,z=n:=⟨z.toNat,by omega⟩
 have h1:1≤n:=by omega
 have h4:n≤4:=by omega
 rw [Int.toNat_natCast]
 have hpw:2 ^ n≤16:=by
  obtain rfl|rfl|rfl|rfl:n=1∨n=2∨n=3∨n=4:=by omega
  all_goals decide
 repeat' (first|refine d1 ?_|refine dd ?_|(show T _ (.ops _ (_::_)::_) _ _ _;first|refine T_val rfl (Val.bits rfl (fun _=>by omega)) rfl rfl rfl ?_|refine T_valC rfl (Val.bits rfl (fun _=>by omega)) rfl rfl rfl rfl rfl ?_)|(show T _ (.run _ _ (_::_) _ _::_) _ _ _;first|refine rv rfl rfl rfl (Val.bits rfl (fun _=>by omega)) rfl rfl rfl ?_|refine rg rfl rfl rfl (Val.bits rfl (fun _=>by omega)) rfl rfl rfl rfl rfl ?_)|(show ∀ _:Nat,T _ _ _ _ _;intro _))
 rw [shl_law h4]
 refine T_le (dat_nil _) ?_
 refine T_nilrow 27 1 ?_
 refine T_loopX (fun s:Nat × (Option Addr × Nat) × List Value=>[(15, .int .i64 (s.1:Nat)),(3, .slice s.2.1.1 (allP n s.1).length s.2.1.2)]) (fun s=>[row 27 1 s.2.1.1 s.2.1.2 (allP n s.1).length s.2.2,dat s.2.2 (((allP n s.1).map intN).map intsD)]) (fun s=>s.1≤2 ^ n∧(0<(allP n s.1).length→∃ g,s.2.1.1=some ⟨g,0,none⟩)) (fun s=>2 ^ n - s.1) (0,(none,0),[]) ⟨Nat.zero_le _,fun h=>absurd h (Nat.lt_irrefl 0)⟩ ?_
 rintro⟨c,⟨A,cap⟩,hs⟩ ⟨hc,hA⟩
 dsimp only at hc hA ⊢
 have hal:=allP_len n c
 repeat' (first|refine d1 ?_|refine dd ?_|(show ∀ _:Nat,T _ _ _ _ _;intro _))
 refine T_if rfl (fun h2=>?_) (fun h2=>?_)
 ·simp only [decide_eq_true_eq] at h2
  have hcn:c<2 ^ n:=by omega
  repeat' (first|refine d1 ?_|refine dd ?_|(show ∀ _:Nat,T _ _ _ _ _;intro _))
  refine T_nilrow 3 1 ?_
  refine T_loopX (fun s:Nat × (Option Addr × Nat)=>[(19, .int .i64 (s.1:Nat)),(5, .slice s.2.1 (bitsP c s.1).length s.2.2)]) (fun s=>[row 3 1 s.2.1 s.2.2 (bitsP c s.1).length ((intN (bitsP c s.1)).map (Value.int .i64)),row 27 1 A cap (allP n c).length hs,dat hs (((allP n c).map intN).map intsD)]) (fun s=>s.1≤n) (fun s=>n - s.1) (0,(none,0)) (Nat.zero_le _) ?_
  rintro⟨s,⟨A5,cap5⟩⟩ hsn
  dsimp only at hsn ⊢
  have hbl:=bitsP_len c s
  repeat' (first|refine d1 ?_|refine dd ?_|(show ∀ _:Nat,T _ _ _ _ _;intro _))
  refine T_if rfl (fun h3=>?_) (fun h3=>?_)
  ·simp only [decide_eq_true_eq] at h3
   have hbit:=bit_law c (by omega) s (by omega)
   have hsu:=bitsP_succ c s
   repeat' (first|refine d1 ?_|refine dd ?_|(show T _ (.ops _ (_::_)::_) _ _ _;first|refine T_val rfl (Val.bits rfl (fun _=>by omega)) rfl rfl rfl ?_|refine T_valC rfl (Val.bits rfl (fun _=>by omega)) rfl rfl rfl rfl rfl ?_|refine T_val rfl (Val.bits rfl (fun _=>trivial)) rfl rfl rfl ?_|refine T_valC rfl (Val.bits rfl (fun _=>trivial)) rfl rfl rfl rfl rfl ?_)|(show T _ (.run _ _ (_::_) _ _::_) _ _ _;first|refine rv rfl rfl rfl (Val.bits rfl (fun _=>by omega)) rfl rfl rfl ?_|refine rg rfl rfl rfl (Val.bits rfl (fun _=>by omega)) rfl rfl rfl rfl rfl ?_|refine rv rfl rfl rfl (Val.bits rfl (fun _=>trivial)) rfl rfl rfl ?_|refine rg rfl rfl rfl (Val.bits rfl (fun _=>trivial)) rfl rfl rfl rfl rfl ?_)|(show ∀ _:Nat,T _ _ _ _ _;intro _))
   rw [hbit]
   refine T_if rfl (fun h5=>?_) (fun h5=>?_)
   ·rw [if_pos h5] at hsu
    repeat' (first|refine d1 ?_|refine dd ?_|(show T _ (.ops _ (_::_)::_) _ _ _;refine T_op (OpT.append (A:=A5) rfl rfl rfl rfl rfl rfl rfl rfl rfl rfl (fun w hw=>Src.own hw rfl) rfl (by dsimp only;omega) (by omega) (fun A' cap' hA'=>?_)))|(show ∀ _:Nat,T _ _ _ _ _;intro _))
    refine T_backX (s+1,(A',cap')) (by dsimp only;omega) (by dsimp only;omega) (hE:=⟨rfl,by dsimp only;rw [hsu,List.length_append];rfl,trivial⟩) (hG:=?_)
    dsimp only
    rw [hsu,List.length_append,intN_snoc,show [s].length=1 from rfl]
    exact Hle.srt
   ·rw [if_neg (by rw [h5];simp),List.append_nil] at hsu
    repeat' (first|refine d1 ?_|refine dd ?_|(show ∀ _:Nat,T _ _ _ _ _;intro _))
    exact T_backX (s+1,(A5,cap5)) (by dsimp only;omega) (by dsimp only;omega) (hE:=⟨rfl,by dsimp only;rw [hsu];rfl,trivial⟩) (hG:=by dsimp only;rw [hsu];exact Hle.refl _)
  ·simp only [decide_eq_false_iff_not] at h3
   obtain rfl:s=n:=by omega
   have hbe:bitsP c s=bitsL s c:=rfl
   rw [hbe] at hbl ⊢
   repeat' (first|refine d1 ?_|refine dd ?_|(show ∀ _:Nat,T _ _ _ _ _;intro _))
   refine T_if rfl (fun h5=>?_) (fun h5=>?_)
   ·simp only [decide_eq_true_eq] at h5
    have hsu:=allP_yes (n:=s) (c:=c) (by omega)
    repeat' (first|refine d1 ?_|refine dd ?_|(show T _ (.ops _ (_::_)::_) _ _ _;refine T_op (OpT.append (A:=A) rfl rfl rfl rfl rfl rfl rfl rfl rfl rfl (fun w hw=>Src.own hw rfl) rfl (by dsimp only;omega) (by omega) (fun A' cap' hA'=>?_)))|(show ∀ _:Nat,T _ _ _ _ _;intro _))
    refine T_backX (c+1,(A',cap'),hs++[.slice A5 (bitsL s c).length cap5]) ⟨by dsimp only;omega,fun _=>hA' (by omega)⟩ (by dsimp only;omega) (hE:=⟨rfl,by dsimp only;rw [hsu,List.length_append];rfl,trivial⟩) (hG:=?_)
    dsimp only
    rw [hsu,List.length_append,List.map_append,show [bitsL s c].length=1 from rfl,show [bitsL s c].map intN=[intN (bitsL s c)] from rfl]
    exact (Hle.srt (K:=[row 3 1 A5 cap5 (bitsL s c).length ((intN (bitsL s c)).map (Value.int .i64)),dat hs (((allP s c).map intN).map intsD),row 27 1 A' cap' ((allP s c).length+1) (hs++flatP [(0, .slice A5 (bitsL s c).length cap5)])])).trans (out_hle (cl:=intN (bitsL s c)) rfl)
   ·simp only [decide_eq_false_iff_not] at h5
    have hsu:=allP_no (n:=s) (c:=c) (by omega)
    repeat' (first|refine d1 ?_|refine dd ?_|(show ∀ _:Nat,T _ _ _ _ _;intro _))
    exact T_backX (c+1,(A,cap),hs) ⟨by dsimp only;omega,by dsimp only;rw [hsu];exact hA⟩ (by dsimp only;omega) (hE:=⟨rfl,by dsimp only;rw [hsu];rfl,trivial⟩) (hG:=by dsimp only;rw [hsu];exact Hle.tail _ _)
 ·simp only [decide_eq_false_iff_not] at h2
  obtain rfl:c=2 ^ n:=by omega
  rw [allP_all] at hal hA ⊢
  have hpos:0<(allL n).length:=by
   rw [(allL_perm h1 h4).length_eq]
   obtain rfl|rfl|rfl|rfl:n=1∨n=2∨n=3∨n=4:=by omega
   all_goals decide
  obtain⟨g,rfl⟩:=hA hpos
  have hms:∀ m∈allL n,m≠[]∧m.length≤1000:=fun m hm=>by
   have h9:=(allL_perm h1 h4).mem_iff.1 hm
   refine ⟨(mvL_ok h1 h4).ne m h9,?_⟩
   have h8:=pigeon2 n m ((mvL_ok h1 h4).nd m h9) ((mvL_ok h1 h4).lt m h9)
   omega
  refine T_le (Hle.perm (List.Perm.swap _ _ _)) ?_
  refine T_open fun p hp=>?_
  refine T_le (Hle.perm (List.Perm.swap _ _ _)) ?_
  have hp2:Rd (fr p) hs ((allL n).map fun m=>intsD (intN m)):=by rw [List.map_map] at hp;exact hp
  repeat' (first|refine d1 ?_|refine dd ?_|(show T _ (.ops _ (_::_)::_) _ _ _;refine T_op (OpT.callB rfl rfl rfl rfl rfl (sortM_spec hp2 rfl hpos (by omega) hms) (fun u R hR=>?_)))|(show ∀ _:Nat,T _ _ _ _ _;intro _))
  obtain⟨rfl,hs',ms',hp3,hpe,hso,rfl⟩:=hR
  obtain rfl:=mvL_sorted h1 h4 hpe hso
  have hl:(allL n).length=(mvL n).length:=(allL_perm h1 h4).length_eq
  rw [hl]
  have hp4:Rd (fr p) hs' (((mvL n).map intN).map intsD):=by rw [List.map_map];exact hp3
  refine T_le (Hle.weaken (i:=1) rfl (fz_dat hp4) rfl) ?_
  repeat' (first|refine d1 ?_|refine dd ?_|(show ∀ _:Nat,T _ _ _ _ _;intro _)|(show T _ (.code .ret::_) _ _ _;refine T_retV _ rfl dat_row ⟨_,trivial,rfl,by rfl⟩))
end Go.Proofs.YthadgaboakipoaaGreatDoor
namespace Go.Proofs.YthadgaboakipoaaGreatDoor
open Go.RowKit Go.Shelf Go.Proofs
set_option maxRecDepth 100000
set_option maxHeartbeats 1000000

def posL (ls v:List Nat) (Ms:List (List Nat)):List (List Nat):=Ms.filter (possM ls v)
theorem posL_yes {ls v m:List Nat} {Ms:List (List Nat)} {i:Nat} (h:Ms[i]?=some m) (hp:possM ls v m=true):posL ls v (Ms.take (i+1))=posL ls v (Ms.take i)++[m]:=by
 unfold posL
 rw [take_snoc _ _ _ h,List.filter_append,List.filter_cons,hp];rfl
theorem posL_no {ls v m:List Nat} {Ms:List (List Nat)} {i:Nat} (h:Ms[i]?=some m) (hp:possM ls v m=false):posL ls v (Ms.take (i+1))=posL ls v (Ms.take i):=by
 unfold posL
 rw [take_snoc _ _ _ h,List.filter_append,List.filter_cons,hp]
 exact List.append_nil _
theorem posL_get {ls v m:List Nat} {Ms:List (List Nat)} {i:Nat} (h:Ms[i]?=some m) (hp:possM ls v m=true):(posL ls v Ms)[(posL ls v (Ms.take i)).length]?=some m:=by
 have h1:posL ls v Ms=posL ls v (Ms.take (i+1))++posL ls v (Ms.drop (i+1)):=by
  unfold posL
  rw [← List.filter_append,List.take_append_drop]
 rw [h1,posL_yes h hp,List.append_assoc,List.getElem?_append_right (Nat.le_refl _),Nat.sub_self];rfl
theorem colMv_snoc (v:List Nat):∀ (m:List Nat) (s:Nat) (c:List Int),colMv v (m++[s]) c=(colMv v m c).set s (v.getD s 0:Nat)
 | [],s,c=>rfl
 | u::m,s,c=>by
  show colMv v (m++[s]) _=_
  rw [colMv_snoc v m s];rfl
theorem possM_snoc (ls v m:List Nat) (s:Nat):possM ls v (m++[s])=(possM ls v m && decide (v.getD s 0<ls.getD s 0)):=by
 unfold possM
 rw [List.all_append];simp
theorem atV_get (v:List Nat) {s:Nat} (hs:s<4):(atV v)[s]?=some (.int .i64 (v.getD s 0:Nat)):=by
 obtain rfl|rfl|rfl|rfl:s=0∨s=1∨s=2∨s=3:=by omega
 all_goals rfl
end Go.Proofs.YthadgaboakipoaaGreatDoor
namespace Go.Proofs.YthadgaboakipoaaGreatDoor
open Go.RowKit Go.Shelf Go.Proofs
set_option maxRecDepth 100000
set_option maxHeartbeats 1000000

theorem colT_ok {l:List TS} {v m:List Nat} (hv:v.length=l.length) (hm:∀ s∈m,s<l.length) (hp:possM (lens l) v m=true):ColOk l (colT v m):=by
 refine ⟨by rw [colT_len,hv],fun j z s hz hs=>?_⟩
 have hj:j<v.length:=by rw [hv];exact (List.getElem?_eq_some_iff.1 hs).1
 have h1:=colT_get (v:=v) (m:=m) hj
 rw [List.getD_eq_getElem?_getD,hz] at h1
 have h1':z=if j∈m then ((v.getD j 0:Nat):Int) else -1:=h1
 by_cases hjm:j∈m
 ·rw [if_pos hjm] at h1'
  have h2:=possM_iff.1 hp j hjm
  rw [show (lens l).getD j 0=s.n by rw [List.getD_eq_getElem?_getD,lens_get hs];rfl] at h2
  omega
 ·rw [if_neg hjm] at h1'
  omega
theorem foldB_ub {p:List Nat→Bool} {f:List Nat→Int} {B:Int} (hf:∀ m,f m≤B):∀ (ms:List (List Nat)) (a:Int),a≤B→foldB p f ms a≤B
 | [],a,h=>h
 | m::ms,a,h=>by
  show foldB p f ms (cond (p m) (bst a (f m)) a)≤B
  refine foldB_ub hf ms _ ?_
  have h1:=hf m
  have h2:=(bst_le (a:=a) (x:=f m)).2
  cases p m with
  | false=>exact h
  | true=>show bst a (f m)≤B;omega
theorem rsM_ub {K:List Int→Int} {B:Int} (h0:0≤B) (hK:∀ x,K x≤B) (ls:List Nat) (Ms:List (List Nat)):∀ f v,rsM K ls Ms f v≤B * f
 | 0,v=>by unfold rsM;simp
 | f+1,v=>by
  have h1:0≤B * (f+1:Nat):=Int.mul_nonneg h0 (by omega)
  have h2:=foldB_ub (p:=possM ls v) (f:=fun m=>K (colT v m)+rsM K ls Ms f (toM v m)) (B:=B * (f+1:Nat)) (fun m=>by
   have h3:=hK (colT v m)
   have h4:=rsM_ub h0 hK ls Ms f (toM v m)
   have h5:B * ((f+1:Nat):Int)=B * f+B:=by rw [show ((f+1:Nat):Int)=(f:Int)+1 by omega,Int.mul_add,Int.mul_one]
   omega) Ms (-1) (by omega)
  unfold rsM
  omega
theorem sumL_lens {l:List TS} (h:∀ t∈l,t.n≤1000):sumL (lens l)≤1000 * l.length:=by
 induction l with
 | nil=>exact Nat.zero_le _
 | cons t l ih =>
  have h1:=h t (.head _)
  have h2:=ih fun x hx=>h x (.tail _ hx)
  show t.n+sumL (lens l)≤_
  rw [List.length_cons]
  omega
theorem rsV_ub {c:Costs} (hc:costE c=0) {l:List TS} (h4:l.length≤4) (hb:∀ t∈l,t.n≤1000) (v:List Nat) (Ms:List (List Nat)):0≤rsV (colZ c l) (lens l) Ms v∧rsV (colZ c l) (lens l) Ms v≤4096000000:=by
 refine ⟨rsV_nn _ _ _ _,?_⟩
 unfold rsV
 have h1:=rsM_ub (K:=colZ c l) (B:=1024000) (by omega) (fun x=>(colZ_bd hc (by omega) x).2) (lens l) Ms (sumL (lens l) - sumL v) v
 have h2:=sumL_lens hb
 omega
theorem foldB_posL {ls v:List Nat} {f:List Nat→Int}:∀ (Ms:List (List Nat)) (a:Int),foldB (possM ls v) f (posL ls v Ms) a=foldB (possM ls v) f Ms a
 | [],a=>rfl
 | m::Ms,a=>by
  unfold posL
  rw [List.filter_cons]
  cases hp:possM ls v m with
  | true =>
   show foldB _ _ (posL ls v Ms) (cond (possM ls v m) _ _)=foldB _ _ Ms (cond (possM ls v m) _ _)
   exact foldB_posL Ms _
  | false =>
   show foldB _ _ (posL ls v Ms) a=foldB _ _ Ms (cond (possM ls v m) _ _)
   rw [hp]
   exact foldB_posL Ms _
theorem posL_mem {ls v m:List Nat} {Ms:List (List Nat)} (h:m∈posL ls v Ms):m∈Ms∧possM ls v m=true:=List.mem_filter.1 h
end Go.Proofs.YthadgaboakipoaaGreatDoor
namespace Go.Proofs.YthadgaboakipoaaGreatDoor
open Go.RowKit Go.Shelf Go.Proofs
set_option maxRecDepth 100000
set_option maxHeartbeats 1000000

def aln19 (c:Costs) (l:List TS):List (List Int) × Int × Int :=
 if usV c l≠0 then ([],0,usV c l) else if 4<l.length∨65536<volL (lens l) then ([],0,4) else (alnW c l,lstV c l,0)
theorem rdAt {w:World} {b:Nat} {L:List Int} (h:RdC w b 0 (L.map (Value.int .i64))) {q off:Nat} {z:Int} (ho:off=q) (hz:L[q]?=some z):RdC w b off [.int .i64 z]:=by
 subst ho
 refine RdC.one ?_
 have:=h off _ (by rw [List.getElem?_map,hz];rfl)
 rw [Nat.zero_add] at this
 exact this
theorem stp_pos {ls m:List Nat} (h:m≠[]) (hm:∀ s∈m,s<ls.length):0<(m.map (stpL ls)).sum:=by
 cases m with
 | nil=>exact absurd rfl h
 | cons s m =>
  have:=stpL_pos (hm s (.head _))
  rw [List.map_cons,List.sum_cons];omega
theorem numL_zero:∀ (ls:List Nat) (n:Nat),numL ls (List.replicate n 0)=0
 | [],n=>by cases n <;> rfl
 | _::ls,0=>rfl
 | _::ls,n+1=>by
  show 0 * _+numL ls (List.replicate n 0)=0
  rw [numL_zero ls n];simp
end Go.Proofs.YthadgaboakipoaaGreatDoor
namespace Go.Proofs.YthadgaboakipoaaGreatDoor
open Go.RowKit Go.Shelf Go.Proofs
set_option maxRecDepth 100000
set_option maxHeartbeats 1000000

theorem sameCols19_spec (x y:Value) (a b:List (List Int)) (w:World) (hx:Rd (wr w) [x] [rowsD a]) (hy:Rd (wr w) [y] [rowsD b]) :
  Spec Tryz.prog 32 [x,y] w (fun v R=>v = .bool (decide (a=b))∧R=[]):=by
 obtain⟨A,ca,cs,rfl,ha1,ha2,hcs,hA,hrA⟩:=hx.tab
 obtain⟨B,cb,ds,rfl,hb1,hb2,hds,hB,hrB⟩:=hy.tab
 refine spec_of sg Tryz.func32 rfl rfl rfl ?_
 repeat' (first|refine d1 ?_|refine dd ?_|(show ∀ _:Nat,T _ _ _ _ _;intro _))
 refine T_if rfl (fun h=>?_) (fun h=>?_)
 ·simp only [Bool.not_eq_true',decide_eq_false_iff_not] at h
  repeat' (first|refine d1 ?_|refine dd ?_|(show ∀ _:Nat,T _ _ _ _ _;intro _)|(show T _ (.code .ret::_) _ _ _;refine T_retV [] rfl (Hle.none _) ⟨?_,rfl⟩))
  rw [decide_eq_false (fun e=>h (by rw [e]))];rfl
 simp only [Bool.not_eq_false',decide_eq_true_eq] at h
 repeat' (first|refine d1 ?_|refine dd ?_|(show ∀ _:Nat,T _ _ _ _ _;intro _))
 refine T_loopX (fun k:Nat=>[(5, .int .i64 k)]) (fun _=>[]) (fun k=>k≤a.length∧∀ j,j<k→a[j]?=b[j]?) (fun k=>a.length - k) 0 ⟨by omega,fun j h=>by omega⟩ ?_
 rintro k ⟨hk,hok⟩
 repeat' (first|refine d1 ?_|refine dd ?_|(show ∀ _:Nat,T _ _ _ _ _;intro _))
 refine T_if rfl (fun h3=>?_) (fun h3=>?_)
 ·simp only [decide_eq_true_eq] at h3
  obtain⟨b1,o1,rfl,hA2⟩:=hA (by omega)
  obtain⟨b2,o2,rfl,hB2⟩:=hB (by omega)
  obtain⟨p,hp⟩:∃ u,a[k]?=some u:=⟨_,List.getElem?_eq_getElem (by omega)⟩
  obtain⟨q,hq⟩:∃ v,b[k]?=some v:=⟨_,List.getElem?_eq_getElem (by omega)⟩
  obtain⟨A',capA,hcA,hlA,hmA,hA3⟩:=hrA.tabRow hp
  obtain⟨B',capB,hcB,hlB,hmB,hB3⟩:=hrB.tabRow hq
  have hr1:RdC w b1 (o1+(k:Int).toNat * 1) [.slice A' p.length capA]:=RdC.one (by rw [off1];exact hA2 k _ hcA)
  have hr2:RdC w b2 (o2+(k:Int).toNat * 1) [.slice B' q.length capB]:=RdC.one (by rw [off1];exact hB2 k _ hcB)
  repeat' (first|refine d1 ?_|refine dd ?_|(show ∀ _:Nat,T _ _ _ _ _;intro _))
  refine T_if rfl (fun h4=>?_) (fun h4=>?_)
  ·simp only [Bool.not_eq_true',decide_eq_false_iff_not] at h4
   repeat' (first|refine d1 ?_|refine dd ?_|(show ∀ _:Nat,T _ _ _ _ _;intro _)|(show T _ (.code .ret::_) _ _ _;refine T_retV [] rfl (Hle.none _) ⟨?_,rfl⟩))
   rw [decide_eq_false (fun e=>h4 (by rw [e,hq] at hp;rw [Option.some.inj hp]))];rfl
  simp only [Bool.not_eq_false',decide_eq_true_eq] at h4
  repeat' (first|refine d1 ?_|refine dd ?_|(show ∀ _:Nat,T _ _ _ _ _;intro _))
  refine T_loopX (fun i:Nat=>[(6, .int .i64 i)]) (fun _=>[]) (fun i=>i≤p.length∧∀ j,j<i→p[j]?=q[j]?) (fun i=>p.length - i) 0 ⟨by omega,fun j h=>by omega⟩ ?_
  rintro i ⟨hi,hoki⟩
  repeat' (first|refine d1 ?_|refine dd ?_|(show ∀ _:Nat,T _ _ _ _ _;intro _))
  refine T_if rfl (fun h5=>?_) (fun h5=>?_)
  ·simp only [decide_eq_true_eq] at h5
   obtain⟨b3,o3,rfl,hA4⟩:=hA3 (by omega)
   obtain⟨b4,o4,rfl,hB4⟩:=hB3 (by omega)
   obtain⟨u,hu⟩:∃ u,p[i]?=some u:=⟨_,List.getElem?_eq_getElem (by omega)⟩
   obtain⟨v,hv⟩:∃ v,q[i]?=some v:=⟨_,List.getElem?_eq_getElem (by omega)⟩
   have hr3:RdC w b3 (o3+(i:Int).toNat * 1) [.int .i64 u]:=RdC.one (by rw [off1];exact hA4 i _ hu)
   have hr4:RdC w b4 (o4+(i:Int).toNat * 1) [.int .i64 v]:=RdC.one (by rw [off1];exact hB4 i _ hv)
   repeat' (first|refine d1 ?_|refine dd ?_|(show ∀ _:Nat,T _ _ _ _ _;intro _))
   refine T_if rfl (fun h6=>?_) (fun h6=>?_)
   ·simp only [Bool.not_eq_true',decide_eq_false_iff_not] at h6
    repeat' (first|refine d1 ?_|refine dd ?_|(show ∀ _:Nat,T _ _ _ _ _;intro _)|(show T _ (.code .ret::_) _ _ _;refine T_retV [] rfl (Hle.none _) ⟨?_,rfl⟩))
    rw [decide_eq_false (fun e=>h6 (by rw [e,hq] at hp;rw [Option.some.inj hp,hu] at hv;exact Option.some.inj hv))];rfl
   ·simp only [Bool.not_eq_false',decide_eq_true_eq] at h6
    repeat' (first|refine d1 ?_|refine dd ?_|(show ∀ _:Nat,T _ _ _ _ _;intro _))
    refine T_backX (i+1) ⟨by omega,fun j hj=>?_⟩ (by omega)
    rcases Nat.lt_or_ge j i with h7|h7
    ·exact hoki j h7
    ·rw [show j=i by omega,hu,hv,h6]
  ·simp only [decide_eq_false_iff_not] at h5
   repeat' (first|refine d1 ?_|refine dd ?_|(show ∀ _:Nat,T _ _ _ _ _;intro _))
   refine T_backX (k+1) ⟨by omega,fun j hj=>?_⟩ (by omega)
   rcases Nat.lt_or_ge j k with h7|h7
   ·exact hok j h7
   ·rw [show j=k by omega,hp,hq,list_eq_of (by omega) fun j hj=>hoki j (by omega)]
 ·simp only [decide_eq_false_iff_not] at h3
  repeat' (first|refine d1 ?_|refine dd ?_|(show ∀ _:Nat,T _ _ _ _ _;intro _)|(show T _ (.code .ret::_) _ _ _;refine T_retV [] rfl (Hle.none _) ⟨?_,rfl⟩))
  rw [decide_eq_true (list_eq_of (by omega) fun j hj=>hok j (by omega))];rfl
end Go.Proofs.YthadgaboakipoaaGreatDoor
namespace Go.Proofs.YthadgaboakipoaaGreatDoor
open Go.RowKit Go.Shelf Go.Proofs
set_option maxRecDepth 100000
set_option maxHeartbeats 1000000

end Go.Proofs.YthadgaboakipoaaGreatDoor
namespace Go.Proofs.YthadgaboakipoaaGreatDoor
open Go.RowKit Go.Shelf Go.Proofs
set_option maxRecDepth 100000
set_option maxHeartbeats 1000000

def long15 (s:ByteArray):Bool:=decide (12<s.size∧s.size≤64∨66<s.size)
theorem long15_spec (s:ByteArray) (w:World):Spec Tryz.prog 158 [.string s] w (fun v R=>v = .bool (long15 s)∧R=[]):=by
 refine spec_of sg Tryz.func158 rfl rfl rfl ?_
 repeat' (first|refine d1 ?_|refine dd ?_|(show ∀ _:Nat,T _ _ _ _ _;intro _)|(show T _ (.code .ret::_) _ _ _;refine T_retV [] rfl (Hle.none _) ⟨congrArg Value.bool ?_,rfl⟩))
 unfold long15
 rw [Bool.eq_iff_iff]
 simp
 omega
def long15T (t:Tok):Bool:=long15 t.text || long15 t.norm || long15 t.name || long15 t.page
theorem long15T_small {t:Tok} (h:long15T t=false):t.small:=by
 simp only [long15T,long15,Bool.or_eq_false_iff,decide_eq_false_iff_not] at h
 unfold Tok.small;omega
def great15B (l:List Tok) (m:Nat):Bool:=decide (m<l.length∧l.length≤1024∨1026<l.length) || l.any long15T
theorem great15_spec (A:Option Addr) (n ca:Nat) (l:List Tok) (m:Nat) (w:World) (hs:Src w 6 A n (l.flatMap Tok.cells)) (hn:l.length=n) (hb:n≤9223372036854775807) (hm:m≤1000) :
  Spec Tryz.prog 103 [.slice A n ca, .int .i64 (m:Nat)] w (fun v R=>v = .bool (great15B l m)∧R=[]):=by
 refine spec_of sg Tryz.func103 rfl rfl rfl ?_
 repeat' (first|refine d1 ?_|refine dd ?_|(show ∀ _:Nat,T _ _ _ _ _;intro _))
 refine T_if rfl (fun h=>?_) (fun h=>?_)
 ·have h9:m<l.length∧l.length≤1024∨1026<l.length:=by simp at h;omega
  repeat' (first|refine d1 ?_|refine dd ?_|(show ∀ _:Nat,T _ _ _ _ _;intro _)|(show T _ (.code .ret::_) _ _ _;refine T_retV [] rfl (Hle.none _) ⟨congrArg Value.bool ?_,rfl⟩))
  unfold great15B;rw [decide_eq_true h9];rfl
 have h9:¬ (m<l.length∧l.length≤1024∨1026<l.length):=by simp at h;omega
 repeat' (first|refine d1 ?_|refine dd ?_|(show ∀ _:Nat,T _ _ _ _ _;intro _))
 refine T_loopX (fun k:Nat=>[(5, .int .i64 k)]) (fun _=>[]) (fun k=>k≤n∧∀ j,j<k→long15T (tkA l j)=false) (fun k=>n - k) 0 ⟨by omega,fun j h=>by omega⟩ ?_
 rintro k ⟨hk,hok⟩
 repeat' (first|refine d1 ?_|refine dd ?_|(show ∀ _:Nat,T _ _ _ _ _;intro _))
 refine T_if rfl (fun h=>?_) (fun h=>?_)
 ·simp only [decide_eq_true_eq] at h
  obtain⟨b,o,rfl⟩:=hs.base (by omega)
  have hr:RdC w b (o+(k:Int).toNat * 6) (tkA l k).cells:=hs.getT (by omega) (tkA_get (by omega))
  repeat' (first|refine d1 ?_|refine dd ?_|(show T _ (.ops _ (_::_)::_) _ _ _;first|refine T_call rfl rfl rfl rfl rfl (fun w hw=>long15_spec (tkA l k).text w) ?_|refine T_callC rfl rfl rfl rfl rfl rfl rfl (fun hg w hw=>long15_spec (tkA l k).text w) ?_|refine T_call rfl rfl rfl rfl rfl (fun w hw=>long15_spec (tkA l k).norm w) ?_|refine T_callC rfl rfl rfl rfl rfl rfl rfl (fun hg w hw=>long15_spec (tkA l k).norm w) ?_|refine T_call rfl rfl rfl rfl rfl (fun w hw=>long15_spec (tkA l k).name w) ?_|refine T_callC rfl rfl rfl rfl rfl rfl rfl (fun hg w hw=>long15_spec (tkA l k).name w) ?_|refine T_call rfl rfl rfl rfl rfl (fun w hw=>long15_spec (tkA l k).page w) ?_|refine T_callC rfl rfl rfl rfl rfl rfl rfl (fun hg w hw=>long15_spec (tkA l k).page w) ?_)|(show T _ (.run _ _ (_::_) _ _::_) _ _ _;first|refine rc rfl rfl rfl rfl rfl rfl rfl (fun w hw=>long15_spec (tkA l k).text w) ?_|refine rcG rfl rfl rfl rfl rfl rfl rfl rfl rfl (fun hg w hw=>long15_spec (tkA l k).text w) ?_|refine rc rfl rfl rfl rfl rfl rfl rfl (fun w hw=>long15_spec (tkA l k).norm w) ?_|refine rcG rfl rfl rfl rfl rfl rfl rfl rfl rfl (fun hg w hw=>long15_spec (tkA l k).norm w) ?_|refine rc rfl rfl rfl rfl rfl rfl rfl (fun w hw=>long15_spec (tkA l k).name w) ?_|refine rcG rfl rfl rfl rfl rfl rfl rfl rfl rfl (fun hg w hw=>long15_spec (tkA l k).name w) ?_|refine rc rfl rfl rfl rfl rfl rfl rfl (fun w hw=>long15_spec (tkA l k).page w) ?_|refine rcG rfl rfl rfl rfl rfl rfl rfl rfl rfl (fun hg w hw=>long15_spec (tkA l k).page w) ?_)|(show ∀ _:Nat,T _ _ _ _ _;intro _))
  refine T_if rfl (fun h2=>?_) (fun h2=>?_)
  ·repeat' (first|refine d1 ?_|refine dd ?_|(show ∀ _:Nat,T _ _ _ _ _;intro _)|(show T _ (.code .ret::_) _ _ _;refine T_retV [] rfl (Hle.none _) ⟨congrArg Value.bool ?_,rfl⟩))
   have h8:long15T (tkA l k)=true:=h2
   have:l.any long15T=true:=List.any_eq_true.2 ⟨_,tkA_mem (by omega),h8⟩
   unfold great15B;rw [this,Bool.or_true]
  ·repeat' (first|refine d1 ?_|refine dd ?_|(show ∀ _:Nat,T _ _ _ _ _;intro _))
   refine T_backX (k+1) ⟨by omega,fun j hj=>?_⟩ (by omega)
   rcases Nat.lt_or_ge j k with h3|h3
   ·exact hok j h3
   ·rw [show j=k by omega];exact h2
 ·simp only [decide_eq_false_iff_not] at h
  have:l.any long15T=false:=List.any_eq_false.2 fun t ht=>by
   obtain⟨i,hi,e⟩:=List.getElem_of_mem ht
   have h3:=hok i (by omega)
   have e2:=tkA_get hi
   rw [List.getElem?_eq_getElem hi,e] at e2
   rw [Option.some.inj e2,h3];simp
  repeat' (first|refine d1 ?_|refine dd ?_|(show ∀ _:Nat,T _ _ _ _ _;intro _)|(show T _ (.code .ret::_) _ _ _;refine T_retV [] rfl (Hle.none _) ⟨congrArg Value.bool ?_,rfl⟩))
  unfold great15B;rw [this,decide_eq_false h9];rfl
def great19B (l:List TS) (n m:Nat):Bool:=decide (n<l.length∧l.length≤32∨34<l.length) || l.any fun t=>great15B t.l m
theorem great19_spec (A:Option Addr) (n c:Nat) (l:List TS) (q m:Nat) (w:World) (hs:Src w 1 A n (l.map TS.val)) (hn:l.length=n) (hb:n≤9223372036854775807) (hl:TsOk w l) (hq:q≤1000) (hm:m≤1000) :
  Spec Tryz.prog 51 [.slice A n c, .int .i64 (q:Nat), .int .i64 (m:Nat)] w (fun v R=>v = .bool (great19B l q m)∧R=[]):=by
 refine spec_of sg Tryz.func51 rfl rfl rfl ?_
 repeat' (first|refine d1 ?_|refine dd ?_|(show ∀ _:Nat,T _ _ _ _ _;intro _))
 refine T_if rfl (fun h=>?_) (fun h=>?_)
 ·have h9:q<l.length∧l.length≤32∨34<l.length:=by simp at h;omega
  repeat' (first|refine d1 ?_|refine dd ?_|(show ∀ _:Nat,T _ _ _ _ _;intro _)|(show T _ (.code .ret::_) _ _ _;refine T_retV [] rfl (Hle.none _) ⟨congrArg Value.bool ?_,rfl⟩))
  unfold great19B;rw [decide_eq_true h9];rfl
 have h9:¬ (q<l.length∧l.length≤32∨34<l.length):=by simp at h;omega
 repeat' (first|refine d1 ?_|refine dd ?_|(show ∀ _:Nat,T _ _ _ _ _;intro _))
 refine T_loopX (fun k:Nat=>[(7, .int .i64 k)]) (fun _=>[]) (fun k=>k≤n∧∀ i x,i<k→l[i]?=some x→great15B x.l m=false) (fun k=>n - k) 0 ⟨Nat.zero_le _,fun i x h=>by omega⟩ ?_
 rintro k ⟨hk,hok⟩
 repeat' (first|refine d1 ?_|refine dd ?_|(show ∀ _:Nat,T _ _ _ _ _;intro _))
 refine T_if rfl (fun h=>?_) (fun h=>?_)
 ·simp only [decide_eq_true_eq] at h
  have hkn:k<n:=by omega
  obtain⟨b,o,rfl⟩:=hs.base (by omega)
  obtain⟨t,ht⟩:∃ t,l[k]?=some t:=⟨_,List.getElem?_eq_getElem (by omega)⟩
  have htm:=List.mem_of_getElem? ht
  have hr:RdC w b (o+(k:Int).toNat * 1) [.slice t.A t.n t.cap]:=by
   have h9:=(hs.get1 (i:=k) hkn (by rw [List.getElem?_map,ht];rfl)).2
   rw [Nat.mul_one] at h9
   rw [off1]
   exact h9
  repeat' (first|refine d1 ?_|refine dd ?_|(show T _ (.ops _ (_::_)::_) _ _ _;first|refine T_call rfl rfl rfl rfl rfl (fun w hw=>great15_spec t.A t.n t.cap t.l m w (rdSrc (hl.src t htm) w hw) (hl.len t htm) (hl.bd t htm) hm) ?_|refine T_callC rfl rfl rfl rfl rfl rfl rfl (fun hg w hw=>great15_spec t.A t.n t.cap t.l m w (rdSrc (hl.src t htm) w hw) (hl.len t htm) (hl.bd t htm) hm) ?_)|(show T _ (.run _ _ (_::_) _ _::_) _ _ _;first|refine rc rfl rfl rfl rfl rfl rfl rfl (fun w hw=>great15_spec t.A t.n t.cap t.l m w (rdSrc (hl.src t htm) w hw) (hl.len t htm) (hl.bd t htm) hm) ?_|refine rcG rfl rfl rfl rfl rfl rfl rfl rfl rfl (fun hg w hw=>great15_spec t.A t.n t.cap t.l m w (rdSrc (hl.src t htm) w hw) (hl.len t htm) (hl.bd t htm) hm) ?_)|(show ∀ _:Nat,T _ _ _ _ _;intro _))
  refine T_if rfl (fun h1=>?_) (fun h1=>?_)
  ·repeat' (first|refine d1 ?_|refine dd ?_|(show ∀ _:Nat,T _ _ _ _ _;intro _)|(show T _ (.code .ret::_) _ _ _;refine T_retV [] rfl (Hle.refl _) ⟨congrArg Value.bool ?_,rfl⟩))
   unfold great19B
   rw [List.any_eq_true.2 ⟨t,htm,h1⟩,Bool.or_true]
  ·repeat' (first|refine d1 ?_|refine dd ?_|(show ∀ _:Nat,T _ _ _ _ _;intro _))
   refine T_backX (k+1) ⟨by omega,fun i y hi hy=>?_⟩ (by omega)
   rcases Nat.lt_or_ge i k with h2|h2
   ·exact hok i y h2 hy
   ·rw [show i=k by omega,ht] at hy
    cases hy
    exact h1
 ·simp only [decide_eq_false_iff_not] at h
  repeat' (first|refine d1 ?_|refine dd ?_|(show ∀ _:Nat,T _ _ _ _ _;intro _)|(show T _ (.code .ret::_) _ _ _;refine T_retV [] rfl (Hle.refl _) ⟨congrArg Value.bool ?_,rfl⟩))
  have e:(l.any fun t=>great15B t.l m)=false:=List.any_eq_false.2 fun t ht=>by
   obtain⟨i,hi,e⟩:=List.getElem_of_mem ht
   rw [Bool.not_eq_true]
   exact hok i t (by omega) (by rw [List.getElem?_eq_getElem hi,e])
  unfold great19B
  rw [e,decide_eq_false h9];rfl
theorem great19_no {w:World} {l:List TS} (hl:TsOk w l) {n m:Nat} (h:great19B l n m=false):(l.length≤n∨32<l.length∧l.length≤34)∧(∀ t∈l,t.n≤m∨1024<t.n∧t.n≤1026)∧∀ t∈l,∀ x∈t.l,x.small:=by
 unfold great19B at h
 rw [Bool.or_eq_false_iff,decide_eq_false_iff_not,List.any_eq_false] at h
 refine ⟨by omega,fun t ht=>?_,fun t ht x hx=>?_⟩
 ·have h1:=h.2 t ht
  have h2:=hl.len t ht
  rw [Bool.not_eq_true] at h1
  unfold great15B at h1
  rw [Bool.or_eq_false_iff,decide_eq_false_iff_not] at h1
  omega
 ·have h1:=h.2 t ht
  rw [Bool.not_eq_true] at h1
  unfold great15B at h1
  rw [Bool.or_eq_false_iff,List.any_eq_false] at h1
  exact long15T_small (by simpa using h1.2 x hx)
def sizV:Nat→List Nat→Nat
 | a,[]=>a
 | a,n::ls=>if 1073741824<a * (n+1) then a * (n+1) else sizV (a * (n+1)) ls
theorem sizV_cons (a n:Nat) (ls:List Nat):sizV a (n::ls)=if 1073741824<a * (n+1) then a * (n+1) else sizV (a * (n+1)) ls:=rfl
theorem sizV_small:∀ (ls:List Nat) (a:Nat),a * volL ls≤1073741824→sizV a ls=a * volL ls
 | [],a,_=>(Nat.mul_one a).symm
 | n::ls,a,h=>by
  have h1:volL (n::ls)=(n+1) * volL ls:=rfl
  rw [h1, ← Nat.mul_assoc] at h ⊢
  have h2:=Nat.le_mul_of_pos_right (a * (n+1)) (volL_pos ls)
  unfold sizV
  rw [if_neg (by omega)]
  exact sizV_small ls _ h
theorem sizV_great:∀ (ls:List Nat) (a:Nat),1073741824<a * volL ls→1073741824<sizV a ls
 | [],a,h=>by have:a * volL []=a:=Nat.mul_one a;rw [this] at h;exact h
 | n::ls,a,h=>by
  have h1:volL (n::ls)=(n+1) * volL ls:=rfl
  rw [h1, ← Nat.mul_assoc] at h
  unfold sizV
  split
  ·assumption
  ·exact sizV_great ls _ h
theorem size19R_spec (A:Option Addr) (n ca:Nat) (l:List TS) (w:World) (hs:Src w 1 A n (l.map TS.val)) (hn:l.length=n) (hb:n≤34) (hq:∀ t∈l,t.n≤1026) :
  Spec Tryz.prog 104 [.slice A n ca] w (fun v R=>v = .int .i64 (sizV 1 (lens l):Nat)∧R=[]):=by
 have hll:=lens_len l
 refine spec_of sg Tryz.func104 rfl rfl rfl ?_
 repeat' (first|refine d1 ?_|refine dd ?_|(show ∀ _:Nat,T _ _ _ _ _;intro _))
 refine T_loopX (fun s:Nat × Nat=>[(4, .int .i64 (s.1:Nat)),(3, .int .i64 (s.2:Nat))]) (fun _=>[]) (fun s=>s.1≤n∧s.2≤1073741824∧sizV s.2 ((lens l).drop s.1)=sizV 1 (lens l)) (fun s=>n - s.1) (0,1) ⟨Nat.zero_le _,by decide,rfl⟩ ?_
 rintro⟨k,a⟩ ⟨hk,ha,hv⟩
 dsimp only at hk ha hv ⊢
 repeat' (first|refine d1 ?_|refine dd ?_|(show ∀ _:Nat,T _ _ _ _ _;intro _))
 refine T_if rfl (fun h=>?_) (fun h=>?_)
 ·simp only [decide_eq_true_eq] at h
  have hkn:k<n:=by omega
  obtain⟨b,o,rfl⟩:=hs.base (by omega)
  obtain⟨t,ht⟩:∃ t,l[k]?=some t:=⟨_,List.getElem?_eq_getElem (by omega)⟩
  have htq:=hq t (List.mem_of_getElem? ht)
  have hr:RdC w b (o+(k:Int).toNat * 1) [.slice t.A t.n t.cap]:=by
   have h9:=(hs.get1 (i:=k) hkn (by rw [List.getElem?_map,ht];rfl)).2
   rw [Nat.mul_one] at h9
   rw [off1]
   exact h9
  have hd:(lens l).drop k=t.n::(lens l).drop (k+1):=by
   obtain⟨h1,e⟩:=List.getElem?_eq_some_iff.1 (lens_get ht)
   rw [List.drop_eq_getElem_cons h1,e]
  have e:(a:Int) * ((t.n:Int)+1)=((a * (t.n+1):Nat):Int):=by simp
  have hbd:a * (t.n+1)≤1073741824 * 1027:=Nat.mul_le_mul ha (by omega)
  rw [hd,sizV_cons] at hv
  repeat' (first|refine d1 ?_|refine dd ?_|(show ∀ _:Nat,T _ _ _ _ _;intro _))
  rw [e]
  refine T_if rfl (fun h1=>?_) (fun h1=>?_)
  ·simp only [decide_eq_true_eq] at h1
   rw [if_pos (by omega)] at hv
   repeat' (first|refine d1 ?_|refine dd ?_|(show ∀ _:Nat,T _ _ _ _ _;intro _)|(show T _ (.code .ret::_) _ _ _;refine T_retV [] rfl (Hle.none _) ⟨by rw [← hv];rfl,rfl⟩))
  ·simp only [decide_eq_false_iff_not] at h1
   rw [if_neg (by omega)] at hv
   repeat' (first|refine d1 ?_|refine dd ?_|(show ∀ _:Nat,T _ _ _ _ _;intro _))
   exact T_backX (k+1,a * (t.n+1)) ⟨by dsimp only;omega,by dsimp only;omega,hv⟩ (by dsimp only;omega)
 ·simp only [decide_eq_false_iff_not] at h
  rw [List.drop_of_length_le (by omega)] at hv
  have hv2:a=sizV 1 (lens l):=hv
  repeat' (first|refine d1 ?_|refine dd ?_|(show ∀ _:Nat,T _ _ _ _ _;intro _)|(show T _ (.code .ret::_) _ _ _;refine T_retV [] rfl (Hle.none _) ⟨by rw [← hv2];rfl,rfl⟩))
def wideB (l:List TS) (q:Nat):Bool:=decide (l.length≤4∧q<volL (lens l)∧volL (lens l)≤65536)
theorem wide19_spec (A:Option Addr) (n ca:Nat) (l:List TS) (q:Nat) (w:World) (hs:Src w 1 A n (l.map TS.val)) (hn:l.length=n) (hb:n≤34) (hq:∀ t∈l,t.n≤1026) (hq2:q≤1000) :
  Spec Tryz.prog 52 [.slice A n ca, .int .i64 (q:Nat)] w (fun v R=>v = .bool (wideB l q)∧R=[]):=by
 refine spec_of sg Tryz.func52 rfl rfl rfl ?_
 repeat' (first|refine d1 ?_|refine dd ?_|(show T _ (.ops _ (_::_)::_) _ _ _;first|refine T_call rfl rfl rfl rfl rfl (fun w hw=>size19R_spec A n ca l w (rdSrc hs w hw) hn hb hq) ?_|refine T_callC rfl rfl rfl rfl rfl rfl rfl (fun hg w hw=>size19R_spec A n ca l w (rdSrc hs w hw) hn hb hq) ?_)|(show T _ (.run _ _ (_::_) _ _::_) _ _ _;first|refine rc rfl rfl rfl rfl rfl rfl rfl (fun w hw=>size19R_spec A n ca l w (rdSrc hs w hw) hn hb hq) ?_|refine rcG rfl rfl rfl rfl rfl rfl rfl rfl rfl (fun hg w hw=>size19R_spec A n ca l w (rdSrc hs w hw) hn hb hq) ?_)|(show ∀ _:Nat,T _ _ _ _ _;intro _)|(show T _ (.code .ret::_) _ _ _;refine T_retV [] rfl (Hle.none _) ⟨congrArg Value.bool ?_,rfl⟩))
 unfold wideB
 rw [Bool.eq_iff_iff]
 rcases Nat.lt_or_ge 1073741824 (volL (lens l)) with h|h
 ·have h1:=sizV_great (lens l) 1 (by omega)
  simp
  omega
 ·have h1:=sizV_small (lens l) 1 (by omega)
  rw [Nat.one_mul] at h1
  rw [h1]
  simp
  omega
theorem srcsBig_spec (A:Option Addr) (n ca:Nat) (l:List TS) (w:World) (hs:Src w 1 A n (l.map TS.val)) (hn:l.length=n) (hb:n≤1000) (h0:n≠0) (hbig:32<n∨∃ t∈l,1024<t.n) :
  Spec Tryz.prog 118 [.slice A n ca] w (fun v R=>v = .int .i64 4∧R=[]):=by
 refine spec_of sg Tryz.func118 rfl rfl rfl ?_
 have hyes:32<n∨(l.any fun t=>decide ((1024:Int)<t.n))=true:=hbig.imp id fun⟨t,ht,h⟩=>List.any_eq_true.2 ⟨t,ht,decide_eq_true (by omega)⟩
 repeat' (first|refine d1 ?_|refine dd ?_|(show ∀ _:Nat,T _ _ _ _ _;intro _))
 refine T_if rfl (fun h=>?_) (fun h=>?_)
 ·exfalso;simp at h;omega
 simp only [decide_eq_false_iff_not] at h
 repeat' (first|refine d1 ?_|refine dd ?_|(show T _ (.ops _ (_::_)::_) _ _ _;first|refine T_call rfl rfl rfl rfl rfl (fun w hw=>containsFuncS_spec A n ca l _ [] [] (fun t=>decide ((1024:Int)<t.n)) w (rdSrc hs w hw) hn (by omega) (fun x hx w' hb'=>srcs19a_spec x w')) ?_|refine T_callC rfl rfl rfl rfl rfl rfl rfl (fun hg w hw=>containsFuncS_spec A n ca l _ [] [] (fun t=>decide ((1024:Int)<t.n)) w (rdSrc hs w hw) hn (by omega) (fun x hx w' hb'=>srcs19a_spec x w')) ?_)|(show T _ (.run _ _ (_::_) _ _::_) _ _ _;first|refine rc rfl rfl rfl rfl rfl rfl rfl (fun w hw=>containsFuncS_spec A n ca l _ [] [] (fun t=>decide ((1024:Int)<t.n)) w (rdSrc hs w hw) hn (by omega) (fun x hx w' hb'=>srcs19a_spec x w')) ?_|refine rcG rfl rfl rfl rfl rfl rfl rfl rfl rfl (fun hg w hw=>containsFuncS_spec A n ca l _ [] [] (fun t=>decide ((1024:Int)<t.n)) w (rdSrc hs w hw) hn (by omega) (fun x hx w' hb'=>srcs19a_spec x w')) ?_)|(show ∀ _:Nat,T _ _ _ _ _;intro _))
 refine T_if rfl (fun h1=>?_) (fun h1=>?_)
 ·repeat' (first|refine d1 ?_|refine dd ?_|(show ∀ _:Nat,T _ _ _ _ _;intro _)|(show T _ (.code .ret::_) _ _ _;refine T_retV [] rfl (Hle.refl _) ⟨rfl,rfl⟩))
 ·exfalso
  rcases hyes with h2|h2
  ·simp at h1;omega
  ·rw [h2] at h1;simp at h1
theorem sumL_lensQ {l:List TS} {q:Nat} (h:∀ t∈l,t.n≤q):sumL (lens l)≤q * l.length:=by
 induction l with
 | nil=>exact Nat.zero_le _
 | cons t l ih =>
  have h1:=h t (.head _)
  have h2:=ih fun x hx=>h x (.tail _ hx)
  show t.n+sumL (lens l)≤_
  rw [List.length_cons,Nat.mul_add]
  omega
end Go.Proofs.YthadgaboakipoaaGreatDoor
namespace Go.Proofs.YthadgaboakipoaaGreatDoor
open Go.RowKit Go.Shelf Go.Proofs

def mxOf:Int→List Int→Int
 | a,[]=>a
 | a,x::l=>mxOf (max a x) l
end Go.Proofs.YthadgaboakipoaaGreatDoor
namespace Go.Proofs.YthadgaboakipoaaGreatDoor
open Go.RowKit Go.Shelf Go.Proofs
set_option maxRecDepth 100000
set_option maxHeartbeats 1000000

theorem mxOfnt_spec (A:Option Addr) (n ca:Nat) (a:Int) (r:List Int) (w:World) (hs:Src w 1 A n ((a::r).map (Value.int .i64))) (hn:(a::r).length=n) (hb:n≤1000) :
  Spec Tryz.prog 121 [.slice A n ca] w (fun v R=>v = .int .i64 (mxOf a r)∧R=[]):=by
 have hn2:r.length+1=n:=hn
 obtain⟨b,o,rfl⟩:=hs.base (by omega)
 have hr0:=src_int hs (k:=0) (x:=a) (by omega) rfl
 refine spec_of sg Tryz.func121 rfl rfl rfl ?_
 repeat' (first|refine d1 ?_|refine dd ?_|(show ∀ _:Nat,T _ _ _ _ _;intro _))
 refine T_if rfl (fun h=>by exfalso;simp at h;omega) (fun _=>?_)
 repeat' (first|refine d1 ?_|refine dd ?_|(show T _ (.ops _ (_::_)::_) _ _ _;first|refine T_val rfl (Val.load rfl (fun hg=>rdOld hr0)) rfl rfl rfl ?_|refine T_valC rfl (Val.load rfl (fun hg=>rdOld hr0)) rfl rfl rfl rfl rfl ?_)|(show T _ (.run _ _ (_::_) _ _::_) _ _ _;first|refine rv rfl rfl rfl (Val.load rfl (fun hg=>rdOld hr0)) rfl rfl rfl ?_|refine rg rfl rfl rfl (Val.load rfl (fun hg=>rdOld hr0)) rfl rfl rfl rfl rfl ?_)|(show ∀ _:Nat,T _ _ _ _ _;intro _))
 refine T_loopX (fun s:Nat × Int=>[(4, .int .i64 (s.1:Nat)),(3, .int .i64 s.2)]) (fun _=>[]) (fun s=>1≤s.1∧s.1≤n∧mxOf s.2 (r.drop (s.1 - 1))=mxOf a r) (fun s=>n - s.1) (1,a) ⟨Nat.le_refl _,by dsimp only;omega,rfl⟩ ?_
 rintro⟨k,m⟩ ⟨hk1,hk,hm⟩
 dsimp only at hk1 hk hm ⊢
 repeat' (first|refine d1 ?_|refine dd ?_|(show ∀ _:Nat,T _ _ _ _ _;intro _))
 refine T_if rfl (fun h=>?_) (fun h=>?_)
 ·simp only [decide_eq_true_eq] at h
  have hkn:k<n:=by omega
  obtain⟨z,hz⟩:∃ z,r[k - 1]?=some z:=⟨_,List.getElem?_eq_getElem (by omega)⟩
  have hz2:(a::r)[k]?=some z:=by
   obtain⟨j,rfl⟩:∃ j,k=j+1:=⟨k - 1,by omega⟩
   exact hz
  have hr1:=src_int hs hkn hz2
  have hd:r.drop (k - 1)=z::r.drop (k - 1+1):=by
   obtain⟨h1,e⟩:=List.getElem?_eq_some_iff.1 hz
   rw [List.drop_eq_getElem_cons h1,e]
  rw [hd] at hm
  repeat' (first|refine d1 ?_|refine dd ?_|(show ∀ _:Nat,T _ _ _ _ _;intro _))
  refine T_backX (k+1,max m z) ⟨by dsimp only;omega,by dsimp only;omega,?_⟩ (by dsimp only;omega)
  dsimp only
  rw [show k+1 - 1=k - 1+1 by omega]
  exact hm
 ·simp only [decide_eq_false_iff_not] at h
  rw [List.drop_of_length_le (by omega)] at hm
  have hm2:m=mxOf a r:=hm
  repeat' (first|refine d1 ?_|refine dd ?_|(show ∀ _:Nat,T _ _ _ _ _;intro _)|(show T _ (.code .ret::_) _ _ _;refine T_retV [] rfl (Hle.none _) ⟨by rw [hm2];rfl,rfl⟩))
end Go.Proofs.YthadgaboakipoaaGreatDoor
namespace Go.Proofs.YthadgaboakipoaaGreatDoor
open Go.RowKit Go.Shelf Go.Proofs

end Go.Proofs.YthadgaboakipoaaGreatDoor
namespace Go.Proofs.YthadgaboakipoaaGreatDoor
open Go.RowKit Go.Shelf Go.Proofs
set_option maxRecDepth 100000
set_option maxHeartbeats 1000000

end Go.Proofs.YthadgaboakipoaaGreatDoor
namespace Go.Proofs.YthadgaboakipoaaGreatDoor
open Go.RowKit Go.Shelf Go.Proofs
set_option maxRecDepth 100000
set_option maxHeartbeats 1000000

end Go.Proofs.YthadgaboakipoaaGreatDoor
namespace Go.Proofs.YthadgaboakipoaaGreatDoor
open Go.RowKit Go.Shelf Go.Proofs
set_option maxRecDepth 100000
set_option maxHeartbeats 1000000

def RvIn (l r:List Tok) (i:Nat):Prop:=r.length=l.length∧∀ k,k<l.length→r[k]?=if k<i∨l.length≤k+i then l[l.length - 1 - k]? else l[k]?
theorem RvIn.zero (l:List Tok):RvIn l l 0:=⟨rfl,fun k hk=>by rw [if_neg (by omega)]⟩
theorem RvIn.step {l r:List Tok} {i:Nat} (h:RvIn l r i) (hi:2 * i+1<l.length):RvIn l ((r.set i (tkA r (l.length - 1 - i))).set (l.length - 1 - i) (tkA r i)) (i+1):=by
 obtain⟨h1,h2⟩:=h
 have e1:r[l.length - 1 - i]?=l[l.length - 1 - i]?:=by rw [h2 _ (by omega),if_neg (by omega)]
 have e2:r[i]?=l[i]?:=by rw [h2 _ (by omega),if_neg (by omega)]
 refine ⟨by simp [h1],fun k hk=>?_⟩
 rw [List.getElem?_set,List.getElem?_set,List.length_set]
 by_cases hk1:l.length - 1 - i=k
 ·rw [if_pos hk1,if_pos (by omega),if_pos (by omega),show l.length - 1 - k=i by omega, ← e2,tkA_get (by omega)]
 ·rw [if_neg hk1]
  by_cases hk2:i=k
  ·subst hk2
   rw [if_pos rfl,if_pos (by omega),if_pos (by omega), ← e1,tkA_get (by omega)]
  ·rw [if_neg hk2,h2 k hk]
   by_cases h3:k<i∨l.length≤k+i
   ·rw [if_pos h3,if_pos (by omega)]
   ·rw [if_neg h3,if_neg (by omega)]
theorem RvIn.all {l r:List Tok} {i:Nat} (h:RvIn l r i) (hi:l.length≤2 * i+1):r=l.reverse:=by
 obtain⟨h1,h2⟩:=h
 apply List.ext_getElem?
 intro k
 by_cases hk:k<l.length
 ·rw [h2 k hk,List.getElem?_reverse hk]
  split
  ·rfl
  ·rw [show l.length - 1 - k=k by omega]
 ·rw [List.getElem?_eq_none (by omega),List.getElem?_eq_none (by simp;omega)]
end Go.Proofs.YthadgaboakipoaaGreatDoor
namespace Go.Proofs.YthadgaboakipoaaGreatDoor
open Go.RowKit Go.Shelf Go.Proofs
set_option maxRecDepth 100000
set_option maxHeartbeats 1000000

end Go.Proofs.YthadgaboakipoaaGreatDoor
namespace Go.Proofs.YthadgaboakipoaaGreatDoor
open Go.RowKit Go.Shelf Go.Proofs
set_option maxRecDepth 100000
set_option maxHeartbeats 1000000

theorem oneRows {R:Rdr}:∀ {m:List (List Int)} {cs:List Value},Rd R cs (m.map intsD)→oneCells cs=true
 | [],cs,h=>by cases h;rfl
 | r::m,[],h=>by cases h
 | r::m,x::cs,h=>by
  obtain⟨h1,h2⟩:=Rd.cons_inv (d:=intsD r) h
  obtain⟨A,cap,rfl,-⟩:=h1.row1
  show (true && oneCells cs)=true
  rw [oneRows h2];rfl
def RvS (l r:List TS) (i:Nat):Prop:=r.length=l.length∧∀ k,k<l.length→r[k]?=if k<i∨l.length≤k+i then l[l.length - 1 - k]? else l[k]?
theorem RvS.zero (l:List TS):RvS l l 0:=⟨rfl,fun k hk=>by rw [if_neg (by omega)]⟩
theorem tsA_get2 {l:List TS} {i:Nat} (h:i<l.length):l[i]?=some (tsA l i):=by unfold tsA;rw [List.getD_eq_getElem?_getD,List.getElem?_eq_getElem h];rfl
theorem RvS.step {l r:List TS} {i:Nat} (h:RvS l r i) (hi:2 * i+1<l.length):RvS l ((r.set i (tsA r (l.length - 1 - i))).set (l.length - 1 - i) (tsA r i)) (i+1):=by
 obtain⟨h1,h2⟩:=h
 have e1:r[l.length - 1 - i]?=l[l.length - 1 - i]?:=by rw [h2 _ (by omega),if_neg (by omega)]
 have e2:r[i]?=l[i]?:=by rw [h2 _ (by omega),if_neg (by omega)]
 refine ⟨by simp [h1],fun k hk=>?_⟩
 rw [List.getElem?_set,List.getElem?_set,List.length_set]
 by_cases hk1:l.length - 1 - i=k
 ·rw [if_pos hk1,if_pos (by omega),if_pos (by omega),show l.length - 1 - k=i by omega, ← e2,tsA_get2 (by omega)]
 ·rw [if_neg hk1]
  by_cases hk2:i=k
  ·subst hk2
   rw [if_pos rfl,if_pos (by omega),if_pos (by omega), ← e1,tsA_get2 (by omega)]
  ·rw [if_neg hk2,h2 k hk]
   by_cases h3:k<i∨l.length≤k+i
   ·rw [if_pos h3,if_pos (by omega)]
   ·rw [if_neg h3,if_neg (by omega)]
theorem RvS.all {l r:List TS} {i:Nat} (h:RvS l r i) (hi:l.length≤2 * i+1):r=l.reverse:=by
 obtain⟨h1,h2⟩:=h
 apply List.ext_getElem?
 intro k
 by_cases hk:k<l.length
 ·rw [h2 k hk,List.getElem?_reverse hk]
  split
  ·rfl
  ·rw [show l.length - 1 - k=k by omega]
 ·rw [List.getElem?_eq_none (by omega),List.getElem?_eq_none (by simp;omega)]
end Go.Proofs.YthadgaboakipoaaGreatDoor
namespace Go.Proofs.YthadgaboakipoaaGreatDoor
open Go.RowKit Go.Shelf Go.Proofs
set_option maxRecDepth 100000
set_option maxHeartbeats 1000000

structure PS where
 A:Option Addr
 n:Nat
 cap:Nat
 vs:List Value
@[reducible] def PS.val (p:PS):Value := .slice p.A p.n p.cap
end Go.Proofs.YthadgaboakipoaaGreatDoor
namespace Go.Proofs.YthadgaboakipoaaGreatDoor
open Go.RowKit Go.Shelf Go.Proofs
set_option maxRecDepth 100000
set_option maxHeartbeats 1000000

structure ColsAt (w0:World) (p:Frag) (hs:List Value) (cols:List (List Int)):Prop where
 rd:∀ {w':World} {H:List HA} [FocusZ H p],Cls w0 w' H→Rd (wr w') hs (cols.map intsD)
 sh:∀ {i:Nat} {r:List Int},cols[i]?=some r→∃ A cap,hs[i]?=some (.slice A r.length cap)
 len:hs.length=cols.length
theorem ColsAt.old {w:World} {p:Frag} {hs:List Value} {cols:List (List Int)} (h:Rd (wr w) hs (cols.map intsD)):ColsAt w p hs cols :=
 ⟨fun hw=>h.old hw,fun hr=>by obtain⟨A,cap,h1,-⟩:=h.tabRow hr;exact⟨A,cap,h1⟩,by have:=h.length;rwa [List.length_map] at this⟩
theorem ColsAt.own {w:World} {p:Frag} {hs:List Value} {cols:List (List Int)} (h:Rd (fr p) hs (cols.map intsD)):ColsAt w p hs cols :=
 ⟨fun hw=>h.own hw,fun hr=>by obtain⟨A,cap,h1,-⟩:=h.tabRow hr;exact⟨A,cap,h1⟩,by have:=h.length;rwa [List.length_map] at this⟩
end Go.Proofs.YthadgaboakipoaaGreatDoor
namespace Go.Proofs.YthadgaboakipoaaGreatDoor
open Go.RowKit Go.Shelf Go.Proofs

end Go.Proofs.YthadgaboakipoaaGreatDoor
namespace Go.Proofs.YthadgaboakipoaaGreatDoor
open Go.RowKit Go.Shelf Go.Proofs
set_option maxRecDepth 100000
set_option linter.unusedSectionVars false
set_option maxHeartbeats 1000000

theorem find_congr {α:Type} {p q:α→Bool}:∀ {l:List α},(∀ x∈l,p x=q x)→l.find? p=l.find? q
 | [],_=>rfl
 | a::l,h=>by rw [List.find?_cons,List.find?_cons,h a (.head _),find_congr fun x hx=>h x (.tail _ hx)]
def pg (p:List Int) (q:Nat):Int:=p.getD q 0
def viaP (K:List Int→Int) (ls:List Nat) (p:List Int) (v m:List Nat):Int:=K (colT v m)+pg p (numL ls (toM v m))
def badQ (K:List Int→Int) (ls:List Nat) (Ms:List (List Nat)) (p:List Int) (q:Nat):Bool:=(posL ls (atL ls q) Ms).any fun m=>decide (viaP K ls p (atL ls q) m<pg p q)
def outP (z:Int):Bool:=decide (z<0) || decide (1073741824<z)
def feaE (K:List Int→Int) (ls:List Nat) (Ms:List (List Nat)) (p:List Int):Int :=
 if p.length≠volL ls then 9 else if pg p (volL ls - 1)≠0∨p.any outP=true∨(List.range (volL ls)).any (badQ K ls Ms p)=true then 18 else 0
theorem feaE_ok {K:List Int→Int} {ls:List Nat} {Ms:List (List Nat)} {p:List Int}:feaE K ls Ms p=0↔p.length=volL ls∧pg p (volL ls - 1)=0∧(∀ z∈p,0≤z∧z≤1073741824)∧∀ q,q<volL ls→∀ m∈Ms,possM ls (atL ls q) m=true→pg p q≤viaP K ls p (atL ls q) m:=by
 have hany:p.any outP=true↔¬ ∀ z∈p,0≤z∧z≤1073741824:=by
  rw [List.any_eq_true]
  constructor
  ·rintro⟨z,hz,ho⟩ h
   have:=h z hz
   unfold outP at ho
   simp only [Bool.or_eq_true,decide_eq_true_eq] at ho
   omega
  ·intro h
   refine Classical.byContradiction fun h2=>h fun z hz=>?_
   have:¬ outP z=true:=fun h3=>h2 ⟨z,hz,h3⟩
   unfold outP at this
   simp only [Bool.or_eq_true,decide_eq_true_eq] at this
   omega
 have hbad:(List.range (volL ls)).any (badQ K ls Ms p)=true↔¬ ∀ q,q<volL ls→∀ m∈Ms,possM ls (atL ls q) m=true→pg p q≤viaP K ls p (atL ls q) m:=by
  rw [List.any_eq_true]
  constructor
  ·rintro⟨q,hq,hb⟩ h
   unfold badQ at hb
   rw [List.any_eq_true] at hb
   obtain⟨m,hm,hlt⟩:=hb
   obtain⟨h1,h2⟩:=posL_mem hm
   have:=h q (List.mem_range.1 hq) m h1 h2
   rw [decide_eq_true_eq] at hlt
   omega
  ·intro h
   refine Classical.byContradiction fun h2=>h fun q hq m hm hp=>?_
   refine Int.not_lt.1 fun hlt=>h2 ⟨q,List.mem_range.2 hq,?_⟩
   unfold badQ
   rw [List.any_eq_true]
   exact⟨m,List.mem_filter.2 ⟨hm,hp⟩,by simpa using hlt⟩
 unfold feaE
 by_cases h1:p.length=volL ls
 ·rw [if_neg (by simpa using h1)]
  by_cases h2:pg p (volL ls - 1)=0
  ·by_cases h3:∀ z∈p,0≤z∧z≤1073741824
   ·by_cases h4:∀ q,q<volL ls→∀ m∈Ms,possM ls (atL ls q) m=true→pg p q≤viaP K ls p (atL ls q) m
    ·rw [if_neg]
     ·exact⟨fun _=>⟨h1,h2,h3,h4⟩,fun _=>rfl⟩
     ·rintro (h|h|h)
      ·exact h h2
      ·exact hany.1 h h3
      ·exact hbad.1 h h4
    ·rw [if_pos (.inr (.inr (hbad.2 h4)))]
     exact⟨fun h=>by omega,fun h=>absurd h.2.2.2 h4⟩
   ·rw [if_pos (.inr (.inl (hany.2 h3)))]
    exact⟨fun h=>by omega,fun h=>absurd h.2.2.1 h3⟩
  ·rw [if_pos (.inl h2)]
   exact⟨fun h=>by omega,fun h=>absurd h.2.1 h2⟩
 ·rw [if_pos h1]
  exact⟨fun h=>by omega,fun h=>absurd h.1 h1⟩
def potL (K:List Int→Int) (ls:List Nat) (Ms:List (List Nat)):List Int:=(List.range (volL ls)).map fun q=>rsV K ls Ms (atL ls q)
theorem potL_len (K:List Int→Int) (ls:List Nat) (Ms:List (List Nat)):(potL K ls Ms).length=volL ls:=by simp [potL]
theorem potL_get (K:List Int→Int) (ls:List Nat) (Ms:List (List Nat)) {q:Nat} (h:q<volL ls):(potL K ls Ms)[q]?=some (rsV K ls Ms (atL ls q)):=by
 unfold potL;rw [List.getElem?_map,List.getElem?_range h];rfl
theorem potL_pg (K:List Int→Int) (ls:List Nat) (Ms:List (List Nat)) {q:Nat} (h:q<volL ls):pg (potL K ls Ms) q=rsV K ls Ms (atL ls q):=by
 unfold pg;rw [List.getD_eq_getElem?_getD,potL_get K ls Ms h];rfl
theorem at_last (ls:List Nat):atL ls (volL ls - 1)=ls:=by
 have h:=num_all ls
 rw [show volL ls - 1=numL ls ls by omega,at_num (InB.self ls)]
theorem at_ne_last {ls:List Nat} {q:Nat} (hq:q<volL ls) (h:q≠volL ls - 1):atL ls q≠ls:=fun e=>by
 have h1:=num_at ls q hq
 have h2:=num_all ls
 rw [e] at h1
 omega
section
variable {K:List Int→Int} (hK:∀ x,0≤K x) {ls:List Nat} {n:Nat} {Ms:List (List Nat)} (hM:MvsOk n Ms) (hn:ls.length=n)
include hK hM hn
theorem rsV_step_le {v m:List Nat} (hv:InB ls v) (hm:m∈Ms) (hp:possM ls v m=true):rsV K ls Ms v≤mcV K ls Ms v m:=by
 by_cases he:v=ls
 ·subst he
  rw [rsV_end]
  exact mcV_nn hK _ _ _ _
 ·rw [rsV_step hK hM hn hv he]
  exact ((foldB_spec (p:=possM ls v) (mcV_nn hK ls Ms v) Ms (-1) (by omega)).2.2.1 m hm hp).2
theorem potL_via {v m:List Nat} (hv:InB ls v) (hm:m∈Ms) (hp:possM ls v m=true):viaP K ls (potL K ls Ms) v m=mcV K ls Ms v m:=by
 have h1:=(toM_rem hM hn hv hm hp).1
 unfold viaP mcV
 rw [potL_pg K ls Ms (numL_lt h1),at_num h1]
theorem potL_fea (hB:∀ v,rsV K ls Ms v≤1073741824):feaE K ls Ms (potL K ls Ms)=0:=by
 have hpos:=volL_pos ls
 refine feaE_ok.2 ⟨potL_len K ls Ms,?_,fun z hz=>?_,fun q hq m hm hp=>?_⟩
 ·rw [potL_pg K ls Ms (by omega),at_last,rsV_end]
 ·obtain⟨q,-,rfl⟩:=List.mem_map.1 hz
  exact⟨rsV_nn _ _ _ _,hB _⟩
 ·rw [potL_pg K ls Ms hq,potL_via hK hM hn (atL_in ls q) hm hp]
  exact rsV_step_le hK hM hn (atL_in ls q) hm hp
theorem fea_le {p:List Int} (hp:feaE K ls Ms p=0):∀ (d:Nat) (v:List Nat),InB ls v→sumL ls - sumL v=d→pg p (numL ls v)≤rsV K ls Ms v:=by
 obtain⟨h1,h2,h3,h4⟩:=feaE_ok.1 hp
 intro d
 induction d using Nat.strongRecOn with
 | _ d ih =>
  intro v hv hd
  by_cases he:v=ls
  ·subst he
   rw [rsV_end]
   have h5:=num_all v
   rw [show numL v v=volL v - 1 by omega,h2]
   exact Int.le_refl _
  ·obtain⟨m,-,hm,hpo,hc⟩:=fit_some hK hM hn hv he
   obtain⟨g1,g2,g3,g4⟩:=toM_rem hM hn hv hm hpo
   have h5:=h4 (numL ls v) (numL_lt hv) m hm (by rw [at_num hv];exact hpo)
   rw [at_num hv] at h5
   have h6:=ih (sumL ls - sumL (toM v m)) (by omega) (toM v m) g1 rfl
   rw [← hc]
   unfold viaP at h5
   unfold mcV
   omega
theorem fea_pot {p:List Int} (hp:feaE K ls Ms p=0) {q:Nat} (hq:q<volL ls):pg p q≤pg (potL K ls Ms) q:=by
 have:=fea_le hK hM hn hp _ _ (atL_in ls q) rfl
 rw [num_at ls q hq] at this
 rw [potL_pg K ls Ms hq]
 exact this
end
def ldF (K:List Int→Int) (ls:List Nat) (Ms:List (List Nat)) (p:List Int):Nat→List Nat→Bool
 | 0,v=>decide (v=ls)
 | f+1,v=>decide (v=ls) || Ms.any fun m=>possM ls v m && (decide (pg p (numL ls v)=viaP K ls p v m) && ldF K ls Ms p f (toM v m))
def ldV (K:List Int→Int) (ls:List Nat) (Ms:List (List Nat)) (p:List Int) (v:List Nat):Bool:=ldF K ls Ms p (sumL ls - sumL v) v
def fitT (K:List Int→Int) (ls:List Nat) (Ms:List (List Nat)) (p:List Int) (v m:List Nat):Bool:=possM ls v m && (decide (pg p (numL ls v)=viaP K ls p v m) && ldV K ls Ms p (toM v m))
def tgF (K:List Int→Int) (ls:List Nat) (Ms:List (List Nat)) (p:List Int):Nat→List Nat→List (List Int)
 | 0,_=>[]
 | f+1,v=>match Ms.find? (fitT K ls Ms p v) with
  | some m=>colT v m::tgF K ls Ms p f (toM v m)
  | none=>[]
def tgV (K:List Int→Int) (ls:List Nat) (Ms:List (List Nat)) (p:List Int) (v:List Nat):List (List Int):=tgF K ls Ms p (sumL ls - sumL v) v
section
variable {K:List Int→Int} {ls:List Nat} {n:Nat} {Ms:List (List Nat)} (hM:MvsOk n Ms) (hn:ls.length=n) {p:List Int}
include hM hn
theorem poss_none {v:List Nat} (hv:InB ls v) (h0:sumL ls - sumL v=0):∀ m∈Ms,possM ls v m=false:=fun m hm=>by
 cases hp:possM ls v m with
 | false=>rfl
 | true =>
  obtain⟨h1,h2,h3,h4⟩:=toM_rem hM hn hv hm hp
  omega
theorem ldF_fuel:∀ f v,InB ls v→sumL ls - sumL v≤f→∀ g,sumL ls - sumL v≤g→ldF K ls Ms p f v=ldF K ls Ms p g v:=by
 have nn:∀ v,InB ls v→sumL ls - sumL v=0→∀ g,ldF K ls Ms p g v=decide (v=ls):=fun v hv h0 g=>by
  cases g with
  | zero=>rfl
  | succ g =>
   show (decide (v=ls) || _)=_
   rw [List.any_eq_false.2 fun m hm=>by rw [poss_none hM hn hv h0 m hm];simp]
   simp
 intro f
 induction f with
 | zero=>intro v hv h0 g hg;rw [nn v hv (by omega),nn v hv (by omega)]
 | succ f ih =>
  intro v hv hf g hg
  cases g with
  | zero=>rw [nn v hv (by omega),nn v hv (by omega)]
  | succ g =>
   show (decide (v=ls) || Ms.any _)=(decide (v=ls) || Ms.any _)
   congr 1
   rw [Bool.eq_iff_iff,List.any_eq_true,List.any_eq_true]
   refine exists_congr fun m=>and_congr_right fun hm=>?_
   cases hp:possM ls v m with
   | false=>simp
   | true =>
    obtain⟨h1,h2,h3,h4⟩:=toM_rem hM hn hv hm hp
    rw [ih (toM v m) h1 (by omega) g (by omega)]
theorem ldV_step {v:List Nat} (hv:InB ls v):ldV K ls Ms p v=(decide (v=ls) || Ms.any (fitT K ls Ms p v)):=by
 unfold ldV
 by_cases h0:sumL ls - sumL v=0
 ·rw [h0]
  show decide (v=ls)=_
  rw [List.any_eq_false.2 fun m hm=>by unfold fitT;rw [poss_none hM hn hv h0 m hm];simp]
  simp
 ·obtain⟨f,hf⟩:∃ f,sumL ls - sumL v=f+1:=⟨sumL ls - sumL v - 1,by omega⟩
  rw [hf]
  show (decide (v=ls) || Ms.any _)=(decide (v=ls) || Ms.any _)
  congr 1
  rw [Bool.eq_iff_iff,List.any_eq_true,List.any_eq_true]
  refine exists_congr fun m=>and_congr_right fun hm=>?_
  unfold fitT ldV
  cases hp:possM ls v m with
  | false=>simp
  | true =>
   obtain⟨h1,h2,h3,h4⟩:=toM_rem hM hn hv hm hp
   rw [ldF_fuel hM hn f (toM v m) h1 (by omega) (sumL ls - sumL (toM v m)) (by omega)]
theorem ldV_end:ldV K ls Ms p ls=true:=by rw [ldV_step hM hn (InB.self ls)];simp
theorem fitT_some {v:List Nat} (hv:InB ls v) (hne:v≠ls) (hl:ldV K ls Ms p v=true):∃ m,Ms.find? (fitT K ls Ms p v)=some m∧m∈Ms∧possM ls v m=true∧pg p (numL ls v)=viaP K ls p v m∧ldV K ls Ms p (toM v m)=true:=by
 rw [ldV_step hM hn hv] at hl
 simp only [hne,decide_false,Bool.false_or] at hl
 cases hf:Ms.find? (fitT K ls Ms p v) with
 | none =>
  exfalso
  obtain⟨m,hm,h9⟩:=List.any_eq_true.1 hl
  have:=List.find?_eq_none.1 hf m hm
  exact this h9
 | some m =>
  have h6:=List.find?_some hf
  unfold fitT at h6
  rw [Bool.and_eq_true,Bool.and_eq_true,decide_eq_true_eq] at h6
  exact⟨m,rfl,List.mem_of_find?_eq_some hf,h6.1,h6.2.1,h6.2.2⟩
theorem tgF_fuel:∀ f v,InB ls v→sumL ls - sumL v≤f→∀ g,sumL ls - sumL v≤g→tgF K ls Ms p f v=tgF K ls Ms p g v:=by
 have nf:∀ v,InB ls v→sumL ls - sumL v=0→Ms.find? (fitT K ls Ms p v)=none:=fun v hv h0=>List.find?_eq_none.2 fun m hm=>by unfold fitT;rw [poss_none hM hn hv h0 m hm];simp
 intro f
 induction f with
 | zero =>
  intro v hv h0 g hg
  cases g with
  | zero=>rfl
  | succ g=>unfold tgF;rw [nf v hv (by omega)]
 | succ f ih =>
  intro v hv hf g hg
  cases g with
  | zero=>unfold tgF;rw [nf v hv (by omega)]
  | succ g =>
   unfold tgF
   cases hF:Ms.find? (fitT K ls Ms p v) with
   | none=>rfl
   | some m =>
    have h6:=List.find?_some hF
    unfold fitT at h6
    rw [Bool.and_eq_true] at h6
    obtain⟨h1,h2,h3,h4⟩:=toM_rem hM hn hv (List.mem_of_find?_eq_some hF) h6.1
    simp only
    rw [ih (toM v m) h1 (by omega) g (by omega)]
theorem tgV_step {v m:List Nat} (hv:InB ls v) (hf:Ms.find? (fitT K ls Ms p v)=some m):tgV K ls Ms p v=colT v m::tgV K ls Ms p (toM v m):=by
 have h6:=List.find?_some hf
 unfold fitT at h6
 rw [Bool.and_eq_true] at h6
 obtain⟨h1,h2,h3,h4⟩:=toM_rem hM hn hv (List.mem_of_find?_eq_some hf) h6.1
 obtain⟨f,hf2⟩:∃ f,sumL ls - sumL v=f+1:=⟨sumL ls - sumL v - 1,by omega⟩
 unfold tgV
 rw [hf2,tgF,hf]
 simp only
 rw [tgF_fuel hM hn f (toM v m) h1 (by omega) (sumL ls - sumL (toM v m)) (by omega)]
theorem tgV_end:tgV K ls Ms p ls=[]:=by unfold tgV;rw [Nat.sub_self];rfl
end
section
variable {K:List Int→Int} (hK:∀ x,0≤K x) {ls:List Nat} {n:Nat} {Ms:List (List Nat)} (hM:MvsOk n Ms) (hn:ls.length=n)
include hK hM hn
theorem potL_ld:∀ (d:Nat) (v:List Nat),InB ls v→sumL ls - sumL v=d→ldV K ls Ms (potL K ls Ms) v=true:=by
 intro d
 induction d using Nat.strongRecOn with
 | _ d ih =>
  intro v hv hd
  rw [ldV_step hM hn hv]
  by_cases he:v=ls
  ·simp [he]
  ·obtain⟨m,-,hm,hpo,hc⟩:=fit_some hK hM hn hv he
   obtain⟨g1,g2,g3,g4⟩:=toM_rem hM hn hv hm hpo
   rw [Bool.or_eq_true,List.any_eq_true]
   refine .inr ⟨m,hm,?_⟩
   unfold fitT
   rw [hpo,potL_pg K ls Ms (numL_lt hv),at_num hv,potL_via hK hM hn hv hm hpo,hc,ih (sumL ls - sumL (toM v m)) (by omega) (toM v m) g1 rfl]
   simp
theorem potL_fit {v m:List Nat} (hv:InB ls v) (hm:m∈Ms):fitT K ls Ms (potL K ls Ms) v m=fitM K ls Ms v m:=by
 unfold fitT fitM
 cases hpo:possM ls v m with
 | false=>rfl
 | true =>
  obtain⟨g1,g2,g3,g4⟩:=toM_rem hM hn hv hm hpo
  rw [potL_pg K ls Ms (numL_lt hv),at_num hv,potL_via hK hM hn hv hm hpo,potL_ld hK hM hn _ _ g1 rfl,Bool.and_true]
  exact congrArg (true && ·) (decide_eq_decide.2 eq_comm)
theorem potL_tg:∀ (f:Nat) (v:List Nat),InB ls v→tgF K ls Ms (potL K ls Ms) f v=alM K ls Ms f v
 | 0,v,_=>rfl
 | f+1,v,hv=>by
  unfold tgF alM
  rw [find_congr (q:=fitM K ls Ms v) fun m hm=>potL_fit hK hM hn hv hm]
  cases hF:Ms.find? (fitM K ls Ms v) with
  | none=>rfl
  | some m =>
   have h6:=List.find?_some hF
   unfold fitM at h6
   rw [Bool.and_eq_true] at h6
   obtain⟨h1,h2,h3,h4⟩:=toM_rem hM hn hv (List.mem_of_find?_eq_some hF) h6.1
   simp only
   rw [potL_tg f (toM v m) h1]
end
end Go.Proofs.YthadgaboakipoaaGreatDoor
namespace Go.Proofs.YthadgaboakipoaaGreatDoor
open Go.RowKit Go.Shelf Go.Proofs
set_option maxRecDepth 100000
set_option maxHeartbeats 1000000

def prV (c:Costs) (l:List TS) (v:List Nat) (i k:Nat):Int:=rst (grdOf c (tsA l i).l (tsA l k).l) (v.getD i 0) (v.getD k 0)
def prsV (c:Costs) (l:List TS) (v:List Nat):Int:=psum (prV c l v) (pairsL l.length)
def prsL (c:Costs) (l:List TS):List Int:=(List.range (volL (lens l))).map fun q=>prsV c l (atL (lens l) q)
theorem prsL_len (c:Costs) (l:List TS):(prsL c l).length=volL (lens l):=by simp [prsL]
theorem prsL_get (c:Costs) (l:List TS) {q:Nat} (h:q<volL (lens l)):(prsL c l)[q]?=some (prsV c l (atL (lens l) q)):=by
 unfold prsL;rw [List.getElem?_map,List.getElem?_range h];rfl
theorem prsL_pg (c:Costs) (l:List TS) {q:Nat} (h:q<volL (lens l)):pg (prsL c l) q=prsV c l (atL (lens l) q):=by
 unfold pg;rw [List.getD_eq_getElem?_getD,prsL_get c l h];rfl
theorem psum_eqP {f g:Nat→Nat→Int} {n:Nat} (h:∀ i k,i<k→k<n→f i k=g i k):psum f (pairsL n)=psum g (pairsL n):=by
 have h1:psum f (pairsL n)≤psum g (pairsL n):=psum_le fun p hp=>by
  obtain⟨i,k⟩:=p
  have:=pairsL_mem.1 hp
  exact Int.le_of_eq (h i k this.1 this.2)
 have h2:psum g (pairsL n)≤psum f (pairsL n):=psum_le fun p hp=>by
  obtain⟨i,k⟩:=p
  have:=pairsL_mem.1 hp
  exact Int.le_of_eq (h i k this.1 this.2).symm
 omega
theorem lens_tsA {l:List TS} (hln:∀ t∈l,t.l.length=t.n) {i:Nat} (h:i<l.length):(lens l).getD i 0=(tsA l i).l.length:=by
 have e:l[i]?=some l[i]:=List.getElem?_eq_getElem h
 rw [List.getD_eq_getElem?_getD,lens_get e,tsA_eq e,hln _ (List.getElem_mem h)];rfl
theorem prV_step {c:Costs} {l:List TS} (hln:∀ t∈l,t.l.length=t.n) {v m:List Nat} (hv:v.length=l.length) (hd:m.Nodup) (hm:∀ s∈m,s<l.length) (hp:possM (lens l) v m=true) {i k:Nat} (hi:i<l.length) (hk:k<l.length) :
  prV c l v i k≤zC c l (colT v m) i k+prV c l (toM v m) i k:=by
 have hlt:∀ s∈m,s<v.length:=fun s hs=>by rw [hv];exact hm s hs
 unfold prV zC
 rw [toM_get m v hd hlt i,toM_get m v hd hlt k,colT_get (by omega),colT_get (by omega)]
 have hpi:i∈m→v.getD i 0<(tsA l i).l.length:=fun h=>by rw [← lens_tsA hln hi];exact possM_iff.1 hp i h
 have hpk:k∈m→v.getD k 0<(tsA l k).l.length:=fun h=>by rw [← lens_tsA hln hk];exact possM_iff.1 hp k h
 by_cases h1:i∈m
 ·by_cases h2:k∈m
  ·rw [if_pos h1,if_pos h1,if_pos h2,if_pos h2]
   have:=rst_le_p (G:=grdOf c (tsA l i).l (tsA l k).l) (i:=v.getD i 0) (k:=v.getD k 0) (hpi h1) (hpk h2)
   have e:entC c (tsA l i).l ((v.getD i 0:Nat):Int) (tsA l k).l ((v.getD k 0:Nat):Int)=(grdOf c (tsA l i).l (tsA l k).l).p (v.getD i 0) (v.getD k 0):=by
    unfold entC;rw [if_pos (by omega)];rfl
   rw [e];exact this
  ·rw [if_pos h1,if_pos h1,if_neg h2,if_neg h2]
   have:=rst_le_g (G:=grdOf c (tsA l i).l (tsA l k).l) (i:=v.getD i 0) (k:=v.getD k 0) (hpi h1)
   have e:entC c (tsA l i).l ((v.getD i 0:Nat):Int) (tsA l k).l (-1)=(grdOf c (tsA l i).l (tsA l k).l).g (v.getD i 0):=by
    unfold entC;rw [if_neg (by omega),if_pos (by omega)];rfl
   rw [e];exact this
 ·by_cases h2:k∈m
  ·rw [if_neg h1,if_neg h1,if_pos h2,if_pos h2]
   have:=rst_le_h (G:=grdOf c (tsA l i).l (tsA l k).l) (i:=v.getD i 0) (k:=v.getD k 0) (hpk h2)
   have e:entC c (tsA l i).l (-1) (tsA l k).l ((v.getD k 0:Nat):Int)=(grdOf c (tsA l i).l (tsA l k).l).h (v.getD k 0):=by
    unfold entC;rw [if_neg (by omega),if_neg (by omega),if_pos (by omega)];rfl
   rw [e];exact this
  ·rw [if_neg h1,if_neg h1,if_neg h2,if_neg h2]
   have e:entC c (tsA l i).l (-1) (tsA l k).l (-1)=0:=by unfold entC;rw [if_neg (by omega),if_neg (by omega),if_neg (by omega)]
   rw [e]
   simp
theorem prV_bd {c:Costs} (hc:costE c=0) {l:List TS} (hb:∀ t∈l,t.l.length≤1000) (v:List Nat) (i k:Nat):0≤prV c l v i k∧prV c l v i k≤2000000:=by
 have h:=rst_bd (grdOf_ok hc (tsA l i).l (tsA l k).l) (v.getD i 0) (v.getD k 0)
 have hh:∀ j,(tsA l j).l.length≤1000:=fun j=>by
  by_cases hj:j<l.length
  ·exact hb _ (tsA_mem hj)
  ·have e:tsA l j=⟨none,0,0,[]⟩:=by unfold tsA;rw [List.getD_eq_getElem?_getD,List.getElem?_eq_none (by omega)];rfl
   rw [e];simp
 have h1:=hh i
 have h2:=hh k
 have e1:(grdOf c (tsA l i).l (tsA l k).l).n=(tsA l i).l.length:=rfl
 have e2:(grdOf c (tsA l i).l (tsA l k).l).m=(tsA l k).l.length:=rfl
 rw [e1,e2] at h
 unfold prV
 refine ⟨h.1,?_⟩
 have:=h.2
 omega
theorem prsV_bd {c:Costs} (hc:costE c=0) {l:List TS} (h4:l.length≤4) (hb:∀ t∈l,t.l.length≤1000) (v:List Nat):0≤prsV c l v∧prsV c l v≤12000000:=by
 have h:=prV_bd hc hb v
 have h1:psum (fun _ _=>0) (pairsL l.length)≤prsV c l v:=psum_le fun p _=>(h p.1 p.2).1
 have h2:prsV c l v≤psum (fun _ _=>2000000) (pairsL l.length):=psum_le fun p _=>(h p.1 p.2).2
 obtain h9|h9|h9|h9|h9:l.length=0∨l.length=1∨l.length=2∨l.length=3∨l.length=4:=by omega
 all_goals
  rw [h9] at h1 h2
  have e1:psum (fun _ _=>0) (pairsL l.length)=0:=psum_zero (fun _ _=>rfl) _
  rw [h9] at e1
  rw [e1] at h1
  refine ⟨h1,Int.le_trans h2 ?_⟩
  decide
theorem prsL_fea {c:Costs} (hc:costE c=0) {l:List TS} (h1:1≤l.length) (h4:l.length≤4) (hln:∀ t∈l,t.l.length=t.n) (hb:∀ t∈l,t.l.length≤1000):feaE (colZ c l) (lens l) (mvL l.length) (prsL c l)=0:=by
 have hpos:=volL_pos (lens l)
 have hll:=lens_len l
 have hmo:=mvL_ok h1 h4
 refine feaE_ok.2 ⟨prsL_len c l,?_,fun z hz=>?_,fun q hq m hm hp=>?_⟩
 ·rw [prsL_pg c l (by omega),at_last]
  unfold prsV
  rw [psum_eqP (g:=fun _ _=>0),psum_zero (fun _ _=>rfl)]
  intro i k hik hk
  unfold prV
  rw [lens_tsA hln (by omega),lens_tsA hln hk]
  exact rst_none (Nat.lt_irrefl _) (Nat.lt_irrefl _)
 ·obtain⟨q,-,rfl⟩:=List.mem_map.1 hz
  have:=prsV_bd hc h4 hb (atL (lens l) q)
  omega
 ·have hin:=atL_in (lens l) q
  have hvl:=atL_len (lens l) q
  have hti:=(toM_rem hmo hll hin hm hp).1
  rw [prsL_pg c l hq]
  unfold viaP
  rw [prsL_pg c l (numL_lt hti),at_num hti]
  unfold prsV colZ
  rw [← psum_add]
  refine psum_le fun p hp9=>?_
  obtain⟨i,k⟩:=p
  obtain⟨hik,hk⟩:=pairsL_mem.1 hp9
  exact prV_step hln (by omega) (hmo.nd m hm) (fun s hs=>hmo.lt m hm s hs) hp (by omega) hk
theorem prs_two {c:Costs} (hc:costE c=0) {s t:TS} (hln:∀ x∈[s,t],x.l.length=x.n):∀ i k:Nat,i≤s.n→k≤t.n→rsV (colZ c [s,t]) (lens [s,t]) (mvL 2) [i,k]≤rst (grdOf c s.l t.l) i k:=by
 have h4:[s,t].length≤4:=by simp
 have hmo:=mvL_ok (n:=2) (by omega) (by omega)
 have hls:lens [s,t]=[s.n,t.n]:=rfl
 have hs:=hln s (.head _)
 have ht:=hln t (.tail _ (.head _))
 have hK:∀ x,0≤colZ c [s,t] x:=colZ_nn hc h4
 have hz:∀ x,colZ c [s,t] x=zC c [s,t] x 0 1:=fun x=>Int.zero_add _
 intro i k
 refine grd_ind (grdOf c s.l t.l) (P:=fun i k=>i≤s.n→k≤t.n→rsV (colZ c [s,t]) (lens [s,t]) (mvL 2) [i,k]≤rst (grdOf c s.l t.l) i k) (fun i k h1 h2 h3 hi hk=>?_) i k
 have hin:InB (lens [s,t]) [i,k]:=⟨hi,hk,trivial⟩
 have eN:(grdOf c s.l t.l).n=s.n:=hs
 have eM:(grdOf c s.l t.l).m=t.n:=ht
 have step:∀ m∈mvL 2,possM (lens [s,t]) [i,k] m=true→rsV (colZ c [s,t]) (lens [s,t]) (mvL 2) [i,k]≤colZ c [s,t] (colT [i,k] m)+rsV (colZ c [s,t]) (lens [s,t]) (mvL 2) (toM [i,k] m):=fun m hm hp=>rsV_step_le hK hmo rfl hin hm hp
 have a1:i<s.n→rsV (colZ c [s,t]) (lens [s,t]) (mvL 2) [i,k]≤(grdOf c s.l t.l).g i+rsV (colZ c [s,t]) (lens [s,t]) (mvL 2) [i+1,k]:=fun h=>by
  have:=step [0] (by decide) (possM_iff.2 fun u hu=>by rw [List.mem_singleton] at hu;subst hu;exact h)
  rw [hz] at this
  have e:zC c [s,t] (colT [i,k] [0]) 0 1=(grdOf c s.l t.l).g i:=by
   show entC c s.l (i:Nat) t.l (-1)=_
   unfold entC;rw [if_neg (by omega),if_pos (by omega)];rfl
  rw [e] at this
  exact this
 have a2:k<t.n→rsV (colZ c [s,t]) (lens [s,t]) (mvL 2) [i,k]≤(grdOf c s.l t.l).h k+rsV (colZ c [s,t]) (lens [s,t]) (mvL 2) [i,k+1]:=fun h=>by
  have:=step [1] (by decide) (possM_iff.2 fun u hu=>by rw [List.mem_singleton] at hu;subst hu;exact h)
  rw [hz] at this
  have e:zC c [s,t] (colT [i,k] [1]) 0 1=(grdOf c s.l t.l).h k:=by
   show entC c s.l (-1) t.l (k:Nat)=_
   unfold entC;rw [if_neg (by omega),if_neg (by omega),if_pos (by omega)];rfl
  rw [e] at this
  exact this
 have a3:i<s.n→k<t.n→rsV (colZ c [s,t]) (lens [s,t]) (mvL 2) [i,k]≤(grdOf c s.l t.l).p i k+rsV (colZ c [s,t]) (lens [s,t]) (mvL 2) [i+1,k+1]:=fun h h'=>by
  have:=step [0,1] (by decide) (possM_iff.2 fun u hu=>by
   rcases List.mem_cons.1 hu with rfl|hu
   ·exact h
   ·rw [List.mem_singleton] at hu;subst hu;exact h')
  rw [hz] at this
  have e:zC c [s,t] (colT [i,k] [0,1]) 0 1=(grdOf c s.l t.l).p i k:=by
   show entC c s.l (i:Nat) t.l (k:Nat)=_
   unfold entC;rw [if_pos (by omega)];rfl
  rw [e] at this
  exact this
 by_cases e1:i<s.n
 ·have b1:=h1 (by rw [eN];exact e1) (by omega) hk
  by_cases e2:k<t.n
  ·have b2:=h2 (by rw [eM];exact e2) hi (by omega)
   have b3:=h3 (by rw [eN];exact e1) (by rw [eM];exact e2) (by omega) (by omega)
   rw [rst_both (by rw [eN];exact e1) (by rw [eM];exact e2)]
   have:=a1 e1
   have:=a2 e2
   have:=a3 e1 e2
   omega
  ·rw [rst_fst (by rw [eN];exact e1) (by rw [eM];exact e2)]
   have:=a1 e1
   omega
 ·by_cases e2:k<t.n
  ·have b2:=h2 (by rw [eM];exact e2) hi (by omega)
   rw [rst_snd (by rw [eN];exact e1) (by rw [eM];exact e2)]
   have:=a2 e2
   omega
  ·rw [rst_none (by rw [eN];exact e1) (by rw [eM];exact e2)]
   have:[i,k]=lens [s,t]:=by rw [hls,show i=s.n by omega,show k=t.n by omega]
   rw [this,rsV_end]
   exact Int.le_refl _
theorem prsL_two {c:Costs} (hc:costE c=0) {l:List TS} (h2:l.length=2) (hln:∀ t∈l,t.l.length=t.n) (hb:∀ t∈l,t.l.length≤1000):prsL c l=potL (colZ c l) (lens l) (mvL l.length):=by
 have h4:l.length≤4:=by omega
 have hmo:=mvL_ok (n:=l.length) (by omega) h4
 have hll:=lens_len l
 unfold prsL potL
 refine List.map_congr_left fun q hq=>?_
 rw [List.mem_range] at hq
 have h1:=fea_pot (K:=colZ c l) (colZ_nn hc h4) hmo hll (prsL_fea hc (by omega) h4 hln hb) hq
 rw [prsL_pg c l hq,potL_pg _ _ _ hq] at h1
 have h3:rsV (colZ c l) (lens l) (mvL l.length) (atL (lens l) q)≤prsV c l (atL (lens l) q):=by
  match l,h2,hln with
  | [s,t],_,hln =>
   have hin:=atL_in (lens [s,t]) q
   have hvl:=atL_len (lens [s,t]) q
   match he:atL (lens [s,t]) q,hin,hvl with
   | [i,k],hin,_ =>
    have:=prs_two hc hln i k hin.1 hin.2.1
    show rsV (colZ c [s,t]) (lens [s,t]) (mvL 2) [i,k]≤0+rst (grdOf c s.l t.l) i k
    omega
 omega
end Go.Proofs.YthadgaboakipoaaGreatDoor
namespace Go.Proofs.YthadgaboakipoaaGreatDoor
open Go.RowKit Go.Shelf Go.Proofs

def subsL:Nat→Nat→Nat→List (List Nat)
 | 0,_,_=>[[]]
 | k+1,a,b=>(List.range' a (b - a)).flatMap fun i=>(subsL k (i+1) b).map (i :: ·)
end Go.Proofs.YthadgaboakipoaaGreatDoor
namespace Go.Proofs.YthadgaboakipoaaGreatDoor
open Go.RowKit Go.Shelf Go.Proofs
set_option maxRecDepth 100000
set_option maxHeartbeats 1000000

end Go.Proofs.YthadgaboakipoaaGreatDoor
