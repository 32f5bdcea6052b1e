/- Joined texts of this claim, part 3. -/
import Derived.Test.YtblnhdnogjijiaaGreatDoorT2
import Derived.Shelf.SlSortCmp.Whole1
set_option linter.unusedSectionVars false
set_option linter.unusedVariables false
set_option linter.unusedSimpArgs false
namespace Go.Proofs.YtblnhdnogjijiaaGreatDoor
open Go.RowKit Go.Shelf Go.Proofs
set_option maxRecDepth 100000
set_option maxHeartbeats 1000000

def arrJ (ord:List Nat) (r:List Int):Nat→List Int
 | 0=>List.replicate r.length 0
 | j+1=>(arrJ ord r j).set (ord.getD j 0) (r.getD j 0)
def arrR (ord:List Nat) (r:List Int):List Int:=arrJ ord r r.length
theorem arrJ_len (ord:List Nat) (r:List Int):∀ j,(arrJ ord r j).length=r.length
 | 0=>by simp [arrJ]
 | j+1=>by rw [arrJ,List.length_set,arrJ_len ord r j]
theorem arranged_spec (x:Value) (cols:List (List Int)) (Ao:Option Addr) (n co:Nat) (ord:List Nat) (w:World) (hx:Rd (wr w) [x] [rowsD cols]) (ho:Src w 1 Ao n (ord.map fun k=>Value.int .i64 (k:Nat))) (hno:ord.length=n)
  (hcl:∀ r∈cols,r.length=n) (hlt:∀ k∈ord,k<n) (hn:n≤1000) (hlen:cols.length≤100000) :
  Spec Tryz.prog 92 [x, .slice Ao n co] w (fun v R=>∃ y:Value,True∧v=y∧R=[dat [y] [rowsD (cols.map (arrR ord))]]):=by
 refine spec_of sg Tryz.func92 rfl rfl rfl ?_
 obtain⟨A,cap,cs,rfl,hcap1,hcap2,hcs,hrows⟩:=hx.tabS
 repeat' (first|refine d1 ?_|refine dd ?_|(show ∀ _:Nat,T _ _ _ _ _;intro _))
 refine T_le (dat_nil _) ?_
 refine T_nilrow 47 1 ?_
 refine T_loopX (fun x:Nat × (Option Addr × Nat) × List Value=>[(13, .int .i64 x.1),(5, .slice x.2.1.1 x.1 x.2.1.2)]) (fun x=>[row 47 1 x.2.1.1 x.2.1.2 x.1 x.2.2,dat x.2.2 (((cols.map (arrR ord)).take x.1).map intsD)]) (fun x=>x.1≤cols.length) (fun x=>cols.length - x.1) (0,(none,0),[]) (Nat.zero_le _) ?_
 rintro⟨i,⟨Ar,capr⟩,hs⟩ hi
 dsimp only at hi ⊢
 repeat' (first|refine d1 ?_|refine dd ?_|(show ∀ _:Nat,T _ _ _ _ _;intro _))
 refine T_if rfl (fun h=>?_) (fun h=>?_)
 ·simp only [decide_eq_true_eq] at h
  obtain⟨b,o,rfl⟩:=hcs.base (by omega)
  obtain⟨r,hr⟩:∃ r,cols[i]?=some r:=⟨_,List.getElem?_eq_getElem (by omega)⟩
  obtain⟨Au,capu,hu,-,-,hA⟩:=hrows.tabRow hr
  have hr0:RdC w b (o+(i:Int).toNat * 1) [.slice Au r.length capu]:=by
   have h9:=(hcs.get1 (i:=i) (by omega) hu).2
   rw [Nat.mul_one] at h9
   rw [off1]
   exact h9
  have hrn:=hcl r (List.mem_of_getElem? hr)
  repeat' (first|refine d1 ?_|refine dd ?_|(show T _ (.ops _ (_::_)::_) _ _ _;refine T_op (OpT.make rfl rfl rfl rfl rfl rfl rfl rfl rfl (by dsimp only;omega) (fun b1=>?_)))|(show ∀ _:Nat,T _ _ _ _ _;intro _))
  have e0:(arrJ ord r 0).map (Value.int .i64)=List.replicate ((r.length:Nat):Int).toNat (Value.int .i64 0):=by simp [arrJ]
  refine T_le (H':=[blk b1 ((arrJ ord r 0).map (Value.int .i64)) 3,row 47 1 Ar capr i hs,dat hs (((cols.map (arrR ord)).take i).map intsD)]) (by rw [e0];exact Hle.refl _) ?_
  refine T_loopX (fun k:Nat=>[(22, .int .i64 k)]) (fun k=>[blk b1 ((arrJ ord r k).map (Value.int .i64)) 3,row 47 1 Ar capr i hs,dat hs (((cols.map (arrR ord)).take i).map intsD)]) (fun k=>k≤r.length) (fun k=>r.length - k) 0 (Nat.zero_le _) ?_
  intro k hk
  repeat' (first|refine d1 ?_|refine dd ?_|(show ∀ _:Nat,T _ _ _ _ _;intro _))
  refine T_if rfl (fun h3=>?_) (fun h3=>?_)
  ·simp only [decide_eq_true_eq] at h3
   have hkr:k<r.length:=by omega
   obtain⟨bu,ou,rfl,hbu⟩:=hA (by omega)
   obtain⟨bo,oo,rfl⟩:=ho.base (by omega)
   obtain⟨z,hz⟩:∃ z,r[k]?=some z:=⟨_,List.getElem?_eq_getElem hkr⟩
   obtain⟨q,hq⟩:∃ q,ord[k]?=some q:=⟨_,List.getElem?_eq_getElem (by omega)⟩
   have hqn:=hlt q (List.mem_of_getElem? hq)
   have hr1:RdC w bu (ou+(k:Int).toNat * 1) [.int .i64 z]:=RdC.one (by rw [off1];exact hbu k z hz)
   have hr2:RdC w bo (oo+(k:Int).toNat * 1) [.int .i64 (q:Nat)]:=by
    have h9:=(ho.get1 (i:=k) (by omega) (by rw [List.getElem?_map,hq];rfl)).2
    rw [Nat.mul_one] at h9
    rw [off1]
    exact h9
   have est:(arrJ ord r (k+1)).map (Value.int .i64)=((arrJ ord r k).map (Value.int .i64)).set (0+(q:Int).toNat * 1) (.int .i64 z):=by
    rw [off1,arrJ,List.map_set,List.getD_eq_getElem?_getD,List.getD_eq_getElem?_getD,hq,hz];simp
   repeat' (first|refine d1 ?_|refine dd ?_|(show T _ (.ops _ (_::_)::_) _ _ _;refine T_op (OpT.store rfl rfl rfl rfl (by rw [List.length_map,arrJ_len];omega) ?_))|(show ∀ _:Nat,T _ _ _ _ _;intro _))
   exact T_backX (k+1) (by omega) (by omega) (hG:=by rw [est];exact Hle.refl _)
  ·simp only [decide_eq_false_iff_not] at h3
   obtain rfl:k=r.length:=by omega
   have ei:intsD (arrR ord r) = .s 1 (((arrJ ord r r.length).map (Value.int .i64)).map .v):=by rw [List.map_map];rfl
   have et:((cols.map (arrR ord)).take (i+1)).map intsD=((cols.map (arrR ord)).take i).map intsD++[intsD (arrR ord r)]:=by
    rw [take_snoc _ _ _ (show (cols.map (arrR ord))[i]?=some (arrR ord r) by rw [List.getElem?_map,hr];rfl),List.map_append];rfl
   refine T_le (H':=[row 47 1 Ar capr i hs,dat (hs++[.slice (some ⟨b1,0,none⟩) r.length r.length]) (((cols.map (arrR ord)).take (i+1)).map intsD)]) ?_ ?_
   ·rw [et,ei]
    exact (dat_blkV (sz:=1) (n:=r.length) (by rw [List.length_map,arrJ_len,Nat.mul_one]) (by omega)).trans ((Hle.perm (List.Perm.cons _ (List.Perm.swap _ _ _))).trans (dat_join.trans (Hle.perm (List.Perm.swap _ _ _))))
   repeat' (first|refine d1 ?_|refine dd ?_|(show T _ (.ops _ (_::_)::_) _ _ _;refine T_op (OpT.append rfl rfl rfl rfl rfl rfl rfl rfl rfl rfl (fun w hw=>Src.own hw rfl) rfl (by dsimp only;omega) (by omega) (fun A' cap' hA'=>?_)))|(show ∀ _:Nat,T _ _ _ _ _;intro _))
   exact T_backX (i+1,(A',cap'),hs++[.slice (some ⟨b1,0,none⟩) r.length r.length]) (by dsimp only;omega) (by dsimp only;omega) (hE:=⟨rfl,rfl,trivial⟩) (hG:=Hle.tail _ _)
 ·simp only [decide_eq_false_iff_not] at h
  obtain rfl:i=cols.length:=by omega
  rw [show (cols.map (arrR ord)).take cols.length=cols.map (arrR ord) from List.take_of_length_le (by simp)]
  repeat' (first|refine d1 ?_|refine dd ?_|(show ∀ _:Nat,T _ _ _ _ _;intro _)|(show T _ (.code .ret::_) _ _ _;refine T_retV _ rfl dat_row ⟨_,trivial,rfl,by rfl⟩))
end Go.Proofs.YtblnhdnogjijiaaGreatDoor
namespace Go.Proofs.YtblnhdnogjijiaaGreatDoor
open Go.RowKit Go.Shelf Go.Proofs
set_option maxRecDepth 100000
set_option maxHeartbeats 1000000

end Go.Proofs.YtblnhdnogjijiaaGreatDoor
namespace Go.Proofs.YtblnhdnogjijiaaGreatDoor
open Go.RowKit Go.Shelf Go.Proofs
set_option maxRecDepth 100000
set_option maxHeartbeats 1000000

theorem order1_spec (p7 p18 bt ot nt ct br or' nr cr:Nat) (i a b:Nat) (u v:Int) (w:World) (h7:RdC w p7 0 [.slice (some ⟨bt,ot,none⟩) nt ct]) (h18:RdC w p18 0 [.int .i64 (i:Nat)])
  (hi:i<nt) (hr:RdC w bt (ot+(i:Int).toNat * 1) [.slice (some ⟨br,or',none⟩) nr cr]) (ha:a<nr) (hb:b<nr) (hu:RdC w br (or'+(a:Int).toNat * 1) [.int .i64 u]) (hv:RdC w br (or'+(b:Int).toNat * 1) [.int .i64 v])
  (hub:0≤u∧u≤2000000) (hvb:0≤v∧v≤2000000) :
  Spec Tryz.prog 148 [.int .i64 (a:Nat), .int .i64 (b:Nat), .pointer (some ⟨p7,0,none⟩), .pointer (some ⟨p18,0,none⟩)] w (fun x R=>x = .int .i64 (u - v)∧R=[]):=by
 refine spec_of sg Tryz.func148 rfl rfl rfl ?_
 repeat' (first|refine d1 ?_|refine dd ?_|(show ∀ _:Nat,T _ _ _ _ _;intro _)|(show T _ (.code .ret::_) _ _ _;refine T_retV [] rfl (Hle.none _) ⟨rfl,rfl⟩))
end Go.Proofs.YtblnhdnogjijiaaGreatDoor
namespace Go.Proofs.YtblnhdnogjijiaaGreatDoor
open Go.RowKit Go.Shelf Go.Proofs
set_option maxRecDepth 100000
set_option maxHeartbeats 1000000

def addL (c:Costs) (L K T B:Value):List Value:=c.cells++[L,K,T,B]
theorem addL_get {c:Costs} {L K T B:Value} {j:Nat} {u:Value} (hu:c.cells[j]?=some u):(addL c L K T B)[0+j]?=some u:=by
 unfold addL;rw [Nat.zero_add,List.getElem?_append_left (List.getElem?_eq_some_iff.1 hu).1];exact hu
theorem noTok_small:noTok.small:=by decide +kernel
theorem beside_spec (c:Costs) (A Ac At Ak Ab:Option Addr) (n ca cc m ct nk ck nb cb:Nat) (l:List TS) (col:List Int) (t:List Tok) (k:Int) (w:World) (hg:Grp w A n l) (hc:costE c=0) (hbs:badS l=false)
  (hcs:Src w 1 Ac n (col.map (Value.int .i64))) (hco:ColOk l col) (hts:Src w 6 At m (t.flatMap Tok.cells)) (htl:t.length=m) (hm:m≤1000) (hte:∀ x∈t,tokE x=0) (hsm:∀ x∈t,x.small) (hk : -1≤k∧k<(m:Int)) :
  Spec Tryz.prog 199 [.agg (addL c (.slice A n ca) (.slice Ak nk ck) (.slice At m ct) (.slice Ab nb cb)).toArray, .slice Ac n cc, .int .i64 k] w (fun v R=>v = .int .i64 (putC c l col t k)∧R=[]):=by
 refine spec_of sg Tryz.func199 rfl rfl rfl ?_
 refine T_op (OpT.box (cs:=addL c (.slice A n ca) (.slice Ak nk ck) (.slice At m ct) (.slice Ab nb cb)) rfl rfl rfl rfl rfl rfl rfl (fun pa=>?_))
 have hb:=hg.hb
 have hn:=hg.hn
 repeat' (first|refine d1 ?_|refine dd ?_|(show ∀ _:Nat,T _ _ _ _ _;intro _))
 refine T_loopX (fun j:Nat=>[(16, .int .i64 j),(7, .int .i64 (putS c l col t k j))]) (fun _=>[blk pa (addL c (.slice A n ca) (.slice Ak nk ck) (.slice At m ct) (.slice Ab nb cb)) 176]) (fun j=>j≤n) (fun j=>n - j) 0 (Nat.zero_le _) ?_
 intro j hj
 repeat' (first|refine d1 ?_|refine dd ?_|(show ∀ _:Nat,T _ _ _ _ _;intro _))
 refine T_if rfl (fun h=>?_) (fun h=>?_)
 ·simp only [decide_eq_true_eq] at h
  have hjn:j<n:=by omega
  obtain⟨b,o,rfl⟩:=hg.hs.base (by omega)
  obtain⟨b1,o1,rfl⟩:=hcs.base (by omega)
  obtain⟨s,hs,hsmem,hr⟩:=hg.get hjn
  obtain⟨z,hz⟩:∃ z,col[j]?=some z:=⟨_,List.getElem?_eq_getElem (by have:=hco.1;omega)⟩
  have hr1:=src_int hcs hjn hz
  obtain⟨hz1,hz2⟩:=hco.2 j z s hz hs
  have hsl:=hg.ok.len s hsmem
  have hsn:=hg.nb s hsmem
  have hput:=putS_succ c t k hs hz
  have hbd:=putS_bd hc l col t k j
  have hbe:=entC_bd hc s.l z t k
  have hcls:∀ x∈s.l,tokE x=0:=badS_ok hbs s hsmem
  repeat' (first|refine d1 ?_|refine dd ?_|(show T _ (.ops _ (_::_)::_) _ _ _;refine T_op (OpT.makeC rfl rfl rfl rfl rfl rfl (by dsimp only;omega) (fun b2=>?_)))|(show ∀ _:Nat,T _ _ _ _ _;intro _))
  rename_i bb
  have em:(madeCells (noTok.val).cells (2 * (noTok.val).cells.size)).toList=[noTok,noTok].flatMap Tok.cells:=(made_flat (noTok.val).cells 2).trans rfl
  refine T_le (H':=[blk bb ([decide (0≤z),decide (0≤k)].map Value.bool) 4,blk b2 ([noTok,noTok].flatMap Tok.cells) 42,blk pa (addL c (.slice (some ⟨b,o,none⟩) n ca) (.slice Ak nk ck) (.slice At m ct) (.slice Ab nb cb)) 176]) (by rw [← em];exact Hle.refl _) ?_
  refine T_if rfl (fun h1=>?_) (fun h1=>?_)
  ·simp only [decide_eq_true_eq] at h1
   obtain⟨b4,o4,hsA⟩:=(hg.ok.src s hsmem).base (by omega)
   have hsr:RdC w b4 (o4+z.toNat * 6) (tkA s.l z.toNat).cells:=(hsA ▸ hg.ok.src s hsmem:Src w 6 (some ⟨b4,o4,none⟩) s.n (s.l.flatMap Tok.cells)).getT (k:=z.toNat) (by omega) (tkA_get (by omega))
   rw [hsA] at hr
   repeat' (first|refine d1 ?_|refine dd ?_|(show T _ (.ops _ (_::_)::_) _ _ _;refine T_op (OpT.storeA rfl rfl rfl rfl rfl rfl (by decide) ?_))|(show ∀ _:Nat,T _ _ _ _ _;intro _))
   refine T_if rfl (fun h2=>?_) (fun h2=>?_)
   ·simp only [decide_eq_true_eq] at h2
    obtain⟨b5,o5,rfl⟩:=hts.base (by omega)
    have htr:RdC w b5 (o5+k.toNat * 6) (tkA t k.toNat).cells:=hts.getT (k:=k.toNat) (by omega) (tkA_get (by omega))
    repeat' (first|refine d1 ?_|(show T _ (.ops _ (_::_)::_) _ _ _;refine T_op (OpT.storeA rfl rfl rfl rfl rfl rfl (by decide) ?_))|(show ∀ _:Nat,T _ _ _ _ _;intro _))
    have hcol:columnV c [(tkA s.l z.toNat),(tkA t k.toNat)] [decide (0≤z),decide (0≤k)]=(entC c s.l z t k,0):=by
     rw [col2 hc (tkA s.l z.toNat) (tkA t k.toNat) _ _ (fun _=>hcls _ (tkA_mem2 h1 (by omega))) (fun _=>hte _ (tkA_mem2 h2 (by omega)))];unfold entC;simp [h1,h2]
    have hsxy:∀ x∈[(tkA s.l z.toNat),(tkA t k.toNat)],x.small:=by
     intro x hx
     simp only [List.mem_cons,List.mem_nil_iff,or_false] at hx
     rcases hx with rfl|rfl
     ·exact hg.sm s hsmem _ (tkA_mem2 h1 (by omega))
     ·exact hsm _ (tkA_mem2 h2 (by omega))
    refine T_le (H':=[blk bb ([decide (0≤z),decide (0≤k)].map Value.bool) 4,blk b2 ([(tkA s.l z.toNat),(tkA t k.toNat)].flatMap Tok.cells) 42,blk pa (addL c (.slice (some ⟨b,o,none⟩) n ca) (.slice Ak nk ck) (.slice (some ⟨b5,o5,none⟩) m ct) (.slice Ab nb cb)) 176]) (Hle.refl _) ?_
    repeat' (first|refine d1 ?_|refine dd ?_|(show T _ (.ops _ (_::_)::_) _ _ _;first|refine T_val rfl (Val.loadA (vs:=c.cells) rfl (fun _=>rdOwn (b:=pa) (fun j u hu=>addL_get hu)) rfl) rfl rfl rfl ?_|refine T_valC rfl (Val.loadA (vs:=c.cells) rfl (fun _=>rdOwn (b:=pa) (fun j u hu=>addL_get hu)) rfl) rfl rfl rfl rfl rfl ?_|refine T_call rfl rfl rfl rfl rfl (fun w hw=>columnPrg_spec c (some ⟨b2,0,none⟩) (some ⟨bb,0,none⟩) 2 2 2 2 [(tkA s.l z.toNat),(tkA t k.toNat)] [decide (0≤z),decide (0≤k)] w (hg.hst.cls hw) (Src.own hw rfl) rfl (by omega) (Src.own hw rfl) rfl (by omega) hsxy) ?_|refine T_callC rfl rfl rfl rfl rfl rfl rfl (fun hg w hw=>columnPrg_spec c (some ⟨b2,0,none⟩) (some ⟨bb,0,none⟩) 2 2 2 2 [(tkA s.l z.toNat),(tkA t k.toNat)] [decide (0≤z),decide (0≤k)] w (hg.hst.cls hw) (Src.own hw rfl) rfl (by omega) (Src.own hw rfl) rfl (by omega) hsxy) ?_)|(show T _ (.run _ _ (_::_) _ _::_) _ _ _;first|refine rv rfl rfl rfl (Val.loadA (vs:=c.cells) rfl (fun _=>rdOwn (b:=pa) (fun j u hu=>addL_get hu)) rfl) rfl rfl rfl ?_|refine rg rfl rfl rfl (Val.loadA (vs:=c.cells) rfl (fun _=>rdOwn (b:=pa) (fun j u hu=>addL_get hu)) rfl) rfl rfl rfl rfl rfl ?_|refine rc rfl rfl rfl rfl rfl rfl rfl (fun w hw=>columnPrg_spec c (some ⟨b2,0,none⟩) (some ⟨bb,0,none⟩) 2 2 2 2 [(tkA s.l z.toNat),(tkA t k.toNat)] [decide (0≤z),decide (0≤k)] w (hg.hst.cls hw) (Src.own hw rfl) rfl (by omega) (Src.own hw rfl) rfl (by omega) hsxy) ?_|refine rcG rfl rfl rfl rfl rfl rfl rfl rfl rfl (fun hg w hw=>columnPrg_spec c (some ⟨b2,0,none⟩) (some ⟨bb,0,none⟩) 2 2 2 2 [(tkA s.l z.toNat),(tkA t k.toNat)] [decide (0≤z),decide (0≤k)] w (hg.hst.cls hw) (Src.own hw rfl) rfl (by omega) (Src.own hw rfl) rfl (by omega) hsxy) ?_)|(show ∀ _:Nat,T _ _ _ _ _;intro _))
    rw [hcol]
    repeat' (first|refine d1 ?_|refine dd ?_|(show ∀ _:Nat,T _ _ _ _ _;intro _))
    exact T_backX (j+1) (by omega) (by omega) (hE:=⟨rfl,by rw [hput];rfl,trivial⟩) (hG:=Hle.nth 2 rfl)
   ·simp only [decide_eq_false_iff_not] at h2
    have hcol:columnV c [(tkA s.l z.toNat),noTok] [decide (0≤z),decide (0≤k)]=(entC c s.l z t k,0):=by
     rw [col2 hc (tkA s.l z.toNat) noTok _ _ (fun _=>hcls _ (tkA_mem2 h1 (by omega))) (fun h9=>absurd (of_decide_eq_true h9) h2)];unfold entC;simp [h1,h2]
    have hsxy:∀ x∈[(tkA s.l z.toNat),noTok],x.small:=by
     intro x hx
     simp only [List.mem_cons,List.mem_nil_iff,or_false] at hx
     rcases hx with rfl|rfl
     ·exact hg.sm s hsmem _ (tkA_mem2 h1 (by omega))
     ·exact noTok_small
    refine T_le (H':=[blk bb ([decide (0≤z),decide (0≤k)].map Value.bool) 4,blk b2 ([(tkA s.l z.toNat),noTok].flatMap Tok.cells) 42,blk pa (addL c (.slice (some ⟨b,o,none⟩) n ca) (.slice Ak nk ck) (.slice At m ct) (.slice Ab nb cb)) 176]) (Hle.refl _) ?_
    repeat' (first|refine d1 ?_|refine dd ?_|(show T _ (.ops _ (_::_)::_) _ _ _;first|refine T_val rfl (Val.loadA (vs:=c.cells) rfl (fun _=>rdOwn (b:=pa) (fun j u hu=>addL_get hu)) rfl) rfl rfl rfl ?_|refine T_valC rfl (Val.loadA (vs:=c.cells) rfl (fun _=>rdOwn (b:=pa) (fun j u hu=>addL_get hu)) rfl) rfl rfl rfl rfl rfl ?_|refine T_call rfl rfl rfl rfl rfl (fun w hw=>columnPrg_spec c (some ⟨b2,0,none⟩) (some ⟨bb,0,none⟩) 2 2 2 2 [(tkA s.l z.toNat),noTok] [decide (0≤z),decide (0≤k)] w (hg.hst.cls hw) (Src.own hw rfl) rfl (by omega) (Src.own hw rfl) rfl (by omega) hsxy) ?_|refine T_callC rfl rfl rfl rfl rfl rfl rfl (fun hg w hw=>columnPrg_spec c (some ⟨b2,0,none⟩) (some ⟨bb,0,none⟩) 2 2 2 2 [(tkA s.l z.toNat),noTok] [decide (0≤z),decide (0≤k)] w (hg.hst.cls hw) (Src.own hw rfl) rfl (by omega) (Src.own hw rfl) rfl (by omega) hsxy) ?_)|(show T _ (.run _ _ (_::_) _ _::_) _ _ _;first|refine rv rfl rfl rfl (Val.loadA (vs:=c.cells) rfl (fun _=>rdOwn (b:=pa) (fun j u hu=>addL_get hu)) rfl) rfl rfl rfl ?_|refine rg rfl rfl rfl (Val.loadA (vs:=c.cells) rfl (fun _=>rdOwn (b:=pa) (fun j u hu=>addL_get hu)) rfl) rfl rfl rfl rfl rfl ?_|refine rc rfl rfl rfl rfl rfl rfl rfl (fun w hw=>columnPrg_spec c (some ⟨b2,0,none⟩) (some ⟨bb,0,none⟩) 2 2 2 2 [(tkA s.l z.toNat),noTok] [decide (0≤z),decide (0≤k)] w (hg.hst.cls hw) (Src.own hw rfl) rfl (by omega) (Src.own hw rfl) rfl (by omega) hsxy) ?_|refine rcG rfl rfl rfl rfl rfl rfl rfl rfl rfl (fun hg w hw=>columnPrg_spec c (some ⟨b2,0,none⟩) (some ⟨bb,0,none⟩) 2 2 2 2 [(tkA s.l z.toNat),noTok] [decide (0≤z),decide (0≤k)] w (hg.hst.cls hw) (Src.own hw rfl) rfl (by omega) (Src.own hw rfl) rfl (by omega) hsxy) ?_)|(show ∀ _:Nat,T _ _ _ _ _;intro _))
    rw [hcol]
    repeat' (first|refine d1 ?_|refine dd ?_|(show ∀ _:Nat,T _ _ _ _ _;intro _))
    exact T_backX (j+1) (by omega) (by omega) (hE:=⟨rfl,by rw [hput];rfl,trivial⟩) (hG:=Hle.nth 2 rfl)
  ·simp only [decide_eq_false_iff_not] at h1
   repeat' (first|refine d1 ?_|refine dd ?_|(show ∀ _:Nat,T _ _ _ _ _;intro _))
   refine T_if rfl (fun h2=>?_) (fun h2=>?_)
   ·simp only [decide_eq_true_eq] at h2
    obtain⟨b5,o5,rfl⟩:=hts.base (by omega)
    have htr:RdC w b5 (o5+k.toNat * 6) (tkA t k.toNat).cells:=hts.getT (k:=k.toNat) (by omega) (tkA_get (by omega))
    repeat' (first|refine d1 ?_|(show T _ (.ops _ (_::_)::_) _ _ _;refine T_op (OpT.storeA rfl rfl rfl rfl rfl rfl (by decide) ?_))|(show ∀ _:Nat,T _ _ _ _ _;intro _))
    have hcol:columnV c [noTok,(tkA t k.toNat)] [decide (0≤z),decide (0≤k)]=(entC c s.l z t k,0):=by
     rw [col2 hc noTok (tkA t k.toNat) _ _ (fun h9=>absurd (of_decide_eq_true h9) h1) (fun _=>hte _ (tkA_mem2 h2 (by omega)))];unfold entC;simp [h1,h2]
    have hsxy:∀ x∈[noTok,(tkA t k.toNat)],x.small:=by
     intro x hx
     simp only [List.mem_cons,List.mem_nil_iff,or_false] at hx
     rcases hx with rfl|rfl
     ·exact noTok_small
     ·exact hsm _ (tkA_mem2 h2 (by omega))
    refine T_le (H':=[blk bb ([decide (0≤z),decide (0≤k)].map Value.bool) 4,blk b2 ([noTok,(tkA t k.toNat)].flatMap Tok.cells) 42,blk pa (addL c (.slice (some ⟨b,o,none⟩) n ca) (.slice Ak nk ck) (.slice (some ⟨b5,o5,none⟩) m ct) (.slice Ab nb cb)) 176]) (Hle.refl _) ?_
    repeat' (first|refine d1 ?_|refine dd ?_|(show T _ (.ops _ (_::_)::_) _ _ _;first|refine T_val rfl (Val.loadA (vs:=c.cells) rfl (fun _=>rdOwn (b:=pa) (fun j u hu=>addL_get hu)) rfl) rfl rfl rfl ?_|refine T_valC rfl (Val.loadA (vs:=c.cells) rfl (fun _=>rdOwn (b:=pa) (fun j u hu=>addL_get hu)) rfl) rfl rfl rfl rfl rfl ?_|refine T_call rfl rfl rfl rfl rfl (fun w hw=>columnPrg_spec c (some ⟨b2,0,none⟩) (some ⟨bb,0,none⟩) 2 2 2 2 [noTok,(tkA t k.toNat)] [decide (0≤z),decide (0≤k)] w (hg.hst.cls hw) (Src.own hw rfl) rfl (by omega) (Src.own hw rfl) rfl (by omega) hsxy) ?_|refine T_callC rfl rfl rfl rfl rfl rfl rfl (fun hg w hw=>columnPrg_spec c (some ⟨b2,0,none⟩) (some ⟨bb,0,none⟩) 2 2 2 2 [noTok,(tkA t k.toNat)] [decide (0≤z),decide (0≤k)] w (hg.hst.cls hw) (Src.own hw rfl) rfl (by omega) (Src.own hw rfl) rfl (by omega) hsxy) ?_)|(show T _ (.run _ _ (_::_) _ _::_) _ _ _;first|refine rv rfl rfl rfl (Val.loadA (vs:=c.cells) rfl (fun _=>rdOwn (b:=pa) (fun j u hu=>addL_get hu)) rfl) rfl rfl rfl ?_|refine rg rfl rfl rfl (Val.loadA (vs:=c.cells) rfl (fun _=>rdOwn (b:=pa) (fun j u hu=>addL_get hu)) rfl) rfl rfl rfl rfl rfl ?_|refine rc rfl rfl rfl rfl rfl rfl rfl (fun w hw=>columnPrg_spec c (some ⟨b2,0,none⟩) (some ⟨bb,0,none⟩) 2 2 2 2 [noTok,(tkA t k.toNat)] [decide (0≤z),decide (0≤k)] w (hg.hst.cls hw) (Src.own hw rfl) rfl (by omega) (Src.own hw rfl) rfl (by omega) hsxy) ?_|refine rcG rfl rfl rfl rfl rfl rfl rfl rfl rfl (fun hg w hw=>columnPrg_spec c (some ⟨b2,0,none⟩) (some ⟨bb,0,none⟩) 2 2 2 2 [noTok,(tkA t k.toNat)] [decide (0≤z),decide (0≤k)] w (hg.hst.cls hw) (Src.own hw rfl) rfl (by omega) (Src.own hw rfl) rfl (by omega) hsxy) ?_)|(show ∀ _:Nat,T _ _ _ _ _;intro _))
    rw [hcol]
    repeat' (first|refine d1 ?_|refine dd ?_|(show ∀ _:Nat,T _ _ _ _ _;intro _))
    exact T_backX (j+1) (by omega) (by omega) (hE:=⟨rfl,by rw [hput];rfl,trivial⟩) (hG:=Hle.nth 2 rfl)
   ·simp only [decide_eq_false_iff_not] at h2
    have hcol:columnV c [noTok,noTok] [decide (0≤z),decide (0≤k)]=(entC c s.l z t k,0):=by
     rw [col2 hc noTok noTok _ _ (fun h9=>absurd (of_decide_eq_true h9) h1) (fun h9=>absurd (of_decide_eq_true h9) h2)];unfold entC;simp [h1,h2]
    have hsxy:∀ x∈[noTok,noTok],x.small:=by
     intro x hx
     simp only [List.mem_cons,List.mem_nil_iff,or_false] at hx
     rcases hx with rfl|rfl
     ·exact noTok_small
     ·exact noTok_small
    refine T_le (H':=[blk bb ([decide (0≤z),decide (0≤k)].map Value.bool) 4,blk b2 ([noTok,noTok].flatMap Tok.cells) 42,blk pa (addL c (.slice (some ⟨b,o,none⟩) n ca) (.slice Ak nk ck) (.slice At m ct) (.slice Ab nb cb)) 176]) (Hle.refl _) ?_
    repeat' (first|refine d1 ?_|refine dd ?_|(show T _ (.ops _ (_::_)::_) _ _ _;first|refine T_val rfl (Val.loadA (vs:=c.cells) rfl (fun _=>rdOwn (b:=pa) (fun j u hu=>addL_get hu)) rfl) rfl rfl rfl ?_|refine T_valC rfl (Val.loadA (vs:=c.cells) rfl (fun _=>rdOwn (b:=pa) (fun j u hu=>addL_get hu)) rfl) rfl rfl rfl rfl rfl ?_|refine T_call rfl rfl rfl rfl rfl (fun w hw=>columnPrg_spec c (some ⟨b2,0,none⟩) (some ⟨bb,0,none⟩) 2 2 2 2 [noTok,noTok] [decide (0≤z),decide (0≤k)] w (hg.hst.cls hw) (Src.own hw rfl) rfl (by omega) (Src.own hw rfl) rfl (by omega) hsxy) ?_|refine T_callC rfl rfl rfl rfl rfl rfl rfl (fun hg w hw=>columnPrg_spec c (some ⟨b2,0,none⟩) (some ⟨bb,0,none⟩) 2 2 2 2 [noTok,noTok] [decide (0≤z),decide (0≤k)] w (hg.hst.cls hw) (Src.own hw rfl) rfl (by omega) (Src.own hw rfl) rfl (by omega) hsxy) ?_)|(show T _ (.run _ _ (_::_) _ _::_) _ _ _;first|refine rv rfl rfl rfl (Val.loadA (vs:=c.cells) rfl (fun _=>rdOwn (b:=pa) (fun j u hu=>addL_get hu)) rfl) rfl rfl rfl ?_|refine rg rfl rfl rfl (Val.loadA (vs:=c.cells) rfl (fun _=>rdOwn (b:=pa) (fun j u hu=>addL_get hu)) rfl) rfl rfl rfl rfl rfl ?_|refine rc rfl rfl rfl rfl rfl rfl rfl (fun w hw=>columnPrg_spec c (some ⟨b2,0,none⟩) (some ⟨bb,0,none⟩) 2 2 2 2 [noTok,noTok] [decide (0≤z),decide (0≤k)] w (hg.hst.cls hw) (Src.own hw rfl) rfl (by omega) (Src.own hw rfl) rfl (by omega) hsxy) ?_|refine rcG rfl rfl rfl rfl rfl rfl rfl rfl rfl (fun hg w hw=>columnPrg_spec c (some ⟨b2,0,none⟩) (some ⟨bb,0,none⟩) 2 2 2 2 [noTok,noTok] [decide (0≤z),decide (0≤k)] w (hg.hst.cls hw) (Src.own hw rfl) rfl (by omega) (Src.own hw rfl) rfl (by omega) hsxy) ?_)|(show ∀ _:Nat,T _ _ _ _ _;intro _))
    rw [hcol]
    repeat' (first|refine d1 ?_|refine dd ?_|(show ∀ _:Nat,T _ _ _ _ _;intro _))
    exact T_backX (j+1) (by omega) (by omega) (hE:=⟨rfl,by rw [hput];rfl,trivial⟩) (hG:=Hle.nth 2 rfl)
 ·simp only [decide_eq_false_iff_not] at h
  rw [putS_all c t k (by omega)]
  repeat' (first|refine d1 ?_|refine dd ?_|(show ∀ _:Nat,T _ _ _ _ _;intro _)|(show T _ (.code .ret::_) _ _ _;refine T_retV [] rfl (Hle.none _) ⟨rfl,rfl⟩))
end Go.Proofs.YtblnhdnogjijiaaGreatDoor
namespace Go.Proofs.YtblnhdnogjijiaaGreatDoor
open Go.RowKit Go.Shelf Go.Proofs
set_option maxRecDepth 100000
set_option maxHeartbeats 1000000

def tsA (l:List TS) (i:Nat):TS:=l.getD i ⟨none,0,0,[]⟩
theorem tsA_eq {l:List TS} {i:Nat} {t:TS} (h:l[i]?=some t):tsA l i=t:=by unfold tsA;rw [List.getD_eq_getElem?_getD,h];rfl
theorem tsA_len {l:List TS} (h:∀ t∈l,t.l.length≤1000) (i:Nat):(tsA l i).l.length≤1000:=by
 unfold tsA
 rw [List.getD_eq_getElem?_getD]
 cases hi:l[i]? with
 | none=>exact Nat.zero_le _
 | some t=>exact h t (List.mem_of_getElem? hi)
def dstT (c:Costs) (l:List TS) (i k:Nat):Int:=if i<k then rst (grdOf c (tsA l i).l (tsA l k).l) 0 0 else if k<i then rst (grdOf c (tsA l k).l (tsA l i).l) 0 0 else 0
theorem dstT_sym (c:Costs) (l:List TS):Sym (dstT c l):=⟨fun i=>by unfold dstT;rw [if_neg (by omega),if_neg (by omega)],fun i k=>by
 unfold dstT
 rcases Nat.lt_trichotomy i k with h|h|h
 ·rw [if_pos h,if_neg (by omega),if_pos h]
 ·subst h;rfl
 ·rw [if_neg (by omega),if_pos h,if_pos h]⟩
theorem dstT_bd {c:Costs} (hc:costE c=0) {l:List TS} (h:∀ t∈l,t.l.length≤1000) (i k:Nat):0≤dstT c l i k∧dstT c l i k≤2000000:=by
 unfold dstT
 (repeat' split)
 ·exact rst_bd2 (grdOf_ok hc _ _) rfl rfl (tsA_len h _) (tsA_len h _) 0 0
 ·exact rst_bd2 (grdOf_ok hc _ _) rfl rfl (tsA_len h _) (tsA_len h _) 0 0
 ·omega
theorem Grp.len {w:World} {A:Option Addr} {n:Nat} {l:List TS} (hg:Grp w A n l):∀ t∈l,t.l.length≤1000:=fun t ht=>by
 have:=hg.ok.len t ht
 have:=hg.nb t ht
 omega
theorem Grp.two {w:World} {A:Option Addr} {n:Nat} {l:List TS} (hg:Grp w A n l) {s t:TS} (hs:s∈l) (ht:t∈l):Two w s.A t.A s.n t.n s.l t.l :=
 ⟨hg.hst,hg.ok.src s hs,hg.ok.len s hs,hg.nb s hs,hg.ok.src t ht,hg.ok.len t ht,hg.nb t ht,hg.sm s hs,hg.sm t ht⟩
theorem dst_V {c:Costs} {l:List TS} (hc:costE c=0) (hbs:badS l=false) {i k:Nat} {s t:TS} (hs:l[i]?=some s) (ht:l[k]?=some t) (h:i<k):distV c s.l t.l=(dstT c l i k,0):=by
 have e:ckV c s.l t.l=0:=by
  unfold ckV
  rw [if_neg]
  have h1:=badL_false.2 (badS_ok hbs s (List.mem_of_getElem? hs))
  have h2:=badL_false.2 (badS_ok hbs t (List.mem_of_getElem? ht))
  rw [h1,h2]
  simp [hc]
 unfold distV dstT
 rw [if_pos e,if_pos h,tsA_eq hs,tsA_eq ht]
def slw (n:Nat) (x:Nat × List Value):Value := .slice (some ⟨x.1,0,none⟩) n n
theorem slw_set {n k g:Nat} {cs cs':List Value} {M:List (Nat × List Value)} (h:M[k]?=some (g,cs)):(M.set k (g,cs')).map (slw n)=M.map (slw n):=by
 have e0:∀ L:List (Nat × List Value),L.map (slw n)=(L.map Prod.fst).map fun g=>Value.slice (some ⟨g,0,none⟩) n n:=fun L=>by rw [List.map_map];rfl
 rw [e0,e0 M,fst_set h]
theorem InP.up {n i k:Nat} {p:Nat × Nat} (h:InP n i k p):InP n i (k+1) p:=⟨h.1,h.2.1,by
 rcases h.2.2 with h3|h3|h3
 ·exact .inl h3
 ·exact .inr (.inl h3)
 ·exact .inr (.inr ⟨h3.1,by omega⟩)⟩
def natV (x:Nat):Value := .int .i64 (x:Nat)
def intN (l:List Nat):List Int:=l.map fun (x:Nat)=>(x:Int)
theorem intN_val (l:List Nat):(intN l).map (Value.int .i64)=l.map natV:=by unfold intN natV;rw [List.map_map];rfl
theorem intN_any (l:List Nat) (i:Nat):((intN l).any fun x=>decide ((i:Int)=x))=tkOf l i:=by
 unfold intN tkOf
 rw [List.any_map]
 congr 1
 funext x
 exact decide_eq_decide.2 (by dsimp only [Function.comp];omega)
theorem intN_mem {l:List Nat} {z:Int} (h:z∈intN l):∃ a:Nat,a∈l∧z=(a:Nat):=by
 obtain⟨a,h1,h2⟩:=List.mem_map.1 h
 exact⟨a,h1,h2.symm⟩
theorem intN_D (l:List Nat):intsD (intN l) = .s 1 ((l.map natV).map .v):=by
 unfold intsD;rw [← intN_val,List.map_map];rfl
def OutOk (D:Nat→Nat→Int) (n:Nat) (out:List Nat):Prop:=(n<2∧out=orderV D n)∨(2≤n∧∃ j,out=ordJ D n j)
theorem OutOk.start (D:Nat→Nat→Int) (n:Nat):OutOk D n ([(selI D n n).1,(selI D n n).2].take (min n 2)):=by
 rcases Nat.lt_or_ge n 2 with h|h
 ·refine .inl ⟨h,?_⟩
  rcases (show n=0∨n=1 by omega) with rfl|rfl
  ·rfl
  ·have e:selI D 1 1=(0,1):=selK_low D 0 (0,1) 1 (by omega)
   rw [e];rfl
 ·refine .inr ⟨h,0,?_⟩
  rw [Nat.min_eq_right h];rfl
theorem OutOk.all {D:Nat→Nat→Int} {n:Nat} {out:List Nat} (h:OutOk D n out) (hl:out.length=n):out=orderV D n:=by
 rcases h with h|⟨h,j,rfl⟩
 ·exact h.2
 ·rw [ordJ_len] at hl
  unfold orderV
  rw [if_neg (by omega),if_neg (by omega),show n - 2=j by omega]
theorem OutOk.next {D:Nat→Nat→Int} {n:Nat} {out:List Nat} (h:OutOk D n out) (hl:out.length<n):2≤n∧(∃ j,out=ordJ D n j∧j+2<n)∧OutOk D n (out++[nxtO D n out]):=by
 rcases h with h|⟨h,j,rfl⟩
 ·rw [h.2,orderV_len] at hl;omega
 ·rw [ordJ_len] at hl
  exact⟨h,⟨j,rfl,by omega⟩, .inr ⟨h,j+1,rfl⟩⟩
theorem scanP_tk {near:Nat→Int} {tk:Nat→Bool} {i:Nat} (h:tk i=true):scanP near tk (i+1)=scanP near tk i:=by simp [scanP,h]
theorem scanP_no {near:Nat→Int} {tk:Nat→Bool} {i:Nat} (h:tk i=false):scanP near tk (i+1)=if (scanP near tk i).1<0∨near i<(scanP near tk i).2 then ((i:Int),near i) else scanP near tk i:=by simp [scanP,h]
theorem order21_spec (c:Costs) (A:Option Addr) (n ca:Nat) (l:List TS) (w:World) (hg:Grp w A n l) (hc:costE c=0) (hbs:badS l=false) :
  Spec Tryz.prog 90 [c.val, .slice A n ca] w (fun v R=>∃ x:Value,True∧v = .tuple #[x, .int .i64 0]∧R=[dat [x] [intsD (intN (orderV (dstT c l) n))]]):=by
 have hb:=hg.hb
 have hn:=hg.hn
 have hD:=dstT_sym c l
 have hbd:=dstT_bd hc hg.len
 refine spec_of sg Tryz.func90 rfl rfl rfl ?_
 refine T_op (OpT.box (cs:=c.cells) rfl rfl rfl rfl rfl rfl rfl (fun pc=>?_))
 repeat' (first|refine d1 ?_|refine dd ?_|(show T _ (.ops _ (_::_)::_) _ _ _;refine T_op (OpT.make rfl rfl rfl rfl rfl rfl rfl rfl rfl (by dsimp only;omega) (fun b1=>?_)))|(show ∀ _:Nat,T _ _ _ _ _;intro _))
 rename_i p7
 refine T_nilblks 3 ?_
 refine T_loopX (fun L:List (Nat × List Value)=>[(26, .int .i64 L.length)]) (fun L=>[blks 3 L,blk p7 [.slice (some ⟨b1,0,none⟩) n n] 30,blk b1 (L.map (slw n)++List.replicate (n - L.length) (.slice none 0 0)) 47,blk pc c.cells 23]) (fun L=>L.length≤n∧RowsOk (fun _ _=>0) n L) (fun L=>n - L.length) [] ⟨Nat.zero_le _,fun i x h=>by simp at h⟩ ?_
 rintro L ⟨hL,hR⟩
 repeat' (first|refine d1 ?_|refine dd ?_|(show ∀ _:Nat,T _ _ _ _ _;intro _))
 refine T_if rfl (fun h=>?_) (fun h=>?_)
 ·simp only [decide_eq_true_eq] at h
  have hlt:L.length<n:=by omega
  repeat' (first|refine d1 ?_|refine dd ?_|(show T _ (.run _ _ (_::_) _ _::_) _ _ _;refine ro rfl rfl (OpT.make rfl rfl rfl rfl rfl rfl rfl rfl rfl (by dsimp only;omega) (fun b2=>⟨fun _=>Hle.sub,?_⟩)))|(show ∀ _:Nat,T _ _ _ _ _;intro _))
  refine T_backX (L++[(b2,List.replicate n (.int .i64 0))]) ⟨by simp;omega,rows_snoc0 hR⟩ (by simp;omega) (hE:=⟨by rw [List.length_append];rfl,trivial⟩) (hG:=?_)
  show Hle [blk b2 (List.replicate n (.int .i64 0)) 3,blks 3 L,blk p7 _ _,blk b1 ((L.map (slw n)++List.replicate (n - L.length) (Value.slice none 0 0)).set (0+(L.length:Int).toNat * 1) (Value.slice (some ⟨b2,0,none⟩) n n)) _,_] _
  rw [show 0+(L.length:Int).toNat * 1=L.length by omega,set_boundary _ _ _ _ _ (by omega) (by simp)]
  have e:L.map (slw n)++[Value.slice (some ⟨b2,0,none⟩) n n]++List.replicate (n - L.length - 1) (Value.slice none 0 0)=(L++[(b2,List.replicate n (Value.int .i64 0))]).map (slw n)++List.replicate (n - (L++[(b2,List.replicate n (Value.int .i64 0))]).length) (Value.slice none 0 0):=by
   rw [List.map_append,List.length_append,show n - L.length - 1=n - (L.length+1) by omega];rfl
  rw [e]
  exact blks_snoc
 simp only [decide_eq_false_iff_not] at h
 have hLn:L.length=n:=by omega
 have e:L.map (slw n)++List.replicate (n - L.length) (Value.slice none 0 0)=L.map (slw n):=by rw [hLn,Nat.sub_self];simp
 rw [e]
 have hR0:RowsOk (tbl (dstT c l) 0 0) n L:=hR.ext hLn fun p q _ _=>(tbl_zero _ p q).symm
 repeat' (first|refine d1 ?_|refine dd ?_|(show ∀ _:Nat,T _ _ _ _ _;intro _))
 refine T_loopX (fun s:Nat × List (Nat × List Value)=>[(36, .int .i64 s.1),(9, .int .i64 ((selI (dstT c l) n s.1).1:Nat)),(10, .int .i64 ((selI (dstT c l) n s.1).2:Nat))]) (fun s=>[blks 3 s.2,blk p7 [.slice (some ⟨b1,0,none⟩) n n] 30,blk b1 (s.2.map (slw n)) 47,blk pc c.cells 23]) (fun s=>s.1≤n∧s.2.length=n∧RowsOk (tbl (dstT c l) s.1 0) n s.2) (fun s=>n - s.1) (0,L) ⟨Nat.zero_le _,hLn,hR0⟩ ?_
 rintro⟨i,M⟩ ⟨hi,hM,hR2⟩
 dsimp only at hi hM hR2 ⊢
 repeat' (first|refine d1 ?_|refine dd ?_|(show ∀ _:Nat,T _ _ _ _ _;intro _))
 refine T_if rfl (fun h1=>?_) (fun h1=>?_)
 ·simp only [decide_eq_true_eq] at h1
  have hin:i<n:=by omega
  repeat' (first|refine d1 ?_|refine dd ?_|(show ∀ _:Nat,T _ _ _ _ _;intro _))
  refine T_loopX (fun s:Nat × List (Nat × List Value)=>[(12, .int .i64 s.1),(9, .int .i64 ((selK (dstT c l) i (selI (dstT c l) n i) s.1).1:Nat)),(10, .int .i64 ((selK (dstT c l) i (selI (dstT c l) n i) s.1).2:Nat))]) (fun s=>[blks 3 s.2,blk p7 [.slice (some ⟨b1,0,none⟩) n n] 30,blk b1 (s.2.map (slw n)) 47,blk pc c.cells 23]) (fun s=>i+1≤s.1∧s.1≤n∧s.2.length=n∧RowsOk (tbl (dstT c l) i s.1) n s.2) (fun s=>n - s.1) (i+1,M) ⟨Nat.le_refl _,hin,hM,hR2.ext hM fun p q _ _=>(tbl_low hD i p q).symm⟩ ?_ (hE:=⟨rfl,by rw [selK_low _ _ _ _ (Nat.le_refl _)];rfl,by rw [selK_low _ _ _ _ (Nat.le_refl _)];rfl,trivial⟩)
  rintro⟨k,M2⟩ ⟨hk1,hk2,hM2,hR3⟩
  dsimp only at hk1 hk2 hM2 hR3 ⊢
  repeat' (first|refine d1 ?_|refine dd ?_|(show ∀ _:Nat,T _ _ _ _ _;intro _))
  refine T_if rfl (fun h2=>?_) (fun h2=>?_)
  ·simp only [decide_eq_true_eq] at h2
   have hkn:k<n:=by omega
   have hik:i<k:=by omega
   obtain⟨b,o,rfl⟩:=hg.hs.base (by omega)
   obtain⟨s,hs,hsm,hrs⟩:=hg.get hin
   obtain⟨t,ht,htm,hrt⟩:=hg.get hkn
   have hd:=dst_V hc hbs hs ht hik
   have hbk:=hbd i k
   have hin1:=selK_in (D:=dstT c l) (selI_in (D:=dstT c l) (n:=n) (by omega) i (by omega)) k hk2
   have hst:=selK_step (D:=dstT c l) (fs:=selI (dstT c l) n i) hik
   generalize selK (dstT c l) i (selI (dstT c l) n i) k=fs at hin1 hst ⊢
   obtain⟨f,s2⟩:=fs
   have hin2:=hin1.up
   have htb:=tbl_in (D:=dstT c l) hik hin2
   obtain⟨hfs1,hfs2,-⟩:=hin2
   dsimp only at htb hfs1 hfs2 ⊢
   repeat' (first|refine d1 ?_|refine dd ?_|(show T _ (.ops _ (_::_)::_) _ _ _;first|refine T_call rfl rfl rfl rfl rfl (fun w hw=>distancePrg_spec c s.A t.A s.n t.n s.cap t.cap s.l t.l w ((hg.cls hw).two hsm htm)) ?_|refine T_callC rfl rfl rfl rfl rfl rfl rfl (fun hg w hw=>distancePrg_spec c s.A t.A s.n t.n s.cap t.cap s.l t.l w ((hg.cls hw).two hsm htm)) ?_)|(show T _ (.run _ _ (_::_) _ _::_) _ _ _;first|refine rc rfl rfl rfl rfl rfl rfl rfl (fun w hw=>distancePrg_spec c s.A t.A s.n t.n s.cap t.cap s.l t.l w ((hg.cls hw).two hsm htm)) ?_|refine rcG rfl rfl rfl rfl rfl rfl rfl rfl rfl (fun hg w hw=>distancePrg_spec c s.A t.A s.n t.n s.cap t.cap s.l t.l w ((hg.cls hw).two hsm htm)) ?_)|(show ∀ _:Nat,T _ _ _ _ _;intro _))
   rw [hd]
   refine T_if rfl (fun h3=>by exfalso;simp at h3) (fun h3=>?_)
   obtain⟨⟨gi,ci⟩,hLi⟩:∃ x,M2[i]?=some x:=⟨_,List.getElem?_eq_getElem (by omega)⟩
   obtain⟨⟨gq,cq⟩,hLq⟩:∃ x,M2[k]?=some x:=⟨_,List.getElem?_eq_getElem (by omega)⟩
   have hcil:ci.length=n:=by rw [show ci=_ from hR3 _ _ hLi,valV_length]
   have hcql:cq.length=n:=by rw [show cq=_ from hR3 _ _ hLq,valV_length]
   have hne:i≠k:=by omega
   have hLq':∀ x,(M2.set i x)[k]?=some (gq,cq):=fun x=>by rw [List.getElem?_set_ne hne];exact hLq
   refine rsH [blk p7 [.slice (some ⟨b1,0,none⟩) n n] 30,blk b1 (M2.map (slw n)) 47] 1000 [0,1,2,3,4,5,6,7,8,9,10,11,12,13,14,15] ?_
   repeat' (first|refine d1 ?_|refine dd ?_|(show T _ (.ops _ (_::_)::_) _ _ _;first|refine T_val rfl (Val.load rfl (fun hg=>rdOwn1 (u := .slice (some ⟨gi,0,none⟩) n n) (b:=b1) (by rw [show 0+(i:Int).toNat * 1=i by omega,List.getElem?_map,hLi];rfl))) rfl rfl rfl ?_|refine T_valC rfl (Val.load rfl (fun hg=>rdOwn1 (u := .slice (some ⟨gi,0,none⟩) n n) (b:=b1) (by rw [show 0+(i:Int).toNat * 1=i by omega,List.getElem?_map,hLi];rfl))) rfl rfl rfl rfl rfl ?_|refine T_val rfl (Val.load rfl (fun hg=>rdOwn1 (u := .slice (some ⟨gq,0,none⟩) n n) (b:=b1) (by rw [show 0+(k:Int).toNat * 1=k by omega,List.getElem?_map,hLq];rfl))) rfl rfl rfl ?_|refine T_valC rfl (Val.load rfl (fun hg=>rdOwn1 (u := .slice (some ⟨gq,0,none⟩) n n) (b:=b1) (by rw [show 0+(k:Int).toNat * 1=k by omega,List.getElem?_map,hLq];rfl))) rfl rfl rfl rfl rfl ?_)|(show T _ (.run _ _ (_::_) _ _::_) _ _ _;first|refine rv rfl rfl rfl (Val.load rfl (fun hg=>rdOwn1 (u := .slice (some ⟨gi,0,none⟩) n n) (b:=b1) (by rw [show 0+(i:Int).toNat * 1=i by omega,List.getElem?_map,hLi];rfl))) rfl rfl rfl ?_|refine rg rfl rfl rfl (Val.load rfl (fun hg=>rdOwn1 (u := .slice (some ⟨gi,0,none⟩) n n) (b:=b1) (by rw [show 0+(i:Int).toNat * 1=i by omega,List.getElem?_map,hLi];rfl))) rfl rfl rfl rfl rfl ?_|refine rv rfl rfl rfl (Val.load rfl (fun hg=>rdOwn1 (u := .slice (some ⟨gq,0,none⟩) n n) (b:=b1) (by rw [show 0+(k:Int).toNat * 1=k by omega,List.getElem?_map,hLq];rfl))) rfl rfl rfl ?_|refine rg rfl rfl rfl (Val.load rfl (fun hg=>rdOwn1 (u := .slice (some ⟨gq,0,none⟩) n n) (b:=b1) (by rw [show 0+(k:Int).toNat * 1=k by omega,List.getElem?_map,hLq];rfl))) rfl rfl rfl rfl rfl ?_|refine ro rfl rfl (OpT.storeM rfl rfl rfl hLi rfl (by omega) ⟨fun _=>Hle.sub,?_⟩)|refine ro rfl rfl (OpT.storeM rfl rfl rfl (k:=k) (cs:=cq) (hLq' _) rfl (by omega) ⟨fun _=>Hle.sub,?_⟩))|(show ∀ _:Nat,T _ _ _ _ _;intro _))
   rw [show 0+(k:Int).toNat * 1=k by omega,show 0+(i:Int).toNat * 1=i by omega]
   have hR4:RowsOk (tbl (dstT c l) i (k+1)) n ((M2.set i (gi,ci.set k (.int .i64 (dstT c l i k)))).set k (gq,cq.set i (.int .i64 (dstT c l i k)))) :=
    rows_put (f:=fun p q=>if p=i∧q=k then dstT c l i k else tbl (dstT c l) i k p q) (rows_put hR3 hLi (fun _ _=>rfl)) (hLq' _) (fun p q=>tbl_step hD hik p q)
   have hM4:((M2.set i (gi,ci.set k (.int .i64 (dstT c l i k)))).set k (gq,cq.set i (.int .i64 (dstT c l i k)))).length=n:=by rw [List.length_set,List.length_set];exact hM2
   have eM:((M2.set i (gi,ci.set k (.int .i64 (dstT c l i k)))).set k (gq,cq.set i (.int .i64 (dstT c l i k)))).map (slw n)=M2.map (slw n):=by rw [slw_set (hLq' _),slw_set hLi]
   generalize (M2.set i (gi,ci.set k (.int .i64 (dstT c l i k)))).set k (gq,cq.set i (.int .i64 (dstT c l i k)))=M4 at hR4 hM4 eM ⊢
   rw [← eM]
   obtain⟨⟨gf,cf⟩,hLf⟩:∃ x,M4[f]?=some x:=⟨_,List.getElem?_eq_getElem (by omega)⟩
   have hcf:cf=_:=hR4 _ _ hLf
   repeat' (first|refine d1 ?_|refine dd ?_|(show T _ (.ops _ (_::_)::_) _ _ _;first|refine T_val rfl (Val.load rfl (fun hg=>rdOwn1 (u := .slice (some ⟨gf,0,none⟩) n n) (b:=b1) (by rw [show 0+(f:Int).toNat * 1=f by omega,List.getElem?_map,hLf];rfl))) rfl rfl rfl ?_|refine T_valC rfl (Val.load rfl (fun hg=>rdOwn1 (u := .slice (some ⟨gf,0,none⟩) n n) (b:=b1) (by rw [show 0+(f:Int).toNat * 1=f by omega,List.getElem?_map,hLf];rfl))) rfl rfl rfl rfl rfl ?_|refine T_val rfl (Val.load rfl (fun hg=>rdM (l:=M4) (k:=f) (g:=gf) (vs:=[.int .i64 (dstT c l f s2)]) hLf (get1 (by rw [hcf, ← htb];exact vget s2 (by omega) (by omega))))) rfl rfl rfl ?_|refine T_valC rfl (Val.load rfl (fun hg=>rdM (l:=M4) (k:=f) (g:=gf) (vs:=[.int .i64 (dstT c l f s2)]) hLf (get1 (by rw [hcf, ← htb];exact vget s2 (by omega) (by omega))))) rfl rfl rfl rfl rfl ?_)|(show T _ (.run _ _ (_::_) _ _::_) _ _ _;first|refine rv rfl rfl rfl (Val.load rfl (fun hg=>rdOwn1 (u := .slice (some ⟨gf,0,none⟩) n n) (b:=b1) (by rw [show 0+(f:Int).toNat * 1=f by omega,List.getElem?_map,hLf];rfl))) rfl rfl rfl ?_|refine rg rfl rfl rfl (Val.load rfl (fun hg=>rdOwn1 (u := .slice (some ⟨gf,0,none⟩) n n) (b:=b1) (by rw [show 0+(f:Int).toNat * 1=f by omega,List.getElem?_map,hLf];rfl))) rfl rfl rfl rfl rfl ?_|refine rv rfl rfl rfl (Val.load rfl (fun hg=>rdM (l:=M4) (k:=f) (g:=gf) (vs:=[.int .i64 (dstT c l f s2)]) hLf (get1 (by rw [hcf, ← htb];exact vget s2 (by omega) (by omega))))) rfl rfl rfl ?_|refine rg rfl rfl rfl (Val.load rfl (fun hg=>rdM (l:=M4) (k:=f) (g:=gf) (vs:=[.int .i64 (dstT c l f s2)]) hLf (get1 (by rw [hcf, ← htb];exact vget s2 (by omega) (by omega))))) rfl rfl rfl rfl rfl ?_)|(show ∀ _:Nat,T _ _ _ _ _;intro _))
   refine T_if rfl (fun h4=>?_) (fun h4=>?_)
   ·simp only [decide_eq_true_eq] at h4
    have hst2:selK (dstT c l) i (selI (dstT c l) n i) (k+1)=(i,k):=by rw [hst];exact if_pos h4
    repeat' (first|refine d1 ?_|refine dd ?_|(show ∀ _:Nat,T _ _ _ _ _;intro _))
    exact T_backX (k+1,M4) ⟨by dsimp only;omega,by dsimp only;omega,hM4,hR4⟩ (by dsimp only;omega) (hE:=⟨rfl,by rw [hst2];rfl,by rw [hst2];rfl,trivial⟩)
   ·simp only [decide_eq_false_iff_not] at h4
    have hst2:selK (dstT c l) i (selI (dstT c l) n i) (k+1)=(f,s2):=by rw [hst];exact if_neg h4
    repeat' (first|refine d1 ?_|refine dd ?_|(show ∀ _:Nat,T _ _ _ _ _;intro _))
    exact T_backX (k+1,M4) ⟨by dsimp only;omega,by dsimp only;omega,hM4,hR4⟩ (by dsimp only;omega) (hE:=⟨rfl,by rw [hst2];rfl,by rw [hst2];rfl,trivial⟩)
  ·simp only [decide_eq_false_iff_not] at h2
   obtain rfl:k=n:=by omega
   repeat' (first|refine d1 ?_|refine dd ?_|(show ∀ _:Nat,T _ _ _ _ _;intro _))
   exact T_backX (i+1,M2) ⟨hin,hM2,hR3.ext hM2 fun p q hp hq=>tbl_next i p q hp hq⟩ (by dsimp only;omega)
 simp only [decide_eq_false_iff_not] at h1
 obtain rfl:i=n:=by omega
 have hRD:RowsOk (dstT c l) i M:=hR2.ext hM fun p q hp hq=>tbl_all p q hp hq
 repeat' (first|refine d1 ?_|refine dd ?_|(show ∀ _:Nat,T _ _ _ _ _;intro _))
 rename_i b3
 have ho0:=OutOk.start (dstT c l) i
 have hl0:([(selI (dstT c l) i i).1,(selI (dstT c l) i i).2].take (min i 2)).length=min i 2:=by rw [List.length_take];simp
 refine T_le (H':=[row 3 1 (some ⟨b3,0,none⟩) 2 (min i 2) (([(selI (dstT c l) i i).1,(selI (dstT c l) i i).2].take (min i 2)).map natV),blks 3 M,blk p7 [.slice (some ⟨b1,0,none⟩) i i] 30,blk b1 (M.map (slw i)) 47,blk pc c.cells 23]) (Hle.weaken (i:=0) rfl (fun f hf=>by rw [List.map_take];exact blk_row_take (by simp;omega) (by simp [maxLen]) f hf) rfl) ?_
 generalize [(selI (dstT c l) i i).1,(selI (dstT c l) i i).2].take (min i 2)=out0 at ho0 hl0 ⊢
 refine T_loopX (fun x:(Option Addr × Nat) × List Nat=>[(15, .slice x.1.1 x.2.length x.1.2)]) (fun x=>[row 3 1 x.1.1 x.1.2 x.2.length (x.2.map natV),blks 3 M,blk p7 [.slice (some ⟨b1,0,none⟩) i i] 30,blk b1 (M.map (slw i)) 47,blk pc c.cells 23]) (fun x=>x.2.length≤i∧OutOk (dstT c l) i x.2) (fun x=>i - x.2.length) ((some ⟨b3,0,none⟩,2),out0) ⟨by dsimp only;omega,ho0⟩ ?_ (hE:=⟨by dsimp only;rw [hl0,show min i 2=(min (i:Int) 2).toNat by omega];rfl,trivial⟩) (hG:=by dsimp only;rw [hl0];exact Hle.refl _)
 rintro⟨⟨Ao,cap⟩,out⟩ ⟨hol,hok⟩
 dsimp only at hol hok ⊢
 repeat' (first|refine d1 ?_|refine dd ?_|(show ∀ _:Nat,T _ _ _ _ _;intro _))
 refine T_if rfl (fun h2=>?_) (fun h2=>?_)
 ·simp only [decide_eq_true_eq] at h2
  have hl:out.length<i:=by omega
  obtain⟨h2i,⟨j,hoj,hj2⟩,hok2⟩:=hok.next hl
  obtain⟨hnd,hlt⟩:=ordJ_ok (D:=dstT c l) (fun i k=>(hbd i k).1) h2i j (by omega)
  rw [← hoj] at hnd hlt
  have hne:out≠[]:=fun h=>by rw [h] at hoj;have:=ordJ_len (dstT c l) i j;rw [← hoj] at this;simp at this
  have hnl:=nxtO_law (D:=dstT c l) (fun i k=>(hbd i k).1) hne hlt hl
  have hpos:0<out.length:=List.length_pos_iff.2 hne
  refine T_rowpos (A:=Ao) hpos (fun g e=>?_)
  subst e
  repeat' (first|refine d1 ?_|refine dd ?_|(show ∀ _:Nat,T _ _ _ _ _;intro _))
  refine T_loopX (fun q:Nat=>[(99, .int .i64 q),(16, .int .i64 (scanP (nearV (dstT c l) out) (tkOf out) q).1),(17, .int .i64 (scanP (nearV (dstT c l) out) (tkOf out) q).2)]) (fun _=>[row 3 1 (some ⟨g,0,none⟩) cap out.length (out.map natV),blks 3 M,blk p7 [.slice (some ⟨b1,0,none⟩) i i] 30,blk b1 (M.map (slw i)) 47,blk pc c.cells 23]) (fun q=>q≤i) (fun q=>i - q) 0 (Nat.zero_le _) ?_
  intro q hq
  repeat' (first|refine d1 ?_|refine dd ?_|(show ∀ _:Nat,T _ _ _ _ _;intro _))
  refine T_if rfl (fun h3=>?_) (fun h3=>?_)
  ·simp only [decide_eq_true_eq] at h3
   have hqi:q<i:=by omega
   repeat' (first|refine d1 ?_|refine dd ?_|(show T _ (.ops _ (_::_)::_) _ _ _;first|refine T_call rfl rfl rfl rfl rfl (fun w hw=>containsI_spec (some ⟨g,0,none⟩) out.length cap (intN out) q w ⟨by rw [intN_val];simp,fun h9=>⟨rfl,rdRow (A:=some ⟨g,0,none⟩) h9 (fun j u hu=>by rw [intN_val] at hu;show (out.map natV)[0+j]?=some u;rw [Nat.zero_add];exact hu) w hw⟩⟩ (by unfold intN;simp) (by omega)) ?_|refine T_callC rfl rfl rfl rfl rfl rfl rfl (fun hg w hw=>containsI_spec (some ⟨g,0,none⟩) out.length cap (intN out) q w ⟨by rw [intN_val];simp,fun h9=>⟨rfl,rdRow (A:=some ⟨g,0,none⟩) h9 (fun j u hu=>by rw [intN_val] at hu;show (out.map natV)[0+j]?=some u;rw [Nat.zero_add];exact hu) w hw⟩⟩ (by unfold intN;simp) (by omega)) ?_)|(show T _ (.run _ _ (_::_) _ _::_) _ _ _;first|refine rc rfl rfl rfl rfl rfl rfl rfl (fun w hw=>containsI_spec (some ⟨g,0,none⟩) out.length cap (intN out) q w ⟨by rw [intN_val];simp,fun h9=>⟨rfl,rdRow (A:=some ⟨g,0,none⟩) h9 (fun j u hu=>by rw [intN_val] at hu;show (out.map natV)[0+j]?=some u;rw [Nat.zero_add];exact hu) w hw⟩⟩ (by unfold intN;simp) (by omega)) ?_|refine rcG rfl rfl rfl rfl rfl rfl rfl rfl rfl (fun hg w hw=>containsI_spec (some ⟨g,0,none⟩) out.length cap (intN out) q w ⟨by rw [intN_val];simp,fun h9=>⟨rfl,rdRow (A:=some ⟨g,0,none⟩) h9 (fun j u hu=>by rw [intN_val] at hu;show (out.map natV)[0+j]?=some u;rw [Nat.zero_add];exact hu) w hw⟩⟩ (by unfold intN;simp) (by omega)) ?_)|(show ∀ _:Nat,T _ _ _ _ _;intro _))
   rename_i p18
   rw [intN_any]
   refine T_if rfl (fun h4=>?_) (fun h4=>?_)
   ·repeat' (first|refine d1 ?_|refine dd ?_|(show ∀ _:Nat,T _ _ _ _ _;intro _))
    exact T_backX (q+1) hqi (by omega) (hE:=⟨rfl,by rw [scanP_tk h4];rfl,by rw [scanP_tk h4];rfl,trivial⟩) (hG:=Hle.tail _ _)
   obtain⟨a,ha,hamin⟩:=minO_mem (dstT c l) hne q
   have hai:=hlt a ha
   have hsc:=scanP_no (near:=nearV (dstT c l) out) h4
   have hnv:nearV (dstT c l) out q=dstT c l q a:=by unfold nearV;rw [hamin];rfl
   rw [hnv] at hsc
   obtain⟨⟨gi,ci⟩,hLi⟩:∃ x,M[q]?=some x:=⟨_,List.getElem?_eq_getElem (by omega)⟩
   have hci:ci=_:=hRD _ _ hLi
   obtain⟨x0,xr,hx0⟩:∃ x0 xr,out=x0::xr:=by
    cases out with
    | nil=>exact absurd rfl hne
    | cons x xr=>exact⟨x,xr,rfl⟩
   have hmin2:minF (keyD (dstT c l) q) ((x0:Nat):Int) (intN xr)=(a:Int):=by rw [← hamin,hx0];rfl
   have hin2:((x0:Nat):Int)::intN xr=intN out:=by rw [hx0];rfl
   repeat' (first|refine d1 ?_|refine dd ?_|(show T _ (.ops _ (_::_)::_) _ _ _;first|refine T_call rfl rfl rfl rfl rfl (fun w hw=>minFuncI_spec (some ⟨g,0,none⟩) out.length cap ((x0:Nat):Int) (intN xr) 148 [] [.pointer (some ⟨p7,0,none⟩), .pointer (some ⟨p18,0,none⟩)] (keyD (dstT c l) q) w ⟨by rw [hin2,intN_val];simp,fun h9=>⟨rfl,rdRow (A:=some ⟨g,0,none⟩) h9 (fun j u hu=>by rw [hin2,intN_val] at hu;show (out.map natV)[0+j]?=some u;rw [Nat.zero_add];exact hu) w hw⟩⟩ (by rw [hin2];unfold intN;simp) (by omega) (fun x hx y hy w' hb'=>by rw [hin2] at hx hy;obtain⟨a',ha',rfl⟩:=intN_mem hx;obtain⟨b',hb'',rfl⟩:=intN_mem hy;exact order1_spec p7 p18 b1 0 i i gi 0 i i q a' b' (dstT c l q a') (dstT c l q b') w' ((rdOwn1 (b:=p7) rfl w hw).below hb') ((rdOwn1 (b:=p18) rfl w hw).below hb') hqi ((rdOwn1 (b:=b1) (by rw [show 0+(q:Int).toNat * 1=q by omega,List.getElem?_map,hLi];rfl) w hw).below hb') (hlt a' ha') (hlt b' hb'') ((rdM (l:=M) hLi (get1 (by rw [hci];exact vget a' (hlt a' ha') (by omega))) w hw).below hb') ((rdM (l:=M) hLi (get1 (by rw [hci];exact vget b' (hlt b' hb'') (by omega))) w hw).below hb') (hbd q a') (hbd q b'))) ?_|refine T_callC rfl rfl rfl rfl rfl rfl rfl (fun hg w hw=>minFuncI_spec (some ⟨g,0,none⟩) out.length cap ((x0:Nat):Int) (intN xr) 148 [] [.pointer (some ⟨p7,0,none⟩), .pointer (some ⟨p18,0,none⟩)] (keyD (dstT c l) q) w ⟨by rw [hin2,intN_val];simp,fun h9=>⟨rfl,rdRow (A:=some ⟨g,0,none⟩) h9 (fun j u hu=>by rw [hin2,intN_val] at hu;show (out.map natV)[0+j]?=some u;rw [Nat.zero_add];exact hu) w hw⟩⟩ (by rw [hin2];unfold intN;simp) (by omega) (fun x hx y hy w' hb'=>by rw [hin2] at hx hy;obtain⟨a',ha',rfl⟩:=intN_mem hx;obtain⟨b',hb'',rfl⟩:=intN_mem hy;exact order1_spec p7 p18 b1 0 i i gi 0 i i q a' b' (dstT c l q a') (dstT c l q b') w' ((rdOwn1 (b:=p7) rfl w hw).below hb') ((rdOwn1 (b:=p18) rfl w hw).below hb') hqi ((rdOwn1 (b:=b1) (by rw [show 0+(q:Int).toNat * 1=q by omega,List.getElem?_map,hLi];rfl) w hw).below hb') (hlt a' ha') (hlt b' hb'') ((rdM (l:=M) hLi (get1 (by rw [hci];exact vget a' (hlt a' ha') (by omega))) w hw).below hb') ((rdM (l:=M) hLi (get1 (by rw [hci];exact vget b' (hlt b' hb'') (by omega))) w hw).below hb') (hbd q a') (hbd q b'))) ?_)|(show T _ (.run _ _ (_::_) _ _::_) _ _ _;first|refine rc rfl rfl rfl rfl rfl rfl rfl (fun w hw=>minFuncI_spec (some ⟨g,0,none⟩) out.length cap ((x0:Nat):Int) (intN xr) 148 [] [.pointer (some ⟨p7,0,none⟩), .pointer (some ⟨p18,0,none⟩)] (keyD (dstT c l) q) w ⟨by rw [hin2,intN_val];simp,fun h9=>⟨rfl,rdRow (A:=some ⟨g,0,none⟩) h9 (fun j u hu=>by rw [hin2,intN_val] at hu;show (out.map natV)[0+j]?=some u;rw [Nat.zero_add];exact hu) w hw⟩⟩ (by rw [hin2];unfold intN;simp) (by omega) (fun x hx y hy w' hb'=>by rw [hin2] at hx hy;obtain⟨a',ha',rfl⟩:=intN_mem hx;obtain⟨b',hb'',rfl⟩:=intN_mem hy;exact order1_spec p7 p18 b1 0 i i gi 0 i i q a' b' (dstT c l q a') (dstT c l q b') w' ((rdOwn1 (b:=p7) rfl w hw).below hb') ((rdOwn1 (b:=p18) rfl w hw).below hb') hqi ((rdOwn1 (b:=b1) (by rw [show 0+(q:Int).toNat * 1=q by omega,List.getElem?_map,hLi];rfl) w hw).below hb') (hlt a' ha') (hlt b' hb'') ((rdM (l:=M) hLi (get1 (by rw [hci];exact vget a' (hlt a' ha') (by omega))) w hw).below hb') ((rdM (l:=M) hLi (get1 (by rw [hci];exact vget b' (hlt b' hb'') (by omega))) w hw).below hb') (hbd q a') (hbd q b'))) ?_|refine rcG rfl rfl rfl rfl rfl rfl rfl rfl rfl (fun hg w hw=>minFuncI_spec (some ⟨g,0,none⟩) out.length cap ((x0:Nat):Int) (intN xr) 148 [] [.pointer (some ⟨p7,0,none⟩), .pointer (some ⟨p18,0,none⟩)] (keyD (dstT c l) q) w ⟨by rw [hin2,intN_val];simp,fun h9=>⟨rfl,rdRow (A:=some ⟨g,0,none⟩) h9 (fun j u hu=>by rw [hin2,intN_val] at hu;show (out.map natV)[0+j]?=some u;rw [Nat.zero_add];exact hu) w hw⟩⟩ (by rw [hin2];unfold intN;simp) (by omega) (fun x hx y hy w' hb'=>by rw [hin2] at hx hy;obtain⟨a',ha',rfl⟩:=intN_mem hx;obtain⟨b',hb'',rfl⟩:=intN_mem hy;exact order1_spec p7 p18 b1 0 i i gi 0 i i q a' b' (dstT c l q a') (dstT c l q b') w' ((rdOwn1 (b:=p7) rfl w hw).below hb') ((rdOwn1 (b:=p18) rfl w hw).below hb') hqi ((rdOwn1 (b:=b1) (by rw [show 0+(q:Int).toNat * 1=q by omega,List.getElem?_map,hLi];rfl) w hw).below hb') (hlt a' ha') (hlt b' hb'') ((rdM (l:=M) hLi (get1 (by rw [hci];exact vget a' (hlt a' ha') (by omega))) w hw).below hb') ((rdM (l:=M) hLi (get1 (by rw [hci];exact vget b' (hlt b' hb'') (by omega))) w hw).below hb') (hbd q a') (hbd q b'))) ?_)|(show ∀ _:Nat,T _ _ _ _ _;intro _))
   rw [hmin2]
   repeat' (first|refine d1 ?_|refine dd ?_|(show T _ (.ops _ (_::_)::_) _ _ _;first|refine T_val rfl (Val.load rfl (fun hg=>rdOwn1 (u := .slice (some ⟨gi,0,none⟩) i i) (b:=b1) (by rw [show 0+(q:Int).toNat * 1=q by omega,List.getElem?_map,hLi];rfl))) rfl rfl rfl ?_|refine T_valC rfl (Val.load rfl (fun hg=>rdOwn1 (u := .slice (some ⟨gi,0,none⟩) i i) (b:=b1) (by rw [show 0+(q:Int).toNat * 1=q by omega,List.getElem?_map,hLi];rfl))) rfl rfl rfl rfl rfl ?_|refine T_val rfl (Val.load rfl (fun hg=>rdM (l:=M) (k:=q) (g:=gi) (vs:=[.int .i64 (dstT c l q a)]) hLi (get1 (by rw [hci];exact vget a (by omega) (by omega))))) rfl rfl rfl ?_|refine T_valC rfl (Val.load rfl (fun hg=>rdM (l:=M) (k:=q) (g:=gi) (vs:=[.int .i64 (dstT c l q a)]) hLi (get1 (by rw [hci];exact vget a (by omega) (by omega))))) rfl rfl rfl rfl rfl ?_)|(show T _ (.run _ _ (_::_) _ _::_) _ _ _;first|refine rv rfl rfl rfl (Val.load rfl (fun hg=>rdOwn1 (u := .slice (some ⟨gi,0,none⟩) i i) (b:=b1) (by rw [show 0+(q:Int).toNat * 1=q by omega,List.getElem?_map,hLi];rfl))) rfl rfl rfl ?_|refine rg rfl rfl rfl (Val.load rfl (fun hg=>rdOwn1 (u := .slice (some ⟨gi,0,none⟩) i i) (b:=b1) (by rw [show 0+(q:Int).toNat * 1=q by omega,List.getElem?_map,hLi];rfl))) rfl rfl rfl rfl rfl ?_|refine rv rfl rfl rfl (Val.load rfl (fun hg=>rdM (l:=M) (k:=q) (g:=gi) (vs:=[.int .i64 (dstT c l q a)]) hLi (get1 (by rw [hci];exact vget a (by omega) (by omega))))) rfl rfl rfl ?_|refine rg rfl rfl rfl (Val.load rfl (fun hg=>rdM (l:=M) (k:=q) (g:=gi) (vs:=[.int .i64 (dstT c l q a)]) hLi (get1 (by rw [hci];exact vget a (by omega) (by omega))))) rfl rfl rfl rfl rfl ?_)|(show ∀ _:Nat,T _ _ _ _ _;intro _))
   refine T_if rfl (fun h5=>?_) (fun h5=>?_)
   ·simp only [Bool.or_eq_true,decide_eq_true_eq] at h5
    rw [if_pos h5] at hsc
    repeat' (first|refine d1 ?_|refine dd ?_|(show T _ (.ops _ (_::_)::_) _ _ _;first|refine T_val rfl (Val.load rfl (fun hg=>rdOwn1 (u := .slice (some ⟨gi,0,none⟩) i i) (b:=b1) (by rw [show 0+(q:Int).toNat * 1=q by omega,List.getElem?_map,hLi];rfl))) rfl rfl rfl ?_|refine T_valC rfl (Val.load rfl (fun hg=>rdOwn1 (u := .slice (some ⟨gi,0,none⟩) i i) (b:=b1) (by rw [show 0+(q:Int).toNat * 1=q by omega,List.getElem?_map,hLi];rfl))) rfl rfl rfl rfl rfl ?_|refine T_val rfl (Val.load rfl (fun hg=>rdM (l:=M) (k:=q) (g:=gi) (vs:=[.int .i64 (dstT c l q a)]) hLi (get1 (by rw [hci];exact vget a (by omega) (by omega))))) rfl rfl rfl ?_|refine T_valC rfl (Val.load rfl (fun hg=>rdM (l:=M) (k:=q) (g:=gi) (vs:=[.int .i64 (dstT c l q a)]) hLi (get1 (by rw [hci];exact vget a (by omega) (by omega))))) rfl rfl rfl rfl rfl ?_)|(show T _ (.run _ _ (_::_) _ _::_) _ _ _;first|refine rv rfl rfl rfl (Val.load rfl (fun hg=>rdOwn1 (u := .slice (some ⟨gi,0,none⟩) i i) (b:=b1) (by rw [show 0+(q:Int).toNat * 1=q by omega,List.getElem?_map,hLi];rfl))) rfl rfl rfl ?_|refine rg rfl rfl rfl (Val.load rfl (fun hg=>rdOwn1 (u := .slice (some ⟨gi,0,none⟩) i i) (b:=b1) (by rw [show 0+(q:Int).toNat * 1=q by omega,List.getElem?_map,hLi];rfl))) rfl rfl rfl rfl rfl ?_|refine rv rfl rfl rfl (Val.load rfl (fun hg=>rdM (l:=M) (k:=q) (g:=gi) (vs:=[.int .i64 (dstT c l q a)]) hLi (get1 (by rw [hci];exact vget a (by omega) (by omega))))) rfl rfl rfl ?_|refine rg rfl rfl rfl (Val.load rfl (fun hg=>rdM (l:=M) (k:=q) (g:=gi) (vs:=[.int .i64 (dstT c l q a)]) hLi (get1 (by rw [hci];exact vget a (by omega) (by omega))))) rfl rfl rfl rfl rfl ?_)|(show ∀ _:Nat,T _ _ _ _ _;intro _))
    exact T_backX (q+1) hqi (by omega) (hE:=⟨rfl,by rw [hsc];rfl,by rw [hsc];rfl,trivial⟩) (hG:=Hle.tail _ _)
   ·simp only [Bool.or_eq_false_iff,decide_eq_false_iff_not] at h5
    rw [if_neg (fun h9=>h9.elim h5.1 h5.2)] at hsc
    repeat' (first|refine d1 ?_|refine dd ?_|(show ∀ _:Nat,T _ _ _ _ _;intro _))
    exact T_backX (q+1) hqi (by omega) (hE:=⟨rfl,by rw [hsc];rfl,by rw [hsc];rfl,trivial⟩) (hG:=Hle.tail _ _)
  ·simp only [decide_eq_false_iff_not] at h3
   obtain rfl:q=i:=by omega
   rw [hnl.2.2.1]
   repeat' (first|refine d1 ?_|refine dd ?_|(show T _ (.ops _ (_::_)::_) _ _ _;refine T_op (OpT.append rfl rfl rfl rfl rfl rfl rfl rfl rfl rfl (fun w hw=>Src.own hw rfl) rfl (by dsimp only;omega) (by omega) (fun A' cap' hA'=>?_)))|(show ∀ _:Nat,T _ _ _ _ _;intro _))
   refine T_backX ((A',cap'),out++[nxtO (dstT c l) q out]) ⟨by dsimp only;rw [List.length_append];exact Nat.succ_le_of_lt hl,hok2⟩ (by dsimp only;rw [List.length_append];simp;omega) (hE:=⟨by dsimp only;rw [List.length_append];rfl,trivial⟩) (hG:=?_)
   dsimp only
   rw [List.length_append,List.map_append]
   exact Hle.tail _ _
 ·simp only [decide_eq_false_iff_not] at h2
  have hl:out.length=i:=by omega
  have hfin:=hok.all hl
  subst hfin
  repeat' (first|refine d1 ?_|refine dd ?_|(show ∀ _:Nat,T _ _ _ _ _;intro _)|(show T _ (.code .ret::_) _ _ _;refine T_retV _ rfl ((Hle.nth 0 rfl).trans dat_rowV) ⟨_,trivial,rfl,by rw [intN_D]⟩))
end Go.Proofs.YtblnhdnogjijiaaGreatDoor
namespace Go.Proofs.YtblnhdnogjijiaaGreatDoor
open Go.RowKit Go.Shelf Go.Proofs
set_option maxRecDepth 100000
set_option maxHeartbeats 1000000

def ordV (c:Costs) (l:List TS):List Nat × Int:=if ck21 c l=0 then (orderV (dstT c l) l.length,0) else ([],1)
theorem ck21_ok {c:Costs} {l:List TS} (h:ck21 c l=0):costE c=0∧badS l=false:=by
 unfold ck21 at h
 by_cases hh:costE c=0∧badS l=false
 ·exact hh
 ·rw [if_neg hh] at h;omega
theorem ck21_01 (c:Costs) (l:List TS):ck21 c l=0∨ck21 c l=1:=by unfold ck21;split <;> simp
end Go.Proofs.YtblnhdnogjijiaaGreatDoor
namespace Go.Proofs.YtblnhdnogjijiaaGreatDoor
open Go.RowKit Go.Shelf Go.Proofs
set_option maxRecDepth 100000
set_option maxHeartbeats 1000000

theorem mulOne_spec (n:Nat) (hn:n≤1000000) (w:World):Spec Tryz.prog 200 [.int .u64 1, .int .u64 (n:Nat)] w (fun v R=>v = .tuple #[.int .u64 0, .int .u64 (n:Nat)]∧R=[]):=by
 have h:=Calls.spec (enters_of rfl rfl rfl) (Tryz.bits_Mul 1 n (by omega) (by omega) w)
 have e1:1 * n / 18446744073709551616=0:=by omega
 have e2:1 * n % 18446744073709551616=n:=by omega
 rw [e1,e2] at h
 exact h
theorem oneInts:∀ xs:List Int,oneCells (xs.map (Value.int .i64))=true
 | []=>rfl
 | x::xs=>oneInts xs
def repL (n m:Nat) (z:Int):List Value:=List.replicate m (.int .i64 z)++List.replicate (n - m) (.int .i64 0)
theorem repL_len {n m:Nat} (z:Int) (h:m≤n):(repL n m z).length=n:=by simp [repL];omega
theorem repL_all (n:Nat) (z:Int):repL n n z=List.replicate n (.int .i64 z):=by simp [repL]
theorem oneRep (k:Nat) (z:Int):oneCells (List.replicate k (Value.int .i64 z))=true:=by
 have e:List.replicate k (Value.int .i64 z)=(List.replicate k z).map (Value.int .i64):=by rw [List.map_replicate]
 rw [e];exact oneInts _
theorem repL_set {n m k:Nat} (z:Int) (h:m+k≤n):setL (repL n m z) m (List.replicate k (.int .i64 z))=repL n (m+k) z:=by
 rw [setL_eq _ _ _ (by rw [List.length_replicate,repL_len z (by omega)];exact h)]
 unfold repL
 rw [List.take_append_of_le_length (by simp),List.take_of_length_le (by simp),List.length_replicate,List.drop_append,List.drop_eq_nil_of_le (by simp),List.nil_append,List.length_replicate,List.drop_replicate, ← List.append_assoc,List.replicate_append_replicate,show n - m - (m+k - m)=n - (m+k) by omega]
theorem repL_pre {n m k:Nat} (z:Int) (h:k≤m):∀ j u,(List.replicate k (Value.int .i64 z))[j]?=some u→(repL n m z)[0+j]?=some u:=by
 intro j u hu
 have hj:j<k:=by have:=(List.getElem?_eq_some_iff.1 hu).1;simpa using this
 rw [List.getElem?_replicate,if_pos hj] at hu
 unfold repL
 rw [Nat.zero_add,List.getElem?_append_left (by simp;omega),List.getElem?_replicate,if_pos (by omega)]
 exact hu
theorem repeatI_spec (z:Int) (A:Option Addr) (ca n:Nat) (w:World) (hs:Src w 1 A 1 [.int .i64 z]) (hn:n≤1000) :
  Spec Tryz.prog 151 [.slice A 1 ca, .int .i64 (n:Nat)] w (fun v R=>∃ b:Nat,True∧v = .slice (some ⟨b,0,none⟩) n n∧R=[row 3 1 (some ⟨b,0,none⟩) n n (List.replicate n (.int .i64 z))]):=by
 refine spec_of sg Tryz.func151 rfl rfl rfl ?_
 repeat' (first|refine d1 ?_|refine dd ?_|(show ∀ _:Nat,T _ _ _ _ _;intro _))
 refine T_if rfl (fun h=>by exfalso;simp at h;omega) (fun h=>?_)
 repeat' (first|refine d1 ?_|refine dd ?_|(show T _ (.ops _ (_::_)::_) _ _ _;first|refine T_call rfl rfl rfl rfl rfl (fun w hw=>mulOne_spec n (by omega) w) ?_|refine T_callC rfl rfl rfl rfl rfl rfl rfl (fun hg w hw=>mulOne_spec n (by omega) w) ?_)|(show T _ (.run _ _ (_::_) _ _::_) _ _ _;first|refine rc rfl rfl rfl rfl rfl rfl rfl (fun w hw=>mulOne_spec n (by omega) w) ?_|refine rcG rfl rfl rfl rfl rfl rfl rfl rfl rfl (fun hg w hw=>mulOne_spec n (by omega) w) ?_)|(show ∀ _:Nat,T _ _ _ _ _;intro _))
 refine T_if rfl (fun h=>?_) (fun h=>?_)
 ·exfalso
  simp at h
  omega
 repeat' (first|refine d1 ?_|refine dd ?_|(show T _ (.ops _ (_::_)::_) _ _ _;refine T_op (OpT.make rfl rfl rfl rfl rfl rfl rfl rfl rfl (by dsimp only;omega) (fun b=>?_)))|(show ∀ _:Nat,T _ _ _ _ _;intro _))
 refine T_le (H':=[row 3 1 (some ⟨b,0,none⟩) n n (repL n 0 z)]) (Hle.weaken (i:=0) rfl (blk_row (sz:=1) (n:=n) (by simp) (by simp only [maxLen];omega)) rfl) ?_
 have hs1:∀ w',Cls w w' [row 3 1 (some ⟨b,0,none⟩) n n (repL n 0 z)]→Src w' 1 A (min 1 n) (List.replicate (min 1 n) (Value.int .i64 z)):=fun w' hw'=>by
  rcases Nat.eq_zero_or_pos n with h9|h9
  ·rw [h9];exact⟨rfl,fun h=>absurd h (by simp)⟩
  ·rw [Nat.min_eq_left h9];exact src_below hs hw'.below
 repeat' (first|refine d1 ?_|refine dd ?_|(show T _ (.ops _ (_::_)::_) _ _ _;refine T_op (OpT.copyR (g:=b) (k:=min 1 n) (us:=List.replicate (min 1 n) (.int .i64 z)) rfl rfl rfl rfl rfl rfl rfl rfl rfl hs1 (oneRep _ _) (by rw [List.length_replicate];omega) ?_))|(show ∀ _:Nat,T _ _ _ _ _;intro _))
 rw [repL_set z (by omega),Nat.zero_add]
 refine T_loopX (fun m:Nat=>[(8, .int .i64 m)]) (fun m=>[row 3 1 (some ⟨b,0,none⟩) n n (repL n m z)]) (fun m=>m≤n∧(0<n→0<m)) (fun m=>n - m) (min 1 n) ⟨by omega,fun h=>by omega⟩ ?_
 rintro m ⟨hm,hm0⟩
 repeat' (first|refine d1 ?_|refine dd ?_|(show ∀ _:Nat,T _ _ _ _ _;intro _))
 refine T_if rfl (fun h1=>?_) (fun h1=>?_)
 ·simp only [decide_eq_true_eq] at h1
  have hmn:m<n:=by omega
  have hmp:=hm0 (by omega)
  refine rsH [] 1000 [0,1,2,3,4,5,6,7,8,9] ?_
  repeat' (first|refine d1 ?_|refine dd ?_|(show T _ (.run _ _ (_::_) _ _::_) _ _ _;refine ro rfl rfl (OpT.copyR (g:=b) (k:=min m (n - m)) (us:=List.replicate (min m (n - m)) (.int .i64 z)) rfl rfl rfl rfl rfl rfl rfl (cutA_at (by omega)) rfl (fun w hw=>⟨by simp,fun h9=>⟨rfl,rdRow (A:=some ⟨b,0,none⟩) (by omega) (repL_pre z (by omega)) w hw⟩⟩) (oneRep _ _) (by rw [List.length_replicate];omega) ⟨fun _=>Hle.none _,?_⟩))|(show ∀ _:Nat,T _ _ _ _ _;intro _))
  rw [show (m:Int).toNat * 1=m by omega,repL_set (n:=n) (m:=m) (k:=min m (n - m)) z (by omega)]
  exact T_backX (m+min m (n - m)) ⟨by omega,fun _=>by omega⟩ (by omega)
 ·simp only [decide_eq_false_iff_not] at h1
  obtain rfl:m=n:=by omega
  rw [repL_all]
  repeat' (first|refine d1 ?_|refine dd ?_|(show ∀ _:Nat,T _ _ _ _ _;intro _)|(show T _ (.code .ret::_) _ _ _;refine T_retV _ rfl (Hle.refl _) ⟨b,trivial,rfl,rfl⟩))
end Go.Proofs.YtblnhdnogjijiaaGreatDoor
namespace Go.Proofs.YtblnhdnogjijiaaGreatDoor
open Go.RowKit Go.Shelf Go.Proofs
set_option maxRecDepth 100000
set_option maxHeartbeats 1000000

structure AddW (w:World) (c:Costs) (A:Option Addr) (n:Nat) (l:List TS) (K:Value) (cols:List (List Int)) (At:Option Addr) (m:Nat) (t:List Tok):Prop where
 hg:Grp w A n l
 hc:costE c=0
 hbs:badS l=false
 hx:Rd (wr w) [K] [rowsD cols]
 hok:∀ col∈cols,ColOk l col
 hts:Src w 6 At m (t.flatMap Tok.cells)
 htl:t.length=m
 hm:m≤1000
 hte:∀ x∈t,tokE x=0
 hsm:∀ x∈t,x.small
 hsz:cols.length≤100000
def stepsV (G:Grd) (i k:Nat):List (List Value):=(mvs G i k).map fun v=>[.agg v.cells.toArray]
theorem steps21_spec (c:Costs) (L K T' B:Value) (i k:Nat) (w:World):Spec Tryz.prog 150 [.agg (addL c L K T' B).toArray, .int .i64 (i:Nat), .int .i64 (k:Nat)] w
  (fun v R=>∃ g:Nat × Nat × Nat,True∧v = .func (.func 198) #[] #[.pointer (some ⟨g.1,0,none⟩), .pointer (some ⟨g.2.1,0,none⟩), .pointer (some ⟨g.2.2,0,none⟩)]∧R=[blk g.2.2 [.int .i64 (k:Nat)] 3,blk g.1 [.int .i64 (i:Nat)] 3,blk g.2.1 (addL c L K T' B) 176]):=by
 refine spec_of sg Tryz.func150 rfl rfl rfl ?_
 refine T_op (OpT.box (cs:=addL c L K T' B) rfl rfl rfl rfl rfl rfl rfl (fun g2=>?_))
 refine T_op (OpT.box (cs:=[.int .i64 (i:Nat)]) rfl rfl rfl rfl rfl rfl rfl (fun g1=>?_))
 refine T_op (OpT.box (cs:=[.int .i64 (k:Nat)]) rfl rfl rfl rfl rfl rfl rfl (fun g3=>?_))
 repeat' (first|refine d1 ?_|refine dd ?_|(show ∀ _:Nat,T _ _ _ _ _;intro _)|(show T _ (.code .ret::_) _ _ _;refine T_retV _ rfl (Hle.refl _) ⟨(g1,g2,g3),trivial,rfl,rfl⟩))
theorem steps_iter {w0:World} {c:Costs} {A:Option Addr} {n:Nat} {l:List TS} {K:Value} {cols:List (List Int)} {At:Option Addr} {m:Nat} {t:List Tok} (h:AddW w0 c A n l K cols At m t) (ca ct:Nat) (Ab:Option Addr) (nb cb:Nat) (i k:Nat) (hi:i≤cols.length) (hk:k≤m) (p1 p2 p3:Nat) :
  IterAt Tryz.prog w0 198 [] [.pointer (some ⟨p1,0,none⟩), .pointer (some ⟨p2,0,none⟩), .pointer (some ⟨p3,0,none⟩)]
   [blk p3 [.int .i64 (k:Nat)] 3,blk p1 [.int .i64 (i:Nat)] 3,blk p2 (addL c (.slice A n ca) K (.slice At m ct) (.slice Ab nb cb)) 176] (stepsV (grdA c l cols t) i k):=by
 obtain⟨hgr,hc,hbs,hx,hok,hts,htl,hm,hte,hsm,hsz⟩:=h
 obtain⟨Ak,ck,csk,rfl,hck1,hck2,hcs,hrows⟩:=hx.tabS
 have hb:=hgr.hb
 have hn:=hgr.hn
 have e1:(grdA c l cols t).n=cols.length:=rfl
 have e2:(grdA c l cols t).m=m:=htl
 refine iterAt_of sg Tryz.func198 rfl rfl rfl ?_
 intro l' GQ X Hj hY h0
 show T _ _ _ _ (blk p3 [.int .i64 (k:Nat)] 3::blk p1 [.int .i64 (i:Nat)] 3::blk p2 (addL c (.slice A n ca) (.slice Ak cols.length ck) (.slice At m ct) (.slice Ab nb cb)) 176::Hj)
 repeat' (first|refine d1 ?_|refine dd ?_|(show ∀ _:Nat,T _ _ _ _ _;intro _))
 refine T_cutX 1 [] (fun _:List HA=>[]) (fun s=>blk p3 [.int .i64 (k:Nat)] 3::blk p1 [.int .i64 (i:Nat)] 3::blk p2 (addL c (.slice A n ca) (.slice Ak cols.length ck) (.slice At m ct) (.slice Ab nb cb)) 176::s) (fun s=>GQ (if i<cols.length then (if k<m then 2 else 1) else 0) s) ?_ ?_
 ·refine T_if rfl (fun h1=>?_) (fun h1=>?_)
  ·simp only [decide_eq_true_eq] at h1
   have hin:i<cols.length:=by omega
   obtain⟨b,o,rfl⟩:=hcs.base (by omega)
   obtain⟨r,hr⟩:∃ r,cols[i]?=some r:=⟨_,List.getElem?_eq_getElem hin⟩
   obtain⟨Au,capu,hu,-,-,hA⟩:=hrows.tabRow hr
   have hcol:=hok r (List.mem_of_getElem? hr)
   have hrl:r.length=n:=by rw [hcol.1,hn]
   have hr0:RdC w0 b (o+(i:Int).toNat * 1) [.slice Au n capu]:=by
    have h9:=(hcs.get1 (i:=i) hin hu).2
    rw [Nat.mul_one,hrl] at h9
    rw [off1]
    exact h9
   have hsr:Src w0 1 Au n (r.map (Value.int .i64)):=⟨by rw [List.length_map,hrl,Nat.mul_one],fun h9=>by
    obtain⟨bu,ou,rfl,hbu⟩:=hA (by omega)
    refine ⟨rfl,fun j u hu=>?_⟩
    rw [List.getElem?_map] at hu
    cases hz:r[j]? with
    | none=>rw [hz] at hu;cases hu
    | some z=>rw [hz] at hu;cases hu;exact hbu j z hz⟩
   have hgd:cols.getD i []=r:=by rw [List.getD_eq_getElem?_getD,hr];rfl
   have hgp:(grdA c l cols t).p i k=putC c l r t (k:Nat):=by show putC c l (cols.getD i []) t k=_;rw [hgd]
   have hgg:(grdA c l cols t).g i=putC c l r t (-1):=by show putC c l (cols.getD i []) t (-1)=_;rw [hgd]
   by_cases hkm:k<m
   ·have hmv:stepsV (grdA c l cols t) i k=[[.agg #[.int .i64 1, .int .i64 1, .int .i64 (putC c l r t (k:Nat))]],[.agg #[.int .i64 1, .int .i64 0, .int .i64 (putC c l r t (-1))]],[.agg #[.int .i64 0, .int .i64 1, .int .i64 (putC c l (noneC l.length) t (k:Nat))]]]:=by
     unfold stepsV;rw [mvs_both (by rw [e1];exact hin) (by rw [e2];exact hkm),hgp,hgg];rfl
    rw [hmv] at hY
    rw [if_pos hin,if_pos hkm]
    refine rsH [blk p3 [.int .i64 (k:Nat)] 3,blk p1 [.int .i64 (i:Nat)] 3,blk p2 (addL c (.slice A n ca) (.slice (some ⟨b,o,none⟩) cols.length ck) (.slice At m ct) (.slice Ab nb cb)) 176] 1000 [0,1,2,3,4,5,6,7,8,9,10,11,12,13,14,15,16,17,18] ?_
    repeat' (first|refine d1 ?_|refine dd ?_|(show T _ (.ops _ (_::_)::_) _ _ _;first|refine T_call rfl rfl rfl rfl rfl (fun w hw=>beside_spec c A Au At (some ⟨b,o,none⟩) Ab n ca capu m ct cols.length ck nb cb l r t k w (hgr.cls hw) hc hbs (src_below hsr hw.below) hcol (src_below hts hw.below) htl hm hte hsm (by omega)) ?_|refine T_callC rfl rfl rfl rfl rfl rfl rfl (fun hg w hw=>beside_spec c A Au At (some ⟨b,o,none⟩) Ab n ca capu m ct cols.length ck nb cb l r t k w (hgr.cls hw) hc hbs (src_below hsr hw.below) hcol (src_below hts hw.below) htl hm hte hsm (by omega)) ?_)|(show T _ (.run _ _ (_::_) _ _::_) _ _ _;first|refine rc rfl rfl rfl rfl rfl rfl rfl (fun w hw=>beside_spec c A Au At (some ⟨b,o,none⟩) Ab n ca capu m ct cols.length ck nb cb l r t k w (hgr.cls hw) hc hbs (src_below hsr hw.below) hcol (src_below hts hw.below) htl hm hte hsm (by omega)) ?_|refine rcG rfl rfl rfl rfl rfl rfl rfl rfl rfl (fun hg w hw=>beside_spec c A Au At (some ⟨b,o,none⟩) Ab n ca capu m ct cols.length ck nb cb l r t k w (hgr.cls hw) hc hbs (src_below hsr hw.below) hcol (src_below hts hw.below) htl hm hte hsm (by omega)) ?_|refine ro rfl rfl (OpT.yieldG [blk p3 [.int .i64 (k:Nat)] 3,blk p1 [.int .i64 (i:Nat)] 3,blk p2 (addL c (.slice A n ca) (.slice (some ⟨b,o,none⟩) cols.length ck) (.slice At m ct) (.slice Ab nb cb)) 176] hY rfl rfl (Holds.of1 rfl rfl (decide_eq_true (by omega))) rfl rfl rfl (j:=0) rfl h0 (Hle.comm [_,_,_] Hj) (fun H1 hG1=>⟨fun _=>Hle.append_left _,?_⟩) (fun Y hX=>⟨fun _=>Hle.append_left _,?_⟩)))|(show ∀ _:Nat,T _ _ _ _ _;intro _))
    ·show T _ _ _ _ (blk p3 [.int .i64 (k:Nat)] 3::blk p1 [.int .i64 (i:Nat)] 3::blk p2 (addL c (.slice A n ca) (.slice (some ⟨b,o,none⟩) cols.length ck) (.slice At m ct) (.slice Ab nb cb)) 176::H1)
     repeat' (first|refine d1 ?_|refine dd ?_|(show ∀ _:Nat,T _ _ _ _ _;intro _))
     refine T_if rfl (fun h3=>by exfalso;simp at h3) (fun _=>?_)
     refine rsH [blk p3 [.int .i64 (k:Nat)] 3,blk p1 [.int .i64 (i:Nat)] 3,blk p2 (addL c (.slice A n ca) (.slice (some ⟨b,o,none⟩) cols.length ck) (.slice At m ct) (.slice Ab nb cb)) 176] 1000 [0,1,2,3,4,5,6,7,8,9,10] ?_
     repeat' (first|refine d1 ?_|refine dd ?_|(show T _ (.ops _ (_::_)::_) _ _ _;first|refine T_call rfl rfl rfl rfl rfl (fun w hw=>beside_spec c A Au At (some ⟨b,o,none⟩) Ab n ca capu m ct cols.length ck nb cb l r t (-1) w (hgr.cls hw) hc hbs (src_below hsr hw.below) hcol (src_below hts hw.below) htl hm hte hsm (by omega)) ?_|refine T_callC rfl rfl rfl rfl rfl rfl rfl (fun hg w hw=>beside_spec c A Au At (some ⟨b,o,none⟩) Ab n ca capu m ct cols.length ck nb cb l r t (-1) w (hgr.cls hw) hc hbs (src_below hsr hw.below) hcol (src_below hts hw.below) htl hm hte hsm (by omega)) ?_)|(show T _ (.run _ _ (_::_) _ _::_) _ _ _;first|refine rc rfl rfl rfl rfl rfl rfl rfl (fun w hw=>beside_spec c A Au At (some ⟨b,o,none⟩) Ab n ca capu m ct cols.length ck nb cb l r t (-1) w (hgr.cls hw) hc hbs (src_below hsr hw.below) hcol (src_below hts hw.below) htl hm hte hsm (by omega)) ?_|refine rcG rfl rfl rfl rfl rfl rfl rfl rfl rfl (fun hg w hw=>beside_spec c A Au At (some ⟨b,o,none⟩) Ab n ca capu m ct cols.length ck nb cb l r t (-1) w (hgr.cls hw) hc hbs (src_below hsr hw.below) hcol (src_below hts hw.below) htl hm hte hsm (by omega)) ?_|refine ro rfl rfl (OpT.yieldG [blk p3 [.int .i64 (k:Nat)] 3,blk p1 [.int .i64 (i:Nat)] 3,blk p2 (addL c (.slice A n ca) (.slice (some ⟨b,o,none⟩) cols.length ck) (.slice At m ct) (.slice Ab nb cb)) 176] hY rfl rfl (fun a _=>Holds.nil _ _) rfl rfl rfl (j:=1) rfl hG1 (Hle.comm [_,_,_] H1) (fun H2 hG2=>⟨fun _=>Hle.append_left _,?_⟩) (fun Y hX=>⟨fun _=>Hle.append_left _,?_⟩)))|(show ∀ _:Nat,T _ _ _ _ _;intro _))
     ·show T _ _ _ _ (blk p3 [.int .i64 (k:Nat)] 3::blk p1 [.int .i64 (i:Nat)] 3::blk p2 (addL c (.slice A n ca) (.slice (some ⟨b,o,none⟩) cols.length ck) (.slice At m ct) (.slice Ab nb cb)) 176::H2)
      repeat' (first|refine d1 ?_|refine dd ?_|(show ∀ _:Nat,T _ _ _ _ _;intro _))
      refine T_if rfl (fun h3=>by exfalso;simp at h3) (fun _=>?_)
      exact T_meetX H2 hG2
     ·show T _ _ _ _ (blk p3 [.int .i64 (k:Nat)] 3::blk p1 [.int .i64 (i:Nat)] 3::blk p2 (addL c (.slice A n ca) (.slice (some ⟨b,o,none⟩) cols.length ck) (.slice At m ct) (.slice Ab nb cb)) 176::Y)
      repeat' (first|refine d1 ?_|refine dd ?_|(show ∀ _:Nat,T _ _ _ _ _;intro _))
      refine T_if rfl (fun _=>?_) (fun h3=>by exfalso;simp at h3)
      repeat' (first|refine d1 ?_|refine dd ?_|(show ∀ _:Nat,T _ _ _ _ _;intro _)|(show T _ (.code .ret::_) _ _ _;refine T_istop rfl Y hX (Hle.refl _)))
    ·show T _ _ _ _ (blk p3 [.int .i64 (k:Nat)] 3::blk p1 [.int .i64 (i:Nat)] 3::blk p2 (addL c (.slice A n ca) (.slice (some ⟨b,o,none⟩) cols.length ck) (.slice At m ct) (.slice Ab nb cb)) 176::Y)
     repeat' (first|refine d1 ?_|refine dd ?_|(show ∀ _:Nat,T _ _ _ _ _;intro _))
     refine T_if rfl (fun _=>?_) (fun h3=>by exfalso;simp [show (k:Int)<m by omega] at h3)
     repeat' (first|refine d1 ?_|refine dd ?_|(show ∀ _:Nat,T _ _ _ _ _;intro _)|(show T _ (.code .ret::_) _ _ _;refine T_istop rfl Y hX (Hle.refl _)))
   ·have hmv:stepsV (grdA c l cols t) i k=[[.agg #[.int .i64 1, .int .i64 0, .int .i64 (putC c l r t (-1))]]]:=by
     unfold stepsV;rw [mvs_fst (by rw [e1];exact hin) (by rw [e2];exact hkm),hgg];rfl
    rw [hmv] at hY
    rw [if_pos hin,if_neg hkm]
    refine rsH [blk p3 [.int .i64 (k:Nat)] 3,blk p1 [.int .i64 (i:Nat)] 3,blk p2 (addL c (.slice A n ca) (.slice (some ⟨b,o,none⟩) cols.length ck) (.slice At m ct) (.slice Ab nb cb)) 176] 1000 [0,1,2,3,4,5,6,7,8,9,10,11,12,13,14,15,16,17,18] ?_
    repeat' (first|refine d1 ?_|refine dd ?_|(show T _ (.run _ _ (_::_) _ _::_) _ _ _;refine ro rfl rfl (OpT.never (.bool false) rfl (fun hg9=>by have h10:decide ((k:Int)<m)=true:=hg9.1;simp at h10;omega) rfl rfl rfl rfl rfl ⟨fun _=>Hle.sub,?_⟩))|(show ∀ _:Nat,T _ _ _ _ _;intro _))
    refine T_if rfl (fun h3=>by exfalso;simp [show ¬ (k:Int)<m by omega] at h3) (fun _=>?_)
    refine rsH [blk p3 [.int .i64 (k:Nat)] 3,blk p1 [.int .i64 (i:Nat)] 3,blk p2 (addL c (.slice A n ca) (.slice (some ⟨b,o,none⟩) cols.length ck) (.slice At m ct) (.slice Ab nb cb)) 176] 1000 [0,1,2,3,4,5,6,7,8,9,10] ?_
    repeat' (first|refine d1 ?_|refine dd ?_|(show T _ (.ops _ (_::_)::_) _ _ _;first|refine T_call rfl rfl rfl rfl rfl (fun w hw=>beside_spec c A Au At (some ⟨b,o,none⟩) Ab n ca capu m ct cols.length ck nb cb l r t (-1) w (hgr.cls hw) hc hbs (src_below hsr hw.below) hcol (src_below hts hw.below) htl hm hte hsm (by omega)) ?_|refine T_callC rfl rfl rfl rfl rfl rfl rfl (fun hg w hw=>beside_spec c A Au At (some ⟨b,o,none⟩) Ab n ca capu m ct cols.length ck nb cb l r t (-1) w (hgr.cls hw) hc hbs (src_below hsr hw.below) hcol (src_below hts hw.below) htl hm hte hsm (by omega)) ?_)|(show T _ (.run _ _ (_::_) _ _::_) _ _ _;first|refine rc rfl rfl rfl rfl rfl rfl rfl (fun w hw=>beside_spec c A Au At (some ⟨b,o,none⟩) Ab n ca capu m ct cols.length ck nb cb l r t (-1) w (hgr.cls hw) hc hbs (src_below hsr hw.below) hcol (src_below hts hw.below) htl hm hte hsm (by omega)) ?_|refine rcG rfl rfl rfl rfl rfl rfl rfl rfl rfl (fun hg w hw=>beside_spec c A Au At (some ⟨b,o,none⟩) Ab n ca capu m ct cols.length ck nb cb l r t (-1) w (hgr.cls hw) hc hbs (src_below hsr hw.below) hcol (src_below hts hw.below) htl hm hte hsm (by omega)) ?_|refine ro rfl rfl (OpT.yieldG [blk p3 [.int .i64 (k:Nat)] 3,blk p1 [.int .i64 (i:Nat)] 3,blk p2 (addL c (.slice A n ca) (.slice (some ⟨b,o,none⟩) cols.length ck) (.slice At m ct) (.slice Ab nb cb)) 176] hY rfl rfl (fun a _=>Holds.nil _ _) rfl rfl rfl (j:=0) rfl h0 (Hle.comm [_,_,_] Hj) (fun H2 hG2=>⟨fun _=>Hle.append_left _,?_⟩) (fun Y hX=>⟨fun _=>Hle.append_left _,?_⟩)))|(show ∀ _:Nat,T _ _ _ _ _;intro _))
    ·show T _ _ _ _ (blk p3 [.int .i64 (k:Nat)] 3::blk p1 [.int .i64 (i:Nat)] 3::blk p2 (addL c (.slice A n ca) (.slice (some ⟨b,o,none⟩) cols.length ck) (.slice At m ct) (.slice Ab nb cb)) 176::H2)
     repeat' (first|refine d1 ?_|refine dd ?_|(show ∀ _:Nat,T _ _ _ _ _;intro _))
     refine T_if rfl (fun h3=>by exfalso;simp at h3) (fun _=>?_)
     exact T_meetX H2 hG2
    ·show T _ _ _ _ (blk p3 [.int .i64 (k:Nat)] 3::blk p1 [.int .i64 (i:Nat)] 3::blk p2 (addL c (.slice A n ca) (.slice (some ⟨b,o,none⟩) cols.length ck) (.slice At m ct) (.slice Ab nb cb)) 176::Y)
     repeat' (first|refine d1 ?_|refine dd ?_|(show ∀ _:Nat,T _ _ _ _ _;intro _))
     refine T_if rfl (fun _=>?_) (fun h3=>by exfalso;simp at h3)
     repeat' (first|refine d1 ?_|refine dd ?_|(show ∀ _:Nat,T _ _ _ _ _;intro _)|(show T _ (.code .ret::_) _ _ _;refine T_istop rfl Y hX (Hle.refl _)))
  ·simp only [decide_eq_false_iff_not] at h1
   have hin:¬ i<cols.length:=by omega
   rw [if_neg hin]
   exact T_meetX Hj h0
 ·intro H1 hG1
  repeat' (first|refine d1 ?_|refine dd ?_|(show ∀ _:Nat,T _ _ _ _ _;intro _))
  refine T_if rfl (fun h1=>?_) (fun h1=>?_)
  ·simp only [decide_eq_true_eq] at h1
   have hkm:k<m:=by omega
   have hpos:(stepsV (grdA c l cols t) i k)[if i<cols.length then (if k<m then 2 else 1) else 0]?=some [.agg #[.int .i64 0, .int .i64 1, .int .i64 (putC c l (noneC l.length) t (k:Nat))]]:=by
    unfold stepsV
    by_cases hin:i<cols.length
    ·rw [mvs_both (by rw [e1];exact hin) (by rw [e2];exact hkm),if_pos hin,if_pos hkm];rfl
    ·rw [mvs_snd (by rw [e1];exact hin) (by rw [e2];exact hkm),if_neg hin];rfl
   have hlen:(stepsV (grdA c l cols t) i k).length=(if i<cols.length then (if k<m then 2 else 1) else 0)+1:=by
    unfold stepsV
    by_cases hin:i<cols.length
    ·rw [mvs_both (by rw [e1];exact hin) (by rw [e2];exact hkm),if_pos hin,if_pos hkm];rfl
    ·rw [mvs_snd (by rw [e1];exact hin) (by rw [e2];exact hkm),if_neg hin];rfl
   refine rsH [blk p3 [.int .i64 (k:Nat)] 3,blk p1 [.int .i64 (i:Nat)] 3,blk p2 (addL c (.slice A n ca) (.slice Ak cols.length ck) (.slice At m ct) (.slice Ab nb cb)) 176] 1000 [0,1,3,4,5,7,2,6,8,9,10] ?_
   repeat' (first|refine d1 ?_|refine dd ?_|(show T _ (.run _ _ (_::_) _ _::_) _ _ _;first|refine ro rfl rfl (OpT.litW rfl rfl rfl rfl rfl rfl rfl rfl rfl rfl rfl (fun b3=>⟨fun _=>Hle.sub,?_⟩))|refine ro rfl rfl (OpT.call rfl rfl rfl rfl rfl (fun w hw=>repeatI_spec (-1) (some ⟨_,0,none⟩) 1 n w (Src.own hw rfl) (by omega)) (fun u R hR=>?_)))|(show ∀ _:Nat,T _ _ _ _ _;intro _))
   obtain⟨br,-,rfl,rfl⟩:=hR
   refine ⟨fun _=>(Hle.tail _ _).trans ((Hle.tail _ _).trans (Hle.append_left (A:=[blk p3 [.int .i64 (k:Nat)] 3,blk p1 [.int .i64 (i:Nat)] 3,blk p2 (addL c (.slice A n ca) (.slice Ak cols.length ck) (.slice At m ct) (.slice Ab nb cb)) 176]) H1)),?_⟩
   show T _ _ _ _ (row 3 1 (some ⟨br,0,none⟩) n n (List.replicate n (.int .i64 (-1)))::blk _ _ _::blk p3 [.int .i64 (k:Nat)] 3::blk p1 [.int .i64 (i:Nat)] 3::blk p2 (addL c (.slice A n ca) (.slice Ak cols.length ck) (.slice At m ct) (.slice Ab nb cb)) 176::H1)
   have hnn:(noneC l.length).map (Value.int .i64)=List.replicate n (.int .i64 (-1)):=by unfold noneC;rw [hn,List.map_replicate]
   repeat' (first|refine d1 ?_|refine dd ?_|(show T _ (.ops _ (_::_)::_) _ _ _;first|refine T_call rfl rfl rfl rfl rfl (fun w hw=>beside_spec c A (some ⟨br,0,none⟩) At Ak Ab n ca n m ct cols.length ck nb cb l (noneC l.length) t k w (hgr.cls hw) hc hbs (by rw [hnn];exact srcRw w hw) (noneC_ok l) (src_below hts hw.below) htl hm hte hsm (by omega)) ?_|refine T_callC rfl rfl rfl rfl rfl rfl rfl (fun hg w hw=>beside_spec c A (some ⟨br,0,none⟩) At Ak Ab n ca n m ct cols.length ck nb cb l (noneC l.length) t k w (hgr.cls hw) hc hbs (by rw [hnn];exact srcRw w hw) (noneC_ok l) (src_below hts hw.below) htl hm hte hsm (by omega)) ?_)|(show T _ (.run _ _ (_::_) _ _::_) _ _ _;first|refine rc rfl rfl rfl rfl rfl rfl rfl (fun w hw=>beside_spec c A (some ⟨br,0,none⟩) At Ak Ab n ca n m ct cols.length ck nb cb l (noneC l.length) t k w (hgr.cls hw) hc hbs (by rw [hnn];exact srcRw w hw) (noneC_ok l) (src_below hts hw.below) htl hm hte hsm (by omega)) ?_|refine rcG rfl rfl rfl rfl rfl rfl rfl rfl rfl (fun hg w hw=>beside_spec c A (some ⟨br,0,none⟩) At Ak Ab n ca n m ct cols.length ck nb cb l (noneC l.length) t k w (hgr.cls hw) hc hbs (by rw [hnn];exact srcRw w hw) (noneC_ok l) (src_below hts hw.below) htl hm hte hsm (by omega)) ?_)|(show ∀ _:Nat,T _ _ _ _ _;intro _))
   refine ro rfl rfl (OpT.yieldG (Hj:=H1) (row 3 1 (some ⟨br,0,none⟩) n n (List.replicate n (.int .i64 (-1)))::blk _ _ _::blk p3 [.int .i64 (k:Nat)] 3::blk p1 [.int .i64 (i:Nat)] 3::blk p2 (addL c (.slice A n ca) (.slice Ak cols.length ck) (.slice At m ct) (.slice Ab nb cb)) 176::[]) hY rfl rfl (fun a _=>Holds.nil _ _) rfl rfl rfl hpos hG1 (Hle.comm [_,_,_,_,_] H1) (fun H2 hG2=>⟨fun _=>(Hle.tail _ _).trans ((Hle.tail _ _).trans (Hle.append_left (A:=[blk p3 [.int .i64 (k:Nat)] 3,blk p1 [.int .i64 (i:Nat)] 3,blk p2 (addL c (.slice A n ca) (.slice Ak cols.length ck) (.slice At m ct) (.slice Ab nb cb)) 176]) _)),?_⟩) (fun Y hX=>⟨fun _=>(Hle.tail _ _).trans ((Hle.tail _ _).trans (Hle.append_left (A:=[blk p3 [.int .i64 (k:Nat)] 3,blk p1 [.int .i64 (i:Nat)] 3,blk p2 (addL c (.slice A n ca) (.slice Ak cols.length ck) (.slice At m ct) (.slice Ab nb cb)) 176]) _)),?_⟩))
   ·repeat' (first|refine d1 ?_|refine dd ?_|(show ∀ _:Nat,T _ _ _ _ _;intro _))
    exact T_ifall rfl H2 (by rw [hlen];exact hG2) ((Hle.tail _ _).trans (Hle.tail _ _))
   ·repeat' (first|refine d1 ?_|refine dd ?_|(show ∀ _:Nat,T _ _ _ _ _;intro _))
    exact T_istopf rfl Y hX ((Hle.tail _ _).trans (Hle.tail _ _))
  ·simp only [decide_eq_false_iff_not] at h1
   have hkm:¬ k<m:=by omega
   have hlen:(stepsV (grdA c l cols t) i k).length=if i<cols.length then (if k<m then 2 else 1) else 0:=by
    unfold stepsV
    by_cases hin:i<cols.length
    ·rw [mvs_fst (by rw [e1];exact hin) (by rw [e2];exact hkm),if_pos hin,if_neg hkm];rfl
    ·rw [mvs_none (by rw [e1];exact hin) (by rw [e2];exact hkm),if_neg hin];rfl
   repeat' (first|refine d1 ?_|refine dd ?_|(show ∀ _:Nat,T _ _ _ _ _;intro _))
   exact T_ifall rfl H1 (by rw [hlen];exact hG1) (Hle.refl _)
end Go.Proofs.YtblnhdnogjijiaaGreatDoor
namespace Go.Proofs.YtblnhdnogjijiaaGreatDoor
open Go.RowKit Go.Shelf Go.Proofs
set_option maxRecDepth 100000
set_option maxHeartbeats 1000000

theorem stepsV_at {G:Grd} {i k j:Nat} {y:List Value} (h:(stepsV G i k)[j]?=some y):∃ v,(mvs G i k)[j]?=some v∧y=[.agg v.cells.toArray]:=by
 unfold stepsV at h
 rw [List.getElem?_map] at h
 cases hp:(mvs G i k)[j]? with
 | none=>rw [hp] at h;cases h
 | some p=>rw [hp] at h;exact⟨p,rfl,(Option.some.inj h).symm⟩
theorem stepsV_len (G:Grd) (i k:Nat):(stepsV G i k).length=(mvs G i k).length:=by unfold stepsV;rw [List.length_map]
theorem AddW.ok {w:World} {c:Costs} {A:Option Addr} {n:Nat} {l:List TS} {K:Value} {cols:List (List Int)} {At:Option Addr} {m:Nat} {t:List Tok} (h:AddW w c A n l K cols At m t):GOk (grdA c l cols t) 32000:=by
 have:=grdA_ok h.hc l cols t
 have h1:=h.hg.hn
 have h2:=h.hg.hb
 exact⟨fun i k=>by have:=this.p i k;omega,fun i=>by have:=this.g i;omega,fun k=>by have:=this.h k;omega⟩
theorem AddW.rst {w:World} {c:Costs} {A:Option Addr} {n:Nat} {l:List TS} {K:Value} {cols:List (List Int)} {At:Option Addr} {m:Nat} {t:List Tok} (h:AddW w c A n l K cols At m t) (i k:Nat):0≤rst (grdA c l cols t) i k∧rst (grdA c l cols t) i k≤10000000000:=by
 have h1:=rst_bd h.ok i k
 have e1:(grdA c l cols t).n=cols.length:=rfl
 have e2:(grdA c l cols t).m=m:=h.htl
 have h2:=h.hsz
 have h3:=h.hm
 rw [e1,e2] at h1
 omega
theorem AddW.to {w:World} {c:Costs} {A:Option Addr} {n:Nat} {l:List TS} {K:Value} {cols:List (List Int)} {At:Option Addr} {m:Nat} {t:List Tok} (h:AddW w c A n l K cols At m t) {i k jj:Nat} {v:Mv} (hi:i≤cols.length) (hk:k≤m) (hv:(mvs (grdA c l cols t) i k)[jj]?=some v) :
  i+v.fst≤cols.length∧k+v.snd≤m∧(i<i+v.fst∨(i=i+v.fst∧k<k+v.snd))∧(0≤v.cost∧v.cost≤32000)∧v.fst≤1∧v.snd≤1:=by
 have hG:=h.ok
 have q1:=hG.p i k
 have q2:=hG.g i
 have q3:=hG.h k
 have e1:(grdA c l cols t).n=cols.length:=rfl
 have e2:(grdA c l cols t).m=m:=h.htl
 rcases mvs_to (List.mem_of_getElem? hv) with⟨h1,h2,h3,h4,h5⟩|⟨h1,h2,h3,h5⟩|⟨h1,h2,h3,h5⟩
 ·rw [e1] at h3;rw [e2] at h4;omega
 ·rw [e1] at h3;omega
 ·rw [e2] at h3;omega
@[reducible] def fillH (c:Costs) (L K T':Value) (pb pa g cap N m:Nat) (M:List (Nat × List Value)) (Kr:List HA):List HA :=
 blks 3 M::row 47 1 (some ⟨g,0,none⟩) cap (N+1) (M.map (slv m))::blk pb [.pointer (some ⟨pa,0,none⟩)] 174::blk pa (addL c L K T' (.slice (some ⟨g,0,none⟩) (N+1) cap)) 176::Kr
theorem fill1_spec {w0:World} {c:Costs} {A:Option Addr} {n:Nat} {l:List TS} {K:Value} {cols:List (List Int)} {At:Option Addr} {m:Nat} {t:List Tok} (h:AddW w0 c A n l K cols At m t) (ca ct pb pa g cap:Nat) (Kr:List HA) (M:List (Nat × List Value)) (j i k:Nat)
  (hp:(placesL cols.length m)[j]?=some (i,k)) (hno:(i,k) ∉ (placesL cols.length m).take j) (hM:M.length=cols.length+1) (hS:RowsOk (soFar cols.length m j (rst (grdA c l cols t))) (m+1) M) :
  SpecB Tryz.prog 197 [.int .i64 (i:Nat), .int .i64 (k:Nat), .pointer (some ⟨pb,0,none⟩)] w0 (fillH c (.slice A n ca) K (.slice At m ct) pb pa g cap cols.length m M Kr)
   (fun v R=>v = .tuple #[]∧∃ M',M'.length=cols.length+1∧RowsOk (soFar cols.length m (j+1) (rst (grdA c l cols t))) (m+1) M'∧R=fillH c (.slice A n ca) K (.slice At m ct) pb pa g cap cols.length m M' Kr):=by
 obtain⟨p,q,hpn,hqm,-,hip,hkq⟩:=placesL_at hp
 have hi:i≤cols.length:=by omega
 have hk:k≤m:=by omega
 have hsz:=h.hsz
 have hmb:=h.hm
 refine specB_of sg Tryz.func197 rfl rfl rfl ?_
 unfold fillH
 refine T_op (OpT.box (cs:=[.int .i64 (i:Nat)]) rfl rfl rfl rfl rfl rfl rfl (fun p3=>?_))
 refine T_op (OpT.box (cs:=[.int .i64 (k:Nat)]) rfl rfl rfl rfl rfl rfl rfl (fun p4=>?_))
 repeat' (first|refine d1 ?_|refine dd ?_|(show T _ (.ops _ (_::_)::_) _ _ _;first|refine T_val rfl (Val.nilc rfl) rfl rfl rfl ?_|refine T_valC rfl (Val.nilc rfl) rfl rfl rfl rfl rfl ?_)|(show T _ (.run _ _ (_::_) _ _::_) _ _ _;first|refine rv rfl rfl rfl (Val.nilc rfl) rfl rfl rfl ?_|refine rg rfl rfl rfl (Val.nilc rfl) rfl rfl rfl rfl rfl ?_|refine ro rfl rfl (OpT.call rfl rfl rfl rfl rfl (fun w hw=>steps21_spec c _ _ _ _ i k w) (fun u R hR=>?_)))|(show ∀ _:Nat,T _ _ _ _ _;intro _))
 obtain⟨⟨q1,q2,q3⟩,-,rfl,rfl⟩:=hR
 rename_i p5
 refine ⟨by intro _;exact Hle.append_right (K:=[]) _,?_⟩
 dsimp only
 repeat' (first|refine d1 ?_|refine dd ?_|(show ∀ _:Nat,T _ _ _ _ _;intro _))
 refine T_rangeA (steps_iter h ca ct (some ⟨g,0,none⟩) (cols.length+1) cap i k hi hk q1 q2 q3) rfl (fun j y hy=>by obtain⟨v,_,rfl⟩:=stepsV_at hy;exact⟨rfl,rfl⟩)
  (fun jj H=>∃ M,M.length=cols.length+1∧RowsOk (inWork (grdA c l cols t) cols.length m j i k jj) (m+1) M∧H=blk p5 [.bool (decide (jj=0))] 4::blk p4 [.int .i64 (k:Nat)] 3::blk p3 [.int .i64 (i:Nat)] 3::fillH c (.slice A n ca) K (.slice At m ct) pb pa g cap cols.length m M Kr) (fun _=>False) (fun _ _=>False)
  (blk p5 [.bool true] 4::blk p4 [.int .i64 (k:Nat)] 3::blk p3 [.int .i64 (i:Nat)] 3::fillH c (.slice A n ca) K (.slice At m ct) pb pa g cap cols.length m M Kr) ⟨M,hM,hS.ext hM fun i' k' _ _=>(inWork_zero hp hno i' k').symm,rfl⟩ (Hle.refl _) ?_ ?_ (fun _ _ h=>h.elim) (fun _ _ _ h=>h.elim)
 ·rintro Lp r jj yv Hj K2 hr hyv ⟨M1,hM1,hS1,rfl⟩
  obtain⟨v,hv,rfl⟩:=stepsV_at hyv
  have hb1:=h.to hi hk hv
  have hrb:=h.rst (i+v.fst) (k+v.snd)
  obtain⟨⟨g1,c1⟩,hV1⟩:∃ x,M1[i+v.fst]?=some x:=⟨_,List.getElem?_eq_getElem (by omega)⟩
  obtain⟨⟨g0,c0⟩,hV0⟩:∃ x,M1[i]?=some x:=⟨_,List.getElem?_eq_getElem (by omega)⟩
  have hc1:c1=valV (inWork (grdA c l cols t) cols.length m j i k jj (i+v.fst)) (m+1):=hS1 _ _ hV1
  have hc0:c0=valV (inWork (grdA c l cols t) cols.length m j i k jj i) (m+1):=hS1 _ _ hV0
  have e1:inWork (grdA c l cols t) cols.length m j i k jj (i+v.fst) (k+v.snd)=rst (grdA c l cols t) (i+v.fst) (k+v.snd):=by
   unfold inWork;rw [if_neg (by omega)];exact soFar_get hp _ (by omega) (by omega) (by omega)
  have e0:inWork (grdA c l cols t) cols.length m j i k jj i k=(accW (grdA c l cols t) i k jj).1:=if_pos ⟨rfl,rfl⟩
  have es:accW (grdA c l cols t) i k (jj+1)=stepW (grdA c l cols t) i k (accW (grdA c l cols t) i k jj) jj v:=accW_step hv
  have hd:∀ {r:Nat} {gr:Nat} {cr:List Value},M1[r]?=some (gr,cr)→(M1.map (slv m))[r]?=some (.slice (some ⟨gr,0,none⟩) (m+1) (m+1)):=fun h=>by rw [List.getElem?_map,h];rfl
  have hl0:c0.length=m+1:=by rw [hc0,valV_length]
  show T _ _ ((14, .agg v.cells.toArray)::_) _ (lrec Lp r::blk p5 [.bool (decide (jj=0))] 4::blk p4 [.int .i64 (k:Nat)] 3::blk p3 [.int .i64 (i:Nat)] 3::blks 3 M1::row 47 1 (some ⟨g,0,none⟩) cap (cols.length+1) (M1.map (slv m))::blk pb [.pointer (some ⟨pa,0,none⟩)] 174::blk pa (addL c (.slice A n ca) K (.slice At m ct) (.slice (some ⟨g,0,none⟩) (cols.length+1) cap)) 176::(Kr++K2))
  repeat' (first|refine d1 ?_|refine dd ?_|(show ∀ _:Nat,T _ _ _ _ _;intro _))
  rename_i p6
  refine T_le (H':=lrec Lp r::blk p6 v.cells 181::blk p5 [.bool (decide (jj=0))] 4::blk p4 [.int .i64 (k:Nat)] 3::blk p3 [.int .i64 (i:Nat)] 3::blks 3 M1::row 47 1 (some ⟨g,0,none⟩) cap (cols.length+1) (M1.map (slv m))::blk pb [.pointer (some ⟨pa,0,none⟩)] 174::blk pa (addL c (.slice A n ca) K (.slice At m ct) (.slice (some ⟨g,0,none⟩) (cols.length+1) cap)) 176::(Kr++K2)) (Hle.perm (List.Perm.swap _ _ _)) ?_
  refine T_begin hr rfl ?_
  repeat' (first|refine d1 ?_|refine dd ?_|(show T _ (.ops _ (_::_)::_) _ _ _;first|refine T_val rfl (Val.nilc rfl) rfl rfl rfl ?_|refine T_valC rfl (Val.nilc rfl) rfl rfl rfl rfl rfl ?_|refine T_val rfl (Val.load rfl (fun hg=>rdRow (A:=some ⟨g,0,none⟩) (vs:=[.slice (some ⟨g1,0,none⟩) (m+1) (m+1)]) (by omega) (get1 (by rw [show 0+((i:Int)+v.fst).toNat * 1=i+v.fst by omega];exact hd hV1)))) rfl rfl rfl ?_|refine T_valC rfl (Val.load rfl (fun hg=>rdRow (A:=some ⟨g,0,none⟩) (vs:=[.slice (some ⟨g1,0,none⟩) (m+1) (m+1)]) (by omega) (get1 (by rw [show 0+((i:Int)+v.fst).toNat * 1=i+v.fst by omega];exact hd hV1)))) rfl rfl rfl rfl rfl ?_|refine T_val rfl (Val.load rfl (fun hg=>rdM (l:=M1) (k:=i+v.fst) (g:=g1) (vs:=[.int .i64 (rst (grdA c l cols t) (i+v.fst) (k+v.snd))]) hV1 (get1 (by rw [hc1, ← e1];exact vget (k+v.snd) (by omega) (by omega))))) rfl rfl rfl ?_|refine T_valC rfl (Val.load rfl (fun hg=>rdM (l:=M1) (k:=i+v.fst) (g:=g1) (vs:=[.int .i64 (rst (grdA c l cols t) (i+v.fst) (k+v.snd))]) hV1 (get1 (by rw [hc1, ← e1];exact vget (k+v.snd) (by omega) (by omega))))) rfl rfl rfl rfl rfl ?_|refine T_val rfl (Val.load rfl (fun hg=>rdRow (A:=some ⟨g,0,none⟩) (vs:=[.slice (some ⟨g0,0,none⟩) (m+1) (m+1)]) (by omega) (get1 (by rw [show 0+(i:Int).toNat * 1=i by omega];exact hd hV0)))) rfl rfl rfl ?_|refine T_valC rfl (Val.load rfl (fun hg=>rdRow (A:=some ⟨g,0,none⟩) (vs:=[.slice (some ⟨g0,0,none⟩) (m+1) (m+1)]) (by omega) (get1 (by rw [show 0+(i:Int).toNat * 1=i by omega];exact hd hV0)))) rfl rfl rfl rfl rfl ?_|refine T_val rfl (Val.load rfl (fun hg=>rdM (l:=M1) (k:=i) (g:=g0) (vs:=[.int .i64 (accW (grdA c l cols t) i k jj).1]) hV0 (get1 (by rw [hc0, ← e0];exact vget k (by omega) (by omega))))) rfl rfl rfl ?_|refine T_valC rfl (Val.load rfl (fun hg=>rdM (l:=M1) (k:=i) (g:=g0) (vs:=[.int .i64 (accW (grdA c l cols t) i k jj).1]) hV0 (get1 (by rw [hc0, ← e0];exact vget k (by omega) (by omega))))) rfl rfl rfl rfl rfl ?_)|(show T _ (.run _ _ (_::_) _ _::_) _ _ _;first|refine rv rfl rfl rfl (Val.nilc rfl) rfl rfl rfl ?_|refine rg rfl rfl rfl (Val.nilc rfl) rfl rfl rfl rfl rfl ?_|refine rv rfl rfl rfl (Val.load rfl (fun hg=>rdRow (A:=some ⟨g,0,none⟩) (vs:=[.slice (some ⟨g1,0,none⟩) (m+1) (m+1)]) (by omega) (get1 (by rw [show 0+((i:Int)+v.fst).toNat * 1=i+v.fst by omega];exact hd hV1)))) rfl rfl rfl ?_|refine rg rfl rfl rfl (Val.load rfl (fun hg=>rdRow (A:=some ⟨g,0,none⟩) (vs:=[.slice (some ⟨g1,0,none⟩) (m+1) (m+1)]) (by omega) (get1 (by rw [show 0+((i:Int)+v.fst).toNat * 1=i+v.fst by omega];exact hd hV1)))) rfl rfl rfl rfl rfl ?_|refine rv rfl rfl rfl (Val.load rfl (fun hg=>rdM (l:=M1) (k:=i+v.fst) (g:=g1) (vs:=[.int .i64 (rst (grdA c l cols t) (i+v.fst) (k+v.snd))]) hV1 (get1 (by rw [hc1, ← e1];exact vget (k+v.snd) (by omega) (by omega))))) rfl rfl rfl ?_|refine rg rfl rfl rfl (Val.load rfl (fun hg=>rdM (l:=M1) (k:=i+v.fst) (g:=g1) (vs:=[.int .i64 (rst (grdA c l cols t) (i+v.fst) (k+v.snd))]) hV1 (get1 (by rw [hc1, ← e1];exact vget (k+v.snd) (by omega) (by omega))))) rfl rfl rfl rfl rfl ?_|refine rv rfl rfl rfl (Val.load rfl (fun hg=>rdRow (A:=some ⟨g,0,none⟩) (vs:=[.slice (some ⟨g0,0,none⟩) (m+1) (m+1)]) (by omega) (get1 (by rw [show 0+(i:Int).toNat * 1=i by omega];exact hd hV0)))) rfl rfl rfl ?_|refine rg rfl rfl rfl (Val.load rfl (fun hg=>rdRow (A:=some ⟨g,0,none⟩) (vs:=[.slice (some ⟨g0,0,none⟩) (m+1) (m+1)]) (by omega) (get1 (by rw [show 0+(i:Int).toNat * 1=i by omega];exact hd hV0)))) rfl rfl rfl rfl rfl ?_|refine rv rfl rfl rfl (Val.load rfl (fun hg=>rdM (l:=M1) (k:=i) (g:=g0) (vs:=[.int .i64 (accW (grdA c l cols t) i k jj).1]) hV0 (get1 (by rw [hc0, ← e0];exact vget k (by omega) (by omega))))) rfl rfl rfl ?_|refine rg rfl rfl rfl (Val.load rfl (fun hg=>rdM (l:=M1) (k:=i) (g:=g0) (vs:=[.int .i64 (accW (grdA c l cols t) i k jj).1]) hV0 (get1 (by rw [hc0, ← e0];exact vget k (by omega) (by omega))))) rfl rfl rfl rfl rfl ?_)|(show ∀ _:Nat,T _ _ _ _ _;intro _))
  refine T_if rfl (fun h6=>?_) (fun h6=>?_)
  ·simp only [Bool.or_eq_true,decide_eq_true_eq] at h6
   have es2:(accW (grdA c l cols t) i k (jj+1)).1=via (grdA c l cols t) i k v:=by
    rw [es];unfold stepW;rw [if_pos]
    exact h6
   refine rsH [blk p4 [.int .i64 (k:Nat)] 3,blk p3 [.int .i64 (i:Nat)] 3,row 47 1 (some ⟨g,0,none⟩) cap (cols.length+1) (M1.map (slv m)),blk pb [.pointer (some ⟨pa,0,none⟩)] 174,blk pa (addL c (.slice A n ca) K (.slice At m ct) (.slice (some ⟨g,0,none⟩) (cols.length+1) cap)) 176] 1000 [0,1,2,3,4,5,6,7,8,9,10,11] ?_
   repeat' (first|refine d1 ?_|refine dd ?_|(show T _ (.ops _ (_::_)::_) _ _ _;first|refine T_val rfl (Val.nilc rfl) rfl rfl rfl ?_|refine T_valC rfl (Val.nilc rfl) rfl rfl rfl rfl rfl ?_|refine T_val rfl (Val.load rfl (fun hg=>rdRow (A:=some ⟨g,0,none⟩) (vs:=[.slice (some ⟨g0,0,none⟩) (m+1) (m+1)]) (by omega) (get1 (by rw [show 0+(i:Int).toNat * 1=i by omega];exact hd hV0)))) rfl rfl rfl ?_|refine T_valC rfl (Val.load rfl (fun hg=>rdRow (A:=some ⟨g,0,none⟩) (vs:=[.slice (some ⟨g0,0,none⟩) (m+1) (m+1)]) (by omega) (get1 (by rw [show 0+(i:Int).toNat * 1=i by omega];exact hd hV0)))) rfl rfl rfl rfl rfl ?_)|(show T _ (.run _ _ (_::_) _ _::_) _ _ _;first|refine rv rfl rfl rfl (Val.nilc rfl) rfl rfl rfl ?_|refine rg rfl rfl rfl (Val.nilc rfl) rfl rfl rfl rfl rfl ?_|refine rv rfl rfl rfl (Val.load rfl (fun hg=>rdRow (A:=some ⟨g,0,none⟩) (vs:=[.slice (some ⟨g0,0,none⟩) (m+1) (m+1)]) (by omega) (get1 (by rw [show 0+(i:Int).toNat * 1=i by omega];exact hd hV0)))) rfl rfl rfl ?_|refine rg rfl rfl rfl (Val.load rfl (fun hg=>rdRow (A:=some ⟨g,0,none⟩) (vs:=[.slice (some ⟨g0,0,none⟩) (m+1) (m+1)]) (by omega) (get1 (by rw [show 0+(i:Int).toNat * 1=i by omega];exact hd hV0)))) rfl rfl rfl rfl rfl ?_|refine ro rfl rfl (OpT.storeM rfl rfl rfl hV0 rfl (by rw [hl0];omega) ⟨fun _=>Hle.sub,?_⟩)|refine ro rfl rfl (OpT.store rfl rfl rfl rfl (by decide) ⟨fun _=>Hle.sub,?_⟩))|(show ∀ _:Nat,T _ _ _ _ _;intro _))
   rw [show 0+(k:Int).toNat * 1=k by omega]
   refine T_next (blk p5 [.bool (decide (jj+1=0))] 4::blk p4 [.int .i64 (k:Nat)] 3::blk p3 [.int .i64 (i:Nat)] 3::fillH c (.slice A n ca) K (.slice At m ct) pb pa g cap cols.length m (M1.set i (g0,c0.set k (.int .i64 (via (grdA c l cols t) i k v)))) Kr) ⟨_,by rw [List.length_set];exact hM1,rows_put hS1 hV0 fun i' k'=>?_,rfl⟩ ?_
   ·unfold inWork
    rw [es2]
    split <;> rfl
   ·unfold fillH
    rw [slv_set hV0,show decide (jj+1=0)=false by simp]
    exact Hle.drop2 _ _ _
  ·simp only [Bool.or_eq_false_iff,decide_eq_false_iff_not] at h6
   have es2:(accW (grdA c l cols t) i k (jj+1)).1=(accW (grdA c l cols t) i k jj).1:=by
    rw [es,stepW_fst,if_neg h6.1]
    have h7:¬ via (grdA c l cols t) i k v<(accW (grdA c l cols t) i k jj).1:=h6.2
    omega
   repeat' (first|refine d1 ?_|refine dd ?_|(show ∀ _:Nat,T _ _ _ _ _;intro _))
   refine T_next (blk p5 [.bool (decide (jj+1=0))] 4::blk p4 [.int .i64 (k:Nat)] 3::blk p3 [.int .i64 (i:Nat)] 3::fillH c (.slice A n ca) K (.slice At m ct) pb pa g cap cols.length m M1 Kr) ⟨M1,hM1,hS1.ext hM1 fun i' k' _ _=>?_,rfl⟩ ?_
   ·unfold inWork;rw [es2]
   ·unfold fillH
    rw [show decide (jj+1=0)=decide (jj=0) by rw [decide_eq_false h6.1];simp]
    exact Hle.drop2 _ _ _
 ·rintro D Hn ⟨M1,hM1,hS1,rfl⟩
  rw [stepsV_len] at hS1
  show T _ _ _ _ (dfr D::blk q3 _ _::blk q1 _ _::blk q2 _ _::blk p5 _ _::blk p4 _ _::blk p3 _ _::fillH c (.slice A n ca) K (.slice At m ct) pb pa g cap cols.length m M1 Kr)
  repeat' (first|refine d1 ?_|refine dd ?_|(show ∀ _:Nat,T _ _ _ _ _;intro _)|(show T _ _ _ _ _;refine T_fallD (Hle.refl _) (rf_V (vs:=[]) (fillH c (.slice A n ca) K (.slice At m ct) pb pa g cap cols.length m M1 Kr) rfl ((Hle.tail _ _).trans ((Hle.tail _ _).trans ((Hle.tail _ _).trans ((Hle.tail _ _).trans ((Hle.tail _ _).trans (Hle.tail _ _)))))) ⟨rfl,M1,hM1,hS1.ext hM1 fun i' k' _ _=>inWork_all hp i' k',rfl⟩)))
end Go.Proofs.YtblnhdnogjijiaaGreatDoor
namespace Go.Proofs.YtblnhdnogjijiaaGreatDoor
open Go.RowKit Go.Shelf Go.Proofs
set_option maxRecDepth 100000
set_option maxHeartbeats 1000000

theorem Hle.drop3 (A B C:HA) (K:List HA):Hle (A::B::C::K) (A::B::K):=by
 refine Hle.pick (fun i=>if i<2 then i else i+1) (fun i X h=>?_) (fun i j _ _ h=>by show (if i<2 then i else i+1)≠(if j<2 then j else j+1);split <;> split <;> omega)
 rcases i with _|_|i
 ·simpa using h
 ·simpa using h
 ·rw [if_neg (by omega)];simpa using h
theorem fill21_spec {w0:World} {c:Costs} {A:Option Addr} {n:Nat} {l:List TS} {K:Value} {cols:List (List Int)} {At:Option Addr} {m:Nat} {t:List Tok} (h:AddW w0 c A n l K cols At m t) (ca ct pa:Nat) (Kr:List HA) :
  SpecB Tryz.prog 149 [.pointer (some ⟨pa,0,none⟩)] w0 (blk pa (addL c (.slice A n ca) K (.slice At m ct) (.slice none 0 0)) 176::Kr)
   (fun v R=>v = .tuple #[]∧∃ M g cap,M.length=cols.length+1∧RowsOk (rst (grdA c l cols t)) (m+1) M∧R=blks 3 M::row 47 1 (some ⟨g,0,none⟩) cap (cols.length+1) (M.map (slv m))::blk pa (addL c (.slice A n ca) K (.slice At m ct) (.slice (some ⟨g,0,none⟩) (cols.length+1) cap)) 176::Kr):=by
 have hsz:=h.hsz
 have hmb:=h.hm
 obtain⟨Ak,ck,csk,rfl,hck1,hck2,hcs,hrows⟩:=h.hx.tabS
 refine specB_of sg Tryz.func149 rfl rfl rfl ?_
 refine T_op (OpT.box (cs:=[.pointer (some ⟨pa,0,none⟩)]) rfl rfl rfl rfl rfl rfl rfl (fun pb=>?_))
 repeat' (first|refine d1 ?_|refine dd ?_|(show T _ (.ops _ (_::_)::_) _ _ _;first|refine T_val rfl (Val.nilc rfl) rfl rfl rfl ?_|refine T_valC rfl (Val.nilc rfl) rfl rfl rfl rfl rfl ?_)|(show T _ (.run _ _ (_::_) _ _::_) _ _ _;first|refine rv rfl rfl rfl (Val.nilc rfl) rfl rfl rfl ?_|refine rg rfl rfl rfl (Val.nilc rfl) rfl rfl rfl rfl rfl ?_)|(show ∀ _:Nat,T _ _ _ _ _;intro _))
 refine T_nilrow 47 1 ?_
 refine T_nilblks 3 ?_
 refine T_loopX (fun s:List (Nat × List Value) × (Option Addr × Nat)=>[(11, .int .i64 s.1.length)]) (fun s=>blks 3 s.1::row 47 1 s.2.1 s.2.2 s.1.length (s.1.map (slv m))::blk pb [.pointer (some ⟨pa,0,none⟩)] 174::blk pa (addL c (.slice A n ca) (.slice Ak cols.length ck) (.slice At m ct) (.slice s.2.1 s.1.length s.2.2)) 176::Kr) (fun s=>s.1.length≤cols.length+1∧RowsOk (fun _ _=>0) (m+1) s.1) (fun s=>cols.length+1 - s.1.length) ([],(none,0)) ⟨Nat.zero_le _,fun i x h=>by simp at h⟩ ?_
 rintro⟨L,Ar,capr⟩ ⟨hL,hR⟩
 dsimp only at hL hR ⊢
 repeat' (first|refine d1 ?_|refine dd ?_|(show ∀ _:Nat,T _ _ _ _ _;intro _))
 refine T_if rfl (fun h1=>?_) (fun h1=>?_)
 ·simp only [decide_eq_true_eq] at h1
  have hLt:L.length<cols.length+1:=by omega
  refine dw0 16 [blk pb [.pointer (some ⟨pa,0,none⟩)] 174,blk pa (addL c (.slice A n ca) (.slice Ak cols.length ck) (.slice At m ct) (.slice Ar L.length capr)) 176] ?_
  repeat' (first|(show T _ (.draw _ _ _ _ _::_) _ _ _;first|refine dw1 ?_|refine dwv rfl (by decide +kernel) rfl rfl (Val.nilc rfl) rfl rfl rfl ?_|refine dwg rfl (by decide +kernel) rfl rfl (Val.nilc rfl) rfl rfl rfl rfl rfl ?_|refine dwb rfl (by decide +kernel) ?_)|(show AllL _ [];exact True.intro)|(show AllL _ (_::_);refine ⟨?_,?_⟩)|(show OpT _ _ _ _ _ _ _;first|refine dwx ?_|refine OpT.ofVal rfl (Val.nilc rfl) rfl rfl rfl ⟨fun _=>(by first|exact Hle.none _|exact Hle.sub|exact absurd ‹_› (by decide +kernel)),?_⟩|refine OpT.make rfl rfl rfl rfl rfl rfl rfl rfl rfl (by dsimp only;omega) (fun b2=>⟨fun _=>(by first|exact Hle.none _|exact Hle.sub|exact absurd ‹_› (by decide +kernel)),?_⟩)|refine OpT.litW rfl rfl rfl rfl rfl rfl rfl rfl rfl rfl rfl (fun b3=>⟨fun _=>(by first|exact Hle.none _|exact Hle.sub|exact absurd ‹_› (by decide +kernel)),?_⟩)|refine OpT.append rfl rfl rfl rfl rfl rfl rfl rfl rfl rfl (fun w hw=>Src.own hw rfl) rfl (by dsimp only;omega) (by omega) (fun A' cap' hA'=>⟨fun _=>(by first|exact Hle.none _|exact Hle.sub|exact absurd ‹_› (by decide +kernel)),?_⟩)|refine OpT.store rfl rfl rfl rfl (by decide) ⟨fun _=>(by first|exact Hle.none _|exact Hle.sub|exact absurd ‹_› (by decide +kernel)),?_⟩)|(show ∀ _:Nat,T _ _ _ _ _;intro _))
  repeat' (first|refine d1 ?_|refine dd ?_|(show ∀ _:Nat,T _ _ _ _ _;intro _))
  rename_i b2 b3
  refine T_backX (L++[(b2,List.replicate (m+1) (.int .i64 0))],(A',cap')) ⟨by dsimp only;rw [List.length_append];exact Nat.succ_le_of_lt hLt,rows_snoc0 hR⟩ (by dsimp only;rw [List.length_append];simp;omega) (hE:=⟨by dsimp only;rw [List.length_append];rfl,trivial⟩) (hG:=?_)
  dsimp only
  rw [List.length_append,List.map_append]
  exact (Hle.tail _ _).trans blks_snoc
 simp only [decide_eq_false_iff_not] at h1
 have hLn:L.length=cols.length+1:=by omega
 rw [hLn]
 refine T_rowpos (A:=Ar) (by omega) (fun g e=>?_)
 subst e
 have hR0:RowsOk (soFar cols.length m 0 (rst (grdA c l cols t))) (m+1) L:=fun i x hx=>by rw [hR i x hx,soFar_zero]
 repeat' (first|refine d1 ?_|refine dd ?_|(show T _ (.ops _ (_::_)::_) _ _ _;first|refine T_val rfl (Val.nilc rfl) rfl rfl rfl ?_|refine T_valC rfl (Val.nilc rfl) rfl rfl rfl rfl rfl ?_)|(show T _ (.run _ _ (_::_) _ _::_) _ _ _;first|refine rv rfl rfl rfl (Val.nilc rfl) rfl rfl rfl ?_|refine rg rfl rfl rfl (Val.nilc rfl) rfl rfl rfl rfl rfl ?_)|(show ∀ _:Nat,T _ _ _ _ _;intro _))
 refine T_loopX (fun s:Nat × List (Nat × List Value)=>[(3, .int .i64 ((cols.length:Int) - s.1))]) (fun s=>fillH c (.slice A n ca) (.slice Ak cols.length ck) (.slice At m ct) pb pa g capr cols.length m s.2 Kr) (fun s=>s.1≤cols.length+1∧s.2.length=cols.length+1∧RowsOk (soFar cols.length m (s.1 * (m+1)) (rst (grdA c l cols t))) (m+1) s.2) (fun s=>cols.length+1 - s.1) (0,L) ⟨Nat.zero_le _,hLn,by rw [Nat.zero_mul];exact hR0⟩ ?_ (hE:=⟨by rw [show (cols.length:Int) - ((0:Nat):Int)=cols.length by omega];rfl,trivial⟩)
 rintro⟨p,M⟩ ⟨hp,hM,hS⟩
 dsimp only at hp hM hS ⊢
 repeat' (first|refine d1 ?_|refine dd ?_|(show ∀ _:Nat,T _ _ _ _ _;intro _))
 refine T_if rfl (fun h3=>?_) (fun h3=>?_)
 ·simp only [decide_eq_true_eq] at h3
  repeat' (first|refine d1 ?_|refine dd ?_|(show T _ (.ops _ (_::_)::_) _ _ _;first|refine T_val rfl (Val.nilc rfl) rfl rfl rfl ?_|refine T_valC rfl (Val.nilc rfl) rfl rfl rfl rfl rfl ?_)|(show T _ (.run _ _ (_::_) _ _::_) _ _ _;first|refine rv rfl rfl rfl (Val.nilc rfl) rfl rfl rfl ?_|refine rg rfl rfl rfl (Val.nilc rfl) rfl rfl rfl rfl rfl ?_)|(show ∀ _:Nat,T _ _ _ _ _;intro _))
  refine T_loopX (fun s:Nat × List (Nat × List Value)=>[(4, .int .i64 ((m:Int) - s.1))]) (fun s=>fillH c (.slice A n ca) (.slice Ak cols.length ck) (.slice At m ct) pb pa g capr cols.length m s.2 Kr) (fun s=>s.1≤m+1∧s.2.length=cols.length+1∧RowsOk (soFar cols.length m (p * (m+1)+s.1) (rst (grdA c l cols t))) (m+1) s.2) (fun s=>m+1 - s.1) (0,M) ⟨Nat.zero_le _,hM,hS⟩ ?_ (hE:=⟨by rw [show (m:Int) - ((0:Nat):Int)=m by omega];rfl,trivial⟩)
  rintro⟨q,M2⟩ ⟨hq,hM2,hS2⟩
  dsimp only at hq hM2 hS2 ⊢
  repeat' (first|refine d1 ?_|refine dd ?_|(show ∀ _:Nat,T _ _ _ _ _;intro _))
  refine T_if rfl (fun h4=>?_) (fun h4=>?_)
  ·simp only [decide_eq_true_eq] at h4
   have hpl:=placesL_get (n:=cols.length) (m:=m) (p:=p) (q:=q) (by omega) (by omega)
   have hno:=place_new (n:=cols.length) (m:=m) (p:=p) (q:=q) (by omega) (by omega)
   obtain⟨i,hi⟩:∃ i,i=cols.length - p:=⟨_,rfl⟩
   obtain⟨k,hkk⟩:∃ k,k=m - q:=⟨_,rfl⟩
   rw [show (cols.length:Int) - p=(i:Nat) by omega,show (m:Int) - q=(k:Nat) by omega]
   rw [← hi, ← hkk] at hpl hno
   repeat' (first|refine d1 ?_|refine dd ?_|(show T _ (.ops _ (_::_)::_) _ _ _;refine T_op (OpT.callB rfl rfl rfl rfl rfl (fill1_spec h ca ct pb pa g capr Kr M2 _ i k hpl hno hM2 hS2) (fun u R hR=>?_)))|(show ∀ _:Nat,T _ _ _ _ _;intro _))
   obtain⟨rfl,M3,hM3,hS3,rfl⟩:=hR
   repeat' (first|refine d1 ?_|refine dd ?_|(show ∀ _:Nat,T _ _ _ _ _;intro _))
   exact T_backX (q+1,M3) ⟨by dsimp only;omega,hM3,hS3⟩ (by dsimp only;omega) (hE:=⟨by dsimp only;rw [show (m:Int) - ((q+1:Nat):Int)=(k:Int) - 1 by omega];rfl,trivial⟩)
  ·simp only [decide_eq_false_iff_not] at h4
   obtain rfl:q=m+1:=by omega
   repeat' (first|refine d1 ?_|refine dd ?_|(show ∀ _:Nat,T _ _ _ _ _;intro _))
   exact T_backX (p+1,M2) ⟨by dsimp only;omega,hM2,by dsimp only;rw [Nat.succ_mul];exact hS2⟩ (by dsimp only;omega) (hE:=⟨by dsimp only;rw [show (cols.length:Int) - ((p+1:Nat):Int)=(cols.length:Int) - p - 1 by omega];rfl,trivial⟩)
 ·simp only [decide_eq_false_iff_not] at h3
  obtain rfl:p=cols.length+1:=by omega
  have hR':RowsOk (rst (grdA c l cols t)) (m+1) M:=hS.ext hM fun i k hi hk=>soFar_all (by rw [placesL_len];exact Nat.le_refl _) _ (by omega) (by omega)
  refine T_fallV (vs:=[]) (blks 3 M::row 47 1 (some ⟨g,0,none⟩) capr (cols.length+1) (M.map (slv m))::blk pa (addL c (.slice A n ca) (.slice Ak cols.length ck) (.slice At m ct) (.slice (some ⟨g,0,none⟩) (cols.length+1) capr)) 176::Kr) rfl ?_ ⟨rfl,M,g,capr,hM,hR',rfl⟩
  exact Hle.drop3 _ _ _ _
end Go.Proofs.YtblnhdnogjijiaaGreatDoor
namespace Go.Proofs.YtblnhdnogjijiaaGreatDoor
open Go.RowKit Go.Shelf Go.Proofs
set_option maxRecDepth 100000
set_option maxHeartbeats 1000000

theorem rd_one {R:Rdr} {vs:List Value} {ds:List D} (h:Rd R vs ds) {i:Nat} {x:Value} {d:D} (hx:vs[i]?=some x) (hd:ds[i]?=some d):Rd R [x] [d]:=by
 obtain⟨y,hy,hr⟩:=h.get hd
 rw [hx] at hy
 cases hy
 exact hr
end Go.Proofs.YtblnhdnogjijiaaGreatDoor
namespace Go.Proofs.YtblnhdnogjijiaaGreatDoor
open Go.RowKit Go.Shelf Go.Proofs
set_option maxRecDepth 100000
set_option maxHeartbeats 1000000

theorem tbl_hle {N m g cap:Nat} {f:Nat→Nat→Int} {M:List (Nat × List Value)} {J:List HA} (hm:m≤1000) (hM:M.length=N+1) (hR:RowsOk f (m+1) M):Hle (blks 3 M::row 47 1 (some ⟨g,0,none⟩) cap (N+1) (M.map (slv m))::J) (dat [.slice (some ⟨g,0,none⟩) (N+1) cap] [rowsD (tabR N m f)]::J):=by
 have q1:∀ x∈M,m+1≤x.2.length:=fun x hx=>by obtain⟨i,hi,e⟩:=List.getElem_of_mem hx;rw [hR i x (by rw [List.getElem?_eq_getElem hi,e]),valV_length];omega
 refine (dat_blks (L:=M) (m+1) (m+1) (by omega) (by omega) q1).trans ?_
 rw [tab_rows hM hR]
 exact (Hle.perm (List.Perm.swap _ _ _)).trans dat_row
theorem setLast (cA:List Int) (n:Nat) (k z:Int) (h:cA.length=n):setL ((cA++[z]).map (Value.int .i64)) (0+(n:Int).toNat * 1) [.int .i64 k]=(cA++[k]).map (Value.int .i64):=by
 rw [show 0+(n:Int).toNat * 1=n by omega,setL_eq _ _ _ (by simp [h]),List.map_append,List.take_append_of_le_length (by simp [h]),List.take_of_length_le (by simp [h]),List.drop_of_length_le (by simp [h]),List.map_append]
 rfl
theorem add21_spec {w:World} {c:Costs} {A:Option Addr} {n:Nat} {l:List TS} {K:Value} {cols:List (List Int)} {At:Option Addr} {m:Nat} {t:List Tok} (h:AddW w c A n l K cols At m t) (ca ct:Nat) (hprod:((cols.length:Int)+1) * ((m:Int)+1)≤1048576) :
  Spec Tryz.prog 91 [c.val, .slice A n ca,K, .slice At m ct] w (fun v R=>∃ x:Value,True∧v = .tuple #[x, .int .i64 0]∧R=[dat [x] [rowsD (addV c l cols t 0 0)]]):=by
 have hsz:=h.hsz
 have hmb:=h.hm
 have hb:=h.hg.hb
 have hn:=h.hg.hn
 have hprod0:0≤((cols.length:Int)+1) * ((m:Int)+1):=Int.mul_nonneg (by omega) (by omega)
 have e1:(grdA c l cols t).n=cols.length:=rfl
 have e2:(grdA c l cols t).m=m:=h.htl
 obtain⟨Ak,ck,csk,rfl,hck1,hck2,hcs,hrows⟩:=h.hx.tabS
 refine spec_of sg Tryz.func91 rfl rfl rfl ?_
 refine T_op (OpT.box (cs:=c.cells) rfl rfl rfl rfl rfl rfl rfl (fun pc=>?_))
 refine T_op (OpT.box (cs:=[.slice A n ca]) rfl rfl rfl rfl rfl rfl rfl (fun pl=>?_))
 refine T_op (OpT.box (cs:=[.slice Ak cols.length ck]) rfl rfl rfl rfl rfl rfl rfl (fun pk=>?_))
 repeat' (first|refine d1 ?_|refine dd ?_|(show ∀ _:Nat,T _ _ _ _ _;intro _))
 refine T_if rfl (fun h1=>by exfalso;simp only [decide_eq_true_eq] at h1;omega) (fun _=>?_)
 repeat' (first|refine d1 ?_|refine dd ?_|(show T _ (.ops _ (_::_)::_) _ _ _;first|refine T_val rfl (Val.nilc rfl) rfl rfl rfl ?_|refine T_valC rfl (Val.nilc rfl) rfl rfl rfl rfl rfl ?_)|(show T _ (.run _ _ (_::_) _ _::_) _ _ _;first|refine rv rfl rfl rfl (Val.nilc rfl) rfl rfl rfl ?_|refine rg rfl rfl rfl (Val.nilc rfl) rfl rfl rfl rfl rfl ?_)|(show ∀ _:Nat,T _ _ _ _ _;intro _))
 rename_i pa p10
 refine T_le (H':=blk pa (addL c (.slice A n ca) (.slice Ak cols.length ck) (.slice At m ct) (.slice none 0 0)) 176::blk p10 [.pointer (some ⟨pa,0,none⟩)] 174::blk pk [.slice Ak cols.length ck] 30::blk pl [.slice A n ca] 25::blk pc c.cells 23::[]) (Hle.perm (List.Perm.swap _ _ _)) ?_
 refine T_op (OpT.callB rfl rfl rfl rfl rfl (fill21_spec h ca ct pa _) (fun u R hR=>?_))
 obtain⟨rfl,M,g,cap,hM,hR,rfl⟩:=hR
 refine T_le (tbl_hle hmb hM hR) ?_
 refine T_open fun pt hpt=>?_
 obtain⟨Agt,capt,cst,he,-,-,-,hAt,hrt⟩:=hpt.tab
 rw [tabR_length] at hAt he
 simp only [Value.slice.injEq,true_and] at he
 obtain⟨rfl,rfl⟩:=he
 obtain⟨bt,ot,hbo,hbt⟩:=hAt (by omega)
 simp only [Option.some.injEq,Addr.mk.injEq,and_true] at hbo
 obtain⟨rfl,rfl⟩:=hbo
 repeat' (first|refine d1 ?_|refine dd ?_|(show ∀ _:Nat,T _ _ _ _ _;intro _))
 rename_i p11 p12 p13
 refine T_le (H':=[blk p13 [.int .i64 ((0:Nat):Int)] 3,blk p12 [.int .i64 ((0:Nat):Int)] 3,blk p11 [.slice none 0 0] 30,fz pt,blk pa (addL c (.slice A n ca) (.slice Ak cols.length ck) (.slice At m ct) (.slice (some ⟨g,0,none⟩) (cols.length+1) cap)) 176,blk p10 [.pointer (some ⟨pa,0,none⟩)] 174,blk pk [.slice Ak cols.length ck] 30,blk pl [.slice A n ca] 25,blk pc c.cells 23]) (Hle.refl _) ?_
 refine T_keep [(3, .slice At m ct),(4, .pointer (some ⟨pc,0,none⟩)),(5, .pointer (some ⟨pl,0,none⟩)),(6, .pointer (some ⟨pk,0,none⟩)),(9, .int .i64 0),(10, .pointer (some ⟨p10,0,none⟩)),(11, .pointer (some ⟨p11,0,none⟩)),(12, .pointer (some ⟨p12,0,none⟩)),(13, .pointer (some ⟨p13,0,none⟩))] ⟨rfl,rfl,rfl,rfl,rfl,rfl,rfl,rfl,rfl,trivial⟩ ?_
 refine T_le (dat_nil _) ?_
 refine T_nilrow 47 1 ?_
 show T (FC _ _ (([]:List Nat).map mkD) _ _ _) _ _ _ _
 refine T_loopDX (fun s:(Nat × Nat) × (Nat × Nat) × (Option Addr × Nat) × List Value × List (List Int) × List Nat=>[(12, .pointer (some ⟨s.2.1.1,0,none⟩)),(13, .pointer (some ⟨s.2.1.2,0,none⟩))]) (fun s=>[blk s.2.1.2 [.int .i64 (s.1.2:Nat)] 3,blk s.2.1.1 [.int .i64 (s.1.1:Nat)] 3,blk p11 [.slice s.2.2.1.1 s.2.2.2.2.1.length s.2.2.1.2] 30,row 47 1 s.2.2.1.1 s.2.2.1.2 s.2.2.2.2.1.length s.2.2.2.1,dat s.2.2.2.1 (s.2.2.2.2.1.map intsD),fz pt,blk pa (addL c (.slice A n ca) (.slice Ak cols.length ck) (.slice At m ct) (.slice (some ⟨g,0,none⟩) (cols.length+1) cap)) 176,blk p10 [.pointer (some ⟨pa,0,none⟩)] 174,blk pk [.slice Ak cols.length ck] 30,blk pl [.slice A n ca] 25,blk pc c.cells 23]) (fun s=>s.2.2.2.2.2) (fun s=>s.1.1≤cols.length∧s.1.2≤m∧s.2.2.2.2.1.length≤s.1.1+s.1.2∧addV c l cols t 0 0=s.2.2.2.2.1++addV c l cols t s.1.1 s.1.2) (fun s=>(cols.length - s.1.1)+(m - s.1.2)) ((0,0),(p12,p13),(none,0),[],[],[]) ⟨Nat.zero_le _,Nat.zero_le _,Nat.zero_le _,rfl⟩ rfl ?_ (hG:=by exact Hle.perm ((List.perm_append_comm (l₁:=[_,_]) (l₂:=[_,_,_])).append_right (fz pt::_)))
 rintro⟨⟨i,k⟩,⟨q12,q13⟩,⟨Ao,capo⟩,hs,out,Dl⟩ ⟨hi,hk,hlo,hout⟩
 dsimp only at hi hk hlo hout ⊢
 refine T_le (H':=blk q13 [.int .i64 (k:Nat)] 3::blk q12 [.int .i64 (i:Nat)] 3::blk p11 [.slice Ao out.length capo] 30::row 47 1 Ao capo out.length hs::dat hs (out.map intsD)::fz pt::blk pa (addL c (.slice A n ca) (.slice Ak cols.length ck) (.slice At m ct) (.slice (some ⟨g,0,none⟩) (cols.length+1) cap)) 176::blk p10 [.pointer (some ⟨pa,0,none⟩)] 174::blk pk [.slice Ak cols.length ck] 30::blk pl [.slice A n ca] 25::blk pc c.cells 23::dfrs Dl) (Hle.refl _) ?_
 repeat' (first|refine d1 ?_|refine dd ?_|(show ∀ _:Nat,T _ _ _ _ _;intro _))
 refine T_if rfl (fun h3=>?_) (fun h3=>?_)
 ·have h3':i<cols.length∨k<m:=by simpa using h3
  repeat' (first|refine d1 ?_|refine dd ?_|(show T _ (.ops _ (_::_)::_) _ _ _;first|refine T_val rfl (Val.nilc rfl) rfl rfl rfl ?_|refine T_valC rfl (Val.nilc rfl) rfl rfl rfl rfl rfl ?_)|(show T _ (.run _ _ (_::_) _ _::_) _ _ _;first|refine rv rfl rfl rfl (Val.nilc rfl) rfl rfl rfl ?_|refine rg rfl rfl rfl (Val.nilc rfl) rfl rfl rfl rfl rfl ?_|refine ro rfl rfl (OpT.call rfl rfl rfl rfl rfl (fun w hw=>steps21_spec c _ _ _ _ i k w) (fun u R hR=>?_)))|(show ∀ _:Nat,T _ _ _ _ _;intro _))
  obtain⟨⟨q1,q2,q3⟩,-,rfl,rfl⟩:=hR
  refine ⟨by intro _;exact Hle.append_right (K:=[]) _,?_⟩
  dsimp only
  repeat' (first|refine d1 ?_|refine dd ?_|(show ∀ _:Nat,T _ _ _ _ _;intro _))
  refine T_rangeA (steps_iter h ca ct (some ⟨g,0,none⟩) (cols.length+1) cap i k hi hk q1 q2 q3) rfl (fun j y hy=>by obtain⟨v,_,rfl⟩:=stepsV_at hy;exact⟨rfl,rfl⟩)
   (fun jj H=>H=blk q13 [.int .i64 (k:Nat)] 3::blk q12 [.int .i64 (i:Nat)] 3::blk p11 [.slice Ao out.length capo] 30::row 47 1 Ao capo out.length hs::dat hs (out.map intsD)::fz pt::blk pa (addL c (.slice A n ca) (.slice Ak cols.length ck) (.slice At m ct) (.slice (some ⟨g,0,none⟩) (cols.length+1) cap)) 176::blk p10 [.pointer (some ⟨pa,0,none⟩)] 174::blk pk [.slice Ak cols.length ck] 30::blk pl [.slice A n ca] 25::blk pc c.cells 23::dfrs Dl∧∀ j' y,j'<jj→(mvs (grdA c l cols t) i k)[j']?=some y→via (grdA c l cols t) i k y≠rst (grdA c l cols t) i k) (fun _=>False)
   (fun id H=>id=2∧∃ (v:Mv) (x:Option Addr × Nat × Value),fstM (grdA c l cols t) i k=some v∧H=blk q13 [.int .i64 ((k+v.snd:Nat):Int)] 3::blk q12 [.int .i64 ((i+v.fst:Nat):Int)] 3::blk p11 [.slice x.1 (out.length+1) x.2.1] 30::row 47 1 x.1 x.2.1 (out.length+1) (hs++[x.2.2])::dat (hs++[x.2.2]) ((out++[colM l.length cols i k v]).map intsD)::fz pt::blk pa (addL c (.slice A n ca) (.slice Ak cols.length ck) (.slice At m ct) (.slice (some ⟨g,0,none⟩) (cols.length+1) cap)) 176::blk p10 [.pointer (some ⟨pa,0,none⟩)] 174::blk pk [.slice Ak cols.length ck] 30::blk pl [.slice A n ca] 25::blk pc c.cells 23::dfrs Dl)
   (blk q13 [.int .i64 (k:Nat)] 3::blk q12 [.int .i64 (i:Nat)] 3::blk p11 [.slice Ao out.length capo] 30::row 47 1 Ao capo out.length hs::dat hs (out.map intsD)::fz pt::blk pa (addL c (.slice A n ca) (.slice Ak cols.length ck) (.slice At m ct) (.slice (some ⟨g,0,none⟩) (cols.length+1) cap)) 176::blk p10 [.pointer (some ⟨pa,0,none⟩)] 174::blk pk [.slice Ak cols.length ck] 30::blk pl [.slice A n ca] 25::blk pc c.cells 23::dfrs Dl) ⟨rfl,fun _ _ h=>by omega⟩ (Hle.refl _) ?_ ?_ (fun _ _ h=>h.elim) ?_
  ·rintro Lp r jj yv Hj K2 hr hyv ⟨rfl,hno⟩
   obtain⟨v,hv,rfl⟩:=stepsV_at hyv
   have hb1:=h.to hi hk hv
   have hrb:=h.rst (i+v.fst) (k+v.snd)
   show T _ _ ((48, .agg v.cells.toArray)::_) _ (lrec Lp r::blk q13 [.int .i64 (k:Nat)] 3::blk q12 [.int .i64 (i:Nat)] 3::blk p11 [.slice Ao out.length capo] 30::row 47 1 Ao capo out.length hs::dat hs (out.map intsD)::fz pt::blk pa (addL c (.slice A n ca) (.slice Ak cols.length ck) (.slice At m ct) (.slice (some ⟨g,0,none⟩) (cols.length+1) cap)) 176::blk p10 [.pointer (some ⟨pa,0,none⟩)] 174::blk pk [.slice Ak cols.length ck] 30::blk pl [.slice A n ca] 25::blk pc c.cells 23::(dfrs Dl++K2))
   repeat' (first|refine d1 ?_|refine dd ?_|(show ∀ _:Nat,T _ _ _ _ _;intro _))
   rename_i p14
   refine T_le (H':=lrec Lp r::blk p14 v.cells 181::blk q13 [.int .i64 (k:Nat)] 3::blk q12 [.int .i64 (i:Nat)] 3::blk p11 [.slice Ao out.length capo] 30::row 47 1 Ao capo out.length hs::dat hs (out.map intsD)::fz pt::blk pa (addL c (.slice A n ca) (.slice Ak cols.length ck) (.slice At m ct) (.slice (some ⟨g,0,none⟩) (cols.length+1) cap)) 176::blk p10 [.pointer (some ⟨pa,0,none⟩)] 174::blk pk [.slice Ak cols.length ck] 30::blk pl [.slice A n ca] 25::blk pc c.cells 23::(dfrs Dl++K2)) (Hle.perm (List.Perm.swap _ _ _)) ?_
   refine T_begin hr rfl ?_
   obtain⟨Ar1,capr1,hcr1,-,-,hAr1⟩:=hrt.tabRow (tabR_get hb1.1)
   rw [List.length_map,List.length_range] at hcr1 hAr1
   obtain⟨br1,or1,rfl,hbr1⟩:=hAr1 (by omega)
   obtain⟨Ar0,capr0,hcr0,-,-,hAr0⟩:=hrt.tabRow (tabR_get hi)
   rw [List.length_map,List.length_range] at hcr0 hAr0
   obtain⟨br0,or0,rfl,hbr0⟩:=hAr0 (by omega)
   repeat' (first|refine d1 ?_|refine dd ?_|(show T _ (.ops _ (_::_)::_) _ _ _;first|refine T_val rfl (Val.nilc rfl) rfl rfl rfl ?_|refine T_valC rfl (Val.nilc rfl) rfl rfl rfl rfl rfl ?_|refine T_val rfl (Val.load rfl (fun hg=>rdFz (p:=pt) (u := .slice (some ⟨br1,or1,none⟩) (m+1) capr1) (b:=g) (by rw [show 0+((i:Int)+v.fst).toNat * 1=0+(i+v.fst) by omega];exact hbt _ _ hcr1))) rfl rfl rfl ?_|refine T_valC rfl (Val.load rfl (fun hg=>rdFz (p:=pt) (u := .slice (some ⟨br1,or1,none⟩) (m+1) capr1) (b:=g) (by rw [show 0+((i:Int)+v.fst).toNat * 1=0+(i+v.fst) by omega];exact hbt _ _ hcr1))) rfl rfl rfl rfl rfl ?_|refine T_val rfl (Val.load rfl (fun hg=>rdFz (p:=pt) (u := .int .i64 (rst (grdA c l cols t) (i+v.fst) (k+v.snd))) (b:=br1) (by rw [show or1+((k:Int)+v.snd).toNat * 1=or1+(k+v.snd) by omega];exact hbr1 _ _ (tabR_cell hb1.2.1)))) rfl rfl rfl ?_|refine T_valC rfl (Val.load rfl (fun hg=>rdFz (p:=pt) (u := .int .i64 (rst (grdA c l cols t) (i+v.fst) (k+v.snd))) (b:=br1) (by rw [show or1+((k:Int)+v.snd).toNat * 1=or1+(k+v.snd) by omega];exact hbr1 _ _ (tabR_cell hb1.2.1)))) rfl rfl rfl rfl rfl ?_|refine T_val rfl (Val.load rfl (fun hg=>rdFz (p:=pt) (u := .slice (some ⟨br0,or0,none⟩) (m+1) capr0) (b:=g) (by rw [off1];exact hbt _ _ hcr0))) rfl rfl rfl ?_|refine T_valC rfl (Val.load rfl (fun hg=>rdFz (p:=pt) (u := .slice (some ⟨br0,or0,none⟩) (m+1) capr0) (b:=g) (by rw [off1];exact hbt _ _ hcr0))) rfl rfl rfl rfl rfl ?_|refine T_val rfl (Val.load rfl (fun hg=>rdFz (p:=pt) (u := .int .i64 (rst (grdA c l cols t) i k)) (b:=br0) (by rw [off1];exact hbr0 _ _ (tabR_cell hk)))) rfl rfl rfl ?_|refine T_valC rfl (Val.load rfl (fun hg=>rdFz (p:=pt) (u := .int .i64 (rst (grdA c l cols t) i k)) (b:=br0) (by rw [off1];exact hbr0 _ _ (tabR_cell hk)))) rfl rfl rfl rfl rfl ?_)|(show T _ (.run _ _ (_::_) _ _::_) _ _ _;first|refine rv rfl rfl rfl (Val.nilc rfl) rfl rfl rfl ?_|refine rg rfl rfl rfl (Val.nilc rfl) rfl rfl rfl rfl rfl ?_|refine rv rfl rfl rfl (Val.load rfl (fun hg=>rdFz (p:=pt) (u := .slice (some ⟨br1,or1,none⟩) (m+1) capr1) (b:=g) (by rw [show 0+((i:Int)+v.fst).toNat * 1=0+(i+v.fst) by omega];exact hbt _ _ hcr1))) rfl rfl rfl ?_|refine rg rfl rfl rfl (Val.load rfl (fun hg=>rdFz (p:=pt) (u := .slice (some ⟨br1,or1,none⟩) (m+1) capr1) (b:=g) (by rw [show 0+((i:Int)+v.fst).toNat * 1=0+(i+v.fst) by omega];exact hbt _ _ hcr1))) rfl rfl rfl rfl rfl ?_|refine rv rfl rfl rfl (Val.load rfl (fun hg=>rdFz (p:=pt) (u := .int .i64 (rst (grdA c l cols t) (i+v.fst) (k+v.snd))) (b:=br1) (by rw [show or1+((k:Int)+v.snd).toNat * 1=or1+(k+v.snd) by omega];exact hbr1 _ _ (tabR_cell hb1.2.1)))) rfl rfl rfl ?_|refine rg rfl rfl rfl (Val.load rfl (fun hg=>rdFz (p:=pt) (u := .int .i64 (rst (grdA c l cols t) (i+v.fst) (k+v.snd))) (b:=br1) (by rw [show or1+((k:Int)+v.snd).toNat * 1=or1+(k+v.snd) by omega];exact hbr1 _ _ (tabR_cell hb1.2.1)))) rfl rfl rfl rfl rfl ?_|refine rv rfl rfl rfl (Val.load rfl (fun hg=>rdFz (p:=pt) (u := .slice (some ⟨br0,or0,none⟩) (m+1) capr0) (b:=g) (by rw [off1];exact hbt _ _ hcr0))) rfl rfl rfl ?_|refine rg rfl rfl rfl (Val.load rfl (fun hg=>rdFz (p:=pt) (u := .slice (some ⟨br0,or0,none⟩) (m+1) capr0) (b:=g) (by rw [off1];exact hbt _ _ hcr0))) rfl rfl rfl rfl rfl ?_|refine rv rfl rfl rfl (Val.load rfl (fun hg=>rdFz (p:=pt) (u := .int .i64 (rst (grdA c l cols t) i k)) (b:=br0) (by rw [off1];exact hbr0 _ _ (tabR_cell hk)))) rfl rfl rfl ?_|refine rg rfl rfl rfl (Val.load rfl (fun hg=>rdFz (p:=pt) (u := .int .i64 (rst (grdA c l cols t) i k)) (b:=br0) (by rw [off1];exact hbr0 _ _ (tabR_cell hk)))) rfl rfl rfl rfl rfl ?_)|(show ∀ _:Nat,T _ _ _ _ _;intro _))
   refine T_if rfl (fun h4=>?_) (fun h4=>?_)
   ·simp only [Bool.not_eq_true',decide_eq_false_iff_not] at h4
    refine T_next (blk q13 [.int .i64 (k:Nat)] 3::blk q12 [.int .i64 (i:Nat)] 3::blk p11 [.slice Ao out.length capo] 30::row 47 1 Ao capo out.length hs::dat hs (out.map intsD)::fz pt::blk pa (addL c (.slice A n ca) (.slice Ak cols.length ck) (.slice At m ct) (.slice (some ⟨g,0,none⟩) (cols.length+1) cap)) 176::blk p10 [.pointer (some ⟨pa,0,none⟩)] 174::blk pk [.slice Ak cols.length ck] 30::blk pl [.slice A n ca] 25::blk pc c.cells 23::dfrs Dl) ⟨rfl,fun j' y hj hy=>?_⟩ (Hle.drop2 _ _ _)
    rcases Nat.lt_or_ge j' jj with h6|h6
    ·exact hno j' y h6 hy
    ·rw [show j'=jj by omega,hv] at hy
     cases hy
     exact h4
   ·simp only [Bool.not_eq_false',decide_eq_true_eq] at h4
    have hf:fstM (grdA c l cols t) i k=some v:=find_at hv (decide_eq_true h4) fun j' y hj hy=>decide_eq_false (hno j' y hj hy)
    repeat' (first|refine d1 ?_|refine dd ?_|(show T _ (.ops _ (_::_)::_) _ _ _;refine T_callE rfl rfl rfl rfl rfl (fun w hw=>repeatI_spec (-1) (some ⟨_,0,none⟩) 1 (n+1) w (Src.own hw rfl) (by omega)) (fun bc _=>?_))|(show ∀ _:Nat,T _ _ _ _ _;intro _))
    rename_i blit _
    have hb0:(List.replicate (n+1) (Value.int .i64 (-1)))=(noneC l.length++[-1]).map (Value.int .i64):=by
     unfold noneC;rw [List.map_append,List.map_replicate,hn,List.replicate_succ'];rfl
    refine T_le (H':=row 3 1 (some ⟨bc,0,none⟩) (n+1) (n+1) ((noneC l.length++[-1]).map (Value.int .i64))::lrec Lp (busy r)::blk p14 v.cells 181::blk q13 [.int .i64 (k:Nat)] 3::blk q12 [.int .i64 (i:Nat)] 3::blk p11 [.slice Ao out.length capo] 30::row 47 1 Ao capo out.length hs::dat hs (out.map intsD)::fz pt::blk pa (addL c (.slice A n ca) (.slice Ak cols.length ck) (.slice At m ct) (.slice (some ⟨g,0,none⟩) (cols.length+1) cap)) 176::blk p10 [.pointer (some ⟨pa,0,none⟩)] 174::blk pk [.slice Ak cols.length ck] 30::blk pl [.slice A n ca] 25::blk pc c.cells 23::(dfrs Dl++K2)) (by rw [← hb0];exact Hle.drop2 _ _ _) ?_
    refine T_cutX 1 [] (fun _:Unit=>[]) (fun _=>row 3 1 (some ⟨bc,0,none⟩) (n+1) (n+1) (((if v.fst=1 then cols.getD i [] else noneC l.length)++[-1]).map (Value.int .i64))::lrec Lp (busy r)::blk p14 v.cells 181::blk q13 [.int .i64 (k:Nat)] 3::blk q12 [.int .i64 (i:Nat)] 3::blk p11 [.slice Ao out.length capo] 30::row 47 1 Ao capo out.length hs::dat hs (out.map intsD)::fz pt::blk pa (addL c (.slice A n ca) (.slice Ak cols.length ck) (.slice At m ct) (.slice (some ⟨g,0,none⟩) (cols.length+1) cap)) 176::blk p10 [.pointer (some ⟨pa,0,none⟩)] 174::blk pk [.slice Ak cols.length ck] 30::blk pl [.slice A n ca] 25::blk pc c.cells 23::(dfrs Dl++K2)) (fun _=>True) ?_ ?_
    ·refine T_if rfl (fun h5=>?_) (fun h5=>?_)
     ·simp only [decide_eq_true_eq] at h5
      have hv1:v.fst=1:=by omega
      have hin:i<cols.length:=by omega
      rw [if_pos hv1]
      obtain⟨b,o,rfl⟩:=hcs.base (by omega)
      obtain⟨rr,hrr⟩:∃ r,cols[i]?=some r:=⟨_,List.getElem?_eq_getElem hin⟩
      obtain⟨Au,capu,hu,-,-,hA⟩:=hrows.tabRow hrr
      have hrl:rr.length=n:=by rw [(h.hok rr (List.mem_of_getElem? hrr)).1,hn]
      have hr0:RdC w b (o+(i:Int).toNat * 1) [.slice Au n capu]:=by
       have h9:=(hcs.get1 (i:=i) hin hu).2
       rw [Nat.mul_one,hrl] at h9
       rw [off1]
       exact h9
      have hsr:Src w 1 Au n (rr.map (Value.int .i64)):=⟨by rw [List.length_map,hrl,Nat.mul_one],fun h9=>by
       obtain⟨bu,ou,rfl,hbu⟩:=hA (by omega)
       refine ⟨rfl,fun j u hu=>?_⟩
       rw [List.getElem?_map] at hu
       cases hz:rr[j]? with
       | none=>rw [hz] at hu;cases hu
       | some z=>rw [hz] at hu;cases hu;exact hbu j z hz⟩
      have hgd:cols.getD i []=rr:=by rw [List.getD_eq_getElem?_getD,hrr];rfl
      repeat' (first|refine d1 ?_|refine dd ?_|(show T _ (.ops _ (_::_)::_) _ _ _;refine T_op (OpT.copyR (g:=bc) (k:=n) (us:=rr.map (Value.int .i64)) rfl rfl rfl rfl rfl rfl rfl rfl (by omega) (fun w hw=>src_below hsr hw.below) (oneInts rr) (by rw [List.length_map];omega) ?_))|(show ∀ _:Nat,T _ _ _ _ _;intro _))
      refine T_meetX () trivial (hG:=?_)
      rw [hgd]
      have e9:setL ((noneC l.length++[-1]).map (Value.int .i64)) 0 (rr.map (Value.int .i64))=(rr++[-1]).map (Value.int .i64):=by
       rw [setL_eq _ _ _ (by simp [noneC];omega),List.take_zero,List.nil_append,Nat.zero_add,List.map_append,List.map_append,List.length_map,List.drop_append_of_le_length (by simp [noneC];omega),List.drop_of_length_le (by simp [noneC];omega)]
       simp
      rw [← e9]
      exact Hle.refl _
     ·simp only [decide_eq_false_iff_not] at h5
      rw [if_neg (show ¬ v.fst=1 by omega)]
      exact T_meetX () trivial
    ·rintro⟨⟩ _
     repeat' (first|refine d1 ?_|refine dd ?_|(show ∀ _:Nat,T _ _ _ _ _;intro _))
     refine T_cutX 1 [] (fun _:Unit=>[]) (fun _=>row 3 1 (some ⟨bc,0,none⟩) (n+1) (n+1) ((colM l.length cols i k v).map (Value.int .i64))::lrec Lp (busy r)::blk p14 v.cells 181::blk q13 [.int .i64 (k:Nat)] 3::blk q12 [.int .i64 (i:Nat)] 3::blk p11 [.slice Ao out.length capo] 30::row 47 1 Ao capo out.length hs::dat hs (out.map intsD)::fz pt::blk pa (addL c (.slice A n ca) (.slice Ak cols.length ck) (.slice At m ct) (.slice (some ⟨g,0,none⟩) (cols.length+1) cap)) 176::blk p10 [.pointer (some ⟨pa,0,none⟩)] 174::blk pk [.slice Ak cols.length ck] 30::blk pl [.slice A n ca] 25::blk pc c.cells 23::(dfrs Dl++K2)) (fun _=>True) ?_ ?_
     ·have hcl:(if v.fst=1 then cols.getD i [] else noneC l.length).length=n:=by
       split
       ·have hin:i<cols.length:=by omega
        rw [List.getD_eq_getElem?_getD,List.getElem?_eq_getElem hin]
        exact (h.hok _ (List.getElem_mem hin)).1.trans hn
       ·simp [noneC,hn]
      refine T_if rfl (fun h5=>?_) (fun h5=>?_)
      ·simp only [decide_eq_true_eq] at h5
       repeat' (first|refine d1 ?_|refine dd ?_|(show T _ (.ops _ (_::_)::_) _ _ _;refine T_op (OpT.storeR (us:=[.int .i64 (k:Nat)]) rfl rfl rfl rfl rfl rfl (by show 0+(n:Int).toNat * 1+1≤(n+1) * 1;omega) ?_))|(show ∀ _:Nat,T _ _ _ _ _;intro _))
       refine T_meetX () trivial (hG:=?_)
       have e9:setL (((if v.fst=1 then cols.getD i [] else noneC l.length)++[-1]).map (Value.int .i64)) (0+(n:Int).toNat * 1) [.int .i64 (k:Nat)]=(colM l.length cols i k v).map (Value.int .i64):=by
        unfold colM
        rw [if_pos (show v.snd=1 by omega)]
        exact setLast _ _ _ _ hcl
       rw [← e9]
       exact Hle.refl _
      ·simp only [decide_eq_false_iff_not] at h5
       refine T_meetX () trivial (hG:=?_)
       unfold colM
       rw [if_neg (show ¬ v.snd=1 by omega)]
       exact Hle.refl _
     ·rintro⟨⟩ _
      have hov:out.length≤200000:=by omega
      repeat' (first|refine d1 ?_|refine dd ?_|(show T _ (.ops _ (_::_)::_) _ _ _;refine T_op (OpT.append rfl rfl rfl rfl rfl rfl rfl rfl rfl rfl (fun w hw=>Src.own hw rfl) rfl (by dsimp only;omega) (by omega) (fun A' cap' hA'=>?_)))|(show ∀ _:Nat,T _ _ _ _ _;intro _))
      rename_i blit2
      refine T_le (H':=lrec Lp (busy r)::blk p14 v.cells 181::blk q13 [.int .i64 (k:Nat)] 3::blk q12 [.int .i64 (i:Nat)] 3::blk p11 [.slice A' (out.length+1) cap'] 30::row 47 1 A' cap' (out.length+1) (hs++[(.slice (some ⟨bc,0,none⟩) (n+1) (n+1))])::dat (hs++[(.slice (some ⟨bc,0,none⟩) (n+1) (n+1))]) ((out++[colM l.length cols i k v]).map intsD)::fz pt::blk pa (addL c (.slice A n ca) (.slice Ak cols.length ck) (.slice At m ct) (.slice (some ⟨g,0,none⟩) (cols.length+1) cap)) 176::blk p10 [.pointer (some ⟨pa,0,none⟩)] 174::blk pk [.slice Ak cols.length ck] 30::blk pl [.slice A n ca] 25::blk pc c.cells 23::(dfrs Dl++K2)) ?_ ?_
      ·refine (Hle.srtT (A:=[blk blit2 _ _,row 3 1 (some ⟨bc,0,none⟩) (n+1) (n+1) ((colM l.length cols i k v).map (Value.int .i64)),lrec Lp (busy r),blk p14 v.cells 181,blk q13 [.int .i64 (k:Nat)] 3,blk q12 [.int .i64 (i:Nat)] 3,blk p11 [.slice A' (out.length+1) cap'] 30,row 47 1 A' cap' (out.length+1) (hs++[(.slice (some ⟨bc,0,none⟩) (n+1) (n+1))]),dat hs (out.map intsD)]) (K:=[row 3 1 (some ⟨bc,0,none⟩) (n+1) (n+1) ((colM l.length cols i k v).map (Value.int .i64)),dat hs (out.map intsD),lrec Lp (busy r),blk p14 v.cells 181,blk q13 [.int .i64 (k:Nat)] 3,blk q12 [.int .i64 (i:Nat)] 3,blk p11 [.slice A' (out.length+1) cap'] 30,row 47 1 A' cap' (out.length+1) (hs++[(.slice (some ⟨bc,0,none⟩) (n+1) (n+1))])]) (fz pt::blk pa (addL c (.slice A n ca) (.slice Ak cols.length ck) (.slice At m ct) (.slice (some ⟨g,0,none⟩) (cols.length+1) cap)) 176::blk p10 [.pointer (some ⟨pa,0,none⟩)] 174::blk pk [.slice Ak cols.length ck] 30::blk pl [.slice A n ca] 25::blk pc c.cells 23::(dfrs Dl++K2))).trans ?_
       refine dat_rowV.trans (dat_join.trans ?_)
       have ej:out.map intsD++[D.s 1 (((colM l.length cols i k v).map (Value.int .i64)).map .v)]=(out++[colM l.length cols i k v]).map intsD:=by
        rw [List.map_append,List.map_map];rfl
       rw [ej]
       exact Hle.perm ((List.perm_append_comm (l₁:=[_]) (l₂:=[_,_,_,_,_,_])).append_right (fz pt::blk pa (addL c (.slice A n ca) (.slice Ak cols.length ck) (.slice At m ct) (.slice (some ⟨g,0,none⟩) (cols.length+1) cap)) 176::blk p10 [.pointer (some ⟨pa,0,none⟩)] 174::blk pk [.slice Ak cols.length ck] 30::blk pl [.slice A n ca] 25::blk pc c.cells 23::(dfrs Dl++K2)))
      refine T_keep [(12, .pointer (some ⟨q12,0,none⟩)),(13, .pointer (some ⟨q13,0,none⟩)),(14, .pointer (some ⟨p14,0,none⟩))] ⟨rfl,rfl,rfl,trivial⟩ ?_
      refine T_draw 9 [blk p14 v.cells 181,blk q13 [.int .i64 (k:Nat)] 3] ?_
      refine T_dval 1 rfl (by kernel_rfl) (by kernel_rfl) (by kernel_rfl) (by kernel_rfl) (by kernel_rfl) rfl rfl (by first|exact Val.pure rfl|exact Val.vc rfl (fun hg=>by first|omega|(simp only [inK];omega)|exact True.intro|assumption)|exact Val.load rfl (fun _=>rdOwn1 rfl)|exact Val.loadA rfl (fun _=>rdAll) rfl) rfl rfl rfl (by first|exact Hle.refl _|exact Hle.none _|exact Hle.sub) ?_
      refine T_dval 2 rfl (by kernel_rfl) (by kernel_rfl) (by kernel_rfl) (by kernel_rfl) (by kernel_rfl) rfl rfl (by first|exact Val.pure rfl|exact Val.vc rfl (fun hg=>by first|omega|(simp only [inK];omega)|exact True.intro|assumption)|exact Val.load rfl (fun _=>rdOwn1 rfl)|exact Val.loadA rfl (fun _=>rdAll) rfl) rfl rfl rfl (by first|exact Hle.refl _|exact Hle.none _|exact Hle.sub) ?_
      refine T_dval 4 rfl (by kernel_rfl) (by kernel_rfl) (by kernel_rfl) (by kernel_rfl) (by kernel_rfl) rfl rfl (by first|exact Val.pure rfl|exact Val.vc rfl (fun hg=>by first|omega|(simp only [inK];omega)|exact True.intro|assumption)|exact Val.load rfl (fun _=>rdOwn1 rfl)|exact Val.loadA rfl (fun _=>rdAll) rfl) rfl rfl rfl (by first|exact Hle.refl _|exact Hle.none _|exact Hle.sub) ?_
      refine T_dval 5 rfl (by kernel_rfl) (by kernel_rfl) (by kernel_rfl) (by kernel_rfl) (by kernel_rfl) rfl rfl (by first|exact Val.pure rfl|exact Val.vc rfl (fun hg=>by first|omega|(simp only [inK];omega)|exact True.intro|assumption)|exact Val.load rfl (fun _=>rdOwn1 rfl)|exact Val.loadA rfl (fun _=>rdAll) rfl) rfl rfl rfl (by first|exact Hle.refl _|exact Hle.none _|exact Hle.sub) ?_
      refine T_dval 6 rfl (by kernel_rfl) (by kernel_rfl) (by kernel_rfl) (by kernel_rfl) (by kernel_rfl) rfl rfl (by first|exact Val.pure rfl|exact Val.vc rfl (fun hg=>by first|omega|(simp only [inK];omega)|exact True.intro|assumption)|exact Val.load rfl (fun _=>rdOwn1 rfl)|exact Val.loadA rfl (fun _=>rdAll) rfl) rfl rfl rfl (by first|exact Hle.refl _|exact Hle.none _|exact Hle.sub) ?_
      refine T_dval 7 rfl (by kernel_rfl) (by kernel_rfl) (by kernel_rfl) (by kernel_rfl) (by kernel_rfl) rfl rfl (by first|exact Val.pure rfl|exact Val.vc rfl (fun hg=>by first|omega|(simp only [inK];omega)|exact True.intro|assumption)|exact Val.load rfl (fun _=>rdOwn1 rfl)|exact Val.loadA rfl (fun _=>rdAll) rfl) rfl rfl rfl (by first|exact Hle.refl _|exact Hle.none _|exact Hle.sub) ?_
      refine T_dop 0 (by kernel_rfl) rfl (OpT.ofVal rfl (Val.load rfl (fun _=>rdOwn1 rfl)) rfl rfl rfl ⟨fun _=>Hle.sub,?_⟩)
      refine T_dval 3 rfl (by kernel_rfl) (by kernel_rfl) (by kernel_rfl) (by kernel_rfl) (by kernel_rfl) rfl rfl (by first|exact Val.pure rfl|exact Val.vc rfl (fun hg=>by first|omega|(simp only [inK];omega)|exact True.intro|assumption)|exact Val.load rfl (fun _=>rdOwn1 rfl)|exact Val.loadA rfl (fun _=>rdAll) rfl) rfl rfl rfl (by first|exact Hle.refl _|exact Hle.none _|exact Hle.sub) ?_
      refine T_dop 8 (by kernel_rfl) rfl (OpT.store rfl rfl rfl rfl (by exact Nat.zero_lt_one) ⟨fun _=>Hle.sub,?_⟩)
      refine T_dop 9 (by kernel_rfl) rfl (OpT.store rfl rfl rfl rfl (by exact Nat.zero_lt_one) ⟨fun h=>absurd h (by decide +kernel),?_⟩)
      refine T_dend (by kernel_rfl) ?_
      show T _ (.code (.exit 2)::_) _ _ _
      refine T_rexit (id:=2) (blk q13 [.int .i64 ((k+v.snd:Nat):Int)] 3::blk q12 [.int .i64 ((i+v.fst:Nat):Int)] 3::blk p11 [.slice A' (out.length+1) cap'] 30::row 47 1 A' cap' (out.length+1) (hs++[(.slice (some ⟨bc,0,none⟩) (n+1) (n+1))])::dat (hs++[(.slice (some ⟨bc,0,none⟩) (n+1) (n+1))]) ((out++[colM l.length cols i k v]).map intsD)::fz pt::blk pa (addL c (.slice A n ca) (.slice Ak cols.length ck) (.slice At m ct) (.slice (some ⟨g,0,none⟩) (cols.length+1) cap)) 176::blk p10 [.pointer (some ⟨pa,0,none⟩)] 174::blk pk [.slice Ak cols.length ck] 30::blk pl [.slice A n ca] 25::blk pc c.cells 23::dfrs Dl) (fun _=>rfl) (by exact⟨rfl,v,(A',cap',(.slice (some ⟨bc,0,none⟩) (n+1) (n+1))),hf,rfl⟩) (Hle.drop2 _ _ _)
  ·rintro D Hn ⟨rfl,hno⟩
   exfalso
   rw [stepsV_len] at hno
   obtain⟨fm,hfm⟩:=fstM_ex (G:=grdA c l cols t) (i:=i) (k:=k) (by rw [e1,e2];exact h3')
   obtain⟨hfm1,hfm2⟩:=fstM_mem hfm
   obtain⟨j',hj',e9⟩:=List.getElem_of_mem hfm1
   exact hno j' fm hj' (by rw [List.getElem?_eq_getElem hj',e9]) hfm2
  ·rintro D id Hx ⟨rfl,v,⟨A',cap',hv⟩,hf,rfl⟩
   dsimp only
   obtain⟨hfm1,hfm2⟩:=fstM_mem hf
   obtain⟨jj,hjj,e9⟩:=List.getElem_of_mem hfm1
   have hb1:=h.to hi hk (show (mvs (grdA c l cols t) i k)[jj]?=some v by rw [List.getElem?_eq_getElem hjj,e9])
   have hst:=addV_step hf
   show T (FC _ _ ((D::Dl).map mkD) _ _ _) _ _ _ (dfr D::blk q3 [.int .i64 (k:Nat)] 3::blk q1 [.int .i64 (i:Nat)] 3::blk q2 (addL c (.slice A n ca) (.slice Ak cols.length ck) (.slice At m ct) (.slice (some ⟨g,0,none⟩) (cols.length+1) cap)) 176::blk q13 [.int .i64 ((k+v.snd:Nat):Int)] 3::blk q12 [.int .i64 ((i+v.fst:Nat):Int)] 3::blk p11 [.slice A' (out.length+1) cap'] 30::row 47 1 A' cap' (out.length+1) (hs++[hv])::dat (hs++[hv]) ((out++[colM l.length cols i k v]).map intsD)::fz pt::blk pa (addL c (.slice A n ca) (.slice Ak cols.length ck) (.slice At m ct) (.slice (some ⟨g,0,none⟩) (cols.length+1) cap)) 176::blk p10 [.pointer (some ⟨pa,0,none⟩)] 174::blk pk [.slice Ak cols.length ck] 30::blk pl [.slice A n ca] 25::blk pc c.cells 23::dfrs Dl)
   repeat' (first|refine d1 ?_|refine dd ?_|(show ∀ _:Nat,T _ _ _ _ _;intro _))
   rename_i n12 n13
   show T _ (.mark _::_) _ _ _
   refine T_backD ((i+v.fst,k+v.snd),(n12,n13),(A',cap'),hs++[hv],out++[colM l.length cols i k v],D::Dl) ⟨hb1.1,hb1.2.1,by dsimp only;rw [List.length_append];simp;omega,by dsimp only;rw [hout,hst,List.append_assoc];rfl⟩ (by dsimp only;omega) rfl (hG:=?_)
   dsimp only
   rw [List.length_append]
   exact Hle.srtT (A:=[blk n13 [.int .i64 ((k+v.snd:Nat):Int)] 3,blk n12 [.int .i64 ((i+v.fst:Nat):Int)] 3,dfr D,blk q3 [.int .i64 (k:Nat)] 3,blk q1 [.int .i64 (i:Nat)] 3,blk q2 (addL c (.slice A n ca) (.slice Ak cols.length ck) (.slice At m ct) (.slice (some ⟨g,0,none⟩) (cols.length+1) cap)) 176,blk q13 [.int .i64 ((k+v.snd:Nat):Int)] 3,blk q12 [.int .i64 ((i+v.fst:Nat):Int)] 3,blk p11 [.slice A' (out.length+1) cap'] 30,row 47 1 A' cap' (out.length+1) (hs++[hv]),dat (hs++[hv]) ((out++[colM l.length cols i k v]).map intsD),fz pt,blk pa (addL c (.slice A n ca) (.slice Ak cols.length ck) (.slice At m ct) (.slice (some ⟨g,0,none⟩) (cols.length+1) cap)) 176,blk p10 [.pointer (some ⟨pa,0,none⟩)] 174,blk pk [.slice Ak cols.length ck] 30,blk pl [.slice A n ca] 25,blk pc c.cells 23]) (K:=[blk n13 [.int .i64 ((k+v.snd:Nat):Int)] 3,blk n12 [.int .i64 ((i+v.fst:Nat):Int)] 3,blk p11 [.slice A' (out.length+1) cap'] 30,row 47 1 A' cap' (out.length+1) (hs++[hv]),dat (hs++[hv]) ((out++[colM l.length cols i k v]).map intsD),fz pt,blk pa (addL c (.slice A n ca) (.slice Ak cols.length ck) (.slice At m ct) (.slice (some ⟨g,0,none⟩) (cols.length+1) cap)) 176,blk p10 [.pointer (some ⟨pa,0,none⟩)] 174,blk pk [.slice Ak cols.length ck] 30,blk pl [.slice A n ca] 25,blk pc c.cells 23,dfr D]) (dfrs Dl)
 ·have h3':¬ (i<cols.length∨k<m):=by simpa using h3
  rw [addV_end (i:=i) (k:=k) (by rw [h.htl];exact h3'),List.append_nil] at hout
  rw [hout]
  repeat' (first|refine d1 ?_|refine dd ?_|(show ∀ _:Nat,T _ _ _ _ _;intro _))
  refine T_retDs [dat [.slice Ao out.length capo] [rowsD out]] ?_ (rf_V (vs:=[.slice Ao out.length capo, .int .i64 0]) _ rfl (Hle.refl _) ⟨_,trivial,rfl,rfl⟩)
  refine (Hle.tail _ _).trans ((Hle.tail _ _).trans ((Hle.tail _ _).trans (dat_row.trans ?_)))
  exact Hle.srtT (A:=[dat [.slice Ao out.length capo] [.s 1 (out.map intsD)],_,_,_,_,_,_]) (K:=[dat [.slice Ao out.length capo] [.s 1 (out.map intsD)]]) (dfrs Dl)
end Go.Proofs.YtblnhdnogjijiaaGreatDoor
namespace Go.Proofs.YtblnhdnogjijiaaGreatDoor
open Go.RowKit Go.Shelf Go.Proofs
set_option maxRecDepth 100000
set_option maxHeartbeats 1000000

def lens (l:List TS):List Nat:=l.map fun t=>t.n
theorem lens_get {l:List TS} {s:Nat} {t:TS} (h:l[s]?=some t):(lens l)[s]?=some t.n:=by unfold lens;rw [List.getElem?_map,h];rfl
theorem lens_len (l:List TS):(lens l).length=l.length:=by simp [lens]
def atC (cols:List (List Int)) (i k s:Nat):Nat:=(srcC (cols.take (if s<k then i+1 else i)) s).length
def PreOk (ls:List Nat) (cols:List (List Int)) (i k:Nat):Prop:=∀ s n,ls[s]?=some n→srcC (cols.take (if s<k then i+1 else i)) s=upto (atC cols i k s)∧atC cols i k s≤n
theorem PreOk.start (ls:List Nat) (cols:List (List Int)):PreOk ls cols 0 0:=fun s n _=>by
 unfold atC
 rw [if_neg (by omega)]
 exact⟨rfl,Nat.zero_le _⟩
theorem atC_zero (cols:List (List Int)) (s:Nat):atC cols 0 0 s=0:=by unfold atC;rw [if_neg (by omega)];rfl
theorem atC_row {cols:List (List Int)} {i n s:Nat} (h:s<n):atC cols i n s=atC cols (i+1) 0 s:=by unfold atC;rw [if_pos h,if_neg (by omega)]
theorem PreOk.row {ls:List Nat} {cols:List (List Int)} {i:Nat} (h:PreOk ls cols i ls.length):PreOk ls cols (i+1) 0:=fun s n hs=>by
 have hl:=(List.getElem?_eq_some_iff.1 hs).1
 have:=h s n hs
 rw [atC_row hl,if_pos hl] at this
 rw [if_neg (by omega)]
 exact this
theorem srcC_take {cols:List (List Int)} {i:Nat} {r:List Int} (h:cols[i]?=some r) (s:Nat):srcC (cols.take (i+1)) s=srcC (cols.take i) s++(if r.getD s (-1) = -1 then [] else [r.getD s (-1)]):=by
 rw [take_snoc _ _ _ h,srcC_app,srcC_cons]
 simp [srcC]
theorem atC_other {cols:List (List Int)} {i k s:Nat} (h:s≠k):atC cols i (k+1) s=atC cols i k s:=by
 unfold atC
 by_cases h1:s<k
 ·rw [if_pos h1,if_pos (by omega)]
 ·rw [if_neg h1,if_neg (by omega)]
theorem atC_gap {cols:List (List Int)} {i k:Nat} {r:List Int} (hr:cols[i]?=some r) (hz:r[k]?=some (-1)):atC cols i (k+1) k=atC cols i k k:=by
 unfold atC
 rw [if_pos (by omega),if_neg (by omega),srcC_take hr,List.getD_eq_getElem?_getD,hz]
 simp
theorem atC_tok {cols:List (List Int)} {i k:Nat} {r:List Int} {z:Int} (hr:cols[i]?=some r) (hz:r[k]?=some z) (h:z ≠ -1):atC cols i (k+1) k=atC cols i k k+1:=by
 unfold atC
 rw [if_pos (by omega),if_neg (by omega),srcC_take hr,List.getD_eq_getElem?_getD,hz]
 simp [h]
theorem PreOk.gap {ls:List Nat} {cols:List (List Int)} {i k:Nat} {r:List Int} (h:PreOk ls cols i k) (hr:cols[i]?=some r) (hz:r[k]?=some (-1)):PreOk ls cols i (k+1):=fun s n hs=>by
 have:=h s n hs
 by_cases e:s=k
 ·subst e
  rw [atC_gap hr hz]
  rw [if_neg (by omega)] at this
  rw [if_pos (by omega),srcC_take hr,List.getD_eq_getElem?_getD,hz]
  simpa using this
 ·rw [atC_other e]
  by_cases h1:s<k
  ·rw [if_pos h1] at this;rw [if_pos (by omega)];exact this
  ·rw [if_neg h1] at this;rw [if_neg (by omega)];exact this
theorem PreOk.tok {ls:List Nat} {cols:List (List Int)} {i k:Nat} {r:List Int} {z:Int} (h:PreOk ls cols i k) (hr:cols[i]?=some r) (hz:r[k]?=some z) (hz0:z ≠ -1) (he:z=(atC cols i k k:Nat)) (hlt:∀ n,ls[k]?=some n→atC cols i k k<n):PreOk ls cols i (k+1):=fun s n hs=>by
 have:=h s n hs
 by_cases e:s=k
 ·subst e
  have hl:=hlt n hs
  rw [atC_tok hr hz hz0]
  rw [if_neg (by omega)] at this
  rw [if_pos (by omega),srcC_take hr,List.getD_eq_getElem?_getD,hz,this.1]
  refine ⟨?_,hl⟩
  simp only [Option.getD_some]
  rw [if_neg hz0,upto_succ,he]
 ·rw [atC_other e]
  by_cases h1:s<k
  ·rw [if_pos h1] at this;rw [if_pos (by omega)];exact this
  ·rw [if_neg h1] at this;rw [if_neg (by omega)];exact this
theorem PreOk.bad {ls:List Nat} {cols:List (List Int)} {i k n:Nat} {r:List Int} {z:Int} (h:PreOk ls cols i k) (hr:cols[i]?=some r) (hz:r[k]?=some z) (hz0:z ≠ -1) (hk:ls[k]?=some n) (hc:ColsOk ls cols):z=(atC cols i k k:Nat)∧atC cols i k k<n:=by
 have h1:=(h k n hk).1
 rw [if_neg (by omega)] at h1
 have h2:=hc.src k n hk
 have h3:srcC cols k=srcC (cols.take i) k++([z]++srcC (cols.drop (i+1)) k):=by
  have e:cols=cols.take (i+1)++cols.drop (i+1):=(List.take_append_drop _ _).symm
  rw [← List.append_assoc]
  conv=>lhs;rw [e,srcC_app,srcC_take hr,List.getD_eq_getElem?_getD,hz]
  simp [hz0]
 rw [h2,h1] at h3
 have h4:(upto n)[atC cols i k k]?=some z:=by
  rw [h3,List.getElem?_append_right (by rw [upto_len];exact Nat.le_refl _),upto_len,Nat.sub_self]
  rfl
 have h5:atC cols i k k<n:=by
  have:=(List.getElem?_eq_some_iff.1 h4).1
  rwa [upto_len] at this
 rw [upto_get h5] at h4
 exact⟨(Option.some.inj h4).symm,h5⟩
theorem PreOk.all {ls:List Nat} {cols:List (List Int)} (h:PreOk ls cols cols.length 0) (hlen:∀ x∈cols,x.length=ls.length) (hsome:∀ x∈cols,∃ z∈x,z ≠ -1) (hn:∀ s n,ls[s]?=some n→atC cols cols.length 0 s=n):ColsOk ls cols:=by
 refine ⟨hlen,hsome,fun s n hs=>?_⟩
 have:=(h s n hs).1
 rw [if_neg (by omega),List.take_of_length_le (Nat.le_refl _),hn s n hs] at this
 exact this
open Classical in
noncomputable def chkC (l:List TS) (cols:List (List Int)):Int:=if l.length=0 then 5 else if ColsOk (lens l) cols then 0 else 19
theorem chkC_ok {l:List TS} {cols:List (List Int)} (h0:l.length≠0) (h:ColsOk (lens l) cols):chkC l cols=0:=by unfold chkC;rw [if_neg h0,if_pos h]
theorem chkC_bad {l:List TS} {cols:List (List Int)} (h0:l.length≠0) (h:¬ ColsOk (lens l) cols):chkC l cols=19:=by unfold chkC;rw [if_neg h0,if_neg h]
theorem chkC_zero {l:List TS} {cols:List (List Int)} (h0:l.length=0):chkC l cols=5:=if_pos h0
theorem rowSrc {w:World} {Au:Option Addr} {r:List Int} (h:0<r.length→∃ b o,Au=some ⟨b,o,none⟩∧∀ (k:Nat) z,r[k]?=some z→wr w b (o+k)=some (.int .i64 z)):Src w 1 Au r.length (r.map (Value.int .i64)):=⟨by rw [List.length_map,Nat.mul_one],fun h9=>by
 obtain⟨bu,ou,rfl,hbu⟩:=h h9
 refine ⟨rfl,fun j u hu=>?_⟩
 rw [List.getElem?_map] at hu
 cases hz:r[j]? with
 | none=>rw [hz] at hu;cases hu
 | some z=>rw [hz] at hu;cases hu;exact hbu j z hz⟩
theorem rowHd {w:World} {b o n i:Nat} {Au:Option Addr} {m cap:Nat} {cs:List Value} (hcs:Src w 1 (some ⟨b,o,none⟩) n cs) (hi:i<n) (hu:cs[i]?=some (.slice Au m cap)):RdC w b (o+(i:Int).toNat * 1) [.slice Au m cap]:=by
 have h9:=(hcs.get1 (i:=i) hi hu).2
 rw [Nat.mul_one] at h9
 rw [off1]
 exact h9
end Go.Proofs.YtblnhdnogjijiaaGreatDoor
namespace Go.Proofs.YtblnhdnogjijiaaGreatDoor
open Go.RowKit Go.Shelf Go.Proofs
set_option maxRecDepth 100000
set_option maxHeartbeats 4000000

theorem out_hle {A2 X:Option Addr} {c2 nn Y o:Nat} {cs HS hs:List Value} {cl:List Int} {out:List (List Int)} {J:List HA} (hcs:cs=cl.map (Value.int .i64)) :
  Hle (row 3 1 A2 c2 nn cs::dat hs (out.map intsD)::row 47 1 X Y o HS::J) (row 47 1 X Y o HS::dat (hs++[.slice A2 nn c2]) ((out++[cl]).map intsD)::J):=by
 subst hcs
 refine dat_rowV.trans (dat_join.trans ?_)
 have ej:out.map intsD++[D.s 1 ((cl.map (Value.int .i64)).map .v)]=(out++[cl]).map intsD:=by
  rw [List.map_append,List.map_map];rfl
 rw [ej]
 exact Hle.perm (List.Perm.swap _ _ _)
theorem fst_01 {G:Grd} {i k:Nat} (he:i<G.n∨k<G.m) (h1:¬ ((i<G.n∧k<G.m)∧G.p i k+rst G (i+1) (k+1)=rst G i k)) (h2:¬ (i<G.n∧G.g i+rst G (i+1) k=rst G i k)):fstM G i k=some ⟨0,1,G.h k⟩∧k<G.m:=by
 obtain⟨x,hx⟩:=fstM_ex he
 obtain⟨hm,hv⟩:=fstM_mem hx
 unfold via at hv
 rcases mvs_form hm with⟨rfl,f1,f2⟩|⟨rfl,f1⟩|⟨rfl,f1⟩
 ·exact absurd ⟨⟨f1,f2⟩,hv⟩ h1
 ·exact absurd ⟨f1,hv⟩ h2
 ·exact⟨hx,f1⟩
end Go.Proofs.YtblnhdnogjijiaaGreatDoor
namespace Go.Proofs.YtblnhdnogjijiaaGreatDoor
open Go.RowKit Go.Shelf Go.Proofs

def takS (l:List TS) (ord:List Nat) (j:Nat):List TS:=(ord.take j).map (tsA l)
def stgV (c:Costs) (l:List TS) (ord:List Nat):Nat→List (List Int)
 | 0=>[]
 | j+1=>addV c (takS l ord j) (stgV c l ord j) (tsA l (ord.getD j 0)).l 0 0
theorem ord_get {ord:List Nat} {j:Nat} (h:j<ord.length):ord[j]?=some (ord.getD j 0):=by
 rw [List.getD_eq_getElem?_getD,List.getElem?_eq_getElem h];rfl
theorem takS_succ {l:List TS} {ord:List Nat} {j:Nat} (h:j<ord.length):takS l ord (j+1)=takS l ord j++[tsA l (ord.getD j 0)]:=by
 unfold takS;rw [take_snoc _ _ _ (ord_get h),List.map_append];rfl
theorem takS_len {l:List TS} {ord:List Nat} {j:Nat} (h:j≤ord.length):(takS l ord j).length=j:=by
 unfold takS;rw [List.length_map,List.length_take];omega
theorem tsA_mem {l:List TS} {i:Nat} (h:i<l.length):tsA l i∈l:=by
 have e:l[i]?=some l[i]:=List.getElem?_eq_getElem h
 rw [tsA_eq e];exact List.getElem_mem h
theorem takS_mem {l:List TS} {ord:List Nat} (hlt:∀ k∈ord,k<l.length) {j:Nat}:∀ t∈takS l ord j,t∈l:=fun t ht=>by
 unfold takS at ht
 obtain⟨k,hk,rfl⟩:=List.mem_map.1 ht
 exact tsA_mem (hlt k (List.mem_of_mem_take hk))
theorem ord_lt {l:List TS} {ord:List Nat} (hlt:∀ k∈ord,k<l.length) {j:Nat} (h:j<ord.length):ord.getD j 0<l.length:=hlt _ (List.mem_of_getElem? (ord_get h))
theorem lens_app (a b:List TS):lens (a++b)=lens a++lens b:=by unfold lens;rw [List.map_append]
theorem stgV_ok {c:Costs} {l:List TS} {ord:List Nat} (hlt:∀ k∈ord,k<l.length) (hln:∀ t∈l,t.l.length=t.n):∀ j,j≤ord.length→ColsOk (lens (takS l ord j)) (stgV c l ord j)
 | 0,_=>ColsOk.nil
 | j+1,h=>by
  have ih:=stgV_ok (c:=c) hlt hln j (by omega)
  rw [takS_succ (by omega),lens_app]
  have e:=hln _ (tsA_mem (ord_lt hlt (show j<ord.length by omega)))
  have:=addV_ok (c:=c) (l:=takS l ord j) (t:=(tsA l (ord.getD j 0)).l) (by rw [lens_len]) ih
  rw [e] at this
  exact this
theorem stgV_len {c:Costs} {l:List TS} {ord:List Nat} (hlt:∀ k∈ord,k<l.length) {M:Nat} (hln:∀ t∈l,t.l.length≤M):∀ j,j≤ord.length→(stgV c l ord j).length≤j * M
 | 0,_=>Nat.zero_le _
 | j+1,h=>by
  have ih:=stgV_len (c:=c) hlt hln j (by omega)
  have h1:=addV_len c (takS l ord j) (stgV c l ord j) (tsA l (ord.getD j 0)).l
  have h2:=hln _ (tsA_mem (ord_lt hlt (show j<ord.length by omega)))
  rw [Nat.succ_mul]
  show (addV c (takS l ord j) (stgV c l ord j) (tsA l (ord.getD j 0)).l 0 0).length≤_
  omega
theorem badS_tak {l:List TS} {ord:List Nat} (hlt:∀ k∈ord,k<l.length) (h:badS l=false) (j:Nat):badS (takS l ord j)=false:=by
 unfold badS at h ⊢
 rw [List.any_eq_false] at h ⊢
 exact fun t ht=>h t (takS_mem hlt t ht)
theorem Grp.tak {w:World} {A A':Option Addr} {n:Nat} {l:List TS} {ord:List Nat} (hg:Grp w A n l) (hlt:∀ k∈ord,k<l.length) {j:Nat} (hj:j≤ord.length) (hjb:j≤32) (hs:Src w 1 A' j ((takS l ord j).map TS.val)):Grp w A' j (takS l ord j) :=
 ⟨hg.hst,hs,takS_len hj,hjb,⟨fun t ht=>hg.ok.src t (takS_mem hlt t ht),fun t ht=>hg.ok.len t (takS_mem hlt t ht),fun t ht=>hg.ok.bd t (takS_mem hlt t ht)⟩,fun t ht=>hg.nb t (takS_mem hlt t ht),fun t ht=>hg.sm t (takS_mem hlt t ht)⟩
def alnP (c:Costs) (l:List TS):List (List Int):=(stgV c l (orderV (dstT c l) l.length) l.length).map (arrR (orderV (dstT c l) l.length))
def alnA (c:Costs) (l:List TS):List (List Int) × Int:=if ck21 c l=0 then (alnP c l,0) else ([],1)
end Go.Proofs.YtblnhdnogjijiaaGreatDoor
namespace Go.Proofs.YtblnhdnogjijiaaGreatDoor
open Go.RowKit Go.Shelf Go.Proofs

theorem pigeon2:∀ (n:Nat) (l:List Nat),l.Nodup→(∀ x∈l,x<n)→l.length≤n
 | 0,l,_,h=>by
  cases l with
  | nil=>simp
  | cons x l=>exact absurd (h x (List.mem_cons_self ..)) (by omega)
 | n+1,l,hd,h=>by
  have h1:=pigeon2 n (l.erase n) (hd.erase n) (fun x hx=>by
   have h2:=(hd.mem_erase_iff).1 hx
   have:=h x h2.2
   have:=h2.1
   omega)
  have h2:l.length≤(l.erase n).length+1:=by
   by_cases hm:n∈l
   ·rw [List.length_erase_of_mem hm];omega
   ·rw [List.erase_of_not_mem hm];omega
  omega
theorem ord_surj {ord:List Nat} {n:Nat} (hd:ord.Nodup) (hlt:∀ x∈ord,x<n) (hl:ord.length=n) {s:Nat} (hs:s<n):∃ k,k<n∧ord.getD k 0=s:=by
 have hm:s∈ord:=Classical.byContradiction fun h=>by
  have:=pigeon2 n (s::ord) (List.nodup_cons.2 ⟨h,hd⟩) (fun x hx=>by
   rcases List.mem_cons.1 hx with rfl|hx
   ·exact hs
   ·exact hlt x hx)
  simp only [List.length_cons] at this
  omega
 obtain⟨k,hk,e⟩:=List.getElem_of_mem hm
 exact⟨k,by omega,by rw [List.getD_eq_getElem?_getD,List.getElem?_eq_getElem hk];exact e⟩
theorem ord_inj {ord:List Nat} (hd:ord.Nodup) {i k:Nat} (hi:i<ord.length) (hk:k<ord.length) (h:ord.getD i 0=ord.getD k 0):i=k:=by
 rw [List.getD_eq_getElem?_getD,List.getElem?_eq_getElem hi,List.getD_eq_getElem?_getD,List.getElem?_eq_getElem hk] at h
 exact (List.getElem_inj hd).1 h
theorem arrJ_get {ord:List Nat} {r:List Int} (hd:ord.Nodup) (hl:ord.length=r.length) (hlt:∀ x∈ord,x<r.length) {k:Nat} (hk:k<r.length):∀ j,j≤r.length→(arrJ ord r j)[ord.getD k 0]?=some (if k<j then r.getD k 0 else 0)
 | 0,_=>by
  have:=hlt _ (List.mem_of_getElem? (ord_get (show k<ord.length by omega)))
  rw [if_neg (by omega),arrJ,List.getElem?_replicate,if_pos this]
 | j+1,h=>by
  have ih:=arrJ_get hd hl hlt hk j (by omega)
  have hj:=hlt _ (List.mem_of_getElem? (ord_get (show j<ord.length by omega)))
  rw [arrJ,List.getElem?_set,arrJ_len]
  by_cases e:ord.getD j 0=ord.getD k 0
  ·have e2:=ord_inj hd (by omega) (by omega) e
   subst e2
   rw [if_pos rfl,if_pos hj,if_pos (by omega)]
  ·rw [if_neg e,ih]
   have:j≠k:=fun h9=>e (by rw [h9])
   by_cases h1:k<j
   ·rw [if_pos h1,if_pos (by omega)]
   ·rw [if_neg h1,if_neg (by omega)]
theorem arrR_len (ord:List Nat) (r:List Int):(arrR ord r).length=r.length:=arrJ_len ord r _
theorem arrR_get {ord:List Nat} {r:List Int} (hd:ord.Nodup) (hl:ord.length=r.length) (hlt:∀ x∈ord,x<r.length) {k:Nat} (hk:k<r.length):(arrR ord r)[ord.getD k 0]?=r[k]?:=by
 unfold arrR
 rw [arrJ_get hd hl hlt hk _ (Nat.le_refl _),if_pos hk,List.getD_eq_getElem?_getD,List.getElem?_eq_getElem hk]
 rfl
theorem arr_ok {ord:List Nat} {n:Nat} (hd:ord.Nodup) (hl:ord.length=n) (hlt:∀ x∈ord,x<n) {ls:List Nat} (hls:ls.length=n) {cols:List (List Int)} (h:ColsOk (ord.map fun k=>ls.getD k 0) cols):ColsOk ls (cols.map (arrR ord)):=by
 have hrl:∀ r∈cols,r.length=n:=fun r hr=>by rw [h.len r hr,List.length_map,hl]
 refine ⟨fun x hx=>?_,fun x hx=>?_,fun s m hs=>?_⟩
 ·obtain⟨r,hr,rfl⟩:=List.mem_map.1 hx
  rw [arrR_len,hrl r hr,hls]
 ·obtain⟨r,hr,rfl⟩:=List.mem_map.1 hx
  obtain⟨z,hz,hz1⟩:=h.some_ r hr
  obtain⟨k,hk,e⟩:=List.getElem_of_mem hz
  have hrn:=hrl r hr
  have:=arrR_get hd (by omega) (fun x hx=>by rw [hrn];exact hlt x hx) hk
  rw [List.getElem?_eq_getElem hk,e] at this
  exact⟨z,List.mem_of_getElem? this,hz1⟩
 ·have hsn:s<n:=by have:=(List.getElem?_eq_some_iff.1 hs).1;omega
  obtain⟨k,hk,rfl⟩:=ord_surj hd hlt hl hsn
  have h1:=h.src k m (by
   rw [List.getElem?_map,ord_get (show k<ord.length by omega)]
   show some (ls.getD (ord.getD k 0) 0)=some m
   rw [List.getD_eq_getElem?_getD,hs]
   rfl)
  rw [← h1]
  unfold srcC
  rw [List.map_map]
  refine congrArg _ (List.map_congr_left fun r hr=>?_)
  have hrn:=hrl r hr
  show (arrR ord r).getD (ord.getD k 0) (-1)=r.getD k (-1)
  rw [List.getD_eq_getElem?_getD,arrR_get hd (by omega) (fun x hx=>by rw [hrn];exact hlt x hx) (by omega),List.getD_eq_getElem?_getD]
theorem lens_ord (l:List TS) {ord:List Nat} (hlt:∀ k∈ord,k<l.length):lens (takS l ord ord.length)=ord.map fun k=>(lens l).getD k 0:=by
 unfold takS lens
 rw [List.take_of_length_le (Nat.le_refl _),List.map_map]
 refine List.map_congr_left fun k hk=>?_
 have e:l[k]?=some (l[k]'(hlt k hk)):=List.getElem?_eq_getElem (hlt k hk)
 show (tsA l k).n=_
 rw [tsA_eq e,List.getD_eq_getElem?_getD,List.getElem?_map,e]
 rfl
theorem alnP_ok {c:Costs} {l:List TS} (h:ck21 c l=0) (hln:∀ t∈l,t.l.length=t.n) (hb:∀ t∈l,t.l.length≤1000):ColsOk (lens l) (alnP c l):=by
 have hbd:=dstT_bd (ck21_ok h).1 hb
 obtain⟨hd,hlt⟩:=orderV_ok (fun i k=>(hbd i k).1) l.length
 have hol:=orderV_len (dstT c l) l.length
 have h1:=stgV_ok (c:=c) hlt hln (orderV (dstT c l) l.length).length (Nat.le_refl _)
 rw [lens_ord l hlt] at h1
 have h2:=arr_ok hd hol hlt (by rw [lens_len]) h1
 unfold alnP
 rw [hol] at h2
 exact h2
def diag (j n:Nat):List (List Int):=(List.range n).map fun (i:Nat)=>List.replicate j (i:Int)
theorem diag_get {j n i:Nat} (h:i<n):(diag j n).getD i []=List.replicate j (i:Int):=by
 unfold diag;rw [List.getD_eq_getElem?_getD,List.getElem?_map,List.getElem?_range h];rfl
theorem diag_len (j n:Nat):(diag j n).length=n:=by simp [diag]
theorem diag_drop {j n i:Nat} (h:i<n):(diag j n).drop i=List.replicate j (i:Int)::(diag j n).drop (i+1):=by
 rw [List.drop_eq_getElem_cons (by rw [diag_len];exact h)]
 simp [diag]
theorem add_first {c:Costs} {l:List TS} (h0:l.length=0) {t:List Tok}:∀ q i,i+q=t.length→addV c l [] t 0 i=(diag 1 t.length).drop i
 | 0,i,h=>by
  rw [addV_end (by simp;omega),List.drop_of_length_le (by rw [diag_len];omega)]
 | q+1,i,h=>by
  have hi:¬ 0<(grdA c l [] t).n:=by show ¬ 0<([]:List (List Int)).length;simp
  have hk:i<(grdA c l [] t).m:=by show i<t.length;omega
  have hf:fstM (grdA c l [] t) 0 i=some ⟨0,1,(grdA c l [] t).h i⟩:=(fst_01 (.inr hk) (fun h9=>hi h9.1.1) (fun h9=>hi h9.1)).1
  rw [addV_step hf]
  dsimp only
  rw [Nat.add_zero,add_first h0 q (i+1) (by omega),diag_drop (j:=1) (n:=t.length) (i:=i) (by omega)]
  have e9:colM l.length [] 0 i ⟨0,1,(grdA c l [] t).h i⟩=List.replicate 1 (i:Int):=by
   unfold colM noneC
   rw [if_neg (show ¬ (0:Nat)=1 by omega),if_pos rfl,h0]
   rfl
  rw [e9]
end Go.Proofs.YtblnhdnogjijiaaGreatDoor
namespace Go.Proofs.YtblnhdnogjijiaaGreatDoor

def sumI (g:Nat→Int):List Nat→Int
 | []=>0
 | x::l=>g x+sumI g l
theorem sumI_congr {g h:Nat→Int}:∀ {l:List Nat},(∀ x∈l,g x=h x)→sumI g l=sumI h l
 | [],_=>rfl
 | y::l,e=>by unfold sumI;rw [e y (List.mem_cons_self ..),sumI_congr (l:=l) fun x hx=>e x (List.mem_cons_of_mem _ hx)]
def pS (g:Nat→Nat→Int):List Nat→Int
 | []=>0
 | a::l=>sumI (fun y=>g y a) l+pS g l
theorem psum_append (f:Nat→Nat→Int) (ps:List (Nat × Nat)):∀ qs:List (Nat × Nat),psum f (ps++qs)=psum f ps+psum f qs:=by
 intro qs
 unfold psum
 rw [List.foldl_append]
 generalize List.foldl (fun s p=>s+f p.1 p.2) 0 ps=z
 have key:∀ (qs:List (Nat × Nat)) (z:Int),qs.foldl (fun s p=>s+f p.1 p.2) z=z+qs.foldl (fun s p=>s+f p.1 p.2) 0:=by
  intro qs
  induction qs with
  | nil=>intro z;simp
  | cons q qs ih=>intro z;simp only [List.foldl_cons];rw [ih,ih (0+f q.1 q.2)];omega
 exact key qs z
theorem psum_rowP (f:Nat→Nat→Int) (k:Nat):∀ i,psum f (rowP i k)=sumI (fun q=>f q k) (List.range i).reverse
 | 0=>rfl
 | i+1=>by
  rw [rowP_succ,psum_snoc,psum_rowP f k i,List.range_succ,List.reverse_append,List.reverse_singleton,List.singleton_append]
  simp only [sumI]
  omega
theorem psum_pS (f:Nat→Nat→Int):∀ n,psum f (pairsL n)=pS f (List.range n).reverse
 | 0=>rfl
 | n+1=>by
  rw [pairsL_succ,psum_append,psum_pS f n,psum_rowP,List.range_succ,List.reverse_append,List.reverse_singleton,List.singleton_append]
  simp only [pS]
  omega
theorem pS_congr {g h:Nat→Nat→Int}:∀ {l:List Nat},(∀ x∈l,∀ y∈l,g x y=h x y)→pS g l=pS h l
 | [],_=>rfl
 | a::l,e=>by
  unfold pS
  rw [pS_congr (l:=l) fun x hx y hy=>e x (List.mem_cons_of_mem _ hx) y (List.mem_cons_of_mem _ hy),sumI_congr (h:=fun y=>h y a) fun x hx=>e x (List.mem_cons_of_mem _ hx) a (List.mem_cons_self ..)]
theorem psum_congr {f g:Nat→Nat→Int} {n:Nat} (h:∀ i k,i<n→k<n→f i k=g i k):psum f (pairsL n)=psum g (pairsL n):=by
 rw [psum_pS,psum_pS]
 refine pS_congr fun i hi k hk=>?_
 rw [List.mem_reverse,List.mem_range] at hi hk
 exact h i k hi hk
theorem flat_set {α:Type} (cells:α→List Value) (sz:Nat) (hsz:∀ t,(cells t).length=sz):∀ (l:List α) (i:Nat) (t:α),i<l.length→setL (l.flatMap cells) (i * sz) (cells t)=(l.set i t).flatMap cells
 | [],i,t,h=>by simp at h
 | x::l,0,t,h=>by
  rw [List.set_cons_zero,List.flatMap_cons,List.flatMap_cons,Nat.zero_mul]
  have key:∀ (us xs ys zs:List Value),us.length=xs.length→setL (zs++xs++ys) zs.length us=zs++us++ys:=by
   intro us
   induction us with
   | nil =>
    intro xs ys zs h
    have e:xs=[]:=List.eq_nil_of_length_eq_zero (by simpa using h.symm)
    subst e;simp [setL]
   | cons u us ih =>
    intro xs ys zs h
    obtain⟨x,xs,rfl⟩:∃ y ys,xs=y::ys:=by cases xs with|nil=>simp at h|cons y ys=>exact⟨y,ys,rfl⟩
    simp only [setL]
    have e:(zs++x::xs++ys).set zs.length u=(zs++[u])++xs++ys:=by
     rw [List.append_assoc,List.set_append_right _ _ (Nat.le_refl _),Nat.sub_self];simp
    rw [e,show zs.length+1=(zs++[u]).length by simp,ih xs ys (zs++[u]) (by simpa using h)]
    simp
  have:=key (cells t) (cells x) (l.flatMap cells) [] (by rw [hsz,hsz])
  simpa using this
 | x::l,i+1,t,h=>by
  rw [List.set_cons_succ,List.flatMap_cons,List.flatMap_cons, ← flat_set cells sz hsz l i t (by simpa using h)]
  have key:∀ (us xs ys:List Value) (k:Nat),setL (xs++ys) (xs.length+k) us=xs++setL ys k us:=by
   intro us
   induction us with
   | nil=>intro xs ys k;rfl
   | cons u us ih =>
    intro xs ys k
    simp only [setL]
    rw [List.set_append_right _ _ (by omega),Nat.add_sub_cancel_left,Nat.add_assoc,ih]
  rw [← key,hsz,Nat.succ_mul,Nat.add_comm sz]
theorem flatTok_set (l:List Tok) (i:Nat) (t:Tok) (h:i<l.length):setL (l.flatMap Tok.cells) (i * 6) t.cells=(l.set i t).flatMap Tok.cells:=flat_set Tok.cells 6 (fun _=>rfl) l i t h
end Go.Proofs.YtblnhdnogjijiaaGreatDoor
namespace Go.Proofs.YtblnhdnogjijiaaGreatDoor
open Go.RowKit Go.Shelf Go.Proofs

def zC (c:Costs) (l:List TS) (col:List Int) (i k:Nat):Int:=entC c (tsA l i).l (col.getD i (-1)) (tsA l k).l (col.getD k (-1))
def colZ (c:Costs) (l:List TS) (col:List Int):Int:=psum (zC c l col) (pairsL l.length)
def totZ (c:Costs) (l:List TS) (cols:List (List Int)):Int:=(cols.map (colZ c l)).sum
theorem totZ_cons (c:Costs) (l:List TS) (x:List Int) (cols:List (List Int)):totZ c l (x::cols)=colZ c l x+totZ c l cols:=by unfold totZ;rw [List.map_cons,List.sum_cons]
theorem totZ_app (c:Costs) (l:List TS) (a b:List (List Int)):totZ c l (a++b)=totZ c l a+totZ c l b:=by unfold totZ;rw [List.map_append,List.sum_append]
theorem colZ_bd {c:Costs} (hc:costE c=0) {l:List TS} (hl:l.length≤32) (col:List Int):0≤colZ c l col∧colZ c l col≤1024000:=by
 have h1:=psum_bd (f:=zC c l col) (M:=1000) (by omega) (pairsL l.length) fun p _=>entC_bd hc _ _ _ _
 have h2:=pairsL_len l.length
 have h3:l.length * l.length≤32 * 32:=Nat.mul_le_mul hl hl
 unfold colZ
 omega
theorem totZ_bd {c:Costs} (hc:costE c=0) {l:List TS} (hl:l.length≤32):∀ cols:List (List Int),0≤totZ c l cols∧totZ c l cols≤1024000 * (cols.length:Int)
 | []=>by simp [totZ]
 | x::cols=>by
  have h1:=colZ_bd hc hl x
  have h2:=totZ_bd hc hl cols
  rw [totZ_cons,List.length_cons]
  omega
theorem columnV_Z {c:Costs} (hc:costE c=0) {l:List TS} (hbs:badS l=false) (hln:∀ t∈l,t.l.length=t.n) (hn:l.length≤32) {col:List Int} (hcol:ColOk l col) {own:List Tok} {th:List Bool} (ho:own.length=l.length) (ht:th.length=l.length)
  (h1:∀ i,i<l.length→thA th i=decide (0≤col.getD i (-1))) (h2:∀ i,i<l.length→0≤col.getD i (-1)→tkA own i=tkA (tsA l i).l (col.getD i (-1)).toNat):columnV c own th=(colZ c l col,0):=by
 have hmem:∀ i,i<l.length→0≤col.getD i (-1)→tkA (tsA l i).l (col.getD i (-1)).toNat∈(tsA l i).l:=fun i hi h0=>by
  have hci:col[i]?=some (col.getD i (-1)):=by rw [List.getD_eq_getElem?_getD,List.getElem?_eq_getElem (by rw [hcol.1];exact hi)];rfl
  have hli:l[i]?=some (tsA l i):=by rw [tsA_eq (List.getElem?_eq_getElem hi)];exact List.getElem?_eq_getElem hi
  have:=hcol.2 i _ _ hci hli
  exact tkA_mem2 h0 (by rw [hln _ (tsA_mem hi)];exact this.2)
 have hbad:badCol own th=false:=badCol_false fun j hj hth=>by
  rw [ho] at hj
  rw [h1 j hj] at hth
  have h0:0≤col.getD j (-1):=of_decide_eq_true hth
  rw [h2 j hj h0]
  exact badS_ok hbs _ (tsA_mem hj) _ (hmem j hj h0)
 unfold columnV colZ
 rw [if_neg (by simp [hc]),if_neg (by omega),if_neg (by omega),if_neg (by rw [hbad];simp),ho]
 refine congrArg (fun x=>(x,(0:Int))) (psum_congr fun i k hi hk=>?_)
 unfold cellC zC entC
 rw [h1 i hi,h1 k hk]
 have e1:=h2 i hi
 have e2:=h2 k hk
 generalize col.getD i (-1)=x at e1 ⊢
 generalize col.getD k (-1)=y at e2 ⊢
 by_cases hi0:0≤x
 ·by_cases hk0:0≤y
  ·rw [e1 hi0,e2 hk0];simp [hi0,hk0]
  ·rw [e1 hi0];simp [hi0,hk0]
 ·by_cases hk0:0≤y
  ·rw [e2 hk0];simp [hi0,hk0]
  ·simp [hi0,hk0]
theorem tsA_left {l m:List TS} {i:Nat} (h:i<l.length):tsA (l++m) i=tsA l i:=by unfold tsA;rw [List.getD_eq_getElem?_getD,List.getElem?_append_left h, ← List.getD_eq_getElem?_getD]
theorem tsA_end (l:List TS) (t:TS):tsA (l++[t]) l.length=t:=by unfold tsA;rw [List.getD_eq_getElem?_getD,List.getElem?_append_right (Nat.le_refl _),Nat.sub_self];rfl
theorem getD_left {a b:List Int} {i:Nat} (h:i<a.length):(a++b).getD i (-1)=a.getD i (-1):=by rw [List.getD_eq_getElem?_getD,List.getElem?_append_left h, ← List.getD_eq_getElem?_getD]
theorem getD_end (a:List Int) (z:Int):(a++[z]).getD a.length (-1)=z:=by rw [List.getD_eq_getElem?_getD,List.getElem?_append_right (Nat.le_refl _),Nat.sub_self];rfl
theorem colZ_app (c:Costs) {l:List TS} {col:List Int} (hl:col.length=l.length) (t:TS) (z:Int):colZ c (l++[t]) (col++[z])=colZ c l col+putC c l col t.l z:=by
 unfold colZ
 rw [List.length_append]
 show psum _ (pairsL (l.length+1))=_
 rw [pairsL_succ,psum_append]
 congr 1
 ·refine psum_congr fun i k hi hk=>?_
  unfold zC
  rw [tsA_left hi,tsA_left hk,getD_left (by omega),getD_left (by omega)]
 ·rw [← putS_all c (l:=l) (col:=col) t.l z (Nat.le_refl _)]
  have key:∀ j,j≤l.length→psum (zC c (l++[t]) (col++[z])) (rowP j l.length)=putS c l col t.l z j:=by
   intro j
   induction j with
   | zero=>intro _;rfl
   | succ j ih =>
    intro hj
    have e1:l[j]?=some (tsA l j):=by rw [tsA_eq (List.getElem?_eq_getElem (show j<l.length by omega))];exact List.getElem?_eq_getElem _
    have e2:col[j]?=some (col.getD j (-1)):=by rw [List.getD_eq_getElem?_getD,List.getElem?_eq_getElem (show j<col.length by omega)];rfl
    rw [rowP_succ,psum_snoc,ih (by omega),putS_succ c t.l z e1 e2]
    congr 1
    show zC c (l++[t]) (col++[z]) j l.length=_
    unfold zC
    rw [tsA_left (by omega),tsA_end,getD_left (by omega),show l.length=col.length by omega,getD_end]
  exact key _ (Nat.le_refl _)
theorem psum_zero {f:Nat→Nat→Int} (h:∀ i k,f i k=0) (ps:List (Nat × Nat)):psum f ps=0:=by
 have:=psum_bd (f:=f) (M:=0) (Int.le_refl _) ps fun p _=>by rw [h];omega
 omega
theorem colZ_none (c:Costs) (l:List TS):colZ c l (noneC l.length)=0:=by
 refine psum_zero (fun i k=>?_) _
 have e:∀ i,(noneC l.length).getD i (-1) = -1:=fun i=>by
  unfold noneC
  rw [List.getD_eq_getElem?_getD,List.getElem?_replicate]
  split <;> rfl
 unfold zC entC
 rw [e,e]
 rfl
theorem totZ_add {c:Costs} {l:List TS} {cols:List (List Int)} (hlen:∀ x∈cols,x.length=l.length) (t:TS):∀ i k,i≤cols.length→k≤t.l.length→totZ c (l++[t]) (addV c l cols t.l i k)=totZ c l (cols.drop i)+rst (grdA c l cols t.l) i k:=by
 intro i k
 induction i,k using grd_ind (grdA c l cols t.l) with
 | h i k h10 h01 h11 =>
  intro hi hk
  by_cases he:i<cols.length∨k<t.l.length
  ·obtain⟨x,hx⟩:=fstM_ex (G:=grdA c l cols t.l) (i:=i) (k:=k) he
   obtain⟨hm,hv⟩:=fstM_mem hx
   unfold via at hv
   rw [addV_step hx,totZ_cons, ← hv]
   have hcol:∀ (hi:i<cols.length),(cols.getD i []).length=l.length:=fun hi=>by
    rw [List.getD_eq_getElem?_getD,List.getElem?_eq_getElem hi]
    exact hlen _ (List.getElem_mem hi)
   have hdr:∀ (hi:i<cols.length),totZ c l (cols.drop i)=colZ c l (cols.getD i [])+totZ c l (cols.drop (i+1)):=fun hi=>by
    rw [List.drop_eq_getElem_cons hi,totZ_cons,List.getD_eq_getElem?_getD,List.getElem?_eq_getElem hi];rfl
   rcases mvs_form hm with⟨rfl,f1,f2⟩|⟨rfl,f1⟩|⟨rfl,f1⟩
   ·have f1':i<cols.length:=f1
    have f2':k<t.l.length:=f2
    dsimp only
    rw [h11 f1 f2 (by omega) (by omega),hdr f1']
    unfold colM
    rw [if_pos rfl,if_pos rfl,colZ_app c (hcol f1')]
    show _=_+(putC c l (cols.getD i []) t.l (k:Nat)+_)
    omega
   ·have f1':i<cols.length:=f1
    dsimp only
    simp only [Nat.add_zero]
    rw [h10 f1 (by omega) hk,hdr f1']
    unfold colM
    rw [if_pos rfl,if_neg (show ¬ (0:Nat)=1 by omega),colZ_app c (hcol f1')]
    show _=_+(putC c l (cols.getD i []) t.l (-1)+_)
    omega
   ·have f1':k<t.l.length:=f1
    dsimp only
    simp only [Nat.add_zero]
    rw [h01 f1 hi (by omega)]
    unfold colM
    rw [if_neg (show ¬ (0:Nat)=1 by omega),if_pos rfl,colZ_app c (by unfold noneC;rw [List.length_replicate]),colZ_none]
    show _=_+(putC c l (noneC l.length) t.l (k:Nat)+_)
    omega
  ·rw [addV_end he,List.drop_of_length_le (by omega),rst_none (fun h=>he (.inl h)) (fun h=>he (.inr h))]
   rfl
theorem psum_add (f g:Nat→Nat→Int):∀ ps:List (Nat × Nat),psum (fun i k=>f i k+g i k) ps=psum f ps+psum g ps:=by
 intro ps
 have key:∀ (ps:List (Nat × Nat)) (a b:Int),ps.foldl (fun s p=>s+(f p.1 p.2+g p.1 p.2)) (a+b)=ps.foldl (fun s p=>s+f p.1 p.2) a+ps.foldl (fun s p=>s+g p.1 p.2) b:=by
  intro ps
  induction ps with
  | nil=>intro a b;rfl
  | cons p ps ih =>
   intro a b
   simp only [List.foldl_cons]
   rw [← ih,show a+b+(f p.1 p.2+g p.1 p.2)=a+f p.1 p.2+(b+g p.1 p.2) by omega]
 exact key ps 0 0
theorem psum_le {f g:Nat→Nat→Int}:∀ {ps:List (Nat × Nat)},(∀ p∈ps,f p.1 p.2≤g p.1 p.2)→psum f ps≤psum g ps:=by
 intro ps
 have key:∀ (ps:List (Nat × Nat)) (a b:Int),a≤b→(∀ p∈ps,f p.1 p.2≤g p.1 p.2)→ps.foldl (fun s p=>s+f p.1 p.2) a≤ps.foldl (fun s p=>s+g p.1 p.2) b:=by
  intro ps
  induction ps with
  | nil=>intro a b h _;exact h
  | cons p ps ih =>
   intro a b h hp
   simp only [List.foldl_cons]
   have:=hp p (List.mem_cons_self ..)
   exact ih _ _ (by omega) fun q hq=>hp q (List.mem_cons_of_mem _ hq)
 exact key ps 0 0 (Int.le_refl _)
theorem totZ_pairs (c:Costs) (l:List TS):∀ cols:List (List Int),totZ c l cols=psum (fun i k=>(cols.map fun x=>zC c l x i k).sum) (pairsL l.length)
 | []=>(psum_zero (f:=fun i k=>(([]:List (List Int)).map fun x=>zC c l x i k).sum) (fun _ _=>rfl) (pairsL l.length)).symm
 | x::cols=>by
  rw [totZ_cons,totZ_pairs c l cols]
  unfold colZ
  rw [← psum_add]
  rfl
theorem upto_drop {n p:Nat} (h:p<n):(upto n).drop p=(p:Int)::(upto n).drop (p+1):=by
 rw [List.drop_eq_getElem_cons (by rw [upto_len];exact h)]
 have e:=upto_get h
 rw [List.getElem?_eq_getElem (by rw [upto_len];exact h)] at e
 rw [Option.some.inj e]
theorem upto_end {n p:Nat} (h:n≤p):(upto n).drop p=[]:=List.drop_of_length_le (by rw [upto_len];exact h)
theorem upto_cons {n p:Nat} {z:Int} {r:List Int} (h:z::r=(upto n).drop p):p<n∧z=(p:Int)∧r=(upto n).drop (p+1):=by
 rcases Nat.lt_or_ge p n with h1|h1
 ·rw [upto_drop h1] at h
  exact⟨h1,(List.cons.inj h).1,(List.cons.inj h).2⟩
 ·rw [upto_end h1] at h;cases h
theorem pair_rst (c:Costs) (a b:List Tok) (s u:Nat):∀ (cols:List (List Int)) (p q:Nat),srcC cols s=(upto a.length).drop p→srcC cols u=(upto b.length).drop q→p≤a.length→q≤b.length →
  rst (grdOf c a b) p q≤(cols.map fun x=>entC c a (x.getD s (-1)) b (x.getD u (-1))).sum
 | [],p,q,h1,h2,hp,hq=>by
  have e1:¬ p<a.length:=fun h=>by rw [upto_drop h] at h1;cases h1
  have e2:¬ q<b.length:=fun h=>by rw [upto_drop h] at h2;cases h2
  rw [rst_none (G:=grdOf c a b) e1 e2]
  exact Int.le_refl _
 | x::cols,p,q,h1,h2,hp,hq=>by
  rw [srcC_cons] at h1 h2
  rw [List.map_cons,List.sum_cons]
  by_cases hs:x.getD s (-1) = -1
  ·rw [if_pos hs,List.nil_append] at h1
   by_cases hu:x.getD u (-1) = -1
   ·rw [if_pos hu,List.nil_append] at h2
    have ih:=pair_rst c a b s u cols p q h1 h2 hp hq
    rw [hs,hu]
    have e:entC c a (-1) b (-1)=0:=rfl
    omega
   ·rw [if_neg hu,List.singleton_append] at h2
    obtain⟨g1,g2,g3⟩:=upto_cons h2
    have ih:=pair_rst c a b s u cols p (q+1) h1 g3 hp (by omega)
    have hr:=rst_le_h (G:=grdOf c a b) (i:=p) (k:=q) g1
    have e:entC c a (-1) b (q:Int)=(grdOf c a b).h q:=by
     unfold entC;rw [if_neg (by omega),if_neg (by omega),if_pos (by omega)];rfl
    rw [hs,g2,e]
    omega
  ·rw [if_neg hs,List.singleton_append] at h1
   obtain⟨f1,f2,f3⟩:=upto_cons h1
   by_cases hu:x.getD u (-1) = -1
   ·rw [if_pos hu,List.nil_append] at h2
    have ih:=pair_rst c a b s u cols (p+1) q f3 h2 (by omega) hq
    have hr:=rst_le_g (G:=grdOf c a b) (i:=p) (k:=q) f1
    have e:entC c a (p:Int) b (-1)=(grdOf c a b).g p:=by
     unfold entC;rw [if_neg (by omega),if_pos (by omega)];rfl
    rw [hu,f2,e]
    omega
   ·rw [if_neg hu,List.singleton_append] at h2
    obtain⟨g1,g2,g3⟩:=upto_cons h2
    have ih:=pair_rst c a b s u cols (p+1) (q+1) f3 g3 (by omega) (by omega)
    have hr:=rst_le_p (G:=grdOf c a b) (i:=p) (k:=q) f1 g1
    have e:entC c a (p:Int) b (q:Int)=(grdOf c a b).p p q:=by
     unfold entC;rw [if_pos (by omega)];rfl
    rw [f2,g2,e]
    omega
theorem totZ_ge {c:Costs} {l:List TS} (hln:∀ t∈l,t.l.length=t.n) {cols:List (List Int)} (h:ColsOk (lens l) cols):psum (dstT c l) (pairsL l.length)≤totZ c l cols:=by
 rw [totZ_pairs]
 refine psum_le fun p hp=>?_
 obtain⟨i,k⟩:=p
 obtain⟨hik,hk⟩:=pairsL_mem.1 hp
 show dstT c l i k≤_
 have hs:∀ s,s<l.length→srcC cols s=upto (tsA l s).l.length:=fun s hs=>by
  rw [hln _ (tsA_mem hs)]
  refine h.src s _ (lens_get ?_)
  rw [tsA_eq (List.getElem?_eq_getElem hs)]
  exact List.getElem?_eq_getElem hs
 unfold dstT
 rw [if_pos hik]
 exact pair_rst c (tsA l i).l (tsA l k).l i k cols 0 0 (hs i (by omega)) (hs k hk) (Nat.zero_le _) (Nat.zero_le _)
theorem order_two (D:Nat→Nat→Int):orderV D 2=[0,1]:=by
 obtain⟨h1,h2,-⟩:=selI_in (D:=D) (n:=2) (by omega) 2 (Nat.le_refl _)
 show [(selI D 2 2).1,(selI D 2 2).2]=[0,1]
 have e1:(selI D 2 2).1=0:=by omega
 have e2:(selI D 2 2).2=1:=by omega
 rw [e1,e2]
theorem arr_two {r:List Int} (h:r.length=2):arrR [0,1] r=r:=by
 match r,h with
 | [x,y],_=>rfl
theorem grdA_one {c:Costs} {t:TS} {b:List Tok}:∀ i k,rst (grdA c [t] (diag 1 t.l.length) b) i k=rst (grdOf c t.l b) i k:=by
 intro i k
 have hp:∀ i k,i<t.l.length→(grdA c [t] (diag 1 t.l.length) b).p i k=(grdOf c t.l b).p i k:=fun i k hi=>by
  show putC c [t] ((diag 1 t.l.length).getD i []) b (k:Nat)=pairC c (tkA t.l i) (tkA b k)
  rw [diag_get hi]
  show (entC c t.l (i:Nat) b (k:Nat)+0:Int)=_
  unfold entC
  rw [if_pos (by omega),Int.add_zero];rfl
 have hg:∀ i,i<t.l.length→(grdA c [t] (diag 1 t.l.length) b).g i=(grdOf c t.l b).g i:=fun i hi=>by
  show putC c [t] ((diag 1 t.l.length).getD i []) b (-1)=gapC c (tkA t.l i)
  rw [diag_get hi]
  show (entC c t.l (i:Nat) b (-1)+0:Int)=_
  unfold entC
  rw [if_neg (by omega),if_pos (by omega),Int.add_zero];rfl
 have hh:∀ k,(grdA c [t] (diag 1 t.l.length) b).h k=(grdOf c t.l b).h k:=fun k=>by
  show putC c [t] (noneC 1) b (k:Nat)=gapC c (tkA b k)
  show (entC c t.l (-1) b (k:Nat)+0:Int)=_
  unfold entC
  rw [if_neg (by omega),if_neg (by omega),if_pos (by omega),Int.add_zero];rfl
 have en:(grdA c [t] (diag 1 t.l.length) b).n=t.l.length:=diag_len _ _
 have em:(grdA c [t] (diag 1 t.l.length) b).m=b.length:=rfl
 induction i,k using grd_ind (grdOf c t.l b) with
 | h i k h10 h01 h11 =>
  by_cases hi:i<t.l.length
  ·by_cases hk:k<b.length
   ·rw [rst_both (by rw [en];exact hi) (by rw [em];exact hk),rst_both (G:=grdOf c t.l b) hi hk,hp i k hi,hg i hi,hh,h10 hi,h01 hk,h11 hi hk]
   ·rw [rst_fst (by rw [en];exact hi) (by rw [em];exact hk),rst_fst (G:=grdOf c t.l b) hi hk,hg i hi,h10 hi]
  ·by_cases hk:k<b.length
   ·rw [rst_snd (by rw [en];exact hi) (by rw [em];exact hk),rst_snd (G:=grdOf c t.l b) hi hk,hh,h01 hk]
   ·rw [rst_none (by rw [en];exact hi) (by rw [em];exact hk),rst_none (G:=grdOf c t.l b) hi hk]
theorem alnP_two {c:Costs} {s t:TS} (h:ck21 c [s,t]=0) (hln:∀ x∈[s,t],x.l.length=x.n):totZ c [s,t] (alnP c [s,t])=rst (grdOf c s.l t.l) 0 0:=by
 have h1:stgV c [s,t] [0,1] 1=diag 1 s.l.length:=by
  show addV c [] [] s.l 0 0=_
  rw [add_first (l:=[]) rfl s.l.length 0 (by omega)]
  rfl
 have h2:stgV c [s,t] [0,1] 2=addV c [s] (diag 1 s.l.length) t.l 0 0:=by
  show addV c [s] (stgV c [s,t] [0,1] 1) t.l 0 0=_
  rw [h1]
 have hok:∀ r∈stgV c [s,t] [0,1] 2,r.length=2:=fun r hr=>by
  have:=(stgV_ok (c:=c) (l:=[s,t]) (ord:=[0,1]) (by simp) hln 2 (Nat.le_refl _)).len r hr
  rw [this];rfl
 have e:alnP c [s,t]=stgV c [s,t] [0,1] 2:=by
  unfold alnP
  show (stgV c [s,t] (orderV (dstT c [s,t]) 2) 2).map (arrR (orderV (dstT c [s,t]) 2))=_
  rw [order_two]
  conv=>rhs;rw [← List.map_id (stgV c [s,t] [0,1] 2)]
  exact List.map_congr_left fun r hr=>arr_two (hok r hr)
 have hz:∀ r,colZ c [s] r=0:=fun r=>rfl
 have hz2:∀ cols:List (List Int),totZ c [s] cols=0:=by
  intro cols
  induction cols with
  | nil=>rfl
  | cons x cols ih=>rw [totZ_cons,ih,hz];rfl
 rw [e,h2]
 have h3:=totZ_add (c:=c) (l:=[s]) (cols:=diag 1 s.l.length) (fun x hx=>by
  unfold diag at hx
  obtain⟨i,-,rfl⟩:=List.mem_map.1 hx
  simp) t 0 0 (Nat.zero_le _) (Nat.zero_le _)
 rw [hz2,Int.zero_add,grdA_one] at h3
 exact h3
end Go.Proofs.YtblnhdnogjijiaaGreatDoor
namespace Go.Proofs.YtblnhdnogjijiaaGreatDoor

def prjR (keep:List Nat) (x:List Int):List Int:=keep.map fun s=>x.getD s (-1)
def anyP (x:List Int):Bool:=x.any fun z=>decide (0≤z)
def prjC (keep:List Nat) (cols:List (List Int)):List (List Int):=(cols.map (prjR keep)).filter anyP
theorem prjR_len (keep:List Nat) (x:List Int):(prjR keep x).length=keep.length:=by simp [prjR]
theorem prjR_get (keep:List Nat) (x:List Int) (j:Nat):(prjR keep x)[j]?=(keep[j]?).map fun s=>x.getD s (-1):=by unfold prjR;rw [List.getElem?_map]
theorem prjR_getD {keep:List Nat} {x:List Int} {j:Nat} (h:j<keep.length):(prjR keep x).getD j (-1)=x.getD (keep.getD j 0) (-1):=by
 rw [List.getD_eq_getElem?_getD,prjR_get,List.getElem?_eq_getElem h,List.getD_eq_getElem?_getD (l:=keep),List.getElem?_eq_getElem h];rfl
theorem prjC_cons (keep:List Nat) (x:List Int) (cols:List (List Int)):prjC keep (x::cols)=if anyP (prjR keep x)=true then prjR keep x::prjC keep cols else prjC keep cols:=by
 unfold prjC
 rw [List.map_cons,List.filter_cons]
theorem anyP_iff {x:List Int}:anyP x=true↔∃ z∈x,0≤z:=by unfold anyP;rw [List.any_eq_true];simp
theorem ColsOk.ge {ls:List Nat} {cols:List (List Int)} (h:ColsOk ls cols) {x:List Int} (hx:x∈cols) (s:Nat) : -1≤x.getD s (-1):=by
 rw [List.getD_eq_getElem?_getD]
 cases hz:x[s]? with
 | none=>simp
 | some z =>
  have hs:s<ls.length:=by rw [← h.len x hx];exact (List.getElem?_eq_some_iff.1 hz).1
  exact (h.entry hx (List.getElem?_eq_getElem hs) hz).1
theorem prj_src {keep:List Nat} {j:Nat} (hj:j<keep.length):∀ {cols:List (List Int)},(∀ x∈cols,∀ s,-1≤x.getD s (-1))→srcC (prjC keep cols) j=srcC cols (keep.getD j 0)
 | [],_=>rfl
 | x::cols,h=>by
  have ih:=prj_src hj (cols:=cols) fun y hy=>h y (.tail _ hy)
  rw [prjC_cons,srcC_cons]
  by_cases hp:anyP (prjR keep x)=true
  ·rw [if_pos hp,srcC_cons,ih,prjR_getD hj]
  ·rw [if_neg hp,ih]
   have hz:x.getD (keep.getD j 0) (-1) = -1:=by
    have h1:=h x (.head _) (keep.getD j 0)
    refine Classical.byContradiction fun hne=>hp (anyP_iff.2 ⟨(prjR keep x).getD j (-1),?_,by rw [prjR_getD hj];omega⟩)
    rw [List.getD_eq_getElem?_getD,List.getElem?_eq_getElem (by rw [prjR_len];exact hj)]
    exact List.getElem_mem _
   rw [if_pos hz];rfl
theorem prjC_ok {ls:List Nat} {cols:List (List Int)} (h:ColsOk ls cols) {keep:List Nat} (hk:∀ s∈keep,s<ls.length):ColsOk (keep.map fun s=>ls.getD s 0) (prjC keep cols):=by
 refine ⟨fun x hx=>?_,fun x hx=>?_,fun j n hj=>?_⟩
 ·unfold prjC at hx
  obtain⟨y,-,rfl⟩:=List.mem_map.1 (List.mem_filter.1 hx).1
  rw [prjR_len,List.length_map]
 ·unfold prjC at hx
  obtain⟨z,hz,h0⟩:=anyP_iff.1 (List.mem_filter.1 hx).2
  exact⟨z,hz,by omega⟩
 ·have hjl:j<keep.length:=by simpa using (List.getElem?_eq_some_iff.1 hj).1
  rw [List.getElem?_map,List.getElem?_eq_getElem hjl] at hj
  have e:keep.getD j 0=keep[j]:=by rw [List.getD_eq_getElem?_getD,List.getElem?_eq_getElem hjl];rfl
  have hlt:=hk _ (List.getElem_mem hjl)
  have hn:ls.getD keep[j] 0=n:=by simpa using hj
  rw [prj_src hjl fun x hx s=>h.ge hx s,e]
  refine h.src _ n ?_
  rw [List.getD_eq_getElem?_getD,List.getElem?_eq_getElem hlt] at hn
  rw [List.getElem?_eq_getElem hlt]
  exact congrArg some hn
end Go.Proofs.YtblnhdnogjijiaaGreatDoor
namespace Go.Proofs.YtblnhdnogjijiaaGreatDoor

def volL:List Nat→Nat
 | []=>1
 | n::ls=>(n+1) * volL ls
def numL:List Nat→List Nat→Nat
 | _::ls,a::v=>a * volL ls+numL ls v
 | _,_=>0
def atL:List Nat→Nat→List Nat
 | [],_=>[]
 | n::ls,p=>(p / volL ls % (n+1))::atL ls p
def stpL:List Nat→Nat→Nat
 | [],_=>0
 | _::ls,0=>volL ls
 | _::ls,s+1=>stpL ls s
def InB:List Nat→List Nat→Prop
 | [],[]=>True
 | n::ls,a::v=>a≤n∧InB ls v
 | _,_=>False
theorem volL_pos:∀ ls:List Nat,0<volL ls
 | []=>Nat.one_pos
 | n::ls=>Nat.mul_pos (Nat.succ_pos n) (volL_pos ls)
theorem InB.len:∀ {ls v:List Nat},InB ls v→v.length=ls.length
 | [],[],_=>rfl
 | n::ls,a::v,h=>by simp [InB.len h.2]
 | [],a::v,h=>h.elim
 | n::ls,[],h=>h.elim
theorem numL_lt:∀ {ls v:List Nat},InB ls v→numL ls v<volL ls
 | [],[],_=>Nat.one_pos
 | n::ls,a::v,h=>by
  have h1:=numL_lt h.2
  have h2:a * volL ls≤n * volL ls:=Nat.mul_le_mul_right _ h.1
  have h3:(n+1) * volL ls=n * volL ls+volL ls:=by rw [Nat.add_mul,Nat.one_mul]
  show a * volL ls+numL ls v<(n+1) * volL ls
  omega
 | [],a::v,h=>h.elim
 | n::ls,[],h=>h.elim
theorem atL_mod:∀ (ls:List Nat) (p:Nat),atL ls (p % volL ls)=atL ls p
 | [],p=>rfl
 | n::ls,p=>by
  show (p % ((n+1) * volL ls) / volL ls % (n+1))::atL ls (p % ((n+1) * volL ls))=(p / volL ls % (n+1))::atL ls p
  have h1:p % ((n+1) * volL ls) / volL ls % (n+1)=p / volL ls % (n+1):=by
   rw [Nat.mod_mul_left_div_self,Nat.mod_mod]
  have h2:atL ls (p % ((n+1) * volL ls))=atL ls p:=by
   rw [← atL_mod ls (p % _), ← atL_mod ls p,Nat.mod_mul_left_mod]
  rw [h1,h2]
theorem atL_in:∀ (ls:List Nat) (p:Nat),InB ls (atL ls p)
 | [],_=>trivial
 | n::ls,p=>⟨Nat.le_of_lt_succ (Nat.mod_lt _ (Nat.succ_pos n)),atL_in ls p⟩
theorem atL_len (ls:List Nat) (p:Nat):(atL ls p).length=ls.length:=(atL_in ls p).len
theorem num_at:∀ (ls:List Nat) (p:Nat),p<volL ls→numL ls (atL ls p)=p
 | [],p,h=>by have:p<1:=h;show 0=p;omega
 | n::ls,p,h=>by
  show (p / volL ls % (n+1)) * volL ls+numL ls (atL ls p)=p
  have hp:=volL_pos ls
  have h1:p / volL ls<n+1:=(Nat.div_lt_iff_lt_mul hp).2 h
  rw [Nat.mod_eq_of_lt h1, ← atL_mod ls p,num_at ls _ (Nat.mod_lt _ hp)]
  exact Nat.div_add_mod' p (volL ls)
theorem at_num:∀ {ls v:List Nat},InB ls v→atL ls (numL ls v)=v
 | [],[],_=>rfl
 | n::ls,a::v,h=>by
  have hp:=volL_pos ls
  have h1:=numL_lt h.2
  show ((a * volL ls+numL ls v) / volL ls % (n+1))::atL ls (a * volL ls+numL ls v)=a::v
  have e1:(a * volL ls+numL ls v) / volL ls=a:=by
   rw [Nat.add_comm,Nat.add_mul_div_right _ _ hp,Nat.div_eq_of_lt h1,Nat.zero_add]
  have e2:(a * volL ls+numL ls v) % volL ls=numL ls v:=by
   rw [Nat.add_comm,Nat.add_mul_mod_self_right,Nat.mod_eq_of_lt h1]
  rw [e1,Nat.mod_eq_of_lt (Nat.lt_succ_of_le h.1), ← atL_mod ls (_+_),e2,at_num h.2]
 | [],a::v,h=>h.elim
 | n::ls,[],h=>h.elim
theorem atL_get:∀ {ls:List Nat} {s n:Nat} (p:Nat),ls[s]?=some n→(atL ls p)[s]?=some (p / stpL ls s % (n+1))
 | m::ls,0,n,p,h=>by
  simp at h;subst h;rfl
 | m::ls,s+1,n,p,h=>by
  have:=atL_get (ls:=ls) (s:=s) (n:=n) p (by simpa using h)
  simpa [atL,stpL] using this
theorem num_set:∀ {ls v:List Nat} {s:Nat},v.length=ls.length→s<v.length→numL ls (v.set s (v.getD s 0+1))=numL ls v+stpL ls s
 | n::ls,a::v,0,_,_=>by
  show (a+1) * volL ls+numL ls v=a * volL ls+numL ls v+volL ls
  rw [Nat.add_mul,Nat.one_mul];omega
 | n::ls,a::v,s+1,hl,hs=>by
  have:=num_set (ls:=ls) (v:=v) (s:=s) (by simpa using hl) (by simpa using hs)
  show a * volL ls+numL ls (v.set s ((a::v).getD (s+1) 0+1))=a * volL ls+numL ls v+stpL ls s
  rw [show (a::v).getD (s+1) 0=v.getD s 0 by simp,this];omega
 | [],a::v,s,hl,_=>by simp at hl
theorem num_all:∀ ls:List Nat,numL ls ls+1=volL ls
 | []=>rfl
 | n::ls=>by
  have:=num_all ls
  show n * volL ls+numL ls ls+1=(n+1) * volL ls
  rw [Nat.add_mul,Nat.one_mul];omega
theorem InB.self:∀ ls:List Nat,InB ls ls
 | []=>trivial
 | n::ls=>⟨Nat.le_refl n,InB.self ls⟩
theorem InB.get:∀ {ls v:List Nat},InB ls v→∀ s,v.getD s 0≤ls.getD s 0
 | [],[],_,s=>by simp
 | n::ls,a::v,h,0=>h.1
 | n::ls,a::v,h,s+1=>by simpa using InB.get h.2 s
 | [],a::v,h,_=>h.elim
 | n::ls,[],h,_=>h.elim
theorem InB.of:∀ {ls v:List Nat},v.length=ls.length→(∀ s,v.getD s 0≤ls.getD s 0)→InB ls v
 | [],[],_,_=>trivial
 | n::ls,a::v,hl,h=>⟨h 0,InB.of (by simpa using hl) fun s=>by simpa using h (s+1)⟩
 | [],a::v,hl,_=>by simp at hl
 | n::ls,[],hl,_=>by simp at hl
theorem InB.some:∀ {ls v:List Nat},InB ls v→v≠ls→∃ s,s<ls.length∧v.getD s 0<ls.getD s 0
 | [],[],_,h=>(h rfl).elim
 | n::ls,a::v,h,hne=>by
  by_cases e:a=n
  ·subst e
   obtain⟨s,h1,h2⟩:=InB.some h.2 (fun e2=>hne (by rw [e2]))
   exact⟨s+1,by simp;omega,by simpa using h2⟩
  ·exact⟨0,by simp,by have:=h.1;show a<n;omega⟩
 | [],a::v,h,_=>h.elim
 | n::ls,[],h,_=>h.elim
def sumL:List Nat→Nat
 | []=>0
 | n::ls=>n+sumL ls
theorem sumL_le:∀ {ls v:List Nat},InB ls v→sumL v≤sumL ls
 | [],[],_=>Nat.le_refl _
 | n::ls,a::v,h=>by have:=sumL_le h.2;have:=h.1;show a+sumL v≤n+sumL ls;omega
 | [],a::v,h=>h.elim
 | n::ls,[],h=>h.elim
theorem sumL_set:∀ {v:List Nat} {s:Nat},s<v.length→sumL (v.set s (v.getD s 0+1))=sumL v+1
 | a::v,0,_=>by show a+1+sumL v=a+sumL v+1;omega
 | a::v,s+1,h=>by
  have:=sumL_set (v:=v) (s:=s) (by simpa using h)
  show a+sumL (v.set s ((a::v).getD (s+1) 0+1))=a+sumL v+1
  rw [show (a::v).getD (s+1) 0=v.getD s 0 by simp,this];omega
def toM (v:List Nat):List Nat→List Nat
 | []=>v
 | s::m=>toM (v.set s (v.getD s 0+1)) m
theorem toM_len:∀ (m v:List Nat),(toM v m).length=v.length
 | [],v=>rfl
 | s::m,v=>by unfold toM;rw [toM_len m,List.length_set]
theorem set_other {v:List Nat} {s u x:Nat} (h:s≠u):(v.set s x).getD u 0=v.getD u 0:=by
 rw [List.getD_eq_getElem?_getD,List.getElem?_set_ne h, ← List.getD_eq_getElem?_getD]
theorem set_self {v:List Nat} {s x:Nat} (h:s<v.length):(v.set s x).getD s 0=x:=by
 rw [List.getD_eq_getElem?_getD,List.getElem?_set_self h];rfl
theorem toM_get:∀ (m v:List Nat),m.Nodup→(∀ s∈m,s<v.length)→∀ s,(toM v m).getD s 0=v.getD s 0+if s∈m then 1 else 0
 | [],v,_,_,s=>by simp [toM]
 | u::m,v,hd,hl,s=>by
  have hu:=List.nodup_cons.1 hd
  unfold toM
  rw [toM_get m _ hu.2 (fun s hs=>by rw [List.length_set];exact hl s (.tail _ hs)) s]
  by_cases e:u=s
  ·subst e
   rw [set_self (hl u (.head _)),if_neg hu.1,if_pos (.head _)]
  ·rw [set_other e]
   have:(s∈u::m)↔s∈m:=by rw [List.mem_cons];exact⟨fun h=>h.resolve_left (fun h=>e h.symm), .inr⟩
   simp only [this]
theorem toM_num:∀ (ls m v:List Nat),v.length=ls.length→(∀ s∈m,s<v.length)→numL ls (toM v m)=numL ls v+(m.map (stpL ls)).sum
 | ls,[],v,_,_=>by simp [toM]
 | ls,s::m,v,hl,hm=>by
  unfold toM
  rw [toM_num ls m _ (by rw [List.length_set];exact hl) (fun s hs=>by rw [List.length_set];exact hm s (.tail _ hs)),num_set hl (hm s (.head _)),List.map_cons,List.sum_cons]
  omega
theorem toM_sum:∀ (m v:List Nat),(∀ s∈m,s<v.length)→sumL (toM v m)=sumL v+m.length
 | [],v,_=>by simp [toM]
 | s::m,v,hm=>by
  unfold toM
  rw [toM_sum m _ (fun s hs=>by rw [List.length_set];exact hm s (.tail _ hs)),sumL_set (hm s (.head _)),List.length_cons]
  omega
theorem toM_in {ls v m:List Nat} (h:InB ls v) (hd:m.Nodup) (hm:∀ s∈m,s<ls.length∧v.getD s 0<ls.getD s 0):InB ls (toM v m):=by
 have hlen:=h.len
 refine InB.of (by rw [toM_len,hlen]) fun s=>?_
 rw [toM_get m v hd (fun s hs=>by rw [hlen];exact (hm s hs).1) s]
 have h1:=h.get s
 split
 ·rename_i hs;have:=(hm s hs).2;omega
 ·omega
end Go.Proofs.YtblnhdnogjijiaaGreatDoor
namespace Go.Proofs.YtblnhdnogjijiaaGreatDoor

def possM (ls v m:List Nat):Bool:=m.all fun s=>decide (v.getD s 0<ls.getD s 0)
theorem possM_iff {ls v m:List Nat}:possM ls v m=true↔∀ s∈m,v.getD s 0<ls.getD s 0:=by unfold possM;rw [List.all_eq_true];simp
def colMv (v:List Nat):List Nat→List Int→List Int
 | [],c=>c
 | s::m,c=>colMv v m (c.set s (v.getD s 0:Nat))
def colT (v m:List Nat):List Int:=colMv v m (List.replicate v.length (-1))
theorem colMv_len (v:List Nat):∀ (m:List Nat) (c:List Int),(colMv v m c).length=c.length
 | [],c=>rfl
 | s::m,c=>by unfold colMv;rw [colMv_len v m,List.length_set]
theorem colT_len (v m:List Nat):(colT v m).length=v.length:=by unfold colT;rw [colMv_len,List.length_replicate]
theorem colMv_get (v:List Nat):∀ (m:List Nat) (c:List Int) (s:Nat),s<c.length→(colMv v m c).getD s (-1)=if s∈m then ((v.getD s 0:Nat):Int) else c.getD s (-1)
 | [],c,s,_=>by simp [colMv]
 | u::m,c,s,h=>by
  unfold colMv
  rw [colMv_get v m _ s (by rw [List.length_set];exact h)]
  by_cases h1:s∈m
  ·rw [if_pos h1,if_pos (List.mem_cons_of_mem _ h1)]
  ·rw [if_neg h1]
   by_cases e:u=s
   ·subst e
    rw [if_pos List.mem_cons_self,List.getD_eq_getElem?_getD,List.getElem?_set_self h];rfl
   ·rw [if_neg (by rw [List.mem_cons];rintro (h|h);exact e h.symm;exact h1 h),List.getD_eq_getElem?_getD,List.getElem?_set_ne e, ← List.getD_eq_getElem?_getD]
theorem colT_get {v m:List Nat} {s:Nat} (h:s<v.length):(colT v m).getD s (-1)=if s∈m then ((v.getD s 0:Nat):Int) else -1:=by
 unfold colT
 rw [colMv_get v m _ s (by rw [List.length_replicate];exact h)]
 simp [List.getD_eq_getElem?_getD,List.getElem?_replicate,h]
structure MvsOk (n:Nat) (Ms:List (List Nat)):Prop where
 nd:∀ m∈Ms,m.Nodup
 lt:∀ m∈Ms,∀ s∈m,s<n
 ne:∀ m∈Ms,m≠[]
 one:∀ s,s<n→[s]∈Ms
def foldB (p:List Nat→Bool) (f:List Nat→Int):List (List Nat)→Int→Int
 | [],a=>a
 | m::ms,a=>foldB p f ms (cond (p m) (bst a (f m)) a)
theorem foldB_app (p:List Nat→Bool) (f:List Nat→Int):∀ (ms ks:List (List Nat)) (a:Int),foldB p f (ms++ks) a=foldB p f ks (foldB p f ms a)
 | [],ks,a=>rfl
 | m::ms,ks,a=>foldB_app p f ms ks _
theorem foldB_congr {p:List Nat→Bool} {f g:List Nat→Int}:∀ {ms:List (List Nat)} {a:Int},(∀ m∈ms,p m=true→f m=g m)→foldB p f ms a=foldB p g ms a
 | [],a,_=>rfl
 | m::ms,a,h=>by
  show foldB p f ms _=foldB p g ms _
  rw [foldB_congr (a:=cond (p m) (bst a (f m)) a) fun k hk=>h k (.tail _ hk)]
  cases hp:p m with
  | true=>rw [h m (.head _) hp]
  | false=>rfl
theorem foldB_none {p:List Nat→Bool} {f:List Nat→Int}:∀ {ms:List (List Nat)} {a:Int},(∀ m∈ms,p m=false)→foldB p f ms a=a
 | [],a,_=>rfl
 | m::ms,a,h=>by
  show foldB p f ms (cond (p m) _ _)=a
  rw [h m (.head _)]
  exact foldB_none fun k hk=>h k (.tail _ hk)
theorem bst_le {a x:Int}:(0≤a→bst a x≤a)∧bst a x≤max a x:=by unfold bst;split <;> omega
theorem foldB_spec {p:List Nat→Bool} {f:List Nat→Int} (hf:∀ m,0≤f m):∀ (ms:List (List Nat)) (a:Int),-1≤a → -1≤foldB p f ms a∧(0≤a→0≤foldB p f ms a∧foldB p f ms a≤a)∧(∀ m∈ms,p m=true→0≤foldB p f ms a∧foldB p f ms a≤f m)∧(foldB p f ms a=a∨∃ m∈ms,p m=true∧foldB p f ms a=f m)
 | [],a,ha=>⟨ha,fun h=>⟨h,Int.le_refl _⟩,fun m hm=>(by cases hm), .inl rfl⟩
 | m::ms,a,ha=>by
  have hfm:=hf m
  have hb : -1≤bst a (f m)∧0≤bst a (f m)∧bst a (f m)≤f m∧(0≤a→bst a (f m)≤a)∧(bst a (f m)=a∨bst a (f m)=f m):=by unfold bst;split <;> omega
  show -1≤foldB p f ms (cond (p m) (bst a (f m)) a)∧(0≤a→0≤foldB p f ms (cond (p m) (bst a (f m)) a)∧foldB p f ms (cond (p m) (bst a (f m)) a)≤a)∧(∀ k∈m::ms,p k=true→0≤foldB p f ms (cond (p m) (bst a (f m)) a)∧foldB p f ms (cond (p m) (bst a (f m)) a)≤f k)∧(foldB p f ms (cond (p m) (bst a (f m)) a)=a∨∃ k∈m::ms,p k=true∧foldB p f ms (cond (p m) (bst a (f m)) a)=f k)
  cases hp:p m with
  | false =>
   obtain⟨h1,h2,h3,h4⟩:=foldB_spec hf ms a ha
   refine ⟨h1,h2,fun k hk hpk=>?_,h4.imp id fun⟨k,hk,h5⟩=>⟨k, .tail _ hk,h5⟩⟩
   rcases List.mem_cons.1 hk with rfl|hk
   ·rw [hp] at hpk;cases hpk
   ·exact h3 k hk hpk
  | true =>
   obtain⟨h1,h2,h3,h4⟩:=foldB_spec hf ms (bst a (f m)) hb.1
   have h5:=h2 hb.2.1
   refine ⟨h1,fun h=>⟨h5.1,Int.le_trans h5.2 (hb.2.2.2.1 h)⟩,fun k hk hpk=>?_,?_⟩
   ·rcases List.mem_cons.1 hk with rfl|hk
    ·exact⟨h5.1,Int.le_trans h5.2 hb.2.2.1⟩
    ·exact h3 k hk hpk
   ·rcases h4 with h4|⟨k,hk,h6⟩
    ·rcases hb.2.2.2.2 with h7|h7
     ·exact .inl (h4.trans h7)
     ·exact .inr ⟨m, .head _,hp,h4.trans h7⟩
    ·exact .inr ⟨k, .tail _ hk,h6⟩
def rsM (K:List Int→Int) (ls:List Nat) (Ms:List (List Nat)):Nat→List Nat→Int
 | 0,_=>0
 | f+1,v=>max (foldB (possM ls v) (fun m=>K (colT v m)+rsM K ls Ms f (toM v m)) Ms (-1)) 0
def rsV (K:List Int→Int) (ls:List Nat) (Ms:List (List Nat)) (v:List Nat):Int:=rsM K ls Ms (sumL ls - sumL v) v
theorem rsM_nn (K:List Int→Int) (ls:List Nat) (Ms:List (List Nat)):∀ f v,0≤rsM K ls Ms f v
 | 0,_=>Int.le_refl _
 | f+1,v=>by unfold rsM;omega
theorem toM_rem {ls v m:List Nat} {n:Nat} {Ms:List (List Nat)} (hM:MvsOk n Ms) (hn:ls.length=n) (hv:InB ls v) (hm:m∈Ms) (hp:possM ls v m=true):InB ls (toM v m)∧sumL v+m.length=sumL (toM v m)∧0<m.length∧sumL (toM v m)≤sumL ls:=by
 have h1:=hM.lt m hm
 have h2:=possM_iff.1 hp
 have hi:=toM_in hv (hM.nd m hm) fun s hs=>⟨by rw [hn];exact h1 s hs,h2 s hs⟩
 exact⟨hi,(toM_sum m v fun s hs=>by rw [hv.len,hn];exact h1 s hs).symm,List.length_pos_iff.2 (hM.ne m hm),sumL_le hi⟩
theorem rsM_fuel (K:List Int→Int) {ls:List Nat} {n:Nat} {Ms:List (List Nat)} (hM:MvsOk n Ms) (hn:ls.length=n):∀ f v,InB ls v→sumL ls - sumL v≤f→∀ g,sumL ls - sumL v≤g→rsM K ls Ms f v=rsM K ls Ms g v:=by
 have none0:∀ v,InB ls v→sumL ls - sumL v=0→∀ m∈Ms,possM ls v m=false:=fun v hv h0 m hm=>by
  cases hp:possM ls v m with
  | false=>rfl
  | true =>
   obtain⟨h1,h2,h3,h4⟩:=toM_rem hM hn hv hm hp
   omega
 intro f
 induction f with
 | zero =>
  intro v hv h0 g hg
  cases g with
  | zero=>rfl
  | succ g =>
   show 0=max (foldB _ _ Ms (-1)) 0
   rw [foldB_none (none0 v hv (by omega))];rfl
 | succ f ih =>
  intro v hv hf g hg
  cases g with
  | zero =>
   show max (foldB _ _ Ms (-1)) 0=0
   rw [foldB_none (none0 v hv (by omega))];rfl
  | succ g =>
   show max (foldB _ _ Ms (-1)) 0=max (foldB _ _ Ms (-1)) 0
   rw [foldB_congr fun m hm hp=>?_]
   obtain⟨h1,h2,h3,h4⟩:=toM_rem hM hn hv hm hp
   rw [ih (toM v m) h1 (by omega) g (by omega)]
theorem rsV_nn (K:List Int→Int) (ls:List Nat) (Ms:List (List Nat)) (v:List Nat):0≤rsV K ls Ms v:=rsM_nn _ _ _ _ _
theorem rsV_end (K:List Int→Int) (ls:List Nat) (Ms:List (List Nat)):rsV K ls Ms ls=0:=by unfold rsV;rw [Nat.sub_self];rfl
theorem eq_of_sum:∀ {ls v:List Nat},InB ls v→sumL ls≤sumL v→v=ls
 | [],[],_,_=>rfl
 | n::ls,a::v,h,hs=>by
  have h1:=sumL_le h.2
  have h2:=h.1
  have h3:n+sumL ls≤a+sumL v:=hs
  rw [eq_of_sum h.2 (by omega),show a=n by omega]
 | [],a::v,h,_=>h.elim
 | n::ls,[],h,_=>h.elim
def mcV (K:List Int→Int) (ls:List Nat) (Ms:List (List Nat)) (v m:List Nat):Int:=K (colT v m)+rsV K ls Ms (toM v m)
theorem rsV_step {K:List Int→Int} (hK:∀ x,0≤K x) {ls:List Nat} {n:Nat} {Ms:List (List Nat)} (hM:MvsOk n Ms) (hn:ls.length=n) {v:List Nat} (hv:InB ls v) (hne:v≠ls) :
  rsV K ls Ms v=foldB (possM ls v) (mcV K ls Ms v) Ms (-1):=by
 have hs:sumL v<sumL ls:=Nat.lt_of_not_le fun h=>hne (eq_of_sum hv h)
 obtain⟨f,hf⟩:∃ f,sumL ls - sumL v=f+1:=⟨sumL ls - sumL v - 1,by omega⟩
 unfold rsV
 rw [hf]
 show max (foldB _ _ Ms (-1)) 0=_
 rw [foldB_congr (g:=mcV K ls Ms v) fun m hm hp=>?_]
 ·obtain⟨s,hs1,hs2⟩:=hv.some hne
  have h0:∀ m,0≤mcV K ls Ms v m:=fun m=>by have:=hK (colT v m);have:=rsV_nn K ls Ms (toM v m);unfold mcV;omega
  have:=((foldB_spec (p:=possM ls v) h0 Ms (-1) (by omega)).2.2.1 [s] (hM.one s (by omega)) (possM_iff.2 fun u hu=>by rw [List.mem_singleton] at hu;subst hu;exact hs2)).1
  omega
 ·obtain⟨h1,h2,h3,h4⟩:=toM_rem hM hn hv hm hp
  show K (colT v m)+_=K (colT v m)+rsM K ls Ms (sumL ls - sumL (toM v m)) (toM v m)
  rw [rsM_fuel K hM hn f (toM v m) h1 (by omega) (sumL ls - sumL (toM v m)) (by omega)]
theorem mcV_nn {K:List Int→Int} (hK:∀ x,0≤K x) (ls:List Nat) (Ms:List (List Nat)) (v m:List Nat):0≤mcV K ls Ms v m:=by
 have:=hK (colT v m);have:=rsV_nn K ls Ms (toM v m);unfold mcV;omega
def fitM (K:List Int→Int) (ls:List Nat) (Ms:List (List Nat)) (v m:List Nat):Bool:=possM ls v m && decide (mcV K ls Ms v m=rsV K ls Ms v)
def alM (K:List Int→Int) (ls:List Nat) (Ms:List (List Nat)):Nat→List Nat→List (List Int)
 | 0,_=>[]
 | f+1,v=>match Ms.find? (fitM K ls Ms v) with
  | some m=>colT v m::alM K ls Ms f (toM v m)
  | none=>[]
def alV19 (K:List Int→Int) (ls:List Nat) (Ms:List (List Nat)) (v:List Nat):List (List Int):=alM K ls Ms (sumL ls - sumL v) v
theorem fit_some {K:List Int→Int} (hK:∀ x,0≤K x) {ls:List Nat} {n:Nat} {Ms:List (List Nat)} (hM:MvsOk n Ms) (hn:ls.length=n) {v:List Nat} (hv:InB ls v) (hne:v≠ls) :
  ∃ m,Ms.find? (fitM K ls Ms v)=some m∧m∈Ms∧possM ls v m=true∧mcV K ls Ms v m=rsV K ls Ms v:=by
 have hst:=rsV_step hK hM hn hv hne
 obtain⟨s,hs1,hs2⟩:=hv.some hne
 have h0:=mcV_nn hK ls Ms v
 obtain⟨-,-,h3,h4⟩:=foldB_spec (p:=possM ls v) h0 Ms (-1) (by omega)
 have h5:=(h3 [s] (hM.one s (by omega)) (possM_iff.2 fun u hu=>by rw [List.mem_singleton] at hu;subst hu;exact hs2)).1
 rcases h4 with h4|⟨m,hm,hp,he⟩
 ·omega
 ·have hfit:fitM K ls Ms v m=true:=by unfold fitM;rw [hp,hst,he];simp
  cases hf:Ms.find? (fitM K ls Ms v) with
  | none=>exact absurd hfit (by have:=List.find?_eq_none.1 hf m hm;simpa using this)
  | some k =>
   have h6:=List.find?_some hf
   unfold fitM at h6
   rw [Bool.and_eq_true,decide_eq_true_eq] at h6
   exact⟨k,rfl,List.mem_of_find?_eq_some hf,h6.1,h6.2⟩
theorem alM_fuel (K:List Int→Int) {ls:List Nat} {n:Nat} {Ms:List (List Nat)} (hM:MvsOk n Ms) (hn:ls.length=n):∀ f v,InB ls v→sumL ls - sumL v≤f→∀ g,sumL ls - sumL v≤g→alM K ls Ms f v=alM K ls Ms g v:=by
 have none0:∀ v,InB ls v→sumL ls - sumL v=0→∀ m∈Ms,fitM K ls Ms v m=false:=fun v hv h0 m hm=>by
  cases hp:fitM K ls Ms v m with
  | false=>rfl
  | true =>
   unfold fitM at hp
   rw [Bool.and_eq_true] at hp
   obtain⟨h1,h2,h3,h4⟩:=toM_rem hM hn hv hm hp.1
   omega
 have nf:∀ v,InB ls v→sumL ls - sumL v=0→Ms.find? (fitM K ls Ms v)=none:=fun v hv h0=>List.find?_eq_none.2 fun m hm=>by rw [none0 v hv h0 m hm];simp
 intro f
 induction f with
 | zero =>
  intro v hv h0 g hg
  cases g with
  | zero=>rfl
  | succ g=>unfold alM;rw [nf v hv (by omega)]
 | succ f ih =>
  intro v hv hf g hg
  cases g with
  | zero=>unfold alM;rw [nf v hv (by omega)]
  | succ g =>
   unfold alM
   cases hF:Ms.find? (fitM K ls Ms v) with
   | none=>rfl
   | some m =>
    have h6:=List.find?_some hF
    unfold fitM at h6
    rw [Bool.and_eq_true] at h6
    obtain⟨h1,h2,h3,h4⟩:=toM_rem hM hn hv (List.mem_of_find?_eq_some hF) h6.1
    simp only
    rw [ih (toM v m) h1 (by omega) g (by omega)]
theorem alV_step {K:List Int→Int} {ls:List Nat} {n:Nat} {Ms:List (List Nat)} (hM:MvsOk n Ms) (hn:ls.length=n) {v m:List Nat} (hv:InB ls v) (hf:Ms.find? (fitM K ls Ms v)=some m):alV19 K ls Ms v=colT v m::alV19 K ls Ms (toM v m):=by
 have h6:=List.find?_some hf
 unfold fitM at h6
 rw [Bool.and_eq_true] at h6
 obtain⟨h1,h2,h3,h4⟩:=toM_rem hM hn hv (List.mem_of_find?_eq_some hf) h6.1
 obtain⟨f,hf2⟩:∃ f,sumL ls - sumL v=f+1:=⟨sumL ls - sumL v - 1,by omega⟩
 unfold alV19
 rw [hf2,alM,hf]
 simp only
 rw [alM_fuel K hM hn f (toM v m) h1 (by omega) (sumL ls - sumL (toM v m)) (by omega)]
theorem alV_end (K:List Int→Int) (ls:List Nat) (Ms:List (List Nat)):alV19 K ls Ms ls=[]:=by unfold alV19;rw [Nat.sub_self];rfl
def RestOk (ls v:List Nat) (cols:List (List Int)):Prop:=(∀ x∈cols,x.length=ls.length)∧(∀ x∈cols,∃ z∈x,z ≠ -1)∧∀ s n,ls[s]?=some n→srcC cols s=(upto n).drop (v.getD s 0)
theorem RestOk.cons {ls v m:List Nat} {cols:List (List Int)} (hv:InB ls v) (hm:m≠[]) (hd:m.Nodup) (hlt:∀ s∈m,s<ls.length) (hp:possM ls v m=true) (h:RestOk ls (toM v m) cols):RestOk ls v (colT v m::cols):=by
 have hlen:=hv.len
 obtain⟨h1,h2,h3⟩:=h
 refine ⟨fun x hx=>?_,fun x hx=>?_,fun s n hs=>?_⟩
 ·rcases List.mem_cons.1 hx with rfl|hx
  ·rw [colT_len,hlen]
  ·exact h1 x hx
 ·rcases List.mem_cons.1 hx with rfl|hx
  ·obtain⟨s,ms,rfl⟩:=List.exists_cons_of_ne_nil hm
   have hs:s<v.length:=by rw [hlen];exact hlt s (.head _)
   have hg:=colT_get (m:=s::ms) hs
   rw [if_pos List.mem_cons_self] at hg
   refine ⟨_,?_,show ((v.getD s 0:Nat):Int) ≠ -1 by omega⟩
   rw [← hg,List.getD_eq_getElem?_getD,List.getElem?_eq_getElem (by rw [colT_len];exact hs)]
   exact List.getElem_mem _
  ·exact h2 x hx
 ·have hsl:s<ls.length:=(List.getElem?_eq_some_iff.1 hs).1
  rw [srcC_cons,h3 s n hs,colT_get (by rw [hlen];exact hsl),toM_get m v hd (fun u hu=>by rw [hlen];exact hlt u hu)]
  by_cases hsm:s∈m
  ·rw [if_pos hsm,if_pos hsm,if_neg (by omega)]
   have:=possM_iff.1 hp s hsm
   rw [List.getD_eq_getElem?_getD (l:=ls),hs] at this
   rw [upto_drop (show v.getD s 0<n from this)];rfl
  ·rw [if_neg hsm,if_neg hsm,if_pos rfl];rfl
theorem RestOk.nil (ls:List Nat):RestOk ls ls []:=⟨fun x h=>(by cases h),fun x h=>(by cases h),fun s n hs=>by
 rw [List.getD_eq_getElem?_getD,hs]
 show []=(upto n).drop n
 rw [List.drop_of_length_le (by rw [upto_len];exact Nat.le_refl _)]⟩
theorem alV_rest {K:List Int→Int} (hK:∀ x,0≤K x) {ls:List Nat} {n:Nat} {Ms:List (List Nat)} (hM:MvsOk n Ms) (hn:ls.length=n):∀ f v,InB ls v→sumL ls - sumL v=f→RestOk ls v (alV19 K ls Ms v)∧((alV19 K ls Ms v).map K).sum=rsV K ls Ms v∧(alV19 K ls Ms v).length≤f:=by
 intro f
 induction f using Nat.strongRecOn with
 | _ f ih =>
  intro v hv hf
  by_cases he:v=ls
  ·subst he
   rw [alV_end,rsV_end]
   exact⟨RestOk.nil _,rfl,Nat.zero_le _⟩
  ·obtain⟨m,h1,hm,hp,hc⟩:=fit_some hK hM hn hv he
   obtain⟨g1,g2,g3,g4⟩:=toM_rem hM hn hv hm hp
   obtain⟨i1,i2,i3⟩:=ih (sumL ls - sumL (toM v m)) (by omega) (toM v m) g1 rfl
   rw [alV_step hM hn hv h1]
   refine ⟨RestOk.cons hv (hM.ne m hm) (hM.nd m hm) (fun s hs=>by rw [hn];exact hM.lt m hm s hs) hp i1,?_,?_⟩
   ·rw [List.map_cons,List.sum_cons,i2];exact hc
   ·rw [List.length_cons];omega
theorem RestOk.colsOk {ls:List Nat} {cols:List (List Int)}:RestOk ls (List.replicate ls.length 0) cols↔ColsOk ls cols:=by
 have e:∀ s,(List.replicate ls.length 0).getD s 0=0:=fun s=>by
  rw [List.getD_eq_getElem?_getD,List.getElem?_replicate];split <;> rfl
 constructor
 ·rintro⟨h1,h2,h3⟩
  exact⟨h1,h2,fun s n hs=>by rw [h3 s n hs,e,List.drop_zero]⟩
 ·rintro⟨h1,h2,h3⟩
  exact⟨h1,h2,fun s n hs=>by rw [h3 s n hs,e,List.drop_zero]⟩
theorem InB.zero:∀ ls:List Nat,InB ls (List.replicate ls.length 0)
 | []=>trivial
 | n::ls=>⟨Nat.zero_le _,InB.zero ls⟩
end Go.Proofs.YtblnhdnogjijiaaGreatDoor
namespace Go.Proofs.YtblnhdnogjijiaaGreatDoor

def mvOfC (x:List Int):List Nat:=(List.range x.length).filter fun s=>decide (x.getD s (-1) ≠ -1)
theorem mvOfC_mem {x:List Int} {s:Nat}:s∈mvOfC x↔s<x.length∧x.getD s (-1) ≠ -1:=by
 unfold mvOfC;rw [List.mem_filter,List.mem_range];simp
theorem mvOfC_asc (x:List Int):(mvOfC x).Pairwise (· < ·):=(List.pairwise_lt_range).filter _
theorem asc_nodup {m:List Nat} (h:m.Pairwise (· < ·)):m.Nodup:=h.imp fun h=>Nat.ne_of_lt h
def AllM (n:Nat) (Ms:List (List Nat)):Prop:=∀ m:List Nat,m≠[]→m.Pairwise (· < ·)→(∀ s∈m,s<n)→m∈Ms
theorem ext_getD {a b:List Int} (hl:a.length=b.length) (h:∀ s,s<a.length→a.getD s (-1)=b.getD s (-1)):a=b:=by
 refine List.ext_getElem? fun s=>?_
 by_cases hs:s<a.length
 ·have:=h s hs
  rw [List.getD_eq_getElem?_getD,List.getD_eq_getElem?_getD,List.getElem?_eq_getElem hs,List.getElem?_eq_getElem (hl ▸ hs)] at this
  rw [List.getElem?_eq_getElem hs,List.getElem?_eq_getElem (hl ▸ hs)]
  exact congrArg some this
 ·rw [List.getElem?_eq_none (by omega),List.getElem?_eq_none (by omega)]
theorem drop_cons {n p:Nat} {z:Int} {r:List Int} (h:z::r=(upto n).drop p):p<n∧z=(p:Int)∧r=(upto n).drop (p+1):=by
 by_cases hp:p<n
 ·rw [upto_drop hp] at h
  cases h
  exact⟨hp,rfl,rfl⟩
 ·rw [List.drop_of_length_le (by rw [upto_len];omega)] at h
  cases h
theorem RestOk.step {ls v:List Nat} {x:List Int} {cols:List (List Int)} (hv:InB ls v) (h:RestOk ls v (x::cols)) :
  x=colT v (mvOfC x)∧possM ls v (mvOfC x)=true∧mvOfC x≠[]∧(∀ s∈mvOfC x,s<ls.length)∧RestOk ls (toM v (mvOfC x)) cols:=by
 have hlen:=hv.len
 obtain⟨h1,h2,h3⟩:=h
 have hx:=h1 x (.head _)
 have hmem:∀ s,s∈mvOfC x↔s<x.length∧x.getD s (-1) ≠ -1:=fun s=>mvOfC_mem
 have hent:∀ s,s<ls.length→x.getD s (-1) ≠ -1→v.getD s 0<ls.getD s 0∧x.getD s (-1)=((v.getD s 0:Nat):Int)∧srcC cols s=(upto (ls.getD s 0)).drop (v.getD s 0+1):=fun s hs hne=>by
  have h4:=h3 s _ (List.getElem?_eq_getElem hs)
  rw [srcC_cons,if_neg hne] at h4
  have e:ls.getD s 0=ls[s]:=by rw [List.getD_eq_getElem?_getD,List.getElem?_eq_getElem hs];rfl
  rw [e]
  exact drop_cons h4
 have hlt:∀ s∈mvOfC x,s<ls.length:=fun s hs=>by rw [← hx];exact (hmem s).1 hs |>.1
 have hp:possM ls v (mvOfC x)=true:=possM_iff.2 fun s hs=>(hent s (hlt s hs) ((hmem s).1 hs).2).1
 have hxe:x=colT v (mvOfC x):=ext_getD (by rw [colT_len,hlen,hx]) fun s hs=>by
  rw [colT_get (by omega)]
  by_cases hne:x.getD s (-1) = -1
  ·rw [if_neg (fun hm=>((hmem s).1 hm).2 hne),hne]
  ·rw [if_pos ((hmem s).2 ⟨hs,hne⟩)]
   exact (hent s (by omega) hne).2.1
 refine ⟨hxe,hp,?_,hlt,fun y hy=>h1 y (.tail _ hy),fun y hy=>h2 y (.tail _ hy),fun s n hs=>?_⟩
 ·obtain⟨z,hz,hz2⟩:=h2 x (.head _)
  obtain⟨s,hs,rfl⟩:=List.getElem_of_mem hz
  have:s∈mvOfC x:=(hmem s).2 ⟨hs,by rw [List.getD_eq_getElem?_getD,List.getElem?_eq_getElem hs];exact hz2⟩
  exact List.ne_nil_of_mem this
 ·have hsl:s<ls.length:=(List.getElem?_eq_some_iff.1 hs).1
  have e:ls.getD s 0=n:=by rw [List.getD_eq_getElem?_getD,hs];rfl
  rw [toM_get _ v (asc_nodup (mvOfC_asc x)) (fun u hu=>by rw [hlen];exact hlt u hu)]
  have h4:=h3 s n hs
  rw [srcC_cons] at h4
  by_cases hne:x.getD s (-1) = -1
  ·rw [if_pos hne] at h4
   rw [if_neg (fun hm=>((hmem s).1 hm).2 hne)]
   exact h4
  ·rw [if_pos ((hmem s).2 ⟨by omega,hne⟩)]
   have:=(hent s hsl hne).2.2
   rw [e] at this
   exact this
theorem RestOk.stop {ls:List Nat} {cols:List (List Int)} (h:RestOk ls ls cols):cols=[]:=by
 cases cols with
 | nil=>rfl
 | cons x cols =>
  obtain⟨-,h2,h3,h4,-⟩:=h.step (InB.self ls)
  obtain⟨s,m,e⟩:=List.exists_cons_of_ne_nil h3
  have:=possM_iff.1 h2 s (by rw [e];exact .head _)
  omega
theorem asc_ext {a b:List Nat} (ha:a.Pairwise (· < ·)) (hb:b.Pairwise (· < ·)) (h:∀ s,s∈a↔s∈b):a=b :=
 List.Perm.eq_of_pairwise (le:=(· < ·)) (fun x y _ _ h1 h2=>absurd h1 (Nat.lt_asymm h2)) ha hb ((List.perm_ext_iff_of_nodup (asc_nodup ha) (asc_nodup hb)).2 h)
theorem rsV_least {K:List Int→Int} (hK:∀ x,0≤K x) {ls:List Nat} {n:Nat} {Ms:List (List Nat)} (hM:MvsOk n Ms) (hA:AllM n Ms) (hn:ls.length=n):∀ (cols:List (List Int)) (v:List Nat),InB ls v→RestOk ls v cols→rsV K ls Ms v≤(cols.map K).sum
 | [],v,hv,h=>by
  by_cases e:v=ls
  ·subst e;rw [rsV_end];exact Int.le_refl _
  ·obtain⟨s,h1,h2⟩:=hv.some e
   have:=h.2.2 s _ (List.getElem?_eq_getElem h1)
   have e2:ls.getD s 0=ls[s]:=by rw [List.getD_eq_getElem?_getD,List.getElem?_eq_getElem h1];rfl
   rw [e2] at h2
   rw [upto_drop h2] at this
   cases this
 | x::cols,v,hv,h=>by
  by_cases e:v=ls
  ·subst e;exact absurd h.stop (by simp)
  ·obtain⟨h1,h2,h3,h4,h5⟩:=h.step hv
   have hm:=hA _ h3 (mvOfC_asc x) (fun s hs=>by rw [← hn];exact h4 s hs)
   obtain⟨g1,g2,g3,g4⟩:=toM_rem hM hn hv hm h2
   have ih:=rsV_least hK hM hA hn cols _ g1 h5
   have hs:=((foldB_spec (p:=possM ls v) (mcV_nn hK ls Ms v) Ms (-1) (by omega)).2.2.1 _ hm h2).2
   rw [← rsV_step hK hM hn hv e] at hs
   rw [List.map_cons,List.sum_cons]
   unfold mcV at hs
   rw [← h1] at hs
   omega
def mvL:Nat→List (List Nat)
 | 1=>[[0]]
 | 2=>[[0,1],[0],[1]]
 | 3=>[[0,1,2],[0,1],[0,2],[1,2],[0],[1],[2]]
 | 4=>[[0,1,2,3],[0,1,2],[0,1,3],[0,2,3],[1,2,3],[0,1],[0,2],[0,3],[1,2],[1,3],[2,3],[0],[1],[2],[3]]
 | _=>[]
theorem mvL_ok {n:Nat} (h1:1≤n) (h4:n≤4):MvsOk n (mvL n):=by
 obtain rfl|rfl|rfl|rfl:n=1∨n=2∨n=3∨n=4:=by omega
 all_goals exact⟨by decide,by decide,by decide,by decide⟩
theorem mvL_all {n:Nat} (h1:1≤n) (h4:n≤4):AllM n (mvL n):=by
 intro m hne hasc hlt
 have hd:=asc_nodup hasc
 have e:m=(List.range n).filter fun s=>decide (s∈m):=asc_ext hasc ((List.pairwise_lt_range).filter _) fun s=>by
  rw [List.mem_filter,List.mem_range];simp only [decide_eq_true_eq];exact⟨fun h=>⟨hlt s h,h⟩,fun h=>h.2⟩
 have key:∀ p:Nat→Bool,(List.range n).filter p≠[]→(List.range n).filter p∈mvL n:=by
  intro p
  obtain rfl|rfl|rfl|rfl:n=1∨n=2∨n=3∨n=4:=by omega
  ·show List.filter p [0]≠[]→List.filter p [0]∈mvL 1
   cases h0:p 0 <;> simp [List.filter,h0,mvL]
  ·show List.filter p [0,1]≠[]→List.filter p [0,1]∈mvL 2
   cases h0:p 0 <;> cases h1:p 1 <;> simp [List.filter,h0,h1,mvL]
  ·show List.filter p [0,1,2]≠[]→List.filter p [0,1,2]∈mvL 3
   cases h0:p 0 <;> cases h1:p 1 <;> cases h2:p 2 <;> simp [List.filter,h0,h1,h2,mvL]
  ·show List.filter p [0,1,2,3]≠[]→List.filter p [0,1,2,3]∈mvL 4
   cases h0:p 0 <;> cases h1:p 1 <;> cases h2:p 2 <;> cases h3:p 3 <;> simp [List.filter,h0,h1,h2,h3,mvL]
 rw [e]
 exact key _ (by rw [← e];exact hne)
end Go.Proofs.YtblnhdnogjijiaaGreatDoor
namespace Go.Proofs.YtblnhdnogjijiaaGreatDoor

def cmpL:List Nat→List Nat→Int
 | [],[]=>0
 | [],_::_ => -1
 | _::_,[]=>1
 | a::p,b::q=>if a<b then -1 else if b<a then 1 else cmpL p q
theorem cmpL_self:∀ a:List Nat,cmpL a a=0
 | []=>rfl
 | a::p=>by unfold cmpL;rw [if_neg (Nat.lt_irrefl a),if_neg (Nat.lt_irrefl a),cmpL_self p]
theorem cmpL_zero:∀ {a b:List Nat},cmpL a b=0→a=b
 | [],[],_=>rfl
 | [],_::_,h=>by cases h
 | _::_,[],h=>by cases h
 | a::p,b::q,h=>by
  unfold cmpL at h
  split at h
  ·cases h
  ·split at h
   ·cases h
   ·rw [show a=b by omega,cmpL_zero h]
theorem cmpL_neg:∀ a b:List Nat,cmpL a b = -cmpL b a
 | [],[]=>rfl
 | [],_::_=>rfl
 | _::_,[]=>rfl
 | a::p,b::q=>by
  have ih:=cmpL_neg p q
  unfold cmpL
  by_cases h1:a<b
  ·rw [if_pos h1,if_neg (by omega),if_pos h1]
  ·by_cases h2:b<a
   ·rw [if_neg h1,if_pos h2,if_pos h2];rfl
   ·rw [if_neg h1,if_neg h2,if_neg h2,if_neg h1,ih]
theorem cmpL_trans:∀ {a b c:List Nat},cmpL a b<0→cmpL b c<0→cmpL a c<0
 | [],[],_,h,_=>by simp [cmpL] at h
 | [],_::_,[],_,h=>by simp [cmpL] at h
 | [],_::_,_::_,_,_=>by simp [cmpL]
 | _::_,[],_,h,_=>by simp [cmpL] at h
 | _::_,_::_,[],_,h=>by simp [cmpL] at h
 | a::p,b::q,c::r,h1,h2=>by
  have ih:=@cmpL_trans p q r
  unfold cmpL at h1 h2 ⊢
  by_cases ab:a<b
  ·by_cases bc:b<c
   ·rw [if_pos (by omega)];omega
   ·rw [if_neg bc] at h2
    by_cases cb:c<b
    ·rw [if_pos cb] at h2;omega
    ·rw [if_pos (by omega)];omega
  ·rw [if_neg ab] at h1
   by_cases ba:b<a
   ·rw [if_pos ba] at h1;omega
   ·rw [if_neg ba] at h1
    by_cases bc:b<c
    ·rw [if_pos (by omega)];omega
    ·rw [if_neg bc] at h2
     by_cases cb:c<b
     ·rw [if_pos cb] at h2;omega
     ·rw [if_neg cb] at h2
      rw [if_neg (by omega),if_neg (by omega)]
      exact ih h1 h2
def cmpM (a b:List Nat):Int:=if a.length≠b.length then (b.length:Int) - a.length else cmpL a b
theorem cmpM_self (a:List Nat):cmpM a a=0:=by unfold cmpM;rw [if_neg (by simp),cmpL_self]
theorem cmpM_neg (a b:List Nat):cmpM a b = -cmpM b a:=by
 unfold cmpM
 by_cases h:a.length=b.length
 ·rw [if_neg (by simpa using h),if_neg (by simpa using h.symm),cmpL_neg]
 ·rw [if_pos h,if_pos (fun e=>h e.symm)];omega
theorem cmpM_zero {a b:List Nat} (h:cmpM a b=0):a=b:=by
 unfold cmpM at h
 by_cases e:a.length=b.length
 ·rw [if_neg (by simpa using e)] at h;exact cmpL_zero h
 ·rw [if_pos e] at h;omega
theorem cmpM_trans {a b c:List Nat} (h1:cmpM a b<0) (h2:cmpM b c<0):cmpM a c<0:=by
 unfold cmpM at h1 h2 ⊢
 by_cases ab:a.length=b.length
 ·rw [if_neg (by simpa using ab)] at h1
  by_cases bc:b.length=c.length
  ·rw [if_neg (by simpa using bc)] at h2
   rw [if_neg (by simp;omega)]
   exact cmpL_trans h1 h2
  ·rw [if_pos bc] at h2
   rw [if_pos (by omega)];omega
 ·rw [if_pos ab] at h1
  by_cases bc:b.length=c.length
  ·rw [if_pos (by omega)];omega
  ·rw [if_pos bc] at h2
   rw [if_pos (by omega)];omega
def bitsL (n q:Nat):List Nat:=(List.range n).filter fun s=>q.testBit s
def allL (n:Nat):List (List Nat):=((List.range (2 ^ n)).map (bitsL n)).filter fun m => !m.isEmpty
def ascM:List (List Nat)→Bool
 | []=>true
 | [_]=>true
 | a::b::l=>decide (cmpM a b<0) && ascM (b::l)
theorem mvL_cmp:∀ n,ascM (mvL n)=true
 | 0=>rfl
 | 1=>rfl
 | 2=>by decide
 | 3=>by decide
 | 4=>by decide
 | _+5=>rfl
theorem ascM_pw:∀ {l:List (List Nat)},ascM l=true→l.Pairwise fun a b=>cmpM a b<0
 | [],_ => .nil
 | [a],_ => .cons (fun b h=>by cases h) .nil
 | a::b::l,h=>by
  unfold ascM at h
  rw [Bool.and_eq_true,decide_eq_true_eq] at h
  have ih:=ascM_pw h.2
  refine .cons (fun c hc=>?_) ih
  rcases List.mem_cons.1 hc with rfl|hc
  ·exact h.1
  ·exact cmpM_trans h.1 ((List.pairwise_cons.1 ih).1 c hc)
theorem allL_perm {n:Nat} (h1:1≤n) (h4:n≤4):(allL n).Perm (mvL n):=by
 obtain rfl|rfl|rfl|rfl:n=1∨n=2∨n=3∨n=4:=by omega
 all_goals decide
theorem mvL_sorted {n:Nat} (h1:1≤n) (h4:n≤4) {l:List (List Nat)} (hp:l.Perm (allL n)) (hs:l.Pairwise fun a b=>¬ cmpM b a<0):l=mvL n:=by
 refine List.Perm.eq_of_pairwise (le:=fun a b=>¬ cmpM b a<0) (fun a b _ _ g1 g2=>?_) hs ((ascM_pw (mvL_cmp n)).imp fun {a b} h=>?_) (hp.trans (allL_perm h1 h4))
 ·have:=cmpM_neg a b
  exact cmpM_zero (by omega)
 ·have:=cmpM_neg a b
  omega
end Go.Proofs.YtblnhdnogjijiaaGreatDoor
namespace Go.Proofs.YtblnhdnogjijiaaGreatDoor
open Go.RowKit Go.Shelf Go.Proofs

def lstV (c:Costs) (l:List TS):Int:=rsV (colZ c l) (lens l) (mvL l.length) (List.replicate l.length 0)
def alnW (c:Costs) (l:List TS):List (List Int):=alV19 (colZ c l) (lens l) (mvL l.length) (List.replicate l.length 0)
theorem colZ_nn {c:Costs} (hc:costE c=0) {l:List TS} (h4:l.length≤4) (x:List Int):0≤colZ c l x:=(colZ_bd hc (by omega) x).1
theorem alnW_ok {c:Costs} (hc:costE c=0) {l:List TS} (h1:1≤l.length) (h4:l.length≤4):ColsOk (lens l) (alnW c l)∧totZ c l (alnW c l)=lstV c l:=by
 have hn:(lens l).length=l.length:=lens_len l
 have hz:=InB.zero (lens l)
 obtain⟨i1,i2,-⟩:=alV_rest (K:=colZ c l) (colZ_nn hc h4) (mvL_ok h1 h4) hn _ _ hz rfl
 rw [hn] at i1 i2
 refine ⟨RestOk.colsOk.1 (by rw [hn];exact i1),i2⟩
theorem lstV_le {c:Costs} (hc:costE c=0) {l:List TS} (h1:1≤l.length) (h4:l.length≤4) {cols:List (List Int)} (h:ColsOk (lens l) cols):lstV c l≤totZ c l cols:=by
 have hn:(lens l).length=l.length:=lens_len l
 have h2:=RestOk.colsOk.2 h
 have:=rsV_least (K:=colZ c l) (colZ_nn hc h4) (mvL_ok h1 h4) (mvL_all h1 h4) hn cols _ (InB.zero _) h2
 rw [hn] at this
 exact this
theorem ColsOk.lt {ls:List Nat} {cols:List (List Int)} (h:ColsOk ls cols) {x:List Int} (hx:x∈cols) {s:Nat} (hs:s<ls.length):x.getD s (-1)<(ls.getD s 0:Int):=by
 have hl:=h.len x hx
 have:=(h.entry hx (s:=s) (n:=ls[s]) (z:=x[s]'(by omega)) (List.getElem?_eq_getElem hs) (List.getElem?_eq_getElem (by omega))).2
 rw [List.getD_eq_getElem?_getD,List.getElem?_eq_getElem (by omega),List.getD_eq_getElem?_getD (l:=ls),List.getElem?_eq_getElem hs]
 exact this
structure BackS (l l':List TS):Prop where
 len:l'.length=l.length
 toks:∀ s,s<l.length→(tsA l' s).l=(tsA l s).l.reverse
 n:lens l'=lens l
 ok:∀ s,s<l.length→(lens l).getD s 0=(tsA l s).l.length
theorem BackS.swap {l l':List TS} (h:BackS l l'):BackS l' l:=by
 refine ⟨h.len.symm,fun s hs=>?_,h.n.symm,fun s hs=>?_⟩
 ·rw [h.toks s (by rw [← h.len];exact hs),List.reverse_reverse]
 ·rw [h.n,h.toks s (by rw [← h.len];exact hs),List.length_reverse,h.ok s (by rw [← h.len];exact hs)]
end Go.Proofs.YtblnhdnogjijiaaGreatDoor
namespace Go.Proofs.YtblnhdnogjijiaaGreatDoor
open Go.RowKit Go.Shelf
set_option maxRecDepth 100000
set_option maxHeartbeats 1000000

def YieldsO (P:Program) (w0:World) (l:Nat) (GP:Nat→List HA→Prop) (X:List HA→Prop) (Q:Nat→List Value→List HA→Prop) (n:Nat):Prop :=
 ∀ (j:Nat) (x:List Value) (B Hj K:List HA) (w:World),j<n→Q j x B→GP j Hj→Cls w0 w (Hj++(B++K)) →
  ∃ f tmps assign body,(Instr.yield l x.toArray).run P w = .ok (.round l f tmps assign body) w∧RoundIn (Fr none) 0 P l f tmps assign body w fun e w' =>
   (e = .returned (.bool true)∧∃ H',GP (j+1) H'∧Cls w0 w' (H'++K))∨(e = .returned (.bool false)∧∃ Y,X Y∧Cls w0 w' (Y++K))
def IterO (P:Program) (w0:World) (f:FuncId) (fs cs:List Value) (cap:List HA) (Q:Nat→List Value→List HA→Prop) (n:Nat):Prop :=
 Enters P f∧∀ l GP X w Hj,YieldsO P w0 l GP X Q n→GP 0 Hj→Cls w0 w (cap++Hj) →
  CallsIn (Fr none) 0 P f (fs++(yv l::cs)).toArray w (RIt w0 cap GP X n)
theorem iterO_of (S : Sig) {w0 : World} {f : FuncId} {fn : Func} {c : Code} {fs cs : List Value} {cap : List HA} {Q : Nat → List Value → List HA → Prop} {n : Nat} (hf : S.P.funcs[f]? = some fn) (hn : (fn.name == "runtime.NumGoroutine") = false) (hb : fn.body = some c)
  (hlen:Nat.ble (fs.length+(1+cs.length)) fn.ntmps=true)
  (h:∀ l GP X Hj,YieldsO S.P w0 l GP X Q n→GP 0 Hj→T (IC S fn.ntmps w0 fn (RIt w0 cap GP X n)) (nf 60 [.code c]) (zipE 0 (fs++(yv l::cs))) [] (cap++Hj)):IterO S.P w0 f fs cs cap Q n:=by
 refine ⟨enters_of hf hn hb,fun l GP X w Hj hY h0 hw=>callsIn_of_wp_marks (n:=0) hf hb trivial ?_⟩
 generalize hargs:fs++(yv l::cs)=args
 have hlen':args.length≤fn.ntmps:=by
  have:=Nat.le_of_ble_eq_true hlen
  rw [← hargs];simp;omega
 have ha:Agrees ⟨fn.ntmps,[]⟩ (allOf (nf 60 [.code c])) (zipE 0 args) [] { tmps:=args.toArray++Array.replicate (fn.ntmps - args.toArray.size) undef,defers:=[] }:=by
  refine ⟨rfl,by simp;omega,fun s v hv=>?_,fun _ _ _ h=>(by cases h),fun _ _ _ h=>(by cases h)⟩
  obtain⟨_,h2⟩:=zipE_spec args 0 s v hv
  simp only [Nat.sub_zero] at h2
  have hs:s<args.length:=(List.getElem?_eq_some_iff.1 h2).1
  simp [Array.getD_eq_getD_getElem?,Array.getElem?_append,hs]
  rw [List.getElem?_eq_getElem hs] at h2
  simpa using h2
 have h1:=h l GP X Hj hY h0
 rw [hargs] at h1
 have:=nf_spec (h1 _ _ ha hw)
 simp only [sem] at this
 refine wpIn_mono this fun e a w' q=>?_
 cases e <;> first|exact q|exact q.elim
theorem T_rangeO {S:Sig} {m:Nat} {ds:List Deferred} {w0:World} {fn:Func} {Φ:Value→List HA→Prop} {g:Operand} {ps:Array Tmp} {assign body:Code} {k:List It} {env:Env} {ec:EnvC} {H:List HA}
  {f:FuncId} {fs cs:List Value} {cap:List HA} {Q:Nat→List Value→List HA→Prop} {n:Nat} (hit:IterO S.P w0 f fs cs cap Q n)
  (hg:evX env [] [] g=some (.func (.func f) fs.toArray cs.toArray)) (hps:∀ (j:Nat) (x:List Value) (B:List HA),j<n→Q j x B→x.length=ps.size∧inP m (ps.toList.zip x)=true)
  (GP:Nat→List HA→Prop) (XR:List HA→Prop) (XE:Nat→List HA→Prop) (H0:List HA) (h0:GP 0 H0) (hH:Hle H (cap++H0))
  (hround:∀ (L:Nat) (r:Loop) (j:Nat) (x:List Value) (B Hj K:List HA),r.state = .ready→j<n→Q j x B→GP j Hj→T (RA (RC S m w0 L (busy r) GP XR XE j K) L body) (nf 60 [.code assign]) (envP (ps.toList.zip x) env) [] (lrec L r::(Hj++(B++K))))
  (hn:∀ D Hn,GP n Hn→T (FC S m (mkD D::ds) w0 fn Φ) (nf 60 k) env [] (dfr D::(cap++Hn)))
  (hret:∀ D Hx,XR Hx→T (FC S m (mkD D::ds) w0 fn Φ) (.code .ret::k) env [] (dfr D::(cap++Hx)))
  (hex:∀ D id Hx,XE id Hx→T (FC S m (mkD D::ds) w0 fn Φ) (nf 60 (.code (.exit id)::k)) env [] (dfr D::(cap++Hx))) :
  T (FC S m ds w0 fn Φ) (.code (.rangeFunc g ps assign body)::k) env ec H:=by
 refine T.mk fun a w ha hw=>?_
 have ha0:Agrees ⟨m,ds⟩ #[] env [] a:=ha.plain
 replace hw:=Cls.le hw hH
 refine wpIn_rangeFunc fun fn' _=>?_
 -- the two blocks
 have hw1:=(hw.alloc (.deferred (some [])) (A:=dfr w.heap.size) rfl)
 have hsz:(w.alloc (.deferred (some []))).heap.size=w.heap.size+1:=World.size_alloc _ _
 generalize hD:w.heap.size=D at hw1 hsz
 generalize hr0:({ state := .ready,pending:=none,fn:=fn',tmps:=a.tmps,params:=ps,assign,body,defers:=D }:Loop)=r
 have hrdy:r.state = .ready:=by rw [← hr0]
 have hpd:r.pending=none:=by rw [← hr0]
 have hw2:=(hw1.alloc (.loop r) (A:=lrec (D+1) r) (by rw [hsz];rfl))
 have hen:=run_enterLoop_outer (P:=S.P) (w:=w) fn' a.tmps ps assign body
 rw [hD,hr0] at hen
 have hgv:=evX_spec (all := #[]) ha0 (Holds.nil _ _) hg
 have hargs:(fs.toArray ++ #[yv (D+1)]++cs.toArray)=(fs++(yv (D+1)::cs)).toArray:=Array.ext' (by simp)
 refine ⟨D+1,[mkD D],_,⟨.fn (.func f) cs.toArray,fs.toArray ++ #[yv (D+1)]⟩,(w.alloc (.deferred (some []))).alloc (.loop r),f,(fs++(yv (D+1)::cs)).toArray,(w.alloc (.deferred (some []))).alloc (.loop r),hen,?_,fun _ _=>trivial,?_,fun h=>(by cases h),?_⟩
 ·simp [resolve,hgv,Deferred.ofValue,yv]
  rfl
 ·have:=hit.1 (fs++(yv (D+1)::cs)).toArray ((w.alloc (.deferred (some []))).alloc (.loop r))
  rw [← hargs] at this ⊢
  simpa [invoke] using this
 · -- the rounds
  have hYd:YieldsO S.P w0 (D+1) (fun j H'=>∃ Hj,H'=lrec (D+1) r::dfr D::Hj∧GP j Hj) (fun Y=>∃ Hx jump,Y=lrec (D+1) { r with state := .done,pending:=some jump }::dfr D::Hx∧((jump = .ret∧XR Hx)∨∃ id,jump = .exit id∧XE id Hx)) Q n:=by
   rintro j x B _ K w1 hj hQ ⟨Hj,rfl,hGj⟩ hc
   have hL:=(hc.obj (i:=0) rfl).1
   obtain⟨hxl,hin⟩:=hps j x B hj hQ
   have hy:=run_yield (P:=S.P) (args:=x.toArray) hL (by rw [← hr0];simp [hxl])
   refine ⟨_,_,_,_,hy,roundIn_of_wpIn trivial ?_⟩
   have hc':Cls w0 w1 (lrec (D+1) r::(Hj++(B++(dfr D::K)))):=hc.le (Hle.perm (.cons _ (by
    have h1:=(List.perm_middle (a:=dfr D) (l₁:=Hj++B) (l₂:=K)).symm
    rw [List.append_assoc,List.append_assoc] at h1
    exact h1)))
   have hT:=hround (D+1) r j x B Hj (dfr D::K) hrdy hj hQ hGj
   have hag:Agrees ⟨m,[]⟩ #[] env [] { tmps:=r.tmps,defers:=[] }:=by
    rw [← hr0]
    exact⟨rfl,ha0.size,ha0.at_,fun _ _ _ h=>(by cases h),fun _ _ _ h=>(by cases h)⟩
   have hag2:=Agrees.putAll (N:=⟨m,[]⟩) (l:=ps.toList.zip x) hin hag
   have htm:(r.params.zip x.toArray).foldl (fun tmps (p:Tmp × Value)=>tmps.setIfInBounds p.1 p.2) r.tmps=(ps.toList.zip x).foldl (fun tmps (p:Nat × Value)=>tmps.setIfInBounds p.1 p.2) r.tmps:=by
    rw [← hr0, ← Array.foldl_toList,Array.toList_zip]
   rw [htm]
   have h1:=nf_spec (hT _ w1 ⟨hag2.defers,hag2.size,hag2.at_,fun _ _ _ h=>(by cases h),fun _ _ _ h=>(by cases h)⟩ hc')
   simp only [sem] at h1
   have hra:r.assign=assign:=by rw [← hr0]
   have hrb:r.body=body:=by rw [← hr0]
   rw [← hra, ← hrb] at h1
   refine wpIn_mono (F:=Fr (some (D+1))) h1 fun e a1 w2 q=>?_
   cases e <;> first|exact q.elim|skip
   obtain⟨w3,hb,hbody⟩:=q
   refine ⟨w3,hb,wpIn_mono hbody fun e a2 w4 q=>?_⟩
   have fin:∀ H':List HA,Cls w0 w4 (lrec (D+1) (busy r)::(H'++(dfr D::K)))→∀ jump,∃ w',(Instr.endRound (D+1) jump).run S.P w4 = .ok (.bool jump.isNone) w'∧Cls w0 w' (lrec (D+1) { r with state:=if jump.isNone then .ready else .done,pending:=jump }::dfr D::(H'++K)):=by
    intro H' hcl jump
    have hL4:=(hcl.obj (i:=0) rfl).1
    refine ⟨_,run_endRound jump hL4,?_⟩
    have:=hcl.putObj (i:=0) rfl (.loop { r with state:=if jump.isNone then .ready else .done,pending:=jump })
    exact this.le (Hle.perm ((List.perm_middle (a:=dfr D) (l₁:=H') (l₂:=K)).cons _))
   cases e with
   | normal =>
    obtain⟨H',g1,g2⟩:=q
    obtain⟨w',e1,e2⟩:=fin H' g2 none
    refine ⟨_,w',e1, .inl ⟨rfl,_,⟨H',rfl,g1⟩,?_⟩⟩
    have er:({ r with state := .ready,pending:=none }:Loop)=r:=by rw [← hr0]
    simp only [Option.isNone_none,if_true] at e2
    rw [er] at e2
    exact e2
   | ret =>
    obtain⟨H',g1,g2⟩:=q
    obtain⟨w',e1,e2⟩:=fin H' g2 (some .ret)
    exact⟨_,w',e1, .inr ⟨rfl,_,⟨H', .ret,rfl, .inl ⟨rfl,g1⟩⟩,e2⟩⟩
   | exit id =>
    obtain⟨H',g1,g2⟩:=q
    obtain⟨w',e1,e2⟩:=fin H' g2 (some (.exit id))
    exact⟨_,w',e1, .inr ⟨rfl,_,⟨H', .exit id,rfl, .inr ⟨id,rfl,g1⟩⟩,e2⟩⟩
   | goto t=>exact q.elim
   | panic c=>exact q.elim
   | outgrown=>exact q.elim
  have hstart:Cls w0 ((w.alloc (.deferred (some []))).alloc (.loop r)) (cap++(lrec (D+1) r::dfr D::H0)):=by
   have h1:Cls w0 ((w.alloc (.deferred (some []))).alloc (.loop r)) (lrec (D+1) r::dfr D::(cap++H0)):=hw2
   exact h1.le (Hle.rot2 _ _ cap H0)
  have hcall:=hit.2 (D+1) _ _ _ _ hYd ⟨H0,rfl,h0⟩ hstart
  have hcall':CallsIn (Fr none) 0 S.P f (fs++(yv (D+1)::cs)).toArray ((w.alloc (.deferred (some []))).alloc (.loop r)) _:=hcall
  refine CallsIn.mono hcall' ?_
  rintro e w3 ⟨⟨v,rfl⟩,hend⟩
  have hsem:=sem_N (FC S m ds w0 fn Φ) ⟨m,mkD D::ds⟩ k
  have hag:∀ all,Agrees ⟨m,mkD D::ds⟩ all env [] { a with defers:=[mkD D]++a.defers }:=fun all =>
   ⟨by simp [ha0.defers],ha0.size,ha0.at_,fun _ _ _ h=>(by cases h),fun _ _ _ h=>(by cases h)⟩
  rcases hend with⟨_,⟨Hn,rfl,hGn⟩,hc⟩|⟨_,⟨Hx,jump,rfl,hj⟩,hc⟩
  ·have hc:=hc.le (Hle.unrot2 _ _ cap Hn)
   have hL:=(hc.obj (i:=0) rfl).1
   refine ⟨none,w3.putObj (D+1) (.loop { r with state := .exhausted }),(run_endLoop hL (by rw [hrdy];intro h;cases h)).trans (by rw [hpd]),?_⟩
   have hc2:=(hc.putObj (i:=0) rfl (.loop { r with state := .exhausted })).le (Hle.tail _ _)
   have:=nf_spec (hn D Hn hGn _ _ (hag _) hc2)
   show (sem (FC S m ds w0 fn Φ) k).1 _ _
   rw [← hsem]
   exact this
  ·have hc:=hc.le (Hle.unrot2 _ _ cap Hx)
   have hL:=(hc.obj (i:=0) rfl).1
   refine ⟨_,_,run_endLoop hL (by intro h;cases h),?_⟩
   have hc2:=(hc.putObj (i:=0) rfl (.loop { ({ r with state := .done,pending:=some jump }:Loop) with state := .exhausted })).le (Hle.tail _ _)
   rcases hj with⟨rfl,hX⟩|⟨id,rfl,hX⟩
   ·have:=hret D Hx hX _ _ (hag _) hc2
    have h9:(sem (FC S m (mkD D::ds) w0 fn Φ) (.code .ret::k)).1 _ _:=this
    simp only [sem] at h9
    have h10:sem (FC S m (mkD D::ds) w0 fn Φ) k=sem (FC S m ds w0 fn Φ) k:=hsem
    rw [h10] at h9
    exact h9
   ·have:=nf_spec (hex D id Hx hX _ _ (hag _) hc2)
    simp only [sem] at this
    have h10:sem (FC S m (mkD D::ds) w0 fn Φ) k=sem (FC S m ds w0 fn Φ) k:=hsem
    rw [h10] at this
    exact this

theorem OpT.yieldO {S:Sig} {m:Nat} {w0:World} {fn:Func} {R:Ending→World→Prop} {all:Array Oper} {o:Oper} {env:Env} {ec:EnvC} {H:List HA} {d l j:Nat} {x:List Value} {G:GId} {Φ:Env→EnvC→List HA→Prop}
  {GP:Nat→List HA→Prop} {X:List HA→Prop} {Q:Nat→List Value→List HA→Prop} {n:Nat} {Hj:List HA} (B K:List HA)
  (hY:YieldsO S.P w0 l GP X Q n) (hg:gOf all env ec o=some G) (he:evYG env ec G o=some (l,x)) (hT:∀ a,Agrees ⟨m,[]⟩ all env ec a→Holds all a G) (hd:o.dst=some d) (hN:Nat.blt d m=true) (hs:safeC all d ec=true) (hj:j<n) (hQ:Q j x B) (hGP:GP j Hj) (hl:Hle H (Hj++(B++K)))
  (ht:∀ H',GP (j+1) H'→Φ ((d, .bool true)::env) ec (K++H'))
  (hf:∀ Y,X Y→Φ ((d, .bool false)::env) ec (K++Y)):OpT (IC S m w0 fn R) all o env ec H Φ:=by
 intro a w ha hw K' Q' hK
 have hH:=hT a ha
 have hwn:=(wanted_iff ha hg).2 hH
 refine ⟨fun _=>?_,fun hn=>(by rw [hwn] at hn;cases hn)⟩
 obtain⟨f,tmps,assign,body,hy,hr⟩:=hY j x B Hj K w hj hQ hGP (hw.le hl)
 have hdef:=gOf_def hg
 have hex:=evYG_spec ha hH he hy
 unfold Oper.wpIn
 refine ⟨about_Fr o _ w _,?_⟩
 rw [Oper.semAt_eq _ _ _ hdef,hex]
 refine ⟨fun h=>(by cases h),RoundIn.mono hr ?_⟩
 rintro e w' (⟨rfl,H',h1,h2⟩|⟨rfl,Y,h1,h2⟩)
 ·exact hK _ _ _ _ _ (ht H' h1) (by rw [hd];exact ha.put hN hs) (h2.le (Hle.comm _ _))
 ·exact hK _ _ _ _ _ (hf Y h1) (by rw [hd];exact ha.put hN hs) (h2.le (Hle.comm _ _))
end Go.Proofs.YtblnhdnogjijiaaGreatDoor
namespace Go.Proofs.YtblnhdnogjijiaaGreatDoor
open Go.RowKit Go.Shelf Go.Proofs
set_option maxRecDepth 100000
set_option maxHeartbeats 1000000

theorem nilC (H:List HA):Hle H (dat [.slice none 0 0] [rowsD []]::H):=hle_unit (B:=dat [.slice none 0 0] [rowsD []]) (.s none 0 0 1 [] rfl (Nat.le_refl _) (by omega) (fun h=>absurd h (by omega)) .nil .nil)
theorem Rd.intsAt {w:World} {A:Option Addr} {n cap:Nat} {p:List Int} (h:Rd (wr w) [.slice A n cap] [intsD p]):Src w 1 A n (p.map (Value.int .i64)):=by
 obtain⟨A',cap',e,-,hs⟩:=h.ints
 cases e
 exact hs
theorem stg_prod {c:Costs} {l:List TS} {ord:List Nat} (hlt:∀ k∈ord,k<l.length) (hln:∀ t∈l,t.l.length≤100) {j m:Nat} (hj:j≤ord.length) (hj2:j≤32) (hm:m≤100):(stgV c l ord j).length≤3200∧(((stgV c l ord j).length:Int)+1) * ((m:Int)+1)≤1048576:=by
 have h1:=stgV_len (c:=c) hlt hln j hj
 have h2:(stgV c l ord j).length≤3200:=by omega
 have h3:=Nat.mul_le_mul (show (stgV c l ord j).length+1≤3201 by omega) (show m+1≤101 by omega)
 have h4:(((stgV c l ord j).length:Int)+1) * ((m:Int)+1)=((((stgV c l ord j).length+1) * (m+1):Nat):Int):=by push_cast;rfl
 exact⟨h2,by rw [h4];omega⟩
theorem Grp.addW {w w':World} {A:Option Addr} {l:List TS} (hg:Grp w A l.length l) (hw:Below w.heap.size w w') (hst:Std w') {c:Costs} (hc:costE c=0) (hbs:badS l=false) (hq:∀ t∈l,t.n≤100) {ord:List Nat} (hlt:∀ k∈ord,k<l.length) {j:Nat} (hj:j<ord.length) (hj2:j≤32) {At:Option Addr} {K:Value}
  (hs:Src w' 1 At j ((takS l ord j).map TS.val)) (hx:Rd (wr w') [K] [rowsD (stgV c l ord j)]) {t:TS} (ht:t∈l):AddW w' c At j (takS l ord j) K (stgV c l ord j) t.A t.n t.l:=by
 have hln:∀ t∈l,t.l.length=t.n:=hg.ok.len
 have hg':Grp w' A l.length l:=⟨hst,src_below hg.hs hw,hg.hn,hg.hb,⟨fun t ht=>src_below (hg.ok.src t ht) hw,hg.ok.len,hg.ok.bd⟩,hg.nb,hg.sm⟩
 refine ⟨hg'.tak hlt (by omega) hj2 hs,hc,badS_tak hlt hbs j,hx,fun col hcol=>ColsOk.colOk (l:=takS l ord j) (stgV_ok hlt hln j (by omega)) hcol,hg'.ok.src t ht,hln t ht,hg.nb t ht,badS_ok hbs t ht,hg.sm t ht,?_⟩
 have:=(stg_prod (c:=c) hlt (fun t ht=>by rw [hln t ht];exact hq t ht) (j:=j) (m:=0) (by omega) hj2 (by omega)).1
 omega
theorem alignPrg21_spec (c:Costs) (A:Option Addr) (n ca:Nat) (l:List TS) (w:World) (hg:Grp w A n l) (hq:∀ t∈l,t.n≤100) :
  Spec Tryz.prog 44 [c.val, .slice A n ca] w (fun v R=>∃ x:Value,True∧v = .tuple #[x, .int .i64 (alnA c l).2]∧R=[dat [x] [rowsD (alnA c l).1]]):=by
 have hn:=hg.hn
 subst hn
 have hb:=hg.hb
 refine spec_of sg Tryz.func44 rfl rfl rfl ?_
 refine T_op (OpT.box (cs:=c.cells) rfl rfl rfl rfl rfl rfl rfl (fun pc=>?_))
 repeat' (first|refine d1 ?_|refine dd ?_|(show T _ (.ops _ (_::_)::_) _ _ _;first|refine T_call rfl rfl rfl rfl rfl (fun w hw=>check21_spec c A l.length ca l w (hg.cls hw)) ?_|refine T_callC rfl rfl rfl rfl rfl rfl rfl (fun hg w hw=>check21_spec c A l.length ca l w (hg.cls hw)) ?_)|(show T _ (.run _ _ (_::_) _ _::_) _ _ _;first|refine rc rfl rfl rfl rfl rfl rfl rfl (fun w hw=>check21_spec c A l.length ca l w (hg.cls hw)) ?_|refine rcG rfl rfl rfl rfl rfl rfl rfl rfl rfl (fun hg w hw=>check21_spec c A l.length ca l w (hg.cls hw)) ?_)|(show ∀ _:Nat,T _ _ _ _ _;intro _))
 refine T_if rfl (fun h=>?_) (fun h=>?_)
 ·simp only [Bool.not_eq_true',decide_eq_false_iff_not] at h
  have e:alnA c l=([],1):=if_neg h
  rw [e,(ck21_01 c l).resolve_left h]
  repeat' (first|refine d1 ?_|refine dd ?_|(show ∀ _:Nat,T _ _ _ _ _;intro _)|(show T _ (.code .ret::_) _ _ _;refine T_retV _ rfl ((nilC _).trans (Hle.nth 0 rfl)) ⟨_,trivial,rfl,rfl⟩))
 simp only [Bool.not_eq_false',decide_eq_true_eq] at h
 have e:alnA c l=(alnP c l,0):=if_pos h
 rw [e]
 obtain⟨hc,hbs⟩:=ck21_ok h
 have hbd:=dstT_bd hc hg.len
 obtain⟨hd,hlt⟩:=orderV_ok (fun i k=>(hbd i k).1) l.length
 have hol:=orderV_len (dstT c l) l.length
 have e2:alnP c l=(stgV c l (orderV (dstT c l) l.length) l.length).map (arrR (orderV (dstT c l) l.length)):=rfl
 rw [e2]
 repeat' (first|refine d1 ?_|refine dd ?_|(show T _ (.ops _ (_::_)::_) _ _ _;refine T_op (OpT.call rfl rfl rfl rfl rfl (fun w hw=>order21_spec c A l.length ca l w (hg.cls hw) hc hbs) ?_))|(show ∀ _:Nat,T _ _ _ _ _;intro _))
 rintro v R ⟨x,-,rfl,rfl⟩
 generalize orderV (dstT c l) l.length=ord at hd hlt hol ⊢
 refine T_le (H':=[dat [x] [intsD (intN ord)],blk pc c.cells 23]) (Hle.refl _) ?_
 refine T_open fun p hp=>?_
 have hp2:=hp
 have hil:(intN ord).length=l.length:=by unfold intN;rw [List.length_map,hol]
 obtain⟨Ao,co,rfl,hc1,hc2,hAo⟩:=hp.row1
 rw [hil] at hAo hc1 hp2 ⊢
 have hln:∀ t∈l,t.l.length≤100:=fun t ht=>by rw [hg.ok.len t ht];exact hq t ht
 repeat' (first|refine d1 ?_|refine dd ?_|(show ∀ _:Nat,T _ _ _ _ _;intro _))
 refine T_if rfl (fun h1=>by exfalso;simp at h1) (fun _=>?_)
 repeat' (first|refine d1 ?_|refine dd ?_|(show ∀ _:Nat,T _ _ _ _ _;intro _))
 refine T_le (nilC _) ?_
 refine T_nilrow 38 1 ?_
 refine T_loopX (fun s:Nat × (Option Addr × Nat) × Value=>[(30, .int .i64 s.1),(10, .slice s.2.1.1 s.1 s.2.1.2),(9,s.2.2)]) (fun s=>[row 38 1 s.2.1.1 s.2.1.2 s.1 ((takS l ord s.1).map TS.val),dat [s.2.2] [rowsD (stgV c l ord s.1)],fz p,blk pc c.cells 23]) (fun s=>s.1≤l.length) (fun s=>l.length - s.1) (0,(none,0), .slice none 0 0) (Nat.zero_le _) ?_
 rintro⟨j,⟨At,capt⟩,K⟩ hj
 dsimp only at hj ⊢
 repeat' (first|refine d1 ?_|refine dd ?_|(show ∀ _:Nat,T _ _ _ _ _;intro _))
 refine T_if rfl (fun h3=>?_) (fun h3=>?_)
 ·simp only [decide_eq_true_eq] at h3
  have hjn:j<l.length:=by omega
  obtain⟨bo,oo,rfl,hbo⟩:=hAo (by omega)
  obtain⟨b,o,rfl⟩:=hg.hs.base (by omega)
  have hoj:=ord_get (show j<ord.length by omega)
  have hlj:ord.getD j 0<l.length:=ord_lt hlt (by omega)
  obtain⟨t,ht,htm,hrt⟩:=hg.get hlj
  have hts:tsA l (ord.getD j 0)=t:=tsA_eq ht
  have hst:stgV c l ord (j+1)=addV c (takS l ord j) (stgV c l ord j) t.l 0 0:=by
   show addV c (takS l ord j) (stgV c l ord j) (tsA l (ord.getD j 0)).l 0 0=_
   rw [hts]
  have hpr:=(stg_prod (c:=c) hlt hln (j:=j) (m:=t.n) (by omega) (by omega) (hq t htm)).2
  refine T_le (H':=[dat [K] [rowsD (stgV c l ord j)],row 38 1 At capt j ((takS l ord j).map TS.val),fz p,blk pc c.cells 23]) Hle.srt ?_
  refine T_open fun q hq9=>?_
  refine T_le (H':=[row 38 1 At capt j ((takS l ord j).map TS.val),fz q,fz p,blk pc c.cells 23]) Hle.srt ?_
  repeat' (first|refine d1 ?_|refine dd ?_|(show T _ (.ops _ (_::_)::_) _ _ _;first|refine T_val rfl (Val.load rfl (fun hg=>rdFz (p:=p) (u := .int .i64 (ord.getD j 0:Nat)) (b:=bo) (by rw [off1];exact hbo j _ (by unfold intN;rw [List.getElem?_map,hoj];rfl)))) rfl rfl rfl ?_|refine T_valC rfl (Val.load rfl (fun hg=>rdFz (p:=p) (u := .int .i64 (ord.getD j 0:Nat)) (b:=bo) (by rw [off1];exact hbo j _ (by unfold intN;rw [List.getElem?_map,hoj];rfl)))) rfl rfl rfl rfl rfl ?_)|(show T _ (.run _ _ (_::_) _ _::_) _ _ _;first|refine rv rfl rfl rfl (Val.load rfl (fun hg=>rdFz (p:=p) (u := .int .i64 (ord.getD j 0:Nat)) (b:=bo) (by rw [off1];exact hbo j _ (by unfold intN;rw [List.getElem?_map,hoj];rfl)))) rfl rfl rfl ?_|refine rg rfl rfl rfl (Val.load rfl (fun hg=>rdFz (p:=p) (u := .int .i64 (ord.getD j 0:Nat)) (b:=bo) (by rw [off1];exact hbo j _ (by unfold intN;rw [List.getElem?_map,hoj];rfl)))) rfl rfl rfl rfl rfl ?_|refine rcE rfl rfl rfl rfl rfl rfl rfl (fun w hw=>add21_spec (hg.addW hw.below (hg.hst.cls hw) hc hbs hq hlt (by omega) (by omega) (srcRw w hw) (hq9.own hw) htm) capt t.cap hpr) (fun y9 _=>?_))|(show ∀ _:Nat,T _ _ _ _ _;intro _))
  refine T_if rfl (fun h5=>by exfalso;simp at h5) (fun _=>?_)
  repeat' (first|refine d1 ?_|refine dd ?_|(show T _ (.ops _ (_::_)::_) _ _ _;refine T_op (OpT.append rfl rfl rfl rfl rfl rfl rfl rfl rfl rfl (fun w hw=>Src.own hw rfl) rfl (by dsimp only;omega) (by omega) (fun A' cap' hA'=>?_)))|(show ∀ _:Nat,T _ _ _ _ _;intro _))
  refine T_backX (j+1,(A',cap'),y9) (Nat.succ_le_of_lt hjn) (by dsimp only;omega) (hG:=?_)
  dsimp only
  rw [takS_succ (by omega),List.map_append,hts,hst,show List.map TS.val [t]=flatP [(0, .slice t.A t.n t.cap)] from rfl]
  exact Hle.srt
 ·simp only [decide_eq_false_iff_not] at h3
  obtain rfl:j=l.length:=by omega
  refine T_le (H':=[dat [K] [rowsD (stgV c l ord l.length)],row 38 1 At capt l.length ((takS l ord l.length).map TS.val),fz p,blk pc c.cells 23]) Hle.srt ?_
  refine T_open fun q hq9=>?_
  have hso:=stgV_ok (c:=c) hlt hg.ok.len l.length (by omega)
  have hlen:=(stg_prod (c:=c) hlt hln (j:=l.length) (m:=0) (by omega) (by omega) (by omega)).1
  repeat' (first|refine d1 ?_|refine dd ?_|(show T _ (.ops _ (_::_)::_) _ _ _;refine T_op (OpT.call rfl rfl rfl rfl rfl (fun w hw=>arranged_spec K (stgV c l ord l.length) Ao l.length co ord w (hq9.own hw) (by have h9:=(hp2.own hw).intsAt;rw [intN_val] at h9;exact h9) hol (fun r hr=>by rw [hso.len r hr,lens_len,takS_len (by omega)]) hlt (by omega) (by omega)) ?_))|(show ∀ _:Nat,T _ _ _ _ _;intro _))
  rintro v R ⟨y,-,rfl,rfl⟩
  repeat' (first|refine d1 ?_|refine dd ?_|(show ∀ _:Nat,T _ _ _ _ _;intro _)|(show T _ (.code .ret::_) _ _ _;refine T_retV _ rfl (Hle.nth 0 rfl) ⟨_,trivial,rfl,rfl⟩))
end Go.Proofs.YtblnhdnogjijiaaGreatDoor
namespace Go.Proofs.YtblnhdnogjijiaaGreatDoor
open Go.RowKit Go.Shelf Go.Sort Go.Lib
set_option maxRecDepth 100000
set_option maxHeartbeats 1000000
variable {α:Type} [Inhabited α]

theorem heap_sortWorld {enc:α→Value} {w:World} {g m:Nat} {d':Array α} {os:Array Obj} {b:Nat} (hb:b<w.heap.size):(sortWorld enc w g 0 m d' os).heap[b]?=(w.heap[b]?).map (fun o=>if b=g then onCells (putCells enc 0 d') o else o):=by
 unfold sortWorld putRow mapBlock grow Sort.ahead
 simp only [Array.getElem?_append,Array.size_modify,hb,if_true,Array.getElem?_modify]
 by_cases h:g=b
 ·subst h
  simp
 ·rw [if_neg h]
  have:¬ b=g:=fun e=>h e.symm
  simp [this]
theorem putCells_at {enc:α→Value} {d':Array α} {cur:Array Value} (j:Nat) (hj:j<d'.size) (hc:j<cur.size):(putCells enc 0 d' cur)[j]?=some (enc d'[j]!):=by
 unfold putCells
 rw [Array.getElem?_mapIdx,Array.getElem?_eq_getElem hc]
 simp [hj]
theorem putCells_size {enc:α→Value} {d':Array α} {cur:Array Value}:(putCells enc 0 d' cur).size=cur.size:=by unfold putCells;simp
theorem below_sortWorld {enc:α→Value} {w:World} {B g m:Nat} {d':Array α} {os:Array Obj} (hB:B≤w.heap.size) (hg:B≤g):Below B w (sortWorld enc w g 0 m d' os):=by
 refine ⟨rfl,rfl,rfl,?_,fun k hk=>?_⟩
 ·show w.heap.size≤(grow (putRow enc (Sort.ahead w m) g 0 d') os).heap.size
  rw [size_grow,size_putRow]
  show w.heap.size≤w.heap.size+os.size
  omega
 ·rw [heap_sortWorld (b:=k) (by omega)]
  have:¬ k=g:=by omega
  cases w.heap[k]? <;> simp [this]
theorem sort_cls {w0 w:World} {e cap n g:Nat} {H:List HA} {enc:α→Value} {d d':Array α} {m:Nat} {os:Array Obj} (hw:Cls w0 w (row e 1 (some ⟨g,0,none⟩) cap n (d.toList.map enc)::H)) (hd:d.size=n) (hs:d'.size=d.size) :
  Cls w0 (sortWorld enc w g 0 m d' os) (row e 1 (some ⟨g,0,none⟩) cap n (d'.toList.map enc)::H):=by
 obtain⟨F,h1,h2,h3⟩:=hw.sep
 obtain⟨hxl,hrow⟩:=h1 0 _ rfl
 rcases hrow with⟨h9,-⟩|⟨g',cur,hA,hf,hn,hc,hcs,ht⟩
 ·cases h9
 cases hA
 have hg:=h2 0 g (.cells cur e (0,0)) (by simp) (by rw [hf];simp [one])
 have hgl:=lt_of_heap hg.2
 have hlt:w0.heap.size≤w.heap.size:=hw.below.size
 refine ⟨hw.below.trans (below_sortWorld hlt hg.1),?_⟩
 refine hw.sep.turn (k:=0) (b:=g) (o := .cells (putCells enc 0 d' cur) e (0,0)) rfl (fun f hf=>?_) (fun c hc hcl=>?_) ?_ ?_
 ·rcases hf.2 with⟨h9,-⟩|⟨g',cur',hA',hf',-⟩
  ·cases h9
  ·cases hA';exact⟨_,hf'⟩
 ·rw [heap_sortWorld hcl]
  cases w.heap[c]? with
  | none=>rfl
  | some o=>simp [hc]
 ·rw [heap_sortWorld hgl,hg.2]
  simp [onCells]
 ·refine ⟨by rw [List.length_map,Array.length_toList];omega, .inr ⟨g,_,rfl,rfl,hn,hc,by rw [putCells_size];exact hcs,?_⟩⟩
  refine List.ext_getElem? fun j=>?_
  by_cases hj:j<n * 1
  ·rw [List.getElem?_take_of_lt hj,Array.getElem?_toList,putCells_at j (by omega) (by omega),List.getElem?_map,Array.getElem?_toList,Array.getElem?_eq_getElem (by omega)]
   simp [show j<d'.size by omega]
  ·rw [List.getElem?_eq_none (by rw [List.length_take,Array.length_toList,putCells_size];omega),List.getElem?_eq_none (by rw [List.length_map,Array.length_toList];omega)]
theorem sort_holds {w0 w:World} {e cap n g:Nat} {H:List HA} {enc:α→Value} {d:Array α} (hw:Cls w0 w (row e 1 (some ⟨g,0,none⟩) cap n (d.toList.map enc)::H)) (hd:d.size=n):Go.Sort.Holds enc w g 0 d∧g<w.heap.size:=by
 obtain⟨F,h1,h2,h3⟩:=hw.sep
 obtain⟨hxl,hrow⟩:=h1 0 _ rfl
 rcases hrow with⟨h9,-⟩|⟨g',cur,hA,hf,hn,hc,hcs,ht⟩
 ·cases h9
 cases hA
 have hg:=h2 0 g (.cells cur e (0,0)) (by simp) (by rw [hf];simp [one])
 refine ⟨fun j hj=>⟨?_,?_⟩,lt_of_heap hg.2⟩
 ·have h5:(d.toList.map enc)[j]?=some (enc d[j]!):=by
   rw [List.getElem?_map,Array.getElem?_toList,Array.getElem?_eq_getElem hj];simp [hj]
  rw [← ht,List.getElem?_take_of_lt (by omega),Array.getElem?_toList] at h5
  simp [World.cell?,hg.2,h5]
 ·simp [World.frozen?,hg.2]
theorem permIn_all {d d':Array α} (h:PermIn 0 d.size d d'):d'.size=d.size∧d'.toList.Perm d.toList:=by
 obtain⟨h1,-,h3⟩:=h
 refine ⟨h1,?_⟩
 have e1:d.extract 0 d.size=d:=by simp
 have e2:d'.extract 0 d.size=d':=by rw [← h1];simp
 rw [e1,e2] at h3
 exact h3
theorem sortedIn_all {lt:α→α→Bool} {d:Array α} {n:Nat} (hn:d.size=n) (h:SortedIn lt 0 n d):d.toList.Pairwise fun a b=>lt b a=false:=by
 rw [List.pairwise_iff_getElem]
 intro i j hi hj hij
 rw [Array.length_toList] at hi hj
 have:=h i j (Nat.zero_le _) hij (by omega)
 simpa [hi,hj] using this
end Go.Proofs.YtblnhdnogjijiaaGreatDoor
