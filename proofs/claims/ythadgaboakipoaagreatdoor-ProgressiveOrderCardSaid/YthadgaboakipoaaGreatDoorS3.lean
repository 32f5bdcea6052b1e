/- Joined texts of this claim, part 3. -/
import Derived.Test.YthadgaboakipoaaGreatDoorS2
set_option linter.unusedSectionVars false
set_option linter.unusedVariables false
set_option linter.unusedSimpArgs false
namespace Go.Proofs.YthadgaboakipoaaGreatDoor
open Go.RowKit Go.Shelf Go.Proofs
set_option maxRecDepth 100000
set_option maxHeartbeats 1000000

def addL (c:Costs) (L K T B:Value):List Value:=c.cells++[L,K,T,B]
theorem addL_get {c:Costs} {L K T B:Value} {j:Nat} {u:Value} (hu:c.cells[j]?=some u):(addL c L K T B)[0+j]?=some u:=by
 unfold addL;rw [Nat.zero_add,List.getElem?_append_left (List.getElem?_eq_some_iff.1 hu).1];exact hu
theorem noTok_small:noTok.small:=by decide +kernel
theorem beside_spec (c:Costs) (A Ac At Ak Ab:Option Addr) (n ca cc m ct nk ck nb cb:Nat) (l:List TS) (col:List Int) (t:List Tok) (k:Int) (w:World) (hg:Grp w A n l) (hc:costE c=0) (hbs:badS l=false)
  (hcs:Src w 1 Ac n (col.map (Value.int .i64))) (hco:ColOk l col) (hts:Src w 6 At m (t.flatMap Tok.cells)) (htl:t.length=m) (hm:m≤1000) (hte:∀ x∈t,tokE x=0) (hsm:∀ x∈t,x.small) (hk : -1≤k∧k<(m:Int)) :
  Spec Tryz.prog 182 [.agg (addL c (.slice A n ca) (.slice Ak nk ck) (.slice At m ct) (.slice Ab nb cb)).toArray, .slice Ac n cc, .int .i64 k] w (fun v R=>v = .int .i64 (putC c l col t k)∧R=[]):=by
 refine spec_of sg Tryz.func182 rfl rfl rfl ?_
 refine T_op (OpT.box (cs:=addL c (.slice A n ca) (.slice Ak nk ck) (.slice At m ct) (.slice Ab nb cb)) rfl rfl rfl rfl rfl rfl rfl (fun pa=>?_))
 have hb:=hg.hb
 have hn:=hg.hn
 repeat' (first|refine d1 ?_|refine dd ?_|(show ∀ _:Nat,T _ _ _ _ _;intro _))
 refine T_loopX (fun j:Nat=>[(16, .int .i64 j),(7, .int .i64 (putS c l col t k j))]) (fun _=>[blk pa (addL c (.slice A n ca) (.slice Ak nk ck) (.slice At m ct) (.slice Ab nb cb)) 153]) (fun j=>j≤n) (fun j=>n - j) 0 (Nat.zero_le _) ?_
 intro j hj
 repeat' (first|refine d1 ?_|refine dd ?_|(show ∀ _:Nat,T _ _ _ _ _;intro _))
 refine T_if rfl (fun h=>?_) (fun h=>?_)
 ·simp only [decide_eq_true_eq] at h
  have hjn:j<n:=by omega
  obtain⟨b,o,rfl⟩:=hg.hs.base (by omega)
  obtain⟨b1,o1,rfl⟩:=hcs.base (by omega)
  obtain⟨s,hs,hsmem,hr⟩:=hg.get hjn
  obtain⟨z,hz⟩:∃ z,col[j]?=some z:=⟨_,List.getElem?_eq_getElem (by have:=hco.1;omega)⟩
  have hr1:=src_int hcs hjn hz
  obtain⟨hz1,hz2⟩:=hco.2 j z s hz hs
  have hsl:=hg.ok.len s hsmem
  have hsn:=hg.nb s hsmem
  have hput:=putS_succ c t k hs hz
  have hbd:=putS_bd hc l col t k j
  have hbe:=entC_bd hc s.l z t k
  have hcls:∀ x∈s.l,tokE x=0:=badS_ok hbs s hsmem
  repeat' (first|refine d1 ?_|refine dd ?_|(show T _ (.ops _ (_::_)::_) _ _ _;refine T_op (OpT.makeC rfl rfl rfl rfl rfl rfl (by dsimp only;omega) (fun b2=>?_)))|(show ∀ _:Nat,T _ _ _ _ _;intro _))
  rename_i bb
  have em:(madeCells (noTok.val).cells (2 * (noTok.val).cells.size)).toList=[noTok,noTok].flatMap Tok.cells:=(made_flat (noTok.val).cells 2).trans rfl
  refine T_le (H':=[blk bb ([decide (0≤z),decide (0≤k)].map Value.bool) 4,blk b2 ([noTok,noTok].flatMap Tok.cells) 62,blk pa (addL c (.slice (some ⟨b,o,none⟩) n ca) (.slice Ak nk ck) (.slice At m ct) (.slice Ab nb cb)) 153]) (by rw [← em];exact Hle.refl _) ?_
  refine T_if rfl (fun h1=>?_) (fun h1=>?_)
  ·simp only [decide_eq_true_eq] at h1
   obtain⟨b4,o4,hsA⟩:=(hg.ok.src s hsmem).base (by omega)
   have hsr:RdC w b4 (o4+z.toNat * 6) (tkA s.l z.toNat).cells:=(hsA ▸ hg.ok.src s hsmem:Src w 6 (some ⟨b4,o4,none⟩) s.n (s.l.flatMap Tok.cells)).getT (k:=z.toNat) (by omega) (tkA_get (by omega))
   rw [hsA] at hr
   repeat' (first|refine d1 ?_|refine dd ?_|(show T _ (.ops _ (_::_)::_) _ _ _;refine T_op (OpT.storeA rfl rfl rfl rfl rfl rfl (by decide) ?_))|(show ∀ _:Nat,T _ _ _ _ _;intro _))
   refine T_if rfl (fun h2=>?_) (fun h2=>?_)
   ·simp only [decide_eq_true_eq] at h2
    obtain⟨b5,o5,rfl⟩:=hts.base (by omega)
    have htr:RdC w b5 (o5+k.toNat * 6) (tkA t k.toNat).cells:=hts.getT (k:=k.toNat) (by omega) (tkA_get (by omega))
    repeat' (first|refine d1 ?_|(show T _ (.ops _ (_::_)::_) _ _ _;refine T_op (OpT.storeA rfl rfl rfl rfl rfl rfl (by decide) ?_))|(show ∀ _:Nat,T _ _ _ _ _;intro _))
    have hcol:columnV c [(tkA s.l z.toNat),(tkA t k.toNat)] [decide (0≤z),decide (0≤k)]=(entC c s.l z t k,0):=by
     rw [col2 hc (tkA s.l z.toNat) (tkA t k.toNat) _ _ (fun _=>hcls _ (tkA_mem2 h1 (by omega))) (fun _=>hte _ (tkA_mem2 h2 (by omega)))];unfold entC;simp [h1,h2]
    have hsxy:∀ x∈[(tkA s.l z.toNat),(tkA t k.toNat)],x.small:=by
     intro x hx
     simp only [List.mem_cons,List.mem_nil_iff,or_false] at hx
     rcases hx with rfl|rfl
     ·exact hg.sm s hsmem _ (tkA_mem2 h1 (by omega))
     ·exact hsm _ (tkA_mem2 h2 (by omega))
    refine T_le (H':=[blk bb ([decide (0≤z),decide (0≤k)].map Value.bool) 4,blk b2 ([(tkA s.l z.toNat),(tkA t k.toNat)].flatMap Tok.cells) 62,blk pa (addL c (.slice (some ⟨b,o,none⟩) n ca) (.slice Ak nk ck) (.slice (some ⟨b5,o5,none⟩) m ct) (.slice Ab nb cb)) 153]) (Hle.refl _) ?_
    repeat' (first|refine d1 ?_|refine dd ?_|(show T _ (.ops _ (_::_)::_) _ _ _;first|refine T_val rfl (Val.loadA (vs:=c.cells) rfl (fun _=>rdOwn (b:=pa) (fun j u hu=>addL_get hu)) rfl) rfl rfl rfl ?_|refine T_valC rfl (Val.loadA (vs:=c.cells) rfl (fun _=>rdOwn (b:=pa) (fun j u hu=>addL_get hu)) rfl) rfl rfl rfl rfl rfl ?_|refine T_call rfl rfl rfl rfl rfl (fun w hw=>columnPrg_spec c (some ⟨b2,0,none⟩) (some ⟨bb,0,none⟩) 2 2 2 2 [(tkA s.l z.toNat),(tkA t k.toNat)] [decide (0≤z),decide (0≤k)] w (hg.hst.cls hw) (Src.own hw rfl) rfl (by omega) (Src.own hw rfl) rfl (by omega) hsxy) ?_|refine T_callC rfl rfl rfl rfl rfl rfl rfl (fun hg w hw=>columnPrg_spec c (some ⟨b2,0,none⟩) (some ⟨bb,0,none⟩) 2 2 2 2 [(tkA s.l z.toNat),(tkA t k.toNat)] [decide (0≤z),decide (0≤k)] w (hg.hst.cls hw) (Src.own hw rfl) rfl (by omega) (Src.own hw rfl) rfl (by omega) hsxy) ?_)|(show T _ (.run _ _ (_::_) _ _::_) _ _ _;first|refine rv rfl rfl rfl (Val.loadA (vs:=c.cells) rfl (fun _=>rdOwn (b:=pa) (fun j u hu=>addL_get hu)) rfl) rfl rfl rfl ?_|refine rg rfl rfl rfl (Val.loadA (vs:=c.cells) rfl (fun _=>rdOwn (b:=pa) (fun j u hu=>addL_get hu)) rfl) rfl rfl rfl rfl rfl ?_|refine rc rfl rfl rfl rfl rfl rfl rfl (fun w hw=>columnPrg_spec c (some ⟨b2,0,none⟩) (some ⟨bb,0,none⟩) 2 2 2 2 [(tkA s.l z.toNat),(tkA t k.toNat)] [decide (0≤z),decide (0≤k)] w (hg.hst.cls hw) (Src.own hw rfl) rfl (by omega) (Src.own hw rfl) rfl (by omega) hsxy) ?_|refine rcG rfl rfl rfl rfl rfl rfl rfl rfl rfl (fun hg w hw=>columnPrg_spec c (some ⟨b2,0,none⟩) (some ⟨bb,0,none⟩) 2 2 2 2 [(tkA s.l z.toNat),(tkA t k.toNat)] [decide (0≤z),decide (0≤k)] w (hg.hst.cls hw) (Src.own hw rfl) rfl (by omega) (Src.own hw rfl) rfl (by omega) hsxy) ?_)|(show ∀ _:Nat,T _ _ _ _ _;intro _))
    rw [hcol]
    repeat' (first|refine d1 ?_|refine dd ?_|(show ∀ _:Nat,T _ _ _ _ _;intro _))
    exact T_backX (j+1) (by omega) (by omega) (hE:=⟨rfl,by rw [hput];rfl,trivial⟩) (hG:=Hle.nth 2 rfl)
   ·simp only [decide_eq_false_iff_not] at h2
    have hcol:columnV c [(tkA s.l z.toNat),noTok] [decide (0≤z),decide (0≤k)]=(entC c s.l z t k,0):=by
     rw [col2 hc (tkA s.l z.toNat) noTok _ _ (fun _=>hcls _ (tkA_mem2 h1 (by omega))) (fun h9=>absurd (of_decide_eq_true h9) h2)];unfold entC;simp [h1,h2]
    have hsxy:∀ x∈[(tkA s.l z.toNat),noTok],x.small:=by
     intro x hx
     simp only [List.mem_cons,List.mem_nil_iff,or_false] at hx
     rcases hx with rfl|rfl
     ·exact hg.sm s hsmem _ (tkA_mem2 h1 (by omega))
     ·exact noTok_small
    refine T_le (H':=[blk bb ([decide (0≤z),decide (0≤k)].map Value.bool) 4,blk b2 ([(tkA s.l z.toNat),noTok].flatMap Tok.cells) 62,blk pa (addL c (.slice (some ⟨b,o,none⟩) n ca) (.slice Ak nk ck) (.slice At m ct) (.slice Ab nb cb)) 153]) (Hle.refl _) ?_
    repeat' (first|refine d1 ?_|refine dd ?_|(show T _ (.ops _ (_::_)::_) _ _ _;first|refine T_val rfl (Val.loadA (vs:=c.cells) rfl (fun _=>rdOwn (b:=pa) (fun j u hu=>addL_get hu)) rfl) rfl rfl rfl ?_|refine T_valC rfl (Val.loadA (vs:=c.cells) rfl (fun _=>rdOwn (b:=pa) (fun j u hu=>addL_get hu)) rfl) rfl rfl rfl rfl rfl ?_|refine T_call rfl rfl rfl rfl rfl (fun w hw=>columnPrg_spec c (some ⟨b2,0,none⟩) (some ⟨bb,0,none⟩) 2 2 2 2 [(tkA s.l z.toNat),noTok] [decide (0≤z),decide (0≤k)] w (hg.hst.cls hw) (Src.own hw rfl) rfl (by omega) (Src.own hw rfl) rfl (by omega) hsxy) ?_|refine T_callC rfl rfl rfl rfl rfl rfl rfl (fun hg w hw=>columnPrg_spec c (some ⟨b2,0,none⟩) (some ⟨bb,0,none⟩) 2 2 2 2 [(tkA s.l z.toNat),noTok] [decide (0≤z),decide (0≤k)] w (hg.hst.cls hw) (Src.own hw rfl) rfl (by omega) (Src.own hw rfl) rfl (by omega) hsxy) ?_)|(show T _ (.run _ _ (_::_) _ _::_) _ _ _;first|refine rv rfl rfl rfl (Val.loadA (vs:=c.cells) rfl (fun _=>rdOwn (b:=pa) (fun j u hu=>addL_get hu)) rfl) rfl rfl rfl ?_|refine rg rfl rfl rfl (Val.loadA (vs:=c.cells) rfl (fun _=>rdOwn (b:=pa) (fun j u hu=>addL_get hu)) rfl) rfl rfl rfl rfl rfl ?_|refine rc rfl rfl rfl rfl rfl rfl rfl (fun w hw=>columnPrg_spec c (some ⟨b2,0,none⟩) (some ⟨bb,0,none⟩) 2 2 2 2 [(tkA s.l z.toNat),noTok] [decide (0≤z),decide (0≤k)] w (hg.hst.cls hw) (Src.own hw rfl) rfl (by omega) (Src.own hw rfl) rfl (by omega) hsxy) ?_|refine rcG rfl rfl rfl rfl rfl rfl rfl rfl rfl (fun hg w hw=>columnPrg_spec c (some ⟨b2,0,none⟩) (some ⟨bb,0,none⟩) 2 2 2 2 [(tkA s.l z.toNat),noTok] [decide (0≤z),decide (0≤k)] w (hg.hst.cls hw) (Src.own hw rfl) rfl (by omega) (Src.own hw rfl) rfl (by omega) hsxy) ?_)|(show ∀ _:Nat,T _ _ _ _ _;intro _))
    rw [hcol]
    repeat' (first|refine d1 ?_|refine dd ?_|(show ∀ _:Nat,T _ _ _ _ _;intro _))
    exact T_backX (j+1) (by omega) (by omega) (hE:=⟨rfl,by rw [hput];rfl,trivial⟩) (hG:=Hle.nth 2 rfl)
  ·simp only [decide_eq_false_iff_not] at h1
   repeat' (first|refine d1 ?_|refine dd ?_|(show ∀ _:Nat,T _ _ _ _ _;intro _))
   refine T_if rfl (fun h2=>?_) (fun h2=>?_)
   ·simp only [decide_eq_true_eq] at h2
    obtain⟨b5,o5,rfl⟩:=hts.base (by omega)
    have htr:RdC w b5 (o5+k.toNat * 6) (tkA t k.toNat).cells:=hts.getT (k:=k.toNat) (by omega) (tkA_get (by omega))
    repeat' (first|refine d1 ?_|(show T _ (.ops _ (_::_)::_) _ _ _;refine T_op (OpT.storeA rfl rfl rfl rfl rfl rfl (by decide) ?_))|(show ∀ _:Nat,T _ _ _ _ _;intro _))
    have hcol:columnV c [noTok,(tkA t k.toNat)] [decide (0≤z),decide (0≤k)]=(entC c s.l z t k,0):=by
     rw [col2 hc noTok (tkA t k.toNat) _ _ (fun h9=>absurd (of_decide_eq_true h9) h1) (fun _=>hte _ (tkA_mem2 h2 (by omega)))];unfold entC;simp [h1,h2]
    have hsxy:∀ x∈[noTok,(tkA t k.toNat)],x.small:=by
     intro x hx
     simp only [List.mem_cons,List.mem_nil_iff,or_false] at hx
     rcases hx with rfl|rfl
     ·exact noTok_small
     ·exact hsm _ (tkA_mem2 h2 (by omega))
    refine T_le (H':=[blk bb ([decide (0≤z),decide (0≤k)].map Value.bool) 4,blk b2 ([noTok,(tkA t k.toNat)].flatMap Tok.cells) 62,blk pa (addL c (.slice (some ⟨b,o,none⟩) n ca) (.slice Ak nk ck) (.slice (some ⟨b5,o5,none⟩) m ct) (.slice Ab nb cb)) 153]) (Hle.refl _) ?_
    repeat' (first|refine d1 ?_|refine dd ?_|(show T _ (.ops _ (_::_)::_) _ _ _;first|refine T_val rfl (Val.loadA (vs:=c.cells) rfl (fun _=>rdOwn (b:=pa) (fun j u hu=>addL_get hu)) rfl) rfl rfl rfl ?_|refine T_valC rfl (Val.loadA (vs:=c.cells) rfl (fun _=>rdOwn (b:=pa) (fun j u hu=>addL_get hu)) rfl) rfl rfl rfl rfl rfl ?_|refine T_call rfl rfl rfl rfl rfl (fun w hw=>columnPrg_spec c (some ⟨b2,0,none⟩) (some ⟨bb,0,none⟩) 2 2 2 2 [noTok,(tkA t k.toNat)] [decide (0≤z),decide (0≤k)] w (hg.hst.cls hw) (Src.own hw rfl) rfl (by omega) (Src.own hw rfl) rfl (by omega) hsxy) ?_|refine T_callC rfl rfl rfl rfl rfl rfl rfl (fun hg w hw=>columnPrg_spec c (some ⟨b2,0,none⟩) (some ⟨bb,0,none⟩) 2 2 2 2 [noTok,(tkA t k.toNat)] [decide (0≤z),decide (0≤k)] w (hg.hst.cls hw) (Src.own hw rfl) rfl (by omega) (Src.own hw rfl) rfl (by omega) hsxy) ?_)|(show T _ (.run _ _ (_::_) _ _::_) _ _ _;first|refine rv rfl rfl rfl (Val.loadA (vs:=c.cells) rfl (fun _=>rdOwn (b:=pa) (fun j u hu=>addL_get hu)) rfl) rfl rfl rfl ?_|refine rg rfl rfl rfl (Val.loadA (vs:=c.cells) rfl (fun _=>rdOwn (b:=pa) (fun j u hu=>addL_get hu)) rfl) rfl rfl rfl rfl rfl ?_|refine rc rfl rfl rfl rfl rfl rfl rfl (fun w hw=>columnPrg_spec c (some ⟨b2,0,none⟩) (some ⟨bb,0,none⟩) 2 2 2 2 [noTok,(tkA t k.toNat)] [decide (0≤z),decide (0≤k)] w (hg.hst.cls hw) (Src.own hw rfl) rfl (by omega) (Src.own hw rfl) rfl (by omega) hsxy) ?_|refine rcG rfl rfl rfl rfl rfl rfl rfl rfl rfl (fun hg w hw=>columnPrg_spec c (some ⟨b2,0,none⟩) (some ⟨bb,0,none⟩) 2 2 2 2 [noTok,(tkA t k.toNat)] [decide (0≤z),decide (0≤k)] w (hg.hst.cls hw) (Src.own hw rfl) rfl (by omega) (Src.own hw rfl) rfl (by omega) hsxy) ?_)|(show ∀ _:Nat,T _ _ _ _ _;intro _))
    rw [hcol]
    repeat' (first|refine d1 ?_|refine dd ?_|(show ∀ _:Nat,T _ _ _ _ _;intro _))
    exact T_backX (j+1) (by omega) (by omega) (hE:=⟨rfl,by rw [hput];rfl,trivial⟩) (hG:=Hle.nth 2 rfl)
   ·simp only [decide_eq_false_iff_not] at h2
    have hcol:columnV c [noTok,noTok] [decide (0≤z),decide (0≤k)]=(entC c s.l z t k,0):=by
     rw [col2 hc noTok noTok _ _ (fun h9=>absurd (of_decide_eq_true h9) h1) (fun h9=>absurd (of_decide_eq_true h9) h2)];unfold entC;simp [h1,h2]
    have hsxy:∀ x∈[noTok,noTok],x.small:=by
     intro x hx
     simp only [List.mem_cons,List.mem_nil_iff,or_false] at hx
     rcases hx with rfl|rfl
     ·exact noTok_small
     ·exact noTok_small
    refine T_le (H':=[blk bb ([decide (0≤z),decide (0≤k)].map Value.bool) 4,blk b2 ([noTok,noTok].flatMap Tok.cells) 62,blk pa (addL c (.slice (some ⟨b,o,none⟩) n ca) (.slice Ak nk ck) (.slice At m ct) (.slice Ab nb cb)) 153]) (Hle.refl _) ?_
    repeat' (first|refine d1 ?_|refine dd ?_|(show T _ (.ops _ (_::_)::_) _ _ _;first|refine T_val rfl (Val.loadA (vs:=c.cells) rfl (fun _=>rdOwn (b:=pa) (fun j u hu=>addL_get hu)) rfl) rfl rfl rfl ?_|refine T_valC rfl (Val.loadA (vs:=c.cells) rfl (fun _=>rdOwn (b:=pa) (fun j u hu=>addL_get hu)) rfl) rfl rfl rfl rfl rfl ?_|refine T_call rfl rfl rfl rfl rfl (fun w hw=>columnPrg_spec c (some ⟨b2,0,none⟩) (some ⟨bb,0,none⟩) 2 2 2 2 [noTok,noTok] [decide (0≤z),decide (0≤k)] w (hg.hst.cls hw) (Src.own hw rfl) rfl (by omega) (Src.own hw rfl) rfl (by omega) hsxy) ?_|refine T_callC rfl rfl rfl rfl rfl rfl rfl (fun hg w hw=>columnPrg_spec c (some ⟨b2,0,none⟩) (some ⟨bb,0,none⟩) 2 2 2 2 [noTok,noTok] [decide (0≤z),decide (0≤k)] w (hg.hst.cls hw) (Src.own hw rfl) rfl (by omega) (Src.own hw rfl) rfl (by omega) hsxy) ?_)|(show T _ (.run _ _ (_::_) _ _::_) _ _ _;first|refine rv rfl rfl rfl (Val.loadA (vs:=c.cells) rfl (fun _=>rdOwn (b:=pa) (fun j u hu=>addL_get hu)) rfl) rfl rfl rfl ?_|refine rg rfl rfl rfl (Val.loadA (vs:=c.cells) rfl (fun _=>rdOwn (b:=pa) (fun j u hu=>addL_get hu)) rfl) rfl rfl rfl rfl rfl ?_|refine rc rfl rfl rfl rfl rfl rfl rfl (fun w hw=>columnPrg_spec c (some ⟨b2,0,none⟩) (some ⟨bb,0,none⟩) 2 2 2 2 [noTok,noTok] [decide (0≤z),decide (0≤k)] w (hg.hst.cls hw) (Src.own hw rfl) rfl (by omega) (Src.own hw rfl) rfl (by omega) hsxy) ?_|refine rcG rfl rfl rfl rfl rfl rfl rfl rfl rfl (fun hg w hw=>columnPrg_spec c (some ⟨b2,0,none⟩) (some ⟨bb,0,none⟩) 2 2 2 2 [noTok,noTok] [decide (0≤z),decide (0≤k)] w (hg.hst.cls hw) (Src.own hw rfl) rfl (by omega) (Src.own hw rfl) rfl (by omega) hsxy) ?_)|(show ∀ _:Nat,T _ _ _ _ _;intro _))
    rw [hcol]
    repeat' (first|refine d1 ?_|refine dd ?_|(show ∀ _:Nat,T _ _ _ _ _;intro _))
    exact T_backX (j+1) (by omega) (by omega) (hE:=⟨rfl,by rw [hput];rfl,trivial⟩) (hG:=Hle.nth 2 rfl)
 ·simp only [decide_eq_false_iff_not] at h
  rw [putS_all c t k (by omega)]
  repeat' (first|refine d1 ?_|refine dd ?_|(show ∀ _:Nat,T _ _ _ _ _;intro _)|(show T _ (.code .ret::_) _ _ _;refine T_retV [] rfl (Hle.none _) ⟨rfl,rfl⟩))
end Go.Proofs.YthadgaboakipoaaGreatDoor
namespace Go.Proofs.YthadgaboakipoaaGreatDoor
open Go.RowKit Go.Shelf Go.Proofs
set_option maxRecDepth 100000
set_option maxHeartbeats 1000000

def tsA (l:List TS) (i:Nat):TS:=l.getD i ⟨none,0,0,[]⟩
theorem tsA_eq {l:List TS} {i:Nat} {t:TS} (h:l[i]?=some t):tsA l i=t:=by unfold tsA;rw [List.getD_eq_getElem?_getD,h];rfl
theorem tsA_len {l:List TS} (h:∀ t∈l,t.l.length≤1000) (i:Nat):(tsA l i).l.length≤1000:=by
 unfold tsA
 rw [List.getD_eq_getElem?_getD]
 cases hi:l[i]? with
 | none=>exact Nat.zero_le _
 | some t=>exact h t (List.mem_of_getElem? hi)
def dstT (c:Costs) (l:List TS) (i k:Nat):Int:=if i<k then rst (grdOf c (tsA l i).l (tsA l k).l) 0 0 else if k<i then rst (grdOf c (tsA l k).l (tsA l i).l) 0 0 else 0
theorem dstT_sym (c:Costs) (l:List TS):Sym (dstT c l):=⟨fun i=>by unfold dstT;rw [if_neg (by omega),if_neg (by omega)],fun i k=>by
 unfold dstT
 rcases Nat.lt_trichotomy i k with h|h|h
 ·rw [if_pos h,if_neg (by omega),if_pos h]
 ·subst h;rfl
 ·rw [if_neg (by omega),if_pos h,if_pos h]⟩
theorem dstT_bd {c:Costs} (hc:costE c=0) {l:List TS} (h:∀ t∈l,t.l.length≤1000) (i k:Nat):0≤dstT c l i k∧dstT c l i k≤2000000:=by
 unfold dstT
 (repeat' split)
 ·exact rst_bd2 (grdOf_ok hc _ _) rfl rfl (tsA_len h _) (tsA_len h _) 0 0
 ·exact rst_bd2 (grdOf_ok hc _ _) rfl rfl (tsA_len h _) (tsA_len h _) 0 0
 ·omega
theorem Grp.len {w:World} {A:Option Addr} {n:Nat} {l:List TS} (hg:Grp w A n l):∀ t∈l,t.l.length≤1000:=fun t ht=>by
 have:=hg.ok.len t ht
 have:=hg.nb t ht
 omega
theorem Grp.two {w:World} {A:Option Addr} {n:Nat} {l:List TS} (hg:Grp w A n l) {s t:TS} (hs:s∈l) (ht:t∈l):Two w s.A t.A s.n t.n s.l t.l :=
 ⟨hg.hst,hg.ok.src s hs,hg.ok.len s hs,hg.nb s hs,hg.ok.src t ht,hg.ok.len t ht,hg.nb t ht,hg.sm s hs,hg.sm t ht⟩
theorem dst_V {c:Costs} {l:List TS} (hc:costE c=0) (hbs:badS l=false) {i k:Nat} {s t:TS} (hs:l[i]?=some s) (ht:l[k]?=some t) (h:i<k):distV c s.l t.l=(dstT c l i k,0):=by
 have e:ckV c s.l t.l=0:=by
  unfold ckV
  rw [if_neg]
  have h1:=badL_false.2 (badS_ok hbs s (List.mem_of_getElem? hs))
  have h2:=badL_false.2 (badS_ok hbs t (List.mem_of_getElem? ht))
  rw [h1,h2]
  simp [hc]
 unfold distV dstT
 rw [if_pos e,if_pos h,tsA_eq hs,tsA_eq ht]
def slw (n:Nat) (x:Nat × List Value):Value := .slice (some ⟨x.1,0,none⟩) n n
theorem slw_set {n k g:Nat} {cs cs':List Value} {M:List (Nat × List Value)} (h:M[k]?=some (g,cs)):(M.set k (g,cs')).map (slw n)=M.map (slw n):=by
 have e0:∀ L:List (Nat × List Value),L.map (slw n)=(L.map Prod.fst).map fun g=>Value.slice (some ⟨g,0,none⟩) n n:=fun L=>by rw [List.map_map];rfl
 rw [e0,e0 M,fst_set h]
theorem InP.up {n i k:Nat} {p:Nat × Nat} (h:InP n i k p):InP n i (k+1) p:=⟨h.1,h.2.1,by
 rcases h.2.2 with h3|h3|h3
 ·exact .inl h3
 ·exact .inr (.inl h3)
 ·exact .inr (.inr ⟨h3.1,by omega⟩)⟩
def natV (x:Nat):Value := .int .i64 (x:Nat)
def intN (l:List Nat):List Int:=l.map fun (x:Nat)=>(x:Int)
theorem intN_val (l:List Nat):(intN l).map (Value.int .i64)=l.map natV:=by unfold intN natV;rw [List.map_map];rfl
theorem intN_any (l:List Nat) (i:Nat):((intN l).any fun x=>decide ((i:Int)=x))=tkOf l i:=by
 unfold intN tkOf
 rw [List.any_map]
 congr 1
 funext x
 exact decide_eq_decide.2 (by dsimp only [Function.comp];omega)
theorem intN_mem {l:List Nat} {z:Int} (h:z∈intN l):∃ a:Nat,a∈l∧z=(a:Nat):=by
 obtain⟨a,h1,h2⟩:=List.mem_map.1 h
 exact⟨a,h1,h2.symm⟩
theorem intN_D (l:List Nat):intsD (intN l) = .s 1 ((l.map natV).map .v):=by
 unfold intsD;rw [← intN_val,List.map_map];rfl
def OutOk (D:Nat→Nat→Int) (n:Nat) (out:List Nat):Prop:=(n<2∧out=orderV D n)∨(2≤n∧∃ j,out=ordJ D n j)
theorem OutOk.start (D:Nat→Nat→Int) (n:Nat):OutOk D n ([(selI D n n).1,(selI D n n).2].take (min n 2)):=by
 rcases Nat.lt_or_ge n 2 with h|h
 ·refine .inl ⟨h,?_⟩
  rcases (show n=0∨n=1 by omega) with rfl|rfl
  ·rfl
  ·have e:selI D 1 1=(0,1):=selK_low D 0 (0,1) 1 (by omega)
   rw [e];rfl
 ·refine .inr ⟨h,0,?_⟩
  rw [Nat.min_eq_right h];rfl
theorem OutOk.all {D:Nat→Nat→Int} {n:Nat} {out:List Nat} (h:OutOk D n out) (hl:out.length=n):out=orderV D n:=by
 rcases h with h|⟨h,j,rfl⟩
 ·exact h.2
 ·rw [ordJ_len] at hl
  unfold orderV
  rw [if_neg (by omega),if_neg (by omega),show n - 2=j by omega]
theorem OutOk.next {D:Nat→Nat→Int} {n:Nat} {out:List Nat} (h:OutOk D n out) (hl:out.length<n):2≤n∧(∃ j,out=ordJ D n j∧j+2<n)∧OutOk D n (out++[nxtO D n out]):=by
 rcases h with h|⟨h,j,rfl⟩
 ·rw [h.2,orderV_len] at hl;omega
 ·rw [ordJ_len] at hl
  exact⟨h,⟨j,rfl,by omega⟩, .inr ⟨h,j+1,rfl⟩⟩
theorem scanP_tk {near:Nat→Int} {tk:Nat→Bool} {i:Nat} (h:tk i=true):scanP near tk (i+1)=scanP near tk i:=by simp [scanP,h]
theorem scanP_no {near:Nat→Int} {tk:Nat→Bool} {i:Nat} (h:tk i=false):scanP near tk (i+1)=if (scanP near tk i).1<0∨near i<(scanP near tk i).2 then ((i:Int),near i) else scanP near tk i:=by simp [scanP,h]
theorem order21_spec (c:Costs) (A:Option Addr) (n ca:Nat) (l:List TS) (w:World) (hg:Grp w A n l) (hc:costE c=0) (hbs:badS l=false) :
  Spec Tryz.prog 44 [c.val, .slice A n ca] w (fun v R=>∃ x:Value,True∧v = .tuple #[x, .int .i64 0]∧R=[dat [x] [intsD (intN (orderV (dstT c l) n))]]):=by
 have hb:=hg.hb
 have hn:=hg.hn
 have hD:=dstT_sym c l
 have hbd:=dstT_bd hc hg.len
 refine spec_of sg Tryz.func44 rfl rfl rfl ?_
 refine T_op (OpT.box (cs:=c.cells) rfl rfl rfl rfl rfl rfl rfl (fun pc=>?_))
 repeat' (first|refine d1 ?_|refine dd ?_|(show T _ (.ops _ (_::_)::_) _ _ _;refine T_op (OpT.make rfl rfl rfl rfl rfl rfl rfl rfl rfl (by dsimp only;omega) (fun b1=>?_)))|(show ∀ _:Nat,T _ _ _ _ _;intro _))
 rename_i p7
 refine T_nilblks 3 ?_
 refine T_loopX (fun L:List (Nat × List Value)=>[(26, .int .i64 L.length)]) (fun L=>[blks 3 L,blk p7 [.slice (some ⟨b1,0,none⟩) n n] 47,blk b1 (L.map (slw n)++List.replicate (n - L.length) (.slice none 0 0)) 27,blk pc c.cells 23]) (fun L=>L.length≤n∧RowsOk (fun _ _=>0) n L) (fun L=>n - L.length) [] ⟨Nat.zero_le _,fun i x h=>by simp at h⟩ ?_
 rintro L ⟨hL,hR⟩
 repeat' (first|refine d1 ?_|refine dd ?_|(show ∀ _:Nat,T _ _ _ _ _;intro _))
 refine T_if rfl (fun h=>?_) (fun h=>?_)
 ·simp only [decide_eq_true_eq] at h
  have hlt:L.length<n:=by omega
  repeat' (first|refine d1 ?_|refine dd ?_|(show T _ (.run _ _ (_::_) _ _::_) _ _ _;refine ro rfl rfl (OpT.make rfl rfl rfl rfl rfl rfl rfl rfl rfl (by dsimp only;omega) (fun b2=>⟨fun _=>Hle.sub,?_⟩)))|(show ∀ _:Nat,T _ _ _ _ _;intro _))
  refine T_backX (L++[(b2,List.replicate n (.int .i64 0))]) ⟨by simp;omega,rows_snoc0 hR⟩ (by simp;omega) (hE:=⟨by rw [List.length_append];rfl,trivial⟩) (hG:=?_)
  show Hle [blk b2 (List.replicate n (.int .i64 0)) 3,blks 3 L,blk p7 _ _,blk b1 ((L.map (slw n)++List.replicate (n - L.length) (Value.slice none 0 0)).set (0+(L.length:Int).toNat * 1) (Value.slice (some ⟨b2,0,none⟩) n n)) _,_] _
  rw [show 0+(L.length:Int).toNat * 1=L.length by omega,set_boundary _ _ _ _ _ (by omega) (by simp)]
  have e:L.map (slw n)++[Value.slice (some ⟨b2,0,none⟩) n n]++List.replicate (n - L.length - 1) (Value.slice none 0 0)=(L++[(b2,List.replicate n (Value.int .i64 0))]).map (slw n)++List.replicate (n - (L++[(b2,List.replicate n (Value.int .i64 0))]).length) (Value.slice none 0 0):=by
   rw [List.map_append,List.length_append,show n - L.length - 1=n - (L.length+1) by omega];rfl
  rw [e]
  exact blks_snoc
 simp only [decide_eq_false_iff_not] at h
 have hLn:L.length=n:=by omega
 have e:L.map (slw n)++List.replicate (n - L.length) (Value.slice none 0 0)=L.map (slw n):=by rw [hLn,Nat.sub_self];simp
 rw [e]
 have hR0:RowsOk (tbl (dstT c l) 0 0) n L:=hR.ext hLn fun p q _ _=>(tbl_zero _ p q).symm
 repeat' (first|refine d1 ?_|refine dd ?_|(show ∀ _:Nat,T _ _ _ _ _;intro _))
 refine T_loopX (fun s:Nat × List (Nat × List Value)=>[(36, .int .i64 s.1),(9, .int .i64 ((selI (dstT c l) n s.1).1:Nat)),(10, .int .i64 ((selI (dstT c l) n s.1).2:Nat))]) (fun s=>[blks 3 s.2,blk p7 [.slice (some ⟨b1,0,none⟩) n n] 47,blk b1 (s.2.map (slw n)) 27,blk pc c.cells 23]) (fun s=>s.1≤n∧s.2.length=n∧RowsOk (tbl (dstT c l) s.1 0) n s.2) (fun s=>n - s.1) (0,L) ⟨Nat.zero_le _,hLn,hR0⟩ ?_
 rintro⟨i,M⟩ ⟨hi,hM,hR2⟩
 dsimp only at hi hM hR2 ⊢
 repeat' (first|refine d1 ?_|refine dd ?_|(show ∀ _:Nat,T _ _ _ _ _;intro _))
 refine T_if rfl (fun h1=>?_) (fun h1=>?_)
 ·simp only [decide_eq_true_eq] at h1
  have hin:i<n:=by omega
  repeat' (first|refine d1 ?_|refine dd ?_|(show ∀ _:Nat,T _ _ _ _ _;intro _))
  refine T_loopX (fun s:Nat × List (Nat × List Value)=>[(12, .int .i64 s.1),(9, .int .i64 ((selK (dstT c l) i (selI (dstT c l) n i) s.1).1:Nat)),(10, .int .i64 ((selK (dstT c l) i (selI (dstT c l) n i) s.1).2:Nat))]) (fun s=>[blks 3 s.2,blk p7 [.slice (some ⟨b1,0,none⟩) n n] 47,blk b1 (s.2.map (slw n)) 27,blk pc c.cells 23]) (fun s=>i+1≤s.1∧s.1≤n∧s.2.length=n∧RowsOk (tbl (dstT c l) i s.1) n s.2) (fun s=>n - s.1) (i+1,M) ⟨Nat.le_refl _,hin,hM,hR2.ext hM fun p q _ _=>(tbl_low hD i p q).symm⟩ ?_ (hE:=⟨rfl,by rw [selK_low _ _ _ _ (Nat.le_refl _)];rfl,by rw [selK_low _ _ _ _ (Nat.le_refl _)];rfl,trivial⟩)
  rintro⟨k,M2⟩ ⟨hk1,hk2,hM2,hR3⟩
  dsimp only at hk1 hk2 hM2 hR3 ⊢
  repeat' (first|refine d1 ?_|refine dd ?_|(show ∀ _:Nat,T _ _ _ _ _;intro _))
  refine T_if rfl (fun h2=>?_) (fun h2=>?_)
  ·simp only [decide_eq_true_eq] at h2
   have hkn:k<n:=by omega
   have hik:i<k:=by omega
   obtain⟨b,o,rfl⟩:=hg.hs.base (by omega)
   obtain⟨s,hs,hsm,hrs⟩:=hg.get hin
   obtain⟨t,ht,htm,hrt⟩:=hg.get hkn
   have hd:=dst_V hc hbs hs ht hik
   have hbk:=hbd i k
   have hin1:=selK_in (D:=dstT c l) (selI_in (D:=dstT c l) (n:=n) (by omega) i (by omega)) k hk2
   have hst:=selK_step (D:=dstT c l) (fs:=selI (dstT c l) n i) hik
   generalize selK (dstT c l) i (selI (dstT c l) n i) k=fs at hin1 hst ⊢
   obtain⟨f,s2⟩:=fs
   have hin2:=hin1.up
   have htb:=tbl_in (D:=dstT c l) hik hin2
   obtain⟨hfs1,hfs2,-⟩:=hin2
   dsimp only at htb hfs1 hfs2 ⊢
   repeat' (first|refine d1 ?_|refine dd ?_|(show T _ (.ops _ (_::_)::_) _ _ _;first|refine T_call rfl rfl rfl rfl rfl (fun w hw=>distancePrg_spec c s.A t.A s.n t.n s.cap t.cap s.l t.l w ((hg.cls hw).two hsm htm)) ?_|refine T_callC rfl rfl rfl rfl rfl rfl rfl (fun hg w hw=>distancePrg_spec c s.A t.A s.n t.n s.cap t.cap s.l t.l w ((hg.cls hw).two hsm htm)) ?_)|(show T _ (.run _ _ (_::_) _ _::_) _ _ _;first|refine rc rfl rfl rfl rfl rfl rfl rfl (fun w hw=>distancePrg_spec c s.A t.A s.n t.n s.cap t.cap s.l t.l w ((hg.cls hw).two hsm htm)) ?_|refine rcG rfl rfl rfl rfl rfl rfl rfl rfl rfl (fun hg w hw=>distancePrg_spec c s.A t.A s.n t.n s.cap t.cap s.l t.l w ((hg.cls hw).two hsm htm)) ?_)|(show ∀ _:Nat,T _ _ _ _ _;intro _))
   rw [hd]
   refine T_if rfl (fun h3=>by exfalso;simp at h3) (fun h3=>?_)
   obtain⟨⟨gi,ci⟩,hLi⟩:∃ x,M2[i]?=some x:=⟨_,List.getElem?_eq_getElem (by omega)⟩
   obtain⟨⟨gq,cq⟩,hLq⟩:∃ x,M2[k]?=some x:=⟨_,List.getElem?_eq_getElem (by omega)⟩
   have hcil:ci.length=n:=by rw [show ci=_ from hR3 _ _ hLi,valV_length]
   have hcql:cq.length=n:=by rw [show cq=_ from hR3 _ _ hLq,valV_length]
   have hne:i≠k:=by omega
   have hLq':∀ x,(M2.set i x)[k]?=some (gq,cq):=fun x=>by rw [List.getElem?_set_ne hne];exact hLq
   refine rsH [blk p7 [.slice (some ⟨b1,0,none⟩) n n] 47,blk b1 (M2.map (slw n)) 27] 1000 [0,1,2,3,4,5,6,7,8,9,10,11,12,13,14,15] ?_
   repeat' (first|refine d1 ?_|refine dd ?_|(show T _ (.ops _ (_::_)::_) _ _ _;first|refine T_val rfl (Val.load rfl (fun hg=>rdOwn1 (u := .slice (some ⟨gi,0,none⟩) n n) (b:=b1) (by rw [show 0+(i:Int).toNat * 1=i by omega,List.getElem?_map,hLi];rfl))) rfl rfl rfl ?_|refine T_valC rfl (Val.load rfl (fun hg=>rdOwn1 (u := .slice (some ⟨gi,0,none⟩) n n) (b:=b1) (by rw [show 0+(i:Int).toNat * 1=i by omega,List.getElem?_map,hLi];rfl))) rfl rfl rfl rfl rfl ?_|refine T_val rfl (Val.load rfl (fun hg=>rdOwn1 (u := .slice (some ⟨gq,0,none⟩) n n) (b:=b1) (by rw [show 0+(k:Int).toNat * 1=k by omega,List.getElem?_map,hLq];rfl))) rfl rfl rfl ?_|refine T_valC rfl (Val.load rfl (fun hg=>rdOwn1 (u := .slice (some ⟨gq,0,none⟩) n n) (b:=b1) (by rw [show 0+(k:Int).toNat * 1=k by omega,List.getElem?_map,hLq];rfl))) rfl rfl rfl rfl rfl ?_)|(show T _ (.run _ _ (_::_) _ _::_) _ _ _;first|refine rv rfl rfl rfl (Val.load rfl (fun hg=>rdOwn1 (u := .slice (some ⟨gi,0,none⟩) n n) (b:=b1) (by rw [show 0+(i:Int).toNat * 1=i by omega,List.getElem?_map,hLi];rfl))) rfl rfl rfl ?_|refine rg rfl rfl rfl (Val.load rfl (fun hg=>rdOwn1 (u := .slice (some ⟨gi,0,none⟩) n n) (b:=b1) (by rw [show 0+(i:Int).toNat * 1=i by omega,List.getElem?_map,hLi];rfl))) rfl rfl rfl rfl rfl ?_|refine rv rfl rfl rfl (Val.load rfl (fun hg=>rdOwn1 (u := .slice (some ⟨gq,0,none⟩) n n) (b:=b1) (by rw [show 0+(k:Int).toNat * 1=k by omega,List.getElem?_map,hLq];rfl))) rfl rfl rfl ?_|refine rg rfl rfl rfl (Val.load rfl (fun hg=>rdOwn1 (u := .slice (some ⟨gq,0,none⟩) n n) (b:=b1) (by rw [show 0+(k:Int).toNat * 1=k by omega,List.getElem?_map,hLq];rfl))) rfl rfl rfl rfl rfl ?_|refine ro rfl rfl (OpT.storeM rfl rfl rfl hLi rfl (by omega) ⟨fun _=>Hle.sub,?_⟩)|refine ro rfl rfl (OpT.storeM rfl rfl rfl (k:=k) (cs:=cq) (hLq' _) rfl (by omega) ⟨fun _=>Hle.sub,?_⟩))|(show ∀ _:Nat,T _ _ _ _ _;intro _))
   rw [show 0+(k:Int).toNat * 1=k by omega,show 0+(i:Int).toNat * 1=i by omega]
   have hR4:RowsOk (tbl (dstT c l) i (k+1)) n ((M2.set i (gi,ci.set k (.int .i64 (dstT c l i k)))).set k (gq,cq.set i (.int .i64 (dstT c l i k)))) :=
    rows_put (f:=fun p q=>if p=i∧q=k then dstT c l i k else tbl (dstT c l) i k p q) (rows_put hR3 hLi (fun _ _=>rfl)) (hLq' _) (fun p q=>tbl_step hD hik p q)
   have hM4:((M2.set i (gi,ci.set k (.int .i64 (dstT c l i k)))).set k (gq,cq.set i (.int .i64 (dstT c l i k)))).length=n:=by rw [List.length_set,List.length_set];exact hM2
   have eM:((M2.set i (gi,ci.set k (.int .i64 (dstT c l i k)))).set k (gq,cq.set i (.int .i64 (dstT c l i k)))).map (slw n)=M2.map (slw n):=by rw [slw_set (hLq' _),slw_set hLi]
   generalize (M2.set i (gi,ci.set k (.int .i64 (dstT c l i k)))).set k (gq,cq.set i (.int .i64 (dstT c l i k)))=M4 at hR4 hM4 eM ⊢
   rw [← eM]
   obtain⟨⟨gf,cf⟩,hLf⟩:∃ x,M4[f]?=some x:=⟨_,List.getElem?_eq_getElem (by omega)⟩
   have hcf:cf=_:=hR4 _ _ hLf
   repeat' (first|refine d1 ?_|refine dd ?_|(show T _ (.ops _ (_::_)::_) _ _ _;first|refine T_val rfl (Val.load rfl (fun hg=>rdOwn1 (u := .slice (some ⟨gf,0,none⟩) n n) (b:=b1) (by rw [show 0+(f:Int).toNat * 1=f by omega,List.getElem?_map,hLf];rfl))) rfl rfl rfl ?_|refine T_valC rfl (Val.load rfl (fun hg=>rdOwn1 (u := .slice (some ⟨gf,0,none⟩) n n) (b:=b1) (by rw [show 0+(f:Int).toNat * 1=f by omega,List.getElem?_map,hLf];rfl))) rfl rfl rfl rfl rfl ?_|refine T_val rfl (Val.load rfl (fun hg=>rdM (l:=M4) (k:=f) (g:=gf) (vs:=[.int .i64 (dstT c l f s2)]) hLf (get1 (by rw [hcf, ← htb];exact vget s2 (by omega) (by omega))))) rfl rfl rfl ?_|refine T_valC rfl (Val.load rfl (fun hg=>rdM (l:=M4) (k:=f) (g:=gf) (vs:=[.int .i64 (dstT c l f s2)]) hLf (get1 (by rw [hcf, ← htb];exact vget s2 (by omega) (by omega))))) rfl rfl rfl rfl rfl ?_)|(show T _ (.run _ _ (_::_) _ _::_) _ _ _;first|refine rv rfl rfl rfl (Val.load rfl (fun hg=>rdOwn1 (u := .slice (some ⟨gf,0,none⟩) n n) (b:=b1) (by rw [show 0+(f:Int).toNat * 1=f by omega,List.getElem?_map,hLf];rfl))) rfl rfl rfl ?_|refine rg rfl rfl rfl (Val.load rfl (fun hg=>rdOwn1 (u := .slice (some ⟨gf,0,none⟩) n n) (b:=b1) (by rw [show 0+(f:Int).toNat * 1=f by omega,List.getElem?_map,hLf];rfl))) rfl rfl rfl rfl rfl ?_|refine rv rfl rfl rfl (Val.load rfl (fun hg=>rdM (l:=M4) (k:=f) (g:=gf) (vs:=[.int .i64 (dstT c l f s2)]) hLf (get1 (by rw [hcf, ← htb];exact vget s2 (by omega) (by omega))))) rfl rfl rfl ?_|refine rg rfl rfl rfl (Val.load rfl (fun hg=>rdM (l:=M4) (k:=f) (g:=gf) (vs:=[.int .i64 (dstT c l f s2)]) hLf (get1 (by rw [hcf, ← htb];exact vget s2 (by omega) (by omega))))) rfl rfl rfl rfl rfl ?_)|(show ∀ _:Nat,T _ _ _ _ _;intro _))
   refine T_if rfl (fun h4=>?_) (fun h4=>?_)
   ·simp only [decide_eq_true_eq] at h4
    have hst2:selK (dstT c l) i (selI (dstT c l) n i) (k+1)=(i,k):=by rw [hst];exact if_pos h4
    repeat' (first|refine d1 ?_|refine dd ?_|(show ∀ _:Nat,T _ _ _ _ _;intro _))
    exact T_backX (k+1,M4) ⟨by dsimp only;omega,by dsimp only;omega,hM4,hR4⟩ (by dsimp only;omega) (hE:=⟨rfl,by rw [hst2];rfl,by rw [hst2];rfl,trivial⟩)
   ·simp only [decide_eq_false_iff_not] at h4
    have hst2:selK (dstT c l) i (selI (dstT c l) n i) (k+1)=(f,s2):=by rw [hst];exact if_neg h4
    repeat' (first|refine d1 ?_|refine dd ?_|(show ∀ _:Nat,T _ _ _ _ _;intro _))
    exact T_backX (k+1,M4) ⟨by dsimp only;omega,by dsimp only;omega,hM4,hR4⟩ (by dsimp only;omega) (hE:=⟨rfl,by rw [hst2];rfl,by rw [hst2];rfl,trivial⟩)
  ·simp only [decide_eq_false_iff_not] at h2
   obtain rfl:k=n:=by omega
   repeat' (first|refine d1 ?_|refine dd ?_|(show ∀ _:Nat,T _ _ _ _ _;intro _))
   exact T_backX (i+1,M2) ⟨hin,hM2,hR3.ext hM2 fun p q hp hq=>tbl_next i p q hp hq⟩ (by dsimp only;omega)
 simp only [decide_eq_false_iff_not] at h1
 obtain rfl:i=n:=by omega
 have hRD:RowsOk (dstT c l) i M:=hR2.ext hM fun p q hp hq=>tbl_all p q hp hq
 repeat' (first|refine d1 ?_|refine dd ?_|(show ∀ _:Nat,T _ _ _ _ _;intro _))
 rename_i b3
 have ho0:=OutOk.start (dstT c l) i
 have hl0:([(selI (dstT c l) i i).1,(selI (dstT c l) i i).2].take (min i 2)).length=min i 2:=by rw [List.length_take];simp
 refine T_le (H':=[row 3 1 (some ⟨b3,0,none⟩) 2 (min i 2) (([(selI (dstT c l) i i).1,(selI (dstT c l) i i).2].take (min i 2)).map natV),blks 3 M,blk p7 [.slice (some ⟨b1,0,none⟩) i i] 47,blk b1 (M.map (slw i)) 27,blk pc c.cells 23]) (Hle.weaken (i:=0) rfl (fun f hf=>by rw [List.map_take];exact blk_row_take (by simp;omega) (by simp [maxLen]) f hf) rfl) ?_
 generalize [(selI (dstT c l) i i).1,(selI (dstT c l) i i).2].take (min i 2)=out0 at ho0 hl0 ⊢
 refine T_loopX (fun x:(Option Addr × Nat) × List Nat=>[(15, .slice x.1.1 x.2.length x.1.2)]) (fun x=>[row 3 1 x.1.1 x.1.2 x.2.length (x.2.map natV),blks 3 M,blk p7 [.slice (some ⟨b1,0,none⟩) i i] 47,blk b1 (M.map (slw i)) 27,blk pc c.cells 23]) (fun x=>x.2.length≤i∧OutOk (dstT c l) i x.2) (fun x=>i - x.2.length) ((some ⟨b3,0,none⟩,2),out0) ⟨by dsimp only;omega,ho0⟩ ?_ (hE:=⟨by dsimp only;rw [hl0,show min i 2=(min (i:Int) 2).toNat by omega];rfl,trivial⟩) (hG:=by dsimp only;rw [hl0];exact Hle.refl _)
 rintro⟨⟨Ao,cap⟩,out⟩ ⟨hol,hok⟩
 dsimp only at hol hok ⊢
 repeat' (first|refine d1 ?_|refine dd ?_|(show ∀ _:Nat,T _ _ _ _ _;intro _))
 refine T_if rfl (fun h2=>?_) (fun h2=>?_)
 ·simp only [decide_eq_true_eq] at h2
  have hl:out.length<i:=by omega
  obtain⟨h2i,⟨j,hoj,hj2⟩,hok2⟩:=hok.next hl
  obtain⟨hnd,hlt⟩:=ordJ_ok (D:=dstT c l) (fun i k=>(hbd i k).1) h2i j (by omega)
  rw [← hoj] at hnd hlt
  have hne:out≠[]:=fun h=>by rw [h] at hoj;have:=ordJ_len (dstT c l) i j;rw [← hoj] at this;simp at this
  have hnl:=nxtO_law (D:=dstT c l) (fun i k=>(hbd i k).1) hne hlt hl
  have hpos:0<out.length:=List.length_pos_iff.2 hne
  refine T_rowpos (A:=Ao) hpos (fun g e=>?_)
  subst e
  repeat' (first|refine d1 ?_|refine dd ?_|(show ∀ _:Nat,T _ _ _ _ _;intro _))
  refine T_loopX (fun q:Nat=>[(99, .int .i64 q),(16, .int .i64 (scanP (nearV (dstT c l) out) (tkOf out) q).1),(17, .int .i64 (scanP (nearV (dstT c l) out) (tkOf out) q).2)]) (fun _=>[row 3 1 (some ⟨g,0,none⟩) cap out.length (out.map natV),blks 3 M,blk p7 [.slice (some ⟨b1,0,none⟩) i i] 47,blk b1 (M.map (slw i)) 27,blk pc c.cells 23]) (fun q=>q≤i) (fun q=>i - q) 0 (Nat.zero_le _) ?_
  intro q hq
  repeat' (first|refine d1 ?_|refine dd ?_|(show ∀ _:Nat,T _ _ _ _ _;intro _))
  refine T_if rfl (fun h3=>?_) (fun h3=>?_)
  ·simp only [decide_eq_true_eq] at h3
   have hqi:q<i:=by omega
   repeat' (first|refine d1 ?_|refine dd ?_|(show T _ (.ops _ (_::_)::_) _ _ _;first|refine T_call rfl rfl rfl rfl rfl (fun w hw=>containsI_spec (some ⟨g,0,none⟩) out.length cap (intN out) q w ⟨by rw [intN_val];simp,fun h9=>⟨rfl,rdRow (A:=some ⟨g,0,none⟩) h9 (fun j u hu=>by rw [intN_val] at hu;show (out.map natV)[0+j]?=some u;rw [Nat.zero_add];exact hu) w hw⟩⟩ (by unfold intN;simp) (by omega)) ?_|refine T_callC rfl rfl rfl rfl rfl rfl rfl (fun hg w hw=>containsI_spec (some ⟨g,0,none⟩) out.length cap (intN out) q w ⟨by rw [intN_val];simp,fun h9=>⟨rfl,rdRow (A:=some ⟨g,0,none⟩) h9 (fun j u hu=>by rw [intN_val] at hu;show (out.map natV)[0+j]?=some u;rw [Nat.zero_add];exact hu) w hw⟩⟩ (by unfold intN;simp) (by omega)) ?_)|(show T _ (.run _ _ (_::_) _ _::_) _ _ _;first|refine rc rfl rfl rfl rfl rfl rfl rfl (fun w hw=>containsI_spec (some ⟨g,0,none⟩) out.length cap (intN out) q w ⟨by rw [intN_val];simp,fun h9=>⟨rfl,rdRow (A:=some ⟨g,0,none⟩) h9 (fun j u hu=>by rw [intN_val] at hu;show (out.map natV)[0+j]?=some u;rw [Nat.zero_add];exact hu) w hw⟩⟩ (by unfold intN;simp) (by omega)) ?_|refine rcG rfl rfl rfl rfl rfl rfl rfl rfl rfl (fun hg w hw=>containsI_spec (some ⟨g,0,none⟩) out.length cap (intN out) q w ⟨by rw [intN_val];simp,fun h9=>⟨rfl,rdRow (A:=some ⟨g,0,none⟩) h9 (fun j u hu=>by rw [intN_val] at hu;show (out.map natV)[0+j]?=some u;rw [Nat.zero_add];exact hu) w hw⟩⟩ (by unfold intN;simp) (by omega)) ?_)|(show ∀ _:Nat,T _ _ _ _ _;intro _))
   rename_i p18
   rw [intN_any]
   refine T_if rfl (fun h4=>?_) (fun h4=>?_)
   ·repeat' (first|refine d1 ?_|refine dd ?_|(show ∀ _:Nat,T _ _ _ _ _;intro _))
    exact T_backX (q+1) hqi (by omega) (hE:=⟨rfl,by rw [scanP_tk h4];rfl,by rw [scanP_tk h4];rfl,trivial⟩) (hG:=Hle.tail _ _)
   obtain⟨a,ha,hamin⟩:=minO_mem (dstT c l) hne q
   have hai:=hlt a ha
   have hsc:=scanP_no (near:=nearV (dstT c l) out) h4
   have hnv:nearV (dstT c l) out q=dstT c l q a:=by unfold nearV;rw [hamin];rfl
   rw [hnv] at hsc
   obtain⟨⟨gi,ci⟩,hLi⟩:∃ x,M[q]?=some x:=⟨_,List.getElem?_eq_getElem (by omega)⟩
   have hci:ci=_:=hRD _ _ hLi
   obtain⟨x0,xr,hx0⟩:∃ x0 xr,out=x0::xr:=by
    cases out with
    | nil=>exact absurd rfl hne
    | cons x xr=>exact⟨x,xr,rfl⟩
   have hmin2:minF (keyD (dstT c l) q) ((x0:Nat):Int) (intN xr)=(a:Int):=by rw [← hamin,hx0];rfl
   have hin2:((x0:Nat):Int)::intN xr=intN out:=by rw [hx0];rfl
   repeat' (first|refine d1 ?_|refine dd ?_|(show T _ (.ops _ (_::_)::_) _ _ _;first|refine T_call rfl rfl rfl rfl rfl (fun w hw=>minFuncI_spec (some ⟨g,0,none⟩) out.length cap ((x0:Nat):Int) (intN xr) 94 [] [.pointer (some ⟨p7,0,none⟩), .pointer (some ⟨p18,0,none⟩)] (keyD (dstT c l) q) w ⟨by rw [hin2,intN_val];simp,fun h9=>⟨rfl,rdRow (A:=some ⟨g,0,none⟩) h9 (fun j u hu=>by rw [hin2,intN_val] at hu;show (out.map natV)[0+j]?=some u;rw [Nat.zero_add];exact hu) w hw⟩⟩ (by rw [hin2];unfold intN;simp) (by omega) (fun x hx y hy w' hb'=>by rw [hin2] at hx hy;obtain⟨a',ha',rfl⟩:=intN_mem hx;obtain⟨b',hb'',rfl⟩:=intN_mem hy;exact order1_spec p7 p18 b1 0 i i gi 0 i i q a' b' (dstT c l q a') (dstT c l q b') w' ((rdOwn1 (b:=p7) rfl w hw).below hb') ((rdOwn1 (b:=p18) rfl w hw).below hb') hqi ((rdOwn1 (b:=b1) (by rw [show 0+(q:Int).toNat * 1=q by omega,List.getElem?_map,hLi];rfl) w hw).below hb') (hlt a' ha') (hlt b' hb'') ((rdM (l:=M) hLi (get1 (by rw [hci];exact vget a' (hlt a' ha') (by omega))) w hw).below hb') ((rdM (l:=M) hLi (get1 (by rw [hci];exact vget b' (hlt b' hb'') (by omega))) w hw).below hb') (hbd q a') (hbd q b'))) ?_|refine T_callC rfl rfl rfl rfl rfl rfl rfl (fun hg w hw=>minFuncI_spec (some ⟨g,0,none⟩) out.length cap ((x0:Nat):Int) (intN xr) 94 [] [.pointer (some ⟨p7,0,none⟩), .pointer (some ⟨p18,0,none⟩)] (keyD (dstT c l) q) w ⟨by rw [hin2,intN_val];simp,fun h9=>⟨rfl,rdRow (A:=some ⟨g,0,none⟩) h9 (fun j u hu=>by rw [hin2,intN_val] at hu;show (out.map natV)[0+j]?=some u;rw [Nat.zero_add];exact hu) w hw⟩⟩ (by rw [hin2];unfold intN;simp) (by omega) (fun x hx y hy w' hb'=>by rw [hin2] at hx hy;obtain⟨a',ha',rfl⟩:=intN_mem hx;obtain⟨b',hb'',rfl⟩:=intN_mem hy;exact order1_spec p7 p18 b1 0 i i gi 0 i i q a' b' (dstT c l q a') (dstT c l q b') w' ((rdOwn1 (b:=p7) rfl w hw).below hb') ((rdOwn1 (b:=p18) rfl w hw).below hb') hqi ((rdOwn1 (b:=b1) (by rw [show 0+(q:Int).toNat * 1=q by omega,List.getElem?_map,hLi];rfl) w hw).below hb') (hlt a' ha') (hlt b' hb'') ((rdM (l:=M) hLi (get1 (by rw [hci];exact vget a' (hlt a' ha') (by omega))) w hw).below hb') ((rdM (l:=M) hLi (get1 (by rw [hci];exact vget b' (hlt b' hb'') (by omega))) w hw).below hb') (hbd q a') (hbd q b'))) ?_)|(show T _ (.run _ _ (_::_) _ _::_) _ _ _;first|refine rc rfl rfl rfl rfl rfl rfl rfl (fun w hw=>minFuncI_spec (some ⟨g,0,none⟩) out.length cap ((x0:Nat):Int) (intN xr) 94 [] [.pointer (some ⟨p7,0,none⟩), .pointer (some ⟨p18,0,none⟩)] (keyD (dstT c l) q) w ⟨by rw [hin2,intN_val];simp,fun h9=>⟨rfl,rdRow (A:=some ⟨g,0,none⟩) h9 (fun j u hu=>by rw [hin2,intN_val] at hu;show (out.map natV)[0+j]?=some u;rw [Nat.zero_add];exact hu) w hw⟩⟩ (by rw [hin2];unfold intN;simp) (by omega) (fun x hx y hy w' hb'=>by rw [hin2] at hx hy;obtain⟨a',ha',rfl⟩:=intN_mem hx;obtain⟨b',hb'',rfl⟩:=intN_mem hy;exact order1_spec p7 p18 b1 0 i i gi 0 i i q a' b' (dstT c l q a') (dstT c l q b') w' ((rdOwn1 (b:=p7) rfl w hw).below hb') ((rdOwn1 (b:=p18) rfl w hw).below hb') hqi ((rdOwn1 (b:=b1) (by rw [show 0+(q:Int).toNat * 1=q by omega,List.getElem?_map,hLi];rfl) w hw).below hb') (hlt a' ha') (hlt b' hb'') ((rdM (l:=M) hLi (get1 (by rw [hci];exact vget a' (hlt a' ha') (by omega))) w hw).below hb') ((rdM (l:=M) hLi (get1 (by rw [hci];exact vget b' (hlt b' hb'') (by omega))) w hw).below hb') (hbd q a') (hbd q b'))) ?_|refine rcG rfl rfl rfl rfl rfl rfl rfl rfl rfl (fun hg w hw=>minFuncI_spec (some ⟨g,0,none⟩) out.length cap ((x0:Nat):Int) (intN xr) 94 [] [.pointer (some ⟨p7,0,none⟩), .pointer (some ⟨p18,0,none⟩)] (keyD (dstT c l) q) w ⟨by rw [hin2,intN_val];simp,fun h9=>⟨rfl,rdRow (A:=some ⟨g,0,none⟩) h9 (fun j u hu=>by rw [hin2,intN_val] at hu;show (out.map natV)[0+j]?=some u;rw [Nat.zero_add];exact hu) w hw⟩⟩ (by rw [hin2];unfold intN;simp) (by omega) (fun x hx y hy w' hb'=>by rw [hin2] at hx hy;obtain⟨a',ha',rfl⟩:=intN_mem hx;obtain⟨b',hb'',rfl⟩:=intN_mem hy;exact order1_spec p7 p18 b1 0 i i gi 0 i i q a' b' (dstT c l q a') (dstT c l q b') w' ((rdOwn1 (b:=p7) rfl w hw).below hb') ((rdOwn1 (b:=p18) rfl w hw).below hb') hqi ((rdOwn1 (b:=b1) (by rw [show 0+(q:Int).toNat * 1=q by omega,List.getElem?_map,hLi];rfl) w hw).below hb') (hlt a' ha') (hlt b' hb'') ((rdM (l:=M) hLi (get1 (by rw [hci];exact vget a' (hlt a' ha') (by omega))) w hw).below hb') ((rdM (l:=M) hLi (get1 (by rw [hci];exact vget b' (hlt b' hb'') (by omega))) w hw).below hb') (hbd q a') (hbd q b'))) ?_)|(show ∀ _:Nat,T _ _ _ _ _;intro _))
   rw [hmin2]
   repeat' (first|refine d1 ?_|refine dd ?_|(show T _ (.ops _ (_::_)::_) _ _ _;first|refine T_val rfl (Val.load rfl (fun hg=>rdOwn1 (u := .slice (some ⟨gi,0,none⟩) i i) (b:=b1) (by rw [show 0+(q:Int).toNat * 1=q by omega,List.getElem?_map,hLi];rfl))) rfl rfl rfl ?_|refine T_valC rfl (Val.load rfl (fun hg=>rdOwn1 (u := .slice (some ⟨gi,0,none⟩) i i) (b:=b1) (by rw [show 0+(q:Int).toNat * 1=q by omega,List.getElem?_map,hLi];rfl))) rfl rfl rfl rfl rfl ?_|refine T_val rfl (Val.load rfl (fun hg=>rdM (l:=M) (k:=q) (g:=gi) (vs:=[.int .i64 (dstT c l q a)]) hLi (get1 (by rw [hci];exact vget a (by omega) (by omega))))) rfl rfl rfl ?_|refine T_valC rfl (Val.load rfl (fun hg=>rdM (l:=M) (k:=q) (g:=gi) (vs:=[.int .i64 (dstT c l q a)]) hLi (get1 (by rw [hci];exact vget a (by omega) (by omega))))) rfl rfl rfl rfl rfl ?_)|(show T _ (.run _ _ (_::_) _ _::_) _ _ _;first|refine rv rfl rfl rfl (Val.load rfl (fun hg=>rdOwn1 (u := .slice (some ⟨gi,0,none⟩) i i) (b:=b1) (by rw [show 0+(q:Int).toNat * 1=q by omega,List.getElem?_map,hLi];rfl))) rfl rfl rfl ?_|refine rg rfl rfl rfl (Val.load rfl (fun hg=>rdOwn1 (u := .slice (some ⟨gi,0,none⟩) i i) (b:=b1) (by rw [show 0+(q:Int).toNat * 1=q by omega,List.getElem?_map,hLi];rfl))) rfl rfl rfl rfl rfl ?_|refine rv rfl rfl rfl (Val.load rfl (fun hg=>rdM (l:=M) (k:=q) (g:=gi) (vs:=[.int .i64 (dstT c l q a)]) hLi (get1 (by rw [hci];exact vget a (by omega) (by omega))))) rfl rfl rfl ?_|refine rg rfl rfl rfl (Val.load rfl (fun hg=>rdM (l:=M) (k:=q) (g:=gi) (vs:=[.int .i64 (dstT c l q a)]) hLi (get1 (by rw [hci];exact vget a (by omega) (by omega))))) rfl rfl rfl rfl rfl ?_)|(show ∀ _:Nat,T _ _ _ _ _;intro _))
   refine T_if rfl (fun h5=>?_) (fun h5=>?_)
   ·simp only [Bool.or_eq_true,decide_eq_true_eq] at h5
    rw [if_pos h5] at hsc
    repeat' (first|refine d1 ?_|refine dd ?_|(show T _ (.ops _ (_::_)::_) _ _ _;first|refine T_val rfl (Val.load rfl (fun hg=>rdOwn1 (u := .slice (some ⟨gi,0,none⟩) i i) (b:=b1) (by rw [show 0+(q:Int).toNat * 1=q by omega,List.getElem?_map,hLi];rfl))) rfl rfl rfl ?_|refine T_valC rfl (Val.load rfl (fun hg=>rdOwn1 (u := .slice (some ⟨gi,0,none⟩) i i) (b:=b1) (by rw [show 0+(q:Int).toNat * 1=q by omega,List.getElem?_map,hLi];rfl))) rfl rfl rfl rfl rfl ?_|refine T_val rfl (Val.load rfl (fun hg=>rdM (l:=M) (k:=q) (g:=gi) (vs:=[.int .i64 (dstT c l q a)]) hLi (get1 (by rw [hci];exact vget a (by omega) (by omega))))) rfl rfl rfl ?_|refine T_valC rfl (Val.load rfl (fun hg=>rdM (l:=M) (k:=q) (g:=gi) (vs:=[.int .i64 (dstT c l q a)]) hLi (get1 (by rw [hci];exact vget a (by omega) (by omega))))) rfl rfl rfl rfl rfl ?_)|(show T _ (.run _ _ (_::_) _ _::_) _ _ _;first|refine rv rfl rfl rfl (Val.load rfl (fun hg=>rdOwn1 (u := .slice (some ⟨gi,0,none⟩) i i) (b:=b1) (by rw [show 0+(q:Int).toNat * 1=q by omega,List.getElem?_map,hLi];rfl))) rfl rfl rfl ?_|refine rg rfl rfl rfl (Val.load rfl (fun hg=>rdOwn1 (u := .slice (some ⟨gi,0,none⟩) i i) (b:=b1) (by rw [show 0+(q:Int).toNat * 1=q by omega,List.getElem?_map,hLi];rfl))) rfl rfl rfl rfl rfl ?_|refine rv rfl rfl rfl (Val.load rfl (fun hg=>rdM (l:=M) (k:=q) (g:=gi) (vs:=[.int .i64 (dstT c l q a)]) hLi (get1 (by rw [hci];exact vget a (by omega) (by omega))))) rfl rfl rfl ?_|refine rg rfl rfl rfl (Val.load rfl (fun hg=>rdM (l:=M) (k:=q) (g:=gi) (vs:=[.int .i64 (dstT c l q a)]) hLi (get1 (by rw [hci];exact vget a (by omega) (by omega))))) rfl rfl rfl rfl rfl ?_)|(show ∀ _:Nat,T _ _ _ _ _;intro _))
    exact T_backX (q+1) hqi (by omega) (hE:=⟨rfl,by rw [hsc];rfl,by rw [hsc];rfl,trivial⟩) (hG:=Hle.tail _ _)
   ·simp only [Bool.or_eq_false_iff,decide_eq_false_iff_not] at h5
    rw [if_neg (fun h9=>h9.elim h5.1 h5.2)] at hsc
    repeat' (first|refine d1 ?_|refine dd ?_|(show ∀ _:Nat,T _ _ _ _ _;intro _))
    exact T_backX (q+1) hqi (by omega) (hE:=⟨rfl,by rw [hsc];rfl,by rw [hsc];rfl,trivial⟩) (hG:=Hle.tail _ _)
  ·simp only [decide_eq_false_iff_not] at h3
   obtain rfl:q=i:=by omega
   rw [hnl.2.2.1]
   repeat' (first|refine d1 ?_|refine dd ?_|(show T _ (.ops _ (_::_)::_) _ _ _;refine T_op (OpT.append rfl rfl rfl rfl rfl rfl rfl rfl rfl rfl (fun w hw=>Src.own hw rfl) rfl (by dsimp only;omega) (by omega) (fun A' cap' hA'=>?_)))|(show ∀ _:Nat,T _ _ _ _ _;intro _))
   refine T_backX ((A',cap'),out++[nxtO (dstT c l) q out]) ⟨by dsimp only;rw [List.length_append];exact Nat.succ_le_of_lt hl,hok2⟩ (by dsimp only;rw [List.length_append];simp;omega) (hE:=⟨by dsimp only;rw [List.length_append];rfl,trivial⟩) (hG:=?_)
   dsimp only
   rw [List.length_append,List.map_append]
   exact Hle.tail _ _
 ·simp only [decide_eq_false_iff_not] at h2
  have hl:out.length=i:=by omega
  have hfin:=hok.all hl
  subst hfin
  repeat' (first|refine d1 ?_|refine dd ?_|(show ∀ _:Nat,T _ _ _ _ _;intro _)|(show T _ (.code .ret::_) _ _ _;refine T_retV _ rfl ((Hle.nth 0 rfl).trans dat_rowV) ⟨_,trivial,rfl,by rw [intN_D]⟩))
end Go.Proofs.YthadgaboakipoaaGreatDoor
namespace Go.Proofs.YthadgaboakipoaaGreatDoor
open Go.RowKit Go.Shelf Go.Proofs
set_option maxRecDepth 100000
set_option maxHeartbeats 1000000

def ordV (c:Costs) (l:List TS):List Nat × Int:=if ck21 c l=0 then (orderV (dstT c l) l.length,0) else ([],1)
theorem ck21_ok {c:Costs} {l:List TS} (h:ck21 c l=0):costE c=0∧badS l=false:=by
 unfold ck21 at h
 by_cases hh:costE c=0∧badS l=false
 ·exact hh
 ·rw [if_neg hh] at h;omega
theorem ck21_01 (c:Costs) (l:List TS):ck21 c l=0∨ck21 c l=1:=by unfold ck21;split <;> simp
theorem nilI (H:List HA):Hle H [dat [.slice none 0 0] [intsD []]]:=(hle_unit (B:=dat [.slice none 0 0] [intsD []]) (.s none 0 0 1 [] rfl (Nat.le_refl _) (by omega) (fun h=>absurd h (by omega)) .nil .nil)).trans Hle.sub
theorem orderPrg21_spec (c:Costs) (A:Option Addr) (n ca:Nat) (l:List TS) (w:World) (hg:Grp w A n l) :
  Spec Tryz.prog 8 [c.val, .slice A n ca] w (fun v R=>∃ x:Value,True∧v = .tuple #[x, .int .i64 (ordV c l).2]∧R=[dat [x] [intsD (intN (ordV c l).1)]]):=by
 have hn:=hg.hn
 refine spec_of sg Tryz.func8 rfl rfl rfl ?_
 repeat' (first|(show T _ (.ops _ (⟨_, .box _ _,_,_,_,_⟩::_)::_) _ _ _;refine T_op (OpT.box (cs:=c.cells) rfl rfl rfl rfl rfl rfl rfl (fun _=>?_)))|refine d1 ?_|refine dd ?_|(show T _ (.ops _ (_::_)::_) _ _ _;first|refine T_call rfl rfl rfl rfl rfl (fun w hw=>check21_spec c A n ca l w (hg.cls hw)) ?_|refine T_callC rfl rfl rfl rfl rfl rfl rfl (fun hg w hw=>check21_spec c A n ca l w (hg.cls hw)) ?_)|(show T _ (.run _ _ (_::_) _ _::_) _ _ _;first|refine rc rfl rfl rfl rfl rfl rfl rfl (fun w hw=>check21_spec c A n ca l w (hg.cls hw)) ?_|refine rcG rfl rfl rfl rfl rfl rfl rfl rfl rfl (fun hg w hw=>check21_spec c A n ca l w (hg.cls hw)) ?_)|(show ∀ _:Nat,T _ _ _ _ _;intro _))
 refine T_if rfl (fun h=>?_) (fun h=>?_)
 ·simp only [Bool.not_eq_true',decide_eq_false_iff_not] at h
  have e:ordV c l=([],1):=if_neg h
  rw [e,(ck21_01 c l).resolve_left h]
  repeat' (first|refine d1 ?_|refine dd ?_|(show ∀ _:Nat,T _ _ _ _ _;intro _)|(show T _ (.code .ret::_) _ _ _;refine T_retV _ rfl (nilI _) ⟨_,trivial,rfl,rfl⟩))
 ·simp only [Bool.not_eq_false',decide_eq_true_eq] at h
  have e:ordV c l=(orderV (dstT c l) n,0):=by rw [← hn];exact if_pos h
  rw [e]
  obtain⟨hc,hbs⟩:=ck21_ok h
  repeat' (first|refine d1 ?_|refine dd ?_|(show T _ (.ops _ (_::_)::_) _ _ _;refine T_op (OpT.call rfl rfl rfl rfl rfl (fun w hw=>order21_spec c A n ca l w (hg.cls hw) hc hbs) ?_))|(show ∀ _:Nat,T _ _ _ _ _;intro _))
  rintro v R ⟨x,-,rfl,rfl⟩
  repeat' (first|refine d1 ?_|refine dd ?_|(show ∀ _:Nat,T _ _ _ _ _;intro _)|(show T _ (.code .ret::_) _ _ _;refine T_retV _ rfl (Hle.nth 0 rfl) ⟨_,trivial,rfl,rfl⟩))
end Go.Proofs.YthadgaboakipoaaGreatDoor
namespace Go.Proofs.YthadgaboakipoaaGreatDoor
open Go.RowKit Go.Shelf Go.Proofs
set_option maxRecDepth 100000
set_option maxHeartbeats 1000000

theorem mulOne_spec (n:Nat) (hn:n≤1000000) (w:World):Spec Tryz.prog 127 [.int .u64 1, .int .u64 (n:Nat)] w (fun v R=>v = .tuple #[.int .u64 0, .int .u64 (n:Nat)]∧R=[]):=by
 have h:=Calls.spec (enters_of rfl rfl rfl) (Tryz.bits_Mul 1 n (by omega) (by omega) w)
 have e1:1 * n / 18446744073709551616=0:=by omega
 have e2:1 * n % 18446744073709551616=n:=by omega
 rw [e1,e2] at h
 exact h
theorem oneInts:∀ xs:List Int,oneCells (xs.map (Value.int .i64))=true
 | []=>rfl
 | x::xs=>oneInts xs
def repL (n m:Nat) (z:Int):List Value:=List.replicate m (.int .i64 z)++List.replicate (n - m) (.int .i64 0)
theorem repL_len {n m:Nat} (z:Int) (h:m≤n):(repL n m z).length=n:=by simp [repL];omega
theorem repL_all (n:Nat) (z:Int):repL n n z=List.replicate n (.int .i64 z):=by simp [repL]
theorem oneRep (k:Nat) (z:Int):oneCells (List.replicate k (Value.int .i64 z))=true:=by
 have e:List.replicate k (Value.int .i64 z)=(List.replicate k z).map (Value.int .i64):=by rw [List.map_replicate]
 rw [e];exact oneInts _
theorem repL_set {n m k:Nat} (z:Int) (h:m+k≤n):setL (repL n m z) m (List.replicate k (.int .i64 z))=repL n (m+k) z:=by
 rw [setL_eq _ _ _ (by rw [List.length_replicate,repL_len z (by omega)];exact h)]
 unfold repL
 rw [List.take_append_of_le_length (by simp),List.take_of_length_le (by simp),List.length_replicate,List.drop_append,List.drop_eq_nil_of_le (by simp),List.nil_append,List.length_replicate,List.drop_replicate, ← List.append_assoc,List.replicate_append_replicate,show n - m - (m+k - m)=n - (m+k) by omega]
theorem repL_pre {n m k:Nat} (z:Int) (h:k≤m):∀ j u,(List.replicate k (Value.int .i64 z))[j]?=some u→(repL n m z)[0+j]?=some u:=by
 intro j u hu
 have hj:j<k:=by have:=(List.getElem?_eq_some_iff.1 hu).1;simpa using this
 rw [List.getElem?_replicate,if_pos hj] at hu
 unfold repL
 rw [Nat.zero_add,List.getElem?_append_left (by simp;omega),List.getElem?_replicate,if_pos (by omega)]
 exact hu
theorem repeatI_spec (z:Int) (A:Option Addr) (ca n:Nat) (w:World) (hs:Src w 1 A 1 [.int .i64 z]) (hn:n≤1000) :
  Spec Tryz.prog 76 [.slice A 1 ca, .int .i64 (n:Nat)] w (fun v R=>∃ b:Nat,True∧v = .slice (some ⟨b,0,none⟩) n n∧R=[row 3 1 (some ⟨b,0,none⟩) n n (List.replicate n (.int .i64 z))]):=by
 refine spec_of sg Tryz.func76 rfl rfl rfl ?_
 repeat' (first|refine d1 ?_|refine dd ?_|(show ∀ _:Nat,T _ _ _ _ _;intro _))
 refine T_if rfl (fun h=>by exfalso;simp at h;omega) (fun h=>?_)
 repeat' (first|refine d1 ?_|refine dd ?_|(show T _ (.ops _ (_::_)::_) _ _ _;first|refine T_call rfl rfl rfl rfl rfl (fun w hw=>mulOne_spec n (by omega) w) ?_|refine T_callC rfl rfl rfl rfl rfl rfl rfl (fun hg w hw=>mulOne_spec n (by omega) w) ?_)|(show T _ (.run _ _ (_::_) _ _::_) _ _ _;first|refine rc rfl rfl rfl rfl rfl rfl rfl (fun w hw=>mulOne_spec n (by omega) w) ?_|refine rcG rfl rfl rfl rfl rfl rfl rfl rfl rfl (fun hg w hw=>mulOne_spec n (by omega) w) ?_)|(show ∀ _:Nat,T _ _ _ _ _;intro _))
 refine T_if rfl (fun h=>?_) (fun h=>?_)
 ·exfalso
  simp at h
  omega
 repeat' (first|refine d1 ?_|refine dd ?_|(show T _ (.ops _ (_::_)::_) _ _ _;refine T_op (OpT.make rfl rfl rfl rfl rfl rfl rfl rfl rfl (by dsimp only;omega) (fun b=>?_)))|(show ∀ _:Nat,T _ _ _ _ _;intro _))
 refine T_le (H':=[row 3 1 (some ⟨b,0,none⟩) n n (repL n 0 z)]) (Hle.weaken (i:=0) rfl (blk_row (sz:=1) (n:=n) (by simp) (by simp only [maxLen];omega)) rfl) ?_
 have hs1:∀ w',Cls w w' [row 3 1 (some ⟨b,0,none⟩) n n (repL n 0 z)]→Src w' 1 A (min 1 n) (List.replicate (min 1 n) (Value.int .i64 z)):=fun w' hw'=>by
  rcases Nat.eq_zero_or_pos n with h9|h9
  ·rw [h9];exact⟨rfl,fun h=>absurd h (by simp)⟩
  ·rw [Nat.min_eq_left h9];exact src_below hs hw'.below
 repeat' (first|refine d1 ?_|refine dd ?_|(show T _ (.ops _ (_::_)::_) _ _ _;refine T_op (OpT.copyR (g:=b) (k:=min 1 n) (us:=List.replicate (min 1 n) (.int .i64 z)) rfl rfl rfl rfl rfl rfl rfl rfl rfl hs1 (oneRep _ _) (by rw [List.length_replicate];omega) ?_))|(show ∀ _:Nat,T _ _ _ _ _;intro _))
 rw [repL_set z (by omega),Nat.zero_add]
 refine T_loopX (fun m:Nat=>[(8, .int .i64 m)]) (fun m=>[row 3 1 (some ⟨b,0,none⟩) n n (repL n m z)]) (fun m=>m≤n∧(0<n→0<m)) (fun m=>n - m) (min 1 n) ⟨by omega,fun h=>by omega⟩ ?_
 rintro m ⟨hm,hm0⟩
 repeat' (first|refine d1 ?_|refine dd ?_|(show ∀ _:Nat,T _ _ _ _ _;intro _))
 refine T_if rfl (fun h1=>?_) (fun h1=>?_)
 ·simp only [decide_eq_true_eq] at h1
  have hmn:m<n:=by omega
  have hmp:=hm0 (by omega)
  refine rsH [] 1000 [0,1,2,3,4,5,6,7,8,9] ?_
  repeat' (first|refine d1 ?_|refine dd ?_|(show T _ (.run _ _ (_::_) _ _::_) _ _ _;refine ro rfl rfl (OpT.copyR (g:=b) (k:=min m (n - m)) (us:=List.replicate (min m (n - m)) (.int .i64 z)) rfl rfl rfl rfl rfl rfl rfl (cutA_at (by omega)) rfl (fun w hw=>⟨by simp,fun h9=>⟨rfl,rdRow (A:=some ⟨b,0,none⟩) (by omega) (repL_pre z (by omega)) w hw⟩⟩) (oneRep _ _) (by rw [List.length_replicate];omega) ⟨fun _=>Hle.none _,?_⟩))|(show ∀ _:Nat,T _ _ _ _ _;intro _))
  rw [show (m:Int).toNat * 1=m by omega,repL_set (n:=n) (m:=m) (k:=min m (n - m)) z (by omega)]
  exact T_backX (m+min m (n - m)) ⟨by omega,fun _=>by omega⟩ (by omega)
 ·simp only [decide_eq_false_iff_not] at h1
  obtain rfl:m=n:=by omega
  rw [repL_all]
  repeat' (first|refine d1 ?_|refine dd ?_|(show ∀ _:Nat,T _ _ _ _ _;intro _)|(show T _ (.code .ret::_) _ _ _;refine T_retV _ rfl (Hle.refl _) ⟨b,trivial,rfl,rfl⟩))
end Go.Proofs.YthadgaboakipoaaGreatDoor
namespace Go.Proofs.YthadgaboakipoaaGreatDoor
open Go.RowKit Go.Shelf Go.Proofs
set_option maxRecDepth 100000
set_option maxHeartbeats 1000000

structure AddW (w:World) (c:Costs) (A:Option Addr) (n:Nat) (l:List TS) (K:Value) (cols:List (List Int)) (At:Option Addr) (m:Nat) (t:List Tok):Prop where
 hg:Grp w A n l
 hc:costE c=0
 hbs:badS l=false
 hx:Rd (wr w) [K] [rowsD cols]
 hok:∀ col∈cols,ColOk l col
 hts:Src w 6 At m (t.flatMap Tok.cells)
 htl:t.length=m
 hm:m≤1000
 hte:∀ x∈t,tokE x=0
 hsm:∀ x∈t,x.small
 hsz:cols.length≤100000
def stepsV (G:Grd) (i k:Nat):List (List Value):=(mvs G i k).map fun v=>[.agg v.cells.toArray]
theorem steps21_spec (c:Costs) (L K T' B:Value) (i k:Nat) (w:World):Spec Tryz.prog 132 [.agg (addL c L K T' B).toArray, .int .i64 (i:Nat), .int .i64 (k:Nat)] w
  (fun v R=>∃ g:Nat × Nat × Nat,True∧v = .func (.func 181) #[] #[.pointer (some ⟨g.1,0,none⟩), .pointer (some ⟨g.2.1,0,none⟩), .pointer (some ⟨g.2.2,0,none⟩)]∧R=[blk g.2.2 [.int .i64 (k:Nat)] 3,blk g.1 [.int .i64 (i:Nat)] 3,blk g.2.1 (addL c L K T' B) 153]):=by
 refine spec_of sg Tryz.func132 rfl rfl rfl ?_
 refine T_op (OpT.box (cs:=addL c L K T' B) rfl rfl rfl rfl rfl rfl rfl (fun g2=>?_))
 refine T_op (OpT.box (cs:=[.int .i64 (i:Nat)]) rfl rfl rfl rfl rfl rfl rfl (fun g1=>?_))
 refine T_op (OpT.box (cs:=[.int .i64 (k:Nat)]) rfl rfl rfl rfl rfl rfl rfl (fun g3=>?_))
 repeat' (first|refine d1 ?_|refine dd ?_|(show ∀ _:Nat,T _ _ _ _ _;intro _)|(show T _ (.code .ret::_) _ _ _;refine T_retV _ rfl (Hle.refl _) ⟨(g1,g2,g3),trivial,rfl,rfl⟩))
theorem steps_iter {w0:World} {c:Costs} {A:Option Addr} {n:Nat} {l:List TS} {K:Value} {cols:List (List Int)} {At:Option Addr} {m:Nat} {t:List Tok} (h:AddW w0 c A n l K cols At m t) (ca ct:Nat) (Ab:Option Addr) (nb cb:Nat) (i k:Nat) (hi:i≤cols.length) (hk:k≤m) (p1 p2 p3:Nat) :
  IterAt Tryz.prog w0 181 [] [.pointer (some ⟨p1,0,none⟩), .pointer (some ⟨p2,0,none⟩), .pointer (some ⟨p3,0,none⟩)]
   [blk p3 [.int .i64 (k:Nat)] 3,blk p1 [.int .i64 (i:Nat)] 3,blk p2 (addL c (.slice A n ca) K (.slice At m ct) (.slice Ab nb cb)) 153] (stepsV (grdA c l cols t) i k):=by
 obtain⟨hgr,hc,hbs,hx,hok,hts,htl,hm,hte,hsm,hsz⟩:=h
 obtain⟨Ak,ck,csk,rfl,hck1,hck2,hcs,hrows⟩:=hx.tabS
 have hb:=hgr.hb
 have hn:=hgr.hn
 have e1:(grdA c l cols t).n=cols.length:=rfl
 have e2:(grdA c l cols t).m=m:=htl
 refine iterAt_of sg Tryz.func181 rfl rfl rfl ?_
 intro l' GQ X Hj hY h0
 show T _ _ _ _ (blk p3 [.int .i64 (k:Nat)] 3::blk p1 [.int .i64 (i:Nat)] 3::blk p2 (addL c (.slice A n ca) (.slice Ak cols.length ck) (.slice At m ct) (.slice Ab nb cb)) 153::Hj)
 repeat' (first|refine d1 ?_|refine dd ?_|(show ∀ _:Nat,T _ _ _ _ _;intro _))
 refine T_cutX 1 [] (fun _:List HA=>[]) (fun s=>blk p3 [.int .i64 (k:Nat)] 3::blk p1 [.int .i64 (i:Nat)] 3::blk p2 (addL c (.slice A n ca) (.slice Ak cols.length ck) (.slice At m ct) (.slice Ab nb cb)) 153::s) (fun s=>GQ (if i<cols.length then (if k<m then 2 else 1) else 0) s) ?_ ?_
 ·refine T_if rfl (fun h1=>?_) (fun h1=>?_)
  ·simp only [decide_eq_true_eq] at h1
   have hin:i<cols.length:=by omega
   obtain⟨b,o,rfl⟩:=hcs.base (by omega)
   obtain⟨r,hr⟩:∃ r,cols[i]?=some r:=⟨_,List.getElem?_eq_getElem hin⟩
   obtain⟨Au,capu,hu,-,-,hA⟩:=hrows.tabRow hr
   have hcol:=hok r (List.mem_of_getElem? hr)
   have hrl:r.length=n:=by rw [hcol.1,hn]
   have hr0:RdC w0 b (o+(i:Int).toNat * 1) [.slice Au n capu]:=by
    have h9:=(hcs.get1 (i:=i) hin hu).2
    rw [Nat.mul_one,hrl] at h9
    rw [off1]
    exact h9
   have hsr:Src w0 1 Au n (r.map (Value.int .i64)):=⟨by rw [List.length_map,hrl,Nat.mul_one],fun h9=>by
    obtain⟨bu,ou,rfl,hbu⟩:=hA (by omega)
    refine ⟨rfl,fun j u hu=>?_⟩
    rw [List.getElem?_map] at hu
    cases hz:r[j]? with
    | none=>rw [hz] at hu;cases hu
    | some z=>rw [hz] at hu;cases hu;exact hbu j z hz⟩
   have hgd:cols.getD i []=r:=by rw [List.getD_eq_getElem?_getD,hr];rfl
   have hgp:(grdA c l cols t).p i k=putC c l r t (k:Nat):=by show putC c l (cols.getD i []) t k=_;rw [hgd]
   have hgg:(grdA c l cols t).g i=putC c l r t (-1):=by show putC c l (cols.getD i []) t (-1)=_;rw [hgd]
   by_cases hkm:k<m
   ·have hmv:stepsV (grdA c l cols t) i k=[[.agg #[.int .i64 1, .int .i64 1, .int .i64 (putC c l r t (k:Nat))]],[.agg #[.int .i64 1, .int .i64 0, .int .i64 (putC c l r t (-1))]],[.agg #[.int .i64 0, .int .i64 1, .int .i64 (putC c l (noneC l.length) t (k:Nat))]]]:=by
     unfold stepsV;rw [mvs_both (by rw [e1];exact hin) (by rw [e2];exact hkm),hgp,hgg];rfl
    rw [hmv] at hY
    rw [if_pos hin,if_pos hkm]
    refine rsH [blk p3 [.int .i64 (k:Nat)] 3,blk p1 [.int .i64 (i:Nat)] 3,blk p2 (addL c (.slice A n ca) (.slice (some ⟨b,o,none⟩) cols.length ck) (.slice At m ct) (.slice Ab nb cb)) 153] 1000 [0,1,2,3,4,5,6,7,8,9,10,11,12,13,14,15,16,17,18] ?_
    repeat' (first|refine d1 ?_|refine dd ?_|(show T _ (.ops _ (_::_)::_) _ _ _;first|refine T_call rfl rfl rfl rfl rfl (fun w hw=>beside_spec c A Au At (some ⟨b,o,none⟩) Ab n ca capu m ct cols.length ck nb cb l r t k w (hgr.cls hw) hc hbs (src_below hsr hw.below) hcol (src_below hts hw.below) htl hm hte hsm (by omega)) ?_|refine T_callC rfl rfl rfl rfl rfl rfl rfl (fun hg w hw=>beside_spec c A Au At (some ⟨b,o,none⟩) Ab n ca capu m ct cols.length ck nb cb l r t k w (hgr.cls hw) hc hbs (src_below hsr hw.below) hcol (src_below hts hw.below) htl hm hte hsm (by omega)) ?_)|(show T _ (.run _ _ (_::_) _ _::_) _ _ _;first|refine rc rfl rfl rfl rfl rfl rfl rfl (fun w hw=>beside_spec c A Au At (some ⟨b,o,none⟩) Ab n ca capu m ct cols.length ck nb cb l r t k w (hgr.cls hw) hc hbs (src_below hsr hw.below) hcol (src_below hts hw.below) htl hm hte hsm (by omega)) ?_|refine rcG rfl rfl rfl rfl rfl rfl rfl rfl rfl (fun hg w hw=>beside_spec c A Au At (some ⟨b,o,none⟩) Ab n ca capu m ct cols.length ck nb cb l r t k w (hgr.cls hw) hc hbs (src_below hsr hw.below) hcol (src_below hts hw.below) htl hm hte hsm (by omega)) ?_|refine ro rfl rfl (OpT.yieldG [blk p3 [.int .i64 (k:Nat)] 3,blk p1 [.int .i64 (i:Nat)] 3,blk p2 (addL c (.slice A n ca) (.slice (some ⟨b,o,none⟩) cols.length ck) (.slice At m ct) (.slice Ab nb cb)) 153] hY rfl rfl (Holds.of1 rfl rfl (decide_eq_true (by omega))) rfl rfl rfl (j:=0) rfl h0 (Hle.comm [_,_,_] Hj) (fun H1 hG1=>⟨fun _=>Hle.append_left _,?_⟩) (fun Y hX=>⟨fun _=>Hle.append_left _,?_⟩)))|(show ∀ _:Nat,T _ _ _ _ _;intro _))
    ·show T _ _ _ _ (blk p3 [.int .i64 (k:Nat)] 3::blk p1 [.int .i64 (i:Nat)] 3::blk p2 (addL c (.slice A n ca) (.slice (some ⟨b,o,none⟩) cols.length ck) (.slice At m ct) (.slice Ab nb cb)) 153::H1)
     repeat' (first|refine d1 ?_|refine dd ?_|(show ∀ _:Nat,T _ _ _ _ _;intro _))
     refine T_if rfl (fun h3=>by exfalso;simp at h3) (fun _=>?_)
     refine rsH [blk p3 [.int .i64 (k:Nat)] 3,blk p1 [.int .i64 (i:Nat)] 3,blk p2 (addL c (.slice A n ca) (.slice (some ⟨b,o,none⟩) cols.length ck) (.slice At m ct) (.slice Ab nb cb)) 153] 1000 [0,1,2,3,4,5,6,7,8,9,10] ?_
     repeat' (first|refine d1 ?_|refine dd ?_|(show T _ (.ops _ (_::_)::_) _ _ _;first|refine T_call rfl rfl rfl rfl rfl (fun w hw=>beside_spec c A Au At (some ⟨b,o,none⟩) Ab n ca capu m ct cols.length ck nb cb l r t (-1) w (hgr.cls hw) hc hbs (src_below hsr hw.below) hcol (src_below hts hw.below) htl hm hte hsm (by omega)) ?_|refine T_callC rfl rfl rfl rfl rfl rfl rfl (fun hg w hw=>beside_spec c A Au At (some ⟨b,o,none⟩) Ab n ca capu m ct cols.length ck nb cb l r t (-1) w (hgr.cls hw) hc hbs (src_below hsr hw.below) hcol (src_below hts hw.below) htl hm hte hsm (by omega)) ?_)|(show T _ (.run _ _ (_::_) _ _::_) _ _ _;first|refine rc rfl rfl rfl rfl rfl rfl rfl (fun w hw=>beside_spec c A Au At (some ⟨b,o,none⟩) Ab n ca capu m ct cols.length ck nb cb l r t (-1) w (hgr.cls hw) hc hbs (src_below hsr hw.below) hcol (src_below hts hw.below) htl hm hte hsm (by omega)) ?_|refine rcG rfl rfl rfl rfl rfl rfl rfl rfl rfl (fun hg w hw=>beside_spec c A Au At (some ⟨b,o,none⟩) Ab n ca capu m ct cols.length ck nb cb l r t (-1) w (hgr.cls hw) hc hbs (src_below hsr hw.below) hcol (src_below hts hw.below) htl hm hte hsm (by omega)) ?_|refine ro rfl rfl (OpT.yieldG [blk p3 [.int .i64 (k:Nat)] 3,blk p1 [.int .i64 (i:Nat)] 3,blk p2 (addL c (.slice A n ca) (.slice (some ⟨b,o,none⟩) cols.length ck) (.slice At m ct) (.slice Ab nb cb)) 153] hY rfl rfl (fun a _=>Holds.nil _ _) rfl rfl rfl (j:=1) rfl hG1 (Hle.comm [_,_,_] H1) (fun H2 hG2=>⟨fun _=>Hle.append_left _,?_⟩) (fun Y hX=>⟨fun _=>Hle.append_left _,?_⟩)))|(show ∀ _:Nat,T _ _ _ _ _;intro _))
     ·show T _ _ _ _ (blk p3 [.int .i64 (k:Nat)] 3::blk p1 [.int .i64 (i:Nat)] 3::blk p2 (addL c (.slice A n ca) (.slice (some ⟨b,o,none⟩) cols.length ck) (.slice At m ct) (.slice Ab nb cb)) 153::H2)
      repeat' (first|refine d1 ?_|refine dd ?_|(show ∀ _:Nat,T _ _ _ _ _;intro _))
      refine T_if rfl (fun h3=>by exfalso;simp at h3) (fun _=>?_)
      exact T_meetX H2 hG2
     ·show T _ _ _ _ (blk p3 [.int .i64 (k:Nat)] 3::blk p1 [.int .i64 (i:Nat)] 3::blk p2 (addL c (.slice A n ca) (.slice (some ⟨b,o,none⟩) cols.length ck) (.slice At m ct) (.slice Ab nb cb)) 153::Y)
      repeat' (first|refine d1 ?_|refine dd ?_|(show ∀ _:Nat,T _ _ _ _ _;intro _))
      refine T_if rfl (fun _=>?_) (fun h3=>by exfalso;simp at h3)
      repeat' (first|refine d1 ?_|refine dd ?_|(show ∀ _:Nat,T _ _ _ _ _;intro _)|(show T _ (.code .ret::_) _ _ _;refine T_istop rfl Y hX (Hle.refl _)))
    ·show T _ _ _ _ (blk p3 [.int .i64 (k:Nat)] 3::blk p1 [.int .i64 (i:Nat)] 3::blk p2 (addL c (.slice A n ca) (.slice (some ⟨b,o,none⟩) cols.length ck) (.slice At m ct) (.slice Ab nb cb)) 153::Y)
     repeat' (first|refine d1 ?_|refine dd ?_|(show ∀ _:Nat,T _ _ _ _ _;intro _))
     refine T_if rfl (fun _=>?_) (fun h3=>by exfalso;simp [show (k:Int)<m by omega] at h3)
     repeat' (first|refine d1 ?_|refine dd ?_|(show ∀ _:Nat,T _ _ _ _ _;intro _)|(show T _ (.code .ret::_) _ _ _;refine T_istop rfl Y hX (Hle.refl _)))
   ·have hmv:stepsV (grdA c l cols t) i k=[[.agg #[.int .i64 1, .int .i64 0, .int .i64 (putC c l r t (-1))]]]:=by
     unfold stepsV;rw [mvs_fst (by rw [e1];exact hin) (by rw [e2];exact hkm),hgg];rfl
    rw [hmv] at hY
    rw [if_pos hin,if_neg hkm]
    refine rsH [blk p3 [.int .i64 (k:Nat)] 3,blk p1 [.int .i64 (i:Nat)] 3,blk p2 (addL c (.slice A n ca) (.slice (some ⟨b,o,none⟩) cols.length ck) (.slice At m ct) (.slice Ab nb cb)) 153] 1000 [0,1,2,3,4,5,6,7,8,9,10,11,12,13,14,15,16,17,18] ?_
    repeat' (first|refine d1 ?_|refine dd ?_|(show T _ (.run _ _ (_::_) _ _::_) _ _ _;refine ro rfl rfl (OpT.never (.bool false) rfl (fun hg9=>by have h10:decide ((k:Int)<m)=true:=hg9.1;simp at h10;omega) rfl rfl rfl rfl rfl ⟨fun _=>Hle.sub,?_⟩))|(show ∀ _:Nat,T _ _ _ _ _;intro _))
    refine T_if rfl (fun h3=>by exfalso;simp [show ¬ (k:Int)<m by omega] at h3) (fun _=>?_)
    refine rsH [blk p3 [.int .i64 (k:Nat)] 3,blk p1 [.int .i64 (i:Nat)] 3,blk p2 (addL c (.slice A n ca) (.slice (some ⟨b,o,none⟩) cols.length ck) (.slice At m ct) (.slice Ab nb cb)) 153] 1000 [0,1,2,3,4,5,6,7,8,9,10] ?_
    repeat' (first|refine d1 ?_|refine dd ?_|(show T _ (.ops _ (_::_)::_) _ _ _;first|refine T_call rfl rfl rfl rfl rfl (fun w hw=>beside_spec c A Au At (some ⟨b,o,none⟩) Ab n ca capu m ct cols.length ck nb cb l r t (-1) w (hgr.cls hw) hc hbs (src_below hsr hw.below) hcol (src_below hts hw.below) htl hm hte hsm (by omega)) ?_|refine T_callC rfl rfl rfl rfl rfl rfl rfl (fun hg w hw=>beside_spec c A Au At (some ⟨b,o,none⟩) Ab n ca capu m ct cols.length ck nb cb l r t (-1) w (hgr.cls hw) hc hbs (src_below hsr hw.below) hcol (src_below hts hw.below) htl hm hte hsm (by omega)) ?_)|(show T _ (.run _ _ (_::_) _ _::_) _ _ _;first|refine rc rfl rfl rfl rfl rfl rfl rfl (fun w hw=>beside_spec c A Au At (some ⟨b,o,none⟩) Ab n ca capu m ct cols.length ck nb cb l r t (-1) w (hgr.cls hw) hc hbs (src_below hsr hw.below) hcol (src_below hts hw.below) htl hm hte hsm (by omega)) ?_|refine rcG rfl rfl rfl rfl rfl rfl rfl rfl rfl (fun hg w hw=>beside_spec c A Au At (some ⟨b,o,none⟩) Ab n ca capu m ct cols.length ck nb cb l r t (-1) w (hgr.cls hw) hc hbs (src_below hsr hw.below) hcol (src_below hts hw.below) htl hm hte hsm (by omega)) ?_|refine ro rfl rfl (OpT.yieldG [blk p3 [.int .i64 (k:Nat)] 3,blk p1 [.int .i64 (i:Nat)] 3,blk p2 (addL c (.slice A n ca) (.slice (some ⟨b,o,none⟩) cols.length ck) (.slice At m ct) (.slice Ab nb cb)) 153] hY rfl rfl (fun a _=>Holds.nil _ _) rfl rfl rfl (j:=0) rfl h0 (Hle.comm [_,_,_] Hj) (fun H2 hG2=>⟨fun _=>Hle.append_left _,?_⟩) (fun Y hX=>⟨fun _=>Hle.append_left _,?_⟩)))|(show ∀ _:Nat,T _ _ _ _ _;intro _))
    ·show T _ _ _ _ (blk p3 [.int .i64 (k:Nat)] 3::blk p1 [.int .i64 (i:Nat)] 3::blk p2 (addL c (.slice A n ca) (.slice (some ⟨b,o,none⟩) cols.length ck) (.slice At m ct) (.slice Ab nb cb)) 153::H2)
     repeat' (first|refine d1 ?_|refine dd ?_|(show ∀ _:Nat,T _ _ _ _ _;intro _))
     refine T_if rfl (fun h3=>by exfalso;simp at h3) (fun _=>?_)
     exact T_meetX H2 hG2
    ·show T _ _ _ _ (blk p3 [.int .i64 (k:Nat)] 3::blk p1 [.int .i64 (i:Nat)] 3::blk p2 (addL c (.slice A n ca) (.slice (some ⟨b,o,none⟩) cols.length ck) (.slice At m ct) (.slice Ab nb cb)) 153::Y)
     repeat' (first|refine d1 ?_|refine dd ?_|(show ∀ _:Nat,T _ _ _ _ _;intro _))
     refine T_if rfl (fun _=>?_) (fun h3=>by exfalso;simp at h3)
     repeat' (first|refine d1 ?_|refine dd ?_|(show ∀ _:Nat,T _ _ _ _ _;intro _)|(show T _ (.code .ret::_) _ _ _;refine T_istop rfl Y hX (Hle.refl _)))
  ·simp only [decide_eq_false_iff_not] at h1
   have hin:¬ i<cols.length:=by omega
   rw [if_neg hin]
   exact T_meetX Hj h0
 ·intro H1 hG1
  repeat' (first|refine d1 ?_|refine dd ?_|(show ∀ _:Nat,T _ _ _ _ _;intro _))
  refine T_if rfl (fun h1=>?_) (fun h1=>?_)
  ·simp only [decide_eq_true_eq] at h1
   have hkm:k<m:=by omega
   have hpos:(stepsV (grdA c l cols t) i k)[if i<cols.length then (if k<m then 2 else 1) else 0]?=some [.agg #[.int .i64 0, .int .i64 1, .int .i64 (putC c l (noneC l.length) t (k:Nat))]]:=by
    unfold stepsV
    by_cases hin:i<cols.length
    ·rw [mvs_both (by rw [e1];exact hin) (by rw [e2];exact hkm),if_pos hin,if_pos hkm];rfl
    ·rw [mvs_snd (by rw [e1];exact hin) (by rw [e2];exact hkm),if_neg hin];rfl
   have hlen:(stepsV (grdA c l cols t) i k).length=(if i<cols.length then (if k<m then 2 else 1) else 0)+1:=by
    unfold stepsV
    by_cases hin:i<cols.length
    ·rw [mvs_both (by rw [e1];exact hin) (by rw [e2];exact hkm),if_pos hin,if_pos hkm];rfl
    ·rw [mvs_snd (by rw [e1];exact hin) (by rw [e2];exact hkm),if_neg hin];rfl
   refine rsH [blk p3 [.int .i64 (k:Nat)] 3,blk p1 [.int .i64 (i:Nat)] 3,blk p2 (addL c (.slice A n ca) (.slice Ak cols.length ck) (.slice At m ct) (.slice Ab nb cb)) 153] 1000 [0,1,3,4,5,7,2,6,8,9,10] ?_
   repeat' (first|refine d1 ?_|refine dd ?_|(show T _ (.run _ _ (_::_) _ _::_) _ _ _;first|refine ro rfl rfl (OpT.litW rfl rfl rfl rfl rfl rfl rfl rfl rfl rfl rfl (fun b3=>⟨fun _=>Hle.sub,?_⟩))|refine ro rfl rfl (OpT.call rfl rfl rfl rfl rfl (fun w hw=>repeatI_spec (-1) (some ⟨_,0,none⟩) 1 n w (Src.own hw rfl) (by omega)) (fun u R hR=>?_)))|(show ∀ _:Nat,T _ _ _ _ _;intro _))
   obtain⟨br,-,rfl,rfl⟩:=hR
   refine ⟨fun _=>(Hle.tail _ _).trans ((Hle.tail _ _).trans (Hle.append_left (A:=[blk p3 [.int .i64 (k:Nat)] 3,blk p1 [.int .i64 (i:Nat)] 3,blk p2 (addL c (.slice A n ca) (.slice Ak cols.length ck) (.slice At m ct) (.slice Ab nb cb)) 153]) H1)),?_⟩
   show T _ _ _ _ (row 3 1 (some ⟨br,0,none⟩) n n (List.replicate n (.int .i64 (-1)))::blk _ _ _::blk p3 [.int .i64 (k:Nat)] 3::blk p1 [.int .i64 (i:Nat)] 3::blk p2 (addL c (.slice A n ca) (.slice Ak cols.length ck) (.slice At m ct) (.slice Ab nb cb)) 153::H1)
   have hnn:(noneC l.length).map (Value.int .i64)=List.replicate n (.int .i64 (-1)):=by unfold noneC;rw [hn,List.map_replicate]
   repeat' (first|refine d1 ?_|refine dd ?_|(show T _ (.ops _ (_::_)::_) _ _ _;first|refine T_call rfl rfl rfl rfl rfl (fun w hw=>beside_spec c A (some ⟨br,0,none⟩) At Ak Ab n ca n m ct cols.length ck nb cb l (noneC l.length) t k w (hgr.cls hw) hc hbs (by rw [hnn];exact srcRw w hw) (noneC_ok l) (src_below hts hw.below) htl hm hte hsm (by omega)) ?_|refine T_callC rfl rfl rfl rfl rfl rfl rfl (fun hg w hw=>beside_spec c A (some ⟨br,0,none⟩) At Ak Ab n ca n m ct cols.length ck nb cb l (noneC l.length) t k w (hgr.cls hw) hc hbs (by rw [hnn];exact srcRw w hw) (noneC_ok l) (src_below hts hw.below) htl hm hte hsm (by omega)) ?_)|(show T _ (.run _ _ (_::_) _ _::_) _ _ _;first|refine rc rfl rfl rfl rfl rfl rfl rfl (fun w hw=>beside_spec c A (some ⟨br,0,none⟩) At Ak Ab n ca n m ct cols.length ck nb cb l (noneC l.length) t k w (hgr.cls hw) hc hbs (by rw [hnn];exact srcRw w hw) (noneC_ok l) (src_below hts hw.below) htl hm hte hsm (by omega)) ?_|refine rcG rfl rfl rfl rfl rfl rfl rfl rfl rfl (fun hg w hw=>beside_spec c A (some ⟨br,0,none⟩) At Ak Ab n ca n m ct cols.length ck nb cb l (noneC l.length) t k w (hgr.cls hw) hc hbs (by rw [hnn];exact srcRw w hw) (noneC_ok l) (src_below hts hw.below) htl hm hte hsm (by omega)) ?_)|(show ∀ _:Nat,T _ _ _ _ _;intro _))
   refine ro rfl rfl (OpT.yieldG (Hj:=H1) (row 3 1 (some ⟨br,0,none⟩) n n (List.replicate n (.int .i64 (-1)))::blk _ _ _::blk p3 [.int .i64 (k:Nat)] 3::blk p1 [.int .i64 (i:Nat)] 3::blk p2 (addL c (.slice A n ca) (.slice Ak cols.length ck) (.slice At m ct) (.slice Ab nb cb)) 153::[]) hY rfl rfl (fun a _=>Holds.nil _ _) rfl rfl rfl hpos hG1 (Hle.comm [_,_,_,_,_] H1) (fun H2 hG2=>⟨fun _=>(Hle.tail _ _).trans ((Hle.tail _ _).trans (Hle.append_left (A:=[blk p3 [.int .i64 (k:Nat)] 3,blk p1 [.int .i64 (i:Nat)] 3,blk p2 (addL c (.slice A n ca) (.slice Ak cols.length ck) (.slice At m ct) (.slice Ab nb cb)) 153]) _)),?_⟩) (fun Y hX=>⟨fun _=>(Hle.tail _ _).trans ((Hle.tail _ _).trans (Hle.append_left (A:=[blk p3 [.int .i64 (k:Nat)] 3,blk p1 [.int .i64 (i:Nat)] 3,blk p2 (addL c (.slice A n ca) (.slice Ak cols.length ck) (.slice At m ct) (.slice Ab nb cb)) 153]) _)),?_⟩))
   ·repeat' (first|refine d1 ?_|refine dd ?_|(show ∀ _:Nat,T _ _ _ _ _;intro _))
    exact T_ifall rfl H2 (by rw [hlen];exact hG2) ((Hle.tail _ _).trans (Hle.tail _ _))
   ·repeat' (first|refine d1 ?_|refine dd ?_|(show ∀ _:Nat,T _ _ _ _ _;intro _))
    exact T_istopf rfl Y hX ((Hle.tail _ _).trans (Hle.tail _ _))
  ·simp only [decide_eq_false_iff_not] at h1
   have hkm:¬ k<m:=by omega
   have hlen:(stepsV (grdA c l cols t) i k).length=if i<cols.length then (if k<m then 2 else 1) else 0:=by
    unfold stepsV
    by_cases hin:i<cols.length
    ·rw [mvs_fst (by rw [e1];exact hin) (by rw [e2];exact hkm),if_pos hin,if_neg hkm];rfl
    ·rw [mvs_none (by rw [e1];exact hin) (by rw [e2];exact hkm),if_neg hin];rfl
   repeat' (first|refine d1 ?_|refine dd ?_|(show ∀ _:Nat,T _ _ _ _ _;intro _))
   exact T_ifall rfl H1 (by rw [hlen];exact hG1) (Hle.refl _)
end Go.Proofs.YthadgaboakipoaaGreatDoor
namespace Go.Proofs.YthadgaboakipoaaGreatDoor
open Go.RowKit Go.Shelf Go.Proofs
set_option maxRecDepth 100000
set_option maxHeartbeats 1000000

theorem stepsV_at {G:Grd} {i k j:Nat} {y:List Value} (h:(stepsV G i k)[j]?=some y):∃ v,(mvs G i k)[j]?=some v∧y=[.agg v.cells.toArray]:=by
 unfold stepsV at h
 rw [List.getElem?_map] at h
 cases hp:(mvs G i k)[j]? with
 | none=>rw [hp] at h;cases h
 | some p=>rw [hp] at h;exact⟨p,rfl,(Option.some.inj h).symm⟩
theorem stepsV_len (G:Grd) (i k:Nat):(stepsV G i k).length=(mvs G i k).length:=by unfold stepsV;rw [List.length_map]
theorem AddW.ok {w:World} {c:Costs} {A:Option Addr} {n:Nat} {l:List TS} {K:Value} {cols:List (List Int)} {At:Option Addr} {m:Nat} {t:List Tok} (h:AddW w c A n l K cols At m t):GOk (grdA c l cols t) 32000:=by
 have:=grdA_ok h.hc l cols t
 have h1:=h.hg.hn
 have h2:=h.hg.hb
 exact⟨fun i k=>by have:=this.p i k;omega,fun i=>by have:=this.g i;omega,fun k=>by have:=this.h k;omega⟩
theorem AddW.rst {w:World} {c:Costs} {A:Option Addr} {n:Nat} {l:List TS} {K:Value} {cols:List (List Int)} {At:Option Addr} {m:Nat} {t:List Tok} (h:AddW w c A n l K cols At m t) (i k:Nat):0≤rst (grdA c l cols t) i k∧rst (grdA c l cols t) i k≤10000000000:=by
 have h1:=rst_bd h.ok i k
 have e1:(grdA c l cols t).n=cols.length:=rfl
 have e2:(grdA c l cols t).m=m:=h.htl
 have h2:=h.hsz
 have h3:=h.hm
 rw [e1,e2] at h1
 omega
theorem AddW.to {w:World} {c:Costs} {A:Option Addr} {n:Nat} {l:List TS} {K:Value} {cols:List (List Int)} {At:Option Addr} {m:Nat} {t:List Tok} (h:AddW w c A n l K cols At m t) {i k jj:Nat} {v:Mv} (hi:i≤cols.length) (hk:k≤m) (hv:(mvs (grdA c l cols t) i k)[jj]?=some v) :
  i+v.fst≤cols.length∧k+v.snd≤m∧(i<i+v.fst∨(i=i+v.fst∧k<k+v.snd))∧(0≤v.cost∧v.cost≤32000)∧v.fst≤1∧v.snd≤1:=by
 have hG:=h.ok
 have q1:=hG.p i k
 have q2:=hG.g i
 have q3:=hG.h k
 have e1:(grdA c l cols t).n=cols.length:=rfl
 have e2:(grdA c l cols t).m=m:=h.htl
 rcases mvs_to (List.mem_of_getElem? hv) with⟨h1,h2,h3,h4,h5⟩|⟨h1,h2,h3,h5⟩|⟨h1,h2,h3,h5⟩
 ·rw [e1] at h3;rw [e2] at h4;omega
 ·rw [e1] at h3;omega
 ·rw [e2] at h3;omega
@[reducible] def fillH (c:Costs) (L K T':Value) (pb pa g cap N m:Nat) (M:List (Nat × List Value)) (Kr:List HA):List HA :=
 blks 3 M::row 27 1 (some ⟨g,0,none⟩) cap (N+1) (M.map (slv m))::blk pb [.pointer (some ⟨pa,0,none⟩)] 151::blk pa (addL c L K T' (.slice (some ⟨g,0,none⟩) (N+1) cap)) 153::Kr
theorem fill1_spec {w0:World} {c:Costs} {A:Option Addr} {n:Nat} {l:List TS} {K:Value} {cols:List (List Int)} {At:Option Addr} {m:Nat} {t:List Tok} (h:AddW w0 c A n l K cols At m t) (ca ct pb pa g cap:Nat) (Kr:List HA) (M:List (Nat × List Value)) (j i k:Nat)
  (hp:(placesL cols.length m)[j]?=some (i,k)) (hno:(i,k) ∉ (placesL cols.length m).take j) (hM:M.length=cols.length+1) (hS:RowsOk (soFar cols.length m j (rst (grdA c l cols t))) (m+1) M) :
  SpecB Tryz.prog 180 [.int .i64 (i:Nat), .int .i64 (k:Nat), .pointer (some ⟨pb,0,none⟩)] w0 (fillH c (.slice A n ca) K (.slice At m ct) pb pa g cap cols.length m M Kr)
   (fun v R=>v = .tuple #[]∧∃ M',M'.length=cols.length+1∧RowsOk (soFar cols.length m (j+1) (rst (grdA c l cols t))) (m+1) M'∧R=fillH c (.slice A n ca) K (.slice At m ct) pb pa g cap cols.length m M' Kr):=by
 obtain⟨p,q,hpn,hqm,-,hip,hkq⟩:=placesL_at hp
 have hi:i≤cols.length:=by omega
 have hk:k≤m:=by omega
 have hsz:=h.hsz
 have hmb:=h.hm
 refine specB_of sg Tryz.func180 rfl rfl rfl ?_
 unfold fillH
 refine T_op (OpT.box (cs:=[.int .i64 (i:Nat)]) rfl rfl rfl rfl rfl rfl rfl (fun p3=>?_))
 refine T_op (OpT.box (cs:=[.int .i64 (k:Nat)]) rfl rfl rfl rfl rfl rfl rfl (fun p4=>?_))
 repeat' (first|refine d1 ?_|refine dd ?_|(show T _ (.ops _ (_::_)::_) _ _ _;first|refine T_val rfl (Val.nilc rfl) rfl rfl rfl ?_|refine T_valC rfl (Val.nilc rfl) rfl rfl rfl rfl rfl ?_)|(show T _ (.run _ _ (_::_) _ _::_) _ _ _;first|refine rv rfl rfl rfl (Val.nilc rfl) rfl rfl rfl ?_|refine rg rfl rfl rfl (Val.nilc rfl) rfl rfl rfl rfl rfl ?_|refine ro rfl rfl (OpT.call rfl rfl rfl rfl rfl (fun w hw=>steps21_spec c _ _ _ _ i k w) (fun u R hR=>?_)))|(show ∀ _:Nat,T _ _ _ _ _;intro _))
 obtain⟨⟨q1,q2,q3⟩,-,rfl,rfl⟩:=hR
 rename_i p5
 refine ⟨by intro _;exact Hle.append_right (K:=[]) _,?_⟩
 dsimp only
 repeat' (first|refine d1 ?_|refine dd ?_|(show ∀ _:Nat,T _ _ _ _ _;intro _))
 refine T_rangeA (steps_iter h ca ct (some ⟨g,0,none⟩) (cols.length+1) cap i k hi hk q1 q2 q3) rfl (fun j y hy=>by obtain⟨v,_,rfl⟩:=stepsV_at hy;exact⟨rfl,rfl⟩)
  (fun jj H=>∃ M,M.length=cols.length+1∧RowsOk (inWork (grdA c l cols t) cols.length m j i k jj) (m+1) M∧H=blk p5 [.bool (decide (jj=0))] 4::blk p4 [.int .i64 (k:Nat)] 3::blk p3 [.int .i64 (i:Nat)] 3::fillH c (.slice A n ca) K (.slice At m ct) pb pa g cap cols.length m M Kr) (fun _=>False) (fun _ _=>False)
  (blk p5 [.bool true] 4::blk p4 [.int .i64 (k:Nat)] 3::blk p3 [.int .i64 (i:Nat)] 3::fillH c (.slice A n ca) K (.slice At m ct) pb pa g cap cols.length m M Kr) ⟨M,hM,hS.ext hM fun i' k' _ _=>(inWork_zero hp hno i' k').symm,rfl⟩ (Hle.refl _) ?_ ?_ (fun _ _ h=>h.elim) (fun _ _ _ h=>h.elim)
 ·rintro Lp r jj yv Hj K2 hr hyv ⟨M1,hM1,hS1,rfl⟩
  obtain⟨v,hv,rfl⟩:=stepsV_at hyv
  have hb1:=h.to hi hk hv
  have hrb:=h.rst (i+v.fst) (k+v.snd)
  obtain⟨⟨g1,c1⟩,hV1⟩:∃ x,M1[i+v.fst]?=some x:=⟨_,List.getElem?_eq_getElem (by omega)⟩
  obtain⟨⟨g0,c0⟩,hV0⟩:∃ x,M1[i]?=some x:=⟨_,List.getElem?_eq_getElem (by omega)⟩
  have hc1:c1=valV (inWork (grdA c l cols t) cols.length m j i k jj (i+v.fst)) (m+1):=hS1 _ _ hV1
  have hc0:c0=valV (inWork (grdA c l cols t) cols.length m j i k jj i) (m+1):=hS1 _ _ hV0
  have e1:inWork (grdA c l cols t) cols.length m j i k jj (i+v.fst) (k+v.snd)=rst (grdA c l cols t) (i+v.fst) (k+v.snd):=by
   unfold inWork;rw [if_neg (by omega)];exact soFar_get hp _ (by omega) (by omega) (by omega)
  have e0:inWork (grdA c l cols t) cols.length m j i k jj i k=(accW (grdA c l cols t) i k jj).1:=if_pos ⟨rfl,rfl⟩
  have es:accW (grdA c l cols t) i k (jj+1)=stepW (grdA c l cols t) i k (accW (grdA c l cols t) i k jj) jj v:=accW_step hv
  have hd:∀ {r:Nat} {gr:Nat} {cr:List Value},M1[r]?=some (gr,cr)→(M1.map (slv m))[r]?=some (.slice (some ⟨gr,0,none⟩) (m+1) (m+1)):=fun h=>by rw [List.getElem?_map,h];rfl
  have hl0:c0.length=m+1:=by rw [hc0,valV_length]
  show T _ _ ((14, .agg v.cells.toArray)::_) _ (lrec Lp r::blk p5 [.bool (decide (jj=0))] 4::blk p4 [.int .i64 (k:Nat)] 3::blk p3 [.int .i64 (i:Nat)] 3::blks 3 M1::row 27 1 (some ⟨g,0,none⟩) cap (cols.length+1) (M1.map (slv m))::blk pb [.pointer (some ⟨pa,0,none⟩)] 151::blk pa (addL c (.slice A n ca) K (.slice At m ct) (.slice (some ⟨g,0,none⟩) (cols.length+1) cap)) 153::(Kr++K2))
  repeat' (first|refine d1 ?_|refine dd ?_|(show ∀ _:Nat,T _ _ _ _ _;intro _))
  rename_i p6
  refine T_le (H':=lrec Lp r::blk p6 v.cells 158::blk p5 [.bool (decide (jj=0))] 4::blk p4 [.int .i64 (k:Nat)] 3::blk p3 [.int .i64 (i:Nat)] 3::blks 3 M1::row 27 1 (some ⟨g,0,none⟩) cap (cols.length+1) (M1.map (slv m))::blk pb [.pointer (some ⟨pa,0,none⟩)] 151::blk pa (addL c (.slice A n ca) K (.slice At m ct) (.slice (some ⟨g,0,none⟩) (cols.length+1) cap)) 153::(Kr++K2)) (Hle.perm (List.Perm.swap _ _ _)) ?_
  refine T_begin hr rfl ?_
  repeat' (first|refine d1 ?_|refine dd ?_|(show T _ (.ops _ (_::_)::_) _ _ _;first|refine T_val rfl (Val.nilc rfl) rfl rfl rfl ?_|refine T_valC rfl (Val.nilc rfl) rfl rfl rfl rfl rfl ?_|refine T_val rfl (Val.load rfl (fun hg=>rdRow (A:=some ⟨g,0,none⟩) (vs:=[.slice (some ⟨g1,0,none⟩) (m+1) (m+1)]) (by omega) (get1 (by rw [show 0+((i:Int)+v.fst).toNat * 1=i+v.fst by omega];exact hd hV1)))) rfl rfl rfl ?_|refine T_valC rfl (Val.load rfl (fun hg=>rdRow (A:=some ⟨g,0,none⟩) (vs:=[.slice (some ⟨g1,0,none⟩) (m+1) (m+1)]) (by omega) (get1 (by rw [show 0+((i:Int)+v.fst).toNat * 1=i+v.fst by omega];exact hd hV1)))) rfl rfl rfl rfl rfl ?_|refine T_val rfl (Val.load rfl (fun hg=>rdM (l:=M1) (k:=i+v.fst) (g:=g1) (vs:=[.int .i64 (rst (grdA c l cols t) (i+v.fst) (k+v.snd))]) hV1 (get1 (by rw [hc1, ← e1];exact vget (k+v.snd) (by omega) (by omega))))) rfl rfl rfl ?_|refine T_valC rfl (Val.load rfl (fun hg=>rdM (l:=M1) (k:=i+v.fst) (g:=g1) (vs:=[.int .i64 (rst (grdA c l cols t) (i+v.fst) (k+v.snd))]) hV1 (get1 (by rw [hc1, ← e1];exact vget (k+v.snd) (by omega) (by omega))))) rfl rfl rfl rfl rfl ?_|refine T_val rfl (Val.load rfl (fun hg=>rdRow (A:=some ⟨g,0,none⟩) (vs:=[.slice (some ⟨g0,0,none⟩) (m+1) (m+1)]) (by omega) (get1 (by rw [show 0+(i:Int).toNat * 1=i by omega];exact hd hV0)))) rfl rfl rfl ?_|refine T_valC rfl (Val.load rfl (fun hg=>rdRow (A:=some ⟨g,0,none⟩) (vs:=[.slice (some ⟨g0,0,none⟩) (m+1) (m+1)]) (by omega) (get1 (by rw [show 0+(i:Int).toNat * 1=i by omega];exact hd hV0)))) rfl rfl rfl rfl rfl ?_|refine T_val rfl (Val.load rfl (fun hg=>rdM (l:=M1) (k:=i) (g:=g0) (vs:=[.int .i64 (accW (grdA c l cols t) i k jj).1]) hV0 (get1 (by rw [hc0, ← e0];exact vget k (by omega) (by omega))))) rfl rfl rfl ?_|refine T_valC rfl (Val.load rfl (fun hg=>rdM (l:=M1) (k:=i) (g:=g0) (vs:=[.int .i64 (accW (grdA c l cols t) i k jj).1]) hV0 (get1 (by rw [hc0, ← e0];exact vget k (by omega) (by omega))))) rfl rfl rfl rfl rfl ?_)|(show T _ (.run _ _ (_::_) _ _::_) _ _ _;first|refine rv rfl rfl rfl (Val.nilc rfl) rfl rfl rfl ?_|refine rg rfl rfl rfl (Val.nilc rfl) rfl rfl rfl rfl rfl ?_|refine rv rfl rfl rfl (Val.load rfl (fun hg=>rdRow (A:=some ⟨g,0,none⟩) (vs:=[.slice (some ⟨g1,0,none⟩) (m+1) (m+1)]) (by omega) (get1 (by rw [show 0+((i:Int)+v.fst).toNat * 1=i+v.fst by omega];exact hd hV1)))) rfl rfl rfl ?_|refine rg rfl rfl rfl (Val.load rfl (fun hg=>rdRow (A:=some ⟨g,0,none⟩) (vs:=[.slice (some ⟨g1,0,none⟩) (m+1) (m+1)]) (by omega) (get1 (by rw [show 0+((i:Int)+v.fst).toNat * 1=i+v.fst by omega];exact hd hV1)))) rfl rfl rfl rfl rfl ?_|refine rv rfl rfl rfl (Val.load rfl (fun hg=>rdM (l:=M1) (k:=i+v.fst) (g:=g1) (vs:=[.int .i64 (rst (grdA c l cols t) (i+v.fst) (k+v.snd))]) hV1 (get1 (by rw [hc1, ← e1];exact vget (k+v.snd) (by omega) (by omega))))) rfl rfl rfl ?_|refine rg rfl rfl rfl (Val.load rfl (fun hg=>rdM (l:=M1) (k:=i+v.fst) (g:=g1) (vs:=[.int .i64 (rst (grdA c l cols t) (i+v.fst) (k+v.snd))]) hV1 (get1 (by rw [hc1, ← e1];exact vget (k+v.snd) (by omega) (by omega))))) rfl rfl rfl rfl rfl ?_|refine rv rfl rfl rfl (Val.load rfl (fun hg=>rdRow (A:=some ⟨g,0,none⟩) (vs:=[.slice (some ⟨g0,0,none⟩) (m+1) (m+1)]) (by omega) (get1 (by rw [show 0+(i:Int).toNat * 1=i by omega];exact hd hV0)))) rfl rfl rfl ?_|refine rg rfl rfl rfl (Val.load rfl (fun hg=>rdRow (A:=some ⟨g,0,none⟩) (vs:=[.slice (some ⟨g0,0,none⟩) (m+1) (m+1)]) (by omega) (get1 (by rw [show 0+(i:Int).toNat * 1=i by omega];exact hd hV0)))) rfl rfl rfl rfl rfl ?_|refine rv rfl rfl rfl (Val.load rfl (fun hg=>rdM (l:=M1) (k:=i) (g:=g0) (vs:=[.int .i64 (accW (grdA c l cols t) i k jj).1]) hV0 (get1 (by rw [hc0, ← e0];exact vget k (by omega) (by omega))))) rfl rfl rfl ?_|refine rg rfl rfl rfl (Val.load rfl (fun hg=>rdM (l:=M1) (k:=i) (g:=g0) (vs:=[.int .i64 (accW (grdA c l cols t) i k jj).1]) hV0 (get1 (by rw [hc0, ← e0];exact vget k (by omega) (by omega))))) rfl rfl rfl rfl rfl ?_)|(show ∀ _:Nat,T _ _ _ _ _;intro _))
  refine T_if rfl (fun h6=>?_) (fun h6=>?_)
  ·simp only [Bool.or_eq_true,decide_eq_true_eq] at h6
   have es2:(accW (grdA c l cols t) i k (jj+1)).1=via (grdA c l cols t) i k v:=by
    rw [es];unfold stepW;rw [if_pos]
    exact h6
   refine rsH [blk p4 [.int .i64 (k:Nat)] 3,blk p3 [.int .i64 (i:Nat)] 3,row 27 1 (some ⟨g,0,none⟩) cap (cols.length+1) (M1.map (slv m)),blk pb [.pointer (some ⟨pa,0,none⟩)] 151,blk pa (addL c (.slice A n ca) K (.slice At m ct) (.slice (some ⟨g,0,none⟩) (cols.length+1) cap)) 153] 1000 [0,1,2,3,4,5,6,7,8,9,10,11] ?_
   repeat' (first|refine d1 ?_|refine dd ?_|(show T _ (.ops _ (_::_)::_) _ _ _;first|refine T_val rfl (Val.nilc rfl) rfl rfl rfl ?_|refine T_valC rfl (Val.nilc rfl) rfl rfl rfl rfl rfl ?_|refine T_val rfl (Val.load rfl (fun hg=>rdRow (A:=some ⟨g,0,none⟩) (vs:=[.slice (some ⟨g0,0,none⟩) (m+1) (m+1)]) (by omega) (get1 (by rw [show 0+(i:Int).toNat * 1=i by omega];exact hd hV0)))) rfl rfl rfl ?_|refine T_valC rfl (Val.load rfl (fun hg=>rdRow (A:=some ⟨g,0,none⟩) (vs:=[.slice (some ⟨g0,0,none⟩) (m+1) (m+1)]) (by omega) (get1 (by rw [show 0+(i:Int).toNat * 1=i by omega];exact hd hV0)))) rfl rfl rfl rfl rfl ?_)|(show T _ (.run _ _ (_::_) _ _::_) _ _ _;first|refine rv rfl rfl rfl (Val.nilc rfl) rfl rfl rfl ?_|refine rg rfl rfl rfl (Val.nilc rfl) rfl rfl rfl rfl rfl ?_|refine rv rfl rfl rfl (Val.load rfl (fun hg=>rdRow (A:=some ⟨g,0,none⟩) (vs:=[.slice (some ⟨g0,0,none⟩) (m+1) (m+1)]) (by omega) (get1 (by rw [show 0+(i:Int).toNat * 1=i by omega];exact hd hV0)))) rfl rfl rfl ?_|refine rg rfl rfl rfl (Val.load rfl (fun hg=>rdRow (A:=some ⟨g,0,none⟩) (vs:=[.slice (some ⟨g0,0,none⟩) (m+1) (m+1)]) (by omega) (get1 (by rw [show 0+(i:Int).toNat * 1=i by omega];exact hd hV0)))) rfl rfl rfl rfl rfl ?_|refine ro rfl rfl (OpT.storeM rfl rfl rfl hV0 rfl (by rw [hl0];omega) ⟨fun _=>Hle.sub,?_⟩)|refine ro rfl rfl (OpT.store rfl rfl rfl rfl (by decide) ⟨fun _=>Hle.sub,?_⟩))|(show ∀ _:Nat,T _ _ _ _ _;intro _))
   rw [show 0+(k:Int).toNat * 1=k by omega]
   refine T_next (blk p5 [.bool (decide (jj+1=0))] 4::blk p4 [.int .i64 (k:Nat)] 3::blk p3 [.int .i64 (i:Nat)] 3::fillH c (.slice A n ca) K (.slice At m ct) pb pa g cap cols.length m (M1.set i (g0,c0.set k (.int .i64 (via (grdA c l cols t) i k v)))) Kr) ⟨_,by rw [List.length_set];exact hM1,rows_put hS1 hV0 fun i' k'=>?_,rfl⟩ ?_
   ·unfold inWork
    rw [es2]
    split <;> rfl
   ·unfold fillH
    rw [slv_set hV0,show decide (jj+1=0)=false by simp]
    exact Hle.drop2 _ _ _
  ·simp only [Bool.or_eq_false_iff,decide_eq_false_iff_not] at h6
   have es2:(accW (grdA c l cols t) i k (jj+1)).1=(accW (grdA c l cols t) i k jj).1:=by
    rw [es,stepW_fst,if_neg h6.1]
    have h7:¬ via (grdA c l cols t) i k v<(accW (grdA c l cols t) i k jj).1:=h6.2
    omega
   repeat' (first|refine d1 ?_|refine dd ?_|(show ∀ _:Nat,T _ _ _ _ _;intro _))
   refine T_next (blk p5 [.bool (decide (jj+1=0))] 4::blk p4 [.int .i64 (k:Nat)] 3::blk p3 [.int .i64 (i:Nat)] 3::fillH c (.slice A n ca) K (.slice At m ct) pb pa g cap cols.length m M1 Kr) ⟨M1,hM1,hS1.ext hM1 fun i' k' _ _=>?_,rfl⟩ ?_
   ·unfold inWork;rw [es2]
   ·unfold fillH
    rw [show decide (jj+1=0)=decide (jj=0) by rw [decide_eq_false h6.1];simp]
    exact Hle.drop2 _ _ _
 ·rintro D Hn ⟨M1,hM1,hS1,rfl⟩
  rw [stepsV_len] at hS1
  show T _ _ _ _ (dfr D::blk q3 _ _::blk q1 _ _::blk q2 _ _::blk p5 _ _::blk p4 _ _::blk p3 _ _::fillH c (.slice A n ca) K (.slice At m ct) pb pa g cap cols.length m M1 Kr)
  repeat' (first|refine d1 ?_|refine dd ?_|(show ∀ _:Nat,T _ _ _ _ _;intro _)|(show T _ _ _ _ _;refine T_fallD (Hle.refl _) (rf_V (vs:=[]) (fillH c (.slice A n ca) K (.slice At m ct) pb pa g cap cols.length m M1 Kr) rfl ((Hle.tail _ _).trans ((Hle.tail _ _).trans ((Hle.tail _ _).trans ((Hle.tail _ _).trans ((Hle.tail _ _).trans (Hle.tail _ _)))))) ⟨rfl,M1,hM1,hS1.ext hM1 fun i' k' _ _=>inWork_all hp i' k',rfl⟩)))
end Go.Proofs.YthadgaboakipoaaGreatDoor
namespace Go.Proofs.YthadgaboakipoaaGreatDoor
open Go.RowKit Go.Shelf Go.Proofs
set_option maxRecDepth 100000
set_option maxHeartbeats 1000000

theorem Hle.drop3 (A B C:HA) (K:List HA):Hle (A::B::C::K) (A::B::K):=by
 refine Hle.pick (fun i=>if i<2 then i else i+1) (fun i X h=>?_) (fun i j _ _ h=>by show (if i<2 then i else i+1)≠(if j<2 then j else j+1);split <;> split <;> omega)
 rcases i with _|_|i
 ·simpa using h
 ·simpa using h
 ·rw [if_neg (by omega)];simpa using h
theorem fill21_spec {w0:World} {c:Costs} {A:Option Addr} {n:Nat} {l:List TS} {K:Value} {cols:List (List Int)} {At:Option Addr} {m:Nat} {t:List Tok} (h:AddW w0 c A n l K cols At m t) (ca ct pa:Nat) (Kr:List HA) :
  SpecB Tryz.prog 131 [.pointer (some ⟨pa,0,none⟩)] w0 (blk pa (addL c (.slice A n ca) K (.slice At m ct) (.slice none 0 0)) 153::Kr)
   (fun v R=>v = .tuple #[]∧∃ M g cap,M.length=cols.length+1∧RowsOk (rst (grdA c l cols t)) (m+1) M∧R=blks 3 M::row 27 1 (some ⟨g,0,none⟩) cap (cols.length+1) (M.map (slv m))::blk pa (addL c (.slice A n ca) K (.slice At m ct) (.slice (some ⟨g,0,none⟩) (cols.length+1) cap)) 153::Kr):=by
 have hsz:=h.hsz
 have hmb:=h.hm
 obtain⟨Ak,ck,csk,rfl,hck1,hck2,hcs,hrows⟩:=h.hx.tabS
 refine specB_of sg Tryz.func131 rfl rfl rfl ?_
 refine T_op (OpT.box (cs:=[.pointer (some ⟨pa,0,none⟩)]) rfl rfl rfl rfl rfl rfl rfl (fun pb=>?_))
 repeat' (first|refine d1 ?_|refine dd ?_|(show T _ (.ops _ (_::_)::_) _ _ _;first|refine T_val rfl (Val.nilc rfl) rfl rfl rfl ?_|refine T_valC rfl (Val.nilc rfl) rfl rfl rfl rfl rfl ?_)|(show T _ (.run _ _ (_::_) _ _::_) _ _ _;first|refine rv rfl rfl rfl (Val.nilc rfl) rfl rfl rfl ?_|refine rg rfl rfl rfl (Val.nilc rfl) rfl rfl rfl rfl rfl ?_)|(show ∀ _:Nat,T _ _ _ _ _;intro _))
 refine T_nilrow 27 1 ?_
 refine T_nilblks 3 ?_
 refine T_loopX (fun s:List (Nat × List Value) × (Option Addr × Nat)=>[(11, .int .i64 s.1.length)]) (fun s=>blks 3 s.1::row 27 1 s.2.1 s.2.2 s.1.length (s.1.map (slv m))::blk pb [.pointer (some ⟨pa,0,none⟩)] 151::blk pa (addL c (.slice A n ca) (.slice Ak cols.length ck) (.slice At m ct) (.slice s.2.1 s.1.length s.2.2)) 153::Kr) (fun s=>s.1.length≤cols.length+1∧RowsOk (fun _ _=>0) (m+1) s.1) (fun s=>cols.length+1 - s.1.length) ([],(none,0)) ⟨Nat.zero_le _,fun i x h=>by simp at h⟩ ?_
 rintro⟨L,Ar,capr⟩ ⟨hL,hR⟩
 dsimp only at hL hR ⊢
 repeat' (first|refine d1 ?_|refine dd ?_|(show ∀ _:Nat,T _ _ _ _ _;intro _))
 refine T_if rfl (fun h1=>?_) (fun h1=>?_)
 ·simp only [decide_eq_true_eq] at h1
  have hLt:L.length<cols.length+1:=by omega
  refine dw0 16 [blk pb [.pointer (some ⟨pa,0,none⟩)] 151,blk pa (addL c (.slice A n ca) (.slice Ak cols.length ck) (.slice At m ct) (.slice Ar L.length capr)) 153] ?_
  repeat' (first|(show T _ (.draw _ _ _ _ _::_) _ _ _;first|refine dw1 ?_|refine dwv rfl (by decide +kernel) rfl rfl (Val.nilc rfl) rfl rfl rfl ?_|refine dwg rfl (by decide +kernel) rfl rfl (Val.nilc rfl) rfl rfl rfl rfl rfl ?_|refine dwb rfl (by decide +kernel) ?_)|(show AllL _ [];exact True.intro)|(show AllL _ (_::_);refine ⟨?_,?_⟩)|(show OpT _ _ _ _ _ _ _;first|refine dwx ?_|refine OpT.ofVal rfl (Val.nilc rfl) rfl rfl rfl ⟨fun _=>(by first|exact Hle.none _|exact Hle.sub|exact absurd ‹_› (by decide +kernel)),?_⟩|refine OpT.make rfl rfl rfl rfl rfl rfl rfl rfl rfl (by dsimp only;omega) (fun b2=>⟨fun _=>(by first|exact Hle.none _|exact Hle.sub|exact absurd ‹_› (by decide +kernel)),?_⟩)|refine OpT.litW rfl rfl rfl rfl rfl rfl rfl rfl rfl rfl rfl (fun b3=>⟨fun _=>(by first|exact Hle.none _|exact Hle.sub|exact absurd ‹_› (by decide +kernel)),?_⟩)|refine OpT.append rfl rfl rfl rfl rfl rfl rfl rfl rfl rfl (fun w hw=>Src.own hw rfl) rfl (by dsimp only;omega) (by omega) (fun A' cap' hA'=>⟨fun _=>(by first|exact Hle.none _|exact Hle.sub|exact absurd ‹_› (by decide +kernel)),?_⟩)|refine OpT.store rfl rfl rfl rfl (by decide) ⟨fun _=>(by first|exact Hle.none _|exact Hle.sub|exact absurd ‹_› (by decide +kernel)),?_⟩)|(show ∀ _:Nat,T _ _ _ _ _;intro _))
  repeat' (first|refine d1 ?_|refine dd ?_|(show ∀ _:Nat,T _ _ _ _ _;intro _))
  rename_i b2 b3
  refine T_backX (L++[(b2,List.replicate (m+1) (.int .i64 0))],(A',cap')) ⟨by dsimp only;rw [List.length_append];exact Nat.succ_le_of_lt hLt,rows_snoc0 hR⟩ (by dsimp only;rw [List.length_append];simp;omega) (hE:=⟨by dsimp only;rw [List.length_append];rfl,trivial⟩) (hG:=?_)
  dsimp only
  rw [List.length_append,List.map_append]
  exact (Hle.tail _ _).trans blks_snoc
 simp only [decide_eq_false_iff_not] at h1
 have hLn:L.length=cols.length+1:=by omega
 rw [hLn]
 refine T_rowpos (A:=Ar) (by omega) (fun g e=>?_)
 subst e
 have hR0:RowsOk (soFar cols.length m 0 (rst (grdA c l cols t))) (m+1) L:=fun i x hx=>by rw [hR i x hx,soFar_zero]
 repeat' (first|refine d1 ?_|refine dd ?_|(show T _ (.ops _ (_::_)::_) _ _ _;first|refine T_val rfl (Val.nilc rfl) rfl rfl rfl ?_|refine T_valC rfl (Val.nilc rfl) rfl rfl rfl rfl rfl ?_)|(show T _ (.run _ _ (_::_) _ _::_) _ _ _;first|refine rv rfl rfl rfl (Val.nilc rfl) rfl rfl rfl ?_|refine rg rfl rfl rfl (Val.nilc rfl) rfl rfl rfl rfl rfl ?_)|(show ∀ _:Nat,T _ _ _ _ _;intro _))
 refine T_loopX (fun s:Nat × List (Nat × List Value)=>[(3, .int .i64 ((cols.length:Int) - s.1))]) (fun s=>fillH c (.slice A n ca) (.slice Ak cols.length ck) (.slice At m ct) pb pa g capr cols.length m s.2 Kr) (fun s=>s.1≤cols.length+1∧s.2.length=cols.length+1∧RowsOk (soFar cols.length m (s.1 * (m+1)) (rst (grdA c l cols t))) (m+1) s.2) (fun s=>cols.length+1 - s.1) (0,L) ⟨Nat.zero_le _,hLn,by rw [Nat.zero_mul];exact hR0⟩ ?_ (hE:=⟨by rw [show (cols.length:Int) - ((0:Nat):Int)=cols.length by omega];rfl,trivial⟩)
 rintro⟨p,M⟩ ⟨hp,hM,hS⟩
 dsimp only at hp hM hS ⊢
 repeat' (first|refine d1 ?_|refine dd ?_|(show ∀ _:Nat,T _ _ _ _ _;intro _))
 refine T_if rfl (fun h3=>?_) (fun h3=>?_)
 ·simp only [decide_eq_true_eq] at h3
  repeat' (first|refine d1 ?_|refine dd ?_|(show T _ (.ops _ (_::_)::_) _ _ _;first|refine T_val rfl (Val.nilc rfl) rfl rfl rfl ?_|refine T_valC rfl (Val.nilc rfl) rfl rfl rfl rfl rfl ?_)|(show T _ (.run _ _ (_::_) _ _::_) _ _ _;first|refine rv rfl rfl rfl (Val.nilc rfl) rfl rfl rfl ?_|refine rg rfl rfl rfl (Val.nilc rfl) rfl rfl rfl rfl rfl ?_)|(show ∀ _:Nat,T _ _ _ _ _;intro _))
  refine T_loopX (fun s:Nat × List (Nat × List Value)=>[(4, .int .i64 ((m:Int) - s.1))]) (fun s=>fillH c (.slice A n ca) (.slice Ak cols.length ck) (.slice At m ct) pb pa g capr cols.length m s.2 Kr) (fun s=>s.1≤m+1∧s.2.length=cols.length+1∧RowsOk (soFar cols.length m (p * (m+1)+s.1) (rst (grdA c l cols t))) (m+1) s.2) (fun s=>m+1 - s.1) (0,M) ⟨Nat.zero_le _,hM,hS⟩ ?_ (hE:=⟨by rw [show (m:Int) - ((0:Nat):Int)=m by omega];rfl,trivial⟩)
  rintro⟨q,M2⟩ ⟨hq,hM2,hS2⟩
  dsimp only at hq hM2 hS2 ⊢
  repeat' (first|refine d1 ?_|refine dd ?_|(show ∀ _:Nat,T _ _ _ _ _;intro _))
  refine T_if rfl (fun h4=>?_) (fun h4=>?_)
  ·simp only [decide_eq_true_eq] at h4
   have hpl:=placesL_get (n:=cols.length) (m:=m) (p:=p) (q:=q) (by omega) (by omega)
   have hno:=place_new (n:=cols.length) (m:=m) (p:=p) (q:=q) (by omega) (by omega)
   obtain⟨i,hi⟩:∃ i,i=cols.length - p:=⟨_,rfl⟩
   obtain⟨k,hkk⟩:∃ k,k=m - q:=⟨_,rfl⟩
   rw [show (cols.length:Int) - p=(i:Nat) by omega,show (m:Int) - q=(k:Nat) by omega]
   rw [← hi, ← hkk] at hpl hno
   repeat' (first|refine d1 ?_|refine dd ?_|(show T _ (.ops _ (_::_)::_) _ _ _;refine T_op (OpT.callB rfl rfl rfl rfl rfl (fill1_spec h ca ct pb pa g capr Kr M2 _ i k hpl hno hM2 hS2) (fun u R hR=>?_)))|(show ∀ _:Nat,T _ _ _ _ _;intro _))
   obtain⟨rfl,M3,hM3,hS3,rfl⟩:=hR
   repeat' (first|refine d1 ?_|refine dd ?_|(show ∀ _:Nat,T _ _ _ _ _;intro _))
   exact T_backX (q+1,M3) ⟨by dsimp only;omega,hM3,hS3⟩ (by dsimp only;omega) (hE:=⟨by dsimp only;rw [show (m:Int) - ((q+1:Nat):Int)=(k:Int) - 1 by omega];rfl,trivial⟩)
  ·simp only [decide_eq_false_iff_not] at h4
   obtain rfl:q=m+1:=by omega
   repeat' (first|refine d1 ?_|refine dd ?_|(show ∀ _:Nat,T _ _ _ _ _;intro _))
   exact T_backX (p+1,M2) ⟨by dsimp only;omega,hM2,by dsimp only;rw [Nat.succ_mul];exact hS2⟩ (by dsimp only;omega) (hE:=⟨by dsimp only;rw [show (cols.length:Int) - ((p+1:Nat):Int)=(cols.length:Int) - p - 1 by omega];rfl,trivial⟩)
 ·simp only [decide_eq_false_iff_not] at h3
  obtain rfl:p=cols.length+1:=by omega
  have hR':RowsOk (rst (grdA c l cols t)) (m+1) M:=hS.ext hM fun i k hi hk=>soFar_all (by rw [placesL_len];exact Nat.le_refl _) _ (by omega) (by omega)
  refine T_fallV (vs:=[]) (blks 3 M::row 27 1 (some ⟨g,0,none⟩) capr (cols.length+1) (M.map (slv m))::blk pa (addL c (.slice A n ca) (.slice Ak cols.length ck) (.slice At m ct) (.slice (some ⟨g,0,none⟩) (cols.length+1) capr)) 153::Kr) rfl ?_ ⟨rfl,M,g,capr,hM,hR',rfl⟩
  exact Hle.drop3 _ _ _ _
end Go.Proofs.YthadgaboakipoaaGreatDoor
namespace Go.Proofs.YthadgaboakipoaaGreatDoor
open Go.RowKit Go.Shelf Go.Proofs
set_option maxRecDepth 100000
set_option maxHeartbeats 1000000

end Go.Proofs.YthadgaboakipoaaGreatDoor
namespace Go.Proofs.YthadgaboakipoaaGreatDoor
open Go.RowKit Go.Shelf Go.Proofs
set_option maxRecDepth 100000
set_option maxHeartbeats 1000000

theorem tbl_hle {N m g cap:Nat} {f:Nat→Nat→Int} {M:List (Nat × List Value)} {J:List HA} (hm:m≤1000) (hM:M.length=N+1) (hR:RowsOk f (m+1) M):Hle (blks 3 M::row 27 1 (some ⟨g,0,none⟩) cap (N+1) (M.map (slv m))::J) (dat [.slice (some ⟨g,0,none⟩) (N+1) cap] [rowsD (tabR N m f)]::J):=by
 have q1:∀ x∈M,m+1≤x.2.length:=fun x hx=>by obtain⟨i,hi,e⟩:=List.getElem_of_mem hx;rw [hR i x (by rw [List.getElem?_eq_getElem hi,e]),valV_length];omega
 refine (dat_blks (L:=M) (m+1) (m+1) (by omega) (by omega) q1).trans ?_
 rw [tab_rows hM hR]
 exact (Hle.perm (List.Perm.swap _ _ _)).trans dat_row
theorem setLast (cA:List Int) (n:Nat) (k z:Int) (h:cA.length=n):setL ((cA++[z]).map (Value.int .i64)) (0+(n:Int).toNat * 1) [.int .i64 k]=(cA++[k]).map (Value.int .i64):=by
 rw [show 0+(n:Int).toNat * 1=n by omega,setL_eq _ _ _ (by simp [h]),List.map_append,List.take_append_of_le_length (by simp [h]),List.take_of_length_le (by simp [h]),List.drop_of_length_le (by simp [h]),List.map_append]
 rfl
theorem add21_spec {w:World} {c:Costs} {A:Option Addr} {n:Nat} {l:List TS} {K:Value} {cols:List (List Int)} {At:Option Addr} {m:Nat} {t:List Tok} (h:AddW w c A n l K cols At m t) (ca ct:Nat) (hprod:((cols.length:Int)+1) * ((m:Int)+1)≤1048576) :
  Spec Tryz.prog 86 [c.val, .slice A n ca,K, .slice At m ct] w (fun v R=>∃ x:Value,True∧v = .tuple #[x, .int .i64 0]∧R=[dat [x] [rowsD (addV c l cols t 0 0)]]):=by
 have hsz:=h.hsz
 have hmb:=h.hm
 have hb:=h.hg.hb
 have hn:=h.hg.hn
 have hprod0:0≤((cols.length:Int)+1) * ((m:Int)+1):=Int.mul_nonneg (by omega) (by omega)
 have e1:(grdA c l cols t).n=cols.length:=rfl
 have e2:(grdA c l cols t).m=m:=h.htl
 obtain⟨Ak,ck,csk,rfl,hck1,hck2,hcs,hrows⟩:=h.hx.tabS
 refine spec_of sg Tryz.func86 rfl rfl rfl ?_
 refine T_op (OpT.box (cs:=c.cells) rfl rfl rfl rfl rfl rfl rfl (fun pc=>?_))
 refine T_op (OpT.box (cs:=[.slice A n ca]) rfl rfl rfl rfl rfl rfl rfl (fun pl=>?_))
 refine T_op (OpT.box (cs:=[.slice Ak cols.length ck]) rfl rfl rfl rfl rfl rfl rfl (fun pk=>?_))
 repeat' (first|refine d1 ?_|refine dd ?_|(show ∀ _:Nat,T _ _ _ _ _;intro _))
 refine T_if rfl (fun h1=>by exfalso;simp only [decide_eq_true_eq] at h1;omega) (fun _=>?_)
 repeat' (first|refine d1 ?_|refine dd ?_|(show T _ (.ops _ (_::_)::_) _ _ _;first|refine T_val rfl (Val.nilc rfl) rfl rfl rfl ?_|refine T_valC rfl (Val.nilc rfl) rfl rfl rfl rfl rfl ?_)|(show T _ (.run _ _ (_::_) _ _::_) _ _ _;first|refine rv rfl rfl rfl (Val.nilc rfl) rfl rfl rfl ?_|refine rg rfl rfl rfl (Val.nilc rfl) rfl rfl rfl rfl rfl ?_)|(show ∀ _:Nat,T _ _ _ _ _;intro _))
 rename_i pa p10
 refine T_le (H':=blk pa (addL c (.slice A n ca) (.slice Ak cols.length ck) (.slice At m ct) (.slice none 0 0)) 153::blk p10 [.pointer (some ⟨pa,0,none⟩)] 151::blk pk [.slice Ak cols.length ck] 47::blk pl [.slice A n ca] 24::blk pc c.cells 23::[]) (Hle.perm (List.Perm.swap _ _ _)) ?_
 refine T_op (OpT.callB rfl rfl rfl rfl rfl (fill21_spec h ca ct pa _) (fun u R hR=>?_))
 obtain⟨rfl,M,g,cap,hM,hR,rfl⟩:=hR
 refine T_le (tbl_hle hmb hM hR) ?_
 refine T_open fun pt hpt=>?_
 obtain⟨Agt,capt,cst,he,-,-,-,hAt,hrt⟩:=hpt.tab
 rw [tabR_length] at hAt he
 simp only [Value.slice.injEq,true_and] at he
 obtain⟨rfl,rfl⟩:=he
 obtain⟨bt,ot,hbo,hbt⟩:=hAt (by omega)
 simp only [Option.some.injEq,Addr.mk.injEq,and_true] at hbo
 obtain⟨rfl,rfl⟩:=hbo
 repeat' (first|refine d1 ?_|refine dd ?_|(show ∀ _:Nat,T _ _ _ _ _;intro _))
 rename_i p11 p12 p13
 refine T_le (H':=[blk p13 [.int .i64 ((0:Nat):Int)] 3,blk p12 [.int .i64 ((0:Nat):Int)] 3,blk p11 [.slice none 0 0] 47,fz pt,blk pa (addL c (.slice A n ca) (.slice Ak cols.length ck) (.slice At m ct) (.slice (some ⟨g,0,none⟩) (cols.length+1) cap)) 153,blk p10 [.pointer (some ⟨pa,0,none⟩)] 151,blk pk [.slice Ak cols.length ck] 47,blk pl [.slice A n ca] 24,blk pc c.cells 23]) (Hle.refl _) ?_
 refine T_keep [(3, .slice At m ct),(4, .pointer (some ⟨pc,0,none⟩)),(5, .pointer (some ⟨pl,0,none⟩)),(6, .pointer (some ⟨pk,0,none⟩)),(9, .int .i64 0),(10, .pointer (some ⟨p10,0,none⟩)),(11, .pointer (some ⟨p11,0,none⟩)),(12, .pointer (some ⟨p12,0,none⟩)),(13, .pointer (some ⟨p13,0,none⟩))] ⟨rfl,rfl,rfl,rfl,rfl,rfl,rfl,rfl,rfl,trivial⟩ ?_
 refine T_le (dat_nil _) ?_
 refine T_nilrow 27 1 ?_
 show T (FC _ _ (([]:List Nat).map mkD) _ _ _) _ _ _ _
 refine T_loopDX (fun s:(Nat × Nat) × (Nat × Nat) × (Option Addr × Nat) × List Value × List (List Int) × List Nat=>[(12, .pointer (some ⟨s.2.1.1,0,none⟩)),(13, .pointer (some ⟨s.2.1.2,0,none⟩))]) (fun s=>[blk s.2.1.2 [.int .i64 (s.1.2:Nat)] 3,blk s.2.1.1 [.int .i64 (s.1.1:Nat)] 3,blk p11 [.slice s.2.2.1.1 s.2.2.2.2.1.length s.2.2.1.2] 47,row 27 1 s.2.2.1.1 s.2.2.1.2 s.2.2.2.2.1.length s.2.2.2.1,dat s.2.2.2.1 (s.2.2.2.2.1.map intsD),fz pt,blk pa (addL c (.slice A n ca) (.slice Ak cols.length ck) (.slice At m ct) (.slice (some ⟨g,0,none⟩) (cols.length+1) cap)) 153,blk p10 [.pointer (some ⟨pa,0,none⟩)] 151,blk pk [.slice Ak cols.length ck] 47,blk pl [.slice A n ca] 24,blk pc c.cells 23]) (fun s=>s.2.2.2.2.2) (fun s=>s.1.1≤cols.length∧s.1.2≤m∧s.2.2.2.2.1.length≤s.1.1+s.1.2∧addV c l cols t 0 0=s.2.2.2.2.1++addV c l cols t s.1.1 s.1.2) (fun s=>(cols.length - s.1.1)+(m - s.1.2)) ((0,0),(p12,p13),(none,0),[],[],[]) ⟨Nat.zero_le _,Nat.zero_le _,Nat.zero_le _,rfl⟩ rfl ?_ (hG:=by exact Hle.perm ((List.perm_append_comm (l₁:=[_,_]) (l₂:=[_,_,_])).append_right (fz pt::_)))
 rintro⟨⟨i,k⟩,⟨q12,q13⟩,⟨Ao,capo⟩,hs,out,Dl⟩ ⟨hi,hk,hlo,hout⟩
 dsimp only at hi hk hlo hout ⊢
 refine T_le (H':=blk q13 [.int .i64 (k:Nat)] 3::blk q12 [.int .i64 (i:Nat)] 3::blk p11 [.slice Ao out.length capo] 47::row 27 1 Ao capo out.length hs::dat hs (out.map intsD)::fz pt::blk pa (addL c (.slice A n ca) (.slice Ak cols.length ck) (.slice At m ct) (.slice (some ⟨g,0,none⟩) (cols.length+1) cap)) 153::blk p10 [.pointer (some ⟨pa,0,none⟩)] 151::blk pk [.slice Ak cols.length ck] 47::blk pl [.slice A n ca] 24::blk pc c.cells 23::dfrs Dl) (Hle.refl _) ?_
 repeat' (first|refine d1 ?_|refine dd ?_|(show ∀ _:Nat,T _ _ _ _ _;intro _))
 refine T_if rfl (fun h3=>?_) (fun h3=>?_)
 ·have h3':i<cols.length∨k<m:=by simpa using h3
  repeat' (first|refine d1 ?_|refine dd ?_|(show T _ (.ops _ (_::_)::_) _ _ _;first|refine T_val rfl (Val.nilc rfl) rfl rfl rfl ?_|refine T_valC rfl (Val.nilc rfl) rfl rfl rfl rfl rfl ?_)|(show T _ (.run _ _ (_::_) _ _::_) _ _ _;first|refine rv rfl rfl rfl (Val.nilc rfl) rfl rfl rfl ?_|refine rg rfl rfl rfl (Val.nilc rfl) rfl rfl rfl rfl rfl ?_|refine ro rfl rfl (OpT.call rfl rfl rfl rfl rfl (fun w hw=>steps21_spec c _ _ _ _ i k w) (fun u R hR=>?_)))|(show ∀ _:Nat,T _ _ _ _ _;intro _))
  obtain⟨⟨q1,q2,q3⟩,-,rfl,rfl⟩:=hR
  refine ⟨by intro _;exact Hle.append_right (K:=[]) _,?_⟩
  dsimp only
  repeat' (first|refine d1 ?_|refine dd ?_|(show ∀ _:Nat,T _ _ _ _ _;intro _))
  refine T_rangeA (steps_iter h ca ct (some ⟨g,0,none⟩) (cols.length+1) cap i k hi hk q1 q2 q3) rfl (fun j y hy=>by obtain⟨v,_,rfl⟩:=stepsV_at hy;exact⟨rfl,rfl⟩)
   (fun jj H=>H=blk q13 [.int .i64 (k:Nat)] 3::blk q12 [.int .i64 (i:Nat)] 3::blk p11 [.slice Ao out.length capo] 47::row 27 1 Ao capo out.length hs::dat hs (out.map intsD)::fz pt::blk pa (addL c (.slice A n ca) (.slice Ak cols.length ck) (.slice At m ct) (.slice (some ⟨g,0,none⟩) (cols.length+1) cap)) 153::blk p10 [.pointer (some ⟨pa,0,none⟩)] 151::blk pk [.slice Ak cols.length ck] 47::blk pl [.slice A n ca] 24::blk pc c.cells 23::dfrs Dl∧∀ j' y,j'<jj→(mvs (grdA c l cols t) i k)[j']?=some y→via (grdA c l cols t) i k y≠rst (grdA c l cols t) i k) (fun _=>False)
   (fun id H=>id=2∧∃ (v:Mv) (x:Option Addr × Nat × Value),fstM (grdA c l cols t) i k=some v∧H=blk q13 [.int .i64 ((k+v.snd:Nat):Int)] 3::blk q12 [.int .i64 ((i+v.fst:Nat):Int)] 3::blk p11 [.slice x.1 (out.length+1) x.2.1] 47::row 27 1 x.1 x.2.1 (out.length+1) (hs++[x.2.2])::dat (hs++[x.2.2]) ((out++[colM l.length cols i k v]).map intsD)::fz pt::blk pa (addL c (.slice A n ca) (.slice Ak cols.length ck) (.slice At m ct) (.slice (some ⟨g,0,none⟩) (cols.length+1) cap)) 153::blk p10 [.pointer (some ⟨pa,0,none⟩)] 151::blk pk [.slice Ak cols.length ck] 47::blk pl [.slice A n ca] 24::blk pc c.cells 23::dfrs Dl)
   (blk q13 [.int .i64 (k:Nat)] 3::blk q12 [.int .i64 (i:Nat)] 3::blk p11 [.slice Ao out.length capo] 47::row 27 1 Ao capo out.length hs::dat hs (out.map intsD)::fz pt::blk pa (addL c (.slice A n ca) (.slice Ak cols.length ck) (.slice At m ct) (.slice (some ⟨g,0,none⟩) (cols.length+1) cap)) 153::blk p10 [.pointer (some ⟨pa,0,none⟩)] 151::blk pk [.slice Ak cols.length ck] 47::blk pl [.slice A n ca] 24::blk pc c.cells 23::dfrs Dl) ⟨rfl,fun _ _ h=>by omega⟩ (Hle.refl _) ?_ ?_ (fun _ _ h=>h.elim) ?_
  ·rintro Lp r jj yv Hj K2 hr hyv ⟨rfl,hno⟩
   obtain⟨v,hv,rfl⟩:=stepsV_at hyv
   have hb1:=h.to hi hk hv
   have hrb:=h.rst (i+v.fst) (k+v.snd)
   show T _ _ ((48, .agg v.cells.toArray)::_) _ (lrec Lp r::blk q13 [.int .i64 (k:Nat)] 3::blk q12 [.int .i64 (i:Nat)] 3::blk p11 [.slice Ao out.length capo] 47::row 27 1 Ao capo out.length hs::dat hs (out.map intsD)::fz pt::blk pa (addL c (.slice A n ca) (.slice Ak cols.length ck) (.slice At m ct) (.slice (some ⟨g,0,none⟩) (cols.length+1) cap)) 153::blk p10 [.pointer (some ⟨pa,0,none⟩)] 151::blk pk [.slice Ak cols.length ck] 47::blk pl [.slice A n ca] 24::blk pc c.cells 23::(dfrs Dl++K2))
   repeat' (first|refine d1 ?_|refine dd ?_|(show ∀ _:Nat,T _ _ _ _ _;intro _))
   rename_i p14
   refine T_le (H':=lrec Lp r::blk p14 v.cells 158::blk q13 [.int .i64 (k:Nat)] 3::blk q12 [.int .i64 (i:Nat)] 3::blk p11 [.slice Ao out.length capo] 47::row 27 1 Ao capo out.length hs::dat hs (out.map intsD)::fz pt::blk pa (addL c (.slice A n ca) (.slice Ak cols.length ck) (.slice At m ct) (.slice (some ⟨g,0,none⟩) (cols.length+1) cap)) 153::blk p10 [.pointer (some ⟨pa,0,none⟩)] 151::blk pk [.slice Ak cols.length ck] 47::blk pl [.slice A n ca] 24::blk pc c.cells 23::(dfrs Dl++K2)) (Hle.perm (List.Perm.swap _ _ _)) ?_
   refine T_begin hr rfl ?_
   obtain⟨Ar1,capr1,hcr1,-,-,hAr1⟩:=hrt.tabRow (tabR_get hb1.1)
   rw [List.length_map,List.length_range] at hcr1 hAr1
   obtain⟨br1,or1,rfl,hbr1⟩:=hAr1 (by omega)
   obtain⟨Ar0,capr0,hcr0,-,-,hAr0⟩:=hrt.tabRow (tabR_get hi)
   rw [List.length_map,List.length_range] at hcr0 hAr0
   obtain⟨br0,or0,rfl,hbr0⟩:=hAr0 (by omega)
   repeat' (first|refine d1 ?_|refine dd ?_|(show T _ (.ops _ (_::_)::_) _ _ _;first|refine T_val rfl (Val.nilc rfl) rfl rfl rfl ?_|refine T_valC rfl (Val.nilc rfl) rfl rfl rfl rfl rfl ?_|refine T_val rfl (Val.load rfl (fun hg=>rdFz (p:=pt) (u := .slice (some ⟨br1,or1,none⟩) (m+1) capr1) (b:=g) (by rw [show 0+((i:Int)+v.fst).toNat * 1=0+(i+v.fst) by omega];exact hbt _ _ hcr1))) rfl rfl rfl ?_|refine T_valC rfl (Val.load rfl (fun hg=>rdFz (p:=pt) (u := .slice (some ⟨br1,or1,none⟩) (m+1) capr1) (b:=g) (by rw [show 0+((i:Int)+v.fst).toNat * 1=0+(i+v.fst) by omega];exact hbt _ _ hcr1))) rfl rfl rfl rfl rfl ?_|refine T_val rfl (Val.load rfl (fun hg=>rdFz (p:=pt) (u := .int .i64 (rst (grdA c l cols t) (i+v.fst) (k+v.snd))) (b:=br1) (by rw [show or1+((k:Int)+v.snd).toNat * 1=or1+(k+v.snd) by omega];exact hbr1 _ _ (tabR_cell hb1.2.1)))) rfl rfl rfl ?_|refine T_valC rfl (Val.load rfl (fun hg=>rdFz (p:=pt) (u := .int .i64 (rst (grdA c l cols t) (i+v.fst) (k+v.snd))) (b:=br1) (by rw [show or1+((k:Int)+v.snd).toNat * 1=or1+(k+v.snd) by omega];exact hbr1 _ _ (tabR_cell hb1.2.1)))) rfl rfl rfl rfl rfl ?_|refine T_val rfl (Val.load rfl (fun hg=>rdFz (p:=pt) (u := .slice (some ⟨br0,or0,none⟩) (m+1) capr0) (b:=g) (by rw [off1];exact hbt _ _ hcr0))) rfl rfl rfl ?_|refine T_valC rfl (Val.load rfl (fun hg=>rdFz (p:=pt) (u := .slice (some ⟨br0,or0,none⟩) (m+1) capr0) (b:=g) (by rw [off1];exact hbt _ _ hcr0))) rfl rfl rfl rfl rfl ?_|refine T_val rfl (Val.load rfl (fun hg=>rdFz (p:=pt) (u := .int .i64 (rst (grdA c l cols t) i k)) (b:=br0) (by rw [off1];exact hbr0 _ _ (tabR_cell hk)))) rfl rfl rfl ?_|refine T_valC rfl (Val.load rfl (fun hg=>rdFz (p:=pt) (u := .int .i64 (rst (grdA c l cols t) i k)) (b:=br0) (by rw [off1];exact hbr0 _ _ (tabR_cell hk)))) rfl rfl rfl rfl rfl ?_)|(show T _ (.run _ _ (_::_) _ _::_) _ _ _;first|refine rv rfl rfl rfl (Val.nilc rfl) rfl rfl rfl ?_|refine rg rfl rfl rfl (Val.nilc rfl) rfl rfl rfl rfl rfl ?_|refine rv rfl rfl rfl (Val.load rfl (fun hg=>rdFz (p:=pt) (u := .slice (some ⟨br1,or1,none⟩) (m+1) capr1) (b:=g) (by rw [show 0+((i:Int)+v.fst).toNat * 1=0+(i+v.fst) by omega];exact hbt _ _ hcr1))) rfl rfl rfl ?_|refine rg rfl rfl rfl (Val.load rfl (fun hg=>rdFz (p:=pt) (u := .slice (some ⟨br1,or1,none⟩) (m+1) capr1) (b:=g) (by rw [show 0+((i:Int)+v.fst).toNat * 1=0+(i+v.fst) by omega];exact hbt _ _ hcr1))) rfl rfl rfl rfl rfl ?_|refine rv rfl rfl rfl (Val.load rfl (fun hg=>rdFz (p:=pt) (u := .int .i64 (rst (grdA c l cols t) (i+v.fst) (k+v.snd))) (b:=br1) (by rw [show or1+((k:Int)+v.snd).toNat * 1=or1+(k+v.snd) by omega];exact hbr1 _ _ (tabR_cell hb1.2.1)))) rfl rfl rfl ?_|refine rg rfl rfl rfl (Val.load rfl (fun hg=>rdFz (p:=pt) (u := .int .i64 (rst (grdA c l cols t) (i+v.fst) (k+v.snd))) (b:=br1) (by rw [show or1+((k:Int)+v.snd).toNat * 1=or1+(k+v.snd) by omega];exact hbr1 _ _ (tabR_cell hb1.2.1)))) rfl rfl rfl rfl rfl ?_|refine rv rfl rfl rfl (Val.load rfl (fun hg=>rdFz (p:=pt) (u := .slice (some ⟨br0,or0,none⟩) (m+1) capr0) (b:=g) (by rw [off1];exact hbt _ _ hcr0))) rfl rfl rfl ?_|refine rg rfl rfl rfl (Val.load rfl (fun hg=>rdFz (p:=pt) (u := .slice (some ⟨br0,or0,none⟩) (m+1) capr0) (b:=g) (by rw [off1];exact hbt _ _ hcr0))) rfl rfl rfl rfl rfl ?_|refine rv rfl rfl rfl (Val.load rfl (fun hg=>rdFz (p:=pt) (u := .int .i64 (rst (grdA c l cols t) i k)) (b:=br0) (by rw [off1];exact hbr0 _ _ (tabR_cell hk)))) rfl rfl rfl ?_|refine rg rfl rfl rfl (Val.load rfl (fun hg=>rdFz (p:=pt) (u := .int .i64 (rst (grdA c l cols t) i k)) (b:=br0) (by rw [off1];exact hbr0 _ _ (tabR_cell hk)))) rfl rfl rfl rfl rfl ?_)|(show ∀ _:Nat,T _ _ _ _ _;intro _))
   refine T_if rfl (fun h4=>?_) (fun h4=>?_)
   ·simp only [Bool.not_eq_true',decide_eq_false_iff_not] at h4
    refine T_next (blk q13 [.int .i64 (k:Nat)] 3::blk q12 [.int .i64 (i:Nat)] 3::blk p11 [.slice Ao out.length capo] 47::row 27 1 Ao capo out.length hs::dat hs (out.map intsD)::fz pt::blk pa (addL c (.slice A n ca) (.slice Ak cols.length ck) (.slice At m ct) (.slice (some ⟨g,0,none⟩) (cols.length+1) cap)) 153::blk p10 [.pointer (some ⟨pa,0,none⟩)] 151::blk pk [.slice Ak cols.length ck] 47::blk pl [.slice A n ca] 24::blk pc c.cells 23::dfrs Dl) ⟨rfl,fun j' y hj hy=>?_⟩ (Hle.drop2 _ _ _)
    rcases Nat.lt_or_ge j' jj with h6|h6
    ·exact hno j' y h6 hy
    ·rw [show j'=jj by omega,hv] at hy
     cases hy
     exact h4
   ·simp only [Bool.not_eq_false',decide_eq_true_eq] at h4
    have hf:fstM (grdA c l cols t) i k=some v:=find_at hv (decide_eq_true h4) fun j' y hj hy=>decide_eq_false (hno j' y hj hy)
    repeat' (first|refine d1 ?_|refine dd ?_|(show T _ (.ops _ (_::_)::_) _ _ _;refine T_callE rfl rfl rfl rfl rfl (fun w hw=>repeatI_spec (-1) (some ⟨_,0,none⟩) 1 (n+1) w (Src.own hw rfl) (by omega)) (fun bc _=>?_))|(show ∀ _:Nat,T _ _ _ _ _;intro _))
    rename_i blit _
    have hb0:(List.replicate (n+1) (Value.int .i64 (-1)))=(noneC l.length++[-1]).map (Value.int .i64):=by
     unfold noneC;rw [List.map_append,List.map_replicate,hn,List.replicate_succ'];rfl
    refine T_le (H':=row 3 1 (some ⟨bc,0,none⟩) (n+1) (n+1) ((noneC l.length++[-1]).map (Value.int .i64))::lrec Lp (busy r)::blk p14 v.cells 158::blk q13 [.int .i64 (k:Nat)] 3::blk q12 [.int .i64 (i:Nat)] 3::blk p11 [.slice Ao out.length capo] 47::row 27 1 Ao capo out.length hs::dat hs (out.map intsD)::fz pt::blk pa (addL c (.slice A n ca) (.slice Ak cols.length ck) (.slice At m ct) (.slice (some ⟨g,0,none⟩) (cols.length+1) cap)) 153::blk p10 [.pointer (some ⟨pa,0,none⟩)] 151::blk pk [.slice Ak cols.length ck] 47::blk pl [.slice A n ca] 24::blk pc c.cells 23::(dfrs Dl++K2)) (by rw [← hb0];exact Hle.drop2 _ _ _) ?_
    refine T_cutX 1 [] (fun _:Unit=>[]) (fun _=>row 3 1 (some ⟨bc,0,none⟩) (n+1) (n+1) (((if v.fst=1 then cols.getD i [] else noneC l.length)++[-1]).map (Value.int .i64))::lrec Lp (busy r)::blk p14 v.cells 158::blk q13 [.int .i64 (k:Nat)] 3::blk q12 [.int .i64 (i:Nat)] 3::blk p11 [.slice Ao out.length capo] 47::row 27 1 Ao capo out.length hs::dat hs (out.map intsD)::fz pt::blk pa (addL c (.slice A n ca) (.slice Ak cols.length ck) (.slice At m ct) (.slice (some ⟨g,0,none⟩) (cols.length+1) cap)) 153::blk p10 [.pointer (some ⟨pa,0,none⟩)] 151::blk pk [.slice Ak cols.length ck] 47::blk pl [.slice A n ca] 24::blk pc c.cells 23::(dfrs Dl++K2)) (fun _=>True) ?_ ?_
    ·refine T_if rfl (fun h5=>?_) (fun h5=>?_)
     ·simp only [decide_eq_true_eq] at h5
      have hv1:v.fst=1:=by omega
      have hin:i<cols.length:=by omega
      rw [if_pos hv1]
      obtain⟨b,o,rfl⟩:=hcs.base (by omega)
      obtain⟨rr,hrr⟩:∃ r,cols[i]?=some r:=⟨_,List.getElem?_eq_getElem hin⟩
      obtain⟨Au,capu,hu,-,-,hA⟩:=hrows.tabRow hrr
      have hrl:rr.length=n:=by rw [(h.hok rr (List.mem_of_getElem? hrr)).1,hn]
      have hr0:RdC w b (o+(i:Int).toNat * 1) [.slice Au n capu]:=by
       have h9:=(hcs.get1 (i:=i) hin hu).2
       rw [Nat.mul_one,hrl] at h9
       rw [off1]
       exact h9
      have hsr:Src w 1 Au n (rr.map (Value.int .i64)):=⟨by rw [List.length_map,hrl,Nat.mul_one],fun h9=>by
       obtain⟨bu,ou,rfl,hbu⟩:=hA (by omega)
       refine ⟨rfl,fun j u hu=>?_⟩
       rw [List.getElem?_map] at hu
       cases hz:rr[j]? with
       | none=>rw [hz] at hu;cases hu
       | some z=>rw [hz] at hu;cases hu;exact hbu j z hz⟩
      have hgd:cols.getD i []=rr:=by rw [List.getD_eq_getElem?_getD,hrr];rfl
      repeat' (first|refine d1 ?_|refine dd ?_|(show T _ (.ops _ (_::_)::_) _ _ _;refine T_op (OpT.copyR (g:=bc) (k:=n) (us:=rr.map (Value.int .i64)) rfl rfl rfl rfl rfl rfl rfl rfl (by omega) (fun w hw=>src_below hsr hw.below) (oneInts rr) (by rw [List.length_map];omega) ?_))|(show ∀ _:Nat,T _ _ _ _ _;intro _))
      refine T_meetX () trivial (hG:=?_)
      rw [hgd]
      have e9:setL ((noneC l.length++[-1]).map (Value.int .i64)) 0 (rr.map (Value.int .i64))=(rr++[-1]).map (Value.int .i64):=by
       rw [setL_eq _ _ _ (by simp [noneC];omega),List.take_zero,List.nil_append,Nat.zero_add,List.map_append,List.map_append,List.length_map,List.drop_append_of_le_length (by simp [noneC];omega),List.drop_of_length_le (by simp [noneC];omega)]
       simp
      rw [← e9]
      exact Hle.refl _
     ·simp only [decide_eq_false_iff_not] at h5
      rw [if_neg (show ¬ v.fst=1 by omega)]
      exact T_meetX () trivial
    ·rintro⟨⟩ _
     repeat' (first|refine d1 ?_|refine dd ?_|(show ∀ _:Nat,T _ _ _ _ _;intro _))
     refine T_cutX 1 [] (fun _:Unit=>[]) (fun _=>row 3 1 (some ⟨bc,0,none⟩) (n+1) (n+1) ((colM l.length cols i k v).map (Value.int .i64))::lrec Lp (busy r)::blk p14 v.cells 158::blk q13 [.int .i64 (k:Nat)] 3::blk q12 [.int .i64 (i:Nat)] 3::blk p11 [.slice Ao out.length capo] 47::row 27 1 Ao capo out.length hs::dat hs (out.map intsD)::fz pt::blk pa (addL c (.slice A n ca) (.slice Ak cols.length ck) (.slice At m ct) (.slice (some ⟨g,0,none⟩) (cols.length+1) cap)) 153::blk p10 [.pointer (some ⟨pa,0,none⟩)] 151::blk pk [.slice Ak cols.length ck] 47::blk pl [.slice A n ca] 24::blk pc c.cells 23::(dfrs Dl++K2)) (fun _=>True) ?_ ?_
     ·have hcl:(if v.fst=1 then cols.getD i [] else noneC l.length).length=n:=by
       split
       ·have hin:i<cols.length:=by omega
        rw [List.getD_eq_getElem?_getD,List.getElem?_eq_getElem hin]
        exact (h.hok _ (List.getElem_mem hin)).1.trans hn
       ·simp [noneC,hn]
      refine T_if rfl (fun h5=>?_) (fun h5=>?_)
      ·simp only [decide_eq_true_eq] at h5
       repeat' (first|refine d1 ?_|refine dd ?_|(show T _ (.ops _ (_::_)::_) _ _ _;refine T_op (OpT.storeR (us:=[.int .i64 (k:Nat)]) rfl rfl rfl rfl rfl rfl (by show 0+(n:Int).toNat * 1+1≤(n+1) * 1;omega) ?_))|(show ∀ _:Nat,T _ _ _ _ _;intro _))
       refine T_meetX () trivial (hG:=?_)
       have e9:setL (((if v.fst=1 then cols.getD i [] else noneC l.length)++[-1]).map (Value.int .i64)) (0+(n:Int).toNat * 1) [.int .i64 (k:Nat)]=(colM l.length cols i k v).map (Value.int .i64):=by
        unfold colM
        rw [if_pos (show v.snd=1 by omega)]
        exact setLast _ _ _ _ hcl
       rw [← e9]
       exact Hle.refl _
      ·simp only [decide_eq_false_iff_not] at h5
       refine T_meetX () trivial (hG:=?_)
       unfold colM
       rw [if_neg (show ¬ v.snd=1 by omega)]
       exact Hle.refl _
     ·rintro⟨⟩ _
      have hov:out.length≤200000:=by omega
      repeat' (first|refine d1 ?_|refine dd ?_|(show T _ (.ops _ (_::_)::_) _ _ _;refine T_op (OpT.append rfl rfl rfl rfl rfl rfl rfl rfl rfl rfl (fun w hw=>Src.own hw rfl) rfl (by dsimp only;omega) (by omega) (fun A' cap' hA'=>?_)))|(show ∀ _:Nat,T _ _ _ _ _;intro _))
      rename_i blit2
      refine T_le (H':=lrec Lp (busy r)::blk p14 v.cells 158::blk q13 [.int .i64 (k:Nat)] 3::blk q12 [.int .i64 (i:Nat)] 3::blk p11 [.slice A' (out.length+1) cap'] 47::row 27 1 A' cap' (out.length+1) (hs++[(.slice (some ⟨bc,0,none⟩) (n+1) (n+1))])::dat (hs++[(.slice (some ⟨bc,0,none⟩) (n+1) (n+1))]) ((out++[colM l.length cols i k v]).map intsD)::fz pt::blk pa (addL c (.slice A n ca) (.slice Ak cols.length ck) (.slice At m ct) (.slice (some ⟨g,0,none⟩) (cols.length+1) cap)) 153::blk p10 [.pointer (some ⟨pa,0,none⟩)] 151::blk pk [.slice Ak cols.length ck] 47::blk pl [.slice A n ca] 24::blk pc c.cells 23::(dfrs Dl++K2)) ?_ ?_
      ·refine (Hle.srtT (A:=[blk blit2 _ _,row 3 1 (some ⟨bc,0,none⟩) (n+1) (n+1) ((colM l.length cols i k v).map (Value.int .i64)),lrec Lp (busy r),blk p14 v.cells 158,blk q13 [.int .i64 (k:Nat)] 3,blk q12 [.int .i64 (i:Nat)] 3,blk p11 [.slice A' (out.length+1) cap'] 47,row 27 1 A' cap' (out.length+1) (hs++[(.slice (some ⟨bc,0,none⟩) (n+1) (n+1))]),dat hs (out.map intsD)]) (K:=[row 3 1 (some ⟨bc,0,none⟩) (n+1) (n+1) ((colM l.length cols i k v).map (Value.int .i64)),dat hs (out.map intsD),lrec Lp (busy r),blk p14 v.cells 158,blk q13 [.int .i64 (k:Nat)] 3,blk q12 [.int .i64 (i:Nat)] 3,blk p11 [.slice A' (out.length+1) cap'] 47,row 27 1 A' cap' (out.length+1) (hs++[(.slice (some ⟨bc,0,none⟩) (n+1) (n+1))])]) (fz pt::blk pa (addL c (.slice A n ca) (.slice Ak cols.length ck) (.slice At m ct) (.slice (some ⟨g,0,none⟩) (cols.length+1) cap)) 153::blk p10 [.pointer (some ⟨pa,0,none⟩)] 151::blk pk [.slice Ak cols.length ck] 47::blk pl [.slice A n ca] 24::blk pc c.cells 23::(dfrs Dl++K2))).trans ?_
       refine dat_rowV.trans (dat_join.trans ?_)
       have ej:out.map intsD++[D.s 1 (((colM l.length cols i k v).map (Value.int .i64)).map .v)]=(out++[colM l.length cols i k v]).map intsD:=by
        rw [List.map_append,List.map_map];rfl
       rw [ej]
       exact Hle.perm ((List.perm_append_comm (l₁:=[_]) (l₂:=[_,_,_,_,_,_])).append_right (fz pt::blk pa (addL c (.slice A n ca) (.slice Ak cols.length ck) (.slice At m ct) (.slice (some ⟨g,0,none⟩) (cols.length+1) cap)) 153::blk p10 [.pointer (some ⟨pa,0,none⟩)] 151::blk pk [.slice Ak cols.length ck] 47::blk pl [.slice A n ca] 24::blk pc c.cells 23::(dfrs Dl++K2)))
      refine T_keep [(12, .pointer (some ⟨q12,0,none⟩)),(13, .pointer (some ⟨q13,0,none⟩)),(14, .pointer (some ⟨p14,0,none⟩))] ⟨rfl,rfl,rfl,trivial⟩ ?_
      refine T_draw 9 [blk p14 v.cells 158,blk q13 [.int .i64 (k:Nat)] 3] ?_
      refine T_dval 1 rfl (by kernel_rfl) (by kernel_rfl) (by kernel_rfl) (by kernel_rfl) (by kernel_rfl) rfl rfl (by first|exact Val.pure rfl|exact Val.vc rfl (fun hg=>by first|omega|(simp only [inK];omega)|exact True.intro|assumption)|exact Val.load rfl (fun _=>rdOwn1 rfl)|exact Val.loadA rfl (fun _=>rdAll) rfl) rfl rfl rfl (by first|exact Hle.refl _|exact Hle.none _|exact Hle.sub) ?_
      refine T_dval 2 rfl (by kernel_rfl) (by kernel_rfl) (by kernel_rfl) (by kernel_rfl) (by kernel_rfl) rfl rfl (by first|exact Val.pure rfl|exact Val.vc rfl (fun hg=>by first|omega|(simp only [inK];omega)|exact True.intro|assumption)|exact Val.load rfl (fun _=>rdOwn1 rfl)|exact Val.loadA rfl (fun _=>rdAll) rfl) rfl rfl rfl (by first|exact Hle.refl _|exact Hle.none _|exact Hle.sub) ?_
      refine T_dval 4 rfl (by kernel_rfl) (by kernel_rfl) (by kernel_rfl) (by kernel_rfl) (by kernel_rfl) rfl rfl (by first|exact Val.pure rfl|exact Val.vc rfl (fun hg=>by first|omega|(simp only [inK];omega)|exact True.intro|assumption)|exact Val.load rfl (fun _=>rdOwn1 rfl)|exact Val.loadA rfl (fun _=>rdAll) rfl) rfl rfl rfl (by first|exact Hle.refl _|exact Hle.none _|exact Hle.sub) ?_
      refine T_dval 5 rfl (by kernel_rfl) (by kernel_rfl) (by kernel_rfl) (by kernel_rfl) (by kernel_rfl) rfl rfl (by first|exact Val.pure rfl|exact Val.vc rfl (fun hg=>by first|omega|(simp only [inK];omega)|exact True.intro|assumption)|exact Val.load rfl (fun _=>rdOwn1 rfl)|exact Val.loadA rfl (fun _=>rdAll) rfl) rfl rfl rfl (by first|exact Hle.refl _|exact Hle.none _|exact Hle.sub) ?_
      refine T_dval 6 rfl (by kernel_rfl) (by kernel_rfl) (by kernel_rfl) (by kernel_rfl) (by kernel_rfl) rfl rfl (by first|exact Val.pure rfl|exact Val.vc rfl (fun hg=>by first|omega|(simp only [inK];omega)|exact True.intro|assumption)|exact Val.load rfl (fun _=>rdOwn1 rfl)|exact Val.loadA rfl (fun _=>rdAll) rfl) rfl rfl rfl (by first|exact Hle.refl _|exact Hle.none _|exact Hle.sub) ?_
      refine T_dval 7 rfl (by kernel_rfl) (by kernel_rfl) (by kernel_rfl) (by kernel_rfl) (by kernel_rfl) rfl rfl (by first|exact Val.pure rfl|exact Val.vc rfl (fun hg=>by first|omega|(simp only [inK];omega)|exact True.intro|assumption)|exact Val.load rfl (fun _=>rdOwn1 rfl)|exact Val.loadA rfl (fun _=>rdAll) rfl) rfl rfl rfl (by first|exact Hle.refl _|exact Hle.none _|exact Hle.sub) ?_
      refine T_dop 0 (by kernel_rfl) rfl (OpT.ofVal rfl (Val.load rfl (fun _=>rdOwn1 rfl)) rfl rfl rfl ⟨fun _=>Hle.sub,?_⟩)
      refine T_dval 3 rfl (by kernel_rfl) (by kernel_rfl) (by kernel_rfl) (by kernel_rfl) (by kernel_rfl) rfl rfl (by first|exact Val.pure rfl|exact Val.vc rfl (fun hg=>by first|omega|(simp only [inK];omega)|exact True.intro|assumption)|exact Val.load rfl (fun _=>rdOwn1 rfl)|exact Val.loadA rfl (fun _=>rdAll) rfl) rfl rfl rfl (by first|exact Hle.refl _|exact Hle.none _|exact Hle.sub) ?_
      refine T_dop 8 (by kernel_rfl) rfl (OpT.store rfl rfl rfl rfl (by exact Nat.zero_lt_one) ⟨fun _=>Hle.sub,?_⟩)
      refine T_dop 9 (by kernel_rfl) rfl (OpT.store rfl rfl rfl rfl (by exact Nat.zero_lt_one) ⟨fun h=>absurd h (by decide +kernel),?_⟩)
      refine T_dend (by kernel_rfl) ?_
      show T _ (.code (.exit 2)::_) _ _ _
      refine T_rexit (id:=2) (blk q13 [.int .i64 ((k+v.snd:Nat):Int)] 3::blk q12 [.int .i64 ((i+v.fst:Nat):Int)] 3::blk p11 [.slice A' (out.length+1) cap'] 47::row 27 1 A' cap' (out.length+1) (hs++[(.slice (some ⟨bc,0,none⟩) (n+1) (n+1))])::dat (hs++[(.slice (some ⟨bc,0,none⟩) (n+1) (n+1))]) ((out++[colM l.length cols i k v]).map intsD)::fz pt::blk pa (addL c (.slice A n ca) (.slice Ak cols.length ck) (.slice At m ct) (.slice (some ⟨g,0,none⟩) (cols.length+1) cap)) 153::blk p10 [.pointer (some ⟨pa,0,none⟩)] 151::blk pk [.slice Ak cols.length ck] 47::blk pl [.slice A n ca] 24::blk pc c.cells 23::dfrs Dl) (fun _=>rfl) (by exact⟨rfl,v,(A',cap',(.slice (some ⟨bc,0,none⟩) (n+1) (n+1))),hf,rfl⟩) (Hle.drop2 _ _ _)
  ·rintro D Hn ⟨rfl,hno⟩
   exfalso
   rw [stepsV_len] at hno
   obtain⟨fm,hfm⟩:=fstM_ex (G:=grdA c l cols t) (i:=i) (k:=k) (by rw [e1,e2];exact h3')
   obtain⟨hfm1,hfm2⟩:=fstM_mem hfm
   obtain⟨j',hj',e9⟩:=List.getElem_of_mem hfm1
   exact hno j' fm hj' (by rw [List.getElem?_eq_getElem hj',e9]) hfm2
  ·rintro D id Hx ⟨rfl,v,⟨A',cap',hv⟩,hf,rfl⟩
   dsimp only
   obtain⟨hfm1,hfm2⟩:=fstM_mem hf
   obtain⟨jj,hjj,e9⟩:=List.getElem_of_mem hfm1
   have hb1:=h.to hi hk (show (mvs (grdA c l cols t) i k)[jj]?=some v by rw [List.getElem?_eq_getElem hjj,e9])
   have hst:=addV_step hf
   show T (FC _ _ ((D::Dl).map mkD) _ _ _) _ _ _ (dfr D::blk q3 [.int .i64 (k:Nat)] 3::blk q1 [.int .i64 (i:Nat)] 3::blk q2 (addL c (.slice A n ca) (.slice Ak cols.length ck) (.slice At m ct) (.slice (some ⟨g,0,none⟩) (cols.length+1) cap)) 153::blk q13 [.int .i64 ((k+v.snd:Nat):Int)] 3::blk q12 [.int .i64 ((i+v.fst:Nat):Int)] 3::blk p11 [.slice A' (out.length+1) cap'] 47::row 27 1 A' cap' (out.length+1) (hs++[hv])::dat (hs++[hv]) ((out++[colM l.length cols i k v]).map intsD)::fz pt::blk pa (addL c (.slice A n ca) (.slice Ak cols.length ck) (.slice At m ct) (.slice (some ⟨g,0,none⟩) (cols.length+1) cap)) 153::blk p10 [.pointer (some ⟨pa,0,none⟩)] 151::blk pk [.slice Ak cols.length ck] 47::blk pl [.slice A n ca] 24::blk pc c.cells 23::dfrs Dl)
   repeat' (first|refine d1 ?_|refine dd ?_|(show ∀ _:Nat,T _ _ _ _ _;intro _))
   rename_i n12 n13
   show T _ (.mark _::_) _ _ _
   refine T_backD ((i+v.fst,k+v.snd),(n12,n13),(A',cap'),hs++[hv],out++[colM l.length cols i k v],D::Dl) ⟨hb1.1,hb1.2.1,by dsimp only;rw [List.length_append];simp;omega,by dsimp only;rw [hout,hst,List.append_assoc];rfl⟩ (by dsimp only;omega) rfl (hG:=?_)
   dsimp only
   rw [List.length_append]
   exact Hle.srtT (A:=[blk n13 [.int .i64 ((k+v.snd:Nat):Int)] 3,blk n12 [.int .i64 ((i+v.fst:Nat):Int)] 3,dfr D,blk q3 [.int .i64 (k:Nat)] 3,blk q1 [.int .i64 (i:Nat)] 3,blk q2 (addL c (.slice A n ca) (.slice Ak cols.length ck) (.slice At m ct) (.slice (some ⟨g,0,none⟩) (cols.length+1) cap)) 153,blk q13 [.int .i64 ((k+v.snd:Nat):Int)] 3,blk q12 [.int .i64 ((i+v.fst:Nat):Int)] 3,blk p11 [.slice A' (out.length+1) cap'] 47,row 27 1 A' cap' (out.length+1) (hs++[hv]),dat (hs++[hv]) ((out++[colM l.length cols i k v]).map intsD),fz pt,blk pa (addL c (.slice A n ca) (.slice Ak cols.length ck) (.slice At m ct) (.slice (some ⟨g,0,none⟩) (cols.length+1) cap)) 153,blk p10 [.pointer (some ⟨pa,0,none⟩)] 151,blk pk [.slice Ak cols.length ck] 47,blk pl [.slice A n ca] 24,blk pc c.cells 23]) (K:=[blk n13 [.int .i64 ((k+v.snd:Nat):Int)] 3,blk n12 [.int .i64 ((i+v.fst:Nat):Int)] 3,blk p11 [.slice A' (out.length+1) cap'] 47,row 27 1 A' cap' (out.length+1) (hs++[hv]),dat (hs++[hv]) ((out++[colM l.length cols i k v]).map intsD),fz pt,blk pa (addL c (.slice A n ca) (.slice Ak cols.length ck) (.slice At m ct) (.slice (some ⟨g,0,none⟩) (cols.length+1) cap)) 153,blk p10 [.pointer (some ⟨pa,0,none⟩)] 151,blk pk [.slice Ak cols.length ck] 47,blk pl [.slice A n ca] 24,blk pc c.cells 23,dfr D]) (dfrs Dl)
 ·have h3':¬ (i<cols.length∨k<m):=by simpa using h3
  rw [addV_end (i:=i) (k:=k) (by rw [h.htl];exact h3'),List.append_nil] at hout
  rw [hout]
  repeat' (first|refine d1 ?_|refine dd ?_|(show ∀ _:Nat,T _ _ _ _ _;intro _))
  refine T_retDs [dat [.slice Ao out.length capo] [rowsD out]] ?_ (rf_V (vs:=[.slice Ao out.length capo, .int .i64 0]) _ rfl (Hle.refl _) ⟨_,trivial,rfl,rfl⟩)
  refine (Hle.tail _ _).trans ((Hle.tail _ _).trans ((Hle.tail _ _).trans (dat_row.trans ?_)))
  exact Hle.srtT (A:=[dat [.slice Ao out.length capo] [.s 1 (out.map intsD)],_,_,_,_,_,_]) (K:=[dat [.slice Ao out.length capo] [.s 1 (out.map intsD)]]) (dfrs Dl)
end Go.Proofs.YthadgaboakipoaaGreatDoor
namespace Go.Proofs.YthadgaboakipoaaGreatDoor
open Go.RowKit Go.Shelf Go.Proofs
set_option maxRecDepth 100000
set_option maxHeartbeats 1000000

def lens (l:List TS):List Nat:=l.map fun t=>t.n
theorem lens_len (l:List TS):(lens l).length=l.length:=by simp [lens]
def atC (cols:List (List Int)) (i k s:Nat):Nat:=(srcC (cols.take (if s<k then i+1 else i)) s).length
def PreOk (ls:List Nat) (cols:List (List Int)) (i k:Nat):Prop:=∀ s n,ls[s]?=some n→srcC (cols.take (if s<k then i+1 else i)) s=upto (atC cols i k s)∧atC cols i k s≤n
theorem PreOk.start (ls:List Nat) (cols:List (List Int)):PreOk ls cols 0 0:=fun s n _=>by
 unfold atC
 rw [if_neg (by omega)]
 exact⟨rfl,Nat.zero_le _⟩
theorem atC_row {cols:List (List Int)} {i n s:Nat} (h:s<n):atC cols i n s=atC cols (i+1) 0 s:=by unfold atC;rw [if_pos h,if_neg (by omega)]
theorem PreOk.row {ls:List Nat} {cols:List (List Int)} {i:Nat} (h:PreOk ls cols i ls.length):PreOk ls cols (i+1) 0:=fun s n hs=>by
 have hl:=(List.getElem?_eq_some_iff.1 hs).1
 have:=h s n hs
 rw [atC_row hl,if_pos hl] at this
 rw [if_neg (by omega)]
 exact this
theorem srcC_take {cols:List (List Int)} {i:Nat} {r:List Int} (h:cols[i]?=some r) (s:Nat):srcC (cols.take (i+1)) s=srcC (cols.take i) s++(if r.getD s (-1) = -1 then [] else [r.getD s (-1)]):=by
 rw [take_snoc _ _ _ h,srcC_app,srcC_cons]
 simp [srcC]
theorem atC_other {cols:List (List Int)} {i k s:Nat} (h:s≠k):atC cols i (k+1) s=atC cols i k s:=by
 unfold atC
 by_cases h1:s<k
 ·rw [if_pos h1,if_pos (by omega)]
 ·rw [if_neg h1,if_neg (by omega)]
theorem atC_gap {cols:List (List Int)} {i k:Nat} {r:List Int} (hr:cols[i]?=some r) (hz:r[k]?=some (-1)):atC cols i (k+1) k=atC cols i k k:=by
 unfold atC
 rw [if_pos (by omega),if_neg (by omega),srcC_take hr,List.getD_eq_getElem?_getD,hz]
 simp
theorem PreOk.gap {ls:List Nat} {cols:List (List Int)} {i k:Nat} {r:List Int} (h:PreOk ls cols i k) (hr:cols[i]?=some r) (hz:r[k]?=some (-1)):PreOk ls cols i (k+1):=fun s n hs=>by
 have:=h s n hs
 by_cases e:s=k
 ·subst e
  rw [atC_gap hr hz]
  rw [if_neg (by omega)] at this
  rw [if_pos (by omega),srcC_take hr,List.getD_eq_getElem?_getD,hz]
  simpa using this
 ·rw [atC_other e]
  by_cases h1:s<k
  ·rw [if_pos h1] at this;rw [if_pos (by omega)];exact this
  ·rw [if_neg h1] at this;rw [if_neg (by omega)];exact this
theorem PreOk.bad {ls:List Nat} {cols:List (List Int)} {i k n:Nat} {r:List Int} {z:Int} (h:PreOk ls cols i k) (hr:cols[i]?=some r) (hz:r[k]?=some z) (hz0:z ≠ -1) (hk:ls[k]?=some n) (hc:ColsOk ls cols):z=(atC cols i k k:Nat)∧atC cols i k k<n:=by
 have h1:=(h k n hk).1
 rw [if_neg (by omega)] at h1
 have h2:=hc.src k n hk
 have h3:srcC cols k=srcC (cols.take i) k++([z]++srcC (cols.drop (i+1)) k):=by
  have e:cols=cols.take (i+1)++cols.drop (i+1):=(List.take_append_drop _ _).symm
  rw [← List.append_assoc]
  conv=>lhs;rw [e,srcC_app,srcC_take hr,List.getD_eq_getElem?_getD,hz]
  simp [hz0]
 rw [h2,h1] at h3
 have h4:(upto n)[atC cols i k k]?=some z:=by
  rw [h3,List.getElem?_append_right (by rw [upto_len];exact Nat.le_refl _),upto_len,Nat.sub_self]
  rfl
 have h5:atC cols i k k<n:=by
  have:=(List.getElem?_eq_some_iff.1 h4).1
  rwa [upto_len] at this
 rw [upto_get h5] at h4
 exact⟨(Option.some.inj h4).symm,h5⟩
theorem PreOk.all {ls:List Nat} {cols:List (List Int)} (h:PreOk ls cols cols.length 0) (hlen:∀ x∈cols,x.length=ls.length) (hsome:∀ x∈cols,∃ z∈x,z ≠ -1) (hn:∀ s n,ls[s]?=some n→atC cols cols.length 0 s=n):ColsOk ls cols:=by
 refine ⟨hlen,hsome,fun s n hs=>?_⟩
 have:=(h s n hs).1
 rw [if_neg (by omega),List.take_of_length_le (Nat.le_refl _),hn s n hs] at this
 exact this
end Go.Proofs.YthadgaboakipoaaGreatDoor
namespace Go.Proofs.YthadgaboakipoaaGreatDoor
open Go.RowKit Go.Shelf Go.Proofs
set_option maxRecDepth 100000
set_option maxHeartbeats 4000000

end Go.Proofs.YthadgaboakipoaaGreatDoor
namespace Go.Proofs.YthadgaboakipoaaGreatDoor
open Go.RowKit Go.Shelf Go.Proofs

def takS (l:List TS) (ord:List Nat) (j:Nat):List TS:=(ord.take j).map (tsA l)
def stgV (c:Costs) (l:List TS) (ord:List Nat):Nat→List (List Int)
 | 0=>[]
 | j+1=>addV c (takS l ord j) (stgV c l ord j) (tsA l (ord.getD j 0)).l 0 0
theorem ord_get {ord:List Nat} {j:Nat} (h:j<ord.length):ord[j]?=some (ord.getD j 0):=by
 rw [List.getD_eq_getElem?_getD,List.getElem?_eq_getElem h];rfl
theorem takS_succ {l:List TS} {ord:List Nat} {j:Nat} (h:j<ord.length):takS l ord (j+1)=takS l ord j++[tsA l (ord.getD j 0)]:=by
 unfold takS;rw [take_snoc _ _ _ (ord_get h),List.map_append];rfl
theorem takS_len {l:List TS} {ord:List Nat} {j:Nat} (h:j≤ord.length):(takS l ord j).length=j:=by
 unfold takS;rw [List.length_map,List.length_take];omega
theorem tsA_mem {l:List TS} {i:Nat} (h:i<l.length):tsA l i∈l:=by
 have e:l[i]?=some l[i]:=List.getElem?_eq_getElem h
 rw [tsA_eq e];exact List.getElem_mem h
theorem takS_mem {l:List TS} {ord:List Nat} (hlt:∀ k∈ord,k<l.length) {j:Nat}:∀ t∈takS l ord j,t∈l:=fun t ht=>by
 unfold takS at ht
 obtain⟨k,hk,rfl⟩:=List.mem_map.1 ht
 exact tsA_mem (hlt k (List.mem_of_mem_take hk))
theorem ord_lt {l:List TS} {ord:List Nat} (hlt:∀ k∈ord,k<l.length) {j:Nat} (h:j<ord.length):ord.getD j 0<l.length:=hlt _ (List.mem_of_getElem? (ord_get h))
theorem lens_app (a b:List TS):lens (a++b)=lens a++lens b:=by unfold lens;rw [List.map_append]
theorem stgV_ok {c:Costs} {l:List TS} {ord:List Nat} (hlt:∀ k∈ord,k<l.length) (hln:∀ t∈l,t.l.length=t.n):∀ j,j≤ord.length→ColsOk (lens (takS l ord j)) (stgV c l ord j)
 | 0,_=>ColsOk.nil
 | j+1,h=>by
  have ih:=stgV_ok (c:=c) hlt hln j (by omega)
  rw [takS_succ (by omega),lens_app]
  have e:=hln _ (tsA_mem (ord_lt hlt (show j<ord.length by omega)))
  have:=addV_ok (c:=c) (l:=takS l ord j) (t:=(tsA l (ord.getD j 0)).l) (by rw [lens_len]) ih
  rw [e] at this
  exact this
theorem stgV_len {c:Costs} {l:List TS} {ord:List Nat} (hlt:∀ k∈ord,k<l.length) {M:Nat} (hln:∀ t∈l,t.l.length≤M):∀ j,j≤ord.length→(stgV c l ord j).length≤j * M
 | 0,_=>Nat.zero_le _
 | j+1,h=>by
  have ih:=stgV_len (c:=c) hlt hln j (by omega)
  have h1:=addV_len c (takS l ord j) (stgV c l ord j) (tsA l (ord.getD j 0)).l
  have h2:=hln _ (tsA_mem (ord_lt hlt (show j<ord.length by omega)))
  rw [Nat.succ_mul]
  show (addV c (takS l ord j) (stgV c l ord j) (tsA l (ord.getD j 0)).l 0 0).length≤_
  omega
theorem badS_tak {l:List TS} {ord:List Nat} (hlt:∀ k∈ord,k<l.length) (h:badS l=false) (j:Nat):badS (takS l ord j)=false:=by
 unfold badS at h ⊢
 rw [List.any_eq_false] at h ⊢
 exact fun t ht=>h t (takS_mem hlt t ht)
theorem Grp.tak {w:World} {A A':Option Addr} {n:Nat} {l:List TS} {ord:List Nat} (hg:Grp w A n l) (hlt:∀ k∈ord,k<l.length) {j:Nat} (hj:j≤ord.length) (hjb:j≤32) (hs:Src w 1 A' j ((takS l ord j).map TS.val)):Grp w A' j (takS l ord j) :=
 ⟨hg.hst,hs,takS_len hj,hjb,⟨fun t ht=>hg.ok.src t (takS_mem hlt t ht),fun t ht=>hg.ok.len t (takS_mem hlt t ht),fun t ht=>hg.ok.bd t (takS_mem hlt t ht)⟩,fun t ht=>hg.nb t (takS_mem hlt t ht),fun t ht=>hg.sm t (takS_mem hlt t ht)⟩
def alnP (c:Costs) (l:List TS):List (List Int):=(stgV c l (orderV (dstT c l) l.length) l.length).map (arrR (orderV (dstT c l) l.length))
def alnA (c:Costs) (l:List TS):List (List Int) × Int:=if ck21 c l=0 then (alnP c l,0) else ([],1)
end Go.Proofs.YthadgaboakipoaaGreatDoor
namespace Go.Proofs.YthadgaboakipoaaGreatDoor
open Go.RowKit Go.Shelf Go.Proofs

def SameL (l l':List TS):Prop:=l.map TS.l=l'.map TS.l
theorem SameL.len {l l':List TS} (h:SameL l l'):l.length=l'.length:=by
 have:=congrArg List.length h
 rwa [List.length_map,List.length_map] at this
theorem SameL.get {l l':List TS} (h:SameL l l') (i:Nat):(tsA l i).l=(tsA l' i).l:=by
 have e:=congrArg (fun x:List (List Tok)=>x[i]?) h
 simp only [List.getElem?_map] at e
 unfold tsA
 rw [List.getD_eq_getElem?_getD,List.getD_eq_getElem?_getD]
 cases h1:l[i]? with
 | none =>
  cases h2:l'[i]? with
  | none=>rfl
  | some y=>rw [h1,h2] at e;cases e
 | some x =>
  cases h2:l'[i]? with
  | none=>rw [h1,h2] at e;cases e
  | some y=>rw [h1,h2] at e;exact Option.some.inj e
theorem SameL.dst {l l':List TS} (h:SameL l l') (c:Costs):dstT c l=dstT c l':=by
 funext i k
 unfold dstT
 rw [h.get,h.get]
theorem SameL.put {l l':List TS} (h:SameL l l') (c:Costs) (col:List Int) (t:List Tok) (k:Int):putC c l col t k=putC c l' col t k:=by
 have e:∀ m:List TS,putC c m col t k=(((m.map TS.l).zip col).map fun p=>entC c p.1 p.2 t k).sum:=fun m=>by
  unfold putC
  rw [List.zip_map_left,List.map_map]
  rfl
 rw [e l,e l',h]
theorem SameL.add {l l':List TS} (h:SameL l l') (c:Costs) (cols:List (List Int)) (t:List Tok):addV c l cols t=addV c l' cols t:=by
 funext i k
 have e:grdA c l cols t=grdA c l' cols t:=by
  unfold grdA
  simp only [h.put,h.len]
 unfold addV
 rw [e,h.len]
theorem SameL.tak {l l':List TS} (h:SameL l l') (ord:List Nat) (j:Nat):SameL (takS l ord j) (takS l' ord j):=by
 unfold SameL takS
 rw [List.map_map,List.map_map]
 exact List.map_congr_left fun i _=>h.get i
theorem SameL.stg {l l':List TS} (h:SameL l l') (c:Costs) (ord:List Nat):∀ j,stgV c l ord j=stgV c l' ord j
 | 0=>rfl
 | j+1=>by
  unfold stgV
  rw [(h.tak ord j).add,SameL.stg h c ord j,h.get]
theorem SameL.bad {l l':List TS} (h:SameL l l'):badS l=badS l':=by
 have e:∀ m:List TS,badS m=(m.map TS.l).any badL:=fun m=>by unfold badS;rw [List.any_map];rfl
 rw [e,e,h]
theorem SameL.ck {l l':List TS} (h:SameL l l') (c:Costs):ck21 c l=ck21 c l':=by unfold ck21;rw [h.bad]
theorem SameL.ord {l l':List TS} (h:SameL l l') (c:Costs):ordV c l=ordV c l':=by unfold ordV;rw [h.ck,h.dst,h.len]
theorem SameL.aln {l l':List TS} (h:SameL l l') (c:Costs):alnA c l=alnA c l':=by unfold alnA alnP;rw [h.ck,h.dst,h.len,h.stg]
def dstK (c:Costs) (l:List TS) (i k:Nat):Int :=
 if i<k then rstF (grdOf c (tsA l i).l (tsA l k).l) ((tsA l i).l.length+(tsA l k).l.length) 0 0 else if k<i then rstF (grdOf c (tsA l k).l (tsA l i).l) ((tsA l k).l.length+(tsA l i).l.length) 0 0 else 0
theorem dstK_eq (c:Costs) (l:List TS):dstT c l=dstK c l:=by
 funext i k
 unfold dstT dstK
 rw [rstF_eq _ 0 0 (by show ((tsA l i).l.length - 0)+((tsA l k).l.length - 0)≤_;omega),rstF_eq _ 0 0 (by show ((tsA l k).l.length - 0)+((tsA l i).l.length - 0)≤_;omega)]
def addK (c:Costs) (l:List TS) (cols:List (List Int)) (t:List Tok):List (List Int) :=
 (alnK (grdA c l cols t) (cols.length+t.length) (cols.length+t.length) 0 0).map (colA l.length cols)
theorem addK_eq (c:Costs) (l:List TS) (cols:List (List Int)) (t:List Tok):addV c l cols t 0 0=addK c l cols t:=by
 unfold addV addK
 rw [aln_eval]
 rfl
def stgK (c:Costs) (l:List TS) (ord:List Nat):Nat→List (List Int)
 | 0=>[]
 | j+1=>addK c (takS l ord j) (stgK c l ord j) (tsA l (ord.getD j 0)).l
theorem stgK_eq (c:Costs) (l:List TS) (ord:List Nat):∀ j,stgV c l ord j=stgK c l ord j
 | 0=>rfl
 | j+1=>by
  unfold stgV stgK
  rw [addK_eq,stgK_eq c l ord j]
end Go.Proofs.YthadgaboakipoaaGreatDoor
namespace Go.Proofs.YthadgaboakipoaaGreatDoor
open Go.RowKit Go.Shelf Go.Proofs
set_option maxRecDepth 100000

def awC21:Costs:=⟨40,5,50,50⟩
def sA:ByteArray:=⟨#[97]⟩
def sB:ByteArray:=⟨#[98]⟩
def sC:ByteArray:=⟨#[99]⟩
def aw21a:List Tok:=[tokS sA,tokS sB,tokS sC]
def aw21b:List Tok:=[tokS sA,tokS sC]
def aw21c:List Tok:=[tokS sA,tokS sB]
def aw21:List TS:=[⟨none,3,3,aw21a⟩,⟨none,2,2,aw21b⟩,⟨none,2,2,aw21c⟩]
theorem aw21K:ck21 awC21 aw21=0:=by decide +kernel
theorem aw21O:orderV (dstK awC21 aw21) 3=[0,1,2]:=by decide +kernel
theorem aw21S:(stgK awC21 aw21 [0,1,2] 3).map (arrR [0,1,2])=[[0,0,0],[1,-1,1],[2,1,-1]]:=by decide +kernel
theorem aw21V:ordV awC21 aw21=([0,1,2],0):=by
 unfold ordV
 rw [if_pos aw21K,dstK_eq]
 show (orderV (dstK awC21 aw21) 3,(0:Int))=_
 rw [aw21O]
theorem aw21W:alnA awC21 aw21=([[0,0,0],[1,-1,1],[2,1,-1]],0):=by
 unfold alnA alnP
 rw [if_pos aw21K,dstK_eq]
 show ((stgV awC21 aw21 (orderV (dstK awC21 aw21) 3) 3).map (arrR (orderV (dstK awC21 aw21) 3)),(0:Int))=_
 rw [aw21O,stgK_eq,aw21S]
theorem aw21s:(∀ x∈aw21a,x.small)∧(∀ x∈aw21b,x.small)∧(∀ x∈aw21c,x.small):=by decide +kernel
end Go.Proofs.YthadgaboakipoaaGreatDoor
namespace Go.Proofs.YthadgaboakipoaaGreatDoor
open Go.RowKit Go.Shelf Go.Proofs
set_option maxRecDepth 100000
set_option maxHeartbeats 1000000

theorem nilC (H:List HA):Hle H (dat [.slice none 0 0] [rowsD []]::H):=hle_unit (B:=dat [.slice none 0 0] [rowsD []]) (.s none 0 0 1 [] rfl (Nat.le_refl _) (by omega) (fun h=>absurd h (by omega)) .nil .nil)
theorem Rd.intsAt {w:World} {A:Option Addr} {n cap:Nat} {p:List Int} (h:Rd (wr w) [.slice A n cap] [intsD p]):Src w 1 A n (p.map (Value.int .i64)):=by
 obtain⟨A',cap',e,-,hs⟩:=h.ints
 cases e
 exact hs
theorem stg_prod {c:Costs} {l:List TS} {ord:List Nat} (hlt:∀ k∈ord,k<l.length) (hln:∀ t∈l,t.l.length≤100) {j m:Nat} (hj:j≤ord.length) (hj2:j≤32) (hm:m≤100):(stgV c l ord j).length≤3200∧(((stgV c l ord j).length:Int)+1) * ((m:Int)+1)≤1048576:=by
 have h1:=stgV_len (c:=c) hlt hln j hj
 have h2:(stgV c l ord j).length≤3200:=by omega
 have h3:=Nat.mul_le_mul (show (stgV c l ord j).length+1≤3201 by omega) (show m+1≤101 by omega)
 have h4:(((stgV c l ord j).length:Int)+1) * ((m:Int)+1)=((((stgV c l ord j).length+1) * (m+1):Nat):Int):=by push_cast;rfl
 exact⟨h2,by rw [h4];omega⟩
theorem Grp.addW {w w':World} {A:Option Addr} {l:List TS} (hg:Grp w A l.length l) (hw:Below w.heap.size w w') (hst:Std w') {c:Costs} (hc:costE c=0) (hbs:badS l=false) (hq:∀ t∈l,t.n≤100) {ord:List Nat} (hlt:∀ k∈ord,k<l.length) {j:Nat} (hj:j<ord.length) (hj2:j≤32) {At:Option Addr} {K:Value}
  (hs:Src w' 1 At j ((takS l ord j).map TS.val)) (hx:Rd (wr w') [K] [rowsD (stgV c l ord j)]) {t:TS} (ht:t∈l):AddW w' c At j (takS l ord j) K (stgV c l ord j) t.A t.n t.l:=by
 have hln:∀ t∈l,t.l.length=t.n:=hg.ok.len
 have hg':Grp w' A l.length l:=⟨hst,src_below hg.hs hw,hg.hn,hg.hb,⟨fun t ht=>src_below (hg.ok.src t ht) hw,hg.ok.len,hg.ok.bd⟩,hg.nb,hg.sm⟩
 refine ⟨hg'.tak hlt (by omega) hj2 hs,hc,badS_tak hlt hbs j,hx,fun col hcol=>ColsOk.colOk (l:=takS l ord j) (stgV_ok hlt hln j (by omega)) hcol,hg'.ok.src t ht,hln t ht,hg.nb t ht,badS_ok hbs t ht,hg.sm t ht,?_⟩
 have:=(stg_prod (c:=c) hlt (fun t ht=>by rw [hln t ht];exact hq t ht) (j:=j) (m:=0) (by omega) hj2 (by omega)).1
 omega
theorem alignPrg21_spec (c:Costs) (A:Option Addr) (n ca:Nat) (l:List TS) (w:World) (hg:Grp w A n l) (hq:∀ t∈l,t.n≤100) :
  Spec Tryz.prog 41 [c.val, .slice A n ca] w (fun v R=>∃ x:Value,True∧v = .tuple #[x, .int .i64 (alnA c l).2]∧R=[dat [x] [rowsD (alnA c l).1]]):=by
 have hn:=hg.hn
 subst hn
 have hb:=hg.hb
 refine spec_of sg Tryz.func41 rfl rfl rfl ?_
 refine T_op (OpT.box (cs:=c.cells) rfl rfl rfl rfl rfl rfl rfl (fun pc=>?_))
 repeat' (first|refine d1 ?_|refine dd ?_|(show T _ (.ops _ (_::_)::_) _ _ _;first|refine T_call rfl rfl rfl rfl rfl (fun w hw=>check21_spec c A l.length ca l w (hg.cls hw)) ?_|refine T_callC rfl rfl rfl rfl rfl rfl rfl (fun hg w hw=>check21_spec c A l.length ca l w (hg.cls hw)) ?_)|(show T _ (.run _ _ (_::_) _ _::_) _ _ _;first|refine rc rfl rfl rfl rfl rfl rfl rfl (fun w hw=>check21_spec c A l.length ca l w (hg.cls hw)) ?_|refine rcG rfl rfl rfl rfl rfl rfl rfl rfl rfl (fun hg w hw=>check21_spec c A l.length ca l w (hg.cls hw)) ?_)|(show ∀ _:Nat,T _ _ _ _ _;intro _))
 refine T_if rfl (fun h=>?_) (fun h=>?_)
 ·simp only [Bool.not_eq_true',decide_eq_false_iff_not] at h
  have e:alnA c l=([],1):=if_neg h
  rw [e,(ck21_01 c l).resolve_left h]
  repeat' (first|refine d1 ?_|refine dd ?_|(show ∀ _:Nat,T _ _ _ _ _;intro _)|(show T _ (.code .ret::_) _ _ _;refine T_retV _ rfl ((nilC _).trans (Hle.nth 0 rfl)) ⟨_,trivial,rfl,rfl⟩))
 simp only [Bool.not_eq_false',decide_eq_true_eq] at h
 have e:alnA c l=(alnP c l,0):=if_pos h
 rw [e]
 obtain⟨hc,hbs⟩:=ck21_ok h
 have hbd:=dstT_bd hc hg.len
 obtain⟨hd,hlt⟩:=orderV_ok (fun i k=>(hbd i k).1) l.length
 have hol:=orderV_len (dstT c l) l.length
 have e2:alnP c l=(stgV c l (orderV (dstT c l) l.length) l.length).map (arrR (orderV (dstT c l) l.length)):=rfl
 rw [e2]
 repeat' (first|refine d1 ?_|refine dd ?_|(show T _ (.ops _ (_::_)::_) _ _ _;refine T_op (OpT.call rfl rfl rfl rfl rfl (fun w hw=>order21_spec c A l.length ca l w (hg.cls hw) hc hbs) ?_))|(show ∀ _:Nat,T _ _ _ _ _;intro _))
 rintro v R ⟨x,-,rfl,rfl⟩
 generalize orderV (dstT c l) l.length=ord at hd hlt hol ⊢
 refine T_le (H':=[dat [x] [intsD (intN ord)],blk pc c.cells 23]) (Hle.refl _) ?_
 refine T_open fun p hp=>?_
 have hp2:=hp
 have hil:(intN ord).length=l.length:=by unfold intN;rw [List.length_map,hol]
 obtain⟨Ao,co,rfl,hc1,hc2,hAo⟩:=hp.row1
 rw [hil] at hAo hc1 hp2 ⊢
 have hln:∀ t∈l,t.l.length≤100:=fun t ht=>by rw [hg.ok.len t ht];exact hq t ht
 repeat' (first|refine d1 ?_|refine dd ?_|(show ∀ _:Nat,T _ _ _ _ _;intro _))
 refine T_if rfl (fun h1=>by exfalso;simp at h1) (fun _=>?_)
 repeat' (first|refine d1 ?_|refine dd ?_|(show ∀ _:Nat,T _ _ _ _ _;intro _))
 refine T_le (nilC _) ?_
 refine T_nilrow 37 1 ?_
 refine T_loopX (fun s:Nat × (Option Addr × Nat) × Value=>[(30, .int .i64 s.1),(10, .slice s.2.1.1 s.1 s.2.1.2),(9,s.2.2)]) (fun s=>[row 37 1 s.2.1.1 s.2.1.2 s.1 ((takS l ord s.1).map TS.val),dat [s.2.2] [rowsD (stgV c l ord s.1)],fz p,blk pc c.cells 23]) (fun s=>s.1≤l.length) (fun s=>l.length - s.1) (0,(none,0), .slice none 0 0) (Nat.zero_le _) ?_
 rintro⟨j,⟨At,capt⟩,K⟩ hj
 dsimp only at hj ⊢
 repeat' (first|refine d1 ?_|refine dd ?_|(show ∀ _:Nat,T _ _ _ _ _;intro _))
 refine T_if rfl (fun h3=>?_) (fun h3=>?_)
 ·simp only [decide_eq_true_eq] at h3
  have hjn:j<l.length:=by omega
  obtain⟨bo,oo,rfl,hbo⟩:=hAo (by omega)
  obtain⟨b,o,rfl⟩:=hg.hs.base (by omega)
  have hoj:=ord_get (show j<ord.length by omega)
  have hlj:ord.getD j 0<l.length:=ord_lt hlt (by omega)
  obtain⟨t,ht,htm,hrt⟩:=hg.get hlj
  have hts:tsA l (ord.getD j 0)=t:=tsA_eq ht
  have hst:stgV c l ord (j+1)=addV c (takS l ord j) (stgV c l ord j) t.l 0 0:=by
   show addV c (takS l ord j) (stgV c l ord j) (tsA l (ord.getD j 0)).l 0 0=_
   rw [hts]
  have hpr:=(stg_prod (c:=c) hlt hln (j:=j) (m:=t.n) (by omega) (by omega) (hq t htm)).2
  refine T_le (H':=[dat [K] [rowsD (stgV c l ord j)],row 37 1 At capt j ((takS l ord j).map TS.val),fz p,blk pc c.cells 23]) Hle.srt ?_
  refine T_open fun q hq9=>?_
  refine T_le (H':=[row 37 1 At capt j ((takS l ord j).map TS.val),fz q,fz p,blk pc c.cells 23]) Hle.srt ?_
  repeat' (first|refine d1 ?_|refine dd ?_|(show T _ (.ops _ (_::_)::_) _ _ _;first|refine T_val rfl (Val.load rfl (fun hg=>rdFz (p:=p) (u := .int .i64 (ord.getD j 0:Nat)) (b:=bo) (by rw [off1];exact hbo j _ (by unfold intN;rw [List.getElem?_map,hoj];rfl)))) rfl rfl rfl ?_|refine T_valC rfl (Val.load rfl (fun hg=>rdFz (p:=p) (u := .int .i64 (ord.getD j 0:Nat)) (b:=bo) (by rw [off1];exact hbo j _ (by unfold intN;rw [List.getElem?_map,hoj];rfl)))) rfl rfl rfl rfl rfl ?_)|(show T _ (.run _ _ (_::_) _ _::_) _ _ _;first|refine rv rfl rfl rfl (Val.load rfl (fun hg=>rdFz (p:=p) (u := .int .i64 (ord.getD j 0:Nat)) (b:=bo) (by rw [off1];exact hbo j _ (by unfold intN;rw [List.getElem?_map,hoj];rfl)))) rfl rfl rfl ?_|refine rg rfl rfl rfl (Val.load rfl (fun hg=>rdFz (p:=p) (u := .int .i64 (ord.getD j 0:Nat)) (b:=bo) (by rw [off1];exact hbo j _ (by unfold intN;rw [List.getElem?_map,hoj];rfl)))) rfl rfl rfl rfl rfl ?_|refine rcE rfl rfl rfl rfl rfl rfl rfl (fun w hw=>add21_spec (hg.addW hw.below (hg.hst.cls hw) hc hbs hq hlt (by omega) (by omega) (srcRw w hw) (hq9.own hw) htm) capt t.cap hpr) (fun y9 _=>?_))|(show ∀ _:Nat,T _ _ _ _ _;intro _))
  refine T_if rfl (fun h5=>by exfalso;simp at h5) (fun _=>?_)
  repeat' (first|refine d1 ?_|refine dd ?_|(show T _ (.ops _ (_::_)::_) _ _ _;refine T_op (OpT.append rfl rfl rfl rfl rfl rfl rfl rfl rfl rfl (fun w hw=>Src.own hw rfl) rfl (by dsimp only;omega) (by omega) (fun A' cap' hA'=>?_)))|(show ∀ _:Nat,T _ _ _ _ _;intro _))
  refine T_backX (j+1,(A',cap'),y9) (Nat.succ_le_of_lt hjn) (by dsimp only;omega) (hG:=?_)
  dsimp only
  rw [takS_succ (by omega),List.map_append,hts,hst,show List.map TS.val [t]=flatP [(0, .slice t.A t.n t.cap)] from rfl]
  exact Hle.srt
 ·simp only [decide_eq_false_iff_not] at h3
  obtain rfl:j=l.length:=by omega
  refine T_le (H':=[dat [K] [rowsD (stgV c l ord l.length)],row 37 1 At capt l.length ((takS l ord l.length).map TS.val),fz p,blk pc c.cells 23]) Hle.srt ?_
  refine T_open fun q hq9=>?_
  have hso:=stgV_ok (c:=c) hlt hg.ok.len l.length (by omega)
  have hlen:=(stg_prod (c:=c) hlt hln (j:=l.length) (m:=0) (by omega) (by omega) (by omega)).1
  repeat' (first|refine d1 ?_|refine dd ?_|(show T _ (.ops _ (_::_)::_) _ _ _;refine T_op (OpT.call rfl rfl rfl rfl rfl (fun w hw=>arranged_spec K (stgV c l ord l.length) Ao l.length co ord w (hq9.own hw) (by have h9:=(hp2.own hw).intsAt;rw [intN_val] at h9;exact h9) hol (fun r hr=>by rw [hso.len r hr,lens_len,takS_len (by omega)]) hlt (by omega) (by omega)) ?_))|(show ∀ _:Nat,T _ _ _ _ _;intro _))
  rintro v R ⟨y,-,rfl,rfl⟩
  repeat' (first|refine d1 ?_|refine dd ?_|(show ∀ _:Nat,T _ _ _ _ _;intro _)|(show T _ (.code .ret::_) _ _ _;refine T_retV _ rfl (Hle.nth 0 rfl) ⟨_,trivial,rfl,rfl⟩))
end Go.Proofs.YthadgaboakipoaaGreatDoor
namespace Go.Proofs.YthadgaboakipoaaGreatDoor
open Go.RowKit Go.Shelf Go.Proofs
set_option maxRecDepth 100000
set_option maxHeartbeats 4000000

end Go.Proofs.YthadgaboakipoaaGreatDoor
namespace Go.Proofs.YthadgaboakipoaaGreatDoor
open Go.RowKit Go.Shelf Go.Proofs
set_option maxRecDepth 100000
set_option maxHeartbeats 1000000

end Go.Proofs.YthadgaboakipoaaGreatDoor
namespace Go.Proofs.YthadgaboakipoaaGreatDoor
open Go.RowKit Go.Shelf Go.Proofs
set_option maxRecDepth 100000
set_option maxHeartbeats 1000000

theorem rd_toksL {w:World}:∀ {m:List (List Tok)} {cs:List Value},Rd (wr w) cs (m.map toksD)→∃ l:List TS,cs=l.map TS.val∧TsOk w l∧l.map TS.l=m
 | [],cs,h=>by
  have:=h.length
  obtain rfl:cs=[]:=List.eq_nil_of_length_eq_zero this
  exact⟨[],rfl,⟨fun t ht=>(by cases ht),fun t ht=>(by cases ht),fun t ht=>(by cases ht)⟩,rfl⟩
 | t::m,[],h=>by have:=h.length;simp at this
 | t::m,x::cs,h=>by
  obtain⟨h1,h2⟩:=h.cons_inv
  obtain⟨A,cap,rfl,hb,hs,-,-⟩:=h1.toks
  obtain⟨l,rfl,hl,rfl⟩:=rd_toksL h2
  refine ⟨⟨A,t.length,cap,t⟩::l,rfl,⟨fun y hy=>?_,fun y hy=>?_,fun y hy=>?_⟩,rfl⟩
  ·rcases List.mem_cons.1 hy with rfl|hy
   ·exact hs
   ·exact hl.src y hy
  ·rcases List.mem_cons.1 hy with rfl|hy
   ·rfl
   ·exact hl.len y hy
  ·rcases List.mem_cons.1 hy with rfl|hy
   ·exact hb
   ·exact hl.bd y hy
theorem Rd.toksL {w:World} {x:Value} {m:List (List Tok)} (h:Rd (wr w) [x] [.s 1 (m.map toksD)]):∃ A cap,∃ l:List TS,x = .slice A l.length cap∧l.length≤9223372036854775807∧Src w 1 A l.length (l.map TS.val)∧TsOk w l∧l.map TS.l=m:=by
 obtain⟨A,n,cap,cs,rfl,h1,h2,h3,hs,hr⟩:=h.src
 obtain⟨l,rfl,hl,rfl⟩:=rd_toksL hr
 have hn:n=l.length:=by rw [List.length_map,List.length_map] at h1;omega
 subst hn
 exact⟨A,cap,l,rfl,by omega,hs,hl,rfl⟩
theorem word21_spec (s:ByteArray) (w:World):Spec Tryz.prog 40 [.string s] w (fun v R=>v=(tokS s).val∧R=[]):=by
 refine spec_of sg Tryz.func40 rfl rfl rfl ?_
 repeat' (first|refine d1 ?_|refine dd ?_|(show ∀ _:Nat,T _ _ _ _ _;intro _))
 rename_i b
 exact T_retM (vs:=[(tokS s).val]) [] ⟨⟨b,_,(tokS s).cells,rfl,rfl,rfl,rfl,(fun h=>by cases h),rfl,rdAll⟩,trivial⟩ (Hle.none _) ⟨rfl,rfl⟩
def awTS (b1 b2 b3:Nat):List TS:=[⟨some ⟨b1,0,none⟩,3,3,aw21a⟩,⟨some ⟨b2,0,none⟩,2,2,aw21b⟩,⟨some ⟨b3,0,none⟩,2,2,aw21c⟩]
theorem awake21_spec (w:World) (hst:Std w):Spec Tryz.prog 7 [] w (fun v R=>v = .bool true∧R=[]):=by
 refine spec_of sg Tryz.func7 rfl rfl rfl ?_
 repeat' (first|refine d1 ?_|refine dd ?_|(show T _ (.ops _ (_::_)::_) _ _ _;first|refine T_call rfl rfl rfl rfl rfl (fun w hw=>word21_spec sA w) ?_|refine T_callC rfl rfl rfl rfl rfl rfl rfl (fun hg w hw=>word21_spec sA w) ?_|refine T_call rfl rfl rfl rfl rfl (fun w hw=>word21_spec sB w) ?_|refine T_callC rfl rfl rfl rfl rfl rfl rfl (fun hg w hw=>word21_spec sB w) ?_|refine T_call rfl rfl rfl rfl rfl (fun w hw=>word21_spec sC w) ?_|refine T_callC rfl rfl rfl rfl rfl rfl rfl (fun hg w hw=>word21_spec sC w) ?_|refine T_op (OpT.storeA rfl rfl rfl rfl rfl rfl (by decide) ?_))|(show T _ (.run _ _ (_::_) _ _::_) _ _ _;first|refine rc rfl rfl rfl rfl rfl rfl rfl (fun w hw=>word21_spec sA w) ?_|refine rcG rfl rfl rfl rfl rfl rfl rfl rfl rfl (fun hg w hw=>word21_spec sA w) ?_|refine rc rfl rfl rfl rfl rfl rfl rfl (fun w hw=>word21_spec sB w) ?_|refine rcG rfl rfl rfl rfl rfl rfl rfl rfl rfl (fun hg w hw=>word21_spec sB w) ?_|refine rc rfl rfl rfl rfl rfl rfl rfl (fun w hw=>word21_spec sC w) ?_|refine rcG rfl rfl rfl rfl rfl rfl rfl rfl rfl (fun hg w hw=>word21_spec sC w) ?_)|(show ∀ _:Nat,T _ _ _ _ _;intro _))
 rename_i p1 p2 p3 b1 b2 b3 b4 pc
 refine T_le (H':=[blk pc awC21.cells 23,blk b4 ((awTS b1 b2 b3).map TS.val) 37,blk b3 (aw21c.flatMap Tok.cells) 62,blk b2 (aw21b.flatMap Tok.cells) 62,blk b1 (aw21a.flatMap Tok.cells) 62]) (Hle.append_left (A:=[_,_,_,_,_]) _) ?_
 refine T_le (H':=[blk b4 ((awTS b1 b2 b3).map TS.val) 37,blk b3 (aw21c.flatMap Tok.cells) 62,blk b2 (aw21b.flatMap Tok.cells) 62,blk b1 (aw21a.flatMap Tok.cells) 62,blk pc awC21.cells 23]) Hle.srt ?_
 have hG:∀ {w':World} {H:List HA},Cls w w' (blk b4 ((awTS b1 b2 b3).map TS.val) 37::blk b3 (aw21c.flatMap Tok.cells) 62::blk b2 (aw21b.flatMap Tok.cells) 62::blk b1 (aw21a.flatMap Tok.cells) 62::H)→Grp w' (some ⟨b4,0,none⟩) 3 (awTS b1 b2 b3):=fun hw =>
  ⟨hst.cls hw,Src.own hw rfl,rfl,by omega,⟨List.forall_mem_cons.2 ⟨Src.own (b:=b1) hw rfl,List.forall_mem_cons.2 ⟨Src.own (b:=b2) hw rfl,List.forall_mem_cons.2 ⟨Src.own (b:=b3) hw rfl,fun t h=>by cases h⟩⟩⟩,List.forall_mem_cons.2 ⟨rfl,List.forall_mem_cons.2 ⟨rfl,List.forall_mem_cons.2 ⟨rfl,fun t h=>by cases h⟩⟩⟩,List.forall_mem_cons.2 ⟨Nat.le_of_ble_eq_true rfl,List.forall_mem_cons.2 ⟨Nat.le_of_ble_eq_true rfl,List.forall_mem_cons.2 ⟨Nat.le_of_ble_eq_true rfl,fun t h=>by cases h⟩⟩⟩⟩,
   List.forall_mem_cons.2 ⟨Nat.le_of_ble_eq_true rfl,List.forall_mem_cons.2 ⟨Nat.le_of_ble_eq_true rfl,List.forall_mem_cons.2 ⟨Nat.le_of_ble_eq_true rfl,fun t h=>by cases h⟩⟩⟩,List.forall_mem_cons.2 ⟨aw21s.1,List.forall_mem_cons.2 ⟨aw21s.2.1,List.forall_mem_cons.2 ⟨aw21s.2.2,fun t h=>by cases h⟩⟩⟩⟩
 have hq:∀ t∈awTS b1 b2 b3,t.n≤100:=List.forall_mem_cons.2 ⟨Nat.le_of_ble_eq_true rfl,List.forall_mem_cons.2 ⟨Nat.le_of_ble_eq_true rfl,List.forall_mem_cons.2 ⟨Nat.le_of_ble_eq_true rfl,fun t h=>by cases h⟩⟩⟩
 have hsl:SameL (awTS b1 b2 b3) aw21:=rfl
 have eV:ordV awC21 (awTS b1 b2 b3)=([0,1,2],0):=(SameL.ord hsl awC21).trans aw21V
 have eW:alnA awC21 (awTS b1 b2 b3)=([[0,0,0],[1,-1,1],[2,1,-1]],0):=(SameL.aln hsl awC21).trans aw21W
 repeat' (first|refine d1 ?_|refine dd ?_|(show T _ (.ops _ (_::_)::_) _ _ _;refine T_op (OpT.call rfl rfl rfl rfl rfl (fun w hw=>orderPrg21_spec awC21 (some ⟨b4,0,none⟩) 3 3 (awTS b1 b2 b3) w (hG hw)) ?_))|(show ∀ _:Nat,T _ _ _ _ _;intro _))
 rintro v R ⟨x,-,rfl,rfl⟩
 rw [eV]
 refine T_le (H':=[dat [x] [intsD [0,1,2]],blk b4 ((awTS b1 b2 b3).map TS.val) 37,blk b3 (aw21c.flatMap Tok.cells) 62,blk b2 (aw21b.flatMap Tok.cells) 62,blk b1 (aw21a.flatMap Tok.cells) 62,blk pc awC21.cells 23]) (Hle.refl _) ?_
 refine T_open fun p hp=>?_
 refine T_le (H':=[blk b4 ((awTS b1 b2 b3).map TS.val) 37,blk b3 (aw21c.flatMap Tok.cells) 62,blk b2 (aw21b.flatMap Tok.cells) 62,blk b1 (aw21a.flatMap Tok.cells) 62,fz p,blk pc awC21.cells 23]) Hle.srt ?_
 repeat' (first|refine d1 ?_|refine dd ?_|(show T _ (.ops _ (_::_)::_) _ _ _;refine T_op (OpT.call rfl rfl rfl rfl rfl (fun w hw=>alignPrg21_spec awC21 (some ⟨b4,0,none⟩) 3 3 (awTS b1 b2 b3) w (hG hw) hq) ?_))|(show ∀ _:Nat,T _ _ _ _ _;intro _))
 rintro v R ⟨y,-,rfl,rfl⟩
 rw [eW]
 refine T_le (H':=[dat [y] [rowsD [[0,0,0],[1,-1,1],[2,1,-1]]],blk b4 ((awTS b1 b2 b3).map TS.val) 37,blk b3 (aw21c.flatMap Tok.cells) 62,blk b2 (aw21b.flatMap Tok.cells) 62,blk b1 (aw21a.flatMap Tok.cells) 62,fz p,blk pc awC21.cells 23]) (Hle.refl _) ?_
 refine T_open fun q hq=>?_
 refine T_le (H':=[fz q,fz p]) Hle.srt ?_
 repeat' (first|refine d1 ?_|refine dd ?_|(show T _ (.ops _ (_::_)::_) _ _ _;refine T_op (OpT.sure (p:=true) rfl rfl rfl (OpT.litW rfl rfl rfl rfl rfl rfl rfl rfl rfl rfl rfl (fun _=>?_))))|(show ∀ _:Nat,T _ _ _ _ _;intro _))
 rename_i c1
 refine T_le (H':=[blk c1 [.int .i64 0, .int .i64 1, .int .i64 2] 3,fz q,fz p]) (Hle.refl _) ?_
 refine T_callC rfl rfl rfl rfl rfl rfl rfl (fun _ w hw=>equalI_spec x _ [0,1,2] [0,1,2] w (hp.own hw) (rd_ints (b:=c1) (n:=3) (r:=[0,1,2]) (Src.own (b:=c1) hw rfl) (by omega))) ?_
 refine T_le (H':=[fz q,fz p]) Hle.srt ?_
 repeat' (first|refine d1 ?_|refine dd ?_|(show T _ (.ops _ (_::_)::_) _ _ _;refine T_op (OpT.sure (p:=true) rfl rfl rfl (OpT.litW rfl rfl rfl rfl rfl rfl rfl rfl rfl rfl rfl (fun _=>?_))))|(show ∀ _:Nat,T _ _ _ _ _;intro _))
 rename_i c3 c4 c5 c6
 refine T_le (H':=[blk c6 [.slice (some ⟨c3,0,none⟩) 3 3, .slice (some ⟨c4,0,none⟩) 3 3, .slice (some ⟨c5,0,none⟩) 3 3] 27,blk c5 [.int .i64 2, .int .i64 1, .int .i64 (-1)] 3,blk c4 [.int .i64 1, .int .i64 (-1), .int .i64 1] 3,blk c3 [.int .i64 0, .int .i64 0, .int .i64 0] 3,fz q,fz p]) (Hle.refl _) ?_
 refine T_callC rfl rfl rfl rfl rfl rfl rfl (fun _ w hw=>sameTable_spec y _ [[0,0,0],[1,-1,1],[2,1,-1]] [[0,0,0],[1,-1,1],[2,1,-1]] w (hq.own hw) (rd_lit (n:=3) (Src.own (b:=c6) hw rfl) (by omega) ((rd_ints (b:=c3) (n:=3) (r:=[0,0,0]) (Src.own hw rfl) (by omega)).append ((rd_ints (b:=c4) (n:=3) (r:=[1,-1,1]) (Src.own hw rfl) (by omega)).append (rd_ints (b:=c5) (n:=3) (r:=[2,1,-1]) (Src.own hw rfl) (by omega)))))) ?_
 repeat' (first|refine d1 ?_|refine dd ?_|(show ∀ _:Nat,T _ _ _ _ _;intro _)|(show T _ (.code .ret::_) _ _ _;refine T_retV [] rfl (Hle.none _) ⟨rfl,rfl⟩))
end Go.Proofs.YthadgaboakipoaaGreatDoor
namespace Go.Proofs.YthadgaboakipoaaGreatDoor
open Go.RowKit Go.Shelf Go.Proofs

theorem ord_inj {ord:List Nat} (hd:ord.Nodup) {i k:Nat} (hi:i<ord.length) (hk:k<ord.length) (h:ord.getD i 0=ord.getD k 0):i=k:=by
 rw [List.getD_eq_getElem?_getD,List.getElem?_eq_getElem hi,List.getD_eq_getElem?_getD,List.getElem?_eq_getElem hk] at h
 exact (List.getElem_inj hd).1 h
end Go.Proofs.YthadgaboakipoaaGreatDoor
namespace Go.Proofs.YthadgaboakipoaaGreatDoor

end Go.Proofs.YthadgaboakipoaaGreatDoor
namespace Go.Proofs.YthadgaboakipoaaGreatDoor
open Go.RowKit Go.Shelf Go.Proofs

theorem upto_drop {n p:Nat} (h:p<n):(upto n).drop p=(p:Int)::(upto n).drop (p+1):=by
 rw [List.drop_eq_getElem_cons (by rw [upto_len];exact h)]
 have e:=upto_get h
 rw [List.getElem?_eq_getElem (by rw [upto_len];exact h)] at e
 rw [Option.some.inj e]
end Go.Proofs.YthadgaboakipoaaGreatDoor
namespace Go.Proofs.YthadgaboakipoaaGreatDoor
open Go.RowKit Go.Shelf Go.Proofs
set_option maxRecDepth 100000
set_option maxHeartbeats 1000000

end Go.Proofs.YthadgaboakipoaaGreatDoor
namespace Go.Proofs.YthadgaboakipoaaGreatDoor
open Go.RowKit Go.Shelf Go.Proofs
set_option maxRecDepth 100000
set_option maxHeartbeats 1000000

end Go.Proofs.YthadgaboakipoaaGreatDoor
namespace Go.Proofs.YthadgaboakipoaaGreatDoor
open Go.RowKit Go.Shelf Go.Proofs
set_option maxRecDepth 100000
set_option maxHeartbeats 1000000

theorem fine21a_spec (t:Tok) (w:World):Spec Tryz.prog 38 [t.val] w (fun v A=>v = .bool (!decide (tokE t=0))∧A=[]):=by
 refine spec_of sg Tryz.func38 rfl rfl rfl ?_
 repeat' (first|(show T _ (.ops _ (⟨_, .box _ _,_,_,_,_⟩::_)::_) _ _ _;refine T_op (OpT.box (cs:=t.cells) rfl rfl rfl rfl rfl rfl rfl (fun _=>?_)))|refine d1 ?_|refine dd ?_|(show T _ (.ops _ (_::_)::_) _ _ _;first|refine T_call rfl rfl rfl rfl rfl (fun w hw=>tokRef_spec t w) ?_|refine T_callC rfl rfl rfl rfl rfl rfl rfl (fun hg w hw=>tokRef_spec t w) ?_)|(show T _ (.run _ _ (_::_) _ _::_) _ _ _;first|refine rc rfl rfl rfl rfl rfl rfl rfl (fun w hw=>tokRef_spec t w) ?_|refine rcG rfl rfl rfl rfl rfl rfl rfl rfl rfl (fun hg w hw=>tokRef_spec t w) ?_)|(show ∀ _:Nat,T _ _ _ _ _;intro _)|(show T _ (.code .ret::_) _ _ _;refine T_retV [] rfl (Hle.none _) ⟨rfl,rfl⟩))
theorem fine21b_spec (A:Option Addr) (n c:Nat) (l:List Tok) (w:World) (hs:Src w 6 A n (l.flatMap Tok.cells)) (hn:l.length=n) (hb:n≤9223372036854775807) :
  Spec Tryz.prog 36 [.slice A n c] w (fun v R=>v = .bool (badL l)∧R=[]):=by
 refine spec_of sg Tryz.func36 rfl rfl rfl ?_
 repeat' (first|refine d1 ?_|refine dd ?_|(show T _ (.ops _ (_::_)::_) _ _ _;first|refine T_call rfl rfl rfl rfl rfl (fun w hw=>containsFuncT_spec A n c l _ [] [] (fun t => !decide (tokE t=0)) w (rdSrc hs w hw) hn hb (fun x hx w' hb'=>fine21a_spec x w')) ?_|refine T_callC rfl rfl rfl rfl rfl rfl rfl (fun hg w hw=>containsFuncT_spec A n c l _ [] [] (fun t => !decide (tokE t=0)) w (rdSrc hs w hw) hn hb (fun x hx w' hb'=>fine21a_spec x w')) ?_)|(show T _ (.run _ _ (_::_) _ _::_) _ _ _;first|refine rc rfl rfl rfl rfl rfl rfl rfl (fun w hw=>containsFuncT_spec A n c l _ [] [] (fun t => !decide (tokE t=0)) w (rdSrc hs w hw) hn hb (fun x hx w' hb'=>fine21a_spec x w')) ?_|refine rcG rfl rfl rfl rfl rfl rfl rfl rfl rfl (fun hg w hw=>containsFuncT_spec A n c l _ [] [] (fun t => !decide (tokE t=0)) w (rdSrc hs w hw) hn hb (fun x hx w' hb'=>fine21a_spec x w')) ?_)|(show ∀ _:Nat,T _ _ _ _ _;intro _)|(show T _ (.code .ret::_) _ _ _;refine T_retV [] rfl (Hle.none _) ⟨rfl,rfl⟩))
noncomputable def fineV (c:Costs) (l:List TS):Bool:=decide (costE c=0) && !great21B l && !badS l
theorem fine21_spec (c:Costs) (A:Option Addr) (n ca:Nat) (l:List TS) (w:World) (hs:Src w 1 A n (l.map TS.val)) (hn:l.length=n) (hb:n≤9223372036854775807) (hl:TsOk w l) :
  Spec Tryz.prog 6 [c.val, .slice A n ca] w (fun v R=>v = .bool (fineV c l)∧R=[]):=by
 refine spec_of sg Tryz.func6 rfl rfl rfl ?_
 repeat' (first|(show T _ (.ops _ (⟨_, .box _ _,_,_,_,_⟩::_)::_) _ _ _;refine T_op (OpT.box (cs:=c.cells) rfl rfl rfl rfl rfl rfl rfl (fun _=>?_)))|refine d1 ?_|refine dd ?_|(show T _ (.ops _ (_::_)::_) _ _ _;first|refine T_call rfl rfl rfl rfl rfl (fun w hw=>costRef_spec c w) ?_|refine T_callC rfl rfl rfl rfl rfl rfl rfl (fun hg w hw=>costRef_spec c w) ?_|refine T_call rfl rfl rfl rfl rfl (fun w hw=>great21_spec A n ca l w (rdSrc hs w hw) hn hb ⟨fun t ht=>src_below (hl.src t ht) hw.below,hl.len,hl.bd⟩) ?_|refine T_callC rfl rfl rfl rfl rfl rfl rfl (fun hg w hw=>great21_spec A n ca l w (rdSrc hs w hw) hn hb ⟨fun t ht=>src_below (hl.src t ht) hw.below,hl.len,hl.bd⟩) ?_)|(show T _ (.run _ _ (_::_) _ _::_) _ _ _;first|refine rc rfl rfl rfl rfl rfl rfl rfl (fun w hw=>costRef_spec c w) ?_|refine rcG rfl rfl rfl rfl rfl rfl rfl rfl rfl (fun hg w hw=>costRef_spec c w) ?_|refine rc rfl rfl rfl rfl rfl rfl rfl (fun w hw=>great21_spec A n ca l w (rdSrc hs w hw) hn hb ⟨fun t ht=>src_below (hl.src t ht) hw.below,hl.len,hl.bd⟩) ?_|refine rcG rfl rfl rfl rfl rfl rfl rfl rfl rfl (fun hg w hw=>great21_spec A n ca l w (rdSrc hs w hw) hn hb ⟨fun t ht=>src_below (hl.src t ht) hw.below,hl.len,hl.bd⟩) ?_)|(show ∀ _:Nat,T _ _ _ _ _;intro _))
 refine T_if rfl (fun h=>?_) (fun h=>?_)
 ·repeat' (first|refine d1 ?_|refine dd ?_|(show ∀ _:Nat,T _ _ _ _ _;intro _)|(show T _ (.code .ret::_) _ _ _;refine T_retV [] rfl (Hle.none _) ⟨congrArg Value.bool ?_,rfl⟩))
  unfold fineV
  by_cases hc:costE c=0
  ·simp [hc] at h;simp [h]
  ·simp [hc]
 ·repeat' (first|refine d1 ?_|refine dd ?_|(show T _ (.ops _ (_::_)::_) _ _ _;first|refine T_call rfl rfl rfl rfl rfl (fun w hw=>containsFuncS_spec A n ca l _ [] [] (fun t=>badL t.l) w (rdSrc hs w hw) hn hb (fun x hx w' hb'=>fine21b_spec x.A x.n x.cap x.l w' (src_below (hl.src x hx) (hw.below.trans (hb'.mono hw.below.size))) (hl.len x hx) (hl.bd x hx))) ?_|refine T_callC rfl rfl rfl rfl rfl rfl rfl (fun hg w hw=>containsFuncS_spec A n ca l _ [] [] (fun t=>badL t.l) w (rdSrc hs w hw) hn hb (fun x hx w' hb'=>fine21b_spec x.A x.n x.cap x.l w' (src_below (hl.src x hx) (hw.below.trans (hb'.mono hw.below.size))) (hl.len x hx) (hl.bd x hx))) ?_)|(show T _ (.run _ _ (_::_) _ _::_) _ _ _;first|refine rc rfl rfl rfl rfl rfl rfl rfl (fun w hw=>containsFuncS_spec A n ca l _ [] [] (fun t=>badL t.l) w (rdSrc hs w hw) hn hb (fun x hx w' hb'=>fine21b_spec x.A x.n x.cap x.l w' (src_below (hl.src x hx) (hw.below.trans (hb'.mono hw.below.size))) (hl.len x hx) (hl.bd x hx))) ?_|refine rcG rfl rfl rfl rfl rfl rfl rfl rfl rfl (fun hg w hw=>containsFuncS_spec A n ca l _ [] [] (fun t=>badL t.l) w (rdSrc hs w hw) hn hb (fun x hx w' hb'=>fine21b_spec x.A x.n x.cap x.l w' (src_below (hl.src x hx) (hw.below.trans (hb'.mono hw.below.size))) (hl.len x hx) (hl.bd x hx))) ?_)|(show ∀ _:Nat,T _ _ _ _ _;intro _)|(show T _ (.code .ret::_) _ _ _;refine T_retV [] rfl (Hle.none _) ⟨congrArg Value.bool ?_,rfl⟩))
  unfold fineV badS
  by_cases hc:costE c=0
  ·simp [hc] at h;simp [hc,h]
  ·exfalso;simp [hc] at h
theorem fineV_ok {c:Costs} {l:List TS} (h:fineV c l=true):costE c=0∧great21B l=false∧badS l=false∧ck21 c l=0:=by
 unfold fineV at h
 simp only [Bool.and_eq_true,Bool.not_eq_true',decide_eq_true_eq] at h
 exact⟨h.1.1,h.1.2,h.2,if_pos ⟨h.1.1,h.2⟩⟩
end Go.Proofs.YthadgaboakipoaaGreatDoor
namespace Go.Proofs.YthadgaboakipoaaGreatDoor

end Go.Proofs.YthadgaboakipoaaGreatDoor
namespace Go.Proofs.YthadgaboakipoaaGreatDoor

def InB:List Nat→List Nat→Prop
 | [],[]=>True
 | n::ls,a::v=>a≤n∧InB ls v
 | _,_=>False
theorem InB.len:∀ {ls v:List Nat},InB ls v→v.length=ls.length
 | [],[],_=>rfl
 | n::ls,a::v,h=>by simp [InB.len h.2]
 | [],a::v,h=>h.elim
 | n::ls,[],h=>h.elim
theorem InB.get:∀ {ls v:List Nat},InB ls v→∀ s,v.getD s 0≤ls.getD s 0
 | [],[],_,s=>by simp
 | n::ls,a::v,h,0=>h.1
 | n::ls,a::v,h,s+1=>by simpa using InB.get h.2 s
 | [],a::v,h,_=>h.elim
 | n::ls,[],h,_=>h.elim
theorem InB.of:∀ {ls v:List Nat},v.length=ls.length→(∀ s,v.getD s 0≤ls.getD s 0)→InB ls v
 | [],[],_,_=>trivial
 | n::ls,a::v,hl,h=>⟨h 0,InB.of (by simpa using hl) fun s=>by simpa using h (s+1)⟩
 | [],a::v,hl,_=>by simp at hl
 | n::ls,[],hl,_=>by simp at hl
theorem InB.some:∀ {ls v:List Nat},InB ls v→v≠ls→∃ s,s<ls.length∧v.getD s 0<ls.getD s 0
 | [],[],_,h=>(h rfl).elim
 | n::ls,a::v,h,hne=>by
  by_cases e:a=n
  ·subst e
   obtain⟨s,h1,h2⟩:=InB.some h.2 (fun e2=>hne (by rw [e2]))
   exact⟨s+1,by simp;omega,by simpa using h2⟩
  ·exact⟨0,by simp,by have:=h.1;show a<n;omega⟩
 | [],a::v,h,_=>h.elim
 | n::ls,[],h,_=>h.elim
def toM (v:List Nat):List Nat→List Nat
 | []=>v
 | s::m=>toM (v.set s (v.getD s 0+1)) m
theorem set_other {v:List Nat} {s u x:Nat} (h:s≠u):(v.set s x).getD u 0=v.getD u 0:=by
 rw [List.getD_eq_getElem?_getD,List.getElem?_set_ne h, ← List.getD_eq_getElem?_getD]
theorem set_self {v:List Nat} {s x:Nat} (h:s<v.length):(v.set s x).getD s 0=x:=by
 rw [List.getD_eq_getElem?_getD,List.getElem?_set_self h];rfl
theorem toM_get:∀ (m v:List Nat),m.Nodup→(∀ s∈m,s<v.length)→∀ s,(toM v m).getD s 0=v.getD s 0+if s∈m then 1 else 0
 | [],v,_,_,s=>by simp [toM]
 | u::m,v,hd,hl,s=>by
  have hu:=List.nodup_cons.1 hd
  unfold toM
  rw [toM_get m _ hu.2 (fun s hs=>by rw [List.length_set];exact hl s (.tail _ hs)) s]
  by_cases e:u=s
  ·subst e
   rw [set_self (hl u (.head _)),if_neg hu.1,if_pos (.head _)]
  ·rw [set_other e]
   have:(s∈u::m)↔s∈m:=by rw [List.mem_cons];exact⟨fun h=>h.resolve_left (fun h=>e h.symm), .inr⟩
   simp only [this]
end Go.Proofs.YthadgaboakipoaaGreatDoor
namespace Go.Proofs.YthadgaboakipoaaGreatDoor

def possM (ls v m:List Nat):Bool:=m.all fun s=>decide (v.getD s 0<ls.getD s 0)
theorem possM_iff {ls v m:List Nat}:possM ls v m=true↔∀ s∈m,v.getD s 0<ls.getD s 0:=by unfold possM;rw [List.all_eq_true];simp
def colMv (v:List Nat):List Nat→List Int→List Int
 | [],c=>c
 | s::m,c=>colMv v m (c.set s (v.getD s 0:Nat))
def colT (v m:List Nat):List Int:=colMv v m (List.replicate v.length (-1))
theorem colMv_len (v:List Nat):∀ (m:List Nat) (c:List Int),(colMv v m c).length=c.length
 | [],c=>rfl
 | s::m,c=>by unfold colMv;rw [colMv_len v m,List.length_set]
theorem colT_len (v m:List Nat):(colT v m).length=v.length:=by unfold colT;rw [colMv_len,List.length_replicate]
theorem colMv_get (v:List Nat):∀ (m:List Nat) (c:List Int) (s:Nat),s<c.length→(colMv v m c).getD s (-1)=if s∈m then ((v.getD s 0:Nat):Int) else c.getD s (-1)
 | [],c,s,_=>by simp [colMv]
 | u::m,c,s,h=>by
  unfold colMv
  rw [colMv_get v m _ s (by rw [List.length_set];exact h)]
  by_cases h1:s∈m
  ·rw [if_pos h1,if_pos (List.mem_cons_of_mem _ h1)]
  ·rw [if_neg h1]
   by_cases e:u=s
   ·subst e
    rw [if_pos List.mem_cons_self,List.getD_eq_getElem?_getD,List.getElem?_set_self h];rfl
   ·rw [if_neg (by rw [List.mem_cons];rintro (h|h);exact e h.symm;exact h1 h),List.getD_eq_getElem?_getD,List.getElem?_set_ne e, ← List.getD_eq_getElem?_getD]
theorem colT_get {v m:List Nat} {s:Nat} (h:s<v.length):(colT v m).getD s (-1)=if s∈m then ((v.getD s 0:Nat):Int) else -1:=by
 unfold colT
 rw [colMv_get v m _ s (by rw [List.length_replicate];exact h)]
 simp [List.getD_eq_getElem?_getD,List.getElem?_replicate,h]
structure MvsOk (n:Nat) (Ms:List (List Nat)):Prop where
 nd:∀ m∈Ms,m.Nodup
 lt:∀ m∈Ms,∀ s∈m,s<n
 ne:∀ m∈Ms,m≠[]
 one:∀ s,s<n→[s]∈Ms
def RestOk (ls v:List Nat) (cols:List (List Int)):Prop:=(∀ x∈cols,x.length=ls.length)∧(∀ x∈cols,∃ z∈x,z ≠ -1)∧∀ s n,ls[s]?=some n→srcC cols s=(upto n).drop (v.getD s 0)
theorem RestOk.cons {ls v m:List Nat} {cols:List (List Int)} (hv:InB ls v) (hm:m≠[]) (hd:m.Nodup) (hlt:∀ s∈m,s<ls.length) (hp:possM ls v m=true) (h:RestOk ls (toM v m) cols):RestOk ls v (colT v m::cols):=by
 have hlen:=hv.len
 obtain⟨h1,h2,h3⟩:=h
 refine ⟨fun x hx=>?_,fun x hx=>?_,fun s n hs=>?_⟩
 ·rcases List.mem_cons.1 hx with rfl|hx
  ·rw [colT_len,hlen]
  ·exact h1 x hx
 ·rcases List.mem_cons.1 hx with rfl|hx
  ·obtain⟨s,ms,rfl⟩:=List.exists_cons_of_ne_nil hm
   have hs:s<v.length:=by rw [hlen];exact hlt s (.head _)
   have hg:=colT_get (m:=s::ms) hs
   rw [if_pos List.mem_cons_self] at hg
   refine ⟨_,?_,show ((v.getD s 0:Nat):Int) ≠ -1 by omega⟩
   rw [← hg,List.getD_eq_getElem?_getD,List.getElem?_eq_getElem (by rw [colT_len];exact hs)]
   exact List.getElem_mem _
  ·exact h2 x hx
 ·have hsl:s<ls.length:=(List.getElem?_eq_some_iff.1 hs).1
  rw [srcC_cons,h3 s n hs,colT_get (by rw [hlen];exact hsl),toM_get m v hd (fun u hu=>by rw [hlen];exact hlt u hu)]
  by_cases hsm:s∈m
  ·rw [if_pos hsm,if_pos hsm,if_neg (by omega)]
   have:=possM_iff.1 hp s hsm
   rw [List.getD_eq_getElem?_getD (l:=ls),hs] at this
   rw [upto_drop (show v.getD s 0<n from this)];rfl
  ·rw [if_neg hsm,if_neg hsm,if_pos rfl];rfl
theorem RestOk.nil (ls:List Nat):RestOk ls ls []:=⟨fun x h=>(by cases h),fun x h=>(by cases h),fun s n hs=>by
 rw [List.getD_eq_getElem?_getD,hs]
 show []=(upto n).drop n
 rw [List.drop_of_length_le (by rw [upto_len];exact Nat.le_refl _)]⟩
theorem InB.zero:∀ ls:List Nat,InB ls (List.replicate ls.length 0)
 | []=>trivial
 | n::ls=>⟨Nat.zero_le _,InB.zero ls⟩
end Go.Proofs.YthadgaboakipoaaGreatDoor
namespace Go.Proofs.YthadgaboakipoaaGreatDoor

def mvOfC (x:List Int):List Nat:=(List.range x.length).filter fun s=>decide (x.getD s (-1) ≠ -1)
theorem mvOfC_mem {x:List Int} {s:Nat}:s∈mvOfC x↔s<x.length∧x.getD s (-1) ≠ -1:=by
 unfold mvOfC;rw [List.mem_filter,List.mem_range];simp
theorem mvOfC_asc (x:List Int):(mvOfC x).Pairwise (· < ·):=(List.pairwise_lt_range).filter _
theorem asc_nodup {m:List Nat} (h:m.Pairwise (· < ·)):m.Nodup:=h.imp fun h=>Nat.ne_of_lt h
theorem ext_getD {a b:List Int} (hl:a.length=b.length) (h:∀ s,s<a.length→a.getD s (-1)=b.getD s (-1)):a=b:=by
 refine List.ext_getElem? fun s=>?_
 by_cases hs:s<a.length
 ·have:=h s hs
  rw [List.getD_eq_getElem?_getD,List.getD_eq_getElem?_getD,List.getElem?_eq_getElem hs,List.getElem?_eq_getElem (hl ▸ hs)] at this
  rw [List.getElem?_eq_getElem hs,List.getElem?_eq_getElem (hl ▸ hs)]
  exact congrArg some this
 ·rw [List.getElem?_eq_none (by omega),List.getElem?_eq_none (by omega)]
theorem drop_cons {n p:Nat} {z:Int} {r:List Int} (h:z::r=(upto n).drop p):p<n∧z=(p:Int)∧r=(upto n).drop (p+1):=by
 by_cases hp:p<n
 ·rw [upto_drop hp] at h
  cases h
  exact⟨hp,rfl,rfl⟩
 ·rw [List.drop_of_length_le (by rw [upto_len];omega)] at h
  cases h
theorem RestOk.step {ls v:List Nat} {x:List Int} {cols:List (List Int)} (hv:InB ls v) (h:RestOk ls v (x::cols)) :
  x=colT v (mvOfC x)∧possM ls v (mvOfC x)=true∧mvOfC x≠[]∧(∀ s∈mvOfC x,s<ls.length)∧RestOk ls (toM v (mvOfC x)) cols:=by
 have hlen:=hv.len
 obtain⟨h1,h2,h3⟩:=h
 have hx:=h1 x (.head _)
 have hmem:∀ s,s∈mvOfC x↔s<x.length∧x.getD s (-1) ≠ -1:=fun s=>mvOfC_mem
 have hent:∀ s,s<ls.length→x.getD s (-1) ≠ -1→v.getD s 0<ls.getD s 0∧x.getD s (-1)=((v.getD s 0:Nat):Int)∧srcC cols s=(upto (ls.getD s 0)).drop (v.getD s 0+1):=fun s hs hne=>by
  have h4:=h3 s _ (List.getElem?_eq_getElem hs)
  rw [srcC_cons,if_neg hne] at h4
  have e:ls.getD s 0=ls[s]:=by rw [List.getD_eq_getElem?_getD,List.getElem?_eq_getElem hs];rfl
  rw [e]
  exact drop_cons h4
 have hlt:∀ s∈mvOfC x,s<ls.length:=fun s hs=>by rw [← hx];exact (hmem s).1 hs |>.1
 have hp:possM ls v (mvOfC x)=true:=possM_iff.2 fun s hs=>(hent s (hlt s hs) ((hmem s).1 hs).2).1
 have hxe:x=colT v (mvOfC x):=ext_getD (by rw [colT_len,hlen,hx]) fun s hs=>by
  rw [colT_get (by omega)]
  by_cases hne:x.getD s (-1) = -1
  ·rw [if_neg (fun hm=>((hmem s).1 hm).2 hne),hne]
  ·rw [if_pos ((hmem s).2 ⟨hs,hne⟩)]
   exact (hent s (by omega) hne).2.1
 refine ⟨hxe,hp,?_,hlt,fun y hy=>h1 y (.tail _ hy),fun y hy=>h2 y (.tail _ hy),fun s n hs=>?_⟩
 ·obtain⟨z,hz,hz2⟩:=h2 x (.head _)
  obtain⟨s,hs,rfl⟩:=List.getElem_of_mem hz
  have:s∈mvOfC x:=(hmem s).2 ⟨hs,by rw [List.getD_eq_getElem?_getD,List.getElem?_eq_getElem hs];exact hz2⟩
  exact List.ne_nil_of_mem this
 ·have hsl:s<ls.length:=(List.getElem?_eq_some_iff.1 hs).1
  have e:ls.getD s 0=n:=by rw [List.getD_eq_getElem?_getD,hs];rfl
  rw [toM_get _ v (asc_nodup (mvOfC_asc x)) (fun u hu=>by rw [hlen];exact hlt u hu)]
  have h4:=h3 s n hs
  rw [srcC_cons] at h4
  by_cases hne:x.getD s (-1) = -1
  ·rw [if_pos hne] at h4
   rw [if_neg (fun hm=>((hmem s).1 hm).2 hne)]
   exact h4
  ·rw [if_pos ((hmem s).2 ⟨by omega,hne⟩)]
   have:=(hent s hsl hne).2.2
   rw [e] at this
   exact this
end Go.Proofs.YthadgaboakipoaaGreatDoor
namespace Go.Proofs.YthadgaboakipoaaGreatDoor

end Go.Proofs.YthadgaboakipoaaGreatDoor
namespace Go.Proofs.YthadgaboakipoaaGreatDoor
open Go.RowKit Go.Shelf Go.Proofs

theorem ColsOk.lt {ls:List Nat} {cols:List (List Int)} (h:ColsOk ls cols) {x:List Int} (hx:x∈cols) {s:Nat} (hs:s<ls.length):x.getD s (-1)<(ls.getD s 0:Int):=by
 have hl:=h.len x hx
 have:=(h.entry hx (s:=s) (n:=ls[s]) (z:=x[s]'(by omega)) (List.getElem?_eq_getElem hs) (List.getElem?_eq_getElem (by omega))).2
 rw [List.getD_eq_getElem?_getD,List.getElem?_eq_getElem (by omega),List.getD_eq_getElem?_getD (l:=ls),List.getElem?_eq_getElem hs]
 exact this
structure BackS (l l':List TS):Prop where
 len:l'.length=l.length
 toks:∀ s,s<l.length→(tsA l' s).l=(tsA l s).l.reverse
 n:lens l'=lens l
 ok:∀ s,s<l.length→(lens l).getD s 0=(tsA l s).l.length
theorem BackS.swap {l l':List TS} (h:BackS l l'):BackS l' l:=by
 refine ⟨h.len.symm,fun s hs=>?_,h.n.symm,fun s hs=>?_⟩
 ·rw [h.toks s (by rw [← h.len];exact hs),List.reverse_reverse]
 ·rw [h.n,h.toks s (by rw [← h.len];exact hs),List.length_reverse,h.ok s (by rw [← h.len];exact hs)]
end Go.Proofs.YthadgaboakipoaaGreatDoor
namespace Go.Proofs.YthadgaboakipoaaGreatDoor
open Go.RowKit Go.Shelf Go.Proofs

end Go.Proofs.YthadgaboakipoaaGreatDoor
namespace Go.Proofs.YthadgaboakipoaaGreatDoor
open Go.RowKit Go.Shelf Go.Proofs
set_option maxRecDepth 100000
set_option maxHeartbeats 1000000

end Go.Proofs.YthadgaboakipoaaGreatDoor
namespace Go.Proofs.YthadgaboakipoaaGreatDoor
open Go.RowKit Go.Shelf Go.Proofs
set_option maxRecDepth 100000
set_option maxHeartbeats 1000000

end Go.Proofs.YthadgaboakipoaaGreatDoor
namespace Go.Proofs.YthadgaboakipoaaGreatDoor
open Go.RowKit Go.Shelf Go.Proofs
set_option maxRecDepth 100000
set_option maxHeartbeats 1000000

def RvIn (l r:List Tok) (i:Nat):Prop:=r.length=l.length∧∀ k,k<l.length→r[k]?=if k<i∨l.length≤k+i then l[l.length - 1 - k]? else l[k]?
theorem RvIn.zero (l:List Tok):RvIn l l 0:=⟨rfl,fun k hk=>by rw [if_neg (by omega)]⟩
theorem RvIn.step {l r:List Tok} {i:Nat} (h:RvIn l r i) (hi:2 * i+1<l.length):RvIn l ((r.set i (tkA r (l.length - 1 - i))).set (l.length - 1 - i) (tkA r i)) (i+1):=by
 obtain⟨h1,h2⟩:=h
 have e1:r[l.length - 1 - i]?=l[l.length - 1 - i]?:=by rw [h2 _ (by omega),if_neg (by omega)]
 have e2:r[i]?=l[i]?:=by rw [h2 _ (by omega),if_neg (by omega)]
 refine ⟨by simp [h1],fun k hk=>?_⟩
 rw [List.getElem?_set,List.getElem?_set,List.length_set]
 by_cases hk1:l.length - 1 - i=k
 ·rw [if_pos hk1,if_pos (by omega),if_pos (by omega),show l.length - 1 - k=i by omega, ← e2,tkA_get (by omega)]
 ·rw [if_neg hk1]
  by_cases hk2:i=k
  ·subst hk2
   rw [if_pos rfl,if_pos (by omega),if_pos (by omega), ← e1,tkA_get (by omega)]
  ·rw [if_neg hk2,h2 k hk]
   by_cases h3:k<i∨l.length≤k+i
   ·rw [if_pos h3,if_pos (by omega)]
   ·rw [if_neg h3,if_neg (by omega)]
theorem RvIn.all {l r:List Tok} {i:Nat} (h:RvIn l r i) (hi:l.length≤2 * i+1):r=l.reverse:=by
 obtain⟨h1,h2⟩:=h
 apply List.ext_getElem?
 intro k
 by_cases hk:k<l.length
 ·rw [h2 k hk,List.getElem?_reverse hk]
  split
  ·rfl
  ·rw [show l.length - 1 - k=k by omega]
 ·rw [List.getElem?_eq_none (by omega),List.getElem?_eq_none (by simp;omega)]
end Go.Proofs.YthadgaboakipoaaGreatDoor
namespace Go.Proofs.YthadgaboakipoaaGreatDoor
open Go.RowKit Go.Shelf Go.Proofs
set_option maxRecDepth 100000
set_option maxHeartbeats 1000000

end Go.Proofs.YthadgaboakipoaaGreatDoor
namespace Go.Proofs.YthadgaboakipoaaGreatDoor
open Go.RowKit Go.Shelf Go.Proofs
set_option maxRecDepth 100000
set_option maxHeartbeats 1000000

def RvS (l r:List TS) (i:Nat):Prop:=r.length=l.length∧∀ k,k<l.length→r[k]?=if k<i∨l.length≤k+i then l[l.length - 1 - k]? else l[k]?
theorem RvS.zero (l:List TS):RvS l l 0:=⟨rfl,fun k hk=>by rw [if_neg (by omega)]⟩
theorem tsA_get2 {l:List TS} {i:Nat} (h:i<l.length):l[i]?=some (tsA l i):=by unfold tsA;rw [List.getD_eq_getElem?_getD,List.getElem?_eq_getElem h];rfl
theorem RvS.step {l r:List TS} {i:Nat} (h:RvS l r i) (hi:2 * i+1<l.length):RvS l ((r.set i (tsA r (l.length - 1 - i))).set (l.length - 1 - i) (tsA r i)) (i+1):=by
 obtain⟨h1,h2⟩:=h
 have e1:r[l.length - 1 - i]?=l[l.length - 1 - i]?:=by rw [h2 _ (by omega),if_neg (by omega)]
 have e2:r[i]?=l[i]?:=by rw [h2 _ (by omega),if_neg (by omega)]
 refine ⟨by simp [h1],fun k hk=>?_⟩
 rw [List.getElem?_set,List.getElem?_set,List.length_set]
 by_cases hk1:l.length - 1 - i=k
 ·rw [if_pos hk1,if_pos (by omega),if_pos (by omega),show l.length - 1 - k=i by omega, ← e2,tsA_get2 (by omega)]
 ·rw [if_neg hk1]
  by_cases hk2:i=k
  ·subst hk2
   rw [if_pos rfl,if_pos (by omega),if_pos (by omega), ← e1,tsA_get2 (by omega)]
  ·rw [if_neg hk2,h2 k hk]
   by_cases h3:k<i∨l.length≤k+i
   ·rw [if_pos h3,if_pos (by omega)]
   ·rw [if_neg h3,if_neg (by omega)]
theorem RvS.all {l r:List TS} {i:Nat} (h:RvS l r i) (hi:l.length≤2 * i+1):r=l.reverse:=by
 obtain⟨h1,h2⟩:=h
 apply List.ext_getElem?
 intro k
 by_cases hk:k<l.length
 ·rw [h2 k hk,List.getElem?_reverse hk]
  split
  ·rfl
  ·rw [show l.length - 1 - k=k by omega]
 ·rw [List.getElem?_eq_none (by omega),List.getElem?_eq_none (by simp;omega)]
end Go.Proofs.YthadgaboakipoaaGreatDoor
namespace Go.Proofs.YthadgaboakipoaaGreatDoor
open Go.RowKit Go.Shelf Go.Proofs
set_option maxRecDepth 100000
set_option maxHeartbeats 1000000

theorem flat_one:∀ xs:List Value,xs.flatMap (fun v=>[v])=xs
 | []=>rfl
 | x::xs=>by rw [List.flatMap_cons,flat_one xs];rfl
theorem src_take1 {w:World} {A:Option Addr} {n:Nat} {xs:List Value} (hs:Src w 1 A n xs) (hi:Nat) (h:hi≤n):Src w 1 A hi (xs.take hi):=by
 have h9:=src_take (fun v:Value=>[v]) 1 (fun _=>rfl) (l:=xs) (by rw [flat_one];exact hs) (by have:=hs.1;omega) hi h
 rwa [flat_one] at h9
structure PS where
 A:Option Addr
 n:Nat
 cap:Nat
 vs:List Value
@[reducible] def PS.val (p:PS):Value := .slice p.A p.n p.cap
end Go.Proofs.YthadgaboakipoaaGreatDoor
namespace Go.Proofs.YthadgaboakipoaaGreatDoor
open Go.RowKit Go.Shelf Go.Proofs
set_option maxRecDepth 100000
set_option maxHeartbeats 1000000

end Go.Proofs.YthadgaboakipoaaGreatDoor
namespace Go.Proofs.YthadgaboakipoaaGreatDoor
open Go.RowKit Go.Shelf Go.Lib Go.Sort Go.Proofs
set_option maxRecDepth 100000
set_option maxHeartbeats 2000000
end Go.Proofs.YthadgaboakipoaaGreatDoor
namespace Go.Proofs.YthadgaboakipoaaGreatDoor
open Go.RowKit Go.Shelf Go.Proofs
set_option maxRecDepth 100000
set_option maxHeartbeats 1000000

theorem isNaN_spec (z:Int) (w:World):Spec Tryz.prog 188 [.int .i64 z] w (fun v R=>v = .bool false∧R=[]):=by
 refine spec_of sg Tryz.func188 rfl rfl rfl ?_
 repeat' (first|refine d1 ?_|refine dd ?_|(show ∀ _:Nat,T _ _ _ _ _;intro _)|(show T _ (.code .ret::_) _ _ _;refine T_retV [] rfl (Hle.none _) ⟨by simp;rfl,rfl⟩))
end Go.Proofs.YthadgaboakipoaaGreatDoor
namespace Go.Proofs.YthadgaboakipoaaGreatDoor
open Go.RowKit Go.Shelf
set_option maxRecDepth 100000
set_option maxHeartbeats 1000000

def YieldsO (P:Program) (w0:World) (l:Nat) (GP:Nat→List HA→Prop) (X:List HA→Prop) (Q:Nat→List Value→List HA→Prop) (n:Nat):Prop :=
 ∀ (j:Nat) (x:List Value) (B Hj K:List HA) (w:World),j<n→Q j x B→GP j Hj→Cls w0 w (Hj++(B++K)) →
  ∃ f tmps assign body,(Instr.yield l x.toArray).run P w = .ok (.round l f tmps assign body) w∧RoundIn (Fr none) 0 P l f tmps assign body w fun e w' =>
   (e = .returned (.bool true)∧∃ H',GP (j+1) H'∧Cls w0 w' (H'++K))∨(e = .returned (.bool false)∧∃ Y,X Y∧Cls w0 w' (Y++K))
theorem OpT.yieldO {S:Sig} {m:Nat} {w0:World} {fn:Func} {R:Ending→World→Prop} {all:Array Oper} {o:Oper} {env:Env} {ec:EnvC} {H:List HA} {d l j:Nat} {x:List Value} {G:GId} {Φ:Env→EnvC→List HA→Prop}
  {GP:Nat→List HA→Prop} {X:List HA→Prop} {Q:Nat→List Value→List HA→Prop} {n:Nat} {Hj:List HA} (B K:List HA)
  (hY:YieldsO S.P w0 l GP X Q n) (hg:gOf all env ec o=some G) (he:evYG env ec G o=some (l,x)) (hT:∀ a,Agrees ⟨m,[]⟩ all env ec a→Holds all a G) (hd:o.dst=some d) (hN:Nat.blt d m=true) (hs:safeC all d ec=true) (hj:j<n) (hQ:Q j x B) (hGP:GP j Hj) (hl:Hle H (Hj++(B++K)))
  (ht:∀ H',GP (j+1) H'→Φ ((d, .bool true)::env) ec (K++H'))
  (hf:∀ Y,X Y→Φ ((d, .bool false)::env) ec (K++Y)):OpT (IC S m w0 fn R) all o env ec H Φ:=by
 intro a w ha hw K' Q' hK
 have hH:=hT a ha
 have hwn:=(wanted_iff ha hg).2 hH
 refine ⟨fun _=>?_,fun hn=>(by rw [hwn] at hn;cases hn)⟩
 obtain⟨f,tmps,assign,body,hy,hr⟩:=hY j x B Hj K w hj hQ hGP (hw.le hl)
 have hdef:=gOf_def hg
 have hex:=evYG_spec ha hH he hy
 unfold Oper.wpIn
 refine ⟨about_Fr o _ w _,?_⟩
 rw [Oper.semAt_eq _ _ _ hdef,hex]
 refine ⟨fun h=>(by cases h),RoundIn.mono hr ?_⟩
 rintro e w' (⟨rfl,H',h1,h2⟩|⟨rfl,Y,h1,h2⟩)
 ·exact hK _ _ _ _ _ (ht H' h1) (by rw [hd];exact ha.put hN hs) (h2.le (Hle.comm _ _))
 ·exact hK _ _ _ _ _ (hf Y h1) (by rw [hd];exact ha.put hN hs) (h2.le (Hle.comm _ _))
end Go.Proofs.YthadgaboakipoaaGreatDoor
namespace Go.Proofs.YthadgaboakipoaaGreatDoor
open Go.RowKit Go.Shelf

instance (priority:=low) SubP.same (H:List HA):SubP H H:=⟨id,fun i B h=>h,fun i j _ _ h=>h⟩
inductive Pq:List HA→List HA→Prop where
 | nil (H:List HA):Pq H []
 | same (H:List HA):Pq H H
 | cons {A:HA} {H H' K:List HA} (h:Rm A H H') (k:Pq H' K):Pq H (A::K)
 | drop {A:HA} {H K:List HA} (k:Pq H K):Pq (A::H) K
theorem Pq.spec {H K:List HA} (h:Pq H K):PickP H K:=by
 induction h with
 | nil H=>exact PickP.nil H
 | same H=>exact⟨id,fun i B h=>h,fun i j _ _ h=>h⟩
 | cons h _ ih=>exact PickP.cons _ _ _ _ (h:=h.spec) (k:=ih)
 | drop _ ih =>
  obtain⟨p,h1,h2⟩:=ih.at_
  exact⟨fun i=>p i+1,fun i B hi=>by simpa using h1 i B hi,fun i j hi hj hne=>by have:=h2 i j hi hj hne;dsimp only;omega⟩
theorem Hle.srtV {H K:List HA} (h:Pq H K:=by repeat' (first|exact Pq.nil _|with_reducible exact Pq.same _|apply Pq.cons|with_reducible exact Rm.here|((with_reducible apply Rm.b);rfl)|((with_reducible apply Rm.r) <;> rfl)|apply Rm.there|apply Pq.drop)):Hle H K:=Hle.any (h:=h.spec)
end Go.Proofs.YthadgaboakipoaaGreatDoor
namespace Go.Proofs.YthadgaboakipoaaGreatDoor
open Go.RowKit Go.Shelf
set_option maxRecDepth 100000
set_option maxHeartbeats 1000000

def IterZ (P:Program) (w0:World) (f:FuncId) (fs cs:List Value) (cap:List HA) (Q:Nat→List Value→List HA→Prop) (n:Nat) (pz:Frag):Prop :=
 Enters P f∧∀ l GP X w Hj,(∀ j H,GP j H→Hle H [fz pz])→YieldsO P w0 l GP X Q n→GP 0 Hj→Cls w0 w (cap++Hj) →
  CallsIn (Fr none) 0 P f (fs++(yv l::cs)).toArray w (RIt w0 cap GP X n)
theorem iterZ_of (S : Sig) {w0 : World} {f : FuncId} {fn : Func} {c : Code} {fs cs : List Value} {cap : List HA} {Q : Nat → List Value → List HA → Prop} {n : Nat} {pz : Frag} (hf : S.P.funcs[f]? = some fn) (hn : (fn.name == "runtime.NumGoroutine") = false) (hb : fn.body = some c)
  (hlen:Nat.ble (fs.length+(1+cs.length)) fn.ntmps=true)
  (h:∀ l GP X Hj,(∀ j H,GP j H→Hle H [fz pz])→YieldsO S.P w0 l GP X Q n→GP 0 Hj→T (IC S fn.ntmps w0 fn (RIt w0 cap GP X n)) (nf 60 [.code c]) (zipE 0 (fs++(yv l::cs))) [] (cap++Hj)):IterZ S.P w0 f fs cs cap Q n pz:=by
 refine ⟨enters_of hf hn hb,fun l GP X w Hj hz hY h0 hw=>callsIn_of_wp_marks (n:=0) hf hb trivial ?_⟩
 generalize hargs:fs++(yv l::cs)=args
 have hlen':args.length≤fn.ntmps:=by
  have:=Nat.le_of_ble_eq_true hlen
  rw [← hargs];simp;omega
 have ha:Agrees ⟨fn.ntmps,[]⟩ (allOf (nf 60 [.code c])) (zipE 0 args) [] { tmps:=args.toArray++Array.replicate (fn.ntmps - args.toArray.size) undef,defers:=[] }:=by
  refine ⟨rfl,by simp;omega,fun s v hv=>?_,fun _ _ _ h=>(by cases h),fun _ _ _ h=>(by cases h)⟩
  obtain⟨_,h2⟩:=zipE_spec args 0 s v hv
  simp only [Nat.sub_zero] at h2
  have hs:s<args.length:=(List.getElem?_eq_some_iff.1 h2).1
  simp [Array.getD_eq_getD_getElem?,Array.getElem?_append,hs]
  rw [List.getElem?_eq_getElem hs] at h2
  simpa using h2
 have h1:=h l GP X Hj hz hY h0
 rw [hargs] at h1
 have:=nf_spec (h1 _ _ ha hw)
 simp only [sem] at this
 refine wpIn_mono this fun e a w' q=>?_
 cases e <;> first|exact q|exact q.elim
theorem T_rangeZ {S:Sig} {m:Nat} {ds:List Deferred} {w0:World} {fn:Func} {Φ:Value→List HA→Prop} {g:Operand} {ps:Array Tmp} {assign body:Code} {k:List It} {env:Env} {ec:EnvC} {H:List HA}
  {f:FuncId} {fs cs:List Value} {cap:List HA} {Q:Nat→List Value→List HA→Prop} {n:Nat} {pz:Frag} (hit:IterZ S.P w0 f fs cs cap Q n pz)
  (hg:evX env [] [] g=some (.func (.func f) fs.toArray cs.toArray)) (hps:∀ (j:Nat) (x:List Value) (B:List HA),j<n→Q j x B→x.length=ps.size∧inP m (ps.toList.zip x)=true)
  (GP:Nat→List HA→Prop) (XR:List HA→Prop) (XE:Nat→List HA→Prop) (H0:List HA) (hz:∀ j H,GP j H→Hle H [fz pz]) (h0:GP 0 H0) (hH:Hle H (cap++H0))
  (hround:∀ (L:Nat) (r:Loop) (j:Nat) (x:List Value) (B Hj K:List HA),r.state = .ready→j<n→Q j x B→GP j Hj→T (RA (RC S m w0 L (busy r) GP XR XE j K) L body) (nf 60 [.code assign]) (envP (ps.toList.zip x) env) [] (lrec L r::(Hj++(B++K))))
  (hn:∀ D Hn,GP n Hn→T (FC S m (mkD D::ds) w0 fn Φ) (nf 60 k) env [] (dfr D::(cap++Hn)))
  (hret:∀ D Hx,XR Hx→T (FC S m (mkD D::ds) w0 fn Φ) (.code .ret::k) env [] (dfr D::(cap++Hx)))
  (hex:∀ D id Hx,XE id Hx→T (FC S m (mkD D::ds) w0 fn Φ) (nf 60 (.code (.exit id)::k)) env [] (dfr D::(cap++Hx))) :
  T (FC S m ds w0 fn Φ) (.code (.rangeFunc g ps assign body)::k) env ec H:=by
 refine T.mk fun a w ha hw=>?_
 have ha0:Agrees ⟨m,ds⟩ #[] env [] a:=ha.plain
 replace hw:=Cls.le hw hH
 refine wpIn_rangeFunc fun fn' _=>?_
 -- the two blocks
 have hw1:=(hw.alloc (.deferred (some [])) (A:=dfr w.heap.size) rfl)
 have hsz:(w.alloc (.deferred (some []))).heap.size=w.heap.size+1:=World.size_alloc _ _
 generalize hD:w.heap.size=D at hw1 hsz
 generalize hr0:({ state := .ready,pending:=none,fn:=fn',tmps:=a.tmps,params:=ps,assign,body,defers:=D }:Loop)=r
 have hrdy:r.state = .ready:=by rw [← hr0]
 have hpd:r.pending=none:=by rw [← hr0]
 have hw2:=(hw1.alloc (.loop r) (A:=lrec (D+1) r) (by rw [hsz];rfl))
 have hen:=run_enterLoop_outer (P:=S.P) (w:=w) fn' a.tmps ps assign body
 rw [hD,hr0] at hen
 have hgv:=evX_spec (all := #[]) ha0 (Holds.nil _ _) hg
 have hargs:(fs.toArray ++ #[yv (D+1)]++cs.toArray)=(fs++(yv (D+1)::cs)).toArray:=Array.ext' (by simp)
 refine ⟨D+1,[mkD D],_,⟨.fn (.func f) cs.toArray,fs.toArray ++ #[yv (D+1)]⟩,(w.alloc (.deferred (some []))).alloc (.loop r),f,(fs++(yv (D+1)::cs)).toArray,(w.alloc (.deferred (some []))).alloc (.loop r),hen,?_,fun _ _=>trivial,?_,fun h=>(by cases h),?_⟩
 ·simp [resolve,hgv,Deferred.ofValue,yv]
  rfl
 ·have:=hit.1 (fs++(yv (D+1)::cs)).toArray ((w.alloc (.deferred (some []))).alloc (.loop r))
  rw [← hargs] at this ⊢
  simpa [invoke] using this
 · -- the rounds
  have hYd:YieldsO S.P w0 (D+1) (fun j H'=>∃ Hj,H'=lrec (D+1) r::dfr D::Hj∧GP j Hj) (fun Y=>∃ Hx jump,Y=lrec (D+1) { r with state := .done,pending:=some jump }::dfr D::Hx∧((jump = .ret∧XR Hx)∨∃ id,jump = .exit id∧XE id Hx)) Q n:=by
   rintro j x B _ K w1 hj hQ ⟨Hj,rfl,hGj⟩ hc
   have hL:=(hc.obj (i:=0) rfl).1
   obtain⟨hxl,hin⟩:=hps j x B hj hQ
   have hy:=run_yield (P:=S.P) (args:=x.toArray) hL (by rw [← hr0];simp [hxl])
   refine ⟨_,_,_,_,hy,roundIn_of_wpIn trivial ?_⟩
   have hc':Cls w0 w1 (lrec (D+1) r::(Hj++(B++(dfr D::K)))):=hc.le (Hle.perm (.cons _ (by
    have h1:=(List.perm_middle (a:=dfr D) (l₁:=Hj++B) (l₂:=K)).symm
    rw [List.append_assoc,List.append_assoc] at h1
    exact h1)))
   have hT:=hround (D+1) r j x B Hj (dfr D::K) hrdy hj hQ hGj
   have hag:Agrees ⟨m,[]⟩ #[] env [] { tmps:=r.tmps,defers:=[] }:=by
    rw [← hr0]
    exact⟨rfl,ha0.size,ha0.at_,fun _ _ _ h=>(by cases h),fun _ _ _ h=>(by cases h)⟩
   have hag2:=Agrees.putAll (N:=⟨m,[]⟩) (l:=ps.toList.zip x) hin hag
   have htm:(r.params.zip x.toArray).foldl (fun tmps (p:Tmp × Value)=>tmps.setIfInBounds p.1 p.2) r.tmps=(ps.toList.zip x).foldl (fun tmps (p:Nat × Value)=>tmps.setIfInBounds p.1 p.2) r.tmps:=by
    rw [← hr0, ← Array.foldl_toList,Array.toList_zip]
   rw [htm]
   have h1:=nf_spec (hT _ w1 ⟨hag2.defers,hag2.size,hag2.at_,fun _ _ _ h=>(by cases h),fun _ _ _ h=>(by cases h)⟩ hc')
   simp only [sem] at h1
   have hra:r.assign=assign:=by rw [← hr0]
   have hrb:r.body=body:=by rw [← hr0]
   rw [← hra, ← hrb] at h1
   refine wpIn_mono (F:=Fr (some (D+1))) h1 fun e a1 w2 q=>?_
   cases e <;> first|exact q.elim|skip
   obtain⟨w3,hb,hbody⟩:=q
   refine ⟨w3,hb,wpIn_mono hbody fun e a2 w4 q=>?_⟩
   have fin:∀ H':List HA,Cls w0 w4 (lrec (D+1) (busy r)::(H'++(dfr D::K)))→∀ jump,∃ w',(Instr.endRound (D+1) jump).run S.P w4 = .ok (.bool jump.isNone) w'∧Cls w0 w' (lrec (D+1) { r with state:=if jump.isNone then .ready else .done,pending:=jump }::dfr D::(H'++K)):=by
    intro H' hcl jump
    have hL4:=(hcl.obj (i:=0) rfl).1
    refine ⟨_,run_endRound jump hL4,?_⟩
    have:=hcl.putObj (i:=0) rfl (.loop { r with state:=if jump.isNone then .ready else .done,pending:=jump })
    exact this.le (Hle.perm ((List.perm_middle (a:=dfr D) (l₁:=H') (l₂:=K)).cons _))
   cases e with
   | normal =>
    obtain⟨H',g1,g2⟩:=q
    obtain⟨w',e1,e2⟩:=fin H' g2 none
    refine ⟨_,w',e1, .inl ⟨rfl,_,⟨H',rfl,g1⟩,?_⟩⟩
    have er:({ r with state := .ready,pending:=none }:Loop)=r:=by rw [← hr0]
    simp only [Option.isNone_none,if_true] at e2
    rw [er] at e2
    exact e2
   | ret =>
    obtain⟨H',g1,g2⟩:=q
    obtain⟨w',e1,e2⟩:=fin H' g2 (some .ret)
    exact⟨_,w',e1, .inr ⟨rfl,_,⟨H', .ret,rfl, .inl ⟨rfl,g1⟩⟩,e2⟩⟩
   | exit id =>
    obtain⟨H',g1,g2⟩:=q
    obtain⟨w',e1,e2⟩:=fin H' g2 (some (.exit id))
    exact⟨_,w',e1, .inr ⟨rfl,_,⟨H', .exit id,rfl, .inr ⟨id,rfl,g1⟩⟩,e2⟩⟩
   | goto t=>exact q.elim
   | panic c=>exact q.elim
   | outgrown=>exact q.elim
  have hstart:Cls w0 ((w.alloc (.deferred (some []))).alloc (.loop r)) (cap++(lrec (D+1) r::dfr D::H0)):=by
   have h1:Cls w0 ((w.alloc (.deferred (some []))).alloc (.loop r)) (lrec (D+1) r::dfr D::(cap++H0)):=hw2
   exact h1.le (Hle.rot2 _ _ cap H0)
  have hcall:=hit.2 (D+1) _ _ _ _ (fun j H' ⟨Hj,e,hG⟩=>by subst e;exact (Hle.tail _ _).trans ((Hle.tail _ _).trans (hz j Hj hG))) hYd ⟨H0,rfl,h0⟩ hstart
  have hcall':CallsIn (Fr none) 0 S.P f (fs++(yv (D+1)::cs)).toArray ((w.alloc (.deferred (some []))).alloc (.loop r)) _:=hcall
  refine CallsIn.mono hcall' ?_
  rintro e w3 ⟨⟨v,rfl⟩,hend⟩
  have hsem:=sem_N (FC S m ds w0 fn Φ) ⟨m,mkD D::ds⟩ k
  have hag:∀ all,Agrees ⟨m,mkD D::ds⟩ all env [] { a with defers:=[mkD D]++a.defers }:=fun all =>
   ⟨by simp [ha0.defers],ha0.size,ha0.at_,fun _ _ _ h=>(by cases h),fun _ _ _ h=>(by cases h)⟩
  rcases hend with⟨_,⟨Hn,rfl,hGn⟩,hc⟩|⟨_,⟨Hx,jump,rfl,hj⟩,hc⟩
  ·have hc:=hc.le (Hle.unrot2 _ _ cap Hn)
   have hL:=(hc.obj (i:=0) rfl).1
   refine ⟨none,w3.putObj (D+1) (.loop { r with state := .exhausted }),(run_endLoop hL (by rw [hrdy];intro h;cases h)).trans (by rw [hpd]),?_⟩
   have hc2:=(hc.putObj (i:=0) rfl (.loop { r with state := .exhausted })).le (Hle.tail _ _)
   have:=nf_spec (hn D Hn hGn _ _ (hag _) hc2)
   show (sem (FC S m ds w0 fn Φ) k).1 _ _
   rw [← hsem]
   exact this
  ·have hc:=hc.le (Hle.unrot2 _ _ cap Hx)
   have hL:=(hc.obj (i:=0) rfl).1
   refine ⟨_,_,run_endLoop hL (by intro h;cases h),?_⟩
   have hc2:=(hc.putObj (i:=0) rfl (.loop { ({ r with state := .done,pending:=some jump }:Loop) with state := .exhausted })).le (Hle.tail _ _)
   rcases hj with⟨rfl,hX⟩|⟨id,rfl,hX⟩
   ·have:=hret D Hx hX _ _ (hag _) hc2
    have h9:(sem (FC S m (mkD D::ds) w0 fn Φ) (.code .ret::k)).1 _ _:=this
    simp only [sem] at h9
    have h10:sem (FC S m (mkD D::ds) w0 fn Φ) k=sem (FC S m ds w0 fn Φ) k:=hsem
    rw [h10] at h9
    exact h9
   ·have:=nf_spec (hex D id Hx hX _ _ (hag _) hc2)
    simp only [sem] at this
    have h10:sem (FC S m (mkD D::ds) w0 fn Φ) k=sem (FC S m ds w0 fn Φ) k:=hsem
    rw [h10] at this
    exact this

end Go.Proofs.YthadgaboakipoaaGreatDoor
namespace Go.Proofs.YthadgaboakipoaaGreatDoor
open Go.RowKit Go.Shelf Go.Proofs
set_option maxRecDepth 100000
set_option maxHeartbeats 1000000

theorem valuesI_spec (A:Option Addr) (n c:Nat) (w:World):Spec Tryz.prog 10 [.slice A n c] w (fun v R=>∃ b:Nat,True∧v = .func (.func 47) #[] #[.pointer (some ⟨b,0,none⟩)]∧R=[blk b [.slice A n c] 27]):=by
 refine spec_of sg Tryz.func10 rfl rfl rfl ?_
 repeat' (first|(show T _ (.ops _ (⟨_, .box _ _,_,_,_,_⟩::_)::_) _ _ _;refine T_op (OpT.box (cs:=[.slice A n c]) rfl rfl rfl rfl rfl rfl rfl (fun _=>?_)))|refine d1 ?_|refine dd ?_|(show ∀ _:Nat,T _ _ _ _ _;intro _)|(show T _ (.code .ret::_) _ _ _;refine T_retV _ rfl (Hle.refl _) ⟨_,trivial,rfl,rfl⟩))
theorem valuesI_iter {w0:World} {A:Option Addr} {n ca b1:Nat} {xs:List Int} (hb:RdC w0 b1 0 [.slice A n ca]) (hs:Src w0 1 A n (xs.map (Value.int .i64))) (hn:xs.length=n) (hnb:n≤1000000) :
  IterZ Tryz.prog w0 47 [] [.pointer (some ⟨b1,0,none⟩)] [] (fun j x B=>∃ z,xs[j]?=some z∧x=[.int .i64 z]∧B=[]) n (fun _=>none):=by
 refine iterZ_of sg Tryz.func47 rfl rfl rfl ?_
 intro l' GQ X Hj hz hY h0
 show T _ _ _ _ Hj
 repeat' (first|refine d1 ?_|refine dd ?_|(show T _ (.ops _ (_::_)::_) _ _ _;first|refine T_val rfl (Val.load rfl (fun hg=>rdOld hb)) rfl rfl rfl ?_|refine T_valC rfl (Val.load rfl (fun hg=>rdOld hb)) rfl rfl rfl rfl rfl ?_)|(show T _ (.run _ _ (_::_) _ _::_) _ _ _;first|refine rv rfl rfl rfl (Val.load rfl (fun hg=>rdOld hb)) rfl rfl rfl ?_|refine rg rfl rfl rfl (Val.load rfl (fun hg=>rdOld hb)) rfl rfl rfl rfl rfl ?_)|(show ∀ _:Nat,T _ _ _ _ _;intro _))
 refine T_loopX (fun s:Nat × List HA=>[(7, .int .i64 (s.1:Nat))]) (fun s=>s.2) (fun s=>s.1≤n∧GQ s.1 s.2) (fun s=>n - s.1) (0,Hj) ⟨Nat.zero_le _,h0⟩ ?_
 rintro⟨i,H1⟩ ⟨hi,hG⟩
 dsimp only at hi hG ⊢
 repeat' (first|refine d1 ?_|refine dd ?_|(show ∀ _:Nat,T _ _ _ _ _;intro _))
 refine T_if rfl (fun h=>?_) (fun h=>?_)
 ·simp only [decide_eq_true_eq] at h
  obtain⟨z,hz9⟩:∃ z,xs[i]?=some z:=⟨_,List.getElem?_eq_getElem (by omega)⟩
  obtain⟨b,o,rfl⟩:=hs.base (by omega)
  have hr:=src_int hs (k:=i) (by omega) hz9
  repeat' (first|refine d1 ?_|refine dd ?_|(show T _ (.ops _ (_::_)::_) _ _ _;first|refine T_val rfl (Val.load rfl (fun hg=>rdOld hr)) rfl rfl rfl ?_|refine T_valC rfl (Val.load rfl (fun hg=>rdOld hr)) rfl rfl rfl rfl rfl ?_|refine T_op (OpT.yieldO [] [] hY rfl rfl (fun _ _=>Holds.nil _ _) rfl rfl rfl (show i<n by omega) ⟨z,hz9,rfl,rfl⟩ hG (by show Hle H1 (H1++[]);rw [List.append_nil];exact Hle.refl _) (fun H2 hG2=>?_) (fun Y hX=>?_)))|(show T _ (.run _ _ (_::_) _ _::_) _ _ _;first|refine rv rfl rfl rfl (Val.load rfl (fun hg=>rdOld hr)) rfl rfl rfl ?_|refine rg rfl rfl rfl (Val.load rfl (fun hg=>rdOld hr)) rfl rfl rfl rfl rfl ?_)|(show ∀ _:Nat,T _ _ _ _ _;intro _))
  ·show T _ _ _ _ H2
   repeat' (first|refine d1 ?_|refine dd ?_|(show ∀ _:Nat,T _ _ _ _ _;intro _))
   refine T_if rfl (fun h3=>by exfalso;simp at h3) (fun _=>?_)
   repeat' (first|refine d1 ?_|refine dd ?_|(show ∀ _:Nat,T _ _ _ _ _;intro _))
   exact T_backX (i+1,H2) ⟨by dsimp only;omega,hG2⟩ (by dsimp only;omega)
  ·show T _ _ _ _ Y
   repeat' (first|refine d1 ?_|refine dd ?_|(show ∀ _:Nat,T _ _ _ _ _;intro _))
   refine T_if rfl (fun _=>?_) (fun h3=>by exfalso;simp at h3)
   repeat' (first|refine d1 ?_|refine dd ?_|(show ∀ _:Nat,T _ _ _ _ _;intro _)|(show T _ (.code .ret::_) _ _ _;refine T_istop rfl Y hX (Hle.refl _)))
 ·simp only [decide_eq_false_iff_not] at h
  obtain rfl:i=n:=by omega
  repeat' (first|refine d1 ?_|refine dd ?_|(show ∀ _:Nat,T _ _ _ _ _;intro _))
  exact T_ifall rfl H1 hG (Hle.refl _)
theorem appendSeqI_spec (A:Option Addr) (n ca b1:Nat) (xs:List Int) (w:World) (hb:RdC w b1 0 [.slice A n ca]) (hs:Src w 1 A n (xs.map (Value.int .i64))) (hn:xs.length=n) (hnb:n≤1000000) :
  Spec Tryz.prog 95 [.slice none 0 0, .func (.func 47) #[] #[.pointer (some ⟨b1,0,none⟩)]] w (fun v R=>∃ x:Option Addr × Nat,True∧v = .slice x.1 n x.2∧R=[row 3 1 x.1 x.2 n (xs.map (Value.int .i64))]):=by
 refine spec_of sg Tryz.func95 rfl rfl rfl ?_
 repeat' (first|(show T _ (.ops _ (⟨_, .box _ _,_,_,_,_⟩::_)::_) _ _ _;refine T_op (OpT.box (cs:=[.slice none 0 0]) rfl rfl rfl rfl rfl rfl rfl (fun _=>?_)))|refine d1 ?_|refine dd ?_|(show ∀ _:Nat,T _ _ _ _ _;intro _))
 rename_i p2
 refine T_nilrow 3 1 ?_
 refine T_rangeZ (valuesI_iter hb hs hn hnb) rfl (fun j x B hj hQ=>by obtain⟨z,_,rfl,rfl⟩:=hQ;exact⟨rfl,rfl⟩)
  (fun j H=>∃ x:Option Addr × Nat,H=[blk p2 [.slice x.1 j x.2] 27,row 3 1 x.1 x.2 j ((xs.take j).map (Value.int .i64))]) (fun _=>False) (fun _ _=>False) [blk p2 [.slice none 0 0] 27,row 3 1 none 0 0 []] (fun _ _ _=>(hle_unit (B:=fz (fun _=>none)) rfl).trans (Hle.nth 0 rfl)) ⟨(none,0),rfl⟩ Hle.srtV ?_ ?_ (fun _ _ h=>h.elim) (fun _ _ _ h=>h.elim)
 ·rintro Lp r5 j x B Hj K2 hr5 hj hQ ⟨⟨A',c'⟩,rfl⟩
  obtain⟨z,hz,rfl,rfl⟩:=hQ
  have htk:=take_snoc _ _ _ hz
  have hjl:(xs.take j).length=j:=by rw [List.length_take];omega
  show T _ _ ((7, .int .i64 z)::_) _ (lrec Lp r5::blk p2 [.slice A' j c'] 27::row 3 1 A' c' j ((xs.take j).map (Value.int .i64))::K2)
  repeat' (first|refine d1 ?_|refine dd ?_|(show ∀ _:Nat,T _ _ _ _ _;intro _))
  refine T_begin hr5 rfl ?_
  repeat' (first|refine d1 ?_|refine dd ?_|(show T _ (.ops _ (_::_)::_) _ _ _;refine T_op (OpT.append (A:=A') rfl rfl rfl rfl rfl rfl rfl rfl rfl rfl (fun w hw=>Src.own hw rfl) rfl (by dsimp only;omega) (by omega) (fun A2 c2 hA2=>?_)))|(show ∀ _:Nat,T _ _ _ _ _;intro _))
  rename_i b3
  refine T_next [blk p2 [.slice A2 (j+1) c2] 27,row 3 1 A2 c2 (j+1) ((xs.take (j+1)).map (Value.int .i64))] ⟨(A2,c2),rfl⟩ ?_
  rw [htk,List.map_append]
  exact Hle.tail _ _
 ·rintro D Hn ⟨⟨A',c'⟩,rfl⟩
  rw [List.take_of_length_le (by omega)]
  show T _ _ _ _ (dfr D::blk p2 [.slice A' n c'] 27::row 3 1 A' c' n (xs.map (Value.int .i64))::[])
  repeat' (first|refine d1 ?_|refine dd ?_|(show ∀ _:Nat,T _ _ _ _ _;intro _))
  exact T_retD (H':=[row 3 1 A' c' n (xs.map (Value.int .i64))]) (Hle.srtV (K:=dfr D::[row 3 1 A' c' n (xs.map (Value.int .i64))])) (rf_V (vs:=[.slice A' n c']) _ rfl (Hle.refl _) ⟨(A',c'),trivial,rfl,rfl⟩)
theorem collectI_spec (A:Option Addr) (n ca b1:Nat) (xs:List Int) (w:World) (hb:RdC w b1 0 [.slice A n ca]) (hs:Src w 1 A n (xs.map (Value.int .i64))) (hn:xs.length=n) (hnb:n≤1000000) :
  Spec Tryz.prog 45 [.func (.func 47) #[] #[.pointer (some ⟨b1,0,none⟩)]] w (fun v R=>∃ x:Option Addr × Nat,True∧v = .slice x.1 n x.2∧R=[row 3 1 x.1 x.2 n (xs.map (Value.int .i64))]):=by
 refine spec_of sg Tryz.func45 rfl rfl rfl ?_
 repeat' (first|refine d1 ?_|refine dd ?_|(show T _ (.ops _ (_::_)::_) _ _ _;refine T_op (OpT.call rfl rfl rfl rfl rfl (fun w hw=>appendSeqI_spec A n ca b1 xs w (rdOld hb w hw) (rdSrc hs w hw) hn hnb) ?_))|(show ∀ _:Nat,T _ _ _ _ _;intro _))
 rintro v R ⟨⟨A',c'⟩,-,rfl,rfl⟩
 repeat' (first|refine d1 ?_|refine dd ?_|(show ∀ _:Nat,T _ _ _ _ _;intro _)|(show T _ (.code .ret::_) _ _ _;refine T_retV _ rfl (Hle.refl _) ⟨(A',c'),trivial,rfl,rfl⟩))
theorem len64_spec (n:Nat) (hn:n≤4) (w:World):Spec Tryz.prog 147 [.int .u64 (n:Nat)] w (fun v R=>∃ z:Int,(0≤z∧z≤300)∧v = .int .i64 z∧R=[]):=by
 refine spec_of sg Tryz.func147 rfl rfl rfl ?_
 repeat' (first|refine d1 ?_|refine dd ?_|(show ∀ _:Nat,T _ _ _ _ _;intro _))
 refine T_if rfl (fun h=>by exfalso;simp at h;omega) (fun _=>?_)
 repeat' (first|refine d1 ?_|refine dd ?_|(show ∀ _:Nat,T _ _ _ _ _;intro _))
 refine T_if rfl (fun h=>by exfalso;simp at h;omega) (fun _=>?_)
 repeat' (first|refine d1 ?_|refine dd ?_|(show ∀ _:Nat,T _ _ _ _ _;intro _))
 refine T_if rfl (fun h=>by exfalso;simp at h;omega) (fun _=>?_)
 repeat' (first|refine d1 ?_|refine dd ?_|(show ∀ _:Nat,T _ _ _ _ _;intro _))
 refine T_val rfl (Val.vc rfl (fun _=>⟨by omega,Int.lt_of_le_of_lt (show (n:Int)≤4 by omega) (by decide +kernel)⟩)) rfl rfl rfl ?_
 generalize byteAt _ _=u
 have hu:=UInt8.toNat_lt u
 repeat' (first|refine d1 ?_|refine dd ?_|(show ∀ _:Nat,T _ _ _ _ _;intro _)|(show T _ (.code .ret::_) _ _ _;refine T_retV _ rfl (Hle.refl _) ⟨_,?_,rfl,rfl⟩))
 omega
end Go.Proofs.YthadgaboakipoaaGreatDoor
namespace Go.Proofs.YthadgaboakipoaaGreatDoor
open Go.RowKit Go.Shelf Go.Proofs
set_option maxRecDepth 100000
set_option maxHeartbeats 1000000

theorem lessI_spec (a b:Int) (w:World):Spec Tryz.prog 143 [.int .i64 a, .int .i64 b] w (fun v R=>v = .bool (decide (a<b))∧R=[]):=by
 refine spec_of sg Tryz.func143 rfl rfl rfl ?_
 repeat' (first|refine d1 ?_|refine dd ?_|(show T _ (.ops _ (_::_)::_) _ _ _;first|refine T_call rfl rfl rfl rfl rfl (fun w hw=>isNaN_spec a w) ?_|refine T_callC rfl rfl rfl rfl rfl rfl rfl (fun hg w hw=>isNaN_spec a w) ?_|refine T_call rfl rfl rfl rfl rfl (fun w hw=>isNaN_spec b w) ?_|refine T_callC rfl rfl rfl rfl rfl rfl rfl (fun hg w hw=>isNaN_spec b w) ?_|refine T_op (OpT.never (.bool false) rfl (fun hg9=>by have h10:(false:Bool)=true:=hg9.1;cases h10) rfl rfl rfl rfl rfl ?_))|(show T _ (.run _ _ (_::_) _ _::_) _ _ _;first|refine rc rfl rfl rfl rfl rfl rfl rfl (fun w hw=>isNaN_spec a w) ?_|refine rcG rfl rfl rfl rfl rfl rfl rfl rfl rfl (fun hg w hw=>isNaN_spec a w) ?_|refine rc rfl rfl rfl rfl rfl rfl rfl (fun w hw=>isNaN_spec b w) ?_|refine rcG rfl rfl rfl rfl rfl rfl rfl rfl rfl (fun hg w hw=>isNaN_spec b w) ?_)|(show ∀ _:Nat,T _ _ _ _ _;intro _)|(show T _ (.code .ret::_) _ _ _;refine T_retV [] rfl (Hle.refl _) ⟨congrArg Value.bool ?_,rfl⟩))
 simp
theorem srt_step {zs:List Int} {i j:Nat} (hi:i<zs.length) (hj:j+1≤i) (h:∀ p q,p<q→q≤i→q≠j+1→zs.getD p 0≤zs.getD q 0) (hlt:zs.getD (j+1) 0<zs.getD j 0) :
  ∀ p q,p<q→q≤i→q≠j→((zs.set (j+1) (zs.getD j 0)).set j (zs.getD (j+1) 0)).getD p 0≤((zs.set (j+1) (zs.getD j 0)).set j (zs.getD (j+1) 0)).getD q 0:=by
 have e:∀ k,((zs.set (j+1) (zs.getD j 0)).set j (zs.getD (j+1) 0)).getD k 0=if k=j then zs.getD (j+1) 0 else if k=j+1 then zs.getD j 0 else zs.getD k 0:=fun k=>by
  by_cases h1:k=j
  ·subst h1
   rw [if_pos rfl,List.getD_eq_getElem?_getD,List.getElem?_set_self (by rw [List.length_set];omega)];rfl
  ·rw [if_neg h1,List.getD_eq_getElem?_getD,List.getElem?_set_ne (Ne.symm h1)]
   by_cases h2:k=j+1
   ·subst h2
    rw [if_pos rfl,List.getElem?_set_self (by omega)];rfl
   ·rw [if_neg h2,List.getElem?_set_ne (Ne.symm h2),List.getD_eq_getElem?_getD]
 intro p q hpq hqi hqj
 rw [e,e,if_neg hqj]
 by_cases h1:q=j+1
 ·rw [if_pos h1]
  by_cases h2:p=j
  ·rw [if_pos h2];omega
  ·rw [if_neg h2,if_neg (by omega)]
   exact h p j (by omega) (by omega) (by omega)
 ·rw [if_neg h1]
  by_cases h2:p=j
  ·rw [if_pos h2];exact h (j+1) q (by omega) hqi h1
  ·rw [if_neg h2]
   by_cases h3:p=j+1
   ·rw [if_pos h3];exact h j q (by omega) hqi h1
   ·rw [if_neg h3];exact h p q hpq hqi h1
theorem srt_end {zs:List Int} {i j:Nat} (hj:j≤i) (h:∀ p q,p<q→q≤i→q≠j→zs.getD p 0≤zs.getD q 0) (hx:j=0∨zs.getD (j - 1) 0≤zs.getD j 0):∀ p q,p<q→q<i+1→zs.getD p 0≤zs.getD q 0:=by
 intro p q hpq hq
 by_cases h1:q=j
 ·subst h1
  rcases hx with h2|h2
  ·omega
  ·by_cases h3:p=q - 1
   ·rw [h3];exact h2
   ·exact Int.le_trans (h p (q - 1) (by omega) (by omega) (by omega)) h2
 ·exact h p q hpq (by omega) h1
theorem swpI_perm {zs:List Int} {j:Nat} (hj:j+1<zs.length):((zs.set (j+1) (zs.getD j 0)).set j (zs.getD (j+1) 0)).Perm zs:=by
 have h:=@List.set_set_perm _ zs (j+1) j hj (by omega)
 rw [List.getD_eq_getElem?_getD,List.getD_eq_getElem?_getD,List.getElem?_eq_getElem hj,List.getElem?_eq_getElem (show j<zs.length by omega)]
 exact h
theorem setL_int {l:List Int} {off k:Nat} {z:Int} (h:off=k):setL (l.map (Value.int .i64)) off [.int .i64 z]=(l.set k z).map (Value.int .i64):=by
 subst h;rw [List.map_set];rfl
theorem getI_row {l:List Int} {off k:Nat} (h:off=k) (hk:k<l.length):∀ (j:Nat) u,[Value.int .i64 (l.getD k 0)][j]?=some u→(l.map (Value.int .i64))[off+j]?=some u:=fun j u hu=>by
 subst h
 rcases j with _|j
 ·cases hu
  rw [Nat.add_zero,List.getElem?_map,List.getElem?_eq_getElem hk,List.getD_eq_getElem?_getD,List.getElem?_eq_getElem hk];rfl
 ·simp at hu
theorem isort_spec (g c n:Nat) (xs:List Int) (w0:World) (K:List HA) (hl:xs.length=n) (h1:1≤n) (h12:n≤12) :
  SpecB Tryz.prog 137 [.slice (some ⟨g,0,none⟩) n c, .int .i64 0, .int .i64 (n:Nat)] w0 (row 3 1 (some ⟨g,0,none⟩) c n (xs.map (Value.int .i64))::K)
   (fun _ R=>∃ ys:List Int,(ys.Perm xs∧∀ p q,p<q→q<n→ys.getD p 0≤ys.getD q 0)∧R=row 3 1 (some ⟨g,0,none⟩) c n (ys.map (Value.int .i64))::K):=by
 refine specB_of sg Tryz.func137 rfl rfl rfl ?_
 repeat' (first|refine d1 ?_|refine dd ?_|(show ∀ _:Nat,T _ _ _ _ _;intro _))
 refine T_loopX (fun s:Nat × List Int=>[(6, .int .i64 (s.1:Nat))]) (fun s=>row 3 1 (some ⟨g,0,none⟩) c n (s.2.map (Value.int .i64))::K) (fun s=>(s.2.length=n∧s.2.Perm xs)∧(1≤s.1∧s.1≤n)∧∀ p q,p<q→q<s.1→s.2.getD p 0≤s.2.getD q 0) (fun s=>n - s.1) (1,xs) ⟨⟨hl,List.Perm.refl _⟩,⟨Nat.le_refl _,h1⟩,fun p q h2 h3=>by dsimp only at h3;omega⟩ ?_
 rintro⟨i,ys⟩ ⟨⟨hyl,hyp⟩,⟨hi1,hin⟩,hys⟩
 dsimp only at hyl hyp hi1 hin hys ⊢
 repeat' (first|refine d1 ?_|refine dd ?_|(show ∀ _:Nat,T _ _ _ _ _;intro _))
 refine T_if rfl (fun h3=>?_) (fun h3=>?_)
 ·simp only [decide_eq_true_eq] at h3
  have hi:i<n:=by omega
  repeat' (first|refine d1 ?_|refine dd ?_|(show ∀ _:Nat,T _ _ _ _ _;intro _))
  refine T_loopX (fun s:Nat × List Int=>[(7, .int .i64 (s.1:Nat))]) (fun s=>row 3 1 (some ⟨g,0,none⟩) c n (s.2.map (Value.int .i64))::K) (fun s=>(s.2.length=n∧s.2.Perm xs)∧s.1≤i∧∀ p q,p<q→q≤i→q≠s.1→s.2.getD p 0≤s.2.getD q 0) (fun s=>s.1) (i,ys) ⟨⟨hyl,hyp⟩,Nat.le_refl _,fun p q h4 h5 h6=>hys p q h4 (by dsimp only at h6;omega)⟩ ?_
  rintro⟨j,zs⟩ ⟨⟨hzl,hzp⟩,hji,hzs⟩
  dsimp only at hzl hzp hji hzs ⊢
  repeat' (first|refine d1 ?_|refine dd ?_|(show T _ (.ops _ (_::_)::_) _ _ _;first|refine T_val rfl (Val.load rfl (fun hg=>rdRow (A:=some ⟨g,0,none⟩) (vs:=[.int .i64 (zs.getD j 0)]) (by omega) (getI_row (by omega) (by omega)))) rfl rfl rfl ?_|refine T_valC rfl (Val.load rfl (fun hg=>rdRow (A:=some ⟨g,0,none⟩) (vs:=[.int .i64 (zs.getD j 0)]) (by omega) (getI_row (by omega) (by omega)))) rfl rfl rfl rfl rfl ?_|refine T_val rfl (Val.load rfl (fun hg=>rdRow (A:=some ⟨g,0,none⟩) (vs:=[.int .i64 (zs.getD (j - 1) 0)]) (by omega) (getI_row (by omega) (by omega)))) rfl rfl rfl ?_|refine T_valC rfl (Val.load rfl (fun hg=>rdRow (A:=some ⟨g,0,none⟩) (vs:=[.int .i64 (zs.getD (j - 1) 0)]) (by omega) (getI_row (by omega) (by omega)))) rfl rfl rfl rfl rfl ?_|refine T_call rfl rfl rfl rfl rfl (fun w hw=>lessI_spec (zs.getD j 0) (zs.getD (j - 1) 0) w) ?_|refine T_callC rfl rfl rfl rfl rfl rfl rfl (fun hg w hw=>lessI_spec (zs.getD j 0) (zs.getD (j - 1) 0) w) ?_)|(show T _ (.run _ _ (_::_) _ _::_) _ _ _;first|refine rv rfl rfl rfl (Val.load rfl (fun hg=>rdRow (A:=some ⟨g,0,none⟩) (vs:=[.int .i64 (zs.getD j 0)]) (by omega) (getI_row (by omega) (by omega)))) rfl rfl rfl ?_|refine rg rfl rfl rfl (Val.load rfl (fun hg=>rdRow (A:=some ⟨g,0,none⟩) (vs:=[.int .i64 (zs.getD j 0)]) (by omega) (getI_row (by omega) (by omega)))) rfl rfl rfl rfl rfl ?_|refine rv rfl rfl rfl (Val.load rfl (fun hg=>rdRow (A:=some ⟨g,0,none⟩) (vs:=[.int .i64 (zs.getD (j - 1) 0)]) (by omega) (getI_row (by omega) (by omega)))) rfl rfl rfl ?_|refine rg rfl rfl rfl (Val.load rfl (fun hg=>rdRow (A:=some ⟨g,0,none⟩) (vs:=[.int .i64 (zs.getD (j - 1) 0)]) (by omega) (getI_row (by omega) (by omega)))) rfl rfl rfl rfl rfl ?_|refine rc rfl rfl rfl rfl rfl rfl rfl (fun w hw=>lessI_spec (zs.getD j 0) (zs.getD (j - 1) 0) w) ?_|refine rcG rfl rfl rfl rfl rfl rfl rfl rfl rfl (fun hg w hw=>lessI_spec (zs.getD j 0) (zs.getD (j - 1) 0) w) ?_)|(show ∀ _:Nat,T _ _ _ _ _;intro _))
  refine T_if rfl (fun h4=>?_) (fun h4=>?_)
  ·simp only [Bool.and_eq_true,decide_eq_true_eq] at h4
   obtain⟨j,rfl⟩:∃ j',j=j'+1:=⟨j - 1,by omega⟩
   have hlt:zs.getD (j+1) 0<zs.getD j 0:=h4.2
   rw [Nat.add_sub_cancel] at *
   refine dw0 14 [row 3 1 (some ⟨g,0,none⟩) c n (zs.map (Value.int .i64))] ?_
   repeat' (first|(show T _ (.draw _ _ _ _ _::_) _ _ _;first|refine dw1 ?_|refine dwv rfl (by decide +kernel) rfl rfl (Val.load rfl (fun hg=>rdRow (A:=some ⟨g,0,none⟩) (vs:=[.int .i64 (zs.getD j 0)]) (by omega) (getI_row (by omega) (by omega)))) rfl rfl rfl ?_|refine dwg rfl (by decide +kernel) rfl rfl (Val.load rfl (fun hg=>rdRow (A:=some ⟨g,0,none⟩) (vs:=[.int .i64 (zs.getD j 0)]) (by omega) (getI_row (by omega) (by omega)))) rfl rfl rfl rfl rfl ?_|refine dwv rfl (by decide +kernel) rfl rfl (Val.load rfl (fun hg=>rdRow (A:=some ⟨g,0,none⟩) (vs:=[.int .i64 (zs.getD (j+1) 0)]) (by omega) (getI_row (by omega) (by omega)))) rfl rfl rfl ?_|refine dwg rfl (by decide +kernel) rfl rfl (Val.load rfl (fun hg=>rdRow (A:=some ⟨g,0,none⟩) (vs:=[.int .i64 (zs.getD (j+1) 0)]) (by omega) (getI_row (by omega) (by omega)))) rfl rfl rfl rfl rfl ?_|refine dwb rfl (by decide +kernel) ?_)|(show AllL _ [];exact True.intro)|(show AllL _ (_::_);refine ⟨?_,?_⟩)|(show OpT _ _ _ _ _ _ _;first|refine dwx ?_|refine OpT.ofVal rfl (Val.load rfl (fun hg=>rdRow (A:=some ⟨g,0,none⟩) (vs:=[.int .i64 (zs.getD j 0)]) (by omega) (getI_row (by omega) (by omega)))) rfl rfl rfl ⟨fun _=>(by first|exact Hle.none _|exact Hle.sub|exact absurd ‹_› (by decide +kernel)),?_⟩|refine OpT.ofVal rfl (Val.load rfl (fun hg=>rdRow (A:=some ⟨g,0,none⟩) (vs:=[.int .i64 (zs.getD (j+1) 0)]) (by omega) (getI_row (by omega) (by omega)))) rfl rfl rfl ⟨fun _=>(by first|exact Hle.none _|exact Hle.sub|exact absurd ‹_› (by decide +kernel)),?_⟩|refine OpT.storeR rfl rfl rfl rfl rfl rfl (by show 0+((j+1:Nat):Int).toNat * 1+1≤n * 1;omega) ⟨fun _=>(by first|exact Hle.none _|exact Hle.sub|exact absurd ‹_› (by decide +kernel)),?_⟩|refine OpT.storeR rfl rfl rfl rfl rfl rfl (by show 0+(((j+1:Nat):Int) - 1).toNat * 1+1≤n * 1;omega) ⟨fun _=>(by first|exact Hle.none _|exact Hle.sub|exact absurd ‹_› (by decide +kernel)),?_⟩)|(show ∀ _:Nat,T _ _ _ _ _;intro _))
   refine T_le (H':=row 3 1 (some ⟨g,0,none⟩) c n (setL (setL (zs.map (Value.int .i64)) (0+((j+1:Nat):Int).toNat * 1) [.int .i64 (zs.getD j 0)]) (0+(((j+1:Nat):Int) - 1).toNat * 1) [.int .i64 (zs.getD (j+1) 0)])::K) (Hle.refl _) ?_
   rw [setL_int (k:=j+1) (by omega),setL_int (k:=j) (by omega)]
   repeat' (first|refine d1 ?_|refine dd ?_|(show ∀ _:Nat,T _ _ _ _ _;intro _))
   rw [show (((j+1:Nat):Int) - 1)=(j:Int) by omega]
   exact T_backX (j,(zs.set (j+1) (zs.getD j 0)).set j (zs.getD (j+1) 0)) ⟨⟨by dsimp only;rw [List.length_set,List.length_set];exact hzl,(swpI_perm (by omega)).trans hzp⟩,by dsimp only;omega,srt_step (by omega) (by omega) hzs hlt⟩ (by dsimp only;omega)
  ·have hx:j=0∨zs.getD (j - 1) 0≤zs.getD j 0:=by
    rcases Nat.eq_zero_or_pos j with h5|h5
    ·exact .inl h5
    ·refine .inr ?_
     simp only [Bool.and_eq_false_iff,decide_eq_false_iff_not] at h4
     omega
   repeat' (first|refine d1 ?_|refine dd ?_|(show ∀ _:Nat,T _ _ _ _ _;intro _))
   exact T_backX (i+1,zs) ⟨⟨hzl,hzp⟩,⟨by dsimp only;omega,by dsimp only;omega⟩,srt_end hji hzs hx⟩ (by dsimp only;omega)
 ·simp only [decide_eq_false_iff_not] at h3
  obtain rfl:i=n:=by omega
  repeat' (first|refine d1 ?_|refine dd ?_|(show ∀ _:Nat,T _ _ _ _ _;intro _))
  exact T_fallV (vs:=[]) _ rfl (Hle.refl _) ⟨ys,⟨hyp,hys⟩,rfl⟩
theorem pdq_spec (g c n:Nat) (z:Int) (xs:List Int) (w0:World) (K:List HA) (hl:xs.length=n) (h1:1≤n) (h12:n≤12) :
  SpecB Tryz.prog 96 [.slice (some ⟨g,0,none⟩) n c, .int .i64 0, .int .i64 (n:Nat), .int .i64 z] w0 (row 3 1 (some ⟨g,0,none⟩) c n (xs.map (Value.int .i64))::K)
   (fun _ R=>∃ ys:List Int,(ys.Perm xs∧∀ p q,p<q→q<n→ys.getD p 0≤ys.getD q 0)∧R=row 3 1 (some ⟨g,0,none⟩) c n (ys.map (Value.int .i64))::K):=by
 refine specB_of sg Tryz.func96 rfl rfl rfl ?_
 repeat' (first|refine d1 ?_|refine dd ?_|(show ∀ _:Nat,T _ _ _ _ _;intro _))
 refine T_loopX (fun _:Unit=>[]) (fun _=>row 3 1 (some ⟨g,0,none⟩) c n (xs.map (Value.int .i64))::K) (fun _=>True) (fun _=>0) () trivial ?_
 rintro - -
 repeat' (first|refine d1 ?_|refine dd ?_|(show ∀ _:Nat,T _ _ _ _ _;intro _))
 refine T_if rfl (fun _=>?_) (fun h=>by exfalso;simp at h;omega)
 repeat' (first|refine d1 ?_|refine dd ?_|(show T _ (.ops _ (_::_)::_) _ _ _;refine T_op (OpT.callB rfl rfl rfl rfl rfl (isort_spec g c n xs w0 K hl h1 h12) ?_))|(show ∀ _:Nat,T _ _ _ _ _;intro _))
 rintro u R ⟨ys,hys,rfl⟩
 repeat' (first|refine d1 ?_|refine dd ?_|(show ∀ _:Nat,T _ _ _ _ _;intro _))
 exact T_retV (vs:=[]) _ rfl (Hle.refl _) ⟨ys,hys,rfl⟩
theorem lenU_spec (n:Nat) (hn:n≤4) (w:World):Spec Tryz.prog 97 [.int .u64 (n:Nat)] w (fun v R=>∃ z:Int,(0≤z∧z≤300)∧v = .int .i64 z∧R=[]):=by
 refine spec_of sg Tryz.func97 rfl rfl rfl ?_
 repeat' (first|refine d1 ?_|refine dd ?_|(show ∀ _:Nat,T _ _ _ _ _;intro _))
 refine T_if rfl (fun h=>by cases h) (fun _=>?_)
 repeat' (first|refine d1 ?_|refine dd ?_|(show T _ (.ops _ (_::_)::_) _ _ _;refine T_op (OpT.call rfl rfl rfl rfl rfl (fun w hw=>len64_spec n hn w) ?_))|(show ∀ _:Nat,T _ _ _ _ _;intro _))
 rintro v R ⟨z,hz,rfl,rfl⟩
 repeat' (first|refine d1 ?_|refine dd ?_|(show ∀ _:Nat,T _ _ _ _ _;intro _)|(show T _ (.code .ret::_) _ _ _;refine T_retV _ rfl (Hle.refl _) ⟨z,hz,rfl,rfl⟩))
theorem sortI_spec (g c n:Nat) (xs:List Int) (w0:World) (K:List HA) (hl:xs.length=n) (h1:1≤n) (h4:n≤4) :
  SpecB Tryz.prog 46 [.slice (some ⟨g,0,none⟩) n c] w0 (row 3 1 (some ⟨g,0,none⟩) c n (xs.map (Value.int .i64))::K)
   (fun _ R=>∃ ys:List Int,(ys.Perm xs∧∀ p q,p<q→q<n→ys.getD p 0≤ys.getD q 0)∧R=row 3 1 (some ⟨g,0,none⟩) c n (ys.map (Value.int .i64))::K):=by
 refine specB_of sg Tryz.func46 rfl rfl rfl ?_
 repeat' (first|refine d1 ?_|refine dd ?_|(show T _ (.ops _ (_::_)::_) _ _ _;refine T_op (OpT.call rfl rfl rfl rfl rfl (fun w hw=>lenU_spec n h4 w) ?_))|(show ∀ _:Nat,T _ _ _ _ _;intro _))
 rintro v R ⟨z,hz,rfl,rfl⟩
 refine T_le (H':=row 3 1 (some ⟨g,0,none⟩) c n (xs.map (Value.int .i64))::K) (Hle.refl _) ?_
 repeat' (first|refine d1 ?_|refine dd ?_|(show T _ (.ops _ (_::_)::_) _ _ _;refine T_op (OpT.callB rfl rfl rfl rfl rfl (pdq_spec g c n z xs w0 K hl h1 (by omega)) ?_))|(show ∀ _:Nat,T _ _ _ _ _;intro _))
 rintro u R ⟨ys,hys,rfl⟩
 repeat' (first|refine d1 ?_|refine dd ?_|(show ∀ _:Nat,T _ _ _ _ _;intro _))
 exact T_fallV (vs:=[]) _ rfl (Hle.refl _) ⟨ys,hys,rfl⟩
theorem T_rowAt {C:Cx} {k:List It} {env:Env} {ec:EnvC} {H:List HA} {A:Option Addr} {e:TypeId} {sz cap n:Nat} {xs:List Value} (hn:0<n) (h:∀ g,A=some ⟨g,0,none⟩→T C k env ec (row e sz A cap n xs::H)):T C k env ec (row e sz A cap n xs::H):=by
 refine T.mk fun a w ha hw=>?_
 obtain⟨F,h1,h2,h3⟩:=hw.sep
 obtain⟨hl,hr⟩:=h1 0 _ rfl
 rcases hr with⟨e1,e2,e3,e4⟩|⟨b,cur,e1,_⟩
 ·omega
 ·exact (h b e1).go a w ha hw
theorem sortedI_spec (A:Option Addr) (n ca b1:Nat) (xs:List Int) (w:World) (hb:RdC w b1 0 [.slice A n ca]) (hs:Src w 1 A n (xs.map (Value.int .i64))) (hn:xs.length=n) (h1:1≤n) (h4:n≤4) :
  Spec Tryz.prog 9 [.func (.func 47) #[] #[.pointer (some ⟨b1,0,none⟩)]] w
   (fun v R=>∃ x:Nat × Nat × List Int,(x.2.2.Perm xs∧∀ p q,p<q→q<n→x.2.2.getD p 0≤x.2.2.getD q 0)∧v = .slice (some ⟨x.1,0,none⟩) n x.2.1∧R=[row 3 1 (some ⟨x.1,0,none⟩) x.2.1 n (x.2.2.map (Value.int .i64))]):=by
 refine spec_of sg Tryz.func9 rfl rfl rfl ?_
 repeat' (first|refine d1 ?_|refine dd ?_|(show T _ (.ops _ (_::_)::_) _ _ _;refine T_op (OpT.call rfl rfl rfl rfl rfl (fun w hw=>collectI_spec A n ca b1 xs w (rdOld hb w hw) (rdSrc hs w hw) hn (by omega)) ?_))|(show ∀ _:Nat,T _ _ _ _ _;intro _))
 rintro v R ⟨⟨A',c'⟩,-,rfl,rfl⟩
 refine T_le (H':=row 3 1 A' c' n (xs.map (Value.int .i64))::[]) (Hle.refl _) ?_
 refine T_rowAt (by omega) ?_
 rintro g rfl
 repeat' (first|refine d1 ?_|refine dd ?_|(show T _ (.ops _ (_::_)::_) _ _ _;refine T_op (OpT.callB rfl rfl rfl rfl rfl (sortI_spec g c' n xs w [] hn h1 h4) ?_))|(show ∀ _:Nat,T _ _ _ _ _;intro _))
 rintro u R ⟨ys,hys,rfl⟩
 repeat' (first|refine d1 ?_|refine dd ?_|(show ∀ _:Nat,T _ _ _ _ _;intro _)|(show T _ (.code .ret::_) _ _ _;refine T_retV _ rfl (Hle.refl _) ⟨(g,c',ys),hys,rfl,rfl⟩))
theorem isort0_spec (A:Option Addr) (c:Nat) (w0:World) (K:List HA) :
  SpecB Tryz.prog 137 [.slice A 0 c, .int .i64 0, .int .i64 0] w0 K (fun _ R=>R=K):=by
 refine specB_of sg Tryz.func137 rfl rfl rfl ?_
 repeat' (first|refine d1 ?_|refine dd ?_|(show ∀ _:Nat,T _ _ _ _ _;intro _))
 refine T_loopX (fun _:Unit=>[]) (fun _=>K) (fun _=>True) (fun _=>0) () trivial ?_
 rintro - -
 repeat' (first|refine d1 ?_|refine dd ?_|(show ∀ _:Nat,T _ _ _ _ _;intro _))
 refine T_if rfl (fun h=>by exfalso;simp at h) (fun _=>?_)
 repeat' (first|refine d1 ?_|refine dd ?_|(show ∀ _:Nat,T _ _ _ _ _;intro _))
 exact T_fallV (vs:=[]) _ rfl (Hle.refl _) rfl
theorem pdq0_spec (A:Option Addr) (c:Nat) (z:Int) (w0:World) (K:List HA) :
  SpecB Tryz.prog 96 [.slice A 0 c, .int .i64 0, .int .i64 0, .int .i64 z] w0 K (fun _ R=>R=K):=by
 refine specB_of sg Tryz.func96 rfl rfl rfl ?_
 repeat' (first|refine d1 ?_|refine dd ?_|(show ∀ _:Nat,T _ _ _ _ _;intro _))
 refine T_loopX (fun _:Unit=>[]) (fun _=>K) (fun _=>True) (fun _=>0) () trivial ?_
 rintro - -
 repeat' (first|refine d1 ?_|refine dd ?_|(show ∀ _:Nat,T _ _ _ _ _;intro _))
 refine T_if rfl (fun _=>?_) (fun h=>by exfalso;simp at h)
 repeat' (first|refine d1 ?_|refine dd ?_|(show T _ (.ops _ (_::_)::_) _ _ _;refine T_op (OpT.callB rfl rfl rfl rfl rfl (isort0_spec A c w0 K) ?_))|(show ∀ _:Nat,T _ _ _ _ _;intro _))
 rintro u R rfl
 repeat' (first|refine d1 ?_|refine dd ?_|(show ∀ _:Nat,T _ _ _ _ _;intro _))
 exact T_retV (vs:=[]) _ rfl (Hle.refl _) rfl
theorem sort0_spec (A:Option Addr) (c:Nat) (w0:World) (K:List HA):SpecB Tryz.prog 46 [.slice A 0 c] w0 K (fun _ R=>R=K):=by
 refine specB_of sg Tryz.func46 rfl rfl rfl ?_
 repeat' (first|refine d1 ?_|refine dd ?_|(show T _ (.ops _ (_::_)::_) _ _ _;refine T_op (OpT.call rfl rfl rfl rfl rfl (fun w hw=>lenU_spec 0 (by omega) w) ?_))|(show ∀ _:Nat,T _ _ _ _ _;intro _))
 rintro v R ⟨z,hz,rfl,rfl⟩
 refine T_le (H':=K) (Hle.refl _) ?_
 repeat' (first|refine d1 ?_|refine dd ?_|(show T _ (.ops _ (_::_)::_) _ _ _;refine T_op (OpT.callB rfl rfl rfl rfl rfl (pdq0_spec A c z w0 K) ?_))|(show ∀ _:Nat,T _ _ _ _ _;intro _))
 rintro u R rfl
 repeat' (first|refine d1 ?_|refine dd ?_|(show ∀ _:Nat,T _ _ _ _ _;intro _))
 exact T_fallV (vs:=[]) _ rfl (Hle.refl _) rfl
theorem sorted0_spec (A:Option Addr) (ca b1:Nat) (w:World) (hb:RdC w b1 0 [.slice A 0 ca]) (hs:Src w 1 A 0 []) :
  Spec Tryz.prog 9 [.func (.func 47) #[] #[.pointer (some ⟨b1,0,none⟩)]] w (fun v R=>∃ x:Option Addr × Nat,True∧v = .slice x.1 0 x.2∧R=[]):=by
 refine spec_of sg Tryz.func9 rfl rfl rfl ?_
 repeat' (first|refine d1 ?_|refine dd ?_|(show T _ (.ops _ (_::_)::_) _ _ _;refine T_op (OpT.call rfl rfl rfl rfl rfl (fun w hw=>collectI_spec A 0 ca b1 [] w (rdOld hb w hw) (rdSrc hs w hw) rfl (by omega)) ?_))|(show ∀ _:Nat,T _ _ _ _ _;intro _))
 rintro v R ⟨⟨A',c'⟩,-,rfl,rfl⟩
 refine T_le (H':=[]) (Hle.none _) ?_
 repeat' (first|refine d1 ?_|refine dd ?_|(show T _ (.ops _ (_::_)::_) _ _ _;refine T_op (OpT.callB rfl rfl rfl rfl rfl (sort0_spec A' c' w []) ?_))|(show ∀ _:Nat,T _ _ _ _ _;intro _))
 rintro u R rfl
 repeat' (first|refine d1 ?_|refine dd ?_|(show ∀ _:Nat,T _ _ _ _ _;intro _)|(show T _ (.code .ret::_) _ _ _;refine T_retV _ rfl (Hle.refl _) ⟨(A',c'),trivial,rfl,rfl⟩))
end Go.Proofs.YthadgaboakipoaaGreatDoor
