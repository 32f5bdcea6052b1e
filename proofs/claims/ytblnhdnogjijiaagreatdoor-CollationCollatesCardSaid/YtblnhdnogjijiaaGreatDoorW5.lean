/- Joined texts of this claim, part 5. -/
import Derived.Test.YtblnhdnogjijiaaGreatDoorW4
set_option linter.unusedSectionVars false
set_option linter.unusedVariables false
set_option linter.unusedSimpArgs false
namespace Go.Proofs.YtblnhdnogjijiaaGreatDoor
open Go.RowKit Go.Shelf Go.Proofs
set_option maxRecDepth 100000
set_option maxHeartbeats 1000000

def aln19 (c:Costs) (l:List TS):List (List Int) × Int × Int :=
 if usV c l≠0 then ([],0,usV c l) else if 4<l.length∨65536<volL (lens l) then ([],0,4) else (alnW c l,lstV c l,0)
theorem usV_ok {c:Costs} {l:List TS} (h:usV c l=0):1≤l.length∧costE c=0∧badS l=false:=by
 unfold usV at h
 by_cases h1:l.length=0
 ·rw [if_pos h1] at h;omega
 ·rw [if_neg h1] at h
  unfold ck21 at h
  by_cases h2:costE c=0∧badS l=false
  ·exact⟨by omega,h2⟩
  ·rw [if_neg h2] at h;omega
theorem rdAt {w:World} {b:Nat} {L:List Int} (h:RdC w b 0 (L.map (Value.int .i64))) {q off:Nat} {z:Int} (ho:off=q) (hz:L[q]?=some z):RdC w b off [.int .i64 z]:=by
 subst ho
 refine RdC.one ?_
 have:=h off _ (by rw [List.getElem?_map,hz];rfl)
 rw [Nat.zero_add] at this
 exact this
theorem stp_pos {ls m:List Nat} (h:m≠[]) (hm:∀ s∈m,s<ls.length):0<(m.map (stpL ls)).sum:=by
 cases m with
 | nil=>exact absurd rfl h
 | cons s m =>
  have:=stpL_pos (hm s (.head _))
  rw [List.map_cons,List.sum_cons];omega
theorem numL_zero:∀ (ls:List Nat) (n:Nat),numL ls (List.replicate n 0)=0
 | [],n=>by cases n <;> rfl
 | _::ls,0=>rfl
 | _::ls,n+1=>by
  show 0 * _+numL ls (List.replicate n 0)=0
  rw [numL_zero ls n];simp
theorem align19_spec (c:Costs) (A:Option Addr) (n ca:Nat) (l:List TS) (w:World) (hg:Grp w A n l) :
  Spec Tryz.prog 46 [c.val, .slice A n ca] w (fun v R=>∃ x:Value,True∧v = .tuple #[x, .int .i64 (aln19 c l).2.1, .int .i64 (aln19 c l).2.2]∧R=[dat [x] [rowsD (aln19 c l).1]]):=by
 have hn:=hg.hn
 have hll:=lens_len l
 have hb:=hg.hb
 refine spec_of sg Tryz.func46 rfl rfl rfl ?_
 refine T_op (OpT.box (cs:=c.cells) rfl rfl rfl rfl rfl rfl rfl (fun pc=>?_))
 refine T_op (OpT.box (cs:=[.slice A n ca]) rfl rfl rfl rfl rfl rfl rfl (fun pl=>?_))
 repeat' (first|refine d1 ?_|(show T _ (.ops _ (_::_)::_) _ _ _;refine T_call rfl rfl rfl rfl rfl (fun w hw=>usable19_spec c A n ca l w (hg.cls hw)) ?_)|fail)
 refine T_if rfl (fun h=>?_) (fun h=>?_)
 ·have h0:usV c l≠0:=by simpa using h
  unfold aln19
  rw [if_pos h0]
  repeat' (first|refine d1 ?_|(show T _ (.code .ret::_) _ _ _;refine T_retV _ rfl (nilC _ |>.trans (Hle.nth 0 rfl)) ⟨_,trivial,rfl,rfl⟩))
 have h0:usV c l=0:=by simpa using h
 obtain⟨h1,hc,hbs⟩:=usV_ok h0
 repeat' (first|refine d1 ?_|fail)
 refine T_callC rfl rfl rfl rfl rfl rfl rfl (fun _ w hw=>size19_spec A n ca l 65536 w (hg.cls hw) ⟨by omega,by omega⟩) ?_
 repeat' (first|refine d1 ?_|fail)
 refine T_if rfl (fun h2=>?_) (fun h2=>?_)
 ·have hbig:4<l.length∨65536<volL (lens l):=by
   unfold capV at h2
   simp only [Bool.or_eq_true,decide_eq_true_eq] at h2
   split at h2 <;> omega
  unfold aln19
  rw [if_neg (by simpa using h0),if_pos hbig]
  repeat' (first|refine d1 ?_|(show T _ (.code .ret::_) _ _ _;refine T_retV _ rfl (nilC _ |>.trans (Hle.nth 0 rfl)) ⟨_,trivial,rfl,rfl⟩))
 have hsm:l.length≤4∧volL (lens l)≤65536:=by
  unfold capV at h2
  simp only [Bool.or_eq_false_iff,decide_eq_false_iff_not] at h2
  split at h2 <;> omega
 have h4:n≤4:=by omega
 have hv:=hsm.2
 have hv0:volL ((lens l).drop 0)≤65536:=hv
 have ha:aln19 c l=(alnW c l,lstV c l,0):=by
  unfold aln19
  rw [if_neg (by simpa using h0),if_neg (by omega)]
 rw [ha]
 refine rsH [blk pl [.slice A n ca] 25,blk pc c.cells 23] 1000 [0,2,3,1,4,5,6] ?_
 repeat' (first|refine dd ?_|(show T _ (.run _ _ (_::_) _ _::_) _ _ _;refine ro rfl rfl (OpT.call rfl rfl rfl rfl rfl (fun w hw=>newGrid_spec A n ca l w (hg.cls hw) h4 hv) (fun u R hR=>?_)))|fail)
 obtain⟨pg,-,rfl,rfl⟩:=hR
 refine ⟨fun _=>Hle.tail _ _,?_⟩
 show T _ _ _ _ (blk pg (gridL A n ca (lens l) 0) 129::blk pl [.slice A n ca] 25::blk pc c.cells 23::[])
 repeat' (first|(show T _ (.run _ _ (_::_) _ _::_) _ _ _;refine ro rfl rfl (OpT.call rfl rfl rfl rfl rfl (fun w hw=>moves19_spec (n:Int) w) (fun xm R hR=>?_)))|fail)
 obtain⟨_,-,rfl,rfl⟩:=hR
 refine ⟨fun _=>(Hle.tail _ _).trans (Hle.tail _ _),?_⟩
 show T _ _ _ _ (dat [xm] [rowsD ((mvL n).map intN)]::blk pg (gridL A n ca (lens l) 0) 129::blk pl [.slice A n ca] 25::blk pc c.cells 23::[])
 refine T_open fun pm hM=>?_
 obtain⟨Am,cm,csm,rfl,-⟩:=hM.tab
 rw [List.length_map] at hM ⊢
 repeat' (first|refine d1 ?_|refine dd ?_|(show T _ (.ops _ (_::_)::_) _ _ _;first|refine T_val rfl (Val.nilc rfl) rfl rfl rfl ?_|refine T_op (OpT.make rfl rfl rfl rfl rfl rfl rfl rfl rfl (by dsimp only;omega) (fun b1=>?_)))|(show ∀ _:Nat,T _ _ _ _ _;intro _))
 rename_i p10 p11
 obtain⟨V,hV⟩:∃ V,V=volL (lens l):=⟨_,rfl⟩
 have hVd:volL ((lens l).drop 0)=V:=hV.symm
 have hVp:0<V:=by rw [hV];exact volL_pos _
 rw [hVd]
 have hall:=num_all (lens l)
 rw [← hV] at hall hv
 have hself:=at_num (InB.self (lens l))
 have hno:=mvL_ok (show 1≤n by omega) h4
 have hn4:l.length≤4:=by omega
 have hlsn:(lens l).length=n:=by omega
 obtain⟨F,hF⟩:∃ F:Nat→Int,F=fun q=>rsV (colZ c l) (lens l) (mvL n) (atL (lens l) q):=⟨_,rfl⟩
 have hFb:∀ q,0≤F q∧F q≤4096000000:=fun q=>by rw [hF];exact rsV_ub hc hn4 hg.nb _ _
 refine T_keep [(2, .pointer (some ⟨pc,0,none⟩)),(3, .pointer (some ⟨pl,0,none⟩)),(8, .pointer (some ⟨pg,0,none⟩)),(9, .slice Am (mvL n).length cm),(10, .pointer (some ⟨p10,0,none⟩)),(11, .pointer (some ⟨p11,0,none⟩))] ⟨rfl,rfl,rfl,rfl,rfl,rfl,trivial⟩ ?_
 refine T_le (H':=blk p11 [.int .i64 (((V - 1:Nat):Int) - 1)] 3::blk p10 [.slice (some ⟨b1,0,none⟩) V V] 47::blk b1 ((List.replicate V 0).map (Value.int .i64)) 3::fz pm::blk pg (gridL A n ca (lens l) 0) 129::blk pl [.slice A n ca] 25::blk pc c.cells 23::[]) ?_ ?_
 ·rw [show ((V - 1:Nat):Int) - 1=(V:Int) - 2 by omega,List.map_replicate]
  exact Hle.refl _
 show T (FC _ _ (([]:List Nat).map mkD) _ _ _) _ _ _ _
 refine T_loopDX (fun s:Nat × Nat × List Int × List Nat=>[(11, .pointer (some ⟨s.2.1,0,none⟩))]) (fun s=>blk s.2.1 [.int .i64 ((s.1:Int) - 1)] 3::blk p10 [.slice (some ⟨b1,0,none⟩) V V] 47::blk b1 ((s.2.2.1).map (Value.int .i64)) 3::fz pm::blk pg (gridL A n ca (lens l) 0) 129::blk pl [.slice A n ca] 25::blk pc c.cells 23::[]) (fun s=>s.2.2.2) (fun s=>s.1≤V - 1∧s.2.2.1.length=V∧∀ q,s.1≤q→q<V→s.2.2.1[q]?=some (F q)) (fun s=>s.1) (V - 1,p11,List.replicate V 0,[]) ⟨Nat.le_refl _,by simp,fun q h5 h6=>?_⟩ rfl ?_
 ·dsimp only at h5
  rw [show q=V - 1 by omega,hF]
  dsimp only
  rw [show V - 1=numL (lens l) (lens l) by omega,hself,rsV_end,List.getElem?_replicate,if_pos (by omega)]
 rintro⟨r,q11,L,Dl⟩ ⟨hr,hL,hLF⟩
 dsimp only at hr hL hLF ⊢
 refine T_le (H':=blk q11 [.int .i64 ((r:Int) - 1)] 3::blk p10 [.slice (some ⟨b1,0,none⟩) V V] 47::blk b1 ((L).map (Value.int .i64)) 3::fz pm::blk pg (gridL A n ca (lens l) 0) 129::blk pl [.slice A n ca] 25::blk pc c.cells 23::dfrs Dl) (Hle.refl _) ?_
 have hLm:(L.map (Value.int .i64)).length=V:=by rw [List.length_map,hL]
 rcases r with _|p
 ·repeat' (first|refine d1 ?_|fail)
  refine T_if rfl (fun h5=>by exfalso;simp at h5) (fun _=>?_)
  repeat' (first|refine d1 ?_|(show ∀ _:Nat,T _ _ _ _ _;intro _))
  rename_i p15 p16
  have hz0:numL (lens l) (List.replicate n 0)=0:=numL_zero _ _
  refine T_keep [(2, .pointer (some ⟨pc,0,none⟩)),(3, .pointer (some ⟨pl,0,none⟩)),(8, .pointer (some ⟨pg,0,none⟩)),(9, .slice Am (mvL n).length cm),(10, .pointer (some ⟨p10,0,none⟩)),(15, .pointer (some ⟨p15,0,none⟩)),(16, .pointer (some ⟨p16,0,none⟩))] ⟨rfl,rfl,rfl,rfl,rfl,rfl,rfl,trivial⟩ ?_
  refine T_le (H':=blk p16 [.int .i64 ((0:Nat):Int)] 3::blk p15 [.slice none 0 0] 30::blk p10 [.slice (some ⟨b1,0,none⟩) V V] 47::blk b1 (L.map (Value.int .i64)) 3::fz pm::blk pg (gridL A n ca (lens l) 0) 129::blk pl [.slice A n ca] 25::blk pc c.cells 23::dfrs Dl) (Hle.drop3 _ _ _ _) ?_
  refine T_le (dat_nil _) ?_
  refine T_nilrow 47 1 ?_
  refine T_loopDX (fun s:List Nat × Nat × (Option Addr × Nat) × List Value × List (List Int) × List Nat=>[(16, .pointer (some ⟨s.2.1,0,none⟩))]) (fun s=>blk s.2.1 [.int .i64 (numL (lens l) s.1:Nat)] 3::blk p15 [.slice s.2.2.1.1 s.2.2.2.2.1.length s.2.2.1.2] 30::row 47 1 s.2.2.1.1 s.2.2.1.2 s.2.2.2.2.1.length s.2.2.2.1::dat s.2.2.2.1 (s.2.2.2.2.1.map intsD)::blk p10 [.slice (some ⟨b1,0,none⟩) V V] 47::blk b1 (L.map (Value.int .i64)) 3::fz pm::blk pg (gridL A n ca (lens l) 0) 129::blk pl [.slice A n ca] 25::blk pc c.cells 23::[]) (fun s=>s.2.2.2.2.2) (fun s=>InB (lens l) s.1∧s.2.2.2.2.1.length≤sumL s.1∧alnW c l=s.2.2.2.2.1++(alV19 (colZ c l) (lens l) (mvL n) s.1)) (fun s=>sumL (lens l) - sumL s.1) (List.replicate n 0,p16,(none,0),[],[],Dl) ⟨by rw [← hlsn];exact InB.zero _,Nat.zero_le _,by dsimp only;rw [List.nil_append, ← hn];rfl⟩ rfl ?_ (hG:=by dsimp only;rw [hz0];exact Hle.srtT (A:=[row 47 1 none 0 0 [],dat [] [],blk p16 [.int .i64 ((0:Nat):Int)] 3,blk p15 [.slice none 0 0] 30,blk p10 [.slice (some ⟨b1,0,none⟩) V V] 47,blk b1 (L.map (Value.int .i64)) 3,fz pm,blk pg (gridL A n ca (lens l) 0) 129,blk pl [.slice A n ca] 25,blk pc c.cells 23]) (K:=[blk p16 [.int .i64 ((0:Nat):Int)] 3,blk p15 [.slice none 0 0] 30,row 47 1 none 0 0 [],dat [] [],blk p10 [.slice (some ⟨b1,0,none⟩) V V] 47,blk b1 (L.map (Value.int .i64)) 3,fz pm,blk pg (gridL A n ca (lens l) 0) 129,blk pl [.slice A n ca] 25,blk pc c.cells 23]) (dfrs Dl))
  rintro⟨v,q16,⟨Ao,capo⟩,hs,out,Dl⟩ ⟨hvi,hol,hout⟩
  dsimp only at hvi hol hout ⊢
  obtain⟨p,hp⟩:∃ p,p=numL (lens l) v:=⟨_,rfl⟩
  have hat:=at_num hvi
  have hpl:=numL_lt hvi
  rw [← hp] at hat hpl ⊢
  rw [← hV] at hpl
  refine T_le (H':=blk q16 [.int .i64 (p:Nat)] 3::blk p15 [.slice Ao out.length capo] 30::row 47 1 Ao capo out.length hs::dat hs (out.map intsD)::blk p10 [.slice (some ⟨b1,0,none⟩) V V] 47::blk b1 (L.map (Value.int .i64)) 3::fz pm::blk pg (gridL A n ca (lens l) 0) 129::blk pl [.slice A n ca] 25::blk pc c.cells 23::dfrs Dl) (Hle.refl _) ?_
  have hg5:∀ w,RdC w pg 0 (gridL A n ca (lens l) 0)→RdC w pg (0+5) [.int .i64 (V:Nat)]:=fun w h9=>RdC.one (by have:=h9 5 _ (show (gridL A n ca (lens l) 0)[5]?=some (.int .i64 (V:Nat)) by rw [hV];rfl);exact this)
  repeat' (first|refine dd ?_|(show T _ (.run _ _ (_::_) _ _::_) _ _ _;refine rv rfl rfl rfl (Val.nilc rfl) rfl rfl rfl ?_)|fail)
  refine T_if rfl (fun h5=>?_) (fun h5=>?_)
  ·have hpV:p+1<V:=by simp at h5;omega
   obtain rfl:v=atL (lens l) p:=hat.symm
   repeat' (first|refine d1 ?_|(show T _ (.ops _ (_::_)::_) _ _ _;refine T_op (OpT.call rfl rfl rfl rfl rfl (fun w hw=>moves19_fn pg p Am (mvL n).length cm w) (fun u R hR=>?_)))|fail)
   obtain⟨⟨g1,g2,g3⟩,-,rfl,rfl⟩:=hR
   have hvl:(atL (lens l) p).length=l.length:=by rw [atL_len,hll]
   have hne:(atL (lens l) p)≠lens l:=fun e=>by rw [e] at hp;omega
   have hsub:=sumL_le hvi
   have hlen4:=sumL_lens hg.nb
   refine T_rangeO (moves_iter hg (by omega) h4 (by omega) (p:=p) (by omega) pg g1 g2 g3 hM) rfl (fun j x B hj hQ=>by obtain⟨m,b,_,rfl,_⟩:=hQ;exact⟨rfl,rfl⟩)
    (fun jj H=>H=blk q16 [.int .i64 (p:Nat)] 3::blk p15 [.slice Ao out.length capo] 30::row 47 1 Ao capo out.length hs::dat hs (out.map intsD)::blk p10 [.slice (some ⟨b1,0,none⟩) V V] 47::blk b1 (L.map (Value.int .i64)) 3::blk pl [.slice A n ca] 25::blk pc c.cells 23::dfrs Dl∧∀ j' y,j'<jj→(posL (lens l) (atL (lens l) p) (mvL n))[j']?=some y→fitM (colZ c l) (lens l) (mvL n) (atL (lens l) p) y=false) (fun _=>False)
    (fun id H=>id=6∧∃ (m:List Nat) (x:Option Addr × Nat × Value),(mvL n).find? (fitM (colZ c l) (lens l) (mvL n) (atL (lens l) p))=some m∧H=blk q16 [.int .i64 ((numL (lens l) (toM (atL (lens l) p) m)):Nat)] 3::blk p15 [.slice x.1 (out.length+1) x.2.1] 30::row 47 1 x.1 x.2.1 (out.length+1) (hs++[x.2.2])::dat (hs++[x.2.2]) ((out++[colT (atL (lens l) p) m]).map intsD)::blk p10 [.slice (some ⟨b1,0,none⟩) V V] 47::blk b1 (L.map (Value.int .i64)) 3::blk pl [.slice A n ca] 25::blk pc c.cells 23::dfrs Dl) (blk q16 [.int .i64 (p:Nat)] 3::blk p15 [.slice Ao out.length capo] 30::row 47 1 Ao capo out.length hs::dat hs (out.map intsD)::blk p10 [.slice (some ⟨b1,0,none⟩) V V] 47::blk b1 (L.map (Value.int .i64)) 3::blk pl [.slice A n ca] 25::blk pc c.cells 23::dfrs Dl) ⟨rfl,fun _ _ h=>by omega⟩
    (Hle.srtT (A:=[blk g2 [.int .i64 (p:Nat)] 3,blk g3 [.slice Am (mvL n).length cm] 30,blk g1 [.pointer (some ⟨pg,0,none⟩)] 123,blk q16 [.int .i64 (p:Nat)] 3,blk p15 [.slice Ao out.length capo] 30,row 47 1 Ao capo out.length hs,dat hs (out.map intsD),blk p10 [.slice (some ⟨b1,0,none⟩) V V] 47,blk b1 (L.map (Value.int .i64)) 3,fz pm,blk pg (gridL A n ca (lens l) 0) 129,blk pl [.slice A n ca] 25,blk pc c.cells 23]) (K:=[blk g2 [.int .i64 (p:Nat)] 3,blk g3 [.slice Am (mvL n).length cm] 30,blk g1 [.pointer (some ⟨pg,0,none⟩)] 123,blk pg (gridL A n ca (lens l) 0) 129,fz pm,blk q16 [.int .i64 (p:Nat)] 3,blk p15 [.slice Ao out.length capo] 30,row 47 1 Ao capo out.length hs,dat hs (out.map intsD),blk p10 [.slice (some ⟨b1,0,none⟩) V V] 47,blk b1 (L.map (Value.int .i64)) 3,blk pl [.slice A n ca] 25,blk pc c.cells 23]) (dfrs Dl)) ?_ ?_ (fun _ _ h=>h.elim) ?_
   ·rintro Lp r5 jj x B Hj K2 hr5 hj hQ ⟨rfl,hnf⟩
    obtain⟨m,b,hm,rfl,rfl⟩:=hQ
    obtain⟨hmm,hpo⟩:=posL_mem (List.mem_of_getElem? hm)
    have hti:=(toM_rem hno hlsn hvi hmm hpo).1
    have hqV:=numL_lt hti
    rw [← hV] at hqV
    have hFq:F (numL (lens l) (toM (atL (lens l) p) m))=rsV (colZ c l) (lens l) (mvL n) (toM (atL (lens l) p) m):=by rw [hF];dsimp only;rw [at_num hti]
    have hFp:F p=rsV (colZ c l) (lens l) (mvL n) (atL (lens l) p):=by rw [hF]
    have hfit:fitM (colZ c l) (lens l) (mvL n) (atL (lens l) p) m=decide (colZ c l (colT (atL (lens l) p) m)+F (numL (lens l) (toM (atL (lens l) p) m))=F p):=by
     rw [hFq,hFp]
     unfold fitM
     rw [hpo,Bool.true_and];rfl
    obtain⟨q,hq⟩:∃ q,q=(numL (lens l) (toM (atL (lens l) p) m)):=⟨_,rfl⟩
    rw [← hq] at hqV hfit
    show T _ _ ((100, .int .i64 ((numL (lens l) (toM (atL (lens l) p) m)):Nat))::(99, .slice (some ⟨b,0,none⟩) n n)::_) _ (lrec Lp r5::blk q16 [.int .i64 (p:Nat)] 3::blk p15 [.slice Ao out.length capo] 30::row 47 1 Ao capo out.length hs::dat hs (out.map intsD)::blk p10 [.slice (some ⟨b1,0,none⟩) V V] 47::blk b1 (L.map (Value.int .i64)) 3::blk pl [.slice A n ca] 25::blk pc c.cells 23::(dfrs Dl++(row 3 1 (some ⟨b,0,none⟩) n n ((colT (atL (lens l) p) m).map (Value.int .i64))::K2)))
    rw [← hq]
    repeat' (first|refine d1 ?_|(show T _ _ _ _ _;refine T_begin hr5 rfl ?_))
    refine T_le (H':=row 3 1 (some ⟨b,0,none⟩) n n ((colT (atL (lens l) p) m).map (Value.int .i64))::lrec Lp (busy r5)::blk q16 [.int .i64 (p:Nat)] 3::blk p15 [.slice Ao out.length capo] 30::row 47 1 Ao capo out.length hs::dat hs (out.map intsD)::blk p10 [.slice (some ⟨b1,0,none⟩) V V] 47::blk b1 (L.map (Value.int .i64)) 3::blk pl [.slice A n ca] 25::blk pc c.cells 23::(dfrs Dl++K2)) (Hle.perm (List.perm_middle (l₁:=lrec Lp (busy r5)::blk q16 [.int .i64 (p:Nat)] 3::blk p15 [.slice Ao out.length capo] 30::row 47 1 Ao capo out.length hs::dat hs (out.map intsD)::blk p10 [.slice (some ⟨b1,0,none⟩) V V] 47::blk b1 (L.map (Value.int .i64)) 3::blk pl [.slice A n ca] 25::blk pc c.cells 23::dfrs Dl) (l₂:=K2))) ?_
    have hcq:∀ w,RdC w b1 0 (L.map (Value.int .i64))→RdC w b1 (0+(q:Int).toNat * 1) [.int .i64 (F q)]:=fun w h9=>rdAt h9 (by omega) (hLF q (by omega) (by omega))
    have hcp:∀ w,RdC w b1 0 (L.map (Value.int .i64))→RdC w b1 (0+(p:Int).toNat * 1) [.int .i64 (F p)]:=fun w h9=>rdAt h9 (by omega) (hLF p (by omega) (by omega))
    have hKb:=colZ_bd hc (show l.length≤32 by omega) (colT (atL (lens l) p) m)
    have hFq2:=hFb q
    refine rsH [row 3 1 (some ⟨b,0,none⟩) n n ((colT (atL (lens l) p) m).map (Value.int .i64)),lrec Lp (busy r5),blk q16 [.int .i64 (p:Nat)] 3,blk p15 [.slice Ao out.length capo] 30,row 47 1 Ao capo out.length hs,dat hs (out.map intsD),blk p10 [.slice (some ⟨b1,0,none⟩) V V] 47,blk b1 (L.map (Value.int .i64)) 3,blk pl [.slice A n ca] 25,blk pc c.cells 23] 1000 [0,1,2,4,5,6,7,9,10,11,12,3,8,13] ?_
    repeat' (first|refine dd ?_|(show T _ (.run _ _ (_::_) _ _::_) _ _ _;first|refine rc rfl rfl rfl rfl rfl rfl rfl (fun w hw=>cost19_spec c A (some ⟨b,0,none⟩) n ca n l (colT (atL (lens l) p) m) w (hg.cls hw) hc hbs (srcRw w hw) (colT_ok hvl (fun s hs=>by rw [hn];exact hno.lt m hmm s hs) hpo)) ?_|refine rv rfl rfl rfl (Val.load rfl (fun hg=>(fun w hw=>hcq w (rdAll w hw)))) rfl rfl rfl ?_|refine rv rfl rfl rfl (Val.load rfl (fun hg=>(fun w hw=>hcp w (rdAll w hw)))) rfl rfl rfl ?_)|fail)
    refine T_if rfl (fun h6=>?_) (fun h6=>?_)
    ·rw [h6] at hfit
     have hf:(mvL n).find? (fitM (colZ c l) (lens l) (mvL n) (atL (lens l) p))=some m:=by rw [← find_posL];exact find_at hm hfit hnf
     have hov:out.length≤200000:=by omega
     repeat' (first|refine d1 ?_|(show T _ (.ops _ (_::_)::_) _ _ _;refine T_op (OpT.append rfl rfl rfl rfl rfl rfl rfl rfl rfl rfl (fun w hw=>Src.own hw rfl) rfl (by dsimp only;omega) (by omega) (fun A' cap' hA'=>?_)))|(show ∀ _:Nat,T _ _ _ _ _;intro _))
     rename_i blit2
     show T _ (.code (.exit 6)::_) _ _ _
     refine T_rexit (id:=6) (blk q16 [.int .i64 ((numL (lens l) (toM (atL (lens l) p) m)):Nat)] 3::blk p15 [.slice A' (out.length+1) cap'] 30::row 47 1 A' cap' (out.length+1) (hs++[(.slice (some ⟨b,0,none⟩) n n)])::dat (hs++[(.slice (some ⟨b,0,none⟩) n n)]) ((out++[colT (atL (lens l) p) m]).map intsD)::blk p10 [.slice (some ⟨b1,0,none⟩) V V] 47::blk b1 (L.map (Value.int .i64)) 3::blk pl [.slice A n ca] 25::blk pc c.cells 23::dfrs Dl) (fun _=>rfl) ⟨rfl,m,(A',cap',(.slice (some ⟨b,0,none⟩) n n)),hf,rfl⟩ ?_
     rw [← hq]
     refine (Hle.srtT (A:=[blk blit2 _ _,row 3 1 (some ⟨b,0,none⟩) n n ((colT (atL (lens l) p) m).map (Value.int .i64)),lrec Lp (busy r5),blk q16 [.int .i64 (q:Nat)] 3,blk p15 [.slice A' (out.length+1) cap'] 30,row 47 1 A' cap' (out.length+1) (hs++[(.slice (some ⟨b,0,none⟩) n n)]),dat hs (out.map intsD),blk p10 [.slice (some ⟨b1,0,none⟩) V V] 47,blk b1 (L.map (Value.int .i64)) 3,blk pl [.slice A n ca] 25,blk pc c.cells 23]) (K:=[row 3 1 (some ⟨b,0,none⟩) n n ((colT (atL (lens l) p) m).map (Value.int .i64)),dat hs (out.map intsD),lrec Lp (busy r5),blk q16 [.int .i64 (q:Nat)] 3,blk p15 [.slice A' (out.length+1) cap'] 30,row 47 1 A' cap' (out.length+1) (hs++[(.slice (some ⟨b,0,none⟩) n n)]),blk p10 [.slice (some ⟨b1,0,none⟩) V V] 47,blk b1 (L.map (Value.int .i64)) 3,blk pl [.slice A n ca] 25,blk pc c.cells 23]) (dfrs Dl++K2)).trans ?_
     refine dat_rowV.trans (dat_join.trans ?_)
     have ej:out.map intsD++[D.s 1 (((colT (atL (lens l) p) m).map (Value.int .i64)).map .v)]=(out++[colT (atL (lens l) p) m]).map intsD:=by
      rw [List.map_append,List.map_map];rfl
     rw [ej]
     exact Hle.perm ((List.perm_append_comm (l₁:=[_]) (l₂:=[_,_,_,_])).append_right (blk p10 [.slice (some ⟨b1,0,none⟩) V V] 47::blk b1 (L.map (Value.int .i64)) 3::blk pl [.slice A n ca] 25::blk pc c.cells 23::(dfrs Dl++K2)))
    ·rw [h6] at hfit
     refine T_next (blk q16 [.int .i64 (p:Nat)] 3::blk p15 [.slice Ao out.length capo] 30::row 47 1 Ao capo out.length hs::dat hs (out.map intsD)::blk p10 [.slice (some ⟨b1,0,none⟩) V V] 47::blk b1 (L.map (Value.int .i64)) 3::blk pl [.slice A n ca] 25::blk pc c.cells 23::dfrs Dl) ⟨rfl,fun j' y hj hy=>?_⟩ (Hle.tail _ _)
     rcases Nat.lt_or_ge j' jj with h7|h7
     ·exact hnf j' y h7 hy
     ·rw [show j'=jj by omega,hm] at hy
      cases hy
      exact hfit
   ·rintro D Hn ⟨rfl,hnf⟩
    exfalso
    obtain⟨m,hf,-⟩:=fit_some (K:=colZ c l) (colZ_nn hc hn4) hno hlsn hvi hne
    rw [← find_posL] at hf
    have h7:=List.find?_some hf
    obtain⟨j',hj',e9⟩:=List.getElem_of_mem (List.mem_of_find?_eq_some hf)
    have h8:=hnf j' m hj' (by rw [List.getElem?_eq_getElem hj',e9])
    rw [h8] at h7;cases h7
   ·rintro D id Hx ⟨rfl,m,⟨A',cap',hv9⟩,hf,rfl⟩
    dsimp only
    have h7:=List.find?_some hf
    unfold fitM at h7
    rw [Bool.and_eq_true] at h7
    obtain⟨hti,hs1,hs2,hs3⟩:=toM_rem hno hlsn hvi (List.mem_of_find?_eq_some hf) h7.1
    have hstep:=alV_step hno hlsn hvi hf
    show T (FC _ _ ((D::Dl).map mkD) _ _ _) _ _ _ (dfr D::blk g2 [.int .i64 (p:Nat)] 3::blk g3 [.slice Am (mvL n).length cm] 30::blk g1 [.pointer (some ⟨pg,0,none⟩)] 123::blk pg (gridL A n ca (lens l) 0) 129::fz pm::blk q16 [.int .i64 ((numL (lens l) (toM (atL (lens l) p) m)):Nat)] 3::blk p15 [.slice A' (out.length+1) cap'] 30::row 47 1 A' cap' (out.length+1) (hs++[hv9])::dat (hs++[hv9]) ((out++[colT (atL (lens l) p) m]).map intsD)::blk p10 [.slice (some ⟨b1,0,none⟩) V V] 47::blk b1 (L.map (Value.int .i64)) 3::blk pl [.slice A n ca] 25::blk pc c.cells 23::dfrs Dl)
    repeat' (first|refine d1 ?_|(show ∀ _:Nat,T _ _ _ _ _;intro _))
    rename_i n16
    show T _ (.mark _::_) _ _ _
    refine T_backD (toM (atL (lens l) p) m,n16,(A',cap'),hs++[hv9],out++[colT (atL (lens l) p) m],D::Dl) ⟨hti,by dsimp only;rw [List.length_append];simp;omega,by dsimp only;rw [hout,hstep,List.append_assoc];rfl⟩ (by dsimp only;omega) rfl (hG:=?_)
    dsimp only
    rw [List.length_append]
    exact Hle.srtT (A:=[blk n16 [.int .i64 ((numL (lens l) (toM (atL (lens l) p) m)):Nat)] 3,dfr D,blk g2 [.int .i64 (p:Nat)] 3,blk g3 [.slice Am (mvL n).length cm] 30,blk g1 [.pointer (some ⟨pg,0,none⟩)] 123,blk pg (gridL A n ca (lens l) 0) 129,fz pm,blk q16 [.int .i64 ((numL (lens l) (toM (atL (lens l) p) m)):Nat)] 3,blk p15 [.slice A' (out.length+1) cap'] 30,row 47 1 A' cap' (out.length+1) (hs++[hv9]),dat (hs++[hv9]) ((out++[colT (atL (lens l) p) m]).map intsD),blk p10 [.slice (some ⟨b1,0,none⟩) V V] 47,blk b1 (L.map (Value.int .i64)) 3,blk pl [.slice A n ca] 25,blk pc c.cells 23]) (K:=[blk n16 [.int .i64 ((numL (lens l) (toM (atL (lens l) p) m)):Nat)] 3,blk p15 [.slice A' (out.length+1) cap'] 30,row 47 1 A' cap' (out.length+1) (hs++[hv9]),dat (hs++[hv9]) ((out++[colT (atL (lens l) p) m]).map intsD),blk p10 [.slice (some ⟨b1,0,none⟩) V V] 47,blk b1 (L.map (Value.int .i64)) 3,fz pm,blk pg (gridL A n ca (lens l) 0) 129,blk pl [.slice A n ca] 25,blk pc c.cells 23,dfr D]) (dfrs Dl)
  ·have hpV:p+1=V:=by simp at h5;omega
   obtain rfl:v=lens l:=by rw [← hat, ← hself];congr 1;omega
   rw [alV_end,List.append_nil] at hout
   subst hout
   have hF0:F 0=lstV c l:=by
    rw [hF]
    dsimp only
    rw [show (0:Nat)=numL (lens l) (List.replicate (lens l).length 0) from (numL_zero _ _).symm,at_num (InB.zero _),hll, ← hn]
    rfl
   have hc0:∀ w,RdC w b1 0 (L.map (Value.int .i64))→RdC w b1 (0+(0:Int).toNat * 1) [.int .i64 (lstV c l)]:=fun w h9=>rdAt (q:=0) h9 (by omega) (by rw [← hF0];exact hLF 0 (Nat.zero_le _) hVp)
   repeat' (first|refine dd ?_|(show T _ (.run _ _ (_::_) _ _::_) _ _ _;refine rv rfl rfl rfl (Val.load rfl (fun hg=>(fun w hw=>hc0 w (rdAll w hw)))) rfl rfl rfl ?_)|fail)
   refine T_retDs [dat [.slice Ao (alnW c l).length capo] [rowsD (alnW c l)]] ?_ (rf_V (vs:=[.slice Ao (alnW c l).length capo, .int .i64 (lstV c l), .int .i64 0]) _ rfl (Hle.refl _) ⟨_,trivial,rfl,rfl⟩)
   refine (Hle.tail _ _).trans ((Hle.tail _ _).trans (dat_row.trans ?_))
   exact Hle.srtT (A:=[dat [.slice Ao (alnW c l).length capo] [.s 1 ((alnW c l).map intsD)],_,_,_,_,_,_]) (K:=[dat [.slice Ao (alnW c l).length capo] [.s 1 ((alnW c l).map intsD)]]) (dfrs Dl)
 ·rw [show ((p+1:Nat):Int) - 1=(p:Nat) by omega]
  repeat' (first|refine d1 ?_|fail)
  refine T_if rfl (fun _=>?_) (fun h5=>by exfalso;simp at h5)
  repeat' (first|refine d1 ?_|(show T _ (.ops _ (_::_)::_) _ _ _;refine T_op (OpT.call rfl rfl rfl rfl rfl (fun w hw=>moves19_fn pg p Am (mvL n).length cm w) (fun u R hR=>?_)))|fail)
  obtain⟨⟨g1,g2,g3⟩,-,rfl,rfl⟩:=hR
  have hpV:p+1<V:=by omega
  have hvi:=atL_in (lens l) p
  have hvl:(atL (lens l) p).length=l.length:=by rw [atL_len,hll]
  have hvn:=num_at (lens l) p (by omega)
  have hne:(atL (lens l) p)≠lens l:=fun e=>by rw [e] at hvn;omega
  have hstep:=rsV_step (K:=colZ c l) (colZ_nn hc hn4) hno hlsn hvi hne
  have hset:(L.map (Value.int .i64)).set (0+(p:Int).toNat * 1) (.int .i64 (-1))=(L.set p (foldB (possM (lens l) (atL (lens l) p)) (mcV (colZ c l) (lens l) (mvL n) (atL (lens l) p)) ((posL (lens l) (atL (lens l) p) (mvL n)).take 0) (-1))).map (Value.int .i64):=by
   rw [List.take_zero,List.map_set,show 0+(p:Int).toNat * 1=p by omega];rfl
  rw [hset]
  refine T_rangeO (moves_iter hg (by omega) h4 (by omega) (p:=p) (by omega) pg g1 g2 g3 hM) rfl (fun j x B hj hQ=>by obtain⟨m,b,_,rfl,_⟩:=hQ;exact⟨rfl,rfl⟩)
   (fun jj H=>H=blk q11 [.int .i64 ((p:Nat))] 3::blk p10 [.slice (some ⟨b1,0,none⟩) V V] 47::blk b1 ((L.set p (foldB (possM (lens l) (atL (lens l) p)) (mcV (colZ c l) (lens l) (mvL n) (atL (lens l) p)) ((posL (lens l) (atL (lens l) p) (mvL n)).take jj) (-1))).map (Value.int .i64)) 3::blk pl [.slice A n ca] 25::blk pc c.cells 23::dfrs Dl) (fun _=>False) (fun _ _=>False) (blk q11 [.int .i64 ((p:Nat))] 3::blk p10 [.slice (some ⟨b1,0,none⟩) V V] 47::blk b1 ((L.set p (foldB (possM (lens l) (atL (lens l) p)) (mcV (colZ c l) (lens l) (mvL n) (atL (lens l) p)) ((posL (lens l) (atL (lens l) p) (mvL n)).take 0) (-1))).map (Value.int .i64)) 3::blk pl [.slice A n ca] 25::blk pc c.cells 23::dfrs Dl) rfl
   (Hle.srtT (A:=[blk g2 [.int .i64 (p:Nat)] 3,blk g3 [.slice Am (mvL n).length cm] 30,blk g1 [.pointer (some ⟨pg,0,none⟩)] 123,blk q11 [.int .i64 ((p:Nat))] 3,blk p10 [.slice (some ⟨b1,0,none⟩) V V] 47,blk b1 ((L.set p (foldB (possM (lens l) (atL (lens l) p)) (mcV (colZ c l) (lens l) (mvL n) (atL (lens l) p)) ((posL (lens l) (atL (lens l) p) (mvL n)).take 0) (-1))).map (Value.int .i64)) 3,fz pm,blk pg (gridL A n ca (lens l) 0) 129,blk pl [.slice A n ca] 25,blk pc c.cells 23]) (K:=[blk g2 [.int .i64 (p:Nat)] 3,blk g3 [.slice Am (mvL n).length cm] 30,blk g1 [.pointer (some ⟨pg,0,none⟩)] 123,blk pg (gridL A n ca (lens l) 0) 129,fz pm,blk q11 [.int .i64 ((p:Nat))] 3,blk p10 [.slice (some ⟨b1,0,none⟩) V V] 47,blk b1 ((L.set p (foldB (possM (lens l) (atL (lens l) p)) (mcV (colZ c l) (lens l) (mvL n) (atL (lens l) p)) ((posL (lens l) (atL (lens l) p) (mvL n)).take 0) (-1))).map (Value.int .i64)) 3,blk pl [.slice A n ca] 25,blk pc c.cells 23]) (dfrs Dl)) ?_ ?_ (fun _ _ h=>h.elim) (fun _ _ _ h=>h.elim)
  ·rintro Lp r5 jj x B Hj K2 hr5 hj hQ rfl
   obtain⟨m,b,hm,rfl,rfl⟩:=hQ
   obtain⟨hmm,hpo⟩:=posL_mem (List.mem_of_getElem? hm)
   have hti:=(toM_rem hno hlsn hvi hmm hpo).1
   have hqV:=numL_lt hti
   rw [← hV] at hqV
   have hqn:=toM_num (lens l) m (atL (lens l) p) (by omega) (fun s hs=>by rw [hvl,hn];exact hno.lt m hmm s hs)
   have hqs:=stp_pos (ls:=lens l) (hno.ne m hmm) (fun s hs=>by rw [hlsn];exact hno.lt m hmm s hs)
   have hFq:F (numL (lens l) (toM (atL (lens l) p) m))=rsV (colZ c l) (lens l) (mvL n) (toM (atL (lens l) p) m):=by rw [hF];dsimp only;rw [at_num hti]
   obtain⟨q,hq⟩:∃ q,q=(numL (lens l) (toM (atL (lens l) p) m)):=⟨_,rfl⟩
   obtain⟨X,hX⟩:∃ X,X=foldB (possM (lens l) (atL (lens l) p)) (mcV (colZ c l) (lens l) (mvL n) (atL (lens l) p)) ((posL (lens l) (atL (lens l) p) (mvL n)).take jj) (-1):=⟨_,rfl⟩
   have hXs:foldB (possM (lens l) (atL (lens l) p)) (mcV (colZ c l) (lens l) (mvL n) (atL (lens l) p)) ((posL (lens l) (atL (lens l) p) (mvL n)).take (jj+1)) (-1)=bst X (colZ c l (colT (atL (lens l) p) m)+F q):=by
    rw [take_snoc _ _ _ hm,foldB_app, ← hX,hq,hFq]
    show cond (possM (lens l) (atL (lens l) p) m) _ _=_
    rw [hpo];rfl
   rw [← hq] at hqV hqn hFq
   show T _ _ ((60, .int .i64 ((numL (lens l) (toM (atL (lens l) p) m)):Nat))::(59, .slice (some ⟨b,0,none⟩) n n)::_) _ (lrec Lp r5::blk q11 [.int .i64 ((p:Nat))] 3::blk p10 [.slice (some ⟨b1,0,none⟩) V V] 47::blk b1 ((L.set p (foldB (possM (lens l) (atL (lens l) p)) (mcV (colZ c l) (lens l) (mvL n) (atL (lens l) p)) ((posL (lens l) (atL (lens l) p) (mvL n)).take jj) (-1))).map (Value.int .i64)) 3::blk pl [.slice A n ca] 25::blk pc c.cells 23::(dfrs Dl++(row 3 1 (some ⟨b,0,none⟩) n n ((colT (atL (lens l) p) m).map (Value.int .i64))::K2)))
   rw [← hX, ← hq]
   repeat' (first|refine d1 ?_|(show T _ _ _ _ _;refine T_begin hr5 rfl ?_))
   refine T_le (H':=row 3 1 (some ⟨b,0,none⟩) n n ((colT (atL (lens l) p) m).map (Value.int .i64))::lrec Lp (busy r5)::blk q11 [.int .i64 ((p:Nat))] 3::blk p10 [.slice (some ⟨b1,0,none⟩) V V] 47::blk b1 ((L.set p X).map (Value.int .i64)) 3::blk pl [.slice A n ca] 25::blk pc c.cells 23::(dfrs Dl++K2)) (Hle.perm (List.perm_middle (l₁:=lrec Lp (busy r5)::blk q11 [.int .i64 ((p:Nat))] 3::blk p10 [.slice (some ⟨b1,0,none⟩) V V] 47::blk b1 ((L.set p X).map (Value.int .i64)) 3::blk pl [.slice A n ca] 25::blk pc c.cells 23::dfrs Dl) (l₂:=K2))) ?_
   have hLq:(L.set p X)[q]?=some (F q):=by rw [List.getElem?_set_ne (by omega)];exact hLF q (by omega) (by omega)
   have hLp:(L.set p X)[p]?=some X:=by rw [List.getElem?_set_self (by omega)]
   have hLl:((L.set p X).map (Value.int .i64)).length=V:=by rw [List.length_map,List.length_set,hL]
   have hcq:∀ w,RdC w b1 0 ((L.set p X).map (Value.int .i64))→RdC w b1 (0+(q:Int).toNat * 1) [.int .i64 (F q)]:=fun w h9=>rdAt h9 (by omega) hLq
   have hcp:∀ w,RdC w b1 0 ((L.set p X).map (Value.int .i64))→RdC w b1 (0+(p:Int).toNat * 1) [.int .i64 X]:=fun w h9=>rdAt h9 (by omega) hLp
   have hKb:=colZ_bd hc (show l.length≤32 by omega) (colT (atL (lens l) p) m)
   have hFq2:=hFb q
   refine rsH [row 3 1 (some ⟨b,0,none⟩) n n ((colT (atL (lens l) p) m).map (Value.int .i64)),lrec Lp (busy r5),blk q11 [.int .i64 ((p:Nat))] 3,blk p10 [.slice (some ⟨b1,0,none⟩) V V] 47,blk b1 ((L.set p X).map (Value.int .i64)) 3,blk pl [.slice A n ca] 25,blk pc c.cells 23] 1000 [0,1,2,4,5,6,7,3,8,9] ?_
   repeat' (first|refine d1 ?_|refine dd ?_|(show T _ (.ops _ (_::_)::_) _ _ _;first|refine T_val rfl (Val.load rfl (fun hg=>(fun w hw=>hcp w (rdAll w hw)))) rfl rfl rfl ?_|refine T_valC rfl (Val.load rfl (fun hg=>(fun w hw=>hcp w (rdAll w hw)))) rfl rfl rfl rfl rfl ?_)|(show T _ (.run _ _ (_::_) _ _::_) _ _ _;first|refine rc rfl rfl rfl rfl rfl rfl rfl (fun w hw=>cost19_spec c A (some ⟨b,0,none⟩) n ca n l (colT (atL (lens l) p) m) w (hg.cls hw) hc hbs (srcRw w hw) (colT_ok hvl (fun s hs=>by rw [hn];exact hno.lt m hmm s hs) hpo)) ?_|refine rv rfl rfl rfl (Val.load rfl (fun hg=>(fun w hw=>hcq w (rdAll w hw)))) rfl rfl rfl ?_)|fail)
   refine T_if rfl (fun h5=>?_) (fun h5=>?_)
   ·have hbs9:bst X (colZ c l (colT (atL (lens l) p) m)+F q)=colZ c l (colT (atL (lens l) p) m)+F q:=by unfold bst;rw [if_pos (by simpa using h5)]
    repeat' (first|refine d1 ?_|fail)
    have e9:((L.set p X).map (Value.int .i64)).set (0+(p:Int).toNat * 1) (.int .i64 (colZ c l (colT (atL (lens l) p) m)+F q))=(L.set p (colZ c l (colT (atL (lens l) p) m)+F q)).map (Value.int .i64):=by
     rw [show 0+(p:Int).toNat * 1=p by omega, ← List.map_set,List.set_set]
    rw [e9]
    refine T_next (blk q11 [.int .i64 ((p:Nat))] 3::blk p10 [.slice (some ⟨b1,0,none⟩) V V] 47::blk b1 ((L.set p (foldB (possM (lens l) (atL (lens l) p)) (mcV (colZ c l) (lens l) (mvL n) (atL (lens l) p)) ((posL (lens l) (atL (lens l) p) (mvL n)).take (jj+1)) (-1))).map (Value.int .i64)) 3::blk pl [.slice A n ca] 25::blk pc c.cells 23::dfrs Dl) rfl ?_
    rw [hXs,hbs9]
    exact Hle.tail _ _
   ·have hbs9:bst X (colZ c l (colT (atL (lens l) p) m)+F q)=X:=by unfold bst;rw [if_neg (by simpa using h5)]
    refine T_next (blk q11 [.int .i64 ((p:Nat))] 3::blk p10 [.slice (some ⟨b1,0,none⟩) V V] 47::blk b1 ((L.set p (foldB (possM (lens l) (atL (lens l) p)) (mcV (colZ c l) (lens l) (mvL n) (atL (lens l) p)) ((posL (lens l) (atL (lens l) p) (mvL n)).take (jj+1)) (-1))).map (Value.int .i64)) 3::blk pl [.slice A n ca] 25::blk pc c.cells 23::dfrs Dl) rfl ?_
    rw [hXs,hbs9]
    exact Hle.tail _ _
  ·rintro D Hn rfl
   have hFp:foldB (possM (lens l) (atL (lens l) p)) (mcV (colZ c l) (lens l) (mvL n) (atL (lens l) p)) ((posL (lens l) (atL (lens l) p) (mvL n)).take (posL (lens l) (atL (lens l) p) (mvL n)).length) (-1)=F p:=by rw [List.take_length,foldB_posL, ← hstep,hF]
   rw [hFp]
   show T (FC _ _ ((D::Dl).map mkD) _ _ _) _ _ _ (dfr D::blk g2 [.int .i64 (p:Nat)] 3::blk g3 [.slice Am (mvL n).length cm] 30::blk g1 [.pointer (some ⟨pg,0,none⟩)] 123::blk pg (gridL A n ca (lens l) 0) 129::fz pm::blk q11 [.int .i64 ((p:Nat))] 3::blk p10 [.slice (some ⟨b1,0,none⟩) V V] 47::blk b1 ((L.set p (F p)).map (Value.int .i64)) 3::blk pl [.slice A n ca] 25::blk pc c.cells 23::dfrs Dl)
   repeat' (first|refine d1 ?_|(show ∀ _:Nat,T _ _ _ _ _;intro _))
   rename_i n11
   show T _ (.mark _::_) _ _ _
   refine T_backD (p,n11,L.set p (F p),D::Dl) ⟨by dsimp only;omega,by dsimp only;rw [List.length_set,hL],fun q h5 h6=>?_⟩ (by dsimp only;omega) rfl (hG:=?_)
   ·dsimp only at h5 ⊢
    by_cases hqp:q=p
    ·rw [hqp,List.getElem?_set_self (by omega)]
    ·rw [List.getElem?_set_ne (by omega)];exact hLF q (by omega) h6
   ·dsimp only
    exact Hle.srtT (A:=[blk n11 [.int .i64 ((p:Int) - 1)] 3,dfr D,blk g2 [.int .i64 (p:Nat)] 3,blk g3 [.slice Am (mvL n).length cm] 30,blk g1 [.pointer (some ⟨pg,0,none⟩)] 123,blk pg (gridL A n ca (lens l) 0) 129,fz pm,blk q11 [.int .i64 ((p:Nat))] 3,blk p10 [.slice (some ⟨b1,0,none⟩) V V] 47,blk b1 ((L.set p (F p)).map (Value.int .i64)) 3,blk pl [.slice A n ca] 25,blk pc c.cells 23]) (K:=[blk n11 [.int .i64 ((p:Int) - 1)] 3,blk p10 [.slice (some ⟨b1,0,none⟩) V V] 47,blk b1 ((L.set p (F p)).map (Value.int .i64)) 3,fz pm,blk pg (gridL A n ca (lens l) 0) 129,blk pl [.slice A n ca] 25,blk pc c.cells 23,dfr D]) (dfrs Dl)
end Go.Proofs.YtblnhdnogjijiaaGreatDoor
namespace Go.Proofs.YtblnhdnogjijiaaGreatDoor
open Go.RowKit Go.Shelf

def sureG (all:Array Oper) (env:Env):GId→Bool
  | []=>true
  | (i,p)::G=>(match dstL all i with
    | some s=>(match lookE env s with
      | some (.bool q)=>(match q,p with
        | true,true=>true
        | false,false=>true
        | _,_=>false)
      | _=>false)
    | none=>false) && sureG all env G
theorem sureG_holds {N:FK} {all:Array Oper} {env:Env} {ec:EnvC} {a:Act} (ha:Agrees N all env ec a):∀ {G:GId},sureG all env G=true→Holds all a G
  | [],_=>Holds.nil _ _
  | (i,p)::G,h=>by
    unfold sureG at h
    rw [Bool.and_eq_true] at h
    obtain⟨h1,h2⟩:=h
    intro x hx
    rcases List.mem_cons.1 hx with rfl|hx
    · split at h1
      · rename_i s hs
        split at h1
        · rename_i q hv
          have hqp:q=p:=by cases q <;> cases p <;> first|rfl|cases h1
          subst hqp
          have ht:=ha.at_ s _ hv
          show yielded all a.tmps i=some q
          unfold yielded
          rw [← dstL_eq,hs]
          simp only [Option.bind_some]
          rw [Array.getD_eq_getD_getElem?] at ht
          cases hq:a.tmps[s]? with
          | none=>rw [hq] at ht;simp [undef] at ht
          | some u=>rw [hq] at ht;simp only [Option.getD_some] at ht;subst ht;rfl
        · cases h1
      · cases h1
    · exact sureG_holds ha h2 x hx
theorem T_known {C:Cx} {k:List It} {env:Env} {ec:EnvC} {H:List HA} (d:Nat) {G:GId} {v:Value} (hl:lookE ec d=some (G,v)) (hg:sureG (allOf k) env G=true) (h:T C k ((d,v)::env) ec H):T C k env ec H :=
 T.mk fun a w ha hw=>h.go a w ⟨ha.defers,ha.size,fun s u hs=>by
  rcases lookE_cons hs with⟨rfl,rfl⟩|⟨_,hs⟩
  ·exact ha.yes _ _ _ hl (sureG_holds ha hg)
  ·exact ha.at_ s u hs,ha.yes,ha.no⟩ hw
end Go.Proofs.YtblnhdnogjijiaaGreatDoor
namespace Go.Proofs.YtblnhdnogjijiaaGreatDoor
open Go.RowKit Go.Shelf Go.Proofs
set_option maxRecDepth 100000
set_option linter.unusedSectionVars false
set_option maxHeartbeats 1000000

def pg (p:List Int) (q:Nat):Int:=p.getD q 0
section
variable {K:List Int→Int} (hK:∀ x,0≤K x) {ls:List Nat} {n:Nat} {Ms:List (List Nat)} (hM:MvsOk n Ms) (hn:ls.length=n)
include hK hM hn
end
section
variable {K:List Int→Int} {ls:List Nat} {n:Nat} {Ms:List (List Nat)} (hM:MvsOk n Ms) (hn:ls.length=n) {p:List Int}
include hM hn
theorem poss_none {v:List Nat} (hv:InB ls v) (h0:sumL ls - sumL v=0):∀ m∈Ms,possM ls v m=false:=fun m hm=>by
 cases hp:possM ls v m with
 | false=>rfl
 | true =>
  obtain⟨h1,h2,h3,h4⟩:=toM_rem hM hn hv hm hp
  omega
end
section
variable {K:List Int→Int} (hK:∀ x,0≤K x) {ls:List Nat} {n:Nat} {Ms:List (List Nat)} (hM:MvsOk n Ms) (hn:ls.length=n)
include hK hM hn
end
end Go.Proofs.YtblnhdnogjijiaaGreatDoor
namespace Go.Proofs.YtblnhdnogjijiaaGreatDoor
open Go.RowKit Go.Shelf Go.Proofs

end Go.Proofs.YtblnhdnogjijiaaGreatDoor
namespace Go.Proofs.YtblnhdnogjijiaaGreatDoor
open Go.RowKit Go.Shelf Go.Proofs

def subsL:Nat→Nat→Nat→List (List Nat)
 | 0,_,_=>[[]]
 | k+1,a,b=>(List.range' a (b - a)).flatMap fun i=>(subsL k (i+1) b).map (i :: ·)
end Go.Proofs.YtblnhdnogjijiaaGreatDoor
namespace Go.Proofs.YtblnhdnogjijiaaGreatDoor
open Go.RowKit Go.Shelf Go.Proofs

end Go.Proofs.YtblnhdnogjijiaaGreatDoor
namespace Go.Proofs.YtblnhdnogjijiaaGreatDoor
open Go.RowKit Go.Shelf Go.Proofs
set_option maxRecDepth 100000

end Go.Proofs.YtblnhdnogjijiaaGreatDoor
namespace Go.Proofs.YtblnhdnogjijiaaGreatDoor
open Go.RowKit Go.Shelf Go.Proofs
set_option maxRecDepth 100000
set_option maxHeartbeats 1000000

end Go.Proofs.YtblnhdnogjijiaaGreatDoor
namespace Go.Proofs.YtblnhdnogjijiaaGreatDoor
open Go.RowKit Go.Shelf Go.Proofs
set_option maxRecDepth 100000
set_option maxHeartbeats 1000000

end Go.Proofs.YtblnhdnogjijiaaGreatDoor
namespace Go.Proofs.YtblnhdnogjijiaaGreatDoor
open Go.RowKit Go.Shelf Go.Proofs
set_option maxRecDepth 100000
set_option maxHeartbeats 1000000

def sizV:Nat→List Nat→Nat
 | a,[]=>a
 | a,n::ls=>if 1073741824<a * (n+1) then a * (n+1) else sizV (a * (n+1)) ls
theorem sizV_cons (a n:Nat) (ls:List Nat):sizV a (n::ls)=if 1073741824<a * (n+1) then a * (n+1) else sizV (a * (n+1)) ls:=rfl
theorem sizV_small:∀ (ls:List Nat) (a:Nat),a * volL ls≤1073741824→sizV a ls=a * volL ls
 | [],a,_=>(Nat.mul_one a).symm
 | n::ls,a,h=>by
  have h1:volL (n::ls)=(n+1) * volL ls:=rfl
  rw [h1, ← Nat.mul_assoc] at h ⊢
  have h2:=Nat.le_mul_of_pos_right (a * (n+1)) (volL_pos ls)
  unfold sizV
  rw [if_neg (by omega)]
  exact sizV_small ls _ h
theorem sizV_great:∀ (ls:List Nat) (a:Nat),1073741824<a * volL ls→1073741824<sizV a ls
 | [],a,h=>by have:a * volL []=a:=Nat.mul_one a;rw [this] at h;exact h
 | n::ls,a,h=>by
  have h1:volL (n::ls)=(n+1) * volL ls:=rfl
  rw [h1, ← Nat.mul_assoc] at h
  unfold sizV
  split
  ·assumption
  ·exact sizV_great ls _ h
theorem size19R_spec (A:Option Addr) (n ca:Nat) (l:List TS) (w:World) (hs:Src w 1 A n (l.map TS.val)) (hn:l.length=n) (hb:n≤34) (hq:∀ t∈l,t.n≤1026) :
  Spec Tryz.prog 117 [.slice A n ca] w (fun v R=>v = .int .i64 (sizV 1 (lens l):Nat)∧R=[]):=by
 have hll:=lens_len l
 refine spec_of sg Tryz.func117 rfl rfl rfl ?_
 repeat' (first|refine d1 ?_|fail)
 refine T_loopX (fun s:Nat × Nat=>[(4, .int .i64 (s.1:Nat)),(3, .int .i64 (s.2:Nat))]) (fun _=>[]) (fun s=>s.1≤n∧s.2≤1073741824∧sizV s.2 ((lens l).drop s.1)=sizV 1 (lens l)) (fun s=>n - s.1) (0,1) ⟨Nat.zero_le _,by decide,rfl⟩ ?_
 rintro⟨k,a⟩ ⟨hk,ha,hv⟩
 dsimp only at hk ha hv ⊢
 repeat' (first|refine d1 ?_|fail)
 refine T_if rfl (fun h=>?_) (fun h=>?_)
 ·simp only [decide_eq_true_eq] at h
  have hkn:k<n:=by omega
  obtain⟨b,o,rfl⟩:=hs.base (by omega)
  obtain⟨t,ht⟩:∃ t,l[k]?=some t:=⟨_,List.getElem?_eq_getElem (by omega)⟩
  have htq:=hq t (List.mem_of_getElem? ht)
  have hr:RdC w b (o+(k:Int).toNat * 1) [.slice t.A t.n t.cap]:=by
   have h9:=(hs.get1 (i:=k) hkn (by rw [List.getElem?_map,ht];rfl)).2
   rw [Nat.mul_one] at h9
   rw [off1]
   exact h9
  have hd:(lens l).drop k=t.n::(lens l).drop (k+1):=by
   obtain⟨h1,e⟩:=List.getElem?_eq_some_iff.1 (lens_get ht)
   rw [List.drop_eq_getElem_cons h1,e]
  have e:(a:Int) * ((t.n:Int)+1)=((a * (t.n+1):Nat):Int):=by simp
  have hbd:a * (t.n+1)≤1073741824 * 1027:=Nat.mul_le_mul ha (by omega)
  rw [hd,sizV_cons] at hv
  repeat' (first|refine d1 ?_|fail)
  rw [e]
  refine T_if rfl (fun h1=>?_) (fun h1=>?_)
  ·simp only [decide_eq_true_eq] at h1
   rw [if_pos (by omega)] at hv
   repeat' (first|refine d1 ?_|(show T _ (.code .ret::_) _ _ _;refine T_retV [] rfl (Hle.none _) ⟨by rw [← hv];rfl,rfl⟩))
  ·simp only [decide_eq_false_iff_not] at h1
   rw [if_neg (by omega)] at hv
   repeat' (first|refine d1 ?_|fail)
   exact T_backX (k+1,a * (t.n+1)) ⟨by dsimp only;omega,by dsimp only;omega,hv⟩ (by dsimp only;omega)
 ·simp only [decide_eq_false_iff_not] at h
  rw [List.drop_of_length_le (by omega)] at hv
  have hv2:a=sizV 1 (lens l):=hv
  repeat' (first|refine d1 ?_|(show T _ (.code .ret::_) _ _ _;refine T_retV [] rfl (Hle.none _) ⟨by rw [← hv2];rfl,rfl⟩))
end Go.Proofs.YtblnhdnogjijiaaGreatDoor
namespace Go.Proofs.YtblnhdnogjijiaaGreatDoor
open Go.RowKit Go.Shelf Go.Proofs
set_option maxRecDepth 100000
set_option maxHeartbeats 1000000

end Go.Proofs.YtblnhdnogjijiaaGreatDoor
namespace Go.Proofs.YtblnhdnogjijiaaGreatDoor
open Go.RowKit Go.Shelf Go.Proofs
set_option maxRecDepth 100000
set_option maxHeartbeats 1000000

end Go.Proofs.YtblnhdnogjijiaaGreatDoor
namespace Go.Proofs.YtblnhdnogjijiaaGreatDoor
open Go.RowKit Go.Shelf Go.Proofs
set_option maxRecDepth 100000
set_option maxHeartbeats 1000000

def subsI (k i:Nat) (b:Nat):List (List Nat):=(subsL k (i+1) b).map (i :: ·)
def subsP (k a b j:Nat):List (List Nat):=(List.range' a j).flatMap fun i=>subsI k i b
theorem subsP_succ (k a b j:Nat):subsP k a b (j+1)=subsP k a b j++subsI k (a+j) b:=by
 unfold subsP
 rw [List.range'_concat,List.flatMap_append]
 simp
theorem subsL_P (k a b:Nat):subsL (k+1) a b=subsP k a b (b - a):=rfl
theorem subsP_len {k b:Nat} (h:∀ a,(subsL k a b).length≤5 ^ k) (a:Nat):∀ j,(subsP k a b j).length≤j * 5 ^ k
 | 0=>by simp [subsP]
 | j+1=>by
  have h1:=subsP_len h a j
  have h2:=h (a+j+1)
  rw [subsP_succ,List.length_append,Nat.succ_mul,subsI,List.length_map]
  omega
theorem subsL_len {b:Nat} (hb:b≤4):∀ k a,(subsL k a b).length≤5 ^ k
 | 0,a=>Nat.le_refl _
 | k+1,a=>by
  have h1:=subsP_len (fun a=>subsL_len hb k a) a (b - a)
  have h2:(b - a) * 5 ^ k≤5 * 5 ^ k:=Nat.mul_le_mul_right _ (by omega)
  rw [subsL_P,Nat.pow_succ,Nat.mul_comm (5 ^ k) 5]
  omega
theorem subsL_mem:∀ (k a b:Nat),∀ r∈subsL k a b,r.length=k
 | 0,_,_,r,h=>by rw [List.mem_singleton.1 h];rfl
 | k+1,a,b,r,h=>by
  obtain⟨i,hi,hr⟩:=List.mem_flatMap.1 h
  obtain⟨s,hs,rfl⟩:=List.mem_map.1 hr
  rw [List.length_cons,subsL_mem k _ _ s hs]
theorem subsets_spec:∀ (k a b:Nat) (w:World),k≤4→a≤5→b≤4→Spec Tryz.prog 176 [.int .i64 (a:Nat), .int .i64 (b:Nat), .int .i64 (k:Nat)] w (fun v R=>∃ x:Value,True∧v=x∧R=[dat [x] [rowsD ((subsL k a b).map intN)]]):=by
 intro k
 induction k with
 | zero =>
  intro a b w _ ha hb
  refine spec_of sg Tryz.func176 rfl rfl rfl ?_
  repeat' (first|refine d1 ?_|fail)
  refine T_if rfl (fun _=>?_) (fun h=>by exfalso;simp at h)
  repeat' (first|refine d1 ?_|(show ∀ _:Nat,T _ _ _ _ _;intro _))
  rename_i b9
  repeat' (first|(show T _ (.code .ret::_) _ _ _;refine T_retV _ rfl ((hle_unit (B:=dat [.slice none 0 0] [intsD []]) (.s none 0 0 1 [] rfl (Nat.le_refl _) (by omega) (fun h=>absurd h (by omega)) .nil .nil)).trans ((Hle.perm (List.Perm.swap _ _ _)).trans (dat_blk (sz:=1) (n:=1) (cs:=[.slice none 0 0]) rfl (by omega)))) ⟨_,trivial,rfl,rfl⟩))
 | succ k ih =>
  intro a b w hk ha hb
  have hp5:5 ^ k≤625:=Nat.le_trans (Nat.pow_le_pow_right (by omega) (show k≤4 by omega)) (by decide)
  refine spec_of sg Tryz.func176 rfl rfl rfl ?_
  repeat' (first|refine d1 ?_|fail)
  refine T_if rfl (fun h=>by exfalso;simp at h;omega) (fun _=>?_)
  repeat' (first|refine d1 ?_|fail)
  refine T_le (dat_nil _) ?_
  refine T_nilrow 47 1 ?_
  refine T_loopX (fun s:Nat × (Option Addr × Nat) × List Value=>[(8, .int .i64 ((a+s.1:Nat):Int)),(7, .slice s.2.1.1 (subsP k a b s.1).length s.2.1.2)]) (fun s=>[row 47 1 s.2.1.1 s.2.1.2 (subsP k a b s.1).length s.2.2,dat s.2.2 (((subsP k a b s.1).map intN).map intsD)]) (fun s=>s.1≤b - a) (fun s=>b - a - s.1) (0,(none,0),[]) (Nat.zero_le _) ?_
  rintro⟨j,⟨A,c⟩,hs⟩ hj
  dsimp only at hj ⊢
  have hPl:=subsP_len (fun a=>subsL_len hb k a) a j
  have hPj:j * 5 ^ k≤4 * 625:=Nat.mul_le_mul (by omega) hp5
  have hLl:=subsL_len hb k (a+j+1)
  repeat' (first|refine d1 ?_|fail)
  refine T_if rfl (fun h=>?_) (fun h=>?_)
  ·simp only [decide_eq_true_eq] at h
   have hjb:j<b - a:=by omega
   repeat' (first|refine d1 ?_|fail)
   rw [show (((a+j:Nat):Int)+1)=((a+j+1:Nat):Int) by omega,show (((k+1:Nat):Int) - 1)=((k:Nat):Int) by omega]
   repeat' (first|(show T _ (.ops _ (_::_)::_) _ _ _;refine T_op (OpT.call rfl rfl rfl rfl rfl (fun w hw=>ih (a+j+1) b w (by omega) (by omega) hb) ?_))|fail)
   rintro x R ⟨_,-,rfl,rfl⟩
   refine T_le (H':=[dat [x] [rowsD ((subsL k (a+j+1) b).map intN)],row 47 1 A c (subsP k a b j).length hs,dat hs (((subsP k a b j).map intN).map intsD)]) (Hle.refl _) ?_
   refine T_open fun p hp=>?_
   obtain⟨Ax,cx,csx,rfl,hx1,hx2,hxl,hxr,hxrows⟩:=hp.tab
   rw [List.length_map] at hx1 hxl hxr ⊢
   refine T_le (H':=[row 47 1 A c (subsP k a b j).length hs,dat hs (((subsP k a b j).map intN).map intsD),fz p]) Hle.srt ?_
   repeat' (first|refine d1 ?_|fail)
   refine T_loopX (fun s:Nat × (Option Addr × Nat) × List Value=>[(10, .int .i64 (s.1:Nat)),(7, .slice s.2.1.1 ((subsP k a b j).length+s.1) s.2.1.2)]) (fun s=>[row 47 1 s.2.1.1 s.2.1.2 ((subsP k a b j).length+s.1) s.2.2,dat s.2.2 (((subsP k a b j++(subsI k (a+j) b).take s.1).map intN).map intsD),fz p]) (fun s=>s.1≤(subsL k (a+j+1) b).length) (fun s=>(subsL k (a+j+1) b).length - s.1) (0,(A,c),hs) (Nat.zero_le _) ?_ (hG:=by rw [List.take_zero,List.append_nil];exact Hle.refl _)
   rintro⟨m,⟨A2,c2⟩,hs2⟩ hm
   dsimp only at hm ⊢
   repeat' (first|refine d1 ?_|fail)
   refine T_if rfl (fun h3=>?_) (fun h3=>?_)
   ·simp only [decide_eq_true_eq] at h3
    have hmn:m<(subsL k (a+j+1) b).length:=by omega
    obtain⟨bx,ox,rfl,hrx⟩:=hxr (by omega)
    obtain⟨r,hr⟩:∃ r,(subsL k (a+j+1) b)[m]?=some r:=⟨_,List.getElem?_eq_getElem hmn⟩
    obtain⟨Ar,capr,hcs,hr1,hr2,-⟩:=hxrows.tabRow (i:=m) (r:=intN r) (by rw [List.getElem?_map,hr];rfl)
    have hsr:∀ {w':World} {H:List HA} [FocusZ H p],Cls w w' H→Src w' 1 Ar (intN r).length ((intN r).map (Value.int .i64)):=fun {w' H} _ hw=>((rd_one hxrows hcs (by rw [List.getElem?_map,List.getElem?_map,hr];rfl)).own hw).intsAt
    have hrl:(intN r).length≤4:=by
     have h9:=subsL_mem k (a+j+1) b r (List.mem_of_getElem? hr)
     unfold intN
     rw [List.length_map];omega
    repeat' (first|refine d1 ?_|(show T _ (.ops _ (_::_)::_) _ _ _;refine T_val rfl (Val.load rfl (fun hg=>rdFz (p:=p) (u := .slice Ar (intN r).length capr) (b:=bx) (by rw [off1];exact hrx m _ hcs))) rfl rfl rfl ?_)|(show ∀ _:Nat,T _ _ _ _ _;intro _))
    rename_i bl
    refine T_blk_rowh 1 1 rfl (by omega) ?_
    refine T_op (OpT.append (A:=some ⟨bl,0,none⟩) rfl rfl rfl rfl rfl rfl rfl rfl rfl rfl (fun w hw=>hsr hw) (oneInts _) (by dsimp only;omega) (by omega) (fun A' cap' hA'=>?_))
    repeat' (first|refine d1 ?_|(show T _ (.ops _ (_::_)::_) _ _ _;refine T_op (OpT.append (A:=A2) rfl rfl rfl rfl rfl rfl rfl rfl rfl rfl (fun w hw=>Src.own hw rfl) rfl (by dsimp only;omega) (by omega) (fun A'' cap'' hA''=>?_)))|(show ∀ _:Nat,T _ _ _ _ _;intro _))
    have hri:(intN ((a+j)::r)).map (Value.int .i64)=flatP [(0, .int .i64 ((a+j:Nat):Int))]++(intN r).map (Value.int .i64):=rfl
    have hst:(subsI k (a+j) b).take (m+1)=(subsI k (a+j) b).take m++[(a+j)::r]:=take_snoc _ _ _ (by unfold subsI;rw [List.getElem?_map,hr];rfl)
    refine T_backX (m+1,(A'',cap''),hs2++[.slice A' (1+(intN r).length) cap']) (by dsimp only;omega) (by dsimp only;omega) (hE:=⟨rfl,rfl,trivial⟩) (hG:=?_)
    dsimp only
    obtain⟨X,hX⟩:∃ X,X=subsP k a b j++(subsI k (a+j) b).take m:=⟨_,rfl⟩
    rw [hst, ← List.append_assoc, ← hX,List.map_append]
    exact (Hle.srt (K:=[row 3 1 A' cap' (1+(intN r).length) (flatP [(0, .int .i64 ((a+j:Nat):Int))]++(intN r).map (Value.int .i64)),dat hs2 ((X.map intN).map intsD),row 47 1 A'' cap'' ((subsP k a b j).length+m+1) (hs2++flatP [(0, .slice A' (1+(intN r).length) cap')]),fz p])).trans (out_hle (cl:=intN ((a+j)::r)) rfl)
   ·simp only [decide_eq_false_iff_not] at h3
    have hme:m=(subsL k (a+j+1) b).length:=by omega
    have hps:subsP k a b (j+1)=subsP k a b j++(subsI k (a+j) b).take m:=by
     rw [subsP_succ,List.take_of_length_le (by unfold subsI;rw [List.length_map];omega)]
    have hpsl:(subsP k a b (j+1)).length=(subsP k a b j).length+m:=by
     rw [hps,List.length_append,List.length_take,subsI,List.length_map];omega
    repeat' (first|refine d1 ?_|fail)
    exact T_backX (j+1,(A2,c2),hs2) (by dsimp only;omega) (by dsimp only;omega) (hE:=⟨by dsimp only;rw [show ((a+(j+1):Nat):Int)=((a+j:Nat):Int)+1 by omega];rfl,by dsimp only;rw [hpsl];rfl,trivial⟩) (hG:=by dsimp only;rw [hpsl,hps];exact Hle.sub)
  ·simp only [decide_eq_false_iff_not] at h
   obtain rfl:j=b - a:=by omega
   rw [← subsL_P]
   repeat' (first|refine d1 ?_|(show T _ (.code .ret::_) _ _ _;refine T_retV _ rfl dat_row ⟨_,trivial,rfl,by rfl⟩))
def refJ19 (n:Nat):Nat→List (List Nat)
 | 0=>[]
 | j+1=>refJ19 n j++subsL (n - j) 0 n
theorem refJ19_all {n:Nat} (h1:1≤n) (h4:n≤4):refJ19 n n=mvL n:=by
 obtain rfl|rfl|rfl|rfl:n=1∨n=2∨n=3∨n=4:=by omega
 all_goals decide
theorem refJ19_len {n:Nat} (h4:n≤4):∀ j,(refJ19 n j).length≤j * 625
 | 0=>Nat.le_refl _
 | j+1=>by
  have h1:=refJ19_len h4 j
  have h2:=subsL_len h4 (n - j) 0
  have h3:5 ^ (n - j)≤5 ^ 4:=Nat.pow_le_pow_right (by omega) (by omega)
  have h5:5 ^ 4=625:=by decide
  rw [refJ19,List.length_append]
  omega
theorem movesR_spec (z:Int) (w:World):Spec Tryz.prog 118 [.int .i64 z] w (fun v R=>∃ x:Value,True∧v=x∧R=[dat [x] [rowsD ((mvL z.toNat).map intN)]]):=by
 refine spec_of sg Tryz.func118 rfl rfl rfl ?_
 repeat' (first|refine d1 ?_|fail)
 refine T_if rfl (fun h=>?_) (fun h=>?_)
 ·simp only [Bool.or_eq_true,decide_eq_true_eq] at h
  rw [mvL_none (by omega)]
  repeat' (first|refine d1 ?_|(show T _ (.code .ret::_) _ _ _;refine T_retV _ rfl (nilC _ |>.trans (Hle.nth 0 rfl)) ⟨_,trivial,rfl,rfl⟩))
 simp only [Bool.or_eq_false_iff,decide_eq_false_iff_not] at h
 obtain⟨n,rfl⟩:∃ n:Nat,z=n:=⟨z.toNat,by omega⟩
 have h1:1≤n:=by omega
 have h4:n≤4:=by omega
 rw [Int.toNat_natCast]
 repeat' (first|refine d1 ?_|fail)
 refine T_le (dat_nil _) ?_
 refine T_nilrow 47 1 ?_
 refine T_loopX (fun s:Nat × (Option Addr × Nat) × List Value=>[(4, .int .i64 ((n:Int) - (s.1:Nat))),(3, .slice s.2.1.1 (refJ19 n s.1).length s.2.1.2)]) (fun s=>[row 47 1 s.2.1.1 s.2.1.2 (refJ19 n s.1).length s.2.2,dat s.2.2 (((refJ19 n s.1).map intN).map intsD)]) (fun s=>s.1≤n) (fun s=>n - s.1) (0,(none,0),[]) (Nat.zero_le _) ?_ (hE:=⟨by dsimp only;rw [show ((n:Int) - ((0:Nat):Int))=(n:Int) by omega];rfl,rfl,trivial⟩)
 rintro⟨j,⟨A,c⟩,hs⟩ hj
 dsimp only at hj ⊢
 have hjl:=refJ19_len h4 j
 repeat' (first|refine d1 ?_|fail)
 refine T_if rfl (fun h2=>?_) (fun h2=>?_)
 ·simp only [decide_eq_true_eq] at h2
  have hjn:j<n:=by omega
  rw [show ((n:Int) - ((j:Nat):Int))=((n - j:Nat):Int) by omega]
  have hsl:=subsL_len h4 (n - j) 0
  have h3:5 ^ (n - j)≤5 ^ 4:=Nat.pow_le_pow_right (by omega) (by omega)
  have h5:5 ^ 4=625:=by decide
  repeat' (first|refine d1 ?_|(show T _ (.ops _ (_::_)::_) _ _ _;refine T_op (OpT.call rfl rfl rfl rfl rfl (fun w hw=>subsets_spec (n - j) 0 n w (by omega) (by omega) h4) ?_))|fail)
  rintro x R ⟨_,-,rfl,rfl⟩
  refine T_le (H':=[dat [x] [rowsD ((subsL (n - j) 0 n).map intN)],row 47 1 A c (refJ19 n j).length hs,dat hs (((refJ19 n j).map intN).map intsD)]) (Hle.refl _) ?_
  refine T_open fun p hp=>?_
  obtain⟨Ax,cx,csx,rfl,hx1,hx2,hxl,hxr,hxrows⟩:=hp.tab
  rw [List.length_map] at hx1 hxl hxr ⊢
  have hsr:∀ {w':World} {H:List HA} [FocusZ H p],Cls w w' H→Src w' 1 Ax (subsL (n - j) 0 n).length csx:=fun {w' H} _ hw=>⟨by omega,fun hn9=>by
   obtain⟨bx,ox,rfl,hrx⟩:=hxr hn9
   exact⟨rfl,fun q u hu=>hw.fz (p:=p) _ _ _ (hrx q u hu)⟩⟩
  refine T_le (H':=[row 47 1 A c (refJ19 n j).length hs,dat hs (((refJ19 n j).map intN).map intsD),fz p]) Hle.srt ?_
  repeat' (first|refine d1 ?_|(show T _ (.ops _ (_::_)::_) _ _ _;refine T_op (OpT.append (A:=A) rfl rfl rfl rfl rfl rfl rfl rfl rfl rfl (fun w hw=>hsr hw) (oneRows hxrows) (by dsimp only;omega) (by omega) (fun A' cap' hA'=>?_)))|fail)
  refine T_backX (j+1,(A',cap'),hs++csx) (by dsimp only;omega) (by dsimp only;omega) (hE:=⟨by dsimp only;rw [show ((n:Int) - ((j+1:Nat):Int))=((n - j:Nat):Int) - 1 by omega];rfl,by dsimp only;rw [refJ19,List.length_append];rfl,trivial⟩) (hG:=?_)
  dsimp only
  rw [refJ19,List.length_append,List.map_append,List.map_append]
  exact (Hle.srt (K:=[fz p,dat hs (((refJ19 n j).map intN).map intsD),row 47 1 A' cap' ((refJ19 n j).length+(subsL (n - j) 0 n).length) (hs++csx)])).trans ((Hle.weaken (i:=0) rfl (fz_dat hxrows) rfl).trans (dat_join.trans (Hle.perm (List.Perm.swap _ _ _))))
 ·simp only [decide_eq_false_iff_not] at h2
  obtain rfl:j=n:=by omega
  rw [refJ19_all h1 h4]
  repeat' (first|refine d1 ?_|(show T _ (.code .ret::_) _ _ _;refine T_retV _ rfl dat_row ⟨_,trivial,rfl,by rfl⟩))
end Go.Proofs.YtblnhdnogjijiaaGreatDoor
namespace Go.Proofs.YtblnhdnogjijiaaGreatDoor
open Go.RowKit Go.Shelf

instance (priority:=low) SubP.same (H:List HA):SubP H H:=⟨id,fun i B h=>h,fun i j _ _ h=>h⟩
inductive Pq:List HA→List HA→Prop where
 | nil (H:List HA):Pq H []
 | same (H:List HA):Pq H H
 | cons {A:HA} {H H' K:List HA} (h:Rm A H H') (k:Pq H' K):Pq H (A::K)
 | drop {A:HA} {H K:List HA} (k:Pq H K):Pq (A::H) K
theorem Pq.spec {H K:List HA} (h:Pq H K):PickP H K:=by
 induction h with
 | nil H=>exact PickP.nil H
 | same H=>exact⟨id,fun i B h=>h,fun i j _ _ h=>h⟩
 | cons h _ ih=>exact PickP.cons _ _ _ _ (h:=h.spec) (k:=ih)
 | drop _ ih =>
  obtain⟨p,h1,h2⟩:=ih.at_
  exact⟨fun i=>p i+1,fun i B hi=>by simpa using h1 i B hi,fun i j hi hj hne=>by have:=h2 i j hi hj hne;dsimp only;omega⟩
end Go.Proofs.YtblnhdnogjijiaaGreatDoor
namespace Go.Proofs.YtblnhdnogjijiaaGreatDoor
open Go.RowKit Go.Shelf Go.Proofs
set_option maxRecDepth 100000
set_option maxHeartbeats 1000000

theorem usableR_spec (c:Costs) (A:Option Addr) (n ca:Nat) (l:List TS) (w:World) (hg:Grp w A n l):Spec Tryz.prog 116 [c.val, .slice A n ca] w (fun v R=>v = .int .i64 (usV c l)∧R=[]):=by
 have hn:=hg.hn
 have hb:=hg.hb
 refine spec_of sg Tryz.func116 rfl rfl rfl ?_
 refine T_op (OpT.box (cs:=c.cells) rfl rfl rfl rfl rfl rfl rfl (fun pc=>?_))
 repeat' (first|refine d1 ?_|(show T _ (.ops _ (_::_)::_) _ _ _;refine T_call rfl rfl rfl rfl rfl (fun w hw=>srcs19R_spec A n ca l w (hg.cls hw)) ?_)|fail)
 by_cases h0:n=0
 ·rw [if_pos h0]
  refine T_if rfl (fun h=>?_) (fun h=>by exfalso;simp at h)
  repeat' (first|refine d1 ?_|(show T _ (.code .ret::_) _ _ _;refine T_retV [] rfl (Hle.none _) ⟨congrArg (Value.int .i64) (if_pos (by omega)).symm,rfl⟩))
 rw [if_neg h0]
 refine T_if rfl (fun h=>by exfalso;simp at h) (fun _=>?_)
 repeat' (first|refine d1 ?_|(show T _ (.ops _ (_::_)::_) _ _ _;refine T_call rfl rfl rfl rfl rfl (fun w hw=>costRef_spec c w) ?_)|fail)
 refine T_if rfl (fun h=>?_) (fun h=>?_)
 ·have h1:costE c≠0:=by simpa using h
  repeat' (first|refine d1 ?_|(show T _ (.code .ret::_) _ _ _;refine T_retV [] rfl (Hle.none _) ⟨congrArg (Value.int .i64) ?_,rfl⟩))
  unfold usV ck21
  rw [if_neg (by omega),if_neg (fun h9=>h1 h9.1)]
 have hc:costE c=0:=by simpa using h
 clear h
 repeat' (first|refine d1 ?_|fail)
 refine T_loopX (fun i:Nat=>[(6, .int .i64 (i:Nat))]) (fun _=>[blk pc c.cells 23]) (fun i=>i≤n∧∀ j t,j<i→l[j]?=some t→badL t.l=false) (fun i=>n - i) 0 ⟨Nat.zero_le _,fun j t h=>by omega⟩ ?_
 rintro i ⟨hi,hok⟩
 repeat' (first|refine d1 ?_|fail)
 refine T_if rfl (fun h1=>?_) (fun h1=>?_)
 ·simp only [decide_eq_true_eq] at h1
  have hin:i<n:=by omega
  obtain⟨b,o,rfl⟩:=hg.hs.base (by omega)
  obtain⟨t,ht,htm,hr⟩:=hg.get hin
  have htl:=hg.ok.len t htm
  have htn:=hg.nb t htm
  repeat' (first|refine d1 ?_|fail)
  refine T_loopX (fun k:Nat=>[(7, .int .i64 (k:Nat))]) (fun _=>[blk pc c.cells 23]) (fun k=>k≤t.n∧∀ q x,q<k→t.l[q]?=some x→tokE x=0) (fun k=>t.n - k) 0 ⟨Nat.zero_le _,fun j t h=>by omega⟩ ?_
  rintro k ⟨hk,hokk⟩
  repeat' (first|refine d1 ?_|fail)
  refine T_if rfl (fun h2=>?_) (fun h2=>?_)
  ·simp only [decide_eq_true_eq] at h2
   have hkn:k<t.n:=by omega
   obtain⟨b4,o4,hsA⟩:=(hg.ok.src t htm).base (by omega)
   have hsr:RdC w b4 (o4+(k:Int).toNat * 6) (tkA t.l k).cells:=(hsA ▸ hg.ok.src t htm:Src w 6 (some ⟨b4,o4,none⟩) t.n (t.l.flatMap Tok.cells)).getT (k:=k) (by omega) (tkA_get (by omega))
   rw [hsA] at hr
   repeat' (first|refine d1 ?_|(show T _ (.ops _ (_::_)::_) _ _ _;refine T_call rfl rfl rfl rfl rfl (fun w hw=>tokRef_spec (tkA t.l k) w) ?_)|fail)
   refine T_if rfl (fun h3=>?_) (fun h3=>?_)
   ·have h4:tokE (tkA t.l k)≠0:=by simpa using h3
    have hbt:badS l=true:=List.any_eq_true.2 ⟨t,htm,List.any_eq_true.2 ⟨tkA t.l k,tkA_mem (by omega),by simpa using h4⟩⟩
    repeat' (first|refine d1 ?_|(show T _ (.code .ret::_) _ _ _;refine T_retV [] rfl (Hle.none _) ⟨congrArg (Value.int .i64) ?_,rfl⟩))
    unfold usV ck21
    rw [if_neg (by omega),if_neg (fun h9=>by rw [hbt] at h9;exact absurd h9.2 (by decide))]
   ·have h4:tokE (tkA t.l k)=0:=by simpa using h3
    repeat' (first|refine d1 ?_|fail)
    refine T_backX (k+1) ⟨by omega,fun q x hq hx=>?_⟩ (by omega)
    rcases Nat.lt_or_ge q k with h5|h5
    ·exact hokk q x h5 hx
    ·rw [show q=k by omega,tkA_get (by omega)] at hx
     cases hx
     exact h4
  ·simp only [decide_eq_false_iff_not] at h2
   repeat' (first|refine d1 ?_|fail)
   refine T_backX (i+1) ⟨by omega,fun j u hj hu=>?_⟩ (by omega)
   rcases Nat.lt_or_ge j i with h5|h5
   ·exact hok j u h5 hu
   ·rw [show j=i by omega,ht] at hu
    cases hu
    refine badL_false.2 fun x hx=>?_
    obtain⟨q,hq,e⟩:=List.getElem_of_mem hx
    exact hokk q x (by omega) (by rw [List.getElem?_eq_getElem hq,e])
 ·simp only [decide_eq_false_iff_not] at h1
  have hbs:badS l=false:=List.any_eq_false.2 fun t ht=>by
   obtain⟨q,hq,e⟩:=List.getElem_of_mem ht
   rw [hok q t (by omega) (by rw [List.getElem?_eq_getElem hq,e])];simp
  repeat' (first|refine d1 ?_|(show T _ (.code .ret::_) _ _ _;refine T_retV [] rfl (Hle.none _) ⟨congrArg (Value.int .i64) ?_,rfl⟩))
  unfold usV ck21
  rw [if_neg (by omega),if_pos ⟨hc,hbs⟩]
def ownR (l:List TS) (col:List Int) (a:Tok) (k:Nat):List Tok:=(List.range l.length).map fun s=>if s<k then (if 0≤col.getD s (-1) then tkA (tsA l s).l (col.getD s (-1)).toNat else a) else noTok
theorem ownR_len (l:List TS) (col:List Int) (a:Tok) (k:Nat):(ownR l col a k).length=l.length:=by simp [ownR]
theorem ownR_zero (l:List TS) (col:List Int) (a:Tok):ownR l col a 0=List.replicate l.length noTok:=by
 refine List.ext_getElem? fun s=>?_
 unfold ownR
 rw [List.getElem?_map,List.getElem?_replicate]
 rcases Nat.lt_or_ge s l.length with h|h
 ·rw [List.getElem?_range h,if_pos h];simp
 ·rw [if_neg (by omega),List.getElem?_eq_none (by simp;omega)];rfl
theorem ownR_set {l:List TS} {col:List Int} {a x:Tok} {k:Nat} (hk:k<l.length) (hx:x=if 0≤col.getD k (-1) then tkA (tsA l k).l (col.getD k (-1)).toNat else a):(ownR l col a k).set k x=ownR l col a (k+1):=by
 refine List.ext_getElem? fun s=>?_
 unfold ownR
 rw [List.getElem?_set,List.getElem?_map,List.getElem?_map,List.length_map,List.length_range]
 by_cases e:k=s
 ·subst e
  rw [if_pos rfl,if_pos hk,List.getElem?_range hk,Option.map_some,if_pos (by omega),hx]
 ·rw [if_neg e]
  rcases Nat.lt_or_ge s l.length with h2|h2
  ·rw [List.getElem?_range h2,Option.map_some,Option.map_some]
   by_cases h3:s<k
   ·rw [if_pos h3,if_pos (show s<k+1 by omega)]
   ·rw [if_neg h3,if_neg (show ¬ s<k+1 by omega)]
  ·rw [List.getElem?_eq_none (by simp;omega)];rfl
theorem ownR_colV {w:World} {A:Option Addr} {n:Nat} {l:List TS} (hg:Grp w A n l) {c:Costs} (hc:costE c=0) (hbs:badS l=false) {col:List Int} (hco:ColOk l col) (a:Tok):columnV c (ownR l col a l.length) (thJ l col l.length)=(colZ c l col,0):=by
 have hb:=hg.hb
 have hn:=hg.hn
 refine columnV_Z hc hbs hg.ok.len (by omega) hco (ownR_len _ _ _ _) (thJ_len _ _ _) (fun i hi=>?_) (fun i hi h0=>?_)
 ·unfold thA thJ
  rw [List.getD_eq_getElem?_getD,List.getElem?_map,List.getElem?_range hi]
  show decide (i<l.length∧0≤col.getD i (-1))=_
  by_cases h:0≤col.getD i (-1)
  ·rw [decide_eq_true h,decide_eq_true ⟨hi,h⟩]
  ·rw [decide_eq_false h,decide_eq_false (fun h9=>h h9.2)]
 ·have e:(ownR l col a l.length)[i]?=some (tkA (tsA l i).l (col.getD i (-1)).toNat):=by
   unfold ownR
   rw [List.getElem?_map,List.getElem?_range hi,Option.map_some,if_pos hi,if_pos h0]
  unfold tkA at e ⊢
  rw [List.getD_eq_getElem?_getD (l:=ownR l col a l.length),e]
  rfl
theorem columnCostR_spec (c:Costs) (A Ac:Option Addr) (n ca cc:Nat) (l:List TS) (col:List Int) (w:World) (hg:Grp w A n l) (hc:costE c=0) (hbs:badS l=false) (hcs:Src w 1 Ac n (col.map (Value.int .i64))) (hco:ColOk l col) :
  Spec Tryz.prog 122 [c.val, .slice A n ca, .slice Ac n cc] w (fun v R=>v = .int .i64 (colZ c l col)∧R=[]):=by
 have hn:=hg.hn
 subst hn
 have hb:=hg.hb
 refine spec_of sg Tryz.func122 rfl rfl rfl ?_
 refine T_op (OpT.box (cs:=c.cells) rfl rfl rfl rfl rfl rfl rfl (fun pc=>?_))
 repeat' (first|refine d1 ?_|fail)
 refine T_cutX 1 [7,8] (fun s:Nat × Nat=>[(7, .slice (some ⟨s.1,0,none⟩) l.length l.length),(8, .slice (some ⟨s.2,0,none⟩) l.length l.length)]) (fun s=>[blk s.1 (madeCells (noTok.val).cells (l.length * (noTok.val).cells.size)).toList 42,blk s.2 (List.replicate l.length (.bool false)) 4,blk pc c.cells 23]) (fun _=>True) ?_ ?_
 ·refine dw0 1000 [blk pc c.cells 23] ?_
  repeat' (first|(show T _ (.draw _ _ _ _ _::_) _ _ _;first|refine dw1 ?_|refine dwb rfl (by decide +kernel) ?_)|(show AllL _ [];exact True.intro)|(show AllL _ (_::_);refine ⟨?_,?_⟩)|(show OpT _ _ _ _ _ _ _;first|refine dwx ?_|refine OpT.makeC rfl rfl rfl rfl rfl rfl (by dsimp only;omega) (fun b2=>⟨fun _=>(by first|exact Hle.none _|exact Hle.sub|exact absurd ‹_› (by decide +kernel)),?_⟩))|(show ∀ _:Nat,T _ _ _ _ _;intro _)|(show T _ (.mark _::_) _ _ _;exact T_meetX (_,_) trivial (hG:=by exact Hle.srt)))
 rintro⟨b2,b3⟩ _
 dsimp only
 refine T_le (H':=[blk b2 ((List.replicate l.length noTok).flatMap Tok.cells) 42,blk b3 ((thJ l col 0).map Value.bool) 4,blk pc c.cells 23]) (by rw [thJ_zero,made_toks,List.map_replicate];exact Hle.refl _) ?_
 repeat' (first|refine d1 ?_|(show ∀ _:Nat,T _ _ _ _ _;intro _))
 rename_i b9
 refine T_loopX (fun s:Nat × Tok=>[(10, .int .i64 (s.1:Nat))]) (fun s=>[blk b9 s.2.cells 42,blk b2 ((List.replicate l.length noTok).flatMap Tok.cells) 42,blk b3 ((thJ l col 0).map Value.bool) 4,blk pc c.cells 23]) (fun s=>s.1≤l.length) (fun s=>l.length - s.1) (0,noTok) (Nat.zero_le _) ?_
 rintro⟨k,a⟩ hk
 dsimp only at hk ⊢
 repeat' (first|refine d1 ?_|fail)
 refine T_if rfl (fun h=>?_) (fun h=>?_)
 ·simp only [decide_eq_true_eq] at h
  have hkn:k<l.length:=by omega
  obtain⟨b1,o1,rfl⟩:=hcs.base (by omega)
  obtain⟨b,o,rfl⟩:=hg.hs.base (by omega)
  obtain⟨s,hs,hsmem,hr⟩:=hg.get hkn
  obtain⟨z,hz⟩:∃ z,col[k]?=some z:=⟨_,List.getElem?_eq_getElem (by have:=hco.1;omega)⟩
  have hr1:=src_int hcs hkn hz
  obtain⟨hz1,hz2⟩:=hco.2 k z s hz hs
  have hsl:=hg.ok.len s hsmem
  have hsn:=hg.nb s hsmem
  repeat' (first|refine d1 ?_|fail)
  refine T_if rfl (fun h1=>?_) (fun h1=>?_)
  ·simp only [decide_eq_true_eq] at h1
   obtain⟨b4,o4,hsA⟩:=(hg.ok.src s hsmem).base (by omega)
   have hsr:RdC w b4 (o4+z.toNat * 6) (tkA s.l z.toNat).cells:=(hsA ▸ hg.ok.src s hsmem:Src w 6 (some ⟨b4,o4,none⟩) s.n (s.l.flatMap Tok.cells)).getT (k:=z.toNat) (by omega) (tkA_get (by omega))
   rw [hsA] at hr
   repeat' (first|refine d1 ?_|refine dd ?_|(show T _ (.run _ _ (_::_) _ _::_) _ _ _;refine ro rfl rfl (OpT.storeA (us:=(tkA s.l z.toNat).cells) rfl rfl rfl rfl rfl rfl (by show 0+6≤6;omega) ⟨fun hlv=>absurd hlv (by decide +kernel),?_⟩))|fail)
   exact T_backX (k+1,tkA s.l z.toNat) (by dsimp only;omega) (by dsimp only;omega)
  ·repeat' (first|refine d1 ?_|fail)
   exact T_backX (k+1,a) (by dsimp only;omega) (by dsimp only;omega)
 simp only [decide_eq_false_iff_not] at h
 clear h hk
 repeat' (first|refine d1 ?_|fail)
 refine T_loopX (fun q:Nat=>[(11, .int .i64 (q:Nat))]) (fun q=>[blk b9 a.cells 42,blk b2 ((ownR l col a q).flatMap Tok.cells) 42,blk b3 ((thJ l col q).map Value.bool) 4,blk pc c.cells 23]) (fun q=>q≤l.length) (fun q=>l.length - q) 0 (Nat.zero_le _) ?_ (hG:=by rw [ownR_zero];exact Hle.refl _)
 rintro q hq
 repeat' (first|refine d1 ?_|fail)
 refine T_if rfl (fun h=>?_) (fun h=>?_)
 ·simp only [decide_eq_true_eq] at h
  have hqn:q<l.length:=by omega
  obtain⟨b1,o1,rfl⟩:=hcs.base (by omega)
  obtain⟨b,o,rfl⟩:=hg.hs.base (by omega)
  obtain⟨s,hs,hsmem,hr⟩:=hg.get hqn
  obtain⟨z,hz⟩:∃ z,col[q]?=some z:=⟨_,List.getElem?_eq_getElem (by have:=hco.1;omega)⟩
  have hr1:=src_int hcs hqn hz
  obtain⟨hz1,hz2⟩:=hco.2 q z s hz hs
  have hsl:=hg.ok.len s hsmem
  have hsn:=hg.nb s hsmem
  have hzd:col.getD q (-1)=z:=by rw [List.getD_eq_getElem?_getD,hz];rfl
  repeat' (first|refine d1 ?_|(show T _ (.ops _ (_::_)::_) _ _ _;refine T_op (OpT.storeA (us:=a.cells) rfl rfl rfl rfl rfl rfl (by rw [flatT_length,ownR_len,show a.cells.length=6 from rfl];omega) ?_))|fail)
  have e1:setL ((ownR l col a q).flatMap Tok.cells) (0+(q:Int).toNat * 6) a.cells=((ownR l col a q).set q a).flatMap Tok.cells:=by rw [show 0+(q:Int).toNat * 6=q * 6 by omega,flatTok_set _ _ _ (by rw [ownR_len];exact hqn)]
  rw [e1]
  refine T_if rfl (fun h1=>?_) (fun h1=>?_)
  ·simp only [decide_eq_true_eq] at h1
   obtain⟨b4,o4,hsA⟩:=(hg.ok.src s hsmem).base (by omega)
   have hsr:RdC w b4 (o4+z.toNat * 6) (tkA s.l z.toNat).cells:=(hsA ▸ hg.ok.src s hsmem:Src w 6 (some ⟨b4,o4,none⟩) s.n (s.l.flatMap Tok.cells)).getT (k:=z.toNat) (by omega) (tkA_get (by omega))
   rw [hsA] at hr
   have e2:=ownR_set (l:=l) (col:=col) (a:=a) (x:=tkA s.l z.toNat) hqn (by rw [hzd,if_pos h1,tsA_eq hs])
   have e3:=thJ_tok (l:=l) (col:=col) hqn (by rw [hzd];exact h1)
   have e4:setL (((ownR l col a q).set q a).flatMap Tok.cells) (0+(q:Int).toNat * 6) (tkA s.l z.toNat).cells=(ownR l col a (q+1)).flatMap Tok.cells:=by rw [show 0+(q:Int).toNat * 6=q * 6 by omega,flatTok_set _ _ _ (by rw [List.length_set,ownR_len];exact hqn),List.set_set,e2]
   have e5:((thJ l col q).map Value.bool).set (0+(q:Int).toNat * 1) (.bool true)=(thJ l col (q+1)).map Value.bool:=by rw [← e3,List.map_set,show 0+(q:Int).toNat * 1=q by omega]
   refine T_cutX 1 [] (fun _:Unit=>[]) (fun _=>[blk b9 a.cells 42,blk b2 ((ownR l col a (q+1)).flatMap Tok.cells) 42,blk b3 ((thJ l col (q+1)).map Value.bool) 4,blk pc c.cells 23]) (fun _=>True) ?_ ?_
   ·refine dw0 1000 [] ?_
    repeat' (first|(show T _ (.draw _ _ _ _ _::_) _ _ _;first|refine dw1 ?_|refine dwb rfl (by decide +kernel) ?_)|(show AllL _ [];exact True.intro)|(show AllL _ (_::_);refine ⟨?_,?_⟩)|(show OpT _ _ _ _ _ _ _;first|refine OpT.storeA (us:=(tkA s.l z.toNat).cells) rfl rfl rfl rfl rfl rfl (by rw [flatT_length,List.length_set,ownR_len,show (tkA s.l z.toNat).cells.length=6 from rfl];omega) ⟨fun _=>Hle.none _,?_⟩|refine OpT.store rfl rfl rfl rfl (by rw [List.length_map,thJ_len];omega) ⟨fun _=>Hle.none _,?_⟩)|(show T _ (.mark _::_) _ _ _;exact T_meetX () trivial (hG:=by rw [e4,e5];exact Hle.refl _)))
   rintro - -
   repeat' (first|refine d1 ?_|fail)
   exact T_backX (q+1) (by omega) (by omega)
  ·simp only [decide_eq_false_iff_not] at h1
   have e2:=ownR_set (l:=l) (col:=col) (a:=a) (x:=a) hqn (by rw [hzd,if_neg h1])
   repeat' (first|refine d1 ?_|fail)
   exact T_backX (q+1) (by omega) (by omega) (hG:=by rw [e2,thJ_gap (by rw [hzd];exact h1)];exact Hle.refl _)
 ·simp only [decide_eq_false_iff_not] at h
  obtain rfl:q=l.length:=by omega
  repeat' (first|refine d1 ?_|(show T _ (.ops _ (_::_)::_) _ _ _;refine T_call rfl rfl rfl rfl rfl (fun w hw=>columnRef_spec c (some ⟨b2,0,none⟩) (some ⟨b3,0,none⟩) l.length l.length l.length l.length (ownR l col a l.length) (thJ l col l.length) w (Src.own hw (by rw [flatT_length,ownR_len])) (ownR_len _ _ _ _) (by omega) (Src.own hw (by rw [List.length_map,thJ_len,Nat.mul_one])) (thJ_len _ _ _) (by omega)) ?_)|fail)
  rw [ownR_colV hg hc hbs hco]
  repeat' (first|(show T _ (.code .ret::_) _ _ _;refine T_retV [] rfl (Hle.none _) ⟨rfl,rfl⟩))
end Go.Proofs.YtblnhdnogjijiaaGreatDoor
namespace Go.Proofs.YtblnhdnogjijiaaGreatDoor
open Go.RowKit Go.Shelf Go.Proofs
set_option maxRecDepth 100000
set_option maxHeartbeats 1000000

theorem numL_app1:∀ {a b:List Nat} (x y:Nat),a.length=b.length→numL (a++[x]) (b++[y])=numL a b * (x+1)+y
 | [],[],x,y,_=>by show y * 1+0=0 * (x+1)+y;omega
 | n::a,c::b,x,y,h=>by
  show c * volL (a++[x])+numL (a++[x]) (b++[y])=(c * volL a+numL a b) * (x+1)+y
  rw [numL_app1 x y (by simpa using h),volL_app,Nat.add_mul,Nat.mul_assoc]
  have:volL [x]=x+1:=Nat.mul_one _
  rw [this];omega
 | [],c::b,_,_,h=>by simp at h
 | n::a,[],_,_,h=>by simp at h
theorem InB.take:∀ {ls v:List Nat},InB ls v→∀ k,InB (ls.take k) (v.take k)
 | [],[],_,k=>by simp [InB]
 | n::ls,a::v,h,0=>trivial
 | n::ls,a::v,h,k+1=>⟨h.1,InB.take h.2 k⟩
 | [],a::v,h,_=>h.elim
 | n::ls,[],h,_=>h.elim
theorem numP_lt {ls v:List Nat} (h:InB ls v) (k:Nat):numL (ls.take k) (v.take k)<volL ls:=Nat.lt_of_lt_of_le (numL_lt (h.take k)) (volL_take ls k)
theorem numP_succ {ls v:List Nat} (h:InB ls v) {k n a:Nat} (hk:ls[k]?=some n) (ha:v[k]?=some a):numL (ls.take (k+1)) (v.take (k+1))=numL (ls.take k) (v.take k) * (n+1)+a:=by
 have hl:=h.len
 rw [take_snoc _ _ _ hk,take_snoc _ _ _ ha,numL_app1 _ _ (by rw [List.length_take,List.length_take,hl])]
theorem intN_get {v:List Nat} {k a:Nat} (h:v[k]?=some a):(intN v)[k]?=some (a:Int):=by unfold intN;rw [List.getElem?_map,h];rfl
theorem intN_len (v:List Nat):(intN v).length=v.length:=by unfold intN;rw [List.length_map]
theorem place19R_spec (A At:Option Addr) (n ca ct:Nat) (l:List TS) (v:List Nat) (w:World) (hg:Grp w A n l) (hv:InB (lens l) v) (hV:volL (lens l)≤1000000) (hs:Src w 1 At n ((intN v).map (Value.int .i64))) :
  Spec Tryz.prog 120 [.slice A n ca, .slice At n ct] w (fun u R=>u = .int .i64 (numL (lens l) v:Nat)∧R=[]):=by
 have hn:=hg.hn
 have hb:=hg.hb
 have hll:=lens_len l
 have hvl:=hv.len
 refine spec_of sg Tryz.func120 rfl rfl rfl ?_
 repeat' (first|refine d1 ?_|fail)
 refine T_loopX (fun k:Nat=>[(6, .int .i64 (k:Nat)),(5, .int .i64 (numL ((lens l).take k) (v.take k):Nat))]) (fun _=>[]) (fun k=>k≤n) (fun k=>n - k) 0 (Nat.zero_le _) ?_
 intro k hk
 have hlt:=numP_lt hv k
 repeat' (first|refine d1 ?_|fail)
 refine T_if rfl (fun h=>?_) (fun h=>?_)
 ·simp only [decide_eq_true_eq] at h
  have hkn:k<n:=by omega
  obtain⟨b,o,rfl⟩:=hg.hs.base (by omega)
  obtain⟨ba,oa,rfl⟩:=hs.base (by omega)
  obtain⟨t,ht,htm,hrt⟩:=hg.get (k:=k) hkn
  obtain⟨a,ha⟩:∃ a,v[k]?=some a:=⟨_,List.getElem?_eq_getElem (by omega)⟩
  have hra:=src_int hs hkn (intN_get ha)
  have htb:=hg.nb t htm
  have hst:=numP_succ hv (lens_get ht) ha
  have hlt2:=numP_lt hv (k+1)
  have e:((numL ((lens l).take k) (v.take k):Nat):Int) * ((t.n:Int)+1)=((numL ((lens l).take k) (v.take k) * (t.n+1):Nat):Int):=by simp
  have e2:((numL ((lens l).take (k+1)) (v.take (k+1)):Nat):Int)=((numL ((lens l).take k) (v.take k):Nat):Int) * ((t.n:Int)+1)+(a:Int):=by rw [hst];simp
  generalize numL ((lens l).take k) (v.take k)=q at hlt hst e e2 ⊢
  repeat' (first|refine d1 ?_|refine dd ?_|fail)
  exact T_backX (k+1) (by omega) (by omega) (hE:=⟨rfl,by rw [e2];rfl,trivial⟩)
 ·simp only [decide_eq_false_iff_not] at h
  obtain rfl:k=n:=by omega
  rw [List.take_of_length_le (by omega),List.take_of_length_le (by omega)]
  repeat' (first|refine d1 ?_|(show T _ (.code .ret::_) _ _ _;refine T_retV [] rfl (Hle.none _) ⟨rfl,rfl⟩))
theorem valV_neg (n:Nat):valV (fun q=>if q<n then (-1:Int) else 0) n=List.replicate n (.int .i64 (-1)):=by
 unfold valV
 refine List.eq_replicate_iff.2 ⟨by simp,fun x hx=>?_⟩
 obtain⟨q,hq,rfl⟩:=List.mem_map.1 hx
 show Value.int .i64 (if q<n then (-1:Int) else 0)=_
 rw [if_pos (List.mem_range.1 hq)]
theorem column19R_spec (A At Am:Option Addr) (n ca ct cm:Nat) (l:List TS) (v m:List Nat) (w:World) (hg:Grp w A n l) (hv:InB (lens l) v) (hm:∀ s∈m,s<n) (hml:m.length≤1000) (hs:Src w 1 At n ((intN v).map (Value.int .i64))) (hms:Src w 1 Am m.length ((intN m).map (Value.int .i64))) :
  Spec Tryz.prog 121 [.slice A n ca, .slice At n ct, .slice Am m.length cm] w (fun u R=>∃ b:Nat,(possM (lens l) v m=true∧u = .tuple #[.slice (some ⟨b,0,none⟩) n n, .bool true]∧R=[row 3 1 (some ⟨b,0,none⟩) n n ((colT v m).map (Value.int .i64))])∨(possM (lens l) v m=false∧u = .tuple #[.slice none 0 0, .bool false]∧R=[])):=by
 have hn:=hg.hn
 have hb:=hg.hb
 have hll:=lens_len l
 have hvl:=hv.len
 refine spec_of sg Tryz.func121 rfl rfl rfl ?_
 repeat' (first|refine d1 ?_|(show T _ (.ops _ (_::_)::_) _ _ _;refine T_op (OpT.make rfl rfl rfl rfl rfl rfl rfl rfl rfl (by dsimp only;omega) (fun b1=>?_)))|fail)
 have hz:List.replicate n (Value.int .i64 0)=valV (fun q=>if q<0 then (-1:Int) else 0) n:=by
  rw [valV_replicate];exact valV_ext fun q _=>by rw [if_neg (by omega)]
 refine T_loopX (fun k:Nat=>[(9, .int .i64 (k:Nat))]) (fun k=>[blk b1 (valV (fun q=>if q<k then (-1:Int) else 0) n) 3]) (fun k=>k≤n) (fun k=>n - k) 0 (Nat.zero_le _) ?_ (hG:=by rw [← hz];exact Hle.refl _)
 intro k hk
 repeat' (first|refine d1 ?_|fail)
 refine T_if rfl (fun h=>?_) (fun h=>?_)
 ·simp only [decide_eq_true_eq] at h
  repeat' (first|refine d1 ?_|(show T _ (.ops _ (_::_)::_) _ _ _;refine T_op (OpT.store rfl rfl rfl rfl (by rw [valV_length];omega) ?_))|fail)
  refine T_backX (k+1) (by omega) (by omega) (hG:=?_)
  rw [show 0+(k:Int).toNat * 1=k by omega,valV_put]
  have e:valV (fun q=>if q=k then (-1:Int) else if q<k then -1 else 0) n=valV (fun q=>if q<k+1 then (-1:Int) else 0) n:=valV_ext fun q _=>by
   by_cases e:q=k
   ·rw [if_pos e,if_pos (by omega)]
   ·rw [if_neg e]
    by_cases e2:q<k
    ·rw [if_pos e2,if_pos (by omega)]
    ·rw [if_neg e2,if_neg (by omega)]
  rw [e]
  exact Hle.refl _
 simp only [decide_eq_false_iff_not] at h
 obtain rfl:k=n:=by omega
 have hz0:valV (fun q=>if q<k then (-1:Int) else 0) k=(colMv v (m.take 0) (List.replicate k (-1))).map (Value.int .i64):=by rw [valV_neg,List.take_zero];unfold colMv;rw [List.map_replicate]
 rw [hz0]
 repeat' (first|refine d1 ?_|fail)
 refine T_loopX (fun s:Nat=>[(10, .int .i64 (s:Nat))]) (fun s=>[blk b1 ((colMv v (m.take s) (List.replicate k (-1))).map (Value.int .i64)) 3]) (fun s=>s≤m.length∧possM (lens l) v (m.take s)=true) (fun s=>m.length - s) 0 ⟨Nat.zero_le _,by rw [List.take_zero];rfl⟩ ?_
 rintro s ⟨hsm,hpo⟩
 have hcl:((colMv v (m.take s) (List.replicate k (-1))).map (Value.int .i64)).length=k:=by rw [List.length_map,colMv_len,List.length_replicate]
 repeat' (first|refine d1 ?_|fail)
 refine T_if rfl (fun h2=>?_) (fun h2=>?_)
 ·simp only [decide_eq_true_eq] at h2
  have hsl:s<m.length:=by omega
  obtain⟨u,hu⟩:∃ u,m[s]?=some u:=⟨_,List.getElem?_eq_getElem hsl⟩
  have hun:=hm u (List.mem_of_getElem? hu)
  obtain⟨b,o,rfl⟩:=hg.hs.base (by omega)
  obtain⟨ba,oa,rfl⟩:=hs.base (by omega)
  obtain⟨bm,om,rfl⟩:=hms.base (by omega)
  obtain⟨t,ht,htm,hrt⟩:=hg.get (k:=u) hun
  obtain⟨a,ha⟩:∃ a,v[u]?=some a:=⟨_,List.getElem?_eq_getElem (by omega)⟩
  have hra:=src_int hs hun (intN_get ha)
  have hrm:=src_int hms hsl (intN_get hu)
  have htk:=take_snoc _ _ _ hu
  have hgv:v.getD u 0=a:=by rw [List.getD_eq_getElem?_getD,ha];rfl
  have hgl:(lens l).getD u 0=t.n:=by rw [List.getD_eq_getElem?_getD,lens_get ht];rfl
  have hps:possM (lens l) v (m.take (s+1))=decide (a<t.n):=by rw [htk,possM_snoc,hpo,hgv,hgl];rfl
  repeat' (first|refine dd ?_|fail)
  refine T_if rfl (fun h3=>?_) (fun h3=>?_)
  ·have hno:possM (lens l) v m=false:=by
    rw [← Bool.not_eq_true]
    intro h9
    have h8:=possM_iff.1 h9 u (List.mem_of_getElem? hu)
    rw [hgv,hgl] at h8
    simp at h3
    omega
   repeat' (first|refine d1 ?_|(show T _ (.code .ret::_) _ _ _;refine T_retV [] rfl (Hle.none _) ⟨0, .inr ⟨hno,rfl,rfl⟩⟩))
  ·have hyes:a<t.n:=by simp at h3;omega
   repeat' (first|refine d1 ?_|refine dd ?_|(show T _ (.run _ _ (_::_) _ _::_) _ _ _;refine ro rfl rfl (OpT.store rfl rfl rfl rfl (by rw [hcl];omega) ⟨fun hlv=>absurd hlv (by decide +kernel),?_⟩))|fail)
   refine T_backX (s+1) ⟨by omega,by rw [hps];exact decide_eq_true hyes⟩ (by omega) (hG:=?_)
   rw [htk,colMv_snoc,List.map_set,hgv,show 0+(u:Int).toNat * 1=u by omega]
   exact Hle.refl _
 ·simp only [decide_eq_false_iff_not] at h2
  obtain rfl:s=m.length:=by omega
  rw [List.take_length] at hpo hcl ⊢
  have hct:colMv v m (List.replicate k (-1))=colT v m:=by unfold colT;rw [hvl,hll,hn]
  rw [hct] at hcl ⊢
  refine T_blk_rowh 1 k (by rw [hcl];omega) (by omega) ?_
  repeat' (first|refine d1 ?_|(show T _ (.code .ret::_) _ _ _;refine T_retV _ rfl (Hle.refl _) ⟨b1, .inl ⟨hpo,rfl,rfl⟩⟩))
theorem toM_snoc:∀ (m v:List Nat) (u:Nat),toM v (m++[u])=(toM v m).set u ((toM v m).getD u 0+1)
 | [],v,u=>rfl
 | s::m,v,u=>toM_snoc m (v.set s (v.getD s 0+1)) u
theorem intN_set (v:List Nat) (u x:Nat):intN (v.set u x)=(intN v).set u (x:Int):=by unfold intN;rw [List.map_set]
theorem behind19R_spec (At Am:Option Addr) (n ct cm:Nat) (v m:List Nat) (w:World) (hvl:v.length=n) (hn:n≤1000) (hvb:∀ x∈v,x≤1000000) (hm:∀ s∈m,s<n) (hml:m.length≤1000) (hs:Src w 1 At n ((intN v).map (Value.int .i64))) (hms:Src w 1 Am m.length ((intN m).map (Value.int .i64))) :
  Spec Tryz.prog 123 [.slice At n ct, .slice Am m.length cm] w (fun u R=>∃ x:Option Addr × Nat,True∧u = .slice x.1 n x.2∧R=[row 3 1 x.1 x.2 n ((intN (toM v m)).map (Value.int .i64))]):=by
 refine spec_of sg Tryz.func123 rfl rfl rfl ?_
 repeat' (first|refine d1 ?_|(show ∀ _:Nat,T _ _ _ _ _;intro _))
 rename_i b7
 refine T_le (H':=[row 3 1 (some ⟨b7,0,none⟩) 0 0 []]) (Hle.weaken (i:=0) rfl (blk_row (sz:=1) (n:=0) rfl (by simp only [maxLen];omega)) rfl) ?_
 repeat' (first|refine d1 ?_|(show T _ (.ops _ (_::_)::_) _ _ _;refine T_op (OpT.append (A:=some ⟨b7,0,none⟩) rfl rfl rfl rfl rfl rfl rfl rfl rfl rfl (fun w hw=>src_below hs hw.below) (oneInts _) (by dsimp only;omega) (by omega) (fun A6 cap6 hA6=>?_)))|fail)
 rw [Nat.zero_add,List.nil_append] at *
 have hub:∀ j,j≤1000→∀ (k:Nat),k=j→∀ u,(toM v (m.take k)).getD u 0≤1000000+k:=by
  intro j
  induction j with
  | zero =>
   rintro - k rfl u
   rw [List.take_zero]
   show v.getD u 0≤_
   rw [List.getD_eq_getElem?_getD]
   cases hq:v[u]? with
   | none=>simp
   | some x=>exact Nat.le_trans (hvb x (List.mem_of_getElem? hq)) (Nat.le_add_right _ _)
  | succ j ih =>
   rintro hj k rfl u
   have h9:=ih (by omega) j rfl
   cases hq:m[j]? with
   | none =>
    have:m.take (j+1)=m.take j:=by
     have h8:=List.getElem?_eq_none_iff.1 hq
     rw [List.take_of_length_le (by omega),List.take_of_length_le h8]
    rw [this]
    have:=h9 u
    omega
   | some x =>
    rw [take_snoc _ _ _ hq,toM_snoc]
    have h7:=h9 x
    have h6:=h9 u
    by_cases e:x=u
    ·subst e
     by_cases hx:x<(toM v (m.take j)).length
     ·rw [set_self hx];omega
     ·rw [List.set_eq_of_length_le (by omega)];omega
    ·rw [set_other e];omega
 refine T_loopX (fun s:Nat=>[(6, .int .i64 (s:Nat))]) (fun s=>[row 3 1 A6 cap6 n ((intN (toM v (m.take s))).map (Value.int .i64))]) (fun s=>s≤m.length) (fun s=>m.length - s) 0 (Nat.zero_le _) ?_
 intro s hsm
 repeat' (first|refine d1 ?_|fail)
 refine T_if rfl (fun h2=>?_) (fun h2=>?_)
 ·simp only [decide_eq_true_eq] at h2
  have hsl:s<m.length:=by omega
  obtain⟨u,hu⟩:∃ u,m[s]?=some u:=⟨_,List.getElem?_eq_getElem hsl⟩
  have hun:=hm u (List.mem_of_getElem? hu)
  obtain⟨g,rfl⟩:=hA6 (by omega)
  obtain⟨bm,om,rfl⟩:=hms.base (by omega)
  have hrm:=src_int hms hsl (intN_get hu)
  have htk:=take_snoc _ _ _ hu
  have htl:(toM v (m.take s)).length=n:=by rw [toM_len,hvl]
  obtain⟨a,ha⟩:∃ a,(toM v (m.take s))[u]?=some a:=⟨_,List.getElem?_eq_getElem (by omega)⟩
  have hga:(toM v (m.take s)).getD u 0=a:=by rw [List.getD_eq_getElem?_getD,ha];rfl
  have hab:=hub s (by omega) s rfl u
  rw [hga] at hab
  repeat' (first|refine d1 ?_|(show T _ (.ops _ (_::_)::_) _ _ _;first|refine T_val rfl (Val.load rfl (fun hg=>(fun w hw=>src_int (srcRw w hw) hun (intN_get ha)))) rfl rfl rfl ?_|refine T_op (OpT.storeR (us:=[.int .i64 ((a:Int)+1)]) rfl rfl rfl rfl rfl rfl (by show 0+(u:Int).toNat * 1+1≤n * 1;omega) ?_))|fail)
  refine T_backX (s+1) (by omega) (by omega) (hG:=?_)
  rw [htk,toM_snoc,hga,intN_set,List.map_set,show 0+(u:Int).toNat * 1=u by omega]
  exact Hle.refl _
 ·simp only [decide_eq_false_iff_not] at h2
  obtain rfl:s=m.length:=by omega
  rw [List.take_length]
  repeat' (first|refine d1 ?_|(show T _ (.code .ret::_) _ _ _;refine T_retV _ rfl (Hle.refl _) ⟨(A6,cap6),trivial,rfl,rfl⟩))
end Go.Proofs.YtblnhdnogjijiaaGreatDoor
namespace Go.Proofs.YtblnhdnogjijiaaGreatDoor
open Go.RowKit Go.Shelf Go.Proofs
set_option maxRecDepth 100000
set_option maxHeartbeats 1000000

def goodK (F:Nat→Int) (V:Nat) (L:List Int):Prop:=L.length=V∧∀ (q:Nat) (z:Int),L[q]?=some z→z = -1∨z=F q
theorem srcRH {w0 w:World} {H:List HA} {A:Option Addr} {e sz cap n:Nat} {xs:List Value} {rb:HA→List HA} [FocusR H A e sz cap n xs rb] (hw:Cls w0 w H):Src w sz A n xs :=
 srcRw (C:=⟨sg,⟨0,[]⟩,w0,none,fun _ _=>True,fun _ _=>True,fun _ _ _=>True⟩) (e:=e) (cap:=cap) (rb:=rb) w hw
theorem goodK.put {F:Nat→Int} {V:Nat} {L:List Int} (h:goodK F V L) (p:Nat):goodK F V (L.set p (F p)):=by
 refine ⟨by rw [List.length_set];exact h.1,fun q z hz=>?_⟩
 by_cases e:p=q
 ·subst e
  rw [List.getElem?_set] at hz
  simp only [if_true] at hz
  split at hz
  ·injection hz with hz;exact .inr hz.symm
  ·cases hz
 ·rw [List.getElem?_set_ne e] at hz
  exact h.2 q z hz
theorem rsV_max {K:List Int→Int} (hK:∀ x,0≤K x) {ls:List Nat} {n:Nat} {Ms:List (List Nat)} (hM:MvsOk n Ms) (hn:ls.length=n) {v:List Nat} (hv:InB ls v):max (foldB (possM ls v) (mcV K ls Ms v) Ms (-1)) 0=rsV K ls Ms v:=by
 by_cases he:v=ls
 ·subst he
  rw [foldB_none (poss_none hM hn hv (Nat.sub_self _)),rsV_end];rfl
 ·rw [← rsV_step hK hM hn hv he]
  have:=rsV_nn K ls Ms v
  omega
theorem rest19_spec {c:Costs} {A:Option Addr} {n ca:Nat} {l:List TS} {w0:World} (hg:Grp w0 A n l) (hc:costE c=0) (hbs:badS l=false) (h1:1≤n) (h4:n≤4) (hV:volL (lens l)≤65536):∀ (d:Nat) (v:List Nat) (At:Option Addr) (ct b9:Nat) (L:List Int) (K:List HA),InB (lens l) v→sumL (lens l) - sumL v=d →
  goodK (fun q=>rsV (colZ c l) (lens l) (mvL n) (atL (lens l) q)) (volL (lens l)) L→(∀ w,Cls w0 w K→Src w 1 At n ((intN v).map (Value.int .i64))) →
  SpecB Tryz.prog 119 [c.val, .slice A n ca, .slice (some ⟨b9,0,none⟩) (volL (lens l)) (volL (lens l)), .slice At n ct] w0 (blk b9 (L.map (Value.int .i64)) 3::K)
   (fun u R=>∃ L':List Int,goodK (fun q=>rsV (colZ c l) (lens l) (mvL n) (atL (lens l) q)) (volL (lens l)) L'∧u = .int .i64 (rsV (colZ c l) (lens l) (mvL n) v)∧R=blk b9 (L'.map (Value.int .i64)) 3::K):=by
 have hn:=hg.hn
 have hll:=lens_len l
 have hno:=mvL_ok h1 h4
 have hlsn:(lens l).length=n:=by omega
 have hn4:l.length≤4:=by omega
 have hKn:=colZ_nn hc hn4
 have hm15:(mvL n).length≤15:=by
  obtain rfl|rfl|rfl|rfl:n=1∨n=2∨n=3∨n=4:=by omega
  all_goals decide
 obtain⟨V,hVe⟩:∃ V,V=volL (lens l):=⟨_,rfl⟩
 rw [← hVe] at hV ⊢
 have hfub:∀ v,0≤rsV (colZ c l) (lens l) (mvL n) v∧rsV (colZ c l) (lens l) (mvL n) v≤4096000000:=fun v=>rsV_ub hc hn4 hg.nb v _
 intro d
 induction d using Nat.strongRecOn with
 | _ d ih =>
 intro v At ct b9 L K hv hd hL hat
 obtain⟨p,hp⟩:∃ p,p=numL (lens l) v:=⟨_,rfl⟩
 have hpV:p<V:=by rw [hp,hVe];exact numL_lt hv
 have hFp:(fun q=>rsV (colZ c l) (lens l) (mvL n) (atL (lens l) q)) p=rsV (colZ c l) (lens l) (mvL n) v:=by dsimp only;rw [hp,at_num hv]
 obtain⟨z,hz⟩:∃ z,L[p]?=some z:=⟨_,List.getElem?_eq_getElem (by rw [hL.1];exact hpV)⟩
 have hz9:=hL.2 p z hz
 rw [hFp] at hz9
 have hcp:∀ w,RdC w b9 0 (L.map (Value.int .i64))→RdC w b9 (0+(p:Int).toNat * 1) [.int .i64 z]:=fun w h9=>rdAt h9 (by omega) hz
 refine specB_of sg Tryz.func119 rfl rfl rfl ?_
 refine T_op (OpT.box (cs:=c.cells) rfl rfl rfl rfl rfl rfl rfl (fun pc=>?_))
 repeat' (first|refine d1 ?_|(show T _ (.ops _ (_::_)::_) _ _ _;refine T_call rfl rfl rfl rfl rfl (fun w hw=>place19R_spec A At n ca ct l v w (hg.cls hw) hv (by omega) (hat w (hw.le ((Hle.tail _ _).trans (Hle.tail _ _))))) ?_)|fail)
 rw [← hp]
 repeat' (first|refine d1 ?_|(show T _ (.ops _ (_::_)::_) _ _ _;refine T_val rfl (Val.load rfl (fun hg=>(fun w hw=>hcp w (rdAll w hw)))) rfl rfl rfl ?_)|fail)
 refine T_if rfl (fun h=>?_) (fun h=>?_)
 ·simp only [decide_eq_true_eq] at h
  have hzF:z=rsV (colZ c l) (lens l) (mvL n) v:=by omega
  repeat' (first|refine d1 ?_|(show T _ (.ops _ (_::_)::_) _ _ _;refine T_val rfl (Val.load rfl (fun hg=>(fun w hw=>hcp w (rdAll w hw)))) rfl rfl rfl ?_)|(show T _ (.code .ret::_) _ _ _;refine T_retV _ rfl (Hle.tail _ _) ⟨L,hL,by rw [hzF];rfl,rfl⟩))
 clear h hz9 hz hcp
 repeat' (first|refine d1 ?_|(show T _ (.ops _ (_::_)::_) _ _ _;refine T_op (OpT.call rfl rfl rfl rfl rfl (fun w hw=>movesR_spec (n:Int) w) (fun xm R hR=>?_)))|fail)
 obtain⟨_,-,rfl,rfl⟩:=hR
 refine T_le (H':=dat [xm] [rowsD ((mvL n).map intN)]::blk pc c.cells 23::blk b9 (L.map (Value.int .i64)) 3::K) (Hle.refl _) ?_
 refine T_open fun pm hM=>?_
 obtain⟨Am,cm,csm,rfl,hm1,hm2,hml,hmr,hrows⟩:=hM.tab
 rw [List.length_map] at hm1 hml hmr ⊢
 refine T_le (H':=blk b9 (L.map (Value.int .i64)) 3::fz pm::blk pc c.cells 23::K) (Hle.srtT (A:=[fz pm,blk pc c.cells 23,blk b9 (L.map (Value.int .i64)) 3]) (K:=[blk b9 (L.map (Value.int .i64)) 3,fz pm,blk pc c.cells 23]) K) ?_
 skip
 refine T_loopX (fun s:Nat × List Int=>[(12, .int .i64 (s.1:Nat)),(11, .int .i64 (foldB (possM (lens l) v) (mcV (colZ c l) (lens l) (mvL n) v) ((mvL n).take s.1) (-1)))]) (fun s=>blk b9 (s.2.map (Value.int .i64)) 3::fz pm::blk pc c.cells 23::K) (fun s=>s.1≤(mvL n).length∧goodK (fun q=>rsV (colZ c l) (lens l) (mvL n) (atL (lens l) q)) V s.2) (fun s=>(mvL n).length - s.1) (0,L) ⟨Nat.zero_le _,hL⟩ ?_
 rintro⟨i,L⟩ ⟨hi,hL⟩
 dsimp only at hi hL ⊢
 have hmc:∀ m,0≤mcV (colZ c l) (lens l) (mvL n) v m∧mcV (colZ c l) (lens l) (mvL n) v m≤4097024000:=fun m=>by
  have h8:=colZ_bd hc (show l.length≤32 by omega) (colT v m)
  have h9:=hfub (toM v m)
  unfold mcV
  omega
 have hXb : -1≤foldB (possM (lens l) v) (mcV (colZ c l) (lens l) (mvL n) v) ((mvL n).take i) (-1)∧foldB (possM (lens l) v) (mcV (colZ c l) (lens l) (mvL n) v) ((mvL n).take i) (-1)≤4097024000 :=
  ⟨(foldB_spec (p:=possM (lens l) v) (fun m=>(hmc m).1) ((mvL n).take i) (-1) (by omega)).1,foldB_ub (fun m=>(hmc m).2) _ _ (by omega)⟩
 repeat' (first|refine d1 ?_|fail)
 refine T_if rfl (fun h2=>?_) (fun h2=>?_)
 ·simp only [decide_eq_true_eq] at h2
  obtain⟨m,hm⟩:∃ m,(mvL n)[i]?=some m:=⟨_,List.getElem?_eq_getElem (by omega)⟩
  have hmm:=List.mem_of_getElem? hm
  have hml4:=pigeon2 n m (hno.nd m hmm) (hno.lt m hmm)
  have hmpos:0<m.length:=List.length_pos_iff.2 (hno.ne m hmm)
  obtain⟨bt,ot,rfl,hrd⟩:=hmr (by omega)
  obtain⟨Ar,capr,hcs,hr1,hr2,hAr⟩:=hrows.tabRow (i:=i) (r:=intN m) (by rw [List.getElem?_map,hm];rfl)
  have hsr:∀ {w':World} {H:List HA} [FocusZ H pm],Cls w0 w' H→Src w' 1 Ar m.length ((intN m).map (Value.int .i64)):=fun {w' H} _ hw=>by
   have h9:=((rd_one hrows hcs (by rw [List.getElem?_map,List.getElem?_map,hm];rfl)).own hw).intsAt
   rwa [intN_len] at h9
  rw [intN_len] at hcs hr1
  have hst9:foldB (possM (lens l) v) (mcV (colZ c l) (lens l) (mvL n) v) ((mvL n).take (i+1)) (-1)=cond (possM (lens l) v m) (bst (foldB (possM (lens l) v) (mcV (colZ c l) (lens l) (mvL n) v) ((mvL n).take i) (-1)) (mcV (colZ c l) (lens l) (mvL n) v m)) (foldB (possM (lens l) v) (mcV (colZ c l) (lens l) (mvL n) v) ((mvL n).take i) (-1)):=by
   rw [take_snoc _ _ _ hm,foldB_app];rfl
  have hmcm:=hmc m
  generalize foldB (possM (lens l) v) (mcV (colZ c l) (lens l) (mvL n) v) ((mvL n).take i) (-1)=X at hst9 hXb ⊢
  repeat' (first|refine d1 ?_|(show T _ (.ops _ (_::_)::_) _ _ _;first|refine T_val rfl (Val.load rfl (fun hg=>rdFz (p:=pm) (u := .slice Ar m.length capr) (b:=bt) (by rw [off1];exact hrd i _ hcs))) rfl rfl rfl ?_|refine T_op (OpT.call rfl rfl rfl rfl rfl (fun w hw=>column19R_spec A At Ar n ca ct capr l v m w (hg.cls hw) hv (hno.lt m hmm) (by omega) (hat w (hw.le ((Hle.tail _ _).trans ((Hle.tail _ _).trans (Hle.tail _ _))))) (hsr hw)) ?_))|fail)
  rintro u R ⟨b,⟨hpo,rfl,rfl⟩|⟨hpo,rfl,rfl⟩⟩
  ·obtain⟨g1,g2,g3,g4⟩:=toM_rem hno hlsn hv hmm hpo
   have hco:=colT_ok (l:=l) (v:=v) (m:=m) (by rw [hv.len,hll]) (fun s hs=>by rw [hn];exact hno.lt m hmm s hs) hpo
   have hKb:=colZ_bd hc (show l.length≤32 by omega) (colT v m)
   have hfq:=hfub (toM v m)
   have hmce:mcV (colZ c l) (lens l) (mvL n) v m=colZ c l (colT v m)+rsV (colZ c l) (lens l) (mvL n) (toM v m):=rfl
   rw [hmce] at hst9 hmcm
   rw [hpo] at hst9
   refine T_le (H':=row 3 1 (some ⟨b,0,none⟩) n n ((colT v m).map (Value.int .i64))::blk b9 (L.map (Value.int .i64)) 3::fz pm::blk pc c.cells 23::K) (Hle.refl _) ?_
   repeat' (first|refine d1 ?_|fail)
   refine T_if rfl (fun h3=>by exfalso;simp at h3) (fun _=>?_)
   refine rsH [fz pm,blk pc c.cells 23] 1000 [0,1,2,4,5,6,7,8,9,10,11,3,12,13,14,15] ?_
   repeat' (first|refine dd ?_|(show T _ (.run _ _ (_::_) _ _::_) _ _ _;first|refine rv rfl rfl rfl (Val.load rfl (fun hg=>rdFz (p:=pm) (u := .slice Ar m.length capr) (b:=bt) (by rw [off1];exact hrd i _ hcs))) rfl rfl rfl ?_|refine rc rfl rfl rfl rfl rfl rfl rfl (fun w hw=>columnCostR_spec c A (some ⟨b,0,none⟩) n ca n l (colT v m) w (hg.cls hw) hc hbs (srcRw w hw) hco) ?_|refine ro rfl rfl (OpT.call rfl rfl rfl rfl rfl (fun w hw=>behind19R_spec At Ar n ct capr v m w (by rw [hv.len];exact hlsn) (by omega) (fun x hx=>?_) (hno.lt m hmm) (by omega) (hat w (hw.le ((Hle.tail _ _).trans ((Hle.tail _ _).trans ((Hle.tail _ _).trans (Hle.tail _ _)))))) (hsr hw)) (fun u R hR=>?_)))|fail)
   ·obtain⟨s,hs,rfl⟩:=List.getElem_of_mem hx
    have h8:=hv.get s
    have h9:v.getD s 0=v[s]:=by rw [List.getD_eq_getElem?_getD,List.getElem?_eq_getElem hs];rfl
    have hsn:s<l.length:=by rw [← hll, ← hv.len];exact hs
    have h7:(lens l).getD s 0=l[s].n:=by rw [List.getD_eq_getElem?_getD,lens_get (List.getElem?_eq_getElem hsn)];rfl
    have h6:=hg.nb l[s] (List.getElem_mem hsn)
    omega
   obtain⟨⟨Ab,cb⟩,-,rfl,rfl⟩:=hR
   refine ⟨fun _=>(Hle.refl (row 3 1 Ab cb n ((intN (toM v m)).map (Value.int .i64))::row 3 1 (some ⟨b,0,none⟩) n n ((colT v m).map (Value.int .i64))::blk b9 (L.map (Value.int .i64)) 3::fz pm::blk pc c.cells 23::K)).trans Hle.sub,?_⟩
   refine T_le (H':=row 3 1 Ab cb n ((intN (toM v m)).map (Value.int .i64))::row 3 1 (some ⟨b,0,none⟩) n n ((colT v m).map (Value.int .i64))::blk b9 (L.map (Value.int .i64)) 3::fz pm::blk pc c.cells 23::K) (Hle.refl _) ?_
   refine T_le (H':=blk b9 (L.map (Value.int .i64)) 3::row 3 1 Ab cb n ((intN (toM v m)).map (Value.int .i64))::fz pm::blk pc c.cells 23::K) (Hle.srtT (A:=[row 3 1 Ab cb n ((intN (toM v m)).map (Value.int .i64)),row 3 1 (some ⟨b,0,none⟩) n n ((colT v m).map (Value.int .i64)),blk b9 (L.map (Value.int .i64)) 3,fz pm,blk pc c.cells 23]) (K:=[blk b9 (L.map (Value.int .i64)) 3,row 3 1 Ab cb n ((intN (toM v m)).map (Value.int .i64)),fz pm,blk pc c.cells 23]) K) ?_
   refine ro rfl rfl (OpT.callB rfl rfl rfl rfl rfl (ih (sumL (lens l) - sumL (toM v m)) (by omega) (toM v m) Ab cb b9 L (row 3 1 Ab cb n ((intN (toM v m)).map (Value.int .i64))::fz pm::blk pc c.cells 23::K) g1 rfl hL (fun w hw=>srcRH hw)) (fun u R hR=>?_))
   obtain⟨L2,hL2,rfl,rfl⟩:=hR
   refine ⟨fun _=>Hle.sub,?_⟩
   repeat' (first|refine d1 ?_|refine dd ?_|fail)
   refine T_if rfl (fun h3=>?_) (fun h3=>?_)
   ·have hb9:bst X (colZ c l (colT v m)+rsV (colZ c l) (lens l) (mvL n) (toM v m))=colZ c l (colT v m)+rsV (colZ c l) (lens l) (mvL n) (toM v m):=by unfold bst;rw [if_pos (by simpa using h3)]
    repeat' (first|refine d1 ?_|fail)
    exact T_backX (i+1,L2) ⟨by dsimp only;omega,hL2⟩ (by dsimp only;omega) (hE:=⟨rfl,by dsimp only;rw [hst9];show lookE _ 11=some (Value.int .i64 (bst X _));rw [hb9];rfl,trivial⟩) (hG:=by dsimp only;exact Hle.sub)
   ·have hb9:bst X (colZ c l (colT v m)+rsV (colZ c l) (lens l) (mvL n) (toM v m))=X:=by unfold bst;rw [if_neg (by simpa using h3)]
    repeat' (first|refine d1 ?_|fail)
    exact T_backX (i+1,L2) ⟨by dsimp only;omega,hL2⟩ (by dsimp only;omega) (hE:=⟨rfl,by dsimp only;rw [hst9];show lookE _ 11=some (Value.int .i64 (bst X _));rw [hb9];rfl,trivial⟩) (hG:=by dsimp only;exact Hle.sub)
  ·rw [hpo] at hst9
   refine T_le (H':=blk b9 (L.map (Value.int .i64)) 3::fz pm::blk pc c.cells 23::K) (Hle.refl _) ?_
   repeat' (first|refine d1 ?_|fail)
   refine T_if rfl (fun _=>?_) (fun h3=>by exfalso;simp at h3)
   repeat' (first|refine d1 ?_|fail)
   exact T_backX (i+1,L) ⟨by dsimp only;omega,hL⟩ (by dsimp only;omega) (hE:=⟨rfl,by dsimp only;rw [hst9];rfl,trivial⟩)
 ·simp only [decide_eq_false_iff_not] at h2
  obtain rfl:i=(mvL n).length:=by omega
  rw [List.take_length] at hXb ⊢
  have hmx:=rsV_max hKn hno hlsn hv
  generalize foldB (possM (lens l) v) (mcV (colZ c l) (lens l) (mvL n) v) (mvL n) (-1)=X at hmx hXb ⊢
  have hLm:(L.map (Value.int .i64)).length=V:=by rw [List.length_map,hL.1]
  repeat' (first|refine d1 ?_|(show T _ (.ops _ (_::_)::_) _ _ _;refine T_op (OpT.store rfl rfl rfl rfl (by rw [hLm];omega) ?_))|fail)
  have e9:(L.map (Value.int .i64)).set (0+(p:Int).toNat * 1) (.int .i64 (max X 0))=(L.set p (rsV (colZ c l) (lens l) (mvL n) v)).map (Value.int .i64):=by
   rw [show 0+(p:Int).toNat * 1=p by omega, ← List.map_set,hmx]
  rw [e9]
  have hput:=hL.put p
  rw [show rsV (colZ c l) (lens l) (mvL n) (atL (lens l) p)=rsV (colZ c l) (lens l) (mvL n) v from hFp] at hput
  have hcp:∀ w,RdC w b9 0 ((L.set p (rsV (colZ c l) (lens l) (mvL n) v)).map (Value.int .i64))→RdC w b9 (0+(p:Int).toNat * 1) [.int .i64 (rsV (colZ c l) (lens l) (mvL n) v)]:=fun w h9=>rdAt (q:=p) h9 (by omega) (by rw [List.getElem?_set_self (by rw [hL.1];exact hpV)])
  repeat' (first|refine d1 ?_|(show T _ (.ops _ (_::_)::_) _ _ _;refine T_val rfl (Val.load rfl (fun hg=>(fun w hw=>hcp w (rdAll w hw)))) rfl rfl rfl ?_)|(show T _ (.code .ret::_) _ _ _;refine T_retV _ rfl Hle.sub ⟨_,hput,rfl,rfl⟩))
end Go.Proofs.YtblnhdnogjijiaaGreatDoor
namespace Go.Proofs.YtblnhdnogjijiaaGreatDoor
open Go.RowKit Go.Shelf Go.Proofs
set_option maxRecDepth 100000
set_option maxHeartbeats 1000000

theorem intN_zero (n:Nat):(intN (List.replicate n 0)).map (Value.int .i64)=List.replicate n (.int .i64 0):=by
 unfold intN;rw [List.map_replicate,List.map_replicate];rfl
theorem alignR19_spec (c:Costs) (A:Option Addr) (n ca:Nat) (l:List TS) (w:World) (hg:Grp w A n l) :
  Spec Tryz.prog 58 [c.val, .slice A n ca] w (fun v R=>∃ x:Value,True∧v = .tuple #[x, .int .i64 (aln19 c l).2.1, .int .i64 (aln19 c l).2.2]∧R=[dat [x] [rowsD (aln19 c l).1]]):=by
 have hn:=hg.hn
 have hll:=lens_len l
 have hb:=hg.hb
 have hnb:=hg.nb
 refine spec_of sg Tryz.func58 rfl rfl rfl ?_
 refine T_op (OpT.box (cs:=c.cells) rfl rfl rfl rfl rfl rfl rfl (fun pc=>?_))
 repeat' (first|refine d1 ?_|(show T _ (.ops _ (_::_)::_) _ _ _;refine T_call rfl rfl rfl rfl rfl (fun w hw=>usableR_spec c A n ca l w (hg.cls hw)) ?_)|fail)
 refine T_if rfl (fun h=>?_) (fun h=>?_)
 ·have h0:usV c l≠0:=by simpa using h
  unfold aln19
  rw [if_pos h0]
  repeat' (first|refine d1 ?_|(show T _ (.code .ret::_) _ _ _;refine T_retV _ rfl (nilC _ |>.trans (Hle.nth 0 rfl)) ⟨_,trivial,rfl,rfl⟩))
 have h0:usV c l=0:=by simpa using h
 obtain⟨h1,hc,hbs⟩:=usV_ok h0
 have hsz:∀ w',Below w.heap.size w w'→Spec Tryz.prog 117 [.slice A n ca] w' (fun v R=>v = .int .i64 (sizV 1 (lens l):Nat)∧R=[]):=fun w' hw=>size19R_spec A n ca l w' (src_below hg.hs hw) hn (by omega) (fun t ht=>by have:=hnb t ht;omega)
 repeat' (first|refine d1 ?_|fail)
 refine T_callC rfl rfl rfl rfl rfl rfl rfl (fun _ w hw=>hsz w hw.below) ?_
 repeat' (first|refine d1 ?_|fail)
 refine T_if rfl (fun h2=>?_) (fun h2=>?_)
 ·have hbig:4<l.length∨65536<volL (lens l):=by
   simp only [Bool.or_eq_true,decide_eq_true_eq] at h2
   refine Classical.byContradiction fun h9=>?_
   have h8:=sizV_small (lens l) 1 (by omega)
   omega
  unfold aln19
  rw [if_neg (by simpa using h0),if_pos hbig]
  repeat' (first|refine d1 ?_|(show T _ (.code .ret::_) _ _ _;refine T_retV _ rfl (nilC _ |>.trans (Hle.nth 0 rfl)) ⟨_,trivial,rfl,rfl⟩))
 have hsm:l.length≤4∧volL (lens l)≤65536∧sizV 1 (lens l)=volL (lens l):=by
  simp only [Bool.or_eq_false_iff,decide_eq_false_iff_not] at h2
  have h7:¬ 1073741824<1 * volL (lens l):=fun h9=>by
   have:=sizV_great (lens l) 1 h9
   omega
  have h8:=sizV_small (lens l) 1 (by omega)
  omega
 obtain⟨h4,hv,hsv⟩:=hsm
 have ha:aln19 c l=(alnW c l,lstV c l,0):=by
  unfold aln19
  rw [if_neg (by simpa using h0),if_neg (by omega)]
 rw [ha]
 clear h2
 have h1n:1≤n:=by omega
 have h4n:n≤4:=by omega
 have hrst:=rest19_spec (ca:=ca) hg hc hbs h1n h4n hv
 have hno:=mvL_ok h1n h4n
 have hlsn:(lens l).length=n:=by omega
 have hKn:=colZ_nn hc h4
 have hm15:(mvL n).length≤15:=by
  obtain rfl|rfl|rfl|rfl:n=1∨n=2∨n=3∨n=4:=by omega
  all_goals decide
 have hfub:∀ v,0≤rsV (colZ c l) (lens l) (mvL n) v∧rsV (colZ c l) (lens l) (mvL n) v≤4096000000:=fun v=>rsV_ub hc h4 hg.nb v _
 repeat' (first|refine d1 ?_|(show T _ (.ops _ (_::_)::_) _ _ _;refine T_op (OpT.call rfl rfl rfl rfl rfl (fun w hw=>movesR_spec (n:Int) w) (fun xm R hR=>?_)))|fail)
 obtain⟨_,-,rfl,rfl⟩:=hR
 refine T_le (H':=dat [xm] [rowsD ((mvL n).map intN)]::blk pc c.cells 23::[]) (Hle.refl _) ?_
 refine T_open fun pm hM=>?_
 obtain⟨Am,cm,csm,rfl,hm1,hm2,hml,hmr,hrows⟩:=hM.tab
 rw [List.length_map] at hm1 hml hmr ⊢
 repeat' (first|(show T _ (.ops _ (_::_)::_) _ _ _;refine T_call rfl rfl rfl rfl rfl (fun w hw=>hsz w hw.below) ?_)|fail)
 rw [hsv]
 obtain⟨V,hVe⟩:∃ V,V=volL (lens l):=⟨_,rfl⟩
 have hVp:0<V:=by rw [hVe];exact volL_pos _
 rw [← hVe] at hv hrst ⊢
 repeat' (first|refine d1 ?_|(show T _ (.ops _ (_::_)::_) _ _ _;refine T_op (OpT.make rfl rfl rfl rfl rfl rfl rfl rfl rfl (by dsimp only;omega) (fun b9=>?_)))|fail)
 have hz:List.replicate V (Value.int .i64 0)=valV (fun q=>if q<0 then (-1:Int) else 0) V:=by
  rw [valV_replicate];exact valV_ext fun q _=>by rw [if_neg (by omega)]
 refine T_loopX (fun k:Nat=>[(10, .int .i64 (k:Nat))]) (fun k=>[blk b9 (valV (fun q=>if q<k then (-1:Int) else 0) V) 3,fz pm,blk pc c.cells 23]) (fun k=>k≤V) (fun k=>V - k) 0 (Nat.zero_le _) ?_ (hG:=by rw [← hz];exact Hle.refl _)
 intro k hk
 repeat' (first|refine d1 ?_|fail)
 refine T_if rfl (fun h=>?_) (fun h=>?_)
 ·simp only [decide_eq_true_eq] at h
  repeat' (first|refine d1 ?_|(show T _ (.ops _ (_::_)::_) _ _ _;refine T_op (OpT.store rfl rfl rfl rfl (by rw [valV_length];omega) ?_))|fail)
  refine T_backX (k+1) (by omega) (by omega) (hG:=?_)
  rw [show 0+(k:Int).toNat * 1=k by omega,valV_put]
  have e:valV (fun q=>if q=k then (-1:Int) else if q<k then -1 else 0) V=valV (fun q=>if q<k+1 then (-1:Int) else 0) V:=valV_ext fun q _=>by
   by_cases e:q=k
   ·rw [if_pos e,if_pos (by omega)]
   ·rw [if_neg e]
    by_cases e2:q<k
    ·rw [if_pos e2,if_pos (by omega)]
    ·rw [if_neg e2,if_neg (by omega)]
  rw [e]
  exact Hle.refl _
 simp only [decide_eq_false_iff_not] at h
 obtain rfl:k=V:=by omega
 have hz0:valV (fun q=>if q<k then (-1:Int) else 0) k=(List.replicate k (-1:Int)).map (Value.int .i64):=by rw [valV_neg,List.map_replicate]
 rw [hz0]
 have hg0:goodK (fun q=>rsV (colZ c l) (lens l) (mvL n) (atL (lens l) q)) k (List.replicate k (-1)):=⟨List.length_replicate,fun q z hz=>by
  rw [List.getElem?_replicate] at hz
  split at hz
  ·cases hz;exact .inl rfl
  ·cases hz⟩
 have hin0:InB (lens l) (List.replicate n 0):=by rw [← hlsn];exact InB.zero _
 repeat' (first|refine d1 ?_|(show T _ (.ops _ (_::_)::_) _ _ _;refine T_op (OpT.make rfl rfl rfl rfl rfl rfl rfl rfl rfl (by dsimp only;omega) (fun b2=>?_)))|fail)
 refine T_le (H':=blk b2 (List.replicate n (.int .i64 0)) 3::blk b9 ((List.replicate k (-1:Int)).map (Value.int .i64)) 3::fz pm::blk pc c.cells 23::[]) (Hle.refl _) ?_
 rw [← intN_zero n]
 refine T_le (H':=blk b9 ((List.replicate k (-1:Int)).map (Value.int .i64)) 3::blk b2 ((intN (List.replicate n 0)).map (Value.int .i64)) 3::fz pm::blk pc c.cells 23::[]) (Hle.perm (List.Perm.swap _ _ _)) ?_
 repeat' (first|refine d1 ?_|(show T _ (.ops _ (_::_)::_) _ _ _;refine T_op (OpT.callB rfl rfl rfl rfl rfl (hrst (sumL (lens l) - sumL (List.replicate n 0)) (List.replicate n 0) (some ⟨b2,0,none⟩) n b9 (List.replicate k (-1)) (blk b2 ((intN (List.replicate n 0)).map (Value.int .i64)) 3::fz pm::blk pc c.cells 23::[]) hin0 rfl hg0 (fun w hw=>Src.own hw (by rw [List.length_map,intN_len,List.length_replicate,Nat.mul_one]))) (fun u R hR=>?_)))|fail)
 obtain⟨L,hL,rfl,rfl⟩:=hR
 have hlst:rsV (colZ c l) (lens l) (mvL n) (List.replicate n 0)=lstV c l:=by unfold lstV;rw [hn]
 rw [hlst]
 skip
 refine T_le (H':=row 3 1 (some ⟨b2,0,none⟩) n n ((intN (List.replicate n 0)).map (Value.int .i64))::blk b9 (L.map (Value.int .i64)) 3::fz pm::blk pc c.cells 23::[]) ((Hle.perm (List.Perm.swap _ _ _)).trans (Hle.weaken (i:=0) rfl (blk_row (sz:=1) (n:=n) (by rw [List.length_map,intN_len,List.length_replicate,Nat.mul_one]) (by simp only [maxLen];omega)) rfl)) ?_
 refine T_le (dat_nil _) ?_
 refine T_nilrow 47 1 ?_
 refine T_loopX (fun s:List Nat × (Option Addr × Nat) × List Int × (Option Addr × Nat) × List Value × List (List Int)=>[(11, .slice s.2.1.1 n s.2.1.2),(13, .slice s.2.2.2.1.1 s.2.2.2.2.2.length s.2.2.2.1.2)]) (fun s=>[blk b9 (s.2.2.1.map (Value.int .i64)) 3,row 3 1 s.2.1.1 s.2.1.2 n ((intN s.1).map (Value.int .i64)),row 47 1 s.2.2.2.1.1 s.2.2.2.1.2 s.2.2.2.2.2.length s.2.2.2.2.1,dat s.2.2.2.2.1 (s.2.2.2.2.2.map intsD),fz pm,blk pc c.cells 23]) (fun s=>InB (lens l) s.1∧goodK (fun q=>rsV (colZ c l) (lens l) (mvL n) (atL (lens l) q)) k s.2.2.1∧s.2.2.2.2.2.length≤sumL s.1∧alnW c l=s.2.2.2.2.2++alV19 (colZ c l) (lens l) (mvL n) s.1) (fun s=>sumL (lens l) - sumL s.1) (List.replicate n 0,(some ⟨b2,0,none⟩,n),L,(none,0),[],[]) ⟨hin0,hL,Nat.zero_le _,by dsimp only;rw [List.nil_append, ← hn];rfl⟩ ?_ (hG:=by show Hle _ [blk b9 (L.map (Value.int .i64)) 3,row 3 1 (some ⟨b2,0,none⟩) n n ((intN (List.replicate n 0)).map (Value.int .i64)),row 47 1 none 0 0 [],dat [] [],fz pm,blk pc c.cells 23];exact Hle.srt)
 rintro⟨v,⟨At,ct⟩,L,⟨Ao,co⟩,hs,out⟩ ⟨hvi,hL,hol,hout⟩
 dsimp only at hvi hL hol hout ⊢
 obtain⟨p,hp⟩:∃ p,p=numL (lens l) v:=⟨_,rfl⟩
 have hpV:p<k:=by rw [hp,hVe];exact numL_lt hvi
 repeat' (first|refine d1 ?_|(show T _ (.ops _ (_::_)::_) _ _ _;refine T_call rfl rfl rfl rfl rfl (fun w hw=>place19R_spec A At n ca ct l v w (hg.cls hw) hvi (by omega) (srcRw w hw)) ?_)|fail)
 rw [← hp]
 refine T_if rfl (fun h5=>?_) (fun h5=>?_)
 ·simp only [decide_eq_true_eq] at h5
  have hne:v≠lens l:=fun e=>by
   have h9:=num_all (lens l)
   rw [e] at hp
   omega
  have hsub:=sumL_le hvi
  have hlen4:=sumL_lens hg.nb
  have hvb:∀ x∈v,x≤1000000:=fun x hx=>by
   obtain⟨s,hs,rfl⟩:=List.getElem_of_mem hx
   have h8:=hvi.get s
   have h9:v.getD s 0=v[s]:=by rw [List.getD_eq_getElem?_getD,List.getElem?_eq_getElem hs];rfl
   have hsn:s<l.length:=by rw [← hll, ← hvi.len];exact hs
   have h7:(lens l).getD s 0=l[s].n:=by rw [List.getD_eq_getElem?_getD,lens_get (List.getElem?_eq_getElem hsn)];rfl
   have h6:=hg.nb l[s] (List.getElem_mem hsn)
   omega
  repeat' (first|refine d1 ?_|fail)
  refine T_loopX (fun s:Nat × List Int=>[(14, .int .i64 (s.1:Nat))]) (fun s=>[blk b9 (s.2.map (Value.int .i64)) 3,row 3 1 At ct n ((intN v).map (Value.int .i64)),row 47 1 Ao co out.length hs,dat hs (out.map intsD),fz pm,blk pc c.cells 23]) (fun s=>s.1≤(mvL n).length∧goodK (fun q=>rsV (colZ c l) (lens l) (mvL n) (atL (lens l) q)) k s.2∧∀ j y,j<s.1→(mvL n)[j]?=some y→fitM (colZ c l) (lens l) (mvL n) v y=false) (fun s=>(mvL n).length - s.1) (0,L) ⟨Nat.zero_le _,hL,fun j y hj _=>absurd hj (Nat.not_lt_zero j)⟩ ?_
  rintro⟨i,L⟩ ⟨hi,hL,hnf⟩
  dsimp only at hi hL hnf ⊢
  repeat' (first|refine d1 ?_|fail)
  refine T_if rfl (fun h2=>?_) (fun h2=>?_)
  ·simp only [decide_eq_true_eq] at h2
   obtain⟨m,hm⟩:∃ m,(mvL n)[i]?=some m:=⟨_,List.getElem?_eq_getElem (by omega)⟩
   have hmm:=List.mem_of_getElem? hm
   have hml4:=pigeon2 n m (hno.nd m hmm) (hno.lt m hmm)
   have hmpos:0<m.length:=List.length_pos_iff.2 (hno.ne m hmm)
   obtain⟨bt,ot,rfl,hrd⟩:=hmr (by omega)
   obtain⟨Ar,capr,hcs,hr1,hr2,hAr⟩:=hrows.tabRow (i:=i) (r:=intN m) (by rw [List.getElem?_map,hm];rfl)
   have hsr:∀ {w':World} {H:List HA} [FocusZ H pm],Cls w w' H→Src w' 1 Ar m.length ((intN m).map (Value.int .i64)):=fun {w' H} _ hw=>by
    have h9:=((rd_one hrows hcs (by rw [List.getElem?_map,List.getElem?_map,hm];rfl)).own hw).intsAt
    rwa [intN_len] at h9
   rw [intN_len] at hcs hr1
   have hnf':fitM (colZ c l) (lens l) (mvL n) v m=false→∀ j y,j<i+1→(mvL n)[j]?=some y→fitM (colZ c l) (lens l) (mvL n) v y=false:=fun h9 j y hj hy=>by
    by_cases e:j=i
    ·subst e;rw [hm] at hy;cases hy;exact h9
    ·exact hnf j y (by omega) hy
   repeat' (first|refine d1 ?_|(show T _ (.ops _ (_::_)::_) _ _ _;first|refine T_val rfl (Val.load rfl (fun hg=>rdFz (p:=pm) (u := .slice Ar m.length capr) (b:=bt) (by rw [off1];exact hrd i _ hcs))) rfl rfl rfl ?_|refine T_op (OpT.call rfl rfl rfl rfl rfl (fun w hw=>column19R_spec A At Ar n ca ct capr l v m w (hg.cls hw) hvi (hno.lt m hmm) (by omega) (srcRw w hw) (hsr hw)) ?_))|fail)
   rintro u R ⟨b,⟨hpo,rfl,rfl⟩|⟨hpo,rfl,rfl⟩⟩
   ·obtain⟨g1,g2,g3,g4⟩:=toM_rem hno hlsn hvi hmm hpo
    have hco:=colT_ok (l:=l) (v:=v) (m:=m) (by rw [hvi.len,hll]) (fun s hs=>by rw [hn];exact hno.lt m hmm s hs) hpo
    have hKb:=colZ_bd hc (show l.length≤32 by omega) (colT v m)
    have hfq:=hfub (toM v m)
    have hfit:fitM (colZ c l) (lens l) (mvL n) v m=decide (colZ c l (colT v m)+rsV (colZ c l) (lens l) (mvL n) (toM v m)=rsV (colZ c l) (lens l) (mvL n) v):=by
     unfold fitM
     rw [hpo,Bool.true_and];rfl
    refine T_le (H':=row 3 1 (some ⟨b,0,none⟩) n n ((colT v m).map (Value.int .i64))::blk b9 (L.map (Value.int .i64)) 3::row 3 1 At ct n ((intN v).map (Value.int .i64))::row 47 1 Ao co out.length hs::dat hs (out.map intsD)::fz pm::blk pc c.cells 23::[]) (Hle.refl _) ?_
    repeat' (first|refine d1 ?_|fail)
    refine rsH [fz pm,blk pc c.cells 23] 1000 [0,1,2,3,4,6,7,8,9,10,11,12,13,17,18,19,20,5,14,15,16,21,22,23] ?_
    have hgp:=hg
    repeat' (first|refine dd ?_|(show T _ (.run _ _ (_::_) _ _::_) _ _ _;first|refine rg rfl rfl rfl (Val.load rfl (fun hg=>rdFz (p:=pm) (u := .slice Ar m.length capr) (b:=bt) (by rw [off1];exact hrd i _ hcs))) rfl rfl rfl rfl rfl ?_|refine rcG rfl rfl rfl rfl rfl rfl rfl rfl rfl (fun hg w hw=>columnCostR_spec c A (some ⟨b,0,none⟩) n ca n l (colT v m) w (hgp.cls hw) hc hbs (srcRw w hw) hco) ?_)|fail)
    refine T_known 86 rfl rfl ?_
    refine T_known 90 rfl rfl ?_
    refine T_known 83 rfl rfl ?_
    refine T_known 84 rfl rfl ?_
    refine T_known 85 rfl rfl ?_
    refine T_known 94 rfl rfl ?_
    refine T_known 95 rfl rfl ?_
    refine T_known 96 rfl rfl ?_
    refine T_known 97 rfl rfl ?_
    refine ro rfl rfl (OpT.sure (p:=true) rfl rfl rfl (OpT.call rfl rfl rfl rfl rfl (fun w hw=>behind19R_spec At Ar n ct capr v m w (by rw [hvi.len];exact hlsn) (by omega) hvb (hno.lt m hmm) (by omega) (srcRw w hw) (hsr hw)) (fun u R hR=>?_)))
    obtain⟨⟨Ab,cb⟩,-,rfl,rfl⟩:=hR
    refine ⟨fun _=>by dsimp only [List.cons_append,List.nil_append];exact Hle.sub,?_⟩
    refine T_le (H':=blk b9 (L.map (Value.int .i64)) 3::row 3 1 Ab cb n ((intN (toM v m)).map (Value.int .i64))::row 3 1 (some ⟨b,0,none⟩) n n ((colT v m).map (Value.int .i64))::row 3 1 At ct n ((intN v).map (Value.int .i64))::row 47 1 Ao co out.length hs::dat hs (out.map intsD)::fz pm::blk pc c.cells 23::[]) Hle.srt ?_
    refine ro rfl rfl (OpT.sure (p:=true) rfl rfl rfl (OpT.callB rfl rfl rfl rfl rfl (hrst (sumL (lens l) - sumL (toM v m)) (toM v m) Ab cb b9 L (row 3 1 Ab cb n ((intN (toM v m)).map (Value.int .i64))::row 3 1 (some ⟨b,0,none⟩) n n ((colT v m).map (Value.int .i64))::row 3 1 At ct n ((intN v).map (Value.int .i64))::row 47 1 Ao co out.length hs::dat hs (out.map intsD)::fz pm::blk pc c.cells 23::[]) g1 rfl hL (fun w hw=>srcRH hw)) (fun u R hR=>?_)))
    obtain⟨L2,hL2,rfl,rfl⟩:=hR
    refine ⟨fun _=>Hle.sub,?_⟩
    repeat' (first|refine dd ?_|fail)
    refine ro rfl rfl (OpT.sure (p:=true) rfl rfl rfl (OpT.callB rfl rfl rfl rfl rfl (hrst (sumL (lens l) - sumL v) v At ct b9 L2 (row 3 1 Ab cb n ((intN (toM v m)).map (Value.int .i64))::row 3 1 (some ⟨b,0,none⟩) n n ((colT v m).map (Value.int .i64))::row 3 1 At ct n ((intN v).map (Value.int .i64))::row 47 1 Ao co out.length hs::dat hs (out.map intsD)::fz pm::blk pc c.cells 23::[]) hvi rfl hL2 (fun w hw=>srcRH hw)) (fun u R hR=>?_)))
    obtain⟨L3,hL3,rfl,rfl⟩:=hR
    refine ⟨fun _=>Hle.sub,?_⟩
    repeat' (first|refine dd ?_|fail)
    refine T_if rfl (fun h6=>?_) (fun h6=>?_)
    ·have h6':colZ c l (colT v m)+rsV (colZ c l) (lens l) (mvL n) (toM v m)=rsV (colZ c l) (lens l) (mvL n) v:=by simpa using h6
     have hfm:fitM (colZ c l) (lens l) (mvL n) v m=true:=by rw [hfit];exact decide_eq_true h6'
     have hfd:(mvL n).find? (fitM (colZ c l) (lens l) (mvL n) v)=some m:=find_at hm hfm hnf
     have hav:=alV_step hno hlsn hvi hfd
     rw [hav] at hout
     skip
     refine rsH [fz pm,blk pc c.cells 23] 1000 [0,1,4,5,6,7,8,2,3,9,10,11] ?_
     repeat' (first|refine dd ?_|(show T _ (.run _ _ (_::_) _ _::_) _ _ _;first|refine rv rfl rfl rfl (Val.load rfl (fun hg=>rdFz (p:=pm) (u := .slice Ar m.length capr) (b:=bt) (by rw [off1];exact hrd i _ hcs))) rfl rfl rfl ?_|refine ro rfl rfl (OpT.litW rfl rfl rfl rfl rfl rfl rfl rfl rfl rfl rfl (fun bl=>⟨fun _=>Hle.sub,?_⟩))|refine ro rfl rfl (OpT.append (A:=Ao) rfl rfl rfl rfl rfl rfl rfl rfl rfl rfl (fun w hw=>Src.own hw rfl) rfl (by dsimp only;omega) (by omega) (fun A' cap' hA'=>⟨fun _=>Hle.sub,?_⟩))|refine ro rfl rfl (OpT.call rfl rfl rfl rfl rfl (fun w hw=>behind19R_spec At Ar n ct capr v m w (by rw [hvi.len];exact hlsn) (by omega) hvb (hno.lt m hmm) (by omega) (srcRw w hw) (hsr hw)) (fun u R hR=>?_)))|fail)
     obtain⟨⟨A7,c7⟩,-,rfl,rfl⟩:=hR
     refine ⟨fun _=>by dsimp only [List.cons_append,List.nil_append];exact Hle.sub,?_⟩
     refine T_le (H':=row 3 1 A7 c7 n ((intN (toM v m)).map (Value.int .i64))::blk bl (flatP [(0, .slice (some ⟨b,0,none⟩) n n)]) 47::blk b9 (L3.map (Value.int .i64)) 3::row 3 1 Ab cb n ((intN (toM v m)).map (Value.int .i64))::row 3 1 (some ⟨b,0,none⟩) n n ((colT v m).map (Value.int .i64))::row 3 1 At ct n ((intN v).map (Value.int .i64))::row 47 1 A' cap' (out.length+1) (hs++flatP [(0, .slice (some ⟨b,0,none⟩) n n)])::dat hs (out.map intsD)::fz pm::blk pc c.cells 23::[]) (Hle.refl _) ?_
     repeat' (first|refine dd ?_|fail)
     show T _ (.mark _::_) _ _ _
     refine T_backX (toM v m,(A7,c7),L3,(A',cap'),hs++[Value.slice (some ⟨b,0,none⟩) n n],out++[colT v m]) ⟨g1,hL3,?_,?_⟩ (by dsimp only;omega) (hE:=⟨rfl,by dsimp only;rw [List.length_append];rfl,trivial⟩) (hG:=?_)
     ·dsimp only;rw [List.length_append,List.length_singleton];omega
     ·dsimp only;rw [List.append_assoc];exact hout
     ·dsimp only
      rw [List.length_append,List.length_singleton]
      refine (Hle.srt (K:=[row 3 1 (some ⟨b,0,none⟩) n n ((colT v m).map (Value.int .i64)),dat hs (out.map intsD),row 47 1 A' cap' (out.length+1) (hs++flatP [(0, .slice (some ⟨b,0,none⟩) n n)]),blk b9 (L3.map (Value.int .i64)) 3,row 3 1 A7 c7 n ((intN (toM v m)).map (Value.int .i64)),fz pm,blk pc c.cells 23])).trans ?_
      show Hle (row 3 1 (some ⟨b,0,none⟩) n n ((colT v m).map (Value.int .i64))::dat hs (out.map intsD)::row 47 1 A' cap' (out.length+1) (hs++[Value.slice (some ⟨b,0,none⟩) n n])::[blk b9 (L3.map (Value.int .i64)) 3,row 3 1 A7 c7 n ((intN (toM v m)).map (Value.int .i64)),fz pm,blk pc c.cells 23]) _
      exact (out_hle (cl:=colT v m) rfl).trans Hle.srt
    ·have hfm:fitM (colZ c l) (lens l) (mvL n) v m=false:=by rw [hfit];exact decide_eq_false (by simpa using h6)
     repeat' (first|refine d1 ?_|fail)
     exact T_backX (i+1,L3) ⟨by dsimp only;omega,hL3,hnf' hfm⟩ (by dsimp only;omega) (hG:=by dsimp only;exact Hle.sub)
   ·have hfm:fitM (colZ c l) (lens l) (mvL n) v m=false:=by unfold fitM;rw [hpo];rfl
    refine T_le (H':=blk b9 (L.map (Value.int .i64)) 3::row 3 1 At ct n ((intN v).map (Value.int .i64))::row 47 1 Ao co out.length hs::dat hs (out.map intsD)::fz pm::blk pc c.cells 23::[]) (Hle.refl _) ?_
    repeat' (first|refine d1 ?_|fail)
    refine rsH [fz pm,blk pc c.cells 23] 1000 [0,1,2,3,4,6,7,8,9,10,11,12,13,17,18,19,20,5,14,15,16,21,22,23] ?_
    repeat' (first|refine dd ?_|(show T _ (.run _ _ (_::_) _ _::_) _ _ _;first|refine rg rfl rfl rfl (Val.load rfl (fun hg=>rdFz (p:=pm) (u := .slice Ar m.length capr) (b:=bt) (by rw [off1];exact hrd i _ hcs))) rfl rfl rfl rfl rfl ?_|refine ro rfl rfl (OpT.never (.int .i64 0) rfl (fun hg9=>by have h10:(false:Bool)=true:=hg9.1;cases h10) rfl rfl rfl rfl rfl ⟨fun _=>Hle.sub,?_⟩))|fail)
    refine T_if rfl (fun h3=>by exfalso;simp at h3) (fun _=>?_)
    repeat' (first|refine d1 ?_|fail)
    exact T_backX (i+1,L) ⟨by dsimp only;omega,hL,hnf' hfm⟩ (by dsimp only;omega)
  ·exfalso
   simp only [decide_eq_false_iff_not] at h2
   obtain⟨m,h6,hm,hpo,-⟩:=fit_some hKn hno hlsn hvi hne
   have hfm:=List.find?_some h6
   obtain⟨j,hj,hje⟩:=List.getElem_of_mem hm
   have:=hnf j m (by omega) (by rw [List.getElem?_eq_getElem hj,hje])
   rw [this] at hfm
   cases hfm
 ·simp only [decide_eq_false_iff_not] at h5
  have he:v=lens l:=by
   have h9:=num_all (lens l)
   have h8:=at_num hvi
   rw [← hp,show p=numL (lens l) (lens l) by omega,at_num (InB.self _)] at h8
   exact h8.symm
  rw [he,alV_end,List.append_nil] at hout
  rw [hout]
  repeat' (first|refine d1 ?_|(show T _ (.code .ret::_) _ _ _;refine T_retV _ rfl ((Hle.srt (K:=[row 47 1 Ao co out.length hs,dat hs (out.map intsD)])).trans dat_row) ⟨_,trivial,rfl,by rfl⟩))
end Go.Proofs.YtblnhdnogjijiaaGreatDoor
namespace Go.Proofs.YtblnhdnogjijiaaGreatDoor
open Go.RowKit Go.Shelf Go.Proofs
set_option maxRecDepth 100000
set_option maxHeartbeats 1000000

theorem sameStr22_spec (x y:Value) (p q:List ByteArray) (w:World) (hx:Rd (wr w) [x] [strsD p]) (hy:Rd (wr w) [y] [strsD q]) :
  Spec Tryz.prog 60 [x,y] w (fun v R=>v = .bool (decide (p=q))∧R=[]):=by
 obtain⟨A,ca,rfl,hnc,hnb,hl⟩:=hx.strs
 obtain⟨B,cb,rfl,hmc,hmb,hb⟩:=hy.strs
 refine spec_of sg Tryz.func60 rfl rfl rfl ?_
 repeat' (first|refine d1 ?_|fail)
 refine T_if rfl (fun h=>?_) (fun h=>?_)
 ·simp only [Bool.not_eq_true',decide_eq_false_iff_not] at h
  repeat' (first|refine d1 ?_|(show T _ (.code .ret::_) _ _ _;refine T_retV [] rfl (Hle.none _) ⟨?_,rfl⟩))
  rw [decide_eq_false (fun e=>h (by rw [e]))];rfl
 simp only [Bool.not_eq_false',decide_eq_true_eq] at h
 repeat' (first|refine d1 ?_|fail)
 refine T_loopX (fun k:Nat=>[(5, .int .i64 k)]) (fun _=>[]) (fun k=>k≤p.length∧∀ j,j<k→p[j]?=q[j]?) (fun k=>p.length - k) 0 ⟨by omega,fun j h=>by omega⟩ ?_
 rintro k ⟨hk,hok⟩
 repeat' (first|refine d1 ?_|fail)
 refine T_if rfl (fun h3=>?_) (fun h3=>?_)
 ·simp only [decide_eq_true_eq] at h3
  have hkn:k<p.length:=by omega
  have hkq:k<q.length:=by omega
  obtain⟨ba,oa,rfl⟩:=hl.base (by omega)
  obtain⟨bb,ob,rfl⟩:=hb.base (by omega)
  obtain⟨u,hu⟩:∃ u,p[k]?=some u:=⟨_,List.getElem?_eq_getElem hkn⟩
  obtain⟨v,hv⟩:∃ v,q[k]?=some v:=⟨_,List.getElem?_eq_getElem hkq⟩
  have hr1:RdC w ba (oa+(k:Int).toNat * 1) [.string u]:=(hl.get1 (by omega) (by rw [Int.toNat_natCast,List.getElem?_map,hu];rfl)).2
  have hr2:RdC w bb (ob+(k:Int).toNat * 1) [.string v]:=(hb.get1 (by omega) (by rw [Int.toNat_natCast,List.getElem?_map,hv];rfl)).2
  repeat' (first|refine dd ?_|fail)
  refine T_if rfl (fun h4=>?_) (fun h4=>?_)
  ·simp only [Bool.not_eq_true',decide_eq_false_iff_not] at h4
   repeat' (first|refine d1 ?_|(show T _ (.code .ret::_) _ _ _;refine T_retV [] rfl (Hle.none _) ⟨?_,rfl⟩))
   rw [decide_eq_false (fun e=>h4 (by rw [e,hv] at hu;exact (Option.some.inj hu).symm))];rfl
  ·simp only [Bool.not_eq_false',decide_eq_true_eq] at h4
   repeat' (first|refine d1 ?_|fail)
   refine T_backX (k+1) ⟨by omega,fun j hj=>?_⟩ (by omega)
   rcases Nat.lt_or_ge j k with h5|h5
   ·exact hok j h5
   ·rw [show j=k by omega,hu,hv,h4]
 ·simp only [decide_eq_false_iff_not] at h3
  repeat' (first|refine d1 ?_|(show T _ (.code .ret::_) _ _ _;refine T_retV [] rfl (Hle.none _) ⟨?_,rfl⟩))
  rw [decide_eq_true (list_eq_of (by omega) fun j hj=>hok j (by omega))];rfl
theorem sameCols22_spec (x y:Value) (a b:List (List Int)) (w:World) (hx:Rd (wr w) [x] [rowsD a]) (hy:Rd (wr w) [y] [rowsD b]) :
  Spec Tryz.prog 61 [x,y] w (fun v R=>v = .bool (decide (a=b))∧R=[]):=by
 obtain⟨A,ca,cs,rfl,ha1,ha2,hcs,hA,hrA⟩:=hx.tab
 obtain⟨B,cb,ds,rfl,hb1,hb2,hds,hB,hrB⟩:=hy.tab
 refine spec_of sg Tryz.func61 rfl rfl rfl ?_
 repeat' (first|refine d1 ?_|fail)
 refine T_if rfl (fun h=>?_) (fun h=>?_)
 ·simp only [Bool.not_eq_true',decide_eq_false_iff_not] at h
  repeat' (first|refine d1 ?_|(show T _ (.code .ret::_) _ _ _;refine T_retV [] rfl (Hle.none _) ⟨?_,rfl⟩))
  rw [decide_eq_false (fun e=>h (by rw [e]))];rfl
 simp only [Bool.not_eq_false',decide_eq_true_eq] at h
 repeat' (first|refine d1 ?_|fail)
 refine T_loopX (fun k:Nat=>[(5, .int .i64 k)]) (fun _=>[]) (fun k=>k≤a.length∧∀ j,j<k→a[j]?=b[j]?) (fun k=>a.length - k) 0 ⟨by omega,fun j h=>by omega⟩ ?_
 rintro k ⟨hk,hok⟩
 repeat' (first|refine d1 ?_|fail)
 refine T_if rfl (fun h3=>?_) (fun h3=>?_)
 ·simp only [decide_eq_true_eq] at h3
  obtain⟨b1,o1,rfl,hA2⟩:=hA (by omega)
  obtain⟨b2,o2,rfl,hB2⟩:=hB (by omega)
  obtain⟨p,hp⟩:∃ u,a[k]?=some u:=⟨_,List.getElem?_eq_getElem (by omega)⟩
  obtain⟨q,hq⟩:∃ v,b[k]?=some v:=⟨_,List.getElem?_eq_getElem (by omega)⟩
  obtain⟨A',capA,hcA,hlA,hmA,hA3⟩:=hrA.tabRow hp
  obtain⟨B',capB,hcB,hlB,hmB,hB3⟩:=hrB.tabRow hq
  have hr1:RdC w b1 (o1+(k:Int).toNat * 1) [.slice A' p.length capA]:=RdC.one (by rw [off1];exact hA2 k _ hcA)
  have hr2:RdC w b2 (o2+(k:Int).toNat * 1) [.slice B' q.length capB]:=RdC.one (by rw [off1];exact hB2 k _ hcB)
  repeat' (first|refine dd ?_|fail)
  refine T_if rfl (fun h4=>?_) (fun h4=>?_)
  ·simp only [Bool.not_eq_true',decide_eq_false_iff_not] at h4
   repeat' (first|refine d1 ?_|(show T _ (.code .ret::_) _ _ _;refine T_retV [] rfl (Hle.none _) ⟨?_,rfl⟩))
   rw [decide_eq_false (fun e=>h4 (by rw [e,hq] at hp;rw [Option.some.inj hp]))];rfl
  simp only [Bool.not_eq_false',decide_eq_true_eq] at h4
  repeat' (first|refine d1 ?_|fail)
  refine T_loopX (fun i:Nat=>[(6, .int .i64 i)]) (fun _=>[]) (fun i=>i≤p.length∧∀ j,j<i→p[j]?=q[j]?) (fun i=>p.length - i) 0 ⟨by omega,fun j h=>by omega⟩ ?_
  rintro i ⟨hi,hoki⟩
  repeat' (first|refine d1 ?_|fail)
  refine T_if rfl (fun h5=>?_) (fun h5=>?_)
  ·simp only [decide_eq_true_eq] at h5
   obtain⟨b3,o3,rfl,hA4⟩:=hA3 (by omega)
   obtain⟨b4,o4,rfl,hB4⟩:=hB3 (by omega)
   obtain⟨u,hu⟩:∃ u,p[i]?=some u:=⟨_,List.getElem?_eq_getElem (by omega)⟩
   obtain⟨v,hv⟩:∃ v,q[i]?=some v:=⟨_,List.getElem?_eq_getElem (by omega)⟩
   have hr3:RdC w b3 (o3+(i:Int).toNat * 1) [.int .i64 u]:=RdC.one (by rw [off1];exact hA4 i _ hu)
   have hr4:RdC w b4 (o4+(i:Int).toNat * 1) [.int .i64 v]:=RdC.one (by rw [off1];exact hB4 i _ hv)
   repeat' (first|refine dd ?_|fail)
   refine T_if rfl (fun h6=>?_) (fun h6=>?_)
   ·simp only [Bool.not_eq_true',decide_eq_false_iff_not] at h6
    repeat' (first|refine d1 ?_|(show T _ (.code .ret::_) _ _ _;refine T_retV [] rfl (Hle.none _) ⟨?_,rfl⟩))
    rw [decide_eq_false (fun e=>h6 (by rw [e,hq] at hp;rw [Option.some.inj hp,hu] at hv;exact Option.some.inj hv))];rfl
   ·simp only [Bool.not_eq_false',decide_eq_true_eq] at h6
    repeat' (first|refine d1 ?_|fail)
    refine T_backX (i+1) ⟨by omega,fun j hj=>?_⟩ (by omega)
    rcases Nat.lt_or_ge j i with h7|h7
    ·exact hoki j h7
    ·rw [show j=i by omega,hu,hv,h6]
  ·simp only [decide_eq_false_iff_not] at h5
   repeat' (first|refine d1 ?_|fail)
   refine T_backX (k+1) ⟨by omega,fun j hj=>?_⟩ (by omega)
   rcases Nat.lt_or_ge j k with h7|h7
   ·exact hok j h7
   ·rw [show j=k by omega,hp,hq,list_eq_of (by omega) fun j hj=>hoki j (by omega)]
 ·simp only [decide_eq_false_iff_not] at h3
  repeat' (first|refine d1 ?_|(show T _ (.code .ret::_) _ _ _;refine T_retV [] rfl (Hle.none _) ⟨?_,rfl⟩))
  rw [decide_eq_true (list_eq_of (by omega) fun j hj=>hok j (by omega))];rfl
theorem sameToks22_spec (A B:Option Addr) (ca cb:Nat) (a b:List TS) (w:World) (ha:Src w 1 A a.length (a.map TS.val)) (hal:TsOk w a) (han:a.length≤9223372036854775807) (hb:Src w 1 B b.length (b.map TS.val)) (hbl:TsOk w b) (hbn:b.length≤9223372036854775807) :
  Spec Tryz.prog 31 [.slice A a.length ca, .slice B b.length cb] w (fun v R=>v = .bool (decide (a.map TS.l=b.map TS.l))∧R=[]):=by
 refine spec_of sg Tryz.func31 rfl rfl rfl ?_
 repeat' (first|refine d1 ?_|fail)
 refine T_if rfl (fun h=>?_) (fun h=>?_)
 ·simp only [Bool.not_eq_true',decide_eq_false_iff_not] at h
  repeat' (first|refine d1 ?_|(show T _ (.code .ret::_) _ _ _;refine T_retV [] rfl (Hle.none _) ⟨?_,rfl⟩))
  rw [decide_eq_false (fun e=>h (by have:=congrArg List.length e;rw [List.length_map,List.length_map] at this;omega))];rfl
 simp only [Bool.not_eq_false',decide_eq_true_eq] at h
 repeat' (first|refine d1 ?_|fail)
 refine T_loopX (fun k:Nat=>[(5, .int .i64 k)]) (fun _=>[]) (fun k=>k≤a.length∧∀ j,j<k→(a.map TS.l)[j]?=(b.map TS.l)[j]?) (fun k=>a.length - k) 0 ⟨by omega,fun j h=>by omega⟩ ?_
 rintro k ⟨hk,hok⟩
 repeat' (first|refine d1 ?_|fail)
 refine T_if rfl (fun h3=>?_) (fun h3=>?_)
 ·simp only [decide_eq_true_eq] at h3
  obtain⟨b1,o1,rfl⟩:=ha.base (by omega)
  obtain⟨b2,o2,rfl⟩:=hb.base (by omega)
  obtain⟨p,hp⟩:∃ u,a[k]?=some u:=⟨_,List.getElem?_eq_getElem (by omega)⟩
  obtain⟨q,hq⟩:∃ v,b[k]?=some v:=⟨_,List.getElem?_eq_getElem (by omega)⟩
  have hp2:(a.map TS.l)[k]?=some p.l:=by rw [List.getElem?_map,hp];rfl
  have hq2:(b.map TS.l)[k]?=some q.l:=by rw [List.getElem?_map,hq];rfl
  have hpm:=List.mem_of_getElem? hp
  have hqm:=List.mem_of_getElem? hq
  have hpl:=hal.len p hpm
  have hql:=hbl.len q hqm
  have hpb:=hal.bd p hpm
  have hqb:=hbl.bd q hqm
  have hps:=hal.src p hpm
  have hqs:=hbl.src q hqm
  have hr1:RdC w b1 (o1+(k:Int).toNat * 1) [.slice p.A p.n p.cap]:=by
   have h9:=(ha.get1 (i:=k) (by omega) (by rw [List.getElem?_map,hp];rfl)).2
   rw [Nat.mul_one] at h9
   rw [off1]
   exact h9
  have hr2:RdC w b2 (o2+(k:Int).toNat * 1) [.slice q.A q.n q.cap]:=by
   have h9:=(hb.get1 (i:=k) (by omega) (by rw [List.getElem?_map,hq];rfl)).2
   rw [Nat.mul_one] at h9
   rw [off1]
   exact h9
  repeat' (first|refine dd ?_|fail)
  refine T_if rfl (fun h4=>?_) (fun h4=>?_)
  ·simp only [Bool.not_eq_true',decide_eq_false_iff_not] at h4
   repeat' (first|refine d1 ?_|(show T _ (.code .ret::_) _ _ _;refine T_retV [] rfl (Hle.none _) ⟨?_,rfl⟩))
   rw [decide_eq_false (fun e=>h4 (by rw [e,hq2] at hp2;rw [← hpl, ← hql,Option.some.inj hp2]))];rfl
  simp only [Bool.not_eq_false',decide_eq_true_eq] at h4
  repeat' (first|refine d1 ?_|fail)
  refine T_loopX (fun i:Nat=>[(6, .int .i64 i)]) (fun _=>[]) (fun i=>i≤p.n∧∀ j,j<i→p.l[j]?=q.l[j]?) (fun i=>p.n - i) 0 ⟨by omega,fun j h=>by omega⟩ ?_
  rintro i ⟨hi,hoki⟩
  repeat' (first|refine d1 ?_|fail)
  refine T_if rfl (fun h5=>?_) (fun h5=>?_)
  ·simp only [decide_eq_true_eq] at h5
   obtain⟨b3,o3,eA⟩:=hps.base (by omega)
   obtain⟨b4,o4,eB⟩:=hqs.base (by omega)
   obtain⟨u,hu⟩:∃ u,p.l[i]?=some u:=⟨_,List.getElem?_eq_getElem (by omega)⟩
   obtain⟨v,hv⟩:∃ v,q.l[i]?=some v:=⟨_,List.getElem?_eq_getElem (by omega)⟩
   have hr3:RdC w b3 (o3+(i:Int).toNat * 6) u.cells:=by have:=hps.getT (k:=i) (by omega) hu;rw [eA] at this;exact this
   have hr4:RdC w b4 (o4+(i:Int).toNat * 6) v.cells:=by have:=hqs.getT (k:=i) (by omega) hv;rw [eB] at this;exact this
   rw [eA] at hr1
   rw [eB] at hr2
   repeat' (first|refine dd ?_|(show T _ (.run _ _ (_::_) _ _::_) _ _ _;refine rv rfl rfl rfl (Val.eqS (r:=decide (u=v)) rfl (fun w=>eqTok u v w) Tryz.eqGuardType42) rfl rfl rfl ?_)|fail)
   refine T_if rfl (fun h6=>?_) (fun h6=>?_)
   ·have h6:decide (u=v)=false:=by simpa using h6
    rw [decide_eq_false_iff_not] at h6
    repeat' (first|refine d1 ?_|(show T _ (.code .ret::_) _ _ _;refine T_retV [] rfl (Hle.none _) ⟨?_,rfl⟩))
    rw [decide_eq_false (fun e=>h6 (by rw [e,hq2] at hp2;rw [← Option.some.inj hp2,hv] at hu;exact (Option.some.inj hu).symm))];rfl
   ·have h6:decide (u=v)=true:=by simpa using h6
    rw [decide_eq_true_eq] at h6
    repeat' (first|refine d1 ?_|fail)
    refine T_backX (i+1) ⟨by omega,fun j hj=>?_⟩ (by omega)
    rcases Nat.lt_or_ge j i with h7|h7
    ·exact hoki j h7
    ·rw [show j=i by omega,hu,hv,h6]
  ·simp only [decide_eq_false_iff_not] at h5
   repeat' (first|refine d1 ?_|fail)
   refine T_backX (k+1) ⟨by omega,fun j hj=>?_⟩ (by omega)
   rcases Nat.lt_or_ge j k with h7|h7
   ·exact hok j h7
   ·rw [show j=k by omega,hp2,hq2,list_eq_of (by omega) fun j hj=>hoki j (by omega)]
 ·simp only [decide_eq_false_iff_not] at h3
  repeat' (first|refine d1 ?_|(show T _ (.code .ret::_) _ _ _;refine T_retV [] rfl (Hle.none _) ⟨?_,rfl⟩))
  rw [decide_eq_true (list_eq_of (by rw [List.length_map,List.length_map];omega) fun j hj=>hok j (by rw [List.length_map] at hj;omega))];rfl
structure CoSm (w:World) (x:Co) (A1:Option Addr) (c1:Nat) (l:List TS) (A2:Option Addr) (c2:Nat) (y3:Value):Prop where
 s1:Rd (wr w) [.slice A1 x.sg.length c1] [strsD x.sg]
 s2:Src w 1 A2 l.length (l.map TS.val)
 b2:l.length≤9223372036854775807
 ok:TsOk w l
 m:l.map TS.l=x.m
 cols:Rd (wr w) [y3] [rowsD x.cols]
theorem CoSm.cls {w0 w:World} {H:List HA} {x:Co} {A1 A2:Option Addr} {c1 c2:Nat} {l:List TS} {y3:Value} (h:CoSm w0 x A1 c1 l A2 c2 y3) (hw:Cls w0 w H):CoSm w x A1 c1 l A2 c2 y3:=⟨h.s1.old hw,h.s2.old hw,h.b2,⟨fun t ht=>src_below (h.ok.src t ht) hw.below,h.ok.len,h.ok.bd⟩,h.m,h.cols.old hw⟩
theorem sameR22_spec (x y:Co) (A1 B1:Option Addr) (c1 d1':Nat) (l k:List TS) (A2 B2:Option Addr) (c2 d2:Nat) (y3 z3:Value) (w:World) (hx:CoSm w x A1 c1 l A2 c2 y3) (hy:CoSm w y B1 d1' k B2 d2 z3) :
  Spec Tryz.prog 16 [.agg (coL x.sec (.slice A1 x.sg.length c1) (.slice A2 l.length c2) y3).toArray, .agg (coL y.sec (.slice B1 y.sg.length d1') (.slice B2 k.length d2) z3).toArray] w (fun v R=>v = .bool (same22 x y)∧R=[]):=by
 refine spec_of sg Tryz.func16 rfl rfl rfl ?_
 refine T_op (OpT.box (cs:=coL x.sec (.slice A1 x.sg.length c1) (.slice A2 l.length c2) y3) rfl rfl rfl rfl rfl rfl rfl (fun pc=>?_))
 refine T_op (OpT.box (cs:=coL y.sec (.slice B1 y.sg.length d1') (.slice B2 k.length d2) z3) rfl rfl rfl rfl rfl rfl rfl (fun pd=>?_))
 have hmx:=hx.m
 have hmy:=hy.m
 repeat' (first|refine d1 ?_|(show T _ (.ops _ (_::_)::_) _ _ _;first|refine T_callC rfl rfl rfl rfl rfl rfl rfl (fun hg w hw=>sameStr22_spec _ _ x.sg y.sg w ((hx.cls hw).s1) ((hy.cls hw).s1)) ?_|refine T_callC rfl rfl rfl rfl rfl rfl rfl (fun hg w hw=>sameToks22_spec A2 B2 c2 d2 l k w ((hx.cls hw).s2) ((hx.cls hw).ok) hx.b2 ((hy.cls hw).s2) ((hy.cls hw).ok) hy.b2) ?_|refine T_callC rfl rfl rfl rfl rfl rfl rfl (fun hg w hw=>sameCols22_spec _ _ x.cols y.cols w ((hx.cls hw).cols) ((hy.cls hw).cols)) ?_)|(show T _ (.code .ret::_) _ _ _;refine T_retV [] rfl (Hle.none _) ⟨congrArg Value.bool ?_,rfl⟩))
 rw [hmx,hmy]
 unfold same22
 cases decide (x.sec=y.sec) <;> cases decide (x.sg=y.sg) <;> cases decide (x.m=y.m) <;> rfl
end Go.Proofs.YtblnhdnogjijiaaGreatDoor
namespace Go.Proofs.YtblnhdnogjijiaaGreatDoor
open Go.RowKit Go.Shelf Go.Proofs
set_option maxRecDepth 100000
set_option maxHeartbeats 1000000

theorem eqFuncT_spec (A B:Option Addr) (ca cb:Nat) (a b:List TS) (w:World) (ha:Src w 1 A a.length (a.map TS.val)) (hal:TsOk w a) (han:a.length≤9223372036854775807) (hb:Src w 1 B b.length (b.map TS.val)) (hbl:TsOk w b) (hbn:b.length≤9223372036854775807) :
  Spec Tryz.prog 74 [.slice A a.length ca, .slice B b.length cb, .func (.func 75) #[] #[]] w (fun v R=>v = .bool (decide (a.map TS.l=b.map TS.l))∧R=[]):=by
 refine spec_of sg Tryz.func74 rfl rfl rfl ?_
 repeat' (first|refine d1 ?_|fail)
 refine T_if rfl (fun h=>?_) (fun h=>?_)
 ·simp only [Bool.not_eq_true',decide_eq_false_iff_not] at h
  repeat' (first|refine d1 ?_|(show T _ (.code .ret::_) _ _ _;refine T_retV [] rfl (Hle.none _) ⟨?_,rfl⟩))
  rw [decide_eq_false (fun e=>h (by have:=congrArg List.length e;rw [List.length_map,List.length_map] at this;omega))];rfl
 simp only [Bool.not_eq_false',decide_eq_true_eq] at h
 repeat' (first|refine d1 ?_|fail)
 refine T_loopX (fun k:Nat=>[(17, .int .i64 k)]) (fun _=>[]) (fun k=>k≤a.length∧∀ j,j<k→(a.map TS.l)[j]?=(b.map TS.l)[j]?) (fun k=>a.length - k) 0 ⟨by omega,fun j h=>by omega⟩ ?_
 rintro k ⟨hk,hok⟩
 repeat' (first|refine d1 ?_|fail)
 refine T_if rfl (fun h3=>?_) (fun h3=>?_)
 ·simp only [decide_eq_true_eq] at h3
  obtain⟨b1,o1,rfl⟩:=ha.base (by omega)
  obtain⟨b2,o2,rfl⟩:=hb.base (by omega)
  obtain⟨p,hp⟩:∃ u,a[k]?=some u:=⟨_,List.getElem?_eq_getElem (by omega)⟩
  obtain⟨q,hq⟩:∃ v,b[k]?=some v:=⟨_,List.getElem?_eq_getElem (by omega)⟩
  have hp2:(a.map TS.l)[k]?=some p.l:=by rw [List.getElem?_map,hp];rfl
  have hq2:(b.map TS.l)[k]?=some q.l:=by rw [List.getElem?_map,hq];rfl
  have hpm:=List.mem_of_getElem? hp
  have hqm:=List.mem_of_getElem? hq
  have hpl:=hal.len p hpm
  have hql:=hbl.len q hqm
  have hpb:=hal.bd p hpm
  have hqb:=hbl.bd q hqm
  have hps:=hal.src p hpm
  have hqs:=hbl.src q hqm
  have hr1:RdC w b1 (o1+(k:Int).toNat * 1) [.slice p.A p.n p.cap]:=by
   have h9:=(ha.get1 (i:=k) (by omega) (by rw [List.getElem?_map,hp];rfl)).2
   rw [Nat.mul_one] at h9
   rw [off1]
   exact h9
  have hr2:RdC w b2 (o2+(k:Int).toNat * 1) [.slice q.A q.n q.cap]:=by
   have h9:=(hb.get1 (i:=k) (by omega) (by rw [List.getElem?_map,hq];rfl)).2
   rw [Nat.mul_one] at h9
   rw [off1]
   exact h9
  repeat' (first|refine d1 ?_|(show T _ (.ops _ (_::_)::_) _ _ _;refine T_call rfl rfl rfl rfl rfl (fun w hw=>equalTok_spec p.A q.A p.n q.n p.cap q.cap p.l q.l w (rdSrc hps w hw) hpl hpb (rdSrc hqs w hw) hql hqb) ?_)|fail)
  refine T_if rfl (fun h4=>?_) (fun h4=>?_)
  ·simp only [Bool.not_eq_true',decide_eq_false_iff_not] at h4
   repeat' (first|refine d1 ?_|(show T _ (.code .ret::_) _ _ _;refine T_retV [] rfl (Hle.none _) ⟨?_,rfl⟩))
   rw [decide_eq_false (fun e=>h4 (by rw [e,hq2] at hp2;rw [Option.some.inj hp2]))];rfl
  simp only [Bool.not_eq_false',decide_eq_true_eq] at h4
  repeat' (first|refine d1 ?_|fail)
  refine T_backX (k+1) ⟨by omega,fun j hj=>?_⟩ (by omega)
  rcases Nat.lt_or_ge j k with h7|h7
  ·exact hok j h7
  ·rw [show j=k by omega,hp2,hq2,h4]
 ·simp only [decide_eq_false_iff_not] at h3
  repeat' (first|refine d1 ?_|(show T _ (.code .ret::_) _ _ _;refine T_retV [] rfl (Hle.none _) ⟨?_,rfl⟩))
  rw [decide_eq_true (list_eq_of (by rw [List.length_map,List.length_map];omega) fun j hj=>hok j (by rw [List.length_map] at hj;omega))];rfl
theorem eqFuncC_spec (x y:Value) (a b:List (List Int)) (w:World) (hx:Rd (wr w) [x] [rowsD a]) (hy:Rd (wr w) [y] [rowsD b]) :
  Spec Tryz.prog 76 [x,y, .func (.func 77) #[] #[]] w (fun v R=>v = .bool (decide (a=b))∧R=[]):=by
 obtain⟨A,ca,cs,rfl,ha1,ha2,hcs,hA,hrA⟩:=hx.tab
 obtain⟨B,cb,ds,rfl,hb1,hb2,hds,hB,hrB⟩:=hy.tab
 refine spec_of sg Tryz.func76 rfl rfl rfl ?_
 repeat' (first|refine d1 ?_|fail)
 refine T_if rfl (fun h=>?_) (fun h=>?_)
 ·simp only [Bool.not_eq_true',decide_eq_false_iff_not] at h
  repeat' (first|refine d1 ?_|(show T _ (.code .ret::_) _ _ _;refine T_retV [] rfl (Hle.none _) ⟨?_,rfl⟩))
  rw [decide_eq_false (fun e=>h (by rw [e]))];rfl
 simp only [Bool.not_eq_false',decide_eq_true_eq] at h
 repeat' (first|refine d1 ?_|fail)
 refine T_loopX (fun k:Nat=>[(17, .int .i64 k)]) (fun _=>[]) (fun k=>k≤a.length∧∀ j,j<k→a[j]?=b[j]?) (fun k=>a.length - k) 0 ⟨by omega,fun j h=>by omega⟩ ?_
 rintro k ⟨hk,hok⟩
 repeat' (first|refine d1 ?_|fail)
 refine T_if rfl (fun h3=>?_) (fun h3=>?_)
 ·simp only [decide_eq_true_eq] at h3
  obtain⟨b1,o1,rfl,hA2⟩:=hA (by omega)
  obtain⟨b2,o2,rfl,hB2⟩:=hB (by omega)
  obtain⟨p,hp⟩:∃ u,a[k]?=some u:=⟨_,List.getElem?_eq_getElem (by omega)⟩
  obtain⟨q,hq⟩:∃ v,b[k]?=some v:=⟨_,List.getElem?_eq_getElem (by omega)⟩
  obtain⟨A',capA,hcA,hlA,hmA,hA3⟩:=hrA.tabRow hp
  obtain⟨B',capB,hcB,hlB,hmB,hB3⟩:=hrB.tabRow hq
  have hr1:RdC w b1 (o1+(k:Int).toNat * 1) [.slice A' p.length capA]:=RdC.one (by rw [off1];exact hA2 k _ hcA)
  have hr2:RdC w b2 (o2+(k:Int).toNat * 1) [.slice B' q.length capB]:=RdC.one (by rw [off1];exact hB2 k _ hcB)
  have hq1:Rd (wr w) [.slice A' p.length capA] [intsD p]:=by
   obtain⟨u,hu,hru⟩:=hrA.get (i:=k) (d:=intsD p) (by rw [List.getElem?_map,hp];rfl)
   rw [hcA] at hu
   cases hu
   exact hru
  have hq2:Rd (wr w) [.slice B' q.length capB] [intsD q]:=by
   obtain⟨u,hu,hru⟩:=hrB.get (i:=k) (d:=intsD q) (by rw [List.getElem?_map,hq];rfl)
   rw [hcB] at hu
   cases hu
   exact hru
  repeat' (first|refine d1 ?_|(show T _ (.ops _ (_::_)::_) _ _ _;refine T_call rfl rfl rfl rfl rfl (fun w hw=>equalI_spec _ _ p q w (hq1.old hw) (hq2.old hw)) ?_)|fail)
  refine T_if rfl (fun h4=>?_) (fun h4=>?_)
  ·simp only [Bool.not_eq_true',decide_eq_false_iff_not] at h4
   repeat' (first|refine d1 ?_|(show T _ (.code .ret::_) _ _ _;refine T_retV [] rfl (Hle.none _) ⟨?_,rfl⟩))
   rw [decide_eq_false (fun e=>h4 (by rw [e,hq] at hp;exact (Option.some.inj hp).symm))];rfl
  simp only [Bool.not_eq_false',decide_eq_true_eq] at h4
  repeat' (first|refine d1 ?_|fail)
  refine T_backX (k+1) ⟨by omega,fun j hj=>?_⟩ (by omega)
  rcases Nat.lt_or_ge j k with h7|h7
  ·exact hok j h7
  ·rw [show j=k by omega,hp,hq,h4]
 ·simp only [decide_eq_false_iff_not] at h3
  repeat' (first|refine d1 ?_|(show T _ (.code .ret::_) _ _ _;refine T_retV [] rfl (Hle.none _) ⟨?_,rfl⟩))
  rw [decide_eq_true (list_eq_of (by omega) fun j hj=>hok j (by omega))];rfl
theorem sameP22_spec (x y:Co) (A1 B1:Option Addr) (c1 d1':Nat) (l k:List TS) (A2 B2:Option Addr) (c2 d2:Nat) (y3 z3:Value) (w:World) (hx:CoSm w x A1 c1 l A2 c2 y3) (hy:CoSm w y B1 d1' k B2 d2 z3) :
  Spec Tryz.prog 37 [.agg (coL x.sec (.slice A1 x.sg.length c1) (.slice A2 l.length c2) y3).toArray, .agg (coL y.sec (.slice B1 y.sg.length d1') (.slice B2 k.length d2) z3).toArray] w (fun v R=>v = .bool (same22 x y)∧R=[]):=by
 refine spec_of sg Tryz.func37 rfl rfl rfl ?_
 refine T_op (OpT.box (cs:=coL x.sec (.slice A1 x.sg.length c1) (.slice A2 l.length c2) y3) rfl rfl rfl rfl rfl rfl rfl (fun pc=>?_))
 refine T_op (OpT.box (cs:=coL y.sec (.slice B1 y.sg.length d1') (.slice B2 k.length d2) z3) rfl rfl rfl rfl rfl rfl rfl (fun pd=>?_))
 have hmx:=hx.m
 have hmy:=hy.m
 repeat' (first|refine d1 ?_|(show T _ (.ops _ (_::_)::_) _ _ _;first|refine T_callC rfl rfl rfl rfl rfl rfl rfl (fun hg w hw=>equalStr_spec _ _ x.sg y.sg w ((hx.cls hw).s1) ((hy.cls hw).s1)) ?_|refine T_callC rfl rfl rfl rfl rfl rfl rfl (fun hg w hw=>eqFuncT_spec A2 B2 c2 d2 l k w ((hx.cls hw).s2) ((hx.cls hw).ok) hx.b2 ((hy.cls hw).s2) ((hy.cls hw).ok) hy.b2) ?_|refine T_callC rfl rfl rfl rfl rfl rfl rfl (fun hg w hw=>eqFuncC_spec _ _ x.cols y.cols w ((hx.cls hw).cols) ((hy.cls hw).cols)) ?_)|(show T _ (.code .ret::_) _ _ _;refine T_retV [] rfl (Hle.none _) ⟨congrArg Value.bool ?_,rfl⟩))
 rw [hmx,hmy]
 unfold same22
 cases decide (x.sec=y.sec) <;> cases decide (x.sg=y.sg) <;> cases decide (x.m=y.m) <;> rfl
end Go.Proofs.YtblnhdnogjijiaaGreatDoor
namespace Go.Proofs.YtblnhdnogjijiaaGreatDoor
open Go.RowKit Go.Shelf Go.Proofs
set_option maxRecDepth 100000
set_option maxHeartbeats 1000000

theorem co_join {p:Frag} {y3:Value} {cols:List (List Int)} {A1 A2:Option Addr} {c1 c2 n m:Nat} {sg':List ByteArray} {cs:List Value} {H:List HA} (hp:Rd (fr p) [y3] [rowsD cols]) :
  Hle (fz p::row 38 1 A2 c2 m cs::row 9 1 A1 c1 n (sg'.map Value.string)::H) (dat [.slice A1 n c1, .slice A2 m c2,y3] [strsD sg', .s 1 (cs.map .v),rowsD cols]::H):=by
 refine (hle_map (fz_dat hp)).trans ?_
 refine (Hle.perm (List.Perm.swap _ _ _)).trans ?_
 refine dat_rowV.trans ?_
 refine (Hle.perm (List.Perm.swap _ _ _)).trans ?_
 refine dat_join.trans ?_
 refine (Hle.perm (List.Perm.swap _ _ _)).trans ?_
 refine dat_rowV.trans ?_
 refine (Hle.perm (List.Perm.swap _ _ _)).trans ?_
 exact dat_join
theorem co_nil (H:List HA):Hle H (dat [.slice none 0 0, .slice none 0 0, .slice none 0 0] [strsD [], .s 1 (([]:List Value).map .v),rowsD []]::H) :=
 hle_unit (Rd.s none 0 0 1 [] rfl (Nat.le_refl _) (by omega) (fun h=>absurd h (by omega)) .nil (Rd.s none 0 0 1 [] rfl (Nat.le_refl _) (by omega) (fun h=>absurd h (by omega)) .nil (Rd.s none 0 0 1 [] rfl (Nat.le_refl _) (by omega) (fun h=>absurd h (by omega)) .nil .nil)))
theorem co_nil1 (H:List HA):Hle H [dat [.slice none 0 0, .slice none 0 0, .slice none 0 0] [strsD [], .s 1 (([]:List Value).map .v),rowsD []]]:=(co_nil H).trans (Hle.nth 0 rfl)
def resP22 (x:Co) (l:List TS) (e:Int) (v:Value) (R:List HA):Prop :=
 ∃ y:(Option Addr × Nat) × (Option Addr × Nat) × Value,True∧v = .tuple #[.agg (coL x.sec (.slice y.1.1 x.sg.length y.1.2) (.slice y.2.1.1 l.length y.2.1.2) y.2.2).toArray, .int .i64 e]∧R=[dat [.slice y.1.1 x.sg.length y.1.2, .slice y.2.1.1 l.length y.2.1.2,y.2.2] [strsD x.sg, .s 1 ((l.map TS.val).map .v),rowsD x.cols]]
def resR22 (x:Co) (e:Int) (v:Value) (R:List HA):Prop :=
 ∃ y:(Option Addr × Nat) × (Option Addr × Nat) × Value,True∧v = .tuple #[.agg (coL x.sec (.slice y.1.1 x.sg.length y.1.2) (.slice y.2.1.1 x.m.length y.2.1.2) y.2.2).toArray, .int .i64 e]∧R=[dat [.slice y.1.1 x.sg.length y.1.2, .slice y.2.1.1 x.m.length y.2.1.2,y.2.2] [strsD x.sg, .s 1 (x.m.map toksD),rowsD x.cols]]
theorem ofP22 {p:Frag} {x:Co} {l:List TS} {A1 A2:Option Addr} {c1 c2:Nat} {y3:Value} (hp:Rd (fr p) [.slice A1 x.sg.length c1, .slice A2 l.length c2,y3] [strsD x.sg, .s 1 ((l.map TS.val).map .v),rowsD x.cols]) (hm:l.map TS.l=x.m)
  {w0 w:World} {H:List HA} [FocusZ H p] (hw:Cls w0 w H) (hl:TsOk w l):CoSm w x A1 c1 l A2 c2 y3:=by
 obtain⟨k1,k2⟩:=hp.cons_inv
 obtain⟨k2,k3⟩:=k2.cons_inv
 obtain⟨A,n,cap,e,g1,g2,g3,g4⟩:=(k2.own hw).srcV
 cases e
 exact⟨k1.own hw,g4,by omega,hl,hm,k3.own hw⟩
theorem ofR22 {p:Frag} {x:Co} {A1 A2:Option Addr} {c1 c2:Nat} {y3:Value} (hp:Rd (fr p) [.slice A1 x.sg.length c1, .slice A2 x.m.length c2,y3] [strsD x.sg, .s 1 (x.m.map toksD),rowsD x.cols]) :
  ∃ l:List TS,l.length=x.m.length∧l.map TS.l=x.m∧∀ {w0 w:World} {H:List HA} [FocusZ H p],Cls w0 w H→CoSm w x A1 c1 l A2 c2 y3:=by
 obtain⟨k1,k2⟩:=hp.cons_inv
 obtain⟨k2,k3⟩:=k2.cons_inv
 obtain⟨A,cap,l,e,g1,g2,g3,g4⟩:=k2.toksF
 injection e with e1 e2 e3
 subst e1
 subst e3
 have hl:l.length=x.m.length:=by rw [← g2,List.length_map]
 exact⟨l,hl,g2,fun hw=>⟨k1.own hw,(g4 hw).1,g1,(g4 hw).2,g2,k3.own hw⟩⟩
theorem vol_7:∀ {l:List TS},(∀ t∈l,t.n≤6)→volL (lens l)≤7 ^ l.length
 | [],_=>Nat.le_refl _
 | t::l,h=>by
  have h1:=vol_7 (l:=l) fun x hx=>h x (List.mem_cons_of_mem _ hx)
  have h2:=h t (List.mem_cons_self ..)
  show (t.n+1) * volL (lens l)≤7 ^ (l.length+1)
  rw [Nat.pow_succ,Nat.mul_comm]
  exact Nat.mul_le_mul h1 (by omega)
theorem size22_spec (A:Option Addr) (n ca:Nat) (l:List TS) (w:World) (hg:Grp w A n l) (h1:1≤n) (h6:n≤6) (ht:∀ t∈l,t.n≤6) :
  Spec Tryz.prog 55 [.slice A n ca] w (fun v R=>v = .tuple #[.int .i64 (volL (lens l):Nat), .int .i64 0]∧R=[]):=by
 have hn:=hg.hn
 have hv:=vol_7 ht
 have hv2:7 ^ l.length≤7 ^ 6:=Nat.pow_le_pow_right (by omega) (by omega)
 have ec:capV (volL (lens l)) 1073741824=volL (lens l):=if_pos (by omega)
 refine spec_of sg Tryz.func55 rfl rfl rfl ?_
 repeat' (first|refine d1 ?_|(show T _ (.ops _ (_::_)::_) _ _ _;refine T_call rfl rfl rfl rfl rfl (fun w hw=>srcs19_spec A n ca l w (hg.cls hw)) ?_)|fail)
 rw [if_neg (by omega)]
 refine T_if rfl (fun h=>by exfalso;simp at h) (fun _=>?_)
 repeat' (first|refine d1 ?_|(show T _ (.ops _ (_::_)::_) _ _ _;refine T_call rfl rfl rfl rfl rfl (fun w hw=>size19_spec A n ca l 1073741824 w (hg.cls hw) ⟨by omega,by omega⟩) ?_)|fail)
 rw [ec]
 refine T_if rfl (fun h=>by exfalso;simp at h;omega) (fun _=>?_)
 repeat' (first|refine d1 ?_|(show T _ (.code .ret::_) _ _ _;refine T_retV [] rfl (Hle.none _) ⟨rfl,rfl⟩))
noncomputable def colsC22 (c:Costs) (l:List TS):List (List Int):=if l.length≤4 then alnW c l else alnP c l
noncomputable def made22 (c:Costs) (sec:ByteArray) (sg':List ByteArray) (l:List TS):Co × Int :=
 if costE c≠0 then (co0,1) else if head22 sec sg' (l.map TS.l)≠0 then (co0,head22 sec sg' (l.map TS.l)) else (⟨sec,sg',l.map TS.l,colsC22 c l⟩,0)
noncomputable def toks22 (c:Costs) (sec:ByteArray) (sg':List ByteArray) (l:List TS):List TS:=if costE c≠0 then [] else if head22 sec sg' (l.map TS.l)≠0 then [] else l
theorem made22_facts {c:Costs} {sec:ByteArray} {sg':List ByteArray} {l:List TS} (hc:costE c=0) (hh:head22 sec sg' (l.map TS.l)=0) (hln:∀ t∈l,t.l.length=t.n) (h6:∀ t∈l,t.n≤6) :
  1≤l.length∧l.length=sg'.length∧ck21 c l=0∧(l.length≤4→aln19 c l=(alnW c l,lstV c l,0))∧alnA c l=(alnP c l,0)∧ColsOk (lens l) (colsC22 c l)∧made22 c sec sg' l=(⟨sec,sg',l.map TS.l,colsC22 c l⟩,0)∧toks22 c sec sg' l=l:=by
 obtain⟨g1,g2,g3,g4,g5,g6,g7⟩:=head22_iff.1 hh
 have hl:l.length=sg'.length:=by rw [← g6,List.length_map]
 have hbs:badS l=false:=List.any_eq_false.2 fun t ht=>by rw [(g7 t.l (List.mem_map.2 ⟨t,ht,rfl⟩)).2];simp
 have hck:ck21 c l=0:=if_pos ⟨hc,hbs⟩
 have hus:usV c l=0:=by unfold usV;rw [if_neg (by omega),hck]
 have hv:=vol_7 h6
 refine ⟨by omega,hl,hck,fun h4=>?_,if_pos hck,?_,?_,?_⟩
 ·have hv2:7 ^ l.length≤7 ^ 4:=Nat.pow_le_pow_right (by omega) h4
  unfold aln19
  rw [if_neg (by rw [hus];simp),if_neg (by omega)]
 ·unfold colsC22
  split
  ·exact (alnW_ok hc (by omega) (by omega)).1
  ·exact alnP_ok hck hln fun t ht=>by have:=h6 t ht;have:=hln t ht;omega
 ·unfold made22
  rw [if_neg (by rw [hc];simp),if_neg (by rw [hh];simp)]
 ·unfold toks22
  rw [if_neg (by rw [hc];simp),if_neg (by rw [hh];simp)]
theorem collateP22_spec (c:Costs) (sec:ByteArray) (sg':List ByteArray) (A1:Option Addr) (c1:Nat) (l:List TS) (A2:Option Addr) (c2:Nat) (w:World) (hh:HdAt w sec sg' A1 c1 l A2 c2) (hl6:l.length≤6∨32<l.length) :
  Spec Tryz.prog 14 [c.val, .string sec, .slice A1 sg'.length c1, .slice A2 l.length c2] w (resP22 (made22 c sec sg' l).1 (toks22 c sec sg' l) (made22 c sec sg' l).2):=by
 refine spec_of sg Tryz.func14 rfl rfl rfl ?_
 refine T_op (OpT.box (cs:=c.cells) rfl rfl rfl rfl rfl rfl rfl (fun pc=>?_))
 repeat' (first|refine d1 ?_|(show T _ (.ops _ (_::_)::_) _ _ _;refine T_call rfl rfl rfl rfl rfl (fun w hw=>costPrg_spec c w) ?_)|(show ∀ _:Nat,T _ _ _ _ _;intro _))
 rename_i pr
 refine T_if rfl (fun h=>?_) (fun h=>?_)
 ·have hc:costE c≠0:=by simpa using h
  have e1:made22 c sec sg' l=(co0,1):=if_pos hc
  have e2:toks22 c sec sg' l=[]:=if_pos hc
  rw [e1,e2]
  repeat' (first|refine d1 ?_|fail)
  exact T_retM (vs:=[.agg (coL ByteArray.empty (.slice none 0 0) (.slice none 0 0) (.slice none 0 0)).toArray, .int .i64 1]) _ ⟨⟨pr,_,coL ByteArray.empty (.slice none 0 0) (.slice none 0 0) (.slice none 0 0),rfl,rfl,rfl,rfl,(fun h=>by cases h),rfl,rdAll⟩,rfl,trivial⟩ (co_nil1 _) ⟨((none,0),(none,0), .slice none 0 0),trivial,rfl,rfl⟩
 have hc:costE c=0:=by simpa using h
 repeat' (first|refine d1 ?_|(show T _ (.ops _ (_::_)::_) _ _ _;refine T_call rfl rfl rfl rfl rfl (fun w hw=>sources22_spec sec sg' A1 c1 l A2 c2 w (hh.cls hw)) ?_)|fail)
 refine T_if rfl (fun h2=>?_) (fun h2=>?_)
 ·have hd:head22 sec sg' (l.map TS.l)≠0:=by simpa using h2
  have e1:made22 c sec sg' l=(co0,head22 sec sg' (l.map TS.l)):=by unfold made22;rw [if_neg (by rw [hc];simp),if_pos hd]
  have e2:toks22 c sec sg' l=[]:=by unfold toks22;rw [if_neg (by rw [hc];simp),if_pos hd]
  rw [e1,e2]
  repeat' (first|refine d1 ?_|fail)
  exact T_retM (vs:=[.agg (coL ByteArray.empty (.slice none 0 0) (.slice none 0 0) (.slice none 0 0)).toArray, .int .i64 (head22 sec sg' (l.map TS.l))]) _ ⟨⟨pr,_,coL ByteArray.empty (.slice none 0 0) (.slice none 0 0) (.slice none 0 0),rfl,rfl,rfl,rfl,(fun h=>by cases h),rfl,rdAll⟩,rfl,trivial⟩ (co_nil1 _) ⟨((none,0),(none,0), .slice none 0 0),trivial,rfl,rfl⟩
 have hd:head22 sec sg' (l.map TS.l)=0:=by simpa using h2
 obtain⟨f1,f2,f3,f4,f5,f6,f7,f8⟩:=made22_facts hc hd hh.ok.len (fun t ht=>(hh.tok t ht).1)
 have hle:=(head22_iff.1 hd).le
 have hg:Grp w A2 l.length l:=hh.grp (by omega)
 have h6:l.length≤6:=by omega
 have ht6:∀ t∈l,t.n≤6:=fun t ht=>(hh.tok t ht).1
 have hv:=vol_7 ht6
 rw [f7,f8]
 repeat' (first|refine d1 ?_|(show T _ (.ops _ (_::_)::_) _ _ _;first|refine T_callE rfl rfl rfl rfl rfl (fun w hw=>cloneStr_spec A1 sg'.length c1 sg' w (rdSrc hh.s1 w hw) (by omega)) (fun x1 _=>?_)|refine T_callE rfl rfl rfl rfl rfl (fun w hw=>cloneS_spec A2 l.length c2 l w (rdSrc hh.s2 w hw) (by omega)) (fun x2 _=>?_)|refine T_call rfl rfl rfl rfl rfl (fun w hw=>size22_spec A2 l.length c2 l w (hg.cls hw) f1 h6 ht6) ?_)|(show ∀ _:Nat,T _ _ _ _ _;intro _))
 rename_i pt
 refine T_if rfl (fun h4=>?_) (fun h4=>?_)
 ·have hb:l.length≤4:=by simp only [Bool.and_eq_true,decide_eq_true_eq] at h4;omega
  have eC:colsC22 c l=alnW c l:=if_pos hb
  rw [eC]
  repeat' (first|refine d1 ?_|(show T _ (.ops _ (_::_)::_) _ _ _;refine T_op (OpT.call rfl rfl rfl rfl rfl (fun w hw=>align19_spec c A2 l.length c2 l w (hg.cls hw)) ?_))|fail)
  rintro v R ⟨y,-,rfl,rfl⟩
  rw [f4 hb]
  refine T_le (H':=[dat [y] [rowsD (alnW c l)],blk pt (coL sec (.slice x1.1 sg'.length x1.2) (.slice x2.1 l.length x2.2) (.slice none 0 0)) 32,row 38 1 x2.1 x2.2 l.length (l.map TS.val),row 9 1 x1.1 x1.2 sg'.length (sg'.map Value.string),blk pr (coL ByteArray.empty (.slice none 0 0) (.slice none 0 0) (.slice none 0 0)) 32,blk pc c.cells 23]) (Hle.refl _) ?_
  refine T_open fun p hp=>?_
  obtain⟨Ay,cy,csy,rfl,-⟩:=hp.tab
  refine T_le (H':=[blk pt (coL sec (.slice x1.1 sg'.length x1.2) (.slice x2.1 l.length x2.2) (.slice none 0 0)) 32,blk pr (coL ByteArray.empty (.slice none 0 0) (.slice none 0 0) (.slice none 0 0)) 32,fz p,row 38 1 x2.1 x2.2 l.length (l.map TS.val),row 9 1 x1.1 x1.2 sg'.length (sg'.map Value.string)]) Hle.srt ?_
  repeat' (first|refine d1 ?_|fail)
  refine T_if rfl (fun h5=>by exfalso;simp at h5) (fun _=>?_)
  repeat' (first|refine d1 ?_|fail)
  exact T_retM (vs:=[.agg (coL sec (.slice x1.1 sg'.length x1.2) (.slice x2.1 l.length x2.2) (.slice Ay (alnW c l).length cy)).toArray, .int .i64 0]) _ ⟨⟨pr,_,coL sec (.slice x1.1 sg'.length x1.2) (.slice x2.1 l.length x2.2) (.slice Ay (alnW c l).length cy),rfl,rfl,rfl,rfl,(fun h=>by cases h),rfl,rdAll⟩,rfl,trivial⟩ (((Hle.tail _ _).trans (Hle.tail _ _)).trans ((co_join hp).trans (Hle.nth 0 rfl))) ⟨(x1,x2, .slice Ay (alnW c l).length cy),trivial,rfl,rfl⟩
 ·have hb:¬ l.length≤4:=by intro h9;have hv2:7 ^ l.length≤7 ^ 4:=Nat.pow_le_pow_right (by omega) h9;exact absurd h4 (by simp;omega)
  have eC:colsC22 c l=alnP c l:=if_neg hb
  rw [eC]
  repeat' (first|refine d1 ?_|(show T _ (.ops _ (_::_)::_) _ _ _;refine T_op (OpT.call rfl rfl rfl rfl rfl (fun w hw=>alignPrg21_spec c A2 l.length c2 l w (hg.cls hw) (fun t ht=>by have:=ht6 t ht;omega)) ?_))|fail)
  rintro v R ⟨y,-,rfl,rfl⟩
  rw [f5]
  refine T_le (H':=[dat [y] [rowsD (alnP c l)],blk pt (coL sec (.slice x1.1 sg'.length x1.2) (.slice x2.1 l.length x2.2) (.slice none 0 0)) 32,row 38 1 x2.1 x2.2 l.length (l.map TS.val),row 9 1 x1.1 x1.2 sg'.length (sg'.map Value.string),blk pr (coL ByteArray.empty (.slice none 0 0) (.slice none 0 0) (.slice none 0 0)) 32,blk pc c.cells 23]) (Hle.refl _) ?_
  refine T_open fun p hp=>?_
  obtain⟨Ay,cy,csy,rfl,-⟩:=hp.tab
  refine T_le (H':=[blk pt (coL sec (.slice x1.1 sg'.length x1.2) (.slice x2.1 l.length x2.2) (.slice none 0 0)) 32,blk pr (coL ByteArray.empty (.slice none 0 0) (.slice none 0 0) (.slice none 0 0)) 32,fz p,row 38 1 x2.1 x2.2 l.length (l.map TS.val),row 9 1 x1.1 x1.2 sg'.length (sg'.map Value.string)]) Hle.srt ?_
  repeat' (first|refine d1 ?_|fail)
  refine T_if rfl (fun h5=>by exfalso;simp at h5) (fun _=>?_)
  repeat' (first|refine d1 ?_|fail)
  exact T_retM (vs:=[.agg (coL sec (.slice x1.1 sg'.length x1.2) (.slice x2.1 l.length x2.2) (.slice Ay (alnP c l).length cy)).toArray, .int .i64 0]) _ ⟨⟨pr,_,coL sec (.slice x1.1 sg'.length x1.2) (.slice x2.1 l.length x2.2) (.slice Ay (alnP c l).length cy),rfl,rfl,rfl,rfl,(fun h=>by cases h),rfl,rdAll⟩,rfl,trivial⟩ (((Hle.tail _ _).trans (Hle.tail _ _)).trans ((co_join hp).trans (Hle.nth 0 rfl))) ⟨(x1,x2, .slice Ay (alnP c l).length cy),trivial,rfl,rfl⟩
end Go.Proofs.YtblnhdnogjijiaaGreatDoor
namespace Go.Proofs.YtblnhdnogjijiaaGreatDoor
open Go.RowKit Go.Shelf Go.Proofs
set_option maxRecDepth 100000
set_option maxHeartbeats 1000000

theorem co_joinR {p:Frag} {y3:Value} {cols:List (List Int)} {A1 A2:Option Addr} {c1 c2 n m:Nat} {sg':List ByteArray} {hs:List Value} {ds:List D} {H:List HA} (hp:Rd (fr p) [y3] [rowsD cols]) :
  Hle (fz p::row 38 1 A2 c2 m hs::dat hs ds::row 9 1 A1 c1 n (sg'.map Value.string)::H) (dat [.slice A1 n c1, .slice A2 m c2,y3] [strsD sg', .s 1 ds,rowsD cols]::H):=by
 refine (Hle.perm ((List.Perm.swap _ _ _).trans ((List.Perm.swap _ _ _).cons _))).trans ?_
 refine dat_row.trans ?_
 refine (Hle.perm (List.Perm.swap _ _ _)).trans ?_
 refine (hle_map (fz_dat hp)).trans ?_
 refine dat_join.trans ?_
 refine (Hle.perm (List.Perm.swap _ _ _)).trans ?_
 refine dat_rowV.trans ?_
 refine (Hle.perm (List.Perm.swap _ _ _)).trans ?_
 exact dat_join
theorem co_nilR (H:List HA):Hle H [dat [.slice none 0 0, .slice none 0 0, .slice none 0 0] [strsD [], .s 1 (([]:List (List Tok)).map toksD),rowsD []]]:=co_nil1 H
theorem exact22_spec (A:Option Addr) (n ca:Nat) (l:List TS) (w:World) (hg:Grp w A n l) (h1:1≤n) (h6:n≤6) (ht:∀ t∈l,t.n≤6) :
  Spec Tryz.prog 57 [.slice A n ca] w (fun v R=>v = .bool (decide (n≤4))∧R=[]):=by
 have hn:=hg.hn
 refine spec_of sg Tryz.func57 rfl rfl rfl ?_
 repeat' (first|refine d1 ?_|fail)
 refine T_if rfl (fun h=>?_) (fun h=>?_)
 ·simp only [decide_eq_true_eq] at h
  repeat' (first|refine d1 ?_|(show T _ (.code .ret::_) _ _ _;refine T_retV [] rfl (Hle.none _) ⟨congrArg Value.bool (decide_eq_false (by omega)).symm,rfl⟩))
 simp only [decide_eq_false_iff_not] at h
 have h4:n≤4:=by omega
 repeat' (first|refine d1 ?_|fail)
 refine T_loopX (fun s:Nat × Nat=>[(4, .int .i64 (s.1:Nat)),(3, .int .i64 (s.2:Nat))]) (fun _=>[]) (fun s=>s.1≤n∧s.2≤7 ^ s.1) (fun s=>n - s.1) (0,1) ⟨Nat.zero_le _,Nat.le_refl _⟩ ?_
 rintro⟨k,q⟩ ⟨hk,hq⟩
 dsimp only at hk hq ⊢
 have hp4:7 ^ k≤7 ^ 4:=Nat.pow_le_pow_right (by omega) (by omega)
 repeat' (first|refine d1 ?_|fail)
 refine T_if rfl (fun h2=>?_) (fun h2=>?_)
 ·simp only [decide_eq_true_eq] at h2
  have hkn:k<n:=by omega
  obtain⟨b,o,rfl⟩:=hg.hs.base (by omega)
  obtain⟨t,htk,htm,hr⟩:=hg.get hkn
  have ht6:=ht t htm
  have hm1:q * (t.n+1)≤7 ^ (k+1):=by rw [Nat.pow_succ];exact Nat.mul_le_mul hq (by omega)
  have hp5:7 ^ (k+1)≤7 ^ 4:=Nat.pow_le_pow_right (by omega) (by omega)
  have hm2:(q:Int) * ((t.n:Int)+1)=((q * (t.n+1):Nat):Int):=by push_cast;rfl
  repeat' (first|refine d1 ?_|fail)
  refine T_if rfl (fun h3=>by exfalso;simp only [decide_eq_true_eq] at h3;omega) (fun _=>?_)
  repeat' (first|refine d1 ?_|fail)
  exact T_backX (k+1,q * (t.n+1)) ⟨by dsimp only;omega,hm1⟩ (by dsimp only;omega) (hE:=⟨rfl,by dsimp only;rw [← hm2];rfl,trivial⟩)
 ·repeat' (first|refine d1 ?_|(show T _ (.code .ret::_) _ _ _;refine T_retV [] rfl (Hle.none _) ⟨congrArg Value.bool (decide_eq_true h4).symm,rfl⟩))
theorem toksD_row {l:List Tok} {A:Option Addr} {n c:Nat} {H:List HA}:Hle (row 42 6 A c n (l.flatMap Tok.cells)::H) (dat [.slice A n c] [toksD l]::H):=dat_rowV
theorem collateR22_spec (c:Costs) (sec:ByteArray) (sg':List ByteArray) (A1:Option Addr) (c1:Nat) (l:List TS) (A2:Option Addr) (c2:Nat) (w:World) (hh:HdAt w sec sg' A1 c1 l A2 c2) (hl6:l.length≤6∨32<l.length) :
  Spec Tryz.prog 15 [c.val, .string sec, .slice A1 sg'.length c1, .slice A2 l.length c2] w (resR22 (made22 c sec sg' l).1 (made22 c sec sg' l).2):=by
 refine spec_of sg Tryz.func15 rfl rfl rfl ?_
 refine T_op (OpT.box (cs:=c.cells) rfl rfl rfl rfl rfl rfl rfl (fun pc=>?_))
 repeat' (first|refine d1 ?_|(show T _ (.ops _ (_::_)::_) _ _ _;refine T_call rfl rfl rfl rfl rfl (fun w hw=>costRef_spec c w) ?_)|(show ∀ _:Nat,T _ _ _ _ _;intro _))
 rename_i pr
 refine T_if rfl (fun h=>?_) (fun h=>?_)
 ·have hc:costE c≠0:=by simpa using h
  have e1:made22 c sec sg' l=(co0,1):=if_pos hc
  rw [e1]
  repeat' (first|refine d1 ?_|fail)
  exact T_retM (vs:=[.agg (coL ByteArray.empty (.slice none 0 0) (.slice none 0 0) (.slice none 0 0)).toArray, .int .i64 1]) _ ⟨⟨pr,_,coL ByteArray.empty (.slice none 0 0) (.slice none 0 0) (.slice none 0 0),rfl,rfl,rfl,rfl,(fun h=>by cases h),rfl,rdAll⟩,rfl,trivial⟩ (co_nilR _) ⟨((none,0),(none,0), .slice none 0 0),trivial,rfl,rfl⟩
 have hc:costE c=0:=by simpa using h
 repeat' (first|refine d1 ?_|(show T _ (.ops _ (_::_)::_) _ _ _;refine T_call rfl rfl rfl rfl rfl (fun w hw=>headR22_spec sec sg' A1 c1 l A2 c2 w (hh.cls hw)) ?_)|fail)
 refine T_if rfl (fun h2=>?_) (fun h2=>?_)
 ·have hd:head22 sec sg' (l.map TS.l)≠0:=by simpa using h2
  have e1:made22 c sec sg' l=(co0,head22 sec sg' (l.map TS.l)):=by unfold made22;rw [if_neg (by rw [hc];simp),if_pos hd]
  rw [e1]
  repeat' (first|refine d1 ?_|fail)
  exact T_retM (vs:=[.agg (coL ByteArray.empty (.slice none 0 0) (.slice none 0 0) (.slice none 0 0)).toArray, .int .i64 (head22 sec sg' (l.map TS.l))]) _ ⟨⟨pr,_,coL ByteArray.empty (.slice none 0 0) (.slice none 0 0) (.slice none 0 0),rfl,rfl,rfl,rfl,(fun h=>by cases h),rfl,rdAll⟩,rfl,trivial⟩ (co_nilR _) ⟨((none,0),(none,0), .slice none 0 0),trivial,rfl,rfl⟩
 have hd:head22 sec sg' (l.map TS.l)=0:=by simpa using h2
 obtain⟨f1,f2,f3,f4,f5,f6,f7,f8⟩:=made22_facts hc hd hh.ok.len (fun t ht=>(hh.tok t ht).1)
 have hle:=(head22_iff.1 hd).le
 have hg:Grp w A2 l.length l:=hh.grp (by omega)
 have h6:l.length≤6:=by omega
 have ht6:∀ t∈l,t.n≤6:=fun t ht=>(hh.tok t ht).1
 rw [f7]
 repeat' (first|refine d1 ?_|(show ∀ _:Nat,T _ _ _ _ _;intro _))
 refine T_blk_rowh 1 0 rfl (by omega) ?_
 repeat' (first|refine d1 ?_|(show T _ (.ops _ (_::_)::_) _ _ _;refine T_op (OpT.append rfl rfl rfl rfl rfl rfl rfl rfl rfl rfl (rdSrc hh.s1) (oneStr sg') (by dsimp only;omega) (by omega) (fun As cs hAs=>?_)))|(show ∀ _:Nat,T _ _ _ _ _;intro _))
 rename_i pt
 have e0:0+sg'.length=sg'.length:=by omega
 rw [e0]
 refine T_nilrow 38 1 ?_
 refine T_le (dat_nil _) ?_
 refine T_le (H':=[dat [] [],row 38 1 none 0 0 [],blk pt (coL sec (.slice As sg'.length cs) (.slice none 0 0) (.slice none 0 0)) 32,row 9 1 As cs sg'.length (sg'.map Value.string),blk pr (coL ByteArray.empty (.slice none 0 0) (.slice none 0 0) (.slice none 0 0)) 32,blk pc c.cells 23]) (Hle.refl _) ?_
 refine T_loopX (fun s:Nat × (Option Addr × Nat) × List Value=>[(12, .int .i64 (s.1:Nat))]) (fun s=>[blk pt (coL sec (.slice As sg'.length cs) (.slice s.2.1.1 s.1 s.2.1.2) (.slice none 0 0)) 32,row 38 1 s.2.1.1 s.2.1.2 s.1 s.2.2,dat s.2.2 ((l.take s.1).map fun t=>toksD t.l),row 9 1 As cs sg'.length (sg'.map Value.string),blk pr (coL ByteArray.empty (.slice none 0 0) (.slice none 0 0) (.slice none 0 0)) 32,blk pc c.cells 23]) (fun s=>s.1≤l.length) (fun s=>l.length - s.1) (0,(none,0),[]) (Nat.zero_le _) ?_ (hG:=by show Hle _ [blk pt (coL sec (.slice As sg'.length cs) (.slice none 0 0) (.slice none 0 0)) 32,row 38 1 none 0 0 [],dat [] [],row 9 1 As cs sg'.length (sg'.map Value.string),blk pr (coL ByteArray.empty (.slice none 0 0) (.slice none 0 0) (.slice none 0 0)) 32,blk pc c.cells 23];exact Hle.srt)
 rintro⟨k,⟨A',c'⟩,hs⟩ hk
 dsimp only at hk ⊢
 repeat' (first|refine d1 ?_|fail)
 refine T_if rfl (fun h5=>?_) (fun h5=>?_)
 ·simp only [decide_eq_true_eq] at h5
  have hkn:k<l.length:=by omega
  obtain⟨b,o,rfl⟩:=hh.s2.base (by omega)
  obtain⟨t,ht⟩:∃ t,l[k]?=some t:=⟨_,List.getElem?_eq_getElem hkn⟩
  have htm:=List.mem_of_getElem? ht
  have htn:=ht6 t htm
  have hr:=hh.hdr ht
  have htk:=take_snoc _ _ _ ht
  refine rsH [blk pt (coL sec (.slice As sg'.length cs) (.slice A' k c') (.slice none 0 0)) 32] 11 [0,1,3,4,5,6,2,7,8,9,10,11] ?_
  repeat' (first|refine dd ?_|(show T _ (.run _ _ (_::_) _ _::_) _ _ _;refine ro rfl rfl (OpT.litW rfl rfl rfl rfl rfl rfl rfl rfl rfl rfl rfl (fun b3=>⟨fun _=>Hle.sub,?_⟩)))|fail)
  refine T_blk_rowh 6 0 rfl (by omega) ?_
  refine ro rfl rfl (OpT.append rfl rfl rfl rfl rfl rfl rfl rfl rfl rfl (rdSrc (hh.ok.src t htm)) (oneToks t.l) (by dsimp only;omega) (by omega) (fun A3 c3 hA3=>⟨fun _=>Hle.sub,?_⟩))
  rw [show 0+t.n=t.n by omega,show flatP []++t.l.flatMap Tok.cells=t.l.flatMap Tok.cells from rfl]
  repeat' (first|refine d1 ?_|refine dd ?_|(show T _ (.run _ _ (_::_) _ _::_) _ _ _;first|refine ro rfl rfl (OpT.litW rfl rfl rfl rfl rfl rfl rfl rfl rfl rfl rfl (fun b4=>⟨fun _=>Hle.sub,?_⟩))|refine ro rfl rfl (OpT.append (A:=A') rfl rfl rfl rfl rfl rfl rfl rfl rfl rfl (fun w hw=>Src.own hw rfl) rfl (by dsimp only;omega) (by omega) (fun A4 c4 hA4=>⟨fun _=>Hle.sub,?_⟩)))|fail)
  refine T_le (H':=[row 42 6 A3 c3 t.n (t.l.flatMap Tok.cells),dat hs ((l.take k).map fun t=>toksD t.l),blk pt (coL sec (.slice As sg'.length cs) (.slice A4 (k+1) c4) (.slice none 0 0)) 32,row 38 1 A4 c4 (k+1) (hs++[.slice A3 t.n c3]),row 9 1 As cs sg'.length (sg'.map Value.string),blk pr (coL ByteArray.empty (.slice none 0 0) (.slice none 0 0) (.slice none 0 0)) 32,blk pc c.cells 23]) (by exact Hle.srt2) ?_
  refine T_le (toksD_row.trans dat_join) ?_
  refine T_backX (k+1,(A4,c4),hs++[.slice A3 t.n c3]) (by dsimp only;omega) (by dsimp only;omega) (hG:=?_)
  dsimp only
  have eD:((l.take (k+1)).map fun t=>toksD t.l)=((l.take k).map fun t=>toksD t.l)++[toksD t.l]:=by rw [htk,List.map_append];rfl
  rw [eD]
  exact Hle.srt
 simp only [decide_eq_false_iff_not] at h5
 obtain rfl:k=l.length:=by omega
 rw [List.take_length,show (l.map fun t=>toksD t.l)=(l.map TS.l).map toksD by rw [List.map_map];rfl]
 repeat' (first|refine d1 ?_|(show T _ (.ops _ (_::_)::_) _ _ _;refine T_call rfl rfl rfl rfl rfl (fun w hw=>exact22_spec A2 l.length c2 l w (hg.cls hw) f1 h6 ht6) ?_)|fail)
 refine T_if rfl (fun h4=>?_) (fun h4=>?_)
 ·have hb:l.length≤4:=of_decide_eq_true h4
  have eC:colsC22 c l=alnW c l:=if_pos hb
  rw [eC]
  repeat' (first|refine d1 ?_|(show T _ (.ops _ (_::_)::_) _ _ _;refine T_op (OpT.call rfl rfl rfl rfl rfl (fun w hw=>alignR19_spec c A2 l.length c2 l w (hg.cls hw)) ?_))|fail)
  rintro v R ⟨y,-,rfl,rfl⟩
  rw [f4 hb]
  refine T_le (H':=[dat [y] [rowsD (alnW c l)],blk pt (coL sec (.slice As sg'.length cs) (.slice A' l.length c') (.slice none 0 0)) 32,row 38 1 A' c' l.length hs,dat hs ((l.map TS.l).map toksD),row 9 1 As cs sg'.length (sg'.map Value.string),blk pr (coL ByteArray.empty (.slice none 0 0) (.slice none 0 0) (.slice none 0 0)) 32,blk pc c.cells 23]) (Hle.refl _) ?_
  refine T_open fun p hp=>?_
  obtain⟨Ay,cy,csy,rfl,-⟩:=hp.tab
  refine T_le (H':=[blk pt (coL sec (.slice As sg'.length cs) (.slice A' l.length c') (.slice none 0 0)) 32,blk pr (coL ByteArray.empty (.slice none 0 0) (.slice none 0 0) (.slice none 0 0)) 32,fz p,row 38 1 A' c' l.length hs,dat hs ((l.map TS.l).map toksD),row 9 1 As cs sg'.length (sg'.map Value.string)]) Hle.srt ?_
  repeat' (first|refine d1 ?_|fail)
  refine T_if rfl (fun h5=>by exfalso;simp at h5) (fun _=>?_)
  repeat' (first|refine d1 ?_|fail)
  exact T_retM (vs:=[.agg (coL sec (.slice As sg'.length cs) (.slice A' l.length c') (.slice Ay (alnW c l).length cy)).toArray, .int .i64 0]) _ ⟨⟨pr,_,coL sec (.slice As sg'.length cs) (.slice A' l.length c') (.slice Ay (alnW c l).length cy),rfl,rfl,rfl,rfl,(fun h=>by cases h),rfl,rdAll⟩,rfl,trivial⟩ (((Hle.tail _ _).trans (Hle.tail _ _)).trans ((co_joinR hp).trans (Hle.nth 0 rfl))) ⟨((As,cs),(A',c'), .slice Ay (alnW c l).length cy),trivial,by rw [List.length_map];rfl,by rw [List.length_map]⟩
 ·have hb:¬ l.length≤4:=of_decide_eq_false h4
  have eC:colsC22 c l=alnP c l:=if_neg hb
  rw [eC]
  repeat' (first|refine d1 ?_|(show T _ (.ops _ (_::_)::_) _ _ _;refine T_op (OpT.call rfl rfl rfl rfl rfl (fun w hw=>alignRef21_spec c A2 l.length c2 l w (hg.cls hw) (by omega) (fun t ht=>by have:=ht6 t ht;omega)) ?_))|fail)
  rintro v R ⟨y,-,rfl,rfl⟩
  rw [f5]
  refine T_le (H':=[dat [y] [rowsD (alnP c l)],blk pt (coL sec (.slice As sg'.length cs) (.slice A' l.length c') (.slice none 0 0)) 32,row 38 1 A' c' l.length hs,dat hs ((l.map TS.l).map toksD),row 9 1 As cs sg'.length (sg'.map Value.string),blk pr (coL ByteArray.empty (.slice none 0 0) (.slice none 0 0) (.slice none 0 0)) 32,blk pc c.cells 23]) (Hle.refl _) ?_
  refine T_open fun p hp=>?_
  obtain⟨Ay,cy,csy,rfl,-⟩:=hp.tab
  refine T_le (H':=[blk pt (coL sec (.slice As sg'.length cs) (.slice A' l.length c') (.slice none 0 0)) 32,blk pr (coL ByteArray.empty (.slice none 0 0) (.slice none 0 0) (.slice none 0 0)) 32,fz p,row 38 1 A' c' l.length hs,dat hs ((l.map TS.l).map toksD),row 9 1 As cs sg'.length (sg'.map Value.string)]) Hle.srt ?_
  repeat' (first|refine d1 ?_|fail)
  refine T_if rfl (fun h5=>by exfalso;simp at h5) (fun _=>?_)
  repeat' (first|refine d1 ?_|fail)
  exact T_retM (vs:=[.agg (coL sec (.slice As sg'.length cs) (.slice A' l.length c') (.slice Ay (alnP c l).length cy)).toArray, .int .i64 0]) _ ⟨⟨pr,_,coL sec (.slice As sg'.length cs) (.slice A' l.length c') (.slice Ay (alnP c l).length cy),rfl,rfl,rfl,rfl,(fun h=>by cases h),rfl,rdAll⟩,rfl,trivial⟩ (((Hle.tail _ _).trans (Hle.tail _ _)).trans ((co_joinR hp).trans (Hle.nth 0 rfl))) ⟨((As,cs),(A',c'), .slice Ay (alnP c l).length cy),trivial,by rw [List.length_map];rfl,by rw [List.length_map]⟩
end Go.Proofs.YtblnhdnogjijiaaGreatDoor
namespace Go.Proofs.YtblnhdnogjijiaaGreatDoor
open Go.RowKit Go.Shelf Go.Proofs
set_option maxRecDepth 100000
set_option maxHeartbeats 1000000

theorem words22_spec (A:Option Addr) (n ca:Nat) (l:List ByteArray) (w:World) (hs:Src w 1 A n (l.map Value.string)) (hn:l.length=n) (hnb:n≤1000) :
  Spec Tryz.prog 50 [.slice A n ca] w (fun v R=>∃ x:Option Addr × Nat,True∧v = .slice x.1 n x.2∧R=[row 42 6 x.1 x.2 n ((l.map tokS).flatMap Tok.cells)]):=by
 refine spec_of sg Tryz.func50 rfl rfl rfl ?_
 repeat' (first|refine d1 ?_|fail)
 refine T_nilrow 42 6 ?_
 refine T_loopX (fun s:Nat × (Option Addr × Nat)=>[(8, .int .i64 (s.1:Nat)),(3, .slice s.2.1 s.1 s.2.2)]) (fun s=>[row 42 6 s.2.1 s.2.2 s.1 (((l.take s.1).map tokS).flatMap Tok.cells)]) (fun s=>s.1≤n) (fun s=>n - s.1) (0,(none,0)) (Nat.zero_le _) ?_
 rintro⟨k,⟨A3,c3⟩⟩ hk
 dsimp only at hk ⊢
 repeat' (first|refine d1 ?_|fail)
 refine T_if rfl (fun h=>?_) (fun h=>?_)
 ·simp only [decide_eq_true_eq] at h
  obtain⟨b,o,rfl⟩:=hs.base (by omega)
  obtain⟨s,hsk⟩:∃ s,l[k]?=some s:=⟨_,List.getElem?_eq_getElem (by omega)⟩
  have hr:RdC w b (o+(k:Int).toNat * 1) [.string s]:=by
   have h9:=(hs.get1 (i:=k) (by omega) (by rw [List.getElem?_map,hsk];rfl)).2
   rw [Nat.mul_one] at h9
   rw [off1];exact h9
  repeat' (first|refine d1 ?_|(show T _ (.ops _ (_::_)::_) _ _ _;refine T_op (OpT.append (A:=A3) rfl rfl rfl rfl rfl rfl rfl rfl rfl rfl (fun w hw=>Src.own hw rfl) rfl (by dsimp only;omega) (by omega) (fun A' cap' hA'=>?_)))|(show ∀ _:Nat,T _ _ _ _ _;intro _))
  refine T_backX (k+1,(A',cap')) (by dsimp only;omega) (by dsimp only;omega) (hG:=?_)
  dsimp only
  rw [take_snoc _ _ _ hsk,List.map_append,List.flatMap_append]
  exact Hle.tail _ _
 ·simp only [decide_eq_false_iff_not] at h
  obtain rfl:k=n:=by omega
  rw [← hn,List.take_length]
  repeat' (first|refine d1 ?_|(show T _ (.code .ret::_) _ _ _;refine T_retV _ rfl (Hle.refl _) ⟨(A3,c3),trivial,rfl,rfl⟩))
def s22d:ByteArray:=⟨#[100,101,117,115]⟩
def s22e:ByteArray:=⟨#[101,115,116]⟩
def s22n:ByteArray:=⟨#[110,111,110]⟩
def s22A:ByteArray:=⟨#[65]⟩
def s22B:ByteArray:=⟨#[66]⟩
def s22P:ByteArray:=⟨#[65,124,100,101,117,115,124,124,101,115,116,10,66,124,100,101,117,115,124,110,111,110,124,101,115,116,10]⟩
def aw22C:Costs:=⟨40,5,20,50⟩
def aw22a:List Tok:=[s22d,s22e].map tokS
def aw22b:List Tok:=[s22d,s22n,s22e].map tokS
def aw22l (x1 x2:Option Addr × Nat):List TS:=[⟨x1.1,2,x1.2,aw22a⟩,⟨x2.1,3,x2.2,aw22b⟩]
def aw22c:List (List Int):=[[0,0],[-1,1],[1,2]]
def aw22x:Co:=⟨sA,[s22A,s22B],[aw22a,aw22b],aw22c⟩
theorem aw22K:costE aw22C=0:=by decide +kernel
theorem aw22H:head22 sA [s22A,s22B] [aw22a,aw22b]=0:=by decide +kernel
theorem aw22W:alnW aw22C (aw22l (none,0) (none,0))=aw22c:=by decide +kernel
theorem aw22s:(∀ x∈aw22a,x.small)∧(∀ x∈aw22b,x.small):=by decide +kernel
theorem aw22t:(∀ x∈aw22a,x.text.size≤12)∧(∀ x∈aw22b,x.text.size≤12):=by decide +kernel
theorem aw22M (x1 x2:Option Addr × Nat):made22 aw22C sA [s22A,s22B] (aw22l x1 x2)=(aw22x,0)∧toks22 aw22C sA [s22A,s22B] (aw22l x1 x2)=aw22l x1 x2∧Ok22 aw22x:=by
 have hh:head22 sA [s22A,s22B] ((aw22l x1 x2).map TS.l)=0:=aw22H
 obtain⟨f1,f2,f3,f4,f5,f6,f7,f8⟩:=made22_facts (l:=aw22l x1 x2) aw22K hh (List.forall_mem_cons.2 ⟨rfl,List.forall_mem_cons.2 ⟨rfl,fun t h=>by cases h⟩⟩) (List.forall_mem_cons.2 ⟨Nat.le_of_ble_eq_true rfl,List.forall_mem_cons.2 ⟨Nat.le_of_ble_eq_true rfl,fun t h=>by cases h⟩⟩)
 have eC:colsC22 aw22C (aw22l x1 x2)=aw22c:=by
  unfold colsC22
  rw [if_pos (by show 2≤4;omega)]
  exact aw22W
 rw [eC] at f6 f7
 exact⟨f7,f8,⟨head22_iff.1 aw22H,f6⟩⟩
theorem aw22S:Small22 aw22x :=
 ⟨List.forall_mem_cons.2 ⟨⟨Nat.le_of_ble_eq_true rfl,aw22s.1⟩,List.forall_mem_cons.2 ⟨⟨Nat.le_of_ble_eq_true rfl,aw22s.2⟩,fun t h=>by cases h⟩⟩, .inl (Nat.le_of_ble_eq_true rfl),by decide,by decide,by decide,by decide,by decide,
  List.forall_mem_cons.2 ⟨aw22t.1,List.forall_mem_cons.2 ⟨aw22t.2,fun t h=>by cases h⟩⟩⟩
theorem aw22P:printV22 aw22x=(s22P,0):=by
 rw [printV22_ok aw22S (aw22M (none,0) (none,0)).2.2]
 have e:print22 aw22x=s22P.data.toList:=by decide +kernel
 rw [e]
theorem aw22F:findV22 aw22x 0 1=(2,0):=by
 have h1:=chk22_iff.2 (aw22M (none,0) (none,0)).2.2
 have h2:at22 aw22x 0 1=2:=by decide +kernel
 unfold findV22
 rw [if_neg (by rw [h1];simp),if_neg (by decide)]
 exact congrArg (fun z=>(z,(0:Int))) h2
theorem aw22N:chk22 ⟨sA,[],[],[]⟩=5:=by
 have e:head22 sA [] []=5:=by decide +kernel
 unfold chk22
 show (if head22 sA [] []≠0 then head22 sA [] [] else _)=_
 rw [e]
 rfl
theorem srcRow22 {w0 w:World} {H:List HA} {A:Option Addr} {e sz cap n:Nat} {xs:List Value} {rb:HA→List HA} [FocusR H A e sz cap n xs rb] (hw:Cls w0 w H):Src w sz A n xs :=
 srcRw (C:=⟨sg,⟨0,[]⟩,w0,none,fun _ _=>True,fun _ _=>True,fun _ _ _=>True⟩) (e:=e) (cap:=cap) (rb:=rb) w hw
theorem aw22_hd {w w':World} (hst:Std w) {b4 bS:Nat} {x1 x2:Option Addr × Nat} {H:List HA}
  (hw:Cls w w' (blk b4 ((aw22l x1 x2).map TS.val) 38::blk bS ([s22A,s22B].map Value.string) 9::row 42 6 x1.1 x1.2 2 (aw22a.flatMap Tok.cells)::row 42 6 x2.1 x2.2 3 (aw22b.flatMap Tok.cells)::H)) :
  HdAt w' sA [s22A,s22B] (some ⟨bS,0,none⟩) 2 (aw22l x1 x2) (some ⟨b4,0,none⟩) 2 :=
 ⟨hst.cls hw,Src.own (b:=bS) hw rfl,Nat.le_refl _,Src.own (b:=b4) hw rfl,
  ⟨List.forall_mem_cons.2 ⟨srcRow22 hw,List.forall_mem_cons.2 ⟨srcRow22 hw,fun t h=>by cases h⟩⟩,List.forall_mem_cons.2 ⟨rfl,List.forall_mem_cons.2 ⟨rfl,fun t h=>by cases h⟩⟩,List.forall_mem_cons.2 ⟨Nat.le_of_ble_eq_true rfl,List.forall_mem_cons.2 ⟨Nat.le_of_ble_eq_true rfl,fun t h=>by cases h⟩⟩⟩,
  by decide,by decide,by decide,Nat.le_of_ble_eq_true rfl,
  List.forall_mem_cons.2 ⟨⟨Nat.le_of_ble_eq_true rfl,aw22s.1⟩,List.forall_mem_cons.2 ⟨⟨Nat.le_of_ble_eq_true rfl,aw22s.2⟩,fun t h=>by cases h⟩⟩,
  List.forall_mem_cons.2 ⟨aw22t.1,List.forall_mem_cons.2 ⟨aw22t.2,fun t h=>by cases h⟩⟩⟩
theorem coNone {w:World} (hst:Std w):CoAt w ⟨sA,[],[],[]⟩ none 0 [] none 0 (.slice none 0 0) :=
 ⟨⟨hst,⟨rfl,fun h=>absurd h (Nat.not_lt_zero _)⟩,Nat.le_refl _,⟨rfl,fun h=>absurd h (Nat.not_lt_zero _)⟩,⟨fun t h=>(by cases h),fun t h=>(by cases h),fun t h=>(by cases h)⟩,by decide,fun t h=>(by cases h),Nat.zero_le _,Nat.zero_le _,fun t h=>(by cases h),fun t h=>(by cases h)⟩,rfl,
  Rd.s none 0 0 1 [] rfl (Nat.le_refl _) (by omega) (fun h=>absurd h (by omega)) .nil .nil⟩
theorem awake22_spec (w:World) (hst:Std w):Spec Tryz.prog 13 [] w (fun v R=>v = .bool true∧R=[]):=by
 refine spec_of sg Tryz.func13 rfl rfl rfl ?_
 repeat' (first|refine d1 ?_|(show T _ (.ops _ (_::_)::_) _ _ _;first|refine T_callE rfl rfl rfl rfl rfl (fun w hw=>words22_spec (some ⟨_,0,none⟩) 2 2 [s22d,s22e] w (Src.own hw rfl) rfl (by omega)) (fun x1 _=>?_)|refine T_callE rfl rfl rfl rfl rfl (fun w hw=>words22_spec (some ⟨_,0,none⟩) 3 3 [s22d,s22n,s22e] w (Src.own hw rfl) rfl (by omega)) (fun x2 _=>?_))|(show ∀ _:Nat,T _ _ _ _ _;intro _))
 rename_i b1 _ b2 _ b4 bS
 refine T_le (H':=[blk bS ([s22A,s22B].map Value.string) 9,blk b4 ((aw22l x1 x2).map TS.val) 38,row 42 6 x2.1 x2.2 3 (aw22b.flatMap Tok.cells),blk b2 ([s22d,s22n,s22e].map Value.string) 9,row 42 6 x1.1 x1.2 2 (aw22a.flatMap Tok.cells),blk b1 ([s22d,s22e].map Value.string) 9]) (Hle.refl _) ?_
 refine T_le (H':=[blk b4 ((aw22l x1 x2).map TS.val) 38,blk bS ([s22A,s22B].map Value.string) 9,row 42 6 x1.1 x1.2 2 (aw22a.flatMap Tok.cells),row 42 6 x2.1 x2.2 3 (aw22b.flatMap Tok.cells)]) Hle.srt2 ?_
 refine T_op (OpT.call rfl rfl rfl rfl rfl (fun w hw=>collateP22_spec aw22C sA [s22A,s22B] (some ⟨bS,0,none⟩) 2 (aw22l x1 x2) (some ⟨b4,0,none⟩) 2 w (aw22_hd hst hw) (.inl (Nat.le_of_ble_eq_true rfl))) ?_)
 rintro v R ⟨⟨y1,y2,y3⟩,-,rfl,rfl⟩
 rw [(aw22M x1 x2).1,(aw22M x1 x2).2.1]
 dsimp only
 refine T_open fun p hp=>?_
 obtain⟨Ak,ck,csk,rfl,-⟩:=hp.cons_inv.2.cons_inv.2.tab
 repeat' (first|refine d1 ?_|(show ∀ _:Nat,T _ _ _ _ _;intro _))
 rename_i c0 sS r0 r1 r2 tb pw
 refine T_le (H':=[blk pw (coL sA (.slice (some ⟨sS,0,none⟩) 2 2) (.slice (some ⟨b4,0,none⟩) 2 2) (.slice (some ⟨tb,0,none⟩) 3 3)) 32,blk tb [.slice (some ⟨r0,0,none⟩) 2 2, .slice (some ⟨r1,0,none⟩) 2 2, .slice (some ⟨r2,0,none⟩) 2 2] 47,blk r2 [.int .i64 1, .int .i64 2] 3,blk r1 [.int .i64 (-1), .int .i64 1] 3,blk r0 [.int .i64 0, .int .i64 0] 3,blk sS ([s22A,s22B].map Value.string) 9,blk c0 (coL aw22x.sec (.slice y1.1 aw22x.sg.length y1.2) (.slice y2.1 (aw22l x1 x2).length y2.2) (.slice Ak aw22x.cols.length ck)) 32,fz p,blk b4 ((aw22l x1 x2).map TS.val) 38,blk bS ([s22A,s22B].map Value.string) 9,row 42 6 x1.1 x1.2 2 (aw22a.flatMap Tok.cells),row 42 6 x2.1 x2.2 3 (aw22b.flatMap Tok.cells)]) (Hle.refl _) ?_
 refine T_le (H':=[blk b4 ((aw22l x1 x2).map TS.val) 38,blk sS ([s22A,s22B].map Value.string) 9,row 42 6 x1.1 x1.2 2 (aw22a.flatMap Tok.cells),row 42 6 x2.1 x2.2 3 (aw22b.flatMap Tok.cells),blk tb [.slice (some ⟨r0,0,none⟩) 2 2, .slice (some ⟨r1,0,none⟩) 2 2, .slice (some ⟨r2,0,none⟩) 2 2] 47,blk r0 [.int .i64 0, .int .i64 0] 3,blk r1 [.int .i64 (-1), .int .i64 1] 3,blk r2 [.int .i64 1, .int .i64 2] 3,blk pw (coL sA (.slice (some ⟨sS,0,none⟩) 2 2) (.slice (some ⟨b4,0,none⟩) 2 2) (.slice (some ⟨tb,0,none⟩) 3 3)) 32,blk c0 (coL aw22x.sec (.slice y1.1 aw22x.sg.length y1.2) (.slice y2.1 (aw22l x1 x2).length y2.2) (.slice Ak aw22x.cols.length ck)) 32,fz p]) Hle.srt2 ?_
 have hX:∀ {w':World} {H:List HA},Cls w w' (blk b4 ((aw22l x1 x2).map TS.val) 38::blk sS ([s22A,s22B].map Value.string) 9::row 42 6 x1.1 x1.2 2 (aw22a.flatMap Tok.cells)::row 42 6 x2.1 x2.2 3 (aw22b.flatMap Tok.cells)::blk tb [.slice (some ⟨r0,0,none⟩) 2 2, .slice (some ⟨r1,0,none⟩) 2 2, .slice (some ⟨r2,0,none⟩) 2 2] 47::blk r0 [.int .i64 0, .int .i64 0] 3::blk r1 [.int .i64 (-1), .int .i64 1] 3::blk r2 [.int .i64 1, .int .i64 2] 3::H)→CoAt w' aw22x (some ⟨sS,0,none⟩) 2 (aw22l x1 x2) (some ⟨b4,0,none⟩) 2 (.slice (some ⟨tb,0,none⟩) 3 3):=fun hw =>
  ⟨aw22_hd hst hw,rfl,rd_lit (n:=3) (Src.own (b:=tb) hw rfl) (by omega) ((rd_ints (b:=r0) (n:=2) (r:=[0,0]) (Src.own (b:=r0) hw rfl) (by omega)).append ((rd_ints (b:=r1) (n:=2) (r:=[-1,1]) (Src.own (b:=r1) hw rfl) (by omega)).append (rd_ints (b:=r2) (n:=2) (r:=[1,2]) (Src.own (b:=r2) hw rfl) (by omega))))⟩
 repeat' (first|refine d1 ?_|(show T _ (.ops _ (_::_)::_) _ _ _;first|refine T_call rfl rfl rfl rfl rfl (fun w hw=>printP22_spec aw22x (some ⟨sS,0,none⟩) 2 (aw22l x1 x2) (some ⟨b4,0,none⟩) 2 (.slice (some ⟨tb,0,none⟩) 3 3) w (hX hw) aw22S) ?_|refine T_call rfl rfl rfl rfl rfl (fun w hw=>findP22_spec aw22x (some ⟨sS,0,none⟩) 2 (aw22l x1 x2) (some ⟨b4,0,none⟩) 2 (.slice (some ⟨tb,0,none⟩) 3 3) 0 1 w (hX hw)) ?_)|fail)
 rw [aw22P,aw22F]
 have hY:∀ {w':World} {H:List HA},Cls w w' (blk b4 ((aw22l x1 x2).map TS.val) 38::blk sS ([s22A,s22B].map Value.string) 9::row 42 6 x1.1 x1.2 2 (aw22a.flatMap Tok.cells)::row 42 6 x2.1 x2.2 3 (aw22b.flatMap Tok.cells)::blk tb [.slice (some ⟨r0,0,none⟩) 2 2, .slice (some ⟨r1,0,none⟩) 2 2, .slice (some ⟨r2,0,none⟩) 2 2] 47::blk r0 [.int .i64 0, .int .i64 0] 3::blk r1 [.int .i64 (-1), .int .i64 1] 3::blk r2 [.int .i64 1, .int .i64 2] 3::H)→CoSm w' aw22x (some ⟨sS,0,none⟩) 2 (aw22l x1 x2) (some ⟨b4,0,none⟩) 2 (.slice (some ⟨tb,0,none⟩) 3 3):=fun hw =>
  ⟨rd_lit (n:=2) (hX hw).hd.s1 (by omega) (Rd.vals _),(hX hw).hd.s2,Nat.le_of_ble_eq_true rfl,(hX hw).hd.ok,rfl,(hX hw).cols⟩
 repeat' (first|refine d1 ?_|(show T _ (.ops _ (_::_)::_) _ _ _;first|refine T_callC rfl rfl rfl rfl rfl rfl rfl (fun _ w hw=>sameR22_spec aw22x aw22x y1.1 (some ⟨sS,0,none⟩) y1.2 2 (aw22l x1 x2) (aw22l x1 x2) y2.1 (some ⟨b4,0,none⟩) y2.2 2 _ _ w (ofP22 hp rfl hw (hX hw).hd.ok) (hY hw)) ?_|refine T_callC rfl rfl rfl rfl rfl rfl rfl (fun _ w hw=>sameP22_spec aw22x aw22x y1.1 (some ⟨sS,0,none⟩) y1.2 2 (aw22l x1 x2) (aw22l x1 x2) y2.1 (some ⟨b4,0,none⟩) y2.2 2 _ _ w (ofP22 hp rfl hw (hX hw).hd.ok) (hY hw)) ?_|refine T_callC rfl rfl rfl rfl rfl rfl rfl (fun _ w hw=>checkP22_spec ⟨sA,[],[],[]⟩ none 0 [] none 0 (.slice none 0 0) w (coNone (hst.cls hw))) ?_)|fail)
 rw [same22_refl,aw22N,show decide ((s22P,(0:Int)).1=(⟨#[65,124,100,101,117,115,124,124,101,115,116,10,66,124,100,101,117,115,124,110,111,110,124,101,115,116,10]⟩:ByteArray))=true from decide_eq_true rfl]
 exact T_retM (vs:=[.bool true]) [] ⟨rfl,trivial⟩ (Hle.none _) ⟨rfl,rfl⟩
end Go.Proofs.YtblnhdnogjijiaaGreatDoor
namespace Go.Proofs.YtblnhdnogjijiaaGreatDoor
open Go.RowKit Go.Shelf Go.Proofs
set_option maxRecDepth 100000
set_option maxHeartbeats 1000000

structure CoAr (w:World) (x:Co) (A1:Option Addr) (c1:Nat) (l:List TS) (A2:Option Addr) (c2:Nat) (y3:Value):Prop where
 r1:Rd (wr w) [.slice A1 x.sg.length c1] [strsD x.sg]
 s1:Src w 1 A1 x.sg.length (x.sg.map Value.string)
 b1:x.sg.length≤c1
 b1':x.sg.length≤9223372036854775807
 s2:Src w 1 A2 l.length (l.map TS.val)
 b2:l.length≤9223372036854775807
 ok:TsOk w l
 m:l.map TS.l=x.m
 cols:Rd (wr w) [y3] [rowsD x.cols]
theorem CoAr.cls {w0 w:World} {H:List HA} {x:Co} {A1 A2:Option Addr} {c1 c2:Nat} {l:List TS} {y3:Value} (h:CoAr w0 x A1 c1 l A2 c2 y3) (hw:Cls w0 w H):CoAr w x A1 c1 l A2 c2 y3 :=
 ⟨h.r1.old hw,h.s1.old hw,h.b1,h.b1',h.s2.old hw,h.b2,⟨fun t ht=>src_below (h.ok.src t ht) hw.below,h.ok.len,h.ok.bd⟩,h.m,h.cols.old hw⟩
theorem CoAr.sm {w:World} {x:Co} {A1 A2:Option Addr} {c1 c2:Nat} {l:List TS} {y3:Value} (h:CoAr w x A1 c1 l A2 c2 y3):CoSm w x A1 c1 l A2 c2 y3:=⟨h.r1,h.s2,h.b2,h.ok,h.m,h.cols⟩
theorem CoAr.at {w:World} {x:Co} {A1 A2:Option Addr} {c1 c2:Nat} {l:List TS} {y3:Value} (h:CoAr w x A1 c1 l A2 c2 y3) (hst:Std w) (hs:Small22 x):CoAt w x A1 c1 l A2 c2 y3 :=
 have hl:x.m.length=l.length:=by rw [← h.m,List.length_map]
 have hm:∀ t∈l,t.l∈x.m:=fun t ht=>by rw [← h.m];exact List.mem_map_of_mem ht
 ⟨⟨hst,h.s1,h.b1,h.s2,h.ok,hs.sec,hs.sig,hs.sg,by have:=hs.len;omega,fun t ht=>⟨by have:=(hs.tok _ (hm t ht)).1;rw [h.ok.len t ht] at this;exact this,(hs.tok _ (hm t ht)).2⟩,fun t ht=>hs.txt _ (hm t ht)⟩,h.m,h.cols⟩
theorem great22C_spec (c:Costs) (sec:ByteArray) (sg':List ByteArray) (A1:Option Addr) (c1:Nat) (l:List TS) (A2:Option Addr) (c2:Nat) (w:World) (hs1:Src w 1 A1 sg'.length (sg'.map Value.string)) (hb1:sg'.length≤9223372036854775807)
  (hs2:Src w 1 A2 l.length (l.map TS.val)) (hl:TsOk w l) (hb2:l.length≤9223372036854775807) :
  Spec Tryz.prog 12 [.agg (case22L c sec (.slice A1 sg'.length c1) (.slice A2 l.length c2)).toArray] w (fun v R=>v = .bool (grT22 (l.map TS.l) || decide (36<sg'.length) || grN22 sec sg')∧R=[]):=by
 refine spec_of sg Tryz.func12 rfl rfl rfl ?_
 repeat' (first|(show T _ (.ops _ (⟨_, .box _ _,_,_,_,_⟩::_)::_) _ _ _;refine T_op (OpT.box (cs:=case22L c sec (.slice A1 sg'.length c1) (.slice A2 l.length c2)) rfl rfl rfl rfl rfl rfl rfl (fun _=>?_)))|refine d1 ?_|(show T _ (.ops _ (_::_)::_) _ _ _;first|refine T_call rfl rfl rfl rfl rfl (fun w hw=>greatTokens_spec A2 c2 l w (hs2.old hw) ⟨fun t ht=>src_below (hl.src t ht) hw.below,hl.len,hl.bd⟩ hb2) ?_|refine T_callC rfl rfl rfl rfl rfl rfl rfl (fun hG w hw=>greatNames_spec sec sg' A1 c1 w (hs1.old hw) hb1) ?_)|fail)
 rw [show decide ((36:Int)<(sg'.length:Int))=decide (36<sg'.length) from decide_eq_decide.2 (by omega)]
 repeat' (first|(show T _ (.code .ret::_) _ _ _;refine T_retV [] rfl (Hle.none _) ⟨rfl,rfl⟩))
end Go.Proofs.YtblnhdnogjijiaaGreatDoor
namespace Go.Proofs.YtblnhdnogjijiaaGreatDoor
open Go.RowKit Go.Shelf Go.Proofs
set_option maxRecDepth 100000
set_option maxHeartbeats 1000000

theorem hd22C {w:World} {sec:ByteArray} {sg':List ByteArray} {A1 A2:Option Addr} {c1 c2:Nat} {l:List TS} (hst:Std w) (hs1:Src w 1 A1 sg'.length (sg'.map Value.string)) (hb1:sg'.length≤c1) (hs2:Src w 1 A2 l.length (l.map TS.val)) (hl:TsOk w l)
  (h:(grT22 (l.map TS.l) || decide (36<sg'.length) || grN22 sec sg')=false):HdAt w sec sg' A1 c1 l A2 c2∧(l.length≤6∨32<l.length):=by
 unfold grN22 at h
 simp only [Bool.or_eq_false_iff,decide_eq_false_iff_not,List.any_eq_false,decide_eq_true_eq] at h
 obtain⟨⟨h1,h2⟩,h3,h4⟩:=h
 obtain⟨g1,g2⟩:=grT22_no h1
 have g3:=grT22_txt h1
 rw [List.length_map] at g2
 have hm:∀ t∈l,t.l∈l.map TS.l:=fun t ht=>List.mem_map_of_mem ht
 exact⟨⟨hst,hs1,hb1,hs2,hl,by omega,fun s hs=>by have:=h3 s hs;omega,by omega,by omega,fun t ht=>⟨by have:=(g1 _ (hm t ht)).1;rw [hl.len t ht] at this;exact this,(g1 _ (hm t ht)).2⟩,fun t ht=>g3 _ (hm t ht)⟩,by omega⟩
theorem toks22_m (c:Costs) (sec:ByteArray) (sg':List ByteArray) (l:List TS):(toks22 c sec sg' l).map TS.l=(made22 c sec sg' l).1.m:=by
 unfold toks22 made22
 split
 ·rfl
 ·split <;> rfl
theorem toks22_ok {c:Costs} {sec:ByteArray} {sg':List ByteArray} {l:List TS} {w:World} (h:TsOk w l):TsOk w (toks22 c sec sg' l):=by
 have h0:TsOk w []:=⟨fun t h=>(by cases h),fun t h=>(by cases h),fun t h=>(by cases h)⟩
 unfold toks22
 split
 ·exact h0
 ·split
  ·exact h0
  ·exact h
end Go.Proofs.YtblnhdnogjijiaaGreatDoor
