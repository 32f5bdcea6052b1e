/- Joined texts of this claim, part 3. -/
import Derived.Test.YtabhdaehomjlgaaGreatT2
set_option linter.unusedSectionVars false
set_option linter.unusedVariables false
set_option linter.unusedSimpArgs false
namespace Go.Proofs.YtabhdaehomjlgaaGreat
open Go.RowKit Go.Shelf
set_option maxRecDepth 100000

theorem findI_map9 {α β:Type} (p:β→Bool) (f:α→β):∀ l:List α,findI p (l.map f)=findI (fun x=>p (f x)) l
 | []=>rfl
 | x::l=>by rw [List.map_cons];unfold findI;rw [findI_map9 p f l]
theorem findI_congr9 {α:Type} {p q:α→Bool}:∀ {l:List α},(∀ x∈l,p x=q x)→findI p l=findI q l
 | [],_=>rfl
 | x::l,h=>by
  unfold findI
  rw [h x (.head _),findI_congr9 (l:=l) fun y hy=>h y (.tail _ hy)]
theorem siglum_ne {s:ByteArray} (h:siglum22 s=true):s≠ByteArray.empty:=by
 rintro rfl
 exact absurd h (by decide)
theorem lfM_mem {ns:List ByteArray} {m i:Nat}:i∈lfM ns m↔i<m∧ns.getD i ByteArray.empty≠ByteArray.empty:=by
 unfold lfM
 rw [List.mem_filter,List.mem_range,decide_eq_true_eq]
theorem lfI_mem {ns:List ByteArray} {i:Nat}:i∈lfI ns↔i<ns.length∧ns.getD i ByteArray.empty≠ByteArray.empty:=lfM_mem
section
variable {ps:List Int} {ns:List ByteArray}
theorem tOk.leaf (h:tOk ps ns) {i:Nat} (hi:i<ps.length):kdsI ps i ps.length=[]↔i∈lfI ns:=by
 rw [lfI_mem,h.len]
 constructor
 ·intro h0;exact⟨hi,siglum_ne (h.lf i hi h0).1⟩
 ·rintro⟨-,h2⟩
  refine Classical.byContradiction fun h0=>h2 (h.inn i hi h0)
theorem tOk.inj (h:tOk ps ns) {i j:Nat} (hi:i∈lfI ns) (hj:j∈lfI ns) (he:ns.getD i ByteArray.empty=ns.getD j ByteArray.empty):i=j:=by
 have key:∀ i j,i∈lfI ns→j∈lfI ns→i<j→ns.getD i ByteArray.empty≠ns.getD j ByteArray.empty:=fun i j hi hj hij he=>by
  have hj9:=(lfI_mem.1 hj).1
  rw [h.len] at hj9
  refine (h.lf j hj9 ((h.leaf hj9).2 hj)).2 ?_
  rw [← he]
  have hi9:i<ns.length:=(lfI_mem.1 hi).1
  rw [List.getD_eq_getElem?_getD,List.getElem?_eq_getElem hi9]
  refine List.mem_of_getElem? (i:=i) ?_
  rw [List.getElem?_take,if_pos hij,List.getElem?_eq_getElem hi9];rfl
 rcases Nat.lt_trichotomy i j with h1|h1|h1
 ·exact absurd he (key i j hi hj h1)
 ·exact h1
 ·exact absurd he.symm (key j i hj hi h1)
def sgN (ns:List ByteArray) (st:List Int) (a:ByteArray):Int :=
 if findI (fun k=>decide (ns.getD k ByteArray.empty=a)) (lfI ns)<0 then -1 else st.getD (findI (fun k=>decide (ns.getD k ByteArray.empty=a)) (lfI ns)).toNat (-1)
theorem sgN_leaf (h:tOk ps ns) (st:List Int) {i:Nat} (hi:i∈lfI ns):sgN ns st (ns.getD i ByteArray.empty)=stI (lfZ ns) st i:=by
 have e:findI (fun k=>decide (ns.getD k ByteArray.empty=ns.getD i ByteArray.empty)) (lfI ns)=stK (lfZ ns) i:=by
  unfold stK lfZ
  rw [findI_map9]
  refine findI_congr9 fun k hk=>?_
  refine decide_eq_decide.2 ⟨fun he=>?_,fun he=>?_⟩
  ·rw [h.inj hk hi he]
  ·have:i=k:=by omega
   rw [this]
 unfold sgN stI
 rw [e]
theorem stI_inner (st:List Int) {i:Nat} (hi:i ∉ lfI ns):stI (lfZ ns) st i = -1:=by
 have e:stK (lfZ ns) i = -1:=by
  unfold stK
  refine findI_none fun k x hx=>?_
  have hm:=List.mem_of_getElem? hx
  unfold lfZ at hm
  obtain⟨j,hj,rfl⟩:=List.mem_map.1 hm
  refine decide_eq_false fun he=>hi ?_
  have:i=j:=by omega
  rw [this];exact hj
 unfold stI
 rw [e];rfl
theorem rvF_fit (h:tOk ps ns) (st:List Int):∀ f i,i<ps.length→ps.length≤f+i+1→∀ s,rvF ps (bsS (lfZ ns) st) f i s=fitR 16 (sgN ns st) (ndF ps ns f i) s:=by
 have hleaf:∀ i,i∈lfI ns→∀ s,bsS (lfZ ns) st i s=fitR 16 (sgN ns st) (.mk (ns.getD i ByteArray.empty) (i:Nat) []) s:=fun i hi s=>by
  rw [fitR_leaf,sgN_leaf h st hi];rfl
 intro f
 induction f with
 | zero =>
  intro i hi hf s
  have h0:kdsI ps i ps.length=[]:=by
   refine List.eq_nil_iff_forall_not_mem.2 fun j hj=>?_
   have h1:=h.up.gt (Nat.le_refl _) hj
   have h2:=(kdsI_mem.1 hj).1
   omega
  rw [rvF,ndF]
  exact hleaf i ((h.leaf hi).1 h0) s
 | succ f ih =>
  intro i hi hf s
  rw [rvF,ndF]
  by_cases h0:kdsI ps i ps.length=[]
  ·rw [h0,List.map_nil,List.map_nil,List.sum_nil,Int.add_zero]
   exact hleaf i ((h.leaf hi).1 h0) s
  ·have hb:bsS (lfZ ns) st i s=0:=by
    unfold bsS
    rw [stI_inner st (fun hm=>h0 ((h.leaf hi).2 hm)),if_neg (by omega)]
   rw [hb,Int.zero_add,fitR_node (by simpa using h0),fitL_sum,List.map_map]
   congr 1
   refine List.map_congr_left fun k hk=>?_
   have h2:=h.up.gt (Nat.le_refl _) hk
   exact bst_congr (fun t _=>ih k (kdsI_mem.1 hk).1 (by omega) t) s
theorem rvT_fit (h:tOk ps ns) (st:List Int):lstK (rvT ps (bsS (lfZ ns) st) 0) 16=lstK (fitR 16 (sgN ns st) (ndOf ps ns)) 16 :=
 lst_congr fun t _=>rvF_fit h st _ 0 h.pos (by omega) t
end
end Go.Proofs.YtabhdaehomjlgaaGreat
namespace Go.Proofs.YtabhdaehomjlgaaGreat
open Go.RowKit Go.Shelf
set_option maxRecDepth 100000

def idxP (p:Int) (n:Nat):List Int→List Nat
 | []=>[]
 | a::l=>if a=p then n::idxP p (n+1) l else idxP p (n+1) l
theorem idxP_app (p:Int):∀ (a b:List Int) (n:Nat),idxP p n (a++b)=idxP p n a++idxP p (n+a.length) b
 | [],b,n=>rfl
 | x::a,b,n=>by
  rw [List.cons_append,idxP,idxP,idxP_app p a b (n+1),List.length_cons,show n+1+a.length=n+(a.length+1) by omega]
  split <;> rfl
theorem idxP_none {p:Int}:∀ {l:List Int} {n:Nat},(∀ a∈l,a≠p)→idxP p n l=[]
 | [],_,_=>rfl
 | x::l,n,h=>by rw [idxP,if_neg (h x (.head _)),idxP_none fun a ha=>h a (.tail _ ha)]
theorem kdsI_idx (l:List Int) (i:Nat):∀ m,m≤l.length→kdsI l i m=idxP (i:Nat) 0 (l.take m)
 | 0,_=>rfl
 | m+1,h=>by
  have hm:l[m]?=some l[m]:=List.getElem?_eq_getElem (by omega)
  rw [kdsI_succ,take_snoc _ _ _ hm,idxP_app,kdsI_idx l i m (by omega),List.length_take,Nat.min_eq_left (by omega),Nat.zero_add]
  rw [List.getD_eq_getElem?_getD,hm]
  rfl
theorem kdsI_all (l:List Int) (i:Nat):kdsI l i l.length=idxP (i:Nat) 0 l:=by
 rw [kdsI_idx l i _ (Nat.le_refl _),List.take_length]
theorem prsNL_in:∀ (ks:List Nd),(∀ k∈ks,∀ (p:Int) (n j:Nat) (r:Int),(prsN p n k)[j]?=some r→(j=0∧r=p)∨(0<j∧(n:Int)≤r∧r<n+j)) →
  ∀ (p:Int) (n j:Nat) (r:Int),(prsNL p n ks)[j]?=some r→r=p∨((n:Int)≤r∧r<n+j)
 | [],_,_,_,j,r,h=>by simp [prsNL] at h
 | k::ks,hk,p,n,j,r,h=>by
  rw [prsNL] at h
  have hl:=prsN_len k p n
  rcases Nat.lt_or_ge j (prsN p n k).length with hj|hj
  ·rw [List.getElem?_append_left hj] at h
   rcases hk k (.head _) p n j r h with⟨-,h1⟩|⟨-,h1,h2⟩
   ·exact .inl h1
   ·exact .inr ⟨h1,h2⟩
  ·rw [List.getElem?_append_right hj] at h
   rcases prsNL_in ks (fun y hy=>hk y (.tail _ hy)) p (n+cntN k) _ r h with h1|⟨h1,h2⟩
   ·exact .inl h1
   ·exact .inr ⟨by omega,by omega⟩
theorem prsN_in (x:Nd):∀ (p:Int) (n j:Nat) (r:Int),(prsN p n x)[j]?=some r→(j=0∧r=p)∨(0<j∧(n:Int)≤r∧r<n+j):=by
 refine nd_ind (p:=fun x=>∀ (p:Int) (n j:Nat) (r:Int),(prsN p n x)[j]?=some r→(j=0∧r=p)∨(0<j∧(n:Int)≤r∧r<n+j)) (fun a o ks ih=>?_) x
 intro p n j r h
 rw [prsN] at h
 cases j with
 | zero=>simp only [List.getElem?_cons_zero,Option.some.injEq] at h;exact .inl ⟨rfl,h.symm⟩
 | succ j =>
  rw [List.getElem?_cons_succ] at h
  rcases prsNL_in ks ih _ _ _ _ h with h1|⟨h1,h2⟩
  ·exact .inr ⟨by omega,by omega,by omega⟩
  ·exact .inr ⟨by omega,by omega,by omega⟩
theorem prsN_mem {x:Nd} {p:Int} {n:Nat} {r:Int} (h:r∈prsN p n x):r=p∨((n:Int)≤r∧r<n+cntN x):=by
 obtain⟨j,hj⟩:=List.mem_iff_getElem?.1 h
 have hl:=(List.getElem?_eq_some_iff.1 hj).1
 rw [prsN_len] at hl
 rcases prsN_in x p n j r hj with⟨-,h1⟩|⟨-,h1,h2⟩
 ·exact .inl h1
 ·exact .inr ⟨h1,by omega⟩
theorem prsNL_mem {ks:List Nd} {p:Int} {n:Nat} {r:Int} (h:r∈prsNL p n ks):r=p∨((n:Int)≤r∧r<n+cntNL ks):=by
 obtain⟨j,hj⟩:=List.mem_iff_getElem?.1 h
 have hl:=(List.getElem?_eq_some_iff.1 hj).1
 rw [prsNL_len ks fun k _=>prsN_len k] at hl
 rcases prsNL_in ks (fun k _=>prsN_in k) p n j r hj with h1|⟨h1,h2⟩
 ·exact .inl h1
 ·exact .inr ⟨h1,by omega⟩
theorem prsN_up (x:Nd):upT (prsN (-1) 0 x):=by
 refine ⟨?_,fun i hi hl=>?_⟩
 ·obtain⟨a,o,ks⟩:=x;rfl
 ·have hm:(prsN (-1) 0 x)[i]?=some (prsN (-1) 0 x)[i]:=List.getElem?_eq_getElem hl
  rw [List.getD_eq_getElem?_getD,hm]
  rcases prsN_in x _ _ _ _ hm with⟨h1,-⟩|⟨-,h1,h2⟩
  ·omega
  ·simp only [Option.getD_some];omega
def offs (n:Nat):List Nd→List Nat
 | []=>[]
 | k::r=>n::offs (n+cntN k) r
theorem idx_kids (p:Nat):∀ (ks:List Nd) (n:Nat),p<n→idxP (p:Nat) n (prsNL (p:Nat) n ks)=offs n ks
 | [],_,_=>rfl
 | k::ks,n,h=>by
  rw [prsNL,idxP_app,prsN_len,offs,idx_kids p ks (n+cntN k) (by omega)]
  have:idxP (p:Nat) n (prsN (p:Nat) n k)=[n]:=by
   obtain⟨a,o,l⟩:=k
   rw [prsN,idxP,if_pos rfl,idxP_none]
   intro r hr e
   rcases prsNL_mem hr with h1|⟨h1,h2⟩ <;> omega
  rw [this];rfl
mutual
def noO:Nd→Nd
 | .mk a _ ks => .mk a 0 (noOL ks)
def noOL:List Nd→List Nd
 | []=>[]
 | k::r=>noO k::noOL r
end
theorem noOL_map:∀ ks,noOL ks=ks.map noO
 | []=>rfl
 | k::r=>by rw [noOL,noOL_map r];rfl
theorem noO_mk (a:ByteArray) (o:Int) (ks:List Nd):noO (.mk a o ks) = .mk a 0 (ks.map noO):=by rw [noO,noOL_map]
theorem back_kids {PS:List Int} {NS:List ByteArray} {f p:Nat}:∀ (ks:List Nd),(∀ k∈ks,∀ (A B:List Int) (q:Int) (n:Nat),PS=A++prsN q n k++B→A.length=n→q<n→(∀ a∈A,a<n∨(n:Int)+cntN k≤a)→(∀ b∈B,b<n∨(n:Int)+cntN k≤b)→subAt NS n (nmP k)→PS.length≤f+n+1→noO (ndF PS NS f n)=noO k) →
  ∀ (A B:List Int) (n:Nat),PS=A++prsNL (p:Nat) n ks++B→A.length=n→p<n→(∀ a∈A,a<n∨(n:Int)+cntNL ks≤a)→(∀ b∈B,b<n∨(n:Int)+cntNL ks≤b)→subAt NS n (nmPL ks)→PS.length≤f+n+1 →
  (offs n ks).map (fun o=>noO (ndF PS NS f o))=ks.map noO
 | [],_,_,_,_,_,_,_,_,_,_,_=>rfl
 | k::ks,hk,A,B,n,hPS,hA,hp,hcA,hcB,hN,hf=>by
  rw [prsNL] at hPS
  rw [nmPL] at hN
  obtain⟨hN1,hN2⟩:=hN.app
  rw [nmP_len] at hN2
  have hcn:cntNL (k::ks)=cntN k+cntNL ks:=rfl
  rw [hcn] at hcA hcB
  rw [offs,List.map_cons,List.map_cons]
  have h1:=hk k (.head _) A (prsNL (p:Nat) (n+cntN k) ks++B) p n (by rw [hPS];simp) hA (by omega) (fun a ha=>by rcases hcA a ha with h|h <;> omega) (fun b hb=>by
   rcases List.mem_append.1 hb with h|h
   ·rcases prsNL_mem h with h|⟨h,-⟩ <;> omega
   ·rcases hcB b h with h|h <;> omega) hN1 hf
  have h2:=back_kids (p:=p) ks (fun y hy=>hk y (.tail _ hy)) (A++prsN (p:Nat) n k) B (n+cntN k) (by rw [hPS];simp) (by rw [List.length_append,prsN_len,hA]) (by omega) (fun a ha=>by
   rcases List.mem_append.1 ha with h|h
   ·rcases hcA a h with h|h <;> omega
   ·rcases prsN_mem h with h|⟨h,h3⟩ <;> omega) (fun b hb=>by rcases hcB b hb with h|h <;> omega) hN2 (by omega)
  rw [h1,h2]
theorem back_tree {PS:List Int} {NS:List ByteArray} (x:Nd):∀ (f:Nat) (A B:List Int) (q:Int) (n:Nat),PS=A++prsN q n x++B→A.length=n→q<n→(∀ a∈A,a<n∨(n:Int)+cntN x≤a)→(∀ b∈B,b<n∨(n:Int)+cntN x≤b)→subAt NS n (nmP x)→PS.length≤f+n+1→noO (ndF PS NS f n)=noO x:=by
 refine nd_ind (p:=fun x=>∀ (f:Nat) (A B:List Int) (q:Int) (n:Nat),PS=A++prsN q n x++B→A.length=n→q<n→(∀ a∈A,a<n∨(n:Int)+cntN x≤a)→(∀ b∈B,b<n∨(n:Int)+cntN x≤b)→subAt NS n (nmP x)→PS.length≤f+n+1→noO (ndF PS NS f n)=noO x) (fun a o ks ih=>?_) x
 intro f A B q n hPS hA hq hcA hcB hN hf
 have hcnt:cntN (.mk a o ks)=cntNL ks+1:=by rw [cntN]
 have hplen:PS.length=n+(cntNL ks+1)+B.length:=by rw [hPS,List.length_append,List.length_append,prsN_len,hA,hcnt]
 rw [nmP] at hN
 obtain⟨hn0,hN1⟩:=hN.cons
 have hnm:NS.getD n ByteArray.empty=a:=by rw [List.getD_eq_getElem?_getD,hn0];rfl
 have hkd:kdsI PS n PS.length=offs (n+1) ks:=by
  rw [kdsI_all,hPS,idxP_app,idxP_app,hA,Nat.zero_add]
  rw [idxP_none (p:=(n:Nat)) (l:=A) (fun z hz e=>by rcases hcA z hz with h|h <;> omega)]
  rw [idxP_none (p:=(n:Nat)) (l:=B) (fun z hz e=>by rcases hcB z hz with h|h <;> omega)]
  rw [prsN,idxP,if_neg (by omega),idx_kids n ks (n+1) (by omega)]
  simp
 cases f with
 | zero =>
  have hk0:ks=[]:=by
   cases ks with
   | nil=>rfl
   | cons k r=>have:=cntN_pos k;rw [cntNL] at hplen;omega
  subst hk0
  rw [ndF,hnm,noO_mk,noO_mk]
 | succ f =>
  rw [ndF,hnm,noO_mk,noO_mk,hkd,List.map_map]
  congr 1
  refine back_kids (p:=n) ks (fun k hk A B q n=>ih k hk f A B q n) (A++[q]) B (n+1) (by rw [hPS,prsN];simp) (by simp [hA]) (by omega) (fun z hz=>?_) (fun z hz=>?_) hN1 (by omega)
  ·rcases List.mem_append.1 hz with h|h
   ·rcases hcA z h with h|h <;> omega
   ·rw [List.mem_singleton] at h;subst h;omega
  ·rcases hcB z hz with h|h <;> omega
theorem ndOf_back (x:Nd):noO (ndOf (prsN (-1) 0 x) (nmP x))=noO x :=
 back_tree x _ [] [] (-1) 0 (by simp) rfl (by omega) (fun a ha=>by cases ha) (fun a ha=>by cases ha) (subAt.refl _) (by omega)
section
variable {n:Nat} {σ:ByteArray→Int}
theorem noO_fit (x:Nd):∀ s,fitR n σ (noO x) s=fitR n σ x s:=by
 refine nd_ind (p:=fun x=>∀ s,fitR n σ (noO x) s=fitR n σ x s) (fun a o ks ih=>?_) x
 intro s
 rw [noO_mk]
 by_cases h:ks=[]
 ·subst h;rfl
 ·rw [fitR_node (by simpa using h),fitR_node h,fitL_sum,fitL_sum,List.map_map]
  congr 1
  exact List.map_congr_left fun k hk=>bst_congr (fun t _=>ih k hk t) s
theorem noO_nms (x:Nd):nmsN (noO x)=nmsN x:=by
 refine nd_ind (p:=fun x=>nmsN (noO x)=nmsN x) (fun a o ks ih=>?_) x
 rw [noO_mk]
 by_cases h:ks=[]
 ·subst h;rfl
 ·rw [nmsN_node (by simpa using h),nmsN_node h,List.flatMap_map]
  exact flatMap_congr' ih
end
end Go.Proofs.YtabhdaehomjlgaaGreat
namespace Go.Proofs.YtabhdaehomjlgaaGreat
open Go.RowKit Go.Shelf
set_option maxRecDepth 100000

mutual
def innE:Nd→Prop
 | .mk a _ ks=>(ks≠[]→a=ByteArray.empty)∧innEL ks
def innEL:List Nd→Prop
 | []=>True
 | k::r=>innE k∧innEL r
end
theorem innEL_iff:∀ {ks:List Nd},innEL ks↔∀ k∈ks,innE k
 | []=>⟨fun _ k hk=>(by cases hk),fun _=>trivial⟩
 | k::r=>by
  rw [innEL,innEL_iff (ks:=r)]
  exact⟨fun h y hy=>by cases hy with
   | head=>exact h.1
   | tail _ hy=>exact h.2 y hy,fun h=>⟨h k (.head _),fun y hy=>h y (.tail _ hy)⟩⟩
theorem innE_mk {a:ByteArray} {o:Int} {ks:List Nd}:innE (.mk a o ks)↔(ks≠[]→a=ByteArray.empty)∧∀ k∈ks,innE k:=by rw [innE,innEL_iff]
theorem innE_noO (x:Nd):innE (noO x)↔innE x:=by
 refine nd_ind (p:=fun x=>innE (noO x)↔innE x) (fun a o ks ih=>?_) x
 rw [noO_mk,innE_mk,innE_mk]
 refine and_congr (by simp) ⟨fun h k hk=>(ih k hk).1 (h _ (List.mem_map_of_mem hk)),fun h k hk=>?_⟩
 obtain⟨y,hy,rfl⟩:=List.mem_map.1 hk
 exact (ih y hy).2 (h y hy)
theorem innE_ctr (x:Nd):innE x→innE (ctr x):=by
 refine nd_ind (p:=fun x=>innE x→innE (ctr x)) (fun a o ks ih=>?_) x
 intro h
 obtain⟨h1,h2⟩:=innE_mk.1 h
 by_cases hl:ks.length=1
 ·obtain⟨k,rfl⟩:∃ k,ks=[k]:=List.length_eq_one_iff.1 hl
  rw [ctr_one]
  exact ih k (.head _) (h2 k (.head _))
 ·rw [ctr_many hl,innE_mk]
  refine ⟨fun h3=>h1 (fun e=>h3 (by rw [e];rfl)),fun k hk=>?_⟩
  obtain⟨y,hy,rfl⟩:=List.mem_map.1 hk
  exact ih y hy (h2 y hy)
theorem innE_srt (x:Nd):innE x→innE (srtN x):=by
 refine nd_ind (p:=fun x=>innE x→innE (srtN x)) (fun a o ks ih=>?_) x
 intro h
 obtain⟨h1,h2⟩:=innE_mk.1 h
 rw [srtN_mk,innE_mk]
 refine ⟨fun h3=>h1 (fun e=>h3 (by rw [e];rfl)),fun k hk=>?_⟩
 obtain⟨y,hy,rfl⟩:=List.mem_map.1 ((sortK_perm _).mem_iff.1 hk)
 exact ih y hy (h2 y hy)
theorem innE_prn (p:Int→Bool) (x:Nd):innE x→∀ y,prn p x=some y→innE y:=by
 refine nd_ind (p:=fun x=>innE x→∀ y,prn p x=some y→innE y) (fun a o ks ih=>?_) x
 intro h y hy
 obtain⟨h1,h2⟩:=innE_mk.1 h
 by_cases h0:ks=[]
 ·subst h0
  rw [prn_leaf] at hy
  split at hy
  ·cases hy;exact h
  ·cases hy
 ·rw [prn_node h0] at hy
  cases hq:prnL p ks with
  | nil=>rw [hq] at hy;cases hy
  | cons k r =>
   rw [hq] at hy
   cases hy
   rw [innE_mk]
   refine ⟨fun _=>h1 h0,fun z hz=>?_⟩
   rw [← hq,prnL_flat] at hz
   obtain⟨c,hc,hz⟩:=List.mem_flatMap.1 hz
   cases hp:prn p c with
   | none=>rw [hp] at hz;cases hz
   | some w =>
    rw [hp] at hz
    simp only [Option.toList_some,List.mem_singleton] at hz
    subst hz
    exact ih c hc (h2 c hc) _ hp
theorem innE_ndF {ps:List Int} {ns:List ByteArray} (h:upT ps) (hi:∀ i,i<ps.length→kdsI ps i ps.length≠[]→ns.getD i ByteArray.empty=ByteArray.empty):∀ f i,i<ps.length→innE (ndF ps ns f i)
 | 0,i,hl=>by rw [ndF,innE_mk];exact⟨fun h=>absurd rfl h,fun k hk=>by cases hk⟩
 | f+1,i,hl=>by
  rw [ndF,innE_mk]
  refine ⟨fun h3=>hi i hl (fun e=>h3 (by rw [e];rfl)),fun k hk=>?_⟩
  obtain⟨j,hj,rfl⟩:=List.mem_map.1 hk
  exact innE_ndF h hi f j (kdsI_mem.1 hj).1
theorem innE_inv {ps:List Int} {ns:List ByteArray} (h:upT ps):∀ f i,i<ps.length→ps.length≤f+i+1→innE (ndF ps ns f i)→∀ j∈dsc ps ps.length f i,kdsI ps j ps.length≠[]→ns.getD j ByteArray.empty=ByteArray.empty
 | 0,i,hi,hf,hI,j,hj,hk=>by
  rw [dsc,List.mem_singleton] at hj
  subst hj
  obtain⟨c,hc⟩:=List.exists_mem_of_ne_nil _ hk
  have h1:=h.gt (Nat.le_refl _) hc
  have h2:=(kdsI_mem.1 hc).1
  omega
 | f+1,i,hi,hf,hI,j,hj,hk=>by
  rw [ndF,innE_mk] at hI
  rw [dsc] at hj
  rcases List.mem_cons.1 hj with e|hj
  ·subst e;exact hI.1 (fun e=>hk (List.map_eq_nil_iff.1 e))
  ·obtain⟨c,hc,hj⟩:=List.mem_flatMap.1 hj
   have h1:=h.gt (Nat.le_refl _) hc
   exact innE_inv h f c (kdsI_mem.1 hc).1 (by omega) (hI.2 _ (List.mem_map_of_mem hc)) j hj hk
theorem nodup_inj9 {α β:Type} {f:α→β}:∀ {l:List α},(l.map f).Nodup→∀ a∈l,∀ b∈l,f a=f b→a=b
 | [],_,a,ha,_,_,_=>by cases ha
 | x::l,h,a,ha,b,hb,he=>by
  rw [List.map_cons,List.nodup_cons] at h
  rcases List.mem_cons.1 ha with e1|h1 <;> rcases List.mem_cons.1 hb with e2|h2
  ·rw [e1,e2]
  ·exact absurd (by rw [← e1,he];exact List.mem_map_of_mem h2) h.1
  ·exact absurd (by rw [← e2, ← he];exact List.mem_map_of_mem h1) h.1
  ·exact nodup_inj9 h.2 a h1 b h2 he
theorem tOk_back {x:Nd} (h64:cntN x≤64) (hi:innE x) (hs:∀ a∈nmsN x,siglum22 a=true) (hnd:(nmsN x).Nodup):tOk (prsN (-1) 0 x) (nmP x):=by
 have hup:=prsN_up x
 have hl:=prsN_len x (-1) 0
 have hl2:=nmP_len x
 have hpos:=cntN_pos x
 have hb:=ndOf_back x
 have hI:innE (ndOf (prsN (-1) 0 x) (nmP x)):=by rw [← innE_noO,hb,innE_noO];exact hi
 have hnm:nmsN (ndOf (prsN (-1) 0 x) (nmP x))=nmsN x:=by rw [← noO_nms,hb,noO_nms]
 have hlv:=(lvs_ndOf (ns:=nmP x) hup (by omega)).map Prod.fst
 rw [List.map_map] at hlv
 have hnp:(nmsN x).Perm (((List.range (prsN (-1) 0 x).length).filter (lfB (prsN (-1) 0 x))).map fun k=>(nmP x).getD k ByteArray.empty):=by rw [← hnm];exact hlv
 have hmem:∀ i,i<(prsN (-1) 0 x).length→kdsI (prsN (-1) 0 x) i (prsN (-1) 0 x).length=[]→i∈(List.range (prsN (-1) 0 x).length).filter (lfB (prsN (-1) 0 x)):=fun i hi h0 =>
  List.mem_filter.2 ⟨List.mem_range.2 hi,by unfold lfB;rw [h0];rfl⟩
 have hsg:∀ i,i<(prsN (-1) 0 x).length→kdsI (prsN (-1) 0 x) i (prsN (-1) 0 x).length=[]→siglum22 ((nmP x).getD i ByteArray.empty)=true:=fun i hi h0 =>
  hs _ (hnp.mem_iff.2 (List.mem_map_of_mem (hmem i hi h0)))
 have hin:∀ i,i<(prsN (-1) 0 x).length→kdsI (prsN (-1) 0 x) i (prsN (-1) 0 x).length≠[]→(nmP x).getD i ByteArray.empty=ByteArray.empty:=fun i hi h0 =>
  innE_inv hup _ 0 (by omega) (by omega) hI i ((dsc_perm hup (by omega) (Nat.le_succ _)).mem_iff.2 (List.mem_range.2 hi)) h0
 refine ⟨by omega,by omega,by omega,hup,hin,fun i hi h0=>⟨hsg i hi h0,fun hm=>?_⟩⟩
 obtain⟨j,hj⟩:=List.mem_iff_getElem?.1 hm
 rw [List.getElem?_take] at hj
 split at hj
 ·rename_i hji
  have hjd:(nmP x).getD j ByteArray.empty=(nmP x).getD i ByteArray.empty:=by rw [List.getD_eq_getElem?_getD,hj];rfl
  by_cases hk:kdsI (prsN (-1) 0 x) j (prsN (-1) 0 x).length=[]
  ·have hnd2:=hnp.nodup_iff.1 hnd
   have:=nodup_inj9 hnd2 j (hmem j (by omega) hk) i (hmem i hi h0) hjd
   omega
  ·have h9:=hin j (by omega) hk
   rw [hjd] at h9
   exact siglum_ne (hsg i hi h0) h9
 ·cases hj
end Go.Proofs.YtabhdaehomjlgaaGreat
namespace Go.Proofs.YtabhdaehomjlgaaGreat
open Go.RowKit Go.Shelf
set_option maxRecDepth 100000

theorem fitR_congr9 {n:Nat} {σ τ:ByteArray→Int} (x:Nd):(∀ a∈nmsN x,σ a=τ a)→∀ s,fitR n σ x s=fitR n τ x s:=by
 refine nd_ind (p:=fun x=>(∀ a∈nmsN x,σ a=τ a)→∀ s,fitR n σ x s=fitR n τ x s) (fun a o ks ih=>?_) x
 intro h s
 by_cases h0:ks=[]
 ·subst h0
  rw [fitR_leaf,fitR_leaf,h a (by rw [nmsN_leaf];exact .head _)]
 ·rw [fitR_node h0,fitR_node h0,fitL_sum,fitL_sum]
  rw [nmsN_node h0] at h
  congr 1
  exact List.map_congr_left fun k hk=>bst_congr (fun t _=>ih k hk (fun a ha=>h a (List.mem_flatMap.2 ⟨k,hk,ha⟩)) t) s
theorem lfB_lfI {ps:List Int} {ns:List ByteArray} (h:tOk ps ns):(List.range ps.length).filter (lfB ps)=lfI ns:=by
 unfold lfI lfM
 rw [h.len]
 refine List.filter_congr fun i hi=>?_
 have hi':=List.mem_range.1 hi
 rw [Bool.eq_iff_iff,decide_eq_true_eq]
 have h1:=h.leaf hi'
 rw [lfI_mem,h.len] at h1
 unfold lfB
 rw [List.isEmpty_iff,h1]
 exact⟨fun h=>h.2,fun h=>⟨hi',h⟩⟩
theorem nodup_map9 {α β:Type} {f:α→β}:∀ {l:List α},l.Nodup→(∀ a∈l,∀ b∈l,f a=f b→a=b)→(l.map f).Nodup
 | [],_,_=>List.nodup_nil
 | x::l,h,hf=>by
  rw [List.nodup_cons] at h
  rw [List.map_cons,List.nodup_cons]
  refine ⟨fun hm=>?_,nodup_map9 h.2 fun a ha b hb=>hf a (.tail _ ha) b (.tail _ hb)⟩
  obtain⟨y,hy,he⟩:=List.mem_map.1 hm
  have:=hf y (.tail _ hy) x (.head _) he
  exact h.1 (this ▸ hy)
theorem lfI_nodup (ns:List ByteArray):(lfI ns).Nodup:=List.nodup_range.filter _
theorem nms_ndOf {ps:List Int} {ns:List ByteArray} (h:tOk ps ns):(nmsN (ndOf ps ns)).Perm ((lfI ns).map fun k=>ns.getD k ByteArray.empty):=by
 have:=(lvs_ndOf (ns:=ns) h.up h.pos).map Prod.fst
 rw [List.map_map,lfB_lfI h] at this
 exact this
theorem nms_nodup {ps:List Int} {ns:List ByteArray} (h:tOk ps ns):(nmsN (ndOf ps ns)).Nodup:=by
 refine (nms_ndOf h).nodup_iff.2 ?_
 exact nodup_map9 (lfI_nodup ns) fun a ha b hb he=>h.inj ha hb he
def allBut (ns:List ByteArray) (k:Nat):List Int:=(lfZ ns).take k++(lfZ ns).drop (k+1)
def keptP (ns:List ByteArray) (k:Nat):Int→Bool:=fun o=>(allBut ns k).any fun x=>decide (o=x)
theorem allBut_map (ns:List ByteArray) (k:Nat):allBut ns k=((lfI ns).take k++(lfI ns).drop (k+1)).map fun (i:Nat)=>(i:Int):=by
 unfold allBut lfZ
 rw [← List.map_take, ← List.map_drop,List.map_append]
theorem keptP_nat (ns:List ByteArray) (k i:Nat):keptP ns k (i:Nat)=decide (i∈(lfI ns).take k++(lfI ns).drop (k+1)):=by
 unfold keptP
 rw [allBut_map,Bool.eq_iff_iff,List.any_eq_true,decide_eq_true_eq]
 constructor
 ·rintro⟨x,hx,he⟩
  obtain⟨j,hj,rfl⟩:=List.mem_map.1 hx
  have:(i:Int)=(j:Int):=of_decide_eq_true he
  have:i=j:=by omega
  rw [this];exact hj
 ·intro h
  exact⟨(i:Int),List.mem_map_of_mem h,decide_eq_true rfl⟩
theorem outN_one {ps:List Int} {ns:List ByteArray} (h:tOk ps ns) {k c:Nat} (hk:(lfI ns)[k]?=some c):outN (keptP ns k) (ndOf ps ns)=1:=by
 have hp:=(lvs_ndOf (ns:=ns) h.up h.pos).filter (fun l => !keptP ns k l.2)
 have hd:lfI ns=(lfI ns).take k++c::(lfI ns).drop (k+1):=by
  have hk9:=(List.getElem?_eq_some_iff.1 hk)
  rw [← hk9.2,List.getElem_cons_drop,List.take_append_drop]
 have hnd:=lfI_nodup ns
 unfold outN
 rw [hp.length_eq,lfB_lfI h,List.filter_map,List.length_map]
 have hf:(lfI ns).filter ((fun l:ByteArray × Int => !keptP ns k l.2) ∘ fun (i:Nat)=>(ns.getD i ByteArray.empty,(i:Int)))=[c]:=by
  have e:∀ i,((fun l:ByteArray × Int => !keptP ns k l.2) ∘ fun (i:Nat)=>(ns.getD i ByteArray.empty,(i:Int))) i = !decide (i∈(lfI ns).take k++(lfI ns).drop (k+1)):=fun i=>by
   show (!keptP ns k (i:Nat))=_
   rw [keptP_nat]
  rw [List.filter_congr fun i _=>e i]
  generalize hA:(lfI ns).take k=A at hd
  generalize hB:(lfI ns).drop (k+1)=B at hd
  rw [hd] at hnd ⊢
  rw [List.filter_append,List.filter_cons]
  rw [List.nodup_append] at hnd
  obtain⟨-,hn2,hn3⟩:=hnd
  rw [List.nodup_cons] at hn2
  have h1:A.filter (fun i => !decide (i∈A++B))=[]:=List.filter_eq_nil_iff.2 fun i hi=>by simp [hi]
  have h2:B.filter (fun i => !decide (i∈A++B))=[]:=List.filter_eq_nil_iff.2 fun i hi=>by simp [hi]
  have h3:c ∉ A++B:=fun hm=>by
   rcases List.mem_append.1 hm with h|h
   ·exact hn3 c h c (.head _) rfl
   ·exact hn2.1 h
  rw [h1,h2,if_pos (by simp only [decide_eq_false h3];rfl)];rfl
 rw [hf];rfl
theorem restricted_law {ps:List Int} {ns:List ByteArray} {st rest:List Int} {k c:Nat} {y:Nd} (h:tOk ps ns) (hk:(lfI ns)[k]?=some c) (hs16:∀ a,sgN ns st a<16)
  (hy:prn (keptP ns k) (ndOf ps ns)=some y) (h64:cntN (canN y)≤64) (hsig:∀ a∈nmsN (canN y),siglum22 a=true) (hnd:(nmsN (canN y)).Nodup) (hi:innE (canN y))
  (hrest:∀ a∈nmsN (canN y),sgN (nmP (canN y)) rest a=sgN ns st a) :
  lstK (rvT (prsN (-1) 0 (canN y)) (bsS (lfZ (nmP (canN y))) rest) 0) 16≤lstK (rvT ps (bsS (lfZ ns) st) 0) 16 ∧
   lstK (rvT ps (bsS (lfZ ns) st) 0) 16≤lstK (rvT (prsN (-1) 0 (canN y)) (bsS (lfZ (nmP (canN y))) rest) 0) 16+1:=by
 have hok:=tOk_back h64 hi hsig hnd
 rw [rvT_fit h st,rvT_fit hok rest]
 have e1:∀ s,fitR 16 (sgN (nmP (canN y)) rest) (ndOf (prsN (-1) 0 (canN y)) (nmP (canN y))) s=fitR 16 (sgN ns st) (ctr y) s:=fun s=>by
  rw [← noO_fit,ndOf_back,noO_fit,fitR_congr9 _ hrest]
  exact srtN_fit _ _
 have hst:∀ x,stOk 16 (sgN ns st) x:=fun x l _=>hs16 l.1
 have e2:lstK (fitR 16 (sgN (nmP (canN y)) rest) (ndOf (prsN (-1) 0 (canN y)) (nmP (canN y)))) 16=lstK (fitR 16 (sgN ns st) y) 16:=by
  rw [lst_congr fun t _=>e1 t]
  exact lst_of_bst (fit_live (by decide) _ (hst _)) (fit_live (by decide) _ (hst _)) (ctr_fit (by decide) y (hst y))
 rw [e2]
 exact prn_least (by decide) (hst _) (outN_one h hk) hy
end Go.Proofs.YtabhdaehomjlgaaGreat
namespace Go.Proofs.YtabhdaehomjlgaaGreat
open Go.RowKit Go.Shelf
set_option maxRecDepth 100000

theorem findI_inv8 {α:Type} {p:α→Bool}:∀ {l:List α} {k:Nat},findI p l=(k:Int)→∃ x,l[k]?=some x∧p x=true
 | [],k,h=>by unfold findI at h;omega
 | z::l,k,h=>by
  unfold findI at h
  by_cases hp:p z=true
  ·rw [if_pos hp] at h
   obtain rfl:k=0:=by omega
   exact⟨z,rfl,hp⟩
  ·rw [if_neg hp] at h
   split at h
   ·omega
   ·have hg:=findI_ge p l
    obtain⟨m,rfl⟩:∃ m,k=m+1:=⟨k - 1,by omega⟩
    obtain⟨x,h1,h2⟩:=findI_inv8 (p:=p) (k:=m) (l:=l) (by omega)
    exact⟨x,by simpa using h1,h2⟩
theorem findI_has {α:Type} {p:α→Bool} {l:List α} {x:α} (hx:x∈l) (hp:p x=true):∃ (k:Nat) (y:α),findI p l=(k:Int)∧l[k]?=some y∧p y=true:=by
 have h1:=findI_any p l
 have h2:l.any p=true:=List.any_eq_true.2 ⟨x,hx,hp⟩
 rw [h2,decide_eq_true_eq] at h1
 obtain⟨k,hk⟩:=Int.eq_ofNat_of_zero_le h1
 obtain⟨y,hy,hpy⟩:=findI_inv8 hk
 exact⟨k,y,hk,hy,hpy⟩
def restN (ns ms:List ByteArray) (st:List Int):List Int:=(lfI ms).map fun m=>sgN ns st (ms.getD m ByteArray.empty)
theorem sgN_rest {ns ms:List ByteArray} {st:List Int} {a:ByteArray} (ha:a∈(lfI ms).map fun k=>ms.getD k ByteArray.empty):sgN ms (restN ns ms st) a=sgN ns st a:=by
 obtain⟨x,hx,rfl⟩:=List.mem_map.1 ha
 obtain⟨k,y,hk,hy,hp⟩:=findI_has (p:=fun k=>decide (ms.getD k ByteArray.empty=ms.getD x ByteArray.empty)) hx (decide_eq_true rfl)
 have hp':ms.getD y ByteArray.empty=ms.getD x ByteArray.empty:=of_decide_eq_true hp
 unfold sgN restN
 rw [hk,if_neg (by omega),Int.toNat_natCast,List.getD_eq_getElem?_getD,List.getElem?_map,hy]
 show sgN ns st (ms.getD y ByteArray.empty)=_
 rw [hp']
 rfl
theorem rest_at {ps:List Int} {ns:List ByteArray} (h:tOk ps ns) (st:List Int) (hl:(lfI ns).length=st.length) {i:Nat} (hi:i∈lfI ns):∃ (j:Nat) (z:Int),findI (fun x:Int=>decide (ns.getD x.toNat ByteArray.empty=ns.getD i ByteArray.empty)) (lfZ ns)=(j:Int)∧(lfI ns)[j]?=some i∧st[j]?=some z∧sgN ns st (ns.getD i ByteArray.empty)=z:=by
 have e:findI (fun x:Int=>decide (ns.getD x.toNat ByteArray.empty=ns.getD i ByteArray.empty)) (lfZ ns)=findI (fun k=>decide (ns.getD k ByteArray.empty=ns.getD i ByteArray.empty)) (lfI ns):=by
  unfold lfZ
  rw [findI_map9]
  exact findI_congr9 fun k _=>by rw [Int.toNat_natCast]
 obtain⟨j,y,hj,hy,hp⟩:=findI_has (p:=fun k=>decide (ns.getD k ByteArray.empty=ns.getD i ByteArray.empty)) hi (decide_eq_true rfl)
 have hyi:y=i:=h.inj (List.mem_of_getElem? hy) hi (of_decide_eq_true hp)
 subst hyi
 have hjl:j<st.length:=by rw [← hl];exact (List.getElem?_eq_some_iff.1 hy).1
 obtain⟨z,hz⟩:∃ z,st[j]?=some z:=⟨_,List.getElem?_eq_getElem hjl⟩
 refine ⟨j,z,e.trans hj,hy,hz,?_⟩
 unfold sgN
 rw [hj,if_neg (by omega),Int.toNat_natCast,List.getD_eq_getElem?_getD,hz];rfl
end Go.Proofs.YtabhdaehomjlgaaGreat
namespace Go.Proofs.YtabhdaehomjlgaaGreat
open Go.RowKit Go.Shelf
set_option maxRecDepth 100000

theorem canN_nms (y:Nd):(nmsN (canN y)).Perm (nmsN y):=by
 unfold canN
 refine (srtN_nms (ctr y)).trans ?_
 unfold nmsN
 rw [ctr_lvs]
theorem kept_some {ps:List Int} {ns:List ByteArray} (h:tOk ps ns) {k c:Nat} (hk:(lfI ns)[k]?=some c) (h2:2≤(lfI ns).length) :
  ∃ y,prn (keptP ns k) (ndOf ps ns)=some y∧innE (canN y)∧cntN (canN y)≤ps.length∧(nmsN y).Perm (((lfI ns).take k++(lfI ns).drop (k+1)).map fun i=>ns.getD i ByteArray.empty):=by
 have hlv:=prn_lvs (p:=keptP ns k) (ndOf ps ns)
 have hp:=(lvs_ndOf (ns:=ns) h.up h.pos).filter (fun l=>keptP ns k l.2)
 rw [lfB_lfI h,List.filter_map] at hp
 have hd:lfI ns=(lfI ns).take k++c::(lfI ns).drop (k+1):=by
  have hk9:=(List.getElem?_eq_some_iff.1 hk)
  rw [← hk9.2,List.getElem_cons_drop,List.take_append_drop]
 have hf:(lfI ns).filter ((fun l:ByteArray × Int=>keptP ns k l.2) ∘ fun (i:Nat)=>(ns.getD i ByteArray.empty,(i:Int)))=(lfI ns).take k++(lfI ns).drop (k+1):=by
  have e:∀ i,((fun l:ByteArray × Int=>keptP ns k l.2) ∘ fun (i:Nat)=>(ns.getD i ByteArray.empty,(i:Int))) i=decide (i∈(lfI ns).take k++(lfI ns).drop (k+1)):=fun i=>keptP_nat ns k i
  rw [List.filter_congr fun i _=>e i]
  have hnd:=lfI_nodup ns
  generalize (lfI ns).take k=A at hd ⊢
  generalize (lfI ns).drop (k+1)=B at hd ⊢
  rw [hd] at hnd ⊢
  rw [List.filter_append,List.filter_cons]
  rw [List.nodup_append] at hnd
  obtain⟨-,hn2,hn3⟩:=hnd
  rw [List.nodup_cons] at hn2
  have h3:c ∉ A++B:=fun hm=>by
   rcases List.mem_append.1 hm with h|h
   ·exact hn3 c h c (.head _) rfl
   ·exact hn2.1 h
  rw [if_neg (by simp only [decide_eq_false h3];exact Bool.false_ne_true),List.filter_eq_self.2 (fun i hi=>by simp [hi]),List.filter_eq_self.2 (fun i hi=>by simp [hi])]
 rw [hf] at hp
 cases hq:prn (keptP ns k) (ndOf ps ns) with
 | none =>
  rw [hq] at hlv
  have h9:=hp.length_eq
  rw [← hlv,List.length_map,List.length_append,List.length_take,List.length_drop] at h9
  have:=(List.getElem?_eq_some_iff.1 hk).1
  simp at h9
  omega
 | some y =>
  rw [hq] at hlv
  have hlv':lvs y=(lvs (ndOf ps ns)).filter fun l=>keptP ns k l.2:=hlv
  refine ⟨y,rfl,innE_srt _ (innE_ctr _ (innE_prn _ _ (innE_ndF h.up h.inn _ 0 h.pos) y hq)),?_,?_⟩
  ·have h1:=cntN_prn _ _ y hq
   rw [cntN_ndOf h.up h.pos] at h1
   have h2:=cntN_ctr y
   have h3:cntN (canN y)=cntN (ctr y):=cntN_srt _
   omega
  ·have h1:=hp.map Prod.fst
   rw [List.map_map] at h1
   unfold nmsN
   rw [hlv']
   exact h1
theorem lfI_sorted (ns:List ByteArray):(lfI ns).Pairwise (· < ·):=List.pairwise_lt_range.filter _
theorem allBut_keep {ns:List ByteArray} {k c:Nat} (hk:(lfI ns)[k]?=some c) (h2:2≤(lfI ns).length):keepOk ns (allBut ns k):=by
 have hkl:=(List.getElem?_eq_some_iff.1 hk).1
 have hsub:((lfI ns).take k++(lfI ns).drop (k+1)).Sublist (lfI ns):=by
  have h1:((lfI ns).take k++(lfI ns).drop (k+1)).Sublist ((lfI ns).take k++(lfI ns).drop k):=(List.Sublist.refl _).append (List.drop_sublist_drop_left _ (Nat.le_succ k))
  rwa [List.take_append_drop] at h1
 have hpw:=(lfI_sorted ns).sublist hsub
 rw [allBut_map]
 refine ⟨fun e=>?_,fun x hx=>?_,fun i a b ha hb=>?_⟩
 ·have:=congrArg List.length e
  rw [List.length_map,List.length_append,List.length_take,List.length_drop,List.length_nil] at this
  omega
 ·obtain⟨j,hj,rfl⟩:=List.mem_map.1 hx
  have:=lfI_mem.1 (hsub.subset hj)
  exact⟨by omega,by omega,by rw [Int.toNat_natCast];exact this.2⟩
 ·rw [List.getElem?_map] at ha hb
  obtain⟨x,hx,rfl⟩:=Option.map_eq_some_iff.1 ha
  obtain⟨y,hy,rfl⟩:=Option.map_eq_some_iff.1 hb
  have hi:=(List.getElem?_eq_some_iff.1 hx)
  have hi2:=(List.getElem?_eq_some_iff.1 hy)
  have:=List.pairwise_iff_getElem.1 hpw i (i+1) hi.1 hi2.1 (Nat.lt_succ_self i)
  rw [hi.2,hi2.2] at this
  omega
end Go.Proofs.YtabhdaehomjlgaaGreat
namespace Go.Proofs.YtabhdaehomjlgaaGreat
open Go.RowKit Go.Shelf
set_option maxRecDepth 100000
set_option maxHeartbeats 1000000

section
variable {C:Cx} {all:Array Oper} {o:Oper} {env:Env} {ec:EnvC} {H:List HA} {Φ:Env→EnvC→List HA→Prop}
theorem OpT.effN (hg:gOf all env ec o=some []) (hd:o.dst=none)
  (hrun:∀ a w,Agrees C.N all env ec a→Cls C.w0 w H→∃ v w' H',(execOp a.eval o).run C.S.P w = .ok (.value v) w'∧Cls C.w0 w' H'∧Φ env ec H'):OpT C all o env ec H Φ:=by
 intro a w ha hw K Q hK
 have hwn:=(wanted_iff ha hg).2 (Holds.nil _ _)
 refine ⟨fun _=>?_,fun hn=>(by rw [hwn] at hn;cases hn)⟩
 obtain⟨v,w',H',h1,h2,h3⟩:=hrun a w ha hw
 unfold Oper.wpIn
 refine ⟨about_Fr o _ w _,?_⟩
 rw [Oper.semAt_eq _ _ _ (gOf_def hg)]
 rw [h1]
 exact hK _ _ _ _ _ h3 (by rw [hd];exact ha) h2
def evCl (S:Sig) (env:Env) (ec:EnvC) (o:Oper):Option (Option Addr × Nat × TypeId) :=
 match o.op with
 | .call { callee := .builtin .clear,args:=xs,argTypes:=ts }=>match evL env ec [] xs.toList,ts.toList with
  | some [.slice A n _],[t]=>match S.ty t with
   | some ⟨.slice e,_,_,_⟩=>some (A,n,e)
   | _=>none
  | _,_=>none
 | _=>none
theorem zeroC_list {z:Value} (hz:z.cells = #[z]) (n:Nat):(Builtin.zeroCells z.cells n).toList=List.replicate n z:=by
 rw [hz]
 simp [Builtin.zeroCells]
 apply List.ext_getElem
 ·simp
 ·intro i h1 h2
  simp [Nat.mod_one]
theorem oneC_rep {z:Value} (h:z.oneCell'=true):∀ n,oneCells (List.replicate n z)=true
 | 0=>rfl
 | n+1=>by rw [List.replicate_succ,oneCells,h,oneC_rep h n];rfl
theorem OpT.clearR {g off k:Nat} {A':Option Addr} {e:TypeId} {ty:TyI} {cap n:Nat} {xs:List Value} {z:Value} {rb:HA→List HA} (hg:gOf all env ec o=some []) (he:evCl C.S env ec o=some (A',k,e)) (hd:o.dst=none)
  (ht:C.S.ty e=some ty) (hz0:ty.zero=z) (hz:z.cells = #[z]) (h1:z.oneCell'=true) [hf:FocusR H (some ⟨g,0,none⟩) e 1 cap n xs rb] (hA':0<k→A'=some ⟨g,off,none⟩) (hl:off+k≤n)
  (h:Φ env ec (rb (row e 1 (some ⟨g,0,none⟩) cap n (setL xs off (List.replicate k z))))):OpT C all o env ec H Φ:=by
 obtain⟨i,hi,hrb⟩:=hf.at_
 refine OpT.effN hg hd fun a w ha hw=>?_
 obtain⟨F,f1,f2,f3⟩:=hw.sep
 have hil:i<H.length:=(List.getElem?_eq_some_iff.1 hi).1
 obtain⟨hxl,hrow⟩:=f1 i _ hi
 rcases hrow with⟨h9,_⟩|⟨g',cur,hA,hF,g1,g2,g3,g4⟩
 ·cases h9
 cases hA
 obtain⟨hbn,hb⟩:=f2 i g (.cells cur e (0,0)) hil (by rw [hF];simp [one])
 have hcl:cur.toList.length=cap:=by simpa using g3
 have hzv:=(Sig.tyOk ht).zeroValue w
 rw [hz0] at hzv
 obtain⟨w',k1,k2,k3,k4,k5,k6,k7⟩:=run_storeL C.S.P g e (List.replicate k z) 0 off cur.toList w (by simpa using hb) (by rw [hcl,List.length_replicate];omega) (oneC_rep h1 k)
 obtain⟨dst,op,ty0,pos,aft,gd⟩:=o
 unfold evCl at he
 dsimp only at he
 split at he
 ·rename_i ps ts
  split at he
  ·rename_i A1 n1 c1 t hps hts
   split at he
   ·rename_i e1 q1 q2 q3 hty
    cases he
    have hut:=(Sig.tyOk hty).fits
    simp only [Ty.fits] at hut
    have hargs:ps.map a.eval = #[.slice A' k c1]:=Array.ext' (by rw [Array.toList_map];exact evL_spec ha (Holds.nil _ _) hps)
    have hts':ts = #[t]:=Array.ext' hts
    have hcl2:(Builtin.clear_ #[t] ty0 #[.slice A' k c1]).run C.S.P w = .ok (.tuple #[]) w':=by
     rcases k with _|m
     ·have e9:w'=w:=by
       have h9:=k1
       simp only [List.replicate_zero,storeCells] at h9
       have h10:(pure ():Sem Unit).run C.S.P w = .ok () w:=rfl
       rw [h10] at h9
       injection h9 with _ h9
       exact h9.symm
      rw [e9]
      rcases A' with _|ad <;> simp [Builtin.clear_,run_underlying hut]
     ·have e9:=hA' (Nat.succ_pos _)
      subst e9
      simp [Builtin.clear_,run_underlying hut,hzv,zeroC_list hz,k1]
    refine ⟨.tuple #[],w',rb (row e (1) (some ⟨g,0,none⟩) cap n (setL xs off (List.replicate k z))),?_,⟨?_,?_⟩,h⟩
    ·simp [execOp,resolve,invoke,builtin,hargs,hts',hcl2]
    ·exact hw.below.trans ⟨k4,k5,k6,by omega,fun c hc=>k3 c (by omega)⟩
    ·rw [hrb]
     refine hw.sep.turn hi (fun f hf=>?_) (fun c hc _=>k3 c hc) k2 ?_
     ·obtain⟨_,hr⟩:=hf
      rcases hr with⟨h9,_⟩|⟨g',cur',hA',hF',_⟩
      ·cases h9
      ·cases hA';exact⟨_,hF'⟩
     ·refine ⟨by rw [setL_length];exact hxl, .inr ⟨g,_,rfl,rfl,g1,g2,by rw [List.size_toArray,setL_length,hcl,Nat.mul_one],?_⟩⟩
      rw [Nat.add_zero]
      show (setL cur.toList off (List.replicate k z)).take (n * 1)=_
      rw [setL_take _ _ _ (by rw [List.length_replicate];omega),g4]
   ·cases he
  ·cases he
 ·cases he
end
end Go.Proofs.YtabhdaehomjlgaaGreat
namespace Go.Proofs.YtabhdaehomjlgaaGreat
open Go.RowKit Go.Shelf
set_option maxRecDepth 100000
set_option maxHeartbeats 1000000

def evS3 (S:Sig) (env:Env) (ec:EnvC) (G:GId) (o:Oper):Option (TypeId × Option Addr × Nat × Nat × Int × Int × Int) :=
 match o.op with
 | .slice t x (some lo) (some hi) (some mx)=>match S.ty t,evX env ec G x,evX env ec G lo,evX env ec G hi,evX env ec G mx with
  | some ⟨.slice e,_,_,_⟩,some (.slice A n c),some (.int _ l),some (.int _ h),some (.int _ m)=>some (e,A,n,c,l,h,m)
  | _,_,_,_,_=>none
 | _=>none
theorem Val.slice3 {C:Cx} {all:Array Oper} {o:Oper} {env:Env} {ec:EnvC} {Hs:List HA} {G:GId} {e:TypeId} {A:Option Addr} {n c:Nat} {l h m:Int} {ty:TyI} (hv:evS3 C.S env ec G o=some (e,A,n,c,l,h,m)) (he:C.S.ty e=some ty) (h1:0≤l) (h2:l≤h) (h3:h≤m) (h4:m≤(c:Int)) :
  Val C all o env ec Hs G (.slice (if m.toNat=l.toNat then A else A.map (·.add (l.toNat * ty.size))) (h.toNat - l.toNat) (m.toNat - l.toNat)):=by
 intro a w ha _ hH
 obtain⟨dst,op,ty0,pos,aft,gd⟩:=o
 unfold evS3 at hv
 dsimp only at hv
 split at hv
 ·rename_i t x lo hi mx
  split at hv
  ·rename_i e9 q1 q2 q3 A9 n9 c9 k1 l9 k2 h9 k3 m9 ht hx hl hh hm
   cases hv
   have hk:=(Sig.tyOk ht).fits
   simp only [Ty.fits] at hk
   have hsz:=(Sig.tyOk he).sizeOf w
   have b1:=run_sliceBound C.S.P w k3 m c .slice3Acap (by omega) h4
   have b2:=run_sliceBound C.S.P w k2 h m.toNat .slice3B (by omega) (by omega)
   have b3:=run_sliceBound C.S.P w k1 l h.toNat .slice3C (by omega) (by omega)
   simp only [execOp,evX_spec ha hH hx,Instr.sliceAt,Option.map_some,evX_spec ha hH hl,evX_spec ha hH hh,evX_spec ha hH hm]
   simp [run_underlying hk,Instr.slice,Instr.sliceBounds,b1,b2,b3,hsz]
  ·cases hv
 ·cases hv
section
variable {C:Cx} {all:Array Oper} {o:Oper} {env:Env} {ec:EnvC} {H:List HA} {d:Nat} {Φ:Env→EnvC→List HA→Prop}
theorem OpT.appendIn {g k m c:Nat} {B:Option Addr} {e:TypeId} {ty:TyI} {cap n:Nat} {xs us:List Value} {rb:HA→List HA} (hg:gOf all env ec o=some []) (he:evApp C.S env ec o=some (some ⟨g,0,none⟩,k,c,B,m,e)) (hd:o.dst=some d) (hN:Nat.blt d C.N.n=true) (hs:safeC all d ec=true)
  (ht:C.S.ty e=some ty) (hsz:Nat.beq ty.size 1=true) [hf:FocusR H (some ⟨g,0,none⟩) e 1 cap n xs rb] (hc:k+m≤c) (hsrc:∀ w,Cls C.w0 w H→Src w 1 B m us) (h1:oneCells us=true) (hl:k+m≤n)
  (h:Φ ((d, .slice (some ⟨g,0,none⟩) (k+m) c)::env) ec (rb (row e 1 (some ⟨g,0,none⟩) cap n (setL xs k us)))):OpT C all o env ec H Φ:=by
 have hsz':ty.size=1:=Nat.eq_of_beq_eq_true hsz
 obtain⟨i,hi,hrb⟩:=hf.at_
 obtain⟨x,hx,hx1,hx2,hx3⟩:=(Sig.tyOk ht).info'
 refine OpT.eff hg fun a w ha hw=>?_
 obtain⟨F,f1,f2,f3⟩:=hw.sep
 have hil:i<H.length:=(List.getElem?_eq_some_iff.1 hi).1
 obtain⟨hxl,hrow⟩:=f1 i _ hi
 rcases hrow with⟨h9,_⟩|⟨g',cur,hA,hF,g1,g2,g3,g4⟩
 ·cases h9
 cases hA
 obtain⟨hbn,hb⟩:=f2 i g (.cells cur e (0,0)) hil (by rw [hF];simp [one])
 have hcl:cur.toList.length=cap * 1:=by simpa using g3
 obtain⟨hul,hat⟩:=hsrc w hw
 rw [Nat.mul_one] at hul
 obtain⟨w',k1,k2,k3,k4,k5,k6,k7⟩:=run_storeL C.S.P g e us 0 k cur.toList w (by simpa using hb) (by rw [hcl];omega) h1
 have hload:∀ cc,(Builtin.firstCells x.size m (.slice B m cc)).run C.S.P w = .ok us.toArray w:=fun cc=>by
  rw [hx1,hsz']
  rcases B with _|ad
  ·have hk0:¬ 0<m:=fun h9=>by
    have:=(hat h9).1
    simp [isAt] at this
   have hu0:us=[]:=List.eq_nil_of_length_eq_zero (by omega)
   subst hu0
   simp [Builtin.firstCells]
  ·simp only [Builtin.firstCells]
   rw [show m * 1=us.length by omega]
   refine run_loadCells_list (P:=C.S.P) w ad us fun j u hu=>?_
   have hj:j<us.length:=(List.getElem?_eq_some_iff.1 hu).1
   obtain⟨h8,h9⟩:=hat (by omega)
   obtain⟨ab,ao,ap⟩:=ad
   have h7:ap=none:=by simpa [isAt,bk,ofs] using h8
   subst h7
   have:=h9 j u hu
   unfold Addr.add
   split
   ·rename_i e0;subst e0;simpa [bk,ofs] using this
   ·simpa [bk,ofs] using this
 obtain⟨dst,op,ty0,pos,aft,gd⟩:=o
 unfold evApp at he
 dsimp only at he
 split at he
 ·rename_i ps ts
  split at he
  ·rename_i A1 n1 c1 B1 m1 c2 t u hps hts
   split at he
   ·rename_i e1 q1 q2 q3 hty
    cases htu:Nat.beq t u with
    | false=>rw [htu] at he;cases he
    | true =>
    rw [htu] at he
    have et:t=u:=Nat.eq_of_beq_eq_true htu
    subst et
    cases he
    have hut:=(Sig.tyOk hty).fits
    simp only [Ty.fits] at hut
    have hargs:ps.map a.eval = #[.slice (some ⟨g,0,none⟩) k c, .slice B m c2]:=Array.ext' (by rw [Array.toList_map];exact evL_spec ha (Holds.nil _ _) hps)
    have hts':ts = #[t,t]:=Array.ext' hts
    have hst:(storeCells ((⟨g,0,none⟩:Addr).add (k * x.size)) us).run C.S.P w = .ok () w':=by
     rw [hx1,hsz',Nat.mul_one]
     have:=k1
     unfold Addr.add
     split
     ·rename_i e0;subst e0;simpa using this
     ·simpa using this
    have hap:(Builtin.append_ #[t,t] ty0 #[.slice (some ⟨g,0,none⟩) k c, .slice B m c2]).run C.S.P w = .ok (.slice (some ⟨g,0,none⟩) (k+m) c) w':=by
     simp [Builtin.append_,run_underlying hut,Builtin.lenOf,sizeOf,typeInfo,hx,hc,hload,hst]
    refine ⟨.slice (some ⟨g,0,none⟩) (k+m) c,w',rb (row e 1 (some ⟨g,0,none⟩) cap n (setL xs k us)),?_,⟨?_,?_⟩,d,hd,hN,hs,h⟩
    ·simp [execOp,resolve,invoke,builtin,hargs,hts',hap]
    ·exact hw.below.trans ⟨k4,k5,k6,by omega,fun c hc=>k3 c (by omega)⟩
    ·rw [hrb]
     refine hw.sep.turn hi (fun f hf=>?_) (fun c hc _=>k3 c hc) k2 ?_
     ·obtain⟨_,hr⟩:=hf
      rcases hr with⟨h9,_⟩|⟨g',cur',hA',hF',_⟩
      ·cases h9
      ·cases hA';exact⟨_,hF'⟩
     ·refine ⟨by rw [setL_length];exact hxl, .inr ⟨g,_,rfl,rfl,g1,g2,by rw [List.size_toArray,setL_length];exact hcl,?_⟩⟩
      rw [Nat.add_zero]
      show (setL cur.toList k us).take (n * 1)=_
      rw [setL_take _ _ _ (by omega),g4]
   ·cases he
  ·cases he
 ·cases he
end
end Go.Proofs.YtabhdaehomjlgaaGreat
namespace Go.Proofs.YtabhdaehomjlgaaGreat
open Go.RowKit Go.Shelf Go.Proofs
set_option maxRecDepth 100000
set_option maxHeartbeats 1000000

theorem leavesRef31_spec (A1 A2:Option Addr) (n1 c1 n2 c2:Nat) (ps:List Int) (ns:List ByteArray) (w:World) (ht:TrA w A1 n1 c1 A2 n2 c2 ps ns) :
  Spec Tryz.prog 146 [.agg #[.slice A1 n1 c1, .slice A2 n2 c2]] w (fun v R=>∃ y:List Int × Option Addr × Nat × Int,True∧v = .tuple #[.slice y.2.1 y.1.length y.2.2.1, .int .i64 y.2.2.2]∧R=[row 3 1 y.2.1 y.2.2.1 y.1.length (y.1.map (Value.int .i64))]):=by
 have hl2:=ht.l2
 have hb2:=ht.b2
 refine spec_of sg Tryz.func146 rfl rfl rfl ?_
 repeat' (first|(show T _ (.ops _ (⟨_, .box _ _,_,_,_,_⟩::_)::_) _ _ _;refine T_op (OpT.box (cs:=[.slice A1 n1 c1, .slice A2 n2 c2]) rfl rfl rfl rfl rfl rfl rfl (fun _=>?_)))|refine d1 ?_|(show ∀ _:Nat,T _ _ _ _ _;intro _))
 rename_i t1
 refine T_op (OpT.call rfl rfl rfl rfl rfl (fun w hw=>checkRef31_spec A1 A2 n1 c1 n2 c2 ps ns w (ht.cls hw)) ?_)
 rintro u R ⟨e,-,rfl,rfl⟩
 rw [List.nil_append]
 repeat' (first|refine d1 ?_|(show ∀ _:Nat,T _ _ _ _ _;intro _))
 refine T_nilrow 3 1 ?_
 refine T_if rfl (fun h=>?_) (fun h=>?_)
 ·repeat' (first|refine d1 ?_|refine dd ?_|(show ∀ _:Nat,T _ _ _ _ _;intro _)|(show T _ (.code .ret::_) _ _ _;refine T_retV _ rfl (Hle.append_left (A:=[_]) _) ⟨([],none,0,1),trivial,rfl,rfl⟩))
 repeat' (first|refine d1 ?_|(show ∀ _:Nat,T _ _ _ _ _;intro _))
 refine T_loopX (fun s:Nat × List Int × Option Addr × Nat=>[(5, .int .i64 (s.1:Nat)),(4, .slice s.2.2.1 s.2.1.length s.2.2.2)]) (fun s=>[row 3 1 s.2.2.1 s.2.2.2 s.2.1.length (s.2.1.map (Value.int .i64)),blk t1 [.slice A1 n1 c1, .slice A2 n2 c2] 30])
  (fun s=>s.1≤n2∧s.2.1.length≤s.1) (fun s=>n2 - s.1) (0,[],none,0) ⟨Nat.zero_le _,Nat.zero_le _⟩ ?_
 rintro⟨j,l,A',c'⟩ ⟨hj,hl⟩
 dsimp only at hj hl ⊢
 repeat' (first|refine d1 ?_|(show ∀ _:Nat,T _ _ _ _ _;intro _))
 refine T_if rfl (fun h=>?_) (fun h=>?_)
 ·simp only [decide_eq_true_eq] at h
  obtain⟨s,hs⟩:∃ s,ns[j]?=some s:=⟨_,List.getElem?_eq_getElem (by omega)⟩
  obtain⟨g2,o2,rfl⟩:=ht.s2.base (by omega)
  have hs1:=src_str ht.s2 (k:=j) (by omega) hs
  repeat' (first|refine d1 ?_|(show T _ (.ops _ (_::_)::_) _ _ _;first|refine T_val rfl (Val.load rfl (fun hg=>rdOld hs1)) rfl rfl rfl ?_|refine T_valC rfl (Val.load rfl (fun hg=>rdOld hs1)) rfl rfl rfl rfl rfl ?_)|(show T _ (.run _ _ (_::_) _ _::_) _ _ _;first|refine rv rfl rfl rfl (Val.load rfl (fun hg=>rdOld hs1)) rfl rfl rfl ?_|refine rg rfl rfl rfl (Val.load rfl (fun hg=>rdOld hs1)) rfl rfl rfl rfl rfl ?_)|(show ∀ _:Nat,T _ _ _ _ _;intro _))
  refine T_if rfl (fun h5=>?_) (fun h5=>?_)
  ·repeat' (first|refine d1 ?_|(show T _ (.ops _ (_::_)::_) _ _ _;first|refine T_op (OpT.litW rfl rfl rfl rfl rfl rfl rfl rfl rfl rfl rfl (fun _=>?_))|refine T_op (OpT.append (A:=A') rfl rfl rfl rfl rfl rfl rfl rfl rfl rfl (fun w hw=>Src.own hw rfl) rfl (by dsimp only;omega) (by omega) (fun A9 c9 hA9=>?_)))|(show ∀ _:Nat,T _ _ _ _ _;intro _))
   refine T_backX (j+1,l++[(j:Int)],A9,c9) ⟨by dsimp only;omega,by dsimp only;simp;omega⟩ (by dsimp only;omega) (hE:=⟨rfl,by dsimp only;rw [List.length_append];rfl,trivial⟩) (hG:=?_)
   dsimp only
   rw [List.length_append,List.map_append]
   exact Hle.tail _ _
  ·repeat' (first|refine d1 ?_|(show ∀ _:Nat,T _ _ _ _ _;intro _))
   exact T_backX (j+1,l,A',c') ⟨by dsimp only;omega,by dsimp only;omega⟩ (by dsimp only;omega)
 ·repeat' (first|refine d1 ?_|refine dd ?_|(show ∀ _:Nat,T _ _ _ _ _;intro _)|(show T _ (.code .ret::_) _ _ _;refine T_retV _ rfl (Hle.append_left (A:=[_]) _) ⟨(l,A',c',0),trivial,rfl,rfl⟩))
theorem checkStates33_spec (A1 A2 As:Option Addr) (n1 c1 n2 c2 m cs:Nat) (ps:List Int) (ns:List ByteArray) (st:List Int) (k:Int) (w:World) (ht:TrA w A1 n1 c1 A2 n2 c2 ps ns) (hst:Src w 1 As m (st.map (Value.int .i64))) (hm:st.length=m) (hmb:m≤1000000) :
  Spec Tryz.prog 105 [.agg #[.slice A1 n1 c1, .slice A2 n2 c2], .slice As m cs, .int .i64 k] w (fun v R=>∃ e:Int,(e=0→∀ x∈st,-1≤x∧x<k)∧v = .int .i64 e∧R=[]):=by
 refine spec_of sg Tryz.func105 rfl rfl rfl ?_
 repeat' (first|(show T _ (.ops _ (⟨_, .box _ _,_,_,_,_⟩::_)::_) _ _ _;refine T_op (OpT.box (cs:=[.slice A1 n1 c1, .slice A2 n2 c2]) rfl rfl rfl rfl rfl rfl rfl (fun _=>?_)))|refine d1 ?_|(show ∀ _:Nat,T _ _ _ _ _;intro _))
 rename_i t3
 refine T_op (OpT.call rfl rfl rfl rfl rfl (fun w hw=>leavesRef31_spec A1 A2 n1 c1 n2 c2 ps ns w (ht.cls hw)) ?_)
 rintro u R ⟨⟨l,A9,c9,e9⟩,-,rfl,rfl⟩
 dsimp only
 refine T_le (H':=[blk t3 [.slice A1 n1 c1, .slice A2 n2 c2] 30]) (Hle.tail _ _) ?_
 repeat' (first|refine d1 ?_|(show ∀ _:Nat,T _ _ _ _ _;intro _))
 refine T_if rfl (fun h=>?_) (fun h=>?_)
 ·repeat' (first|refine d1 ?_|refine dd ?_|(show ∀ _:Nat,T _ _ _ _ _;intro _)|(show T _ (.code .ret::_) _ _ _;refine T_retV [] rfl (Hle.none _) ⟨9,(fun h=>by omega),rfl,rfl⟩))
 repeat' (first|refine d1 ?_|(show ∀ _:Nat,T _ _ _ _ _;intro _))
 refine T_loopX (fun i:Nat=>[(9, .int .i64 (i:Nat))]) (fun _=>[]) (fun i=>i≤m∧∀ q x,q<i→st[q]?=some x → -1≤x∧x<k) (fun i=>m - i) 0 ⟨Nat.zero_le _,fun q x h=>absurd h (Nat.not_lt_zero _)⟩ ?_
 rintro i ⟨hi,hok⟩
 repeat' (first|refine d1 ?_|(show ∀ _:Nat,T _ _ _ _ _;intro _))
 refine T_if rfl (fun h=>?_) (fun h=>?_)
 ·simp only [decide_eq_true_eq] at h
  obtain⟨z,hz⟩:∃ z,st[i]?=some z:=⟨_,List.getElem?_eq_getElem (by omega)⟩
  obtain⟨gs,os,rfl⟩:=hst.base (by omega)
  have hz1:=src_int hst (k:=i) (by omega) hz
  repeat' (first|refine d1 ?_|(show T _ (.ops _ (_::_)::_) _ _ _;first|refine T_val rfl (Val.load rfl (fun hg=>rdOld hz1)) rfl rfl rfl ?_|refine T_valC rfl (Val.load rfl (fun hg=>rdOld hz1)) rfl rfl rfl rfl rfl ?_)|(show T _ (.run _ _ (_::_) _ _::_) _ _ _;first|refine rv rfl rfl rfl (Val.load rfl (fun hg=>rdOld hz1)) rfl rfl rfl ?_|refine rg rfl rfl rfl (Val.load rfl (fun hg=>rdOld hz1)) rfl rfl rfl rfl rfl ?_)|(show ∀ _:Nat,T _ _ _ _ _;intro _))
  refine T_if rfl (fun h5=>?_) (fun h5=>?_)
  ·repeat' (first|refine d1 ?_|refine dd ?_|(show ∀ _:Nat,T _ _ _ _ _;intro _)|(show T _ (.code .ret::_) _ _ _;refine T_retV [] rfl (Hle.none _) ⟨2,(fun h=>by omega),rfl,rfl⟩))
  ·simp only [Bool.or_eq_false_iff,decide_eq_false_iff_not] at h5
   repeat' (first|refine d1 ?_|(show ∀ _:Nat,T _ _ _ _ _;intro _))
   refine T_backX (i+1) ⟨by omega,fun q x hq hx=>?_⟩ (by omega)
   by_cases e:q=i
   ·subst e;rw [hz] at hx;cases hx;omega
   ·exact hok q x (by omega) hx
 ·simp only [decide_eq_false_iff_not] at h
  repeat' (first|refine d1 ?_|refine dd ?_|(show ∀ _:Nat,T _ _ _ _ _;intro _)|(show T _ (.code .ret::_) _ _ _;refine T_retV [] rfl (Hle.none _) ⟨0,(fun _ x hx=>by obtain⟨q,hq⟩:=List.mem_iff_getElem?.1 hx;exact hok q x (by have:=(List.getElem?_eq_some_iff.1 hq).1;omega) hq),rfl,rfl⟩))
end Go.Proofs.YtabhdaehomjlgaaGreat
namespace Go.Proofs.YtabhdaehomjlgaaGreat
open Go.RowKit Go.Shelf Go.Proofs
set_option maxRecDepth 100000
set_option maxHeartbeats 1000000

theorem checkCosts33_spec (A1 A2:Option Addr) (n1 c1 n2 c2:Nat) (ps:List Int) (ns:List ByteArray) (C:Value) (M:List (List Int)) (w:World) (ht:TrA w A1 n1 c1 A2 n2 c2 ps ns) (hC:Rd (wr w) [C] [rowsD M]) (hM:0<M.length∧M.length≤18) :
  Spec Tryz.prog 104 [.agg #[.slice A1 n1 c1, .slice A2 n2 c2],C] w (fun v R=>∃ e:Int,True∧v = .int .i64 e∧R=[]):=by
 obtain⟨gc,oc,csC,rfl,hc1,hc2,hc3,hc4,hc5⟩:=hC.tab
 obtain⟨gC,oC,rfl,hcs⟩:=hc4 hM.1
 refine spec_of sg Tryz.func104 rfl rfl rfl ?_
 repeat' (first|(show T _ (.ops _ (⟨_, .box _ _,_,_,_,_⟩::_)::_) _ _ _;refine T_op (OpT.box (cs:=[.slice A1 n1 c1, .slice A2 n2 c2]) rfl rfl rfl rfl rfl rfl rfl (fun _=>?_)))|refine d1 ?_|(show ∀ _:Nat,T _ _ _ _ _;intro _))
 rename_i t2
 refine T_op (OpT.call rfl rfl rfl rfl rfl (fun w hw=>checkRef31_spec A1 A2 n1 c1 n2 c2 ps ns w (ht.cls hw)) ?_)
 rintro u R ⟨e,-,rfl,rfl⟩
 rw [List.nil_append]
 repeat' (first|refine d1 ?_|(show ∀ _:Nat,T _ _ _ _ _;intro _))
 refine T_if rfl (fun h=>?_) (fun h=>?_)
 ·repeat' (first|refine d1 ?_|refine dd ?_|(show ∀ _:Nat,T _ _ _ _ _;intro _)|(show T _ (.code .ret::_) _ _ _;refine T_retV [] rfl (Hle.none _) ⟨_,trivial,rfl,rfl⟩))
 repeat' (first|refine d1 ?_|(show ∀ _:Nat,T _ _ _ _ _;intro _))
 refine T_if rfl (fun h=>?_) (fun h=>?_)
 ·repeat' (first|refine d1 ?_|refine dd ?_|(show ∀ _:Nat,T _ _ _ _ _;intro _)|(show T _ (.code .ret::_) _ _ _;refine T_retV [] rfl (Hle.none _) ⟨_,trivial,rfl,rfl⟩))
 repeat' (first|refine d1 ?_|(show ∀ _:Nat,T _ _ _ _ _;intro _))
 refine T_if rfl (fun h=>?_) (fun h=>?_)
 ·repeat' (first|refine d1 ?_|refine dd ?_|(show ∀ _:Nat,T _ _ _ _ _;intro _)|(show T _ (.code .ret::_) _ _ _;refine T_retV [] rfl (Hle.none _) ⟨_,trivial,rfl,rfl⟩))
 repeat' (first|refine d1 ?_|(show ∀ _:Nat,T _ _ _ _ _;intro _))
 refine T_loopX (fun i:Nat=>[(5, .int .i64 (i:Nat))]) (fun _=>[]) (fun i=>i≤M.length∧∀ q r,q<i→M[q]?=some r→r.length=M.length) (fun i=>M.length - i) 0 ⟨Nat.zero_le _,fun q r h=>absurd h (Nat.not_lt_zero _)⟩ ?_
 rintro i ⟨hi,hok⟩
 repeat' (first|refine d1 ?_|(show ∀ _:Nat,T _ _ _ _ _;intro _))
 refine T_if rfl (fun h=>?_) (fun h=>?_)
 ·simp only [decide_eq_true_eq] at h
  obtain⟨r,hr⟩:∃ r,M[i]?=some r:=⟨_,List.getElem?_eq_getElem (by omega)⟩
  obtain⟨Ar,cr,hcr,hr1,hr2,-⟩:=hc5.tabRow hr
  have hrow:RdC w gC (oC+(i:Int).toNat * 1) [.slice Ar r.length cr]:=RdC.one (by rw [off1];exact hcs i _ hcr)
  repeat' (first|refine d1 ?_|(show T _ (.ops _ (_::_)::_) _ _ _;first|refine T_val rfl (Val.load rfl (fun hg=>rdOld hrow)) rfl rfl rfl ?_|refine T_valC rfl (Val.load rfl (fun hg=>rdOld hrow)) rfl rfl rfl rfl rfl ?_)|(show T _ (.run _ _ (_::_) _ _::_) _ _ _;first|refine rv rfl rfl rfl (Val.load rfl (fun hg=>rdOld hrow)) rfl rfl rfl ?_|refine rg rfl rfl rfl (Val.load rfl (fun hg=>rdOld hrow)) rfl rfl rfl rfl rfl ?_)|(show ∀ _:Nat,T _ _ _ _ _;intro _))
  refine T_if rfl (fun h5=>?_) (fun h5=>?_)
  ·repeat' (first|refine d1 ?_|refine dd ?_|(show ∀ _:Nat,T _ _ _ _ _;intro _)|(show T _ (.code .ret::_) _ _ _;refine T_retV [] rfl (Hle.none _) ⟨_,trivial,rfl,rfl⟩))
  ·simp only [Bool.not_eq_false',decide_eq_true_eq] at h5
   repeat' (first|refine d1 ?_|(show ∀ _:Nat,T _ _ _ _ _;intro _))
   refine T_backX (i+1) ⟨by omega,fun q r2 hq hr2=>?_⟩ (by omega)
   by_cases e:q=i
   ·subst e;rw [hr] at hr2;cases hr2;omega
   ·exact hok q r2 (by omega) hr2
 simp only [decide_eq_false_iff_not] at h
 obtain rfl:i=M.length:=by omega
 repeat' (first|refine d1 ?_|(show ∀ _:Nat,T _ _ _ _ _;intro _))
 refine T_loopX (fun a:Nat=>[(6, .int .i64 (a:Nat))]) (fun _=>[]) (fun a=>a≤M.length) (fun a=>M.length - a) 0 (Nat.zero_le _) ?_
 intro a ha
 repeat' (first|refine d1 ?_|(show ∀ _:Nat,T _ _ _ _ _;intro _))
 refine T_if rfl (fun h6=>?_) (fun h6=>?_)
 ·simp only [decide_eq_true_eq] at h6
  obtain⟨r,hr⟩:∃ r,M[a]?=some r:=⟨_,List.getElem?_eq_getElem (by omega)⟩
  obtain⟨Ar,cr,hcr,hr1,hr2,hr3⟩:=hc5.tabRow hr
  have hrl:=hok a r (by omega) hr
  rw [hrl] at hcr hr3
  obtain⟨gr,or9,rfl,hrc⟩:=hr3 hM.1
  have hrow:RdC w gC (oC+(a:Int).toNat * 1) [.slice (some ⟨gr,or9,none⟩) M.length cr]:=RdC.one (by rw [off1];exact hcs a _ hcr)
  repeat' (first|refine d1 ?_|(show ∀ _:Nat,T _ _ _ _ _;intro _))
  refine T_loopX (fun b:Nat=>[(7, .int .i64 (b:Nat))]) (fun _=>[]) (fun b=>b≤M.length) (fun b=>M.length - b) 0 (Nat.zero_le _) ?_
  intro b hb
  repeat' (first|refine d1 ?_|(show ∀ _:Nat,T _ _ _ _ _;intro _))
  refine T_if rfl (fun h7=>?_) (fun h7=>?_)
  ·simp only [decide_eq_true_eq] at h7
   obtain⟨z,hz⟩:∃ z,r[b]?=some z:=⟨_,List.getElem?_eq_getElem (by omega)⟩
   have hzc:RdC w gr (or9+(b:Int).toNat * 1) [.int .i64 z]:=RdC.one (by rw [off1];exact hrc b z hz)
   repeat' (first|refine d1 ?_|(show T _ (.ops _ (_::_)::_) _ _ _;first|refine T_val rfl (Val.load rfl (fun hg=>rdOld hrow)) rfl rfl rfl ?_|refine T_valC rfl (Val.load rfl (fun hg=>rdOld hrow)) rfl rfl rfl rfl rfl ?_|refine T_val rfl (Val.load rfl (fun hg=>rdOld hzc)) rfl rfl rfl ?_|refine T_valC rfl (Val.load rfl (fun hg=>rdOld hzc)) rfl rfl rfl rfl rfl ?_)|(show T _ (.run _ _ (_::_) _ _::_) _ _ _;first|refine rv rfl rfl rfl (Val.load rfl (fun hg=>rdOld hrow)) rfl rfl rfl ?_|refine rg rfl rfl rfl (Val.load rfl (fun hg=>rdOld hrow)) rfl rfl rfl rfl rfl ?_|refine rv rfl rfl rfl (Val.load rfl (fun hg=>rdOld hzc)) rfl rfl rfl ?_|refine rg rfl rfl rfl (Val.load rfl (fun hg=>rdOld hzc)) rfl rfl rfl rfl rfl ?_)|(show ∀ _:Nat,T _ _ _ _ _;intro _))
   refine T_if rfl (fun h8=>?_) (fun h8=>?_)
   ·repeat' (first|refine d1 ?_|refine dd ?_|(show ∀ _:Nat,T _ _ _ _ _;intro _)|(show T _ (.code .ret::_) _ _ _;refine T_retV [] rfl (Hle.none _) ⟨_,trivial,rfl,rfl⟩))
   ·repeat' (first|refine d1 ?_|(show ∀ _:Nat,T _ _ _ _ _;intro _))
    exact T_backX (b+1) (by omega) (by omega)
  ·repeat' (first|refine d1 ?_|(show ∀ _:Nat,T _ _ _ _ _;intro _))
   exact T_backX (a+1) (by omega) (by omega)
 ·repeat' (first|refine d1 ?_|refine dd ?_|(show ∀ _:Nat,T _ _ _ _ _;intro _)|(show T _ (.code .ret::_) _ _ _;refine T_retV [] rfl (Hle.none _) ⟨_,trivial,rfl,rfl⟩))
theorem check33_spec (A1 A2 As:Option Addr) (n1 c1 n2 c2 m cs:Nat) (ps:List Int) (ns:List ByteArray) (st:List Int) (C:Value) (M:List (List Int)) (w:World) (ht:TrA w A1 n1 c1 A2 n2 c2 ps ns) (hst:Src w 1 As m (st.map (Value.int .i64))) (hm:st.length=m) (hmb:m≤1000000) (hC:Rd (wr w) [C] [rowsD M]) (hM:0<M.length∧M.length≤18) :
  Spec Tryz.prog 62 [.agg #[.slice A1 n1 c1, .slice A2 n2 c2], .slice As m cs,C] w (fun v R=>∃ e:Int,(e=0→∀ x∈st,-1≤x∧x<(M.length:Nat))∧v = .int .i64 e∧R=[]):=by
 refine spec_of sg Tryz.func62 rfl rfl rfl ?_
 obtain⟨gc,oc,csC,rfl,-,-,-,-,-⟩:=hC.tab
 repeat' (first|(show T _ (.ops _ (⟨_, .box _ _,_,_,_,_⟩::_)::_) _ _ _;refine T_op (OpT.box (cs:=[.slice A1 n1 c1, .slice A2 n2 c2]) rfl rfl rfl rfl rfl rfl rfl (fun _=>?_)))|refine d1 ?_|(show ∀ _:Nat,T _ _ _ _ _;intro _))
 rename_i t3
 refine T_op (OpT.call rfl rfl rfl rfl rfl (fun w hw=>checkCosts33_spec A1 A2 n1 c1 n2 c2 ps ns _ M w (ht.cls hw) (hC.old hw) hM) ?_)
 rintro u R ⟨e,-,rfl,rfl⟩
 rw [List.nil_append]
 repeat' (first|refine d1 ?_|(show ∀ _:Nat,T _ _ _ _ _;intro _))
 refine T_if rfl (fun h=>?_) (fun h=>?_)
 ·simp only [Bool.not_eq_true',decide_eq_false_iff_not] at h
  repeat' (first|refine d1 ?_|refine dd ?_|(show ∀ _:Nat,T _ _ _ _ _;intro _)|(show T _ (.code .ret::_) _ _ _;refine T_retV [] rfl (Hle.none _) ⟨e,(fun h9=>absurd h9 h),rfl,rfl⟩))
 repeat' (first|refine d1 ?_|(show ∀ _:Nat,T _ _ _ _ _;intro _))
 refine T_op (OpT.call rfl rfl rfl rfl rfl (fun w hw=>checkStates33_spec A1 A2 As n1 c1 n2 c2 m cs ps ns st ((M.length:Nat):Int) w (ht.cls hw) (src_below hst hw.below) hm hmb) ?_)
 rintro u R ⟨e2,he2,rfl,rfl⟩
 rw [List.nil_append]
 repeat' (first|refine d1 ?_|refine dd ?_|(show ∀ _:Nat,T _ _ _ _ _;intro _)|(show T _ (.code .ret::_) _ _ _;refine T_retV [] rfl (Hle.none _) ⟨e2,he2,rfl,rfl⟩))
end Go.Proofs.YtabhdaehomjlgaaGreat
namespace Go.Proofs.YtabhdaehomjlgaaGreat
open Go.RowKit Go.Shelf Go.Proofs
set_option maxRecDepth 100000
set_option maxHeartbeats 1000000

def u4R (i:Nat):List Int:=(List.range 4).map fun j=>dU i j
def u4M:List (List Int):=(List.range 4).map u4R
theorem u4R_get {i j:Nat} (h:j<4):(u4R i)[j]?=some (dU i j):=by unfold u4R;rw [List.getElem?_map,List.getElem?_range h];rfl
theorem u4M_get {i:Nat} (h:i<4):u4M[i]?=some (u4R i):=by unfold u4M;rw [List.getElem?_map,List.getElem?_range h];rfl
theorem unit33_spec (w:World):Spec Tryz.prog 60 [.int .i64 4] w (fun v R=>∃ x:Value,True∧v = .tuple #[x, .int .i64 0]∧R=[dat [x] [rowsD u4M]]):=by
 refine spec_of sg Tryz.func60 rfl rfl rfl ?_
 repeat' (first|refine d1 ?_|(show ∀ _:Nat,T _ _ _ _ _;intro _))
 refine T_if rfl (fun h=>by cases h) (fun _=>?_)
 repeat' (first|refine d1 ?_|(show T _ (.ops _ (_::_)::_) _ _ _;refine T_op (OpT.litW rfl rfl rfl rfl rfl rfl rfl rfl rfl rfl rfl (fun _=>?_)))|(show ∀ _:Nat,T _ _ _ _ _;intro _))
 rename_i b4
 refine T_le (H':=[row 24 1 (some ⟨b4,0,none⟩) 0 0 [],dat [] ((u4M.take 0).map intsD)]) (((hle_map (blk_row (sz:=1) (n:=0) rfl (by decide))).trans (hle_unit (B:=dat [] []) .nil)).trans hle_swap) ?_
 refine T_loopX (fun s:List Value × Option Addr × Nat=>[(5, .int .i64 (s.1.length:Nat)),(4, .slice s.2.1 s.1.length s.2.2)]) (fun s=>[row 24 1 s.2.1 s.2.2 s.1.length s.1,dat s.1 ((u4M.take s.1.length).map intsD)]) (fun s=>s.1.length≤4) (fun s=>4 - s.1.length) ([],some ⟨b4,0,none⟩,0) (Nat.zero_le _) ?_
 rintro⟨hs,A,c⟩ hi
 dsimp only at hi ⊢
 repeat' (first|refine d1 ?_|(show ∀ _:Nat,T _ _ _ _ _;intro _))
 refine T_if rfl (fun h=>?_) (fun h=>?_)
 ·simp only [decide_eq_true_eq] at h
  repeat' (first|refine d1 ?_|(show T _ (.ops _ (_::_)::_) _ _ _;refine T_op (OpT.litW rfl rfl rfl rfl rfl rfl rfl rfl rfl rfl rfl (fun _=>?_)))|(show ∀ _:Nat,T _ _ _ _ _;intro _))
  rename_i b6
  refine T_le (H':=[row 3 1 (some ⟨b6,0,none⟩) 0 0 (((u4R hs.length).take 0).map (Value.int .i64)),row 24 1 A c hs.length hs,dat hs ((u4M.take hs.length).map intsD)]) (hle_map (blk_row (sz:=1) (n:=0) rfl (by decide))) ?_
  refine T_loopX (fun s:Nat × Option Addr × Nat=>[(7, .int .i64 (s.1:Nat)),(6, .slice s.2.1 s.1 s.2.2)]) (fun s=>[row 3 1 s.2.1 s.2.2 s.1 (((u4R hs.length).take s.1).map (Value.int .i64)),row 24 1 A c hs.length hs,dat hs ((u4M.take hs.length).map intsD)]) (fun s=>s.1≤4) (fun s=>4 - s.1) (0,some ⟨b6,0,none⟩,0) (Nat.zero_le _) ?_
  rintro⟨j,A6,c6⟩ hj
  dsimp only at hj ⊢
  repeat' (first|refine d1 ?_|(show ∀ _:Nat,T _ _ _ _ _;intro _))
  refine T_if rfl (fun h2=>?_) (fun h2=>?_)
  ·simp only [decide_eq_true_eq] at h2
   have hg:=u4R_get (i:=hs.length) (j:=j) (by omega)
   have htk:=take_snoc _ _ _ hg
   repeat' (first|refine d1 ?_|(show ∀ _:Nat,T _ _ _ _ _;intro _))
   refine T_if rfl (fun h3=>?_) (fun h3=>?_)
   ·simp only [decide_eq_true_eq] at h3
    have hd:dU hs.length j=0:=by unfold dU;rw [if_pos (by omega)]
    rw [hd] at htk
    repeat' (first|refine d1 ?_|(show T _ (.ops _ (_::_)::_) _ _ _;first|refine T_op (OpT.litW rfl rfl rfl rfl rfl rfl rfl rfl rfl rfl rfl (fun _=>?_))|refine T_op (OpT.append (A:=A6) rfl rfl rfl rfl rfl rfl rfl rfl rfl rfl (fun w hw=>Src.own hw rfl) rfl (by dsimp only;omega) (by omega) (fun A9 c9 hA9=>?_)))|(show ∀ _:Nat,T _ _ _ _ _;intro _))
    refine T_backX (j+1,A9,c9) (by dsimp only;omega) (by dsimp only;omega) (hG:=?_)
    dsimp only
    rw [htk,List.map_append]
    exact Hle.tail _ _
   ·simp only [decide_eq_false_iff_not] at h3
    have hd:dU hs.length j=1:=by unfold dU;rw [if_neg (by omega)]
    rw [hd] at htk
    repeat' (first|refine d1 ?_|(show T _ (.ops _ (_::_)::_) _ _ _;first|refine T_op (OpT.litW rfl rfl rfl rfl rfl rfl rfl rfl rfl rfl rfl (fun _=>?_))|refine T_op (OpT.append (A:=A6) rfl rfl rfl rfl rfl rfl rfl rfl rfl rfl (fun w hw=>Src.own hw rfl) rfl (by dsimp only;omega) (by omega) (fun A9 c9 hA9=>?_)))|(show ∀ _:Nat,T _ _ _ _ _;intro _))
    refine T_backX (j+1,A9,c9) (by dsimp only;omega) (by dsimp only;omega) (hG:=?_)
    dsimp only
    rw [htk,List.map_append]
    exact Hle.tail _ _
  ·simp only [decide_eq_false_iff_not] at h2
   obtain rfl:j=4:=by omega
   have hfull:(u4R hs.length).take 4=u4R hs.length:=List.take_of_length_le (by unfold u4R;simp)
   rw [hfull]
   repeat' (first|refine d1 ?_|(show T _ (.ops _ (_::_)::_) _ _ _;first|refine T_op (OpT.litW rfl rfl rfl rfl rfl rfl rfl rfl rfl rfl rfl (fun _=>?_))|refine T_op (OpT.append (A:=A) rfl rfl rfl rfl rfl rfl rfl rfl rfl rfl (fun w hw=>Src.own hw rfl) rfl (by dsimp only;omega) (by omega) (fun A9 c9 hA9=>?_)))|(show ∀ _:Nat,T _ _ _ _ _;intro _))
   have hlen:(hs++[Value.slice A6 4 c6]).length=hs.length+1:=by simp
   refine T_backX (hs++[.slice A6 4 c6],A9,c9) (by dsimp only;omega) (by dsimp only;omega) (hE:=⟨by dsimp only;rw [hlen];rfl,by dsimp only;rw [hlen];rfl,trivial⟩) (hG:=?_)
   dsimp only
   rw [hlen,take_snoc _ _ _ (u4M_get (i:=hs.length) (by omega)),List.map_append]
   refine (Hle.tail _ _).trans ?_
   refine (hle_pm [0,2,1] [_,_,_] []).trans ?_
   refine (show Hle (row 3 1 A6 c6 4 ((u4R hs.length).map (Value.int .i64))::_) _ from dat_rowV).trans ?_
   rw [show ((u4R hs.length).map (Value.int .i64)).map D.v=(u4R hs.length).map fun n=>D.v (.int .i64 n) from List.map_map]
   exact (dat_join (ws:=[.slice A6 4 c6]) (es:=[intsD (u4R hs.length)])).trans hle_swap
 ·simp only [decide_eq_false_iff_not] at h
  have h4:hs.length=4:=by omega
  have hm:u4M.take hs.length=u4M:=by rw [h4];exact List.take_of_length_le (by unfold u4M;simp)
  rw [hm]
  repeat' (first|refine d1 ?_|refine dd ?_|(show ∀ _:Nat,T _ _ _ _ _;intro _)|(show T _ (.code .ret::_) _ _ _;refine T_retV _ rfl dat_row ⟨_,trivial,rfl,rfl⟩))
end Go.Proofs.YtabhdaehomjlgaaGreat
namespace Go.Proofs.YtabhdaehomjlgaaGreat
open Go.RowKit Go.Shelf Go.Proofs
set_option maxRecDepth 100000
set_option maxHeartbeats 1000000

structure fine33 (ps:List Int) (ns:List ByteArray) (st:List Int):Prop where
 ok:tOk ps ns
 len:(lfI ns).length=st.length
 n12:ps.length≤12
 sz:∀ s∈ns,s.size≤20
 st4:∀ x∈st,-1≤x∧x<4
 m12:st.length≤12
theorem top33Leaves_spec (A1 A2 As:Option Addr) (n1 c1 n2 c2 m cs:Nat) (ps:List Int) (ns:List ByteArray) (st:List Int) (w:World) (ht:TrR w A1 n1 c1 A2 n2 c2 ps ns) (hst:Src w 1 As m (st.map (Value.int .i64))) (hm:st.length=m) (hmb:m≤9223372036854775807) :
  Spec Tryz.prog 19 [.agg #[.slice A1 n1 c1, .slice A2 n2 c2], .slice As m cs] w (fun v R=>(v = .tuple #[.slice none 0 0, .slice none 0 0, .bool false]∧R=[]) ∨
   (fine33 ps ns st∧∃ y:(Option Addr × Nat) × (Option Addr × Nat),v = .tuple #[.slice y.1.1 (lfI ns).length y.1.2, .slice y.2.1 (lfI ns).length y.2.2, .bool true]∧R=[row 3 1 y.1.1 y.1.2 (lfI ns).length ((lfZ ns).map (Value.int .i64))])):=by
 refine spec_of sg Tryz.func19 rfl rfl rfl ?_
 repeat' (first|(show T _ (.ops _ (⟨_, .box _ _,_,_,_,_⟩::_)::_) _ _ _;refine T_op (OpT.box (cs:=[.slice A1 n1 c1, .slice A2 n2 c2]) rfl rfl rfl rfl rfl rfl rfl (fun _=>?_)))|refine d1 ?_|(show ∀ _:Nat,T _ _ _ _ _;intro _))
 rename_i t2
 refine T_op (OpT.call rfl rfl rfl rfl rfl (fun w hw=>unit33_spec w) ?_)
 rintro u R ⟨x9,-,rfl,rfl⟩
 refine T_le (H':=dat [x9] [rowsD u4M]::[blk t2 [.slice A1 n1 c1, .slice A2 n2 c2] 30]) (Hle.refl _) ?_
 refine T_open fun p9 hp9=>?_
 have hu4:u4M.length=4:=by unfold u4M;simp
 repeat' (first|refine d1 ?_|(show ∀ _:Nat,T _ _ _ _ _;intro _))
 refine T_op (OpT.call rfl rfl rfl rfl rfl (fun w hw=>great33_spec A1 A2 n1 c1 n2 c2 ps ns As m cs x9 u4M w (ht.cls hw) hmb (hp9.own hw) (by rw [hu4];decide)) ?_)
 rintro u R ⟨b,hb,rfl,rfl⟩
 rw [List.nil_append]
 cases b with
 | true =>
  repeat' (first|refine d1 ?_|(show ∀ _:Nat,T _ _ _ _ _;intro _))
  refine T_op (OpT.never (.int .i64 0) rfl (fun hg9=>by have h10:(true:Bool)=false:=hg9.1;cases h10) rfl rfl rfl rfl rfl ?_)
  repeat' (first|refine d1 ?_|(show ∀ _:Nat,T _ _ _ _ _;intro _))
  refine T_if rfl (fun _=>?_) (fun h=>by exfalso;simp at h)
  repeat' (first|refine d1 ?_|refine dd ?_|(show ∀ _:Nat,T _ _ _ _ _;intro _)|(show T _ (.code .ret::_) _ _ _;refine T_retV [] rfl (Hle.none _) (.inl ⟨rfl,rfl⟩)))
 | false =>
  obtain⟨hn1,hn2,hm12,hsz⟩:=hb rfl
  have hta:TrA w A1 n1 c1 A2 n2 c2 ps ns:=ht.tra (by omega) (by omega) (fun s hs=>by have:=hsz s hs;omega)
  repeat' (first|refine d1 ?_|(show ∀ _:Nat,T _ _ _ _ _;intro _))
  refine T_known 23 rfl rfl (T_known 24 rfl rfl (T_known 25 rfl rfl ?_))
  refine T_op (OpT.sure (p:=false) rfl rfl rfl (OpT.call rfl rfl rfl rfl rfl (fun w hw=>check33_spec A1 A2 As n1 c1 n2 c2 m cs ps ns st x9 u4M w (hta.cls hw) (src_below hst hw.below) hm (by omega) (hp9.own hw) (by rw [hu4];decide)) ?_))
  rintro u R ⟨e,he,rfl,rfl⟩
  rw [List.nil_append]
  repeat' (first|refine d1 ?_|(show ∀ _:Nat,T _ _ _ _ _;intro _))
  refine T_if rfl (fun h=>?_) (fun h=>?_)
  ·repeat' (first|refine d1 ?_|refine dd ?_|(show ∀ _:Nat,T _ _ _ _ _;intro _)|(show T _ (.code .ret::_) _ _ _;refine T_retV [] rfl (Hle.none _) (.inl ⟨rfl,rfl⟩)))
  simp only [Bool.false_or,Bool.not_eq_false',decide_eq_true_eq] at h
  have hst4:=he h
  rw [hu4] at hst4
  repeat' (first|refine d1 ?_|(show ∀ _:Nat,T _ _ _ _ _;intro _))
  refine T_op (OpT.call rfl rfl rfl rfl rfl (fun w hw=>leavesTree_spec A1 A2 n1 c1 n2 c2 ps ns w (hta.cls hw)) ?_)
  rintro u R (⟨h9,rfl,rfl⟩|⟨hok,⟨Al,cl⟩,rfl,rfl⟩)
  ·rw [List.nil_append]
   repeat' (first|refine d1 ?_|(show ∀ _:Nat,T _ _ _ _ _;intro _))
   refine T_if rfl (fun _=>?_) (fun h=>by exfalso;simp at h)
   repeat' (first|refine d1 ?_|refine dd ?_|(show ∀ _:Nat,T _ _ _ _ _;intro _)|(show T _ (.code .ret::_) _ _ _;refine T_retV [] rfl (Hle.none _) (.inl ⟨rfl,rfl⟩)))
  dsimp only
  rw [lfZ_nums]
  refine T_le (H':=[row 3 1 Al cl (lfI ns).length ((lfZ ns).map (Value.int .i64)),blk t2 [.slice A1 n1 c1, .slice A2 n2 c2] 30]) (hle_pm [0,2] [_,_,_] []) ?_
  repeat' (first|refine d1 ?_|(show ∀ _:Nat,T _ _ _ _ _;intro _))
  refine T_if rfl (fun h3=>?_) (fun h3=>?_)
  ·repeat' (first|refine d1 ?_|refine dd ?_|(show ∀ _:Nat,T _ _ _ _ _;intro _)|(show T _ (.code .ret::_) _ _ _;refine T_retV [] rfl (Hle.none _) (.inl ⟨rfl,rfl⟩)))
  have hlen9:(lfI ns).length=m:=by
   simp at h3
   omega
  have hfine:fine33 ps ns st:=⟨hok,by omega,by rw [ht.l1];exact hn1,hsz,fun x hx=>by have:=hst4 x hx;omega,by omega⟩
  have hl2:=ht.l2
  repeat' (first|refine d1 ?_|(show ∀ _:Nat,T _ _ _ _ _;intro _))
  refine T_nilrow 9 1 ?_
  refine T_loopX (fun s:List ByteArray × Option Addr × Nat=>[(45, .int .i64 (s.1.length:Nat)),(11, .slice s.2.1 s.1.length s.2.2)]) (fun s=>[row 9 1 s.2.1 s.2.2 s.1.length (s.1.map Value.string),row 3 1 Al cl (lfI ns).length ((lfZ ns).map (Value.int .i64)),blk t2 [.slice A1 n1 c1, .slice A2 n2 c2] 30]) (fun s=>s.1.length≤(lfI ns).length) (fun s=>(lfI ns).length - s.1.length) ([],none,0) (Nat.zero_le _) ?_
  rintro⟨nm,A',c'⟩ hnm
  dsimp only at hnm ⊢
  repeat' (first|refine d1 ?_|(show ∀ _:Nat,T _ _ _ _ _;intro _))
  refine T_if rfl (fun h4=>?_) (fun h4=>?_)
  ·simp only [decide_eq_true_eq] at h4
   obtain⟨k,hk⟩:∃ k,(lfI ns)[nm.length]?=some k:=⟨_,List.getElem?_eq_getElem (by omega)⟩
   have hkm:=lfI_mem.1 (List.mem_of_getElem? hk)
   obtain⟨s,hs⟩:∃ s,ns[k]?=some s:=⟨_,List.getElem?_eq_getElem (by omega)⟩
   obtain⟨g2,o2,rfl⟩:=ht.s2.base (by omega)
   have hs1:=src_str ht.s2 (k:=k) (by omega) hs
   refine T_le hle_swap ?_
   refine T_rowAt (by omega) ?_
   rintro gl rfl
   have hkc:((lfZ ns).map (Value.int .i64))[nm.length]?=some (.int .i64 (k:Nat)):=by
    unfold lfZ;rw [List.getElem?_map,List.getElem?_map,hk];rfl
   repeat' (first|refine d1 ?_|(show T _ (.ops _ (_::_)::_) _ _ _;first|refine T_val rfl (Val.load rfl (fun hg=>rdRow (A:=some ⟨gl,0,none⟩) (vs:=[.int .i64 (k:Nat)]) (by omega) (fun j u hu=>by cases j with|zero=>simp at hu;subst hu;rw [show 0+((nm.length:Nat):Int).toNat * 1+0=nm.length by omega];exact hkc|succ j=>simp at hu))) rfl rfl rfl ?_|refine T_valC rfl (Val.load rfl (fun hg=>rdRow (A:=some ⟨gl,0,none⟩) (vs:=[.int .i64 (k:Nat)]) (by omega) (fun j u hu=>by cases j with|zero=>simp at hu;subst hu;rw [show 0+((nm.length:Nat):Int).toNat * 1+0=nm.length by omega];exact hkc|succ j=>simp at hu))) rfl rfl rfl rfl rfl ?_)|(show T _ (.run _ _ (_::_) _ _::_) _ _ _;first|refine rv rfl rfl rfl (Val.load rfl (fun hg=>rdRow (A:=some ⟨gl,0,none⟩) (vs:=[.int .i64 (k:Nat)]) (by omega) (fun j u hu=>by cases j with|zero=>simp at hu;subst hu;rw [show 0+((nm.length:Nat):Int).toNat * 1+0=nm.length by omega];exact hkc|succ j=>simp at hu))) rfl rfl rfl ?_|refine rg rfl rfl rfl (Val.load rfl (fun hg=>rdRow (A:=some ⟨gl,0,none⟩) (vs:=[.int .i64 (k:Nat)]) (by omega) (fun j u hu=>by cases j with|zero=>simp at hu;subst hu;rw [show 0+((nm.length:Nat):Int).toNat * 1+0=nm.length by omega];exact hkc|succ j=>simp at hu))) rfl rfl rfl rfl rfl ?_)|(show ∀ _:Nat,T _ _ _ _ _;intro _))
   refine T_if rfl (fun h5=>?_) (fun h5=>?_)
   ·exfalso;simp at h5;omega
   repeat' (first|refine d1 ?_|(show T _ (.ops _ (_::_)::_) _ _ _;first|refine T_val rfl (Val.load rfl (fun hg=>rdOld hs1)) rfl rfl rfl ?_|refine T_valC rfl (Val.load rfl (fun hg=>rdOld hs1)) rfl rfl rfl rfl rfl ?_|refine T_op (OpT.litW rfl rfl rfl rfl rfl rfl rfl rfl rfl rfl rfl (fun _=>?_))|refine T_op (OpT.append (A:=A') rfl rfl rfl rfl rfl rfl rfl rfl rfl rfl (fun w hw=>Src.own hw rfl) rfl (by dsimp only;omega) (by omega) (fun A9 c9 hA9=>?_)))|(show T _ (.run _ _ (_::_) _ _::_) _ _ _;first|refine rv rfl rfl rfl (Val.load rfl (fun hg=>rdOld hs1)) rfl rfl rfl ?_|refine rg rfl rfl rfl (Val.load rfl (fun hg=>rdOld hs1)) rfl rfl rfl rfl rfl ?_)|(show ∀ _:Nat,T _ _ _ _ _;intro _))
   have hlen:(nm++[s]).length=nm.length+1:=by simp
   refine T_backX (nm++[s],A9,c9) (by dsimp only;omega) (by dsimp only;omega) (hE:=⟨by dsimp only;rw [hlen];rfl,by dsimp only;rw [hlen];rfl,trivial⟩) (hG:=?_)
   dsimp only
   rw [hlen,List.map_append]
   exact (Hle.tail _ _).trans hle_swap
  ·repeat' (first|refine d1 ?_|refine dd ?_|(show ∀ _:Nat,T _ _ _ _ _;intro _)|(show T _ (.code .ret::_) _ _ _;refine T_retV _ rfl ((Hle.tail _ _).trans (Hle.append_left (A:=[_]) _)) (.inr ⟨hfine,((Al,cl),(A',c')),by rw [show nm.length=(lfI ns).length by simp at h4;omega];rfl,rfl⟩)))
end Go.Proofs.YtabhdaehomjlgaaGreat
namespace Go.Proofs.YtabhdaehomjlgaaGreat
open Go.RowKit Go.Shelf Go.Proofs
set_option maxRecDepth 100000
set_option maxHeartbeats 1000000

theorem srcRowT {w0 w:World} {H:List HA} {A:Option Addr} {e cap n:Nat} {xs:List Value} {rb:HA→List HA} [hf:FocusR H A e 1 cap n xs rb] (hw:Cls w0 w H) (hn:0<n):Src w 1 A n xs:=by
 obtain⟨i,hi,hrb⟩:=hf.at_
 obtain⟨F,f1,f2,f3⟩:=hw.sep
 have hil:i<H.length:=(List.getElem?_eq_some_iff.1 hi).1
 obtain⟨hxl,hrow⟩:=f1 i _ hi
 rcases hrow with⟨-,-,h0,-⟩|⟨g,cur,rfl,hF,g1,g2,g3,g4⟩
 ·omega
 refine ⟨hxl,fun _=>⟨rfl,fun j u hu=>?_⟩⟩
 obtain⟨-,hb⟩:=f2 i g (.cells cur e (0,0)) hil (by rw [hF];simp [one])
 show w.cell? ⟨g,0+j,none⟩=some u
 rw [cell_of_row w g (0+j) cur e (0,0) hb]
 rw [← g4,List.getElem?_take] at hu
 split at hu
 ·rw [Nat.zero_add];simpa using hu
 ·cases hu
theorem src_dropT {w:World} {A:Option Addr} {n ca:Nat} {xs:List Value} (hs:Src w 1 A n xs) (lo:Nat) (h:lo≤n) (hc:n≤ca):Src w 1 (cutA A ca lo 1) (n - lo) (xs.drop lo):=by
 have hl:=hs.1
 have hflat:xs.flatMap (fun v:Value=>[v])=xs:=by induction xs with|nil=>rfl|cons x r ih=>simp
 have h9:=src_sub (fun v:Value=>[v]) 1 (fun _=>rfl) (l:=xs) (ca:=ca) (by rw [hflat];exact hs) (by omega) lo n h (Nat.le_refl _) hc
 rw [List.take_of_length_le (by omega)] at h9
 have hflat2:∀ l:List Value,l.flatMap (fun v:Value=>[v])=l:=fun l=>by induction l with|nil=>rfl|cons x r ih=>simp
 rwa [hflat2] at h9
theorem deleteI_spec (g n c cap i:Nat) (l:List Int) (w0:World) (K:List HA) (hl:l.length=n) (hi:i<n) (hc:n≤c) (hcc:c≤9223372036854775807) (hn:n≤100000) :
  SpecB Tryz.prog 22 [.slice (some ⟨g,0,none⟩) n c, .int .i64 (i:Nat), .int .i64 ((i:Nat)+1)] w0 (row 3 1 (some ⟨g,0,none⟩) cap n (l.map (Value.int .i64))::K)
   (fun v R=>v = .slice (some ⟨g,0,none⟩) (n - 1) c∧R=row 3 1 (some ⟨g,0,none⟩) cap n ((l.take i++l.drop (i+1)++[0]).map (Value.int .i64))::K):=by
 refine specB_of sg Tryz.func22 rfl rfl rfl ?_
 repeat' (first|refine d1 ?_|(show T _ (.ops _ (_::_)::_) _ _ _;first|refine T_val rfl (Val.slice3 rfl rfl (by omega) (by omega) (by omega) (by omega)) rfl rfl rfl ?_|refine T_valC rfl (Val.slice3 rfl rfl (by omega) (by omega) (by omega) (by omega)) rfl rfl rfl rfl rfl ?_)|(show T _ (.run _ _ (_::_) _ _::_) _ _ _;first|refine rv rfl rfl rfl (Val.slice3 rfl rfl (by omega) (by omega) (by omega) (by omega)) rfl rfl rfl ?_|refine rg rfl rfl rfl (Val.slice3 rfl rfl (by omega) (by omega) (by omega) (by omega)) rfl rfl rfl rfl rfl ?_)|(show ∀ _:Nat,T _ _ _ _ _;intro _))
 refine T_if rfl (fun h=>?_) (fun h=>?_)
 ·exfalso;simp only [decide_eq_true_eq] at h;omega
 repeat' (first|refine d1 ?_|(show ∀ _:Nat,T _ _ _ _ _;intro _))
 have hone:∀ q:List Int,oneCells (q.map (Value.int .i64))=true:=fun q=>by induction q with|nil=>rfl|cons x r ih=>exact ih
 obtain⟨j,hj⟩:∃ j,j=((i:Int)+1).toNat:=⟨_,rfl⟩
 have hji:j=i+1:=by omega
 refine rsH [] 1000 [0,1,2,3,4,5,6,7] ?_
 repeat' (first|refine d1 ?_|refine dd ?_|(show ∀ _:Nat,T _ _ _ _ _;intro _))
 refine ro rfl rfl (OpT.appendIn (g:=g) (k:=((i:Nat):Int).toNat) (m:=n - ((i:Int)+1).toNat) (us:=(l.map (Value.int .i64)).drop ((i:Int)+1).toNat) rfl rfl rfl rfl rfl rfl rfl (by omega) (fun w hw=>src_dropT (srcRowT hw (by omega)) _ (by omega) hc) (by rw [← List.map_drop];exact hone _) (by omega) ⟨fun _=>Hle.none _,?_⟩)
 rw [show ((i:Nat):Int).toNat+(n - ((i:Int)+1).toNat)=n - 1 by omega]
 repeat' (first|refine d1 ?_|refine dd ?_|(show ∀ _:Nat,T _ _ _ _ _;intro _))
 have hcut:cutA (some ⟨g,0,none⟩) c ((n - 1:Nat):Int).toNat 1=some ⟨g,((n - 1:Nat):Int).toNat * 1,none⟩:=cutA_at (by omega)
 refine T_op (OpT.clearR (g:=g) (z := .int .i64 0) (off:=((n - 1:Nat):Int).toNat * 1) (n:=n) (k:=((n:Nat):Int).toNat - ((n - 1:Nat):Int).toNat) (A':=cutA (some ⟨g,0,none⟩) c ((n - 1:Nat):Int).toNat 1) (e:=3) (by rfl) (by rfl) (by rfl) (by rfl) (by rfl) (by rfl) (by rfl) (fun _=>hcut) (by omega) ?_)
 have hfin:setL (setL (l.map (Value.int .i64)) ((i:Nat):Int).toNat ((l.map (Value.int .i64)).drop ((i:Int)+1).toNat)) (((n - 1:Nat):Int).toNat * 1) (List.replicate (((n:Nat):Int).toNat - ((n - 1:Nat):Int).toNat) (.int .i64 0))=(l.take i++l.drop (i+1)++[0]).map (Value.int .i64):=by
  rw [show ((i:Nat):Int).toNat=i by omega,show ((i:Int)+1).toNat=i+1 by omega,show ((n - 1:Nat):Int).toNat * 1=n - 1 by omega,show ((n:Nat):Int).toNat - ((n - 1:Nat):Int).toNat=1 by omega]
  have h1:setL (l.map (Value.int .i64)) i ((l.drop (i+1)).map (Value.int .i64))=(l.take i++l.drop (i+1)).map (Value.int .i64)++(l.map (Value.int .i64)).drop (n - 1):=by
   rw [setL_eq _ _ _ (by rw [List.length_map,List.length_map,List.length_drop];omega), ← List.append_assoc,List.map_append,List.map_take,List.length_map,List.length_drop,show i+(l.length - (i+1))=n - 1 by omega]
  have h2:((l.take i++l.drop (i+1)).map (Value.int .i64)).length=n - 1:=by
   rw [List.length_map,List.length_append,List.length_take,List.length_drop];omega
  rw [← List.map_drop,h1,setL_eq _ _ _ (by rw [List.length_append,h2,List.length_drop,List.length_map,List.length_replicate];omega)]
  rw [List.map_append (l₁:=l.take i++l.drop (i+1)) (l₂:=[0])]
  have h3:((l.map (Value.int .i64)).drop (n - 1)).length=1:=by rw [List.length_drop,List.length_map];omega
  generalize (l.take i++l.drop (i+1)).map (Value.int .i64)=X at h2 ⊢
  generalize (l.map (Value.int .i64)).drop (n - 1)=Y at h3 ⊢
  rw [List.take_append_of_le_length (by omega),List.take_of_length_le (by omega)]
  have h4:(X++Y).drop (n - 1+(List.replicate 1 (Value.int .i64 0)).length)=[]:=List.drop_eq_nil_of_le (by rw [List.length_append,h2,h3,List.length_replicate];omega)
  rw [h4]
  rfl
 rw [hfin]
 repeat' (first|refine d1 ?_|refine dd ?_|(show ∀ _:Nat,T _ _ _ _ _;intro _)|(show T _ (.code .ret::_) _ _ _;refine T_retV _ rfl (Hle.refl _) ⟨rfl,rfl⟩))
end Go.Proofs.YtabhdaehomjlgaaGreat
namespace Go.Proofs.YtabhdaehomjlgaaGreat
open Go.RowKit Go.Shelf Go.Proofs
set_option maxRecDepth 100000
set_option maxHeartbeats 1000000

theorem sameName_spec (A1 A2 B1 B2:Option Addr) (n1 c1 n2 c2 m1 d1' m2 d2':Nat) (ns ms:List ByteArray) (x q:Nat) (t1 t2 t3:Nat) (w:World) (h1:RdC w t1 0 [.slice A1 n1 c1, .slice A2 n2 c2]) (h2:RdC w t2 0 [.slice B1 m1 d1', .slice B2 m2 d2']) (h3:RdC w t3 0 [.int .i64 (q:Nat)])
  (hs:Src w 1 A2 n2 (ns.map Value.string)) (hm:Src w 1 B2 m2 (ms.map Value.string)) (hl:ns.length=n2) (hl2:ms.length=m2) (hx:x<n2) (hq:q<m2) :
  Spec Tryz.prog 26 [.int .i64 (x:Nat), .pointer (some ⟨t1,0,none⟩), .pointer (some ⟨t2,0,none⟩), .pointer (some ⟨t3,0,none⟩)] w (fun v R=>v = .bool (decide (ns.getD x ByteArray.empty=ms.getD q ByteArray.empty))∧R=[]):=by
 refine spec_of sg Tryz.func26 rfl rfl rfl ?_
 obtain⟨g1,o1,rfl⟩:=hs.base (by omega)
 obtain⟨g2,o2,rfl⟩:=hm.base (by omega)
 obtain⟨a,ha⟩:∃ a,ns[x]?=some a:=⟨_,List.getElem?_eq_getElem (by omega)⟩
 obtain⟨b,hb⟩:∃ b,ms[q]?=some b:=⟨_,List.getElem?_eq_getElem (by omega)⟩
 have ha1:=src_str hs hx ha
 have hb1:=src_str hm hq hb
 have hc1:RdC w t1 (0+1) [.slice (some ⟨g1,o1,none⟩) n2 c2]:=h1.at rfl
 have hc2:RdC w t2 (0+1) [.slice (some ⟨g2,o2,none⟩) m2 d2']:=h2.at rfl
 rw [List.getD_eq_getElem?_getD,ha,List.getD_eq_getElem?_getD,hb]
 repeat' (first|refine d1 ?_|refine dd ?_|(show T _ (.ops _ (_::_)::_) _ _ _;first|refine T_val rfl (Val.load rfl (fun hg=>rdOld hc1)) rfl rfl rfl ?_|refine T_valC rfl (Val.load rfl (fun hg=>rdOld hc1)) rfl rfl rfl rfl rfl ?_|refine T_val rfl (Val.load rfl (fun hg=>rdOld hc2)) rfl rfl rfl ?_|refine T_valC rfl (Val.load rfl (fun hg=>rdOld hc2)) rfl rfl rfl rfl rfl ?_|refine T_val rfl (Val.load rfl (fun hg=>rdOld h3)) rfl rfl rfl ?_|refine T_valC rfl (Val.load rfl (fun hg=>rdOld h3)) rfl rfl rfl rfl rfl ?_|refine T_val rfl (Val.load rfl (fun hg=>rdOld ha1)) rfl rfl rfl ?_|refine T_valC rfl (Val.load rfl (fun hg=>rdOld ha1)) rfl rfl rfl rfl rfl ?_|refine T_val rfl (Val.load rfl (fun hg=>rdOld hb1)) rfl rfl rfl ?_|refine T_valC rfl (Val.load rfl (fun hg=>rdOld hb1)) rfl rfl rfl rfl rfl ?_)|(show T _ (.run _ _ (_::_) _ _::_) _ _ _;first|refine rv rfl rfl rfl (Val.load rfl (fun hg=>rdOld hc1)) rfl rfl rfl ?_|refine rg rfl rfl rfl (Val.load rfl (fun hg=>rdOld hc1)) rfl rfl rfl rfl rfl ?_|refine rv rfl rfl rfl (Val.load rfl (fun hg=>rdOld hc2)) rfl rfl rfl ?_|refine rg rfl rfl rfl (Val.load rfl (fun hg=>rdOld hc2)) rfl rfl rfl rfl rfl ?_|refine rv rfl rfl rfl (Val.load rfl (fun hg=>rdOld h3)) rfl rfl rfl ?_|refine rg rfl rfl rfl (Val.load rfl (fun hg=>rdOld h3)) rfl rfl rfl rfl rfl ?_|refine rv rfl rfl rfl (Val.load rfl (fun hg=>rdOld ha1)) rfl rfl rfl ?_|refine rg rfl rfl rfl (Val.load rfl (fun hg=>rdOld ha1)) rfl rfl rfl rfl rfl ?_|refine rv rfl rfl rfl (Val.load rfl (fun hg=>rdOld hb1)) rfl rfl rfl ?_|refine rg rfl rfl rfl (Val.load rfl (fun hg=>rdOld hb1)) rfl rfl rfl rfl rfl ?_)|(show ∀ _:Nat,T _ _ _ _ _;intro _)|(show T _ (.code .ret::_) _ _ _;refine T_retV [] rfl (Hle.none _) ⟨rfl,rfl⟩))
end Go.Proofs.YtabhdaehomjlgaaGreat
namespace Go.Proofs.YtabhdaehomjlgaaGreat
open Go.RowKit Go.Shelf
set_option maxRecDepth 100000

theorem asc_uniq:∀ {l m:List Int},l.Pairwise (· < ·)→m.Pairwise (· < ·)→(∀ z,z∈l↔z∈m)→l=m
 | [],[],_,_,_=>rfl
 | [],b::m,_,_,h=>by have:=(h b).2 (.head _);cases this
 | a::l,[],_,_,h=>by have:=(h a).1 (.head _);cases this
 | a::l,b::m,hl,hm,h=>by
  rw [List.pairwise_cons] at hl hm
  have hab:a=b:=by
   rcases List.mem_cons.1 ((h a).1 (.head _)) with e|e
   ·exact e
   ·rcases List.mem_cons.1 ((h b).2 (.head _)) with e2|e2
    ·exact e2.symm
    ·have h1:=hm.1 a e
     have h2:=hl.1 b e2
     omega
  subst hab
  rw [asc_uniq hl.2 hm.2 fun z=>⟨fun hz=>?_,fun hz=>?_⟩]
  ·rcases List.mem_cons.1 ((h z).1 (.tail _ hz)) with e|e
   ·have:=hl.1 z hz;omega
   ·exact e
  ·rcases List.mem_cons.1 ((h z).2 (.tail _ hz)) with e|e
   ·have:=hm.1 z hz;omega
   ·exact e
def setI (n:Nat) (p:Nat→Bool):List Int:=((List.range n).filter p).map fun (i:Nat)=>(i:Int)
theorem setI_mem {n:Nat} {p:Nat→Bool} {z:Int}:z∈setI n p↔∃ i:Nat,i<n∧p i=true∧z=(i:Int):=by
 unfold setI
 rw [List.mem_map]
 constructor
 ·rintro⟨i,hi,rfl⟩
  obtain⟨h1,h2⟩:=List.mem_filter.1 hi
  exact⟨i,List.mem_range.1 h1,h2,rfl⟩
 ·rintro⟨i,h1,h2,rfl⟩
  exact⟨i,List.mem_filter.2 ⟨List.mem_range.2 h1,h2⟩,rfl⟩
theorem setI_asc (n:Nat) (p:Nat→Bool):(setI n p).Pairwise (· < ·):=by
 unfold setI
 rw [List.pairwise_map]
 exact (List.pairwise_lt_range.filter p).imp (fun h=>by omega)
theorem setI_congr {n:Nat} {p q:Nat→Bool} (h:∀ i,i<n→p i=q i):setI n p=setI n q:=by
 unfold setI
 rw [List.filter_congr fun i hi=>h i (List.mem_range.1 hi)]
theorem setI_lo {n:Nat} {p:Nat→Bool} {z:Int} (h:z∈setI n p):0≤z∧z<n:=by
 obtain⟨i,h1,-,rfl⟩:=setI_mem.1 h
 omega
theorem setI_succ (n:Nat) (p:Nat→Bool):setI (n+1) p=setI n p++(if p n=true then [(n:Int)] else []):=by
 unfold setI
 rw [List.range_succ,List.filter_append,List.map_append]
 congr 1
 by_cases h:p n=true
 ·rw [if_pos h,List.filter_cons_of_pos h];rfl
 ·rw [if_neg h,List.filter_cons_of_neg h];rfl
theorem setI_len_le (n:Nat) (p:Nat→Bool):(setI n p).length≤n:=by
 unfold setI
 rw [List.length_map]
 exact Nat.le_trans (List.length_filter_le _ _) (by rw [List.length_range];exact Nat.le_refl _)
theorem setI_at {n k:Nat} {p:Nat→Bool} (hk:k<n) (hp:p k=true):(setI n p)[(setI k p).length]?=some (k:Int):=by
 induction n with
 | zero=>omega
 | succ n ih =>
  rw [setI_succ]
  rcases Nat.lt_or_ge k n with h|h
  ·have:=ih h
   rw [List.getElem?_append_left (List.getElem?_eq_some_iff.1 this).1]
   exact this
  ·obtain rfl:k=n:=by omega
   rw [List.getElem?_append_right (Nat.le_refl _),Nat.sub_self,if_pos hp];rfl
theorem asc_nd {l:List Int} (h:l.Pairwise (· < ·)):l.Nodup:=h.imp (fun h=>by omega)
theorem srt_asc {ys:List Int} (hs:∀ p q,p<q→q<ys.length→ys.getD p 0≤ys.getD q 0) (hnd:ys.Nodup):ys.Pairwise (· < ·):=by
 rw [List.pairwise_iff_getElem]
 intro i j hi hj hij
 have h1:=hs i j hij hj
 rw [List.getD_eq_getElem?_getD,List.getD_eq_getElem?_getD,List.getElem?_eq_getElem hi,List.getElem?_eq_getElem hj] at h1
 have h2:ys[i]≠ys[j]:=List.pairwise_iff_getElem.1 hnd i j hi hj hij
 simp only [Option.getD_some] at h1
 omega
structure setOk (l:List Int):Prop where
 asc:l.Pairwise (· < ·)
 bd:∀ z∈l,0≤z∧z≤63
structure splOk (n:Nat) (l:List Int):Prop where
 asc:l.Pairwise (· < ·)
 bd:∀ z∈l,1≤z∧z<n
 two:2≤l.length
 room:l.length+2≤n
 n32:n≤32
theorem splOk.set {n:Nat} {l:List Int} (h:splOk n l):setOk l:=⟨h.asc,fun z hz=>by have:=h.bd z hz;have:=h.n32;omega⟩
theorem setI_ok {n:Nat} {p:Nat→Bool} (h:n≤64):setOk (setI n p):=⟨setI_asc _ _,fun z hz=>by have:=setI_lo hz;omega⟩
def nrmI (n:Nat) (l:List Int):List Int:=if (0:Int)∈l then setI n (fun i=>decide ((i:Int) ∉ l)) else l
theorem asc_last {l:List Int} (h:l.Pairwise (· < ·)) {k:Nat} {b:Int} (hk:l[k]?=some b) (hl:k+1=l.length):∀ z∈l,z≤b:=fun z hz=>by
 obtain⟨i,hi⟩:=List.mem_iff_getElem?.1 hz
 obtain⟨hi1,hi2⟩:=List.getElem?_eq_some_iff.1 hi
 obtain⟨hk1,hk2⟩:=List.getElem?_eq_some_iff.1 hk
 rcases Nat.lt_or_ge i k with e|e
 ·have:=List.pairwise_iff_getElem.1 h i k hi1 hk1 e;omega
 ·have:i=k:=by omega
  subst this;omega
end Go.Proofs.YtabhdaehomjlgaaGreat
namespace Go.Proofs.YtabhdaehomjlgaaGreat
open Go.RowKit Go.Shelf
set_option maxRecDepth 100000

def cmpLs:List Int→List Int→Int
 | [],[]=>0
 | [],_::_ => -1
 | _::_,[]=>1
 | x::a,y::b=>if cmpI x y≠0 then cmpI x y else cmpLs a b
theorem cmpI_lt {x y:Int}:cmpI x y<0↔x<y:=by unfold cmpI;split <;> (try split) <;> omega
theorem cmpI_zero {x y:Int}:cmpI x y=0↔x=y:=by unfold cmpI;split <;> (try split) <;> omega
theorem cmpI_swap (x y:Int):cmpI y x = - cmpI x y:=by unfold cmpI;split <;> split <;> (try split) <;> (try split) <;> omega
theorem cmpLs_self:∀ a,cmpLs a a=0
 | []=>rfl
 | x::a=>by
  unfold cmpLs
  rw [if_neg (fun h=>h (cmpI_zero.2 rfl))]
  exact cmpLs_self a
theorem cmpLs_swap:∀ a b,cmpLs b a = - cmpLs a b
 | [],[]=>rfl
 | [],_::_=>rfl
 | _::_,[]=>rfl
 | x::a,y::b=>by
  unfold cmpLs
  have h:=cmpI_swap x y
  by_cases h1:cmpI x y≠0
  ·rw [if_pos h1,if_pos (by omega),h]
  ·rw [if_neg h1,if_neg (by omega)]
   exact cmpLs_swap a b
theorem cmpLs_zero:∀ {a b},cmpLs a b=0→a=b
 | [],[],_=>rfl
 | [],_::_,h=>by cases h
 | _::_,[],h=>by cases h
 | x::a,y::b,h=>by
  unfold cmpLs at h
  by_cases h1:cmpI x y≠0
  ·rw [if_pos h1] at h;exact absurd h h1
  ·rw [if_neg h1] at h
   have h2:x=y:=cmpI_zero.1 (Decidable.not_not.1 h1)
   rw [h2,cmpLs_zero h]
theorem cmpLs_trans:∀ {a b c},cmpLs a b≤0→cmpLs b c≤0→cmpLs a c≤0
 | [],_,[],_,_=>by unfold cmpLs;omega
 | [],_,_::_,_,_=>by unfold cmpLs;omega
 | _::_,[],_,h,_=>by unfold cmpLs at h;omega
 | _::_,_::_,[],_,h=>by unfold cmpLs at h;omega
 | x::a,y::b,z::c,h1,h2=>by
  unfold cmpLs at h1 h2 ⊢
  by_cases k1:cmpI x y≠0
  ·rw [if_pos k1] at h1
   have l1:x<y:=cmpI_lt.1 (by omega)
   by_cases k2:cmpI y z≠0
   ·rw [if_pos k2] at h2
    have l2:y<z:=cmpI_lt.1 (by omega)
    have l3:=cmpI_lt.2 (show x<z by omega)
    rw [if_pos (by omega)];omega
   ·have l2:=cmpI_zero.1 (Decidable.not_not.1 k2)
    subst l2
    rw [if_pos k1];exact h1
  ·have l1:=cmpI_zero.1 (Decidable.not_not.1 k1)
   subst l1
   rw [if_neg k1] at h1
   by_cases k2:cmpI x z≠0
   ·rw [if_pos k2] at h2 ⊢;exact h2
   ·rw [if_neg k2] at h2 ⊢
    exact cmpLs_trans h1 h2
def ltLs (a b:List Int):Prop:=cmpLs a b<0
theorem ltLs_uniq {R:List Int→List Int→Prop} (hirr:∀ a,¬ R a a) (hasym:∀ a b,R a b→¬ R b a):∀ {l m:List (List Int)},l.Pairwise R→m.Pairwise R→(∀ z,z∈l↔z∈m)→l=m
 | [],[],_,_,_=>rfl
 | [],b::m,_,_,h=>by have:=(h b).2 (.head _);cases this
 | a::l,[],_,_,h=>by have:=(h a).1 (.head _);cases this
 | a::l,b::m,hl,hm,h=>by
  rw [List.pairwise_cons] at hl hm
  have hab:a=b:=by
   rcases List.mem_cons.1 ((h a).1 (.head _)) with e|e
   ·exact e
   ·rcases List.mem_cons.1 ((h b).2 (.head _)) with e2|e2
    ·exact e2.symm
    ·exact absurd (hl.1 b e2) (hasym _ _ (hm.1 a e))
  subst hab
  rw [ltLs_uniq hirr hasym hl.2 hm.2 fun z=>⟨fun hz=>?_,fun hz=>?_⟩]
  ·rcases List.mem_cons.1 ((h z).1 (.tail _ hz)) with e|e
   ·subst e;exact absurd (hl.1 z hz) (hirr z)
   ·exact e
  ·rcases List.mem_cons.1 ((h z).2 (.tail _ hz)) with e|e
   ·subst e;exact absurd (hm.1 z hz) (hirr z)
   ·exact e

def plS (names:List ByteArray) (x:Nd):List Int:=setI names.length fun k=>has22 (nmsN x) (names.getD k ByteArray.empty)
theorem plS_mem {names:List ByteArray} {x:Nd} {z:Int}:z∈plS names x↔∃ k a,names[k]?=some a∧a∈nmsN x∧z=(k:Nat):=by
 unfold plS
 rw [setI_mem]
 constructor
 ·rintro⟨i,h1,h2,rfl⟩
  rw [has22_iff,List.getD_eq_getElem?_getD,List.getElem?_eq_getElem h1] at h2
  exact⟨i,_,List.getElem?_eq_getElem h1,h2,rfl⟩
 ·rintro⟨k,a,h1,h2,rfl⟩
  refine ⟨k,(List.getElem?_eq_some_iff.1 h1).1,?_,rfl⟩
  rw [has22_iff,List.getD_eq_getElem?_getD,h1];exact h2
theorem nodup_at {α:Type} {l:List α} (h:l.Nodup) {i j:Nat} {a:α} (hi:l[i]?=some a) (hj:l[j]?=some a):i=j:=by
 obtain⟨h1,h2⟩:=List.getElem?_eq_some_iff.1 hi
 obtain⟨h3,h4⟩:=List.getElem?_eq_some_iff.1 hj
 rcases Nat.lt_trichotomy i j with e|e|e
 ·exact absurd (h2.trans h4.symm) (List.pairwise_iff_getElem.1 h i j h1 h3 e)
 ·exact e
 ·exact absurd (h4.trans h2.symm) (List.pairwise_iff_getElem.1 h j i h3 h1 e)
theorem plS_leaf {names:List ByteArray} (hnd:names.Nodup) {a:ByteArray} {o:Int} {k:Nat} (hk:names[k]?=some a):plS names (.mk a o [])=[(k:Int)]:=by
 refine asc_uniq (setI_asc _ _) (List.pairwise_singleton _ _) fun z=>?_
 rw [List.mem_singleton]
 refine plS_mem.trans ?_
 constructor
 ·rintro⟨j,b,h1,h2,rfl⟩
  rw [nmsN_leaf,List.mem_singleton] at h2
  subst h2
  rw [nodup_at hnd h1 hk]
 ·rintro rfl
  exact⟨k,a,hk,by rw [nmsN_leaf];exact .head _,rfl⟩
theorem plS_kids {names:List ByteArray} {a:ByteArray} {o:Int} {ks:List Nd} (h:ks≠[]) {z:Int}:z∈plS names (.mk a o ks)↔z∈ks.flatMap (plS names):=by
 rw [List.mem_flatMap]
 refine plS_mem.trans ?_
 rw [nmsN_node h]
 constructor
 ·rintro⟨j,b,h1,h2,rfl⟩
  obtain⟨k,hk,hb⟩:=List.mem_flatMap.1 h2
  exact⟨k,hk,plS_mem.2 ⟨j,b,h1,hb,rfl⟩⟩
 ·rintro⟨k,hk,hz⟩
  obtain⟨j,b,h1,h2,rfl⟩:=plS_mem.1 hz
  exact⟨j,b,h1,List.mem_flatMap.2 ⟨k,hk,h2⟩,rfl⟩
theorem plS_nodup {names:List ByteArray}:∀ {ks:List Nd},(ks.flatMap nmsN).Nodup→(ks.flatMap (plS names)).Nodup
 | [],_=>List.nodup_nil
 | k::r,h=>by
  rw [List.flatMap_cons,List.nodup_append] at h
  obtain⟨-,h2,h3⟩:=h
  rw [List.flatMap_cons,List.nodup_append]
  refine ⟨asc_nd (setI_asc _ _),plS_nodup h2,fun x hx y hy e=>?_⟩
  subst e
  obtain⟨u,hu,hz⟩:=List.mem_flatMap.1 hy
  obtain⟨i,a,h4,h5,rfl⟩:=plS_mem.1 hx
  obtain⟨j,b,h6,h7,h8⟩:=plS_mem.1 hz
  have:i=j:=by omega
  subst this
  rw [h4] at h6
  cases h6
  exact h3 a h5 a (List.mem_flatMap.2 ⟨u,hu,h7⟩) rfl
theorem srt_plS {names:List ByteArray} {a:ByteArray} {o:Int} {ks:List Nd} (h:ks≠[]) (hnd:(ks.flatMap nmsN).Nodup) {ys:List Int} (hp:ys.Perm (ks.flatMap (plS names))) (hs:∀ p q,p<q→q<ys.length→ys.getD p 0≤ys.getD q 0):ys=plS names (.mk a o ks):=by
 refine asc_uniq (srt_asc hs (hp.nodup_iff.2 (plS_nodup hnd))) (setI_asc _ _) fun z=>?_
 rw [hp.mem_iff]
 exact (plS_kids h).symm
theorem nd_len:∀ (n:Nat) {l:List Int},l.Nodup→(∀ z∈l,0≤z∧z<n)→l.length≤n
 | 0,l,_,h=>by
  cases l with
  | nil=>exact Nat.le_refl _
  | cons z l=>have:=h z (.head _);omega
 | n+1,l,hnd,h=>by
  by_cases hm:(n:Int)∈l
  ·have h1:=nd_len n (l:=l.erase (n:Int)) (hnd.erase _) fun z hz=>by
    rw [hnd.mem_erase_iff] at hz
    have:=h z hz.2
    have:=hz.1
    omega
   rw [List.length_erase_of_mem hm] at h1
   omega
  ·have h1:=nd_len n hnd fun z hz=>by
    have h2:=h z hz
    have h3:z≠(n:Int):=fun e=>hm (e ▸ hz)
    omega
   omega
theorem flat_lenC {α β:Type} {f:α→List β} {c:Nat}:∀ {l:List α},(∀ x∈l,(f x).length≤c)→(l.flatMap f).length≤l.length * c
 | [],_=>Nat.zero_le _
 | x::l,h=>by
  rw [List.flatMap_cons,List.length_append,List.length_cons,Nat.add_mul]
  have h1:=h x (.head _)
  have h2:=flat_lenC (f:=f) (l:=l) fun y hy=>h y (.tail _ hy)
  omega
theorem kdsI_len (ps:List Int) (i m:Nat):(kdsI ps i m).length≤m:=by
 unfold kdsI
 exact Nat.le_trans (List.length_filter_le _ _) (by rw [List.length_range];exact Nat.le_refl _)
theorem kdsI_end {ps:List Int} (h:upT ps) {i:Nat} (hi:ps.length≤i+1):kdsI ps i ps.length=[]:=by
 refine List.eq_nil_iff_forall_not_mem.2 fun j hj=>?_
 have h1:=h.gt (Nat.le_refl _) hj
 have h2:=(kdsI_mem.1 hj).1
 omega
theorem ndF_fuel {ps:List Int} {ns:List ByteArray} (h:upT ps):∀ f g i,ps.length≤f+i+1→ps.length≤g+i+1→ndF ps ns f i=ndF ps ns g i
 | 0,0,_,_,_=>rfl
 | 0,g+1,i,h1,_=>by rw [ndF,ndF,kdsI_end h (by omega)];rfl
 | f+1,0,i,_,h2=>by rw [ndF,ndF,kdsI_end h (by omega)];rfl
 | f+1,g+1,i,h1,h2=>by
  rw [ndF,ndF]
  congr 1
  refine List.map_congr_left fun k hk=>?_
  have:=h.gt (Nat.le_refl _) hk
  exact ndF_fuel h f g k (by omega) (by omega)
def ndT (ps:List Int) (ns:List ByteArray) (i:Nat):Nd:=ndF ps ns ps.length i
theorem ndT_eq {ps:List Int} {ns:List ByteArray} (h:upT ps) (i:Nat):ndT ps ns i = .mk (ns.getD i ByteArray.empty) (i:Nat) ((kdsI ps i ps.length).map (ndT ps ns)):=by
 unfold ndT
 rw [ndF_fuel h ps.length (ps.length+1) i (by omega) (by omega),ndF]
def pst (ps:List Int) (n:Nat):Nat→Nat→List Nat
 | 0,i=>[i]
 | f+1,i=>(kdsI ps i n).flatMap (pst ps n f)++[i]
theorem pst_fuel {ps:List Int} (h:upT ps):∀ f g i,ps.length≤f+i+1→ps.length≤g+i+1→pst ps ps.length f i=pst ps ps.length g i
 | 0,0,_,_,_=>rfl
 | 0,g+1,i,h1,_=>by rw [pst,pst,kdsI_end h (by omega)];rfl
 | f+1,0,i,_,h2=>by rw [pst,pst,kdsI_end h (by omega)];rfl
 | f+1,g+1,i,h1,h2=>by
  rw [pst,pst]
  congr 1
  refine flatMap_congr' fun k hk=>?_
  have:=h.gt (Nat.le_refl _) hk
  exact pst_fuel h f g k (by omega) (by omega)
def pstT (ps:List Int) (i:Nat):List Nat:=pst ps ps.length ps.length i
theorem pstT_eq {ps:List Int} (h:upT ps) (i:Nat):pstT ps i=(kdsI ps i ps.length).flatMap (pstT ps)++[i]:=by
 show pst ps ps.length ps.length i=_
 rw [pst_fuel h ps.length (ps.length+1) i (by omega) (by omega),pst]
 rfl
theorem pst_dsc (ps:List Int) (n:Nat):∀ f i,(pst ps n f i).Perm (dsc ps n f i)
 | 0,_=>List.Perm.refl _
 | f+1,i=>by
  rw [pst,dsc]
  exact (List.perm_append_comm).trans ((flatMap_perm2 fun k _=>pst_dsc ps n f k).cons i)
def belT (ps:List Int):List Nat:=(kdsI ps 0 ps.length).flatMap (pstT ps)
theorem belT_perm {ps:List Int} (h:upT ps) (h0:0<ps.length):(belT ps++[0]).Perm (List.range ps.length):=by
 have h1:=pstT_eq h 0
 unfold belT
 rw [← h1]
 exact (pst_dsc ps ps.length ps.length 0).trans (dsc_perm h h0 (Nat.le_succ _))
theorem belT_mem {ps:List Int} (h:upT ps) (h0:0<ps.length) {i:Nat}:i∈belT ps↔0<i∧i<ps.length:=by
 have hp:=belT_perm h h0
 have hnd:=hp.nodup_iff.2 List.nodup_range
 rw [List.nodup_append] at hnd
 constructor
 ·intro hi
  have h1:=hp.mem_iff.1 (List.mem_append_left _ hi)
  have h2:=hnd.2.2 i hi 0 (.head _)
  exact⟨Nat.pos_of_ne_zero h2,List.mem_range.1 h1⟩
 ·rintro⟨h1,h2⟩
  rcases List.mem_append.1 (hp.mem_iff.2 (List.mem_range.2 h2)) with h3|h3
  ·exact h3
  ·rw [List.mem_singleton] at h3;omega
theorem belT_len {ps:List Int} (h:upT ps) (h0:0<ps.length):(belT ps).length+1=ps.length:=by
 have:=(belT_perm h h0).length_eq
 rw [List.length_append,List.length_range] at this
 exact this
structure ofOk (ps:List Int) (ns names:List ByteArray) (L:List (List Int)):Prop where
 asc:L.Pairwise ltLs
 mem:∀ s,s∈L↔splOk names.length s∧∃ i,0<i∧i<ps.length∧s=nrmI names.length (plS names (ndT ps ns i))
end Go.Proofs.YtabhdaehomjlgaaGreat
namespace Go.Proofs.YtabhdaehomjlgaaGreat
open Go.RowKit Go.Shelf
set_option maxRecDepth 100000

instance (n:Nat) (l:List Int):Decidable (splOk n l) :=
 decidable_of_iff (l.Pairwise (· < ·)∧(∀ z∈l,1≤z∧z<(n:Int))∧2≤l.length∧l.length+2≤n∧n≤32) ⟨fun⟨a,b,c,d,e⟩=>⟨a,b,c,d,e⟩,fun⟨a,b,c,d,e⟩=>⟨a,b,c,d,e⟩⟩
def ffI (ps:List Int) (ns names:List ByteArray) (i:Nat):List (List Int):=if splOk names.length (nrmI names.length (plS names (ndT ps ns i))) then [nrmI names.length (plS names (ndT ps ns i))] else []
theorem ffI_mem {ps:List Int} {ns names:List ByteArray} {i:Nat} {s:List Int}:s∈ffI ps ns names i↔splOk names.length s∧s=nrmI names.length (plS names (ndT ps ns i)):=by
 unfold ffI
 split
 ·rename_i h
  rw [List.mem_singleton]
  exact⟨fun e=>by subst e;exact⟨h,rfl⟩,fun e=>e.2⟩
 ·rename_i h
  exact⟨fun e=>(by cases e),fun e=>by rw [e.2] at e;exact absurd e.1 h⟩
theorem setI_all (n:Nat):(setI n fun _=>true).length=n:=by
 unfold setI
 rw [List.filter_eq_self.2 fun _ _=>rfl,List.length_map,List.length_range]
theorem ffI_leaf {ps:List Int} {ns names:List ByteArray} (h:upT ps) (hnd:names.Nodup) {i:Nat} (h0:kdsI ps i ps.length=[]) (hin:ns.getD i ByteArray.empty∈names):ffI ps ns names i=[]:=by
 obtain⟨k,hk⟩:=List.mem_iff_getElem?.1 hin
 have hkl:=(List.getElem?_eq_some_iff.1 hk).1
 have e:plS names (ndT ps ns i)=[(k:Int)]:=by
  rw [ndT_eq h,h0]
  exact plS_leaf hnd hk
 unfold ffI
 rw [e,if_neg]
 intro hs
 unfold nrmI at hs
 split at hs
 ·rename_i h9
  rw [List.mem_singleton] at h9
  have hk0:k=0:=by omega
  subst hk0
  have h2:(0:Int)::setI names.length (fun i=>decide ((i:Int) ∉ [((0:Nat):Int)]))=setI names.length fun _=>true:=by
   refine asc_uniq (List.pairwise_cons.2 ⟨fun z hz=>?_,setI_asc _ _⟩) (setI_asc _ _) fun z=>?_
   ·obtain⟨j,h3,h4,rfl⟩:=setI_mem.1 hz
    rw [decide_eq_true_eq,List.mem_singleton] at h4
    omega
   ·rw [List.mem_cons,setI_mem,setI_mem]
    constructor
    ·rintro (rfl|⟨j,h3,-,rfl⟩)
     ·exact⟨0,hkl,rfl,rfl⟩
     ·exact⟨j,h3,rfl,rfl⟩
    ·rintro⟨j,h3,-,rfl⟩
     by_cases hj:j=0
     ·subst hj;exact .inl rfl
     ·refine .inr ⟨j,h3,?_,rfl⟩
      rw [decide_eq_true_eq,List.mem_singleton]
      omega
  have h3:=congrArg List.length h2
  rw [List.length_cons,setI_all] at h3
  have:=hs.room
  omega
 ·have:=hs.two
  simp at this
theorem flat_cnt {α β:Type} {f:α→List β} {q:α→Bool}:∀ {l:List α},(∀ x∈l,q x=false→f x=[])→(∀ x∈l,(f x).length≤1)→(l.flatMap f).length≤(l.filter q).length
 | [],_,_=>Nat.le_refl _
 | x::l,h1,h2=>by
  have ih:=flat_cnt (f:=f) (q:=q) (l:=l) (fun y hy=>h1 y (.tail _ hy)) (fun y hy=>h2 y (.tail _ hy))
  rw [List.flatMap_cons,List.length_append]
  cases hq:q x with
  | true=>rw [List.filter_cons_of_pos hq,List.length_cons];have:=h2 x (.head _);omega
  | false=>rw [List.filter_cons_of_neg (by rw [hq];decide),h1 x (.head _) hq];exact Nat.le_trans (by simp) ih
theorem len_partC {α:Type} (q:α→Bool):∀ l:List α,l.length=(l.filter q).length+(l.filter fun x => !q x).length
 | []=>rfl
 | x::l=>by
  have ih:=len_partC q l
  cases hq:q x with
  | true=>rw [List.filter_cons_of_pos hq,List.filter_cons_of_neg (by rw [hq];decide),List.length_cons,List.length_cons];omega
  | false=>rw [List.filter_cons_of_neg (by rw [hq];decide),List.filter_cons_of_pos (by rw [hq];rfl),List.length_cons,List.length_cons];omega
theorem ffI_bound {ps:List Int} {ns names:List ByteArray} (h:upT ps) (h0:0<ps.length) (hnd:names.Nodup) (hin:∀ i,i<ps.length→kdsI ps i ps.length=[]→ns.getD i ByteArray.empty∈names) (hl:((List.range ps.length).filter (lfB ps)).length=names.length) (hn:ps.length≤names.length+13) :
  ((belT ps).flatMap (ffI ps ns names)).length≤12:=by
 have h1:((belT ps).flatMap (ffI ps ns names)).length≤((belT ps).filter fun i => !lfB ps i).length:=by
  refine flat_cnt (fun i hi hq=>?_) (fun i _=>?_)
  ·have h2:=(belT_mem h h0).1 hi
   have h3:lfB ps i=true:=by simpa using hq
   have h4:kdsI ps i ps.length=[]:=List.isEmpty_iff.1 h3
   exact ffI_leaf h hnd h4 (hin i h2.2 h4)
  ·unfold ffI;split
   ·exact Nat.le_refl _
   ·exact Nat.zero_le _
 have h2:=(belT_perm h h0).filter fun i => !lfB ps i
 have h3:=h2.length_eq
 rw [List.filter_append,List.length_append] at h3
 have h4:=len_partC (lfB ps) (List.range ps.length)
 rw [List.length_range,hl] at h4
 rcases Nat.lt_or_ge 1 ps.length with h5|h5
 ·have h6:lfB ps 0=false:=by
   have h7:=h.up 1 (Nat.succ_pos _) h5
   have h8:(1:Nat)∈kdsI ps 0 ps.length:=kdsI_mem.2 ⟨h5,by omega⟩
   unfold lfB
   cases hk:kdsI ps 0 ps.length with
   | nil=>rw [hk] at h8;cases h8
   | cons a l=>rfl
  have h7:([0].filter fun i => !lfB ps i).length=1:=by rw [List.filter_cons_of_pos (by rw [h6];rfl)];rfl
  omega
 ·have h6:=belT_len h h0
  have h7:((belT ps).filter fun i => !lfB ps i).length≤(belT ps).length:=List.length_filter_le _ _
  omega
end Go.Proofs.YtabhdaehomjlgaaGreat
namespace Go.Proofs.YtabhdaehomjlgaaGreat
open Go.RowKit Go.Shelf Go.Proofs
set_option maxRecDepth 100000
set_option maxHeartbeats 1000000

theorem isNaNS_spec (z:Int) (w:World):Spec Tryz.prog 169 [.int .i64 z] w (fun v R=>v = .bool false∧R=[]):=by
 refine spec_of sg Tryz.func169 rfl rfl rfl ?_
 repeat' (first|refine d1 ?_|refine dd ?_|(show ∀ _:Nat,T _ _ _ _ _;intro _)|(show T _ (.code .ret::_) _ _ _;refine T_retV [] rfl (Hle.none _) ⟨by simp;rfl,rfl⟩))
theorem shr1 (a:Int) (h:0≤a):shrV .u64 a 1=a / 2:=by
 unfold shrV
 exact Int.fdiv_eq_ediv_of_nonneg a (by decide)
theorem asc_le {l:List Int} (h:l.Pairwise (· < ·)) {i j:Nat} {x y:Int} (hx:l[i]?=some x) (hy:l[j]?=some y) (hij:i≤j):x≤y:=by
 obtain⟨h1,h2⟩:=List.getElem?_eq_some_iff.1 hx
 obtain⟨h3,h4⟩:=List.getElem?_eq_some_iff.1 hy
 rcases Nat.lt_or_ge i j with e|e
 ·have:=List.pairwise_iff_getElem.1 h i j h1 h3 e;omega
 ·have:i=j:=by omega
  subst this;omega
theorem bsearchI_spec (A:Option Addr) (n c:Nat) (xs:List Int) (z:Int) (w:World) (hs:Src w 1 A n (xs.map (Value.int .i64))) (hn:xs.length=n) (hb:n≤1000000) (hasc:xs.Pairwise (· < ·)) :
  Spec Tryz.prog 138 [.slice A n c, .int .i64 z] w (fun v R=>∃ k:Int,v = .tuple #[.int .i64 k, .bool (decide (z∈xs))]∧R=[]):=by
 refine spec_of sg Tryz.func138 rfl rfl rfl ?_
 repeat' (first|refine d1 ?_|refine dd ?_|(show ∀ _:Nat,T _ _ _ _ _;intro _))
 refine T_loopX (fun s:Nat × Nat=>[(7, .int .i64 (s.1:Nat)),(8, .int .i64 (s.2:Nat))]) (fun _=>[]) (fun s=>(s.1≤s.2∧s.2≤n)∧(∀ p x,p<s.1→xs[p]?=some x→x<z)∧∀ p x,s.2≤p→xs[p]?=some x→z≤x) (fun s=>s.2 - s.1) (0,n) ⟨⟨Nat.zero_le _,Nat.le_refl _⟩,fun p x h=>by dsimp only at h;omega,fun p x h hx=>by have:=(List.getElem?_eq_some_iff.1 hx).1;dsimp only at h;omega⟩ ?_
 rintro⟨i,j⟩ ⟨⟨hij,hjn⟩,hlo,hhi⟩
 dsimp only at hij hjn hlo hhi ⊢
 repeat' (first|refine d1 ?_|refine dd ?_|(show ∀ _:Nat,T _ _ _ _ _;intro _))
 refine T_if rfl (fun h=>?_) (fun h=>?_)
 ·simp only [decide_eq_true_eq] at h
  obtain⟨b,o,rfl⟩:=hs.base (by omega)
  repeat' (first|refine d1 ?_|(show T _ (.ops _ (_::_)::_) _ _ _;first|refine T_val rfl (Val.bits rfl (fun _=>by omega)) rfl rfl rfl ?_|refine T_valC rfl (Val.bits rfl (fun _=>by omega)) rfl rfl rfl rfl rfl ?_)|(show T _ (.run _ _ (_::_) _ _::_) _ _ _;first|refine rv rfl rfl rfl (Val.bits rfl (fun _=>by omega)) rfl rfl rfl ?_|refine rg rfl rfl rfl (Val.bits rfl (fun _=>by omega)) rfl rfl rfl rfl rfl ?_)|(show ∀ _:Nat,T _ _ _ _ _;intro _))
  rw [shr1 _ (by omega)]
  obtain⟨m,hm,hm1,hm2⟩:∃ m:Nat,((i:Int)+(j:Int)) / 2=(m:Int)∧i≤m∧m<j:=⟨(i+j) / 2,by omega,by omega,by omega⟩
  rw [hm]
  obtain⟨x,hx⟩:∃ x,xs[m]?=some x:=⟨_,List.getElem?_eq_getElem (by omega)⟩
  have hr:=src_int hs (k:=m) (by omega) hx
  repeat' (first|refine d1 ?_|refine dd ?_|(show T _ (.ops _ (_::_)::_) _ _ _;first|refine T_val rfl (Val.load rfl (fun hg=>rdOld hr)) rfl rfl rfl ?_|refine T_valC rfl (Val.load rfl (fun hg=>rdOld hr)) rfl rfl rfl rfl rfl ?_|refine T_call rfl rfl rfl rfl rfl (fun w hw=>lessI_spec x z w) ?_|refine T_callC rfl rfl rfl rfl rfl rfl rfl (fun hg w hw=>lessI_spec x z w) ?_)|(show T _ (.run _ _ (_::_) _ _::_) _ _ _;first|refine rv rfl rfl rfl (Val.load rfl (fun hg=>rdOld hr)) rfl rfl rfl ?_|refine rg rfl rfl rfl (Val.load rfl (fun hg=>rdOld hr)) rfl rfl rfl rfl rfl ?_|refine rc rfl rfl rfl rfl rfl rfl rfl (fun w hw=>lessI_spec x z w) ?_|refine rcG rfl rfl rfl rfl rfl rfl rfl rfl rfl (fun hg w hw=>lessI_spec x z w) ?_)|(show ∀ _:Nat,T _ _ _ _ _;intro _))
  refine T_if rfl (fun h4=>?_) (fun h4=>?_)
  ·simp only [decide_eq_true_eq] at h4
   repeat' (first|refine d1 ?_|refine dd ?_|(show ∀ _:Nat,T _ _ _ _ _;intro _))
   refine T_backX (m+1,j) ⟨⟨by dsimp only;omega,hjn⟩,fun p y hp hy=>?_,hhi⟩ (by dsimp only;omega)
   dsimp only at hp
   have:=asc_le hasc hy hx (by omega)
   omega
  ·simp only [decide_eq_false_iff_not] at h4
   repeat' (first|refine d1 ?_|refine dd ?_|(show ∀ _:Nat,T _ _ _ _ _;intro _))
   refine T_backX (i,m) ⟨⟨by dsimp only;omega,by dsimp only;omega⟩,hlo,fun p y hp hy=>?_⟩ (by dsimp only;omega)
   dsimp only at hp
   have:=asc_le hasc hx hy (by omega)
   omega
 ·simp only [decide_eq_false_iff_not] at h
  obtain rfl:i=j:=by omega
  by_cases hin:i<n
  ·obtain⟨b,o,rfl⟩:=hs.base (by omega)
   obtain⟨x,hx⟩:∃ x,xs[i]?=some x:=⟨_,List.getElem?_eq_getElem (by omega)⟩
   have hr:=src_int hs (k:=i) (by omega) hx
   repeat' (first|refine d1 ?_|refine dd ?_|(show T _ (.ops _ (_::_)::_) _ _ _;first|refine T_val rfl (Val.load rfl (fun hg=>rdOld hr)) rfl rfl rfl ?_|refine T_valC rfl (Val.load rfl (fun hg=>rdOld hr)) rfl rfl rfl rfl rfl ?_|refine T_call rfl rfl rfl rfl rfl (fun w hw=>isNaNS_spec x w) ?_|refine T_callC rfl rfl rfl rfl rfl rfl rfl (fun hg w hw=>isNaNS_spec x w) ?_|refine T_call rfl rfl rfl rfl rfl (fun w hw=>isNaNS_spec z w) ?_|refine T_callC rfl rfl rfl rfl rfl rfl rfl (fun hg w hw=>isNaNS_spec z w) ?_)|(show T _ (.run _ _ (_::_) _ _::_) _ _ _;first|refine rv rfl rfl rfl (Val.load rfl (fun hg=>rdOld hr)) rfl rfl rfl ?_|refine rg rfl rfl rfl (Val.load rfl (fun hg=>rdOld hr)) rfl rfl rfl rfl rfl ?_|refine rc rfl rfl rfl rfl rfl rfl rfl (fun w hw=>isNaNS_spec x w) ?_|refine rcG rfl rfl rfl rfl rfl rfl rfl rfl rfl (fun hg w hw=>isNaNS_spec x w) ?_|refine rc rfl rfl rfl rfl rfl rfl rfl (fun w hw=>isNaNS_spec z w) ?_|refine rcG rfl rfl rfl rfl rfl rfl rfl rfl rfl (fun hg w hw=>isNaNS_spec z w) ?_)|(show ∀ _:Nat,T _ _ _ _ _;intro _)|(show T _ (.code .ret::_) _ _ _;refine T_retV [] rfl (Hle.none _) ⟨(i:Nat),?_,rfl⟩))
   have e1:decide (z∈xs)=decide (x=z):=by
    rw [decide_eq_decide]
    constructor
    ·intro hz
     obtain⟨q,hq⟩:=List.mem_iff_getElem?.1 hz
     have h1:=hhi i x (Nat.le_refl _) hx
     rcases Nat.lt_or_ge q i with e|e
     ·have:=hlo q z e hq;omega
     ·have:=asc_le hasc hx hq e;omega
    ·rintro rfl;exact List.mem_of_getElem? hx
   rw [e1]
   have e2:decide ((i:Int)<(n:Int))=true:=by rw [decide_eq_true_eq];omega
   rw [e2,Bool.true_and,Bool.false_and,Bool.or_false]
   rfl
  ·repeat' (first|refine d1 ?_|refine dd ?_|(show T _ (.ops _ (_::_)::_) _ _ _;first|refine T_val rfl (Val.neverP rfl (fun hg=>by exfalso;first|((simp only [List.cons_append,List.nil_append,GP,dstL,lookE,Nat.beq,cond,List.getElem?_cons_zero,List.getElem?_cons_succ,Option.bind_some,and_true,Bool.and_eq_true,Bool.or_eq_true,Bool.and_eq_false_iff,Bool.or_eq_false_iff,Bool.not_eq_true',Bool.not_eq_false',decide_eq_true_eq,decide_eq_false_iff_not] at hg);done)|((simp only [List.cons_append,List.nil_append,GP,dstL,lookE,Nat.beq,cond,List.getElem?_cons_zero,List.getElem?_cons_succ,Option.bind_some,and_true,Bool.and_eq_true,Bool.or_eq_true,Bool.and_eq_false_iff,Bool.or_eq_false_iff,Bool.not_eq_true',Bool.not_eq_false',decide_eq_true_eq,decide_eq_false_iff_not] at hg);omega))) rfl rfl rfl ?_|refine T_valC rfl (Val.neverP rfl (fun hg=>by exfalso;first|((simp only [List.cons_append,List.nil_append,GP,dstL,lookE,Nat.beq,cond,List.getElem?_cons_zero,List.getElem?_cons_succ,Option.bind_some,and_true,Bool.and_eq_true,Bool.or_eq_true,Bool.and_eq_false_iff,Bool.or_eq_false_iff,Bool.not_eq_true',Bool.not_eq_false',decide_eq_true_eq,decide_eq_false_iff_not] at hg);done)|((simp only [List.cons_append,List.nil_append,GP,dstL,lookE,Nat.beq,cond,List.getElem?_cons_zero,List.getElem?_cons_succ,Option.bind_some,and_true,Bool.and_eq_true,Bool.or_eq_true,Bool.and_eq_false_iff,Bool.or_eq_false_iff,Bool.not_eq_true',Bool.not_eq_false',decide_eq_true_eq,decide_eq_false_iff_not] at hg);omega))) rfl rfl rfl rfl rfl ?_|refine T_val rfl (Val.neverI rfl (fun hg=>by exfalso;first|((simp only [List.cons_append,List.nil_append,GP,dstL,lookE,Nat.beq,cond,List.getElem?_cons_zero,List.getElem?_cons_succ,Option.bind_some,and_true,Bool.and_eq_true,Bool.or_eq_true,Bool.and_eq_false_iff,Bool.or_eq_false_iff,Bool.not_eq_true',Bool.not_eq_false',decide_eq_true_eq,decide_eq_false_iff_not] at hg);done)|((simp only [List.cons_append,List.nil_append,GP,dstL,lookE,Nat.beq,cond,List.getElem?_cons_zero,List.getElem?_cons_succ,Option.bind_some,and_true,Bool.and_eq_true,Bool.or_eq_true,Bool.and_eq_false_iff,Bool.or_eq_false_iff,Bool.not_eq_true',Bool.not_eq_false',decide_eq_true_eq,decide_eq_false_iff_not] at hg);omega))) rfl rfl rfl ?_|refine T_valC rfl (Val.neverI rfl (fun hg=>by exfalso;first|((simp only [List.cons_append,List.nil_append,GP,dstL,lookE,Nat.beq,cond,List.getElem?_cons_zero,List.getElem?_cons_succ,Option.bind_some,and_true,Bool.and_eq_true,Bool.or_eq_true,Bool.and_eq_false_iff,Bool.or_eq_false_iff,Bool.not_eq_true',Bool.not_eq_false',decide_eq_true_eq,decide_eq_false_iff_not] at hg);done)|((simp only [List.cons_append,List.nil_append,GP,dstL,lookE,Nat.beq,cond,List.getElem?_cons_zero,List.getElem?_cons_succ,Option.bind_some,and_true,Bool.and_eq_true,Bool.or_eq_true,Bool.and_eq_false_iff,Bool.or_eq_false_iff,Bool.not_eq_true',Bool.not_eq_false',decide_eq_true_eq,decide_eq_false_iff_not] at hg);omega))) rfl rfl rfl rfl rfl ?_|refine T_op (OpT.never (.bool false) rfl (fun hg=>by first|((simp only [List.cons_append,List.nil_append,GP,dstL,lookE,Nat.beq,cond,List.getElem?_cons_zero,List.getElem?_cons_succ,Option.bind_some,and_true,Bool.and_eq_true,Bool.or_eq_true,Bool.and_eq_false_iff,Bool.or_eq_false_iff,Bool.not_eq_true',Bool.not_eq_false',decide_eq_true_eq,decide_eq_false_iff_not] at hg);done)|((simp only [List.cons_append,List.nil_append,GP,dstL,lookE,Nat.beq,cond,List.getElem?_cons_zero,List.getElem?_cons_succ,Option.bind_some,and_true,Bool.and_eq_true,Bool.or_eq_true,Bool.and_eq_false_iff,Bool.or_eq_false_iff,Bool.not_eq_true',Bool.not_eq_false',decide_eq_true_eq,decide_eq_false_iff_not] at hg);omega)) rfl rfl rfl rfl rfl ?_))|(show T _ (.run _ _ (_::_) _ _::_) _ _ _;first|refine rv rfl rfl rfl (Val.neverP rfl (fun hg=>by exfalso;first|((simp only [List.cons_append,List.nil_append,GP,dstL,lookE,Nat.beq,cond,List.getElem?_cons_zero,List.getElem?_cons_succ,Option.bind_some,and_true,Bool.and_eq_true,Bool.or_eq_true,Bool.and_eq_false_iff,Bool.or_eq_false_iff,Bool.not_eq_true',Bool.not_eq_false',decide_eq_true_eq,decide_eq_false_iff_not] at hg);done)|((simp only [List.cons_append,List.nil_append,GP,dstL,lookE,Nat.beq,cond,List.getElem?_cons_zero,List.getElem?_cons_succ,Option.bind_some,and_true,Bool.and_eq_true,Bool.or_eq_true,Bool.and_eq_false_iff,Bool.or_eq_false_iff,Bool.not_eq_true',Bool.not_eq_false',decide_eq_true_eq,decide_eq_false_iff_not] at hg);omega))) rfl rfl rfl ?_|refine rg rfl rfl rfl (Val.neverP rfl (fun hg=>by exfalso;first|((simp only [List.cons_append,List.nil_append,GP,dstL,lookE,Nat.beq,cond,List.getElem?_cons_zero,List.getElem?_cons_succ,Option.bind_some,and_true,Bool.and_eq_true,Bool.or_eq_true,Bool.and_eq_false_iff,Bool.or_eq_false_iff,Bool.not_eq_true',Bool.not_eq_false',decide_eq_true_eq,decide_eq_false_iff_not] at hg);done)|((simp only [List.cons_append,List.nil_append,GP,dstL,lookE,Nat.beq,cond,List.getElem?_cons_zero,List.getElem?_cons_succ,Option.bind_some,and_true,Bool.and_eq_true,Bool.or_eq_true,Bool.and_eq_false_iff,Bool.or_eq_false_iff,Bool.not_eq_true',Bool.not_eq_false',decide_eq_true_eq,decide_eq_false_iff_not] at hg);omega))) rfl rfl rfl rfl rfl ?_|refine rv rfl rfl rfl (Val.neverI rfl (fun hg=>by exfalso;first|((simp only [List.cons_append,List.nil_append,GP,dstL,lookE,Nat.beq,cond,List.getElem?_cons_zero,List.getElem?_cons_succ,Option.bind_some,and_true,Bool.and_eq_true,Bool.or_eq_true,Bool.and_eq_false_iff,Bool.or_eq_false_iff,Bool.not_eq_true',Bool.not_eq_false',decide_eq_true_eq,decide_eq_false_iff_not] at hg);done)|((simp only [List.cons_append,List.nil_append,GP,dstL,lookE,Nat.beq,cond,List.getElem?_cons_zero,List.getElem?_cons_succ,Option.bind_some,and_true,Bool.and_eq_true,Bool.or_eq_true,Bool.and_eq_false_iff,Bool.or_eq_false_iff,Bool.not_eq_true',Bool.not_eq_false',decide_eq_true_eq,decide_eq_false_iff_not] at hg);omega))) rfl rfl rfl ?_|refine rg rfl rfl rfl (Val.neverI rfl (fun hg=>by exfalso;first|((simp only [List.cons_append,List.nil_append,GP,dstL,lookE,Nat.beq,cond,List.getElem?_cons_zero,List.getElem?_cons_succ,Option.bind_some,and_true,Bool.and_eq_true,Bool.or_eq_true,Bool.and_eq_false_iff,Bool.or_eq_false_iff,Bool.not_eq_true',Bool.not_eq_false',decide_eq_true_eq,decide_eq_false_iff_not] at hg);done)|((simp only [List.cons_append,List.nil_append,GP,dstL,lookE,Nat.beq,cond,List.getElem?_cons_zero,List.getElem?_cons_succ,Option.bind_some,and_true,Bool.and_eq_true,Bool.or_eq_true,Bool.and_eq_false_iff,Bool.or_eq_false_iff,Bool.not_eq_true',Bool.not_eq_false',decide_eq_true_eq,decide_eq_false_iff_not] at hg);omega))) rfl rfl rfl rfl rfl ?_)|(show ∀ _:Nat,T _ _ _ _ _;intro _)|(show T _ (.code .ret::_) _ _ _;refine T_retV [] rfl (Hle.none _) ⟨(i:Nat),?_,rfl⟩))
   have e1:decide (z∈xs)=false:=by
    rw [decide_eq_false_iff_not]
    intro hz
    obtain⟨q,hq⟩:=List.mem_iff_getElem?.1 hz
    have h1:=(List.getElem?_eq_some_iff.1 hq).1
    have:=hlo q z (by omega) hq
    omega
   rw [e1]
   have e2:decide ((i:Int)<(n:Int))=false:=by rw [decide_eq_false_iff_not];omega
   rw [e2,Bool.false_and]
   rfl
theorem checkSet_spec (A:Option Addr) (n c:Nat) (xs:List Int) (w:World) (hs:Src w 1 A n (xs.map (Value.int .i64))) (hn:xs.length=n) (hb:n≤1000000) :
  Spec Tryz.prog 49 [.slice A n c] w (fun v R=>∃ e:Int,(e=0↔setOk xs)∧v = .int .i64 e∧R=[]):=by
 refine spec_of sg Tryz.func49 rfl rfl rfl ?_
 repeat' (first|refine d1 ?_|refine dd ?_|(show ∀ _:Nat,T _ _ _ _ _;intro _))
 refine T_loopX (fun k:Nat=>[(7, .int .i64 (k:Nat))]) (fun _=>[]) (fun k=>k≤n∧setOk (xs.take k)) (fun k=>n - k) 0 ⟨Nat.zero_le _,⟨List.Pairwise.nil,fun z hz=>by cases hz⟩⟩ ?_
 rintro k ⟨hk,hok⟩
 repeat' (first|refine d1 ?_|refine dd ?_|(show ∀ _:Nat,T _ _ _ _ _;intro _))
 refine T_if rfl (fun h=>?_) (fun h=>?_)
 ·simp only [decide_eq_true_eq] at h
  obtain⟨b,o,rfl⟩:=hs.base (by omega)
  obtain⟨x,hx⟩:∃ x,xs[k]?=some x:=⟨_,List.getElem?_eq_getElem (by omega)⟩
  have hr:=src_int hs (k:=k) (by omega) hx
  repeat' (first|refine d1 ?_|refine dd ?_|(show T _ (.ops _ (_::_)::_) _ _ _;first|refine T_val rfl (Val.load rfl (fun hg=>rdOld hr)) rfl rfl rfl ?_|refine T_valC rfl (Val.load rfl (fun hg=>rdOld hr)) rfl rfl rfl rfl rfl ?_)|(show T _ (.run _ _ (_::_) _ _::_) _ _ _;first|refine rv rfl rfl rfl (Val.load rfl (fun hg=>rdOld hr)) rfl rfl rfl ?_|refine rg rfl rfl rfl (Val.load rfl (fun hg=>rdOld hr)) rfl rfl rfl rfl rfl ?_)|(show ∀ _:Nat,T _ _ _ _ _;intro _))
  refine T_if rfl (fun h1=>?_) (fun h1=>?_)
  ·simp only [Bool.or_eq_true,decide_eq_true_eq] at h1
   repeat' (first|refine d1 ?_|refine dd ?_|(show ∀ _:Nat,T _ _ _ _ _;intro _)|(show T _ (.code .ret::_) _ _ _;refine T_retV [] rfl (Hle.none _) ⟨2,⟨fun h=>by omega,fun h=>?_⟩,rfl,rfl⟩))
   have:=h.bd x (List.mem_of_getElem? hx)
   omega
  ·simp only [Bool.or_eq_false_iff,decide_eq_false_iff_not] at h1
   obtain⟨y,hy⟩:∃ y,0<k→xs[k - 1]?=some y:=by
    by_cases h0:0<k
    ·exact⟨_,fun _=>List.getElem?_eq_getElem (show k - 1<xs.length by omega)⟩
    ·exact⟨0,fun h=>absurd h h0⟩
   have hry:0<k→RdC w b (o+((k:Int) - 1).toNat * 1) [.int .i64 y]:=fun h0=>by
    have:=src_int hs (k:=k - 1) (by omega) (hy h0)
    rwa [show ((k - 1:Nat):Int)=(k:Int) - 1 by omega] at this
   repeat' (first|refine d1 ?_|refine dd ?_|(show T _ (.ops _ (_::_)::_) _ _ _;first|refine T_val rfl (Val.load (v := .int .i64 y) rfl (fun hg=>rdOld (hry (by ((simp only [List.cons_append,List.nil_append,GP,dstL,lookE,Nat.beq,cond,List.getElem?_cons_zero,List.getElem?_cons_succ,Option.bind_some,and_true,Bool.and_eq_true,Bool.or_eq_true,Bool.and_eq_false_iff,Bool.or_eq_false_iff,Bool.not_eq_true',Bool.not_eq_false',decide_eq_true_eq,decide_eq_false_iff_not] at hg);omega))))) rfl rfl rfl ?_|refine T_valC rfl (Val.load (v := .int .i64 y) rfl (fun hg=>rdOld (hry (by ((simp only [List.cons_append,List.nil_append,GP,dstL,lookE,Nat.beq,cond,List.getElem?_cons_zero,List.getElem?_cons_succ,Option.bind_some,and_true,Bool.and_eq_true,Bool.or_eq_true,Bool.and_eq_false_iff,Bool.or_eq_false_iff,Bool.not_eq_true',Bool.not_eq_false',decide_eq_true_eq,decide_eq_false_iff_not] at hg);omega))))) rfl rfl rfl rfl rfl ?_)|(show T _ (.run _ _ (_::_) _ _::_) _ _ _;first|refine rv rfl rfl rfl (Val.load (v := .int .i64 y) rfl (fun hg=>rdOld (hry (by ((simp only [List.cons_append,List.nil_append,GP,dstL,lookE,Nat.beq,cond,List.getElem?_cons_zero,List.getElem?_cons_succ,Option.bind_some,and_true,Bool.and_eq_true,Bool.or_eq_true,Bool.and_eq_false_iff,Bool.or_eq_false_iff,Bool.not_eq_true',Bool.not_eq_false',decide_eq_true_eq,decide_eq_false_iff_not] at hg);omega))))) rfl rfl rfl ?_|refine rg rfl rfl rfl (Val.load (v := .int .i64 y) rfl (fun hg=>rdOld (hry (by ((simp only [List.cons_append,List.nil_append,GP,dstL,lookE,Nat.beq,cond,List.getElem?_cons_zero,List.getElem?_cons_succ,Option.bind_some,and_true,Bool.and_eq_true,Bool.or_eq_true,Bool.and_eq_false_iff,Bool.or_eq_false_iff,Bool.not_eq_true',Bool.not_eq_false',decide_eq_true_eq,decide_eq_false_iff_not] at hg);omega))))) rfl rfl rfl rfl rfl ?_)|(show ∀ _:Nat,T _ _ _ _ _;intro _))
   refine T_if rfl (fun h2=>?_) (fun h2=>?_)
   ·simp only [Bool.and_eq_true,decide_eq_true_eq] at h2
    repeat' (first|refine d1 ?_|refine dd ?_|(show ∀ _:Nat,T _ _ _ _ _;intro _)|(show T _ (.code .ret::_) _ _ _;refine T_retV [] rfl (Hle.none _) ⟨10,⟨fun h=>by omega,fun h=>?_⟩,rfl,rfl⟩))
    have h3:=hy (by omega)
    obtain⟨h4,h5⟩:=List.getElem?_eq_some_iff.1 h3
    obtain⟨h6,h7⟩:=List.getElem?_eq_some_iff.1 hx
    have:=List.pairwise_iff_getElem.1 h.asc (k - 1) k h4 h6 (by omega)
    omega
   ·simp only [Bool.and_eq_false_iff,decide_eq_false_iff_not] at h2
    repeat' (first|refine d1 ?_|refine dd ?_|(show ∀ _:Nat,T _ _ _ _ _;intro _))
    refine T_backX (k+1) ⟨by omega,?_⟩ (by omega)
    rw [take_snoc _ _ _ hx]
    refine ⟨?_,fun z hz=>?_⟩
    ·rw [List.pairwise_append]
     refine ⟨hok.asc,List.pairwise_singleton _ _,fun a ha b hb=>?_⟩
     rw [List.mem_singleton] at hb
     subst hb
     obtain⟨i,hi⟩:=List.mem_iff_getElem?.1 ha
     have hil:=(List.getElem?_eq_some_iff.1 hi).1
     rw [List.length_take] at hil
     have h0:0<k:=by omega
     have h8:(xs.take k)[k - 1]?=some y:=by rw [List.getElem?_take,if_pos (by omega)];exact hy h0
     have:=asc_le hok.asc hi h8 (by omega)
     rcases h2 with h2|h2 <;> omega
    ·rcases List.mem_append.1 hz with hz|hz
     ·exact hok.bd z hz
     ·rw [List.mem_singleton] at hz;subst hz;omega
 ·simp only [decide_eq_false_iff_not] at h
  rw [List.take_of_length_le (by omega)] at hok
  repeat' (first|refine d1 ?_|refine dd ?_|(show ∀ _:Nat,T _ _ _ _ _;intro _)|(show T _ (.code .ret::_) _ _ _;refine T_retV [] rfl (Hle.none _) ⟨0,⟨fun _=>hok,fun _=>rfl⟩,rfl,rfl⟩))
theorem checkSplit_spec (A:Option Addr) (N n c:Nat) (xs:List Int) (w:World) (hs:Src w 1 A n (xs.map (Value.int .i64))) (hn:xs.length=n) (hb:n≤1000000) (hN:N≤1000000) :
  Spec Tryz.prog 11 [.int .i64 (N:Nat), .slice A n c] w (fun v R=>∃ e:Int,(e=0↔splOk N xs)∧v = .int .i64 e∧R=[]):=by
 refine spec_of sg Tryz.func11 rfl rfl rfl ?_
 repeat' (first|refine d1 ?_|refine dd ?_|(show ∀ _:Nat,T _ _ _ _ _;intro _))
 refine T_if rfl (fun h=>?_) (fun h=>?_)
 ·simp only [Bool.or_eq_true,decide_eq_true_eq] at h
  repeat' (first|refine d1 ?_|refine dd ?_|(show ∀ _:Nat,T _ _ _ _ _;intro _)|(show T _ (.code .ret::_) _ _ _;refine T_retV [] rfl (Hle.none _) ⟨2,⟨fun h=>by omega,fun h9=>?_⟩,rfl,rfl⟩))
  have:=h9.n32;have:=h9.room;omega
 simp only [Bool.or_eq_false_iff,decide_eq_false_iff_not] at h
 repeat' (first|refine d1 ?_|(show ∀ _:Nat,T _ _ _ _ _;intro _))
 refine T_op (OpT.call rfl rfl rfl rfl rfl (fun w hw=>checkSet_spec A n c xs w (src_below hs hw.below) hn hb) ?_)
 rintro u R ⟨e,he,rfl,rfl⟩
 rw [List.nil_append]
 repeat' (first|refine d1 ?_|refine dd ?_|(show ∀ _:Nat,T _ _ _ _ _;intro _))
 refine T_if rfl (fun h1=>?_) (fun h1=>?_)
 ·simp only [Bool.not_eq_true',decide_eq_false_iff_not] at h1
  repeat' (first|refine d1 ?_|refine dd ?_|(show ∀ _:Nat,T _ _ _ _ _;intro _)|(show T _ (.code .ret::_) _ _ _;refine T_retV [] rfl (Hle.none _) ⟨e,⟨fun h=>absurd h h1,fun h9=>he.2 h9.set⟩,rfl,rfl⟩))
 simp only [Bool.not_eq_false',decide_eq_true_eq] at h1
 have hok:=he.1 h1
 by_cases h0:0<n
 ·obtain⟨b,o,rfl⟩:=hs.base (by omega)
  obtain⟨x,hx⟩:∃ x,xs[0]?=some x:=⟨_,List.getElem?_eq_getElem (by omega)⟩
  obtain⟨y,hy⟩:∃ y,xs[n - 1]?=some y:=⟨_,List.getElem?_eq_getElem (by omega)⟩
  have hrx:RdC w b (o+(0:Int).toNat * 1) [.int .i64 x]:=src_int hs (k:=0) (by omega) hx
  have hry:RdC w b (o+((n:Int) - 1).toNat * 1) [.int .i64 y]:=by
   have:=src_int hs (k:=n - 1) (by omega) hy
   rwa [show ((n - 1:Nat):Int)=(n:Int) - 1 by omega] at this
  repeat' (first|refine d1 ?_|refine dd ?_|(show T _ (.ops _ (_::_)::_) _ _ _;first|refine T_val rfl (Val.load rfl (fun hg=>rdOld hrx)) rfl rfl rfl ?_|refine T_valC rfl (Val.load rfl (fun hg=>rdOld hrx)) rfl rfl rfl rfl rfl ?_|refine T_val rfl (Val.load rfl (fun hg=>rdOld hry)) rfl rfl rfl ?_|refine T_valC rfl (Val.load rfl (fun hg=>rdOld hry)) rfl rfl rfl rfl rfl ?_)|(show T _ (.run _ _ (_::_) _ _::_) _ _ _;first|refine rv rfl rfl rfl (Val.load rfl (fun hg=>rdOld hrx)) rfl rfl rfl ?_|refine rg rfl rfl rfl (Val.load rfl (fun hg=>rdOld hrx)) rfl rfl rfl rfl rfl ?_|refine rv rfl rfl rfl (Val.load rfl (fun hg=>rdOld hry)) rfl rfl rfl ?_|refine rg rfl rfl rfl (Val.load rfl (fun hg=>rdOld hry)) rfl rfl rfl rfl rfl ?_)|(show ∀ _:Nat,T _ _ _ _ _;intro _))
  have hmx:=List.mem_of_getElem? hx
  have hmy:=List.mem_of_getElem? hy
  refine T_if rfl (fun h2=>?_) (fun h2=>?_)
  ·simp only [Bool.and_eq_true,Bool.or_eq_true,decide_eq_true_eq] at h2
   repeat' (first|refine d1 ?_|refine dd ?_|(show ∀ _:Nat,T _ _ _ _ _;intro _)|(show T _ (.code .ret::_) _ _ _;refine T_retV [] rfl (Hle.none _) ⟨2,⟨fun h=>by omega,fun h9=>?_⟩,rfl,rfl⟩))
   have:=h9.bd x hmx;have:=h9.bd y hmy;omega
  have h2':¬ (x=0)∧¬ ((N:Int)≤y):=by
   have e2:decide ((0:Int)<(n:Int))=true:=by rw [decide_eq_true_eq];omega
   simp only [e2,Bool.true_and,Bool.or_eq_false_iff,decide_eq_false_iff_not] at h2
   omega
  have hbd:∀ z∈xs,1≤z∧z<N:=fun z hz=>by
   have h5:=asc_last hok.asc hy (by omega) z hz
   have h6:=hok.bd x hmx
   obtain⟨i,hi⟩:=List.mem_iff_getElem?.1 hz
   have h7:=asc_le hok.asc hx hi (Nat.zero_le _)
   omega
  repeat' (first|refine d1 ?_|refine dd ?_|(show ∀ _:Nat,T _ _ _ _ _;intro _))
  refine T_if rfl (fun h3=>?_) (fun h3=>?_)
  ·simp only [Bool.or_eq_true,decide_eq_true_eq] at h3
   repeat' (first|refine d1 ?_|refine dd ?_|(show ∀ _:Nat,T _ _ _ _ _;intro _)|(show T _ (.code .ret::_) _ _ _;refine T_retV [] rfl (Hle.none _) ⟨8,⟨fun h=>by omega,fun h9=>?_⟩,rfl,rfl⟩))
   have:=h9.two;have:=h9.room;omega
  ·simp only [Bool.or_eq_false_iff,decide_eq_false_iff_not] at h3
   repeat' (first|refine d1 ?_|refine dd ?_|(show ∀ _:Nat,T _ _ _ _ _;intro _)|(show T _ (.code .ret::_) _ _ _;refine T_retV [] rfl (Hle.none _) ⟨0,⟨fun _=>⟨hok.asc,hbd,by omega,by omega,by omega⟩,fun _=>rfl⟩,rfl,rfl⟩))
 ·repeat' (first|refine d1 ?_|refine dd ?_|(show T _ (.ops _ (_::_)::_) _ _ _;first|refine T_val rfl (Val.neverP rfl (fun hg=>by exfalso;first|((simp only [List.cons_append,List.nil_append,GP,dstL,lookE,Nat.beq,cond,List.getElem?_cons_zero,List.getElem?_cons_succ,Option.bind_some,and_true,Bool.and_eq_true,Bool.or_eq_true,Bool.and_eq_false_iff,Bool.or_eq_false_iff,Bool.not_eq_true',Bool.not_eq_false',decide_eq_true_eq,decide_eq_false_iff_not] at hg);done)|((simp only [List.cons_append,List.nil_append,GP,dstL,lookE,Nat.beq,cond,List.getElem?_cons_zero,List.getElem?_cons_succ,Option.bind_some,and_true,Bool.and_eq_true,Bool.or_eq_true,Bool.and_eq_false_iff,Bool.or_eq_false_iff,Bool.not_eq_true',Bool.not_eq_false',decide_eq_true_eq,decide_eq_false_iff_not] at hg);omega))) rfl rfl rfl ?_|refine T_valC rfl (Val.neverP rfl (fun hg=>by exfalso;first|((simp only [List.cons_append,List.nil_append,GP,dstL,lookE,Nat.beq,cond,List.getElem?_cons_zero,List.getElem?_cons_succ,Option.bind_some,and_true,Bool.and_eq_true,Bool.or_eq_true,Bool.and_eq_false_iff,Bool.or_eq_false_iff,Bool.not_eq_true',Bool.not_eq_false',decide_eq_true_eq,decide_eq_false_iff_not] at hg);done)|((simp only [List.cons_append,List.nil_append,GP,dstL,lookE,Nat.beq,cond,List.getElem?_cons_zero,List.getElem?_cons_succ,Option.bind_some,and_true,Bool.and_eq_true,Bool.or_eq_true,Bool.and_eq_false_iff,Bool.or_eq_false_iff,Bool.not_eq_true',Bool.not_eq_false',decide_eq_true_eq,decide_eq_false_iff_not] at hg);omega))) rfl rfl rfl rfl rfl ?_|refine T_val rfl (Val.neverI rfl (fun hg=>by exfalso;first|((simp only [List.cons_append,List.nil_append,GP,dstL,lookE,Nat.beq,cond,List.getElem?_cons_zero,List.getElem?_cons_succ,Option.bind_some,and_true,Bool.and_eq_true,Bool.or_eq_true,Bool.and_eq_false_iff,Bool.or_eq_false_iff,Bool.not_eq_true',Bool.not_eq_false',decide_eq_true_eq,decide_eq_false_iff_not] at hg);done)|((simp only [List.cons_append,List.nil_append,GP,dstL,lookE,Nat.beq,cond,List.getElem?_cons_zero,List.getElem?_cons_succ,Option.bind_some,and_true,Bool.and_eq_true,Bool.or_eq_true,Bool.and_eq_false_iff,Bool.or_eq_false_iff,Bool.not_eq_true',Bool.not_eq_false',decide_eq_true_eq,decide_eq_false_iff_not] at hg);omega))) rfl rfl rfl ?_|refine T_valC rfl (Val.neverI rfl (fun hg=>by exfalso;first|((simp only [List.cons_append,List.nil_append,GP,dstL,lookE,Nat.beq,cond,List.getElem?_cons_zero,List.getElem?_cons_succ,Option.bind_some,and_true,Bool.and_eq_true,Bool.or_eq_true,Bool.and_eq_false_iff,Bool.or_eq_false_iff,Bool.not_eq_true',Bool.not_eq_false',decide_eq_true_eq,decide_eq_false_iff_not] at hg);done)|((simp only [List.cons_append,List.nil_append,GP,dstL,lookE,Nat.beq,cond,List.getElem?_cons_zero,List.getElem?_cons_succ,Option.bind_some,and_true,Bool.and_eq_true,Bool.or_eq_true,Bool.and_eq_false_iff,Bool.or_eq_false_iff,Bool.not_eq_true',Bool.not_eq_false',decide_eq_true_eq,decide_eq_false_iff_not] at hg);omega))) rfl rfl rfl rfl rfl ?_)|(show T _ (.run _ _ (_::_) _ _::_) _ _ _;first|refine rv rfl rfl rfl (Val.neverP rfl (fun hg=>by exfalso;first|((simp only [List.cons_append,List.nil_append,GP,dstL,lookE,Nat.beq,cond,List.getElem?_cons_zero,List.getElem?_cons_succ,Option.bind_some,and_true,Bool.and_eq_true,Bool.or_eq_true,Bool.and_eq_false_iff,Bool.or_eq_false_iff,Bool.not_eq_true',Bool.not_eq_false',decide_eq_true_eq,decide_eq_false_iff_not] at hg);done)|((simp only [List.cons_append,List.nil_append,GP,dstL,lookE,Nat.beq,cond,List.getElem?_cons_zero,List.getElem?_cons_succ,Option.bind_some,and_true,Bool.and_eq_true,Bool.or_eq_true,Bool.and_eq_false_iff,Bool.or_eq_false_iff,Bool.not_eq_true',Bool.not_eq_false',decide_eq_true_eq,decide_eq_false_iff_not] at hg);omega))) rfl rfl rfl ?_|refine rg rfl rfl rfl (Val.neverP rfl (fun hg=>by exfalso;first|((simp only [List.cons_append,List.nil_append,GP,dstL,lookE,Nat.beq,cond,List.getElem?_cons_zero,List.getElem?_cons_succ,Option.bind_some,and_true,Bool.and_eq_true,Bool.or_eq_true,Bool.and_eq_false_iff,Bool.or_eq_false_iff,Bool.not_eq_true',Bool.not_eq_false',decide_eq_true_eq,decide_eq_false_iff_not] at hg);done)|((simp only [List.cons_append,List.nil_append,GP,dstL,lookE,Nat.beq,cond,List.getElem?_cons_zero,List.getElem?_cons_succ,Option.bind_some,and_true,Bool.and_eq_true,Bool.or_eq_true,Bool.and_eq_false_iff,Bool.or_eq_false_iff,Bool.not_eq_true',Bool.not_eq_false',decide_eq_true_eq,decide_eq_false_iff_not] at hg);omega))) rfl rfl rfl rfl rfl ?_|refine rv rfl rfl rfl (Val.neverI rfl (fun hg=>by exfalso;first|((simp only [List.cons_append,List.nil_append,GP,dstL,lookE,Nat.beq,cond,List.getElem?_cons_zero,List.getElem?_cons_succ,Option.bind_some,and_true,Bool.and_eq_true,Bool.or_eq_true,Bool.and_eq_false_iff,Bool.or_eq_false_iff,Bool.not_eq_true',Bool.not_eq_false',decide_eq_true_eq,decide_eq_false_iff_not] at hg);done)|((simp only [List.cons_append,List.nil_append,GP,dstL,lookE,Nat.beq,cond,List.getElem?_cons_zero,List.getElem?_cons_succ,Option.bind_some,and_true,Bool.and_eq_true,Bool.or_eq_true,Bool.and_eq_false_iff,Bool.or_eq_false_iff,Bool.not_eq_true',Bool.not_eq_false',decide_eq_true_eq,decide_eq_false_iff_not] at hg);omega))) rfl rfl rfl ?_|refine rg rfl rfl rfl (Val.neverI rfl (fun hg=>by exfalso;first|((simp only [List.cons_append,List.nil_append,GP,dstL,lookE,Nat.beq,cond,List.getElem?_cons_zero,List.getElem?_cons_succ,Option.bind_some,and_true,Bool.and_eq_true,Bool.or_eq_true,Bool.and_eq_false_iff,Bool.or_eq_false_iff,Bool.not_eq_true',Bool.not_eq_false',decide_eq_true_eq,decide_eq_false_iff_not] at hg);done)|((simp only [List.cons_append,List.nil_append,GP,dstL,lookE,Nat.beq,cond,List.getElem?_cons_zero,List.getElem?_cons_succ,Option.bind_some,and_true,Bool.and_eq_true,Bool.or_eq_true,Bool.and_eq_false_iff,Bool.or_eq_false_iff,Bool.not_eq_true',Bool.not_eq_false',decide_eq_true_eq,decide_eq_false_iff_not] at hg);omega))) rfl rfl rfl rfl rfl ?_)|(show ∀ _:Nat,T _ _ _ _ _;intro _))
  refine T_if rfl (fun h2=>?_) (fun h2=>?_)
  ·repeat' (first|refine d1 ?_|refine dd ?_|(show ∀ _:Nat,T _ _ _ _ _;intro _)|(show T _ (.code .ret::_) _ _ _;refine T_retV [] rfl (Hle.none _) ⟨2,⟨fun h=>by omega,fun h9=>?_⟩,rfl,rfl⟩))
   have:=h9.two;omega
  repeat' (first|refine d1 ?_|refine dd ?_|(show ∀ _:Nat,T _ _ _ _ _;intro _))
  refine T_if rfl (fun h3=>?_) (fun h3=>?_)
  ·repeat' (first|refine d1 ?_|refine dd ?_|(show ∀ _:Nat,T _ _ _ _ _;intro _)|(show T _ (.code .ret::_) _ _ _;refine T_retV [] rfl (Hle.none _) ⟨8,⟨fun h=>by omega,fun h9=>?_⟩,rfl,rfl⟩))
   have:=h9.two;omega
  ·simp only [Bool.or_eq_false_iff,decide_eq_false_iff_not] at h3
   exfalso;omega
end Go.Proofs.YtabhdaehomjlgaaGreat
namespace Go.Proofs.YtabhdaehomjlgaaGreat
open Go.RowKit Go.Shelf Go.Proofs
set_option maxRecDepth 100000
set_option maxHeartbeats 1000000

theorem hasI_spec (A:Option Addr) (n c:Nat) (w:World):Spec Tryz.prog 97 [.slice A n c] w (fun v R=>∃ b:Nat,True∧v = .func (.func 137) #[] #[.pointer (some ⟨b,0,none⟩)]∧R=[blk b [.slice A n c] 24]):=by
 refine spec_of sg Tryz.func97 rfl rfl rfl ?_
 repeat' (first|(show T _ (.ops _ (⟨_, .box _ _,_,_,_,_⟩::_)::_) _ _ _;refine T_op (OpT.box (cs:=[.slice A n c]) rfl rfl rfl rfl rfl rfl rfl (fun _=>?_)))|refine d1 ?_|refine dd ?_|(show ∀ _:Nat,T _ _ _ _ _;intro _)|(show T _ (.code .ret::_) _ _ _;refine T_retV _ rfl (Hle.refl _) ⟨_,trivial,rfl,rfl⟩))
theorem hasC_spec (A:Option Addr) (n c b1:Nat) (xs:List Int) (z:Int) (w:World) (h1:RdC w b1 0 [.slice A n c]) (hs:Src w 1 A n (xs.map (Value.int .i64))) (hn:xs.length=n) (hb:n≤1000000) (hasc:xs.Pairwise (· < ·)) :
  Spec Tryz.prog 137 [.int .i64 z, .pointer (some ⟨b1,0,none⟩)] w (fun v R=>v = .bool (decide (z∈xs))∧R=[]):=by
 refine spec_of sg Tryz.func137 rfl rfl rfl ?_
 repeat' (first|refine d1 ?_|(show T _ (.ops _ (_::_)::_) _ _ _;first|refine T_val rfl (Val.load rfl (fun hg=>rdOld h1)) rfl rfl rfl ?_|refine T_valC rfl (Val.load rfl (fun hg=>rdOld h1)) rfl rfl rfl rfl rfl ?_)|(show T _ (.run _ _ (_::_) _ _::_) _ _ _;first|refine rv rfl rfl rfl (Val.load rfl (fun hg=>rdOld h1)) rfl rfl rfl ?_|refine rg rfl rfl rfl (Val.load rfl (fun hg=>rdOld h1)) rfl rfl rfl rfl rfl ?_)|(show ∀ _:Nat,T _ _ _ _ _;intro _))
 refine T_op (OpT.call rfl rfl rfl rfl rfl (fun w hw=>bsearchI_spec A n c xs z w (src_below hs hw.below) hn hb hasc) ?_)
 rintro u R ⟨k,rfl,rfl⟩
 rw [List.nil_append]
 repeat' (first|refine d1 ?_|refine dd ?_|(show ∀ _:Nat,T _ _ _ _ _;intro _)|(show T _ (.code .ret::_) _ _ _;refine T_retV [] rfl (Hle.none _) ⟨rfl,rfl⟩))
theorem membersI_spec (n:Int) (f:FuncId) (cs:Array Value) (w:World):Spec Tryz.prog 99 [.int .i64 n, .func (.func f) #[] cs] w (fun v R=>∃ y:Nat × Nat,True∧v = .func (.func 140) #[] #[.pointer (some ⟨y.1,0,none⟩), .pointer (some ⟨y.2,0,none⟩)]∧R=[blk y.2 [.func (.func f) #[] cs] 53,blk y.1 [.int .i64 n] 3]):=by
 refine spec_of sg Tryz.func99 rfl rfl rfl ?_
 repeat' (first|(show T _ (.ops _ (⟨_, .box _ _,_,_,_,_⟩::_)::_) _ _ _;first|refine T_op (OpT.box (cs:=[.int .i64 n]) rfl rfl rfl rfl rfl rfl rfl (fun _=>?_))|refine T_op (OpT.box (cs:=[.func (.func f) #[] cs]) rfl rfl rfl rfl rfl rfl rfl (fun _=>?_)))|refine d1 ?_|refine dd ?_|(show ∀ _:Nat,T _ _ _ _ _;intro _)|(show T _ (.code .ret::_) _ _ _;refine T_retV _ rfl (Hle.refl _) ⟨(_,_),trivial,rfl,rfl⟩))
theorem membersI_iter {w0:World} {n:Nat} {p:Nat→Bool} {f:FuncId} {cs:List Value} {b1 b2:Nat} (h1:RdC w0 b1 0 [.int .i64 (n:Nat)]) (h2:RdC w0 b2 0 [.func (.func f) #[] cs.toArray]) (hn:n≤1000000)
  (hp:∀ k:Nat,k<n→∀ w',Below w0.heap.size w0 w'→Spec Tryz.prog f (.int .i64 (k:Nat)::cs) w' (fun v R=>v = .bool (p k)∧R=[])) :
  IterZ Tryz.prog w0 140 [] [.pointer (some ⟨b1,0,none⟩), .pointer (some ⟨b2,0,none⟩)] [] (fun j x B=>∃ z,(setI n p)[j]?=some z∧x=[.int .i64 z]∧B=[]) (setI n p).length (fun _=>none):=by
 refine iterZ_of sg Tryz.func140 rfl rfl rfl ?_
 intro l' GQ X Hj hz hY h0
 show T _ _ _ _ Hj
 repeat' (first|refine d1 ?_|refine dd ?_|(show T _ (.ops _ (_::_)::_) _ _ _;first|refine T_val rfl (Val.load rfl (fun hg=>rdOld h1)) rfl rfl rfl ?_|refine T_valC rfl (Val.load rfl (fun hg=>rdOld h1)) rfl rfl rfl rfl rfl ?_)|(show T _ (.run _ _ (_::_) _ _::_) _ _ _;first|refine rv rfl rfl rfl (Val.load rfl (fun hg=>rdOld h1)) rfl rfl rfl ?_|refine rg rfl rfl rfl (Val.load rfl (fun hg=>rdOld h1)) rfl rfl rfl rfl rfl ?_)|(show ∀ _:Nat,T _ _ _ _ _;intro _))
 refine T_loopX (fun s:Nat × List HA=>[(6, .int .i64 (s.1:Nat))]) (fun s=>s.2) (fun s=>s.1≤n∧GQ (setI s.1 p).length s.2) (fun s=>n - s.1) (0,Hj) ⟨Nat.zero_le _,h0⟩ ?_
 rintro⟨i,H1⟩ ⟨hi,hG⟩
 dsimp only at hi hG ⊢
 repeat' (first|refine d1 ?_|(show ∀ _:Nat,T _ _ _ _ _;intro _))
 refine T_if rfl (fun h=>?_) (fun h=>?_)
 ·simp only [decide_eq_true_eq] at h
  have hi':i<n:=by omega
  repeat' (first|refine d1 ?_|(show T _ (.ops _ (_::_)::_) _ _ _;first|refine T_val rfl (Val.load rfl (fun hg=>rdOld h2)) rfl rfl rfl ?_|refine T_valC rfl (Val.load rfl (fun hg=>rdOld h2)) rfl rfl rfl rfl rfl ?_)|(show T _ (.run _ _ (_::_) _ _::_) _ _ _;first|refine rv rfl rfl rfl (Val.load rfl (fun hg=>rdOld h2)) rfl rfl rfl ?_|refine rg rfl rfl rfl (Val.load rfl (fun hg=>rdOld h2)) rfl rfl rfl rfl rfl ?_)|(show ∀ _:Nat,T _ _ _ _ _;intro _))
  refine T_op (OpT.call rfl rfl rfl rfl rfl (fun w hw=>hp i hi' w hw.below) ?_)
  rintro u R ⟨rfl,rfl⟩
  rw [List.nil_append]
  cases hp9:p i with
  | true =>
   have hat:=setI_at hi' hp9
   have hsu:(setI (i+1) p).length=(setI i p).length+1:=by rw [setI_succ,if_pos hp9,List.length_append];rfl
   repeat' (first|refine d1 ?_|(show ∀ _:Nat,T _ _ _ _ _;intro _))
   refine T_op (OpT.yieldO [] [] hY rfl rfl (Holds.of1 rfl rfl rfl) rfl rfl rfl (List.getElem?_eq_some_iff.1 hat).1 ⟨_,hat,rfl,rfl⟩ hG (by show Hle H1 (H1++[]);rw [List.append_nil];exact Hle.refl _) (fun H2 hG2=>?_) (fun Y hX=>?_))
   ·show T _ _ _ _ H2
    repeat' (first|refine d1 ?_|refine dd ?_|(show ∀ _:Nat,T _ _ _ _ _;intro _))
    refine T_if rfl (fun h3=>by exfalso;simp at h3) (fun _=>?_)
    repeat' (first|refine d1 ?_|refine dd ?_|(show ∀ _:Nat,T _ _ _ _ _;intro _))
    exact T_backX (i+1,H2) ⟨by dsimp only;omega,by dsimp only;rw [hsu];exact hG2⟩ (by dsimp only;omega)
   ·show T _ _ _ _ Y
    repeat' (first|refine d1 ?_|refine dd ?_|(show ∀ _:Nat,T _ _ _ _ _;intro _))
    refine T_if rfl (fun _=>?_) (fun h3=>by exfalso;simp at h3)
    repeat' (first|refine d1 ?_|refine dd ?_|(show ∀ _:Nat,T _ _ _ _ _;intro _)|(show T _ (.code .ret::_) _ _ _;refine T_istop rfl Y hX (Hle.refl _)))
  | false =>
   have hsu:setI (i+1) p=setI i p:=by rw [setI_succ,if_neg (by rw [hp9];decide),List.append_nil]
   repeat' (first|refine d1 ?_|(show ∀ _:Nat,T _ _ _ _ _;intro _))
   refine T_op (OpT.never (.bool false) rfl (fun hg9=>by have h10:(false:Bool)=true:=hg9.1;cases h10) rfl rfl rfl rfl rfl ?_)
   repeat' (first|refine d1 ?_|refine dd ?_|(show ∀ _:Nat,T _ _ _ _ _;intro _))
   refine T_if rfl (fun h3=>by exfalso;simp at h3) (fun _=>?_)
   repeat' (first|refine d1 ?_|refine dd ?_|(show ∀ _:Nat,T _ _ _ _ _;intro _))
   exact T_backX (i+1,H1) ⟨by dsimp only;omega,by dsimp only;rw [hsu];exact hG⟩ (by dsimp only;omega)
 ·simp only [decide_eq_false_iff_not] at h
  obtain rfl:i=n:=by omega
  repeat' (first|refine d1 ?_|refine dd ?_|(show ∀ _:Nat,T _ _ _ _ _;intro _))
  exact T_ifall rfl H1 hG (Hle.refl _)
theorem appendSeqM_spec {f:FuncId} {cs:List Value} (xs:List Int) (w:World) (hit:IterZ Tryz.prog w f [] cs [] (fun j x B=>∃ z,xs[j]?=some z∧x=[.int .i64 z]∧B=[]) xs.length (fun _=>none)) (hnb:xs.length≤1000000) :
  Spec Tryz.prog 139 [.slice none 0 0, .func (.func f) #[] cs.toArray] w (fun v R=>∃ x:Option Addr × Nat,True∧v = .slice x.1 xs.length x.2∧R=[row 3 1 x.1 x.2 xs.length (xs.map (Value.int .i64))]):=by
 refine spec_of sg Tryz.func139 rfl rfl rfl ?_
 repeat' (first|(show T _ (.ops _ (⟨_, .box _ _,_,_,_,_⟩::_)::_) _ _ _;refine T_op (OpT.box (cs:=[.slice none 0 0]) rfl rfl rfl rfl rfl rfl rfl (fun _=>?_)))|refine d1 ?_|refine dd ?_|(show ∀ _:Nat,T _ _ _ _ _;intro _))
 rename_i p2
 refine T_nilrow 3 1 ?_
 refine T_rangeZ hit rfl (fun j x B hj hQ=>by obtain⟨z,_,rfl,rfl⟩:=hQ;exact⟨rfl,rfl⟩)
  (fun j H=>∃ x:Option Addr × Nat,H=[blk p2 [.slice x.1 j x.2] 24,row 3 1 x.1 x.2 j ((xs.take j).map (Value.int .i64))]) (fun _=>False) (fun _ _=>False) [blk p2 [.slice none 0 0] 24,row 3 1 none 0 0 []] (fun _ _ _=>(hle_unit (B:=fz (fun _=>none)) rfl).trans (Hle.nth 0 rfl)) ⟨(none,0),rfl⟩ Hle.srtV ?_ ?_ (fun _ _ h=>h.elim) (fun _ _ _ h=>h.elim)
 ·rintro Lp r5 j x B Hj K2 hr5 hj hQ ⟨⟨A',c'⟩,rfl⟩
  obtain⟨z,hz,rfl,rfl⟩:=hQ
  have htk:=take_snoc _ _ _ hz
  have hjl:(xs.take j).length=j:=by rw [List.length_take];omega
  show T _ _ ((7, .int .i64 z)::_) _ (lrec Lp r5::blk p2 [.slice A' j c'] 24::row 3 1 A' c' j ((xs.take j).map (Value.int .i64))::K2)
  repeat' (first|refine d1 ?_|refine dd ?_|(show ∀ _:Nat,T _ _ _ _ _;intro _))
  refine T_begin hr5 rfl ?_
  repeat' (first|refine d1 ?_|refine dd ?_|(show T _ (.ops _ (_::_)::_) _ _ _;refine T_op (OpT.append (A:=A') rfl rfl rfl rfl rfl rfl rfl rfl rfl rfl (fun w hw=>Src.own hw rfl) rfl (by dsimp only;omega) (by omega) (fun A2 c2 hA2=>?_)))|(show ∀ _:Nat,T _ _ _ _ _;intro _))
  rename_i b3
  refine T_next [blk p2 [.slice A2 (j+1) c2] 24,row 3 1 A2 c2 (j+1) ((xs.take (j+1)).map (Value.int .i64))] ⟨(A2,c2),rfl⟩ ?_
  rw [htk,List.map_append]
  exact Hle.tail _ _
 ·rintro D Hn ⟨⟨A',c'⟩,rfl⟩
  rw [List.take_of_length_le (Nat.le_refl _)]
  show T _ _ _ _ (dfr D::blk p2 [.slice A' xs.length c'] 24::row 3 1 A' c' xs.length (xs.map (Value.int .i64))::[])
  repeat' (first|refine d1 ?_|refine dd ?_|(show ∀ _:Nat,T _ _ _ _ _;intro _))
  exact T_retD (H':=[row 3 1 A' c' xs.length (xs.map (Value.int .i64))]) (Hle.srtV (K:=dfr D::[row 3 1 A' c' xs.length (xs.map (Value.int .i64))])) (rf_V (vs:=[.slice A' xs.length c']) _ rfl (Hle.refl _) ⟨(A',c'),trivial,rfl,rfl⟩)
theorem collectM_spec {f:FuncId} {cs:List Value} (xs:List Int) (w:World) (hit:∀ w',Below w.heap.size w w'→IterZ Tryz.prog w' f [] cs [] (fun j x B=>∃ z,xs[j]?=some z∧x=[.int .i64 z]∧B=[]) xs.length (fun _=>none)) (hnb:xs.length≤1000000) :
  Spec Tryz.prog 98 [.func (.func f) #[] cs.toArray] w (fun v R=>∃ x:Option Addr × Nat,True∧v = .slice x.1 xs.length x.2∧R=[row 3 1 x.1 x.2 xs.length (xs.map (Value.int .i64))]):=by
 refine spec_of sg Tryz.func98 rfl rfl rfl ?_
 repeat' (first|refine d1 ?_|(show ∀ _:Nat,T _ _ _ _ _;intro _))
 refine T_op (OpT.call rfl rfl rfl rfl rfl (fun w' hw=>appendSeqM_spec xs w' (hit w' hw.below) hnb) ?_)
 rintro v R ⟨⟨A',c'⟩,-,rfl,rfl⟩
 repeat' (first|refine d1 ?_|refine dd ?_|(show ∀ _:Nat,T _ _ _ _ _;intro _)|(show T _ (.code .ret::_) _ _ _;refine T_retV _ rfl (Hle.refl _) ⟨(A',c'),trivial,rfl,rfl⟩))
theorem below_tr {w1 w2 w3:World} (h1:Below w1.heap.size w1 w2) (h2:Below w2.heap.size w2 w3):Below w1.heap.size w1 w3:=h1.trans (h2.mono h1.size)
theorem complC_spec (b1:Nat) (f:FuncId) (cs:List Value) (z:Int) (q:Bool) (w:World) (h1:RdC w b1 0 [.func (.func f) #[] cs.toArray])
  (hp:∀ w',Below w.heap.size w w'→Spec Tryz.prog f (.int .i64 z::cs) w' (fun v R=>v = .bool q∧R=[])) :
  Spec Tryz.prog 100 [.int .i64 z, .pointer (some ⟨b1,0,none⟩)] w (fun v R=>v = .bool (!q)∧R=[]):=by
 refine spec_of sg Tryz.func100 rfl rfl rfl ?_
 repeat' (first|refine d1 ?_|(show T _ (.ops _ (_::_)::_) _ _ _;first|refine T_val rfl (Val.load rfl (fun hg=>rdOld h1)) rfl rfl rfl ?_|refine T_valC rfl (Val.load rfl (fun hg=>rdOld h1)) rfl rfl rfl rfl rfl ?_)|(show T _ (.run _ _ (_::_) _ _::_) _ _ _;first|refine rv rfl rfl rfl (Val.load rfl (fun hg=>rdOld h1)) rfl rfl rfl ?_|refine rg rfl rfl rfl (Val.load rfl (fun hg=>rdOld h1)) rfl rfl rfl rfl rfl ?_)|(show ∀ _:Nat,T _ _ _ _ _;intro _))
 refine T_op (OpT.call rfl rfl rfl rfl rfl (fun w hw=>hp w hw.below) ?_)
 rintro u R ⟨rfl,rfl⟩
 rw [List.nil_append]
 repeat' (first|refine d1 ?_|refine dd ?_|(show ∀ _:Nat,T _ _ _ _ _;intro _)|(show T _ (.code .ret::_) _ _ _;refine T_retV [] rfl (Hle.none _) ⟨rfl,rfl⟩))
def cplI (N:Nat) (xs:List Int):List Int:=setI N fun i => !decide ((i:Int)∈xs)
theorem complement_spec (A:Option Addr) (N n c:Nat) (xs:List Int) (w:World) (hs:Src w 1 A n (xs.map (Value.int .i64))) (hn:xs.length=n) (hok:setOk xs) (h0:0<n) (hb:n≤1000000) (hN:N≤64) (hlt:∀ z∈xs,z<(N:Int)) :
  Spec Tryz.prog 54 [.int .i64 (N:Nat), .slice A n c] w (fun v R=>∃ x:Option Addr × Nat,True∧v = .tuple #[.slice x.1 (cplI N xs).length x.2, .int .i64 0]∧R=[row 3 1 x.1 x.2 (cplI N xs).length ((cplI N xs).map (Value.int .i64))]):=by
 refine spec_of sg Tryz.func54 rfl rfl rfl ?_
 repeat' (first|refine d1 ?_|refine dd ?_|(show ∀ _:Nat,T _ _ _ _ _;intro _))
 refine T_if rfl (fun h=>by exfalso;simp at h;omega) (fun _=>?_)
 repeat' (first|refine d1 ?_|(show ∀ _:Nat,T _ _ _ _ _;intro _))
 refine T_op (OpT.call rfl rfl rfl rfl rfl (fun w hw=>checkSet_spec A n c xs w (src_below hs hw.below) hn hb) ?_)
 rintro u R ⟨e,he,rfl,rfl⟩
 rw [List.nil_append]
 obtain rfl:e=0:=he.2 hok
 repeat' (first|refine d1 ?_|(show ∀ _:Nat,T _ _ _ _ _;intro _))
 refine T_if rfl (fun h=>by exfalso;simp at h) (fun _=>?_)
 obtain⟨b,o,rfl⟩:=hs.base (by omega)
 obtain⟨y,hy⟩:∃ y,xs[n - 1]?=some y:=⟨_,List.getElem?_eq_getElem (by omega)⟩
 have hry:RdC w b (o+((n:Int) - 1).toNat * 1) [.int .i64 y]:=by
  have:=src_int hs (k:=n - 1) (by omega) hy
  rwa [show ((n - 1:Nat):Int)=(n:Int) - 1 by omega] at this
 have hyN:=hlt y (List.mem_of_getElem? hy)
 repeat' (first|refine d1 ?_|(show T _ (.ops _ (_::_)::_) _ _ _;first|refine T_val rfl (Val.load rfl (fun hg=>rdOld hry)) rfl rfl rfl ?_|refine T_valC rfl (Val.load rfl (fun hg=>rdOld hry)) rfl rfl rfl rfl rfl ?_)|(show T _ (.run _ _ (_::_) _ _::_) _ _ _;first|refine rv rfl rfl rfl (Val.load rfl (fun hg=>rdOld hry)) rfl rfl rfl ?_|refine rg rfl rfl rfl (Val.load rfl (fun hg=>rdOld hry)) rfl rfl rfl rfl rfl ?_)|(show ∀ _:Nat,T _ _ _ _ _;intro _))
 refine T_if rfl (fun h=>by exfalso;simp at h;omega) (fun _=>?_)
 repeat' (first|refine d1 ?_|(show ∀ _:Nat,T _ _ _ _ _;intro _))
 refine T_op (OpT.call rfl rfl rfl rfl rfl (fun w hw=>hasI_spec (some ⟨b,o,none⟩) n c w) ?_)
 rintro u R ⟨b1,-,rfl,rfl⟩
 refine T_le (H':=[blk b1 [.slice (some ⟨b,o,none⟩) n c] 24]) (Hle.refl _) ?_
 repeat' (first|refine d1 ?_|(show ∀ _:Nat,T _ _ _ _ _;intro _))
 rename_i b2
 refine T_op (OpT.call rfl rfl rfl rfl rfl (fun w hw=>membersI_spec (N:Nat) 100 #[.pointer (some ⟨b2,0,none⟩)] w) ?_)
 rintro u R ⟨⟨y1,y2⟩,-,rfl,rfl⟩
 dsimp only
 refine T_le (H':=[blk y2 [.func (.func 100) #[] #[.pointer (some ⟨b2,0,none⟩)]] 53,blk y1 [.int .i64 (N:Nat)] 3,blk b2 [.func (.func 137) #[] #[.pointer (some ⟨b1,0,none⟩)]] 53,blk b1 [.slice (some ⟨b,o,none⟩) n c] 24]) (Hle.refl _) ?_
 refine T_op (OpT.call rfl rfl rfl rfl rfl (fun w1 hw=>collectM_spec (f:=140) (cs:=[.pointer (some ⟨y1,0,none⟩), .pointer (some ⟨y2,0,none⟩)]) (cplI N xs) w1 (fun w2 hb2=>?_) (by have:=setI_len_le N fun i => !decide ((i:Int)∈xs);unfold cplI;omega)) ?_)
 ·have g1:RdC w1 b1 0 [.slice (some ⟨b,o,none⟩) n c]:=rdBlk8 hw
  have g2:RdC w1 b2 0 [.func (.func 137) #[] #[.pointer (some ⟨b1,0,none⟩)]]:=rdBlk8 hw
  have g3:RdC w1 y1 0 [.int .i64 (N:Nat)]:=rdBlk8 hw
  have g4:RdC w1 y2 0 [.func (.func 100) #[] #[.pointer (some ⟨b2,0,none⟩)]]:=rdBlk8 hw
  refine membersI_iter (cs:=[.pointer (some ⟨b2,0,none⟩)]) (g3.below hb2) (g4.below hb2) (by omega) (fun k hk w3 hb3=>?_)
  have hb13:=below_tr hb2 hb3
  refine complC_spec b2 137 [.pointer (some ⟨b1,0,none⟩)] k _ w3 (g2.below hb13) (fun w4 hb4=>?_)
  have hb14:=below_tr hb13 hb4
  exact hasC_spec (some ⟨b,o,none⟩) n c b1 xs k w4 (g1.below hb14) (src_below (src_below hs hw.below) hb14) hn hb hok.asc
 rintro u R ⟨⟨A',c'⟩,-,rfl,rfl⟩
 repeat' (first|refine d1 ?_|refine dd ?_|(show ∀ _:Nat,T _ _ _ _ _;intro _)|(show T _ (.code .ret::_) _ _ _;refine T_retV _ rfl (Hle.append_left (A:=[_]) _) ⟨(A',c'),trivial,rfl,rfl⟩))
end Go.Proofs.YtabhdaehomjlgaaGreat
namespace Go.Proofs.YtabhdaehomjlgaaGreat
open Go.RowKit Go.Shelf
set_option maxRecDepth 100000
set_option maxHeartbeats 1000000

def YieldsK (P:Program) (w0:World) (l:Nat) (GP:Nat→Frag→List HA→Prop) (X:List HA→Prop) (Q:Nat→List Value→Frag→Prop) (n:Nat):Prop :=
 ∀ (j:Nat) (x:List Value) (p q:Frag) (Hj K:List HA) (w:World),j<n→Q j x p→GP j q Hj→Cls w0 w (Hj++(fz p::K)) →
  ∃ f tmps assign body,(Instr.yield l x.toArray).run P w = .ok (.round l f tmps assign body) w∧RoundIn (Fr none) 0 P l f tmps assign body w fun e w' =>
   (e = .returned (.bool true)∧∃ H',GP (j+1) p H'∧Cls w0 w' (H'++K))∨(e = .returned (.bool false)∧∃ Y,X Y∧Cls w0 w' (Y++K))
def IterK (P:Program) (w0:World) (f:FuncId) (fs cs:List Value) (cap:List HA) (Q:Nat→List Value→Frag→Prop) (n:Nat):Prop :=
 Enters P f∧∀ l GP X w q Hj,(∀ j p H,GP j p H→Hle H [fz p])→YieldsK P w0 l GP X Q n→GP 0 q Hj→Cls w0 w (cap++Hj) →
  CallsIn (Fr none) 0 P f (fs++(yv l::cs)).toArray w (RIt w0 cap (fun j H=>∃ p,GP j p H) X n)
theorem iterK_of (S : Sig) {w0 : World} {f : FuncId} {fn : Func} {c : Code} {fs cs : List Value} {cap : List HA} {Q : Nat → List Value → Frag → Prop} {n : Nat} (hf : S.P.funcs[f]? = some fn) (hn : (fn.name == "runtime.NumGoroutine") = false) (hb : fn.body = some c)
  (hlen:Nat.ble (fs.length+(1+cs.length)) fn.ntmps=true)
  (h:∀ l GP X q Hj,(∀ j p H,GP j p H→Hle H [fz p])→YieldsK S.P w0 l GP X Q n→GP 0 q Hj→T (IC S fn.ntmps w0 fn (RIt w0 cap (fun j H=>∃ p,GP j p H) X n)) (nf 60 [.code c]) (zipE 0 (fs++(yv l::cs))) [] (cap++Hj)):IterK S.P w0 f fs cs cap Q n:=by
 refine ⟨enters_of hf hn hb,fun l GP X w q Hj hz hY h0 hw=>callsIn_of_wp_marks (n:=0) hf hb trivial ?_⟩
 generalize hargs:fs++(yv l::cs)=args
 have hlen':args.length≤fn.ntmps:=by
  have:=Nat.le_of_ble_eq_true hlen
  rw [← hargs];simp;omega
 have ha:Agrees ⟨fn.ntmps,[]⟩ (allOf (nf 60 [.code c])) (zipE 0 args) [] { tmps:=args.toArray++Array.replicate (fn.ntmps - args.toArray.size) undef,defers:=[] }:=by
  refine ⟨rfl,by simp;omega,fun s v hv=>?_,fun _ _ _ h=>(by cases h),fun _ _ _ h=>(by cases h)⟩
  obtain⟨_,h2⟩:=zipE_spec args 0 s v hv
  simp only [Nat.sub_zero] at h2
  have hs:s<args.length:=(List.getElem?_eq_some_iff.1 h2).1
  simp [Array.getD_eq_getD_getElem?,Array.getElem?_append,hs]
  rw [List.getElem?_eq_getElem hs] at h2
  simpa using h2
 have h1:=h l GP X q Hj hz hY h0
 rw [hargs] at h1
 have:=nf_spec (h1 _ _ ha hw)
 simp only [sem] at this
 refine wpIn_mono this fun e a w' q=>?_
 cases e <;> first|exact q|exact q.elim
theorem T_rangeK {S:Sig} {m:Nat} {ds:List Deferred} {w0:World} {fn:Func} {Φ:Value→List HA→Prop} {g:Operand} {ps:Array Tmp} {assign body:Code} {k:List It} {env:Env} {ec:EnvC} {H:List HA}
  {f:FuncId} {fs cs:List Value} {cap:List HA} {Q:Nat→List Value→Frag→Prop} {n:Nat} (hit:IterK S.P w0 f fs cs cap Q n)
  (hg:evX env [] [] g=some (.func (.func f) fs.toArray cs.toArray)) (hps:∀ (j:Nat) (x:List Value) (p:Frag),j<n→Q j x p→x.length=ps.size∧inP m (ps.toList.zip x)=true)
  (GP:Nat→Frag→List HA→Prop) (XR:List HA→Prop) (XE:Nat→List HA→Prop) (H0:List HA) (q0:Frag) (hz:∀ j p H,GP j p H→Hle H [fz p]) (h0:GP 0 q0 H0) (hH:Hle H (cap++H0))
  (hround:∀ (L:Nat) (r:Loop) (j:Nat) (x:List Value) (p q:Frag) (Hj K:List HA),r.state = .ready→j<n→Q j x p→GP j q Hj→T (RA (RC S m w0 L (busy r) (fun _ H=>GP (j+1) p H) XR XE j K) L body) (nf 60 [.code assign]) (envP (ps.toList.zip x) env) [] (lrec L r::(Hj++(fz p::K))))
  (hn:∀ D p Hn,GP n p Hn→T (FC S m (mkD D::ds) w0 fn Φ) (nf 60 k) env [] (dfr D::(cap++Hn)))
  (hret:∀ D Hx,XR Hx→T (FC S m (mkD D::ds) w0 fn Φ) (.code .ret::k) env [] (dfr D::(cap++Hx)))
  (hex:∀ D id Hx,XE id Hx→T (FC S m (mkD D::ds) w0 fn Φ) (nf 60 (.code (.exit id)::k)) env [] (dfr D::(cap++Hx))) :
  T (FC S m ds w0 fn Φ) (.code (.rangeFunc g ps assign body)::k) env ec H:=by
 refine T.mk fun a w ha hw=>?_
 have ha0:Agrees ⟨m,ds⟩ #[] env [] a:=ha.plain
 replace hw:=Cls.le hw hH
 refine wpIn_rangeFunc fun fn' _=>?_
 -- the two blocks
 have hw1:=(hw.alloc (.deferred (some [])) (A:=dfr w.heap.size) rfl)
 have hsz:(w.alloc (.deferred (some []))).heap.size=w.heap.size+1:=World.size_alloc _ _
 generalize hD:w.heap.size=D at hw1 hsz
 generalize hr0:({ state := .ready,pending:=none,fn:=fn',tmps:=a.tmps,params:=ps,assign,body,defers:=D }:Loop)=r
 have hrdy:r.state = .ready:=by rw [← hr0]
 have hpd:r.pending=none:=by rw [← hr0]
 have hw2:=(hw1.alloc (.loop r) (A:=lrec (D+1) r) (by rw [hsz];rfl))
 have hen:=run_enterLoop_outer (P:=S.P) (w:=w) fn' a.tmps ps assign body
 rw [hD,hr0] at hen
 have hgv:=evX_spec (all := #[]) ha0 (Holds.nil _ _) hg
 have hargs:(fs.toArray ++ #[yv (D+1)]++cs.toArray)=(fs++(yv (D+1)::cs)).toArray:=Array.ext' (by simp)
 refine ⟨D+1,[mkD D],_,⟨.fn (.func f) cs.toArray,fs.toArray ++ #[yv (D+1)]⟩,(w.alloc (.deferred (some []))).alloc (.loop r),f,(fs++(yv (D+1)::cs)).toArray,(w.alloc (.deferred (some []))).alloc (.loop r),hen,?_,fun _ _=>trivial,?_,fun h=>(by cases h),?_⟩
 ·simp [resolve,hgv,Deferred.ofValue,yv]
  rfl
 ·have:=hit.1 (fs++(yv (D+1)::cs)).toArray ((w.alloc (.deferred (some []))).alloc (.loop r))
  rw [← hargs] at this ⊢
  simpa [invoke] using this
 · -- the rounds
  have hYd:YieldsK S.P w0 (D+1) (fun j q H'=>∃ Hj,H'=lrec (D+1) r::dfr D::Hj∧GP j q Hj) (fun Y=>∃ Hx jump,Y=lrec (D+1) { r with state := .done,pending:=some jump }::dfr D::Hx∧((jump = .ret∧XR Hx)∨∃ id,jump = .exit id∧XE id Hx)) Q n:=by
   rintro j x p q _ K w1 hj hQ ⟨Hj,rfl,hGj⟩ hc
   have hL:=(hc.obj (i:=0) rfl).1
   obtain⟨hxl,hin⟩:=hps j x p hj hQ
   have hy:=run_yield (P:=S.P) (args:=x.toArray) hL (by rw [← hr0];simp [hxl])
   refine ⟨_,_,_,_,hy,roundIn_of_wpIn trivial ?_⟩
   have hc':Cls w0 w1 (lrec (D+1) r::(Hj++(fz p::(dfr D::K)))):=hc.le (Hle.perm (.cons _ (by
    have h1:=(List.perm_middle (a:=dfr D) (l₁:=Hj++[fz p]) (l₂:=K)).symm
    rw [List.append_assoc,List.append_assoc] at h1
    exact h1)))
   have hT:=hround (D+1) r j x p q Hj (dfr D::K) hrdy hj hQ hGj
   have hag:Agrees ⟨m,[]⟩ #[] env [] { tmps:=r.tmps,defers:=[] }:=by
    rw [← hr0]
    exact⟨rfl,ha0.size,ha0.at_,fun _ _ _ h=>(by cases h),fun _ _ _ h=>(by cases h)⟩
   have hag2:=Agrees.putAll (N:=⟨m,[]⟩) (l:=ps.toList.zip x) hin hag
   have htm:(r.params.zip x.toArray).foldl (fun tmps (p:Tmp × Value)=>tmps.setIfInBounds p.1 p.2) r.tmps=(ps.toList.zip x).foldl (fun tmps (p:Nat × Value)=>tmps.setIfInBounds p.1 p.2) r.tmps:=by
    rw [← hr0, ← Array.foldl_toList,Array.toList_zip]
   rw [htm]
   have h1:=nf_spec (hT _ w1 ⟨hag2.defers,hag2.size,hag2.at_,fun _ _ _ h=>(by cases h),fun _ _ _ h=>(by cases h)⟩ hc')
   simp only [sem] at h1
   have hra:r.assign=assign:=by rw [← hr0]
   have hrb:r.body=body:=by rw [← hr0]
   rw [← hra, ← hrb] at h1
   refine wpIn_mono (F:=Fr (some (D+1))) h1 fun e a1 w2 q=>?_
   cases e <;> first|exact q.elim|skip
   obtain⟨w3,hb,hbody⟩:=q
   refine ⟨w3,hb,wpIn_mono hbody fun e a2 w4 q=>?_⟩
   have fin:∀ H':List HA,Cls w0 w4 (lrec (D+1) (busy r)::(H'++(dfr D::K)))→∀ jump,∃ w',(Instr.endRound (D+1) jump).run S.P w4 = .ok (.bool jump.isNone) w'∧Cls w0 w' (lrec (D+1) { r with state:=if jump.isNone then .ready else .done,pending:=jump }::dfr D::(H'++K)):=by
    intro H' hcl jump
    have hL4:=(hcl.obj (i:=0) rfl).1
    refine ⟨_,run_endRound jump hL4,?_⟩
    have:=hcl.putObj (i:=0) rfl (.loop { r with state:=if jump.isNone then .ready else .done,pending:=jump })
    exact this.le (Hle.perm ((List.perm_middle (a:=dfr D) (l₁:=H') (l₂:=K)).cons _))
   cases e with
   | normal =>
    obtain⟨H',g1,g2⟩:=q
    obtain⟨w',e1,e2⟩:=fin H' g2 none
    refine ⟨_,w',e1, .inl ⟨rfl,_,⟨H',rfl,g1⟩,?_⟩⟩
    have er:({ r with state := .ready,pending:=none }:Loop)=r:=by rw [← hr0]
    simp only [Option.isNone_none,if_true] at e2
    rw [er] at e2
    exact e2
   | ret =>
    obtain⟨H',g1,g2⟩:=q
    obtain⟨w',e1,e2⟩:=fin H' g2 (some .ret)
    exact⟨_,w',e1, .inr ⟨rfl,_,⟨H', .ret,rfl, .inl ⟨rfl,g1⟩⟩,e2⟩⟩
   | exit id =>
    obtain⟨H',g1,g2⟩:=q
    obtain⟨w',e1,e2⟩:=fin H' g2 (some (.exit id))
    exact⟨_,w',e1, .inr ⟨rfl,_,⟨H', .exit id,rfl, .inr ⟨id,rfl,g1⟩⟩,e2⟩⟩
   | goto t=>exact q.elim
   | panic c=>exact q.elim
   | outgrown=>exact q.elim
  have hstart:Cls w0 ((w.alloc (.deferred (some []))).alloc (.loop r)) (cap++(lrec (D+1) r::dfr D::H0)):=by
   have h1:Cls w0 ((w.alloc (.deferred (some []))).alloc (.loop r)) (lrec (D+1) r::dfr D::(cap++H0)):=hw2
   exact h1.le (Hle.rot2 _ _ cap H0)
  have hcall:=hit.2 (D+1) _ _ _ _ _ (fun j p H' ⟨Hj,e,hG⟩=>by subst e;exact (Hle.tail _ _).trans ((Hle.tail _ _).trans (hz j p Hj hG))) hYd ⟨H0,rfl,h0⟩ hstart
  have hcall':CallsIn (Fr none) 0 S.P f (fs++(yv (D+1)::cs)).toArray ((w.alloc (.deferred (some []))).alloc (.loop r)) _:=hcall
  refine CallsIn.mono hcall' ?_
  rintro e w3 ⟨⟨v,rfl⟩,hend⟩
  have hsem:=sem_N (FC S m ds w0 fn Φ) ⟨m,mkD D::ds⟩ k
  have hag:∀ all,Agrees ⟨m,mkD D::ds⟩ all env [] { a with defers:=[mkD D]++a.defers }:=fun all =>
   ⟨by simp [ha0.defers],ha0.size,ha0.at_,fun _ _ _ h=>(by cases h),fun _ _ _ h=>(by cases h)⟩
  rcases hend with⟨_,⟨pn,Hn,rfl,hGn⟩,hc⟩|⟨_,⟨Hx,jump,rfl,hj⟩,hc⟩
  ·have hc:=hc.le (Hle.unrot2 _ _ cap Hn)
   have hL:=(hc.obj (i:=0) rfl).1
   refine ⟨none,w3.putObj (D+1) (.loop { r with state := .exhausted }),(run_endLoop hL (by rw [hrdy];intro h;cases h)).trans (by rw [hpd]),?_⟩
   have hc2:=(hc.putObj (i:=0) rfl (.loop { r with state := .exhausted })).le (Hle.tail _ _)
   have:=nf_spec (hn D pn Hn hGn _ _ (hag _) hc2)
   show (sem (FC S m ds w0 fn Φ) k).1 _ _
   rw [← hsem]
   exact this
  ·have hc:=hc.le (Hle.unrot2 _ _ cap Hx)
   have hL:=(hc.obj (i:=0) rfl).1
   refine ⟨_,_,run_endLoop hL (by intro h;cases h),?_⟩
   have hc2:=(hc.putObj (i:=0) rfl (.loop { ({ r with state := .done,pending:=some jump }:Loop) with state := .exhausted })).le (Hle.tail _ _)
   rcases hj with⟨rfl,hX⟩|⟨id,rfl,hX⟩
   ·have:=hret D Hx hX _ _ (hag _) hc2
    have h9:(sem (FC S m (mkD D::ds) w0 fn Φ) (.code .ret::k)).1 _ _:=this
    simp only [sem] at h9
    have h10:sem (FC S m (mkD D::ds) w0 fn Φ) k=sem (FC S m ds w0 fn Φ) k:=hsem
    rw [h10] at h9
    exact h9
   ·have:=nf_spec (hex D id Hx hX _ _ (hag _) hc2)
    simp only [sem] at this
    have h10:sem (FC S m (mkD D::ds) w0 fn Φ) k=sem (FC S m ds w0 fn Φ) k:=hsem
    rw [h10] at this
    exact this

theorem YieldsK.frame {P:Program} {w0:World} {l:Nat} {GP:Nat→Frag→List HA→Prop} {X:List HA→Prop} {Q:Nat→List Value→Frag→Prop} {n:Nat} (E:List HA) (hY:YieldsK P w0 l GP X Q n) :
  YieldsK P w0 l (fun j q H=>∃ H',H=E++H'∧GP j q H') (fun Y=>∃ Y',Y=E++Y'∧X Y') Q n:=by
 rintro j x p q _ K w hj hQ ⟨Hj,rfl,hG⟩ hw
 obtain⟨f,tmps,assign,body,h1,h2⟩:=hY j x p q Hj (E++K) w hj hQ hG (hw.le (Hle.perm (by
  rw [List.append_assoc]
  refine (List.perm_append_comm_assoc E Hj (fz p::K)).trans (List.Perm.append_left _ ?_)
  exact List.perm_append_comm_assoc E [fz p] K)))
 refine ⟨f,tmps,assign,body,h1,RoundIn.mono h2 ?_⟩
 rintro e w' (⟨rfl,H',h3,h4⟩|⟨rfl,Y,h3,h4⟩)
 ·exact .inl ⟨rfl,_,⟨H',rfl,h3⟩,h4.le (Hle.perm (by rw [List.append_assoc];exact List.perm_append_comm_assoc H' E K))⟩
 ·exact .inr ⟨rfl,_,⟨Y,rfl,h3⟩,h4.le (Hle.perm (by rw [List.append_assoc];exact List.perm_append_comm_assoc Y E K))⟩
theorem OpT.yieldK {S:Sig} {m:Nat} {w0:World} {fn:Func} {Ψ:Value→List HA→Prop} {all:Array Oper} {o:Oper} {env:Env} {ec:EnvC} {H:List HA} {d l j:Nat} {x:List Value} {G:GId} {Φ:Env→EnvC→List HA→Prop}
  {GP:Nat→Frag→List HA→Prop} {X:List HA→Prop} {Q:Nat→List Value→Frag→Prop} {n:Nat} {Hj:List HA} {q:Frag} (p:Frag) (K:List HA)
  (hY:YieldsK S.P w0 l GP X Q n) (hg:gOf all env ec o=some G) (he:evYG env ec G o=some (l,x)) (hT:∀ a,Agrees ⟨m,[]⟩ all env ec a→Holds all a G) (hd:o.dst=some d) (hN:Nat.blt d m=true) (hs:safeC all d ec=true) (hj:j<n) (hQ:Q j x p) (hGP:GP j q Hj) (hl:Hle H (Hj++(fz p::K)))
  (ht:∀ H',GP (j+1) p H'→Φ ((d, .bool true)::env) ec (K++H'))
  (hf:∀ Y,X Y→Φ ((d, .bool false)::env) ec (K++Y)):OpT (FC S m [] w0 fn Ψ) all o env ec H Φ:=by
 intro a w ha hw K' Q' hK
 have hH:=hT a ha
 have hwn:=(wanted_iff ha hg).2 hH
 refine ⟨fun _=>?_,fun hn=>(by rw [hwn] at hn;cases hn)⟩
 obtain⟨f,tmps,assign,body,hy,hr⟩:=hY j x p q Hj K w hj hQ hGP (hw.le hl)
 have hdef:=gOf_def hg
 have hex:=evYG_spec ha hH he hy
 unfold Oper.wpIn
 refine ⟨about_Fr o _ w _,?_⟩
 rw [Oper.semAt_eq _ _ _ hdef,hex]
 refine ⟨fun h=>(by cases h),RoundIn.mono hr ?_⟩
 rintro e w' (⟨rfl,H',h1,h2⟩|⟨rfl,Y,h1,h2⟩)
 ·exact hK _ _ _ _ _ (ht H' h1) (by rw [hd];exact ha.put hN hs) (h2.le (Hle.comm _ _))
 ·exact hK _ _ _ _ _ (hf Y h1) (by rw [hd];exact ha.put hN hs) (h2.le (Hle.comm _ _))
end Go.Proofs.YtabhdaehomjlgaaGreat
namespace Go.Proofs.YtabhdaehomjlgaaGreat
open Go.RowKit Go.Shelf Go.Proofs
set_option maxRecDepth 100000
set_option maxHeartbeats 1000000

theorem sortI12_spec (g c n:Nat) (xs:List Int) (w0:World) (K:List HA) (hl:xs.length=n) (h1:1≤n) (h12:n≤12) :
  SpecB Tryz.prog 96 [.slice (some ⟨g,0,none⟩) n c] w0 (row 3 1 (some ⟨g,0,none⟩) c n (xs.map (Value.int .i64))::K)
   (fun _ R=>∃ ys:List Int,(ys.Perm xs∧∀ p q,p<q→q<n→ys.getD p 0≤ys.getD q 0)∧R=row 3 1 (some ⟨g,0,none⟩) c n (ys.map (Value.int .i64))::K):=by
 refine specB_of sg Tryz.func96 rfl rfl rfl ?_
 repeat' (first|refine d1 ?_|refine dd ?_|(show T _ (.ops _ (_::_)::_) _ _ _;refine T_op (OpT.call rfl rfl rfl rfl rfl (fun w hw=>lenT_spec n h12 w) ?_))|(show ∀ _:Nat,T _ _ _ _ _;intro _))
 rintro v R ⟨z,hz,rfl,rfl⟩
 refine T_le (H':=row 3 1 (some ⟨g,0,none⟩) c n (xs.map (Value.int .i64))::K) (Hle.refl _) ?_
 repeat' (first|refine d1 ?_|refine dd ?_|(show T _ (.ops _ (_::_)::_) _ _ _;refine T_op (OpT.callB rfl rfl rfl rfl rfl (pdq_spec g c n z xs w0 K hl h1 h12) ?_))|(show ∀ _:Nat,T _ _ _ _ _;intro _))
 rintro u R ⟨ys,hys,rfl⟩
 repeat' (first|refine d1 ?_|refine dd ?_|(show ∀ _:Nat,T _ _ _ _ _;intro _))
 exact T_fallV (vs:=[]) _ rfl (Hle.refl _) ⟨ys,hys,rfl⟩
def QS (ps:List Int) (ns names:List ByteArray) (XS:List Nat) (j:Nat) (x:List Value) (p:Frag):Prop:=∃ (i:Nat) (y:Value),XS[j]?=some i∧x=[y]∧Rd (fr p) [y] [intsD (plS names (ndT ps ns i))]
def ylT (ps:List Int) (i:Nat):List Nat:=(kdsI ps i ps.length).flatMap (pstT ps)++(if i=0 then [] else [i])
theorem ylT_pos {ps:List Int} (h:upT ps) {i:Nat} (hi:0<i):ylT ps i=pstT ps i:=by
 unfold ylT
 rw [if_neg (by omega),pstT_eq h]
theorem ylT_zero (ps:List Int):ylT ps 0=belT ps:=by
 unfold ylT belT
 rw [if_pos rfl,List.append_nil]
theorem nmsN_ndT_mem {ps:List Int} {ns:List ByteArray} (h:upT ps) {i:Nat} (hi:i<ps.length) {a:ByteArray} (ha:a∈nmsN (ndT ps ns i)):∃ j,j<ps.length∧kdsI ps j ps.length=[]∧a=ns.getD j ByteArray.empty:=by
 unfold nmsN ndT at ha
 rw [lvs_ndF h _ _ hi (by omega),List.map_map] at ha
 obtain⟨j,hj,rfl⟩:=List.mem_map.1 ha
 obtain⟨h1,h2⟩:=List.mem_filter.1 hj
 have h3:∀ f i,i<ps.length→∀ j∈dsc ps ps.length f i,j<ps.length:=by
  intro f
  induction f with
  | zero=>intro i hi j hj;rw [dsc,List.mem_singleton] at hj;omega
  | succ f ih =>
   intro i hi j hj
   rw [dsc] at hj
   rcases List.mem_cons.1 hj with e|e
   ·omega
   ·obtain⟨k,hk,hj⟩:=List.mem_flatMap.1 e
    exact ih k (kdsI_mem.1 hk).1 j hj
 exact⟨j,h3 _ _ hi j h1,List.isEmpty_iff.1 h2,rfl⟩
theorem plS_ne {ps:List Int} {ns names:List ByteArray} (h:upT ps) (hin:∀ i,i<ps.length→kdsI ps i ps.length=[]→ns.getD i ByteArray.empty∈names) {i:Nat} (hi:i<ps.length):plS names (ndT ps ns i)≠[]:=by
 obtain⟨a,ha⟩:=List.exists_mem_of_ne_nil _ (nmsN_ne (ndT ps ns i))
 obtain⟨j,h1,h2,rfl⟩:=nmsN_ndT_mem h hi ha
 obtain⟨k,hk⟩:=List.mem_iff_getElem?.1 (hin j h1 h2)
 exact List.ne_nil_of_mem (plS_mem.2 ⟨k,_,hk,ha,rfl⟩)
theorem findI_at {names:List ByteArray} {a:ByteArray} (h:a∈names):∃ k:Nat,findI (fun x=>decide (a=x)) names=(k:Int)∧names[k]?=some a:=by
 obtain⟨k,y,h1,h2,h3⟩:=findI_has (p:=fun x=>decide (a=x)) h (decide_eq_true rfl)
 have:a=y:=of_decide_eq_true h3
 subst this
 exact⟨k,h1,h2⟩
theorem hle_uc0 {A B C D E:HA} {H:List HA}:Hle (E::A::B::C::D::H) (A::B::C::D::E::H):=hle_pm [1,2,3,4,0] [E,A,B,C,D] H
theorem hle_uc1 {A B C D E:HA} {H:List HA}:Hle (A::B::C::D::E::H) (E::A::B::C::D::H):=hle_pm [4,0,1,2,3] [A,B,C,D,E] H
theorem walkS_spec {w0:World} {l:Nat} {A1 A2 An:Option Addr} {n1 c1 n2 c2 nn cn:Nat} {ps:List Int} {ns names:List ByteArray} (ht:TrA w0 A1 n1 c1 A2 n2 c2 ps ns) (hup:upT ps) (hl2:n1=n2) (hsn:Src w0 1 An nn (names.map Value.string)) (hnn:names.length=nn) (h12:nn≤12) (hnd:names.Nodup)
  (hin:∀ i,i<ps.length→kdsI ps i ps.length=[]→ns.getD i ByteArray.empty∈names) (XS:List Nat) (p1 p2 p3 p4:Nat) :
  ∀ (m:Nat) (GQ:Nat→Frag→List HA→Prop) (X:List HA→Prop) (hz:∀ j p H,GQ j p H→Hle H [fz p]) (hY:YieldsK Tryz.prog w0 l GQ X (QS ps ns names XS) XS.length) (i j:Nat) (q:Frag) (Hj:List HA),i<ps.length→ps.length≤m+i→(nmsN (ndT ps ns i)).Nodup→subAt XS j (ylT ps i)→GQ j q Hj →
  SpecB Tryz.prog 95 [.int .i64 (i:Nat), .pointer (some ⟨p1,0,none⟩), .pointer (some ⟨p2,0,none⟩), .pointer (some ⟨p3,0,none⟩), .pointer (some ⟨p4,0,none⟩)] w0
   (blk p1 [.slice A1 n1 c1, .slice A2 n2 c2] 30::blk p2 [.func (.func 95) #[] #[.pointer (some ⟨p1,0,none⟩), .pointer (some ⟨p2,0,none⟩), .pointer (some ⟨p3,0,none⟩), .pointer (some ⟨p4,0,none⟩)]] 139::blk p3 [.slice An nn cn] 22::blk p4 [yv l] 27::Hj)
   (fun v R=>(∃ (p:Frag) (x:Value) (H':List HA),(GQ (j+(ylT ps i).length) p H'∧(0<i→Rd (fr p) [x] [intsD (plS names (ndT ps ns i))]))∧v = .tuple #[x, .bool true]∧R=blk p1 [.slice A1 n1 c1, .slice A2 n2 c2] 30::blk p2 [.func (.func 95) #[] #[.pointer (some ⟨p1,0,none⟩), .pointer (some ⟨p2,0,none⟩), .pointer (some ⟨p3,0,none⟩), .pointer (some ⟨p4,0,none⟩)]] 139::blk p3 [.slice An nn cn] 22::blk p4 [yv l] 27::H') ∨
    ∃ (x:Value) (Y:List HA),X Y∧v = .tuple #[x, .bool false]∧R=blk p1 [.slice A1 n1 c1, .slice A2 n2 c2] 30::blk p2 [.func (.func 95) #[] #[.pointer (some ⟨p1,0,none⟩), .pointer (some ⟨p2,0,none⟩), .pointer (some ⟨p3,0,none⟩), .pointer (some ⟨p4,0,none⟩)]] 139::blk p3 [.slice An nn cn] 22::blk p4 [yv l] 27::Y)
 | 0,_,_,_,_,i,_,_,_,h1,h2,_,_,_=>by omega
 | m+1,GQ,X,hz,hY,i,j,q,Hj,hi,hm,hndi,hs,hG=>by
  have hl1:=ht.l1
  have hl9:=ht.l2
  have hb1:=ht.b1
  subst hl2
  obtain⟨g1,o1,rfl⟩:=ht.s1.base (by omega)
  obtain⟨g2,o2,rfl⟩:=ht.s2.base (by omega)
  refine specB_of sg Tryz.func95 rfl rfl rfl ?_
  generalize hcl:(Value.func (.func 95) #[] #[.pointer (some ⟨p1,0,none⟩), .pointer (some ⟨p2,0,none⟩), .pointer (some ⟨p3,0,none⟩), .pointer (some ⟨p4,0,none⟩)])=cl
  have heq:=ndT_eq (ns:=ns) hup i
  have hkn:((kdsI ps i ps.length).map (ndT ps ns)).flatMap nmsN=nmsN (ndT ps ns i)∨kdsI ps i ps.length=[]:=by
   by_cases h0:kdsI ps i ps.length=[]
   ·exact .inr h0
   ·refine .inl ?_
    rw [heq,nmsN_node (by simpa using h0)]
  repeat' (first|refine d1 ?_|(show ∀ _:Nat,T _ _ _ _ _;intro _))
  refine T_nilrow 3 1 ?_
  refine T_le hle_uc0 ?_
  refine T_loopX (fun s:(Nat × List Int × Option Addr × Nat) × List HA=>[(16, .int .i64 (s.1.1:Nat)),(8, .slice s.1.2.2.1 s.1.2.1.length s.1.2.2.2)]) (fun s=>blk p1 [.slice (some ⟨g1,o1,none⟩) n1 c1, .slice (some ⟨g2,o2,none⟩) n1 c2] 30::blk p2 [cl] 139::blk p3 [.slice An nn cn] 22::blk p4 [yv l] 27::row 3 1 s.1.2.2.1 s.1.2.2.2 s.1.2.1.length (s.1.2.1.map (Value.int .i64))::s.2)
   (fun s=>s.1.1≤n1∧s.1.2.1=(kdsI ps i s.1.1).flatMap (fun k=>plS names (ndT ps ns k))∧∃ q,GQ (j+((kdsI ps i s.1.1).flatMap (pstT ps)).length) q s.2) (fun s=>n1 - s.1.1) ((0,[],none,0),Hj) ⟨Nat.zero_le _,rfl,q,hG⟩ ?_
  rintro⟨⟨k,res,A',c'⟩,H1⟩ ⟨hk,hres,q1,hG1⟩
  dsimp only at hk hres hG1 ⊢
  repeat' (first|refine d1 ?_|(show ∀ _:Nat,T _ _ _ _ _;intro _))
  refine T_if rfl (fun h=>?_) (fun h=>?_)
  ·simp only [decide_eq_true_eq] at h
   obtain⟨r,hr⟩:∃ r,ps[k]?=some r:=⟨_,List.getElem?_eq_getElem (by omega)⟩
   have hr1:=src_int ht.s1 (k:=k) (by omega) hr
   have hrd:ps.getD k (-1)=r:=by rw [List.getD_eq_getElem?_getD,hr];rfl
   repeat' (first|refine d1 ?_|(show T _ (.ops _ (_::_)::_) _ _ _;first|refine T_val rfl (Val.load rfl (fun hg=>rdOld hr1)) rfl rfl rfl ?_|refine T_valC rfl (Val.load rfl (fun hg=>rdOld hr1)) rfl rfl rfl rfl rfl ?_)|(show T _ (.run _ _ (_::_) _ _::_) _ _ _;first|refine rv rfl rfl rfl (Val.load rfl (fun hg=>rdOld hr1)) rfl rfl rfl ?_|refine rg rfl rfl rfl (Val.load rfl (fun hg=>rdOld hr1)) rfl rfl rfl rfl rfl ?_)|(show ∀ _:Nat,T _ _ _ _ _;intro _))
   refine T_if rfl (fun h2=>?_) (fun h2=>?_)
   ·simp only [Bool.not_eq_true',decide_eq_false_iff_not] at h2
    have hks:=kdsI_succ ps i k
    rw [if_neg (by rw [hrd];exact h2),List.append_nil] at hks
    repeat' (first|refine d1 ?_|(show ∀ _:Nat,T _ _ _ _ _;intro _))
    exact T_backX ((k+1,res,A',c'),H1) ⟨by dsimp only;omega,by dsimp only;rw [hks];exact hres,q1,by dsimp only;rw [hks];exact hG1⟩ (by dsimp only;omega)
   ·simp only [Bool.not_eq_false',decide_eq_true_eq] at h2
    have hks:=kdsI_succ ps i k
    rw [if_pos (by rw [hrd];exact h2)] at hks
    have hkj:k∈kdsI ps i ps.length:=kdsI_mem.2 ⟨by omega,by rw [hrd];exact h2⟩
    have hki:=hup.gt (Nat.le_refl _) hkj
    have hk0:0<k:=by omega
    obtain⟨t,ht9⟩:=kdsI_pre ps i (k+1) (ps.length - (k+1))
    rw [show k+1+(ps.length - (k+1))=ps.length by omega,hks,List.append_assoc] at ht9
    have hsk:subAt XS (j+((kdsI ps i k).flatMap (pstT ps)).length) (ylT ps k):=by
     rw [ylT_pos hup hk0]
     have h3:=hs
     unfold ylT at h3
     rw [ht9,List.flatMap_append,List.append_assoc] at h3
     have h4:=h3.app.2
     rw [List.flatMap_append,List.append_assoc,List.flatMap_singleton] at h4
     exact h4.app.1
    have hndk:(nmsN (ndT ps ns k)).Nodup:=by
     rcases hkn with h3|h3
     ·rw [← h3] at hndi
      rw [ht9,List.map_append,List.map_append,List.flatMap_append,List.flatMap_append] at hndi
      have h5:=(List.nodup_append.1 (List.nodup_append.1 hndi).2.1).1
      simpa using h5
     ·rw [h3] at hkj;cases hkj
    repeat' (first|refine d1 ?_|(show ∀ _:Nat,T _ _ _ _ _;intro _))
    subst hcl
    refine T_op (OpT.callB rfl rfl rfl rfl rfl (walkS_spec ht hup rfl hsn hnn h12 hnd hin XS p1 p2 p3 p4 m (fun j q H=>∃ H',H=[row 3 1 A' c' res.length (res.map (Value.int .i64))]++H'∧GQ j q H') (fun Y=>∃ Y',Y=[row 3 1 A' c' res.length (res.map (Value.int .i64))]++Y'∧X Y') (by
     rintro j p _ ⟨H',rfl,h⟩
     exact (Hle.tail _ _).trans (hz j p H' h)) (hY.frame _) k _ q1 _ (by omega) (by omega) hndk hsk ⟨H1,rfl,hG1⟩) ?_)
    rintro u R (⟨p,x,_,⟨⟨H2,rfl,hG2⟩,hx⟩,rfl,rfl⟩|⟨x,_,⟨Y,rfl,hX⟩,rfl,rfl⟩)
    ·have hz2:=hz _ _ _ hG2
     have hx:=hx hk0
     obtain⟨B,cb,rfl,hxl⟩:=hx.row1
     refine T_le (H':=blk p1 [.slice (some ⟨g1,o1,none⟩) n1 c1, .slice (some ⟨g2,o2,none⟩) n1 c2] 30::blk p2 [.func (.func 95) #[] #[.pointer (some ⟨p1,0,none⟩), .pointer (some ⟨p2,0,none⟩), .pointer (some ⟨p3,0,none⟩), .pointer (some ⟨p4,0,none⟩)]] 139::blk p3 [.slice An nn cn] 22::blk p4 [yv l] 27::row 3 1 A' c' res.length (res.map (Value.int .i64))::H2) (Hle.refl _) ?_
     repeat' (first|refine d1 ?_|(show ∀ _:Nat,T _ _ _ _ _;intro _))
     refine T_if rfl (fun h3=>by exfalso;simp at h3) (fun _=>?_)
     have hsz:(plS names (ndT ps ns k)).length≤nn:=by rw [← hnn];exact setI_len_le _ _
     have hres2:res.length≤k * 12:=by
      rw [hres]
      refine Nat.le_trans (flat_lenC (c:=12) fun y _=>?_) (Nat.mul_le_mul_right _ (kdsI_len ps i k))
      exact Nat.le_trans (setI_len_le _ _) (by omega)
     repeat' (first|refine d1 ?_|(show ∀ _:Nat,T _ _ _ _ _;intro _))
     refine T_op (OpT.append (A:=A') (m:=(plS names (ndT ps ns k)).length) rfl rfl rfl rfl rfl rfl rfl rfl rfl rfl (fun w hw=>(hx.own (hw.le ((Hle.tail _ _).trans ((Hle.tail _ _).trans ((Hle.tail _ _).trans ((Hle.tail _ _).trans ((Hle.tail _ _).trans hz2))))))).intsAt) (oneInts _) (by dsimp only;omega) (by omega) (fun A3 c3 hA3=>?_))
     repeat' (first|refine d1 ?_|(show ∀ _:Nat,T _ _ _ _ _;intro _))
     have hlr:(res++plS names (ndT ps ns k)).length=res.length+(plS names (ndT ps ns k)).length:=List.length_append
     refine T_backX ((k+1,res++plS names (ndT ps ns k),A3,c3),H2) ⟨by dsimp only;omega,?_,p,?_⟩ (by dsimp only;omega) (hE:=⟨rfl,by dsimp only;rw [hlr];rfl,trivial⟩) (hG:=?_)
     ·dsimp only;rw [hks,List.flatMap_append,List.flatMap_singleton,hres]
     ·dsimp only
      rw [hks,List.flatMap_append,List.flatMap_singleton,List.length_append, ← Nat.add_assoc, ← ylT_pos hup hk0];exact hG2
     ·dsimp only;rw [hlr,List.map_append];exact Hle.refl _
    ·repeat' (first|refine d1 ?_|(show ∀ _:Nat,T _ _ _ _ _;intro _))
     refine T_if rfl (fun _=>?_) (fun h3=>by exfalso;simp at h3)
     repeat' (first|refine d1 ?_|refine dd ?_|(show ∀ _:Nat,T _ _ _ _ _;intro _)|(show T _ (.code .ret::_) _ _ _;refine T_retV _ rfl ((show Hle (_::_::_::_::_::Y) _ from hle_pm [0,1,2,3] [_,_,_,_,_] Y)) (.inr ⟨_,Y,hX,rfl,rfl⟩)))
  ·simp only [decide_eq_false_iff_not] at h
   obtain rfl:k=n1:=by omega
   rw [← hl1] at hres hG1
   have hin2:∀ z∈res,0≤z∧z<nn:=fun z hz=>by
    rw [hres] at hz
    obtain⟨y,-,hy⟩:=List.mem_flatMap.1 hz
    have:=setI_lo hy
    rw [hnn] at this;exact this
   -- what the node has,sorted
   repeat' (first|refine d1 ?_|(show ∀ _:Nat,T _ _ _ _ _;intro _))
   refine T_cutX 1 [8] (fun s:(Nat × Nat) × List Int=>[(8, .slice (some ⟨s.1.1,0,none⟩) s.2.length s.1.2)]) (fun s=>blk p1 [.slice (some ⟨g1,o1,none⟩) k c1, .slice (some ⟨g2,o2,none⟩) k c2] 30::blk p2 [cl] 139::blk p3 [.slice An nn cn] 22::blk p4 [yv l] 27::row 3 1 (some ⟨s.1.1,0,none⟩) s.1.2 s.2.length (s.2.map (Value.int .i64))::H1)
    (fun s=>(1≤s.2.length∧s.2.length≤12)∧∀ ys:List Int,ys.Perm s.2→(∀ p q,p<q→q<ys.length→ys.getD p 0≤ys.getD q 0)→ys=plS names (ndT ps ns i)) ?_ ?_
   ·refine T_if rfl (fun h2=>?_) (fun h2=>?_)
    ·simp only [decide_eq_true_eq] at h2
     have hr0:res=[]:=List.eq_nil_of_length_eq_zero (by omega)
     have hk0:kdsI ps i ps.length=[]:=by
      refine List.eq_nil_iff_forall_not_mem.2 fun y hy=>?_
      have h3:=plS_ne (names:=names) hup hin (kdsI_mem.1 hy).1
      refine h3 (List.eq_nil_iff_forall_not_mem.2 fun z hz=>?_)
      have:z∈res:=by rw [hres];exact List.mem_flatMap.2 ⟨y,hy,hz⟩
      rw [hr0] at this;cases this
     obtain⟨a,ha⟩:∃ a,ns[i]?=some a:=⟨_,List.getElem?_eq_getElem (by omega)⟩
     have hs2:=src_str ht.s2 (k:=i) (by omega) ha
     have had:ns.getD i ByteArray.empty=a:=by rw [List.getD_eq_getElem?_getD,ha];rfl
     obtain⟨z,hz1,hz2⟩:=findI_at (names:=names) (a:=a) (by rw [← had];exact hin i hi hk0)
     have hle:plS names (ndT ps ns i)=[(z:Int)]:=by
      rw [heq,hk0,had]
      exact plS_leaf hnd hz2
     repeat' (first|refine d1 ?_|(show ∀ _:Nat,T _ _ _ _ _;intro _))
     refine rsH [blk p1 [.slice (some ⟨g1,o1,none⟩) k c1, .slice (some ⟨g2,o2,none⟩) k c2] 30,blk p2 [cl] 139,blk p3 [.slice An nn cn] 22,blk p4 [yv l] 27] 1000 [0,1,2,3,4,5,6,7,8] ?_
     repeat' (first|refine d1 ?_|refine dd ?_|(show T _ (.ops _ (_::_)::_) _ _ _;first|refine T_val rfl (Val.load rfl (fun hg=>rdOld hs2)) rfl rfl rfl ?_|refine T_valC rfl (Val.load rfl (fun hg=>rdOld hs2)) rfl rfl rfl rfl rfl ?_|refine T_call rfl rfl rfl rfl rfl (fun w hw=>indexStr_spec An nn cn names a w (src_below hsn hw.below) hnn (by omega)) ?_|refine T_callC rfl rfl rfl rfl rfl rfl rfl (fun hg w hw=>indexStr_spec An nn cn names a w (src_below hsn hw.below) hnn (by omega)) ?_)|(show T _ (.run _ _ (_::_) _ _::_) _ _ _;first|refine rv rfl rfl rfl (Val.load rfl (fun hg=>rdOld hs2)) rfl rfl rfl ?_|refine rg rfl rfl rfl (Val.load rfl (fun hg=>rdOld hs2)) rfl rfl rfl rfl rfl ?_|refine rc rfl rfl rfl rfl rfl rfl rfl (fun w hw=>indexStr_spec An nn cn names a w (src_below hsn hw.below) hnn (by omega)) ?_|refine rcG rfl rfl rfl rfl rfl rfl rfl rfl rfl (fun hg w hw=>indexStr_spec An nn cn names a w (src_below hsn hw.below) hnn (by omega)) ?_)|(show ∀ _:Nat,T _ _ _ _ _;intro _))
     rw [hz1]
     repeat' (first|refine d1 ?_|refine dd ?_|(show T _ (.run _ _ (_::_) _ _::_) _ _ _;refine ro rfl rfl (OpT.litW rfl rfl rfl rfl rfl rfl rfl rfl rfl rfl rfl (fun b3=>⟨fun _=>Hle.sub,?_⟩)))|(show ∀ _:Nat,T _ _ _ _ _;intro _))
     refine T_meetX ((b3,1),[(z:Int)]) ⟨⟨Nat.le_refl 1,(show (1:Nat)≤12 by decide)⟩,fun ys hp _=>?_⟩ (hG:=?_)
     ·rw [hle];exact List.perm_singleton.1 hp
     ·exact (Hle.weaken (i:=0) rfl (blk_row (sz:=1) (n:=1) rfl (by simp only [maxLen];omega)) rfl).trans (hle_pm [1,2,3,4,0] [_,_,_,_,_,_] H1)
    ·simp only [decide_eq_false_iff_not] at h2
     refine T_le hle_uc1 ?_
     refine T_rowAt (by omega) ?_
     rintro g rfl
     refine T_le hle_uc0 ?_
     have hk0:kdsI ps i ps.length≠[]:=fun e=>h2 (by rw [hres,e];rfl)
     have hkn2:=hkn.resolve_right hk0
     rw [← hkn2] at hndi
     have hrn:res.Nodup:=by
      have:=plS_nodup (names:=names) hndi
      rw [List.flatMap_map] at this
      rw [hres];exact this
     refine T_meetX ((g,c'),res) ⟨⟨by dsimp only;omega,Nat.le_trans (nd_len nn hrn hin2) h12⟩,fun ys hp hs=>?_⟩
     rw [heq]
     exact srt_plS (by simpa using hk0) hndi (by rw [List.flatMap_map, ← hres];exact hp) hs
   ·rintro⟨⟨g,cg⟩,us⟩ ⟨⟨hu1,hu12⟩,hus⟩
    dsimp only at hu1 hu12 hus ⊢
    repeat' (first|refine d1 ?_|(show ∀ _:Nat,T _ _ _ _ _;intro _))
    refine T_le hle_uc1 ?_
    refine T_op (OpT.callB rfl rfl rfl rfl rfl (sortI12_spec g cg us.length us w0 _ rfl hu1 hu12) ?_)
    rintro u R ⟨ys,⟨hyp,hys⟩,rfl⟩
    obtain rfl:ys=plS names (ndT ps ns i):=hus ys hyp (fun p q hp hq=>hys p q hp (by rw [← hyp.length_eq];exact hq))
    have hyl:=hyp.length_eq
    rw [← hyl]
    refine T_le dat_rowV ?_
    refine T_open fun p hp=>?_
    have hp':Rd (fr p) [.slice (some ⟨g,0,none⟩) (plS names (ndT ps ns i)).length cg] [intsD (plS names (ndT ps ns i))]:=by
     rw [List.map_map] at hp;exact hp
    subst hcl
    repeat' (first|refine d1 ?_|(show ∀ _:Nat,T _ _ _ _ _;intro _))
    cases hi0:decide ((i:Int)=0) with
    | true =>
     have hi0:i=0:=by have:=of_decide_eq_true hi0;omega
     have hyl9:(ylT ps i).length=((kdsI ps i ps.length).flatMap (pstT ps)).length:=by unfold ylT;rw [if_pos hi0,List.append_nil]
     rw [← hyl9] at hG1
     refine T_op (OpT.never (.bool false) rfl (fun hg9=>by have h10:(true:Bool)=false:=hg9.1;cases h10) rfl rfl rfl rfl rfl ?_)
     repeat' (first|refine d1 ?_|refine dd ?_|(show ∀ _:Nat,T _ _ _ _ _;intro _)|(show T _ (.code .ret::_) _ _ _;refine T_retV _ rfl (Hle.tail _ _) (.inl ⟨q1,_,H1,⟨hG1,fun h=>by omega⟩,rfl,rfl⟩)))
    | false =>
     have hi0:0<i:=by have:=of_decide_eq_false hi0;omega
     have hyl9:ylT ps i=(kdsI ps i ps.length).flatMap (pstT ps)++[i]:=by unfold ylT;rw [if_neg (by omega)]
     rw [hyl9] at hs
     have hat:=hs.app.2.cons.1
     refine T_op (OpT.yieldK p [blk p1 [.slice (some ⟨g1,o1,none⟩) k c1, .slice (some ⟨g2,o2,none⟩) k c2] 30,blk p2 [.func (.func 95) #[] #[.pointer (some ⟨p1,0,none⟩), .pointer (some ⟨p2,0,none⟩), .pointer (some ⟨p3,0,none⟩), .pointer (some ⟨p4,0,none⟩)]] 139,blk p3 [.slice An nn cn] 22,blk p4 [yv l] 27] hY rfl rfl (Holds.of1 rfl rfl rfl) rfl rfl rfl (List.getElem?_eq_some_iff.1 hat).1 ⟨i,_,hat,rfl,hp'⟩ hG1 (Hle.comm [_,_,_,_,_] H1) (fun H2 hG2=>?_) (fun Y hX=>?_))
     ·refine T_le (H':=blk p1 [.slice (some ⟨g1,o1,none⟩) k c1, .slice (some ⟨g2,o2,none⟩) k c2] 30::_) (Hle.refl _) ?_
      repeat' (first|refine d1 ?_|refine dd ?_|(show ∀ _:Nat,T _ _ _ _ _;intro _)|(show T _ (.code .ret::_) _ _ _;refine T_retV _ rfl (Hle.refl _) (.inl ⟨p,_,H2,⟨by rw [hyl9,List.length_append, ← Nat.add_assoc];exact hG2,fun _=>hp'⟩,rfl,rfl⟩)))
     ·refine T_le (H':=blk p1 [.slice (some ⟨g1,o1,none⟩) k c1, .slice (some ⟨g2,o2,none⟩) k c2] 30::_) (Hle.refl _) ?_
      repeat' (first|refine d1 ?_|refine dd ?_|(show ∀ _:Nat,T _ _ _ _ _;intro _)|(show T _ (.code .ret::_) _ _ _;refine T_retV _ rfl (Hle.refl _) (.inr ⟨_,Y,hX,rfl,rfl⟩)))
end Go.Proofs.YtabhdaehomjlgaaGreat
namespace Go.Proofs.YtabhdaehomjlgaaGreat
open Go.RowKit Go.Shelf Go.Proofs
set_option maxRecDepth 100000
set_option maxHeartbeats 1000000

theorem belowS_spec (A1 A2 An:Option Addr) (n1 c1 n2 c2 nn cn:Nat) (w:World):Spec Tryz.prog 53 [.agg #[.slice A1 n1 c1, .slice A2 n2 c2], .slice An nn cn] w
  (fun v R=>∃ y:Nat × Nat,True∧v = .func (.func 94) #[] #[.pointer (some ⟨y.1,0,none⟩), .pointer (some ⟨y.2,0,none⟩)]∧R=[blk y.2 [.slice An nn cn] 22,blk y.1 [.slice A1 n1 c1, .slice A2 n2 c2] 30]):=by
 refine spec_of sg Tryz.func53 rfl rfl rfl ?_
 repeat' (first|(show T _ (.ops _ (⟨_, .box _ _,_,_,_,_⟩::_)::_) _ _ _;first|refine T_op (OpT.box (cs:=[.slice A1 n1 c1, .slice A2 n2 c2]) rfl rfl rfl rfl rfl rfl rfl (fun _=>?_))|refine T_op (OpT.box (cs:=[.slice An nn cn]) rfl rfl rfl rfl rfl rfl rfl (fun _=>?_)))|refine d1 ?_|refine dd ?_|(show ∀ _:Nat,T _ _ _ _ _;intro _)|(show T _ (.code .ret::_) _ _ _;refine T_retV _ rfl (Hle.refl _) ⟨(_,_),trivial,rfl,rfl⟩))
theorem belowS_iter {w0:World} {A1 A2 An:Option Addr} {n1 c1 c2 nn cn:Nat} {ps:List Int} {ns names:List ByteArray} (ht:TrA w0 A1 n1 c1 A2 n1 c2 ps ns) (hok:tOk ps ns) (hsn:Src w0 1 An nn (names.map Value.string)) (hnn:names.length=nn) (h12:nn≤12) (hnd:names.Nodup)
  (hin:∀ i,i<ps.length→kdsI ps i ps.length=[]→ns.getD i ByteArray.empty∈names) (b1 b2:Nat) :
  IterK Tryz.prog w0 94 [] [.pointer (some ⟨b1,0,none⟩), .pointer (some ⟨b2,0,none⟩)] [blk b2 [.slice An nn cn] 22,blk b1 [.slice A1 n1 c1, .slice A2 n1 c2] 30] (QS ps ns names (belT ps)) (belT ps).length:=by
 refine iterK_of sg Tryz.func94 rfl rfl rfl ?_
 intro l' GQ X q Hj hz hY h0
 show T _ _ _ _ (blk b2 [.slice An nn cn] 22::blk b1 [.slice A1 n1 c1, .slice A2 n1 c2] 30::Hj)
 repeat' (first|(show T _ (.ops _ (⟨_, .box _ _,_,_,_,_⟩::_)::_) _ _ _;refine T_op (OpT.box (cs:=[yv l']) rfl rfl rfl rfl rfl rfl rfl (fun _=>?_)))|refine d1 ?_|refine dd ?_|(show ∀ _:Nat,T _ _ _ _ _;intro _))
 rename_i t2 t3
 refine T_le (H':=blk b1 [.slice A1 n1 c1, .slice A2 n1 c2] 30::blk t3 [.func (.func 95) #[] #[.pointer (some ⟨b1,0,none⟩), .pointer (some ⟨t3,0,none⟩), .pointer (some ⟨b2,0,none⟩), .pointer (some ⟨t2,0,none⟩)]] 139::blk b2 [.slice An nn cn] 22::blk t2 [yv l'] 27::Hj) (hle_pm [3,0,2,1] [_,_,_,_] Hj) ?_
 refine T_op (OpT.callB rfl rfl rfl rfl rfl (walkS_spec ht hok.up rfl hsn hnn h12 hnd hin (belT ps) b1 t3 b2 t2 ps.length GQ X hz hY 0 0 q Hj hok.pos (by omega) (nms_nodup hok) (by rw [ylT_zero];exact subAt.refl _) h0) ?_)
 rintro u R (⟨p,x,H',⟨hG,-⟩,rfl,rfl⟩|⟨x,Y,hX,rfl,rfl⟩)
 ·rw [Nat.zero_add,ylT_zero] at hG
  repeat' (first|refine d1 ?_|refine dd ?_|(show ∀ _:Nat,T _ _ _ _ _;intro _)|(show T _ _ _ _ _;refine T_ifall rfl H' ⟨p,hG⟩ (hle_pm [2,0] [_,_,_,_] H')))
 ·repeat' (first|refine d1 ?_|refine dd ?_|(show ∀ _:Nat,T _ _ _ _ _;intro _)|(show T _ _ _ _ _;refine T_istopf rfl Y hX (hle_pm [2,0] [_,_,_,_] Y)))
theorem T_rowCap {C:Cx} {k:List It} {env:Env} {ec:EnvC} {H:List HA} {A:Option Addr} {e:TypeId} {sz cap n:Nat} {xs:List Value} (h:n≤cap∧cap≤9223372036854775807→T C k env ec (row e sz A cap n xs::H)):T C k env ec (row e sz A cap n xs::H):=by
 refine T.mk fun a w ha hw=>?_
 obtain⟨F,h1,h2,h3⟩:=hw.sep
 obtain⟨hl,hr⟩:=h1 0 _ rfl
 rcases hr with⟨e1,e2,e3,e4⟩|⟨b,cur,e1,e2,e3,e4,e5⟩
 ·exact (h ⟨by omega,by omega⟩).go a w ha hw
 ·exact (h ⟨e3,by simp only [maxLen] at e4;exact e4⟩).go a w ha hw

theorem compareL_spec (x y:Value) (p q:List Int) (w:World) (hx:Rd (wr w) [x] [intsD p]) (hy:Rd (wr w) [y] [intsD q]) :
  Spec Tryz.prog 45 [x,y] w (fun v R=>v = .int .i64 (cmpLs p q)∧R=[]):=by
 obtain⟨A,ca,rfl,hnb,hl⟩:=hx.ints
 obtain⟨B,cb,rfl,hmb,hb⟩:=hy.ints
 refine spec_of sg Tryz.func45 rfl rfl rfl ?_
 repeat' (first|refine d1 ?_|refine dd ?_|(show ∀ _:Nat,T _ _ _ _ _;intro _))
 refine T_loopX (fun k:Nat=>[(11, .int .i64 (k:Nat))]) (fun _=>[]) (fun k=>(k≤p.length∧k≤q.length)∧cmpLs p q=cmpLs (p.drop k) (q.drop k)) (fun k=>p.length - k) 0 ⟨⟨Nat.zero_le _,Nat.zero_le _⟩,rfl⟩ ?_
 rintro k ⟨⟨hk1,hk2⟩,hc⟩
 repeat' (first|refine d1 ?_|refine dd ?_|(show ∀ _:Nat,T _ _ _ _ _;intro _))
 refine T_if rfl (fun h3=>?_) (fun h3=>?_)
 ·simp only [decide_eq_true_eq] at h3
  have hkn:k<p.length:=by omega
  obtain⟨ba,oa,rfl⟩:=hl.base (by omega)
  obtain⟨u,hu⟩:∃ u,p[k]?=some u:=⟨_,List.getElem?_eq_getElem hkn⟩
  have hr1:=src_int hl (k:=k) hkn hu
  have hpd:p.drop k=u::p.drop (k+1):=by
   obtain⟨h5,h6⟩:=List.getElem?_eq_some_iff.1 hu
   rw [← h6];exact List.drop_eq_getElem_cons h5
  rw [hpd] at hc
  repeat' (first|refine d1 ?_|refine dd ?_|(show T _ (.ops _ (_::_)::_) _ _ _;first|refine T_val rfl (Val.load rfl (fun hg=>rdOld hr1)) rfl rfl rfl ?_|refine T_valC rfl (Val.load rfl (fun hg=>rdOld hr1)) rfl rfl rfl rfl rfl ?_)|(show T _ (.run _ _ (_::_) _ _::_) _ _ _;first|refine rv rfl rfl rfl (Val.load rfl (fun hg=>rdOld hr1)) rfl rfl rfl ?_|refine rg rfl rfl rfl (Val.load rfl (fun hg=>rdOld hr1)) rfl rfl rfl rfl rfl ?_)|(show ∀ _:Nat,T _ _ _ _ _;intro _))
  refine T_if rfl (fun h4=>?_) (fun h4=>?_)
  ·simp only [decide_eq_true_eq] at h4
   have hqd:q.drop k=[]:=List.drop_eq_nil_of_le (by omega)
   rw [hqd] at hc
   repeat' (first|refine d1 ?_|refine dd ?_|(show ∀ _:Nat,T _ _ _ _ _;intro _)|(show T _ (.code .ret::_) _ _ _;refine T_retV [] rfl (Hle.none _) ⟨by rw [hc];rfl,rfl⟩))
  simp only [decide_eq_false_iff_not] at h4
  obtain⟨bb,ob,rfl⟩:=hb.base (by omega)
  obtain⟨v,hv⟩:∃ v,q[k]?=some v:=⟨_,List.getElem?_eq_getElem (by omega)⟩
  have hr2:=src_int hb (k:=k) (by omega) hv
  have hqd:q.drop k=v::q.drop (k+1):=by
   obtain⟨h5,h6⟩:=List.getElem?_eq_some_iff.1 hv
   rw [← h6];exact List.drop_eq_getElem_cons h5
  rw [hqd] at hc
  have hc9:cmpLs (u::p.drop (k+1)) (v::q.drop (k+1))=if cmpI u v≠0 then cmpI u v else cmpLs (p.drop (k+1)) (q.drop (k+1)):=rfl
  rw [hc9] at hc
  repeat' (first|refine d1 ?_|refine dd ?_|(show T _ (.ops _ (_::_)::_) _ _ _;first|refine T_val rfl (Val.load rfl (fun hg=>rdOld hr2)) rfl rfl rfl ?_|refine T_valC rfl (Val.load rfl (fun hg=>rdOld hr2)) rfl rfl rfl rfl rfl ?_|refine T_call rfl rfl rfl rfl rfl (fun w hw=>cmpI_spec u v w) ?_|refine T_callC rfl rfl rfl rfl rfl rfl rfl (fun hg w hw=>cmpI_spec u v w) ?_)|(show T _ (.run _ _ (_::_) _ _::_) _ _ _;first|refine rv rfl rfl rfl (Val.load rfl (fun hg=>rdOld hr2)) rfl rfl rfl ?_|refine rg rfl rfl rfl (Val.load rfl (fun hg=>rdOld hr2)) rfl rfl rfl rfl rfl ?_|refine rc rfl rfl rfl rfl rfl rfl rfl (fun w hw=>cmpI_spec u v w) ?_|refine rcG rfl rfl rfl rfl rfl rfl rfl rfl rfl (fun hg w hw=>cmpI_spec u v w) ?_)|(show ∀ _:Nat,T _ _ _ _ _;intro _))
  refine T_if rfl (fun h5=>?_) (fun h5=>?_)
  ·simp only [Bool.not_eq_true',decide_eq_false_iff_not] at h5
   rw [if_pos h5] at hc
   repeat' (first|refine d1 ?_|refine dd ?_|(show ∀ _:Nat,T _ _ _ _ _;intro _)|(show T _ (.code .ret::_) _ _ _;refine T_retV [] rfl (Hle.none _) ⟨by rw [hc];rfl,rfl⟩))
  ·simp only [Bool.not_eq_false',decide_eq_true_eq] at h5
   rw [if_neg (fun h=>h h5)] at hc
   repeat' (first|refine d1 ?_|refine dd ?_|(show ∀ _:Nat,T _ _ _ _ _;intro _))
   exact T_backX (k+1) ⟨⟨by omega,by omega⟩,hc⟩ (by omega)
 ·simp only [decide_eq_false_iff_not] at h3
  have hpd:p.drop k=[]:=List.drop_eq_nil_of_le (by omega)
  rw [hpd] at hc
  repeat' (first|refine d1 ?_|refine dd ?_|(show ∀ _:Nat,T _ _ _ _ _;intro _))
  refine T_if rfl (fun h4=>?_) (fun h4=>?_)
  ·simp only [decide_eq_true_eq] at h4
   obtain⟨v,hv⟩:∃ v,q[k]?=some v:=⟨_,List.getElem?_eq_getElem (by omega)⟩
   have hqd:q.drop k=v::q.drop (k+1):=by
    obtain⟨h5,h6⟩:=List.getElem?_eq_some_iff.1 hv
    rw [← h6];exact List.drop_eq_getElem_cons h5
   rw [hqd] at hc
   repeat' (first|refine d1 ?_|refine dd ?_|(show ∀ _:Nat,T _ _ _ _ _;intro _)|(show T _ (.code .ret::_) _ _ _;refine T_retV [] rfl (Hle.none _) ⟨by rw [hc];rfl,rfl⟩))
  ·simp only [decide_eq_false_iff_not] at h4
   have hqd:q.drop k=[]:=List.drop_eq_nil_of_le (by omega)
   rw [hqd] at hc
   repeat' (first|refine d1 ?_|refine dd ?_|(show ∀ _:Nat,T _ _ _ _ _;intro _)|(show T _ (.code .ret::_) _ _ _;refine T_retV [] rfl (Hle.none _) ⟨by rw [hc];rfl,rfl⟩))

def cpG (x:RwI):List RwI→List RwI
 | []=>[]
 | z::r=>if x.l=z.l then cpG z r else z::cpG z r
def cpR:List RwI→List RwI
 | []=>[]
 | x::r=>x::cpG x r
theorem cpG_snoc:∀ (l:List RwI) (x y z:RwI),(x::l).getLast?=some y→cpG x (l++[z])=cpG x l++if y.l=z.l then [] else [z]
 | [],x,y,z,h=>by
  simp at h
  subst h
  rw [List.nil_append]
  unfold cpG
  split
  ·rfl
  ·rfl
 | a::l,x,y,z,h=>by
  have h2:(a::l).getLast?=some y:=by rw [List.getLast?_cons_cons] at h;exact h
  have ih:=cpG_snoc l a y z h2
  rw [List.cons_append,cpG,cpG,ih]
  split
  ·rfl
  ·rfl
theorem cpR_snoc {l:List RwI} {y z:RwI} (h:l.getLast?=some y):cpR (l++[z])=cpR l++if y.l=z.l then [] else [z]:=by
 cases l with
 | nil=>simp at h
 | cons x l=>rw [List.cons_append,cpR,cpR,cpG_snoc l x y z h];rfl
theorem cpR_take {ys:List RwI} {k:Nat} {y z:RwI} (hy:ys[k]?=some y) (hz:ys[k+1]?=some z):cpR (ys.take (k+1+1))=cpR (ys.take (k+1))++if y.l=z.l then [] else [z]:=by
 rw [take_snoc _ _ _ hz]
 refine cpR_snoc ?_
 rw [take_snoc _ _ _ hy];simp
theorem cpG_sub:∀ (l:List RwI) (x y:RwI),y∈cpG x l→y∈l
 | [],_,_,h=>by cases h
 | a::l,x,y,h=>by
  unfold cpG at h
  split at h
  ·exact .tail _ (cpG_sub l a y h)
  ·rcases List.mem_cons.1 h with e|e
   ·subst e;exact .head _
   ·exact .tail _ (cpG_sub l a y e)
theorem cpR_sub {l:List RwI} {y:RwI} (h:y∈cpR l):y∈l:=by
 cases l with
 | nil=>cases h
 | cons x l =>
  rcases List.mem_cons.1 h with e|e
  ·subst e;exact .head _
  ·exact .tail _ (cpG_sub l x y e)
theorem cpG_asc:∀ (l:List RwI) (x:RwI),(x::l).Pairwise (fun a b=>cmpLs a.l b.l≤0)→((x::cpG x l).map RwI.l).Pairwise ltLs∧∀ s,(s∈(x::cpG x l).map RwI.l↔s∈(x::l).map RwI.l)
 | [],x,_=>⟨List.pairwise_singleton _ _,fun _=>Iff.rfl⟩
 | a::l,x,h=>by
  rw [List.pairwise_cons] at h
  obtain⟨h1,h2⟩:=cpG_asc l a h.2
  unfold cpG
  by_cases he:x.l=a.l
  ·rw [if_pos he]
   rw [List.map_cons] at h1 h2 ⊢
   rw [he]
   refine ⟨h1,fun s=>?_⟩
   rw [h2,List.map_cons,List.map_cons,List.map_cons,List.mem_cons,List.mem_cons,List.mem_cons,he]
   constructor
   ·exact fun h => .inr h
   ·rintro (h|h)
    ·exact .inl h
    ·exact h
  ·rw [if_neg he]
   refine ⟨?_,fun s=>?_⟩
   ·rw [List.map_cons,List.pairwise_cons]
    refine ⟨fun s hs=>?_,h1⟩
    rw [h2] at hs
    obtain⟨b,hb,rfl⟩:=List.mem_map.1 hs
    have hxb:=h.1 b hb
    show cmpLs x.l b.l<0
    rcases Int.lt_or_eq_of_le hxb with h3|h3
    ·exact h3
    ·exfalso
     have h4:=cmpLs_zero h3
     have h5:cmpLs a.l b.l≤0:=by
      rcases List.mem_cons.1 hb with e|e
      ·subst e;rw [cmpLs_self];exact Int.le_refl _
      ·exact (List.pairwise_cons.1 h.2).1 b e
     have h6:=h.1 a (.head _)
     rw [← h4] at h5
     have h7:=cmpLs_swap x.l a.l
     exact he (cmpLs_zero (by omega))
   ·rw [List.map_cons,List.mem_cons,h2,List.map_cons (a:=x),List.mem_cons]
theorem cpR_asc {l:List RwI} (h:l.Pairwise (fun a b=>cmpLs a.l b.l≤0)):((cpR l).map RwI.l).Pairwise ltLs∧∀ s,(s∈(cpR l).map RwI.l↔s∈l.map RwI.l):=by
 cases l with
 | nil=>exact⟨List.Pairwise.nil,fun _=>Iff.rfl⟩
 | cons x l=>exact cpG_asc l x h
end Go.Proofs.YtabhdaehomjlgaaGreat
namespace Go.Proofs.YtabhdaehomjlgaaGreat
open Go.RowKit Go.Shelf Go.Proofs
set_option maxRecDepth 100000
set_option maxHeartbeats 2000000

theorem getG_at {β:Type} {v:β→Value} {l:List β} {off k:Nat} {z:β} (h:off=k) (hz:l[k]?=some z):∀ (j:Nat) u,[v z][j]?=some u→(l.map v)[off+j]?=some u:=fun j u hu=>by
 subst h
 rcases j with _|j
 ·cases hu
  rw [Nat.add_zero,List.getElem?_map,hz];rfl
 ·simp at hu
theorem setL_takeC {l us:List Value} {off:Nat} (h:off+us.length≤l.length):(setL l off us).take off=l.take off:=by
 rw [setL_eq _ _ _ h,List.take_append_of_le_length (by rw [List.length_take];omega),List.take_take,Nat.min_self]
theorem compactR_spec (A:Option Addr) (n c:Nat) (ys:List RwI) (f:FuncId) (cs:List Value) (w0:World) (K:List HA) (hl:ys.length=n) (hn:n≤1000)
  (heq:∀ w,(∃ H,Cls w0 w (H++K))→∀ x∈ys,∀ y∈ys,Spec Tryz.prog f (RwI.val x::RwI.val y::cs) w (fun v R=>v = .bool (decide (x.l=y.l))∧R=[])) :
  SpecB Tryz.prog 46 [.slice A n c, .func (.func f) #[] cs.toArray] w0 (row 24 1 A c n (ys.map RwI.val)::K)
   (fun v R=>v = .slice A (cpR ys).length c∧R=row 24 1 A c (cpR ys).length ((cpR ys).map RwI.val)::K):=by
 refine specB_of sg Tryz.func46 rfl rfl rfl ?_
 refine T_rowCap fun hcap=>?_
 repeat' (first|refine d1 ?_|(show ∀ _:Nat,T _ _ _ _ _;intro _))
 refine T_if rfl (fun h=>?_) (fun h=>?_)
 ·simp only [decide_eq_true_eq] at h
  have e:cpR ys=ys:=by
   match ys,hl with
   | [],_=>rfl
   | [x],_=>rfl
   | x::y::r,hl=>simp at hl;omega
  rw [e,hl]
  repeat' (first|refine d1 ?_|refine dd ?_|(show ∀ _:Nat,T _ _ _ _ _;intro _)|(show T _ (.code .ret::_) _ _ _;refine T_retV _ rfl (Hle.refl _) ⟨rfl,rfl⟩))
 simp only [decide_eq_false_iff_not] at h
 refine T_rowAt (by omega) ?_
 rintro g rfl
 repeat' (first|refine d1 ?_|(show ∀ _:Nat,T _ _ _ _ _;intro _))
 refine T_loopX (fun k:Nat=>[(5, .int .i64 (k:Nat))]) (fun _=>row 24 1 (some ⟨g,0,none⟩) c n (ys.map RwI.val)::K) (fun k=>(1≤k∧k≤n)∧cpR (ys.take k)=ys.take k) (fun k=>n - k) 1 ⟨⟨Nat.le_refl _,by omega⟩,?_⟩ ?_
 ·cases ys with
  | nil=>rfl
  | cons x r=>rfl
 rintro k ⟨⟨hk1,hk2⟩,hcp⟩
 repeat' (first|refine d1 ?_|(show ∀ _:Nat,T _ _ _ _ _;intro _))
 refine T_if rfl (fun h2=>?_) (fun h2=>?_)
 ·simp only [decide_eq_true_eq] at h2
  obtain⟨k,rfl⟩:∃ k',k=k'+1:=⟨k - 1,by omega⟩
  obtain⟨y,hy⟩:∃ y,ys[k]?=some y:=⟨_,List.getElem?_eq_getElem (by omega)⟩
  obtain⟨z,hz⟩:∃ z,ys[k+1]?=some z:=⟨_,List.getElem?_eq_getElem (by omega)⟩
  have hstep:=cpR_take hy hz
  rw [hcp] at hstep
  repeat' (first|refine d1 ?_|refine dd ?_|(show T _ (.ops _ (_::_)::_) _ _ _;first|refine T_val rfl (Val.load rfl (fun hg=>rdRow (A:=some ⟨g,0,none⟩) (vs:=[RwI.val z]) (by omega) (getG_at (k:=k+1) (by omega) hz))) rfl rfl rfl ?_|refine T_valC rfl (Val.load rfl (fun hg=>rdRow (A:=some ⟨g,0,none⟩) (vs:=[RwI.val z]) (by omega) (getG_at (k:=k+1) (by omega) hz))) rfl rfl rfl rfl rfl ?_|refine T_val rfl (Val.load rfl (fun hg=>rdRow (A:=some ⟨g,0,none⟩) (vs:=[RwI.val y]) (by omega) (getG_at (k:=k) (by omega) hy))) rfl rfl rfl ?_|refine T_valC rfl (Val.load rfl (fun hg=>rdRow (A:=some ⟨g,0,none⟩) (vs:=[RwI.val y]) (by omega) (getG_at (k:=k) (by omega) hy))) rfl rfl rfl rfl rfl ?_|refine T_call rfl rfl rfl rfl rfl (fun w hw=>heq w ⟨[_],hw⟩ z (List.mem_of_getElem? hz) y (List.mem_of_getElem? hy)) ?_|refine T_callC rfl rfl rfl rfl rfl rfl rfl (fun hg w hw=>heq w ⟨[_],hw⟩ z (List.mem_of_getElem? hz) y (List.mem_of_getElem? hy)) ?_)|(show T _ (.run _ _ (_::_) _ _::_) _ _ _;first|refine rv rfl rfl rfl (Val.load rfl (fun hg=>rdRow (A:=some ⟨g,0,none⟩) (vs:=[RwI.val z]) (by omega) (getG_at (k:=k+1) (by omega) hz))) rfl rfl rfl ?_|refine rg rfl rfl rfl (Val.load rfl (fun hg=>rdRow (A:=some ⟨g,0,none⟩) (vs:=[RwI.val z]) (by omega) (getG_at (k:=k+1) (by omega) hz))) rfl rfl rfl rfl rfl ?_|refine rv rfl rfl rfl (Val.load rfl (fun hg=>rdRow (A:=some ⟨g,0,none⟩) (vs:=[RwI.val y]) (by omega) (getG_at (k:=k) (by omega) hy))) rfl rfl rfl ?_|refine rg rfl rfl rfl (Val.load rfl (fun hg=>rdRow (A:=some ⟨g,0,none⟩) (vs:=[RwI.val y]) (by omega) (getG_at (k:=k) (by omega) hy))) rfl rfl rfl rfl rfl ?_|refine rc rfl rfl rfl rfl rfl rfl rfl (fun w hw=>heq w ⟨[_],hw⟩ z (List.mem_of_getElem? hz) y (List.mem_of_getElem? hy)) ?_|refine rcG rfl rfl rfl rfl rfl rfl rfl rfl rfl (fun hg w hw=>heq w ⟨[_],hw⟩ z (List.mem_of_getElem? hz) y (List.mem_of_getElem? hy)) ?_)|(show ∀ _:Nat,T _ _ _ _ _;intro _))
  refine T_if rfl (fun h3=>?_) (fun h3=>?_)
  ·simp only [decide_eq_true_eq] at h3
   rw [if_pos h3.symm,List.append_nil] at hstep
   repeat' (first|refine d1 ?_|(show ∀ _:Nat,T _ _ _ _ _;intro _))
   have hcut:cutA (some ⟨g,0,none⟩) c ((k+1:Nat):Int).toNat 1=some ⟨g,((k+1:Nat):Int).toNat * 1,none⟩:=cutA_at (by omega)
   rw [hcut]
   refine T_loopX (fun s:Nat × Nat × List RwI=>[(5, .int .i64 (s.1:Nat)),(7, .int .i64 (s.2.1:Nat))]) (fun s=>row 24 1 (some ⟨g,0,none⟩) c n (s.2.2.map RwI.val)::K)
    (fun s=>(s.2.2.length=n∧k+1+s.2.1≤n∧1≤s.2.1)∧(s.1=(cpR (ys.take (k+1+s.2.1))).length∧s.1+1≤k+1+s.2.1)∧s.2.2.take s.1=cpR (ys.take (k+1+s.2.1))∧∀ p,k+s.2.1≤p→s.2.2[p]?=ys[p]?)
    (fun s=>n - s.2.1) (k+1,1,ys) ⟨⟨hl,by dsimp only;omega,Nat.le_refl _⟩,⟨by dsimp only;rw [hstep,List.length_take];omega,by dsimp only;omega⟩,by dsimp only;exact hstep.symm,fun p _=>rfl⟩ ?_
   rintro⟨kw,k2,zs⟩ ⟨⟨hzl,hkn,h21⟩,⟨hkw,hkw2⟩,htk,hrest⟩
   dsimp only at hzl hkn h21 hkw hkw2 htk hrest ⊢
   repeat' (first|refine d1 ?_|(show ∀ _:Nat,T _ _ _ _ _;intro _))
   refine T_if rfl (fun h4=>?_) (fun h4=>?_)
   ·simp only [decide_eq_true_eq] at h4
    obtain⟨j,rfl⟩:∃ j,k2=j+1:=⟨k2 - 1,by omega⟩
    obtain⟨y2,hy2⟩:∃ y,ys[k+(j+1)]?=some y:=⟨_,List.getElem?_eq_getElem (by omega)⟩
    obtain⟨z2,hz2⟩:∃ z,ys[k+(j+1)+1]?=some z:=⟨_,List.getElem?_eq_getElem (by omega)⟩
    have hstep2:=cpR_take hy2 hz2
    rw [show k+(j+1)+1=k+1+(j+1) by omega] at hstep2
    have hy3:=(hrest (k+(j+1)) (Nat.le_refl _)).trans hy2
    have hz3:=(hrest (k+(j+1)+1) (by omega)).trans hz2
    repeat' (first|refine d1 ?_|refine dd ?_|(show T _ (.ops _ (_::_)::_) _ _ _;first|refine T_val rfl (Val.load rfl (fun hg=>rdRow (A:=some ⟨g,0,none⟩) (vs:=[RwI.val z2]) (by omega) (getG_at (k:=k+(j+1)+1) (by omega) hz3))) rfl rfl rfl ?_|refine T_valC rfl (Val.load rfl (fun hg=>rdRow (A:=some ⟨g,0,none⟩) (vs:=[RwI.val z2]) (by omega) (getG_at (k:=k+(j+1)+1) (by omega) hz3))) rfl rfl rfl rfl rfl ?_|refine T_val rfl (Val.load rfl (fun hg=>rdRow (A:=some ⟨g,0,none⟩) (vs:=[RwI.val y2]) (by omega) (getG_at (k:=k+(j+1)) (by omega) hy3))) rfl rfl rfl ?_|refine T_valC rfl (Val.load rfl (fun hg=>rdRow (A:=some ⟨g,0,none⟩) (vs:=[RwI.val y2]) (by omega) (getG_at (k:=k+(j+1)) (by omega) hy3))) rfl rfl rfl rfl rfl ?_|refine T_call rfl rfl rfl rfl rfl (fun w hw=>heq w ⟨[_],hw⟩ z2 (List.mem_of_getElem? hz2) y2 (List.mem_of_getElem? hy2)) ?_|refine T_callC rfl rfl rfl rfl rfl rfl rfl (fun hg w hw=>heq w ⟨[_],hw⟩ z2 (List.mem_of_getElem? hz2) y2 (List.mem_of_getElem? hy2)) ?_)|(show T _ (.run _ _ (_::_) _ _::_) _ _ _;first|refine rv rfl rfl rfl (Val.load rfl (fun hg=>rdRow (A:=some ⟨g,0,none⟩) (vs:=[RwI.val z2]) (by omega) (getG_at (k:=k+(j+1)+1) (by omega) hz3))) rfl rfl rfl ?_|refine rg rfl rfl rfl (Val.load rfl (fun hg=>rdRow (A:=some ⟨g,0,none⟩) (vs:=[RwI.val z2]) (by omega) (getG_at (k:=k+(j+1)+1) (by omega) hz3))) rfl rfl rfl rfl rfl ?_|refine rv rfl rfl rfl (Val.load rfl (fun hg=>rdRow (A:=some ⟨g,0,none⟩) (vs:=[RwI.val y2]) (by omega) (getG_at (k:=k+(j+1)) (by omega) hy3))) rfl rfl rfl ?_|refine rg rfl rfl rfl (Val.load rfl (fun hg=>rdRow (A:=some ⟨g,0,none⟩) (vs:=[RwI.val y2]) (by omega) (getG_at (k:=k+(j+1)) (by omega) hy3))) rfl rfl rfl rfl rfl ?_|refine rc rfl rfl rfl rfl rfl rfl rfl (fun w hw=>heq w ⟨[_],hw⟩ z2 (List.mem_of_getElem? hz2) y2 (List.mem_of_getElem? hy2)) ?_|refine rcG rfl rfl rfl rfl rfl rfl rfl rfl rfl (fun hg w hw=>heq w ⟨[_],hw⟩ z2 (List.mem_of_getElem? hz2) y2 (List.mem_of_getElem? hy2)) ?_)|(show ∀ _:Nat,T _ _ _ _ _;intro _))
    refine T_if rfl (fun h5=>?_) (fun h5=>?_)
    ·simp only [Bool.not_eq_true',decide_eq_false_iff_not] at h5
     rw [if_neg (fun e=>h5 e.symm)] at hstep2
     repeat' (first|refine d1 ?_|(show T _ (.ops _ (_::_)::_) _ _ _;first|refine T_val rfl (Val.load rfl (fun hg=>rdRow (A:=some ⟨g,0,none⟩) (vs:=[RwI.val z2]) (by omega) (getG_at (k:=k+(j+1)+1) (by omega) hz3))) rfl rfl rfl ?_|refine T_valC rfl (Val.load rfl (fun hg=>rdRow (A:=some ⟨g,0,none⟩) (vs:=[RwI.val z2]) (by omega) (getG_at (k:=k+(j+1)+1) (by omega) hz3))) rfl rfl rfl rfl rfl ?_|refine T_op (OpT.storeR rfl rfl rfl rfl rfl rfl (by show 0+(kw:Int).toNat * 1+1≤n * 1;omega) ?_))|(show T _ (.run _ _ (_::_) _ _::_) _ _ _;first|refine rv rfl rfl rfl (Val.load rfl (fun hg=>rdRow (A:=some ⟨g,0,none⟩) (vs:=[RwI.val z2]) (by omega) (getG_at (k:=k+(j+1)+1) (by omega) hz3))) rfl rfl rfl ?_|refine rg rfl rfl rfl (Val.load rfl (fun hg=>rdRow (A:=some ⟨g,0,none⟩) (vs:=[RwI.val z2]) (by omega) (getG_at (k:=k+(j+1)+1) (by omega) hz3))) rfl rfl rfl rfl rfl ?_)|(show ∀ _:Nat,T _ _ _ _ _;intro _))
     have hset:setL (zs.map RwI.val) (0+(kw:Int).toNat * 1) [RwI.val z2]=(zs.set kw z2).map RwI.val:=setG_row (by omega)
     refine T_backX (kw+1,j+1+1,zs.set kw z2) ⟨⟨by dsimp only;rw [List.length_set];exact hzl,by dsimp only;omega,by dsimp only;omega⟩,⟨?_,by dsimp only;omega⟩,?_,fun p hp=>?_⟩ (by dsimp only;omega) (hG:=?_)
     ·dsimp only
      rw [show k+1+(j+1+1)=k+1+(j+1)+1 by omega,hstep2,List.length_append, ← hkw];rfl
     ·dsimp only
      rw [show k+1+(j+1+1)=k+1+(j+1)+1 by omega,hstep2, ← htk,take_snoc _ _ z2 (by rw [List.getElem?_set_self (by omega)])]
      congr 1
      rw [List.take_set_of_le (Nat.le_refl _)]
     ·dsimp only at hp ⊢
      rw [List.getElem?_set_ne (by omega)]
      exact hrest p (by omega)
     ·dsimp only
      rw [← hset]
      exact Hle.refl _
    ·simp only [Bool.not_eq_false',decide_eq_true_eq] at h5
     rw [if_pos h5.symm,List.append_nil] at hstep2
     repeat' (first|refine d1 ?_|(show ∀ _:Nat,T _ _ _ _ _;intro _))
     refine T_backX (kw,j+1+1,zs) ⟨⟨hzl,by dsimp only;omega,by dsimp only;omega⟩,⟨by dsimp only;rw [← Nat.add_assoc,hstep2];exact hkw,by dsimp only;omega⟩,by dsimp only;rw [← Nat.add_assoc,hstep2];exact htk,fun p hp=>hrest p (by dsimp only at hp;omega)⟩ (by dsimp only;omega)
   ·simp only [decide_eq_false_iff_not] at h4
    have hk2n:k+1+k2=n:=by omega
    rw [hk2n,List.take_of_length_le (show ys.length≤n by omega)] at hkw htk
    repeat' (first|refine d1 ?_|(show ∀ _:Nat,T _ _ _ _ _;intro _))
    have hcut2:cutA (some ⟨g,0,none⟩) c ((kw:Nat):Int).toNat 1=some ⟨g,((kw:Nat):Int).toNat * 1,none⟩:=cutA_at (by omega)
    refine T_op (OpT.clearR (g:=g) (z := .slice none 0 0) (off:=((kw:Nat):Int).toNat * 1) (n:=n) (k:=((n:Nat):Int).toNat - ((kw:Nat):Int).toNat) (A':=cutA (some ⟨g,0,none⟩) c ((kw:Nat):Int).toNat 1) (e:=24) (by rfl) (by rfl) (by rfl) (by rfl) (by rfl) (by rfl) (by rfl) (fun _=>hcut2) (by omega) ?_)
    refine T_le (Hle.rowCut (k:=(cpR ys).length) (ys:=(cpR ys).map RwI.val) (by omega) ?_) ?_
    ·rw [show (cpR ys).length * 1=((kw:Nat):Int).toNat * 1 by omega,setL_takeC (by rw [List.length_replicate,List.length_map];omega), ← List.map_take,show ((kw:Nat):Int).toNat * 1=kw by omega,htk]
    rw [hkw]
    repeat' (first|refine d1 ?_|refine dd ?_|(show ∀ _:Nat,T _ _ _ _ _;intro _)|(show T _ (.code .ret::_) _ _ _;refine T_retV _ rfl (Hle.refl _) ⟨rfl,rfl⟩))
  ·simp only [decide_eq_false_iff_not] at h3
   rw [if_neg (fun e=>h3 e.symm), ← take_snoc _ _ _ hz] at hstep
   repeat' (first|refine d1 ?_|refine dd ?_|(show ∀ _:Nat,T _ _ _ _ _;intro _))
   exact T_backX (k+1+1) ⟨⟨by omega,by omega⟩,hstep⟩ (by omega)
 ·simp only [decide_eq_false_iff_not] at h2
  rw [List.take_of_length_le (by omega)] at hcp
  rw [hcp,hl]
  repeat' (first|refine d1 ?_|refine dd ?_|(show ∀ _:Nat,T _ _ _ _ _;intro _)|(show T _ (.code .ret::_) _ _ _;refine T_retV _ rfl (Hle.refl _) ⟨rfl,rfl⟩))
end Go.Proofs.YtabhdaehomjlgaaGreat
namespace Go.Proofs.YtabhdaehomjlgaaGreat
open Go.RowKit Go.Shelf Go.Proofs
set_option maxRecDepth 100000
set_option maxHeartbeats 2000000

theorem isortR0_spec (A:Option Addr) (c:Nat) (f:FuncId) (cs:List Value) (w0:World) (K:List HA) :
  SpecB Tryz.prog 124 [.slice A 0 c, .int .i64 0, .int .i64 0, .func (.func f) #[] cs.toArray] w0 K (fun _ R=>R=K):=by
 refine specB_of sg Tryz.func124 rfl rfl rfl ?_
 repeat' (first|refine d1 ?_|refine dd ?_|(show ∀ _:Nat,T _ _ _ _ _;intro _))
 refine T_loopX (fun _:Unit=>[(8, .int .i64 1)]) (fun _=>K) (fun _=>True) (fun _=>0) () trivial ?_
 rintro - -
 repeat' (first|refine d1 ?_|refine dd ?_|(show ∀ _:Nat,T _ _ _ _ _;intro _))
 refine T_if rfl (fun h=>by exfalso;simp at h) (fun _=>?_)
 repeat' (first|refine d1 ?_|refine dd ?_|(show ∀ _:Nat,T _ _ _ _ _;intro _))
 exact T_fallV (vs:=[]) _ rfl (Hle.refl _) rfl
theorem pdqR0_spec (A:Option Addr) (c:Nat) (z:Int) (f:FuncId) (cs:List Value) (w0:World) (K:List HA) :
  SpecB Tryz.prog 89 [.slice A 0 c, .int .i64 0, .int .i64 0, .int .i64 z, .func (.func f) #[] cs.toArray] w0 K (fun _ R=>R=K):=by
 refine specB_of sg Tryz.func89 rfl rfl rfl ?_
 repeat' (first|refine d1 ?_|refine dd ?_|(show ∀ _:Nat,T _ _ _ _ _;intro _))
 refine T_loopX (fun _:Unit=>[]) (fun _=>K) (fun _=>True) (fun _=>0) () trivial ?_
 rintro - -
 repeat' (first|refine d1 ?_|refine dd ?_|(show ∀ _:Nat,T _ _ _ _ _;intro _))
 refine T_if rfl (fun _=>?_) (fun h=>by exfalso;simp at h)
 repeat' (first|refine d1 ?_|refine dd ?_|(show T _ (.ops _ (_::_)::_) _ _ _;refine T_op (OpT.callB rfl rfl rfl rfl rfl (isortR0_spec A c f cs w0 K) ?_))|(show ∀ _:Nat,T _ _ _ _ _;intro _))
 rintro u R rfl
 repeat' (first|refine d1 ?_|refine dd ?_|(show ∀ _:Nat,T _ _ _ _ _;intro _))
 exact T_retV (vs:=[]) _ rfl (Hle.refl _) rfl
theorem sortRn_spec (A:Option Addr) (c n:Nat) (xs:List RwI) (f:FuncId) (cs:List Value) (cmp:RwI→RwI→Int) (le:RwI→RwI→Prop) (w0:World) (K:List HA) (hl:xs.length=n) (h12:n≤12)
  (hcmp:∀ w,(∃ H,Cls w0 w (H++K))→∀ x∈xs,∀ y∈xs,Spec Tryz.prog f (RwI.val x::RwI.val y::cs) w (fun v R=>v = .int .i64 (cmp x y)∧R=[]))
  (htr:∀ a b c,le a b→le b c→le a c) (hlt9:∀ a b,cmp a b<0→le a b) (hge9:∀ a b,¬ cmp a b<0→le b a) :
  SpecB Tryz.prog 41 [.slice A n c, .func (.func f) #[] cs.toArray] w0 (row 24 1 A c n (xs.map RwI.val)::K)
   (fun _ R=>∃ ys:List RwI,(ys.Perm xs∧∀ p q,p<q→q<n→le (ys.getD p rw0) (ys.getD q rw0))∧R=row 24 1 A c n (ys.map RwI.val)::K):=by
 refine specB_of sg Tryz.func41 rfl rfl rfl ?_
 repeat' (first|refine d1 ?_|refine dd ?_|(show T _ (.ops _ (_::_)::_) _ _ _;refine T_op (OpT.call rfl rfl rfl rfl rfl (fun w hw=>lenT_spec n h12 w) ?_))|(show ∀ _:Nat,T _ _ _ _ _;intro _))
 rintro v R ⟨z,hz,rfl,rfl⟩
 refine T_le (H':=row 24 1 A c n (xs.map RwI.val)::K) (Hle.refl _) ?_
 rcases Nat.eq_zero_or_pos n with h0|h0
 ·subst h0
  obtain rfl:xs=[]:=List.eq_nil_of_length_eq_zero hl
  repeat' (first|refine d1 ?_|refine dd ?_|(show T _ (.ops _ (_::_)::_) _ _ _;refine T_op (OpT.callB rfl rfl rfl rfl rfl (pdqR0_spec A c z f cs w0 _) ?_))|(show ∀ _:Nat,T _ _ _ _ _;intro _))
  rintro u R rfl
  repeat' (first|refine d1 ?_|refine dd ?_|(show ∀ _:Nat,T _ _ _ _ _;intro _))
  exact T_fallV (vs:=[]) _ rfl (Hle.refl _) ⟨[],⟨List.Perm.refl _,fun p q _ h=>absurd h (Nat.not_lt_zero _)⟩,rfl⟩
 ·refine T_rowAt h0 ?_
  rintro g rfl
  repeat' (first|refine d1 ?_|refine dd ?_|(show T _ (.ops _ (_::_)::_) _ _ _;refine T_op (OpT.callB rfl rfl rfl rfl rfl (pdqR_spec g c n z xs f cs cmp le w0 K hl h0 h12 hcmp htr hlt9 hge9) ?_))|(show ∀ _:Nat,T _ _ _ _ _;intro _))
  rintro u R ⟨ys,hys,rfl⟩
  repeat' (first|refine d1 ?_|refine dd ?_|(show ∀ _:Nat,T _ _ _ _ _;intro _))
  exact T_fallV (vs:=[]) _ rfl (Hle.refl _) ⟨ys,hys,rfl⟩

def snM (l:List ByteArray):List (ByteArray × Value):=l.map fun a=>(a, .bool true)
theorem snM_get (l:List ByteArray) (a:ByteArray):mget (snM l) a=if has22 l a=true then some (.bool true) else none:=by
 induction l with
 | nil=>rfl
 | cons b l ih =>
  unfold snM at ih ⊢
  rw [List.map_cons,mget_cons,ih]
  by_cases h:a=b
  ·subst h
   rw [if_pos rfl,if_pos (has22_iff.2 (.head _))]
  ·rw [if_neg h]
   have e:has22 (b::l) a=has22 l a:=by
    rw [Bool.eq_iff_iff,has22_iff,has22_iff,List.mem_cons]
    exact⟨fun h2=>h2.resolve_left h, .inr⟩
   rw [e]
theorem snM_val (l:List ByteArray) (a:ByteArray):(mget (snM l) a).getD (.bool false) = .bool (has22 l a):=by
 rw [snM_get]
 cases has22 l a <;> rfl
theorem snM_put {l:List ByteArray} {a:ByteArray} (h:a ∉ l):mput (snM l) a (.bool true)=snM (l++[a]):=by
 have h1:mget (snM l) a=none:=by rw [snM_get,if_neg (fun e=>h (has22_iff.1 e))]
 have h2:fndL a (snM l) 0=none:=by
  unfold mget at h1
  cases hq:fndL a (snM l) 0 with
  | none=>rfl
  | some r=>rw [hq] at h1;cases h1
 rw [mput_new h2]
 unfold snM
 rw [List.map_append];rfl
theorem keyS:MKey Tryz.prog 9 Value.string (fun _ _=>True):=key_str Tryz.underlying9
theorem ofC_spec (p8 p2 mb:Nat) (A1 A2:Option Addr) (n1 c1 n2 c2:Nat) (names ns:List ByteArray) (i:Nat) (w:World) (h8:RdC w p8 0 [.map (some mb)]) (hm:mapAt w Value.string mb (snM names)) (h2:RdC w p2 0 [.slice A1 n1 c1, .slice A2 n2 c2]) (hs:Src w 1 A2 n2 (ns.map Value.string)) (hl:ns.length=n2) (hi:i<n2) :
  Spec Tryz.prog 52 [.int .i64 (i:Nat), .pointer (some ⟨p8,0,none⟩), .pointer (some ⟨p2,0,none⟩)] w (fun v R=>v = .bool (!has22 names (ns.getD i ByteArray.empty))∧R=[]):=by
 refine spec_of sg Tryz.func52 rfl rfl rfl ?_
 obtain⟨g2,o2,rfl⟩:=hs.base (by omega)
 obtain⟨a,ha⟩:∃ a,ns[i]?=some a:=⟨_,List.getElem?_eq_getElem (by omega)⟩
 have ha1:=src_str hs hi ha
 have hc2:RdC w p2 (0+1) [.slice (some ⟨g2,o2,none⟩) n2 c2]:=h2.at rfl
 rw [List.getD_eq_getElem?_getD,ha]
 repeat' (first|refine d1 ?_|refine dd ?_|(show T _ (.ops _ (_::_)::_) _ _ _;first|refine T_val rfl (Val.load rfl (fun hg=>rdOld h8)) rfl rfl rfl ?_|refine T_valC rfl (Val.load rfl (fun hg=>rdOld h8)) rfl rfl rfl rfl rfl ?_|refine T_val rfl (Val.load rfl (fun hg=>rdOld hc2)) rfl rfl rfl ?_|refine T_valC rfl (Val.load rfl (fun hg=>rdOld hc2)) rfl rfl rfl rfl rfl ?_|refine T_val rfl (Val.load rfl (fun hg=>rdOld ha1)) rfl rfl rfl ?_|refine T_valC rfl (Val.load rfl (fun hg=>rdOld ha1)) rfl rfl rfl rfl rfl ?_|refine T_val rfl (Val.to (Val.lookupO (a:=a) (inj:=Value.string) rfl Tryz.underlying78 keyS rfl rfl (fun w hw=>hm.old hw) (fun w hw=>⟨trivial,fun _ _=>trivial⟩)) (show cond false _ _=_ from snM_val names a)) rfl rfl rfl ?_|refine T_valC rfl (Val.to (Val.lookupO (a:=a) (inj:=Value.string) rfl Tryz.underlying78 keyS rfl rfl (fun w hw=>hm.old hw) (fun w hw=>⟨trivial,fun _ _=>trivial⟩)) (show cond false _ _=_ from snM_val names a)) rfl rfl rfl rfl rfl ?_)|(show T _ (.run _ _ (_::_) _ _::_) _ _ _;first|refine rv rfl rfl rfl (Val.load rfl (fun hg=>rdOld h8)) rfl rfl rfl ?_|refine rg rfl rfl rfl (Val.load rfl (fun hg=>rdOld h8)) rfl rfl rfl rfl rfl ?_|refine rv rfl rfl rfl (Val.load rfl (fun hg=>rdOld hc2)) rfl rfl rfl ?_|refine rg rfl rfl rfl (Val.load rfl (fun hg=>rdOld hc2)) rfl rfl rfl rfl rfl ?_|refine rv rfl rfl rfl (Val.load rfl (fun hg=>rdOld ha1)) rfl rfl rfl ?_|refine rg rfl rfl rfl (Val.load rfl (fun hg=>rdOld ha1)) rfl rfl rfl rfl rfl ?_|refine rv rfl rfl rfl (Val.to (Val.lookupO (a:=a) (inj:=Value.string) rfl Tryz.underlying78 keyS rfl rfl (fun w hw=>hm.old hw) (fun w hw=>⟨trivial,fun _ _=>trivial⟩)) (show cond false _ _=_ from snM_val names a)) rfl rfl rfl ?_|refine rg rfl rfl rfl (Val.to (Val.lookupO (a:=a) (inj:=Value.string) rfl Tryz.underlying78 keyS rfl rfl (fun w hw=>hm.old hw) (fun w hw=>⟨trivial,fun _ _=>trivial⟩)) (show cond false _ _=_ from snM_val names a)) rfl rfl rfl rfl rfl ?_)|(show ∀ _:Nat,T _ _ _ _ _;intro _)|(show T _ (.code .ret::_) _ _ _;refine T_retV [] rfl (Hle.none _) ⟨rfl,rfl⟩))
end Go.Proofs.YtabhdaehomjlgaaGreat
namespace Go.Proofs.YtabhdaehomjlgaaGreat
open Go.RowKit Go.Shelf Go.Proofs
set_option maxRecDepth 100000
set_option maxHeartbeats 2000000

theorem rd_oneC {R:Rdr}:∀ {l:List RwI},Rd R (l.map RwI.val) (l.map fun x=>intsD x.l)→∀ x∈l,Rd R [RwI.val x] [intsD x.l]
 | [],_,x,hx=>by cases hx
 | a::l,h,x,hx=>by
  rw [List.map_cons,List.map_cons] at h
  obtain⟨h1,h2⟩:=h.cons_inv
  rcases List.mem_cons.1 hx with e|e
  ·subst e;exact h1
  ·exact rd_oneC h2 x e
theorem rd_allR {R:Rdr}:∀ {l:List RwI},(∀ x∈l,Rd R [RwI.val x] [intsD x.l])→Rd R (l.map RwI.val) (l.map fun x=>intsD x.l)
 | [],_ => .nil
 | a::l,h=>by
  have h1:=h a (.head _)
  have h2:=rd_allR (R:=R) (l:=l) fun x hx=>h x (.tail _ hx)
  exact h1.append h2
theorem hle_ug0 {q:Frag} {hs hs2:List RwI} {L B R E P:HA} {K:List HA} (hrd:Rd (fr q) (hs2.map RwI.val) (hs2.map fun x=>intsD x.l)) :
  Hle (L::fz q::dat (hs.map RwI.val) (hs.map fun x=>intsD x.l)::B::R::E::P::K) (dat ((hs++hs2).map RwI.val) ((hs++hs2).map fun x=>intsD x.l)::B::R::E::P::L::K):=by
 refine (hle_pm [1,2,3,4,5,6,0] [L,fz q,dat (hs.map RwI.val) (hs.map fun x=>intsD x.l),B,R,E,P] K).trans ?_
 show Hle (fz q::dat (hs.map RwI.val) (hs.map fun x=>intsD x.l)::B::R::E::P::L::K) _
 rw [List.map_append,List.map_append]
 exact (hle_map (fun f hf=>by rw [show f=q from hf];exact hrd)).trans dat_join
theorem hle_ug1 {r:Frag} {hA:List RwI} {x:RwI} {L B S E P:HA} {e:TypeId} {A:Option Addr} {c n:Nat} {xs:List Value} {K:List HA} (hrd:Rd (fr r) [RwI.val x] [intsD x.l]) (hxs:xs=(hA++[x]).map RwI.val) :
  Hle (S::fz r::dat (hA.map RwI.val) (hA.map fun x=>intsD x.l)::B::row e 1 A c n xs::E::P::L::K) (L::P::dat ((hA++[x]).map RwI.val) ((hA++[x]).map fun x=>intsD x.l)::B::row e 1 A c n ((hA++[x]).map RwI.val)::E::K):=by
 subst hxs
 refine (hle_pm [1,2,3,4,5,6,7] [S,fz r,dat (hA.map RwI.val) (hA.map fun x=>intsD x.l),B,_,E,P,L] K).trans ?_
 show Hle (fz r::dat (hA.map RwI.val) (hA.map fun x=>intsD x.l)::B::row e 1 A c n ((hA++[x]).map RwI.val)::E::P::L::K) _
 generalize row e 1 A c n ((hA++[x]).map RwI.val)=RR
 refine Hle.trans ?_ (hle_pm [5,4,0,1,2,3] [dat ((hA++[x]).map RwI.val) ((hA++[x]).map fun x=>intsD x.l),B,RR,E,P,L] K)
 show Hle _ (dat ((hA++[x]).map RwI.val) ((hA++[x]).map fun x=>intsD x.l)::B::RR::E::P::L::K)
 rw [List.map_append,List.map_append]
 exact (hle_map (fun f hf=>by rw [show f=r from hf];exact hrd)).trans dat_join
theorem hle_ug2 {P:Frag} {l:List RwI} {e:TypeId} {A:Option Addr} {c n:Nat} {B D:HA} (h:Rd (fr P) (l.map RwI.val) (l.map fun x=>intsD x.l)) :
  Hle [row e 1 A c n (l.map RwI.val),fz P,B,D] (D::[dat [.slice A n c] [rowsD (l.map RwI.l)]]):=by
 refine (hle_pm [1,0,3] [row e 1 A c n (l.map RwI.val),fz P,B,D] []).trans ?_
 show Hle (fz P::row e 1 A c n (l.map RwI.val)::D::[]) _
 refine (hle_map (B:=dat (l.map RwI.val) (l.map fun x=>intsD x.l)) (fun f hf=>by rw [show f=P from hf];exact h)).trans (hle_swap.trans ?_)
 unfold rowsD
 rw [List.map_map]
 exact dat_row.trans hle_swap
theorem mapAt_below {α:Type} {w w':World} {inj:α→Value} {b:Nat} {l:List (α × Value)} (h:mapAt w inj b l) (hb:Below w.heap.size w w'):mapAt w' inj b l:=by
 obtain⟨es,clock,h1,h2⟩:=h
 exact⟨es,clock,(hb.block b (Array.getElem?_eq_some_iff.1 h1).1).trans h1,h2⟩
theorem splitOf_spec (A1 A2 An:Option Addr) (n1 c1 n2 c2 nn cn:Nat) (ps:List Int) (ns names:List ByteArray) (w:World) (ht:TrA w A1 n1 c1 A2 n2 c2 ps ns) (hok:tOk ps ns) (hsn:Src w 1 An nn (names.map Value.string)) (hnn:names.length=nn) (h12:nn≤12) (hnd:names.Nodup) (hlen:(lfI ns).length=nn) (hin:∀ k∈lfI ns,ns.getD k ByteArray.empty∈names) (hinn:ps.length≤nn+13) :
  Spec Tryz.prog 14 [.agg #[.slice A1 n1 c1, .slice A2 n2 c2], .slice An nn cn] w (fun v R=>∃ (x:Value) (L:List (List Int)),ofOk ps ns names L∧v = .tuple #[x, .int .i64 0]∧R=[dat [x] [rowsD L]]):=by
 have hl1:=ht.l1
 have hl2:=ht.l2
 have hlen9:=hok.len
 obtain rfl:n1=n2:=by omega
 have hin2:∀ i,i<ps.length→kdsI ps i ps.length=[]→ns.getD i ByteArray.empty∈names:=fun i hi h0=>hin i ((hok.leaf hi).1 h0)
 have hbnd:=ffI_bound hok.up hok.pos hnd hin2 (by rw [lfB_lfI hok,hlen,hnn]) (by omega)
 refine spec_of sg Tryz.func14 rfl rfl rfl ?_
 repeat' (first|(show T _ (.ops _ (⟨_, .box _ _,_,_,_,_⟩::_)::_) _ _ _;refine T_op (OpT.box (cs:=[.slice A1 n1 c1, .slice A2 n1 c2]) rfl rfl rfl rfl rfl rfl rfl (fun _=>?_)))|refine d1 ?_|(show ∀ _:Nat,T _ _ _ _ _;intro _))
 rename_i t2
 refine T_op (OpT.call rfl rfl rfl rfl rfl (fun w hw=>leavesTree_spec A1 A2 n1 c1 n1 c2 ps ns w (ht.cls hw)) ?_)
 rintro u R (⟨h9,rfl,rfl⟩|⟨-,⟨Al,cl⟩,rfl,rfl⟩)
 ·exact absurd hok h9
 dsimp only
 rw [lfZ_nums,hlen]
 refine T_le (H':=[row 3 1 Al cl nn ((lfZ ns).map (Value.int .i64)),blk t2 [.slice A1 n1 c1, .slice A2 n1 c2] 30]) (Hle.refl _) ?_
 repeat' (first|refine d1 ?_|(show ∀ _:Nat,T _ _ _ _ _;intro _))
 refine T_if rfl (fun h=>by exfalso;simp at h) (fun _=>?_)
 repeat' (first|refine d1 ?_|(show ∀ _:Nat,T _ _ _ _ _;intro _))
 refine T_if rfl (fun h=>by exfalso;simp at h;omega) (fun _=>?_)
 repeat' (first|refine d1 ?_|(show T _ (.ops _ (_::_)::_) _ _ _;refine T_op (OpT.makeMap (inj:=Value.string) rfl rfl rfl rfl rfl (fun mb=>?_)))|(show ∀ _:Nat,T _ _ _ _ _;intro _))
 rename_i t8
 refine T_le (H':=[blk t8 [.map (some mb)] 78,mph Value.string mb (snM []),row 3 1 Al cl nn ((lfZ ns).map (Value.int .i64)),blk t2 [.slice A1 n1 c1, .slice A2 n1 c2] 30]) (Hle.refl _) ?_
 refine T_loopX (fun k:Nat=>[(29, .int .i64 (k:Nat))]) (fun k=>[blk t8 [.map (some mb)] 78,mph Value.string mb (snM (names.take k)),row 3 1 Al cl nn ((lfZ ns).map (Value.int .i64)),blk t2 [.slice A1 n1 c1, .slice A2 n1 c2] 30]) (fun k=>k≤nn) (fun k=>nn - k) 0 (Nat.zero_le _) ?_
 rintro k hk
 repeat' (first|refine d1 ?_|(show ∀ _:Nat,T _ _ _ _ _;intro _))
 refine T_if rfl (fun h=>?_) (fun h=>?_)
 ·simp only [decide_eq_true_eq] at h
  obtain⟨gn,on,rfl⟩:=hsn.base (by omega)
  obtain⟨a,ha⟩:∃ a,names[k]?=some a:=⟨_,List.getElem?_eq_getElem (by omega)⟩
  have hra:=src_str hsn (k:=k) (by omega) ha
  have hna:a ∉ names.take k:=fun hm=>by
   obtain⟨i,hi⟩:=List.mem_iff_getElem?.1 hm
   rw [List.getElem?_take] at hi
   split at hi
   ·have:=nodup_at hnd hi ha;omega
   ·cases hi
  have hv:has22 (names.take k) a=false:=by
   cases h9:has22 (names.take k) a with
   | false=>rfl
   | true=>exact absurd (has22_iff.1 h9) hna
  repeat' (first|refine d1 ?_|(show T _ (.ops _ (_::_)::_) _ _ _;first|refine T_val rfl (Val.load rfl (fun hg=>rdOld hra)) rfl rfl rfl ?_|refine T_valC rfl (Val.load rfl (fun hg=>rdOld hra)) rfl rfl rfl rfl rfl ?_|refine T_val rfl (Val.to (Val.lookup (a:=a) (inj:=Value.string) rfl Tryz.underlying78 keyS rfl rfl (fun w hw=>⟨trivial,fun _ _=>trivial⟩)) (show cond false _ _=_ from (snM_val (names.take k) a).trans (congrArg Value.bool hv))) rfl rfl rfl ?_|refine T_valC rfl (Val.to (Val.lookup (a:=a) (inj:=Value.string) rfl Tryz.underlying78 keyS rfl rfl (fun w hw=>⟨trivial,fun _ _=>trivial⟩)) (show cond false _ _=_ from (snM_val (names.take k) a).trans (congrArg Value.bool hv))) rfl rfl rfl rfl rfl ?_)|(show T _ (.run _ _ (_::_) _ _::_) _ _ _;first|refine rv rfl rfl rfl (Val.load rfl (fun hg=>rdOld hra)) rfl rfl rfl ?_|refine rg rfl rfl rfl (Val.load rfl (fun hg=>rdOld hra)) rfl rfl rfl rfl rfl ?_|refine rv rfl rfl rfl (Val.to (Val.lookup (a:=a) (inj:=Value.string) rfl Tryz.underlying78 keyS rfl rfl (fun w hw=>⟨trivial,fun _ _=>trivial⟩)) (show cond false _ _=_ from (snM_val (names.take k) a).trans (congrArg Value.bool hv))) rfl rfl rfl ?_|refine rg rfl rfl rfl (Val.to (Val.lookup (a:=a) (inj:=Value.string) rfl Tryz.underlying78 keyS rfl rfl (fun w hw=>⟨trivial,fun _ _=>trivial⟩)) (show cond false _ _=_ from (snM_val (names.take k) a).trans (congrArg Value.bool hv))) rfl rfl rfl rfl rfl ?_)|(show ∀ _:Nat,T _ _ _ _ _;intro _))
  refine T_if rfl (fun h=>by cases h) (fun _=>?_)
  repeat' (first|refine d1 ?_|(show ∀ _:Nat,T _ _ _ _ _;intro _))
  refine T_op (OpT.mapUp (inj:=Value.string) (a:=a) (v := .bool true) rfl rfl rfl Tryz.underlying78 keyS (fun w hw=>⟨trivial,fun _ _=>trivial⟩) ?_)
  rw [snM_put hna, ← take_snoc _ _ _ ha]
  repeat' (first|refine d1 ?_|(show ∀ _:Nat,T _ _ _ _ _;intro _))
  exact T_backX (k+1) (by omega) (by omega)
 simp only [decide_eq_false_iff_not] at h
 obtain rfl:k=nn:=by omega
 rw [List.take_of_length_le (by omega)]
 have hll:(lfZ ns).length=k:=by rw [lfZ_len];exact hlen
 have hany:(lfZ ns).any (fun z => !has22 names (ns.getD z.toNat ByteArray.empty))=false:=by
  rw [List.any_eq_false]
  intro z hz
  unfold lfZ at hz
  obtain⟨i,hi,rfl⟩:=List.mem_map.1 hz
  rw [Int.toNat_natCast,has22_iff.2 (hin i hi)];decide
 repeat' (first|refine d1 ?_|(show T _ (.ops _ (_::_)::_) _ _ _;first|refine T_call rfl rfl rfl rfl rfl (fun w hw=>containsFuncI_spec Al k cl (lfZ ns) 52 [] [.pointer (some ⟨t8,0,none⟩), .pointer (some ⟨t2,0,none⟩)] (fun z => !has22 names (ns.getD z.toNat ByteArray.empty)) w (srcRw w hw) hll (by omega) (fun x hx w' hb'=>by obtain⟨i,hi,rfl⟩:=List.mem_map.1 (show x∈(lfI ns).map (fun (i:Nat)=>(i:Int)) from hx);exact ofC_spec t8 t2 mb A1 A2 n1 c1 n1 c2 names ns i w' ((rdBlk8 hw).below hb') (mapAt_below hw.mapOf hb') ((rdBlk8 hw).below hb') (src_below (src_below ht.s2 hw.below) hb') hl2 (by have:=lfI_mem.1 hi;omega))) ?_|refine T_callC rfl rfl rfl rfl rfl rfl rfl (fun hg w hw=>containsFuncI_spec Al k cl (lfZ ns) 52 [] [.pointer (some ⟨t8,0,none⟩), .pointer (some ⟨t2,0,none⟩)] (fun z => !has22 names (ns.getD z.toNat ByteArray.empty)) w (srcRw w hw) hll (by omega) (fun x hx w' hb'=>by obtain⟨i,hi,rfl⟩:=List.mem_map.1 (show x∈(lfI ns).map (fun (i:Nat)=>(i:Int)) from hx);exact ofC_spec t8 t2 mb A1 A2 n1 c1 n1 c2 names ns i w' ((rdBlk8 hw).below hb') (mapAt_below hw.mapOf hb') ((rdBlk8 hw).below hb') (src_below (src_below ht.s2 hw.below) hb') hl2 (by have:=lfI_mem.1 hi;omega))) ?_)|(show T _ (.run _ _ (_::_) _ _::_) _ _ _;first|refine rc rfl rfl rfl rfl rfl rfl rfl (fun w hw=>containsFuncI_spec Al k cl (lfZ ns) 52 [] [.pointer (some ⟨t8,0,none⟩), .pointer (some ⟨t2,0,none⟩)] (fun z => !has22 names (ns.getD z.toNat ByteArray.empty)) w (srcRw w hw) hll (by omega) (fun x hx w' hb'=>by obtain⟨i,hi,rfl⟩:=List.mem_map.1 (show x∈(lfI ns).map (fun (i:Nat)=>(i:Int)) from hx);exact ofC_spec t8 t2 mb A1 A2 n1 c1 n1 c2 names ns i w' ((rdBlk8 hw).below hb') (mapAt_below hw.mapOf hb') ((rdBlk8 hw).below hb') (src_below (src_below ht.s2 hw.below) hb') hl2 (by have:=lfI_mem.1 hi;omega))) ?_|refine rcG rfl rfl rfl rfl rfl rfl rfl rfl rfl (fun hg w hw=>containsFuncI_spec Al k cl (lfZ ns) 52 [] [.pointer (some ⟨t8,0,none⟩), .pointer (some ⟨t2,0,none⟩)] (fun z => !has22 names (ns.getD z.toNat ByteArray.empty)) w (srcRw w hw) hll (by omega) (fun x hx w' hb'=>by obtain⟨i,hi,rfl⟩:=List.mem_map.1 (show x∈(lfI ns).map (fun (i:Nat)=>(i:Int)) from hx);exact ofC_spec t8 t2 mb A1 A2 n1 c1 n1 c2 names ns i w' ((rdBlk8 hw).below hb') (mapAt_below hw.mapOf hb') ((rdBlk8 hw).below hb') (src_below (src_below ht.s2 hw.below) hb') hl2 (by have:=lfI_mem.1 hi;omega))) ?_)|(show ∀ _:Nat,T _ _ _ _ _;intro _))
 refine T_if rfl (fun h=>by exfalso;rw [hany] at h;simp at h) (fun _=>?_)
 repeat' (first|refine d1 ?_|(show ∀ _:Nat,T _ _ _ _ _;intro _))
 rename_i t11 t12
 refine T_op (OpT.call rfl rfl rfl rfl rfl (fun w hw=>belowS_spec A1 A2 An n1 c1 n1 c2 k cn w) ?_)
 rintro u R ⟨⟨b1,b2⟩,-,rfl,rfl⟩
 dsimp only
 repeat' (first|refine d1 ?_|(show ∀ _:Nat,T _ _ _ _ _;intro _))
 refine T_le (H':=[blk b2 [.slice An k cn] 22,blk b1 [.slice A1 n1 c1, .slice A2 n1 c2] 30,blk t12 [.slice none 0 0] 23,blk t11 [.int .i64 (k:Nat)] 3]) (Hle.append_left (A:=[_,_,_,_]) _) ?_
 refine T_nilrow 24 1 ?_
 have hit:=belowS_iter ht hok hsn hnn h12 hnd hin2 b1 b2 (cn:=cn)
 refine T_rangeK hit rfl (fun j x p hj hQ=>by obtain⟨i,y,_,rfl,_⟩:=hQ;exact⟨rfl,rfl⟩)
  (fun j p H=>∃ (hs hs2:List RwI) (A:Option Addr) (c:Nat),(Rd (fr p) (hs2.map RwI.val) (hs2.map fun x=>intsD x.l)∧(hs++hs2).map RwI.l=((belT ps).take j).flatMap (ffI ps ns names))∧H=[fz p,dat (hs.map RwI.val) (hs.map fun x=>intsD x.l),blk t12 [.slice A (hs++hs2).length c] 23,row 24 1 A c (hs++hs2).length ((hs++hs2).map RwI.val),blk t11 [.int .i64 (k:Nat)] 3])
  (fun _=>False) (fun _ _=>False) [fz (fun _=>none),dat [] [],blk t12 [.slice none 0 0] 23,row 24 1 none 0 0 [],blk t11 [.int .i64 (k:Nat)] 3] (fun _=>none)
  (by rintro j p H ⟨hs,hs2,A,c,-,rfl⟩;exact Hle.nth 0 rfl) ⟨[],[],none,0,⟨.nil,rfl⟩,rfl⟩ ?_ ?_ ?_ (fun _ _ h=>h.elim) (fun _ _ _ h=>h.elim)
 ·exact (dat_nil _).trans ((hle_unit (B:=fz (fun _=>none)) rfl).trans (hle_pm [3,4,0,1,5,2,6] [_,_,_,_,_,_,_] []))
 ·rintro Lp r5 j x p q Hj K2 hr5 hj hQ ⟨hs,hs2,A,c,⟨hrd,hL⟩,rfl⟩
  obtain⟨i,y,hi,rfl,hy⟩:=hQ
  generalize hsd:plS names (ndT ps ns i)=s at hy
  have hslo:∀ z∈s,0≤z∧z<k:=fun z hz=>by
   rw [← hsd] at hz
   have:=setI_lo hz
   rw [hnn] at this;exact this
  have hsok:setOk s:=by rw [← hsd];exact setI_ok (by omega)
  have hsl:s.length≤k:=by rw [← hsd, ← hnn];exact setI_len_le _ _
  obtain⟨B,cb,rfl,hyl⟩:=hy.row1
  show T _ _ ((54, .slice B s.length cb)::_) _ (lrec Lp r5::fz q::dat (hs.map RwI.val) (hs.map fun x=>intsD x.l)::blk t12 [.slice A (hs++hs2).length c] 23::row 24 1 A c (hs++hs2).length ((hs++hs2).map RwI.val)::blk t11 [.int .i64 (k:Nat)] 3::fz p::K2)
  repeat' (first|refine d1 ?_|refine dd ?_|(show ∀ _:Nat,T _ _ _ _ _;intro _))
  refine T_begin hr5 rfl ?_
  refine T_le (H':=dat ((hs++hs2).map RwI.val) ((hs++hs2).map fun x=>intsD x.l)::blk t12 [.slice A (hs++hs2).length c] 23::row 24 1 A c (hs++hs2).length ((hs++hs2).map RwI.val)::blk t11 [.int .i64 (k:Nat)] 3::fz p::lrec Lp (busy r5)::K2) (hle_ug0 hrd) ?_
  generalize hs++hs2=hA at hL ⊢
  have htk:(belT ps).take (j+1)=(belT ps).take j++[i]:=take_snoc _ _ _ hi
  have hAl:hA.length≤12:=by
   have h1:=congrArg List.length hL
   rw [List.length_map] at h1
   rw [← List.take_append_drop j (belT ps),List.flatMap_append,List.length_append] at hbnd
   omega
  have hffi:ffI ps ns names i=if splOk k (nrmI k s) then [nrmI k s] else []:=by unfold ffI;rw [hsd,hnn]
  repeat' (first|refine d1 ?_|(show T _ (.ops _ (_::_)::_) _ _ _;first|refine T_call rfl rfl rfl rfl rfl (fun w hw=>containsI_spec B s.length cb s 0 w ((hy.own hw).intsAt) rfl (by omega)) ?_|refine T_callC rfl rfl rfl rfl rfl rfl rfl (fun hg w hw=>containsI_spec B s.length cb s 0 w ((hy.own hw).intsAt) rfl (by omega)) ?_)|(show T _ (.run _ _ (_::_) _ _::_) _ _ _;first|refine rc rfl rfl rfl rfl rfl rfl rfl (fun w hw=>containsI_spec B s.length cb s 0 w ((hy.own hw).intsAt) rfl (by omega)) ?_|refine rcG rfl rfl rfl rfl rfl rfl rfl rfl rfl (fun hg w hw=>containsI_spec B s.length cb s 0 w ((hy.own hw).intsAt) rfl (by omega)) ?_)|(show ∀ _:Nat,T _ _ _ _ _;intro _))
  refine T_cutX 1 [13] (fun u:RwI × Frag=>[(13,RwI.val u.1)]) (fun u=>[fz u.2,dat (hA.map RwI.val) (hA.map fun x=>intsD x.l),blk t12 [.slice A hA.length c] 23,row 24 1 A c hA.length (hA.map RwI.val),blk t11 [.int .i64 (k:Nat)] 3,fz p,lrec Lp (busy r5)]++K2)
   (fun u=>u.1.l=nrmI k s∧(Rd (fr p) [RwI.val u.1] [intsD u.1.l]∨Rd (fr u.2) [RwI.val u.1] [intsD u.1.l])) ?_ ?_
  ·refine T_if rfl (fun h2=>?_) (fun h2=>?_)
   ·have h0:(0:Int)∈s:=by
     obtain⟨z,hz,h3⟩:=List.any_eq_true.1 h2
     rw [show (0:Int)=z from of_decide_eq_true h3];exact hz
    have hs0:0<s.length:=List.length_pos_of_mem h0
    have hnr:nrmI k s=cplI k s:=by
     unfold nrmI cplI
     rw [if_pos h0]
     exact setI_congr fun i _=>decide_not
    repeat' (first|refine d1 ?_|(show ∀ _:Nat,T _ _ _ _ _;intro _))
    refine T_op (OpT.call rfl rfl rfl rfl rfl (fun w hw=>complement_spec B k s.length cb s w ((hy.own hw).intsAt) rfl hsok hs0 (by omega) (by omega) (fun z hz=>(hslo z hz).2)) ?_)
    rintro u R ⟨⟨A',c'⟩,-,rfl,rfl⟩
    dsimp only
    refine T_le dat_rowV ?_
    refine T_open fun r hr=>?_
    have hr':Rd (fr r) [.slice A' (cplI k s).length c'] [intsD (cplI k s)]:=by
     rw [List.map_map] at hr;exact hr
    repeat' (first|refine d1 ?_|(show ∀ _:Nat,T _ _ _ _ _;intro _))
    exact T_meetX (⟨A',(cplI k s).length,c',cplI k s⟩,r) ⟨hnr.symm, .inr hr'⟩
   ·have h0:(0:Int) ∉ s:=fun h3=>by
     have:s.any (fun x=>decide (0=x))=true:=List.any_eq_true.2 ⟨0,h3,decide_eq_true rfl⟩
     rw [h2] at this;cases this
    refine T_le (hle_unit (B:=fz (fun _=>none)) rfl) ?_
    repeat' (first|refine d1 ?_|(show ∀ _:Nat,T _ _ _ _ _;intro _))
    exact T_meetX (⟨B,s.length,cb,s⟩,fun _=>none) ⟨by unfold nrmI;rw [if_neg h0], .inl hy⟩
  ·rintro⟨x,r⟩ ⟨hxl,hxr⟩
   dsimp only at hxl hxr ⊢
   rw [hxl] at hxr
   obtain⟨xA,xn,xcap,xl⟩:=x
   dsimp only at hxl
   subst hxl
   have hxn:xn=(nrmI k s).length∧(nrmI k s).length≤xcap:=by
    rcases hxr with h|h
    ·obtain⟨_,_,e,h9,_⟩:=h.row1
     simp only [RwI.val,Value.slice.injEq] at e
     exact⟨e.2.1,by rw [e.2.2];exact h9⟩
    ·obtain⟨_,_,e,h9,_⟩:=h.row1
     simp only [RwI.val,Value.slice.injEq] at e
     exact⟨e.2.1,by rw [e.2.2];exact h9⟩
   obtain⟨rfl,hxc⟩:=hxn
   have hnl:(nrmI k s).length≤12:=by
    unfold nrmI
    split
    ·exact Nat.le_trans (setI_len_le _ _) h12
    ·omega
   refine T_le (H':=fz r::dat (hA.map RwI.val) (hA.map fun x=>intsD x.l)::blk t12 [.slice A hA.length c] 23::row 24 1 A c hA.length (hA.map RwI.val)::blk t11 [.int .i64 (k:Nat)] 3::fz p::lrec Lp (busy r5)::K2) (Hle.refl _) ?_
   rw [show RwI.val ⟨xA,(nrmI k s).length,xcap,nrmI k s⟩ = .slice xA (nrmI k s).length xcap from rfl] at hxr ⊢
   repeat' (first|refine d1 ?_|(show ∀ _:Nat,T _ _ _ _ _;intro _))
   refine T_op (OpT.call rfl rfl rfl rfl rfl (fun w hw=>checkSplit_spec xA k (nrmI k s).length xcap (nrmI k s) w (hxr.elim (fun h=>(h.own hw).intsAt) (fun h=>(h.own hw).intsAt)) rfl (by omega) (by omega)) ?_)
   rintro u R ⟨e,he,rfl,rfl⟩
   rw [List.nil_append]
   repeat' (first|refine d1 ?_|(show ∀ _:Nat,T _ _ _ _ _;intro _))
   refine T_if rfl (fun h2=>?_) (fun h2=>?_)
   ·simp only [decide_eq_true_eq] at h2
    have hso:=he.1 h2
    rw [if_pos hso] at hffi
    have hLn:(hA++[(⟨xA,(nrmI k s).length,xcap,nrmI k s⟩:RwI)]).map RwI.l=((belT ps).take (j+1)).flatMap (ffI ps ns names):=by
     rw [List.map_append,hL,htk,List.flatMap_append,List.flatMap_singleton,hffi];rfl
    have hAl2:(hA++[(⟨xA,(nrmI k s).length,xcap,nrmI k s⟩:RwI)]).length=hA.length+1:=by simp
    repeat' (first|refine d1 ?_|(show ∀ _:Nat,T _ _ _ _ _;intro _))
    rename_i b9
    repeat' (first|refine d1 ?_|(show T _ (.ops _ (_::_)::_) _ _ _;refine T_op (OpT.append (A:=A) rfl rfl rfl rfl rfl rfl rfl rfl rfl rfl (fun w hw=>Src.own hw rfl) rfl (by dsimp only;omega) (by omega) (fun A9 c9 hA9=>?_)))|(show ∀ _:Nat,T _ _ _ _ _;intro _))
    rcases hxr with h|h
    ·refine T_next _ ⟨hA,[⟨xA,(nrmI k s).length,xcap,nrmI k s⟩],A9,c9,⟨h,hLn⟩,rfl⟩ ?_
     rw [hAl2,List.map_append]
     exact hle_pm [7,6,2,3,4,5] [_,_,_,_,_,_,_,_] K2
    ·refine T_next _ ⟨hA++[⟨xA,(nrmI k s).length,xcap,nrmI k s⟩],[],A9,c9,⟨.nil,by rw [List.append_nil];exact hLn⟩,rfl⟩ ?_
     rw [List.append_nil,hAl2]
     exact hle_ug1 (x:=⟨xA,(nrmI k s).length,xcap,nrmI k s⟩) h (by rw [List.map_append];rfl)
   ·simp only [decide_eq_false_iff_not] at h2
    rw [if_neg (fun h=>h2 (he.2 h))] at hffi
    have hLn:(hA++[]).map RwI.l=((belT ps).take (j+1)).flatMap (ffI ps ns names):=by
     rw [List.append_nil,hL,htk,List.flatMap_append,List.flatMap_singleton,hffi,List.append_nil]
    repeat' (first|refine d1 ?_|(show ∀ _:Nat,T _ _ _ _ _;intro _))
    refine T_next _ ⟨hA,[],A,c,⟨.nil,hLn⟩,rfl⟩ ?_
    rw [List.append_nil]
    exact hle_pm [6,5,1,2,3,4] [_,_,_,_,_,_,_] K2
 ·rintro D p Hn ⟨hs,hs2,A,c,⟨hrd,hL⟩,rfl⟩
  rw [List.take_length] at hL
  show T _ _ _ _ (dfr D::blk b2 [.slice An k cn] 22::blk b1 [.slice A1 n1 c1, .slice A2 n1 c2] 30::fz p::dat (hs.map RwI.val) (hs.map fun x=>intsD x.l)::blk t12 [.slice A (hs++hs2).length c] 23::row 24 1 A c (hs++hs2).length ((hs++hs2).map RwI.val)::blk t11 [.int .i64 (k:Nat)] 3::[])
  refine T_le ((hle_pm [0,3,4,5,6,7,1] [_,_,_,_,_,_,_,_] []).trans (hle_ug0 hrd)) ?_
  generalize hs++hs2=hA at hL ⊢
  have hAl:hA.length≤12:=by
   have h1:=congrArg List.length hL
   rw [List.length_map] at h1
   omega
  refine T_open fun P hP=>?_
  refine T_le (H':=row 24 1 A c hA.length (hA.map RwI.val)::fz P::blk t12 [.slice A hA.length c] 23::dfr D::[]) (hle_pm [2,0,1,5] [_,_,_,_,_,_] []) ?_
  repeat' (first|refine d1 ?_|(show ∀ _:Nat,T _ _ _ _ _;intro _))
  refine T_op (OpT.callB rfl rfl rfl rfl rfl (sortRn_spec A c hA.length hA 45 [] (fun x y=>cmpLs x.l y.l) (fun x y=>cmpLs x.l y.l≤0) w _ rfl hAl (fun w ⟨H,hw⟩ x hx y hy=>?_) (fun _ _ _=>cmpLs_trans) (fun _ _ h=>by omega) (fun a b h=>by have:=cmpLs_swap a.l b.l;omega)) ?_)
  ·have hw':=hw.le (Hle.append_right (K:=[]) H)
   exact compareL_spec _ _ _ _ w ((rd_oneC hP x hx).own hw') ((rd_oneC hP y hy).own hw')
  rintro u R ⟨ys,⟨hyp,hys⟩,rfl⟩
  have hyl:=hyp.length_eq
  have hPy:∀ x∈ys,Rd (fr P) [RwI.val x] [intsD x.l]:=fun x hx=>rd_oneC hP x (hyp.mem_iff.1 hx)
  repeat' (first|refine d1 ?_|(show ∀ _:Nat,T _ _ _ _ _;intro _))
  refine T_op (OpT.callB rfl rfl rfl rfl rfl (compactR_spec A hA.length c ys 17 [] w _ hyl (by omega) (fun w ⟨H,hw⟩ x hx y hy=>?_)) ?_)
  ·have hw':=hw.le (Hle.append_right (K:=[]) H)
   exact equalI_spec _ _ _ _ w ((hPy x hx).own hw') ((hPy y hy).own hw')
  rintro u R ⟨rfl,rfl⟩
  have hpw:ys.Pairwise (fun a b=>cmpLs a.l b.l≤0):=by
   rw [List.pairwise_iff_getElem]
   intro i j hi hj hij
   have h9:=hys i j hij (by omega)
   rw [List.getD_eq_getElem?_getD,List.getD_eq_getElem?_getD,List.getElem?_eq_getElem hi,List.getElem?_eq_getElem hj] at h9
   exact h9
  obtain⟨hasc,hmem⟩:=cpR_asc hpw
  have hof:ofOk ps ns names ((cpR ys).map RwI.l):=by
   refine ⟨hasc,fun s=>?_⟩
   rw [hmem,(hyp.map RwI.l).mem_iff,hL,List.mem_flatMap]
   constructor
   ·rintro⟨i,hi,hs⟩
    obtain⟨h1,h2⟩:=ffI_mem.1 hs
    obtain⟨h3,h4⟩:=(belT_mem hok.up hok.pos).1 hi
    exact⟨h1,i,h3,h4,h2⟩
   ·rintro⟨h1,i,h3,h4,h2⟩
    exact⟨i,(belT_mem hok.up hok.pos).2 ⟨h3,h4⟩,ffI_mem.2 ⟨h1,h2⟩⟩
  have hPc:Rd (fr P) ((cpR ys).map RwI.val) ((cpR ys).map fun x=>intsD x.l):=rd_allR fun x hx=>hPy x (cpR_sub hx)
  repeat' (first|refine d1 ?_|(show ∀ _:Nat,T _ _ _ _ _;intro _))
  exact T_retD (H':=[dat [.slice A (cpR ys).length c] [rowsD ((cpR ys).map RwI.l)]]) (hle_ug2 hPc) (rf_V (vs:=[.slice A (cpR ys).length c, .int .i64 0]) _ rfl (Hle.refl _) ⟨_,_,hof,rfl,rfl⟩)
end Go.Proofs.YtabhdaehomjlgaaGreat
namespace Go.Proofs.YtabhdaehomjlgaaGreat
open Go.RowKit Go.Shelf Go.Proofs
set_option maxRecDepth 100000
set_option maxHeartbeats 2000000

def ps33:List Int:=[-1,0,1,1,0,4,4]
def ns33:List ByteArray:=[⟨#[]⟩,⟨#[]⟩,⟨#[65]⟩,⟨#[66]⟩,⟨#[]⟩,⟨#[67]⟩,⟨#[68]⟩]
def nm33:List ByteArray:=[⟨#[65]⟩,⟨#[66]⟩,⟨#[67]⟩,⟨#[68]⟩]
theorem up33:upT ps33:=⟨rfl,fun i h1 h2=>by
 have:∀ i:Nat,i<7→0<i→0≤ps33.getD i (-1)∧ps33.getD i (-1)<(i:Int):=by decide +kernel
 exact this i h2 h1⟩
theorem ok33:tOk ps33 ns33:=by
 refine ⟨by decide,by decide,rfl,up33,fun i h1 h2=>?_,fun i h1 h2=>?_⟩
 ·have:∀ i:Nat,i<7→kdsI ps33 i 7≠[]→ns33.getD i ByteArray.empty=ByteArray.empty:=by decide +kernel
  exact this i h1 h2
 ·have h3:∀ i:Nat,i<7→kdsI ps33 i 7=[]→siglum22 (ns33.getD i ByteArray.empty)=true:=by decide +kernel
  have h4:∀ i:Nat,i<7→kdsI ps33 i 7=[]→has22 (ns33.take i) (ns33.getD i ByteArray.empty)=false:=by decide +kernel
  refine ⟨h3 i h1 h2,fun h5=>?_⟩
  have:=h4 i h1 h2
  rw [has22_iff.2 h5] at this;cases this
theorem fit33a:lstK (rvT ps33 (bsS (lfZ ns33) [0,0,1,1]) 0) 16=1:=by decide +kernel
theorem fit33b:lstK (rvT ps33 (bsS (lfZ ns33) [0,1,0,1]) 0) 16=2:=by decide +kernel
theorem of33 {L:List (List Int)} (h:ofOk ps33 ns33 nm33 L):L=[[2,3]]:=by
 refine ltLs_uniq (R:=ltLs) (fun a h=>by unfold ltLs at h;rw [cmpLs_self] at h;omega) (fun a b h1 h2=>by unfold ltLs at h1 h2;have:=cmpLs_swap a b;omega) h.asc (List.pairwise_singleton _ _) fun s=>?_
 rw [h.mem,List.mem_singleton]
 have h1:∀ i:Nat,i<7→0<i→splOk 4 (nrmI 4 (plS nm33 (ndT ps33 ns33 i)))→nrmI 4 (plS nm33 (ndT ps33 ns33 i))=[2,3]:=by decide +kernel
 constructor
 ·rintro⟨h2,i,h3,h4,rfl⟩
  exact h1 i h4 h3 h2
 ·rintro rfl
  refine ⟨?_,4,by decide,by decide,?_⟩
  ·show splOk 4 [2,3];decide +kernel
  ·show [2,3]=nrmI 4 (plS nm33 (ndT ps33 ns33 4));decide +kernel
theorem rd_intsU {w:World} {A:Option Addr} {n c:Nat} {r:List Int} (h:Src w 1 A n (r.map (Value.int .i64))) (hn:n≤c) (hc:c≤9223372036854775807):Rd (wr w) [.slice A n c] [intsD r]:=by
 have:=h.rdD hn hc (Rd.vals _)
 rw [List.map_map] at this
 exact this
theorem top33Awake_spec (w:World):Spec Tryz.prog 20 [] w (fun v R=>v = .bool true∧R=[]):=by
 refine spec_of sg Tryz.func20 rfl rfl rfl ?_
 repeat' (first|refine d1 ?_|(show ∀ _:Nat,T _ _ _ _ _;intro _))
 rename_i b8 b9 t1 b10
 refine T_le (H':=[blk b10 (([0,0,1,1]:List Int).map (Value.int .i64)) 3,blk t1 [.slice (some ⟨b8,0,none⟩) 7 7, .slice (some ⟨b9,0,none⟩) 7 7] 30,blk b9 (ns33.map Value.string) 9,blk b8 (ps33.map (Value.int .i64)) 3]) (Hle.refl _) ?_
 refine T_op (OpT.call rfl rfl rfl rfl rfl (fun w hw=>fitch_spec (some ⟨b8,0,none⟩) (some ⟨b9,0,none⟩) (some ⟨b10,0,none⟩) 7 7 7 7 4 ps33 ns33 [0,0,1,1] w ⟨Src.own hw rfl,Src.own hw rfl,rfl,rfl,by omega,by omega,by omega,by omega,by decide⟩ ok33 (Src.own hw rfl) rfl (by decide) (by decide) (by decide)) ?_)
 rintro u R ⟨rfl,rfl⟩
 rw [fit33a,List.nil_append]
 repeat' (first|refine d1 ?_|(show ∀ _:Nat,T _ _ _ _ _;intro _))
 rename_i b11
 refine T_le (H':=[blk b11 (([0,1,0,1]:List Int).map (Value.int .i64)) 3,blk t1 [.slice (some ⟨b8,0,none⟩) 7 7, .slice (some ⟨b9,0,none⟩) 7 7] 30,blk b9 (ns33.map Value.string) 9,blk b8 (ps33.map (Value.int .i64)) 3]) (hle_pm [0,2,3,4] [_,_,_,_,_] []) ?_
 refine T_op (OpT.call rfl rfl rfl rfl rfl (fun w hw=>fitch_spec (some ⟨b8,0,none⟩) (some ⟨b9,0,none⟩) (some ⟨b11,0,none⟩) 7 7 7 7 4 ps33 ns33 [0,1,0,1] w ⟨Src.own hw rfl,Src.own hw rfl,rfl,rfl,by omega,by omega,by omega,by omega,by decide⟩ ok33 (Src.own hw rfl) rfl (by decide) (by decide) (by decide)) ?_)
 rintro u R ⟨rfl,rfl⟩
 rw [fit33b,List.nil_append]
 repeat' (first|refine d1 ?_|(show ∀ _:Nat,T _ _ _ _ _;intro _))
 rename_i b12
 refine T_le (H':=[blk b12 (nm33.map Value.string) 9,blk t1 [.slice (some ⟨b8,0,none⟩) 7 7, .slice (some ⟨b9,0,none⟩) 7 7] 30,blk b9 (ns33.map Value.string) 9,blk b8 (ps33.map (Value.int .i64)) 3]) (hle_pm [0,2,3,4] [_,_,_,_,_] []) ?_
 refine T_op (OpT.call rfl rfl rfl rfl rfl (fun w hw=>splitOf_spec (some ⟨b8,0,none⟩) (some ⟨b9,0,none⟩) (some ⟨b12,0,none⟩) 7 7 7 7 4 4 ps33 ns33 nm33 w ⟨Src.own hw rfl,Src.own hw rfl,rfl,rfl,by omega,by omega,by omega,by omega,by decide⟩ ok33 (Src.own hw rfl) rfl (by omega) (by decide) rfl (fun k hk=>has22_iff.1 ((show ∀ k∈lfI ns33,has22 nm33 (ns33.getD k ByteArray.empty)=true by decide +kernel) k hk)) (by decide)) ?_)
 rintro u R ⟨x,L,hL,rfl,rfl⟩
 obtain rfl:=of33 hL
 refine T_le (H':=dat [x] [rowsD [[2,3]]]::[]) (Hle.append_left (A:=[_]) _) ?_
 refine T_open fun p hp=>?_
 obtain⟨Ax,cx,cs,rfl,-,-,hcl,hb,hcs⟩:=hp.tab
 obtain⟨bx,ox,rfl,hbx⟩:=hb (by decide)
 obtain⟨y,hy,hyr⟩:=hcs.get (i:=0) rfl
 obtain⟨By,cy,rfl,-⟩:=hyr.row1
 repeat' (first|refine d1 ?_|(show T _ (.ops _ (_::_)::_) _ _ _;first|refine T_val rfl (Val.load rfl (fun hg=>rdFz (p:=p) (u := .slice By 2 cy) (b:=bx) (by show fr p bx (ox+0+0)=_;rw [Nat.add_zero];exact hbx 0 _ hy))) rfl rfl rfl ?_|refine T_valC rfl (Val.load rfl (fun hg=>rdFz (p:=p) (u := .slice By 2 cy) (b:=bx) (by show fr p bx (ox+0+0)=_;rw [Nat.add_zero];exact hbx 0 _ hy))) rfl rfl rfl rfl rfl ?_)|(show T _ (.run _ _ (_::_) _ _::_) _ _ _;first|refine rv rfl rfl rfl (Val.load rfl (fun hg=>rdFz (p:=p) (u := .slice By 2 cy) (b:=bx) (by show fr p bx (ox+0+0)=_;rw [Nat.add_zero];exact hbx 0 _ hy))) rfl rfl rfl ?_|refine rg rfl rfl rfl (Val.load rfl (fun hg=>rdFz (p:=p) (u := .slice By 2 cy) (b:=bx) (by show fr p bx (ox+0+0)=_;rw [Nat.add_zero];exact hbx 0 _ hy))) rfl rfl rfl rfl rfl ?_)|(show ∀ _:Nat,T _ _ _ _ _;intro _))
 refine T_known 55 rfl rfl ?_
 refine T_op (OpT.sure (p:=true) rfl rfl rfl (OpT.litW rfl rfl rfl rfl rfl rfl rfl rfl rfl rfl rfl (fun b13=>?_)))
 refine T_le (H':=[blk b13 (([2,3]:List Int).map (Value.int .i64)) 3,fz p]) (Hle.refl _) ?_
 refine T_op (OpT.sure (p:=true) rfl rfl rfl (OpT.call rfl rfl rfl rfl rfl (fun w hw=>equalI_spec (.slice By 2 cy) (.slice (some ⟨b13,0,none⟩) 2 2) [2,3] [2,3] w (hyr.own hw) (rd_intsU (Src.own hw rfl) (by omega) (by omega))) ?_))
 rintro u R ⟨rfl,rfl⟩
 repeat' (first|refine d1 ?_|refine dd ?_|(show ∀ _:Nat,T _ _ _ _ _;intro _)|(show T _ (.code .ret::_) _ _ _;refine T_retV [] rfl (Hle.none _) ⟨rfl,rfl⟩))
end Go.Proofs.YtabhdaehomjlgaaGreat
