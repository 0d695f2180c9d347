/- What an event's changes are: plain law. -/
import Derived.Test.YtndfpmboanohcaaGreatDoorAplToCua
namespace Go.Proofs.YtndfpmboanohcaaGreatDoor
set_option maxRecDepth 100000
open Go.RowKit Go.Maps SkipPure
def NoAdd (c:Cg):Prop:=(c.kind=1∨c.kind=2∨c.kind=3)∧0≤c.who∧c.who≤1000000
theorem NoAdd.ne {c:Cg} (h:NoAdd c):c.kind≠0:=by have:=h.1;omega
def Ext (cs cs':List Cg):Prop:=∃ ds,cs'=cs++ds∧∀ c∈ds,NoAdd c
theorem Ext.refl (cs:List Cg):Ext cs cs:=⟨[],by simp,by simp⟩
theorem Ext.trans {a b c:List Cg} (h:Ext a b) (k:Ext b c):Ext a c:=by
 obtain ⟨d1,rfl,h2⟩:=h;obtain ⟨d2,rfl,k2⟩:=k;refine ⟨d1++d2,by simp,fun c hc=>?_⟩;rcases List.mem_append.1 hc with hc | hc
 ·exact h2 c hc
 ·exact k2 c hc
theorem Ext.one (cs:List Cg) {c:Cg} (h:NoAdd c):Ext cs (cs++[c]):=⟨[c],rfl,fun x hx=>by rw [List.mem_singleton.1 hx];exact h⟩
theorem takeStep_ext (e r:Int) (p:(Nat→Ent)×List Cg) {k:Int} (h0:0≤k) (h1:k≤1000000):Ext p.2 (takeStep e r p k).2:=by
 unfold takeStep;simp only;split
 ·exact Ext.one _ ⟨.inl rfl,h0,h1⟩
 ·exact Ext.refl _
theorem takeAll_ext (e r:Int) : ∀ (ks:List Int) (V:Nat→Ent) (cs:List Cg),(∀ k∈ks,0≤k∧k≤1000000)→Ext cs (takeAll e r V cs ks).2
 | [],_,cs,_=>Ext.refl cs
 | k :: ks,V,cs,h=>by
  have e1:takeAll e r V cs (k :: ks)=takeAll e r (takeStep e r (V,cs) k).1 (takeStep e r (V,cs) k).2 ks:=rfl;rw [e1];have hk:=h k (by simp);exact (takeStep_ext e r (V,cs) hk.1 hk.2).trans (takeAll_ext e r ks _ _ (fun x hx=>h x (List.mem_cons_of_mem _ hx)))
theorem banStep_ext (p:(Nat→Ent)×List Cg) {k:Int} (h0:0≤k) (h1:k≤1000000):Ext p.2 (banStep p k).2:=by
 unfold banStep;split
 ·exact Ext.refl _
 ·exact Ext.one _ ⟨.inr (.inl rfl),h0,h1⟩
theorem banAll_ext : ∀ (ks:List Int) (V:Nat→Ent) (cs:List Cg),(∀ k∈ks,0≤k∧k≤1000000)→Ext cs (banAll V cs ks).2
 | [],_,cs,_=>Ext.refl cs
 | k :: ks,V,cs,h=>by
  have e1:banAll V cs (k :: ks)=banAll (banStep (V,cs) k).1 (banStep (V,cs) k).2 ks:=rfl;rw [e1];have hk:=h k (by simp);exact (banStep_ext (V,cs) hk.1 hk.2).trans (banAll_ext ks _ _ (fun x hx=>h x (List.mem_cons_of_mem _ hx)))
theorem attC_ext {σ:St} (hb:σ.bs.length≤1000000) (cs:List Cg) (v:Vt) (ins:Bool):Ext cs (attC σ cs v ins).2:=by
 unfold attC;split
 ·rename_i hE
  refine takeAll_ext _ _ _ _ _ (fun k hk=>?_);unfold attE at hE;cases hR:rightF σ.bs.length σ.S v with
  | false=>rw [hR] at hE;simp at hE
  | true=>
   obtain ⟨j,hj,rfl⟩:=List.mem_iff_getElem.1 hk;have h:=rightF_who hR hj;rw [List.getD_eq_getElem?_getD,List.getElem?_eq_getElem hj] at h;simp only [Option.getD_some] at h;omega
 ·exact Ext.refl _
theorem shown_ext {σ:St} (hb:σ.bs.length≤1000000) (V:Nat→Ent) (cs:List Cg) (a b:Vt):Ext cs (banAll V cs (shownF σ.bs.length σ.S a b)).2:=
 banAll_ext _ _ _ (fun k hk=>by have h:=shownF_mem hk;omega)
structure Kept (p q:St×List Cg):Prop where
 bs:q.1.bs=p.1.bs
 S:q.1.S=p.1.S
 F:q.1.F=p.1.F
 ext:Ext p.2 q.2
theorem Kept.refl (p:St×List Cg):Kept p p:=⟨rfl,rfl,rfl,Ext.refl _⟩
theorem Kept.trans {p q r:St×List Cg} (h:Kept p q) (k:Kept q r):Kept p r:=⟨k.bs.trans h.bs,k.S.trans h.S,k.F.trans h.F,h.ext.trans k.ext⟩
theorem attStep_kept {p:St×List Cg} (hb:p.1.bs.length≤1000000) (v:Vt):Kept p (attStep p v):=⟨rfl,rfl,rfl,attC_ext hb _ _ _⟩
theorem slaStep_kept {p:St×List Cg} (hb:p.1.bs.length≤1000000) (ab:Vt×Vt):Kept p (slaStep p ab):=⟨rfl,rfl,rfl,shown_ext hb _ _ _ _⟩
theorem atts_kept : ∀ (vs:List Vt) (p:St×List Cg),p.1.bs.length≤1000000→Kept p (vs.foldl attStep p)
 | [],_,_=>Kept.refl _
 | v :: vs,_,hb=>(attStep_kept hb v).trans (atts_kept vs _ hb)
theorem slas_kept : ∀ (ps:List (Vt×Vt)) (p:St×List Cg),p.1.bs.length≤1000000→Kept p (ps.foldl slaStep p)
 | [],_,_=>Kept.refl _
 | x :: ps,_,hb=>(slaStep_kept hb x).trans (slas_kept ps _ hb)
theorem Raised.kept {σ σ':St} {cs cs':List Cg} {je jr fe fr:Int} (h:Raised σ cs je jr fe fr σ' cs'):(∀ r x',σ'.F r=some x'→∃ x,σ.F r=some x∧(x'.1=x.1∨x'.1=r))∧Ext cs cs':=by
 obtain ⟨e1,e2,_⟩:=raiseJ_same σ je jr;unfold Raised at h;split at h
 ·obtain ⟨ks,_,rfl,rfl⟩:=h;refine ⟨fun r x' hx=>?_,Ext.one _ ⟨.inr (.inr rfl),Int.le_refl _,by simp⟩⟩;have hx2:cutT (raiseJ σ je jr).F (raiseJ σ je jr).f fr r=some x':=hx;rw [e1,e2] at hx2;obtain ⟨_,y,hy,rfl⟩:=cutT_some hx2;refine ⟨y,hy,?_⟩;unfold cutN;simp only;split
  ·rename_i e
   exact .inr e.symm
  ·exact .inl rfl
 ·obtain ⟨rfl,rfl⟩:=h;exact ⟨fun r x' hx=>⟨x',by rw [← e1];exact hx,.inl rfl⟩,Ext.refl _⟩
structure Adds (σ σ':St) (cs':List Cg):Prop where
 tail : ∀ i c,cs'[i]? = some c→0 < i→c.kind≠0
 who : ∀ c∈cs',(c.kind=0∨c.kind=1∨c.kind=2∨c.kind=3)∧0≤c.who∧c.who≤1000000
 root : ∀ c∈cs',c.kind=0→inU c.root
 cov : ∀ r,(σ'.F r).isSome=true→(σ.F r).isSome=true∨∃ c,cs'[0]? = some c∧c.kind=0∧c.root=r
 par:(∀ r x,σ.F r=some x→inU x.1)→∀ r x,σ'.F r=some x→inU x.1
theorem Adds.ext {σ σ':St} {cs':List Cg} (he:Ext [] cs') (hF:σ'.F=σ.F):Adds σ σ' cs':=by
 obtain ⟨ds,rfl,h⟩:=he;refine ⟨fun i c hc _=>(h c (List.mem_of_getElem? hc)).ne,fun c hc=>⟨.inr (h c hc).1,(h c hc).2⟩,fun c hc hk=>absurd hk (h c hc).ne,fun r hr=>.inl (by rw [← hF];exact hr),fun hp=>by rw [hF];exact hp⟩
theorem Adds.same (σ:St):Adds σ σ []:=Adds.ext (Ext.refl _) rfl
theorem Adds.ok {σ σ':St} {cs':List Cg} {r q s:Int} {vs:List Vt} {ps:List (Vt×Vt)} (hw:StWf σ) (hr:inU r) (hq:inU q) (h:PropOk σ [] r q s vs ps σ' cs'):Adds σ σ' cs':=by
 obtain ⟨x,σe,cse,hL,_,hrd,hend⟩:=h;have hbs:σ.bs.length≤1000000:=by have:=hw.may.l2;omega
 have hB:Kept (propA σ r q s (propX σ r q s vs x),[]++[⟨0,r,q,0,0,false⟩]) (propB σ [] r q s (propX σ r q s vs x) vs):=atts_kept vs _ hbs;have hC:=hB.trans (slas_kept ps (propB σ [] r q s (propX σ r q s vs x) vs) (by rw [hB.bs];exact hbs));change Kept _ (propC σ [] r q s (propX σ r q s vs x) vs ps) at hC;obtain ⟨PC,hPC⟩ : ∃ PC,PC=propC σ [] r q s (propX σ r q s vs x) vs ps:=⟨_,rfl⟩;rw [← hPC] at hC hrd;obtain ⟨k1,k2⟩:=hrd.kept;have k3:(∀ r x',σ'.F r=some x'→∃ x,σe.F r=some x∧(x'.1=x.1∨x'.1=r))∧Ext cse cs':=by
  unfold PropEnd at hend;split at hend
  ·exact hend.kept
  ·obtain ⟨rfl,rfl⟩:=hend;exact ⟨fun r x' hx=>⟨x',hx,.inl rfl⟩,Ext.refl _⟩
 obtain ⟨k3,k4⟩:=k3;have hCF:PC.1.F=propT σ r q s:=hC.F;obtain ⟨ds,hds,hda⟩:=hC.ext.trans (k2.trans k4);have hds2:cs'=⟨0,r,q,0,0,false⟩ :: ds:=hds;have hkF : ∀ k y,propT σ r q s k=some y→(σ.F k=some y∨k=r∧y.1=q):=fun k y hy=>by
  unfold propT tset at hy;split at hy
  ·cases hy;exact .inr ⟨by assumption,rfl⟩
  ·exact .inl hy
 have hback : ∀ k y',σ'.F k=some y'→∃ y,propT σ r q s k=some y∧(y'.1=y.1∨y'.1=k):=fun k y' hy=>by
  obtain ⟨y1,h1,h2⟩:=k3 k y' hy;obtain ⟨y2,h3,h4⟩:=k1 k y1 h1;have h3':PC.1.F k=some y2:=h3;rw [hCF] at h3';refine ⟨y2,h3',?_⟩;rcases h2 with e | e
  ·rcases h4 with e2 | e2
   ·exact .inl (e.trans e2)
   ·exact .inr (e.trans e2)
  ·exact .inr e
 rw [hds2];refine ⟨fun i c hc hi=>?_,fun c hc=>?_,fun c hc hk=>?_,fun k hk=>?_,fun hp k y' hy=>?_⟩
 ·obtain ⟨j,rfl⟩ : ∃ j,i=j+1:=⟨i - 1,by omega⟩;rw [List.getElem?_cons_succ] at hc;exact (hda c (List.mem_of_getElem? hc)).ne
 ·rcases List.mem_cons.1 hc with rfl | hc
  ·exact ⟨.inl rfl,Int.le_refl _,by simp⟩
  ·exact ⟨.inr (hda c hc).1,(hda c hc).2⟩
 ·rcases List.mem_cons.1 hc with rfl | hc
  ·exact hr
  ·exact absurd hk (hda c hc).ne
 ·obtain ⟨y',hy'⟩:=Option.isSome_iff_exists.1 hk;obtain ⟨y,hy,_⟩:=hback k y' hy';rcases hkF k y hy with h | h
  ·left;rw [h];rfl
  ·right;exact ⟨_,rfl,rfl,h.1.symm⟩
 ·obtain ⟨y,hy,he⟩:=hback k y' hy;rcases hkF k y hy with h | h
  ·rcases he with e | e
   ·rw [e];exact hp k y h
   ·rw [e];exact hw.tree.key k y h
  ·rcases he with e | e
   ·rw [e,h.2];exact hq
   ·rw [e,h.1];exact hr
theorem Applied.adds {σ σ':St} {e:Ev} {E:Int} {cs':List Cg} (hw:StWf σ) (hB:EvB e) (h:Applied σ e E σ' cs'):Adds σ σ' cs':=by
 have hbs:σ.bs.length≤1000000:=by have:=hw.may.l2;omega
 rcases h with ⟨_,_,rfl,rfl⟩ | ⟨_,h⟩ | ⟨_,_,rfl,rfl⟩ | ⟨_,_,rfl,rfl⟩
 ·exact Adds.ext (Ext.refl _) (by unfold tickF;split <;> rfl)
 ·rcases h with ⟨_,_,rfl,rfl⟩ | ⟨_,_,_,rfl,rfl⟩ | ⟨_,_,_,_,rfl,rfl⟩ | ⟨_,_,_,_,_,rfl,rfl⟩ | ⟨_,_,_,_,_,h⟩
  ·exact Adds.same _
  ·exact Adds.same _
  ·exact Adds.same _
  ·exact Adds.same _
  ·exact Adds.ok hw hB.r hB.q h
 ·exact Adds.ext (attC_ext hbs _ _ _) rfl
 ·exact Adds.ext (shown_ext hbs _ _ _ _) rfl
theorem Raised.bs {σ σ':St} {cs cs':List Cg} {je jr fe fr:Int} (h:Raised σ cs je jr fe fr σ' cs'):σ'.bs=σ.bs∧σ'.S=σ.S∧σ'.B=σ.B:=by
 obtain ⟨_,_,e3,e4,e5,_⟩:=raiseJ_same σ je jr;unfold Raised at h;split at h
 ·obtain ⟨ks,_,rfl,rfl⟩:=h;exact ⟨e3,e4,e5⟩
 ·obtain ⟨rfl,rfl⟩:=h;exact ⟨e3,e4,e5⟩
def insR (x:Int):List Int→List Int
 | []=>[x]
 | y :: ys=>if x < y then x :: y :: ys else if x=y then y :: ys else y :: insR x ys
theorem insR_mem (x z:Int) : ∀ ys:List Int,z∈insR x ys↔z=x∨z∈ys
 | []=>by simp [insR]
 | y :: ys=>by
  unfold insR;split
  ·simp
  ·split
   ·rename_i h;subst h;simp
   ·rw [List.mem_cons,List.mem_cons,insR_mem x z ys];constructor
    ·rintro (h | h | h)
     ·exact .inr (.inl h)
     ·exact .inl h
     ·exact .inr (.inr h)
    ·rintro (h | h | h)
     ·exact .inr (.inl h)
     ·exact .inl h
     ·exact .inr (.inr h)
theorem insR_up (x:Int) : ∀ ys:List Int,ys.Pairwise (· < ·)→(insR x ys).Pairwise (· < ·)
 | [],_=>by simp [insR]
 | y :: ys,h=>by
  obtain ⟨h1,h2⟩:=List.pairwise_cons.1 h;unfold insR;split
  ·rename_i hl
   refine List.pairwise_cons.2 ⟨fun z hz=>?_,h⟩;rcases List.mem_cons.1 hz with rfl | hz
   ·exact hl
   ·have:=h1 z hz;omega
  ·split
   ·exact h
   ·refine List.pairwise_cons.2 ⟨fun z hz=>?_,insR_up x ys h2⟩;rcases (insR_mem x z ys).1 hz with rfl | hz
    ·omega
    ·exact h1 z hz
def allR:List Int→List Int
 | []=>[]
 | k :: ks=>insR k (allR ks)
theorem allR_up : ∀ ks:List Int,(allR ks).Pairwise (· < ·)
 | []=>List.Pairwise.nil
 | k :: ks=>insR_up k _ (allR_up ks)
theorem allR_mem (x:Int) : ∀ ks:List Int,x∈allR ks↔x∈ks
 | []=>Iff.rfl
 | k :: ks=>by
  show x∈insR k (allR ks)↔_;rw [insR_mem,allR_mem x ks,List.mem_cons]
theorem rising_ex {σ:St} (hw:StWf σ) : ∃ ks,Rising σ.F ks:=by
 obtain ⟨ks,_,h2⟩:=hw.ks;refine ⟨allR (ks.filter fun k=>(σ.F k).isSome),allR_up _,?_,?_⟩
 ·intro x hx;rw [allR_mem] at hx;obtain ⟨y,hy⟩:=Option.isSome_iff_exists.1 (List.mem_filter.1 hx).2;exact hw.tree.key x y hy
 ·intro x _;rw [allR_mem,List.mem_filter];exact ⟨fun h=>h.2,fun h=>⟨h2 x h,h⟩⟩
def InA (α:Arr) (r:Int):Prop:=∃ i,i < α.n∧(α.X i).r=r
structure ACj (α:Arr) (σ:St) (M:Nat) (cs:List Cg) (j:Nat):Prop where
 par:ParOk α.X α.n
 root:RootOk α.X α.n
 n1:1≤α.n
 n2:α.n≤M+1
 n3:j=0→α.n≤M
 cov : ∀ r,(σ.F r).isSome=true→InA α r∨∃ i c,j≤i∧cs[i]? = some c∧c.kind=0∧c.root=r
structure ACov (α:Arr) (σ:St) (M:Nat):Prop where
 par:ParOk α.X α.n
 root:RootOk α.X α.n
 n1:1≤α.n
 n2:α.n≤M
 cov : ∀ r,(σ.F r).isSome=true→InA α r
section
variable {α:Arr} {σ σ':St} {M j:Nat} {cs:List Cg}
theorem ACov.mono {M':Nat} (h:ACov α σ M) (hm:M≤M'):ACov α σ M':=⟨h.par,h.root,h.n1,Nat.le_trans h.n2 hm,h.cov⟩
theorem ACov.start (h:ACov α σ M) (ha:Adds σ σ' cs):ACj α σ' M cs 0:=
 ⟨h.par,h.root,h.n1,by have:=h.n2;omega,fun _=>h.n2,fun r hr=>(ha.cov r hr).imp (h.cov r) (fun ⟨c,h1,h2,h3⟩=>⟨0,c,Nat.le_refl _,h1,h2,h3⟩)⟩
theorem ACj.done (h:ACj α σ M cs cs.length):ACov α σ (M+1):=
 ⟨h.par,h.root,h.n1,h.n2,fun r hr=>(h.cov r hr).elim id (fun ⟨i,c,h1,h2,_⟩=>by
  have:=(List.getElem?_eq_some_iff.1 h2).1;omega)⟩
theorem ACj.later (h:ACj α σ M cs j) {c:Cg} (hc:cs[j]? = some c) (hk:c.kind≠0) {α':Arr} (hn:α'.n=α.n) (hp : ∀ i,(α'.X i).p=(α.X i).p) (hr : ∀ i,(α'.X i).r=(α.X i).r):ACj α' σ M cs (j+1):=by
 refine ⟨by rw [hn];exact h.par.same hp,fun i hi=>?_,by rw [hn];exact h.n1,by rw [hn];exact h.n2,by omega,fun r hr'=>?_⟩
 ·rw [hr];exact h.root i (by omega)
 ·rcases h.cov r hr' with ⟨i,h1,h2⟩ | ⟨i,c',h1,h2,h3,h4⟩
  ·exact .inl ⟨i,by omega,by rw [hr];exact h2⟩
  ·refine .inr ⟨i,c',?_,h2,h3,h4⟩;rcases Nat.lt_or_ge j i with hl | hl
   ·exact hl
   ·obtain rfl:i=j:=by omega
    rw [hc] at h2;cases h2;exact absurd h3 hk
theorem ACj.same (h:ACj α σ M cs j) {α':Arr} (hn:α'.n=α.n) (hp : ∀ i,(α'.X i).p=(α.X i).p) (hr : ∀ i,(α'.X i).r=(α.X i).r):ACj α' σ M cs j:=
 ⟨by rw [hn];exact h.par.same hp,fun i hi=>by rw [hr];exact h.root i (by omega),by rw [hn];exact h.n1,by rw [hn];exact h.n2,fun e=>by rw [hn];exact h.n3 e,
  fun r hr'=>(h.cov r hr').imp (fun ⟨i,h1,h2⟩=>⟨i,by omega,by rw [hr];exact h2⟩) id⟩
theorem ACj.next (h:ACj α σ M cs j) {c:Cg} (hc:cs[j]? = some c) (hk:c.kind≠0):ACj α σ M cs (j+1):=h.later hc hk rfl (fun _=>rfl) (fun _=>rfl)
theorem ACj.added (h:ACj α σ M cs j) {c:Cg} (hc:cs[j]? = some c) (hj:j=0) (hin:inU c.root) (q:Int):ACj (addA α c.root q) σ M cs (j+1):=by
 have hn3:=h.n3 hj;have hf:=fnd_lt α.X q α.n;refine ⟨fun i hi=>?_,fun i hi=>?_,by show 1≤α.n+1;omega,by show α.n+1≤M+1;omega,by omega,fun r hr=>?_⟩
 ·show -1≤(nset α.X α.n ⟨c.root,fnd α.X q α.n,0,0,0⟩ i).p∧_;have hi2:i < α.n+1:=hi;have e2:(addA α c.root q).X i=nset α.X α.n ⟨c.root,fnd α.X q α.n,0,0,0⟩ i:=rfl;rw [e2];unfold nset;split
  ·simp only;omega
  ·exact h.par i (by omega)
 ·have hi2:i < α.n+1:=hi;have e2:(addA α c.root q).X i=nset α.X α.n ⟨c.root,fnd α.X q α.n,0,0,0⟩ i:=rfl;rw [e2];unfold nset;split
  ·exact hin
  ·exact h.root i (by omega)
 ·rcases h.cov r hr with ⟨i,h1,h2⟩ | ⟨i,c',h1,h2,h3,h4⟩
  ·left;refine ⟨i,by show i < α.n+1;omega,?_⟩;show (nset α.X α.n ⟨c.root,fnd α.X q α.n,0,0,0⟩ i).r=r;unfold nset;rw [if_neg (by omega)];exact h2
  ·rcases Nat.lt_or_ge j i with hl | hl
   ·exact .inr ⟨i,c',hl,h2,h3,h4⟩
   ·obtain rfl:i=j:=by omega
    rw [hc] at h2;cases h2;left;refine ⟨α.n,by show α.n < α.n+1;omega,?_⟩;show (nset α.X α.n ⟨c.root,fnd α.X q α.n,0,0,0⟩ α.n).r=r;unfold nset;rw [if_pos rfl];exact h4
theorem ACj.here (h:ACj α σ M cs j) {c:Cg} (hc:cs[j]? = some c) (hk:c.kind≠0) (htl : ∀ i c,cs[i]? = some c→0 < i→c.kind≠0) : ∀ r,(σ.F r).isSome=true→InA α r:=fun r hr=>by
 rcases h.cov r hr with h1 | ⟨i,c',h1,h2,h3,_⟩
 ·exact h1
 ·rcases Nat.eq_zero_or_pos i with h0 | h0
  ·obtain rfl:i=j:=by omega
   rw [hc] at h2;cases h2;exact absurd h3 hk
  ·exact absurd h3 (htl i c' h2 h0)
theorem ACj.cutok (h:ACj α σ M cs j) {c:Cg} (hc:cs[j]? = some c) (hk:c.kind≠0) (htl : ∀ i c,cs[i]? = some c→0 < i→c.kind≠0) (hf:(σ.F σ.f).isSome=true) {β:Arr} (hn:β.n=α.n) (hr : ∀ i,(β.X i).r=(α.X i).r) :
  0 < (cutK β.X (fun r=>(σ.F r).isSome) β.n).1:=by
 obtain ⟨i,h1,h2⟩:=h.here hc hk htl _ hf;obtain ⟨k,hk1,_⟩:=cutK_keeps (X:=β.X) (has:=fun r=>(σ.F r).isSome) (r:=σ.f) hf β.n i (by omega) (by rw [hr];exact h2);omega
theorem ACj.cut (h:ACj α σ M cs j) {c:Cg} (hc:cs[j]? = some c) (hk:c.kind≠0) (htl : ∀ i c,cs[i]? = some c→0 < i→c.kind≠0) (hf:(σ.F σ.f).isSome=true) {β:Arr} (hn:β.n=α.n) (hp : ∀ i,(β.X i).p=(α.X i).p) (hr : ∀ i,(β.X i).r=(α.X i).r) :
  ACj (cutA β fun r=>(σ.F r).isSome) σ M cs (j+1):=by
 have h0:=h.cutok hc hk htl hf hn hr;have hle:=cutK_le (X:=β.X) (has:=fun r=>(σ.F r).isSome) β.n;have hpo:ParOk β.X β.n:=by rw [hn];exact h.par.same hp
 have hro:RootOk β.X β.n:=fun i hi=>by rw [hr];exact h.root i (by omega)
 have hn2:=h.n2;refine ⟨cutK_par hpo β.n (Nat.le_refl _),cutK_root hro β.n (Nat.le_refl _),h0,by show (cutK β.X _ β.n).1≤_;omega,by omega,fun r hr'=>?_⟩;obtain ⟨i,h1,h2⟩:=h.here hc hk htl r hr';obtain ⟨k,hk1,hk2⟩:=cutK_keeps (X:=β.X) (has:=fun r=>(σ.F r).isSome) (r:=r) hr' β.n i (by omega) (by rw [hr];exact h2);exact .inl ⟨k,hk1,hk2⟩
end
theorem cgRow_get : ∀ (cs:List Cg) (j:Nat) (c:Cg),cs[j]? = some c→∀ t,t < 6→(cgRow cs)[j * 6+t]? = c.cells[t]?
 | [],j,c,h,_,_=>by simp at h
 | x :: cs,0,c,h,t,ht=>by
  obtain rfl:x=c:=by simpa using h
  show (x.cells++cgRow cs)[0 * 6+t]? = _;rw [List.getElem?_append_left (by simp [Cg.cells];omega)];simp
 | x :: cs,j+1,c,h,t,ht=>by
  rw [List.getElem?_cons_succ] at h;have ih:=cgRow_get cs j c h t ht;show (x.cells++cgRow cs)[(j+1) * 6+t]? = _;have hl:x.cells.length=6:=rfl;rw [List.getElem?_append_right (by omega),hl,show (j+1) * 6+t - 6=j * 6+t from by omega];exact ih
theorem cg_cells {w:World} {base g n c:Nat} {cs:List Cg} (h:w.ownsRow base 178 6 (.slice (some ⟨g,0,none⟩) n c) cs.length (cgRow cs)) {j:Nat} {x:Cg} (hj:cs[j]? = some x) :
  w.cell? ⟨g,j * 6,none⟩=some (.int .i64 x.kind)∧w.cell? ⟨g,j * 6+1,none⟩=some (.int .u64 x.root)∧w.cell? ⟨g,j * 6+2,none⟩=some (.int .u64 x.parent)∧w.cell? ⟨g,j * 6+3,none⟩=some (.int .i64 x.who) ∧
   w.cell? ⟨g,j * 6+4,none⟩=some (.int .u64 x.frm)∧w.cell? ⟨g,j * 6+5,none⟩=some (.bool x.had):=by
 have hg : ∀ t u,t < 6→x.cells[t]? = some u→w.cell? ⟨g,j * 6+t,none⟩=some u:=fun t u ht hu=>by
  have h1:=h.cells (g:=g) rfl (j * 6+t) u (by rw [cgRow_get cs j x hj t ht];exact hu);have e:(⟨g,0,none⟩:Addr).add (j * 6+t)=⟨g,j * 6+t,none⟩:=by unfold Addr.add;split <;> simp_all
  rw [e] at h1;exact h1
 exact ⟨hg 0 _ (by omega) rfl,hg 1 _ (by omega) rfl,hg 2 _ (by omega) rfl,hg 3 _ (by omega) rfl,hg 4 _ (by omega) rfl,hg 5 _ (by omega) rfl⟩
structure EngD where
 ty:TypeId
 ff:Nat
 fh:Nat
 T:Type
 Own:World→Nat→Nat→(Nat→Prop)→T→Prop
 Rel:St→Nat→T→Prop
 next:St→List Cg→T→T
 HD:St→List Int→T→Int→Prop
 Eqv:St→T→T→Prop
 t0:T
structure EngAt (X:EngD) (w:World) (q:Nat) (I:Ids) (σ:St) (t:X.T) (N:Nat):Prop where
 st:StoreAt w I σ
 own:X.Own w q I.p I.ex t
 inv:Inv σ N
 rel:X.Rel σ N t
 par : ∀ r x,σ.F r=some x→inU x.1
structure EngL (X:EngD):Prop where
 chg : ∀ {S:Nat→Prop} {w w':World} {q p:Nat} {O:Nat→Prop} {t:X.T},X.Own w q p O t→Chg S w w'→(∀ i,O i→¬ S i)→X.Own w' q p O t
 eqr : ∀ (σ:St) (t:X.T),X.Eqv σ t t
 eqt : ∀ {σ:St} {t t' t'':X.T},X.Eqv σ t t'→X.Eqv σ t' t''→X.Eqv σ t t''
 eqs : ∀ {σ:St} {t t':X.T},X.Eqv σ t t'→X.Eqv σ t' t
 uniq : ∀ {σ:St} {ks:List Int} {N:Nat} {t t':X.T} {r r':Int},X.Eqv σ t t'→X.Rel σ N t→X.HD σ ks t r→X.HD σ ks t' r'→r=r'
 step : ∀ {σ σ':St} {N M:Nat} {t t':X.T} {e:Ev} {E:Int} {cs':List Cg},X.Eqv σ t t'→X.Rel σ N t→X.Rel σ M t'→Inv σ N→EvB e→Applied σ e E σ' cs'→X.Eqv σ' (X.next σ' cs' t) (X.next σ' cs' t')
 rest : ∀ {σ:St} {N:Nat} {t:X.T},X.Rel σ N t→X.Eqv σ t (X.next σ [] t)∧X.Rel σ N (X.next σ [] t)
 feed : ∀ {w:World} {q:Nat} {I:Ids} {σ:St} {t:X.T} {N:Nat} {e:Ev} {cells:Array Value},EngAt X w q I σ t N→N < 1000→EvB e→EvAt w (fun i=>i < w.heap.size∧¬ Far I i) e cells →
  Calls Tryz.prog X.ff #[.pointer (some ⟨q,0,none⟩),.agg cells] w fun z w'=>∃ E I' σ' cs',z=.returned (errV E)∧Applied σ e E σ' cs'∧EngAt X w' q I' σ' (X.next σ' cs' t) (N+1)∧I'.p=I.p∧I'.ba=I.ba∧Chg (Far I) w w'∧∀ i,Far I' i→Far I i∨w.heap.size≤i
 head : ∀ {w:World} {q:Nat} {I:Ids} {σ:St} {t:X.T} {N:Nat} {ks:List Int},EngAt X w q I σ t N→N < 1000→Rising σ.F ks →
  Calls Tryz.prog X.fh #[.pointer (some ⟨q,0,none⟩)] w fun z w'=>∃ r t',z=.returned (.int .u64 r)∧X.HD σ ks t r∧inU r∧X.Eqv σ t t'∧EngAt X w' q I σ t' N∧Chg I.ex w w'
section
variable {X:EngD} {w w':World} {q:Nat} {I:Ids} {σ:St} {t:X.T} {N:Nat}
theorem EngAt.g (h:EngAt X w q I σ t N) (L:EngL X) (hg:w.grownBy w' none):EngAt X w' q I σ t N:=
 ⟨h.st.g hg,L.chg h.own (S:=fun _=>False) (Chg.of hg) (fun _ _ h=>h),h.inv,h.rel,h.par⟩
end
end Go.Proofs.YtndfpmboanohcaaGreatDoor
