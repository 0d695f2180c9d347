/- What changes do to the link engine: plain law, and what is kept while they are taken. -/
import Derived.Test.YtndfpmboanohcaaGreatDoorLkcToLka
namespace Go.Proofs.YtndfpmboanohcaaGreatDoor
set_option maxRecDepth 100000
open Go.RowKit Go.Maps SkipPure
noncomputable def lstepC (bs:List Int) (t:Lk) (c:Cg):Lk:=
 if c.kind=0 then addL t c.root c.parent
 else if c.kind=1 then upF (if c.had then upF t c.frm 0 (sumF bs [c.who]) else t) c.root (sumF bs [c.who]) 0
 else if c.kind=2 then (if c.had then upF t c.frm 0 (sumF bs [c.who]) else t)
 else cutL t c.root
def LOkC (t:Lk) (c:Cg):Prop:=(c.kind=0→t.dom c.parent∧¬ t.dom c.root∧c.root≠0)∧(c.kind=3→t.dom c.root)
def LOks (bs:List Int):Lk→List Cg→Prop
 | _,[]=>True
 | t,c :: cs=>LOkC t c∧LOks bs (lstepC bs t c) cs
noncomputable def lnx (bs:List Int) (t:Lk) (cs:List Cg) (j:Nat):Lk:=(cs.take j).foldl (lstepC bs) t
theorem lnx_succ {bs:List Int} {t:Lk} {cs:List Cg} {j:Nat} {x:Cg} (h:cs[j]? = some x):lnx bs t cs (j+1)=lstepC bs (lnx bs t cs j) x:=by
 unfold lnx;rw [List.take_add_one,h,List.foldl_append];rfl
theorem lnx_all (bs:List Int) (t:Lk) (cs:List Cg):lnx bs t cs cs.length=cs.foldl (lstepC bs) t:=by unfold lnx;rw [List.take_length]
theorem LOks.at {bs:List Int} : ∀ {cs:List Cg} {t:Lk} {j:Nat} {c:Cg},LOks bs t cs→cs[j]? = some c→LOkC (lnx bs t cs j) c
 | [],_,_,_,_,h=>by simp at h
 | x :: cs,t,0,c,h,hj=>by
  obtain rfl:x=c:=by simpa using hj
  exact h.1
 | x :: cs,t,j+1,c,h,hj=>by
  rw [List.getElem?_cons_succ] at hj;exact LOks.at (cs:=cs) (t:=lstepC bs t x) h.2 hj
structure LB (t:Lk) (M:Nat):Prop where
 wf:LWf t M
 kn : ∀ r,(t.kid r).length≤M
 z:¬ t.dom 0
theorem LWf.mono {t:Lk} {M N:Nat} (h:LWf t M) (hm:M≤N):LWf t N:=by
 obtain ⟨⟨rk,h1⟩,h2,⟨ks,h3,h4⟩⟩:=h;exact ⟨⟨rk,fun r hr=>⟨Nat.lt_of_lt_of_le (h1 r hr).1 hm,(h1 r hr).2⟩⟩,h2,⟨ks,Nat.le_trans h3 hm,h4⟩⟩
theorem LB.mono {t:Lk} {M N:Nat} (h:LB t M) (hm:M≤N):LB t N:=⟨h.wf.mono hm,fun r=>Nat.le_trans (h.kn r) hm,h.z⟩
theorem LB.up {t:Lk} {M:Nat} (h:LB t M) (r g k:Int):LB (upF t r g k) M:=⟨h.wf.up r g k,fun x=>by rw [(upF_same t r g k).2.2.1];exact h.kn x,by rw [(upF_same t r g k).1];exact h.z⟩
theorem LWf.kidrk {t:Lk} {M:Nat} (hw:LWf t M) {rk:Int→Nat} (hrk : ∀ r,t.dom r→rk r < M∧(t.par r=0∨(t.dom (t.par r)∧rk (t.par r) < rk r))) (hz:¬ t.dom 0) {r k:Int} (hr:t.dom r) (hk:k∈t.kid r):rk r < rk k:=by
 obtain ⟨h1,h2⟩:=hw.kid r k hr hk;rcases (hrk k h1).2 with e | ⟨_,e⟩
 ·rw [h2] at e;exact absurd (e ▸ hr) hz
 ·rw [h2] at e;exact e
theorem LDes.rk {t:Lk} {M:Nat} (hw:LWf t M) {rk:Int→Nat} (hrk : ∀ r,t.dom r→rk r < M∧(t.par r=0∨(t.dom (t.par r)∧rk (t.par r) < rk r))) (hz:¬ t.dom 0) {f y:Int} (h:LDes t.kid f y):t.dom f→rk f≤rk y:=by
 induction h with
 | self _=>exact fun _=>Nat.le_refl _
 | kid h1 _ ih=>
  intro hd;have h2:=hw.kidrk hrk hz hd h1;have h3:=ih (hw.kid _ _ hd h1).1;omega
theorem LB.cut {t:Lk} {M:Nat} (h:LB t M) {fr:Int} (hd:t.dom fr):LB (cutL t fr) M:=by
 obtain ⟨rk,hrk⟩:=h.wf.rk;obtain ⟨ks,h3,h4⟩:=h.wf.ks;have hdd : ∀ y,LDes t.kid fr y→t.dom y:=fun y hy=>LDes.dom h.wf hd hy;refine ⟨⟨⟨rk,fun r hr=>?_⟩,fun r k hr hk=>?_,⟨ks,h3,fun r hr=>h4 r (hdd r hr)⟩⟩,h.kn,fun h0=>h.z (hdd 0 h0)⟩
 ·have h1:=hrk r (hdd r hr);refine ⟨h1.1,?_⟩;show (if r=fr then (0:Int) else t.par r)=0∨(LDes t.kid fr (if r=fr then 0 else t.par r)∧rk (if r=fr then 0 else t.par r) < rk r);by_cases e:r=fr
  ·rw [if_pos e];exact .inl rfl
  ·rw [if_neg e];rcases LDes.from hr with e2 | ⟨q,h5,h6⟩
   ·exact absurd e2 e
   ·have h7:=(h.wf.kid q r (hdd q h5) h6).2;rcases h1.2 with h8 | ⟨_,h8⟩
    ·exact .inl h8
    ·exact .inr ⟨by rw [h7];exact h5,h8⟩
 ·refine ⟨LDes.snoc hr hk,?_⟩;show (if k=fr then (0:Int) else t.par k)=r;have h7:=(h.wf.kid r k (hdd r hr) hk).2;by_cases e:k=fr
  ·exfalso;have h8:=h.wf.kidrk hrk h.z (hdd r hr) hk;have h9:=LDes.rk h.wf hrk h.z hr hd;rw [e] at h8;omega
  ·rw [if_neg e];exact h7
theorem LB.add {t:Lk} {M:Nat} (h:LB t M) {r q:Int} (hq:t.dom q) (hr:¬ t.dom r) (hr0:r≠0):LB (addL t r q) (M+1):=by
 obtain ⟨rk,hrk⟩:=h.wf.rk;obtain ⟨ks,h3,h4⟩:=h.wf.ks;have hqr:q≠r:=fun e=>hr (e ▸ hq);have hpar : ∀ j,t.dom j→t.par j≠r:=fun j hj e=>by
  rcases (hrk j hj).2 with h1 | ⟨h1,_⟩
  ·exact hr0 (by rw [← e,h1])
  ·exact hr (e ▸ h1)
 refine ⟨⟨⟨fun y=>if y=r then rk q+1 else rk y,fun y hy=>?_⟩,fun y k hy hk=>?_,⟨r :: ks,by simp only [List.length_cons];omega,fun y hy=>?_⟩⟩,fun y=>?_,fun h0=>?_⟩
 ·show (if y=r then rk q+1 else rk y) < M+1∧((if y=r then q else t.par y)=0∨((t.dom (if y=r then q else t.par y)∨(if y=r then q else t.par y)=r)∧(if (if y=r then q else t.par y)=r then rk q+1 else rk (if y=r then q else t.par y)) < if y=r then rk q+1 else rk y));by_cases e:y=r
  ·simp only [if_pos e,if_neg hqr];have:=(hrk q hq).1;exact ⟨by omega,.inr ⟨.inl hq,by omega⟩⟩
  ·have hdy:t.dom y:=hy.elim id (fun h=>absurd h e);simp only [if_neg e,if_neg (hpar y hdy)];have h1:=hrk y hdy;exact ⟨by omega,h1.2.imp id (fun h=>⟨.inl h.1,h.2⟩)⟩
 ·have hk2:k∈(if y=r then [] else if y=q then t.kid q++[r] else t.kid y):=hk;show (t.dom k∨k=r)∧(if k=r then q else t.par k)=y;by_cases e:y=r
  ·rw [if_pos e] at hk2;cases hk2
  ·have hdy:t.dom y:=hy.elim id (fun h=>absurd h e);rw [if_neg e] at hk2;by_cases e2:y=q
   ·rw [if_pos e2] at hk2;rcases List.mem_append.1 hk2 with h5 | h5
    ·obtain ⟨a,b⟩:=h.wf.kid q k hq h5;exact ⟨.inl a,by rw [if_neg (fun e3:k=r=>hr (by rw [← e3];exact a)),b,e2]⟩
    ·have e3:k=r:=by simpa using h5
     exact ⟨.inr e3,by rw [if_pos e3,e2]⟩
   ·rw [if_neg e2] at hk2;obtain ⟨a,b⟩:=h.wf.kid y k hdy hk2;exact ⟨.inl a,by rw [if_neg (fun e3:k=r=>hr (by rw [← e3];exact a)),b]⟩
 ·rcases hy with hy | hy
  ·exact List.mem_cons_of_mem _ (h4 y hy)
  ·rw [hy];simp
 ·show (if y=r then [] else if y=q then t.kid q++[r] else t.kid y).length≤M+1;have h1:=h.kn q;have h2:=h.kn y;split
  ·simp
  ·split
   ·simp;omega
   ·omega
 ·rcases h0 with h0 | h0
  ·exact h.z h0
  ·exact hr0 h0.symm
def BoOk (σ:St):Prop:=σ.boosted=0∨(σ.F σ.boosted).isSome=true
def CfB (σ σ':St):Prop:=σ'.bs=σ.bs∧σ'.S=σ.S∧σ'.B=σ.B
theorem CfB.trans {a b c:St} (h:CfB a b) (k:CfB b c):CfB a c:=⟨k.1.trans h.1,k.2.1.trans h.2.1,k.2.2.trans h.2.2⟩
theorem CfB.refl (a:St):CfB a a:=⟨rfl,rfl,rfl⟩
theorem Raised.cfb {σ σ':St} {cs cs':List Cg} {je jr fe fr:Int} (h:Raised σ cs je jr fe fr σ' cs'):CfB σ σ':=h.bs
theorem atts_keep : ∀ (vs:List Vt) (p:St×List Cg),CfB p.1 (vs.foldl attStep p).1∧(vs.foldl attStep p).1.boosted=p.1.boosted∧(vs.foldl attStep p).1.F=p.1.F
 | [],p=>⟨CfB.refl _,rfl,rfl⟩
 | v :: vs,p=>by
  obtain ⟨h1,h2,h3⟩:=atts_keep vs (attStep p v);exact ⟨CfB.trans ⟨rfl,rfl,rfl⟩ h1,h2,h3⟩
theorem slas_keep : ∀ (ps:List (Vt×Vt)) (p:St×List Cg),CfB p.1 (ps.foldl slaStep p).1∧(ps.foldl slaStep p).1.boosted=p.1.boosted∧(ps.foldl slaStep p).1.F=p.1.F
 | [],p=>⟨CfB.refl _,rfl,rfl⟩
 | v :: vs,p=>by
  obtain ⟨h1,h2,h3⟩:=slas_keep vs (slaStep p v);exact ⟨CfB.trans ⟨rfl,rfl,rfl⟩ h1,h2,h3⟩
theorem Raised.bo {σ σ':St} {cs cs':List Cg} {je jr fe fr:Int} (h:Raised σ cs je jr fe fr σ' cs') (hb:BoOk σ):BoOk σ':=by
 have hj:BoOk (raiseJ σ je jr):=by
  unfold raiseJ;split
  ·exact hb
  ·exact hb
 unfold Raised at h;split at h
 ·obtain ⟨ks,_,rfl,_⟩:=h;unfold BoOk cutS;simp only;split
  ·right;assumption
  ·left;rfl
 ·rw [h.1];exact hj
theorem Applied.cfb {σ σ':St} {e:Ev} {E:Int} {cs':List Cg} (h:Applied σ e E σ' cs'):CfB σ σ':=by
 rcases h with ⟨_,_,rfl,_⟩ | ⟨_,h⟩ | ⟨_,_,rfl,_⟩ | ⟨_,_,rfl,_⟩
 ·unfold tickF;split
  ·exact CfB.refl _
  ·exact CfB.refl _
 ·rcases h with ⟨_,_,rfl,_⟩ | ⟨_,_,_,rfl,_⟩ | ⟨_,_,_,_,rfl,_⟩ | ⟨_,_,_,_,_,rfl,_⟩ | ⟨_,_,_,_,_,h⟩
  ·exact CfB.refl _
  ·exact CfB.refl _
  ·exact CfB.refl _
  ·exact CfB.refl _
  ·obtain ⟨x,σe,cse,_,_,hrd,hend⟩:=h;have h1:CfB σ (propC σ [] e.r e.q e.bs (propX σ e.r e.q e.bs e.vs x) e.vs e.ps).1:=
    CfB.trans (CfB.trans ⟨rfl,rfl,rfl⟩ (atts_keep e.vs (propA σ e.r e.q e.bs (propX σ e.r e.q e.bs e.vs x),[]++[⟨0,e.r,e.q,0,0,false⟩])).1) (slas_keep e.ps _).1
   have h2:CfB σ σe:=h1.trans (CfB.trans ⟨rfl,rfl,rfl⟩ hrd.cfb);unfold PropEnd at hend;split at hend
   ·exact h2.trans hend.cfb
   ·rw [hend.1];exact h2
 ·exact ⟨rfl,rfl,rfl⟩
 ·exact ⟨rfl,rfl,rfl⟩
theorem Applied.bo {σ σ':St} {e:Ev} {E:Int} {cs':List Cg} (h:Applied σ e E σ' cs') (hb:BoOk σ):BoOk σ':=by
 rcases h with ⟨_,_,rfl,_⟩ | ⟨_,h⟩ | ⟨_,_,rfl,_⟩ | ⟨_,_,rfl,_⟩
 ·unfold tickF;split
  ·left;rfl
  ·exact hb
 ·rcases h with ⟨_,_,rfl,_⟩ | ⟨_,_,_,rfl,_⟩ | ⟨_,_,_,_,rfl,_⟩ | ⟨_,_,_,_,_,rfl,_⟩ | ⟨_,_,_,_,_,h⟩
  ·exact hb
  ·exact hb
  ·exact hb
  ·exact hb
  ·obtain ⟨x,σe,cse,_,_,hrd,hend⟩:=h;obtain ⟨_,a2,a3⟩:=atts_keep e.vs (propA σ e.r e.q e.bs (propX σ e.r e.q e.bs e.vs x),[]++[⟨0,e.r,e.q,0,0,false⟩]);obtain ⟨_,s2,s3⟩:=slas_keep e.ps (propB σ [] e.r e.q e.bs (propX σ e.r e.q e.bs e.vs x) e.vs);have hB:(propC σ [] e.r e.q e.bs (propX σ e.r e.q e.bs e.vs x) e.vs e.ps).1.boosted=σ.boosted:=s2.trans a2;have hF:(propC σ [] e.r e.q e.bs (propX σ e.r e.q e.bs e.vs x) e.vs e.ps).1.F=propT σ e.r e.q e.bs:=s3.trans a3;have h1:BoOk (boostS (propC σ [] e.r e.q e.bs (propX σ e.r e.q e.bs e.vs x) e.vs e.ps).1 e.r e.bs):=by
    unfold BoOk boostS;simp only;rw [hB,hF];unfold propT tset;split
    ·right;simp
    ·rcases hb with hb | hb
     ·left;exact hb
     ·right;split
      ·rfl
      ·exact hb
   have h2:=hrd.bo h1;unfold PropEnd at hend;split at hend
   ·exact hend.bo h2
   ·rw [hend.1];exact h2
 ·exact hb
 ·exact hb
theorem Applied.form {σ σ':St} {e:Ev} {E:Int} {cs':List Cg} (hw:StWf σ) (h:Applied σ e E σ' cs'):(∀ c∈cs',NoAdd c)∨∃ ds,cs'=⟨0,e.r,e.q,0,0,false⟩ :: ds∧e.r≠0∧∀ c∈ds,NoAdd c:=by
 have hbs:σ.bs.length≤1000000:=by have:=hw.may.l2;omega
 have h0 : ∀ c∈([]:List Cg),NoAdd c:=fun c hc=>by cases hc
 rcases h with ⟨_,_,_,rfl⟩ | ⟨_,h⟩ | ⟨_,_,_,rfl⟩ | ⟨_,_,_,rfl⟩
 ·exact .inl h0
 ·rcases h with ⟨_,_,_,rfl⟩ | ⟨_,_,_,_,rfl⟩ | ⟨_,_,_,_,_,rfl⟩ | ⟨_,_,_,_,_,_,rfl⟩ | ⟨_,hr,_,_,_,h⟩
  ·exact .inl h0
  ·exact .inl h0
  ·exact .inl h0
  ·exact .inl h0
  ·right;obtain ⟨x,σe,cse,_,_,hrd,hend⟩:=h;have hB:Kept (propA σ e.r e.q e.bs (propX σ e.r e.q e.bs e.vs x),[]++[⟨0,e.r,e.q,0,0,false⟩]) (propB σ [] e.r e.q e.bs (propX σ e.r e.q e.bs e.vs x) e.vs):=atts_kept e.vs _ hbs;have hC:=hB.trans (slas_kept e.ps (propB σ [] e.r e.q e.bs (propX σ e.r e.q e.bs e.vs x) e.vs) (by rw [hB.bs];exact hbs));change Kept _ (propC σ [] e.r e.q e.bs (propX σ e.r e.q e.bs e.vs x) e.vs e.ps) at hC;have k4:Ext cse cs':=by
    unfold PropEnd at hend;split at hend
    ·exact hend.kept.2
    ·rw [hend.2];exact Ext.refl _
   obtain ⟨ds,hds,hda⟩:=hC.ext.trans (hrd.kept.2.trans k4);exact ⟨ds,hds,hr,hda⟩
 ·left;obtain ⟨ds,hds,hda⟩:=attC_ext hbs [] e.v false;rw [hds];simpa using hda
 ·left;obtain ⟨ds,hds,hda⟩:=shown_ext (σ:=σ) hbs σ.V [] e.a e.b;rw [hds];simpa using hda
structure LR (f:Int) (F:Int→Option (Int×Int×Int)) (t:Lk):Prop where
 W:WellT f F
 H:HgtT f F
 lb : ∃ M,LB t M
 dom : ∀ r,t.dom r↔(F r).isSome=true
 par : ∀ r x,F r=some x→t.par r=if r=f then 0 else x.1
 kid : ∀ r x,F r=some x→r≠f→r∈t.kid x.1
theorem LR.same {f:Int} {F:Int→Option (Int×Int×Int)} {t t':Lk} (h:LR f F t) (hb : ∀ M,LB t M→LB t' M) (h1:t'.dom=t.dom) (h2:t'.par=t.par) (h3:t'.kid=t.kid):LR f F t':=by
 obtain ⟨a,b,⟨M,c⟩,d,e,g⟩:=h;exact ⟨a,b,⟨M,hb M c⟩,by rw [h1];exact d,by rw [h2];exact e,by rw [h3];exact g⟩
theorem LR.up {f:Int} {F:Int→Option (Int×Int×Int)} {t:Lk} (h:LR f F t) (r g k:Int):LR f F (upF t r g k):=
 h.same (fun _ hb=>hb.up r g k) (upF_same t r g k).1 (upF_same t r g k).2.1 (upF_same t r g k).2.2.1
theorem LR.des {f fr:Int} {F:Int→Option (Int×Int×Int)} {t:Lk} (h:LR f F t) {x:Int×Int×Int} (hx:F fr=some x) (y:Int):LDes t.kid fr y↔belowT F f y fr=true:=by
 obtain ⟨M,hb⟩:=h.lb;have hdf:t.dom fr:=(h.dom fr).2 (by rw [hx];rfl);constructor
 ·have hgo : ∀ a y,LDes t.kid a y→t.dom a→belowT F f a fr=true→belowT F f y fr=true:=by
   intro a y ha;induction ha with
   | self r=>exact fun _ h=>h
   | kid h1 _ ih=>
    rename_i q k z0 z1
    intro hd hq;obtain ⟨hdk,hpk⟩:=hb.wf.kid q k hd h1;refine ih hdk ?_;obtain ⟨c,hc⟩:=Option.isSome_iff_exists.1 ((h.dom k).1 hdk);have hp:=h.par k c hc;rw [hpk] at hp;obtain ⟨x',z',hx',hz',hat⟩:=below_some hq;rw [hx] at hx';cases hx';by_cases hkf:k=f
    ·rw [if_pos hkf] at hp;exact absurd (hp ▸ hd) hb.z
    ·rw [if_neg hkf] at hp;obtain ⟨z2,hz2,hlt⟩:=h.W.up k c hc hkf;rw [← hp,hz'] at hz2;cases hz2;have hs:x.2.1 < c.2.1:=by
      by_cases e:q=fr
      ·rw [e,hx] at hz';cases hz';exact hlt
      ·have:=(below_up h.W hx hz' hat e).2.1;omega
     unfold belowT;rw [hx];simp only;rw [hc,atT_step h.W hc ⟨hkf,hs⟩,← hp,hat];simp
  exact fun hy=>hgo fr y hy hdf (below_self hx)
 ·have hgo : ∀ (n:Nat) (y:Int),slotT F y < n→belowT F f y fr=true→LDes t.kid fr y:=by
   intro n;induction n with
   | zero=>intro y h _;omega
   | succ n ih=>
    intro y hn hy;by_cases e:y=fr
    ·rw [e];exact .self _
    ·obtain ⟨x',c,hx',hc,hat⟩:=below_some hy;rw [hx] at hx';cases hx';obtain ⟨h1,_,z,hz,hlt,hbz⟩:=below_up h.W hx hc hat e;have e1:slotT F y=c.2.1.toNat:=by unfold slotT;rw [hc];rfl
     have e2:slotT F c.1=z.2.1.toNat:=by unfold slotT;rw [hz];rfl
     have s1:=h.W.slot _ _ hc;have s2:=h.W.slot _ _ hz;exact LDes.snoc (ih c.1 (by omega) hbz) (h.kid y c hc h1)
  exact hgo _ y (Nat.lt_succ_self _)
theorem LR.cut {f fr:Int} {F:Int→Option (Int×Int×Int)} {t:Lk} (h:LR f F t) {x:Int×Int×Int} (hx:F fr=some x):LR fr (cutT F f fr) (cutL t fr):=by
 obtain ⟨M,hb⟩:=h.lb;have hdf:t.dom fr:=(h.dom fr).2 (by rw [hx];rfl);obtain ⟨hW,hH⟩:=h.W.cut h.H hx;have hup : ∀ r c,cutT F f fr r=some c→r≠fr→∃ y,F r=some y∧r≠f∧c.1=y.1:=by
  intro r c hc hr;obtain ⟨hbl,y,hy,e⟩:=cutT_some hc;obtain ⟨x',y',hx',hy',hat⟩:=below_some hbl;rw [hx] at hx';cases hx';rw [hy] at hy';cases hy';refine ⟨y,hy,(below_up h.W hx hy hat hr).1,?_⟩;rw [e];unfold cutN;simp [hr]
 refine ⟨hW,hH,⟨M,hb.cut hdf⟩,fun r=>?_,fun r c hc=>?_,fun r c hc hr=>?_⟩
 ·rw [cutT_isSome];exact h.des hx r
 ·show (if r=fr then (0:Int) else t.par r)=_;by_cases e:r=fr
  ·rw [if_pos e,if_pos e]
  ·rw [if_neg e,if_neg e];obtain ⟨y,hy,hf,e1⟩:=hup r c hc e;rw [h.par r y hy,if_neg hf,e1]
 ·obtain ⟨y,hy,hf,e1⟩:=hup r c hc hr;rw [e1];exact h.kid r y hy hf
theorem LR.add {f:Int} {F:Int→Option (Int×Int×Int)} {t:Lk} (h:LR f F t) {r q s qq qs qh:Int} (hr:inU r) (hF:F q=some (qq,qs,qh)) (hn:F r=none) (hr0:r≠0) (hs:qs < s) (hs1:s≤1099511627776) (hh:qh < 1000000):LR f (tset F r (q,s,qh+1)) (addL t r q):=by
 obtain ⟨M,hb⟩:=h.lb;have hdq:t.dom q:=(h.dom q).2 (by rw [hF];rfl);have hdr:¬ t.dom r:=fun hd=>by have:=(h.dom r).1 hd;rw [hn] at this;cases this
 have hrf:r≠f:=fun e=>by have:=h.W.first;rw [← e,hn] at this;cases this
 refine ⟨h.W.set hr hF hn hs hs1 hh,h.H.set hF hn,⟨M+1,hb.add hdq hdr hr0⟩,fun y=>?_,fun y c hc=>?_,fun y c hc hy=>?_⟩
 ·show (t.dom y∨y=r)↔_;unfold tset;by_cases e:y=r
  ·rw [if_pos e];exact ⟨fun _=>rfl,fun _=>.inr e⟩
  ·rw [if_neg e,← h.dom y];exact ⟨fun h=>h.elim id (fun h=>absurd h e),.inl⟩
 ·show (if y=r then q else t.par y)=_;unfold tset at hc;by_cases e:y=r
  ·rw [if_pos e] at hc ⊢;cases hc;rw [if_neg (by rw [e];exact hrf)]
  ·rw [if_neg e] at hc ⊢;exact h.par y c hc
 ·show y∈(if c.1=r then [] else if c.1=q then t.kid q++[r] else t.kid c.1);have hqr:q≠r:=fun e=>by rw [e,hn] at hF;cases hF
  unfold tset at hc;by_cases e:y=r
  ·rw [if_pos e] at hc;cases hc;rw [if_neg hqr,if_pos rfl,e];simp
  ·rw [if_neg e] at hc;have h1:=h.kid y c hc hy;obtain ⟨z,hz,_⟩:=h.W.up y c hc hy;rw [if_neg (fun e2=>by rw [e2,hn] at hz;cases hz)];by_cases e2:c.1=q
   ·rw [if_pos e2,← e2];exact List.mem_append_left _ h1
   ·rw [if_neg e2];exact h1
def LG (bs:List Int) (t:Lk) (f:Int) (F:Int→Option (Int×Int×Int)) (cs:List Cg):Prop:=LOks bs t cs∧LR f F (cs.foldl (lstepC bs) t)
theorem LOks.snoc {bs:List Int} : ∀ {cs:List Cg} {t:Lk} {c:Cg},LOks bs t cs→LOkC (cs.foldl (lstepC bs) t) c→LOks bs t (cs++[c])
 | [],_,_,_,h=>⟨h,trivial⟩
 | _ :: cs,_,_,h,k=>⟨h.1,LOks.snoc (cs:=cs) h.2 k⟩
section
variable {bs:List Int} {t:Lk} {f:Int} {F:Int→Option (Int×Int×Int)} {cs:List Cg}
theorem LG.vote (h:LG bs t f F cs) {c:Cg} (hc:c.kind=1∨c.kind=2):LG bs t f F (cs++[c]):=by
 refine ⟨h.1.snoc ⟨fun e=>by omega,fun e=>by omega⟩,?_⟩;rw [List.foldl_append];show LR f F (lstepC bs _ c);unfold lstepC;rw [if_neg (by omega)];split
 ·split
  ·exact (h.2.up _ _ _).up _ _ _
  ·exact h.2.up _ _ _
 ·rw [if_pos (by omega)];split
  ·exact h.2.up _ _ _
  ·exact h.2
theorem LG.take (e r:Int) : ∀ (ks:List Int) (V:Nat→Ent) (cs:List Cg),LG bs t f F cs→LG bs t f F (takeAll e r V cs ks).2
 | [],_,_,h=>h
 | k :: ks,V,cs,h=>by
  have e1:takeAll e r V cs (k :: ks)=takeAll e r (takeStep e r (V,cs) k).1 (takeStep e r (V,cs) k).2 ks:=rfl;rw [e1];refine LG.take e r ks _ _ ?_;unfold takeStep;simp only;split
  ·exact h.vote (.inl rfl)
  ·exact h
theorem LG.ban : ∀ (ks:List Int) (V:Nat→Ent) (cs:List Cg),LG bs t f F cs→LG bs t f F (banAll V cs ks).2
 | [],_,_,h=>h
 | k :: ks,V,cs,h=>by
  have e1:banAll V cs (k :: ks)=banAll (banStep (V,cs) k).1 (banStep (V,cs) k).2 ks:=rfl;rw [e1];refine LG.ban ks _ _ ?_;unfold banStep;split
  ·exact h
  ·exact h.vote (.inr rfl)
theorem LG.att (h:LG bs t f F cs) (σ:St) (v:Vt) (ins:Bool):LG bs t f F (attC σ cs v ins).2:=by
 unfold attC;split
 ·exact LG.take _ _ _ _ _ h
 ·exact h
theorem LG.atts : ∀ (vs:List Vt) (p:St×List Cg),LG bs t p.1.f p.1.F p.2→LG bs t (vs.foldl attStep p).1.f (vs.foldl attStep p).1.F (vs.foldl attStep p).2
 | [],_,h=>h
 | v :: vs,p,h=>LG.atts vs (attStep p v) (h.att p.1 v true)
theorem LG.slas : ∀ (ps:List (Vt×Vt)) (p:St×List Cg),LG bs t p.1.f p.1.F p.2→LG bs t (ps.foldl slaStep p).1.f (ps.foldl slaStep p).1.F (ps.foldl slaStep p).2
 | [],_,h=>h
 | x :: ps,p,h=>LG.slas ps (slaStep p x) (LG.ban _ _ _ h)
theorem LG.raised {σ σ':St} {cs':List Cg} {je jr fe fr:Int} (h:Raised σ cs je jr fe fr σ' cs') (hg:LG bs t σ.f σ.F cs):LG bs t σ'.f σ'.F cs':=by
 have hj:(raiseJ σ je jr).f=σ.f∧(raiseJ σ je jr).F=σ.F:=by unfold raiseJ;split <;> exact ⟨rfl,rfl⟩
 unfold Raised at h;split at h
 ·rename_i hc
  obtain ⟨ks,_,rfl,rfl⟩:=h;unfold raiseC at hc;rw [hj.1,hj.2] at hc;have hbl:belowT σ.F σ.f fr (raiseJ σ je jr).fr=true:=by
   cases hb:belowT σ.F σ.f fr (raiseJ σ je jr).fr with
   | true=>rfl
   | false=>rw [hb] at hc;simp at hc
  obtain ⟨_,x,_,hx,_⟩:=below_some hbl;show LG bs t fr (cutT (raiseJ σ je jr).F (raiseJ σ je jr).f fr) _;rw [hj.1,hj.2];refine ⟨hg.1.snoc ⟨fun e=>absurd (show (3:Int)=0 from e) (by omega),fun _=>(hg.2.dom fr).2 (by rw [hx];rfl)⟩,?_⟩;rw [List.foldl_append];exact hg.2.cut hx
 ·obtain ⟨rfl,rfl⟩:=h;rw [hj.1,hj.2];exact hg
end
theorem Applied.lg {σ σ':St} {N:Nat} {e:Ev} {E:Int} {cs':List Cg} {t:Lk} (hI:Inv σ N) (hN:N < 1000) (hB:EvB e) (hR:LR σ.f σ.F t) (h:Applied σ e E σ' cs'):LG σ'.bs t σ'.f σ'.F cs':=by
 rw [h.cfb.1];have h0:LG σ.bs t σ.f σ.F []:=⟨trivial,hR⟩;rcases h with ⟨_,_,rfl,rfl⟩ | ⟨_,h⟩ | ⟨_,_,rfl,rfl⟩ | ⟨_,_,rfl,rfl⟩
 ·have hj:(tickF σ e.s).f=σ.f∧(tickF σ e.s).F=σ.F:=by unfold tickF;split <;> exact ⟨rfl,rfl⟩
  rw [hj.1,hj.2];exact h0
 ·rcases h with ⟨_,_,rfl,rfl⟩ | ⟨_,_,_,rfl,rfl⟩ | ⟨_,_,_,_,rfl,rfl⟩ | ⟨_,_,_,_,_,rfl,rfl⟩ | ⟨hsl,hr,_,hE,_,h⟩
  ·exact h0
  ·exact h0
  ·exact h0
  ·exact h0
  ·obtain ⟨x,σe,cse,_,_,hrd,hend⟩:=h;unfold taddE at hE;cases hn:σ.F e.r with
   | some y=>rw [hn] at hE;simp at hE
   | none=>
    cases hq:σ.F e.q with
    | none=>rw [hn,hq] at hE;simp at hE
    | some y=>
     obtain ⟨qq,qs,qh⟩:=y;rw [hn,hq] at hE;have hlt:qs < e.bs:=by
      by_cases c:qs < e.bs
      ·exact c
      ·have c2:e.bs≤qs:=by omega
       simp [c2] at hE
     have hh:=hI.hh _ _ hq;have hs1:=hI.wf.s1;simp only at hh;have hg:getT σ.F e.q=(qq,qs,qh):=by unfold getT;rw [hq];rfl
     have hA:LG σ.bs t σ.f (propT σ e.r e.q e.bs) [⟨0,e.r,e.q,0,0,false⟩]:=by
      refine ⟨⟨⟨fun _=>⟨(hR.dom e.q).2 (by rw [hq];rfl),fun hd=>(by have:=(hR.dom e.r).1 hd;rw [hn] at this;cases this),hr⟩,fun e=>absurd (show (0:Int)=3 from e) (by omega)⟩,trivial⟩,?_⟩;show LR σ.f (propT σ e.r e.q e.bs) (lstepC σ.bs t ⟨0,e.r,e.q,0,0,false⟩);unfold lstepC propT;rw [if_pos rfl,hg];show LR σ.f (tset σ.F e.r (e.q,e.bs,qh+1)) (addL t e.r e.q);exact hR.add hB.r hq hn hr hlt (by omega) (by omega)
     have hP:LG σ.bs t (propC σ [] e.r e.q e.bs (propX σ e.r e.q e.bs e.vs x) e.vs e.ps).1.f (propC σ [] e.r e.q e.bs (propX σ e.r e.q e.bs e.vs x) e.vs e.ps).1.F (propC σ [] e.r e.q e.bs (propX σ e.r e.q e.bs e.vs x) e.vs e.ps).2:=
      LG.slas e.ps _ (LG.atts e.vs (propA σ e.r e.q e.bs (propX σ e.r e.q e.bs e.vs x),[]++[⟨0,e.r,e.q,0,0,false⟩]) hA)
     have h1:=LG.raised hrd hP;unfold PropEnd at hend;split at hend
     ·exact LG.raised hend h1
     ·rw [hend.1,hend.2];exact h1
 ·exact h0.att σ e.v false
 ·exact LG.ban _ _ _ h0
end Go.Proofs.YtndfpmboanohcaaGreatDoor
