/- Contract of psephostop.awake over any two engines that say 1 and 2. -/
import Derived.Test.YtndfpmboanohcaaGreatDoorBwgToAwg
import Derived.Test.YtndfpmboanohcaaGreatDoorApeToAeg
import Derived.Test.YtndfpmboanohcaaGreatDoorLkf
namespace Go.Proofs.YtndfpmboanohcaaGreatDoor
set_option maxRecDepth 100000
open Go.RowKit Go.Maps SkipPure
def evw2:Array Value:=tkC 2++evC ev2 none 0 none 0 none 0 none 0 none 0
theorem ev2At (w:World) (ok:Nat→Prop):EvAt w ok ev2 (evC ev2 none 0 none 0 none 0 none 0 none 0):=
 ⟨none,0,none,0,none,0,none,0,none,0,rfl,.inl rfl,.inl rfl,fun i hi=>by simp [ev2,vt0] at hi,fun _ h=>(by cases h),fun i hi=>by simp [ev2,vt0] at hi,fun _ h=>(by cases h),fun i hi=>by simp [ev2,vt0] at hi,fun _ h=>(by cases h)⟩
theorem row2 {w:World} {g:Nat} (h:Blk w g evw2 68):EvRow w w.heap.size (some ⟨g,0,none⟩) [tkE 2,ev2]:=by
 refine .inr ⟨g,rfl,h.lt,fun j e he=>?_⟩;have hc : ∀ i,w.cell? ⟨g,i,none⟩=evw2[i]?:=fun i=>h.at i;have hl:(tkC 2).size=28:=rfl
 match j,he with
 | 0,he=>
  obtain rfl:tkE 2=e:=by simpa using he
  refine ⟨tkC 2,tkAt w _ 2,fun t v hv=>?_⟩;have ht:t < 28:=by have:=(Array.getElem?_eq_some_iff.1 hv).1;rw [hl] at this;exact this
  rw [show 0 * 28+t=t from by omega,hc];unfold evw2;rw [Array.getElem?_append_left (by rw [hl];exact ht)];exact hv
 | 1,he=>
  obtain rfl:ev2=e:=by simpa using he
  refine ⟨_,ev2At w _,fun t v hv=>?_⟩;rw [show 1 * 28+t=28+t from by omega,hc];unfold evw2;rw [Array.getElem?_append_right (by rw [hl];omega),hl,show 28+t - 28=t from by omega];exact hv
 | j+2,he=>simp at he
def Says (X:EngD):Prop:=X.HD sgA [1] (X.next sgA [] X.t0) 1∧X.HD sgB [1,2] (X.next sgB cs2 (X.next sgA [] X.t0)) 2
section
variable {X Y:EngD} {w:World}
set_option maxHeartbeats 8000000 in
theorem awake_eng (RX:EngR X 1) (RY:EngR Y 3) (hX:Says X) (hY:Says Y) (hE:w.cell? ⟨0,0,none⟩=some (.iface 199 (.agg #[.pointer (some ⟨1,42,none⟩)]))) :
  Calls Tryz.prog 6 #[] w fun e w'=>e=.returned (.bool true)∧w.grownBy w' none:=by
 have HE:=lh hE;clear hE;go_enter Tryz.func6,Tryz.ntmps6
 go_upto_region 3 with (fail)
 refine nmC3 ?_;intro W b0 b1 b2 hz hg;obtain ⟨q,hq⟩ : ∃ q,q=w.heap.size:=⟨_,rfl⟩;rw [← hq] at b0 b1 b2 hz ⊢;change Blk W (q+1+1) evw2 68 at b2;have hb5:Ints .u64 W (some ⟨q,0,none⟩) [5]:=Ints.one b0;have HB5:=lh hb5;have HQ:=lh b1;have HEV:=lh b2;have HG:=lh hg;clear hb5 b1 b2 hg;clear b0 hz hq;obtain ⟨c0,c1,c2⟩:=HQ.out.c3;have hBB : ∀ e∈[tkE 2,ev2],EvB e:=fun e he=>by
  rcases List.mem_cons.1 he with rfl | he
  ·exact tkB 2
  ·rw [List.mem_singleton.1 he];exact ev2B
 have HBB:=lh hBB;clear hBB;go_wp2_with fail
 refine (run_eng RX (bs:=[5]) (c:=1) (evs:=[tkE 2,ev2]) HB5.out may1 (cell_g HE.out HG.out) HBB.out (row2 HEV.out) (by simp)).mono ?_;rintro e w1 ⟨v1,es1,ls1,q1,I1,σ1,t1,rfl,hgw1,htr1⟩;obtain ⟨l1,l2,rfl,f1,f2⟩:=awk_lines RX.laws hX.1 hX.2 htr1;have hg:=hgw1.gr;have hl1:=hgw1.lines;replace HB5:=lh (Ints.kept HB5.out hg);replace HQ:=lh (HQ.out.g hg);replace HEV:=lh (HEV.out.g hg);replace HG:=lh (g2 HG.out hg);clear hg c0 c1 c2 hgw1 htr1;have HL1:=lh hl1;have HF1:=lh f1;have HF2:=lh f2;clear hl1 f1 f2;obtain ⟨c0,c1,c2⟩:=HQ.out.c3;go_wp2_with fail
 refine (run_eng RY (bs:=[5]) (c:=1) (evs:=[tkE 2,ev2]) HB5.out may1 (cell_g HE.out HG.out) HBB.out (row2 HEV.out) (by simp)).mono ?_;rintro e w2 ⟨v2,es2,ls2,q2,I2,σ2,t2,rfl,hgw2,htr2⟩;obtain ⟨m1,m2,rfl,g1,g2_⟩:=awk_lines RY.laws hY.1 hY.2 htr2;obtain rfl:m1=l1:=u8s_inj (g1.trans HF1.out.symm);obtain rfl:m2=l2:=u8s_inj (g2_.trans HF2.out.symm);have hg:=hgw2.gr;have hl2:=hgw2.lines;have hl1:=HL1.out.chg (S:=fun _=>False) (Chg.of hg) (fun _ _ h=>h) (fun _ h=>h);replace HG:=lh (g2 HG.out hg);clear hg c0 c1 c2 HEV HB5 HQ hgw2 htr2 g1 g2_ HL1;obtain ⟨a1,ca,rfl,ha⟩:=id hl1;obtain ⟨ga,sa,rfl,_,r2,r3,gs,cs,rfl,_,hbs⟩:=ha 1 (0,m2) rfl;simp only at r2 r3 hbs;obtain ⟨m,hm⟩ : ∃ m,m=m2.length:=⟨_,rfl⟩;obtain ⟨h64,hlast⟩:=canon_last HF2.out;have r7:w2.cell? ⟨gs,7,none⟩=some (.int .u8 2):=by
  have h7:=hbs 7 (by omega);rw [hlast] at h7;exact h7
 rw [← hm] at r3 h64;have hd8:decide ((m:Int) > 8)=true:=decide_eq_true (by omega);have hd7:(7:Int) < m:=by omega
 have hd9:7 < m:=by omega
 have HLA:=lh hl1;have HLB:=lh hl2;clear hl1 hl2;clear ha hbs hlast hm;go_wp2_with (go_at_call 17;refine (samel_calls HLA.out HLB.out (by simp)).mono ?_;rintro e w3 ⟨rfl,hg⟩;have HG3:=lh (g2 HG.out hg);have r2:=cell_g r2 hg;have r3:=cell_g r3 hg;have r7:=cell_g r7 hg;clear hg)
 go_ret;exact ⟨rfl,HG3.out⟩
end
theorem me_feedS (q : Nat) (w : World) : (method 402 97 (.pointer (some ⟨q, 0, none⟩)) "Feed").run Tryz.prog w = .ok (146, .pointer (some ⟨q, 0, none⟩)) w := by kernel_rfl
theorem me_headS (q : Nat) (w : World) : (method 402 97 (.pointer (some ⟨q, 0, none⟩)) "Head").run Tryz.prog w = .ok (147, .pointer (some ⟨q, 0, none⟩)) w := by kernel_rfl
theorem na_S (q : Nat) (w : World) : (nilAhead 402 97 (.pointer (some ⟨q, 0, none⟩)) "Feed").run Tryz.prog w = .ok (some false) w := by kernel_rfl
theorem na_A (q : Nat) (w : World) : (nilAhead 402 105 (.pointer (some ⟨q, 0, none⟩)) "Feed").run Tryz.prog w = .ok (some false) w := by kernel_rfl
theorem na_B (q : Nat) (w : World) : (nilAhead 402 117 (.pointer (some ⟨q, 0, none⟩)) "Feed").run Tryz.prog w = .ok (some false) w := by kernel_rfl
theorem cf146 (args:Array Value) (w:World):(callFunc 146 args).run Tryz.prog w=.ok (.enter 146 args) w:=by kernel_rfl
theorem cf147 (args:Array Value) (w:World):(callFunc 147 args).run Tryz.prog w=.ok (.enter 147 args) w:=by kernel_rfl
theorem cf157 (args:Array Value) (w:World):(callFunc 157 args).run Tryz.prog w=.ok (.enter 157 args) w:=by kernel_rfl
theorem cf158 (args:Array Value) (w:World):(callFunc 158 args).run Tryz.prog w=.ok (.enter 158 args) w:=by kernel_rfl
theorem cf174 (args:Array Value) (w:World):(callFunc 174 args).run Tryz.prog w=.ok (.enter 174 args) w:=by kernel_rfl
theorem cf175 (args:Array Value) (w:World):(callFunc 175 args).run Tryz.prog w=.ok (.enter 175 args) w:=by kernel_rfl
theorem insS:EngR engS 0 where
 laws:=engS_laws
 mf:=me_feedS
 mh:=me_headS
 nf:=na_S
 cf:=cf146
 ch:=cf147
 r0 _:=trivial
 of {w bs S B ad c} hb hm:=(rof_spec hb hm).mono (by
  rintro e w' ⟨I,q,rfl,hst,ha,hex,hg,hf⟩;exact ⟨q,I,rfl,⟨hst,⟨ha,hex⟩,inv0 hm,trivial,par0 bs S B⟩,hg,hf⟩)
theorem insA:EngR engA 1 where
 laws:=engA_laws
 mf:=me_feedA
 mh:=me_headA
 nf:=na_A
 cf:=cf157
 ch:=cf158
 r0 {bs S B} _:=⟨cov0 bs S B,.inl rfl,.inl rfl⟩
 of {w bs S B ad c} hb hm:=(rof_array hb hm).mono (by
  rintro e w' ⟨I,J,rfl,hst,ha,hex,hg,h1,h2⟩;exact ⟨J.q,I,rfl,⟨hst,⟨J,rfl,ha,hex⟩,inv0 hm,⟨cov0 bs S B,.inl rfl,.inl rfl⟩,par0 bs S B⟩,hg,fun i hi=>hi.elim (h1 i) (fun h=>h2 i (by rw [← hex];exact h))⟩)
theorem bbd0:BBd bkt0 1 (1 * 120000):=by
 refine ⟨by show 1≤1;omega,fun r h hh=>?_,by show 0≤_;omega⟩;have h2:hgtOne 1 r=some h:=hh;unfold hgtOne at h2;split at h2
 ·cases h2;omega
 ·cases h2
theorem insB:EngR engB 3 where
 laws:=engB_laws
 mf:=me_feedB
 mh:=me_headB
 nf:=na_B
 cf:=cf174
 ch:=cf175
 r0 _:=bbd0
 of {w bs S B ad c} hb hm:=(rof_bucket hb hm).mono (by
  rintro e w' ⟨I,J,rfl,hst,ha,hex,hg,h1,h2⟩;exact ⟨J.q,I,rfl,⟨hst,⟨J,rfl,ha,hex⟩,inv0 hm,bbd0,par0 bs S B⟩,hg,fun i hi=>hi.elim (h1 i) (fun h=>h2 i (by rw [← hex];exact h))⟩)
theorem sgB_parts2:sgB.F=F2∧sgB.f=1∧sgB.je=0∧sgB.fr=1∧sgB.jr=1:=by
 rw [sgB_eq,sgA_eq];exact ⟨rfl,rfl,rfl,rfl,rfl⟩
theorem sgA_parts2:sgA.F=F1∧sgA.f=1∧sgA.jr=1:=by
 rw [sgA_eq];exact ⟨rfl,rfl,rfl⟩
theorem saysA:Says engA:=by
 obtain ⟨b1,b2,b3,b4,b5⟩:=sgB_parts2;refine ⟨?_,?_⟩
 ·show 1=headF _ (passF arr0 _ _).X 1 sgA.jr;rw [sgA_parts2.2.2];exact (head_one (by rw [passF_r];rfl)).symm
 ·have e:engA.next sgB cs2 (engA.next sgA [] engA.t0)=addA arr0 2 1:=by
   show astepC sgB arr0 ⟨0,2,1,0,0,false⟩=_;unfold astepC;rw [if_pos rfl]
  rw [e];show 2=headF (MayLead sgB.F sgB.f [1,2] (srcG sgB) sgB.je sgB.fr (eOf sgB.slot sgB.S)) (passF (addA arr0 2 1) _ _).X 2 sgB.jr;rw [b1,b2,b3,b4,b5];exact (head_two (by rw [passF_r];rfl) (by rw [passF_r];rfl) (by rw [passF_p];rfl) (may2 _ _)).symm
theorem saysB:Says engB:=by
 obtain ⟨b1,b2,b3,b4,b5⟩:=sgB_parts2;obtain ⟨a1,a2,a3⟩:=sgA_parts2;refine ⟨?_,?_⟩
 ·show HdB (stepB sgA.F sgA.f [1] _ _) sgA.jr 1;rw [a1,a2,a3];exact hdA _ _
 ·show HdB (stepB sgB.F sgB.f [1,2] (MayLead sgB.F sgB.f [1,2] (srcG sgB) sgB.je sgB.fr (eOf sgB.slot sgB.S)) _) sgB.jr 2;rw [b1,b2,b3,b4,b5];exact hdB2 (may2 _ _) _
structure LRel (σ:St) (N:Nat) (t:Lk):Prop where
 lb:LB t N
 b:t.b=σ.boosted
 u:inU t.b
 r:LR σ.f σ.F t
def LHead (σ:St) (ks:List Int) (t:Lk) (r:Int):Prop:=
 (t.dom σ.jr→HdB (stepK t.kid (MayLead σ.F σ.f ks (srcG σ) σ.je σ.fr (eOf σ.slot σ.S)) (lwt t)) σ.jr r)∧(¬ t.dom σ.jr→r=σ.jr)
noncomputable def engL:EngD where
 ty:=111
 ff:=167
 fh:=168
 T:=Lk
 Own:=fun w q p O t=>∃ J:LIds,J.q=q∧LkAt w J p t∧O=LOwn J
 Rel:=LRel
 next:=fun σ cs t=>lboost (boostF σ.bs σ.S σ.B) σ.boosted (cs.foldl (lstepC σ.bs) t)
 HD:=LHead
 Eqv:=fun _ t t'=>t=t'
 t0:=lk0
theorem lboost_same (bo y:Int) (t:Lk):(lboost bo y t).dom=t.dom∧(lboost bo y t).par=t.par∧(lboost bo y t).kid=t.kid∧(lboost bo y t).b=y:=by
 unfold lboost;split
 ·rename_i h;exact ⟨rfl,rfl,rfl,h⟩
 ·obtain ⟨a1,a2,a3,_⟩:=upF_same (upF t t.b 0 bo) y bo 0;obtain ⟨b1,b2,b3,_⟩:=upF_same t t.b 0 bo;exact ⟨a1.trans b1,a2.trans b2,a3.trans b3,rfl⟩
theorem LB.same {t t':Lk} {M:Nat} (h:LB t M) (h1:t'.dom=t.dom) (h2:t'.par=t.par) (h3:t'.kid=t.kid):LB t' M:=⟨h.wf.same h1 h2 h3,by rw [h3];exact h.kn,by rw [h1];exact h.z⟩
theorem LRel.rest {σ:St} {N:Nat} {t:Lk} (h:LRel σ N t):t=lboost (boostF σ.bs σ.S σ.B) σ.boosted t∧LRel σ N (lboost (boostF σ.bs σ.S σ.B) σ.boosted t):=by
 have e:lboost (boostF σ.bs σ.S σ.B) σ.boosted t=t:=by unfold lboost;rw [if_pos h.b]
 rw [e];exact ⟨rfl,h⟩
theorem HdB.keep {step:Int→Option Int} {P:Int→Prop} {h r:Int} (a:HdB step h r) (hh:P h) (hs : ∀ h k,P h→step h=some k→P k):P r:=by
 induction a with
 | stop _=>exact hh
 | next e _ ih=>exact ih (hs _ _ hh e)
theorem stepK_mem {kid:Int→List Int} {may:Int→Prop} {wt:Int→Int} {h k:Int} (e:stepK kid may wt h=some k):k∈kid h:=by
 unfold stepK at e;split at e
 ·rename_i hb
  obtain rfl:=Option.some.inj e;exact fl_sub (bestF_mem hb)
 ·cases e
theorem engL_laws:EngL engL where
 chg h hc hs:=by
  obtain ⟨J,h1,h2,h3⟩:=h;exact ⟨J,h1,h2.chg hc (fun i hi=>hs i (by rw [h3];exact hi)),h3⟩
 eqr _ _:=rfl
 eqt h h':=Eq.trans h h'
 eqs h:=Eq.symm h
 uniq {σ ks N t t' r r'} e _ h h':=by
  cases e;obtain ⟨a1,a2⟩:=h;obtain ⟨b1,b2⟩:=h';by_cases hd:t.dom σ.jr
  ·exact HdB.unique (a1 hd) (b1 hd)
  ·rw [a2 hd,b2 hd]
 step e _ _ _ _ _:=by rw [e];rfl
 rest h:=LRel.rest h
 feed {w q I σ t N e cells} h hN hB he:=by
  obtain ⟨J,rfl,h2,h3⟩:=h.own;have hR:LRel σ N t:=h.rel;refine (lfeed_calls h.st h.inv hN h2 h3 hR.lb hR.u hB (fun E σ' cs' hap=>(hap.lg h.inv hN hB hR.r).1) (he.chg (S:=fun _=>False) (Chg.refl _ _) (fun _ _ h=>h) (fun i hi=>⟨hi.1,fun hm=>hi.2 (.inl hm)⟩))).mono ?_;rintro z w' ⟨E,c2,t2,J',σ',cs',rfl,hap,hst,hlk,hq,hin,hlb,had,hc,hl,ht⟩;obtain ⟨e1,e2,e3,e4⟩:=lboost_same (boostF σ'.bs σ'.S σ'.B) σ'.boosted (cs'.foldl (lstepC σ'.bs) t);have hrel:LRel σ' (N+1) (lboost (boostF σ'.bs σ'.S σ'.B) σ'.boosted (cs'.foldl (lstepC σ'.bs) t)):=
   ⟨hlb.same e1 e2 e3,e4,by rw [e4];exact hin.wf.bo,(hap.lg h.inv hN hB hR.r).2.same (fun M hM=>hM.same e1 e2 e3) e1 e2 e3⟩
  refine ⟨E,{ I with ch:=c2,tb:=t2,ex:=LOwn J' },σ',cs',rfl,hap,⟨hst,⟨J',hq,hlk,rfl⟩,hin,hrel,had.par h.par⟩,rfl,rfl,hc.mono (fun i hi=>hi.imp id (fun h=>by rw [h3];exact h)),fun i hi=>?_⟩;rcases hi with (hi | hi | hi | hi | hi | hi) | hi
  ·exact .inl (.inl (.inl hi))
  ·exact .inl (.inl (.inr (.inl hi)))
  ·rcases ht with h1 | h1
   ·exact .inl (.inl (.inr (.inr (.inl (hi.trans h1)))))
   ·have h4:i=t2:=hi;right;omega
  ·exact .inl (.inl (.inr (.inr (.inr (.inl hi)))))
  ·exact .inl (.inl (.inr (.inr (.inr (.inr (.inl hi))))))
  ·exact .inl (.inl (.inr (.inr (.inr (.inr (.inr hi))))))
  ·have h4:I.ex=LOwn J:=h3;rcases hl i hi with h1 | h1
   ·exact .inl (.inr (by rw [h4];exact h1))
   ·exact .inr h1
 head {w q I σ t N ks} h hN hk:=by
  obtain ⟨J,rfl,h2,h3⟩:=h.own;have hR:LRel σ N t:=h.rel;refine (lhead_calls h.st h.inv.wf h2 hR.lb.wf (fun r=>by have:=hR.lb.kn r;omega) hk (by have:=h.inv.klen hk;have:=h.inv.wf.n;omega) (sortUpTo_any _ (by have:=h.inv.wf.n;omega))).mono ?_;rintro z w' ⟨r,rfl,hd,hn,hg⟩;refine ⟨r,t,rfl,⟨hd,hn⟩,?_,rfl,⟨h.st.g hg,⟨J,rfl,h2.g hg,h3⟩,h.inv,h.rel,h.par⟩,Chg.of hg⟩;by_cases hj:t.dom σ.jr
  ·exact h2.u r (HdB.keep (P:=t.dom) (hd hj) hj (fun a k ha e=>(hR.lb.wf.kid a k ha (stepK_mem e)).1))
  ·rw [hn hj];exact h.inv.wf.jr
theorem me_feedL (q : Nat) (w : World) : (method 402 111 (.pointer (some ⟨q, 0, none⟩)) "Feed").run Tryz.prog w = .ok (167, .pointer (some ⟨q, 0, none⟩)) w := by kernel_rfl
theorem me_headL (q : Nat) (w : World) : (method 402 111 (.pointer (some ⟨q, 0, none⟩)) "Head").run Tryz.prog w = .ok (168, .pointer (some ⟨q, 0, none⟩)) w := by kernel_rfl
theorem na_L (q : Nat) (w : World) : (nilAhead 402 111 (.pointer (some ⟨q, 0, none⟩)) "Feed").run Tryz.prog w = .ok (some false) w := by kernel_rfl
theorem cf167 (args:Array Value) (w:World):(callFunc 167 args).run Tryz.prog w=.ok (.enter 167 args) w:=by kernel_rfl
theorem cf168 (args:Array Value) (w:World):(callFunc 168 args).run Tryz.prog w=.ok (.enter 168 args) w:=by kernel_rfl
theorem lr0 (bs:List Int) (S B:Int) (hm:MayBe bs S B):LRel (st0 bs S B) 1 lk0:=by
 have hI:=inv0 hm;have hb:LB lk0 1:=by
  refine ⟨⟨⟨fun _=>0,fun r _=>⟨Nat.zero_lt_one,.inl rfl⟩⟩,fun r k _ hk=>(by cases hk),⟨[1],by simp,fun r hr=>by have e:r=1:=hr;rw [e];simp⟩⟩,fun r=>by show 0≤1;omega,fun h=>?_⟩;have e:(0:Int)=1:=h;omega
 refine ⟨hb,rfl,u0,hI.wf.tree,hI.hgt,⟨1,hb⟩,fun r=>⟨fun h=>?_,fun h=>key0 h⟩,fun r x hx=>?_,fun r x hx hr=>?_⟩
 ·have e:r=1:=h;rw [e,F0];rfl
 ·have e:=key0 (bs:=bs) (S:=S) (B:=B) (r:=r) (by rw [hx];rfl);rw [e];rfl
 ·exact absurd (key0 (bs:=bs) (S:=S) (B:=B) (r:=r) (by rw [hx];rfl)) hr
theorem insL:EngR engL 2 where
 laws:=engL_laws
 mf:=me_feedL
 mh:=me_headL
 nf:=na_L
 cf:=cf167
 ch:=cf168
 r0 hm:=lr0 _ _ _ hm
 of {w bs S B ad c} hb hm:=(rof_link hb hm).mono (by
  rintro e w' ⟨I,J,rfl,hst,ha,hex,hg,h1⟩;exact ⟨J.q,I,rfl,⟨hst,⟨J,rfl,ha,hex⟩,inv0 hm,lr0 bs S B hm,par0 bs S B⟩,hg,h1⟩)
end Go.Proofs.YtndfpmboanohcaaGreatDoor
