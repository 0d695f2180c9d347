/- Contract of (*store.Store).View. -/
import Derived.Test.YtndfpmboanohcaaGreatDoorVia2ToCgs
import Derived.Maps.RangeWalk
namespace Go.Proofs.YtndfpmboanohcaaGreatDoor
set_option maxRecDepth 100000
open Go.RowKit Go.Maps SkipPure
theorem wpList_next_raw {P:Program} {kt:TypeId} {w:World} {ops:Array Oper} {rest:List Oper} {o:Oper} {a:Act} {Q:Exit→Act→World→Prop} (hg:o.guard=none) (it:Operand) (hop:o.op=Op.next it false)
  (hk:P.underlying kt=some (.int .u64)) (b r n:Nat) (D:DataW Value) (left:Lit→Bool) (cnt:Nat) {F:Int→Option Value}
  (hit:a.eval it=.pointer (some ⟨r,0,none⟩)) (h:w.ranges P kt rawE b r n D left cnt) (hH:HoldsAs D F)
  (hDone:cnt=0→(∀ kl,left kl=false)→wpList P ops Q rest (a.put o.dst (.tuple #[.bool false])) w)
  (hMore : ∀ (x:Int) (v:Value) (w':World) (cnt':Nat),inU x→left (kk x)=true→F x=some v→(∀ zd,D.atKey (kk x) zd=.held v)→w'.ranges P kt rawE b r n D (fun z=>left z && !z.sameKey (kk x)) cnt'→cnt' < cnt →
    w.grownBy w' (some r)→w'.heap.size=w.heap.size→(Instr.entry (.pointer (some ⟨r,0,none⟩))).run P w'=.ok (.tuple #[.int .u64 x,v]) w'→wpList P ops Q rest (a.put o.dst (.tuple #[.bool true,.int .u64 x,v])) w') :
  wpList P ops Q (o :: rest) a w:=by
 refine wpList_next_ranges w hg it hop kt (int_keyed hk) rawE encU id (fun key kl hkey=>by obtain ⟨x,hx,_⟩:=Maps.keyOf_int_inv hk hkey;exact ⟨x,hx⟩) (fun v _ _=>⟨v,rfl⟩) b r n D left cnt hit h hDone ?_;intro x c kl y w' cnt' hkey hlk hv hat hrg hlt hgr hsz hen;obtain ⟨x',ex,rfl,hwx⟩:=Maps.keyOf_int_inv hk hkey;obtain rfl:=encU_inj ex;have hin:=inU_wf hwx;obtain ⟨y1,y2⟩:=y;have hy:DataW.held c=y1:=by simpa [rawE] using congrArg (Option.map Prod.fst) hv
 subst hy;have hF:F x=some c:=by
  obtain ⟨h1,h2⟩:=hH x hin;cases hF:F x with
  | none=>
   have h3:=has_true_of_atKey hat;have h4:=h1 hF;rw [show (Lit.int .u64 x)=kk x from rfl,h4] at h3;cases h3
  | some v'=>
   have h5:=(h2 v' hF).2 (.held c);have h6:=hat (.held c);rw [show (Lit.int .u64 x)=kk x from rfl,h5] at h6
   injection h6 with h6
   rw [h6]
 exact hMore x c w' cnt' hin hlk hF hat hrg hlt hgr hsz hen
def srcG (σ:St) (r:Int):Option Int:=(σ.L r).map fun x=>if eOf (getT σ.F r).2.1 σ.S < eOf σ.slot σ.S then (pullF σ.bs σ.S σ.F σ.f r x).ce else x.j.ce
theorem srcG_bd {σ:St} (h:StWf σ) (r:Int):0≤(srcG σ r).getD 0∧(srcG σ r).getD 0≤1099511627776:=by
 unfold srcG;cases hL:σ.L r with
 | none=>simp
 | some x=>
  have hb:=h.ledbd r x hL;have hp:=pullF_bd (bs:=σ.bs) (S:=σ.S) (root:=r) h.tree hb;simp only [Option.map_some,Option.getD_some];split
  ·exact ⟨hp.c0,hp.c1⟩
  ·exact ⟨hb.j.c0,hb.j.c1⟩
def srcOn (σ:St) (ss:List Int):Int→Option Value:=fun r=>if r∈ss then (srcG σ r).map fun e=>.int .i64 e else none
theorem srcOn_next (σ:St) (ss:List Int) (x e:Int) (hx:srcG σ x=some e):upd (srcOn σ ss) x (.int .i64 e)=srcOn σ (ss++[x]):=by
 funext r;unfold upd srcOn;by_cases h:r=x
 ·subst h;simp [hx]
 ·simp [h]
theorem field130 (b0 b1 b2 b3:Bool) (x y z t u v:Int) (w:World) :
  (Instr.field 130 (.agg #[.bool b0,.bool b1,.bool b2,.bool b3,.int .i64 x,.int .u64 y,.int .i64 z,.int .u64 t,.int .i64 u,.int .u64 v]) 2).run Tryz.prog w=.ok (.agg #[.int .i64 z,.int .u64 t]) w:=by kernel_rfl
structure VCur (w:World) (lm r nl:Nat) (D:DataW Value) (left:Lit→Bool) (cnt m n:Nat) (F:Int→Option Value) (M:Nat):Prop where
 rm:RawMap Tryz.prog 27 w m n F
 rg:w.ranges Tryz.prog 27 rawE lm r nl D left cnt
 mz:w.rangeLeft lm r < M
theorem VCur.kept {w w':World} {row:Option Nat} {lm r nl cnt m n M:Nat} {D:DataW Value} {left:Lit→Bool} {F:Int→Option Value} (h:VCur w lm r nl D left cnt m n F M) (hg:w.grownBy w' row)
  (h1:some m≠row) (h2:some lm≠row) (h3:some r≠row):VCur w' lm r nl D left cnt m n F M:=by
 have h4:=h.rg.kept hg h2 h3;have h5:=h.mz;refine ⟨h.rm.kept hg h1,h4,?_⟩;rw [h4.left_eq];rw [h.rg.left_eq] at h5;exact h5
theorem VCur.g {w w':World} {lm r nl cnt m n M:Nat} {D:DataW Value} {left:Lit→Bool} {F:Int→Option Value} (h:VCur w lm r nl D left cnt m n F M) (hg:w.grownBy w' none):VCur w' lm r nl D left cnt m n F M:=by
 obtain ⟨h1,h2,h3⟩:=h;have h4:=h2.kept hg (by simp) (by simp);refine ⟨h1.kept hg (by simp),h4,?_⟩;rw [h4.left_eq];rw [h2.left_eq] at h3;exact h3
section
variable {w:World} {I:Ids} {σ:St}
set_option maxHeartbeats 4000000 in
theorem view_calls (h:StoreAt w I σ) (hw:StWf σ) :
  Calls Tryz.prog 144 #[.pointer (some ⟨I.p,0,none⟩)] w fun e w'=>∃ m mn,e=.returned (viewV σ.je σ.jr σ.fe σ.fr (eOf σ.slot σ.S) m)∧RawMap Tryz.prog 27 w' m mn (srcs (srcG σ))∧w.grownBy w' none:=by
 have hmm:=@run_makeMap Tryz.prog;have HH:=lh h;have HH0:=lh h;have HW:=lh hw;have hpl:=h.blk.lt;have hs1:=hw.s1;have hS2:=hw.may.s2;have hS1:=hw.may.s1;obtain ⟨c0,c1,c2,c3,_,c5,_,c7,c8,c9,c10,c11,_,_⟩:=h.blk.c14;clear h hw;go_enter Tryz.func144,Tryz.ntmps144
 go_upto_region 1 with (fail)
 refine nmC1 ?_;intro W b0 hz hg;obtain ⟨q,hq_q⟩ : ∃ q,q=w.heap.size:=⟨_,rfl⟩;rw [← hq_q] at b0 hz hpl ⊢;have HQ_q:=lh hq_q;clear hq_q;have HB0:=lh b0;have HG:=lh hg;clear b0 hg;replace HH:=lh (HH.out.g HG.out);clear c0 c1 c2 c3 c5 c7 c8 c9 c10 c11;obtain ⟨_,c1,_,_,_,c5,_,c7,c8,c9,c10,c11,_,_⟩:=HH.out.blk.c14
 go_region_held3 (fun w'=>w'.cell? ⟨I.p,1,none⟩=some (.int .i64 σ.S)∧w'.cell? ⟨I.p,5,none⟩=some (.int .i64 σ.slot)) (go_keep)
  (first
    | (go_at_call 47
       refine (eof_calls σ.slot σ.S _ (by omega) (by omega)).mono ?_;rintro e wg ⟨rfl,rfl⟩))
 obtain ⟨E,hE⟩ : ∃ E,E=eOf σ.slot σ.S:=⟨_,rfl⟩;rw [← hE];have HE:=lh hE;clear hE;replace HH:=lh (HH.out.g (gdrew (gR _ none)));replace HB0:=lh (HB0.out.g (gdrew (gR _ none)));replace HG:=lh (g2 HG.out (gdrew (gR _ none)));have hz1:W.drew.heap.size=q+1:=hz;go_upto_region 2 with (fail)
 generalize W.drew=W1 at HH HB0 HG hz1 ⊢;clear c1 c5 c7 c8 c9 c10 c11 hz;obtain ⟨_,_,_,_,_,_,_,c7,c8,c9,c10,c11,_,_⟩:=HH.out.blk.c14
 go_cut [4] (fun s4 wx=>∃ qb m,s4=.pointer (some ⟨qb,0,none⟩)∧Blk wx qb #[.int .i64 σ.je,.int .u64 σ.jr,.int .i64 σ.fe,.int .u64 σ.fr,.int .i64 E,.map (some m)] 278∧RawMap Tryz.prog 27 wx m 0 (fun _=>none)∧q < qb∧q < m∧m≠qb∧W1.grownBy wx none)
 case first=>
  go_region_held3 (fun w'=>w'.cell? ⟨I.p,7,none⟩=some (.int .i64 σ.je)∧w'.cell? ⟨I.p,8,none⟩=some (.int .u64 σ.jr)∧w'.cell? ⟨I.p,9,none⟩=some (.int .i64 σ.fe)∧w'.cell? ⟨I.p,10,none⟩=some (.int .u64 σ.fr)) (go_keep) (fail)
  all_goals go_wp2_with fail
  all_goals go_meet
  ·have r1:=RawMap.made Tryz.prog 27 W1;have g1:=World.grownBy_alloc W1 (Obj.map #[] 0) none;have z1:(W1.alloc (Obj.map #[] 0)).heap.size=q+1+1:=by simp [hz1]
   rw [hz1] at r1;generalize W1.alloc (Obj.map #[] 0)=W2 at r1 g1 z1 ⊢;obtain ⟨k1,_,k3⟩:=alloc1 W2 #[.int .i64 σ.je,.int .u64 σ.jr,.int .i64 σ.fe,.int .u64 σ.fr,.int .i64 E,.map (some (q+1))] 278;rw [z1] at k1;exact ⟨q+1+1,q+1,rfl,k1.drew,r1.kept (gdrew k3) (by simp),by omega,by omega,by omega,gdrew (g2 g1 k3)⟩
  ·obtain ⟨k1,z1,k3⟩:=alloc1 W1 #[.int .i64 σ.je,.int .u64 σ.jr,.int .i64 σ.fe,.int .u64 σ.fr,.int .i64 E,.map (some (q+1+1))] 278;rw [hz1] at k1 z1;generalize W1.alloc (Obj.cells #[Value.int IntKind.i64 σ.je,Value.int IntKind.u64 σ.jr,Value.int IntKind.i64 σ.fe,Value.int IntKind.u64 σ.fr,Value.int IntKind.i64 E,Value.map (some (q+1+1))] 278)=W2 at k1 z1 k3 ⊢;have r1:=RawMap.made Tryz.prog 27 W2;have g1:=World.grownBy_alloc W2 (Obj.map #[] 0) none;rw [z1] at r1;exact ⟨q+1,q+1+1,rfl,(k1.g g1).drew,r1.kept (gdrew (gR _ none)) (by simp),by omega,by omega,by omega,gdrew (g2 k3 g1)⟩
 case rest=>
  obtain ⟨qb,m,rfl,hqb,hrm,hqb1,hm1,hmq,hg1⟩:=hcut;clear c7 c8 c9 c10 c11;replace HH:=lh (HH.out.g hg1);replace HB0:=lh (HB0.out.g hg1);replace HG:=lh (g2 HG.out hg1);have hm0:RawMap Tryz.prog 27 wc m 0 (srcOn σ []):=by
   have e:srcOn σ []=fun _=>none:=by funext r;simp [srcOn]
   rw [e];exact hrm
  have HQB:=lh hqb;have HM:=lh hm0;clear hqb hm0;clear hg1 hrm hz1;obtain ⟨_,_,_,_,_,_,_,_,_,_,_,c11,_,_⟩:=HH.out.blk.c14;obtain ⟨nl,js,GV,hraw,hjs1,hjs2,hjs3,hjs⟩:=HH0.out.led;obtain ⟨D,hown,hHD,hsz⟩:=hraw.kept HG.out (by simp);have hnl:nl≤maxLen:=by
   obtain ⟨es,clock,_,Ft,_,hD⟩:=hown;have e1:Maps.size D=es.size:=by rw [hD];exact length_read es
   have:=Ft.size;omega
  have HHD:=lh hHD;have HJS:=lh hjs;have HOWN:=lh hown;clear hHD hjs hown hjs1 hjs2 hjs3;go_wp2_with (first
   | (at_range;refine wpList_range_own _ rfl _ 74 rfl 27 133 (int_keyed Tryz.underlying27) Tryz.underlying74 rawE I.lm nl D rfl HOWN.out ?_;intro w0 hrg0 hg0 hs0))
  have hq0:w.heap.size≤q:=Nat.le_of_eq HQ_q.out.symm;have hbl:=HB0.out.lt;have hml:=HM.out.lt;have hqbl:=HQB.out.lt;have hb1:=HB0.out.g hg0;have hb2:=HQB.out.g hg0;have hb3:=HM.out.kept hg0 (by simp);have hgw:=g2 HG.out hg0;obtain ⟨r,hr⟩ : ∃ r,r=wc.heap.size:=⟨_,rfl⟩;rw [← hr] at hrg0 hbl hml hqbl ⊢;have hwr:w.heap.size≤r:=by rw [hr];exact HG.out.size
  have hsd:0+Maps.size D≤nl:=by omega
  have hstart : ∃ (left:Lit→Bool) (cnt:Nat) (ss:List Int),w0.ranges Tryz.prog 27 rawE I.lm r nl D left cnt∧CollectedU D left ss∧ss.length+cnt≤nl∧RawMap Tryz.prog 27 w0 m ss.length (srcOn σ ss) ∧
    Blk w0 qb #[.int .i64 σ.je,.int .u64 σ.jr,.int .i64 σ.fe,.int .u64 σ.fr,.int .i64 E,.map (some m)] 278∧Blk w0 q #[.int .i64 0,.int .u64 0,.int .i64 0,.int .u64 0,.int .i64 0,.map none] 278∧w.grownBy w0 none:=
   ⟨_,_,[],hrg0,CollectedU.start D,by simp;omega,hb3,hb2,hb1,hgw⟩
  have HST:=lh hstart;clear hstart hb1 hb2 hb3 hgw hrg0 hg0 hs0 hsd hr HB0 HQB HM HH HG c11 HOWN hsz;go_frame
  go_loopw [5] (fun _ wr=>∃ (left:Lit→Bool) (cnt:Nat) (ss:List Int),wr.ranges Tryz.prog 27 rawE I.lm r nl D left cnt∧CollectedU D left ss∧ss.length+cnt≤nl∧RawMap Tryz.prog 27 wr m ss.length (srcOn σ ss) ∧
    Blk wr qb #[.int .i64 σ.je,.int .u64 σ.jr,.int .i64 σ.fe,.int .u64 σ.fr,.int .i64 E,.map (some m)] 278∧Blk wr q #[.int .i64 0,.int .u64 0,.int .i64 0,.int .u64 0,.int .i64 0,.map none] 278∧w.grownBy wr none)
   (fun _ wr=>wr.rangeLeft I.lm r)
  case atStart=>exact HST.out
  case round=>
   obtain ⟨left,cnt,ss,hrg,hC,hcs,hrm,hqb,hqq,hgw⟩:=hrel;have HRM:=lh hrm;have HQB:=lh hqb;have HQQ:=lh hqq;have HGW:=lh hgw;have HCC:=lh hC;clear hrm hqb hqq hgw hC;go_wp2_with (at_next;refine wpList_next_raw rfl _ rfl Tryz.underlying27 I.lm r nl D left cnt rfl hrg HHD.out ?_ ?_)
   ·intro hc0 hl0;have hkeys:=HCC.out.done HHD.out hl0;have HKE:=lh hkeys;clear hc0 hl0 hkeys;obtain ⟨d0,d1,d2,d3,d4,d5⟩:=HQB.out.c6;obtain ⟨e0,e1,e2,e3,e4,e5⟩:=HQQ.out.c6;obtain ⟨f0,f1,f2,f3,f4,f5⟩:=HQQ.out.f6;go_wp2;obtain ⟨t1,_,t3⟩:=put6 (.int .i64 σ.je) (.int .u64 σ.jr) (.int .i64 σ.fe) (.int .u64 σ.fr) (.int .i64 E) (.map (some m)) HQQ.out;refine bodyPost_ret (res144 rfl t1) rfl ⟨m,ss.length,by rw [← HE.out];rfl,?_,gnew HGW.out t3 hq0⟩;have hr:=HRM.out.kept t3 (by simp;omega);have e:srcOn σ ss=srcs (srcG σ):=by
     funext r;unfold srcOn srcs;by_cases hm:r∈ss
     ·rw [if_pos hm]
     ·rw [if_neg hm];have hL:σ.L r=none:=by
       cases hL:σ.L r with
       | none=>rfl
       | some X=>
        have hF:(σ.F r).isSome=true:=by rw [← HW.out.led r,hL];rfl
        obtain ⟨y,hy⟩:=Option.isSome_iff_exists.1 hF;obtain ⟨v,hv,_⟩:=(HJS.out r).2 X hL;exact (hm ((HKE.out.2.2 r (HW.out.tree.key _ _ hy)).2 (by rw [hv];rfl))).elim
      unfold srcG;rw [hL];rfl
    rw [← e];exact hr
   ·intro x v w2 cnt2 hin hlk hF hat hrg2 hlt hg2 hs2 hen;obtain ⟨X,hX⟩ : ∃ X,σ.L x=some X:=by
     cases hL:σ.L x with
     | none=>rw [(HJS.out x).1 hL] at hF;cases hF
     | some X=>exact ⟨X,rfl⟩
    obtain ⟨v',hv',hled⟩:=(HJS.out x).2 X hX;obtain rfl:v=v':=Option.some.inj (hF.symm.trans hv');have hxs:x∉ss:=fun hm=>by have:=((HCC.out.2.2 x hin).1 hm).2;rw [hlk] at this;cases this
    have hC2:=HCC.out.step hin hlk hat;have hgw2:=gnew HGW.out hg2 hwr;have hqb2:=HQB.out.kept hg2 (by simp;omega);have hqq2:=HQQ.out.kept hg2 (by simp;omega);have hrm2:=HRM.out.kept hg2 (by simp;omega);have hr3':=hrg2.lt;have hm2:w2.rangeLeft I.lm r < wr.rangeLeft I.lm r:=by rw [hrg2.left_eq,hrg.left_eq];exact hlt
    have hcur:VCur w2 I.lm r nl D (fun z=>left z && !z.sameKey (kk x)) cnt2 m ss.length (srcOn σ ss) (wr.rangeLeft I.lm r):=⟨hrm2,hrg2,hm2⟩;obtain ⟨g,cg,g',cg',hveq,hled'⟩:=id hled;subst hveq;have HLED:=lh (LedAt.g hled hgw2);have hxx:(srcG σ x)=some (if eOf (getT σ.F x).2.1 σ.S < E then (pullF σ.bs σ.S σ.F σ.f x X).ce else X.j.ce):=by unfold srcG;rw [hX,HE.out];rfl
    have hss:ss.length < nl:=by omega
    have HXB:=lh (HW.out.ledbd x X hX);have HC2:=lh hC2;have HGW2:=lh hgw2;have HQB2:=lh hqb2;have HQQ2:=lh hqq2;have HV:=lh hcur;have HXX:=lh hxx;clear hC2 hgw2 hqb2 hqq2 hcur hxx;clear hrm2 hrg2 hm2;clear HRM HQB HQQ HCC HGW hF hv' hled hled' hlk hat hrg hg2 hs2;unfold ledV at hen;go_upto_region 6 with (fail)
    refine nmC1 ?_;intro W3 b3 hz3 hg3;have hr3:=hr3';have hgw3:=HGW2.out.size;obtain ⟨q3,hq_q3⟩ : ∃ q,q=w2.heap.size:=⟨_,rfl⟩;rw [← hq_q3] at b3 hz3 hr3 hgw3 ⊢;have HQ_q3:=lh hq_q3;clear hq_q3;have HH:=lh ((HH0.out.g HGW2.out).g hg3);replace HLED:=lh (HLED.out.g hg3);replace HQB2:=lh (HQB2.out.g hg3);replace HQQ2:=lh (HQQ2.out.g hg3);replace HV:=lh (HV.out.g hg3);replace HGW2:=lh (g2 HGW2.out hg3);have HB3:=lh b3;clear b3;clear hg3 hz3;obtain ⟨_,_,_,c3,_,_,_,_,_,_,_,_,_,_⟩:=HH.out.blk.c14;go_wp2_with fail
    refine (tget_calls HH.out.tree hin).mono ?_;rintro e w4 ⟨rfl,hg4⟩;replace HLED:=lh (HLED.out.g hg4);replace HQB2:=lh (HQB2.out.g hg4);replace HQQ2:=lh (HQQ2.out.g hg4);replace HH:=lh (HH.out.g hg4);replace HB3:=lh (HB3.out.g hg4);replace HV:=lh (HV.out.g hg4);replace HGW2:=lh (g2 HGW2.out hg4);clear c3 hg4;go_upto_region 7 with (fail)
    have hgt:0≤(getT σ.F x).2.1∧(getT σ.F x).2.1≤1099511627776:=by
     unfold getT;cases hF:σ.F x with
     | none=>simp
     | some y=>exact HW.out.tree.slot x y hF
    obtain ⟨_,d1,d2,d3,d4,d5,d6,d7,d8,d9,d10,d11,d12⟩:=HB3.out.c13;go_upto_region 8 with (fail)
    clear d1 d2 d3 d4 d5 d6 d7 d8 d9 d10 d11 d12;refine nmC1 ?_;intro W5 b5 hz5 hg5;have hw5:=HB3.out.lt;have hw6:=HGW2.out.size;obtain ⟨q5,hq_q5⟩ : ∃ q,q=w4.heap.size:=⟨_,rfl⟩;rw [← hq_q5] at b5 hz5 hw5 hw6 ⊢;have HQ_q5:=lh hq_q5;clear hq_q5;replace HLED:=lh (HLED.out.g hg5);replace HQB2:=lh (HQB2.out.g hg5);replace HQQ2:=lh (HQQ2.out.g hg5);replace HH:=lh (HH.out.g hg5);replace HB3:=lh (HB3.out.g hg5);replace HV:=lh (HV.out.g hg5);replace HGW2:=lh (g2 HGW2.out hg5);have HB5:=lh b5;clear b5;clear hg5 hz5;obtain ⟨c0,c1,c2,c3,_,_,_,_,_,_,_,_,_,_⟩:=HH.out.blk.c14;go_wp2_with fail
    refine (eof_calls _ σ.S _ (by omega) (by omega)).mono ?_;rintro e w6 ⟨rfl,rfl⟩;clear c0 c1 c2 c3;obtain ⟨es,hes⟩ : ∃ es,es=eOf (getT σ.F x).2.1 σ.S:=⟨_,rfl⟩;have hxx:=HXX.out;rw [← hes] at hxx ⊢;obtain ⟨R,hR⟩ : ∃ R,R=pullF σ.bs σ.S σ.F σ.f x X:=⟨_,rfl⟩;rw [← hR] at hxx;obtain ⟨ce,hce⟩ : ∃ ce,ce=if es < E then R.ce else X.j.ce:=⟨_,rfl⟩;rw [← hce] at hxx;replace HXX:=lh hxx;have HR:=lh hR;have HCE:=lh hce;clear hR hce;clear hxx hes;go_upto_if 65 with (fail)
    go_cut [] (fun wx=>∃ v1,Blk wx q5 #[.int .i64 ce,v1] 61∧Blk wx qb #[.int .i64 σ.je,.int .u64 σ.jr,.int .i64 σ.fe,.int .u64 σ.fr,.int .i64 E,.map (some m)] 278 ∧
     Blk wx q #[.int .i64 0,.int .u64 0,.int .i64 0,.int .u64 0,.int .i64 0,.map none] 278∧VCur wx I.lm r nl D (fun z=>left z && !z.sameKey (kk x)) cnt2 m ss.length (srcOn σ ss) (wr.rangeLeft I.lm r)∧w.grownBy wx none)
    case first=>
     by_cases hlt2:es < E
     ·have hce:=HCE.out;rw [if_pos hlt2] at hce;replace HCE:=lh hce;clear hce;go_upto_region 9 with (fail)
      replace HLED:=lh (HLED.out.g (gdrew (gR _ none)));replace HQB2:=lh (HQB2.out.g (gdrew (gR _ none)));replace HQQ2:=lh (HQQ2.out.g (gdrew (gR _ none)));replace HH:=lh (HH.out.g (gdrew (gR _ none)));replace HB3:=lh (HB3.out.g (gdrew (gR _ none)));replace HB5:=lh (HB5.out.g (gdrew (gR _ none)));replace HV:=lh (HV.out.g (gdrew (gR _ none)));replace HGW2:=lh (g2 HGW2.out (gdrew (gR _ none)));obtain ⟨c0,c1,c2,_,_,_,_,_,_,_,_,_,_,_⟩:=HH.out.blk.c14;obtain ⟨d0,d1,d2,d3,d4,d5,d6,d7,d8,d9,d10,d11,d12⟩:=HB3.out.c13;obtain ⟨f0,f1⟩:=HB5.out.f2;obtain ⟨g0,g1⟩:=HB5.out.c2;have hfd:=fun w=>field130 R.b0 R.b1 R.b2 R.b3 R.pe R.pr R.ce R.cr R.fe R.fr w;have n1:¬ I.p=q5:=by omega
      have n2:¬ q5=I.p:=by omega
      have n3:¬ q3=q5:=by omega
      have n4:¬ q5=q3:=by omega
      go_region_held3 (fun w'=>w'.cell? ⟨I.p,0,none⟩=some (.slice I.ba σ.bs.length I.bc)∧w'.cell? ⟨I.p,1,none⟩=some (.int .i64 σ.S)∧w'.cell? ⟨I.p,2,none⟩=some (.int .i64 σ.B) ∧
       w'.cell? ⟨q3,0,none⟩=some (.bool X.j.b0)∧w'.cell? ⟨q3,1,none⟩=some (.bool X.j.b1)∧w'.cell? ⟨q3,2,none⟩=some (.bool X.j.b2)∧w'.cell? ⟨q3,3,none⟩=some (.bool X.j.b3) ∧
       w'.cell? ⟨q3,4,none⟩=some (.int .i64 X.j.pe)∧w'.cell? ⟨q3,5,none⟩=some (.int .u64 X.j.pr)∧w'.cell? ⟨q3,6,none⟩=some (.int .i64 X.j.ce)∧w'.cell? ⟨q3,7,none⟩=some (.int .u64 X.j.cr) ∧
       w'.cell? ⟨q3,8,none⟩=some (.int .i64 X.j.fe)∧w'.cell? ⟨q3,9,none⟩=some (.int .u64 X.j.fr)∧w'.cell? ⟨q3,10,none⟩=some (.int .i64 X.ep) ∧
       w'.cell? ⟨q3,11,none⟩=some (.slice (some ⟨g,0,none⟩) σ.bs.length cg)∧w'.cell? ⟨q3,12,none⟩=some (.slice (some ⟨g',0,none⟩) σ.bs.length cg'))
       (go_keep)
       (first
         | (go_at_call 51
            refine (chain_calls HH.out.blk.c14.2.2.2.1 HH.out.tree x).mono ?_;rintro e wg ⟨k1,k2,rfl,hch,hgg⟩;obtain ⟨c0,c1,c2,_,_,_,_,_,_,_,_,_,_,_⟩:=(HH.out.g hgg).blk.c14;obtain ⟨d0,d1,d2,d3,d4,d5,d6,d7,d8,d9,d10,d11,d12⟩:=(HB3.out.g hgg).c13;obtain ⟨f0,f1⟩:=(HB5.out.g hgg).f2;obtain ⟨g0,g1⟩:=(HB5.out.g hgg).c2;replace HLED:=lh (HLED.out.g hgg);replace HQB2:=lh (HQB2.out.g hgg);replace HQQ2:=lh (HQQ2.out.g hgg);replace HH:=lh (HH.out.g hgg);replace HB3:=lh (HB3.out.g hgg);replace HB5:=lh (HB5.out.g hgg);replace HV:=lh (HV.out.g hgg);replace HGW2:=lh (g2 HGW2.out hgg);have HCH:=lh hch;clear hgg hch)
         | (go_at_call 55
            refine (pull_calls HCH.out HW.out.tree hin HH.out.bal rfl HW.out.may HLED.out HXB.out).mono ?_;rintro e wg ⟨rfl,hgg⟩;rw [← HR.out];unfold jV;obtain ⟨c0,c1,c2,_,_,_,_,_,_,_,_,_,_,_⟩:=(HH.out.g hgg).blk.c14;obtain ⟨d0,d1,d2,d3,d4,d5,d6,d7,d8,d9,d10,d11,d12⟩:=(HB3.out.g hgg).c13;obtain ⟨f0,f1⟩:=(HB5.out.g hgg).f2;obtain ⟨g0,g1⟩:=(HB5.out.g hgg).c2;replace HLED:=lh (HLED.out.g hgg);replace HQB2:=lh (HQB2.out.g hgg);replace HQQ2:=lh (HQQ2.out.g hgg);replace HH:=lh (HH.out.g hgg);replace HB3:=lh (HB3.out.g hgg);replace HB5:=lh (HB5.out.g hgg);replace HV:=lh (HV.out.g hgg);replace HGW2:=lh (g2 HGW2.out hgg);clear hgg))
      all_goals go_wp2_with fail
      all_goals go_meet
      all_goals
       obtain ⟨t1,_,t3⟩:=put2 (.int .i64 R.ce) (.int .u64 R.cr) HB5.out;have hce:=HCE.out;have hlm:=hraw.lt;subst hce;exact ⟨_,t1,HQB2.out.kept t3 (by simp;omega),HQQ2.out.kept t3 (by simp;omega),HV.out.kept t3 (by simp;omega) (by simp;omega) (by simp;omega),gnew HGW2.out t3 (by omega)⟩
     ·have hce:=HCE.out;rw [if_neg hlt2] at hce;subst hce;go_wp2_with fail
      go_meet
      exact ⟨_,HB5.out,HQB2.out,HQQ2.out,HV.out,HGW2.out⟩
    case rest=>
     obtain ⟨v1,hb,hb1,hb2,hv,hgw⟩:=hcut;have HX1:=lh hb1;have HX2:=lh hb2;have HX3:=lh hv;have HX4:=lh hgw;clear hb1 hb2 hv hgw;obtain ⟨e0,_⟩:=hb.c2;obtain ⟨_,_,_,_,_,e5⟩:=HX1.out.c6;have hlm:=hraw.lt;have hmm2:=HX3.out.mz;have hno:(srcOn σ ss x).isSome=false:=by unfold srcOn;rw [if_neg hxs];rfl
     go_wp2_with (refine wpList_store_any HX3.out.rm rfl _ _ _ 276 (Or.inl rfl) Tryz.underlying27 Tryz.underlying276 (by omega) hin (.int .i64 ce) rfl rfl rfl ?_;intro w7 hrm7 hg7)
     rw [hno,srcOn_next σ ss x ce HXX.out] at hrm7;have HRM7:=lh hrm7;have HG7:=lh hg7;have hrg7:=HX3.out.rg.kept hg7 (by simp;omega) (by simp;omega);have hmz:w7.rangeLeft I.lm r < wr.rangeLeft I.lm r:=by
      rw [hrg7.left_eq];rw [HX3.out.rg.left_eq] at hmm2;exact hmm2
     refine ⟨?_,hmz⟩
     (repeat apply Exists.intro)
     exact ⟨⟨_,cnt2,ss++[x],hrg7,HC2.out,by simp;omega,by simpa using HRM7.out,HX1.out.kept HG7.out (by simp;omega),HX2.out.kept HG7.out (by simp;omega),gnew HX4.out HG7.out (by omega)⟩,rfl⟩
end
end Go.Proofs.YtndfpmboanohcaaGreatDoor
