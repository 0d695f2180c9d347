/- Contract of (*spec.Engine).Head. -/
import Derived.Test.YtndfpmboanohcaaGreatDoorLkhToSpw
namespace Go.Proofs.YtndfpmboanohcaaGreatDoor
set_option maxRecDepth 100000
open Go.RowKit Go.Maps SkipPure
section
variable {w:World} {I:Ids} {σ:St} {q0:Nat}
theorem cf148 (args:Array Value) (w:World):(callFunc 148 args).run Tryz.prog w=.ok (.enter 148 args) w:=by kernel_rfl
set_option maxHeartbeats 8000000 in
theorem shead_calls (h:StoreAt w I σ) (hw:StWf σ) (ha:SpAt w q0 I.p) {ks:List Int} (hks:Rising σ.F ks) (hkl:ks.length≤1000000) (hS:SortUpTo σ.n) (wt:Int→Int)
  (hwt : ∀ W,w.grownBy W none→∀ r,inU r→Calls Tryz.prog 148 #[.pointer (some ⟨q0,0,none⟩),.int .u64 r] W fun e W'=>e=.returned (.int .u64 (wt r))∧W.grownBy W' none) :
  Calls Tryz.prog 147 #[.pointer (some ⟨q0,0,none⟩)] w fun e w'=>∃ r,e=.returned (.int .u64 r)∧HdB (stepB σ.F σ.f ks (MayLead σ.F σ.f ks (srcG σ) σ.je σ.fr (eOf σ.slot σ.S)) wt) σ.jr r∧w.grownBy w' none:=by
 have HH:=lh h;have HA:=lh ha;obtain ⟨may,hmay⟩ : ∃ may,may=MayLead σ.F σ.f ks (srcG σ) σ.je σ.fr (eOf σ.slot σ.S):=⟨_,rfl⟩;rw [← hmay];obtain ⟨STEP,hSTEP⟩ : ∃ STEP,STEP=stepB σ.F σ.f ks may wt:=⟨_,rfl⟩;rw [← hSTEP];have HST:=lh hSTEP;clear hSTEP;have HW:=lh hw;have HKS:=lh hks;have HSS:=lh hS;have HMAY:=lh hmay;have HWT:=lh hwt;clear hw hks hS hmay hwt;clear h ha;have hG0:=gR w none;have HG:=lh hG0;clear hG0;go_enter Tryz.func147,Tryz.ntmps147
 go_upto_region 1 with (fail)
 have a0:w.drew.cell? ⟨q0,0,none⟩=some (.pointer (some ⟨I.p,0,none⟩)):=Blk.at HA.out 0;have c3:w.drew.cell? ⟨I.p,3,none⟩=some (.pointer (some ⟨I.tp,0,none⟩)):=HH.out.s3;have hgd:=gdrew (gR w none);replace HH:=lh (HH.out.g hgd);replace HA:=lh (Blk.g HA.out hgd);replace HG:=lh (g2 HG.out hgd);clear hgd
 go_region_held3 (fun w'=>w'.cell? ⟨q0,0,none⟩=some (.pointer (some ⟨I.p,0,none⟩))∧w'.cell? ⟨I.p,3,none⟩=some (.pointer (some ⟨I.tp,0,none⟩))) (go_keep)
  (first
    | (go_at_call 144
       refine (view_calls HH.out HW.out).mono ?_;rintro e w2 ⟨m,mn,rfl,hm,hg⟩;have d0:=Blk.at (Blk.g HA.out hg) 0;have d3:=(HH.out.g hg).s3;replace HH:=lh (HH.out.g hg);replace HA:=lh (Blk.g HA.out hg);replace HG:=lh (g2 HG.out hg);have HM:=lh hm;clear hm hg)
    | (go_at_call 149
       refine (viable_calls HH.out.tree HW.out.tree HM.out HKS.out (by omega) (by have:=HW.out.n;omega) HSS.out HW.out.fr (srcG_bd HW.out)).mono ?_;rintro e w3 ⟨ob,rfl,hob,hol,hg⟩;rw [← HMAY.out] at hob;have e0:=Blk.at (Blk.g HA.out hg) 0;have e3:=(HH.out.g hg).s3;replace HH:=lh (HH.out.g hg);replace HA:=lh (Blk.g HA.out hg);replace HG:=lh (g2 HG.out hg);have HOB:=lh hob;clear hob hg))
 clear d0 d3 e0 e3 a0 c3 HM hol;have hall : ∀ wz,w3.grownBy wz none→StoreAt wz I σ∧SpAt wz q0 I.p∧BSet wz ob may∧w.grownBy wz none:=fun wz hz=>⟨HH.out.g hz,Blk.g HA.out hz,HOB.out.g hz,g2 HG.out hz⟩;have HALL:=lh hall;have a0:w3.cell? ⟨q0,0,none⟩=some (.pointer (some ⟨I.p,0,none⟩)):=Blk.at HA.out 0;have c8:=HH.out.s8;clear hall HH HA HOB HG;go_wp2_with fail
 clear a0 c8
 go_loopw [4] (fun v4 wr=>∃ hd:Int,v4=.int .u64 hd∧(∀ r,HdB STEP hd r→HdB STEP σ.jr r)∧w3.grownBy wr none) (fun v4 _=>(1099511627777 - (getT σ.F (intOf v4)).2.1).toNat)
 case atStart=>exact ⟨σ.jr,rfl,fun r h=>h,gR w3 none⟩
 case round=>
  obtain ⟨hd,rfl,hH,hg⟩:=hrel;have HHD:=lh hH;have HG:=lh hg;clear hH hg;obtain ⟨wo,rfl⟩ : ∃ wo,wo=wr:=⟨_,rfl⟩;have a0:wo.cell? ⟨q0,0,none⟩=some (.pointer (some ⟨I.p,0,none⟩)):=Blk.at (HALL.out wo HG.out).2.1 0;have c3:=(HALL.out wo HG.out).1.s3;go_wp2_with fail
  refine (kids_calls (HALL.out wo HG.out).1.tree HW.out.tree (by have:=HW.out.n;omega) HSS.out hd).mono ?_;rintro e w4 ⟨v,ks',rfl,hks',hkn,hrow,hg⟩;obtain rfl:ks'=ks:=rising_eq hks'.1 HKS.out.1 (fun x=>⟨fun hx=>(HKS.out.2.2 x (hks'.2.1 x hx)).2 ((hks'.2.2 x (hks'.2.1 x hx)).1 hx),fun hx=>(hks'.2.2 x (HKS.out.2.1 x hx)).2 ((HKS.out.2.2 x (HKS.out.2.1 x hx)).1 hx)⟩);have hlen:=len_any (P:=Tryz.prog) (t:=34) hrow Tryz.underlying34 3;obtain ⟨xs,hxs⟩ : ∃ xs,xs=kidsT σ.F σ.f hd ks':=⟨_,rfl⟩;rw [← hxs] at hrow hlen;have hxl:xs.length≤1000000:=by rw [hxs];exact Nat.le_trans (kidsT_length _ _ _ _) hkl
  have hxu : ∀ x∈xs,inU x:=fun x hx=>by rw [hxs] at hx;exact HKS.out.2.1 x (List.mem_filter.1 hx).1
  replace HG:=lh (g2 HG.out hg);have HROW:=lh hrow;have HXS:=lh hxs;have HXU:=lh hxu;clear hrow hxs hxu;clear hg hks' a0 c3 hkn;go_wp2_with fail
  clear hlen;obtain ⟨i0,hi0⟩:=elem_u64;have HI:=lh hi0;clear hi0
  go_loopw [41,5] (fun v41 v5 wr=>∃ j:Nat,v41=.int .i64 (j:Int)∧j≤xs.length∧wr.ownsRow w4.heap.size 27 1 v5 (fl may (xs.take j)).length ((fl may (xs.take j)).map encU)∧w4.grownBy wr none) (fun v41 _ _=>xs.length - (intOf v41).toNat)
  case atStart=>exact ⟨0,rfl,by omega,by simpa [fl] using World.ownsRow_nil w4 _ _ _,gR w4 none⟩
  case round=>
   obtain ⟨j,rfl,hj,ho,hg1⟩:=hrel;have HO:=lh ho;have HG1:=lh hg1;clear ho hg1;by_cases hlt:j < xs.length
   ·obtain ⟨g,cap,rfl,_,_⟩:=HROW.out.form (by omega);have hc:=rowCell (HROW.out.kept HG1.out (by simp [Value.ownBlock])) j hlt;obtain ⟨r,hr⟩ : ∃ r,r=xs.getD j 0:=⟨_,rfl⟩;have hrm:r∈xs:=by rw [hr,List.getD_eq_getElem?_getD,List.getElem?_eq_getElem hlt];exact List.getElem_mem hlt
    have hin:=HXU.out r hrm;have ht:=fl_take may xs hlt;rw [← hr] at hc ht;obtain ⟨Bm,hBm⟩ : ∃ Bm:Bool,Bm=true↔may r:=⟨@decide (may r) (Classical.propDecidable _),by simp⟩;have hlk:=(HALL.out _ (g2 HG.out HG1.out)).2.2.1.has hin (mt:=75) Tryz.underlying75 Bm hBm;have hfl:(fl may (xs.take j)).length≤1000000:=Nat.le_trans (fl_len _ _) (by simp;omega);have HT:=lh ht;clear hr hrm ht;cases Bm with
    | false=>
     have hm:¬ may r:=fun h=>by simpa using hBm.2 h
     have HM:=lh hm;clear hm hBm;go_wp2;exact ⟨⟨j+1,by simp,by omega,by rw [HT.out,if_neg HM.out,List.append_nil];exact HO.out,HG1.out⟩,by simp [intOf];omega⟩
    | true=>
     have hm:may r:=hBm.1 rfl;have HM:=lh hm;clear hm hBm;rcases HO.out.two with hv5 | ⟨g5,c5,hv5⟩;all_goals
      subst hv5;go_wp2_with (at_builtin;refine wpList_append_lies _ rfl _ _ 34 rfl w4.heap.size 27 i0 (.int .u64 0) 1 8 Tryz.underlying34 HI.out.1 HI.out.2.1 HI.out.2.2.1 HI.out.2.2.2 rfl (by decide) _ (fl may (xs.take j)).length ((fl may (xs.take j)).map encU) rfl (HO.out.alloc _) ⟨wr.heap.size,0,none⟩ 1 1 [.int .u64 r] rfl rfl (World.news_of_block (MapKept.heap_alloc _ _).1) (by simp [Value.oneCell']) (by decide) (by unfold maxLen;omega) (by omega) (by have:=HG1.out.size;simp;omega) _ rfl ?_;intro g6 c6 w6 h6 hg6 hat6 hlt6;have H6:=lh h6;have HG6:=lh hg6;clear h6 hg6 hat6)
      refine ⟨⟨j+1,by simp,by omega,?_,(g2 HG1.out (World.grownBy_alloc wr _ none)).andThen HG6.out (fun k e=>Or.inl (HO.out.lt k e).1)⟩,by simp [intOf];omega⟩;rw [HT.out,if_pos HM.out];have:=H6.out
      simpa using this
   ·obtain rfl:j=xs.length:=by omega
    have ho:=HO.out;rw [List.take_length] at ho;replace HO:=lh ho;clear ho hj hlt;replace HG:=lh (g2 HG.out HG1.out);clear HG1;have hfl:(fl may xs).length≤1000000:=Nat.le_trans (fl_len _ _) hxl;go_wp2_with fail
    refine (best_calls HO.out hfl cf148 wt (fun W hW r hr=>HWT.out W (g2 (HALL.out wr HG.out).2.2.2 hW) r (HXU.out r (fl_sub hr)))).mono ?_;rintro e w5 ⟨rfl,hg⟩;replace HG:=lh (g2 HG.out hg);obtain ⟨B,hB⟩ : ∃ B,B=bestF wt (fl may xs):=⟨_,rfl⟩;have hstep:STEP hd=if B.2.2=true then some B.1 else none:=by rw [HST.out];unfold stepB kidsB;rw [← HXS.out,← hB]
    have hmem:B.2.2=true→B.1∈xs:=fun h=>by rw [hB] at h ⊢;exact fl_sub (bestF_mem h)
    rw [← hB];have HSTEP:=lh hstep;have HMEM:=lh hmem;clear hstep hmem;clear hg hB hfl HO;obtain ⟨k,m,ok⟩:=B;simp only;cases ok with
    | false=>
     have hst:=HSTEP.out;simp only at hst;rw [if_neg (by simp)] at hst;have HF:=lh (HHD.out hd (.stop hst));clear hst;go_wp2;go_ret;exact ⟨hd,rfl,HF.out,(HALL.out w5 HG.out).2.2.2⟩
    | true=>
     have hst:=HSTEP.out;simp only at hst;rw [if_pos trivial] at hst;have hk:=HMEM.out rfl;simp only at hk;have hlt:(getT σ.F hd).2.1 < (getT σ.F k).2.1∧(getT σ.F k).2.1≤1099511627776:=by
      rw [HXS.out] at hk;obtain ⟨hk1,hk2⟩:=List.mem_filter.1 hk;obtain ⟨y,hy⟩:=Option.isSome_iff_exists.1 ((HKS.out.2.2 k (HKS.out.2.1 k hk1)).1 hk1);simp only [hy,Option.getD_some,Bool.and_eq_true,Bool.not_eq_true',beq_eq_false_iff_ne,beq_iff_eq] at hk2;obtain ⟨z,hz,hzl⟩:=HW.out.tree.up k y hy hk2.1;rw [hk2.2] at hz;have:=HW.out.tree.slot k y hy;simp only [getT,hy,hz,Option.getD_some];exact ⟨hzl,this.2⟩
     have HNX:=lh (fun r (h:HdB STEP k r)=>HHD.out r (.next hst h));clear hst hk;go_wp2;exact ⟨⟨k,rfl,HNX.out,HG.out⟩,by simp [intOf];omega⟩
end
section
variable {w:World} {bs:List Int} {S B:Int} {ad:Option Addr} {c:Nat}
theorem spof_calls (hb:Ints .u64 w ad bs) (hm:MayBe bs S B) :
  Calls Tryz.prog 22 #[cfgV ad bs.length c S B] w fun e w'=>∃ I q,e=.returned (.tuple #[.pointer (some ⟨q,0,none⟩),.nilIface])∧StoreAt w' I (st0 bs S B)∧SpAt w' q I.p∧I.ex=(fun i=>i=q)∧w.grownBy w' none ∧
   (∀ i,Far I i→w.heap.size≤i):=by
 have HB:=lh hb;have HM:=lh hm;clear hb hm;unfold cfgV;go_enter Tryz.func22,Tryz.ntmps22
 go_upto_region 1 with (fail)
 refine nmC1 ?_;intro W b0 hz hg;obtain ⟨q,hq_q⟩ : ∃ q,q=w.heap.size:=⟨_,rfl⟩;rw [← hq_q] at b0 hz ⊢;have HQ_q:=lh hq_q;clear hq_q;have HQ:=lh b0;have HG:=lh hg;clear b0 hg;replace HB:=lh (Ints.kept HB.out HG.out);obtain ⟨c0,c1,c2⟩:=HQ.out.c3;go_wp2_with fail
 refine (sof_calls HB.out HM.out).mono ?_;rintro e w1 ⟨I,rfl,hst,hch,hex,hmu,hg⟩;have hwW:=HG.out.size;replace HG:=lh (g2 HG.out hg);clear hg c0 c1 c2 HB HQ hch;have hmu2 : ∀ i,Mut I i→w.heap.size≤i:=fun i hi=>Nat.le_trans hwW (hmu i hi);have HH:=lh hst;have HEX:=lh hex;have HMU:=lh hmu2;clear hst hex hmu2;clear hmu hwW;go_wp2;go_ret2;have hl1:0 < bs.length:=by have:=HM.out.l1;omega
 have hsz:=HG.out.size;obtain ⟨k1,hz1,hg1⟩:=alloc1 w1 #[.pointer (some ⟨I.p,0,none⟩)] 104;have hst:=HH.out.reex (I:=I) hl1 (Chg.of hg1) (fun i=>i=w1.heap.size) (fun i hi=>.inr (by rw [hi];omega)) (fun i hi=>by rw [hz1,hi];omega);exact ⟨{ I with ex:=fun i=>i=w1.heap.size },w1.heap.size,rfl,hst,k1,rfl,g2 HG.out hg1,fun i hi=>hi.elim (HMU.out i) (fun h=>by have h2:i=w1.heap.size:=h;omega)⟩
set_option maxHeartbeats 2000000 in
theorem rof_spec (hb:Ints .u64 w ad bs) (hm:MayBe bs S B) :
  Calls Tryz.prog 15 #[.int .i64 0,cfgV ad bs.length c S B] w fun e w'=>∃ I q,e=.returned (.tuple #[.iface 97 (.pointer (some ⟨q,0,none⟩)),.pointer (some ⟨I.p,0,none⟩),.nilIface])∧StoreAt w' I (st0 bs S B)∧SpAt w' q I.p∧I.ex=(fun i=>i=q)∧w.grownBy w' none ∧
   (∀ i,Far I i→w.heap.size≤i):=by
 have HB:=lh hb;have HM:=lh hm;clear hb hm;unfold cfgV;go_enter Tryz.func15,Tryz.ntmps15
 go_upto_region 1 with (fail)
 refine nmC1 ?_;intro W b0 hz hg;obtain ⟨q,hq_q⟩ : ∃ q,q=w.heap.size:=⟨_,rfl⟩;rw [← hq_q] at b0 hz ⊢;have HQ_q:=lh hq_q;clear hq_q;have HQ:=lh b0;have HG:=lh hg;clear b0 hg;replace HB:=lh (Ints.kept HB.out HG.out);obtain ⟨c0,c1,c2⟩:=HQ.out.c3;go_wp2_with fail
 refine (spof_calls HB.out HM.out).mono ?_;rintro e w1 ⟨I,q1,rfl,hst,ha,hex,hg,hm1⟩;have hwW:=HG.out.size;replace HG:=lh (g2 HG.out hg);have h1 : ∀ i,Far I i→w.heap.size≤i:=fun i hi=>Nat.le_trans hwW (hm1 i hi);clear hg c0 c1 c2 HB HQ hwW hm1;have HH:=lh hst;have HA:=lh ha;have HEX:=lh hex;have HM1:=lh h1;clear hst ha hex h1;have a0:w1.cell? ⟨q1,0,none⟩=some (.pointer (some ⟨I.p,0,none⟩)):=Blk.at HA.out 0;go_wp2_with fail
 go_quiet (fail)
 have hgd:w1.grownBy (w1.drewN nq) none:=drewN_grown w1 nq;replace HH:=lh (HH.out.g hgd);replace HA:=lh (Blk.g HA.out hgd);replace HG:=lh (g2 HG.out hgd);clear hgd a0;generalize w1.drewN nq=w2 at HH HA HG ⊢;go_wp2;go_ret3;exact ⟨I,q1,rfl,HH.out,HA.out,HEX.out,HG.out,HM1.out⟩
end
section
variable {w0:World} {I:Ids} {σ:St} {q N:Nat}
set_option maxHeartbeats 4000000 in
theorem sfeed_calls (h:StoreAt w0 I σ) (hI:Inv σ N) (hN:N < 1000) (ha:SpAt w0 q I.p) (hx:I.ex=fun i=>i=q) {e:Ev} (hB:EvB e) {cells:Array Value} (he:EvAt w0 (fun i=>i < w0.heap.size∧¬ Mut I i) e cells) :
  Calls Tryz.prog 146 #[.pointer (some ⟨q,0,none⟩),.agg cells] w0 fun z w'=>∃ E I' σ' cs',z=.returned (errV E)∧Applied σ e E σ' cs'∧StoreAt w' I' σ'∧SpAt w' q I'.p∧Inv σ' (N+1)∧I'.ex=I.ex∧I'.p=I.p∧I'.ba=I.ba∧Chg (Mut I) w0 w'∧∀ i,Mut I' i→Mut I i∨w0.heap.size≤i:=by
 obtain ⟨va,vc,pa,pc,vw,vwc,aw,ac,bw,bc,rfl,k1,k2,k3,k4,k5,k6,k7,k8⟩:=he;have hev:EvAt w0 (fun i=>i < w0.heap.size∧¬ Mut I i) e (evC e va vc pa pc vw vwc aw ac bw bc):=⟨va,vc,pa,pc,vw,vwc,aw,ac,bw,bc,rfl,k1,k2,k3,k4,k5,k6,k7,k8⟩;have HEV:=lh hev;have HH:=lh h;have HA:=lh ha;have hpl:=h.blk.lt;have hql:=Blk.lt (q:=q) ha;have HX:=lh hx;have HI:=lh hI;have HB:=lh hB;clear hx hI hB;clear h ha hev k1 k2 k3 k4 k5 k6 k7 k8;go_enter Tryz.func146,Tryz.ntmps146
 go_upto_region 1 with (fail)
 refine nmC1 ?_;intro W b0 hz hg;obtain ⟨qb,hq_qb⟩ : ∃ q,q=w0.heap.size:=⟨_,rfl⟩;rw [← hq_qb] at b0 hz hpl hql ⊢;have HQ_qb:=lh hq_qb;clear hq_qb;change Blk W qb (evC e va vc pa pc vw vwc aw ac bw bc) 68 at b0;have HB0:=lh b0;have HG:=lh hg;clear b0 hg;replace HH:=lh (HH.out.g HG.out);replace HA:=lh (Blk.g HA.out HG.out);replace HEV:=lh (HEV.out.chg (S:=fun _=>False) (Chg.of HG.out) (fun _ _ h=>h) (fun _ h=>h));have TK:=lh fun w (hSw:(fun wr=>StoreAt wr I σ∧SpAt wr q I.p∧Blk wr qb (evC e va vc pa pc vw vwc aw ac bw bc) 68∧EvAt wr (fun i=>i < qb∧¬ Mut I i) e (evC e va vc pa pc vw vwc aw ac bw bc)) w)=>show w.cell? ⟨q,0,none⟩=some (.pointer (some ⟨I.p,0,none⟩)) from Blk.at hSw.2.1 0
 refine wp_region_late (fun wr=>StoreAt wr I σ∧SpAt wr q I.p∧Blk wr qb (evC e va vc pa pc vw vwc aw ac bw bc) 68∧EvAt wr (fun i=>i < qb∧¬ Mut I i) e (evC e va vc pa pc vw vwc aw ac bw bc)) [5] (by as_aux_lemma=>kernel_rfl) ?_;have hgd:=gdrew (gR W none);have hS:(fun wr=>StoreAt wr I σ∧SpAt wr q I.p∧Blk wr qb (evC e va vc pa pc vw vwc aw ac bw bc) 68∧EvAt wr (fun i=>i < qb∧¬ Mut I i) e (evC e va vc pa pc vw vwc aw ac bw bc)) W.drew:=
  ⟨HH.out.g hgd,Blk.g HA.out hgd,HB0.out.g hgd,HEV.out.chg (S:=fun _=>False) (Chg.of hgd) (fun _ _ h=>h) (fun i hi=>⟨by rw [HQ_qb.out];exact hi.1,hi.2⟩)⟩
 replace HG:=lh (g2 HG.out hgd);clear hgd HH HA HB0 HEV;generalize W.drew=w2 at HG hS ⊢;refine pM 0 ?_;simp only [zz];refine pM 1 ?_;simp only [zz];refine pM 2 ?_;simp only [zz];refine tM 3 ?_;simp only [zz];refine wM 4 ?_ ?_ hS ?_;rotate_left;· intro w hSw;(refine exec_load_blk (ty:=68) (off:=0) (hSw.2.2.1) ?_ _ Tryz.underlying68 rfl (evC e va vc pa pc vw vwc aw ac bw bc) ?_ ?_ <;> first | exact ⟨_,rfl,rfl⟩ | rfl | (as_aux_lemma=>kernel_rfl))
 simp only [zz];refine rM 5 fun K hK=>?_;go_simp;have hqb2:=hS.2.2.1.lt;refine (apply_calls hS.1 HI.out hN HB.out (hS.2.2.2.chg (S:=fun _=>False) (Chg.refl _ _) (fun _ _ h=>h) (fun i hi=>⟨by omega,hi.2⟩))).mono ?_;rintro e2 w3 ⟨E,I2,σ2,cs2,rfl,hapd⟩;have hq:¬ Mut I q:=hS.1.exd q (by rw [HX.out]);have ha3:SpAt w3 q I.p:=hapd.chg.blk (q:=q) hS.2.1 hq;have hsz:=HG.out.size;have HAP:=lh hapd;have HA3:=lh ha3;have HC:=lh ((Chg.of (S:=Mut I) HG.out).trans hapd.chg);have htb : ∀ i,Mut I2 i→Mut I i∨w0.heap.size≤i:=fun i hi=>by
  have hid:=hapd.ids;rw [hid] at hi;rcases hi with h | h | h | h | h | h
  ·exact .inl (.inl h)
  ·exact .inl (.inr (.inl h))
  ·rcases hapd.tbn with h1 | h1
   ·exact .inl (.inr (.inr (.inl (h.trans h1))))
   ·have h2:i=I2.tb:=h;right;omega
  ·exact .inl (.inr (.inr (.inr (.inl h))))
  ·exact .inl (.inr (.inr (.inr (.inr (.inl h)))))
  ·exact .inl (.inr (.inr (.inr (.inr (.inr h)))))
 have HTB:=lh htb;clear hapd ha3 hqb2 htb hq hsz;obtain ⟨ch,hch⟩ : ∃ ch,ch=I2.ch:=⟨_,rfl⟩;obtain ⟨EV,hEV⟩ : ∃ EV,EV=errV E:=⟨_,rfl⟩;rw [← hEV,← hch];have HEVV:=lh hEV;clear hEV hch HG;refine hK.out _ _ (.inr (by decide)) ?_;clear hK K;refine pM 6 ?_;simp only [zz];refine pM 7 ?_;simp only [zz];refine pM 8 ?_;simp only [zz];refine pM 9 ?_;simp only [zz];refine pM 10 ?_;simp only [zz];refine dM ?_ _;go_wp2;go_ret;have hap:=HAP.out;have hid:=hap.ids;exact ⟨E,I2,σ2,cs2,by rw [HEVV.out];rfl,hap.ap,hap.st,by rw [hid];exact HA3.out,hap.inv,by rw [hid],by rw [hid],by rw [hid],HC.out,HTB.out⟩
end
def engS:EngD where
 ty:=97
 ff:=146
 fh:=147
 T:=Unit
 Own:=fun w q p O _=>SpAt w q p∧O=fun i=>i=q
 Rel:=fun _ _ _=>True
 next:=fun _ _ t=>t
 HD:=fun σ ks _ r=>HdK (spW σ) σ ks r
 Eqv:=fun _ t t'=>t=t'
 t0:=()
theorem engS_laws:EngL engS where
 chg h hc hs:=⟨hc.blk (q:=_) h.1 (hs _ (by rw [h.2])),h.2⟩
 eqr _ _:=rfl
 eqt h h':=Eq.trans h h'
 eqs h:=Eq.symm h
 uniq e _ h h':=by cases e;exact HdB.unique h h'
 step e _ _ _ _ _:=by rw [e];rfl
 rest h:=⟨rfl,h⟩
 feed h hN hB he:=(sfeed_calls h.st h.inv hN h.own.1 h.own.2 hB (he.chg (S:=fun _=>False) (Chg.refl _ _) (fun _ _ h=>h) (fun i hi=>⟨hi.1,fun hm=>hi.2 (.inl hm)⟩))).mono (by
  rintro z w' ⟨E,I',σ',cs',rfl,hap,hst,hsp,hin,hex,hp,hba,hc,hm⟩;refine ⟨E,I',σ',cs',rfl,hap,⟨hst,⟨hsp,hex.trans h.own.2⟩,hin,trivial,(hap.adds h.inv.wf hB).par h.par⟩,hp,hba,hc.mono (fun i hi=>.inl hi),fun i hi=>?_⟩;rcases hi with hi | hi
  ·exact (hm i hi).imp .inl id
  ·rw [hex] at hi;exact .inl (.inr hi))
 head h hN hk:=(shead_calls h.st h.inv.wf h.own.1 hk (by have:=h.inv.klen hk;have:=h.inv.wf.n;omega) (sortUpTo_any _ (by have:=h.inv.wf.n;omega)) (spW _) (fun W hW r hr=>sweight_calls (h.st.g hW) h.inv.wf (Blk.g h.own.1 hW) hr)).mono (by
  rintro z w' ⟨r,rfl,hd,hg⟩;exact ⟨r,(),rfl,hd,HdB.inU hd h.inv.wf.jr (stepB_inU hk),rfl,⟨h.st.g hg,⟨Blk.g h.own.1 hg,h.own.2⟩,h.inv,trivial,h.par⟩,Chg.of hg⟩)
def Mq (x y:Int):Prop:=∃ k:Int,x=y+k * 18446744073709551616
theorem Mq.refl (x:Int):Mq x x:=⟨0,by omega⟩
theorem Mq.symm {x y:Int} (h:Mq x y):Mq y x:=by obtain ⟨k,h⟩:=h;exact ⟨-k,by omega⟩
theorem Mq.trans {x y z:Int} (h:Mq x y) (h':Mq y z):Mq x z:=by obtain ⟨k,h⟩:=h;obtain ⟨l,h'⟩:=h';exact ⟨k+l,by omega⟩
theorem Mq.add {x y a b:Int} (h:Mq x y) (h':Mq a b):Mq (x+a) (y+b):=by obtain ⟨k,h⟩:=h;obtain ⟨l,h'⟩:=h';exact ⟨k+l,by omega⟩
theorem Mq.sub {x y a b:Int} (h:Mq x y) (h':Mq a b):Mq (x - a) (y - b):=by obtain ⟨k,h⟩:=h;obtain ⟨l,h'⟩:=h';exact ⟨k - l,by omega⟩
theorem Mq.of (x y:Int) (h:x=y):Mq x y:=by rw [h];exact Mq.refl y
theorem wrap_mod (x:Int):IntKind.u64.wrap x=x % 18446744073709551616:=by simp [IntKind.wrap,IntKind.signed,IntKind.bits]
theorem mq_wrap (x:Int):Mq (IntKind.u64.wrap x) x:=by rw [wrap_mod];exact ⟨-(x / 18446744073709551616),by omega⟩
theorem mq_eq {x y:Int} (h:Mq x y):IntKind.u64.wrap x=IntKind.u64.wrap y:=by obtain ⟨k,h⟩:=h;rw [wrap_mod,wrap_mod];omega
theorem mq_ua (x y:Int):Mq (ua x y) (x+y):=mq_wrap _
theorem mq_us (x y:Int):Mq (us x y) (x - y):=mq_wrap _
def fset (f:Nat→Int) (k:Nat) (x:Int):Nat→Int:=fun i=>if i=k then x else f i
def lstep (p:Nat→Int) (s:(Nat→Int)×(Nat→Int)) (k:Nat):(Nat→Int)×(Nat→Int):=
 (fset (if 0≤p k then fset s.1 (p k).toNat (s.1 (p k).toNat+s.1 k) else s.1) k 0,fset s.2 k (s.2 k+s.1 k))
def lpass (p:Nat→Int):Nat→(Nat→Int)×(Nat→Int)→(Nat→Int)×(Nat→Int)
 | 0,s=>s
 | k+1,s=>lpass p k (lstep p s k)
def Lq (n:Nat) (s t:(Nat→Int)×(Nat→Int)):Prop:=∀ i,i < n→Mq (s.1 i) (t.1 i)∧Mq (s.2 i) (t.2 i)
def POk (p:Nat→Int) (n:Nat):Prop:=∀ i,i < n→-1≤p i∧p i < i
theorem lstep_q {p p':Nat→Int} {n k:Nat} {s t:(Nat→Int)×(Nat→Int)} (hk:k < n) (hp:POk p n) (he : ∀ i,i < n→p i=p' i) (h:Lq n s t):Lq n (lstep p s k) (lstep p' t k):=by
 intro i hi;have hpk:=hp k hk;have e:=he k hk;unfold lstep;rw [← e];simp only [fset];refine ⟨?_,?_⟩
 ·by_cases h1:i=k
  ·rw [if_pos h1,if_pos h1];exact Mq.refl _
  ·rw [if_neg h1,if_neg h1];by_cases h2:0≤p k
   ·rw [if_pos h2,if_pos h2];simp only [fset];by_cases h3:i=(p k).toNat
    ·rw [if_pos h3,if_pos h3];exact (h _ (by omega)).1.add (h k hk).1
    ·rw [if_neg h3,if_neg h3];exact (h i hi).1
   ·rw [if_neg h2,if_neg h2];exact (h i hi).1
 ·by_cases h1:i=k
  ·rw [if_pos h1,if_pos h1];exact (h k hk).2.add (h k hk).1
  ·rw [if_neg h1,if_neg h1];exact (h i hi).2
theorem lpass_q {p p':Nat→Int} {n:Nat} (hp:POk p n) (he : ∀ i,i < n→p i=p' i) : ∀ (k:Nat) (s t:(Nat→Int)×(Nat→Int)),k≤n→Lq n s t→Lq n (lpass p k s) (lpass p' k t)
 | 0,_,_,_,h=>h
 | k+1,s,t,hk,h=>lpass_q hp he k _ _ (by omega) (lstep_q (by omega) hp he h)
def ladd (s t:(Nat→Int)×(Nat→Int)):(Nat→Int)×(Nat→Int):=(fun i=>s.1 i+t.1 i,fun i=>s.2 i+t.2 i)
theorem lstep_add (p:Nat→Int) (s t:(Nat→Int)×(Nat→Int)) (k:Nat):lstep p (ladd s t) k=ladd (lstep p s k) (lstep p t k):=by
 unfold lstep ladd;refine Prod.ext (funext fun i=>?_) (funext fun i=>?_)
 ·simp only [fset];by_cases h1:i=k
  ·simp [h1]
  ·simp only [if_neg h1];by_cases h2:0≤p k
   ·simp only [if_pos h2];by_cases h3:i=(p k).toNat
    ·simp only [fset,if_pos h3];omega
    ·simp only [fset,if_neg h3]
   ·simp only [if_neg h2]
 ·simp only [fset];by_cases h1:i=k
  ·simp only [if_pos h1];omega
  ·simp only [if_neg h1]
theorem lpass_add (p:Nat→Int) : ∀ (k:Nat) (s t:(Nat→Int)×(Nat→Int)),lpass p k (ladd s t)=ladd (lpass p k s) (lpass p k t)
 | 0,_,_=>rfl
 | k+1,s,t=>by
  show lpass p k (lstep p (ladd s t) k)=_;rw [lstep_add,lpass_add p k];rfl
def lmul (c:Int) (s:(Nat→Int)×(Nat→Int)):(Nat→Int)×(Nat→Int):=(fun i=>c * s.1 i,fun i=>c * s.2 i)
theorem lstep_mul (p:Nat→Int) (c:Int) (s:(Nat→Int)×(Nat→Int)) (k:Nat):lstep p (lmul c s) k=lmul c (lstep p s k):=by
 unfold lstep lmul;refine Prod.ext (funext fun i=>?_) (funext fun i=>?_)
 ·simp only [fset];by_cases h1:i=k
  ·simp [h1]
  ·simp only [if_neg h1];by_cases h2:0≤p k
   ·simp only [if_pos h2];by_cases h3:i=(p k).toNat
    ·simp only [fset,if_pos h3];rw [Int.mul_add]
    ·simp only [fset,if_neg h3]
   ·simp only [if_neg h2]
 ·simp only [fset];by_cases h1:i=k
  ·simp only [if_pos h1];rw [Int.mul_add]
  ·simp only [if_neg h1]
theorem lpass_mul (p:Nat→Int) (c:Int) : ∀ (k:Nat) (s:(Nat→Int)×(Nat→Int)),lpass p k (lmul c s)=lmul c (lpass p k s)
 | 0,_=>rfl
 | k+1,s=>by
  show lpass p k (lstep p (lmul c s) k)=_;rw [lstep_mul,lpass_mul p c k];rfl
theorem lstep_rest {p:Nat→Int} {n k:Nat} {s:(Nat→Int)×(Nat→Int)} (hk:k < n) (hp:POk p n) (h : ∀ i,i < n→s.1 i=0):lstep p s k=s:=by
 have h0:=h k hk;have hpk:=hp k hk;unfold lstep;refine Prod.ext (funext fun i=>?_) (funext fun i=>?_)
 ·simp only [fset];by_cases h1:i=k
  ·rw [if_pos h1,h1,h0]
  ·rw [if_neg h1];by_cases h2:0≤p k
   ·rw [if_pos h2];simp only [fset];by_cases h3:i=(p k).toNat
    ·rw [if_pos h3,h0,h3,Int.add_zero]
    ·rw [if_neg h3]
   ·rw [if_neg h2]
 ·simp only [fset];by_cases h1:i=k
  ·rw [if_pos h1,h1,h0,Int.add_zero]
  ·rw [if_neg h1]
theorem lpass_rest {p:Nat→Int} {n:Nat} (hp:POk p n) {s:(Nat→Int)×(Nat→Int)} (h : ∀ i,i < n→s.1 i=0) : ∀ k,k≤n→lpass p k s=s
 | 0,_=>rfl
 | k+1,hk=>by
  show lpass p k (lstep p s k)=s;rw [lstep_rest (by omega) hp h,lpass_rest hp h k (by omega)]
def lin (X:Nat→Nd):(Nat→Int)×(Nat→Int):=(fun i=>(X i).u - (X i).d,fun i=>(X i).w)
def pof (X:Nat→Nd):Nat→Int:=fun i=>(X i).p
theorem lin_nset (X:Nat→Nd) (k:Nat) (x:Nd) (i:Nat):(lin (nset X k x)).1 i=(if i=k then x.u - x.d else (lin X).1 i)∧(lin (nset X k x)).2 i=(if i=k then x.w else (lin X).2 i):=by
 unfold lin nset;simp only;by_cases h:i=k
 ·simp [h]
 ·simp [h]
theorem lin_passU (X:Nat→Nd) (k i:Nat):(lin (passU X k)).1 i=(lin X).1 i∧Mq ((lin (passU X k)).2 i) (if i=k then (lin X).2 k+(lin X).1 k else (lin X).2 i):=by
 obtain ⟨h1,h2⟩:=lin_nset X k { X k with w:=us (ua (X k).w (X k).u) (X k).d } i;change (lin (passU X k)).1 i=_ at h1;change (lin (passU X k)).2 i=_ at h2;refine ⟨?_,?_⟩
 ·rw [h1];by_cases h:i=k
  ·rw [if_pos h,h];rfl
  ·rw [if_neg h]
 ·rw [h2];by_cases h:i=k
  ·rw [if_pos h,if_pos h];refine (mq_us _ _).trans (((mq_ua _ _).sub (Mq.refl _)).trans (Mq.of _ _ ?_));show (X k).w+(X k).u - (X k).d=(X k).w+((X k).u - (X k).d);omega
  ·rw [if_neg h,if_neg h];exact Mq.refl _
theorem passU_other (X:Nat→Nd) {k i:Nat} (h:i≠k):passU X k i=X i:=by unfold passU nset;rw [if_neg h]
theorem lin_passV {X:Nat→Nd} {k n:Nat} (hk:k < n) (hp:POk (pof X) n) (i:Nat):Mq ((lin (passV X k)).1 i) (if 0≤(X k).p∧i=(X k).p.toNat then (lin X).1 i+(lin X).1 k else (lin X).1 i)∧(lin (passV X k)).2 i=(lin (passU X k)).2 i:=by
 have hpk : -1≤(X k).p∧(X k).p < k:=hp k hk;unfold passV;by_cases h0:0≤(X k).p
 ·rw [if_pos h0];have hne:(X k).p.toNat≠k:=by omega
  obtain ⟨h1,h2⟩:=lin_nset (passU X k) (X k).p.toNat { passU X k (X k).p.toNat with u:=ua (passU X k (X k).p.toNat).u (X k).u,d:=ua (passU X k (X k).p.toNat).d (X k).d } i;rw [h1,h2];refine ⟨?_,?_⟩
  ·by_cases h:i=(X k).p.toNat
   ·rw [if_pos h,if_pos ⟨h0,h⟩];rw [passU_other X hne,h];refine ((mq_ua _ _).sub (mq_ua _ _)).trans (Mq.of _ _ ?_);show (X (X k).p.toNat).u+(X k).u - ((X (X k).p.toNat).d+(X k).d)=(X (X k).p.toNat).u - (X (X k).p.toNat).d+((X k).u - (X k).d);omega
   ·rw [if_neg h,if_neg (fun e=>h e.2),(lin_passU X k i).1];exact Mq.refl _
  ·by_cases h:i=(X k).p.toNat
   ·rw [if_pos h,h];rfl
   ·rw [if_neg h]
 ·rw [if_neg h0,if_neg (fun e=>h0 e.1),(lin_passU X k i).1];exact ⟨Mq.refl _,rfl⟩
theorem lin_passW {X:Nat→Nd} {k n:Nat} (hk:k < n) (hp:POk (pof X) n):Lq n (lin (passW X k)) (lstep (pof X) (lin X) k):=by
 intro i _;obtain ⟨h1,h2⟩:=lin_nset (passV X k) k { passV X k k with u:=0,d:=0 } i;change (lin (passW X k)).1 i=_ at h1;change (lin (passW X k)).2 i=_ at h2;obtain ⟨v1,v2⟩:=lin_passV hk hp i;have u2:=(lin_passU X k i).2;unfold lstep;simp only [fset];rw [h1,h2];refine ⟨?_,?_⟩
 ·by_cases h:i=k
  ·rw [if_pos h,if_pos h];exact Mq.refl _
  ·rw [if_neg h,if_neg h];refine v1.trans (Mq.of _ _ ?_);by_cases h0:0≤pof X k
   ·rw [if_pos h0];simp only [fset];by_cases h3:i=(pof X k).toNat
    ·rw [if_pos h3,if_pos ⟨h0,h3⟩,h3]
    ·rw [if_neg h3,if_neg (fun e=>h3 e.2)]
   ·rw [if_neg h0,if_neg (fun e=>h0 e.1)]
 ·by_cases h:i=k
  ·rw [if_pos h,if_pos h];have v3:=(lin_passV hk hp k).2;have u3:=(lin_passU X k k).2;rw [if_pos rfl,← v3] at u3;exact u3
  ·rw [if_neg h,if_neg h,v2];rw [if_neg h] at u2;exact u2
theorem pof_passW (X:Nat→Nd) (k:Nat):pof (passW X k)=pof X:=funext fun i=>passW_p X k i
theorem lin_passL {n:Nat} : ∀ (k:Nat) (X:Nat→Nd),k≤n→POk (pof X) n→Lq n (lin (passL k X)) (lpass (pof X) k (lin X))
 | 0,X,_,_=>fun i _=>⟨Mq.refl _,Mq.refl _⟩
 | k+1,X,hk,hp=>by
  have h1:=lin_passL (n:=n) k (passW X k) (by omega) (by rw [pof_passW];exact hp);rw [pof_passW] at h1;have h2:=lpass_q hp (fun _ _=>rfl) k _ _ (by omega) (lin_passW (X:=X) (k:=k) (by omega) hp);exact fun i hi=>⟨(h1 i hi).1.trans (h2 i hi).1,(h1 i hi).2.trans (h2 i hi).2⟩
theorem passW_other {X:Nat→Nd} {k i:Nat} (h:i≠k) (hp:i≠(X k).p.toNat∨(X k).p < 0):passW X k i=X i:=by
 unfold passW nset;rw [if_neg h];unfold passV;split
 ·rename_i h0
  unfold nset;rw [if_neg (by omega),passU_other X h]
 ·exact passU_other X h
theorem passL_above {n:Nat} : ∀ (k:Nat) (X:Nat→Nd),k≤n→POk (pof X) n→∀ i,k≤i→passL k X i=X i
 | 0,_,_,_,_,_=>rfl
 | k+1,X,hk,hp,i,hi=>by
  have hpk : -1≤(X k).p∧(X k).p < k:=hp k (by omega);show passL k (passW X k) i=X i;rw [passL_above (n:=n) k (passW X k) (by omega) (by rw [pof_passW];exact hp) i (by omega)];exact passW_other (by omega) (by omega)
theorem passW_self (X:Nat→Nd) (k:Nat):(passW X k k).u=0∧(passW X k k).d=0∧(passW X k k).w=(passV X k k).w:=by
 unfold passW nset;rw [if_pos rfl];exact ⟨rfl,rfl,rfl⟩
theorem passV_self {X:Nat→Nd} {k:Nat} (hp:(X k).p < k):(passV X k k).w=us (ua (X k).w (X k).u) (X k).d:=by
 unfold passV;have hu:(passU X k k).w=us (ua (X k).w (X k).u) (X k).d:=by unfold passU nset;rw [if_pos rfl]
 split
 ·unfold nset;rw [if_neg (by omega)];exact hu
 ·exact hu
theorem passL_done {n:Nat} : ∀ (k:Nat) (X:Nat→Nd),k≤n→POk (pof X) n→∀ i,i < k→(passL k X i).u=0∧(passL k X i).d=0∧∃ x,(passL k X i).w=IntKind.u64.wrap x
 | 0,_,_,_,_,h=>by omega
 | k+1,X,hk,hp,i,hi=>by
  have hpk : -1≤(X k).p∧(X k).p < k:=hp k (by omega);rcases Nat.lt_or_ge i k with hl | hl
  ·exact passL_done (n:=n) k (passW X k) (by omega) (by rw [pof_passW];exact hp) i hl
  ·obtain rfl:i=k:=by omega
   show (passL i (passW X i) i).u=0∧(passL i (passW X i) i).d=0∧∃ x,(passL i (passW X i) i).w=_;rw [passL_above (n:=n) i (passW X i) (by omega) (by rw [pof_passW];exact hp) i (Nat.le_refl _)];obtain ⟨h1,h2,h3⟩:=passW_self X i;exact ⟨h1,h2,_,by rw [h3,passV_self hpk.2];rfl⟩
def tw (X:Nat→Nd) (n i:Nat):Int:=(lpass (pof X) n (lin X)).2 i
theorem passL_eq {n:Nat} {X:Nat→Nd} (hp:POk (pof X) n) {i:Nat} (hi:i < n):passL n X i=⟨(X i).r,(X i).p,0,0,IntKind.u64.wrap (tw X n i)⟩:=by
 obtain ⟨h1,h2,x,h3⟩:=passL_done n X (Nat.le_refl _) hp i hi;have h4:=(lin_passL n X (Nat.le_refl _) hp i hi).2;change Mq (passL n X i).w (tw X n i) at h4;rw [h3] at h4;have h5:=mq_eq ((mq_wrap x).symm.trans h4);have e1:=passL_r n X i;have e2:=passL_p n X i;cases hq:passL n X i with
 | mk r p u d w=>
  rw [hq] at h1 h2 h3 e1 e2;simp only at h1 h2 h3 e1 e2;rw [← e1,← e2,h1,h2,h3,h5]
end Go.Proofs.YtndfpmboanohcaaGreatDoor
