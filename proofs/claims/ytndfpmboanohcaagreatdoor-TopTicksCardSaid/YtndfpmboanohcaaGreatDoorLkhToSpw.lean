/- Contract of (*link.Engine).Head. -/
import Derived.Test.YtndfpmboanohcaaGreatDoorLkoToBhd
namespace Go.Proofs.YtndfpmboanohcaaGreatDoor
set_option maxRecDepth 100000
open Go.RowKit Go.Maps SkipPure
noncomputable def stepK (kid:Int→List Int) (may:Int→Prop) (wt:Int→Int) (h:Int):Option Int:=
 if (bestF wt (fl may (kid h))).2.2=true then some (bestF wt (fl may (kid h))).1 else none
section
variable {w:World} {I:Ids} {σ:St} {J:LIds} {t:Lk} {M:Nat}
theorem lptr_some {o:Option Nat} {a:Nat} (h:o=some a):lptr o=.pointer (some ⟨a,0,none⟩):=by rw [h];rfl
theorem cf169 (args:Array Value) (w:World):(callFunc 169 args).run Tryz.prog w=.ok (.enter 169 args) w:=by kernel_rfl
set_option maxHeartbeats 8000000 in
theorem lhead_calls (h:StoreAt w I σ) (hw:StWf σ) (ha:LkAt w J I.p t) (hwf:LWf t M) (hkid : ∀ r,(t.kid r).length≤1000000) {ks:List Int} (hks:Rising σ.F ks) (hkl:ks.length≤1000000) (hS:SortUpTo σ.n) :
  Calls Tryz.prog 168 #[.pointer (some ⟨J.q,0,none⟩)] w fun e w'=>∃ r,e=.returned (.int .u64 r)∧(t.dom σ.jr→HdB (stepK t.kid (MayLead σ.F σ.f ks (srcG σ) σ.je σ.fr (eOf σ.slot σ.S)) (lwt t)) σ.jr r)∧(¬ t.dom σ.jr→r=σ.jr)∧w.grownBy w' none:=by
 have HH:=lh h;have HA:=lh ha;obtain ⟨may,hmay⟩ : ∃ may,may=MayLead σ.F σ.f ks (srcG σ) σ.je σ.fr (eOf σ.slot σ.S):=⟨_,rfl⟩;rw [← hmay];obtain ⟨STEP,hSTEP⟩ : ∃ STEP,STEP=stepK t.kid may (lwt t):=⟨_,rfl⟩;rw [← hSTEP];have HST:=lh hSTEP;clear hSTEP;obtain ⟨rk,hrk⟩:=hwf.rk;have hkd:=hwf.kid;have hjr:=hw.jr;have HW:=lh hw;have HKS:=lh hks;have HSS:=lh hS;have HMAY:=lh hmay;have HRK:=lh hrk;have HKD:=lh hkd;have HKL:=lh hkid;clear hw hks hS hmay hrk hkd hkid;clear h ha;have hG0:=gR w none;have HG:=lh hG0;clear hG0;go_enter Tryz.func168,Tryz.ntmps168
 go_upto_region 1 with (fail)
 have a0:w.drew.cell? ⟨J.q,0,none⟩=some (.pointer (some ⟨I.p,0,none⟩)):=HA.out.blk.at 0;have c3:w.drew.cell? ⟨I.p,3,none⟩=some (.pointer (some ⟨I.tp,0,none⟩)):=HH.out.s3;have hgd:=gdrew (gR w none);replace HH:=lh (HH.out.g hgd);replace HA:=lh (HA.out.g hgd);replace HG:=lh (g2 HG.out hgd);clear hgd
 go_region_held3 (fun w'=>w'.cell? ⟨J.q,0,none⟩=some (.pointer (some ⟨I.p,0,none⟩))∧w'.cell? ⟨I.p,3,none⟩=some (.pointer (some ⟨I.tp,0,none⟩))) (go_keep)
  (first
    | (go_at_call 144
       refine (view_calls HH.out HW.out).mono ?_;rintro e w2 ⟨m,mn,rfl,hm,hg⟩;have d0:=(HA.out.g hg).blk.at 0;have d3:=(HH.out.g hg).s3;replace HH:=lh (HH.out.g hg);replace HA:=lh (HA.out.g hg);replace HG:=lh (g2 HG.out hg);have HM:=lh hm;clear hm hg)
    | (go_at_call 149
       refine (viable_calls HH.out.tree HW.out.tree HM.out HKS.out (by omega) (by have:=HW.out.n;omega) HSS.out HW.out.fr (srcG_bd HW.out)).mono ?_;rintro e w3 ⟨ob,rfl,hob,hol,hg⟩;rw [← HMAY.out] at hob;have e0:=(HA.out.g hg).blk.at 0;have e3:=(HH.out.g hg).s3;replace HH:=lh (HH.out.g hg);replace HA:=lh (HA.out.g hg);replace HG:=lh (g2 HG.out hg);have HOB:=lh hob;clear hob hg))
 clear d0 d3 e0 e3 a0 c3 HM hol;have hall : ∀ wz,w3.grownBy wz none→StoreAt wz I σ∧LkAt wz J I.p t∧BSet wz ob may∧w.grownBy wz none:=fun wz hz=>⟨HH.out.g hz,HA.out.g hz,HOB.out.g hz,g2 HG.out hz⟩;have HALL:=lh hall;obtain ⟨jr,hjr2⟩ : ∃ jr,jr=σ.jr:=⟨_,rfl⟩;rw [← hjr2] at hjr;have HJR:=lh hjr2;clear hall HH HA HOB HG hjr2;obtain ⟨P,hP⟩ : ∃ P,P=lptr (J.ad jr):=⟨_,rfl⟩;have hcell : ∀ wz,w3.grownBy wz none→wz.cell? ⟨J.q,0,none⟩=some (.pointer (some ⟨I.p,0,none⟩))∧wz.cell? ⟨J.q,1,none⟩=some (.map (some J.mb))∧wz.cell? ⟨I.p,8,none⟩=some (.int .u64 jr)∧(Instr.lookup 114 (.map (some J.mb)) (.int .u64 jr) false).run Tryz.prog wz=.ok P wz:=fun wz hz=>by
  obtain ⟨h1,h2,_⟩:=HALL.out wz hz;have h3:=h1.s8;rw [← HJR.out] at h3;have h4:=h2.look hjr;rw [← hP] at h4;exact ⟨h2.blk.at 0,h2.blk.at 1,h3,h4⟩
 have HC:=lh hcell;have HP:=lh hP;clear hcell hP;go_upto_region 2 with (fail)
 refine wp_region_late (fun (wr:World)=>w3.grownBy wr none) [] (by as_aux_lemma=>kernel_rfl) ?_;have hS:(fun wr:World=>w3.grownBy wr none) w3.drew:=gdrew (gR w3 none);generalize w3.drew=w4 at hS ⊢;refine pM 0 ?_;simp only [zz];refine pM 1 ?_;simp only [zz];refine pM 2 ?_;simp only [zz];refine pM 4 ?_;simp only [zz];refine pM 5 ?_;simp only [zz];refine pM 6 ?_;simp only [zz];refine wM 3 ?_ ?_ hS ?_;rotate_left;· intro w hSw;obtain ⟨a0,a1,a8,hlk⟩:=HC.out w hSw;go_simp;try with_reducible rfl
 simp only [zz];refine wM 7 ?_ ?_ hS ?_;rotate_left;· intro w hSw;obtain ⟨a0,a1,a8,hlk⟩:=HC.out w hSw;go_simp;try with_reducible rfl
 simp only [zz];refine pM 8 ?_;simp only [zz];refine pM 9 ?_;simp only [zz];refine pM 10 ?_;simp only [zz];refine wM 11 ?_ ?_ hS ?_;rotate_left;· intro w hSw;obtain ⟨a0,a1,a8,hlk⟩:=HC.out w hSw;go_simp;try with_reducible rfl
 simp only [zz];refine wM 12 ?_ ?_ hS ?_;rotate_left;· intro w hSw;obtain ⟨a0,a1,a8,hlk⟩:=HC.out w hSw;go_simp;try with_reducible rfl
 simp only [zz];refine pM 13 ?_;simp only [zz];refine dM ?_ _;have HG:=lh hS;clear hS;rw [← HJR.out];cases hJ:J.ad jr with
 | none=>
  have hp:=HP.out;rw [hJ] at hp;change P=.pointer none at hp;have hnd:¬ t.dom jr:=fun hd=>by have:=((HALL.out _ HG.out).2.1.dom jr).2 hd;rw [hJ] at this;cases this
  have HND:=lh hnd;subst hp;obtain ⟨a0,a1,a8,_⟩:=HC.out _ HG.out;clear hnd hJ;go_wp2;go_ret;exact ⟨jr,rfl,fun hd=>absurd hd (by rw [← HJR.out];exact HND.out),fun _=>HJR.out,(HALL.out _ HG.out).2.2.2⟩
 | some aj=>
  have hp:=HP.out;rw [hJ] at hp;change P=.pointer (some ⟨aj,0,none⟩) at hp;have hdj:t.dom jr:=((HALL.out _ HG.out).2.1.dom jr).1 (by rw [hJ];rfl);have HDJ:=lh hdj;have HJJ:=lh hJ;clear hdj hJ;subst hp;go_wp2_with fail
  go_loopw [4] (fun v4 wr=>∃ (hd:Int) (a:Nat),v4=.pointer (some ⟨a,0,none⟩)∧J.ad hd=some a∧(∀ r,HdB STEP hd r→HdB STEP jr r)∧w3.grownBy wr none) (fun v4 wr=>lmeas (fun r=>M - rk r) v4 wr)
  case atStart=>exact ⟨jr,aj,rfl,HJJ.out,fun r h=>h,HG.out⟩
  case round=>
   obtain ⟨hd,a,rfl,hJh,hH,hg⟩:=hrel;have HJH:=lh hJh;have HHD:=lh hH;have HG3:=lh hg;clear hJh hH hg;obtain ⟨wo,rfl⟩ : ∃ wo,wo=wr:=⟨_,rfl⟩;obtain ⟨_,v,n1,n2,n3⟩:=(HALL.out wo HG3.out).2.1.node hd a HJH.out;have d0:wo.cell? ⟨a,0,none⟩=some (.int .u64 hd):=Blk.at n1 0;have d2:wo.cell? ⟨a,2,none⟩=some v:=Blk.at n1 2;have hlen:=len_any (P:=Tryz.prog) (t:=152) n2 Tryz.underlying152 3;obtain ⟨xs,hxs⟩ : ∃ xs,xs=t.kid hd:=⟨_,rfl⟩;have hxl:xs.length≤1000000:=by rw [hxs];exact HKL.out hd
   unfold lrow at n2;rw [← hxs] at n2 hlen;have hdd:t.dom hd:=((HALL.out wo HG3.out).2.1.dom hd).1 (by rw [HJH.out];rfl);have hxk : ∀ x∈xs,∃ ax,J.ad x=some ax∧t.par x=hd∧inU x:=fun x hx=>by
    obtain ⟨k1,k2⟩:=HKD.out hd x hdd (by rw [← hxs];exact hx);obtain ⟨ax,hax⟩:=Option.isSome_iff_exists.1 (((HALL.out wo HG3.out).2.1.dom x).2 k1);exact ⟨ax,hax,k2,(HALL.out wo HG3.out).2.1.u x k1⟩
   have HROW:=lh n2;have HXS:=lh hxs;have HXK:=lh hxk;have HDD:=lh hdd;clear n2 hxs hxk hdd;have HN1:=lh n1;clear n1 n3;go_wp2_with fail
   clear hlen;obtain ⟨i0,hi0⟩:=elem_u64;have HI:=lh hi0;clear hi0
   go_loopw [51,5] (fun v51 v5 wr=>∃ j:Nat,v51=.int .i64 (j:Int)∧j≤xs.length∧wr.ownsRow wo.heap.size 27 1 v5 (fl may (xs.take j)).length ((fl may (xs.take j)).map encU)∧wo.grownBy wr none) (fun v51 _ _=>xs.length - (intOf v51).toNat)
   case atStart=>exact ⟨0,rfl,by omega,by simpa [fl] using World.ownsRow_nil wo _ _ _,gR wo none⟩
   case round=>
    obtain ⟨j,rfl,hj,ho,hg1⟩:=hrel;have HO:=lh ho;have HG1:=lh hg1;clear ho hg1;by_cases hlt:j < xs.length
    ·obtain ⟨g,cap,rfl,_,_⟩:=HROW.out.form (by omega);obtain ⟨r,hr⟩ : ∃ r,r=xs.getD j 0:=⟨_,rfl⟩;have hrm:r∈xs:=by rw [hr,List.getD_eq_getElem?_getD,List.getElem?_eq_getElem hlt];exact List.getElem_mem hlt
     obtain ⟨ax,hax,_,hin⟩:=HXK.out r hrm;have hc:wr.cell? ⟨g,j,none⟩=some (.pointer (some ⟨ax,0,none⟩)):=by
      have h1:=(ownsRow_g HROW.out HG1.out).cells (g:=g) rfl j (lptr (J.ad r)) (by rw [List.getElem?_map,List.getElem?_eq_getElem hlt,hr,List.getD_eq_getElem?_getD,List.getElem?_eq_getElem hlt];rfl);have e:(⟨g,0,none⟩:Addr).add j=⟨g,j,none⟩:=by unfold Addr.add;split <;> simp_all
      rw [e,lptr_some hax] at h1;exact h1
     obtain ⟨_,vx,q1,_⟩:=(HALL.out _ (g2 HG3.out HG1.out)).2.1.node r ax hax;have x0:wr.cell? ⟨ax,0,none⟩=some (.int .u64 r):=Blk.at q1 0;clear q1 hax;have ht:=fl_take may xs hlt;rw [← hr] at ht;obtain ⟨Bm,hBm⟩ : ∃ Bm:Bool,Bm=true↔may r:=⟨@decide (may r) (Classical.propDecidable _),by simp⟩;have hlk:=(HALL.out _ (g2 HG3.out HG1.out)).2.2.1.has hin (mt:=75) Tryz.underlying75 Bm hBm;have hfl:(fl may (xs.take j)).length≤1000000:=Nat.le_trans (fl_len _ _) (by simp;omega);have HT:=lh ht;clear hr hrm ht;cases Bm with
     | false=>
      have hm:¬ may r:=fun h=>by simpa using hBm.2 h
      have HM:=lh hm;clear hm hBm;go_wp2;exact ⟨⟨j+1,by simp,by omega,by rw [HT.out,if_neg HM.out,List.append_nil];exact HO.out,HG1.out⟩,by simp [intOf];omega⟩
     | true=>
      have hm:may r:=hBm.1 rfl;have HM:=lh hm;clear hm hBm;rcases HO.out.two with hv5 | ⟨g5,c5,hv5⟩;all_goals
       subst hv5;go_wp2_with (at_builtin;refine wpList_append_lies _ rfl _ _ 34 rfl wo.heap.size 27 i0 (.int .u64 0) 1 8 Tryz.underlying34 HI.out.1 HI.out.2.1 HI.out.2.2.1 HI.out.2.2.2 rfl (by decide) _ (fl may (xs.take j)).length ((fl may (xs.take j)).map encU) rfl (HO.out.alloc _) ⟨wr.heap.size,0,none⟩ 1 1 [.int .u64 r] rfl rfl (World.news_of_block (MapKept.heap_alloc _ _).1) (by simp [Value.oneCell']) (by decide) (by unfold maxLen;omega) (by omega) (by have:=HG1.out.size;simp;omega) _ rfl ?_;intro g6 c6 w6 h6 hg6 hat6 hlt6;have H6:=lh h6;have HG6:=lh hg6;clear h6 hg6 hat6)
       refine ⟨⟨j+1,by simp,by omega,?_,(g2 HG1.out (World.grownBy_alloc wr _ none)).andThen HG6.out (fun k e=>Or.inl (HO.out.lt k e).1)⟩,by simp [intOf];omega⟩;rw [HT.out,if_pos HM.out];have:=H6.out
       simpa using this
    ·obtain rfl:j=xs.length:=by omega
     have ho:=HO.out;rw [List.take_length] at ho;replace HO:=lh ho;clear ho hj hlt;have HG5:=lh (g2 HG3.out HG1.out);have HN5:=lh (Blk.g HN1.out HG1.out);clear HG1;have hfl:(fl may xs).length≤1000000:=Nat.le_trans (fl_len _ _) hxl;go_wp2_with fail
     refine (best_calls HO.out hfl cf169 (lwt t) (fun W hW r hr=>lweight_calls (HALL.out W (g2 HG5.out hW)).2.1 (by obtain ⟨_,_,_,h⟩:=HXK.out r (fl_sub hr);exact h))).mono ?_;rintro e w5 ⟨rfl,hg⟩;replace HG5:=lh (g2 HG5.out hg);replace HN5:=lh (Blk.g HN5.out hg);obtain ⟨B,hB⟩ : ∃ B,B=bestF (lwt t) (fl may xs):=⟨_,rfl⟩;have hstep:STEP hd=if B.2.2=true then some B.1 else none:=by rw [HST.out];unfold stepK;rw [← HXS.out,← hB]
     have hmem:B.2.2=true→B.1∈xs:=fun h=>by rw [hB] at h ⊢;exact fl_sub (bestF_mem h)
     rw [← hB];have HSTEP:=lh hstep;have HMEM:=lh hmem;clear hstep hmem;clear hg hB hfl HO;obtain ⟨k,m,ok⟩:=B;simp only;have d0:w5.cell? ⟨a,0,none⟩=some (.int .u64 hd):=Blk.at HN5.out 0;cases ok with
     | false=>
      have hst:=HSTEP.out;simp only at hst;rw [if_neg (by simp)] at hst;have HF:=lh (HHD.out hd (.stop hst));clear hst;go_wp2;go_ret;exact ⟨hd,rfl,fun _=>by rw [← HJR.out];exact HF.out,fun hn=>absurd HDJ.out (by rw [HJR.out];exact hn),(HALL.out w5 HG5.out).2.2.2⟩
     | true=>
      have hst:=HSTEP.out;simp only at hst;rw [if_pos trivial] at hst;have hk:=HMEM.out rfl;simp only at hk;obtain ⟨ak,hak,hpk,hkin⟩:=HXK.out k hk;have hl5:=(HALL.out w5 HG5.out).2.1;have hdk:t.dom k:=(hl5.dom k).1 (by rw [hak];rfl);have hrkk:=HRK.out k hdk;have hlt:rk hd < rk k:=by
       rcases hrkk.2 with h1 | ⟨_,h1⟩
       ·rw [hpk] at h1;exact absurd (by rw [← h1];exact HDD.out) hl5.z
       ·rw [hpk] at h1;exact h1
      have hlk:=hl5.look hkin;rw [lptr_some hak] at hlk;have a1:w5.cell? ⟨J.q,1,none⟩=some (.map (some J.mb)):=hl5.blk.at 1;obtain ⟨_,vk,q1,_⟩:=hl5.node k ak hak;have e0:w5.cell? ⟨ak,0,none⟩=some (.int .u64 k):=Blk.at q1 0;have hms:lmeas (fun r=>M - rk r) (.pointer (some ⟨ak,0,none⟩)) w5 < lmeas (fun r=>M - rk r) (.pointer (some ⟨a,0,none⟩)) wo:=by
       rw [lmeas_at e0,lmeas_at (Blk.at HN1.out 0)];have:=hrkk.1;show M - rk k+1 < M - rk hd+1;omega
      have HNX:=lh (And.intro (fun r (h:HdB STEP k r)=>HHD.out r (.next hst h)) (And.intro hak hms));clear hst hk hak hpk hl5 hdk hrkk hlt q1 e0 hms;go_wp2;exact ⟨⟨k,ak,rfl,HNX.out.2.1,HNX.out.1,HG5.out⟩,HNX.out.2.2⟩
end
theorem HdB.inU {step:Int→Option Int} {h r:Int} (a:HdB step h r) (hh:inU h) (hs : ∀ h k,step h=some k→inU k):inU r:=by
 induction a with
 | stop _=>exact hh
 | next e _ ih=>exact ih (hs _ _ e)
theorem stepB_inU {F:Int→Option (Int×Int×Int)} {f:Int} {ks:List Int} {may:Int→Prop} {wt:Int→Int} (hk:Rising F ks) (h k:Int) (e:stepB F f ks may wt h=some k):inU k:=by
 unfold stepB at e;split at e
 ·rename_i hb
  obtain rfl:=Option.some.inj e;have hm:=fl_sub (bestF_mem hb);exact hk.2.1 _ (List.mem_filter.1 hm).1
 ·cases e
def HdK (wt:Int→Int) (σ:St) (ks:List Int) (r:Int):Prop:=HdB (stepB σ.F σ.f ks (MayLead σ.F σ.f ks (srcG σ) σ.je σ.fr (eOf σ.slot σ.S)) wt) σ.jr r
def wsum (bs:List Int) (V:Nat→Ent) (F:Int→Option (Int×Int×Int)) (f root:Int):Nat→Int
 | 0=>0
 | k+1=>wsum bs V F f root k+(if ((V k).h && !(V k).b && belowT F f (V k).r root)=true then bs.getD k 0 else 0)
def wofF (bs:List Int) (S B:Int) (V:Nat→Ent) (F:Int→Option (Int×Int×Int)) (f bo root:Int):Int:=
 wsum bs V F f root bs.length+(if belowT F f bo root=true then boostF bs S B else 0)
theorem one_sum (bs:List Int) (w:World) (j:Nat):Ints .i64 (w.alloc (.cells #[.int .i64 (j:Int)] 3)) (some ⟨w.heap.size,0,none⟩) [(j:Int)]∧w.grownBy (w.alloc (.cells #[.int .i64 (j:Int)] 3)) none∧(j < bs.length→sumF bs [(j:Int)]=bs.getD j 0):=by
 obtain ⟨k1,_,hg⟩:=alloc1 w #[.int .i64 (j:Int)] 3;refine ⟨fun i hi=>?_,hg,fun h=>by simp [sumF,h]⟩;have : i=0:=by simpa using hi
 subst this;exact ⟨_,rfl,k1.at 0⟩
theorem wf_nat (j:Nat) (h:j≤4096) : ∀ i,i < [(j:Int)].length→(Lit.int .i64 ([(j:Int)].getD i 0)).wf=true:=fun i hi=>by
 obtain rfl:i=0:=by simpa using hi
 simp [Lit.wf,IntKind.min,IntKind.max,IntKind.signed,IntKind.bits];omega
theorem wsum_bd {bs:List Int} {V:Nat→Ent} {F:Int→Option (Int×Int×Int)} {f root:Int} (hb : ∀ i,i < bs.length→0≤bs.getD i 0∧bs.getD i 0≤4294967296) : ∀ k,k≤bs.length→0≤wsum bs V F f root k∧wsum bs V F f root k≤k * 4294967296
 | 0,_=>by simp [wsum]
 | k+1,h=>by
  have ih:=wsum_bd (V:=V) (F:=F) (f:=f) (root:=root) hb k (by omega);have h2:=hb k (by omega);unfold wsum;split <;> omega
theorem boost_bd2 {bs:List Int} {S B:Int} (hm:MayBe bs S B):0≤boostF bs S B∧boostF bs S B≤17592186044416:=by
 have ht:=totF_bound hm.bal;have hl:=hm.l2;have hS:=hm.s1;have hB0:=hm.b1;have hB1:=hm.b2;unfold boostF;obtain ⟨t,htt⟩ : ∃ t,t=totF bs:=⟨_,rfl⟩;rw [← htt] at ht ⊢;have h1:0≤t / S:=Int.ediv_nonneg ht.1 (by omega);have h2:t / S≤t:=Int.ediv_le_self _ ht.1;have h3:t≤17592186044416:=by omega
 have h4:0≤t / S * B:=Int.mul_nonneg h1 hB0;have h5:t / S * B≤17592186044416 * 100:=Int.mul_le_mul (by omega) hB1 hB0 (by omega);omega
section
variable {w:World} {p b n g:Nat} {f:Int} {F:Int→Option (Int×Int×Int)} {bs:List Int} {S B:Int} {ad:Option Addr} {c:Nat} {V:Nat→Ent}
set_option maxHeartbeats 4000000 in
theorem wof_calls (h:TreeAt w p b n f F) (W:WellT f F) (hb:Ints .u64 w ad bs) (hm:MayBe bs S B) (hv:VAt w g bs.length V) (hV : ∀ i,i < bs.length→inU (V i).r) {bo root:Int} (hbo:inU bo) (hr:inU root) :
  Calls Tryz.prog 152 #[cfgV ad bs.length c S B,.pointer (some ⟨p,0,none⟩),.slice (some ⟨g,0,none⟩) bs.length bs.length,.int .u64 bo,.int .u64 root] w fun e w'=>e=.returned (.int .u64 (wofF bs S B V F f bo root))∧w.grownBy w' none:=by
 have HT:=lh h;have hbd:=fun k hk=>wsum_bd (V:=V) (F:=F) (f:=f) (root:=root) hm.bal k hk;have HB:=lh hb;have HV:=lh hv;have HVU:=lh hV;have HM:=lh hm;have HW:=lh W;clear hb hv hV hm W;have hl2:=HM.out.l2;obtain ⟨N,hN⟩ : ∃ N,N=bs.length:=⟨_,rfl⟩;have HBL:=lh hN;obtain ⟨R,hR⟩ : ∃ R,R=wofF bs S B V F f bo root:=⟨_,rfl⟩;rw [← hR];unfold wofF at hR;unfold cfgV;rw [← hN] at hl2 hbd hR ⊢;have HR:=lh hR;clear h hN hR;go_enter Tryz.func152,Tryz.ntmps152
 go_upto_region 2 with (fail)
 refine nmC1 ?_;intro W b0 hz hg;obtain ⟨q,hq_q⟩ : ∃ q,q=w.heap.size:=⟨_,rfl⟩;rw [← hq_q] at b0 hz ⊢;have HQ_q:=lh hq_q;clear hq_q;have HQ:=lh b0;have HG:=lh hg;clear b0 hg;go_wp2_with fail
 go_loopw [17,11] (fun v17 v11 wr=>∃ j:Nat,v17=.int .i64 (j:Int)∧j≤N∧v11=.int .u64 (wsum bs V F f root j)∧W.grownBy wr none) (fun v17 _ _=>N - (intOf v17).toNat)
 case atStart=>exact ⟨0,rfl,by omega,rfl,gR W none⟩
 case round=>
  obtain ⟨j,rfl,hj,rfl,hg1⟩:=hrel;have HG1:=lh hg1;clear hg1;by_cases hlt:j < N
  ·have hv:=HV.out;have hvu:=HVU.out;have hn:=HBL.out;rw [← hn] at hv hvu;have hget:=get_in (i:=j) (hv.kept (g2 HG.out HG1.out) (by simp)) (by omega) (by omega);replace hvu:=hvu j (by omega);have hd1:=hbd j (by omega);have hd2:=hbd (j+1) (by omega);have hnx:wsum bs V F f root (j+1)=wsum bs V F f root j+(if ((V j).h && !(V j).b && belowT F f (V j).r root)=true then bs.getD j 0 else 0):=rfl;rw [hnx] at hd2;obtain ⟨s,hs⟩ : ∃ s,s=wsum bs V F f root j:=⟨_,rfl⟩;obtain ⟨x,hx⟩ : ∃ x,x=(if ((V j).h && !(V j).b && belowT F f (V j).r root)=true then bs.getD j 0 else 0):=⟨_,rfl⟩;rw [← hs] at hnx hd1 hd2 ⊢;rw [← hx] at hnx hd2;obtain ⟨vr,hvr⟩ : ∃ vr,vr=(V j).r:=⟨_,rfl⟩;rw [← hvr] at hget hvu hx;obtain ⟨has,hhas⟩ : ∃ has,has=((V j).h && !(V j).b):=⟨_,rfl⟩;rw [← hhas] at hget hx;have HNX:=lh hnx;have HX:=lh hx;have HGET:=lh hget;clear hnx hx hget;clear hs hvr hhas hbd hv hn;cases has with
   | false=>
    have hx:=HX.out;rw [Bool.false_and,if_neg (by simp)] at hx;subst hx;go_wp2_with fail
    refine HGET.out.mono ?_;rintro e w2 ⟨rfl,rfl⟩;go_wp2;exact ⟨⟨j+1,by simp,by omega,by rw [HNX.out,Int.add_zero],HG1.out⟩,by simp [intOf];omega⟩
   | true=>
    go_wp2_with fail
    refine HGET.out.mono ?_;rintro e w2 ⟨rfl,rfl⟩;go_wp2_with fail
    refine (tbelow_calls (HT.out.kept (g2 HG.out HG1.out) (by simp)) HW.out hvu hr).mono ?_;rintro e w3 ⟨rfl,hg⟩;obtain ⟨BT,hBT⟩ : ∃ BT,BT=belowT F f vr root:=⟨_,rfl⟩;have hx:=HX.out;rw [← hBT] at hx ⊢;replace HX:=lh hx;replace HG1:=lh (g2 HG1.out hg);clear hx hg hBT HGET;cases BT with
    | false=>
     have hx:=HX.out;rw [Bool.and_false,if_neg (by simp)] at hx;subst hx;go_wp2;exact ⟨⟨j+1,by simp,by omega,by rw [HNX.out,Int.add_zero],HG1.out⟩,by simp [intOf];omega⟩
    | true=>
     have hx:=HX.out;rw [Bool.and_true,if_pos rfl] at hx;replace HX:=lh hx;clear hx;obtain ⟨c0,c1,c2⟩:=(HQ.out.g HG1.out).c3;go_wp2_with fail
     obtain ⟨hi,hga,hsum⟩:=one_sum bs w3 j;have hn:=HBL.out;refine (sum_calls (ks:=[(j:Int)]) ((HB.out.kept (g2 HG.out HG1.out)).kept hga) hn hi rfl HM.out.bal (by simp) (wf_nat j (by omega))).mono ?_;rintro e w4 ⟨rfl,hg4⟩;have hsm:sumF bs [(j:Int)]=x:=by rw [hsum (by omega),HX.out]
     rw [hsm];replace HG1:=lh (g2 HG1.out (g2 hga hg4));clear hi hga hsum hn hg4 hsm c0 c1 c2;have hw:(s+x) % 18446744073709551616=s+x:=Int.emod_eq_of_lt (by omega) (by omega);go_wp2;exact ⟨⟨j+1,by simp,by omega,by rw [HNX.out],HG1.out⟩,by simp [intOf];omega⟩
  ·have hje:j=N:=by omega
   have hd1:=hbd N (by omega);subst hje;obtain ⟨s,hs⟩ : ∃ s,s=wsum bs V F f root j:=⟨_,rfl⟩;have hr3:=HR.out;rw [← hs] at hd1 hr3 ⊢;obtain ⟨BT,hBT⟩ : ∃ BT,BT=belowT F f bo root:=⟨_,rfl⟩;rw [← hBT] at hr3;have HBT:=lh hBT;replace HR:=lh hr3;clear hBT hs hbd hlt hj hr3;go_wp2_with fail
   refine (tbelow_calls (HT.out.kept (g2 HG.out HG1.out) (by simp)) HW.out hbo hr).mono ?_;rintro e w3 ⟨rfl,hg⟩;rw [← HBT.out];replace HG1:=lh (g2 HG1.out hg);clear hg HBT;cases BT with
   | false=>
    go_wp2;go_ret;have hr4:=HR.out;rw [if_neg (by simp),Int.add_zero] at hr4;exact ⟨by rw [hr4];rfl,g2 HG.out HG1.out⟩
   | true=>
    obtain ⟨c0,c1,c2⟩:=(HQ.out.g HG1.out).c3;go_wp2_with fail
    have hn:=HBL.out;refine (boost_calls (HB.out.kept (g2 HG.out HG1.out)) hn HM.out).mono ?_;rintro e w4 ⟨rfl,hg4⟩;obtain ⟨y,hy⟩ : ∃ y,y=boostF bs S B:=⟨_,rfl⟩;have hb2:=boost_bd2 HM.out;have hr3:=HR.out;rw [← hy,if_pos trivial] at hr3;rw [← hy] at hb2 ⊢;replace HR:=lh hr3;replace HG1:=lh (g2 HG1.out hg4);clear hy hg4 hn c0 c1 c2 hr3;go_wp2;go_ret;exact ⟨by rw [HR.out];rfl,g2 HG.out HG1.out⟩
end
def SpAt (w:World) (q p:Nat):Prop:=Blk w q #[.pointer (some ⟨p,0,none⟩)] 104
def spW (σ:St) (root:Int):Int:=wofF σ.bs σ.S σ.B σ.V σ.F σ.f σ.boosted root
section
variable {w:World} {I:Ids} {σ:St} {q:Nat}
set_option maxHeartbeats 4000000 in
theorem sweight_calls (h:StoreAt w I σ) (hw:StWf σ) (ha:SpAt w q I.p) {root:Int} (hr:inU root) :
  Calls Tryz.prog 148 #[.pointer (some ⟨q,0,none⟩),.int .u64 root] w fun e w'=>e=.returned (.int .u64 (spW σ root))∧w.grownBy w' none:=by
 have HH:=lh h;have HA:=lh ha;have HW:=lh hw;obtain ⟨R,hR⟩ : ∃ R,R=spW σ root:=⟨_,rfl⟩;rw [← hR];have HR:=lh hR;have hbl:=hw.may.l2;clear h ha hw hR;go_enter Tryz.func148,Tryz.ntmps148
 go_upto_region 1 with (fail)
 have TK:=lh fun w (hSw:(fun wr=>StoreAt wr I σ∧SpAt wr q I.p) w)=>And.intro (show w.cell? ⟨q,0,none⟩=some (.pointer (some ⟨I.p,0,none⟩)) from Blk.at hSw.2 0) <| And.intro hSw.1.s0 <| And.intro hSw.1.s1 <| And.intro hSw.1.s2 <| And.intro hSw.1.s3 <| And.intro hSw.1.s4 <| hSw.1.s6
 refine wp_region_late (fun wr=>StoreAt wr I σ∧SpAt wr q I.p) [] (by as_aux_lemma=>kernel_rfl) ?_;have hgd:=gdrew (gR w none);have HG:=lh hgd;have hS:(fun wr=>StoreAt wr I σ∧SpAt wr q I.p) w.drew:=⟨HH.out.g hgd,Blk.g HA.out hgd⟩;clear hgd HH HA;generalize w.drew=w2 at HG hS ⊢;refine pM 0 ?_;simp only [zz];refine pM 1 ?_;simp only [zz];refine pM 2 ?_;simp only [zz];refine pM 7 ?_;simp only [zz];refine pM 8 ?_;simp only [zz];refine pM 9 ?_;simp only [zz];refine pM 14 ?_;simp only [zz];refine pM 15 ?_;simp only [zz];refine pM 16 ?_;simp only [zz];refine pM 21 ?_;simp only [zz];refine pM 22 ?_;simp only [zz];refine pM 23 ?_;simp only [zz];refine pM 28 ?_;simp only [zz];refine tM 3 ?_;simp only [zz];refine pM 4 ?_;simp only [zz];refine pM 5 ?_;simp only [zz];refine tM 6 ?_;simp only [zz];refine tM 10 ?_;simp only [zz];refine pM 11 ?_;simp only [zz];refine pM 12 ?_;simp only [zz];refine tM 13 ?_;simp only [zz];refine tM 17 ?_;simp only [zz];refine pM 18 ?_;simp only [zz];refine pM 19 ?_;simp only [zz];refine tM 20 ?_;simp only [zz];refine tM 24 ?_;simp only [zz];refine pM 25 ?_;simp only [zz];refine pM 26 ?_;simp only [zz];refine tM 27 ?_;simp only [zz];refine rM 29 fun K hK=>?_;go_simp;refine (wof_calls hS.1.tree HW.out.tree hS.1.bal HW.out.may hS.1.votes (fun i hi=>(HW.out.vr i hi).1) HW.out.bo hr).mono ?_;rintro e w3 ⟨rfl,hg⟩;have hS2:(fun wr=>_) w3:=And.intro (hS.1.g hg) (Blk.g hS.2 hg);replace HG:=lh (g2 HG.out hg);have hr2:=HR.out;unfold spW at hr2;rw [← hr2];clear hg hr2;refine hK.out _ _ (.inl (fun _=>hS2)) ?_;replace hS:=hS2;clear hK K hS2;try simp only [zz]
 refine pM 30 ?_;simp only [zz];refine dM ?_ _;go_wp2;go_ret;exact ⟨rfl,HG.out⟩
end
end Go.Proofs.YtndfpmboanohcaaGreatDoor
