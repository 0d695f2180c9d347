/- Contracts of link.Of, and of replay.Of at its kind. -/
import Derived.Test.YtndfpmboanohcaaGreatDoorLkcToLka
namespace Go.Proofs.YtndfpmboanohcaaGreatDoor
set_option maxRecDepth 100000
open Go.RowKit Go.Maps SkipPure
def lk0:Lk:={ dom:=fun r=>r=1,par:=fun _=>0,kid:=fun _=>[],wt:=fun _=>0,b:=0 }
section
variable {w:World} {bs:List Int} {S B:Int} {ad:Option Addr} {c:Nat}
set_option maxHeartbeats 4000000 in
theorem lof_calls (hb:Ints .u64 w ad bs) (hm:MayBe bs S B) :
  Calls Tryz.prog 24 #[cfgV ad bs.length c S B] w fun e w'=>∃ I J,e=.returned (.tuple #[.pointer (some ⟨J.q,0,none⟩),.nilIface])∧StoreAt w' I (st0 bs S B)∧LkAt w' J I.p lk0∧I.ex=LOwn J∧w.grownBy w' none∧(∀ i,Far I i→w.heap.size≤i):=by
 have HB:=lh hb;have HM:=lh hm;clear hb hm;unfold cfgV;go_enter Tryz.func24,Tryz.ntmps24
 go_upto_region 1 with (fail)
 refine nmC1 ?_;intro W b0 hz hg;obtain ⟨q,hq_q⟩ : ∃ q,q=w.heap.size:=⟨_,rfl⟩;rw [← hq_q] at b0 hz ⊢;have HQ_q:=lh hq_q;clear hq_q;have HQ:=lh b0;have HG:=lh hg;clear b0 hg;replace HB:=lh (Ints.kept HB.out HG.out);obtain ⟨c0,c1,c2⟩:=HQ.out.c3;go_wp2_with fail
 refine (sof_calls HB.out HM.out).mono ?_;rintro e w1 ⟨I,rfl,hst,hch,hex,hmu,hg⟩;have hwW:=HG.out.size;replace HG:=lh (g2 HG.out hg);clear hg c0 c1 c2 HB HQ hch;have hmu2 : ∀ i,Mut I i→w.heap.size≤i:=fun i hi=>Nat.le_trans hwW (hmu i hi);have HH:=lh hst;have HEX:=lh hex;have HMU:=lh hmu2;clear hst hex hmu2;clear hmu hwW;have hmm:=@run_makeMap Tryz.prog;have r1:=RawMap.made Tryz.prog 27 w1;have g1:=World.grownBy_alloc w1 (Obj.map #[] 0) none;have z1:(w1.alloc (Obj.map #[] 0)).heap.size=w1.heap.size+1:=by simp
 obtain ⟨k1,hz1,hg1⟩:=alloc1 (w1.alloc (Obj.map #[] 0)) #[.int .u64 1,.pointer none,.slice none 0 0,.int .u64 0] 154;rw [z1] at k1 hz1;have r2:=r1.kept hg1 (by simp);have HR:=lh (And.intro k1 (And.intro r2 (And.intro hz1 (g2 g1 hg1))));clear r1 r2 g1 z1 k1 hz1 hg1;go_wp2_with (refine wpList_store_any HR.out.2.1 rfl _ _ _ 114 (.inr rfl) Tryz.underlying27 Tryz.underlying114 (by unfold maxLen;omega) (k:=1) (by unfold inU;omega) (.pointer (some ⟨w1.heap.size+1,0,none⟩)) (by rfl) (by rfl) (by first | rfl | simp) ?_;intro w3 hm3 hg3;have HM3:=lh hm3;have HG3:=lh hg3;clear hm3 hg3)
 go_ret2;obtain ⟨n1,_,nz,ng⟩:=HR.out;have hw13:w1.grownBy w3 none:=gnew ng HG3.out (Nat.le_refl _);have hz3:w1.heap.size+2≤w3.heap.size:=by have:=HG3.out.size;omega
 obtain ⟨k1,hz1,hg1⟩:=alloc1 w3 #[.pointer (some ⟨I.p,0,none⟩),.map (some w1.heap.size),.int .u64 0] 116;have hl1:0 < bs.length:=by have:=HM.out.l1;omega
 have hsz:=HG.out.size;obtain ⟨J,hJ⟩ : ∃ J:LIds,J=⟨w3.heap.size,w1.heap.size,fun r=>if r=1 then some (w1.heap.size+1) else none,fun i=>i=w1.heap.size+1⟩:=⟨_,rfl⟩;have hown : ∀ i,LOwn J i→w1.heap.size≤i∧i < w3.heap.size+1:=fun i hi=>by
  rw [hJ] at hi;rcases hi with e | e | e
  ·have e2:i=w3.heap.size:=e;omega
  ·have e2:i=w1.heap.size:=e;omega
  ·have e2:i=w1.heap.size+1:=e;omega
 have hst:=HH.out.reex (I:=I) hl1 (Chg.of (g2 hw13 hg1)) (LOwn J) (fun i hi=>.inr (hown i hi).1) (fun i hi=>by rw [hz1];exact (hown i hi).2);refine ⟨{ I with ex:=LOwn J },J,by rw [hJ];rfl,hst,?_,rfl,g2 HG.out (g2 hw13 hg1),fun i hi=>hi.elim (HMU.out i) (fun h=>Nat.le_trans hsz (hown i h).1)⟩;have hnode:=(n1.kept HG3.out (by simp)).g hg1;have hmap:=HM3.out.kept hg1 (by simp);rw [hJ];refine ⟨k1,⟨1,[1],?_,by simp,rfl,fun k hk=>by simp at hk;subst hk;rfl⟩,fun r=>?_,fun r a ha=>?_,fun i hi=>?_,by show w3.heap.size≠w1.heap.size;omega,by show ¬ (0:Int)=1;omega,fun r hr=>?_⟩
 ·have e:upd (fun _=>none) 1 (.pointer (some ⟨w1.heap.size+1,0,none⟩))=lmap (fun r=>if r=1 then some (w1.heap.size+1) else none):=by
   funext y;unfold upd lmap;by_cases e:y=1 <;> simp [e]
  rw [← e];exact hmap
 ·show (if r=1 then some (w1.heap.size+1) else none).isSome=true↔r=1;by_cases e:r=1 <;> simp [e]
 ·have ha2:(if r=1 then some (w1.heap.size+1) else none)=some a:=ha;by_cases e:r=1
  ·rw [if_pos e] at ha2;obtain rfl:=Option.some.inj ha2;subst e;exact ⟨rfl,.slice none 0 0,hnode,World.ownsRow_nil _ _ _ _,fun b hb=>(by cases hb),fun _=>rfl⟩
  ·rw [if_neg e] at ha2;cases ha2
 ·have e2:i=w1.heap.size+1:=hi;exact ⟨by rw [hz1];omega,by show i≠w3.heap.size;omega,by show i≠w1.heap.size;omega⟩
 ·have e2:r=1:=hr;rw [e2];unfold inU;omega
set_option maxHeartbeats 2000000 in
theorem rof_link (hb:Ints .u64 w ad bs) (hm:MayBe bs S B) :
  Calls Tryz.prog 15 #[.int .i64 2,cfgV ad bs.length c S B] w fun e w'=>∃ I J,e=.returned (.tuple #[.iface 111 (.pointer (some ⟨J.q,0,none⟩)),.pointer (some ⟨I.p,0,none⟩),.nilIface])∧StoreAt w' I (st0 bs S B)∧LkAt w' J I.p lk0∧I.ex=LOwn J∧w.grownBy w' none ∧
   (∀ i,Far I i→w.heap.size≤i):=by
 have HB:=lh hb;have HM:=lh hm;clear hb hm;unfold cfgV;go_enter Tryz.func15,Tryz.ntmps15
 go_upto_region 1 with (fail)
 refine nmC1 ?_;intro W b0 hz hg;obtain ⟨q,hq_q⟩ : ∃ q,q=w.heap.size:=⟨_,rfl⟩;rw [← hq_q] at b0 hz ⊢;have HQ_q:=lh hq_q;clear hq_q;have HQ:=lh b0;have HG:=lh hg;clear b0 hg;replace HB:=lh (Ints.kept HB.out HG.out);obtain ⟨c0,c1,c2⟩:=HQ.out.c3;go_wp2_with fail
 refine (lof_calls HB.out HM.out).mono ?_;rintro e w1 ⟨I,J,rfl,hst,ha,hex,hg,hm1⟩;have hwW:=HG.out.size;replace HG:=lh (g2 HG.out hg);have h1 : ∀ i,Far I i→w.heap.size≤i:=fun i hi=>Nat.le_trans hwW (hm1 i hi);clear hg c0 c1 c2 HB HQ hwW hm1;have HH:=lh hst;have HA:=lh ha;have HEX:=lh hex;have HM1:=lh h1;clear hst ha hex h1;have a0:w1.cell? ⟨J.q,0,none⟩=some (.pointer (some ⟨I.p,0,none⟩)):=HA.out.blk.at 0;go_wp2_with fail
 go_quiet (fail)
 have hgd:w1.grownBy (w1.drewN nq) none:=drewN_grown w1 nq;replace HH:=lh (HH.out.g hgd);replace HA:=lh (HA.out.g hgd);replace HG:=lh (g2 HG.out hgd);clear hgd a0;generalize w1.drewN nq=w2 at HH HA HG ⊢;go_wp2;go_ret3;exact ⟨I,J,rfl,HH.out,HA.out,HEX.out,HG.out,HM1.out⟩
end
def bstep (wt:Int→Int) (s:Int×Int×Bool) (r:Int):Int×Int×Bool:=
 if !s.2.2 || decide (s.2.1 < wt r) || (wt r == s.2.1 && decide (s.1 < r)) then (r,wt r,true) else s
def bestF (wt:Int→Int) (rs:List Int):Int×Int×Bool:=rs.foldl (bstep wt) (0,0,false)
theorem bestF_take (wt:Int→Int) (rs:List Int) {j:Nat} (h:j < rs.length):bestF wt (rs.take (j+1))=bstep wt (bestF wt (rs.take j)) (rs.getD j 0):=by
 unfold bestF;rw [List.take_add_one,List.foldl_append];simp [List.getElem?_eq_getElem h,List.getD_eq_getElem?_getD]
section
variable {w:World}
set_option maxHeartbeats 2000000 in
theorem best_calls {base:Nat} {v:Value} {rs:List Int} (hv:w.ownsRow base 27 1 v rs.length (rs.map encU)) (hl:rs.length≤1000000) {q fn:Nat} (hcf : ∀ args w,(callFunc fn args).run Tryz.prog w=.ok (.enter fn args) w) (wt:Int→Int)
  (hw : ∀ W,w.grownBy W none→∀ r,r∈rs→Calls Tryz.prog fn #[.pointer (some ⟨q,0,none⟩),.int .u64 r] W fun e W'=>e=.returned (.int .u64 (wt r))∧W.grownBy W' none) :
  Calls Tryz.prog 151 #[.func (.func fn) #[.pointer (some ⟨q,0,none⟩)] #[],v] w fun e w'=>e=.returned (.tuple #[.int .u64 (bestF wt rs).1,.bool (bestF wt rs).2.2])∧w.grownBy w' none:=by
 have HV:=lh hv;have HW:=lh hw;have hlen:=len_any (P:=Tryz.prog) (t:=34) hv Tryz.underlying34 3;clear hw;go_enter Tryz.func151,Tryz.ntmps151
 go_wp2_with fail
 clear hlen
 go_loopw [14,6,7,8] (fun v14 v6 v7 v8 wr=>∃ (j:Nat),v14=.int .i64 (j:Int)∧j≤rs.length∧v6=.int .u64 (bestF wt (rs.take j)).1∧v7=.int .u64 (bestF wt (rs.take j)).2.1∧v8=.bool (bestF wt (rs.take j)).2.2∧w.grownBy wr none) (fun v14 _ _ _ _=>rs.length - (intOf v14).toNat)
 case atStart=>exact ⟨0,rfl,by omega,rfl,rfl,rfl,gR w none⟩
 case round=>
  obtain ⟨j,rfl,hj,rfl,rfl,rfl,hg⟩:=hrel;have HG:=lh hg;clear hg;by_cases hlt:j < rs.length
  ·obtain ⟨g,c,rfl,_,_⟩:=hv.form (by omega);obtain ⟨r,hr⟩ : ∃ r,r=rs.getD j 0:=⟨_,rfl⟩;have hrm:r∈rs:=by rw [hr,List.getD_eq_getElem?_getD,List.getElem?_eq_getElem hlt];exact List.getElem_mem hlt
   have c0:wr.cell? ⟨g,j,none⟩=some (.int .u64 r):=by
    have h1:=(HV.out.kept HG.out (.inr (by simp [Value.ownBlock]))).cells (g:=g) rfl j (encU r) (by rw [List.getElem?_map,List.getElem?_eq_getElem hlt,hr,List.getD_eq_getElem?_getD,List.getElem?_eq_getElem hlt];rfl);have e:(⟨g,0,none⟩:Addr).add j=⟨g,j,none⟩:=by unfold Addr.add;split <;> simp_all
    rw [e] at h1;exact h1
   have hwr:=HW.out wr HG.out r hrm;obtain ⟨x,hx⟩ : ∃ x,x=wt r:=⟨_,rfl⟩;rw [← hx] at hwr;have HWR:=lh hwr;have hnext:=bestF_take wt rs hlt;rw [← hr] at hnext;obtain ⟨s,hs⟩ : ∃ s,s=bestF wt (rs.take j):=⟨_,rfl⟩;rw [← hs] at hnext ⊢;unfold bstep at hnext;rw [← hx] at hnext;obtain ⟨b,m,has⟩:=s;simp only at hnext ⊢;have HN:=lh hnext;clear hwr hr hrm hx hs hnext hv;cases has with
   | false=>
    have hn:=HN.out;simp only [Bool.not_false,Bool.true_or,if_true] at hn;replace HN:=lh hn;clear hn;go_wp2_with fail
    refine HWR.out.mono ?_;rintro e w2 ⟨rfl,hg2⟩;replace HG:=lh (g2 HG.out hg2);clear hg2;go_wp2;exact ⟨⟨j+1,by simp,by omega,by rw [HN.out],by rw [HN.out],by rw [HN.out],HG.out⟩,by simp [intOf];omega⟩
   | true=>
    by_cases h1:m < x
    ·have hn:=HN.out;rw [decide_eq_true h1] at hn;simp only [Bool.or_true,Bool.true_or,if_true] at hn;replace HN:=lh hn;have hd:decide (x > m)=true:=decide_eq_true h1;clear hn h1;go_wp2_with fail
     refine HWR.out.mono ?_;rintro e w2 ⟨rfl,hg2⟩;replace HG:=lh (g2 HG.out hg2);clear hg2;go_wp2;exact ⟨⟨j+1,by simp,by omega,by rw [HN.out],by rw [HN.out],by rw [HN.out],HG.out⟩,by simp [intOf];omega⟩
    ·by_cases h2:x=m
     ·by_cases h3:b < r
      ·have hn:=HN.out;rw [decide_eq_true h3] at hn;simp only [h2,beq_self_eq_true,Bool.and_true,Bool.or_true,if_true] at hn;replace HN:=lh hn;have hd:decide (x > m)=false:=decide_eq_false h1;have hd2:(x == m)=true:=by simp [h2]
       have hd3:decide (r > b)=true:=decide_eq_true h3;have HX:=lh h2;clear hn h1 h2 h3;go_wp2_with fail
       refine HWR.out.mono ?_;rintro e w2 ⟨rfl,hg2⟩;replace HG:=lh (g2 HG.out hg2);clear hg2;go_wp2;exact ⟨⟨j+1,by simp,by omega,by rw [HN.out],by rw [HN.out,HX.out],by rw [HN.out],HG.out⟩,by simp [intOf];omega⟩
      ·have hn:=HN.out;rw [decide_eq_false h3,decide_eq_false h1] at hn;simp only [Bool.not_true,Bool.or_false,Bool.and_false] at hn;replace HN:=lh hn;have hd:decide (x > m)=false:=decide_eq_false h1;have hd2:(x == m)=true:=by simp [h2]
       have hd3:decide (r > b)=false:=decide_eq_false h3;clear hn h1 h2 h3;go_wp2_with fail
       refine HWR.out.mono ?_;rintro e w2 ⟨rfl,hg2⟩;replace HG:=lh (g2 HG.out hg2);clear hg2;go_wp2;exact ⟨⟨j+1,by simp,by omega,by rw [HN.out];rfl,by rw [HN.out];rfl,by rw [HN.out];rfl,HG.out⟩,by simp [intOf];omega⟩
     ·have hd2:(x == m)=false:=by simp [h2]
      have hn:=HN.out;rw [decide_eq_false h1,hd2] at hn;simp only [Bool.not_true,Bool.or_false,Bool.false_and] at hn;replace HN:=lh hn;have hd:decide (x > m)=false:=decide_eq_false h1;clear hn h1 h2;go_wp2_with fail
      refine HWR.out.mono ?_;rintro e w2 ⟨rfl,hg2⟩;replace HG:=lh (g2 HG.out hg2);clear hg2;go_wp2;exact ⟨⟨j+1,by simp,by omega,by rw [HN.out];rfl,by rw [HN.out];rfl,by rw [HN.out];rfl,HG.out⟩,by simp [intOf];omega⟩
  ·obtain rfl:j=rs.length:=by omega
   rw [List.take_length];go_wp2;go_ret2;exact ⟨rfl,HG.out⟩
end
section
open Classical
noncomputable def fl (may:Int→Prop) (xs:List Int):List Int:=xs.filter fun r=>decide (may r)
noncomputable def kidsB (F:Int→Option (Int×Int×Int)) (f:Int) (ks:List Int) (may:Int→Prop) (h:Int):List Int:=fl may (kidsT F f h ks)
noncomputable def stepB (F:Int→Option (Int×Int×Int)) (f:Int) (ks:List Int) (may:Int→Prop) (wt:Int→Int) (h:Int):Option Int:=
 if (bestF wt (kidsB F f ks may h)).2.2=true then some (bestF wt (kidsB F f ks may h)).1 else none
theorem fl_take (may:Int→Prop) (xs:List Int) {j:Nat} (h:j < xs.length):fl may (xs.take (j+1))=fl may (xs.take j)++(if may (xs.getD j 0) then [xs.getD j 0] else []):=by
 unfold fl;rw [List.take_add_one,List.filter_append]
 congr 1
 rw [List.getElem?_eq_getElem h,List.getD_eq_getElem?_getD,List.getElem?_eq_getElem h];simp only [Option.toList_some,Option.getD_some,List.filter_cons,List.filter_nil,decide_eq_true_eq]
theorem fl_len (may:Int→Prop) (xs:List Int):(fl may xs).length≤xs.length:=List.length_filter_le _ _
theorem fl_sub {may:Int→Prop} {xs:List Int} {x:Int} (h:x∈fl may xs):x∈xs:=(List.mem_filter.1 h).1
end
inductive HdB (step:Int→Option Int):Int→Int→Prop
 | stop {h:Int}:step h=none→HdB step h h
 | next {h k r:Int}:step h=some k→HdB step k r→HdB step h r
theorem HdB.unique {step:Int→Option Int} {h r r':Int} (a:HdB step h r) (b:HdB step h r'):r=r':=by
 induction a with
 | stop e=>
  cases b with
  | stop _=>rfl
  | next e' _=>rw [e] at e';cases e'
 | next e _ ih=>
  cases b with
  | stop e'=>rw [e] at e';cases e'
  | next e' b'=>rw [e] at e';cases e';exact ih b'
theorem fold_mem (wt:Int→Int) : ∀ (rs:List Int) (s:Int×Int×Bool),(rs.foldl (bstep wt) s)=s∨(rs.foldl (bstep wt) s).1∈rs
 | [],s=>.inl rfl
 | r :: rs,s=>by
  rw [List.foldl_cons];rcases fold_mem wt rs (bstep wt s r) with h | h
  ·rw [h];unfold bstep;split
   ·right;simp
   ·left;rfl
  ·right;exact List.mem_cons_of_mem _ h
theorem bestF_mem {wt:Int→Int} {rs:List Int} (h:(bestF wt rs).2.2=true):(bestF wt rs).1∈rs:=by
 rcases fold_mem wt rs (0,0,false) with e | e
 ·unfold bestF at h;rw [e] at h;cases h
 ·exact e
section
variable {w:World} {I:Ids} {σ:St} {J:BIds} {β:Bkt}
theorem cf176 (args:Array Value) (w:World):(callFunc 176 args).run Tryz.prog w=.ok (.enter 176 args) w:=by kernel_rfl
set_option maxHeartbeats 8000000 in
theorem bhead_calls (h:StoreAt w I σ) (hw:StWf σ) (ha:BktAt w J I.p β) {ks:List Int} (hks:Rising σ.F ks) (hkl:ks.length≤1000000) (hS:SortUpTo σ.n) (wt:Int→Int)
  (hwt : ∀ W,w.grownBy W none→∀ r,inU r→Calls Tryz.prog 176 #[.pointer (some ⟨J.q,0,none⟩),.int .u64 r] W fun e W'=>e=.returned (.int .u64 (wt r))∧W.grownBy W' none) :
  Calls Tryz.prog 175 #[.pointer (some ⟨J.q,0,none⟩)] w fun e w'=>∃ r,e=.returned (.int .u64 r)∧HdB (stepB σ.F σ.f ks (MayLead σ.F σ.f ks (srcG σ) σ.je σ.fr (eOf σ.slot σ.S)) wt) σ.jr r∧w.grownBy w' none:=by
 have HH:=lh h;have HA:=lh ha;obtain ⟨may,hmay⟩ : ∃ may,may=MayLead σ.F σ.f ks (srcG σ) σ.je σ.fr (eOf σ.slot σ.S):=⟨_,rfl⟩;rw [← hmay];obtain ⟨STEP,hSTEP⟩ : ∃ STEP,STEP=stepB σ.F σ.f ks may wt:=⟨_,rfl⟩;rw [← hSTEP];have HST:=lh hSTEP;clear hSTEP;have HW:=lh hw;have HKS:=lh hks;have HSS:=lh hS;have HMAY:=lh hmay;have HWT:=lh hwt;clear hw hks hS hmay hwt;clear h ha;have hG0:=gR w none;have HG:=lh hG0;clear hG0;go_enter Tryz.func175,Tryz.ntmps175
 go_upto_region 1 with (fail)
 have a0:w.drew.cell? ⟨J.q,0,none⟩=some (.pointer (some ⟨I.p,0,none⟩)):=HA.out.blk.at 0;have c3:w.drew.cell? ⟨I.p,3,none⟩=some (.pointer (some ⟨I.tp,0,none⟩)):=HH.out.s3;have hgd:=gdrew (gR w none);replace HH:=lh (HH.out.g hgd);replace HA:=lh (HA.out.kept0 hgd);replace HG:=lh (g2 HG.out hgd);clear hgd
 go_region_held3 (fun w'=>w'.cell? ⟨J.q,0,none⟩=some (.pointer (some ⟨I.p,0,none⟩))∧w'.cell? ⟨I.p,3,none⟩=some (.pointer (some ⟨I.tp,0,none⟩))) (go_keep)
  (first
    | (go_at_call 144
       refine (view_calls HH.out HW.out).mono ?_;rintro e w2 ⟨m,mn,rfl,hm,hg⟩;have d0:=(HA.out.kept0 hg).blk.at 0;have d3:=(HH.out.g hg).s3;replace HH:=lh (HH.out.g hg);replace HA:=lh (HA.out.kept0 hg);replace HG:=lh (g2 HG.out hg);have HM:=lh hm;clear hm hg)
    | (go_at_call 149
       refine (viable_calls HH.out.tree HW.out.tree HM.out HKS.out (by omega) (by have:=HW.out.n;omega) HSS.out HW.out.fr (srcG_bd HW.out)).mono ?_;rintro e w3 ⟨ob,rfl,hob,hol,hg⟩;rw [← HMAY.out] at hob;have e0:=(HA.out.kept0 hg).blk.at 0;have e3:=(HH.out.g hg).s3;replace HH:=lh (HH.out.g hg);replace HA:=lh (HA.out.kept0 hg);replace HG:=lh (g2 HG.out hg);have HOB:=lh hob;clear hob hg))
 clear d0 d3 e0 e3 a0 c3 HM hol;have hall : ∀ wz,w3.grownBy wz none→StoreAt wz I σ∧BktAt wz J I.p β∧BSet wz ob may∧w.grownBy wz none:=fun wz hz=>⟨HH.out.g hz,HA.out.kept0 hz,HOB.out.g hz,g2 HG.out hz⟩;have HALL:=lh hall;have a0:w3.cell? ⟨J.q,0,none⟩=some (.pointer (some ⟨I.p,0,none⟩)):=HA.out.blk.at 0;have c8:=HH.out.s8;clear hall HH HA HOB HG;go_wp2_with fail
 clear a0 c8
 go_loopw [4] (fun v4 wr=>∃ hd:Int,v4=.int .u64 hd∧(∀ r,HdB STEP hd r→HdB STEP σ.jr r)∧w3.grownBy wr none) (fun v4 _=>(1099511627777 - (getT σ.F (intOf v4)).2.1).toNat)
 case atStart=>exact ⟨σ.jr,rfl,fun r h=>h,gR w3 none⟩
 case round=>
  obtain ⟨hd,rfl,hH,hg⟩:=hrel;have HHD:=lh hH;have HG:=lh hg;clear hH hg;obtain ⟨wo,rfl⟩ : ∃ wo,wo=wr:=⟨_,rfl⟩;have a0:wo.cell? ⟨J.q,0,none⟩=some (.pointer (some ⟨I.p,0,none⟩)):=(HALL.out wo HG.out).2.1.blk.at 0;have c3:=(HALL.out wo HG.out).1.s3;go_wp2_with fail
  refine (kids_calls (HALL.out wo HG.out).1.tree HW.out.tree (by have:=HW.out.n;omega) HSS.out hd).mono ?_;rintro e w4 ⟨v,ks',rfl,hks',hkn,hrow,hg⟩;obtain rfl:ks'=ks:=rising_eq hks'.1 HKS.out.1 (fun x=>⟨fun hx=>(HKS.out.2.2 x (hks'.2.1 x hx)).2 ((hks'.2.2 x (hks'.2.1 x hx)).1 hx),fun hx=>(hks'.2.2 x (HKS.out.2.1 x hx)).2 ((HKS.out.2.2 x (HKS.out.2.1 x hx)).1 hx)⟩);have hlen:=len_any (P:=Tryz.prog) (t:=34) hrow Tryz.underlying34 3;obtain ⟨xs,hxs⟩ : ∃ xs,xs=kidsT σ.F σ.f hd ks':=⟨_,rfl⟩;rw [← hxs] at hrow hlen;have hxl:xs.length≤1000000:=by rw [hxs];exact Nat.le_trans (kidsT_length _ _ _ _) hkl
  have hxu : ∀ x∈xs,inU x:=fun x hx=>by rw [hxs] at hx;exact HKS.out.2.1 x (List.mem_filter.1 hx).1
  replace HG:=lh (g2 HG.out hg);have HROW:=lh hrow;have HXS:=lh hxs;have HXU:=lh hxu;clear hrow hxs hxu;clear hg hks' a0 c3 hkn;go_wp2_with fail
  clear hlen;obtain ⟨i0,hi0⟩:=elem_u64;have HI:=lh hi0;clear hi0
  go_loopw [41,5] (fun v41 v5 wr=>∃ j:Nat,v41=.int .i64 (j:Int)∧j≤xs.length∧wr.ownsRow w4.heap.size 27 1 v5 (fl may (xs.take j)).length ((fl may (xs.take j)).map encU)∧w4.grownBy wr none) (fun v41 _ _=>xs.length - (intOf v41).toNat)
  case atStart=>exact ⟨0,rfl,by omega,by simpa [fl] using World.ownsRow_nil w4 _ _ _,gR w4 none⟩
  case round=>
   obtain ⟨j,rfl,hj,ho,hg1⟩:=hrel;have HO:=lh ho;have HG1:=lh hg1;clear ho hg1;by_cases hlt:j < xs.length
   ·obtain ⟨g,cap,rfl,_,_⟩:=HROW.out.form (by omega);have hc:=rowCell (HROW.out.kept HG1.out (by simp [Value.ownBlock])) j hlt;obtain ⟨r,hr⟩ : ∃ r,r=xs.getD j 0:=⟨_,rfl⟩;have hrm:r∈xs:=by rw [hr,List.getD_eq_getElem?_getD,List.getElem?_eq_getElem hlt];exact List.getElem_mem hlt
    have hin:=HXU.out r hrm;have ht:=fl_take may xs hlt;rw [← hr] at hc ht;obtain ⟨Bm,hBm⟩ : ∃ Bm:Bool,Bm=true↔may r:=⟨@decide (may r) (Classical.propDecidable _),by simp⟩;have hlk:=(HALL.out _ (g2 HG.out HG1.out)).2.2.1.has hin (mt:=75) Tryz.underlying75 Bm hBm;have hfl:(fl may (xs.take j)).length≤1000000:=Nat.le_trans (fl_len _ _) (by simp;omega);have HT:=lh ht;clear hr hrm ht;cases Bm with
    | false=>
     have hm:¬ may r:=fun h=>by simpa using hBm.2 h
     have HM:=lh hm;clear hm hBm;go_wp2;exact ⟨⟨j+1,by simp,by omega,by rw [HT.out,if_neg HM.out,List.append_nil];exact HO.out,HG1.out⟩,by simp [intOf];omega⟩
    | true=>
     have hm:may r:=hBm.1 rfl;have HM:=lh hm;clear hm hBm;rcases HO.out.two with hv5 | ⟨g5,c5,hv5⟩;all_goals
      subst hv5;go_wp2_with (at_builtin;refine wpList_append_lies _ rfl _ _ 34 rfl w4.heap.size 27 i0 (.int .u64 0) 1 8 Tryz.underlying34 HI.out.1 HI.out.2.1 HI.out.2.2.1 HI.out.2.2.2 rfl (by decide) _ (fl may (xs.take j)).length ((fl may (xs.take j)).map encU) rfl (HO.out.alloc _) ⟨wr.heap.size,0,none⟩ 1 1 [.int .u64 r] rfl rfl (World.news_of_block (MapKept.heap_alloc _ _).1) (by simp [Value.oneCell']) (by decide) (by unfold maxLen;omega) (by omega) (by have:=HG1.out.size;simp;omega) _ rfl ?_;intro g6 c6 w6 h6 hg6 hat6 hlt6;have H6:=lh h6;have HG6:=lh hg6;clear h6 hg6 hat6)
      refine ⟨⟨j+1,by simp,by omega,?_,(g2 HG1.out (World.grownBy_alloc wr _ none)).andThen HG6.out (fun k e=>Or.inl (HO.out.lt k e).1)⟩,by simp [intOf];omega⟩;rw [HT.out,if_pos HM.out];have:=H6.out
      simpa using this
   ·obtain rfl:j=xs.length:=by omega
    have ho:=HO.out;rw [List.take_length] at ho;replace HO:=lh ho;clear ho hj hlt;replace HG:=lh (g2 HG.out HG1.out);clear HG1;have hfl:(fl may xs).length≤1000000:=Nat.le_trans (fl_len _ _) hxl;go_wp2_with fail
    refine (best_calls HO.out hfl cf176 wt (fun W hW r hr=>HWT.out W (g2 (HALL.out wr HG.out).2.2.2 hW) r (HXU.out r (fl_sub hr)))).mono ?_;rintro e w5 ⟨rfl,hg⟩;replace HG:=lh (g2 HG.out hg);obtain ⟨B,hB⟩ : ∃ B,B=bestF wt (fl may xs):=⟨_,rfl⟩;have hstep:STEP hd=if B.2.2=true then some B.1 else none:=by rw [HST.out];unfold stepB kidsB;rw [← HXS.out,← hB]
    have hmem:B.2.2=true→B.1∈xs:=fun h=>by rw [hB] at h ⊢;exact fl_sub (bestF_mem h)
    rw [← hB];have HSTEP:=lh hstep;have HMEM:=lh hmem;clear hstep hmem;clear hg hB hfl HO;obtain ⟨k,m,ok⟩:=B;simp only;cases ok with
    | false=>
     have hst:=HSTEP.out;simp only at hst;rw [if_neg (by simp)] at hst;have HF:=lh (HHD.out hd (.stop hst));clear hst;go_wp2;go_ret;exact ⟨hd,rfl,HF.out,(HALL.out w5 HG.out).2.2.2⟩
    | true=>
     have hst:=HSTEP.out;simp only at hst;rw [if_pos trivial] at hst;have hk:=HMEM.out rfl;simp only at hk;have hlt:(getT σ.F hd).2.1 < (getT σ.F k).2.1∧(getT σ.F k).2.1≤1099511627776:=by
      rw [HXS.out] at hk;obtain ⟨hk1,hk2⟩:=List.mem_filter.1 hk;obtain ⟨y,hy⟩:=Option.isSome_iff_exists.1 ((HKS.out.2.2 k (HKS.out.2.1 k hk1)).1 hk1);simp only [hy,Option.getD_some,Bool.and_eq_true,Bool.not_eq_true',beq_eq_false_iff_ne,beq_iff_eq] at hk2;obtain ⟨z,hz,hzl⟩:=HW.out.tree.up k y hy hk2.1;rw [hk2.2] at hz;have:=HW.out.tree.slot k y hy;simp only [getT,hy,hz,Option.getD_some];exact ⟨hzl,this.2⟩
     have HNX:=lh (fun r (h:HdB STEP k r)=>HHD.out r (.next hst h));clear hst hk;go_wp2;exact ⟨⟨k,rfl,HNX.out,HG.out⟩,by simp [intOf];omega⟩
end
end Go.Proofs.YtndfpmboanohcaaGreatDoor
