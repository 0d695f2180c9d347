/- Contract of the maker's event. -/
import Derived.Test.YtndfpmboanohcaaGreatDoorVotToEvp
namespace Go.Proofs.YtndfpmboanohcaaGreatDoor
set_option maxRecDepth 100000
open Go.RowKit Go.Maps SkipPure
section
variable {w0:World} {I:Ids} {σ:St} {N mp base:Nat} {vb:Value} {nb:Option Nat} {bl:List Int}
set_option maxHeartbeats 16000000 in
theorem event_calls (h:StoreAt w0 I σ) (hI:Inv σ N) (hb6:σ.bs.length=6) (hm:Mk w0 mp I.p vb nb) (hbl:Bls w0 base vb bl) (hx:I.ex mp) (hnb : ∀ k,nb=some k→k < w0.heap.size) :
  Calls Tryz.prog 19 #[.pointer (some ⟨mp,0,none⟩)] w0 fun e w'=>∃ ev cells,e=.returned (.agg cells)∧EvB ev∧EvAt w' (fun i=>w0.heap.size≤i∧i < w'.heap.size) ev cells∧Mk w' mp I.p vb nb∧Chg (fun i=>i=mp) w0 w':=by
 have H0:=lh h;have HBL:=lh (And.intro hbl (hbl.ne hm));obtain ⟨vg,vcap,hvf,_⟩:=hbl.form;have HVF:Hid (∃ a n c,vb=.slice a n c):=lh ⟨_,_,_,hvf⟩;clear hvf;have HM:=lh hm;have hml:=hm.lt;have hs0:=hI.wf.s0;have hs1:=hI.wf.s1;have hpl:=h.blk.lt;have HI:=lh hI;have HX:=lh hx;have HB6:=lh hb6;have HNB:=lh hnb;clear hI hx hb6 hnb;clear h hm hbl;go_enter Tryz.func19,Tryz.ntmps19
 go_upto_region 1 with (fail)
 refine nmC1 ?_;intro W b0 hz hg;obtain ⟨q,hq_q⟩ : ∃ q,q=w0.heap.size:=⟨_,rfl⟩;rw [← hq_q] at b0 hz hml hpl ⊢;have HQ_q:=lh hq_q;clear hq_q;have hes:ES w0 W mp I.p q vb nb:=⟨HM.out.g hg,b0,Chg.of hg⟩;have hst:=H0.out.g hg;have hqw:w0.heap.size≤q:=Nat.le_of_eq HQ_q.out.symm;have m0:=hes.mm.c0;have s5:=hst.s5;clear b0 hg hz HM hst;have HES:=lh hes;clear hes;go_wp2_with fail
 refine (mnext_calls HES.out.mm HVF.out (n:=10) (by omega)).mono ?_;rintro e w1 ⟨k,rfl,hk0,hk1,hm,hg⟩;have hes:=HES.out.num hm (Chg.one hg rfl) hml;clear HES hm hg m0 s5;have HES:=lh hes;clear hes;obtain ⟨now,hnow⟩ : ∃ now,now=σ.slot:=⟨_,rfl⟩;rw [← hnow] at hs0 hs1 ⊢;clear hnow;obtain ⟨B,hB⟩ : ∃ B,B=(decide (k < 3) || now == 0):=⟨_,rfl⟩;have HB:=lh hB;clear hB;go_upto_region 3 with (fail)
 go_cut [25] (fun s25 wx=>s25=.bool B∧w1.grownBy wx none)
 case first=>
  by_cases h3:k < 3
  ·have hB:B=true:=by rw [HB.out,decide_eq_true h3];rfl
   go_wp2_with fail
   go_meet
   exact ⟨by rw [hB],gR _ _⟩
  ·have hB:B=(now == 0):=by rw [HB.out,decide_eq_false h3];rfl
   clear HB;subst hB;go_wp2_with fail
   go_meet
   exact ⟨rfl,gR _ _⟩
 case rest=>
 obtain ⟨rfl,hg⟩:=hcut;replace HES:=lh (HES.out.g hg);clear hg HB;cases B with
 | true=>
  go_upto_region 4 with (fail)
  go_wp2_with (first
   | (go_at_call 31;refine (mnext_calls HES.out.mm HVF.out (n:=4) (by omega)).mono ?_;rintro e w2 ⟨x,rfl,hx0,hx1,hm,hg⟩;have hes:=HES.out.num hm (Chg.one hg rfl) hml;clear HES hm hg;have HES:=lh hes;clear hes)
   | (refine wpList_store_blk HES.out.b0 rfl (evC { ev0 with s:=now+x } none 0 none 0 none 0 none 0 none 0) ⟨_,_,rfl,rfl,rfl⟩ (by as_aux_lemma=>kernel_rfl) rfl (by simp [evC,ev0,Value.oneCell']) ?_;intro wz hbz hgz;have HBZ:=lh (And.intro hbz hgz);clear hbz hgz))
  have hcz:Chg (fun i=>i=q) w2 wz:=Chg.one HBZ.out.2 rfl;refine bodyPost_ret (res_cell (cs:=evC { ev0 with s:=now+x } none 0 none 0 none 0 none 0 none 0) (r:=q) rfl rfl (run_loadVar_blk (off:=0) HBZ.out.1 _ Tryz.underlying68 rfl _ (by as_aux_lemma=>kernel_rfl) rfl)) rfl ?_;refine ⟨_,_,rfl,⟨.inl rfl,?_,?_,by simp [ev0],by simp [ev0],by simp [ev0],by simp [ev0],vt0B,vt0B,vt0B⟩,⟨none,0,none,0,none,0,none,0,none,0,rfl,.inl rfl,.inl rfl,(WhoAt.nil _ 0 0).1,(fun ad e=>by cases e),(WhoAt.nil _ 0 0).1,(fun ad e=>by cases e),(WhoAt.nil _ 0 0).1,(fun ad e=>by cases e)⟩,HES.out.mm.chg hcz (by omega) (fun k hk e=>by have:=HNB.out k hk;omega),HES.out.chg.then hcz (fun i e=>.inr (by omega))⟩
  ·show inU 0;unfold inU;omega
  ·show inU 0;unfold inU;omega
 | false=>
  cases hB:decide (k < 7) with
  | true=>
   go_upto_region 6 with (fail)
   go_wp2_with fail
   refine (mblock_calls HES.out.mm (HBL.out.1.chg HES.out.chg HBL.out.2)).mono ?_;rintro e w2 ⟨r,rfl,hr,_,hm,hc⟩;have hes:=HES.out.num hm hc hml;clear HES hm hc;have HES:=lh hes;clear hes;go_upto_region 7 with (fail)
   have m0:=HES.out.mm.c0;have hst:=H0.out.exch HES.out.chg (fun i e=>by rw [e];exact HX.out);have s3:=hst.s3;have HTR:=lh hst.tree;clear hst;go_wp2_with fail
   refine (tget_calls HTR.out hr).mono ?_;rintro e w3 ⟨rfl,hg⟩;replace HES:=lh (HES.out.g hg);clear hg m0 s3 HTR;have htsl:=HI.out.wf.tree.slot;obtain ⟨sl1,hsl1⟩ : ∃ z,z=(getT σ.F r).2.1:=⟨_,rfl⟩;have hsb:0≤sl1∧sl1≤1099511627776:=by
    rw [hsl1];unfold getT;cases hF:σ.F r with
    | none=>simp
    | some y=>exact htsl r y hF
   rw [← hsl1];clear hsl1 htsl;generalize (getT σ.F r).1=g1;generalize (getT σ.F r).2.2=g3;generalize (σ.F r).isSome=g4;go_upto_region 8 with (fail)
   have hn1:=HBL.out.1.n;have hn2:=HBL.out.1.n2;obtain ⟨nb2,hnb2⟩ : ∃ n,n=bl.length:=⟨_,rfl⟩;obtain ⟨vba,vbc,hvb2⟩ : ∃ a c,vb=.slice a nb2 c:=by
    obtain ⟨g,c,h,_⟩:=HBL.out.1.form;exact ⟨_,_,by rw [hnb2];exact h⟩
   rw [← hnb2] at hn1 hn2;have HNB2:=lh (And.intro hnb2 hvb2);clear hnb2 hvb2
   go_cut [10] (fun s10 wx=>∃ gm rt bsl,s10=.pointer (some ⟨gm,0,none⟩)∧q < gm∧inU rt∧ES w0 wx mp I.p q vb nb∧Blk wx gm (blC rt r bsl (.slice none 0 0) (.slice none 0 0)) 59)
   case first=>as_aux_lemma=>
    have TK:=lh fun w (hSw:(fun wr=>ES w0 wr mp I.p q vb nb) w)=>show w.cell? ⟨mp,2,none⟩=some (.slice vba nb2 vbc) from (by rw [← HNB2.out.2];exact hSw.mm.c2)
    refine wp_region_late (fun wr=>ES w0 wr mp I.p q vb nb) [21] (by as_aux_lemma=>kernel_rfl) ?_;have hgd:=gdrew (gR w3 none);have hS:(fun wr=>ES w0 wr mp I.p q vb nb) w3.drew:=HES.out.g hgd;clear hgd HES;generalize w3.drew=w4 at hS ⊢;refine pM 0 ?_;simp only [zz];refine pM 1 ?_;simp only [zz];refine pM 2 ?_;simp only [zz];refine pM 6 ?_;simp only [zz];refine pM 11 ?_;simp only [zz];refine pM 12 ?_;simp only [zz];refine pM 13 ?_;simp only [zz];refine pM 14 ?_;simp only [zz];refine pM 15 ?_;simp only [zz];refine tM 3 ?_;simp only [zz];refine pM 4 ?_;simp only [zz];refine pM 5 ?_;simp only [zz];refine aM [7,20] (cM 7 (fun K hK=>?_) (cM 20 (fun K hK=>?_) nM))
    ·skip;go_simp;refine (mnext_calls hS.mm HVF.out (n:=20) (by omega)).mono ?_;rintro e w5 ⟨x,rfl,hx0,hx1,hm,hg⟩;have hc:=Chg.one (S:=fun i=>i=mp) hg rfl;have hS2:(fun wr=>ES w0 wr mp I.p q vb nb) w5:=ES.num hS hm hc hml;try (replace HQ10:=lh (hc.blk HQ10.out (by omega)))
     clear hm hg hc;refine hK.out _ _ (.inl (fun _=>hS2)) ?_;replace hS:=hS2;clear hK K hS2;try simp only [zz]
     refine pM 8 ?_;simp only [zz];refine pM 9 ?_;simp only [zz];refine pM 10 ?_;simp only [zz];refine aM [16,20] (cM 16 (fun K hK=>?_) (cM 20 (fun K hK=>?_) nM))
     ·skip;go_simp;refine (mnext_calls hS.mm HVF.out (n:=3) (by omega)).mono ?_;rintro e w6 ⟨y,rfl,hy0,hy1,hm,hg⟩;have hc:=Chg.one (S:=fun i=>i=mp) hg rfl;have hS2:(fun wr=>ES w0 wr mp I.p q vb nb) w6:=ES.num hS hm hc hml;try (replace HQ10:=lh (hc.blk HQ10.out (by omega)))
      clear hm hg hc;refine hK.out _ _ (.inl (fun _=>hS2)) ?_;replace hS:=hS2;clear hK K hS2;try simp only [zz]
      refine pM 17 ?_;simp only [zz];refine pM 18 ?_;simp only [zz];refine pM 19 ?_;simp only [zz];refine rM 20 fun K hK=>?_;go_simp;refine nmA1 ?_;intro wm hmb hgg;have hql:=ES.b0 hS |>.lt
      first
       | generalize w6.heap.size=gm at hmb hql ⊢
       | generalize w5.heap.size=gm at hmb hql ⊢
       | generalize w4.heap.size=gm at hmb hql ⊢
      have HQ10:=lh hmb;have hS2:(fun wr=>ES w0 wr mp I.p q vb nb) wm:=ES.g hS hgg;clear hmb hgg;refine hK.out _ _ (.inl (fun _=>hS2)) ?_;replace hS:=hS2;clear hK K hS2;try simp only [zz]
      refine rM 21 fun K hK=>?_;refine step_store_blk HQ10.out rfl #[.int .u64 _,.int .u64 r,.int .i64 _,.slice none 0 0,.slice none 0 0] ⟨_,_,rfl,rfl,rfl⟩ (by as_aux_lemma=>kernel_rfl) rfl (by simp [Value.oneCell']) ?_;intro w16 t1 t3;refine hK.out _ _ (.inr (by decide)) ?_;clear hK K;try simp only [zz]
      refine dM ?_ _;have hes2:=ES.new hS t3 hql hml hqw HNB.out;have HFI:=lh (And.intro hes2 t1);clear t1 t3 hes2;go_wp2_with fail
      go_meet
      exact ⟨gm,_,_,rfl,hql,inU_wrap _,HFI.out.1,HFI.out.2⟩
     ·skip;go_simp;refine nmA1 ?_;intro wm hmb hgg;have hql:=ES.b0 hS |>.lt
      first
       | generalize w6.heap.size=gm at hmb hql ⊢
       | generalize w5.heap.size=gm at hmb hql ⊢
       | generalize w4.heap.size=gm at hmb hql ⊢
      have HQ10:=lh hmb;have hS2:(fun wr=>ES w0 wr mp I.p q vb nb) wm:=ES.g hS hgg;clear hmb hgg;refine hK.out _ _ (.inl (fun _=>hS2)) ?_;replace hS:=hS2;clear hK K hS2;try simp only [zz]
      refine rM 16 fun K hK=>?_;go_simp;refine (mnext_calls hS.mm HVF.out (n:=3) (by omega)).mono ?_;rintro e w6 ⟨y,rfl,hy0,hy1,hm,hg⟩;have hc:=Chg.one (S:=fun i=>i=mp) hg rfl;have hS2:(fun wr=>ES w0 wr mp I.p q vb nb) w6:=ES.num hS hm hc hml;try (replace HQ10:=lh (hc.blk HQ10.out (by omega)))
      clear hm hg hc;refine hK.out _ _ (.inl (fun _=>hS2)) ?_;replace hS:=hS2;clear hK K hS2;try simp only [zz]
      refine pM 17 ?_;simp only [zz];refine pM 18 ?_;simp only [zz];refine pM 19 ?_;simp only [zz];refine rM 21 fun K hK=>?_;refine step_store_blk HQ10.out rfl #[.int .u64 _,.int .u64 r,.int .i64 _,.slice none 0 0,.slice none 0 0] ⟨_,_,rfl,rfl,rfl⟩ (by as_aux_lemma=>kernel_rfl) rfl (by simp [Value.oneCell']) ?_;intro w16 t1 t3;refine hK.out _ _ (.inr (by decide)) ?_;clear hK K;try simp only [zz]
      refine dM ?_ _;have hes2:=ES.new hS t3 hql hml hqw HNB.out;have HFI:=lh (And.intro hes2 t1);clear t1 t3 hes2;go_wp2_with fail
      go_meet
      exact ⟨gm,_,_,rfl,hql,inU_wrap _,HFI.out.1,HFI.out.2⟩
    ·skip;go_simp;refine nmA1 ?_;intro wm hmb hgg;have hql:=ES.b0 hS |>.lt
     first
      | generalize w6.heap.size=gm at hmb hql ⊢
      | generalize w5.heap.size=gm at hmb hql ⊢
      | generalize w4.heap.size=gm at hmb hql ⊢
     have HQ10:=lh hmb;have hS2:(fun wr=>ES w0 wr mp I.p q vb nb) wm:=ES.g hS hgg;clear hmb hgg;refine hK.out _ _ (.inl (fun _=>hS2)) ?_;replace hS:=hS2;clear hK K hS2;try simp only [zz]
     refine rM 7 fun K hK=>?_;go_simp;refine (mnext_calls hS.mm HVF.out (n:=20) (by omega)).mono ?_;rintro e w5 ⟨x,rfl,hx0,hx1,hm,hg⟩;have hc:=Chg.one (S:=fun i=>i=mp) hg rfl;have hS2:(fun wr=>ES w0 wr mp I.p q vb nb) w5:=ES.num hS hm hc hml;try (replace HQ10:=lh (hc.blk HQ10.out (by omega)))
     clear hm hg hc;refine hK.out _ _ (.inl (fun _=>hS2)) ?_;replace hS:=hS2;clear hK K hS2;try simp only [zz]
     refine pM 8 ?_;simp only [zz];refine pM 9 ?_;simp only [zz];refine pM 10 ?_;simp only [zz];refine rM 16 fun K hK=>?_;go_simp;refine (mnext_calls hS.mm HVF.out (n:=3) (by omega)).mono ?_;rintro e w6 ⟨y,rfl,hy0,hy1,hm,hg⟩;have hc:=Chg.one (S:=fun i=>i=mp) hg rfl;have hS2:(fun wr=>ES w0 wr mp I.p q vb nb) w6:=ES.num hS hm hc hml;try (replace HQ10:=lh (hc.blk HQ10.out (by omega)))
     clear hm hg hc;refine hK.out _ _ (.inl (fun _=>hS2)) ?_;replace hS:=hS2;clear hK K hS2;try simp only [zz]
     refine pM 17 ?_;simp only [zz];refine pM 18 ?_;simp only [zz];refine pM 19 ?_;simp only [zz];refine rM 21 fun K hK=>?_;refine step_store_blk HQ10.out rfl #[.int .u64 _,.int .u64 r,.int .i64 _,.slice none 0 0,.slice none 0 0] ⟨_,_,rfl,rfl,rfl⟩ (by as_aux_lemma=>kernel_rfl) rfl (by simp [Value.oneCell']) ?_;intro w16 t1 t3;refine hK.out _ _ (.inr (by decide)) ?_;clear hK K;try simp only [zz]
     refine dM ?_ _;have hes2:=ES.new hS t3 hql hml hqw HNB.out;have HFI:=lh (And.intro hes2 t1);clear t1 t3 hes2;go_wp2_with fail
     go_meet
     exact ⟨gm,_,_,rfl,hql,inU_wrap _,HFI.out.1,HFI.out.2⟩
   case rest=>
    obtain ⟨gm,rt,bsl,rfl,hqg,hrt,hes,hb⟩:=hcut;have hbw:BW w0 wc mp I.p q gm vb nb rt r bsl (.slice none 0 0) (.slice none 0 0) [] []:=⟨hes,hb,World.ownsRow_nil _ _ _ _,World.ownsRow_nil _ _ _ _,by simp,by simp⟩;clear HES hes hb;have HBW:=lh hbw;clear hbw;go_upto_region 9 with (fail)
    go_wp2_with fail
    refine (mnext_calls HBW.out.es.mm HVF.out (n:=3) (by omega)).mono ?_;rintro e w5 ⟨n0,rfl,hn0,hn3,hm,hg⟩;have hbw:=HBW.out.num hm (Chg.one hg rfl) hml hqg;clear HBW hm hg;have HBW:=lh hbw;clear hbw;go_wp2_with fail
    go_loopw [11] (fun v11 wr=>∃ (m:Nat),v11=.int .i64 (m:Int)∧m≤2∧∃ vv L,BW w0 wr mp I.p q gm vb nb rt r bsl vv (.slice none 0 0) L []∧L.length+m≤2) (fun v11 _=>(intOf v11).toNat)
    case atStart=>exact ⟨n0.toNat,by rw [Int.toNat_of_nonneg hn0],by omega,_,[],HBW.out,by simp;omega⟩
    case round=>
     obtain ⟨m,rfl,hm2,vv,L,hbw,hLm⟩:=hrel;clear HBW;have HBW:=lh hbw;clear hbw;by_cases hm0:0 < m
     ·obtain ⟨m',rfl⟩ : ∃ m',m=m'+1:=⟨m - 1,by omega⟩;go_upto_region 12 with (fail)
      obtain ⟨i0,hi0⟩:=elem_vt;have HI0:=lh hi0;clear hi0;have TK:=lh fun w (hSw:(fun wr=>BW w0 wr mp I.p q gm vb nb rt r bsl vv (.slice none 0 0) L []) w)=>show w.cell? ⟨gm,3,none⟩=some vv from hSw.b.at 3
      refine wp_region_late (fun wr=>BW w0 wr mp I.p q gm vb nb rt r bsl vv (.slice none 0 0) L []) [11,13] (by as_aux_lemma=>kernel_rfl) ?_;have hgd:=gdrew (gR wr none);have hS:(fun wr=>BW w0 wr mp I.p q gm vb nb rt r bsl vv (.slice none 0 0) L []) wr.drew:=HBW.out.g hgd;clear hgd HBW;generalize wr.drew=w6 at hS ⊢;refine pM 0 ?_;simp only [zz];refine pM 2 ?_;simp only [zz];refine pM 3 ?_;simp only [zz];refine pM 4 ?_;simp only [zz];refine pM 5 ?_;simp only [zz];refine tM 1 ?_;simp only [zz];refine rM 6 fun K hK=>?_;go_simp;refine (mnext_calls hS.es.mm HVF.out (n:=3) (by omega)).mono ?_;rintro e w7 ⟨y,rfl,hy0,hy1,hm,hg⟩;have hS2:(fun wr=>BW w0 wr mp I.p q gm vb nb rt r bsl vv (.slice none 0 0) L []) w7:=BW.num hS hm (Chg.one hg rfl) hml hqg;clear hm hg;refine hK.out _ _ (.inl (fun _=>hS2)) ?_;replace hS:=hS2;clear hK K hS2;try simp only [zz]
      refine pM 7 ?_;simp only [zz];refine pM 8 ?_;simp only [zz];refine rM 9 fun K hK=>?_;have hwy:IntKind.i64.wrap (now - y)=now - y:=IntWalk.i64_in _ (by omega);have hsz7:=hS.es.chg.size;go_simp;refine (vote_calls (H0.out.exch hS.es.chg (fun i e=>by rw [e];exact HX.out)) HI.out HB6.out hS.es.mm (HBL.out.1.chg hS.es.chg HBL.out.2) HX.out (fun k hk=>Nat.lt_of_lt_of_le (HNB.out k hk) hsz7) hr (by omega) (by omega)).mono ?_;rintro e w8 ⟨v,vw,vc,rfl,hvB,hvr,hm,hc⟩;have hS2:(fun wr=>BW w0 wr mp I.p q gm vb nb rt r bsl vv (.slice none 0 0) L []) w8:=BW.num hS hm hc hml hqg;have HVR:=lh (own_base hvr hsz7);have HVB:=lh hvB;clear hwy hsz7 hm hc hvr hvB;obtain ⟨v0,v1,v2,v3,v4,v5,vs⟩:=v;unfold vtV;refine hK.out _ _ (.inl (fun _=>hS2)) ?_;replace hS:=hS2;clear hK K hS2;refine rM 10 fun K hK=>?_;go_simp;refine nmA1 ?_;intro w9 hmb hgg;generalize w8.heap.size=g7 at hmb ⊢;have hS2:(fun wr=>BW w0 wr mp I.p q gm vb nb rt r bsl vv (.slice none 0 0) L []) w9:=BW.g hS hgg;replace HVR:=lh (ownsRow_g HVR.out hgg);have HMB:=lh hmb;clear hmb hgg;refine hK.out _ _ (.inl (fun _=>hS2)) ?_;replace hS:=hS2;clear hK K hS2;try simp only [zz]
      refine rM 11 fun K hK=>?_;have hsz9:=hS.es.chg.size;refine wp_append_lies _ _ _ 56 (by rfl) w0.heap.size 64 i0 (.agg #[.int .i64 0,.int .u64 0,.int .i64 0,.int .u64 0,.int .i64 0,.int .u64 0,.slice none 0 0]) 7 72 Tryz.underlying56 HI0.out.1 HI0.out.2.1 HI0.out.2.2.1 HI0.out.2.2.2 rfl (by decide) vv L.length (L.flatMap vrC) (by rfl) hS.rv ⟨g7,0,none⟩ 1 1
       [.int .i64 v0,.int .u64 v1,.int .i64 v2,.int .u64 v3,.int .i64 v4,.int .u64 v5,.slice vw vs.length vc] (by rfl) (by rfl) (World.news_of_block HMB.out) (by simp [Value.oneCell']) (by omega) (by unfold maxLen;omega) (by omega) hsz9 _ rfl ?_
      intro g5 c5 w10 h5 hg5 _ _;have hb10:=blk_row hS.b hS.rv hg5 (by decide);have d3:w10.cell? ⟨gm,3,none⟩=some vv:=hb10.at 3;have f3:=hb10.fr 3;have HBW:=lh hS;have H5:=lh (And.intro h5 hg5);clear h5 hg5 hb10 hsz9;refine hK.out _ _ (.inr (by decide)) ?_;clear hK K;try simp only [zz]
      refine pM 12 ?_;simp only [zz];refine rM 13 fun K hK=>?_;refine step_store_slot d3 f3 rfl ⟨_,_,rfl,rfl,rfl⟩ rfl rfl (by as_aux_lemma=>kernel_rfl) ?_;refine hK.out _ _ (.inr (by decide)) ?_;clear hK K;try simp only [zz]
      refine dM ?_ _;have hbw:=HBW.out.addv (x:=⟨⟨v0,v1,v2,v3,v4,v5,vs⟩,vw,vc⟩) ⟨HVR.out,HVB.out⟩ H5.out.1 H5.out.2 hml hqg hqw HNB.out;clear hS d3 f3;go_wp2_with fail
      exact ⟨⟨m',by simp,by omega,_,_,hbw,by simp;omega⟩,by simp [intOf]⟩
     ·have hm00:m=0:=by omega
      subst hm00;go_wp2_with fail
      refine (mnext_calls HBW.out.es.mm HVF.out (n:=16) (by omega)).mono ?_;rintro e w7 ⟨z,rfl,hz0,hz1,hm,hg⟩;have hbw:=HBW.out.num hm (Chg.one hg rfl) hml hqg;clear HBW hm hg;have HBW:=lh hbw;clear hbw;go_upto_if 97 with (fail)
      go_cut [] (fun wx=>∃ pv M,BW w0 wx mp I.p q gm vb nb rt r bsl vv pv L M∧M.length≤1)
      case first=>
       by_cases hz:z=15
       ·subst hz;go_upto_region 14 with (fail)
        have hsz7:=HBW.out.es.chg.size;go_upto_region 15 with (go_at_call 34;refine (vote_calls (H0.out.exch HBW.out.es.chg (fun i e=>by rw [e];exact HX.out)) HI.out HB6.out HBW.out.es.mm (HBL.out.1.chg HBW.out.es.chg HBL.out.2) HX.out (fun k hk=>Nat.lt_of_lt_of_le (HNB.out k hk) hsz7) hr hs0 hs1).mono ?_;rintro e w8 ⟨v,vw,vc,rfl,hvB,hvr,hm,hc⟩;have hbw:=HBW.out.num hm hc hml hqg;have HVR:=lh (own_base hvr hsz7);have HVB:=lh hvB;clear HBW hm hc hvr hvB hsz7;have HBW:=lh hbw;clear hbw;obtain ⟨v0,v1,v2,v3,v4,v5,vs⟩:=v;unfold vtV)
        go_upto_region 17 with (fail)
        refine nmC2 ?_;intro W9 b1 b2 hz9 hg9;have hgl:gm < w8.heap.size:=HBW.out.b.lt;have hszw:=HBW.out.es.chg.size;obtain ⟨qa,hq_qa⟩ : ∃ q,q=w8.heap.size:=⟨_,rfl⟩;rw [← hq_qa] at b1 b2 hz9 hgl hszw ⊢;have HQ_qa:=lh hq_qa;clear hq_qa;change Blk W9 qa (vtC v0 v1 v2 v3 v4 v5 (.slice vw vs.length vc)) 64 at b1;change Blk W9 (qa+1) (vtC v0 1 v2 v3 v4 v5 (.slice vw vs.length vc)) 64 at b2;replace HVR:=lh (ownsRow_g HVR.out hg9);replace HBW:=lh (HBW.out.g hg9);have hsz9:=HBW.out.es.chg.size;clear hg9 hz9;have HB1:=lh b1;have HB2:=lh b2;clear b1 b2;obtain ⟨i0,hi0⟩:=elem_pr;have HI0:=lh hi0;clear hi0;have e4:W9.cell? ⟨gm,4,none⟩=some (.slice none 0 0):=HBW.out.b.at 4;go_wp2_with (first
         | refine wpList_load_blk (off:=0) HB1.out rfl _ rfl rfl _ Tryz.underlying64 rfl #[.int .i64 v0,.int .u64 v1,.int .i64 v2,.int .u64 v3,.int .i64 v4,.int .u64 v5,.slice vw vs.length vc] (by as_aux_lemma=>kernel_rfl) rfl ?_
         | refine wpList_load_blk (off:=0) HB2.out rfl _ rfl rfl _ Tryz.underlying64 rfl #[.int .i64 v0,.int .u64 1,.int .i64 v2,.int .u64 v3,.int .i64 v4,.int .u64 v5,.slice vw vs.length vc] (by as_aux_lemma=>kernel_rfl) rfl ?_
         | (at_builtin;refine wpList_push rfl _ _ 57 rfl w0.heap.size 66 i0 (.agg #[.int .i64 0,.int .u64 0,.int .i64 0,.int .u64 0,.int .i64 0,.int .u64 0,.slice none 0 0,.int .i64 0,.int .u64 0,.int .i64 0,.int .u64 0,.int .i64 0,.int .u64 0,.slice none 0 0]) 14 144 Tryz.underlying57 HI0.out rfl (by decide) (.slice none 0 0) 0 [] rfl HBW.out.rp rfl rfl (by simp [Value.oneCell']) (by unfold maxLen;omega) (by omega) hsz9 ?_;intro v6 w10 h6 hg6;obtain ⟨a6,c6,rfl,_⟩:=own_slice h6;have hb10:=blk_row HBW.out.b HBW.out.rp hg6 (by decide);have e4:w10.cell? ⟨gm,4,none⟩=some (.slice none 0 0):=hb10.at 4;have f4:=hb10.fr 4;have H6:=lh (And.intro h6 hg6);clear h6 hg6 hb10))
        go_meet
        have hbw:=HBW.out.addp (x:=(⟨⟨v0,v1,v2,v3,v4,v5,vs⟩,vw,vc⟩,⟨⟨v0,1,v2,v3,v4,v5,vs⟩,vw,vc⟩)) ⟨⟨HVR.out,HVB.out⟩,HVR.out,⟨by show inU 1;unfold inU;omega,HVB.out.sl,HVB.out.who⟩⟩ H6.out.1 H6.out.2 hml hqg hqw HNB.out;exact ⟨_,_,hbw,by simp⟩
       ·have hz':(z == 15)=false:=by simp [hz]
        clear hz;go_wp2_with fail
        go_meet
        exact ⟨_,[],HBW.out,by simp⟩
      case rest=>
       obtain ⟨pv,M,hbw,hM⟩:=hcut;clear HBW;have HBW:=lh hbw;clear hbw;obtain ⟨va,vcp,rfl,_,_⟩:=own_slice2 HBW.out.rv;obtain ⟨pa,pcp,rfl,_,_⟩:=own_slice2 HBW.out.rp;have hvl:L.length=(L.map Vx.v).length:=by simp
       have hpl2:M.length=(M.map fun x=>(x.1.v,x.2.v)).length:=by simp
       have hb:Blk wc gm (blC rt r bsl (.slice va (L.map Vx.v).length vcp) (.slice pa (M.map fun x=>(x.1.v,x.2.v)).length pcp)) 59:=by rw [← hvl,← hpl2];exact HBW.out.b
       obtain ⟨vs,hvs⟩ : ∃ vs,vs=L.map Vx.v:=⟨_,rfl⟩;obtain ⟨ps,hps⟩ : ∃ ps,ps=M.map fun x=>(x.1.v,x.2.v):=⟨_,rfl⟩;rw [← hvs,← hps] at hb;have c0:wc.cell? ⟨gm,0,none⟩=some (.int .u64 rt):=hb.at 0;have c1:wc.cell? ⟨gm,1,none⟩=some (.int .u64 r):=hb.at 1;have c2:wc.cell? ⟨gm,2,none⟩=some (.int .i64 bsl):=hb.at 2;have c3:wc.cell? ⟨gm,3,none⟩=some (.slice va vs.length vcp):=hb.at 3;have c4:wc.cell? ⟨gm,4,none⟩=some (.slice pa ps.length pcp):=hb.at 4;have HVS:=lh hvs;have HPS:=lh hps;clear hvs hps;clear hb hvl hpl2;go_wp2_with (refine wpList_store_blk HBW.out.es.b0 rfl (evC { ev0 with k:=1,r:=rt,q:=r,bs:=bsl,vs:=vs,ps:=ps } va vcp pa pcp none 0 none 0 none 0) ⟨_,_,rfl,rfl,rfl⟩ (by as_aux_lemma=>kernel_rfl) rfl (by simp [evC,ev0,Value.oneCell']) ?_;intro wz hbz hgz;have HBZ:=lh (And.intro hbz hgz);clear hbz hgz)
       have hcz:Chg (fun i=>i=q) wc wz:=Chg.one HBZ.out.2 rfl;refine bodyPost_ret (res_cell (cs:=evC { ev0 with k:=1,r:=rt,q:=r,bs:=bsl,vs:=vs,ps:=ps } va vcp pa pcp none 0 none 0 none 0) (r:=q) rfl rfl (run_loadVar_blk (off:=0) HBZ.out.1 _ Tryz.underlying68 rfl _ (by as_aux_lemma=>kernel_rfl) rfl)) rfl ?_;have hb0:=HBW.out.es.b0;have hwr : ∀ {y:Vx},WRow wc w0.heap.size y→WRow wz w0.heap.size y:=fun hy=>row_kept hy hcz hb0 (by decide);have hv1:=vs_of (row_kept HBW.out.rv hcz hb0 (by decide)) (fun x hx=>hwr (HBW.out.wv x hx).1);have hp1:=ps_of (row_kept HBW.out.rp hcz hb0 (by decide)) (fun x hx=>⟨hwr (HBW.out.wp x hx).1.1,hwr (HBW.out.wp x hx).2.1⟩);rw [← HVS.out] at hv1;rw [← HPS.out] at hp1;refine ⟨_,_,rfl,⟨.inr (.inl rfl),hrt,hr,?_,?_,?_,?_,vt0B,vt0B,vt0B⟩,⟨va,vcp,pa,pcp,none,0,none,0,none,0,rfl,hv1,hp1,(WhoAt.nil _ 0 0).1,(fun ad e=>by cases e),(WhoAt.nil _ 0 0).1,(fun ad e=>by cases e),(WhoAt.nil _ 0 0).1,(fun ad e=>by cases e)⟩,
        HBW.out.es.mm.chg hcz (by omega) (fun k hk e=>by have:=HNB.out k hk;omega),HBW.out.es.chg.then hcz (fun i e=>.inr (by omega))⟩
       ·show vs.length≤16;rw [HVS.out,List.length_map];omega
       ·show ps.length≤16;rw [HPS.out,List.length_map];omega
       ·intro v hv;have hv':v∈vs:=hv;rw [HVS.out] at hv';obtain ⟨x,hx,rfl⟩:=List.mem_map.1 hv';exact (HBW.out.wv x hx).2
       ·intro v hv;have hv':v∈ps:=hv;rw [HPS.out] at hv';obtain ⟨x,hx,rfl⟩:=List.mem_map.1 hv';exact ⟨(HBW.out.wp x hx).1.2,(HBW.out.wp x hx).2.2⟩
  | false=>
   cases hC:decide (k < 9) with
   | true=>
    go_upto_region 20 with (fail)
    go_wp2_with fail
    refine (mblock_calls HES.out.mm (HBL.out.1.chg HES.out.chg HBL.out.2)).mono ?_;rintro e w2 ⟨r,rfl,hr,_,hm,hc⟩;have hes:=HES.out.num hm hc hml;clear HES hm hc;have HES:=lh hes;clear hes;go_wp2_with fail
    refine (mnext_calls HES.out.mm HVF.out (n:=4) (by omega)).mono ?_;rintro e w3 ⟨x,rfl,hx0,hx1,hm,hg⟩;have hes:=HES.out.num hm (Chg.one hg rfl) hml;clear HES hm hg;have HES:=lh hes;clear hes;go_wp2_with fail
    have hsz3:=HES.out.chg.size;refine (vote_calls (H0.out.exch HES.out.chg (fun i e=>by rw [e];exact HX.out)) HI.out HB6.out HES.out.mm (HBL.out.1.chg HES.out.chg HBL.out.2) HX.out (fun k hk=>Nat.lt_of_lt_of_le (HNB.out k hk) hsz3) hr (by omega) (by omega)).mono ?_;rintro e w4 ⟨v,vw,vc,rfl,hvB,hvr,hm,hc⟩;obtain ⟨hvi,hva⟩:=who_row hvr;clear hvr;have hq3:q < w3.heap.size:=HES.out.b0.lt;have hes:=HES.out.num hm hc hml;have hwh:WhoAt w4 w3.heap.size w4.heap.size vw v.who:=⟨hvi,hva⟩;clear HES hm hc hvi hva;have HES:=lh hes;have HVB:=lh hvB;have HWH:=lh hwh;clear hes hvB hwh;obtain ⟨v0,v1,v2,v3,v4,v5,vs⟩:=v;unfold vtV;go_wp2_with (refine wpList_store_blk HES.out.b0 rfl (evC { ev0 with k:=2,v:=⟨v0,v1,v2,v3,v4,v5,vs⟩ } none 0 none 0 vw vc none 0 none 0) ⟨_,_,rfl,rfl,rfl⟩ (by as_aux_lemma=>kernel_rfl) rfl (by simp [evC,ev0,Value.oneCell']) ?_;intro wz hbz hgz;have HBZ:=lh (And.intro hbz hgz);clear hbz hgz)
    have hcz:Chg (fun i=>i=q) w4 wz:=Chg.one HBZ.out.2 rfl;have hwz:=HWH.out.chg hcz (fun i h1 _ e=>by omega);have hzz:=hcz.size;refine bodyPost_ret (res_cell (cs:=evC { ev0 with k:=2,v:=⟨v0,v1,v2,v3,v4,v5,vs⟩ } none 0 none 0 vw vc none 0 none 0) (r:=q) rfl rfl (run_loadVar_blk (off:=0) HBZ.out.1 _ Tryz.underlying68 rfl _ (by as_aux_lemma=>kernel_rfl) rfl)) rfl ?_;refine ⟨_,_,rfl,⟨.inr (.inr (.inl rfl)),?_,?_,by simp [ev0],by simp [ev0],by simp [ev0],by simp [ev0],HVB.out,vt0B,vt0B⟩,⟨none,0,none,0,vw,vc,none,0,none,0,rfl,.inl rfl,.inl rfl,hwz.1,(fun ad e=>(hwz.ok (by omega) hzz ad e).1),(WhoAt.nil _ 0 0).1,(fun ad e=>by cases e),(WhoAt.nil _ 0 0).1,(fun ad e=>by cases e)⟩,
     HES.out.mm.chg hcz (by omega) (fun k hk e=>by have:=HNB.out k hk;omega),HES.out.chg.then hcz (fun i e=>.inr (by omega))⟩
    ·show inU 0;unfold inU;omega
    ·show inU 0;unfold inU;omega
   | false=>
    go_upto_region 21 with (fail)
    go_wp2_with fail
    refine (mblock_calls HES.out.mm (HBL.out.1.chg HES.out.chg HBL.out.2)).mono ?_;rintro e w2 ⟨r,rfl,hr,_,hm,hc⟩;have hes:=HES.out.num hm hc hml;clear HES hm hc;have HES:=lh hes;clear hes;go_wp2_with fail
    have hsz2:=HES.out.chg.size;refine (vote_calls (H0.out.exch HES.out.chg (fun i e=>by rw [e];exact HX.out)) HI.out HB6.out HES.out.mm (HBL.out.1.chg HES.out.chg HBL.out.2) HX.out (fun k hk=>Nat.lt_of_lt_of_le (HNB.out k hk) hsz2) hr (by omega) (by omega)).mono ?_;rintro e w4 ⟨v,vw,vc,rfl,hvB,hvr,hm,hc⟩;obtain ⟨hvi,hva⟩:=who_row hvr;clear hvr;have hq3:q < w2.heap.size:=HES.out.b0.lt;have hes:=HES.out.num hm hc hml;have hwh:WhoAt w4 w2.heap.size w4.heap.size vw v.who:=⟨hvi,hva⟩;have hsz4:=hc.size;clear HES hm hc hvi hva;have HES:=lh hes;have HVB:=lh hvB;have HWH:=lh hwh;clear hes hvB hwh;obtain ⟨v0,v1,v2,v3,v4,v5,vs⟩:=v;unfold vtV;go_upto_region 23 with (fail)
    refine nmC2 ?_;intro W5 b1 b2 hz hg;have hq4:q < w4.heap.size:=HES.out.b0.lt;have hml4:mp < w4.heap.size:=HES.out.mm.lt;have hsz5:=hg.size;obtain ⟨qa,hq_qa⟩ : ∃ q,q=w4.heap.size:=⟨_,rfl⟩;rw [← hq_qa] at b1 b2 hz hq4 hml4 hsz4 hsz5 HWH ⊢;have HQ_qa:=lh hq_qa;clear hq_qa;change Blk W5 qa (vtC v0 v1 v2 v3 v4 v5 (.slice vw vs.length vc)) 64 at b1;change Blk W5 (qa+1) (vtC v0 v1 v2 v3 v4 v5 (.slice vw vs.length vc)) 64 at b2;have hwh:=HWH.out.chg (S:=fun _=>False) (Chg.of hg) (fun _ _ _ h=>h);have hq45:qa≤W5.heap.size:=hsz5;clear HWH hz;replace HES:=lh (HES.out.g hg);clear hg;have HB1:=lh b1;have HB2:=lh b2;have HWH:=lh hwh;clear b1 b2 hwh;go_wp2_with fail
    refine (mnext_calls HES.out.mm HVF.out (n:=4) (by omega)).mono ?_;rintro e w6 ⟨x,rfl,hx0,hx1,hm,hg⟩;have hc:Chg (fun i=>i=mp) W5 w6:=Chg.one hg rfl;have hs65:=hc.size;have hes:=HES.out.num hm hc hml;have hb1:=hc.blk HB1.out (by omega);have hb2:=hc.blk HB2.out (by omega);have hwh:=HWH.out.chg hc (fun i h1 _ e=>by omega);clear HES HB1 HB2 HWH hm hg hc;have d1:w6.cell? ⟨qa+1,1,none⟩=some (.int .u64 v1):=hb2.at 1;have f1:=hb2.fr 1;have HES:=lh hes;have HB1:=lh hb1;have HB2:=lh hb2;have HWH:=lh hwh;clear hes hb1 hb2 hwh;go_upto_region 24 with (fail)
    obtain ⟨t1,_,t3⟩:=sto1 1 (.int .u64 x) HB2.out;have hb2:Blk _ (qa+1) (vtC v0 x v2 v3 v4 v5 (.slice vw vs.length vc)) 64:=t1;have hb1:=HB1.out.kept t3 (by simp);have hes:=HES.out.new t3 (by omega) hml hqw HNB.out;have hs76:=t3.size;have hwh:=HWH.out.chg (S:=fun i=>i=qa+1) (Chg.one t3 rfl) (fun i _ h2 e=>by omega);clear HES HB1 HB2 HWH d1 f1 t1 t3;generalize w6.setCell ⟨qa+1,1,none⟩ (.int .u64 x)=w7 at hb1 hb2 hes hwh hs76 ⊢;have HES:=lh hes;have HB1:=lh hb1;have HB2:=lh hb2;have HWH:=lh hwh;clear hes hb1 hb2 hwh;go_wp2_with (first
     | refine wpList_load_blk (off:=0) HB1.out rfl _ rfl rfl _ Tryz.underlying64 rfl #[.int .i64 v0,.int .u64 v1,.int .i64 v2,.int .u64 v3,.int .i64 v4,.int .u64 v5,.slice vw vs.length vc] (by as_aux_lemma=>kernel_rfl) rfl ?_
     | refine wpList_load_blk (off:=0) HB2.out rfl _ rfl rfl _ Tryz.underlying64 rfl #[.int .i64 v0,.int .u64 x,.int .i64 v2,.int .u64 v3,.int .i64 v4,.int .u64 v5,.slice vw vs.length vc] (by as_aux_lemma=>kernel_rfl) rfl ?_
     | (refine wpList_store_blk HES.out.b0 rfl (evC { ev0 with k:=3,a:=⟨v0,v1,v2,v3,v4,v5,vs⟩,b:=⟨v0,x,v2,v3,v4,v5,vs⟩ } none 0 none 0 none 0 vw vc vw vc) ⟨_,_,rfl,rfl,rfl⟩ (by as_aux_lemma=>kernel_rfl) rfl (by simp [evC,ev0,Value.oneCell']) ?_;intro wz hbz hgz;have HBZ:=lh (And.intro hbz hgz);clear hbz hgz))
    have hcz:Chg (fun i=>i=q) w7 wz:=Chg.one HBZ.out.2 rfl;have hwz:=HWH.out.chg hcz (fun i h1 _ e=>by omega);have hzs:=hcz.size;have hzz:qa≤wz.heap.size:=by omega
    refine bodyPost_ret (res_cell (cs:=evC { ev0 with k:=3,a:=⟨v0,v1,v2,v3,v4,v5,vs⟩,b:=⟨v0,x,v2,v3,v4,v5,vs⟩ } none 0 none 0 none 0 vw vc vw vc) (r:=q) rfl rfl (run_loadVar_blk (off:=0) HBZ.out.1 _ Tryz.underlying68 rfl _ (by as_aux_lemma=>kernel_rfl) rfl)) rfl ?_;refine ⟨_,_,rfl,⟨.inr (.inr (.inr rfl)),?_,?_,by simp [ev0],by simp [ev0],by simp [ev0],by simp [ev0],vt0B,HVB.out,⟨?_,HVB.out.sl,HVB.out.who⟩⟩,⟨none,0,none,0,none,0,vw,vc,vw,vc,rfl,.inl rfl,.inl rfl,(WhoAt.nil _ 0 0).1,(fun ad e=>by cases e),hwz.1,(fun ad e=>(hwz.ok (by omega) hzz ad e).1),hwz.1,(fun ad e=>hwz.ok (by omega) hzz ad e)⟩,
     HES.out.mm.chg hcz (by omega) (fun k hk e=>by have:=HNB.out k hk;omega),HES.out.chg.then hcz (fun i e=>.inr (by omega))⟩
    ·show inU 0;unfold inU;omega
    ·show inU 0;unfold inU;omega
    ·show inU x;unfold inU;omega
end
end Go.Proofs.YtndfpmboanohcaaGreatDoor
