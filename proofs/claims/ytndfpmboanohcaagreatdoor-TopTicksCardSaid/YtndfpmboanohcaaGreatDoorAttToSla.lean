/- Contract of (*store.Store).attest. -/
import Derived.Test.YtndfpmboanohcaaGreatDoorAppToChs
namespace Go.Proofs.YtndfpmboanohcaaGreatDoor
set_option maxRecDepth 100000
open Go.RowKit Go.Maps SkipPure
def attE (σ:St) (v:Vt) (ins:Bool):Int:=
 if !rightF σ.bs.length σ.S v then 9
 else if decide (σ.slot < v.sl) || (!ins && v.sl == σ.slot) then 4
 else if !ins && decide (v.te+1 < eOf σ.slot σ.S) then 3
 else if !(σ.F v.hd).isSome || decide (v.sl < (getT σ.F v.hd).2.1) then 10
 else if atT σ.F σ.f v.hd (eStart v.te σ.S) != v.tr then 9
 else 0
def attC (σ:St) (cs:List Cg) (v:Vt) (ins:Bool):(Nat→Ent)×List Cg:=if attE σ v ins=0 then takeAll v.te v.hd σ.V cs v.who else (σ.V,cs)
theorem takeStep_len (e r:Int) (p:(Nat→Ent)×List Cg) (k:Int):(takeStep e r p k).2.length≤p.2.length+1:=by
 unfold takeStep;simp only;split <;> simp
theorem takeAll_len (e r:Int) : ∀ (ks:List Int) (V:Nat→Ent) (cs:List Cg),(takeAll e r V cs ks).2.length≤cs.length+ks.length
 | [],_,_=>by simp [takeAll]
 | k :: ks,V,cs=>by
  have h1:=takeStep_len e r (V,cs) k;have h2:=takeAll_len e r ks (takeStep e r (V,cs) k).1 (takeStep e r (V,cs) k).2;have e1:takeAll e r V cs (k :: ks)=takeAll e r (takeStep e r (V,cs) k).1 (takeStep e r (V,cs) k).2 ks:=rfl;rw [e1,List.length_cons];simp only at h1;omega
theorem take_succ' {α:Type} (xs:List α) (j:Nat) (h:j < xs.length) (d:α):xs.take (j+1)=xs.take j++[xs.getD j d]:=by
 rw [List.take_add_one,List.getD_eq_getElem?_getD];simp [h]
theorem rightF_who {N:Nat} {S:Int} {v:Vt} (h:rightF N S v=true) {j:Nat} (hj:j < v.who.length):0≤v.who.getD j 0∧v.who.getD j 0 < N:=by
 unfold rightF at h;simp only [Bool.and_eq_true,List.all_eq_true,List.mem_range] at h;have h1:=h.2 j hj;unfold wOk at h1;simp only [Bool.and_eq_true,decide_eq_true_eq] at h1;exact h1.1
theorem rightF_te {N:Nat} {S:Int} {v:Vt} (h:rightF N S v=true):v.te=eOf v.sl S∧0≤v.sl∧0≤v.se∧v.se≤v.te:=by
 unfold rightF at h;simp only [Bool.and_eq_true,decide_eq_true_eq,beq_iff_eq] at h;omega
section
variable {w:World} {I:Ids} {σ:St} {base:Nat} {cs:List Cg}
set_option maxHeartbeats 8000000 in
theorem attest_calls (h:SC w I σ base cs) (hw:StWf σ) {v:Vt} {aw:Option Addr} {ac:Nat} (ins:Bool) (hv:Ints .i64 w aw v.who) (ho : ∀ ad,aw=some ad→Out I w ad.block) (hhd:inU v.hd)
  (hsl:v.sl≤9223372036854775807) (hwl:v.who.length≤1000000) (hcl:cs.length≤1000000) :
  Calls Tryz.prog 37 #[.pointer (some ⟨I.p,0,none⟩),vtV v aw ac,.bool ins] w fun e w'=>e=.returned (errV (attE σ v ins))∧∃ ch,SC w' { I with ch:=ch } { σ with V:=(attC σ cs v ins).1 } base (attC σ cs v ins).2∧Stp I { I with ch:=ch } w w':=by
 obtain ⟨E,hE⟩ : ∃ E,E=attE σ v ins:=⟨_,rfl⟩;obtain ⟨PQ,hPQ⟩ : ∃ PQ,PQ=attC σ cs v ins:=⟨_,rfl⟩;rw [← hE,← hPQ];unfold attC at hPQ;rw [← hE] at hPQ;unfold attE at hE;obtain ⟨x0,x1,x2,x3,x4,x5,xs⟩:=v;simp only at hv hhd hsl hwl hE hPQ;unfold vtV;simp only;obtain ⟨R1,hR1⟩ : ∃ R1,R1=rightF σ.bs.length σ.S ⟨x0,x1,x2,x3,x4,x5,xs⟩:=⟨_,rfl⟩;obtain ⟨B2,hB2⟩ : ∃ B2,B2=(decide (σ.slot < x0) || (!ins && x0 == σ.slot)):=⟨_,rfl⟩;obtain ⟨En,hEn⟩ : ∃ En,En=eOf σ.slot σ.S:=⟨_,rfl⟩;rw [← hR1,← hB2,← hEn] at hE;obtain ⟨B3,hB3⟩ : ∃ B3,B3=(!ins && decide (x4+1 < En)):=⟨_,rfl⟩;obtain ⟨G,hG⟩ : ∃ G,G=getT σ.F x1:=⟨_,rfl⟩;obtain ⟨K,hK⟩ : ∃ K,K=(σ.F x1).isSome:=⟨_,rfl⟩;rw [← hB3,← hG,← hK] at hE;obtain ⟨B4,hB4⟩ : ∃ B4,B4=(!K || decide (x0 < G.2.1)):=⟨_,rfl⟩;obtain ⟨A,hA⟩ : ∃ A,A=atT σ.F σ.f x1 (eStart x4 σ.S):=⟨_,rfl⟩;rw [← hB4,← hA] at hE;obtain ⟨B5,hB5⟩ : ∃ B5,B5=(A != x5):=⟨_,rfl⟩;rw [← hB5] at hE;have HH:=lh h;have hpl:=h.mlt (.inl rfl:Mut I I.p);have hs0:=hw.s0;have hs1:=hw.s1;have hS1:=hw.may.s1;have hS2:=hw.may.s2;have hN1:=hw.may.l1;have hN2:=hw.may.l2;have hWF:=hw.tree;have HST:=lh (Stp.refl I w);clear h;obtain ⟨G0,G1,G2⟩:=G;simp only at hB4;have HV:=lh hv;have HO:=lh ho;have HE:=lh hE;have HPQ:=lh hPQ;have HR1:=lh hR1;have HB2:=lh hB2;have HEN:=lh hEn;have HB3:=lh hB3;have HGT:=lh hG;have HKT:=lh hK;have HB4:=lh hB4;have HA:=lh hA;have HB5:=lh hB5;have HW:=lh hw;have HWF:=lh hWF;clear hv ho hE hPQ hR1 hB2 hEn hB3 hG hK hB4 hA hB5 hw hWF;go_enter Tryz.func37,Tryz.ntmps37
 go_upto_region 1 with (fail)
 refine nmC1 ?_;intro W b0 hz hg;obtain ⟨q,hq_q⟩ : ∃ q,q=w.heap.size:=⟨_,rfl⟩;rw [← hq_q] at b0 hz hpl ⊢;have HQ_q:=lh hq_q;clear hq_q;have HB0:=lh b0;clear b0;replace HO:=lh (fun ad e=>(HO.out ad e).g hg);have HQO:=lh (HH.out.fresh hg (Nat.le_of_eq HQ_q.out.symm) HB0.out.lt);replace HH:=lh (HH.out.g hg);replace HV:=lh (HV.out.g hg);replace HST:=lh (HST.out.g hg);clear hg hz;replace HH:=lh (HH.out.g (gdrew (gR _ none)));replace HB0:=lh (HB0.out.g (gdrew (gR _ none)));replace HV:=lh (HV.out.g (gdrew (gR _ none)));replace HST:=lh (HST.out.g (gdrew (gR _ none)));replace HQO:=lh (HQO.out.g (gdrew (gR _ none)));replace HO:=lh (fun ad e=>(HO.out ad e).g (gdrew (gR _ none)));have c3:=HH.out.s3;have d1:=HB0.out.at 1
 go_region_held3 (fun w'=>w'.cell? ⟨I.p,3,none⟩=some (.pointer (some ⟨I.tp,0,none⟩))∧w'.cell? ⟨q,1,none⟩=some (.int .u64 x1)) (go_keep)
  (first
    | (go_at_call 33
       refine (tget_calls HH.out.tree hhd).mono ?_;rintro e wg ⟨rfl,hgg⟩;rw [← HGT.out,← HKT.out];replace HH:=lh (HH.out.g hgg);replace HB0:=lh (HB0.out.g hgg);replace HV:=lh (HV.out.g hgg);replace HST:=lh (HST.out.g hgg);replace HQO:=lh (HQO.out.g hgg);replace HO:=lh (fun ad e=>(HO.out ad e).g hgg);clear hgg c3 d1;have c3:=HH.out.s3;have d1:=HB0.out.at 1))
 clear c3 d1;go_upto_region 2 with (fail)
 replace HH:=lh (HH.out.g (gdrew (gR _ none)));replace HB0:=lh (HB0.out.g (gdrew (gR _ none)));replace HV:=lh (HV.out.g (gdrew (gR _ none)));replace HST:=lh (HST.out.g (gdrew (gR _ none)));replace HQO:=lh (HQO.out.g (gdrew (gR _ none)));replace HO:=lh (fun ad e=>(HO.out ad e).g (gdrew (gR _ none)));have c5:=HH.out.s5;have c1:=HH.out.s1
 go_region_held3 (fun w'=>w'.cell? ⟨I.p,5,none⟩=some (.int .i64 σ.slot)∧w'.cell? ⟨I.p,1,none⟩=some (.int .i64 σ.S)) (go_keep)
  (first
    | (go_at_call 47
       refine (eof_calls _ _ _ (by omega) (by omega)).mono ?_;rintro e wh ⟨rfl,rfl⟩;rw [← HEN.out]))
 clear c5 c1;go_upto_region 3 with (fail)
 generalize wg.drew=W2 at HH HB0 HV HST HQO HO ⊢;replace HH:=lh (HH.out.g (gdrew (gR _ none)));replace HB0:=lh (HB0.out.g (gdrew (gR _ none)));replace HV:=lh (HV.out.g (gdrew (gR _ none)));replace HST:=lh (HST.out.g (gdrew (gR _ none)));replace HQO:=lh (HQO.out.g (gdrew (gR _ none)));replace HO:=lh (fun ad e=>(HO.out ad e).g (gdrew (gR _ none)));have c0:=HH.out.s0;have c1:=HH.out.s1;have c2:=HH.out.s2;have d0:=HB0.out.at 0;have d1:=HB0.out.at 1;have d2:=HB0.out.at 2;have d3:=HB0.out.at 3;have d4:=HB0.out.at 4;have d5:=HB0.out.at 5;have d6:=HB0.out.at 6;have HRC:=lh fun (w:World) (hv:Ints .i64 w aw xs)=>right_calls (w:=w) (a:=I.ba) (c:=I.bc) (S:=σ.S) (B:=σ.B) (bs:=σ.bs) (v:=⟨x0,x1,x2,x3,x4,x5,xs⟩) (c2:=ac) hv hsl (by omega) hwl;unfold vtV cfgV at HRC;simp only at HRC
 go_region_held3 (fun w'=>w'.cell? ⟨I.p,0,none⟩=some (.slice I.ba σ.bs.length I.bc)∧w'.cell? ⟨I.p,1,none⟩=some (.int .i64 σ.S)∧w'.cell? ⟨I.p,2,none⟩=some (.int .i64 σ.B) ∧
   w'.cell? ⟨q,0,none⟩=some (.int .i64 x0)∧w'.cell? ⟨q,1,none⟩=some (.int .u64 x1)∧w'.cell? ⟨q,2,none⟩=some (.int .i64 x2)∧w'.cell? ⟨q,3,none⟩=some (.int .u64 x3)∧w'.cell? ⟨q,4,none⟩=some (.int .i64 x4)∧w'.cell? ⟨q,5,none⟩=some (.int .u64 x5)∧w'.cell? ⟨q,6,none⟩=some (.slice aw xs.length ac)) (go_keep)
  (first
    | (go_at_call 56
       refine (HRC.out _ HV.out).mono ?_;rintro e wg ⟨rfl,hgg⟩;rw [← HR1.out];replace HH:=lh (HH.out.g hgg);replace HB0:=lh (HB0.out.g hgg);replace HV:=lh (HV.out.g hgg);replace HST:=lh (HST.out.g hgg);replace HQO:=lh (HQO.out.g hgg);replace HO:=lh (fun ad e=>(HO.out ad e).g hgg);clear hgg c0 c1 c2 d0 d1 d2 d3 d4 d5 d6;have c0:=HH.out.s0;have c1:=HH.out.s1;have c2:=HH.out.s2;have d0:=HB0.out.at 0;have d1:=HB0.out.at 1;have d2:=HB0.out.at 2;have d3:=HB0.out.at 3;have d4:=HB0.out.at 4;have d5:=HB0.out.at 5;have d6:=HB0.out.at 6))
 clear c0 c1 c2 d0 d1 d2 d3 d4 d5 d6 HRC;have he0:E≠0→PQ=(σ.V,cs):=fun h=>by rw [HPQ.out,if_neg h]
 have hfail : ∀ (W:World) (k:Int),E=k→k≠0→SC W I σ base cs→Stp I I w W→Ending.returned (errV k)=Ending.returned (errV E)∧∃ ch,SC W { I with ch:=ch } { σ with V:=PQ.1 } base PQ.2∧Stp I { I with ch:=ch } w W:=fun W k hk h0 h1 h2=>by
  have e:=he0 (by rw [hk];exact h0);rw [e,hk];exact ⟨rfl,I.ch,h1,h2⟩
 have HFAIL:=lh hfail;clear he0 hfail;cases R1
 ·go_wp2_with fail
  go_ret;exact HFAIL.out _ 9 (by rw [HE.out];rfl) (by decide) HH.out HST.out
 simp only [Bool.not_true];go_upto_region 5 with (fail)
 go_cut [47] (fun s47 wx=>s47=.bool B2∧wg.grownBy wx none)
 case first=>
  have d0:=HB0.out.at 0;have c5:=HH.out.s5;by_cases h1:σ.slot < x0
  ·have HB:Hid (B2=true):=lh (by rw [HB2.out,decide_eq_true h1];rfl);have h1':decide (σ.slot < x0)=true:=decide_eq_true h1;clear h1;go_quiet (fail)
   go_wp2_with fail
   go_meet
   exact ⟨by rw [HB.out],drewN_grown _ _⟩
  ·have h1':decide (σ.slot < x0)=false:=decide_eq_false h1;cases ins
   ·by_cases h2:x0=σ.slot
    ·have HB:Hid (B2=true):=lh (by rw [HB2.out,h1',h2];simp);have h2':(x0 == σ.slot)=true:=by simp [h2]
     clear h1 h2;go_quiet (fail)
     go_wp2_with fail
     go_meet
     exact ⟨by rw [HB.out],drewN_grown _ _⟩
    ·have h2':(x0 == σ.slot)=false:=by simp [h2]
     have HB:Hid (B2=false):=lh (by rw [HB2.out,h1',h2'];rfl);clear h1 h2;go_quiet (fail)
     go_wp2_with fail
     go_meet
     exact ⟨by rw [HB.out],drewN_grown _ _⟩
   ·have HB:Hid (B2=false):=lh (by rw [HB2.out,h1'];rfl);clear h1;go_quiet (fail)
    go_wp2_with fail
    go_meet
    exact ⟨by rw [HB.out],drewN_grown _ _⟩
 case rest=>
  obtain ⟨rfl,hgg⟩:=hcut;replace HH:=lh (HH.out.g hgg);replace HB0:=lh (HB0.out.g hgg);replace HV:=lh (HV.out.g hgg);replace HST:=lh (HST.out.g hgg);replace HQO:=lh (HQO.out.g hgg);replace HO:=lh (fun ad e=>(HO.out ad e).g hgg);clear hgg;cases B2
  case true=>
   go_wp2_with fail
   go_ret;exact HFAIL.out _ 4 (by rw [HE.out];rfl) (by decide) HH.out HST.out
  have hte:0≤x4∧x4≤1099511627776:=by
   have h1:=rightF_te HR1.out.symm;simp only at h1;have h2:=eOf_nonneg x0 σ.S;have h3:=eOf_le x0 σ.S;have h4:¬ σ.slot < x0:=fun h=>by have:=HB2.out;rw [decide_eq_true h] at this;simp at this
   omega
  go_upto_region 7 with (fail)
  go_cut [69] (fun s69 wx=>s69=.bool B3∧wc=wx)
  case first=>
   have d4:=HB0.out.at 4;cases ins
   ·have HB:Hid (B3=decide (x4+1 < En)):=lh (by rw [HB3.out];rfl);go_wp2_with fail
    go_meet
    exact ⟨by rw [HB.out],rfl⟩
   ·have HB:Hid (B3=false):=lh (by rw [HB3.out];rfl);go_wp2_with fail
    go_meet
    exact ⟨by rw [HB.out],rfl⟩
  case rest=>
   obtain ⟨rfl,rfl⟩:=hcut;cases B3
   case true=>
    go_wp2_with fail
    go_ret;exact HFAIL.out _ 3 (by rw [HE.out];rfl) (by decide) HH.out HST.out
   go_upto_region 9 with (fail)
   go_cut [81] (fun s81 wx=>s81=.bool B4∧wc=wx)
   case first=>
    have d0:=HB0.out.at 0;cases K
    ·have HB:Hid (B4=true):=lh (by rw [HB4.out];rfl);go_wp2_with fail
     go_meet
     exact ⟨by rw [HB.out],rfl⟩
    ·have HB:Hid (B4=decide (x0 < G1)):=lh (by rw [HB4.out];rfl);go_wp2_with fail
     go_meet
     exact ⟨by rw [HB.out],rfl⟩
   case rest=>
    obtain ⟨rfl,rfl⟩:=hcut;cases B4
    case true=>
     go_wp2_with fail
     go_ret;exact HFAIL.out _ 10 (by rw [HE.out];rfl) (by decide) HH.out HST.out
    go_upto_region 11 with (fail)
    obtain ⟨T,hT⟩ : ∃ T,T=eStart x4 σ.S:=⟨_,rfl⟩;have hA2:=HA.out;rw [← hT] at hA2;have hTb:eStart x4 σ.S≤9223372036854775807:=eStart_le (by omega) hS2;have HT:=lh hT;have HA2:=lh hA2;clear hT hA2
    go_cut [91] (fun s91 wx=>s91=.bool B5∧wc.grownBy wx none)
    case first=>
     have HGG:=lh (gdrew (gR wc none));replace HH:=lh (HH.out.g (gdrew (gR _ none)));replace HB0:=lh (HB0.out.g (gdrew (gR _ none)));have c1:=HH.out.s1;have c3:=HH.out.s3;have d1:=HB0.out.at 1;have d4:=HB0.out.at 4;have d5:=HB0.out.at 5
     go_region_held3 (fun w'=>w'.cell? ⟨I.p,1,none⟩=some (.int .i64 σ.S)∧w'.cell? ⟨I.p,3,none⟩=some (.pointer (some ⟨I.tp,0,none⟩))∧w'.cell? ⟨q,1,none⟩=some (.int .u64 x1)∧w'.cell? ⟨q,4,none⟩=some (.int .i64 x4)∧w'.cell? ⟨q,5,none⟩=some (.int .u64 x5)) (go_keep)
      (first
        | (go_at_call 49
           refine (estart_calls _ _ _ hTb).mono ?_;rintro e wh ⟨rfl,rfl⟩;rw [← HT.out])
        | (go_at_call 48
           refine (tat_calls HH.out.tree HWF.out hhd T).mono ?_;rintro e wh ⟨rfl,hgg⟩;rw [← HA2.out];replace HH:=lh (HH.out.g hgg);replace HB0:=lh (HB0.out.g hgg);replace HGG:=lh (g2 HGG.out hgg);clear hgg c1 c3 d1 d4 d5;have c1:=HH.out.s1;have c3:=HH.out.s3;have d1:=HB0.out.at 1;have d4:=HB0.out.at 4;have d5:=HB0.out.at 5))
     all_goals
      have HB:Hid ((A != x5)=B5):=lh HB5.out.symm;go_wp2_with fail
      go_meet
      exact ⟨by rw [← HB.out],HGG.out⟩
    case rest=>
     obtain ⟨rfl,hgg⟩:=hcut;replace HH:=lh (HH.out.g hgg);replace HB0:=lh (HB0.out.g hgg);replace HV:=lh (HV.out.g hgg);replace HST:=lh (HST.out.g hgg);replace HQO:=lh (HQO.out.g hgg);replace HO:=lh (fun ad e=>(HO.out ad e).g hgg);clear hgg HA2 HT hTb;cases B5
     case true=>
      go_wp2_with fail
      go_ret;exact HFAIL.out _ 9 (by rw [HE.out];rfl) (by decide) HH.out HST.out
     have hE0:E=0:=by rw [HE.out];rfl
     have hP0:=HPQ.out;rw [if_pos hE0] at hP0;have hwho : ∀ j,j < xs.length→0≤xs.getD j 0∧xs.getD j 0 < (σ.bs.length:Int):=fun j hj=>rightF_who HR1.out.symm hj;clear HFAIL;have HP0:=lh hP0;have HWHO:=lh hwho;have HE0:=lh hE0;clear hP0 hwho hE0;clear HPQ HE HA HB5 HB4 HB3 HB2;go_upto_region 13 with (fail)
     have d6:=HB0.out.at 6;go_wp2_with fail
     clear d6;have hvbd:=HH.out.votes;clear hvbd
     go_loopw [116] (fun v116 wr=>∃ (j:Nat),v116=.int .i64 (j:Int)∧j≤xs.length∧∃ (ch:Value),SC wr { I with ch:=ch } { σ with V:=(takeAll x4 x1 σ.V cs (xs.take j)).1 } base (takeAll x4 x1 σ.V cs (xs.take j)).2 ∧
       Stp I { I with ch:=ch } w wr∧Blk wr q #[.int .i64 x0,.int .u64 x1,.int .i64 x2,.int .u64 x3,.int .i64 x4,.int .u64 x5,.slice aw xs.length ac] 64∧Out { I with ch:=ch } wr q∧Ints .i64 wr aw xs∧(∀ ad,aw=some ad→Out { I with ch:=ch } wr ad.block)) (fun v116 _=>xs.length - (intOf v116).toNat)
     case atStart=>exact ⟨0,rfl,by omega,I.ch,HH.out,HST.out,HB0.out,HQO.out,HV.out,HO.out⟩
     case round=>
      obtain ⟨j,rfl,hj,ch,hsc,hst,hb0,hqo,hv,ho⟩:=hrel;clear HH HST HB0 HQO HV HO;have HH:=lh hsc;have HST:=lh hst;have HB0:=lh hb0;have HQO:=lh hqo;have HV:=lh hv;have HO:=lh ho;clear hsc hst hb0 hqo hv ho;by_cases hlt:j < xs.length
      ·obtain ⟨ad,rfl,hc⟩:=HV.out j hlt;have hk:=HWHO.out j hlt;have hnx:=takeAll_snoc x4 x1 σ.V cs (xs.take j) (xs.getD j 0);rw [← take_succ' xs j hlt 0] at hnx;have hln:=takeAll_len x4 x1 (xs.take j) σ.V cs;have hlj:(xs.take j).length≤1000000:=by rw [List.length_take];omega
       obtain ⟨P,hP⟩ : ∃ P,P=takeAll x4 x1 σ.V cs (xs.take j):=⟨_,rfl⟩;obtain ⟨P2,hP2⟩ : ∃ P2,P2=takeAll x4 x1 σ.V cs (xs.take (j+1)):=⟨_,rfl⟩;rw [← hP] at HH hnx hln;rw [← hP2] at hnx;obtain ⟨k,hke⟩ : ∃ k,k=xs.getD j 0:=⟨_,rfl⟩;rw [← hke] at hk hnx hc;obtain ⟨i,hi⟩ : ∃ i:Nat,k=(i:Int):=⟨k.toNat,by omega⟩;rw [hi] at hk hnx hc;have hi2:i < σ.bs.length:=by omega
       have HNX:=lh hnx;have HP2:=lh hP2;clear hnx hP2;clear hP hke hi;have c4:=HH.out.s4;obtain ⟨fm,hfm⟩ : ∃ fm,fm=frmE (P.1 i):=⟨_,rfl⟩;obtain ⟨hd,hhd2⟩ : ∃ hd,hd=hadE (P.1 i):=⟨_,rfl⟩;obtain ⟨TB,hTB⟩ : ∃ TB,TB=takeB (P.1 i) x4:=⟨_,rfl⟩;have HGET:Hid (Calls Tryz.prog 57 #[.slice (some ⟨I.vb,0,none⟩) σ.bs.length σ.bs.length,.int .i64 i] wr fun z w'=>z=.returned (.tuple #[.int .u64 fm,.bool hd])∧wr=w'):=lh (by rw [hfm,hhd2];exact get_in HH.out.votes hN2 hi2);have HTK:=lh fun (w:World) (V:Nat→Ent) (hv:VAt w I.vb σ.bs.length V)=>take_any hv hN2 hi2 x4 x1;have hnx2:P2=(takeV P.1 i x4 x1,if TB then P.2++[⟨1,x1,0,(i:Int),fm,hd⟩] else P.2):=by rw [HNX.out,hfm,hhd2,hTB];unfold takeStep;simp only [Int.toNat_natCast]
       have HNX2:=lh hnx2;have HTB:=lh hTB;clear hnx2 hTB;clear hfm hhd2 HNX;go_upto_region 16 with (fail)
       go_wp2_with fail
       refine HGET.out.mono ?_;rintro e w2 ⟨rfl,rfl⟩;clear c4 HGET;go_upto_region 17 with (fail)
       replace HH:=lh (HH.out.g (gdrew (gR _ none)));replace HB0:=lh (HB0.out.g (gdrew (gR _ none)));replace HV:=lh (HV.out.g (gdrew (gR _ none)));replace HST:=lh (HST.out.g (gdrew (gR _ none)));replace HQO:=lh (HQO.out.g (gdrew (gR _ none)));replace HO:=lh (fun ad e=>(HO.out ad e).g (gdrew (gR _ none)));have c4:_=some (Value.slice (some ⟨I.vb,0,none⟩) σ.bs.length σ.bs.length):=HH.out.s4;have d1:=HB0.out.at 1;have d4:=HB0.out.at 4
       go_region_held3 (fun w'=>w'.cell? ⟨I.p,4,none⟩=some (.slice (some ⟨I.vb,0,none⟩) σ.bs.length σ.bs.length)∧w'.cell? ⟨q,1,none⟩=some (.int .u64 x1)∧w'.cell? ⟨q,4,none⟩=some (.int .i64 x4)) (go_keep)
        (first
          | (go_at_call 58
             refine (HTK.out _ _ HH.out.votes).mono ?_;rintro e w2 ⟨rfl,hva,hgr⟩;have hv2:=HH.out.voted hva hgr;have hb2:=hv2.2.blk HB0.out HQO.out;have hq2:=hv2.2.out HQO.out;have hi2:=hv2.2.ints HV.out HO.out;have ho2:=fun ad e=>hv2.2.out (HO.out ad e);have hs2:=HST.out.trans hv2.2;have hc2:=hv2.1;clear HH HB0 HV HST HQO HO hva hgr hv2 c4 d1 d4;have HH:=lh hc2;have HB0:=lh hb2;have HV:=lh hi2;have HST:=lh hs2;have HQO:=lh hq2;have HO:=lh ho2;clear hc2 hb2 hi2 hs2 hq2 ho2;simp only at HH;rw [← HTB.out];have c4:_=some (Value.slice (some ⟨I.vb,0,none⟩) σ.bs.length σ.bs.length):=HH.out.s4;have d1:=HB0.out.at 1;have d4:=HB0.out.at 4))
       clear c4 d1 d4;cases TB
       ·go_wp2_with fail
        refine ⟨⟨j+1,by simp,by omega,ch,?_,HST.out,HB0.out,HQO.out,HV.out,HO.out⟩,by simp [intOf];omega⟩;rw [← HP2.out,HNX2.out];exact HH.out
       ·go_upto_region 18 with (fail)
        replace HH:=lh (HH.out.g (gdrew (gR _ none)));replace HB0:=lh (HB0.out.g (gdrew (gR _ none)));replace HV:=lh (HV.out.g (gdrew (gR _ none)));replace HST:=lh (HST.out.g (gdrew (gR _ none)));replace HQO:=lh (HQO.out.g (gdrew (gR _ none)));replace HO:=lh (fun ad e=>(HO.out ad e).g (gdrew (gR _ none)));obtain ⟨i0,hi0⟩:=elem_chg;have hcm:some I.p≠ch.ownBlock:=fun e=>HH.out.chm (.inl rfl:Mut I I.p) e.symm;have hqm:some q≠ch.ownBlock:=fun e=>HQO.out.c e.symm;have hN0:0 < σ.bs.length:=by omega
        have HI:=lh hi0;have HCM:=lh hcm;have HQM:=lh hqm;clear hi0 hcm hqm;refine wp_region_last (fun wr=>World.grownBy w2.drew wr ch.ownBlock) 15 (by as_aux_lemma=>kernel_rfl) ((gR _ _)) ?_;intro hS;generalize w2.drew=wd at HH HB0 HV HST HQO HO hS ⊢;have TK:=lh fun w (hSw:(fun wr=>World.grownBy wd wr ch.ownBlock) w)=>And.intro (show w.cell? ⟨I.p,13,none⟩=some ch from hSw.cell HH.out.s13 HCM.out) <| show w.cell? ⟨q,1,none⟩=some (.int .u64 x1) from hSw.cell (HB0.out.at 1) HQM.out
        refine tL 0 ?_;simp only [zz];refine tL 1 ?_;simp only [zz];refine tL 2 ?_;simp only [zz];refine tL 3 ?_;simp only [zz];refine tL 4 ?_;simp only [zz];refine tL 5 ?_;simp only [zz];refine tL 6 ?_;simp only [zz];refine tL 7 ?_;simp only [zz];refine tL 8 ?_;simp only [zz];refine tL 9 ?_;simp only [zz];refine tL 10 ?_;simp only [zz];refine rL 11 fun K hK=>?_;go_simp;refine nmA1 ?_;intro wm hmb hgg;generalize hgm:wd.heap.size=gm at hmb ⊢;have hS2:World.grownBy wd wm ch.ownBlock:=gweak hgg;have HMB:=lh hmb;have HGG:=lh hgg;clear hmb hgg;clear hgm;refine hK.out _ _ (.inl hS2) ?_;replace hS:=hS2;clear hK K hS2;try simp only [zz]
        refine rL 12 fun K hK=>?_;have hbs:=HH.out.bl;have hgz:=HGG.out.size;refine wp_append_lies _ _ _ 76 (by rfl) base 178 i0 (.agg #[.int .i64 0,.int .u64 0,.int .u64 0,.int .i64 0,.int .u64 0,.bool false]) 6 48 Tryz.underlying76 HI.out.1 HI.out.2.1 HI.out.2.2.1 HI.out.2.2.2 rfl (by decide) ch P.2.length (cgRow P.2) (by rfl) (ownsRow_g HH.out.row HGG.out) ⟨gm,0,none⟩ 1 1 [.int .i64 1,.int .u64 x1,.int .u64 0,.int .i64 (i:Int),.int .u64 fm,.bool hd] (by rfl) (by rfl) (World.news_of_block HMB.out) (by simp [Value.oneCell']) (by omega) (by unfold maxLen;omega) (by omega) (by omega) _ rfl ?_;intro g5 c5 w5 h5 hg5 hat5 hlt5;have hS2:World.grownBy wd w5 ch.ownBlock:=hS.andThen hg5 (fun _ e=>.inr e);have hat6:ch.ownBlock=some g5∨wd.heap.size≤g5:=hat5.imp id (fun e=>by omega);have HAPP:=lh h5;have HAT:=lh hat6;have HLT:=lh hlt5;clear h5 hat6 hlt5;clear hg5 hat5 hbs hgz;refine hK.out _ _ (.inl hS2) ?_;replace hS:=hS2;clear hK K hS2;try simp only [zz]
        refine rL 13 fun K hK=>?_;go_simp;have hS2:=hS;refine hK.out _ _ (.inl hS2) ?_;replace hS:=hS2;clear hK K hS2;try simp only [zz]
        refine tL 14 ?_;simp only [zz];refine rL 15 fun K hK=>?_;have d13:w5.cell? ⟨I.p,13,none⟩=some ch:=hS.cell HH.out.s13 HCM.out;have f13:w5.frozen? ⟨I.p,13,none⟩=false:=(HH.out.st.blk.kept hS (fun e=>HCM.out e.symm)).fr 13;go_simp;refine hK.out _ _ (.inr rfl) ?_;clear hK K;try simp only [zz]
        refine dL ?_ _;obtain ⟨hsc,hst⟩:=HH.out.push hN0 (x:=⟨1,x1,0,(i:Int),fm,hd⟩) hS HAT.out HLT.out HAPP.out;have hb2:=hst.blk HB0.out HQO.out;have hq2:=hst.out HQO.out;have hi3:=hst.ints HV.out HO.out;have ho2:=fun ad e=>hst.out (HO.out ad e);have hs2:=HST.out.trans hst;generalize w5.setCell ⟨I.p,13,none⟩ (.slice (some ⟨g5,0,none⟩) (P.2.length+1) c5)=w6 at hsc hb2 hq2 hi3 ho2 hs2 ⊢;clear HH HB0 HV HST HQO HO hst HAPP HAT HLT HMB HGG hS;have HH:=lh hsc;have HB0:=lh hb2;have HV:=lh hi3;have HST:=lh hs2;have HQO:=lh hq2;have HO:=lh ho2;clear hsc hb2 hi3 hs2 hq2 ho2;go_wp2_with fail
        refine ⟨⟨j+1,by simp,by omega,_,?_,HST.out,HB0.out,HQO.out,HV.out,HO.out⟩,by simp [intOf];omega⟩;rw [← HP2.out,HNX2.out];exact HH.out
      ·have hje:j=xs.length:=by omega
       subst hje;rw [List.take_length,← HP0.out] at HH;go_wp2_with fail
       go_ret;exact ⟨by rw [HE0.out];rfl,ch,HH.out,HST.out⟩
end
def banV (V:Nat→Ent) (i:Nat):Nat→Ent:=if (V i).b then V else vset V i { V i with b:=true }
section
variable {w:World} {g n:Nat} {V:Nat→Ent}
theorem ban_any (h:VAt w g n V) (hn:n≤4096) {i:Nat} (hi:i < n) :
  Calls Tryz.prog 60 #[.slice (some ⟨g,0,none⟩) n n,.int .i64 i] w fun z w'=>z=.returned (.bool (!(V i).b))∧VAt w' g n (banV V i)∧w.grownBy w' (some g):=by
 unfold banV;cases hb:(V i).b with
 | true=>
  refine (ban_no h hn hi hb).mono ?_;rintro z w' ⟨rfl,rfl⟩;exact ⟨rfl,h,gR _ _⟩
 | false=>
  refine (ban_yes h hn hi hb).mono ?_;rintro z w' ⟨rfl,h1,h2⟩;exact ⟨rfl,h1,h2⟩
end
theorem banStep_len (p:(Nat→Ent)×List Cg) (k:Int):(banStep p k).2.length≤p.2.length+1:=by
 unfold banStep;split <;> simp
theorem banAll_len : ∀ (ks:List Int) (V:Nat→Ent) (cs:List Cg),(banAll V cs ks).2.length≤cs.length+ks.length
 | [],_,_=>by simp [banAll]
 | k :: ks,V,cs=>by
  have h1:=banStep_len (V,cs) k;have h2:=banAll_len ks (banStep (V,cs) k).1 (banStep (V,cs) k).2;have e1:banAll V cs (k :: ks)=banAll (banStep (V,cs) k).1 (banStep (V,cs) k).2 ks:=rfl;rw [e1,List.length_cons];simp only at h1;omega
theorem bothR_mem (us vs:List Int) : ∀ j,j≤us.length→∀ k∈bothR us vs j,k∈us
 | 0,_,k,h=>by simp [bothR] at h
 | j+1,hj,k,h=>by
  unfold bothR at h;split at h
  ·rcases List.mem_append.1 h with h | h
   ·exact bothR_mem us vs j (by omega) k h
   ·rw [List.mem_singleton.1 h,List.getD_eq_getElem?_getD,List.getElem?_eq_getElem (by omega)];simp
  ·exact bothR_mem us vs j (by omega) k h
theorem shownF_mem {N:Nat} {S:Int} {a b:Vt} {k:Int} (h:k∈shownF N S a b):0≤k∧k < N:=by
 unfold shownF at h;split at h
 ·rename_i hc
  simp only [Bool.and_eq_true] at hc;unfold bothF at h;rw [List.mem_mergeSort] at h;have h1:=bothR_mem _ _ _ (Nat.le_refl _) k h;obtain ⟨j,hj,e⟩:=List.getElem_of_mem h1;have h2:=rightF_who hc.1.1 hj;rw [List.getD_eq_getElem?_getD,List.getElem?_eq_getElem hj] at h2;simp only [Option.getD_some] at h2;omega
 ·cases h
theorem shownF_len {N:Nat} {S:Int} {a b:Vt}:(shownF N S a b).length≤a.who.length:=by
 unfold shownF;split
 ·unfold bothF;rw [List.length_mergeSort];exact bothR_len _ _ _
 ·simp
def prC (a b:Vt) (aw bw:Option Addr) (ac bc:Nat):Array Value:=#[.int .i64 a.sl,.int .u64 a.hd,.int .i64 a.se,.int .u64 a.sr,.int .i64 a.te,.int .u64 a.tr,.slice aw a.who.length ac,
 .int .i64 b.sl,.int .u64 b.hd,.int .i64 b.se,.int .u64 b.sr,.int .i64 b.te,.int .u64 b.tr,.slice bw b.who.length bc]
section
variable {w:World} {I:Ids} {σ:St} {base:Nat} {cs:List Cg}
set_option maxHeartbeats 8000000 in
theorem slash_calls (h:SC w I σ base cs) (hw:StWf σ) {a b:Vt} {aw bw:Option Addr} {ac bc:Nat} (ha:Ints .i64 w aw a.who) (hb:Ints .i64 w bw b.who) (hbs : ∀ ad,bw=some ad→ad.spot=none) (hal:a.who.length≤1000000) (hbl:b.who.length≤1000000)
  (has:a.sl≤9223372036854775807) (hbsl:b.sl≤9223372036854775807) (hcl:cs.length≤1000000) :
  Calls Tryz.prog 38 #[.pointer (some ⟨I.p,0,none⟩),.agg (prC a b aw bw ac bc)] w fun e w'=>e=.returned (errV (shownE σ.bs.length σ.S a b))∧∃ ch,SC w' { I with ch:=ch } { σ with V:=(banAll σ.V cs (shownF σ.bs.length σ.S a b)).1 } base (banAll σ.V cs (shownF σ.bs.length σ.S a b)).2∧Stp I { I with ch:=ch } w w':=by
 have HH:=lh h;have hpl:=h.mlt (.inl rfl:Mut I I.p);have hN1:=hw.may.l1;have hN2:=hw.may.l2;have hS2:=hw.may.s2;have HST:=lh (Stp.refl I w);obtain ⟨E,hE⟩ : ∃ E,E=shownE σ.bs.length σ.S a b:=⟨_,rfl⟩;obtain ⟨L,hL⟩ : ∃ L,L=shownF σ.bs.length σ.S a b:=⟨_,rfl⟩;have hLm : ∀ k∈L,0≤k∧k < (σ.bs.length:Int):=fun k hk=>by rw [hL] at hk;exact shownF_mem hk
 have hLl:L.length≤1000000:=by rw [hL];exact Nat.le_trans shownF_len hal
 have hsh:=fun (w:World) (ha:Ints .i64 w aw a.who) (hb:Ints .i64 w bw b.who)=>shown_calls (ca:=I.ba) (cc:=I.bc) (ac:=ac) (bc:=bc) (S:=σ.S) (B:=σ.B) (bs:=σ.bs) ha hb hbs hal hbl has hbsl (by omega);rw [← hE,← hL] at hsh ⊢;have HA:=lh ha;have HB:=lh hb;have HSH:=lh hsh;have HLM:=lh hLm;clear ha hb hsh hLm;clear h hE hL;unfold cfgV at HSH;go_enter Tryz.func38,Tryz.ntmps38
 go_upto_region 1 with (fail)
 refine nmC1 ?_;intro W b0 hz hg;obtain ⟨q,hq_q⟩ : ∃ q,q=w.heap.size:=⟨_,rfl⟩;rw [← hq_q] at b0 hz hpl ⊢;have HQ_q:=lh hq_q;clear hq_q;change Blk W q (prC a b aw bw ac bc) 66 at b0;have HB0:=lh b0;clear b0;replace HH:=lh (HH.out.g hg);replace HST:=lh (HST.out.g hg);replace HA:=lh (HA.out.g hg);replace HB:=lh (HB.out.g hg);clear hg hz;have TK:=lh fun w (hSw:(fun wr=>SC wr I σ base cs∧Blk wr q (prC a b aw bw ac bc) 66) w)=>And.intro hSw.1.s0 <| And.intro hSw.1.s1 <| hSw.1.s2
 refine wp_region_late (fun wr=>SC wr I σ base cs∧Blk wr q (prC a b aw bw ac bc) 66) [] (by as_aux_lemma=>kernel_rfl) ?_;have hgd:=gdrew (gR W none);have hS:(fun wr=>SC wr I σ base cs∧Blk wr q (prC a b aw bw ac bc) 66) W.drew:=⟨HH.out.g hgd,HB0.out.g hgd⟩;replace HA:=lh (HA.out.g hgd);replace HB:=lh (HB.out.g hgd);replace HST:=lh (HST.out.g hgd);clear hgd HH HB0;generalize W.drew=w2 at HA HB HST hS ⊢;refine pM 0 ?_;simp only [zz];refine pM 1 ?_;simp only [zz];refine pM 2 ?_;simp only [zz];refine tM 3 ?_;simp only [zz];refine wM 4 ?_ ?_ hS ?_;rotate_left;· intro w hSw;(refine exec_load_all (ty:=66) (hSw.2) ?_ _ Tryz.underlying66 rfl ?_ <;> first | exact ⟨_,rfl,rfl⟩ | (as_aux_lemma=>kernel_rfl))
 simp only [zz];refine rM 5 fun K hK=>?_;go_simp;refine (HSH.out _ HA.out HB.out).mono ?_;rintro e w3 ⟨v,rfl,hrow,hg⟩;obtain ⟨wa,c,rfl,hI,hn⟩:=ints_own hrow;have hwo : ∀ ad,wa=some ad→Out I w3 ad.block:=fun ad e=>by
  subst e;have h1:=hrow.lt ad.block rfl;exact hS.1.fresh hg h1.1 h1.2
 have hS2:(fun wr=>_) w3:=And.intro (hS.1.g hg) (hS.2.g hg);replace HST:=lh (HST.out.g hg);have HI:=lh hI;have HWO:=lh hwo;clear hI hwo;clear hg hrow;refine hK.out _ _ (.inl (fun _=>hS2)) ?_;replace hS:=hS2;clear hK K hS2;try simp only [zz]
 refine pM 6 ?_;simp only [zz];refine pM 7 ?_;simp only [zz];refine pM 8 ?_;simp only [zz];refine pM 9 ?_;simp only [zz];refine pM 10 ?_;simp only [zz];refine dM ?_ _;have hsc:=hS.1;clear hS HA HB;have HH:=lh hsc;clear hsc;go_upto_region 2 with (fail)
 go_wp2_with fail
 go_loopw [22] (fun v22 wr=>∃ (j:Nat),v22=.int .i64 (j:Int)∧j≤L.length∧∃ (ch:Value),SC wr { I with ch:=ch } { σ with V:=(banAll σ.V cs (L.take j)).1 } base (banAll σ.V cs (L.take j)).2 ∧
   Stp I { I with ch:=ch } w wr∧Ints .i64 wr wa L∧(∀ ad,wa=some ad→Out { I with ch:=ch } wr ad.block)) (fun v22 _=>L.length - (intOf v22).toNat)
 case atStart=>exact ⟨0,rfl,by omega,I.ch,HH.out,HST.out,HI.out,HWO.out⟩
 case round=>
  obtain ⟨j,rfl,hj,ch,hsc,hst,hv,ho⟩:=hrel;clear HH HST HI HWO;have HH:=lh hsc;have HST:=lh hst;have HV:=lh hv;have HO:=lh ho;clear hsc hst hv ho;by_cases hlt:j < L.length
  ·obtain ⟨ad,rfl,hc⟩:=HV.out j hlt;have hk:=HLM.out (L.getD j 0) (by rw [List.getD_eq_getElem?_getD,List.getElem?_eq_getElem hlt];simp);have hnx:=banAll_snoc σ.V cs (L.take j) (L.getD j 0);rw [← take_succ' L j hlt 0] at hnx;have hln:=banAll_len (L.take j) σ.V cs;have hlj:(L.take j).length≤1000000:=by rw [List.length_take];omega
   obtain ⟨P,hP⟩ : ∃ P,P=banAll σ.V cs (L.take j):=⟨_,rfl⟩;obtain ⟨P2,hP2⟩ : ∃ P2,P2=banAll σ.V cs (L.take (j+1)):=⟨_,rfl⟩;rw [← hP] at HH hnx hln;rw [← hP2] at hnx;obtain ⟨k,hke⟩ : ∃ k,k=L.getD j 0:=⟨_,rfl⟩;rw [← hke] at hk hnx hc;obtain ⟨i,hi⟩ : ∃ i:Nat,k=(i:Int):=⟨k.toNat,by omega⟩;rw [hi] at hk hnx hc;have hi2:i < σ.bs.length:=by omega
   have HNX:=lh hnx;have HP2:=lh hP2;clear hnx hP2;clear hP hke hi;have c4:wr.cell? ⟨I.p,4,none⟩=some (.slice (some ⟨I.vb,0,none⟩) σ.bs.length σ.bs.length):=HH.out.s4;obtain ⟨fm,hfm⟩ : ∃ fm,fm=frmE (P.1 i):=⟨_,rfl⟩;obtain ⟨hd,hhd2⟩ : ∃ hd,hd=hadE (P.1 i):=⟨_,rfl⟩;obtain ⟨TB,hTB⟩ : ∃ TB,TB=(P.1 i).b:=⟨_,rfl⟩;have HGET:Hid (Calls Tryz.prog 57 #[.slice (some ⟨I.vb,0,none⟩) σ.bs.length σ.bs.length,.int .i64 i] wr fun z w'=>z=.returned (.tuple #[.int .u64 fm,.bool hd])∧wr=w'):=lh (by rw [hfm,hhd2];exact get_in HH.out.votes hN2 hi2);have hbn:=ban_any HH.out.votes hN2 hi2;simp only at hbn;rw [← hTB] at hbn;have HBN:=lh hbn;have hnx2:P2=(banV P.1 i,if TB then P.2 else P.2++[⟨2,0,0,(i:Int),fm,hd⟩]):=by
    rw [HNX.out,hfm,hhd2,hTB];unfold banStep banV;simp only [Int.toNat_natCast];cases (P.1 i).b <;> simp
   have HNX2:=lh hnx2;clear hnx2;clear hfm hhd2 HNX hbn hTB;go_upto_region 5 with (fail)
   go_wp2_with fail
   refine HGET.out.mono ?_;rintro e w2 ⟨rfl,rfl⟩;clear HGET;go_upto_region 6 with (fail)
   go_wp2_with fail
   refine HBN.out.mono ?_;rintro e w2 ⟨rfl,hva,hgr⟩;have hv2:=HH.out.voted hva hgr;have hi2:=hv2.2.ints HV.out HO.out;have ho2:=fun ad e=>hv2.2.out (HO.out ad e);have hs2:=HST.out.trans hv2.2;have hc2:=hv2.1;clear HH HV HST HO hva hgr hv2 c4 HBN;have HH:=lh hc2;have HV:=lh hi2;have HST:=lh hs2;have HO:=lh ho2;clear hc2 hi2 hs2 ho2;simp only at HH;cases TB
   ·simp only [Bool.not_false];go_upto_region 7 with (fail)
    obtain ⟨i0,hi0⟩:=elem_chg;have c13:w2.cell? ⟨I.p,13,none⟩=some ch:=HH.out.s13;have hbs:=HH.out.bl;have hN0:0 < σ.bs.length:=by omega
    have hpw:I.p < w2.heap.size:=HH.out.mlt (.inl rfl:Mut I I.p);have hcp:some I.p≠ch.ownBlock:=fun e=>HH.out.chm (.inl rfl:Mut I I.p) e.symm;have HI:=lh hi0;have HCP:=lh hcp;clear hcp;clear hi0;go_wp2_with (at_builtin;refine wpList_append_lies _ rfl _ _ 76 rfl base 178 i0 (.agg #[.int .i64 0,.int .u64 0,.int .u64 0,.int .i64 0,.int .u64 0,.bool false]) 6 48 Tryz.underlying76 HI.out.1 HI.out.2.1 HI.out.2.2.1 HI.out.2.2.2 rfl (by decide) ch P.2.length (cgRow P.2) rfl (HH.out.row.alloc _) ⟨w2.heap.size,0,none⟩ 1 1 [.int .i64 2,.int .u64 0,.int .u64 0,.int .i64 (i:Int),.int .u64 fm,.bool hd] rfl rfl (World.news_of_block (MapKept.heap_alloc _ _).1) (by simp [Value.oneCell']) (by decide) (by unfold maxLen;omega) (by omega) (by simp;omega) _ rfl ?_;intro g5 c5 w5 h5 hg5 hat5 hlt5;have hS:World.grownBy w2 w5 ch.ownBlock:=World.grownBy.andThen (gweak (World.grownBy_alloc w2 _ none)) hg5 (fun _ e=>.inr e);have d13:w5.cell? ⟨I.p,13,none⟩=some ch:=hS.cell c13 HCP.out;have f13:w5.frozen? ⟨I.p,13,none⟩=false:=(HH.out.st.blk.kept hS (fun e=>HCP.out e.symm)).fr 13;have hat6:ch.ownBlock=some g5∨w2.heap.size≤g5:=hat5.imp id (fun e=>by simp at e;omega);have HPU:=lh (HH.out.push hN0 (x:=⟨2,0,0,(i:Int),fm,hd⟩) hS hat6 hlt5 h5);clear h5 hg5 hat5 hlt5 hS hat6)
    obtain ⟨hsc,hst⟩:=HPU.out;exact ⟨⟨j+1,by simp,by omega,_,by rw [← HP2.out,HNX2.out];exact hsc,HST.out.trans hst,hst.ints HV.out HO.out,fun ad e=>hst.out (HO.out ad e)⟩,by simp [intOf];omega⟩
   ·simp only [Bool.not_true];go_wp2_with fail
    refine ⟨⟨j+1,by simp,by omega,ch,?_,HST.out,HV.out,HO.out⟩,by simp [intOf];omega⟩;rw [← HP2.out,HNX2.out];exact HH.out
  ·have hje:j=L.length:=by omega
   subst hje;rw [List.take_length] at HH;go_wp2_with fail
   go_ret;exact ⟨rfl,ch,HH.out,HST.out⟩
end
end Go.Proofs.YtndfpmboanohcaaGreatDoor
