/- Contract of (*store.Store).raise. -/
import Derived.Test.YtndfpmboanohcaaGreatDoorCutToRa0
namespace Go.Proofs.YtndfpmboanohcaaGreatDoor
set_option maxRecDepth 100000
open Go.RowKit Go.Maps SkipPure
def Cnt (σ:St) (N:Nat):Prop:=∃ ks:List Int,ks.length≤N∧∀ r,(σ.F r).isSome=true∨σ.gone r→r∈ks
theorem ownsRow_ty {w:World} {base:Nat} {e:TypeId} {size n:Nat} {v:Value} {xs:List Value} (h:w.ownsRow base e size v n xs) {k:Nat} (hk:v.ownBlock=some k) : ∃ cur,w.heap[k]? = some (.cells cur e (0,0)):=by
 rcases h.2 with ⟨rfl,_⟩ | ⟨g,cap,cur,rfl,h3,h4,h5⟩
 ·cases hk
 ·cases hk;exact ⟨cur,h4⟩
theorem uints_own {w:World} {base n:Nat} {v:Value} {ks:List Int} (h:w.ownsRow base 27 1 v n (ks.map encU)) : ∃ wa c,v=.slice wa n c∧Ints .u64 w wa ks∧n=ks.length:=by
 have hl:ks.length=n:=by have:=h.1;simpa using this
 rcases h.two with hv | ⟨g,cap,hv⟩
 ·subst hv;have hn:n=0:=by
   rcases h.2 with h | ⟨_,_,_,h,_⟩
   ·exact h.2
   ·cases h
  exact ⟨none,0,by rw [hn],fun i hi=>by omega,hl.symm⟩
 ·subst hv;refine ⟨_,_,rfl,fun i hi=>⟨_,rfl,?_⟩,hl.symm⟩;have hc:=h.cellAt i (by omega);rw [add0,hc];simp [List.getD_eq_getElem?_getD,hi]
theorem raw_ne {w:World} {base n b m:Nat} {e:TypeId} {size:Nat} {v:Value} {xs:List Value} {kt:TypeId} {G:Int→Option Value} {P:Program} (h:w.ownsRow base e size v n xs) (hr:RawMap P kt w b m G):v.ownBlock≠some b:=fun ek=>by
 obtain ⟨cur,hc⟩:=ownsRow_ty h ek;obtain ⟨D,⟨es,clock,hb2,_⟩,_⟩:=hr;rw [hc] at hb2;cases hb2
section
variable {w:World} {I:Ids} {σ:St} {base:Nat} {cs:List Cg}
set_option maxHeartbeats 4000000 in
theorem raise_calls (h:SC w I σ base cs) (hw:StWf σ) (hc:Cnt σ 1000000) (hS:SortUpTo σ.n) {je jr fe fr:Int} (hjr:inU jr) (hfr:inU fr) (hcl:cs.length≤1000000) :
  Calls Tryz.prog 54 #[.pointer (some ⟨I.p,0,none⟩),.agg #[.int .i64 je,.int .u64 jr],.agg #[.int .i64 fe,.int .u64 fr]] w fun e w'=>e=.returned (.tuple #[])∧∃ I' σ' cs',Raised σ cs je jr fe fr σ' cs'∧SC w' I' σ' base cs'∧Stp I I' w w':=by
 have HH:=lh h;have hpl:=h.mlt (.inl rfl:Mut I I.p);have hN1:=hw.may.l1;have hn:=hw.n;have hUj:=hw.jr;have hUf:=hw.fr;have hUb:=hw.bo;have hWF:=hw.tree;have HST:=lh (Stp.refl I w);obtain ⟨B1,hB1⟩ : ∃ B1,B1=(decide (σ.je < je) && belowT σ.F σ.f jr σ.fr):=⟨_,rfl⟩;obtain ⟨T1,hT1⟩ : ∃ T1,T1=belowT σ.F σ.f jr σ.fr:=⟨_,rfl⟩;rw [← hT1] at hB1;have HC:=lh hc;have HHS:=lh hS;have HB1:=lh hB1;have HT1:=lh hT1;have HWF:=lh hWF;clear hc hS hB1 hT1 hWF;clear h hw;go_enter Tryz.func54,Tryz.ntmps54
 go_upto_region 1 with (fail)
 refine nmC2 ?_;intro W b0 b1 hz hg;obtain ⟨q,hq_q⟩ : ∃ q,q=w.heap.size:=⟨_,rfl⟩;rw [← hq_q] at b0 b1 hz hpl ⊢;have HQ_q:=lh hq_q;clear hq_q;have HB0:=lh b0;have HB1b:=lh b1;clear b0 b1;have HQO:=lh (HH.out.fresh hg (Nat.le_of_eq HQ_q.out.symm) HB0.out.lt);have HQP:=lh (HH.out.fresh hg (show w.heap.size≤q+1 by have:=HQ_q.out;omega) HB1b.out.lt);replace HH:=lh (HH.out.g hg);replace HST:=lh (HST.out.g hg);clear hg hz
 go_cut [30] (fun s30 wx=>s30=.bool B1∧W.grownBy wx none)
 case first=>
  by_cases h1:σ.je < je
  ·have HB:Hid (B1=T1):=lh (by rw [HB1.out,decide_eq_true h1];rfl);have HGG:=lh (gR W none);have TK:=lh fun w (hSw:(fun wr=>SC wr I σ base cs∧Blk wr q #[.int .i64 je,.int .u64 jr] 61) w)=>And.intro hSw.1.s3 <| And.intro hSw.1.s7 <| And.intro hSw.1.s10 <| And.intro (show w.cell? ⟨q,0,none⟩=some (.int .i64 je) from hSw.2.at 0) <| show w.cell? ⟨q,1,none⟩=some (.int .u64 jr) from hSw.2.at 1
   refine wp_region_late (fun wr=>SC wr I σ base cs∧Blk wr q #[.int .i64 je,.int .u64 jr] 61) [] (by as_aux_lemma=>kernel_rfl) ?_;have hgd:=gdrew (gR W none);have hS:(fun wr=>SC wr I σ base cs∧Blk wr q #[.int .i64 je,.int .u64 jr] 61) W.drew:=⟨HH.out.g hgd,HB0.out.g hgd⟩;replace HGG:=lh (g2 HGG.out hgd);clear hgd HH HB0;generalize W.drew=wd at hS HGG ⊢;refine pM 0 ?_;simp only [zz];refine pM 2 ?_;simp only [zz];refine pM 3 ?_;simp only [zz];refine pM 4 ?_;simp only [zz];refine pM 5 ?_;simp only [zz];refine tM 1 ?_;simp only [zz];refine tM 6 ?_;simp only [zz];refine pM 7 ?_;simp only [zz];refine pM 8 ?_;simp only [zz];refine pM 9 ?_;simp only [zz];refine pM 10 ?_;simp only [zz];refine pM 11 ?_;simp only [zz];refine pM 13 ?_;simp only [zz];refine pM 15 ?_;simp only [zz];refine pM 16 ?_;simp only [zz];refine pM 17 ?_;simp only [zz];refine pM 18 ?_;simp only [zz];refine tM 12 ?_;simp only [zz];refine tM 14 ?_;simp only [zz];refine tM 19 ?_;simp only [zz];refine rM 20 fun K hK=>?_;go_simp;refine (tbelow_calls hS.1.tree HWF.out hjr hUf).mono ?_;rintro e wl ⟨rfl,hg⟩;rw [← HT1.out];have hS2:(fun wr=>_) wl:=And.intro (hS.1.g hg) (hS.2.g hg);replace HGG:=lh (g2 HGG.out hg);clear hg;refine hK.out _ _ (.inl (fun _=>hS2)) ?_;replace hS:=hS2;clear hK K hS2;try simp only [zz]
   refine pM 21 ?_;simp only [zz];refine dM ?_ _;go_wp2_with fail
   go_meet
   exact ⟨by rw [HB.out],HGG.out⟩
  ·have HB:Hid (B1=false):=lh (by rw [HB1.out,decide_eq_false h1];rfl);have c7:=HH.out.s7;have d0:=HB0.out.at 0;go_quiet (fail)
   go_wp2_with fail
   go_meet
   exact ⟨by rw [HB.out],drewN_grown _ _⟩
 case rest=>
  obtain ⟨rfl,hgg⟩:=hcut;replace HH:=lh (HH.out.g hgg);replace HST:=lh (HST.out.g hgg);replace HB0:=lh (HB0.out.g hgg);replace HB1b:=lh (HB1b.out.g hgg);replace HQO:=lh (HQO.out.g hgg);replace HQP:=lh (HQP.out.g hgg);clear hgg;obtain ⟨σ1,hσ1⟩ : ∃ σ1,σ1=raiseJ σ je jr:=⟨_,rfl⟩;have hσ2:σ1=if B1 then { σ with je:=je,jr:=jr } else σ:=by rw [hσ1,HB1.out,HT1.out];rfl
  have HS1:=lh hσ1;have HS2:=lh hσ2;clear hσ1 hσ2;go_upto_if 30 with (fail)
  go_cut [] (fun wx=>SC wx I σ1 base cs∧Stp I I w wx∧Blk wx (q+1) #[.int .i64 fe,.int .u64 fr] 61∧Out I wx (q+1))
  case first=>
   cases B1
   ·have hs:=HS2.out;simp only [Bool.false_eq_true,if_false] at hs;subst hs;go_wp2_with fail
    go_meet
    exact ⟨HH.out,HST.out,HB1b.out,HQP.out⟩
   ·have hs:=HS2.out;simp only [if_true] at hs;subst hs;have d0:=HB0.out.at 0;have d1:=HB0.out.at 1;have c7:=HH.out.s7;have c8:=HH.out.s8;have f7:wc.frozen? ⟨I.p,7,none⟩=false:=HH.out.blk.fr 7;have f8:wc.frozen? ⟨I.p,8,none⟩=false:=HH.out.blk.fr 8;go_wp2_with fail
    go_meet
    obtain ⟨t1,_,t3⟩:=sto2 7 8 (.int .i64 je) (.int .u64 jr) HH.out.blk;simp only [List.setIfInBounds_toArray,List.set_cons_zero,List.set_cons_succ] at t1;obtain ⟨h1,h2⟩:=HH.out.put (σ':={ σ with je:=je,jr:=jr }) t3 t1 rfl;exact ⟨h1,HST.out.trans h2,h2.blk HB1b.out HQP.out,h2.out HQP.out⟩
  case rest=>
   obtain ⟨hsc,hst,hb1,hqp⟩:=hcut;have he:σ1.F=σ.F∧σ1.f=σ.f∧σ1.n=σ.n∧σ1.bs=σ.bs∧σ1.fr=σ.fr∧σ1.boosted=σ.boosted∧σ1.L=σ.L∧σ1.gone=σ.gone∧inU σ1.jr:=by
    rw [HS2.out];cases B1
    ·exact ⟨rfl,rfl,rfl,rfl,rfl,rfl,rfl,rfl,hUj⟩
    ·exact ⟨rfl,rfl,rfl,rfl,rfl,rfl,rfl,rfl,hjr⟩
   obtain ⟨e1,e2,e3,e4,e5,e6,e7,e8,hUj1⟩:=he;clear HH HST HB0 HB1b HQO HQP HS2 HB1 HT1 hUj;have HH:=lh hsc;have HST:=lh hst;have HB0:=lh hb1;have HQO:=lh hqp;clear hsc hst hb1 hqp;rw [← e5] at hUf;rw [← e6] at hUb;rw [← e1,← e2] at HWF;rw [← e3] at hn HHS;rw [← e4] at hN1;have HEQ:=lh (And.intro e1 (And.intro e2 (And.intro e7 e8)));clear e1 e2 e3 e4 e5 e6 e7 e8;obtain ⟨T2,hT2⟩ : ∃ T2,T2=belowT σ1.F σ1.f fr σ1.fr:=⟨_,rfl⟩;obtain ⟨T3,hT3⟩ : ∃ T3,T3=belowT σ1.F σ1.f σ1.jr fr:=⟨_,rfl⟩;obtain ⟨B3,hB3⟩ : ∃ B3,B3=(decide (fe≤σ1.fe) || !T2 || !T3):=⟨_,rfl⟩;have hrc:raiseC σ1 fe fr = !B3:=by rw [hB3,hT2,hT3];rfl
   have HT2:=lh hT2;have HT3:=lh hT3;have HB3:=lh hB3;have HRC:=lh hrc;clear hT2 hT3 hB3 hrc;go_upto_region 3 with (fail)
   go_cut [72] (fun s72 wx=>s72=.bool B3∧wc.grownBy wx none)
   case first=>
    by_cases h1:fe≤σ1.fe
    ·have HB:Hid (B3=true):=lh (by rw [HB3.out,decide_eq_true h1];rfl);have c9:=HH.out.s9;have d0:=HB0.out.at 0;go_quiet (fail)
     go_wp2_with fail
     go_meet
     exact ⟨by rw [HB.out],drewN_grown _ _⟩
    ·have HB:Hid (B3=(!T2 || !T3)):=lh (by rw [HB3.out,decide_eq_false h1];rfl);have HGG:=lh (gR wc none);cases T2
     ·skip;have TK:=lh fun w (hSw:(fun wr=>SC wr I σ1 base cs∧Blk wr (q+1) #[.int .i64 fe,.int .u64 fr] 61) w)=>And.intro hSw.1.s3 <| And.intro hSw.1.s8 <| And.intro hSw.1.s9 <| And.intro hSw.1.s10 <| And.intro (show w.cell? ⟨q+1,0,none⟩=some (.int .i64 fe) from hSw.2.at 0) <| show w.cell? ⟨q+1,1,none⟩=some (.int .u64 fr) from hSw.2.at 1
      refine wp_region_late (fun wr=>SC wr I σ1 base cs∧Blk wr (q+1) #[.int .i64 fe,.int .u64 fr] 61) [] (by as_aux_lemma=>kernel_rfl) ?_;have hgd:=gdrew (gR wc none);have hS:(fun wr=>SC wr I σ1 base cs∧Blk wr (q+1) #[.int .i64 fe,.int .u64 fr] 61) wc.drew:=⟨HH.out.g hgd,HB0.out.g hgd⟩;replace HGG:=lh (g2 HGG.out hgd);clear hgd HH HB0;generalize wc.drew=wd at hS HGG ⊢;refine pM 0 ?_;simp only [zz];refine pM 2 ?_;simp only [zz];refine pM 3 ?_;simp only [zz];refine pM 4 ?_;simp only [zz];refine pM 5 ?_;simp only [zz];refine tM 1 ?_;simp only [zz];refine tM 6 ?_;simp only [zz];refine pM 7 ?_;simp only [zz];refine pM 8 ?_;simp only [zz];refine pM 9 ?_;simp only [zz];refine pM 10 ?_;simp only [zz];refine pM 11 ?_;simp only [zz];refine pM 13 ?_;simp only [zz];refine pM 15 ?_;simp only [zz];refine pM 16 ?_;simp only [zz];refine pM 17 ?_;simp only [zz];refine pM 18 ?_;simp only [zz];refine tM 12 ?_;simp only [zz];refine tM 14 ?_;simp only [zz];refine tM 19 ?_;simp only [zz];refine rM 20 fun K hK=>?_;go_simp;refine (tbelow_calls hS.1.tree HWF.out hfr hUf).mono ?_;rintro e wl ⟨rfl,hg⟩;rw [← HT2.out];have hS2:(fun wr=>_) wl:=And.intro (hS.1.g hg) (hS.2.g hg);replace HGG:=lh (g2 HGG.out hg);clear hg;refine hK.out _ _ (.inl (fun _=>hS2)) ?_;replace hS:=hS2;clear hK K hS2;try simp only [zz]
      refine pM 21 ?_;simp only [zz];refine pM 22 ?_;simp only [zz];refine pM 23 ?_;simp only [zz];refine uM 24 ?_;simp only [zz];refine uM 25 ?_;simp only [zz];refine uM 26 ?_;simp only [zz];refine uM 27 ?_;simp only [zz];refine uM 28 ?_;simp only [zz];refine uM 29 ?_;simp only [zz];refine uM 30 ?_;simp only [zz];refine uM 31 ?_;simp only [zz];refine uM 32 ?_;simp only [zz];refine uM 33 ?_;simp only [zz];refine uM 34 ?_;simp only [zz];refine uM 35 ?_;simp only [zz];refine uM 36 ?_;simp only [zz];refine pM 37 ?_;simp only [zz];refine dM ?_ _;go_wp2_with fail
      go_meet
      exact ⟨by rw [HB.out];rfl,HGG.out⟩
     ·skip;have TK:=lh fun w (hSw:(fun wr=>SC wr I σ1 base cs∧Blk wr (q+1) #[.int .i64 fe,.int .u64 fr] 61) w)=>And.intro hSw.1.s3 <| And.intro hSw.1.s8 <| And.intro hSw.1.s9 <| And.intro hSw.1.s10 <| And.intro (show w.cell? ⟨q+1,0,none⟩=some (.int .i64 fe) from hSw.2.at 0) <| show w.cell? ⟨q+1,1,none⟩=some (.int .u64 fr) from hSw.2.at 1
      refine wp_region_late (fun wr=>SC wr I σ1 base cs∧Blk wr (q+1) #[.int .i64 fe,.int .u64 fr] 61) [] (by as_aux_lemma=>kernel_rfl) ?_;have hgd:=gdrew (gR wc none);have hS:(fun wr=>SC wr I σ1 base cs∧Blk wr (q+1) #[.int .i64 fe,.int .u64 fr] 61) wc.drew:=⟨HH.out.g hgd,HB0.out.g hgd⟩;replace HGG:=lh (g2 HGG.out hgd);clear hgd HH HB0;generalize wc.drew=wd at hS HGG ⊢;refine pM 0 ?_;simp only [zz];refine pM 2 ?_;simp only [zz];refine pM 3 ?_;simp only [zz];refine pM 4 ?_;simp only [zz];refine pM 5 ?_;simp only [zz];refine tM 1 ?_;simp only [zz];refine tM 6 ?_;simp only [zz];refine pM 7 ?_;simp only [zz];refine pM 8 ?_;simp only [zz];refine pM 9 ?_;simp only [zz];refine pM 10 ?_;simp only [zz];refine pM 11 ?_;simp only [zz];refine pM 13 ?_;simp only [zz];refine pM 15 ?_;simp only [zz];refine pM 16 ?_;simp only [zz];refine pM 17 ?_;simp only [zz];refine pM 18 ?_;simp only [zz];refine tM 12 ?_;simp only [zz];refine tM 14 ?_;simp only [zz];refine tM 19 ?_;simp only [zz];refine rM 20 fun K hK=>?_;go_simp;refine (tbelow_calls hS.1.tree HWF.out hfr hUf).mono ?_;rintro e wl ⟨rfl,hg⟩;rw [← HT2.out];have hS2:(fun wr=>_) wl:=And.intro (hS.1.g hg) (hS.2.g hg);replace HGG:=lh (g2 HGG.out hg);clear hg;refine hK.out _ _ (.inl (fun _=>hS2)) ?_;replace hS:=hS2;clear hK K hS2;try simp only [zz]
      refine pM 21 ?_;simp only [zz];refine pM 22 ?_;simp only [zz];refine pM 23 ?_;simp only [zz];refine pM 24 ?_;simp only [zz];refine pM 25 ?_;simp only [zz];refine pM 26 ?_;simp only [zz];refine pM 28 ?_;simp only [zz];refine pM 29 ?_;simp only [zz];refine pM 30 ?_;simp only [zz];refine pM 31 ?_;simp only [zz];refine pM 33 ?_;simp only [zz];refine tM 27 ?_;simp only [zz];refine tM 32 ?_;simp only [zz];refine tM 34 ?_;simp only [zz];refine rM 35 fun K hK=>?_;go_simp;refine (tbelow_calls hS.1.tree HWF.out hUj1 hfr).mono ?_;rintro e wl ⟨rfl,hg⟩;rw [← HT3.out];have hS2:(fun wr=>_) wl:=And.intro (hS.1.g hg) (hS.2.g hg);replace HGG:=lh (g2 HGG.out hg);clear hg;refine hK.out _ _ (.inl (fun _=>hS2)) ?_;replace hS:=hS2;clear hK K hS2;try simp only [zz]
      refine pM 36 ?_;simp only [zz];refine pM 37 ?_;simp only [zz];refine dM ?_ _;go_wp2_with fail
      go_meet
      exact ⟨by rw [HB.out];first | rfl | simp,HGG.out⟩
   case rest=>
    obtain ⟨rfl,hgg⟩:=hcut;replace HH:=lh (HH.out.g hgg);replace HST:=lh (HST.out.g hgg);replace HB0:=lh (HB0.out.g hgg);replace HQO:=lh (HQO.out.g hgg);clear hgg;go_upto_if 72 with (fail)
    cases B3
    case true=>
     go_wp2_with fail
     (try simp only [Exit.inBlock,Exit.then]);refine bodyPost_ret (results_none rfl _ _ _) rfl ?_
     have hrd:Raised σ cs je jr fe fr σ1 cs:=by
      unfold Raised;rw [← HS1.out,HRC.out];simp
     exact ⟨rfl,I,σ1,cs,hrd,HH.out,HST.out⟩
    have hb2:=HB3.out;have ht2:T2=true:=by cases T2 with
     | true=>rfl
     | false=>simp at hb2
    have hbf:=HT2.out;rw [ht2] at hbf;obtain ⟨xr,yr,_,hyr,_⟩:=below_some hbf.symm;clear hb2 ht2 hbf;have d0:=HB0.out.at 0;have d1:=HB0.out.at 1;have c9:=HH.out.s9;have c10:=HH.out.s10;have f9:wc.frozen? ⟨I.p,9,none⟩=false:=HH.out.blk.fr 9;have f10:wc.frozen? ⟨I.p,10,none⟩=false:=HH.out.blk.fr 10;have HYR:=lh hyr;clear hyr;go_upto_region 5 with (fail)
    obtain ⟨t1,_,t3⟩:=sto2 9 10 (.int .i64 fe) (.int .u64 fr) HH.out.blk;simp only [List.setIfInBounds_toArray,List.set_cons_zero,List.set_cons_succ] at t1;obtain ⟨h1,h2⟩:=HH.out.put (σ':={ σ1 with fe:=fe,fr:=fr }) t3 t1 rfl;have hs2:=HST.out.trans h2;have hb2:=h2.blk HB0.out HQO.out;have ho2:=h2.out HQO.out;generalize (wc.setCell ⟨I.p,9,none⟩ (.int .i64 fe)).setCell ⟨I.p,10,none⟩ (.int .u64 fr)=w5 at h1 h2 hs2 hb2 ho2 t3 ⊢;clear HH HST HB0 HQO h2 t1 t3 d0 d1 c9 c10 f9 f10;have HH:=lh h1;have HST:=lh hs2;have HB0:=lh hb2;have HQO:=lh ho2;clear h1 hs2 hb2 ho2;have TK:=lh fun w (hSw:(fun wr=>SC wr I { σ1 with fe:=fe,fr:=fr } base cs∧Blk wr (q+1) #[.int .i64 fe,.int .u64 fr] 61) w)=>And.intro hSw.1.s3 <| show w.cell? ⟨q+1,1,none⟩=some (.int .u64 fr) from hSw.2.at 1
    refine wp_region_late (fun wr=>SC wr I { σ1 with fe:=fe,fr:=fr } base cs∧Blk wr (q+1) #[.int .i64 fe,.int .u64 fr] 61) [6] (by as_aux_lemma=>kernel_rfl) ?_;have hgd:=gdrew (gR w5 none);have hS:(fun wr=>SC wr I { σ1 with fe:=fe,fr:=fr } base cs∧Blk wr (q+1) #[.int .i64 fe,.int .u64 fr] 61) w5.drew:=⟨HH.out.g hgd,HB0.out.g hgd⟩;replace HST:=lh (HST.out.g hgd);replace HQO:=lh (HQO.out.g hgd);clear hgd HH HB0;generalize w5.drew=wd at hS HST HQO ⊢;refine pM 0 ?_;simp only [zz];refine pM 1 ?_;simp only [zz];refine pM 2 ?_;simp only [zz];refine pM 4 ?_;simp only [zz];refine tM 3 ?_;simp only [zz];refine tM 5 ?_;simp only [zz];refine rM 6 fun K hK=>?_;go_simp;refine (tcut_calls hS.1.tree HWF.out (by show σ1.n≤1000000;omega) HHS.out HYR.out).mono ?_;rintro e w6 ⟨v,ks,b2,m,rfl,hR,hrow,htree,hb2,hm,hl,hg⟩;obtain ⟨h1,h2⟩:=hS.1.cutted (show 0 < σ1.bs.length by omega) htree hg hb2;have hb0:=h2.blk hS.2 HQO.out;have ho2:=h2.out HQO.out;have hs2:=HST.out.trans h2;have hne:=raw_ne hrow htree.2.2;obtain ⟨wa,c,rfl,hI,hnn⟩:=uints_own hrow;have hwo : ∀ ad,wa=some ad→Out { I with tb:=b2 } w6 ad.block:=fun ad e=>by
     subst e;have h3:=hrow.lt ad.block rfl;refine ⟨h3.2,fun hm=>?_,fun hc=>?_⟩
     ·rcases h2.mut _ hm with h4 | h4
      ·have:=hS.1.mlt h4;omega
      ·rcases hm with hm | hm | hm | hm | hm | hm
       ·have:=hS.1.mlt (.inl hm:Mut I ad.block);omega
       ·have:=hS.1.mlt (.inr (.inl hm):Mut I ad.block);omega
       ·have hm2:ad.block=b2:=hm;exact hne (by rw [← hm2];rfl)
       ·have:=hS.1.mlt (.inr (.inr (.inr (.inl hm))):Mut I ad.block);omega
       ·have:=hS.1.mlt (.inr (.inr (.inr (.inr (.inl hm)))):Mut I ad.block);omega
       ·have:=hS.1.mlt (.inr (.inr (.inr (.inr (.inr hm)))):Mut I ad.block);omega
     ·have:=(hS.1.row.lt _ hc).2;omega
    clear hS HST HQO hrow htree hg h2 hb2 hne;refine hK.out _ _ (.inr (by decide)) ?_;clear hK K;refine pM 7 ?_;simp only [zz];refine dM ?_ _;obtain ⟨gl,hgl⟩ : ∃ gl,gl=goneL σ1.F σ1.f fr ks:=⟨_,rfl⟩;have hgU : ∀ r∈gl,inU r:=fun r hr=>by rw [hgl] at hr;exact hR.2.1 r (List.mem_filter.1 hr).1
    have hgS : ∀ r∈gl,(σ1.F r).isSome=true:=fun r hr=>by
     rw [hgl] at hr;have h3:=(List.mem_filter.1 hr).1;exact (hR.2.2 r (hR.2.1 r h3)).1 h3
    have hgll:gl.length≤1000000:=by
     have h3:=List.length_filter_le (fun r=>!belowT σ1.F σ1.f r fr) ks;have h4:gl.length≤ks.length:=by rw [hgl];exact h3
     have h5:ks.length≤σ1.n:=hl;omega
    have hml:m=ks.length - gl.length:=by rw [hgl];have hm':m+(goneL σ1.F σ1.f fr ks).length=ks.length:=hm;omega
    change Ints .u64 w6 wa (goneL σ1.F σ1.f fr ks) at hI;rw [← hgl] at hI ⊢;obtain ⟨kc,hkc1,hkc2⟩:=HC.out;have hmg : ∀ j k,moreG σ1.gone (gl.take j) k→k∈kc:=fun j k hk=>by
     refine hkc2 k ?_;rcases hk with hk | hk
     ·exact .inr (by rw [← HEQ.out.2.2.2];exact hk)
     ·exact .inl (by rw [← HEQ.out.1];exact hgS k (List.mem_of_mem_take hk))
    have HH:=lh h1;have HST:=lh hs2;have HB0:=lh hb0;have HQO:=lh ho2;have HI:=lh hI;have HWO:=lh hwo;have HGU:=lh hgU;have HMG:=lh hmg;have HR:=lh hR;have HGL:=lh hgl;clear h1 hs2 hb0 ho2 hI hwo hgU hmg hR hgl;have HML:=lh hml;clear hml hgS hkc2 hm hl hnn;have hst0:SC w6 { I with tb:=b2 } { σ1 with fe:=fe,fr:=fr,n:=m,f:=fr,F:=cutT σ1.F σ1.f fr,L:=lessL σ1.L (gl.take 0),gone:=moreG σ1.gone (gl.take 0) } base cs:=by
     have e1:lessL σ1.L (gl.take 0)=σ1.L:=by funext r;simp [lessL]
     have e2:moreG σ1.gone (gl.take 0)=σ1.gone:=by funext r;simp [moreG]
     rw [e1,e2];exact HH.out
    replace HH:=lh hst0;clear hst0;go_upto_region 6 with (fail)
    go_wp2_with fail
    go_loopw [86] (fun v86 wr=>∃ (j:Nat),v86=.int .i64 (j:Int)∧j≤gl.length∧SC wr { I with tb:=b2 } { σ1 with fe:=fe,fr:=fr,n:=m,f:=fr,F:=cutT σ1.F σ1.f fr,L:=lessL σ1.L (gl.take j),gone:=moreG σ1.gone (gl.take j) } base cs ∧
      Stp I { I with tb:=b2 } w wr∧Blk wr (q+1) #[.int .i64 fe,.int .u64 fr] 61∧Out { I with tb:=b2 } wr (q+1)∧Ints .u64 wr wa gl∧(∀ ad,wa=some ad→Out { I with tb:=b2 } wr ad.block)) (fun v86 _=>gl.length - (intOf v86).toNat)
    case atStart=>exact ⟨0,rfl,by omega,HH.out,HST.out,HB0.out,HQO.out,HI.out,HWO.out⟩
    case round=>
     obtain ⟨j,rfl,hj,hsc,hst,hb0,hqo,hv,ho⟩:=hrel;clear HH HST HB0 HQO HI HWO;have HH:=lh hsc;have HST:=lh hst;have HB0:=lh hb0;have HQO:=lh hqo;have HV:=lh hv;have HO:=lh ho;clear hsc hst hb0 hqo hv ho;by_cases hlt:j < gl.length
     ·obtain ⟨ad,rfl,hc⟩:=HV.out j hlt;have hin:=HGU.out (gl.getD j 0) (by rw [List.getD_eq_getElem?_getD,List.getElem?_eq_getElem hlt];simp);have hL1:=lessL_next (L:=σ1.L) hlt;have hG1:=moreG_next (g:=σ1.gone) hlt;obtain ⟨k,hke⟩ : ∃ k,k=gl.getD j 0:=⟨_,rfl⟩;rw [← hke] at hin hL1 hG1 hc;have HL1:=lh hL1;have HG1:=lh hG1;clear hL1 hG1;clear hke;have c11:wr.cell? ⟨I.p,11,none⟩=some (.map (some I.lm)):=HH.out.s11;go_upto_region 10 with (refine wpList_unled HH.out.led (fun hn=>hn (.inl (.inr (.inr (.inr (.inr (.inl rfl))))))) rfl _ _ rfl hin rfl rfl ?_;intro w7 hl7 hg7;have HUL:=lh (HH.out.ledgered hl7 hg7);clear hl7 hg7)
      obtain ⟨hsc,hst⟩:=HUL.out;have hb2':=hst.blk HB0.out HQO.out;have ho2':=hst.out HQO.out;have hv2:=hst.ints HV.out HO.out;have hoo:=fun ad e=>hst.out (HO.out ad e);have hs2':=HST.out.trans hst;clear HH HST HB0 HQO HV HO HUL hst c11 hc;simp only at hsc;rw [← HL1.out] at hsc;have HH:=lh hsc;have HST:=lh hs2';have HB0:=lh hb2';have HQO:=lh ho2';have HV:=lh hv2;have HO:=lh hoo;clear hsc hs2' hb2' ho2' hv2 hoo;have c12:w7.cell? ⟨I.p,12,none⟩=some (.map (some I.gm)):=HH.out.s12;go_wp2_with (refine wpList_add HH.out.gone (HMG.out j) (by omega) rfl _ _ _ 75 (Or.inl rfl) 4 Tryz.underlying75 hin rfl rfl rfl ?_;intro w8 hg8 hgg8;have HUG:=lh (HH.out.goned hg8 hgg8);clear hg8 hgg8)
      obtain ⟨hsc,hst⟩:=HUG.out;simp only at hsc;rw [← HG1.out] at hsc;exact ⟨⟨j+1,by simp,by omega,hsc,HST.out.trans hst,hst.blk HB0.out HQO.out,hst.out HQO.out,hst.ints HV.out HO.out,fun ad e=>hst.out (HO.out ad e)⟩,by simp [intOf];omega⟩
     ·have hje:j=gl.length:=by omega
      subst hje;rw [List.take_length] at HH;obtain ⟨HB,hHB⟩ : ∃ HB,HB=(cutT σ1.F σ1.f fr σ1.boosted).isSome:=⟨_,rfl⟩;have HHB:=lh hHB;clear hHB;go_upto_region 12 with (fail)
      go_cut [110] (fun s110 wx=>s110=.bool (!HB)∧wr.grownBy wx none)
      case first=>
       have HGG:=lh (gdrew (gR wr none));replace HH:=lh (HH.out.g (gdrew (gR _ none)));have c3:_=some (Value.pointer (some ⟨I.tp,0,none⟩)):=HH.out.s3;have c6:_=some (Value.int .u64 σ1.boosted):=HH.out.s6
       go_region_held3 (fun w'=>w'.cell? ⟨I.p,3,none⟩=some (.pointer (some ⟨I.tp,0,none⟩))∧w'.cell? ⟨I.p,6,none⟩=some (.int .u64 σ1.boosted)) (go_keep)
        (first
          | (go_at_call 66
             refine (thas_calls HH.out.tree hUb).mono ?_;rintro e wh ⟨rfl,hgg⟩;simp only;rw [← HHB.out];replace HH:=lh (HH.out.g hgg);replace HGG:=lh (g2 HGG.out hgg);clear hgg c3 c6;have c3:_=some (Value.pointer (some ⟨I.tp,0,none⟩)):=HH.out.s3;have c6:_=some (Value.int .u64 σ1.boosted):=HH.out.s6))
       all_goals
        go_wp2_with fail
        go_meet
        exact ⟨rfl,HGG.out⟩
      case rest=>
       obtain ⟨rfl,hgg⟩:=hcut;replace HH:=lh (HH.out.g hgg);replace HST:=lh (HST.out.g hgg);replace HB0:=lh (HB0.out.g hgg);replace HQO:=lh (HQO.out.g hgg);clear hgg HV HO;obtain ⟨Bo,hBo⟩ : ∃ Bo:Int,Bo=if HB then σ1.boosted else 0:=⟨_,rfl⟩;have HBO:=lh hBo;clear hBo;go_upto_if 110 with (fail)
       go_cut [] (fun wx=>SC wx { I with tb:=b2 } { σ1 with fe:=fe,fr:=fr,n:=m,f:=fr,F:=cutT σ1.F σ1.f fr,L:=lessL σ1.L gl,gone:=moreG σ1.gone gl,boosted:=Bo } base cs∧Stp I { I with tb:=b2 } w wx∧Blk wx (q+1) #[.int .i64 fe,.int .u64 fr] 61∧Out { I with tb:=b2 } wx (q+1))
       case first=>
        cases HB
        ·have hb:=HBO.out;simp only [Bool.false_eq_true,if_false] at hb;subst hb;have c6:wc.cell? ⟨I.p,6,none⟩=some (Value.int .u64 σ1.boosted):=HH.out.s6;have f6:wc.frozen? ⟨I.p,6,none⟩=false:=HH.out.blk.fr 6;simp only [Bool.not_false];go_wp2_with fail
         go_meet
         obtain ⟨t1,_,t3⟩:=sto1 6 (.int .u64 0) HH.out.blk;simp only [List.setIfInBounds_toArray,List.set_cons_zero,List.set_cons_succ] at t1;obtain ⟨h1,h2⟩:=HH.out.put (σ':={ σ1 with fe:=fe,fr:=fr,n:=m,f:=fr,F:=cutT σ1.F σ1.f fr,L:=lessL σ1.L gl,gone:=moreG σ1.gone gl,boosted:=0 }) t3 t1 rfl;exact ⟨h1,HST.out.trans h2,h2.blk HB0.out HQO.out,h2.out HQO.out⟩
        ·have hb:=HBO.out;simp only [if_true] at hb;subst hb;simp only [Bool.not_true];go_wp2_with fail
         go_meet
         exact ⟨HH.out,HST.out,HB0.out,HQO.out⟩
       case rest=>
        obtain ⟨hsc,hst,hb0,hqo⟩:=hcut;clear HH HST HB0 HQO;have hrd:Raised σ cs je jr fe fr { σ1 with fe:=fe,fr:=fr,n:=m,f:=fr,F:=cutT σ1.F σ1.f fr,L:=lessL σ1.L gl,gone:=moreG σ1.gone gl,boosted:=Bo } (cs++[⟨3,fr,0,0,0,false⟩]):=by
         unfold Raised;rw [← HS1.out,HRC.out];refine ⟨ks,by rw [← HEQ.out.1];exact HR.out,?_,rfl⟩;unfold cutS;rw [← HGL.out,← HML.out,← HHB.out,← HBO.out]
        have HH:=lh hsc;have HST:=lh hst;have HB0:=lh hb0;have HQO:=lh hqo;have HRD:=lh hrd;clear hsc hst hb0 hqo hrd;clear HBO HHB HML HGL HR;go_upto_region 14 with (fail)
        replace HH:=lh (HH.out.g (gdrew (gR _ none)));replace HST:=lh (HST.out.g (gdrew (gR _ none)));replace HB0:=lh (HB0.out.g (gdrew (gR _ none)));replace HQO:=lh (HQO.out.g (gdrew (gR _ none)));obtain ⟨i0,hi0⟩:=elem_chg;have hcm:some I.p≠I.ch.ownBlock:=fun e=>HH.out.chm (.inl rfl:Mut { I with tb:=b2 } I.p) e.symm;have hqm:some (q+1)≠I.ch.ownBlock:=fun e=>HQO.out.c e.symm;have hN0:0 < σ1.bs.length:=by omega
        have HI:=lh hi0;have HCM:=lh hcm;have HQM:=lh hqm;clear hi0 hcm hqm;refine wp_region_last (fun wr=>World.grownBy wc.drew wr I.ch.ownBlock) 12 (by as_aux_lemma=>kernel_rfl) ((gR _ _)) ?_;intro hS;generalize wc.drew=wd at HH HB0 HST HQO hS ⊢;have TK:=lh fun w (hSw:(fun wr=>World.grownBy wd wr I.ch.ownBlock) w)=>And.intro (show w.cell? ⟨I.p,13,none⟩=some I.ch from hSw.cell HH.out.s13 HCM.out) <| show w.cell? ⟨q+1,1,none⟩=some (.int .u64 fr) from hSw.cell (HB0.out.at 1) HQM.out
        refine tL 0 ?_;simp only [zz];refine tL 1 ?_;simp only [zz];refine tL 2 ?_;simp only [zz];refine tL 3 ?_;simp only [zz];refine tL 4 ?_;simp only [zz];refine tL 5 ?_;simp only [zz];refine tL 6 ?_;simp only [zz];refine tL 7 ?_;simp only [zz];refine rL 8 fun K hK=>?_;go_simp;refine nmA1 ?_;intro wm hmb hgg;generalize hgm:wd.heap.size=gm at hmb ⊢;have hS2:World.grownBy wd wm I.ch.ownBlock:=gweak hgg;have HMB:=lh hmb;have HGG:=lh hgg;clear hmb hgg;clear hgm;refine hK.out _ _ (.inl hS2) ?_;replace hS:=hS2;clear hK K hS2;try simp only [zz]
        refine rL 9 fun K hK=>?_;have hbs:=HH.out.bl;have hgz:=HGG.out.size;refine wp_append_lies _ _ _ 76 (by rfl) base 178 i0 (.agg #[.int .i64 0,.int .u64 0,.int .u64 0,.int .i64 0,.int .u64 0,.bool false]) 6 48 Tryz.underlying76 HI.out.1 HI.out.2.1 HI.out.2.2.1 HI.out.2.2.2 rfl (by decide) I.ch cs.length (cgRow cs) (by rfl) (ownsRow_g HH.out.row HGG.out) ⟨gm,0,none⟩ 1 1 [.int .i64 3,.int .u64 fr,.int .u64 0,.int .i64 0,.int .u64 0,.bool false] (by rfl) (by rfl) (World.news_of_block HMB.out) (by simp [Value.oneCell']) (by omega) (by unfold maxLen;omega) (by omega) (by omega) _ rfl ?_;intro g5 c5 w5 h5 hg5 hat5 hlt5;have hS2:World.grownBy wd w5 I.ch.ownBlock:=hS.andThen hg5 (fun _ e=>.inr e);have hat6:I.ch.ownBlock=some g5∨wd.heap.size≤g5:=hat5.imp id (fun e=>by omega);have HAPP:=lh h5;have HAT:=lh hat6;have HLT:=lh hlt5;clear h5 hat6 hlt5;clear hg5 hat5 hbs hgz;refine hK.out _ _ (.inl hS2) ?_;replace hS:=hS2;clear hK K hS2;try simp only [zz]
        refine rL 10 fun K hK=>?_;go_simp;have hS2:=hS;refine hK.out _ _ (.inl hS2) ?_;replace hS:=hS2;clear hK K hS2;try simp only [zz]
        refine tL 11 ?_;simp only [zz];refine rL 12 fun K hK=>?_;have d13:w5.cell? ⟨I.p,13,none⟩=some I.ch:=hS.cell HH.out.s13 HCM.out;have f13:w5.frozen? ⟨I.p,13,none⟩=false:=(HH.out.blk.kept hS (fun e=>HCM.out e.symm)).fr 13;go_simp;refine hK.out _ _ (.inr rfl) ?_;clear hK K;try simp only [zz]
        refine dL ?_ _;obtain ⟨hsc,hst⟩:=HH.out.push hN0 (x:=⟨3,fr,0,0,0,false⟩) hS HAT.out HLT.out HAPP.out;have hs2:=HST.out.trans hst;change SC (w5.setCell ⟨I.p,13,none⟩ (.slice (some ⟨g5,0,none⟩) (cs.length+1) c5)) _ _ _ _ at hsc;change Stp _ _ _ (w5.setCell ⟨I.p,13,none⟩ (.slice (some ⟨g5,0,none⟩) (cs.length+1) c5)) at hs2;generalize w5.setCell ⟨I.p,13,none⟩ (.slice (some ⟨g5,0,none⟩) (cs.length+1) c5)=w6 at hsc hs2 ⊢;clear HH HB0 HST HQO hst HAPP HAT HLT HMB HGG hS;have HH:=lh hsc;have HST:=lh hs2;clear hsc hs2;go_wp2_with fail
        go_end0
        exact ⟨rfl,_,_,_,HRD.out,HH.out,HST.out⟩
end
structure Inv (σ:St) (N:Nat):Prop where
 wf:StWf σ
 hgt:HgtT σ.f σ.F
 cnt:Cnt σ N
 n:σ.n≤N
 hh : ∀ r x,σ.F r=some x→x.2.2 < N
theorem Inv.mono {σ:St} {N M:Nat} (h:Inv σ N) (hm:N≤M):Inv σ M:=by
 obtain ⟨h1,h2,⟨ks,h3,h3'⟩,h4,h5⟩:=h;exact ⟨h1,h2,⟨ks,by omega,h3'⟩,by omega,fun r x hx=>by have:=h5 r x hx;omega⟩
theorem filter_len (p:Int→Bool) : ∀ ks:List Int,(ks.filter p).length+(ks.filter fun r=>!p r).length=ks.length
 | []=>rfl
 | k :: ks=>by
  have ih:=filter_len p ks;cases h:p k
  ·rw [List.filter_cons_of_neg (by simp [h]),List.filter_cons_of_pos (by simp [h])];simp only [List.length_cons];omega
  ·rw [List.filter_cons_of_pos (by simp [h]),List.filter_cons_of_neg (by simp [h])];simp only [List.length_cons];omega
theorem HgtT.set {f:Int} {F:Int→Option (Int×Int×Int)} (H:HgtT f F) {r q s qq qs qh:Int} (hF:F q=some (qq,qs,qh)) (hn:F r=none):HgtT f (tset F r (q,s,qh+1)):=by
 have hqr:q≠r:=fun e=>by rw [e,hn] at hF;cases hF
 intro j y hy hj;unfold tset at hy ⊢;split at hy
 ·obtain rfl:=Option.some.inj hy;simp only;rw [if_neg hqr];exact ⟨_,hF,rfl⟩
 ·obtain ⟨z,hz,hlt⟩:=H j y hy hj;rw [if_neg (fun e=>by rw [e,hn] at hz;cases hz)];exact ⟨z,hz,hlt⟩
section
variable {σ σ':St} {cs cs':List Cg} {je jr fe fr:Int} {N:Nat}
theorem Inv.raiseJ (h:Inv σ N) (hj0:0≤je) (hj1:je≤1099511627776) (hjr:inU jr):Inv (raiseJ σ je jr) N:=by
 unfold Go.Proofs.YtndfpmboanohcaaGreatDoor.raiseJ;split
 ·obtain ⟨⟨a1,a2,a3,a4,a5,a6,a7,a8,a9,_,_,_,b4,b5,b6,b7⟩,h2,h3,h4,h5⟩:=h;exact ⟨⟨a1,a2,a3,a4,a5,a6,a7,a8,a9,hj0,hj1,hjr,b4,b5,b6,b7⟩,h2,h3,h4,h5⟩
 ·exact h
theorem Inv.cutS (h:Inv σ N) (hf0:0≤fe) (hf1:fe≤1099511627776) (hb:belowT σ.F σ.f fr σ.fr=true) {ks:List Int} (hR:Rising σ.F ks) (hl:ks.length≤σ.n):Inv (cutS σ ks fe fr) N:=by
 obtain ⟨x,y,_,hy,_⟩:=below_some hb;obtain ⟨h1,h2,h3,h4,h5⟩:=h;obtain ⟨w1,w2⟩:=h1.tree.cut h2 hy;have hfl:=filter_len (fun r=>belowT σ.F σ.f r fr) ks;have hgl:(goneL σ.F σ.f fr ks).length=(ks.filter fun r=>!belowT σ.F σ.f r fr).length:=rfl;have hmem : ∀ r,r∈goneL σ.F σ.f fr ks↔(r∈ks∧belowT σ.F σ.f r fr=false):=fun r=>by unfold goneL;simp
 have hks : ∀ r,(σ.F r).isSome=true→r∈ks:=fun r hr=>by
  obtain ⟨z,hz⟩:=Option.isSome_iff_exists.1 hr;exact (hR.2.2 r (h1.tree.key r z hz)).2 hr
 have hbs : ∀ r,belowT σ.F σ.f r fr=true→(σ.F r).isSome=true:=fun r hr=>by
  obtain ⟨_,z,_,hz,_⟩:=below_some hr;rw [hz];rfl
 refine ⟨⟨h1.may,w1,?_,?_,?_,?_,h1.s0,h1.s1,?_,h1.j0,h1.j1,h1.jr,hf0,hf1,h1.tree.key fr y hy,h1.vr⟩,w2,?_,?_,?_⟩
 ·show ks.length - _≤1024;have:=h1.n;omega
 ·refine ⟨ks.filter fun r=>belowT σ.F σ.f r fr,?_,fun k hk=>?_⟩
  ·show _≤ks.length - _;omega
  ·have hk2:(cutT σ.F σ.f fr k).isSome=true:=hk;rw [cutT_isSome] at hk2;exact List.mem_filter.2 ⟨hks k (hbs k hk2),hk2⟩
 ·intro r;show (lessL σ.L (goneL σ.F σ.f fr ks) r).isSome=(cutT σ.F σ.f fr r).isSome;rw [cutT_isSome];unfold lessL;by_cases hr:r∈goneL σ.F σ.f fr ks
  ·rw [if_pos hr,((hmem r).1 hr).2];rfl
  ·rw [if_neg hr,h1.led r];cases hbr:belowT σ.F σ.f r fr with
   | true=>exact hbs r hbr
   | false=>
    cases hs:(σ.F r).isSome with
    | false=>rfl
    | true=>exact absurd ((hmem r).2 ⟨hks r hs,hbr⟩) hr
 ·intro r x hx;have hx2:lessL σ.L (goneL σ.F σ.f fr ks) r=some x:=hx;unfold lessL at hx2;split at hx2
  ·cases hx2
  ·exact h1.ledbd r x hx2
 ·show inU (if (cutT σ.F σ.f fr σ.boosted).isSome then σ.boosted else 0);split
  ·exact h1.bo
  ·unfold inU;omega
 ·obtain ⟨kc,k1,k2⟩:=h3;refine ⟨kc,k1,fun r hr=>k2 r ?_⟩;rcases hr with hr | hr
  ·have hr2:(cutT σ.F σ.f fr r).isSome=true:=hr;rw [cutT_isSome] at hr2;exact .inl (hbs r hr2)
  ·rcases hr with hr | hr
   ·exact .inr hr
   ·have h5:=((hmem r).1 hr).1;exact .inl ((hR.2.2 r (hR.2.1 r h5)).1 h5)
 ·show ks.length - _≤N;omega
 ·intro r c hc;have hc2:cutT σ.F σ.f fr r=some c:=hc;obtain ⟨_,z,hz,e⟩:=cutT_some hc2;have h6:=h5 r z hz;have h7:=h1.tree.hgt fr y hy;rw [e];unfold cutN getT;rw [hy];simp only [Option.getD_some];omega
theorem Inv.klen (h:Inv σ N) {ks:List Int} (hR:Rising σ.F ks):ks.length≤σ.n:=by
 obtain ⟨k0,h1,h2⟩:=h.wf.ks;have hnd:ks.Nodup:=hR.1.imp (fun h=>by omega);exact Nat.le_trans (nodup_sub hnd (fun x hx=>h2 x ((hR.2.2 x (hR.2.1 x hx)).1 hx))) h1
theorem raiseJ_same (σ:St) (je jr:Int):(raiseJ σ je jr).F=σ.F∧(raiseJ σ je jr).f=σ.f∧(raiseJ σ je jr).bs=σ.bs∧(raiseJ σ je jr).S=σ.S∧(raiseJ σ je jr).B=σ.B∧(raiseJ σ je jr).slot=σ.slot∧(raiseJ σ je jr).fr=σ.fr∧(raiseJ σ je jr).n=σ.n:=by
 unfold raiseJ;split <;> exact ⟨rfl,rfl,rfl,rfl,rfl,rfl,rfl,rfl⟩
theorem Inv.raised (h:Inv σ N) (hr:Raised σ cs je jr fe fr σ' cs') (hj0:0≤je) (hj1:je≤1099511627776) (hjr:inU jr) (hf0:0≤fe) (hf1:fe≤1099511627776) :
  Inv σ' N∧σ'.bs=σ.bs∧σ'.S=σ.S∧σ'.B=σ.B∧σ'.slot=σ.slot∧σ'.n≤σ.n∧cs'.length≤cs.length+1:=by
 obtain ⟨e1,e2,e3,e4,e5,e6,e7,e8⟩:=raiseJ_same σ je jr;have hJ:=h.raiseJ (je:=je) (jr:=jr) hj0 hj1 hjr;unfold Raised at hr;split at hr
 ·rename_i hc
  obtain ⟨ks,hR,rfl,rfl⟩:=hr;have hb:belowT (Go.Proofs.YtndfpmboanohcaaGreatDoor.raiseJ σ je jr).F (Go.Proofs.YtndfpmboanohcaaGreatDoor.raiseJ σ je jr).f fr (Go.Proofs.YtndfpmboanohcaaGreatDoor.raiseJ σ je jr).fr=true:=by
   unfold raiseC at hc;cases hb:belowT (Go.Proofs.YtndfpmboanohcaaGreatDoor.raiseJ σ je jr).F (Go.Proofs.YtndfpmboanohcaaGreatDoor.raiseJ σ je jr).f fr (Go.Proofs.YtndfpmboanohcaaGreatDoor.raiseJ σ je jr).fr with
   | true=>rfl
   | false=>rw [hb] at hc;simp at hc
  have hl:=h.klen hR;have hR2:Rising (Go.Proofs.YtndfpmboanohcaaGreatDoor.raiseJ σ je jr).F ks:=by rw [e1];exact hR
  refine ⟨hJ.cutS hf0 hf1 hb hR2 (by rw [e8];exact hl),e3,e4,e5,e6,?_,by simp⟩;show ks.length - _≤σ.n;omega
 ·obtain ⟨rfl,rfl⟩:=hr;exact ⟨hJ,e3,e4,e5,e6,by omega,by omega⟩
end
end Go.Proofs.YtndfpmboanohcaaGreatDoor
